/-
  What the told run asks of conf, pacer, share.
-/
import Derived.Test.YtfddmbafjniflaaGreatDoorSmall
import Derived.Test.YtfddmbafjniflaaGreatDoorFix
namespace Go.Proofs.YtfddmbafjniflaaGreatDoor
open Go Go.RowKit
def conf0 : Value := .agg #[num 2, num 256, .float .f64 0, .float .f64 0]
set_option maxRecDepth 100000 in
set_option maxHeartbeats 1000000 in
theorem conf_may0 (w : World) : Calls Tryz.prog 22 #[conf0] w fun e w' => e = .returned (.bool true) ∧ Below w.heap.size w w' := by
  unfold conf0
  go_enter Tryz.func22, Tryz.ntmps22
  go_wp2
  go_ret
  exact ⟨rfl, Below.alloc (Below.refl _ _) (Nat.le_refl _) _⟩
set_option maxRecDepth 100000 in
set_option maxHeartbeats 1000000 in
theorem conf_part0 (w : World) : Calls Tryz.prog 24 #[.float .f64 0] w fun e w' => e = .returned (num 16384) ∧ w' = w := by
  go_enter Tryz.func24, Tryz.ntmps24
  go_wp2
  go_ret
  exact ⟨rfl, rfl⟩
set_option maxRecDepth 100000 in
set_option maxHeartbeats 1000000 in
theorem conf_percent0 (w : World) : Calls Tryz.prog 25 #[.float .f64 0] w fun e w' => e = .returned (.tuple #[num 0, .bool true]) ∧ w' = w := by
  have o1 : FloatKind.f64.format.order 0 0 = some .eq := by kernel_rfl
  have o2 : FloatKind.f64.format.order 0 9218868437227405311 = some .lt := by kernel_rfl
  have hmin : ∀ w, (Builtin.min_ #[22, 22] 22 #[.float .f64 0, .float .f64 4666723172467343360]).run Tryz.prog w = .ok (.float .f64 0) w := fun w => by kernel_rfl
  have hcv : ∀ w, (convert 22 3 (.float .f64 0)).run Tryz.prog w = .ok (.int .i64 0) w := fun w => by kernel_rfl
  have hfl : ∀ w, (callFunc 136 #[.float .f64 0]).run Tryz.prog w = .ok (.value (.float .f64 0)) w := fun w => by kernel_rfl
  go_enter Tryz.func25, Tryz.ntmps25
  go_wp2
  go_ret2
  exact ⟨rfl, rfl⟩
set_option maxRecDepth 100000 in
set_option maxHeartbeats 1000000 in
theorem ratio_bounds0 (w : World) : Calls Tryz.prog 143 #[num 4194304] w fun e w' => e = .returned (num 4194304) ∧ w' = w := by
  go_enter Tryz.func143, Tryz.ntmps143
  go_wp2
  go_ret
  exact ⟨rfl, rfl⟩
set_option maxRecDepth 100000 in
set_option maxHeartbeats 1000000 in
theorem bounds0 (w : World) : Calls Tryz.prog 247 #[num 2, num 16384] w fun e w' => e = .returned (.tuple #[num 2, num 16384]) ∧ w' = w := by
  go_enter Tryz.func247, Tryz.ntmps247
  go_wp2
  go_ret2
  exact ⟨rfl, rfl⟩
set_option maxRecDepth 100000 in
set_option maxHeartbeats 1000000 in
theorem few0 (n : Nat) (hn : n = 0 ∨ n = 1) (w : World) : Calls Tryz.prog 165 #[num n] w fun e w' => e = .returned (num n) ∧ w' = w := by
  rcases hn with rfl | rfl
  all_goals
    go_enter Tryz.func165, Tryz.ntmps165
    go_wp2
    go_ret
    exact ⟨rfl, rfl⟩
set_option maxRecDepth 100000 in
set_option maxHeartbeats 1000000 in
theorem ratio0 (m64 : Mul64Said) (w : World) : Calls Tryz.prog 85 #[num 0, num 48, num 64] w fun e w' => e = .returned (num 4194304) ∧ ∃ n, w' = w.drewN n := by
  have W := hid (whole_nat m64)
  have D := hid div_nat
  clear m64
  have Ad := hid (fun w => add_any 0 64 w ⟨by omega, by omega⟩ ⟨by omega, by omega⟩)
  have Su := hid (fun w => sub_any 64 48 w ⟨by omega, by omega⟩ ⟨by omega, by omega⟩)
  go_enter Tryz.func85, Tryz.ntmps85
  go_wp2_with (first | (go_at_call 141; refine (Ad.out _).mono ?_; rintro e w1 ⟨rfl, rfl⟩; simp only [sat]) | (go_at_call 142; refine (Su.out _).mono ?_; rintro e w1 ⟨rfl, rfl⟩; simp only [sat]) | (go_at_call 143; refine (ratio_bounds0 _).mono ?_; rintro e w1 ⟨rfl, rfl⟩) | (go_at_call 140; (first | refine (W.out 64 _ (by omega)).mono ?_ | refine (W.out 16 _ (by omega)).mono ?_); rintro e w1 ⟨rfl, rfl⟩) | (go_at_call 144; refine (D.out 67108864 16777216 _ (by omega) (by omega) (by omega) (by omega)).mono ?_; rintro e w1 ⟨rfl, n1, rfl⟩) | (with_reducible refine wp_region_segP mixed (by decide +kernel) ?_) | (apply segP_pure (by rfl) (by rfl); focus (intro w1; go_simp; first | exact rfl | exact ⟨rfl, rfl⟩)) | (apply segP_look (by rfl) (by rfl) (by rfl); focus (go_simp; first | exact rfl | exact ⟨rfl, rfl⟩)) | (apply segP_act (by rfl) (by rfl) (by rfl); focus (go_simp; first | exact rfl | exact ⟨rfl, rfl⟩)) | (apply segP_unit (by rfl) (by rfl) (by rfl); focus (go_simp; first | exact rfl | exact ⟨rfl, rfl⟩)) | (refine segP_nil ?_))
  go_ret
  exact ⟨rfl, _, rfl⟩
set_option maxRecDepth 100000 in
set_option maxHeartbeats 1000000 in
theorem begin0 (w : World) : Calls Tryz.prog 115 #[.agg #[num 48, num 64, num 4194304], num 0] w fun e w' => e = .returned (.bool false) ∧ Below w.heap.size w w' := by
  go_enter Tryz.func115, Tryz.ntmps115
  go_wp2
  go_ret
  exact ⟨rfl, Below.alloc (Below.refl _ _) (Nat.le_refl _) _⟩
set_option maxRecDepth 100000 in
set_option maxHeartbeats 1000000 in
theorem workers0 (m64 : Mul64Said) (w : World) : Calls Tryz.prog 164 #[num 2, num 16384] w fun e w' => e = .returned (.tuple #[num 0, num 16384]) ∧ ∃ n, w' = w.drewN n := by
  have W := hid (whole_nat m64)
  have D := hid div_nat
  clear m64
  have I := hid (int_any 32768)
  go_enter Tryz.func164, Tryz.ntmps164
  go_wp2_with (first | (go_at_call 247; refine (bounds0 _).mono ?_; rintro e w1 ⟨rfl, rfl⟩) | (go_at_call 248; refine (I.out _).mono ?_; rintro e w1 ⟨rfl, rfl⟩) | (go_at_call 140; (first | refine (W.out 0 _ (by omega)).mono ?_ | refine (W.out 2 _ (by omega)).mono ?_); rintro e w1 ⟨rfl, rfl⟩) | (go_at_call 144; refine (D.out 32768 2097152 _ (by omega) (by omega) (by omega) (by omega)).mono ?_; rintro e w1 ⟨rfl, n1, rfl⟩) | (with_reducible refine wp_region_segP mixed (by decide +kernel) ?_) | (apply segP_pure (by rfl) (by rfl); focus (intro w1; go_simp; first | exact rfl | exact ⟨rfl, rfl⟩)) | (apply segP_look (by rfl) (by rfl) (by rfl); focus (go_simp; first | exact rfl | exact ⟨rfl, rfl⟩)) | (apply segP_act (by rfl) (by rfl) (by rfl); focus (go_simp; first | exact rfl | exact ⟨rfl, rfl⟩)) | (apply segP_unit (by rfl) (by rfl) (by rfl); focus (go_simp; first | exact rfl | exact ⟨rfl, rfl⟩)) | (refine segP_nil ?_))
  go_ret2
  exact ⟨rfl, _, rfl⟩
set_option maxRecDepth 100000 in
set_option maxHeartbeats 1000000 in
theorem dedicated0 (m64 : Mul64Said) (w : World) : Calls Tryz.prog 111 #[num 0, num 2, num 16384] w fun e w' => e = .returned (.bool false) ∧ ∃ n, w' = w.drewN n := by
  have W := hid (workers0 m64)
  clear m64
  go_enter Tryz.func111, Tryz.ntmps111
  go_wp2_with (first | (go_at_call 164; refine (W.out _).mono ?_; rintro e w1 ⟨rfl, n1, rfl⟩) | (with_reducible refine wp_region_segP mixed (by decide +kernel) ?_) | (apply segP_pure (by rfl) (by rfl); focus (intro w1; go_simp; first | exact rfl | exact ⟨rfl, rfl⟩)) | (apply segP_look (by rfl) (by rfl) (by rfl); focus (go_simp; first | exact rfl | exact ⟨rfl, rfl⟩)) | (apply segP_act (by rfl) (by rfl) (by rfl); focus (go_simp; first | exact rfl | exact ⟨rfl, rfl⟩)) | (apply segP_unit (by rfl) (by rfl) (by rfl); focus (go_simp; first | exact rfl | exact ⟨rfl, rfl⟩)) | (refine segP_nil ?_))
  go_ret
  exact ⟨rfl, _, rfl⟩
set_option maxRecDepth 100000 in
set_option maxHeartbeats 1000000 in
theorem goal0 (m64 : Mul64Said) (w : World) : Calls Tryz.prog 33 #[num 0, num 256, num 0, .bool true] w fun e w' => e = .returned (.agg #[num 48, num 64, num 4194304]) ∧ Below w.heap.size w w' := by
  have W := hid (ratio0 m64)
  clear m64
  go_enter Tryz.func33, Tryz.ntmps33
  go_wp2_with (first | (go_at_call 85; refine (W.out _).mono ?_; rintro e w1 ⟨rfl, n1, rfl⟩) | (with_reducible refine wp_region_segP mixed (by decide +kernel) ?_) | (apply segP_pure (by rfl) (by rfl); focus (intro w1; go_simp; first | exact rfl | exact ⟨rfl, rfl⟩)) | (apply segP_look (by rfl) (by rfl) (by rfl); focus (go_simp; first | exact rfl | exact ⟨rfl, rfl⟩)) | (apply segP_act (by rfl) (by rfl) (by rfl); focus (go_simp; first | exact rfl | exact ⟨rfl, rfl⟩)) | (apply segP_unit (by rfl) (by rfl) (by rfl); focus (go_simp; first | exact rfl | exact ⟨rfl, rfl⟩)) | (refine segP_nil ?_))
  have h := ((Sw.drewN n1 ((Sw.old w).allocc [num 0, num 0, num 0] 66)).set 0 (num 48)).set 1 (num 64) |>.set 2 (num 4194304)
  exact bodyPost_ret (results_cell_row rfl _ _ w.heap.size 66 #[num 48, num 64, num 4194304] (0, 0) _ rfl h.row Tryz.underlying66 rfl (by kernel_rfl)) rfl ⟨rfl, h.tail.below⟩
set_option maxRecDepth 100000 in
set_option maxHeartbeats 1000000 in
theorem share_may0 (m64 : Mul64Said) (w : World) : Calls Tryz.prog 112 #[num 0, num 1, num 16384] w fun e w' => e = .returned (.bool false) ∧ w' = w := by
  have W := hid (whole_nat m64)
  have M := hid (fun w => mul_nat 2097152 16384 w (by omega) (by omega) (by omega) (fun w => m64 _ _ w (by omega) (by omega)))
  clear m64
  go_enter Tryz.func112, Tryz.ntmps112
  go_wp2_with (first | (go_at_call 165; (first | refine (few0 0 (by omega) _).mono ?_ | refine (few0 1 (by omega) _).mono ?_); rintro e w1 ⟨rfl, rfl⟩) | (go_at_call 140; (first | refine (W.out 2 _ (by omega)).mono ?_ | refine (W.out 1 _ (by omega)).mono ?_); rintro e w1 ⟨rfl, rfl⟩) | (go_at_call 166; refine (M.out _).mono ?_; rintro e w1 ⟨rfl, rfl⟩) | (with_reducible refine wp_region_segP mixed (by decide +kernel) ?_) | (apply segP_pure (by rfl) (by rfl); focus (intro w1; go_simp; first | exact rfl | exact ⟨rfl, rfl⟩)) | (apply segP_look (by rfl) (by rfl) (by rfl); focus (go_simp; first | exact rfl | exact ⟨rfl, rfl⟩)) | (apply segP_act (by rfl) (by rfl) (by rfl); focus (go_simp; first | exact rfl | exact ⟨rfl, rfl⟩)) | (apply segP_unit (by rfl) (by rfl) (by rfl); focus (go_simp; first | exact rfl | exact ⟨rfl, rfl⟩)) | (refine segP_nil ?_))
  go_ret
  exact ⟨rfl, rfl⟩
end Go.Proofs.YtfddmbafjniflaaGreatDoor
