/-
  What the told run asks of conf, pacer, share.
-/
import Derived.Test.YtnpeaedjkkdfaaaGreatDoorSmall
import Derived.Test.YtnpeaedjkkdfaaaGreatDoorFix
namespace Go.Proofs.YtnpeaedjkkdfaaaGreatDoor
open Go Go.RowKit
def conf0 : Value := .agg #[num 2, num 256, .float .f64 0, .float .f64 0]
set_option maxRecDepth 100000 in
set_option maxHeartbeats 1000000 in
theorem conf_may0 (w : World) : Calls Tryz.prog 60 #[conf0] w fun e w' => e = .returned (.bool true) ∧ Below w.heap.size w w' := by
  unfold conf0
  go_enter Tryz.func60, Tryz.ntmps60
  go_wp2
  go_ret
  exact ⟨rfl, Below.alloc (Below.refl _ _) (Nat.le_refl _) _⟩
set_option maxRecDepth 100000 in
set_option maxHeartbeats 1000000 in
theorem conf_part0 (w : World) : Calls Tryz.prog 62 #[.float .f64 0] w fun e w' => e = .returned (num 16384) ∧ w' = w := by
  go_enter Tryz.func62, Tryz.ntmps62
  go_wp2
  go_ret
  exact ⟨rfl, rfl⟩
set_option maxRecDepth 100000 in
set_option maxHeartbeats 1000000 in
theorem conf_percent0 (w : World) : Calls Tryz.prog 63 #[.float .f64 0] w fun e w' => e = .returned (.tuple #[num 0, .bool true]) ∧ w' = w := by
  have o1 : FloatKind.f64.format.order 0 0 = some .eq := by kernel_rfl
  have o2 : FloatKind.f64.format.order 0 9218868437227405311 = some .lt := by kernel_rfl
  have hmin : ∀ w, (Builtin.min_ #[87, 87] 87 #[.float .f64 0, .float .f64 4666723172467343360]).run Tryz.prog w = .ok (.float .f64 0) w := fun w => by kernel_rfl
  have hcv : ∀ w, (convert 87 3 (.float .f64 0)).run Tryz.prog w = .ok (.int .i64 0) w := fun w => by kernel_rfl
  have hfl : ∀ w, (callFunc 205 #[.float .f64 0]).run Tryz.prog w = .ok (.value (.float .f64 0)) w := fun w => by kernel_rfl
  go_enter Tryz.func63, Tryz.ntmps63
  go_wp2
  go_ret2
  exact ⟨rfl, rfl⟩
set_option maxRecDepth 100000 in
set_option maxHeartbeats 1000000 in
theorem ratio_bounds0 (w : World) : Calls Tryz.prog 209 #[num 4194304] w fun e w' => e = .returned (num 4194304) ∧ w' = w := by
  go_enter Tryz.func209, Tryz.ntmps209
  go_wp2
  go_ret
  exact ⟨rfl, rfl⟩
set_option maxRecDepth 100000 in
set_option maxHeartbeats 1000000 in
theorem bounds0 (w : World) : Calls Tryz.prog 215 #[num 2, num 16384] w fun e w' => e = .returned (.tuple #[num 2, num 16384]) ∧ w' = w := by
  go_enter Tryz.func215, Tryz.ntmps215
  go_wp2
  go_ret2
  exact ⟨rfl, rfl⟩
set_option maxRecDepth 100000 in
set_option maxHeartbeats 1000000 in
theorem few0 (n : Nat) (hn : n = 0 ∨ n = 1) (w : World) : Calls Tryz.prog 134 #[num n] w fun e w' => e = .returned (num n) ∧ w' = w := by
  rcases hn with rfl | rfl
  all_goals
    go_enter Tryz.func134, Tryz.ntmps134
    go_wp2
    go_ret
    exact ⟨rfl, rfl⟩
set_option maxRecDepth 100000 in
set_option maxHeartbeats 1000000 in
theorem ratio0 (m64 : Mul64Said) (w : World) : Calls Tryz.prog 127 #[num 0, num 48, num 64] w fun e w' => e = .returned (num 4194304) ∧ ∃ n, w' = w.drewN n := by
  have W := hid (whole_nat m64)
  have D := hid div_nat
  clear m64
  have Ad := hid (fun w => add_any 0 64 w ⟨by omega, by omega⟩ ⟨by omega, by omega⟩)
  have Su := hid (fun w => sub_any 64 48 w ⟨by omega, by omega⟩ ⟨by omega, by omega⟩)
  go_enter Tryz.func127, Tryz.ntmps127
  go_wp2_with (first | (go_at_call 197; refine (Ad.out _).mono ?_; rintro e w1 ⟨rfl, rfl⟩; simp only [sat]) | (go_at_call 208; refine (Su.out _).mono ?_; rintro e w1 ⟨rfl, rfl⟩; simp only [sat]) | (go_at_call 209; refine (ratio_bounds0 _).mono ?_; rintro e w1 ⟨rfl, rfl⟩) | (go_at_call 136; (first | refine (W.out 64 _ (by omega)).mono ?_ | refine (W.out 16 _ (by omega)).mono ?_); rintro e w1 ⟨rfl, rfl⟩) | (go_at_call 210; refine (D.out 67108864 16777216 _ (by omega) (by omega) (by omega) (by omega)).mono ?_; rintro e w1 ⟨rfl, n1, rfl⟩) | (with_reducible refine wp_region_segP mixed (by decide +kernel) ?_) | (apply segP_pure (by rfl) (by rfl); focus (intro w1; go_simp; first | exact rfl | exact ⟨rfl, rfl⟩)) | (apply segP_look (by rfl) (by rfl) (by rfl); focus (go_simp; first | exact rfl | exact ⟨rfl, rfl⟩)) | (apply segP_act (by rfl) (by rfl) (by rfl); focus (go_simp; first | exact rfl | exact ⟨rfl, rfl⟩)) | (apply segP_unit (by rfl) (by rfl) (by rfl); focus (go_simp; first | exact rfl | exact ⟨rfl, rfl⟩)) | (refine segP_nil ?_))
  go_ret
  exact ⟨rfl, _, rfl⟩
set_option maxRecDepth 100000 in
set_option maxHeartbeats 1000000 in
theorem begin0 (w : World) : Calls Tryz.prog 84 #[.agg #[num 48, num 64, num 4194304], num 0] w fun e w' => e = .returned (.bool false) ∧ Below w.heap.size w w' := by
  go_enter Tryz.func84, Tryz.ntmps84
  go_wp2
  go_ret
  exact ⟨rfl, Below.alloc (Below.refl _ _) (Nat.le_refl _) _⟩
set_option maxRecDepth 100000 in
set_option maxHeartbeats 1000000 in
theorem workers0 (m64 : Mul64Said) (w : World) : Calls Tryz.prog 133 #[num 2, num 16384] w fun e w' => e = .returned (.tuple #[num 0, num 16384]) ∧ ∃ n, w' = w.drewN n := by
  have W := hid (whole_nat m64)
  have D := hid div_nat
  clear m64
  have I := hid (int_any 32768)
  go_enter Tryz.func133, Tryz.ntmps133
  go_wp2_with (first | (go_at_call 215; refine (bounds0 _).mono ?_; rintro e w1 ⟨rfl, rfl⟩) | (go_at_call 216; refine (I.out _).mono ?_; rintro e w1 ⟨rfl, rfl⟩) | (go_at_call 136; (first | refine (W.out 0 _ (by omega)).mono ?_ | refine (W.out 2 _ (by omega)).mono ?_); rintro e w1 ⟨rfl, rfl⟩) | (go_at_call 210; refine (D.out 32768 2097152 _ (by omega) (by omega) (by omega) (by omega)).mono ?_; rintro e w1 ⟨rfl, n1, rfl⟩) | (with_reducible refine wp_region_segP mixed (by decide +kernel) ?_) | (apply segP_pure (by rfl) (by rfl); focus (intro w1; go_simp; first | exact rfl | exact ⟨rfl, rfl⟩)) | (apply segP_look (by rfl) (by rfl) (by rfl); focus (go_simp; first | exact rfl | exact ⟨rfl, rfl⟩)) | (apply segP_act (by rfl) (by rfl) (by rfl); focus (go_simp; first | exact rfl | exact ⟨rfl, rfl⟩)) | (apply segP_unit (by rfl) (by rfl) (by rfl); focus (go_simp; first | exact rfl | exact ⟨rfl, rfl⟩)) | (refine segP_nil ?_))
  go_ret2
  exact ⟨rfl, _, rfl⟩
set_option maxRecDepth 100000 in
set_option maxHeartbeats 1000000 in
theorem dedicated0 (m64 : Mul64Said) (w : World) : Calls Tryz.prog 81 #[num 0, num 2, num 16384] w fun e w' => e = .returned (.bool false) ∧ ∃ n, w' = w.drewN n := by
  have W := hid (workers0 m64)
  clear m64
  go_enter Tryz.func81, Tryz.ntmps81
  go_wp2_with (first | (go_at_call 133; refine (W.out _).mono ?_; rintro e w1 ⟨rfl, n1, rfl⟩) | (with_reducible refine wp_region_segP mixed (by decide +kernel) ?_) | (apply segP_pure (by rfl) (by rfl); focus (intro w1; go_simp; first | exact rfl | exact ⟨rfl, rfl⟩)) | (apply segP_look (by rfl) (by rfl) (by rfl); focus (go_simp; first | exact rfl | exact ⟨rfl, rfl⟩)) | (apply segP_act (by rfl) (by rfl) (by rfl); focus (go_simp; first | exact rfl | exact ⟨rfl, rfl⟩)) | (apply segP_unit (by rfl) (by rfl) (by rfl); focus (go_simp; first | exact rfl | exact ⟨rfl, rfl⟩)) | (refine segP_nil ?_))
  go_ret
  exact ⟨rfl, _, rfl⟩
set_option maxRecDepth 100000 in
set_option maxHeartbeats 1000000 in
theorem goal0 (m64 : Mul64Said) (w : World) : Calls Tryz.prog 71 #[num 0, num 256, num 0, .bool true] w fun e w' => e = .returned (.agg #[num 48, num 64, num 4194304]) ∧ Below w.heap.size w w' := by
  have W := hid (ratio0 m64)
  clear m64
  go_enter Tryz.func71, Tryz.ntmps71
  go_wp2_with (first | (go_at_call 127; refine (W.out _).mono ?_; rintro e w1 ⟨rfl, n1, rfl⟩) | (with_reducible refine wp_region_segP mixed (by decide +kernel) ?_) | (apply segP_pure (by rfl) (by rfl); focus (intro w1; go_simp; first | exact rfl | exact ⟨rfl, rfl⟩)) | (apply segP_look (by rfl) (by rfl) (by rfl); focus (go_simp; first | exact rfl | exact ⟨rfl, rfl⟩)) | (apply segP_act (by rfl) (by rfl) (by rfl); focus (go_simp; first | exact rfl | exact ⟨rfl, rfl⟩)) | (apply segP_unit (by rfl) (by rfl) (by rfl); focus (go_simp; first | exact rfl | exact ⟨rfl, rfl⟩)) | (refine segP_nil ?_))
  have h := ((Sw.drewN n1 ((Sw.old w).allocc [num 0, num 0, num 0] 46)).set 0 (num 48)).set 1 (num 64) |>.set 2 (num 4194304)
  exact bodyPost_ret (results_cell_row rfl _ _ w.heap.size 46 #[num 48, num 64, num 4194304] (0, 0) _ rfl h.row Tryz.underlying46 rfl (by kernel_rfl)) rfl ⟨rfl, h.tail.below⟩
set_option maxRecDepth 100000 in
set_option maxHeartbeats 1000000 in
theorem share_may0 (m64 : Mul64Said) (w : World) : Calls Tryz.prog 82 #[num 0, num 1, num 16384] w fun e w' => e = .returned (.bool false) ∧ w' = w := by
  have W := hid (whole_nat m64)
  have M := hid (fun w => mul_nat 2097152 16384 w (by omega) (by omega) (by omega) (fun w => m64 _ _ w (by omega) (by omega)))
  clear m64
  go_enter Tryz.func82, Tryz.ntmps82
  go_wp2_with (first | (go_at_call 134; (first | refine (few0 0 (by omega) _).mono ?_ | refine (few0 1 (by omega) _).mono ?_); rintro e w1 ⟨rfl, rfl⟩) | (go_at_call 136; (first | refine (W.out 2 _ (by omega)).mono ?_ | refine (W.out 1 _ (by omega)).mono ?_); rintro e w1 ⟨rfl, rfl⟩) | (go_at_call 135; refine (M.out _).mono ?_; rintro e w1 ⟨rfl, rfl⟩) | (with_reducible refine wp_region_segP mixed (by decide +kernel) ?_) | (apply segP_pure (by rfl) (by rfl); focus (intro w1; go_simp; first | exact rfl | exact ⟨rfl, rfl⟩)) | (apply segP_look (by rfl) (by rfl) (by rfl); focus (go_simp; first | exact rfl | exact ⟨rfl, rfl⟩)) | (apply segP_act (by rfl) (by rfl) (by rfl); focus (go_simp; first | exact rfl | exact ⟨rfl, rfl⟩)) | (apply segP_unit (by rfl) (by rfl) (by rfl); focus (go_simp; first | exact rfl | exact ⟨rfl, rfl⟩)) | (refine segP_nil ?_))
  go_ret
  exact ⟨rfl, rfl⟩
end Go.Proofs.YtnpeaedjkkdfaaaGreatDoor
