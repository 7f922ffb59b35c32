/-
  Package machine: what a machine that is none tells.
-/
import Derived.Test.YtnpeaedjkkdfaaaGreatDoorCode
namespace Go.Proofs.YtnpeaedjkkdfaaaGreatDoor
open Go Go.RowKit
abbrev nilM : Value := .pointer none
set_option maxRecDepth 100000 in
set_option maxHeartbeats 1000000 in
theorem nil_commits (w : World) : Calls Tryz.prog 9 #[nilM] w fun e w' => e = .returned (.int .i64 0) ∧ w' = w := by
  go_enter Tryz.func9, Tryz.ntmps9
  go_wp2
  go_ret
  exact ⟨rfl, rfl⟩
set_option maxRecDepth 100000 in
set_option maxHeartbeats 1000000 in
theorem nil_freed (w : World) : Calls Tryz.prog 10 #[nilM] w fun e w' => e = .returned (.slice none 0 0) ∧ w' = w := by
  go_enter Tryz.func10, Tryz.ntmps10
  go_wp2
  go_ret
  exact ⟨rfl, rfl⟩
set_option maxRecDepth 100000 in
set_option maxHeartbeats 1000000 in
theorem nil_steps (w : World) : Calls Tryz.prog 13 #[nilM] w fun e w' => e = .returned (.int .i64 0) ∧ w' = w := by
  go_enter Tryz.func13, Tryz.ntmps13
  go_wp2
  go_ret
  exact ⟨rfl, rfl⟩
set_option maxRecDepth 100000 in
set_option maxHeartbeats 1000000 in
theorem nil_phase (w : World) : Calls Tryz.prog 28 #[nilM] w fun e w' => e = .returned (.int .i64 0) ∧ w' = w := by
  go_enter Tryz.func28, Tryz.ntmps28
  go_wp2
  go_ret
  exact ⟨rfl, rfl⟩
set_option maxRecDepth 100000 in
set_option maxHeartbeats 1000000 in
theorem nil_credit (g : Int) (w : World) : Calls Tryz.prog 5 #[nilM, .int .i64 g] w fun e w' => e = .returned (.tuple #[.int .i64 0, .int .i64 0]) ∧ w' = w := by
  go_enter Tryz.func5, Tryz.ntmps5
  go_wp2_with (first | (go_at_call 28; refine (nil_phase _).mono ?_; rintro e w1 ⟨rfl, rfl⟩))
  go_ret2
  exact ⟨rfl, rfl⟩
set_option maxRecDepth 100000 in
set_option maxHeartbeats 1000000 in
theorem nil_arena (w : World) : Calls Tryz.prog 42 #[nilM] w fun e w' => e = .returned (.pointer none) ∧ w' = w := by
  go_enter Tryz.func42, Tryz.ntmps42
  go_wp2
  go_ret
  exact ⟨rfl, rfl⟩
set_option maxRecDepth 100000 in
set_option maxHeartbeats 1000000 in
theorem nil_live (w : World) : Calls Tryz.prog 11 #[nilM] w fun e w' => e = .returned (.int .i64 0) ∧ w' = w := by
  go_enter Tryz.func11, Tryz.ntmps11
  go_wp2
  go_ret
  exact ⟨rfl, rfl⟩
set_option maxRecDepth 100000 in
set_option maxHeartbeats 1000000 in
theorem nil_has (p : Int) (w : World) : Calls Tryz.prog 32 #[nilM, .int .i64 p] w fun e w' => e = .returned (.bool false) ∧ w' = w := by
  go_enter Tryz.func32, Tryz.ntmps32
  go_wp2
  go_ret
  exact ⟨rfl, rfl⟩
set_option maxRecDepth 100000 in
set_option maxHeartbeats 1000000 in
theorem nil_enabled (p : Int) (w : World) : Calls Tryz.prog 14 #[nilM, .int .i64 p] w fun e w' => e = .returned (.bool false) ∧ w' = w := by
  go_enter Tryz.func14, Tryz.ntmps14
  go_wp2_with (first | (go_at_call 32; refine (nil_has _ _).mono ?_; rintro e w1 ⟨rfl, rfl⟩) | (with_reducible refine wp_region_segP mixed (by decide +kernel) ?_) | (apply segP_pure (by rfl) (by rfl); focus (intro w1; go_simp; first | exact rfl | exact ⟨rfl, rfl⟩)) | (apply segP_look (by rfl) (by rfl) (by rfl); focus (go_simp; first | exact rfl | exact ⟨rfl, rfl⟩)) | (apply segP_act (by rfl) (by rfl) (by rfl); focus (go_simp; first | exact rfl | exact ⟨rfl, rfl⟩)) | (apply segP_unit (by rfl) (by rfl) (by rfl); focus (go_simp; first | exact rfl | exact ⟨rfl, rfl⟩)) | (refine segP_nil ?_))
  go_ret
  exact ⟨rfl, rfl⟩
set_option maxRecDepth 100000 in
set_option maxHeartbeats 1000000 in
theorem nil_goal (w : World) : Calls Tryz.prog 15 #[nilM] w fun e w' => e = .returned (.agg #[.int .i64 0, .int .i64 0, .int .i64 0]) ∧ Below w.heap.size w w' := by
  go_enter Tryz.func15, Tryz.ntmps15
  go_wp2
  exact bodyPost_ret (results_cell_row rfl _ _ w.heap.size 46 _ (0, 0) _ rfl (heap_alloc_new w _) Tryz.underlying46 rfl (by kernel_rfl)) rfl ⟨rfl, Below.alloc (Below.refl _ _) (Nat.le_refl _) _⟩
set_option maxRecDepth 100000 in
set_option maxHeartbeats 1000000 in
theorem nil_view (w : World) : Calls Tryz.prog 4 #[nilM] w fun e w' => e = .returned (.agg #[.int .i64 0, .int .i64 0, .int .i64 0, .slice none 0 0, .slice none 0 0, .slice none 0 0, .int .i64 0, .int .i64 0, .int .i64 0]) ∧ Below w.heap.size w w' := by
  go_enter Tryz.func4, Tryz.ntmps4
  go_wp2
  exact bodyPost_ret (results_cell_row rfl _ _ w.heap.size 29 _ (0, 0) _ rfl (heap_alloc_new w _) Tryz.underlying29 rfl (by kernel_rfl)) rfl ⟨rfl, Below.alloc (Below.refl _ _) (Nat.le_refl _) _⟩
set_option maxRecDepth 100000 in
set_option maxHeartbeats 1000000 in
theorem event_any (k g : Int) (w : World) : Calls Tryz.prog 33 #[.int .i64 k, .int .i64 g] w fun e w' => e = .returned (.agg #[.int .i64 k, .int .i64 g, .int .i64 0]) ∧ Below w.heap.size w w' := by
  go_enter Tryz.func33, Tryz.ntmps33
  go_wp2
  exact bodyPost_ret (results_cell_row rfl _ _ w.heap.size 39 _ (0, 0) _ rfl (heap_alloc_new w _) Tryz.underlying39 rfl (by kernel_rfl)) rfl ⟨rfl, Below.alloc (Below.refl _ _) (Nat.le_refl _) _⟩
end Go.Proofs.YtnpeaedjkkdfaaaGreatDoor
