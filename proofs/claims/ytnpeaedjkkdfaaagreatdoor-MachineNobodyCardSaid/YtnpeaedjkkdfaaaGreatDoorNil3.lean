/-
  Package machine: what a machine that is none tells: Commit.
-/
import Derived.Test.YtnpeaedjkkdfaaaGreatDoorNil2
import Derived.Laws.ResultCell
namespace Go.Proofs.YtnpeaedjkkdfaaaGreatDoor
open Go Go.RowKit
set_option maxRecDepth 100000 in
set_option maxHeartbeats 1000000 in
theorem nil_commit (i : Int) (w : World) : Calls Tryz.prog 6 #[nilM, .int .i64 i] w fun e w' => e = .returned (.tuple #[.agg #[.int .i64 0, .int .i64 0, .int .i64 0, .int .i64 0, .int .i64 0, .bool false], .bool false]) ∧ Below w.heap.size w w' := by
  have hlv := run_loadVar_row (P := Tryz.prog) (w.alloc (.cells #[.int .i64 0, .int .i64 0, .int .i64 0, .int .i64 0, .int .i64 0, .bool false] 34)) w.heap.size 34 34 _ (0, 0) _ (heap_alloc_new w _) Tryz.underlying34 rfl (by kernel_rfl)
  have hb : Below w.heap.size w (w.alloc (.cells #[.int .i64 0, .int .i64 0, .int .i64 0, .int .i64 0, .int .i64 0, .bool false] 34)) := Below.alloc (Below.refl _ _) (Nat.le_refl _) _
  have Hlv := hid hlv
  have Hb := hid hb
  clear hlv hb
  go_enter Tryz.func6, Tryz.ntmps6
  go_wp2_with (first | (go_at_call 9; refine (nil_commits _).mono ?_; rintro e w1 ⟨rfl, rfl⟩) | (with_reducible refine wp_region_segP mixed (by decide +kernel) ?_) | (apply segP_pure (by rfl) (by rfl); focus (intro w1; go_simp; first | exact rfl | exact ⟨rfl, rfl⟩)) | (apply segP_look (by rfl) (by rfl) (by rfl); focus (go_simp; first | exact rfl | exact ⟨rfl, rfl⟩)) | (apply segP_act (by rfl) (by rfl) (by rfl); focus (go_simp; first | exact rfl | exact ⟨rfl, rfl⟩)) | (apply segP_unit (by rfl) (by rfl) (by rfl); focus (go_simp; first | exact rfl | exact ⟨rfl, rfl⟩)) | (refine segP_nil ?_))
  all_goals
    refine bodyPost_ret (v := .tuple #[.agg #[.int .i64 0, .int .i64 0, .int .i64 0, .int .i64 0, .int .i64 0, .bool false], .bool false]) ?_ rfl ⟨rfl, Hb.out⟩
    rw [results_cell_tmp rfl]
    simp [asAddr, Hlv.out]
end Go.Proofs.YtnpeaedjkkdfaaaGreatDoor
