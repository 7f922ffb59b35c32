/-
  Package machine: what a machine that is none tells: the rest.
-/
import Derived.Test.YtnpeaedjkkdfaaaGreatDoorNil
import Derived.Test.YtnpeaedjkkdfaaaGreatDoorClass
namespace Go.Proofs.YtnpeaedjkkdfaaaGreatDoor
open Go Go.RowKit
set_option maxRecDepth 100000 in
set_option maxHeartbeats 1000000 in
theorem nil_step (p v t : Int) (pr : Bool) (w : World) : Calls Tryz.prog 8 #[nilM, .agg #[.int .i64 p, .int .i64 v, .bool pr, .int .i64 t]] w fun e w' => e = .returned (.agg #[.int .i64 0, .int .i64 (-1), .int .i64 0]) ∧ Below w.heap.size w w' := by
  have h0 := ((Sw.old w).allocc [.int .i64 p, .int .i64 v, .bool pr, .int .i64 t] 23).allocc [.int .i64 0, .int .i64 0, .int .i64 0] 39
  simp only [World.size_alloc] at h0
  have H0 := hid h0
  clear h0
  go_enter Tryz.func8, Tryz.ntmps8
  go_wp2_with (first | (go_at_call 32; refine (nil_has _ _).mono ?_; rintro e w1 ⟨rfl, rfl⟩) | (go_at_call 33; refine (event_any _ _ _).mono ?_; rintro e w2 ⟨rfl, hb⟩; have h2 := H0.out.of_below (w' := w2) hb; have c0 := h2.cell 0 rfl; have c1 := h2.cell 1 rfl; have c2 := h2.cell 2 rfl; have f0 := h2.frozen 0; have f1 := h2.frozen 1; have f2 := h2.frozen 2; have H2 := hid h2; clear h2 hb) | (with_reducible refine wp_region_segP mixed (by decide +kernel) ?_) | (apply segP_pure (by rfl) (by rfl); focus (intro w1; go_simp; first | exact rfl | exact ⟨rfl, rfl⟩)) | (apply segP_look (by rfl) (by rfl) (by rfl); focus (go_simp; first | exact rfl | exact ⟨rfl, rfl⟩)) | (apply segP_act (by rfl) (by rfl) (by rfl); focus (go_simp; first | exact rfl | exact ⟨rfl, rfl⟩)) | (apply segP_unit (by rfl) (by rfl) (by rfl); focus (go_simp; first | exact rfl | exact ⟨rfl, rfl⟩)) | (refine segP_nil ?_))
  have h3 := ((H2.out.set 0 (.int .i64 0)).set 1 (.int .i64 (-1))).set 2 (.int .i64 0)
  exact bodyPost_ret (results_cell_row rfl _ _ (w.heap.size + 1) 39 #[.int .i64 0, .int .i64 (-1), .int .i64 0] (0, 0) _ rfl h3.row Tryz.underlying39 rfl (by kernel_rfl)) rfl ⟨rfl, h3.tail.tail.below⟩
set_option maxRecDepth 100000 in
set_option maxHeartbeats 1000000 in
theorem nil_arena_room (k : Int) (w : World) : Calls Tryz.prog 44 #[.pointer none, .int .i64 k] w fun e w' => e = .returned (.int .i64 0) ∧ w' = w := by
  go_enter Tryz.func44, Tryz.ntmps44
  go_wp2_with (first | (with_reducible refine wp_region_segP mixed (by decide +kernel) ?_) | (apply segP_pure (by rfl) (by rfl); focus (intro w1; go_simp; first | exact rfl | exact ⟨rfl, rfl⟩)) | (apply segP_look (by rfl) (by rfl) (by rfl); focus (go_simp; first | exact rfl | exact ⟨rfl, rfl⟩)) | (apply segP_act (by rfl) (by rfl) (by rfl); focus (go_simp; first | exact rfl | exact ⟨rfl, rfl⟩)) | (apply segP_unit (by rfl) (by rfl) (by rfl); focus (go_simp; first | exact rfl | exact ⟨rfl, rfl⟩)) | (refine segP_nil ?_))
  go_ret
  exact ⟨rfl, rfl⟩
set_option maxRecDepth 100000 in
set_option maxHeartbeats 1000000 in
theorem nil_room (g : Int) (hg : inI g) (w : World) : Calls Tryz.prog 12 #[nilM, .int .i64 g] w fun e w' => e = .returned (.int .i64 0) ∧ Below w.heap.size w w' := by
  have H := hid (of_class g)
  have Hg := hid hg
  clear hg
  go_enter Tryz.func12, Tryz.ntmps12
  go_wp2_with (first | (go_at_call 42; refine (nil_arena _).mono ?_; rintro e w1 ⟨rfl, rfl⟩) | (go_at_call 45; refine (H.out _ Hg.out).mono ?_; rintro e w1 ⟨rfl, hb⟩) | (go_at_call 44; refine (nil_arena_room _ _).mono ?_; rintro e w2 ⟨rfl, rfl⟩) | (with_reducible refine wp_region_segP mixed (by decide +kernel) ?_) | (apply segP_pure (by rfl) (by rfl); focus (intro w1; go_simp; first | exact rfl | exact ⟨rfl, rfl⟩)) | (apply segP_look (by rfl) (by rfl) (by rfl); focus (go_simp; first | exact rfl | exact ⟨rfl, rfl⟩)) | (apply segP_act (by rfl) (by rfl) (by rfl); focus (go_simp; first | exact rfl | exact ⟨rfl, rfl⟩)) | (apply segP_unit (by rfl) (by rfl) (by rfl); focus (go_simp; first | exact rfl | exact ⟨rfl, rfl⟩)) | (refine segP_nil ?_))
  go_ret
  exact ⟨rfl, hb⟩
end Go.Proofs.YtnpeaedjkkdfaaaGreatDoor
