/-
  Package machine: event.
-/
import Derived.Test.YtfddmbafjniflaaGreatDoorCode
namespace Go.Proofs.YtfddmbafjniflaaGreatDoor
open Go Go.RowKit
set_option maxRecDepth 100000 in
set_option maxHeartbeats 1000000 in
theorem event_any (k g : Int) (w : World) : Calls Tryz.prog 65 #[.int .i64 k, .int .i64 g] w fun e w' => e = .returned (.agg #[.int .i64 k, .int .i64 g, .int .i64 0]) ∧ Below w.heap.size w w' := by
  go_enter Tryz.func65, Tryz.ntmps65
  go_wp2
  exact bodyPost_ret (results_cell_row rfl _ _ w.heap.size 71 _ (0, 0) _ rfl (heap_alloc_new w _) Tryz.underlying71 rfl (by kernel_rfl)) rfl ⟨rfl, Below.alloc (Below.refl _ _) (Nat.le_refl _) _⟩
end Go.Proofs.YtfddmbafjniflaaGreatDoor
