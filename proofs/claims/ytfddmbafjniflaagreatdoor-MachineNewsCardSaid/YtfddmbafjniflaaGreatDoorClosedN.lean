/-
  MachineNews: the closed facts of its row.
-/
import Derived.Test.YtfddmbafjniflaaGreatDoorRows
import Derived.JoinedCond
import Derived.KernelRfl
namespace Go.Proofs.YtfddmbafjniflaaGreatDoor
open Go
theorem and_tt {a b : Bool} (ha : a = true) (hb : b = true) : (a && b) = true := by rw [ha, hb]; rfl
set_option maxRecDepth 100000 in
set_option maxHeartbeats 40000000 in
theorem closed : joinedFacts Tryz.pinned.checked.prog 3 Tryz.f3 (OpenSpec.ofChange Rows.machineNewsSpec).bare Rows.machineNewsRow = true := by
  unfold joinedFacts
  repeat' with_reducible refine and_tt ?_ ?_
  all_goals (as_aux_lemma => kernel_rfl)
end Go.Proofs.YtfddmbafjniflaaGreatDoor
