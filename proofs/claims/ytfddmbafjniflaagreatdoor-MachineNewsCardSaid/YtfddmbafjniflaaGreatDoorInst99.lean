/-
  Package code: an instruction that may not be.
-/
import Derived.Test.YtfddmbafjniflaaGreatDoorReader
namespace Go.Proofs.YtfddmbafjniflaaGreatDoor
open Go Go.RowKit
def bad3 : Value := .iface 143 (.agg #[num 3])
set_option maxRecDepth 100000 in
set_option maxHeartbeats 4000000 in
theorem inst99 (w : World) (R : List HP) (r sb : Nat) (a b c : Nat) (bs : List Value) (hx : bs[3]? = some (byt 99))
    (hS : Sw w (ptc r [.slice (some ⟨sb, 0, none⟩) 7 7, num 3] 147 :: ptc sb bs 5 :: R)) :
    Calls Tryz.prog 76 #[.pointer (some ⟨r, 0, none⟩), .agg #[num a, num b, num c]] w fun e w' => e = .panicked [{ v := bad3, recovered := false }] ∧ Sw w' (ptc sb bs 5 :: R) := by
  have h9 := (hS.allocc [num a, num b, num c] 149).allocc [.int .i64 0, .int .i64 0, .int .i64 0, .int .i64 0] 113
  have cr := (h9 |>.front 1 rfl |>.front 1 rfl |>.front 2 rfl).cell 1 rfl
  have h0 := h9.allocc [.int .i64 0, .int .i64 0, .int .i64 0, .int .i64 0] 235
  simp only [World.size_alloc] at h0
  have Hx := hid hx
  have H0 := hid h0
  clear h0 h9 hS hx
  go_enter Tryz.func76, Tryz.ntmps76
  go_wp2
  revert H0
  generalize World.alloc _ _ = w0
  intro H0
  have hI := H0.out
  have ne1 := (hI |>.front 4 rfl |>.front 3 rfl |>.front 3 rfl |>.front 3 rfl |>.front 4 rfl).ne
  have ne2 : ¬ w.heap.size + 1 + 1 = r := fun e => ne1 e.symm
  have hr := hI |>.front 4 rfl |>.front 3 rfl |>.front 3 rfl |>.front 3 rfl |>.front 4 rfl
  have c0 := hr.cell 0 rfl
  have c1 := hr.cell 1 rfl
  have f1 := hr.frozen 1
  have c2 := (hI |>.front 3 rfl |>.front 3 rfl |>.front 3 rfl |>.front 3 rfl |>.front 4 rfl).cell 3 Hx.out
  have c3 := hI.cell 0 rfl
  have c4 := hI.cell 1 rfl
  have c5 := hI.cell 2 rfl
  have c6 := hI.cell 3 rfl
  have f3 := hI.frozen 0
  have g0 := (hI |>.front 1 rfl |>.front 1 rfl |>.front 2 rfl).cell 0 rfl
  have g1 := (hI |>.front 1 rfl |>.front 1 rfl |>.front 2 rfl).cell 1 rfl
  have g2 := (hI |>.front 1 rfl |>.front 1 rfl |>.front 2 rfl).cell 2 rfl
  have ne3 := (hI |>.front 4 rfl |>.front 2 rfl |>.front 2 rfl |>.front 3 rfl |>.front 4 rfl).ne
  have lt3 := (hI |>.front 1 rfl |>.front 1 rfl |>.front 2 rfl).lt'
  have ne5 : ¬ w.heap.size = w0.heap.size := by omega
  have h5 := Sw.drew (Sw.drew ((((hI.set 0 (num 99)) |>.front 4 rfl |>.front 3 rfl |>.front 3 rfl |>.front 3 rfl |>.front 4 rfl).set 1 (num 4)).allocc [num 99, num 0, num 0, num 0] 113))
  have H5 := hid h5
  clear hI hr h5 cr
  refine wp_loop_rounds 1 ?_
  rw [rounds_succ]
  go_wp2_with (first | (go_at_call 134; refine (wrong99 _ a b c 0 0 0).mono ?_; rintro e w5 ⟨rfl, hb⟩; have h6 := H5.out.of_below (w' := w5) hb; have H6 := hid h6; clear h6 hb) | (with_reducible refine wp_region_seg mixed (by decide +kernel) ?_) | (refine seg_look (by rfl) (fun K hK => ?_); go_simp; refine hK _ ?_; clear hK K) | (refine seg_act (by rfl) (fun K hK => ?_); go_simp) | (refine seg_nil ?_))
  exact ⟨rfl, rfl, (H6.out |>.front 5 rfl |>.front 1 rfl |>.front 5 rfl |>.front 5 rfl |>.front 5 rfl |>.front 5 rfl).tail.tail.tail.tail.tail⟩
end Go.Proofs.YtfddmbafjniflaaGreatDoor
