/-
  Package code: the reader.
-/
import Derived.Test.YtfddmbafjniflaaGreatDoorWrong
namespace Go.Proofs.YtfddmbafjniflaaGreatDoor
open Go Go.RowKit
abbrev byt (n : Nat) : Value := .int .u8 n
-- One byte that may be.
set_option maxRecDepth 100000 in
set_option maxHeartbeats 1000000 in
theorem next_ok (w : World) (R : List HP) (r sb at_ n x least most : Nat) (bs : List Value) (hat : at_ < n) (hn : n ≤ 1000) (hx : bs[at_]? = some (byt x)) (h1 : least ≤ x) (h2 : x ≤ most) (hx2 : x < 256)
    (hS : Sw w (ptc r [.slice (some ⟨sb, 0, none⟩) n n, num at_] 147 :: ptc sb bs 5 :: R)) :
    Calls Tryz.prog 75 #[.pointer (some ⟨r, 0, none⟩), num least, num most] w fun e w' => e = .returned (num x) ∧ Sw w' (ptc r [.slice (some ⟨sb, 0, none⟩) n n, num (at_ + 1)] 147 :: ptc sb bs 5 :: R) := by
  have c0 := hS.cell 0 rfl
  have c1 := hS.cell 1 rfl
  have f1 := hS.frozen 1
  have c2 : w.cell? ⟨sb, at_, none⟩ = some (byt x) := hS.tail.cell at_ hx
  have i1 : ¬ (n : Int) ≤ at_ := by omega
  have i1' : (at_ : Int) < n := by omega
  have i2 : ¬ (x : Int) < least := by omega
  have i3 : ¬ (most : Int) < x := by omega
  have i4 : (n : Int) ≤ 1000 := by omega
  have i5 : (x : Int) < 256 := by omega
  have HS := hid (hS.set 1 (num (at_ + 1)))
  clear hS h1 h2 hat hn hx hx2
  go_enter Tryz.func75, Tryz.ntmps75
  go_wp2_with (first | (with_reducible refine wp_region_seg mixed (by decide +kernel) ?_) | (refine seg_look (by rfl) (fun K hK => ?_); go_simp; refine hK _ ?_; clear hK K) | (refine seg_act (by rfl) (fun K hK => ?_); go_simp) | (refine seg_nil ?_))
  go_ret
  exact ⟨rfl, Sw.drew (Sw.drew HS.out)⟩
-- An instruction of four bytes that are 0.
set_option maxRecDepth 100000 in
set_option maxHeartbeats 4000000 in
theorem inst0 (w : World) (R : List HP) (r sb n : Nat) (a b c : Nat) (bs : List Value) (hn : n = 7) (hx : ∀ k, k < 4 → bs[3 + k]? = some (byt 0))
    (hS : Sw w (ptc r [.slice (some ⟨sb, 0, none⟩) n n, num 3] 147 :: ptc sb bs 5 :: R)) :
    Calls Tryz.prog 76 #[.pointer (some ⟨r, 0, none⟩), .agg #[num a, num b, num c]] w fun e w' => e = .returned (.agg #[num 0, num 0, num 0, num 0]) ∧ Sw w' (ptc r [.slice (some ⟨sb, 0, none⟩) n n, num 7] 147 :: ptc sb bs 5 :: R) := by
  subst hn
  have h9 := (hS.allocc [num a, num b, num c] 149).allocc [.int .i64 0, .int .i64 0, .int .i64 0, .int .i64 0] 113
  have cr := (h9 |>.front 1 rfl |>.front 1 rfl |>.front 2 rfl).cell 1 rfl
  have h0 := h9.allocc [.int .i64 0, .int .i64 0, .int .i64 0, .int .i64 0] 235
  simp only [World.size_alloc] at h0
  have H0 := hid h0
  have Hx := hid hx
  clear h0 h9 hS hx
  go_enter Tryz.func76, Tryz.ntmps76
  go_wp2
  go_loopw [14] (fun v14 wr => ∃ k : Nat, k ≤ 4 ∧ v14 = num k ∧ Sw wr (ptc (w.heap.size + 1 + 1) [num 0, num 0, num 0, num 0] 235 :: ptc (w.heap.size + 1) [num 0, num 0, num 0, num 0] 113 :: ptc w.heap.size [num a, num b, num c] 149 :: ptc r [.slice (some ⟨sb, 0, none⟩) 7 7, num (3 + k)] 147 :: ptc sb bs 5 :: R)) (fun v14 wr => below_ 4 v14)
  case atStart => exact ⟨0, by omega, rfl, H0.out⟩
  clear cr H0
  obtain ⟨k, hk, rfl, hI⟩ := hrel
  obtain ⟨at_, hat⟩ : ∃ m, m = 3 + k := ⟨_, rfl⟩
  rw [← hat] at hI
  have HI := hid hI
  obtain ⟨n6, hn6⟩ : ∃ n6, n6 = w.heap.size + 1 + 1 := ⟨_, rfl⟩
  have ne1 := (hI |>.front 4 rfl |>.front 3 rfl |>.front 3 rfl |>.front 3 rfl |>.front 4 rfl).ne
  have ne2 : ¬ w.heap.size + 1 + 1 = r := fun e => ne1 e.symm
  rcases Nat.lt_or_ge k 4 with hlt | hge
  · have hr := hI |>.front 4 rfl |>.front 3 rfl |>.front 3 rfl |>.front 3 rfl |>.front 4 rfl
    have c0 := hr.cell 0 rfl
    have c1 := hr.cell 1 rfl
    have f1 := hr.frozen 1
    have c2 := (hI |>.front 3 rfl |>.front 3 rfl |>.front 3 rfl |>.front 3 rfl |>.front 4 rfl).cell at_ (hat ▸ Hx.out k hlt)
    have c3 := hI.cell 0 rfl
    have c4 := hI.cell 1 rfl
    have c5 := hI.cell 2 rfl
    have c6 := hI.cell 3 rfl
    have f3 := hI.frozen k
    have g0 := (hI |>.front 1 rfl |>.front 1 rfl |>.front 2 rfl).cell 0 rfl
    have g1 := (hI |>.front 1 rfl |>.front 1 rfl |>.front 2 rfl).cell 1 rfl
    have g2 := (hI |>.front 1 rfl |>.front 1 rfl |>.front 2 rfl).cell 2 rfl
    have ne3 := (hI |>.front 4 rfl |>.front 2 rfl |>.front 2 rfl |>.front 3 rfl |>.front 4 rfl).ne
    have lt3 := (hI |>.front 1 rfl |>.front 1 rfl |>.front 2 rfl).lt'
    have ne5 : ¬ w.heap.size = wr.heap.size := by omega
    have h5 := Sw.drew (Sw.drew ((((HI.out.set k (num 0)) |>.front 4 rfl |>.front 3 rfl |>.front 3 rfl |>.front 3 rfl |>.front 4 rfl).set 1 (num (at_ + 1))).allocc [num 0, num 0, num 0, num 0] 113))
    have H5 := hid h5
    clear hI hr hk h5
    subst hat
    have hk4 : k = 0 ∨ k = 1 ∨ k = 2 ∨ k = 3 := by omega
    clear hlt hn6
    rcases hk4 with rfl | rfl | rfl | rfl
    all_goals
      go_wp2_with (first | (go_at_call 134; refine (wrong0 _ a b c).mono ?_; rintro e w5 ⟨rfl, hb⟩; have h6 := H5.out.of_below (w' := w5) hb; have H6 := hid h6; clear h6 hb) | (with_reducible refine wp_region_seg mixed (by decide +kernel) ?_) | (refine seg_look (by rfl) (fun K hK => ?_); go_simp; refine hK _ ?_; clear hK K) | (refine seg_act (by rfl) (fun K hK => ?_); go_simp) | (refine seg_nil ?_))
      go_roundw
      case rel =>
        have h7 := H6.out.tail |>.front 4 rfl |>.front 1 rfl |>.front 4 rfl |>.front 4 rfl |>.front 4 rfl
        first | exact ⟨1, by omega, rfl, h7⟩ | exact ⟨2, by omega, rfl, h7⟩ | exact ⟨3, by omega, rfl, h7⟩ | exact ⟨4, by omega, rfl, h7⟩
      case measure => simp [below_]
  · have hk4 : k = 4 := by omega
    subst hk4
    subst hat
    have c3 := hI.cell 0 rfl
    have c4 := hI.cell 1 rfl
    have c5 := hI.cell 2 rfl
    have c6 := hI.cell 3 rfl
    have h4 := hI |>.front 1 rfl
    have f0 := h4.frozen 0
    have f1 := h4.frozen 1
    have f2 := h4.frozen 2
    have f3 := h4.frozen 3
    have g0 := h4.cell 0 rfl
    have g1 := h4.cell 1 rfl
    have g2 := h4.cell 2 rfl
    have g3 := h4.cell 3 rfl
    have h5 := (((h4.set 0 (num 0)).set 1 (num 0)).set 2 (num 0)).set 3 (num 0)
    have H5 := hid h5
    clear hI h4 h5 hk hge ne1 ne2 hn6
    go_wp2
    exact bodyPost_ret (results_cell_row rfl _ _ (w.heap.size + 1) 113 #[num 0, num 0, num 0, num 0] (0, 0) _ rfl H5.out.row Tryz.underlying113 rfl (by kernel_rfl)) rfl ⟨rfl, ((H5.out |>.front 2 rfl |>.front 2 rfl |>.front 2 rfl |>.front 4 rfl |>.front 4 rfl).perm (List.Perm.refl _) |> fun h => (h |>.front 1 rfl |>.front 1 rfl |>.front 4 rfl |>.front 4 rfl |>.front 4 rfl).tail.tail.tail)⟩
end Go.Proofs.YtfddmbafjniflaaGreatDoor
