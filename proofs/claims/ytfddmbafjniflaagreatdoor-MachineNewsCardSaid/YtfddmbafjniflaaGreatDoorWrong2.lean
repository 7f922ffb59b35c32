/-
  Package code: wrong, for every instruction.
-/
import Derived.Test.YtfddmbafjniflaaGreatDoorCode2
import Derived.Test.YtfddmbafjniflaaGreatDoorWrong
namespace Go.Proofs.YtfddmbafjniflaaGreatDoor
open Go Go.RowKit
def nth3 (x y z k : Nat) : Nat := [x, y, z].getD k 0
def partL : List Nat := [0,0,0, 2,1,0, 2,2,1, 2,1,2, 2,2,0, 2,0,0, 2,3,0, 3,2,0, 4,2,0, 0,0,0, 0,1,1, 6,0,0, 6,0,0, 2,2,0, 5,0,0, 2,2,5, 1,1,0, 5,0,0]
def partN (op k : Nat) : Nat := partL.getD (3 * op + k) 0
theorem partN_le (op k : Nat) : partN op k ≤ 6 := by
  unfold partN
  by_cases h : 3 * op + k < 54
  · have : ∀ i, i < 54 → partL.getD i 0 ≤ 6 := by decide
    exact this _ h
  · have : partL.getD (3 * op + k) 0 = 0 := by rw [List.getD_eq_getElem?_getD, List.getElem?_eq_none (by show 54 ≤ _; omega)]; rfl
    omega
theorem parts_at (op : Nat) (h : op < 18) (w : World) : (Instr.index 316 (.agg partsC) (num op)).run Tryz.prog w = .ok (.agg #[num (partN op 0), num (partN op 1), num (partN op 2)]) w := by
  obtain rfl | rfl | rfl | rfl | rfl | rfl | rfl | rfl | rfl | rfl | rfl | rfl | rfl | rfl | rfl | rfl | rfl | rfl : op = 0 ∨ op = 1 ∨ op = 2 ∨ op = 3 ∨ op = 4 ∨ op = 5 ∨ op = 6 ∨ op = 7 ∨ op = 8 ∨ op = 9 ∨ op = 10 ∨ op = 11 ∨ op = 12 ∨ op = 13 ∨ op = 14 ∨ op = 15 ∨ op = 16 ∨ op = 17 := by omega
  all_goals kernel_rfl
theorem three_at (p0 p1 p2 k : Nat) (hk : k < 3) (w : World) : (Instr.index 315 (.agg #[num p0, num p1, num p2]) (.int .i64 k)).run Tryz.prog w = .ok (num (nth3 p0 p1 p2 k)) w := by
  obtain rfl | rfl | rfl : k = 0 ∨ k = 1 ∨ k = 2 := by omega
  all_goals kernel_rfl
theorem get3 (x y z k : Nat) (hk : k < 3) : ([num x, num y, num z] : List Value)[k]? = some (num (nth3 x y z k)) := by
  obtain rfl | rfl | rfl : k = 0 ∨ k = 1 ∨ k = 2 := by omega
  all_goals rfl
theorem part3 (op k : Nat) (hk : k < 3) : nth3 (partN op 0) (partN op 1) (partN op 2) k = partN op k := by
  obtain rfl | rfl | rfl : k = 0 ∨ k = 1 ∨ k = 2 := by omega
  all_goals rfl
theorem segS_nrm {P : Program} {ops : Array Oper} {l : List Oper} {a a0 : Act} {Q : Exit → Act → World → Prop} {w : World} {I : World → Prop} (hn : a = a0) (h : wpSegS P ops I Q l a0 w) : wpSegS P ops I Q l a w := by subst hn; exact h
theorem segQ_nrm {P : Program} {ops : Array Oper} {st : List Tmp} {l : List Oper} {a a0 : Act} {Q : Exit → Act → World → Prop} {w : World} {I : World → Prop} (hn : a = a0) (h : wpSegQ P ops st I Q l a0 w) : wpSegQ P ops st I Q l a w := by subst hn; exact h
/-- The first part that may not be, by the document: 0 none beyond the parts. -/
def badP (a b c op x y z k : Nat) : Bool := !decide (nth3 x y z k < mostP a b c (partN op k))
def wrongP (a b c op x y z : Nat) : Int :=
  if 17 < op then 0 else if badP a b c op x y z 0 then 1 else if badP a b c op x y z 1 then 2 else if badP a b c op x y z 2 then 3 else -1
theorem wrong_great (w : World) (a b c op x y z : Nat) (h : 17 < op) : Calls Tryz.prog 134 #[.agg #[num a, num b, num c], .agg #[num op, num x, num y, num z]] w fun e w' => e = .returned (num 0) ∧ Below w.heap.size w w' := by
  have i1 : (17 : Int) < op := by omega
  clear h
  go_enter Tryz.func134, Tryz.ntmps134
  go_wp2
  go_ret
  exact ⟨rfl, Below.alloc (Below.alloc (Below.refl _ _) (Nat.le_refl _) _) (by simp) _⟩
theorem wrongP_at (a b c op x y z k : Nat) (hop : op < 18) (hk : k < 3) (h1 : ∀ j, j < k → badP a b c op x y z j = false) (h2 : badP a b c op x y z k = true) : wrongP a b c op x y z = k + 1 := by
  unfold wrongP
  rw [if_neg (by omega)]
  obtain rfl | rfl | rfl : k = 0 ∨ k = 1 ∨ k = 2 := by omega
  · rw [h2]; rfl
  · rw [h1 0 (by omega), h2]; rfl
  · rw [h1 0 (by omega), h1 1 (by omega), h2]; rfl
theorem wrongP_none (a b c op x y z : Nat) (hop : op < 18) (h1 : ∀ j, j < 3 → badP a b c op x y z j = false) : wrongP a b c op x y z = -1 := by
  unfold wrongP
  rw [if_neg (by omega), h1 0 (by omega), h1 1 (by omega), h1 2 (by omega)]; rfl
def SWo (n0 a b c op x y z : Nat) (w' : World) : Prop :=
  w'.cell? ⟨n0, 0, none⟩ = some (num a) ∧ w'.cell? ⟨n0, 1, none⟩ = some (num b) ∧ w'.cell? ⟨n0, 2, none⟩ = some (num c) ∧
  w'.cell? ⟨n0 + 1, 0, none⟩ = some (num op) ∧ w'.cell? ⟨n0 + 1, 1, none⟩ = some (num x) ∧ w'.cell? ⟨n0 + 1, 2, none⟩ = some (num y) ∧ w'.cell? ⟨n0 + 1, 3, none⟩ = some (num z)
theorem SWo.of {n0 a b c op x y z : Nat} {w : World} {R : List HP} (h : Sw w (ptc (n0 + 1) [num op, num x, num y, num z] 113 :: ptc n0 [num a, num b, num c] 149 :: R)) : SWo n0 a b c op x y z w :=
  ⟨(h |>.front 1 rfl).cell 0 rfl, (h |>.front 1 rfl).cell 1 rfl, (h |>.front 1 rfl).cell 2 rfl, h.cell 0 rfl, h.cell 1 rfl, h.cell 2 rfl, h.cell 3 rfl⟩
set_option maxRecDepth 100000 in
set_option maxHeartbeats 4000000 in
theorem wrong_small (w : World) (a b c op x y z : Nat) (hop : op < 18) : Calls Tryz.prog 134 #[.agg #[num a, num b, num c], .agg #[num op, num x, num y, num z]] w fun e w' => e = .returned (.int .i64 (wrongP a b c op x y z)) ∧ Below w.heap.size w w' := by
  have h0 := ((Sw.old w).allocc [num a, num b, num c] 149).allocc [num op, num x, num y, num z] 113
  simp only [World.size_alloc] at h0
  have H0 := hid h0
  have C := hid (SWo.of (Sw.drew h0))
  obtain ⟨c0, c1, c2, c3, c4, c5, c6⟩ := SWo.of h0
  have hix := hid (parts_at op hop)
  have i1 : ¬ (17 : Int) < op := by omega
  have i2 : (0 : Int) ≤ op := by omega
  have Hop := hid hop
  clear h0 hop
  go_enter Tryz.func134, Tryz.ntmps134
  repeat' (first | (go_big_may; (first | ((with_reducible refine wp_region_segS (SWo w.heap.size a b c op x y z) mixed (by decide +kernel) ?_ ?_); (focus (exact C.out))) | ((with_reducible apply segS_lookN); (focus (rfl)); (focus (first | (go_simp; done) | (go_simp; exact rfl) | exact rfl)); (focus (rfl)); (focus (intro wq hq; obtain ⟨q0, q1, q2, q3, q4, q5, q6⟩ := hq; go_simp; first | exact rfl | exact ⟨rfl, rfl⟩))) | ((with_reducible apply segS_callN); (focus (rfl)); (focus (first | (go_simp; done) | (go_simp; exact rfl) | exact rfl)); (focus (rfl)); (focus (go_simp; first | exact rfl | exact ⟨rfl, rfl⟩))))) | go_values | go_skip | go_guarded | go_step | go_upon | dsimp only)
  refine (parts0 _).mono ?_
  rintro e w1 ⟨rfl, hb⟩
  have h1 := (Sw.drew H0.out).of_below hb
  have C1 := hid (SWo.of h1)
  refine ⟨_, rfl, .inl C1.out, ?_⟩
  have H1 := hid h1
  have hix2 := hix.out
  clear h1 hb c0 c1 c2 c3 c4 c5 c6 C
  repeat' (first | (go_big_may; (first | ((with_reducible apply segS_lookN); (focus (rfl)); (focus (first | (go_simp; done) | (go_simp; exact rfl) | exact rfl)); (focus (rfl)); (focus (intro wq hq; obtain ⟨q0, q1, q2, q3, q4, q5, q6⟩ := hq; go_simp; first | exact rfl | exact ⟨rfl, rfl⟩))) | ((with_reducible apply segS_callN); (focus (rfl)); (focus (first | (go_simp; done) | (go_simp; exact rfl) | exact rfl)); (focus (rfl)); (focus (go_simp; first | exact rfl | exact ⟨rfl, rfl⟩))))) | go_values | go_skip | go_guarded | go_step | go_upon | dsimp only)
  with_reducible apply segS_nrm
  (focus (first | (go_simp; done) | (go_simp; exact rfl) | exact rfl))
  refine segS_nil ?_
  repeat' (first | go_values | go_skip | go_guarded | go_step | go_upon | dsimp only)
  clear hix2
  go_loopw [19] (fun v19 wr => ∃ k : Nat, k ≤ 3 ∧ v19 = num k ∧ (∀ j, j < k → badP a b c op x y z j = false) ∧ Sw wr [ptc (w.heap.size + 1) [num op, num x, num y, num z] 113, ptc w.heap.size [num a, num b, num c] 149, old w]) (fun v19 wr => below_ 3 v19)
  case atStart => exact ⟨0, by omega, rfl, fun j hj => by omega, H1.out⟩
  obtain ⟨k, hk, rfl, hbs, hI⟩ := hrel
  clear H0 H1 C1
  have Hbs := hid hbs
  have HI := hid hI
  have C0 := hid (SWo.of (Sw.drew hI))
  clear hI hbs
  rcases Nat.lt_or_ge k 3 with hlt | hge
  · have h3 := three_at (partN op 0) (partN op 1) (partN op 2) k hlt
    have ep := part3 op k hlt
    rw [ep] at h3
    have h2 := Sw.drew (HI.out.allocc [num x, num y, num z] 3)
    have C2 := hid (SWo.of h2.tail)
    have e0 : (wr.alloc (.cells #[num x, num y, num z] 3)).drew.cell? ⟨wr.heap.size, k, none⟩ = some (num (nth3 x y z k)) := h2.cell k (get3 x y z k hlt)
    obtain ⟨d0, d1, d2, d3, d4, d5, d6⟩ := SWo.of (Sw.drew HI.out)
    have i5 : (k : Int) < 3 := by omega
    have H2 := hid h2
    have Hlt := hid hlt
    have Hft := hid (fits_any (wr.alloc (.cells #[num x, num y, num z] 3)).drew a b c (nth3 x y z k) (partN op k) (partN_le op k))
    clear h2 hk hlt ep
    repeat' (first | (go_big_may; (first | ((with_reducible refine wp_region_segQ ([23]) (SWo w.heap.size a b c op x y z) mixed (by decide +kernel) ?_ ?_); (focus (exact C0.out))) | ((with_reducible apply segQ_stillN); (focus (rfl)); (focus (rfl)); (focus (first | (go_simp; done) | (go_simp; exact rfl) | exact rfl)); (focus (rfl)); (focus (exact C0.out)); (focus (intro wq hq; obtain ⟨q0, q1, q2, q3, q4, q5, q6⟩ := hq; go_simp; first | exact rfl | exact ⟨rfl, rfl⟩))) | ((with_reducible apply segQ_pureN); (focus (rfl)); (focus (first | (go_simp; done) | (go_simp; exact rfl) | exact rfl)); (focus (rfl)); (focus (intro wq; go_simp; first | exact rfl | exact ⟨rfl, rfl⟩))) | ((with_reducible apply segQ_lookN); (focus (rfl)); (focus (rfl)); (focus (rfl)); (focus (first | (go_simp; done) | (go_simp; exact rfl) | exact rfl)); (focus (rfl)); (focus (go_simp; first | exact rfl | exact ⟨rfl, rfl⟩))) | ((with_reducible apply segQ_callN); (focus (rfl)); (focus (rfl)); (focus (first | (go_simp; done) | (go_simp; exact rfl) | exact rfl)); (focus (rfl)); (focus (go_simp; first | exact rfl | exact ⟨rfl, rfl⟩))) | (with_reducible refine segQ_nil ?_) | (((with_reducible apply segQ_actN); (focus (rfl)); (focus (rfl)); (focus (first | (go_simp; done) | (go_simp; exact rfl) | exact rfl)); (focus (rfl)); (focus (go_simp; first | exact rfl | exact ⟨rfl, rfl⟩))); (focus (exact C2.out))))) | go_values | go_skip | go_guarded | go_step | go_upon | dsimp only)
    cases hd : decide (nth3 x y z k < mostP a b c (partN op k))
    case true =>
      rw [hd] at Hft
      refine Hft.out.mono ?_
      rintro e w5 ⟨rfl, hb⟩
      have h5 := H2.out.tail.of_below (w' := w5) hb
      refine ⟨_, rfl, SWo.of h5, ?_⟩
      have Hd := hid hd
      have H5 := hid h5
      clear h5 hb e0 d0 d1 d2 d3 d4 d5 d6 C0 C2 Hft hd
      repeat' (first | (go_big_may; (first | ((with_reducible apply segQ_pureN); (focus (rfl)); (focus (first | (go_simp; done) | (go_simp; exact rfl) | exact rfl)); (focus (rfl)); (focus (intro wq; go_simp; first | exact rfl | exact ⟨rfl, rfl⟩))) | ((with_reducible apply segQ_lookN); (focus (rfl)); (focus (rfl)); (focus (rfl)); (focus (first | (go_simp; done) | (go_simp; exact rfl) | exact rfl)); (focus (rfl)); (focus (go_simp; first | exact rfl | exact ⟨rfl, rfl⟩))) | ((with_reducible apply segQ_callN); (focus (rfl)); (focus (rfl)); (focus (first | (go_simp; done) | (go_simp; exact rfl) | exact rfl)); (focus (rfl)); (focus (go_simp; first | exact rfl | exact ⟨rfl, rfl⟩))) | (with_reducible refine segQ_nil ?_))) | go_values | go_skip | go_guarded | go_step | go_upon | dsimp only)
      go_roundw
      case rel => exact ⟨k + 1, Hlt.out, rfl, fun j hj => by
        rcases Nat.lt_succ_iff_lt_or_eq.1 hj with h | rfl
        · exact Hbs.out j h
        · unfold badP; rw [Hd.out]; rfl, H5.out⟩
      case measure => have := Hlt.out; simp [below_]; omega
    case false =>
      rw [hd] at Hft
      refine Hft.out.mono ?_
      rintro e w5 ⟨rfl, hb⟩
      have h5 := H2.out.tail.of_below (w' := w5) hb
      refine ⟨_, rfl, SWo.of h5, ?_⟩
      have hw := wrongP_at a b c op x y z k Hop.out Hlt.out Hbs.out (by unfold badP; rw [hd]; rfl)
      have Hw := hid hw
      have H5 := hid h5
      clear h5 hb e0 d0 d1 d2 d3 d4 d5 d6 C0 C2 Hft hd hw
      repeat' (first | (go_big_may; (first | ((with_reducible apply segQ_pureN); (focus (rfl)); (focus (first | (go_simp; done) | (go_simp; exact rfl) | exact rfl)); (focus (rfl)); (focus (intro wq; go_simp; first | exact rfl | exact ⟨rfl, rfl⟩))) | ((with_reducible apply segQ_lookN); (focus (rfl)); (focus (rfl)); (focus (rfl)); (focus (first | (go_simp; done) | (go_simp; exact rfl) | exact rfl)); (focus (rfl)); (focus (go_simp; first | exact rfl | exact ⟨rfl, rfl⟩))) | ((with_reducible apply segQ_callN); (focus (rfl)); (focus (rfl)); (focus (first | (go_simp; done) | (go_simp; exact rfl) | exact rfl)); (focus (rfl)); (focus (go_simp; first | exact rfl | exact ⟨rfl, rfl⟩))) | (with_reducible refine segQ_nil ?_))) | go_values | go_skip | go_guarded | go_step | go_upon | dsimp only)
      go_ret
      rw [Hw.out]
      exact ⟨rfl, H5.out.tail.tail.below⟩
  · have : k = 3 := by omega
    subst this
    have hw := wrongP_none a b c op x y z Hop.out Hbs.out
    have Hw := hid hw
    have hb1 := HI.out.tail.tail.below
    clear C0 hk hge hw
    repeat' (first | go_values | go_skip | go_guarded | go_step | go_upon | dsimp only)
    go_ret
    rw [Hw.out]
    exact ⟨rfl, hb1⟩
theorem wrong_any (w : World) (a b c op x y z : Nat) : Calls Tryz.prog 134 #[.agg #[num a, num b, num c], .agg #[num op, num x, num y, num z]] w fun e w' => e = .returned (.int .i64 (wrongP a b c op x y z)) ∧ Below w.heap.size w w' := by
  rcases Nat.lt_or_ge 17 op with h | h
  · have e : wrongP a b c op x y z = 0 := by unfold wrongP; rw [if_pos h]
    rw [e]; exact wrong_great w a b c op x y z h
  · exact wrong_small w a b c op x y z (by omega)
end Go.Proofs.YtfddmbafjniflaaGreatDoor
