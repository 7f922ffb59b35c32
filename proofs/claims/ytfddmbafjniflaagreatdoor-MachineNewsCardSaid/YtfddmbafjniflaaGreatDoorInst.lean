/-
  Package code: one instruction out of any bytes.
-/
import Derived.Test.YtfddmbafjniflaaGreatDoorReader2
namespace Go.Proofs.YtfddmbafjniflaaGreatDoor
open Go Go.RowKit
/-- Part i of the instruction at p, when k of its bytes were read. -/
def vv (bs : List Nat) (p k i : Nat) : Nat := if i < k then bs.getD (p + i) 0 else 0
theorem vv_same (bs : List Nat) (p k x : Nat) (h : bs[p + k]? = some x) : vv bs p (k + 1) k = x := by
  unfold vv; rw [if_pos (by omega), List.getD_eq_getElem?_getD, h]; rfl
theorem vv_other (bs : List Nat) (p k i : Nat) (h : i ≠ k) : vv bs p (k + 1) i = vv bs p k i := by
  unfold vv
  by_cases h1 : i < k
  · rw [if_pos h1, if_pos (by omega)]
  · rw [if_neg h1, if_neg (by omega)]
def wrongAt (a b c : Nat) (bs : List Nat) (p k : Nat) : Int := wrongP a b c (vv bs p (k + 1) 0) (vv bs p (k + 1) 1) (vv bs p (k + 1) 2) (vv bs p (k + 1) 3)
theorem wrongP_range (a b c op x y z : Nat) : -1 ≤ wrongP a b c op x y z ∧ wrongP a b c op x y z ≤ 3 := by
  unfold wrongP
  repeat' split
  all_goals omega
/-- Where reading the instruction at p ends, at its byte k: none: it goes on. -/
def stopAt (a b c : Nat) (bs : List Nat) (p k : Nat) : Option Nat :=
  if bs.length ≤ p + k then some bs.length else if 0 ≤ wrongAt a b c bs p k ∧ wrongAt a b c bs p k ≤ k then some (p + (wrongAt a b c bs p k).toNat) else none
def InstEnds (a b c : Nat) (bs : List Nat) (p : Nat) (A B : List HP) (e : Ending) (w' : World) : Prop :=
  ((∀ k, k < 4 → stopAt a b c bs p k = none) ∧ e = .returned (.agg #[num (vv bs p 4 0), num (vv bs p 4 1), num (vv bs p 4 2), num (vv bs p 4 3)]) ∧ Sw w' A) ∨
  ∃ k n, k < 4 ∧ (∀ j, j < k → stopAt a b c bs p j = none) ∧ stopAt a b c bs p k = some n ∧ e = thrown n ∧ Sw w' B
theorem InstEnds.stop {a b c : Nat} {bs : List Nat} {p k n : Nat} {A B : List HP} {w' : World} (hk : k < 4) (h1 : ∀ j, j < k → stopAt a b c bs p j = none) (h2 : stopAt a b c bs p k = some n) (hS : Sw w' B) : InstEnds a b c bs p A B (thrown n) w' :=
  .inr ⟨k, n, hk, h1, h2, rfl, hS⟩
theorem InstEnds.fine {a b c : Nat} {bs : List Nat} {p : Nat} {A B : List HP} {w' : World} (h1 : ∀ k, k < 4 → stopAt a b c bs p k = none) (hS : Sw w' A) : InstEnds a b c bs p A B (.returned (.agg #[num (vv bs p 4 0), num (vv bs p 4 1), num (vv bs p 4 2), num (vv bs p 4 3)])) w' :=
  .inl ⟨h1, rfl, hS⟩
set_option maxRecDepth 100000 in
set_option maxHeartbeats 8000000 in
theorem inst_any (w : World) (R : List HP) (B : HP) (r b o cap p a' b' c' : Nat) (bs : List Nat) (hn : bs.length ≤ 65536) (hp : p ≤ 60000) (hbyte : ∀ x ∈ bs, x < 256) (hB : Holds B b o bs)
    (hS : Sw w (ptc r [.slice (some ⟨b, o, none⟩) bs.length cap, num p] 147 :: B :: R)) :
    Calls Tryz.prog 76 #[ptr r, .agg #[num a', num b', num c']] w fun e w' => InstEnds a' b' c' bs p (ptc r [.slice (some ⟨b, o, none⟩) bs.length cap, num (p + 4)] 147 :: B :: R) (B :: R) e w' := by
  have h9 := (hS.allocc [num a', num b', num c'] 149).allocc [.int .i64 0, .int .i64 0, .int .i64 0, .int .i64 0] 113
  have h0 := h9.allocc [.int .i64 0, .int .i64 0, .int .i64 0, .int .i64 0] 235
  simp only [World.size_alloc] at h0
  have cr := hS.cell 1 rfl
  have lr := hS.lt'
  have H0 := hid h0
  have Hy := hid hbyte
  have HB := hid hB
  have i4 : (bs.length : Int) ≤ 65536 := by omega
  clear h0 h9 hS hbyte hB
  go_enter Tryz.func76, Tryz.ntmps76
  repeat' (first | go_values | go_skip | go_guarded | go_step | go_upon | dsimp only)
  clear cr lr
  go_loopw [14] (fun v14 wr => ∃ k : Nat, k ≤ 4 ∧ v14 = num k ∧ (∀ j, j < k → stopAt a' b' c' bs p j = none) ∧ Sw wr (ptc (w.heap.size + 1 + 1) [num (vv bs p k 0), num (vv bs p k 1), num (vv bs p k 2), num (vv bs p k 3)] 235 :: ptc (w.heap.size + 1) [.int .i64 0, .int .i64 0, .int .i64 0, .int .i64 0] 113 :: ptc w.heap.size [num a', num b', num c'] 149 :: ptc r [.slice (some ⟨b, o, none⟩) bs.length cap, num (p + k)] 147 :: B :: R)) (fun v14 wr => below_ 4 v14)
  case atStart => exact ⟨0, by omega, rfl, fun j hj => by omega, H0.out⟩
  clear H0
  obtain ⟨k, hk, rfl, hbs, hI⟩ := hrel
  obtain ⟨at_, hat⟩ : ∃ m, m = p + k := ⟨_, rfl⟩
  obtain ⟨v0, hv0⟩ : ∃ v, v = vv bs p k 0 := ⟨_, rfl⟩
  obtain ⟨v1, hv1⟩ : ∃ v, v = vv bs p k 1 := ⟨_, rfl⟩
  obtain ⟨v2, hv2⟩ : ∃ v, v = vv bs p k 2 := ⟨_, rfl⟩
  obtain ⟨v3, hv3⟩ : ∃ v, v = vv bs p k 3 := ⟨_, rfl⟩
  rw [← hat, ← hv0, ← hv1, ← hv2, ← hv3] at hI
  have Hbs := hid hbs
  clear hbs
  have i5 : (at_ : Int) ≤ 60004 := by omega
  have hr := hI |>.front 3 rfl
  simp only [List.eraseIdx_cons_zero, List.eraseIdx_cons_succ] at hr
  have c0 := hr.cell 0 rfl
  have c1 := hr.cell 1 rfl
  rcases Nat.lt_or_ge k 4 with hlt | hge
  · have i7 : (k : Int) < 4 := by omega
    rcases Nat.lt_or_ge at_ bs.length with hin | hout
    · obtain ⟨x, hx⟩ : ∃ x, bs[at_]? = some x := ⟨_, List.getElem?_eq_getElem hin⟩
      have hx2 : x < 256 := Hy.out x (List.mem_of_getElem? hx)
      have hE : ∀ i, vv bs p (k + 1) i = if i = k then x else vv bs p k i := by
        intro i
        by_cases h : i = k
        · rw [if_pos h, h]; exact vv_same bs p k x (hat ▸ hx)
        · rw [if_neg h]; exact vv_other bs p k i h
      obtain ⟨W, hW⟩ : ∃ W, W = wrongAt a' b' c' bs p k := ⟨_, rfl⟩
      have hW2 : W = wrongP a' b' c' (if 0 = k then x else v0) (if 1 = k then x else v1) (if 2 = k then x else v2) (if 3 = k then x else v3) := by
        rw [hW]; unfold wrongAt; rw [hE, hE, hE, hE, hv0, hv1, hv2, hv3]
      obtain ⟨iw1, iw2⟩ : -1 ≤ W ∧ W ≤ 3 := hW2 ▸ wrongP_range _ _ _ _ _ _ _
      have hno : ¬ (0 ≤ W ∧ W ≤ k) → stopAt a' b' c' bs p k = none := by
        intro h; unfold stopAt; rw [if_neg (by omega), if_neg (by rw [← hW]; exact h)]
      have hyes : ∀ m : Nat, W = m → m ≤ k → stopAt a' b' c' bs p k = some (p + m) := by
        intro m h h2; unfold stopAt; rw [if_neg (by omega), if_pos (by rw [← hW]; omega), ← hW, h]; rfl
      have ne1 := hr.ne
      have ne2 : ¬ w.heap.size + 1 + 1 = r := fun e => ne1 e.symm
      have f1 := hr.frozen 1
      have hb0 := hI |>.front 4 rfl
      simp only [List.eraseIdx_cons_zero, List.eraseIdx_cons_succ] at hb0
      have c2 : wr.cell? ⟨b, o + at_, none⟩ = some (byt x) := HB.out _ _ hb0 at_ x hx
      have c3 := hI.cell 0 rfl
      have c4 := hI.cell 1 rfl
      have c5 := hI.cell 2 rfl
      have c6 := hI.cell 3 rfl
      have f3 := hI.frozen k
      have hF := hI |>.front 2 rfl
      simp only [List.eraseIdx_cons_zero, List.eraseIdx_cons_succ] at hF
      have g0 := hF.cell 0 rfl
      have g1 := hF.cell 1 rfl
      have g2 := hF.cell 2 rfl
      have hFr := hF |>.front 3 rfl
      simp only [List.eraseIdx_cons_zero, List.eraseIdx_cons_succ] at hFr
      have ne3 := hFr.ne
      have lt3 := hF.lt'
      have ne5 : ¬ w.heap.size = wr.heap.size := by omega
      have i1 : ¬ (bs.length : Int) ≤ at_ := by omega
      have i1' : (at_ : Int) < bs.length := by omega
      have i2 : (x : Int) < 256 := by omega
      have h6 := (hI.set k (num x)) |>.front 3 rfl
      simp only [List.eraseIdx_cons_zero, List.eraseIdx_cons_succ] at h6
      have HW2 := hid hW2
      have HE := hid hE
      have Hno := hid hno
      have Hyes := hid hyes
      have Hv := hid (And.intro hv0 (And.intro hv1 (And.intro hv2 hv3)))
      have Hat := hid hat
      clear hI hr hb0 hF hFr hW2 hE hno hyes hx hx2 hin hv0 hv1 hv2 hv3 hat hW ne1
      have Hlt := hid hlt
      have hk4 : k = 0 ∨ k = 1 ∨ k = 2 ∨ k = 3 := by omega
      clear hlt hk
      rcases hk4 with rfl | rfl | rfl | rfl
      · simp only [List.set_cons_zero] at h6
        have h5 := Sw.drew (Sw.drew ((h6.set 1 (num (at_ + 1))).allocc [num x, num v1, num v2, num v3] 113))
        have H5 := hid h5
        clear h5 h6
        repeat' (first | (go_big_may; (first | (go_at_call 134; refine (wrong_any _ a' b' c' _ _ _ _).mono ?_; rintro e w5 ⟨he, hb⟩; have h6 := H5.out.of_below (w' := w5) hb; have H6 := hid h6; have he2 := he.trans (show _ = Ending.returned (.int .i64 W) by rw [HW2.out]; rfl); subst he2; clear h6 hb) | (with_reducible refine wp_region_seg mixed (by decide +kernel) ?_) | (refine seg_look (by rfl) (fun K hK => ?_); go_simp; refine hK _ ?_; clear hK K) | (refine seg_act (by rfl) (fun K hK => ?_); go_simp) | (refine seg_nil ?_))) | go_values | go_skip | go_guarded | go_step | go_upon | dsimp only)
        · obtain ⟨m, rfl⟩ : ∃ m : Nat, W = m := ⟨W.toNat, by omega⟩
          exact ⟨rfl, InstEnds.stop Hlt.out Hbs.out (Hyes.out m rfl (by omega)) H6.out.tail.tail.tail.tail.tail⟩
        all_goals
          go_roundw
          case rel =>
            have h7 := H6.out.tail |>.front 4 rfl |>.front 1 rfl |>.front 4 rfl |>.front 4 rfl |>.front 4 rfl
            refine ⟨0 + 1, by omega, rfl, fun j hj => ?_, ?_⟩
            · rcases Nat.lt_succ_iff_lt_or_eq.1 hj with h | rfl
              · exact Hbs.out j h
              · exact Hno.out (by omega)
            · obtain ⟨rfl, rfl, rfl, rfl⟩ := Hv.out
              rw [HE.out 0, HE.out 1, HE.out 2, HE.out 3, ← Nat.add_assoc, ← Hat.out]; exact h7
          case measure => simp [below_]
      · simp only [List.set_cons_zero, List.set_cons_succ] at h6
        have h5 := Sw.drew (Sw.drew ((h6.set 1 (num (at_ + 1))).allocc [num v0, num x, num v2, num v3] 113))
        have H5 := hid h5
        clear h5 h6
        repeat' (first | (go_big_may; (first | (go_at_call 134; refine (wrong_any _ a' b' c' _ _ _ _).mono ?_; rintro e w5 ⟨he, hb⟩; have h6 := H5.out.of_below (w' := w5) hb; have H6 := hid h6; have he2 := he.trans (show _ = Ending.returned (.int .i64 W) by rw [HW2.out]; rfl); subst he2; clear h6 hb) | (with_reducible refine wp_region_seg mixed (by decide +kernel) ?_) | (refine seg_look (by rfl) (fun K hK => ?_); go_simp; refine hK _ ?_; clear hK K) | (refine seg_act (by rfl) (fun K hK => ?_); go_simp) | (refine seg_nil ?_))) | go_values | go_skip | go_guarded | go_step | go_upon | dsimp only)
        · obtain ⟨m, rfl⟩ : ∃ m : Nat, W = m := ⟨W.toNat, by omega⟩
          exact ⟨rfl, InstEnds.stop Hlt.out Hbs.out (Hyes.out m rfl (by omega)) H6.out.tail.tail.tail.tail.tail⟩
        all_goals
          go_roundw
          case rel =>
            have h7 := H6.out.tail |>.front 4 rfl |>.front 1 rfl |>.front 4 rfl |>.front 4 rfl |>.front 4 rfl
            refine ⟨1 + 1, by omega, rfl, fun j hj => ?_, ?_⟩
            · rcases Nat.lt_succ_iff_lt_or_eq.1 hj with h | rfl
              · exact Hbs.out j h
              · exact Hno.out (by omega)
            · obtain ⟨rfl, rfl, rfl, rfl⟩ := Hv.out
              rw [HE.out 0, HE.out 1, HE.out 2, HE.out 3, ← Nat.add_assoc, ← Hat.out]; exact h7
          case measure => simp [below_]
      · simp only [List.set_cons_zero, List.set_cons_succ] at h6
        have h5 := Sw.drew (Sw.drew ((h6.set 1 (num (at_ + 1))).allocc [num v0, num v1, num x, num v3] 113))
        have H5 := hid h5
        clear h5 h6
        repeat' (first | (go_big_may; (first | (go_at_call 134; refine (wrong_any _ a' b' c' _ _ _ _).mono ?_; rintro e w5 ⟨he, hb⟩; have h6 := H5.out.of_below (w' := w5) hb; have H6 := hid h6; have he2 := he.trans (show _ = Ending.returned (.int .i64 W) by rw [HW2.out]; rfl); subst he2; clear h6 hb) | (with_reducible refine wp_region_seg mixed (by decide +kernel) ?_) | (refine seg_look (by rfl) (fun K hK => ?_); go_simp; refine hK _ ?_; clear hK K) | (refine seg_act (by rfl) (fun K hK => ?_); go_simp) | (refine seg_nil ?_))) | go_values | go_skip | go_guarded | go_step | go_upon | dsimp only)
        · obtain ⟨m, rfl⟩ : ∃ m : Nat, W = m := ⟨W.toNat, by omega⟩
          exact ⟨rfl, InstEnds.stop Hlt.out Hbs.out (Hyes.out m rfl (by omega)) H6.out.tail.tail.tail.tail.tail⟩
        all_goals
          go_roundw
          case rel =>
            have h7 := H6.out.tail |>.front 4 rfl |>.front 1 rfl |>.front 4 rfl |>.front 4 rfl |>.front 4 rfl
            refine ⟨2 + 1, by omega, rfl, fun j hj => ?_, ?_⟩
            · rcases Nat.lt_succ_iff_lt_or_eq.1 hj with h | rfl
              · exact Hbs.out j h
              · exact Hno.out (by omega)
            · obtain ⟨rfl, rfl, rfl, rfl⟩ := Hv.out
              rw [HE.out 0, HE.out 1, HE.out 2, HE.out 3, ← Nat.add_assoc, ← Hat.out]; exact h7
          case measure => simp [below_]
      · simp only [List.set_cons_zero, List.set_cons_succ] at h6
        have h5 := Sw.drew (Sw.drew ((h6.set 1 (num (at_ + 1))).allocc [num v0, num v1, num v2, num x] 113))
        have H5 := hid h5
        clear h5 h6
        repeat' (first | (go_big_may; (first | (go_at_call 134; refine (wrong_any _ a' b' c' _ _ _ _).mono ?_; rintro e w5 ⟨he, hb⟩; have h6 := H5.out.of_below (w' := w5) hb; have H6 := hid h6; have he2 := he.trans (show _ = Ending.returned (.int .i64 W) by rw [HW2.out]; rfl); subst he2; clear h6 hb) | (with_reducible refine wp_region_seg mixed (by decide +kernel) ?_) | (refine seg_look (by rfl) (fun K hK => ?_); go_simp; refine hK _ ?_; clear hK K) | (refine seg_act (by rfl) (fun K hK => ?_); go_simp) | (refine seg_nil ?_))) | go_values | go_skip | go_guarded | go_step | go_upon | dsimp only)
        · obtain ⟨m, rfl⟩ : ∃ m : Nat, W = m := ⟨W.toNat, by omega⟩
          exact ⟨rfl, InstEnds.stop Hlt.out Hbs.out (Hyes.out m rfl (by omega)) H6.out.tail.tail.tail.tail.tail⟩
        all_goals
          go_roundw
          case rel =>
            have h7 := H6.out.tail |>.front 4 rfl |>.front 1 rfl |>.front 4 rfl |>.front 4 rfl |>.front 4 rfl
            refine ⟨3 + 1, by omega, rfl, fun j hj => ?_, ?_⟩
            · rcases Nat.lt_succ_iff_lt_or_eq.1 hj with h | rfl
              · exact Hbs.out j h
              · exact Hno.out (by omega)
            · obtain ⟨rfl, rfl, rfl, rfl⟩ := Hv.out
              rw [HE.out 0, HE.out 1, HE.out 2, HE.out 3, ← Nat.add_assoc, ← Hat.out]; exact h7
          case measure => simp [below_]
    · have i1 : (bs.length : Int) ≤ at_ := by omega
      have hst : stopAt a' b' c' bs p k = some bs.length := by unfold stopAt; rw [if_pos (by omega)]
      have Hst := hid hst
      have Hlt := hid hlt
      have HI := hid hr.tail.tail.tail.tail
      clear hI hr hst hlt hv0 hv1 hv2 hv3 hout hat
      repeat' (first | (go_big_may; (first | (with_reducible refine wp_region_seg mixed (by decide +kernel) ?_) | (refine seg_look (by rfl) (fun K hK => ?_); go_simp; refine hK _ ?_; clear hK K) | (refine seg_act (by rfl) (fun K hK => ?_); go_simp) | (refine seg_nil ?_))) | go_values | go_skip | go_guarded | go_step | go_upon | dsimp only)
      exact ⟨rfl, InstEnds.stop Hlt.out Hbs.out Hst.out (Sw.drew HI.out)⟩
  · have hk4 : k = 4 := by omega
    subst hk4
    have c3 := hI.cell 0 rfl
    have c4 := hI.cell 1 rfl
    have c5 := hI.cell 2 rfl
    have c6 := hI.cell 3 rfl
    have h4 := hI |>.front 1 rfl
    simp only [List.eraseIdx_cons_zero, List.eraseIdx_cons_succ] at h4
    have f0 := h4.frozen 0
    have f1 := h4.frozen 1
    have f2 := h4.frozen 2
    have f3 := h4.frozen 3
    have g0 := h4.cell 0 rfl
    have g1 := h4.cell 1 rfl
    have g2 := h4.cell 2 rfl
    have g3 := h4.cell 3 rfl
    have h5 := (((h4.set 0 (num v0)).set 1 (num v1)).set 2 (num v2)).set 3 (num v3)
    have H5 := hid h5
    clear hI hr h4 h5 hk hge
    repeat' (first | go_values | go_skip | go_guarded | go_step | go_upon | dsimp only)
    subst hv0 hv1 hv2 hv3 hat
    exact bodyPost_ret (results_cell_row rfl _ _ (w.heap.size + 1) 113 #[num (vv bs p 4 0), num (vv bs p 4 1), num (vv bs p 4 2), num (vv bs p 4 3)] (0, 0) _ rfl H5.out.row Tryz.underlying113 rfl (by kernel_rfl)) rfl (InstEnds.fine Hbs.out H5.out.tail.tail.tail)
end Go.Proofs.YtfddmbafjniflaaGreatDoor
