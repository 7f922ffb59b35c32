/-
  The document's reader: kinds, fits, bad, wrong.
-/
import Derived.Test.YtfddmbafjniflaaGreatDoorDec
import Derived.Test.YtfddmbafjniflaaGreatDoorCommit0
namespace Go.Proofs.YtfddmbafjniflaaGreatDoor
open Go Go.RowKit
/-- The document's number of a part. -/
def refK (p : Nat) : Nat := [0, 6, 1, 2, 3, 5, 4].getD p 0
set_option maxRecDepth 100000 in
set_option maxHeartbeats 1000000 in
theorem ref_fits (w : World) (p v a b c : Nat) (hp : p ≤ 6) : Calls Tryz.prog 89 #[num (refK p), num v, num a, num b, num c] w fun e w' => e = .returned (.bool (decide (v < mostP a b c p))) ∧ Below w.heap.size w w' := by
  have h0 := (Sw.old w).allocc [.int .i64 1, .int .i64 16, num a, num b, .int .i64 32, num c, .int .i64 256] 3
  have H0 := hid h0
  have iv : (0 : Int) ≤ v := by omega
  clear h0
  obtain rfl | rfl | rfl | rfl | rfl | rfl | rfl : p = 0 ∨ p = 1 ∨ p = 2 ∨ p = 3 ∨ p = 4 ∨ p = 5 ∨ p = 6 := by omega
  all_goals
    simp only [refK, mostP, List.getD_cons_zero, List.getD_cons_succ]
    go_enter Tryz.func89, Tryz.ntmps89
    repeat' (first | go_values | go_skip | go_guarded | go_step | go_upon | dsimp only)
    go_ret
    exact ⟨ret_bool (decide_eq_decide.2 (by omega)), H0.out.tail.below⟩
def kindL (op k : Nat) : Nat := refK (partN op k)
set_option maxRecDepth 100000 in
set_option maxHeartbeats 4000000 in
theorem ref_kinds_great (op : Nat) (i1 : (18 : Int) ≤ op) (w : World) : Calls Tryz.prog 88 #[num op] w fun e w' => e = .returned (.slice none 0 0) ∧ Below w.heap.size w w' := by
  have HS := hid (Sw.old w)
  go_enter Tryz.func88, Tryz.ntmps88
  repeat' (first | go_values | go_skip | go_guarded | go_step | go_upon | dsimp only)
  go_ret
  refine ⟨rfl, Sw.below (l := []) ?_⟩
  iterate 19 apply Sw.after_alloc
  exact HS.out
def kindP (n : Nat) : List HP := [ptc (n + 17) [num 5, num 0, num 0] 3, ptc (n + 16) [num 6, num 6, num 0] 3, ptc (n + 15) [num 1, num 1, num 5] 3, ptc (n + 14) [num 5, num 0, num 0] 3, ptc (n + 13) [num 1, num 1, num 0] 3, ptc (n + 12) [num 4, num 0, num 0] 3, ptc (n + 11) [num 4, num 0, num 0] 3, ptc (n + 10) [num 0, num 6, num 6] 3, ptc (n + 9) [num 0, num 0, num 0] 3, ptc (n + 8) [num 3, num 1, num 0] 3, ptc (n + 7) [num 2, num 1, num 0] 3, ptc (n + 6) [num 1, num 2, num 0] 3, ptc (n + 5) [num 1, num 0, num 0] 3, ptc (n + 4) [num 1, num 1, num 0] 3, ptc (n + 3) [num 1, num 6, num 1] 3, ptc (n + 2) [num 1, num 1, num 6] 3, ptc (n + 1) [num 1, num 6, num 0] 3, ptc (n + 0) [num 0, num 0, num 0] 3]
theorem Sw.pick {w : World} {L R : List HP} {P : HP} (i : Nat) (h : Sw w (L ++ R)) (hi : L[i]? = some P) : Sw w (P :: R) := by
  have hl : i < L.length := (List.getElem?_eq_some_iff.1 hi).1
  have h1 := h.front i (by rw [List.getElem?_append_left hl]; exact hi)
  rw [List.eraseIdx_append_of_lt_length hl] at h1
  exact Sw.drop_mid _ h1
set_option maxRecDepth 100000 in
set_option maxHeartbeats 4000000 in
theorem ref_kinds (w : World) (R : List HP) (op : Nat) (h : op < 18) (hS : Sw w R) : Calls Tryz.prog 88 #[num op] w fun e w' => ∃ kb, e = .returned (.slice (some ⟨kb, 0, none⟩) 3 3) ∧ Sw w' (ptc kb [num (kindL op 0), num (kindL op 1), num (kindL op 2)] 3 :: R) := by
  have HS := hid hS
  have i1 : (op : Int) < 18 := by omega
  have Hop := hid h
  clear hS h
  have h1 := ((((((((((((((((((HS.out.allocc [.int .i64 0, .int .i64 0, .int .i64 0] 3).allocc [.int .i64 1, .int .i64 6, .int .i64 0] 3).allocc [.int .i64 1, .int .i64 1, .int .i64 6] 3).allocc [.int .i64 1, .int .i64 6, .int .i64 1] 3).allocc [.int .i64 1, .int .i64 1, .int .i64 0] 3).allocc [.int .i64 1, .int .i64 0, .int .i64 0] 3).allocc [.int .i64 1, .int .i64 2, .int .i64 0] 3).allocc [.int .i64 2, .int .i64 1, .int .i64 0] 3).allocc [.int .i64 3, .int .i64 1, .int .i64 0] 3).allocc [.int .i64 0, .int .i64 0, .int .i64 0] 3).allocc [.int .i64 0, .int .i64 6, .int .i64 6] 3).allocc [.int .i64 4, .int .i64 0, .int .i64 0] 3).allocc [.int .i64 4, .int .i64 0, .int .i64 0] 3).allocc [.int .i64 1, .int .i64 1, .int .i64 0] 3).allocc [.int .i64 5, .int .i64 0, .int .i64 0] 3).allocc [.int .i64 1, .int .i64 1, .int .i64 5] 3).allocc [.int .i64 6, .int .i64 6, .int .i64 0] 3).allocc [.int .i64 5, .int .i64 0, .int .i64 0] 3)
  simp only [World.size_alloc] at h1
  have H1 := hid (show Sw _ (kindP w.heap.size ++ R) from h1)
  clear h1 HS
  go_enter Tryz.func88, Tryz.ntmps88
  repeat' (first | go_values | go_skip | go_guarded | go_step | go_upon | dsimp only)
  have hop := Hop.out
  clear Hop i1
  obtain rfl | rfl | rfl | rfl | rfl | rfl | rfl | rfl | rfl | rfl | rfl | rfl | rfl | rfl | rfl | rfl | rfl | rfl : op = 0 ∨ op = 1 ∨ op = 2 ∨ op = 3 ∨ op = 4 ∨ op = 5 ∨ op = 6 ∨ op = 7 ∨ op = 8 ∨ op = 9 ∨ op = 10 ∨ op = 11 ∨ op = 12 ∨ op = 13 ∨ op = 14 ∨ op = 15 ∨ op = 16 ∨ op = 17 := by omega
  all_goals
    go_simp
    repeat' (first | go_values | go_skip | go_guarded | go_step | go_upon | dsimp only)
    go_ret
  · exact ⟨_, rfl, (H1.out.after_alloc _).pick 17 rfl⟩
  · exact ⟨_, rfl, (H1.out.after_alloc _).pick 16 rfl⟩
  · exact ⟨_, rfl, (H1.out.after_alloc _).pick 15 rfl⟩
  · exact ⟨_, rfl, (H1.out.after_alloc _).pick 14 rfl⟩
  · exact ⟨_, rfl, (H1.out.after_alloc _).pick 13 rfl⟩
  · exact ⟨_, rfl, (H1.out.after_alloc _).pick 12 rfl⟩
  · exact ⟨_, rfl, (H1.out.after_alloc _).pick 11 rfl⟩
  · exact ⟨_, rfl, (H1.out.after_alloc _).pick 10 rfl⟩
  · exact ⟨_, rfl, (H1.out.after_alloc _).pick 9 rfl⟩
  · exact ⟨_, rfl, (H1.out.after_alloc _).pick 8 rfl⟩
  · exact ⟨_, rfl, (H1.out.after_alloc _).pick 7 rfl⟩
  · exact ⟨_, rfl, (H1.out.after_alloc _).pick 6 rfl⟩
  · exact ⟨_, rfl, (H1.out.after_alloc _).pick 5 rfl⟩
  · exact ⟨_, rfl, (H1.out.after_alloc _).pick 4 rfl⟩
  · exact ⟨_, rfl, (H1.out.after_alloc _).pick 3 rfl⟩
  · exact ⟨_, rfl, (H1.out.after_alloc _).pick 2 rfl⟩
  · exact ⟨_, rfl, (H1.out.after_alloc _).pick 1 rfl⟩
  · exact ⟨_, rfl, (H1.out.after_alloc _).pick 0 rfl⟩
theorem results_cell3 {fn : Func} {p u u2 : Tmp} {ty : TypeId} (h : fn.results = #[.cell p ty, .tmp u, .tmp u2]) (tmps : Array Value) (P : Program) (w : World) :
    (results fn tmps).run P w =
      ((asAddr (tmps.getD p undef)).run P w).andThen fun a w₁ => ((loadVar ty a).run P w₁).andThen fun v w₂ => .ok (.tuple #[v, tmps.getD u undef, tmps.getD u2 undef]) w₂ := by
  simp only [results, h]
  simp [Sem.run_bind, Result.andThen]
set_option maxRecDepth 100000 in
set_option maxHeartbeats 1000000 in
theorem ref_bad (w : World) (n : Nat) : Calls Tryz.prog 35 #[num n] w fun e w' => e = .returned (.tuple #[.agg #[num 0, .slice none 0 0], num 6, num n]) ∧ Below w.heap.size w w' := by
  have h0 := (Sw.old w).allocc [.int .i64 0, .slice none 0 0] 32
  have Hlv := hid (run_loadVar_row (P := Tryz.prog) (w.alloc (.cells #[.int .i64 0, .slice none 0 0] 32)) w.heap.size 32 32 _ (0, 0) _ (heap_alloc_new w _) Tryz.underlying32 rfl (by kernel_rfl))
  have H0 := hid h0
  clear h0
  go_enter Tryz.func35, Tryz.ntmps35
  repeat' (first | go_values | go_skip | go_guarded | go_step | go_upon | dsimp only)
  refine bodyPost_ret (v := .tuple #[.agg #[.int .i64 0, .slice none 0 0], num 6, num n]) ?_ rfl ⟨rfl, H0.out.tail.below⟩
  rw [results_cell3 rfl]
  simp [asAddr, Hlv.out]
theorem bad_of {a b c op x y z k : Nat} {v : Bool} (h : decide (nth3 x y z k < mostP a b c (partN op k)) = v) : badP a b c op x y z k = !v := by
  unfold badP; rw [h]
theorem kind_at (op k : Nat) (hk : k < 3) : ([num (kindL op 0), num (kindL op 1), num (kindL op 2)] : List Value)[k]? = some (num (refK (partN op k))) := by
  obtain rfl | rfl | rfl : k = 0 ∨ k = 1 ∨ k = 2 := by omega
  all_goals rfl
set_option maxRecDepth 100000 in
set_option maxHeartbeats 4000000 in
theorem ref_wrong (w : World) (R : List HP) (a b c op x y z : Nat) (hS : Sw w R) : Calls Tryz.prog 36 #[.agg #[num op, num x, num y, num z], num a, num b, num c] w fun e w' => e = .returned (.int .i64 (wrongP a b c op x y z)) ∧ Sw w' R := by
  have h0 := hS.allocc [num op, num x, num y, num z] 113
  have hne : ∀ kb w, (binOp .eql 36 (.slice (some ⟨kb, 0, none⟩) 3 3) (.slice none 0 0)).run Tryz.prog w = .ok (.bool false) w := fun _ _ => by kernel_rfl
  rcases Nat.lt_or_ge op 18 with hop | hop
  · have Hop := hid hop
    have hk := hid (ref_kinds _ _ op hop h0)
    clear h0 hS hop
    go_enter Tryz.func36, Tryz.ntmps36
    repeat' (first | (go_big_may; (first | (go_at_call 88; refine hk.out.mono ?_; rintro e w1 ⟨kb, rfl, h1⟩; have d1 := (h1 |>.front 1 rfl).cell 1 rfl; have d2 := (h1 |>.front 1 rfl).cell 2 rfl; have d3 := (h1 |>.front 1 rfl).cell 3 rfl; have H1 := hid (h1.allocc [num x, num y, num z] 3); clear h1))) | go_values | go_skip | go_guarded | go_step | go_upon | dsimp only)
    clear d1 d2 d3 hk
    revert H1
    generalize World.alloc _ _ = w2
    generalize w1.heap.size = nb
    intro H1
    go_loopw [11] (fun v11 wr => ∃ i : Nat, i ≤ 3 ∧ v11 = num i ∧ (∀ j, j < i → badP a b c op x y z j = false) ∧ Sw wr (ptc nb [num x, num y, num z] 3 :: ptc kb [num (kindL op 0), num (kindL op 1), num (kindL op 2)] 3 :: R)) (fun v11 wr => below_ 3 v11)
    case atStart =>
      exact ⟨0, by omega, rfl, fun j hj => absurd hj (by omega), (H1.out |>.front 2 rfl).tail⟩
    obtain ⟨i, hi, rfl, hbs, hI⟩ := hrel
    clear H1
    have Hbs := hid hbs
    have HI := hid hI
    rcases Nat.lt_or_ge i 3 with hlt | hge
    · have ilt : (i : Int) < 3 := by omega
      have C0 := hid (show ∀ w', Sw w' (ptc nb [num x, num y, num z] 3 :: ptc kb [num (kindL op 0), num (kindL op 1), num (kindL op 2)] 3 :: R) → w'.cell? ⟨kb, i, none⟩ = some (num (refK (partN op i))) ∧ w'.cell? ⟨nb, i, none⟩ = some (num (nth3 x y z i)) from
        fun w' h => ⟨(h |>.front 1 rfl).cell i (kind_at op i hlt), h.cell i (get3 x y z i hlt)⟩)
      have C1 := hid (C0.out _ (Sw.drew HI.out))
      have Hlt := hid hlt
      have Hf := hid (ref_fits wr.drew (partN op i) (nth3 x y z i) a b c (partN_le op i))
      clear hbs hI hi hlt
      repeat' (first | (go_big_may; (first | ((with_reducible refine wp_region_segS (fun w' => w'.cell? ⟨kb, i, none⟩ = some (num (refK (partN op i))) ∧ w'.cell? ⟨nb, i, none⟩ = some (num (nth3 x y z i))) mixed (by decide +kernel) ?_ ?_); (focus (exact C1.out))) | ((with_reducible apply segS_lookN); (focus (rfl)); (focus (first | (go_simp; done) | (go_simp; exact rfl) | exact rfl)); (focus (rfl)); (focus (intro wq hq; obtain ⟨q0, q1⟩ := hq; go_simp; first | exact rfl | exact ⟨rfl, rfl⟩))) | ((with_reducible apply segS_callN); (focus (rfl)); (focus (first | (go_simp; done) | (go_simp; exact rfl) | exact rfl)); (focus (rfl)); (focus (go_simp; first | exact rfl | exact ⟨rfl, rfl⟩))) | (with_reducible refine segS_nil ?_) | (go_at_call 89; refine Hf.out.mono ?_; rintro e w3 ⟨rfl, hb⟩; have h3 := (Sw.drew HI.out).of_below hb; have C3 := hid (C0.out _ h3); have H3 := hid h3; clear h3 hb Hf C0; refine ⟨_, rfl, .inl C3.out, ?_⟩))) | go_values | go_skip | go_guarded | go_step | go_upon | dsimp only)
      · rename_i hb
        go_ret
        have hb2 : badP a b c op x y z i = true := hb
        exact ⟨by rw [wrongP_at a b c op x y z i Hop.out Hlt.out Hbs.out hb2]; rfl, H3.out.tail.tail⟩
      · rename_i hb
        go_roundw
        case rel =>
          refine ⟨i + 1, Hlt.out, rfl, fun j hj => ?_, H3.out⟩
          rcases Nat.lt_or_ge j i with h | h
          · exact Hbs.out j h
          · obtain rfl : j = i := by omega
            exact hb
        case measure => have := Hlt.out; simp [below_]; omega
    · obtain rfl : i = 3 := by omega
      clear hbs hI hi hge
      repeat' (first | go_values | go_skip | go_guarded | go_step | go_upon | dsimp only)
      go_ret
      exact ⟨by rw [wrongP_none a b c op x y z Hop.out Hbs.out]; rfl, HI.out.tail.tail⟩
  · have Hop := hid hop
    have i1 : (18 : Int) ≤ op := by omega
    have hnn : ∀ w, (binOp .eql 36 (.slice none 0 0) (.slice none 0 0)).run Tryz.prog w = .ok (.bool true) w := fun _ => by kernel_rfl
    have hk := hid (ref_kinds_great op i1 (w.alloc (.cells #[num op, num x, num y, num z] 113)))
    have H0 := hid h0
    clear h0 hS hop i1
    go_enter Tryz.func36, Tryz.ntmps36
    repeat' (first | (go_big_may; (first | (go_at_call 88; refine hk.out.mono ?_; rintro e w1 ⟨rfl, hb⟩; have H1 := hid (H0.out.of_below hb); clear hb))) | go_values | go_skip | go_guarded | go_step | go_upon | dsimp only)
    go_ret
    exact ⟨by unfold wrongP; rw [if_pos (by have := Hop.out; omega)]; rfl, H1.out.tail⟩
end Go.Proofs.YtfddmbafjniflaaGreatDoor
/-
  The document's reader: Decode out of any bytes.
-/
namespace Go.Proofs.YtfddmbafjniflaaGreatDoor
open Go Go.RowKit
def RefEnds (bs : List Nat) (L : List HP) (e : Ending) (w' : World) : Prop :=
  (match decodeE bs with
  | .error n => e = .returned (.tuple #[.agg #[num 0, .slice none 0 0], num 6, num n])
  | .ok (g, _) => ∃ fa fn fc, e = .returned (.tuple #[.agg #[num g, .slice fa fn fc], num 0, num 0])) ∧ Sw w' L
theorem RefEnds.bad {bs : List Nat} {L : List HP} {w' : World} {n : Nat} (h : decodeE bs = .error n) (hS : Sw w' L) : RefEnds bs L (.returned (.tuple #[.agg #[num 0, .slice none 0 0], num 6, num n])) w' := by
  unfold RefEnds; rw [h]; exact ⟨rfl, hS⟩
theorem RefEnds.good {bs : List Nat} {L : List HP} {w' : World} {g : Nat} {fs : List (List (List Nat))} (fa : Option Addr) (fn fc : Nat) (h : decodeE bs = .ok (g, fs)) (hS : Sw w' L) : RefEnds bs L (.returned (.tuple #[.agg #[num g, .slice fa fn fc], num 0, num 0])) w' := by
  unfold RefEnds; rw [h]; exact ⟨⟨fa, fn, fc, rfl⟩, hS⟩
theorem refD_load {w : World} {n : Nat} {c : List Value} {L : List HP} (hc : c.length = 2) (h : Sw w (ptc n c 32 :: L)) : (loadVar 32 ⟨n, 0, none⟩).run Tryz.prog w = .ok (.agg c.toArray) w :=
  run_loadVar_row (P := Tryz.prog) w n 32 32 _ (0, 0) _ h.row Tryz.underlying32 rfl (by rw [List.size_toArray, hc]; kernel_rfl)
theorem set4 (v0 v1 v2 v3 x j : Nat) (hj : j < 4) : ([num v0, num v1, num v2, num v3] : List Value).set j (num x) = [num (if 0 = j then x else v0), num (if 1 = j then x else v1), num (if 2 = j then x else v2), num (if 3 = j then x else v3)] := by
  obtain rfl | rfl | rfl | rfl : j = 0 ∨ j = 1 ∨ j = 2 ∨ j = 3 := by omega
  all_goals rfl
theorem vv_set (bs : List Nat) (q x j : Nat) (hj : j < 4) (h : bs[q + j]? = some x) : ([num (vv bs q j 0), num (vv bs q j 1), num (vv bs q j 2), num (vv bs q j 3)] : List Value).set j (num x) = [num (vv bs q (j + 1) 0), num (vv bs q (j + 1) 1), num (vv bs q (j + 1) 2), num (vv bs q (j + 1) 3)] := by
  have hE : ∀ i, vv bs q (j + 1) i = if i = j then x else vv bs q j i := by
    intro i
    by_cases h1 : i = j
    · rw [if_pos h1, h1]; exact vv_same bs q j x h
    · rw [if_neg h1]; exact vv_other bs q j i h1
  rw [set4 _ _ _ _ _ _ hj, hE, hE, hE, hE]
theorem instE_stop {a b c : Nat} {bs : List Nat} {p k n : Nat} (hk : k < 4) (h1 : ∀ j, j < k → stopAt a b c bs p j = none) (h2 : stopAt a b c bs p k = some n) : instE a b c bs p = .error n := by
  unfold instE
  obtain rfl | rfl | rfl | rfl : k = 0 ∨ k = 1 ∨ k = 2 ∨ k = 3 := by omega
  · rw [h2]
  · rw [h1 0 (by omega), h2]
  · rw [h1 0 (by omega), h1 1 (by omega), h2]
  · rw [h1 0 (by omega), h1 1 (by omega), h1 2 (by omega), h2]
theorem instE_fine {a b c : Nat} {bs : List Nat} {p : Nat} (h1 : ∀ j, j < 4 → stopAt a b c bs p j = none) : instE a b c bs p = .ok [vv bs p 4 0, vv bs p 4 1, vv bs p 4 2, vv bs p 4 3] := by
  unfold instE
  rw [h1 0 (by omega), h1 1 (by omega), h1 2 (by omega), h1 3 (by omega)]
theorem get4v (a b c d j : Nat) (hj : j < 4) : ∃ v, ([num a, num b, num c, num d] : List Value)[j]? = some v := ⟨_, List.getElem?_eq_getElem (by simpa using hj)⟩
theorem bodyE_len {a b c : Nat} {bs : List Nat} {p : Nat} : ∀ {k : Nat} {l : List (List Nat)}, bodyE a b c bs p k = .ok l → l.length = k
  | 0, l, h => by simp only [bodyE] at h; cases h; rfl
  | k + 1, l, h => by
    unfold bodyE at h
    split at h
    · cases h
    · rename_i l' h'
      split at h
      · cases h
      · cases h
        simp [bodyE_len h']
set_option maxRecDepth 100000 in
set_option maxHeartbeats 8000000 in
theorem ref_decode (w : World) (R : List HP) (B : HP) (b o cap : Nat) (a : Option Addr) (bs : List Nat) (hn : bs.length ≤ 50000) (hbyte : ∀ x ∈ bs, x < 256) (hB : Holds B b o bs)
    (ha : 0 < bs.length → a = some ⟨b, o, none⟩) (hS : Sw w (B :: R)) :
    Calls Tryz.prog 6 #[.slice a bs.length cap] w fun e w' => RefEnds bs (B :: R) e w' := by
  have h0 := (hS.allocc [.int .i64 0, .slice none 0 0] 32).allocc [.int .i64 0, .slice none 0 0] 32
  simp only [World.size_alloc] at h0
  have h1 := h0 |>.front 1 rfl
  simp only [List.eraseIdx_cons_zero, List.eraseIdx_cons_succ] at h1
  have H1 := hid h1
  have Hy := hid hbyte
  have HB := hid hB
  have i4 : (bs.length : Int) ≤ 50000 := by omega
  have bad := ref_bad
  have Bad := hid bad
  have HS := hid hS
  clear h0 h1 hS hbyte hB bad
  rcases nextE_cases bs 0 1 16 with ⟨hs, he0⟩ | ⟨n, hx, hin, ho⟩
  · have hl : bs.length = 0 := by omega
    have i5 : (bs.length : Int) < 1 := by omega
    have hd : decodeE bs = .error (0) := by unfold decodeE; rw [he0, hl]
    have Hd := hid hd
    clear hd he0 hl hs
    go_enter Tryz.func6, Tryz.ntmps6
    repeat' (first | (go_big_may; (first | (go_at_call 35; refine (Bad.out _ (0)).mono ?_; rintro e w2 ⟨rfl, hb⟩; have h2 := (H1.out).of_below hb; have f0 := h2.frozen 0; have f1 := h2.frozen 1; have c0 := h2.cell 0 rfl; have c1 := h2.cell 1 rfl; have H2 := hid ((h2.set 0 (.int .i64 0)).set 1 (.slice none 0 0)); clear h2 hb))) | go_values | go_skip | go_guarded | go_step | go_upon | dsimp only)
    refine bodyPost_ret (v := .tuple #[.agg #[.int .i64 0, .slice none 0 0], num 6, num (0)]) ?_ rfl (RefEnds.bad Hd.out (H2.out.tail.tail))
    rw [results_cell3 rfl]
    simp [asAddr, refD_load rfl H2.out]
  · obtain rfl := ha (by omega)
    have hx2 : n < 256 := Hy.out n (List.mem_of_getElem? hx)
    have i5 : ¬ (bs.length : Int) < 1 := by omega
    have i6 : (0 : Int) < bs.length := by omega
    have b0 : (w.alloc (.cells #[.int .i64 0, .slice none 0 0] 32) |>.alloc (.cells #[.int .i64 0, .slice none 0 0] 32)).cell? ⟨b, o, none⟩ = some (byt n) := HB.out _ _ (H1.out |>.front 2 rfl) 0 n hx
    rcases ho with ⟨hbad, he0⟩ | ⟨n1, n2, he0⟩
    · rcases hbad with hb1 | hb1
      · have i7 : (n : Int) < 1 := by omega
        have i8 : ¬ 16 < (n : Int) := by omega
        have hd : decodeE bs = .error (0) := by unfold decodeE; rw [he0]
        have Hd := hid hd
        clear hd he0 hb1 hx hin
        go_enter Tryz.func6, Tryz.ntmps6
        repeat' (first | (go_big_may; (first | (go_at_call 35; refine (Bad.out _ (0)).mono ?_; rintro e w2 ⟨rfl, hb⟩; have h2 := (H1.out).of_below hb; have f0 := h2.frozen 0; have f1 := h2.frozen 1; have c0 := h2.cell 0 rfl; have c1 := h2.cell 1 rfl; have H2 := hid ((h2.set 0 (.int .i64 0)).set 1 (.slice none 0 0)); clear h2 hb))) | go_values | go_skip | go_guarded | go_step | go_upon | dsimp only)
        refine bodyPost_ret (v := .tuple #[.agg #[.int .i64 0, .slice none 0 0], num 6, num (0)]) ?_ rfl (RefEnds.bad Hd.out (H2.out.tail.tail))
        rw [results_cell3 rfl]
        simp [asAddr, refD_load rfl H2.out]
      · have i7 : 16 < (n : Int) := by omega
        have i8 : ¬ (n : Int) < 1 := by omega
        have hd : decodeE bs = .error (0) := by unfold decodeE; rw [he0]
        have Hd := hid hd
        clear hd he0 hb1 hx hin
        go_enter Tryz.func6, Tryz.ntmps6
        repeat' (first | (go_big_may; (first | (go_at_call 35; refine (Bad.out _ (0)).mono ?_; rintro e w2 ⟨rfl, hb⟩; have h2 := (H1.out).of_below hb; have f0 := h2.frozen 0; have f1 := h2.frozen 1; have c0 := h2.cell 0 rfl; have c1 := h2.cell 1 rfl; have H2 := hid ((h2.set 0 (.int .i64 0)).set 1 (.slice none 0 0)); clear h2 hb))) | go_values | go_skip | go_guarded | go_step | go_upon | dsimp only)
        refine bodyPost_ret (v := .tuple #[.agg #[.int .i64 0, .slice none 0 0], num 6, num (0)]) ?_ rfl (RefEnds.bad Hd.out (H2.out.tail.tail))
        rw [results_cell3 rfl]
        simp [asAddr, refD_load rfl H2.out]
    · have i7 : ¬ (n : Int) < 1 := by omega
      have i8 : ¬ 16 < (n : Int) := by omega
      rcases nextE_cases bs 1 0 32 with ⟨hs, he1⟩ | ⟨g, hx1, hin1, ho⟩
      · have hl : bs.length = 1 := by omega
        have i9 : (bs.length : Int) < 2 := by omega
        have hd : decodeE bs = .error (1) := by unfold decodeE; rw [he0]; dsimp only; rw [he1, hl]
        have Hd := hid hd
        clear hd he0 he1 hl hs hx hin
        go_enter Tryz.func6, Tryz.ntmps6
        repeat' (first | (go_big_may; (first | (go_at_call 35; refine (Bad.out _ (1)).mono ?_; rintro e w2 ⟨rfl, hb⟩; have h2 := (H1.out).of_below hb; have f0 := h2.frozen 0; have f1 := h2.frozen 1; have c0 := h2.cell 0 rfl; have c1 := h2.cell 1 rfl; have H2 := hid ((h2.set 0 (.int .i64 0)).set 1 (.slice none 0 0)); clear h2 hb))) | go_values | go_skip | go_guarded | go_step | go_upon | dsimp only)
        refine bodyPost_ret (v := .tuple #[.agg #[.int .i64 0, .slice none 0 0], num 6, num (1)]) ?_ rfl (RefEnds.bad Hd.out (H2.out.tail.tail))
        rw [results_cell3 rfl]
        simp [asAddr, refD_load rfl H2.out]
      · have hx3 : g < 256 := Hy.out g (List.mem_of_getElem? hx1)
        have i9 : ¬ (bs.length : Int) < 2 := by omega
        have i10 : (1 : Int) < bs.length := by omega
        have b1 : (w.alloc (.cells #[.int .i64 0, .slice none 0 0] 32) |>.alloc (.cells #[.int .i64 0, .slice none 0 0] 32)).cell? ⟨b, o + 1, none⟩ = some (byt g) := HB.out _ _ (H1.out |>.front 2 rfl) 1 g hx1
        have hg1 := (HS.out.allocc [.int .i64 0, .slice none 0 0] 32).allocc [.int .i64 g, .slice none 0 0] 32
        simp only [World.size_alloc] at hg1
        have H1g := hid (hg1 |>.front 1 rfl)
        clear hg1
        rcases ho with ⟨hbad, he1⟩ | ⟨g1, g2, he1⟩
        · have i11 : 32 < (g : Int) := by omega
          have hd : decodeE bs = .error (1) := by unfold decodeE; rw [he0]; dsimp only; rw [he1]
          have Hd := hid hd
          clear hd he0 he1 hbad hx hx1 hin hin1
          go_enter Tryz.func6, Tryz.ntmps6
          repeat' (first | (go_big_may; (first | (go_at_call 35; refine (Bad.out _ (1)).mono ?_; rintro e w2 ⟨rfl, hb⟩; have h2 := (H1g.out).of_below hb; have f0 := h2.frozen 0; have f1 := h2.frozen 1; have c0 := h2.cell 0 rfl; have c1 := h2.cell 1 rfl; have H2 := hid ((h2.set 0 (.int .i64 0)).set 1 (.slice none 0 0)); clear h2 hb))) | go_values | go_skip | go_guarded | go_step | go_upon | dsimp only)
          refine bodyPost_ret (v := .tuple #[.agg #[.int .i64 0, .slice none 0 0], num 6, num (1)]) ?_ rfl (RefEnds.bad Hd.out (H2.out.tail.tail))
          rw [results_cell3 rfl]
          simp [asAddr, refD_load rfl H2.out]
        · have i11 : ¬ 32 < (g : Int) := by omega
          have hde : decodeE bs = restE g n bs := by unfold decodeE; rw [he0]; dsimp only; rw [he1]
          have Hde := hid hde
          clear hde he0 he1 hx hx1 hin hin1 g1 n1 H1
          go_enter Tryz.func6, Tryz.ntmps6
          repeat' (first | go_values | go_skip | go_guarded | go_step | go_upon | dsimp only)
          clear b0 b1
          revert H1g
          generalize World.alloc _ _ = w2
          generalize w.heap.size = n0
          intro H1
          go_loopw [7, 8] (fun v7 v8 wr => ∃ i p fs fv lvs, i ≤ n ∧ v8 = num i ∧ v7 = num p ∧ p ≤ 2 + 257 * i ∧ funcsE g n bs i = .ok (p, fs) ∧ Sw wr (ptc n0 [.int .i64 0, .slice none 0 0] 32 :: ptc (n0 + 1) [num g, fv] 32 :: sl 111 1 fv i lvs :: B :: R)) (fun v7 v8 wr => below_ n v8)
          case atStart =>
            have h5 := H1.out |>.front 2 rfl
            exact ⟨0, 2, [], .slice none 0 0, [], by omega, rfl, rfl, by omega, rfl, ((H1.out).sl_nil (E := 111) (sz := 1) none) |>.front 2 rfl |>.front 2 rfl⟩
          obtain ⟨i, p, fs, fv, lvs, hi, rfl, rfl, hp, hf, hI⟩ := hrel
          obtain ⟨af, cf, rfl⟩ := (hI |>.front 2 rfl).sl_val
          have HI := hid hI
          clear H1 hI
          have Hf := hid hf
          have ip : (p : Int) ≤ 6000 := by omega
          rcases Nat.lt_or_ge i n with hlt | hge
          · have j1 : (i : Int) < n := by omega
            rcases nextE_cases bs p 1 64 with ⟨hs, he2⟩ | ⟨l, hx, hin, ho⟩
            · have j2 : (bs.length : Int) ≤ p := by omega
              have hd : decodeE bs = .error (bs.length) := by rw [Hde.out]; exact restE_error (funcsE_next Hf.out he2) hlt
              have Hd := hid hd
              clear hd he2 hs hlt hf hp hi
              repeat' (first | (go_big_may; (first | (go_at_call 35; refine (Bad.out _ (bs.length)).mono ?_; rintro e w2 ⟨rfl, hb⟩; have h2 := (HI.out).of_below hb; have f0 := h2.frozen 0; have f1 := h2.frozen 1; have c0 := h2.cell 0 rfl; have c1 := h2.cell 1 rfl; have H2 := hid ((h2.set 0 (.int .i64 0)).set 1 (.slice none 0 0)); clear h2 hb))) | go_values | go_skip | go_guarded | go_step | go_upon | dsimp only)
              refine bodyPost_ret (v := .tuple #[.agg #[.int .i64 0, .slice none 0 0], num 6, num (bs.length)]) ?_ rfl (RefEnds.bad Hd.out (H2.out.tail.tail.tail))
              rw [results_cell3 rfl]
              simp [asAddr, refD_load rfl H2.out]
            · have hx2 : l < 256 := Hy.out l (List.mem_of_getElem? hx)
              have j2 : ¬ (bs.length : Int) ≤ p := by omega
              have j3 : (p : Int) < bs.length := by omega
              have b0 : wr.cell? ⟨b, o + p, none⟩ = some (byt l) := HB.out _ _ (HI.out |>.front 3 rfl) p l hx
              rcases ho with ⟨hbad, he2⟩ | ⟨l1, l2, he2⟩
              · rcases hbad with hb1 | hb1
                · have j4 : (l : Int) < 1 := by omega
                  have j5 : ¬ 64 < (l : Int) := by omega
                  have hd : decodeE bs = .error (p) := by rw [Hde.out]; exact restE_error (funcsE_next Hf.out he2) hlt
                  have Hd := hid hd
                  clear hd he2 hlt hf hp hi hx hin hb1
                  repeat' (first | (go_big_may; (first | (go_at_call 35; refine (Bad.out _ (p)).mono ?_; rintro e w2 ⟨rfl, hb⟩; have h2 := (HI.out).of_below hb; have f0 := h2.frozen 0; have f1 := h2.frozen 1; have c0 := h2.cell 0 rfl; have c1 := h2.cell 1 rfl; have H2 := hid ((h2.set 0 (.int .i64 0)).set 1 (.slice none 0 0)); clear h2 hb))) | go_values | go_skip | go_guarded | go_step | go_upon | dsimp only)
                  refine bodyPost_ret (v := .tuple #[.agg #[.int .i64 0, .slice none 0 0], num 6, num (p)]) ?_ rfl (RefEnds.bad Hd.out (H2.out.tail.tail.tail))
                  rw [results_cell3 rfl]
                  simp [asAddr, refD_load rfl H2.out]
                · have j4 : 64 < (l : Int) := by omega
                  have j5 : ¬ (l : Int) < 1 := by omega
                  have hd : decodeE bs = .error (p) := by rw [Hde.out]; exact restE_error (funcsE_next Hf.out he2) hlt
                  have Hd := hid hd
                  clear hd he2 hlt hf hp hi hx hin hb1
                  repeat' (first | (go_big_may; (first | (go_at_call 35; refine (Bad.out _ (p)).mono ?_; rintro e w2 ⟨rfl, hb⟩; have h2 := (HI.out).of_below hb; have f0 := h2.frozen 0; have f1 := h2.frozen 1; have c0 := h2.cell 0 rfl; have c1 := h2.cell 1 rfl; have H2 := hid ((h2.set 0 (.int .i64 0)).set 1 (.slice none 0 0)); clear h2 hb))) | go_values | go_skip | go_guarded | go_step | go_upon | dsimp only)
                  refine bodyPost_ret (v := .tuple #[.agg #[.int .i64 0, .slice none 0 0], num 6, num (p)]) ?_ rfl (RefEnds.bad Hd.out (H2.out.tail.tail.tail))
                  rw [results_cell3 rfl]
                  simp [asAddr, refD_load rfl H2.out]
              · have j4 : ¬ (l : Int) < 1 := by omega
                have j5 : ¬ 64 < (l : Int) := by omega
                have Hlt := hid hlt
                have He2 := hid he2
                have Hp := hid hp
                have Hl2 := hid l2
                clear hx hin he2 hf hlt hi hp l1 l2
                repeat' (first | go_values | go_skip | go_guarded | go_step | go_upon | dsimp only)
                clear b0
                go_loopw [7, 10, 11] (fun v7 v10 v11 wx => ∃ k ls xs, k ≤ l ∧ v11 = num k ∧ v7 = num (p + 1 + 4 * k) ∧ bodyE g n l bs (p + 1) k = .ok ls ∧ Sw wx (ptc n0 [.int .i64 0, .slice none 0 0] 32 :: ptc (n0 + 1) [num g, .slice af i cf] 32 :: sl 111 1 (.slice af i cf) i lvs :: sl 113 4 v10 k xs :: B :: R)) (fun v7 v10 v11 wx => below_ l v11)
                case atStart =>
                  exact ⟨0, [], [], by omega, rfl, rfl, rfl, ((HI.out).sl_nil (E := 113) (sz := 4) none) |>.front 3 rfl |>.front 3 rfl |>.front 3 rfl⟩
                obtain ⟨k, ls, xs, hk, rfl, rfl, hbk, hJ⟩ := hrel
                obtain ⟨al, cl, rfl⟩ := (hJ |>.front 3 rfl).sl_val
                have Hbk := hid hbk
                have Hk := hid hk
                have HJ := hid hJ
                clear hJ hbk hk HI
                rcases Nat.lt_or_ge k l with hkl | hkl
                · have m1 : (k : Int) < l := by omega
                  have Hkl := hid hkl
                  obtain ⟨q, hq⟩ : ∃ q, q = p + 1 + 4 * k := ⟨_, rfl⟩
                  have iq : (q : Int) ≤ 7000 := by have := Hp.out; have := Hk.out; have := Hl2.out; omega
                  rw [← hq]
                  have Hq := hid hq
                  clear hkl hq
                  have h6 := hid ((HJ.out).allocc [.int .i64 0, .int .i64 0, .int .i64 0, .int .i64 0] 3)
                  repeat' (first | go_values | go_skip | go_guarded | go_step | go_upon | dsimp only)
                  revert h6
                  generalize World.alloc _ _ = w6
                  generalize wr.heap.size = pb
                  intro h6
                  go_loopw [13] (fun v13 wy => ∃ j, j ≤ 4 ∧ v13 = num j ∧ (∀ z, z < j → stopAt g n l bs q z = none) ∧ Sw wy (ptc n0 [.int .i64 0, .slice none 0 0] 32 :: ptc pb [num (vv bs q j 0), num (vv bs q j 1), num (vv bs q j 2), num (vv bs q j 3)] 3 :: ptc (n0 + 1) [num g, .slice af i cf] 32 :: sl 111 1 (.slice af i cf) i lvs :: sl 113 4 (.slice al k cl) k xs :: B :: R)) (fun v13 wy => below_ 4 v13)
                  case atStart =>
                    exact ⟨0, by omega, rfl, fun z hz => absurd hz (by omega), h6.out |>.front 1 rfl⟩
                  obtain ⟨j, hj, rfl, hbs, hM⟩ := hrel
                  have HM := hid hM
                  have Hbs := hid hbs
                  clear hM hbs h6 HJ
                  rcases Nat.lt_or_ge j 4 with hj4 | hj4
                  · have m2 : (j : Int) < 4 := by omega
                    obtain ⟨at_, hat⟩ : ∃ z, z = q + j := ⟨_, rfl⟩
                    have e1 : IntKind.i64.wrap ((q : Int) + (j : Int)) = (at_ : Int) := by rw [hat]; exact IntWalk.i64_in _ (by omega)
                    have Hat := hid hat
                    have Hj4 := hid hj4
                    have err : ∀ m, stopAt g n l bs q j = some m → decodeE bs = .error m := by
                      intro m hm
                      rw [Hde.out]
                      refine restE_error (funcsE_body Hf.out He2.out (bodyE_error (bodyE_bad Hbk.out ?_) l Hkl.out)) Hlt.out
                      rw [← Hq.out]
                      exact instE_stop hj4 Hbs.out hm
                    have Err := hid err
                    clear err hat hj hj4
                    rcases Nat.lt_or_ge at_ bs.length with hin | hout
                    rotate_left
                    · have m3 : (bs.length : Int) ≤ at_ := by omega
                      have hd : decodeE bs = .error (bs.length) := Err.out _ (by unfold stopAt; rw [if_pos (by rw [← Hat.out]; exact hout)])
                      have Hd := hid hd
                      clear hd hout
                      repeat' (first | (go_big_may; (first | (go_at_call 35; refine (Bad.out _ (bs.length)).mono ?_; rintro e w2 ⟨rfl, hb⟩; have h2 := (HM.out).of_below hb; have f0 := h2.frozen 0; have f1 := h2.frozen 1; have c0 := h2.cell 0 rfl; have c1 := h2.cell 1 rfl; have H2 := hid ((h2.set 0 (.int .i64 0)).set 1 (.slice none 0 0)); clear h2 hb))) | go_values | go_skip | go_guarded | go_step | go_upon | dsimp only)
                      refine bodyPost_ret (v := .tuple #[.agg #[.int .i64 0, .slice none 0 0], num 6, num (bs.length)]) ?_ rfl (RefEnds.bad Hd.out (H2.out.tail.tail.tail.tail.tail))
                      rw [results_cell3 rfl]
                      simp [asAddr, refD_load rfl H2.out]
                    · have m3 : ¬ (bs.length : Int) ≤ at_ := by omega
                      have m4 : (at_ : Int) < bs.length := by omega
                      obtain ⟨x, hx⟩ : ∃ x, bs[at_]? = some x := ⟨_, List.getElem?_eq_getElem hin⟩
                      have hx2 : x < 256 := Hy.out x (List.mem_of_getElem? hx)
                      have b0 : wr.cell? ⟨b, o + at_, none⟩ = some (byt x) := HB.out _ _ (HM.out |>.front 5 rfl) at_ x hx
                      obtain ⟨v9, hv9⟩ := get4v (vv bs q j 0) (vv bs q j 1) (vv bs q j 2) (vv bs q j 3) j Hj4.out
                      have d0 := (HM.out |>.front 1 rfl).cell j hv9
                      have d1 := (HM.out |>.front 1 rfl).frozen j
                      have h7 := (HM.out |>.front 1 rfl).set j (num x)
                      rw [vv_set bs q x j Hj4.out (by rw [← Hat.out]; exact hx)] at h7
                      obtain ⟨W, hW⟩ : ∃ W, W = wrongAt g n l bs q j := ⟨_, rfl⟩
                      have hW2 : wrongP g n l (vv bs q (j + 1) 0) (vv bs q (j + 1) 1) (vv bs q (j + 1) 2) (vv bs q (j + 1) 3) = W := hW.symm
                      obtain ⟨iw1, iw2⟩ : -1 ≤ W ∧ W ≤ 3 := hW2 ▸ wrongP_range _ _ _ _ _ _ _
                      have hst : stopAt g n l bs q j = if 0 ≤ W ∧ W ≤ j then some (q + W.toNat) else none := by
                        unfold stopAt; rw [if_neg (by rw [← Hat.out]; omega), ← hW]
                      have Hst := hid hst
                      have wr1 := ref_wrong
                      have Wr := hid wr1
                      have HW2 := hid hW2
                      clear hx hin hv9 hW hW2 hst wr1
                      obtain ⟨u0, hu0⟩ : ∃ u, vv bs q (j + 1) 0 = u := ⟨_, rfl⟩
                      rw [hu0] at h7 HW2
                      have HU0 := hid hu0
                      clear hu0
                      obtain ⟨u1, hu1⟩ : ∃ u, vv bs q (j + 1) 1 = u := ⟨_, rfl⟩
                      rw [hu1] at h7 HW2
                      have HU1 := hid hu1
                      clear hu1
                      obtain ⟨u2, hu2⟩ : ∃ u, vv bs q (j + 1) 2 = u := ⟨_, rfl⟩
                      rw [hu2] at h7 HW2
                      have HU2 := hid hu2
                      clear hu2
                      obtain ⟨u3, hu3⟩ : ∃ u, vv bs q (j + 1) 3 = u := ⟨_, rfl⟩
                      rw [hu3] at h7 HW2
                      have HU3 := hid hu3
                      clear hu3
                      have H7 := hid h7
                      have S7 := hid (show ∀ (w' : World) (R' : List HP), Sw w' (ptc pb [num u0, num u1, num u2, num u3] 3 :: R') → w'.cell? ⟨pb, 0, none⟩ = some (num u0) ∧ w'.cell? ⟨pb, 1, none⟩ = some (num u1) ∧ w'.cell? ⟨pb, 2, none⟩ = some (num u2) ∧ w'.cell? ⟨pb, 3, none⟩ = some (num u3) from fun w' R' h => ⟨h.cell 0 rfl, h.cell 1 rfl, h.cell 2 rfl, h.cell 3 rfl⟩)
                      have C7 := hid (S7.out _ _ (Sw.drew H7.out))
                      have h8 := Sw.drew (H7.out.allocc [.int .i64 0, .int .i64 0, .int .i64 0, .int .i64 0] 113)
                      have C8 := hid (S7.out _ _ (h8 |>.front 1 rfl))
                      clear h7 h8
                      repeat' (first | (go_big_may; (first | ((with_reducible refine wp_region_segS (fun w' => w'.cell? ⟨pb, 0, none⟩ = some (num u0) ∧ w'.cell? ⟨pb, 1, none⟩ = some (num u1) ∧ w'.cell? ⟨pb, 2, none⟩ = some (num u2) ∧ w'.cell? ⟨pb, 3, none⟩ = some (num u3)) mixed (by decide +kernel) ?_ ?_); (focus (exact C7.out))) | ((with_reducible apply segS_lookN); (focus (rfl)); (focus (first | (go_simp; done) | (go_simp; exact rfl) | exact rfl)); (focus (rfl)); (focus (intro wq hq; obtain ⟨q0, q1, q2, q3⟩ := hq; go_simp; first | exact rfl | exact ⟨rfl, rfl⟩))) | ((with_reducible apply segS_callN); (focus (rfl)); (focus (first | (go_simp; done) | (go_simp; exact rfl) | exact rfl)); (focus (rfl)); (focus (go_simp; first | exact rfl | exact ⟨rfl, rfl⟩))) | (with_reducible refine segS_nil ?_) | (((with_reducible apply segS_actN); (focus (rfl)); (focus (first | (go_simp; done) | (go_simp; exact rfl) | exact rfl)); (focus (rfl)); (focus (go_simp; first | exact rfl | exact ⟨rfl, rfl⟩))); (focus (exact .inl C8.out))) | (((with_reducible apply segS_unitN); (focus (rfl)); (focus (first | (go_simp; done) | (go_simp; exact rfl) | exact rfl)); (focus (rfl)); (focus (go_simp; first | exact rfl | exact ⟨rfl, rfl⟩))); (focus (exact .inr rfl))))) | go_values | go_skip | go_guarded | go_step | go_upon | dsimp only)
                      have h9 := H7.out.after_alloc (.cells [num u0, num u1, num u2, num u3].toArray 113)
                      have k0 := (h9 |>.front 2 rfl).cell 0 rfl
                      have hwr := Wr.out _ _ g n l u0 u1 u2 u3 (Sw.drew h9)
                      rw [HW2.out] at hwr
                      have Hwr := hid hwr
                      clear h9 hwr H7 S7 C7 C8 b0 d0 d1
                      by_cases hc : 0 ≤ W ∧ W ≤ j
                      · obtain ⟨m, hm⟩ : ∃ m : Nat, W = m := ⟨W.toNat, by omega⟩
                        subst hm
                        have p1 : (0 : Int) ≤ m := by omega
                        have p2 : (m : Int) ≤ j := by omega
                        have e2 : IntKind.i64.wrap ((q : Int) + (m : Int)) = ((q + m : Nat) : Int) := IntWalk.i64_in _ (by omega)
                        have hd : decodeE bs = .error (q + m) := Err.out _ (by rw [Hst.out, if_pos hc]; rfl)
                        have Hd := hid hd
                        clear hd hc iw1 iw2
                        go_simp
                        repeat' (first | (go_big_may; (first | (go_at_call 36; refine Hwr.out.mono ?_; rintro e w9 ⟨rfl, h9⟩; have H9 := hid (h9 |>.front 1 rfl); clear h9 k0) | (go_at_call 35; refine (Bad.out _ (q + m)).mono ?_; rintro e w2 ⟨rfl, hb⟩; have h2 := (H9.out).of_below hb; have f0 := h2.frozen 0; have f1 := h2.frozen 1; have c0 := h2.cell 0 rfl; have c1 := h2.cell 1 rfl; have H2 := hid ((h2.set 0 (.int .i64 0)).set 1 (.slice none 0 0)); clear h2 hb))) | go_values | go_skip | go_guarded | go_step | go_upon | dsimp only)
                        refine bodyPost_ret (v := .tuple #[.agg #[.int .i64 0, .slice none 0 0], num 6, num (q + m)]) ?_ rfl (RefEnds.bad Hd.out (H2.out.tail.tail.tail.tail.tail))
                        rw [results_cell3 rfl]
                        simp [asAddr, refD_load rfl H2.out]
                      · have Hno := hid (show stopAt g n l bs q j = none by rw [Hst.out, if_neg hc])
                        have hc2 : W < 0 ∨ (j : Int) < W := by omega
                        rcases hc2 with p1 | p1
                        · have p2 : ¬ (0 : Int) ≤ W := by omega
                          clear hc iw1 iw2
                          go_simp
                          repeat' (first | (go_big_may; (first | (go_at_call 36; refine Hwr.out.mono ?_; rintro e w9 ⟨rfl, h9⟩; have H9 := hid (h9 |>.front 1 rfl); clear h9 k0))) | go_values | go_skip | go_guarded | go_step | go_upon | dsimp only)
                          go_roundw
                          case rel =>
                            refine ⟨j + 1, Hj4.out, rfl, fun z hz => ?_, ?_⟩
                            · rcases Nat.lt_or_ge z j with h | h
                              · exact Hbs.out z h
                              · obtain rfl : z = j := by omega
                                exact Hno.out
                            · rw [HU0.out, HU1.out, HU2.out, HU3.out]
                              exact H9.out
                          case measure => have := Hj4.out; simp [below_]; omega
                        · have p2 : (0 : Int) ≤ W := by omega
                          have p3 : ¬ W ≤ (j : Int) := by omega
                          clear hc iw1 iw2
                          go_simp
                          repeat' (first | (go_big_may; (first | (go_at_call 36; refine Hwr.out.mono ?_; rintro e w9 ⟨rfl, h9⟩; have H9 := hid (h9 |>.front 1 rfl); clear h9 k0))) | go_values | go_skip | go_guarded | go_step | go_upon | dsimp only)
                          go_roundw
                          case rel =>
                            refine ⟨j + 1, Hj4.out, rfl, fun z hz => ?_, ?_⟩
                            · rcases Nat.lt_or_ge z j with h | h
                              · exact Hbs.out z h
                              · obtain rfl : z = j := by omega
                                exact Hno.out
                            · rw [HU0.out, HU1.out, HU2.out, HU3.out]
                              exact H9.out
                          case measure => have := Hj4.out; simp [below_]; omega
                  · obtain rfl : j = 4 := by omega
                    have m2 : ¬ ((4 : Nat) : Int) < 4 := by omega
                    have Hin := hid (instE_fine Hbs.out)
                    obtain ⟨u0, hu0⟩ : ∃ u, vv bs q 4 0 = u := ⟨_, rfl⟩
                    obtain ⟨u1, hu1⟩ : ∃ u, vv bs q 4 1 = u := ⟨_, rfl⟩
                    obtain ⟨u2, hu2⟩ : ∃ u, vv bs q 4 2 = u := ⟨_, rfl⟩
                    obtain ⟨u3, hu3⟩ : ∃ u, vv bs q 4 3 = u := ⟨_, rfl⟩
                    rw [hu0, hu1, hu2, hu3] at HM
                    have Hins := Hin.out
                    rw [hu0, hu1, hu2, hu3] at Hins
                    have Hins2 := hid Hins
                    clear Hins Hin hu0 hu1 hu2 hu3 hj hj4 Hbs
                    have S7 := hid (show ∀ (w' : World) (R' : List HP), Sw w' (ptc pb [num u0, num u1, num u2, num u3] 3 :: R') → w'.cell? ⟨pb, 0, none⟩ = some (num u0) ∧ w'.cell? ⟨pb, 1, none⟩ = some (num u1) ∧ w'.cell? ⟨pb, 2, none⟩ = some (num u2) ∧ w'.cell? ⟨pb, 3, none⟩ = some (num u3) from fun w' R' h => ⟨h.cell 0 rfl, h.cell 1 rfl, h.cell 2 rfl, h.cell 3 rfl⟩)
                    have h7 := HM.out |>.front 1 rfl
                    simp only [List.eraseIdx_cons_zero, List.eraseIdx_cons_succ] at h7
                    have C7 := hid (S7.out _ _ (Sw.drew h7))
                    have h8 := (Sw.drew h7).allocc [num u0, num u1, num u2, num u3] 113
                    have C8 := hid (S7.out _ _ (h8 |>.front 1 rfl))
                    have H8 := hid (h8.tail |>.front 3 rfl |>.front 3 rfl |>.front 3 rfl |>.front 3 rfl |>.front 4 rfl)
                    clear h7 h8
                    repeat' (first | (go_big_may; (first | ((with_reducible refine wp_region_segS (fun w' => w'.cell? ⟨pb, 0, none⟩ = some (num u0) ∧ w'.cell? ⟨pb, 1, none⟩ = some (num u1) ∧ w'.cell? ⟨pb, 2, none⟩ = some (num u2) ∧ w'.cell? ⟨pb, 3, none⟩ = some (num u3)) mixed (by decide +kernel) ?_ ?_); (focus (exact C7.out))) | ((with_reducible apply segS_lookN); (focus (rfl)); (focus (first | (go_simp; done) | (go_simp; exact rfl) | exact rfl)); (focus (rfl)); (focus (intro wq hq; obtain ⟨q0, q1, q2, q3⟩ := hq; go_simp; first | exact rfl | exact ⟨rfl, rfl⟩))) | ((with_reducible apply segS_callN); (focus (rfl)); (focus (first | (go_simp; done) | (go_simp; exact rfl) | exact rfl)); (focus (rfl)); (focus (go_simp; first | exact rfl | exact ⟨rfl, rfl⟩))) | (with_reducible refine segS_nil ?_) | (((with_reducible apply segS_actN); (focus (rfl)); (focus (first | (go_simp; done) | (go_simp; exact rfl) | exact rfl)); (focus (rfl)); (focus (go_simp; first | exact rfl | exact ⟨rfl, rfl⟩))); (focus (exact .inl C8.out))))) | go_values | go_skip | go_guarded | go_step | go_upon | dsimp only)
                    with_reducible apply segS_norm
                    (focus (first | (go_simp; done) | (go_simp; exact rfl) | exact rfl))
                    refine segS_append_sl 113 111 (.agg #[.int .i64 0, .int .i64 0, .int .i64 0, .int .i64 0]) 4 32 (by decide) Tryz.underlying111 info_inst rfl rfl (.tmp 154) (.tmp 168) rfl (.slice al k cl) k xs _ rfl H8.out _ 1 [num u0, num u1, num u2, num u3] rfl (Src.freshN wr.drew [num u0, num u1, num u2, num u3] 113 (num4_one u0 u1 u2 u3)) (by have := Hkl.out; have := Hl2.out; omega) ?_
                    intro v1 y1 k4
                    try simp only [List.eraseIdx_cons_zero, List.eraseIdx_cons_succ] at k4
                    have C9 := hid (S7.out _ _ (k4 |>.front 1 rfl))
                    have H9 := hid ((k4 |>.front 1 rfl).tail |>.front 3 rfl |>.front 3 rfl |>.front 3 rfl)
                    clear k4 C7 C8
                    refine ⟨.inl C9.out, ?_⟩
                    repeat' (first | (go_big_may; (first | ((with_reducible apply segS_lookN); (focus (rfl)); (focus (first | (go_simp; done) | (go_simp; exact rfl) | exact rfl)); (focus (rfl)); (focus (intro wq hq; (try dsimp only at hq); go_simp; first | exact rfl | exact ⟨rfl, rfl⟩))) | ((with_reducible apply segS_callN); (focus (rfl)); (focus (first | (go_simp; done) | (go_simp; exact rfl) | exact rfl)); (focus (rfl)); (focus (go_simp; first | exact rfl | exact ⟨rfl, rfl⟩))) | (with_reducible refine segS_nil ?_))) | go_values | go_skip | go_guarded | go_step | go_upon | dsimp only)
                    go_roundw
                    case rel =>
                      refine ⟨k + 1, ls ++ [[u0, u1, u2, u3]], xs ++ [num u0, num u1, num u2, num u3], Hkl.out, rfl, ?_, bodyE_ok Hbk.out (by rw [← Hq.out]; exact Hins2.out), H9.out⟩
                      rw [show p + 1 + 4 * (k + 1) = q + 4 by have := Hq.out; omega]; rfl
                    case measure => have := Hkl.out; simp [below_]; omega
                · obtain rfl : k = l := by have := Hk.out; omega
                  have m1 : ¬ (k : Int) < k := by omega
                  have HJ2 := hid (HJ.out |>.front 2 rfl)
                  have q0 := (HJ.out |>.front 1 rfl).cell 1 rfl
                  have r0 := (HJ.out |>.front 1 rfl).frozen 1
                  clear hkl
                  repeat' (first | (go_big_may; (first | (at_builtin; refine append_funcs rfl (.tmp 173) (.tmp 175) rfl _ i lvs _ rfl ((HJ2.out).after_alloc _) _ 1 _ rfl (Src.fresh1 _ _ _ rfl) (by have := Hlt.out; omega) ?_; intro v9 w9 h9; obtain ⟨a9, cap9, rfl⟩ := h9.sl_val; have s0 := (h9 |>.front 2 rfl).cell 1 rfl; have t0 := (h9 |>.front 2 rfl).frozen 1; have H9 := hid h9; clear h9))) | go_values | go_skip | go_guarded | go_step | go_upon | dsimp only)
                  have h10 := (H9.out |>.front 2 rfl).set 1 (.slice a9 (i + 1) cap9)
                  simp only [List.eraseIdx_cons_zero, List.eraseIdx_cons_succ] at h10
                  have h11 := (h10 |>.front 3 rfl).tail
                  simp only [List.eraseIdx_cons_zero, List.eraseIdx_cons_succ] at h11
                  have h12 := h11 |>.front 2 rfl
                  simp only [List.eraseIdx_cons_zero, List.eraseIdx_cons_succ] at h12
                  have H11 := hid h12
                  clear h10 h11 h12
                  go_roundw
                  case rel =>
                    refine ⟨i + 1, p + 1 + 4 * k, fs ++ [ls], .slice a9 (i + 1) cap9, lvs ++ [Value.slice al k cl], Hlt.out, rfl, rfl, by have := Hp.out; have := Hl2.out; omega, funcsE_ok Hf.out He2.out Hbk.out, ?_⟩
                    exact H11.out
                  case measure => have := Hlt.out; simp [below_]; omega
          · obtain rfl : i = n := by omega
            have j1 : ¬ (i : Int) < i := by omega
            rcases Nat.lt_or_ge p bs.length with hpl | hpl
            · have j2 : (p : Int) < bs.length := by omega
              have hd : decodeE bs = .error (p) := by rw [Hde.out]; unfold restE; rw [Hf.out]; exact if_pos hpl
              have Hd := hid hd
              clear hd hf hp hi hge hpl
              repeat' (first | (go_big_may; (first | (go_at_call 35; refine (Bad.out _ (p)).mono ?_; rintro e w2 ⟨rfl, hb⟩; have h2 := (HI.out).of_below hb; have f0 := h2.frozen 0; have f1 := h2.frozen 1; have c0 := h2.cell 0 rfl; have c1 := h2.cell 1 rfl; have H2 := hid ((h2.set 0 (.int .i64 0)).set 1 (.slice none 0 0)); clear h2 hb))) | go_values | go_skip | go_guarded | go_step | go_upon | dsimp only)
              refine bodyPost_ret (v := .tuple #[.agg #[.int .i64 0, .slice none 0 0], num 6, num (p)]) ?_ rfl (RefEnds.bad Hd.out (H2.out.tail.tail.tail))
              rw [results_cell3 rfl]
              simp [asAddr, refD_load rfl H2.out]
            · have j2 : ¬ (p : Int) < bs.length := by omega
              have Hd := hid (show decodeE bs = .ok (g, fs) by rw [Hde.out]; unfold restE; rw [Hf.out]; exact if_neg (by omega))
              have h3 := HI.out
              have f0 := h3.frozen 0
              have f1 := h3.frozen 1
              have c0 := h3.cell 0 rfl
              have c1 := h3.cell 1 rfl
              have c2 := (h3 |>.front 1 rfl).cell 0 rfl
              have c3 := (h3 |>.front 1 rfl).cell 1 rfl
              have H2 := hid ((h3.set 0 (num g)).set 1 (.slice af i cf))
              clear h3 hf hp hi hge hpl
              repeat' (first | go_values | go_skip | go_guarded | go_step | go_upon | dsimp only)
              refine bodyPost_ret (v := .tuple #[.agg #[num g, .slice af i cf], num 0, num 0]) ?_ rfl (RefEnds.good af i cf Hd.out H2.out.tail.tail.tail)
              rw [results_cell3 rfl]
              simp [asAddr, refD_load rfl H2.out]
end Go.Proofs.YtfddmbafjniflaaGreatDoor
