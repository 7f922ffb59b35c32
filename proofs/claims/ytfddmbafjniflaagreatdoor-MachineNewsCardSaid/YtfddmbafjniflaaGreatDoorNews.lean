/-
  MachineNews: the walk.
-/
import Derived.Test.YtfddmbafjniflaaGreatDoorTold3
import Derived.Test.YtfddmbafjniflaaGreatDoorRefD
import Derived.Test.YtfddmbafjniflaaGreatDoorGoal
import Derived.Test.YtfddmbafjniflaaGreatDoorAud
namespace Go.Proofs.YtfddmbafjniflaaGreatDoor
open Go Go.RowKit
/-- The words that the law asks of. -/
def cutW (words : Int) : Int := if 65536 < words ∧ words ≤ 16777216 then 65536 else words
theorem Sw.sl_cells {w : World} {l : List HP} {E : TypeId} {sz b o n cap : Nat} {xs : List Value} (h : Sw w (sl E sz (.slice (some ⟨b, o, none⟩) n cap) n xs :: l)) {i : Nat} {v : Value} (hn : 0 < n) (hi : xs[i]? = some v) : w.cell? ⟨b, o + i, none⟩ = some v := by
  have hl := h.sl_len
  rcases h.sl_open with ⟨h0, _⟩ | ⟨b', o', cap', c, he, _, _, _, h4, h5⟩
  · omega
  · simp only [Value.slice.injEq, Option.some.injEq, Addr.mk.injEq] at he
    obtain ⟨⟨rfl, rfl, _⟩, _⟩ := he
    refine h5.cell (o + i) ?_
    have hi2 : i < n * sz := by rw [← hl]; exact (List.getElem?_eq_some_iff.1 hi).1
    rw [← h4, take_drop_get hi2] at hi
    exact hi
theorem Sw.sl_addr {w : World} {l : List HP} {E : TypeId} {sz n : Nat} {v : Value} {xs : List Value} (h : Sw w (sl E sz v n xs :: l)) (hn : 0 < n) : ∃ b o cap, v = .slice (some ⟨b, o, none⟩) n cap := by
  rcases h.sl_open with ⟨h0, _⟩ | ⟨b, o, cap, _, he, _⟩
  · omega
  · exact ⟨b, o, cap, he⟩
theorem first_ring (np : Nat) (h : 1 ≤ np) : ((List.replicate np ([] : List Nat)).set 0 [0])[0]? = some [0] := by
  rw [List.getElem?_set_self (by rw [List.length_replicate]; exact h)]
theorem ring_len (np : Nat) (h : np ≤ 64) : ((List.replicate np ([] : List Nat)).set 0 [0]).length ≤ 64 := by
  simpa using h
theorem ZeroAt.drewN {v : Value} {n : Nat} {w : World} (h : ZeroAt v n w) (k : Nat) : ZeroAt v n (w.drewN k) := h
theorem ViewAt.drewN {g : Nat} {g1a : Option Addr} {gsb gso sb so sc : Nat} {w : World} (h : ViewAt g g1a gsb gso sb so sc w) (k : Nat) : ViewAt g g1a gsb gso sb so sc (w.drewN k) := ⟨h.gl, h.g0, h.g1, h.g2, h.st⟩
theorem ZeroAt.gl {a : Option Addr} {n c : Nat} {w : World} (h : ZeroAt (.slice a n c) n w) : ∀ i, i < n → ∃ b o, a = some ⟨b, o, none⟩ ∧ w.cell? ⟨b, o + i, none⟩ = some (.int .i64 0) := by
  obtain ⟨a', c', he, hz⟩ := h
  simp only [Value.slice.injEq] at he
  obtain ⟨rfl, _, rfl⟩ := he
  exact hz
def SN (n0 vb g : Nat) (g1a : Option Addr) (g1c gsb gso gsc sb so s2c mb g2b g2o g2c gg2 sb2 gb2 np Wn : Nat) (w' : World) : Prop :=
  w'.cell? ⟨vb, 0, none⟩ = some (.int .i64 0) ∧ w'.cell? ⟨vb, 1, none⟩ = some (.int .i64 0) ∧ w'.cell? ⟨vb, 2, none⟩ = some (.int .i64 0) ∧ w'.cell? ⟨vb, 3, none⟩ = some (.slice g1a g g1c) ∧ w'.cell? ⟨vb, 4, none⟩ = some (.slice (some ⟨gsb, gso, none⟩) 1 gsc) ∧
    w'.cell? ⟨vb, 5, none⟩ = some (.slice none 0 0) ∧ w'.cell? ⟨vb, 6, none⟩ = some (.int .i64 0) ∧ w'.cell? ⟨vb, 7, none⟩ = some (.int .i64 0) ∧ w'.cell? ⟨vb, 8, none⟩ = some (.int .i64 0) ∧
    w'.cell? ⟨gsb, gso + 2, none⟩ = some (.slice (some ⟨sb, so, none⟩) 16 s2c) ∧ w'.cell? ⟨mb, 2, none⟩ = some (.slice (some ⟨g2b, g2o, none⟩) 1 g2c) ∧ w'.cell? ⟨mb, 3, none⟩ = some (.slice (some ⟨gb2, 0, none⟩) g g) ∧
    w'.cell? ⟨g2b, g2o, none⟩ = some (ptr gg2) ∧ w'.cell? ⟨gg2, 4, none⟩ = some (.slice (some ⟨sb2, 0, none⟩) 16 16) ∧ w'.cell? ⟨n0, 0, none⟩ = some (num np) ∧ w'.cell? ⟨n0, 1, none⟩ = some (num Wn)
theorem SN.of {n0 vb g g1c gsb gso gsc sb so s2c mb g2b g2o g2c gg2 sb2 gb2 np Wn : Nat} {g1a : Option Addr} {w' : World} {cm : List Value} {T1 T2 T3 T4 T5 T6 T7 T8 T9 : TypeId} {x y z2 : Value} {q0 q1 q2 q3 : Value} {zx zy : List Value} {R R' : List HP}
    (hc2 : cm[2]? = some (.slice (some ⟨g2b, g2o, none⟩) 1 g2c)) (hc3 : cm[3]? = some (.slice (some ⟨gb2, 0, none⟩) g g))
    (h : Sw w' (ptc mb cm T1 :: sl T2 1 (.slice (some ⟨g2b, g2o, none⟩) 1 g2c) 1 [ptr gg2] :: ptc gg2 [q0, q1, q2, q3, .slice (some ⟨sb2, 0, none⟩) 16 16] T3 :: ptc sb2 zx T4 :: sl T5 1 z2 g zy :: ptc vb [.int .i64 0, .int .i64 0, .int .i64 0, .slice g1a g g1c, .slice (some ⟨gsb, gso, none⟩) 1 gsc, .slice none 0 0, .int .i64 0, .int .i64 0, .int .i64 0] T6 ::
      sl T7 1 (.slice g1a g g1c) g zy :: sl T8 3 (.slice (some ⟨gsb, gso, none⟩) 1 gsc) 1 [num 1, num 0, .slice (some ⟨sb, so, none⟩) 16 s2c] :: R)) (hb : Sw w' (ptc n0 [num np, num Wn, x, y] T9 :: R')) : SN n0 vb g g1a g1c gsb gso gsc sb so s2c mb g2b g2o g2c gg2 sb2 gb2 np Wn w' :=
  ⟨(h |>.front 5 rfl).cell 0 rfl, (h |>.front 5 rfl).cell 1 rfl, (h |>.front 5 rfl).cell 2 rfl, (h |>.front 5 rfl).cell 3 rfl, (h |>.front 5 rfl).cell 4 rfl, (h |>.front 5 rfl).cell 5 rfl, (h |>.front 5 rfl).cell 6 rfl, (h |>.front 5 rfl).cell 7 rfl, (h |>.front 5 rfl).cell 8 rfl,
    (h |>.front 7 rfl).sl_cells (i := 2) (by omega) rfl, h.cell 2 hc2, h.cell 3 hc3, (h |>.front 1 rfl).sl_cells (i := 0) (by omega) rfl, (h |>.front 2 rfl).cell 4 rfl, hb.cell 0 rfl, hb.cell 1 rfl⟩
theorem SN.drewN {n0 vb g g1c gsb gso gsc sb so s2c mb g2b g2o g2c gg2 sb2 gb2 np Wn : Nat} {g1a : Option Addr} {w : World} (h : SN n0 vb g g1a g1c gsb gso gsc sb so s2c mb g2b g2o g2c gg2 sb2 gb2 np Wn w) (k : Nat) : SN n0 vb g g1a g1c gsb gso gsc sb so s2c mb g2b g2o g2c gg2 sb2 gb2 np Wn (w.drewN k) := h
theorem zs_get (n i : Nat) (h : i < n) : (zs n)[i]? = some (.int .i64 0) := by
  unfold zs; rw [List.getElem?_replicate, if_pos h]
theorem ZeroAt.row {b n c : Nat} {w : World} {R : List HP} {T : TypeId} (h : Sw w (ptc b (zs n) T :: R)) : ZeroAt (.slice (some ⟨b, 0, none⟩) n c) n w :=
  ⟨_, _, rfl, fun i hi => ⟨b, 0, rfl, by have := h.cell i (zs_get n i hi); simpa using this⟩⟩
theorem viewAt_of {w : World} {R2 R3 : List HP} {g g1c gsb gso gsc sb so sc : Nat} {g1a : Option Addr} {E : TypeId} (h1 : ZeroAt (.slice g1a g g1c) g w) (h2 : Sw w (sl E 3 (.slice (some ⟨gsb, gso, none⟩) 1 gsc) 1 [num 1, num 0, .slice (some ⟨sb, so, none⟩) 16 sc] :: R2)) (h3 : Sw w (sl 3 1 (.slice (some ⟨sb, so, none⟩) 16 sc) 16 (zs 16) :: R3)) : ViewAt g g1a gsb gso sb so sc w :=
  ⟨h1.gl, h2.sl_cells (i := 0) (by omega) rfl, h2.sl_cells (i := 1) (by omega) rfl, h2.sl_cells (i := 2) (by omega) rfl, fun i hi => h3.sl_cells (i := i) (by omega) (zs_get 16 i hi)⟩
theorem status_first : statusOf false [1] 0 = 0 := by decide
theorem cutW_le {ps words : Int} (h : mayC ps (cutW words) = true) : ∃ np k : Nat, ps = np ∧ cutW words = (k * 64 : Nat) ∧ 1 ≤ np ∧ np ≤ 64 ∧ 4 ≤ k ∧ k ≤ 1024 := by
  unfold mayC at h
  simp only [Bool.and_eq_true, decide_eq_true_eq] at h
  have h1 : cutW words ≤ 65536 := by
    unfold cutW at h ⊢
    split
    · omega
    · rename_i hn
      rw [if_neg hn] at h
      omega
  generalize cutW words = W at *
  exact ⟨ps.toNat, W.toNat / 64, by omega, by omega, by omega, by omega, by omega, by omega⟩
set_option maxRecDepth 100000 in
set_option maxHeartbeats 8000000 in
theorem news (m64 : Mul64Said) (w : World) (ps words : Int) (pf pq : Nat) (b o cap : Nat) (a : Option Addr) (bs : List Nat) (hbyte : ∀ x ∈ bs, x < 256) (hB : Holds (old w) b o bs) (ha : 0 < bs.length → a = some ⟨b, o, none⟩) :
    Calls Tryz.prog 3 #[.agg #[.int .i64 ps, .int .i64 words, .float .f64 pf, .float .f64 pq], .slice a bs.length cap] w fun e w' => e = .returned (.bool true) ∧ Below w.heap.size w w' := by
  have hto := hid (told_true m64)
  have h0 := (Sw.old w).allocc [.int .i64 ps, .int .i64 words, .float .f64 pf, .float .f64 pq] 24
  rcases Nat.lt_or_ge 600 bs.length with hlen | hlen
  · have i1 : (600 : Int) < bs.length := by omega
    have H0 := hid h0
    clear h0 hlen hbyte hB ha
    go_enter Tryz.func3, Tryz.ntmps3
    repeat' (first | (go_big_may; (first | (go_at_call 4; refine (hto.out _).mono ?_; rintro e w1 ⟨rfl, hb⟩; have H1 := hid (H0.out.of_below hb); clear hb))) | go_values | go_skip | go_guarded | go_step | go_upon | dsimp only)
    go_ret
    exact ⟨rfl, H1.out.tail.below⟩
  have i1 : ¬ (600 : Int) < bs.length := by omega
  have Dc := hid (fun (w1 : World) (R : List HP) (hS : Sw w1 (old w :: R)) => ref_decode w1 R (old w) b o cap a bs (by omega) hbyte hB ha hS)
  have Nb := hid (fun (w1 : World) (R : List HP) (ps words : Int) (x y : Value) (h : mayC ps words = true) (m : Nat) (hd : decodeE bs = .error m) (hS : Sw w1 (old w :: R)) => new_bad w1 R (old w) b o cap a bs ps words x y h m hd (by omega) hbyte hB ha hS)
  have Ng := hid (fun (w1 : World) (R : List HP) (np k pf pq g : Nat) (fs : List (List (List Nat))) (hd : decodeE bs = .ok (g, fs)) (hp1 : 1 ≤ np) (hp2 : np ≤ 64) (h4 : 4 ≤ k) (hk : k ≤ 262144) (hS : Sw w1 (old w :: R)) => new_good m64 w1 R (old w) b o cap a bs np k pf pq g fs hd (by omega) hbyte hB ha hp1 hp2 h4 hk hS)
  have Rg := hid ref_goal
  clear h0 hbyte hB ha hlen m64
  have three : ∃ X, cutW words = X ∧ ((65536 < words ∧ words ≤ 16777216 ∧ X = 65536) ∨ (¬ 65536 < words ∧ X = words) ∨ (65536 < words ∧ ¬ words ≤ 16777216 ∧ X = words)) := by
    refine ⟨_, rfl, ?_⟩
    unfold cutW
    by_cases h1 : 65536 < words
    · by_cases h2 : words ≤ 16777216
      · exact .inl ⟨h1, h2, if_pos ⟨h1, h2⟩⟩
      · exact .inr (.inr ⟨h1, h2, if_neg (fun h => h2 h.2)⟩)
    · exact .inr (.inl ⟨h1, if_neg (fun h => h1 h.1)⟩)
  obtain ⟨X, hW, hc⟩ := three
  have HW := hid hW
  have H0 := hid ((Sw.old w).allocc [.int .i64 ps, .int .i64 X, .float .f64 pf, .float .f64 pq] 24)
  have lw : w.heap.size < (w.alloc (.cells [.int .i64 ps, .int .i64 X, .float .f64 pf, .float .f64 pq].toArray 24)).heap.size := H0.out.lt'
  clear hW
  rcases hc with ⟨i2, i3, hX⟩ | ⟨i2, hX⟩ | ⟨i2, i3, hX⟩
  · have HX := hid hX
    clear hX
    rcases hd : decodeE bs with md | ⟨g, fs⟩
    · have Hd := hid hd
      clear hd
      cases hm : mayC ps X with
      | false =>
        have Hm := hid hm
        clear hm
        go_enter Tryz.func3, Tryz.ntmps3
        repeat' (first | go_values | go_skip | go_guarded | go_step | go_upon | dsimp only)
        try rw [← HX.out]
        refine (new_no _ ps X _ _ _ Hm.out).mono ?_
        rintro e w1 ⟨rfl, hb⟩
        have H1 := hid ((H0.out.of_below hb) |>.front 1 rfl)
        clear hb
        repeat' (first | (go_big_may; (first | (go_at_call 6; refine (Dc.out _ _ H1.out).mono ?_; rintro e w2 he; unfold RefEnds at he; rw [Hd.out] at he; obtain ⟨he, h2⟩ := he; subst he; have k0 := (h2 |>.front 1 rfl).cell 0 rfl; have k1 := (h2 |>.front 1 rfl).cell 1 rfl; have k2 := (h2 |>.front 1 rfl).cell 2 rfl; have k3 := (h2 |>.front 1 rfl).cell 3 rfl; have kl := (h2 |>.front 1 rfl).lt'; have H2 := hid (h2.after_alloc (.cells [.int .i64 0, .slice none 0 0].toArray 32)); clear h2) | (go_at_call 7; refine (ref_may _ ps X _ _).mono ?_; rintro e w3 ⟨he, hb⟩; rw [Hm.out] at he; subst he; have H3 := hid (H2.out.of_below hb); clear hb) | (go_at_call 4; refine (hto.out _).mono ?_; rintro e w4 ⟨rfl, hb⟩; have H4 := hid (H3.out.of_below hb); clear hb))) | go_values | go_skip | go_guarded | go_step | go_upon | dsimp only)
        go_ret
        exact ⟨rfl, H4.out.below⟩
      | true =>
        have Hm := hid hm
        clear hm
        go_enter Tryz.func3, Tryz.ntmps3
        repeat' (first | go_values | go_skip | go_guarded | go_step | go_upon | dsimp only)
        try rw [← HX.out]
        refine (Nb.out _ _ ps X _ _ Hm.out md Hd.out (H0.out |>.front 1 rfl)).mono ?_
        rintro e w1 ⟨rfl, h1⟩
        have H1 := hid h1
        clear h1
        repeat' (first | (go_big_may; (first | (go_at_call 6; refine (Dc.out _ _ H1.out).mono ?_; rintro e w2 he; unfold RefEnds at he; rw [Hd.out] at he; obtain ⟨he, h2⟩ := he; subst he; have k0 := (h2 |>.front 1 rfl).cell 0 rfl; have k1 := (h2 |>.front 1 rfl).cell 1 rfl; have k2 := (h2 |>.front 1 rfl).cell 2 rfl; have k3 := (h2 |>.front 1 rfl).cell 3 rfl; have kl := (h2 |>.front 1 rfl).lt'; have H2 := hid (h2.after_alloc (.cells [.int .i64 0, .slice none 0 0].toArray 32)); clear h2) | (go_at_call 7; refine (ref_may _ ps X _ _).mono ?_; rintro e w3 ⟨he, hb⟩; rw [Hm.out] at he; subst he; have H3 := hid (H2.out.of_below hb); clear hb) | (go_at_call 4; refine (hto.out _).mono ?_; rintro e w4 ⟨rfl, hb⟩; have H4 := hid (H3.out.of_below hb); clear hb))) | go_values | go_skip | go_guarded | go_step | go_upon | dsimp only)
        go_ret
        exact ⟨rfl, H4.out.below⟩
    · have Hd := hid hd
      clear hd
      cases hm : mayC ps X with
      | false =>
        have Hm := hid hm
        clear hm
        go_enter Tryz.func3, Tryz.ntmps3
        repeat' (first | go_values | go_skip | go_guarded | go_step | go_upon | dsimp only)
        try rw [← HX.out]
        refine (new_no _ ps X _ _ _ Hm.out).mono ?_
        rintro e w1 ⟨rfl, hb⟩
        have H1 := hid ((H0.out.of_below hb) |>.front 1 rfl)
        clear hb
        repeat' (first | (go_big_may; (first | (go_at_call 6; refine (Dc.out _ _ H1.out).mono ?_; rintro e w2 he; unfold RefEnds at he; rw [Hd.out] at he; obtain ⟨⟨fa, fn, fc, he⟩, h2⟩ := he; subst he; have k0 := (h2 |>.front 1 rfl).cell 0 rfl; have k1 := (h2 |>.front 1 rfl).cell 1 rfl; have k2 := (h2 |>.front 1 rfl).cell 2 rfl; have k3 := (h2 |>.front 1 rfl).cell 3 rfl; have kl := (h2 |>.front 1 rfl).lt'; have H2 := hid (h2.after_alloc (.cells [.int .i64 g, .slice fa fn fc].toArray 32)); clear h2) | (go_at_call 7; refine (ref_may _ ps X _ _).mono ?_; rintro e w3 ⟨he, hb⟩; rw [Hm.out] at he; subst he; have H3 := hid (H2.out.of_below hb); clear hb) | (go_at_call 4; refine (hto.out _).mono ?_; rintro e w4 ⟨rfl, hb⟩; have H4 := hid (H3.out.of_below hb); clear hb))) | go_values | go_skip | go_guarded | go_step | go_upon | dsimp only)
        go_ret
        exact ⟨rfl, H4.out.below⟩
      | true =>
        obtain ⟨np, k, hps, hX2, p1, p2, p3, p4⟩ := cutW_le (ps := ps) (words := words) (by rw [HW.out]; exact hm)
        rw [HW.out] at hX2
        obtain ⟨Wn, hWn⟩ : ∃ Wn : Nat, Wn = k * 64 := ⟨_, rfl⟩
        rw [← hWn] at hX2
        have ng := fun (w1 : World) (R : List HP) (hS : Sw w1 (old w :: R)) => Ng.out w1 R np k pf pq g fs Hd.out p1 p2 p3 (by omega) hS
        simp only [← hWn] at ng
        have NG := hid ng
        clear ng
        have RG := hid (show ∀ N, inI N → ∀ on w, Calls Tryz.prog 19 #[.int .i64 0, num Wn, .int .i64 N, .bool on] w fun e w' => e = .returned (.agg (goalC k on).toArray) ∧ Below w.heap.size w w' from by rw [hWn]; exact fun N hN on w => Rg.out k p3 (by omega) N hN on w)
        have Hg := hid (decodeE_le Hd.out).1
        have Hp1 := hid p1
        have Hp2 := hid p2
        subst hps hX2
        have Hm := hid hm
        clear hm p1 p2 p3 p4 hWn Ng Rg Nb
        go_enter Tryz.func3, Tryz.ntmps3
        repeat' (first | go_values | go_skip | go_guarded | go_step | go_upon | dsimp only)
        try rw [← HX.out]
        refine (NG.out _ _ (H0.out |>.front 1 rfl)).mono ?_
        rintro e w1 ⟨m, fv, N, part, h, st, sc, t, wt, ph, gv, gg, pv, gb, a0, c0, v0, p0, mm, x0, x1, x2, hx, hN, rfl, h1⟩
        have H1 := hid (h1 |>.front 11 rfl)
        have Hx := hid hx
        clear h1 hx hN NG
        repeat' (first | (go_big_may; (first | (go_at_call 6; refine (Dc.out _ _ H1.out).mono ?_; rintro e w2 he; unfold RefEnds at he; rw [Hd.out] at he; obtain ⟨⟨fa, fn, fc, he⟩, h2⟩ := he; subst he; have k0 := (h2 |>.front 12 rfl).cell 0 rfl; have k1 := (h2 |>.front 12 rfl).cell 1 rfl; have k2 := (h2 |>.front 12 rfl).cell 2 rfl; have k3 := (h2 |>.front 12 rfl).cell 3 rfl; have kl := (h2 |>.front 12 rfl).lt'; have H2 := hid (h2.allocc [.int .i64 g, .slice fa fn fc] 32); clear h2 H1) | (go_at_call 7; refine (ref_may _ _ _ _ _).mono ?_; rintro e w3 ⟨he, hb⟩; rw [Hm.out] at he; subst he; have H3 := hid (H2.out.of_below hb); clear hb k0 k1 k2 k3 kl H2) | (go_at_call 8; refine (view_first _ _ m g _ fv N _ part h st gv pv sc t wt gb ph _ _ _ gg a0 (mm + 1 + 1) c0 _ _ v0 _ _ _ Hg.out (first_ring np Hp1.out) (ring_len np Hp2.out) (H3.out |>.front 12 rfl |>.front 12 rfl |>.front 12 rfl |>.front 11 rfl |>.front 11 rfl |>.front 11 rfl |>.front 11 rfl |>.front 11 rfl |>.front 11 rfl |>.front 11 rfl)).mono ?_; rintro e w4 ⟨g1, gs, s1, rfl, h4⟩; obtain ⟨g1a, g1c, rfl⟩ := h4.sl_val; obtain ⟨gsb, gso, gsc, rfl⟩ := (h4 |>.front 1 rfl).sl_addr (by omega); obtain ⟨sb, so, s2c, rfl⟩ := (h4 |>.front 2 rfl).sl_addr (by omega); have y0 := (h4 |>.front 13 rfl).cell 0 rfl; have y1 := (h4 |>.front 13 rfl).cell 1 rfl; have yl := (h4 |>.front 13 rfl).lt'; have H4 := hid (h4.allocc [.int .i64 0, .int .i64 0, .int .i64 0, .slice g1a g g1c, .slice (some ⟨gsb, gso, none⟩) 1 gsc, .slice none 0 0, .int .i64 0, .int .i64 0, .int .i64 0] 40); clear h4 H3) | (go_at_call 9; refine (ref_new _ _ g fn fc fa Hg.out H4.out).mono ?_; rintro e w5 ⟨mb, gs2, gg2, sb2, gb2, cm, rfl, hc2, hc3, h5⟩; obtain ⟨g2b, g2o, g2c, rfl⟩ := (h5 |>.front 1 rfl).sl_addr (by omega); have Hc2 := hid hc2; have Hc3 := hid hc3; have z2 := (h5 |>.front 22 rfl).cell 2 rfl; have H5 := hid h5; clear h5 hc2 hc3 H4 y0 y1 yl) | (go_at_call 10; refine (ref_percent _ pf).mono ?_; rintro e w6 ⟨N2, n2, hN2, rfl, rfl⟩; have HN2 := hid hN2; have h6 := Sw.drew (Sw.drewN n2 H5.out); have C6 := hid (SN.of Hc2.out Hc3.out h6 (h6 |>.front 22 rfl)); have H6 := hid h6; clear hN2 z2 h6 H5))) | go_values | go_skip | go_guarded | go_step | go_upon | dsimp only)
        dsimp only [List.append]
        repeat' (first | (go_big_may; (first | ((with_reducible refine wp_region_segS (SN w.heap.size w4.heap.size g g1a g1c gsb gso gsc sb so s2c mb g2b g2o g2c gg2 sb2 gb2 np Wn) mixed (by decide +kernel) ?_ ?_); (focus (exact C6.out))) | ((with_reducible apply segS_lookN); (focus (rfl)); (focus (first | (go_simp; done) | (go_simp; exact rfl) | exact rfl)); (focus (rfl)); (focus (intro wq hq; obtain ⟨q0, q1, q2, q3, q4, q5, q6, q7, q8, q9, q10, q11, q12, q13, q14, q15⟩ := hq; go_simp; first | exact rfl | exact ⟨rfl, rfl⟩))) | ((with_reducible apply segS_callN); (focus (rfl)); (focus (first | (go_simp; done) | (go_simp; exact rfl) | exact rfl)); (focus (rfl)); (focus (go_simp; first | exact rfl | exact ⟨rfl, rfl⟩))) | (with_reducible refine segS_nil ?_) | (go_at_call 4; refine (hto.out _).mono ?_; rintro e w7 ⟨rfl, hb⟩; have h7 := H6.out.of_below hb; have st1 := machine_status _ _ m st t 0 0 none false _ [1] (by decide) (by omega) rfl rfl rfl ((h7 |>.front 21 rfl).cell 0 rfl) (h7 |>.front 10 rfl |>.front 10 rfl); rw [status_first] at st1; have ST := hid st1; have CM := hid ((h7 |>.front 9 rfl).cell 24 rfl); have CF := hid ((h7 |>.front 9 rfl).cell 25 rfl); have CS := hid ((h7 |>.front 9 rfl).cell 26 rfl); have C6m := hid ((h7 |>.front 9 rfl).cell 6 rfl); have HA := hid ((h7 |>.front 16 rfl).cell 0 rfl); have AL := hid ((h7 |>.front 17 rfl).cell 4 rfl); have Z1 := hid (ZeroAt.of (h7 |>.front 6 rfl)); have Z2 := hid (ZeroAt.of (h7 |>.front 4 rfl)); have Z3 := hid (ZeroAt.of (h7 |>.front 8 rfl)); have Z4 := hid (ZeroAt.row (c := 16) (h7 |>.front 3 rfl)); have VA := hid (viewAt_of Z1.out (h7 |>.front 7 rfl) (h7 |>.front 8 rfl)); have C7 := hid (SN.of Hc2.out Hc3.out h7 (h7 |>.front 22 rfl)); have H7 := hid h7; clear h7 hb st1 H6; refine ⟨_, rfl, .inl C7.out, ?_⟩) | (go_at_call 11; refine ST.out.mono ?_; rintro e w8 ⟨rfl, n3, rfl⟩; clear ST; refine ⟨_, rfl, .inl (C7.out.drewN _), ?_⟩) | (go_at_call 12; refine (machine_commits (w7.drewN n3) m 0 0 none CM.out).mono ?_; rintro e w9 ⟨rfl, rfl⟩; clear CM; refine ⟨_, rfl, .inl (C7.out.drewN _), ?_⟩) | (go_at_call 13; refine (machine_freed (w7.drewN n3) m CF.out).mono ?_; rintro e w9 ⟨rfl, rfl⟩; clear CF; refine ⟨_, rfl, .inl (C7.out.drewN _), ?_⟩) | (go_at_call 14; refine (machine_live (w7.drewN n3) m h a0 0 C6m.out HA.out AL.out).mono ?_; rintro e w9 ⟨rfl, rfl⟩; clear C6m; refine ⟨_, rfl, .inl (C7.out.drewN _), ?_⟩) | (go_at_call 15; refine (machine_steps (w7.drewN n3) m (num 0) CS.out).mono ?_; rintro e w9 ⟨rfl, rfl⟩; clear CS; refine ⟨_, rfl, .inl (C7.out.drewN _), ?_⟩) | (go_at_call 16; first | (refine (ints_0 (w7.drewN n3) g _ _ (by have := Hg.out; omega) (Z1.out.drewN n3) (Z2.out.drewN n3)).mono ?_; rintro e w9 ⟨rfl, n4, hw⟩; have h8 := Sw.drewN n4 (Sw.drewN n3 H7.out); rw [← hw] at h8; have c8 := (C7.out.drewN n3).drewN n4; rw [← hw] at c8; have z3 := (Z3.out.drewN n3).drewN n4; rw [← hw] at z3; have z4 := (Z4.out.drewN n3).drewN n4; rw [← hw] at z4; have va := (VA.out.drewN n3).drewN n4; rw [← hw] at va; have H8 := hid h8; have C8 := hid c8; have Z5 := hid z3; have Z6 := hid z4; have VA8 := hid va; clear Z1 Z2 Z3 Z4 VA H7 hw h8 c8 z3 z4 va; refine ⟨_, rfl, .inl C8.out, ?_⟩) | (refine (ints_0 w9 16 _ _ (by omega) Z5.out Z6.out).mono ?_; rintro e w10 ⟨rfl, n5, hw⟩; have h8 := Sw.drewN n5 H8.out; rw [← hw] at h8; have c8 := C8.out.drewN n5; rw [← hw] at c8; have va := VA8.out.drewN n5; rw [← hw] at va; have H9 := hid h8; have C9 := hid c8; have VA9 := hid va; clear Z5 Z6 VA8 H8 hw h8 c8 va; refine ⟨_, rfl, .inl C9.out, ?_⟩)) | (go_at_call 17; refine (all_0 np Hp1.out Hg.out VA9.out).mono ?_; rintro e w10 ⟨rfl, hb⟩; have h10 := H9.out.of_below hb; have K19 := (h10 |>.front 9 rfl).cell 19 rfl; have K20 := (h10 |>.front 9 rfl).cell 20 rfl; have K21 := (h10 |>.front 9 rfl).cell 21 rfl; have C10 := hid (SN.of Hc2.out Hc3.out h10 (h10 |>.front 22 rfl)); have H10 := hid h10; clear h10 hb H9 VA9; refine ⟨_, rfl, .inl C10.out, ?_⟩) | (go_at_call 18; refine (machine_goal _ m x0 x1 x2 K19 K20 K21).mono ?_; rintro e w11 ⟨rfl, hb⟩; have h11 := H10.out.of_below hb; have C11 := hid (SN.of Hc2.out Hc3.out h11 (h11 |>.front 22 rfl)); have H11 := hid h11; clear h11 hb H10; refine ⟨_, rfl, .inl C11.out, ?_⟩) | (go_at_call 19; refine (RG.out N2 HN2.out (onF pf) _).mono ?_; rintro e w12 ⟨he, hb⟩; rw [Hx.out] at he; subst he; have h12 := H11.out.of_below hb; have C12 := hid (SN.of Hc2.out Hc3.out h12 (h12 |>.front 22 rfl)); have H12 := hid h12; clear hb h12; refine ⟨_, rfl, .inl C12.out, ?_⟩))) | go_values | go_skip | go_guarded | go_step | go_upon | dsimp only)
        go_ret
        exact ⟨rfl, (H12.out |>.front 20 rfl).below⟩
  · have hX := hX.symm
    subst hX
    rcases hd : decodeE bs with md | ⟨g, fs⟩
    · have Hd := hid hd
      clear hd
      cases hm : mayC ps words with
      | false =>
        have Hm := hid hm
        clear hm
        go_enter Tryz.func3, Tryz.ntmps3
        repeat' (first | go_values | go_skip | go_guarded | go_step | go_upon | dsimp only)
        skip
        refine (new_no _ ps words _ _ _ Hm.out).mono ?_
        rintro e w1 ⟨rfl, hb⟩
        have H1 := hid ((H0.out.of_below hb) |>.front 1 rfl)
        clear hb
        repeat' (first | (go_big_may; (first | (go_at_call 6; refine (Dc.out _ _ H1.out).mono ?_; rintro e w2 he; unfold RefEnds at he; rw [Hd.out] at he; obtain ⟨he, h2⟩ := he; subst he; have k0 := (h2 |>.front 1 rfl).cell 0 rfl; have k1 := (h2 |>.front 1 rfl).cell 1 rfl; have k2 := (h2 |>.front 1 rfl).cell 2 rfl; have k3 := (h2 |>.front 1 rfl).cell 3 rfl; have kl := (h2 |>.front 1 rfl).lt'; have H2 := hid (h2.after_alloc (.cells [.int .i64 0, .slice none 0 0].toArray 32)); clear h2) | (go_at_call 7; refine (ref_may _ ps words _ _).mono ?_; rintro e w3 ⟨he, hb⟩; rw [Hm.out] at he; subst he; have H3 := hid (H2.out.of_below hb); clear hb) | (go_at_call 4; refine (hto.out _).mono ?_; rintro e w4 ⟨rfl, hb⟩; have H4 := hid (H3.out.of_below hb); clear hb))) | go_values | go_skip | go_guarded | go_step | go_upon | dsimp only)
        go_ret
        exact ⟨rfl, H4.out.below⟩
      | true =>
        have Hm := hid hm
        clear hm
        go_enter Tryz.func3, Tryz.ntmps3
        repeat' (first | go_values | go_skip | go_guarded | go_step | go_upon | dsimp only)
        skip
        refine (Nb.out _ _ ps words _ _ Hm.out md Hd.out (H0.out |>.front 1 rfl)).mono ?_
        rintro e w1 ⟨rfl, h1⟩
        have H1 := hid h1
        clear h1
        repeat' (first | (go_big_may; (first | (go_at_call 6; refine (Dc.out _ _ H1.out).mono ?_; rintro e w2 he; unfold RefEnds at he; rw [Hd.out] at he; obtain ⟨he, h2⟩ := he; subst he; have k0 := (h2 |>.front 1 rfl).cell 0 rfl; have k1 := (h2 |>.front 1 rfl).cell 1 rfl; have k2 := (h2 |>.front 1 rfl).cell 2 rfl; have k3 := (h2 |>.front 1 rfl).cell 3 rfl; have kl := (h2 |>.front 1 rfl).lt'; have H2 := hid (h2.after_alloc (.cells [.int .i64 0, .slice none 0 0].toArray 32)); clear h2) | (go_at_call 7; refine (ref_may _ ps words _ _).mono ?_; rintro e w3 ⟨he, hb⟩; rw [Hm.out] at he; subst he; have H3 := hid (H2.out.of_below hb); clear hb) | (go_at_call 4; refine (hto.out _).mono ?_; rintro e w4 ⟨rfl, hb⟩; have H4 := hid (H3.out.of_below hb); clear hb))) | go_values | go_skip | go_guarded | go_step | go_upon | dsimp only)
        go_ret
        exact ⟨rfl, H4.out.below⟩
    · have Hd := hid hd
      clear hd
      cases hm : mayC ps words with
      | false =>
        have Hm := hid hm
        clear hm
        go_enter Tryz.func3, Tryz.ntmps3
        repeat' (first | go_values | go_skip | go_guarded | go_step | go_upon | dsimp only)
        skip
        refine (new_no _ ps words _ _ _ Hm.out).mono ?_
        rintro e w1 ⟨rfl, hb⟩
        have H1 := hid ((H0.out.of_below hb) |>.front 1 rfl)
        clear hb
        repeat' (first | (go_big_may; (first | (go_at_call 6; refine (Dc.out _ _ H1.out).mono ?_; rintro e w2 he; unfold RefEnds at he; rw [Hd.out] at he; obtain ⟨⟨fa, fn, fc, he⟩, h2⟩ := he; subst he; have k0 := (h2 |>.front 1 rfl).cell 0 rfl; have k1 := (h2 |>.front 1 rfl).cell 1 rfl; have k2 := (h2 |>.front 1 rfl).cell 2 rfl; have k3 := (h2 |>.front 1 rfl).cell 3 rfl; have kl := (h2 |>.front 1 rfl).lt'; have H2 := hid (h2.after_alloc (.cells [.int .i64 g, .slice fa fn fc].toArray 32)); clear h2) | (go_at_call 7; refine (ref_may _ ps words _ _).mono ?_; rintro e w3 ⟨he, hb⟩; rw [Hm.out] at he; subst he; have H3 := hid (H2.out.of_below hb); clear hb) | (go_at_call 4; refine (hto.out _).mono ?_; rintro e w4 ⟨rfl, hb⟩; have H4 := hid (H3.out.of_below hb); clear hb))) | go_values | go_skip | go_guarded | go_step | go_upon | dsimp only)
        go_ret
        exact ⟨rfl, H4.out.below⟩
      | true =>
        obtain ⟨np, k, hps, hX2, p1, p2, p3, p4⟩ := cutW_le (ps := ps) (words := words) (by rw [HW.out]; exact hm)
        rw [HW.out] at hX2
        obtain ⟨Wn, hWn⟩ : ∃ Wn : Nat, Wn = k * 64 := ⟨_, rfl⟩
        rw [← hWn] at hX2
        have ng := fun (w1 : World) (R : List HP) (hS : Sw w1 (old w :: R)) => Ng.out w1 R np k pf pq g fs Hd.out p1 p2 p3 (by omega) hS
        simp only [← hWn] at ng
        have NG := hid ng
        clear ng
        have RG := hid (show ∀ N, inI N → ∀ on w, Calls Tryz.prog 19 #[.int .i64 0, num Wn, .int .i64 N, .bool on] w fun e w' => e = .returned (.agg (goalC k on).toArray) ∧ Below w.heap.size w w' from by rw [hWn]; exact fun N hN on w => Rg.out k p3 (by omega) N hN on w)
        have Hg := hid (decodeE_le Hd.out).1
        have Hp1 := hid p1
        have Hp2 := hid p2
        subst hps hX2
        have Hm := hid hm
        clear hm p1 p2 p3 p4 hWn Ng Rg Nb
        go_enter Tryz.func3, Tryz.ntmps3
        repeat' (first | go_values | go_skip | go_guarded | go_step | go_upon | dsimp only)
        skip
        refine (NG.out _ _ (H0.out |>.front 1 rfl)).mono ?_
        rintro e w1 ⟨m, fv, N, part, h, st, sc, t, wt, ph, gv, gg, pv, gb, a0, c0, v0, p0, mm, x0, x1, x2, hx, hN, rfl, h1⟩
        have H1 := hid (h1 |>.front 11 rfl)
        have Hx := hid hx
        clear h1 hx hN NG
        repeat' (first | (go_big_may; (first | (go_at_call 6; refine (Dc.out _ _ H1.out).mono ?_; rintro e w2 he; unfold RefEnds at he; rw [Hd.out] at he; obtain ⟨⟨fa, fn, fc, he⟩, h2⟩ := he; subst he; have k0 := (h2 |>.front 12 rfl).cell 0 rfl; have k1 := (h2 |>.front 12 rfl).cell 1 rfl; have k2 := (h2 |>.front 12 rfl).cell 2 rfl; have k3 := (h2 |>.front 12 rfl).cell 3 rfl; have kl := (h2 |>.front 12 rfl).lt'; have H2 := hid (h2.allocc [.int .i64 g, .slice fa fn fc] 32); clear h2 H1) | (go_at_call 7; refine (ref_may _ _ _ _ _).mono ?_; rintro e w3 ⟨he, hb⟩; rw [Hm.out] at he; subst he; have H3 := hid (H2.out.of_below hb); clear hb k0 k1 k2 k3 kl H2) | (go_at_call 8; refine (view_first _ _ m g _ fv N _ part h st gv pv sc t wt gb ph _ _ _ gg a0 (mm + 1 + 1) c0 _ _ v0 _ _ _ Hg.out (first_ring np Hp1.out) (ring_len np Hp2.out) (H3.out |>.front 12 rfl |>.front 12 rfl |>.front 12 rfl |>.front 11 rfl |>.front 11 rfl |>.front 11 rfl |>.front 11 rfl |>.front 11 rfl |>.front 11 rfl |>.front 11 rfl)).mono ?_; rintro e w4 ⟨g1, gs, s1, rfl, h4⟩; obtain ⟨g1a, g1c, rfl⟩ := h4.sl_val; obtain ⟨gsb, gso, gsc, rfl⟩ := (h4 |>.front 1 rfl).sl_addr (by omega); obtain ⟨sb, so, s2c, rfl⟩ := (h4 |>.front 2 rfl).sl_addr (by omega); have y0 := (h4 |>.front 13 rfl).cell 0 rfl; have y1 := (h4 |>.front 13 rfl).cell 1 rfl; have yl := (h4 |>.front 13 rfl).lt'; have H4 := hid (h4.allocc [.int .i64 0, .int .i64 0, .int .i64 0, .slice g1a g g1c, .slice (some ⟨gsb, gso, none⟩) 1 gsc, .slice none 0 0, .int .i64 0, .int .i64 0, .int .i64 0] 40); clear h4 H3) | (go_at_call 9; refine (ref_new _ _ g fn fc fa Hg.out H4.out).mono ?_; rintro e w5 ⟨mb, gs2, gg2, sb2, gb2, cm, rfl, hc2, hc3, h5⟩; obtain ⟨g2b, g2o, g2c, rfl⟩ := (h5 |>.front 1 rfl).sl_addr (by omega); have Hc2 := hid hc2; have Hc3 := hid hc3; have z2 := (h5 |>.front 22 rfl).cell 2 rfl; have H5 := hid h5; clear h5 hc2 hc3 H4 y0 y1 yl) | (go_at_call 10; refine (ref_percent _ pf).mono ?_; rintro e w6 ⟨N2, n2, hN2, rfl, rfl⟩; have HN2 := hid hN2; have h6 := Sw.drew (Sw.drewN n2 H5.out); have C6 := hid (SN.of Hc2.out Hc3.out h6 (h6 |>.front 22 rfl)); have H6 := hid h6; clear hN2 z2 h6 H5))) | go_values | go_skip | go_guarded | go_step | go_upon | dsimp only)
        dsimp only [List.append]
        repeat' (first | (go_big_may; (first | ((with_reducible refine wp_region_segS (SN w.heap.size w4.heap.size g g1a g1c gsb gso gsc sb so s2c mb g2b g2o g2c gg2 sb2 gb2 np Wn) mixed (by decide +kernel) ?_ ?_); (focus (exact C6.out))) | ((with_reducible apply segS_lookN); (focus (rfl)); (focus (first | (go_simp; done) | (go_simp; exact rfl) | exact rfl)); (focus (rfl)); (focus (intro wq hq; obtain ⟨q0, q1, q2, q3, q4, q5, q6, q7, q8, q9, q10, q11, q12, q13, q14, q15⟩ := hq; go_simp; first | exact rfl | exact ⟨rfl, rfl⟩))) | ((with_reducible apply segS_callN); (focus (rfl)); (focus (first | (go_simp; done) | (go_simp; exact rfl) | exact rfl)); (focus (rfl)); (focus (go_simp; first | exact rfl | exact ⟨rfl, rfl⟩))) | (with_reducible refine segS_nil ?_) | (go_at_call 4; refine (hto.out _).mono ?_; rintro e w7 ⟨rfl, hb⟩; have h7 := H6.out.of_below hb; have st1 := machine_status _ _ m st t 0 0 none false _ [1] (by decide) (by omega) rfl rfl rfl ((h7 |>.front 21 rfl).cell 0 rfl) (h7 |>.front 10 rfl |>.front 10 rfl); rw [status_first] at st1; have ST := hid st1; have CM := hid ((h7 |>.front 9 rfl).cell 24 rfl); have CF := hid ((h7 |>.front 9 rfl).cell 25 rfl); have CS := hid ((h7 |>.front 9 rfl).cell 26 rfl); have C6m := hid ((h7 |>.front 9 rfl).cell 6 rfl); have HA := hid ((h7 |>.front 16 rfl).cell 0 rfl); have AL := hid ((h7 |>.front 17 rfl).cell 4 rfl); have Z1 := hid (ZeroAt.of (h7 |>.front 6 rfl)); have Z2 := hid (ZeroAt.of (h7 |>.front 4 rfl)); have Z3 := hid (ZeroAt.of (h7 |>.front 8 rfl)); have Z4 := hid (ZeroAt.row (c := 16) (h7 |>.front 3 rfl)); have VA := hid (viewAt_of Z1.out (h7 |>.front 7 rfl) (h7 |>.front 8 rfl)); have C7 := hid (SN.of Hc2.out Hc3.out h7 (h7 |>.front 22 rfl)); have H7 := hid h7; clear h7 hb st1 H6; refine ⟨_, rfl, .inl C7.out, ?_⟩) | (go_at_call 11; refine ST.out.mono ?_; rintro e w8 ⟨rfl, n3, rfl⟩; clear ST; refine ⟨_, rfl, .inl (C7.out.drewN _), ?_⟩) | (go_at_call 12; refine (machine_commits (w7.drewN n3) m 0 0 none CM.out).mono ?_; rintro e w9 ⟨rfl, rfl⟩; clear CM; refine ⟨_, rfl, .inl (C7.out.drewN _), ?_⟩) | (go_at_call 13; refine (machine_freed (w7.drewN n3) m CF.out).mono ?_; rintro e w9 ⟨rfl, rfl⟩; clear CF; refine ⟨_, rfl, .inl (C7.out.drewN _), ?_⟩) | (go_at_call 14; refine (machine_live (w7.drewN n3) m h a0 0 C6m.out HA.out AL.out).mono ?_; rintro e w9 ⟨rfl, rfl⟩; clear C6m; refine ⟨_, rfl, .inl (C7.out.drewN _), ?_⟩) | (go_at_call 15; refine (machine_steps (w7.drewN n3) m (num 0) CS.out).mono ?_; rintro e w9 ⟨rfl, rfl⟩; clear CS; refine ⟨_, rfl, .inl (C7.out.drewN _), ?_⟩) | (go_at_call 16; first | (refine (ints_0 (w7.drewN n3) g _ _ (by have := Hg.out; omega) (Z1.out.drewN n3) (Z2.out.drewN n3)).mono ?_; rintro e w9 ⟨rfl, n4, hw⟩; have h8 := Sw.drewN n4 (Sw.drewN n3 H7.out); rw [← hw] at h8; have c8 := (C7.out.drewN n3).drewN n4; rw [← hw] at c8; have z3 := (Z3.out.drewN n3).drewN n4; rw [← hw] at z3; have z4 := (Z4.out.drewN n3).drewN n4; rw [← hw] at z4; have va := (VA.out.drewN n3).drewN n4; rw [← hw] at va; have H8 := hid h8; have C8 := hid c8; have Z5 := hid z3; have Z6 := hid z4; have VA8 := hid va; clear Z1 Z2 Z3 Z4 VA H7 hw h8 c8 z3 z4 va; refine ⟨_, rfl, .inl C8.out, ?_⟩) | (refine (ints_0 w9 16 _ _ (by omega) Z5.out Z6.out).mono ?_; rintro e w10 ⟨rfl, n5, hw⟩; have h8 := Sw.drewN n5 H8.out; rw [← hw] at h8; have c8 := C8.out.drewN n5; rw [← hw] at c8; have va := VA8.out.drewN n5; rw [← hw] at va; have H9 := hid h8; have C9 := hid c8; have VA9 := hid va; clear Z5 Z6 VA8 H8 hw h8 c8 va; refine ⟨_, rfl, .inl C9.out, ?_⟩)) | (go_at_call 17; refine (all_0 np Hp1.out Hg.out VA9.out).mono ?_; rintro e w10 ⟨rfl, hb⟩; have h10 := H9.out.of_below hb; have K19 := (h10 |>.front 9 rfl).cell 19 rfl; have K20 := (h10 |>.front 9 rfl).cell 20 rfl; have K21 := (h10 |>.front 9 rfl).cell 21 rfl; have C10 := hid (SN.of Hc2.out Hc3.out h10 (h10 |>.front 22 rfl)); have H10 := hid h10; clear h10 hb H9 VA9; refine ⟨_, rfl, .inl C10.out, ?_⟩) | (go_at_call 18; refine (machine_goal _ m x0 x1 x2 K19 K20 K21).mono ?_; rintro e w11 ⟨rfl, hb⟩; have h11 := H10.out.of_below hb; have C11 := hid (SN.of Hc2.out Hc3.out h11 (h11 |>.front 22 rfl)); have H11 := hid h11; clear h11 hb H10; refine ⟨_, rfl, .inl C11.out, ?_⟩) | (go_at_call 19; refine (RG.out N2 HN2.out (onF pf) _).mono ?_; rintro e w12 ⟨he, hb⟩; rw [Hx.out] at he; subst he; have h12 := H11.out.of_below hb; have C12 := hid (SN.of Hc2.out Hc3.out h12 (h12 |>.front 22 rfl)); have H12 := hid h12; clear hb h12; refine ⟨_, rfl, .inl C12.out, ?_⟩))) | go_values | go_skip | go_guarded | go_step | go_upon | dsimp only)
        go_ret
        exact ⟨rfl, (H12.out |>.front 20 rfl).below⟩
  · have hX := hX.symm
    subst hX
    rcases hd : decodeE bs with md | ⟨g, fs⟩
    · have Hd := hid hd
      clear hd
      cases hm : mayC ps words with
      | false =>
        have Hm := hid hm
        clear hm
        go_enter Tryz.func3, Tryz.ntmps3
        repeat' (first | go_values | go_skip | go_guarded | go_step | go_upon | dsimp only)
        skip
        refine (new_no _ ps words _ _ _ Hm.out).mono ?_
        rintro e w1 ⟨rfl, hb⟩
        have H1 := hid ((H0.out.of_below hb) |>.front 1 rfl)
        clear hb
        repeat' (first | (go_big_may; (first | (go_at_call 6; refine (Dc.out _ _ H1.out).mono ?_; rintro e w2 he; unfold RefEnds at he; rw [Hd.out] at he; obtain ⟨he, h2⟩ := he; subst he; have k0 := (h2 |>.front 1 rfl).cell 0 rfl; have k1 := (h2 |>.front 1 rfl).cell 1 rfl; have k2 := (h2 |>.front 1 rfl).cell 2 rfl; have k3 := (h2 |>.front 1 rfl).cell 3 rfl; have kl := (h2 |>.front 1 rfl).lt'; have H2 := hid (h2.after_alloc (.cells [.int .i64 0, .slice none 0 0].toArray 32)); clear h2) | (go_at_call 7; refine (ref_may _ ps words _ _).mono ?_; rintro e w3 ⟨he, hb⟩; rw [Hm.out] at he; subst he; have H3 := hid (H2.out.of_below hb); clear hb) | (go_at_call 4; refine (hto.out _).mono ?_; rintro e w4 ⟨rfl, hb⟩; have H4 := hid (H3.out.of_below hb); clear hb))) | go_values | go_skip | go_guarded | go_step | go_upon | dsimp only)
        go_ret
        exact ⟨rfl, H4.out.below⟩
      | true =>
        have Hm := hid hm
        clear hm
        go_enter Tryz.func3, Tryz.ntmps3
        repeat' (first | go_values | go_skip | go_guarded | go_step | go_upon | dsimp only)
        skip
        refine (Nb.out _ _ ps words _ _ Hm.out md Hd.out (H0.out |>.front 1 rfl)).mono ?_
        rintro e w1 ⟨rfl, h1⟩
        have H1 := hid h1
        clear h1
        repeat' (first | (go_big_may; (first | (go_at_call 6; refine (Dc.out _ _ H1.out).mono ?_; rintro e w2 he; unfold RefEnds at he; rw [Hd.out] at he; obtain ⟨he, h2⟩ := he; subst he; have k0 := (h2 |>.front 1 rfl).cell 0 rfl; have k1 := (h2 |>.front 1 rfl).cell 1 rfl; have k2 := (h2 |>.front 1 rfl).cell 2 rfl; have k3 := (h2 |>.front 1 rfl).cell 3 rfl; have kl := (h2 |>.front 1 rfl).lt'; have H2 := hid (h2.after_alloc (.cells [.int .i64 0, .slice none 0 0].toArray 32)); clear h2) | (go_at_call 7; refine (ref_may _ ps words _ _).mono ?_; rintro e w3 ⟨he, hb⟩; rw [Hm.out] at he; subst he; have H3 := hid (H2.out.of_below hb); clear hb) | (go_at_call 4; refine (hto.out _).mono ?_; rintro e w4 ⟨rfl, hb⟩; have H4 := hid (H3.out.of_below hb); clear hb))) | go_values | go_skip | go_guarded | go_step | go_upon | dsimp only)
        go_ret
        exact ⟨rfl, H4.out.below⟩
    · have Hd := hid hd
      clear hd
      cases hm : mayC ps words with
      | false =>
        have Hm := hid hm
        clear hm
        go_enter Tryz.func3, Tryz.ntmps3
        repeat' (first | go_values | go_skip | go_guarded | go_step | go_upon | dsimp only)
        skip
        refine (new_no _ ps words _ _ _ Hm.out).mono ?_
        rintro e w1 ⟨rfl, hb⟩
        have H1 := hid ((H0.out.of_below hb) |>.front 1 rfl)
        clear hb
        repeat' (first | (go_big_may; (first | (go_at_call 6; refine (Dc.out _ _ H1.out).mono ?_; rintro e w2 he; unfold RefEnds at he; rw [Hd.out] at he; obtain ⟨⟨fa, fn, fc, he⟩, h2⟩ := he; subst he; have k0 := (h2 |>.front 1 rfl).cell 0 rfl; have k1 := (h2 |>.front 1 rfl).cell 1 rfl; have k2 := (h2 |>.front 1 rfl).cell 2 rfl; have k3 := (h2 |>.front 1 rfl).cell 3 rfl; have kl := (h2 |>.front 1 rfl).lt'; have H2 := hid (h2.after_alloc (.cells [.int .i64 g, .slice fa fn fc].toArray 32)); clear h2) | (go_at_call 7; refine (ref_may _ ps words _ _).mono ?_; rintro e w3 ⟨he, hb⟩; rw [Hm.out] at he; subst he; have H3 := hid (H2.out.of_below hb); clear hb) | (go_at_call 4; refine (hto.out _).mono ?_; rintro e w4 ⟨rfl, hb⟩; have H4 := hid (H3.out.of_below hb); clear hb))) | go_values | go_skip | go_guarded | go_step | go_upon | dsimp only)
        go_ret
        exact ⟨rfl, H4.out.below⟩
      | true =>
        obtain ⟨np, k, hps, hX2, p1, p2, p3, p4⟩ := cutW_le (ps := ps) (words := words) (by rw [HW.out]; exact hm)
        rw [HW.out] at hX2
        obtain ⟨Wn, hWn⟩ : ∃ Wn : Nat, Wn = k * 64 := ⟨_, rfl⟩
        rw [← hWn] at hX2
        have ng := fun (w1 : World) (R : List HP) (hS : Sw w1 (old w :: R)) => Ng.out w1 R np k pf pq g fs Hd.out p1 p2 p3 (by omega) hS
        simp only [← hWn] at ng
        have NG := hid ng
        clear ng
        have RG := hid (show ∀ N, inI N → ∀ on w, Calls Tryz.prog 19 #[.int .i64 0, num Wn, .int .i64 N, .bool on] w fun e w' => e = .returned (.agg (goalC k on).toArray) ∧ Below w.heap.size w w' from by rw [hWn]; exact fun N hN on w => Rg.out k p3 (by omega) N hN on w)
        have Hg := hid (decodeE_le Hd.out).1
        have Hp1 := hid p1
        have Hp2 := hid p2
        subst hps hX2
        have Hm := hid hm
        clear hm p1 p2 p3 p4 hWn Ng Rg Nb
        go_enter Tryz.func3, Tryz.ntmps3
        repeat' (first | go_values | go_skip | go_guarded | go_step | go_upon | dsimp only)
        skip
        refine (NG.out _ _ (H0.out |>.front 1 rfl)).mono ?_
        rintro e w1 ⟨m, fv, N, part, h, st, sc, t, wt, ph, gv, gg, pv, gb, a0, c0, v0, p0, mm, x0, x1, x2, hx, hN, rfl, h1⟩
        have H1 := hid (h1 |>.front 11 rfl)
        have Hx := hid hx
        clear h1 hx hN NG
        repeat' (first | (go_big_may; (first | (go_at_call 6; refine (Dc.out _ _ H1.out).mono ?_; rintro e w2 he; unfold RefEnds at he; rw [Hd.out] at he; obtain ⟨⟨fa, fn, fc, he⟩, h2⟩ := he; subst he; have k0 := (h2 |>.front 12 rfl).cell 0 rfl; have k1 := (h2 |>.front 12 rfl).cell 1 rfl; have k2 := (h2 |>.front 12 rfl).cell 2 rfl; have k3 := (h2 |>.front 12 rfl).cell 3 rfl; have kl := (h2 |>.front 12 rfl).lt'; have H2 := hid (h2.allocc [.int .i64 g, .slice fa fn fc] 32); clear h2 H1) | (go_at_call 7; refine (ref_may _ _ _ _ _).mono ?_; rintro e w3 ⟨he, hb⟩; rw [Hm.out] at he; subst he; have H3 := hid (H2.out.of_below hb); clear hb k0 k1 k2 k3 kl H2) | (go_at_call 8; refine (view_first _ _ m g _ fv N _ part h st gv pv sc t wt gb ph _ _ _ gg a0 (mm + 1 + 1) c0 _ _ v0 _ _ _ Hg.out (first_ring np Hp1.out) (ring_len np Hp2.out) (H3.out |>.front 12 rfl |>.front 12 rfl |>.front 12 rfl |>.front 11 rfl |>.front 11 rfl |>.front 11 rfl |>.front 11 rfl |>.front 11 rfl |>.front 11 rfl |>.front 11 rfl)).mono ?_; rintro e w4 ⟨g1, gs, s1, rfl, h4⟩; obtain ⟨g1a, g1c, rfl⟩ := h4.sl_val; obtain ⟨gsb, gso, gsc, rfl⟩ := (h4 |>.front 1 rfl).sl_addr (by omega); obtain ⟨sb, so, s2c, rfl⟩ := (h4 |>.front 2 rfl).sl_addr (by omega); have y0 := (h4 |>.front 13 rfl).cell 0 rfl; have y1 := (h4 |>.front 13 rfl).cell 1 rfl; have yl := (h4 |>.front 13 rfl).lt'; have H4 := hid (h4.allocc [.int .i64 0, .int .i64 0, .int .i64 0, .slice g1a g g1c, .slice (some ⟨gsb, gso, none⟩) 1 gsc, .slice none 0 0, .int .i64 0, .int .i64 0, .int .i64 0] 40); clear h4 H3) | (go_at_call 9; refine (ref_new _ _ g fn fc fa Hg.out H4.out).mono ?_; rintro e w5 ⟨mb, gs2, gg2, sb2, gb2, cm, rfl, hc2, hc3, h5⟩; obtain ⟨g2b, g2o, g2c, rfl⟩ := (h5 |>.front 1 rfl).sl_addr (by omega); have Hc2 := hid hc2; have Hc3 := hid hc3; have z2 := (h5 |>.front 22 rfl).cell 2 rfl; have H5 := hid h5; clear h5 hc2 hc3 H4 y0 y1 yl) | (go_at_call 10; refine (ref_percent _ pf).mono ?_; rintro e w6 ⟨N2, n2, hN2, rfl, rfl⟩; have HN2 := hid hN2; have h6 := Sw.drew (Sw.drewN n2 H5.out); have C6 := hid (SN.of Hc2.out Hc3.out h6 (h6 |>.front 22 rfl)); have H6 := hid h6; clear hN2 z2 h6 H5))) | go_values | go_skip | go_guarded | go_step | go_upon | dsimp only)
        dsimp only [List.append]
        repeat' (first | (go_big_may; (first | ((with_reducible refine wp_region_segS (SN w.heap.size w4.heap.size g g1a g1c gsb gso gsc sb so s2c mb g2b g2o g2c gg2 sb2 gb2 np Wn) mixed (by decide +kernel) ?_ ?_); (focus (exact C6.out))) | ((with_reducible apply segS_lookN); (focus (rfl)); (focus (first | (go_simp; done) | (go_simp; exact rfl) | exact rfl)); (focus (rfl)); (focus (intro wq hq; obtain ⟨q0, q1, q2, q3, q4, q5, q6, q7, q8, q9, q10, q11, q12, q13, q14, q15⟩ := hq; go_simp; first | exact rfl | exact ⟨rfl, rfl⟩))) | ((with_reducible apply segS_callN); (focus (rfl)); (focus (first | (go_simp; done) | (go_simp; exact rfl) | exact rfl)); (focus (rfl)); (focus (go_simp; first | exact rfl | exact ⟨rfl, rfl⟩))) | (with_reducible refine segS_nil ?_) | (go_at_call 4; refine (hto.out _).mono ?_; rintro e w7 ⟨rfl, hb⟩; have h7 := H6.out.of_below hb; have st1 := machine_status _ _ m st t 0 0 none false _ [1] (by decide) (by omega) rfl rfl rfl ((h7 |>.front 21 rfl).cell 0 rfl) (h7 |>.front 10 rfl |>.front 10 rfl); rw [status_first] at st1; have ST := hid st1; have CM := hid ((h7 |>.front 9 rfl).cell 24 rfl); have CF := hid ((h7 |>.front 9 rfl).cell 25 rfl); have CS := hid ((h7 |>.front 9 rfl).cell 26 rfl); have C6m := hid ((h7 |>.front 9 rfl).cell 6 rfl); have HA := hid ((h7 |>.front 16 rfl).cell 0 rfl); have AL := hid ((h7 |>.front 17 rfl).cell 4 rfl); have Z1 := hid (ZeroAt.of (h7 |>.front 6 rfl)); have Z2 := hid (ZeroAt.of (h7 |>.front 4 rfl)); have Z3 := hid (ZeroAt.of (h7 |>.front 8 rfl)); have Z4 := hid (ZeroAt.row (c := 16) (h7 |>.front 3 rfl)); have VA := hid (viewAt_of Z1.out (h7 |>.front 7 rfl) (h7 |>.front 8 rfl)); have C7 := hid (SN.of Hc2.out Hc3.out h7 (h7 |>.front 22 rfl)); have H7 := hid h7; clear h7 hb st1 H6; refine ⟨_, rfl, .inl C7.out, ?_⟩) | (go_at_call 11; refine ST.out.mono ?_; rintro e w8 ⟨rfl, n3, rfl⟩; clear ST; refine ⟨_, rfl, .inl (C7.out.drewN _), ?_⟩) | (go_at_call 12; refine (machine_commits (w7.drewN n3) m 0 0 none CM.out).mono ?_; rintro e w9 ⟨rfl, rfl⟩; clear CM; refine ⟨_, rfl, .inl (C7.out.drewN _), ?_⟩) | (go_at_call 13; refine (machine_freed (w7.drewN n3) m CF.out).mono ?_; rintro e w9 ⟨rfl, rfl⟩; clear CF; refine ⟨_, rfl, .inl (C7.out.drewN _), ?_⟩) | (go_at_call 14; refine (machine_live (w7.drewN n3) m h a0 0 C6m.out HA.out AL.out).mono ?_; rintro e w9 ⟨rfl, rfl⟩; clear C6m; refine ⟨_, rfl, .inl (C7.out.drewN _), ?_⟩) | (go_at_call 15; refine (machine_steps (w7.drewN n3) m (num 0) CS.out).mono ?_; rintro e w9 ⟨rfl, rfl⟩; clear CS; refine ⟨_, rfl, .inl (C7.out.drewN _), ?_⟩) | (go_at_call 16; first | (refine (ints_0 (w7.drewN n3) g _ _ (by have := Hg.out; omega) (Z1.out.drewN n3) (Z2.out.drewN n3)).mono ?_; rintro e w9 ⟨rfl, n4, hw⟩; have h8 := Sw.drewN n4 (Sw.drewN n3 H7.out); rw [← hw] at h8; have c8 := (C7.out.drewN n3).drewN n4; rw [← hw] at c8; have z3 := (Z3.out.drewN n3).drewN n4; rw [← hw] at z3; have z4 := (Z4.out.drewN n3).drewN n4; rw [← hw] at z4; have va := (VA.out.drewN n3).drewN n4; rw [← hw] at va; have H8 := hid h8; have C8 := hid c8; have Z5 := hid z3; have Z6 := hid z4; have VA8 := hid va; clear Z1 Z2 Z3 Z4 VA H7 hw h8 c8 z3 z4 va; refine ⟨_, rfl, .inl C8.out, ?_⟩) | (refine (ints_0 w9 16 _ _ (by omega) Z5.out Z6.out).mono ?_; rintro e w10 ⟨rfl, n5, hw⟩; have h8 := Sw.drewN n5 H8.out; rw [← hw] at h8; have c8 := C8.out.drewN n5; rw [← hw] at c8; have va := VA8.out.drewN n5; rw [← hw] at va; have H9 := hid h8; have C9 := hid c8; have VA9 := hid va; clear Z5 Z6 VA8 H8 hw h8 c8 va; refine ⟨_, rfl, .inl C9.out, ?_⟩)) | (go_at_call 17; refine (all_0 np Hp1.out Hg.out VA9.out).mono ?_; rintro e w10 ⟨rfl, hb⟩; have h10 := H9.out.of_below hb; have K19 := (h10 |>.front 9 rfl).cell 19 rfl; have K20 := (h10 |>.front 9 rfl).cell 20 rfl; have K21 := (h10 |>.front 9 rfl).cell 21 rfl; have C10 := hid (SN.of Hc2.out Hc3.out h10 (h10 |>.front 22 rfl)); have H10 := hid h10; clear h10 hb H9 VA9; refine ⟨_, rfl, .inl C10.out, ?_⟩) | (go_at_call 18; refine (machine_goal _ m x0 x1 x2 K19 K20 K21).mono ?_; rintro e w11 ⟨rfl, hb⟩; have h11 := H10.out.of_below hb; have C11 := hid (SN.of Hc2.out Hc3.out h11 (h11 |>.front 22 rfl)); have H11 := hid h11; clear h11 hb H10; refine ⟨_, rfl, .inl C11.out, ?_⟩) | (go_at_call 19; refine (RG.out N2 HN2.out (onF pf) _).mono ?_; rintro e w12 ⟨he, hb⟩; rw [Hx.out] at he; subst he; have h12 := H11.out.of_below hb; have C12 := hid (SN.of Hc2.out Hc3.out h12 (h12 |>.front 22 rfl)); have H12 := hid h12; clear hb h12; refine ⟨_, rfl, .inl C12.out, ?_⟩))) | go_values | go_skip | go_guarded | go_step | go_upon | dsimp only)
        go_ret
        exact ⟨rfl, (H12.out |>.front 20 rfl).below⟩
end Go.Proofs.YtfddmbafjniflaaGreatDoor
