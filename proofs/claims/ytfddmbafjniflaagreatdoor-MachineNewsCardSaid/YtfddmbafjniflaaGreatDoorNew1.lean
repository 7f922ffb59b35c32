/-
  Package machine: New at every configuration and script.
-/
import Derived.Test.YtfddmbafjniflaaGreatDoorNew0
import Derived.Test.YtfddmbafjniflaaGreatDoorGoal
import Derived.Test.YtfddmbafjniflaaGreatDoorFlo
namespace Go.Proofs.YtfddmbafjniflaaGreatDoor
open Go Go.RowKit
/-- A first machine's cells. -/
def mG (g : Nat) (fv : Value) (wd : Nat) (pct : Int) (on : Bool) (part : Nat) (h st gv pv sc t wt glv ph tr gl ra : Value) : List Value :=
  [num g, fv, num wd, .int .i64 pct, .bool on, num part, h, st, gv, pv, sc, t, wt, glv, num 0, ph, .pointer none, .pointer none, .pointer none,
    tr, gl, ra, num 0, .slice none 0 0, .slice none 0 0, .slice none 0 0, num 0, .bool false]
theorem goalC_three (k : Nat) (on : Bool) : ∃ x0 x1 x2 : Nat, goalC k on = [num x0, num x1, num x2] := by
  cases on
  · exact ⟨k * 64, k * 64, 0, rfl⟩
  · exact ⟨12 * k, 16 * k, ratK k, rfl⟩
theorem decodeE_le {bs : List Nat} {g : Nat} {fs : List (List (List Nat))} (h : decodeE bs = .ok (g, fs)) : g ≤ 32 ∧ fs.length ≤ 16 := by
  unfold decodeE at h
  split at h
  · cases h
  · rename_i n hn
    split at h
    · cases h
    · rename_i g' hg
      have hn2 : n ≤ 16 := by
        rcases nextE_cases bs 0 1 16 with ⟨_, he⟩ | ⟨x, _, _, ⟨_, he⟩ | ⟨_, h2, he⟩⟩
        · rw [he] at hn; cases hn
        · rw [he] at hn; cases hn
        · rw [he] at hn; cases hn; exact h2
      have hg2 : g' ≤ 32 := by
        rcases nextE_cases bs 1 0 32 with ⟨_, he⟩ | ⟨x, _, _, ⟨_, he⟩ | ⟨_, h2, he⟩⟩
        · rw [he] at hg; cases hg
        · rw [he] at hg; cases hg
        · rw [he] at hg; cases hg; exact h2
      unfold restE at h
      split at h
      · cases h
      · rename_i p fs' hf
        split at h
        · cases h
        · cases h
          refine ⟨hg2, ?_⟩
          have : ∀ i p fs, funcsE g n bs i = .ok (p, fs) → fs.length = i := by
            intro i
            induction i with
            | zero => intro p fs h; simp only [funcsE] at h; cases h; rfl
            | succ i ih =>
              intro p fs h
              unfold funcsE at h
              split at h
              · cases h
              · rename_i h1
                split at h
                · cases h
                · split at h
                  · cases h
                  · cases h; simp [ih _ _ h1]
          rw [this _ _ _ hf]; exact hn2
set_option maxRecDepth 100000 in
set_option maxHeartbeats 4000000 in
theorem new_no (w : World) (ps words : Int) (x y : Value) (b : Value) (h : mayC ps words = false) : Calls Tryz.prog 5 #[.agg #[.int .i64 ps, .int .i64 words, x, y], b] w fun e w' => e = .returned (.tuple #[.pointer none, num 1, num 0]) ∧ Below w.heap.size w w' := by
  have hm := hid (conf_may (w.alloc (.cells #[.int .i64 ps, .int .i64 words, x, y] 24)) ps words x y)
  have H0 := hid ((Sw.old w).allocc [.int .i64 ps, .int .i64 words, x, y] 24)
  have Hh := hid h
  clear h
  go_enter Tryz.func5, Tryz.ntmps5
  repeat' (first | (go_big_may; (first | (go_at_call 22; refine hm.out.mono ?_; rintro e w1 ⟨he, hb⟩; rw [Hh.out] at he; subst he; have H1 := hid (H0.out.of_below hb); clear hb))) | go_values | go_skip | go_guarded | go_step | go_upon | dsimp only)
  go_ret3
  exact ⟨rfl, H1.out.tail.below⟩
set_option maxRecDepth 100000 in
set_option maxHeartbeats 4000000 in
theorem new_bad (w : World) (R : List HP) (B : HP) (b o cap : Nat) (a : Option Addr) (bs : List Nat) (ps words : Int) (x y : Value) (h : mayC ps words = true) (m : Nat) (hd : decodeE bs = .error m) (hn : bs.length ≤ 50000) (hbyte : ∀ x ∈ bs, x < 256) (hB : Holds B b o bs)
    (ha : 0 < bs.length → a = some ⟨b, o, none⟩) (hS : Sw w (B :: R)) : Calls Tryz.prog 5 #[.agg #[.int .i64 ps, .int .i64 words, x, y], .slice a bs.length cap] w fun e w' => e = .returned (.tuple #[.pointer none, num 6, num m]) ∧ Sw w' (B :: R) := by
  have hm := hid (conf_may (w.alloc (.cells #[.int .i64 ps, .int .i64 words, x, y] 24)) ps words x y)
  have H0 := hid (hS.after_alloc (.cells #[.int .i64 ps, .int .i64 words, x, y] 24))
  have Hh := hid h
  have Dc := hid (fun w hS => decode_any w R B b o cap a bs hn hbyte hB ha hS)
  have Hd := hid hd
  clear h hn hbyte hB ha hS hd
  have i6 : ¬ (6 : Int) = 0 := by omega
  go_enter Tryz.func5, Tryz.ntmps5
  repeat' (first | (go_big_may; (first | (go_at_call 22; refine hm.out.mono ?_; rintro e w1 ⟨he, hb⟩; rw [Hh.out] at he; subst he; have H1 := hid (H0.out.of_below hb); clear hb) | (go_at_call 23; refine (Dc.out _ H1.out).mono ?_; rintro e w2 he; unfold DecEnds at he; rw [Hd.out] at he; obtain ⟨he, h2⟩ := he; subst he; have H2 := hid (h2.after_alloc (.cells #[.int .i64 0, .slice none 0 0] 32)); clear h2))) | go_values | go_skip | go_guarded | go_step | go_upon | dsimp only)
  go_ret3
  exact ⟨rfl, H2.out⟩
set_option maxRecDepth 100000 in
set_option maxHeartbeats 8000000 in
theorem new_good (m64 : Mul64Said) (w : World) (R : List HP) (B : HP) (b o cap : Nat) (a : Option Addr) (bs : List Nat) (np k pf pq : Nat) (g : Nat) (fs : List (List (List Nat))) (hd : decodeE bs = .ok (g, fs)) (hn : bs.length ≤ 50000) (hbyte : ∀ x ∈ bs, x < 256) (hB : Holds B b o bs)
    (ha : 0 < bs.length → a = some ⟨b, o, none⟩) (hp1 : 1 ≤ np) (hp2 : np ≤ 64) (h4 : 4 ≤ k) (hk : k ≤ 262144) (hS : Sw w (B :: R)) :
    Calls Tryz.prog 5 #[.agg #[num np, num (k * 64), .float .f64 pf, .float .f64 pq], .slice a bs.length cap] w fun e w' => ∃ (m : Nat) (fv : Value) (N : Int) (part h st sc t wt ph : Nat) (gv : Value) (gg : Nat) (pv : Value) (gb : Nat) (a0 c0 : Nat) (v0 : Value) (p0 mm x0 x1 x2 : Nat), goalC k (onF pf) = [num x0, num x1, num x2] ∧ inI N ∧ e = .returned (.tuple #[ptr m, .int .i64 0, .int .i64 0]) ∧
      Sw w' (ptc m (mG g fv (k * 64) N (onF pf) part (ptr h) (ptr st) gv pv (ptr sc) (ptr t) (ptr wt) (.slice (some ⟨gb, 0, none⟩) g g) (ptr ph) (num x0) (num x1) (num x2)) 93 ::
        StatesR st [1] :: sl 116 1 gv 1 [ptr gg] :: ptc gg (gorC 0 0 0 (stack0 (num 0)) 0 0) 120 :: SchedR sc ((List.replicate np []).set 0 [0]) [] :: PhaseR ph 0 0 (List.replicate np false) 0 0 ::
        sl 3 1 (.slice (some ⟨gb, 0, none⟩) g g) g (List.replicate g (.int .i64 0)) :: ptc t [.slice none 0 0, num 0] 174 :: ptc h [ptr a0, ptr c0, v0] 158 :: ptc a0 [ptr p0, .map (some mm), .map (some (mm + 1)), .map (some (mm + 1 + 1)), num 0] 196 :: pt (mm + 1 + 1) (.map #[] 0) :: B :: R) := by
  obtain ⟨hg, hfl⟩ := decodeE_le hd
  obtain ⟨part, hpart, hpt⟩ := conf_part pq
  have Hpt := hid hpt
  have hm := hid (conf_may (w.alloc (.cells #[.int .i64 np, .int .i64 (k * 64 : Nat), .float .f64 pf, .float .f64 pq] 24)) np (k * 64 : Nat) (.float .f64 pf) (.float .f64 pq))
  have hmay : mayC np (k * 64 : Nat) = true := by
    unfold mayC
    simp only [Bool.and_eq_true, decide_eq_true_eq]
    omega
  have h0 := hS.allocc [num np, num (k * 64), .float .f64 pf, .float .f64 pq] 24
  have H0 := hid (h0 |>.front 1 rfl)
  have Hh := hid hmay
  have Dc := hid (fun w R hS => decode_any w R B b o cap a bs hn hbyte hB ha hS)
  have Hd := hid hd
  have D := hid m64
  obtain ⟨x0, x1, x2, hx⟩ := goalC_three k (onF pf)
  have pg := fun N hN w => pacer_goal m64 k h4 hk N hN (onF pf) w
  rw [hx] at pg
  have Hx := hid hx
  have Pg := hid pg
  have Hp1 := hid hp1
  have Hp2 := hid hp2
  have H4 := hid h4
  have Hk := hid hk
  have Hg := hid hg
  have Hfl := hid hfl
  have ip : (np : Int) ≤ 64 := by omega
  clear hn hbyte hB ha hS hd h0 hmay m64 hpt hx pg hp1 hp2 h4 hk hg hfl
  obtain ⟨W, hW⟩ : ∃ W, W = k * 64 := ⟨_, rfl⟩
  have HW := hid hW
  have Hcn := hid (fun w R hS => cache_new w R k np H4.out Hk.out Hp1.out Hp2.out hS)
  rw [← hW] at H0 hm Hcn Pg Hh
  rw [← hW]
  clear hW
  go_enter Tryz.func5, Tryz.ntmps5
  repeat' (first | (go_big_may; (first | (go_at_call 22; refine hm.out.mono ?_; rintro e w1 ⟨he, hb⟩; rw [Hh.out] at he; subst he; have H1 := hid (H0.out.of_below hb); clear hb) | (go_at_call 23; refine (Dc.out _ _ H1.out).mono ?_; rintro e w2 he; unfold DecEnds at he; rw [Hd.out] at he; obtain ⟨fv, lvs, hl, he, h2⟩ := he; subst he; obtain ⟨fa, fcap, rfl⟩ := h2.sl_val; have H2 := hid (Sw.drop_mid _ (h2.tail)); clear h2))) | go_values | go_skip | go_guarded | go_step | go_upon | dsimp only)
  have h2 := H2.out
  simp only [List.eraseIdx_cons_zero, List.eraseIdx_cons_succ] at h2
  have h3 := h2.allocc [.int .i64 g, .slice fa fs.length fcap] 32
  clear h2 H2 H1 H0 hm Dc
  revert h3
  generalize World.alloc _ _ = w3
  generalize w2.heap.size = n7
  generalize w.heap.size = n0
  intro h3
  have h3 := h3 |>.front 2 rfl |>.front 1 rfl
  simp only [List.eraseIdx_cons_zero, List.eraseIdx_cons_succ] at h3
  have hmk := fun w => run_make_row' (P := Tryz.prog) 36 3 (.int .i64 0) 8 Tryz.underlying36 (by kernel_rfl) rfl .i64 .i64 g (by have := Hg.out; omega) (by have := Hg.out; omega) w
  simp only [made_one] at hmk
  have H3 := hid h3
  clear h3
  have S6 := hid (show ∀ (w' : World) (R' : List HP), Sw w' (ptc n7 [.int .i64 g, .slice fa fs.length fcap] 32 :: ptc n0 [num np, num W, .float .f64 pf, .float .f64 pq] 24 :: R') → w'.cell? ⟨n7, 0, none⟩ = some (.int .i64 g) ∧ w'.cell? ⟨n7, 1, none⟩ = some (.slice fa fs.length fcap) ∧ w'.cell? ⟨n0, 1, none⟩ = some (num W) ∧ w'.cell? ⟨n0, 3, none⟩ = some (.float .f64 pq) from
    fun w' R' h => ⟨h.cell 0 rfl, h.cell 1 rfl, (h |>.front 1 rfl).cell 1 rfl, (h |>.front 1 rfl).cell 3 rfl⟩)
  have C6 := hid (S6.out _ _ (Sw.drew H3.out))
  have h4 := Sw.drew (H3.out.allocc (List.replicate g (.int .i64 0)) 3)
  simp only [List.toArray_replicate] at h4
  have C7 := hid (S6.out _ _ (h4 |>.front 2 rfl |>.front 2 rfl))
  have h5 := Sw.drew ((H3.out.allocc (List.replicate g (.int .i64 0)) 3).allocc [.int .i64 g, .slice fa fs.length fcap, .int .i64 W, .int .i64 0, .bool false, num part, .pointer none, .pointer none, .slice none 0 0, .slice none 0 0, .pointer none, .pointer none, .pointer none, .slice (some ⟨w3.heap.size, 0, none⟩) g g, .int .i64 0, .pointer none, .pointer none, .pointer none, .pointer none, .int .i64 0, .int .i64 0, .int .i64 0, .int .i64 0, .slice none 0 0, .slice none 0 0, .slice none 0 0, .int .i64 0, .bool false] 93)
  simp only [World.size_alloc, List.toArray_replicate] at h5
  have C8 := hid (S6.out _ _ (h5 |>.front 3 rfl |>.front 3 rfl))
  have H5 := hid h5
  clear h4 h5 S6 H3
  repeat' (first | (go_big_may; (first | ((with_reducible refine wp_region_segT (qs := [24]) (fun w' => w'.cell? ⟨n7, 0, none⟩ = some (.int .i64 g) ∧ w'.cell? ⟨n7, 1, none⟩ = some (.slice fa fs.length fcap) ∧ w'.cell? ⟨n0, 1, none⟩ = some (num W) ∧ w'.cell? ⟨n0, 3, none⟩ = some (.float .f64 pq)) mixed (by decide +kernel) ?_ ?_); (focus (exact C6.out))) | ((with_reducible apply segT_look); (focus (rfl)); (focus (first | (go_simp; done) | (go_simp; exact rfl) | exact rfl)); (focus (rfl)); (focus (intro wq hq; obtain ⟨q0, q1, q2, q3⟩ := hq; go_simp; first | exact rfl | exact ⟨rfl, rfl⟩))) | ((with_reducible apply segT_quiet); (focus (rfl)); (focus (first | (go_simp; done) | (go_simp; exact rfl) | exact rfl)); (focus (rfl)); (focus (intro wq hq; obtain ⟨q0, q1, q2, q3⟩ := hq; go_simp; first | exact rfl | exact ⟨rfl, rfl⟩)); (focus (kernel_rfl)); (focus (exact fun w _ => Hpt.out w))) | (((with_reducible apply segT_actN); (focus (rfl)); (focus (first | (go_simp; done) | (go_simp; exact rfl) | exact rfl)); (focus (rfl)); (focus (go_simp; first | exact rfl | exact ⟨rfl, rfl⟩))); (focus (first | exact .inl C7.out | exact .inl C8.out))))) | go_values | go_skip | go_guarded | go_step | go_upon | dsimp only)
  refine segT_nil ?_
  have h5 := H5.out
  clear C6 C7 C8 H5 hmk
  revert h5
  generalize World.drew _ = w4
  generalize w3.heap.size + 1 = m
  generalize w3.heap.size = n8
  intro h5
  -- 0 m, 1 n8, 2 P, 3 box, 4 B
  have h5 := h5 |>.front 1 rfl
  simp only [List.eraseIdx_cons_zero, List.eraseIdx_cons_succ] at h5
  have h5 := Sw.sl_close (E := 3) (sz := 1) (n := g) (cap := g) (o := 0) (Nat.le_refl _) (by have := Hg.out; simp only [maxLen]; omega) (by simp) (c := List.replicate g (.int .i64 0)) (by simpa using h5)
  simp only [List.drop_zero, Nat.mul_one, List.take_replicate, Nat.min_self] at h5
  have h5 := h5 |>.front 1 rfl
  simp only [List.eraseIdx_cons_zero, List.eraseIdx_cons_succ] at h5
  have b2 := (h5 |>.front 3 rfl).cell 2 rfl
  have b1 := (h5 |>.front 3 rfl).cell 1 rfl
  have b0 := (h5 |>.front 3 rfl).cell 0 rfl
  have nb := (h5 |>.front 3 rfl).ne
  have c3 := h5.cell 3 rfl
  have c4 := h5.cell 4 rfl
  have f3 := h5.frozen 3
  have f4 := h5.frozen 4
  have hpc := hid (conf_percent w4 pf)
  have H5 := hid h5
  clear h5
  repeat' (first | (go_big_may; (first | (go_at_call 25; refine hpc.out.mono ?_; rintro e v4 ⟨N, n1, hN, rfl, rfl⟩; have HN := hid hN; clear hN; have H6 := hid (((Sw.drewN n1 H5.out).set 3 (.int .i64 N)).set 4 (.bool (onF pf)))) | (go_at_call 26; refine (Hcn.out _ _ H6.out).mono ?_; rintro e w6 ⟨hp, ap, cp, cv, vs, pp, pv, mm, cc, hvs, rfl, h7⟩; clear b2 c3 c4 f3 f4 hpc Hcn nb b1 b0; have h7 := h7 |>.front 13 rfl |>.front 11 rfl |>.front 11 rfl |>.front 11 rfl |>.front 11 rfl |>.front 9 rfl |>.front 9 rfl |>.front 9 rfl |>.front 9 rfl; simp only [List.eraseIdx_cons_zero, List.eraseIdx_cons_succ] at h7; have h7 := h7.tail.tail.tail.tail.tail.tail.tail.tail.tail; have c6 := (h7 |>.front 3 rfl).cell 6 rfl; have f6 := (h7 |>.front 3 rfl).frozen 6; have b0 := (h7 |>.front 5 rfl).cell 0 rfl; have nb := (h7 |>.front 3 rfl |>.front 5 rfl).ne; have h8 := (h7 |>.front 3 rfl).set 6 (ptr hp); simp only [List.eraseIdx_cons_zero, List.eraseIdx_cons_succ] at h8; have Hsn := hid (sched_new _ _ np Hp1.out Hp2.out h8); clear h7 h8 hvs) | (go_at_call 27; refine Hsn.out.mono ?_; rintro e w7 ⟨sc, rfl, h9⟩; clear c6 f6 b0 nb Hsn; have c10 := (h9 |>.front 1 rfl).cell 10 rfl; have f10 := (h9 |>.front 1 rfl).frozen 10; have b0 := (h9 |>.front 6 rfl).cell 0 rfl; have nb := (h9 |>.front 1 rfl |>.front 6 rfl).ne; have h10 := (h9 |>.front 1 rfl).set 10 (ptr sc); simp only [List.eraseIdx_cons_zero, List.eraseIdx_cons_succ] at h10; have Hpn := hid (phase_new _ _ np Hp1.out Hp2.out h10); clear h9 h10) | (go_at_call 28; refine Hpn.out.mono ?_; rintro e w8 ⟨ph, rfl, h11⟩; clear c10 f10 b0 nb Hpn; have c15 := (h11 |>.front 1 rfl).cell 15 rfl; have f15 := (h11 |>.front 1 rfl).frozen 15; have h12 := (h11 |>.front 1 rfl).set 15 (ptr ph); simp only [List.eraseIdx_cons_zero, List.eraseIdx_cons_succ] at h12; have Hst := hid (states_new _ _ h12); clear h11 h12) | (go_at_call 29; refine Hst.out.mono ?_; rintro e w9 ⟨st, rfl, h13⟩; clear c15 f15 Hst; have Htm := hid (timer_new _ _ h13); clear h13) | (go_at_call 30; refine Htm.out.mono ?_; rintro e w10 ⟨tm, rfl, h14⟩; clear Htm; have Hwt := hid (wait_new _ _ h14); clear h14) | (go_at_call 31; refine Hwt.out.mono ?_; rintro e w11 ⟨wt, rfl, h15⟩; clear Hwt; have h15 := h15 |>.front 3 rfl; simp only [List.eraseIdx_cons_zero, List.eraseIdx_cons_succ] at h15; have c7 := h15.cell 7 rfl; have c11 := h15.cell 11 rfl; have c12 := h15.cell 12 rfl; have f7 := h15.frozen 7; have f11 := h15.frozen 11; have f12 := h15.frozen 12; have b0 := (h15 |>.front 10 rfl).cell 0 rfl; have nb := (h15 |>.front 10 rfl).ne; have H16 := hid (((h15.set 7 (ptr st)).set 11 (ptr tm)).set 12 (ptr wt)); clear h15))) | go_values | go_skip | go_guarded | go_step | go_upon | dsimp only)
  have h16 := H16.out
  clear c7 c11 c12 f7 f11 f12 b0 nb H16 H5 H6
  revert h16
  generalize World.setCell _ _ _ = w12
  intro h16
  have h16 := h16 |>.front 11 rfl |>.front 9 rfl |>.front 9 rfl |>.front 9 rfl |>.front 6 rfl |>.front 10 rfl |>.front 9 rfl |>.front 10 rfl |>.front 10 rfl |>.front 11 rfl |>.front 10 rfl
  simp only [List.eraseIdx_cons_zero, List.eraseIdx_cons_succ] at h16
  -- 0 m, 1 box, 2 States, 3 Sched, 4 Phase, 5 sl glv, 6 tm, 7 h, 8 a, 9 ptO, 10 B, 11 wt
  have zI := hid (show (Tryz.prog.info? 103).map (fun i => (i.zero, i.size, i.bytes)) = some (some (.pointer none), 1, 8) from by kernel_rfl)
  have h17 : Sw w12 (ptc m (mG g (.slice fa fs.length fcap) W N (onF pf) part (ptr hp) (ptr st) (.slice none 0 0) (.slice none 0 0) (ptr sc) (ptr tm) (ptr wt) (.slice (some ⟨n8, 0, none⟩) g g) (ptr ph) (.int .i64 0) (.int .i64 0) (.int .i64 0)) 93 :: _) := h16
  clear h16
  generalize hrest : (ptc n0 _ _ :: _ : List HP) = Rest at h17
  have Hrest := hid hrest
  have H17 := hid h17
  clear h17 hrest
  go_loopw [90] (fun v90 wr => ∃ i pv xs, i ≤ np ∧ v90 = num i ∧ Sw wr (ptc m (mG g (.slice fa fs.length fcap) W N (onF pf) part (ptr hp) (ptr st) (.slice none 0 0) pv (ptr sc) (ptr tm) (ptr wt) (.slice (some ⟨n8, 0, none⟩) g g) (ptr ph) (.int .i64 0) (.int .i64 0) (.int .i64 0)) 93 :: sl 103 1 pv i xs :: Rest)) (fun v90 wr => below_ np v90)
  case atStart =>
    exact ⟨0, .slice none 0 0, [], by omega, rfl, (H17.out.sl_nil none) |>.front 1 rfl⟩
  obtain ⟨i, pv, xs, hi, rfl, h16⟩ := hrel
  obtain ⟨a1, cap1, rfl⟩ := (h16 |>.front 1 rfl).sl_val
  clear H17
  rcases Nat.lt_or_ge i np with hlt | hge
  · have j1 : (i : Int) < np := by omega
    have C1a := hid (h16.cell 9 rfl)
    have Hb1 := hid (bar_new _ _ (Sw.drew h16))
    have Hlt := hid hlt
    clear h16 hlt hi
    repeat' (first | (go_big_may; (first | ((with_reducible refine wp_region_segS (fun w' => w'.cell? ⟨m, 9, none⟩ = some (.slice a1 i cap1)) mixed (by decide +kernel) ?_ ?_); (focus (exact C1a.out))) | ((with_reducible apply segS_lookN); (focus (rfl)); (focus (first | (go_simp; done) | (go_simp; exact rfl) | exact rfl)); (focus (rfl)); (focus (intro wq hq; (try dsimp only at hq); go_simp; first | exact rfl | exact ⟨rfl, rfl⟩))) | ((with_reducible apply segS_callN); (focus (rfl)); (focus (first | (go_simp; done) | (go_simp; exact rfl) | exact rfl)); (focus (rfl)); (focus (go_simp; first | exact rfl | exact ⟨rfl, rfl⟩))) | (go_at_call 32; refine Hb1.out.mono ?_; rintro e u1 ⟨bb1, rfl, k1⟩; have C1b := hid ((k1 |>.front 1 rfl).cell 9 rfl); have k2 := k1.allocc [.int .i64 (-1), .int .i64 0, .int .i64 (-1), .int .i64 0, .int .i64 0, .pointer none, ptr bb1, .bool false, .int .i64 0, .int .i64 0, .int .i64 0] 108; have C1c := hid ((k2 |>.front 2 rfl).cell 9 rfl); have k3 := k2.allocc [ptr u1.heap.size] 103; simp only [World.size_alloc] at k3; have C1d := hid ((k3 |>.front 3 rfl).cell 9 rfl); have K1 := hid k3; clear k1 k2 k3; refine ⟨_, rfl, .inl C1b.out, ?_⟩) | (((with_reducible apply segS_actN); (focus (rfl)); (focus (first | (go_simp; done) | (go_simp; exact rfl) | exact rfl)); (focus (rfl)); (focus (go_simp; first | exact rfl | exact ⟨rfl, rfl⟩))); (focus (first | exact .inl C1c.out | exact .inl C1d.out))))) | go_values | go_skip | go_guarded | go_step | go_upon | dsimp only)
    with_reducible apply segS_norm
    (focus (first | (go_simp; done) | (go_simp; exact rfl) | exact rfl))
    refine segS_append_sl 103 83 (.pointer none) 1 8 (by decide) Tryz.underlying83 zI.out rfl rfl (.tmp 96) (.tmp 100) rfl (.slice a1 i cap1) i xs _ rfl (K1.out |>.front 4 rfl) _ 1 [ptr u1.heap.size] rfl (Src.fresh1n _ _ rfl (World.size_alloc _ _)) (by have := Hlt.out; have := Hp2.out; omega) ?_
    intro v1 y1 k4
    obtain ⟨a2, cap2, rfl⟩ := k4.sl_val
    try simp only [List.eraseIdx_cons_zero, List.eraseIdx_cons_succ] at k4
    have C1e := hid ((k4 |>.front 4 rfl).cell 9 rfl)
    have cf1 := (k4 |>.front 4 rfl).frozen 9
    have cc1 := (k4 |>.front 4 rfl).cell 9 rfl
    have k5 := (k4 |>.front 4 rfl).set 9 (.slice a2 (i + 1) cap2)
    simp only [List.eraseIdx_cons_zero, List.eraseIdx_cons_succ] at k5
    have k5 := (k5 |>.front 4 rfl |>.front 4 rfl |>.front 4 rfl).tail.tail.tail
    try simp only [List.eraseIdx_cons_zero, List.eraseIdx_cons_succ] at k5
    have K1b := hid k5
    clear k4 k5 K1 C1a C1b C1c C1d Hb1
    refine ⟨.inl C1e.out, ?_⟩
    repeat' (first | (go_big_may; (first | ((with_reducible apply segS_lookN); (focus (rfl)); (focus (first | (go_simp; done) | (go_simp; exact rfl) | exact rfl)); (focus (rfl)); (focus (intro wq hq; (try dsimp only at hq); go_simp; first | exact rfl | exact ⟨rfl, rfl⟩))) | ((with_reducible apply segS_callN); (focus (rfl)); (focus (first | (go_simp; done) | (go_simp; exact rfl) | exact rfl)); (focus (rfl)); (focus (go_simp; first | exact rfl | exact ⟨rfl, rfl⟩))))) | go_values | go_skip | go_guarded | go_step | go_upon | dsimp only)
    ((with_reducible apply segS_unitN); (focus (rfl)); (focus (first | (go_simp; done) | (go_simp; exact rfl) | exact rfl)); (focus (rfl)); (focus (go_simp; first | exact rfl | exact ⟨rfl, rfl⟩)))
    focus exact .inr rfl
    refine segS_nil ?_
    repeat' (first | go_values | go_skip | go_guarded | go_step | go_upon | dsimp only)
    go_roundw
    case rel => exact ⟨i + 1, _, _, Hlt.out, rfl, K1b.out⟩
    case measure => have := Hlt.out; simp [below_]; omega
  · have hin : np = i := by omega
    subst hin
    have m2 := h16.cell 2 rfl
    have m3 := h16.cell 3 rfl
    have m4 := h16.cell 4 rfl
    have H17 := hid h16
    have j1 : ¬ (np : Int) < np := by omega
    clear h16 hi hge
    repeat' (first | (go_big_may; (first | (with_reducible refine wp_region_segP mixed (by decide +kernel) ?_) | ((with_reducible apply segP_pureN); (focus (rfl)); (focus (first | (go_simp; done) | (go_simp; exact rfl) | exact rfl)); (focus (rfl)); (focus (intro w1; go_simp; first | exact rfl | exact ⟨rfl, rfl⟩))) | ((with_reducible apply segP_lookN); (focus (rfl)); (focus (rfl)); (focus (first | (go_simp; done) | (go_simp; exact rfl) | exact rfl)); (focus (rfl)); (focus (go_simp; first | exact rfl | exact ⟨rfl, rfl⟩))) | ((with_reducible apply segP_actN); (focus (rfl)); (focus (rfl)); (focus (first | (go_simp; done) | (go_simp; exact rfl) | exact rfl)); (focus (rfl)); (focus (go_simp; first | exact rfl | exact ⟨rfl, rfl⟩))) | ((with_reducible apply segP_unitN); (focus (rfl)); (focus (rfl)); (focus (first | (go_simp; done) | (go_simp; exact rfl) | exact rfl)); (focus (rfl)); (focus (go_simp; first | exact rfl | exact ⟨rfl, rfl⟩))) | ((with_reducible apply segP_callN); (focus (rfl)); (focus (rfl)); (focus (first | (go_simp; done) | (go_simp; exact rfl) | exact rfl)); (focus (rfl)); (focus (go_simp; first | exact rfl | exact ⟨rfl, rfl⟩))) | ((with_reducible apply segP_skipN); (focus (first | (go_simp; done) | (go_simp; exact rfl) | exact rfl)); (focus (rfl))) | (with_reducible refine segP_nil ?_) | (go_at_call 33; refine (Pg.out N HN.out _).mono ?_; rintro e g1 ⟨rfl, hb⟩; have k6 := (Sw.drew H17.out).of_below hb; have c19 := k6.cell 19 rfl; have c20 := k6.cell 20 rfl; have c21 := k6.cell 21 rfl; have f19 := k6.frozen 19; have f20 := k6.frozen 20; have f21 := k6.frozen 21; have H18 := hid (((k6.set 19 (num x0)).set 20 (num x1)).set 21 (num x2)); clear k6 hb H17 m2 m3 m4; refine ⟨_, rfl, ?_⟩))) | go_values | go_skip | go_guarded | go_step | go_upon | dsimp only)
    have k7 := H18.out
    clear c19 c20 c21 f19 f20 f21 H18
    revert k7
    generalize World.setCell _ _ _ = w20
    intro k7
    have hrest := Hrest.out
    subst hrest
    -- 0 m, 1 sl pv, 2 box, 3 States, 4 Sched, 5 Phase, 6 sl glv, 7 tm, 8 h, 9 a, 10 ptO, 11 B
    have k8 := (k7 |>.front 5 rfl |>.front 5 rfl |>.front 5 rfl |>.front 3 rfl).sl_nil (E := 116) (sz := 1) none
    simp only [List.eraseIdx_cons_zero, List.eraseIdx_cons_succ] at k8
    have k8 := k8 |>.front 4 rfl |>.front 4 rfl |>.front 2 rfl |>.front 4 rfl |>.front 4 rfl
    simp only [List.eraseIdx_cons_zero, List.eraseIdx_cons_succ] at k8
    refine (spawn_off _ _ m 0 0 st sc ph 0 0 0 0 0 _ _ [] [] (List.replicate np []) [] (List.replicate np false) rfl rfl rfl rfl (by decide) rfl (by rw [List.getElem?_replicate, if_pos (by have := Hp1.out; omega)]) (by decide) (by have := Hp2.out; simp; omega) rfl k8).mono ?_
    rintro e w21 ⟨gv, gg, rfl, k9⟩
    clear k7 k8
    have K9 := hid k9
    clear k9
    repeat' (first | go_values | go_skip | go_guarded | go_step | go_upon | dsimp only)
    go_ret3
    -- 0 m, 1 St, 2 gs, 3 g, 4 Sched, 5 Phase, 6 sl pv, 7 box, 8 sl glv, 9 tm, 10 h, 11 a, 12 ptO, 13 B
    have k9 := (K9.out |>.front 14 rfl |>.front 8 rfl |>.front 8 rfl).tail.tail.tail
    simp only [List.eraseIdx_cons_zero, List.eraseIdx_cons_succ] at k9
    have hw := HW.out
    subst hw
    refine ⟨m, .slice fa fs.length fcap, N, part, hp, st, sc, tm, wt, ph, gv, gg, .slice a1 np cap1, n8, ap, cp, cv, pp, mm, x0, x1, x2, Hx.out, HN.out, rfl, ?_⟩
    exact k9
end Go.Proofs.YtfddmbafjniflaaGreatDoor
