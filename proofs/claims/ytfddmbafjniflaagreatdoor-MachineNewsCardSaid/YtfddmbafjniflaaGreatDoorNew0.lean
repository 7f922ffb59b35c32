/-
  Package machine: New at told's configuration.
-/
import Derived.Test.YtfddmbafjniflaaGreatDoorStep0
import Derived.Test.YtfddmbafjniflaaGreatDoorDecode2
import Derived.Test.YtfddmbafjniflaaGreatDoorCache
import Derived.Test.YtfddmbafjniflaaGreatDoorSegT
namespace Go.Proofs.YtfddmbafjniflaaGreatDoor
open Go Go.RowKit
/-- A machine's cells, as values. -/
def mA (fv pct on h st gv pv sc t wt glv ph tr gl ra : Value) : List Value :=
  [num 0, fv, num 256, pct, on, num 16384, h, st, gv, pv, sc, t, wt, glv, num 0, ph, .pointer none, .pointer none, .pointer none,
    tr, gl, ra, num 0, .slice none 0 0, .slice none 0 0, .slice none 0 0, num 0, .bool false]
def mZ (fv glv : Value) : List Value := mA fv (num 0) (.bool false) (.pointer none) (.pointer none) (.slice none 0 0) (.slice none 0 0) (.pointer none) (.pointer none) (.pointer none) glv (.pointer none) (num 0) (num 0) (num 0)
theorem mac_build (fa ga : Option Addr) (fn fc gn gc : Nat) (w : World) : (Instr.build 93 #[(0, .agg #[num 0, .slice fa fn fc]), (1, num 256), (4, num 16384), (12, .slice ga gn gc)]).run Tryz.prog w = .ok (.agg (mZ (.slice fa fn fc) (.slice ga gn gc)).toArray) w := by kernel_rfl
theorem proc_build (b : Nat) (w : World) : (Instr.build 108 #[(0, .int .i64 (-1)), (2, .int .i64 (-1)), (6, ptr b)]).run Tryz.prog w = .ok (.agg (procC (-1) 0 (-1) 0 0 (.pointer none) (ptr b) false 0 0 0).toArray) w := by kernel_rfl
theorem make_none : ∀ w, (Instr.makeSlice 36 (num 0) (num 0)).run Tryz.prog w = .ok (.slice (some ⟨w.heap.size, 0, none⟩) 0 0) (w.alloc (.cells #[] 3)) := fun w => by kernel_rfl
set_option maxRecDepth 100000 in
set_option maxHeartbeats 4000000 in
theorem new0 (m64 : Mul64Said) (w : World) (R : List HP) (sb : Nat) (hS : Sw w (ptc sb (script 0) 5 :: R)) :
    Calls Tryz.prog 5 #[conf0, .slice (some ⟨sb, 0, none⟩) 7 7] w fun e w' => ∃ m fv lv gv pv glv h st sc t wt ph g x1 x2 b1 a hc ac, hc[0]? = some (ptr a) ∧ ac[4]? = some (num 0) ∧ e = .returned (.tuple #[ptr m, .int .i64 0, .int .i64 0]) ∧
      Sw w' (ptc m (mC fv gv pv glv h st sc t wt ph 48 64 4194304 (.slice none 0 0) (.slice none 0 0) 0) 93 :: ptc x1 (procC (-1) 0 (-1) 0 0 (.pointer none) (ptr b1) false 0 0 0) 108 :: SchedR sc [[0], []] [] :: StatesR st [1] :: sl 103 1 pv 2 [ptr x1, ptr x2] :: PhaseR ph 0 0 [false, false] 0 0 ::
        sl 116 1 gv 1 [ptr g] :: ptc g (gorC 0 0 0 (stack0 (num 0)) 0 0) 120 :: sl 111 1 fv 1 [lv] :: sl 113 4 lv 1 [num 0, num 0, num 0, num 0] :: ptc t [.slice none 0 0, num 0] 174 :: ptc h hc 158 :: ptc a ac 196 :: ptc sb (script 0) 5 :: R) := by
  have h0 := hS.allocc [num 2, num 256, .float .f64 0, .float .f64 0] 24
  have H0 := hid h0
  have D := hid m64
  clear hS h0 m64
  unfold conf0
  go_enter Tryz.func5, Tryz.ntmps5
  repeat' (first | (go_big_may; (first | (go_at_call 22; refine (conf_may0 _).mono ?_; rintro e w1 ⟨rfl, hb⟩; have h1 := H0.out.of_below hb; have k2 := hid (decode_ok _ _ sb (h1 |>.front 1 rfl)); clear h1 hb H0) | (go_at_call 23; refine k2.out.mono ?_; rintro e w2 ⟨fv, lv, rfl, h2⟩; obtain ⟨fa, fcap, rfl⟩ := h2.sl_val; have H2 := hid h2; clear h2 k2))) | go_values | go_skip | go_guarded | go_step | go_upon | dsimp only)
  have h3 := H2.out.allocc [.int .i64 0, .slice fa 1 fcap] 32
  clear H2
  revert h3
  generalize World.alloc _ _ = w3
  generalize w2.heap.size = n7
  generalize w.heap.size = n0
  intro h3
  -- 0 P, 1 slf, 2 sll, 3 sb, 4 box
  have p0 := h3.cell 0 rfl
  have p1 := h3.cell 1 rfl
  have b1 := (h3 |>.front 4 rfl).cell 1 rfl
  have b3 := (h3 |>.front 4 rfl).cell 3 rfl
  have l0 := h3.lt'
  have l1 := (h3 |>.front 4 rfl).lt'
  have hpt := hid conf_part0
  have hmk : ∀ w, (Instr.makeSlice 36 (.int .i64 0) (.int .i64 0)).run Tryz.prog w = .ok (.slice (some ⟨w.heap.size, 0, none⟩) 0 0) (w.alloc (.cells #[] 3)) := make_none
  have H3 := hid h3
  clear h3
  have S6 := hid (show ∀ (w' : World) (R' : List HP), Sw w' (ptc n7 [.int .i64 0, .slice fa 1 fcap] 32 :: ptc n0 [num 2, num 256, .float .f64 0, .float .f64 0] 24 :: R') → w'.cell? ⟨n7, 0, none⟩ = some (.int .i64 0) ∧ w'.cell? ⟨n7, 1, none⟩ = some (.slice fa 1 fcap) ∧ w'.cell? ⟨n0, 1, none⟩ = some (num 256) ∧ w'.cell? ⟨n0, 3, none⟩ = some (.float .f64 0) from
    fun w' R' h => ⟨h.cell 0 rfl, h.cell 1 rfl, (h |>.front 1 rfl).cell 1 rfl, (h |>.front 1 rfl).cell 3 rfl⟩)
  have C6 := hid (S6.out _ _ ((Sw.drew H3.out) |>.front 4 rfl |>.front 1 rfl))
  have h4 := Sw.drew (H3.out.allocc [] 3)
  have C7 := hid (S6.out _ _ (h4 |>.front 5 rfl |>.front 2 rfl))
  have h5 := Sw.drew ((H3.out.allocc [] 3).allocc [.int .i64 0, .slice fa 1 fcap, num 256, .int .i64 0, .bool false, num 16384, .pointer none, .pointer none, .slice none 0 0, .slice none 0 0, .pointer none, .pointer none, .pointer none, .slice (some ⟨w3.heap.size, 0, none⟩) 0 0, .int .i64 0, .pointer none, .pointer none, .pointer none, .pointer none, .int .i64 0, .int .i64 0, .int .i64 0, .int .i64 0, .slice none 0 0, .slice none 0 0, .slice none 0 0, .int .i64 0, .bool false] 93)
  simp only [World.size_alloc] at h5
  have C8 := hid (S6.out _ _ (h5 |>.front 6 rfl |>.front 3 rfl))
  have H5 := hid h5
  clear h4 h5 p0 p1 b1 b3 l0 l1 S6 H3
  repeat' (first | (go_big_may; (first | ((with_reducible refine wp_region_segT (qs := [24]) (fun w' => w'.cell? ⟨n7, 0, none⟩ = some (.int .i64 0) ∧ w'.cell? ⟨n7, 1, none⟩ = some (.slice fa 1 fcap) ∧ w'.cell? ⟨n0, 1, none⟩ = some (num 256) ∧ w'.cell? ⟨n0, 3, none⟩ = some (.float .f64 0)) mixed (by decide +kernel) ?_ ?_); (focus (exact C6.out))) | ((with_reducible apply segT_look); (focus (rfl)); (focus (first | (go_simp; done) | (go_simp; exact rfl) | exact rfl)); (focus (rfl)); (focus (intro wq hq; obtain ⟨q0, q1, q2, q3⟩ := hq; go_simp; first | exact rfl | exact ⟨rfl, rfl⟩))) | ((with_reducible apply segT_quiet); (focus (rfl)); (focus (first | (go_simp; done) | (go_simp; exact rfl) | exact rfl)); (focus (rfl)); (focus (intro wq hq; obtain ⟨q0, q1, q2, q3⟩ := hq; go_simp; first | exact rfl | exact ⟨rfl, rfl⟩)); (focus (kernel_rfl)); (focus (exact fun w _ => hpt.out w))) | (((with_reducible apply segT_actN); (focus (rfl)); (focus (first | (go_simp; done) | (go_simp; exact rfl) | exact rfl)); (focus (rfl)); (focus (go_simp; first | exact rfl | exact ⟨rfl, rfl⟩))); (focus (first | exact .inl C7.out | exact .inl C8.out))))) | go_values | go_skip | go_guarded | go_step | go_upon | dsimp only)
  refine segT_nil ?_
  have h5 := H5.out
  clear C6 C7 C8 H5 hmk
  revert h5
  generalize World.drew _ = w4
  generalize w3.heap.size + 1 = m
  generalize w3.heap.size = n8
  intro h5
  -- 0 m, 1 glv, 2 P, 3 slf, 4 sll, 5 sb, 6 box
  have b2 := (h5 |>.front 6 rfl).cell 2 rfl
  have b1 := (h5 |>.front 6 rfl).cell 1 rfl
  have b0 := (h5 |>.front 6 rfl).cell 0 rfl
  have nb := (h5 |>.front 6 rfl).ne
  have c3 := h5.cell 3 rfl
  have c4 := h5.cell 4 rfl
  have f3 := h5.frozen 3
  have f4 := h5.frozen 4
  have hpc := hid conf_percent0
  have h6 := (h5.set 3 (num 0)).set 4 (.bool true)
  have hcn := cache_new _ _ 4 2 (by omega) (by omega) (by omega) (by omega) h6
  have Hcn := hid hcn
  clear h5 h6 hcn
  repeat' (first | (go_big_may; (first | (go_at_call 25; refine (hpc.out _).mono ?_; rintro e v4 ⟨rfl, rfl⟩) | (go_at_call 26; refine Hcn.out.mono ?_; rintro e w6 ⟨hp, ap, cp, cv, vs, pp, pv, mm, cc, hvs, rfl, h7⟩; clear b2 c3 c4 f3 f4 hpc Hcn nb b1 b0; have h7 := h7 |>.front 13 rfl |>.front 13 rfl |>.front 12 rfl |>.front 12 rfl |>.front 12 rfl |>.front 12 rfl |>.front 12 rfl |>.front 11 rfl |>.front 11 rfl |>.front 11 rfl |>.front 11 rfl; simp only [List.eraseIdx_cons_zero, List.eraseIdx_cons_succ] at h7; have h7 := h7.tail.tail.tail.tail.tail.tail.tail.tail.tail.tail.tail; have c6 := (h7 |>.front 2 rfl).cell 6 rfl; have f6 := (h7 |>.front 2 rfl).frozen 6; have b0 := (h7 |>.front 6 rfl).cell 0 rfl; have nb := (h7 |>.front 2 rfl |>.front 6 rfl).ne; have h8 := (h7 |>.front 2 rfl).set 6 (ptr hp); simp only [List.eraseIdx_cons_zero, List.eraseIdx_cons_succ] at h8; have Hsn := hid (sched_new _ _ 2 (by omega) (by omega) h8); clear h7 h8 hvs) | (go_at_call 27; refine Hsn.out.mono ?_; rintro e w7 ⟨sc, rfl, h9⟩; clear c6 f6 b0 nb Hsn; have c10 := (h9 |>.front 1 rfl).cell 10 rfl; have f10 := (h9 |>.front 1 rfl).frozen 10; have b0 := (h9 |>.front 7 rfl).cell 0 rfl; have nb := (h9 |>.front 1 rfl |>.front 7 rfl).ne; have h10 := (h9 |>.front 1 rfl).set 10 (ptr sc); simp only [List.eraseIdx_cons_zero, List.eraseIdx_cons_succ] at h10; have Hpn := hid (phase_new _ _ 2 (by omega) (by omega) h10); clear h9 h10) | (go_at_call 28; refine Hpn.out.mono ?_; rintro e w8 ⟨ph, rfl, h11⟩; clear c10 f10 b0 nb Hpn; have c15 := (h11 |>.front 1 rfl).cell 15 rfl; have f15 := (h11 |>.front 1 rfl).frozen 15; have h12 := (h11 |>.front 1 rfl).set 15 (ptr ph); simp only [List.eraseIdx_cons_zero, List.eraseIdx_cons_succ] at h12; have Hst := hid (states_new _ _ h12); clear h11 h12) | (go_at_call 29; refine Hst.out.mono ?_; rintro e w9 ⟨st, rfl, h13⟩; clear c15 f15 Hst; have Htm := hid (timer_new _ _ h13); clear h13) | (go_at_call 30; refine Htm.out.mono ?_; rintro e w10 ⟨tm, rfl, h14⟩; clear Htm; have Hwt := hid (wait_new _ _ h14); clear h14) | (go_at_call 31; refine Hwt.out.mono ?_; rintro e w11 ⟨wt, rfl, h15⟩; clear Hwt; have h15 := h15 |>.front 3 rfl; simp only [List.eraseIdx_cons_zero, List.eraseIdx_cons_succ] at h15; have c7 := h15.cell 7 rfl; have c11 := h15.cell 11 rfl; have c12 := h15.cell 12 rfl; have f7 := h15.frozen 7; have f11 := h15.frozen 11; have f12 := h15.frozen 12; have b0 := (h15 |>.front 11 rfl).cell 0 rfl; have nb := (h15 |>.front 11 rfl).ne; have H16 := hid (((h15.set 7 (ptr st)).set 11 (ptr tm)).set 12 (ptr wt)); clear h15))) | go_values | go_skip | go_guarded | go_step | go_upon | dsimp only)
  have h16 := H16.out
  clear c7 c11 c12 f7 f11 f12 b0 nb H16
  revert h16
  generalize World.setCell _ _ _ = w12
  intro h16
  have zI := hid (show (Tryz.prog.info? 103).map (fun i => (i.zero, i.size, i.bytes)) = some (some (.pointer none), 1, 8) from by kernel_rfl)
  refine wp_loop_rounds 3 ?_
  rw [rounds_succ]
  have C1a := hid ((h16).cell 9 rfl)
  have Hb1 := hid (bar_new _ _ (Sw.drew h16))
  clear h16
  repeat' (first | (go_big_may; (first | ((with_reducible refine wp_region_segS (fun w' => w'.cell? ⟨m, 9, none⟩ = some (.slice none 0 0)) mixed (by decide +kernel) ?_ ?_); (focus (exact C1a.out))) | ((with_reducible apply segS_lookN); (focus (rfl)); (focus (first | (go_simp; done) | (go_simp; exact rfl) | exact rfl)); (focus (rfl)); (focus (intro wq hq; (try dsimp only at hq); go_simp; first | exact rfl | exact ⟨rfl, rfl⟩))) | ((with_reducible apply segS_callN); (focus (rfl)); (focus (first | (go_simp; done) | (go_simp; exact rfl) | exact rfl)); (focus (rfl)); (focus (go_simp; first | exact rfl | exact ⟨rfl, rfl⟩))) | (go_at_call 32; refine Hb1.out.mono ?_; rintro e u1 ⟨bb1, rfl, k1⟩; have C1b := hid ((k1 |>.front 1 rfl).cell 9 rfl); have k2 := k1.allocc [.int .i64 (-1), .int .i64 0, .int .i64 (-1), .int .i64 0, .int .i64 0, .pointer none, ptr bb1, .bool false, .int .i64 0, .int .i64 0, .int .i64 0] 108; have C1c := hid ((k2 |>.front 2 rfl).cell 9 rfl); have k3 := k2.allocc [ptr u1.heap.size] 103; simp only [World.size_alloc] at k3; have C1d := hid ((k3 |>.front 3 rfl).cell 9 rfl); have K1 := hid k3; clear k1 k2 k3; refine ⟨_, rfl, .inl C1b.out, ?_⟩) | (((with_reducible apply segS_actN); (focus (rfl)); (focus (first | (go_simp; done) | (go_simp; exact rfl) | exact rfl)); (focus (rfl)); (focus (go_simp; first | exact rfl | exact ⟨rfl, rfl⟩))); (focus (first | exact .inl C1c.out | exact .inl C1d.out))))) | go_values | go_skip | go_guarded | go_step | go_upon | dsimp only)
  with_reducible apply segS_norm
  (focus (first | (go_simp; done) | (go_simp; exact rfl) | exact rfl))
  refine segS_append_sl 103 83 (.pointer none) 1 8 (by decide) Tryz.underlying83 zI.out rfl rfl (.tmp 96) (.tmp 100) rfl (.slice none 0 0) 0 [] _ rfl (K1.out.sl_nil none) _ 1 [ptr u1.heap.size] rfl (Src.fresh1n _ _ rfl (World.size_alloc _ _)) (by omega) ?_
  intro v1 y1 k4
  simp only [Nat.zero_add, List.nil_append] at k4
  obtain ⟨a1, cap1, rfl⟩ := k4.sl_val
  try simp only [List.eraseIdx_cons_zero, List.eraseIdx_cons_succ] at k4
  have C1e := hid ((k4 |>.front 4 rfl).cell 9 rfl)
  have cf1 := (k4 |>.front 4 rfl).frozen 9
  have cc1 := (k4 |>.front 4 rfl).cell 9 rfl
  have k5 := (k4 |>.front 4 rfl).set 9 (.slice a1 1 cap1)
  simp only [List.eraseIdx_cons_zero, List.eraseIdx_cons_succ] at k5
  have k5 := (k5 |>.front 2 rfl).tail
  try simp only [List.eraseIdx_cons_zero, List.eraseIdx_cons_succ] at k5
  have K1b := hid k5
  clear k4 k5 K1 C1a C1b C1c C1d Hb1
  refine ⟨.inl C1e.out, ?_⟩
  repeat' (first | (go_big_may; (first | ((with_reducible apply segS_lookN); (focus (rfl)); (focus (first | (go_simp; done) | (go_simp; exact rfl) | exact rfl)); (focus (rfl)); (focus (intro wq hq; (try dsimp only at hq); go_simp; first | exact rfl | exact ⟨rfl, rfl⟩))) | ((with_reducible apply segS_callN); (focus (rfl)); (focus (first | (go_simp; done) | (go_simp; exact rfl) | exact rfl)); (focus (rfl)); (focus (go_simp; first | exact rfl | exact ⟨rfl, rfl⟩))))) | go_values | go_skip | go_guarded | go_step | go_upon | dsimp only)
  ((with_reducible apply segS_unitN); (focus (rfl)); (focus (first | (go_simp; done) | (go_simp; exact rfl) | exact rfl)); (focus (rfl)); (focus (go_simp; first | exact rfl | exact ⟨rfl, rfl⟩)))
  focus exact .inr rfl
  refine segS_nil ?_
  have h16 := K1b.out
  clear cf1 cc1 C1e K1b
  revert h16
  generalize World.setCell _ _ _ = z1
  generalize u1.heap.size = x1
  intro h16
  repeat' (first | go_values | go_skip | go_guarded | go_step | go_upon | dsimp only)
  rw [rounds_succ]
  have C2a := hid ((h16).cell 9 rfl)
  have Hb2 := hid (bar_new _ _ (Sw.drew h16))
  clear h16
  repeat' (first | (go_big_may; (first | ((with_reducible refine wp_region_segS (fun w' => w'.cell? ⟨m, 9, none⟩ = some (.slice a1 1 cap1)) mixed (by decide +kernel) ?_ ?_); (focus (exact C2a.out))) | ((with_reducible apply segS_lookN); (focus (rfl)); (focus (first | (go_simp; done) | (go_simp; exact rfl) | exact rfl)); (focus (rfl)); (focus (intro wq hq; (try dsimp only at hq); go_simp; first | exact rfl | exact ⟨rfl, rfl⟩))) | ((with_reducible apply segS_callN); (focus (rfl)); (focus (first | (go_simp; done) | (go_simp; exact rfl) | exact rfl)); (focus (rfl)); (focus (go_simp; first | exact rfl | exact ⟨rfl, rfl⟩))) | (go_at_call 32; refine Hb2.out.mono ?_; rintro e u2 ⟨bb2, rfl, k1⟩; have C2b := hid ((k1 |>.front 1 rfl).cell 9 rfl); have k2 := k1.allocc [.int .i64 (-1), .int .i64 0, .int .i64 (-1), .int .i64 0, .int .i64 0, .pointer none, ptr bb2, .bool false, .int .i64 0, .int .i64 0, .int .i64 0] 108; have C2c := hid ((k2 |>.front 2 rfl).cell 9 rfl); have k3 := k2.allocc [ptr u2.heap.size] 103; simp only [World.size_alloc] at k3; have C2d := hid ((k3 |>.front 3 rfl).cell 9 rfl); have K2 := hid k3; clear k1 k2 k3; refine ⟨_, rfl, .inl C2b.out, ?_⟩) | (((with_reducible apply segS_actN); (focus (rfl)); (focus (first | (go_simp; done) | (go_simp; exact rfl) | exact rfl)); (focus (rfl)); (focus (go_simp; first | exact rfl | exact ⟨rfl, rfl⟩))); (focus (first | exact .inl C2c.out | exact .inl C2d.out))))) | go_values | go_skip | go_guarded | go_step | go_upon | dsimp only)
  with_reducible apply segS_norm
  (focus (first | (go_simp; done) | (go_simp; exact rfl) | exact rfl))
  refine segS_append_sl 103 83 (.pointer none) 1 8 (by decide) Tryz.underlying83 zI.out rfl rfl (.tmp 96) (.tmp 100) rfl (.slice a1 1 cap1) 1 [ptr x1] _ rfl (K2.out |>.front 4 rfl) _ 1 [ptr u2.heap.size] rfl (Src.fresh1n _ _ rfl (World.size_alloc _ _)) (by omega) ?_
  intro v2 y2 k4
  simp only [List.nil_append, Nat.reduceAdd, List.cons_append] at k4
  obtain ⟨a2, cap2, rfl⟩ := k4.sl_val
  try simp only [List.eraseIdx_cons_zero, List.eraseIdx_cons_succ] at k4
  have C2e := hid ((k4 |>.front 4 rfl).cell 9 rfl)
  have cf2 := (k4 |>.front 4 rfl).frozen 9
  have cc2 := (k4 |>.front 4 rfl).cell 9 rfl
  have k5 := (k4 |>.front 4 rfl).set 9 (.slice a2 2 cap2)
  simp only [List.eraseIdx_cons_zero, List.eraseIdx_cons_succ] at k5
  have k5 := (k5 |>.front 2 rfl).tail
  try simp only [List.eraseIdx_cons_zero, List.eraseIdx_cons_succ] at k5
  have K2b := hid k5
  clear k4 k5 K2 C2a C2b C2c C2d Hb2
  refine ⟨.inl C2e.out, ?_⟩
  repeat' (first | (go_big_may; (first | ((with_reducible apply segS_lookN); (focus (rfl)); (focus (first | (go_simp; done) | (go_simp; exact rfl) | exact rfl)); (focus (rfl)); (focus (intro wq hq; (try dsimp only at hq); go_simp; first | exact rfl | exact ⟨rfl, rfl⟩))) | ((with_reducible apply segS_callN); (focus (rfl)); (focus (first | (go_simp; done) | (go_simp; exact rfl) | exact rfl)); (focus (rfl)); (focus (go_simp; first | exact rfl | exact ⟨rfl, rfl⟩))))) | go_values | go_skip | go_guarded | go_step | go_upon | dsimp only)
  ((with_reducible apply segS_unitN); (focus (rfl)); (focus (first | (go_simp; done) | (go_simp; exact rfl) | exact rfl)); (focus (rfl)); (focus (go_simp; first | exact rfl | exact ⟨rfl, rfl⟩)))
  focus exact .inr rfl
  refine segS_nil ?_
  have h16 := K2b.out
  clear cf2 cc2 C2e K2b
  revert h16
  generalize World.setCell _ _ _ = z2
  generalize u2.heap.size = x2
  intro h16
  repeat' (first | go_values | go_skip | go_guarded | go_step | go_upon | dsimp only)
  rw [rounds_succ]
  have m2 := h16.cell 2 rfl
  have m3 := h16.cell 3 rfl
  have m4 := h16.cell 4 rfl
  have H17 := hid h16
  clear h16
  repeat' (first | (go_big_may; (first | (with_reducible refine wp_region_segP mixed (by decide +kernel) ?_) | ((with_reducible apply segP_pureN); (focus (rfl)); (focus (first | (go_simp; done) | (go_simp; exact rfl) | exact rfl)); (focus (rfl)); (focus (intro w1; go_simp; first | exact rfl | exact ⟨rfl, rfl⟩))) | ((with_reducible apply segP_lookN); (focus (rfl)); (focus (rfl)); (focus (first | (go_simp; done) | (go_simp; exact rfl) | exact rfl)); (focus (rfl)); (focus (go_simp; first | exact rfl | exact ⟨rfl, rfl⟩))) | ((with_reducible apply segP_actN); (focus (rfl)); (focus (rfl)); (focus (first | (go_simp; done) | (go_simp; exact rfl) | exact rfl)); (focus (rfl)); (focus (go_simp; first | exact rfl | exact ⟨rfl, rfl⟩))) | ((with_reducible apply segP_unitN); (focus (rfl)); (focus (rfl)); (focus (first | (go_simp; done) | (go_simp; exact rfl) | exact rfl)); (focus (rfl)); (focus (go_simp; first | exact rfl | exact ⟨rfl, rfl⟩))) | ((with_reducible apply segP_callN); (focus (rfl)); (focus (rfl)); (focus (first | (go_simp; done) | (go_simp; exact rfl) | exact rfl)); (focus (rfl)); (focus (go_simp; first | exact rfl | exact ⟨rfl, rfl⟩))) | ((with_reducible apply segP_skipN); (focus (first | (go_simp; done) | (go_simp; exact rfl) | exact rfl)); (focus (rfl))) | (with_reducible refine segP_nil ?_) | (go_at_call 33; refine (goal0 D.out _).mono ?_; rintro e g1 ⟨rfl, hb⟩; have k6 := (Sw.drew H17.out).of_below hb; have c19 := k6.cell 19 rfl; have c20 := k6.cell 20 rfl; have c21 := k6.cell 21 rfl; have f19 := k6.frozen 19; have f20 := k6.frozen 20; have f21 := k6.frozen 21; have H18 := hid (((k6.set 19 (.int .i64 48)).set 20 (.int .i64 64)).set 21 (.int .i64 4194304)); clear k6 hb H17 m2 m3 m4; refine ⟨_, rfl, ?_⟩))) | go_values | go_skip | go_guarded | go_step | go_upon | dsimp only)
  have k7 := H18.out
  clear c19 c20 c21 f19 f20 f21 H18
  revert k7
  generalize World.setCell _ _ _ = w20
  intro k7
  have k8 := (k7 |>.front 9 rfl |>.front 10 rfl |>.front 10 rfl).sl_nil (E := 116) (sz := 1) none
  simp only [List.eraseIdx_cons_zero, List.eraseIdx_cons_succ] at k8
  have k8 := k8 |>.front 3 rfl |>.front 3 rfl |>.front 2 rfl |>.front 3 rfl |>.front 4 rfl
  simp only [List.eraseIdx_cons_zero, List.eraseIdx_cons_succ] at k8
  refine (spawn_off _ _ m 0 0 st sc ph 0 0 0 0 0 _ _ [] [] [[], []] [] [false, false] rfl rfl rfl rfl (by decide) rfl rfl (by decide) (by decide) rfl k8).mono ?_
  rintro e w21 ⟨gv, g, rfl, k9⟩
  clear k7 k8
  have K9 := hid k9
  clear k9
  repeat' (first | go_values | go_skip | go_guarded | go_step | go_upon | dsimp only)
  go_ret3
  -- 0 m, 1 St, 2 gs, 3 g, 4 Sched, 5 Ph, 6 ps, 7 proc2, 8 bar2, 9 proc1, 10 bar1, 11 wt, 12 tm, 13 hp, 14 ap, 15 slf, 16 sll, 17 sb, 18 box
  have k9 := K9.out |>.front 14 rfl |>.front 14 rfl |>.front 14 rfl |>.front 16 rfl |>.front 16 rfl |>.front 8 rfl |>.front 8 rfl |>.front 10 rfl |>.front 11 rfl |>.front 10 rfl |>.front 11 rfl |>.front 14 rfl |>.front 12 rfl |>.front 17 rfl |>.front 18 rfl |>.front 18 rfl |>.front 18 rfl |>.front 18 rfl |>.front 18 rfl
  simp only [List.eraseIdx_cons_zero, List.eraseIdx_cons_succ] at k9
  have k9 := k9.tail.tail.tail.tail.tail
  exact ⟨m, .slice fa 1 fcap, lv, gv, .slice a2 2 cap2, .slice (some ⟨n8, 0, none⟩) 0 0, hp, st, sc, tm, wt, ph, g, x1, x2, bb1, ap, _, _, rfl, rfl, rfl, k9 |>.front 13 rfl |>.front 13 rfl |>.front 13 rfl |>.front 13 rfl |>.front 13 rfl |>.front 13 rfl |>.front 13 rfl |>.front 13 rfl |>.front 13 rfl |>.front 13 rfl |>.front 13 rfl |>.front 13 rfl |>.front 13 rfl⟩
end Go.Proofs.YtfddmbafjniflaaGreatDoor
