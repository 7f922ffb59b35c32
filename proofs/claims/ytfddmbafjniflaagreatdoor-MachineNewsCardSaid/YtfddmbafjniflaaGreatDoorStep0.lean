/-
  Package machine: the one step of the told run.
-/
import Derived.Test.YtfddmbafjniflaaGreatDoorRun0
import Derived.Test.YtfddmbafjniflaaGreatDoorCollect0
namespace Go.Proofs.YtfddmbafjniflaaGreatDoor
open Go Go.RowKit
/-- The told machine. -/
def mC (fv gv pv glv : Value) (h st sc t wt ph : Nat) (tr gl ra : Int) (commits freed : Value) (steps : Nat) : List Value :=
  [num 0, fv, num 256, num 0, .bool true, num 16384, ptr h, ptr st, gv, pv, ptr sc, ptr t, ptr wt, glv, num 0, ptr ph, .pointer none, .pointer none, .pointer none,
    .int .i64 tr, .int .i64 gl, .int .i64 ra, num 0, .slice none 0 0, commits, freed, num steps, .bool false]
theorem status_runs : statusOf false [1] 0 = 0 := by decide
set_option maxRecDepth 100000 in
set_option maxHeartbeats 4000000 in
theorem step0 (m64 : Mul64Said) (w : World) (R : List HP) (m pb po pcap x st sc gb go gcap g fb fo fcap lb lo lcap h a t wt ph : Nat) (v tr gl ra : Int) (ht : ¬ tr ≤ 0) (ps gs fl ll hc ac : List Value) (glv scan notes : Value) (said : List Bool) (cnt rst : Nat)
    (hx : ps[po]? = some (ptr x)) (hg : gs[go]? = some (ptr g)) (hf : fl[fo]? = some (.slice (some ⟨lb, lo, none⟩) 1 lcap)) (hl0 : ll[lo]? = some (num 0)) (hl1 : ll[lo + 1]? = some (num 0)) (hl2 : ll[lo + 2]? = some (num 0)) (hl3 : ll[lo + 3]? = some (num 0))
    (hh : hc[0]? = some (ptr a)) (ha : ac[4]? = some (num 0))
    (hS : Sw w (ptc m (mC (.slice (some ⟨fb, fo, none⟩) 1 fcap) (.slice (some ⟨gb, go, none⟩) 1 gcap) (.slice (some ⟨pb, po, none⟩) 2 pcap) glv h st sc t wt ph tr gl ra (.slice none 0 0) (.slice none 0 0) 0) 93 ::
      ptc x (procC (-1) 0 (-1) 0 0 scan notes false 0 0 0) 108 :: SchedR sc [[0], []] [] :: StatesR st [1] :: ptc pb ps 103 :: PhaseR ph 0 0 said cnt rst :: ptc gb gs 116 :: ptc g (gorC 0 0 0 (stack0 (num 0)) 0 0) 120 ::
      ptc fb fl 111 :: ptc lb ll 113 :: ptc t [.slice none 0 0, num 0] 174 :: ptc h hc 158 :: ptc a ac 196 :: R)) :
    Calls Tryz.prog 20 #[ptr m, .agg #[.int .i64 0, .int .i64 v, .bool false, .int .i64 0]] w fun e w' => e = .returned (.agg #[.int .i64 1, .int .i64 0, .int .i64 0]) ∧ ∃ cv,
      Sw w' (ptc m (mC (.slice (some ⟨fb, fo, none⟩) 1 fcap) (.slice (some ⟨gb, go, none⟩) 1 gcap) (.slice (some ⟨pb, po, none⟩) 2 pcap) glv h st sc t wt ph tr gl ra cv (.slice none 0 0) 1) 93 :: StatesR st [5] :: ptc t [.slice none 0 0, num 0] 174 :: sl 76 6 cv 1 com0 :: R) := by
  have h0 := (hS.allocc [.int .i64 0, .int .i64 v, .bool false, .int .i64 0] 74).allocc [.int .i64 0, .int .i64 0, .int .i64 0] 71
  simp only [World.size_alloc] at h0
  have H0 := hid h0
  have HC := hid (And.intro hx (And.intro hg (And.intro hf (And.intro hl0 (And.intro hl1 (And.intro hl2 (And.intro hl3 (And.intro hh (And.intro ha ht)))))))))
  have D := hid m64
  clear hS h0 hx hg hf hl0 hl1 hl2 hl3 hh ha ht m64
  go_enter Tryz.func20, Tryz.ntmps20
  repeat' (first | go_values | go_skip | go_guarded | go_step | go_upon | dsimp only)
  have h0 := H0.out
  clear H0
  revert h0
  generalize World.alloc _ _ = w1
  generalize w.heap.size = n
  intro h0
  -- 0 ev, 1 ch, 2 m, 3 x, 4 Sched, 5 St, 6 pb, 7 Ph, 8 gb, 9 g, 10 fb, 11 lb, 12 t, 13 h, 14 a
  have c25 := (h0 |>.front 2 rfl).cell 25 rfl
  have f25 := (h0 |>.front 2 rfl).frozen 25
  have ch0 := (h0 |>.front 1 rfl).cell 0 rfl
  have n1 := (h0 |>.front 2 rfl |>.front 2 rfl).ne
  have h1 := (h0 |>.front 2 rfl).set 25 (.slice none 0 0)
  simp only [List.eraseIdx_cons_zero, List.eraseIdx_cons_succ] at h1
  have Hh := hid (machine_has _ m 0 2 pcap _ (h1.cell 9 rfl) (by omega) (by omega))
  -- 0 m, 1 ev, 2 ch, 3 x, 4 Sched, 5 St, ..
  have hst := machine_status _ _ m st t 0 0 none false _ [1] (by decide) (by decide) rfl rfl rfl ((h1 |>.front 12 rfl).cell 0 rfl) (h1 |>.front 5 rfl |>.front 1 rfl)
  rw [status_runs] at hst
  have Hst := hid hst
  have H1 := hid h1
  clear h0 h1 hst
  go_simp
  repeat' (first | (go_big_may; (first | (go_at_call 64; refine Hh.out.mono ?_; rintro e v1 ⟨rfl, rfl⟩))) | go_values | go_skip | go_guarded | go_step | go_upon | dsimp only)
  refine Hst.out.mono ?_
  rintro e w2 ⟨rfl, k1, rfl⟩
  have h2 := Sw.drewN k1 H1.out
  clear c25 f25 ch0 n1 Hh Hst H1
  revert h2
  generalize World.drewN _ _ = w2
  intro h2
  -- 0 m, 1 ev, 2 ch, 3 x, 4 Sched, 5 St, 6 pb, 7 Ph, 8 gb, 9 g, 10 fb, 11 lb, 12 t, 13 h, 14 a
  have m9 := h2.cell 9 rfl
  have m26 := h2.cell 26 rfl
  have m14 := h2.cell 14 rfl
  have m11 := h2.cell 11 rfl
  have f26 := h2.frozen 26
  have f14 := h2.frozen 14
  have x10 := (h2 |>.front 3 rfl).cell 10 rfl
  have g10 := (h2 |>.front 3 rfl).frozen 10
  have r0 := (h2 |>.front 6 rfl).cell po HC.out.1
  have q3 := (h2 |>.front 2 rfl).cell 3 rfl
  have n1 := (h2 |>.front 3 rfl).ne
  have n2 := (h2 |>.front 6 rfl).ne
  have n3 := (h2 |>.front 3 rfl |>.front 6 rfl).ne
  have n4 := (h2 |>.front 2 rfl).ne
  have n5 := (h2 |>.front 3 rfl |>.front 3 rfl).ne
  have n6 : ¬ m = x := fun e => n1 e.symm
  have wr0 : IntKind.i64.wrap 0 = 0 := rfl
  have h3 := (h2.set 26 (.int .i64 1)) |>.front 3 rfl
  simp only [List.eraseIdx_cons_zero, List.eraseIdx_cons_succ] at h3
  have h3 := (h3.set 10 (.int .i64 1)) |>.front 1 rfl
  simp only [List.eraseIdx_cons_zero, List.eraseIdx_cons_succ] at h3
  have h3 := Sw.drew (h3.set 14 (.int .i64 0))
  -- 0 m, 1 x, 2 ev, 3 ch, 4 Sched, 5 St, 6 pb, 7 Ph, 8 gb, 9 g, 10 fb, 11 lb, 12 t, 13 h, 14 a
  have H3 := hid h3
  clear h2 h3
  repeat' (first | (go_big_may; (first | (with_reducible refine wp_region_seg mixed (by decide +kernel) ?_) | (refine seg_look (by rfl) (fun K hK => ?_); go_simp; refine hK _ ?_; clear hK K) | (refine seg_act (by rfl) (fun K hK => ?_); go_simp) | (refine seg_nil ?_))) | go_values | go_skip | go_guarded | go_step | go_upon | dsimp only)
  have h3 := H3.out
  clear m9 m26 m14 m11 f26 f14 x10 g10 r0 q3 n1 n2 n3 n4 n5 n6 H3
  revert h3
  generalize World.drew _ = w3
  intro h3
  have m11 := h3.cell 11 rfl
  have m14 := h3.cell 14 rfl
  have q2 := (h3 |>.front 3 rfl).cell 2 rfl
  have hdu := timer_due_none w3.drew t 0 none 0 ((h3 |>.front 12 rfl).cell 0 rfl)
  have hcl := (Sw.drew h3) |>.front 14 rfl |>.front 14 rfl |>.front 9 rfl |>.front 4 rfl |>.front 9 rfl |>.front 5 rfl
  simp only [List.eraseIdx_cons_zero, List.eraseIdx_cons_succ] at hcl
  have hcl := collect0 D.out _ _ m pb po pcap x ph h a tr gl ra _ ps _ hc ac said cnt rst HC.out.2.2.2.2.2.2.2.2.2 rfl rfl rfl rfl rfl rfl rfl rfl HC.out.1 rfl rfl HC.out.2.2.2.2.2.2.2.1 HC.out.2.2.2.2.2.2.2.2.1 hcl
  have Hdu := hid hdu
  have Hcl := hid hcl
  have H3 := hid h3
  clear h3 hdu hcl
  repeat' (first | (go_big_may; (first | (with_reducible refine wp_region_segP mixed (by decide +kernel) ?_) | ((with_reducible apply segP_pureN); (focus (rfl)); (focus (first | (go_simp; done) | (go_simp; exact rfl) | exact rfl)); (focus (rfl)); (focus (intro w1; go_simp; first | exact rfl | exact ⟨rfl, rfl⟩))) | ((with_reducible apply segP_lookN); (focus (rfl)); (focus (rfl)); (focus (first | (go_simp; done) | (go_simp; exact rfl) | exact rfl)); (focus (rfl)); (focus (go_simp; first | exact rfl | exact ⟨rfl, rfl⟩))) | ((with_reducible apply segP_actN); (focus (rfl)); (focus (rfl)); (focus (first | (go_simp; done) | (go_simp; exact rfl) | exact rfl)); (focus (rfl)); (focus (go_simp; first | exact rfl | exact ⟨rfl, rfl⟩))) | ((with_reducible apply segP_unitN); (focus (rfl)); (focus (rfl)); (focus (first | (go_simp; done) | (go_simp; exact rfl) | exact rfl)); (focus (rfl)); (focus (go_simp; first | exact rfl | exact ⟨rfl, rfl⟩))) | ((with_reducible apply segP_callN); (focus (rfl)); (focus (rfl)); (focus (first | (go_simp; done) | (go_simp; exact rfl) | exact rfl)); (focus (rfl)); (focus (go_simp; first | exact rfl | exact ⟨rfl, rfl⟩))) | ((with_reducible apply segP_skipN); (focus (first | (go_simp; done) | (go_simp; exact rfl) | exact rfl)); (focus (rfl))) | (with_reducible refine segP_nil ?_) | (go_at_call 66; refine Hdu.out.mono ?_; rintro e v3 ⟨rfl, rfl⟩; refine ⟨_, rfl, ?_⟩))) | go_values | go_skip | go_guarded | go_step | go_upon | dsimp only)
  refine wp_loop_rounds 1 ?_
  rw [rounds_succ]
  repeat' (first | (go_big_may; (first | (go_at_call 70; refine Hcl.out.mono ?_; rintro e w4 ⟨rfl, hb⟩; have h4 := (Sw.drew H3.out).of_below hb; have y0 := (h4 |>.front 1 rfl).cell 0 rfl; have l1 := (h4 |>.front 1 rfl).lt'; have q1 := (h4 |>.front 3 rfl).cell 1 rfl; have l2 := (h4 |>.front 3 rfl).lt'; have h5 := (h4.allocc [.int .i64 0, .int .i64 0, .int .i64 0] 71) |>.front 10 rfl |>.front 10 rfl |>.front 10 rfl |>.front 10 rfl |>.front 5 rfl |>.front 10 rfl |>.front 10 rfl |>.front 8 rfl; have H5 := hid h5; clear h4 h5 hb m11 m14 q2 H3 Hcl Hdu))) | go_values | go_skip | go_guarded | go_step | go_upon | dsimp only)
  have h5 := H5.out
  simp only [List.eraseIdx_cons_zero, List.eraseIdx_cons_succ] at h5
  have htk := take0 _ _ m pb po pcap x ph sc st gb go gcap g v _ ps gs scan notes said cnt rst rfl rfl rfl rfl rfl HC.out.1 HC.out.2.1 h5
  refine htk.mono ?_
  rintro e w6 ⟨rfl, h6⟩
  have y1 := h6.cell 0 rfl
  have h7 := h6 |>.front 12 rfl |>.front 12 rfl |>.front 3 rfl |>.front 9 rfl |>.front 9 rfl |>.front 8 rfl |>.front 8 rfl |>.front 8 rfl |>.front 8 rfl
  simp only [List.eraseIdx_cons_zero, List.eraseIdx_cons_succ] at h7
  have hrn := run0 _ _ m pb po pcap x st sc gb go gcap g _ _ _ _ _ fb fo fcap lb lo lcap _ ps gs fl ll scan notes false _ rfl rfl rfl rfl rfl rfl HC.out.1 HC.out.2.1 HC.out.2.2.1 HC.out.2.2.2.1 HC.out.2.2.2.2.1 HC.out.2.2.2.2.2.1 HC.out.2.2.2.2.2.2.1 h7
  have Hrn := hid hrn
  clear htk h5 h6 h7 hrn H5 y0 l1 q1 l2 D
  repeat' (first | go_values | go_skip | go_guarded | go_step | go_upon | dsimp only)
  refine Hrn.out.mono ?_
  rintro e w7 ⟨rfl, cv, h8⟩
  -- 0 x, 1 St, 2 m, 3 pb, 4 gb, 5 g, 6 sl, 7 Sched, 8 fb, 9 lb, 10 Ph, 11 new, 12 ev, 13 ch, 14 t, 15 h, 16 a
  have he := h8 |>.front 6 rfl |>.front 14 rfl |>.front 3 rfl |>.front 4 rfl |>.front 13 rfl
  simp only [List.eraseIdx_cons_zero, List.eraseIdx_cons_succ] at he
  have c0 := he.cell 0 rfl
  have c1 := he.cell 1 rfl
  have c2 := he.cell 2 rfl
  have f0 := he.frozen 0
  have f1 := he.frozen 1
  have f2 := he.frozen 2
  have h9 := ((he.set 0 (.int .i64 1)).set 1 (.int .i64 0)).set 2 (.int .i64 0)
  have H9 := hid h9
  clear h8 he h9 y1 Hrn
  repeat' (first | go_values | go_skip | go_guarded | go_step | go_upon | dsimp only)
  have h10 := H9.out |>.front 4 rfl |>.front 4 rfl |>.front 4 rfl |>.front 4 rfl |>.front 4 rfl |>.front 16 rfl |>.front 16 rfl |>.front 16 rfl |>.front 16 rfl |>.front 16 rfl |>.front 16 rfl |>.front 16 rfl |>.front 16 rfl |>.front 16 rfl |>.front 16 rfl |>.front 16 rfl |>.front 16 rfl
  simp only [List.eraseIdx_cons_zero, List.eraseIdx_cons_succ] at h10
  exact bodyPost_ret (results_cell_row rfl _ _ (n + 1) 71 _ (0, 0) _ rfl H9.out.row Tryz.underlying71 rfl (by kernel_rfl)) rfl ⟨rfl, cv, h10.tail.tail.tail.tail.tail.tail.tail.tail.tail.tail.tail.tail.tail⟩
end Go.Proofs.YtfddmbafjniflaaGreatDoor
