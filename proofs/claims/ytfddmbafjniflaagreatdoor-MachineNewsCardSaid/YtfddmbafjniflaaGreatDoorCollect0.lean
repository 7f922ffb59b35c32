/-
  Package machine: wanted, collect, while the collector is off and nothing is allocated (told).
-/
import Derived.Test.YtfddmbafjniflaaGreatDoorStatus
import Derived.Test.YtfddmbafjniflaaGreatDoorTold1
import Derived.Test.YtfddmbafjniflaaGreatDoorSegN
import Derived.Laws.ResultCell
namespace Go.Proofs.YtfddmbafjniflaaGreatDoor
open Go Go.RowKit
set_option maxRecDepth 100000 in
set_option maxHeartbeats 1000000 in
theorem begin_not (tr gl ra : Int) (n : Nat) (w : World) (ht : ¬ tr ≤ n) : Calls Tryz.prog 115 #[.agg #[.int .i64 tr, .int .i64 gl, .int .i64 ra], num n] w fun e w' => e = .returned (.bool false) ∧ Below w.heap.size w w' := by
  go_enter Tryz.func115, Tryz.ntmps115
  go_wp2
  go_ret
  exact ⟨rfl, Below.alloc (Below.refl _ _) (Nat.le_refl _) _⟩
/-- The machine's cells that are asked while the collector is off. -/
def Off0 (m ph h : Nat) (tr gl ra : Int) (w : World) : Prop :=
  w.cell? ⟨m, 22, none⟩ = some (num 0) ∧ w.cell? ⟨m, 15, none⟩ = some (ptr ph) ∧ w.cell? ⟨m, 6, none⟩ = some (ptr h) ∧
  w.cell? ⟨m, 19, none⟩ = some (.int .i64 tr) ∧ w.cell? ⟨m, 20, none⟩ = some (.int .i64 gl) ∧ w.cell? ⟨m, 21, none⟩ = some (.int .i64 ra)
theorem Off0.below {m ph h : Nat} {tr gl ra : Int} {w w' : World} (hb : Below w.heap.size w w') (hm : m < w.heap.size) (k : Off0 m ph h tr gl ra w) : Off0 m ph h tr gl ra w' := by
  obtain ⟨k1, k2, k3, k4, k5, k6⟩ := k
  exact ⟨by rw [hb.cell hm]; exact k1, by rw [hb.cell hm]; exact k2, by rw [hb.cell hm]; exact k3, by rw [hb.cell hm]; exact k4, by rw [hb.cell hm]; exact k5, by rw [hb.cell hm]; exact k6⟩
set_option maxRecDepth 100000 in
set_option maxHeartbeats 400000 in
theorem wanted0 (w : World) (m ph h a : Nat) (p tr gl ra : Int) (hm : m < w.heap.size) (ht : ¬ tr ≤ 0) (hO : Off0 m ph h tr gl ra w) (cy : w.cell? ⟨ph, 1, none⟩ = some (num 0)) (ch : w.cell? ⟨h, 0, none⟩ = some (ptr a)) (ca : w.cell? ⟨a, 4, none⟩ = some (num 0)) :
    Calls Tryz.prog 113 #[ptr m, .int .i64 p] w fun e w' => e = .returned (.bool false) ∧ Below w.heap.size w w' := by
  have O := hid (show Off0 m ph h tr gl ra w.drew from hO)
  obtain ⟨c22, c15, c6, c19, c20, c21⟩ := hO
  have hcy := phase_cycle w.drew ph 0 cy
  have hlv := machine_live w.drew m h a 0 c6 ch ca
  have Hcy := hid hcy
  have Hlv := hid hlv
  clear hcy hlv cy ch ca
  go_enter Tryz.func113, Tryz.ntmps113
  go_wp2_with (first | ((with_reducible refine wp_region_segS (Off0 m ph h tr gl ra) mixed (by decide +kernel) ?_ ?_); (focus (exact O.out))) | ((with_reducible apply segS_lookN); (focus (rfl)); (focus (first | (go_simp; done) | (go_simp; exact rfl) | exact rfl)); (focus (rfl)); (focus (intro wq hq; obtain ⟨q1, q2, q3, q4, q5, q6⟩ := hq; go_simp; first | exact rfl | exact ⟨rfl, rfl⟩))) | ((with_reducible apply segS_callN); (focus (rfl)); (focus (first | (go_simp; done) | (go_simp; exact rfl) | exact rfl)); (focus (rfl)); (focus (go_simp; first | exact rfl | exact ⟨rfl, rfl⟩))) | (with_reducible refine segS_nil ?_))
  refine Hcy.out.mono ?_
  rintro e w1 ⟨rfl, rfl⟩
  refine ⟨_, rfl, (by first | exact O.out | exact .inl O.out), ?_⟩
  go_wp2_with (first | ((with_reducible apply segS_lookN); (focus (rfl)); (focus (first | (go_simp; done) | (go_simp; exact rfl) | exact rfl)); (focus (rfl)); (focus (intro wq hq; obtain ⟨q1, q2, q3, q4, q5, q6⟩ := hq; go_simp; first | exact rfl | exact ⟨rfl, rfl⟩))) | ((with_reducible apply segS_callN); (focus (rfl)); (focus (first | (go_simp; done) | (go_simp; exact rfl) | exact rfl)); (focus (rfl)); (focus (go_simp; first | exact rfl | exact ⟨rfl, rfl⟩))) | (with_reducible refine segS_nil ?_))
  refine Hlv.out.mono ?_
  rintro e w1 ⟨rfl, rfl⟩
  refine ⟨_, rfl, (by first | exact O.out | exact .inl O.out), ?_⟩
  go_wp2_with (first | ((with_reducible apply segS_lookN); (focus (rfl)); (focus (first | (go_simp; done) | (go_simp; exact rfl) | exact rfl)); (focus (rfl)); (focus (intro wq hq; obtain ⟨q1, q2, q3, q4, q5, q6⟩ := hq; go_simp; first | exact rfl | exact ⟨rfl, rfl⟩))) | ((with_reducible apply segS_callN); (focus (rfl)); (focus (first | (go_simp; done) | (go_simp; exact rfl) | exact rfl)); (focus (rfl)); (focus (go_simp; first | exact rfl | exact ⟨rfl, rfl⟩))) | (with_reducible refine segS_nil ?_))
  refine (begin_not tr gl ra 0 _ (by omega)).mono ?_
  rintro e w1 ⟨rfl, hb⟩
  have O1 := hid (O.out.below hb hm)
  refine ⟨_, rfl, (by first | exact O1.out | exact .inl O1.out), ?_⟩
  go_wp2_with (first | ((with_reducible apply segS_lookN); (focus (rfl)); (focus (first | (go_simp; done) | (go_simp; exact rfl) | exact rfl)); (focus (rfl)); (focus (intro wq hq; obtain ⟨q1, q2, q3, q4, q5, q6⟩ := hq; go_simp; first | exact rfl | exact ⟨rfl, rfl⟩))) | ((with_reducible apply segS_callN); (focus (rfl)); (focus (first | (go_simp; done) | (go_simp; exact rfl) | exact rfl)); (focus (rfl)); (focus (go_simp; first | exact rfl | exact ⟨rfl, rfl⟩))) | (with_reducible refine segS_nil ?_) | ((with_reducible apply segS_skipN); (focus (first | (go_simp; done) | (go_simp; exact rfl) | exact rfl)); (focus (rfl)); (focus (exact O1.out))))
  go_ret
  exact ⟨rfl, (below_drewN (n := 1)).trans hb⟩
theorem Off0.of {w : World} {R : List HP} {m ph h : Nat} {tr gl ra : Int} {c : List Value} (h22 : c[22]? = some (num 0)) (h15 : c[15]? = some (ptr ph)) (h6 : c[6]? = some (ptr h)) (h19 : c[19]? = some (.int .i64 tr)) (h20 : c[20]? = some (.int .i64 gl)) (h21 : c[21]? = some (.int .i64 ra))
    (hS : Sw w (ptc m c 93 :: R)) : Off0 m ph h tr gl ra w := ⟨hS.cell 22 h22, hS.cell 15 h15, hS.cell 6 h6, hS.cell 19 h19, hS.cell 20 h20, hS.cell 21 h21⟩
set_option maxRecDepth 100000 in
set_option maxHeartbeats 2000000 in
theorem collect0 (m64 : Mul64Said) (w : World) (R : List HP) (m pb po pcap x ph h a : Nat) (tr gl ra : Int) (c ps pc hc ac : List Value) (said : List Bool) (cnt rst : Nat) (ht : ¬ tr ≤ 0)
    (h22 : c[22]? = some (num 0)) (h15 : c[15]? = some (ptr ph)) (h6 : c[6]? = some (ptr h)) (h19 : c[19]? = some (.int .i64 tr)) (h20 : c[20]? = some (.int .i64 gl)) (h21 : c[21]? = some (.int .i64 ra))
    (h9 : c[9]? = some (.slice (some ⟨pb, po, none⟩) 2 pcap)) (h5 : c[5]? = some (num 16384)) (hx : ps[po]? = some (ptr x)) (hw : pc[9]? = some (num 0)) (ha : pc[10]? = some (num 1))
    (hh : hc[0]? = some (ptr a)) (hl : ac[4]? = some (num 0)) (hS : Sw w (ptc m c 93 :: ptc pb ps 103 :: ptc x pc 108 :: PhaseR ph 0 0 said cnt rst :: ptc h hc 158 :: ptc a ac 196 :: R)) :
    Calls Tryz.prog 70 #[ptr m, num 0] w fun e w' => e = .returned (.tuple #[.agg #[.int .i64 0, .int .i64 0, .int .i64 0], .bool false]) ∧ Below w.heap.size w w' := by
  obtain ⟨pv, hP⟩ := PhaseR.open_ (hS |>.front 5 rfl |>.front 5 rfl |>.front 4 rfl |>.front 4 rfl |>.front 4 rfl |>.front 5 rfl)
  have hb0 : Below w.heap.size w (w.alloc (.cells #[.int .i64 0, .int .i64 0, .int .i64 0] 71)) := Below.alloc (Below.refl _ _) (Nat.le_refl _) _
  have h0 := hP.allocc [.int .i64 0, .int .i64 0, .int .i64 0] 71
  have Hb0 := hid hb0
  have H0 := hid (h0 |>.front 2 rfl |>.front 1 rfl |>.front 7 rfl |>.front 7 rfl |>.front 4 rfl |>.front 7 rfl |>.front 7 rfl |>.front 7 rfl)
  have Ho := hid (fun w R (k : Sw w (ptc m c 93 :: R)) => Off0.of h22 h15 h6 h19 h20 h21 k)
  have HC := hid (And.intro hh hl)
  have c9 := hS.cell 9 h9
  have c5 := hS.cell 5 h5
  have c15 := hS.cell 15 h15
  have r0 := (hS |>.front 1 rfl).cell po hx
  have x9 := (hS |>.front 1 rfl |>.front 1 rfl |>.front 2 rfl).cell 9 hw
  have x10 := (hS |>.front 1 rfl |>.front 1 rfl |>.front 2 rfl).cell 10 ha
  have l1 := hS.lt'
  have l2 := (hS |>.front 1 rfl).lt'
  have l3 := (hS |>.front 1 rfl |>.front 1 rfl |>.front 2 rfl).lt'
  have D := hid (dedicated0 m64)
  have M := hid (share_may0 m64)
  clear hS hP hb0 h0 h22 h15 h6 h19 h20 h21 h9 h5 hx hw ha hh hl m64
  go_enter Tryz.func70, Tryz.ntmps70
  go_wp2_with (first | (go_at_call 111; refine (D.out _).mono ?_; rintro e w1 ⟨rfl, n1, rfl⟩) | (go_at_call 112; refine (M.out _).mono ?_; rintro e w1 ⟨rfl, rfl⟩) | (with_reducible refine wp_region_seg mixed (by decide +kernel) ?_) | (refine seg_look (by rfl) (fun K hK => ?_); go_simp; refine hK _ ?_; clear hK K) | (refine seg_act (by rfl) (fun K hK => ?_); go_simp) | (refine seg_nil ?_))
  have h2 := Sw.drewN (1 + n1) H0.out
  have hb2 : Below w.heap.size w _ := Hb0.out.trans ((below_drewN (n := 1 + n1)).mono (by simp))
  clear c9 c5 c15 r0 x9 x10 l1 l2 l3 H0 Hb0
  revert h2 hb2
  generalize World.drewN _ _ = w2
  intro h2 hb2
  have hph := phase_phase w2 ph 0 ((h2 |>.front 2 rfl |>.front 2 rfl |>.front 2 rfl |>.front 3 rfl).cell 0 rfl)
  have Hph := hid hph
  have H2 := hid h2
  have Hb2 := hid hb2
  clear h2 hb2 hph
  go_wp2_with (first | (go_at_call 37; refine Hph.out.mono ?_; rintro e v2 ⟨rfl, rfl⟩))
  have h2 := H2.out
  have hw := wanted0 v2 m ph h a 0 tr gl ra h2.lt' (by omega) (Ho.out _ _ h2) ((h2 |>.front 2 rfl |>.front 2 rfl |>.front 2 rfl |>.front 3 rfl).cell 1 rfl) ((h2 |>.front 3 rfl |>.front 3 rfl |>.front 3 rfl |>.front 3 rfl |>.front 4 rfl).cell 0 HC.out.1) ((h2 |>.front 4 rfl |>.front 4 rfl |>.front 4 rfl |>.front 4 rfl |>.front 4 rfl |>.front 5 rfl).cell 4 HC.out.2)
  refine hw.mono ?_
  rintro e w3 ⟨rfl, hb⟩
  have h3 := h2.of_below hb
  have hb3 : Below w.heap.size w w3 := Hb2.out.trans (hb.mono Hb2.out.size)
  clear h2 hw hb H2 Hb2 Hph
  have O3 := Ho.out _ _ h3
  have hlv := machine_live w3.drew m h a 0 (by have := O3; obtain ⟨q1, q2, q3, q4, q5, q6⟩ := this; exact q3) ((h3 |>.front 3 rfl |>.front 3 rfl |>.front 3 rfl |>.front 3 rfl |>.front 4 rfl).cell 0 HC.out.1) ((h3 |>.front 4 rfl |>.front 4 rfl |>.front 4 rfl |>.front 4 rfl |>.front 4 rfl |>.front 5 rfl).cell 4 HC.out.2)
  have lm := h3.lt'
  have Hlv := hid hlv
  have H3 := hid h3
  have HO3 := hid (show Off0 m ph h tr gl ra w3.drew from O3)
  have Hb3 := hid hb3
  clear h3 hlv O3 hb3 HC Ho
  go_wp2_with (first | ((with_reducible refine wp_region_segS (Off0 m ph h tr gl ra) mixed (by decide +kernel) ?_ ?_); (focus (exact HO3.out))) | ((with_reducible apply segS_lookN); (focus (rfl)); (focus (first | (go_simp; done) | (go_simp; exact rfl) | exact rfl)); (focus (rfl)); (focus (intro wq hq; obtain ⟨q1, q2, q3, q4, q5, q6⟩ := hq; go_simp; first | exact rfl | exact ⟨rfl, rfl⟩))) | ((with_reducible apply segS_callN); (focus (rfl)); (focus (first | (go_simp; done) | (go_simp; exact rfl) | exact rfl)); (focus (rfl)); (focus (go_simp; first | exact rfl | exact ⟨rfl, rfl⟩))) | (with_reducible refine segS_nil ?_))
  refine Hlv.out.mono ?_
  rintro e w4 ⟨rfl, rfl⟩
  refine ⟨_, rfl, (by first | exact HO3.out | exact .inl HO3.out), ?_⟩
  go_wp2_with (first | ((with_reducible apply segS_lookN); (focus (rfl)); (focus (first | (go_simp; done) | (go_simp; exact rfl) | exact rfl)); (focus (rfl)); (focus (intro wq hq; obtain ⟨q1, q2, q3, q4, q5, q6⟩ := hq; go_simp; first | exact rfl | exact ⟨rfl, rfl⟩))) | ((with_reducible apply segS_callN); (focus (rfl)); (focus (first | (go_simp; done) | (go_simp; exact rfl) | exact rfl)); (focus (rfl)); (focus (go_simp; first | exact rfl | exact ⟨rfl, rfl⟩))) | (with_reducible refine segS_nil ?_))
  refine (begin_not tr gl ra 0 _ (by omega)).mono ?_
  rintro e w4 ⟨rfl, hb⟩
  have h4 := (Sw.drew H3.out).of_below hb
  have hb4 : Below w.heap.size w w4 := Hb3.out.trans ((below_drewN (n := 1)).trans hb |>.mono Hb3.out.size)
  have hO4 := HO3.out.below hb lm
  have he := h4 |>.front 5 rfl |>.front 5 rfl |>.front 5 rfl |>.front 5 rfl |>.front 5 rfl |>.front 5 rfl |>.front 6 rfl
  have c0 := he.cell 0 rfl
  have c1 := he.cell 1 rfl
  have c2 := he.cell 2 rfl
  have f0 := he.frozen 0
  have f1 := he.frozen 1
  have f2 := he.frozen 2
  have h5 := ((he.set 0 (.int .i64 0)).set 1 (.int .i64 0)).set 2 (.int .i64 0)
  have H5 := hid h5
  have Hb4 := hid hb4
  clear h4 hb4 hb hO4 H3 HO3 Hb3 Hlv h5 he
  refine ⟨_, rfl, ?_⟩
  go_wp2_with (first | ((with_reducible apply segS_lookN); (focus (rfl)); (focus (first | (go_simp; done) | (go_simp; exact rfl) | exact rfl)); (focus (rfl)); (focus (intro wq hq; obtain ⟨q1, q2, q3, q4, q5, q6⟩ := hq; go_simp; first | exact rfl | exact ⟨rfl, rfl⟩))) | ((with_reducible apply segS_callN); (focus (rfl)); (focus (first | (go_simp; done) | (go_simp; exact rfl) | exact rfl)); (focus (rfl)); (focus (go_simp; first | exact rfl | exact ⟨rfl, rfl⟩))) | (with_reducible refine segS_nil ?_))
  refine bodyPost_ret (v := .tuple #[.agg #[.int .i64 0, .int .i64 0, .int .i64 0], .bool false]) ?_ rfl ⟨rfl, ((Hb4.out.setCell (Nat.le_refl _) _).setCell (Nat.le_refl _) _).setCell (Nat.le_refl _) _⟩
  have hlv := run_loadVar_row (P := Tryz.prog) _ w.heap.size 71 71 _ (0, 0) _ H5.out.row Tryz.underlying71 rfl (by kernel_rfl)
  rw [results_cell_tmp rfl]
  simp [asAddr, hlv]
end Go.Proofs.YtfddmbafjniflaaGreatDoor
