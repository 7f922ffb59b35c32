/-
  Package machine: run, of the one instruction that there is (told).
-/
import Derived.Test.YtfddmbafjniflaaGreatDoorCommit0
namespace Go.Proofs.YtfddmbafjniflaaGreatDoor
open Go Go.RowKit
set_option maxRecDepth 100000 in
set_option maxHeartbeats 4000000 in
theorem run0 (w : World) (R : List HP) (m pb po pcap x st sc gb go gcap g pk psd d wk al fb fo fcap lb lo lcap : Nat) (c ps gl fl ll : List Value) (scan notes : Value) (sd : Bool) (rs : List (List Nat))
    (h1 : c[1]? = some (.slice (some ⟨fb, fo, none⟩) 1 fcap)) (h7 : c[7]? = some (ptr st)) (h8 : c[8]? = some (.slice (some ⟨gb, go, none⟩) 1 gcap)) (h9 : c[9]? = some (.slice (some ⟨pb, po, none⟩) 2 pcap)) (h10 : c[10]? = some (ptr sc)) (h24 : c[24]? = some (.slice none 0 0))
    (hx : ps[po]? = some (ptr x)) (hg : gl[go]? = some (ptr g)) (hf : fl[fo]? = some (.slice (some ⟨lb, lo, none⟩) 1 lcap)) (hl0 : ll[lo]? = some (num 0)) (hl1 : ll[lo + 1]? = some (num 0)) (hl2 : ll[lo + 2]? = some (num 0)) (hl3 : ll[lo + 3]? = some (num 0))
    (hS : Sw w (ptc x (procC 0 0 0 pk psd scan notes sd d wk al) 108 :: StatesR st [2] :: ptc m c 93 :: ptc pb ps 103 :: ptc gb gl 116 :: ptc g (gorC 0 0 0 (stack0 (num 0)) 0 0) 120 :: SchedR sc rs [] :: ptc fb fl 111 :: ptc lb ll 113 :: R)) :
    Calls Tryz.prog 72 #[ptr m, num 0] w fun e w' => e = .returned (.agg #[.int .i64 1, .int .i64 0, .int .i64 0]) ∧ ∃ cv,
      Sw w' (ptc x (procC (-1) 1 0 pk psd scan notes sd d wk al) 108 :: StatesR st [5] :: ptc m (c.set 24 cv) 93 :: ptc pb ps 103 :: ptc gb gl 116 :: ptc g (gorC 0 1 0 (stack0 (num 0)) 0 0) 120 :: sl 76 6 cv 1 com0 :: SchedR sc rs [] :: ptc fb fl 111 :: ptc lb ll 113 :: R) := by
  have h0 := hS.allocc [.int .i64 0, .int .i64 0, .int .i64 0] 71
  have hco := sched_common _ _ sc rs [] (by decide) ((Sw.drew h0) |>.front 7 rfl)
  have Hco := hid hco
  have k9 := (hS |>.front 2 rfl).cell 9 h9
  have k8 := (hS |>.front 2 rfl).cell 8 h8
  have k10 := (hS |>.front 2 rfl).cell 10 h10
  have kp := (hS |>.front 3 rfl).cell po hx
  have kg := (hS |>.front 4 rfl).cell go hg
  have kx := hS.cell 0 rfl
  have l1 := hS.lt'
  have l2 := (hS |>.front 2 rfl).lt'
  have l3 := (hS |>.front 3 rfl).lt'
  have l4 := (hS |>.front 4 rfl).lt'
  have HC := hid (And.intro h1 (And.intro h7 (And.intro h8 (And.intro h9 (And.intro h10 (And.intro h24 (And.intro hx (And.intro hg (And.intro hf (And.intro hl0 (And.intro hl1 (And.intro hl2 hl3))))))))))))
  clear hS h0 h1 h7 h8 h9 h10 h24 hx hg hf hl0 hl1 hl2 hl3 hco
  go_enter Tryz.func72, Tryz.ntmps72
  -- 0 ev, 1 x, 2 St, 3 m, 4 pb, 5 gb, 6 g, 7 Sched, 8 fb, 9 lb
  repeat' (first | (go_big_may; (first | (with_reducible refine wp_region_seg mixed (by decide +kernel) ?_) | (refine seg_look (by rfl) (fun K hK => ?_); go_simp; refine hK _ ?_; clear hK K) | (refine seg_act (by rfl) (fun K hK => ?_); go_simp) | (refine seg_nil ?_))) | go_values | go_skip | go_guarded | go_step | go_upon | dsimp only)
  refine Hco.out.mono ?_
  rintro e w2 ⟨v2, rfl, h2⟩
  obtain ⟨a2, cap2, rfl⟩ := h2.sl_val
  have h2 := h2.tail
  clear k9 k8 k10 kp kg kx l1 l2 l3 l4 Hco
  -- 0 Sched, 1 ev, 2 x, 3 St, 4 m, 5 pb, 6 gb, 7 g, 8 fb, 9 lb
  have x1 := (h2 |>.front 2 rfl).cell 1 rfl
  have c1 := (h2 |>.front 4 rfl).cell 1 HC.out.1
  have g0 := (h2 |>.front 7 rfl).cell 0 rfl
  have g1 := (h2 |>.front 7 rfl).cell 1 rfl
  have f0 := (h2 |>.front 8 rfl).cell fo HC.out.2.2.2.2.2.2.2.2.1
  have i0 := (h2 |>.front 9 rfl).cell lo HC.out.2.2.2.2.2.2.2.2.2.1
  have i1 := (h2 |>.front 9 rfl).cell (lo + 1) HC.out.2.2.2.2.2.2.2.2.2.2.1
  have i2 := (h2 |>.front 9 rfl).cell (lo + 2) HC.out.2.2.2.2.2.2.2.2.2.2.2.1
  have i3 := (h2 |>.front 9 rfl).cell (lo + 3) HC.out.2.2.2.2.2.2.2.2.2.2.2.2
  have l1 := (h2 |>.front 2 rfl).lt'
  have l2 := (h2 |>.front 4 rfl).lt'
  have l3 := (h2 |>.front 7 rfl).lt'
  have l4 := (h2 |>.front 8 rfl).lt'
  have l5 := (h2 |>.front 9 rfl).lt'
  have h3 := (Sw.drew (h2.allocc [.int .i64 0, .int .i64 0, .int .i64 0, .int .i64 0] 113)) |>.front 8 rfl |>.front 8 rfl |>.front 8 rfl |>.front 8 rfl |>.front 8 rfl |>.front 8 rfl
  simp only [List.eraseIdx_cons_zero, List.eraseIdx_cons_succ] at h3
  have hcm := commit0 _ _ m pb po pcap x st gb go gcap g pk psd d wk al c ps gl scan notes sd (.agg #[.int .i64 0, .int .i64 0, .int .i64 0, .int .i64 0]) HC.out.2.1 HC.out.2.2.1 HC.out.2.2.2.1 HC.out.2.2.2.2.2.1 HC.out.2.2.2.2.2.2.1 HC.out.2.2.2.2.2.2.2.1 rfl h3
  have Hcm := hid hcm
  clear h2 h3 hcm
  repeat' (first | (go_big_may; (first | (with_reducible refine wp_region_seg mixed (by decide +kernel) ?_) | (refine seg_look (by rfl) (fun K hK => ?_); go_simp; refine hK _ ?_; clear hK K) | (refine seg_act (by rfl) (fun K hK => ?_); go_simp) | (refine seg_nil ?_))) | go_values | go_skip | go_guarded | go_step | go_upon | dsimp only)
  refine Hcm.out.mono ?_
  rintro e w3 ⟨rfl, cv, h4⟩
  -- 0 x, 1 St, 2 m, 3 pb, 4 gb, 5 g, 6 sl, 7 inst, 8 Sched, 9 ev, 10 fb, 11 lb
  have he := h4 |>.front 7 rfl |>.front 9 rfl
  simp only [List.eraseIdx_cons_zero, List.eraseIdx_cons_succ] at he
  have c0 := he.cell 0 rfl
  have c1 := he.cell 1 rfl
  have c2 := he.cell 2 rfl
  have f0 := he.frozen 0
  have f1 := he.frozen 1
  have f2 := he.frozen 2
  have h5 := ((he.set 0 (.int .i64 1)).set 1 (.int .i64 0)).set 2 (.int .i64 0)
  have H5 := hid h5
  clear h4 he h5 x1 g0 g1 i0 i1 i2 i3 l1 l2 l3 l4 l5 Hcm
  repeat' (first | go_values | go_skip | go_guarded | go_step | go_upon | dsimp only)
  exact bodyPost_ret (results_cell_row rfl _ _ w.heap.size 71 _ (0, 0) _ rfl H5.out.row Tryz.underlying71 rfl (by kernel_rfl)) rfl ⟨rfl, cv, H5.out.tail.tail⟩
end Go.Proofs.YtfddmbafjniflaaGreatDoor
