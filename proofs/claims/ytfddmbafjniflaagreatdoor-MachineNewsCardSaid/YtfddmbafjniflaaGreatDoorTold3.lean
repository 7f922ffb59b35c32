/-
  told(): it tells true.
-/
import Derived.Test.YtfddmbafjniflaaGreatDoorTold2
namespace Go.Proofs.YtfddmbafjniflaaGreatDoor
open Go Go.RowKit
set_option maxRecDepth 100000 in
theorem step_told (m64 : Mul64Said) (T : Told) (k : T.Ok) (w : World) (R : List HP) (v : Int)
    (hS : Sw w (ptc T.m (T.cells (.slice none 0 0) 0) 93 :: ptc T.x (procC (-1) 0 (-1) 0 0 (.pointer none) (ptr T.b1) false 0 0 0) 108 :: SchedR T.sc [[0], []] [] :: StatesR T.st [1] :: ptc T.pb T.ps 103 :: PhaseR T.ph 0 0 [false, false] 0 0 :: ptc T.gb T.gs 116 :: ptc T.g (gorC 0 0 0 (stack0 (num 0)) 0 0) 120 ::
      ptc T.fb T.fl 111 :: ptc T.lb T.ll 113 :: ptc T.t [.slice none 0 0, num 0] 174 :: ptc T.h T.hc 158 :: ptc T.a T.ac 196 :: R)) :
    Calls Tryz.prog 20 #[ptr T.m, .agg #[.int .i64 0, .int .i64 v, .bool false, .int .i64 0]] w fun e w' => e = .returned (.agg #[.int .i64 1, .int .i64 0, .int .i64 0]) ∧ ∃ cv,
      Sw w' (ptc T.m (T.cells cv 1) 93 :: StatesR T.st [5] :: ptc T.t [.slice none 0 0, num 0] 174 :: sl 76 6 cv 1 com0 :: R) :=
  step0 m64 w R T.m T.pb T.po T.pcap T.x T.st T.sc T.gb T.go T.gcap T.g T.fb T.fo T.fcap T.lb T.lo T.lcap T.h T.a T.t T.wt T.ph v 48 64 4194304 (by decide) T.ps T.gs T.fl T.ll T.hc T.ac T.glv (.pointer none) (ptr T.b1) [false, false] 0 0 k.hx k.hg k.hf k.hl0 k.hl1 k.hl2 k.hl3 k.hh k.ha hS
theorem told_status (T : Told) (w : World) (R : List HP) (cv : Value) (n : Nat) (l : List Nat) (hl : l.length ≤ 1024) (hS : Sw w (ptc T.m (T.cells cv n) 93 :: StatesR T.st l :: ptc T.t [.slice none 0 0, num 0] 174 :: R)) :
    Calls Tryz.prog 11 #[ptr T.m] w fun e w' => e = .returned (num (statusOf false l 0)) ∧ ∃ n, w' = w.drewN n :=
  machine_status w _ T.m T.st T.t 0 0 none false _ l hl (by decide) rfl rfl rfl ((hS |>.front 2 rfl).cell 0 rfl) hS
set_option maxRecDepth 100000 in
set_option maxHeartbeats 4000000 in
theorem told_true (m64 : Mul64Said) (w : World) : Calls Tryz.prog 4 #[] w fun e w' => e = .returned (.bool true) ∧ Below w.heap.size w w' := by
  have h0 := (Sw.old w).allocc (script 0) 5
  have hn := hid (new_told m64 _ _ _ h0)
  have D := hid m64
  clear h0 m64
  go_enter Tryz.func4, Tryz.ntmps4
  repeat' (first | go_values | go_skip | go_guarded | go_step | go_upon | dsimp only)
  refine hn.out.mono ?_
  rintro e w1 ⟨T, k, rfl, h1⟩
  have h2 := hid (new99 _ _ _ (h1.allocc (script 99) 5))
  have K := hid k
  clear hn h1 k
  repeat' (first | go_values | go_skip | go_guarded | go_step | go_upon | dsimp only)
  refine h2.out.mono ?_
  rintro e w2 ⟨rfl, h3⟩
  have hst := told_status T w2 _ _ _ [1] (by decide) (h3 |>.front 10 rfl |>.front 4 rfl |>.front 2 rfl)
  rw [status_runs] at hst
  have Hst := hid hst
  have H3 := hid h3
  clear h2 h3 hst
  repeat' (first | go_values | go_skip | go_guarded | go_step | go_upon | dsimp only)
  refine wp_loop_rounds 2 ?_
  rw [rounds_succ]
  repeat' (first | go_values | go_skip | go_guarded | go_step | go_upon | dsimp only)
  refine Hst.out.mono ?_
  rintro e w3 ⟨rfl, n1, rfl⟩
  have hsp := hid (step_told D.out T K.out _ _ 1 (Sw.drewN n1 H3.out))
  clear Hst H3
  repeat' (first | go_values | go_skip | go_guarded | go_step | go_upon | dsimp only)
  refine hsp.out.mono ?_
  rintro e w4 ⟨rfl, cv, h4⟩
  clear hsp
  rcases h4 |>.front 3 rfl |>.sl_open with ⟨h0, _⟩ | ⟨b, o, cap, cs, rfl, _, _, hcs0, hcs, h5⟩
  · omega
  have kc : ∀ i, i < 6 → cs[o + i]? = com0[i]? := fun i hi => by rw [← hcs, take_drop_get (by omega)]
  have HK := hid kc
  have h5 : Sw w4 _ := h5
  simp only [List.eraseIdx_cons_zero, List.eraseIdx_cons_succ] at h5
  -- 0 cs, 1 m, 2 St, 3 t, 4 sb, 5 old
  have hst := told_status T w4 _ _ _ [5] (by decide) (h5 |>.front 3 rfl |>.front 3 rfl |>.front 3 rfl)
  rw [status_done] at hst
  have Hst := hid hst
  have H5 := hid h5
  clear h4 h5 hst hcs hcs0 kc
  repeat' (first | go_values | go_skip | go_guarded | go_step | go_upon | dsimp only)
  rw [rounds_succ]
  repeat' (first | go_values | go_skip | go_guarded | go_step | go_upon | dsimp only)
  refine Hst.out.mono ?_
  rintro e w5 ⟨rfl, n2, rfl⟩
  have hcf := hid (commit_first (w4.drewN n2) T.m cap b o _ _ cs rfl (HK.out 0 (by omega)) (HK.out 1 (by omega)) (HK.out 2 (by omega)) (HK.out 3 (by omega)) (HK.out 4 (by omega)) (HK.out 5 (by omega)) ((Sw.drewN n2 H5.out) |>.front 1 rfl))
  clear Hst
  repeat' (first | go_values | go_skip | go_guarded | go_step | go_upon | dsimp only)
  refine hcf.out.mono ?_
  rintro e w6 ⟨rfl, hb⟩
  have h6 := (Sw.drewN n2 H5.out).of_below hb
  have h7 := h6.allocc [.int .i64 0, .int .i64 0, .int .i64 0, .int .i64 0, .int .i64 0, .bool false] 76
  -- 0 new, 1 cs, 2 m, 3 St, 4 t, 5 sb, 6 old
  have hst := told_status T _ _ _ _ [5] (by decide) (h7 |>.front 4 rfl |>.front 4 rfl |>.front 4 rfl)
  rw [status_done] at hst
  have Hst := hid hst
  have hcm := fun (n : Nat) => machine_commits (World.drewN _ n) T.m 1 cap (some ⟨b, o, none⟩) ((Sw.drewN n (h7 |>.front 2 rfl)).cell 24 rfl)
  have Hcm := hid hcm
  have heq : ∀ w, (binOp .eql 76 (.agg #[.int .i64 0, .int .i64 0, .int .i64 0, .int .i64 0, .int .i64 0, .bool false]) (.agg #[.int .i64 0, .int .i64 0, .int .i64 0, .int .i64 0, .int .i64 0, .bool false])).run Tryz.prog w = .ok (.bool true) w := fun w => by kernel_rfl
  have hbo := hid (h7 |>.front 6 rfl).below
  clear h6 h7 hst hcm hb H5 hcf
  repeat' (first | (go_big_may; (first | (go_at_call 11; refine Hst.out.mono ?_; rintro e w7 ⟨rfl, n3, rfl⟩) | (go_at_call 12; refine (Hcm.out _).mono ?_; rintro e w8 ⟨rfl, rfl⟩))) | go_values | go_skip | go_guarded | go_step | go_upon | dsimp only)
  go_ret
  exact ⟨rfl, hbo.out.trans ((below_drewN (n := n3)).mono hbo.out.size)⟩
end Go.Proofs.YtfddmbafjniflaaGreatDoor
