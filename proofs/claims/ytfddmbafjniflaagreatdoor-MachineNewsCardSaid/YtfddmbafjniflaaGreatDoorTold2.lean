/-
  The told run: what it tells.
-/
import Derived.Test.YtfddmbafjniflaaGreatDoorNew0
import Derived.Test.YtfddmbafjniflaaGreatDoorNew99
namespace Go.Proofs.YtfddmbafjniflaaGreatDoor
open Go Go.RowKit
theorem status_done : statusOf false [5] 0 = 1 := by decide
set_option maxRecDepth 100000 in
set_option maxHeartbeats 2000000 in
theorem commit_first (w : World) (m cap b o : Nat) (R : List HP) (c cs : List Value) (h24 : c[24]? = some (.slice (some ⟨b, o, none⟩) 1 cap)) (h0 : cs[o]? = some (.int .i64 0)) (h1 : cs[o + 1]? = some (num 0)) (h2 : cs[o + 2]? = some (num 0)) (h3 : cs[o + 3]? = some (num 0)) (h4 : cs[o + 4]? = some (.int .i64 0)) (h5 : cs[o + 5]? = some (.bool false))
    (hS : Sw w (ptc m c 93 :: ptc b cs 76 :: R)) :
    Calls Tryz.prog 21 #[ptr m, .int .i64 0] w fun e w' => e = .returned (.tuple #[.agg #[.int .i64 0, .int .i64 0, .int .i64 0, .int .i64 0, .int .i64 0, .bool false], .bool true]) ∧ Below w.heap.size w w' := by
  have c24 := hS.cell 24 h24
  have q0 := (hS |>.front 1 rfl).cell o h0
  have q1 := (hS |>.front 1 rfl).cell (o + 1) h1
  have q2 := (hS |>.front 1 rfl).cell (o + 2) h2
  have q3 := (hS |>.front 1 rfl).cell (o + 3) h3
  have q4 := (hS |>.front 1 rfl).cell (o + 4) h4
  have q5 := (hS |>.front 1 rfl).cell (o + 5) h5
  have l1 := hS.lt'
  have l2 := (hS |>.front 1 rfl).lt'
  have hc := hid (machine_commits (w.alloc (.cells #[.int .i64 0, .int .i64 0, .int .i64 0, .int .i64 0, .int .i64 0, .bool false] 76)) m 1 cap (some ⟨b, o, none⟩) ((hS.after_alloc _).cell 24 h24))
  have hlv := run_loadVar_row (P := Tryz.prog) (w.alloc (.cells #[.int .i64 0, .int .i64 0, .int .i64 0, .int .i64 0, .int .i64 0, .bool false] 76)) w.heap.size 76 76 _ (0, 0) _ (heap_alloc_new w _) Tryz.underlying76 rfl (by kernel_rfl)
  have Hlv := hid hlv
  have hb : Below w.heap.size w (w.alloc (.cells #[.int .i64 0, .int .i64 0, .int .i64 0, .int .i64 0, .int .i64 0, .bool false] 76)) := Below.alloc (Below.refl _ _) (Nat.le_refl _) _
  have Hb := hid hb
  clear hS h24 h0 h1 h2 h3 h4 h5 hlv hb
  go_enter Tryz.func21, Tryz.ntmps21
  repeat' (first | (go_big_may; (first | (with_reducible refine wp_region_segP mixed (by decide +kernel) ?_) | (apply segP_pure (by rfl) (by rfl); focus (intro w1; go_simp; first | exact rfl | exact ⟨rfl, rfl⟩)) | (apply segP_look (by rfl) (by rfl) (by rfl); focus (go_simp; first | exact rfl | exact ⟨rfl, rfl⟩)) | (apply segP_act (by rfl) (by rfl) (by rfl); focus (go_simp; first | exact rfl | exact ⟨rfl, rfl⟩)) | (apply segP_unit (by rfl) (by rfl) (by rfl); focus (go_simp; first | exact rfl | exact ⟨rfl, rfl⟩)) | (refine segP_nil ?_) | (go_at_call 12; refine hc.out.mono ?_; rintro e w1 ⟨rfl, rfl⟩))) | go_values | go_skip | go_guarded | go_step | go_upon | dsimp only)
  refine bodyPost_ret (v := .tuple #[.agg #[.int .i64 0, .int .i64 0, .int .i64 0, .int .i64 0, .int .i64 0, .bool false], .bool true]) ?_ rfl ⟨rfl, ?_⟩
  · rw [results_cell_tmp rfl]
    simp [asAddr, Hlv.out]
  · exact Hb.out
/-- What the told run's machine stands on, its rows open. -/
structure Told where
  (m pb po pcap x st sc gb go gcap g fb fo fcap lb lo lcap h a t wt ph b1 : Nat)
  (ps gs fl ll hc ac : List Value)
  (glv : Value)
structure Told.Ok (T : Told) : Prop where
  hx : T.ps[T.po]? = some (ptr T.x)
  hg : T.gs[T.go]? = some (ptr T.g)
  hf : T.fl[T.fo]? = some (.slice (some ⟨T.lb, T.lo, none⟩) 1 T.lcap)
  hl0 : T.ll[T.lo]? = some (num 0)
  hl1 : T.ll[T.lo + 1]? = some (num 0)
  hl2 : T.ll[T.lo + 2]? = some (num 0)
  hl3 : T.ll[T.lo + 3]? = some (num 0)
  hh : T.hc[0]? = some (ptr T.a)
  ha : T.ac[4]? = some (num 0)
def Told.cells (T : Told) (commits : Value) (steps : Nat) : List Value := mC (.slice (some ⟨T.fb, T.fo, none⟩) 1 T.fcap) (.slice (some ⟨T.gb, T.go, none⟩) 1 T.gcap) (.slice (some ⟨T.pb, T.po, none⟩) 2 T.pcap) T.glv T.h T.st T.sc T.t T.wt T.ph 48 64 4194304 commits (.slice none 0 0) steps
set_option maxRecDepth 100000 in
theorem new_told (m64 : Mul64Said) (w : World) (R : List HP) (sb : Nat) (hS : Sw w (ptc sb (script 0) 5 :: R)) :
    Calls Tryz.prog 5 #[conf0, .slice (some ⟨sb, 0, none⟩) 7 7] w fun e w' => ∃ T : Told, T.Ok ∧ e = .returned (.tuple #[ptr T.m, .int .i64 0, .int .i64 0]) ∧
      Sw w' (ptc T.m (T.cells (.slice none 0 0) 0) 93 :: ptc T.x (procC (-1) 0 (-1) 0 0 (.pointer none) (ptr T.b1) false 0 0 0) 108 :: SchedR T.sc [[0], []] [] :: StatesR T.st [1] :: ptc T.pb T.ps 103 :: PhaseR T.ph 0 0 [false, false] 0 0 :: ptc T.gb T.gs 116 :: ptc T.g (gorC 0 0 0 (stack0 (num 0)) 0 0) 120 ::
        ptc T.fb T.fl 111 :: ptc T.lb T.ll 113 :: ptc T.t [.slice none 0 0, num 0] 174 :: ptc T.h T.hc 158 :: ptc T.a T.ac 196 :: ptc sb (script 0) 5 :: R) := by
  refine (new0 m64 w R sb hS).mono ?_
  rintro e w' ⟨m, fv, lv, gv, pv, glv, h, st, sc, t, wt, ph, g, x1, x2, b1, a, hc, ac, hh, ha, rfl, hs⟩
  have hs := hs |>.front 4 rfl
  simp only [List.eraseIdx_cons_zero, List.eraseIdx_cons_succ] at hs
  obtain ⟨pb, po, pcap, ps, rfl, _, _, _, _, hs, hps⟩ := sl_row hs (by omega)
  have hs := hs |>.front 6 rfl
  simp only [List.eraseIdx_cons_zero, List.eraseIdx_cons_succ] at hs
  obtain ⟨gb, go, gcap, gs, rfl, _, _, _, _, hs, hgs⟩ := sl_row hs (by omega)
  have hs := hs |>.front 8 rfl
  simp only [List.eraseIdx_cons_zero, List.eraseIdx_cons_succ] at hs
  obtain ⟨fb, fo, fcap, fl, rfl, _, _, _, _, hs, hfl⟩ := sl_row hs (by omega)
  have hs := hs |>.front 9 rfl
  simp only [List.eraseIdx_cons_zero, List.eraseIdx_cons_succ] at hs
  rcases hs.sl_open with ⟨h0, _⟩ | ⟨lb, lo, lcap, ll, rfl, _, _, _, hll, hs⟩
  · omega
  have k : ∀ i, i < 4 → ll[lo + i]? = ([num 0, num 0, num 0, num 0] : List Value)[i]? := fun i hi => by rw [← hll, take_drop_get (by omega)]
  refine ⟨⟨m, pb, po, pcap, x1, st, sc, gb, go, gcap, g, fb, fo, fcap, lb, lo, lcap, h, a, t, wt, ph, b1, ps, gs, fl, ll, hc, ac, glv⟩, ⟨hps 0 (by omega), hgs 0 (by omega), hfl 0 (by omega), k 0 (by omega), k 1 (by omega), k 2 (by omega), k 3 (by omega), hh, ha⟩, rfl, ?_⟩
  -- 0 ll, 1 fl, 2 gs, 3 ps, 4 m, 5 x, 6 Sched, 7 St, 8 Ph, 9 g, 10 t, 11 h, 12 a, 13 sb
  exact hs |>.front 1 rfl |>.front 9 rfl |>.front 3 rfl |>.front 9 rfl |>.front 5 rfl |>.front 9 rfl |>.front 9 rfl |>.front 9 rfl |>.front 9 rfl
end Go.Proofs.YtfddmbafjniflaaGreatDoor
