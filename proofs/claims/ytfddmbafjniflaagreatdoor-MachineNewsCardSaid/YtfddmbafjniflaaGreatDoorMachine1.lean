/-
  Package machine: spawn, while the collector is off.
-/
import Derived.Test.YtfddmbafjniflaaGreatDoorPick
import Derived.Test.YtfddmbafjniflaaGreatDoorState
import Derived.Test.YtfddmbafjniflaaGreatDoorSmall
import Derived.Test.YtfddmbafjniflaaGreatDoorCode
namespace Go.Proofs.YtfddmbafjniflaaGreatDoor
open Go Go.RowKit
theorem Src.fresh1n {w : World} {n : Nat} (v : Value) (T : TypeId) (h : v.oneCell' = true) (hn : w.heap.size = n) : Src (w.alloc (.cells #[v] T)) 1 (.slice (some ⟨n, 0, none⟩) 1 1) 1 [v] := by
  subst hn; exact Src.fresh1 w v T h
def gorC (f pc count : Nat) (stack : List Value) (p cycle : Nat) : List Value := [num f, num pc, num count] ++ stack ++ [num p, num cycle]
def stack0 (v : Value) : List Value := v :: List.replicate 15 (num 0)
theorem gor_build (f : Nat) (w : World) : (Instr.build 120 #[(0, num f)]).run Tryz.prog w = .ok (.agg (gorC f 0 0 (stack0 (num 0)) 0 0).toArray) w := by kernel_rfl
set_option maxRecDepth 100000 in
set_option maxHeartbeats 2000000 in
theorem spawn_off (w : World) (R : List HP) (m p f st sc ph cy cnt rst n : Nat) (x : Nat) (c : List Value) (gv : Value) (l : List Nat) (gs : List Value) (rs : List (List Nat)) (q : List Nat) (said : List Bool)
    (h6 : c[7]? = some (ptr st)) (h7 : c[8]? = some gv) (h9 : c[10]? = some (ptr sc)) (h14 : c[15]? = some (ptr ph)) (hl : l.length < 1024) (hn : n = l.length)
    (hp : rs[p]? = some q) (hq : q.length < 256) (hrs : rs.length ≤ 64)
    (hgs : gs.length = l.length) (hS : Sw w (ptc m c 93 :: StatesR st l :: sl 116 1 gv n gs :: SchedR sc rs [] :: PhaseR ph 0 cy said cnt rst :: R)) :
    Calls Tryz.prog 34 #[ptr m, .int .i64 p, .int .i64 f, .int .i64 x] w fun e w' => ∃ gv' g, e = .returned (num l.length) ∧
      Sw w' (ptc m (c.set 8 gv') 93 :: StatesR st (l ++ [1]) :: sl 116 1 gv' (n + 1) (gs ++ [ptr g]) :: ptc g (gorC f 0 0 (stack0 (num x)) 0 0) 120 :: SchedR sc (rs.set p (q ++ [l.length])) [] :: PhaseR ph 0 cy said cnt rst :: R) := by
  subst hn
  obtain ⟨a, cap, rfl⟩ := (hS |>.front 1 rfl |>.front 1 rfl |>.front 2 rfl).sl_val
  have c6 := hS.cell 7 h6
  have hsp := states_spawn w _ st l hl (hS |>.front 1 rfl)
  have Hsp := hid hsp
  have HL := hid hgs
  have i9 : (l.length : Int) < 1024 := by omega
  have Hp := hid hp
  have H7 := hid h7
  have H9 := hid h9
  have H14 := hid h14
  have hb := gor_build f
  clear hS hsp h6 h7 h9 h14
  go_enter Tryz.func34, Tryz.ntmps34
  have z1 := hid (show (Tryz.prog.info? 116).map (fun i => (i.zero, i.size, i.bytes)) = some (some (.pointer none), 1, 8) from by kernel_rfl)
  go_wp2_with (first | (go_at_call 86; refine Hsp.out.mono ?_; rintro e w1 ⟨rfl, h1⟩; have d7 := (h1 |>.front 1 rfl).cell 8 H7.out; have f7 := (h1 |>.front 1 rfl).frozen 8; have H1 := hid h1; clear h1) | (refine wpList_build_at rfl 120 _ _ rfl _ hb (by simp [Act.eval]) ?_) | (at_builtin; refine append_any 116 82 (.pointer none) 8 (by decide) Tryz.underlying82 z1.out rfl rfl (.tmp 25) (.tmp 29) rfl _ _ _ _ rfl (Sw.after_alloc ((H1.out.allocc (gorC f 0 0 (stack0 (num 0)) 0 0) 120) |>.front 2 rfl |>.front 2 rfl |>.front 2 rfl |>.front 3 rfl) _) _ 1 _ rfl (Src.fresh1n _ _ rfl (World.size_alloc _ _)) (by omega) ?_; intro v2 w2 h2; obtain ⟨lb, o2, cap2, cs2, rfl, k1, k2, k3, k4, h2r, hc2⟩ := sl_row h2 (by omega); have e7 := (h2r |>.front 2 rfl |>.front 2 rfl |>.front 2 rfl |>.front 3 rfl).cell 8 H7.out; have g7 := (h2r |>.front 2 rfl |>.front 2 rfl |>.front 2 rfl |>.front 3 rfl).frozen 8; have e10 := (h2r |>.front 2 rfl |>.front 2 rfl |>.front 2 rfl |>.front 3 rfl).cell 10 H9.out; have hry := sched_ready _ _ sc p l.length rs [] q Hp.out hrs hq (by simp) ((((h2r |>.front 2 rfl |>.front 2 rfl |>.front 2 rfl |>.front 3 rfl).set 8 (.slice (some ⟨lb, o2, none⟩) (l.length + 1) cap2) |>.front 1 rfl |>.front 1 rfl |>.front 2 rfl).set 3 (num x)) |>.front 3 rfl |>.front 3 rfl |>.front 3 rfl |>.front 3 rfl |>.front 4 rfl); have Hry := hid hry; clear hry; have ne1 := (h2r |>.front 2 rfl |>.front 2 rfl |>.front 3 rfl |>.front 3 rfl).ne; have ne2 := (h2r |>.front 2 rfl |>.front 1 rfl |>.front 3 rfl |>.front 3 rfl).ne; have e8 : w2.cell? ⟨lb, o2 + l.length, none⟩ = some (ptr w1.heap.size) := h2r.cell (o2 + l.length) (by rw [hc2 l.length (by omega)]; rw [List.getElem?_append_right (by omega), HL.out, Nat.sub_self]; rfl); have e9 := (h2r |>.front 1 rfl).cell 3 rfl; have g9 := (h2r |>.front 1 rfl).frozen 3; have H2 := hid h2r; have HK := hid (And.intro k1 (And.intro k2 (And.intro k3 k4))); clear h2 h2r hc2 k1 k2 k3 k4) | (go_at_call 68; refine Hry.out.mono ?_; rintro e w4 ⟨rfl, h4⟩; have q15 := (h4 |>.front 1 rfl |>.front 1 rfl |>.front 2 rfl).cell 15 (by rw [List.getElem?_set_ne (by omega)]; exact H14.out); have H4 := hid h4; obtain ⟨pv, h5⟩ := PhaseR.open_ (h4 |>.front 4 rfl |>.front 4 rfl |>.front 4 rfl |>.front 4 rfl |>.front 4 rfl |>.front 5 rfl); have hph := phase_phase w4 ph 0 (h5.cell 0 rfl); have Hph := hid hph; clear h4 h5 hph) | (go_at_call 37; refine Hph.out.mono ?_; rintro e w5 ⟨rfl, rfl⟩))
  go_ret
  obtain ⟨k1, k2, k3, k4⟩ := HK.out
  have h6 := Sw.sl_close (E := 116) (sz := 1) (n := l.length + 1) k1 k2 k3 (H4.out |>.front 2 rfl |>.front 2 rfl |>.front 2 rfl |>.front 3 rfl)
  rw [k4] at h6
  exact ⟨_, w1.heap.size, rfl, h6 |>.front 1 rfl |>.front 2 rfl |>.front 2 rfl |>.front 4 rfl |>.front 4 rfl⟩
end Go.Proofs.YtfddmbafjniflaaGreatDoor
