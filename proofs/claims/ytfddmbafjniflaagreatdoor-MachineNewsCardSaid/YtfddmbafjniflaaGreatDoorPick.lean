/-
  Package sched: Pick.
-/
import Derived.Test.YtfddmbafjniflaaGreatDoorSched
namespace Go.Proofs.YtfddmbafjniflaaGreatDoor
open Go Go.RowKit
theorem make_func : ∀ (fn : Fn) (first cap : Array Value) (w : World), (Instr.makeFunc fn first cap).run Tryz.prog w = .ok (.func fn first cap) w := fun _ _ _ _ => rfl
set_option maxRecDepth 100000 in
set_option maxHeartbeats 400000 in
theorem fair_none (w : World) (R : List HP) (b c tv sv tick : Nat) (ht : tick = 1 ∨ tick = 61) (c0 : w.cell? ⟨tv, 0, none⟩ = some (num tick)) (c1 : w.cell? ⟨sv, 0, none⟩ = some (ptr b)) (c2 : w.cell? ⟨b, 1, none⟩ = some (ptr c)) (hQ : Sw w (QueueR c [] :: R)) :
    Calls Tryz.prog 190 #[ptr tv, ptr sv] w fun e w' => e = .returned (.tuple #[.int .i64 0, .bool false]) ∧ w' = w := by
  have hl := queue_len w R c [] hQ
  have Hl := hid hl
  clear hl hQ
  rcases ht with rfl | rfl
  · go_enter Tryz.func190, Tryz.ntmps190
    go_wp2_with (first | (go_at_call 191; refine Hl.out.mono ?_; rintro e w1 ⟨rfl, rfl⟩) | (with_reducible refine wp_region_segP mixed (by decide +kernel) ?_) | (apply segP_pure (by rfl) (by rfl); focus (intro w1; go_simp; first | exact rfl | exact ⟨rfl, rfl⟩)) | (apply segP_look (by rfl) (by rfl) (by rfl); focus (go_simp; first | exact rfl | exact ⟨rfl, rfl⟩)) | (apply segP_act (by rfl) (by rfl) (by rfl); focus (go_simp; first | exact rfl | exact ⟨rfl, rfl⟩)) | (apply segP_unit (by rfl) (by rfl) (by rfl); focus (go_simp; first | exact rfl | exact ⟨rfl, rfl⟩)) | (refine segP_nil ?_))
    go_ret2
    exact ⟨rfl, rfl⟩
  · go_enter Tryz.func190, Tryz.ntmps190
    go_wp2_with (first | (go_at_call 191; refine Hl.out.mono ?_; rintro e w1 ⟨rfl, rfl⟩) | (with_reducible refine wp_region_segP mixed (by decide +kernel) ?_) | (apply segP_pure (by rfl) (by rfl); focus (intro w1; go_simp; first | exact rfl | exact ⟨rfl, rfl⟩)) | (apply segP_look (by rfl) (by rfl) (by rfl); focus (go_simp; first | exact rfl | exact ⟨rfl, rfl⟩)) | (apply segP_act (by rfl) (by rfl) (by rfl); focus (go_simp; first | exact rfl | exact ⟨rfl, rfl⟩)) | (apply segP_unit (by rfl) (by rfl) (by rfl); focus (go_simp; first | exact rfl | exact ⟨rfl, rfl⟩)) | (refine segP_nil ?_))
    go_ret2
    exact ⟨rfl, rfl⟩
-- The next one of its own row, while none is in common.
set_option maxRecDepth 100000 in
set_option maxHeartbeats 2000000 in
theorem pick_own (w : World) (R : List HP) (b p tick g : Nat) (victim : Int) (rs : List (List Nat)) (q : List Nat) (hp : rs[p]? = some (g :: q)) (hn : rs.length ≤ 64) (ht : tick = 1 ∨ tick = 61) (hS : Sw w (SchedR b rs [] :: R)) :
    Calls Tryz.prog 126 #[ptr b, .int .i64 p, .int .i64 tick, .int .i64 victim] w fun e w' => e = .returned (.tuple #[num g, .bool true]) ∧ Sw w' (SchedR b (rs.set p q) [] :: R) := by
  obtain ⟨hlt, _⟩ := List.getElem?_eq_some_iff.1 hp
  obtain ⟨v, ps, c, hpl, h⟩ := SchedR.open_ hS
  obtain ⟨r, hr⟩ : ∃ r, ps[p]? = some r := ⟨_, List.getElem?_eq_getElem (by omega)⟩
  obtain ⟨sb, o, cap, cs, rfl, k1, k2, k3, k4, h2, hc⟩ := sl_row (h.front 1 rfl) (by omega)
  have hsc : cs[o + p]? = some (ptr r) := by rw [hc p hlt]; simp [hr]
  have hf := rings_front hr hp (h2 |>.front 2 rfl |>.front 2 rfl |>.front 2 rfl |>.front 3 rfl)
  have i1 : (p : Int) < rs.length := by omega
  have hw0 : ∃ w0, w0 = (((w.alloc (.cells #[ptr b] 84)).alloc (.cells #[num p] 3)).alloc (.cells #[num tick] 3)).alloc (.cells #[.int .i64 victim] 3) := ⟨_, rfl⟩
  obtain ⟨w0, hw0⟩ := hw0
  have h4 := (((hf.allocc [ptr b] 84).allocc [num p] 3).allocc [num tick] 3).allocc [.int .i64 victim] 3
  rw [← hw0] at h4
  simp only [World.size_alloc] at h4
  obtain ⟨n0, hn0⟩ : ∃ n0, n0 = w.heap.size := ⟨_, rfl⟩
  rw [← hn0] at h4
  have Hn0 := hid hn0
  have Hw0 := hid hw0
  have Hp := hid hp
  have Hr := hid hr
  have Hpl := hid hpl
  have Hsc := hid hsc
  have hb := h4 |>.front 6 rfl |>.front 6 rfl |>.front 6 rfl |>.front 6 rfl |>.front 6 rfl |>.front 6 rfl |>.front 6 rfl |>.front 7 rfl
  have hhas := sched_has w0 b rs.length _ (num 0) p hlt hn (hb.cell 0 rfl) ⟨_, _, rfl⟩
  have Hhas := hid hhas
  have c0 := (h4 |>.front 2 rfl |>.front 2 rfl |>.front 2 rfl |>.front 3 rfl).cell 0 rfl
  have c1 := (h4 |>.front 1 rfl |>.front 1 rfl |>.front 2 rfl).cell 0 rfl
  have c2 := hb.cell 0 rfl
  have c3 : w0.cell? ⟨sb, o + p, none⟩ = some (ptr r) := (h4 |>.front 5 rfl |>.front 5 rfl |>.front 5 rfl |>.front 5 rfl |>.front 5 rfl |>.front 5 rfl |>.front 6 rfl).cell (o + p) hsc
  have C := hid (show _ ∧ _ ∧ _ ∧ _ from ⟨c0, c1, c2, c3⟩)
  have H4 := hid h4
  have hmf := make_func
  clear hS h h2 hc hf hp hr hsc hw0 hn0 h4 hb hhas
  go_enter Tryz.func126, Tryz.ntmps126
  go_wp2_with (first | (go_at_call 108; rw [← Hw0.out, ← Hn0.out]; refine Hhas.out.mono ?_; rintro e w1 ⟨rfl, rfl⟩) | (refine wp_region_segS (fun w' => w'.cell? ⟨n0, 0, none⟩ = some (ptr b) ∧ w'.cell? ⟨n0 + 1, 0, none⟩ = some (num p) ∧ w'.cell? ⟨b, 0, none⟩ = some (.slice (some ⟨sb, o, none⟩) rs.length cap) ∧ w'.cell? ⟨sb, o + p, none⟩ = some (ptr r)) mixed (by decide +kernel) C.out ?_) | (apply segS_look (by rfl) (by rfl); focus (intro wq hq; obtain ⟨q0, q1, q2, q3⟩ := hq; go_simp; first | exact rfl | exact ⟨rfl, rfl⟩)))
  have h5 := Sw.drew (H4.out.allocc [.pointer none] 164)
  have C5 := hid (show _ ∧ _ ∧ _ ∧ _ from ⟨(h5 |>.front 3 rfl |>.front 3 rfl |>.front 3 rfl |>.front 3 rfl |>.front 4 rfl).cell 0 rfl, (h5 |>.front 2 rfl |>.front 2 rfl |>.front 2 rfl |>.front 3 rfl).cell 0 rfl, (h5 |>.front 7 rfl |>.front 7 rfl |>.front 7 rfl |>.front 7 rfl |>.front 7 rfl |>.front 7 rfl |>.front 7 rfl |>.front 7 rfl |>.front 8 rfl).cell 0 rfl, (h5 |>.front 6 rfl |>.front 6 rfl |>.front 6 rfl |>.front 6 rfl |>.front 6 rfl |>.front 6 rfl |>.front 6 rfl |>.front 7 rfl).cell (o + p) Hsc.out⟩)
  have f5 := h5.frozen 0
  have h6 := Sw.drew (H4.out.allocc [ptr r] 164)
  have H6 := hid h6
  clear c0 c1 c2 c3 h5 h6
  apply segS_act (by rfl) (by rfl)
  focus (go_simp; first | exact rfl | exact ⟨rfl, rfl⟩)
  focus exact .inl C5.out
  apply segS_unit (by rfl) (by rfl)
  focus (go_simp; first | exact rfl | exact ⟨rfl, rfl⟩)
  focus exact .inr rfl
  refine segS_nil ?_
  have h6 := H6.out
  clear H6 f5 H4 C C5
  revert h6
  generalize w1.heap.size = n5
  generalize World.drew _ = w5
  intro h6
  have d5 := h6.cell 0 rfl
  have H6 := hid h6
  clear h6
  go_wp2
  clear d5
  have h7 := H6.out.allocc [.func (.func 190) #[] #[ptr (n0 + 1 + 1), ptr n0], .func (.func 196) #[ptr r] #[], .func (.func 193) #[] #[ptr n0, ptr n5], .func (.func 194) #[] #[ptr n0, ptr (n0 + 1 + 1 + 1), ptr (n0 + 1), ptr n5]] 288
  revert h7
  generalize w5.heap.size = n7
  generalize World.alloc _ _ = w7
  intro h7
  have hb7 := h7 |>.front 8 rfl |>.front 8 rfl |>.front 8 rfl |>.front 8 rfl |>.front 8 rfl |>.front 8 rfl |>.front 8 rfl |>.front 8 rfl |>.front 8 rfl |>.front 9 rfl
  have hget := ring_get_row w7 _ r g q (h7 |>.front 5 rfl |>.front 5 rfl |>.front 5 rfl |>.front 5 rfl |>.front 5 rfl |>.front 5 rfl |>.front 6 rfl)
  have hfair := fair_none w7 _ b c (n0 + 1 + 1) n0 tick ht ((h7 |>.front 2 rfl |>.front 2 rfl |>.front 2 rfl |>.front 3 rfl).cell 0 rfl) ((h7 |>.front 4 rfl |>.front 4 rfl |>.front 4 rfl |>.front 4 rfl |>.front 4 rfl |>.front 5 rfl).cell 0 rfl) (hb7.cell 1 rfl) (h7 |>.front 9 rfl |>.front 9 rfl |>.front 9 rfl |>.front 9 rfl |>.front 9 rfl |>.front 9 rfl |>.front 9 rfl |>.front 9 rfl |>.front 9 rfl |>.front 9 rfl |>.front 10 rfl)
  have d0 := h7.cell 0 rfl
  have d1 := h7.cell 1 rfl
  have Hget := hid hget
  have Hfair := hid hfair
  clear h7 hb7 hget hfair
  refine wp_loop_rounds 2 ?_
  repeat (any_goals (rw [rounds_succ]; go_wp2_with (first | (go_at_call 190; refine Hfair.out.mono ?_; rintro e wx ⟨rfl, rfl⟩) | (go_at_call 196; refine Hget.out.mono ?_; rintro e w8 ⟨rfl, h8⟩; have H8 := hid h8; clear h8))))
  go_ret2
  refine ⟨rfl, ?_⟩
  have h8 := (H8.out |>.front 10 rfl |>.front 10 rfl |>.front 10 rfl |>.front 10 rfl |>.front 4 rfl |>.front 10 rfl |>.front 10 rfl |>.front 10 rfl |>.front 10 rfl |>.front 10 rfl |>.front 10 rfl).tail.tail.tail.tail.tail.tail
  have h9 := rings_back Hr.out hlt h8
  have h10 := Sw.sl_close (E := 164) (sz := 1) (n := rs.length) k1 k2 k3 (h9 |>.front 1 rfl)
  rw [k4] at h10
  refine SchedR.close (v := .slice (some ⟨sb, o, none⟩) rs.length cap) (c := c) (ps := ps) (by rw [Hpl.out, List.length_set]) ?_
  rw [List.length_set]
  exact h10 |>.front 1 rfl |>.front 3 rfl |>.front 2 rfl |>.front 3 rfl
end Go.Proofs.YtfddmbafjniflaaGreatDoor
