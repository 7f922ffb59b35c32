/-
  slices.Sorted(maps.Keys(m)) of a map without entries.
-/
import Derived.Test.YtfddmbafjniflaaGreatDoorWords
import Derived.RangeFuncNested
import Derived.RangeFuncBound
import Derived.RangeFuncCalls
import Derived.RangeFuncLeaves
import Derived.OwnWalkIn
import Derived.TacticsInMore
import Derived.LoopNIn
import Derived.LoopIn
import Derived.CallsIn
import Derived.Shelf.Abstract
import Derived.Laws.IdiomRangeMap
import Derived.Test.YtfddmbafjniflaaGreatDoorNew1
import Derived.Deep.RegionHeld3
namespace Go.Proofs.YtfddmbafjniflaaGreatDoor
open Go Go.RowKit Go.Shelf
set_option maxRecDepth 100000 in
set_option maxHeartbeats 1000000 in
theorem keys_none (w : World) (l Bm b : Nat) (hm : w.cell? ⟨Bm, 0, none⟩ = some (.map (some b))) (hb : w.heap[b]? = some (.map #[] 0)) :
    Calls Tryz.prog 151 #[.func (.yield l) #[] #[], .pointer (some ⟨Bm, 0, none⟩)] w fun e w' => e = .returned (.tuple #[]) ∧ Below w.heap.size w w' := by
  have hr := run_range_map (P := Tryz.prog) w 191 _ _ b #[] 0 Tryz.underlying191 hb
  have hn : ∀ ty, (Instr.next (.pointer (some ⟨w.heap.size, 0, none⟩)) false ty).run Tryz.prog (w.alloc (.mapIter (some b) 0 #[] 0)) = .ok (.tuple #[.bool false]) (w.alloc (.mapIter (some b) 0 #[] 0)) := by
    intro ty
    rcases run_next_map (P := Tryz.prog) w ty b 0 0 #[] #[] 0 hb (by simp) (Nat.le_refl _) with ⟨_, h⟩ | ⟨e, he, _⟩
    · exact h
    · simp [leftOf] at he
  have hbl : Below w.heap.size w (w.alloc (.mapIter (some b) 0 #[] 0)) := Below.alloc (Below.refl _ _) (Nat.le_refl _) _
  have Hb := hid hbl
  clear hbl hb
  go_enter Tryz.func151, Tryz.ntmps151
  repeat' (first | go_values | go_skip | go_guarded | go_step | go_upon | dsimp only)
  refine wp_loop_rounds 1 ?_
  rw [rounds_succ]
  repeat' (first | go_values | go_skip | go_guarded | go_step | go_upon | dsimp only)
  go_end0
  exact ⟨rfl, Hb.out⟩
set_option maxRecDepth 100000 in
set_option maxHeartbeats 1000000 in
theorem len64_0 (w : World) : Calls Tryz.prog 294 #[.int .u64 0] w fun e w' => e = .returned (.int .i64 0) ∧ w' = w := by
  go_enter Tryz.func294, Tryz.ntmps294
  repeat' (first | go_values | go_skip | go_guarded | go_step | go_upon | dsimp only)
  go_ret
  exact ⟨by kernel_rfl, rfl⟩
set_option maxRecDepth 100000 in
set_option maxHeartbeats 1000000 in
theorem len_0 (w : World) : Calls Tryz.prog 229 #[.int .u64 0] w fun e w' => e = .returned (.int .i64 0) ∧ w' = w := by
  go_enter Tryz.func229, Tryz.ntmps229
  repeat' (first | (go_big_may; (first | (go_at_call 294; refine (len64_0 _).mono ?_; rintro e w1 ⟨rfl, rfl⟩))) | go_values | go_skip | go_guarded | go_step | go_upon | dsimp only)
  go_ret
  exact ⟨rfl, rfl⟩
set_option maxRecDepth 100000 in
set_option maxHeartbeats 1000000 in
theorem insertion_0 (w : World) : Calls Tryz.prog 284 #[.slice none 0 0, .int .i64 0, .int .i64 0] w fun e w' => e = .returned (.tuple #[]) ∧ w' = w := by
  go_enter Tryz.func284, Tryz.ntmps284
  repeat' (first | go_values | go_skip | go_guarded | go_step | go_upon | dsimp only)
  refine wp_loop_rounds 1 ?_
  rw [rounds_succ]
  repeat' (first | go_values | go_skip | go_guarded | go_step | go_upon | dsimp only)
  go_end0
  exact ⟨rfl, rfl⟩
set_option maxRecDepth 100000 in
set_option maxHeartbeats 1000000 in
theorem pdq_0 (w : World) : Calls Tryz.prog 228 #[.slice none 0 0, .int .i64 0, .int .i64 0, .int .i64 0] w fun e w' => e = .returned (.tuple #[]) ∧ w' = w := by
  go_enter Tryz.func228, Tryz.ntmps228
  repeat' (first | go_values | go_skip | go_guarded | go_step | go_upon | dsimp only)
  refine wp_loop_rounds 1 ?_
  rw [rounds_succ]
  repeat' (first | (go_big_may; (first | (go_at_call 284; refine (insertion_0 _).mono ?_; rintro e w1 ⟨rfl, rfl⟩))) | go_values | go_skip | go_guarded | go_step | go_upon | dsimp only)
  exact bodyPost_ret (results_none rfl _ _ _) rfl ⟨rfl, rfl⟩
set_option maxRecDepth 100000 in
set_option maxHeartbeats 1000000 in
theorem sort_0 (w : World) : Calls Tryz.prog 131 #[.slice none 0 0] w fun e w' => e = .returned (.tuple #[]) ∧ w' = w := by
  go_enter Tryz.func131, Tryz.ntmps131
  repeat' (first | (go_big_may; (first | (go_at_call 229; refine (len_0 _).mono ?_; rintro e w1 ⟨rfl, rfl⟩) | (go_at_call 228; refine (pdq_0 _).mono ?_; rintro e w1 ⟨rfl, rfl⟩))) | go_values | go_skip | go_guarded | go_step | go_upon | dsimp only)
  go_end0
  exact ⟨rfl, rfl⟩
theorem Sw.putObj {w : World} {b : Nat} {o o' : Obj} {l : List HP} (h : Sw w (pt b o :: l)) : Sw (w.putObj b o') (pt b o' :: l) :=
  Sw.update (w' := w.putObj b o') h rfl (World.putObj_heap_same h.lt) (fun _ hk _ hx => (World.putObj_heap_other hk).trans hx)
theorem rangeFunc_wide {P : Program} {n : Nat} {g : Operand} {ps : Array Tmp} {assign body : Code} {Q : Exit → Act → World → Prop} {a : Act} {w0 : World} {f : FuncId} {lb : Array Value}
    (hg : a.eval g = .func (.func f) #[] lb) (eg : ∀ args w, (callFunc f args).run P w = .ok (.enter f args) w)
    (hcall : ∀ lp : Loop, lp.state = .ready → lp.pending = none → CallsIn Fence.wide (n - 1) P f (#[.func (.yield (w0.heap.size + 1)) #[] #[]] ++ lb) ((w0.alloc (.deferred (some []))).alloc (.loop lp))
      (rangePost Fence.wide n P (w0.heap.size + 1) Q { a with defers := [{ target := .collected w0.heap.size, args := #[] }] ++ a.defers })) :
    (Code.rangeFunc g ps assign body).wpIn Fence.wide n P Q a w0 := by
  refine wpIn_rangeFunc ?_
  intro fn hfn
  have he := run_enterLoop_outer (P := P) (w := w0) fn a.tmps ps assign body
  have hc := hcall { state := .ready, pending := none, fn, tmps := a.tmps, params := ps, assign, body, defers := w0.heap.size } rfl rfl
  clear hcall
  revert he hc
  generalize (w0.alloc (.deferred (some []))).alloc (.loop { state := .ready, pending := none, fn, tmps := a.tmps, params := ps, assign, body, defers := w0.heap.size }) = W1
  intro he hc
  have h2 : (resolve a.eval (rangeCall g (w0.heap.size + 1)) 0).run P W1 = .ok { target := .fn (.func f) lb, args := #[.func (.yield (w0.heap.size + 1)) #[] #[]] } W1 := by
    clear he hc
    unfold resolve rangeCall
    dsimp only
    rw [hg]
    simp [go_sem, Deferred.ofValue]
  have h3 : (invoke (.fn (.func f) lb) #[.func (.yield (w0.heap.size + 1)) #[] #[]]).run P W1 = .ok (.enter f (#[.func (.yield (w0.heap.size + 1)) #[] #[]] ++ lb)) W1 := by
    clear he hc
    simp [invoke, eg, go_sem]
  refine ⟨w0.heap.size + 1, [{ target := .collected w0.heap.size, args := #[] }], W1, { target := .fn (.func f) lb, args := #[.func (.yield (w0.heap.size + 1)) #[] #[]] }, W1, f, #[.func (.yield (w0.heap.size + 1)) #[] #[]] ++ lb, W1, ?_, ?_, ?_, ?_, ?_, ?_⟩
  · exact he
  · exact h2
  · exact fun _ _ => trivial
  · exact h3
  · intro h
    exact absurd h (show ¬ (none : Option Nat).isSome = true from fun h => by cases h)
  · exact hc
theorem keys_enters : ∀ args w, (callFunc 151 args).run Tryz.prog w = .ok (.enter 151 args) w := enters_of Tryz.func151 (by kernel_rfl) rfl
set_option maxRecDepth 100000 in
set_option maxHeartbeats 2000000 in
theorem append_none (w : World) (Bm b : Nat) (hm : w.cell? ⟨Bm, 0, none⟩ = some (.map (some b))) (hb : w.heap[b]? = some (.map #[] 0)) :
    Calls Tryz.prog 240 #[.slice none 0 0, .func (.func 151) #[] #[.pointer (some ⟨Bm, 0, none⟩)]] w fun e w' => e = .returned (.slice none 0 0) ∧ Below w.heap.size w w' := by
  have hbm : Bm < w.heap.size := World.block_lt_of_cell? w _ hm
  have hbl : b < w.heap.size := (Array.getElem?_eq_some_iff.1 hb).1
  refine (callsIn_wide (n := 3)).1 ?_
  refine callsIn_of_wp_marks Tryz.func240 rfl trivial ?_ rfl
  simp only [Tryz.ntmps240, List.size_toArray, List.length_cons, List.length_nil, Nat.reduceAdd, Nat.reduceSub, Array.replicate_succ, Array.replicate_zero, List.push_toArray, List.append_toArray, List.nil_append, List.cons_append]
  gi_wp2
  refine rangeFunc_wide rfl keys_enters ?_
  intro lp hl1 hl2
  have h0 := (Sw.old w).allocc [.slice none 0 0] 36
  have h1 := (h0.alloc (.deferred (some []))).alloc (.loop lp)
  simp only [World.size_alloc] at h1 ⊢
  revert h1
  generalize World.alloc _ _ = W1
  intro h1
  have hB1 := (h1 |>.front 3 rfl).below
  refine callsIn_wide.2 ((keys_none W1 (w.heap.size + 1 + 1) Bm b ((hB1.cell (p := ⟨Bm, 0, none⟩) hbm).trans hm) ((hB1.block b hbl).trans hb)).mono ?_)
  rintro e W2 ⟨rfl, hB⟩
  have h2 := h1.of_below hB
  have hend := run_endLoop (P := Tryz.prog) h2.block (by rw [hl1]; decide)
  have h3 := h2.putObj (o' := .loop { lp with state := .exhausted })
  rw [hl2] at hend h3
  refine ⟨none, _, hend, ?_⟩
  revert h3
  generalize World.putObj _ _ _ = W3
  intro h3
  have hc3 := (h3 |>.front 2 rfl).cell 0 rfl
  have hK3 := (h3 |>.front 1 rfl).block
  have H3 := hid ((h3 |>.front 1 rfl).putObj (o' := .deferred none))
  have hK := hid hK3
  clear h0 h1 h2 h3 hB hB1 hend hm hb hK3
  gi_wp2
  refine ⟨by simp, .inl ⟨_, _, rfl, run_takeDeferred hK.out, ?_⟩⟩
  exact ⟨_, results_tmp rfl _ _ _, rfl, (H3.out |>.front 3 rfl).below⟩
set_option maxRecDepth 100000 in
set_option maxHeartbeats 1000000 in
theorem collect_none (w : World) (Bm b : Nat) (hm : w.cell? ⟨Bm, 0, none⟩ = some (.map (some b))) (hb : w.heap[b]? = some (.map #[] 0)) :
    Calls Tryz.prog 150 #[.func (.func 151) #[] #[.pointer (some ⟨Bm, 0, none⟩)]] w fun e w' => e = .returned (.slice none 0 0) ∧ Below w.heap.size w w' := by
  have ha := hid (append_none w Bm b hm hb)
  clear hm hb
  go_enter Tryz.func150, Tryz.ntmps150
  repeat' (first | (go_big_may; (first | (go_at_call 240; refine ha.out.mono ?_; rintro e w1 ⟨rfl, hb⟩; have Hb := hid hb; clear hb))) | go_values | go_skip | go_guarded | go_step | go_upon | dsimp only)
  go_ret
  exact ⟨rfl, Hb.out⟩
set_option maxRecDepth 100000 in
set_option maxHeartbeats 1000000 in
theorem sorted_none (w : World) (Bm b : Nat) (hm : w.cell? ⟨Bm, 0, none⟩ = some (.map (some b))) (hb : w.heap[b]? = some (.map #[] 0)) :
    Calls Tryz.prog 93 #[.func (.func 151) #[] #[.pointer (some ⟨Bm, 0, none⟩)]] w fun e w' => e = .returned (.slice none 0 0) ∧ Below w.heap.size w w' := by
  have ha := hid (collect_none w Bm b hm hb)
  clear hm hb
  go_enter Tryz.func93, Tryz.ntmps93
  repeat' (first | (go_big_may; (first | (go_at_call 150; refine ha.out.mono ?_; rintro e w1 ⟨rfl, hb⟩; have Hb := hid hb; clear hb) | (go_at_call 131; refine (sort_0 _).mono ?_; rintro e w2 ⟨rfl, rfl⟩))) | go_values | go_skip | go_guarded | go_step | go_upon | dsimp only)
  go_ret
  exact ⟨rfl, Hb.out⟩
set_option maxRecDepth 100000 in
set_option maxHeartbeats 1000000 in
theorem keys_of (w : World) (b : Nat) : Calls Tryz.prog 94 #[.map (some b)] w fun e w' => e = .returned (.func (.func 151) #[] #[.pointer (some ⟨w.heap.size, 0, none⟩)]) ∧ w' = w.alloc (.cells #[.map (some b)] 191) := by
  go_enter Tryz.func94, Tryz.ntmps94
  repeat' (first | go_values | go_skip | go_guarded | go_step | go_upon | dsimp only)
  go_ret
  exact ⟨rfl, rfl⟩
end Go.Proofs.YtfddmbafjniflaaGreatDoor
/-
  Package machine: what a first machine tells: Freed, Steps, Goal, Where, Objects.
-/
namespace Go.Proofs.YtfddmbafjniflaaGreatDoor
open Go Go.RowKit
theorem Src.after_alloc {w : World} {sz m : Nat} {x : Value} {news : List Value} (h : Src w sz x m news) (o : Obj) : Src (w.alloc o) sz x m news := by
  refine ⟨h.len, h.one, ?_⟩
  rcases h.at_ with h1 | ⟨ad, c, rfl, hc⟩
  · exact .inl h1
  · exact .inr ⟨ad, c, rfl, fun j u hu => by
      have hc1 := hc j u hu
      have hb : (ad.add j).block < w.heap.size := World.block_lt_of_cell? w _ hc1
      exact (Below.cell (Below.alloc (Below.refl w.heap.size w) (Nat.le_refl _) o) hb).trans hc1⟩
set_option maxRecDepth 100000 in
set_option maxHeartbeats 1000000 in
theorem clone_nil (w : World) : Calls Tryz.prog 39 #[.slice none 0 0] w fun e w' => e = .returned (.slice none 0 0) ∧ w' = w := by
  have q := ints_nil 0 0
  go_enter Tryz.func39, Tryz.ntmps39
  repeat' (first | go_values | go_skip | go_guarded | go_step | go_upon | dsimp only)
  go_ret
  exact ⟨rfl, rfl⟩
set_option maxRecDepth 100000 in
set_option maxHeartbeats 1000000 in
theorem clone_src (w : World) (R : List HP) (ad : Addr) (n cap : Nat) (xs : List Value) (hn : n ≤ 16777216) (hsrc : Src w 1 (.slice (some ad) n cap) n xs) (hS : Sw w R) :
    Calls Tryz.prog 39 #[.slice (some ad) n cap] w fun e w' => ∃ v', e = .returned v' ∧ Sw w' (sl 3 1 v' n xs :: R) := by
  have H := hid hS
  have Hs := hid hsrc
  clear hS hsrc
  have q := ints_not_nil ad n cap
  go_enter Tryz.func39, Tryz.ntmps39
  repeat' (first | (go_big_may; (first | (at_builtin; refine append_ints rfl (.tmp 5) (.tmp 6) rfl _ 0 [] _ rfl ((H.out.after_alloc _).sl_nil _) _ n xs rfl (Hs.out.after_alloc _) (by omega) ?_; intro v1 w1 hS1; rw [Nat.zero_add, List.nil_append] at hS1; have H1 := hid hS1; clear hS1))) | go_values | go_skip | go_guarded | go_step | go_upon | dsimp only)
  go_ret
  exact ⟨_, rfl, H1.out⟩
set_option maxRecDepth 100000 in
set_option maxHeartbeats 1000000 in
theorem machine_freed (w : World) (m : Nat) (c : w.cell? ⟨m, 25, none⟩ = some (.slice none 0 0)) : Calls Tryz.prog 13 #[ptr m] w fun e w' => e = .returned (.slice none 0 0) ∧ w' = w := by
  go_enter Tryz.func13, Tryz.ntmps13
  repeat' (first | (go_big_may; (first | (go_at_call 39; refine (clone_nil _).mono ?_; rintro e w1 ⟨rfl, rfl⟩))) | go_values | go_skip | go_guarded | go_step | go_upon | dsimp only)
  go_ret
  exact ⟨rfl, rfl⟩
set_option maxRecDepth 100000 in
set_option maxHeartbeats 1000000 in
theorem machine_steps (w : World) (m : Nat) (v : Value) (c : w.cell? ⟨m, 26, none⟩ = some v) : Calls Tryz.prog 15 #[ptr m] w fun e w' => e = .returned v ∧ w' = w := by
  go_enter Tryz.func15, Tryz.ntmps15
  repeat' (first | go_values | go_skip | go_guarded | go_step | go_upon | dsimp only)
  go_ret
  exact ⟨rfl, rfl⟩
set_option maxRecDepth 100000 in
set_option maxHeartbeats 1000000 in
theorem machine_goal (w : World) (m x0 x1 x2 : Nat) (c0 : w.cell? ⟨m, 19, none⟩ = some (num x0)) (c1 : w.cell? ⟨m, 20, none⟩ = some (num x1)) (c2 : w.cell? ⟨m, 21, none⟩ = some (num x2)) :
    Calls Tryz.prog 18 #[ptr m] w fun e w' => e = .returned (.agg #[num x0, num x1, num x2]) ∧ Below w.heap.size w w' := by
  have hlt := World.block_lt_of_cell? w _ c0
  go_enter Tryz.func18, Tryz.ntmps18
  repeat' (first | go_values | go_skip | go_guarded | go_step | go_upon | dsimp only)
  exact bodyPost_ret (results_cell_row rfl _ _ w.heap.size 66 #[num x0, num x1, num x2] (0, 0) _ rfl (heap_alloc_new w _) Tryz.underlying66 rfl (by kernel_rfl)) rfl ⟨rfl, Below.alloc (Below.refl _ _) (Nat.le_refl _) _⟩
set_option maxRecDepth 100000 in
set_option maxHeartbeats 1000000 in
theorem index_first (w : World) (b o n cap : Nat) (hn : 0 < n) (hm : n ≤ 1024) (c0 : w.cell? ⟨b, o, none⟩ = some (num 0)) : Calls Tryz.prog 148 #[.slice (some ⟨b, o, none⟩) n cap, .int .i64 0] w fun e w' => e = .returned (.int .i64 0) ∧ w' = w := by
  have i1 : (0 : Int) < n := by omega
  clear hn
  go_enter Tryz.func148, Tryz.ntmps148
  repeat' (first | go_values | go_skip | go_guarded | go_step | go_upon | dsimp only)
  refine wp_loop_rounds 1 ?_
  rw [rounds_succ]
  repeat' (first | go_values | go_skip | go_guarded | go_step | go_upon | dsimp only)
  go_ret
  exact ⟨rfl, rfl⟩
set_option maxRecDepth 100000 in
set_option maxHeartbeats 1000000 in
theorem contains_first (w : World) (b o n cap : Nat) (hn : 0 < n) (hm : n ≤ 1024) (c0 : w.cell? ⟨b, o, none⟩ = some (num 0)) : Calls Tryz.prog 90 #[.slice (some ⟨b, o, none⟩) n cap, .int .i64 0] w fun e w' => e = .returned (.bool true) ∧ w' = w := by
  have hi := hid (index_first w b o n cap hn hm c0)
  clear hn hm c0
  go_enter Tryz.func90, Tryz.ntmps90
  repeat' (first | (go_big_may; (first | (go_at_call 148; refine hi.out.mono ?_; rintro e w1 ⟨rfl, rfl⟩))) | go_values | go_skip | go_guarded | go_step | go_upon | dsimp only)
  go_ret
  exact ⟨rfl, rfl⟩
set_option maxRecDepth 100000 in
set_option maxHeartbeats 1000000 in
theorem where_first (w : World) (R : List HP) (b : Nat) (rs : List (List Nat)) (cm : List Nat) (hp : rs[0]? = some [0]) (hn : rs.length ≤ 64) (hS : Sw w (SchedR b rs cm :: R)) :
    Calls Tryz.prog 41 #[ptr b, .int .i64 0] w fun e w' => e = .returned (.tuple #[.int .i64 0, .bool true]) ∧ Sw w' (SchedR b rs cm :: R) := by
  obtain ⟨hlt, hq⟩ := List.getElem?_eq_some_iff.1 hp
  obtain ⟨v, ps, c, hpl, h⟩ := SchedR.open_ hS
  obtain ⟨r, hr⟩ : ∃ r, ps[0]? = some r := ⟨_, List.getElem?_eq_getElem (by omega)⟩
  have hf := rings_front hr hp (h.front 3 rfl)
  have hall := ring_all w _ r [0] hf
  obtain ⟨sb, o, cap, cs, rfl, _, _, _, _, h2, hc⟩ := sl_row h.tail (by omega)
  have c0 := h.cell 0 rfl
  have c1 : w.cell? ⟨sb, o, none⟩ = some (ptr r) := by have := h2.cell (o + 0) (v := ptr r) (by rw [hc 0 hlt]; simp [hr]); simpa using this
  have i1 : (0 : Int) < rs.length := by omega
  have Hall := hid hall
  have Hp := hid hp
  have Hr := hid hr
  have Hpl := hid hpl
  clear hS h hf hall h2 hc hq hp hr
  go_enter Tryz.func41, Tryz.ntmps41
  repeat' (first | go_values | go_skip | go_guarded | go_step | go_upon | dsimp only)
  refine wp_loop_rounds 1 ?_
  rw [rounds_succ]
  repeat' (first | (go_big_may; (first | (go_at_call 91; refine Hall.out.mono ?_; rintro e w1 ⟨v1, rfl, h1⟩; obtain ⟨vb, vo, vcap, vcs, rfl, _, _, _, _, h1r, hvc⟩ := sl_row h1 (by simp); have hc0 : w1.cell? ⟨vb, vo, none⟩ = some (num 0) := h1r.cell vo (by have := hvc 0 (by simp); simpa using this); have H1 := hid h1.tail; have Hk := hid (contains_first w1 vb vo [0].length vcap (by simp) (by simp) hc0); clear h1 h1r hvc hc0) | (go_at_call 90; refine Hk.out.mono ?_; rintro e w2 ⟨rfl, rfl⟩))) | go_values | go_skip | go_guarded | go_step | go_upon | dsimp only)
  go_ret2
  refine ⟨rfl, ?_⟩
  have h4 := rings_back Hr.out hlt (H1.out |>.front 4 rfl |>.front 4 rfl |>.front 4 rfl |>.front 4 rfl |>.front 4 rfl)
  rw [set_same Hp.out] at h4
  exact SchedR.close Hpl.out (h4 |>.front 3 rfl |>.front 3 rfl |>.front 3 rfl)
set_option maxRecDepth 100000 in
set_option maxHeartbeats 1000000 in
theorem objects_none (w : World) (R : List HP) (a b : Nat) (c : List Value) (h3 : c[3]? = some (.map (some b))) (hS : Sw w (ptc a c 196 :: pt b (.map #[] 0) :: R)) :
    Calls Tryz.prog 43 #[ptr a] w fun e w' => e = .returned (.slice none 0 0) ∧ Below w.heap.size w w' := by
  have c3 := hS.cell 3 h3
  have ho := (Sw.old w).allocc [.map (some b)] 191
  have hb := hS.allocc [.map (some b)] 191
  have hk := hid (sorted_none (w.alloc (.cells #[.map (some b)] 191)) w.heap.size b (hb.cell 0 rfl) ((hb |>.front 2 rfl).block))
  have Ho := hid ho
  clear hS ho hb
  go_enter Tryz.func43, Tryz.ntmps43
  repeat' (first | (go_big_may; (first | (go_at_call 94; refine (keys_of w b).mono ?_; rintro e w1 ⟨rfl, rfl⟩) | (go_at_call 93; refine hk.out.mono ?_; rintro e w2 ⟨rfl, hb⟩; have H2 := hid (Ho.out.of_below hb); clear hb))) | go_values | go_skip | go_guarded | go_step | go_upon | dsimp only)
  go_ret
  exact ⟨rfl, H2.out.tail.below⟩
end Go.Proofs.YtfddmbafjniflaaGreatDoor
/-
  Package machine: View of a first machine.
-/
namespace Go.Proofs.YtfddmbafjniflaaGreatDoor
open Go Go.RowKit
def zs (n : Nat) : List Value := List.replicate n (.int .i64 0)
theorem zs_one (n : Nat) : ∀ u ∈ zs n, u.oneCell' = true := by
  intro u hu
  rw [List.eq_of_mem_replicate hu]; rfl
theorem gor_one (a : Option Addr) (c : Nat) : ∀ u ∈ ([.int .i64 1, .int .i64 0, .slice a 16 c] : List Value), u.oneCell' = true := by
  intro u hu
  simp at hu
  rcases hu with rfl | rfl | rfl <;> rfl
theorem info_gor : (Tryz.prog.info? 60).map (fun i => (i.zero, i.size, i.bytes)) = some (some (.agg #[.int .i64 0, .int .i64 0, .slice none 0 0]), 3, 40) := by kernel_rfl
theorem append_gors {ops : Array Oper} {rest : List Oper} {o : Oper} {a : Act} {Q : Exit → Act → World → Prop} {w : World} (hgd : o.guard = none) (s x : Operand)
    (ho : o.op = .call { callee := .builtin .append, args := #[s, x], argTypes := #[37, 37] })
    (v : Value) (n : Nat) (xs : List Value) (R : List HP) (hs : a.eval s = v) (hS : Sw w (sl 60 3 v n xs :: R))
    (xv : Value) (m : Nat) (news : List Value) (hx : a.eval x = xv) (hsrc : Src w 3 xv m news) (hn : n + m ≤ 16777216)
    (h : ∀ v' w', Sw w' (sl 60 3 v' (n + m) (xs ++ news) :: R) → wpList Tryz.prog ops Q rest (a.put o.dst v') w') : wpList Tryz.prog ops Q (o :: rest) a w := by
  obtain ⟨i0, hi, hz0, hz1, hz2⟩ := info_parts info_gor
  exact wpList_append_sl hgd s x 37 ho 60 i0 _ 3 40 Tryz.underlying37 hi hz0 hz1 hz2 rfl v n xs R hs hS xv m news hx hsrc (by simp only [maxLen]; omega) (by omega) h
theorem Src.freshNn {w : World} {n : Nat} (cs : List Value) (T : TypeId) (h : ∀ u ∈ cs, u.oneCell' = true) (hn : w.heap.size = n) : Src (w.alloc (.cells cs.toArray T)) cs.length (.slice (some ⟨n, 0, none⟩) 1 1) 1 cs := by
  subst hn; exact Src.freshN w cs T h
theorem gor_stack (j : Nat) (u : Value) (h : (zs 16)[j]? = some u) : (gorC 0 0 0 (stack0 (num 0)) 0 0)[3 + j]? = some u := by
  have hj : j < 16 := by
    have := (List.getElem?_eq_some_iff.1 h).1
    simpa [zs] using this
  obtain rfl | rfl | rfl | rfl | rfl | rfl | rfl | rfl | rfl | rfl | rfl | rfl | rfl | rfl | rfl | rfl : j = 0 ∨ j = 1 ∨ j = 2 ∨ j = 3 ∨ j = 4 ∨ j = 5 ∨ j = 6 ∨ j = 7 ∨ j = 8 ∨ j = 9 ∨ j = 10 ∨ j = 11 ∨ j = 12 ∨ j = 13 ∨ j = 14 ∨ j = 15 := by omega
  all_goals exact h
theorem stack_src {w : World} {R : List HP} {gg : Nat} (h : Sw w (ptc gg (gorC 0 0 0 (stack0 (num 0)) 0 0) 120 :: R)) : Src w 1 (.slice (some ⟨gg, 3, none⟩) 16 16) 16 (zs 16) :=
  ⟨rfl, zs_one 16, .inr ⟨⟨gg, 3, none⟩, 16, rfl, fun j u hu => by rw [Addr.add_mk]; exact h.cell (3 + j) (gor_stack j u hu)⟩⟩
set_option maxRecDepth 100000 in
set_option maxHeartbeats 8000000 in
theorem view_first (w : World) (R : List HP) (m g wd : Nat) (fv : Value) (N : Int) (on : Bool) (part h st : Nat) (gv pv : Value) (sc t wt gb ph : Nat) (tr gl ra : Value) (gg a0 b c0 : Nat) (rs : List (List Nat)) (said : List Bool) (v0 p0 q1 q2 : Value)
    (hg : g ≤ 32) (hp : rs[0]? = some [0]) (hrs : rs.length ≤ 64)
    (hS : Sw w (ptc m (mG g fv wd N on part (ptr h) (ptr st) gv pv (ptr sc) (ptr t) (ptr wt) (.slice (some ⟨gb, 0, none⟩) g g) (ptr ph) tr gl ra) 93 ::
      StatesR st [1] :: sl 116 1 gv 1 [ptr gg] :: ptc gg (gorC 0 0 0 (stack0 (num 0)) 0 0) 120 :: SchedR sc rs [] :: PhaseR ph 0 0 said 0 0 ::
        sl 3 1 (.slice (some ⟨gb, 0, none⟩) g g) g (zs g) :: ptc h [ptr a0, ptr c0, v0] 158 :: ptc a0 [p0, q1, q2, .map (some b), num 0] 196 :: pt b (.map #[] 0) :: R)) :
    Calls Tryz.prog 8 #[ptr m] w fun e w' => ∃ g1 gs s1, e = .returned (.agg #[num 0, num 0, num 0, g1, gs, .slice none 0 0, num 0, num 0, num 0]) ∧
      Sw w' (sl 3 1 g1 g (zs g) :: sl 60 3 gs 1 [num 1, num 0, s1] :: sl 3 1 s1 16 (zs 16) ::
        ptc m (mG g fv wd N on part (ptr h) (ptr st) gv pv (ptr sc) (ptr t) (ptr wt) (.slice (some ⟨gb, 0, none⟩) g g) (ptr ph) tr gl ra) 93 ::
        StatesR st [1] :: sl 116 1 gv 1 [ptr gg] :: ptc gg (gorC 0 0 0 (stack0 (num 0)) 0 0) 120 :: SchedR sc rs [] :: PhaseR ph 0 0 said 0 0 ::
        sl 3 1 (.slice (some ⟨gb, 0, none⟩) g g) g (zs g) :: ptc h [ptr a0, ptr c0, v0] 158 :: ptc a0 [p0, q1, q2, .map (some b), num 0] 196 :: pt b (.map #[] 0) :: R) := by
  -- 0 m, 1 St, 2 slgs, 3 gg, 4 Sched, 5 Phase, 6 sl glob, 7 h, 8 a0, 9 pt b, R
  have hS1 := hS |>.front 5 rfl
  simp only [List.eraseIdx_cons_zero, List.eraseIdx_cons_succ] at hS1
  obtain ⟨pvv, hS1⟩ := PhaseR.open_ hS1
  -- 0 ph, 1 sl, 2 m, ...
  have h0 := hS1.allocc [.int .i64 0, .int .i64 0, .int .i64 0, .slice none 0 0, .slice none 0 0, .slice none 0 0, .int .i64 0, .int .i64 0, .int .i64 0] 40
  have h0 := h0 |>.front 8 rfl |>.front 4 rfl |>.front 3 rfl
  simp only [List.eraseIdx_cons_zero, List.eraseIdx_cons_succ] at h0
  have Hg := hid hg
  have Hp := hid hp
  have Hrs := hid hrs
  have H0 := hid h0
  clear h0 hS hS1 hg hp hrs
  have SV := hid (show ∀ (w' : World) (R' : List HP), Sw w' (ptc ph (phaseC 0 0 pvv 0 0) 167 :: ptc m (mG g fv wd N on part (ptr h) (ptr st) gv pv (ptr sc) (ptr t) (ptr wt) (.slice (some ⟨gb, 0, none⟩) g g) (ptr ph) tr gl ra) 93 :: R') → w'.cell? ⟨m, 15, none⟩ = some (ptr ph) ∧ w'.cell? ⟨m, 14, none⟩ = some (num 0) ∧ w'.cell? ⟨m, 13, none⟩ = some (.slice (some ⟨gb, 0, none⟩) g g) from
    fun w' R' h => ⟨(h |>.front 1 rfl).cell 15 rfl, (h |>.front 1 rfl).cell 14 rfl, (h |>.front 1 rfl).cell 13 rfl⟩)
  go_enter Tryz.func8, Tryz.ntmps8
  repeat' (first | go_values | go_skip | go_guarded | go_step | go_upon | dsimp only)
  revert H0
  generalize hn0 : w.heap.size = n0
  generalize World.alloc _ _ = w1
  intro H0
  go_cut [3] from 15 to 35 (fun v3 wx => ∃ n3 g1, v3 = .pointer (some ⟨n3, 0, none⟩) ∧ Sw wx (ptc n3 [num 0, num 0, num 0, g1, .slice none 0 0, .slice none 0 0, .int .i64 0, .int .i64 0, .int .i64 0] 40 :: sl 3 1 g1 g (zs g) :: ptc ph (phaseC 0 0 pvv 0 0) 167 :: ptc m (mG g fv wd N on part (ptr h) (ptr st) gv pv (ptr sc) (ptr t) (ptr wt) (.slice (some ⟨gb, 0, none⟩) g g) (ptr ph) tr gl ra) 93 :: sl 3 1 (.slice (some ⟨gb, 0, none⟩) g g) g (zs g) :: ptc n0 [.int .i64 0, .int .i64 0, .int .i64 0, .slice none 0 0, .slice none 0 0, .slice none 0 0, .int .i64 0, .int .i64 0, .int .i64 0] 40 :: sl 4 1 pvv said.length (said.map .bool) :: StatesR st [1] :: sl 116 1 gv 1 [ptr gg] :: ptc gg (gorC 0 0 0 (stack0 (num 0)) 0 0) 120 :: SchedR sc rs [] :: ptc h [ptr a0, ptr c0, v0] 158 :: ptc a0 [p0, q1, q2, .map (some b), num 0] 196 :: pt b (.map #[] 0) :: R))
  case first =>
    have HA := hid (Sw.drew H0.out)
    have hB := HA.out.allocc [.int .i64 0, .int .i64 0, .int .i64 0, .slice none 0 0, .slice none 0 0, .slice none 0 0, .int .i64 0, .int .i64 0, .int .i64 0] 40
    have hB := (show Sw _ (ptc w1.heap.size _ _ :: _) from hB) |>.front 3 rfl |>.front 3 rfl |>.front 3 rfl
    simp only [List.eraseIdx_cons_zero, List.eraseIdx_cons_succ] at hB
    have HB := hid hB
    have CF := hid (SV.out ((w1.alloc (.cells #[.int .i64 0, .int .i64 0, .int .i64 0, .slice none 0 0, .slice none 0 0, .slice none 0 0, .int .i64 0, .int .i64 0, .int .i64 0] 40)).drew) _ hB)
    clear hB
    have CA := hid (SV.out _ _ HA.out)
    have CB := hid (SV.out _ _ HB.out)
    have PA := hid (HA.out.cell 0 rfl)
    have PB := hid (HB.out.cell 0 rfl)
    have QA := hid (HA.out.cell 1 rfl)
    have QB := hid (HB.out.cell 1 rfl)
    have KA := hid (clone_src _ _ ⟨gb, 0, none⟩ g g (zs g) (by have := Hg.out; omega) (Src.of_sl (HA.out |>.front 2 rfl) (zs_one g)) HA.out)
    have KB := hid (clone_src _ _ ⟨gb, 0, none⟩ g g (zs g) (by have := Hg.out; omega) (Src.of_sl (HB.out |>.front 2 rfl) (zs_one g)) HB.out)
    have lm := HA.out.lt'
    go_region_held3 (fun w' => w'.cell? ⟨m, 15, none⟩ = some (ptr ph) ∧ w'.cell? ⟨m, 14, none⟩ = some (num 0) ∧ w'.cell? ⟨m, 13, none⟩ = some (.slice (some ⟨gb, 0, none⟩) g g)) (first | with_reducible exact CE.out | with_reducible exact CC.out | with_reducible exact CD.out | with_reducible exact CA.out | with_reducible exact CB.out | with_reducible exact CF.out) (first | (go_at_call 37; first | (refine (phase_phase _ ph 0 PA.out).mono ?_; rintro e w2 ⟨rfl, rfl⟩) | (refine (phase_phase _ ph 0 PB.out).mono ?_; rintro e w2 ⟨rfl, rfl⟩)) | (go_at_call 38; first | (refine (phase_cycle _ ph 0 QA.out).mono ?_; rintro e w2 ⟨rfl, rfl⟩) | (refine (phase_cycle _ ph 0 QB.out).mono ?_; rintro e w2 ⟨rfl, rfl⟩)) | (go_at_call 39; first | (refine KA.out.mono ?_; rintro e wc ⟨g1, rfl, k1⟩; obtain ⟨ga, gcap, rfl⟩ := k1.sl_val; have k2 := k1.allocc [.int .i64 0, .int .i64 0, .int .i64 0, .slice none 0 0, .slice none 0 0, .slice none 0 0, .int .i64 0, .int .i64 0, .int .i64 0] 40; have CC := hid (SV.out _ _ (k1 |>.front 2 rfl |>.front 2 rfl)); have CD := hid (SV.out _ _ (k2 |>.front 3 rfl |>.front 3 rfl)); have k3 := k1.allocc [.int .i64 0, .int .i64 0, .int .i64 0, .slice ga g gcap, .slice none 0 0, .slice none 0 0, .int .i64 0, .int .i64 0, .int .i64 0] 40; have CE := hid (SV.out _ _ (k3 |>.front 3 rfl |>.front 3 rfl)); have K3 := hid k3; clear k3; have K1 := hid k1; clear k1 k2) | (refine KB.out.mono ?_; rintro e wc ⟨g1, rfl, k1⟩; obtain ⟨ga, gcap, rfl⟩ := k1.sl_val; have CC := hid (SV.out _ _ (k1 |>.front 2 rfl |>.front 2 rfl)); have k2 := k1 |>.front 4 rfl; have x0 := k2.cell 0 rfl; have y0 := k2.frozen 0; have x1 := k2.cell 1 rfl; have y1 := k2.frozen 1; have x2 := k2.cell 2 rfl; have y2 := k2.frozen 2; have x3 := k2.cell 3 rfl; have y3 := k2.frozen 3; have x4 := k2.cell 4 rfl; have y4 := k2.frozen 4; have x5 := k2.cell 5 rfl; have y5 := k2.frozen 5; have x6 := k2.cell 6 rfl; have y6 := k2.frozen 6; have x7 := k2.cell 7 rfl; have y7 := k2.frozen 7; have x8 := k2.cell 8 rfl; have y8 := k2.frozen 8; have k3 := (((((((((k2.set 0 (.int .i64 0)).set 1 (.int .i64 0)).set 2 (.int .i64 0)).set 3 (.slice ga g gcap)).set 4 (.slice none 0 0)).set 5 (.slice none 0 0)).set 6 (.int .i64 0)).set 7 (.int .i64 0)).set 8 (.int .i64 0)); have CE := hid (SV.out _ _ (k3 |>.front 3 rfl |>.front 3 rfl)); have K3 := hid k3; clear k1 k2 k3)))
    all_goals (go_wp2_with fail; go_meet; exact ⟨_, _, rfl, K3.out⟩)
  case rest =>
    obtain ⟨n3, g1, rfl, hI⟩ := hcut
    clear H0 SV
    -- 0 n3, 1 g1, 2 ph, 3 m, 4 glob, 5 n0, 6 said, 7 St, 8 slgs, 9 gg, 10 Sched, 11 h, 12 a0, 13 ptb
    have hI := hI |>.front 8 rfl
    simp only [List.eraseIdx_cons_zero, List.eraseIdx_cons_succ] at hI
    obtain ⟨gvb, gvo, gvc, gvs, rfl, l1, l2, l3, l4, hI, hgv⟩ := sl_row hI (by omega)
    have hgv0 : gvs[gvo]? = some (ptr gg) := by have := hgv 0 (by omega); simpa using this
    have Hl := hid (And.intro l1 (And.intro l2 (And.intro l3 l4)))
    have hI := hI |>.front 13 rfl |>.front 13 rfl |>.front 13 rfl |>.front 13 rfl |>.front 12 rfl |>.front 5 rfl |>.front 11 rfl |>.front 7 rfl |>.front 13 rfl |>.front 11 rfl
    simp only [List.eraseIdx_cons_zero, List.eraseIdx_cons_succ] at hI
    have c8 := hI.cell 8 rfl
    have r0 := (hI |>.front 4 rfl).cell gvo hgv0
    have HI := hid hI
    have Hgv0 := hid hgv0
    clear hI hgv0 hgv l1 l2 l3 l4
    repeat' (first | go_values | go_skip | go_guarded | go_step | go_upon | dsimp only)
    refine wp_loop_rounds 2 ?_
    rw [rounds_succ]
    repeat' (first | go_values | go_skip | go_guarded | go_step | go_upon | dsimp only)
    clear c8 r0
    go_cut [6] from 45 to 57 (fun v6 wx => ∃ n6 s1, v6 = .pointer (some ⟨n6, 0, none⟩) ∧ Sw wx (ptc n6 [.int .i64 1, .int .i64 (-1), s1] 60 :: sl 3 1 s1 16 (zs 16) :: ptc m (mG g fv wd N on part (ptr h) (ptr st) (.slice (some ⟨gvb, gvo, none⟩) 1 gvc) pv (ptr sc) (ptr t) (ptr wt) (.slice (some ⟨gb, 0, none⟩) g g) (ptr ph) tr gl ra) 93 :: ptc gg (gorC 0 0 0 (stack0 (num 0)) 0 0) 120 :: ptc n3 [num 0, num 0, num 0, g1, .slice none 0 0, .slice none 0 0, .int .i64 0, .int .i64 0, .int .i64 0] 40 :: ptc n0 [.int .i64 0, .int .i64 0, .int .i64 0, .slice none 0 0, .slice none 0 0, .slice none 0 0, .int .i64 0, .int .i64 0, .int .i64 0] 40 :: ptc gvb gvs 116 :: StatesR st [1] :: SchedR sc rs [] :: ptc h [ptr a0, ptr c0, v0] 158 :: ptc a0 [p0, q1, q2, .map (some b), num 0] 196 :: pt b (.map #[] 0) :: sl 3 1 g1 g (zs g) :: ptc ph (phaseC 0 0 pvv 0 0) 167 :: sl 3 1 (.slice (some ⟨gb, 0, none⟩) g g) g (zs g) :: sl 4 1 pvv said.length (said.map .bool) :: R))
    case first =>
      have SV := hid (show ∀ (w' : World) (R' : List HP), Sw w' (ptc m (mG g fv wd N on part (ptr h) (ptr st) (.slice (some ⟨gvb, gvo, none⟩) 1 gvc) pv (ptr sc) (ptr t) (ptr wt) (.slice (some ⟨gb, 0, none⟩) g g) (ptr ph) tr gl ra) 93 :: R') → w'.cell? ⟨m, 7, none⟩ = some (ptr st) from fun w' R' h => h.cell 7 rfl)
      have HA := hid (Sw.drew HI.out)
      have hB := HA.out.allocc [.int .i64 0, .int .i64 0, .slice none 0 0] 60
      have hB := (show Sw _ (ptc wc.heap.size _ _ :: _) from hB) |>.front 2 rfl |>.front 2 rfl
      simp only [List.eraseIdx_cons_zero, List.eraseIdx_cons_succ] at hB
      have HB := hid hB
      have CF := hid (SV.out ((wc.alloc (.cells #[.int .i64 0, .int .i64 0, .slice none 0 0] 60)).drew) _ hB)
      clear hB
      have CA := hid (SV.out _ _ HA.out)
      have OA := hid (states_of _ _ st [1] 0 1 (by decide) rfl (by decide) (HA.out |>.front 5 rfl))
      have OB := hid (states_of _ _ st [1] 0 1 (by decide) rfl (by decide) (HB.out |>.front 6 rfl))
      have KA := hid (clone_src _ _ ⟨gg, 3, none⟩ 16 16 (zs 16) (by omega) (stack_src (HA.out |>.front 1 rfl)) HA.out)
      have KB := hid (clone_src _ _ ⟨gg, 3, none⟩ 16 16 (zs 16) (by omega) (stack_src (HB.out |>.front 1 rfl)) HB.out)
      go_region_held3 (fun w' => w'.cell? ⟨m, 7, none⟩ = some (ptr st)) (first | with_reducible exact CE.out | with_reducible exact CC.out | with_reducible exact CD.out | with_reducible exact CA.out | with_reducible exact CF.out) (first | (go_at_call 40; first | (refine OA.out.mono ?_; rintro e w2 ⟨rfl, rfl⟩; unfold nint) | (refine OB.out.mono ?_; rintro e w2 ⟨rfl, rfl⟩; unfold nint)) | (go_at_call 39; first | (refine KA.out.mono ?_; rintro e wd2 ⟨s1, rfl, k1⟩; obtain ⟨sa, scap, rfl⟩ := k1.sl_val; have CC := hid (SV.out _ _ (k1 |>.front 1 rfl)); have k2 := k1.allocc [.int .i64 0, .int .i64 0, .slice none 0 0] 60; have CD := hid (SV.out _ _ (k2 |>.front 2 rfl)); have k3 := k1.allocc [.int .i64 1, .int .i64 (-1), .slice sa 16 scap] 60; have CE := hid (SV.out _ _ (k3 |>.front 2 rfl)); have K3 := hid k3; clear k1 k2 k3) | (refine KB.out.mono ?_; rintro e wd2 ⟨s1, rfl, k1⟩; obtain ⟨sa, scap, rfl⟩ := k1.sl_val; have CC := hid (SV.out _ _ (k1 |>.front 1 rfl)); have k2 := k1 |>.front 3 rfl; have x0 := k2.cell 0 rfl; have y0 := k2.frozen 0; have x1 := k2.cell 1 rfl; have y1 := k2.frozen 1; have x2 := k2.cell 2 rfl; have y2 := k2.frozen 2; have k3 := ((k2.set 0 (.int .i64 1)).set 1 (.int .i64 (-1))).set 2 (.slice sa 16 scap); have CE := hid (SV.out _ _ (k3 |>.front 2 rfl)); have K3 := hid k3; clear k1 k2 k3)))
      all_goals (go_wp2_with fail; go_meet; exact ⟨_, _, rfl, K3.out⟩)
    case rest =>
      obtain ⟨n6, s1, rfl, hJ⟩ := hcut
      obtain ⟨sa, scap, rfl⟩ := (hJ |>.front 1 rfl).sl_val
      obtain ⟨g1a, g1c, rfl⟩ := (hJ |>.front 12 rfl).sl_val
      clear HI
      have e0 := hJ.cell 0 rfl
      have d10 := (hJ |>.front 2 rfl).cell 10 rfl
      have Hw := hid (where_first _ _ sc rs [] Hp.out Hrs.out (hJ |>.front 8 rfl))
      clear hJ
      repeat' (first | (go_big_may; (first | (go_at_call 41; refine Hw.out.mono ?_; rintro e w5 ⟨rfl, h5⟩; have h5 := h5 |>.front 1 rfl; simp only [List.eraseIdx_cons_zero, List.eraseIdx_cons_succ] at h5; have e1 := h5.cell 1 rfl; have e2 := h5.cell 2 rfl; have e3 := h5.cell 0 rfl; have f1 := h5.frozen 1; have k4 := (h5 |>.front 5 rfl).cell 4 rfl; have H6 := hid (h5.set 1 (.int .i64 0)); clear h5 e0 d10) | (at_builtin; (refine append_gors rfl (.tmp 79) (.tmp 81) rfl (.slice none 0 0) 0 [] _ rfl ((H6.out.after_alloc _).sl_nil none) _ 1 [.int .i64 1, .int .i64 0, .slice sa 16 scap] rfl (Src.freshNn [.int .i64 1, .int .i64 0, .slice sa 16 scap] _ (gor_one sa scap) (by simp)) (by omega) ?_); intro v8 w8 h8; obtain ⟨ga2, gcap2, rfl⟩ := h8.sl_val; have h8 := h8 |>.front 6 rfl; simp only [List.eraseIdx_cons_zero, List.eraseIdx_cons_succ] at h8; have s4 := h8.cell 4 rfl; have t4 := h8.frozen 4; have H8 := hid (h8.set 4 (.slice ga2 1 gcap2)); clear h8))) | go_values | go_skip | go_guarded | go_step | go_upon | dsimp only)
      have h8 := H8.out
      clear H6 Hw e1 e2 e3 f1 k4 s4 t4 H8
      revert h8
      generalize World.setCell _ _ _ = w9
      intro h8
      -- 0 n3, 1 gs, 2 n6, 3 Sched, 4 s1, 5 m, 6 gg, 7 n0, 8 row, 9 St, 10 h, 11 a0, 12 ptb, 13 g1, 14 ph, 15 glob, 16 said
      have m6 := (h8 |>.front 5 rfl).cell 6 rfl
      have hha := (h8 |>.front 10 rfl).cell 0 rfl
      have Ho := hid (objects_none _ _ a0 b _ rfl (h8 |>.front 12 rfl |>.front 12 rfl))
      have H9 := hid h8
      clear h8
      repeat' (first | go_values | go_skip | go_guarded | go_step | go_upon | dsimp only)
      rw [rounds_succ]
      repeat' (first | (go_big_may; (first | (go_at_call 42; refine (heap_arena _ h a0 hha).mono ?_; rintro e w10 ⟨rfl, rfl⟩) | (go_at_call 43; refine Ho.out.mono ?_; rintro e w11 ⟨rfl, hb⟩; have h10 := H9.out.of_below hb; have X0 := h10.cell 0 rfl; have X1 := h10.cell 1 rfl; have X2 := h10.cell 2 rfl; have X3 := h10.cell 3 rfl; have X4 := h10.cell 4 rfl; have X5 := h10.cell 5 rfl; have X6 := h10.cell 6 rfl; have X7 := h10.cell 7 rfl; have X8 := h10.cell 8 rfl; have h11 := h10 |>.front 7 rfl; simp only [List.eraseIdx_cons_zero, List.eraseIdx_cons_succ] at h11; have Y0 := h11.cell 0 rfl; have Z0 := h11.frozen 0; have Y1 := h11.cell 1 rfl; have Z1 := h11.frozen 1; have Y2 := h11.cell 2 rfl; have Z2 := h11.frozen 2; have Y3 := h11.cell 3 rfl; have Z3 := h11.frozen 3; have Y4 := h11.cell 4 rfl; have Z4 := h11.frozen 4; have Y5 := h11.cell 5 rfl; have Z5 := h11.frozen 5; have Y6 := h11.cell 6 rfl; have Z6 := h11.frozen 6; have Y7 := h11.cell 7 rfl; have Z7 := h11.frozen 7; have Y8 := h11.cell 8 rfl; have Z8 := h11.frozen 8; have H11 := hid (((((((((h11.set 0 (.int .i64 0)).set 1 (.int .i64 0)).set 2 (.int .i64 0)).set 3 (.slice g1a g g1c)).set 4 (.slice ga2 1 gcap2)).set 5 (.slice none 0 0)).set 6 (.int .i64 0)).set 7 (.int .i64 0)).set 8 (.int .i64 0)); clear h10 h11 hb Ho H9))) | go_values | go_skip | go_guarded | go_step | go_upon | dsimp only)
      refine wp_loop_rounds 1 ?_
      rw [rounds_succ]
      repeat' (first | go_values | go_skip | go_guarded | go_step | go_upon | dsimp only)
      have h12 := H11.out
      refine bodyPost_ret (results_cell_row rfl _ _ n0 40 #[.int .i64 0, .int .i64 0, .int .i64 0, .slice g1a g g1c, .slice ga2 1 gcap2, .slice none 0 0, .int .i64 0, .int .i64 0, .int .i64 0] (0, 0) _ rfl h12.row Tryz.underlying40 rfl (by kernel_rfl)) rfl ⟨.slice g1a g g1c, .slice ga2 1 gcap2, .slice sa 16 scap, rfl, ?_⟩
      have h13 := h12 |>.front 8 rfl
      simp only [List.eraseIdx_cons_zero, List.eraseIdx_cons_succ] at h13
      obtain ⟨l1, l2, l3, l4⟩ := Hl.out
      have h13 := Sw.sl_close (E := 116) (sz := 1) (n := 1) l1 l2 l3 h13
      rw [l4] at h13
      have h13 := h13 |>.front 16 rfl |>.front 15 rfl
      simp only [List.eraseIdx_cons_zero, List.eraseIdx_cons_succ] at h13
      have h13 := PhaseR.close pvv h13
      have h14 := (h13 |>.front 5 rfl |>.front 4 rfl |>.front 4 rfl).tail.tail.tail
      simp only [List.eraseIdx_cons_zero, List.eraseIdx_cons_succ] at h14
      exact h14 |>.front 12 rfl |>.front 1 rfl |>.front 4 rfl |>.front 7 rfl |>.front 4 rfl |>.front 8 rfl |>.front 8 rfl |>.front 8 rfl |>.front 8 rfl |>.front 12 rfl
end Go.Proofs.YtfddmbafjniflaaGreatDoor
