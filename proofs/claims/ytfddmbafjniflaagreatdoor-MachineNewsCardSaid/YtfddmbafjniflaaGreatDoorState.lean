/-
  Package state: what goroutines do.
-/
import Derived.Test.YtfddmbafjniflaaGreatDoorWords
import Derived.LoopN
namespace Go.Proofs.YtfddmbafjniflaaGreatDoor
open Go Go.RowKit
abbrev nint (n : Nat) : Value := .int .i64 n
def statesC (v : Value) (l : List Nat) : List Value := [v, nint (l.count 0), nint (l.count 1), nint (l.count 2), nint (l.count 3), nint (l.count 4), nint (l.count 5)]
/-- The states of goroutines 0, 1, .. -/
def StatesR (b : Nat) (l : List Nat) : HP := ex fun v => star [ptc b (statesC v l) 170, sl 3 1 v l.length (l.map nint)]
theorem StatesR.open_ {w : World} {b : Nat} {l : List Nat} {R : List HP} (h : Sw w (StatesR b l :: R)) : ∃ v, Sw w (ptc b (statesC v l) 170 :: sl 3 1 v l.length (l.map nint) :: R) := by
  obtain ⟨v, h⟩ := Sw.ex.1 h
  exact ⟨v, h.open_star⟩
theorem StatesR.close {w : World} {b : Nat} {l : List Nat} {R : List HP} (v : Value) (h : Sw w (ptc b (statesC v l) 170 :: sl 3 1 v l.length (l.map nint) :: R)) : Sw w (StatesR b l :: R) :=
  Sw.ex.2 ⟨v, Sw.pack (ps := [_, _]) h⟩
set_option maxRecDepth 100000 in
set_option maxHeartbeats 400000 in
theorem states_new (w : World) (R : List HP) (hS : Sw w R) : Calls Tryz.prog 29 #[] w fun e w' => ∃ b, e = .returned (.pointer (some ⟨b, 0, none⟩)) ∧ Sw w' (StatesR b [] :: R) := by
  have HS := hid hS
  clear hS
  go_enter Tryz.func29, Tryz.ntmps29
  go_wp2
  go_ret
  exact ⟨_, rfl, StatesR.close (.slice none 0 0) ((((HS.out.allocc (statesC (.slice none 0 0) []) _)).sl_nil none).swap)⟩
set_option maxRecDepth 100000 in
set_option maxHeartbeats 400000 in
theorem states_len (w : World) (R : List HP) (b : Nat) (l : List Nat) (hS : Sw w (StatesR b l :: R)) :
    Calls Tryz.prog 51 #[.pointer (some ⟨b, 0, none⟩)] w fun e w' => e = .returned (nint l.length) ∧ w' = w := by
  obtain ⟨v, h⟩ := StatesR.open_ hS
  obtain ⟨a, cap, rfl⟩ := h.tail.sl_val
  have c0 := h.cell 0 rfl
  clear h hS
  go_enter Tryz.func51, Tryz.ntmps51
  go_wp2
  go_ret
  exact ⟨rfl, rfl⟩
set_option maxRecDepth 100000 in
set_option maxHeartbeats 400000 in
theorem states_spawn (w : World) (R : List HP) (b : Nat) (l : List Nat) (hl : l.length < 1024) (hS : Sw w (StatesR b l :: R)) :
    Calls Tryz.prog 86 #[.pointer (some ⟨b, 0, none⟩)] w fun e w' => e = .returned (.tuple #[nint l.length, .int .i64 0]) ∧ Sw w' (StatesR b (l ++ [1]) :: R) := by
  obtain ⟨v, h⟩ := StatesR.open_ hS
  obtain ⟨a, cap, rfl⟩ := h.tail.sl_val
  have c0 := h.cell 0 rfl
  have hlt := h.lt'
  have hl' : ¬ (1024 : Int) ≤ l.length := by omega
  have hc0 := List.count_le_length (a := 1) (l := l)
  have hc : (List.count 1 l : Int) ≤ 1024 := by omega
  have H := hid h
  clear h hS
  go_enter Tryz.func86, Tryz.ntmps86
  go_wp2_with (first | (at_builtin; refine append_ints rfl (.tmp 18) (.tmp 19) rfl _ _ _ _ rfl (H.out.swap.after_alloc _) _ 1 [nint 1] rfl (Src.fresh1 _ _ _ rfl) (by omega) ?_; intro v1 w1 hS1; obtain ⟨a1, cap1, rfl⟩ := hS1.sl_val; have d0 := hS1.swap.cell 0 rfl; have d2 := hS1.swap.cell 2 rfl; have f0 := hS1.swap.frozen 0; have f2 := hS1.swap.frozen 2; have H1 := hid hS1; clear hS1) | (with_reducible refine wp_region_seg mixed (by decide +kernel) ?_) | (refine seg_look (by rfl) (fun K hK => ?_); go_simp; refine hK _ ?_; clear hK K) | (refine seg_act (by rfl) (fun K hK => ?_); go_simp) | (refine seg_nil ?_))
  go_ret2
  refine ⟨rfl, StatesR.close (.slice a1 (l.length + 1) cap1) ?_⟩
  have := (H1.out.swap.set 0 (.slice a1 (l.length + 1) cap1)).set 2 (.int .i64 (l.count 1 + 1))
  simpa [statesC, nint, List.count_append] using Sw.drew this
set_option maxRecDepth 100000 in
set_option maxHeartbeats 400000 in
theorem states_count (w : World) (R : List HP) (b : Nat) (l : List Nat) (s : Nat) (h1 : 1 ≤ s) (h5 : s ≤ 5) (hS : Sw w (StatesR b l :: R)) :
    Calls Tryz.prog 50 #[.pointer (some ⟨b, 0, none⟩), .int .i64 s] w fun e w' => e = .returned (nint (l.count s)) ∧ w' = w := by
  obtain ⟨v, h⟩ := StatesR.open_ hS
  obtain rfl | rfl | rfl | rfl | rfl : s = 1 ∨ s = 2 ∨ s = 3 ∨ s = 4 ∨ s = 5 := by omega
  case inl => have c0 := h.cell 2 rfl; clear h hS; go_enter Tryz.func50, Tryz.ntmps50; go_wp2; go_ret; exact ⟨rfl, rfl⟩
  case inr.inl => have c0 := h.cell 3 rfl; clear h hS; go_enter Tryz.func50, Tryz.ntmps50; go_wp2; go_ret; exact ⟨rfl, rfl⟩
  case inr.inr.inl => have c0 := h.cell 4 rfl; clear h hS; go_enter Tryz.func50, Tryz.ntmps50; go_wp2; go_ret; exact ⟨rfl, rfl⟩
  case inr.inr.inr.inl => have c0 := h.cell 5 rfl; clear h hS; go_enter Tryz.func50, Tryz.ntmps50; go_wp2; go_ret; exact ⟨rfl, rfl⟩
  case inr.inr.inr.inr => have c0 := h.cell 6 rfl; clear h hS; go_enter Tryz.func50, Tryz.ntmps50; go_wp2; go_ret; exact ⟨rfl, rfl⟩
set_option maxRecDepth 100000 in
set_option maxHeartbeats 400000 in
theorem states_of (w : World) (R : List HP) (b : Nat) (l : List Nat) (g s : Nat) (hg : g < l.length) (hs : l.getD g 0 = s) (hl : l.length ≤ 1024) (hS : Sw w (StatesR b l :: R)) :
    Calls Tryz.prog 40 #[.pointer (some ⟨b, 0, none⟩), .int .i64 g] w fun e w' => e = .returned (nint s) ∧ w' = w := by
  obtain ⟨v, h⟩ := StatesR.open_ hS
  obtain ⟨lb, o, cap, c, rfl, _, _, _, _, h2, hc⟩ := sl_row h.tail (by omega)
  have c0 := h.cell 0 rfl
  have c1 : w.cell? ⟨lb, o + g, none⟩ = some (nint s) := h2.cell (o + g) (by rw [hc g hg, ← hs]; simp [List.getD, hg])
  have i1 : (g : Int) < l.length := by omega
  clear h hS h2 hc hs
  go_enter Tryz.func40, Tryz.ntmps40
  go_wp2
  go_ret
  exact ⟨rfl, rfl⟩
/-- The turns that may be. -/
def wayB (a b : Nat) : Bool := a == 1 && b == 2 || a == 2 && (b == 1 || b == 3 || b == 4 || b == 5) || a == 3 && b == 1 || a == 4 && b == 1
def waysC : Array Value := ((List.range 36).map fun i => Value.bool (wayB (i / 6) (i % 6))).toArray
def waysZ : Array Value := Array.replicate 36 (.bool false)
theorem waysZ_get : ∀ i, i < 36 → waysZ[i]? = some (.bool false) := by
  intro i hi
  unfold waysZ
  rw [Array.getElem?_replicate, if_pos hi]
theorem waysZ_size : waysZ.size = 36 := by kernel_rfl
theorem ways_set : (((((((waysZ.setIfInBounds 8 (.bool true)).setIfInBounds 13 (.bool true)).setIfInBounds 15 (.bool true)).setIfInBounds 16 (.bool true)).setIfInBounds 17 (.bool true)).setIfInBounds 19 (.bool true)).setIfInBounds 25 (.bool true)) = waysC := by kernel_rfl
set_option maxRecDepth 100000 in
set_option maxHeartbeats 1000000 in
theorem ways_any (w : World) : Calls Tryz.prog 162 #[] w fun e w' => e = .returned (.agg waysC) ∧ Below w.heap.size w w' := by
  have z := waysZ_get
  have zs := waysZ_size
  go_enter Tryz.func162, Tryz.ntmps162
  go_wp2_with (first | (refine wpList_alloc_at rfl 276 rfl waysZ (by kernel_rfl) ?_))
  refine wp_loop_rounds 5 ?_
  repeat (any_goals (rw [rounds_succ]; go_wp2_with (first | (refine wpList_load_row rfl 276 (.tmp 1) rfl (w.heap.size + 1) rfl 276 waysC (0, 0) _ ?hg Tryz.underlying276 rfl (by kernel_rfl) ?_) | (refine wpList_store_row rfl 276 (.tmp 0) (.tmp 20) rfl w.heap.size waysC rfl rfl 276 waysZ ?hg2 (by kernel_rfl) (by kernel_rfl) (by kernel_rfl) ?_))))
  case hg =>
    rw [Below.heap_alloc _ _ _ (by simp), ← ways_set]
    exact heap_alloc2_new w _ _
  case hg2 =>
    rw [Below.heap_alloc _ _ _ (by simp; omega), Below.heap_alloc _ _ _ (by simp)]
    exact heap_alloc_new w _
  refine bodyPost_ret (results_cell_row rfl _ _ w.heap.size 276 waysC (0, 0) _ rfl (setRow_heap_same (cur := waysZ) ?_) Tryz.underlying276 rfl (by kernel_rfl)) rfl ⟨rfl, ?_⟩
  · rw [Below.heap_alloc _ _ _ (by simp; omega), Below.heap_alloc _ _ _ (by simp)]
    exact heap_alloc_new w _
  · refine below_setRow (Below.alloc (Below.alloc (Below.alloc (Below.refl _ _) (Nat.le_refl _) _) (by simp) _) (by simp; omega) _) (Nat.le_refl _)
/-- One turn, if it may be. -/
theorem may_index (a b : Nat) (ha : a < 6) (hb : b < 6) (w : World) : (Instr.index 276 (.agg waysC) (.int .i64 a)).run Tryz.prog w = .ok (.agg (waysC.extract (a * 6) (a * 6 + 6))) w ∧
    (Instr.index 275 (.agg (waysC.extract (a * 6) (a * 6 + 6))) (.int .i64 b)).run Tryz.prog w = .ok (.bool (wayB a b)) w := by
  obtain rfl | rfl | rfl | rfl | rfl | rfl : a = 0 ∨ a = 1 ∨ a = 2 ∨ a = 3 ∨ a = 4 ∨ a = 5 := by omega
  all_goals
    obtain rfl | rfl | rfl | rfl | rfl | rfl : b = 0 ∨ b = 1 ∨ b = 2 ∨ b = 3 ∨ b = 4 ∨ b = 5 := by omega
  all_goals exact ⟨by kernel_rfl, by kernel_rfl⟩
set_option maxRecDepth 100000 in
set_option maxHeartbeats 1000000 in
theorem may_any (a b : Nat) (ha : a < 6) (hb : b < 6) (w : World) : Calls Tryz.prog 107 #[.int .i64 a, .int .i64 b] w fun e w' => e = .returned (.bool (wayB a b)) ∧ Below w.heap.size w w' := by
  have m1 := fun w => (may_index a b ha hb w).1
  have m2 := fun w => (may_index a b ha hb w).2
  have i1 : (a : Int) < 6 := by omega
  have i2 : (b : Int) < 6 := by omega
  clear ha hb
  go_enter Tryz.func107, Tryz.ntmps107
  go_wp2_with (first | (go_at_call 162; refine (ways_any _).mono ?_; rintro e w1 ⟨rfl, hb⟩))
  go_ret
  exact ⟨rfl, hb⟩
theorem way_cases {a b : Nat} (h : wayB a b = true) : a = 1 ∧ b = 2 ∨ a = 2 ∧ b = 1 ∨ a = 2 ∧ b = 3 ∨ a = 2 ∧ b = 4 ∨ a = 2 ∧ b = 5 ∨ a = 3 ∧ b = 1 ∨ a = 4 ∧ b = 1 := by
  simp [wayB] at h; omega
theorem count_turn (l : List Nat) (g s to x : Nat) (hg : g < l.length) (hs : l.getD g 0 = s) (hst : s ≠ to) :
    (l.set g to).count x = if x = s then l.count x - 1 else if x = to then l.count x + 1 else l.count x := by
  have e : l[g] = s := by rw [← hs]; simp [List.getD, hg]
  rw [List.count_set hg, e]
  by_cases h1 : x = s
  · subst h1; simp [show (to == x) = false by simp; omega]
  · by_cases h2 : x = to
    · subst h2; simp [h1, show (s == x) = false by simp; omega]
    · simp [h1, h2, show (s == x) = false by simp; omega, show (to == x) = false by simp; omega]
theorem count_pos_of (l : List Nat) (g s : Nat) (hg : g < l.length) (hs : l.getD g 0 = s) : 1 ≤ l.count s := by
  have e : l[g] = s := by rw [← hs]; simp [List.getD, hg]
  have : 0 < l.count s := List.count_pos_iff.2 (e ▸ List.getElem_mem hg)
  omega
theorem statesC_get (v : Value) (l : List Nat) (s : Nat) (hs : s < 6) : (statesC v l)[1 + s]? = some (nint (l.count s)) := by
  obtain rfl | rfl | rfl | rfl | rfl | rfl : s = 0 ∨ s = 1 ∨ s = 2 ∨ s = 3 ∨ s = 4 ∨ s = 5 := by omega
  all_goals rfl
theorem statesC_turn (v : Value) (l : List Nat) (g s to : Nat) (hg : g < l.length) (hs : l.getD g 0 = s) (hw : wayB s to = true) :
    ((statesC v l).set (1 + s) (nint (l.count s - 1))).set (1 + to) (nint (l.count to + 1)) = statesC v (l.set g to) := by
  have hst : s ≠ to := by rcases way_cases hw with ⟨rfl, rfl⟩ | ⟨rfl, rfl⟩ | ⟨rfl, rfl⟩ | ⟨rfl, rfl⟩ | ⟨rfl, rfl⟩ | ⟨rfl, rfl⟩ | ⟨rfl, rfl⟩ <;> decide
  have hc := fun x => count_turn l g s to x hg hs hst
  unfold statesC
  simp only [hc]
  rcases way_cases hw with ⟨rfl, rfl⟩ | ⟨rfl, rfl⟩ | ⟨rfl, rfl⟩ | ⟨rfl, rfl⟩ | ⟨rfl, rfl⟩ | ⟨rfl, rfl⟩ | ⟨rfl, rfl⟩ <;> rfl
set_option maxRecDepth 100000 in
set_option maxHeartbeats 1000000 in
theorem states_move (w : World) (R : List HP) (b : Nat) (l : List Nat) (g s to : Nat) (hg : g < l.length) (hl : l.length ≤ 1024) (hs : l.getD g 0 = s) (hw : wayB s to = true) (hS : Sw w (StatesR b l :: R)) :
    Calls Tryz.prog 67 #[.pointer (some ⟨b, 0, none⟩), .int .i64 g, .int .i64 to] w fun e w' => e = .returned (.int .i64 0) ∧ Sw w' (StatesR b (l.set g to) :: R) := by
  have hof1 := states_of w R b l g s hg hs hl hS
  have hfin := fun v => statesC_turn v l g s to hg hs hw
  have hcp := count_pos_of l g s hg hs
  have hcs : l.count s ≤ 1024 := Nat.le_trans List.count_le_length hl
  have hct : l.count to ≤ 1024 := Nat.le_trans List.count_le_length hl
  have i0 : 1 ≤ s ∧ s < 6 ∧ to < 6 ∧ s ≠ to := by have := way_cases hw; omega
  obtain ⟨j1, j2, j3, j4⟩ := i0
  have i1 : (s : Int) < 6 := by omega
  have i2 : (to : Int) < 6 := by omega
  have i3 : (g : Int) < l.length := by omega
  have i4 : (1 : Int) ≤ l.count s := by omega
  have i5 : (l.count to : Int) ≤ 1024 := by omega
  have n0 : ((s : Int) == 0) = false := by rw [beq_eq_false_iff_ne]; omega
  obtain ⟨v, h⟩ := StatesR.open_ hS
  obtain ⟨lb, o, cap, c, rfl, q1, q2, q3, q4, h2, hc⟩ := sl_row h.swap (by omega)
  have hcg : c[o + g]? = some (nint s) := by rw [hc g hg, ← hs]; simp [List.getD, hg]
  have hne := h2.ne
  have hmay := fun w => may_any s to j2 j3 w
  rw [hw] at hmay
  have H2 := hid h2
  have Hof := hid hof1
  have Hmay := hid hmay
  have Hcg := hid hcg
  have Hfin := hid hfin
  have c0 := h2.swap.cell 0 rfl
  have cl := h2.cell (o + g) hcg
  clear hS h h2 hof1 hmay hc hcg hs hw hfin
  go_enter Tryz.func67, Tryz.ntmps67
  go_wp2_with (first | (go_at_call 40; refine Hof.out.mono ?_; rintro e w1 ⟨rfl, rfl⟩) | (go_at_call 107; refine (Hmay.out _).mono ?_; rintro e w1 ⟨rfl, hb⟩; have h3 := H2.out.of_below hb; clear c0 cl hb; have c0 := h3.swap.cell 0 rfl; have cl := h3.cell (o + g) Hcg.out; have fl := h3.frozen (o + g); have cs := h3.swap.cell (1 + s) (statesC_get _ _ s j2); have fs := h3.swap.frozen (1 + s); have ct := h3.swap.cell (1 + to) (statesC_get _ _ to j3); have ft := h3.swap.frozen (1 + to); have H3 := hid h3; clear h3) | (with_reducible refine wp_region_seg mixed (by decide +kernel) ?_) | (refine seg_look (by rfl) (fun K hK => ?_); go_simp; refine hK _ ?_; clear hK K) | (refine seg_act (by rfl) (fun K hK => ?_); go_simp) | (refine seg_nil ?_))
  go_ret
  refine ⟨rfl, ?_⟩
  have e1 : Value.int .i64 ((l.count s : Int) - 1) = nint (l.count s - 1) := congrArg (Value.int .i64) (by omega)
  have e2 : Value.int .i64 ((l.count to : Int) + 1) = nint (l.count to + 1) := rfl
  rw [e1, e2]
  have h4 := ((H3.out.swap.set (1 + s) (nint (l.count s - 1))).set (1 + to) (nint (l.count to + 1))).swap
  rw [Hfin.out] at h4
  have h5 := Sw.sl_set (v := nint to) q1 q2 q3 hg h4
  rw [q4, ← List.map_set] at h5
  refine StatesR.close (.slice (some ⟨lb, o, none⟩) l.length cap) (Sw.drew (Sw.drew ?_))
  rw [List.length_set]
  exact h5.swap
end Go.Proofs.YtfddmbafjniflaaGreatDoor
