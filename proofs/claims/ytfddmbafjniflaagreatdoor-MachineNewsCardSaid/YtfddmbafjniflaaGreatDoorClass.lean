/-
  Package class: what its functions come to.
-/
import Derived.Test.YtfddmbafjniflaaGreatDoorWords
import Derived.LoopN
namespace Go.Proofs.YtfddmbafjniflaaGreatDoor
open Go Go.RowKit
def sizes : List Nat := [1, 2, 3, 4, 6, 8, 12, 16, 24, 32, 48, 64, 96, 128, 192, 256]
def clsSize (k : Int) : Nat := if k < 0 then 0 else sizes.getD k.toNat 0
def tableV : Value := .agg #[.int .i64 1, .int .i64 2, .int .i64 3, .int .i64 4, .int .i64 6, .int .i64 8, .int .i64 12, .int .i64 16, .int .i64 24, .int .i64 32, .int .i64 48, .int .i64 64, .int .i64 96, .int .i64 128, .int .i64 192, .int .i64 256]
set_option maxRecDepth 100000 in
set_option maxHeartbeats 400000 in
theorem table_any (w : World) : Calls Tryz.prog 139 #[] w fun e w' => e = .returned tableV ∧ Below w.heap.size w w' := by
  go_enter Tryz.func139, Tryz.ntmps139
  go_wp2_with (first | (refine wpList_store_row rfl 118 (.tmp 0) (.tmp 1) rfl w.heap.size _ rfl rfl 118 _ (heap_alloc_new _ _) (by kernel_rfl) rfl rfl ?_))
  refine bodyPost_ret (results_cell_row rfl _ _ w.heap.size 118 _ (0, 0) _ rfl (heap_alloc_new _ _) Tryz.underlying118 rfl (by kernel_rfl)) rfl ⟨rfl, ?_⟩
  exact (Below.refl _ _).alloc (Nat.le_refl _) _
set_option maxRecDepth 100000 in
set_option maxHeartbeats 400000 in
theorem count_any (w : World) : Calls Tryz.prog 82 #[] w fun e w' => e = .returned (.int .i64 16) ∧ Below w.heap.size w w' := by
  go_enter Tryz.func82, Tryz.ntmps82
  go_wp2_with (first | (go_at_call 139; refine (table_any _).mono ?_; rintro e w' ⟨rfl, hb⟩))
  go_ret
  exact ⟨rfl, hb⟩
theorem table_lit (w : World) : Calls Tryz.prog 139 #[] w fun e w' => e = .returned (.agg #[.int .i64 1, .int .i64 2, .int .i64 3, .int .i64 4, .int .i64 6, .int .i64 8, .int .i64 12, .int .i64 16, .int .i64 24, .int .i64 32, .int .i64 48, .int .i64 64, .int .i64 96, .int .i64 128, .int .i64 192, .int .i64 256]) ∧ Below w.heap.size w w' := table_any w
def tableC : Array Value := #[.int .i64 1, .int .i64 2, .int .i64 3, .int .i64 4, .int .i64 6, .int .i64 8, .int .i64 12, .int .i64 16, .int .i64 24, .int .i64 32, .int .i64 48, .int .i64 64, .int .i64 96, .int .i64 128, .int .i64 192, .int .i64 256]
theorem table_c (w : World) : Calls Tryz.prog 139 #[] w fun e w' => e = .returned (.agg tableC) ∧ Below w.heap.size w w' := table_any w
theorem lt16 {k : Int} (h0 : 0 ≤ k) (h1 : k < 16) : k = 0 ∨ k = 1 ∨ k = 2 ∨ k = 3 ∨ k = 4 ∨ k = 5 ∨ k = 6 ∨ k = 7 ∨ k = 8 ∨ k = 9 ∨ k = 10 ∨ k = 11 ∨ k = 12 ∨ k = 13 ∨ k = 14 ∨ k = 15 := by omega
theorem table_get (k : Int) (h0 : 0 ≤ k) (h1 : k < 16) : tableC[k.toNat]? = some (.int .i64 (clsSize k)) := by
  rcases lt16 h0 h1 with rfl | rfl | rfl | rfl | rfl | rfl | rfl | rfl | rfl | rfl | rfl | rfl | rfl | rfl | rfl | rfl <;> rfl
theorem table_index (k : Int) (h0 : 0 ≤ k) (h1 : k < 16) (w : World) : (Instr.index 118 (.agg tableC) (.int .i64 k)).run Tryz.prog w = .ok (.int .i64 (clsSize k)) w :=
  run_index_agg _ 3 16 _ Tryz.underlying118 Tryz.underlying3 rfl (by kernel_rfl) _ _ k h0 (by omega) _ (table_get k h0 h1) w
set_option maxRecDepth 100000 in
set_option maxHeartbeats 1000000 in
theorem size_class (k : Int) (w : World) (h0 : 0 ≤ k) (h1 : k < 16) : Calls Tryz.prog 197 #[.int .i64 k] w fun e w' => e = .returned (.int .i64 (clsSize k)) ∧ Below w.heap.size w w' := by
  have hix := table_index k h0 h1
  go_enter Tryz.func197, Tryz.ntmps197
  go_wp2_with (first | (go_at_call 139; refine (table_c _).mono ?_; rintro e w2 ⟨rfl, hb⟩) | (go_at_call 82; refine (count_any _).mono ?_; rintro e w1 ⟨rfl, hb1⟩))
  go_ret
  exact ⟨rfl, hb1.trans (hb.mono hb1.size)⟩
def pagesL : List Nat := [1, 1, 1, 1, 1, 1, 1, 1, 2, 1, 3, 1, 3, 2, 3, 4]
def clsPages (k : Int) : Nat := if k < 0 then 0 else pagesL.getD k.toNat 0
def clsSlots (k : Int) : Nat := clsPages k * 64 / clsSize k
set_option maxRecDepth 100000 in
set_option maxHeartbeats 4000000 in
theorem pages_class (k : Int) (w : World) (h0 : 0 ≤ k) (h1 : k < 16) : Calls Tryz.prog 341 #[.int .i64 k] w fun e w' => e = .returned (.int .i64 (clsPages k)) ∧ Below w.heap.size w w' := by
  have hs := size_class k w h0 h1
  rcases lt16 h0 h1 with rfl | rfl | rfl | rfl | rfl | rfl | rfl | rfl | rfl | rfl | rfl | rfl | rfl | rfl | rfl | rfl
  all_goals
    have Hs := hid hs
    clear hs
    go_enter Tryz.func341, Tryz.ntmps341
    go_wp2_with fail
    refine Hs.out.mono ?_
    rintro e w1 ⟨rfl, hb⟩
    simp only [clsSize, sizes]
    go_wp2_with fail
    refine wp_loop_rounds 5 ?_
    repeat (any_goals (rw [rounds_succ]; go_wp2_with (first | (with_reducible refine wp_region_seg mixed (by decide +kernel) ?_) | (refine seg_look (by rfl) (fun K hK => ?_); go_simp; refine hK _ ?_; clear hK K) | (refine seg_act (by rfl) (fun K hK => ?_); go_simp) | (refine seg_nil ?_))))
    go_ret
    exact ⟨rfl, by repeat (first | exact hb | refine Below.drew ?_)⟩
set_option maxRecDepth 100000 in
set_option maxHeartbeats 4000000 in
theorem slots_class (k : Int) (w : World) (h0 : 0 ≤ k) (h1 : k < 16) : Calls Tryz.prog 349 #[.int .i64 k] w fun e w' => e = .returned (.int .i64 (clsSlots k)) ∧ Below w.heap.size w w' := by
  have hs := size_class k w h0 h1
  have hp := fun w => pages_class k w h0 h1
  rcases lt16 h0 h1 with rfl | rfl | rfl | rfl | rfl | rfl | rfl | rfl | rfl | rfl | rfl | rfl | rfl | rfl | rfl | rfl
  all_goals
    have Hs := hid hs
    have Hp := hid hp
    clear hs hp
    go_enter Tryz.func349, Tryz.ntmps349
    go_wp2_with fail
    refine Hs.out.mono ?_
    rintro e w1 ⟨rfl, hb⟩
    simp only [clsSize, sizes]
    go_wp2_with fail
    refine (Hp.out _).mono ?_
    rintro e w2 ⟨rfl, hb2⟩
    simp only [clsPages, pagesL]
    go_wp2_with (first | (with_reducible refine wp_region_seg mixed (by decide +kernel) ?_) | (refine seg_look (by rfl) (fun K hK => ?_); go_simp; refine hK _ ?_; clear hK K) | (refine seg_act (by rfl) (fun K hK => ?_); go_simp) | (refine seg_nil ?_))
    go_ret
    exact ⟨rfl, hb.trans (hb2.mono hb.size)⟩
def clsOf (n : Int) : Int := if n < 1 then -1 else match sizes.findIdx? (fun s => decide (n ≤ (Int.ofNat s))) with | some k => Int.ofNat k | none => -1
theorem clsOf_at (n : Int) (k : Nat) (hk : k < 16) (h1 : 1 ≤ n) (h2 : n ≤ clsSize k) (h3 : ∀ j : Nat, j < k → ¬ (1 ≤ n ∧ n ≤ clsSize j)) : clsOf n = k := by
  have h4 : ∀ j : Nat, j < k → ¬ n ≤ clsSize j := fun j hj h => h3 j hj ⟨h1, h⟩
  unfold clsOf
  rw [if_neg (by omega)]
  have : sizes.findIdx? (fun s => decide (n ≤ (Int.ofNat s))) = some k := by
    rw [List.findIdx?_eq_some_iff_getElem]
    have hl : k < sizes.length := hk
    refine ⟨hl, ?_, ?_⟩
    · have e : ((clsSize k : Nat) : Int) = Int.ofNat sizes[k] := by unfold clsSize; rw [if_neg (by omega)]; simp [List.getD, List.getElem?_eq_getElem hl]
      simp only [decide_eq_true_eq]; rw [← e]; exact h2
    · intro j hj
      have hjl : j < sizes.length := by omega
      have e : ((clsSize j : Nat) : Int) = Int.ofNat sizes[j] := by unfold clsSize; rw [if_neg (by omega)]; simp [List.getD, List.getElem?_eq_getElem hjl]
      simp only [decide_eq_true_eq]; rw [← e]; exact h4 j hj
  rw [this]; rfl
theorem clsOf_none (n : Int) (h3 : ∀ j : Nat, j < 16 → ¬ (1 ≤ n ∧ n ≤ clsSize j)) : clsOf n = -1 := by
  unfold clsOf
  split
  · rfl
  · have : sizes.findIdx? (fun s => decide (n ≤ (Int.ofNat s))) = none := by
      rw [List.findIdx?_eq_none_iff]
      intro x hx
      obtain ⟨j, hj, rfl⟩ := List.getElem_of_mem hx
      have e : ((clsSize j : Nat) : Int) = Int.ofNat sizes[j] := by unfold clsSize; rw [if_neg (by omega)]; simp [List.getD, List.getElem?_eq_getElem hj]
      have := h3 j hj
      simp only [decide_eq_false_iff_not]; rw [← e]; intro h; exact this ⟨by omega, h⟩
    rw [this]
set_option maxRecDepth 100000 in
set_option maxHeartbeats 1000000 in
theorem of_class (n : Int) (w : World) (hn : inI n) : Calls Tryz.prog 198 #[.int .i64 n] w fun e w' => e = .returned (.int .i64 (clsOf n)) ∧ Below w.heap.size w w' := by
  obtain ⟨hn1, hn2⟩ := hn
  go_enter Tryz.func198, Tryz.ntmps198
  go_wp2_with fail
  refine (table_c _).mono ?_
  rintro e w1 ⟨rfl, hb⟩
  go_wp2_with fail
  go_loop [6] (fun v => ∃ k : Nat, k ≤ 16 ∧ v = .int .i64 k ∧ ∀ j : Nat, j < k → ¬ (1 ≤ n ∧ n ≤ clsSize j)) (fun v => 16 - (intOf v).toNat)
  case atStart => exact ⟨0, by omega, rfl, fun j hj => by omega⟩
  case round =>
    obtain ⟨k, hk, rfl, hall⟩ := hrel
    have Hall := hid hall
    clear hall
    by_cases hlt : k < 16
    · have hix := table_index k (by omega) (by omega)
      have hkk : (k : Int) < 16 := by omega
      have hz : 0 ≤ (k : Int) := by omega
      by_cases ht : 1 ≤ n ∧ n ≤ clsSize k
      · obtain ⟨t1, t2⟩ := ht
        have hof := clsOf_at n k hlt t1 t2 Hall.out
        have Hof := hid hof
        clear hof
        go_wp2_with fail
        go_ret
        exact ⟨by rw [Hof.out]; rfl, hb⟩
      · have ht' : n < 1 ∨ (clsSize k : Int) < n := by omega
        have Ht := hid ht
        clear ht
        rcases ht' with t | t
        all_goals
          go_wp2_with fail
          go_round
          case rel => exact ⟨k + 1, by omega, by go_num, fun j hj => by
            rcases Nat.lt_or_ge j k with h | h
            · exact Hall.out j h
            · obtain rfl : j = k := by omega
              exact Ht.out⟩
          case measure => simp [intOf]; omega
    · have hof := clsOf_none n (fun j hj => Hall.out j (by omega))
      have Hof := hid hof
      clear hof
      have hkk : ¬ (k : Int) < 16 := by omega
      go_wp2_with fail
      go_ret
      exact ⟨by rw [Hof.out]; rfl, hb⟩
end Go.Proofs.YtfddmbafjniflaaGreatDoor
