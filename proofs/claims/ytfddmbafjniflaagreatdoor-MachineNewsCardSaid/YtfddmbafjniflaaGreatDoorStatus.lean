/-
  Package machine: has, Status, Live, Phase, Commits.
-/
import Derived.Test.YtfddmbafjniflaaGreatDoorMachine1
import Derived.IntWalk
namespace Go.Proofs.YtfddmbafjniflaaGreatDoor
open Go Go.RowKit
set_option maxRecDepth 100000 in
set_option maxHeartbeats 1000000 in
theorem machine_has (w : World) (m p n cap : Nat) (a : Option Addr) (c9 : w.cell? ⟨m, 9, none⟩ = some (.slice a n cap)) (hp : p < n) (hn : n ≤ 64) :
    Calls Tryz.prog 64 #[ptr m, .int .i64 p] w fun e w' => e = .returned (.bool true) ∧ w' = w := by
  have i1 : (p : Int) < n := by omega
  have i2 : (n : Int) ≤ 64 := by omega
  clear hp hn
  go_enter Tryz.func64, Tryz.ntmps64
  go_wp2
  go_ret
  exact ⟨rfl, rfl⟩
set_option maxRecDepth 100000 in
set_option maxHeartbeats 1000000 in
theorem heap_arena (w : World) (h a : Nat) (c0 : w.cell? ⟨h, 0, none⟩ = some (ptr a)) : Calls Tryz.prog 42 #[ptr h] w fun e w' => e = .returned (ptr a) ∧ w' = w := by
  go_enter Tryz.func42, Tryz.ntmps42
  go_wp2
  go_ret
  exact ⟨rfl, rfl⟩
set_option maxRecDepth 100000 in
set_option maxHeartbeats 1000000 in
theorem arena_live (w : World) (a n : Nat) (c4 : w.cell? ⟨a, 4, none⟩ = some (num n)) : Calls Tryz.prog 54 #[ptr a] w fun e w' => e = .returned (num n) ∧ w' = w := by
  go_enter Tryz.func54, Tryz.ntmps54
  go_wp2
  go_ret
  exact ⟨rfl, rfl⟩
set_option maxRecDepth 100000 in
set_option maxHeartbeats 1000000 in
theorem machine_arena (w : World) (m h a : Nat) (c6 : w.cell? ⟨m, 6, none⟩ = some (ptr h)) (c0 : w.cell? ⟨h, 0, none⟩ = some (ptr a)) : Calls Tryz.prog 53 #[ptr m] w fun e w' => e = .returned (ptr a) ∧ w' = w := by
  have ha := heap_arena w h a c0
  have Ha := hid ha
  clear ha
  go_enter Tryz.func53, Tryz.ntmps53
  go_wp2_with (first | (go_at_call 42; refine Ha.out.mono ?_; rintro e w1 ⟨rfl, rfl⟩))
  go_ret
  exact ⟨rfl, rfl⟩
set_option maxRecDepth 100000 in
set_option maxHeartbeats 1000000 in
theorem machine_live (w : World) (m h a n : Nat) (c6 : w.cell? ⟨m, 6, none⟩ = some (ptr h)) (c0 : w.cell? ⟨h, 0, none⟩ = some (ptr a)) (c4 : w.cell? ⟨a, 4, none⟩ = some (num n)) :
    Calls Tryz.prog 14 #[ptr m] w fun e w' => e = .returned (num n) ∧ w' = w := by
  have Ha := hid (machine_arena w m h a c6 c0)
  have Hl := hid (arena_live w a n c4)
  clear c6 c0 c4
  go_enter Tryz.func14, Tryz.ntmps14
  go_wp2_with (first | (go_at_call 53; refine Ha.out.mono ?_; rintro e w1 ⟨rfl, rfl⟩) | (go_at_call 54; refine Hl.out.mono ?_; rintro e w1 ⟨rfl, rfl⟩))
  go_ret
  exact ⟨rfl, rfl⟩
set_option maxRecDepth 100000 in
set_option maxHeartbeats 1000000 in
theorem machine_commits (w : World) (m n cap : Nat) (a : Option Addr) (c : w.cell? ⟨m, 24, none⟩ = some (.slice a n cap)) :
    Calls Tryz.prog 12 #[ptr m] w fun e w' => e = .returned (num n) ∧ w' = w := by
  go_enter Tryz.func12, Tryz.ntmps12
  go_wp2
  go_ret
  exact ⟨rfl, rfl⟩
/-- How a run stands. -/
def statusOf (out : Bool) (l : List Nat) (tn : Nat) : Nat := if out then 2 else if l.count 5 = l.length then 1 else if l.count 1 + l.count 2 + l.count 4 + tn = 0 then 3 else 0
set_option maxRecDepth 100000 in
set_option maxHeartbeats 2000000 in
theorem machine_status (w : World) (R : List HP) (m st t tn tcap : Nat) (ta : Option Addr) (out : Bool) (c : List Value) (l : List Nat) (hl : l.length ≤ 1024) (htn : tn ≤ 1024)
    (h7 : c[7]? = some (ptr st)) (h11 : c[11]? = some (ptr t)) (h27 : c[27]? = some (.bool out)) (ht : w.cell? ⟨t, 0, none⟩ = some (.slice ta tn tcap)) (hS : Sw w (ptc m c 93 :: StatesR st l :: R)) :
    Calls Tryz.prog 11 #[ptr m] w fun e w' => e = .returned (num (statusOf out l tn)) ∧ ∃ n, w' = w.drewN n := by
  have c7 := hS.cell 7 h7
  have c11 := hS.cell 11 h11
  have c27 := hS.cell 27 h27
  have hS' := hS |>.front 1 rfl
  have HS := hid hS'
  have b1 : l.count 1 ≤ 1024 := Nat.le_trans List.count_le_length hl
  have b2 : l.count 2 ≤ 1024 := Nat.le_trans List.count_le_length hl
  have b4 : l.count 4 ≤ 1024 := Nat.le_trans List.count_le_length hl
  have hmf := make_func
  clear hS hS'
  cases out with
  | true =>
    go_enter Tryz.func11, Tryz.ntmps11
    go_wp2_with fail
    go_ret
    exact ⟨rfl, 0, rfl⟩
  | false =>
    by_cases h5 : l.count 5 = l.length
    · have e5 : ((l.count 5 : Int) == (l.length : Int)) = true := by rw [beq_iff_eq]; omega
      have hfin : statusOf false l tn = 1 := by simp [statusOf, h5]
      have Hfin := hid hfin
      clear h5 hfin
      have hsl := states_len w.drew _ st l (Sw.drew HS.out)
      have Hsl := hid hsl
      clear hsl
      go_enter Tryz.func11, Tryz.ntmps11
      go_wp2_with (first | ((with_reducible refine wp_region_segS (fun w' => w'.cell? ⟨m, 7, none⟩ = some (ptr st)) mixed (by decide +kernel) ?_ ?_); (focus (exact c7))) | (apply segS_look (by rfl) (by rfl); focus (intro wq hq; (try dsimp only at hq); go_simp; first | exact rfl | exact ⟨rfl, rfl⟩)) | (apply segS_call (by rfl) (by rfl); focus (go_simp; first | exact rfl | exact ⟨rfl, rfl⟩)) | (refine segS_nil ?_))
      refine (states_count _ _ st l 5 (by omega) (by omega) (Sw.drew HS.out)).mono ?_
      rintro e w1 ⟨rfl, rfl⟩
      refine ⟨_, rfl, (by first | exact c7 | exact .inl c7), ?_⟩
      go_wp2_with (first | (apply segS_look (by rfl) (by rfl); focus (intro wq hq; (try dsimp only at hq); go_simp; first | exact rfl | exact ⟨rfl, rfl⟩)) | (apply segS_call (by rfl) (by rfl); focus (go_simp; first | exact rfl | exact ⟨rfl, rfl⟩)) | (refine segS_nil ?_))
      refine Hsl.out.mono ?_
      rintro e w1 ⟨rfl, rfl⟩
      refine ⟨_, rfl, (by first | exact c7 | exact .inl c7), ?_⟩
      go_wp2_with (first | (apply segS_look (by rfl) (by rfl); focus (intro wq hq; (try dsimp only at hq); go_simp; first | exact rfl | exact ⟨rfl, rfl⟩)) | (apply segS_call (by rfl) (by rfl); focus (go_simp; first | exact rfl | exact ⟨rfl, rfl⟩)) | (refine segS_nil ?_))
      go_ret
      rw [Hfin.out]
      exact ⟨rfl, 1, rfl⟩
    · have e5 : ((l.count 5 : Int) == (l.length : Int)) = false := by rw [beq_eq_false_iff_ne]; omega
      have e6 : ∃ z, ((((l.count 1 : Int) + (l.count 2 : Int) + (l.count 4 : Int) + (tn : Int)) == 0) = z) ∧ statusOf false l tn = (if z then 3 else 0) := by
        refine ⟨_, rfl, ?_⟩
        unfold statusOf
        simp only [h5, if_false, Bool.false_eq_true]
        by_cases h6 : l.count 1 + l.count 2 + l.count 4 + tn = 0
        · rw [if_pos h6, if_pos (by rw [beq_iff_eq]; omega)]
        · rw [if_neg h6, if_neg (by rw [beq_iff_eq]; omega)]
      obtain ⟨z, e6, hfin⟩ := e6
      have Hfin := hid hfin
      clear h5 hfin
      have hsl := states_len w.drew _ st l (Sw.drew HS.out)
      have Hsl := hid hsl
      have htl := timer_len w.drew.drew t tn tcap ta (by exact ht)
      have Htl := hid htl
      clear hsl htl
      have j1 : IntKind.i64.wrap ((l.count 1 : Int) + (l.count 2 : Int)) = (l.count 1 : Int) + (l.count 2 : Int) := IntWalk.i64_in _ (by omega)
      have j2 : IntKind.i64.wrap ((l.count 1 : Int) + (l.count 2 : Int) + (l.count 4 : Int)) = (l.count 1 : Int) + (l.count 2 : Int) + (l.count 4 : Int) := IntWalk.i64_in _ (by omega)
      have j3 : IntKind.i64.wrap ((l.count 1 : Int) + (l.count 2 : Int) + (l.count 4 : Int) + (tn : Int)) = (l.count 1 : Int) + (l.count 2 : Int) + (l.count 4 : Int) + (tn : Int) := IntWalk.i64_in _ (by omega)
      go_enter Tryz.func11, Tryz.ntmps11
      go_wp2_with (first | ((with_reducible refine wp_region_segS (fun w' => w'.cell? ⟨m, 7, none⟩ = some (ptr st)) mixed (by decide +kernel) ?_ ?_); (focus (exact c7))) | (apply segS_look (by rfl) (by rfl); focus (intro wq hq; (try dsimp only at hq); go_simp; first | exact rfl | exact ⟨rfl, rfl⟩)) | (apply segS_call (by rfl) (by rfl); focus (go_simp; first | exact rfl | exact ⟨rfl, rfl⟩)) | (refine segS_nil ?_))
      refine (states_count _ _ st l 5 (by omega) (by omega) (Sw.drew HS.out)).mono ?_
      rintro e w1 ⟨rfl, rfl⟩
      refine ⟨_, rfl, (by first | exact c7 | exact .inl c7), ?_⟩
      go_wp2_with (first | (apply segS_look (by rfl) (by rfl); focus (intro wq hq; (try dsimp only at hq); go_simp; first | exact rfl | exact ⟨rfl, rfl⟩)) | (apply segS_call (by rfl) (by rfl); focus (go_simp; first | exact rfl | exact ⟨rfl, rfl⟩)) | (refine segS_nil ?_))
      refine Hsl.out.mono ?_
      rintro e w1 ⟨rfl, rfl⟩
      refine ⟨_, rfl, (by first | exact c7 | exact .inl c7), ?_⟩
      go_wp2_with (first | ((with_reducible refine wp_region_segS (fun w' => w'.cell? ⟨m, 11, none⟩ = some (ptr t)) mixed (by decide +kernel) ?_ ?_); (focus (exact c11))) | (apply segS_look (by rfl) (by rfl); focus (intro wq hq; (try dsimp only at hq); go_simp; first | exact rfl | exact ⟨rfl, rfl⟩)) | (apply segS_call (by rfl) (by rfl); focus (go_simp; first | exact rfl | exact ⟨rfl, rfl⟩)) | (refine segS_nil ?_))
      refine (states_count _ _ st l 1 (by omega) (by omega) (Sw.drew (Sw.drew HS.out))).mono ?_
      rintro e w1 ⟨rfl, rfl⟩
      refine ⟨_, rfl, (by first | exact c11 | exact .inl c11), ?_⟩
      go_wp2_with (first | (apply segS_look (by rfl) (by rfl); focus (intro wq hq; (try dsimp only at hq); go_simp; first | exact rfl | exact ⟨rfl, rfl⟩)) | (apply segS_call (by rfl) (by rfl); focus (go_simp; first | exact rfl | exact ⟨rfl, rfl⟩)) | (refine segS_nil ?_))
      refine (states_count _ _ st l 2 (by omega) (by omega) (Sw.drew (Sw.drew HS.out))).mono ?_
      rintro e w1 ⟨rfl, rfl⟩
      refine ⟨_, rfl, (by first | exact c11 | exact .inl c11), ?_⟩
      go_wp2_with (first | (apply segS_look (by rfl) (by rfl); focus (intro wq hq; (try dsimp only at hq); go_simp; first | exact rfl | exact ⟨rfl, rfl⟩)) | (apply segS_call (by rfl) (by rfl); focus (go_simp; first | exact rfl | exact ⟨rfl, rfl⟩)) | (refine segS_nil ?_))
      refine (states_count _ _ st l 4 (by omega) (by omega) (Sw.drew (Sw.drew HS.out))).mono ?_
      rintro e w1 ⟨rfl, rfl⟩
      refine ⟨_, rfl, (by first | exact c11 | exact .inl c11), ?_⟩
      go_wp2_with (first | (apply segS_look (by rfl) (by rfl); focus (intro wq hq; (try dsimp only at hq); go_simp; first | exact rfl | exact ⟨rfl, rfl⟩)) | (apply segS_call (by rfl) (by rfl); focus (go_simp; first | exact rfl | exact ⟨rfl, rfl⟩)) | (refine segS_nil ?_))
      refine Htl.out.mono ?_
      rintro e w1 ⟨rfl, rfl⟩
      refine ⟨_, rfl, (by first | exact c11 | exact .inl c11), ?_⟩
      cases z with
      | true =>
        go_wp2_with (first | (apply segS_look (by rfl) (by rfl); focus (intro wq hq; (try dsimp only at hq); go_simp; first | exact rfl | exact ⟨rfl, rfl⟩)) | (apply segS_call (by rfl) (by rfl); focus (go_simp; first | exact rfl | exact ⟨rfl, rfl⟩)) | (refine segS_nil ?_))
        go_ret
        rw [Hfin.out]
        exact ⟨rfl, 2, rfl⟩
      | false =>
        go_wp2_with (first | (apply segS_look (by rfl) (by rfl); focus (intro wq hq; (try dsimp only at hq); go_simp; first | exact rfl | exact ⟨rfl, rfl⟩)) | (apply segS_call (by rfl) (by rfl); focus (go_simp; first | exact rfl | exact ⟨rfl, rfl⟩)) | (refine segS_nil ?_))
        go_ret
        rw [Hfin.out]
        exact ⟨rfl, 2, rfl⟩
end Go.Proofs.YtfddmbafjniflaaGreatDoor
