/-
  Packages phase, timer, wait, barrier: what is new, what is asked.
-/
import Derived.Test.YtfddmbafjniflaaGreatDoorQueue
import Derived.Deep.OwnRows
namespace Go.Proofs.YtfddmbafjniflaaGreatDoor
open Go Go.RowKit
theorem made_one (z : Value) (n : Nat) : madeCells #[z] n = Array.replicate n z := by
  apply Array.ext'
  simp [madeCells]
  rw [List.eq_replicate_iff]
  refine ⟨by simp, fun b hb => ?_⟩
  obtain ⟨x, _, rfl⟩ := List.mem_map.1 hb
  simp [Nat.mod_one]
def phaseC (ph cy : Nat) (v : Value) (cnt rst : Nat) : List Value := [num ph, num cy, v, num cnt, num rst]
def PhaseR (b ph cy : Nat) (said : List Bool) (cnt rst : Nat) : HP := ex fun v => star [ptc b (phaseC ph cy v cnt rst) 167, sl 4 1 v said.length (said.map .bool)]
theorem PhaseR.open_ {w : World} {b ph cy cnt rst : Nat} {l : List Bool} {R : List HP} (h : Sw w (PhaseR b ph cy l cnt rst :: R)) : ∃ v, Sw w (ptc b (phaseC ph cy v cnt rst) 167 :: sl 4 1 v l.length (l.map .bool) :: R) := by
  obtain ⟨v, h⟩ := Sw.ex.1 h
  exact ⟨v, h.open_star⟩
theorem PhaseR.close {w : World} {b ph cy cnt rst : Nat} {l : List Bool} {R : List HP} (v : Value) (h : Sw w (ptc b (phaseC ph cy v cnt rst) 167 :: sl 4 1 v l.length (l.map .bool) :: R)) : Sw w (PhaseR b ph cy l cnt rst :: R) :=
  Sw.ex.2 ⟨v, Sw.pack (ps := [_, _]) h⟩
set_option maxHeartbeats 400000 in
theorem phase_new (w : World) (R : List HP) (n : Nat) (h1 : 1 ≤ n) (h2 : n ≤ 64) (hS : Sw w R) :
    Calls Tryz.prog 28 #[.int .i64 n] w fun e w' => ∃ b, e = .returned (.tuple #[.pointer (some ⟨b, 0, none⟩), .int .i64 0]) ∧ Sw w' (PhaseR b 0 0 (List.replicate n false) 0 0 :: R) := by
  have hmk := fun w => run_make_row' (P := Tryz.prog) 132 4 (.bool false) 1 Tryz.underlying132 (by kernel_rfl) rfl .i64 .i64 n (by omega) (by omega) w
  simp only [made_one] at hmk
  have i1 : ¬ (n : Int) < 1 := by omega
  have i2 : ¬ 64 < (n : Int) := by omega
  have HS := hid hS
  clear hS h1
  go_enter Tryz.func28, Tryz.ntmps28
  go_wp2
  go_ret2
  refine ⟨_, rfl, PhaseR.close (.slice (some ⟨w.heap.size, 0, none⟩) n n) ?_⟩
  have h3 := HS.out.allocc (List.replicate n (.bool false)) 4
  simp only [List.toArray_replicate] at h3
  have h4 := Sw.sl_close (E := 4) (sz := 1) (n := n) (cap := n) (o := 0) (Nat.le_refl _) (by simp only [maxLen]; omega) (by simp) h3
  have h5 := h4.allocc (phaseC 0 0 (.slice (some ⟨w.heap.size, 0, none⟩) n n) 0 0) 167
  simp only [World.size_alloc, List.drop_zero, Nat.mul_one, List.take_replicate, Nat.min_self] at h5
  simp only [List.length_replicate, List.map_replicate]
  exact h5
set_option maxHeartbeats 400000 in
theorem phase_phase (w : World) (b ph : Nat) (c0 : w.cell? ⟨b, 0, none⟩ = some (num ph)) :
    Calls Tryz.prog 37 #[.pointer (some ⟨b, 0, none⟩)] w fun e w' => e = .returned (num ph) ∧ w' = w := by
  go_enter Tryz.func37, Tryz.ntmps37
  go_wp2
  go_ret
  exact ⟨rfl, rfl⟩
set_option maxHeartbeats 400000 in
theorem phase_cycle (w : World) (b cy : Nat) (c0 : w.cell? ⟨b, 1, none⟩ = some (num cy)) :
    Calls Tryz.prog 38 #[.pointer (some ⟨b, 0, none⟩)] w fun e w' => e = .returned (num cy) ∧ w' = w := by
  go_enter Tryz.func38, Tryz.ntmps38
  go_wp2
  go_ret
  exact ⟨rfl, rfl⟩
set_option maxHeartbeats 400000 in
theorem timer_new (w : World) (R : List HP) (hS : Sw w R) : Calls Tryz.prog 30 #[] w fun e w' => ∃ b, e = .returned (.pointer (some ⟨b, 0, none⟩)) ∧ Sw w' (ptc b [.slice none 0 0, num 0] 174 :: R) := by
  have HS := hid hS
  clear hS
  go_enter Tryz.func30, Tryz.ntmps30
  go_wp2
  go_ret
  exact ⟨_, rfl, HS.out.allocc [.slice none 0 0, num 0] 174⟩
set_option maxHeartbeats 400000 in
theorem timer_len (w : World) (b n cap : Nat) (a : Option Addr) (c0 : w.cell? ⟨b, 0, none⟩ = some (.slice a n cap)) :
    Calls Tryz.prog 52 #[.pointer (some ⟨b, 0, none⟩)] w fun e w' => e = .returned (num n) ∧ w' = w := by
  go_enter Tryz.func52, Tryz.ntmps52
  go_wp2
  go_ret
  exact ⟨rfl, rfl⟩
-- Nobody sleeps.
set_option maxRecDepth 100000 in
set_option maxHeartbeats 400000 in
theorem timer_due_none (w : World) (b cap : Nat) (a : Option Addr) (now : Int) (c0 : w.cell? ⟨b, 0, none⟩ = some (.slice a 0 cap)) :
    Calls Tryz.prog 66 #[.pointer (some ⟨b, 0, none⟩), .int .i64 now] w fun e w' => e = .returned (.slice none 0 0) ∧ w' = w := by
  have hl := timer_len w b 0 cap a c0
  have Hl := hid hl
  clear hl
  go_enter Tryz.func66, Tryz.ntmps66
  go_wp2
  refine wp_loop_rounds 1 ?_
  rw [rounds_succ]
  go_wp2_with (first | (go_at_call 52; refine Hl.out.mono ?_; rintro e wx ⟨rfl, rfl⟩) | (with_reducible refine wp_region_segP mixed (by decide +kernel) ?_) | (apply segP_pure (by rfl) (by rfl); focus (intro w1; go_simp; first | exact rfl | exact ⟨rfl, rfl⟩)) | (apply segP_look (by rfl) (by rfl) (by rfl); focus (go_simp; first | exact rfl | exact ⟨rfl, rfl⟩)) | (apply segP_act (by rfl) (by rfl) (by rfl); focus (go_simp; first | exact rfl | exact ⟨rfl, rfl⟩)) | (apply segP_unit (by rfl) (by rfl) (by rfl); focus (go_simp; first | exact rfl | exact ⟨rfl, rfl⟩)) | (refine segP_nil ?_))
  go_ret
  exact ⟨rfl, rfl⟩
def waitZ : List Value := List.replicate 32 (.slice none 0 0)
theorem wait_zero (w : World) : (Instr.build 176 #[]).run Tryz.prog w = .ok (.agg waitZ.toArray) w := by kernel_rfl
set_option maxHeartbeats 400000 in
theorem wait_new (w : World) (R : List HP) (hS : Sw w R) : Calls Tryz.prog 31 #[] w fun e w' => ∃ b, e = .returned (.pointer (some ⟨b, 0, none⟩)) ∧ Sw w' (ptc b waitZ 176 :: R) := by
  have HS := hid hS
  clear hS
  have z := wait_zero
  go_enter Tryz.func31, Tryz.ntmps31
  go_wp2
  go_ret
  exact ⟨_, rfl, HS.out.allocc waitZ 176⟩
def barZ : List Value := List.replicate 33 (num 0)
theorem bar_zero (w : World) : (Instr.build 181 #[]).run Tryz.prog w = .ok (.agg barZ.toArray) w := by kernel_rfl
set_option maxHeartbeats 400000 in
theorem bar_new (w : World) (R : List HP) (hS : Sw w R) : Calls Tryz.prog 32 #[] w fun e w' => ∃ b, e = .returned (.pointer (some ⟨b, 0, none⟩)) ∧ Sw w' (ptc b barZ 181 :: R) := by
  have HS := hid hS
  clear hS
  have z := bar_zero
  go_enter Tryz.func32, Tryz.ntmps32
  go_wp2
  go_ret
  exact ⟨_, rfl, HS.out.allocc barZ 181⟩
end Go.Proofs.YtfddmbafjniflaaGreatDoor
