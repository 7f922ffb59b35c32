/-
  The pacer's goal of no words that live: the program's and the document's.
-/
import Derived.Test.YtfddmbafjniflaaGreatDoorTold1
import Derived.Test.YtfddmbafjniflaaGreatDoorFlo
namespace Go.Proofs.YtfddmbafjniflaaGreatDoor
open Go Go.RowKit
/-- The least ratio of a heap of k pages. -/
def ratK (k : Nat) : Nat := max (67108864 * 1048576 / (4 * k * 1048576)) 131072
def goalC (k : Nat) (on : Bool) : List Value := if on then [num (12 * k), num (16 * k), num (ratK k)] else [num (k * 64), num (k * 64), .int .i64 0]
theorem ratK_le (k : Nat) (h : 4 ≤ k) : 67108864 * 1048576 / (4 * k * 1048576) ≤ 4194304 := by
  have h1 : 4 * 4 * 1048576 ≤ 4 * k * 1048576 := by omega
  calc 67108864 * 1048576 / (4 * k * 1048576) ≤ 67108864 * 1048576 / (4 * 4 * 1048576) := Nat.div_le_div_left h1 (by omega)
    _ = 4194304 := by decide
set_option maxRecDepth 100000 in
set_option maxHeartbeats 1000000 in
theorem ratio_bounds (q : Nat) (hq : q ≤ 4194304) (w : World) : Calls Tryz.prog 143 #[num q] w fun e w' => e = .returned (num (max q 131072)) ∧ w' = w := by
  rcases Nat.lt_or_ge q 131072 with h | h
  · have i1 : (q : Int) < 131072 := by omega
    have i2 : ¬ (131072 : Int) < q := by omega
    have e1 : max q 131072 = 131072 := by omega
    rw [e1]
    clear e1 h hq
    go_enter Tryz.func143, Tryz.ntmps143
    repeat' (first | go_values | go_skip | go_guarded | go_step | go_upon | dsimp only)
    go_ret
    exact ⟨rfl, rfl⟩
  · have i1 : ¬ (q : Int) < 131072 := by omega
    have i2 : ¬ (67108864 : Int) < q := by omega
    have e1 : max q 131072 = q := by omega
    rw [e1]
    by_cases h2 : (131072 : Int) < q
    · clear e1 h hq
      go_enter Tryz.func143, Tryz.ntmps143
      repeat' (first | go_values | go_skip | go_guarded | go_step | go_upon | dsimp only)
      go_ret
      exact ⟨rfl, rfl⟩
    · obtain rfl : q = 131072 := by omega
      clear e1 h hq i1 i2 h2
      go_enter Tryz.func143, Tryz.ntmps143
      repeat' (first | go_values | go_skip | go_guarded | go_step | go_upon | dsimp only)
      go_ret
      exact ⟨rfl, rfl⟩
set_option maxRecDepth 100000 in
set_option maxHeartbeats 2000000 in
theorem ratio_k (m64 : Mul64Said) (k : Nat) (h4 : 4 ≤ k) (hk : k ≤ 262144) (w : World) : Calls Tryz.prog 85 #[.int .i64 0, num (12 * k), num (16 * k)] w fun e w' => e = .returned (num (ratK k)) ∧ ∃ n, w' = w.drewN n := by
  have W := hid (whole_nat m64)
  have D := hid div_nat
  have Rb := hid (ratio_bounds _ (ratK_le k h4))
  clear m64
  have Ad := hid (fun w => add_any 0 64 w ⟨by omega, by omega⟩ ⟨by omega, by omega⟩)
  have su := fun w => sub_any (16 * k : Nat) (12 * k : Nat) w ⟨by omega, by omega⟩ ⟨by omega, by omega⟩
  have e1 : sat ((16 * k : Nat) - (12 * k : Nat) : Int) = ((4 * k : Nat) : Int) := by rw [sat_in (by omega) (by omega)]; omega
  rw [e1] at su
  have Su := hid su
  have W1 := hid (fun w => W.out (4 * k) w (by omega))
  have D1 := hid (fun w => D.out 67108864 (4 * k * 1048576) w (by omega) (by omega) (by omega) (by have := ratK_le k h4; omega))
  have i1 : ¬ ((4 * k : Nat) : Int) < 1 := by omega
  have i2 : (1 : Int) < ((4 * k : Nat) : Int) := by omega
  clear su e1 D
  generalize h12 : 12 * k = k12 at *
  generalize h16 : 16 * k = k16 at *
  unfold ratK
  generalize hq4 : 4 * k = k4 at *
  clear h12 h16 hq4 h4 hk
  go_enter Tryz.func85, Tryz.ntmps85
  repeat' (first | (go_big_may; (first | (go_at_call 141; refine (Ad.out _).mono ?_; rintro e w1 ⟨rfl, rfl⟩; simp only [sat]) | (go_at_call 142; refine (Su.out _).mono ?_; rintro e w1 ⟨rfl, rfl⟩) | (go_at_call 143; refine (Rb.out _).mono ?_; rintro e w1 ⟨rfl, rfl⟩) | (go_at_call 140; (first | refine (W.out 64 _ (by omega)).mono ?_ | refine (W1.out _).mono ?_); rintro e w1 ⟨rfl, rfl⟩) | (go_at_call 144; refine (D1.out _).mono ?_; rintro e w1 ⟨rfl, n1, rfl⟩))) | go_values | go_skip | go_guarded | go_step | go_upon | dsimp only)
  go_ret
  exact ⟨rfl, _, rfl⟩
set_option maxRecDepth 100000 in
set_option maxHeartbeats 2000000 in
theorem pacer_goal (m64 : Mul64Said) (k : Nat) (h4 : 4 ≤ k) (hk : k ≤ 262144) (N : Int) (_hN : inI N) (on : Bool) (w : World) : Calls Tryz.prog 33 #[.int .i64 0, num (k * 64), .int .i64 N, .bool on] w fun e w' => e = .returned (.agg (goalC k on).toArray) ∧ Below w.heap.size w w' := by
  have Rk := hid (ratio_k m64 k h4 hk)
  clear m64
  have i1 : (0 : Int) < ((k * 64 : Nat) : Int) := by omega
  have i2 : ¬ (16777216 : Int) < ((k * 64 : Nat) : Int) := by omega
  have i3 : ¬ ((k * 64 : Nat) : Int) < 0 := by omega
  have i4 : ((k * 64 : Nat) : Int) ≤ 16777216 := by omega
  generalize hx : k * 64 = x at *
  cases on with
  | false =>
    have h := hid (((Sw.old w).allocc [.int .i64 0, .int .i64 0, .int .i64 0] 66).tail.below)
    have e0 : goalC k false = [num x, num x, .int .i64 0] := by unfold goalC; rw [hx]; rfl
    rw [e0]
    clear hx h4 hk e0
    go_enter Tryz.func33, Tryz.ntmps33
    repeat' (first | go_values | go_skip | go_guarded | go_step | go_upon | dsimp only)
    exact bodyPost_ret (results_cell_row rfl _ _ w.heap.size 66 #[num x, num x, .int .i64 0] (0, 0) _ rfl (heap_alloc_new w _) Tryz.underlying66 rfl (by kernel_rfl)) rfl ⟨rfl, Below.alloc (Below.refl _ _) (Nat.le_refl _) _⟩
  | true =>
    have e0 : goalC k true = [num (12 * k), num (16 * k), num (ratK k)] := rfl
    rw [e0]
    have hr : ∃ r, r = ratK k := ⟨_, rfl⟩
    obtain ⟨r, hr⟩ := hr
    rw [← hr] at Rk
    rw [← hr]
    have t4 : (x : Int) / 4 = ((16 * k : Nat) : Int) := by omega
    have t2 : (x : Int) / 2 = ((32 * k : Nat) : Int) := by omega
    have j1 : (0 : Int) < ((16 * k : Nat) : Int) := by omega
    have j2 : ((16 * k : Nat) : Int) < ((32 * k : Nat) : Int) := by omega
    have j3 : ((16 * k : Nat) : Int) < (x : Int) := by omega
    have j4 : ((12 * k : Nat) : Int) < ((16 * k : Nat) : Int) := by omega
    have j5 : ((16 * k : Nat) : Int) * 3 / 4 = ((12 * k : Nat) : Int) := by omega
    have j6 : ((16 * k : Nat) : Int) < 4194305 := by omega
    have j7 : ((32 * k : Nat) : Int) < 8388609 := by omega
    clear hr hx h4 hk e0
    generalize 12 * k = k12 at *
    generalize 16 * k = k16 at *
    generalize 32 * k = k32 at *
    obtain hn | ⟨hn, hn2⟩ | ⟨hn, hn2⟩ : N < 0 ∨ (¬ N < 0 ∧ 10000 < N) ∨ (¬ N < 0 ∧ ¬ 10000 < N) := by omega
    all_goals
      go_enter Tryz.func33, Tryz.ntmps33
      repeat' (first | (go_big_may; (first | (go_at_call 85; refine (Rk.out _).mono ?_; rintro e w1 ⟨rfl, n1, rfl⟩))) | go_values | go_skip | go_guarded | go_step | go_upon | dsimp only)
      have h := ((Sw.drewN n1 ((Sw.old w).allocc [.int .i64 0, .int .i64 0, .int .i64 0] 66)).set 0 (num k12)).set 1 (num k16) |>.set 2 (num r)
      exact bodyPost_ret (results_cell_row rfl _ _ w.heap.size 66 #[num k12, num k16, num r] (0, 0) _ rfl h.row Tryz.underlying66 rfl (by kernel_rfl)) rfl ⟨rfl, h.tail.below⟩
end Go.Proofs.YtfddmbafjniflaaGreatDoor
/-
  The document's goal of no words that live.
-/
namespace Go.Proofs.YtfddmbafjniflaaGreatDoor
open Go Go.RowKit
def clampZ (x lo hi : Int) : Int := max lo (min x hi)
set_option maxRecDepth 100000 in
set_option maxHeartbeats 1000000 in
theorem ref_clamp (x lo hi : Int) (w : World) : Calls Tryz.prog 62 #[.int .i64 x, .int .i64 lo, .int .i64 hi] w fun e w' => e = .returned (.int .i64 (clampZ x lo hi)) ∧ w' = w := by
  by_cases h1 : hi < x
  · by_cases h2 : lo < hi
    · have e : clampZ x lo hi = hi := by unfold clampZ; omega
      rw [e]; clear e
      go_enter Tryz.func62, Tryz.ntmps62
      repeat' (first | go_values | go_skip | go_guarded | go_step | go_upon | dsimp only)
      go_ret
      exact ⟨rfl, rfl⟩
    · have e : clampZ x lo hi = lo := by unfold clampZ; omega
      rw [e]; clear e
      go_enter Tryz.func62, Tryz.ntmps62
      repeat' (first | go_values | go_skip | go_guarded | go_step | go_upon | dsimp only)
      go_ret
      exact ⟨rfl, rfl⟩
  · by_cases h2 : lo < x
    · have e : clampZ x lo hi = x := by unfold clampZ; omega
      rw [e]; clear e
      go_enter Tryz.func62, Tryz.ntmps62
      repeat' (first | go_values | go_skip | go_guarded | go_step | go_upon | dsimp only)
      go_ret
      exact ⟨rfl, rfl⟩
    · have e : clampZ x lo hi = lo := by unfold clampZ; omega
      rw [e]; clear e
      go_enter Tryz.func62, Tryz.ntmps62
      repeat' (first | go_values | go_skip | go_guarded | go_step | go_upon | dsimp only)
      go_ret
      exact ⟨rfl, rfl⟩
set_option maxRecDepth 100000 in
set_option maxHeartbeats 1000000 in
theorem ref_add64 (w : World) : Calls Tryz.prog 102 #[.int .i64 0, .int .i64 64] w fun e w' => e = .returned (.int .i64 64) ∧ w' = w := by
  go_enter Tryz.func102, Tryz.ntmps102
  repeat' (first | go_values | go_skip | go_guarded | go_step | go_upon | dsimp only)
  go_ret
  exact ⟨rfl, rfl⟩
set_option maxRecDepth 100000 in
set_option maxHeartbeats 1000000 in
theorem ref_sub (a b c : Nat) (hb : 0 < b) (hc : a = b + c) (ha : a < 9223372036854775808) (w : World) : Calls Tryz.prog 103 #[num a, num b] w fun e w' => e = .returned (num c) ∧ w' = w := by
  have i1 : ¬ (b : Int) < 0 := by omega
  have i2 : (0 : Int) < b := by omega
  have e1 : IntKind.i64.wrap (-9223372036854775808 + (b : Int)) = -9223372036854775808 + (b : Int) := IntWalk.i64_in _ (by omega)
  have i3 : ¬ (a : Int) < -9223372036854775808 + (b : Int) := by omega
  have e2 : IntKind.i64.wrap ((a : Int) - (b : Int)) = (c : Int) := by rw [hc]; rw [show (((b + c : Nat) : Int) - (b : Int)) = (c : Int) by omega]; exact IntWalk.i64_in _ (by omega)
  clear hb hc ha
  go_enter Tryz.func103, Tryz.ntmps103
  repeat' (first | go_values | go_skip | go_guarded | go_step | go_upon | dsimp only)
  go_ret
  exact ⟨rfl, rfl⟩
set_option maxRecDepth 100000 in
set_option maxHeartbeats 1000000 in
theorem ref_whole (n : Nat) (hn : n < 8796093022208) (w : World) : Calls Tryz.prog 105 #[num n] w fun e w' => e = .returned (num (n * 1048576)) ∧ w' = w := by
  have i1 : ¬ (8796093022208 : Int) ≤ n := by omega
  have i2 : ¬ (n : Int) < -8796093022208 := by omega
  have e2 : IntKind.i64.wrap ((n : Int) * 1048576) = ((n * 1048576 : Nat) : Int) := by rw [show ((n : Int) * 1048576) = ((n * 1048576 : Nat) : Int) by omega]; exact IntWalk.i64_in _ (by omega)
  clear hn
  go_enter Tryz.func105, Tryz.ntmps105
  repeat' (first | go_values | go_skip | go_guarded | go_step | go_upon | dsimp only)
  go_ret
  exact ⟨rfl, rfl⟩
set_option maxRecDepth 100000 in
set_option maxHeartbeats 1000000 in
theorem ref_size (n : Nat) (hn : n < 9223372036854775808) (w : World) : Calls Tryz.prog 158 #[num n] w fun e w' => e = .returned (.int .u64 n) ∧ w' = w := by
  have i2 : ¬ (n : Int) < 0 := by omega
  have i3 : (n : Int) < 9223372036854775808 := by omega
  have e2 : IntKind.u64.wrap (n : Int) = (n : Int) := by simp only [IntKind.wrap_u64]; omega
  clear hn
  go_enter Tryz.func158, Tryz.ntmps158
  repeat' (first | go_values | go_skip | go_guarded | go_step | go_upon | dsimp only)
  go_ret
  exact ⟨rfl, rfl⟩
set_option maxRecDepth 100000 in
set_option maxHeartbeats 1000000 in
theorem ref_signed (lo : Nat) (m : Bool) (hl : lo < 9223372036854775808) (w : World) : Calls Tryz.prog 160 #[.bool false, .int .u64 0, .int .u64 lo, .bool m] w fun e w' => e = .returned (num lo) ∧ w' = w := by
  have i2 : ¬ (9223372036854775807 : Int) < lo := by omega
  have e2 : IntKind.i64.wrap (lo : Int) = (lo : Int) := IntWalk.i64_in _ (by omega)
  clear hl
  go_enter Tryz.func160, Tryz.ntmps160
  repeat' (first | go_values | go_skip | go_guarded | go_step | go_upon | dsimp only)
  go_ret
  exact ⟨rfl, rfl⟩
set_option maxRecDepth 100000 in
set_option maxHeartbeats 1000000 in
theorem ref_div (a b : Nat) (w : World) (ha0 : 0 < a) (ha : a < 17592186044416) (h0 : 0 < b) (hb : b < 9223372036854775808) (hq : a * 1048576 / b < 9223372036854775808) :
    Calls Tryz.prog 104 #[num a, num b] w fun e w' => e = .returned (num (a * 1048576 / b)) ∧ ∃ n, w' = w.drewN n := by
  have S1 := hid (fun w => ref_size a (by omega) w)
  have S2 := hid (fun w => ref_size b hb w)
  obtain ⟨A, hA⟩ : ∃ A, A = a * 1048576 := ⟨_, rfl⟩
  rw [← hA] at hq
  rw [← hA]
  have z : ((a : Int) / 17592186044416) = 0 := by omega
  have z2 : IntKind.u64.wrap ((a : Int) * 1048576) = (A : Int) := by simp only [IntKind.wrap_u64]; omega
  have K1 := hid (fun w => div64_small A b w (by rw [beq_eq_false_iff_ne]; omega) (by omega) (by omega) (by omega))
  have K2 := hid (fun w m => ref_signed (A / b) m hq w)
  have n0 : ((a : Int) == 0) = false := by rw [beq_eq_false_iff_ne]; omega
  have n3 : ((b : Int) == 0) = false := by rw [beq_eq_false_iff_ne]; omega
  have n1 : decide ((a : Int) < 0) = false := decide_eq_false (by omega)
  have n2 : decide ((b : Int) < 0) = false := decide_eq_false (by omega)
  have n4 : ¬ (a : Int) < 0 := by omega
  have n5 : ¬ (b : Int) < 0 := by omega
  have e6 : ¬ (b : Int) = 0 := by omega
  have e7 : ¬ b = 0 := by omega
  clear ha0 ha h0 hb hq hA
  go_enter Tryz.func104, Tryz.ntmps104
  repeat' (first | go_values | go_skip | go_guarded | go_step | go_upon | dsimp only)
  refine (S1.out _).mono ?_
  rintro e w1 ⟨rfl, rfl⟩
  repeat' (first | go_values | go_skip | go_guarded | go_step | go_upon | dsimp only)
  refine (S2.out _).mono ?_
  rintro e w1 ⟨rfl, rfl⟩
  repeat' (first | go_values | go_skip | go_guarded | go_step | go_upon | dsimp only)
  refine (K1.out _).mono ?_
  rintro e w2 ⟨rfl, n, rfl⟩
  repeat' (first | go_values | go_skip | go_guarded | go_step | go_upon | dsimp only)
  refine (K2.out _ _).mono ?_
  rintro e w3 ⟨rfl, rfl⟩
  repeat' (first | go_values | go_skip | go_guarded | go_step | go_upon | dsimp only)
  go_ret
  exact ⟨rfl, n, rfl⟩
set_option maxRecDepth 100000 in
set_option maxHeartbeats 2000000 in
theorem ref_ratio (k : Nat) (h4 : 4 ≤ k) (hk : k ≤ 262144) (w : World) : Calls Tryz.prog 63 #[.int .i64 0, num (12 * k), num (16 * k)] w fun e w' => e = .returned (num (ratK k)) ∧ ∃ n, w' = w.drewN n := by
  have hle := ratK_le k h4
  have Su := hid (fun w => ref_sub (16 * k) (12 * k) (4 * k) (by omega) (by omega) (by omega) w)
  have W0 := hid (fun w => ref_whole 64 (by omega) w)
  have W1 := hid (fun w => ref_whole (4 * k) (by omega) w)
  have D1 := hid (fun w => ref_div 67108864 (4 * k * 1048576) w (by omega) (by omega) (by omega) (by omega) (by omega))
  have Cl := hid (fun w => ref_clamp ((67108864 * 1048576 / (4 * k * 1048576) : Nat) : Int) 131072 67108864 w)
  have ec : clampZ ((67108864 * 1048576 / (4 * k * 1048576) : Nat) : Int) 131072 67108864 = ((ratK k : Nat) : Int) := by
    unfold clampZ ratK
    generalize 67108864 * 1048576 / (4 * k * 1048576) = q at *
    omega
  have Ec := hid ec
  have i2 : (1 : Int) < ((4 * k : Nat) : Int) := by omega
  have i1 : ¬ ((4 * k : Nat) : Int) < 1 := by omega
  clear hle ec
  generalize 67108864 * 1048576 / (4 * k * 1048576) = q at *
  generalize 12 * k = k12 at *
  generalize 16 * k = k16 at *
  generalize 4 * k = k4 at *
  generalize ratK k = r at *
  clear h4 hk
  go_enter Tryz.func63, Tryz.ntmps63
  repeat' (first | go_values | go_skip | go_guarded | go_step | go_upon | dsimp only)
  refine (ref_add64 _).mono ?_
  rintro e w1 ⟨rfl, rfl⟩
  repeat' (first | go_values | go_skip | go_guarded | go_step | go_upon | dsimp only)
  refine (Su.out _).mono ?_
  rintro e w1 ⟨rfl, rfl⟩
  repeat' (first | go_values | go_skip | go_guarded | go_step | go_upon | dsimp only)
  refine (W0.out _).mono ?_
  rintro e w1 ⟨rfl, rfl⟩
  repeat' (first | go_values | go_skip | go_guarded | go_step | go_upon | dsimp only)
  refine (W1.out _).mono ?_
  rintro e w1 ⟨rfl, rfl⟩
  repeat' (first | go_values | go_skip | go_guarded | go_step | go_upon | dsimp only)
  refine (D1.out _).mono ?_
  rintro e w1 ⟨rfl, n, rfl⟩
  repeat' (first | go_values | go_skip | go_guarded | go_step | go_upon | dsimp only)
  refine (Cl.out _).mono ?_
  rintro e w1 ⟨rfl, rfl⟩
  rw [Ec.out]
  repeat' (first | go_values | go_skip | go_guarded | go_step | go_upon | dsimp only)
  go_ret
  exact ⟨rfl, n, rfl⟩
set_option maxRecDepth 100000 in
set_option maxHeartbeats 2000000 in
theorem ref_goal (k : Nat) (h4 : 4 ≤ k) (hk : k ≤ 262144) (N : Int) (_hN : inI N) (on : Bool) (w : World) : Calls Tryz.prog 19 #[.int .i64 0, num (k * 64), .int .i64 N, .bool on] w fun e w' => e = .returned (.agg (goalC k on).toArray) ∧ Below w.heap.size w w' := by
  have Rk := hid (ref_ratio k h4 hk)
  have Cl := hid ref_clamp
  have c1 : clampZ ((k * 64 : Nat) : Int) 0 16777216 = ((k * 64 : Nat) : Int) := by unfold clampZ; omega
  have c2 : clampZ 0 0 ((k * 64 : Nat) : Int) = 0 := by unfold clampZ; omega
  have C1 := hid c1
  have C2 := hid c2
  clear c1 c2
  obtain ⟨p, hp⟩ : ∃ p, p = clampZ N 0 10000 := ⟨_, rfl⟩
  have hp1 : 0 ≤ p := by rw [hp]; unfold clampZ; omega
  have hp2 : p ≤ 10000 := by rw [hp]; unfold clampZ; omega
  have Hp := hid hp.symm
  clear hp
  cases on with
  | false =>
    have e0 : goalC k false = [num (k * 64), num (k * 64), .int .i64 0] := rfl
    rw [e0]
    generalize hx : k * 64 = x at *
    clear hx h4 hk e0
    go_enter Tryz.func19, Tryz.ntmps19
    repeat' (first | go_values | go_skip | go_guarded | go_step | go_upon | dsimp only)
    refine (Cl.out _ _ _ _).mono ?_
    rintro e w1 ⟨rfl, rfl⟩
    rw [C1.out]
    repeat' (first | go_values | go_skip | go_guarded | go_step | go_upon | dsimp only)
    refine (Cl.out _ _ _ _).mono ?_
    rintro e w1 ⟨rfl, rfl⟩
    rw [C2.out]
    repeat' (first | go_values | go_skip | go_guarded | go_step | go_upon | dsimp only)
    refine (Cl.out _ _ _ _).mono ?_
    rintro e w1 ⟨rfl, rfl⟩
    rw [Hp.out]
    repeat' (first | go_values | go_skip | go_guarded | go_step | go_upon | dsimp only)
    exact bodyPost_ret (results_cell_row rfl _ _ w.heap.size 66 #[num x, num x, .int .i64 0] (0, 0) _ rfl (heap_alloc_new w _) Tryz.underlying66 rfl (by kernel_rfl)) rfl ⟨rfl, Below.alloc (Below.refl _ _) (Nat.le_refl _) _⟩
  | true =>
    have e0 : goalC k true = [num (12 * k), num (16 * k), num (ratK k)] := rfl
    rw [e0]
    generalize hx : k * 64 = x at *
    have i1 : (0 : Int) < (x : Int) := by omega
    have i4 : (x : Int) ≤ 16777216 := by omega
    have t4 : (x : Int) / 4 = ((16 * k : Nat) : Int) := by omega
    have t2 : (x : Int) / 2 = ((32 * k : Nat) : Int) := by omega
    have j1 : (0 : Int) < ((16 * k : Nat) : Int) := by omega
    have j2 : ((16 * k : Nat) : Int) < ((32 * k : Nat) : Int) := by omega
    have j3 : ((16 * k : Nat) : Int) < (x : Int) := by omega
    have j4 : ((12 * k : Nat) : Int) < ((16 * k : Nat) : Int) := by omega
    have j5 : ((16 * k : Nat) : Int) * 3 / 4 = ((12 * k : Nat) : Int) := by omega
    have j6 : ((16 * k : Nat) : Int) < 4194305 := by omega
    have j7 : ((32 * k : Nat) : Int) < 8388609 := by omega
    clear hx h4 hk e0
    generalize ratK k = r at *
    generalize 12 * k = k12 at *
    generalize 16 * k = k16 at *
    generalize 32 * k = k32 at *
    go_enter Tryz.func19, Tryz.ntmps19
    repeat' (first | go_values | go_skip | go_guarded | go_step | go_upon | dsimp only)
    refine (Cl.out _ _ _ _).mono ?_
    rintro e w1 ⟨rfl, rfl⟩
    rw [C1.out]
    repeat' (first | go_values | go_skip | go_guarded | go_step | go_upon | dsimp only)
    refine (Cl.out _ _ _ _).mono ?_
    rintro e w1 ⟨rfl, rfl⟩
    rw [C2.out]
    repeat' (first | go_values | go_skip | go_guarded | go_step | go_upon | dsimp only)
    refine (Cl.out _ _ _ _).mono ?_
    rintro e w1 ⟨rfl, rfl⟩
    rw [Hp.out]
    repeat' (first | (go_big_may; (first | (go_at_call 63; refine (Rk.out _).mono ?_; rintro e w1 ⟨rfl, n1, rfl⟩))) | go_values | go_skip | go_guarded | go_step | go_upon | dsimp only)
    have h := ((Sw.drewN n1 ((Sw.old w).allocc [.int .i64 0, .int .i64 0, .int .i64 0] 66)).set 0 (num k12)).set 1 (num k16) |>.set 2 (num r)
    exact bodyPost_ret (results_cell_row rfl _ _ w.heap.size 66 #[num k12, num k16, num r] (0, 0) _ rfl h.row Tryz.underlying66 rfl (by kernel_rfl)) rfl ⟨rfl, h.tail.below⟩
end Go.Proofs.YtfddmbafjniflaaGreatDoor
