/-
  Package fix: what its functions come to.
-/
import Derived.Test.YtfddmbafjniflaaGreatDoorWords
namespace Go.Proofs.YtfddmbafjniflaaGreatDoor
open Go Go.RowKit
set_option maxHeartbeats 400000 in
theorem edge_any (b : Bool) (w : World) : Calls Tryz.prog 236 #[.bool b] w fun e w' => e = .returned (.int .i64 (if b then -9223372036854775808 else 9223372036854775807)) ∧ w' = w := by
  cases b
  all_goals
    go_enter Tryz.func236, Tryz.ntmps236
    go_wp2
    go_ret
    exact ⟨rfl, rfl⟩
set_option maxHeartbeats 400000 in
theorem add_any (a b : Int) (w : World) (ha : inI a) (hb : inI b) :
    Calls Tryz.prog 141 #[.int .i64 a, .int .i64 b] w fun e w' => e = .returned (.int .i64 (sat (a + b))) ∧ w' = w := by
  obtain ⟨ha1, ha2⟩ := ha
  obtain ⟨hb1, hb2⟩ := hb
  go_enter Tryz.func141, Tryz.ntmps141
  go_wp2_with (first | (go_at_call 236; refine (edge_any _ _).mono ?_; rintro e w' ⟨rfl, rfl⟩))
  all_goals
    go_ret
    refine ⟨ret_int (eq_sat ?_ ?_ ?_), rfl⟩ <;> intros <;> (try simp) <;> omega
set_option maxHeartbeats 400000 in
theorem sub_any (a b : Int) (w : World) (ha : inI a) (hb : inI b) :
    Calls Tryz.prog 142 #[.int .i64 a, .int .i64 b] w fun e w' => e = .returned (.int .i64 (sat (a - b))) ∧ w' = w := by
  obtain ⟨ha1, ha2⟩ := ha
  obtain ⟨hb1, hb2⟩ := hb
  go_enter Tryz.func142, Tryz.ntmps142
  go_wp2_with (first | (go_at_call 236; refine (edge_any _ _).mono ?_; rintro e w' ⟨rfl, rfl⟩))
  all_goals
    go_ret
    refine ⟨ret_int (eq_sat ?_ ?_ ?_), rfl⟩ <;> intros <;> (try simp) <;> omega
set_option maxHeartbeats 400000 in
theorem size_any (a : Int) (w : World) (ha : inI a) :
    Calls Tryz.prog 237 #[.int .i64 a] w fun e w' => e = .returned (.int .u64 (a.natAbs : Int)) ∧ w' = w := by
  obtain ⟨ha1, ha2⟩ := ha
  by_cases h : a < 0
  all_goals
    go_enter Tryz.func237, Tryz.ntmps237
    go_wp2
    go_ret
    refine ⟨ret_int ?_, rfl⟩
    (try simp only [IntKind.wrap_u64])
    omega
def madeV (hi lo : Nat) (b m : Bool) : Int := if b then sat (-(hi * 18446744073709551616 + lo + (if m then 1 else 0) : Int)) else sat (hi * 18446744073709551616 + lo)
set_option maxHeartbeats 400000 in
theorem made_in (lo : Nat) (m : Bool) (w : World) (h1 : ((lo : Int) == 9223372036854775808) = false) (h2 : ¬ 9223372036854775808 < (lo : Int)) (hl : lo < 9223372036854775808) :
    Calls Tryz.prog 238 #[.int .u64 0, .int .u64 lo, .bool false, .bool m] w fun e w' => e = .returned (.int .i64 lo) ∧ w' = w := by
  go_enter Tryz.func238, Tryz.ntmps238
  go_wp2_with fail
  go_ret
  exact ⟨rfl, rfl⟩
set_option maxHeartbeats 400000 in
theorem div64_small (lo y : Nat) (w : World) (hy : ((y : Int) == 0) = false) (h0 : ¬ (y : Int) ≤ 0) (hl : lo < 18446744073709551616) (hyl : y < 18446744073709551616) :
    Calls Tryz.prog 159 #[.int .u64 0, .int .u64 lo, .int .u64 y] w fun e w' => e = .returned (.tuple #[.int .u64 (lo / y : Nat), .int .u64 (lo % y : Nat)]) ∧ ∃ n, w' = w.drewN n := by
  go_enter Tryz.func159, Tryz.ntmps159
  go_wp2_with (first | (with_reducible refine wp_region_seg mixed (by decide +kernel) ?_) | (refine seg_look (by rfl) (fun K hK => ?_); go_simp; refine hK _ ?_; clear hK K) | (refine seg_act (by rfl) (fun K hK => ?_); go_simp) | (refine seg_nil ?_))
  go_ret2
  have e1 : IntKind.u64.wrap ((lo : Int) / y) = ((lo / y : Nat) : Int) := by
    have e0 : ((lo : Int) / y) = ((lo / y : Nat) : Int) := rfl
    have : lo / y ≤ lo := Nat.div_le_self _ _
    rw [e0]
    generalize lo / y = q at *
    simp only [IntKind.wrap_u64]; omega
  have e2 : (lo : Int).tmod y = ((lo % y : Nat) : Int) := rfl
  refine ⟨?_, 1, rfl⟩
  show Ending.returned (.tuple #[.int .u64 (IntKind.u64.wrap ((lo : Int) / y)), .int .u64 ((lo : Int).tmod y)]) = _
  rw [e1, e2]
  rfl
set_option maxHeartbeats 400000 in
theorem int_any (a : Int) (w : World) : Calls Tryz.prog 248 #[.int .i64 a] w fun e w' => e = .returned (.int .i64 (a / 1048576)) ∧ w' = w := by
  go_enter Tryz.func248, Tryz.ntmps248
  go_wp2
  go_ret
  exact ⟨rfl, rfl⟩
theorem or_cut (P : Nat) (h : P / 18446744073709551616 < 1048576) :
    bits .or .u64 ((P : Int) / 18446744073709551616 * 17592186044416) ((P : Int) % 18446744073709551616 / 1048576) = ((P / 1048576 : Nat) : Int) := by
  have e1 : ((P : Int) / 18446744073709551616 * 17592186044416) = ((P / 18446744073709551616 * 17592186044416 : Nat) : Int) := by omega
  have e2 : ((P : Int) % 18446744073709551616 / 1048576) = ((P % 18446744073709551616 / 1048576 : Nat) : Int) := by omega
  rw [e1, e2, bits_or_u64_nat _ _ (by omega) (by omega)]
  have h3 : P % 18446744073709551616 / 1048576 < 2 ^ 44 := by omega
  have h4 := Nat.shiftLeft_add_eq_or_of_lt h3 (P / 18446744073709551616)
  rw [Nat.shiftLeft_eq] at h4
  have h5 : (2 : Nat) ^ 44 = 17592186044416 := by decide
  rw [h5] at h4
  rw [← h4]
  omega
/-- A product of numbers that are not below 0, where nothing is cut at the edge. -/
theorem mul_nat (a b : Nat) (w : World) (h : a * b / 1048576 < 9223372036854775808) (ha : a < 9223372036854775808) (hb : b < 9223372036854775808)
    (hm : ∀ w, Calls Tryz.prog 249 #[.int .u64 a, .int .u64 b] w fun e w' => e = .returned (.tuple #[.int .u64 ((a * b / 18446744073709551616 : Nat) : Int), .int .u64 ((a * b % 18446744073709551616 : Nat) : Int)]) ∧ w' = w) :
    Calls Tryz.prog 166 #[.int .i64 a, .int .i64 b] w fun e w' => e = .returned (.int .i64 (a * b / 1048576 : Nat)) ∧ w' = w := by
  have Hm := hid hm
  clear hm
  have a1 : (a : Int).natAbs = a := rfl
  have b1 : (b : Int).natAbs = b := rfl
  have s1 := size_any a w ⟨by omega, by omega⟩
  have s2 := size_any b w ⟨by omega, by omega⟩
  rw [a1] at s1
  rw [b1] at s2
  have S1 := hid s1
  have S2 := hid s2
  have o := or_cut (a * b) (by omega)
  rw [Int.natCast_mul] at o
  have z : ((a : Int) * b / 18446744073709551616 / 1048576) = ((0 : Nat) : Int) := by rw [← Int.natCast_mul]; omega
  have k := made_in (a * b / 1048576) (bits .and .u64 ((a : Int) * b % 18446744073709551616) 1048575 != 0) w (by rw [beq_eq_false_iff_ne]; omega) (by omega) h
  have O := hid o
  have Z := hid z
  have K := hid k
  clear s1 s2 a1 b1 o z k
  have n1 : decide ((a : Int) < 0) = false := decide_eq_false (by omega)
  have n2 : decide ((b : Int) < 0) = false := decide_eq_false (by omega)
  go_enter Tryz.func166, Tryz.ntmps166
  go_wp2_with fail
  refine S1.out.mono ?_
  rintro e w1 ⟨rfl, rfl⟩
  go_wp2_with fail
  refine S2.out.mono ?_
  rintro e w1 ⟨rfl, rfl⟩
  go_wp2_with fail
  refine (Hm.out _).mono ?_
  rintro e w1 ⟨rfl, rfl⟩
  go_wp2_with fail
  rw [O.out, Z.out]
  refine K.out.mono ?_
  rintro e w1 ⟨rfl, rfl⟩
  go_wp2_with fail
  go_ret
  exact ⟨rfl, rfl⟩
def Mul64Said : Prop := ∀ (a b : Nat) (w : World), a < 18446744073709551616 → b < 18446744073709551616 →
  Calls Tryz.prog 249 #[.int .u64 a, .int .u64 b] w fun e w' => e = .returned (.tuple #[.int .u64 ((a * b / 18446744073709551616 : Nat) : Int), .int .u64 ((a * b % 18446744073709551616 : Nat) : Int)]) ∧ w' = w
theorem whole_nat (m64 : Mul64Said) (n : Nat) (w : World) (h : n < 8796093022208) : Calls Tryz.prog 140 #[.int .i64 n] w fun e w' => e = .returned (.int .i64 (n * 1048576 : Nat)) ∧ w' = w := by
  have e : n * 1099511627776 / 1048576 = n * 1048576 := by omega
  have k := mul_nat n 1099511627776 w (by omega) (by omega) (by omega) (fun w => m64 _ _ w (by omega) (by omega))
  rw [e] at k
  have K := hid k
  clear k e m64
  go_enter Tryz.func140, Tryz.ntmps140
  go_wp2_with fail
  refine K.out.mono ?_
  rintro e w1 ⟨rfl, rfl⟩
  go_wp2_with fail
  go_ret
  exact ⟨rfl, rfl⟩
set_option maxHeartbeats 400000 in
theorem div_nat (a b : Nat) (w : World) (ha : a < 17592186044416) (h0 : 0 < b) (hb : b < 9223372036854775808) (hq : a * 1048576 / b < 9223372036854775808) :
    Calls Tryz.prog 144 #[.int .i64 a, .int .i64 b] w fun e w' => e = .returned (.int .i64 (a * 1048576 / b : Nat)) ∧ ∃ n, w' = w.drewN n := by
  have a1 : (a : Int).natAbs = a := rfl
  have b1 : (b : Int).natAbs = b := rfl
  have s1 := size_any a w ⟨by omega, by omega⟩
  have s2 := size_any b w ⟨by omega, by omega⟩
  rw [a1] at s1
  rw [b1] at s2
  have S1 := hid s1
  have S2 := hid s2
  have z : ((a : Int) / 17592186044416) = 0 := by omega
  have z2 : IntKind.u64.wrap ((a : Int) * 1048576) = ((a * 1048576 : Nat) : Int) := by simp only [IntKind.wrap_u64]; omega
  have k1 := fun w => div64_small (a * 1048576) b w (by rw [beq_eq_false_iff_ne]; omega) (by omega) (by omega) (by omega)
  have k2 := fun w m => made_in (a * 1048576 / b) m w (by rw [beq_eq_false_iff_ne]; omega) (by omega) hq
  have K1 := hid k1
  have K2 := hid k2
  clear s1 s2 a1 b1 k1 k2
  have n1 : decide ((a : Int) < 0) = false := decide_eq_false (by omega)
  have n2 : decide ((b : Int) < 0) = false := decide_eq_false (by omega)
  have n3 : ((b : Int) == 0) = false := by rw [beq_eq_false_iff_ne]; omega
  go_enter Tryz.func144, Tryz.ntmps144
  go_wp2_with fail
  refine S1.out.mono ?_
  rintro e w1 ⟨rfl, rfl⟩
  go_wp2_with fail
  refine S2.out.mono ?_
  rintro e w1 ⟨rfl, rfl⟩
  go_wp2_with (first | (with_reducible refine wp_region_seg mixed (by decide +kernel) ?_) | (refine seg_look (by rfl) (fun K hK => ?_); go_simp; refine hK _ ?_; clear hK K) | (refine seg_act (by rfl) (fun K hK => ?_); go_simp) | (refine seg_nil ?_))
  rw [show ((a : Int) * 1048576) = ((a * 1048576 : Nat) : Int) from rfl]
  refine (K1.out _).mono ?_
  rintro e w1 ⟨rfl, n, rfl⟩
  go_wp2_with (first | (with_reducible refine wp_region_seg mixed (by decide +kernel) ?_) | (refine seg_look (by rfl) (fun K hK => ?_); go_simp; refine hK _ ?_; clear hK K) | (refine seg_act (by rfl) (fun K hK => ?_); go_simp) | (refine seg_nil ?_))
  refine (K2.out _ _).mono ?_
  rintro e w1 ⟨rfl, rfl⟩
  go_wp2_with (first | (with_reducible refine wp_region_seg mixed (by decide +kernel) ?_) | (refine seg_look (by rfl) (fun K hK => ?_); go_simp; refine hK _ ?_; clear hK K) | (refine seg_act (by rfl) (fun K hK => ?_); go_simp) | (refine seg_nil ?_))
  go_ret
  exact ⟨rfl, n, rfl⟩
end Go.Proofs.YtfddmbafjniflaaGreatDoor
