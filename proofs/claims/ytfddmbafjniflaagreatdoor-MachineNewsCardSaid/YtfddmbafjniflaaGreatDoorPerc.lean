/-
  Package conf: May, for every configuration.
-/
import Derived.Test.YtfddmbafjniflaaGreatDoorDec2
namespace Go.Proofs.YtfddmbafjniflaaGreatDoor
open Go Go.RowKit
/-- A configuration that may be (2). -/
def mayC (ps words : Int) : Bool := decide (1 ≤ ps) && decide (ps ≤ 64) && decide (256 ≤ words) && decide (words ≤ 16777216) && decide (words % 64 = 0)
set_option maxRecDepth 100000 in
set_option maxHeartbeats 1000000 in
theorem conf_may (w : World) (ps words : Int) (x y : Value) : Calls Tryz.prog 22 #[.agg #[.int .i64 ps, .int .i64 words, x, y]] w fun e w' => e = .returned (.bool (mayC ps words)) ∧ Below w.heap.size w w' := by
  have h0 := (Sw.old w).allocc [.int .i64 ps, .int .i64 words, x, y] 24
  have c0 := h0.cell 0 rfl
  have c1 := h0.cell 1 rfl
  have H0 := hid h0
  clear h0
  unfold mayC
  by_cases h1 : 1 ≤ ps
  · by_cases h2 : ps ≤ 64
    · by_cases h3 : 256 ≤ words
      · by_cases h4 : words ≤ 16777216
        · have h5 : words.tmod 64 = words % 64 := Int.tmod_eq_emod_of_nonneg (by omega)
          go_enter Tryz.func22, Tryz.ntmps22
          repeat' (first | go_values | go_skip | go_guarded | go_step | go_upon | dsimp only)
          go_ret
          exact ⟨by simp [h1, h2, h3, h4]; try rfl, H0.out.tail.below⟩
        · go_enter Tryz.func22, Tryz.ntmps22
          repeat' (first | go_values | go_skip | go_guarded | go_step | go_upon | dsimp only)
          go_ret
          exact ⟨by simp [h1, h2, h3, h4], H0.out.tail.below⟩
      · go_enter Tryz.func22, Tryz.ntmps22
        repeat' (first | go_values | go_skip | go_guarded | go_step | go_upon | dsimp only)
        go_ret
        exact ⟨by simp [h1, h2, h3], H0.out.tail.below⟩
    · go_enter Tryz.func22, Tryz.ntmps22
      repeat' (first | go_values | go_skip | go_guarded | go_step | go_upon | dsimp only)
      go_ret
      exact ⟨by simp [h1, h2], H0.out.tail.below⟩
  · go_enter Tryz.func22, Tryz.ntmps22
    repeat' (first | go_values | go_skip | go_guarded | go_step | go_upon | dsimp only)
    go_ret
    exact ⟨by simp [h1], H0.out.tail.below⟩
end Go.Proofs.YtfddmbafjniflaaGreatDoor
/-
  Whole numbers as floats of 64 bits: what is written is read again. Plain.
-/
namespace Go.Proofs.YtfddmbafjniflaaGreatDoor
open Go Ieee
theorem cut_zero (way : Toward) (neg : Bool) (n : Nat) (hw : way = .even ∨ way = .zero) : way.cut neg n 0 = n := by
  rcases hw with rfl | rfl <;> simp [Toward.cut, Nat.mod_one]
theorem nearest_nat (n : Nat) (h0 : n ≠ 0) (h : n < 2 ^ 53) : double.nearest false n 0 = (n.log2 + 1022) * 2 ^ 52 + n * 2 ^ (52 - n.log2) := by
  have hL : n.log2 < 53 := (Nat.log2_lt h0).2 h
  have h2 : n * 2 ^ (52 - n.log2) < 2 ^ 53 := by
    have : n < 2 ^ (n.log2 + 1) := Nat.lt_log2_self
    calc n * 2 ^ (52 - n.log2) < 2 ^ (n.log2 + 1) * 2 ^ (52 - n.log2) := Nat.mul_lt_mul_of_pos_right this (Nat.two_pow_pos _)
      _ = 2 ^ 53 := by rw [← Nat.pow_add]; congr 1; omega
  unfold Format.nearest
  rw [if_neg h0]
  have e1 : max ((0 : Int) + n.log2 - (double.fractionBits : Nat)) (-1074) = (n.log2 : Int) - 52 := by
    have b : (double.fractionBits : Nat) = 52 := rfl
    rw [b]; omega
  have a : double.leastPlace = -1074 := by decide
  simp only [a, e1]
  have e2 : ((0 : Int) - ((n.log2 : Int) - 52)).toNat = 52 - n.log2 := by omega
  have e3 : (((n.log2 : Int) - 52) - 0).toNat = 0 := by omega
  have e4 : (((n.log2 : Int) - 52) - (-1074)).toNat = n.log2 + 1022 := by omega
  rw [e2, e3, e4, cut_zero _ _ _ (.inl rfl), Nat.shiftLeft_eq]
  have b : double.binade = 2 ^ 52 := by decide
  have c : double.infRung = 2047 * 2 ^ 52 := by decide
  rw [b, c, Nat.min_eq_left (by omega)]
  rfl
theorem read_nat (n : Nat) (h0 : n ≠ 0) (h : n < 2 ^ 53) : double.read (double.nearest false n 0) = .number false (n * 2 ^ (52 - n.log2)) ((n.log2 : Int) - 52) := by
  have hL : n.log2 < 53 := (Nat.log2_lt h0).2 h
  have h2 : n * 2 ^ (52 - n.log2) < 2 ^ 53 := by
    have : n < 2 ^ (n.log2 + 1) := Nat.lt_log2_self
    calc n * 2 ^ (52 - n.log2) < 2 ^ (n.log2 + 1) * 2 ^ (52 - n.log2) := Nat.mul_lt_mul_of_pos_right this (Nat.two_pow_pos _)
      _ = 2 ^ 53 := by rw [← Nat.pow_add]; congr 1; omega
  have h3 : 2 ^ 52 ≤ n * 2 ^ (52 - n.log2) := by
    have : 2 ^ n.log2 ≤ n := Nat.log2_self_le h0
    calc 2 ^ 52 = 2 ^ n.log2 * 2 ^ (52 - n.log2) := by rw [← Nat.pow_add]; congr 1; omega
      _ ≤ n * 2 ^ (52 - n.log2) := Nat.mul_le_mul_right _ this
  rw [nearest_nat n h0 h]
  generalize n * 2 ^ (52 - n.log2) = m at *
  generalize n.log2 = L at *
  have a : double.leastPlace = -1074 := by decide
  have b : double.binade = 2 ^ 52 := by decide
  have c : double.infRung = 2047 * 2 ^ 52 := by decide
  have d : double.signWeight = 2 ^ 63 := by decide
  unfold Format.read
  simp only [a, b, c, d]
  have e1 : ((L + 1022) * 2 ^ 52 + m) / 2 ^ 63 = 0 := by omega
  have e2 : ((L + 1022) * 2 ^ 52 + m) % 2 ^ 63 = (L + 1022) * 2 ^ 52 + m := by omega
  rw [e1, e2, if_neg (by omega), if_pos (by omega)]
  have e3 : ((L + 1022) * 2 ^ 52 + m) % 2 ^ 52 = m - 2 ^ 52 := by omega
  have e4 : ((L + 1022) * 2 ^ 52 + m) / 2 ^ 52 = L + 1023 := by omega
  rw [e3, e4]
  have e5 : 2 ^ 52 + (m - 2 ^ 52) = m := by omega
  have e6 : (-1074 : Int) + ((L + 1023 - 1 : Nat) : Int) = (L : Int) - 52 := by omega
  rw [e5, e6]; rfl
theorem toInt_nat (n : Nat) (h : n < 2 ^ 53) : (double.read (double.nearest false n 0)).toInt .zero = some (n : Int) := by
  by_cases h0 : n = 0
  · subst h0; decide
  · rw [read_nat n h0 h]
    have hL : n.log2 < 53 := (Nat.log2_lt h0).2 h
    have h3 : 2 ^ 52 ≤ n * 2 ^ (52 - n.log2) := by
      have : 2 ^ n.log2 ≤ n := Nat.log2_self_le h0
      calc 2 ^ 52 = 2 ^ n.log2 * 2 ^ (52 - n.log2) := by rw [← Nat.pow_add]; congr 1; omega
        _ ≤ n * 2 ^ (52 - n.log2) := Nat.mul_le_mul_right _ this
    have h4 : 52 ≤ (n * 2 ^ (52 - n.log2)).log2 := (Nat.le_log2 (by omega)).2 h3
    have e1 : ((n.log2 : Int) - 52).toNat = 0 := by omega
    have e2 : (-((n.log2 : Int) - 52)).toNat = 52 - n.log2 := by omega
    unfold Datum.toInt Datum.integral
    simp only [e1, e2, Toward.cut, Nat.shiftLeft_zero, Nat.min_eq_left (show 52 - n.log2 ≤ (n * 2 ^ (52 - n.log2)).log2 + 2 by omega), Nat.one_shiftLeft, Nat.mul_div_cancel _ (Nat.two_pow_pos _), signed]
    simp
/-- Down and towards zero are the same of a number that is not negative. -/
theorem integral_down (mag : Nat) (place : Int) : (Datum.number false mag place).integral .down = (Datum.number false mag place).integral .zero := by
  simp [Datum.integral, Toward.cut]
theorem floor_toInt (mag : Nat) (place : Int) (N : Nat) (hN : (Datum.number false mag place).toInt .zero = some (N : Int)) (h : N < 2 ^ 53) :
    (double.read (double.write ((Datum.number false mag place).integral .down))).toInt .zero = some (N : Int) := by
  rw [integral_down]
  unfold Datum.toInt at hN
  simp only [Datum.integral, signed] at hN
  simp at hN
  have : Toward.cut .zero false (mag <<< place.toNat) (-place).toNat = N := by
    have := hN; omega
  simp only [Datum.integral, this, Format.write]
  exact toInt_nat N h
end Go.Proofs.YtfddmbafjniflaaGreatDoor
/-
  Package conf: Percent, at every float.
-/
namespace Go.Proofs.YtfddmbafjniflaaGreatDoor
open Go Go.RowKit Ieee
set_option maxRecDepth 100000 in
set_option maxHeartbeats 1000000 in
theorem isinf1 (w : World) (b : Nat) : Calls Tryz.prog 78 #[.float .f64 b, .int .i64 1] w fun e w' => e = .returned (.bool (FloatKind.f64.format.order b 9218868437227405311 == some Ordering.gt)) ∧ w' = w := by
  go_enter Tryz.func78, Tryz.ntmps78
  repeat' (first | go_values | go_skip | go_guarded | go_step | go_upon | dsimp only)
  go_ret
  exact ⟨rfl, rfl⟩
set_option maxRecDepth 100000 in
set_option maxHeartbeats 1000000 in
theorem conf_percent_nan (w : World) (b : Nat) (h : (FloatKind.f64.format.order b b != some Ordering.eq) = true) : Calls Tryz.prog 25 #[.float .f64 b] w fun e w' => e = .returned (.tuple #[num 100, .bool true]) ∧ w' = w := by
  go_enter Tryz.func25, Tryz.ntmps25
  repeat' (first | go_values | go_skip | go_guarded | go_step | go_upon | dsimp only)
  go_ret2
  exact ⟨rfl, rfl⟩
set_option maxRecDepth 100000 in
set_option maxHeartbeats 1000000 in
theorem conf_percent_less (w : World) (b : Nat) (h : (FloatKind.f64.format.order b b != some Ordering.eq) = false) (h2 : (FloatKind.f64.format.order b 0 == some Ordering.lt) = true) : Calls Tryz.prog 25 #[.float .f64 b] w fun e w' => e = .returned (.tuple #[num 0, .bool false]) ∧ w' = w := by
  go_enter Tryz.func25, Tryz.ntmps25
  repeat' (first | go_values | go_skip | go_guarded | go_step | go_upon | dsimp only)
  go_ret2
  exact ⟨rfl, rfl⟩
set_option maxRecDepth 100000 in
set_option maxHeartbeats 1000000 in
theorem conf_percent_inf (w : World) (b : Nat) (h : (FloatKind.f64.format.order b b != some Ordering.eq) = false) (h2 : (FloatKind.f64.format.order b 0 == some Ordering.lt) = false) (h3 : (FloatKind.f64.format.order b 9218868437227405311 == some Ordering.gt) = true) : Calls Tryz.prog 25 #[.float .f64 b] w fun e w' => e = .returned (.tuple #[num 0, .bool false]) ∧ w' = w := by
  go_enter Tryz.func25, Tryz.ntmps25
  repeat' (first | (go_big_may; (first | (go_at_call 78; refine (isinf1 w b).mono ?_; rintro e v4 ⟨rfl, rfl⟩))) | go_values | go_skip | go_guarded | go_step | go_upon | dsimp only)
  go_ret2
  exact ⟨rfl, rfl⟩
theorem call_floor (w : World) (b : Nat) : (callFunc 136 #[.float .f64 b]).run Tryz.prog w = (do pure (Next.value (← Extern.MathFloor.toIntegral "math.archFloor" .down #[.float .f64 b])) : Sem Next).run Tryz.prog w := by kernel_rfl
theorem call_floor_num (w : World) (b : Nat) (neg : Bool) (mag : Nat) (place : Int) (hd : FloatKind.f64.decode b = .number neg mag place) : (callFunc 136 #[.float .f64 b]).run Tryz.prog w = .ok (.value (.float .f64 (FloatKind.f64.encode ((Datum.number neg mag place).integral .down)))) w := by
  rw [call_floor]
  unfold Extern.MathFloor.toIntegral
  delta Extern.MathFloor.toIntegral.match_2
  delta Extern.MathFloor.toIntegral._sparseCasesOn_2 Extern.MathFloor.toIntegral._sparseCasesOn_3
  dsimp [Array.getLit]
  rw [hd]
  rfl
set_option maxRecDepth 100000 in
set_option maxHeartbeats 1000000 in
theorem floor_num (w : World) (b : Nat) (neg : Bool) (mag : Nat) (place : Int) (hd : FloatKind.f64.decode b = .number neg mag place) : Calls Tryz.prog 79 #[.float .f64 b] w fun e w' => e = .returned (.float .f64 (FloatKind.f64.encode ((Datum.number neg mag place).integral .down))) ∧ w' = w := by
  have hc := fun w => call_floor_num w b neg mag place hd
  go_enter Tryz.func79, Tryz.ntmps79
  repeat' (first | go_values | go_skip | go_guarded | go_step | go_upon | dsimp only)
  go_ret
  exact ⟨rfl, rfl⟩
set_option maxRecDepth 100000 in
set_option maxHeartbeats 1000000 in
theorem conf_percent_of (w : World) (b c mag N : Nat) (place : Int) (h : (FloatKind.f64.format.order b b != some Ordering.eq) = false) (h2 : (FloatKind.f64.format.order b 0 == some Ordering.lt) = false) (h3 : (FloatKind.f64.format.order b 9218868437227405311 == some Ordering.gt) = false)
    (h5 : ∀ w, (Builtin.min_ #[22, 22] 22 #[.float .f64 b, .float .f64 4666723172467343360]).run Tryz.prog w = .ok (.float .f64 c) w) (hd : FloatKind.f64.decode c = .number false mag place) (hN : (Datum.number false mag place).toInt .zero = some (N : Int)) (hlt : N ≤ 10000) : Calls Tryz.prog 25 #[.float .f64 b] w fun e w' => e = .returned (.tuple #[num N, .bool true]) ∧ w' = w := by
  have h7 : ∀ w, (Conv.floatToInt .f64 (FloatKind.f64.encode ((Datum.number false mag place).integral .down)) .i64).run Tryz.prog w = .ok (num N) w := by
    intro w
    have h6 : (FloatKind.f64.decode (FloatKind.f64.encode ((Datum.number false mag place).integral .down))).toInt .zero = some (N : Int) := floor_toInt mag place N hN (by omega)
    have m1 : IntKind.i64.min = -9223372036854775808 := by decide
    have m2 : IntKind.i64.max = 9223372036854775807 := by decide
    unfold Conv.floatToInt
    simp only [h6]
    rw [m1, m2, if_pos (by omega)]
    rfl
  have h9 : ∀ w, (convert 22 3 (.float .f64 (FloatKind.f64.encode ((Datum.number false mag place).integral .down)))).run Tryz.prog w = .ok (num N) w := fun w => (by kernel_rfl : _ = (Conv.floatToInt .f64 (FloatKind.f64.encode ((Datum.number false mag place).integral .down)) .i64).run Tryz.prog w).trans (h7 w)
  go_enter Tryz.func25, Tryz.ntmps25
  repeat' (first | (go_big_may; (first | (go_at_call 78; refine (isinf1 w b).mono ?_; rintro e v4 ⟨rfl, rfl⟩) | (go_at_call 79; refine (floor_num _ c false mag place hd).mono ?_; rintro e v5 ⟨rfl, rfl⟩))) | go_values | go_skip | go_guarded | go_step | go_upon | dsimp only)
  go_ret2
  exact ⟨rfl, rfl⟩
theorem conf_percent_small (w : World) (b mag N : Nat) (place : Int) (h : (FloatKind.f64.format.order b b != some Ordering.eq) = false) (h2 : (FloatKind.f64.format.order b 0 == some Ordering.lt) = false) (h3 : (FloatKind.f64.format.order b 9218868437227405311 == some Ordering.gt) = false)
    (h4 : FloatKind.f64.format.order b 4666723172467343360 = some .lt) (hd : FloatKind.f64.decode b = .number false mag place) (hN : (Datum.number false mag place).toInt .zero = some (N : Int)) (hlt : N ≤ 10000) : Calls Tryz.prog 25 #[.float .f64 b] w fun e w' => e = .returned (.tuple #[num N, .bool true]) ∧ w' = w :=
  conf_percent_of w b b mag N place h h2 h3 (fun w => by simp [Builtin.min_, Builtin.min2, h4, go_sem]) hd hN hlt
theorem conf_percent_big (w : World) (b : Nat) (h : (FloatKind.f64.format.order b b != some Ordering.eq) = false) (h2 : (FloatKind.f64.format.order b 0 == some Ordering.lt) = false) (h3 : (FloatKind.f64.format.order b 9218868437227405311 == some Ordering.gt) = false)
    (h4 : FloatKind.f64.format.order b 4666723172467343360 = some .gt) : Calls Tryz.prog 25 #[.float .f64 b] w fun e w' => e = .returned (.tuple #[num 10000, .bool true]) ∧ w' = w :=
  conf_percent_of w b 4666723172467343360 5497558138880000 10000 (-39) h h2 h3 (fun w => by simp [Builtin.min_, Builtin.min2, h4, go_sem]) (by decide +kernel) (by decide +kernel) (Nat.le_refl _)
theorem conf_percent_eq (w : World) (b mag : Nat) (place : Int) (h : (FloatKind.f64.format.order b b != some Ordering.eq) = false) (h2 : (FloatKind.f64.format.order b 0 == some Ordering.lt) = false) (h3 : (FloatKind.f64.format.order b 9218868437227405311 == some Ordering.gt) = false)
    (h4 : FloatKind.f64.format.order b 4666723172467343360 = some .eq) (hd : FloatKind.f64.decode b = .number false mag place) : Calls Tryz.prog 25 #[.float .f64 b] w fun e w' => e = .returned (.tuple #[num 10000, .bool true]) ∧ w' = w :=
  conf_percent_of w b 4666723172467343360 5497558138880000 10000 (-39) h h2 h3 (fun w => by simp [Builtin.min_, Builtin.min2, h4, hd, Datum.neg, go_sem]) (by decide +kernel) (by decide +kernel) (Nat.le_refl _)
end Go.Proofs.YtfddmbafjniflaaGreatDoor
