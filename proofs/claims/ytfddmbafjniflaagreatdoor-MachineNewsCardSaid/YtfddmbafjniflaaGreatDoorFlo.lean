/-
  Floats as the configuration reads them: what is on, what is cut down, at every float64.
-/
import Derived.Test.YtfddmbafjniflaaGreatDoorPerc
namespace Go.Proofs.YtfddmbafjniflaaGreatDoor
open Go Go.RowKit Ieee
/-- Is the collector on? Of no number: yes; of a number below 0 or beyond all others: no. -/
def onF (b : Nat) : Bool := (FloatKind.f64.format.order b b != some Ordering.eq) || (!(FloatKind.f64.format.order b 0 == some Ordering.lt) && !(FloatKind.f64.format.order b 9218868437227405311 == some Ordering.gt))
theorem wrap_inI (x : Int) : inI (IntKind.i64.wrap x) := by
  rw [IntWalk.i64_left]; unfold wrap64 inI; omega
theorem drew_none (w : World) : w = w.drewN 0 := rfl
theorem drew_one (w : World) : w.drew = w.drewN 1 := rfl
theorem to_int_any (w : World) (b : Nat) : ∃ (N : Int) (n : Nat), inI N ∧ (Conv.floatToInt .f64 b .i64).run Tryz.prog w = .ok (.int .i64 N) (w.drewN n) := by
  have m1 : IntKind.i64.min = -9223372036854775808 := by decide
  have m2 : IntKind.i64.max = 9223372036854775807 := by decide
  have hf : (Question.floatToInt .f64 b .i64).forced = false := rfl
  unfold Conv.floatToInt
  cases h : (FloatKind.f64.decode b).toInt .zero with
  | none =>
    refine ⟨IntKind.i64.wrap (((Question.floatToInt .f64 b .i64).cut (w.tape w.drawn (Question.floatToInt .f64 b .i64)) : Nat) : Int), 1, wrap_inI _, ?_⟩
    simp only [Sem.run_bind, run_choose_drew, hf, Sem.run_pure]
    rfl
  | some x =>
    simp only [m1, m2]
    by_cases hx : -9223372036854775808 ≤ x ∧ x ≤ 9223372036854775807
    · rw [if_pos hx]
      exact ⟨x, 0, hx, rfl⟩
    · rw [if_neg hx]
      refine ⟨IntKind.i64.wrap (((Question.floatToInt .f64 b .i64).cut (w.tape w.drawn (Question.floatToInt .f64 b .i64)) : Nat) : Int), 1, wrap_inI _, ?_⟩
      simp only [Sem.run_bind, run_choose_drew, hf, Sem.run_pure]
      rfl
theorem conv_int (w : World) (b : Nat) : ∃ (N : Int) (n : Nat), inI N ∧ (convert 22 3 (.float .f64 b)).run Tryz.prog w = .ok (.int .i64 N) (w.drewN n) := by
  obtain ⟨N, n, h1, h2⟩ := to_int_any w b
  exact ⟨N, n, h1, (by kernel_rfl : _ = (Conv.floatToInt .f64 b .i64).run Tryz.prog w).trans h2⟩
theorem conv_int64 (w : World) (b : Nat) : ∃ (N : Int) (n : Nat), inI N ∧ (convert 22 2 (.float .f64 b)).run Tryz.prog w = .ok (.int .i64 N) (w.drewN n) := by
  obtain ⟨N, n, h1, h2⟩ := to_int_any w b
  exact ⟨N, n, h1, (by kernel_rfl : _ = (Conv.floatToInt .f64 b .i64).run Tryz.prog w).trans h2⟩
theorem call_floor_any (w : World) (b : Nat) : ∃ c n, (callFunc 136 #[.float .f64 b]).run Tryz.prog w = .ok (.value (.float .f64 c)) (w.drewN n) := by
  rw [call_floor]
  unfold Extern.MathFloor.toIntegral
  delta Extern.MathFloor.toIntegral.match_2
  delta Extern.MathFloor.toIntegral._sparseCasesOn_2 Extern.MathFloor.toIntegral._sparseCasesOn_3
  dsimp [Array.getLit]
  cases hd : FloatKind.f64.decode b with
  | number s m p => exact ⟨_, 0, rfl⟩
  | infinity s => exact ⟨_, 0, rfl⟩
  | nan s t =>
    dsimp only
    by_cases hq : FloatKind.f64.format.quiet t = t
    · rw [if_pos hq]
      exact ⟨_, 0, rfl⟩
    · rw [if_neg hq]
      exact ⟨_, 1, rfl⟩
set_option maxRecDepth 100000 in
set_option maxHeartbeats 1000000 in
theorem floor_any (w : World) (b : Nat) : Calls Tryz.prog 79 #[.float .f64 b] w fun e w' => ∃ c n, e = .returned (.float .f64 c) ∧ w' = w.drewN n := by
  obtain ⟨c, n, hc⟩ := call_floor_any w b
  go_enter Tryz.func79, Tryz.ntmps79
  repeat' (first | go_values | go_skip | go_guarded | go_step | go_upon | dsimp only)
  go_ret
  exact ⟨c, n, rfl, rfl⟩
theorem order_some (b c : Nat) (h : (FloatKind.f64.format.order b b != some Ordering.eq) = false) (hc : ∀ s t, FloatKind.f64.format.read c ≠ .nan s t) : ∃ o, FloatKind.f64.format.order b c = some o := by
  unfold Format.order at *
  cases hb : FloatKind.f64.format.read b with
  | nan s t => rw [hb] at h; simp [Datum.order] at h
  | infinity s =>
    cases hr : FloatKind.f64.format.read c with
    | nan s t => exact absurd hr (hc s t)
    | infinity t => exact ⟨_, rfl⟩
    | number t n j => exact ⟨_, rfl⟩
  | number s m i =>
    cases hr : FloatKind.f64.format.read c with
    | nan s t => exact absurd hr (hc s t)
    | infinity t => exact ⟨_, rfl⟩
    | number t n j => exact ⟨_, rfl⟩
theorem min_any (b c : Nat) (h : (FloatKind.f64.format.order b b != some Ordering.eq) = false) (hc : ∀ s t, FloatKind.f64.format.read c ≠ .nan s t) : ∃ x, ∀ w, (Builtin.min_ #[22, 22] 22 #[.float .f64 b, .float .f64 c]).run Tryz.prog w = .ok (.float .f64 x) w := by
  obtain ⟨o, ho⟩ := order_some b c h hc
  cases o with
  | lt => exact ⟨b, fun w => by simp [Builtin.min_, Builtin.min2, ho, go_sem]⟩
  | gt => exact ⟨c, fun w => by simp [Builtin.min_, Builtin.min2, ho, go_sem]⟩
  | eq => exact ⟨if (FloatKind.f64.decode b).neg then b else c, fun w => by simp [Builtin.min_, Builtin.min2, ho, go_sem]⟩
set_option maxRecDepth 100000 in
set_option maxHeartbeats 1000000 in
theorem conf_percent_rest (w : World) (b : Nat) (h : (FloatKind.f64.format.order b b != some Ordering.eq) = false) (h2 : (FloatKind.f64.format.order b 0 == some Ordering.lt) = false) (h3 : (FloatKind.f64.format.order b 9218868437227405311 == some Ordering.gt) = false) :
    Calls Tryz.prog 25 #[.float .f64 b] w fun e w' => ∃ (N : Int) (n : Nat), inI N ∧ e = .returned (.tuple #[.int .i64 N, .bool true]) ∧ w' = w.drewN n := by
  obtain ⟨c, h5⟩ := min_any b 4666723172467343360 h (fun s t => by rw [show FloatKind.f64.format.read 4666723172467343360 = .number false 5497558138880000 (-39) by decide +kernel]; exact fun h => by cases h)
  have hfl := hid floor_any
  have hcv := hid conv_int
  go_enter Tryz.func25, Tryz.ntmps25
  repeat' (first | (go_big_may; (first | (go_at_call 78; refine (isinf1 w b).mono ?_; rintro e v4 ⟨rfl, rfl⟩) | (go_at_call 79; refine (hfl.out _ c).mono ?_; rintro e v5 ⟨c1, n1, rfl, hw⟩; obtain ⟨N, n2, k1, k2⟩ := hcv.out v5 c1; have hw5 := hid hw; clear hw))) | go_values | go_skip | go_guarded | go_step | go_upon | dsimp only)
  go_ret2
  exact ⟨N, n1 + n2, k1, rfl, by rw [hw5.out, World.drewN_drewN]⟩
theorem conf_percent (w : World) (b : Nat) : Calls Tryz.prog 25 #[.float .f64 b] w fun e w' => ∃ (N : Int) (n : Nat), inI N ∧ e = .returned (.tuple #[.int .i64 N, .bool (onF b)]) ∧ w' = w.drewN n := by
  cases h : (FloatKind.f64.format.order b b != some Ordering.eq) with
  | true =>
    refine (conf_percent_nan w b h).mono ?_
    rintro e w' ⟨rfl, rfl⟩
    exact ⟨100, 0, by unfold inI; omega, by unfold onF; rw [h]; rfl, rfl⟩
  | false =>
    cases h2 : (FloatKind.f64.format.order b 0 == some Ordering.lt) with
    | true =>
      refine (conf_percent_less w b h h2).mono ?_
      rintro e w' ⟨rfl, rfl⟩
      exact ⟨0, 0, by unfold inI; omega, by unfold onF; rw [h, h2]; rfl, rfl⟩
    | false =>
      cases h3 : (FloatKind.f64.format.order b 9218868437227405311 == some Ordering.gt) with
      | true =>
        refine (conf_percent_inf w b h h2 h3).mono ?_
        rintro e w' ⟨rfl, rfl⟩
        exact ⟨0, 0, by unfold inI; omega, by unfold onF; rw [h, h2, h3]; rfl, rfl⟩
      | false =>
        refine (conf_percent_rest w b h h2 h3).mono ?_
        rintro e w' ⟨N, n, k, rfl, rfl⟩
        exact ⟨N, n, k, by unfold onF; rw [h, h2, h3]; rfl, rfl⟩
end Go.Proofs.YtfddmbafjniflaaGreatDoor
/-
  Floats: the reference's Percent, at every float64.
-/
namespace Go.Proofs.YtfddmbafjniflaaGreatDoor
open Go Go.RowKit Ieee
theorem read_num {b : Nat} {neg : Bool} {mag : Nat} {place : Int} (h : double.read b = .number neg mag place) : mag < 2 ^ 53 ∧ -1074 ≤ place ∧ place ≤ 971 := by
  have a : double.leastPlace = -1074 := by decide
  have b' : double.binade = 2 ^ 52 := by decide
  have c : double.infRung = 2047 * 2 ^ 52 := by decide
  have d : double.signWeight = 2 ^ 63 := by decide
  unfold Format.read at h
  simp only [a, b', c, d] at h
  generalize b % 2 ^ 63 = r at h
  by_cases h1 : r < 2 ^ 52
  · rw [if_pos h1] at h
    simp only [Datum.number.injEq] at h
    obtain ⟨_, rfl, rfl⟩ := h
    omega
  · rw [if_neg h1] at h
    by_cases h2 : r < 2047 * 2 ^ 52
    · rw [if_pos h2] at h
      simp only [Datum.number.injEq] at h
      obtain ⟨_, rfl, rfl⟩ := h
      omega
    · rw [if_neg h2] at h
      split at h <;> cases h
theorem signed_le (neg : Bool) (m k : Nat) : signed neg m k ≤ (m <<< k : Nat) := by
  unfold signed
  generalize m <<< k = z
  split <;> omega
theorem max_read : double.read 9218868437227405311 = .number false 9007199254740991 971 := by decide +kernel
theorem zero_read : double.read 0 = .number false 0 (-1074) := by decide +kernel
theorem not_over {b : Nat} {neg : Bool} {mag : Nat} {place : Int} (h : double.read b = .number neg mag place) : (double.order b 9218868437227405311 == some Ordering.gt) = false := by
  obtain ⟨h1, h2, h3⟩ := read_num h
  unfold Format.order
  rw [h, max_read]
  simp only [Datum.order]
  have e1 : min place 971 = place := by omega
  have e2 : (place - place).toNat = 0 := by omega
  rw [e1, e2]
  have s1 := signed_le neg mag 0
  have s2 : (9007199254740991 : Int) ≤ signed false 9007199254740991 (971 - place).toNat := by
    have : 9007199254740991 ≤ 9007199254740991 <<< (971 - place).toNat := by
      rw [Nat.shiftLeft_eq]; exact Nat.le_mul_of_pos_right _ (Nat.two_pow_pos _)
    simp only [signed, Bool.false_eq_true, if_false]
    omega
  simp only [Nat.shiftLeft_zero] at s1
  have hle : signed neg mag 0 ≤ signed false 9007199254740991 (971 - place).toNat := by omega
  generalize signed neg mag 0 = x at *
  generalize signed false 9007199254740991 (971 - place).toNat = y at *
  have : compare x y ≠ Ordering.gt := by
    rw [Ne, Int.compare_eq_gt]; omega
  cases hc : compare x y <;> simp_all
theorem inf_over {b : Nat} (h : double.read b = .infinity false) : (double.order b 9218868437227405311 == some Ordering.gt) = true := by
  unfold Format.order; rw [h, max_read]; rfl
theorem inf_below {b : Nat} (h : double.read b = .infinity true) : (double.order b 0 == some Ordering.lt) = true := by
  unfold Format.order; rw [h, zero_read]; rfl
theorem nan_off {b : Nat} {s : Bool} {t : Nat} (h : double.read b = .nan s t) (c : Nat) : double.order b c = none := by
  unfold Format.order; rw [h]; rfl
theorem sub_self {b : Nat} {neg : Bool} {mag : Nat} {place : Int} (h : double.read b = .number neg mag place) : double.sub b b = some 0 := by
  unfold Format.sub
  rw [h]
  have e1 : min place place = place := by omega
  have e2 : (place - place).toNat = 0 := by omega
  have e3 : signed neg mag 0 + signed (!neg) mag 0 = 0 := by cases neg <;> simp [signed] <;> omega
  have e4 : (neg && !neg) = false := by cases neg <;> rfl
  simp only [Datum.opposite, Datum.sum, e1, e2, e3, e4, if_true, Option.map_some, Format.write, Format.nearest, Int.natAbs_zero]
  rfl
theorem sub_inf {b : Nat} (h : double.read b = .infinity false) : double.sub b b = none := by
  unfold Format.sub; rw [h]; rfl
theorem nan_read (t : Nat) : ∃ s f, double.read ((t % 2) * 2 ^ 63 + 0x7ff0000000000000 + 1 + (t / 2) % (2 ^ 52 - 1)) = .nan s f := by
  have a : double.leastPlace = -1074 := by decide
  have b' : double.binade = 2 ^ 52 := by decide
  have c : double.infRung = 2047 * 2 ^ 52 := by decide
  have d : double.signWeight = 2 ^ 63 := by decide
  have h1 : t % 2 < 2 := Nat.mod_lt _ (by omega)
  have h2 : (t / 2) % (2 ^ 52 - 1) < 2 ^ 52 - 1 := Nat.mod_lt _ (by omega)
  generalize t % 2 = x at *
  generalize (t / 2) % (2 ^ 52 - 1) = y at *
  have e1 : (x * 2 ^ 63 + 0x7ff0000000000000 + 1 + y) % 2 ^ 63 = 0x7ff0000000000001 + y := by omega
  unfold Format.read
  simp only [a, b', c, d]
  rw [e1, if_neg (by omega), if_neg (by omega), if_neg (by omega)]
  exact ⟨_, _, rfl⟩
theorem cut_nan (x y t : Nat) : ∃ s f, double.read ((Question.nanBits .f64 x y).cut t) = .nan s f := nan_read t
theorem sub_run (w : World) (x y : Nat) : (binOp .sub 22 (.float .f64 x) (.float .f64 y)).run Tryz.prog w = (Op.floatArith .sub .f64 x y).run Tryz.prog w := by kernel_rfl
theorem mul_run (w : World) (x y : Nat) : (binOp .mul 22 (.float .f64 x) (.float .f64 y)).run Tryz.prog w = (Op.floatArith .mul .f64 x y).run Tryz.prog w := by kernel_rfl
theorem sub_some (w : World) (x y r : Nat) (h : FloatKind.f64.format.sub x y = some r) : (binOp .sub 22 (.float .f64 x) (.float .f64 y)).run Tryz.prog w = .ok (.float .f64 r) w := by
  rw [sub_run]; simp [Op.floatArith, h, go_sem]
theorem mul_some (w : World) (x y r : Nat) (h : FloatKind.f64.format.mul x y = some r) : (binOp .mul 22 (.float .f64 x) (.float .f64 y)).run Tryz.prog w = .ok (.float .f64 r) w := by
  rw [mul_run]; simp [Op.floatArith, h, go_sem]
theorem sub_none (w : World) (x y : Nat) (h : FloatKind.f64.format.sub x y = none) : ∃ r, (FloatKind.f64.format.order r 0 != some Ordering.eq) = true ∧ (binOp .sub 22 (.float .f64 x) (.float .f64 y)).run Tryz.prog w = .ok (.float .f64 r) (w.drewN 1) := by
  refine ⟨(Question.nanBits .f64 x y).cut (w.tape w.drawn (Question.nanBits .f64 x y)), ?_, ?_⟩
  · obtain ⟨s, f, hh⟩ := cut_nan x y (w.tape w.drawn (Question.nanBits .f64 x y))
    rw [show FloatKind.f64.format.order _ 0 = none from nan_off hh 0]; rfl
  · have hf : (Question.nanBits .f64 x y).forced = false := rfl
    rw [sub_run]
    unfold Op.floatArith
    simp only [h, Sem.run_bind, Sem.run_pure, Result.andThen_ok, run_choose_drew, hf]
    rfl
set_option maxRecDepth 100000 in
set_option maxHeartbeats 1000000 in
theorem ref_percent (w : World) (b : Nat) : Calls Tryz.prog 10 #[.float .f64 b] w fun e w' => ∃ (N : Int) (n : Nat), inI N ∧ e = .returned (.tuple #[.int .i64 N, .bool (onF b)]) ∧ w' = w.drewN n := by
  have hcv := hid conv_int
  cases h1 : (FloatKind.f64.format.order b b != some Ordering.eq) with
  | true =>
    go_enter Tryz.func10, Tryz.ntmps10
    repeat' (first | go_values | go_skip | go_guarded | go_step | go_upon | dsimp only)
    go_ret2
    exact ⟨100, 0, by unfold inI; omega, by unfold onF; rw [h1]; rfl, rfl⟩
  | false =>
    cases h2 : (FloatKind.f64.format.order b 0 == some Ordering.lt) with
    | true =>
      go_enter Tryz.func10, Tryz.ntmps10
      repeat' (first | go_values | go_skip | go_guarded | go_step | go_upon | dsimp only)
      go_ret2
      exact ⟨0, 0, by unfold inI; omega, by unfold onF; rw [h1, h2]; rfl, rfl⟩
    | false =>
      cases hr : double.read b with
      | nan s t => exact absurd (show (FloatKind.f64.format.order b b != some Ordering.eq) = true from by rw [show FloatKind.f64.format.order b b = none from nan_off hr b]; rfl) (by rw [h1]; decide)
      | infinity s =>
        cases s with
        | true => exact absurd (show (FloatKind.f64.format.order b 0 == some Ordering.lt) = true from inf_below hr) (by rw [h2]; decide)
        | false =>
          have h3 : FloatKind.f64.format.sub b b = none := sub_inf hr
          obtain ⟨r, h4, h6⟩ := sub_none w b b h3
          have h5 : onF b = false := by unfold onF; rw [h1, h2, show (FloatKind.f64.format.order b 9218868437227405311 == some Ordering.gt) = true from inf_over hr]; rfl
          have H5 := hid h5
          clear hr h5
          go_enter Tryz.func10, Tryz.ntmps10
          repeat' (first | go_values | go_skip | go_guarded | go_step | go_upon | dsimp only)
          go_ret2
          exact ⟨0, 1, by unfold inI; omega, by rw [H5.out]; rfl, rfl⟩
      | number neg mag place =>
        have h3 : FloatKind.f64.format.sub b b = some 0 := sub_self hr
        have h4 : (FloatKind.f64.format.order 0 0 != some Ordering.eq) = false := by decide +kernel
        have h7 := sub_some w b b 0 h3
        have h5 : onF b = true := by unfold onF; rw [h1, h2, show (FloatKind.f64.format.order b 9218868437227405311 == some Ordering.gt) = false from not_over hr]; rfl
        have H5 := hid h5
        clear hr h5
        obtain ⟨N, n2, k1, k2⟩ := hcv.out w b
        cases h6 : (FloatKind.f64.format.order b 4666723172467343360 == some Ordering.gt || FloatKind.f64.format.order b 4666723172467343360 == some Ordering.eq) with
        | true =>
          go_enter Tryz.func10, Tryz.ntmps10
          repeat' (first | go_values | go_skip | go_guarded | go_step | go_upon | dsimp only)
          go_ret2
          exact ⟨10000, 0, by unfold inI; omega, by rw [H5.out]; rfl, rfl⟩
        | false =>
          go_enter Tryz.func10, Tryz.ntmps10
          repeat' (first | go_values | go_skip | go_guarded | go_step | go_upon | dsimp only)
          go_ret2
          exact ⟨N, n2, k1, by rw [H5.out]; rfl, rfl⟩
end Go.Proofs.YtfddmbafjniflaaGreatDoor
/-
  Floats: conf.Part and fix.Float at every float64: the same value in every world, and nothing turned.
-/
namespace Go.Proofs.YtfddmbafjniflaaGreatDoor
open Go Go.RowKit Ieee
theorem read_norm (T m : Nat) (h1 : 2 ^ 52 ≤ m) (h2 : m < 2 ^ 53) (hT : T < 2045) : double.read (T * 2 ^ 52 + m) = .number false m (-1074 + T) := by
  have a : double.leastPlace = -1074 := by decide
  have b : double.binade = 2 ^ 52 := by decide
  have c : double.infRung = 2047 * 2 ^ 52 := by decide
  have d : double.signWeight = 2 ^ 63 := by decide
  unfold Format.read
  simp only [a, b, c, d]
  have e1 : (T * 2 ^ 52 + m) / 2 ^ 63 = 0 := by omega
  have e2 : (T * 2 ^ 52 + m) % 2 ^ 63 = T * 2 ^ 52 + m := by omega
  rw [e1, e2, if_neg (by omega), if_pos (by omega)]
  have e3 : (T * 2 ^ 52 + m) % 2 ^ 52 = m - 2 ^ 52 := by omega
  have e4 : (T * 2 ^ 52 + m) / 2 ^ 52 = T + 1 := by omega
  rw [e3, e4]
  have e5 : 2 ^ 52 + (m - 2 ^ 52) = m := by omega
  have e6 : (-1074 : Int) + ((T + 1 - 1 : Nat) : Int) = -1074 + T := by omega
  rw [e5, e6]; rfl
theorem r64 : double.read 4580160821035794432 = .number false (2 ^ 52) (-58) := by decide +kernel
theorem r1 : double.read 4607182418800017408 = .number false (2 ^ 52) (-52) := by decide +kernel
theorem rOne : double.read 4697254411347427328 = .number false (2 ^ 52) (-32) := by decide +kernel
theorem not_lt {x y : Int} (h : (some (compare x y) == some Ordering.lt) = false) : y ≤ x := by
  rcases Int.lt_or_le x y with h1 | h1
  · rw [Int.compare_eq_lt.2 h1] at h; cases h
  · exact h1
theorem lt_of {x y : Int} (h : (some (compare x y) == some Ordering.gt || some (compare x y) == some Ordering.eq) = false) : x < y := by
  rcases Int.lt_trichotomy x y with h1 | h1 | h1
  · exact h1
  · rw [Int.compare_eq_eq.2 h1] at h; cases h
  · rw [Int.compare_eq_gt.2 h1] at h; cases h
theorem signed_true_le (m k : Nat) : signed true m k ≤ 0 := by
  unfold signed; simp only [if_true]; generalize m <<< k = z; omega
theorem signed_zero (s : Bool) (k : Nat) : signed s 0 k = 0 := by
  unfold signed; simp
theorem toInt_pos (m : Nat) (p : Int) : (Datum.number false m p).toInt .zero = some ((Toward.cut .zero false (m <<< p.toNat) (-p).toNat : Nat) : Int) := by
  simp [Datum.toInt, Datum.integral, signed]
theorem part_place {b mag : Nat} {neg : Bool} {place : Int} (hr : double.read b = .number neg mag place) (h2 : (double.order b 4580160821035794432 == some Ordering.lt) = false)
    (h3 : (double.order b 4607182418800017408 == some Ordering.gt || double.order b 4607182418800017408 == some Ordering.eq) = false) : neg = false ∧ mag ≠ 0 ∧ -6 ≤ place + mag.log2 ∧ place + mag.log2 ≤ -1 := by
  unfold Format.order at h2 h3
  rw [hr, r64] at h2
  rw [hr, r1] at h3
  simp only [Datum.order] at h2 h3
  have a := not_lt h2
  have c := lt_of h3
  clear h2 h3 hr
  have hpos : (0 : Int) < signed false (2 ^ 52) (-58 - min place (-58)).toNat := by
    have : 0 < 2 ^ 52 <<< (-58 - min place (-58)).toNat := by rw [Nat.shiftLeft_eq]; exact Nat.mul_pos (by omega) (Nat.two_pow_pos _)
    simp only [signed, Bool.false_eq_true, if_false]; omega
  have hn : neg = false := by
    cases neg with
    | false => rfl
    | true =>
      have := signed_true_le mag (place - min place (-58)).toNat
      omega
  subst hn
  have h0 : mag ≠ 0 := by
    rintro rfl
    rw [signed_zero] at a
    omega
  refine ⟨rfl, h0, ?_⟩
  have l1 : 2 ^ mag.log2 ≤ mag := Nat.log2_self_le h0
  have l2 : mag < 2 ^ (mag.log2 + 1) := Nat.lt_log2_self
  generalize mag.log2 = L at *
  simp only [signed, Bool.false_eq_true, if_false, Nat.shiftLeft_eq] at a c
  have a' : 2 ^ 52 * 2 ^ (-58 - min place (-58)).toNat ≤ mag * 2 ^ (place - min place (-58)).toNat := by exact_mod_cast a
  have c' : mag * 2 ^ (place - min place (-52)).toNat < 2 ^ 52 * 2 ^ (-52 - min place (-52)).toNat := by exact_mod_cast c
  have k1 : 2 ^ (52 + (-58 - min place (-58)).toNat) < 2 ^ (L + 1 + (place - min place (-58)).toNat) := by
    rw [Nat.pow_add, Nat.pow_add 2 (L + 1)]
    exact Nat.lt_of_le_of_lt a' (Nat.mul_lt_mul_of_pos_right l2 (Nat.two_pow_pos _))
  have k2 : 2 ^ (L + (place - min place (-52)).toNat) < 2 ^ (52 + (-52 - min place (-52)).toNat) := by
    rw [Nat.pow_add 2 L, Nat.pow_add 2 52]
    exact Nat.lt_of_le_of_lt (Nat.mul_le_mul_right _ l1) c'
  have k1' := (Nat.pow_lt_pow_iff_right (by omega : 1 < 2)).1 k1
  have k2' := (Nat.pow_lt_pow_iff_right (by omega : 1 < 2)).1 k2
  omega
theorem log2_mul_pow (n k : Nat) (h : n ≠ 0) : (n * 2 ^ k).log2 = n.log2 + k := by
  have h1 : 2 ^ n.log2 ≤ n := Nat.log2_self_le h
  have h2 : n < 2 ^ (n.log2 + 1) := Nat.lt_log2_self
  have h3 : n * 2 ^ k ≠ 0 := Nat.mul_ne_zero h (Nat.pos_iff_ne_zero.1 (Nat.two_pow_pos _))
  refine (Nat.log2_eq_iff h3).2 ⟨?_, ?_⟩
  · rw [Nat.pow_add]; exact Nat.mul_le_mul_right _ h1
  · rw [show n.log2 + k + 1 = n.log2 + 1 + k by omega, Nat.pow_add]; exact Nat.mul_lt_mul_of_pos_right h2 (Nat.two_pow_pos _)
theorem part_mul {b mag : Nat} {place : Int} (hr : double.read b = .number false mag place) (h0 : mag ≠ 0) (ha : -6 ≤ place + mag.log2) (hb : place + mag.log2 ≤ -1) :
    ∃ c m N : Nat, ∃ p : Int, double.mul b 4697254411347427328 = some c ∧ double.read c = .number false m p ∧ (Datum.number false m p).toInt .zero = some (N : Int) ∧ N ≤ 1048576 := by
  obtain ⟨hm, _, _⟩ := read_num hr
  have l1 : 2 ^ mag.log2 ≤ mag := Nat.log2_self_le h0
  have l2 : mag < 2 ^ (mag.log2 + 1) := Nat.lt_log2_self
  have hL : mag.log2 < 53 := (Nat.log2_lt h0).2 hm
  have hlog := log2_mul_pow mag 52 h0
  have hne : mag * 2 ^ 52 ≠ 0 := Nat.mul_ne_zero h0 (by omega)
  have m1 : 2 ^ 52 ≤ mag * 2 ^ (52 - mag.log2) := by
    calc 2 ^ 52 = 2 ^ mag.log2 * 2 ^ (52 - mag.log2) := by rw [← Nat.pow_add]; congr 1; omega
      _ ≤ mag * 2 ^ (52 - mag.log2) := Nat.mul_le_mul_right _ l1
  have m2 : mag * 2 ^ (52 - mag.log2) < 2 ^ 53 := by
    calc mag * 2 ^ (52 - mag.log2) < 2 ^ (mag.log2 + 1) * 2 ^ (52 - mag.log2) := Nat.mul_lt_mul_of_pos_right l2 (Nat.two_pow_pos _)
      _ = 2 ^ 53 := by rw [← Nat.pow_add]; congr 1; omega
  have hq : mag * 2 ^ 52 = mag * 2 ^ (52 - mag.log2) * 2 ^ mag.log2 := by
    rw [Nat.mul_assoc, ← Nat.pow_add]; congr 2; omega
  have hcut : Toward.cut .even false (mag * 2 ^ 52) mag.log2 = mag * 2 ^ (52 - mag.log2) := by
    have hp := Nat.two_pow_pos mag.log2
    unfold Toward.cut
    dsimp only
    rw [hlog, Nat.min_eq_left (by omega), Nat.one_shiftLeft, hq, Nat.mul_div_cancel _ hp, Nat.mul_mod_left]
    simp only [Nat.mul_zero, Nat.not_lt_zero, decide_false, Bool.false_or]
    have : (2 ^ mag.log2 == 0) = false := by rw [beq_eq_false_iff_ne]; omega
    rw [this]; rfl
  generalize hT : (place + mag.log2 - 32 + 1074).toNat = T
  have hTe : (-1074 + (T : Int)) = place + mag.log2 - 32 := by omega
  have hwrite : double.write (.number false (mag * 2 ^ 52) (place + -32)) = T * 2 ^ 52 + mag * 2 ^ (52 - mag.log2) := by
    have a : double.leastPlace = -1074 := by decide
    have b : double.binade = 2 ^ 52 := by decide
    have c : double.infRung = 2047 * 2 ^ 52 := by decide
    have d : (double.fractionBits : Nat) = 52 := rfl
    simp only [Format.write]
    unfold Format.nearest
    rw [if_neg hne]
    have e1 : max (place + -32 + ((mag * 2 ^ 52).log2 : Nat) - (double.fractionBits : Nat)) double.leastPlace = place + mag.log2 - 32 := by
      rw [hlog, a, d]; omega
    simp only [e1]
    have e2 : (place + -32 - (place + mag.log2 - 32)).toNat = 0 := by omega
    have e3 : (place + mag.log2 - 32 - (place + -32)).toNat = mag.log2 := by omega
    have e4 : (place + mag.log2 - 32 - double.leastPlace).toNat = T := by rw [a]; omega
    have hT2 : T ≤ 1041 := by omega
    rw [e2, e3, e4, Nat.shiftLeft_zero, hcut, b, c]
    clear hcut hq m1 e1 e2 e3 e4 hlog hTe hT hr
    generalize mag * 2 ^ (52 - mag.log2) = M at *
    rw [Nat.min_eq_left (by omega)]
    rfl
  refine ⟨T * 2 ^ 52 + mag * 2 ^ (52 - mag.log2), mag * 2 ^ (52 - mag.log2), _, _, ?_, read_norm T _ m1 m2 (by omega), toInt_pos _ _, ?_⟩
  · unfold Format.mul
    rw [hr, rOne, ← hwrite]
    simp only [Datum.product, Option.map_some, Bool.false_xor]
  · generalize hM : mag * 2 ^ (52 - mag.log2) = M at *
    have h52 : M.log2 = 52 := (Nat.log2_eq_iff (by omega)).2 ⟨m1, m2⟩
    simp only [hTe]
    have e1 : (place + mag.log2 - 32).toNat = 0 := by omega
    simp only [e1, Nat.shiftLeft_zero, Toward.cut, h52, Nat.one_shiftLeft, Bool.toNat_false, Nat.add_zero]
    have hg : 2 ^ 33 ≤ 2 ^ min (-(place + mag.log2 - 32)).toNat (52 + 2) := Nat.pow_le_pow_right (by omega) (by omega)
    calc M / 2 ^ min (-(place + mag.log2 - 32)).toNat (52 + 2) ≤ M / 2 ^ 33 := Nat.div_le_div_left hg (by omega)
      _ ≤ 1048576 := by omega
set_option maxRecDepth 100000 in
set_option maxHeartbeats 1000000 in
theorem fix_float_part (w : World) (b c m N : Nat) (p : Int) (h1 : (FloatKind.f64.format.order b b != some Ordering.eq) = false) (h2 : (FloatKind.f64.format.order b 4800837202776948736 == some Ordering.gt || FloatKind.f64.format.order b 4800837202776948736 == some Ordering.eq) = false)
    (h3 : (FloatKind.f64.format.order b 14024209239631724544 == some Ordering.lt || FloatKind.f64.format.order b 14024209239631724544 == some Ordering.eq) = false) (h4 : FloatKind.f64.format.mul b 4697254411347427328 = some c) (h5 : FloatKind.f64.decode c = .number false m p)
    (hN : (Datum.number false m p).toInt .zero = some (N : Int)) (hlt : N ≤ 1048576) : Calls Tryz.prog 77 #[.float .f64 b] w fun e w' => e = .returned (num N) ∧ w' = w := by
  have h7 : ∀ w, (Conv.floatToInt .f64 (FloatKind.f64.encode ((Datum.number false m p).integral .down)) .i64).run Tryz.prog w = .ok (num N) w := by
    intro w
    have h6 : (FloatKind.f64.decode (FloatKind.f64.encode ((Datum.number false m p).integral .down))).toInt .zero = some (N : Int) := floor_toInt m p N hN (by omega)
    have m1 : IntKind.i64.min = -9223372036854775808 := by decide
    have m2 : IntKind.i64.max = 9223372036854775807 := by decide
    unfold Conv.floatToInt
    simp only [h6]
    rw [m1, m2, if_pos (by omega)]
    rfl
  have h9 : ∀ w, (convert 22 2 (.float .f64 (FloatKind.f64.encode ((Datum.number false m p).integral .down)))).run Tryz.prog w = .ok (num N) w := fun w => (by kernel_rfl : _ = (Conv.floatToInt .f64 (FloatKind.f64.encode ((Datum.number false m p).integral .down)) .i64).run Tryz.prog w).trans (h7 w)
  have hfl := hid (fun w => floor_num w c false m p h5)
  have h10 := fun w => mul_some w b 4697254411347427328 c h4
  clear h7 hN hlt h5
  go_enter Tryz.func77, Tryz.ntmps77
  repeat' (first | (go_big_may; (first | (go_at_call 79; refine (hfl.out _).mono ?_; rintro e v5 ⟨rfl, rfl⟩))) | go_values | go_skip | go_guarded | go_step | go_upon | dsimp only)
  go_ret
  exact ⟨rfl, rfl⟩
theorem small_1 {b mag : Nat} {place : Int} (hr : double.read b = .number false mag place) (_h0 : mag ≠ 0) (hb : place + mag.log2 ≤ -1) : (double.order b 4800837202776948736 == some Ordering.gt || double.order b 4800837202776948736 == some Ordering.eq) = false := by
  have l2 : mag < 2 ^ (mag.log2 + 1) := Nat.lt_log2_self
  have hx : double.read 4800837202776948736 = .number false (2 ^ 52) (-9) := by decide +kernel
  unfold Format.order
  rw [hr, hx]
  simp only [Datum.order]
  have hlt : signed false mag (place - min place (-9)).toNat < signed false (2 ^ 52) (-9 - min place (-9)).toNat := by
    simp only [signed, Bool.false_eq_true, if_false, Nat.shiftLeft_eq]
    have : mag * 2 ^ (place - min place (-9)).toNat < 2 ^ 52 * 2 ^ (-9 - min place (-9)).toNat := by
      calc mag * 2 ^ (place - min place (-9)).toNat < 2 ^ (mag.log2 + 1) * 2 ^ (place - min place (-9)).toNat := Nat.mul_lt_mul_of_pos_right l2 (Nat.two_pow_pos _)
        _ ≤ 2 ^ 52 * 2 ^ (-9 - min place (-9)).toNat := by
          rw [← Nat.pow_add, ← Nat.pow_add]; exact Nat.pow_le_pow_right (by omega) (by omega)
    exact_mod_cast this
  rw [Int.compare_eq_lt.2 hlt]; rfl
theorem small_2 {b mag : Nat} {place : Int} (hr : double.read b = .number false mag place) : (double.order b 14024209239631724544 == some Ordering.lt || double.order b 14024209239631724544 == some Ordering.eq) = false := by
  have hx : double.read 14024209239631724544 = .number true (2 ^ 52) (-9) := by decide +kernel
  unfold Format.order
  rw [hr, hx]
  simp only [Datum.order]
  have hlt : signed true (2 ^ 52) (-9 - min place (-9)).toNat < signed false mag (place - min place (-9)).toNat := by
    simp only [signed, if_true, Bool.false_eq_true, if_false, Nat.shiftLeft_eq]
    have := Nat.mul_pos (show 0 < 2 ^ 52 by omega) (Nat.two_pow_pos (-9 - min place (-9)).toNat)
    have h2 : (0 : Int) < ((2 ^ 52 * 2 ^ (-9 - min place (-9)).toNat : Nat) : Int) := by exact_mod_cast this
    omega
  rw [Int.compare_eq_gt.2 hlt]; rfl
set_option maxRecDepth 100000 in
set_option maxHeartbeats 1000000 in
/-- conf.Part: a number, the same everywhere. -/
theorem conf_part (b : Nat) : ∃ x : Nat, x ≤ 1048576 ∧ ∀ w, Calls Tryz.prog 24 #[.float .f64 b] w fun e w' => e = .returned (num x) ∧ w' = w := by
  cases h1 : (FloatKind.f64.format.order b b != some Ordering.eq) with
  | true =>
    refine ⟨262144, by omega, fun w => ?_⟩
    go_enter Tryz.func24, Tryz.ntmps24
    repeat' (first | go_values | go_skip | go_guarded | go_step | go_upon | dsimp only)
    go_ret
    exact ⟨rfl, rfl⟩
  | false =>
    cases h2 : (FloatKind.f64.format.order b 4580160821035794432 == some Ordering.lt) with
    | true =>
      refine ⟨16384, by omega, fun w => ?_⟩
      go_enter Tryz.func24, Tryz.ntmps24
      repeat' (first | go_values | go_skip | go_guarded | go_step | go_upon | dsimp only)
      go_ret
      exact ⟨rfl, rfl⟩
    | false =>
      cases h3 : (FloatKind.f64.format.order b 4607182418800017408 == some Ordering.gt || FloatKind.f64.format.order b 4607182418800017408 == some Ordering.eq) with
      | true =>
        refine ⟨1048576, by omega, fun w => ?_⟩
        go_enter Tryz.func24, Tryz.ntmps24
        repeat' (first | go_values | go_skip | go_guarded | go_step | go_upon | dsimp only)
        go_ret
        exact ⟨rfl, rfl⟩
      | false =>
        cases hr : double.read b with
        | nan s t => exact absurd (show (FloatKind.f64.format.order b b != some Ordering.eq) = true from by rw [show FloatKind.f64.format.order b b = none from nan_off hr b]; rfl) (by rw [h1]; decide)
        | infinity s =>
          exfalso
          cases s with
          | true =>
            have : (double.order b 4580160821035794432 == some Ordering.lt) = true := by unfold Format.order; rw [hr, r64]; rfl
            rw [show (double.order b 4580160821035794432 == some Ordering.lt) = false from h2] at this; cases this
          | false =>
            have : (double.order b 4607182418800017408 == some Ordering.gt || double.order b 4607182418800017408 == some Ordering.eq) = true := by unfold Format.order; rw [hr, r1]; rfl
            rw [show (double.order b 4607182418800017408 == some Ordering.gt || double.order b 4607182418800017408 == some Ordering.eq) = false from h3] at this; cases this
        | number neg mag place =>
          obtain ⟨rfl, h0, ha, hb⟩ := part_place hr h2 h3
          obtain ⟨c, m, N, p, k1, k2, k3, k4⟩ := part_mul hr h0 ha hb
          refine ⟨N, k4, fun w => ?_⟩
          have hff := hid (fun w => fix_float_part w b c m N p h1 (small_1 hr h0 hb) (small_2 hr) k1 k2 k3 k4)
          clear hr h0 ha hb k1 k2 k3 k4
          go_enter Tryz.func24, Tryz.ntmps24
          repeat' (first | (go_big_may; (first | (go_at_call 77; refine (hff.out _).mono ?_; rintro e v5 ⟨rfl, rfl⟩))) | go_values | go_skip | go_guarded | go_step | go_upon | dsimp only)
          go_ret
          exact ⟨rfl, rfl⟩
end Go.Proofs.YtfddmbafjniflaaGreatDoor
