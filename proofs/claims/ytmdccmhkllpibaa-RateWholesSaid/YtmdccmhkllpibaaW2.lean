import Derived.Test.YtmdccmhkllpibaaW1
import Derived.Lib.Hide
set_option linter.unusedSimpArgs false
set_option linter.unusedVariables false
set_option maxHeartbeats 4000000
namespace Go.Proofs.Ytmdccmhkllpibaa
open Go.RowKit Go.Fl
theorem and_top (x : Nat) (h : x < 9223372036854775808) : x &&& 2 ^ 63 = 0 := by
  apply Nat.eq_of_testBit_eq
  intro i
  rw [Nat.testBit_and, Nat.testBit_two_pow, Nat.zero_testBit]
  by_cases hi : 63 = i
  · subst hi; rw [Nat.testBit_lt_two_pow (by simpa using h)]; simp
  · simp [hi]
theorem or_mask (x : Nat) (h : x < 9223372036854775808) : bits .andNot .u64 (x : Int) 9218868437227405312 = ((x % 4503599627370496 : Nat) : Int) := by
  rw [show (9218868437227405312 : Int) = ((9218868437227405312 : Nat) : Int) from rfl, u64_andNot_nat x 9218868437227405312 (by omega) (by decide), show (18446744073709551615 - 9218868437227405312 : Nat) = 2 ^ 63 ||| (2 ^ 52 - 1) by decide, Nat.and_or_distrib_left, Nat.and_two_pow_sub_one_eq_mod, and_top x h]
  simp
theorem and_exp (x : Nat) (h : x < 9223372036854775808) : bits .and .u64 ((x : Int) / 4503599627370496) 2047 = ((x / 4503599627370496 : Nat) : Int) := by
  rw [show (x : Int) / 4503599627370496 = ((x / 4503599627370496 : Nat) : Int) by omega, show (2047 : Int) = ((2047 : Nat) : Int) from rfl, u64_and_nat _ 2047 (by omega) (by decide), show (2047 : Nat) = 2 ^ 11 - 1 by decide, Nat.and_two_pow_sub_one_eq_mod]
  congr 1; omega
theorem or_half (x : Nat) : bits .or .u64 ((x : Int) % 4503599627370496) 4602678819172646912 = ((4602678819172646912 + x % 4503599627370496 : Nat) : Int) := by
  rw [show (x : Int) % 4503599627370496 = ((x % 4503599627370496 : Nat) : Int) by omega, show (4602678819172646912 : Int) = ((4602678819172646912 : Nat) : Int) from rfl, u64_or_nat _ _ (by omega) (by decide), Nat.or_comm, nat_join 52 _ _ (by decide) (by omega)]
theorem not_top (b : Nat) (h : b < 9223372036854775808) : bits .andNot .u64 (b : Int) 9223372036854775808 = (b : Int) := by
  rw [show (9223372036854775808 : Int) = ((9223372036854775808 : Nat) : Int) from rfl, u64_andNot_nat b 9223372036854775808 (by omega) (by decide), show (18446744073709551615 - 9223372036854775808 : Nat) = 2 ^ 63 - 1 by decide, Nat.and_two_pow_sub_one_eq_mod]
  congr 1; omega
/-- what the tests ask of a word of a float that is no less than nought and has an end -/
structure Pos (b : Nat) : Prop where
  lt : b < 9218868437227405312
  le0 : (FloatKind.f64.format.order b 0 == some Ordering.gt || FloatKind.f64.format.order b 0 == some Ordering.eq) = true
  leM : (FloatKind.f64.format.order b 9218868437227405311 == some Ordering.lt || FloatKind.f64.format.order b 9218868437227405311 == some Ordering.eq) = true
  gtM : (FloatKind.f64.format.order b 9218868437227405311 == some Ordering.gt) = false
  self : FloatKind.f64.format.order b b = some Ordering.eq
theorem ord (x y : Nat) (hx : x < 9218868437227405312) (hy : y < 9218868437227405312) : FloatKind.f64.format.order x y = some (compare x y) := order_pos hx hy
theorem pos_mk {b : Nat} (h : b < 9218868437227405312) : Pos b := by
  have c0 : compare b 0 = .gt ∨ compare b 0 = .eq := by
    simp only [compare, compareOfLessAndEq]
    by_cases h0 : b = 0
    · subst h0; simp
    · rw [if_neg (by omega), if_neg h0]; simp
  have cM : compare b 9218868437227405311 = .lt ∨ compare b 9218868437227405311 = .eq := by
    simp only [compare, compareOfLessAndEq]
    by_cases h0 : b < 9218868437227405311
    · rw [if_pos h0]; simp
    · rw [if_neg h0, if_pos (by omega)]; simp
  refine ⟨h, ?_, ?_, ?_, ?_⟩
  · rw [ord b 0 h (by decide)]; rcases c0 with c | c <;> rw [c] <;> rfl
  · rw [ord b _ h (by decide)]; rcases cM with c | c <;> rw [c] <;> rfl
  · rw [ord b _ h (by decide)]; rcases cM with c | c <;> rw [c] <;> rfl
  · rw [ord b b h h]; simp [compare, compareOfLessAndEq]
theorem cmp_gt {x y : Nat} (h : y < x) : compare x y = Ordering.gt := by
  simp only [compare, compareOfLessAndEq]; rw [if_neg (by omega), if_neg (by omega)]
theorem cmp_lt {x y : Nat} (h : x < y) : compare x y = Ordering.lt := by
  simp only [compare, compareOfLessAndEq]; rw [if_pos h]
theorem cmp_eq (x : Nat) : compare x x = Ordering.eq := by
  simp [compare, compareOfLessAndEq]
theorem right_pos (b : Nat) (w : World) (h : Pos b) : Calls Try.prog 13 #[.float .f64 b] w fun e w' => e = .returned (.bool true) ∧ w' = w := by
  obtain ⟨h0, h1, h2, h3, h4⟩ := h
  go_enter Try.func13, Try.ntmps13
  go_wp2
  go_ret
  exact ⟨rfl, rfl⟩
/-- a float's significand as a whole number of 53 bits, and the power of two that Frexp tells -/
def mant (b : Nat) : Nat := if b < 4503599627370496 then b * 2 ^ (52 - b.log2) else 4503599627370496 + b % 4503599627370496
def ex (b : Nat) : Int := if b < 4503599627370496 then (b.log2 : Int) - 1073 else ((b / 4503599627370496 : Nat) : Int) - 1022
theorem mant_bd {b : Nat} (h0 : 0 < b) : 4503599627370496 ≤ mant b ∧ mant b < 9007199254740992 := by
  unfold mant
  by_cases h : b < 4503599627370496
  · rw [if_pos h]
    have := log2_shift h0 (show b < 9007199254740992 by omega)
    exact ⟨this.1, this.2.1⟩
  · rw [if_neg h]; omega
theorem frexp_norm (b : Nat) (w : World) (h : Pos b) (hn : 4503599627370496 ≤ b) : Calls Try.prog 22 #[.float .f64 b] w fun e w' => e = .returned (.tuple #[.float .f64 (4602678819172646912 + b % 4503599627370496), .int .i64 (((b / 4503599627370496 : Nat) : Int) - 1022)]) ∧ w' = w := by
  obtain ⟨h0, h1, h2, h3, h4⟩ := h
  have g0 : FloatKind.f64.format.order b 0 = some Ordering.gt := by rw [ord b 0 h0 (by decide), cmp_gt (by omega)]
  have gm : (FloatKind.f64.format.order b 4503599627370496 == some Ordering.lt) = false := by
    rw [ord b _ h0 (by decide)]
    by_cases he : b = 4503599627370496
    · subst he; rw [cmp_eq]; rfl
    · rw [cmp_gt (by omega)]; rfl
  have e1 := or_mask b (by omega)
  have e2 := and_exp b (by omega)
  have e3 := or_half b
  have e4 := not_top b (by omega)
  go_enter Try.func22, Try.ntmps22
  go_wp2
  go_ret2
  exact ⟨by simp [e3]; omega, rfl⟩
theorem frexp_sub (b : Nat) (w : World) (h : Pos b) (hn : b < 4503599627370496) (hb : 0 < b) : Calls Try.prog 22 #[.float .f64 b] w fun e w' => e = .returned (.tuple #[.float .f64 (4602678819172646912 + (b * 2 ^ (52 - b.log2) - 4503599627370496)), .int .i64 ((b.log2 : Int) - 1073)]) ∧ w' = w := by
  obtain ⟨h0, h1, h2, h3, h4⟩ := h
  obtain ⟨m1, m2, m3⟩ := log2_shift hb (show b < 9007199254740992 by omega)
  have g0 : FloatKind.f64.format.order b 0 = some Ordering.gt := by rw [ord b 0 h0 (by decide), cmp_gt (by omega)]
  have gm : (FloatKind.f64.format.order b 4503599627370496 == some Ordering.lt) = true := by
    rw [ord b _ h0 (by decide), cmp_lt (by omega)]; rfl
  have hm : FloatKind.f64.format.mul b 4841369599423283200 = some (b.log2 * 4503599627370496 + b * 2 ^ (52 - b.log2)) := by
    have := mul_sub (q := 1074) hb hn (by omega) (by omega) (by omega)
    rw [show 1074 - 1022 - (52 - b.log2) = b.log2 by omega] at this
    exact this
  have hlog : b.log2 ≤ 51 := by have := (Nat.log2_lt (show b ≠ 0 by omega) (k := 52)).2 (by simpa using hn); omega
  generalize b * 2 ^ (52 - b.log2) = M at *
  generalize b.log2 = L at *
  obtain ⟨X, hX⟩ : ∃ X, X = L * 4503599627370496 + M := ⟨_, rfl⟩
  rw [← hX] at hm
  have hXl : X < 9223372036854775808 := by omega
  have e1 := or_mask X hXl
  have e2 := and_exp X hXl
  have e3 := or_half X
  have e4 := not_top b (by omega)
  have HX := Lib.hid hX
  clear hX
  have hmr := fun w => run_float_arith (P := Try.prog) w .mul 23 .f64 b 4841369599423283200 X hm
  go_enter Try.func22, Try.ntmps22
  go_wp2
  go_ret2
  have hX := HX.out
  exact ⟨by simp [e3]; omega, rfl⟩
theorem cut_zero (M : Nat) : Ieee.Toward.zero.cut false M 0 = M := by
  unfold Ieee.Toward.cut
  simp
theorem frexp_any (b : Nat) (w : World) (h : Pos b) (hb : 0 < b) : Calls Try.prog 22 #[.float .f64 b] w fun e w' => e = .returned (.tuple #[.float .f64 (1021 * 4503599627370496 + mant b), .int .i64 (ex b)]) ∧ w' = w := by
  have hm := mant_bd hb
  by_cases hn : b < 4503599627370496
  · have := frexp_sub b w h hn hb
    unfold mant ex at *
    rw [if_pos hn] at hm
    rw [if_pos hn, if_pos hn, show 1021 * 4503599627370496 + b * 2 ^ (52 - b.log2) = 4602678819172646912 + (b * 2 ^ (52 - b.log2) - 4503599627370496) by omega]
    exact this
  · have := frexp_norm b w h (by omega)
    unfold mant ex at *
    rw [if_neg hn] at hm
    rw [if_neg hn, if_neg hn, show 1021 * 4503599627370496 + (4503599627370496 + b % 4503599627370496) = 4602678819172646912 + b % 4503599627370496 by omega]
    exact this
theorem conv_whole {M : Nat} (h1 : 4503599627370496 ≤ M) (h2 : M < 9007199254740992) (w : World) : (convert 23 22 (.float .f64 (1074 * 4503599627370496 + M))).run Try.prog w = .ok (.int .u64 (M : Int)) w := by
  refine run_convert_float_int w 23 22 .f64 .u64 _ _ (by kernel_rfl) Try.underlying22 ?_
  unfold floatToIntVal FloatKind.decode
  rw [show FloatKind.f64.format = Ieee.double from rfl, read_mk h1 h2 (by omega)]
  have : Ieee.Datum.toInt .zero (.number false M (-1074 + ((1074 : Nat) : Int))) = some (M : Int) := by
    unfold Ieee.Datum.toInt Ieee.Datum.integral Ieee.signed
    have hc := cut_zero M
    simp [hc]
  rw [this]
  simp [IntKind.min, IntKind.max, IntKind.signed, IntKind.bits]
  omega
theorem whole_any (b : Nat) (w : World) (h : Pos b) (hb : 0 < b) : Calls Try.prog 18 #[.float .f64 b] w fun e w' => e = .returned (.tuple #[.int .u64 (mant b), .int .i64 (ex b - 53)]) ∧ w' = w := by
  obtain ⟨m1, m2⟩ := mant_bd hb
  have hm : FloatKind.f64.format.mul (1021 * 4503599627370496 + mant b) 4845873199050653696 = some (1074 * 4503599627370496 + mant b) := by
    have := mul_two (p := 1021) (q := 1075) m1 m2 (by omega) (by omega) (by omega) (by omega)
    exact this
  have hconv := conv_whole m1 m2
  have hex : -1080 ≤ ex b ∧ ex b ≤ 1030 := by
    have := h.lt
    unfold ex
    by_cases hn : b < 4503599627370496
    · rw [if_pos hn]
      have hlog : b.log2 ≤ 51 := by have := (Nat.log2_lt (show b ≠ 0 by omega) (k := 52)).2 (by simpa using hn); omega
      omega
    · rw [if_neg hn]; omega
  have hfx := Lib.hid (frexp_any b · h hb)
  generalize mant b = M at *
  generalize ex b = E at *
  obtain ⟨X, hX⟩ : ∃ X, X = 1021 * 4503599627370496 + M := ⟨_, rfl⟩
  obtain ⟨Y, hY⟩ : ∃ Y, Y = 1074 * 4503599627370496 + M := ⟨_, rfl⟩
  rw [← hX] at hfx hm
  rw [← hY] at hconv hm
  clear hX hY m1 m2
  have hmr := fun w => run_float_arith (P := Try.prog) w .mul 23 .f64 X 4845873199050653696 Y hm
  obtain ⟨x1, x2⟩ := hex
  go_enter Try.func18, Try.ntmps18
  go_wp2_with (go_at_call 22; refine (hfx.out _).mono ?_; rintro e w1 ⟨rfl, rfl⟩)
  go_ret2
  exact ⟨rfl, rfl⟩
end Go.Proofs.Ytmdccmhkllpibaa
