import Derived.Test.YtmdccmhkllpibaaW3
set_option linter.unusedSimpArgs false
set_option linter.unusedVariables false
set_option maxHeartbeats 4000000
set_option maxRecDepth 100000
namespace Go.Proofs.Ytmdccmhkllpibaa
open Go.RowKit Go.Fl
theorem times_up (a b : Nat) (w : World) (ha : 0 < a) (ha2 : a ≤ 1125899906842624) (h : Pos b) (hb : 0 < b) (hn : 0 < ex b - 53) : Calls Try.prog 10 #[.int .i64 a, .float .f64 b] w fun e w' => e = .returned (.tuple #[.int .i64 0, .int .i64 9]) ∧ w' = w := by
  obtain ⟨m1, m2⟩ := mant_bd hb
  have hR := Lib.hid (right_pos b · h)
  have hP := Lib.hid (purse_right (a : Int) · (by omega) (by omega))
  have hW := Lib.hid (whole_any b · h hb)
  have hM := Lib.hid (mul_any a (mant b) · (by omega) (by omega))
  have hN : 4503599627370496 ≤ a * mant b := Nat.le_trans m1 (Nat.le_mul_of_pos_left _ ha)
  have g0 : FloatKind.f64.format.order b 0 = some Ordering.gt := by rw [ord b 0 h.lt (by decide), cmp_gt (by omega)]
  have hE2 : ex b ≤ 1030 := by
    have := h.lt
    unfold ex
    by_cases hn : b < 4503599627370496
    · rw [if_pos hn]
      have hlog : b.log2 ≤ 51 := by have := (Nat.log2_lt (show b ≠ 0 by omega) (k := 52)).2 (by simpa using hn); omega
      omega
    · rw [if_neg hn]; omega
  clear h hb
  generalize mant b = M at *
  have hE3 : ex b - 53 ≤ 1000 := by omega
  generalize ex b - 53 = E at *
  clear hE2
  have hEn : decide (E < 0) = false := by simp; omega
  have hEp : decide (0 < E) = true := by simp; omega
  generalize a * M = N at *
  have ha0 : ((a : Int) == 0) = false := by rw [beq_eq_false_iff_ne]; omega
  have ha1 : (0 : Int) ≤ (a : Int) := by omega
  have ha3 : (a : Int) ≤ 1125899906842624 := by omega
  clear m1 m2
  have hcase : 0 < N / 18446744073709551616 ∨ (N / 18446744073709551616 = 0 ∧ 1125899906842624 < N % 18446744073709551616) := by omega
  generalize N / 18446744073709551616 = H at *
  generalize N % 18446744073709551616 = L at *
  clear hN
  rcases hcase with hc | ⟨rfl, hc⟩
  · have hH2 : decide ((0 : Int) < (H : Int)) = true := by simp; omega
    have hH0 : ¬ H = 0 := by omega
    clear hc
    go_enter Try.func10, Try.ntmps10
    go_wp2_with (first | (go_at_call 13; refine (hR.out _).mono ?_; rintro e w1 ⟨rfl, rfl⟩) | (go_at_call 17; refine (hP.out _).mono ?_; rintro e w1 ⟨rfl, rfl⟩) | (go_at_call 18; refine (hW.out _).mono ?_; rintro e w1 ⟨rfl, rfl⟩) | (go_at_call 19; refine (hM.out _).mono ?_; rintro e w1 ⟨rfl, rfl⟩))
    refine wp_loop_rounds 1 ?_
    rw [rounds_succ]
    go_wp2_with fail
    refine wp_loop_rounds 1 ?_
    rw [rounds_succ]
    go_wp2
    go_ret2
    exact ⟨rfl, rfl⟩
  · have hL2 : decide ((1125899906842624 : Int) < (L : Int)) = true := by simp; omega
    clear hc
    go_enter Try.func10, Try.ntmps10
    go_wp2_with (first | (go_at_call 13; refine (hR.out _).mono ?_; rintro e w1 ⟨rfl, rfl⟩) | (go_at_call 17; refine (hP.out _).mono ?_; rintro e w1 ⟨rfl, rfl⟩) | (go_at_call 18; refine (hW.out _).mono ?_; rintro e w1 ⟨rfl, rfl⟩) | (go_at_call 19; refine (hM.out _).mono ?_; rintro e w1 ⟨rfl, rfl⟩))
    refine wp_loop_rounds 1 ?_
    rw [rounds_succ]
    go_wp2_with fail
    refine wp_loop_rounds 1 ?_
    rw [rounds_succ]
    go_wp2
    go_ret2
    exact ⟨rfl, rfl⟩
/-- may a word be taken so many times -/
def ge0 (b : Nat) : Bool := FloatKind.f64.format.order b 0 == some Ordering.gt || FloatKind.f64.format.order b 0 == some Ordering.eq
def leM (b : Nat) : Bool := FloatKind.f64.format.order b 9218868437227405311 == some Ordering.lt || FloatKind.f64.format.order b 9218868437227405311 == some Ordering.eq
def rightB (b : Nat) : Bool := ge0 b && leM b
theorem rright_any (b : Nat) (w : World) : Calls Try.prog 13 #[.float .f64 b] w fun e w' => e = .returned (.bool (rightB b)) ∧ w' = w := by
  unfold rightB
  rcases h1 : ge0 b
  · have h1' : (FloatKind.f64.format.order b 0 == some Ordering.gt || FloatKind.f64.format.order b 0 == some Ordering.eq) = false := h1
    clear h1
    go_enter Try.func13, Try.ntmps13
    go_wp2
    go_ret
    exact ⟨rfl, rfl⟩
  · have h1' : (FloatKind.f64.format.order b 0 == some Ordering.gt || FloatKind.f64.format.order b 0 == some Ordering.eq) = true := h1
    clear h1
    have h2 : (FloatKind.f64.format.order b 9218868437227405311 == some Ordering.lt || FloatKind.f64.format.order b 9218868437227405311 == some Ordering.eq) = leM b := rfl
    go_enter Try.func13, Try.ntmps13
    go_wp2
    go_ret
    exact ⟨by simp, rfl⟩
theorem times_notright (a : Int) (b : Nat) (w : World) (h : rightB b = false) : Calls Try.prog 10 #[.int .i64 a, .float .f64 b] w fun e w' => e = .returned (.tuple #[.int .i64 0, .int .i64 1]) ∧ w' = w := by
  have hR := Lib.hid (rright_any b)
  rw [h] at hR
  clear h
  go_enter Try.func10, Try.ntmps10
  go_wp2_with (first | (go_at_call 13; refine (hR.out _).mono ?_; rintro e w1 ⟨rfl, rfl⟩))
  go_ret2
  exact ⟨rfl, rfl⟩
theorem times_neg (a : Int) (b : Nat) (w : World) (h : rightB b = true) (ha : a < 0) : Calls Try.prog 10 #[.int .i64 a, .float .f64 b] w fun e w' => e = .returned (.tuple #[.int .i64 0, .int .i64 9]) ∧ w' = w := by
  have hR := Lib.hid (rright_any b)
  rw [h] at hR
  clear h
  go_enter Try.func10, Try.ntmps10
  go_wp2_with (first | (go_at_call 13; refine (hR.out _).mono ?_; rintro e w1 ⟨rfl, rfl⟩))
  go_ret2
  exact ⟨rfl, rfl⟩
theorem times_much (a : Int) (b : Nat) (w : World) (h : rightB b = true) (ha0 : 0 ≤ a) (ha : 1125899906842624 < a) : Calls Try.prog 10 #[.int .i64 a, .float .f64 b] w fun e w' => e = .returned (.tuple #[.int .i64 0, .int .i64 9]) ∧ w' = w := by
  have hR := Lib.hid (rright_any b)
  rw [h] at hR
  have hP := Lib.hid (purse_wrong a · ha0 (by simp; omega))
  clear h ha
  go_enter Try.func10, Try.ntmps10
  go_wp2_with (first | (go_at_call 13; refine (hR.out _).mono ?_; rintro e w1 ⟨rfl, rfl⟩) | (go_at_call 17; refine (hP.out _).mono ?_; rintro e w1 ⟨rfl, rfl⟩))
  go_ret2
  exact ⟨rfl, rfl⟩
theorem times_none (b : Nat) (w : World) (h : rightB b = true) : Calls Try.prog 10 #[.int .i64 0, .float .f64 b] w fun e w' => e = .returned (.tuple #[.int .i64 0, .int .i64 0]) ∧ w' = w := by
  have hR := Lib.hid (rright_any b)
  rw [h] at hR
  have hP := Lib.hid (purse_right 0 · (by omega) (by omega))
  clear h
  go_enter Try.func10, Try.ntmps10
  go_wp2_with (first | (go_at_call 13; refine (hR.out _).mono ?_; rintro e w1 ⟨rfl, rfl⟩) | (go_at_call 17; refine (hP.out _).mono ?_; rintro e w1 ⟨rfl, rfl⟩))
  go_ret2
  exact ⟨rfl, rfl⟩
theorem times_nought (a : Int) (b : Nat) (w : World) (h : rightB b = true) (ha0 : 0 ≤ a) (ha : a ≤ 1125899906842624) (hz : FloatKind.f64.format.order b 0 = some Ordering.eq) : Calls Try.prog 10 #[.int .i64 a, .float .f64 b] w fun e w' => e = .returned (.tuple #[.int .i64 0, .int .i64 0]) ∧ w' = w := by
  have hR := Lib.hid (rright_any b)
  rw [h] at hR
  have hP := Lib.hid (purse_right a · ha0 ha)
  clear h
  rcases hA : (a == 0)
  · go_enter Try.func10, Try.ntmps10
    go_wp2_with (first | (go_at_call 13; refine (hR.out _).mono ?_; rintro e w1 ⟨rfl, rfl⟩) | (go_at_call 17; refine (hP.out _).mono ?_; rintro e w1 ⟨rfl, rfl⟩))
    go_ret2
    exact ⟨rfl, rfl⟩
  · go_enter Try.func10, Try.ntmps10
    go_wp2_with (first | (go_at_call 13; refine (hR.out _).mono ?_; rintro e w1 ⟨rfl, rfl⟩) | (go_at_call 17; refine (hP.out _).mono ?_; rintro e w1 ⟨rfl, rfl⟩))
    go_ret2
    exact ⟨rfl, rfl⟩
/-- the value of a right word, in units of the least place -/
def VV (b : Nat) : Nat := if b = 9223372036854775808 then 0 else V b
theorem rightB_pos {b : Nat} (h : b < 9218868437227405312) : rightB b = true := by
  have p := pos_mk h
  have h1 : ge0 b = true := p.le0
  have h2 : leM b = true := p.leM
  simp [rightB, h1, h2]
theorem rightB_negz : rightB 9223372036854775808 = true := by decide +kernel
theorem read_neg {b : Nat} (h : 9223372036854775808 < b) (h2 : b < 18446744073709551616) : ∃ m p, (0 < m ∧ Ieee.double.read b = .number true m p) ∨ Ieee.double.read b = .infinity true ∨ ∃ f, Ieee.double.read b = .nan true f := by
  unfold Ieee.Format.read
  rw [sw, bn, ir, lp]
  have h1 : b / 9223372036854775808 % 2 = 1 := by omega
  simp only [h1]
  by_cases a1 : b % 9223372036854775808 < 4503599627370496
  · rw [if_pos a1]; exact ⟨_, _, .inl ⟨by omega, rfl⟩⟩
  · rw [if_neg a1]
    by_cases a2 : b % 9223372036854775808 < 9218868437227405312
    · rw [if_pos a2]; exact ⟨_, _, .inl ⟨by omega, rfl⟩⟩
    · rw [if_neg a2]
      by_cases a3 : b % 9223372036854775808 = 9218868437227405312
      · rw [if_pos a3]; exact ⟨0, 0, .inr (.inl rfl)⟩
      · rw [if_neg a3]; exact ⟨0, 0, .inr (.inr ⟨_, rfl⟩)⟩
theorem rightB_only {b : Nat} (hb : b < 18446744073709551616) (h : rightB b = true) : b < 9218868437227405312 ∨ b = 9223372036854775808 := by
  by_cases h1 : b < 9218868437227405312
  · exact .inl h1
  by_cases h2 : b = 9223372036854775808
  · exact .inr h2
  exfalso
  have z0 : Ieee.double.read 0 = .number false 0 (-1074) := read_sub (by decide)
  obtain ⟨mM, pM, eM, -⟩ := read_V (show 9218868437227405311 < 9218868437227405312 by decide)
  simp only [rightB, Bool.and_eq_true] at h
  obtain ⟨g, l⟩ := h
  unfold ge0 at g
  unfold leM at l
  have ef : FloatKind.f64.format = Ieee.double := rfl
  rw [ef] at g l
  unfold Ieee.Format.order at g l
  rw [z0] at g
  rw [eM] at l
  by_cases h3 : b < 9223372036854775808
  · have e : Ieee.double.read b = .infinity false ∨ ∃ f, Ieee.double.read b = .nan false f := by
      unfold Ieee.Format.read
      rw [sw, bn, ir, lp]
      have h4 : b / 9223372036854775808 % 2 = 0 := by omega
      have h5 : b % 9223372036854775808 = b := by omega
      simp only [h4, h5]
      rw [if_neg (by omega), if_neg h1]
      by_cases h6 : b = 9218868437227405312
      · rw [if_pos h6]; exact .inl rfl
      · rw [if_neg h6]; exact .inr ⟨_, rfl⟩
    rcases e with e | ⟨f, e⟩
    · rw [e] at l; simp [Ieee.Datum.order] at l
    · rw [e] at g; simp [Ieee.Datum.order] at g
  · obtain ⟨m, p, e⟩ := read_neg (show 9223372036854775808 < b by omega) hb
    rcases e with ⟨hm, e⟩ | e | ⟨f, e⟩
    · rw [e] at g
      simp only [Ieee.Datum.order, Ieee.signed] at g
      have : (0 : Int) < (m <<< (p - min p (-1074)).toNat : Nat) := by
        rw [Nat.shiftLeft_eq]
        have := Nat.mul_pos hm (Nat.two_pow_pos (p - min p (-1074)).toNat)
        omega
      have hl : compare (-((m <<< (p - min p (-1074)).toNat : Nat) : Int)) (((0 : Nat) <<< (-1074 - min p (-1074)).toNat : Nat) : Int) = Ordering.lt := by
        rw [Nat.zero_shiftLeft]
        simp only [compare, compareOfLessAndEq]
        rw [if_pos (by omega)]
      simp only [if_true, Bool.false_eq_true, if_false] at g
      rw [hl] at g
      simp at g
    · rw [e] at g; simp [Ieee.Datum.order] at g
    · rw [e] at g; simp [Ieee.Datum.order] at g
end Go.Proofs.Ytmdccmhkllpibaa
