import Derived.Test.YtmdccmhkllpibaaW5
set_option linter.unusedSimpArgs false
set_option linter.unusedVariables false
set_option maxHeartbeats 4000000
set_option maxRecDepth 100000
namespace Go.Proofs.Ytmdccmhkllpibaa
open Go.RowKit Go.Fl
theorem zero_only {b : Nat} (hb : b < 18446744073709551616) (h : FloatKind.f64.format.order b 0 = some Ordering.eq) : b = 0 ∨ b = 9223372036854775808 := by
  by_cases h1 : b < 9218868437227405312
  · rw [ord b 0 h1 (by decide)] at h
    left
    simp only [Option.some.injEq, compare, compareOfLessAndEq] at h
    by_cases h0 : b = 0
    · exact h0
    · rw [if_neg (by omega), if_neg h0] at h; cases h
  by_cases h2 : b = 9223372036854775808
  · exact .inr h2
  exfalso
  have z0 : Ieee.double.read 0 = .number false 0 (-1074) := read_sub (by decide)
  have ef : FloatKind.f64.format = Ieee.double := rfl
  rw [ef] at h
  unfold Ieee.Format.order at h
  rw [z0] at h
  by_cases h3 : b < 9223372036854775808
  · have e : Ieee.double.read b = .infinity false ∨ ∃ f, Ieee.double.read b = .nan false f := by
      unfold Ieee.Format.read
      rw [sw, bn, ir, lp]
      have h4 : b / 9223372036854775808 % 2 = 0 := by omega
      have h5 : b % 9223372036854775808 = b := by omega
      simp only [h4, h5]
      rw [if_neg (by omega), if_neg h1]
      by_cases h6 : b = 9218868437227405312
      · rw [if_pos h6]; exact .inl rfl
      · rw [if_neg h6]; exact .inr ⟨_, rfl⟩
    rcases e with e | ⟨f, e⟩ <;> · rw [e] at h; simp [Ieee.Datum.order] at h
  · obtain ⟨m, p, e⟩ := read_neg (show 9223372036854775808 < b by omega) hb
    rcases e with ⟨hm, e⟩ | e | ⟨f, e⟩
    · rw [e] at h
      simp only [Ieee.Datum.order, Ieee.signed] at h
      have : (0 : Int) < (m <<< (p - min p (-1074)).toNat : Nat) := by
        rw [Nat.shiftLeft_eq]
        have := Nat.mul_pos hm (Nat.two_pow_pos (p - min p (-1074)).toNat)
        omega
      have hl : compare (-((m <<< (p - min p (-1074)).toNat : Nat) : Int)) (((0 : Nat) <<< (-1074 - min p (-1074)).toNat : Nat) : Int) = Ordering.lt := by
        rw [Nat.zero_shiftLeft]
        simp only [compare, compareOfLessAndEq]
        rw [if_pos (by omega)]
      simp only [if_true, Bool.false_eq_true, if_false] at h
      rw [hl] at h
      simp at h
    · rw [e] at h; simp [Ieee.Datum.order] at h
    · rw [e] at h; simp [Ieee.Datum.order] at h
theorem plain_law (b : Nat) (w : World) (hb : b < 18446744073709551616) : Calls Try.prog 7 #[.int .u64 b] w fun e w' => e = .returned (.bool true) ∧ w' = w := by
  rcases hs : (FloatKind.f64.format.order b b == some Ordering.eq)
  · have hz : (FloatKind.f64.format.order b 0 == some Ordering.eq) = false := by
      rcases hz : (FloatKind.f64.format.order b 0 == some Ordering.eq)
      · rfl
      · exfalso
        rcases zero_only hb (by simpa using hz) with rfl | rfl
        · rw [ord 0 0 (by decide) (by decide), cmp_eq] at hs; cases hs
        · have : (FloatKind.f64.format.order 9223372036854775808 9223372036854775808 == some Ordering.eq) = true := by decide +kernel
          rw [this] at hs; cases hs
    have hs' : (FloatKind.f64.format.order b b != some Ordering.eq) = true := by simpa using hs
    go_enter Try.func7, Try.ntmps7
    go_wp2_with (first | (go_at_call 12; refine (awake_ok _).mono ?_; rintro e w1 ⟨rfl, rfl⟩) | go_in)
    go_ret
    exact ⟨by simp [hs'], rfl⟩
  · have hs' : (FloatKind.f64.format.order b b != some Ordering.eq) = false := by simpa using hs
    rcases hz : (FloatKind.f64.format.order b 0 == some Ordering.eq)
    · go_enter Try.func7, Try.ntmps7
      go_wp2_with (first | (go_at_call 12; refine (awake_ok _).mono ?_; rintro e w1 ⟨rfl, rfl⟩) | go_in)
      go_ret
      exact ⟨by simp, rfl⟩
    · go_enter Try.func7, Try.ntmps7
      go_wp2_with (first | (go_at_call 12; refine (awake_ok _).mono ?_; rintro e w1 ⟨rfl, rfl⟩) | go_in)
      go_ret
      exact ⟨by simp, rfl⟩
end Go.Proofs.Ytmdccmhkllpibaa
