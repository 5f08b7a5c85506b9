import Derived.Test.YtmdccmhkllpibaaW4
set_option linter.unusedSimpArgs false
set_option linter.unusedVariables false
set_option maxHeartbeats 4000000
set_option maxRecDepth 100000
namespace Go.Proofs.Ytmdccmhkllpibaa
open Go.RowKit Go.Fl
theorem link_down {a b n : Nat} (hb : b < 9218868437227405312) (h0 : 0 < b) (hn : ex b - 53 = -(n : Int)) : a * mant b / 2 ^ n = a * V b / 2 ^ E0 := by
  unfold ex mant V at *
  by_cases h : b < 4503599627370496
  · rw [if_pos h] at hn
    have hlog : b.log2 ≤ 51 := by have := (Nat.log2_lt (show b ≠ 0 by omega) (k := 52)).2 (by simpa using h); omega
    rw [if_pos h, if_pos h, show n = E0 + (52 - b.log2) by unfold E0; omega, Nat.pow_add, ← Nat.mul_assoc, Nat.mul_div_mul_right _ _ (Nat.two_pow_pos _)]
  · rw [if_neg h] at hn
    rw [if_neg h, if_neg h]
    have e : E0 = n + (b / 4503599627370496 - 1) := by unfold E0; omega
    rw [e, Nat.pow_add, ← Nat.mul_assoc, Nat.mul_div_mul_right _ _ (Nat.two_pow_pos _)]
theorem link_up {a b : Nat} (ha : 0 < a) (hb : b < 9218868437227405312) (hn : 0 < ex b - 53) : ¬ a * V b / 2 ^ E0 ≤ 1125899906842624 := by
  unfold ex V at *
  by_cases h : b < 4503599627370496
  · rw [if_pos h] at hn
    have : b.log2 < 52 := by
      by_cases h0 : b = 0
      · subst h0; decide
      · exact (Nat.log2_lt h0).2 (by simpa using h)
    omega
  · rw [if_neg h] at hn
    rw [if_neg h]
    obtain ⟨d, hd⟩ : ∃ d, b / 4503599627370496 - 1 = d + E0 := ⟨b / 4503599627370496 - 1 - E0, by unfold E0; omega⟩
    rw [hd, Nat.pow_add, ← Nat.mul_assoc, ← Nat.mul_assoc, Nat.mul_div_cancel _ (Nat.two_pow_pos _)]
    have h1 : 1 ≤ 2 ^ d := Nat.one_le_two_pow
    have h2 : 4503599627370496 ≤ a * (4503599627370496 + b % 4503599627370496) := Nat.le_trans (by omega) (Nat.le_mul_of_pos_left _ ha)
    have h3 : a * (4503599627370496 + b % 4503599627370496) ≤ a * (4503599627370496 + b % 4503599627370496) * 2 ^ d := Nat.le_mul_of_pos_right _ (by omega)
    omega
/-- what Times tells of an amount that may be and a right word -/
def tOut (a b : Nat) : Value := if a * VV b / 2 ^ E0 ≤ 1125899906842624 then .tuple #[.int .i64 ((a * VV b / 2 ^ E0 : Nat) : Int), .int .i64 0] else .tuple #[.int .i64 0, .int .i64 9]
theorem tOut_nought {a b : Nat} (h : a * VV b = 0) : tOut a b = .tuple #[.int .i64 0, .int .i64 0] := by
  unfold tOut
  rw [h, Nat.zero_div, if_pos (by omega)]; rfl
theorem times_any (a b : Nat) (w : World) (ha : a ≤ 1125899906842624) (hb : b < 9218868437227405312 ∨ b = 9223372036854775808) : Calls Try.prog 10 #[.int .i64 a, .float .f64 b] w fun e w' => e = .returned (tOut a b) ∧ w' = w := by
  rcases hb with hb | rfl
  · by_cases ha0 : a = 0
    · subst ha0
      rw [tOut_nought (by simp)]
      exact times_none b w (rightB_pos hb)
    · by_cases hb0 : b = 0
      · subst hb0
        rw [tOut_nought (by simp [VV, V])]
        exact times_nought a 0 w (rightB_pos hb) (by omega) (by omega) (by rw [ord 0 0 (by decide) (by decide), cmp_eq])
      · have hVV : VV b = V b := by unfold VV; rw [if_neg (by omega)]
        unfold tOut
        rw [hVV]
        by_cases he : 0 < ex b - 53
        · rw [if_neg (link_up (by omega) hb he)]
          exact times_up a b w (by omega) ha (pos_mk hb) (by omega) he
        · obtain ⟨n, hn⟩ : ∃ n : Nat, ex b - 53 = -(n : Int) := ⟨(53 - ex b).toNat, by omega⟩
          have hn2 : n ≤ 1200 := by
            unfold ex at hn
            split at hn <;> omega
          rw [← link_down hb (by omega) hn]
          by_cases hq : a * mant b / 2 ^ n ≤ 1125899906842624
          · rw [if_pos hq]
            exact times_small a b n w (by omega) ha (pos_mk hb) (by omega) hn hn2 hq
          · rw [if_neg hq]
            exact times_great a b n w (by omega) ha (pos_mk hb) (by omega) hn hn2 hq
  · rw [tOut_nought (by simp [VV])]
    exact times_nought a _ w rightB_negz (by omega) (by omega) (by decide +kernel)
theorem tOut_29 : tOut 100 4598895795485655695 = .tuple #[.int .i64 28, .int .i64 0] := by
  have : 100 * VV 4598895795485655695 / 2 ^ E0 = 28 := by decide +kernel
  unfold tOut; rw [this]; rfl
theorem tOut_25 : tOut 100 4598175219545276416 = .tuple #[.int .i64 25, .int .i64 0] := by
  have : 100 * VV 4598175219545276416 / 2 ^ E0 = 25 := by decide +kernel
  unfold tOut; rw [this]; rfl
theorem times_29 (w : World) : Calls Try.prog 10 #[.int .i64 100, .float .f64 4598895795485655695] w fun e w' => e = .returned (.tuple #[.int .i64 28, .int .i64 0]) ∧ w' = w := by
  rw [← tOut_29]; exact times_any 100 _ w (by omega) (.inl (by decide))
theorem times_25 (w : World) : Calls Try.prog 10 #[.int .i64 100, .float .f64 4598175219545276416] w fun e w' => e = .returned (.tuple #[.int .i64 25, .int .i64 0]) ∧ w' = w := by
  rw [← tOut_25]; exact times_any 100 _ w (by omega) (.inl (by decide))
theorem awake_ok (w : World) : Calls Try.prog 12 #[] w fun e w' => e = .returned (.bool true) ∧ w' = w := by
  go_enter Try.func12, Try.ntmps12
  go_wp2_with fail
  refine (times_29 _).mono ?_
  rintro e w1 ⟨rfl, rfl⟩
  go_wp2_with fail
  refine (times_25 _).mono ?_
  rintro e w1 ⟨rfl, rfl⟩
  go_wp2
  go_ret
  exact ⟨rfl, rfl⟩
/-- the law's own word for right -/
theorem lright_any (b : Nat) (w : World) (h : rightB b = true → FloatKind.f64.format.order b b = some Ordering.eq) : Calls Try.prog 11 #[.float .f64 b] w fun e w' => e = .returned (.bool (rightB b)) ∧ w' = w := by
  have d1 : (FloatKind.f64.format.order b 0 == some Ordering.gt || FloatKind.f64.format.order b 0 == some Ordering.eq) = ge0 b := rfl
  have d2 : (FloatKind.f64.format.order b 9218868437227405311 == some Ordering.lt || FloatKind.f64.format.order b 9218868437227405311 == some Ordering.eq) = leM b := rfl
  have d3 : rightB b = (ge0 b && leM b) := rfl
  rcases h1 : ge0 b <;> rcases h2 : leM b
  · rw [h1] at d1; rw [h2] at d2; rw [d3, h1]
    clear h h1 h2 d3
    rcases hs : (FloatKind.f64.format.order b b == some Ordering.eq)
    · go_enter Try.func11, Try.ntmps11
      go_wp2
      go_ret
      exact ⟨rfl, rfl⟩
    · go_enter Try.func11, Try.ntmps11
      go_wp2
      go_ret
      exact ⟨rfl, rfl⟩
  · rw [h1] at d1; rw [h2] at d2; rw [d3, h1]
    clear h h1 h2 d3
    rcases hs : (FloatKind.f64.format.order b b == some Ordering.eq)
    · go_enter Try.func11, Try.ntmps11
      go_wp2
      go_ret
      exact ⟨rfl, rfl⟩
    · go_enter Try.func11, Try.ntmps11
      go_wp2
      go_ret
      exact ⟨rfl, rfl⟩
  · rw [h1] at d1; rw [h2] at d2; rw [d3, h1, h2]
    clear h h1 h2 d3
    rcases hs : (FloatKind.f64.format.order b b == some Ordering.eq)
    · go_enter Try.func11, Try.ntmps11
      go_wp2
      go_ret
      exact ⟨rfl, rfl⟩
    · go_enter Try.func11, Try.ntmps11
      go_wp2
      go_ret
      exact ⟨rfl, rfl⟩
  · have hs := h (by rw [d3, h1, h2]; rfl)
    rw [h1] at d1; rw [h2] at d2; rw [d3, h1, h2]
    clear h h1 h2 d3
    go_enter Try.func11, Try.ntmps11
    go_wp2
    go_ret
    exact ⟨rfl, rfl⟩
theorem self_eq {b : Nat} (hb : b < 18446744073709551616) (h : rightB b = true) : FloatKind.f64.format.order b b = some Ordering.eq := by
  rcases rightB_only hb h with h | rfl
  · exact (pos_mk h).self
  · decide +kernel
theorem lright (b : Nat) (w : World) (hb : b < 18446744073709551616) : Calls Try.prog 11 #[.float .f64 b] w fun e w' => e = .returned (.bool (rightB b)) ∧ w' = w := lright_any b w (self_eq hb)
end Go.Proofs.Ytmdccmhkllpibaa
