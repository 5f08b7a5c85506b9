import Derived.Test.YtmdccmhkllpibaaL3
set_option linter.unusedSimpArgs false
set_option linter.unusedVariables false
set_option maxHeartbeats 8000000
set_option maxRecDepth 100000
namespace Go.Proofs.Ytmdccmhkllpibaa
open Go.RowKit Go.Fl
/-- a whole number's word, halved so many times -/
def hOf (m i : Nat) : Nat := if m = 0 then 0 else (1022 + m.log2 - i) * 4503599627370496 + m * 2 ^ (52 - m.log2)
theorem hOf_none (m : Nat) : hOf m 0 = fOf m := by unfold hOf fOf; simp
theorem hOf_lt {m : Nat} (h : m < 9007199254740992) (i : Nat) : hOf m i < 9218868437227405312 := by
  unfold hOf
  by_cases h0 : m = 0
  · rw [if_pos h0]; decide
  · obtain ⟨a, b, c⟩ := log2_shift (show 0 < m by omega) h
    rw [if_neg h0]; omega
theorem hOf_div {m i : Nat} (h : m < 9007199254740992) (hi : i < 1000) : FloatKind.f64.format.div (hOf m i) 4611686018427387904 = some (hOf m (i + 1)) := by
  unfold hOf
  by_cases h0 : m = 0
  · rw [if_pos h0, if_pos h0]; exact div_zero
  · obtain ⟨a, b, c⟩ := log2_shift (show 0 < m by omega) h
    rw [if_neg h0, if_neg h0]
    have := div_two (p := 1022 + m.log2 - i) a b (by omega) (by omega)
    rw [show 1022 + m.log2 - i - 1 = 1022 + m.log2 - (i + 1) by omega] at this
    exact this
theorem VV_hOf {m i : Nat} (h : m < 9007199254740992) (hi : i < 1000) : VV (hOf m i) * 2 ^ i = m * 2 ^ E0 := by
  have hl := hOf_lt h i
  unfold VV
  rw [if_neg (by omega)]
  unfold hOf
  by_cases h0 : m = 0
  · rw [if_pos h0, h0]; simp [V]
  · obtain ⟨a, b, c⟩ := log2_shift (show 0 < m by omega) h
    rw [if_neg h0, V_mk a b, Nat.mul_assoc, Nat.mul_assoc, ← Nat.pow_add, ← Nat.pow_add]
    rw [show 52 - m.log2 + (1022 + m.log2 - i + i) = E0 by unfold E0; omega]
theorem out_half_times {n m i : Nat} (hm : m < 9007199254740992) (hi : i < 1000) (h : n * m / 2 ^ i ≤ 1125899906842624) : tOut n (hOf m i) = .tuple #[.int .i64 ((n * m / 2 ^ i : Nat) : Int), .int .i64 0] := by
  have e : n * VV (hOf m i) / 2 ^ E0 = n * m / 2 ^ i := by
    have hp : 0 < 2 ^ i := Nat.two_pow_pos _
    have hE : 0 < 2 ^ E0 := Nat.two_pow_pos _
    rw [← Nat.mul_div_mul_right _ _ hp, Nat.mul_assoc, VV_hOf hm hi, ← Nat.mul_assoc, Nat.mul_comm (2 ^ E0), Nat.mul_div_mul_right _ _ hE]
  unfold tOut
  rw [e, if_pos h]
theorem wholes_law (a m k : Nat) (w : World) (ha : a < 4294967296) (hm : m < 65536) (hk : k < 256) : Calls Try.prog 4 #[.int .u32 a, .int .u16 m, .int .u8 k] w fun e w' => e = .returned (.bool true) ∧ w' = w := by
  obtain ⟨s, hs⟩ : ∃ s, s = k % 30 := ⟨_, rfl⟩
  have hprod : a * m < 281474976710656 := by
    have : a * m ≤ 4294967295 * 65535 := Nat.mul_le_mul (by omega) (by omega)
    omega
  have hdiv : a * m / 2 ^ s ≤ 1125899906842624 := Nat.le_trans (Nat.div_le_self _ _) (by omega)
  have T1 := Lib.hid (fun w => times_any a (hOf m s) w (by omega) (.inl (hOf_lt (by omega) s)))
  have T2 := Lib.hid (fun w => times_any a (fOf m) w (by omega) (.inl (fOf_lt (by omega))))
  rw [out_half_times (by omega) (by omega) hdiv] at T1
  rw [out_whole a m (by omega) (by omega)] at T2
  have hc : floatOfInt .f64 (m : Int) = fOf m := by
    have : FloatKind.nearest .f64 (m : Int) = fOf m := by
      unfold FloatKind.nearest FloatKind.encode Ieee.Format.write
      simp only
      have h0 : decide ((m : Int) < 0) = false := by simp
      rw [h0]
      exact nearest_whole (by omega)
    exact this
  have HD := Lib.hid (fun i (hi : i < 1000) w => run_float_arith (P := Try.prog) w .quo 23 .f64 (hOf m i) 4611686018427387904 (hOf m (i + 1)) (hOf_div (by omega) hi))
  have hks : ((k : Int) % 30) = (s : Int) := by omega
  have hs30 : s < 30 := by omega
  obtain ⟨q, hq⟩ : ∃ q, q = a * m := ⟨_, rfl⟩
  rw [← hq] at T1 hprod hdiv
  have p0 : (a : Int) * (m : Int) = (q : Int) := by rw [hq]; simp
  have p1 : (q : Int) < 281474976710656 := by omega
  have H0 := Lib.hid (hOf_none m)
  generalize fOf m = F at *
  clear hs hdiv hprod hq
  go_enter Try.func4, Try.ntmps4
  go_wp2_with fail
  go_loop [8, 9] (fun f i => ∃ j : Nat, j ≤ s ∧ i = .int .i64 j ∧ f = .float .f64 (hOf m j)) (fun _ i => s - (intOf i).toNat)
  · exact ⟨0, by omega, rfl, by rw [H0.out]⟩
  · obtain ⟨j, hj, rfl, rfl⟩ := hrel
    by_cases hlt : j < s
    · have hd := HD.out j (by omega)
      have hlt' : (j : Int) < (s : Int) := by omega
      go_wp2
      go_round
      · exact ⟨j + 1, by omega, by go_num, rfl⟩
      · show s - ((j : Int) + 1).toNat < s - ((j : Int)).toNat
        omega
    · obtain rfl : j = s := by omega
      go_wp2_with fail
      refine (T1.out _).mono ?_
      rintro e w1 ⟨rfl, rfl⟩
      go_wp2_with fail
      refine (T2.out _).mono ?_
      rintro e w1 ⟨rfl, rfl⟩
      go_wp2_with (first | (go_at_call 12; refine (awake_ok _).mono ?_; rintro e w1 ⟨rfl, rfl⟩))
      all_goals go_ret
      all_goals exact ⟨by first | rfl | (simp; done) | (simp; omega), rfl⟩
end Go.Proofs.Ytmdccmhkllpibaa
