import Derived.Test.YtmdccmhkllpibaaL2
set_option linter.unusedSimpArgs false
set_option linter.unusedVariables false
set_option maxHeartbeats 4000000
set_option maxRecDepth 100000
namespace Go.Proofs.Ytmdccmhkllpibaa
open Go.RowKit Go.Fl
theorem V_shift {p : Nat} : V (p * 4503599627370496 + 4503599627370496) = 4503599627370496 * 2 ^ p := V_mk (by omega) (by omega)
theorem VV_one : VV 4607182418800017408 = 2 ^ E0 := by decide +kernel
theorem VV_half : 2 * VV 4602678819172646912 = 2 ^ E0 := by decide +kernel
theorem out_one (n : Nat) (h : n ≤ 1125899906842624) : tOut n 4607182418800017408 = .tuple #[.int .i64 n, .int .i64 0] := by
  unfold tOut
  rw [VV_one, Nat.mul_div_cancel _ (Nat.two_pow_pos _), if_pos h]
theorem out_half (n : Nat) (h : n ≤ 1125899906842624) : tOut n 4602678819172646912 = .tuple #[.int .i64 ((n / 2 : Nat) : Int), .int .i64 0] := by
  unfold tOut
  have hp : 0 < VV 4602678819172646912 := by have := VV_half; have := Nat.two_pow_pos E0; omega
  rw [← VV_half, Nat.mul_comm n, Nat.mul_comm 2, Nat.mul_div_mul_left _ _ hp, if_pos (by omega)]
theorem out_whole (n m : Nat) (hm : m < 9007199254740992) (h : n * m ≤ 1125899906842624) : tOut n (fOf m) = .tuple #[.int .i64 ((n * m : Nat) : Int), .int .i64 0] := by
  have h1 : VV (fOf m) = m * 2 ^ E0 := by unfold VV; rw [if_neg (by have := fOf_lt hm; omega), V_fOf hm]
  unfold tOut
  rw [h1, ← Nat.mul_assoc, Nat.mul_div_cancel _ (Nat.two_pow_pos _), if_pos h]
theorem conv_float (t : TypeId) (k : IntKind) (hk : Try.prog.underlying t = some (.int k)) (m : Nat) (hm : m < 9007199254740992) (w : World) : (convert t 23 (.int k (m : Int))).run Try.prog w = .ok (.float .f64 (fOf m)) w := by
  have : FloatKind.nearest .f64 (m : Int) = fOf m := by
    unfold FloatKind.nearest FloatKind.encode Ieee.Format.write
    simp only
    have h0 : decide ((m : Int) < 0) = false := by simp
    rw [h0]
    exact nearest_whole hm
  simp [convert, run_underlying hk, run_underlying Try.underlying23, Conv.intToFloat, this]
theorem ones_law (x : Nat) (w : World) (hx : x < 18446744073709551616) : Calls Try.prog 6 #[.int .u64 x] w fun e w' => e = .returned (.bool true) ∧ w' = w := by
  obtain ⟨n, hn⟩ : ∃ n, n = x % 1125899906842625 := ⟨_, rfl⟩
  have hn2 : n ≤ 1125899906842624 := by omega
  have h1 := Lib.hid (times_any n 4607182418800017408 · hn2 (.inl (by decide)))
  have h2 := Lib.hid (times_any n 4602678819172646912 · hn2 (.inl (by decide)))
  have h3 := Lib.hid (times_any n 0 · hn2 (.inl (by decide)))
  have h4 := Lib.hid (times_any 1 (fOf n) · (by omega) (.inl (fOf_lt (by omega))))
  rw [out_one n hn2] at h1
  rw [out_half n hn2] at h2
  rw [tOut_nought (by simp [VV, V])] at h3
  rw [out_whole 1 n (by omega) (by omega), Nat.one_mul] at h4
  have hc := conv_float 2 .i64 Try.underlying2 n (by omega)
  have hmod : ((x : Int) % 1125899906842625) = (n : Int) := by omega
  generalize fOf n = F at *
  have n0 : (0 : Int) ≤ (n : Int) := by omega
  have n1 : (n : Int) ≤ 1125899906842624 := by omega
  clear hn
  go_enter Try.func6, Try.ntmps6
  go_wp2_with fail
  refine (h1.out _).mono ?_
  rintro e w1 ⟨rfl, rfl⟩
  go_wp2_with fail
  refine (h2.out _).mono ?_
  rintro e w1 ⟨rfl, rfl⟩
  go_wp2_with fail
  refine (h3.out _).mono ?_
  rintro e w1 ⟨rfl, rfl⟩
  go_wp2_with fail
  refine (h4.out _).mono ?_
  rintro e w1 ⟨rfl, rfl⟩
  go_wp2_with (go_at_call 12; refine (awake_ok _).mono ?_; rintro e w1 ⟨rfl, rfl⟩)
  go_ret
  exact ⟨by simp, rfl⟩
end Go.Proofs.Ytmdccmhkllpibaa
