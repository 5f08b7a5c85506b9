import Derived.Test.YtmdccmhkllpibaaL5
import Derived.Laws.Bits128
set_option linter.unusedSimpArgs false
set_option linter.unusedVariables false
set_option maxHeartbeats 8000000
set_option maxRecDepth 100000
namespace Go.Proofs.Ytmdccmhkllpibaa
open Go.RowKit Go.Fl
theorem one_mul {M q : Nat} (h1 : 4503599627370496 ≤ M) (h2 : M < 9007199254740992) (hq : q ≤ 2045) : FloatKind.f64.format.mul 4607182418800017408 (q * 4503599627370496 + M) = some (q * 4503599627370496 + M) := by
  show Ieee.double.mul (1022 * 4503599627370496 + 4503599627370496) (q * 4503599627370496 + M) = _
  unfold Ieee.Format.mul
  rw [read_mk h1 h2 hq, read_mk (by omega) (by omega) (by omega)]
  simp only [Ieee.Datum.product, Option.map_some, Ieee.Format.write, Option.some.injEq, Bool.xor_self]
  have := nearest_up h1 h2 52 q (by omega)
  rw [show 4503599627370496 * M = M * 2 ^ 52 by omega, ← this, show -1074 + ((1022 : Nat) : Int) + (-1074 + ((q : Nat) : Int)) = -1074 + ((q : Nat) : Int) - ((52 : Nat) : Int) by omega]
theorem and_exp64 (x : Nat) (h : x < 9223372036854775808) : bits .and .i64 ((x : Int) / 4503599627370496) 2047 = (x : Int) / 4503599627370496 := by
  have h2047 : (BitVec.ofInt 64 2047).toNat = 2 ^ 11 - 1 := by decide
  obtain ⟨n, hn⟩ : ∃ n, n = (x : Int) / 4503599627370496 := ⟨_, rfl⟩
  rw [← hn]
  have key : (BitVec.ofInt 64 n &&& BitVec.ofInt 64 2047).toNat = (n % ((2 ^ 64 : Nat) : Int)).toNat % 2 ^ 11 := by
    rw [BitVec.toNat_and, BitVec.toNat_ofInt, h2047, Nat.and_two_pow_sub_one_eq_mod]
  show IntKind.i64.wrap ((BitVec.ofInt 64 n &&& BitVec.ofInt 64 2047).toNat : Nat) = n
  rw [key, IntKind.wrap_i64]
  omega
theorem or_exp (x y : Nat) (hy : y < 2048) : bits .or .u64 ((x : Int) % 4503599627370496) ((y : Int) * 4503599627370496) = ((y * 4503599627370496 + x % 4503599627370496 : Nat) : Int) := by
  rw [show (x : Int) % 4503599627370496 = ((x % 4503599627370496 : Nat) : Int) by omega, show (y : Int) * 4503599627370496 = ((y * 4503599627370496 : Nat) : Int) by omega, u64_or_nat _ _ (by omega) (by omega), Nat.or_comm, nat_join 52 _ _ (by omega) (by omega)]
theorem ldexp_norm (b s : Nat) (w : World) (h : Pos b) (hn : 4503599627370496 ≤ b) (hs : s < 61) (hb : 64 * 4503599627370496 ≤ b) : Calls Try.prog 21 #[.float .f64 b, .int .i64 (-(s : Int))] w fun e w' => e = .returned (.float .f64 (b - s * 4503599627370496)) ∧ w' = w := by
  obtain ⟨h0, h1, h2, h3, h4⟩ := h
  have g0 : FloatKind.f64.format.order b 0 = some Ordering.gt := by rw [ord b 0 h0 (by decide), cmp_gt (by omega)]
  have gm : (FloatKind.f64.format.order b 4503599627370496 == some Ordering.lt) = false := by
    rw [ord b _ h0 (by decide), cmp_gt (by omega)]; rfl
  have e1 := or_mask b (by omega)
  have e2 := and_exp64 b (by omega)
  have e4 := not_top b (by omega)
  have hm : FloatKind.f64.format.mul 4607182418800017408 (b - s * 4503599627370496) = some (b - s * 4503599627370496) := by
    have := one_mul (M := 4503599627370496 + b % 4503599627370496) (q := b / 4503599627370496 - 1 - s) (by omega) (by omega) (by omega)
    rw [show (b / 4503599627370496 - 1 - s) * 4503599627370496 + (4503599627370496 + b % 4503599627370496) = b - s * 4503599627370496 by omega] at this
    exact this
  obtain ⟨X, hX⟩ : ∃ X, X = b - s * 4503599627370496 := ⟨_, rfl⟩
  rw [← hX] at hm ⊢
  have e3 : bits .or .u64 ((b : Int) % 4503599627370496) ((-(s : Int) + ((b : Int) / 4503599627370496 - 1023) + 1023) * 4503599627370496) = (X : Int) := by
    have := or_exp b (b / 4503599627370496 - s) (by omega)
    rw [show ((b / 4503599627370496 - s : Nat) : Int) = (-(s : Int) + ((b : Int) / 4503599627370496 - 1023) + 1023) by omega] at this
    rw [this]
    omega
  clear hX
  have hmr := fun w => run_float_arith (P := Try.prog) w .mul 23 .f64 4607182418800017408 X X hm
  go_enter Try.func21, Try.ntmps21
  go_wp2
  go_ret
  exact ⟨rfl, rfl⟩
theorem ldexp_nought (i : Int) (w : World) : Calls Try.prog 21 #[.float .f64 0, .int .i64 i] w fun e w' => e = .returned (.float .f64 0) ∧ w' = w := by
  have g0 : FloatKind.f64.format.order 0 0 = some Ordering.eq := by rw [ord 0 0 (by decide) (by decide), cmp_eq]
  go_enter Try.func21, Try.ntmps21
  go_wp2
  go_ret
  exact ⟨rfl, rfl⟩
theorem ldexp_any (m s : Nat) (w : World) (hm : m < 4294967296) (hs : s < 61) : Calls Try.prog 21 #[.float .f64 (fOf m), .int .i64 (-(s : Int))] w fun e w' => e = .returned (.float .f64 (hOf m s)) ∧ w' = w := by
  by_cases h0 : m = 0
  · have : fOf m = 0 := by unfold fOf; rw [if_pos h0]
    rw [this]
    have : hOf m s = 0 := by unfold hOf; rw [if_pos h0]
    rw [this]
    exact ldexp_nought _ w
  · obtain ⟨a, b, c⟩ := log2_shift (show 0 < m by omega) (by omega)
    have h1 : fOf m = (1022 + m.log2) * 4503599627370496 + m * 2 ^ (52 - m.log2) := by unfold fOf; rw [if_neg h0]
    have h2 : hOf m s = fOf m - s * 4503599627370496 := by rw [h1]; unfold hOf; rw [if_neg h0]; omega
    rw [h2]
    exact ldexp_norm _ s w (pos_mk (fOf_lt (by omega))) (by omega) hs (by omega)
theorem Ldexp_any (m s : Nat) (w : World) (hm : m < 4294967296) (hs : s < 61) : Calls Try.prog 16 #[.float .f64 (fOf m), .int .i64 (-(s : Int))] w fun e w' => e = .returned (.float .f64 (hOf m s)) ∧ w' = w := by
  have H := Lib.hid (ldexp_any m s · hm hs)
  generalize fOf m = F at *
  generalize hOf m s = G at *
  go_enter Try.func16, Try.ntmps16
  go_wp2_with (go_at_call 21; refine (H.out _).mono ?_; rintro e w1 ⟨rfl, rfl⟩)
  go_ret
  exact ⟨rfl, rfl⟩
theorem floors_law (a m k : Nat) (w : World) (ha : a < 65536) (hm : m < 4294967296) (hk : k < 256) : Calls Try.prog 8 #[.int .u16 a, .int .u32 m, .int .u8 k] w fun e w' => e = .returned (.bool true) ∧ w' = w := by
  obtain ⟨s, hs⟩ : ∃ s, s = k % 61 := ⟨_, rfl⟩
  have hprod : a * m < 281474976710656 := by
    have : a * m ≤ 65535 * 4294967295 := Nat.mul_le_mul (by omega) (by omega)
    omega
  have hdiv : a * m / 2 ^ s ≤ 1125899906842624 := Nat.le_trans (Nat.div_le_self _ _) (by omega)
  have T1 := Lib.hid (fun w => times_any a (hOf m s) w (by omega) (.inl (hOf_lt (by omega) s)))
  rw [out_half_times (by omega) (by omega) hdiv] at T1
  have L := Lib.hid (Ldexp_any m s · hm (by omega))
  have hc : floatOfInt .f64 (m : Int) = fOf m := by
    have : FloatKind.nearest .f64 (m : Int) = fOf m := by
      unfold FloatKind.nearest FloatKind.encode Ieee.Format.write
      simp only
      have h0 : decide ((m : Int) < 0) = false := by simp
      rw [h0]
      exact nearest_whole (by omega)
    exact this
  have hks : ((k : Int) % 61) = (s : Int) := by omega
  have hs61 : s < 61 := by omega
  obtain ⟨q, hq⟩ : ∃ q, q = a * m := ⟨_, rfl⟩
  rw [← hq] at T1 hprod hdiv
  have p0 : (a : Int) * (m : Int) = (q : Int) := by rw [hq]; simp
  have p1 : (q : Int) < 281474976710656 := by omega
  generalize fOf m = F at *
  generalize hOf m s = G at *
  by_cases hbig : s < 60
  · have hbig' : (s : Int) < 60 := by omega
    clear hs hdiv hprod hq
    go_enter Try.func8, Try.ntmps8
    go_wp2_with fail
    refine (L.out _).mono ?_
    rintro e w1 ⟨rfl, rfl⟩
    go_wp2_with fail
    refine (T1.out _).mono ?_
    rintro e w1 ⟨rfl, rfl⟩
    go_wp2_with (first | (go_at_call 12; refine (awake_ok _).mono ?_; rintro e w1 ⟨rfl, rfl⟩))
    all_goals go_ret
    all_goals exact ⟨by first | rfl | (simp; done) | (simp; omega), rfl⟩
  · obtain rfl : s = 60 := by omega
    have hz : q / 2 ^ 60 = 0 := by omega
    rw [hz] at T1
    clear hs hdiv hprod hq hz
    go_enter Try.func8, Try.ntmps8
    go_wp2_with fail
    refine (L.out _).mono ?_
    rintro e w1 ⟨rfl, rfl⟩
    go_wp2_with fail
    refine (T1.out _).mono ?_
    rintro e w1 ⟨rfl, rfl⟩
    go_wp2_with (first | (go_at_call 12; refine (awake_ok _).mono ?_; rintro e w1 ⟨rfl, rfl⟩))
    all_goals go_ret
    all_goals exact ⟨by first | rfl | (simp; done) | (simp; omega), rfl⟩
end Go.Proofs.Ytmdccmhkllpibaa
