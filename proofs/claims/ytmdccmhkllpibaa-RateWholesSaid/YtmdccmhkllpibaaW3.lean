import Derived.Test.YtmdccmhkllpibaaW2
import Derived.LoopTactic
import Derived.Deep.LoopGhost
set_option linter.unusedSimpArgs false
set_option linter.unusedVariables false
set_option maxHeartbeats 4000000
set_option maxRecDepth 100000
namespace Go.Proofs.Ytmdccmhkllpibaa
open Go.RowKit Go.Fl
theorem half_or (H L : Nat) (hL : L < 18446744073709551616) : bits .or .u64 ((L : Int) / 2) (IntKind.u64.wrap ((H : Int) * 9223372036854775808)) = ((L / 2 + H % 2 * 9223372036854775808 : Nat) : Int) := by
  rw [show (L : Int) / 2 = ((L / 2 : Nat) : Int) by omega, show IntKind.u64.wrap ((H : Int) * 9223372036854775808) = ((H % 2 * 9223372036854775808 : Nat) : Int) by simp [IntKind.wrap, IntKind.bits, IntKind.signed]; omega]
  rw [u64_or_nat _ _ (by omega) (by omega), Nat.or_comm, nat_join 63 _ _ (by omega) (by omega)]
  omega
theorem half_a (H L : Nat) : (H * 18446744073709551616 + L) / 2 = H * 9223372036854775808 + L / 2 := by
  rw [show H * 18446744073709551616 = 2 * (H * 9223372036854775808) by rw [← Nat.mul_assoc, Nat.mul_comm 2 H, Nat.mul_assoc]]
  exact Nat.mul_add_div (by decide) _ _
theorem half_b (H L : Nat) : H / 2 * 18446744073709551616 + (L / 2 + H % 2 * 9223372036854775808) = H * 9223372036854775808 + L / 2 := by
  generalize L / 2 = l
  have h := Nat.div_add_mod H 2
  generalize H / 2 = q at *
  generalize H % 2 = r at *
  subst h
  rw [Nat.add_mul]
  rw [show 2 * q * 9223372036854775808 = q * 18446744073709551616 by rw [Nat.mul_comm 2 q, Nat.mul_assoc]]
  rw [Nat.add_comm l, Nat.add_assoc]
theorem halve (H L N j : Nat) (h : H * 18446744073709551616 + L = N / 2 ^ j) (hL : L < 18446744073709551616) : H / 2 * 18446744073709551616 + (L / 2 + H % 2 * 9223372036854775808) = N / 2 ^ (j + 1) := by
  rw [Nat.pow_succ, ← Nat.div_div_eq_div_mul, ← h, half_a, half_b]
theorem purse_right (a : Int) (w : World) (h : 0 ≤ a) (h2 : a ≤ 1125899906842624) : Calls Try.prog 17 #[.int .i64 a] w fun e w' => e = .returned (.bool true) ∧ w' = w := by
  go_enter Try.func17, Try.ntmps17
  go_wp2
  go_ret
  exact ⟨rfl, rfl⟩
theorem purse_wrong (a : Int) (w : World) (h0 : 0 ≤ a) (h : decide (a ≤ 1125899906842624) = false) : Calls Try.prog 17 #[.int .i64 a] w fun e w' => e = .returned (.bool false) ∧ w' = w := by
  go_enter Try.func17, Try.ntmps17
  go_wp2
  go_ret
  exact ⟨rfl, rfl⟩
theorem times_small (a b n : Nat) (w : World) (ha : 0 < a) (ha2 : a ≤ 1125899906842624) (h : Pos b) (hb : 0 < b) (hn : ex b - 53 = -(n : Int)) (hn2 : n ≤ 1200) (hq : a * mant b / 2 ^ n ≤ 1125899906842624) : Calls Try.prog 10 #[.int .i64 a, .float .f64 b] w fun e w' => e = .returned (.tuple #[.int .i64 ((a * mant b / 2 ^ n : Nat) : Int), .int .i64 0]) ∧ w' = w := by
  obtain ⟨m1, m2⟩ := mant_bd hb
  have hR := Lib.hid (right_pos b · h)
  have hP := Lib.hid (purse_right (a : Int) · (by omega) (by omega))
  have hW := Lib.hid (whole_any b · h hb)
  rw [hn] at hW
  have hM := Lib.hid (mul_any a (mant b) · (by omega) (by omega))
  have hN : a * mant b / 18446744073709551616 < 18446744073709551616 := by
    have : a * mant b ≤ 1125899906842624 * 9007199254740992 := Nat.mul_le_mul ha2 (by omega)
    omega
  have g0 : FloatKind.f64.format.order b 0 = some Ordering.gt := by rw [ord b 0 h.lt (by decide), cmp_gt (by omega)]
  clear h hb hn
  generalize mant b = M at *
  generalize hNN : a * M = N at *
  have ha0 : ((a : Int) == 0) = false := by rw [beq_eq_false_iff_ne]; omega
  have ha1 : (0 : Int) ≤ (a : Int) := by omega
  have ha3 : (a : Int) ≤ 1125899906842624 := by omega
  clear hNN m1 m2
  have HQ := Lib.hid hq
  clear hq
  go_enter Try.func10, Try.ntmps10
  go_wp2_with (first | (go_at_call 13; refine (hR.out _).mono ?_; rintro e w1 ⟨rfl, rfl⟩) | (go_at_call 17; refine (hP.out _).mono ?_; rintro e w1 ⟨rfl, rfl⟩) | (go_at_call 18; refine (hW.out _).mono ?_; rintro e w1 ⟨rfl, rfl⟩) | (go_at_call 19; refine (hM.out _).mono ?_; rintro e w1 ⟨rfl, rfl⟩))
  go_loop [7, 8, 9] (fun e x y => ∃ (j H L : Nat), j ≤ n ∧ e = .int .i64 (-(n : Int) + (j : Int)) ∧ x = .int .u64 H ∧ y = .int .u64 L ∧ H * 18446744073709551616 + L = N / 2 ^ j ∧ L < 18446744073709551616 ∧ H < 18446744073709551616) (fun e _ _ => (0 - intOf e).toNat)
  case atStart => exact ⟨0, _, _, Nat.zero_le _, by simp, rfl, rfl, by rw [Nat.pow_zero, Nat.div_one]; exact Nat.div_add_mod' N _, Nat.mod_lt _ (by decide), hN⟩
  case round =>
    obtain ⟨j, H, L, hj, rfl, rfl, rfl, hHL, hL, hH⟩ := hrel
    by_cases hjn : j < n
    · have ho := half_or H L hL
      have HH := Lib.hid (halve H L N j hHL hL)
      clear hHL hN
      go_wp2
      go_round
      case rel => exact ⟨j + 1, H / 2, L / 2 + H % 2 * 9223372036854775808, hjn, by go_num, by go_num, rfl, HH.out, by omega, by omega⟩
      case measure => simp [intOf]; omega
    · obtain rfl : j = n := by omega
      have hq := HQ.out
      obtain rfl : H = 0 := by omega
      have HL := Lib.hid (show N / 2 ^ j = L by omega)
      have hL3 : (L : Int) ≤ 1125899906842624 := by omega
      clear hHL hN hL hH HQ hq
      go_wp2_with fail
      refine wp_loop_rounds 1 ?_
      rw [rounds_succ]
      go_wp2
      go_ret2
      exact ⟨by rw [HL.out]; simp, rfl⟩
theorem times_great (a b n : Nat) (w : World) (ha : 0 < a) (ha2 : a ≤ 1125899906842624) (h : Pos b) (hb : 0 < b) (hn : ex b - 53 = -(n : Int)) (hn2 : n ≤ 1200) (hq : ¬ a * mant b / 2 ^ n ≤ 1125899906842624) : Calls Try.prog 10 #[.int .i64 a, .float .f64 b] w fun e w' => e = .returned (.tuple #[.int .i64 0, .int .i64 9]) ∧ w' = w := by
  obtain ⟨m1, m2⟩ := mant_bd hb
  have hR := Lib.hid (right_pos b · h)
  have hP := Lib.hid (purse_right (a : Int) · (by omega) (by omega))
  have hW := Lib.hid (whole_any b · h hb)
  rw [hn] at hW
  have hM := Lib.hid (mul_any a (mant b) · (by omega) (by omega))
  have hN : a * mant b / 18446744073709551616 < 18446744073709551616 := by
    have : a * mant b ≤ 1125899906842624 * 9007199254740992 := Nat.mul_le_mul ha2 (by omega)
    omega
  have g0 : FloatKind.f64.format.order b 0 = some Ordering.gt := by rw [ord b 0 h.lt (by decide), cmp_gt (by omega)]
  clear h hb hn
  generalize mant b = M at *
  generalize hNN : a * M = N at *
  have ha0 : ((a : Int) == 0) = false := by rw [beq_eq_false_iff_ne]; omega
  have ha1 : (0 : Int) ≤ (a : Int) := by omega
  have ha3 : (a : Int) ≤ 1125899906842624 := by omega
  clear hNN m1 m2
  have HQ := Lib.hid hq
  clear hq
  go_enter Try.func10, Try.ntmps10
  go_wp2_with (first | (go_at_call 13; refine (hR.out _).mono ?_; rintro e w1 ⟨rfl, rfl⟩) | (go_at_call 17; refine (hP.out _).mono ?_; rintro e w1 ⟨rfl, rfl⟩) | (go_at_call 18; refine (hW.out _).mono ?_; rintro e w1 ⟨rfl, rfl⟩) | (go_at_call 19; refine (hM.out _).mono ?_; rintro e w1 ⟨rfl, rfl⟩))
  go_loop [7, 8, 9] (fun e x y => ∃ (j H L : Nat), j ≤ n ∧ e = .int .i64 (-(n : Int) + (j : Int)) ∧ x = .int .u64 H ∧ y = .int .u64 L ∧ H * 18446744073709551616 + L = N / 2 ^ j ∧ L < 18446744073709551616 ∧ H < 18446744073709551616) (fun e _ _ => (0 - intOf e).toNat)
  case atStart => exact ⟨0, _, _, Nat.zero_le _, by simp, rfl, rfl, by rw [Nat.pow_zero, Nat.div_one]; exact Nat.div_add_mod' N _, Nat.mod_lt _ (by decide), hN⟩
  case round =>
    obtain ⟨j, H, L, hj, rfl, rfl, rfl, hHL, hL, hH⟩ := hrel
    by_cases hjn : j < n
    · have ho := half_or H L hL
      have HH := Lib.hid (halve H L N j hHL hL)
      clear hHL hN
      go_wp2
      go_round
      case rel => exact ⟨j + 1, H / 2, L / 2 + H % 2 * 9223372036854775808, hjn, by go_num, by go_num, rfl, HH.out, by omega, by omega⟩
      case measure => simp [intOf]; omega
    · obtain rfl : j = n := by omega
      have hq := HQ.out
      by_cases hH0 : H = 0
      · subst hH0
        have hL2 : decide ((1125899906842624 : Int) < (L : Int)) = true := by simp; omega
        clear hHL hN hq HQ
        go_wp2_with fail
        refine wp_loop_rounds 1 ?_
        rw [rounds_succ]
        go_wp2
        go_ret2
        exact ⟨rfl, rfl⟩
      · have hH2 : decide ((0 : Int) < (H : Int)) = true := by simp; omega
        clear hHL hN hq HQ
        go_wp2_with fail
        refine wp_loop_rounds 1 ?_
        rw [rounds_succ]
        go_wp2
        go_ret2
        exact ⟨rfl, rfl⟩
end Go.Proofs.Ytmdccmhkllpibaa
