import Derived.Test.YtmdccmhkllpibaaProg
import Derived.Test.YtmdccmhkllpibaaMore
import Derived.Test.YtmdccmhkllpibaaPure
import Derived.WalkLawsBesides
import Derived.Laws.FloatArith
import Derived.Laws.BitsAllLaws
set_option linter.unusedSimpArgs false
set_option linter.unusedVariables false
set_option maxHeartbeats 4000000
namespace Go.Proofs.Ytmdccmhkllpibaa
open Go.RowKit Go.Fl
@[go_sem] theorem run_tobits (b : Nat) (w : World) : (callFunc 15 #[.float .f64 b]).run Try.prog w = .ok (.value (.int .u64 b)) w := by kernel_rfl
@[go_sem] theorem run_frombits (b : Int) (w : World) : (callFunc 9 #[.int .u64 b]).run Try.prog w = .ok (.value (.float .f64 b.toNat)) w := by kernel_rfl
theorem and32 (x : Nat) (h : x < 18446744073709551616) : bits .and .u64 (x : Int) 4294967295 = ((x % 4294967296 : Nat) : Int) := by
  rw [show (4294967295 : Int) = ((4294967295 : Nat) : Int) from rfl, u64_and_nat x 4294967295 h (by decide), show (4294967295 : Nat) = 2 ^ 32 - 1 by decide, Nat.and_two_pow_sub_one_eq_mod]
theorem abs_pos (b : Nat) (w : World) (h : b < 9223372036854775808) : Calls Try.prog 30 #[.float .f64 b] w fun e w' => e = .returned (.float .f64 b) ∧ w' = w := by
  have h1 : bits .andNot .u64 (b : Int) 9223372036854775808 = (b : Int) := by
    rw [show (9223372036854775808 : Int) = ((9223372036854775808 : Nat) : Int) from rfl, u64_andNot_nat b 9223372036854775808 (by omega) (by decide), show (18446744073709551615 - 9223372036854775808 : Nat) = 2 ^ 63 - 1 by decide, Nat.and_two_pow_sub_one_eq_mod]
    congr 1; omega
  go_enter Try.func30, Try.ntmps30
  go_wp2
  go_ret
  exact ⟨by simp, rfl⟩
theorem prod_hi (a m : Nat) (ha : a < 18446744073709551616) (hm : m < 18446744073709551616) :
   (IntKind.u64.wrap
              (IntKind.u64.wrap
                  (IntKind.u64.wrap (↑a / 4294967296 * (↑m / 4294967296)) +
                    IntKind.u64.wrap
                        (IntKind.u64.wrap (↑a / 4294967296 * bits BinOp.and IntKind.u64 (↑m) 4294967295) +
                          IntKind.u64.wrap
                              (bits BinOp.and IntKind.u64 (↑a) 4294967295 *
                                bits BinOp.and IntKind.u64 (↑m) 4294967295) /
                            4294967296) /
                      4294967296) +
                IntKind.u64.wrap
                    (bits BinOp.and IntKind.u64
                        (IntKind.u64.wrap
                          (IntKind.u64.wrap (↑a / 4294967296 * bits BinOp.and IntKind.u64 (↑m) 4294967295) +
                            IntKind.u64.wrap
                                (bits BinOp.and IntKind.u64 (↑a) 4294967295 *
                                  bits BinOp.and IntKind.u64 (↑m) 4294967295) /
                              4294967296))
                        4294967295 +
                      IntKind.u64.wrap (bits BinOp.and IntKind.u64 (↑a) 4294967295 * (↑m / 4294967296))) /
                  4294967296) : Int) = ((a * m / 18446744073709551616 : Nat) : Int) ∧
            (bits BinOp.or IntKind.u64
              (IntKind.u64.wrap
                (IntKind.u64.wrap
                    (bits BinOp.and IntKind.u64
                        (IntKind.u64.wrap
                          (IntKind.u64.wrap (↑a / 4294967296 * bits BinOp.and IntKind.u64 (↑m) 4294967295) +
                            IntKind.u64.wrap
                                (bits BinOp.and IntKind.u64 (↑a) 4294967295 *
                                  bits BinOp.and IntKind.u64 (↑m) 4294967295) /
                              4294967296))
                        4294967295 +
                      IntKind.u64.wrap (bits BinOp.and IntKind.u64 (↑a) 4294967295 * (↑m / 4294967296))) *
                  4294967296))
              (bits BinOp.and IntKind.u64
                (IntKind.u64.wrap
                  (bits BinOp.and IntKind.u64 (↑a) 4294967295 * bits BinOp.and IntKind.u64 (↑m) 4294967295))
                4294967295) : Int) = ((a * m % 18446744073709551616 : Nat) : Int) := by
  have W : ∀ n : Nat, n < 18446744073709551616 → IntKind.u64.wrap (n : Int) = (n : Int) := fun n h => by
    simp [IntKind.wrap, IntKind.bits, IntKind.signed]; omega
  rw [and32 a ha, and32 m hm]
  obtain ⟨al, hal⟩ : ∃ al, al = a % 4294967296 := ⟨_, rfl⟩
  obtain ⟨ah, hah⟩ : ∃ ah, ah = a / 4294967296 := ⟨_, rfl⟩
  obtain ⟨bl, hbl⟩ : ∃ bl, bl = m % 4294967296 := ⟨_, rfl⟩
  obtain ⟨bh, hbh⟩ : ∃ bh, bh = m / 4294967296 := ⟨_, rfl⟩
  have ea : a = ah * 4294967296 + al := by omega
  have em : m = bh * 4294967296 + bl := by omega
  have i1 : (a : Int) / 4294967296 = (ah : Int) := by omega
  have i2 : (m : Int) / 4294967296 = (bh : Int) := by omega
  rw [← hal, ← hbl, i1, i2]
  have l1 : al ≤ 4294967295 := by omega
  have l2 : ah ≤ 4294967295 := by omega
  have l3 : bl ≤ 4294967295 := by omega
  have l4 : bh ≤ 4294967295 := by omega
  have hP : ah * bh ≤ 18446744065119617025 := Nat.mul_le_mul l2 l4
  have hQ : ah * bl ≤ 18446744065119617025 := Nat.mul_le_mul l2 l3
  have hR : al * bh ≤ 18446744065119617025 := Nat.mul_le_mul l1 l4
  have hT : al * bl ≤ 18446744065119617025 := Nat.mul_le_mul l1 l3
  have key : a * m = ah * bh * 18446744073709551616 + (ah * bl + al * bh) * 4294967296 + al * bl := by
    rw [ea, em]; simp only [Nat.add_mul, Nat.mul_add]; 
    have e1 : ah * 4294967296 * (bh * 4294967296) = ah * bh * 18446744073709551616 := by
      rw [Nat.mul_mul_mul_comm]
    have e2 : ah * 4294967296 * bl = ah * bl * 4294967296 := by rw [Nat.mul_right_comm]
    have e3 : al * (bh * 4294967296) = al * bh * 4294967296 := by rw [Nat.mul_assoc]
    omega
  rw [key]
  clear key ea em i1 i2 hal hah hbl hbh ha hm
  rw [← Int.natCast_mul, ← Int.natCast_mul, ← Int.natCast_mul, ← Int.natCast_mul]
  generalize ah * bh = P at *
  generalize ah * bl = Q at *
  generalize al * bh = R at *
  generalize al * bl = T at *
  clear l1 l2 l3 l4
  rw [W T (by omega), W P (by omega), W Q (by omega), W R (by omega)]
  rw [show ((Q : Int) + (T : Int) / 4294967296) = ((Q + T / 4294967296 : Nat) : Int) by omega, W (Q + T / 4294967296) (by omega), and32 _ (by omega), and32 T (by omega)]
  rw [show (((Q + T / 4294967296) % 4294967296 : Nat) : Int) + (R : Int) = (((Q + T / 4294967296) % 4294967296 + R : Nat) : Int) by omega, W ((Q + T / 4294967296) % 4294967296 + R) (by omega)]
  constructor
  · rw [show (P : Int) + ((Q + T / 4294967296 : Nat) : Int) / 4294967296 = ((P + (Q + T / 4294967296) / 4294967296 : Nat) : Int) by omega, W _ (by omega)]
    rw [show ((P + (Q + T / 4294967296) / 4294967296 : Nat) : Int) + (((Q + T / 4294967296) % 4294967296 + R : Nat) : Int) / 4294967296 = ((P + (Q + T / 4294967296) / 4294967296 + ((Q + T / 4294967296) % 4294967296 + R) / 4294967296 : Nat) : Int) by omega, W _ (by omega)]
    omega
  · obtain ⟨L, hL⟩ : ∃ L, L = (Q + T / 4294967296) % 4294967296 + R := ⟨_, rfl⟩
    rw [← hL]
    have ew : IntKind.u64.wrap ((L : Int) * 4294967296) = ((L % 4294967296 * 4294967296 : Nat) : Int) := by
      simp [IntKind.wrap, IntKind.bits, IntKind.signed]; omega
    rw [ew, u64_or_nat _ _ (by omega) (by omega), nat_join 32 _ _ (by omega) (by omega)]
    omega
theorem mul_any (a m : Nat) (w : World) (ha : a < 18446744073709551616) (hm : m < 18446744073709551616) : Calls Try.prog 19 #[.int .u64 a, .int .u64 m] w fun e w' => e = .returned (.tuple #[.int .u64 ((a * m / 18446744073709551616 : Nat) : Int), .int .u64 ((a * m % 18446744073709551616 : Nat) : Int)]) ∧ w' = w := by
  obtain ⟨h1, h2⟩ := prod_hi a m ha hm
  rw [← h1, ← h2]
  clear h1 h2
  go_enter Try.func19, Try.ntmps19
  go_wp2
  go_ret2
  exact ⟨rfl, rfl⟩
end Go.Proofs.Ytmdccmhkllpibaa
