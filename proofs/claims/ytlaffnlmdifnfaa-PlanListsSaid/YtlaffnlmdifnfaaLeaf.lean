import Derived.Test.YtlaffnlmdifnfaaMore
import Derived.Test.YtlaffnlmdifnfaaProg
import Derived.Test.YtlaffnlmdifnfaaChecked
import Derived.LoopTactic
import Derived.RegionTactic
import Derived.OwnWalk
import Derived.Deep.RegionHeld3
import Derived.Deep.AppendLies
import Derived.Deep.LoopGhost
import Derived.Deep.Onto
import Derived.Lib.Hide
import Derived.KernelRfl
import Derived.Laws.BitsAllLaws
set_option linter.unusedSimpArgs false
set_option linter.unusedVariables false
set_option maxHeartbeats 8000000
set_option maxRecDepth 100000
namespace Go.Proofs.Ytlaffnlmdifnfaa
open Go.RowKit
/-- a plan -/
structure Pl where
  pr : Int
  un : Int
  ev : Int
  tr : Int
  g : Bool
  l : Bool
def Pl.v (p : Pl) : Value := .agg #[.int .i64 p.pr, .int .u8 p.un, .int .i64 p.ev, .int .i64 p.tr, .bool p.g, .bool p.l]
def Pl.Ok (p : Pl) : Prop := (-9223372036854775808 ≤ p.pr ∧ p.pr < 9223372036854775808) ∧ (0 ≤ p.un ∧ p.un < 256) ∧ (-9223372036854775808 ≤ p.ev ∧ p.ev < 9223372036854775808) ∧ (-9223372036854775808 ≤ p.tr ∧ p.tr < 9223372036854775808)
def rightOf (p : Pl) : Int := if 3 < p.un ∨ p.ev < 1 ∨ 1000 < p.ev ∨ p.tr < 0 ∨ 1000 < p.tr then 1 else if p.pr < 0 ∨ 1073741824 < p.pr then 9 else 0
theorem right_law (p : Pl) (w : World) (hp : p.Ok) : Calls Try.prog 7 #[p.v] w fun e w' => e = .returned (.int .i64 (rightOf p)) ∧ Below w.heap.size w w' := by
  obtain ⟨pr, un, ev, tr, g, l⟩ := p
  obtain ⟨⟨a1, a2⟩, ⟨b1, b2⟩, ⟨c1, c2⟩, ⟨d1, d2⟩⟩ := hp
  unfold Pl.v
  dsimp only at *
  go_enter Try.func7, Try.ntmps7
  go_wp2
  all_goals go_ret
  all_goals refine ⟨?_, by repeat (first | exact Below.refl _ _ | apply bl_alloc | apply bl_swell | apply bl_drewN)⟩
  all_goals (simp [rightOf]; first | done | (split <;> first | rfl | omega | (split <;> first | rfl | omega)) | omega)
theorem right2_law (p : Pl) (w : World) (hp : p.Ok) : Calls Try.prog 10 #[p.v] w fun e w' => e = .returned (.int .i64 (rightOf p)) ∧ Below w.heap.size w w' := by
  obtain ⟨pr, un, ev, tr, g, l⟩ := p
  obtain ⟨⟨a1, a2⟩, ⟨b1, b2⟩, ⟨c1, c2⟩, ⟨d1, d2⟩⟩ := hp
  unfold Pl.v
  dsimp only at *
  go_enter Try.func10, Try.ntmps10
  go_wp2
  all_goals go_ret
  all_goals refine ⟨?_, by repeat (first | exact Below.refl _ _ | apply bl_alloc | apply bl_swell | apply bl_drewN)⟩
  all_goals (simp [rightOf]; first | done | (split <;> first | rfl | omega | (split <;> first | rfl | omega)) | omega)
/-- a plan that may be -/
def nearOf (p : Pl) : Pl := ⟨IntKind.i64.wrap ((IntKind.u64.wrap p.pr).tmod 1073741825), p.un % 4, IntKind.i64.wrap (1 + IntKind.i64.wrap ((IntKind.u64.wrap p.ev).tmod 1000)), IntKind.i64.wrap ((IntKind.u64.wrap p.tr).tmod 1001), p.g, p.l⟩
theorem near_ok (p : Pl) (hp : p.Ok) : (nearOf p).Ok := by
  obtain ⟨⟨a1, a2⟩, ⟨b1, b2⟩, ⟨c1, c2⟩, ⟨d1, d2⟩⟩ := hp
  unfold nearOf Pl.Ok
  simp only [IntKind.wrap_i64]
  omega
theorem near_law (p : Pl) (w : World) (hp : p.Ok) : Calls Try.prog 5 #[p.v] w fun e w' => e = .returned (nearOf p).v ∧ Below w.heap.size w w' := by
  obtain ⟨pr, un, ev, tr, g, l⟩ := p
  obtain ⟨⟨a1, a2⟩, ⟨b1, b2⟩, ⟨c1, c2⟩, ⟨d1, d2⟩⟩ := hp
  unfold Pl.v nearOf
  dsimp only at *
  go_enter Try.func5, Try.ntmps5
  go_wp2
  exact bodyPost_ret (v := _) (by simp [results, Try.results5, go_sem, IntKind.wrap_i64, wrap64]) rfl ⟨rfl, by repeat (first | exact Below.refl _ _ | apply bl_alloc | apply bl_swell | apply bl_drewN)⟩
theorem and32 (x : Nat) (h : x < 18446744073709551616) : bits .and .u64 (x : Int) 4294967295 = ((x % 4294967296 : Nat) : Int) := by
  rw [show (4294967295 : Int) = ((4294967295 : Nat) : Int) from rfl, u64_and_nat x 4294967295 h (by decide), show (4294967295 : Nat) = 2 ^ 32 - 1 by decide, Nat.and_two_pow_sub_one_eq_mod]
theorem prod_hi (a m : Nat) (ha : a < 18446744073709551616) (hm : m < 18446744073709551616) :
   (IntKind.u64.wrap
              (IntKind.u64.wrap
                  (IntKind.u64.wrap (↑a / 4294967296 * (↑m / 4294967296)) +
                    IntKind.u64.wrap
                        (IntKind.u64.wrap (↑a / 4294967296 * bits BinOp.and IntKind.u64 (↑m) 4294967295) +
                          IntKind.u64.wrap
                              (bits BinOp.and IntKind.u64 (↑a) 4294967295 *
                                bits BinOp.and IntKind.u64 (↑m) 4294967295) /
                            4294967296) /
                      4294967296) +
                IntKind.u64.wrap
                    (bits BinOp.and IntKind.u64
                        (IntKind.u64.wrap
                          (IntKind.u64.wrap (↑a / 4294967296 * bits BinOp.and IntKind.u64 (↑m) 4294967295) +
                            IntKind.u64.wrap
                                (bits BinOp.and IntKind.u64 (↑a) 4294967295 *
                                  bits BinOp.and IntKind.u64 (↑m) 4294967295) /
                              4294967296))
                        4294967295 +
                      IntKind.u64.wrap (bits BinOp.and IntKind.u64 (↑a) 4294967295 * (↑m / 4294967296))) /
                  4294967296) : Int) = ((a * m / 18446744073709551616 : Nat) : Int) ∧
            (bits BinOp.or IntKind.u64
              (IntKind.u64.wrap
                (IntKind.u64.wrap
                    (bits BinOp.and IntKind.u64
                        (IntKind.u64.wrap
                          (IntKind.u64.wrap (↑a / 4294967296 * bits BinOp.and IntKind.u64 (↑m) 4294967295) +
                            IntKind.u64.wrap
                                (bits BinOp.and IntKind.u64 (↑a) 4294967295 *
                                  bits BinOp.and IntKind.u64 (↑m) 4294967295) /
                              4294967296))
                        4294967295 +
                      IntKind.u64.wrap (bits BinOp.and IntKind.u64 (↑a) 4294967295 * (↑m / 4294967296))) *
                  4294967296))
              (bits BinOp.and IntKind.u64
                (IntKind.u64.wrap
                  (bits BinOp.and IntKind.u64 (↑a) 4294967295 * bits BinOp.and IntKind.u64 (↑m) 4294967295))
                4294967295) : Int) = ((a * m % 18446744073709551616 : Nat) : Int) := by
  have W : ∀ n : Nat, n < 18446744073709551616 → IntKind.u64.wrap (n : Int) = (n : Int) := fun n h => by
    simp [IntKind.wrap, IntKind.bits, IntKind.signed]; omega
  rw [and32 a ha, and32 m hm]
  obtain ⟨al, hal⟩ : ∃ al, al = a % 4294967296 := ⟨_, rfl⟩
  obtain ⟨ah, hah⟩ : ∃ ah, ah = a / 4294967296 := ⟨_, rfl⟩
  obtain ⟨bl, hbl⟩ : ∃ bl, bl = m % 4294967296 := ⟨_, rfl⟩
  obtain ⟨bh, hbh⟩ : ∃ bh, bh = m / 4294967296 := ⟨_, rfl⟩
  have ea : a = ah * 4294967296 + al := by omega
  have em : m = bh * 4294967296 + bl := by omega
  have i1 : (a : Int) / 4294967296 = (ah : Int) := by omega
  have i2 : (m : Int) / 4294967296 = (bh : Int) := by omega
  rw [← hal, ← hbl, i1, i2]
  have l1 : al ≤ 4294967295 := by omega
  have l2 : ah ≤ 4294967295 := by omega
  have l3 : bl ≤ 4294967295 := by omega
  have l4 : bh ≤ 4294967295 := by omega
  have hP : ah * bh ≤ 18446744065119617025 := Nat.mul_le_mul l2 l4
  have hQ : ah * bl ≤ 18446744065119617025 := Nat.mul_le_mul l2 l3
  have hR : al * bh ≤ 18446744065119617025 := Nat.mul_le_mul l1 l4
  have hT : al * bl ≤ 18446744065119617025 := Nat.mul_le_mul l1 l3
  have key : a * m = ah * bh * 18446744073709551616 + (ah * bl + al * bh) * 4294967296 + al * bl := by
    rw [ea, em]; simp only [Nat.add_mul, Nat.mul_add]; 
    have e1 : ah * 4294967296 * (bh * 4294967296) = ah * bh * 18446744073709551616 := by
      rw [Nat.mul_mul_mul_comm]
    have e2 : ah * 4294967296 * bl = ah * bl * 4294967296 := by rw [Nat.mul_right_comm]
    have e3 : al * (bh * 4294967296) = al * bh * 4294967296 := by rw [Nat.mul_assoc]
    omega
  rw [key]
  clear key ea em i1 i2 hal hah hbl hbh ha hm
  rw [← Int.natCast_mul, ← Int.natCast_mul, ← Int.natCast_mul, ← Int.natCast_mul]
  generalize ah * bh = P at *
  generalize ah * bl = Q at *
  generalize al * bh = R at *
  generalize al * bl = T at *
  clear l1 l2 l3 l4
  rw [W T (by omega), W P (by omega), W Q (by omega), W R (by omega)]
  rw [show ((Q : Int) + (T : Int) / 4294967296) = ((Q + T / 4294967296 : Nat) : Int) by omega, W (Q + T / 4294967296) (by omega), and32 _ (by omega), and32 T (by omega)]
  rw [show (((Q + T / 4294967296) % 4294967296 : Nat) : Int) + (R : Int) = (((Q + T / 4294967296) % 4294967296 + R : Nat) : Int) by omega, W ((Q + T / 4294967296) % 4294967296 + R) (by omega)]
  constructor
  · rw [show (P : Int) + ((Q + T / 4294967296 : Nat) : Int) / 4294967296 = ((P + (Q + T / 4294967296) / 4294967296 : Nat) : Int) by omega, W _ (by omega)]
    rw [show ((P + (Q + T / 4294967296) / 4294967296 : Nat) : Int) + (((Q + T / 4294967296) % 4294967296 + R : Nat) : Int) / 4294967296 = ((P + (Q + T / 4294967296) / 4294967296 + ((Q + T / 4294967296) % 4294967296 + R) / 4294967296 : Nat) : Int) by omega, W _ (by omega)]
    omega
  · obtain ⟨L, hL⟩ : ∃ L, L = (Q + T / 4294967296) % 4294967296 + R := ⟨_, rfl⟩
    rw [← hL]
    have ew : IntKind.u64.wrap ((L : Int) * 4294967296) = ((L % 4294967296 * 4294967296 : Nat) : Int) := by
      simp [IntKind.wrap, IntKind.bits, IntKind.signed]; omega
    rw [ew, u64_or_nat _ _ (by omega) (by omega), nat_join 32 _ _ (by omega) (by omega)]
    omega
theorem mul_any (a m : Nat) (w : World) (ha : a < 18446744073709551616) (hm : m < 18446744073709551616) : Calls Try.prog 14 #[.int .u64 a, .int .u64 m] w fun e w' => e = .returned (.tuple #[.int .u64 ((a * m / 18446744073709551616 : Nat) : Int), .int .u64 ((a * m % 18446744073709551616 : Nat) : Int)]) ∧ w' = w := by
  obtain ⟨h1, h2⟩ := prod_hi a m ha hm
  have h3 : ((a * m % 18446744073709551616 : Nat) : Int) = IntKind.u64.wrap ((a : Int) * (m : Int)) := by
    simp [IntKind.wrap, IntKind.bits, IntKind.signed]
  rw [← h1, h3]
  clear h1 h2 h3
  go_enter Try.func14, Try.ntmps14
  go_wp2
  go_ret2
  exact ⟨rfl, rfl⟩

theorem div_low (a y : Nat) (w : World) (ha : a < 18446744073709551616) (hy : 0 < y) (hy2 : y < 18446744073709551616) : Calls Try.prog 15 #[.int .u64 0, .int .u64 a, .int .u64 y] w fun e w' => e = .returned (.tuple #[.int .u64 ((a / y : Nat) : Int), .int .u64 ((a % y : Nat) : Int)]) ∧ Below w.heap.size w w' := by
  have h1 : ¬ (y : Int) = 0 := by omega
  have h2 : ¬ (y : Int) ≤ 0 := by omega
  have h3 : ¬ y = 0 := by omega
  have h4 : ((y : Int) == 0) = false := by simp; omega
  go_enter Try.func15, Try.ntmps15
  go_wp2_with fail
  go_quiet (fail)
  go_wp2
  go_ret2
  have hq : IntKind.u64.wrap ((a : Int) / (y : Int)) = (a : Int) / (y : Int) := by
    have e : (a : Int) / (y : Int) = ((a / y : Nat) : Int) := by simp
    have l : a / y ≤ a := Nat.div_le_self _ _
    rw [e]
    generalize a / y = z at *
    simp [IntKind.wrap, IntKind.bits, IntKind.signed]; omega
  exact ⟨by simp [hq], by repeat (first | exact Below.refl _ _ | apply bl_drewN | apply Below.drew)⟩
theorem pright (n : Nat) (w : World) (h : (n : Int) ≤ 1000000) : Calls Try.prog 13 #[.int .i64 n] w fun e w' => e = .returned (.bool true) ∧ w' = w := by
  go_enter Try.func13, Try.ntmps13
  go_wp2
  all_goals go_ret
  all_goals exact ⟨by simp; omega, rfl⟩
theorem part_of (n q r t : Nat) (w : World) (n1 : (n : Int) ≤ 1000000) (r1 : (r : Int) ≤ 10000000)
    (M : Hid (∀ w, Calls Try.prog 14 #[.int .u64 (n : Int), .int .u64 10] w fun e w' => e = .returned (.tuple #[.int .u64 0, .int .u64 (q : Int)]) ∧ w' = w))
    (D : Hid (∀ w, Calls Try.prog 15 #[.int .u64 0, .int .u64 (q : Int), .int .u64 30] w fun e w' => e = .returned (.tuple #[.int .u64 (r : Int), .int .u64 (t : Int)]) ∧ Below w.heap.size w w')) :
    Calls Try.prog 11 #[.int .i64 n, .int .i64 10, .int .i64 30] w fun e w' => e = .returned (.tuple #[.int .i64 (r : Int), .int .i64 0]) ∧ Below w.heap.size w w' := by
  go_enter Try.func11, Try.ntmps11
  go_wp2_with (go_at_call 13; refine (pright _ _ n1).mono ?_; rintro e w1 ⟨rfl, rfl⟩)
  refine (M.out _).mono ?_
  rintro e w1 ⟨rfl, rfl⟩
  go_wp2_with fail
  refine (D.out _).mono ?_
  rintro e w1 ⟨rfl, b1⟩
  go_wp2
  go_ret2
  exact ⟨rfl, b1⟩
theorem part_law (n : Nat) (w : World) (hn : n ≤ 1000000) : Calls Try.prog 11 #[.int .i64 n, .int .i64 10, .int .i64 30] w fun e w' => e = .returned (.tuple #[.int .i64 ((n * 10 / 30 : Nat) : Int), .int .i64 0]) ∧ Below w.heap.size w w' := by
  have M := fun w => mul_any n 10 w (by omega) (by omega)
  rw [show n * 10 / 18446744073709551616 = 0 by omega, show n * 10 % 18446744073709551616 = n * 10 by omega] at M
  have D := fun w => div_low (n * 10) 30 w (by omega) (by omega) (by omega)
  exact part_of n (n * 10) (n * 10 / 30) (n * 10 % 30) w (by omega) (by omega) (Lib.hid M) (Lib.hid D)
theorem change_law (w : World) : Calls Try.prog 9 #[.agg #[.int .i64 300, .int .u8 0, .int .i64 0, .int .i64 0, .bool false, .bool false], .agg #[.int .i64 900, .int .u8 0, .int .i64 0, .int .i64 0, .bool false, .bool false], .int .i64 10, .int .i64 30] w fun e w' => e = .returned (.tuple #[.int .i64 100, .int .i64 300, .int .i64 0]) ∧ Below w.heap.size w w' := by
  have P1 : Hid (∀ w, Calls Try.prog 11 #[.int .i64 300, .int .i64 10, .int .i64 30] w fun e w' => e = .returned (.tuple #[.int .i64 100, .int .i64 0]) ∧ Below w.heap.size w w') := Lib.hid (part_law 300 · (by omega))
  have P2 : Hid (∀ w, Calls Try.prog 11 #[.int .i64 900, .int .i64 10, .int .i64 30] w fun e w' => e = .returned (.tuple #[.int .i64 300, .int .i64 0]) ∧ Below w.heap.size w w') := Lib.hid (part_law 900 · (by omega))
  go_enter Try.func9, Try.ntmps9
  go_wp2_with fail
  refine (P1.out _).mono ?_
  rintro e w1 ⟨rfl, hb⟩
  obtain ⟨l1, d1, rfl⟩ := swell_of_below hb; clear hb
  go_wp2_with fail
  refine (P2.out _).mono ?_
  rintro e w1 ⟨rfl, hb⟩
  obtain ⟨l2, d2, rfl⟩ := swell_of_below hb; clear hb
  go_wp2
  exact bodyPost_ret (v := _) (by simp [results, Try.results9, go_sem]) rfl ⟨rfl, by repeat (first | exact Below.refl _ _ | apply bl_alloc | apply bl_swell | apply bl_drewN | apply Below.drew)⟩
theorem awake_law (w : World) : Calls Try.prog 4 #[] w fun e w' => e = .returned (.bool true) ∧ Below w.heap.size w w' := by
  go_enter Try.func4, Try.ntmps4
  go_wp2_with (go_at_call 9; refine (change_law _).mono ?_; rintro e w1 ⟨rfl, b1⟩)
  go_ret
  exact ⟨rfl, b1⟩
end Go.Proofs.Ytlaffnlmdifnfaa
