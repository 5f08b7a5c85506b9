/- FLOATS OF 64 BITS THAT ARE NO LESS THAN NOUGHT AND HAVE AN END, by their words: the word's value in units of the least place; how two stand to each other; a few exact products and quotients. Plain Lean over Ieee: no program. -/
import Ieee.Arith
set_option linter.unusedSimpArgs false
set_option linter.unusedVariables false
set_option maxRecDepth 100000
namespace Go.Fl
open Ieee
theorem sw : double.signWeight = 9223372036854775808 := by decide
theorem bn : double.binade = 4503599627370496 := by decide
theorem ir : double.infRung = 9218868437227405312 := by decide
theorem lp : double.leastPlace = -1074 := by decide
theorem read_sub {b : Nat} (h : b < 4503599627370496) : double.read b = .number false b (-1074) := by
  unfold Format.read
  rw [sw, bn, lp]
  have h1 : b / 9223372036854775808 % 2 = 0 := by omega
  have h2 : b % 9223372036854775808 = b := by omega
  simp only [h1, h2, if_pos h]
  rfl
theorem read_norm {b : Nat} (h : 4503599627370496 ≤ b) (h' : b < 9218868437227405312) : double.read b = .number false (4503599627370496 + b % 4503599627370496) (-1074 + (b / 4503599627370496 - 1 : Nat)) := by
  unfold Format.read
  rw [sw, bn, lp, ir]
  have h1 : b / 9223372036854775808 % 2 = 0 := by omega
  have h2 : b % 9223372036854775808 = b := by omega
  simp only [h1, h2]
  rw [if_neg (by omega), if_pos h']
  rfl
/-- the value in units of the least place -/
def V (b : Nat) : Nat := if b < 4503599627370496 then b else (4503599627370496 + b % 4503599627370496) * 2 ^ (b / 4503599627370496 - 1)
theorem V_lt {x y : Nat} (h : x < y) : V x < V y := by
  unfold V
  by_cases hx : x < 4503599627370496
  · by_cases hy : y < 4503599627370496
    · simp only [if_pos hx, if_pos hy]; exact h
    · simp only [if_pos hx, if_neg hy]
      have : 1 ≤ 2 ^ (y / 4503599627370496 - 1) := Nat.one_le_two_pow
      calc x < 4503599627370496 + y % 4503599627370496 := by omega
        _ ≤ (4503599627370496 + y % 4503599627370496) * 2 ^ (y / 4503599627370496 - 1) := Nat.le_mul_of_pos_right _ (by omega)
  · have hy : ¬ y < 4503599627370496 := by omega
    simp only [if_neg hx, if_neg hy]
    by_cases he : x / 4503599627370496 = y / 4503599627370496
    · rw [he]
      exact Nat.mul_lt_mul_of_pos_right (by omega) (Nat.two_pow_pos _)
    · obtain ⟨d, hd⟩ : ∃ d, y / 4503599627370496 - 1 = (x / 4503599627370496 - 1) + 1 + d := ⟨y / 4503599627370496 - 1 - (x / 4503599627370496 - 1) - 1, by omega⟩
      rw [hd, Nat.pow_add, Nat.pow_add]
      have hp : 0 < 2 ^ (x / 4503599627370496 - 1) := Nat.two_pow_pos _
      have hd1 : 1 ≤ 2 ^ d := Nat.one_le_two_pow
      have a1 : (4503599627370496 + x % 4503599627370496) * 2 ^ (x / 4503599627370496 - 1) < 9007199254740992 * 2 ^ (x / 4503599627370496 - 1) := Nat.mul_lt_mul_of_pos_right (by omega) hp
      have a2 : 9007199254740992 * 2 ^ (x / 4503599627370496 - 1) = 4503599627370496 * (2 ^ (x / 4503599627370496 - 1) * 2 ^ 1) := by omega
      have a3 : 4503599627370496 * (2 ^ (x / 4503599627370496 - 1) * 2 ^ 1) ≤ 4503599627370496 * (2 ^ (x / 4503599627370496 - 1) * 2 ^ 1 * 2 ^ d) := Nat.mul_le_mul_left _ (Nat.le_mul_of_pos_right _ (by omega))
      have a4 : 4503599627370496 * (2 ^ (x / 4503599627370496 - 1) * 2 ^ 1 * 2 ^ d) ≤ (4503599627370496 + y % 4503599627370496) * (2 ^ (x / 4503599627370496 - 1) * 2 ^ 1 * 2 ^ d) := Nat.mul_le_mul_right _ (by omega)
      omega
theorem V_le {x y : Nat} (h : x ≤ y) : V x ≤ V y := by
  rcases Nat.lt_or_eq_of_le h with h | rfl
  · exact Nat.le_of_lt (V_lt h)
  · exact Nat.le_refl _
theorem order_places (m n p q : Nat) : (Datum.number false m (-1074 + (p : Int))).order (.number false n (-1074 + (q : Int))) = some (compare (m * 2 ^ p) (n * 2 ^ q)) := by
  unfold Datum.order signed
  have e1 : (-1074 + (p : Int) - min (-1074 + (p : Int)) (-1074 + (q : Int))).toNat = p - min p q := by omega
  have e2 : (-1074 + (q : Int) - min (-1074 + (p : Int)) (-1074 + (q : Int))).toNat = q - min p q := by omega
  simp only [e1, e2, Bool.false_eq_true, if_false, Option.some.injEq, Nat.shiftLeft_eq]
  have hp : 0 < 2 ^ min p q := Nat.two_pow_pos _
  have f1 : m * 2 ^ p = (m * 2 ^ (p - min p q)) * 2 ^ min p q := by rw [Nat.mul_assoc, ← Nat.pow_add]; congr 2; omega
  have f2 : n * 2 ^ q = (n * 2 ^ (q - min p q)) * 2 ^ min p q := by rw [Nat.mul_assoc, ← Nat.pow_add]; congr 2; omega
  rw [f1, f2]
  generalize m * 2 ^ (p - min p q) = a
  generalize n * 2 ^ (q - min p q) = b
  generalize 2 ^ min p q = c at hp
  simp only [compare, compareOfLessAndEq]
  by_cases h1 : a < b
  · rw [if_pos (by omega), if_pos (Nat.mul_lt_mul_of_pos_right h1 hp)]
  · by_cases h2 : a = b
    · subst h2; simp
    · have h3 : b * c < a * c := Nat.mul_lt_mul_of_pos_right (by omega) hp
      rw [if_neg (by omega), if_neg (by omega), if_neg (by omega), if_neg (by omega)]
theorem read_V {b : Nat} (h : b < 9218868437227405312) : ∃ m p : Nat, double.read b = .number false m (-1074 + (p : Int)) ∧ V b = m * 2 ^ p := by
  by_cases hb : b < 4503599627370496
  · exact ⟨b, 0, by rw [read_sub hb]; rfl, by simp [V, hb]⟩
  · exact ⟨_, _, read_norm (by omega) h, by simp [V, hb]⟩
theorem order_pos {x y : Nat} (hx : x < 9218868437227405312) (hy : y < 9218868437227405312) : double.order x y = some (compare x y) := by
  obtain ⟨m, p, e1, v1⟩ := read_V hx
  obtain ⟨n, q, e2, v2⟩ := read_V hy
  unfold Format.order
  rw [e1, e2, order_places, ← v1, ← v2]
  congr 1
  simp only [compare, compareOfLessAndEq]
  by_cases h1 : x < y
  · rw [if_pos h1, if_pos (V_lt h1)]
  · by_cases h2 : x = y
    · subst h2; simp
    · have h3 := V_lt (show y < x by omega)
      rw [if_neg h1, if_neg h2, if_neg (by omega), if_neg (by omega)]

theorem fb : double.fractionBits = 52 := rfl
theorem log2_M {M : Nat} (h1 : 4503599627370496 ≤ M) (h2 : M < 9007199254740992) (d : Nat) : (M * 2 ^ d).log2 = 52 + d := by
  have hp : 0 < 2 ^ d := Nat.two_pow_pos _
  have h0 : M * 2 ^ d ≠ 0 := by have := Nat.mul_pos (show 0 < M by omega) hp; omega
  rw [Nat.log2_eq_iff h0]
  constructor
  · rw [Nat.pow_add]; exact Nat.mul_le_mul_right _ (by simpa using h1)
  · rw [show 52 + d + 1 = 53 + d by omega, Nat.pow_add]; exact Nat.mul_lt_mul_of_pos_right (by simpa using h2) hp
theorem cut_exact (M d : Nat) (hd : d ≤ (M * 2 ^ d).log2 + 2) : Toward.even.cut false (M * 2 ^ d) d = M := by
  unfold Toward.cut
  have hp : 0 < 2 ^ d := Nat.two_pow_pos _
  rw [Nat.min_eq_left hd, Nat.one_shiftLeft]
  simp only [Nat.mul_mod_left, Nat.mul_div_cancel _ hp, Nat.mul_zero, Nat.not_lt_zero, decide_false, Bool.false_or]
  have : (2 ^ d == 0) = false := by rw [beq_eq_false_iff_ne]; omega
  simp [this]
/-- a whole significand, shifted up as much as its place is shifted down, is written as it is -/
theorem nearest_up {M : Nat} (h1 : 4503599627370496 ≤ M) (h2 : M < 9007199254740992) (d p : Nat) (hp : p ≤ 2045) : double.nearest false (M * 2 ^ d) (-1074 + (p : Int) - (d : Int)) = p * 4503599627370496 + M := by
  unfold Format.nearest Format.word
  have h0 : M * 2 ^ d ≠ 0 := by have := Nat.mul_pos (show 0 < M by omega) (Nat.two_pow_pos d); omega
  rw [if_neg h0, log2_M h1 h2, fb, lp, bn, ir]
  have e1 : max (-1074 + (p : Int) - (d : Int) + ((52 + d : Nat) : Int) - ((52 : Nat) : Int)) (-1074) = -1074 + (p : Int) := by omega
  simp only [e1]
  have e2 : (-1074 + (p : Int) - (d : Int) - (-1074 + (p : Int))).toNat = 0 := by omega
  have e3 : (-1074 + (p : Int) - (-1074 + (p : Int) - (d : Int))).toNat = d := by omega
  have e4 : (-1074 + (p : Int) - -1074).toNat = p := by omega
  rw [e2, e3, e4, Nat.shiftLeft_zero, cut_exact M d (by rw [log2_M h1 h2]; omega)]
  simp only [Bool.false_eq_true, if_false]
  omega
theorem nearest_zero (s : Bool) (p : Int) : double.nearest s 0 p = if s then 9223372036854775808 else 0 := by
  unfold Format.nearest Format.word
  rw [if_pos rfl, sw]
/-- a short whole number, shifted up to a whole significand -/
theorem log2_shift {m : Nat} (h0 : 0 < m) (h : m < 9007199254740992) : 4503599627370496 ≤ m * 2 ^ (52 - m.log2) ∧ m * 2 ^ (52 - m.log2) < 9007199254740992 ∧ m.log2 ≤ 52 := by
  have hl : m.log2 < 53 := (Nat.log2_lt (by omega)).2 (by simpa using h)
  have a := Nat.log2_self_le (show m ≠ 0 by omega)
  have b : m < 2 ^ (m.log2 + 1) := (Nat.log2_lt (by omega)).1 (Nat.lt_succ_self _)
  have hp : 0 < 2 ^ (52 - m.log2) := Nat.two_pow_pos _
  refine ⟨?_, ?_, by omega⟩
  · calc 4503599627370496 = 2 ^ m.log2 * 2 ^ (52 - m.log2) := by rw [← Nat.pow_add, show m.log2 + (52 - m.log2) = 52 by omega]
      _ ≤ _ := Nat.mul_le_mul_right _ a
  · calc m * 2 ^ (52 - m.log2) < 2 ^ (m.log2 + 1) * 2 ^ (52 - m.log2) := Nat.mul_lt_mul_of_pos_right b hp
      _ = 9007199254740992 := by rw [← Nat.pow_add, show m.log2 + 1 + (52 - m.log2) = 53 by omega]
theorem nearest_short {m : Nat} (h0 : 0 < m) (h : m < 9007199254740992) (p : Nat) (hp : 52 - m.log2 ≤ p) (hp2 : p ≤ 2045) : double.nearest false m (-1074 + (p : Int)) = (p - (52 - m.log2)) * 4503599627370496 + m * 2 ^ (52 - m.log2) := by
  obtain ⟨a, b, c⟩ := log2_shift h0 h
  unfold Format.nearest Format.word
  rw [if_neg (by omega), fb, lp, bn, ir]
  have e1 : max (-1074 + (p : Int) + ((m.log2 : Nat) : Int) - ((52 : Nat) : Int)) (-1074) = -1074 + ((p - (52 - m.log2) : Nat) : Int) := by omega
  simp only [e1]
  have e2 : (-1074 + (p : Int) - (-1074 + ((p - (52 - m.log2) : Nat) : Int))).toNat = 52 - m.log2 := by omega
  have e3 : (-1074 + ((p - (52 - m.log2) : Nat) : Int) - (-1074 + (p : Int))).toNat = 0 := by omega
  have e4 : (-1074 + ((p - (52 - m.log2) : Nat) : Int) - -1074).toNat = p - (52 - m.log2) := by omega
  rw [e2, e3, e4, Nat.shiftLeft_eq]
  have hc := cut_exact (m * 2 ^ (52 - m.log2)) 0 (by omega)
  rw [Nat.pow_zero, Nat.mul_one] at hc
  rw [hc]
  generalize m * 2 ^ (52 - m.log2) = M at *
  generalize p - (52 - m.log2) = r at *
  rw [Nat.min_eq_left (by omega)]
  rfl
/-- a whole number's word -/
def fOf (n : Nat) : Nat := if n = 0 then 0 else (1022 + n.log2) * 4503599627370496 + n * 2 ^ (52 - n.log2)
theorem nearest_whole {n : Nat} (h : n < 9007199254740992) : double.nearest false n 0 = fOf n := by
  unfold fOf
  by_cases h0 : n = 0
  · subst h0; simp [nearest_zero]
  · obtain ⟨a, b, c⟩ := log2_shift (show 0 < n by omega) h
    have := nearest_short (show 0 < n by omega) h 1074 (by omega) (by omega)
    rw [show (-1074 + ((1074 : Nat) : Int)) = 0 by decide] at this
    rw [this, if_neg h0, show 1074 - (52 - n.log2) = 1022 + n.log2 by omega]
theorem V_mk {M p : Nat} (h1 : 4503599627370496 ≤ M) (h2 : M < 9007199254740992) : V (p * 4503599627370496 + M) = M * 2 ^ p := by
  unfold V
  rw [if_neg (by omega)]
  have e1 : (p * 4503599627370496 + M) % 4503599627370496 = M - 4503599627370496 := by omega
  have e2 : (p * 4503599627370496 + M) / 4503599627370496 - 1 = p := by omega
  rw [e1, e2, show 4503599627370496 + (M - 4503599627370496) = M by omega]
/-- how many places the least one lies below one (a name, so that nothing reckons the power out) -/
def E0 : Nat := 1074
theorem V_fOf {n : Nat} (h : n < 9007199254740992) : V (fOf n) = n * 2 ^ E0 := by
  unfold fOf
  by_cases h0 : n = 0
  · subst h0; rw [if_pos rfl, Nat.zero_mul]; unfold V; rw [if_pos (by decide)]
  · obtain ⟨a, b, c⟩ := log2_shift (show 0 < n by omega) h
    rw [if_neg h0, V_mk a b, Nat.mul_assoc, ← Nat.pow_add, show 52 - n.log2 + (1022 + n.log2) = E0 by unfold E0; omega]
theorem fOf_lt {n : Nat} (h : n < 9007199254740992) : fOf n < 9218868437227405312 := by
  unfold fOf
  by_cases h0 : n = 0
  · subst h0; decide
  · obtain ⟨a, b, c⟩ := log2_shift (show 0 < n by omega) h
    rw [if_neg h0]; omega
/-- a product by a power of two, of a normal word -/
theorem read_mk {M p : Nat} (h1 : 4503599627370496 ≤ M) (h2 : M < 9007199254740992) (hp : p ≤ 2045) : double.read (p * 4503599627370496 + M) = .number false M (-1074 + (p : Int)) := by
  rw [read_norm (by omega) (by omega)]
  have e1 : (p * 4503599627370496 + M) % 4503599627370496 = M - 4503599627370496 := by omega
  have e2 : (p * 4503599627370496 + M) / 4503599627370496 - 1 = p := by omega
  rw [e1, e2, show 4503599627370496 + (M - 4503599627370496) = M by omega]
theorem mul_two {M p q : Nat} (h1 : 4503599627370496 ≤ M) (h2 : M < 9007199254740992) (hp : p ≤ 2045) (hq : q ≤ 2045) (h : 1022 ≤ p + q) (h' : p + q ≤ 3067) : double.mul (p * 4503599627370496 + M) (q * 4503599627370496 + 4503599627370496) = some ((p + q - 1022) * 4503599627370496 + M) := by
  unfold Format.mul
  rw [read_mk h1 h2 hp, read_mk (by omega) (by omega) hq]
  simp only [Datum.product, Option.map_some, Format.write, Option.some.injEq, Bool.xor_self]
  have := nearest_up h1 h2 52 (p + q - 1022) (by omega)
  rw [← this, show -1074 + ((p : Nat) : Int) + (-1074 + ((q : Nat) : Int)) = -1074 + ((p + q - 1022 : Nat) : Int) - ((52 : Nat) : Int) by omega]
theorem mul_sub {b q : Nat} (h0 : 0 < b) (h : b < 4503599627370496) (hq : 1022 ≤ q) (hq2 : q ≤ 2045) (h1 : 52 - b.log2 + 1022 ≤ q) : double.mul b (q * 4503599627370496 + 4503599627370496) = some ((q - 1022 - (52 - b.log2)) * 4503599627370496 + b * 2 ^ (52 - b.log2)) := by
  obtain ⟨a, c, d⟩ := log2_shift h0 (show b < 9007199254740992 by omega)
  unfold Format.mul
  rw [read_sub h, read_mk (by omega) (by omega) hq2]
  simp only [Datum.product, Option.map_some, Format.write, Option.some.injEq, Bool.xor_self]
  have := nearest_up a c b.log2 (q - 1022 - (52 - b.log2)) (by omega)
  rw [← this, Nat.mul_assoc, ← Nat.pow_add, show 52 - b.log2 + b.log2 = 52 by omega]
  rw [show (-1074 : Int) + (-1074 + ((q : Nat) : Int)) = -1074 + ((q - 1022 - (52 - b.log2) : Nat) : Int) - ((b.log2 : Nat) : Int) by omega]
/-- half of a normal word that has room below -/
theorem div_two {M p : Nat} (h1 : 4503599627370496 ≤ M) (h2 : M < 9007199254740992) (hp : 1 ≤ p) (hp2 : p ≤ 2045) : double.div (p * 4503599627370496 + M) 4611686018427387904 = some ((p - 1) * 4503599627370496 + M) := by
  unfold Format.div
  rw [show (4611686018427387904 : Nat) = 1023 * 4503599627370496 + 4503599627370496 by decide, read_mk h1 h2 hp2, read_mk (by omega) (by omega) (by omega)]
  have hl : M.log2 = 52 := by have := log2_M h1 h2 0; simpa using this
  simp only [Datum.quotient, Option.map_some, Format.write, Option.some.injEq, Bool.xor_self, fb, hl]
  rw [if_neg (by decide)]
  have e0 : 52 + 2 + (4503599627370496 : Nat).log2 - 52 = 54 := by decide
  simp only [Option.map_some, Option.some.injEq, Format.write, e0, Nat.shiftLeft_eq]
  have e1 : M * 2 ^ 54 / 4503599627370496 = M * 4 := by omega
  have e2 : M * 2 ^ 54 % 4503599627370496 = 0 := by omega
  rw [e1, e2]
  have := nearest_up h1 h2 3 (p - 1) (by omega)
  rw [← this]
  rw [show 2 * (M * 4) + (0 != 0).toNat = M * 2 ^ 3 by simp; omega, show -1074 + ((p : Nat) : Int) - (-1074 + ((1023 : Nat) : Int)) - ((54 : Nat) : Int) - 1 = -1074 + ((p - 1 : Nat) : Int) - ((3 : Nat) : Int) by omega]
theorem div_zero : double.div 0 4611686018427387904 = some 0 := by decide +kernel
end Go.Fl
