import Derived.Test.YtmdccmhkllpibaaL3
set_option linter.unusedSimpArgs false
set_option linter.unusedVariables false
set_option maxHeartbeats 8000000
set_option maxRecDepth 100000
namespace Go.Proofs.Ytmdccmhkllpibaa
open Go.RowKit Go.Fl
theorem VV_le {f g : Nat} (hg : g < 9218868437227405312) (h : f ≤ g) : VV f ≤ VV g := by
  unfold VV
  rw [if_neg (by omega), if_neg (by omega)]
  exact V_le h
theorem q_le {a b f g : Nat} (hg : g < 9218868437227405312) (h : f ≤ g) (hab : a ≤ b) : a * VV f / 2 ^ E0 ≤ b * VV g / 2 ^ E0 :=
  Nat.div_le_div_right (Nat.mul_le_mul hab (VV_le hg h))
theorem grows_e1 (a b : Int) (x y : Nat) (w : World) (h : a < 0) : Calls Try.prog 5 #[.int .i64 a, .int .i64 b, .int .u64 x, .int .u64 y] w fun e w' => e = .returned (.bool true) ∧ w' = w := by
  go_enter Try.func5, Try.ntmps5
  go_wp2_with (first | (go_at_call 12; refine (awake_ok _).mono ?_; rintro e w1 ⟨rfl, rfl⟩))
  all_goals go_ret
  all_goals exact ⟨by simp, rfl⟩
theorem grows_e2 (a b : Int) (x y : Nat) (w : World) (h0 : 0 ≤ a) (h : 1125899906842624 < a) : Calls Try.prog 5 #[.int .i64 a, .int .i64 b, .int .u64 x, .int .u64 y] w fun e w' => e = .returned (.bool true) ∧ w' = w := by
  go_enter Try.func5, Try.ntmps5
  go_wp2_with (first | (go_at_call 12; refine (awake_ok _).mono ?_; rintro e w1 ⟨rfl, rfl⟩))
  all_goals go_ret
  all_goals exact ⟨by simp, rfl⟩
theorem grows_e3 (a b : Int) (x y : Nat) (w : World) (h0 : 0 ≤ a) (h1 : a ≤ 1125899906842624) (h : b < 0) : Calls Try.prog 5 #[.int .i64 a, .int .i64 b, .int .u64 x, .int .u64 y] w fun e w' => e = .returned (.bool true) ∧ w' = w := by
  go_enter Try.func5, Try.ntmps5
  go_wp2_with (first | (go_at_call 12; refine (awake_ok _).mono ?_; rintro e w1 ⟨rfl, rfl⟩))
  all_goals go_ret
  all_goals exact ⟨by simp, rfl⟩
theorem grows_e4 (a b : Int) (x y : Nat) (w : World) (h0 : 0 ≤ a) (h1 : a ≤ 1125899906842624) (h2 : 0 ≤ b) (h : 1125899906842624 < b) : Calls Try.prog 5 #[.int .i64 a, .int .i64 b, .int .u64 x, .int .u64 y] w fun e w' => e = .returned (.bool true) ∧ w' = w := by
  go_enter Try.func5, Try.ntmps5
  go_wp2_with (first | (go_at_call 12; refine (awake_ok _).mono ?_; rintro e w1 ⟨rfl, rfl⟩))
  all_goals go_ret
  all_goals exact ⟨by simp, rfl⟩
theorem grows_00yy (a b f g x y p q : Nat) (w : World) (hx : (x : Int) % 4611686018427387904 = (f : Int)) (hy : (y : Int) % 4611686018427387904 = (g : Int)) (a1 : (a : Int) ≤ 1125899906842624) (b1 : (b : Int) ≤ 1125899906842624) (hab : (a : Int) ≤ (b : Int)) (hfg : (FloatKind.f64.format.order f g == some Ordering.gt) = false) (hpq : (p : Int) ≤ (q : Int))
    (hF : Hid (∀ w, Calls Try.prog 11 #[.float .f64 f] w fun e w' => e = .returned (.bool true) ∧ w' = w)) (hG : Hid (∀ w, Calls Try.prog 11 #[.float .f64 g] w fun e w' => e = .returned (.bool true) ∧ w' = w))
    (h1 : Hid (∀ w, Calls Try.prog 10 #[.int .i64 a, .float .f64 f] w fun e w' => e = .returned (.tuple #[.int .i64 (p : Int), .int .i64 0]) ∧ w' = w)) (h2 : Hid (∀ w, Calls Try.prog 10 #[.int .i64 b, .float .f64 g] w fun e w' => e = .returned (.tuple #[.int .i64 (q : Int), .int .i64 0]) ∧ w' = w)) :
    Calls Try.prog 5 #[.int .i64 a, .int .i64 b, .int .u64 x, .int .u64 y] w fun e w' => e = .returned (.bool true) ∧ w' = w := by
  have a0 : (0 : Int) ≤ (a : Int) := by omega
  have b0 : (0 : Int) ≤ (b : Int) := by omega
  go_enter Try.func5, Try.ntmps5
  go_wp2_with fail
  refine (hF.out _).mono ?_
  rintro e w1 ⟨rfl, rfl⟩
  go_wp2_with fail
  refine (hG.out _).mono ?_
  rintro e w1 ⟨rfl, rfl⟩
  go_wp2_with fail
  refine (h1.out _).mono ?_
  rintro e w1 ⟨rfl, rfl⟩
  go_wp2_with fail
  refine (h2.out _).mono ?_
  rintro e w1 ⟨rfl, rfl⟩
  go_wp2_with (first | (go_at_call 12; refine (awake_ok _).mono ?_; rintro e w1 ⟨rfl, rfl⟩))
  all_goals go_ret
  all_goals exact ⟨by first | rfl | (simp; done) | (simp; omega), rfl⟩
theorem grows_00yn (a b f g x y p q : Nat) (w : World) (hx : (x : Int) % 4611686018427387904 = (f : Int)) (hy : (y : Int) % 4611686018427387904 = (g : Int)) (a1 : (a : Int) ≤ 1125899906842624) (b1 : (b : Int) ≤ 1125899906842624) (hab : (a : Int) ≤ (b : Int)) (hfg : (FloatKind.f64.format.order f g == some Ordering.gt) = false) (hpq : (p : Int) ≤ (q : Int))
    (hF : Hid (∀ w, Calls Try.prog 11 #[.float .f64 f] w fun e w' => e = .returned (.bool true) ∧ w' = w)) (hG : Hid (∀ w, Calls Try.prog 11 #[.float .f64 g] w fun e w' => e = .returned (.bool true) ∧ w' = w))
    (h1 : Hid (∀ w, Calls Try.prog 10 #[.int .i64 a, .float .f64 f] w fun e w' => e = .returned (.tuple #[.int .i64 (p : Int), .int .i64 0]) ∧ w' = w)) (h2 : Hid (∀ w, Calls Try.prog 10 #[.int .i64 b, .float .f64 g] w fun e w' => e = .returned (.tuple #[.int .i64 0, .int .i64 9]) ∧ w' = w)) :
    Calls Try.prog 5 #[.int .i64 a, .int .i64 b, .int .u64 x, .int .u64 y] w fun e w' => e = .returned (.bool true) ∧ w' = w := by
  have a0 : (0 : Int) ≤ (a : Int) := by omega
  have b0 : (0 : Int) ≤ (b : Int) := by omega
  go_enter Try.func5, Try.ntmps5
  go_wp2_with fail
  refine (hF.out _).mono ?_
  rintro e w1 ⟨rfl, rfl⟩
  go_wp2_with fail
  refine (hG.out _).mono ?_
  rintro e w1 ⟨rfl, rfl⟩
  go_wp2_with fail
  refine (h1.out _).mono ?_
  rintro e w1 ⟨rfl, rfl⟩
  go_wp2_with fail
  refine (h2.out _).mono ?_
  rintro e w1 ⟨rfl, rfl⟩
  go_wp2_with (first | (go_at_call 12; refine (awake_ok _).mono ?_; rintro e w1 ⟨rfl, rfl⟩))
  all_goals go_ret
  all_goals exact ⟨by first | rfl | (simp; done) | (simp; omega), rfl⟩
theorem grows_00nn (a b f g x y p q : Nat) (w : World) (hx : (x : Int) % 4611686018427387904 = (f : Int)) (hy : (y : Int) % 4611686018427387904 = (g : Int)) (a1 : (a : Int) ≤ 1125899906842624) (b1 : (b : Int) ≤ 1125899906842624) (hab : (a : Int) ≤ (b : Int)) (hfg : (FloatKind.f64.format.order f g == some Ordering.gt) = false) (hpq : (p : Int) ≤ (q : Int))
    (hF : Hid (∀ w, Calls Try.prog 11 #[.float .f64 f] w fun e w' => e = .returned (.bool true) ∧ w' = w)) (hG : Hid (∀ w, Calls Try.prog 11 #[.float .f64 g] w fun e w' => e = .returned (.bool true) ∧ w' = w))
    (h1 : Hid (∀ w, Calls Try.prog 10 #[.int .i64 a, .float .f64 f] w fun e w' => e = .returned (.tuple #[.int .i64 0, .int .i64 9]) ∧ w' = w)) (h2 : Hid (∀ w, Calls Try.prog 10 #[.int .i64 b, .float .f64 g] w fun e w' => e = .returned (.tuple #[.int .i64 0, .int .i64 9]) ∧ w' = w)) :
    Calls Try.prog 5 #[.int .i64 a, .int .i64 b, .int .u64 x, .int .u64 y] w fun e w' => e = .returned (.bool true) ∧ w' = w := by
  have a0 : (0 : Int) ≤ (a : Int) := by omega
  have b0 : (0 : Int) ≤ (b : Int) := by omega
  go_enter Try.func5, Try.ntmps5
  go_wp2_with fail
  refine (hF.out _).mono ?_
  rintro e w1 ⟨rfl, rfl⟩
  go_wp2_with fail
  refine (hG.out _).mono ?_
  rintro e w1 ⟨rfl, rfl⟩
  go_wp2_with fail
  refine (h1.out _).mono ?_
  rintro e w1 ⟨rfl, rfl⟩
  go_wp2_with fail
  refine (h2.out _).mono ?_
  rintro e w1 ⟨rfl, rfl⟩
  go_wp2_with (first | (go_at_call 12; refine (awake_ok _).mono ?_; rintro e w1 ⟨rfl, rfl⟩))
  all_goals go_ret
  all_goals exact ⟨by first | rfl | (simp; done) | (simp; omega), rfl⟩
theorem grows_01yy (a b f g x y p q : Nat) (w : World) (hx : (x : Int) % 4611686018427387904 = (f : Int)) (hy : (y : Int) % 4611686018427387904 = (g : Int)) (a1 : (a : Int) ≤ 1125899906842624) (b1 : (b : Int) ≤ 1125899906842624) (hab : (a : Int) ≤ (b : Int)) (hfg : (FloatKind.f64.format.order f g == some Ordering.gt) = true) (hpq : (p : Int) ≤ (q : Int))
    (hF : Hid (∀ w, Calls Try.prog 11 #[.float .f64 f] w fun e w' => e = .returned (.bool true) ∧ w' = w)) (hG : Hid (∀ w, Calls Try.prog 11 #[.float .f64 g] w fun e w' => e = .returned (.bool true) ∧ w' = w))
    (h1 : Hid (∀ w, Calls Try.prog 10 #[.int .i64 a, .float .f64 g] w fun e w' => e = .returned (.tuple #[.int .i64 (p : Int), .int .i64 0]) ∧ w' = w)) (h2 : Hid (∀ w, Calls Try.prog 10 #[.int .i64 b, .float .f64 f] w fun e w' => e = .returned (.tuple #[.int .i64 (q : Int), .int .i64 0]) ∧ w' = w)) :
    Calls Try.prog 5 #[.int .i64 a, .int .i64 b, .int .u64 x, .int .u64 y] w fun e w' => e = .returned (.bool true) ∧ w' = w := by
  have a0 : (0 : Int) ≤ (a : Int) := by omega
  have b0 : (0 : Int) ≤ (b : Int) := by omega
  go_enter Try.func5, Try.ntmps5
  go_wp2_with fail
  refine (hF.out _).mono ?_
  rintro e w1 ⟨rfl, rfl⟩
  go_wp2_with fail
  refine (hG.out _).mono ?_
  rintro e w1 ⟨rfl, rfl⟩
  go_wp2_with fail
  refine (h1.out _).mono ?_
  rintro e w1 ⟨rfl, rfl⟩
  go_wp2_with fail
  refine (h2.out _).mono ?_
  rintro e w1 ⟨rfl, rfl⟩
  go_wp2_with (first | (go_at_call 12; refine (awake_ok _).mono ?_; rintro e w1 ⟨rfl, rfl⟩))
  all_goals go_ret
  all_goals exact ⟨by first | rfl | (simp; done) | (simp; omega), rfl⟩
theorem grows_01yn (a b f g x y p q : Nat) (w : World) (hx : (x : Int) % 4611686018427387904 = (f : Int)) (hy : (y : Int) % 4611686018427387904 = (g : Int)) (a1 : (a : Int) ≤ 1125899906842624) (b1 : (b : Int) ≤ 1125899906842624) (hab : (a : Int) ≤ (b : Int)) (hfg : (FloatKind.f64.format.order f g == some Ordering.gt) = true) (hpq : (p : Int) ≤ (q : Int))
    (hF : Hid (∀ w, Calls Try.prog 11 #[.float .f64 f] w fun e w' => e = .returned (.bool true) ∧ w' = w)) (hG : Hid (∀ w, Calls Try.prog 11 #[.float .f64 g] w fun e w' => e = .returned (.bool true) ∧ w' = w))
    (h1 : Hid (∀ w, Calls Try.prog 10 #[.int .i64 a, .float .f64 g] w fun e w' => e = .returned (.tuple #[.int .i64 (p : Int), .int .i64 0]) ∧ w' = w)) (h2 : Hid (∀ w, Calls Try.prog 10 #[.int .i64 b, .float .f64 f] w fun e w' => e = .returned (.tuple #[.int .i64 0, .int .i64 9]) ∧ w' = w)) :
    Calls Try.prog 5 #[.int .i64 a, .int .i64 b, .int .u64 x, .int .u64 y] w fun e w' => e = .returned (.bool true) ∧ w' = w := by
  have a0 : (0 : Int) ≤ (a : Int) := by omega
  have b0 : (0 : Int) ≤ (b : Int) := by omega
  go_enter Try.func5, Try.ntmps5
  go_wp2_with fail
  refine (hF.out _).mono ?_
  rintro e w1 ⟨rfl, rfl⟩
  go_wp2_with fail
  refine (hG.out _).mono ?_
  rintro e w1 ⟨rfl, rfl⟩
  go_wp2_with fail
  refine (h1.out _).mono ?_
  rintro e w1 ⟨rfl, rfl⟩
  go_wp2_with fail
  refine (h2.out _).mono ?_
  rintro e w1 ⟨rfl, rfl⟩
  go_wp2_with (first | (go_at_call 12; refine (awake_ok _).mono ?_; rintro e w1 ⟨rfl, rfl⟩))
  all_goals go_ret
  all_goals exact ⟨by first | rfl | (simp; done) | (simp; omega), rfl⟩
theorem grows_01nn (a b f g x y p q : Nat) (w : World) (hx : (x : Int) % 4611686018427387904 = (f : Int)) (hy : (y : Int) % 4611686018427387904 = (g : Int)) (a1 : (a : Int) ≤ 1125899906842624) (b1 : (b : Int) ≤ 1125899906842624) (hab : (a : Int) ≤ (b : Int)) (hfg : (FloatKind.f64.format.order f g == some Ordering.gt) = true) (hpq : (p : Int) ≤ (q : Int))
    (hF : Hid (∀ w, Calls Try.prog 11 #[.float .f64 f] w fun e w' => e = .returned (.bool true) ∧ w' = w)) (hG : Hid (∀ w, Calls Try.prog 11 #[.float .f64 g] w fun e w' => e = .returned (.bool true) ∧ w' = w))
    (h1 : Hid (∀ w, Calls Try.prog 10 #[.int .i64 a, .float .f64 g] w fun e w' => e = .returned (.tuple #[.int .i64 0, .int .i64 9]) ∧ w' = w)) (h2 : Hid (∀ w, Calls Try.prog 10 #[.int .i64 b, .float .f64 f] w fun e w' => e = .returned (.tuple #[.int .i64 0, .int .i64 9]) ∧ w' = w)) :
    Calls Try.prog 5 #[.int .i64 a, .int .i64 b, .int .u64 x, .int .u64 y] w fun e w' => e = .returned (.bool true) ∧ w' = w := by
  have a0 : (0 : Int) ≤ (a : Int) := by omega
  have b0 : (0 : Int) ≤ (b : Int) := by omega
  go_enter Try.func5, Try.ntmps5
  go_wp2_with fail
  refine (hF.out _).mono ?_
  rintro e w1 ⟨rfl, rfl⟩
  go_wp2_with fail
  refine (hG.out _).mono ?_
  rintro e w1 ⟨rfl, rfl⟩
  go_wp2_with fail
  refine (h1.out _).mono ?_
  rintro e w1 ⟨rfl, rfl⟩
  go_wp2_with fail
  refine (h2.out _).mono ?_
  rintro e w1 ⟨rfl, rfl⟩
  go_wp2_with (first | (go_at_call 12; refine (awake_ok _).mono ?_; rintro e w1 ⟨rfl, rfl⟩))
  all_goals go_ret
  all_goals exact ⟨by first | rfl | (simp; done) | (simp; omega), rfl⟩
theorem grows_10yy (a b f g x y p q : Nat) (w : World) (hx : (x : Int) % 4611686018427387904 = (f : Int)) (hy : (y : Int) % 4611686018427387904 = (g : Int)) (a1 : (a : Int) ≤ 1125899906842624) (b1 : (b : Int) ≤ 1125899906842624) (hab : (b : Int) < (a : Int)) (hfg : (FloatKind.f64.format.order f g == some Ordering.gt) = false) (hpq : (p : Int) ≤ (q : Int))
    (hF : Hid (∀ w, Calls Try.prog 11 #[.float .f64 f] w fun e w' => e = .returned (.bool true) ∧ w' = w)) (hG : Hid (∀ w, Calls Try.prog 11 #[.float .f64 g] w fun e w' => e = .returned (.bool true) ∧ w' = w))
    (h1 : Hid (∀ w, Calls Try.prog 10 #[.int .i64 b, .float .f64 f] w fun e w' => e = .returned (.tuple #[.int .i64 (p : Int), .int .i64 0]) ∧ w' = w)) (h2 : Hid (∀ w, Calls Try.prog 10 #[.int .i64 a, .float .f64 g] w fun e w' => e = .returned (.tuple #[.int .i64 (q : Int), .int .i64 0]) ∧ w' = w)) :
    Calls Try.prog 5 #[.int .i64 a, .int .i64 b, .int .u64 x, .int .u64 y] w fun e w' => e = .returned (.bool true) ∧ w' = w := by
  have a0 : (0 : Int) ≤ (a : Int) := by omega
  have b0 : (0 : Int) ≤ (b : Int) := by omega
  go_enter Try.func5, Try.ntmps5
  go_wp2_with fail
  refine (hF.out _).mono ?_
  rintro e w1 ⟨rfl, rfl⟩
  go_wp2_with fail
  refine (hG.out _).mono ?_
  rintro e w1 ⟨rfl, rfl⟩
  go_wp2_with fail
  refine (h1.out _).mono ?_
  rintro e w1 ⟨rfl, rfl⟩
  go_wp2_with fail
  refine (h2.out _).mono ?_
  rintro e w1 ⟨rfl, rfl⟩
  go_wp2_with (first | (go_at_call 12; refine (awake_ok _).mono ?_; rintro e w1 ⟨rfl, rfl⟩))
  all_goals go_ret
  all_goals exact ⟨by first | rfl | (simp; done) | (simp; omega), rfl⟩
theorem grows_10yn (a b f g x y p q : Nat) (w : World) (hx : (x : Int) % 4611686018427387904 = (f : Int)) (hy : (y : Int) % 4611686018427387904 = (g : Int)) (a1 : (a : Int) ≤ 1125899906842624) (b1 : (b : Int) ≤ 1125899906842624) (hab : (b : Int) < (a : Int)) (hfg : (FloatKind.f64.format.order f g == some Ordering.gt) = false) (hpq : (p : Int) ≤ (q : Int))
    (hF : Hid (∀ w, Calls Try.prog 11 #[.float .f64 f] w fun e w' => e = .returned (.bool true) ∧ w' = w)) (hG : Hid (∀ w, Calls Try.prog 11 #[.float .f64 g] w fun e w' => e = .returned (.bool true) ∧ w' = w))
    (h1 : Hid (∀ w, Calls Try.prog 10 #[.int .i64 b, .float .f64 f] w fun e w' => e = .returned (.tuple #[.int .i64 (p : Int), .int .i64 0]) ∧ w' = w)) (h2 : Hid (∀ w, Calls Try.prog 10 #[.int .i64 a, .float .f64 g] w fun e w' => e = .returned (.tuple #[.int .i64 0, .int .i64 9]) ∧ w' = w)) :
    Calls Try.prog 5 #[.int .i64 a, .int .i64 b, .int .u64 x, .int .u64 y] w fun e w' => e = .returned (.bool true) ∧ w' = w := by
  have a0 : (0 : Int) ≤ (a : Int) := by omega
  have b0 : (0 : Int) ≤ (b : Int) := by omega
  go_enter Try.func5, Try.ntmps5
  go_wp2_with fail
  refine (hF.out _).mono ?_
  rintro e w1 ⟨rfl, rfl⟩
  go_wp2_with fail
  refine (hG.out _).mono ?_
  rintro e w1 ⟨rfl, rfl⟩
  go_wp2_with fail
  refine (h1.out _).mono ?_
  rintro e w1 ⟨rfl, rfl⟩
  go_wp2_with fail
  refine (h2.out _).mono ?_
  rintro e w1 ⟨rfl, rfl⟩
  go_wp2_with (first | (go_at_call 12; refine (awake_ok _).mono ?_; rintro e w1 ⟨rfl, rfl⟩))
  all_goals go_ret
  all_goals exact ⟨by first | rfl | (simp; done) | (simp; omega), rfl⟩
theorem grows_10nn (a b f g x y p q : Nat) (w : World) (hx : (x : Int) % 4611686018427387904 = (f : Int)) (hy : (y : Int) % 4611686018427387904 = (g : Int)) (a1 : (a : Int) ≤ 1125899906842624) (b1 : (b : Int) ≤ 1125899906842624) (hab : (b : Int) < (a : Int)) (hfg : (FloatKind.f64.format.order f g == some Ordering.gt) = false) (hpq : (p : Int) ≤ (q : Int))
    (hF : Hid (∀ w, Calls Try.prog 11 #[.float .f64 f] w fun e w' => e = .returned (.bool true) ∧ w' = w)) (hG : Hid (∀ w, Calls Try.prog 11 #[.float .f64 g] w fun e w' => e = .returned (.bool true) ∧ w' = w))
    (h1 : Hid (∀ w, Calls Try.prog 10 #[.int .i64 b, .float .f64 f] w fun e w' => e = .returned (.tuple #[.int .i64 0, .int .i64 9]) ∧ w' = w)) (h2 : Hid (∀ w, Calls Try.prog 10 #[.int .i64 a, .float .f64 g] w fun e w' => e = .returned (.tuple #[.int .i64 0, .int .i64 9]) ∧ w' = w)) :
    Calls Try.prog 5 #[.int .i64 a, .int .i64 b, .int .u64 x, .int .u64 y] w fun e w' => e = .returned (.bool true) ∧ w' = w := by
  have a0 : (0 : Int) ≤ (a : Int) := by omega
  have b0 : (0 : Int) ≤ (b : Int) := by omega
  go_enter Try.func5, Try.ntmps5
  go_wp2_with fail
  refine (hF.out _).mono ?_
  rintro e w1 ⟨rfl, rfl⟩
  go_wp2_with fail
  refine (hG.out _).mono ?_
  rintro e w1 ⟨rfl, rfl⟩
  go_wp2_with fail
  refine (h1.out _).mono ?_
  rintro e w1 ⟨rfl, rfl⟩
  go_wp2_with fail
  refine (h2.out _).mono ?_
  rintro e w1 ⟨rfl, rfl⟩
  go_wp2_with (first | (go_at_call 12; refine (awake_ok _).mono ?_; rintro e w1 ⟨rfl, rfl⟩))
  all_goals go_ret
  all_goals exact ⟨by first | rfl | (simp; done) | (simp; omega), rfl⟩
theorem grows_11yy (a b f g x y p q : Nat) (w : World) (hx : (x : Int) % 4611686018427387904 = (f : Int)) (hy : (y : Int) % 4611686018427387904 = (g : Int)) (a1 : (a : Int) ≤ 1125899906842624) (b1 : (b : Int) ≤ 1125899906842624) (hab : (b : Int) < (a : Int)) (hfg : (FloatKind.f64.format.order f g == some Ordering.gt) = true) (hpq : (p : Int) ≤ (q : Int))
    (hF : Hid (∀ w, Calls Try.prog 11 #[.float .f64 f] w fun e w' => e = .returned (.bool true) ∧ w' = w)) (hG : Hid (∀ w, Calls Try.prog 11 #[.float .f64 g] w fun e w' => e = .returned (.bool true) ∧ w' = w))
    (h1 : Hid (∀ w, Calls Try.prog 10 #[.int .i64 b, .float .f64 g] w fun e w' => e = .returned (.tuple #[.int .i64 (p : Int), .int .i64 0]) ∧ w' = w)) (h2 : Hid (∀ w, Calls Try.prog 10 #[.int .i64 a, .float .f64 f] w fun e w' => e = .returned (.tuple #[.int .i64 (q : Int), .int .i64 0]) ∧ w' = w)) :
    Calls Try.prog 5 #[.int .i64 a, .int .i64 b, .int .u64 x, .int .u64 y] w fun e w' => e = .returned (.bool true) ∧ w' = w := by
  have a0 : (0 : Int) ≤ (a : Int) := by omega
  have b0 : (0 : Int) ≤ (b : Int) := by omega
  go_enter Try.func5, Try.ntmps5
  go_wp2_with fail
  refine (hF.out _).mono ?_
  rintro e w1 ⟨rfl, rfl⟩
  go_wp2_with fail
  refine (hG.out _).mono ?_
  rintro e w1 ⟨rfl, rfl⟩
  go_wp2_with fail
  refine (h1.out _).mono ?_
  rintro e w1 ⟨rfl, rfl⟩
  go_wp2_with fail
  refine (h2.out _).mono ?_
  rintro e w1 ⟨rfl, rfl⟩
  go_wp2_with (first | (go_at_call 12; refine (awake_ok _).mono ?_; rintro e w1 ⟨rfl, rfl⟩))
  all_goals go_ret
  all_goals exact ⟨by first | rfl | (simp; done) | (simp; omega), rfl⟩
theorem grows_11yn (a b f g x y p q : Nat) (w : World) (hx : (x : Int) % 4611686018427387904 = (f : Int)) (hy : (y : Int) % 4611686018427387904 = (g : Int)) (a1 : (a : Int) ≤ 1125899906842624) (b1 : (b : Int) ≤ 1125899906842624) (hab : (b : Int) < (a : Int)) (hfg : (FloatKind.f64.format.order f g == some Ordering.gt) = true) (hpq : (p : Int) ≤ (q : Int))
    (hF : Hid (∀ w, Calls Try.prog 11 #[.float .f64 f] w fun e w' => e = .returned (.bool true) ∧ w' = w)) (hG : Hid (∀ w, Calls Try.prog 11 #[.float .f64 g] w fun e w' => e = .returned (.bool true) ∧ w' = w))
    (h1 : Hid (∀ w, Calls Try.prog 10 #[.int .i64 b, .float .f64 g] w fun e w' => e = .returned (.tuple #[.int .i64 (p : Int), .int .i64 0]) ∧ w' = w)) (h2 : Hid (∀ w, Calls Try.prog 10 #[.int .i64 a, .float .f64 f] w fun e w' => e = .returned (.tuple #[.int .i64 0, .int .i64 9]) ∧ w' = w)) :
    Calls Try.prog 5 #[.int .i64 a, .int .i64 b, .int .u64 x, .int .u64 y] w fun e w' => e = .returned (.bool true) ∧ w' = w := by
  have a0 : (0 : Int) ≤ (a : Int) := by omega
  have b0 : (0 : Int) ≤ (b : Int) := by omega
  go_enter Try.func5, Try.ntmps5
  go_wp2_with fail
  refine (hF.out _).mono ?_
  rintro e w1 ⟨rfl, rfl⟩
  go_wp2_with fail
  refine (hG.out _).mono ?_
  rintro e w1 ⟨rfl, rfl⟩
  go_wp2_with fail
  refine (h1.out _).mono ?_
  rintro e w1 ⟨rfl, rfl⟩
  go_wp2_with fail
  refine (h2.out _).mono ?_
  rintro e w1 ⟨rfl, rfl⟩
  go_wp2_with (first | (go_at_call 12; refine (awake_ok _).mono ?_; rintro e w1 ⟨rfl, rfl⟩))
  all_goals go_ret
  all_goals exact ⟨by first | rfl | (simp; done) | (simp; omega), rfl⟩
theorem grows_11nn (a b f g x y p q : Nat) (w : World) (hx : (x : Int) % 4611686018427387904 = (f : Int)) (hy : (y : Int) % 4611686018427387904 = (g : Int)) (a1 : (a : Int) ≤ 1125899906842624) (b1 : (b : Int) ≤ 1125899906842624) (hab : (b : Int) < (a : Int)) (hfg : (FloatKind.f64.format.order f g == some Ordering.gt) = true) (hpq : (p : Int) ≤ (q : Int))
    (hF : Hid (∀ w, Calls Try.prog 11 #[.float .f64 f] w fun e w' => e = .returned (.bool true) ∧ w' = w)) (hG : Hid (∀ w, Calls Try.prog 11 #[.float .f64 g] w fun e w' => e = .returned (.bool true) ∧ w' = w))
    (h1 : Hid (∀ w, Calls Try.prog 10 #[.int .i64 b, .float .f64 g] w fun e w' => e = .returned (.tuple #[.int .i64 0, .int .i64 9]) ∧ w' = w)) (h2 : Hid (∀ w, Calls Try.prog 10 #[.int .i64 a, .float .f64 f] w fun e w' => e = .returned (.tuple #[.int .i64 0, .int .i64 9]) ∧ w' = w)) :
    Calls Try.prog 5 #[.int .i64 a, .int .i64 b, .int .u64 x, .int .u64 y] w fun e w' => e = .returned (.bool true) ∧ w' = w := by
  have a0 : (0 : Int) ≤ (a : Int) := by omega
  have b0 : (0 : Int) ≤ (b : Int) := by omega
  go_enter Try.func5, Try.ntmps5
  go_wp2_with fail
  refine (hF.out _).mono ?_
  rintro e w1 ⟨rfl, rfl⟩
  go_wp2_with fail
  refine (hG.out _).mono ?_
  rintro e w1 ⟨rfl, rfl⟩
  go_wp2_with fail
  refine (h1.out _).mono ?_
  rintro e w1 ⟨rfl, rfl⟩
  go_wp2_with fail
  refine (h2.out _).mono ?_
  rintro e w1 ⟨rfl, rfl⟩
  go_wp2_with (first | (go_at_call 12; refine (awake_ok _).mono ?_; rintro e w1 ⟨rfl, rfl⟩))
  all_goals go_ret
  all_goals exact ⟨by first | rfl | (simp; done) | (simp; omega), rfl⟩
theorem gt_iff {f g : Nat} (hf : f < 9218868437227405312) (hg : g < 9218868437227405312) : (FloatKind.f64.format.order f g == some Ordering.gt) = decide (g < f) := by
  rw [ord f g hf hg]
  by_cases h : g < f
  · rw [cmp_gt h]; simp [h]
  · by_cases h2 : f = g
    · subst h2; rw [cmp_eq]; simp
    · rw [cmp_lt (by omega)]; simp; omega
theorem grows_law (a b : Int) (x y : Nat) (w : World) : Calls Try.prog 5 #[.int .i64 a, .int .i64 b, .int .u64 x, .int .u64 y] w fun e w' => e = .returned (.bool true) ∧ w' = w := by
  by_cases ha : a < 0
  · exact grows_e1 a b x y w ha
  by_cases ha2 : 1125899906842624 < a
  · exact grows_e2 a b x y w (by omega) ha2
  by_cases hb : b < 0
  · exact grows_e3 a b x y w (by omega) (by omega) hb
  by_cases hb2 : 1125899906842624 < b
  · exact grows_e4 a b x y w (by omega) (by omega) (by omega) hb2
  obtain ⟨a, rfl⟩ := Int.eq_ofNat_of_zero_le (show 0 ≤ a by omega)
  obtain ⟨b, rfl⟩ := Int.eq_ofNat_of_zero_le (show 0 ≤ b by omega)
  obtain ⟨f, hf⟩ : ∃ f, f = x % 4611686018427387904 := ⟨_, rfl⟩
  obtain ⟨g, hg⟩ : ∃ g, g = y % 4611686018427387904 := ⟨_, rfl⟩
  have fx : (x : Int) % 4611686018427387904 = (f : Int) := by omega
  have gy : (y : Int) % 4611686018427387904 = (g : Int) := by omega
  have f1 : f < 9218868437227405312 := by omega
  have g1 : g < 9218868437227405312 := by omega
  have RF := fun w => lright f w (by omega)
  have RG := fun w => lright g w (by omega)
  rw [rightB_pos f1] at RF
  rw [rightB_pos g1] at RG
  have hgt := gt_iff f1 g1
  by_cases hab : a ≤ b <;> by_cases hfg : g < f
  · have hq := q_le (a := a) (b := b) (f := g) (g := f) (by omega) (by omega) (by omega)
    have T1 := fun w => times_any a g w (by omega) (.inl (by omega))
    have T2 := fun w => times_any b f w (by omega) (.inl (by omega))
    have hgt' : (FloatKind.f64.format.order f g == some Ordering.gt) = true := by rw [hgt]; simp; omega
    by_cases h2 : b * VV f / 2 ^ E0 ≤ 1125899906842624
    · rw [tOut_yes h2] at T2
      rw [tOut_yes (Nat.le_trans hq h2)] at T1
      exact grows_01yy a b f g x y _ _ w fx gy (by omega) (by omega) (by omega) hgt' (Int.ofNat_le.2 hq) (Lib.hid RF) (Lib.hid RG) (Lib.hid T1) (Lib.hid T2)
    · rw [tOut_no h2] at T2
      by_cases h1 : a * VV g / 2 ^ E0 ≤ 1125899906842624
      · rw [tOut_yes h1] at T1
        exact grows_01yn a b f g x y _ _ w fx gy (by omega) (by omega) (by omega) hgt' (Int.le_refl _) (Lib.hid RF) (Lib.hid RG) (Lib.hid T1) (Lib.hid T2)
      · rw [tOut_no h1] at T1
        exact grows_01nn a b f g x y 0 0 w fx gy (by omega) (by omega) (by omega) hgt' (by omega) (Lib.hid RF) (Lib.hid RG) (Lib.hid T1) (Lib.hid T2)
  · have hq := q_le (a := a) (b := b) (f := f) (g := g) (by omega) (by omega) (by omega)
    have T1 := fun w => times_any a f w (by omega) (.inl (by omega))
    have T2 := fun w => times_any b g w (by omega) (.inl (by omega))
    have hgt' : (FloatKind.f64.format.order f g == some Ordering.gt) = false := by rw [hgt]; simp; omega
    by_cases h2 : b * VV g / 2 ^ E0 ≤ 1125899906842624
    · rw [tOut_yes h2] at T2
      rw [tOut_yes (Nat.le_trans hq h2)] at T1
      exact grows_00yy a b f g x y _ _ w fx gy (by omega) (by omega) (by omega) hgt' (Int.ofNat_le.2 hq) (Lib.hid RF) (Lib.hid RG) (Lib.hid T1) (Lib.hid T2)
    · rw [tOut_no h2] at T2
      by_cases h1 : a * VV f / 2 ^ E0 ≤ 1125899906842624
      · rw [tOut_yes h1] at T1
        exact grows_00yn a b f g x y _ _ w fx gy (by omega) (by omega) (by omega) hgt' (Int.le_refl _) (Lib.hid RF) (Lib.hid RG) (Lib.hid T1) (Lib.hid T2)
      · rw [tOut_no h1] at T1
        exact grows_00nn a b f g x y 0 0 w fx gy (by omega) (by omega) (by omega) hgt' (by omega) (Lib.hid RF) (Lib.hid RG) (Lib.hid T1) (Lib.hid T2)
  · have hq := q_le (a := b) (b := a) (f := g) (g := f) (by omega) (by omega) (by omega)
    have T1 := fun w => times_any b g w (by omega) (.inl (by omega))
    have T2 := fun w => times_any a f w (by omega) (.inl (by omega))
    have hgt' : (FloatKind.f64.format.order f g == some Ordering.gt) = true := by rw [hgt]; simp; omega
    by_cases h2 : a * VV f / 2 ^ E0 ≤ 1125899906842624
    · rw [tOut_yes h2] at T2
      rw [tOut_yes (Nat.le_trans hq h2)] at T1
      exact grows_11yy a b f g x y _ _ w fx gy (by omega) (by omega) (by omega) hgt' (Int.ofNat_le.2 hq) (Lib.hid RF) (Lib.hid RG) (Lib.hid T1) (Lib.hid T2)
    · rw [tOut_no h2] at T2
      by_cases h1 : b * VV g / 2 ^ E0 ≤ 1125899906842624
      · rw [tOut_yes h1] at T1
        exact grows_11yn a b f g x y _ _ w fx gy (by omega) (by omega) (by omega) hgt' (Int.le_refl _) (Lib.hid RF) (Lib.hid RG) (Lib.hid T1) (Lib.hid T2)
      · rw [tOut_no h1] at T1
        exact grows_11nn a b f g x y 0 0 w fx gy (by omega) (by omega) (by omega) hgt' (by omega) (Lib.hid RF) (Lib.hid RG) (Lib.hid T1) (Lib.hid T2)
  · have hq := q_le (a := b) (b := a) (f := f) (g := g) (by omega) (by omega) (by omega)
    have T1 := fun w => times_any b f w (by omega) (.inl (by omega))
    have T2 := fun w => times_any a g w (by omega) (.inl (by omega))
    have hgt' : (FloatKind.f64.format.order f g == some Ordering.gt) = false := by rw [hgt]; simp; omega
    by_cases h2 : a * VV g / 2 ^ E0 ≤ 1125899906842624
    · rw [tOut_yes h2] at T2
      rw [tOut_yes (Nat.le_trans hq h2)] at T1
      exact grows_10yy a b f g x y _ _ w fx gy (by omega) (by omega) (by omega) hgt' (Int.ofNat_le.2 hq) (Lib.hid RF) (Lib.hid RG) (Lib.hid T1) (Lib.hid T2)
    · rw [tOut_no h2] at T2
      by_cases h1 : b * VV f / 2 ^ E0 ≤ 1125899906842624
      · rw [tOut_yes h1] at T1
        exact grows_10yn a b f g x y _ _ w fx gy (by omega) (by omega) (by omega) hgt' (Int.le_refl _) (Lib.hid RF) (Lib.hid RG) (Lib.hid T1) (Lib.hid T2)
      · rw [tOut_no h1] at T1
        exact grows_10nn a b f g x y 0 0 w fx gy (by omega) (by omega) (by omega) hgt' (by omega) (Lib.hid RF) (Lib.hid RG) (Lib.hid T1) (Lib.hid T2)
end Go.Proofs.Ytmdccmhkllpibaa
