import Derived.Test.YtmdccmhkllpibaaL1
set_option linter.unusedSimpArgs false
set_option linter.unusedVariables false
set_option maxHeartbeats 4000000
set_option maxRecDepth 100000
namespace Go.Proofs.Ytmdccmhkllpibaa
open Go.RowKit Go.Fl
theorem rights_no (b : Nat) (a : Int) (w : World) (hb : b < 18446744073709551616) (h : rightB b = false) : Calls Try.prog 3 #[.int .u64 b, .int .i64 a] w fun e w' => e = .returned (.bool true) ∧ w' = w := by
  have hL := Lib.hid (lright b · hb)
  have hR := Lib.hid (rright_any b)
  have hT := Lib.hid (times_notright a b · h)
  rw [h] at hL hR
  clear h
  go_enter Try.func3, Try.ntmps3
  go_wp2_with (first | (go_at_call 12; refine (awake_ok _).mono ?_; rintro e w1 ⟨rfl, rfl⟩) | (go_at_call 10; refine (hT.out _).mono ?_; rintro e w1 ⟨rfl, rfl⟩) | (go_at_call 11; refine (hL.out _).mono ?_; rintro e w1 ⟨rfl, rfl⟩) | (go_at_call 13; refine (hR.out _).mono ?_; rintro e w1 ⟨rfl, rfl⟩))
  all_goals go_ret
  all_goals exact ⟨by simp, rfl⟩
theorem rights_neg (b : Nat) (a : Int) (w : World) (hb : b < 18446744073709551616) (h : rightB b = true) (ha : a < 0) : Calls Try.prog 3 #[.int .u64 b, .int .i64 a] w fun e w' => e = .returned (.bool true) ∧ w' = w := by
  have hL := Lib.hid (lright b · hb)
  have hR := Lib.hid (rright_any b)
  have hT := Lib.hid (times_neg a b · h ha)
  rw [h] at hL hR
  clear h
  go_enter Try.func3, Try.ntmps3
  go_wp2_with (first | (go_at_call 12; refine (awake_ok _).mono ?_; rintro e w1 ⟨rfl, rfl⟩) | (go_at_call 10; refine (hT.out _).mono ?_; rintro e w1 ⟨rfl, rfl⟩) | (go_at_call 11; refine (hL.out _).mono ?_; rintro e w1 ⟨rfl, rfl⟩) | (go_at_call 13; refine (hR.out _).mono ?_; rintro e w1 ⟨rfl, rfl⟩))
  all_goals go_ret
  all_goals exact ⟨by simp, rfl⟩
theorem rights_much (b : Nat) (a : Int) (w : World) (hb : b < 18446744073709551616) (h : rightB b = true) (ha : 1125899906842624 < a) : Calls Try.prog 3 #[.int .u64 b, .int .i64 a] w fun e w' => e = .returned (.bool true) ∧ w' = w := by
  have hL := Lib.hid (lright b · hb)
  have hR := Lib.hid (rright_any b)
  have hT := Lib.hid (times_much a b · h (by omega) ha)
  rw [h] at hL hR
  clear h
  go_enter Try.func3, Try.ntmps3
  go_wp2_with (first | (go_at_call 12; refine (awake_ok _).mono ?_; rintro e w1 ⟨rfl, rfl⟩) | (go_at_call 10; refine (hT.out _).mono ?_; rintro e w1 ⟨rfl, rfl⟩) | (go_at_call 11; refine (hL.out _).mono ?_; rintro e w1 ⟨rfl, rfl⟩) | (go_at_call 13; refine (hR.out _).mono ?_; rintro e w1 ⟨rfl, rfl⟩))
  all_goals go_ret
  all_goals exact ⟨by simp, rfl⟩
theorem tOut_yes {a b : Nat} (h : a * VV b / 2 ^ E0 ≤ 1125899906842624) : tOut a b = .tuple #[.int .i64 ((a * VV b / 2 ^ E0 : Nat) : Int), .int .i64 0] := by unfold tOut; rw [if_pos h]
theorem tOut_no {a b : Nat} (h : ¬ a * VV b / 2 ^ E0 ≤ 1125899906842624) : tOut a b = .tuple #[.int .i64 0, .int .i64 9] := by unfold tOut; rw [if_neg h]
theorem rights_yes (b a : Nat) (w : World) (hb : b < 18446744073709551616) (h : rightB b = true) (ha : a ≤ 1125899906842624) (hq : a * VV b / 2 ^ E0 ≤ 1125899906842624) : Calls Try.prog 3 #[.int .u64 b, .int .i64 a] w fun e w' => e = .returned (.bool true) ∧ w' = w := by
  have hL := Lib.hid (lright b · hb)
  have hR := Lib.hid (rright_any b)
  have hT := Lib.hid (times_any a b · ha (rightB_only hb h))
  rw [tOut_yes hq] at hT
  rw [h] at hL hR
  have ha0 : (0 : Int) ≤ (a : Int) := by omega
  have ha1 : (a : Int) ≤ 1125899906842624 := by omega
  generalize a * VV b / 2 ^ E0 = q at *
  have q0 : (0 : Int) ≤ (q : Int) := by omega
  have q1 : (q : Int) ≤ 1125899906842624 := by omega
  clear h hq
  go_enter Try.func3, Try.ntmps3
  go_wp2_with (first | (go_at_call 12; refine (awake_ok _).mono ?_; rintro e w1 ⟨rfl, rfl⟩) | (go_at_call 10; refine (hT.out _).mono ?_; rintro e w1 ⟨rfl, rfl⟩) | (go_at_call 11; refine (hL.out _).mono ?_; rintro e w1 ⟨rfl, rfl⟩) | (go_at_call 13; refine (hR.out _).mono ?_; rintro e w1 ⟨rfl, rfl⟩))
  all_goals go_ret
  all_goals exact ⟨by simp, rfl⟩
theorem rights_over (b a : Nat) (w : World) (hb : b < 18446744073709551616) (h : rightB b = true) (ha : a ≤ 1125899906842624) (hq : ¬ a * VV b / 2 ^ E0 ≤ 1125899906842624) : Calls Try.prog 3 #[.int .u64 b, .int .i64 a] w fun e w' => e = .returned (.bool true) ∧ w' = w := by
  have hL := Lib.hid (lright b · hb)
  have hR := Lib.hid (rright_any b)
  have hT := Lib.hid (times_any a b · ha (rightB_only hb h))
  rw [tOut_no hq] at hT
  rw [h] at hL hR
  have ha0 : (0 : Int) ≤ (a : Int) := by omega
  have ha1 : (a : Int) ≤ 1125899906842624 := by omega
  generalize a * VV b / 2 ^ E0 = q at *
  have q0 : (0 : Int) ≤ (q : Int) := by omega
  skip
  clear h hq
  go_enter Try.func3, Try.ntmps3
  go_wp2_with (first | (go_at_call 12; refine (awake_ok _).mono ?_; rintro e w1 ⟨rfl, rfl⟩) | (go_at_call 10; refine (hT.out _).mono ?_; rintro e w1 ⟨rfl, rfl⟩) | (go_at_call 11; refine (hL.out _).mono ?_; rintro e w1 ⟨rfl, rfl⟩) | (go_at_call 13; refine (hR.out _).mono ?_; rintro e w1 ⟨rfl, rfl⟩))
  all_goals go_ret
  all_goals exact ⟨by simp, rfl⟩
theorem rights_law (b : Nat) (a : Int) (w : World) (hb : b < 18446744073709551616) : Calls Try.prog 3 #[.int .u64 b, .int .i64 a] w fun e w' => e = .returned (.bool true) ∧ w' = w := by
  rcases h : rightB b
  · exact rights_no b a w hb h
  · by_cases h0 : a < 0
    · exact rights_neg b a w hb h h0
    · by_cases h1 : 1125899906842624 < a
      · exact rights_much b a w hb h h1
      · obtain ⟨n, rfl⟩ := Int.eq_ofNat_of_zero_le (show 0 ≤ a by omega)
        by_cases hq : n * VV b / 2 ^ E0 ≤ 1125899906842624
        · exact rights_yes b n w hb h (by omega) hq
        · exact rights_over b n w hb h (by omega) hq
end Go.Proofs.Ytmdccmhkllpibaa
