import Derived.Test.YtggmfcdhdmfipaaDoorHear
set_option linter.unusedSimpArgs false
set_option linter.unusedVariables false
set_option maxHeartbeats 4000000
namespace Go.Proofs.YtggmfcdhdmfipaaDoor
open Go.RowKit
theorem begin1 (no due am us : Int) (g : Bool) (w : World) (h : (am == 0) = false) : Calls Tryd.prog 11 #[.int .i64 no, .int .i64 due, .int .i64 am, .int .i64 us, .bool g] w fun e w' => e = .returned (cyV no due 1 am us 1 0 g) ∧ Below w.heap.size w w' := by
  go_enter Tryd.func11, Tryd.ntmps11
  go_wp2
  exact bodyPost_ret (v := cyV no due 1 am us 1 0 g) (by simp [results, Tryd.results11, go_sem]) rfl ⟨rfl, by repeat (first | exact Below.refl _ _ | apply bl_alloc | apply bl_swell | apply bl_drewN)⟩
theorem begin0 (no due us : Int) (g : Bool) (w : World) : Calls Tryd.prog 11 #[.int .i64 no, .int .i64 due, .int .i64 0, .int .i64 us, .bool g] w fun e w' => e = .returned (cyV no due (paidPh 0 g false) 0 us 0 0 g) ∧ Below w.heap.size w w' := by
  go_enter Tryd.func11, Tryd.ntmps11
  go_wp2_with (go_at_call 21; refine (paid_any _ _ _ _ _ _ _ _ _ _).mono ?_; rintro e w1 ⟨rfl, hb⟩; obtain ⟨l1, d1, rfl⟩ := swell_of_below hb; clear hb)
  exact bodyPost_ret (v := cyV no due (paidPh 0 g false) 0 us 0 0 g) (by simp [results, Tryd.results11, go_sem]) rfl ⟨rfl, by repeat (first | exact Below.refl _ _ | apply bl_alloc | apply bl_swell | apply bl_drewN)⟩
theorem ended_any (no due ph am us tr nx : Int) (g : Bool) (w : World) : Calls Tryd.prog 12 #[cyV no due ph am us tr nx g] w fun e w' => e = .returned (.bool (decide (7 ≤ ph))) ∧ Below w.heap.size w w' := by
  go_enter Tryd.func12, Tryd.ntmps12
  go_wp2
  go_ret
  exact ⟨rfl, by repeat (first | exact Below.refl _ _ | apply bl_alloc | apply bl_swell | apply bl_drewN)⟩
theorem hearA1 (w : World) (hl : Lad w) : Calls Tryd.prog 9 #[.int .i64 1, cyV 0 5 1 100 0 1 0 true, ntV 1 1 0 1 100 1, .int .i64 5, .bool false] w fun e w' => e = .returned (.tuple #[cyV 0 5 3 100 0 1 0 true, .int .i64 0]) ∧ Below w.heap.size w w' :=
  hear1 1 0 5 100 0 1 0 5 1 true false w hl (by decide) (by decide)
theorem awake_ok (w : World) (hl : Lad w) : Calls Tryd.prog 8 #[] w fun e w' => e = .returned (.bool true) ∧ Below w.heap.size w w' := by
  go_enter Tryd.func8, Tryd.ntmps8
  go_wp2_with (go_at_call 11; refine (begin1 _ _ _ _ _ _ (by decide)).mono ?_; rintro e w1 ⟨rfl, hb⟩; obtain ⟨l1, d1, rfl⟩ := swell_of_below hb; clear hb)
  refine wp_loop_rounds 4 ?_
  rw [rounds_succ]
  go_wp2_with (first | (go_at_call 7; refine (asks1 _ _ _ _ _ _ _ _ _).mono ?_; rintro e w1 ⟨rfl, hb⟩; obtain ⟨l2, d2, rfl⟩ := swell_of_below hb; clear hb) | (go_at_call 9; refine (hearA1 _ ?hl).mono ?_; (case hl => exact hl.of (by repeat (first | exact Below.refl _ _ | apply bl_alloc | apply bl_swell | apply bl_drewN))); rintro e w1 ⟨rfl, hb⟩; obtain ⟨l3, d3, rfl⟩ := swell_of_below hb; clear hb))
  rw [rounds_succ]
  go_wp2_with (first | (go_at_call 7; refine (asks3 _ _ _ _ _ _ _ _ _).mono ?_; rintro e w1 ⟨rfl, hb⟩; obtain ⟨l4, d4, rfl⟩ := swell_of_below hb; clear hb) | (go_at_call 9; refine (hear3y _ _ _ _ _ _ _ _ _ _).mono ?_; rintro e w1 ⟨rfl, hb⟩; obtain ⟨l5, d5, rfl⟩ := swell_of_below hb; clear hb))
  rw [rounds_succ]
  go_wp2_with (first | (go_at_call 7; refine (asks4 _ _ _ _ _ _ _ _ _).mono ?_; rintro e w1 ⟨rfl, hb⟩; obtain ⟨l6, d6, rfl⟩ := swell_of_below hb; clear hb) | (go_at_call 9; refine (hear4y _ _ _ _ _ _ _ _ _ _ _).mono ?_; rintro e w1 ⟨rfl, hb⟩; obtain ⟨l7, d7, rfl⟩ := swell_of_below hb; clear hb))
  rw [rounds_succ]
  go_wp2_with (first | (go_at_call 12; refine (ended_any _ _ _ _ _ _ _ _ _).mono ?_; rintro e w1 ⟨rfl, hb⟩; obtain ⟨l8, d8, rfl⟩ := swell_of_below hb; clear hb) | (go_at_call 15; refine (tries_any _).mono ?_; rintro e w1 ⟨rfl, rfl⟩))
  go_ret
  exact ⟨rfl, by repeat (first | exact Below.refl _ _ | apply bl_alloc | apply bl_swell | apply bl_drewN)⟩
end Go.Proofs.YtggmfcdhdmfipaaDoor
