import Derived.Test.YtggmfcdhdmfipaaDoorAwake
set_option linter.unusedSimpArgs false
set_option linter.unusedVariables false
set_option maxHeartbeats 4000000
namespace Go.Proofs.YtggmfcdhdmfipaaDoor
open Go.RowKit
theorem name0 (w : World) : Calls Tryd.prog 14 #[.int .u8 0] w fun e w' => e = .returned (.string ⟨#[]⟩) ∧ Below w.heap.size w w' := by
  go_enter Tryd.func14, Tryd.ntmps14
  go_wp2
  go_ret
  exact ⟨rfl, by repeat (first | exact Below.refl _ _ | apply bl_alloc | apply bl_swell | apply bl_drewN)⟩
theorem names0 (w : World) (hl : Lad w) : Calls Tryd.prog 5 #[.int .u8 0] w fun e w' => e = .returned (.bool true) ∧ Below w.heap.size w w' := by
  go_enter Tryd.func5, Tryd.ntmps5
  go_wp2_with (first | (go_at_call 8; refine (awake_ok _ ?hl).mono ?_; (case hl => exact hl.of (by repeat (first | exact Below.refl _ _ | apply bl_alloc | apply bl_swell | apply bl_drewN))); rintro e w1 ⟨rfl, hb⟩; obtain ⟨l3, d3, rfl⟩ := swell_of_below hb; clear hb) | (go_at_call 14; refine (name0 _).mono ?_; rintro e w1 ⟨rfl, hb⟩; obtain ⟨l4, d4, rfl⟩ := swell_of_below hb; clear hb))
  go_ret
  exact ⟨by first | rfl | (simp; rfl) | (simp; decide), by repeat (first | exact Below.refl _ _ | apply bl_alloc | apply bl_swell | apply bl_drewN)⟩
theorem name1 (w : World) : Calls Tryd.prog 14 #[.int .u8 1] w fun e w' => e = .returned (.string ⟨#[99, 104, 97, 114, 103, 105, 110, 103]⟩) ∧ Below w.heap.size w w' := by
  go_enter Tryd.func14, Tryd.ntmps14
  go_wp2
  go_ret
  exact ⟨rfl, by repeat (first | exact Below.refl _ _ | apply bl_alloc | apply bl_swell | apply bl_drewN)⟩
theorem names1 (w : World) (hl : Lad w) : Calls Tryd.prog 5 #[.int .u8 1] w fun e w' => e = .returned (.bool true) ∧ Below w.heap.size w w' := by
  go_enter Tryd.func5, Tryd.ntmps5
  go_wp2_with (first | (go_at_call 8; refine (awake_ok _ ?hl).mono ?_; (case hl => exact hl.of (by repeat (first | exact Below.refl _ _ | apply bl_alloc | apply bl_swell | apply bl_drewN))); rintro e w1 ⟨rfl, hb⟩; obtain ⟨l3, d3, rfl⟩ := swell_of_below hb; clear hb) | (go_at_call 14; refine (name1 _).mono ?_; rintro e w1 ⟨rfl, hb⟩; obtain ⟨l4, d4, rfl⟩ := swell_of_below hb; clear hb))
  go_ret
  exact ⟨by first | rfl | (simp; rfl) | (simp; decide), by repeat (first | exact Below.refl _ _ | apply bl_alloc | apply bl_swell | apply bl_drewN)⟩
theorem name2 (w : World) : Calls Tryd.prog 14 #[.int .u8 2] w fun e w' => e = .returned (.string ⟨#[119, 97, 105, 116, 105, 110, 103]⟩) ∧ Below w.heap.size w w' := by
  go_enter Tryd.func14, Tryd.ntmps14
  go_wp2
  go_ret
  exact ⟨rfl, by repeat (first | exact Below.refl _ _ | apply bl_alloc | apply bl_swell | apply bl_drewN)⟩
theorem names2 (w : World) (hl : Lad w) : Calls Tryd.prog 5 #[.int .u8 2] w fun e w' => e = .returned (.bool true) ∧ Below w.heap.size w w' := by
  go_enter Tryd.func5, Tryd.ntmps5
  go_wp2_with (first | (go_at_call 8; refine (awake_ok _ ?hl).mono ?_; (case hl => exact hl.of (by repeat (first | exact Below.refl _ _ | apply bl_alloc | apply bl_swell | apply bl_drewN))); rintro e w1 ⟨rfl, hb⟩; obtain ⟨l3, d3, rfl⟩ := swell_of_below hb; clear hb) | (go_at_call 14; refine (name2 _).mono ?_; rintro e w1 ⟨rfl, hb⟩; obtain ⟨l4, d4, rfl⟩ := swell_of_below hb; clear hb))
  go_ret
  exact ⟨by first | rfl | (simp; rfl) | (simp; decide), by repeat (first | exact Below.refl _ _ | apply bl_alloc | apply bl_swell | apply bl_drewN)⟩
theorem name3 (w : World) : Calls Tryd.prog 14 #[.int .u8 3] w fun e w' => e = .returned (.string ⟨#[97, 108, 108, 111, 99, 97, 116, 105, 110, 103]⟩) ∧ Below w.heap.size w w' := by
  go_enter Tryd.func14, Tryd.ntmps14
  go_wp2
  go_ret
  exact ⟨rfl, by repeat (first | exact Below.refl _ _ | apply bl_alloc | apply bl_swell | apply bl_drewN)⟩
theorem names3 (w : World) (hl : Lad w) : Calls Tryd.prog 5 #[.int .u8 3] w fun e w' => e = .returned (.bool true) ∧ Below w.heap.size w w' := by
  go_enter Tryd.func5, Tryd.ntmps5
  go_wp2_with (first | (go_at_call 8; refine (awake_ok _ ?hl).mono ?_; (case hl => exact hl.of (by repeat (first | exact Below.refl _ _ | apply bl_alloc | apply bl_swell | apply bl_drewN))); rintro e w1 ⟨rfl, hb⟩; obtain ⟨l3, d3, rfl⟩ := swell_of_below hb; clear hb) | (go_at_call 14; refine (name3 _).mono ?_; rintro e w1 ⟨rfl, hb⟩; obtain ⟨l4, d4, rfl⟩ := swell_of_below hb; clear hb))
  go_ret
  exact ⟨by first | rfl | (simp; rfl) | (simp; decide), by repeat (first | exact Below.refl _ _ | apply bl_alloc | apply bl_swell | apply bl_drewN)⟩
theorem name4 (w : World) : Calls Tryd.prog 14 #[.int .u8 4] w fun e w' => e = .returned (.string ⟨#[115, 104, 105, 112, 112, 105, 110, 103]⟩) ∧ Below w.heap.size w w' := by
  go_enter Tryd.func14, Tryd.ntmps14
  go_wp2
  go_ret
  exact ⟨rfl, by repeat (first | exact Below.refl _ _ | apply bl_alloc | apply bl_swell | apply bl_drewN)⟩
theorem names4 (w : World) (hl : Lad w) : Calls Tryd.prog 5 #[.int .u8 4] w fun e w' => e = .returned (.bool true) ∧ Below w.heap.size w w' := by
  go_enter Tryd.func5, Tryd.ntmps5
  go_wp2_with (first | (go_at_call 8; refine (awake_ok _ ?hl).mono ?_; (case hl => exact hl.of (by repeat (first | exact Below.refl _ _ | apply bl_alloc | apply bl_swell | apply bl_drewN))); rintro e w1 ⟨rfl, hb⟩; obtain ⟨l3, d3, rfl⟩ := swell_of_below hb; clear hb) | (go_at_call 14; refine (name4 _).mono ?_; rintro e w1 ⟨rfl, hb⟩; obtain ⟨l4, d4, rfl⟩ := swell_of_below hb; clear hb))
  go_ret
  exact ⟨by first | rfl | (simp; rfl) | (simp; decide), by repeat (first | exact Below.refl _ _ | apply bl_alloc | apply bl_swell | apply bl_drewN)⟩
theorem name5 (w : World) : Calls Tryd.prog 14 #[.int .u8 5] w fun e w' => e = .returned (.string ⟨#[114, 101, 108, 101, 97, 115, 105, 110, 103]⟩) ∧ Below w.heap.size w w' := by
  go_enter Tryd.func14, Tryd.ntmps14
  go_wp2
  go_ret
  exact ⟨rfl, by repeat (first | exact Below.refl _ _ | apply bl_alloc | apply bl_swell | apply bl_drewN)⟩
theorem names5 (w : World) (hl : Lad w) : Calls Tryd.prog 5 #[.int .u8 5] w fun e w' => e = .returned (.bool true) ∧ Below w.heap.size w w' := by
  go_enter Tryd.func5, Tryd.ntmps5
  go_wp2_with (first | (go_at_call 8; refine (awake_ok _ ?hl).mono ?_; (case hl => exact hl.of (by repeat (first | exact Below.refl _ _ | apply bl_alloc | apply bl_swell | apply bl_drewN))); rintro e w1 ⟨rfl, hb⟩; obtain ⟨l3, d3, rfl⟩ := swell_of_below hb; clear hb) | (go_at_call 14; refine (name5 _).mono ?_; rintro e w1 ⟨rfl, hb⟩; obtain ⟨l4, d4, rfl⟩ := swell_of_below hb; clear hb))
  go_ret
  exact ⟨by first | rfl | (simp; rfl) | (simp; decide), by repeat (first | exact Below.refl _ _ | apply bl_alloc | apply bl_swell | apply bl_drewN)⟩
theorem name6 (w : World) : Calls Tryd.prog 14 #[.int .u8 6] w fun e w' => e = .returned (.string ⟨#[114, 101, 102, 117, 110, 100, 105, 110, 103]⟩) ∧ Below w.heap.size w w' := by
  go_enter Tryd.func14, Tryd.ntmps14
  go_wp2
  go_ret
  exact ⟨rfl, by repeat (first | exact Below.refl _ _ | apply bl_alloc | apply bl_swell | apply bl_drewN)⟩
theorem names6 (w : World) (hl : Lad w) : Calls Tryd.prog 5 #[.int .u8 6] w fun e w' => e = .returned (.bool true) ∧ Below w.heap.size w w' := by
  go_enter Tryd.func5, Tryd.ntmps5
  go_wp2_with (first | (go_at_call 8; refine (awake_ok _ ?hl).mono ?_; (case hl => exact hl.of (by repeat (first | exact Below.refl _ _ | apply bl_alloc | apply bl_swell | apply bl_drewN))); rintro e w1 ⟨rfl, hb⟩; obtain ⟨l3, d3, rfl⟩ := swell_of_below hb; clear hb) | (go_at_call 14; refine (name6 _).mono ?_; rintro e w1 ⟨rfl, hb⟩; obtain ⟨l4, d4, rfl⟩ := swell_of_below hb; clear hb))
  go_ret
  exact ⟨by first | rfl | (simp; rfl) | (simp; decide), by repeat (first | exact Below.refl _ _ | apply bl_alloc | apply bl_swell | apply bl_drewN)⟩
theorem name7 (w : World) : Calls Tryd.prog 14 #[.int .u8 7] w fun e w' => e = .returned (.string ⟨#[100, 111, 110, 101]⟩) ∧ Below w.heap.size w w' := by
  go_enter Tryd.func14, Tryd.ntmps14
  go_wp2
  go_ret
  exact ⟨rfl, by repeat (first | exact Below.refl _ _ | apply bl_alloc | apply bl_swell | apply bl_drewN)⟩
theorem names7 (w : World) (hl : Lad w) : Calls Tryd.prog 5 #[.int .u8 7] w fun e w' => e = .returned (.bool true) ∧ Below w.heap.size w w' := by
  go_enter Tryd.func5, Tryd.ntmps5
  go_wp2_with (first | (go_at_call 8; refine (awake_ok _ ?hl).mono ?_; (case hl => exact hl.of (by repeat (first | exact Below.refl _ _ | apply bl_alloc | apply bl_swell | apply bl_drewN))); rintro e w1 ⟨rfl, hb⟩; obtain ⟨l3, d3, rfl⟩ := swell_of_below hb; clear hb) | (go_at_call 14; refine (name7 _).mono ?_; rintro e w1 ⟨rfl, hb⟩; obtain ⟨l4, d4, rfl⟩ := swell_of_below hb; clear hb))
  go_ret
  exact ⟨by first | rfl | (simp; rfl) | (simp; decide), by repeat (first | exact Below.refl _ _ | apply bl_alloc | apply bl_swell | apply bl_drewN)⟩
theorem name8 (w : World) : Calls Tryd.prog 14 #[.int .u8 8] w fun e w' => e = .returned (.string ⟨#[117, 110, 112, 97, 105, 100]⟩) ∧ Below w.heap.size w w' := by
  go_enter Tryd.func14, Tryd.ntmps14
  go_wp2
  go_ret
  exact ⟨rfl, by repeat (first | exact Below.refl _ _ | apply bl_alloc | apply bl_swell | apply bl_drewN)⟩
theorem names8 (w : World) (hl : Lad w) : Calls Tryd.prog 5 #[.int .u8 8] w fun e w' => e = .returned (.bool true) ∧ Below w.heap.size w w' := by
  go_enter Tryd.func5, Tryd.ntmps5
  go_wp2_with (first | (go_at_call 8; refine (awake_ok _ ?hl).mono ?_; (case hl => exact hl.of (by repeat (first | exact Below.refl _ _ | apply bl_alloc | apply bl_swell | apply bl_drewN))); rintro e w1 ⟨rfl, hb⟩; obtain ⟨l3, d3, rfl⟩ := swell_of_below hb; clear hb) | (go_at_call 14; refine (name8 _).mono ?_; rintro e w1 ⟨rfl, hb⟩; obtain ⟨l4, d4, rfl⟩ := swell_of_below hb; clear hb))
  go_ret
  exact ⟨by first | rfl | (simp; rfl) | (simp; decide), by repeat (first | exact Below.refl _ _ | apply bl_alloc | apply bl_swell | apply bl_drewN)⟩
theorem name9 (w : World) : Calls Tryd.prog 14 #[.int .u8 9] w fun e w' => e = .returned (.string ⟨#[114, 101, 102, 117, 110, 100, 101, 100]⟩) ∧ Below w.heap.size w w' := by
  go_enter Tryd.func14, Tryd.ntmps14
  go_wp2
  go_ret
  exact ⟨rfl, by repeat (first | exact Below.refl _ _ | apply bl_alloc | apply bl_swell | apply bl_drewN)⟩
theorem names9 (w : World) (hl : Lad w) : Calls Tryd.prog 5 #[.int .u8 9] w fun e w' => e = .returned (.bool true) ∧ Below w.heap.size w w' := by
  go_enter Tryd.func5, Tryd.ntmps5
  go_wp2_with (first | (go_at_call 8; refine (awake_ok _ ?hl).mono ?_; (case hl => exact hl.of (by repeat (first | exact Below.refl _ _ | apply bl_alloc | apply bl_swell | apply bl_drewN))); rintro e w1 ⟨rfl, hb⟩; obtain ⟨l3, d3, rfl⟩ := swell_of_below hb; clear hb) | (go_at_call 14; refine (name9 _).mono ?_; rintro e w1 ⟨rfl, hb⟩; obtain ⟨l4, d4, rfl⟩ := swell_of_below hb; clear hb))
  go_ret
  exact ⟨by first | rfl | (simp; rfl) | (simp; decide), by repeat (first | exact Below.refl _ _ | apply bl_alloc | apply bl_swell | apply bl_drewN)⟩
theorem name10 (w : World) : Calls Tryd.prog 14 #[.int .u8 10] w fun e w' => e = .returned (.string ⟨#[115, 107, 105, 112, 112, 101, 100]⟩) ∧ Below w.heap.size w w' := by
  go_enter Tryd.func14, Tryd.ntmps14
  go_wp2
  go_ret
  exact ⟨rfl, by repeat (first | exact Below.refl _ _ | apply bl_alloc | apply bl_swell | apply bl_drewN)⟩
theorem names10 (w : World) (hl : Lad w) : Calls Tryd.prog 5 #[.int .u8 10] w fun e w' => e = .returned (.bool true) ∧ Below w.heap.size w w' := by
  go_enter Tryd.func5, Tryd.ntmps5
  go_wp2_with (first | (go_at_call 8; refine (awake_ok _ ?hl).mono ?_; (case hl => exact hl.of (by repeat (first | exact Below.refl _ _ | apply bl_alloc | apply bl_swell | apply bl_drewN))); rintro e w1 ⟨rfl, hb⟩; obtain ⟨l3, d3, rfl⟩ := swell_of_below hb; clear hb) | (go_at_call 14; refine (name10 _).mono ?_; rintro e w1 ⟨rfl, hb⟩; obtain ⟨l4, d4, rfl⟩ := swell_of_below hb; clear hb))
  go_ret
  exact ⟨by first | rfl | (simp; rfl) | (simp; decide), by repeat (first | exact Below.refl _ _ | apply bl_alloc | apply bl_swell | apply bl_drewN)⟩
theorem nameBig (p : Int) (w : World) (h : 11 ≤ p) (h2 : p ≤ 255) : Calls Tryd.prog 14 #[.int .u8 p] w fun e w' => e = .returned (.string ⟨#[]⟩) ∧ Below w.heap.size w w' := by
  go_enter Tryd.func14, Tryd.ntmps14
  go_wp2
  go_ret
  exact ⟨rfl, by repeat (first | exact Below.refl _ _ | apply bl_alloc | apply bl_swell | apply bl_drewN)⟩
theorem namesBig (p : Int) (w : World) (hl : Lad w) (h : 11 ≤ p) (h2 : p ≤ 255) : Calls Tryd.prog 5 #[.int .u8 p] w fun e w' => e = .returned (.bool true) ∧ Below w.heap.size w w' := by
  go_enter Tryd.func5, Tryd.ntmps5
  go_wp2_with (first | (go_at_call 8; refine (awake_ok _ ?hl).mono ?_; (case hl => exact hl.of (by repeat (first | exact Below.refl _ _ | apply bl_alloc | apply bl_swell | apply bl_drewN))); rintro e w1 ⟨rfl, hb⟩; obtain ⟨l3, d3, rfl⟩ := swell_of_below hb; clear hb) | (go_at_call 14; refine (nameBig _ _ h h2).mono ?_; rintro e w1 ⟨rfl, hb⟩; obtain ⟨l4, d4, rfl⟩ := swell_of_below hb; clear hb))
  go_ret
  exact ⟨by first | rfl | (simp; rfl) | (simp; decide), by repeat (first | exact Below.refl _ _ | apply bl_alloc | apply bl_swell | apply bl_drewN)⟩
theorem names_any (p : Int) (w : World) (hl : Lad w) (h0 : 0 ≤ p) (h2 : p ≤ 255) : Calls Tryd.prog 5 #[.int .u8 p] w fun e w' => e = .returned (.bool true) ∧ Below w.heap.size w w' := by
  by_cases h : 11 ≤ p
  · exact namesBig p w hl h h2
  have : p = 0 ∨ p = 1 ∨ p = 2 ∨ p = 3 ∨ p = 4 ∨ p = 5 ∨ p = 6 ∨ p = 7 ∨ p = 8 ∨ p = 9 ∨ p = 10 := by omega
  rcases this with rfl | rfl | rfl | rfl | rfl | rfl | rfl | rfl | rfl | rfl | rfl
  · exact names0 w hl
  · exact names1 w hl
  · exact names2 w hl
  · exact names3 w hl
  · exact names4 w hl
  · exact names5 w hl
  · exact names6 w hl
  · exact names7 w hl
  · exact names8 w hl
  · exact names9 w hl
  · exact names10 w hl
end Go.Proofs.YtggmfcdhdmfipaaDoor
