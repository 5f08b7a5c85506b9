import Derived.Test.YtggmfcdhdmfipaaDoorRef
set_option linter.unusedSimpArgs false
set_option linter.unusedVariables false
set_option maxHeartbeats 4000000
namespace Go.Proofs.YtggmfcdhdmfipaaDoor
open Go.RowKit
theorem rhear0_1 (sub no due am us tr nx td : Int) (g over : Bool) (w : World) : Calls Tryd.prog 10 #[.int .i64 sub, cyV no due 1 am us tr nx g, ntV 1 sub no tr am 0, .int .i64 td, .bool over] w fun e w' => e = .returned (.tuple #[cyV no due 1 am us tr nx g, .bool false]) ∧ Below w.heap.size w w' := by
  go_enter Tryd.func10, Tryd.ntmps10
  go_wp2_with (first | (go_at_call 18; refine (rasks1 _ _ _ _ _ _ _ _ _).mono ?_; rintro e w1 ⟨rfl, hb⟩; obtain ⟨l1, d1, rfl⟩ := swell_of_below hb; clear hb))
  exact bodyPost_ret (v := .tuple #[cyV no due 1 am us tr nx g, .bool false]) (by simp [results, Tryd.results10, go_sem]) rfl ⟨rfl, by repeat (first | exact Below.refl _ _ | apply bl_alloc | apply bl_swell | apply bl_drewN | apply Below.drew)⟩
theorem hear0_1 (sub no due am us tr nx td : Int) (g over : Bool) (w : World) : Calls Tryd.prog 9 #[.int .i64 sub, cyV no due 1 am us tr nx g, ntV 1 sub no tr am 0, .int .i64 td, .bool over] w fun e w' => e = .returned (.tuple #[cyV no due 1 am us tr nx g, .int .i64 10]) ∧ Below w.heap.size w w' :=
  hear_ask sub no due 1 am us tr nx td g over w (by simp)
theorem rhear0_3 (sub no due am us tr nx td : Int) (g over : Bool) (w : World) : Calls Tryd.prog 10 #[.int .i64 sub, cyV no due 3 am us tr nx g, ntV 3 sub no 0 0 0, .int .i64 td, .bool over] w fun e w' => e = .returned (.tuple #[cyV no due 3 am us tr nx g, .bool false]) ∧ Below w.heap.size w w' := by
  go_enter Tryd.func10, Tryd.ntmps10
  go_wp2_with (first | (go_at_call 18; refine (rasks3 _ _ _ _ _ _ _ _ _).mono ?_; rintro e w1 ⟨rfl, hb⟩; obtain ⟨l1, d1, rfl⟩ := swell_of_below hb; clear hb))
  exact bodyPost_ret (v := .tuple #[cyV no due 3 am us tr nx g, .bool false]) (by simp [results, Tryd.results10, go_sem]) rfl ⟨rfl, by repeat (first | exact Below.refl _ _ | apply bl_alloc | apply bl_swell | apply bl_drewN | apply Below.drew)⟩
theorem hear0_3 (sub no due am us tr nx td : Int) (g over : Bool) (w : World) : Calls Tryd.prog 9 #[.int .i64 sub, cyV no due 3 am us tr nx g, ntV 3 sub no 0 0 0, .int .i64 td, .bool over] w fun e w' => e = .returned (.tuple #[cyV no due 3 am us tr nx g, .int .i64 10]) ∧ Below w.heap.size w w' :=
  hear_ask sub no due 3 am us tr nx td g over w (by simp)
theorem rhear0_4 (sub no due am us tr nx td : Int) (g over : Bool) (w : World) : Calls Tryd.prog 10 #[.int .i64 sub, cyV no due 4 am us tr nx g, ntV 5 sub no 0 0 0, .int .i64 td, .bool over] w fun e w' => e = .returned (.tuple #[cyV no due 4 am us tr nx g, .bool false]) ∧ Below w.heap.size w w' := by
  go_enter Tryd.func10, Tryd.ntmps10
  go_wp2_with (first | (go_at_call 18; refine (rasks4 _ _ _ _ _ _ _ _ _).mono ?_; rintro e w1 ⟨rfl, hb⟩; obtain ⟨l1, d1, rfl⟩ := swell_of_below hb; clear hb))
  exact bodyPost_ret (v := .tuple #[cyV no due 4 am us tr nx g, .bool false]) (by simp [results, Tryd.results10, go_sem]) rfl ⟨rfl, by repeat (first | exact Below.refl _ _ | apply bl_alloc | apply bl_swell | apply bl_drewN | apply Below.drew)⟩
theorem hear0_4 (sub no due am us tr nx td : Int) (g over : Bool) (w : World) : Calls Tryd.prog 9 #[.int .i64 sub, cyV no due 4 am us tr nx g, ntV 5 sub no 0 0 0, .int .i64 td, .bool over] w fun e w' => e = .returned (.tuple #[cyV no due 4 am us tr nx g, .int .i64 10]) ∧ Below w.heap.size w w' :=
  hear_ask sub no due 4 am us tr nx td g over w (by simp)
theorem rhear0_5 (sub no due am us tr nx td : Int) (g over : Bool) (w : World) : Calls Tryd.prog 10 #[.int .i64 sub, cyV no due 5 am us tr nx g, ntV 4 sub no 0 0 0, .int .i64 td, .bool over] w fun e w' => e = .returned (.tuple #[cyV no due 5 am us tr nx g, .bool false]) ∧ Below w.heap.size w w' := by
  go_enter Tryd.func10, Tryd.ntmps10
  go_wp2_with (first | (go_at_call 18; refine (rasks5 _ _ _ _ _ _ _ _ _).mono ?_; rintro e w1 ⟨rfl, hb⟩; obtain ⟨l1, d1, rfl⟩ := swell_of_below hb; clear hb))
  exact bodyPost_ret (v := .tuple #[cyV no due 5 am us tr nx g, .bool false]) (by simp [results, Tryd.results10, go_sem]) rfl ⟨rfl, by repeat (first | exact Below.refl _ _ | apply bl_alloc | apply bl_swell | apply bl_drewN | apply Below.drew)⟩
theorem hear0_5 (sub no due am us tr nx td : Int) (g over : Bool) (w : World) : Calls Tryd.prog 9 #[.int .i64 sub, cyV no due 5 am us tr nx g, ntV 4 sub no 0 0 0, .int .i64 td, .bool over] w fun e w' => e = .returned (.tuple #[cyV no due 5 am us tr nx g, .int .i64 10]) ∧ Below w.heap.size w w' :=
  hear_ask sub no due 5 am us tr nx td g over w (by simp)
theorem rhear0_6 (sub no due am us tr nx td : Int) (g over : Bool) (w : World) : Calls Tryd.prog 10 #[.int .i64 sub, cyV no due 6 am us tr nx g, ntV 2 sub no 0 am 0, .int .i64 td, .bool over] w fun e w' => e = .returned (.tuple #[cyV no due 6 am us tr nx g, .bool false]) ∧ Below w.heap.size w w' := by
  go_enter Tryd.func10, Tryd.ntmps10
  go_wp2_with (first | (go_at_call 18; refine (rasks6 _ _ _ _ _ _ _ _ _).mono ?_; rintro e w1 ⟨rfl, hb⟩; obtain ⟨l1, d1, rfl⟩ := swell_of_below hb; clear hb))
  exact bodyPost_ret (v := .tuple #[cyV no due 6 am us tr nx g, .bool false]) (by simp [results, Tryd.results10, go_sem]) rfl ⟨rfl, by repeat (first | exact Below.refl _ _ | apply bl_alloc | apply bl_swell | apply bl_drewN | apply Below.drew)⟩
theorem hear0_6 (sub no due am us tr nx td : Int) (g over : Bool) (w : World) : Calls Tryd.prog 9 #[.int .i64 sub, cyV no due 6 am us tr nx g, ntV 2 sub no 0 am 0, .int .i64 td, .bool over] w fun e w' => e = .returned (.tuple #[cyV no due 6 am us tr nx g, .int .i64 10]) ∧ Below w.heap.size w w' :=
  hear_ask sub no due 6 am us tr nx td g over w (by simp)
theorem hear1yo (sub no due am us nx td : Int) (tr : Int) (g : Bool) (w : World) (hl : Lad w) (ht : 1 ≤ tr) : Calls Tryd.prog 9 #[.int .i64 sub, cyV no due 1 am us tr nx g, ntV 1 sub no tr am 1, .int .i64 td, .bool true] w fun e w' => e = .returned (.tuple #[cyV no due (backPh am) am us tr nx g, .int .i64 0]) ∧ Below w.heap.size w w' := by
  have h := hear1 sub no due am us tr nx td 1 g true w hl ht (by decide)
  rw [show chPh am tr 1 g true = backPh am by simp [chPh, paidPh], show chNx tr nx 1 td true = nx by simp [chNx]] at h
  exact h
theorem hear1yg (sub no due am us nx td : Int) (tr : Int) (w : World) (hl : Lad w) (ht : 1 ≤ tr) : Calls Tryd.prog 9 #[.int .i64 sub, cyV no due 1 am us tr nx true, ntV 1 sub no tr am 1, .int .i64 td, .bool false] w fun e w' => e = .returned (.tuple #[cyV no due 3 am us tr nx true, .int .i64 0]) ∧ Below w.heap.size w w' := by
  have h := hear1 sub no due am us tr nx td 1 true false w hl ht (by decide)
  rw [show chPh am tr 1 true false = 3 by simp [chPh, paidPh], show chNx tr nx 1 td false = nx by simp [chNx]] at h
  exact h
theorem hear1yn (sub no due am us nx td : Int) (tr : Int) (w : World) (hl : Lad w) (ht : 1 ≤ tr) : Calls Tryd.prog 9 #[.int .i64 sub, cyV no due 1 am us tr nx false, ntV 1 sub no tr am 1, .int .i64 td, .bool false] w fun e w' => e = .returned (.tuple #[cyV no due 7 am us tr nx false, .int .i64 0]) ∧ Below w.heap.size w w' := by
  have h := hear1 sub no due am us tr nx td 1 false false w hl ht (by decide)
  rw [show chPh am tr 1 false false = 7 by simp [chPh, paidPh], show chNx tr nx 1 td false = nx by simp [chNx]] at h
  exact h
theorem hear1no (sub no due am us nx td : Int) (tr : Int) (v : Int) (g : Bool) (over : Bool) (w : World) (hl : Lad w) (ht : 1 ≤ tr) (h0 : (v == 0) = false) (h1 : (v == 1) = false) (h2 : (v == 2) = false) : Calls Tryd.prog 9 #[.int .i64 sub, cyV no due 1 am us tr nx g, ntV 1 sub no tr am v, .int .i64 td, .bool over] w fun e w' => e = .returned (.tuple #[cyV no due 8 am us tr nx g, .int .i64 0]) ∧ Below w.heap.size w w' := by
  have h := hear1 sub no due am us tr nx td v g over w hl ht h0
  rw [show chPh am tr v g over = 8 by simp at h1 h2; simp [chPh, h1, h2], show chNx tr nx v td over = nx by simp at h2; simp [chNx, h2]] at h
  exact h
theorem hear1so (sub no due am us nx td : Int) (tr : Int) (g : Bool) (w : World) (hl : Lad w) (ht : 1 ≤ tr) : Calls Tryd.prog 9 #[.int .i64 sub, cyV no due 1 am us tr nx g, ntV 1 sub no tr am 2, .int .i64 td, .bool true] w fun e w' => e = .returned (.tuple #[cyV no due 8 am us tr nx g, .int .i64 0]) ∧ Below w.heap.size w w' := by
  have h := hear1 sub no due am us tr nx td 2 g true w hl ht (by decide)
  rw [show chPh am tr 2 g true = 8 by simp [chPh], show chNx tr nx 2 td true = nx by simp [chNx]] at h
  exact h
theorem hear1s4 (sub no due am us nx td : Int) (tr : Int) (g : Bool) (w : World) (hl : Lad w) (ht : 1 ≤ tr) (h4 : decide (tr ≤ 3) = false) : Calls Tryd.prog 9 #[.int .i64 sub, cyV no due 1 am us tr nx g, ntV 1 sub no tr am 2, .int .i64 td, .bool false] w fun e w' => e = .returned (.tuple #[cyV no due 8 am us tr nx g, .int .i64 0]) ∧ Below w.heap.size w w' := by
  have h := hear1 sub no due am us tr nx td 2 g false w hl ht (by decide)
  rw [show chPh am tr 2 g false = 8 by simp at h4; simp [chPh]; omega, show chNx tr nx 2 td false = nx by simp at h4; simp [chNx]; omega] at h
  exact h
theorem hear1s1 (sub no due am us nx td : Int) (g : Bool) (w : World) (hl : Lad w) : Calls Tryd.prog 9 #[.int .i64 sub, cyV no due 1 am us 1 nx g, ntV 1 sub no 1 am 2, .int .i64 td, .bool false] w fun e w' => e = .returned (.tuple #[cyV no due 2 am us 1 (wrap64 (td + 1)) g, .int .i64 0]) ∧ Below w.heap.size w w' := by
  have h := hear1 sub no due am us 1 nx td 2 g false w hl (by decide) (by decide)
  rw [show chPh am 1 2 g false = 2 by simp [chPh], show chNx 1 nx 2 td false = wrap64 (td + 1) by simp [chNx, ladD]] at h
  exact h
theorem hear1s2 (sub no due am us nx td : Int) (g : Bool) (w : World) (hl : Lad w) : Calls Tryd.prog 9 #[.int .i64 sub, cyV no due 1 am us 2 nx g, ntV 1 sub no 2 am 2, .int .i64 td, .bool false] w fun e w' => e = .returned (.tuple #[cyV no due 2 am us 2 (wrap64 (td + 3)) g, .int .i64 0]) ∧ Below w.heap.size w w' := by
  have h := hear1 sub no due am us 2 nx td 2 g false w hl (by decide) (by decide)
  rw [show chPh am 2 2 g false = 2 by simp [chPh], show chNx 2 nx 2 td false = wrap64 (td + 3) by simp [chNx, ladD]] at h
  exact h
theorem hear1s3 (sub no due am us nx td : Int) (g : Bool) (w : World) (hl : Lad w) : Calls Tryd.prog 9 #[.int .i64 sub, cyV no due 1 am us 3 nx g, ntV 1 sub no 3 am 2, .int .i64 td, .bool false] w fun e w' => e = .returned (.tuple #[cyV no due 2 am us 3 (wrap64 (td + 7)) g, .int .i64 0]) ∧ Below w.heap.size w w' := by
  have h := hear1 sub no due am us 3 nx td 2 g false w hl (by decide) (by decide)
  rw [show chPh am 3 2 g false = 2 by simp [chPh], show chNx 3 nx 2 td false = wrap64 (td + 7) by simp [chNx, ladD]] at h
  exact h
end Go.Proofs.YtggmfcdhdmfipaaDoor
