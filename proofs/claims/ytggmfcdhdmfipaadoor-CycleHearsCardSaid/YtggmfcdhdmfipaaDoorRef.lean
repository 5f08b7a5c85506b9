import Derived.Test.YtggmfcdhdmfipaaDoorAwake
import Derived.Deep.RegionHeld3
import Derived.Deep.RegionWith
set_option linter.unusedSimpArgs false
set_option linter.unusedVariables false
set_option maxHeartbeats 4000000
namespace Go.Proofs.YtggmfcdhdmfipaaDoor
open Go.RowKit
theorem kind1 (w : World) : Calls Tryd.prog 22 #[.int .u8 1] w fun e w' => e = .returned (.int .u8 1) ∧ w' = w := by
  go_enter Tryd.func22, Tryd.ntmps22
  go_wp2
  go_ret
  exact ⟨rfl, rfl⟩
theorem rasks1 (sub no due am us tr nx : Int) (g : Bool) (w : World) : Calls Tryd.prog 18 #[.int .i64 sub, cyV no due 1 am us tr nx g] w fun e w' => e = .returned (.tuple #[ntV 1 sub no tr am 0, .bool true]) ∧ Below w.heap.size w w' := by
  go_enter Tryd.func18, Tryd.ntmps18
  go_wp2_with fail
  go_region_held3 (fun w' => w'.cell? ⟨w.heap.size, 2, none⟩ = some (.int .u8 1) ∧ w'.cell? ⟨w.heap.size, 0, none⟩ = some (.int .i64 no)) (first | go_keep) (first | (go_at_call 22; refine (kind1 _).mono ?_; rintro e w1 ⟨rfl, rfl⟩))
  all_goals go_wp2
  all_goals exact bodyPost_ret (v := .tuple #[ntV 1 sub no tr am 0, .bool true]) (by simp [results, Tryd.results18, go_sem]) rfl ⟨rfl, by repeat (first | exact Below.refl _ _ | apply bl_alloc | apply bl_swell | apply bl_drewN | apply Below.drew)⟩
theorem kind3 (w : World) : Calls Tryd.prog 22 #[.int .u8 3] w fun e w' => e = .returned (.int .u8 3) ∧ w' = w := by
  go_enter Tryd.func22, Tryd.ntmps22
  go_wp2
  go_ret
  exact ⟨rfl, rfl⟩
theorem rasks3 (sub no due am us tr nx : Int) (g : Bool) (w : World) : Calls Tryd.prog 18 #[.int .i64 sub, cyV no due 3 am us tr nx g] w fun e w' => e = .returned (.tuple #[ntV 3 sub no 0 0 0, .bool true]) ∧ Below w.heap.size w w' := by
  go_enter Tryd.func18, Tryd.ntmps18
  go_wp2_with fail
  go_region_held3 (fun w' => w'.cell? ⟨w.heap.size, 2, none⟩ = some (.int .u8 3) ∧ w'.cell? ⟨w.heap.size, 0, none⟩ = some (.int .i64 no)) (first | go_keep) (first | (go_at_call 22; refine (kind3 _).mono ?_; rintro e w1 ⟨rfl, rfl⟩))
  all_goals go_wp2
  all_goals exact bodyPost_ret (v := .tuple #[ntV 3 sub no 0 0 0, .bool true]) (by simp [results, Tryd.results18, go_sem]) rfl ⟨rfl, by repeat (first | exact Below.refl _ _ | apply bl_alloc | apply bl_swell | apply bl_drewN | apply Below.drew)⟩
theorem kind4 (w : World) : Calls Tryd.prog 22 #[.int .u8 4] w fun e w' => e = .returned (.int .u8 5) ∧ w' = w := by
  go_enter Tryd.func22, Tryd.ntmps22
  go_wp2
  go_ret
  exact ⟨rfl, rfl⟩
theorem rasks4 (sub no due am us tr nx : Int) (g : Bool) (w : World) : Calls Tryd.prog 18 #[.int .i64 sub, cyV no due 4 am us tr nx g] w fun e w' => e = .returned (.tuple #[ntV 5 sub no 0 0 0, .bool true]) ∧ Below w.heap.size w w' := by
  go_enter Tryd.func18, Tryd.ntmps18
  go_wp2_with fail
  go_region_held3 (fun w' => w'.cell? ⟨w.heap.size, 2, none⟩ = some (.int .u8 4) ∧ w'.cell? ⟨w.heap.size, 0, none⟩ = some (.int .i64 no)) (first | go_keep) (first | (go_at_call 22; refine (kind4 _).mono ?_; rintro e w1 ⟨rfl, rfl⟩))
  all_goals go_wp2
  all_goals exact bodyPost_ret (v := .tuple #[ntV 5 sub no 0 0 0, .bool true]) (by simp [results, Tryd.results18, go_sem]) rfl ⟨rfl, by repeat (first | exact Below.refl _ _ | apply bl_alloc | apply bl_swell | apply bl_drewN | apply Below.drew)⟩
theorem kind5 (w : World) : Calls Tryd.prog 22 #[.int .u8 5] w fun e w' => e = .returned (.int .u8 4) ∧ w' = w := by
  go_enter Tryd.func22, Tryd.ntmps22
  go_wp2
  go_ret
  exact ⟨rfl, rfl⟩
theorem rasks5 (sub no due am us tr nx : Int) (g : Bool) (w : World) : Calls Tryd.prog 18 #[.int .i64 sub, cyV no due 5 am us tr nx g] w fun e w' => e = .returned (.tuple #[ntV 4 sub no 0 0 0, .bool true]) ∧ Below w.heap.size w w' := by
  go_enter Tryd.func18, Tryd.ntmps18
  go_wp2_with fail
  go_region_held3 (fun w' => w'.cell? ⟨w.heap.size, 2, none⟩ = some (.int .u8 5) ∧ w'.cell? ⟨w.heap.size, 0, none⟩ = some (.int .i64 no)) (first | go_keep) (first | (go_at_call 22; refine (kind5 _).mono ?_; rintro e w1 ⟨rfl, rfl⟩))
  all_goals go_wp2
  all_goals exact bodyPost_ret (v := .tuple #[ntV 4 sub no 0 0 0, .bool true]) (by simp [results, Tryd.results18, go_sem]) rfl ⟨rfl, by repeat (first | exact Below.refl _ _ | apply bl_alloc | apply bl_swell | apply bl_drewN | apply Below.drew)⟩
theorem kind6 (w : World) : Calls Tryd.prog 22 #[.int .u8 6] w fun e w' => e = .returned (.int .u8 2) ∧ w' = w := by
  go_enter Tryd.func22, Tryd.ntmps22
  go_wp2
  go_ret
  exact ⟨rfl, rfl⟩
theorem rasks6 (sub no due am us tr nx : Int) (g : Bool) (w : World) : Calls Tryd.prog 18 #[.int .i64 sub, cyV no due 6 am us tr nx g] w fun e w' => e = .returned (.tuple #[ntV 2 sub no 0 am 0, .bool true]) ∧ Below w.heap.size w w' := by
  go_enter Tryd.func18, Tryd.ntmps18
  go_wp2_with fail
  go_region_held3 (fun w' => w'.cell? ⟨w.heap.size, 2, none⟩ = some (.int .u8 6) ∧ w'.cell? ⟨w.heap.size, 0, none⟩ = some (.int .i64 no)) (first | go_keep) (first | (go_at_call 22; refine (kind6 _).mono ?_; rintro e w1 ⟨rfl, rfl⟩))
  all_goals go_wp2
  all_goals exact bodyPost_ret (v := .tuple #[ntV 2 sub no 0 am 0, .bool true]) (by simp [results, Tryd.results18, go_sem]) rfl ⟨rfl, by repeat (first | exact Below.refl _ _ | apply bl_alloc | apply bl_swell | apply bl_drewN | apply Below.drew)⟩
theorem rback0 (no due ph us tr nx : Int) (g : Bool) (w : World) : Calls Tryd.prog 19 #[cyV no due ph 0 us tr nx g] w fun e w' => e = .returned (cyV no due 9 0 us tr nx g) ∧ Below w.heap.size w w' := by
  go_enter Tryd.func19, Tryd.ntmps19
  go_wp2
  exact bodyPost_ret (v := cyV no due 9 0 us tr nx g) (by simp [results, Tryd.results19, go_sem]) rfl ⟨rfl, by repeat (first | exact Below.refl _ _ | apply bl_alloc | apply bl_swell | apply bl_drewN | apply Below.drew)⟩
theorem rback1 (no due ph am us tr nx : Int) (g : Bool) (w : World) (h : (am == 0) = false) : Calls Tryd.prog 19 #[cyV no due ph am us tr nx g] w fun e w' => e = .returned (cyV no due 6 am us tr nx g) ∧ Below w.heap.size w w' := by
  go_enter Tryd.func19, Tryd.ntmps19
  go_wp2
  exact bodyPost_ret (v := cyV no due 6 am us tr nx g) (by simp [results, Tryd.results19, go_sem]) rfl ⟨rfl, by repeat (first | exact Below.refl _ _ | apply bl_alloc | apply bl_swell | apply bl_drewN | apply Below.drew)⟩
theorem rback_any (no due ph am us tr nx : Int) (g : Bool) (w : World) : Calls Tryd.prog 19 #[cyV no due ph am us tr nx g] w fun e w' => e = .returned (cyV no due (backPh am) am us tr nx g) ∧ Below w.heap.size w w' := by
  unfold backPh
  by_cases h : am = 0
  · subst h; exact rback0 no due ph us tr nx g w
  · rw [if_neg h]; exact rback1 _ _ _ _ _ _ _ _ _ (beq_eq_false_iff_ne.2 h)
theorem steps_any (w : World) : Calls Tryd.prog 20 #[] w fun e w' => e = .returned (.slice (some ⟨w.heap.size, 0, none⟩) 3 3) ∧ w' = w.alloc (.cells #[.int .i64 1, .int .i64 3, .int .i64 7] 3) := by
  go_enter Tryd.func20, Tryd.ntmps20
  go_wp2
  go_ret
  exact ⟨rfl, rfl⟩
theorem rhear1yo (sub no due am us nx td : Int) (tr : Int) (g : Bool) (w : World)  : Calls Tryd.prog 10 #[.int .i64 sub, cyV no due 1 am us tr nx g, ntV 1 sub no tr am 1, .int .i64 td, .bool true] w fun e w' => e = .returned (.tuple #[cyV no due (backPh am) am us tr nx g, .bool true]) ∧ Below w.heap.size w w' := by
  go_enter Tryd.func10, Tryd.ntmps10
  go_wp2_with (first | (go_at_call 18; refine (rasks1 _ _ _ _ _ _ _ _ _).mono ?_; rintro e w1 ⟨rfl, hb⟩; obtain ⟨l1, d1, rfl⟩ := swell_of_below hb; clear hb) | (go_at_call 19; refine (rback_any _ _ _ _ _ _ _ _ _).mono ?_; rintro e w2 ⟨rfl, hb⟩; obtain ⟨l3, d3, rfl⟩ := swell_of_below hb; clear hb))
  exact bodyPost_ret (v := .tuple #[cyV no due (backPh am) am us tr nx g, .bool true]) (by simp [results, Tryd.results10, go_sem]) rfl ⟨rfl, by repeat (first | exact Below.refl _ _ | apply bl_alloc | apply bl_swell | apply bl_drewN | apply Below.drew)⟩
theorem rhear1yg (sub no due am us nx td : Int) (tr : Int) (w : World)  : Calls Tryd.prog 10 #[.int .i64 sub, cyV no due 1 am us tr nx true, ntV 1 sub no tr am 1, .int .i64 td, .bool false] w fun e w' => e = .returned (.tuple #[cyV no due 3 am us tr nx true, .bool true]) ∧ Below w.heap.size w w' := by
  go_enter Tryd.func10, Tryd.ntmps10
  go_wp2_with (first | (go_at_call 18; refine (rasks1 _ _ _ _ _ _ _ _ _).mono ?_; rintro e w1 ⟨rfl, hb⟩; obtain ⟨l1, d1, rfl⟩ := swell_of_below hb; clear hb))
  exact bodyPost_ret (v := .tuple #[cyV no due 3 am us tr nx true, .bool true]) (by simp [results, Tryd.results10, go_sem]) rfl ⟨rfl, by repeat (first | exact Below.refl _ _ | apply bl_alloc | apply bl_swell | apply bl_drewN | apply Below.drew)⟩
theorem rhear1yn (sub no due am us nx td : Int) (tr : Int) (w : World)  : Calls Tryd.prog 10 #[.int .i64 sub, cyV no due 1 am us tr nx false, ntV 1 sub no tr am 1, .int .i64 td, .bool false] w fun e w' => e = .returned (.tuple #[cyV no due 7 am us tr nx false, .bool true]) ∧ Below w.heap.size w w' := by
  go_enter Tryd.func10, Tryd.ntmps10
  go_wp2_with (first | (go_at_call 18; refine (rasks1 _ _ _ _ _ _ _ _ _).mono ?_; rintro e w1 ⟨rfl, hb⟩; obtain ⟨l1, d1, rfl⟩ := swell_of_below hb; clear hb))
  exact bodyPost_ret (v := .tuple #[cyV no due 7 am us tr nx false, .bool true]) (by simp [results, Tryd.results10, go_sem]) rfl ⟨rfl, by repeat (first | exact Below.refl _ _ | apply bl_alloc | apply bl_swell | apply bl_drewN | apply Below.drew)⟩
theorem rhear1no (sub no due am us nx td : Int) (tr : Int) (v : Int) (g : Bool) (over : Bool) (w : World) (h0 : (v == 0) = false) (h1 : (v == 1) = false) (h2 : (v == 2) = false) : Calls Tryd.prog 10 #[.int .i64 sub, cyV no due 1 am us tr nx g, ntV 1 sub no tr am v, .int .i64 td, .bool over] w fun e w' => e = .returned (.tuple #[cyV no due 8 am us tr nx g, .bool true]) ∧ Below w.heap.size w w' := by
  go_enter Tryd.func10, Tryd.ntmps10
  go_wp2_with (first | (go_at_call 18; refine (rasks1 _ _ _ _ _ _ _ _ _).mono ?_; rintro e w1 ⟨rfl, hb⟩; obtain ⟨l1, d1, rfl⟩ := swell_of_below hb; clear hb))
  go_quiet (fail)
  go_wp2
  exact bodyPost_ret (v := .tuple #[cyV no due 8 am us tr nx g, .bool true]) (by simp [results, Tryd.results10, go_sem]) rfl ⟨rfl, by repeat (first | exact Below.refl _ _ | apply bl_alloc | apply bl_swell | apply bl_drewN | apply Below.drew)⟩
theorem rhear1so (sub no due am us nx td : Int) (tr : Int) (g : Bool) (w : World)  : Calls Tryd.prog 10 #[.int .i64 sub, cyV no due 1 am us tr nx g, ntV 1 sub no tr am 2, .int .i64 td, .bool true] w fun e w' => e = .returned (.tuple #[cyV no due 8 am us tr nx g, .bool true]) ∧ Below w.heap.size w w' := by
  go_enter Tryd.func10, Tryd.ntmps10
  go_wp2_with (first | (go_at_call 18; refine (rasks1 _ _ _ _ _ _ _ _ _).mono ?_; rintro e w1 ⟨rfl, hb⟩; obtain ⟨l1, d1, rfl⟩ := swell_of_below hb; clear hb))
  go_quiet (fail)
  go_wp2
  exact bodyPost_ret (v := .tuple #[cyV no due 8 am us tr nx g, .bool true]) (by simp [results, Tryd.results10, go_sem]) rfl ⟨rfl, by repeat (first | exact Below.refl _ _ | apply bl_alloc | apply bl_swell | apply bl_drewN | apply Below.drew)⟩
theorem rhear1s4 (sub no due am us nx td : Int) (tr : Int) (g : Bool) (w : World) (h : decide (tr ≤ 3) = false) : Calls Tryd.prog 10 #[.int .i64 sub, cyV no due 1 am us tr nx g, ntV 1 sub no tr am 2, .int .i64 td, .bool false] w fun e w' => e = .returned (.tuple #[cyV no due 8 am us tr nx g, .bool true]) ∧ Below w.heap.size w w' := by
  go_enter Tryd.func10, Tryd.ntmps10
  go_wp2_with (first | (go_at_call 18; refine (rasks1 _ _ _ _ _ _ _ _ _).mono ?_; rintro e w1 ⟨rfl, hb⟩; obtain ⟨l1, d1, rfl⟩ := swell_of_below hb; clear hb))
  go_region_held3 (fun w' => w'.cell? ⟨w.heap.size + 1, 5, none⟩ = some (.int .u8 2) ∧ w'.cell? ⟨w.heap.size, 5, none⟩ = some (.int .i64 tr)) (first | (go_simp; done) | go_keep) (first | (go_at_call 20; refine (steps_any _).mono ?_; rintro e w1 ⟨rfl, rfl⟩))
  all_goals go_wp2
  all_goals exact bodyPost_ret (v := .tuple #[cyV no due 8 am us tr nx g, .bool true]) (by simp [results, Tryd.results10, go_sem]) rfl ⟨rfl, by repeat (first | exact Below.refl _ _ | apply bl_alloc | apply bl_swell | apply bl_drewN | apply Below.drew)⟩
theorem rhear1s1 (sub no due am us nx td : Int) (g : Bool) (w : World)  : Calls Tryd.prog 10 #[.int .i64 sub, cyV no due 1 am us 1 nx g, ntV 1 sub no 1 am 2, .int .i64 td, .bool false] w fun e w' => e = .returned (.tuple #[cyV no due 2 am us 1 (wrap64 (td + 1)) g, .bool true]) ∧ Below w.heap.size w w' := by
  go_enter Tryd.func10, Tryd.ntmps10
  go_wp2_with (first | (go_at_call 18; refine (rasks1 _ _ _ _ _ _ _ _ _).mono ?_; rintro e w1 ⟨rfl, hb⟩; obtain ⟨l1, d1, rfl⟩ := swell_of_below hb; clear hb))
  go_region_held3 (fun w' => w'.cell? ⟨w.heap.size + 1, 5, none⟩ = some (.int .u8 2) ∧ w'.cell? ⟨w.heap.size, 5, none⟩ = some (.int .i64 1)) (first | (go_simp; done) | go_keep) (first | (go_at_call 20; refine (steps_any _).mono ?_; rintro e w1 ⟨rfl, rfl⟩))
  all_goals go_wp2
  all_goals go_region_with (go_at_call 20; refine (steps_any _).mono ?_; rintro e w1 ⟨rfl, rfl⟩)
  all_goals go_wp2
  all_goals exact bodyPost_ret (v := .tuple #[cyV no due 2 am us 1 (wrap64 (td + 1)) g, .bool true]) (by simp [results, Tryd.results10, go_sem]) rfl ⟨rfl, by repeat (first | exact Below.refl _ _ | apply bl_alloc | apply bl_swell | apply bl_drewN | apply Below.drew)⟩
theorem rhear1s2 (sub no due am us nx td : Int) (g : Bool) (w : World)  : Calls Tryd.prog 10 #[.int .i64 sub, cyV no due 1 am us 2 nx g, ntV 1 sub no 2 am 2, .int .i64 td, .bool false] w fun e w' => e = .returned (.tuple #[cyV no due 2 am us 2 (wrap64 (td + 3)) g, .bool true]) ∧ Below w.heap.size w w' := by
  go_enter Tryd.func10, Tryd.ntmps10
  go_wp2_with (first | (go_at_call 18; refine (rasks1 _ _ _ _ _ _ _ _ _).mono ?_; rintro e w1 ⟨rfl, hb⟩; obtain ⟨l1, d1, rfl⟩ := swell_of_below hb; clear hb))
  go_region_held3 (fun w' => w'.cell? ⟨w.heap.size + 1, 5, none⟩ = some (.int .u8 2) ∧ w'.cell? ⟨w.heap.size, 5, none⟩ = some (.int .i64 2)) (first | (go_simp; done) | go_keep) (first | (go_at_call 20; refine (steps_any _).mono ?_; rintro e w1 ⟨rfl, rfl⟩))
  all_goals go_wp2
  all_goals go_region_with (go_at_call 20; refine (steps_any _).mono ?_; rintro e w1 ⟨rfl, rfl⟩)
  all_goals go_wp2
  all_goals exact bodyPost_ret (v := .tuple #[cyV no due 2 am us 2 (wrap64 (td + 3)) g, .bool true]) (by simp [results, Tryd.results10, go_sem]) rfl ⟨rfl, by repeat (first | exact Below.refl _ _ | apply bl_alloc | apply bl_swell | apply bl_drewN | apply Below.drew)⟩
theorem rhear1s3 (sub no due am us nx td : Int) (g : Bool) (w : World)  : Calls Tryd.prog 10 #[.int .i64 sub, cyV no due 1 am us 3 nx g, ntV 1 sub no 3 am 2, .int .i64 td, .bool false] w fun e w' => e = .returned (.tuple #[cyV no due 2 am us 3 (wrap64 (td + 7)) g, .bool true]) ∧ Below w.heap.size w w' := by
  go_enter Tryd.func10, Tryd.ntmps10
  go_wp2_with (first | (go_at_call 18; refine (rasks1 _ _ _ _ _ _ _ _ _).mono ?_; rintro e w1 ⟨rfl, hb⟩; obtain ⟨l1, d1, rfl⟩ := swell_of_below hb; clear hb))
  go_region_held3 (fun w' => w'.cell? ⟨w.heap.size + 1, 5, none⟩ = some (.int .u8 2) ∧ w'.cell? ⟨w.heap.size, 5, none⟩ = some (.int .i64 3)) (first | (go_simp; done) | go_keep) (first | (go_at_call 20; refine (steps_any _).mono ?_; rintro e w1 ⟨rfl, rfl⟩))
  all_goals go_wp2
  all_goals go_region_with (go_at_call 20; refine (steps_any _).mono ?_; rintro e w1 ⟨rfl, rfl⟩)
  all_goals go_wp2
  all_goals exact bodyPost_ret (v := .tuple #[cyV no due 2 am us 3 (wrap64 (td + 7)) g, .bool true]) (by simp [results, Tryd.results10, go_sem]) rfl ⟨rfl, by repeat (first | exact Below.refl _ _ | apply bl_alloc | apply bl_swell | apply bl_drewN | apply Below.drew)⟩
theorem rhear3n (sub no due am us nx td : Int) (tr : Int) (v : Int) (g : Bool) (over : Bool) (w : World) (h0 : (v == 0) = false) (h1 : (v == 1) = false) : Calls Tryd.prog 10 #[.int .i64 sub, cyV no due 3 am us tr nx g, ntV 3 sub no 0 0 v, .int .i64 td, .bool over] w fun e w' => e = .returned (.tuple #[cyV no due (backPh am) am us tr nx g, .bool true]) ∧ Below w.heap.size w w' := by
  go_enter Tryd.func10, Tryd.ntmps10
  go_wp2_with (first | (go_at_call 18; refine (rasks3 _ _ _ _ _ _ _ _ _).mono ?_; rintro e w1 ⟨rfl, hb⟩; obtain ⟨l1, d1, rfl⟩ := swell_of_below hb; clear hb) | (go_at_call 19; refine (rback_any _ _ _ _ _ _ _ _ _).mono ?_; rintro e w2 ⟨rfl, hb⟩; obtain ⟨l3, d3, rfl⟩ := swell_of_below hb; clear hb))
  exact bodyPost_ret (v := .tuple #[cyV no due (backPh am) am us tr nx g, .bool true]) (by simp [results, Tryd.results10, go_sem]) rfl ⟨rfl, by repeat (first | exact Below.refl _ _ | apply bl_alloc | apply bl_swell | apply bl_drewN | apply Below.drew)⟩
theorem rhear3o (sub no due am us nx td : Int) (tr : Int) (g : Bool) (w : World)  : Calls Tryd.prog 10 #[.int .i64 sub, cyV no due 3 am us tr nx g, ntV 3 sub no 0 0 1, .int .i64 td, .bool true] w fun e w' => e = .returned (.tuple #[cyV no due 5 am us tr nx g, .bool true]) ∧ Below w.heap.size w w' := by
  go_enter Tryd.func10, Tryd.ntmps10
  go_wp2_with (first | (go_at_call 18; refine (rasks3 _ _ _ _ _ _ _ _ _).mono ?_; rintro e w1 ⟨rfl, hb⟩; obtain ⟨l1, d1, rfl⟩ := swell_of_below hb; clear hb))
  exact bodyPost_ret (v := .tuple #[cyV no due 5 am us tr nx g, .bool true]) (by simp [results, Tryd.results10, go_sem]) rfl ⟨rfl, by repeat (first | exact Below.refl _ _ | apply bl_alloc | apply bl_swell | apply bl_drewN | apply Below.drew)⟩
theorem rhear3y (sub no due am us nx td : Int) (tr : Int) (g : Bool) (w : World)  : Calls Tryd.prog 10 #[.int .i64 sub, cyV no due 3 am us tr nx g, ntV 3 sub no 0 0 1, .int .i64 td, .bool false] w fun e w' => e = .returned (.tuple #[cyV no due 4 am us tr nx g, .bool true]) ∧ Below w.heap.size w w' := by
  go_enter Tryd.func10, Tryd.ntmps10
  go_wp2_with (first | (go_at_call 18; refine (rasks3 _ _ _ _ _ _ _ _ _).mono ?_; rintro e w1 ⟨rfl, hb⟩; obtain ⟨l1, d1, rfl⟩ := swell_of_below hb; clear hb))
  exact bodyPost_ret (v := .tuple #[cyV no due 4 am us tr nx g, .bool true]) (by simp [results, Tryd.results10, go_sem]) rfl ⟨rfl, by repeat (first | exact Below.refl _ _ | apply bl_alloc | apply bl_swell | apply bl_drewN | apply Below.drew)⟩
theorem rhear4y (sub no due am us nx td : Int) (tr : Int) (g : Bool) (over : Bool) (w : World)  : Calls Tryd.prog 10 #[.int .i64 sub, cyV no due 4 am us tr nx g, ntV 5 sub no 0 0 1, .int .i64 td, .bool over] w fun e w' => e = .returned (.tuple #[cyV no due 7 am us tr nx g, .bool true]) ∧ Below w.heap.size w w' := by
  go_enter Tryd.func10, Tryd.ntmps10
  go_wp2_with (first | (go_at_call 18; refine (rasks4 _ _ _ _ _ _ _ _ _).mono ?_; rintro e w1 ⟨rfl, hb⟩; obtain ⟨l1, d1, rfl⟩ := swell_of_below hb; clear hb))
  exact bodyPost_ret (v := .tuple #[cyV no due 7 am us tr nx g, .bool true]) (by simp [results, Tryd.results10, go_sem]) rfl ⟨rfl, by repeat (first | exact Below.refl _ _ | apply bl_alloc | apply bl_swell | apply bl_drewN | apply Below.drew)⟩
theorem rhear4n (sub no due am us nx td : Int) (tr : Int) (v : Int) (g : Bool) (over : Bool) (w : World) (h0 : (v == 0) = false) (h1 : (v == 1) = false) : Calls Tryd.prog 10 #[.int .i64 sub, cyV no due 4 am us tr nx g, ntV 5 sub no 0 0 v, .int .i64 td, .bool over] w fun e w' => e = .returned (.tuple #[cyV no due 5 am us tr nx g, .bool true]) ∧ Below w.heap.size w w' := by
  go_enter Tryd.func10, Tryd.ntmps10
  go_wp2_with (first | (go_at_call 18; refine (rasks4 _ _ _ _ _ _ _ _ _).mono ?_; rintro e w1 ⟨rfl, hb⟩; obtain ⟨l1, d1, rfl⟩ := swell_of_below hb; clear hb))
  exact bodyPost_ret (v := .tuple #[cyV no due 5 am us tr nx g, .bool true]) (by simp [results, Tryd.results10, go_sem]) rfl ⟨rfl, by repeat (first | exact Below.refl _ _ | apply bl_alloc | apply bl_swell | apply bl_drewN | apply Below.drew)⟩
theorem rhear5 (sub no due am us nx td : Int) (tr : Int) (v : Int) (g : Bool) (over : Bool) (w : World) (h0 : (v == 0) = false) : Calls Tryd.prog 10 #[.int .i64 sub, cyV no due 5 am us tr nx g, ntV 4 sub no 0 0 v, .int .i64 td, .bool over] w fun e w' => e = .returned (.tuple #[cyV no due (backPh am) am us tr nx g, .bool true]) ∧ Below w.heap.size w w' := by
  go_enter Tryd.func10, Tryd.ntmps10
  go_wp2_with (first | (go_at_call 18; refine (rasks5 _ _ _ _ _ _ _ _ _).mono ?_; rintro e w1 ⟨rfl, hb⟩; obtain ⟨l1, d1, rfl⟩ := swell_of_below hb; clear hb) | (go_at_call 19; refine (rback_any _ _ _ _ _ _ _ _ _).mono ?_; rintro e w2 ⟨rfl, hb⟩; obtain ⟨l3, d3, rfl⟩ := swell_of_below hb; clear hb))
  exact bodyPost_ret (v := .tuple #[cyV no due (backPh am) am us tr nx g, .bool true]) (by simp [results, Tryd.results10, go_sem]) rfl ⟨rfl, by repeat (first | exact Below.refl _ _ | apply bl_alloc | apply bl_swell | apply bl_drewN | apply Below.drew)⟩
theorem rhear6 (sub no due am us nx td : Int) (tr : Int) (v : Int) (g : Bool) (over : Bool) (w : World) (h0 : (v == 0) = false) : Calls Tryd.prog 10 #[.int .i64 sub, cyV no due 6 am us tr nx g, ntV 2 sub no 0 am v, .int .i64 td, .bool over] w fun e w' => e = .returned (.tuple #[cyV no due 9 am us tr nx g, .bool true]) ∧ Below w.heap.size w w' := by
  go_enter Tryd.func10, Tryd.ntmps10
  go_wp2_with (first | (go_at_call 18; refine (rasks6 _ _ _ _ _ _ _ _ _).mono ?_; rintro e w1 ⟨rfl, hb⟩; obtain ⟨l1, d1, rfl⟩ := swell_of_below hb; clear hb))
  exact bodyPost_ret (v := .tuple #[cyV no due 9 am us tr nx g, .bool true]) (by simp [results, Tryd.results10, go_sem]) rfl ⟨rfl, by repeat (first | exact Below.refl _ _ | apply bl_alloc | apply bl_swell | apply bl_drewN | apply Below.drew)⟩
end Go.Proofs.YtggmfcdhdmfipaaDoor
