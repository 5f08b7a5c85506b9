import Derived.Test.YtggmfcdhdmfipaaDoorWalk
import Derived.Lib.Hide
set_option linter.unusedSimpArgs false
set_option linter.unusedVariables false
set_option maxHeartbeats 4000000
namespace Go.Proofs.YtggmfcdhdmfipaaDoor
open Go.RowKit
def askK (ph : Int) : Int := if ph = 1 then 1 else if ph = 3 then 3 else if ph = 4 then 5 else if ph = 5 then 4 else if ph = 6 then 2 else 0
def askT (ph tr : Int) : Int := if ph = 1 then tr else 0
def askA (ph am : Int) : Int := if ph = 1 ∨ ph = 6 then am else 0
/-- the notice that a cycle asks by -/
abbrev askV (sub no ph am tr v : Int) : Value := ntV (askK ph) sub no (askT ph tr) (askA ph am) v
theorem asks1 (sub no due am us tr nx : Int) (g : Bool) (w : World) : Calls Tryd.prog 7 #[.int .i64 sub, cyV no due 1 am us tr nx g] w fun e w' => e = .returned (.tuple #[ntV 1 sub no tr am 0, .bool true]) ∧ Below w.heap.size w w' := by
  go_enter Tryd.func7, Tryd.ntmps7
  go_wp2
  go_region
  go_wp2
  exact bodyPost_ret (v := .tuple #[ntV 1 sub no tr am 0, .bool true]) (by simp [results, Tryd.results7, go_sem]) rfl ⟨rfl, by repeat (first | exact Below.refl _ _ | apply bl_alloc | apply bl_swell | apply bl_drewN)⟩
theorem asks3 (sub no due am us tr nx : Int) (g : Bool) (w : World) : Calls Tryd.prog 7 #[.int .i64 sub, cyV no due 3 am us tr nx g] w fun e w' => e = .returned (.tuple #[ntV 3 sub no 0 0 0, .bool true]) ∧ Below w.heap.size w w' := by
  go_enter Tryd.func7, Tryd.ntmps7
  go_wp2
  exact bodyPost_ret (v := .tuple #[ntV 3 sub no 0 0 0, .bool true]) (by simp [results, Tryd.results7, go_sem]) rfl ⟨rfl, by repeat (first | exact Below.refl _ _ | apply bl_alloc | apply bl_swell | apply bl_drewN)⟩
theorem asks4 (sub no due am us tr nx : Int) (g : Bool) (w : World) : Calls Tryd.prog 7 #[.int .i64 sub, cyV no due 4 am us tr nx g] w fun e w' => e = .returned (.tuple #[ntV 5 sub no 0 0 0, .bool true]) ∧ Below w.heap.size w w' := by
  go_enter Tryd.func7, Tryd.ntmps7
  go_wp2
  exact bodyPost_ret (v := .tuple #[ntV 5 sub no 0 0 0, .bool true]) (by simp [results, Tryd.results7, go_sem]) rfl ⟨rfl, by repeat (first | exact Below.refl _ _ | apply bl_alloc | apply bl_swell | apply bl_drewN)⟩
theorem asks5 (sub no due am us tr nx : Int) (g : Bool) (w : World) : Calls Tryd.prog 7 #[.int .i64 sub, cyV no due 5 am us tr nx g] w fun e w' => e = .returned (.tuple #[ntV 4 sub no 0 0 0, .bool true]) ∧ Below w.heap.size w w' := by
  go_enter Tryd.func7, Tryd.ntmps7
  go_wp2
  exact bodyPost_ret (v := .tuple #[ntV 4 sub no 0 0 0, .bool true]) (by simp [results, Tryd.results7, go_sem]) rfl ⟨rfl, by repeat (first | exact Below.refl _ _ | apply bl_alloc | apply bl_swell | apply bl_drewN)⟩
theorem asks6 (sub no due am us tr nx : Int) (g : Bool) (w : World) : Calls Tryd.prog 7 #[.int .i64 sub, cyV no due 6 am us tr nx g] w fun e w' => e = .returned (.tuple #[ntV 2 sub no 0 am 0, .bool true]) ∧ Below w.heap.size w w' := by
  go_enter Tryd.func7, Tryd.ntmps7
  go_wp2
  go_region
  go_wp2
  exact bodyPost_ret (v := .tuple #[ntV 2 sub no 0 am 0, .bool true]) (by simp [results, Tryd.results7, go_sem]) rfl ⟨rfl, by repeat (first | exact Below.refl _ _ | apply bl_alloc | apply bl_swell | apply bl_drewN)⟩
theorem asksNone (sub no due ph am us tr nx : Int) (g : Bool) (w : World) (h1 : (ph == 1) = false) (h3 : (ph == 3) = false) (h4 : (ph == 4) = false) (h5 : (ph == 5) = false) (h6 : (ph == 6) = false) : Calls Tryd.prog 7 #[.int .i64 sub, cyV no due ph am us tr nx g] w fun e w' => e = .returned (.tuple #[ntV 0 0 0 0 0 0, .bool false]) ∧ Below w.heap.size w w' := by
  go_enter Tryd.func7, Tryd.ntmps7
  go_wp2
  exact bodyPost_ret (v := .tuple #[ntV 0 0 0 0 0 0, .bool false]) (by simp [results, Tryd.results7, go_sem]) rfl ⟨rfl, by repeat (first | exact Below.refl _ _ | apply bl_alloc | apply bl_swell | apply bl_drewN)⟩
theorem asks_any (sub no due ph am us tr nx : Int) (g : Bool) (w : World) (h : ph = 1 ∨ ph = 3 ∨ ph = 4 ∨ ph = 5 ∨ ph = 6) : Calls Tryd.prog 7 #[.int .i64 sub, cyV no due ph am us tr nx g] w fun e w' => e = .returned (.tuple #[askV sub no ph am tr 0, .bool true]) ∧ Below w.heap.size w w' := by
  rcases h with rfl | rfl | rfl | rfl | rfl
  · exact asks1 _ _ _ _ _ _ _ _ _
  · exact asks3 _ _ _ _ _ _ _ _ _
  · exact asks4 _ _ _ _ _ _ _ _ _
  · exact asks5 _ _ _ _ _ _ _ _ _
  · exact asks6 _ _ _ _ _ _ _ _ _
theorem hear_ask (sub no due ph am us tr nx td : Int) (g over : Bool) (w : World) (h : ph = 1 ∨ ph = 3 ∨ ph = 4 ∨ ph = 5 ∨ ph = 6) : Calls Tryd.prog 9 #[.int .i64 sub, cyV no due ph am us tr nx g, askV sub no ph am tr 0, .int .i64 td, .bool over] w fun e w' => e = .returned (.tuple #[cyV no due ph am us tr nx g, .int .i64 10]) ∧ Below w.heap.size w w' := by
  have H := Lib.hid h
  clear h
  generalize hk : askK ph = k
  generalize ht : askT ph tr = t
  generalize ha : askA ph am = a
  go_enter Tryd.func9, Tryd.ntmps9
  go_wp2_with (go_at_call 7; refine (asks_any _ _ _ _ _ _ _ _ _ _ H.out).mono ?_; rintro e w1 ⟨rfl, hb⟩; obtain ⟨l1, d1, rfl⟩ := swell_of_below hb; clear hb)
  exact bodyPost_ret (v := .tuple #[cyV no due ph am us tr nx g, .int .i64 10]) (by simp [results, Tryd.results9, go_sem]) rfl ⟨rfl, by repeat (first | exact Below.refl _ _ | apply bl_alloc | apply bl_swell | apply bl_drewN)⟩
theorem hear1 (sub no due am us tr nx td : Int) (v : Int) (g : Bool) (over : Bool) (w : World) (hl : Lad w) (ht : 1 ≤ tr) (h0 : (v == 0) = false) : Calls Tryd.prog 9 #[.int .i64 sub, cyV no due 1 am us tr nx g, ntV 1 sub no tr am v, .int .i64 td, .bool over] w fun e w' => e = .returned (.tuple #[cyV no due (chPh am tr v g over) am us tr (chNx tr nx v td over) g, .int .i64 0]) ∧ Below w.heap.size w w' := by
  go_enter Tryd.func9, Tryd.ntmps9
  go_wp2_with (first | (go_at_call 7; refine (asks1 _ _ _ _ _ _ _ _ _).mono ?_; rintro e w1 ⟨rfl, hb⟩; obtain ⟨l1, d1, rfl⟩ := swell_of_below hb; clear hb) | (go_at_call 16; refine (charged_any _ _ _ _ _ _ _ _ _ _ _ ?hl ht).mono ?_; (case hl => exact hl.of (by repeat (first | exact Below.refl _ _ | apply bl_alloc | apply bl_swell | apply bl_drewN))); rintro e w2 ⟨rfl, hb⟩; obtain ⟨l3, d3, rfl⟩ := swell_of_below hb; clear hb))
  exact bodyPost_ret (v := .tuple #[cyV no due (chPh am tr v g over) am us tr (chNx tr nx v td over) g, .int .i64 0]) (by simp [results, Tryd.results9, go_sem]) rfl ⟨rfl, by repeat (first | exact Below.refl _ _ | apply bl_alloc | apply bl_swell | apply bl_drewN)⟩
theorem hear3n (sub no due am us tr nx td : Int) (v : Int) (g : Bool) (over : Bool) (w : World) (h0 : (v == 0) = false) (h1 : (v != 1) = true) : Calls Tryd.prog 9 #[.int .i64 sub, cyV no due 3 am us tr nx g, ntV 3 sub no 0 0 v, .int .i64 td, .bool over] w fun e w' => e = .returned (.tuple #[cyV no due (backPh am) am us tr nx g, .int .i64 0]) ∧ Below w.heap.size w w' := by
  skip
  go_enter Tryd.func9, Tryd.ntmps9
  go_wp2_with (first | (go_at_call 7; refine (asks3 _ _ _ _ _ _ _ _ _).mono ?_; rintro e w1 ⟨rfl, hb⟩; obtain ⟨l1, d1, rfl⟩ := swell_of_below hb; clear hb) | (go_at_call 17; refine (back_any _ _ _ _ _ _ _ _ _).mono ?_; rintro e w2 ⟨rfl, hb⟩; obtain ⟨l3, d3, rfl⟩ := swell_of_below hb; clear hb))
  exact bodyPost_ret (v := .tuple #[cyV no due (backPh am) am us tr nx g, .int .i64 0]) (by simp [results, Tryd.results9, go_sem]) rfl ⟨rfl, by repeat (first | exact Below.refl _ _ | apply bl_alloc | apply bl_swell | apply bl_drewN)⟩
theorem hear3o (sub no due am us tr nx td : Int)  (g : Bool)  (w : World)  : Calls Tryd.prog 9 #[.int .i64 sub, cyV no due 3 am us tr nx g, ntV 3 sub no 0 0 1, .int .i64 td, .bool true] w fun e w' => e = .returned (.tuple #[cyV no due 5 am us tr nx g, .int .i64 0]) ∧ Below w.heap.size w w' := by
  skip
  go_enter Tryd.func9, Tryd.ntmps9
  go_wp2_with (first | (go_at_call 7; refine (asks3 _ _ _ _ _ _ _ _ _).mono ?_; rintro e w1 ⟨rfl, hb⟩; obtain ⟨l1, d1, rfl⟩ := swell_of_below hb; clear hb))
  exact bodyPost_ret (v := .tuple #[cyV no due 5 am us tr nx g, .int .i64 0]) (by simp [results, Tryd.results9, go_sem]) rfl ⟨rfl, by repeat (first | exact Below.refl _ _ | apply bl_alloc | apply bl_swell | apply bl_drewN)⟩
theorem hear3y (sub no due am us tr nx td : Int)  (g : Bool)  (w : World)  : Calls Tryd.prog 9 #[.int .i64 sub, cyV no due 3 am us tr nx g, ntV 3 sub no 0 0 1, .int .i64 td, .bool false] w fun e w' => e = .returned (.tuple #[cyV no due 4 am us tr nx g, .int .i64 0]) ∧ Below w.heap.size w w' := by
  skip
  go_enter Tryd.func9, Tryd.ntmps9
  go_wp2_with (first | (go_at_call 7; refine (asks3 _ _ _ _ _ _ _ _ _).mono ?_; rintro e w1 ⟨rfl, hb⟩; obtain ⟨l1, d1, rfl⟩ := swell_of_below hb; clear hb))
  exact bodyPost_ret (v := .tuple #[cyV no due 4 am us tr nx g, .int .i64 0]) (by simp [results, Tryd.results9, go_sem]) rfl ⟨rfl, by repeat (first | exact Below.refl _ _ | apply bl_alloc | apply bl_swell | apply bl_drewN)⟩
theorem hear4y (sub no due am us tr nx td : Int)  (g : Bool) (over : Bool) (w : World)  : Calls Tryd.prog 9 #[.int .i64 sub, cyV no due 4 am us tr nx g, ntV 5 sub no 0 0 1, .int .i64 td, .bool over] w fun e w' => e = .returned (.tuple #[cyV no due 7 am us tr nx g, .int .i64 0]) ∧ Below w.heap.size w w' := by
  skip
  go_enter Tryd.func9, Tryd.ntmps9
  go_wp2_with (first | (go_at_call 7; refine (asks4 _ _ _ _ _ _ _ _ _).mono ?_; rintro e w1 ⟨rfl, hb⟩; obtain ⟨l1, d1, rfl⟩ := swell_of_below hb; clear hb))
  exact bodyPost_ret (v := .tuple #[cyV no due 7 am us tr nx g, .int .i64 0]) (by simp [results, Tryd.results9, go_sem]) rfl ⟨rfl, by repeat (first | exact Below.refl _ _ | apply bl_alloc | apply bl_swell | apply bl_drewN)⟩
theorem hear4n (sub no due am us tr nx td : Int) (v : Int) (g : Bool) (over : Bool) (w : World) (h0 : (v == 0) = false) (h1 : (v != 1) = true) : Calls Tryd.prog 9 #[.int .i64 sub, cyV no due 4 am us tr nx g, ntV 5 sub no 0 0 v, .int .i64 td, .bool over] w fun e w' => e = .returned (.tuple #[cyV no due 5 am us tr nx g, .int .i64 0]) ∧ Below w.heap.size w w' := by
  skip
  go_enter Tryd.func9, Tryd.ntmps9
  go_wp2_with (first | (go_at_call 7; refine (asks4 _ _ _ _ _ _ _ _ _).mono ?_; rintro e w1 ⟨rfl, hb⟩; obtain ⟨l1, d1, rfl⟩ := swell_of_below hb; clear hb))
  exact bodyPost_ret (v := .tuple #[cyV no due 5 am us tr nx g, .int .i64 0]) (by simp [results, Tryd.results9, go_sem]) rfl ⟨rfl, by repeat (first | exact Below.refl _ _ | apply bl_alloc | apply bl_swell | apply bl_drewN)⟩
theorem hear5 (sub no due am us tr nx td : Int) (v : Int) (g : Bool) (over : Bool) (w : World) (h0 : (v == 0) = false) : Calls Tryd.prog 9 #[.int .i64 sub, cyV no due 5 am us tr nx g, ntV 4 sub no 0 0 v, .int .i64 td, .bool over] w fun e w' => e = .returned (.tuple #[cyV no due (backPh am) am us tr nx g, .int .i64 0]) ∧ Below w.heap.size w w' := by
  skip
  go_enter Tryd.func9, Tryd.ntmps9
  go_wp2_with (first | (go_at_call 7; refine (asks5 _ _ _ _ _ _ _ _ _).mono ?_; rintro e w1 ⟨rfl, hb⟩; obtain ⟨l1, d1, rfl⟩ := swell_of_below hb; clear hb) | (go_at_call 17; refine (back_any _ _ _ _ _ _ _ _ _).mono ?_; rintro e w2 ⟨rfl, hb⟩; obtain ⟨l3, d3, rfl⟩ := swell_of_below hb; clear hb))
  exact bodyPost_ret (v := .tuple #[cyV no due (backPh am) am us tr nx g, .int .i64 0]) (by simp [results, Tryd.results9, go_sem]) rfl ⟨rfl, by repeat (first | exact Below.refl _ _ | apply bl_alloc | apply bl_swell | apply bl_drewN)⟩
theorem hear6 (sub no due am us tr nx td : Int) (v : Int) (g : Bool) (over : Bool) (w : World) (h0 : (v == 0) = false) : Calls Tryd.prog 9 #[.int .i64 sub, cyV no due 6 am us tr nx g, ntV 2 sub no 0 am v, .int .i64 td, .bool over] w fun e w' => e = .returned (.tuple #[cyV no due 9 am us tr nx g, .int .i64 0]) ∧ Below w.heap.size w w' := by
  skip
  go_enter Tryd.func9, Tryd.ntmps9
  go_wp2_with (first | (go_at_call 7; refine (asks6 _ _ _ _ _ _ _ _ _).mono ?_; rintro e w1 ⟨rfl, hb⟩; obtain ⟨l1, d1, rfl⟩ := swell_of_below hb; clear hb))
  exact bodyPost_ret (v := .tuple #[cyV no due 9 am us tr nx g, .int .i64 0]) (by simp [results, Tryd.results9, go_sem]) rfl ⟨rfl, by repeat (first | exact Below.refl _ _ | apply bl_alloc | apply bl_swell | apply bl_drewN)⟩
end Go.Proofs.YtggmfcdhdmfipaaDoor
