import Derived.Test.YtggmfcdhdmfipaaDoorProg
import Derived.Test.YtggmfcdhdmfipaaDoorBase
set_option linter.unusedSimpArgs false
set_option linter.unusedVariables false
set_option maxHeartbeats 4000000
namespace Go.Proofs.YtggmfcdhdmfipaaDoor
open Go.RowKit
abbrev cyV (no due ph am us tr nx : Int) (g : Bool) : Value := .agg #[.int .i64 no, .int .i64 due, .int .u8 ph, .int .i64 am, .int .i64 us, .int .i64 tr, .int .i64 nx, .bool g]
abbrev ntV (k s c t a v : Int) : Value := .agg #[.int .u8 k, .int .i64 s, .int .i64 c, .int .i64 t, .int .i64 a, .int .u8 v]
theorem tries_any (w : World) : Calls Tryd.prog 15 #[] w fun e w' => e = .returned (.int .i64 4) ∧ w' = w := by
  go_enter Tryd.func15, Tryd.ntmps15
  go_wp2
  go_ret
  exact ⟨rfl, rfl⟩
theorem back0 (no due ph us tr nx : Int) (g : Bool) (w : World) : Calls Tryd.prog 17 #[cyV no due ph 0 us tr nx g] w fun e w' => e = .returned (cyV no due 9 0 us tr nx g) ∧ Below w.heap.size w w' := by
  go_enter Tryd.func17, Tryd.ntmps17
  go_wp2
  exact bodyPost_ret (v := cyV no due 9 0 us tr nx g) (by simp [results, Tryd.results17, go_sem]) rfl ⟨rfl, by repeat (first | exact Below.refl _ _ | apply bl_alloc)⟩
theorem back1 (no due ph am us tr nx : Int) (g : Bool) (w : World) (h : (am == 0) = false) : Calls Tryd.prog 17 #[cyV no due ph am us tr nx g] w fun e w' => e = .returned (cyV no due 6 am us tr nx g) ∧ Below w.heap.size w w' := by
  go_enter Tryd.func17, Tryd.ntmps17
  go_wp2
  exact bodyPost_ret (v := cyV no due 6 am us tr nx g) (by simp [results, Tryd.results17, go_sem]) rfl ⟨rfl, by repeat (first | exact Below.refl _ _ | apply bl_alloc)⟩
def backPh (am : Int) : Int := if am = 0 then 9 else 6
theorem back_any (no due ph am us tr nx : Int) (g : Bool) (w : World) : Calls Tryd.prog 17 #[cyV no due ph am us tr nx g] w fun e w' => e = .returned (cyV no due (backPh am) am us tr nx g) ∧ Below w.heap.size w w' := by
  unfold backPh
  by_cases h : am = 0
  · subst h; exact back0 no due ph us tr nx g w
  · rw [if_neg h]; exact back1 _ _ _ _ _ _ _ _ _ (beq_eq_false_iff_ne.2 h)
def paidPh (am : Int) (g over : Bool) : Int := if over then backPh am else if g then 3 else 7
theorem paid_over (no due ph am us tr nx : Int) (g : Bool) (w : World) : Calls Tryd.prog 21 #[cyV no due ph am us tr nx g, .bool true] w fun e w' => e = .returned (cyV no due (paidPh am g true) am us tr nx g) ∧ Below w.heap.size w w' := by
  go_enter Tryd.func21, Tryd.ntmps21
  go_wp2_with (go_at_call 17; refine (back_any _ _ _ _ _ _ _ _ _).mono ?_; rintro e w1 ⟨rfl, hb⟩; obtain ⟨l1, d1, rfl⟩ := swell_of_below hb; clear hb)
  exact bodyPost_ret (v := cyV no due (backPh am) am us tr nx g) (by simp [results, Tryd.results21, go_sem]) rfl ⟨rfl, by repeat (first | exact Below.refl _ _ | apply bl_alloc | apply bl_swell)⟩
theorem paid_not (no due ph am us tr nx : Int) (g : Bool) (w : World) : Calls Tryd.prog 21 #[cyV no due ph am us tr nx g, .bool false] w fun e w' => e = .returned (cyV no due (paidPh am g false) am us tr nx g) ∧ Below w.heap.size w w' := by
  cases g
  · go_enter Tryd.func21, Tryd.ntmps21
    go_wp2
    exact bodyPost_ret (v := cyV no due 7 am us tr nx false) (by simp [results, Tryd.results21, go_sem]) rfl ⟨rfl, by repeat (first | exact Below.refl _ _ | apply bl_alloc | apply bl_swell)⟩
  · go_enter Tryd.func21, Tryd.ntmps21
    go_wp2
    exact bodyPost_ret (v := cyV no due 3 am us tr nx true) (by simp [results, Tryd.results21, go_sem]) rfl ⟨rfl, by repeat (first | exact Below.refl _ _ | apply bl_alloc | apply bl_swell)⟩
theorem paid_any (no due ph am us tr nx : Int) (g over : Bool) (w : World) : Calls Tryd.prog 21 #[cyV no due ph am us tr nx g, .bool over] w fun e w' => e = .returned (cyV no due (paidPh am g over) am us tr nx g) ∧ Below w.heap.size w w' := by
  cases over
  · exact paid_not _ _ _ _ _ _ _ _ _
  · exact paid_over _ _ _ _ _ _ _ _ _
/-- the ladder's cells -/
structure Lad (w : World) : Prop where
  z : 0 < w.heap.size
  l0 : w.cell? ⟨0, 0, none⟩ = some (.int .i64 1)
  l1 : w.cell? ⟨0, 1, none⟩ = some (.int .i64 3)
  l2 : w.cell? ⟨0, 2, none⟩ = some (.int .i64 7)
theorem Lad.of {w w' : World} (h : Lad w) (hb : Below w.heap.size w w') : Lad w' :=
  ⟨Nat.lt_of_lt_of_le h.z hb.size, (hb.cell h.z).trans h.l0, (hb.cell h.z).trans h.l1, (hb.cell h.z).trans h.l2⟩
def ladD (tr : Int) : Int := if tr = 1 then 1 else if tr = 2 then 3 else 7
theorem charged_yes (no due ph am us tr nx td : Int) (g over : Bool) (w : World) : Calls Tryd.prog 16 #[cyV no due ph am us tr nx g, .int .u8 1, .int .i64 td, .bool over] w fun e w' => e = .returned (cyV no due (paidPh am g over) am us tr nx g) ∧ Below w.heap.size w w' := by
  go_enter Tryd.func16, Tryd.ntmps16
  go_wp2_with (go_at_call 21; refine (paid_any _ _ _ _ _ _ _ _ _ _).mono ?_; rintro e w1 ⟨rfl, hb⟩; obtain ⟨l1, d1, rfl⟩ := swell_of_below hb; clear hb)
  exact bodyPost_ret (v := cyV no due (paidPh am g over) am us tr nx g) (by simp [results, Tryd.results16, go_sem]) rfl ⟨rfl, by repeat (first | exact Below.refl _ _ | apply bl_alloc | apply bl_swell)⟩
theorem charged_soft1 (no due am us nx td : Int) (g : Bool) (w : World) (hl : Lad w) : Calls Tryd.prog 16 #[cyV no due 1 am us 1 nx g, .int .u8 2, .int .i64 td, .bool false] w fun e w' => e = .returned (cyV no due 2 am us 1 (wrap64 (td + 1)) g) ∧ Below w.heap.size w w' := by
  obtain ⟨hz, l0, l1, l2⟩ := hl
  have hz' : ¬ (0 = w.heap.size) := by omega
  go_enter Tryd.func16, Tryd.ntmps16
  go_wp2_with fail
  go_quiet ((go_at_call 15; exact Calls.quiet_of_same (tries_any _)))
  go_wp2
  go_region
  go_wp2
  exact bodyPost_ret (v := cyV no due 2 am us 1 (wrap64 (td + 1)) g) (by simp [results, Tryd.results16, go_sem]) rfl ⟨rfl, by repeat (first | exact Below.refl _ _ | apply bl_alloc | apply bl_swell | apply bl_drewN)⟩
theorem charged_soft2 (no due am us nx td : Int) (g : Bool) (w : World) (hl : Lad w) : Calls Tryd.prog 16 #[cyV no due 1 am us 2 nx g, .int .u8 2, .int .i64 td, .bool false] w fun e w' => e = .returned (cyV no due 2 am us 2 (wrap64 (td + 3)) g) ∧ Below w.heap.size w w' := by
  obtain ⟨hz, l0, l1, l2⟩ := hl
  have hz' : ¬ (0 = w.heap.size) := by omega
  go_enter Tryd.func16, Tryd.ntmps16
  go_wp2_with fail
  go_quiet ((go_at_call 15; exact Calls.quiet_of_same (tries_any _)))
  go_wp2
  go_region
  go_wp2
  exact bodyPost_ret (v := cyV no due 2 am us 2 (wrap64 (td + 3)) g) (by simp [results, Tryd.results16, go_sem]) rfl ⟨rfl, by repeat (first | exact Below.refl _ _ | apply bl_alloc | apply bl_swell | apply bl_drewN)⟩
theorem charged_soft3 (no due am us nx td : Int) (g : Bool) (w : World) (hl : Lad w) : Calls Tryd.prog 16 #[cyV no due 1 am us 3 nx g, .int .u8 2, .int .i64 td, .bool false] w fun e w' => e = .returned (cyV no due 2 am us 3 (wrap64 (td + 7)) g) ∧ Below w.heap.size w w' := by
  obtain ⟨hz, l0, l1, l2⟩ := hl
  have hz' : ¬ (0 = w.heap.size) := by omega
  go_enter Tryd.func16, Tryd.ntmps16
  go_wp2_with fail
  go_quiet ((go_at_call 15; exact Calls.quiet_of_same (tries_any _)))
  go_wp2
  go_region
  go_wp2
  exact bodyPost_ret (v := cyV no due 2 am us 3 (wrap64 (td + 7)) g) (by simp [results, Tryd.results16, go_sem]) rfl ⟨rfl, by repeat (first | exact Below.refl _ _ | apply bl_alloc | apply bl_swell | apply bl_drewN)⟩
theorem charged_soft4 (no due am us tr nx td : Int) (g : Bool) (w : World) (h : decide (tr < 4) = false) : Calls Tryd.prog 16 #[cyV no due 1 am us tr nx g, .int .u8 2, .int .i64 td, .bool false] w fun e w' => e = .returned (cyV no due 8 am us tr nx g) ∧ Below w.heap.size w w' := by
  go_enter Tryd.func16, Tryd.ntmps16
  go_wp2_with fail
  go_quiet ((go_at_call 15; exact Calls.quiet_of_same (tries_any _)))
  go_wp2
  exact bodyPost_ret (v := cyV no due 8 am us tr nx g) (by simp [results, Tryd.results16, go_sem]) rfl ⟨rfl, by repeat (first | exact Below.refl _ _ | apply bl_alloc | apply bl_swell | apply bl_drewN)⟩
theorem charged_softover (no due am us tr nx td : Int) (g : Bool) (w : World) : Calls Tryd.prog 16 #[cyV no due 1 am us tr nx g, .int .u8 2, .int .i64 td, .bool true] w fun e w' => e = .returned (cyV no due 8 am us tr nx g) ∧ Below w.heap.size w w' := by
  go_enter Tryd.func16, Tryd.ntmps16
  go_wp2_with fail
  go_quiet ((go_at_call 15; exact Calls.quiet_of_same (tries_any _)))
  go_wp2
  exact bodyPost_ret (v := cyV no due 8 am us tr nx g) (by simp [results, Tryd.results16, go_sem]) rfl ⟨rfl, by repeat (first | exact Below.refl _ _ | apply bl_alloc | apply bl_swell | apply bl_drewN)⟩
theorem charged_no (no due am us tr nx td v : Int) (g over : Bool) (w : World) (h1 : (v == 1) = false) (h2 : (v == 2) = false) : Calls Tryd.prog 16 #[cyV no due 1 am us tr nx g, .int .u8 v, .int .i64 td, .bool over] w fun e w' => e = .returned (cyV no due 8 am us tr nx g) ∧ Below w.heap.size w w' := by
  go_enter Tryd.func16, Tryd.ntmps16
  go_wp2_with fail
  go_quiet ((go_at_call 15; exact Calls.quiet_of_same (tries_any _)))
  go_wp2
  exact bodyPost_ret (v := cyV no due 8 am us tr nx g) (by simp [results, Tryd.results16, go_sem]) rfl ⟨rfl, by repeat (first | exact Below.refl _ _ | apply bl_alloc | apply bl_swell | apply bl_drewN)⟩
def chPh (am tr v : Int) (g over : Bool) : Int := if v = 1 then paidPh am g over else if v = 2 ∧ over = false ∧ tr < 4 then 2 else 8
def chNx (tr nx v td : Int) (over : Bool) : Int := if v = 2 ∧ over = false ∧ tr < 4 then wrap64 (td + ladD tr) else nx
theorem charged_any (no due am us tr nx td v : Int) (g over : Bool) (w : World) (hl : Lad w) (ht : 1 ≤ tr) : Calls Tryd.prog 16 #[cyV no due 1 am us tr nx g, .int .u8 v, .int .i64 td, .bool over] w fun e w' => e = .returned (cyV no due (chPh am tr v g over) am us tr (chNx tr nx v td over) g) ∧ Below w.heap.size w w' := by
  unfold chPh chNx
  by_cases h1 : v = 1
  · subst h1
    simp only [if_true, show ¬ ((1 : Int) = 2) by decide, false_and, if_false]
    exact charged_yes _ _ _ _ _ _ _ _ _ _ _
  · by_cases h2 : v = 2
    · subst h2
      cases over
      · by_cases h4 : tr < 4
        · simp only [h4, show ¬ ((2 : Int) = 1) by decide, and_self, if_true, if_false]
          have : tr = 1 ∨ tr = 2 ∨ tr = 3 := by omega
          rcases this with rfl | rfl | rfl
          · exact charged_soft1 _ _ _ _ _ _ _ _ hl
          · exact charged_soft2 _ _ _ _ _ _ _ _ hl
          · exact charged_soft3 _ _ _ _ _ _ _ _ hl
        · simp only [h4, show ¬ ((2 : Int) = 1) by decide, and_false, if_false]
          exact charged_soft4 _ _ _ _ _ _ _ _ _ (decide_eq_false h4)
      · simp only [show ¬ ((2 : Int) = 1) by decide, show ¬ (true = false) by decide, false_and, and_false, if_false]
        exact charged_softover _ _ _ _ _ _ _ _ _
    · simp only [h1, h2, false_and, if_false]
      exact charged_no _ _ _ _ _ _ _ _ _ _ _ (beq_eq_false_iff_ne.2 h1) (beq_eq_false_iff_ne.2 h2)
end Go.Proofs.YtggmfcdhdmfipaaDoor
