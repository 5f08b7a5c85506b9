import Derived.Test.YtggmfcdhdmfipaaDoorAwake
import Derived.LoopTactic
import Derived.Deep.LoopGhost
set_option linter.unusedSimpArgs false
set_option linter.unusedVariables false
set_option maxHeartbeats 4000000
namespace Go.Proofs.YtggmfcdhdmfipaaDoor
open Go.RowKit
theorem card2 (no due am us tr nx : Int) (g : Bool) (w : World) (h0 : 0 ≤ tr) (h1 : tr ≤ 100) : Calls Tryd.prog 13 #[cyV no due 2 am us tr nx g] w fun e w' => e = .returned (cyV no due 1 am us (tr + 1) 0 g) ∧ Below w.heap.size w w' := by
  go_enter Tryd.func13, Tryd.ntmps13
  go_wp2
  try go_region
  try go_wp2
  exact bodyPost_ret (v := cyV no due 1 am us (tr + 1) 0 g) (by simp [results, Tryd.results13, go_sem]) rfl ⟨rfl, by repeat (first | exact Below.refl _ _ | apply bl_alloc | apply bl_swell | apply bl_drewN | apply Below.drew)⟩
def h3Ph (am v : Int) (over : Bool) : Int := if v = 1 then (if over then 5 else 4) else backPh am
theorem hear3 (sub no due am us tr nx td : Int) (v : Int) (g over : Bool) (w : World) (h0 : (v == 0) = false) : Calls Tryd.prog 9 #[.int .i64 sub, cyV no due 3 am us tr nx g, ntV 3 sub no 0 0 v, .int .i64 td, .bool over] w fun e w' => e = .returned (.tuple #[cyV no due (h3Ph am v over) am us tr nx g, .int .i64 0]) ∧ Below w.heap.size w w' := by
  unfold h3Ph
  by_cases h1 : v = 1
  · subst h1
    cases over
    · exact hear3y _ _ _ _ _ _ _ _ _ _
    · exact hear3o _ _ _ _ _ _ _ _ _ _
  · rw [if_neg h1]; exact hear3n _ _ _ _ _ _ _ _ _ _ _ _ h0 (by simp [h1])
def h4Ph (v : Int) : Int := if v = 1 then 7 else 5
theorem hear4 (sub no due am us tr nx td : Int) (v : Int) (g over : Bool) (w : World) (h0 : (v == 0) = false) : Calls Tryd.prog 9 #[.int .i64 sub, cyV no due 4 am us tr nx g, ntV 5 sub no 0 0 v, .int .i64 td, .bool over] w fun e w' => e = .returned (.tuple #[cyV no due (h4Ph v) am us tr nx g, .int .i64 0]) ∧ Below w.heap.size w w' := by
  unfold h4Ph
  by_cases h1 : v = 1
  · subst h1; exact hear4y _ _ _ _ _ _ _ _ _ _ _
  · rw [if_neg h1]; exact hear4n _ _ _ _ _ _ _ _ _ _ _ _ h0 (by simp [h1])
/-- where a cycle can be, and what it has asked so far -/
structure EInv (am : Int) (g : Bool) (ph tr A1 A2 A3 A4 A5 i : Int) : Prop where
  p1 : ph = 1 → am ≠ 0 ∧ 1 ≤ tr ∧ tr ≤ 4 ∧ A1 = tr - 1 ∧ A2 = 0 ∧ A3 = 0 ∧ A4 = 0 ∧ A5 = 0 ∧ i = 2 * (tr - 1)
  p2 : ph = 2 → am ≠ 0 ∧ 1 ≤ tr ∧ tr ≤ 3 ∧ A1 = tr ∧ A2 = 0 ∧ A3 = 0 ∧ A4 = 0 ∧ A5 = 0 ∧ i = 2 * tr - 1
  p3 : ph = 3 → g = true ∧ A2 = 0 ∧ A3 = 0 ∧ A4 = 0 ∧ A5 = 0 ∧ i ≤ 7
  p4 : ph = 4 → g = true ∧ A2 = 0 ∧ A3 = 1 ∧ A4 = 0 ∧ A5 = 0 ∧ i ≤ 8
  p5 : ph = 5 → g = true ∧ A2 = 0 ∧ A3 = 1 ∧ A4 = 0 ∧ i ≤ 9
  p6 : ph = 6 → A2 = 0 ∧ i ≤ 10
  lo : 1 ≤ ph
  hi : ph ≤ 9
  i0 : 0 ≤ i
  i1 : i ≤ 11
  a1 : 0 ≤ A1 ∧ A1 ≤ 4
  a2 : 0 ≤ A2 ∧ A2 ≤ 1
  a3 : 0 ≤ A3 ∧ A3 ≤ 1
  a4 : 0 ≤ A4 ∧ A4 ≤ 1
  a5 : 0 ≤ A5 ∧ A5 ≤ 1
  gz : g = false → A3 = 0 ∧ A4 = 0 ∧ A5 = 0
theorem einv_begin (am : Int) (g : Bool) (h : am ≠ 0) : EInv am g 1 1 0 0 0 0 0 0 := by
  constructor <;> (try simp_all)
theorem einv_begin0 (g : Bool) : EInv 0 g (paidPh 0 g false) 0 0 0 0 0 0 0 := by
  cases g <;> constructor <;> simp [paidPh]
theorem einv1 {am : Int} {g over : Bool} {tr A1 A2 A3 A4 A5 i : Int} (v : Int) (h : EInv am g 1 tr A1 A2 A3 A4 A5 i) : EInv am g (chPh am tr v g over) tr (A1 + 1) A2 A3 A4 A5 (i + 1) := by
  obtain ⟨ha, h1, h2, rfl, rfl, rfl, rfl, rfl, rfl⟩ := h.p1 rfl
  unfold chPh paidPh backPh
  by_cases hv : v = 1
  · cases over <;> cases g <;> constructor <;> (try simp [hv, ha]) <;> (try omega)
  · by_cases hs : v = 2 ∧ over = false ∧ tr < 4
    · simp only [hv, hs, if_false, if_true, and_self]
      obtain ⟨_, _, h3⟩ := hs
      constructor <;> (try simp [ha]) <;> (try omega)
    · simp only [hv, hs, if_false]
      constructor <;> (try simp) <;> (try omega)
theorem einv2 {am : Int} {g : Bool} {tr A1 A2 A3 A4 A5 i : Int} (h : EInv am g 2 tr A1 A2 A3 A4 A5 i) : EInv am g 1 (tr + 1) A1 A2 A3 A4 A5 (i + 1) := by
  obtain ⟨ha, h1, h2, rfl, rfl, rfl, rfl, rfl, rfl⟩ := h.p2 rfl
  constructor <;> (try simp [ha]) <;> (try omega)
theorem einv3 {am : Int} {g over : Bool} {tr A1 A2 A3 A4 A5 i : Int} (v : Int) (h : EInv am g 3 tr A1 A2 A3 A4 A5 i) : EInv am g (h3Ph am v over) tr A1 A2 (A3 + 1) A4 A5 (i + 1) := by
  obtain ⟨rfl, rfl, rfl, rfl, rfl, h7⟩ := h.p3 rfl
  have := h.i0; have := h.a1
  unfold h3Ph backPh
  by_cases hv : v = 1
  · cases over <;> constructor <;> (try simp [hv]) <;> (try omega)
  · by_cases ha : am = 0 <;> constructor <;> (try simp [hv, ha]) <;> (try omega)
theorem einv4 {am : Int} {g : Bool} {tr A1 A2 A3 A4 A5 i : Int} (v : Int) (h : EInv am g 4 tr A1 A2 A3 A4 A5 i) : EInv am g (h4Ph v) tr A1 A2 A3 A4 (A5 + 1) (i + 1) := by
  obtain ⟨rfl, rfl, rfl, rfl, rfl, h7⟩ := h.p4 rfl
  have := h.i0; have := h.a1
  unfold h4Ph
  by_cases hv : v = 1 <;> constructor <;> (try simp [hv]) <;> (try omega)
theorem einv5 {am : Int} {g : Bool} {tr A1 A2 A3 A4 A5 i : Int} (h : EInv am g 5 tr A1 A2 A3 A4 A5 i) : EInv am g (backPh am) tr A1 A2 A3 (A4 + 1) A5 (i + 1) := by
  obtain ⟨rfl, rfl, rfl, rfl, h7⟩ := h.p5 rfl
  have := h.i0; have := h.a1; have := h.a5
  unfold backPh
  by_cases ha : am = 0 <;> constructor <;> (try simp [ha]) <;> (try omega)
theorem einv6 {am : Int} {g : Bool} {tr A1 A2 A3 A4 A5 i : Int} (h : EInv am g 6 tr A1 A2 A3 A4 A5 i) : EInv am g 9 tr A1 (A2 + 1) A3 A4 A5 (i + 1) := by
  obtain ⟨rfl, h7⟩ := h.p6 rfl
  have := h.i0; have := h.a1; have := h.a3; have := h.a4; have := h.a5; have hg := h.gz
  constructor <;> (try simp) <;> first | omega | (intro e; have := hg e; omega)
end Go.Proofs.YtggmfcdhdmfipaaDoor
