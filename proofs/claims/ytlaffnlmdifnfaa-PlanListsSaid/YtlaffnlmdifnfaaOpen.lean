/- A SLICE OF STRUCTS THAT CAME IN: each field's cell, and what it reads as. -/
import Derived.Test.YtlaffnlmdifnfaaLaw
import Derived.Deep.Slices
import Derived.ChangeArms
import Derived.OpenShut
set_option linter.unusedSimpArgs false
set_option linter.unusedVariables false
namespace Go.Proofs.Ytlaffnlmdifnfaa
open Go.ChangeShapes Go.WideShapes Go.Deep Go.RowKit
section
variable {H : Type} {enc : TypeId × Value → H} {P : Program} {w : World} {base : Nat} {spare : Nat → Bool} {held : Bool}
/-- one field of a struct that lies in a row -/
theorem field_of {e : TypeId} {fs : Array Field} {n C j : Nat} {f : Field} {a : Addr} {cs : List Value} {x : DataW H × List MemPlace} (he : P.underlying e = some (.struct fs)) (hc : w.cells? base a C = some cs) (h : DataW.trod enc P w base spare held n e cs = some x)
    (hf : fs[j]? = some f) (h1 : P.cellsOf f.type = 1) (ho : f.offset < C) : ∃ v m y, w.cell? (a.add f.offset) = some v ∧ DataW.trod enc P w base spare held m f.type [v] = some y := by
  obtain ⟨xs, m, _, _, _, hl, hg⟩ := DataW.trod_struct he h
  obtain ⟨_, hcl, hat⟩ := World.cells?_some hc
  have hj : j < fs.size := (Array.getElem?_eq_some_iff.1 hf).1
  have hv : cs[f.offset]? = some (cs[f.offset]'(by omega)) := List.getElem?_eq_getElem (by omega)
  have hg1 := hg j f hf
  rw [h1, List.drop_eq_getElem_cons (by omega)] at hg1
  have hy : xs[j]? = some (xs[j]'(by omega)) := List.getElem?_eq_getElem (by omega)
  exact ⟨_, m, _, by rw [hat f.offset ho, hv], hg1.trans hy⟩
end
theorem open_plans {H : Type} {enc : TypeId × Value → H} {w : World} {base : Nat} {spare : Nat → Bool} {held : Bool} {fuel : Nat} {a : Option Addr} {len cap : Nat} {x : DataW H × List MemPlace}
    (h : DataW.trod enc Try.prog w base spare held fuel 22 [.slice a len cap] = some x) : ∃ Z, Plans w a len Z := by
  rcases open_slice Try.underlying22 h with ⟨h0, _⟩ | ⟨ad, l, c, m, n, D, Q, hcs, _, hlc, _, hm, _, hi⟩
  · simp at h0
    exact ⟨fun _ => ⟨0, 0, 0, 0, false, false⟩, .inl h0.2.1⟩
  · simp at hcs
    obtain ⟨rfl, rfl, rfl⟩ := hcs
    have key : ∀ i, ∃ p : Pl, i < len → (w.cell? (ad.add (i * 6 + 0)) = some (.int .i64 p.pr) ∧ w.cell? (ad.add (i * 6 + 1)) = some (.int .u8 p.un) ∧ w.cell? (ad.add (i * 6 + 2)) = some (.int .i64 p.ev) ∧
        w.cell? (ad.add (i * 6 + 3)) = some (.int .i64 p.tr) ∧ w.cell? (ad.add (i * 6 + 4)) = some (.bool p.g) ∧ w.cell? (ad.add (i * 6 + 5)) = some (.bool p.l)) ∧ p.Ok := fun i => by
      by_cases hlt : i < len
      · obtain ⟨cs, hc, ht⟩ := hi i (by rw [hm]; split <;> omega)
        rw [show Try.prog.cellsOf 26 = 6 by kernel_rfl] at hc
        obtain ⟨v0, _, _, c0, t0⟩ := field_of Try.underlying26 hc ht (j := 0) rfl (by kernel_rfl) (by decide)
        obtain ⟨v1, _, _, c1, t1⟩ := field_of Try.underlying26 hc ht (j := 1) rfl (by kernel_rfl) (by decide)
        obtain ⟨v2, _, _, c2, t2⟩ := field_of Try.underlying26 hc ht (j := 2) rfl (by kernel_rfl) (by decide)
        obtain ⟨v3, _, _, c3, t3⟩ := field_of Try.underlying26 hc ht (j := 3) rfl (by kernel_rfl) (by decide)
        obtain ⟨v4, _, _, c4, t4⟩ := field_of Try.underlying26 hc ht (j := 4) rfl (by kernel_rfl) (by decide)
        obtain ⟨v5, _, _, c5, t5⟩ := field_of Try.underlying26 hc ht (j := 5) rfl (by kernel_rfl) (by decide)
        rw [add_add] at c0 c1 c2 c3 c4 c5
        obtain ⟨n0, e0, _, wf0⟩ := DataW.trod_int (k := .i64) (by kernel_rfl) t0
        obtain ⟨n1, e1, _, wf1⟩ := DataW.trod_int (k := .u8) (by kernel_rfl) t1
        obtain ⟨n2, e2, _, wf2⟩ := DataW.trod_int (k := .i64) (by kernel_rfl) t2
        obtain ⟨n3, e3, _, wf3⟩ := DataW.trod_int (k := .i64) (by kernel_rfl) t3
        obtain ⟨n4, e4, _⟩ := DataW.trod_bool (by kernel_rfl) t4
        obtain ⟨n5, e5, _⟩ := DataW.trod_bool (by kernel_rfl) t5
        simp only [List.cons.injEq, and_true] at e0 e1 e2 e3 e4 e5
        subst e0 e1 e2 e3 e4 e5
        have b0 := bounds_i64 wf0
        have b1 := bounds_u8 wf1
        have b2 := bounds_i64 wf2
        have b3 := bounds_i64 wf3
        exact ⟨⟨n0, n1, n2, n3, n4, n5⟩, fun _ => ⟨⟨c0, c1, c2, c3, c4, c5⟩, ⟨⟨by dsimp only; omega, by dsimp only; omega⟩, ⟨by dsimp only; omega, by dsimp only; omega⟩, ⟨by dsimp only; omega, by dsimp only; omega⟩, ⟨by dsimp only; omega, by dsimp only; omega⟩⟩⟩⟩
      · exact ⟨⟨0, 0, 0, 0, false, false⟩, fun h => absurd h hlt⟩
    by_cases h0 : len = 0
    · exact ⟨fun _ => ⟨0, 0, 0, 0, false, false⟩, .inl h0⟩
    obtain ⟨Z, hk⟩ := Classical.axiomOfChoice key
    refine ⟨Z, .inr ?_⟩
    have c00 := (hk 0 (by omega)).1.1
    obtain ⟨b, off, spot⟩ := ad
    have hspot : spot = none := by simpa [Addr.add] using World.cell?_spot c00
    subst hspot
    refine ⟨b, off, rfl, ?_, fun i hlt => ?_⟩
    · have := World.block_lt_of_cell? w _ c00
      rwa [Go.WideShapes.add_plain] at this
    · obtain ⟨⟨c0, c1, c2, c3, c4, c5⟩, ok⟩ := hk i hlt
      rw [Go.WideShapes.add_plain] at c0 c1 c2 c3 c4 c5
      exact ⟨⟨c0, c1, c2, c3, c4, c5⟩, ok⟩
theorem law_long (a : Option Addr) (len cap : Nat) (n : Int) (w : World) (h20 : 20 < len) : Calls Try.prog 3 #[.slice a len cap, .int .i64 n] w fun e w' => e = .returned (.bool true) ∧ Below w.heap.size w w' := by
  have h4 : decide ((20 : Int) < (len : Int)) = true := by simp; omega
  have h4' : (20 : Int) < (len : Int) := by omega
  go_enter Try.func3, Try.ntmps3
  go_wp2_with fail
  refine (awake_law w).mono ?_
  rintro e w1 ⟨rfl, b1⟩
  go_wp2_with fail
  refine (awake_law w1).mono ?_
  rintro e w2 ⟨rfl, b2⟩
  go_wp2
  go_ret
  exact ⟨rfl, b1.trans (b2.mono b1.size)⟩
theorem law_whole (a : Option Addr) (len cap : Nat) (n : Int) (w : World) (h : ∃ Z, Plans w a len Z) : Calls Try.prog 3 #[.slice a len cap, .int .i64 n] w fun e w' => e = .returned (.bool true) ∧ Below w.heap.size w w' := by
  obtain ⟨Z, hZ⟩ := h
  by_cases h20 : len ≤ 20
  · exact law_any a len cap Z n w hZ h20
  · exact law_long a len cap n w (by omega)
end Go.Proofs.Ytlaffnlmdifnfaa
