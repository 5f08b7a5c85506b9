/- MORE LEMMAS ON WORLDS IN ONE FORM: an old block's number against sums; blocks that are made behind others. -/
import Derived.Test.YtlaffnlmdifnfaaBase
import Derived.OpenShut
import Derived.ProofKit
set_option linter.unusedSimpArgs false
set_option linter.unusedVariables false
namespace Go
@[go_sem] theorem sw_old_lt {n a : Nat} (h : n < a) (z : Nat) : (n < a + z) = True := by simp; omega
@[go_sem] theorem sw_old_eq {n a : Nat} (h : n < a) (z : Nat) : (n = a + z) = False := by simp; omega
@[go_sem] theorem sw_old_eq' {n a : Nat} (h : n < a) (z : Nat) : (a + z = n) = False := by simp; omega
theorem alloc_swell (w : World) (l : Array Obj) (d : Nat) (o : Obj) : (w.swell l d).alloc o = w.swell (l.push o) d := by
  simp only [World.swell, World.alloc, World.mk.injEq, and_true]
  simp
theorem swell_swell (w : World) (l l' : Array Obj) (d d' : Nat) : (w.swell l d).swell l' d' = w.swell (l ++ l') d' := by
  simp only [World.swell, World.mk.injEq, and_true]
  simp
theorem swell_none (w : World) : w = w.swell #[] w.drawn := by simp [World.swell]
/-- a slice of integers that came in: nil; or it leads to a row of 'cap' cells, the numbers 'zs' -/
def IsRow (k : IntKind) (w : World) (a : Option Addr) (len cap : Nat) (zs : List Int) : Prop :=
  (a = none ∧ len = 0 ∧ cap = 0 ∧ zs = []) ∨
  ∃ x, a = some x ∧ len ≤ cap ∧ cap ≤ maxLen ∧ zs.length = cap ∧ (∀ i, i < zs.length → w.cell? (x.add i) = some (.int k (zs.getD i 0))) ∧ ∀ n ∈ zs, (Lit.int k n).wf = true
theorem IsRow.cells {k : IntKind} {w : World} {a : Option Addr} {len cap : Nat} {zs : List Int} (h : IsRow k w a len cap zs) :
    ∃ b off, ∀ j : Nat, j < len → a = some ⟨b, off, none⟩ ∧ w.cell? ⟨b, off + j, none⟩ = some (.int k (zs[j]?.getD 0)) := by
  rcases h with ⟨_, rfl, _, _⟩ | ⟨x, rfl, hl, _, hz, hc, _⟩
  · exact ⟨0, 0, fun j hj => absurd hj (Nat.not_lt_zero _)⟩
  · by_cases h0 : len = 0
    · subst h0; exact ⟨0, 0, fun j hj => absurd hj (Nat.not_lt_zero _)⟩
    · obtain ⟨b, off, rfl, hc'⟩ := ints_at hc (by omega)
      refine ⟨b, off, fun j hj => ⟨rfl, ?_⟩⟩
      rw [hc' j (by omega), List.getD_eq_getElem?_getD]
theorem IsRow.wf {k : IntKind} {w : World} {a : Option Addr} {len cap : Nat} {zs : List Int} (h : IsRow k w a len cap zs) : ∀ n ∈ zs, (Lit.int k n).wf = true := by
  rcases h with ⟨_, _, _, rfl⟩ | ⟨_, _, _, _, _, _, hw⟩
  · simp
  · exact hw
theorem IsRow.le {k : IntKind} {w : World} {a : Option Addr} {len cap : Nat} {zs : List Int} (h : IsRow k w a len cap zs) : len ≤ zs.length ∧ len ≤ cap := by
  rcases h with ⟨_, rfl, rfl, rfl⟩ | ⟨_, _, hl, _, hz, _, _⟩
  · simp
  · omega
end Go
