/- WORLDS IN ONE FORM: what a call leaves, where all that it made is garbage: the old heap, some blocks behind it, another count of draws. Helper lemmas for the walks. -/
import Derived.WalkKit
import Derived.KernelRfl
import Derived.Deep.QuietTactic
import Derived.BigQuiet
import Derived.Outline
import Derived.Laws.ResultCell
import Derived.RegionTactic
import Derived.BigRegion
import Derived.ChangeAlike
import Derived.Deep.Draws
import Derived.LoopN
import Derived.Below
import Derived.ChangeSame
set_option linter.unusedSimpArgs false
set_option linter.unusedVariables false
namespace Go
open Go.RowKit Go.WideShapes Go.ChangeShapes
def World.swell (w : World) (l : Array Obj) (d : Nat) : World := { w with heap := w.heap ++ l, drawn := d }
theorem swell_of_below {w w' : World} (h : Below w.heap.size w w') : ∃ l d, w' = w.swell l d := by
  refine ⟨w'.heap.extract w.heap.size w'.heap.size, w'.drawn, ?_⟩
  have e : w.heap ++ w'.heap.extract w.heap.size w'.heap.size = w'.heap := by
    apply Array.ext_getElem?
    intro i
    by_cases hi : i < w.heap.size
    · rw [Array.getElem?_append_left hi]; exact (h.block i hi).symm
    · have := h.size
      rw [Array.getElem?_append_right (by omega), Array.getElem?_extract]
      by_cases h2 : i < w'.heap.size
      · rw [if_pos (by omega)]; congr 1; omega
      · rw [if_neg (by omega), Array.getElem?_eq_none (by omega)]
  cases w'; cases w
  have h1 := h.os; have h2 := h.tape; have h3 := h.output
  simp only [World.swell] at *
  subst h1 h2 h3
  rw [e]
section
variable (w : World) (l : Array Obj) (d : Nat)
@[simp, go_sem] theorem World.size_swell : (w.swell l d).heap.size = w.heap.size + l.size := by simp [World.swell]
@[go_sem] theorem World.cell?_swell (n i : Nat) (h : n < w.heap.size) : (w.swell l d).cell? ⟨n, i, none⟩ = w.cell? ⟨n, i, none⟩ := by
  simp only [World.swell, World.cell?, Array.getElem?_append_left h]
@[go_sem] theorem World.frozen?_swell (n i : Nat) (h : n < w.heap.size) : (w.swell l d).frozen? ⟨n, i, none⟩ = w.frozen? ⟨n, i, none⟩ := by
  simp only [World.swell, World.frozen?, Array.getElem?_append_left h]
@[go_sem] theorem World.swell_drew : (w.swell l d).drew = w.swell l (d + 1) := rfl
@[go_sem] theorem World.swell_drewN (n : Nat) : (w.swell l d).drewN n = w.swell l (d + n) := rfl
@[go_sem] theorem World.drew_swell : w.drew.swell l d = w.swell l d := rfl
@[go_sem] theorem World.drewN_swell (n : Nat) : (w.drewN n).swell l d = w.swell l d := rfl
@[go_sem] theorem World.setCell_swell (n i : Nat) (v : Value) (h : n < w.heap.size) : (w.swell l d).setCell ⟨n, i, none⟩ v = (w.setCell ⟨n, i, none⟩ v).swell l d := by
  simp only [World.swell, World.setCell, World.mk.injEq, and_true, true_and]
  apply Array.ext_getElem?
  intro j
  simp only [Array.getElem?_modify, Array.getElem?_append, Array.size_modify]
  by_cases hj : n = j
  · subst hj; simp [h]
  · simp [hj]
@[go_sem] theorem World.setCell_drewN (p : Addr) (v : Value) (n : Nat) : (w.drewN n).setCell p v = (w.setCell p v).drewN n := rfl
end
theorem bl_alloc {w W : World} (h : Below w.heap.size w W) (o : Obj) : Below w.heap.size w (W.alloc o) := h.alloc h.size o
theorem bl_drewN {B : Nat} {w W : World} (h : Below B w W) (n : Nat) : Below B w (W.drewN n) := ⟨h.os, h.tape, h.output, h.size, h.block⟩
theorem bl_swell {w W : World} (h : Below w.heap.size w W) (l : Array Obj) (d : Nat) : Below w.heap.size w (W.swell l d) :=
  ⟨h.os, h.tape, h.output, by have := h.size; simp; omega, fun i hi => by
    have := h.size
    simp only [World.swell]
    rw [Array.getElem?_append_left (by omega)]
    exact h.block i hi⟩
theorem bl_set {w W : World} (h : Below w.heap.size w W) {p : Addr} (hp : w.heap.size ≤ p.block) (v : Value) : Below w.heap.size w (W.setCell p v) := h.setCell hp v
section sums
variable (n m a b c z : Nat)
@[go_sem] theorem sw_lt_r : (n < a + b + c) = (n < a + (b + c)) := by rw [Nat.add_assoc]
@[go_sem] theorem sw_lt_l : (a + b + c < m) = (a + (b + c) < m) := by rw [Nat.add_assoc]
@[go_sem] theorem sw_eq_r : (n = a + b + c) = (n = a + (b + c)) := by rw [Nat.add_assoc]
@[go_sem] theorem sw_eq_l : (a + b + c = m) = (a + (b + c) = m) := by rw [Nat.add_assoc]
@[go_sem] theorem sw_pos : (0 < 1 + z) = True := by simp; omega
@[go_sem] theorem sw_lt1 : (a + 1 < 1 + z) = (a < z) := by simp; omega
@[go_sem] theorem sw_eq1 : (a + 1 = 1 + z) = (a = z) := by simp; omega
@[go_sem] theorem sw_eq1' : (1 + z = a + 1) = (z = a) := by simp; omega
@[go_sem] theorem sw_lt2 : (1 + z < a + 1) = (z < a) := by simp; omega
end sums
section
variable {H : Type} {enc : TypeId × Value → H} {P : Program}
theorem post_of_below {f : Func} {s : ChangeSpec} {apart fresh handsOn again : Bool} {W W' : World} {args : Array Value} {v : Value} {ds gs : List (DataW H)} {before pa pv : List MemPlace}
    (hW : DataW.Whole enc P f.params.toList s.vars apart W args.toList ds gs before)
    (hres : ∀ (b : Nat) (sp : Nat → Bool) (hd : Bool), DataW.TrodAll enc P W' b sp hd f.resultTypes.toList (v.resultList f.resultTypes.size) (s.fn H (ds ++ gs)).results [])
    (hargs : ∀ sp : Nat → Bool, (∀ p ∈ before, sp p.block = true) → DataW.TrodAll enc P W' 0 sp true f.params.toList args.toList (s.fn H (ds ++ gs)).args pa)
    (hvars : ∀ sp : Nat → Bool, (∀ p ∈ before, sp p.block = true) → DataW.TrodVars enc P W' sp s.vars (s.fn H (ds ++ gs)).vars pv)
    (hps : before = pa ++ pv) (hb : Below W.heap.size W W')
    (hok : ∀ (j : Nat) (t : TypeId) (r : Value), f.resultTypes[j]? = some t → (v.resultList f.resultTypes.size)[j]? = some r → Value.okWide P W' .any 0 t r) :
    s.post enc P f apart fresh handsOn again W args v W' := by
  have hlt : ∀ p ∈ before, p.block < W.heap.size := fun p hp => hW.lt p hp
  have hold : ∀ p ∈ before, (fun b => decide (b < W.heap.size)) p.block = true := fun p hp => by simpa using hlt p hp
  refine ⟨ds, gs, before, [], pa, pv, hW, hres _ _ _, hargs _ hold, hvars _ hold, World.keptBut_mono (fun p hp => ⟨hp, ?_⟩) (hb.frame (· ∈ before)), fun _ => ?_⟩
  · rw [hps, List.mem_append] at hp
    exact Or.inr hp
  · obtain ⟨_, _, _, _, _, hz, hn⟩ := hW
    refine ⟨hok, _, _, ([] ++ pa) ++ pv, ⟨[] ++ pa, pv, trodAll_append (hargs _ (fun _ _ => rfl)) (hres _ _ _), hvars _ (fun _ _ => rfl), rfl, ?_, ?_⟩, ?_⟩
    · intro b off hp
      have hin : MemPlace.cell b off ∈ before := by rw [hps]; simpa using hp
      rw [hb.frozen (hlt _ hin)]
      exact hz b off hin
    · intro ha
      have := hn ha
      rw [hps] at this
      simpa using this
    · intro p hp _
      rw [hps]
      simpa using hp
end
structure Swell where
  l : Array Obj
  d : Nat
  deriving Inhabited
theorem wp_region_quiet_swell {P : Program} {id : Nat} {Q : Exit → Act → World → Prop} {a : Act} {w : World} {l : List Oper} (hm : P.follows .mixedOrders = true) (hB : Region.lexB .any l.toArray = true)
    (h : wpQuiet P l.toArray (fun w' => ∃ p : Swell, w' = w.swell p.l p.d) (fun a' => ∀ w', (∃ p : Swell, w' = w.swell p.l p.d) → Q .normal a' w') l a) : (Code.region id l.toArray true).wp P Q a w :=
  wp_region_quiet (C := fun w' => ∃ p : Swell, w' = w.swell p.l p.d) hm hB ⟨⟨#[], w.drawn + 1⟩, by simp [World.swell]⟩ (by simpa using h)
theorem bl_swells (w : World) (l : Array Obj) (d : Nat) : Below w.heap.size w (w.swell l d) := bl_swell (Below.refl _ _) l d
theorem Calls.swell_of {P : Program} {f : FuncId} {args : Array Value} {w : World} {d : Nat} {l : Array Obj} {v : Value}
    (h : Calls P f args (w.swell l d) fun e w' => e = .returned v ∧ Below (w.swell l d).heap.size (w.swell l d) w') : Calls P f args (w.swell l d) fun e w'' => e = .returned v ∧ ∃ p : Swell, w'' = w.swell p.l p.d :=
  h.mono fun _ _ ⟨he, hb⟩ => ⟨he, by
    obtain ⟨l', d', rfl⟩ := swell_of_below ((bl_swells w l d).trans (hb.mono (by simp)))
    exact ⟨⟨l', d'⟩, rfl⟩⟩
theorem Calls.swell_of_same {P : Program} {f : FuncId} {args : Array Value} {w : World} {d : Nat} {l : Array Obj} {v : Value}
    (h : Calls P f args (w.swell l d) fun e w' => e = .returned v ∧ w' = w.swell l d) : Calls P f args (w.swell l d) fun e w'' => e = .returned v ∧ ∃ p : Swell, w'' = w.swell p.l p.d :=
  h.mono fun _ _ ⟨he, hb⟩ => ⟨he, ⟨l, d⟩, hb⟩
end Go
