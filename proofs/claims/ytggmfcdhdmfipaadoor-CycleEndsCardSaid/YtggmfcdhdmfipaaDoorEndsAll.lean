import Derived.Test.YtggmfcdhdmfipaaDoorEndsW
set_option linter.unusedSimpArgs false
set_option linter.unusedVariables false
set_option maxHeartbeats 4000000
namespace Go.Proofs.YtggmfcdhdmfipaaDoor
open Go.RowKit
theorem ends_long (am : Int) (g over : Bool) (A : Option Addr) (len cap : Nat) (w : World) (hl : Lad w) (hlen : ¬ len ≤ 20) : Calls Tryd.prog 4 #[.int .u8 am, .bool g, .slice A len cap, .bool over] w fun e w' => e = .returned (.bool true) ∧ Below w.heap.size w w' := by
  have h20 : (20 : Int) < len := by omega
  go_enter Tryd.func4, Tryd.ntmps4
  go_wp2_with (first | (go_at_call 8; refine (awake_ok _ ?hl).mono ?_; (case hl => exact hl.of (by repeat (first | exact Below.refl _ _ | apply bl_alloc | apply bl_swell | apply bl_drewN | apply Below.drew))); rintro e w1 ⟨rfl, hb⟩; obtain ⟨l1, d1, rfl⟩ := swell_of_below hb; clear hb))
  go_ret
  exact ⟨rfl, by repeat (first | exact Below.refl _ _ | apply bl_alloc | apply bl_swell | apply bl_drewN | apply Below.drew)⟩
theorem ends_any (am : Int) (g over : Bool) (A : Option Addr) (len cap b off : Nat) (zs : List Int) (w : World) (hl : Lad w) (a0 : 0 ≤ am) (a1 : am ≤ 255)
    (hz : ∀ k : Nat, 0 ≤ zs[k]?.getD 0 ∧ zs[k]?.getD 0 ≤ 255)
    (hcell : Hid (∀ k : Nat, k < len → A = some ⟨b, off, none⟩ ∧ w.cell? ⟨b, off + k, none⟩ = some (.int .u8 (zs[k]?.getD 0)))) :
    Calls Tryd.prog 4 #[.int .u8 am, .bool g, .slice A len cap, .bool over] w fun e w' => e = .returned (.bool true) ∧ Below w.heap.size w w' := by
  by_cases h : len ≤ 20
  · exact ends_walk am g over A len cap b off zs w hl a0 a1 h hz hcell
  · exact ends_long am g over A len cap w hl h
end Go.Proofs.YtggmfcdhdmfipaaDoor
