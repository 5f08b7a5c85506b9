import Derived.Test.YtlaffnlmdifnfaaAddMore
set_option linter.unusedSimpArgs false
set_option linter.unusedVariables false
set_option maxHeartbeats 8000000
set_option maxRecDepth 100000
namespace Go.Proofs.Ytlaffnlmdifnfaa
open Go.RowKit
theorem get_none (a : Option Addr) (n c : Nat) (k : Int) (w : World) (h : k < 0 ∨ (n : Int) ≤ k) : Calls Try.prog 8 #[.slice a n c, .int .i64 k] w fun e w' => e = .returned (.tuple #[.agg #[.int .i64 0, .int .u8 0, .int .i64 0, .int .i64 0, .bool false, .bool false], .int .i64 2]) ∧ Below w.heap.size w w' := by
  have hd : (decide (k < 0) || decide ((n : Int) ≤ k)) = true := by simpa using h
  go_enter Try.func8, Try.ntmps8
  go_wp2
  all_goals first
    | exact bodyPost_ret (v := _) (by simp [results, Try.results8, go_sem]) rfl ⟨rfl, by repeat (first | exact Below.refl _ _ | apply bl_alloc | apply bl_swell | apply bl_drewN | apply Below.drew)⟩
    | trace_state
theorem get_at (p : Pl) (gl n c k : Nat) (w : World) (h : k < n)
    (c0 : w.cell? ⟨gl, k * 6, none⟩ = some (.int .i64 p.pr)) (c1 : w.cell? ⟨gl, k * 6 + 1, none⟩ = some (.int .u8 p.un)) (c2 : w.cell? ⟨gl, k * 6 + 2, none⟩ = some (.int .i64 p.ev))
    (c3 : w.cell? ⟨gl, k * 6 + 3, none⟩ = some (.int .i64 p.tr)) (c4 : w.cell? ⟨gl, k * 6 + 4, none⟩ = some (.bool p.g)) (c5 : w.cell? ⟨gl, k * 6 + 5, none⟩ = some (.bool p.l)) :
    Calls Try.prog 8 #[.slice (some ⟨gl, 0, none⟩) n c, .int .i64 k] w fun e w' => e = .returned (.tuple #[p.v, .int .i64 0]) ∧ Below w.heap.size w w' := by
  have lg := World.block_lt_of_cell? w _ c0
  have h1 : (k : Int) < (n : Int) := by omega
  have h2 : (0 : Int) ≤ (k : Int) := by omega
  obtain ⟨pr, un, ev, tr, g, l⟩ := p
  unfold Pl.v
  dsimp only at *
  go_enter Try.func8, Try.ntmps8
  go_wp2
  all_goals first
    | exact bodyPost_ret (v := _) (by simp [results, Try.results8, go_sem]) rfl ⟨rfl, by repeat (first | exact Below.refl _ _ | apply bl_alloc | apply bl_swell | apply bl_drewN | apply Below.drew)⟩
    | trace_state
end Go.Proofs.Ytlaffnlmdifnfaa
