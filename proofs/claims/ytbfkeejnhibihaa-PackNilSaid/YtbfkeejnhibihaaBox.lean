import Derived.Test.YtbfkeejnhibihaaMore
import Derived.Test.YtbfkeejnhibihaaProg
import Derived.Test.YtbfkeejnhibihaaChecked
import Derived.LoopTactic
import Derived.RegionTactic
import Derived.OwnWalk
import Derived.Deep.RegionHeld3
import Derived.Deep.AppendLies
import Derived.Deep.LoopGhost
import Derived.Lib.Hide
import Derived.KernelRfl
import Derived.Laws.BitsAllLaws
set_option linter.unusedSimpArgs false
set_option linter.unusedVariables false
set_option maxHeartbeats 8000000
set_option maxRecDepth 100000
namespace Go.Proofs.Ytbfkeejnhibihaa
open Go.RowKit
theorem info5 : (Try.prog.info? 5).map (fun i => (i.zero, i.size, i.bytes)) = some (some (.int .u8 0), 1, 1) := by kernel_rfl
/-- the box's own block: the bytes' slice, and no fault -/
def Box (w : World) (gb : Nat) (v : Value) : Prop := w.heap[gb]? = some (.cells #[v, .int .i64 0] 37 (0, 0))
theorem Box.cell0 {w : World} {gb : Nat} {v : Value} (h : Box w gb v) : w.cell? ⟨gb, 0, none⟩ = some v := by
  rw [cell_of_row w gb 0 _ _ _ h]; rfl
theorem Box.cell1 {w : World} {gb : Nat} {v : Value} (h : Box w gb v) : w.cell? ⟨gb, 1, none⟩ = some (.int .i64 0) := by
  rw [cell_of_row w gb 1 _ _ _ h]; rfl
theorem Box.frozen0 {w : World} {gb : Nat} {v : Value} (h : Box w gb v) : w.frozen? ⟨gb, 0, none⟩ = false := by
  unfold Box at h
  simp [World.frozen?, h]
theorem Box.lt {w : World} {gb : Nat} {v : Value} (h : Box w gb v) : gb < w.heap.size := World.block_lt_of_cell? w _ h.cell0
theorem Box.set {w : World} {gb : Nat} {v : Value} (h : Box w gb v) (u : Value) : Box (w.setCell ⟨gb, 0, none⟩ u) gb u := by
  unfold Box at *
  simp [World.setCell, Array.getElem?_modify, h]
theorem Box.alloc {w : World} {gb : Nat} {v : Value} (h : Box w gb v) (o : Obj) : Box (w.alloc o) gb v := (Below.heap_alloc w o gb h.lt).trans h
theorem Box.grown {w w' : World} {gb : Nat} {v : Value} {row : Option Nat} (h : Box w gb v) (hg : w.grownBy w' row) (hne : some gb ≠ row) : Box w' gb v := (hg.block gb h.lt hne).trans h
theorem Box.below {w w' : World} {gb B : Nat} {v : Value} (h : Box w gb v) (hb : Below B w w') (hg : gb < B) : Box w' gb v := (hb.block gb hg).trans h
theorem xor_u (z : Int) (z0 : 0 ≤ z) (z1 : z < 2048) : bits .xor .u64 (z * 2) (z / 9223372036854775808) = z * 2 := by
  obtain ⟨k, rfl⟩ := Int.eq_ofNat_of_zero_le z0
  rw [show (k : Int) / 9223372036854775808 = ((0 : Nat) : Int) by omega, show (k : Int) * 2 = ((k * 2 : Nat) : Int) by omega, u64_xor_nat _ _ (by omega) (by omega), Nat.xor_zero]
theorem heap_new (w : World) (o : Obj) (n : Nat) (h : w.heap.size = n) : (w.alloc o).heap[n]? = some o := by subst h; exact heap_alloc_new w o
theorem cell_alloc_old (w : World) (o : Obj) (a : Addr) (h : a.block < w.heap.size) : (w.alloc o).cell? a = w.cell? a := World.cell?_of_block (Below.heap_alloc w o a.block h)
theorem cell_set_far (w : World) (a p : Addr) (u : Value) (h : a.block ≠ p.block) : (w.setCell p u).cell? a = w.cell? a := World.cell?_of_block (Below.heap_setCell w p u a.block h)
theorem or_more (u : Int) (h : 0 ≤ u) : bits .or .u8 (u % 64) 64 = u % 64 + 64 := by
  obtain ⟨k, rfl⟩ := Int.eq_ofNat_of_zero_le h
  rw [show (k : Int) % 64 = ((k % 64 : Nat) : Int) by omega, show (64 : Int) = ((64 : Nat) : Int) from rfl, u8_or_nat _ _ (by omega) (by omega), Nat.or_comm, nat_join 6 _ _ (by decide) (by omega)]
  omega

theorem put_small (gb gl : Nat) (z : Int) (w : World) (hB : Box w gb (.slice none 0 0)) (l0 : w.cell? ⟨gl, 0, none⟩ = some (.int .i64 z)) (z0 : 0 ≤ z) (z1 : z < 32) (hne : gl ≠ gb) :
    Calls Try.prog 8 #[.pointer (some ⟨gb, 0, none⟩), .slice (some ⟨gl, 0, none⟩) 1 1] w fun e w' => e = .returned (.pointer (some ⟨gb, 0, none⟩)) ∧ ∃ v, Box w' gb v ∧ w'.ownsRow w.heap.size 5 1 v 1 [.int .u8 (z * 2)] ∧ Below gb w w' := by
  obtain ⟨i0, hi0, hz0, hz1, hz2⟩ := info_parts info5
  have c0 := hB.cell0
  have f0 := hB.frozen0
  have lb := hB.lt
  have ll := World.block_lt_of_cell? w _ l0
  have hne' : gb ≠ gl := fun h => hne h.symm
  have hx := xor_u z z0 (by omega)
  go_enter Try.func8, Try.ntmps8
  go_wp2_with fail
  refine wp_loop_rounds 2 ?_
  rw [rounds_succ]
  go_wp2_with fail
  refine wp_loop_rounds 1 ?_
  rw [rounds_succ]
  go_wp2_with (
    at_builtin
    refine wpList_append_lies _ rfl (.tmp 44) (.tmp 47) _ rfl w.heap.size 5 i0 _ 1 1 Try.underlying22 hi0 hz0 hz1 hz2 rfl (by omega) (.slice none 0 0) 0 [] rfl ((World.ownsRow_nil w _ 5 1).alloc _)
      ⟨w.heap.size, 0, none⟩ 1 1 [_] rfl rfl (World.news_of_block (cs := #[_]) (t := 5) (fr := (0, 0)) (heap_new _ _ _ (by simp))) (by simp [Value.oneCell'])
      (by omega) (by simp only [maxLen]; omega) (by omega) (by simp) (w.heap.size + 1) (by simp) ?_
    intro g1 cap1 w1 hown1 hgrow1 hat1 hlt1
    simp only [Nat.zero_add, List.nil_append, Nat.reduceAdd, List.cons_append] at hown1
    have hg1 : w.heap.size ≤ g1 := (hown1.lt g1 rfl).1
    have B1 := (hB.alloc _).grown hgrow1 (by simp [Value.ownBlock])
    have c1 := B1.cell0
    have f1 := B1.frozen0
    have z1 : w.heap.size ≤ w1.heap.size := by have := hgrow1.size; simp at this; omega)
  rw [rounds_succ]
  go_wp2
  go_ret
  refine ⟨rfl, _, B1.set _, ownsRow_setCell_below hown1 lb _, ?_⟩
  exact (((((Below.refl gb w)).alloc (by omega) _).grown hgrow1 (by simp; omega) (by simp [Value.ownBlock])).setCell (p := ⟨gb, 0, none⟩) (Nat.le_refl _) _)
theorem put_big (gb gl : Nat) (z : Int) (w : World) (hB : Box w gb (.slice none 0 0)) (l0 : w.cell? ⟨gl, 0, none⟩ = some (.int .i64 z)) (z0 : 32 ≤ z) (z1 : z < 2048) (hne : gl ≠ gb) :
    Calls Try.prog 8 #[.pointer (some ⟨gb, 0, none⟩), .slice (some ⟨gl, 0, none⟩) 1 1] w fun e w' => e = .returned (.pointer (some ⟨gb, 0, none⟩)) ∧ ∃ v, Box w' gb v ∧ w'.ownsRow w.heap.size 5 1 v 2 [.int .u8 (z * 2 % 64 + 64), .int .u8 (z * 2 / 64)] ∧ Below gb w w' := by
  obtain ⟨i0, hi0, hz0, hz1, hz2⟩ := info_parts info5
  have c0 := hB.cell0
  have f0 := hB.frozen0
  have lb := hB.lt
  have ll := World.block_lt_of_cell? w _ l0
  have hne' : gb ≠ gl := fun h => hne h.symm
  have hx := xor_u z (by omega) (by omega)
  have hy := or_more (z * 2) (by omega)
  go_enter Try.func8, Try.ntmps8
  go_wp2_with fail
  refine wp_loop_rounds 2 ?_
  rw [rounds_succ]
  go_wp2_with fail
  refine wp_loop_rounds 2 ?_
  rw [rounds_succ]
  go_wp2_with (
    at_builtin
    refine wpList_append_lies _ rfl (.tmp 29) (.tmp 34) _ rfl w.heap.size 5 i0 _ 1 1 Try.underlying22 hi0 hz0 hz1 hz2 rfl (by omega) (.slice none 0 0) 0 [] rfl ((World.ownsRow_nil w _ 5 1).alloc _)
      ⟨w.heap.size, 0, none⟩ 1 1 [_] rfl rfl (World.news_of_block (cs := #[_]) (t := 5) (fr := (0, 0)) (heap_new _ _ _ (by simp))) (by simp [Value.oneCell'])
      (by omega) (by simp only [maxLen]; omega) (by omega) (by simp) (w.heap.size + 1) (by simp) ?_
    intro g1 cap1 w1 hown1 hgrow1 hat1 hlt1
    simp only [Nat.zero_add, List.nil_append, Nat.reduceAdd, List.cons_append] at hown1
    have hg1 : w.heap.size ≤ g1 := (hown1.lt g1 rfl).1
    have B1 := (hB.alloc _).grown hgrow1 (by simp [Value.ownBlock])
    have c1 := B1.cell0
    have f1 := B1.frozen0
    have z1 : w.heap.size ≤ w1.heap.size := by have := hgrow1.size; simp at this; omega)
  rw [rounds_succ]
  go_wp2_with (
    at_builtin
    refine wpList_append_lies _ rfl (.tmp 44) (.tmp 47) _ rfl w.heap.size 5 i0 _ 1 1 Try.underlying22 hi0 hz0 hz1 hz2 rfl (by omega) (.slice (some ⟨g1, 0, none⟩) 1 cap1) 1 _ rfl ((ownsRow_setCell_below hown1 lb _).alloc _)
      ⟨w1.heap.size, 0, none⟩ 1 1 [_] rfl rfl (World.news_of_block (cs := #[_]) (t := 5) (fr := (0, 0)) (heap_new _ _ _ (by simp))) (by simp [Value.oneCell'])
      (by omega) (by simp only [maxLen]; omega) (by omega) (by simp; omega) (w1.heap.size + 1) (by simp) ?_
    intro g2 cap2 w2 hown2 hgrow2 hat2 hlt2
    simp only [Nat.zero_add, List.nil_append, Nat.reduceAdd, List.cons_append] at hown2
    have hg2 : w.heap.size ≤ g2 := (hown2.lt g2 rfl).1
    have B2 := ((B1.set _).alloc _).grown hgrow2 (by simp [Value.ownBlock]; omega)
    have c2 := B2.cell0
    have f2 := B2.frozen0
    have z2 : w.heap.size ≤ w2.heap.size := by have := hgrow2.size; simp at this; omega)
  rw [rounds_succ]
  go_wp2
  go_ret
  refine ⟨rfl, _, B2.set _, ownsRow_setCell_below hown2 lb _, ?_⟩
  exact (((((((((Below.refl gb w)).alloc (by omega) _).grown hgrow1 (by simp; omega) (by simp [Value.ownBlock])).setCell (p := ⟨gb, 0, none⟩) (Nat.le_refl _) _)).alloc (by simp; omega) _).grown hgrow2 (by simp; omega) (fun k hk => by simp [Value.ownBlock] at hk; omega)).setCell (p := ⟨gb, 0, none⟩) (Nat.le_refl _) _)
theorem put_three (gb gl : Nat)  (w : World) (hB : Box w gb (.slice none 0 0)) (l0 : w.cell? ⟨gl, 0, none⟩ = some (.int .i64 5)) (l1 : w.cell? ⟨gl, 1, none⟩ = some (.int .i64 (-1))) (l2 : w.cell? ⟨gl, 2, none⟩ = some (.int .i64 100))  (hne : gl ≠ gb) :
    Calls Try.prog 8 #[.pointer (some ⟨gb, 0, none⟩), .slice (some ⟨gl, 0, none⟩) 3 3] w fun e w' => e = .returned (.pointer (some ⟨gb, 0, none⟩)) ∧ ∃ v, Box w' gb v ∧ w'.ownsRow w.heap.size 5 1 v 4 [.int .u8 10, .int .u8 1, .int .u8 72, .int .u8 3] ∧ Below gb w w' := by
  obtain ⟨i0, hi0, hz0, hz1, hz2⟩ := info_parts info5
  have c0 := hB.cell0
  have f0 := hB.frozen0
  have lb := hB.lt
  have ll := World.block_lt_of_cell? w _ l0
  have hne' : gb ≠ gl := fun h => hne h.symm
  have x1 : bits .xor .u64 10 0 = 10 := by decide
  have x2 : bits .xor .u64 (IntKind.u64.wrap (IntKind.u64.wrap (-1) * 2)) (IntKind.u64.wrap (-1)) = 1 := by decide
  have x3 : bits .xor .u64 200 0 = 200 := by decide
  have x4 : bits .or .u8 8 64 = 72 := by decide
  go_enter Try.func8, Try.ntmps8
  go_wp2_with fail
  refine wp_loop_rounds 4 ?_
  rw [rounds_succ]
  go_wp2_with fail
  refine wp_loop_rounds 1 ?_
  rw [rounds_succ]
  go_wp2_with (
    at_builtin
    refine wpList_append_lies _ rfl (.tmp 44) (.tmp 47) _ rfl w.heap.size 5 i0 _ 1 1 Try.underlying22 hi0 hz0 hz1 hz2 rfl (by omega) (.slice none 0 0) 0 [] rfl ((World.ownsRow_nil w _ 5 1).alloc _)
      ⟨w.heap.size, 0, none⟩ 1 1 [_] rfl rfl (World.news_of_block (cs := #[_]) (t := 5) (fr := (0, 0)) (heap_new _ _ _ (by simp))) (by simp [Value.oneCell'])
      (by omega) (by simp only [maxLen]; omega) (by omega) (by simp) (w.heap.size + 1) (by simp) ?_
    intro g1 cap1 w1 hown1 hgrow1 hat1 hlt1
    simp only [Nat.zero_add, List.nil_append, Nat.reduceAdd, List.cons_append] at hown1
    have hg1 : w.heap.size ≤ g1 := (hown1.lt g1 rfl).1
    have B1 := (hB.alloc _).grown hgrow1 (by simp [Value.ownBlock])
    have c1 := B1.cell0
    have f1 := B1.frozen0
    have e1_1 : w1.cell? ⟨gl, 1, none⟩ = some (.int .i64 (-1)) := (hgrow1.cell_far _ (by simp; omega) (by simp [Value.ownBlock])).trans ((cell_alloc_old _ _ _ ll).trans l1)
    have e1_2 : w1.cell? ⟨gl, 2, none⟩ = some (.int .i64 100) := (hgrow1.cell_far _ (by simp; omega) (by simp [Value.ownBlock])).trans ((cell_alloc_old _ _ _ ll).trans l2)
    have z1 : w.heap.size ≤ w1.heap.size := by have := hgrow1.size; simp at this; omega)
  rw [rounds_succ]
  go_wp2_with fail
  refine wp_loop_rounds 1 ?_
  rw [rounds_succ]
  go_wp2_with (
    at_builtin
    refine wpList_append_lies _ rfl (.tmp 44) (.tmp 47) _ rfl w.heap.size 5 i0 _ 1 1 Try.underlying22 hi0 hz0 hz1 hz2 rfl (by omega) (.slice (some ⟨g1, 0, none⟩) 1 cap1) 1 _ rfl ((ownsRow_setCell_below hown1 lb _).alloc _)
      ⟨w1.heap.size, 0, none⟩ 1 1 [_] rfl rfl (World.news_of_block (cs := #[_]) (t := 5) (fr := (0, 0)) (heap_new _ _ _ (by simp))) (by simp [Value.oneCell'])
      (by omega) (by simp only [maxLen]; omega) (by omega) (by simp; omega) (w1.heap.size + 1) (by simp) ?_
    intro g2 cap2 w2 hown2 hgrow2 hat2 hlt2
    simp only [Nat.zero_add, List.nil_append, Nat.reduceAdd, List.cons_append] at hown2
    have hg2 : w.heap.size ≤ g2 := (hown2.lt g2 rfl).1
    have B2 := ((B1.set _).alloc _).grown hgrow2 (by simp [Value.ownBlock]; omega)
    have c2 := B2.cell0
    have f2 := B2.frozen0
    have e2_2 : w2.cell? ⟨gl, 2, none⟩ = some (.int .i64 100) := (hgrow2.cell_far _ (by simp; omega) (by simp [Value.ownBlock]; omega)).trans ((cell_alloc_old _ _ _ (by simp; omega)).trans ((cell_set_far _ _ _ _ hne).trans e1_2))
    have z2 : w.heap.size ≤ w2.heap.size := by have := hgrow2.size; simp at this; omega)
  rw [rounds_succ]
  go_wp2_with fail
  refine wp_loop_rounds 2 ?_
  rw [rounds_succ]
  go_wp2_with (
    at_builtin
    refine wpList_append_lies _ rfl (.tmp 29) (.tmp 34) _ rfl w.heap.size 5 i0 _ 1 1 Try.underlying22 hi0 hz0 hz1 hz2 rfl (by omega) (.slice (some ⟨g2, 0, none⟩) 2 cap2) 2 _ rfl ((ownsRow_setCell_below hown2 lb _).alloc _)
      ⟨w2.heap.size, 0, none⟩ 1 1 [_] rfl rfl (World.news_of_block (cs := #[_]) (t := 5) (fr := (0, 0)) (heap_new _ _ _ (by simp))) (by simp [Value.oneCell'])
      (by omega) (by simp only [maxLen]; omega) (by omega) (by simp; omega) (w2.heap.size + 1) (by simp) ?_
    intro g3 cap3 w3 hown3 hgrow3 hat3 hlt3
    simp only [Nat.zero_add, List.nil_append, Nat.reduceAdd, List.cons_append] at hown3
    have hg3 : w.heap.size ≤ g3 := (hown3.lt g3 rfl).1
    have B3 := ((B2.set _).alloc _).grown hgrow3 (by simp [Value.ownBlock]; omega)
    have c3 := B3.cell0
    have f3 := B3.frozen0
    have z3 : w.heap.size ≤ w3.heap.size := by have := hgrow3.size; simp at this; omega)
  rw [rounds_succ]
  go_wp2_with (
    at_builtin
    refine wpList_append_lies _ rfl (.tmp 44) (.tmp 47) _ rfl w.heap.size 5 i0 _ 1 1 Try.underlying22 hi0 hz0 hz1 hz2 rfl (by omega) (.slice (some ⟨g3, 0, none⟩) 3 cap3) 3 _ rfl ((ownsRow_setCell_below hown3 lb _).alloc _)
      ⟨w3.heap.size, 0, none⟩ 1 1 [_] rfl rfl (World.news_of_block (cs := #[_]) (t := 5) (fr := (0, 0)) (heap_new _ _ _ (by simp))) (by simp [Value.oneCell'])
      (by omega) (by simp only [maxLen]; omega) (by omega) (by simp; omega) (w3.heap.size + 1) (by simp) ?_
    intro g4 cap4 w4 hown4 hgrow4 hat4 hlt4
    simp only [Nat.zero_add, List.nil_append, Nat.reduceAdd, List.cons_append] at hown4
    have hg4 : w.heap.size ≤ g4 := (hown4.lt g4 rfl).1
    have B4 := ((B3.set _).alloc _).grown hgrow4 (by simp [Value.ownBlock]; omega)
    have c4 := B4.cell0
    have f4 := B4.frozen0
    have z4 : w.heap.size ≤ w4.heap.size := by have := hgrow4.size; simp at this; omega)
  rw [rounds_succ]
  go_wp2
  go_ret
  refine ⟨rfl, _, B4.set _, ownsRow_setCell_below hown4 lb _, ?_⟩
  exact (((((((((((((((((Below.refl gb w)).alloc (by omega) _).grown hgrow1 (by simp; omega) (by simp [Value.ownBlock])).setCell (p := ⟨gb, 0, none⟩) (Nat.le_refl _) _)).alloc (by simp; omega) _).grown hgrow2 (by simp; omega) (fun k hk => by simp [Value.ownBlock] at hk; omega)).setCell (p := ⟨gb, 0, none⟩) (Nat.le_refl _) _)).alloc (by simp; omega) _).grown hgrow3 (by simp; omega) (fun k hk => by simp [Value.ownBlock] at hk; omega)).setCell (p := ⟨gb, 0, none⟩) (Nat.le_refl _) _)).alloc (by simp; omega) _).grown hgrow4 (by simp; omega) (fun k hk => by simp [Value.ownBlock] at hk; omega)).setCell (p := ⟨gb, 0, none⟩) (Nat.le_refl _) _)
end Go.Proofs.Ytbfkeejnhibihaa
