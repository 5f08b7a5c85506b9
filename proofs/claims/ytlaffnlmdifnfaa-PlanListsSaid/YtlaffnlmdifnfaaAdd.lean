import Derived.Test.YtlaffnlmdifnfaaLeaf
set_option linter.unusedSimpArgs false
set_option linter.unusedVariables false
set_option maxHeartbeats 8000000
set_option maxRecDepth 100000
namespace Go.Proofs.Ytlaffnlmdifnfaa
open Go.RowKit
theorem info26 : (Try.prog.info? 26).map (fun i => (i.zero, i.size, i.bytes)) = some (some (.agg #[.int .i64 0, .int .u8 0, .int .i64 0, .int .i64 0, .bool false, .bool false]), 6, 40) := by kernel_rfl
def Pl.cells (p : Pl) : List Value := [.int .i64 p.pr, .int .u8 p.un, .int .i64 p.ev, .int .i64 p.tr, .bool p.g, .bool p.l]
def flat (ps : List Pl) : List Value := ps.flatMap Pl.cells
theorem flat_len (ps : List Pl) : (flat ps).length = ps.length * 6 := by
  induction ps with
  | nil => rfl
  | cons p ps ih => simp [flat, Pl.cells] at *; omega
theorem flat_one (ps : List Pl) : ∀ u ∈ flat ps, u.oneCell' = true := by
  intro u hu
  obtain ⟨p, _, h⟩ := List.mem_flatMap.1 hu
  simp [Pl.cells] at h
  rcases h with rfl | rfl | rfl | rfl | rfl | rfl <;> simp [Value.oneCell']
theorem add_bad (p : Pl) (v : Value) (n : Nat) (a : Option Addr) (c : Nat) (w : World) (hp : p.Ok) (h : rightOf p ≠ 0) : Calls Try.prog 6 #[.slice a n c, p.v] w fun e w' => e = .returned (.tuple #[.slice none 0 0, .int .i64 0, .int .i64 (rightOf p)]) ∧ Below w.heap.size w w' := by
  have R := Lib.hid (right2_law p · hp)
  generalize rightOf p = r at *
  have hr : (r == 0) = false := by simp [h]
  obtain ⟨pr, un, ev, tr, g, l⟩ := p
  unfold Pl.v at *
  dsimp only at *
  go_enter Try.func6, Try.ntmps6
  go_wp2_with fail
  refine (R.out _).mono ?_
  rintro e w1 ⟨rfl, hb⟩
  obtain ⟨l1, d1, rfl⟩ := swell_of_below hb; clear hb
  go_wp2
  exact bodyPost_ret (v := _) (by simp [results, Try.results6, go_sem]) rfl ⟨rfl, by repeat (first | exact Below.refl _ _ | apply bl_alloc | apply bl_swell | apply bl_drewN | apply Below.drew)⟩
theorem add_full (p : Pl) (n : Nat) (a : Option Addr) (c : Nat) (w : World) (hp : p.Ok) (h : rightOf p = 0) (hn : 8 ≤ n) : Calls Try.prog 6 #[.slice a n c, p.v] w fun e w' => e = .returned (.tuple #[.slice none 0 0, .int .i64 0, .int .i64 3]) ∧ Below w.heap.size w w' := by
  have R := Lib.hid (right2_law p · hp)
  rw [h] at R
  have hn' : (8 : Int) ≤ (n : Int) := by omega
  obtain ⟨pr, un, ev, tr, g, l⟩ := p
  unfold Pl.v at *
  dsimp only at *
  go_enter Try.func6, Try.ntmps6
  go_wp2_with fail
  refine (R.out _).mono ?_
  rintro e w1 ⟨rfl, hb⟩
  obtain ⟨l1, d1, rfl⟩ := swell_of_below hb; clear hb
  go_wp2
  exact bodyPost_ret (v := _) (by simp [results, Try.results6, go_sem]) rfl ⟨rfl, by repeat (first | exact Below.refl _ _ | apply bl_alloc | apply bl_swell | apply bl_drewN | apply Below.drew)⟩
theorem heap_new (w : World) (o : Obj) (n : Nat) (h : w.heap.size = n) : (w.alloc o).heap[n]? = some o := by subst h; exact heap_alloc_new w o
/-- onto an empty list -/
theorem add_first (p : Pl) (w : World) (hp : p.Ok) (h : rightOf p = 0) : Calls Try.prog 6 #[.slice none 0 0, p.v] w fun e w' => ∃ v, e = .returned (.tuple #[v, .int .i64 0, .int .i64 0]) ∧ w'.ownsRow w.heap.size 26 6 v 1 p.cells ∧ Below w.heap.size w w' := by
  have R := Lib.hid (right2_law p · hp)
  rw [h] at R
  obtain ⟨i0, hi0, hz0, hz1, hz2⟩ := info_parts info26
  obtain ⟨pr, un, ev, tr, g, l⟩ := p
  unfold Pl.v Pl.cells at *
  dsimp only at *
  go_enter Try.func6, Try.ntmps6
  go_wp2_with fail
  refine (R.out _).mono ?_
  rintro e w1 ⟨rfl, hb⟩
  have hblk : w1.heap[w.heap.size]? = some (.cells #[.int .i64 pr, .int .u8 un, .int .i64 ev, .int .i64 tr, .bool g, .bool l] 26 (0, 0)) := (hb.block w.heap.size (by simp)).trans (heap_new w _ _ rfl)
  have c0 : w1.cell? ⟨w.heap.size, 0, none⟩ = some (.int .i64 pr) := by rw [cell_of_row _ _ 0 _ _ _ hblk]; rfl
  have c1 : w1.cell? ⟨w.heap.size, 1, none⟩ = some (.int .u8 un) := by rw [cell_of_row _ _ 1 _ _ _ hblk]; rfl
  have c2 : w1.cell? ⟨w.heap.size, 2, none⟩ = some (.int .i64 ev) := by rw [cell_of_row _ _ 2 _ _ _ hblk]; rfl
  have c3 : w1.cell? ⟨w.heap.size, 3, none⟩ = some (.int .i64 tr) := by rw [cell_of_row _ _ 3 _ _ _ hblk]; rfl
  have c4 : w1.cell? ⟨w.heap.size, 4, none⟩ = some (.bool g) := by rw [cell_of_row _ _ 4 _ _ _ hblk]; rfl
  have c5 : w1.cell? ⟨w.heap.size, 5, none⟩ = some (.bool l) := by rw [cell_of_row _ _ 5 _ _ _ hblk]; rfl
  have s1 : w.heap.size < w1.heap.size := World.block_lt_of_cell? w1 _ c0
  have b1 : Below w.heap.size w w1 := ((Below.refl _ _).alloc (Nat.le_refl _) _).trans (hb.mono (by simp))
  clear hb hblk
  go_wp2_with fail
  go_region_held3 (fun w' => w'.cell? ⟨w.heap.size, 0, none⟩ = some (.int .i64 pr) ∧ w'.cell? ⟨w.heap.size, 1, none⟩ = some (.int .u8 un) ∧ w'.cell? ⟨w.heap.size, 2, none⟩ = some (.int .i64 ev) ∧ w'.cell? ⟨w.heap.size, 3, none⟩ = some (.int .i64 tr) ∧ w'.cell? ⟨w.heap.size, 4, none⟩ = some (.bool g) ∧ w'.cell? ⟨w.heap.size, 5, none⟩ = some (.bool l))
    (first
      | go_keep
      | (go_split_ands
         refine ⟨?_, ?_, ?_, ?_, ?_, ?_⟩ <;>
         · (rw [hgrow.cell_far _ (by simp; omega) (by simp [Value.ownBlock])]; assumption)))
    (first
      | (refine step_append_lies _ (by rfl) (.tmp 17) (.tmp 19) _ (by rfl) w.heap.size 26 i0 _ 6 40 Try.underlying24 hi0 hz0 hz1 hz2 rfl (by omega) (.slice none 0 0) 0 [] (by rfl) ⟨by simp, .inl ⟨rfl, rfl⟩⟩
            ⟨w1.heap.size, 0, none⟩ 1 1 [.int .i64 pr, .int .u8 un, .int .i64 ev, .int .i64 tr, .bool g, .bool l] (by rfl) (by rfl) (World.news_of_block (cs := #[.int .i64 pr, .int .u8 un, .int .i64 ev, .int .i64 tr, .bool g, .bool l]) (t := 26) (fr := (0, 0)) (heap_new _ _ _ (by simp))) (by simp [Value.oneCell'])
            (by omega) (by simp only [maxLen]; omega) (by omega) (by simp; omega) (w1.heap.size + 1) (by simp) ?_; intro gg cap w2 hown hgrow hat hlt)
      | fail)
  all_goals simp only [Nat.zero_add, List.nil_append] at hown
  all_goals have b2 : Below w.heap.size w w2 := (((b1.alloc (by omega) _).drew).grown hgrow (by simp; omega) (by simp [Value.ownBlock]))
  all_goals go_wp2
  all_goals exact bodyPost_ret (v := _) (by simp [results, Try.results6, go_sem]) rfl ⟨_, rfl, hown, b2⟩
end Go.Proofs.Ytlaffnlmdifnfaa
