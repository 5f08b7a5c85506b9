import Derived.Test.YtlaffnlmdifnfaaAdd
set_option linter.unusedSimpArgs false
set_option linter.unusedVariables false
set_option maxHeartbeats 8000000
set_option maxRecDepth 100000
namespace Go.Proofs.Ytlaffnlmdifnfaa
open Go.RowKit
theorem cell_alloc_old (w : World) (o : Obj) (a : Addr) (h : a.block < w.heap.size) : (w.alloc o).cell? a = w.cell? a := World.cell?_of_block (Below.heap_alloc w o a.block h)
theorem add0 (g j : Nat) : (⟨g, 0, none⟩ : Addr).add j = ⟨g, j, none⟩ := by unfold Addr.add; split <;> simp_all
/-- onto a list that is not empty -/
theorem add_more (p : Pl) (ps : List Pl) (gl n c B : Nat) (w : World) (hp : p.Ok) (h : rightOf p = 0) (own : w.ownsRow B 26 6 (.slice (some ⟨gl, 0, none⟩) n c) n (flat ps)) (hn0 : 0 < n) (hn8 : n < 8) : Calls Try.prog 6 #[.slice (some ⟨gl, 0, none⟩) n c, p.v] w fun e w' => ∃ v, e = .returned (.tuple #[v, .int .i64 n, .int .i64 0]) ∧ w'.ownsRow w.heap.size 26 6 v (n + 1) (flat ps ++ p.cells) ∧ Below w.heap.size w w' := by
  have hl0 := (own.lt gl rfl).2
  have hcl := fun j u hu => own.cells (g := gl) rfl j u hu
  have hlen := own.1
  have hone := flat_one ps
  have hn8' : (n : Int) < 8 := by omega
  clear own
  generalize flat ps = fs at *
  have R := Lib.hid (right2_law p · hp)
  rw [h] at R
  obtain ⟨i0, hi0, hz0, hz1, hz2⟩ := info_parts info26
  obtain ⟨pr, un, ev, tr, g, l⟩ := p
  unfold Pl.v Pl.cells at *
  dsimp only at *
  go_enter Try.func6, Try.ntmps6
  go_wp2_with fail
  refine (R.out _).mono ?_
  rintro e w1 ⟨rfl, hb⟩
  have hblk : w1.heap[w.heap.size]? = some (.cells #[.int .i64 pr, .int .u8 un, .int .i64 ev, .int .i64 tr, .bool g, .bool l] 26 (0, 0)) := (hb.block w.heap.size (by simp)).trans (heap_new w _ _ rfl)
  have c0 : w1.cell? ⟨w.heap.size, 0, none⟩ = some (.int .i64 pr) := by rw [cell_of_row _ _ 0 _ _ _ hblk]; rfl
  have c1 : w1.cell? ⟨w.heap.size, 1, none⟩ = some (.int .u8 un) := by rw [cell_of_row _ _ 1 _ _ _ hblk]; rfl
  have c2 : w1.cell? ⟨w.heap.size, 2, none⟩ = some (.int .i64 ev) := by rw [cell_of_row _ _ 2 _ _ _ hblk]; rfl
  have c3 : w1.cell? ⟨w.heap.size, 3, none⟩ = some (.int .i64 tr) := by rw [cell_of_row _ _ 3 _ _ _ hblk]; rfl
  have c4 : w1.cell? ⟨w.heap.size, 4, none⟩ = some (.bool g) := by rw [cell_of_row _ _ 4 _ _ _ hblk]; rfl
  have c5 : w1.cell? ⟨w.heap.size, 5, none⟩ = some (.bool l) := by rw [cell_of_row _ _ 5 _ _ _ hblk]; rfl
  have s1 : w.heap.size < w1.heap.size := World.block_lt_of_cell? w1 _ c0
  have b1 : Below w.heap.size w w1 := ((Below.refl _ _).alloc (Nat.le_refl _) _).trans (hb.mono (by simp))
  have hc1 : ∀ j u, fs[j]? = some u → w1.cell? ((⟨gl, 0, none⟩ : Addr).add j) = some u := fun j u hu => by
    have := hcl j u hu
    rw [add0] at this ⊢
    rw [b1.cell (p := ⟨gl, j, none⟩) hl0, this]
  have hlt1 : gl < w1.heap.size := by omega
  have hcA : ∀ (o : Obj) j u, fs[j]? = some u → (w1.alloc o).cell? ((⟨gl, 0, none⟩ : Addr).add j) = some u := fun o j u hu => by
    have := hc1 j u hu
    rw [add0] at this ⊢
    rw [cell_alloc_old _ _ _ hlt1, this]
  clear hb hblk hcl
  go_wp2_with fail
  go_region_held3 (fun w' => w'.cell? ⟨w.heap.size, 0, none⟩ = some (.int .i64 pr) ∧ w'.cell? ⟨w.heap.size, 1, none⟩ = some (.int .u8 un) ∧ w'.cell? ⟨w.heap.size, 2, none⟩ = some (.int .i64 ev) ∧ w'.cell? ⟨w.heap.size, 3, none⟩ = some (.int .i64 tr) ∧ w'.cell? ⟨w.heap.size, 4, none⟩ = some (.bool g) ∧ w'.cell? ⟨w.heap.size, 5, none⟩ = some (.bool l))
    (first
      | go_keep
      | (go_split_ands
         refine ⟨?_, ?_, ?_, ?_, ?_, ?_⟩ <;>
         · (rw [hgrow1.cell_far _ (by simp; omega) (by simp [Value.ownBlock])]; assumption))
      | (go_split_ands
         refine ⟨?_, ?_, ?_, ?_, ?_, ?_⟩ <;>
         · (rw [hgrow1.cell_far _ (by simp; omega) (by simp [Value.ownBlock]), cell_alloc_old _ _ _ (by simp; omega)]; assumption))
      | (go_split_ands
         refine ⟨?_, ?_, ?_, ?_, ?_, ?_⟩ <;>
         · (rw [hgrow2.cell_far _ (by simp; omega) (by simp [Value.ownBlock]; omega)]; assumption)))
    (first
      | (refine step_append_lies _ (by rfl) (.const (.slice none 0 0)) (.tmp 16) _ (by rfl) w.heap.size 26 i0 _ 6 40 Try.underlying24 hi0 hz0 hz1 hz2 rfl (by omega) (.slice none 0 0) 0 [] (by rfl) ⟨by simp, .inl ⟨rfl, rfl⟩⟩
            ⟨gl, 0, none⟩ n c fs (by rfl) hlen (by first | exact hc1 | exact hcA _) hone
            hn0 (by simp only [maxLen]; omega) (by omega) (by simp; try omega) _ rfl ?_; intro g1 cap1 w2 hown1 hgrow1 hat1 hlt2; have hg1 : w1.heap.size ≤ g1 := (by rcases hat1 with h | h <;> simp [Value.ownBlock] at h <;> omega); have hsz := hgrow1.size; try simp at hsz; have hown1s := hown1; simp only [Nat.zero_add, List.nil_append] at hown1s)
      | (refine step_append_lies _ (by rfl) (.tmp 17) (.tmp 19) _ (by rfl) w.heap.size 26 i0 _ 6 40 Try.underlying24 hi0 hz0 hz1 hz2 rfl (by omega) (.slice (some ⟨g1, 0, none⟩) (0 + n) cap1) (0 + n) ([] ++ fs) (by rfl) (by first | exact hown1.alloc _ | exact (hown1.alloc _).drew | exact hown1.drew.alloc _)
            ⟨w2.heap.size, 0, none⟩ 1 1 [.int .i64 pr, .int .u8 un, .int .i64 ev, .int .i64 tr, .bool g, .bool l] (by rfl) (by rfl) (World.news_of_block (cs := #[.int .i64 pr, .int .u8 un, .int .i64 ev, .int .i64 tr, .bool g, .bool l]) (t := 26) (fr := (0, 0)) (heap_new w2 _ _ rfl)) (by simp [Value.oneCell'])
            (by omega) (by simp only [maxLen]; omega) (by omega) (by first | omega | (simp; omega) | (simp; done)) _ rfl ?_; intro g2 cap2 w3 hown2 hgrow2 hat2 hlt3)
      | (refine step_append_lies _ (by rfl) (.tmp 17) (.tmp 19) _ (by rfl) w.heap.size 26 i0 _ 6 40 Try.underlying24 hi0 hz0 hz1 hz2 rfl (by omega) (.slice (some ⟨g1, 0, none⟩) (0 + n) cap1) (0 + n) ([] ++ fs) (by rfl) (by first | exact hown1 | exact hown1.drew)
            ⟨w1.heap.size, 0, none⟩ 1 1 [.int .i64 pr, .int .u8 un, .int .i64 ev, .int .i64 tr, .bool g, .bool l] (by rfl) (by rfl) (World.news_of_block (cs := #[.int .i64 pr, .int .u8 un, .int .i64 ev, .int .i64 tr, .bool g, .bool l]) (t := 26) (fr := (0, 0)) ((hgrow1.block w1.heap.size (by simp) (by simp [Value.ownBlock])).trans (heap_new w1 _ _ rfl))) (by simp [Value.oneCell'])
            (by omega) (by simp only [maxLen]; omega) (by omega) (by first | omega | (simp; omega) | (simp; done)) _ rfl ?_; intro g2 cap2 w3 hown2 hgrow2 hat2 hlt3)
      | (refine step_append_lies _ (by rfl) (.tmp 17) (.tmp 19) _ (by rfl) w.heap.size 26 i0 _ 6 40 Try.underlying24 hi0 hz0 hz1 hz2 rfl (by omega) (.slice (some ⟨g1, 0, none⟩) n cap1) n fs (by rfl) (by first | exact hown1s.alloc _ | exact (hown1s.alloc _).drew | exact hown1s.drew.alloc _)
            ⟨w2.heap.size, 0, none⟩ 1 1 [.int .i64 pr, .int .u8 un, .int .i64 ev, .int .i64 tr, .bool g, .bool l] (by rfl) (by rfl) (World.news_of_block (cs := #[.int .i64 pr, .int .u8 un, .int .i64 ev, .int .i64 tr, .bool g, .bool l]) (t := 26) (fr := (0, 0)) (heap_new w2 _ _ rfl)) (by simp [Value.oneCell'])
            (by omega) (by simp only [maxLen]; omega) (by omega) (by first | omega | (simp; omega) | (simp; done)) _ rfl ?_; intro g2 cap2 w3 hown2 hgrow2 hat2 hlt3)
      | (refine step_append_lies _ (by rfl) (.tmp 17) (.tmp 19) _ (by rfl) w.heap.size 26 i0 _ 6 40 Try.underlying24 hi0 hz0 hz1 hz2 rfl (by omega) (.slice (some ⟨g1, 0, none⟩) n cap1) n fs (by rfl) (by first | exact hown1s | exact hown1s.drew)
            ⟨w1.heap.size, 0, none⟩ 1 1 [.int .i64 pr, .int .u8 un, .int .i64 ev, .int .i64 tr, .bool g, .bool l] (by rfl) (by rfl) (World.news_of_block (cs := #[.int .i64 pr, .int .u8 un, .int .i64 ev, .int .i64 tr, .bool g, .bool l]) (t := 26) (fr := (0, 0)) ((hgrow1.block w1.heap.size (by simp) (by simp [Value.ownBlock])).trans (heap_new w1 _ _ rfl))) (by simp [Value.oneCell'])
            (by omega) (by simp only [maxLen]; omega) (by omega) (by first | omega | (simp; omega) | (simp; done)) _ rfl ?_; intro g2 cap2 w3 hown2 hgrow2 hat2 hlt3)
      | fail)
  all_goals try simp only [Nat.zero_add, List.nil_append] at hown2
  · have b2 : Below w.heap.size w w3 := ((((b1.drew).grown hgrow1 (Nat.le_of_lt s1) (by simp [Value.ownBlock])).alloc (by omega) _).grown hgrow2 (by simp; omega) (fun k hk => by simp [Value.ownBlock] at hk; omega))
    go_wp2
    exact bodyPost_ret (v := _) (by simp [results, Try.results6, go_sem]) rfl ⟨_, rfl, hown2, b2⟩
  · have b2 : Below w.heap.size w w3 := (((((b1.alloc (by omega) _).drew).grown hgrow1 (by simp; omega) (by simp [Value.ownBlock]))).grown hgrow2 (by omega) (fun k hk => by simp [Value.ownBlock] at hk; omega))
    go_wp2
    exact bodyPost_ret (v := _) (by simp [results, Try.results6, go_sem]) rfl ⟨_, rfl, hown2, b2⟩
end Go.Proofs.Ytlaffnlmdifnfaa
