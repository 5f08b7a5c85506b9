import Derived.Test.YtbfkeejnhibihaaBox
import Derived.Deep.Onto
import Derived.Laws.BytesArg
set_option linter.unusedSimpArgs false
set_option linter.unusedVariables false
set_option maxHeartbeats 8000000
set_option maxRecDepth 100000
namespace Go.Proofs.Ytbfkeejnhibihaa
open Go.RowKit
theorem one_u8 (ns : List Int) : ∀ u ∈ ns.map (Value.int .u8), u.oneCell' = true := by
  intro u hu
  obtain ⟨n, _, rfl⟩ := List.mem_map.1 hu
  simp [Value.oneCell']
theorem done_box (gb g0 n c B : Nat) (ns : List Int) (w : World) (hB : Box w gb (.slice (some ⟨g0, 0, none⟩) n c)) (ho : w.ownsRow B 5 1 (.slice (some ⟨g0, 0, none⟩) n c) n (ns.map (Value.int .u8))) (hn : 0 < n) (hn2 : n ≤ 100) :
    Calls Try.prog 7 #[.pointer (some ⟨gb, 0, none⟩)] w fun e w' => ∃ g cap, e = .returned (.slice (some ⟨g, 0, none⟩) n cap) ∧ w'.ownsRow w.heap.size 5 1 (.slice (some ⟨g, 0, none⟩) n cap) n (ns.map (Value.int .u8)) ∧ Below w.heap.size w w' := by
  obtain ⟨i0, hi0, hz0, hz1, hz2⟩ := info_parts info5
  have c0 := hB.cell0
  have lb := hB.lt
  go_enter Try.func7, Try.ntmps7
  go_wp2_with (
    at_builtin
    refine wpList_append_lies _ rfl (.const (.slice none 0 0)) (.tmp 8) _ rfl w.heap.size 5 i0 _ 1 1 Try.underlying22 hi0 hz0 hz1 hz2 rfl (by omega) (.slice none 0 0) 0 [] rfl (World.ownsRow_nil w _ 5 1)
      ⟨g0, 0, none⟩ n c (ns.map (Value.int .u8)) rfl ho.1 (ho.cells rfl) (one_u8 ns)
      hn (by simp only [maxLen]; omega) (by omega) (Nat.le_refl _) w.heap.size rfl ?_
    intro g cap w1 hown hgrow hat hlt
    simp only [Nat.zero_add, List.nil_append] at hown)
  go_ret
  exact ⟨g, cap, rfl, hown, ((Below.refl _ _).grown hgrow (Nat.le_refl _) (by simp [Value.ownBlock]))⟩
/-- one small number -/
theorem put_one (gb gl : Nat) (z : Int) (w : World) (hB : Box w gb (.slice none 0 0)) (l0 : w.cell? ⟨gl, 0, none⟩ = some (.int .i64 z)) (z0 : 0 ≤ z) (z1 : z < 2048) (hne : gl ≠ gb) :
    Calls Try.prog 8 #[.pointer (some ⟨gb, 0, none⟩), .slice (some ⟨gl, 0, none⟩) 1 1] w fun e w' => e = .returned (.pointer (some ⟨gb, 0, none⟩)) ∧ ∃ g cap k, ∃ ns : List Int, (0 < k ∧ k ≤ 2) ∧ w.heap.size ≤ g ∧ Box w' gb (.slice (some ⟨g, 0, none⟩) k cap) ∧ w'.ownsRow w.heap.size 5 1 (.slice (some ⟨g, 0, none⟩) k cap) k (ns.map (Value.int .u8)) ∧ Below gb w w' := by
  by_cases h : z < 32
  · refine (put_small gb gl z w hB l0 z0 h hne).mono ?_
    rintro e w' ⟨rfl, v, h1, h2, h3⟩
    obtain ⟨g, cap, rfl, h4, h5⟩ := h2.form (by omega)
    exact ⟨rfl, g, cap, 1, [z * 2], by omega, h4, h1, h2, h3⟩
  · refine (put_big gb gl z w hB l0 (by omega) z1 hne).mono ?_
    rintro e w' ⟨rfl, v, h1, h2, h3⟩
    obtain ⟨g, cap, rfl, h4, h5⟩ := h2.form (by omega)
    exact ⟨rfl, g, cap, 2, [z * 2 % 64 + 64, z * 2 / 64], by omega, h4, h1, h2, h3⟩
theorem add0 (g j : Nat) : (⟨g, 0, none⟩ : Addr).add j = ⟨g, j, none⟩ := by unfold Addr.add; split <;> simp_all
theorem bytes_box (gb gq L cq : Nat) (ms : List Int) (w : World) (hB : Box w gb (.slice none 0 0)) (hq : gq < gb) (hl : ms.length = L) (L0 : 0 < L) (L1 : L ≤ 50) (hc : ∀ j u, (ms.map (Value.int .u8))[j]? = some u → w.cell? ((⟨gq, 0, none⟩ : Addr).add j) = some u) :
    Calls Try.prog 6 #[.pointer (some ⟨gb, 0, none⟩), .slice (some ⟨gq, 0, none⟩) L cq] w fun e w' => e = .returned (.pointer (some ⟨gb, 0, none⟩)) ∧ ∃ g cap n, ∃ ns : List Int, (0 < n ∧ n ≤ 52) ∧ Box w' gb (.slice (some ⟨g, 0, none⟩) n cap) ∧ w'.ownsRow w.heap.size 5 1 (.slice (some ⟨g, 0, none⟩) n cap) n (ns.map (Value.int .u8)) ∧ Below gb w w' := by
  obtain ⟨i0, hi0, hz0, hz1, hz2⟩ := info_parts info5
  have c0 := hB.cell0
  have lb := hB.lt
  go_enter Try.func6, Try.ntmps6
  go_wp2_with fail
  refine (put_one gb w.heap.size L _ (hB.alloc _) (by rw [cell_of_row _ _ 0 _ _ _ (heap_alloc_new w _)]; rfl) (by omega) (by omega) (by omega)).mono ?_
  rintro e w1 ⟨rfl, g1, cap1, k, ns1, ⟨k0, k1⟩, hgb, B1, own1, bel1⟩
  replace own1 : w1.ownsRow w.heap.size 5 1 (.slice (some ⟨g1, 0, none⟩) k cap1) k (ns1.map (Value.int .u8)) := World.ownsRow.mono own1 (by simp)
  replace hgb : w.heap.size < g1 := by simp at hgb; omega
  have c1 := B1.cell0
  have hs1 : w.heap.size ≤ w1.heap.size := by have := bel1.size; simp at this; omega
  have hnews : ∀ j u, (ms.map (Value.int .u8))[j]? = some u → w1.cell? ((⟨gq, 0, none⟩ : Addr).add j) = some u := fun j u hu => by
    have := hc j u hu
    rw [add0] at this ⊢
    rw [bel1.cell (p := ⟨gq, j, none⟩) hq, cell_alloc_old _ _ _ (by show gq < _; omega), this]
  go_wp2_with (
    at_builtin
    refine wpList_append_lies _ rfl (.tmp 16) (.tmp 17) _ rfl w.heap.size 5 i0 _ 1 1 Try.underlying22 hi0 hz0 hz1 hz2 rfl (by omega) (.slice (some ⟨g1, 0, none⟩) k cap1) k (ns1.map (Value.int .u8)) rfl own1
      ⟨gq, 0, none⟩ L cq (ms.map (Value.int .u8)) rfl (by simp; omega) hnews (one_u8 ms)
      L0 (by simp only [maxLen]; omega) (by omega) hs1 w1.heap.size rfl ?_
    intro g2 cap2 w2 hown2 hgrow2 hat hlt
    have B2 := B1.grown hgrow2 (by simp [Value.ownBlock]; omega)
    have c2 := B2.cell0
    have f2 := B2.frozen0)
  go_ret
  refine ⟨rfl, g2, cap2, k + L, ns1 ++ ms, by omega, B2.set _, by rw [List.map_append]; exact ownsRow_setCell_below hown2 lb _, ?_⟩
  · exact ((((Below.refl gb w).alloc (by omega) _).trans bel1).grown hgrow2 (by omega) (fun k hk => by simp [Value.ownBlock] at hk; omega)).setCell (p := ⟨gb, 0, none⟩) (Nat.le_refl _) _
theorem str_row (w : World) (B g n cap : Nat) (ns : List Int) (ho : w.ownsRow B 5 1 (.slice (some ⟨g, 0, none⟩) n cap) n (ns.map (Value.int .u8))) : (convert 22 9 (.slice (some ⟨g, 0, none⟩) n cap)).run Try.prog w = .ok (.string (strOfNums ns)) w := by
  have hl : ns.length = n := by have := ho.1; simpa using this
  refine run_convert_bytes_arg w 22 5 Try.underlying22 Try.underlying5 g 0 n cap ns hl (fun i hi => ?_) 9 Try.underlying9
  rw [Nat.zero_add, ho.cellAt i (by omega)]
  have hi' : i < ns.length := by omega
  simp [List.getElem?_eq_getElem hi', List.getD]
theorem new_box (w : World) : Calls Try.prog 5 #[] w fun e w' => e = .returned (.pointer (some ⟨w.heap.size, 0, none⟩)) ∧ w' = w.alloc (.cells #[.slice none 0 0, .int .i64 0] 37) := by
  go_enter Try.func5, Try.ntmps5
  go_wp2
  go_ret
  exact ⟨rfl, rfl⟩
/-- the document's example -/
theorem awake_ok (w : World) : Calls Try.prog 4 #[] w fun e w' => e = .returned (.bool true) ∧ Below w.heap.size w w' := by
  go_enter Try.func4, Try.ntmps4
  go_wp2_with fail
  refine (new_box w).mono ?_
  rintro e w1 ⟨rfl, hw1⟩
  have B1 : Box w1 w.heap.size (.slice none 0 0) := by rw [hw1]; exact heap_alloc_new w _
  have s1 := B1.lt
  have b1 : Below w.heap.size w w1 := by rw [hw1]; exact (Below.refl _ _).alloc (Nat.le_refl _) _
  clear hw1
  go_wp2_with fail
  have m0 : (w1.alloc (.cells #[.int .i64 5, .int .i64 (-1), .int .i64 100] 2)).cell? ⟨w1.heap.size, 0, none⟩ = some (.int .i64 5) := by
    rw [cell_of_row _ _ 0 _ _ _ (heap_alloc_new w1 _)]; simp
  have m1 : (w1.alloc (.cells #[.int .i64 5, .int .i64 (-1), .int .i64 100] 2)).cell? ⟨w1.heap.size, 1, none⟩ = some (.int .i64 (-1)) := by
    rw [cell_of_row _ _ 1 _ _ _ (heap_alloc_new w1 _)]; simp
  have m2 : (w1.alloc (.cells #[.int .i64 5, .int .i64 (-1), .int .i64 100] 2)).cell? ⟨w1.heap.size, 2, none⟩ = some (.int .i64 100) := by
    rw [cell_of_row _ _ 2 _ _ _ (heap_alloc_new w1 _)]; simp
  have hne : w1.heap.size ≠ w.heap.size := by omega
  refine (put_three w.heap.size w1.heap.size _ (B1.alloc _) m0 m1 m2 hne).mono ?_
  rintro e w2 ⟨rfl, v, B2, own2, b2⟩
  obtain ⟨g, cap, rfl, h4, h5⟩ := own2.form (by omega)
  have b3 : Below w.heap.size w w2 := (b1.alloc (by omega) _).trans b2
  clear m0 m1 m2 b1 b2
  go_wp2_with fail
  refine (done_box w.heap.size g 4 cap _ [10, 1, 72, 3] w2 B2 own2 (by omega) (by omega)).mono ?_
  rintro e w3 ⟨g3, cap3, rfl, own3, b4⟩
  have hstr := str_row w3 _ _ _ _ _ own3
  have b5 : Below w.heap.size w w3 := b3.trans (b4.mono b3.size)
  clear own3 own2 B2 B1 b4 b3
  go_wp2
  go_ret
  have hs4 : ((strOfNums [10, 1, 72, 3]).toList == [10, 1, 72, 3]) = true := by decide +kernel
  exact ⟨by simp [hs4], b5⟩
end Go.Proofs.Ytbfkeejnhibihaa
