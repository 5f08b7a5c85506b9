import Derived.Test.YtbfkeejnhibihaaNil
set_option linter.unusedSimpArgs false
set_option linter.unusedVariables false
set_option maxHeartbeats 8000000
set_option maxRecDepth 100000
namespace Go.Proofs.Ytbfkeejnhibihaa
open Go.RowKit
theorem own_of_block {w w' : World} {B g n c : Nat} {xs : List Value} (h : w.ownsRow B 5 1 (.slice (some ⟨g, 0, none⟩) n c) n xs) (hb : w'.heap[g]? = w.heap[g]?) : w'.ownsRow B 5 1 (.slice (some ⟨g, 0, none⟩) n c) n xs := by
  refine ⟨h.1, ?_⟩
  rcases h.2 with ⟨h1, _⟩ | ⟨g', cap, cur, h1, h2, h3, h4⟩
  · cases h1
  · right
    refine ⟨g', cap, cur, h1, h2, ?_, h4⟩
    have : g = g' := by injection h1 with h1; injection h1 with h1; injection h1
    subst this
    rw [hb, h3]
theorem short_law (a : Option Addr) (len cap : Nat) (n : Int) (w : World) (h : len = 0 ∨ 50 < len) : Calls Try.prog 3 #[.slice a len cap, .int .i64 n] w fun e w' => e = .returned (.bool true) ∧ Below w.heap.size w w' := by
  rcases h with rfl | h
  · go_enter Try.func3, Try.ntmps3
    go_wp2_with fail
    refine (awake_ok w).mono ?_
    rintro e w1 ⟨rfl, b1⟩
    go_wp2_with fail
    refine (awake_ok w1).mono ?_
    rintro e w2 ⟨rfl, b2⟩
    go_wp2
    go_ret
    exact ⟨rfl, b1.trans (b2.mono b1.size)⟩
  · have h1 : (50 : Int) < (len : Int) := by omega
    have h2 : ¬ (len : Int) = 0 := by omega
    have h3 : ¬ len = 0 := by omega
    go_enter Try.func3, Try.ntmps3
    go_wp2_with fail
    refine (awake_ok w).mono ?_
    rintro e w1 ⟨rfl, b1⟩
    go_wp2_with fail
    refine (awake_ok w1).mono ?_
    rintro e w2 ⟨rfl, b2⟩
    go_wp2
    go_ret
    exact ⟨rfl, b1.trans (b2.mono b1.size)⟩
theorem good_law (ad : Addr) (len cap : Nat) (zs : List Int) (n : Int) (w : World) (hl : zs.length = len) (had : ad.block < w.heap.size) (h0 : 0 < len) (h50 : len ≤ 50) (hc : ∀ j u, (zs.map (Value.int .u8))[j]? = some u → w.cell? (ad.add j) = some u) :
    Calls Try.prog 3 #[.slice (some ad) len cap, .int .i64 n] w fun e w' => e = .returned (.bool true) ∧ Below w.heap.size w w' := by
  obtain ⟨i0, hi0, hz0, hz1, hz2⟩ := info_parts info5
  have h1 : (len : Int) ≤ 50 := by omega
  have h4 : decide ((50 : Int) < (len : Int)) = false := by simp; omega
  have h2 : ((len : Int) == 0) = false := by simp; omega
  have h3 : ¬ len = 0 := by omega
  go_enter Try.func3, Try.ntmps3
  go_wp2_with fail
  refine (awake_ok w).mono ?_
  rintro e w1 ⟨rfl, b1⟩
  have hc1 : ∀ j u, (zs.map (Value.int .u8))[j]? = some u → w1.cell? (ad.add j) = some u := fun j u hu => by
    rw [b1.cell (p := ad.add j) (by rw [show (ad.add j).block = ad.block by unfold Addr.add; split <;> rfl]; exact had)]; exact hc j u hu
  have s1 := b1.size
  go_wp2_with (
    at_builtin
    refine wpList_append_lies _ rfl (.const (.slice none 0 0)) (.tmp 23) _ rfl w1.heap.size 5 i0 _ 1 1 Try.underlying22 hi0 hz0 hz1 hz2 rfl (by omega) (.slice none 0 0) 0 [] rfl (World.ownsRow_nil w1 _ 5 1)
      ad len cap (zs.map (Value.int .u8)) rfl (by simp; omega) hc1 (one_u8 zs)
      h0 (by simp only [maxLen]; omega) (by omega) (Nat.le_refl _) w1.heap.size rfl ?_
    intro gq cq w2 ownq hgrow hat hlt
    simp only [Nat.zero_add, List.nil_append] at ownq)
  go_wp2_with fail
  refine (new_box w2).mono ?_
  rintro e w3 ⟨rfl, hw3⟩
  have B3 : Box w3 w2.heap.size (.slice none 0 0) := by rw [hw3]; exact heap_alloc_new w2 _
  have b3 : Below w2.heap.size w2 w3 := by rw [hw3]; exact (Below.refl _ _).alloc (Nat.le_refl _) _
  have s2 : w1.heap.size ≤ w2.heap.size := hgrow.size
  have b2 : Below w.heap.size w w2 := b1.grown hgrow s1 (by simp [Value.ownBlock])
  clear hw3 hgrow hat hc1 b1
  have hc3 : ∀ j u, (zs.map (Value.int .u8))[j]? = some u → w3.cell? ((⟨gq, 0, none⟩ : Addr).add j) = some u := fun j u hu => by
    rw [b3.cell (p := (⟨gq, 0, none⟩ : Addr).add j) (by rw [add0]; exact hlt)]; exact ownq.cells rfl j u hu
  go_wp2_with fail
  refine (bytes_box w2.heap.size gq len cq zs w3 B3 hlt hl h0 h50 hc3).mono ?_
  rintro e w4 ⟨rfl, g4, cap4, m4, ns, ⟨m0, m1⟩, B4, own4, b4⟩
  obtain ⟨k, rfl⟩ : ∃ k, m4 = k + 1 := ⟨m4 - 1, by omega⟩
  clear hc3 B3
  have b24 : Below w2.heap.size w2 w4 := b3.trans b4
  clear b3 b4
  go_wp2_with fail
  refine (done_box w2.heap.size g4 (k + 1) cap4 _ ns w4 B4 own4 m0 (by omega)).mono ?_
  rintro e w5 ⟨g5, cap5, rfl, own5, b5⟩
  have hs5 := Lib.hid (str_row w5 _ _ _ _ _ own5)
  have hg5 : w4.heap.size ≤ g5 := (own5.lt g5 rfl).1
  have hg4 : g4 < w4.heap.size := (own4.lt g4 rfl).2
  have lb4 := B4.lt
  obtain ⟨x, hx⟩ : ∃ x, ns[k]? = some x := by
    have := own4.1
    have hk : k < ns.length := by simp at this; omega
    exact ⟨_, List.getElem?_eq_getElem hk⟩
  have d5 : w5.cell? ⟨g5, k, none⟩ = some (.int .u8 x) := by
    rw [own5.cellAt k (by omega)]; simp [hx]
  have f5 := own5.frozenAt k
  have B5 : Box w5 w2.heap.size _ := B4.below b5 lb4
  have own6 := own_of_block own4 (b5.block g4 hg4)
  have hb5s := b5.size
  have b25 : Below w2.heap.size w2 w5 := b24.trans (b5.mono (by omega))
  clear own5 own4 B4 b24 b5
  have hk0 : (k : Int) ≤ 51 := by omega
  have hs := hs5.out
  go_wp2_with fail
  refine (put_nil _ _).mono ?_
  rintro e w6 ⟨rfl, hw6⟩
  have lt4 : w2.heap.size < g5 := by omega
  have B6 : Box w6 w2.heap.size (.slice (some ⟨g4, 0, none⟩) (k + 1) cap4) := by
    rw [hw6]; exact Box.alloc ((Below.heap_setCell _ _ _ w2.heap.size (by show w2.heap.size ≠ g5; omega)).trans B5) _
  have own7 := own_of_block (w' := w6) own6 (by
    have l5 : w4.heap.size ≤ w5.heap.size := hb5s
    rw [hw6, Below.heap_alloc _ _ _ (by simp; omega), Below.heap_setCell _ _ _ g4 (by show g4 ≠ g5; omega)])
  have b26 : Below w2.heap.size w2 w6 := by
    rw [hw6]; exact (b25.setCell (p := ⟨g5, k, none⟩) (by show _ ≤ g5; omega) _).alloc (by have := b25.size; simp; omega) _
  clear hw6 B5 own6 b25 d5 f5 hs
  go_wp2_with fail
  refine (flag_nil _).mono ?_
  rintro e w7 ⟨rfl, b7⟩
  have B7 : Box w7 w2.heap.size (.slice (some ⟨g4, 0, none⟩) (k + 1) cap4) := B6.below b7 B6.lt
  have own8 := own_of_block (w' := w7) own7 (b7.block g4 (own7.lt g4 rfl).2)
  have b27 : Below w2.heap.size w2 w7 := b26.trans (b7.mono b26.size)
  clear b7 b26 B6 own7
  go_wp2_with fail
  refine (bytes_nil _ _).mono ?_
  rintro e w8 ⟨rfl, rfl⟩
  go_wp2_with fail
  refine (done_nil _).mono ?_
  rintro e w8 ⟨rfl, rfl⟩
  go_wp2_with fail
  refine (get_nil _ _ _).mono ?_
  rintro e w8 ⟨rfl, rfl⟩
  go_wp2_with fail
  refine (getflag_nil _).mono ?_
  rintro e w8 ⟨rfl, rfl⟩
  go_wp2_with fail
  refine (getbytes_nil _).mono ?_
  rintro e w8 ⟨rfl, rfl⟩
  go_wp2_with fail
  refine (left_nil _).mono ?_
  rintro e w8 ⟨rfl, rfl⟩
  go_wp2_with fail
  refine (fault_nil _).mono ?_
  rintro e w8 ⟨rfl, rfl⟩
  go_wp2_with fail
  refine (end_nil _).mono ?_
  rintro e w8 ⟨rfl, rfl⟩
  go_wp2_with fail
  refine (done_box w2.heap.size g4 (k + 1) cap4 _ ns _ B7 own8 m0 (by omega)).mono ?_
  rintro e w9 ⟨g9, cap9, rfl, own9, b9⟩
  have hs9 := str_row w9 _ _ _ _ _ own9
  have b29 : Below w2.heap.size w2 w9 := b27.trans (b9.mono b27.size)
  clear own9 own8 B7 b9 b27
  go_wp2
  go_ret
  exact ⟨by simp, b2.trans (b29.mono b2.size)⟩
theorem nil_law (a : Option Addr) (len cap : Nat) (zs : List Int) (n : Int) (w : World) (h : IsRow .u8 w a len cap zs) : Calls Try.prog 3 #[.slice a len cap, .int .i64 n] w fun e w' => e = .returned (.bool true) ∧ Below w.heap.size w w' := by
  by_cases hs : len = 0 ∨ 50 < len
  · exact short_law a len cap n w hs
  · rcases h with ⟨_, h0, _⟩ | ⟨x, rfl, hl, _, hz, hc, _⟩
    · omega
    · have hc' : ∀ j u, ((zs.take len).map (Value.int .u8))[j]? = some u → w.cell? (x.add j) = some u := fun j u hu => by
        rw [List.getElem?_map] at hu
        have hj : j < len := by
          rcases Nat.lt_or_ge j len with h | h
          · exact h
          · rw [List.getElem?_eq_none (by simp; omega)] at hu; cases hu
        rw [hc j (by omega)]
        have hz' : j < zs.length := by omega
        rw [List.getElem?_take_of_lt hj, List.getElem?_eq_getElem hz'] at hu
        rw [← hu]
        simp [List.getD, List.getElem?_eq_getElem hz']
      have hb : x.block < w.heap.size := by
        have := World.block_lt_of_cell? w _ (hc 0 (by omega))
        rwa [show (x.add 0).block = x.block by unfold Addr.add; split <;> rfl] at this
      exact good_law x len cap (zs.take len) n w (by simp; omega) hb (by omega) (by omega) hc'
end Go.Proofs.Ytbfkeejnhibihaa
