import Derived.Test.YtlaffnlmdifnfaaGet
set_option linter.unusedSimpArgs false
set_option linter.unusedVariables false
set_option maxHeartbeats 8000000
set_option maxRecDepth 100000
namespace Go.Proofs.Ytlaffnlmdifnfaa
open Go.RowKit
/-- plans that stand in a row -/
def Six (w : World) (b o : Nat) (p : Pl) : Prop :=
  w.cell? ⟨b, o, none⟩ = some (.int .i64 p.pr) ∧ w.cell? ⟨b, o + 1, none⟩ = some (.int .u8 p.un) ∧ w.cell? ⟨b, o + 2, none⟩ = some (.int .i64 p.ev) ∧
  w.cell? ⟨b, o + 3, none⟩ = some (.int .i64 p.tr) ∧ w.cell? ⟨b, o + 4, none⟩ = some (.bool p.g) ∧ w.cell? ⟨b, o + 5, none⟩ = some (.bool p.l)
theorem Six.below {w w' : World} {b o : Nat} {p : Pl} {B : Nat} (h : Six w b o p) (hb : Below B w w') (hlt : b < B) : Six w' b o p := by
  obtain ⟨h0, h1, h2, h3, h4, h5⟩ := h
  refine ⟨?_, ?_, ?_, ?_, ?_, ?_⟩ <;> (rw [hb.cell (by exact hlt)]; assumption)
def Plans (w : World) (a : Option Addr) (len : Nat) (Z : Nat → Pl) : Prop :=
  len = 0 ∨ ∃ b off, a = some ⟨b, off, none⟩ ∧ b < w.heap.size ∧ (∀ i, i < len → Six w b (off + i * 6) (Z i) ∧ (Z i).Ok)
theorem own_below {w w' : World} {base : Nat} {e : TypeId} {size : Nat} {v : Value} {n : Nat} {xs : List Value} (h : w.ownsRow base e size v n xs) (hb : Below w.heap.size w w') : w'.ownsRow base e size v n xs :=
  h.kept (row := none) ⟨hb.os, hb.tape, hb.output, hb.size, fun k hk _ => hb.block k hk⟩ (by cases v.ownBlock <;> simp)
theorem flat_snoc (ps : List Pl) (q : Pl) : flat (ps ++ [q]) = flat ps ++ q.cells := by simp [flat]
/-- what the rounds keep -/
def Kept (w : World) (len : Nat) (x wv i : Value) (wr : World) : Prop :=
  ∃ (k : Nat) (ps : List Pl) (xa wa : Option Addr) (xc wc : Nat), k ≤ len ∧ i = .int .i64 k ∧ ps.length ≤ 8 ∧ x = .slice xa ps.length xc ∧ wv = .slice wa ps.length wc ∧
    wr.ownsRow w.heap.size 26 6 (.slice xa ps.length xc) ps.length (flat ps) ∧ wr.ownsRow w.heap.size 26 6 (.slice wa ps.length wc) ps.length (flat ps) ∧
    (ps = [] → xa = none ∧ xc = 0) ∧ (xa = none ∨ (Value.slice xa ps.length xc).ownBlock ≠ (Value.slice wa ps.length wc).ownBlock) ∧ Below w.heap.size w wr
theorem add_ok (q : Pl) (ps : List Pl) (xa : Option Addr) (xc B : Nat) (w : World) (hq : q.Ok) (h : rightOf q = 0) (own : w.ownsRow B 26 6 (.slice xa ps.length xc) ps.length (flat ps)) (h0 : ps = [] → xa = none ∧ xc = 0) (hn8 : ps.length < 8) :
    Calls Try.prog 6 #[.slice xa ps.length xc, q.v] w fun e w' => ∃ g c, e = .returned (.tuple #[.slice (some ⟨g, 0, none⟩) (ps.length + 1) c, .int .i64 (ps.length : Nat), .int .i64 0]) ∧ w'.ownsRow w.heap.size 26 6 (.slice (some ⟨g, 0, none⟩) (ps.length + 1) c) (ps.length + 1) (flat (ps ++ [q])) ∧ Below w.heap.size w w' := by
  cases ps with
  | nil =>
    obtain ⟨rfl, rfl⟩ := h0 rfl
    refine (add_first q w hq h).mono ?_
    rintro e w' ⟨v, rfl, h1, h2⟩
    obtain ⟨g, c, rfl, _, _⟩ := h1.form (by omega)
    exact ⟨g, c, rfl, h1, h2⟩
  | cons p ps =>
    obtain ⟨g0, c0, hv, _, _⟩ := own.form (by simp)
    have hxa : xa = some ⟨g0, 0, none⟩ := by injection hv
    subst hxa
    refine (add_more q (p :: ps) g0 _ xc B w hq h own (by simp) hn8).mono ?_
    rintro e w' ⟨v, rfl, h1, h2⟩
    obtain ⟨g, c, rfl, _, _⟩ := h1.form (by omega)
    rw [← flat_snoc] at h1
    exact ⟨g, c, rfl, h1, h2⟩
theorem six_of_blk {w : World} {g : Nat} {q : Pl} (h : w.heap[g]? = some (.cells #[.int .i64 q.pr, .int .u8 q.un, .int .i64 q.ev, .int .i64 q.tr, .bool q.g, .bool q.l] 26 (0, 0))) :
    w.cell? ⟨g, 0, none⟩ = some (.int .i64 q.pr) ∧ w.cell? ⟨g, 1, none⟩ = some (.int .u8 q.un) ∧ w.cell? ⟨g, 2, none⟩ = some (.int .i64 q.ev) ∧
    w.cell? ⟨g, 3, none⟩ = some (.int .i64 q.tr) ∧ w.cell? ⟨g, 4, none⟩ = some (.bool q.g) ∧ w.cell? ⟨g, 5, none⟩ = some (.bool q.l) := by
  refine ⟨?_, ?_, ?_, ?_, ?_, ?_⟩ <;> (rw [cell_of_row _ _ _ _ _ _ h]; rfl)
theorem kept_same {w : World} {len k : Nat} {ps : List Pl} {xa wa : Option Addr} {xc wc : Nat} {wr w4 : World} (hk : k < len) (h8 : ps.length ≤ 8) (ownx : wr.ownsRow w.heap.size 26 6 (.slice xa ps.length xc) ps.length (flat ps)) (ownw : wr.ownsRow w.heap.size 26 6 (.slice wa ps.length wc) ps.length (flat ps))
    (h0 : Hid (ps = [] → xa = none ∧ xc = 0)) (hne : Hid (xa = none ∨ (Value.slice xa ps.length xc).ownBlock ≠ (Value.slice wa ps.length wc).ownBlock)) (bel : Below w.heap.size w wr) (b4 : Below wr.heap.size wr w4) :
    Kept w len (.slice xa ps.length xc) (.slice wa ps.length wc) (.int .i64 ((k : Int) + 1)) w4 :=
  ⟨k + 1, ps, xa, wa, xc, wc, hk, rfl, h8, rfl, rfl, own_below ownx b4, own_below ownw b4, h0.out, hne.out, bel.trans (b4.mono bel.size)⟩
theorem kept_more {w : World} {len k : Nat} {ps : List Pl} {q : Pl} {wa : Option Addr} {wc g3 c3 g5 cap5 B : Nat} {wr w4 w5 : World} {o : Obj} (hk : k < len) (h8 : ps.length < 8)
    (ownx : w4.ownsRow B 26 6 (.slice (some ⟨g3, 0, none⟩) (ps.length + 1) c3) (ps.length + 1) (flat (ps ++ [q]))) (hB : wr.heap.size < B) (hwr : w.heap.size ≤ wr.heap.size)
    (ownw : wr.ownsRow w.heap.size 26 6 (.slice wa ps.length wc) ps.length (flat ps))
    (hgrow : (w4.alloc o).grownBy w5 (Value.slice wa ps.length wc).ownBlock) (hown5 : w5.ownsRow w.heap.size 26 6 (.slice (some ⟨g5, 0, none⟩) (ps.length + 1) cap5) (ps.length + 1) (flat ps ++ q.cells))
    (hat : (Value.slice wa ps.length wc).ownBlock = some g5 ∨ g5 = w4.heap.size + 1) (b4 : Below w.heap.size w w4) :
    Kept w len (.slice (some ⟨g3, 0, none⟩) (ps.length + 1) c3) (.slice (some ⟨g5, 0, none⟩) (ps.length + 1) cap5) (.int .i64 ((k : Int) + 1)) w5 := by
  have l3 := ownx.lt g3 rfl
  have lw : ∀ b, (Value.slice wa ps.length wc).ownBlock = some b → w.heap.size ≤ b ∧ b < wr.heap.size := ownw.lt
  have hne : (Value.slice wa ps.length wc).ownBlock ≠ some g3 := fun h => by have := lw _ h; omega
  have e1 : (ps ++ [q]).length = ps.length + 1 := by simp
  refine ⟨k + 1, ps ++ [q], some ⟨g3, 0, none⟩, some ⟨g5, 0, none⟩, c3, cap5, hk, rfl, by simp; omega, by rw [e1], by rw [e1], ?_, ?_, by simp, .inr ?_, ?_⟩
  · rw [e1]; exact World.ownsRow.mono ((ownx.alloc o).kept hgrow (.inr (fun h => hne h.symm))) (by omega)
  · rw [e1, flat_snoc]; exact hown5
  · rw [e1]
    show some g3 ≠ some g5
    rcases hat with h | h
    · intro h2; rw [h2] at hne; exact hne h
    · intro h2; have : g3 = g5 := by injection h2
      omega
  · exact (b4.alloc b4.size _).grown hgrow (by have := b4.size; simp; omega) (fun b h => (lw b h).1)
theorem flat_at : ∀ (ps : List Pl) (k j : Nat) (hk : k < ps.length) (hj : j < 6), (flat ps)[k * 6 + j]? = (ps[k]).cells[j]?
  | [], k, j, hk, hj => by simp at hk
  | p :: ps, 0, j, hk, hj => by
    show (p.cells ++ flat ps)[0 * 6 + j]? = _
    rw [List.getElem?_append_left (by simp [Pl.cells]; omega)]; simp
  | p :: ps, k + 1, j, hk, hj => by
    show (p.cells ++ flat ps)[(k + 1) * 6 + j]? = _
    rw [List.getElem?_append_right (by simp [Pl.cells]; omega)]
    have := flat_at ps k j (by simpa using hk) hj
    rw [show (k + 1) * 6 + j - p.cells.length = k * 6 + j by simp [Pl.cells]; omega, this]; rfl
theorem own_six {w : World} {B n xc : Nat} {xa : Option Addr} {ps : List Pl} (own : w.ownsRow B 26 6 (.slice xa n xc) n (flat ps)) (hn : ps.length = n) (k : Nat) (hk : k < ps.length) :
    ∃ g, xa = some ⟨g, 0, none⟩ ∧ g < w.heap.size ∧ Six w g (k * 6) (ps[k]) := by
  obtain ⟨g, c, hv, _, hlt⟩ := own.form (by omega)
  have hxa : xa = some ⟨g, 0, none⟩ := by injection hv
  subst hxa
  refine ⟨g, rfl, hlt, ?_⟩
  have key : ∀ j, j < 6 → w.cell? ⟨g, k * 6 + j, none⟩ = (ps[k]).cells[j]? := fun j hj => by
    rw [own.cellAt (k * 6 + j) (by omega), flat_at ps k j hk hj]
  exact ⟨by rw [show k * 6 = k * 6 + 0 by omega, key 0 (by omega)]; rfl, by rw [key 1 (by omega)]; rfl, by rw [key 2 (by omega)]; rfl, by rw [key 3 (by omega)]; rfl, by rw [key 4 (by omega)]; rfl, by rw [key 5 (by omega)]; rfl⟩
theorem law_any (a : Option Addr) (len cap : Nat) (Z : Nat → Pl) (n : Int) (w : World) (hp : Plans w a len Z) (h20 : len ≤ 20) : Calls Try.prog 3 #[.slice a len cap, .int .i64 n] w fun e w' => e = .returned (.bool true) ∧ Below w.heap.size w w' := by
  have h4 : decide ((20 : Int) < (len : Int)) = false := by simp; omega
  have h4' : (len : Int) ≤ 20 := by omega
  go_enter Try.func3, Try.ntmps3
  go_wp2_with fail
  refine (awake_law w).mono ?_
  rintro e w1 ⟨rfl, b1⟩
  go_wp2_with fail
  go_loopw [5, 6, 7] (fun x wv i wr => Kept w len x wv i wr) (fun _ _ i _ => len - (intOf i).toNat)
  case atStart =>
    exact ⟨0, [], none, none, 0, 0, Nat.zero_le _, rfl, by simp, rfl, rfl, World.ownsRow_nil _ _ _ _, World.ownsRow_nil _ _ _ _, fun _ => ⟨rfl, rfl⟩, .inl rfl, b1⟩
  case round =>
    obtain ⟨k, ps, xa, wa, xc, wc, hk, rfl, h8, rfl, rfl, ownx, ownw, hnil, hne, bel⟩ := hrel
    have h8' : (ps.length : Int) ≤ 8 := by omega
    have hne' := Lib.hid hne
    have hnil' := Lib.hid hnil
    clear hne hnil
    by_cases hlt : k < len
    · rcases hp with h0 | ⟨b, off, rfl, hbw, hz⟩
      · omega
      obtain ⟨hs, hok⟩ := hz k hlt
      obtain ⟨z0, z1, z2, z3, z4, z5⟩ := hs.below bel hbw
      clear hz hs
      have hlt' : (k : Int) < (len : Int) := by omega
      have h20' : (k : Int) ≤ 20 := by omega
      go_wp2_with fail
      refine (near_law (Z k) _ hok).mono ?_
      rintro e w2 ⟨rfl, hb⟩
      obtain ⟨l1, d1, rfl⟩ := swell_of_below hb
      clear hb z0 z1 z2 z3 z4 z5
      replace hok := near_ok (Z k) hok
      unfold Pl.v
      generalize nearOf (Z k) = q at *
      go_wp2_with fail
      have hblk := ((bl_swells (wr.alloc (.cells #[.int .i64 q.pr, .int .u8 q.un, .int .i64 q.ev, .int .i64 q.tr, .bool q.g, .bool q.l] 26)) l1 d1).block wr.heap.size (by simp)).trans (heap_new wr _ _ rfl)
      have b2 := ((Below.refl wr.heap.size wr).alloc (Nat.le_refl _) (.cells #[.int .i64 q.pr, .int .u8 q.un, .int .i64 q.ev, .int .i64 q.tr, .bool q.g, .bool q.l] 26)).trans ((bl_swells _ l1 d1).mono (by simp))
      generalize (wr.alloc (.cells #[.int .i64 q.pr, .int .u8 q.un, .int .i64 q.ev, .int .i64 q.tr, .bool q.g, .bool q.l] 26)).swell l1 d1 = w2 at *
      rotate_left
      clear z0 z1 z2 z3 z4 z5
      generalize Z k = q at *
      have hblk := heap_new wr (.cells #[.int .i64 q.pr, .int .u8 q.un, .int .i64 q.ev, .int .i64 q.tr, .bool q.g, .bool q.l] 26) _ rfl
      have b2 := ((Below.refl wr.heap.size wr).alloc (Nat.le_refl _) (.cells #[.int .i64 q.pr, .int .u8 q.un, .int .i64 q.ev, .int .i64 q.tr, .bool q.g, .bool q.l] 26))
      generalize (wr.alloc (.cells #[.int .i64 q.pr, .int .u8 q.un, .int .i64 q.ev, .int .i64 q.tr, .bool q.g, .bool q.l] 26)) = w2 at *
      all_goals
        have s2 : wr.heap.size < w2.heap.size := World.block_lt_of_cell? w2 _ (six_of_blk hblk).1
        by_cases hr : rightOf q = 0
        · by_cases h7 : ps.length < 8
          · obtain ⟨i0, hi0, hz0, hz1, hz2⟩ := info_parts info26
            refine (add_ok q ps xa xc _ w2 hok hr (own_below ownx b2) hnil'.out h7).mono ?_
            rintro e w3 ⟨g3, c3, rfl, ownx3, b3⟩
            have hblk3 := (b3.block wr.heap.size s2).trans hblk
            obtain ⟨z0, z1, z2, z3, z4, z5⟩ := six_of_blk hblk3
            have R := Lib.hid (right_law q · hok)
            rw [hr] at R
            have h7' : (ps.length : Int) < 8 := by omega
            have b23 := b2.trans (b3.mono (Nat.le_of_lt s2))
            have s3 := b23.size
            clear hblk b2 hr
            go_wp2_with fail
            refine (R.out _).mono ?_
            rintro e w4 ⟨rfl, b4⟩
            have b24 := b23.trans (b4.mono s3)
            have hblk4 := (b4.block wr.heap.size (by have := b3.size; omega)).trans hblk3
            obtain ⟨y0, y1, y2, y3, y4, y5⟩ := six_of_blk hblk4
            have ownx4 := own_below ownx3 b4
            have ownw4 := own_below ownw b24
            have s4 : wr.heap.size < w4.heap.size := World.block_lt_of_cell? w4 _ y0
            have hcl : [Value.int .i64 q.pr, .int .u8 q.un, .int .i64 q.ev, .int .i64 q.tr, .bool q.g, .bool q.l] = q.cells := rfl
            have hb24 : Below w.heap.size w w4 := bel.trans (b24.mono bel.size)
            clear b23 b4 z0 z1 z2 z3 z4 z5 hblk3 hblk4 ownx3 b3 hcl
            go_wp2_with (
              at_builtin
              refine wpList_append_lies _ rfl (.tmp 93) (.tmp 95) _ rfl w.heap.size 26 i0 _ 6 40 Try.underlying22 hi0 hz0 hz1 hz2 rfl (by omega) (.slice wa ps.length wc) ps.length (flat ps) rfl (ownw4.alloc _)
                ⟨w4.heap.size, 0, none⟩ 1 1 q.cells rfl rfl (World.news_of_block (cs := #[.int .i64 q.pr, .int .u8 q.un, .int .i64 q.ev, .int .i64 q.tr, .bool q.g, .bool q.l]) (t := 26) (fr := (0, 0)) (heap_new _ _ _ (by simp))) (by simp [Value.oneCell', Pl.cells])
                (by omega) (by simp only [maxLen]; omega) (by omega) (by have := hb24.size; simp; omega) (w4.heap.size + 1) (by simp) ?_
              intro g5 cap5 w5 hown5 hgrow5 hat5 hlt5)
            go_roundw
            case rel => exact kept_more hlt h7 ownx4 s2 bel.size ownw hgrow5 hown5 hat5 hb24
            case measure => simp [intOf]; omega
          · refine (add_full q ps.length xa xc w2 hok hr (by omega)).mono ?_
            rintro e w3 ⟨rfl, b3⟩
            have hblk3 := (b3.block wr.heap.size s2).trans hblk
            obtain ⟨z0, z1, z2, z3, z4, z5⟩ := six_of_blk hblk3
            have R := Lib.hid (right_law q · hok)
            rw [hr] at R
            have h7' : (8 : Int) ≤ (ps.length : Int) := by omega
            have b23 := b2.trans (b3.mono (Nat.le_of_lt s2))
            have s3 := b23.size
            clear hblk hblk3 b2 b3 hr
            go_wp2_with fail
            refine (R.out _).mono ?_
            rintro e w4 ⟨rfl, b4⟩
            have b24 := b23.trans (b4.mono s3)
            clear b23 b4 z0 z1 z2 z3 z4 z5
            go_wp2_with fail
            go_roundw
            case rel => exact kept_same hlt h8 ownx ownw hnil' hne' bel b24
            case measure => simp [intOf]; omega
        · refine (add_bad q (.slice xa ps.length xc) ps.length xa xc w2 hok hr).mono ?_
          rintro e w3 ⟨rfl, b3⟩
          have hblk3 := (b3.block wr.heap.size s2).trans hblk
          obtain ⟨z0, z1, z2, z3, z4, z5⟩ := six_of_blk hblk3
          have R := Lib.hid (right_law q · hok)
          have b23 := b2.trans (b3.mono (Nat.le_of_lt s2))
          have s3 := b23.size
          clear hblk hblk3 b2 b3
          generalize rightOf q = r at *
          have hr0 : (r == 0) = false := by simp [hr]
          have hr1 : (r != 0) = true := by simp [hr]
          clear hr
          go_wp2_with fail
          refine (R.out _).mono ?_
          rintro e w4 ⟨rfl, b4⟩
          have b24 := b23.trans (b4.mono s3)
          clear b23 b4 z0 z1 z2 z3 z4 z5
          go_wp2_with fail
          go_roundw
          case rel => exact kept_same hlt h8 ownx ownw hnil' hne' bel b24
          case measure => simp [intOf]; omega
    · have hge : (len : Int) ≤ (k : Int) := by omega
      clear hne' hnil' hp
      go_wp2_with fail
      go_loopw [13] (fun i w2 => ∃ k2 : Nat, k2 ≤ ps.length ∧ i = .int .i64 k2 ∧ Below wr.heap.size wr w2) (fun i _ => ps.length - (intOf i).toNat)
      case atStart => exact ⟨0, Nat.zero_le _, rfl, Below.refl _ _⟩
      case round =>
        obtain ⟨k2, hk2, rfl, bel2⟩ := hrel
        by_cases hlt2 : k2 < ps.length
        · obtain ⟨gx, rfl, hgx, sx⟩ := own_six ownx rfl k2 hlt2
          obtain ⟨gw, rfl, hgw, sw⟩ := own_six ownw rfl k2 hlt2
          generalize ps[k2] = q at *
          have sx2 := sx.below bel2 hgx
          have sw2 := sw.below bel2 hgw
          obtain ⟨x0, x1, x2, x3, x4, x5⟩ := sx2
          have hlt2' : (k2 : Int) < (ps.length : Int) := by omega
          have s2 := bel2.size
          clear sx sw
          go_wp2_with fail
          refine (get_at q gx ps.length xc k2 _ hlt2 x0 x1 x2 x3 x4 x5).mono ?_
          rintro e w3 ⟨rfl, b3⟩
          have sw3 := sw2.below b3 (by omega)
          obtain ⟨y0, y1, y2, y3, y4, y5⟩ := sw3
          have b23 := bel2.trans (b3.mono s2)
          have s3 := b23.size
          have hgw3 := World.block_lt_of_cell? w3 _ y0
          clear x0 x1 x2 x3 x4 x5 b3 sw2
          unfold Pl.v
          go_wp2_with fail
          go_quiet (fail)
          go_wp2_with fail
          go_roundw
          case rel => exact ⟨k2 + 1, by omega, by go_num, by repeat (first | exact b23 | apply bl_drewN | (refine bl_alloc ?_ _))⟩
          case measure => simp [intOf]; omega
        · have hge2 : (ps.length : Int) ≤ (k2 : Int) := by omega
          have s2 := bel2.size
          have bel3 := bel.trans (bel2.mono bel.size)
          have s3 := bel3.size
          by_cases hn : n < 0 ∨ (ps.length : Int) ≤ n
          · have hb : (decide (0 ≤ n) && decide (n < (ps.length : Int))) = false := by simp; omega
            go_wp2_with fail
            refine (get_none xa ps.length xc n _ hn).mono ?_
            rintro e w3 ⟨rfl, b3⟩
            have b23 := bel3.trans (b3.mono s3)
            go_wp2
            all_goals (go_ret; exact ⟨by simp <;> omega, by repeat (first | exact b23 | apply bl_drewN | (refine bl_alloc ?_ _))⟩)
          · obtain ⟨m, rfl⟩ := Int.eq_ofNat_of_zero_le (show 0 ≤ n by omega)
            have hm : m < ps.length := by omega
            have hm' : (m : Int) < (ps.length : Int) := by omega
            obtain ⟨gx, rfl, hgx, sx⟩ := own_six ownx rfl m hm
            generalize ps[m] = q at *
            obtain ⟨x0, x1, x2, x3, x4, x5⟩ := sx.below bel2 hgx
            clear hn sx
            go_wp2_with fail
            refine (get_at q gx ps.length xc m _ hm x0 x1 x2 x3 x4 x5).mono ?_
            rintro e w3 ⟨rfl, b3⟩
            have b23 := bel3.trans (b3.mono s3)
            clear x0 x1 x2 x3 x4 x5
            unfold Pl.v
            go_wp2
            all_goals (go_ret; exact ⟨by simp <;> omega, by repeat (first | exact b23 | apply bl_drewN | (refine bl_alloc ?_ _))⟩)
end Go.Proofs.Ytlaffnlmdifnfaa
