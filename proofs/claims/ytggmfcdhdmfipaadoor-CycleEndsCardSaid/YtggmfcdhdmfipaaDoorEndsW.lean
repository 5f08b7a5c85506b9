import Derived.Test.YtggmfcdhdmfipaaDoorEnds
import Derived.Test.YtggmfcdhdmfipaaDoorMore
set_option linter.unusedSimpArgs false
set_option linter.unusedVariables false
set_option maxHeartbeats 8000000
namespace Go.Proofs.YtggmfcdhdmfipaaDoor
open Go.RowKit
def BeginPost (am : Int) (g : Bool) (w : World) (e : Ending) (w' : World) : Prop := ∃ ph tr, e = .returned (cyV 1 1 ph am 0 tr 0 g) ∧ EInv am g ph tr 0 0 0 0 0 0 ∧ Below w.heap.size w w'
theorem begin_any (am : Int) (g : Bool) (w : World) : Calls Tryd.prog 11 #[.int .i64 1, .int .i64 1, .int .i64 am, .int .i64 0, .bool g] w (BeginPost am g w) := by
  by_cases h : am = 0
  · subst h
    exact (begin0 1 1 0 g w).mono fun e w' ⟨he, hb⟩ => ⟨_, _, he, einv_begin0 g, hb⟩
  · exact (begin1 1 1 am 0 g w (beq_eq_false_iff_ne.2 h)).mono fun e w' ⟨he, hb⟩ => ⟨_, _, he, einv_begin am g h, hb⟩
theorem ends_walk (am : Int) (g over : Bool) (A : Option Addr) (len cap b off : Nat) (zs : List Int) (w : World) (hl : Lad w) (a0 : 0 ≤ am) (a1 : am ≤ 255) (hlen : len ≤ 20)
    (hz : ∀ k : Nat, 0 ≤ zs[k]?.getD 0 ∧ zs[k]?.getD 0 ≤ 255)
    (hcell : Hid (∀ k : Nat, k < len → A = some ⟨b, off, none⟩ ∧ w.cell? ⟨b, off + k, none⟩ = some (.int .u8 (zs[k]?.getD 0)))) :
    Calls Tryd.prog 4 #[.int .u8 am, .bool g, .slice A len cap, .bool over] w fun e w' => e = .returned (.bool true) ∧ Below w.heap.size w w' := by
  have HZ := Lib.hid hz
  clear hz
  go_enter Tryd.func4, Tryd.ntmps4
  go_wp2_with (first | (go_at_call 8; refine (awake_ok _ ?hl).mono ?_; (case hl => exact hl.of (by repeat (first | exact Below.refl _ _ | exact hB | apply bl_alloc | apply bl_swell | apply bl_drewN | apply Below.drew))); rintro e w1 ⟨rfl, hb⟩; obtain ⟨l1, d1, rfl⟩ := swell_of_below hb; clear hb) | (go_at_call 11; refine (begin_any _ _ _).mono ?_; rintro e w1 ⟨ph0, tr0, rfl, hE0, hb⟩; obtain ⟨l2, d2, rfl⟩ := swell_of_below hb; clear hb))
  have hB : Below w.heap.size w ((w.swell l1 d1).swell l2 d2) := by repeat (first | exact Below.refl _ _ | exact hB | apply bl_alloc | apply bl_swell | apply bl_drewN | apply Below.drew)
  obtain ⟨W1, hW1⟩ : ∃ W1, W1 = (w.swell l1 d1).swell l2 d2 := ⟨_, rfl⟩
  have hs : w.heap.size + l1.size + l2.size = W1.heap.size := by simp [hW1]
  rw [← hW1] at hB
  rw [← hW1, hs]
  clear hs hW1
  have hl1 : Lad W1 := hl.of hB
  have hc1 : Hid (∀ k : Nat, k < len → A = some ⟨b, off, none⟩ ∧ W1.cell? ⟨b, off + k, none⟩ = some (.int .u8 (zs[k]?.getD 0)) ∧ b < W1.heap.size) := Lib.hid fun k hk => by
    obtain ⟨h1, h2⟩ := hcell.out k hk
    have hlt := World.block_lt_of_cell? w _ h2
    exact ⟨h1, (hB.cell (p := ⟨b, off + k, none⟩) hlt).trans h2, Nat.lt_of_lt_of_le hlt hB.size⟩
  clear hcell hl
  go_loopw [11, 12] (fun k i wr => ∃ (kk : Nat) (ii ph tr nx A1 A2 A3 A4 A5 : Int) (l : Array Obj) (d : Nat), k = .int .i64 kk ∧ i = .int .i64 ii ∧ (kk : Int) ≤ ii ∧ EInv am g ph tr A1 A2 A3 A4 A5 ii ∧ wr = ((W1.alloc (.cells #[.int .i64 1, .int .i64 1, .int .u8 ph, .int .i64 am, .int .i64 0, .int .i64 tr, .int .i64 nx, .bool g] 25)).alloc (.cells #[.int .i64 0, .int .i64 A1, .int .i64 A2, .int .i64 A3, .int .i64 A4, .int .i64 A5] 41)).swell l d) (fun _ i _ => 30 - (intOf i).toNat)
  case atStart =>
    refine ⟨0, 0, ph0, tr0, 0, 0, 0, 0, 0, 0, #[], W1.drawn, rfl, rfl, by simp, hE0, ?_⟩
    exact swell_none _
  case round =>
    obtain ⟨kk, ii, ph, tr, nx, A1, A2, A3, A4, A5, l, d, rfl, rfl, hki, hE, rfl⟩ := hrel
    have i0 := hE.i0
    have i1 := hE.i1
    have b1 := hE.a1
    have b2 := hE.a2
    have b3 := hE.a3
    have b4 := hE.a4
    have b5 := hE.a5
    have bz := hE.gz
    have HE := Lib.hid hE
    have lo := hE.lo
    have hi := hE.hi
    clear hE hE0
    by_cases h7 : 7 ≤ ph
    · have h7' : decide (7 ≤ ph) = true := by simp [h7]
      cases g
      · obtain ⟨rfl, rfl, rfl⟩ := bz rfl
        go_wp2_with (first | (go_at_call 12; refine (ended_any _ _ _ _ _ _ _ _ _).mono ?_; rintro e w1 ⟨rfl, hb⟩; obtain ⟨l3, d3, rfl⟩ := swell_of_below hb; clear hb))
        go_ret
        exact ⟨rfl, by repeat (first | exact Below.refl _ _ | exact hB | apply bl_alloc | apply bl_swell | apply bl_drewN | apply Below.drew)⟩
      · go_wp2_with (first | (go_at_call 12; refine (ended_any _ _ _ _ _ _ _ _ _).mono ?_; rintro e w1 ⟨rfl, hb⟩; obtain ⟨l3, d3, rfl⟩ := swell_of_below hb; clear hb))
        go_ret
        exact ⟨rfl, by repeat (first | exact Below.refl _ _ | exact hB | apply bl_alloc | apply bl_swell | apply bl_drewN | apply Below.drew)⟩
    · have hcase : ph = 1 ∨ ph = 2 ∨ ph = 3 ∨ ph = 4 ∨ ph = 5 ∨ ph = 6 := by omega
      clear bz
      rcases hcase with rfl | rfl | rfl | rfl | rfl | rfl
      · have htr : 1 ≤ tr := (HE.out.p1 rfl).2.1
        have hi11 : ii ≤ 11 := i1
        by_cases hk : kk < len
        · obtain ⟨rfl, hc, hlt⟩ := hc1.out kk hk
          obtain ⟨z0, z1⟩ := HZ.out kk
          have hv0 : ((1 + zs[kk]?.getD 0 % 3 : Int) == 0) = false := by rw [beq_eq_false_iff_ne]; omega
          generalize zs[kk]?.getD 0 = z at *
          go_wp2_with (first | (go_at_call 12; refine (ended_any _ _ _ _ _ _ _ _ _).mono ?_; rintro e w1 ⟨rfl, hb⟩; obtain ⟨l3, d3, rfl⟩ := swell_of_below hb; clear hb) | (go_at_call 7; refine (asks1 _ _ _ _ _ _ _ _ _).mono ?_; rintro e w1 ⟨rfl, hb⟩; obtain ⟨l4, d4, rfl⟩ := swell_of_below hb; clear hb) | (go_at_call 9; refine (hear1 _ _ _ _ _ _ _ _ _ _ _ _ ?hl htr hv0).mono ?_; (case hl => exact hl1.of (by repeat (first | exact Below.refl _ _ | apply bl_alloc | apply bl_swell | apply bl_drewN | apply Below.drew))); rintro e w1 ⟨rfl, hb⟩; obtain ⟨l5, d5, rfl⟩ := swell_of_below hb; clear hb))
          go_roundw
          case rel => exact ⟨kk + 1, ii + 1, chPh am tr (1 + z % 3) g over, tr, chNx tr nx (1 + z % 3) 1 over, A1 + 1, A2, A3, A4, A5, _, _, by go_num, rfl, by omega, einv1 (1 + z % 3) HE.out, by simp only [alloc_swell, swell_swell]; rfl⟩
          case measure => simp [intOf]; omega
        · have hv0 : ((1 : Int) == 0) = false := by decide
          go_wp2_with (first | (go_at_call 12; refine (ended_any _ _ _ _ _ _ _ _ _).mono ?_; rintro e w1 ⟨rfl, hb⟩; obtain ⟨l3, d3, rfl⟩ := swell_of_below hb; clear hb) | (go_at_call 7; refine (asks1 _ _ _ _ _ _ _ _ _).mono ?_; rintro e w1 ⟨rfl, hb⟩; obtain ⟨l4, d4, rfl⟩ := swell_of_below hb; clear hb) | (go_at_call 9; refine (hear1 _ _ _ _ _ _ _ _ _ _ _ _ ?hl htr hv0).mono ?_; (case hl => exact hl1.of (by repeat (first | exact Below.refl _ _ | apply bl_alloc | apply bl_swell | apply bl_drewN | apply Below.drew))); rintro e w1 ⟨rfl, hb⟩; obtain ⟨l5, d5, rfl⟩ := swell_of_below hb; clear hb))
          go_roundw
          case rel => exact ⟨kk + 1, ii + 1, chPh am tr (1) g over, tr, chNx tr nx (1) 1 over, A1 + 1, A2, A3, A4, A5, _, _, by go_num, rfl, by omega, einv1 (1) HE.out, by simp only [alloc_swell, swell_swell]; rfl⟩
          case measure => simp [intOf]; omega
      · have htr := HE.out.p2 rfl
        have t0 : 0 ≤ tr := by omega
        have t1 : tr ≤ 100 := by omega
        clear htr
        go_wp2_with (first | (go_at_call 12; refine (ended_any _ _ _ _ _ _ _ _ _).mono ?_; rintro e w1 ⟨rfl, hb⟩; obtain ⟨l3, d3, rfl⟩ := swell_of_below hb; clear hb) | (go_at_call 13; refine (card2 _ _ _ _ _ _ _ _ t0 t1).mono ?_; rintro e w1 ⟨rfl, hb⟩; obtain ⟨l4, d4, rfl⟩ := swell_of_below hb; clear hb))
        go_roundw
        case rel => exact ⟨kk, ii + 1, 1, tr + 1, 0, A1, A2, A3, A4, A5, _, _, rfl, rfl, by omega, einv2 HE.out, by simp only [alloc_swell, swell_swell]; rfl⟩
        case measure => simp [intOf]; omega
      · have hi11 : ii ≤ 11 := i1
        by_cases hk : kk < len
        · obtain ⟨rfl, hc, hlt⟩ := hc1.out kk hk
          obtain ⟨z0, z1⟩ := HZ.out kk
          have hv0 : ((1 + zs[kk]?.getD 0 % 3 : Int) == 0) = false := by rw [beq_eq_false_iff_ne]; omega
          generalize zs[kk]?.getD 0 = z at *
          go_wp2_with (first | (go_at_call 12; refine (ended_any _ _ _ _ _ _ _ _ _).mono ?_; rintro e w1 ⟨rfl, hb⟩; obtain ⟨l3, d3, rfl⟩ := swell_of_below hb; clear hb) | (go_at_call 7; refine (asks3 _ _ _ _ _ _ _ _ _).mono ?_; rintro e w1 ⟨rfl, hb⟩; obtain ⟨l4, d4, rfl⟩ := swell_of_below hb; clear hb) | (go_at_call 9; refine (hear3 _ _ _ _ _ _ _ _ _ _ _ _ hv0).mono ?_; rintro e w1 ⟨rfl, hb⟩; obtain ⟨l5, d5, rfl⟩ := swell_of_below hb; clear hb))
          go_roundw
          case rel => exact ⟨kk + 1, ii + 1, h3Ph am (1 + z % 3) over, tr, nx, A1, A2, A3 + 1, A4, A5, _, _, by go_num, rfl, by omega, einv3 (1 + z % 3) HE.out, by simp only [alloc_swell, swell_swell]; rfl⟩
          case measure => simp [intOf]; omega
        · have hv0 : ((1 : Int) == 0) = false := by decide
          go_wp2_with (first | (go_at_call 12; refine (ended_any _ _ _ _ _ _ _ _ _).mono ?_; rintro e w1 ⟨rfl, hb⟩; obtain ⟨l3, d3, rfl⟩ := swell_of_below hb; clear hb) | (go_at_call 7; refine (asks3 _ _ _ _ _ _ _ _ _).mono ?_; rintro e w1 ⟨rfl, hb⟩; obtain ⟨l4, d4, rfl⟩ := swell_of_below hb; clear hb) | (go_at_call 9; refine (hear3 _ _ _ _ _ _ _ _ _ _ _ _ hv0).mono ?_; rintro e w1 ⟨rfl, hb⟩; obtain ⟨l5, d5, rfl⟩ := swell_of_below hb; clear hb))
          go_roundw
          case rel => exact ⟨kk + 1, ii + 1, h3Ph am (1) over, tr, nx, A1, A2, A3 + 1, A4, A5, _, _, by go_num, rfl, by omega, einv3 (1) HE.out, by simp only [alloc_swell, swell_swell]; rfl⟩
          case measure => simp [intOf]; omega
      · have hi11 : ii ≤ 11 := i1
        by_cases hk : kk < len
        · obtain ⟨rfl, hc, hlt⟩ := hc1.out kk hk
          obtain ⟨z0, z1⟩ := HZ.out kk
          have hv0 : ((1 + zs[kk]?.getD 0 % 3 : Int) == 0) = false := by rw [beq_eq_false_iff_ne]; omega
          generalize zs[kk]?.getD 0 = z at *
          go_wp2_with (first | (go_at_call 12; refine (ended_any _ _ _ _ _ _ _ _ _).mono ?_; rintro e w1 ⟨rfl, hb⟩; obtain ⟨l3, d3, rfl⟩ := swell_of_below hb; clear hb) | (go_at_call 7; refine (asks4 _ _ _ _ _ _ _ _ _).mono ?_; rintro e w1 ⟨rfl, hb⟩; obtain ⟨l4, d4, rfl⟩ := swell_of_below hb; clear hb) | (go_at_call 9; refine (hear4 _ _ _ _ _ _ _ _ _ _ _ _ hv0).mono ?_; rintro e w1 ⟨rfl, hb⟩; obtain ⟨l5, d5, rfl⟩ := swell_of_below hb; clear hb))
          go_roundw
          case rel => exact ⟨kk + 1, ii + 1, h4Ph (1 + z % 3), tr, nx, A1, A2, A3, A4, A5 + 1, _, _, by go_num, rfl, by omega, einv4 (1 + z % 3) HE.out, by simp only [alloc_swell, swell_swell]; rfl⟩
          case measure => simp [intOf]; omega
        · have hv0 : ((1 : Int) == 0) = false := by decide
          go_wp2_with (first | (go_at_call 12; refine (ended_any _ _ _ _ _ _ _ _ _).mono ?_; rintro e w1 ⟨rfl, hb⟩; obtain ⟨l3, d3, rfl⟩ := swell_of_below hb; clear hb) | (go_at_call 7; refine (asks4 _ _ _ _ _ _ _ _ _).mono ?_; rintro e w1 ⟨rfl, hb⟩; obtain ⟨l4, d4, rfl⟩ := swell_of_below hb; clear hb) | (go_at_call 9; refine (hear4 _ _ _ _ _ _ _ _ _ _ _ _ hv0).mono ?_; rintro e w1 ⟨rfl, hb⟩; obtain ⟨l5, d5, rfl⟩ := swell_of_below hb; clear hb))
          go_roundw
          case rel => exact ⟨kk + 1, ii + 1, h4Ph (1), tr, nx, A1, A2, A3, A4, A5 + 1, _, _, by go_num, rfl, by omega, einv4 (1) HE.out, by simp only [alloc_swell, swell_swell]; rfl⟩
          case measure => simp [intOf]; omega
      · have hi11 : ii ≤ 11 := i1
        by_cases hk : kk < len
        · obtain ⟨rfl, hc, hlt⟩ := hc1.out kk hk
          obtain ⟨z0, z1⟩ := HZ.out kk
          have hv0 : ((1 + zs[kk]?.getD 0 % 3 : Int) == 0) = false := by rw [beq_eq_false_iff_ne]; omega
          generalize zs[kk]?.getD 0 = z at *
          go_wp2_with (first | (go_at_call 12; refine (ended_any _ _ _ _ _ _ _ _ _).mono ?_; rintro e w1 ⟨rfl, hb⟩; obtain ⟨l3, d3, rfl⟩ := swell_of_below hb; clear hb) | (go_at_call 7; refine (asks5 _ _ _ _ _ _ _ _ _).mono ?_; rintro e w1 ⟨rfl, hb⟩; obtain ⟨l4, d4, rfl⟩ := swell_of_below hb; clear hb) | (go_at_call 9; refine (hear5 _ _ _ _ _ _ _ _ _ _ _ _ hv0).mono ?_; rintro e w1 ⟨rfl, hb⟩; obtain ⟨l5, d5, rfl⟩ := swell_of_below hb; clear hb))
          go_roundw
          case rel => exact ⟨kk + 1, ii + 1, backPh am, tr, nx, A1, A2, A3, A4 + 1, A5, _, _, by go_num, rfl, by omega, einv5 HE.out, by simp only [alloc_swell, swell_swell]; rfl⟩
          case measure => simp [intOf]; omega
        · have hv0 : ((1 : Int) == 0) = false := by decide
          go_wp2_with (first | (go_at_call 12; refine (ended_any _ _ _ _ _ _ _ _ _).mono ?_; rintro e w1 ⟨rfl, hb⟩; obtain ⟨l3, d3, rfl⟩ := swell_of_below hb; clear hb) | (go_at_call 7; refine (asks5 _ _ _ _ _ _ _ _ _).mono ?_; rintro e w1 ⟨rfl, hb⟩; obtain ⟨l4, d4, rfl⟩ := swell_of_below hb; clear hb) | (go_at_call 9; refine (hear5 _ _ _ _ _ _ _ _ _ _ _ _ hv0).mono ?_; rintro e w1 ⟨rfl, hb⟩; obtain ⟨l5, d5, rfl⟩ := swell_of_below hb; clear hb))
          go_roundw
          case rel => exact ⟨kk + 1, ii + 1, backPh am, tr, nx, A1, A2, A3, A4 + 1, A5, _, _, by go_num, rfl, by omega, einv5 HE.out, by simp only [alloc_swell, swell_swell]; rfl⟩
          case measure => simp [intOf]; omega
      · have hi11 : ii ≤ 11 := i1
        by_cases hk : kk < len
        · obtain ⟨rfl, hc, hlt⟩ := hc1.out kk hk
          obtain ⟨z0, z1⟩ := HZ.out kk
          have hv0 : ((1 + zs[kk]?.getD 0 % 3 : Int) == 0) = false := by rw [beq_eq_false_iff_ne]; omega
          generalize zs[kk]?.getD 0 = z at *
          go_wp2_with (first | (go_at_call 12; refine (ended_any _ _ _ _ _ _ _ _ _).mono ?_; rintro e w1 ⟨rfl, hb⟩; obtain ⟨l3, d3, rfl⟩ := swell_of_below hb; clear hb) | (go_at_call 7; refine (asks6 _ _ _ _ _ _ _ _ _).mono ?_; rintro e w1 ⟨rfl, hb⟩; obtain ⟨l4, d4, rfl⟩ := swell_of_below hb; clear hb) | (go_at_call 9; refine (hear6 _ _ _ _ _ _ _ _ _ _ _ _ hv0).mono ?_; rintro e w1 ⟨rfl, hb⟩; obtain ⟨l5, d5, rfl⟩ := swell_of_below hb; clear hb))
          go_roundw
          case rel => exact ⟨kk + 1, ii + 1, 9, tr, nx, A1, A2 + 1, A3, A4, A5, _, _, by go_num, rfl, by omega, einv6 HE.out, by simp only [alloc_swell, swell_swell]; rfl⟩
          case measure => simp [intOf]; omega
        · have hv0 : ((1 : Int) == 0) = false := by decide
          go_wp2_with (first | (go_at_call 12; refine (ended_any _ _ _ _ _ _ _ _ _).mono ?_; rintro e w1 ⟨rfl, hb⟩; obtain ⟨l3, d3, rfl⟩ := swell_of_below hb; clear hb) | (go_at_call 7; refine (asks6 _ _ _ _ _ _ _ _ _).mono ?_; rintro e w1 ⟨rfl, hb⟩; obtain ⟨l4, d4, rfl⟩ := swell_of_below hb; clear hb) | (go_at_call 9; refine (hear6 _ _ _ _ _ _ _ _ _ _ _ _ hv0).mono ?_; rintro e w1 ⟨rfl, hb⟩; obtain ⟨l5, d5, rfl⟩ := swell_of_below hb; clear hb))
          go_roundw
          case rel => exact ⟨kk + 1, ii + 1, 9, tr, nx, A1, A2 + 1, A3, A4, A5, _, _, by go_num, rfl, by omega, einv6 HE.out, by simp only [alloc_swell, swell_swell]; rfl⟩
          case measure => simp [intOf]; omega
end Go.Proofs.YtggmfcdhdmfipaaDoor
