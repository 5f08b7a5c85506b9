import Derived.Test.YtggmfcdhdmfipaaDoorAwake
set_option linter.unusedSimpArgs false
set_option linter.unusedVariables false
set_option maxHeartbeats 4000000
namespace Go.Proofs.YtggmfcdhdmfipaaDoor
open Go.RowKit
theorem at1 (p am t : Int) (g : Bool) (w : World) (p0 : 0 ≤ p) (p1 : p ≤ 255) (hp : p % 10 = 0) (a0 : 0 ≤ am) (a1 : am ≤ 4294967295) (t0 : 0 ≤ t) (t1 : t ≤ 255) : Calls Tryd.prog 6 #[.int .u8 p, .int .u16 7, .int .u16 9, .int .u32 am, .int .i32 5, .int .u8 t, .int .u16 3, .bool g] w fun e w' => e = .returned (cyV 7 9 1 am 5 (1 + t % 4) 0 g) ∧ Below w.heap.size w w' := by
  go_enter Tryd.func6, Tryd.ntmps6
  go_wp2
  exact bodyPost_ret (v := cyV 7 9 1 am 5 (1 + t % 4) 0 g) (by simp [results, Tryd.results6, go_sem]) rfl ⟨rfl, by repeat (first | exact Below.refl _ _ | apply bl_alloc | apply bl_swell | apply bl_drewN | apply Below.drew)⟩
theorem at2 (p am t : Int) (g : Bool) (w : World) (p0 : 0 ≤ p) (p1 : p ≤ 255) (hp : p % 10 = 1) (a0 : 0 ≤ am) (a1 : am ≤ 4294967295) (t0 : 0 ≤ t) (t1 : t ≤ 255) : Calls Tryd.prog 6 #[.int .u8 p, .int .u16 7, .int .u16 9, .int .u32 am, .int .i32 5, .int .u8 t, .int .u16 3, .bool g] w fun e w' => e = .returned (cyV 7 9 2 am 5 (1 + t % 3) 3 g) ∧ Below w.heap.size w w' := by
  go_enter Tryd.func6, Tryd.ntmps6
  go_wp2
  exact bodyPost_ret (v := cyV 7 9 2 am 5 (1 + t % 3) 3 g) (by simp [results, Tryd.results6, go_sem]) rfl ⟨rfl, by repeat (first | exact Below.refl _ _ | apply bl_alloc | apply bl_swell | apply bl_drewN | apply Below.drew)⟩
theorem at3 (p am t : Int) (g : Bool) (w : World) (p0 : 0 ≤ p) (p1 : p ≤ 255) (hp : p % 10 = 2) (a0 : 0 ≤ am) (a1 : am ≤ 4294967295) (t0 : 0 ≤ t) (t1 : t ≤ 255) : Calls Tryd.prog 6 #[.int .u8 p, .int .u16 7, .int .u16 9, .int .u32 am, .int .i32 5, .int .u8 t, .int .u16 3, .bool g] w fun e w' => e = .returned (cyV 7 9 3 am 5 0 0 g) ∧ Below w.heap.size w w' := by
  go_enter Tryd.func6, Tryd.ntmps6
  go_wp2
  exact bodyPost_ret (v := cyV 7 9 3 am 5 0 0 g) (by simp [results, Tryd.results6, go_sem]) rfl ⟨rfl, by repeat (first | exact Below.refl _ _ | apply bl_alloc | apply bl_swell | apply bl_drewN | apply Below.drew)⟩
theorem at4 (p am t : Int) (g : Bool) (w : World) (p0 : 0 ≤ p) (p1 : p ≤ 255) (hp : p % 10 = 3) (a0 : 0 ≤ am) (a1 : am ≤ 4294967295) (t0 : 0 ≤ t) (t1 : t ≤ 255) : Calls Tryd.prog 6 #[.int .u8 p, .int .u16 7, .int .u16 9, .int .u32 am, .int .i32 5, .int .u8 t, .int .u16 3, .bool g] w fun e w' => e = .returned (cyV 7 9 4 am 5 0 0 g) ∧ Below w.heap.size w w' := by
  go_enter Tryd.func6, Tryd.ntmps6
  go_wp2
  exact bodyPost_ret (v := cyV 7 9 4 am 5 0 0 g) (by simp [results, Tryd.results6, go_sem]) rfl ⟨rfl, by repeat (first | exact Below.refl _ _ | apply bl_alloc | apply bl_swell | apply bl_drewN | apply Below.drew)⟩
theorem at5 (p am t : Int) (g : Bool) (w : World) (p0 : 0 ≤ p) (p1 : p ≤ 255) (hp : p % 10 = 4) (a0 : 0 ≤ am) (a1 : am ≤ 4294967295) (t0 : 0 ≤ t) (t1 : t ≤ 255) : Calls Tryd.prog 6 #[.int .u8 p, .int .u16 7, .int .u16 9, .int .u32 am, .int .i32 5, .int .u8 t, .int .u16 3, .bool g] w fun e w' => e = .returned (cyV 7 9 5 am 5 0 0 g) ∧ Below w.heap.size w w' := by
  go_enter Tryd.func6, Tryd.ntmps6
  go_wp2
  exact bodyPost_ret (v := cyV 7 9 5 am 5 0 0 g) (by simp [results, Tryd.results6, go_sem]) rfl ⟨rfl, by repeat (first | exact Below.refl _ _ | apply bl_alloc | apply bl_swell | apply bl_drewN | apply Below.drew)⟩
theorem at6 (p am t : Int) (g : Bool) (w : World) (p0 : 0 ≤ p) (p1 : p ≤ 255) (hp : p % 10 = 5) (a0 : 0 ≤ am) (a1 : am ≤ 4294967295) (t0 : 0 ≤ t) (t1 : t ≤ 255) : Calls Tryd.prog 6 #[.int .u8 p, .int .u16 7, .int .u16 9, .int .u32 am, .int .i32 5, .int .u8 t, .int .u16 3, .bool g] w fun e w' => e = .returned (cyV 7 9 6 am 5 0 0 g) ∧ Below w.heap.size w w' := by
  go_enter Tryd.func6, Tryd.ntmps6
  go_wp2
  exact bodyPost_ret (v := cyV 7 9 6 am 5 0 0 g) (by simp [results, Tryd.results6, go_sem]) rfl ⟨rfl, by repeat (first | exact Below.refl _ _ | apply bl_alloc | apply bl_swell | apply bl_drewN | apply Below.drew)⟩
theorem at7 (p am t : Int) (g : Bool) (w : World) (p0 : 0 ≤ p) (p1 : p ≤ 255) (hp : p % 10 = 6) (a0 : 0 ≤ am) (a1 : am ≤ 4294967295) (t0 : 0 ≤ t) (t1 : t ≤ 255) : Calls Tryd.prog 6 #[.int .u8 p, .int .u16 7, .int .u16 9, .int .u32 am, .int .i32 5, .int .u8 t, .int .u16 3, .bool g] w fun e w' => e = .returned (cyV 7 9 7 am 5 0 0 g) ∧ Below w.heap.size w w' := by
  go_enter Tryd.func6, Tryd.ntmps6
  go_wp2
  exact bodyPost_ret (v := cyV 7 9 7 am 5 0 0 g) (by simp [results, Tryd.results6, go_sem]) rfl ⟨rfl, by repeat (first | exact Below.refl _ _ | apply bl_alloc | apply bl_swell | apply bl_drewN | apply Below.drew)⟩
theorem at8 (p am t : Int) (g : Bool) (w : World) (p0 : 0 ≤ p) (p1 : p ≤ 255) (hp : p % 10 = 7) (a0 : 0 ≤ am) (a1 : am ≤ 4294967295) (t0 : 0 ≤ t) (t1 : t ≤ 255) : Calls Tryd.prog 6 #[.int .u8 p, .int .u16 7, .int .u16 9, .int .u32 am, .int .i32 5, .int .u8 t, .int .u16 3, .bool g] w fun e w' => e = .returned (cyV 7 9 8 am 5 0 0 g) ∧ Below w.heap.size w w' := by
  go_enter Tryd.func6, Tryd.ntmps6
  go_wp2
  exact bodyPost_ret (v := cyV 7 9 8 am 5 0 0 g) (by simp [results, Tryd.results6, go_sem]) rfl ⟨rfl, by repeat (first | exact Below.refl _ _ | apply bl_alloc | apply bl_swell | apply bl_drewN | apply Below.drew)⟩
theorem at9 (p am t : Int) (g : Bool) (w : World) (p0 : 0 ≤ p) (p1 : p ≤ 255) (hp : p % 10 = 8) (a0 : 0 ≤ am) (a1 : am ≤ 4294967295) (t0 : 0 ≤ t) (t1 : t ≤ 255) : Calls Tryd.prog 6 #[.int .u8 p, .int .u16 7, .int .u16 9, .int .u32 am, .int .i32 5, .int .u8 t, .int .u16 3, .bool g] w fun e w' => e = .returned (cyV 7 9 9 am 5 0 0 g) ∧ Below w.heap.size w w' := by
  go_enter Tryd.func6, Tryd.ntmps6
  go_wp2
  exact bodyPost_ret (v := cyV 7 9 9 am 5 0 0 g) (by simp [results, Tryd.results6, go_sem]) rfl ⟨rfl, by repeat (first | exact Below.refl _ _ | apply bl_alloc | apply bl_swell | apply bl_drewN | apply Below.drew)⟩
theorem at10 (p am t : Int) (g : Bool) (w : World) (p0 : 0 ≤ p) (p1 : p ≤ 255) (hp : p % 10 = 9) (a0 : 0 ≤ am) (a1 : am ≤ 4294967295) (t0 : 0 ≤ t) (t1 : t ≤ 255) : Calls Tryd.prog 6 #[.int .u8 p, .int .u16 7, .int .u16 9, .int .u32 am, .int .i32 5, .int .u8 t, .int .u16 3, .bool g] w fun e w' => e = .returned (cyV 7 9 10 am 5 0 0 g) ∧ Below w.heap.size w w' := by
  go_enter Tryd.func6, Tryd.ntmps6
  go_wp2
  exact bodyPost_ret (v := cyV 7 9 10 am 5 0 0 g) (by simp [results, Tryd.results6, go_sem]) rfl ⟨rfl, by repeat (first | exact Below.refl _ _ | apply bl_alloc | apply bl_swell | apply bl_drewN | apply Below.drew)⟩
end Go.Proofs.YtggmfcdhdmfipaaDoor
