import Derived.Test.YtggmfcdhdmfipaaDoorLawA
import Derived.Test.YtggmfcdhdmfipaaDoorLawB
set_option linter.unusedVariables false
namespace Go.Proofs.YtggmfcdhdmfipaaDoor
open Go.RowKit
theorem hears_any (p am t v td : Int) (g over : Bool) (w : World) (hl : Lad w) (p0 : 0 ≤ p) (p1 : p ≤ 255) (a0 : 0 ≤ am) (a1 : am ≤ 4294967295) (t0 : 0 ≤ t) (t1 : t ≤ 255) (v0 : 0 ≤ v) (v1 : v ≤ 255) (td0 : 0 ≤ td) (td1 : td ≤ 65535) : Calls Tryd.prog 3 #[.int .u8 p, .int .u32 am, .int .u8 t, .int .u8 v, .int .u16 td, .bool g, .bool over] w fun e w' => e = .returned (.bool true) ∧ Below w.heap.size w w' := by
  have hp : p % 10 = 0 ∨ p % 10 = 1 ∨ p % 10 = 2 ∨ p % 10 = 3 ∨ p % 10 = 4 ∨ p % 10 = 5 ∨ p % 10 = 6 ∨ p % 10 = 7 ∨ p % 10 = 8 ∨ p % 10 = 9 := by omega
  have hv : v % 5 = 0 ∨ v % 5 = 1 ∨ v % 5 = 2 ∨ v % 5 = 3 ∨ v % 5 = 4 := by omega
  have ht : t % 4 = 0 ∨ t % 4 = 1 ∨ t % 4 = 2 ∨ t % 4 = 3 := by omega
  rcases hp with hp | hp | hp | hp | hp | hp | hp | hp | hp | hp
  · rcases hv with hv | hv | hv | hv | hv
    · exact law1c0 p am t v td g over w hl p0 p1 hp a0 a1 t0 t1 v0 v1 hv td0 td1
    · cases over
      · cases g
        · exact law1yn p am t v td w hl p0 p1 hp a0 a1 t0 t1 v0 v1 hv td0 td1
        · exact law1yg p am t v td w hl p0 p1 hp a0 a1 t0 t1 v0 v1 hv td0 td1
      · exact law1yo p am t v td g w hl p0 p1 hp a0 a1 t0 t1 v0 v1 hv td0 td1
    · cases over
      · rcases ht with ht | ht | ht | ht
        · exact law1s1 p am t v td g w hl p0 p1 hp a0 a1 t0 t1 v0 v1 hv td0 td1 ht
        · exact law1s2 p am t v td g w hl p0 p1 hp a0 a1 t0 t1 v0 v1 hv td0 td1 ht
        · exact law1s3 p am t v td g w hl p0 p1 hp a0 a1 t0 t1 v0 v1 hv td0 td1 ht
        · exact law1s4 p am t v td g w hl p0 p1 hp a0 a1 t0 t1 v0 v1 hv td0 td1 ht
      · exact law1so p am t v td g w hl p0 p1 hp a0 a1 t0 t1 v0 v1 hv td0 td1
    · exact law1n3 p am t v td g over w hl p0 p1 hp a0 a1 t0 t1 v0 v1 hv td0 td1
    · exact law1n4 p am t v td g over w hl p0 p1 hp a0 a1 t0 t1 v0 v1 hv td0 td1
  · exact lawN2 p am t v td g over w hl p0 p1 hp a0 a1 t0 t1 v0 v1 td0 td1
  · rcases hv with hv | hv | hv | hv | hv
    · exact law3c0 p am t v td g over w hl p0 p1 hp a0 a1 t0 t1 v0 v1 hv td0 td1
    · cases over
      · exact law3y p am t v td g w hl p0 p1 hp a0 a1 t0 t1 v0 v1 hv td0 td1
      · exact law3o p am t v td g w hl p0 p1 hp a0 a1 t0 t1 v0 v1 hv td0 td1
    · exact law3n2 p am t v td g over w hl p0 p1 hp a0 a1 t0 t1 v0 v1 hv td0 td1
    · exact law3n3 p am t v td g over w hl p0 p1 hp a0 a1 t0 t1 v0 v1 hv td0 td1
    · exact law3n4 p am t v td g over w hl p0 p1 hp a0 a1 t0 t1 v0 v1 hv td0 td1
  · rcases hv with hv | hv | hv | hv | hv
    · exact law4c0 p am t v td g over w hl p0 p1 hp a0 a1 t0 t1 v0 v1 hv td0 td1
    · exact law4y p am t v td g over w hl p0 p1 hp a0 a1 t0 t1 v0 v1 hv td0 td1
    · exact law4n2 p am t v td g over w hl p0 p1 hp a0 a1 t0 t1 v0 v1 hv td0 td1
    · exact law4n3 p am t v td g over w hl p0 p1 hp a0 a1 t0 t1 v0 v1 hv td0 td1
    · exact law4n4 p am t v td g over w hl p0 p1 hp a0 a1 t0 t1 v0 v1 hv td0 td1
  · rcases hv with hv | hv | hv | hv | hv
    · exact law5c0 p am t v td g over w hl p0 p1 hp a0 a1 t0 t1 v0 v1 hv td0 td1
    · exact law5n1 p am t v td g over w hl p0 p1 hp a0 a1 t0 t1 v0 v1 hv td0 td1
    · exact law5n2 p am t v td g over w hl p0 p1 hp a0 a1 t0 t1 v0 v1 hv td0 td1
    · exact law5n3 p am t v td g over w hl p0 p1 hp a0 a1 t0 t1 v0 v1 hv td0 td1
    · exact law5n4 p am t v td g over w hl p0 p1 hp a0 a1 t0 t1 v0 v1 hv td0 td1
  · rcases hv with hv | hv | hv | hv | hv
    · exact law6c0 p am t v td g over w hl p0 p1 hp a0 a1 t0 t1 v0 v1 hv td0 td1
    · exact law6n1 p am t v td g over w hl p0 p1 hp a0 a1 t0 t1 v0 v1 hv td0 td1
    · exact law6n2 p am t v td g over w hl p0 p1 hp a0 a1 t0 t1 v0 v1 hv td0 td1
    · exact law6n3 p am t v td g over w hl p0 p1 hp a0 a1 t0 t1 v0 v1 hv td0 td1
    · exact law6n4 p am t v td g over w hl p0 p1 hp a0 a1 t0 t1 v0 v1 hv td0 td1
  · exact lawN7 p am t v td g over w hl p0 p1 hp a0 a1 t0 t1 v0 v1 td0 td1
  · exact lawN8 p am t v td g over w hl p0 p1 hp a0 a1 t0 t1 v0 v1 td0 td1
  · exact lawN9 p am t v td g over w hl p0 p1 hp a0 a1 t0 t1 v0 v1 td0 td1
  · exact lawN10 p am t v td g over w hl p0 p1 hp a0 a1 t0 t1 v0 v1 td0 td1
end Go.Proofs.YtggmfcdhdmfipaaDoor
