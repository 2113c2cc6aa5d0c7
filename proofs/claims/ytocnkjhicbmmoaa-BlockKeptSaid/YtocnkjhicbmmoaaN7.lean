/- The two variables of seedcornref24.fits, and what it asks of a register. -/
import Derived.Test.YtocnkjhicbmmoaaN3
import Derived.Test.YtocnkjhicbmmoaaQ4
import Derived.Test.YtocnkjhicbmmoaaQ6
import Derived.Test.YtocnkjhicbmmoaaQ7
import Derived.LoopN
namespace Go.Proofs.Ytocnkjhicbmmoaa.Q
open Go.RowKit Go.Proofs.YtocnkjhicbmmoaaW.PrintWords Go.Proofs.YtocnkjhicbmmoaaW.PrintLast
set_option linter.unusedVariables false
set_option linter.unusedSimpArgs false
theorem within_is (x n : Int) : seedcornref24_within.f x n = some (isB n x) := by
  unfold seedcornref24_within.f isB
  by_cases h : x ≥ 0
  · rw [if_pos h]; simp [h]
  · rw [if_neg h]; simp [show ¬ (0 ≤ x) from h]
structure FB (w wc : World) (op d a b k base size n o1 o2 o3 o4 o5 o6 o7 : Int) : Prop where
  b1 : wc.heap[w.heap.size]? = some (.cells #[.int .i64 op, .int .i64 d, .int .i64 a, .int .i64 b, .int .i64 k, .int .i64 base, .int .i64 size, .int .u32 n] 44 (0, 0))
  b2 : wc.heap[w.heap.size + 1]? = some (.cells #[.int .i64 op, .int .i64 o1, .int .i64 o2, .int .i64 o3, .int .i64 o4, .int .i64 o5, .int .i64 o6, .int .u32 o7] 44 (0, 0))
  low : Below w.heap.size w wc
section
variable {w wc wd : World} {op d a b k base size n o1 o2 o3 o4 o5 o6 o7 : Int}
theorem FB.start (w : World) (op d a b k base size n : Int) : FB w ((w.alloc (.cells #[.int .i64 op, .int .i64 d, .int .i64 a, .int .i64 b, .int .i64 k, .int .i64 base, .int .i64 size, .int .u32 n] 44)).alloc (.cells #[.int .i64 op, .int .i64 0, .int .i64 0, .int .i64 0, .int .i64 0, .int .i64 0, .int .i64 0, .int .u32 0] 44)) op d a b k base size n 0 0 0 0 0 0 0 :=
  ⟨(two_new w _ _).1, (two_new w _ _).2, below_alloc (below_alloc (Below.refl _ _) _) _⟩
theorem FB.move (h : FB w wc op d a b k base size n o1 o2 o3 o4 o5 o6 o7) (hb : Below wc.heap.size wc wd) : FB w wd op d a b k base size n o1 o2 o3 o4 o5 o6 o7 :=
  ⟨blk_below h.b1 hb, blk_below h.b2 hb, below_step h.low hb⟩
theorem FB.drewN (h : FB w wc op d a b k base size n o1 o2 o3 o4 o5 o6 o7) (m : Nat) : FB w (wc.drewN m) op d a b k base size n o1 o2 o3 o4 o5 o6 o7 := h.move (pw_below_drewN (Below.refl _ _) m)
theorem FB.drew (h : FB w wc op d a b k base size n o1 o2 o3 o4 o5 o6 o7) : FB w wc.drew op d a b k base size n o1 o2 o3 o4 o5 o6 o7 := h.move (below_drew1 (Below.refl _ _))
theorem FB.set1 (h : FB w wc op d a b k base size n o1 o2 o3 o4 o5 o6 o7) (x : Int) : FB w (wc.setCell ⟨w.heap.size + 1, 1, none⟩ (.int .i64 x)) op d a b k base size n x o2 o3 o4 o5 o6 o7 :=
  ⟨blk_far h.b1 (by simp) _, blk_put h.b2 1 _ rfl, below_set h.low (by omega)⟩
theorem FB.cells (h : FB w wc op d a b k base size n o1 o2 o3 o4 o5 o6 o7) :
    wc.cell? ⟨w.heap.size, 0, none⟩ = some (.int .i64 op) ∧ wc.cell? ⟨w.heap.size, 1, none⟩ = some (.int .i64 d) ∧ wc.cell? ⟨w.heap.size, 2, none⟩ = some (.int .i64 a) ∧ wc.cell? ⟨w.heap.size, 3, none⟩ = some (.int .i64 b) ∧
    wc.cell? ⟨w.heap.size, 4, none⟩ = some (.int .i64 k) ∧ wc.cell? ⟨w.heap.size, 5, none⟩ = some (.int .i64 base) ∧ wc.cell? ⟨w.heap.size, 6, none⟩ = some (.int .i64 size) ∧ wc.cell? ⟨w.heap.size, 7, none⟩ = some (.int .u32 n) :=
  ⟨(blk_cell h.b1 0).trans rfl, (blk_cell h.b1 1).trans rfl, (blk_cell h.b1 2).trans rfl, (blk_cell h.b1 3).trans rfl, (blk_cell h.b1 4).trans rfl, (blk_cell h.b1 5).trans rfl, (blk_cell h.b1 6).trans rfl, (blk_cell h.b1 7).trans rfl⟩
theorem FB.want (h : FB w wc op d a b k base size n o1 o2 o3 o4 o5 o6 o7) :
    wc.cell? ⟨w.heap.size + 1, 0, none⟩ = some (.int .i64 op) ∧ wc.cell? ⟨w.heap.size + 1, 1, none⟩ = some (.int .i64 o1) ∧ wc.cell? ⟨w.heap.size + 1, 2, none⟩ = some (.int .i64 o2) ∧ wc.cell? ⟨w.heap.size + 1, 3, none⟩ = some (.int .i64 o3) ∧
    wc.cell? ⟨w.heap.size + 1, 4, none⟩ = some (.int .i64 o4) ∧ wc.cell? ⟨w.heap.size + 1, 5, none⟩ = some (.int .i64 o5) ∧ wc.cell? ⟨w.heap.size + 1, 6, none⟩ = some (.int .i64 o6) ∧ wc.cell? ⟨w.heap.size + 1, 7, none⟩ = some (.int .u32 o7) :=
  ⟨(blk_cell h.b2 0).trans rfl, (blk_cell h.b2 1).trans rfl, (blk_cell h.b2 2).trans rfl, (blk_cell h.b2 3).trans rfl, (blk_cell h.b2 4).trans rfl, (blk_cell h.b2 5).trans rfl, (blk_cell h.b2 6).trans rfl, (blk_cell h.b2 7).trans rfl⟩
theorem FB.free (h : FB w wc op d a b k base size n o1 o2 o3 o4 o5 o6 o7) :
    wc.frozen? ⟨w.heap.size + 1, 1, none⟩ = false ∧ wc.frozen? ⟨w.heap.size + 1, 2, none⟩ = false ∧ wc.frozen? ⟨w.heap.size + 1, 3, none⟩ = false ∧ wc.frozen? ⟨w.heap.size + 1, 4, none⟩ = false ∧ wc.frozen? ⟨w.heap.size + 1, 5, none⟩ = false ∧ wc.frozen? ⟨w.heap.size + 1, 6, none⟩ = false ∧ wc.frozen? ⟨w.heap.size + 1, 7, none⟩ = false :=
  ⟨blk_frozen h.b2 1, blk_frozen h.b2 2, blk_frozen h.b2 3, blk_frozen h.b2 4, blk_frozen h.b2 5, blk_frozen h.b2 6, blk_frozen h.b2 7⟩
end
end Go.Proofs.Ytocnkjhicbmmoaa.Q
