/- What a run of seedcornref24.Run is in the midst of it, as numbers and lists, and how it lies in memory. -/
import Derived.Test.YtocnkjhicbmmoaaM6
namespace Go.Proofs.Ytocnkjhicbmmoaa.Q
open Go.RowKit Go.Proofs.YtocnkjhicbmmoaaW.PrintWords Go.Proofs.YtocnkjhicbmmoaaW.PrintLast
set_option linter.unusedVariables false
set_option linter.unusedSimpArgs false

structure Rc where
  ws : List Int
  out : List Int
  read : Int
  steps : Int
  en : Int
structure RS (w0 W : World) (g wb : Nat) (nw : Int) (fs : List S35) (inp : ByteArray) (fuel : Int) (s : Rc) (A : Option Addr) (c : Nat) (vo : Value) : Prop where
  m : W.heap[g]? = some (.cells #[.int .i64 nw, .slice A fs.length c, .string inp, .int .i64 fuel, .slice (some ⟨wb, 0, none⟩) s.ws.length s.ws.length, vo, .int .i64 s.read, .int .i64 s.steps, .int .i64 s.en] 77 (0, 0))
  fsl : fs.length ≤ c
  fsr : Kd.C k35 w0 A fs.length fs
  words : W.heap[wb]? = some (.cells (nums .u32 s.ws).toArray 42 (0, 0))
  out : W.ownsRow w0.heap.size 5 1 vo s.out.length (nums .u8 s.out)
  gg : w0.heap.size ≤ g
  wg : w0.heap.size ≤ wb
  low : Below w0.heap.size w0 W
/-- Blocks that are neither the bytes' nor the run's own variable, and are not in S, hold what they held. -/
def Kp (S : Nat → Prop) (W W1 : World) : Prop := ∀ k cs t, W.heap[k]? = some (.cells cs t (0, 0)) → t ≠ 5 → t ≠ 77 → ¬ S k → W1.heap[k]? = some (.cells cs t (0, 0))
theorem Kp.refl (S : Nat → Prop) (W : World) : Kp S W W := fun _ _ _ h _ _ _ => h
theorem Kp.trans {S : Nat → Prop} {W W1 W2 : World} (h : Kp S W W1) (k : Kp S W1 W2) : Kp S W W2 := fun q cs t hq h5 h7 hs => k q cs t (h q cs t hq h5 h7 hs) h5 h7 hs
theorem Kp.wide {S S' : Nat → Prop} {W W1 : World} (h : Kp S W W1) (hs : ∀ k, S k → S' k) : Kp S' W W1 := fun q cs t hq h5 h7 hn => h q cs t hq h5 h7 fun e => hn (hs q e)
theorem Kp.below {S : Nat → Prop} {W W1 W2 : World} (h : Kp S W W1) (hb : Below W1.heap.size W1 W2) : Kp S W W2 := fun q cs t hq h5 h7 hs => blk_below (h q cs t hq h5 h7 hs) hb
theorem Kp.alloc {S : Nat → Prop} {W W1 : World} (h : Kp S W W1) (o : Obj) : Kp S W (W1.alloc o) := h.below (below_alloc (Below.refl _ _) o)
theorem Kp.drewN {S : Nat → Prop} {W W1 : World} (h : Kp S W W1) (n : Nat) : Kp S W (W1.drewN n) := h.below (pw_below_drewN (Below.refl _ _) n)
theorem Kp.drew {S : Nat → Prop} {W W1 : World} (h : Kp S W W1) : Kp S W W1.drew := h.below (below_drew1 (Below.refl _ _))
theorem Kp.set {S : Nat → Prop} {W W1 : World} (h : Kp S W W1) {q : Nat} {cs0 : Array Value} {t0 : TypeId} (hq : W1.heap[q]? = some (.cells cs0 t0 (0, 0))) (hs : t0 = 5 ∨ t0 = 77 ∨ S q) (i : Nat) (u : Value) : Kp S W (W1.setCell ⟨q, i, none⟩ u) := by
  intro k cs t hk h5 h7 hn
  have h1 := h k cs t hk h5 h7 hn
  have hne : k ≠ q := by
    intro e
    subst e
    rw [hq] at h1
    injection h1 with h1
    injection h1 with _ h1
    rcases hs with hs | hs | hs
    · exact h5 (by rw [← h1, hs])
    · exact h7 (by rw [← h1, hs])
    · exact hn hs
  exact blk_far h1 hne u
theorem Kp.grown {S : Nat → Prop} {W W1 W2 : World} (h : Kp S W W1) {v : Value} {n base : Nat} {xs : List Value} (ho : W1.ownsRow base 5 1 v n xs) (hg : W1.grownBy W2 v.ownBlock) : Kp S W W2 := by
  intro k cs t hk h5 h7 hn
  have h1 := h k cs t hk h5 h7 hn
  exact blk_grown h1 hg (own_ne ho h1 (Ne.symm h5))

section
variable {w0 W W1 : World} {g wb : Nat} {nw : Int} {fs : List S35} {inp : ByteArray} {fuel : Int} {s : Rc} {A : Option Addr} {c : Nat} {vo : Value}
theorem RS.move (h : RS w0 W g wb nw fs inp fuel s A c vo) (hb : Below W.heap.size W W1) : RS w0 W1 g wb nw fs inp fuel s A c vo :=
  ⟨blk_below h.m hb, h.fsl, h.fsr, blk_below h.words hb, pw_own_below h.out hb, h.gg, h.wg, below_step h.low hb⟩
theorem RS.alloc (h : RS w0 W g wb nw fs inp fuel s A c vo) (o : Obj) : RS w0 (W.alloc o) g wb nw fs inp fuel s A c vo := h.move (below_alloc (Below.refl _ _) o)
theorem RS.drewN (h : RS w0 W g wb nw fs inp fuel s A c vo) (n : Nat) : RS w0 (W.drewN n) g wb nw fs inp fuel s A c vo := h.move (pw_below_drewN (Below.refl _ _) n)
theorem RS.drew (h : RS w0 W g wb nw fs inp fuel s A c vo) : RS w0 W.drew g wb nw fs inp fuel s A c vo := h.move (below_drew1 (Below.refl _ _))
theorem RS.cells (h : RS w0 W g wb nw fs inp fuel s A c vo) :
    W.cell? ⟨g, 0, none⟩ = some (.int .i64 nw) ∧ W.cell? ⟨g, 1, none⟩ = some (.slice A fs.length c) ∧ W.cell? ⟨g, 2, none⟩ = some (.string inp) ∧ W.cell? ⟨g, 3, none⟩ = some (.int .i64 fuel) ∧ W.cell? ⟨g, 4, none⟩ = some (.slice (some ⟨wb, 0, none⟩) s.ws.length s.ws.length) ∧
    W.cell? ⟨g, 5, none⟩ = some vo ∧ W.cell? ⟨g, 6, none⟩ = some (.int .i64 s.read) ∧ W.cell? ⟨g, 7, none⟩ = some (.int .i64 s.steps) ∧ W.cell? ⟨g, 8, none⟩ = some (.int .i64 s.en) ∧ g < W.heap.size ∧ wb < W.heap.size ∧ (∀ i, W.frozen? ⟨g, i, none⟩ = false) ∧ (∀ i, W.frozen? ⟨wb, i, none⟩ = false) := by
  have h1 := h.m
  exact ⟨(blk_cell h1 0).trans rfl, (blk_cell h1 1).trans rfl, (blk_cell h1 2).trans rfl, (blk_cell h1 3).trans rfl, (blk_cell h1 4).trans rfl, (blk_cell h1 5).trans rfl, (blk_cell h1 6).trans rfl, (blk_cell h1 7).trans rfl, (blk_cell h1 8).trans rfl, blk_lt h1, blk_lt h.words, blk_frozen h1, blk_frozen h.words⟩
theorem RS.word (h : RS w0 W g wb nw fs inp fuel s A c vo) {i v : Int} (h0 : 0 ≤ i) (hv : s.ws[i.toNat]? = some v) : W.cell? ⟨wb, i.toNat, none⟩ = some (.int .u32 v) := by
  rw [blk_cell h.words]
  simp [nums, hv]
theorem RS.set_read (h : RS w0 W g wb nw fs inp fuel s A c vo) (x : Int) : RS w0 (W.setCell ⟨g, 6, none⟩ (.int .i64 x)) g wb nw fs inp fuel { s with read := x } A c vo :=
  ⟨blk_put h.m 6 _ rfl, h.fsl, h.fsr, blk_far h.words (blk_ne h.words h.m (by decide)) _, own_setCell h.out (own_ne h.out h.m (by decide)) _, h.gg, h.wg, below_set h.low h.gg⟩
theorem RS.set_steps (h : RS w0 W g wb nw fs inp fuel s A c vo) (x : Int) : RS w0 (W.setCell ⟨g, 7, none⟩ (.int .i64 x)) g wb nw fs inp fuel { s with steps := x } A c vo :=
  ⟨blk_put h.m 7 _ rfl, h.fsl, h.fsr, blk_far h.words (blk_ne h.words h.m (by decide)) _, own_setCell h.out (own_ne h.out h.m (by decide)) _, h.gg, h.wg, below_set h.low h.gg⟩
theorem RS.set_end (h : RS w0 W g wb nw fs inp fuel s A c vo) (x : Int) : RS w0 (W.setCell ⟨g, 8, none⟩ (.int .i64 x)) g wb nw fs inp fuel { s with en := x } A c vo :=
  ⟨blk_put h.m 8 _ rfl, h.fsl, h.fsr, blk_far h.words (blk_ne h.words h.m (by decide)) _, own_setCell h.out (own_ne h.out h.m (by decide)) _, h.gg, h.wg, below_set h.low h.gg⟩
theorem RS.set_word (h : RS w0 W g wb nw fs inp fuel s A c vo) (i : Nat) (x : Int) : RS w0 (W.setCell ⟨wb, i, none⟩ (.int .u32 x)) g wb nw fs inp fuel { s with ws := s.ws.set i x } A c vo :=
  ⟨by have := blk_far h.m (p := ⟨wb, i, none⟩) (blk_ne h.m h.words (by decide)) (.int .u32 x); simpa using this, h.fsl, h.fsr, blk_put h.words i _ (nums_put _ _ _ _), own_setCell h.out (own_ne h.out h.words (by decide)) _, h.gg, h.wg, below_set h.low h.wg⟩
/-- A store into another block of numbers of 32 bits. -/
theorem RS.set_reg (h : RS w0 W g wb nw fs inp fuel s A c vo) {r : Nat} {cs : Array Value} (hr : W.heap[r]? = some (.cells cs 42 (0, 0))) (hne : r ≠ wb) (hge : w0.heap.size ≤ r) (i : Nat) (u : Value) : RS w0 (W.setCell ⟨r, i, none⟩ u) g wb nw fs inp fuel s A c vo :=
  ⟨blk_far h.m (blk_ne h.m hr (by decide)) _, h.fsl, h.fsr, blk_far h.words (Ne.symm hne) _, own_setCell h.out (own_ne h.out hr (by decide)) _, h.gg, h.wg, below_set h.low hge⟩
end
section
variable {w0 W w1 : World} {g wb : Nat} {nw : Int} {fs : List S35} {inp : ByteArray} {fuel : Int} {ws out : List Int} {read steps en : Int} {A : Option Addr} {c : Nat} {vo v1 : Value}
theorem RS.put_out (h : RS w0 W g wb nw fs inp fuel ⟨ws, out, read, steps, en⟩ A c vo) {x : Int} (ho : w1.ownsRow w0.heap.size 5 1 v1 (out.length + 1) (nums .u8 out ++ [.int .u8 x])) (hg : W.grownBy w1 vo.ownBlock) :
    RS w0 (w1.setCell ⟨g, 5, none⟩ v1) g wb nw fs inp fuel ⟨ws, out ++ [x], read, steps, en⟩ A c v1 := by
  have hB : Below w0.heap.size w0 w1 := pw_below_grown h.low _ h.low.size hg fun k hk => own_base h.out k hk
  have hm := blk_grown h.m hg (own_ne h.out h.m (by decide))
  have hw := blk_grown h.words hg (own_ne h.out h.words (by decide))
  refine ⟨blk_put hm 5 _ rfl, h.fsl, h.fsr, blk_far hw (blk_ne hw hm (by decide)) _, ?_, h.gg, h.wg, below_set hB h.gg⟩
  have := own_setCell (p := ⟨g, 5, none⟩) ho (own_ne ho hm (by decide)) v1
  simpa [nums] using this
theorem RS.at5 {s : Rc} (h : RS w0 W g wb nw fs inp fuel s A c vo) (hg : W.grownBy w1 vo.ownBlock) : w1.cell? ⟨g, 5, none⟩ = some vo ∧ w1.frozen? ⟨g, 5, none⟩ = false ∧ g < w1.heap.size := by
  have hm := blk_grown h.m hg (own_ne h.out h.m (by decide))
  exact ⟨(blk_cell hm 5).trans rfl, blk_frozen hm 5, blk_lt hm⟩
end
end Go.Proofs.Ytocnkjhicbmmoaa.Q
