/- A run of seedcornref24.Run with a function's registers, in the midst of an instruction. -/
import Derived.Test.YtocnkjhicbmmoaaR0
namespace Go.Proofs.Ytocnkjhicbmmoaa.Q
open Go.RowKit Go.Proofs.YtocnkjhicbmmoaaW.PrintWords Go.Proofs.YtocnkjhicbmmoaaW.PrintLast
set_option linter.unusedVariables false
set_option linter.unusedSimpArgs false
def Own2 (wb r : Nat) : Nat → Prop := fun k => k = wb ∨ k = r
structure OS (w0 w W : World) (g wb r : Nat) (nw : Int) (fs : List S35) (inp : ByteArray) (fuel : Int) (s : Rc) (regs : List Int) (A : Option Addr) (c : Nat) (vo : Value) : Prop where
  rs : RS w0 W g wb nw fs inp fuel s A c vo
  rr : W.heap[r]? = some (.cells (nums .u32 regs).toArray 42 (0, 0))
  ne : r ≠ wb
  ge : w0.heap.size ≤ r
  kp : Kp (Own2 wb r) w W
section
variable {w0 w W W1 : World} {g wb r : Nat} {nw : Int} {fs : List S35} {inp : ByteArray} {fuel : Int} {s : Rc} {regs : List Int} {A : Option Addr} {c : Nat} {vo : Value}
theorem OS.start (h : RS w0 w g wb nw fs inp fuel s A c vo) (hr : w.heap[r]? = some (.cells (nums .u32 regs).toArray 42 (0, 0))) (hne : r ≠ wb) (hge : w0.heap.size ≤ r) : OS w0 w w g wb r nw fs inp fuel s regs A c vo := ⟨h, hr, hne, hge, Kp.refl _ _⟩
theorem OS.move (h : OS w0 w W g wb r nw fs inp fuel s regs A c vo) (hb : Below W.heap.size W W1) : OS w0 w W1 g wb r nw fs inp fuel s regs A c vo := ⟨h.rs.move hb, blk_below h.rr hb, h.ne, h.ge, h.kp.below hb⟩
theorem OS.alloc (h : OS w0 w W g wb r nw fs inp fuel s regs A c vo) (o : Obj) : OS w0 w (W.alloc o) g wb r nw fs inp fuel s regs A c vo := h.move (below_alloc (Below.refl _ _) o)
theorem OS.drewN (h : OS w0 w W g wb r nw fs inp fuel s regs A c vo) (n : Nat) : OS w0 w (W.drewN n) g wb r nw fs inp fuel s regs A c vo := h.move (pw_below_drewN (Below.refl _ _) n)
theorem OS.drew (h : OS w0 w W g wb r nw fs inp fuel s regs A c vo) : OS w0 w W.drew g wb r nw fs inp fuel s regs A c vo := h.move (below_drew1 (Below.refl _ _))
theorem OS.set_reg (h : OS w0 w W g wb r nw fs inp fuel s regs A c vo) (i : Nat) (x : Int) : OS w0 w (W.setCell ⟨r, i, none⟩ (.int .u32 x)) g wb r nw fs inp fuel s (regs.set i x) A c vo :=
  ⟨h.rs.set_reg h.rr h.ne h.ge _ _, blk_put h.rr i _ (nums_put _ _ _ _), h.ne, h.ge, h.kp.set h.rr (.inr (.inr (.inr rfl))) _ _⟩
theorem OS.set_word (h : OS w0 w W g wb r nw fs inp fuel s regs A c vo) (i : Nat) (x : Int) : OS w0 w (W.setCell ⟨wb, i, none⟩ (.int .u32 x)) g wb r nw fs inp fuel { s with ws := s.ws.set i x } regs A c vo :=
  ⟨h.rs.set_word _ _, blk_far h.rr h.ne _, h.ne, h.ge, h.kp.set h.rs.words (.inr (.inr (.inl rfl))) _ _⟩
theorem OS.set_end (h : OS w0 w W g wb r nw fs inp fuel s regs A c vo) (x : Int) : OS w0 w (W.setCell ⟨g, 8, none⟩ (.int .i64 x)) g wb r nw fs inp fuel { s with en := x } regs A c vo :=
  ⟨h.rs.set_end _, blk_far h.rr (blk_ne h.rr h.rs.m (by decide)) _, h.ne, h.ge, h.kp.set h.rs.m (.inr (.inl rfl)) _ _⟩
theorem OS.set_read (h : OS w0 w W g wb r nw fs inp fuel s regs A c vo) (x : Int) : OS w0 w (W.setCell ⟨g, 6, none⟩ (.int .i64 x)) g wb r nw fs inp fuel { s with read := x } regs A c vo :=
  ⟨h.rs.set_read _, blk_far h.rr (blk_ne h.rr h.rs.m (by decide)) _, h.ne, h.ge, h.kp.set h.rs.m (.inr (.inl rfl)) _ _⟩
theorem OS.reg (h : OS w0 w W g wb r nw fs inp fuel s regs A c vo) {i v : Int} (h0 : 0 ≤ i) (hv : regs[i.toNat]? = some v) : W.cell? ⟨r, i.toNat, none⟩ = some (.int .u32 v) := by
  rw [blk_cell h.rr]
  simp [nums, hv]
theorem OS.frees (h : OS w0 w W g wb r nw fs inp fuel s regs A c vo) : r < W.heap.size ∧ r ≠ g ∧ g ≠ r ∧ (∀ i, W.frozen? ⟨r, i, none⟩ = false) := ⟨blk_lt h.rr, blk_ne h.rr h.rs.m (by decide), Ne.symm (blk_ne h.rr h.rs.m (by decide)), blk_frozen h.rr⟩
end
section
variable {w0 w W w1 : World} {g wb r : Nat} {nw : Int} {fs : List S35} {inp : ByteArray} {fuel : Int} {ws out regs : List Int} {read steps en : Int} {A : Option Addr} {c : Nat} {vo v1 : Value}
theorem OS.put_out (h : OS w0 w W g wb r nw fs inp fuel ⟨ws, out, read, steps, en⟩ regs A c vo) {x : Int} (ho : w1.ownsRow w0.heap.size 5 1 v1 (out.length + 1) (nums .u8 out ++ [.int .u8 x])) (hg : W.grownBy w1 vo.ownBlock) :
    OS w0 w (w1.setCell ⟨g, 5, none⟩ v1) g wb r nw fs inp fuel ⟨ws, out ++ [x], read, steps, en⟩ regs A c v1 := by
  have hr := blk_grown h.rr hg (own_ne h.rs.out h.rr (by decide))
  have hm := blk_grown h.rs.m hg (own_ne h.rs.out h.rs.m (by decide))
  exact ⟨h.rs.put_out ho hg, blk_far hr (blk_ne hr hm (by decide)) _, h.ne, h.ge, (h.kp.grown h.rs.out hg).set hm (.inr (.inl rfl)) _ _⟩
end
end Go.Proofs.Ytocnkjhicbmmoaa.Q
