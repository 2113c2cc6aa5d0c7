/- What a run of block.Run is in the midst of it, as numbers and lists, and how it lies in memory: definitions and how they last. -/
import Derived.Test.YtocnkjhicbmmoaaQ0
import Derived.Lib.Strings
namespace Go.Proofs.Ytocnkjhicbmmoaa.Q
open Go.RowKit Go.Proofs.YtocnkjhicbmmoaaW.PrintWords Go.Proofs.YtocnkjhicbmmoaaW.PrintLast
set_option linter.unusedVariables false
set_option linter.unusedSimpArgs false

section
variable {P : Program} {ops : Array Oper} {o : Oper} {a : Act} {Q : Exit → Act → World → Prop} {K : Act → World → Prop}
/-- append of one element to a row of the call's own, as one step of a region that draws its order. -/
theorem step_append_one {W : World} (base : Nat) (hw : Region.wanted o (yielded ops a.tmps) = true) (s x : Operand) (t e : TypeId) (z : Value) (bytes : Nat)
    (ho : o.op = .call { callee := .builtin .append, args := #[s, x], argTypes := #[t, t] })
    (ht : P.underlying t = some (.slice e)) (hinfo : (P.info? e).map (fun i => (i.zero, i.size, i.bytes)) = some (some z, 1, bytes)) (hz : z.cells.size = 1) (hb0 : 0 < bytes)
    (v : Value) (n : Nat) (xs : List Value) (y : Value) (hs : a.eval s = v) (ad : Addr) (hx : a.eval x = .slice (some ad) 1 1) (hc : W.cell? ad = some y) (h1 : y.oneCell' = true)
    (HO : W.ownsRow base e 1 v n xs) (hbase : base ≤ W.heap.size) (hl : (n + 1) * bytes ≤ 140737488355328)
    (h : ∀ gb cap w1, w1.ownsRow base e 1 (.slice (some ⟨gb, 0, none⟩) (n + 1) cap) (n + 1) (xs ++ [y]) → W.grownBy w1 v.ownBlock → K (a.put o.dst (.slice (some ⟨gb, 0, none⟩) (n + 1) cap)) w1) :
    if Region.wanted o (yielded ops a.tmps) = true then Oper.wp P o a W K Q else K (a.put o.dst undef) W := by
  obtain ⟨i0, hi, hzz⟩ := Option.map_eq_some_iff.1 hinfo
  simp only [Prod.mk.injEq] at hzz
  obtain ⟨hz0, hz1, hz2⟩ := hzz
  have hlen : n + 1 ≤ 140737488355328 := Nat.le_trans (Nat.le_mul_of_pos_right _ hb0) hl
  rw [if_pos hw]
  obtain ⟨v1, w1, hr, hown, hg, _, _⟩ := run_append_own_at (P := P) W base t o.type e i0 z 1 bytes ht hi hz0 hz1 hz2 hz (by omega) v n xs HO ad 1 1 [y] rfl
    (fun j u hj => by match j, hj with | 0, hj => simp at hj; subst hj; simpa [Addr.add] using hc) (by simpa using h1) (by simp only [maxLen]; omega) hl hbase
  obtain ⟨gb, cap, rfl⟩ : ∃ gb cap, v1 = .slice (some ⟨gb, 0, none⟩) (n + 1) cap := by
    rcases hown.2 with ⟨_, h⟩ | ⟨gb, cap, _, h, _⟩
    · omega
    · exact ⟨gb, cap, h⟩
  unfold Oper.wp execOp
  simp only [ho, resolve, invoke, builtin, Sem.run_bind, Sem.run_pure, Result.andThen_ok, List.map_toArray, List.map_cons, List.map_nil, hs, hx, hr]
  exact h gb cap w1 hown hg
end

structure Fr where
  fn : S35
  regs : List Int
  blk : Int
  at_ : Int
structure Mc where
  inp : ByteArray
  ws : List Int
  out : List Int
  stk : List Fr
  en : Int

def FrOk (w0 W : World) (p r : Nat) (f : Fr) : Prop :=
  ∃ A c, W.heap[p]? = some (.cells #[.int .i64 f.fn.f0, .slice A f.fn.f1.length c, .slice (some ⟨r, 0, none⟩) f.regs.length f.regs.length, .int .i64 f.blk, .int .i64 f.at_] 72 (0, 0)) ∧
    f.fn.f1.length ≤ c ∧ Kd.C k41 w0 A f.fn.f1.length f.fn.f1 ∧ W.heap[r]? = some (.cells (nums .u32 f.regs).toArray 42 (0, 0)) ∧ w0.heap.size ≤ p ∧ w0.heap.size ≤ r

def FrsOk (w0 W : World) : List (Nat × Nat) → List Fr → Prop
  | [], [] => True
  | l :: ls, f :: fs => FrOk w0 W l.1 l.2 f ∧ FrsOk w0 W ls fs
  | _, _ => False

def ptrs (loc : List (Nat × Nat)) : List Value := loc.reverse.map fun l => .pointer (some ⟨l.1, 0, none⟩)

/-- The machine's variable stands in block g, its words in block wb, the frames in loc (the last one called first). -/
structure MS (w0 W : World) (g wb : Nat) (nw : Int) (fs : List S35) (s : Mc) (loc : List (Nat × Nat)) (A : Option Addr) (c : Nat) (vo vc : Value) : Prop where
  m : W.heap[g]? = some (.cells #[.int .i64 nw, .slice A fs.length c, .string s.inp, .slice (some ⟨wb, 0, none⟩) s.ws.length s.ws.length, vo, vc, .int .i64 s.en] 68 (0, 0))
  fsl : fs.length ≤ c
  fsr : Kd.C k35 w0 A fs.length fs
  words : W.heap[wb]? = some (.cells (nums .u32 s.ws).toArray 42 (0, 0))
  out : W.ownsRow w0.heap.size 5 1 vo s.out.length (nums .u8 s.out)
  calls : W.ownsRow w0.heap.size 70 1 vc s.stk.length (ptrs loc)
  frames : FrsOk w0 W loc s.stk
  ps : (loc.map (·.1)).Nodup
  rs : (wb :: loc.map (·.2)).Nodup
  gg : w0.heap.size ≤ g
  wg : w0.heap.size ≤ wb
  low : Below w0.heap.size w0 W

def IsM (w0 W : World) (g : Nat) (nw : Int) (fs : List S35) (s : Mc) (loc : List (Nat × Nat)) : Prop := ∃ wb A c vo vc, MS w0 W g wb nw fs s loc A c vo vc

theorem FrOk.move {w0 W W1 : World} {p r : Nat} {f : Fr} (h : FrOk w0 W p r f) (hp : W1.heap[p]? = W.heap[p]?) (hr : W1.heap[r]? = W.heap[r]?) : FrOk w0 W1 p r f := by
  obtain ⟨A, c, h1, h2, h3, h4, h5, h6⟩ := h
  exact ⟨A, c, hp.trans h1, h2, h3, hr.trans h4, h5, h6⟩
theorem FrsOk.move {w0 W W1 : World} : ∀ {loc : List (Nat × Nat)} {st : List Fr}, FrsOk w0 W loc st → (∀ l ∈ loc, W1.heap[l.1]? = W.heap[l.1]? ∧ W1.heap[l.2]? = W.heap[l.2]?) → FrsOk w0 W1 loc st
  | [], [], _, _ => trivial
  | l :: ls, f :: fs, h, hm => ⟨h.1.move (hm l (by simp)).1 (hm l (by simp)).2, FrsOk.move h.2 fun x hx => hm x (by simp [hx])⟩
  | [], _ :: _, h, _ => h.elim
  | _ :: _, [], h, _ => h.elim
theorem FrsOk.len {w0 W : World} : ∀ {loc : List (Nat × Nat)} {st : List Fr}, FrsOk w0 W loc st → loc.length = st.length
  | [], [], _ => rfl
  | l :: ls, f :: fs, h => by simp [FrsOk.len h.2]
  | [], _ :: _, h => h.elim
  | _ :: _, [], h => h.elim
/-- The types of the frames' blocks. -/
theorem FrsOk.ty {w0 W : World} : ∀ {loc : List (Nat × Nat)} {st : List Fr}, FrsOk w0 W loc st → ∀ l ∈ loc, (∃ cs, W.heap[l.1]? = some (.cells cs 72 (0, 0))) ∧ (∃ cs, W.heap[l.2]? = some (.cells cs 42 (0, 0)))
  | [], [], _ => fun l hl => by simp at hl
  | l :: ls, f :: fs, h => fun x hx => by
    rcases List.mem_cons.1 hx with rfl | hx
    · obtain ⟨A, c, h1, h2, h3, h4, h5, h6⟩ := h.1
      exact ⟨⟨_, h1⟩, ⟨_, h4⟩⟩
    · exact FrsOk.ty h.2 x hx
  | [], _ :: _, h => h.elim
  | _ :: _, [], h => h.elim

section
variable {w0 W W1 : World} {g wb : Nat} {nw : Int} {fs : List S35} {s : Mc} {loc : List (Nat × Nat)} {A : Option Addr} {c : Nat} {vo vc : Value}
/-- All that is the machine's is as it was. -/
theorem MS.move (h : MS w0 W g wb nw fs s loc A c vo vc) (hb : Below W.heap.size W W1) : MS w0 W1 g wb nw fs s loc A c vo vc :=
  ⟨blk_below h.m hb, h.fsl, h.fsr, blk_below h.words hb, pw_own_below h.out hb, pw_own_below h.calls hb,
    h.frames.move fun l hl => by
      obtain ⟨⟨_, h1⟩, ⟨_, h2⟩⟩ := h.frames.ty l hl
      exact ⟨hb.block _ (blk_lt h1), hb.block _ (blk_lt h2)⟩,
    h.ps, h.rs, h.gg, h.wg, below_step h.low hb⟩
theorem MS.alloc (h : MS w0 W g wb nw fs s loc A c vo vc) (o : Obj) : MS w0 (W.alloc o) g wb nw fs s loc A c vo vc := h.move (below_alloc (Below.refl _ _) o)
theorem MS.drewN (h : MS w0 W g wb nw fs s loc A c vo vc) (n : Nat) : MS w0 (W.drewN n) g wb nw fs s loc A c vo vc := h.move (pw_below_drewN (Below.refl _ _) n)
theorem MS.drew (h : MS w0 W g wb nw fs s loc A c vo vc) : MS w0 W.drew g wb nw fs s loc A c vo vc := h.move (below_drew1 (Below.refl _ _))
theorem MS.nel (h : MS w0 W g wb nw fs s loc A c vo vc) : ∀ l ∈ loc, l.1 ≠ g ∧ l.2 ≠ g ∧ l.1 ≠ wb ∧ l.2 ≠ wb := by
  intro l hl
  obtain ⟨⟨_, h1⟩, ⟨_, h2⟩⟩ := h.frames.ty l hl
  refine ⟨blk_ne h1 h.m (by decide), blk_ne h2 h.m (by decide), blk_ne h1 h.words (by decide), fun e => ?_⟩
  exact (List.nodup_cons.1 h.rs).1 (by rw [← e]; exact List.mem_map.2 ⟨l, hl, rfl⟩)
/-- A field of the machine's own variable is stored. -/
theorem MS.set_end (h : MS w0 W g wb nw fs s loc A c vo vc) (x : Int) : MS w0 (W.setCell ⟨g, 6, none⟩ (.int .i64 x)) g wb nw fs { s with en := x } loc A c vo vc :=
  ⟨blk_put h.m 6 _ rfl, h.fsl, h.fsr, blk_far h.words (blk_ne h.words h.m (by decide)) _, own_setCell h.out (own_ne h.out h.m (by decide)) _, own_setCell h.calls (own_ne h.calls h.m (by decide)) _,
    h.frames.move fun l hl => ⟨Below.heap_setCell _ _ _ _ (h.nel l hl).1, Below.heap_setCell _ _ _ _ (h.nel l hl).2.1⟩, h.ps, h.rs, h.gg, h.wg, below_set h.low h.gg⟩
theorem MS.set_inp (h : MS w0 W g wb nw fs s loc A c vo vc) (x : ByteArray) : MS w0 (W.setCell ⟨g, 2, none⟩ (.string x)) g wb nw fs { s with inp := x } loc A c vo vc :=
  ⟨blk_put h.m 2 _ rfl, h.fsl, h.fsr, blk_far h.words (blk_ne h.words h.m (by decide)) _, own_setCell h.out (own_ne h.out h.m (by decide)) _, own_setCell h.calls (own_ne h.calls h.m (by decide)) _,
    h.frames.move fun l hl => ⟨Below.heap_setCell _ _ _ _ (h.nel l hl).1, Below.heap_setCell _ _ _ _ (h.nel l hl).2.1⟩, h.ps, h.rs, h.gg, h.wg, below_set h.low h.gg⟩
theorem nums_put (k : IntKind) (xs : List Int) (i : Nat) (x : Int) : (nums k xs).toArray.setIfInBounds i (.int k x) = (nums k (xs.set i x)).toArray := by
  simp [nums, List.map_set]
/-- A word is stored. -/
theorem MS.set_word (h : MS w0 W g wb nw fs s loc A c vo vc) (i : Nat) (x : Int) : MS w0 (W.setCell ⟨wb, i, none⟩ (.int .u32 x)) g wb nw fs { s with ws := s.ws.set i x } loc A c vo vc :=
  ⟨by have := blk_far h.m (p := ⟨wb, i, none⟩) (blk_ne h.m h.words (by decide)) (.int .u32 x); simpa using this, h.fsl, h.fsr, blk_put h.words i _ (nums_put _ _ _ _), own_setCell h.out (own_ne h.out h.words (by decide)) _, own_setCell h.calls (own_ne h.calls h.words (by decide)) _,
    h.frames.move fun l hl => ⟨Below.heap_setCell _ _ _ _ (h.nel l hl).2.2.1, Below.heap_setCell _ _ _ _ (h.nel l hl).2.2.2⟩, h.ps, h.rs, h.gg, h.wg, below_set h.low h.wg⟩
end
section
variable {w0 W W1 : World} {g wb : Nat} {nw : Int} {fs : List S35} {inp : ByteArray} {ws out : List Int} {en : Int} {f : Fr} {st : List Fr} {l : Nat × Nat} {loc : List (Nat × Nat)} {A : Option Addr} {c : Nat} {vo vc : Value}
theorem MS.tops (h : MS w0 W g wb nw fs ⟨inp, ws, out, f :: st, en⟩ (l :: loc) A c vo vc) : ∀ x ∈ loc, x.1 ≠ l.1 ∧ x.2 ≠ l.2 ∧ x.1 ≠ l.2 ∧ x.2 ≠ l.1 := by
  intro x hx
  obtain ⟨⟨_, a1⟩, ⟨_, a2⟩⟩ := h.frames.ty x (by simp [hx])
  obtain ⟨⟨_, b1⟩, ⟨_, b2⟩⟩ := h.frames.ty l (by simp)
  have hp := h.ps
  have hr := h.rs
  simp only [List.map_cons, List.nodup_cons] at hp hr
  refine ⟨fun e => hp.1 (by rw [← e]; exact List.mem_map.2 ⟨x, hx, rfl⟩), fun e => hr.2.1 (by rw [← e]; exact List.mem_map.2 ⟨x, hx, rfl⟩), blk_ne a1 b2 (by decide), blk_ne a2 b1 (by decide)⟩
theorem MS.neq (h : MS w0 W g wb nw fs ⟨inp, ws, out, f :: st, en⟩ (l :: loc) A c vo vc) : l.2 ≠ l.1 := by
  obtain ⟨⟨_, b1⟩, ⟨_, b2⟩⟩ := h.frames.ty l (by simp)
  exact blk_ne b2 b1 (by decide)
theorem MS.top (h : MS w0 W g wb nw fs ⟨inp, ws, out, f :: st, en⟩ (l :: loc) A c vo vc) : FrOk w0 W l.1 l.2 f := h.frames.1
/-- A register of the last function is stored. -/
theorem MS.set_reg (h : MS w0 W g wb nw fs ⟨inp, ws, out, f :: st, en⟩ (l :: loc) A c vo vc) (i : Nat) (x : Int) :
    MS w0 (W.setCell ⟨l.2, i, none⟩ (.int .u32 x)) g wb nw fs ⟨inp, ws, out, { f with regs := f.regs.set i x } :: st, en⟩ (l :: loc) A c vo vc := by
  obtain ⟨Af, cf, h1, h2, h3, h4, h5, h6⟩ := h.top
  have hn := h.nel l (by simp)
  refine ⟨blk_far h.m (Ne.symm hn.2.1) _, h.fsl, h.fsr, blk_far h.words (Ne.symm hn.2.2.2) _, own_setCell h.out (own_ne h.out h4 (by decide)) _, own_setCell h.calls (own_ne h.calls h4 (by decide)) _,
    ⟨⟨Af, cf, ?_, h2, h3, blk_put h4 i _ (nums_put _ _ _ _), h5, h6⟩, FrsOk.move h.frames.2 fun x hx => ?_⟩, h.ps, h.rs, h.gg, h.wg, below_set h.low h6⟩
  · have := blk_far h1 (p := ⟨l.2, i, none⟩) (blk_ne h1 h4 (by decide)) (.int .u32 x)
    simpa using this
  · have ht := h.tops x hx
    exact ⟨Below.heap_setCell _ _ _ _ ht.2.2.1, Below.heap_setCell _ _ _ _ ht.2.1⟩
theorem MS.set_blk (h : MS w0 W g wb nw fs ⟨inp, ws, out, f :: st, en⟩ (l :: loc) A c vo vc) (x : Int) :
    MS w0 (W.setCell ⟨l.1, 3, none⟩ (.int .i64 x)) g wb nw fs ⟨inp, ws, out, { f with blk := x } :: st, en⟩ (l :: loc) A c vo vc := by
  obtain ⟨Af, cf, h1, h2, h3, h4, h5, h6⟩ := h.top
  have hn := h.nel l (by simp)
  refine ⟨blk_far h.m (Ne.symm hn.1) _, h.fsl, h.fsr, blk_far h.words (Ne.symm hn.2.2.1) _, own_setCell h.out (own_ne h.out h1 (by decide)) _, own_setCell h.calls (own_ne h.calls h1 (by decide)) _,
    ⟨⟨Af, cf, blk_put h1 3 _ rfl, h2, h3, blk_far h4 (blk_ne h4 h1 (by decide)) _, h5, h6⟩, FrsOk.move h.frames.2 fun x hx => ?_⟩, h.ps, h.rs, h.gg, h.wg, below_set h.low h5⟩
  have ht := h.tops x hx
  exact ⟨Below.heap_setCell _ _ _ _ ht.1, Below.heap_setCell _ _ _ _ ht.2.2.2⟩
theorem MS.set_at (h : MS w0 W g wb nw fs ⟨inp, ws, out, f :: st, en⟩ (l :: loc) A c vo vc) (x : Int) :
    MS w0 (W.setCell ⟨l.1, 4, none⟩ (.int .i64 x)) g wb nw fs ⟨inp, ws, out, { f with at_ := x } :: st, en⟩ (l :: loc) A c vo vc := by
  obtain ⟨Af, cf, h1, h2, h3, h4, h5, h6⟩ := h.top
  have hn := h.nel l (by simp)
  refine ⟨blk_far h.m (Ne.symm hn.1) _, h.fsl, h.fsr, blk_far h.words (Ne.symm hn.2.2.1) _, own_setCell h.out (own_ne h.out h1 (by decide)) _, own_setCell h.calls (own_ne h.calls h1 (by decide)) _,
    ⟨⟨Af, cf, blk_put h1 4 _ rfl, h2, h3, blk_far h4 (blk_ne h4 h1 (by decide)) _, h5, h6⟩, FrsOk.move h.frames.2 fun x hx => ?_⟩, h.ps, h.rs, h.gg, h.wg, below_set h.low h5⟩
  have ht := h.tops x hx
  exact ⟨Below.heap_setCell _ _ _ _ ht.1, Below.heap_setCell _ _ _ _ ht.2.2.2⟩
end
section
variable {w0 W w1 : World} {g wb : Nat} {nw : Int} {fs : List S35} {inp : ByteArray} {ws out : List Int} {en : Int} {f : Fr} {st : List Fr} {loc : List (Nat × Nat)} {A : Option Addr} {c : Nat} {vo vc v1 : Value}
/-- A byte is put out: the row of bytes has grown. -/
theorem MS.put_out (h : MS w0 W g wb nw fs ⟨inp, ws, out, st, en⟩ loc A c vo vc) {x : Int} (ho : w1.ownsRow w0.heap.size 5 1 v1 (out.length + 1) (nums .u8 out ++ [.int .u8 x])) (hg : W.grownBy w1 vo.ownBlock) :
    MS w0 (w1.setCell ⟨g, 4, none⟩ v1) g wb nw fs ⟨inp, ws, out ++ [x], st, en⟩ loc A c v1 vc := by
  have hB : Below w0.heap.size w0 w1 := pw_below_grown h.low _ h.low.size hg fun k hk => own_base h.out k hk
  have hm := blk_grown h.m hg (own_ne h.out h.m (by decide))
  have hw := blk_grown h.words hg (own_ne h.out h.words (by decide))
  have hc := own_other h.calls hg (own_type_ne h.calls h.out (by decide))
  refine ⟨blk_put hm 4 _ rfl, h.fsl, h.fsr, blk_far hw (blk_ne hw hm (by decide)) _, ?_, own_setCell hc (own_ne hc hm (by decide)) _, h.frames.move fun l hl => ?_, h.ps, h.rs, h.gg, h.wg, below_set hB h.gg⟩
  · have := own_setCell (p := ⟨g, 4, none⟩) ho (own_ne ho hm (by decide)) v1
    simpa [nums] using this
  · obtain ⟨⟨_, h1⟩, ⟨_, h2⟩⟩ := h.frames.ty l hl
    have hn := h.nel l hl
    exact ⟨(Below.heap_setCell _ _ _ _ hn.1).trans (hg.block _ (blk_lt h1) (own_ne h.out h1 (by decide))), (Below.heap_setCell _ _ _ _ hn.2.1).trans (hg.block _ (blk_lt h2) (own_ne h.out h2 (by decide)))⟩
/-- A function is called: its frame stands in block p, its registers in block r. -/
theorem MS.push (h : MS w0 W g wb nw fs ⟨inp, ws, out, st, en⟩ loc A c vo vc) {p r : Nat} (hf : FrOk w0 W p r f) (hp : ∀ l ∈ loc, l.1 ≠ p ∧ l.2 ≠ r) (hr : r ≠ wb)
    (ho : w1.ownsRow w0.heap.size 70 1 v1 (st.length + 1) (ptrs loc ++ [.pointer (some ⟨p, 0, none⟩)])) (hg : W.grownBy w1 vc.ownBlock) :
    MS w0 (w1.setCell ⟨g, 5, none⟩ v1) g wb nw fs ⟨inp, ws, out, f :: st, en⟩ ((p, r) :: loc) A c vo v1 := by
  have hB : Below w0.heap.size w0 w1 := pw_below_grown h.low _ h.low.size hg fun k hk => own_base h.calls k hk
  have hm := blk_grown h.m hg (own_ne h.calls h.m (by decide))
  have hw := blk_grown h.words hg (own_ne h.calls h.words (by decide))
  have hc := own_other h.out hg (own_type_ne h.out h.calls (by decide))
  refine ⟨blk_put hm 5 _ rfl, h.fsl, h.fsr, blk_far hw (blk_ne hw hm (by decide)) _, own_setCell hc (own_ne hc hm (by decide)) _, ?_, ⟨?_, h.frames.move fun l hl => ?_⟩, ?_, ?_, h.gg, h.wg, below_set hB h.gg⟩
  · have := own_setCell (p := ⟨g, 5, none⟩) ho (own_ne ho hm (by decide)) v1
    simpa [ptrs] using this
  · obtain ⟨A', c', h1, h2, h3, h4, h5, h6⟩ := hf
    have hpg : p ≠ g := blk_ne h1 h.m (by decide)
    have hrg : r ≠ g := blk_ne h4 h.m (by decide)
    exact ⟨A', c', blk_far (blk_grown h1 hg (own_ne h.calls h1 (by decide))) hpg _, h2, h3, blk_far (blk_grown h4 hg (own_ne h.calls h4 (by decide))) hrg _, h5, h6⟩
  · obtain ⟨⟨_, h1⟩, ⟨_, h2⟩⟩ := h.frames.ty l hl
    have hn := h.nel l hl
    exact ⟨(Below.heap_setCell _ _ _ _ hn.1).trans (hg.block _ (blk_lt h1) (own_ne h.calls h1 (by decide))), (Below.heap_setCell _ _ _ _ hn.2.1).trans (hg.block _ (blk_lt h2) (own_ne h.calls h2 (by decide)))⟩
  · simp only [List.map_cons, List.nodup_cons]
    refine ⟨fun hx => ?_, h.ps⟩
    obtain ⟨l, hl, he⟩ := List.mem_map.1 hx
    exact (hp l hl).1 he
  · have h0 := List.nodup_cons.1 h.rs
    simp only [List.map_cons, List.nodup_cons, List.mem_cons]
    refine ⟨fun hx => ?_, fun hx => ?_, h0.2⟩
    · rcases hx with hx | hx
      · exact hr hx.symm
      · exact h0.1 hx
    · obtain ⟨l, hl, he⟩ := List.mem_map.1 hx
      exact (hp l hl).2 he
/-- The last function is over. -/
theorem MS.pop {l : Nat × Nat} {Av : Option Addr} {n cv : Nat} (h : MS w0 W g wb nw fs ⟨inp, ws, out, f :: st, en⟩ (l :: loc) A c vo (.slice Av n cv)) :
    MS w0 (W.setCell ⟨g, 5, none⟩ (.slice Av st.length cv)) g wb nw fs ⟨inp, ws, out, st, en⟩ loc A c vo (.slice Av st.length cv) := by
  have hlen : loc.length = st.length := h.frames.2.len
  have hn : n = st.length + 1 := by
    have h0 := h.calls.2
    rcases h0 with ⟨h1, h2⟩ | ⟨_, _, _, h1, _⟩
    · simp at h2
    · injection h1 with _ h1
  subst hn
  have ht : W.ownsRow w0.heap.size 70 1 (.slice Av st.length cv) st.length (ptrs loc) := by
    have := own_take (m := st.length) h.calls (by simp)
    have he : (ptrs (l :: loc)).take (st.length * 1) = ptrs loc := by
      simp only [ptrs, List.reverse_cons, List.map_append, Nat.mul_one]
      exact List.take_left' (by simp [hlen])
    rwa [he] at this
  have hrs : (wb :: loc.map (·.2)).Nodup := by
    have h0 := h.rs
    simp only [List.map_cons, List.nodup_cons, List.mem_cons] at h0 ⊢
    exact ⟨fun hx => h0.1 (.inr hx), h0.2.2⟩
  refine ⟨blk_put h.m 5 _ rfl, h.fsl, h.fsr, blk_far h.words (blk_ne h.words h.m (by decide)) _, own_setCell h.out (own_ne h.out h.m (by decide)) _, own_setCell ht (own_ne ht h.m (by decide)) _,
    h.frames.2.move fun x hx => ?_, (List.nodup_cons.1 (by simpa using h.ps : (l.1 :: loc.map (·.1)).Nodup)).2, hrs, h.gg, h.wg, below_set h.low h.gg⟩
  have hn := h.nel x (by simp [hx])
  exact ⟨Below.heap_setCell _ _ _ _ hn.1, Below.heap_setCell _ _ _ _ hn.2.1⟩
end
section
variable {w0 W w1 : World} {g wb : Nat} {nw : Int} {fs : List S35} {s : Mc} {loc : List (Nat × Nat)} {A : Option Addr} {c : Nat} {vo vc : Value}
theorem MS.at4 (h : MS w0 W g wb nw fs s loc A c vo vc) (hg : W.grownBy w1 vo.ownBlock) : w1.cell? ⟨g, 4, none⟩ = some vo ∧ w1.frozen? ⟨g, 4, none⟩ = false ∧ g < w1.heap.size := by
  have hm := blk_grown h.m hg (own_ne h.out h.m (by decide))
  exact ⟨(blk_cell hm 4).trans rfl, blk_frozen hm 4, blk_lt hm⟩
theorem MS.at5 (h : MS w0 W g wb nw fs s loc A c vo vc) (hg : W.grownBy w1 vc.ownBlock) : w1.cell? ⟨g, 5, none⟩ = some vc ∧ w1.frozen? ⟨g, 5, none⟩ = false ∧ g < w1.heap.size := by
  have hm := blk_grown h.m hg (own_ne h.calls h.m (by decide))
  exact ⟨(blk_cell hm 5).trans rfl, blk_frozen hm 5, blk_lt hm⟩
end
end Go.Proofs.Ytocnkjhicbmmoaa.Q
