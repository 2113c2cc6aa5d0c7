/- A program with an idle instruction at the beginning of each block does the same, in at most twice the steps. -/
import Derived.Test.YtocnkjhicbmmoaaA10
import Derived.Test.YtocnkjhicbmmoaaA12
namespace Go.Proofs.Ytocnkjhicbmmoaa.Q
open Go.RowKit Go.Proofs.YtocnkjhicbmmoaaW.PrintWords Go.Proofs.YtocnkjhicbmmoaaW.PrintLast
set_option linter.unusedVariables false
set_option linter.unusedSimpArgs false

def idleT (r : Int) : S44 := ⟨1, r, 0, 0, 0, 0, 0, 7⟩
def idleB (r : Int) (b : S41) : S41 := ⟨idleT r :: b.f0, b.f1, b.f2, b.f3, b.f4⟩
def idleF (f : S35) : S35 := ⟨f.f0 + 1, f.f1.map (idleB f.f0)⟩
theorem fit_more {nw fi regs : Int} {t : S44} (h : fitT nw fi regs t = true) : fitT nw fi (regs + 1) t = true := by
  unfold fitT fitsB at h ⊢
  repeat' split
  all_goals simp_all [isB]
  all_goals omega
theorem end_more {nb regs e v t el : Int} (h : endB nb regs e v t el = true) : endB nb (regs + 1) e v t el = true := by
  unfold endB at h ⊢
  repeat' split
  all_goals simp_all [isB]
  all_goals omega
theorem fit_idle {nw fi r : Int} (h : 0 ≤ r) : fitT nw fi (r + 1) (idleT r) = true := by
  show fitsB 1 r 0 0 0 0 0 7 fi (r + 1) nw = true
  simp [fitsB, isB]
  omega
theorem idle_ok {nw : Int} {fs : List S35} (hp : OkP nw fs) (h : ∀ f ∈ fs, f.f0 + 1 ≤ 4000) : OkP nw (fs.map idleF) := by
  refine ⟨hp.w0, hp.w1, by simpa using hp.nf, fun i f hf => ?_⟩
  rw [List.getElem?_map] at hf
  obtain ⟨g, hg, rfl⟩ := Option.map_eq_some_iff.1 hf
  have hG := hp.fn i g hg
  have r0 := hG.r0
  refine ⟨by simp only [idleF]; omega, h g (List.mem_of_getElem? hg), by simpa [idleF] using hG.nb, fun b hb => ?_⟩
  simp only [idleF, List.mem_map] at hb
  obtain ⟨b0, hb0, rfl⟩ := hb
  have hB := hG.bs b0 hb0
  refine ⟨?_, fun t ht => ?_⟩
  · simp only [idleF, idleB, List.length_map]
    exact end_more hB.en
  · simp only [idleB, List.mem_cons] at ht
    rcases ht with rfl | ht
    · exact ⟨fit_idle r0, by simp [idleT, U32]⟩
    · exact ⟨fit_more (hB.ins t ht).1, (hB.ins t ht).2⟩
theorem rd_map41 (r : Int) (bs : List S41) (i : Int) (h0 : 0 ≤ i) (h1 : i < bs.length) : rd_T41 (bs.map (idleB r)) i = idleB r (rd_T41 bs i) := by
  have hl : i.toNat < bs.length := by omega
  simp [rd_T41, List.getD_eq_getElem?_getD, List.getElem?_eq_getElem hl]
theorem rd_map35 (fs : List S35) (i : Int) (h0 : 0 ≤ i) (h1 : i < fs.length) : rd_T35 (fs.map idleF) i = idleF (rd_T35 fs i) := by
  have hl : i.toNat < fs.length := by omega
  simp [rd_T35, List.getD_eq_getElem?_getD, List.getElem?_eq_getElem hl]
theorem rd_cons44 (t : S44) (l : List S44) (i : Int) (h0 : 0 ≤ i) : rd_T44 (t :: l) (i + 1) = rd_T44 l i := by
  simp only [rd_T44]
  rw [show (i + 1).toNat = i.toNat + 1 by omega]
  rfl

structure IFr (p : Int) (f f' : Fr) : Prop where
  fn : f'.fn = idleF f.fn
  len : (f'.regs.length : Int) = f.fn.f0 + 1
  rr : RegRel f.fn.f0 id f.regs f'.regs
  blk : f'.blk = f.blk
  at_ : f'.at_ = f.at_ + p
def ISt : List Fr → List Fr → Prop
  | [], [] => True
  | f :: st, f' :: st' => IFr 1 f f' ∧ ISt st st'
  | _, _ => False
theorem ISt.nil {st st' : List Fr} (h : ISt st st') : st = [] ↔ st' = [] := by
  cases st <;> cases st' <;> simp_all [ISt]
def IRel (M M' : Mc) : Prop := Eq4 M M' ∧ ((M.stk = [] ∧ M'.stk = []) ∨ ∃ f st f' st' p, M.stk = f :: st ∧ M'.stk = f' :: st' ∧ (p = 1 ∨ (p = 0 ∧ f.at_ = 0)) ∧ IFr p f f' ∧ ISt st st')
theorem irel_of {M M' : Mc} {st st' : List Fr} (h : Eq4 M M') (hs : M.stk = st) (hs' : M'.stk = st') (hi : ISt st st') : IRel M M' := by
  refine ⟨h, ?_⟩
  cases st with
  | nil =>
    have := hi.nil.1 rfl
    subst this
    exact .inl ⟨hs, hs'⟩
  | cons f st =>
    cases st' with
    | nil => exact hi.elim
    | cons f' st' => exact .inr ⟨f, st, f', st', 1, hs, hs', .inl rfl, hi.1, hi.2⟩
theorem rel_new (m : Int) (h : 0 ≤ m) : RegRel m id (List.replicate m.toNat 0) (List.replicate (m + 1).toNat 0) := by
  refine ⟨by simp; omega, fun i a b => a, fun i a b => by simp; omega, fun i j _ _ _ _ e => e, fun i a b => ?_⟩
  simp only [id]
  rw [List.getElem?_replicate, List.getElem?_replicate, if_pos (by omega), if_pos (by omega)]

section
variable {nw : Int} {fs : List S35} {M M' M1 : Mc}
/-- Behind the idle instruction. -/
theorem idle_sync (hp : OkP nw fs) (hp' : OkP nw (fs.map idleF)) {f : Fr} {st : List Fr} {f' : Fr} {st' : List Fr} (hM : McG nw fs M) (hM' : McG nw (fs.map idleF) M') (he : M.en = 0) (h4 : Eq4 M M') (hs : M.stk = f :: st) (hs' : M'.stk = f' :: st') (h : IFr 0 f f') (hat : f.at_ = 0) :
    ∃ M2 f2, Rch (fs.map idleF) M' 1 M2 ∧ Eq4 M M2 ∧ M2.stk = f2 :: st' ∧ IFr 1 f f2 := by
  have hf : FrG fs f := hM.fr f (by rw [hs]; simp)
  have hf' : FrG (fs.map idleF) f' := hM'.fr f' (by rw [hs']; simp)
  obtain ⟨i, hF, hil, hB⟩ := frg_blk hp hf
  have r0 := hF.r0
  have b0 := hf.b0
  have b1 := hf.b1
  have hb : rd_T41 f'.fn.f1 f'.blk = idleB f.fn.f0 (rd_T41 f.fn.f1 f.blk) := by rw [h.fn, h.blk]; exact rd_map41 _ _ _ b0 b1
  have ha : f'.at_ = 0 := by rw [h.at_, hat]; rfl
  have hne : f'.at_ ≠ (rd_T41 f'.fn.f1 f'.blk).f0.length := by rw [hb, ha]; simp [idleB]; try omega
  have hst := mstep_ins (M := M') hs' hf' hne
  have ht : rd_T44 (rd_T41 f'.fn.f1 f'.blk).f0 f'.at_ = idleT f.fn.f0 := by rw [hb, ha]; rfl
  rw [ht] at hst
  have hl := h.len
  have hset : rset f'.regs f.fn.f0 7 = some (f'.regs.set f.fn.f0.toNat 7) := by unfold rset; rw [if_pos ⟨r0, by omega⟩]
  have hd : mdo (fs.map idleF) { M' with stk := { f' with at_ := f'.at_ + 1 } :: st' } { f' with at_ := f'.at_ + 1 } st' (idleT f.fn.f0) = some { M' with stk := { f' with at_ := f'.at_ + 1, regs := f'.regs.set f.fn.f0.toNat 7 } :: st' } := by
    unfold mdo mput
    simp only [idleT, if_true]
    rw [hset]
    rfl
  rw [hd] at hst
  refine ⟨_, _, Rch.one (by rw [h4.en]; exact he) hst, ⟨h4.inp, h4.ws, h4.out, h4.en⟩, rfl, ⟨h.fn, by simp only [List.length_set]; exact hl, ⟨h.rr.len, h.rr.lo, fun i a b => by simp only [List.length_set]; exact h.rr.hi i a b, h.rr.inj, fun i a b => ?_⟩, h.blk, by simp only; rw [ha, hat]⟩⟩
  simp only [id]
  rw [List.getElem?_set_ne (by omega)]
  exact h.rr.at_ i a b
/-- A step, where both stand at the same instruction. -/
theorem idle_one (hp : OkP nw fs) (hp' : OkP nw (fs.map idleF)) {f : Fr} {st : List Fr} {f' : Fr} {st' : List Fr} (hM : McG nw fs M) (hM' : McG nw (fs.map idleF) M') (he : M.en = 0) (h4 : Eq4 M M') (hs : M.stk = f :: st) (hs' : M'.stk = f' :: st') (h : IFr 1 f f') (hst : ISt st st') (hst1 : mstep fs M = some M1) :
    ∃ M1', Rch (fs.map idleF) M' 1 M1' ∧ IRel M1 M1' := by
  have hf : FrG fs f := hM.fr f (by rw [hs]; simp)
  have hf' : FrG (fs.map idleF) f' := hM'.fr f' (by rw [hs']; simp)
  obtain ⟨i, hF, hil, hB⟩ := frg_blk hp hf
  have r0 := hF.r0
  have b0 := hf.b0
  have b1 := hf.b1
  have a0 := hf.a0
  have a1 := hf.a1
  have hb : rd_T41 f'.fn.f1 f'.blk = idleB f.fn.f0 (rd_T41 f.fn.f1 f.blk) := by rw [h.fn, h.blk]; exact rd_map41 _ _ _ b0 b1
  have he' : M'.en = 0 := by rw [h4.en]; exact he
  by_cases hl : f.at_ = (rd_T41 f.fn.f1 f.blk).f0.length
  · rw [mstep_end hs hf hl] at hst1
    have hl' : f'.at_ = (rd_T41 f'.fn.f1 f'.blk).f0.length := by rw [hb, h.at_, hl]; simp [idleB]
    have hs2 := mstep_end (M := M') hs' hf' hl'
    rw [hb] at hs2
    unfold mover at hst1 hs2
    by_cases e1 : (rd_T41 f.fn.f1 f.blk).f1 = 1
    · rw [if_pos e1] at hst1
      rw [if_pos (show (idleB f.fn.f0 (rd_T41 f.fn.f1 f.blk)).f1 = 1 from e1)] at hs2
      injection hst1 with hst1
      subst hst1
      exact ⟨_, Rch.one he' hs2, ⟨h4.inp, h4.ws, h4.out, h4.en⟩, .inr ⟨_, _, _, _, 0, rfl, rfl, .inr ⟨rfl, rfl⟩, ⟨h.fn, h.len, h.rr, rfl, rfl⟩, hst⟩⟩
    rw [if_neg e1] at hst1
    rw [if_neg (show ¬ (idleB f.fn.f0 (rd_T41 f.fn.f1 f.blk)).f1 = 1 from e1)] at hs2
    by_cases e2 : (rd_T41 f.fn.f1 f.blk).f1 = 2
    · rw [if_pos e2] at hst1
      rw [if_pos (show (idleB f.fn.f0 (rd_T41 f.fn.f1 f.blk)).f1 = 2 from e2)] at hs2
      obtain ⟨v, hv, rfl⟩ := Option.map_eq_some_iff.1 hst1
      have hv' : rget f'.regs (idleB f.fn.f0 (rd_T41 f.fn.f1 f.blk)).f2 = some v := h.rr.get hv
      rw [hv'] at hs2
      exact ⟨_, Rch.one he' hs2, ⟨h4.inp, h4.ws, h4.out, h4.en⟩, .inr ⟨_, _, _, _, 0, rfl, rfl, .inr ⟨rfl, rfl⟩, ⟨h.fn, h.len, h.rr, rfl, rfl⟩, hst⟩⟩
    rw [if_neg e2] at hst1
    rw [if_neg (show ¬ (idleB f.fn.f0 (rd_T41 f.fn.f1 f.blk)).f1 = 2 from e2)] at hs2
    by_cases e3 : st = []
    · have e3' := hst.nil.1 e3
      rw [if_pos e3] at hst1
      rw [if_pos e3'] at hs2
      injection hst1 with hst1
      subst hst1
      exact ⟨_, Rch.one he' hs2, ⟨h4.inp, h4.ws, h4.out, rfl⟩, .inl ⟨rfl, rfl⟩⟩
    · have e3' : ¬ st' = [] := fun e => e3 (hst.nil.2 e)
      rw [if_neg e3] at hst1
      rw [if_neg e3'] at hs2
      injection hst1 with hst1
      subst hst1
      exact ⟨_, Rch.one he' hs2, irel_of ⟨h4.inp, h4.ws, h4.out, h4.en⟩ rfl rfl hst⟩
  · rw [mstep_ins hs hf hl] at hst1
    have hl' : f'.at_ ≠ (rd_T41 f'.fn.f1 f'.blk).f0.length := by rw [hb, h.at_]; simp [idleB]; omega
    have hs2 := mstep_ins (M := M') hs' hf' hl'
    have ht : rd_T44 (rd_T41 f'.fn.f1 f'.blk).f0 f'.at_ = rd_T44 (rd_T41 f.fn.f1 f.blk).f0 f.at_ := by rw [hb, h.at_]; exact rd_cons44 _ _ _ a0
    rw [ht] at hs2
    have hmt : rd_T44 (rd_T41 f.fn.f1 f.blk).f0 f.at_ ∈ (rd_T41 f.fn.f1 f.blk).f0 := by
      have hal : f.at_.toNat < (rd_T41 f.fn.f1 f.blk).f0.length := by omega
      have : rd_T44 (rd_T41 f.fn.f1 f.blk).f0 f.at_ = (rd_T41 f.fn.f1 f.blk).f0[f.at_.toNat] := by simp [rd_T44, List.getD_eq_getElem?_getD, List.getElem?_eq_getElem hal]
      rw [this]; exact List.getElem_mem hal
    obtain ⟨hfit, _⟩ := hB.ins _ hmt
    generalize rd_T44 (rd_T41 f.fn.f1 f.blk).f0 f.at_ = t at hst1 hs2 hfit
    have hfr : IFr 1 { f with at_ := f.at_ + 1 } { f' with at_ := f'.at_ + 1 } := ⟨h.fn, h.len, h.rr, h.blk, by simp only; rw [h.at_]⟩
    by_cases h10 : t.f0 = 10
    · have hbase : 0 ≤ t.f5 ∧ t.f5 < i := by
        unfold fitT fitsB at hfit
        rw [h10] at hfit
        simp only [Int.reduceEq, if_false, if_true, reduceIte, Bool.and_eq_true, isB, decide_eq_true_eq, beq_iff_eq] at hfit
        exact hfit.1
      have hbl : t.f5.toNat < fs.length := by omega
      have hg : fs[t.f5.toNat]? = some (rd_T35 fs t.f5) := by simp [rd_T35, List.getD_eq_getElem?_getD, List.getElem?_eq_getElem hbl]
      have hGF := hp.fn _ _ hg
      have g0 := hGF.r0
      have g1 := hGF.r1
      have hrd := rd_map35 fs t.f5 hbase.1 (by omega)
      unfold mdo at hst1 hs2
      rw [h10] at hst1 hs2
      simp only [Int.reduceEq, if_false, if_true, reduceIte] at hst1 hs2
      rw [if_pos ⟨hbase.1, by omega, g0, by omega⟩] at hst1
      rw [hrd, if_pos ⟨hbase.1, by rw [List.length_map]; omega, by simp only [idleF]; omega, by simp only [idleF]; omega⟩] at hs2
      injection hst1 with hst1
      subst hst1
      refine ⟨_, Rch.one he' hs2, ⟨h4.inp, h4.ws, h4.out, h4.en⟩, .inr ⟨_, _, _, _, 0, rfl, rfl, .inr ⟨rfl, rfl⟩, ⟨rfl, by simp [idleF]; omega, rel_new _ g0, rfl, rfl⟩, hfr, hst⟩⟩
    · obtain ⟨M1', r, r', q1, q2, q3, q4, q5, q6⟩ := mdo_gen (ρ := id) (fs' := fs.map idleF) (M := { M with stk := { f with at_ := f.at_ + 1 } :: st }) (M' := { M' with stk := { f' with at_ := f'.at_ + 1 } :: st' }) (f := { f with at_ := f.at_ + 1 }) (f' := { f' with at_ := f'.at_ + 1 }) ⟨h4.inp, h4.ws, h4.out, h4.en⟩ rfl rfl h.rr (t' := t) ⟨rfl, fun _ => rfl, fun _ => rfl, fun _ => rfl, rfl, rfl, rfl, rfl⟩ h10 hst1
      rw [q1] at hs2
      exact ⟨M1', Rch.one he' hs2, irel_of q2 q3 q4 ⟨⟨h.fn, by simp only; rw [q6]; exact h.len, q5, h.blk, by simp only; rw [h.at_]⟩, hst⟩⟩
theorem idle_step (hp : OkP nw fs) (hp' : OkP nw (fs.map idleF)) (hM : McG nw fs M) (hM' : McG nw (fs.map idleF) M') (he : M.en = 0) (h : IRel M M') (hst1 : mstep fs M = some M1) : ∃ n M1', (n = 1 ∨ n = 2) ∧ Rch (fs.map idleF) M' n M1' ∧ IRel M1 M1' := by
  obtain ⟨h4, h⟩ := h
  rcases h with ⟨e1, e2⟩ | ⟨f, st, f', st', p, hs, hs', hpp, hfr, hst⟩
  · exact absurd e1 (hM.run he)
  · rcases hpp with rfl | ⟨rfl, hat⟩
    · obtain ⟨M1', k1, k2⟩ := idle_one hp hp' hM hM' he h4 hs hs' hfr hst hst1
      exact ⟨1, M1', .inl rfl, k1, k2⟩
    · obtain ⟨M2, f2, k1, k2, k3, k4⟩ := idle_sync hp hp' hM hM' he h4 hs hs' hfr hat
      obtain ⟨M1', k5, k6⟩ := idle_one hp hp' hM (k1.good hp' hM') he k2 hs k3 k4 hst hst1
      exact ⟨2, M1', .inr rfl, k1.trans k5, k6⟩
/-- So many steps of the one are as many, and at most twice as many, of the other. -/
theorem idle_steps (hp : OkP nw fs) (hp' : OkP nw (fs.map idleF)) : ∀ (j : Nat) (M M' : Mc), McG nw fs M → McG nw (fs.map idleF) M' → IRel M M' → (∀ i, i < j → (mit fs i M).en = 0) →
    ∃ n M1', j ≤ n ∧ n ≤ 2 * j ∧ Rch (fs.map idleF) M' n M1' ∧ IRel (mit fs j M) M1'
  | 0, M, M', hM, hM', h, hi => ⟨0, M', by omega, by omega, Rch.refl, h⟩
  | j + 1, M, M', hM, hM', h, hi => by
    have he : M.en = 0 := hi 0 (by omega)
    obtain ⟨M1, h1, h2, _⟩ := mstep_ok hp hM he
    obtain ⟨n, M1', k1, k2, k3⟩ := idle_step hp hp' hM hM' he h h1
    obtain ⟨m, M2', p1, p2, p3, p4⟩ := idle_steps hp hp' j M1 M1' h2 (k2.good hp' hM') k3 (fun i hij => by
      have := hi (i + 1) (by omega)
      rwa [mit_one he h1] at this)
    refine ⟨n + m, M2', by omega, by omega, k2.trans p3, ?_⟩
    rw [mit_one he h1]
    exact p4
end
theorem idle_start {nw : Int} {fs : List S35} (hp : OkP nw fs) (inp : ByteArray) : IRel (mstart fs nw inp) (mstart (fs.map idleF) nw inp) := by
  have hn := hp.nf
  have he : ((fs.length : Int) - 1).toNat = fs.length - 1 := by omega
  have hg : fs[fs.length - 1]? = some (rd_T35 fs (fs.length - 1)) := by simp [rd_T35, he, List.getD_eq_getElem?_getD, List.getElem?_eq_getElem (show fs.length - 1 < fs.length by omega)]
  have hF := hp.fn _ _ hg
  have r0 := hF.r0
  have hrd := rd_map35 fs ((fs.length : Int) - 1) (by omega) (by omega)
  unfold mstart
  rw [List.length_map, hrd]
  exact ⟨⟨rfl, rfl, rfl, rfl⟩, .inr ⟨_, _, _, _, 0, rfl, rfl, .inr ⟨rfl, rfl⟩, ⟨rfl, by simp [idleF]; omega, rel_new _ r0, rfl, rfl⟩, trivial⟩⟩
/-- How long until an end. -/
theorem mlen_spec {fs : List S35} : ∀ (m : Nat) (M : Mc), (mit fs m M).en ≠ 0 → (∀ i, i < mlen fs m M → (mit fs i M).en = 0) ∧ mit fs (mlen fs m M) M = mit fs m M
  | 0, M, h => ⟨fun i hi => by simp [mlen] at hi, rfl⟩
  | m + 1, M, h => by
    by_cases he : M.en = 0
    · rw [mit, if_pos he] at h
      obtain ⟨h1, h2⟩ := mlen_spec m _ h
      rw [mlen, if_pos he]
      refine ⟨fun i hi => ?_, ?_⟩
      · cases i with
        | zero => exact he
        | succ i => rw [mit, if_pos he]; exact h1 i (by omega)
      · rw [mit, if_pos he, mit, if_pos he]
        exact h2
    · rw [mlen, if_neg he]
      exact ⟨fun i hi => by omega, (mit_ended he (m + 1)).symm⟩
/-- The law: an end is the same, in at most twice the steps. -/
theorem idle_law {nw : Int} {fs : List S35} (hp : OkP nw fs) (hp' : OkP nw (fs.map idleF)) (inp : ByteArray) (n : Nat) (h : (mres fs n (mstart fs nw inp)).1 ≠ 5) :
    (mres (fs.map idleF) (2 * n + 2) (mstart (fs.map idleF) nw inp)).1 = (mres fs n (mstart fs nw inp)).1 ∧ (mres (fs.map idleF) (2 * n + 2) (mstart (fs.map idleF) nw inp)).2.1 = (mres fs n (mstart fs nw inp)).2.1 ∧
    (mres fs n (mstart fs nw inp)).2.2 ≤ (mres (fs.map idleF) (2 * n + 2) (mstart (fs.map idleF) nw inp)).2.2 ∧ (mres (fs.map idleF) (2 * n + 2) (mstart (fs.map idleF) nw inp)).2.2 ≤ 2 * (mres fs n (mstart fs nw inp)).2.2 := by
  have hM := mstart_ok hp inp
  have hM' := mstart_ok hp' inp
  have hI := idle_start hp inp
  generalize mstart fs nw inp = M at *
  generalize mstart (fs.map idleF) nw inp = M' at *
  have he : (mit fs n M).en ≠ 0 := fun he => h (by simp [mres, he])
  obtain ⟨s1, s2⟩ := mlen_spec n M he
  have hle := mlen_le (fs := fs) n M
  obtain ⟨m, M1', q1, q2, q3, q4⟩ := idle_steps hp hp' _ M M' hM hM' hI s1
  rw [s2] at q4
  obtain ⟨l1, l2⟩ := Rch.len m (2 * n + 2) _ _ q3 (.inl (by rw [q4.1.en]; exact he)) (by omega)
  simp only [mres, l1, l2]
  rw [q4.1.en, q4.1.out]
  exact ⟨rfl, rfl, q1, q2⟩
end Go.Proofs.Ytocnkjhicbmmoaa.Q
