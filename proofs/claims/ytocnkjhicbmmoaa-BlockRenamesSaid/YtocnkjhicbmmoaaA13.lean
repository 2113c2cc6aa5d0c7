/- A program whose registers have other names does the same, step by step. -/
import Derived.Test.YtocnkjhicbmmoaaA10
import Derived.Test.YtocnkjhicbmmoaaA12
namespace Go.Proofs.Ytocnkjhicbmmoaa.Q
open Go.RowKit Go.Proofs.YtocnkjhicbmmoaaW.PrintWords Go.Proofs.YtocnkjhicbmmoaaW.PrintLast
set_option linter.unusedVariables false
set_option linter.unusedSimpArgs false

def setsB (op : Int) : Bool := op == 1 || (op == 2 || (op == 3 || (op == 4 || (op == 6 || op == 8))))
def usesB (op : Int) : Bool := op == 2 || (op == 5 || (op == 6 || (op == 9 || (op == 3 || op == 7))))
def twoB (op : Int) : Bool := op == 3 || op == 7
def renT (n : Int) (t : S44) : S44 := ⟨t.f0, if setsB t.f0 = true then n - 1 - t.f1 else t.f1, if usesB t.f0 = true then n - 1 - t.f2 else t.f2, if twoB t.f0 = true then n - 1 - t.f3 else t.f3, t.f4, t.f5, t.f6, t.f7⟩
def renB (n : Int) (b : S41) : S41 := ⟨b.f0.map (renT n), b.f1, if b.f1 = 2 then n - 1 - b.f2 else b.f2, b.f3, b.f4⟩
def renF (f : S35) : S35 := ⟨f.f0, f.f1.map (renB f.f0)⟩
theorem fit_ren {nw fi n : Int} {t : S44} (h : fitT nw fi n t = true) : fitT nw fi n (renT n t) = true := by
  obtain ⟨op, d, a, b, k, base, size, m⟩ := t
  unfold fitT fitsB renT at *
  simp only at h ⊢
  by_cases e1 : op = 1
  · subst e1; simp [isB, setsB, usesB, twoB] at h ⊢; omega
  by_cases e2 : op = 2
  · subst e2; simp [isB, setsB, usesB, twoB] at h ⊢; omega
  by_cases e3 : op = 3
  · subst e3; simp [isB, setsB, usesB, twoB] at h ⊢; omega
  by_cases e4 : op = 4
  · subst e4; simp [isB, setsB, usesB, twoB] at h ⊢; omega
  by_cases e5 : op = 5
  · subst e5; simp [isB, setsB, usesB, twoB] at h ⊢; omega
  by_cases e6 : op = 6
  · subst e6; simp [isB, setsB, usesB, twoB] at h ⊢; omega
  by_cases e7 : op = 7
  · subst e7; simp [isB, setsB, usesB, twoB] at h ⊢; omega
  by_cases e8 : op = 8
  · subst e8; simp [isB, setsB, usesB, twoB] at h ⊢; omega
  by_cases e9 : op = 9
  · subst e9; simp [isB, setsB, usesB, twoB] at h ⊢; omega
  by_cases e10 : op = 10
  · subst e10; simp [isB, setsB, usesB, twoB] at h ⊢; omega
  simp [e1, e2, e3, e4, e5, e6, e7, e8, e9, e10] at h
theorem end_ren {nb n e v t el : Int} (h : endB nb n e v t el = true) : endB nb n e (if e = 2 then n - 1 - v else v) t el = true := by
  unfold endB at h ⊢
  by_cases e2 : e = 2
  · subst e2; simp [isB] at h ⊢; omega
  · rw [if_neg e2]; exact h
theorem ren_ok {nw : Int} {fs : List S35} (hp : OkP nw fs) : OkP nw (fs.map renF) := by
  refine ⟨hp.w0, hp.w1, by simpa using hp.nf, fun i f hf => ?_⟩
  rw [List.getElem?_map] at hf
  obtain ⟨g, hg, rfl⟩ := Option.map_eq_some_iff.1 hf
  have hG := hp.fn i g hg
  refine ⟨hG.r0, hG.r1, by simpa [renF] using hG.nb, fun b hb => ?_⟩
  simp only [renF, List.mem_map] at hb
  obtain ⟨b0, hb0, rfl⟩ := hb
  have hB := hG.bs b0 hb0
  refine ⟨?_, fun t ht => ?_⟩
  · simp only [renF, renB, List.length_map]
    exact end_ren hB.en
  · simp only [renB, List.mem_map] at ht
    obtain ⟨t0, ht0, rfl⟩ := ht
    exact ⟨fit_ren (hB.ins t0 ht0).1, (hB.ins t0 ht0).2⟩
theorem ren_rd41 (n : Int) (bs : List S41) (i : Int) (h0 : 0 ≤ i) (h1 : i < bs.length) : rd_T41 (bs.map (renB n)) i = renB n (rd_T41 bs i) := by
  have hl : i.toNat < bs.length := by omega
  simp [rd_T41, List.getD_eq_getElem?_getD, List.getElem?_eq_getElem hl]
theorem ren_rd35 (fs : List S35) (i : Int) (h0 : 0 ≤ i) (h1 : i < fs.length) : rd_T35 (fs.map renF) i = renF (rd_T35 fs i) := by
  have hl : i.toNat < fs.length := by omega
  simp [rd_T35, List.getD_eq_getElem?_getD, List.getElem?_eq_getElem hl]
theorem ren_rd44 (n : Int) (l : List S44) (i : Int) (h0 : 0 ≤ i) (h1 : i < l.length) : rd_T44 (l.map (renT n)) i = renT n (rd_T44 l i) := by
  have hl : i.toNat < l.length := by omega
  simp [rd_T44, List.getD_eq_getElem?_getD, List.getElem?_eq_getElem hl]
theorem ren_trel (n : Int) (t : S44) : TRel (fun i => n - 1 - i) t (renT n t) := by
  refine ⟨rfl, fun h => ?_, fun h => ?_, fun h => ?_, rfl, rfl, rfl, rfl⟩
  · simp only [renT]; rw [if_pos]; simp only [setsB, Bool.or_eq_true, beq_iff_eq]; omega
  · simp only [renT]; rw [if_pos]; simp only [usesB, Bool.or_eq_true, beq_iff_eq]; omega
  · simp only [renT]; rw [if_pos]; simp only [twoB, Bool.or_eq_true, beq_iff_eq]; omega

structure NFr (f f' : Fr) : Prop where
  fn : f'.fn = renF f.fn
  len : (f'.regs.length : Int) = f.fn.f0
  rr : RegRel f.fn.f0 (fun i => f.fn.f0 - 1 - i) f.regs f'.regs
  blk : f'.blk = f.blk
  at_ : f'.at_ = f.at_
def NSt : List Fr → List Fr → Prop
  | [], [] => True
  | f :: st, f' :: st' => NFr f f' ∧ NSt st st'
  | _, _ => False
theorem NSt.nil {st st' : List Fr} (h : NSt st st') : st = [] ↔ st' = [] := by
  cases st <;> cases st' <;> simp_all [NSt]
def NRel (M M' : Mc) : Prop := Eq4 M M' ∧ NSt M.stk M'.stk
theorem ren_new (m : Int) (h : 0 ≤ m) : RegRel m (fun i => m - 1 - i) (List.replicate m.toNat 0) (List.replicate m.toNat 0) := by
  refine ⟨by simp; omega, fun i a b => by omega, fun i a b => by simp; omega, fun i j _ _ _ _ e => by omega, fun i a b => ?_⟩
  rw [List.getElem?_replicate, List.getElem?_replicate, if_pos (by omega), if_pos (by omega)]
section
variable {nw : Int} {fs : List S35} {M M' M1 : Mc}
theorem ren_one (hp : OkP nw fs) (hM : McG nw fs M) (hM' : McG nw (fs.map renF) M') (he : M.en = 0) (h : NRel M M') (hst1 : mstep fs M = some M1) :
    ∃ M1', mstep (fs.map renF) M' = some M1' ∧ NRel M1 M1' := by
  obtain ⟨h4, hS⟩ := h
  cases hs : M.stk with
  | nil => exact absurd hs (hM.run he)
  | cons f st =>
  cases hs' : M'.stk with
  | nil => rw [hs, hs'] at hS; exact hS.elim
  | cons f' st' =>
  rw [hs, hs'] at hS
  obtain ⟨h, hst⟩ := hS
  have hf : FrG fs f := hM.fr f (by rw [hs]; simp)
  have hf' : FrG (fs.map renF) f' := hM'.fr f' (by rw [hs']; simp)
  obtain ⟨i, hF, hil, hB⟩ := frg_blk hp hf
  have r0 := hF.r0
  have b0 := hf.b0
  have b1 := hf.b1
  have a0 := hf.a0
  have a1 := hf.a1
  have hb : rd_T41 f'.fn.f1 f'.blk = renB f.fn.f0 (rd_T41 f.fn.f1 f.blk) := by rw [h.fn, h.blk]; exact ren_rd41 _ _ _ b0 b1
  by_cases hl : f.at_ = (rd_T41 f.fn.f1 f.blk).f0.length
  · rw [mstep_end hs hf hl] at hst1
    have hl' : f'.at_ = (rd_T41 f'.fn.f1 f'.blk).f0.length := by rw [hb, h.at_, hl]; simp [renB]
    have hs2 := mstep_end (M := M') hs' hf' hl'
    rw [hb] at hs2
    unfold mover at hst1 hs2
    by_cases e1 : (rd_T41 f.fn.f1 f.blk).f1 = 1
    · rw [if_pos e1] at hst1
      rw [if_pos (show (renB f.fn.f0 (rd_T41 f.fn.f1 f.blk)).f1 = 1 from e1)] at hs2
      injection hst1 with hst1
      subst hst1
      exact ⟨_, hs2, ⟨h4.inp, h4.ws, h4.out, h4.en⟩, ⟨h.fn, h.len, h.rr, rfl, rfl⟩, hst⟩
    rw [if_neg e1] at hst1
    rw [if_neg (show ¬ (renB f.fn.f0 (rd_T41 f.fn.f1 f.blk)).f1 = 1 from e1)] at hs2
    by_cases e2 : (rd_T41 f.fn.f1 f.blk).f1 = 2
    · rw [if_pos e2] at hst1
      rw [if_pos (show (renB f.fn.f0 (rd_T41 f.fn.f1 f.blk)).f1 = 2 from e2)] at hs2
      obtain ⟨v, hv, rfl⟩ := Option.map_eq_some_iff.1 hst1
      have hv' : rget f'.regs (renB f.fn.f0 (rd_T41 f.fn.f1 f.blk)).f2 = some v := by
        have := h.rr.get hv
        simp only [renB]
        rw [if_pos e2]
        exact this
      rw [hv'] at hs2
      exact ⟨_, hs2, ⟨h4.inp, h4.ws, h4.out, h4.en⟩, ⟨h.fn, h.len, h.rr, rfl, rfl⟩, hst⟩
    rw [if_neg e2] at hst1
    rw [if_neg (show ¬ (renB f.fn.f0 (rd_T41 f.fn.f1 f.blk)).f1 = 2 from e2)] at hs2
    by_cases e3 : st = []
    · have e3' := hst.nil.1 e3
      rw [if_pos e3] at hst1
      rw [if_pos e3'] at hs2
      injection hst1 with hst1
      subst hst1
      exact ⟨_, hs2, ⟨h4.inp, h4.ws, h4.out, rfl⟩, trivial⟩
    · have e3' : ¬ st' = [] := fun e => e3 (hst.nil.2 e)
      rw [if_neg e3] at hst1
      rw [if_neg e3'] at hs2
      injection hst1 with hst1
      subst hst1
      exact ⟨_, hs2, ⟨h4.inp, h4.ws, h4.out, h4.en⟩, hst⟩
  · rw [mstep_ins hs hf hl] at hst1
    have hl' : f'.at_ ≠ (rd_T41 f'.fn.f1 f'.blk).f0.length := by rw [hb, h.at_]; simp only [renB, List.length_map]; exact hl
    have hs2 := mstep_ins (M := M') hs' hf' hl'
    have ht : rd_T44 (rd_T41 f'.fn.f1 f'.blk).f0 f'.at_ = renT f.fn.f0 (rd_T44 (rd_T41 f.fn.f1 f.blk).f0 f.at_) := by rw [hb, h.at_]; exact ren_rd44 _ _ _ a0 (by omega)
    rw [ht] at hs2
    have hmt : rd_T44 (rd_T41 f.fn.f1 f.blk).f0 f.at_ ∈ (rd_T41 f.fn.f1 f.blk).f0 := by
      have hal : f.at_.toNat < (rd_T41 f.fn.f1 f.blk).f0.length := by omega
      have : rd_T44 (rd_T41 f.fn.f1 f.blk).f0 f.at_ = (rd_T41 f.fn.f1 f.blk).f0[f.at_.toNat] := by simp [rd_T44, List.getD_eq_getElem?_getD, List.getElem?_eq_getElem hal]
      rw [this]; exact List.getElem_mem hal
    obtain ⟨hfit, _⟩ := hB.ins _ hmt
    generalize rd_T44 (rd_T41 f.fn.f1 f.blk).f0 f.at_ = t at hst1 hs2 hfit
    have hfr : NFr { f with at_ := f.at_ + 1 } { f' with at_ := f'.at_ + 1 } := ⟨h.fn, h.len, h.rr, h.blk, by simp only; rw [h.at_]⟩
    by_cases h10 : t.f0 = 10
    · have hbase : 0 ≤ t.f5 ∧ t.f5 < i := by
        unfold fitT fitsB at hfit
        rw [h10] at hfit
        simp only [Int.reduceEq, if_false, if_true, reduceIte, Bool.and_eq_true, isB, decide_eq_true_eq, beq_iff_eq] at hfit
        exact hfit.1
      have hbl : t.f5.toNat < fs.length := by omega
      have hg : fs[t.f5.toNat]? = some (rd_T35 fs t.f5) := by simp [rd_T35, List.getD_eq_getElem?_getD, List.getElem?_eq_getElem hbl]
      have hGF := hp.fn _ _ hg
      have g0 := hGF.r0
      have g1 := hGF.r1
      have hrd := ren_rd35 fs t.f5 hbase.1 (by omega)
      unfold mdo at hst1 hs2
      have h10' : (renT f.fn.f0 t).f0 = 10 := h10
      have h5' : (renT f.fn.f0 t).f5 = t.f5 := rfl
      rw [h10] at hst1
      rw [h10', h5'] at hs2
      simp only [Int.reduceEq, if_false, if_true, reduceIte] at hst1 hs2
      rw [if_pos ⟨hbase.1, by omega, g0, by omega⟩] at hst1
      rw [hrd, if_pos ⟨hbase.1, by rw [List.length_map]; omega, by simp only [renF]; omega, by simp only [renF]; omega⟩] at hs2
      injection hst1 with hst1
      subst hst1
      exact ⟨_, hs2, ⟨h4.inp, h4.ws, h4.out, h4.en⟩, ⟨rfl, by simp [renF]; omega, ren_new _ g0, rfl, rfl⟩, hfr, hst⟩
    · obtain ⟨M1', r, r', q1, q2, q3, q4, q5, q6⟩ := mdo_gen (ρ := fun i => f.fn.f0 - 1 - i) (fs' := fs.map renF) (M := { M with stk := { f with at_ := f.at_ + 1 } :: st }) (M' := { M' with stk := { f' with at_ := f'.at_ + 1 } :: st' }) (f := { f with at_ := f.at_ + 1 }) (f' := { f' with at_ := f'.at_ + 1 }) ⟨h4.inp, h4.ws, h4.out, h4.en⟩ rfl rfl h.rr (ren_trel f.fn.f0 t) h10 hst1
      rw [q1] at hs2
      refine ⟨M1', hs2, q2, ?_⟩
      rw [q3, q4]
      exact ⟨⟨h.fn, by simp only; rw [q6]; exact h.len, q5, h.blk, by simp only; rw [h.at_]⟩, hst⟩
theorem ren_steps (hp : OkP nw fs) : ∀ (m : Nat) (M M' : Mc), McG nw fs M → McG nw (fs.map renF) M' → NRel M M' → mres (fs.map renF) m M' = mres fs m M
  | 0, M, M', hM, hM', h => by
    show (if M'.en = 0 then 5 else M'.en, M'.out, 0) = (if M.en = 0 then 5 else M.en, M.out, 0)
    rw [h.1.en, h.1.out]
  | m + 1, M, M', hM, hM', h => by
    by_cases he : M.en = 0
    · have he' : M'.en = 0 := by rw [h.1.en]; exact he
      obtain ⟨M1, h1, h2, _⟩ := mstep_ok hp hM he
      obtain ⟨M1', k1, k2⟩ := ren_one hp hM hM' he h h1
      obtain ⟨Mx, x1, x2, _⟩ := mstep_ok (ren_ok hp) hM' he'
      rw [k1] at x1
      injection x1 with x1
      subst x1
      have ih := ren_steps hp m M1 M1' h2 x2 k2
      simp only [mres, mit, mlen, if_pos he, if_pos he', h1, k1, Option.getD_some] at ih ⊢
      simp only [Prod.mk.injEq] at ih ⊢
      exact ⟨ih.1, ih.2.1, by rw [ih.2.2]⟩
    · have he' : ¬ M'.en = 0 := by rw [h.1.en]; exact he
      simp only [mres, mlen, if_neg he, if_neg he']
      rw [mit_ended he, mit_ended he', h.1.en, h.1.out]
end
/-- The law: the run is the same. -/
theorem ren_law {nw : Int} {fs : List S35} (hp : OkP nw fs) (inp : ByteArray) (m : Nat) : mres (fs.map renF) m (mstart (fs.map renF) nw inp) = mres fs m (mstart fs nw inp) := by
  refine ren_steps hp m _ _ (mstart_ok hp inp) (mstart_ok (ren_ok hp) inp) ?_
  have hn := hp.nf
  have he : ((fs.length : Int) - 1).toNat = fs.length - 1 := by omega
  have hg : fs[fs.length - 1]? = some (rd_T35 fs (fs.length - 1)) := by simp [rd_T35, he, List.getD_eq_getElem?_getD, List.getElem?_eq_getElem (show fs.length - 1 < fs.length by omega)]
  have hF := hp.fn _ _ hg
  have r0 := hF.r0
  have hrd := ren_rd35 fs ((fs.length : Int) - 1) (by omega) (by omega)
  unfold mstart
  rw [List.length_map, hrd]
  exact ⟨⟨rfl, rfl, rfl, rfl⟩, ⟨rfl, by simp [renF]; omega, ren_new _ r0, rfl, rfl⟩, trivial⟩
end Go.Proofs.Ytocnkjhicbmmoaa.Q
