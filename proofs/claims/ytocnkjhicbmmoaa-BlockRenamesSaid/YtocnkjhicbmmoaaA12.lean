/- Steps of block's machine that lead somewhere. -/
import Derived.Test.YtocnkjhicbmmoaaA2
namespace Go.Proofs.Ytocnkjhicbmmoaa.Q
open Go.RowKit Go.Proofs.YtocnkjhicbmmoaaW.PrintWords Go.Proofs.YtocnkjhicbmmoaaW.PrintLast
set_option linter.unusedVariables false
set_option linter.unusedSimpArgs false

/-- So many steps lead there, and none of them was behind an end. -/
def Rch (fs : List S35) (M : Mc) (n : Nat) (M' : Mc) : Prop := mit fs n M = M' ∧ ∀ i, i < n → (mit fs i M).en = 0
section
variable {nw : Int} {fs : List S35} {M M1 M2 : Mc} {n m : Nat}
theorem Rch.refl : Rch fs M 0 M := ⟨rfl, fun i hi => by omega⟩
theorem Rch.trans (h : Rch fs M n M1) (k : Rch fs M1 m M2) : Rch fs M (n + m) M2 := by
  refine ⟨by rw [mit_add, h.1, k.1], fun i hi => ?_⟩
  by_cases hn : i < n
  · exact h.2 i hn
  · rw [show i = n + (i - n) by omega, mit_add, h.1]
    exact k.2 _ (by omega)
theorem Rch.one (he : M.en = 0) (hs : mstep fs M = some M1) : Rch fs M 1 M1 := by
  refine ⟨by rw [mit, if_pos he, hs]; rfl, fun i hi => ?_⟩
  rw [show i = 0 by omega]
  exact he
theorem Rch.good (hp : OkP nw fs) (h : Rch fs M n M1) (hM : McG nw fs M) : McG nw fs M1 := by
  rw [← h.1]
  exact (mit_ok hp n M hM).1
theorem Rch.len : ∀ (n m : Nat) (M M1 : Mc), Rch fs M n M1 → M1.en ≠ 0 ∨ m = n → n ≤ m → mlen fs m M = n ∧ mit fs m M = M1
  | 0, m, M, M1, h, he, hm => by
    have h1 : M = M1 := h.1
    subst h1
    rcases he with he | he
    · refine ⟨?_, mit_ended he m⟩
      cases m with
      | zero => rfl
      | succ m => rw [mlen, if_neg he]
    · subst he; exact ⟨rfl, rfl⟩
  | n + 1, 0, M, M1, h, he, hm => by omega
  | n + 1, m + 1, M, M1, h, he, hm => by
    have h0 : M.en = 0 := h.2 0 (by omega)
    have h1 : Rch fs ((mstep fs M).getD M) n M1 := by
      refine ⟨?_, fun i hi => ?_⟩
      · have := h.1
        rwa [mit, if_pos h0] at this
      · have := h.2 (i + 1) (by omega)
        rwa [mit, if_pos h0] at this
    obtain ⟨e1, e2⟩ := Rch.len n m _ M1 h1 (by rcases he with he | he; { exact .inl he }; { exact .inr (by omega) }) (by omega)
    rw [mlen, if_pos h0, mit, if_pos h0]
    exact ⟨by omega, e2⟩
end
/-- The machine's step at an instruction, and at a block's end. -/
theorem mstep_ins {fs : List S35} {M : Mc} {f : Fr} {st : List Fr} (hs : M.stk = f :: st) (hf : FrG fs f) (hl : f.at_ ≠ (rd_T41 f.fn.f1 f.blk).f0.length) :
    mstep fs M = mdo fs { M with stk := { f with at_ := f.at_ + 1 } :: st } { f with at_ := f.at_ + 1 } st (rd_T44 (rd_T41 f.fn.f1 f.blk).f0 f.at_) := by
  have a0 := hf.a0
  have a1 := hf.a1
  unfold mstep
  rw [hs]
  simp only
  rw [if_pos ⟨hf.b0, hf.b1⟩, if_neg hl, if_pos ⟨a0, by omega⟩]
theorem mstep_end {fs : List S35} {M : Mc} {f : Fr} {st : List Fr} (hs : M.stk = f :: st) (hf : FrG fs f) (hl : f.at_ = (rd_T41 f.fn.f1 f.blk).f0.length) :
    mstep fs M = mover M f st (rd_T41 f.fn.f1 f.blk) := by
  unfold mstep
  rw [hs]
  simp only
  rw [if_pos ⟨hf.b0, hf.b1⟩, if_pos hl]
theorem frg_blk {nw : Int} {fs : List S35} (hp : OkP nw fs) {f : Fr} (hf : FrG fs f) : ∃ i : Nat, OkF nw i f.fn ∧ i < fs.length ∧ OkB nw i f.fn.f0 f.fn.f1.length (rd_T41 f.fn.f1 f.blk) := by
  obtain ⟨i, hi⟩ := hf.fn
  have b0 := hf.b0
  have b1 := hf.b1
  have hbl : f.blk.toNat < f.fn.f1.length := by omega
  have hm : rd_T41 f.fn.f1 f.blk ∈ f.fn.f1 := by
    have : rd_T41 f.fn.f1 f.blk = f.fn.f1[f.blk.toNat] := by simp [rd_T41, List.getD_eq_getElem?_getD, List.getElem?_eq_getElem hbl]
    rw [this]; exact List.getElem_mem hbl
  exact ⟨i, hp.fn _ _ hi, (List.getElem?_eq_some_iff.1 hi).1, (hp.fn _ _ hi).bs _ hm⟩

end Go.Proofs.Ytocnkjhicbmmoaa.Q
