/- block.tac and seedcornref24.fits say the same of any instruction. -/
import Derived.Test.YtocnkjhicbmmoaaN4
import Derived.Test.YtocnkjhicbmmoaaA3
namespace Go.Proofs.Ytocnkjhicbmmoaa.Q
open Go.RowKit Go.Proofs.YtocnkjhicbmmoaaW.PrintWords Go.Proofs.YtocnkjhicbmmoaaW.PrintLast
set_option linter.unusedVariables false
set_option linter.unusedSimpArgs false

theorem w1 : wrap64 1 = 1 := by unfold wrap64; omega
theorem w2 : wrap64 2 = 2 := by unfold wrap64; omega
theorem rd_one (a : Int) : rd [a] 0 = a := rfl
theorem rd_two0 (a b : Int) : rd [a, b] 0 = a := rfl
theorem rd_two1 (a b : Int) : rd [a, b] 1 = b := rfl
theorem bare_1 (d a b k base size n : Int) : block_bare.f 9 1 d a b k base size n = some (1, (if 0 ≤ d then d else 0), 0, 0, 0, 0, 0, n) := by
  by_cases h : 0 ≤ d
  · simp [block_bare.f, block_Sets.f, block_bare.j0, block_Uses.f, block_Uses.j0, block_bare.l0, block_bare.j2, w1, w2, rd_one, rd_two0, rd_two1, h]
  · simp [block_bare.f, block_Sets.f, block_bare.j0, block_Uses.f, block_Uses.j0, block_bare.l0, block_bare.j2, w1, w2, rd_one, rd_two0, rd_two1, h]
theorem uses_1 (d a b k base size n : Int) : block_Uses.f 9 1 d a b k base size n = some [] := by
  simp [block_Uses.f, block_Uses.j0]
theorem bare_2 (d a b k base size n : Int) : block_bare.f 9 2 d a b k base size n = some (2, (if 0 ≤ d then d else 0), a, 0, 0, 0, 0, 0) := by
  by_cases h : 0 ≤ d
  · simp [block_bare.f, block_Sets.f, block_bare.j0, block_Uses.f, block_Uses.j0, block_bare.l0, block_bare.j2, w1, w2, rd_one, rd_two0, rd_two1, h]
  · simp [block_bare.f, block_Sets.f, block_bare.j0, block_Uses.f, block_Uses.j0, block_bare.l0, block_bare.j2, w1, w2, rd_one, rd_two0, rd_two1, h]
theorem uses_2 (d a b k base size n : Int) : block_Uses.f 9 2 d a b k base size n = some [a] := by
  simp [block_Uses.f, block_Uses.j0]
theorem bare_3 (d a b k base size n : Int) : block_bare.f 9 3 d a b k base size n = some (3, (if 0 ≤ d then d else 0), a, b, k, 0, 0, 0) := by
  by_cases h : 0 ≤ d
  · simp [block_bare.f, block_Sets.f, block_bare.j0, block_Uses.f, block_Uses.j0, block_bare.l0, block_bare.j2, w1, w2, rd_one, rd_two0, rd_two1, h]
  · simp [block_bare.f, block_Sets.f, block_bare.j0, block_Uses.f, block_Uses.j0, block_bare.l0, block_bare.j2, w1, w2, rd_one, rd_two0, rd_two1, h]
theorem uses_3 (d a b k base size n : Int) : block_Uses.f 9 3 d a b k base size n = some [a, b] := by
  simp [block_Uses.f, block_Uses.j0]
theorem bare_4 (d a b k base size n : Int) : block_bare.f 9 4 d a b k base size n = some (4, (if 0 ≤ d then d else 0), 0, 0, 0, base, 0, 0) := by
  by_cases h : 0 ≤ d
  · simp [block_bare.f, block_Sets.f, block_bare.j0, block_Uses.f, block_Uses.j0, block_bare.l0, block_bare.j2, w1, w2, rd_one, rd_two0, rd_two1, h]
  · simp [block_bare.f, block_Sets.f, block_bare.j0, block_Uses.f, block_Uses.j0, block_bare.l0, block_bare.j2, w1, w2, rd_one, rd_two0, rd_two1, h]
theorem uses_4 (d a b k base size n : Int) : block_Uses.f 9 4 d a b k base size n = some [] := by
  simp [block_Uses.f, block_Uses.j0]
theorem bare_5 (d a b k base size n : Int) : block_bare.f 9 5 d a b k base size n = some (5, 0, a, 0, 0, base, 0, 0) := by
  simp [block_bare.f, block_Sets.f, block_bare.j0, block_Uses.f, block_Uses.j0, block_bare.l0, block_bare.j2, w1, w2, rd_one, rd_two0, rd_two1]
theorem uses_5 (d a b k base size n : Int) : block_Uses.f 9 5 d a b k base size n = some [a] := by
  simp [block_Uses.f, block_Uses.j0]
theorem bare_6 (d a b k base size n : Int) : block_bare.f 9 6 d a b k base size n = some (6, (if 0 ≤ d then d else 0), a, 0, 0, base, size, 0) := by
  by_cases h : 0 ≤ d
  · simp [block_bare.f, block_Sets.f, block_bare.j0, block_Uses.f, block_Uses.j0, block_bare.l0, block_bare.j2, w1, w2, rd_one, rd_two0, rd_two1, h]
  · simp [block_bare.f, block_Sets.f, block_bare.j0, block_Uses.f, block_Uses.j0, block_bare.l0, block_bare.j2, w1, w2, rd_one, rd_two0, rd_two1, h]
theorem uses_6 (d a b k base size n : Int) : block_Uses.f 9 6 d a b k base size n = some [a] := by
  simp [block_Uses.f, block_Uses.j0]
theorem bare_7 (d a b k base size n : Int) : block_bare.f 9 7 d a b k base size n = some (7, 0, a, b, 0, base, size, 0) := by
  simp [block_bare.f, block_Sets.f, block_bare.j0, block_Uses.f, block_Uses.j0, block_bare.l0, block_bare.j2, w1, w2, rd_one, rd_two0, rd_two1]
theorem uses_7 (d a b k base size n : Int) : block_Uses.f 9 7 d a b k base size n = some [a, b] := by
  simp [block_Uses.f, block_Uses.j0]
theorem bare_8 (d a b k base size n : Int) : block_bare.f 9 8 d a b k base size n = some (8, (if 0 ≤ d then d else 0), 0, 0, 0, 0, 0, 0) := by
  by_cases h : 0 ≤ d
  · simp [block_bare.f, block_Sets.f, block_bare.j0, block_Uses.f, block_Uses.j0, block_bare.l0, block_bare.j2, w1, w2, rd_one, rd_two0, rd_two1, h]
  · simp [block_bare.f, block_Sets.f, block_bare.j0, block_Uses.f, block_Uses.j0, block_bare.l0, block_bare.j2, w1, w2, rd_one, rd_two0, rd_two1, h]
theorem uses_8 (d a b k base size n : Int) : block_Uses.f 9 8 d a b k base size n = some [] := by
  simp [block_Uses.f, block_Uses.j0]
theorem bare_9 (d a b k base size n : Int) : block_bare.f 9 9 d a b k base size n = some (9, 0, a, 0, 0, 0, 0, 0) := by
  simp [block_bare.f, block_Sets.f, block_bare.j0, block_Uses.f, block_Uses.j0, block_bare.l0, block_bare.j2, w1, w2, rd_one, rd_two0, rd_two1]
theorem uses_9 (d a b k base size n : Int) : block_Uses.f 9 9 d a b k base size n = some [a] := by
  simp [block_Uses.f, block_Uses.j0]
theorem bare_10 (d a b k base size n : Int) : block_bare.f 9 10 d a b k base size n = some (10, 0, 0, 0, 0, base, 0, 0) := by
  simp [block_bare.f, block_Sets.f, block_bare.j0, block_Uses.f, block_Uses.j0, block_bare.l0, block_bare.j2, w1, w2, rd_one, rd_two0, rd_two1]
theorem uses_10 (d a b k base size n : Int) : block_Uses.f 9 10 d a b k base size n = some [] := by
  simp [block_Uses.f, block_Uses.j0]
theorem tac_eq (nw regs fi : Int) (t : S44) : tacB nw regs fi t = fitT nw fi regs t := by
  obtain ⟨op, d, a, b, k, base, size, n⟩ := t
  unfold tacB fitT fitsB
  simp only
  by_cases e : op = 1
  · subst e
    rw [bare_1, uses_1, Bool.eq_iff_iff]
    simp [sameTac, tacL, tacR, outside, isB]
    omega
  have e1 := e
  clear e
  by_cases e : op = 2
  · subst e
    rw [bare_2, uses_2, Bool.eq_iff_iff]
    simp [sameTac, tacL, tacR, outside, isB]
    omega
  have e2 := e
  clear e
  by_cases e : op = 3
  · subst e
    rw [bare_3, uses_3, Bool.eq_iff_iff]
    simp [sameTac, tacL, tacR, outside, isB]
    omega
  have e3 := e
  clear e
  by_cases e : op = 4
  · subst e
    rw [bare_4, uses_4, Bool.eq_iff_iff]
    simp [sameTac, tacL, tacR, outside, isB]
    omega
  have e4 := e
  clear e
  by_cases e : op = 5
  · subst e
    rw [bare_5, uses_5, Bool.eq_iff_iff]
    simp [sameTac, tacL, tacR, outside, isB]
    omega
  have e5 := e
  clear e
  by_cases e : op = 6
  · subst e
    rw [bare_6, uses_6, Bool.eq_iff_iff]
    simp [sameTac, tacL, tacR, outside, isB]
    omega
  have e6 := e
  clear e
  by_cases e : op = 7
  · subst e
    rw [bare_7, uses_7, Bool.eq_iff_iff]
    simp [sameTac, tacL, tacR, outside, isB]
    omega
  have e7 := e
  clear e
  by_cases e : op = 8
  · subst e
    rw [bare_8, uses_8, Bool.eq_iff_iff]
    simp [sameTac, tacL, tacR, outside, isB]
    omega
  have e8 := e
  clear e
  by_cases e : op = 9
  · subst e
    rw [bare_9, uses_9, Bool.eq_iff_iff]
    simp [sameTac, tacL, tacR, outside, isB]
    omega
  have e9 := e
  clear e
  by_cases e : op = 10
  · subst e
    rw [bare_10, uses_10, Bool.eq_iff_iff]
    simp [sameTac, tacL, tacR, outside, isB]
    omega
  have e10 := e
  clear e
  simp only [if_neg e1, if_neg e2, if_neg e3, if_neg e4, if_neg e5, if_neg e6, if_neg e7, if_neg e8, if_neg e9, if_neg e10]
  obtain ⟨r1, r2, r3, r4, r5, r6, r7, r8, hb⟩ := bare_some op d a b k base size n
  obtain ⟨l, hu, hl⟩ := uses_some op d a b k base size n
  rw [hb, hu]
  simp [tacR, e1, e2, e3, e4, e5, e6, e7, e8, e9, e10]
theorem blk_eq (nw fi : Int) (f : S35) (b : S41) : blkB (tacB nw) fi f b = blkR nw fi f.f0 f.f1.length b := by
  unfold blkB blkR
  congr 1
  apply List.all_congr rfl
  intro t
  exact tac_eq nw f.f0 fi t
theorem right_eq (nw : Int) (fs : List S35) : rightB nw fs = rightR nw fs := by
  have h : ∀ (i : Int) (f : S35), fnB (tacB nw) i f = oneB nw i f := by
    intro i f
    unfold fnB oneB
    rw [show blkB (tacB nw) i f = blkR nw i f.f0 f.f1.length from funext fun b => blk_eq nw i f b]
  unfold rightB rightBy rightR
  simp only [h]
theorem right_of_ok {nw : Int} {fs : List S35} (hp : OkP nw fs) : rightB nw fs = true := by
  rw [right_eq]
  unfold rightR
  simp only [Bool.and_eq_true, decide_eq_true_eq, List.all_eq_true]
  refine ⟨hp.w0, hp.w1, hp.nf, fun i hi => ?_⟩
  have hil := List.mem_range.1 hi
  have hf := hp.fn i (fs.getD i z35) (by rw [List.getD_eq_getElem?_getD, List.getElem?_eq_getElem hil]; rfl)
  simp only [oneB, Bool.and_eq_true, decide_eq_true_eq, List.all_eq_true, blkR]
  exact ⟨hf.r0, hf.r1, hf.nb, fun b hb => ⟨(hf.bs b hb).en, fun t ht => ((hf.bs b hb).ins t ht).1⟩⟩
end Go.Proofs.Ytocnkjhicbmmoaa.Q
