/- seedcornlaw24.small answers; where it says yes, the program may be, and is small. -/
import Derived.Test.YtocnkjhicbmmoaaA2
import Derived.Test.YtocnkjhicbmmoaaA4
import Derived.Test.YtocnkjhicbmmoaaQ11
namespace Go.Proofs.Ytocnkjhicbmmoaa.Q
open Go.RowKit Go.Proofs.YtocnkjhicbmmoaaW.PrintWords Go.Proofs.YtocnkjhicbmmoaaW.PrintLast
set_option linter.unusedVariables false
set_option linter.unusedSimpArgs false

theorem leO_le {α : Type} {f : Nat → Option α} (hm : ∀ k, LeO (f k) (f (k + 1))) {k k' : Nat} (h : k ≤ k') {r : α} (hr : f k = some r) : f k' = some r := by
  induction h with
  | refl => exact hr
  | step _ ih => exact hm _ r ih
theorem wrap_id {x : Int} (h0 : 0 ≤ x) (h1 : x ≤ 9223372036854775807) : wrap64 x = x := by unfold wrap64; omega
theorem reach_is : reachBytes = 140737488351232 := by decide
theorem rd35_mem {fs : List S35} {i : Int} (h0 : 0 ≤ i) (h1 : i < fs.length) : rd_T35 fs i ∈ fs := by
  have hl : i.toNat < fs.length := by omega
  have : rd_T35 fs i = fs[i.toNat] := by simp [rd_T35, List.getD_eq_getElem?_getD, List.getElem?_eq_getElem hl]
  rw [this]; exact List.getElem_mem hl
theorem rd41_mem {fs : List S41} {i : Int} (h0 : 0 ≤ i) (h1 : i < fs.length) : rd_T41 fs i ∈ fs := by
  have hl : i.toNat < fs.length := by omega
  have : rd_T41 fs i = fs[i.toNat] := by simp [rd_T41, List.getD_eq_getElem?_getD, List.getElem?_eq_getElem hl]
  rw [this]; exact List.getElem_mem hl
theorem drop41 {bs : List S41} {i : Int} (h0 : 0 ≤ i) (h1 : i < bs.length) : bs.drop i.toNat = rd_T41 bs i :: bs.drop (i + 1).toNat := by
  have hl : i.toNat < bs.length := by omega
  rw [List.drop_eq_getElem_cons hl, show (i + 1).toNat = i.toNat + 1 by omega]
  simp [rd_T41, List.getD_eq_getElem?_getD, List.getElem?_eq_getElem hl]
theorem drop44 {bs : List S44} {i : Int} (h0 : 0 ≤ i) (h1 : i < bs.length) : bs.drop i.toNat = rd_T44 bs i :: bs.drop (i + 1).toNat := by
  have hl : i.toNat < bs.length := by omega
  rw [List.drop_eq_getElem_cons hl, show (i + 1).toNat = i.toNat + 1 by omega]
  simp [rd_T44, List.getD_eq_getElem?_getD, List.getElem?_eq_getElem hl]
theorem drop35 {bs : List S35} {i : Int} (h0 : 0 ≤ i) (h1 : i < bs.length) : bs.drop i.toNat = rd_T35 bs i :: bs.drop (i + 1).toNat := by
  have hl : i.toNat < bs.length := by omega
  rw [List.drop_eq_getElem_cons hl, show (i + 1).toNat = i.toNat + 1 by omega]
  simp [rd_T35, List.getD_eq_getElem?_getD, List.getElem?_eq_getElem hl]

/-- A function that is small. -/
def FewF (f : S35) : Prop := f.f1.length < 300 ∧ ∀ b ∈ f.f1, b.f0.length < 300
section
variable {nw : Int} {fs : List S35}
theorem few_l1 (hG : ∀ f ∈ fs, G35 f) (hs : fs.length * 32 ≤ reachBytes) (i : Int) (h0 : 0 ≤ i) (h1 : i < fs.length) (Q : Prop) (cont : ∀ n : Int, 0 ≤ n → n ≤ 140737488360000 → ∃ k r, seedcornlaw24_few.l0 k n (i + 1) nw fs = some r ∧ (r = true → n < 300 ∧ Q)) :
    ∀ (e : Nat) (j n : Int), 0 ≤ j → ((rd_T35 fs i).f1.length : Int) - j = e → 0 ≤ n → n ≤ 140737488360000 →
      ∃ k r, seedcornlaw24_few.l1 k n i j nw fs = some r ∧ (r = true → n < 300 ∧ (∀ b ∈ (rd_T35 fs i).f1.drop j.toNat, b.f0.length < 300) ∧ Q)
  | 0, j, n, hj, he, hn, hn1 => by
    obtain ⟨k, r, hk, hr⟩ := cont n hn hn1
    rw [reach_is] at hs
    have hwi : wrap64 (i + 1) = i + 1 := wrap_id (by omega) (by omega)
    refine ⟨k + 1, r, ?_, fun h => ⟨(hr h).1, ?_, (hr h).2⟩⟩
    · simp only [seedcornlaw24_few.l1]
      rw [if_pos h0, if_pos h1, if_neg (by omega), hwi, hk]
    · rw [List.drop_eq_nil_of_le (by omega)]
      intro b hb; cases hb
  | e + 1, j, n, hj, he, hn, hn1 => by
    have hF := hG _ (rd35_mem h0 h1)
    have hB := hF.bs _ (rd41_mem (fs := (rd_T35 fs i).f1) hj (by omega))
    have hz := hB.sz
    have hz2 := hF.sz
    have hs' := hs
    rw [reach_is] at hs' hz hz2
    have hwi : wrap64 (i + 1) = i + 1 := wrap_id (by omega) (by omega)
    by_cases h3 : n < 300
    · have hwn : wrap64 (n + ((rd_T41 (rd_T35 fs i).f1 j).f0.length : Int)) = n + ((rd_T41 (rd_T35 fs i).f1 j).f0.length : Int) := wrap_id (by omega) (by omega)
      have hwj : wrap64 (j + 1) = j + 1 := wrap_id (by omega) (by omega)
      obtain ⟨k, r, hk, hr⟩ := few_l1 hG hs i h0 h1 Q cont e (j + 1) (n + ((rd_T41 (rd_T35 fs i).f1 j).f0.length : Int)) (by omega) (by omega) (by omega) (by omega)
      refine ⟨k + 1, r, ?_, fun h => ⟨h3, ?_, (hr h).2.2⟩⟩
      · simp only [seedcornlaw24_few.l1]
        rw [if_pos h0, if_pos h1, if_pos (by omega), if_pos h3, if_pos hj, hwn, hwj, hk]
      · rw [drop41 hj (by omega)]
        intro b hb
        have := (hr h).1
        rcases List.mem_cons.1 hb with rfl | hb
        · omega
        · exact (hr h).2.1 b hb
    · obtain ⟨k, r, hk, hr⟩ := cont n hn hn1
      refine ⟨k + 1, r, ?_, fun h => absurd (hr h).1 h3⟩
      simp only [seedcornlaw24_few.l1]
      rw [if_pos h0, if_pos h1, if_pos (by omega), if_neg h3, hwi, hk]
theorem few_l0 (hG : ∀ f ∈ fs, G35 f) (hs : fs.length * 32 ≤ reachBytes) : ∀ (d : Nat) (i n : Int), 0 ≤ i → (fs.length : Int) - i = d → 0 ≤ n → n ≤ 140737488360000 →
      ∃ k r, seedcornlaw24_few.l0 k n i nw fs = some r ∧ (r = true → n < 300 ∧ ∀ f ∈ fs.drop i.toNat, FewF f)
  | 0, i, n, hi, hd, hn, hn1 => by
    refine ⟨2, decide (n < 300), ?_, fun h => ⟨of_decide_eq_true h, ?_⟩⟩
    · simp only [seedcornlaw24_few.l0, seedcornlaw24_few.j1]
      rw [if_neg (by omega)]
      simp
    · rw [List.drop_eq_nil_of_le (by omega)]
      intro b hb; cases hb
  | d + 1, i, n, hi, hd, hn, hn1 => by
    have h1 : i < fs.length := by omega
    by_cases h3 : n < 300
    · have hF := hG _ (rd35_mem hi h1)
      have hz2 := hF.sz
      rw [reach_is] at hz2
      have hwn : wrap64 (n + ((rd_T35 fs i).f1.length : Int)) = n + ((rd_T35 fs i).f1.length : Int) := wrap_id (by omega) (by omega)
      obtain ⟨k, r, hk, hr⟩ := few_l1 hG hs i hi h1 (∀ f ∈ fs.drop (i + 1).toNat, FewF f) (fun n' a b => few_l0 hG hs d (i + 1) n' (by omega) (by omega) a b) (rd_T35 fs i).f1.length 0 (n + ((rd_T35 fs i).f1.length : Int)) (by omega) (by omega) (by omega) (by omega)
      refine ⟨k + 2, r, ?_, fun h => ⟨h3, ?_⟩⟩
      · simp only [seedcornlaw24_few.l0, seedcornlaw24_few.j1]
        rw [if_pos h1, if_pos (by simpa using h3), if_pos hi, if_pos h1, hwn, hk]
      · rw [drop35 hi h1]
        intro b hb
        obtain ⟨k1, k2, k3⟩ := hr h
        rcases List.mem_cons.1 hb with rfl | hb
        · exact ⟨by omega, by simpa using k2⟩
        · exact k3 b hb
    · refine ⟨2, false, ?_, fun h => by cases h⟩
      simp only [seedcornlaw24_few.l0, seedcornlaw24_few.j1]
      rw [if_pos h1, if_neg (by simpa using h3)]
      simpa using h3
theorem few_is (hG : ∀ f ∈ fs, G35 f) (hs : fs.length * 32 ≤ reachBytes) : ∃ k r, seedcornlaw24_few.f k nw fs = some r ∧ (r = true → fs.length < 300 ∧ ∀ f ∈ fs, FewF f) := by
  have hs' := hs
  rw [reach_is] at hs'
  obtain ⟨k, r, hk, hr⟩ := few_l0 (nw := nw) hG hs fs.length 0 fs.length (by omega) (by omega) (by omega) (by omega)
  exact ⟨k, r, hk, fun h => ⟨by have := (hr h).1; omega, by simpa using (hr h).2⟩⟩
end

theorem ends_is (l : List S44) (e v t el nb regs : Int) : seedcornref24_ends.f l e v t el nb regs = some (endB nb regs e v t el) := by
  unfold seedcornref24_ends.f endB
  simp only [within_is]
  by_cases e1 : e = 1
  · rw [if_pos e1, if_pos e1]
    simp only [Option.bind_some]
    by_cases h : isB nb t = true
    · rw [if_pos h, h]
      by_cases hv : v = 0
      · rw [if_pos hv]; simp [hv]
      · rw [if_neg hv]; simp [hv]
    · rw [if_neg h]; simp [h]
  rw [if_neg e1, if_neg e1]
  by_cases e2 : e = 2
  · rw [if_pos e2, if_pos e2]
    simp only [Option.bind_some]
    by_cases h : isB nb t = true
    · rw [if_pos h, h]
      by_cases hv : isB nb el = true
      · rw [if_pos hv, hv]; simp [isB]
      · rw [if_neg hv]; simp [hv]
    · rw [if_neg h]; simp [h]
  rw [if_neg e2, if_neg e2]
  by_cases e3 : e = 3
  · rw [if_pos e3, if_pos e3]
    by_cases hv : v = 0
    · rw [if_pos hv]
      by_cases ht : t = 0
      · rw [if_pos ht]; simp [hv, ht]
      · rw [if_neg ht]; simp [ht]
    · rw [if_neg hv]; simp [hv]
  rw [if_neg e3, if_neg e3]

/-- What seedcornref24.One answers. -/
def blkR (nw fi regs : Int) (nb : Nat) (b : S41) : Bool := endB nb regs b.f1 b.f2 b.f3 b.f4 && b.f0.all (fitT nw fi regs)
def oneB (nw fi : Int) (f : S35) : Bool := decide (0 ≤ f.f0) && (decide (f.f0 ≤ 4000) && (decide (0 < f.f1.length) && f.f1.all (blkR nw fi f.f0 f.f1.length)))
section
variable {nw fi regs : Int} {bs : List S41}
theorem one_l1 (hw : 0 ≤ nw ∧ nw ≤ 1048576) (hG : ∀ b ∈ bs, G41 b) (hs : bs.length * 56 ≤ reachBytes) (i : Int) (h0 : 0 ≤ i) (h1 : i < bs.length) (R : Bool) (cont : ∃ k, seedcornref24_One.l0 k fi nw (i + 1) regs bs = some R) :
    ∀ (e : Nat) (j : Int), 0 ≤ j → ((rd_T41 bs i).f0.length : Int) - j = e → ∃ k, seedcornref24_One.l1 k fi nw i j regs bs = some (((rd_T41 bs i).f0.drop j.toNat).all (fitT nw fi regs) && R)
  | 0, j, hj, he => by
    obtain ⟨k, hk⟩ := cont
    rw [reach_is] at hs
    have hwi : wrap64 (i + 1) = i + 1 := wrap_id (by omega) (by omega)
    refine ⟨k + 1, ?_⟩
    simp only [seedcornref24_One.l1]
    rw [if_pos h0, if_pos h1, if_neg (by omega), hwi, hk, List.drop_eq_nil_of_le (by omega)]
    rfl
  | e + 1, j, hj, he => by
    have hz := (hG _ (rd41_mem h0 h1)).sz
    rw [reach_is] at hz
    have hwj : wrap64 (j + 1) = j + 1 := wrap_id (by omega) (by omega)
    obtain ⟨k, hk⟩ := one_l1 hw hG hs i h0 h1 R cont e (j + 1) (by omega) (by omega)
    refine ⟨k + 1, ?_⟩
    simp only [seedcornref24_One.l1]
    rw [if_pos h0, if_pos h1, if_pos (by omega), if_pos hj, seedcornref24_fits.f, if_pos hw, hwj, hk, drop44 hj (by omega)]
    simp only [Option.bind_some, List.all_cons]
    show (if fitT nw fi regs (rd_T44 (rd_T41 bs i).f0 j) = true then _ else _) = _
    cases fitT nw fi regs (rd_T44 (rd_T41 bs i).f0 j) <;> simp
theorem one_l0 (hw : 0 ≤ nw ∧ nw ≤ 1048576) (hG : ∀ b ∈ bs, G41 b) (hs : bs.length * 56 ≤ reachBytes) : ∀ (d : Nat) (i : Int), 0 ≤ i → (bs.length : Int) - i = d → ∃ k, seedcornref24_One.l0 k fi nw i regs bs = some ((bs.drop i.toNat).all (blkR nw fi regs bs.length))
  | 0, i, hi, hd => ⟨1, by
    simp only [seedcornref24_One.l0]
    rw [if_neg (by omega), List.drop_eq_nil_of_le (by omega)]
    rfl⟩
  | d + 1, i, hi, hd => by
    have h1 : i < bs.length := by omega
    obtain ⟨k, hk⟩ := one_l1 hw hG hs i hi h1 _ (one_l0 hw hG hs d (i + 1) (by omega) (by omega)) (rd_T41 bs i).f0.length 0 (by omega) (by omega)
    refine ⟨k + 1, ?_⟩
    simp only [seedcornref24_One.l0]
    rw [if_pos h1, if_pos hi, ends_is, drop41 hi h1]
    simp only [Option.bind_some, List.all_cons]
    rw [hk]
    simp only [blkR, Int.toNat_zero, List.drop_zero]
    cases endB bs.length regs (rd_T41 bs i).f1 (rd_T41 bs i).f2 (rd_T41 bs i).f3 (rd_T41 bs i).f4 <;> simp
end
theorem one_is {nw fi : Int} {f : S35} (hw : 0 ≤ nw ∧ nw ≤ 1048576) (hG : G35 f) : ∃ k, seedcornref24_One.f k f.f0 f.f1 fi nw = some (oneB nw fi f) := by
  obtain ⟨k, hk⟩ := one_l0 (fi := fi) (regs := f.f0) hw hG.bs hG.sz f.f1.length 0 (by omega) (by omega)
  refine ⟨k + 1, ?_⟩
  unfold seedcornref24_One.f oneB
  simp only [seedcornref24_One.j0]
  by_cases h0 : f.f0 < 0
  · rw [if_pos h0, show decide (0 ≤ f.f0) = false from decide_eq_false (by omega)]; rfl
  rw [if_neg h0]
  by_cases h1 : f.f0 > 4000
  · rw [if_pos h1, show decide (f.f0 ≤ 4000) = false from decide_eq_false (by omega), Bool.false_and, Bool.and_false]; rfl
  rw [if_neg h1]
  by_cases h2 : f.f1.length = 0
  · simp [h2]
  · rw [if_neg (by simp; exact fun h => h2 (by simp [h])), hk]
    simp [show 0 ≤ f.f0 by omega, show f.f0 ≤ 4000 by omega, show 0 < f.f1.length by omega]
/-- What seedcornref24.Right answers. -/
def rightR (nw : Int) (fs : List S35) : Bool := decide (0 ≤ nw) && (decide (nw ≤ 1048576) && (decide (0 < fs.length) && (List.range fs.length).all fun i => oneB nw i (fs.getD i z35)))
section
variable {nw : Int} {fs : List S35}
theorem right_l0 (hw : 0 ≤ nw ∧ nw ≤ 1048576) (hG : ∀ f ∈ fs, G35 f) (hs : fs.length * 32 ≤ reachBytes) : ∀ (d i : Nat), fs.length - i = d → i ≤ fs.length → ∃ k, seedcornref24_Right.l0 k i nw fs = some ((List.range' i d).all fun i => oneB nw i (fs.getD i z35))
  | 0, i, hd, hi => ⟨1, by
    simp only [seedcornref24_Right.l0]
    rw [if_neg (by omega)]
    rfl⟩
  | d + 1, i, hd, hi => by
    have h1 : (i : Int) < fs.length := by omega
    obtain ⟨k1, hk1⟩ := one_is (fi := (i : Int)) hw (hG _ (rd35_mem (i := (i : Int)) (by omega) h1))
    obtain ⟨k2, hk2⟩ := right_l0 hw hG hs d (i + 1) (by omega) (by omega)
    have hs2 := hs
    rw [reach_is] at hs2
    have hwi : wrap64 ((i : Int) + 1) = ((i + 1 : Nat) : Int) := by rw [wrap_id (by omega) (by omega)]; omega
    have e1 := leO_le (fun k => seedcornref24_One.mono _ _ _ _ k) (Nat.le_max_left k1 k2) hk1
    have e2 := leO_le (fun k => (seedcornref24_Right.mono_l k).2 _ _ _) (Nat.le_max_right k1 k2) hk2
    refine ⟨max k1 k2 + 1, ?_⟩
    simp only [seedcornref24_Right.l0]
    rw [if_pos h1, if_pos (by omega), e1]
    simp only [Option.bind_some]
    rw [hwi, e2, List.range'_succ]
    simp only [List.all_cons]
    have hrd : rd_T35 fs i = fs.getD i z35 := by simp [rd_T35]
    rw [hrd]
    cases oneB nw i (fs.getD i z35) <;> simp
end
theorem right_is {nw : Int} {fs : List S35} (hG : ∀ f ∈ fs, G35 f) (hs : fs.length * 32 ≤ reachBytes) : ∃ k, seedcornref24_Right.f k nw fs = some (rightR nw fs) := by
  unfold seedcornref24_Right.f rightR
  by_cases h0 : nw < 0
  · refine ⟨1, ?_⟩
    rw [if_pos h0, show decide (0 ≤ nw) = false from decide_eq_false (by omega)]; rfl
  by_cases h1 : nw > 1048576
  · refine ⟨1, ?_⟩
    rw [if_neg h0, if_pos h1, show decide (nw ≤ 1048576) = false from decide_eq_false (by omega), Bool.false_and, Bool.and_false]; rfl
  by_cases h2 : fs.length = 0
  · refine ⟨1, ?_⟩
    rw [if_neg h0, if_neg h1]; simp [seedcornref24_Right.j0, h2]
  · obtain ⟨k, hk⟩ := right_l0 (nw := nw) ⟨by omega, by omega⟩ hG hs fs.length 0 (by omega) (by omega)
    refine ⟨k + 1, ?_⟩
    rw [if_neg h0, if_neg h1]
    simp only [seedcornref24_Right.j0]
    rw [if_neg (by simp; exact fun h => h2 (by simp [h]))]
    have hk' : seedcornref24_Right.l0 k 0 nw fs = some ((List.range' 0 fs.length).all fun i => oneB nw i (fs.getD i z35)) := hk
    rw [hk', List.range_eq_range']
    simp [show 0 ≤ nw by omega, show nw ≤ 1048576 by omega, show 0 < fs.length by omega]
theorem okp_of {nw : Int} {fs : List S35} (hG : ∀ f ∈ fs, G35 f) (h : rightR nw fs = true) : OkP nw fs := by
  unfold rightR at h
  simp only [Bool.and_eq_true, decide_eq_true_eq, List.all_eq_true] at h
  obtain ⟨h0, h1, h2, h3⟩ := h
  refine ⟨h0, h1, h2, fun i f hf => ?_⟩
  have hi : i < fs.length := (List.getElem?_eq_some_iff.1 hf).1
  have h4 := h3 i (List.mem_range.2 hi)
  rw [List.getD_eq_getElem?_getD, hf] at h4
  simp only [Option.getD_some, oneB, Bool.and_eq_true, decide_eq_true_eq, List.all_eq_true, blkR] at h4
  obtain ⟨k0, k1, k2, k3⟩ := h4
  have hgf := hG f (List.mem_of_getElem? hf)
  exact ⟨k0, k1, k2, fun b hb => ⟨(k3 b hb).1, fun t ht => ⟨(k3 b hb).2 t ht, u32_of ((hgf.bs b hb).ts t ht).w7⟩⟩⟩
/-- The law's guard. -/
theorem small_is {nw : Int} {fs : List S35} (s : ByteArray) (hG : ∀ f ∈ fs, G35 f) (hs : fs.length * 32 ≤ reachBytes) :
    ∃ k r, seedcornlaw24_small.f k nw fs s = some r ∧ (r = true → s.size ≤ 60 ∧ nw ≤ 2000 ∧ fs.length < 300 ∧ (∀ f ∈ fs, FewF f) ∧ OkP nw fs) := by
  obtain ⟨k1, r1, hk1, hr1⟩ := few_is (nw := nw) hG hs
  obtain ⟨k2, hk2⟩ := right_is (nw := nw) hG hs
  have e1 := leO_le (fun k => seedcornlaw24_few.mono _ _ k) (Nat.le_max_left k1 k2) hk1
  have e2 := leO_le (fun k => seedcornref24_Right.mono _ _ k) (Nat.le_max_right k1 k2) hk2
  unfold seedcornlaw24_small.f
  refine ⟨max k1 k2, ?_⟩
  by_cases h60 : (s.size : Int) ≤ 60
  · rw [if_pos h60]
    by_cases h20 : nw ≤ 2000
    · rw [if_pos h20, e1]
      simp only [Option.bind_some]
      cases r1 with
      | true =>
        rw [if_pos rfl, e2]
        exact ⟨_, rfl, fun h => ⟨by omega, h20, (hr1 rfl).1, (hr1 rfl).2, okp_of hG h⟩⟩
      | false => exact ⟨false, rfl, fun h => by cases h⟩
    · rw [if_neg h20]
      exact ⟨false, rfl, fun h => by cases h⟩
  · rw [if_neg h60]
    exact ⟨false, rfl, fun h => by cases h⟩
end Go.Proofs.Ytocnkjhicbmmoaa.Q
