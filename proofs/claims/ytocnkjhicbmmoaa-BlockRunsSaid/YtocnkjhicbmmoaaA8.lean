/- One instruction of block's machine and of the document's run do the same. -/
import Derived.Test.YtocnkjhicbmmoaaA2
import Derived.Test.YtocnkjhicbmmoaaA6
import Derived.Test.YtocnkjhicbmmoaaR5
namespace Go.Proofs.Ytocnkjhicbmmoaa.Q
open Go.RowKit Go.Proofs.YtocnkjhicbmmoaaW.PrintWords Go.Proofs.YtocnkjhicbmmoaaW.PrintLast
set_option linter.unusedVariables false
set_option linter.unusedSimpArgs false

/-- The same words, bytes put out, and the same input that is left. -/
structure Mt (inp : ByteArray) (s : Rc) (M : Mc) : Prop where
  ws : M.ws = s.ws
  out : M.out = s.out
  r0 : 0 ≤ s.read
  r1 : s.read ≤ inp.size
  inp : M.inp = inp.extract s.read.toNat inp.size
theorem extract_size (s : ByteArray) (r : Nat) (h : r ≤ s.size) : (s.extract r s.size).size = s.size - r := by
  rw [ByteArray.size_extract]; omega
theorem extract_bt (s : ByteArray) (r : Nat) (h : r < s.size) : bt (s.extract r s.size) 0 = bt s r := by
  have h1 : (0 : Int).toNat < (s.extract r s.size).size := by rw [extract_size s r (by omega)]; simp; omega
  have h2 : (r : Int).toNat < s.size := by simpa using h
  unfold bt
  rw [dif_pos h1, dif_pos h2]
  simp [ByteArray.getElem_extract]
theorem extract_next (s : ByteArray) (r : Nat) (h : r < s.size) : (s.extract r s.size).extract 1 (s.extract r s.size).size = s.extract (r + 1) s.size := by
  rw [extract_size s r (by omega), ByteArray.extract_extract]
  congr 1
  omega

section
variable {nw : Int} {fs : List S35} {inp : ByteArray} {s : Rc} {M M1 : Mc} {f : Fr} {st : List Fr} {t : S44}
theorem put_sim (h : Mt inp s M) {d v : Int} (hd : mput M f st d v = some M1) : rput s f.regs d v = some (s, f.regs.set d.toNat v) ∧ Mt inp s M1 ∧ M1.stk = { f with regs := f.regs.set d.toNat v } :: st ∧ M1.en = M.en := by
  obtain ⟨hd1, rfl⟩ := mput_some hd
  refine ⟨?_, ⟨h.ws, h.out, h.r0, h.r1, h.inp⟩, rfl, rfl⟩
  unfold rput rset
  rw [if_pos hd1]
  rfl
theorem loc_sim (h : Mt inp s M) (hstk : M.stk = f :: st) (hu : ∀ x ∈ f.regs, U32 x) (he : M.en = 0) (hse : s.en = 0) {fi regs : Int} (hn0 : 0 ≤ nw) (hn : nw ≤ 1048576) (ht : fitT nw fi regs t = true) (h10 : t.f0 ≠ 10) (hi : inp.size ≤ 60) (hd : mdo fs M f st t = some M1) :
    ∃ s1 regs1, rloc refApp inp s f.regs t = some (s1, regs1) ∧ Mt inp s1 M1 ∧ M1.stk = { f with regs := regs1 } :: st ∧ M1.en = s1.en ∧ s1.steps = s.steps := by
  have keep : { f with regs := f.regs } :: st = f :: st := rfl
  obtain ⟨op, d, a, b, k, base, size, n⟩ := t
  unfold fitT fitsB at ht
  unfold mdo at hd
  unfold rloc
  simp only at ht hd h10 ⊢
  by_cases e : op = 1
  · rw [if_pos e] at hd ⊢
    obtain ⟨h1, h2, h3, h4⟩ := put_sim h hd
    exact ⟨_, _, h1, h2, h3, by rw [h4, he, hse], rfl⟩
  rw [if_neg e] at ht hd ⊢
  by_cases e : op = 2
  · rw [if_pos e] at hd ⊢
    obtain ⟨va, ha, hd⟩ := Option.bind_eq_some_iff.1 hd
    obtain ⟨h1, h2, h3, h4⟩ := put_sim h hd
    exact ⟨_, _, by rw [ha]; exact h1, h2, h3, by rw [h4, he, hse], rfl⟩
  rw [if_neg e] at ht hd ⊢
  by_cases e : op = 3
  · rw [if_pos e] at ht hd ⊢
    simp only [Bool.and_eq_true, isB, decide_eq_true_eq, beq_iff_eq] at ht
    obtain ⟨_, _, _, h4, h15, _⟩ := ht
    obtain ⟨va, ha, hd⟩ := Option.bind_eq_some_iff.1 hd
    obtain ⟨vb, hb, hd⟩ := Option.bind_eq_some_iff.1 hd
    obtain ⟨q, hq, hd⟩ := Option.bind_eq_some_iff.1 hd
    have ua : U32 va := hu _ (List.mem_of_getElem? (rget_some ha).2)
    have ub : U32 vb := hu _ (List.mem_of_getElem? (rget_some hb).2)
    have hq2 : refApp k va vb = some q := by unfold refApp; rw [apply_is h4 h15 ua ub]; exact hq
    rw [ha]
    simp only [Option.bind_some]
    rw [hb]
    simp only [Option.bind_some]
    rw [hq2]
    simp only [Option.bind_some]
    by_cases hz : q.2 = 0
    · rw [if_pos hz] at hd ⊢
      obtain ⟨h1, h2, h3, h4⟩ := put_sim h hd
      exact ⟨_, _, h1, h2, h3, by rw [h4, he, hse], rfl⟩
    · rw [if_neg hz] at hd ⊢
      injection hd with hd
      subst hd
      exact ⟨_, _, rfl, ⟨h.ws, h.out, h.r0, h.r1, h.inp⟩, hstk, rfl, rfl⟩
  rw [if_neg e] at ht hd ⊢
  by_cases e : op = 4
  · rw [if_pos e] at hd ⊢
    rw [← h.ws]
    obtain ⟨va, ha, hd⟩ := Option.bind_eq_some_iff.1 hd
    obtain ⟨h1, h2, h3, h4⟩ := put_sim h hd
    exact ⟨_, _, by rw [ha]; exact h1, h2, h3, by rw [h4, he, hse], rfl⟩
  rw [if_neg e] at ht hd ⊢
  by_cases e : op = 5
  · rw [if_pos e] at hd ⊢
    rw [← h.ws]
    obtain ⟨va, ha, hd⟩ := Option.bind_eq_some_iff.1 hd
    obtain ⟨w, hw, rfl⟩ := Option.map_eq_some_iff.1 hd
    exact ⟨{ s with ws := w }, f.regs, by rw [ha]; simp only [Option.bind_some]; rw [hw]; rfl, ⟨rfl, h.out, h.r0, h.r1, h.inp⟩, hstk, by rw [hse]; exact he, rfl⟩
  rw [if_neg e] at ht hd ⊢
  by_cases e : op = 6
  · rw [if_pos e] at ht hd ⊢
    simp only [Bool.and_eq_true, isB, decide_eq_true_eq, beq_iff_eq] at ht
    obtain ⟨_, _, z1, z2, z3, z4, _⟩ := ht
    obtain ⟨va, ha, hd⟩ := Option.bind_eq_some_iff.1 hd
    have ua : U32 va := hu _ (List.mem_of_getElem? (rget_some ha).2)
    rw [ha]
    simp only [Option.bind_some]
    have u0 := ua.1
    have u1 := ua.2
    rw [if_pos ⟨by omega, by omega, u0, by omega⟩]
    by_cases hin : va < size % 4294967296
    · rw [if_pos hin] at hd
      rw [if_pos (show va < size by omega), ← h.ws]
      have hw : wrap64 (base + wrap64 va) = wrap64 (base + va) := by unfold wrap64; omega
      rw [hw] at hd
      obtain ⟨x, hx, hd⟩ := Option.bind_eq_some_iff.1 hd
      obtain ⟨h1, h2, h3, h4⟩ := put_sim h hd
      exact ⟨_, _, by rw [hx]; exact h1, h2, h3, by rw [h4, he, hse], rfl⟩
    · rw [if_neg hin] at hd
      rw [if_neg (show ¬ va < size by omega)]
      injection hd with hd
      subst hd
      exact ⟨_, _, rfl, ⟨h.ws, h.out, h.r0, h.r1, h.inp⟩, hstk, rfl, rfl⟩
  rw [if_neg e] at ht hd ⊢
  by_cases e : op = 7
  · rw [if_pos e] at ht hd ⊢
    simp only [Bool.and_eq_true, isB, decide_eq_true_eq, beq_iff_eq] at ht
    obtain ⟨_, _, z1, z2, z3, z4, _⟩ := ht
    obtain ⟨va, ha, hd⟩ := Option.bind_eq_some_iff.1 hd
    have ua : U32 va := hu _ (List.mem_of_getElem? (rget_some ha).2)
    rw [ha]
    simp only [Option.bind_some]
    have u0 := ua.1
    have u1 := ua.2
    rw [if_pos ⟨by omega, by omega, u0, by omega⟩]
    by_cases hin : va < size % 4294967296
    · rw [if_pos hin] at hd
      rw [if_pos (show va < size by omega), ← h.ws]
      have hw : wrap64 (base + wrap64 va) = wrap64 (base + va) := by unfold wrap64; omega
      rw [hw] at hd
      obtain ⟨x, hx, hd⟩ := Option.bind_eq_some_iff.1 hd
      obtain ⟨w, hw2, rfl⟩ := Option.map_eq_some_iff.1 hd
      exact ⟨{ s with ws := w }, f.regs, by rw [hx]; simp only [Option.bind_some]; rw [hw2]; rfl, ⟨rfl, h.out, h.r0, h.r1, h.inp⟩, hstk, by rw [hse]; exact he, rfl⟩
    · rw [if_neg hin] at hd
      rw [if_neg (show ¬ va < size by omega)]
      injection hd with hd
      subst hd
      exact ⟨_, _, rfl, ⟨h.ws, h.out, h.r0, h.r1, h.inp⟩, hstk, rfl, rfl⟩
  rw [if_neg e] at ht hd ⊢
  by_cases e : op = 8
  · rw [if_pos e] at hd ⊢
    obtain ⟨r, hr⟩ := Int.eq_ofNat_of_zero_le h.r0
    have hr1 := h.r1
    have hin := h.inp
    rw [hr] at hin hr1 ⊢
    simp only [Int.toNat_natCast] at hin
    have hsz := extract_size inp r (by omega)
    rw [← hin] at hsz
    by_cases hz : M.inp.size = 0
    · rw [if_pos hz] at hd
      rw [if_pos (by omega)]
      obtain ⟨h1, h2, h3, h4⟩ := put_sim h hd
      exact ⟨_, _, h1, h2, h3, by rw [h4, he, hse], rfl⟩
    · rw [if_neg hz] at hd
      rw [if_neg (by omega), if_pos ⟨by omega, by omega⟩]
      have hbt := extract_bt inp r (by omega)
      have hnx := extract_next inp r (by omega)
      rw [← hin] at hbt hnx
      rw [hbt] at hd
      have hM : Mt inp { s with read := (r : Int) + 1 } { M with inp := M.inp.extract 1 M.inp.size } := ⟨h.ws, h.out, by simp only; omega, by simp only; omega, by simp only; rw [hnx, show ((r : Int) + 1).toNat = r + 1 by omega]⟩
      obtain ⟨h1, h2, h3, h4⟩ := put_sim hM hd
      exact ⟨_, _, h1, h2, h3, by rw [h4]; simp only; rw [he, hse], rfl⟩
  rw [if_neg e] at ht hd ⊢
  by_cases e : op = 9
  · rw [if_pos e] at hd ⊢
    rw [← h.out]
    by_cases hz : 65536 ≤ M.out.length
    · rw [if_pos hz] at hd ⊢
      injection hd with hd
      subst hd
      exact ⟨_, _, rfl, ⟨h.ws, rfl, h.r0, h.r1, h.inp⟩, hstk, rfl, rfl⟩
    · rw [if_neg hz] at hd ⊢
      obtain ⟨va, ha, rfl⟩ := Option.map_eq_some_iff.1 hd
      exact ⟨{ s with out := M.out ++ [IntKind.u8.wrap va] }, f.regs, by rw [ha]; rfl, ⟨h.ws, rfl, h.r0, h.r1, h.inp⟩, hstk, by rw [hse]; exact he, rfl⟩
  rw [if_neg e] at ht hd
  rw [if_neg h10] at hd
  cases hd
end
end Go.Proofs.Ytocnkjhicbmmoaa.Q

namespace Go.Proofs.Ytocnkjhicbmmoaa.Q
open Go.RowKit Go.Proofs.YtocnkjhicbmmoaaW.PrintWords Go.Proofs.YtocnkjhicbmmoaaW.PrintLast
set_option linter.unusedVariables false
set_option linter.unusedSimpArgs false

/-- So many steps lead there, and none of them was behind an end. -/
def Rch (fs : List S35) (M : Mc) (n : Nat) (M' : Mc) : Prop := mit fs n M = M' ∧ ∀ i, i < n → (mit fs i M).en = 0
section
variable {nw : Int} {fs : List S35} {inp : ByteArray} {M M1 M2 : Mc} {n m : Nat} {fuel s0 s1 : Int} {st : List Fr} {s' : Rc}
theorem Rch.refl : Rch fs M 0 M := ⟨rfl, fun i hi => by omega⟩
theorem Rch.trans (h : Rch fs M n M1) (k : Rch fs M1 m M2) : Rch fs M (n + m) M2 := by
  refine ⟨by rw [mit_add, h.1, k.1], fun i hi => ?_⟩
  by_cases hn : i < n
  · exact h.2 i hn
  · rw [show i = n + (i - n) by omega, mit_add, h.1]
    exact k.2 _ (by omega)
theorem Rch.one (he : M.en = 0) (hs : mstep fs M = some M1) : Rch fs M 1 M1 := by
  refine ⟨by rw [mit, if_pos he, hs]; rfl, fun i hi => ?_⟩
  rw [show i = 0 by omega]
  exact he
theorem Rch.good (hp : OkP nw fs) (h : Rch fs M n M1) (hM : McG nw fs M) : McG nw fs M1 := by
  rw [← h.1]
  exact (mit_ok hp n M hM).1
theorem Rch.len : ∀ (n m : Nat) (M M1 : Mc), Rch fs M n M1 → M1.en ≠ 0 ∨ m = n → n ≤ m → mlen fs m M = n ∧ mit fs m M = M1
  | 0, m, M, M1, h, he, hm => by
    have h1 : M = M1 := h.1
    subst h1
    rcases he with he | he
    · refine ⟨?_, mit_ended he m⟩
      cases m with
      | zero => rfl
      | succ m => rw [mlen, if_neg he]
    · subst he; exact ⟨rfl, rfl⟩
  | n + 1, 0, M, M1, h, he, hm => by omega
  | n + 1, m + 1, M, M1, h, he, hm => by
    have h0 : M.en = 0 := h.2 0 (by omega)
    have h1 : Rch fs ((mstep fs M).getD M) n M1 := by
      refine ⟨?_, fun i hi => ?_⟩
      · have := h.1
        rwa [mit, if_pos h0] at this
      · have := h.2 (i + 1) (by omega)
        rwa [mit, if_pos h0] at this
    obtain ⟨e1, e2⟩ := Rch.len n m _ M1 h1 (by rcases he with he | he; { exact .inl he }; { exact .inr (by omega) }) (by omega)
    rw [mlen, if_pos h0, mit, if_pos h0]
    exact ⟨by omega, e2⟩

/-- What the document's function leaves, done, and where the machine is then. -/
def Res (fs : List S35) (fuel : Int) (inp : ByteArray) (M : Mc) (s0 : Int) (st : List Fr) (s' : Rc) : Prop :=
  ∃ (n : Nat) (M' : Mc), Rch fs M n M' ∧ s'.steps = s0 + n ∧ s'.steps ≤ fuel ∧ M'.out = s'.out ∧
    ((s'.en = 0 ∧ Mt inp s' M' ∧ M'.stk = st ∧ M'.en = (if st = [] then 1 else 0)) ∨ (s'.en ≠ 0 ∧ s'.en ≠ 5 ∧ M'.en = s'.en) ∨ (s'.en = 5 ∧ M'.en = 0 ∧ s'.steps = fuel))
theorem Res.after (h : Rch fs M n M1) (hs : s1 = s0 + n) (r : Res fs fuel inp M1 s1 st s') : Res fs fuel inp M s0 st s' := by
  obtain ⟨m, M2, h1, h2, h3, h4, h5⟩ := r
  exact ⟨n + m, M2, h.trans h1, by omega, h3, h4, h5⟩
/-- What the instructions of a block leave. -/
def InsRes (nw : Int) (fs : List S35) (fuel : Int) (inp : ByteArray) (M : Mc) (s : Rc) (f : Fr) (st : List Fr) (q : Bool × Rc × List Int) : Prop :=
  (q.1 = true ∧ q.2.1.en ≠ 0 ∧ Res fs fuel inp M s.steps st q.2.1) ∨
  (q.1 = false ∧ ∃ (n : Nat) (M' : Mc), Rch fs M n M' ∧ q.2.1.steps = s.steps + n ∧ q.2.1.steps ≤ fuel ∧ q.2.1.en = 0 ∧ M'.en = 0 ∧ Mt inp q.2.1 M' ∧ M'.stk = { f with regs := q.2.2, at_ := ((rd_T41 f.fn.f1 f.blk).f0.length : Int) } :: st)
theorem InsRes.after {s sx : Rc} {f fx : Fr} {q : Bool × Rc × List Int} (h : Rch fs M n M1) (hs : sx.steps = s.steps + n) (hf : fx.fn = f.fn ∧ fx.blk = f.blk) (r : InsRes nw fs fuel inp M1 sx fx st q) : InsRes nw fs fuel inp M s f st q := by
  rcases r with ⟨h1, h2, h3⟩ | ⟨h1, m, M2, h2, h3, h4, h5, h6, h7, h8⟩
  · exact .inl ⟨h1, h2, h3.after h hs⟩
  · obtain ⟨fn, regs, blk, at_⟩ := f
    obtain ⟨fn', regs', blk', at_'⟩ := fx
    obtain ⟨rfl, rfl⟩ := hf
    exact .inr ⟨h1, n + m, M2, h.trans h2, by omega, h4, h5, h6, h7, h8⟩
end

/-- The machine's step at an instruction, and at a block's end. -/
theorem mstep_ins {fs : List S35} {M : Mc} {f : Fr} {st : List Fr} (hs : M.stk = f :: st) (hf : FrG fs f) (hl : f.at_ ≠ (rd_T41 f.fn.f1 f.blk).f0.length) :
    mstep fs M = mdo fs { M with stk := { f with at_ := f.at_ + 1 } :: st } { f with at_ := f.at_ + 1 } st (rd_T44 (rd_T41 f.fn.f1 f.blk).f0 f.at_) := by
  have a0 := hf.a0
  have a1 := hf.a1
  unfold mstep
  rw [hs]
  simp only
  rw [if_pos ⟨hf.b0, hf.b1⟩, if_neg hl, if_pos ⟨a0, by omega⟩]
theorem mstep_end {fs : List S35} {M : Mc} {f : Fr} {st : List Fr} (hs : M.stk = f :: st) (hf : FrG fs f) (hl : f.at_ = (rd_T41 f.fn.f1 f.blk).f0.length) :
    mstep fs M = mover M f st (rd_T41 f.fn.f1 f.blk) := by
  unfold mstep
  rw [hs]
  simp only
  rw [if_pos ⟨hf.b0, hf.b1⟩, if_pos hl]
theorem frg_blk {nw : Int} {fs : List S35} (hp : OkP nw fs) {f : Fr} (hf : FrG fs f) : ∃ i : Nat, OkF nw i f.fn ∧ i < fs.length ∧ OkB nw i f.fn.f0 f.fn.f1.length (rd_T41 f.fn.f1 f.blk) := by
  obtain ⟨i, hi⟩ := hf.fn
  have b0 := hf.b0
  have b1 := hf.b1
  have hbl : f.blk.toNat < f.fn.f1.length := by omega
  have hm : rd_T41 f.fn.f1 f.blk ∈ f.fn.f1 := by
    have : rd_T41 f.fn.f1 f.blk = f.fn.f1[f.blk.toNat] := by simp [rd_T41, List.getD_eq_getElem?_getD, List.getElem?_eq_getElem hbl]
    rw [this]; exact List.getElem_mem hbl
  exact ⟨i, hp.fn _ _ hi, (List.getElem?_eq_some_iff.1 hi).1, (hp.fn _ _ hi).bs _ hm⟩

theorem sim {nw : Int} {fs : List S35} (hp : OkP nw fs) {inp : ByteArray} (hi : inp.size ≤ 60) (fuel : Int) (r : Nat) :
    (∀ (s : Rc) (M : Mc) (f : Fr) (st : List Fr), fuel - s.steps = r → 0 ≤ s.steps → s.en = 0 → M.en = 0 → McG nw fs M → Mt inp s M → M.stk = f :: st →
      ∃ k0 q, (∀ k, k0 ≤ k → rins refApp inp fs fuel k s (rd_T41 f.fn.f1 f.blk) f.regs f.at_ = some q) ∧ InsRes nw fs fuel inp M s f st q) ∧
    (∀ (s : Rc) (M : Mc) (f : Fr) (st : List Fr), fuel - s.steps = r → 0 ≤ s.steps → s.en = 0 → M.en = 0 → McG nw fs M → Mt inp s M → M.stk = f :: st → f.at_ = 0 →
      ∃ k0 s', (∀ k, k0 ≤ k → rloop refApp inp fs fuel k s f.fn f.regs f.blk = some s') ∧ Res fs fuel inp M s.steps st s') := by
  induction r using Nat.strongRecOn with
  | ind r IH =>
  have hins : ∀ (s : Rc) (M : Mc) (f : Fr) (st : List Fr), fuel - s.steps = r → 0 ≤ s.steps → s.en = 0 → M.en = 0 → McG nw fs M → Mt inp s M → M.stk = f :: st →
      ∃ k0 q, (∀ k, k0 ≤ k → rins refApp inp fs fuel k s (rd_T41 f.fn.f1 f.blk) f.regs f.at_ = some q) ∧ InsRes nw fs fuel inp M s f st q := by
    intro s M f st hr h0 hse hMe hM hm hstk
    have hf : FrG fs f := hM.fr f (by rw [hstk]; simp)
    have a0 := hf.a0
    have a1 := hf.a1
    obtain ⟨i, hF, hil, hB⟩ := frg_blk hp hf
    by_cases hl : f.at_ = (rd_T41 f.fn.f1 f.blk).f0.length
    · refine ⟨1, (false, s, f.regs), fun k hk => ?_, .inr ⟨rfl, 0, M, Rch.refl, by simp, by simp only; omega, hse, hMe, hm, ?_⟩⟩
      · obtain ⟨k, rfl⟩ : ∃ q, k = q + 1 := ⟨k - 1, by omega⟩
        rw [rins, if_neg (by omega)]
      · rw [hstk, ← hl]
    have hj : 0 ≤ f.at_ ∧ f.at_ < (rd_T41 f.fn.f1 f.blk).f0.length := ⟨a0, by omega⟩
    by_cases hfu : fuel ≤ s.steps
    · refine ⟨1, (true, { s with en := 5 }, f.regs), fun k hk => ?_, .inl ⟨rfl, by simp, 0, M, Rch.refl, by simp, by simp only; omega, hm.out, .inr (.inr ⟨rfl, hMe, by simp only; omega⟩)⟩⟩
      obtain ⟨k, rfl⟩ : ∃ q, k = q + 1 := ⟨k - 1, by omega⟩
      rw [rins, if_pos hj, if_pos h0, if_pos hfu]
    obtain ⟨M1, hst1, hM1, _⟩ := mstep_ok hp hM hMe
    have hR1 := Rch.one hMe hst1
    rw [mstep_ins hstk hf hl] at hst1
    have hmt : rd_T44 (rd_T41 f.fn.f1 f.blk).f0 f.at_ ∈ (rd_T41 f.fn.f1 f.blk).f0 := by
      have hal : f.at_.toNat < (rd_T41 f.fn.f1 f.blk).f0.length := by omega
      have : rd_T44 (rd_T41 f.fn.f1 f.blk).f0 f.at_ = (rd_T41 f.fn.f1 f.blk).f0[f.at_.toNat] := by simp [rd_T44, List.getD_eq_getElem?_getD, List.getElem?_eq_getElem hal]
      rw [this]; exact List.getElem_mem hal
    obtain ⟨ht, hN⟩ := hB.ins _ hmt
    have unf : ∀ k, rins refApp inp fs fuel (k + 1) s (rd_T41 f.fn.f1 f.blk) f.regs f.at_ = (rone refApp inp fs fuel k { s with steps := s.steps + 1 } f.regs (rd_T44 (rd_T41 f.fn.f1 f.blk).f0 f.at_)).bind fun q => if q.1.en = 0 then rins refApp inp fs fuel k q.1 (rd_T41 f.fn.f1 f.blk) q.2 (f.at_ + 1) else some (true, q.1, q.2) := by
      intro k
      rw [rins, if_pos hj, if_pos h0, if_neg hfu]
    generalize rd_T44 (rd_T41 f.fn.f1 f.blk).f0 f.at_ = t at hst1 ht hN unf
    -- what follows when the instruction is done
    have go : ∀ (s1 : Rc) (regs1 : List Int) (n : Nat) (M2 : Mc), (∃ k0, ∀ k, k0 ≤ k → rone refApp inp fs fuel k { s with steps := s.steps + 1 } f.regs t = some (s1, regs1)) → Rch fs M n M2 → s1.steps = s.steps + n → 0 < n → s1.steps ≤ fuel → s1.en = 0 → M2.en = 0 → Mt inp s1 M2 → M2.stk = { f with regs := regs1, at_ := f.at_ + 1 } :: st →
        ∃ k0 q, (∀ k, k0 ≤ k → rins refApp inp fs fuel k s (rd_T41 f.fn.f1 f.blk) f.regs f.at_ = some q) ∧ InsRes nw fs fuel inp M s f st q := by
      intro s1 regs1 n M2 ⟨k1, hk1⟩ hR hsn hn hle hs1 hM2 hm2 hst2
      obtain ⟨k2, q, hk2, hq⟩ := (IH (fuel - s1.steps).toNat (by omega)).1 s1 M2 { f with regs := regs1, at_ := f.at_ + 1 } st (by omega) (by omega) hs1 hM2 (hR.good hp hM) hm2 hst2
      refine ⟨max k1 k2 + 1, q, fun k hk => ?_, hq.after hR hsn ⟨rfl, rfl⟩⟩
      obtain ⟨k, rfl⟩ : ∃ q, k = q + 1 := ⟨k - 1, by omega⟩
      rw [unf, hk1 k (by omega)]
      simp only [Option.bind_some]
      rw [if_pos hs1]
      exact hk2 k (by omega)
    have stop : ∀ (s1 : Rc) (regs1 : List Int), (∃ k0, ∀ k, k0 ≤ k → rone refApp inp fs fuel k { s with steps := s.steps + 1 } f.regs t = some (s1, regs1)) → s1.en ≠ 0 → Res fs fuel inp M s.steps st s1 →
        ∃ k0 q, (∀ k, k0 ≤ k → rins refApp inp fs fuel k s (rd_T41 f.fn.f1 f.blk) f.regs f.at_ = some q) ∧ InsRes nw fs fuel inp M s f st q := by
      intro s1 regs1 ⟨k1, hk1⟩ hs1 hres
      refine ⟨k1 + 1, (true, s1, regs1), fun k hk => ?_, .inl ⟨rfl, hs1, hres⟩⟩
      obtain ⟨k, rfl⟩ : ∃ q, k = q + 1 := ⟨k - 1, by omega⟩
      rw [unf, hk1 k (by omega)]
      simp only [Option.bind_some]
      rw [if_neg hs1]
    by_cases h10 : t.f0 = 10
    · -- a call
      have hbase : 0 ≤ t.f5 ∧ t.f5 < i := by
        unfold fitT fitsB at ht
        rw [h10] at ht
        simp only [Int.reduceEq, if_false, if_true, reduceIte, Bool.and_eq_true, isB, decide_eq_true_eq, beq_iff_eq] at ht
        exact ht.1
      have hbl : t.f5.toNat < fs.length := by omega
      have hg : fs[t.f5.toNat]? = some (rd_T35 fs t.f5) := by simp [rd_T35, List.getD_eq_getElem?_getD, List.getElem?_eq_getElem hbl]
      have hGF := hp.fn _ _ hg
      have g0 := hGF.r0
      have g1 := hGF.r1
      have hcond : 0 ≤ t.f5 ∧ t.f5 < fs.length ∧ 0 ≤ (rd_T35 fs t.f5).f0 ∧ (rd_T35 fs t.f5).f0 * 4 ≤ 281474976710656 := ⟨hbase.1, by omega, g0, by omega⟩
      have hM1e : M1 = { M with stk := ⟨rd_T35 fs t.f5, List.replicate (rd_T35 fs t.f5).f0.toNat 0, 0, 0⟩ :: { f with at_ := f.at_ + 1 } :: st } := by
        unfold mdo at hst1
        rw [h10] at hst1
        simp only [Int.reduceEq, if_false, if_true, reduceIte] at hst1
        rw [if_pos hcond] at hst1
        injection hst1 with hst1
        exact hst1.symm
      obtain ⟨k1, s2, hk1, hres⟩ := (IH (fuel - (s.steps + 1)).toNat (by omega)).2 { s with steps := s.steps + 1 } M1 ⟨rd_T35 fs t.f5, List.replicate (rd_T35 fs t.f5).f0.toNat 0, 0, 0⟩ ({ f with at_ := f.at_ + 1 } :: st) (by simp only; omega) (by simp only; omega) hse (by rw [hM1e]; exact hMe) hM1 (by rw [hM1e]; exact ⟨hm.ws, hm.out, hm.r0, hm.r1, hm.inp⟩) (by rw [hM1e]) rfl
      have hone : ∃ k0, ∀ k, k0 ≤ k → rone refApp inp fs fuel k { s with steps := s.steps + 1 } f.regs t = some (s2, f.regs) := by
        refine ⟨k1 + 2, fun k hk => ?_⟩
        obtain ⟨k, rfl⟩ : ∃ q, k = q + 2 := ⟨k - 2, by omega⟩
        rw [rone, if_pos h10, rfun, if_pos hcond, hk1 k (by omega)]
        rfl
      have hres' := hres.after hR1 (s0 := s.steps) (by simp)
      obtain ⟨n, M2, q1, q2, q3, q4, q5⟩ := hres
      simp only at q2
      rcases q5 with ⟨e1, e2, e3, e4⟩ | ⟨e1, e2, e3⟩ | ⟨e1, e2, e3⟩
      · rw [if_neg (by simp)] at e4
        exact go s2 f.regs (1 + n) M2 hone (hR1.trans q1) (by omega) (by omega) q3 e1 e4 e2 e3
      · exact stop s2 f.regs hone e1 (by
          obtain ⟨n', M3, p1, p2, p3, p4, p5⟩ := hres'
          refine ⟨n', M3, p1, p2, p3, p4, ?_⟩
          rcases p5 with ⟨z1, _⟩ | z | z
          · exact absurd z1 e1
          · exact .inr (.inl z)
          · exact .inr (.inr z))
      · exact stop s2 f.regs hone (by rw [e1]; decide) (by
          obtain ⟨n', M3, p1, p2, p3, p4, p5⟩ := hres'
          refine ⟨n', M3, p1, p2, p3, p4, ?_⟩
          rcases p5 with ⟨z1, _⟩ | z | z
          · rw [e1] at z1; cases z1
          · exact .inr (.inl z)
          · exact .inr (.inr z))
    · -- another instruction
      obtain ⟨s1, regs1, hr1, hm1, hst, hen, hsteps⟩ := loc_sim (s := { s with steps := s.steps + 1 }) (M := { M with stk := { f with at_ := f.at_ + 1 } :: st }) (f := { f with at_ := f.at_ + 1 }) (M1 := M1) ⟨hm.ws, hm.out, hm.r0, hm.r1, hm.inp⟩ rfl hf.u hMe hse hp.w0 hp.w1 ht h10 hi hst1
      simp only at hsteps hr1
      have hone : ∃ k0, ∀ k, k0 ≤ k → rone refApp inp fs fuel k { s with steps := s.steps + 1 } f.regs t = some (s1, regs1) := by
        refine ⟨1, fun k hk => ?_⟩
        obtain ⟨k, rfl⟩ : ∃ q, k = q + 1 := ⟨k - 1, by omega⟩
        rw [rone, if_neg h10]
        exact hr1
      by_cases hs1 : s1.en = 0
      · exact go s1 regs1 1 M1 hone hR1 (by rw [hsteps]; rfl) (by omega) (by omega) hs1 (by rw [hen]; exact hs1) hm1 hst
      · exact stop s1 regs1 hone hs1 ⟨1, M1, hR1, by rw [hsteps]; rfl, by omega, hm1.out, .inr (.inl ⟨hs1, by rw [← hen]; exact hM1.en, hen⟩)⟩
  refine ⟨hins, ?_⟩
  intro s M f st hr h0 hse hMe hM hm hstk hat
  have hf : FrG fs f := hM.fr f (by rw [hstk]; simp)
  have b0 := hf.b0
  have b1 := hf.b1
  obtain ⟨k1, q, hk1, hq⟩ := hins s M f st hr h0 hse hMe hM hm hstk
  rw [hat] at hk1
  have unf : ∀ k, k1 ≤ k → rloop refApp inp fs fuel (k + 1) s f.fn f.regs f.blk = (if q.1 = true then some q.2.1
          else if 0 ≤ q.2.1.steps then
            (if fuel ≤ q.2.1.steps then some { q.2.1 with en := 5 }
             else if (rd_T41 f.fn.f1 f.blk).f1 = 3 then some { q.2.1 with steps := q.2.1.steps + 1 }
             else if (rd_T41 f.fn.f1 f.blk).f1 = 2 then (rget q.2.2 (rd_T41 f.fn.f1 f.blk).f2).bind fun v : Int => rloop refApp inp fs fuel k { q.2.1 with steps := q.2.1.steps + 1 } f.fn q.2.2 (if v = 0 then (rd_T41 f.fn.f1 f.blk).f4 else (rd_T41 f.fn.f1 f.blk).f3)
             else rloop refApp inp fs fuel k { q.2.1 with steps := q.2.1.steps + 1 } f.fn q.2.2 (rd_T41 f.fn.f1 f.blk).f3)
          else none) := by
    intro k hk
    rw [rloop, if_pos hse, if_pos ⟨b0, b1⟩, hk1 k hk]
    rfl
  rcases hq with ⟨h1, h2, h3⟩ | ⟨h1, n, M1, h2, h3, h4, h5, h6, h7, h8⟩
  · refine ⟨k1 + 1, q.2.1, fun k hk => ?_, h3⟩
    obtain ⟨k, rfl⟩ : ∃ q, k = q + 1 := ⟨k - 1, by omega⟩
    rw [unf k (by omega), if_pos h1]
  have hM1 := h2.good hp hM
  have hqn : ¬ q.1 = true := by rw [h1]; simp
  by_cases hfu : fuel ≤ q.2.1.steps
  · refine ⟨k1 + 1, { q.2.1 with en := 5 }, fun k hk => ?_, n, M1, h2, h3, h4, h7.out, .inr (.inr ⟨rfl, h6, by simp only; omega⟩)⟩
    obtain ⟨k, rfl⟩ : ∃ q, k = q + 1 := ⟨k - 1, by omega⟩
    rw [unf k (by omega), if_neg hqn, if_pos (by omega), if_pos hfu]
  obtain ⟨M2, hst2, hM2, _⟩ := mstep_ok hp hM1 h6
  have hR2 := Rch.one h6 hst2
  have hf2 : FrG fs { f with regs := q.2.2, at_ := ((rd_T41 f.fn.f1 f.blk).f0.length : Int) } := hM1.fr _ (by rw [h8]; simp)
  rw [mstep_end h8 hf2 rfl] at hst2
  simp only at hst2
  obtain ⟨i, hF, hil, hB⟩ := frg_blk hp hf
  have hE := hB.en
  unfold endB at hE
  unfold mover at hst2
  simp only at hst2
  by_cases e1 : (rd_T41 f.fn.f1 f.blk).f1 = 1
  · rw [if_pos e1] at hst2 hE
    injection hst2 with hst2
    obtain ⟨k2, s2, hk2, hres⟩ := (IH (fuel - (q.2.1.steps + 1)).toNat (by omega)).2 { q.2.1 with steps := q.2.1.steps + 1 } M2 { f with regs := q.2.2, at_ := 0, blk := (rd_T41 f.fn.f1 f.blk).f3 } st (by simp only; omega) (by simp only; omega) h5 (by rw [← hst2]; exact h6) hM2 (by rw [← hst2]; exact ⟨h7.ws, h7.out, h7.r0, h7.r1, h7.inp⟩) (by rw [← hst2]) rfl
    refine ⟨max k1 k2 + 1, s2, fun k hk => ?_, hres.after (h2.trans hR2) (by simp only; omega)⟩
    obtain ⟨k, rfl⟩ : ∃ q, k = q + 1 := ⟨k - 1, by omega⟩
    rw [unf k (by omega), if_neg hqn, if_pos (by omega), if_neg hfu, if_neg (by omega), if_neg (by omega)]
    exact hk2 k (by omega)
  rw [if_neg e1] at hst2 hE
  by_cases e2 : (rd_T41 f.fn.f1 f.blk).f1 = 2
  · rw [if_pos e2] at hst2 hE
    obtain ⟨v, hv, hst2⟩ := Option.map_eq_some_iff.1 hst2
    have hif : (if v ≠ 0 then (rd_T41 f.fn.f1 f.blk).f3 else (rd_T41 f.fn.f1 f.blk).f4) = (if v = 0 then (rd_T41 f.fn.f1 f.blk).f4 else (rd_T41 f.fn.f1 f.blk).f3) := by
      by_cases hv0 : v = 0
      · rw [if_neg (by simp [hv0]), if_pos hv0]
      · rw [if_pos hv0, if_neg hv0]
    rw [hif] at hst2
    obtain ⟨k2, s2, hk2, hres⟩ := (IH (fuel - (q.2.1.steps + 1)).toNat (by omega)).2 { q.2.1 with steps := q.2.1.steps + 1 } M2 { f with regs := q.2.2, at_ := 0, blk := (if v = 0 then (rd_T41 f.fn.f1 f.blk).f4 else (rd_T41 f.fn.f1 f.blk).f3) } st (by simp only; omega) (by simp only; omega) h5 (by rw [← hst2]; exact h6) hM2 (by rw [← hst2]; exact ⟨h7.ws, h7.out, h7.r0, h7.r1, h7.inp⟩) (by rw [← hst2]) rfl
    refine ⟨max k1 k2 + 1, s2, fun k hk => ?_, hres.after (h2.trans hR2) (by simp only; omega)⟩
    obtain ⟨k, rfl⟩ : ∃ q, k = q + 1 := ⟨k - 1, by omega⟩
    rw [unf k (by omega), if_neg hqn, if_pos (by omega), if_neg hfu, if_neg (by omega), if_pos e2, hv]
    exact hk2 k (by omega)
  rw [if_neg e2] at hst2 hE
  by_cases e3 : (rd_T41 f.fn.f1 f.blk).f1 = 3
  · refine ⟨k1 + 1, { q.2.1 with steps := q.2.1.steps + 1 }, fun k hk => ?_, n + 1, M2, h2.trans hR2, by simp only; omega, by simp only; omega, ?_, .inl ⟨h5, ?_⟩⟩
    · obtain ⟨k, rfl⟩ : ∃ q, k = q + 1 := ⟨k - 1, by omega⟩
      rw [unf k (by omega), if_neg hqn, if_pos (by omega), if_neg hfu, if_pos e3]
    · by_cases hs : st = []
      · rw [if_pos hs] at hst2; injection hst2 with hst2; rw [← hst2]; exact h7.out
      · rw [if_neg hs] at hst2; injection hst2 with hst2; rw [← hst2]; exact h7.out
    · by_cases hs : st = []
      · rw [if_pos hs] at hst2 ⊢; injection hst2 with hst2; rw [← hst2]; exact ⟨⟨h7.ws, h7.out, h7.r0, h7.r1, h7.inp⟩, hs.symm, rfl⟩
      · rw [if_neg hs] at hst2 ⊢; injection hst2 with hst2; rw [← hst2]; exact ⟨⟨h7.ws, h7.out, h7.r0, h7.r1, h7.inp⟩, rfl, h6⟩
  · rw [if_neg e3] at hE
    cases hE
end Go.Proofs.Ytocnkjhicbmmoaa.Q
