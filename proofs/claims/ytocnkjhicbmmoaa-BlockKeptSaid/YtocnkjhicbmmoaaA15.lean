/- Equality and size, as the block's and the reference's functions tell them: for BlockKept. -/
import Derived.Test.YtocnkjhicbmmoaaQ29
import Derived.Test.YtocnkjhicbmmoaaQ15
import Derived.Test.YtocnkjhicbmmoaaQ31
namespace Go.Proofs.Ytocnkjhicbmmoaa.Q
open Go.RowKit Go.Proofs.YtocnkjhicbmmoaaW.PrintWords Go.Proofs.YtocnkjhicbmmoaaW.PrintLast
set_option linter.unusedVariables false
set_option linter.unusedSimpArgs false

instance : DecidableEq S44 := fun a b => decidable_of_iff (a.f0 = b.f0 ∧ a.f1 = b.f1 ∧ a.f2 = b.f2 ∧ a.f3 = b.f3 ∧ a.f4 = b.f4 ∧ a.f5 = b.f5 ∧ a.f6 = b.f6 ∧ a.f7 = b.f7) (by cases a; cases b; simp)
instance : DecidableEq S41 := fun a b => decidable_of_iff (a.f0 = b.f0 ∧ a.f1 = b.f1 ∧ a.f2 = b.f2 ∧ a.f3 = b.f3 ∧ a.f4 = b.f4) (by cases a; cases b; simp)
instance : DecidableEq S35 := fun a b => decidable_of_iff (a.f0 = b.f0 ∧ a.f1 = b.f1) (by cases a; cases b; simp)
theorem ne44 (t u : S44) : (!(t.f0 == u.f0) || (!(t.f1 == u.f1) || (!(t.f2 == u.f2) || (!(t.f3 == u.f3) || (!(t.f4 == u.f4) || (!(t.f5 == u.f5) || (!(t.f6 == u.f6) || (!(t.f7 == u.f7))))))))) = !decide (t = u) := by
  by_cases h : t = u
  · subst h; simp
  · rw [decide_eq_false h]
    refine (Bool.eq_false_or_eq_true _).elim id (fun hh => absurd ?_ h)
    simp at hh
    cases t; cases u; simp_all
theorem wrap_n {j : Nat} (h : j < 1000000) : wrap64 ((j : Int) + 1) = ((j + 1 : Nat) : Int) := by unfold wrap64; omega
theorem take_n {α : Type} (l : List α) (z : α) (j : Nat) (h : j < l.length) : l.take (j + 1) = l.take j ++ [l.getD j z] := by
  rw [List.take_add_one, List.getElem?_eq_getElem h, List.getD_eq_getElem?_getD, List.getElem?_eq_getElem h]
  rfl
theorem rd44_nat (l : List S44) (j : Nat) : rd_T44 l j = l.getD j z44 := by simp [rd_T44]
theorem rd41_nat (l : List S41) (j : Nat) : rd_T41 l j = l.getD j z41 := by simp [rd_T41]
theorem rd35_nat (l : List S35) (j : Nat) : rd_T35 l j = l.getD j z35 := by simp [rd_T35]
theorem sb_l0 {l m : List S44} {a b c d a' b' c' d' : Int} (hb : l.length < 1000) (he : l.length = m.length) : ∀ (e j : Nat), l.length - j = e → j ≤ l.length → l.take j = m.take j → ∃ k0, ∀ k, k0 ≤ k → seedcornref24_SameBlock.l0 k j l a b c d m a' b' c' d' = some (decide (l = m))
  | 0, j, hd, hj, ht => by
    refine ⟨1, fun k hk => ?_⟩
    obtain ⟨k, rfl⟩ : ∃ q, k = q + 1 := ⟨k - 1, by omega⟩
    have hlm : l = m := by
      rw [List.take_of_length_le (by omega), List.take_of_length_le (by omega)] at ht
      exact ht
    have c1 : ((j : Int) < (l.length : Int)) = False := eq_false (by omega)
    simp only [seedcornref24_SameBlock.l0, c1, if_false, decide_eq_true hlm]
  | e + 1, j, hd, hj, ht => by
    have hl : j < l.length := by omega
    have hm : j < m.length := by omega
    have c1 : ((j : Int) < (l.length : Int)) = True := eq_true (by omega)
    have c2 : (0 ≤ (j : Int)) = True := eq_true (by omega)
    have c3 : ((j : Int) < (m.length : Int)) = True := eq_true (by omega)
    by_cases h : l.getD j z44 = m.getD j z44
    · obtain ⟨k0, hk0⟩ := sb_l0 (a := a) (b := b) (c := c) (d := d) (a' := a') (b' := b') (c' := c') (d' := d') hb he e (j + 1) (by omega) (by omega) (by rw [take_n _ z44 j hl, take_n _ z44 j hm, ht, h])
      refine ⟨k0 + 1, fun k hk => ?_⟩
      obtain ⟨k, rfl⟩ : ∃ q, k = q + 1 := ⟨k - 1, by omega⟩
      have hk1 := hk0 k (by omega)
      have hw := wrap_n (j := j) (by omega)
      simp only [seedcornref24_SameBlock.l0, c1, c2, c3, if_true, ne44, rd44_nat, h, decide_true, Bool.not_true, Bool.false_eq_true, if_false, hw]
      exact hk1
    · refine ⟨1, fun k hk => ?_⟩
      obtain ⟨k, rfl⟩ : ∃ q, k = q + 1 := ⟨k - 1, by omega⟩
      have hlm : l ≠ m := fun e => h (by rw [e])
      simp only [seedcornref24_SameBlock.l0, c1, c2, c3, if_true, ne44, rd44_nat, decide_eq_false h, Bool.not_false, decide_eq_false hlm]
theorem sameBlock_is {b c : S41} (hb : b.f0.length < 1000) : ∃ k0, ∀ k, k0 ≤ k → seedcornref24_SameBlock.f k b.f0 b.f1 b.f2 b.f3 b.f4 c.f0 c.f1 c.f2 c.f3 c.f4 = some (decide (b = c)) := by
  obtain ⟨l, b1, b2, b3, b4⟩ := b
  obtain ⟨m, c1, c2, c3, c4⟩ := c
  simp only at hb ⊢
  by_cases h : b1 = c1 ∧ b2 = c2 ∧ b3 = c3 ∧ b4 = c4 ∧ l.length = m.length
  · obtain ⟨rfl, rfl, rfl, rfl, he⟩ := h
    obtain ⟨k0, hk0⟩ := sb_l0 (a := b1) (b := b2) (c := b3) (d := b4) (a' := b1) (b' := b2) (c' := b3) (d' := b4) hb he l.length 0 (by omega) (by omega) (by simp)
    refine ⟨k0 + 1, fun k hk => ?_⟩
    obtain ⟨k, rfl⟩ : ∃ q, k = q + 1 := ⟨k - 1, by omega⟩
    have hk1 := hk0 k (by omega)
    have hx : ((l.length : Int) != (m.length : Int)) = false := by simp [he]
    simp only [seedcornref24_SameBlock.f, seedcornref24_SameBlock.j0, if_true, hx, Bool.false_eq_true, if_false]
    refine hk1.trans ?_
    by_cases e : l = m
    · subst e; simp
    · rw [decide_eq_false e, decide_eq_false (by simp [e])]
  · refine ⟨1, fun k hk => ?_⟩
    obtain ⟨k, rfl⟩ : ∃ q, k = q + 1 := ⟨k - 1, by omega⟩
    have hne : ¬ ((⟨l, b1, b2, b3, b4⟩ : S41) = ⟨m, c1, c2, c3, c4⟩) := by
      intro e
      injection e with e0 e1 e2 e3 e4
      exact h ⟨e1, e2, e3, e4, by rw [e0]⟩
    rw [decide_eq_false hne]
    by_cases h1 : b1 = c1
    · by_cases h2 : b2 = c2
      · by_cases h3 : b3 = c3
        · by_cases h4 : b4 = c4
          · have h5 : ¬ l.length = m.length := fun e => h ⟨h1, h2, h3, h4, e⟩
            have hx : ((l.length : Int) != (m.length : Int)) = true := by simp; omega
            simp only [seedcornref24_SameBlock.f, seedcornref24_SameBlock.j0, h1, h2, h3, h4, if_true, hx]
          · simp only [seedcornref24_SameBlock.f, seedcornref24_SameBlock.j0, h1, h2, h3, h4, if_true, if_false]
        · simp only [seedcornref24_SameBlock.f, seedcornref24_SameBlock.j0, h1, h2, h3, if_true, if_false]
      · simp only [seedcornref24_SameBlock.f, seedcornref24_SameBlock.j0, h1, h2, if_true, if_false]
    · simp only [seedcornref24_SameBlock.f, seedcornref24_SameBlock.j0, h1, if_true, if_false]
theorem sf_l0 {l m : List S41} {a a' : Int} (hb : l.length < 1000) (hf : ∀ x ∈ l, x.f0.length < 1000) (he : l.length = m.length) : ∀ (e j : Nat), l.length - j = e → j ≤ l.length → l.take j = m.take j → ∃ k0, ∀ k, k0 ≤ k → seedcornref24_SameFunc.l0 k j a l a' m = some (decide (l = m))
  | 0, j, hd, hj, ht => by
    refine ⟨1, fun k hk => ?_⟩
    obtain ⟨k, rfl⟩ : ∃ q, k = q + 1 := ⟨k - 1, by omega⟩
    have hlm : l = m := by
      rw [List.take_of_length_le (by omega), List.take_of_length_le (by omega)] at ht
      exact ht
    have c1 : ((j : Int) < (l.length : Int)) = False := eq_false (by omega)
    simp only [seedcornref24_SameFunc.l0, c1, if_false, decide_eq_true hlm]
  | e + 1, j, hd, hj, ht => by
    have hl : j < l.length := by omega
    have hm : j < m.length := by omega
    have c1 : ((j : Int) < (l.length : Int)) = True := eq_true (by omega)
    have c2 : (0 ≤ (j : Int)) = True := eq_true (by omega)
    have c3 : ((j : Int) < (m.length : Int)) = True := eq_true (by omega)
    have hx : l.getD j z41 ∈ l := by
      rw [List.getD_eq_getElem?_getD, List.getElem?_eq_getElem hl]
      exact List.getElem_mem hl
    obtain ⟨k1, hk1⟩ := sameBlock_is (b := l.getD j z41) (c := m.getD j z41) (hf _ hx)
    by_cases h : l.getD j z41 = m.getD j z41
    · obtain ⟨k0, hk0⟩ := sf_l0 (a := a) (a' := a') hb hf he e (j + 1) (by omega) (by omega) (by rw [take_n _ z41 j hl, take_n _ z41 j hm, ht, h])
      refine ⟨max k0 k1 + 1, fun k hk => ?_⟩
      obtain ⟨k, rfl⟩ : ∃ q, k = q + 1 := ⟨k - 1, by omega⟩
      have hk2 := hk0 k (by omega)
      have hk3 := hk1 k (by omega)
      rw [decide_eq_true h] at hk3
      have hw := wrap_n (j := j) (by omega)
      simp only [seedcornref24_SameFunc.l0, c1, c2, c3, if_true, rd41_nat, hk3, Option.bind_some, hw]
      exact hk2
    · refine ⟨k1 + 1, fun k hk => ?_⟩
      obtain ⟨k, rfl⟩ : ∃ q, k = q + 1 := ⟨k - 1, by omega⟩
      have hk3 := hk1 k (by omega)
      rw [decide_eq_false h] at hk3
      have hlm : l ≠ m := fun e => h (by rw [e])
      simp only [seedcornref24_SameFunc.l0, c1, c2, c3, if_true, rd41_nat, hk3, Option.bind_some, Bool.false_eq_true, if_false, decide_eq_false hlm]
theorem sf_pair {n n' : Int} {l m : List S41} (hb : l.length < 1000) (hf : ∀ x ∈ l, x.f0.length < 1000) : ∃ k0, ∀ k, k0 ≤ k → seedcornref24_SameFunc.f k n l n' m = some (decide (n = n' ∧ l = m)) := by
  by_cases h1 : n = n'
  · by_cases he : l.length = m.length
    · obtain ⟨k0, hk0⟩ := sf_l0 (a := n) (a' := n') hb hf he l.length 0 (by omega) (by omega) (by simp)
      refine ⟨k0 + 1, fun k hk => ?_⟩
      obtain ⟨k, rfl⟩ : ∃ q, k = q + 1 := ⟨k - 1, by omega⟩
      have hk1 := hk0 k (by omega)
      have hx : ((l.length : Int) != (m.length : Int)) = false := by simp [he]
      have c1 : (n = n') = True := eq_true h1
      simp only [seedcornref24_SameFunc.f, seedcornref24_SameFunc.j0, c1, if_true, hx, Bool.false_eq_true, if_false, true_and]
      exact hk1
    · refine ⟨1, fun k hk => ?_⟩
      obtain ⟨k, rfl⟩ : ∃ q, k = q + 1 := ⟨k - 1, by omega⟩
      have hx : ((l.length : Int) != (m.length : Int)) = true := by simp; omega
      have hne : ¬ (n = n' ∧ l = m) := fun e => he (by rw [e.2])
      rw [decide_eq_false hne]
      have c1 : (n = n') = True := eq_true h1
      simp only [seedcornref24_SameFunc.f, seedcornref24_SameFunc.j0, c1, if_true, hx]
  · refine ⟨1, fun k hk => ?_⟩
    obtain ⟨k, rfl⟩ : ∃ q, k = q + 1 := ⟨k - 1, by omega⟩
    have hne : ¬ (n = n' ∧ l = m) := fun e => h1 e.1
    rw [decide_eq_false hne]
    have c1 : (n = n') = False := eq_false h1
    simp only [seedcornref24_SameFunc.f, seedcornref24_SameFunc.j0, c1, if_true, if_false]
theorem sameFunc_is {b c : S35} (hb : b.f1.length < 1000 ∧ ∀ x ∈ b.f1, x.f0.length < 1000) : ∃ k0, ∀ k, k0 ≤ k → seedcornref24_SameFunc.f k b.f0 b.f1 c.f0 c.f1 = some (decide (b = c)) := by
  obtain ⟨n, l⟩ := b
  obtain ⟨n', m⟩ := c
  obtain ⟨k0, h⟩ := sf_pair (n := n) (n' := n') (m := m) hb.1 hb.2
  refine ⟨k0, fun k hk => (h k hk).trans ?_⟩
  congr 1
  by_cases e : n = n' ∧ l = m
  · rw [decide_eq_true e, decide_eq_true (by rw [e.1, e.2])]
  · rw [decide_eq_false e, decide_eq_false (by intro q; injection q with q1 q2; exact e ⟨q1, q2⟩)]
theorem sp_l0 {l m : List S35} {a a' : Int} (hb : l.length < 1000) (hf : ∀ x ∈ l, (x.f1.length < 1000 ∧ ∀ y ∈ x.f1, y.f0.length < 1000)) (he : l.length = m.length) : ∀ (e j : Nat), l.length - j = e → j ≤ l.length → l.take j = m.take j → ∃ k0, ∀ k, k0 ≤ k → seedcornref24_Same.l0 k j a l a' m = some (decide (l = m))
  | 0, j, hd, hj, ht => by
    refine ⟨1, fun k hk => ?_⟩
    obtain ⟨k, rfl⟩ : ∃ q, k = q + 1 := ⟨k - 1, by omega⟩
    have hlm : l = m := by
      rw [List.take_of_length_le (by omega), List.take_of_length_le (by omega)] at ht
      exact ht
    have c1 : ((j : Int) < (l.length : Int)) = False := eq_false (by omega)
    simp only [seedcornref24_Same.l0, c1, if_false, decide_eq_true hlm]
  | e + 1, j, hd, hj, ht => by
    have hl : j < l.length := by omega
    have hm : j < m.length := by omega
    have c1 : ((j : Int) < (l.length : Int)) = True := eq_true (by omega)
    have c2 : (0 ≤ (j : Int)) = True := eq_true (by omega)
    have c3 : ((j : Int) < (m.length : Int)) = True := eq_true (by omega)
    have hx : l.getD j z35 ∈ l := by
      rw [List.getD_eq_getElem?_getD, List.getElem?_eq_getElem hl]
      exact List.getElem_mem hl
    obtain ⟨k1, hk1⟩ := sameFunc_is (b := l.getD j z35) (c := m.getD j z35) (hf _ hx)
    by_cases h : l.getD j z35 = m.getD j z35
    · obtain ⟨k0, hk0⟩ := sp_l0 (a := a) (a' := a') hb hf he e (j + 1) (by omega) (by omega) (by rw [take_n _ z35 j hl, take_n _ z35 j hm, ht, h])
      refine ⟨max k0 k1 + 1, fun k hk => ?_⟩
      obtain ⟨k, rfl⟩ : ∃ q, k = q + 1 := ⟨k - 1, by omega⟩
      have hk2 := hk0 k (by omega)
      have hk3 := hk1 k (by omega)
      rw [decide_eq_true h] at hk3
      have hw := wrap_n (j := j) (by omega)
      simp only [seedcornref24_Same.l0, c1, c2, c3, if_true, rd35_nat, hk3, Option.bind_some, hw]
      exact hk2
    · refine ⟨k1 + 1, fun k hk => ?_⟩
      obtain ⟨k, rfl⟩ : ∃ q, k = q + 1 := ⟨k - 1, by omega⟩
      have hk3 := hk1 k (by omega)
      rw [decide_eq_false h] at hk3
      have hlm : l ≠ m := fun e => h (by rw [e])
      simp only [seedcornref24_Same.l0, c1, c2, c3, if_true, rd35_nat, hk3, Option.bind_some, Bool.false_eq_true, if_false, decide_eq_false hlm]
theorem sp_pair {n n' : Int} {l m : List S35} (hb : l.length < 1000) (hf : ∀ x ∈ l, (x.f1.length < 1000 ∧ ∀ y ∈ x.f1, y.f0.length < 1000)) : ∃ k0, ∀ k, k0 ≤ k → seedcornref24_Same.f k n l n' m = some (decide (n = n' ∧ l = m)) := by
  by_cases h1 : n = n'
  · by_cases he : l.length = m.length
    · obtain ⟨k0, hk0⟩ := sp_l0 (a := n) (a' := n') hb hf he l.length 0 (by omega) (by omega) (by simp)
      refine ⟨k0 + 1, fun k hk => ?_⟩
      obtain ⟨k, rfl⟩ : ∃ q, k = q + 1 := ⟨k - 1, by omega⟩
      have hk1 := hk0 k (by omega)
      have hx : ((l.length : Int) != (m.length : Int)) = false := by simp [he]
      have c1 : (n = n') = True := eq_true h1
      simp only [seedcornref24_Same.f, seedcornref24_Same.j0, c1, if_true, hx, Bool.false_eq_true, if_false, true_and]
      exact hk1
    · refine ⟨1, fun k hk => ?_⟩
      obtain ⟨k, rfl⟩ : ∃ q, k = q + 1 := ⟨k - 1, by omega⟩
      have hx : ((l.length : Int) != (m.length : Int)) = true := by simp; omega
      have hne : ¬ (n = n' ∧ l = m) := fun e => he (by rw [e.2])
      rw [decide_eq_false hne]
      have c1 : (n = n') = True := eq_true h1
      simp only [seedcornref24_Same.f, seedcornref24_Same.j0, c1, if_true, hx]
  · refine ⟨1, fun k hk => ?_⟩
    obtain ⟨k, rfl⟩ : ∃ q, k = q + 1 := ⟨k - 1, by omega⟩
    have hne : ¬ (n = n' ∧ l = m) := fun e => h1 e.1
    rw [decide_eq_false hne]
    have c1 : (n = n') = False := eq_false h1
    simp only [seedcornref24_Same.f, seedcornref24_Same.j0, c1, if_true, if_false]
end Go.Proofs.Ytocnkjhicbmmoaa.Q

namespace Go.Proofs.Ytocnkjhicbmmoaa.Q
open Go.RowKit Go.Proofs.YtocnkjhicbmmoaaW.PrintWords Go.Proofs.YtocnkjhicbmmoaaW.PrintLast
set_option linter.unusedVariables false
set_option linter.unusedSimpArgs false

def sizeB : List S41 → Nat
  | [] => 0
  | b :: l => 1 + b.f0.length + sizeB l
def sizeP : List S35 → Nat
  | [] => 0
  | f :: l => sizeB f.f1 + sizeP l
theorem sizeB_app (l m : List S41) : sizeB (l ++ m) = sizeB l + sizeB m := by
  induction l with
  | nil => simp [sizeB]
  | cons b l ih => simp only [List.cons_append, sizeB, ih]; omega
theorem sizeP_app (l m : List S35) : sizeP (l ++ m) = sizeP l + sizeP m := by
  induction l with
  | nil => simp [sizeP]
  | cons b l ih => simp only [List.cons_append, sizeP, ih]; omega
theorem sizeB_le : ∀ {l : List S41}, (∀ b ∈ l, b.f0.length < 1000) → sizeB l ≤ l.length * 1000
  | [], _ => by simp [sizeB]
  | b :: l, h => by
    have h1 := h b (by simp)
    have h2 := sizeB_le (l := l) (fun x hx => h x (by simp [hx]))
    simp only [sizeB, List.length_cons]
    omega
def FewG (f : S35) : Prop := f.f1.length < 1000 ∧ ∀ y ∈ f.f1, y.f0.length < 1000
theorem sizeP_le : ∀ {l : List S35}, (∀ f ∈ l, FewG f) → sizeP l ≤ l.length * 1000000
  | [], _ => by simp [sizeP]
  | f :: l, h => by
    have h1 := h f (by simp)
    have h2 := sizeP_le (l := l) (fun x hx => h x (by simp [hx]))
    have h3 := sizeB_le h1.2
    have h4 := h1.1
    simp only [sizeP, List.length_cons]
    omega
theorem wrap_step {S n : Nat} (h : S < 10000000000000) (hn : n < 1000000) : wrap64 ((S : Int) + wrap64 (1 + (n : Int))) = ((S + (1 + n) : Nat) : Int) := by unfold wrap64; omega
theorem wrap_sum15 {S n : Nat} (h : S < 10000000000000) (hn : n < 10000000000000) : wrap64 ((S : Int) + (n : Int)) = ((S + n : Nat) : Int) := by unfold wrap64; omega
theorem sizeB_next {l : List S41} {j : Nat} (h : j < l.length) : sizeB (l.take (j + 1)) = sizeB (l.take j) + (1 + (l.getD j z41).f0.length) := by
  rw [take_n l z41 j h, sizeB_app]; simp [sizeB]
theorem sizeP_next {l : List S35} {j : Nat} (h : j < l.length) : sizeP (l.take (j + 1)) = sizeP (l.take j) + sizeB (l.getD j z35).f1 := by
  rw [take_n l z35 j h, sizeP_app]; simp [sizeP]
theorem take_mem {α : Type} {l : List α} {n : Nat} {x : α} (h : x ∈ l.take n) : x ∈ l := List.mem_of_mem_take h
section
variable {fs : List S35} {L : Int} {R : Option Int}
theorem bs_l1 {i : Nat} {bs : List S41} (hb : bs.length < 1000) (hf : ∀ b ∈ bs, b.f0.length < 1000) {s : Nat} (hs : s < 1000000000000) (hi : i < 1000)
    (H : ∃ k0, ∀ k, k0 ≤ k → block_Size.l0 k ((s + sizeB bs : Nat) : Int) fs L ((i + 1 : Nat) : Int) = R) : ∀ (e j : Nat), bs.length - j = e → j ≤ bs.length → ∃ k0, ∀ k, k0 ≤ k → block_Size.l1 k ((s + sizeB (bs.take j) : Nat) : Int) fs L i bs (bs.length : Int) j = R
  | 0, j, hd, hj => by
    obtain ⟨k0, hk0⟩ := H
    refine ⟨k0 + 1, fun k hk => ?_⟩
    obtain ⟨k, rfl⟩ : ∃ q, k = q + 1 := ⟨k - 1, by omega⟩
    have hk1 := hk0 k (by omega)
    have ht : bs.take j = bs := List.take_of_length_le (by omega)
    have c1 : ((j : Int) < (bs.length : Int)) = False := eq_false (by omega)
    have hw := wrap_n (j := i) (by omega)
    simp only [block_Size.l1, c1, if_false, ht, hw]
    exact hk1
  | e + 1, j, hd, hj => by
    have hl : j < bs.length := by omega
    obtain ⟨k0, hk0⟩ := bs_l1 hb hf hs hi H e (j + 1) (by omega) (by omega)
    refine ⟨k0 + 1, fun k hk => ?_⟩
    obtain ⟨k, rfl⟩ : ∃ q, k = q + 1 := ⟨k - 1, by omega⟩
    have hk1 := hk0 k (by omega)
    have c1 : ((j : Int) < (bs.length : Int)) = True := eq_true (by omega)
    have c2 : (0 ≤ (j : Int)) = True := eq_true (by omega)
    have hx : bs.getD j z41 ∈ bs := by
      rw [List.getD_eq_getElem?_getD, List.getElem?_eq_getElem hl]
      exact List.getElem_mem hl
    have h1 := hf _ hx
    have h2 := sizeB_le (l := bs.take j) (fun b hb => hf b (take_mem hb))
    rw [List.length_take] at h2
    have h3 : s + sizeB (bs.take j) < 10000000000000 := by omega
    have g1 : (bs.getD j z41).f0.length < 1000000 := by omega
    have g2 : j < 1000000 := by omega
    have hw := wrap_n g2
    have hv := wrap_step h3 g1
    rw [sizeB_next hl, ← Nat.add_assoc s] at hk1
    simp only [block_Size.l1, c1, c2, if_true, rd41_nat, hw, hv]
    exact hk1
theorem bs_l0 (hb : fs.length < 1000) (hf : ∀ f ∈ fs, FewG f) : ∀ (e i : Nat), fs.length - i = e → i ≤ fs.length → ∃ k0, ∀ k, k0 ≤ k → block_Size.l0 k ((sizeP (fs.take i) : Nat) : Int) fs (fs.length : Int) i = some ((sizeP fs : Nat) : Int)
  | 0, i, hd, hi => by
    refine ⟨1, fun k hk => ?_⟩
    obtain ⟨k, rfl⟩ : ∃ q, k = q + 1 := ⟨k - 1, by omega⟩
    have ht : fs.take i = fs := List.take_of_length_le (by omega)
    have c1 : ((i : Int) < (fs.length : Int)) = False := eq_false (by omega)
    simp only [block_Size.l0, c1, if_false, ht]
  | e + 1, i, hd, hi => by
    have hl : i < fs.length := by omega
    have hR := bs_l0 hb hf e (i + 1) (by omega) (by omega)
    rw [sizeP_next hl] at hR
    have hx : fs.getD i z35 ∈ fs := by
      rw [List.getD_eq_getElem?_getD, List.getElem?_eq_getElem hl]
      exact List.getElem_mem hl
    have hF := hf _ hx
    have h2 := sizeP_le (l := fs.take i) (fun b hb => hf b (take_mem hb))
    rw [List.length_take] at h2
    obtain ⟨k0, hk0⟩ := bs_l1 (i := i) hF.1 hF.2 (s := sizeP (fs.take i)) (by omega) (by omega) hR (fs.getD i z35).f1.length 0 (by omega) (by omega)
    refine ⟨k0 + 1, fun k hk => ?_⟩
    obtain ⟨k, rfl⟩ : ∃ q, k = q + 1 := ⟨k - 1, by omega⟩
    have hk1 := hk0 k (by omega)
    have c1 : ((i : Int) < (fs.length : Int)) = True := eq_true (by omega)
    have c2 : (0 ≤ (i : Int)) = True := eq_true (by omega)
    simp only [block_Size.l0, c1, c2, if_true, rd35_nat]
    exact hk1
theorem blockSize_is {nw : Int} (hb : fs.length < 1000) (hf : ∀ f ∈ fs, FewG f) : ∃ k0, ∀ k, k0 ≤ k → block_Size.f k nw fs = some ((sizeP fs : Nat) : Int) := by
  obtain ⟨k0, h⟩ := bs_l0 hb hf fs.length 0 (by omega) (by omega)
  exact ⟨k0, fun k hk => h k hk⟩
theorem rs_l0 {n : Int} {bs : List S41} (hb : bs.length < 1000) (hf : ∀ b ∈ bs, b.f0.length < 1000) : ∀ (e j : Nat), bs.length - j = e → j ≤ bs.length → ∃ k0, ∀ k, k0 ≤ k → seedcornref24_SizeFunc.l0 k ((bs.length - j + sizeB (bs.take j) : Nat) : Int) j n bs = some ((sizeB bs : Nat) : Int)
  | 0, j, hd, hj => by
    refine ⟨1, fun k hk => ?_⟩
    obtain ⟨k, rfl⟩ : ∃ q, k = q + 1 := ⟨k - 1, by omega⟩
    have ht : bs.take j = bs := List.take_of_length_le (by omega)
    have c1 : ((j : Int) < (bs.length : Int)) = False := eq_false (by omega)
    simp only [seedcornref24_SizeFunc.l0, c1, if_false, ht, hd, Nat.zero_add]
  | e + 1, j, hd, hj => by
    have hl : j < bs.length := by omega
    obtain ⟨k0, hk0⟩ := rs_l0 (n := n) hb hf e (j + 1) (by omega) (by omega)
    refine ⟨k0 + 1, fun k hk => ?_⟩
    obtain ⟨k, rfl⟩ : ∃ q, k = q + 1 := ⟨k - 1, by omega⟩
    have hk1 := hk0 k (by omega)
    have c1 : ((j : Int) < (bs.length : Int)) = True := eq_true (by omega)
    have c2 : (0 ≤ (j : Int)) = True := eq_true (by omega)
    have hx : bs.getD j z41 ∈ bs := by
      rw [List.getD_eq_getElem?_getD, List.getElem?_eq_getElem hl]
      exact List.getElem_mem hl
    have h1 := hf _ hx
    have h2 := sizeB_le (l := bs.take j) (fun b hb => hf b (take_mem hb))
    rw [List.length_take] at h2
    rw [sizeB_next hl] at hk1
    have g1 : bs.length - j + sizeB (bs.take j) < 10000000000000 := by omega
    have g2 : (bs.getD j z41).f0.length < 10000000000000 := by omega
    have g3 : j < 1000000 := by omega
    have hq : bs.length - j + sizeB (bs.take j) + (bs.getD j z41).f0.length = bs.length - (j + 1) + (sizeB (bs.take j) + (1 + (bs.getD j z41).f0.length)) := by omega
    have hw := wrap_n g3
    have hv := wrap_sum15 g1 g2
    rw [hq] at hv
    simp only [seedcornref24_SizeFunc.l0, c1, c2, if_true, rd41_nat, hw, hv]
    exact hk1
theorem rsf_is {f : S35} (hF : FewG f) : ∃ k0, ∀ k, k0 ≤ k → seedcornref24_SizeFunc.f k f.f0 f.f1 = some ((sizeB f.f1 : Nat) : Int) := by
  obtain ⟨k0, h⟩ := rs_l0 (n := f.f0) hF.1 hF.2 f.f1.length 0 (by omega) (by omega)
  exact ⟨k0, fun k hk => h k hk⟩
theorem rp_l0 {nw : Int} (hb : fs.length < 1000) (hf : ∀ f ∈ fs, FewG f) : ∀ (e i : Nat), fs.length - i = e → i ≤ fs.length → ∃ k0, ∀ k, k0 ≤ k → seedcornref24_Size.l0 k ((sizeP (fs.take i) : Nat) : Int) i nw fs = some ((sizeP fs : Nat) : Int)
  | 0, i, hd, hi => by
    refine ⟨1, fun k hk => ?_⟩
    obtain ⟨k, rfl⟩ : ∃ q, k = q + 1 := ⟨k - 1, by omega⟩
    have ht : fs.take i = fs := List.take_of_length_le (by omega)
    have c1 : ((i : Int) < (fs.length : Int)) = False := eq_false (by omega)
    simp only [seedcornref24_Size.l0, c1, if_false, ht]
  | e + 1, i, hd, hi => by
    have hl : i < fs.length := by omega
    obtain ⟨k0, hk0⟩ := rp_l0 (nw := nw) hb hf e (i + 1) (by omega) (by omega)
    rw [sizeP_next hl] at hk0
    have hx : fs.getD i z35 ∈ fs := by
      rw [List.getD_eq_getElem?_getD, List.getElem?_eq_getElem hl]
      exact List.getElem_mem hl
    have hF := hf _ hx
    obtain ⟨k1, hk1⟩ := rsf_is hF
    have h2 := sizeP_le (l := fs.take i) (fun b hb => hf b (take_mem hb))
    rw [List.length_take] at h2
    have h3 := sizeB_le hF.2
    have h4 := hF.1
    refine ⟨max k0 k1 + 1, fun k hk => ?_⟩
    obtain ⟨k, rfl⟩ : ∃ q, k = q + 1 := ⟨k - 1, by omega⟩
    have hk2 := hk0 k (by omega)
    have hk3 := hk1 k (by omega)
    have c1 : ((i : Int) < (fs.length : Int)) = True := eq_true (by omega)
    have c2 : (0 ≤ (i : Int)) = True := eq_true (by omega)
    have g1 : sizeP (fs.take i) < 10000000000000 := by omega
    have g2 : sizeB (fs.getD i z35).f1 < 10000000000000 := by omega
    have g3 : i < 1000000 := by omega
    have hw := wrap_n g3
    have hv := wrap_sum15 g1 g2
    simp only [seedcornref24_Size.l0, c1, c2, if_true, rd35_nat, hk3, Option.bind_some, hw, hv]
    exact hk2
theorem refSize_is {nw : Int} (hb : fs.length < 1000) (hf : ∀ f ∈ fs, FewG f) : ∃ k0, ∀ k, k0 ≤ k → seedcornref24_Size.f k nw fs = some ((sizeP fs : Nat) : Int) := by
  obtain ⟨k0, h⟩ := rp_l0 (nw := nw) hb hf fs.length 0 (by omega) (by omega)
  exact ⟨k0, fun k hk => h k hk⟩
end
end Go.Proofs.Ytocnkjhicbmmoaa.Q
