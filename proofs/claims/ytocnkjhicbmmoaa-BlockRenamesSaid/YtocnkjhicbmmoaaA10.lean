/- One instruction of block's machine under other names of registers. -/
import Derived.Test.YtocnkjhicbmmoaaA2
namespace Go.Proofs.Ytocnkjhicbmmoaa.Q
open Go.RowKit Go.Proofs.YtocnkjhicbmmoaaW.PrintWords Go.Proofs.YtocnkjhicbmmoaaW.PrintLast
set_option linter.unusedVariables false
set_option linter.unusedSimpArgs false

/-- The same numbers under other names. -/
structure RegRel (n : Int) (ρ : Int → Int) (xs ys : List Int) : Prop where
  len : (xs.length : Int) = n
  lo : ∀ i, 0 ≤ i → i < n → 0 ≤ ρ i
  hi : ∀ i, 0 ≤ i → i < n → ρ i < ys.length
  inj : ∀ i j, 0 ≤ i → i < n → 0 ≤ j → j < n → ρ i = ρ j → i = j
  at_ : ∀ i, 0 ≤ i → i < n → ys[(ρ i).toNat]? = xs[i.toNat]?
section
variable {n : Int} {ρ : Int → Int} {xs ys : List Int}
theorem RegRel.get (h : RegRel n ρ xs ys) {i v : Int} (hv : rget xs i = some v) : rget ys (ρ i) = some v := by
  obtain ⟨h0, h1⟩ := rget_some hv
  have hl : i < n := by
    have := (List.getElem?_eq_some_iff.1 h1).1
    have := h.len
    omega
  unfold rget
  rw [if_pos (h.lo i h0 hl), h.at_ i h0 hl]
  exact h1
theorem RegRel.set (h : RegRel n ρ xs ys) {d v : Int} {r : List Int} (hr : rset xs d v = some r) : ∃ r', rset ys (ρ d) v = some r' ∧ RegRel n ρ r r' ∧ r'.length = ys.length ∧ r' = ys.set (ρ d).toNat v := by
  obtain ⟨⟨h0, h1⟩, rfl⟩ := rset_some hr
  have hl : d < n := by have := h.len; omega
  refine ⟨ys.set (ρ d).toNat v, by unfold rset; rw [if_pos ⟨h.lo d h0 hl, h.hi d h0 hl⟩], ⟨by rw [List.length_set]; exact h.len, h.lo, fun i a b => by rw [List.length_set]; exact h.hi i a b, h.inj, fun i a b => ?_⟩, List.length_set, rfl⟩
  have l0 := h.lo d h0 hl
  have l1 := h.lo i a b
  by_cases e : i = d
  · subst e
    rw [List.getElem?_set_self (by have := h.hi i a b; omega), List.getElem?_set_self (by omega)]
  · have hne : (ρ d).toNat ≠ (ρ i).toNat := fun e2 => e (h.inj i d a b h0 hl (by omega))
    rw [List.getElem?_set_ne hne, List.getElem?_set_ne (by omega)]
    exact h.at_ i a b
end
/-- The same instruction under other names. -/
structure TRel (ρ : Int → Int) (t t' : S44) : Prop where
  f0 : t'.f0 = t.f0
  f1 : t.f0 = 1 ∨ t.f0 = 2 ∨ t.f0 = 3 ∨ t.f0 = 4 ∨ t.f0 = 6 ∨ t.f0 = 8 → t'.f1 = ρ t.f1
  f2 : t.f0 = 2 ∨ t.f0 = 5 ∨ t.f0 = 6 ∨ t.f0 = 9 ∨ t.f0 = 3 ∨ t.f0 = 7 → t'.f2 = ρ t.f2
  f3 : t.f0 = 3 ∨ t.f0 = 7 → t'.f3 = ρ t.f3
  f4 : t'.f4 = t.f4
  f5 : t'.f5 = t.f5
  f6 : t'.f6 = t.f6
  f7 : t'.f7 = t.f7
/-- All but the functions called is the same. -/
structure Eq4 (M M' : Mc) : Prop where
  inp : M'.inp = M.inp
  ws : M'.ws = M.ws
  out : M'.out = M.out
  en : M'.en = M.en
section
variable {n : Int} {ρ : Int → Int} {fs fs' : List S35} {M M' M1 : Mc} {f f' : Fr} {st st' : List Fr} {t t' : S44}
theorem put_gen (h : Eq4 M M') (hr : RegRel n ρ f.regs f'.regs) {d v : Int} (hd : mput M f st d v = some M1) :
    ∃ M1' r r', mput M' f' st' (ρ d) v = some M1' ∧ Eq4 M1 M1' ∧ M1.stk = { f with regs := r } :: st ∧ M1'.stk = { f' with regs := r' } :: st' ∧ RegRel n ρ r r' ∧ r'.length = f'.regs.length := by
  unfold mput at hd ⊢
  obtain ⟨r, hr1, rfl⟩ := Option.map_eq_some_iff.1 hd
  obtain ⟨r', h1, h2, h3, _⟩ := hr.set hr1
  exact ⟨{ M' with stk := { f' with regs := r' } :: st' }, r, r', by rw [h1]; rfl, ⟨h.inp, h.ws, h.out, h.en⟩, rfl, rfl, h2, h3⟩
theorem mdo_gen (h : Eq4 M M') (hs : M.stk = f :: st) (hs' : M'.stk = f' :: st') (hr : RegRel n ρ f.regs f'.regs) (ht : TRel ρ t t') (h10 : t.f0 ≠ 10) (hd : mdo fs M f st t = some M1) :
    ∃ M1' r r', mdo fs' M' f' st' t' = some M1' ∧ Eq4 M1 M1' ∧ M1.stk = { f with regs := r } :: st ∧ M1'.stk = { f' with regs := r' } :: st' ∧ RegRel n ρ r r' ∧ r'.length = f'.regs.length := by
  obtain ⟨op, d, a, b, k, base, size, nn⟩ := t
  obtain ⟨op', d', a', b', k', base', size', nn'⟩ := t'
  obtain ⟨t0, t1, t2, t3, t4, t5, t6, t7⟩ := ht
  simp only at t0 t1 t2 t3 t4 t5 t6 t7 h10
  subst t0 t4 t5 t6 t7
  unfold mdo at hd ⊢
  simp only at hd ⊢
  by_cases e : op' = 1
  · rw [if_pos e] at hd ⊢
    rw [t1 (by omega)]
    exact put_gen h hr hd
  rw [if_neg e] at hd ⊢
  by_cases e : op' = 2
  · rw [if_pos e] at hd ⊢
    rw [t1 (by omega), t2 (by omega)]
    obtain ⟨va, ha, hd⟩ := Option.bind_eq_some_iff.1 hd
    rw [hr.get ha]
    exact put_gen h hr hd
  rw [if_neg e] at hd ⊢
  by_cases e : op' = 3
  · rw [if_pos e] at hd ⊢
    rw [t1 (by omega), t2 (by omega), t3 (by omega)]
    obtain ⟨va, ha, hd⟩ := Option.bind_eq_some_iff.1 hd
    obtain ⟨vb, hb, hd⟩ := Option.bind_eq_some_iff.1 hd
    obtain ⟨q, hq, hd⟩ := Option.bind_eq_some_iff.1 hd
    rw [hr.get ha]
    simp only [Option.bind_some]
    rw [hr.get hb]
    simp only [Option.bind_some]
    rw [hq]
    simp only [Option.bind_some]
    by_cases hz : q.2 = 0
    · rw [if_pos hz] at hd ⊢
      exact put_gen h hr hd
    · rw [if_neg hz] at hd ⊢
      injection hd with hd
      subst hd
      exact ⟨_, f.regs, f'.regs, rfl, ⟨h.inp, h.ws, h.out, rfl⟩, hs, hs', hr, rfl⟩
  rw [if_neg e] at hd ⊢
  by_cases e : op' = 4
  · rw [if_pos e] at hd ⊢
    rw [t1 (by omega), h.ws]
    obtain ⟨va, ha, hd⟩ := Option.bind_eq_some_iff.1 hd
    rw [ha]
    exact put_gen h hr hd
  rw [if_neg e] at hd ⊢
  by_cases e : op' = 5
  · rw [if_pos e] at hd ⊢
    rw [t2 (by omega), h.ws]
    obtain ⟨va, ha, hd⟩ := Option.bind_eq_some_iff.1 hd
    obtain ⟨w, hw, rfl⟩ := Option.map_eq_some_iff.1 hd
    rw [hr.get ha]
    simp only [Option.bind_some]
    rw [hw]
    exact ⟨_, f.regs, f'.regs, rfl, ⟨h.inp, rfl, h.out, h.en⟩, hs, hs', hr, rfl⟩
  rw [if_neg e] at hd ⊢
  by_cases e : op' = 6
  · rw [if_pos e] at hd ⊢
    rw [t1 (by omega), t2 (by omega), h.ws]
    obtain ⟨va, ha, hd⟩ := Option.bind_eq_some_iff.1 hd
    rw [hr.get ha]
    simp only [Option.bind_some]
    by_cases hz : va < size' % 4294967296
    · rw [if_pos hz] at hd ⊢
      obtain ⟨x, hx, hd⟩ := Option.bind_eq_some_iff.1 hd
      rw [hx]
      exact put_gen h hr hd
    · rw [if_neg hz] at hd ⊢
      injection hd with hd
      subst hd
      exact ⟨_, f.regs, f'.regs, rfl, ⟨h.inp, rfl, h.out, rfl⟩, hs, hs', hr, rfl⟩
  rw [if_neg e] at hd ⊢
  by_cases e : op' = 7
  · rw [if_pos e] at hd ⊢
    rw [t2 (by omega), t3 (by omega), h.ws]
    obtain ⟨va, ha, hd⟩ := Option.bind_eq_some_iff.1 hd
    rw [hr.get ha]
    simp only [Option.bind_some]
    by_cases hz : va < size' % 4294967296
    · rw [if_pos hz] at hd ⊢
      obtain ⟨x, hx, hd⟩ := Option.bind_eq_some_iff.1 hd
      obtain ⟨w, hw, rfl⟩ := Option.map_eq_some_iff.1 hd
      rw [hr.get hx]
      simp only [Option.bind_some]
      rw [hw]
      exact ⟨_, f.regs, f'.regs, rfl, ⟨h.inp, rfl, h.out, h.en⟩, hs, hs', hr, rfl⟩
    · rw [if_neg hz] at hd ⊢
      injection hd with hd
      subst hd
      exact ⟨_, f.regs, f'.regs, rfl, ⟨h.inp, rfl, h.out, rfl⟩, hs, hs', hr, rfl⟩
  rw [if_neg e] at hd ⊢
  by_cases e : op' = 8
  · rw [if_pos e] at hd ⊢
    rw [t1 (by omega), h.inp]
    by_cases hz : M.inp.size = 0
    · rw [if_pos hz] at hd ⊢
      exact put_gen h hr hd
    · rw [if_neg hz] at hd ⊢
      exact put_gen (M := { M with inp := M.inp.extract 1 M.inp.size }) (M' := { M' with inp := M.inp.extract 1 M.inp.size }) ⟨rfl, h.ws, h.out, h.en⟩ hr hd
  rw [if_neg e] at hd ⊢
  by_cases e : op' = 9
  · rw [if_pos e] at hd ⊢
    rw [t2 (by omega), h.out]
    by_cases hz : 65536 ≤ M.out.length
    · rw [if_pos hz] at hd ⊢
      injection hd with hd
      subst hd
      exact ⟨_, f.regs, f'.regs, rfl, ⟨h.inp, h.ws, rfl, rfl⟩, hs, hs', hr, rfl⟩
    · rw [if_neg hz] at hd ⊢
      obtain ⟨va, ha, rfl⟩ := Option.map_eq_some_iff.1 hd
      rw [hr.get ha]
      exact ⟨_, f.regs, f'.regs, rfl, ⟨h.inp, h.ws, rfl, h.en⟩, hs, hs', hr, rfl⟩
  rw [if_neg e, if_neg h10] at hd
  cases hd
end
end Go.Proofs.Ytocnkjhicbmmoaa.Q
