/- What a run of block's machine with a fuel ends with, step by step; and the law of more fuel. -/
import Derived.Test.YtocnkjhicbmmoaaA1
namespace Go.Proofs.Ytocnkjhicbmmoaa.Q
open Go.RowKit Go.Proofs.YtocnkjhicbmmoaaW.PrintWords Go.Proofs.YtocnkjhicbmmoaaW.PrintLast
set_option linter.unusedVariables false
set_option linter.unusedSimpArgs false

/-- So many steps, but none behind an end. -/
def mit (fs : List S35) : Nat → Mc → Mc
  | 0, s => s
  | j + 1, s => if s.en = 0 then mit fs j ((mstep fs s).getD s) else s
section
variable {nw : Int} {fs : List S35} {s : Mc}
theorem mit_ended (h : s.en ≠ 0) : ∀ j, mit fs j s = s
  | 0 => rfl
  | j + 1 => by rw [mit, if_neg h]
theorem mit_one {s' : Mc} (h : s.en = 0) (hs : mstep fs s = some s') (j : Nat) : mit fs (j + 1) s = mit fs j s' := by rw [mit, if_pos h, hs]; rfl
theorem mit_ok (hp : OkP nw fs) : ∀ (j : Nat) (s : Mc), McG nw fs s → McG nw fs (mit fs j s) ∧ s.out <+: (mit fs j s).out
  | 0, s, h => ⟨h, List.prefix_refl _⟩
  | j + 1, s, h => by
    by_cases he : s.en = 0
    · obtain ⟨s', h1, h2, h3⟩ := mstep_ok hp h he
      rw [mit_one he h1]
      obtain ⟨h4, h5⟩ := mit_ok hp j s' h2
      exact ⟨h4, h3.trans h5⟩
    · rw [mit_ended he]; exact ⟨h, List.prefix_refl _⟩
theorem mit_add (i j : Nat) : ∀ s : Mc, mit fs (i + j) s = mit fs j (mit fs i s) := by
  induction i with
  | zero => intro s; simp [mit]
  | succ i ih =>
    intro s
    rw [show i + 1 + j = (i + j) + 1 by omega]
    by_cases he : s.en = 0
    · rw [mit, if_pos he, mit, if_pos he]; exact ih _
    · rw [mit_ended he, mit_ended he, mit_ended he]
/-- How many of at most m steps are done before an end. -/
def mlen (fs : List S35) : Nat → Mc → Nat
  | 0, _ => 0
  | m + 1, s => if s.en = 0 then mlen fs m ((mstep fs s).getD s) + 1 else 0
theorem mlen_le : ∀ (m : Nat) (s : Mc), mlen fs m s ≤ m
  | 0, _ => Nat.le_refl _
  | m + 1, s => by
    rw [mlen]
    split
    · have := mlen_le m ((mstep fs s).getD s); omega
    · omega
/-- Not ended by m steps: all are done. -/
theorem mlen_all : ∀ (m : Nat) (s : Mc), (mit fs m s).en = 0 → mlen fs m s = m
  | 0, _, _ => rfl
  | m + 1, s, h => by
    by_cases he : s.en = 0
    · rw [mlen, if_pos he]
      rw [mit, if_pos he] at h
      rw [mlen_all m _ h]
    · rw [mit_ended he] at h; exact absurd h he
/-- Ended by m steps: more change nothing. -/
theorem mlen_more (k : Nat) : ∀ (m : Nat) (s : Mc), (mit fs m s).en ≠ 0 → mlen fs (m + k) s = mlen fs m s
  | 0, s, h => by
    cases k with
    | zero => rfl
    | succ k => simp only [Nat.zero_add, mlen]; rw [if_neg (show ¬ s.en = 0 from h)]
  | m + 1, s, h => by
    rw [show m + 1 + k = (m + k) + 1 by omega]
    by_cases he : s.en = 0
    · rw [mlen, if_pos he, mlen, if_pos he]
      rw [mit, if_pos he] at h
      rw [mlen_more k m _ h]
    · rw [mlen, if_neg he, mlen, if_neg he]
/-- What the run with the fuel m answers: the end, what was put out, the steps. -/
def mres (fs : List S35) (m : Nat) (s : Mc) : Int × List Int × Nat := (if (mit fs m s).en = 0 then 5 else (mit fs m s).en, (mit fs m s).out, mlen fs m s)
theorem mrun_is (hp : OkP nw fs) : ∀ (m k : Nat) (n : Int) (s : Mc), McG nw fs s → m + 2 ≤ k →
    ∃ s', mrun fs (n + m) k n s = some (s', n + (mres fs m s).2.2) ∧ s'.en = (mres fs m s).1 ∧ s'.out = (mres fs m s).2.1
  | 0, k, n, s, h, hk => by
    obtain ⟨k, rfl⟩ : ∃ q, k = q + 1 := ⟨k - 1, by omega⟩
    by_cases he : s.en = 0
    · refine ⟨{ s with en := 5 }, ?_, ?_, rfl⟩
      · rw [mrun, if_pos he, if_pos (by omega)]; simp [mres, mlen]
      · simp [mres, mit, he]
    · refine ⟨s, ?_, ?_, rfl⟩
      · rw [mrun, if_neg he]; simp [mres, mlen]
      · simp [mres, mit, he]
  | m + 1, k, n, s, h, hk => by
    obtain ⟨k, rfl⟩ : ∃ q, k = q + 1 := ⟨k - 1, by omega⟩
    by_cases he : s.en = 0
    · obtain ⟨s1, h1, h2, _⟩ := mstep_ok hp h he
      obtain ⟨s', e1, e2, e3⟩ := mrun_is hp m k (n + 1) s1 h2 (by omega)
      refine ⟨s', ?_, ?_, ?_⟩
      · rw [mrun, if_pos he, if_neg (by omega), h1]
        simp only [Option.bind_some]
        rw [show n + ((m + 1 : Nat) : Int) = n + 1 + (m : Int) by omega, e1]
        simp only [mres, mlen, if_pos he, h1, Option.getD_some]
        congr 2
        omega
      · rw [e2]; simp only [mres, mit, if_pos he, h1, Option.getD_some]
      · rw [e3]; simp only [mres, mit, if_pos he, h1, Option.getD_some]
    · refine ⟨s, ?_, ?_, ?_⟩
      · rw [mrun, if_neg he]; simp [mres, mlen, he]
      · simp only [mres]; rw [mit_ended he, if_neg he]
      · simp only [mres]; rw [mit_ended he]
end

/-- The law of more fuel: an end is the same; else all the steps are done, and what is put out is a beginning. -/
theorem fuel_law {nw : Int} {fs : List S35} (hp : OkP nw fs) (m k : Nat) {s : Mc} (h : McG nw fs s) :
    ((mres fs m s).1 ≠ 5 → mres fs (m + k) s = mres fs m s ∧ (mres fs m s).2.2 ≤ m) ∧ ((mres fs m s).1 = 5 → (mres fs m s).2.2 = m ∧ (mres fs m s).2.1 <+: (mres fs (m + k) s).2.1) := by
  obtain ⟨h1, _⟩ := mit_ok hp m s h
  refine ⟨fun h5 => ?_, fun h5 => ?_⟩
  · have he : (mit fs m s).en ≠ 0 := fun he => h5 (by simp [mres, he])
    refine ⟨?_, mlen_le m s⟩
    simp only [mres]
    rw [mit_add, mit_ended he, mlen_more k m s he]
  · have he : (mit fs m s).en = 0 := by
      by_cases he : (mit fs m s).en = 0
      · exact he
      · simp only [mres, if_neg he] at h5
        exact absurd h5 h1.en
    refine ⟨mlen_all m s he, ?_⟩
    simp only [mres]
    rw [mit_add]
    exact (mit_ok hp k _ h1).2
end Go.Proofs.Ytocnkjhicbmmoaa.Q
