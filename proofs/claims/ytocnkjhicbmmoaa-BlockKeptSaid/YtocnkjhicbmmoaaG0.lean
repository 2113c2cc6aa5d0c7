/- block.Run's and law24.awake's contracts in the form of the print's. -/
import Derived.Test.YtocnkjhicbmmoaaM6
import Derived.Test.YtocnkjhicbmmoaaW18
import Derived.Test.YtocnkjhicbmmoaaQ11
namespace Go.Proofs.Ytocnkjhicbmmoaa.Q
open Go.RowKit Go.Proofs.YtocnkjhicbmmoaaW.PrintWords Go.Proofs.YtocnkjhicbmmoaaW.PrintLast
set_option linter.unusedVariables false
set_option linter.unusedSimpArgs false

theorem mrun_mono (fs : List S35) (fuel : Int) : ∀ (k : Nat) (n : Int) (s : Mc), LeO (mrun fs fuel k n s) (mrun fs fuel (k + 1) n s)
  | 0, n, s => LeO.none _
  | k + 1, n, s => by
    show LeO (mrun fs fuel (k + 1) n s) (mrun fs fuel (k + 1 + 1) n s)
    rw [mrun, mrun]
    refine LeO.ite (LeO.ite (LeO.refl _) (LeO.bind (LeO.refl _) fun s' => ?_)) (LeO.refl _)
    exact mrun_mono fs fuel k (n + 1) s'
/-- What is asked of a call. -/
def RunOk (nw : Int) (fs : List S35) (fuel : Int) : Prop := 0 ≤ nw ∧ nw * 4 ≤ 281474976710656 ∧ 0 < fs.length ∧ 0 ≤ (rd_T35 fs (fs.length - 1)).f0 ∧ (rd_T35 fs (fs.length - 1)).f0 * 4 ≤ 281474976710656 ∧ fuel ≤ 1000000 ∧ fs.length ≤ 1000000
instance (nw : Int) (fs : List S35) (fuel : Int) : Decidable (RunOk nw fs fuel) := by unfold RunOk; infer_instance
def block_Run.f (k : Nat) (nw : Int) (fs : List S35) (inp : ByteArray) (fuel : Int) : Option (Int × ByteArray × Int) :=
  if RunOk nw fs fuel then (mrun fs fuel k 0 (mstart fs nw inp)).bind fun q => some (q.1.en, strOfNums q.1.out, q.2) else none
theorem block_Run.mono : ∀ a0 a1 a2 a3 k, LeO (block_Run.f k a0 a1 a2 a3) (block_Run.f (k + 1) a0 a1 a2 a3) := by
  intro a0 a1 a2 a3 k
  unfold block_Run.f
  exact LeO.ite (LeO.bind (mrun_mono _ _ _ _ _) fun _ => LeO.refl _) (LeO.refl _)
theorem block_Run.calls (k : Nat) (a0_0 : Int) (A0_1 : Option Addr) (c0_1 : Nat) (l0_1 : List S35) (a1 : ByteArray) (a2 : Int) (r1 : Int) (r2 : ByteArray) (r3 : Int) (w : World) (hr0_1 : Kd.C k35 w A0_1 l0_1.length l0_1) (hc0_1 : l0_1.length ≤ c0_1) (h : block_Run.f k a0_0 l0_1 a1 a2 = some (r1, r2, r3)) :
    Calls Try.prog 19 #[.agg #[.int .i64 a0_0, .slice A0_1 l0_1.length c0_1], .string a1, .int .i64 a2] w fun e w' => e = .returned (.agg #[.int .i64 r1, .string r2, .int .i64 r3]) ∧ Below w.heap.size w w' := by
  unfold block_Run.f at h
  by_cases hk : RunOk a0_0 l0_1 a2
  · rw [if_pos hk] at h
    obtain ⟨⟨s, n⟩, hm, he⟩ := Option.bind_eq_some_iff.1 h
    simp only [Option.some.injEq, Prod.mk.injEq] at he
    obtain ⟨rfl, rfl, rfl⟩ := he
    obtain ⟨h0, h1, h2, h3, h4, h5, h6⟩ := hk
    exact run_calls k a0_0 l0_1 a1 a2 A0_1 c0_1 w s n hr0_1 hc0_1 h0 h1 h2 h3 h4 h5 h6 hm
  · rw [if_neg hk] at h
    cases h
def seedcornlaw24_awake.f : Option Bool := some true
theorem seedcornlaw24_awake.calls (r : Bool) (w : World) (h : seedcornlaw24_awake.f = some r) : Calls Try.prog 18 #[] w fun e w' => e = .returned (.bool r) ∧ Below w.heap.size w w' := by
  injection h with h
  subst h
  exact awake24_calls w
end Go.Proofs.Ytocnkjhicbmmoaa.Q
