/- seedcornref24.Run's contract in the form of the print's. -/
import Derived.Test.YtocnkjhicbmmoaaR7
import Derived.Test.YtocnkjhicbmmoaaA6
namespace Go.Proofs.Ytocnkjhicbmmoaa.Q
open Go.RowKit Go.Proofs.YtocnkjhicbmmoaaW.PrintWords Go.Proofs.YtocnkjhicbmmoaaW.PrintLast
set_option linter.unusedVariables false
set_option linter.unusedSimpArgs false

theorem refApp_ok : AppOk refApp := fun op a b v e0 h W => seedcornref01_Apply.calls 60 op a b v e0 W h
def RefOk (nw : Int) (fs : List S35) (fuel : Int) : Prop := 0 ≤ nw ∧ nw * 4 ≤ 281474976710656 ∧ 0 < fs.length ∧ fs.length ≤ 1000000 ∧ fuel ≤ 1000000
instance (nw : Int) (fs : List S35) (fuel : Int) : Decidable (RefOk nw fs fuel) := by unfold RefOk; infer_instance
def seedcornref24_Run.f (k : Nat) (nw : Int) (fs : List S35) (inp : ByteArray) (fuel : Int) : Option (Int × ByteArray × Int) :=
  if RefOk nw fs fuel then (rfun refApp inp fs (if fuel < 0 then 0 else fuel) k ⟨List.replicate nw.toNat 0, [], 0, 0, 0⟩ (fs.length - 1)).bind fun s => some (rEnd s.en, strOfNums s.out, s.steps) else none
theorem seedcornref24_Run.calls (k : Nat) (a0_0 : Int) (A0_1 : Option Addr) (c0_1 : Nat) (l0_1 : List S35) (a1 : ByteArray) (a2 : Int) (r1 : Int) (r2 : ByteArray) (r3 : Int) (w : World) (hr0_1 : Kd.C k35 w A0_1 l0_1.length l0_1) (hc0_1 : l0_1.length ≤ c0_1) (h : seedcornref24_Run.f k a0_0 l0_1 a1 a2 = some (r1, r2, r3)) :
    Calls Try.prog 20 #[.agg #[.int .i64 a0_0, .slice A0_1 l0_1.length c0_1], .string a1, .int .i64 a2] w fun e w' => e = .returned (.agg #[.int .i64 r1, .string r2, .int .i64 r3]) ∧ Below w.heap.size w w' := by
  unfold seedcornref24_Run.f at h
  by_cases hk : RefOk a0_0 l0_1 a2
  · rw [if_pos hk] at h
    obtain ⟨s, hm, he⟩ := Option.bind_eq_some_iff.1 h
    simp only [Option.some.injEq, Prod.mk.injEq] at he
    obtain ⟨rfl, rfl, rfl⟩ := he
    obtain ⟨h0, h1, h2, h3, h4⟩ := hk
    by_cases hn : a2 < 0
    · rw [if_pos hn] at hm
      exact rrun_neg refApp refApp_ok k a0_0 l0_1 a1 a2 A0_1 c0_1 w s hr0_1 hc0_1 h0 h1 h2 h3 hn hm
    · rw [if_neg hn] at hm
      exact rrun_calls refApp refApp_ok k a0_0 l0_1 a1 a2 A0_1 c0_1 w s hr0_1 hc0_1 h0 h1 h2 h3 h4 (by omega) hm
  · rw [if_neg hk] at h
    cases h
end Go.Proofs.Ytocnkjhicbmmoaa.Q
