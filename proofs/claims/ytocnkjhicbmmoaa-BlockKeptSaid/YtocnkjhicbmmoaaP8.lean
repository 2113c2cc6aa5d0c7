/- BlockKept, without memory: its Lean function says true of whatever input; so the law's call answers true. -/
import Derived.Test.YtocnkjhicbmmoaaA3
import Derived.Test.YtocnkjhicbmmoaaA9
import Derived.Test.YtocnkjhicbmmoaaA15
import Derived.Test.YtocnkjhicbmmoaaB8
namespace Go.Proofs.Ytocnkjhicbmmoaa.Q
open Go.RowKit Go.Proofs.YtocnkjhicbmmoaaW.PrintWords Go.Proofs.YtocnkjhicbmmoaaW.PrintLast
set_option linter.unusedVariables false
set_option linter.unusedSimpArgs false

theorem fewg_of {f : S35} (h : FewF f) : FewG f := ⟨by have := h.1; omega, fun y hy => by have := h.2 y hy; omega⟩
theorem BlockKept_pure (nw : Int) (fs : List S35) (nw' : Int) (gs : List S35) (hG : ∀ f ∈ fs, G35 f) (hs : fs.length * 32 ≤ reachBytes) (hG' : ∀ f ∈ gs, G35 f) (hs' : gs.length * 32 ≤ reachBytes) : ∃ k, seedcornlaw24_BlockKept.f k nw fs nw' gs = some true := by
  obtain ⟨k1, r, hk1, hr⟩ := few_is (nw := nw) hG hs
  obtain ⟨k2, q, hk2, hq⟩ := few_is (nw := nw') hG' hs'
  have few1 : ∀ k, k1 ≤ k → seedcornlaw24_few.f k nw fs = some r := fun k hk => leO_le (fun k => seedcornlaw24_few.mono _ _ k) hk hk1
  have few2 : ∀ k, k2 ≤ k → seedcornlaw24_few.f k nw' gs = some q := fun k hk => leO_le (fun k => seedcornlaw24_few.mono _ _ k) hk hk2
  cases r with
  | false =>
    refine ⟨k1 + 1, ?_⟩
    unfold seedcornlaw24_BlockKept.f
    rw [few1 _ (by omega)]
    rfl
  | true =>
    cases q with
    | false =>
      refine ⟨max k1 k2 + 1, ?_⟩
      unfold seedcornlaw24_BlockKept.f
      rw [few1 _ (by omega), few2 _ (by omega)]
      rfl
    | true =>
      obtain ⟨hl, hf⟩ := hr rfl
      have hfg : ∀ f ∈ fs, FewG f := fun f h => fewg_of (hf f h)
      obtain ⟨k3, h3⟩ := right_is (nw := nw) hG hs
      obtain ⟨k4, h4⟩ := sp_pair (n := nw) (n' := nw') (m := gs) (show fs.length < 1000 by omega) hfg
      obtain ⟨k5, h5⟩ := blockSize_is (nw := nw) (show fs.length < 1000 by omega) hfg
      obtain ⟨k6, h6⟩ := refSize_is (nw := nw) (show fs.length < 1000 by omega) hfg
      generalize hK : max k1 (max k2 (max k3 (max k4 (max k5 k6)))) = K
      have right : seedcornref24_Right.f K nw fs = some (rightR nw fs) := leO_le (fun k => seedcornref24_Right.mono _ _ k) (by omega) h3
      refine ⟨K + 1, ?_⟩
      unfold seedcornlaw24_BlockKept.f
      rw [few1 _ (by omega), few2 _ (by omega)]
      simp only [Option.bind_some, if_true, Bool.not_true, seedcornlaw24_BlockKept.j0, Bool.false_eq_true, if_false, seedcornlaw24_awake.f, block_Right.f, right, right_eq, beq_self_eq_true, block_Same.f, h4 K (by omega), h5 K (by omega), h6 K (by omega)]
      have e1 : ((nw == nw') && decide (fs = gs)) = decide (nw = nw' ∧ fs = gs) := by
        rw [Bool.eq_iff_iff]; simp
      simp [e1]
theorem walk8 (nw : Int) (A : Option Addr) (c : Nat) (fs : List S35) (nw' : Int) (A' : Option Addr) (c' : Nat) (gs : List S35) (w : World) (hC : Kd.C k35 w A fs.length fs) (hc : fs.length ≤ c) (wn : (Lit.int .i64 nw).wf = true) (sz : fs.length * 32 ≤ reachBytes) (hg : ∀ f ∈ fs, G35 f) (hC' : Kd.C k35 w A' gs.length gs) (hc' : gs.length ≤ c') (wn' : (Lit.int .i64 nw').wf = true) (sz' : gs.length * 32 ≤ reachBytes) (hg' : ∀ f ∈ gs, G35 f) :
    Calls Try.prog 8 #[.agg #[.int .i64 nw, .slice A fs.length c], .agg #[.int .i64 nw', .slice A' gs.length c']] w fun e w' => e = .returned (.bool true) ∧ Below w.heap.size w w' := by
  obtain ⟨k, h⟩ := BlockKept_pure nw fs nw' gs hg sz hg' sz'
  exact seedcornlaw24_BlockKept.calls k nw A c fs nw' A' c' gs w hC hc hC' hc' h
end Go.Proofs.Ytocnkjhicbmmoaa.Q
