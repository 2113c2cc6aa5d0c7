/- block.Right: whether a program may be. -/
import Derived.Test.YtocnkjhicbmmoaaN5
namespace Go.Proofs.Ytocnkjhicbmmoaa.Q
open Go.RowKit Go.Proofs.YtocnkjhicbmmoaaW.PrintWords Go.Proofs.YtocnkjhicbmmoaaW.PrintLast
set_option linter.unusedVariables false
set_option linter.unusedSimpArgs false

def blkB (tb : Int → Int → S44 → Bool) (fi : Int) (f : S35) (x : S41) : Bool := endB f.f1.length f.f0 x.f1 x.f2 x.f3 x.f4 && x.f0.all (fun t => tb f.f0 fi t)
def fnB (tb : Int → Int → S44 → Bool) (fi : Int) (f : S35) : Bool := decide (0 ≤ f.f0) && (decide (f.f0 ≤ 4000) && (decide (0 < f.f1.length) && f.f1.all (blkB tb fi f)))
def rightBy (tb : Int → Int → S44 → Bool) (nw : Int) (fs : List S35) : Bool := decide (0 ≤ nw) && (decide (nw ≤ 1048576) && (decide (0 < fs.length) && (List.range fs.length).all fun i => fnB tb i (fs.getD i z35)))
theorem rightB_true {tb : Int → Int → S44 → Bool} {nw : Int} {fs : List S35} : rightBy tb nw fs = true ↔ 0 ≤ nw ∧ nw ≤ 1048576 ∧ 0 < fs.length ∧ ∀ i, i < fs.length → fnB tb i (fs.getD i z35) = true := by
  simp [rightBy]
theorem rightB_at {tb : Int → Int → S44 → Bool} {nw : Int} {fs : List S35} {i : Nat} (hi : i < fs.length) (h : fnB tb i (fs.getD i z35) = false) : rightBy tb nw fs = false := by
  rw [Bool.eq_false_iff]
  intro hr
  have := (rightB_true.1 hr).2.2.2 i hi
  rw [h] at this
  cases this
theorem fnB_at {tb : Int → Int → S44 → Bool} {fi : Int} {f : S35} {j : Nat} (hj : j < f.f1.length) (h : blkB tb fi f (f.f1.getD j z41) = false) : fnB tb fi f = false := by
  rw [Bool.eq_false_iff]
  intro hr
  simp only [fnB, Bool.and_eq_true, List.all_eq_true] at hr
  have := hr.2.2.2 (f.f1.getD j z41) (by rw [List.getD_eq_getElem?_getD, List.getElem?_eq_getElem hj]; exact List.getElem_mem hj)
  rw [h] at this
  cases this
theorem fnB_of {tb : Int → Int → S44 → Bool} {fi : Int} {f : S35} (h0 : 0 ≤ f.f0) (h1 : f.f0 ≤ 4000) (h2 : 0 < f.f1.length) (h : ∀ j, j < f.f1.length → blkB tb fi f (f.f1.getD j z41) = true) : fnB tb fi f = true := by
  simp only [fnB, Bool.and_eq_true, List.all_eq_true, decide_eq_true_eq]
  refine ⟨h0, h1, h2, fun x hx => ?_⟩
  obtain ⟨j, hj, rfl⟩ := List.mem_iff_getElem.1 hx
  have := h j hj
  rwa [List.getD_eq_getElem?_getD, List.getElem?_eq_getElem hj] at this

set_option maxHeartbeats 8000000 in
set_option maxRecDepth 100000 in
theorem right_by (tb : Int → Int → S44 → Bool) (nw : Int) (fs : List S35) (A : Option Addr) (c : Nat) (hok : 0 ≤ nw → nw ≤ 1048576 → TacOk nw fs A c tb) (w : World) (hC : Kd.C k35 w A fs.length fs) (hc : fs.length ≤ c) :
    Calls Try.prog 22 #[.agg #[.int .i64 nw, .slice A fs.length c]] w fun e w' => e = .returned (.bool (rightBy tb nw fs)) ∧ Below w.heap.size w w' := by
  have HC := Aside0.mk hC
  have hlen := hC.2.1
  have HOK := Aside0.mk hok
  clear hC hc hok
  by_cases c0 : 0 ≤ nw
  case neg =>
    have b0 : decide (nw < 0) = true := by simp; omega
    have HR := Aside0.mk (show rightBy tb nw fs = false by simp [rightBy]; omega)
    clear c0
    go_enter Try.func22, Try.ntmps22
    go_wp2
    repeat (go_quiet (fail); try go_wp2)
    go_ret
    exact ⟨by rw [HR.out]; rfl, below_alloc (Below.refl _ _) _⟩
  have b0 : decide (nw < 0) = false := by simp; omega
  by_cases c1 : nw ≤ 1048576
  case neg =>
    have b1 : decide (1048576 < nw) = true := by simp; omega
    have HR := Aside0.mk (show rightBy tb nw fs = false by simp [rightBy]; omega)
    clear c0 c1
    go_enter Try.func22, Try.ntmps22
    go_wp2
    repeat (go_quiet (fail); try go_wp2)
    go_ret
    exact ⟨by rw [HR.out]; rfl, below_alloc (Below.refl _ _) _⟩
  have b1 : decide (1048576 < nw) = false := by simp; omega
  by_cases c2 : 0 < fs.length
  case neg =>
    have b2 : ((fs.length : Int) == 0) = true := beq_iff_eq.2 (by omega)
    have HR := Aside0.mk (show rightBy tb nw fs = false by rw [Bool.eq_false_iff]; intro h; exact c2 (rightB_true.1 h).2.2.1)
    clear c0 c1 c2
    go_enter Try.func22, Try.ntmps22
    go_wp2
    repeat (go_quiet (fail); try go_wp2)
    go_ret
    exact ⟨by rw [HR.out]; rfl, below_alloc (Below.refl _ _) _⟩
  have b2 : ((fs.length : Int) == 0) = false := beq_eq_false_iff_ne.2 (by omega)
  have C0 := Aside0.mk c0
  have C1 := Aside0.mk c1
  have C2 := Aside0.mk c2
  clear c0 c1 c2
  go_enter Try.func22, Try.ntmps22
  go_wp2
  repeat (go_quiet (fail); try go_wp2)
  go_loopw [24] (fun v24 w' => ∃ i : Nat, i ≤ fs.length ∧ v24 = .int .i64 i ∧ Aside0 (∀ j, j < i → fnB tb j (fs.getD j z35) = true) ∧ Aside0 (w'.heap[w.heap.size]? = some (.cells #[.int .i64 nw, .slice A fs.length c] 24 (0, 0))) ∧ Aside0 (Below w.heap.size w w')) (fun v24 _ => fs.length - (intOf v24).toNat)
  case atStart => exact ⟨0, Nat.zero_le _, rfl, ⟨fun j hj => by omega⟩, ⟨by repeat (first | exact blk_new _ _ | refine blk_drewN ?_ _ | refine blk_drew ?_)⟩, ⟨by repeat (first | exact below_alloc (Below.refl _ _) _ | refine pw_below_drewN ?_ _ | refine below_drew1 ?_)⟩⟩
  case round =>
    clear b0 b1 b2
    obtain ⟨i, hi, rfl, HJ, HBX, HD⟩ := hrel
    by_cases hlt : i < fs.length
    · obtain ⟨ad, A1, c1, rfl, e0, e1, l1, g1⟩ := at_T35 HC.out i (by omega) (by omega)
      have e0 := pw_cell_below HD.out e0
      have e1 := pw_cell_below HD.out e1
      have hrd : rd_T35 fs i = fs.getD i z35 := by simp [rd_T35]
      obtain ⟨f, hf⟩ : ∃ f, f = rd_T35 fs i := ⟨_, rfl⟩
      rw [← hf] at e0 e1 l1 g1
      simp only [Int.toNat_natCast] at e0 e1
      have HF := Aside0.mk hf
      have HF2 := Aside0.mk (hf.trans hrd)
      have hlen1 := g1.2.1
      have G1 := Aside0.mk g1
      clear hf hrd l1 g1
      by_cases q0 : 0 ≤ f.f0
      case neg =>
        have b0 : decide (f.f0 < 0) = true := by simp; omega
        have HR := Aside0.mk (show rightBy tb nw fs = false from rightB_at hlt (by rw [← HF2.out]; simp [fnB]; omega))
        clear q0
        go_wp2
        repeat (go_quiet (fail); try go_wp2)
        go_ret
        exact ⟨by rw [HR.out]; rfl, by repeat (first | exact HD.out | refine below_alloc ?_ _ | refine pw_below_drewN ?_ _ | refine below_drew1 ?_)⟩
      have b0 : decide (f.f0 < 0) = false := by simp; omega
      by_cases q1 : f.f0 ≤ 4000
      case neg =>
        have b1 : decide (4000 < f.f0) = true := by simp; omega
        have HR := Aside0.mk (show rightBy tb nw fs = false from rightB_at hlt (by rw [← HF2.out]; simp [fnB]; omega))
        clear q0 q1
        go_wp2
        repeat (go_quiet (fail); try go_wp2)
        go_ret
        exact ⟨by rw [HR.out]; rfl, by repeat (first | exact HD.out | refine below_alloc ?_ _ | refine pw_below_drewN ?_ _ | refine below_drew1 ?_)⟩
      have b1 : decide (4000 < f.f0) = false := by simp; omega
      by_cases q2 : 0 < f.f1.length
      case neg =>
        have b2 : ((f.f1.length : Int) == 0) = true := beq_iff_eq.2 (by omega)
        have HR := Aside0.mk (show rightBy tb nw fs = false from rightB_at hlt (by rw [← HF2.out]; rw [Bool.eq_false_iff]; intro h; simp only [fnB, Bool.and_eq_true, decide_eq_true_eq] at h; exact q2 h.2.2.1))
        clear q0 q1 q2
        go_wp2
        repeat (go_quiet (fail); try go_wp2)
        go_ret
        exact ⟨by rw [HR.out]; rfl, by repeat (first | exact HD.out | refine below_alloc ?_ _ | refine pw_below_drewN ?_ _ | refine below_drew1 ?_)⟩
      have b2 : ((f.f1.length : Int) == 0) = false := beq_eq_false_iff_ne.2 (by omega)
      have Q0 := Aside0.mk q0
      have Q1 := Aside0.mk q1
      have Q2 := Aside0.mk q2
      clear q0 q1 q2
      have HT := two_new wr (.cells #[.int .i64 i] 3) (.cells #[.int .i64 f.f0, .slice A1 f.f1.length c1] 35)
      obtain ⟨t1, t2⟩ := HT
      have RB0 := Aside0.mk (show RB w ((wr.alloc (.cells #[.int .i64 i] 3)).alloc (.cells #[.int .i64 f.f0, .slice A1 f.f1.length c1] 35)) nw fs (some ad) c i w.heap.size wr.heap.size from ⟨HC.out, blk_alloc (blk_alloc HBX.out _) _, t1, below_alloc (below_alloc HD.out _) _⟩)
      have T2 := Aside0.mk t2
      obtain ⟨wo, rfl⟩ : ∃ wo : World, wo = wr := ⟨_, rfl⟩
      clear t1 t2
      go_wp2
      repeat (go_quiet (fail); try go_wp2)
      go_loopw [46] (fun v46 w' => ∃ j : Nat, j ≤ f.f1.length ∧ v46 = .int .i64 j ∧ Aside0 (∀ q, q < j → blkB tb i f (f.f1.getD q z41) = true) ∧ Aside0 (RB w w' nw fs (some ad) c i w.heap.size wo.heap.size) ∧ Aside0 (w'.heap[wo.heap.size + 1]? = some (.cells #[.int .i64 f.f0, .slice A1 f.f1.length c1] 35 (0, 0)))) (fun v46 _ => f.f1.length - (intOf v46).toNat)
      case atStart => exact ⟨0, Nat.zero_le _, rfl, ⟨fun q hq => by omega⟩, RB0, T2⟩
      case round =>
        clear RB0 T2 b0 b1 b2 e0 e1
        obtain ⟨j, hj, rfl, HK, HRB, HFX⟩ := hrel
        by_cases hjt : j < f.f1.length
        · obtain ⟨ad2, A0, n0, rfl, d0, d1, d2, d3, d4, l0, g0⟩ := at_T41 G1.out j (by omega) (by omega)
          have d0 := pw_cell_below HRB.out.low d0
          have d1 := pw_cell_below HRB.out.low d1
          have d2 := pw_cell_below HRB.out.low d2
          have d3 := pw_cell_below HRB.out.low d3
          have d4 := pw_cell_below HRB.out.low d4
          have hrd2 : rd_T41 f.f1 j = f.f1.getD j z41 := by simp [rd_T41]
          obtain ⟨x, hx⟩ : ∃ x, x = rd_T41 f.f1 j := ⟨_, rfl⟩
          rw [← hx] at d0 d1 d2 d3 d4 l0 g0
          simp only [Int.toNat_natCast] at d0 d1 d2 d3 d4
          have HX2 := Aside0.mk (hx.trans hrd2)
          have HXM := Aside0.mk (show x ∈ f.f1 by rw [hx.trans hrd2, List.getD_eq_getElem?_getD, List.getElem?_eq_getElem hjt]; exact List.getElem_mem hjt)
          have G0 := Aside0.mk g0
          have fx0 := (blk_cell HFX.out 0).trans rfl
          have fx1 := (blk_cell HFX.out 1).trans rfl
          have fxl := blk_lt HFX.out
          clear hx hrd2 l0 g0
          cases hen : endB f.f1.length f.f0 x.f1 x.f2 x.f3 x.f4 with
          | false =>
            have HE := Aside0.mk hen
            clear hen
            have HR := Aside0.mk (show rightBy tb nw fs = false from rightB_at hlt (by rw [← HF2.out]; exact fnB_at hjt (by rw [← HX2.out]; simp [blkB, HE.out])))
            go_wp2_with fail
            with_reducible refine (end_calls f.f0 (some ad2) f.f1.length c1 A0 x.f0.length n0 x.f1 x.f2 x.f3 x.f4 _ false HE.out.symm).mono ?_
            rintro e w3 ⟨rfl, hb3⟩
            have HB3 := Aside0.mk hb3
            clear hb3
            go_wp2
            repeat (go_quiet (fail); try go_wp2)
            go_ret
            refine ⟨by rw [HR.out]; rfl, ?_⟩
            repeat (first | exact below_step (below_alloc HRB.out.low _) HB3.out | refine below_alloc ?_ _ | refine pw_below_drewN ?_ _ | refine below_drew1 ?_)
          | true =>
            have HE := Aside0.mk hen
            clear hen
            obtain ⟨q, hq⟩ : ∃ q, x.f0.all (fun t => tb f.f0 i t) = !q := ⟨!x.f0.all (fun t => tb f.f0 i t), by simp⟩
            have HQ := Aside0.mk hq
            clear hq
            go_wp2_with fail
            with_reducible refine (end_calls f.f0 (some ad2) f.f1.length c1 A0 x.f0.length n0 x.f1 x.f2 x.f3 x.f4 _ true HE.out.symm).mono ?_
            rintro e w3 ⟨rfl, hb3⟩
            have X3 := Aside0.mk (blk_below (blk_new wr (.cells #[.slice A0 x.f0.length n0, .int .i64 x.f1, .int .i64 x.f2, .int .i64 x.f3, .int .i64 x.f4] 41)) hb3)
            have HB3 := Aside0.mk hb3
            have x30 := (blk_cell X3.out 0).trans rfl
            have HR3 := Aside0.mk ((HRB.out.move (below_alloc (Below.refl _ _) _)).move hb3)
            have HF3 := Aside0.mk (blk_below (blk_alloc HFX.out _) hb3)
            clear hb3
            go_wp2_with fail
            have hf0 : f.f0 = (rd_T35 fs i).f0 := by rw [HF.out]
            with_reducible refine (has_tac tb w nw fs (some ad) c i w.heap.size wo.heap.size x.f0 A0 n0 _ ?hrb ?hxc (by omega) (by omega) (HOK.out C0.out C1.out) ?hsub q ?hqq).mono ?_
            case hsub => intro t ht; exact ⟨x, by rw [← HF.out]; exact HXM.out, ht⟩
            case hrb => exact HR3.out
            case hxc => exact Kd.C_below G0.out HR3.out.low
            case hqq => rw [← hf0]; exact HQ.out
            rintro e w4 ⟨rfl, hb4⟩
            have HR4 := Aside0.mk (HR3.out.move hb4)
            have HF4 := Aside0.mk (blk_below HF3.out hb4)
            clear hb4 hf0
            cases q with
            | true =>
              have HR := Aside0.mk (show rightBy tb nw fs = false from rightB_at hlt (by rw [← HF2.out]; exact fnB_at hjt (by rw [← HX2.out]; simp only [blkB]; rw [HQ.out]; simp)))
              go_wp2
              repeat (go_quiet (fail); try go_wp2)
              go_ret
              refine ⟨by rw [HR.out]; rfl, ?_⟩
              repeat (first | exact HR4.out.low | refine below_alloc ?_ _ | refine pw_below_drewN ?_ _ | refine below_drew1 ?_)
            | false =>
              have HBK := Aside0.mk (show blkB tb i f (f.f1.getD j z41) = true by rw [← HX2.out]; simp only [blkB]; rw [HE.out, HQ.out]; rfl)
              go_wp2
              repeat (go_quiet (fail); try go_wp2)
              go_roundw
              case rel => exact ⟨j + 1, by omega, by go_num, ⟨fun q hq => by rcases Nat.lt_or_ge q j with h | h; { exact HK.out q h }; { rw [show q = j by omega]; exact HBK.out }⟩, HR4, HF4⟩
              case measure => simp [intOf]; omega
        · have hge : j = f.f1.length := by omega
          have hK := HK.out
          rw [hge] at hK
          have HFN := Aside0.mk (show fnB tb i (fs.getD i z35) = true by rw [← HF2.out]; exact fnB_of Q0.out Q1.out Q2.out hK)
          have hn : ¬ (j : Int) < (f.f1.length : Int) := by omega
          clear hge hj hK
          go_wp2
          go_roundw
          case rel => exact ⟨i + 1, by omega, by go_num, ⟨fun q hq => by rcases Nat.lt_or_ge q i with h | h; { exact HJ.out q h }; { rw [show q = i by omega]; exact HFN.out }⟩, ⟨HRB.out.b1⟩, ⟨HRB.out.low⟩⟩
          case measure => simp [intOf]; omega
    · have hge : i = fs.length := by omega
      have hJ := HJ.out
      rw [hge] at hJ
      have HJ2 := Aside0.mk hJ
      have hn : ¬ (i : Int) < (fs.length : Int) := by omega
      clear hge hi hJ
      go_wp2
      go_ret
      exact ⟨by rw [rightB_true.2 ⟨C0.out, C1.out, C2.out, HJ2.out⟩]; rfl, HD.out⟩
end Go.Proofs.Ytocnkjhicbmmoaa.Q
