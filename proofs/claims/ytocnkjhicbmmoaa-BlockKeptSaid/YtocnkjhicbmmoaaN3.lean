/- block.end: whether a block's end may be. -/
import Derived.Test.YtocnkjhicbmmoaaN1
namespace Go.Proofs.Ytocnkjhicbmmoaa.Q
open Go.RowKit Go.Proofs.YtocnkjhicbmmoaaW.PrintWords Go.Proofs.YtocnkjhicbmmoaaW.PrintLast
set_option linter.unusedVariables false
set_option linter.unusedSimpArgs false

def isB (nb n : Int) : Bool := decide (0 ≤ n) && decide (n < nb)
def endB (nb regs en v tgt el : Int) : Bool :=
  if en = 1 then isB nb tgt && ((v == 0) && (el == 0))
  else if en = 2 then isB nb tgt && (isB nb el && (decide (0 ≤ v) && decide (v < regs)))
  else if en = 3 then (v == 0) && ((tgt == 0) && (el == 0))
  else false

set_option maxHeartbeats 8000000 in
set_option maxRecDepth 100000 in
theorem end1_calls (n : Int) (nb : Nat) (B : Nat) (A : Option Addr) (c : Nat) (w : World) (hc : w.cell? ⟨B, 1, none⟩ = some (.slice A nb c)) (q : Bool) (hq : isB nb n = q) :
    Calls Try.prog 74 #[.int .i64 n, .pointer (some ⟨B, 0, none⟩)] w fun e w' => e = .returned (.bool q) ∧ Drawn0 w w' := by
  by_cases h0 : 0 ≤ n
  · have d0 : decide (0 ≤ n) = true := decide_eq_true h0
    by_cases h1 : n < (nb : Int)
    · have d1 : decide (n < (nb : Int)) = true := decide_eq_true h1
      have hr := Aside0.mk (show q = true by rw [← hq]; simp [isB, d0, d1])
      clear h1 h0 hq
      go_enter Try.func74, Try.ntmps74
      go_wp2
      repeat (go_quiet (fail); try go_wp2)
      go_ret
      rw [hr.out]
      exact ⟨rfl, by repeat (first | exact Drawn0.refl _ | refine Drawn0.step ?_ _)⟩
    · have d1 : decide (n < (nb : Int)) = false := decide_eq_false h1
      have hr := Aside0.mk (show q = false by rw [← hq]; simp [isB, d0, d1])
      clear h1 h0 hq
      go_enter Try.func74, Try.ntmps74
      go_wp2
      repeat (go_quiet (fail); try go_wp2)
      go_ret
      rw [hr.out]
      exact ⟨rfl, by repeat (first | exact Drawn0.refl _ | refine Drawn0.step ?_ _)⟩
  · have d0 : decide (0 ≤ n) = false := decide_eq_false h0
    have hr := Aside0.mk (show q = false by rw [← hq]; simp [isB, d0])
    clear h0 hq
    go_enter Try.func74, Try.ntmps74
    go_wp2
    repeat (go_quiet (fail); try go_wp2)
    go_ret
    rw [hr.out]
    exact ⟨rfl, by repeat (first | exact Drawn0.refl _ | refine Drawn0.step ?_ _)⟩

set_option maxHeartbeats 8000000 in
set_option maxRecDepth 100000 in
theorem end_calls (regs : Int) (A : Option Addr) (nb c : Nat) (A0 : Option Addr) (n0 c0 : Nat) (en v tgt el : Int) (w : World) (q : Bool) (hq : q = endB nb regs en v tgt el) :
    Calls Try.prog 47 #[.agg #[.int .i64 regs, .slice A nb c], .agg #[.slice A0 n0 c0, .int .i64 en, .int .i64 v, .int .i64 tgt, .int .i64 el]] w fun e w' => e = .returned (.bool q) ∧ Below w.heap.size w w' := by
  have HQ := Aside0.mk hq
  clear hq
  have HT := Aside0.mk (two_new w (.cells #[.int .i64 regs, .slice A nb c] 35) (.cells #[.slice A0 n0 c0, .int .i64 en, .int .i64 v, .int .i64 tgt, .int .i64 el] 41)).1
  by_cases e1 : en = 1
  · have b1 : (en == 1) = true := beq_iff_eq.2 e1
    have HE := Aside0.mk e1
    clear e1
    cases hC1 : isB nb tgt with
    | false =>
      have C1 := Aside0.mk hC1
      clear hC1
      go_enter Try.func47, Try.ntmps47
      go_wp2_with fail
      with_reducible refine (end1_calls tgt nb w.heap.size A c _ ?y2 _ C1.out).mono ?_
      case y2 => exact ((blk_cell (by repeat (first | exact HT.out | refine blk_drewN ?_ _ | refine blk_drew ?_ | refine blk_alloc ?_ _)) 1).trans rfl)
      rintro e wC1 ⟨rfl, hdC1⟩
      obtain ⟨kC1, rfl⟩ := hdC1.out
      go_wp2_with fail
      repeat (go_quiet (fail); try go_wp2)
      go_ret
      refine ⟨?_, by repeat (first | exact Below.refl _ _ | apply below_drew1 | apply pw_below_drewN | apply below_alloc)⟩
      rw [HQ.out]
      simp [endB, HE.out, C1.out]
    | true =>
      have C1 := Aside0.mk hC1
      clear hC1
      cases c3 : (v == 0) with
      | false =>
        have Hc3 := Aside0.mk c3
        go_enter Try.func47, Try.ntmps47
        go_wp2_with fail
        with_reducible refine (end1_calls tgt nb w.heap.size A c _ ?y4 _ C1.out).mono ?_
        case y4 => exact ((blk_cell (by repeat (first | exact HT.out | refine blk_drewN ?_ _ | refine blk_drew ?_ | refine blk_alloc ?_ _)) 1).trans rfl)
        rintro e wC1 ⟨rfl, hdC1⟩
        obtain ⟨kC1, rfl⟩ := hdC1.out
        go_wp2_with fail
        repeat (go_quiet (fail); try go_wp2)
        go_ret
        refine ⟨?_, by repeat (first | exact Below.refl _ _ | apply below_drew1 | apply pw_below_drewN | apply below_alloc)⟩
        rw [HQ.out]
        simp [endB, HE.out, C1.out, Hc3.out]
      | true =>
        have Hc3 := Aside0.mk c3
        cases c5 : (el == 0) with
        | false =>
          have Hc5 := Aside0.mk c5
          go_enter Try.func47, Try.ntmps47
          go_wp2_with fail
          with_reducible refine (end1_calls tgt nb w.heap.size A c _ ?y6 _ C1.out).mono ?_
          case y6 => exact ((blk_cell (by repeat (first | exact HT.out | refine blk_drewN ?_ _ | refine blk_drew ?_ | refine blk_alloc ?_ _)) 1).trans rfl)
          rintro e wC1 ⟨rfl, hdC1⟩
          obtain ⟨kC1, rfl⟩ := hdC1.out
          go_wp2_with fail
          repeat (go_quiet (fail); try go_wp2)
          go_ret
          refine ⟨?_, by repeat (first | exact Below.refl _ _ | apply below_drew1 | apply pw_below_drewN | apply below_alloc)⟩
          rw [HQ.out]
          simp [endB, HE.out, C1.out, Hc3.out, Hc5.out]
        | true =>
          have Hc5 := Aside0.mk c5
          go_enter Try.func47, Try.ntmps47
          go_wp2_with fail
          with_reducible refine (end1_calls tgt nb w.heap.size A c _ ?y7 _ C1.out).mono ?_
          case y7 => exact ((blk_cell (by repeat (first | exact HT.out | refine blk_drewN ?_ _ | refine blk_drew ?_ | refine blk_alloc ?_ _)) 1).trans rfl)
          rintro e wC1 ⟨rfl, hdC1⟩
          obtain ⟨kC1, rfl⟩ := hdC1.out
          go_wp2_with fail
          repeat (go_quiet (fail); try go_wp2)
          go_ret
          refine ⟨?_, by repeat (first | exact Below.refl _ _ | apply below_drew1 | apply pw_below_drewN | apply below_alloc)⟩
          rw [HQ.out]
          simp [endB, HE.out, C1.out, Hc3.out, Hc5.out]
  have b1 : (en == 1) = false := beq_eq_false_iff_ne.2 e1
  by_cases e2 : en = 2
  · have b2 : (en == 2) = true := beq_iff_eq.2 e2
    have HE := Aside0.mk e2
    clear e1
    clear e2
    cases hC8 : isB nb tgt with
    | false =>
      have C8 := Aside0.mk hC8
      clear hC8
      go_enter Try.func47, Try.ntmps47
      go_wp2_with fail
      with_reducible refine (end1_calls tgt nb w.heap.size A c _ ?y9 _ C8.out).mono ?_
      case y9 => exact ((blk_cell (by repeat (first | exact HT.out | refine blk_drewN ?_ _ | refine blk_drew ?_ | refine blk_alloc ?_ _)) 1).trans rfl)
      rintro e wC8 ⟨rfl, hdC8⟩
      obtain ⟨kC8, rfl⟩ := hdC8.out
      go_wp2_with fail
      repeat (go_quiet (fail); try go_wp2)
      go_ret
      refine ⟨?_, by repeat (first | exact Below.refl _ _ | apply below_drew1 | apply pw_below_drewN | apply below_alloc)⟩
      rw [HQ.out]
      simp [endB, HE.out, C8.out]
    | true =>
      have C8 := Aside0.mk hC8
      clear hC8
      cases hC10 : isB nb el with
      | false =>
        have C10 := Aside0.mk hC10
        clear hC10
        go_enter Try.func47, Try.ntmps47
        go_wp2_with fail
        with_reducible refine (end1_calls tgt nb w.heap.size A c _ ?y11 _ C8.out).mono ?_
        case y11 => exact ((blk_cell (by repeat (first | exact HT.out | refine blk_drewN ?_ _ | refine blk_drew ?_ | refine blk_alloc ?_ _)) 1).trans rfl)
        rintro e wC8 ⟨rfl, hdC8⟩
        obtain ⟨kC8, rfl⟩ := hdC8.out
        go_wp2_with fail
        with_reducible refine (end1_calls el nb w.heap.size A c _ ?y12 _ C10.out).mono ?_
        case y12 => exact ((blk_cell (by repeat (first | exact HT.out | refine blk_drewN ?_ _ | refine blk_drew ?_ | refine blk_alloc ?_ _)) 1).trans rfl)
        rintro e wC10 ⟨rfl, hdC10⟩
        obtain ⟨kC10, rfl⟩ := hdC10.out
        go_wp2_with fail
        repeat (go_quiet (fail); try go_wp2)
        go_ret
        refine ⟨?_, by repeat (first | exact Below.refl _ _ | apply below_drew1 | apply pw_below_drewN | apply below_alloc)⟩
        rw [HQ.out]
        simp [endB, HE.out, C8.out, C10.out]
      | true =>
        have C10 := Aside0.mk hC10
        clear hC10
        cases c13 : decide (0 ≤ v) with
        | false =>
          have Hc13 := Aside0.mk c13
          go_enter Try.func47, Try.ntmps47
          go_wp2_with fail
          with_reducible refine (end1_calls tgt nb w.heap.size A c _ ?y14 _ C8.out).mono ?_
          case y14 => exact ((blk_cell (by repeat (first | exact HT.out | refine blk_drewN ?_ _ | refine blk_drew ?_ | refine blk_alloc ?_ _)) 1).trans rfl)
          rintro e wC8 ⟨rfl, hdC8⟩
          obtain ⟨kC8, rfl⟩ := hdC8.out
          go_wp2_with fail
          with_reducible refine (end1_calls el nb w.heap.size A c _ ?y15 _ C10.out).mono ?_
          case y15 => exact ((blk_cell (by repeat (first | exact HT.out | refine blk_drewN ?_ _ | refine blk_drew ?_ | refine blk_alloc ?_ _)) 1).trans rfl)
          rintro e wC10 ⟨rfl, hdC10⟩
          obtain ⟨kC10, rfl⟩ := hdC10.out
          go_wp2_with fail
          repeat (go_quiet (fail); try go_wp2)
          go_ret
          refine ⟨?_, by repeat (first | exact Below.refl _ _ | apply below_drew1 | apply pw_below_drewN | apply below_alloc)⟩
          rw [HQ.out]
          simp [endB, HE.out, C8.out, C10.out, Hc13.out]
        | true =>
          have Hc13 := Aside0.mk c13
          cases c16 : decide (v < regs) with
          | false =>
            have Hc16 := Aside0.mk c16
            go_enter Try.func47, Try.ntmps47
            go_wp2_with fail
            with_reducible refine (end1_calls tgt nb w.heap.size A c _ ?y17 _ C8.out).mono ?_
            case y17 => exact ((blk_cell (by repeat (first | exact HT.out | refine blk_drewN ?_ _ | refine blk_drew ?_ | refine blk_alloc ?_ _)) 1).trans rfl)
            rintro e wC8 ⟨rfl, hdC8⟩
            obtain ⟨kC8, rfl⟩ := hdC8.out
            go_wp2_with fail
            with_reducible refine (end1_calls el nb w.heap.size A c _ ?y18 _ C10.out).mono ?_
            case y18 => exact ((blk_cell (by repeat (first | exact HT.out | refine blk_drewN ?_ _ | refine blk_drew ?_ | refine blk_alloc ?_ _)) 1).trans rfl)
            rintro e wC10 ⟨rfl, hdC10⟩
            obtain ⟨kC10, rfl⟩ := hdC10.out
            go_wp2_with fail
            repeat (go_quiet (fail); try go_wp2)
            go_ret
            refine ⟨?_, by repeat (first | exact Below.refl _ _ | apply below_drew1 | apply pw_below_drewN | apply below_alloc)⟩
            rw [HQ.out]
            simp [endB, HE.out, C8.out, C10.out, Hc13.out, Hc16.out]
          | true =>
            have Hc16 := Aside0.mk c16
            go_enter Try.func47, Try.ntmps47
            go_wp2_with fail
            with_reducible refine (end1_calls tgt nb w.heap.size A c _ ?y19 _ C8.out).mono ?_
            case y19 => exact ((blk_cell (by repeat (first | exact HT.out | refine blk_drewN ?_ _ | refine blk_drew ?_ | refine blk_alloc ?_ _)) 1).trans rfl)
            rintro e wC8 ⟨rfl, hdC8⟩
            obtain ⟨kC8, rfl⟩ := hdC8.out
            go_wp2_with fail
            with_reducible refine (end1_calls el nb w.heap.size A c _ ?y20 _ C10.out).mono ?_
            case y20 => exact ((blk_cell (by repeat (first | exact HT.out | refine blk_drewN ?_ _ | refine blk_drew ?_ | refine blk_alloc ?_ _)) 1).trans rfl)
            rintro e wC10 ⟨rfl, hdC10⟩
            obtain ⟨kC10, rfl⟩ := hdC10.out
            go_wp2_with fail
            repeat (go_quiet (fail); try go_wp2)
            go_ret
            refine ⟨?_, by repeat (first | exact Below.refl _ _ | apply below_drew1 | apply pw_below_drewN | apply below_alloc)⟩
            rw [HQ.out]
            simp [endB, HE.out, C8.out, C10.out, Hc13.out, Hc16.out]
  have b2 : (en == 2) = false := beq_eq_false_iff_ne.2 e2
  by_cases e3 : en = 3
  · have b3 : (en == 3) = true := beq_iff_eq.2 e3
    have HE := Aside0.mk e3
    clear e1
    clear e2
    clear e3
    cases c21 : (v == 0) with
    | false =>
      have Hc21 := Aside0.mk c21
      go_enter Try.func47, Try.ntmps47
      go_wp2
      repeat (go_quiet (fail); try go_wp2)
      go_ret
      refine ⟨?_, by repeat (first | exact Below.refl _ _ | apply below_drew1 | apply pw_below_drewN | apply below_alloc)⟩
      rw [HQ.out]
      simp [endB, HE.out, Hc21.out]
    | true =>
      have Hc21 := Aside0.mk c21
      cases c22 : (tgt == 0) with
      | false =>
        have Hc22 := Aside0.mk c22
        go_enter Try.func47, Try.ntmps47
        go_wp2
        repeat (go_quiet (fail); try go_wp2)
        go_ret
        refine ⟨?_, by repeat (first | exact Below.refl _ _ | apply below_drew1 | apply pw_below_drewN | apply below_alloc)⟩
        rw [HQ.out]
        simp [endB, HE.out, Hc21.out, Hc22.out]
      | true =>
        have Hc22 := Aside0.mk c22
        cases c23 : (el == 0) with
        | false =>
          have Hc23 := Aside0.mk c23
          go_enter Try.func47, Try.ntmps47
          go_wp2
          repeat (go_quiet (fail); try go_wp2)
          go_ret
          refine ⟨?_, by repeat (first | exact Below.refl _ _ | apply below_drew1 | apply pw_below_drewN | apply below_alloc)⟩
          rw [HQ.out]
          simp [endB, HE.out, Hc21.out, Hc22.out, Hc23.out]
        | true =>
          have Hc23 := Aside0.mk c23
          go_enter Try.func47, Try.ntmps47
          go_wp2
          repeat (go_quiet (fail); try go_wp2)
          go_ret
          refine ⟨?_, by repeat (first | exact Below.refl _ _ | apply below_drew1 | apply pw_below_drewN | apply below_alloc)⟩
          rw [HQ.out]
          simp [endB, HE.out, Hc21.out, Hc22.out, Hc23.out]
  have b3 : (en == 3) = false := beq_eq_false_iff_ne.2 e3
  have HE1 := Aside0.mk e1
  clear e1
  have HE2 := Aside0.mk e2
  clear e2
  have HE3 := Aside0.mk e3
  clear e3
  go_enter Try.func47, Try.ntmps47
  go_wp2
  repeat (go_quiet (fail); try go_wp2)
  go_ret
  refine ⟨?_, by repeat (first | exact Below.refl _ _ | apply below_drew1 | apply pw_below_drewN | apply below_alloc)⟩
  rw [HQ.out]
  simp [endB, HE1.out, HE2.out, HE3.out]
end Go.Proofs.Ytocnkjhicbmmoaa.Q
