/- block.Same: whether two programs are alike. -/
import Derived.Test.YtocnkjhicbmmoaaA15
import Derived.Test.YtocnkjhicbmmoaaQ56
import Derived.Deep.RegionWith
namespace Go.Proofs.Ytocnkjhicbmmoaa.Q
open Go.RowKit Go.Proofs.YtocnkjhicbmmoaaW.PrintWords Go.Proofs.YtocnkjhicbmmoaaW.PrintLast
set_option linter.unusedVariables false
set_option linter.unusedSimpArgs false

theorem wrap_at {j n : Nat} (h : j < n) (hn : n ≤ 9223372036854775807) : wrap64 ((j : Int) + 1) = ((j + 1 : Nat) : Int) := by unfold wrap64; omega
theorem et_l0 {l m : List S44} (hb : l.length ≤ 9223372036854775807) (he : l.length = m.length) : ∀ (e j : Nat), l.length - j = e → j ≤ l.length → l.take j = m.take j → ∃ k, api_Tac_56.l0 k l m l.length j = some (decide (l = m))
  | 0, j, hd, hj, ht => by
    refine ⟨1, ?_⟩
    have hlm : l = m := by
      rw [List.take_of_length_le (by omega), List.take_of_length_le (by omega)] at ht
      exact ht
    have c1 : ((j : Int) < (l.length : Int)) = False := eq_false (by omega)
    simp only [api_Tac_56.l0, c1, if_false, decide_eq_true hlm]
  | e + 1, j, hd, hj, ht => by
    have hl : j < l.length := by omega
    have hm : j < m.length := by omega
    have c1 : ((j : Int) < (l.length : Int)) = True := eq_true (by omega)
    have c2 : (0 ≤ (j : Int)) = True := eq_true (by omega)
    have c3 : ((j : Int) < (m.length : Int)) = True := eq_true (by omega)
    by_cases h : l.getD j z44 = m.getD j z44
    · obtain ⟨k, hk1⟩ := et_l0 hb he e (j + 1) (by omega) (by omega) (by rw [take_n _ z44 j hl, take_n _ z44 j hm, ht, h])
      refine ⟨k + 1, ?_⟩
      have hw := wrap_at hl hb
      simp only [api_Tac_56.l0, c1, c2, c3, if_true, ne44, rd44_nat, h, decide_true, Bool.not_true, Bool.false_eq_true, if_false, hw]
      exact hk1
    · refine ⟨1, ?_⟩
      have hlm : l ≠ m := fun e => h (by rw [e])
      simp only [api_Tac_56.l0, c1, c2, c3, if_true, ne44, rd44_nat, decide_eq_false h, Bool.not_false, decide_eq_false hlm]
theorem et_is (l m : List S44) (hb : l.length ≤ 9223372036854775807) : ∃ k, api_Tac_56.f k l m = some (decide (l = m)) := by
  by_cases he : l.length = m.length
  · obtain ⟨k, hk⟩ := et_l0 hb he l.length 0 (by omega) (by omega) (by simp)
    refine ⟨k, ?_⟩
    unfold api_Tac_56.f
    rw [if_pos (by omega)]
    exact hk
  · refine ⟨1, ?_⟩
    unfold api_Tac_56.f
    rw [if_neg (by omega), decide_eq_false (fun e => he (by rw [e]))]

set_option maxHeartbeats 8000000 in
set_option maxRecDepth 100000 in
theorem same55 (x y : S41) (Ax Ay : Option Addr) (cx cy : Nat) (w : World) (hx : Kd.C k44 w Ax x.f0.length x.f0) (hxc : x.f0.length ≤ cx) (hy : Kd.C k44 w Ay y.f0.length y.f0) (hyc : y.f0.length ≤ cy) (q : Bool)
    (hq : q = ((x.f1 == y.f1) && ((x.f2 == y.f2) && ((x.f3 == y.f3) && ((x.f4 == y.f4) && decide (x.f0 = y.f0)))))) :
    Calls Try.prog 55 #[.agg #[.slice Ax x.f0.length cx, .int .i64 x.f1, .int .i64 x.f2, .int .i64 x.f3, .int .i64 x.f4], .agg #[.slice Ay y.f0.length cy, .int .i64 y.f1, .int .i64 y.f2, .int .i64 y.f3, .int .i64 y.f4]] w fun e w' => e = .returned (.bool q) ∧ Below w.heap.size w w' := by
  obtain ⟨k, hk⟩ := et_is x.f0 y.f0 hx.2.1
  generalize hd : decide (x.f0 = y.f0) = d at hk hq
  have HX := Aside0.mk (api_Tac_56.calls k Ax cx x.f0 Ay cy y.f0 d (((w.alloc (.cells #[.slice Ax x.f0.length cx, .int .i64 x.f1, .int .i64 x.f2, .int .i64 x.f3, .int .i64 x.f4] 41)).alloc (.cells #[.slice Ay y.f0.length cy, .int .i64 y.f1, .int .i64 y.f2, .int .i64 y.f3, .int .i64 y.f4] 41))) (Kd.C_alloc (Kd.C_alloc hx _) _) hxc (Kd.C_alloc (Kd.C_alloc hy _) _) hyc hk)
  have HQ := Aside0.mk hq
  clear hq hk hd hx hy hxc hyc
  cases c1 : (x.f1 == y.f1) with
  | false =>
    go_enter Try.func55, Try.ntmps55
    go_wp2_with fail
    repeat (go_quiet (fail); try go_wp2)
    go_ret
    refine ⟨?_, by repeat (first | exact Below.refl _ _ | apply below_drew1 | apply pw_below_drewN | apply below_alloc)⟩
    rw [HQ.out, c1]
    rfl
  | true =>
  cases c2 : (x.f2 == y.f2) with
  | false =>
    go_enter Try.func55, Try.ntmps55
    go_wp2_with fail
    repeat (go_quiet (fail); try go_wp2)
    go_ret
    refine ⟨?_, by repeat (first | exact Below.refl _ _ | apply below_drew1 | apply pw_below_drewN | apply below_alloc)⟩
    rw [HQ.out, c1, c2]
    rfl
  | true =>
  cases c3 : (x.f3 == y.f3) with
  | false =>
    go_enter Try.func55, Try.ntmps55
    go_wp2_with fail
    repeat (go_quiet (fail); try go_wp2)
    go_ret
    refine ⟨?_, by repeat (first | exact Below.refl _ _ | apply below_drew1 | apply pw_below_drewN | apply below_alloc)⟩
    rw [HQ.out, c1, c2, c3]
    rfl
  | true =>
  cases c4 : (x.f4 == y.f4) with
  | false =>
    go_enter Try.func55, Try.ntmps55
    go_wp2_with fail
    repeat (go_quiet (fail); try go_wp2)
    go_ret
    refine ⟨?_, by repeat (first | exact Below.refl _ _ | apply below_drew1 | apply pw_below_drewN | apply below_alloc)⟩
    rw [HQ.out, c1, c2, c3, c4]
    rfl
  | true =>
    go_enter Try.func55, Try.ntmps55
    go_wp2_with fail
    with_reducible refine HX.out.mono ?_
    rintro e w1 ⟨rfl, hd⟩
    obtain ⟨n1, rfl⟩ := hd.out
    go_wp2
    go_ret
    refine ⟨?_, by repeat (first | exact Below.refl _ _ | apply below_drew1 | apply pw_below_drewN | apply below_alloc)⟩
    rw [HQ.out, c1, c2, c3, c4]
    rfl
end Go.Proofs.Ytocnkjhicbmmoaa.Q

namespace Go.Proofs.Ytocnkjhicbmmoaa.Q
open Go.RowKit Go.Proofs.YtocnkjhicbmmoaaW.PrintWords Go.Proofs.YtocnkjhicbmmoaaW.PrintLast
set_option linter.unusedVariables false
set_option linter.unusedSimpArgs false

theorem eq41 (x y : S41) : ((x.f1 == y.f1) && ((x.f2 == y.f2) && ((x.f3 == y.f3) && ((x.f4 == y.f4) && decide (x.f0 = y.f0))))) = decide (x = y) := by
  cases x; cases y
  rw [Bool.eq_iff_iff]
  simp
  constructor <;> (intro h; simp_all)
theorem eq35 (x y : S35) : ((x.f0 == y.f0) && decide (x.f1 = y.f1)) = decide (x = y) := by
  cases x; cases y
  rw [Bool.eq_iff_iff]
  simp
theorem getd_mem {α : Type} {l : List α} {i : Nat} (z : α) (h : i < l.length) : l.getD i z ∈ l := by
  rw [List.getD_eq_getElem?_getD, List.getElem?_eq_getElem h]; exact List.getElem_mem h
set_option maxHeartbeats 8000000 in
set_option maxRecDepth 100000 in
theorem same54 (xs ys : List S41) (Ax Ay : Option Addr) (cx cy : Nat) (w : World) (hx : Kd.C k41 w Ax xs.length xs) (hy : Kd.C k41 w Ay ys.length ys) (q : Bool) (hq : q = decide (xs = ys)) :
    Calls Try.prog 54 #[.slice Ax xs.length cx, .slice Ay ys.length cy, .func (.func 55) #[] #[]] w fun e w' => e = .returned (.bool q) ∧ Below w.heap.size w w' := by
  have HX := Aside0.mk hx
  have HY := Aside0.mk hy
  have hlx := hx.2.1
  have hly := hy.2.1
  have HQ := Aside0.mk hq
  clear hx hy hq
  by_cases hl : xs.length = ys.length
  case neg =>
    have b0 : ((xs.length : Int) != (ys.length : Int)) = true := by simp; omega
    have b1 : ((xs.length : Int) == (ys.length : Int)) = false := by simp; omega
    have b2 : (xs.length == ys.length) = false := by simp; omega
    have HL := Aside0.mk hl
    clear hl
    go_enter Try.func54, Try.ntmps54
    go_wp2
    go_ret
    exact ⟨by rw [HQ.out, decide_eq_false (fun e => HL.out (by rw [e]))]; rfl, Below.refl _ _⟩
  have b0 : ((xs.length : Int) != (ys.length : Int)) = false := by simp; omega
  have b1 : ((xs.length : Int) == (ys.length : Int)) = true := by simp; omega
  have b2 : (xs.length == ys.length) = true := by simp; omega
  have HL := Aside0.mk hl
  clear hl
  go_enter Try.func54, Try.ntmps54
  go_wp2
  clear b0 b1 b2
  go_loopw [17] (fun v17 w' => ∃ i : Nat, i ≤ xs.length ∧ v17 = .int .i64 i ∧ Aside0 (xs.take i = ys.take i) ∧ Aside0 (Below w.heap.size w w')) (fun v17 _ => xs.length - (intOf v17).toNat)
  case atStart => exact ⟨0, Nat.zero_le _, rfl, ⟨rfl⟩, ⟨Below.refl _ _⟩⟩
  case round =>
    obtain ⟨i, hi, rfl, HJ, HD⟩ := hrel
    by_cases hlt : i < xs.length
    · have hly2 : i < ys.length := by have := HL.out; omega
      obtain ⟨adx, A0, c0, rfl, d0, d1, d2, d3, d4, l0, g0⟩ := at_T41 HX.out i (by omega) (by omega)
      obtain ⟨ady, A1, c1, rfl, e0, e1, e2, e3, e4, l1, g1⟩ := at_T41 HY.out i (by omega) (by omega)
      have d0 := pw_cell_below HD.out d0
      have d1 := pw_cell_below HD.out d1
      have d2 := pw_cell_below HD.out d2
      have d3 := pw_cell_below HD.out d3
      have d4 := pw_cell_below HD.out d4
      have e0 := pw_cell_below HD.out e0
      have e1 := pw_cell_below HD.out e1
      have e2 := pw_cell_below HD.out e2
      have e3 := pw_cell_below HD.out e3
      have e4 := pw_cell_below HD.out e4
      have hrx : rd_T41 xs i = xs.getD i z41 := by simp [rd_T41]
      have hry : rd_T41 ys i = ys.getD i z41 := by simp [rd_T41]
      obtain ⟨x, hxx⟩ : ∃ x, x = rd_T41 xs i := ⟨_, rfl⟩
      obtain ⟨y, hyy⟩ : ∃ y, y = rd_T41 ys i := ⟨_, rfl⟩
      rw [← hxx] at d0 d1 d2 d3 d4 l0 g0
      rw [← hyy] at e0 e1 e2 e3 e4 l1 g1
      simp only [Int.toNat_natCast] at d0 d1 d2 d3 d4 e0 e1 e2 e3 e4
      have HXe := Aside0.mk (hxx.trans hrx)
      have HYe := Aside0.mk (hyy.trans hry)
      have G0 := Aside0.mk (Kd.C_below g0 HD.out)
      have G1 := Aside0.mk (Kd.C_below g1 HD.out)
      have L0 := Aside0.mk l0
      have L1 := Aside0.mk l1
      clear hxx hrx hyy hry g0 g1 l0 l1
      have hba := below_alloc (Below.refl _ wr) (.cells #[.slice A0 x.f0.length c0, .int .i64 x.f1, .int .i64 x.f2, .int .i64 x.f3, .int .i64 x.f4] 41)
      have a0 := pw_cell_below hba e0
      have a1 := pw_cell_below hba e1
      have a2 := pw_cell_below hba e2
      have a3 := pw_cell_below hba e3
      have a4 := pw_cell_below hba e4
      clear hba
      obtain ⟨q1, hq1⟩ : ∃ q1, q1 = decide (x = y) := ⟨_, rfl⟩
      have HQ1 := Aside0.mk hq1
      clear hq1
      go_wp2_with fail
      with_reducible refine (same55 x y A0 A1 c0 c1 _ ?h1 L0.out ?h2 L1.out q1 ?h3).mono ?_
      case h1 => repeat (first | exact G0.out | refine Kd.C_alloc ?_ _)
      case h2 => repeat (first | exact G1.out | refine Kd.C_alloc ?_ _)
      case h3 => rw [HQ1.out, eq41]
      rintro e w2 ⟨rfl, hb⟩
      have HD2 := Aside0.mk (below_step (below_alloc (below_alloc HD.out _) _) hb)
      clear hb
      cases q1 with
      | false =>
        go_wp2
        go_ret
        refine ⟨?_, HD2.out⟩
        have hne : ¬ xs = ys := fun e => by
          have h := HQ1.out
          rw [HXe.out, HYe.out, e] at h
          simp at h
        rw [HQ.out, decide_eq_false hne]
        rfl
      | true =>
        go_wp2
        go_roundw
        case rel =>
          refine ⟨i + 1, by omega, by go_num, ⟨?_⟩, HD2⟩
          have h := HQ1.out
          have hxy := of_decide_eq_true h.symm
          rw [take_n xs z41 i hlt, take_n ys z41 i hly2, HJ.out, ← HXe.out, ← HYe.out, hxy]
        case measure => simp [intOf]; omega
    · have hge : i = xs.length := by omega
      have hn : ¬ (i : Int) < (xs.length : Int) := by omega
      have HE := Aside0.mk hge
      clear hge hi
      go_wp2
      go_ret
      refine ⟨?_, HD.out⟩
      have h := HJ.out
      have hl := HL.out
      have he := HE.out
      rw [List.take_of_length_le (by omega), List.take_of_length_le (by omega)] at h
      rw [HQ.out, decide_eq_true h]
      rfl
set_option maxHeartbeats 8000000 in
set_option maxRecDepth 100000 in
theorem same53 (x y : S35) (Ax Ay : Option Addr) (cx cy : Nat) (w : World) (hx : Kd.C k41 w Ax x.f1.length x.f1) (hy : Kd.C k41 w Ay y.f1.length y.f1) (q : Bool) (hq : q = decide (x = y)) :
    Calls Try.prog 53 #[.agg #[.int .i64 x.f0, .slice Ax x.f1.length cx], .agg #[.int .i64 y.f0, .slice Ay y.f1.length cy]] w fun e w' => e = .returned (.bool q) ∧ Below w.heap.size w w' := by
  have HX := Aside0.mk hx
  have HY := Aside0.mk hy
  rw [← eq35] at hq
  have HQ := Aside0.mk hq
  clear hq hx hy
  cases c1 : (x.f0 == y.f0) with
  | false =>
    go_enter Try.func53, Try.ntmps53
    go_wp2_with fail
    repeat (go_quiet (fail); try go_wp2)
    go_ret
    refine ⟨?_, by repeat (first | exact Below.refl _ _ | apply below_drew1 | apply pw_below_drewN | apply below_alloc)⟩
    rw [HQ.out, c1]
    rfl
  | true =>
    go_enter Try.func53, Try.ntmps53
    go_wp2_with fail
    with_reducible refine (same54 x.f1 y.f1 Ax Ay cx cy _ ?h1 ?h2 _ rfl).mono ?_
    case h1 => repeat (first | exact HX.out | refine Kd.C_alloc ?_ _)
    case h2 => repeat (first | exact HY.out | refine Kd.C_alloc ?_ _)
    rintro e w1 ⟨rfl, hd⟩
    have HD := Aside0.mk hd
    clear hd
    go_wp2
    go_ret
    refine ⟨?_, below_step (below_alloc (below_alloc (Below.refl _ _) _) _) HD.out⟩
    rw [HQ.out, c1]
    rfl
set_option maxHeartbeats 8000000 in
set_option maxRecDepth 100000 in
theorem same52 (xs ys : List S35) (Ax Ay : Option Addr) (cx cy : Nat) (w : World) (hx : Kd.C k35 w Ax xs.length xs) (hy : Kd.C k35 w Ay ys.length ys) (q : Bool) (hq : q = decide (xs = ys)) :
    Calls Try.prog 52 #[.slice Ax xs.length cx, .slice Ay ys.length cy, .func (.func 53) #[] #[]] w fun e w' => e = .returned (.bool q) ∧ Below w.heap.size w w' := by
  have HX := Aside0.mk hx
  have HY := Aside0.mk hy
  have hlx := hx.2.1
  have hly := hy.2.1
  have HQ := Aside0.mk hq
  clear hx hy hq
  by_cases hl : xs.length = ys.length
  case neg =>
    have b0 : ((xs.length : Int) != (ys.length : Int)) = true := by simp; omega
    have b1 : ((xs.length : Int) == (ys.length : Int)) = false := by simp; omega
    have b2 : (xs.length == ys.length) = false := by simp; omega
    have HL := Aside0.mk hl
    clear hl
    go_enter Try.func52, Try.ntmps52
    go_wp2
    go_ret
    exact ⟨by rw [HQ.out, decide_eq_false (fun e => HL.out (by rw [e]))]; rfl, Below.refl _ _⟩
  have b0 : ((xs.length : Int) != (ys.length : Int)) = false := by simp; omega
  have b1 : ((xs.length : Int) == (ys.length : Int)) = true := by simp; omega
  have b2 : (xs.length == ys.length) = true := by simp; omega
  have HL := Aside0.mk hl
  clear hl
  go_enter Try.func52, Try.ntmps52
  go_wp2
  clear b0 b1 b2
  go_loopw [17] (fun v17 w' => ∃ i : Nat, i ≤ xs.length ∧ v17 = .int .i64 i ∧ Aside0 (xs.take i = ys.take i) ∧ Aside0 (Below w.heap.size w w')) (fun v17 _ => xs.length - (intOf v17).toNat)
  case atStart => exact ⟨0, Nat.zero_le _, rfl, ⟨rfl⟩, ⟨Below.refl _ _⟩⟩
  case round =>
    obtain ⟨i, hi, rfl, HJ, HD⟩ := hrel
    by_cases hlt : i < xs.length
    · have hly2 : i < ys.length := by have := HL.out; omega
      obtain ⟨adx, A0, c0, rfl, d0, d1, l0, g0⟩ := at_T35 HX.out i (by omega) (by omega)
      obtain ⟨ady, A1, c1, rfl, e0, e1, l1, g1⟩ := at_T35 HY.out i (by omega) (by omega)
      have d0 := pw_cell_below HD.out d0
      have d1 := pw_cell_below HD.out d1
      have e0 := pw_cell_below HD.out e0
      have e1 := pw_cell_below HD.out e1
      have hrx : rd_T35 xs i = xs.getD i z35 := by simp [rd_T35]
      have hry : rd_T35 ys i = ys.getD i z35 := by simp [rd_T35]
      obtain ⟨x, hxx⟩ : ∃ x, x = rd_T35 xs i := ⟨_, rfl⟩
      obtain ⟨y, hyy⟩ : ∃ y, y = rd_T35 ys i := ⟨_, rfl⟩
      rw [← hxx] at d0 d1 l0 g0
      rw [← hyy] at e0 e1 l1 g1
      simp only [Int.toNat_natCast] at d0 d1 e0 e1
      have HXe := Aside0.mk (hxx.trans hrx)
      have HYe := Aside0.mk (hyy.trans hry)
      have G0 := Aside0.mk (Kd.C_below g0 HD.out)
      have G1 := Aside0.mk (Kd.C_below g1 HD.out)
      clear hxx hrx hyy hry g0 g1 l0 l1
      have hba := below_alloc (Below.refl _ wr) (.cells #[.int .i64 x.f0, .slice A0 x.f1.length c0] 35)
      have a0 := pw_cell_below hba e0
      have a1 := pw_cell_below hba e1
      clear hba
      obtain ⟨q1, hq1⟩ : ∃ q1, q1 = decide (x = y) := ⟨_, rfl⟩
      have HQ1 := Aside0.mk hq1
      clear hq1
      go_wp2_with fail
      with_reducible refine (same53 x y A0 A1 c0 c1 _ ?h1 ?h2 q1 HQ1.out).mono ?_
      case h1 => repeat (first | exact G0.out | refine Kd.C_alloc ?_ _)
      case h2 => repeat (first | exact G1.out | refine Kd.C_alloc ?_ _)
      rintro e w2 ⟨rfl, hb⟩
      have HD2 := Aside0.mk (below_step (below_alloc (below_alloc HD.out _) _) hb)
      clear hb
      cases q1 with
      | false =>
        go_wp2
        go_ret
        refine ⟨?_, HD2.out⟩
        have hne : ¬ xs = ys := fun e => by
          have h := HQ1.out
          rw [HXe.out, HYe.out, e] at h
          simp at h
        rw [HQ.out, decide_eq_false hne]
        rfl
      | true =>
        go_wp2
        go_roundw
        case rel =>
          refine ⟨i + 1, by omega, by go_num, ⟨?_⟩, HD2⟩
          have h := HQ1.out
          have hxy := of_decide_eq_true h.symm
          rw [take_n xs z35 i hlt, take_n ys z35 i hly2, HJ.out, ← HXe.out, ← HYe.out, hxy]
        case measure => simp [intOf]; omega
    · have hge : i = xs.length := by omega
      have hn : ¬ (i : Int) < (xs.length : Int) := by omega
      have HE := Aside0.mk hge
      clear hge hi
      go_wp2
      go_ret
      refine ⟨?_, HD.out⟩
      have h := HJ.out
      have hl := HL.out
      have he := HE.out
      rw [List.take_of_length_le (by omega), List.take_of_length_le (by omega)] at h
      rw [HQ.out, decide_eq_true h]
      rfl
set_option maxHeartbeats 8000000 in
set_option maxRecDepth 100000 in
theorem same25 (n m : Int) (xs ys : List S35) (Ax Ay : Option Addr) (cx cy : Nat) (w : World) (hx : Kd.C k35 w Ax xs.length xs) (hy : Kd.C k35 w Ay ys.length ys) (q : Bool) (hq : q = ((n == m) && decide (xs = ys))) :
    Calls Try.prog 25 #[.agg #[.int .i64 n, .slice Ax xs.length cx], .agg #[.int .i64 m, .slice Ay ys.length cy]] w fun e w' => e = .returned (.bool q) ∧ Below w.heap.size w w' := by
  have HX := Aside0.mk hx
  have HY := Aside0.mk hy
  have HQ := Aside0.mk hq
  clear hq hx hy
  cases c1 : (n == m) with
  | false =>
    go_enter Try.func25, Try.ntmps25
    go_wp2_with fail
    repeat (go_quiet (fail); try go_wp2)
    go_ret
    refine ⟨?_, by repeat (first | exact Below.refl _ _ | apply below_drew1 | apply pw_below_drewN | apply below_alloc)⟩
    rw [HQ.out, c1]
    rfl
  | true =>
    go_enter Try.func25, Try.ntmps25
    go_wp2_with fail
    with_reducible refine (same52 xs ys Ax Ay cx cy _ ?h1 ?h2 _ rfl).mono ?_
    case h1 => repeat (first | exact HX.out | refine Kd.C_alloc ?_ _)
    case h2 => repeat (first | exact HY.out | refine Kd.C_alloc ?_ _)
    rintro e w1 ⟨rfl, hd⟩
    have HD := Aside0.mk hd
    clear hd
    go_wp2
    go_ret
    refine ⟨?_, below_step (below_alloc (below_alloc (Below.refl _ _) _) _) HD.out⟩
    rw [HQ.out, c1]
    rfl
/-- In the form of the print's. -/
def block_Same.f (n : Int) (xs : List S35) (m : Int) (ys : List S35) : Option Bool := some ((n == m) && decide (xs = ys))
theorem block_Same.calls (a0_0 : Int) (A0_1 : Option Addr) (c0_1 : Nat) (l0_1 : List S35) (a1_0 : Int) (A1_1 : Option Addr) (c1_1 : Nat) (l1_1 : List S35) (r : Bool) (w : World) (hr0_1 : Kd.C k35 w A0_1 l0_1.length l0_1) (hc0_1 : l0_1.length ≤ c0_1) (hr1_1 : Kd.C k35 w A1_1 l1_1.length l1_1) (hc1_1 : l1_1.length ≤ c1_1) (h : block_Same.f a0_0 l0_1 a1_0 l1_1 = some r) :
    Calls Try.prog 25 #[.agg #[.int .i64 a0_0, .slice A0_1 l0_1.length c0_1], .agg #[.int .i64 a1_0, .slice A1_1 l1_1.length c1_1]] w fun e w' => e = .returned (.bool r) ∧ Below w.heap.size w w' := by
  injection h with h
  exact same25 a0_0 a1_0 l0_1 l1_1 A0_1 A1_1 c0_1 c1_1 w hr0_1 hr1_1 r h.symm
end Go.Proofs.Ytocnkjhicbmmoaa.Q
