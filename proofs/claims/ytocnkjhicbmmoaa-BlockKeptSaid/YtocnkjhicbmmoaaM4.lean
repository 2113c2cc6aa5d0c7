/- block's (*machine).do at a call, and (*machine).over: a block's end. -/
import Derived.Test.YtocnkjhicbmmoaaM3
namespace Go.Proofs.Ytocnkjhicbmmoaa.Q
open Go.RowKit Go.Proofs.YtocnkjhicbmmoaaW.PrintWords Go.Proofs.YtocnkjhicbmmoaaW.PrintLast
set_option linter.unusedVariables false
set_option linter.unusedSimpArgs false

set_option maxHeartbeats 8000000 in
set_option maxRecDepth 100000 in
theorem do_call (w0 w : World) (g wb : Nat) (nw : Int) (fs : List S35) (inp : ByteArray) (ws out : List Int) (f : Fr) (st : List Fr) (en : Int) (p r : Nat) (loc : List (Nat × Nat)) (A : Option Addr) (c : Nat) (vo vc : Value) (d a b k base size n : Int)
    (h : MS w0 w g wb nw fs ⟨inp, ws, out, f :: st, en⟩ ((p, r) :: loc) A c vo vc) (h0 : 0 ≤ base) (h1 : base < fs.length) (m : Nat) (hreg : (rd_T35 fs base).f0 = m) (hm : m * 4 ≤ 281474976710656) (hst : (st.length + 2) * 8 ≤ 140737488355328) :
    Calls Try.prog 42 #[.pointer (some ⟨g, 0, none⟩), .pointer (some ⟨p, 0, none⟩), tacV ⟨10, d, a, b, k, base, size, n⟩] w fun e w' => e = .returned (.tuple #[]) ∧
      ∃ p' r' v1, MS w0 w' g wb nw fs ⟨inp, ws, out, ⟨rd_T35 fs base, List.replicate m 0, 0, 0⟩ :: f :: st, en⟩ ((p', r') :: (p, r) :: loc) A c vo v1 := by
  have HM := Aside0.mk h
  obtain ⟨Af, cf, c0, c1, c2, c3, c4, lp, lr, fp, fr, _, _⟩ := h.top.cells
  have HR := Aside0.mk hreg
  have Hm := Aside0.mk hm
  have HS := Aside0.mk hst
  clear h fp fr hreg hm hst
  unfold tacV
  go_enter Try.func42, Try.ntmps42
  go_wp2_with fail
  refine (call_calls w0 _ g wb nw fs inp ws out (f :: st) en ((p, r) :: loc) A c vo vc (by repeat (first | (with_reducible exact HM.out) | (with_reducible refine MS.drew ?_) | (with_reducible refine MS.drewN ?_ _) | (with_reducible refine MS.alloc ?_ _) | exact HM.out)) base h0 h1 m HR.out Hm.out (by have := HS.out; simp only [List.length_cons]; omega)).mono ?_
  rintro e w1 ⟨rfl, p', r', v1, hM⟩
  have HM1 := Aside0.mk hM
  clear hM
  go_wp2
  go_end0
  exact ⟨rfl, p', r', v1, HM1.out⟩

/-! over -/

set_option maxHeartbeats 8000000 in
set_option maxRecDepth 100000 in
theorem over_jump (w0 w : World) (g wb : Nat) (nw : Int) (fs : List S35) (inp : ByteArray) (ws out : List Int) (f : Fr) (st : List Fr) (en : Int) (p r : Nat) (loc : List (Nat × Nat)) (A : Option Addr) (c : Nat) (vo vc : Value)
    (h : MS w0 w g wb nw fs ⟨inp, ws, out, f :: st, en⟩ ((p, r) :: loc) A c vo vc) (h0 : 0 ≤ f.blk) (h1 : f.blk < f.fn.f1.length) (he : (rd_T41 f.fn.f1 f.blk).f1 = 1) :
    Calls Try.prog 41 #[.pointer (some ⟨g, 0, none⟩), .pointer (some ⟨p, 0, none⟩)] w fun e w' => e = .returned (.tuple #[]) ∧ MS w0 w' g wb nw fs ⟨inp, ws, out, { f with at_ := 0, blk := (rd_T41 f.fn.f1 f.blk).f3 } :: st, en⟩ ((p, r) :: loc) A c vo vc := by
  have HM := Aside0.mk h
  obtain ⟨Af, cf, c0, c1, c2, c3, c4, lp, lr, fp, fr, lc, hC⟩ := h.top.cells
  obtain ⟨m0, m1, m2, m3, m4, m5, m6, lg, lw, fg, fw⟩ := h.cells
  simp only at m2 m3 m5 m6
  obtain ⟨ad, A0, n0, rfl, e0, e1, e2, e3, e4, l0, g0⟩ := at_T41 hC f.blk h0 h1
  have e0 := pw_cell_below h.low e0
  have e1 := pw_cell_below h.low e1
  have e2 := pw_cell_below h.low e2
  have e3 := pw_cell_below h.low e3
  have e4 := pw_cell_below h.low e4
  rw [he] at e1
  clear he
  have hb := World.block_lt_of_cell? w _ e0
  have f3 := fp 3
  have f4 := fp 4
  have f5 := fg 5
  have f6 := fg 6
  have npg : p ≠ g := (h.nel (p, r) (by simp)).1
  have ngp : g ≠ p := Ne.symm npg
  have nrp : r ≠ p := h.neq
  have npr : p ≠ r := Ne.symm nrp
  clear h fp fr fg fw lc hC l0 g0
  go_enter Try.func41, Try.ntmps41
  go_wp2
  go_region
  all_goals go_wp2
  all_goals (go_end0; refine ⟨rfl, ?_⟩; repeat (first | (with_reducible exact HM.out) | (with_reducible refine MS.drew ?_) | (with_reducible refine MS.drewN ?_ _) | (with_reducible refine MS.alloc ?_ _) | (with_reducible refine MS.set_blk (f := { f with at_ := 0 }) (l := (p, r)) ?_ _) | (with_reducible refine MS.set_at (f := f) (l := (p, r)) ?_ _) | exact HM.out))

set_option maxHeartbeats 8000000 in
set_option maxRecDepth 100000 in
theorem over_then (w0 w : World) (g wb : Nat) (nw : Int) (fs : List S35) (inp : ByteArray) (ws out : List Int) (f : Fr) (st : List Fr) (en : Int) (p r : Nat) (loc : List (Nat × Nat)) (A : Option Addr) (c : Nat) (vo vc : Value)
    (h : MS w0 w g wb nw fs ⟨inp, ws, out, f :: st, en⟩ ((p, r) :: loc) A c vo vc) (h0 : 0 ≤ f.blk) (h1 : f.blk < f.fn.f1.length) (he : (rd_T41 f.fn.f1 f.blk).f1 = 2) (hv0 : 0 ≤ (rd_T41 f.fn.f1 f.blk).f2) {v : Int} (hv : f.regs[(rd_T41 f.fn.f1 f.blk).f2.toNat]? = some v) (hne : (v != 0) = true) :
    Calls Try.prog 41 #[.pointer (some ⟨g, 0, none⟩), .pointer (some ⟨p, 0, none⟩)] w fun e w' => e = .returned (.tuple #[]) ∧ MS w0 w' g wb nw fs ⟨inp, ws, out, { f with at_ := 0, blk := (rd_T41 f.fn.f1 f.blk).f3 } :: st, en⟩ ((p, r) :: loc) A c vo vc := by
  have HM := Aside0.mk h
  obtain ⟨Af, cf, c0, c1, c2, c3, c4, lp, lr, fp, fr, lc, hC⟩ := h.top.cells
  obtain ⟨m0, m1, m2, m3, m4, m5, m6, lg, lw, fg, fw⟩ := h.cells
  simp only at m2 m3 m5 m6
  obtain ⟨ad, A0, n0, rfl, e0, e1, e2, e3, e4, l0, g0⟩ := at_T41 hC f.blk h0 h1
  have e0 := pw_cell_below h.low e0
  have e1 := pw_cell_below h.low e1
  have e2 := pw_cell_below h.low e2
  have e3 := pw_cell_below h.low e3
  have e4 := pw_cell_below h.low e4
  have hR := h.top.reg hv0 hv
  have hv1 := get_lt hv0 hv
  clear hv
  rw [he] at e1
  clear he
  have hb := World.block_lt_of_cell? w _ e0
  have f3 := fp 3
  have f4 := fp 4
  have f5 := fg 5
  have f6 := fg 6
  have npg : p ≠ g := (h.nel (p, r) (by simp)).1
  have ngp : g ≠ p := Ne.symm npg
  have nrp : r ≠ p := h.neq
  have npr : p ≠ r := Ne.symm nrp
  clear h fp fr fg fw lc hC l0 g0
  go_enter Try.func41, Try.ntmps41
  go_wp2
  go_region
  all_goals (go_wp2; (first | go_quiet (fail) | skip); go_wp2)
  all_goals (go_end0; refine ⟨rfl, ?_⟩; repeat (first | (with_reducible exact HM.out) | (with_reducible refine MS.drew ?_) | (with_reducible refine MS.drewN ?_ _) | (with_reducible refine MS.alloc ?_ _) | (with_reducible refine MS.set_blk (f := { f with at_ := 0 }) (l := (p, r)) ?_ _) | (with_reducible refine MS.set_at (f := f) (l := (p, r)) ?_ _) | exact HM.out))

set_option maxHeartbeats 8000000 in
set_option maxRecDepth 100000 in
theorem over_else (w0 w : World) (g wb : Nat) (nw : Int) (fs : List S35) (inp : ByteArray) (ws out : List Int) (f : Fr) (st : List Fr) (en : Int) (p r : Nat) (loc : List (Nat × Nat)) (A : Option Addr) (c : Nat) (vo vc : Value)
    (h : MS w0 w g wb nw fs ⟨inp, ws, out, f :: st, en⟩ ((p, r) :: loc) A c vo vc) (h0 : 0 ≤ f.blk) (h1 : f.blk < f.fn.f1.length) (he : (rd_T41 f.fn.f1 f.blk).f1 = 2) (hv0 : 0 ≤ (rd_T41 f.fn.f1 f.blk).f2) {v : Int} (hv : f.regs[(rd_T41 f.fn.f1 f.blk).f2.toNat]? = some v) (hne : (v != 0) = false) :
    Calls Try.prog 41 #[.pointer (some ⟨g, 0, none⟩), .pointer (some ⟨p, 0, none⟩)] w fun e w' => e = .returned (.tuple #[]) ∧ MS w0 w' g wb nw fs ⟨inp, ws, out, { f with at_ := 0, blk := (rd_T41 f.fn.f1 f.blk).f4 } :: st, en⟩ ((p, r) :: loc) A c vo vc := by
  have HM := Aside0.mk h
  obtain ⟨Af, cf, c0, c1, c2, c3, c4, lp, lr, fp, fr, lc, hC⟩ := h.top.cells
  obtain ⟨m0, m1, m2, m3, m4, m5, m6, lg, lw, fg, fw⟩ := h.cells
  simp only at m2 m3 m5 m6
  obtain ⟨ad, A0, n0, rfl, e0, e1, e2, e3, e4, l0, g0⟩ := at_T41 hC f.blk h0 h1
  have e0 := pw_cell_below h.low e0
  have e1 := pw_cell_below h.low e1
  have e2 := pw_cell_below h.low e2
  have e3 := pw_cell_below h.low e3
  have e4 := pw_cell_below h.low e4
  have hR := h.top.reg hv0 hv
  have hv1 := get_lt hv0 hv
  clear hv
  rw [he] at e1
  clear he
  have hb := World.block_lt_of_cell? w _ e0
  have f3 := fp 3
  have f4 := fp 4
  have f5 := fg 5
  have f6 := fg 6
  have npg : p ≠ g := (h.nel (p, r) (by simp)).1
  have ngp : g ≠ p := Ne.symm npg
  have nrp : r ≠ p := h.neq
  have npr : p ≠ r := Ne.symm nrp
  clear h fp fr fg fw lc hC l0 g0
  go_enter Try.func41, Try.ntmps41
  go_wp2
  go_region
  all_goals (go_wp2; (first | go_quiet (fail) | skip); go_wp2)
  all_goals (go_end0; refine ⟨rfl, ?_⟩; repeat (first | (with_reducible exact HM.out) | (with_reducible refine MS.drew ?_) | (with_reducible refine MS.drewN ?_ _) | (with_reducible refine MS.alloc ?_ _) | (with_reducible refine MS.set_blk (f := { f with at_ := 0 }) (l := (p, r)) ?_ _) | (with_reducible refine MS.set_at (f := f) (l := (p, r)) ?_ _) | exact HM.out))

set_option maxHeartbeats 8000000 in
set_option maxRecDepth 100000 in
theorem over_ret (w0 w : World) (g wb : Nat) (nw : Int) (fs : List S35) (inp : ByteArray) (ws out : List Int) (f : Fr) (st : List Fr) (en : Int) (p r : Nat) (loc : List (Nat × Nat)) (A : Option Addr) (c : Nat) (vo vc : Value)
    (h : MS w0 w g wb nw fs ⟨inp, ws, out, f :: st, en⟩ ((p, r) :: loc) A c vo vc) (h0 : 0 ≤ f.blk) (h1 : f.blk < f.fn.f1.length) (he : (rd_T41 f.fn.f1 f.blk).f1 ≠ 1) (he2 : (rd_T41 f.fn.f1 f.blk).f1 ≠ 2) (hst : st ≠ []) (hlen : (st.length + 1) * 8 ≤ 140737488355328) :
    Calls Try.prog 41 #[.pointer (some ⟨g, 0, none⟩), .pointer (some ⟨p, 0, none⟩)] w fun e w' => e = .returned (.tuple #[]) ∧ ∃ v1, MS w0 w' g wb nw fs ⟨inp, ws, out, st, en⟩ loc A c vo v1 := by
  obtain ⟨Ac, cc, rfl⟩ := own_slice h.calls
  have HM := Aside0.mk h
  obtain ⟨Af, cf, c0, c1, c2, c3, c4, lp, lr, fp, fr, lc, hC⟩ := h.top.cells
  obtain ⟨m0, m1, m2, m3, m4, m5, m6, lg, lw, fg, fw⟩ := h.cells
  simp only at m2 m3 m5 m6
  obtain ⟨ad, A0, n0, rfl, e0, e1, e2, e3, e4, l0, g0⟩ := at_T41 hC f.blk h0 h1
  have e0 := pw_cell_below h.low e0
  have e1 := pw_cell_below h.low e1
  have e2 := pw_cell_below h.low e2
  have e3 := pw_cell_below h.low e3
  have e4 := pw_cell_below h.low e4
  have q1 : ((rd_T41 f.fn.f1 f.blk).f1 == 1) = false := beq_eq_false_iff_ne.2 he
  have q2 : ((rd_T41 f.fn.f1 f.blk).f1 == 2) = false := beq_eq_false_iff_ne.2 he2
  have hcap := own_cap h.calls
  have hb9 : (st.length : Int) ≤ 9223372036854775807 := by omega
  have hb10 : st.length ≤ cc := by simp at hcap; omega
  have hz : ((st.length : Int) == 0) = false := by cases st with | nil => exact absurd rfl hst | cons => simp; omega
  simp only [List.length_cons] at hcap m5
  clear he he2
  have hb := World.block_lt_of_cell? w _ e0
  have f3 := fp 3
  have f4 := fp 4
  have f5 := fg 5
  have f6 := fg 6
  have npg : p ≠ g := (h.nel (p, r) (by simp)).1
  have ngp : g ≠ p := Ne.symm npg
  have nrp : r ≠ p := h.neq
  have npr : p ≠ r := Ne.symm nrp
  clear h fp fr fg fw lc hC l0 g0
  go_enter Try.func41, Try.ntmps41
  go_wp2
  go_region
  all_goals (go_wp2; (first | go_quiet (fail) | skip); go_wp2)
  all_goals (go_region; all_goals go_wp2)
  all_goals (go_end0; refine ⟨rfl, .slice Ac st.length cc, ?_⟩; repeat (first | (with_reducible exact HM.out) | (with_reducible refine MS.drew ?_) | (with_reducible refine MS.drewN ?_ _) | (with_reducible refine MS.alloc ?_ _) | (with_reducible refine MS.pop (f := { f with at_ := 0 }) (l := (p, r)) (n := st.length + 1) ?_) | (with_reducible refine MS.set_at (f := f) (l := (p, r)) ?_ _) | exact HM.out))

set_option maxHeartbeats 8000000 in
set_option maxRecDepth 100000 in
theorem over_last (w0 w : World) (g wb : Nat) (nw : Int) (fs : List S35) (inp : ByteArray) (ws out : List Int) (f : Fr) (en : Int) (p r : Nat) (loc : List (Nat × Nat)) (A : Option Addr) (c : Nat) (vo vc : Value)
    (h : MS w0 w g wb nw fs ⟨inp, ws, out, [f], en⟩ ((p, r) :: loc) A c vo vc) (h0 : 0 ≤ f.blk) (h1 : f.blk < f.fn.f1.length) (he : (rd_T41 f.fn.f1 f.blk).f1 ≠ 1) (he2 : (rd_T41 f.fn.f1 f.blk).f1 ≠ 2) :
    Calls Try.prog 41 #[.pointer (some ⟨g, 0, none⟩), .pointer (some ⟨p, 0, none⟩)] w fun e w' => e = .returned (.tuple #[]) ∧ ∃ v1, MS w0 w' g wb nw fs ⟨inp, ws, out, [], 1⟩ loc A c vo v1 := by
  obtain ⟨Ac, cc, rfl⟩ := own_slice h.calls
  have HM := Aside0.mk h
  obtain ⟨Af, cf, c0, c1, c2, c3, c4, lp, lr, fp, fr, lc, hC⟩ := h.top.cells
  obtain ⟨m0, m1, m2, m3, m4, m5, m6, lg, lw, fg, fw⟩ := h.cells
  simp only at m2 m3 m5 m6
  obtain ⟨ad, A0, n0, rfl, e0, e1, e2, e3, e4, l0, g0⟩ := at_T41 hC f.blk h0 h1
  have e0 := pw_cell_below h.low e0
  have e1 := pw_cell_below h.low e1
  have e2 := pw_cell_below h.low e2
  have e3 := pw_cell_below h.low e3
  have e4 := pw_cell_below h.low e4
  have q1 : ((rd_T41 f.fn.f1 f.blk).f1 == 1) = false := beq_eq_false_iff_ne.2 he
  have q2 : ((rd_T41 f.fn.f1 f.blk).f1 == 2) = false := beq_eq_false_iff_ne.2 he2
  have hcap := own_cap h.calls
  simp only [List.length_cons, List.length_nil, Nat.zero_add] at hcap m5
  clear he he2
  have hb := World.block_lt_of_cell? w _ e0
  have f3 := fp 3
  have f4 := fp 4
  have f5 := fg 5
  have f6 := fg 6
  have npg : p ≠ g := (h.nel (p, r) (by simp)).1
  have ngp : g ≠ p := Ne.symm npg
  have nrp : r ≠ p := h.neq
  have npr : p ≠ r := Ne.symm nrp
  clear h fp fr fg fw lc hC l0 g0
  go_enter Try.func41, Try.ntmps41
  go_wp2
  go_region
  all_goals (go_wp2; (first | go_quiet (fail) | skip); go_wp2)
  all_goals (go_region; all_goals go_wp2)
  all_goals (refine bodyPost_end (results_none rfl _ _ _) rfl ⟨rfl, .slice Ac 0 cc, ?_⟩; refine MS.set_end (s := ⟨inp, ws, out, [], en⟩) ?_ _; refine MS.pop (f := { f with at_ := 0 }) (st := []) (l := (p, r)) (n := 1) ?_; repeat (first | (with_reducible exact HM.out) | (with_reducible refine MS.drew ?_) | (with_reducible refine MS.drewN ?_ _) | (with_reducible refine MS.alloc ?_ _) | (with_reducible refine MS.set_at (f := f) (l := (p, r)) ?_ _) | exact HM.out))

end Go.Proofs.Ytocnkjhicbmmoaa.Q
