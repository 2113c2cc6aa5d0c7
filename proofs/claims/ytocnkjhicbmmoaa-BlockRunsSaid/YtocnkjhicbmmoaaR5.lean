/- seedcornref24.Run's steps as functions of numbers and lists; (*runner).step. -/
import Derived.Test.YtocnkjhicbmmoaaR1
import Derived.Test.YtocnkjhicbmmoaaR2
namespace Go.Proofs.Ytocnkjhicbmmoaa.Q
open Go.RowKit Go.Proofs.YtocnkjhicbmmoaaW.PrintWords Go.Proofs.YtocnkjhicbmmoaaW.PrintLast
set_option linter.unusedVariables false
set_option linter.unusedSimpArgs false

set_option maxHeartbeats 8000000 in
set_option maxRecDepth 100000 in
theorem rstep_yes (w0 w : World) (g wb : Nat) (nw : Int) (fs : List S35) (inp : ByteArray) (fuel : Int) (s : Rc) (A : Option Addr) (c : Nat) (vo : Value) (h : RS w0 w g wb nw fs inp fuel s A c vo) (hs0 : 0 ≤ s.steps) (hs1 : s.steps ≤ 1000000) (hf : s.steps < fuel) :
    Calls Try.prog 72 #[.pointer (some ⟨g, 0, none⟩)] w fun e w' => e = .returned (.bool true) ∧ RS w0 w' g wb nw fs inp fuel { s with steps := s.steps + 1 } A c vo ∧ Kp (fun _ => False) w w' := by
  have HM := Aside0.mk h
  obtain ⟨m0, m1, m2, m3, m4, m5, m6, m7, m8, lg, lw, fg, fw⟩ := h.cells
  have f7 := fg 7
  have f8 := fg 8
  have d : decide (fuel ≤ s.steps) = false := by simp; omega
  clear h fg fw hf
  go_enter Try.func72, Try.ntmps72
  go_wp2
  repeat (go_quiet (fail); try go_wp2)
  go_ret
  refine ⟨rfl, ?_, ?_⟩
  · repeat (first | (with_reducible exact HM.out) | (with_reducible refine RS.drew ?_) | (with_reducible refine RS.drewN ?_ _) | (with_reducible refine RS.alloc ?_ _) | (with_reducible refine RS.set_steps ?_ _) | exact HM.out)
  · repeat (first | exact Kp.refl _ _ | (with_reducible refine Kp.drew ?_) | (with_reducible refine Kp.drewN ?_ _) | (with_reducible refine Kp.alloc ?_ _) | refine Kp.set ?_ HM.out.m (.inr (.inl rfl)) _ _)

set_option maxHeartbeats 8000000 in
set_option maxRecDepth 100000 in
theorem rstep_no (w0 w : World) (g wb : Nat) (nw : Int) (fs : List S35) (inp : ByteArray) (fuel : Int) (s : Rc) (A : Option Addr) (c : Nat) (vo : Value) (h : RS w0 w g wb nw fs inp fuel s A c vo) (hf : fuel ≤ s.steps) :
    Calls Try.prog 72 #[.pointer (some ⟨g, 0, none⟩)] w fun e w' => e = .returned (.bool false) ∧ RS w0 w' g wb nw fs inp fuel { s with en := 5 } A c vo ∧ Kp (fun _ => False) w w' := by
  have HM := Aside0.mk h
  obtain ⟨m0, m1, m2, m3, m4, m5, m6, m7, m8, lg, lw, fg, fw⟩ := h.cells
  have f7 := fg 7
  have f8 := fg 8
  have d : decide (fuel ≤ s.steps) = true := by simpa using hf
  clear h fg fw hf
  go_enter Try.func72, Try.ntmps72
  go_wp2
  repeat (go_quiet (fail); try go_wp2)
  go_ret
  refine ⟨rfl, ?_, ?_⟩
  · repeat (first | (with_reducible exact HM.out) | (with_reducible refine RS.drew ?_) | (with_reducible refine RS.drewN ?_ _) | (with_reducible refine RS.alloc ?_ _) | (with_reducible refine RS.set_end ?_ _) | exact HM.out)
  · repeat (first | exact Kp.refl _ _ | (with_reducible refine Kp.drew ?_) | (with_reducible refine Kp.drewN ?_ _) | (with_reducible refine Kp.alloc ?_ _) | refine Kp.set ?_ HM.out.m (.inr (.inl rfl)) _ _)
end Go.Proofs.Ytocnkjhicbmmoaa.Q

namespace Go.Proofs.Ytocnkjhicbmmoaa.Q
open Go.RowKit Go.Proofs.YtocnkjhicbmmoaaW.PrintWords Go.Proofs.YtocnkjhicbmmoaaW.PrintLast
set_option linter.unusedVariables false
set_option linter.unusedSimpArgs false

def rput (s : Rc) (regs : List Int) (d v : Int) : Option (Rc × List Int) := (rset regs d v).map fun r => (s, r)
/-- An instruction that is no call. -/
def rloc (app : Int → Int → Int → Option (Int × Int)) (inp : ByteArray) (s : Rc) (regs : List Int) (t : S44) : Option (Rc × List Int) :=
  if t.f0 = 1 then rput s regs t.f1 t.f7
  else if t.f0 = 2 then (rget regs t.f2).bind fun a => rput s regs t.f1 a
  else if t.f0 = 3 then (rget regs t.f2).bind fun a => (rget regs t.f3).bind fun b => (app t.f4 a b).bind fun q => if q.2 = 0 then rput s regs t.f1 q.1 else some ({ s with en := 2 }, regs)
  else if t.f0 = 4 then (rget s.ws t.f5).bind fun a => rput s regs t.f1 a
  else if t.f0 = 5 then (rget regs t.f2).bind fun a => (rset s.ws t.f5 a).map fun w => ({ s with ws := w }, regs)
  else if t.f0 = 6 then (rget regs t.f2).bind fun a => if 0 ≤ t.f6 ∧ t.f6 ≤ 4096 ∧ 0 ≤ a ∧ a ≤ 4294967295 then (if a < t.f6 then (rget s.ws (wrap64 (t.f5 + a))).bind fun v => rput s regs t.f1 v else some ({ s with en := 3 }, regs)) else none
  else if t.f0 = 7 then (rget regs t.f2).bind fun a => if 0 ≤ t.f6 ∧ t.f6 ≤ 4096 ∧ 0 ≤ a ∧ a ≤ 4294967295 then (if a < t.f6 then (rget regs t.f3).bind fun b => (rset s.ws (wrap64 (t.f5 + a)) b).map fun w => ({ s with ws := w }, regs) else some ({ s with en := 3 }, regs)) else none
  else if t.f0 = 8 then (if (inp.size : Int) ≤ s.read then rput s regs t.f1 256 else if 0 ≤ s.read ∧ s.read ≤ 1000000 then rput { s with read := s.read + 1 } regs t.f1 (bt inp s.read) else none)
  else if t.f0 = 9 then (if 65536 ≤ s.out.length then some ({ s with en := 4 }, regs) else (rget regs t.f2).map fun a => ({ s with out := s.out ++ [IntKind.u8.wrap a] }, regs))
  else none
section
variable (app : Int → Int → Int → Option (Int × Int)) (inp : ByteArray) (fs : List S35) (fuel : Int)
mutual
def rone : Nat → Rc → List Int → S44 → Option (Rc × List Int)
  | 0, _, _, _ => none
  | k + 1, s, regs, t => if t.f0 = 10 then (rfun k s t.f5).map fun s' => (s', regs) else rloc app inp s regs t
def rfun : Nat → Rc → Int → Option Rc
  | 0, _, _ => none
  | k + 1, s, i => if 0 ≤ i ∧ i < fs.length ∧ 0 ≤ (rd_T35 fs i).f0 ∧ (rd_T35 fs i).f0 * 4 ≤ 281474976710656 then rloop k s (rd_T35 fs i) (List.replicate (rd_T35 fs i).f0.toNat 0) 0 else none
def rloop : Nat → Rc → S35 → List Int → Int → Option Rc
  | 0, _, _, _, _ => none
  | k + 1, s, f, regs, at_ =>
    if s.en = 0 then
      (if 0 ≤ at_ ∧ at_ < f.f1.length then
        (rins k s (rd_T41 f.f1 at_) regs 0).bind fun q =>
          if q.1 = true then some q.2.1
          else if 0 ≤ q.2.1.steps then
            (if fuel ≤ q.2.1.steps then some { q.2.1 with en := 5 }
             else if (rd_T41 f.f1 at_).f1 = 3 then some { q.2.1 with steps := q.2.1.steps + 1 }
             else if (rd_T41 f.f1 at_).f1 = 2 then (rget q.2.2 (rd_T41 f.f1 at_).f2).bind fun v : Int => rloop k { q.2.1 with steps := q.2.1.steps + 1 } f q.2.2 (if v = 0 then (rd_T41 f.f1 at_).f4 else (rd_T41 f.f1 at_).f3)
             else rloop k { q.2.1 with steps := q.2.1.steps + 1 } f q.2.2 (rd_T41 f.f1 at_).f3)
          else none
       else none)
    else some s
def rins : Nat → Rc → S41 → List Int → Int → Option (Bool × Rc × List Int)
  | 0, _, _, _, _ => none
  | k + 1, s, b, regs, j =>
    if 0 ≤ j ∧ j < b.f0.length then
      (if 0 ≤ s.steps then
        (if fuel ≤ s.steps then some (true, { s with en := 5 }, regs)
         else (rone k { s with steps := s.steps + 1 } regs (rd_T44 b.f0 j)).bind fun q => if q.1.en = 0 then rins k q.1 b q.2 (j + 1) else some (true, q.1, q.2))
       else none)
    else some (false, s, regs)
end
end

/-- What is asked of the operations' contract. -/
def AppOk (app : Int → Int → Int → Option (Int × Int)) : Prop := ∀ op a b v e0, app op a b = some (v, e0) → ∀ W, Calls Try.prog 94 #[.int .i64 op, .int .u32 a, .int .u32 b] W fun e w' => e = .returned (.tuple #[.int .u32 v, .int .i64 e0]) ∧ Below W.heap.size W w'

theorem rput_some {s s' : Rc} {regs regs' : List Int} {d v : Int} (h : rput s regs d v = some (s', regs')) : (0 ≤ d ∧ d < regs.length) ∧ s' = s ∧ regs' = regs.set d.toNat v := by
  unfold rput at h
  obtain ⟨r, hr, he⟩ := Option.map_eq_some_iff.1 h
  obtain ⟨h1, rfl⟩ := rset_some hr
  injection he with he1 he2
  exact ⟨h1, he1.symm, he2.symm⟩

def OAfter (w0 w : World) (g wb r : Nat) (nw : Int) (fs : List S35) (inp : ByteArray) (fuel : Int) (A : Option Addr) (c : Nat) (q : Rc × List Int) (w' : World) : Prop := ∃ vo, OS w0 w w' g wb r nw fs inp fuel q.1 q.2 A c vo

theorem rloc_calls (app : Int → Int → Int → Option (Int × Int)) (happ : AppOk app) (w0 w : World) (g wb r : Nat) (nw : Int) (fs : List S35) (inp : ByteArray) (fuel : Int) (ws out regs : List Int) (read steps en : Int) (A : Option Addr) (c : Nat) (vo : Value) (t : S44) (q : Rc × List Int)
    (h : OS w0 w w g wb r nw fs inp fuel ⟨ws, out, read, steps, en⟩ regs A c vo) (hs : rloc app inp ⟨ws, out, read, steps, en⟩ regs t = some q) :
    Calls Try.prog 73 #[.pointer (some ⟨g, 0, none⟩), tacV t, .slice (some ⟨r, 0, none⟩) regs.length regs.length] w fun e w' => e = .returned (.tuple #[]) ∧ OAfter w0 w g wb r nw fs inp fuel A c q w' := by
  obtain ⟨op, d, a, b, k, base, size, n⟩ := t
  obtain ⟨s', regs'⟩ := q
  have fin : ∀ {e : Ending} {w' : World}, (e = .returned (.tuple #[]) ∧ OS w0 w w' g wb r nw fs inp fuel s' regs' A c vo) → e = .returned (.tuple #[]) ∧ OAfter w0 w g wb r nw fs inp fuel A c (s', regs') w' := fun hh => ⟨hh.1, _, hh.2⟩
  unfold rloc at hs
  simp only at hs
  by_cases e1 : op = 1
  · rw [if_pos e1] at hs
    obtain ⟨⟨h0, h1⟩, rfl, rfl⟩ := rput_some hs
    subst e1
    exact (one_const w0 w g wb r nw fs inp fuel ws out regs read steps en A c vo d a b k base size n h h0 h1).mono fun e w' hh => fin hh
  rw [if_neg e1] at hs
  by_cases e2 : op = 2
  · rw [if_pos e2] at hs
    obtain ⟨va, ha, hs⟩ := Option.bind_eq_some_iff.1 hs
    obtain ⟨⟨h0, h1⟩, rfl, rfl⟩ := rput_some hs
    obtain ⟨ha0, ha⟩ := rget_some ha
    subst e2
    exact (one_copy w0 w g wb r nw fs inp fuel ws out regs read steps en A c vo d a b k base size n h h0 h1 ha0 ha).mono fun e w' hh => fin hh
  rw [if_neg e2] at hs
  by_cases e3 : op = 3
  · rw [if_pos e3] at hs
    obtain ⟨va, ha, hs⟩ := Option.bind_eq_some_iff.1 hs
    obtain ⟨vb, hb, hs⟩ := Option.bind_eq_some_iff.1 hs
    obtain ⟨⟨v, e0⟩, hq, hs⟩ := Option.bind_eq_some_iff.1 hs
    obtain ⟨ha0, ha⟩ := rget_some ha
    obtain ⟨hb0, hb⟩ := rget_some hb
    subst e3
    simp only at hs
    by_cases hz : e0 = 0
    · rw [if_pos hz] at hs
      obtain ⟨⟨h0, h1⟩, rfl, rfl⟩ := rput_some hs
      subst hz
      exact (one_bin w0 w g wb r nw fs inp fuel ws out regs read steps en A c vo d a b k base size n h h0 h1 ha0 ha hb0 hb (happ _ _ _ _ _ hq)).mono fun e w' hh => fin hh
    · rw [if_neg hz] at hs
      injection hs with hs
      injection hs with hs1 hs2
      subst hs1
      subst hs2
      exact (one_zero w0 w g wb r nw fs inp fuel ws out regs read steps en A c vo d a b k base size n h ha0 ha hb0 hb (happ _ _ _ _ _ hq) (by rw [bne_iff_ne]; exact hz)).mono fun e w' hh => fin hh
  rw [if_neg e3] at hs
  by_cases e4 : op = 4
  · rw [if_pos e4] at hs
    obtain ⟨va, ha, hs⟩ := Option.bind_eq_some_iff.1 hs
    obtain ⟨⟨h0, h1⟩, rfl, rfl⟩ := rput_some hs
    obtain ⟨ha0, ha⟩ := rget_some ha
    subst e4
    exact (one_load w0 w g wb r nw fs inp fuel ws out regs read steps en A c vo d a b k base size n h h0 h1 ha0 ha).mono fun e w' hh => fin hh
  rw [if_neg e4] at hs
  by_cases e5 : op = 5
  · rw [if_pos e5] at hs
    obtain ⟨va, ha, hs⟩ := Option.bind_eq_some_iff.1 hs
    obtain ⟨ws', hw, he⟩ := Option.map_eq_some_iff.1 hs
    obtain ⟨⟨h0, h1⟩, rfl⟩ := rset_some hw
    injection he with he1 he2
    subst he1
    subst he2
    obtain ⟨ha0, ha⟩ := rget_some ha
    subst e5
    exact (one_store w0 w g wb r nw fs inp fuel ws out regs read steps en A c vo d a b k base size n h h0 h1 ha0 ha).mono fun e w' hh => fin hh
  rw [if_neg e5] at hs
  by_cases e6 : op = 6
  · rw [if_pos e6] at hs
    obtain ⟨va, ha, hs⟩ := Option.bind_eq_some_iff.1 hs
    obtain ⟨ha0, ha⟩ := rget_some ha
    subst e6
    by_cases hb : 0 ≤ size ∧ size ≤ 4096 ∧ 0 ≤ va ∧ va ≤ 4294967295
    case neg => rw [if_neg hb] at hs; cases hs
    rw [if_pos hb] at hs
    obtain ⟨s0, s1, v0, v1⟩ := hb
    by_cases hin : va < size
    · rw [if_pos hin] at hs
      obtain ⟨vw, hw, hs⟩ := Option.bind_eq_some_iff.1 hs
      obtain ⟨hw0, hw⟩ := rget_some hw
      obtain ⟨⟨h0, h1⟩, rfl, rfl⟩ := rput_some hs
      exact (one_aload w0 w g wb r nw fs inp fuel ws out regs read steps en A c vo d a b k base size n h h0 h1 ha0 ha s0 s1 v0 v1 hin hw0 hw).mono fun e w' hh => fin hh
    · rw [if_neg hin] at hs
      injection hs with hs
      injection hs with hs1 hs2
      subst hs1
      subst hs2
      exact (one_aload_out w0 w g wb r nw fs inp fuel ws out regs read steps en A c vo d a b k base size n h ha0 ha s0 s1 v0 v1 (by omega)).mono fun e w' hh => fin hh
  rw [if_neg e6] at hs
  by_cases e7 : op = 7
  · rw [if_pos e7] at hs
    obtain ⟨va, ha, hs⟩ := Option.bind_eq_some_iff.1 hs
    obtain ⟨ha0, ha⟩ := rget_some ha
    subst e7
    by_cases hb : 0 ≤ size ∧ size ≤ 4096 ∧ 0 ≤ va ∧ va ≤ 4294967295
    case neg => rw [if_neg hb] at hs; cases hs
    rw [if_pos hb] at hs
    obtain ⟨s0, s1, v0, v1⟩ := hb
    by_cases hin : va < size
    · rw [if_pos hin] at hs
      obtain ⟨vb, hb, hs⟩ := Option.bind_eq_some_iff.1 hs
      obtain ⟨hb0, hb⟩ := rget_some hb
      obtain ⟨ws', hw, he⟩ := Option.map_eq_some_iff.1 hs
      obtain ⟨⟨h0, h1⟩, rfl⟩ := rset_some hw
      injection he with he1 he2
      subst he1
      subst he2
      exact (one_astore w0 w g wb r nw fs inp fuel ws out regs read steps en A c vo d a b k base size n h ha0 ha s0 s1 v0 v1 hin h0 h1 hb0 hb).mono fun e w' hh => fin hh
    · rw [if_neg hin] at hs
      injection hs with hs
      injection hs with hs1 hs2
      subst hs1
      subst hs2
      exact (one_astore_out w0 w g wb r nw fs inp fuel ws out regs read steps en A c vo d a b k base size n h ha0 ha s0 s1 v0 v1 (by omega)).mono fun e w' hh => fin hh
  rw [if_neg e7] at hs
  by_cases e8 : op = 8
  · rw [if_pos e8] at hs
    subst e8
    by_cases hin : (inp.size : Int) ≤ read
    · rw [if_pos hin] at hs
      obtain ⟨⟨h0, h1⟩, rfl, rfl⟩ := rput_some hs
      exact (one_get_none w0 w g wb r nw fs inp fuel ws out regs read steps en A c vo d a b k base size n h h0 h1 hin).mono fun e w' hh => fin hh
    · rw [if_neg hin] at hs
      by_cases hr : 0 ≤ read ∧ read ≤ 1000000
      case neg => rw [if_neg hr] at hs; cases hs
      rw [if_pos hr] at hs
      obtain ⟨⟨h0, h1⟩, rfl, rfl⟩ := rput_some hs
      have hd := one_get w0 w g wb r nw fs inp fuel ws out regs read steps en A c vo d a b k base size n h h0 h1 hr.1 hr.2 (by omega)
      simp only [List.set_set] at hd
      exact hd.mono fun e w' hh => fin hh
  rw [if_neg e8] at hs
  by_cases e9 : op = 9
  · rw [if_pos e9] at hs
    subst e9
    by_cases hfull : 65536 ≤ out.length
    · rw [if_pos hfull] at hs
      injection hs with hs
      injection hs with hs1 hs2
      subst hs1
      subst hs2
      exact (one_put_full w0 w g wb r nw fs inp fuel ws out regs read steps en A c vo d a b k base size n h hfull).mono fun e w' hh => fin hh
    · rw [if_neg hfull] at hs
      obtain ⟨va, ha, he⟩ := Option.map_eq_some_iff.1 hs
      obtain ⟨ha0, ha⟩ := rget_some ha
      injection he with he1 he2
      subst he1
      subst he2
      exact (one_put w0 w g wb r nw fs inp fuel ws out regs read steps en A c vo d a b k base size n h ha0 ha hfull).mono fun e w' ⟨hh, v1, hm⟩ => ⟨hh, _, hm⟩
  rw [if_neg e9] at hs
  cases hs
end Go.Proofs.Ytocnkjhicbmmoaa.Q

namespace Go.Proofs.Ytocnkjhicbmmoaa.Q
open Go.RowKit Go.Proofs.YtocnkjhicbmmoaaW.PrintWords Go.Proofs.YtocnkjhicbmmoaaW.PrintLast
set_option linter.unusedVariables false
set_option linter.unusedSimpArgs false

def FAfter (w0 : World) (g wb : Nat) (nw : Int) (fs : List S35) (inp : ByteArray) (fuel : Int) (A : Option Addr) (c : Nat) (s : Rc) (w w' : World) : Prop := ∃ vo, RS w0 w' g wb nw fs inp fuel s A c vo ∧ Kp (fun k => k = wb) w w'
/-- The contract of fun at so many rounds. -/
def FunOk (app : Int → Int → Int → Option (Int × Int)) (k : Nat) : Prop := ∀ (w0 w : World) (g wb : Nat) (nw : Int) (fs : List S35) (inp : ByteArray) (fuel : Int) (s s' : Rc) (A : Option Addr) (c : Nat) (vo : Value) (i : Int),
  fuel ≤ 1000000 → RS w0 w g wb nw fs inp fuel s A c vo → rfun app inp fs fuel k s i = some s' →
    Calls Try.prog 43 #[.pointer (some ⟨g, 0, none⟩), .int .i64 i] w fun e w' => e = .returned (.tuple #[]) ∧ FAfter w0 g wb nw fs inp fuel A c s' w w'

theorem FunOk.use {app : Int → Int → Int → Option (Int × Int)} {k : Nat} (hF : FunOk app k) (w0 w : World) (g wb : Nat) (nw : Int) (fs : List S35) (inp : ByteArray) (fuel : Int) (s s' : Rc) (A : Option Addr) (c : Nat) (vo : Value) (i : Int)
    (h1 : fuel ≤ 1000000) (h2 : RS w0 w g wb nw fs inp fuel s A c vo) (h3 : rfun app inp fs fuel k s i = some s') : Calls Try.prog 43 #[.pointer (some ⟨g, 0, none⟩), .int .i64 i] w fun e w' => e = .returned (.tuple #[]) ∧ FAfter w0 g wb nw fs inp fuel A c s' w w' :=
  hF w0 w g wb nw fs inp fuel s s' A c vo i h1 h2 h3
theorem OS.through {w0 w W W1 : World} {g wb r : Nat} {nw : Int} {fs : List S35} {inp : ByteArray} {fuel : Int} {s s' : Rc} {regs : List Int} {A : Option Addr} {c : Nat} {vo vo' : Value}
    (h : OS w0 w W g wb r nw fs inp fuel s regs A c vo) (h' : RS w0 W1 g wb nw fs inp fuel s' A c vo') (hk : Kp (fun k => k = wb) W W1) : OS w0 w W1 g wb r nw fs inp fuel s' regs A c vo' :=
  ⟨h', hk r _ 42 h.rr (by decide) (by decide) h.ne, h.ne, h.ge, h.kp.trans (hk.wide fun k e => .inl e)⟩

set_option maxHeartbeats 8000000 in
set_option maxRecDepth 100000 in
theorem one_call (app : Int → Int → Int → Option (Int × Int)) (kk : Nat) (hF : FunOk app kk) (w0 w : World) (g wb r : Nat) (nw : Int) (fs : List S35) (inp : ByteArray) (fuel : Int) (s s' : Rc) (regs : List Int) (A : Option Addr) (c : Nat) (vo : Value) (d a b k base size n : Int)
    (hfu : fuel ≤ 1000000) (h : OS w0 w w g wb r nw fs inp fuel s regs A c vo) (hs : rfun app inp fs fuel kk s base = some s') :
    Calls Try.prog 73 #[.pointer (some ⟨g, 0, none⟩), tacV ⟨10, d, a, b, k, base, size, n⟩, .slice (some ⟨r, 0, none⟩) regs.length regs.length] w fun e w' => e = .returned (.tuple #[]) ∧ OAfter w0 w g wb r nw fs inp fuel A c (s', regs) w' := by
  have HM := Aside0.mk h
  have HS := Aside0.mk hs
  have HF := Aside0.mk hF
  have HU := Aside0.mk hfu
  obtain ⟨m0, m1, m2, m3, m4, m5, m6, m7, m8, lg, lw, fg, fw⟩ := h.rs.cells
  obtain ⟨lr, nrg, ngr, fr⟩ := h.frees
  clear h hs hF hfu fg fw fr
  unfold tacV
  go_enter Try.func73, Try.ntmps73
  go_wp2_with fail
  with_reducible refine (HF.out.use w0 _ g wb nw fs inp fuel s s' A c vo base HU.out (HM.out.rs.alloc _) HS.out).mono ?_
  rintro e w1 ⟨rfl, vo', h1, h2⟩
  have HO := Aside0.mk ((HM.out.alloc _).through h1 h2)
  clear h1 h2
  go_wp2
  go_end0
  exact ⟨rfl, _, HO.out⟩

theorem rone_calls (app : Int → Int → Int → Option (Int × Int)) (happ : AppOk app) (kk : Nat) (hF : FunOk app kk) (w0 w : World) (g wb r : Nat) (nw : Int) (fs : List S35) (inp : ByteArray) (fuel : Int) (s : Rc) (regs : List Int) (A : Option Addr) (c : Nat) (vo : Value) (t : S44) (q : Rc × List Int)
    (hfu : fuel ≤ 1000000) (h : OS w0 w w g wb r nw fs inp fuel s regs A c vo) (hs : rone app inp fs fuel (kk + 1) s regs t = some q) :
    Calls Try.prog 73 #[.pointer (some ⟨g, 0, none⟩), .agg #[.int .i64 t.f0, .int .i64 t.f1, .int .i64 t.f2, .int .i64 t.f3, .int .i64 t.f4, .int .i64 t.f5, .int .i64 t.f6, .int .u32 t.f7], .slice (some ⟨r, 0, none⟩) regs.length regs.length] w fun e w' => e = .returned (.tuple #[]) ∧ OAfter w0 w g wb r nw fs inp fuel A c q w' := by
  rw [rone] at hs
  by_cases e : t.f0 = 10
  · rw [if_pos e] at hs
    obtain ⟨s', h1, rfl⟩ := Option.map_eq_some_iff.1 hs
    obtain ⟨op, d, a, b, k, base, size, n⟩ := t
    simp only at e
    subst e
    exact one_call app kk hF w0 w g wb r nw fs inp fuel s s' regs A c vo d a b k base size n hfu h h1
  · rw [if_neg e] at hs
    obtain ⟨ws, out, read, steps, en⟩ := s
    exact rloc_calls app happ w0 w g wb r nw fs inp fuel ws out regs read steps en A c vo t q h hs
end Go.Proofs.Ytocnkjhicbmmoaa.Q
