/- One step of block's machine, and its run, as functions of numbers and lists; do and over answer what these tell. -/
import Derived.Test.YtocnkjhicbmmoaaM4
namespace Go.Proofs.Ytocnkjhicbmmoaa.Q
open Go.RowKit Go.Proofs.YtocnkjhicbmmoaaW.PrintWords Go.Proofs.YtocnkjhicbmmoaaW.PrintLast
set_option linter.unusedVariables false
set_option linter.unusedSimpArgs false

def rget (xs : List Int) (i : Int) : Option Int := if 0 ≤ i then xs[i.toNat]? else none
def rset (xs : List Int) (i v : Int) : Option (List Int) := if 0 ≤ i ∧ i < xs.length then some (xs.set i.toNat v) else none
def mput (s : Mc) (f : Fr) (st : List Fr) (d v : Int) : Option Mc := (rset f.regs d v).map fun r => { s with stk := { f with regs := r } :: st }
def mdo (fs : List S35) (s : Mc) (f : Fr) (st : List Fr) (t : S44) : Option Mc :=
  if t.f0 = 1 then mput s f st t.f1 t.f7
  else if t.f0 = 2 then (rget f.regs t.f2).bind fun a => mput s f st t.f1 a
  else if t.f0 = 3 then (rget f.regs t.f2).bind fun a => (rget f.regs t.f3).bind fun b => (word_Apply.f 1 t.f4 a b).bind fun q => if q.2 = 0 then mput s f st t.f1 q.1 else some { s with en := 2 }
  else if t.f0 = 4 then (rget s.ws t.f5).bind fun a => mput s f st t.f1 a
  else if t.f0 = 5 then (rget f.regs t.f2).bind fun a => (rset s.ws t.f5 a).map fun w => { s with ws := w }
  else if t.f0 = 6 then (rget f.regs t.f2).bind fun a => if a < t.f6 % 4294967296 then (rget s.ws (wrap64 (t.f5 + wrap64 a))).bind fun v => mput s f st t.f1 v else some { s with en := 3 }
  else if t.f0 = 7 then (rget f.regs t.f2).bind fun a => if a < t.f6 % 4294967296 then (rget f.regs t.f3).bind fun b => (rset s.ws (wrap64 (t.f5 + wrap64 a)) b).map fun w => { s with ws := w } else some { s with en := 3 }
  else if t.f0 = 8 then (if s.inp.size = 0 then mput s f st t.f1 256 else mput { s with inp := s.inp.extract 1 s.inp.size } f st t.f1 (bt s.inp 0))
  else if t.f0 = 9 then (if 65536 ≤ s.out.length then some { s with en := 4 } else (rget f.regs t.f2).map fun a => { s with out := s.out ++ [IntKind.u8.wrap a] })
  else if t.f0 = 10 then (if 0 ≤ t.f5 ∧ t.f5 < fs.length ∧ 0 ≤ (rd_T35 fs t.f5).f0 ∧ (rd_T35 fs t.f5).f0 * 4 ≤ 281474976710656 then some { s with stk := ⟨rd_T35 fs t.f5, List.replicate (rd_T35 fs t.f5).f0.toNat 0, 0, 0⟩ :: f :: st } else none)
  else none
def mover (s : Mc) (f : Fr) (st : List Fr) (b : S41) : Option Mc :=
  if b.f1 = 1 then some { s with stk := { f with at_ := 0, blk := b.f3 } :: st }
  else if b.f1 = 2 then (rget f.regs b.f2).map fun v : Int => { s with stk := { f with at_ := 0, blk := if v ≠ 0 then b.f3 else b.f4 } :: st }
  else if st = [] then some { s with stk := [], en := 1 } else some { s with stk := st }
def mstep (fs : List S35) (s : Mc) : Option Mc :=
  match s.stk with
  | [] => none
  | f :: st =>
    if 0 ≤ f.blk ∧ f.blk < f.fn.f1.length then
      (if f.at_ = (rd_T41 f.fn.f1 f.blk).f0.length then mover s f st (rd_T41 f.fn.f1 f.blk)
       else if 0 ≤ f.at_ ∧ f.at_ < (rd_T41 f.fn.f1 f.blk).f0.length then mdo fs { s with stk := { f with at_ := f.at_ + 1 } :: st } { f with at_ := f.at_ + 1 } st (rd_T44 (rd_T41 f.fn.f1 f.blk).f0 f.at_) else none)
    else none
def mrun (fs : List S35) (fuel : Int) : Nat → Int → Mc → Option (Mc × Int)
  | 0, _, _ => none
  | k + 1, n, s => if s.en = 0 then (if n ≥ fuel then some ({ s with en := 5 }, n) else (mstep fs s).bind fun s' => mrun fs fuel k (n + 1) s') else some (s, n)
def mstart (fs : List S35) (nw : Int) (inp : ByteArray) : Mc := ⟨inp, List.replicate nw.toNat 0, [], [⟨rd_T35 fs (fs.length - 1), List.replicate (rd_T35 fs (fs.length - 1)).f0.toNat 0, 0, 0⟩], 0⟩

theorem rget_some {xs : List Int} {i v : Int} (h : rget xs i = some v) : 0 ≤ i ∧ xs[i.toNat]? = some v := by
  unfold rget at h
  split at h
  · exact ⟨by assumption, h⟩
  · cases h
theorem rset_some {xs ys : List Int} {i v : Int} (h : rset xs i v = some ys) : (0 ≤ i ∧ i < xs.length) ∧ ys = xs.set i.toNat v := by
  unfold rset at h
  split at h
  · injection h with h; exact ⟨by assumption, h.symm⟩
  · cases h
theorem mput_some {s s' : Mc} {f : Fr} {st : List Fr} {d v : Int} (h : mput s f st d v = some s') : (0 ≤ d ∧ d < f.regs.length) ∧ s' = { s with stk := { f with regs := f.regs.set d.toNat v } :: st } := by
  unfold mput at h
  obtain ⟨r, hr, rfl⟩ := Option.map_eq_some_iff.1 h
  obtain ⟨h1, rfl⟩ := rset_some hr
  exact ⟨h1, rfl⟩

/-- What a call of the machine's own leaves. -/
def MAfter (w0 : World) (g wb : Nat) (nw : Int) (fs : List S35) (A : Option Addr) (c : Nat) (s : Mc) (w : World) : Prop := ∃ loc vo vc, MS w0 w g wb nw fs s loc A c vo vc

theorem do_calls (w0 w : World) (g wb : Nat) (nw : Int) (fs : List S35) (inp : ByteArray) (ws out : List Int) (f : Fr) (st : List Fr) (en : Int) (p r : Nat) (loc : List (Nat × Nat)) (A : Option Addr) (c : Nat) (vo vc : Value) (t : S44) (s' : Mc)
    (h : MS w0 w g wb nw fs ⟨inp, ws, out, f :: st, en⟩ ((p, r) :: loc) A c vo vc) (hs : mdo fs ⟨inp, ws, out, f :: st, en⟩ f st t = some s') (hst : (st.length + 2) * 8 ≤ 140737488355328) :
    Calls Try.prog 42 #[.pointer (some ⟨g, 0, none⟩), .pointer (some ⟨p, 0, none⟩), tacV t] w fun e w' => e = .returned (.tuple #[]) ∧ MAfter w0 g wb nw fs A c s' w' := by
  obtain ⟨op, d, a, b, k, base, size, n⟩ := t
  have fin : ∀ {e : Ending} {w' : World}, (e = .returned (.tuple #[]) ∧ MS w0 w' g wb nw fs s' ((p, r) :: loc) A c vo vc) → e = .returned (.tuple #[]) ∧ MAfter w0 g wb nw fs A c s' w' := fun hh => ⟨hh.1, _, _, _, hh.2⟩
  unfold mdo at hs
  simp only at hs
  by_cases e1 : op = 1
  · rw [if_pos e1] at hs
    obtain ⟨⟨h0, h1⟩, rfl⟩ := mput_some hs
    subst e1
    exact (do_const w0 w g wb nw fs inp ws out f st en p r loc A c vo vc d a b k base size n h h0 h1).mono fun e w' hh => fin hh
  rw [if_neg e1] at hs
  by_cases e2 : op = 2
  · rw [if_pos e2] at hs
    obtain ⟨va, ha, hs⟩ := Option.bind_eq_some_iff.1 hs
    obtain ⟨⟨h0, h1⟩, rfl⟩ := mput_some hs
    obtain ⟨ha0, ha⟩ := rget_some ha
    subst e2
    exact (do_copy w0 w g wb nw fs inp ws out f st en p r loc A c vo vc d a b k base size n h h0 h1 ha0 ha).mono fun e w' hh => fin hh
  rw [if_neg e2] at hs
  by_cases e3 : op = 3
  · rw [if_pos e3] at hs
    obtain ⟨va, ha, hs⟩ := Option.bind_eq_some_iff.1 hs
    obtain ⟨vb, hb, hs⟩ := Option.bind_eq_some_iff.1 hs
    obtain ⟨⟨v, e0⟩, hq, hs⟩ := Option.bind_eq_some_iff.1 hs
    obtain ⟨ha0, ha⟩ := rget_some ha
    obtain ⟨hb0, hb⟩ := rget_some hb
    subst e3
    simp only at hs
    by_cases hz : e0 = 0
    · rw [if_pos hz] at hs
      obtain ⟨⟨h0, h1⟩, rfl⟩ := mput_some hs
      subst hz
      exact (do_bin w0 w g wb nw fs inp ws out f st en p r loc A c vo vc d a b k base size n h h0 h1 ha0 ha hb0 hb hq).mono fun e w' hh => fin hh
    · rw [if_neg hz] at hs
      injection hs with hs
      subst hs
      exact (do_zero w0 w g wb nw fs inp ws out f st en p r loc A c vo vc d a b k base size n h ha0 ha hb0 hb hq (by rw [bne_iff_ne]; exact hz)).mono fun e w' hh => fin hh
  rw [if_neg e3] at hs
  by_cases e4 : op = 4
  · rw [if_pos e4] at hs
    obtain ⟨va, ha, hs⟩ := Option.bind_eq_some_iff.1 hs
    obtain ⟨⟨h0, h1⟩, rfl⟩ := mput_some hs
    obtain ⟨ha0, ha⟩ := rget_some ha
    subst e4
    exact (do_load w0 w g wb nw fs inp ws out f st en p r loc A c vo vc d a b k base size n h h0 h1 ha0 ha).mono fun e w' hh => fin hh
  rw [if_neg e4] at hs
  by_cases e5 : op = 5
  · rw [if_pos e5] at hs
    obtain ⟨va, ha, hs⟩ := Option.bind_eq_some_iff.1 hs
    obtain ⟨ws', hw, rfl⟩ := Option.map_eq_some_iff.1 hs
    obtain ⟨⟨h0, h1⟩, rfl⟩ := rset_some hw
    obtain ⟨ha0, ha⟩ := rget_some ha
    subst e5
    exact (do_store w0 w g wb nw fs inp ws out f st en p r loc A c vo vc d a b k base size n h h0 h1 ha0 ha).mono fun e w' hh => fin hh
  rw [if_neg e5] at hs
  by_cases e6 : op = 6
  · rw [if_pos e6] at hs
    obtain ⟨va, ha, hs⟩ := Option.bind_eq_some_iff.1 hs
    obtain ⟨ha0, ha⟩ := rget_some ha
    subst e6
    by_cases hin : va < size % 4294967296
    · rw [if_pos hin] at hs
      obtain ⟨vw, hw, hs⟩ := Option.bind_eq_some_iff.1 hs
      obtain ⟨hw0, hw⟩ := rget_some hw
      obtain ⟨⟨h0, h1⟩, rfl⟩ := mput_some hs
      exact (do_aload w0 w g wb nw fs inp ws out f st en p r loc A c vo vc d a b k base size n h h0 h1 ha0 ha hin hw0 hw).mono fun e w' hh => fin hh
    · rw [if_neg hin] at hs
      injection hs with hs
      subst hs
      exact (do_aload_out w0 w g wb nw fs inp ws out f st en p r loc A c vo vc d a b k base size n h ha0 ha hin).mono fun e w' hh => fin hh
  rw [if_neg e6] at hs
  by_cases e7 : op = 7
  · rw [if_pos e7] at hs
    obtain ⟨va, ha, hs⟩ := Option.bind_eq_some_iff.1 hs
    obtain ⟨ha0, ha⟩ := rget_some ha
    subst e7
    by_cases hin : va < size % 4294967296
    · rw [if_pos hin] at hs
      obtain ⟨vb, hb, hs⟩ := Option.bind_eq_some_iff.1 hs
      obtain ⟨hb0, hb⟩ := rget_some hb
      obtain ⟨ws', hw, rfl⟩ := Option.map_eq_some_iff.1 hs
      obtain ⟨⟨h0, h1⟩, rfl⟩ := rset_some hw
      exact (do_astore w0 w g wb nw fs inp ws out f st en p r loc A c vo vc d a b k base size n h ha0 ha hin h0 h1 hb0 hb).mono fun e w' hh => fin hh
    · rw [if_neg hin] at hs
      injection hs with hs
      subst hs
      exact (do_astore_out w0 w g wb nw fs inp ws out f st en p r loc A c vo vc d a b k base size n h ha0 ha hin).mono fun e w' hh => fin hh
  rw [if_neg e7] at hs
  by_cases e8 : op = 8
  · rw [if_pos e8] at hs
    subst e8
    by_cases hin : inp.size = 0
    · rw [if_pos hin] at hs
      obtain ⟨⟨h0, h1⟩, rfl⟩ := mput_some hs
      exact (do_get_none w0 w g wb nw fs inp ws out f st en p r loc A c vo vc d a b k base size n h h0 h1 hin).mono fun e w' hh => fin hh
    · rw [if_neg hin] at hs
      obtain ⟨⟨h0, h1⟩, rfl⟩ := mput_some hs
      have hd := do_get w0 w g wb nw fs inp ws out f st en p r loc A c vo vc d a b k base size n h h0 h1 (by omega)
      simp only [List.set_set] at hd
      exact hd.mono fun e w' hh => fin hh
  rw [if_neg e8] at hs
  by_cases e9 : op = 9
  · rw [if_pos e9] at hs
    subst e9
    by_cases hfull : 65536 ≤ out.length
    · rw [if_pos hfull] at hs
      injection hs with hs
      subst hs
      exact (do_put_full w0 w g wb nw fs inp ws out f st en p r loc A c vo vc d a b k base size n h hfull).mono fun e w' hh => fin hh
    · rw [if_neg hfull] at hs
      obtain ⟨va, ha, rfl⟩ := Option.map_eq_some_iff.1 hs
      obtain ⟨ha0, ha⟩ := rget_some ha
      exact (do_put w0 w g wb nw fs inp ws out f st en p r loc A c vo vc d a b k base size n h ha0 ha hfull).mono fun e w' ⟨hh, v1, hm⟩ => ⟨hh, _, _, _, hm⟩
  rw [if_neg e9] at hs
  by_cases e10 : op = 10
  · rw [if_pos e10] at hs
    subst e10
    split at hs
    · rename_i hc
      injection hs with hs
      subst hs
      obtain ⟨h0, h1, h2, h3⟩ := hc
      exact (do_call w0 w g wb nw fs inp ws out f st en p r loc A c vo vc d a b k base size n h h0 h1 (rd_T35 fs base).f0.toNat (by omega) (by omega) hst).mono fun e w' ⟨hh, p', r', v1, hm⟩ => ⟨hh, _, _, _, hm⟩
    · cases hs
  rw [if_neg e10] at hs
  cases hs

theorem over_calls (w0 w : World) (g wb : Nat) (nw : Int) (fs : List S35) (inp : ByteArray) (ws out : List Int) (f : Fr) (st : List Fr) (en : Int) (p r : Nat) (loc : List (Nat × Nat)) (A : Option Addr) (c : Nat) (vo vc : Value) (s' : Mc)
    (h : MS w0 w g wb nw fs ⟨inp, ws, out, f :: st, en⟩ ((p, r) :: loc) A c vo vc) (h0 : 0 ≤ f.blk) (h1 : f.blk < f.fn.f1.length) (hs : mover ⟨inp, ws, out, f :: st, en⟩ f st (rd_T41 f.fn.f1 f.blk) = some s') (hst : (st.length + 2) * 8 ≤ 140737488355328) :
    Calls Try.prog 41 #[.pointer (some ⟨g, 0, none⟩), .pointer (some ⟨p, 0, none⟩)] w fun e w' => e = .returned (.tuple #[]) ∧ MAfter w0 g wb nw fs A c s' w' := by
  unfold mover at hs
  simp only at hs
  by_cases e1 : (rd_T41 f.fn.f1 f.blk).f1 = 1
  · rw [if_pos e1] at hs
    injection hs with hs
    subst hs
    exact (over_jump w0 w g wb nw fs inp ws out f st en p r loc A c vo vc h h0 h1 e1).mono fun e w' hh => ⟨hh.1, _, _, _, hh.2⟩
  rw [if_neg e1] at hs
  by_cases e2 : (rd_T41 f.fn.f1 f.blk).f1 = 2
  · rw [if_pos e2] at hs
    obtain ⟨v, hv, rfl⟩ := Option.map_eq_some_iff.1 hs
    obtain ⟨hv0, hv⟩ := rget_some hv
    by_cases hz : v ≠ 0
    · simp only [if_pos hz]
      exact (over_then w0 w g wb nw fs inp ws out f st en p r loc A c vo vc h h0 h1 e2 hv0 hv (by rw [bne_iff_ne]; exact hz)).mono fun e w' hh => ⟨hh.1, _, _, _, hh.2⟩
    · simp only [if_neg hz]
      exact (over_else w0 w g wb nw fs inp ws out f st en p r loc A c vo vc h h0 h1 e2 hv0 hv (by simpa using hz)).mono fun e w' hh => ⟨hh.1, _, _, _, hh.2⟩
  rw [if_neg e2] at hs
  by_cases e3 : st = []
  · subst e3
    rw [if_pos rfl] at hs
    injection hs with hs
    subst hs
    exact (over_last w0 w g wb nw fs inp ws out f en p r loc A c vo vc h h0 h1 e1 e2).mono fun e w' ⟨hh, v1, hm⟩ => ⟨hh, _, _, _, hm⟩
  · rw [if_neg e3] at hs
    injection hs with hs
    subst hs
    exact (over_ret w0 w g wb nw fs inp ws out f st en p r loc A c vo vc h h0 h1 e1 e2 e3 (by omega)).mono fun e w' ⟨hh, v1, hm⟩ => ⟨hh, _, _, _, hm⟩
end Go.Proofs.Ytocnkjhicbmmoaa.Q
