/- block's (*machine).do: each instruction does what the step of numbers and lists tells. -/
import Derived.Test.YtocnkjhicbmmoaaM1
import Derived.Test.YtocnkjhicbmmoaaQ13
import Derived.StillTailTactics
import Derived.Deep.RegionWith
import Derived.Deep.RegionLaw
namespace Go.Proofs.Ytocnkjhicbmmoaa.Q
open Go.RowKit Go.Proofs.YtocnkjhicbmmoaaW.PrintWords Go.Proofs.YtocnkjhicbmmoaaW.PrintLast
set_option linter.unusedVariables false
set_option linter.unusedSimpArgs false

theorem FrOk.cells {w0 W : World} {p r : Nat} {f : Fr} (h : FrOk w0 W p r f) : ∃ A c, W.cell? ⟨p, 0, none⟩ = some (.int .i64 f.fn.f0) ∧ W.cell? ⟨p, 1, none⟩ = some (.slice A f.fn.f1.length c) ∧
    W.cell? ⟨p, 2, none⟩ = some (.slice (some ⟨r, 0, none⟩) f.regs.length f.regs.length) ∧ W.cell? ⟨p, 3, none⟩ = some (.int .i64 f.blk) ∧ W.cell? ⟨p, 4, none⟩ = some (.int .i64 f.at_) ∧
    p < W.heap.size ∧ r < W.heap.size ∧ (∀ i, W.frozen? ⟨p, i, none⟩ = false) ∧ (∀ i, W.frozen? ⟨r, i, none⟩ = false) ∧ f.fn.f1.length ≤ c ∧ Kd.C k41 w0 A f.fn.f1.length f.fn.f1 := by
  obtain ⟨A, c, h1, h2, h3, h4, h5, h6⟩ := h
  exact ⟨A, c, (blk_cell h1 0).trans rfl, (blk_cell h1 1).trans rfl, (blk_cell h1 2).trans rfl, (blk_cell h1 3).trans rfl, (blk_cell h1 4).trans rfl, blk_lt h1, blk_lt h4, blk_frozen h1, blk_frozen h4, h2, h3⟩
theorem FrOk.reg {w0 W : World} {p r : Nat} {f : Fr} (h : FrOk w0 W p r f) {i v : Int} (h0 : 0 ≤ i) (hv : f.regs[i.toNat]? = some v) : W.cell? ⟨r, i.toNat, none⟩ = some (.int .u32 v) := by
  obtain ⟨A, c, h1, h2, h3, h4, h5, h6⟩ := h
  rw [blk_cell h4]
  simp [nums, hv]
theorem MS.cells {w0 W : World} {g wb : Nat} {nw : Int} {fs : List S35} {s : Mc} {loc : List (Nat × Nat)} {A : Option Addr} {c : Nat} {vo vc : Value} (h : MS w0 W g wb nw fs s loc A c vo vc) :
    W.cell? ⟨g, 0, none⟩ = some (.int .i64 nw) ∧ W.cell? ⟨g, 1, none⟩ = some (.slice A fs.length c) ∧ W.cell? ⟨g, 2, none⟩ = some (.string s.inp) ∧ W.cell? ⟨g, 3, none⟩ = some (.slice (some ⟨wb, 0, none⟩) s.ws.length s.ws.length) ∧
    W.cell? ⟨g, 4, none⟩ = some vo ∧ W.cell? ⟨g, 5, none⟩ = some vc ∧ W.cell? ⟨g, 6, none⟩ = some (.int .i64 s.en) ∧ g < W.heap.size ∧ wb < W.heap.size ∧ (∀ i, W.frozen? ⟨g, i, none⟩ = false) ∧ (∀ i, W.frozen? ⟨wb, i, none⟩ = false) := by
  have h1 := h.m
  exact ⟨(blk_cell h1 0).trans rfl, (blk_cell h1 1).trans rfl, (blk_cell h1 2).trans rfl, (blk_cell h1 3).trans rfl, (blk_cell h1 4).trans rfl, (blk_cell h1 5).trans rfl, (blk_cell h1 6).trans rfl, blk_lt h1, blk_lt h.words, blk_frozen h1, blk_frozen h.words⟩
theorem MS.word {w0 W : World} {g wb : Nat} {nw : Int} {fs : List S35} {s : Mc} {loc : List (Nat × Nat)} {A : Option Addr} {c : Nat} {vo vc : Value} (h : MS w0 W g wb nw fs s loc A c vo vc) {i v : Int} (h0 : 0 ≤ i) (hv : s.ws[i.toNat]? = some v) : W.cell? ⟨wb, i.toNat, none⟩ = some (.int .u32 v) := by
  rw [blk_cell h.words]
  simp [nums, hv]
theorem get_lt {xs : List Int} {i v : Int} (h0 : 0 ≤ i) (hv : xs[i.toNat]? = some v) : i < xs.length := by
  have := (List.getElem?_eq_some_iff.1 hv).1
  omega
theorem inp_empty {s : ByteArray} (h : s.size = 0) : s.toList = [] := by
  rw [Lib.toList_data]; exact List.eq_nil_of_length_eq_zero (by rw [data_length]; exact h)
theorem inp_some2 {s : ByteArray} (h : 0 < s.size) : s.toList.isEmpty = false := by
  rw [Lib.toList_data, List.isEmpty_eq_false_iff]; intro he; have := data_length s; rw [he] at this; simp at this; omega
theorem inp_some {s : ByteArray} (h : 0 < s.size) : (!s.toList.isEmpty) = true := by
  rw [inp_some2 h]; rfl
theorem inp_at0 {s : ByteArray} (h : 0 < s.size) : (((s[0]'h).toNat : Int) % 4294967296) = bt s 0 := by
  have h1 := bt_at s 0 h
  have h2 := bt_range s 0
  have h3 : (((s[(0 : Int).toNat]'h).toNat : Int)) = (s[0]'h).toNat := rfl
  omega
theorem info5 : (Try.prog.info? 5).map (fun i => (i.zero, i.size, i.bytes)) = some (some (.int .u8 0), 1, 1) := by kernel_rfl
theorem get_of {xs : List Int} {i : Int} (h0 : 0 ≤ i) (h1 : i < xs.length) : xs[i.toNat]? = some (xs.getD i.toNat 0) := by
  rw [List.getD_eq_getElem?_getD, List.getElem?_eq_getElem (by omega)]; rfl

set_option maxHeartbeats 8000000 in
set_option maxRecDepth 100000 in
theorem do_const (w0 w : World) (g wb : Nat) (nw : Int) (fs : List S35) (inp : ByteArray) (ws out : List Int) (f : Fr) (st : List Fr) (en : Int) (p r : Nat) (loc : List (Nat × Nat)) (A : Option Addr) (c : Nat) (vo vc : Value) (d a b k base size n : Int)
    (h : MS w0 w g wb nw fs ⟨inp, ws, out, f :: st, en⟩ ((p, r) :: loc) A c vo vc) (hd0 : 0 ≤ d) (hd1 : d < f.regs.length) :
    Calls Try.prog 42 #[.pointer (some ⟨g, 0, none⟩), .pointer (some ⟨p, 0, none⟩), tacV ⟨1, d, a, b, k, base, size, n⟩] w fun e w' => e = .returned (.tuple #[]) ∧ MS w0 w' g wb nw fs ⟨inp, ws, out, { f with regs := f.regs.set d.toNat n } :: st, en⟩ ((p, r) :: loc) A c vo vc := by
  have HM := Aside0.mk h
  obtain ⟨Af, cf, c0, c1, c2, c3, c4, lp, lr, fp, fr, _, _⟩ := h.top.cells
  obtain ⟨m0, m1, m2, m3, m4, m5, m6, lg, lw, fg, fw⟩ := h.cells
  simp only at m2 m3 m6
  have hd := h.top.reg hd0 (get_of hd0 hd1)
  have fd := fr d.toNat
  clear h fp fr fg fw
  unfold tacV
  go_enter Try.func42, Try.ntmps42
  go_wp2
  go_end0
  exact ⟨rfl, by repeat (first | (with_reducible exact HM.out) | (with_reducible refine MS.drew ?_) | (with_reducible refine MS.drewN ?_ _) | (with_reducible refine MS.alloc ?_ _) | (with_reducible refine MS.set_reg (f := f) (l := (p, r)) ?_ _ _) | exact HM.out)⟩

set_option maxHeartbeats 8000000 in
set_option maxRecDepth 100000 in
theorem do_copy (w0 w : World) (g wb : Nat) (nw : Int) (fs : List S35) (inp : ByteArray) (ws out : List Int) (f : Fr) (st : List Fr) (en : Int) (p r : Nat) (loc : List (Nat × Nat)) (A : Option Addr) (c : Nat) (vo vc : Value) (d a b k base size n : Int)
    (h : MS w0 w g wb nw fs ⟨inp, ws, out, f :: st, en⟩ ((p, r) :: loc) A c vo vc) (hd0 : 0 ≤ d) (hd1 : d < f.regs.length) (ha0 : 0 ≤ a) {va : Int} (ha : f.regs[a.toNat]? = some va) :
    Calls Try.prog 42 #[.pointer (some ⟨g, 0, none⟩), .pointer (some ⟨p, 0, none⟩), tacV ⟨2, d, a, b, k, base, size, n⟩] w fun e w' => e = .returned (.tuple #[]) ∧ MS w0 w' g wb nw fs ⟨inp, ws, out, { f with regs := f.regs.set d.toNat va } :: st, en⟩ ((p, r) :: loc) A c vo vc := by
  have HM := Aside0.mk h
  obtain ⟨Af, cf, c0, c1, c2, c3, c4, lp, lr, fp, fr, _, _⟩ := h.top.cells
  obtain ⟨m0, m1, m2, m3, m4, m5, m6, lg, lw, fg, fw⟩ := h.cells
  simp only at m2 m3 m6
  have hd := h.top.reg hd0 (get_of hd0 hd1)
  have fd := fr d.toNat
  have hA := h.top.reg ha0 ha
  have ha1 := get_lt ha0 ha
  have HA := Aside0.mk ha
  clear ha
  clear h fp fr fg fw
  unfold tacV
  go_enter Try.func42, Try.ntmps42
  go_wp2
  go_region
  all_goals (try go_wp2)
  all_goals (go_end0; exact ⟨rfl, by repeat (first | (with_reducible exact HM.out) | (with_reducible refine MS.drew ?_) | (with_reducible refine MS.drewN ?_ _) | (with_reducible refine MS.alloc ?_ _) | (with_reducible refine MS.set_reg (f := f) (l := (p, r)) ?_ _ _) | exact HM.out)⟩)

set_option maxHeartbeats 8000000 in
set_option maxRecDepth 100000 in
theorem do_load (w0 w : World) (g wb : Nat) (nw : Int) (fs : List S35) (inp : ByteArray) (ws out : List Int) (f : Fr) (st : List Fr) (en : Int) (p r : Nat) (loc : List (Nat × Nat)) (A : Option Addr) (c : Nat) (vo vc : Value) (d a b k base size n : Int)
    (h : MS w0 w g wb nw fs ⟨inp, ws, out, f :: st, en⟩ ((p, r) :: loc) A c vo vc) (hd0 : 0 ≤ d) (hd1 : d < f.regs.length) (hw0 : 0 ≤ base) {vw : Int} (hw : ws[(base).toNat]? = some vw) :
    Calls Try.prog 42 #[.pointer (some ⟨g, 0, none⟩), .pointer (some ⟨p, 0, none⟩), tacV ⟨4, d, a, b, k, base, size, n⟩] w fun e w' => e = .returned (.tuple #[]) ∧ MS w0 w' g wb nw fs ⟨inp, ws, out, { f with regs := f.regs.set d.toNat vw } :: st, en⟩ ((p, r) :: loc) A c vo vc := by
  have HM := Aside0.mk h
  obtain ⟨Af, cf, c0, c1, c2, c3, c4, lp, lr, fp, fr, _, _⟩ := h.top.cells
  obtain ⟨m0, m1, m2, m3, m4, m5, m6, lg, lw, fg, fw⟩ := h.cells
  simp only at m2 m3 m6
  have hd := h.top.reg hd0 (get_of hd0 hd1)
  have fd := fr d.toNat
  have hW := h.word hw0 hw
  have hw1 := get_lt hw0 hw
  have HW := Aside0.mk hw
  clear hw
  clear h fp fr fg fw
  unfold tacV
  go_enter Try.func42, Try.ntmps42
  go_wp2
  go_region
  all_goals (try go_wp2)
  all_goals (go_end0; exact ⟨rfl, by repeat (first | (with_reducible exact HM.out) | (with_reducible refine MS.drew ?_) | (with_reducible refine MS.drewN ?_ _) | (with_reducible refine MS.alloc ?_ _) | (with_reducible refine MS.set_reg (f := f) (l := (p, r)) ?_ _ _) | exact HM.out)⟩)

set_option maxHeartbeats 8000000 in
set_option maxRecDepth 100000 in
theorem do_store (w0 w : World) (g wb : Nat) (nw : Int) (fs : List S35) (inp : ByteArray) (ws out : List Int) (f : Fr) (st : List Fr) (en : Int) (p r : Nat) (loc : List (Nat × Nat)) (A : Option Addr) (c : Nat) (vo vc : Value) (d a b k base size n : Int)
    (h : MS w0 w g wb nw fs ⟨inp, ws, out, f :: st, en⟩ ((p, r) :: loc) A c vo vc) (hw0 : 0 ≤ base) (hw1 : base < ws.length) (ha0 : 0 ≤ a) {va : Int} (ha : f.regs[a.toNat]? = some va) :
    Calls Try.prog 42 #[.pointer (some ⟨g, 0, none⟩), .pointer (some ⟨p, 0, none⟩), tacV ⟨5, d, a, b, k, base, size, n⟩] w fun e w' => e = .returned (.tuple #[]) ∧ MS w0 w' g wb nw fs ⟨inp, ws.set (base).toNat va, out, f :: st, en⟩ ((p, r) :: loc) A c vo vc := by
  have HM := Aside0.mk h
  obtain ⟨Af, cf, c0, c1, c2, c3, c4, lp, lr, fp, fr, _, _⟩ := h.top.cells
  obtain ⟨m0, m1, m2, m3, m4, m5, m6, lg, lw, fg, fw⟩ := h.cells
  simp only at m2 m3 m6
  have hA := h.top.reg ha0 ha
  have ha1 := get_lt ha0 ha
  have HA := Aside0.mk ha
  clear ha
  have hW := h.word hw0 (get_of hw0 hw1)
  have fW := fw (base).toNat
  clear h fp fr fg fw
  unfold tacV
  go_enter Try.func42, Try.ntmps42
  go_wp2
  go_region
  all_goals (try go_wp2)
  all_goals (go_end0; exact ⟨rfl, by repeat (first | (with_reducible exact HM.out) | (with_reducible refine MS.drew ?_) | (with_reducible refine MS.drewN ?_ _) | (with_reducible refine MS.alloc ?_ _) | (with_reducible refine MS.set_word (s := ⟨inp, ws, out, f :: st, en⟩) ?_ _ _) | exact HM.out)⟩)

set_option maxHeartbeats 8000000 in
set_option maxRecDepth 100000 in
theorem do_bin (w0 w : World) (g wb : Nat) (nw : Int) (fs : List S35) (inp : ByteArray) (ws out : List Int) (f : Fr) (st : List Fr) (en : Int) (p r : Nat) (loc : List (Nat × Nat)) (A : Option Addr) (c : Nat) (vo vc : Value) (d a b k base size n : Int)
    (h : MS w0 w g wb nw fs ⟨inp, ws, out, f :: st, en⟩ ((p, r) :: loc) A c vo vc) (hd0 : 0 ≤ d) (hd1 : d < f.regs.length) (ha0 : 0 ≤ a) {va : Int} (ha : f.regs[a.toNat]? = some va) (hb0 : 0 ≤ b) {vb : Int} (hb : f.regs[b.toNat]? = some vb) {v : Int} (hap : word_Apply.f 1 k va vb = some (v, 0)) :
    Calls Try.prog 42 #[.pointer (some ⟨g, 0, none⟩), .pointer (some ⟨p, 0, none⟩), tacV ⟨3, d, a, b, k, base, size, n⟩] w fun e w' => e = .returned (.tuple #[]) ∧ MS w0 w' g wb nw fs ⟨inp, ws, out, { f with regs := f.regs.set d.toNat v } :: st, en⟩ ((p, r) :: loc) A c vo vc := by
  have HM := Aside0.mk h
  obtain ⟨Af, cf, c0, c1, c2, c3, c4, lp, lr, fp, fr, _, _⟩ := h.top.cells
  obtain ⟨m0, m1, m2, m3, m4, m5, m6, lg, lw, fg, fw⟩ := h.cells
  simp only at m2 m3 m6
  have hd := h.top.reg hd0 (get_of hd0 hd1)
  have fd := fr d.toNat
  have hA := h.top.reg ha0 ha
  have ha1 := get_lt ha0 ha
  have HA := Aside0.mk ha
  clear ha
  have hB := h.top.reg hb0 hb
  have hb1 := get_lt hb0 hb
  have HB := Aside0.mk hb
  clear hb
  have HP := Aside0.mk hap
  clear hap
  clear h fp fr fg fw
  unfold tacV
  go_enter Try.func42, Try.ntmps42
  go_wp2
  go_quiet ((go_at_call 70; exact Calls.quiet_of (by first | exact (word_Apply.calls _ _ _ _ _ _ _ HP.out).mono fun e w2 hq => ⟨hq.1, hq.2.out⟩)))
  go_wp2
  all_goals (go_end0; exact ⟨rfl, by repeat (first | (with_reducible exact HM.out) | (with_reducible refine MS.drew ?_) | (with_reducible refine MS.drewN ?_ _) | (with_reducible refine MS.alloc ?_ _) | (with_reducible refine MS.set_reg (f := f) (l := (p, r)) ?_ _ _) | exact HM.out)⟩)

set_option maxHeartbeats 8000000 in
set_option maxRecDepth 100000 in
theorem do_zero (w0 w : World) (g wb : Nat) (nw : Int) (fs : List S35) (inp : ByteArray) (ws out : List Int) (f : Fr) (st : List Fr) (en : Int) (p r : Nat) (loc : List (Nat × Nat)) (A : Option Addr) (c : Nat) (vo vc : Value) (d a b k base size n : Int)
    (h : MS w0 w g wb nw fs ⟨inp, ws, out, f :: st, en⟩ ((p, r) :: loc) A c vo vc) (ha0 : 0 ≤ a) {va : Int} (ha : f.regs[a.toNat]? = some va) (hb0 : 0 ≤ b) {vb : Int} (hb : f.regs[b.toNat]? = some vb) {v e0 : Int} (hap : word_Apply.f 1 k va vb = some (v, e0)) (he0 : (e0 != 0) = true) :
    Calls Try.prog 42 #[.pointer (some ⟨g, 0, none⟩), .pointer (some ⟨p, 0, none⟩), tacV ⟨3, d, a, b, k, base, size, n⟩] w fun e w' => e = .returned (.tuple #[]) ∧ MS w0 w' g wb nw fs ⟨inp, ws, out, f :: st, 2⟩ ((p, r) :: loc) A c vo vc := by
  have HM := Aside0.mk h
  obtain ⟨Af, cf, c0, c1, c2, c3, c4, lp, lr, fp, fr, _, _⟩ := h.top.cells
  obtain ⟨m0, m1, m2, m3, m4, m5, m6, lg, lw, fg, fw⟩ := h.cells
  simp only at m2 m3 m6
  have hA := h.top.reg ha0 ha
  have ha1 := get_lt ha0 ha
  have HA := Aside0.mk ha
  clear ha
  have hB := h.top.reg hb0 hb
  have hb1 := get_lt hb0 hb
  have HB := Aside0.mk hb
  clear hb
  have HP := Aside0.mk hap
  clear hap
  have fe := fg 6
  clear h fp fr fg fw
  unfold tacV
  go_enter Try.func42, Try.ntmps42
  go_wp2
  go_quiet ((go_at_call 70; exact Calls.quiet_of (by first | exact (word_Apply.calls _ _ _ _ _ _ _ HP.out).mono fun e w2 hq => ⟨hq.1, hq.2.out⟩)))
  go_wp2
  refine bodyPost_ret (results_none rfl _ _ _) rfl ⟨rfl, ?_⟩
  exact (by repeat (first | (with_reducible exact HM.out) | (with_reducible refine MS.drew ?_) | (with_reducible refine MS.drewN ?_ _) | (with_reducible refine MS.alloc ?_ _) | (with_reducible refine MS.set_end (s := ⟨inp, ws, out, f :: st, en⟩) ?_ _) | exact HM.out))

set_option maxHeartbeats 8000000 in
set_option maxRecDepth 100000 in
theorem do_aload (w0 w : World) (g wb : Nat) (nw : Int) (fs : List S35) (inp : ByteArray) (ws out : List Int) (f : Fr) (st : List Fr) (en : Int) (p r : Nat) (loc : List (Nat × Nat)) (A : Option Addr) (c : Nat) (vo vc : Value) (d a b k base size n : Int)
    (h : MS w0 w g wb nw fs ⟨inp, ws, out, f :: st, en⟩ ((p, r) :: loc) A c vo vc) (hd0 : 0 ≤ d) (hd1 : d < f.regs.length) (ha0 : 0 ≤ a) {va : Int} (ha : f.regs[a.toNat]? = some va) (hin : va < size % 4294967296) (hw0 : 0 ≤ wrap64 (base + wrap64 va)) {vw : Int} (hw : ws[(wrap64 (base + wrap64 va)).toNat]? = some vw) :
    Calls Try.prog 42 #[.pointer (some ⟨g, 0, none⟩), .pointer (some ⟨p, 0, none⟩), tacV ⟨6, d, a, b, k, base, size, n⟩] w fun e w' => e = .returned (.tuple #[]) ∧ MS w0 w' g wb nw fs ⟨inp, ws, out, { f with regs := f.regs.set d.toNat vw } :: st, en⟩ ((p, r) :: loc) A c vo vc := by
  have HM := Aside0.mk h
  obtain ⟨Af, cf, c0, c1, c2, c3, c4, lp, lr, fp, fr, _, _⟩ := h.top.cells
  obtain ⟨m0, m1, m2, m3, m4, m5, m6, lg, lw, fg, fw⟩ := h.cells
  simp only at m2 m3 m6
  have hd := h.top.reg hd0 (get_of hd0 hd1)
  have fd := fr d.toNat
  have hA := h.top.reg ha0 ha
  have ha1 := get_lt ha0 ha
  have HA := Aside0.mk ha
  clear ha
  have hW := h.word hw0 hw
  have hw1 := get_lt hw0 hw
  have HW := Aside0.mk hw
  clear hw
  have hpl := fun W => place_in g ⟨6, d, a, b, k, base, size, n⟩ va W hin
  have HPL := Aside0.mk hpl
  clear hpl
  clear h fp fr fg fw
  unfold tacV
  go_enter Try.func42, Try.ntmps42
  go_wp2
  go_region_with (go_at_call 71; refine (HPL.out _).mono ?_; rintro e w2 ⟨rfl, o2, rfl⟩)
  all_goals (try go_wp2)
  all_goals (try (go_region; try go_wp2))
  all_goals (go_end0; exact ⟨rfl, by repeat (first | (with_reducible exact HM.out) | (with_reducible refine MS.drew ?_) | (with_reducible refine MS.drewN ?_ _) | (with_reducible refine MS.alloc ?_ _) | (with_reducible refine MS.set_reg (f := f) (l := (p, r)) ?_ _ _) | exact HM.out)⟩)

set_option maxHeartbeats 8000000 in
set_option maxRecDepth 100000 in
theorem do_aload_out (w0 w : World) (g wb : Nat) (nw : Int) (fs : List S35) (inp : ByteArray) (ws out : List Int) (f : Fr) (st : List Fr) (en : Int) (p r : Nat) (loc : List (Nat × Nat)) (A : Option Addr) (c : Nat) (vo vc : Value) (d a b k base size n : Int)
    (h : MS w0 w g wb nw fs ⟨inp, ws, out, f :: st, en⟩ ((p, r) :: loc) A c vo vc) (ha0 : 0 ≤ a) {va : Int} (ha : f.regs[a.toNat]? = some va) (hout : ¬ va < size % 4294967296) :
    Calls Try.prog 42 #[.pointer (some ⟨g, 0, none⟩), .pointer (some ⟨p, 0, none⟩), tacV ⟨6, d, a, b, k, base, size, n⟩] w fun e w' => e = .returned (.tuple #[]) ∧ MS w0 w' g wb nw fs ⟨inp, ws, out, f :: st, 3⟩ ((p, r) :: loc) A c vo vc := by
  have HM := Aside0.mk h
  obtain ⟨Af, cf, c0, c1, c2, c3, c4, lp, lr, fp, fr, _, _⟩ := h.top.cells
  obtain ⟨m0, m1, m2, m3, m4, m5, m6, lg, lw, fg, fw⟩ := h.cells
  simp only at m2 m3 m6
  have hA := h.top.reg ha0 ha
  have ha1 := get_lt ha0 ha
  have HA := Aside0.mk ha
  clear ha
  have hpl := fun W {cs} hm {en} hs => place_out g ⟨6, d, a, b, k, base, size, n⟩ va W hout (cs := cs) hm (en := en) hs
  have HPL := Aside0.mk hpl
  clear hpl
  have fe := fg 6
  clear h fp fr fg fw
  unfold tacV
  go_enter Try.func42, Try.ntmps42
  go_wp2
  go_region_with (go_at_call 71; refine (HPL.out _ (by (with_reducible repeat (first | refine blk_drewN ?_ _ | refine blk_drew ?_ | refine blk_alloc ?_ _)); exact HM.out.m) rfl).mono ?_; rintro e w2 ⟨rfl, o2, rfl⟩)
  all_goals (try go_wp2)
  all_goals (try (go_region; try go_wp2))
  all_goals (go_end0; exact ⟨rfl, by repeat (first | (with_reducible exact HM.out) | (with_reducible refine MS.drew ?_) | (with_reducible refine MS.drewN ?_ _) | (with_reducible refine MS.alloc ?_ _) | (with_reducible refine MS.set_end (s := ⟨inp, ws, out, f :: st, en⟩) ?_ _) | exact HM.out)⟩)

set_option maxHeartbeats 8000000 in
set_option maxRecDepth 100000 in
theorem do_astore (w0 w : World) (g wb : Nat) (nw : Int) (fs : List S35) (inp : ByteArray) (ws out : List Int) (f : Fr) (st : List Fr) (en : Int) (p r : Nat) (loc : List (Nat × Nat)) (A : Option Addr) (c : Nat) (vo vc : Value) (d a b k base size n : Int)
    (h : MS w0 w g wb nw fs ⟨inp, ws, out, f :: st, en⟩ ((p, r) :: loc) A c vo vc) (ha0 : 0 ≤ a) {va : Int} (ha : f.regs[a.toNat]? = some va) (hin : va < size % 4294967296) (hw0 : 0 ≤ wrap64 (base + wrap64 va)) (hw1 : wrap64 (base + wrap64 va) < ws.length) (hb0 : 0 ≤ b) {vb : Int} (hb : f.regs[b.toNat]? = some vb) :
    Calls Try.prog 42 #[.pointer (some ⟨g, 0, none⟩), .pointer (some ⟨p, 0, none⟩), tacV ⟨7, d, a, b, k, base, size, n⟩] w fun e w' => e = .returned (.tuple #[]) ∧ MS w0 w' g wb nw fs ⟨inp, ws.set (wrap64 (base + wrap64 va)).toNat vb, out, f :: st, en⟩ ((p, r) :: loc) A c vo vc := by
  have HM := Aside0.mk h
  obtain ⟨Af, cf, c0, c1, c2, c3, c4, lp, lr, fp, fr, _, _⟩ := h.top.cells
  obtain ⟨m0, m1, m2, m3, m4, m5, m6, lg, lw, fg, fw⟩ := h.cells
  simp only at m2 m3 m6
  have hA := h.top.reg ha0 ha
  have ha1 := get_lt ha0 ha
  have HA := Aside0.mk ha
  clear ha
  have hB := h.top.reg hb0 hb
  have hb1 := get_lt hb0 hb
  have HB := Aside0.mk hb
  clear hb
  have hW := h.word hw0 (get_of hw0 hw1)
  have fW := fw (wrap64 (base + wrap64 va)).toNat
  have hpl := fun W => place_in g ⟨7, d, a, b, k, base, size, n⟩ va W hin
  have HPL := Aside0.mk hpl
  clear hpl
  clear h fp fr fg fw
  unfold tacV
  go_enter Try.func42, Try.ntmps42
  go_wp2
  go_region_with (go_at_call 71; refine (HPL.out _).mono ?_; rintro e w2 ⟨rfl, o2, rfl⟩)
  all_goals (try go_wp2)
  all_goals (try (go_region; try go_wp2))
  all_goals (go_end0; exact ⟨rfl, by repeat (first | (with_reducible exact HM.out) | (with_reducible refine MS.drew ?_) | (with_reducible refine MS.drewN ?_ _) | (with_reducible refine MS.alloc ?_ _) | (with_reducible refine MS.set_word (s := ⟨inp, ws, out, f :: st, en⟩) ?_ _ _) | exact HM.out)⟩)

set_option maxHeartbeats 8000000 in
set_option maxRecDepth 100000 in
theorem do_astore_out (w0 w : World) (g wb : Nat) (nw : Int) (fs : List S35) (inp : ByteArray) (ws out : List Int) (f : Fr) (st : List Fr) (en : Int) (p r : Nat) (loc : List (Nat × Nat)) (A : Option Addr) (c : Nat) (vo vc : Value) (d a b k base size n : Int)
    (h : MS w0 w g wb nw fs ⟨inp, ws, out, f :: st, en⟩ ((p, r) :: loc) A c vo vc) (ha0 : 0 ≤ a) {va : Int} (ha : f.regs[a.toNat]? = some va) (hout : ¬ va < size % 4294967296) :
    Calls Try.prog 42 #[.pointer (some ⟨g, 0, none⟩), .pointer (some ⟨p, 0, none⟩), tacV ⟨7, d, a, b, k, base, size, n⟩] w fun e w' => e = .returned (.tuple #[]) ∧ MS w0 w' g wb nw fs ⟨inp, ws, out, f :: st, 3⟩ ((p, r) :: loc) A c vo vc := by
  have HM := Aside0.mk h
  obtain ⟨Af, cf, c0, c1, c2, c3, c4, lp, lr, fp, fr, _, _⟩ := h.top.cells
  obtain ⟨m0, m1, m2, m3, m4, m5, m6, lg, lw, fg, fw⟩ := h.cells
  simp only at m2 m3 m6
  have hA := h.top.reg ha0 ha
  have ha1 := get_lt ha0 ha
  have HA := Aside0.mk ha
  clear ha
  have hpl := fun W {cs} hm {en} hs => place_out g ⟨7, d, a, b, k, base, size, n⟩ va W hout (cs := cs) hm (en := en) hs
  have HPL := Aside0.mk hpl
  clear hpl
  have fe := fg 6
  clear h fp fr fg fw
  unfold tacV
  go_enter Try.func42, Try.ntmps42
  go_wp2
  go_region_with (go_at_call 71; refine (HPL.out _ (by (with_reducible repeat (first | refine blk_drewN ?_ _ | refine blk_drew ?_ | refine blk_alloc ?_ _)); exact HM.out.m) rfl).mono ?_; rintro e w2 ⟨rfl, o2, rfl⟩)
  all_goals (try go_wp2)
  all_goals (try (go_region; try go_wp2))
  all_goals (go_end0; exact ⟨rfl, by repeat (first | (with_reducible exact HM.out) | (with_reducible refine MS.drew ?_) | (with_reducible refine MS.drewN ?_ _) | (with_reducible refine MS.alloc ?_ _) | (with_reducible refine MS.set_end (s := ⟨inp, ws, out, f :: st, en⟩) ?_ _) | exact HM.out)⟩)

set_option maxHeartbeats 8000000 in
set_option maxRecDepth 100000 in
theorem do_get_none (w0 w : World) (g wb : Nat) (nw : Int) (fs : List S35) (inp : ByteArray) (ws out : List Int) (f : Fr) (st : List Fr) (en : Int) (p r : Nat) (loc : List (Nat × Nat)) (A : Option Addr) (c : Nat) (vo vc : Value) (d a b k base size n : Int)
    (h : MS w0 w g wb nw fs ⟨inp, ws, out, f :: st, en⟩ ((p, r) :: loc) A c vo vc) (hd0 : 0 ≤ d) (hd1 : d < f.regs.length) (hin : inp.size = 0) :
    Calls Try.prog 42 #[.pointer (some ⟨g, 0, none⟩), .pointer (some ⟨p, 0, none⟩), tacV ⟨8, d, a, b, k, base, size, n⟩] w fun e w' => e = .returned (.tuple #[]) ∧ MS w0 w' g wb nw fs ⟨inp, ws, out, { f with regs := f.regs.set d.toNat 256 } :: st, en⟩ ((p, r) :: loc) A c vo vc := by
  have HM := Aside0.mk h
  obtain ⟨Af, cf, c0, c1, c2, c3, c4, lp, lr, fp, fr, _, _⟩ := h.top.cells
  obtain ⟨m0, m1, m2, m3, m4, m5, m6, lg, lw, fg, fw⟩ := h.cells
  simp only at m2 m3 m6
  have hd := h.top.reg hd0 (get_of hd0 hd1)
  have fd := fr d.toNat
  have hrg : r ≠ g := (h.nel (p, r) (by simp)).2.1
  have hgr : g ≠ r := Ne.symm hrg
  have hemp := inp_empty hin
  clear h fp fr fg fw
  unfold tacV
  go_enter Try.func42, Try.ntmps42
  go_wp2
  go_end0
  exact ⟨rfl, by repeat (first | (with_reducible exact HM.out) | (with_reducible refine MS.drew ?_) | (with_reducible refine MS.drewN ?_ _) | (with_reducible refine MS.alloc ?_ _) | (with_reducible refine MS.set_reg (f := f) (l := (p, r)) ?_ _ _) | exact HM.out)⟩

set_option maxHeartbeats 8000000 in
set_option maxRecDepth 100000 in
theorem do_get (w0 w : World) (g wb : Nat) (nw : Int) (fs : List S35) (inp : ByteArray) (ws out : List Int) (f : Fr) (st : List Fr) (en : Int) (p r : Nat) (loc : List (Nat × Nat)) (A : Option Addr) (c : Nat) (vo vc : Value) (d a b k base size n : Int)
    (h : MS w0 w g wb nw fs ⟨inp, ws, out, f :: st, en⟩ ((p, r) :: loc) A c vo vc) (hd0 : 0 ≤ d) (hd1 : d < f.regs.length) (hin : 0 < inp.size) :
    Calls Try.prog 42 #[.pointer (some ⟨g, 0, none⟩), .pointer (some ⟨p, 0, none⟩), tacV ⟨8, d, a, b, k, base, size, n⟩] w fun e w' => e = .returned (.tuple #[]) ∧ MS w0 w' g wb nw fs ⟨inp.extract 1 inp.size, ws, out, { f with regs := (f.regs.set d.toNat 256).set d.toNat (bt inp 0) } :: st, en⟩ ((p, r) :: loc) A c vo vc := by
  have HM := Aside0.mk h
  obtain ⟨Af, cf, c0, c1, c2, c3, c4, lp, lr, fp, fr, _, _⟩ := h.top.cells
  obtain ⟨m0, m1, m2, m3, m4, m5, m6, lg, lw, fg, fw⟩ := h.cells
  simp only at m2 m3 m6
  have hd := h.top.reg hd0 (get_of hd0 hd1)
  have fd := fr d.toNat
  have hrg : r ≠ g := (h.nel (p, r) (by simp)).2.1
  have hgr : g ≠ r := Ne.symm hrg
  have f2 := fg 2
  have hne := inp_some hin
  have hne2 := inp_some2 hin
  have hb0 : (0 : Nat) < inp.size := hin
  clear h fp fr fg fw
  unfold tacV
  go_enter Try.func42, Try.ntmps42
  go_wp2
  go_region
  all_goals (try go_wp2)
  all_goals (go_end0; refine ⟨rfl, ?_⟩; rw [inp_at0 hin]; exact (by repeat (first | (with_reducible exact HM.out) | (with_reducible refine MS.drew ?_) | (with_reducible refine MS.drewN ?_ _) | (with_reducible refine MS.alloc ?_ _) | (with_reducible refine MS.set_inp (s := ⟨inp, ws, out, { f with regs := (f.regs.set d.toNat 256).set d.toNat (bt inp 0) } :: st, en⟩) ?_ _) | (with_reducible refine MS.set_reg (f := { f with regs := f.regs.set d.toNat 256 }) (l := (p, r)) ?_ _ _) | (with_reducible refine MS.set_reg (f := f) (l := (p, r)) ?_ _ _) | exact HM.out)))

set_option maxHeartbeats 8000000 in
set_option maxRecDepth 100000 in
theorem do_put_full (w0 w : World) (g wb : Nat) (nw : Int) (fs : List S35) (inp : ByteArray) (ws out : List Int) (f : Fr) (st : List Fr) (en : Int) (p r : Nat) (loc : List (Nat × Nat)) (A : Option Addr) (c : Nat) (vo vc : Value) (d a b k base size n : Int)
    (h : MS w0 w g wb nw fs ⟨inp, ws, out, f :: st, en⟩ ((p, r) :: loc) A c vo vc) (hfull : 65536 ≤ out.length) :
    Calls Try.prog 42 #[.pointer (some ⟨g, 0, none⟩), .pointer (some ⟨p, 0, none⟩), tacV ⟨9, d, a, b, k, base, size, n⟩] w fun e w' => e = .returned (.tuple #[]) ∧ MS w0 w' g wb nw fs ⟨inp, ws, out, f :: st, 4⟩ ((p, r) :: loc) A c vo vc := by
  obtain ⟨Af, cf, c0, c1, c2, c3, c4, lp, lr, fp, fr, _, _⟩ := h.top.cells
  obtain ⟨m0, m1, m2, m3, m4, m5, m6, lg, lw, fg, fw⟩ := h.cells
  simp only at m2 m3 m6
  obtain ⟨Ao, co, rfl⟩ := own_slice h.out
  have hf4 : (65536 : Int) ≤ (out.length : Int) := by omega
  have fe := fg 6
  have HM := Aside0.mk h
  clear h fp fr fg fw
  unfold tacV
  go_enter Try.func42, Try.ntmps42
  go_wp2
  refine bodyPost_ret (results_none rfl _ _ _) rfl ⟨rfl, ?_⟩
  exact (by repeat (first | (with_reducible exact HM.out) | (with_reducible refine MS.drew ?_) | (with_reducible refine MS.drewN ?_ _) | (with_reducible refine MS.alloc ?_ _) | (with_reducible refine MS.set_end (s := ⟨inp, ws, out, f :: st, en⟩) ?_ _) | exact HM.out))

set_option maxHeartbeats 8000000 in
set_option maxRecDepth 100000 in
theorem do_put (w0 w : World) (g wb : Nat) (nw : Int) (fs : List S35) (inp : ByteArray) (ws out : List Int) (f : Fr) (st : List Fr) (en : Int) (p r : Nat) (loc : List (Nat × Nat)) (A : Option Addr) (c : Nat) (vo vc : Value) (d a b k base size n : Int)
    (h : MS w0 w g wb nw fs ⟨inp, ws, out, f :: st, en⟩ ((p, r) :: loc) A c vo vc) (ha0 : 0 ≤ a) {va : Int} (ha : f.regs[a.toNat]? = some va) (hroom : ¬ 65536 ≤ out.length) :
    Calls Try.prog 42 #[.pointer (some ⟨g, 0, none⟩), .pointer (some ⟨p, 0, none⟩), tacV ⟨9, d, a, b, k, base, size, n⟩] w fun e w' => e = .returned (.tuple #[]) ∧ ∃ v1, MS w0 w' g wb nw fs ⟨inp, ws, out ++ [IntKind.u8.wrap va], f :: st, en⟩ ((p, r) :: loc) A c v1 vc := by
  obtain ⟨Af, cf, c0, c1, c2, c3, c4, lp, lr, fp, fr, _, _⟩ := h.top.cells
  obtain ⟨m0, m1, m2, m3, m4, m5, m6, lg, lw, fg, fw⟩ := h.cells
  simp only at m2 m3 m6
  obtain ⟨Ao, co, rfl⟩ := own_slice h.out
  have hf4 : ¬ (65536 : Int) ≤ (out.length : Int) := by omega
  have f4 := fg 4
  have HM := Aside0.mk h
  have hA := h.top.reg ha0 ha
  have ha1 := get_lt ha0 ha
  have HA := Aside0.mk ha
  clear ha
  clear h fp fr fg fw
  unfold tacV
  go_enter Try.func42, Try.ntmps42
  go_wp2
  go_region_law ((refine step_append_one w0.heap.size ?w1 (.tmp 188) (.tmp 195) 65 5 (.int .u8 0) 1 ?w2 Try.underlying65 info5 ?w3 ?w4 (.slice Ao out.length co) out.length (nums .u8 out) (.int .u8 (IntKind.u8.wrap va)) ?w5 ⟨w.heap.size + 1, 0, none⟩ ?w6 ?hc ?w7 ?ho ?hs ?hl ?_); (case w1 => rfl); (case w2 => rfl); (case w3 => rfl); (case w4 => decide); (case w5 => simp [Act.eval, Act.put]); (case w6 => simp [Act.eval, Act.put]); (case w7 => rfl); (case hc => go_simp); (case hs => have := HM.out.low.size; simp; omega); (case hl => omega); (case ho => repeat (first | exact HM.out.out | refine own_alloc ?_ _ | refine own_drew ?_)); intro gb cap w1 hown hg; (obtain ⟨h41, h42, h43⟩ : w1.cell? ⟨g, 4, none⟩ = some (.slice Ao out.length co) ∧ w1.frozen? ⟨g, 4, none⟩ = false ∧ g < w1.heap.size := by refine MS.at4 (w0 := w0) (wb := wb) (nw := nw) (fs := fs) (s := ⟨inp, ws, out, f :: st, en⟩) (loc := (p, r) :: loc) (A := A) (c := c) (vc := vc) ?_ hg; repeat (first | (with_reducible exact HM.out) | (with_reducible refine MS.drew ?_) | (with_reducible refine MS.drewN ?_ _) | (with_reducible refine MS.alloc ?_ _) | exact HM.out)); have HO := Aside0.mk hown; have HG := Aside0.mk hg; clear hown hg)
  all_goals (go_end0; refine ⟨rfl, _, MS.put_out ?_ HO.out HG.out⟩; repeat (first | (with_reducible exact HM.out) | (with_reducible refine MS.drew ?_) | (with_reducible refine MS.drewN ?_ _) | (with_reducible refine MS.alloc ?_ _) | exact HM.out))
  
end Go.Proofs.Ytocnkjhicbmmoaa.Q
