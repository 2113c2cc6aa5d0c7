/- seedcornref24's (*runner).one: each instruction does what the step of numbers and lists tells. -/
import Derived.Test.YtocnkjhicbmmoaaR1
import Derived.Deep.RegionWith
import Derived.Deep.RegionLaw
import Derived.Deep.RegionHeld3
namespace Go.Proofs.Ytocnkjhicbmmoaa.Q
open Go.RowKit Go.Proofs.YtocnkjhicbmmoaaW.PrintWords Go.Proofs.YtocnkjhicbmmoaaW.PrintLast
set_option linter.unusedVariables false
set_option linter.unusedSimpArgs false
theorem bcell {W w1 : World} (hb : Below W.heap.size W w1) : (∀ b o, b < W.heap.size → w1.cell? ⟨b, o, none⟩ = W.cell? ⟨b, o, none⟩) ∧ (∀ b o, b < W.heap.size → w1.frozen? ⟨b, o, none⟩ = W.frozen? ⟨b, o, none⟩) :=
  ⟨fun b o h => hb.cell (p := ⟨b, o, none⟩) h, fun b o h => hb.frozen (p := ⟨b, o, none⟩) h⟩
theorem inp_atR {s : ByteArray} {i : Int} (h : i.toNat < s.size) : (((s[i.toNat]'h).toNat : Int) % 4294967296) = bt s i := by
  have h1 := bt_at s i h
  have h2 := bt_range s i
  omega

set_option maxHeartbeats 8000000 in
set_option maxRecDepth 100000 in
theorem one_const (w0 w : World) (g wb r : Nat) (nw : Int) (fs : List S35) (inp : ByteArray) (fuel : Int) (ws out regs : List Int) (read steps en : Int) (A : Option Addr) (c : Nat) (vo : Value) (d a b k base size n : Int)
    (h : OS w0 w w g wb r nw fs inp fuel ⟨ws, out, read, steps, en⟩ regs A c vo) (hd0 : 0 ≤ d) (hd1 : d < regs.length) :
    Calls Try.prog 73 #[.pointer (some ⟨g, 0, none⟩), tacV ⟨1, d, a, b, k, base, size, n⟩, .slice (some ⟨r, 0, none⟩) regs.length regs.length] w fun e w' => e = .returned (.tuple #[]) ∧ OS w0 w w' g wb r nw fs inp fuel ⟨ws, out, read, steps, en⟩ (regs.set d.toNat n) A c vo := by
  have HM := Aside0.mk h
  obtain ⟨m0, m1, m2, m3, m4, m5, m6, m7, m8, lg, lw, fg, fw⟩ := h.rs.cells
  obtain ⟨lr, nrg, ngr, fr⟩ := h.frees
  simp only at m4 m5 m6 m7 m8
  have hd := h.reg hd0 (get_of hd0 hd1)
  have fd := fr d.toNat
  clear h fr fg fw
  unfold tacV
  go_enter Try.func73, Try.ntmps73
  go_wp2
  go_end0
  exact ⟨rfl, by repeat (first | (with_reducible exact HM.out) | (with_reducible refine OS.drew ?_) | (with_reducible refine OS.drewN ?_ _) | (with_reducible refine OS.alloc ?_ _) | (with_reducible refine OS.set_reg (regs := regs) ?_ _ _) | exact HM.out)⟩

set_option maxHeartbeats 8000000 in
set_option maxRecDepth 100000 in
theorem one_copy (w0 w : World) (g wb r : Nat) (nw : Int) (fs : List S35) (inp : ByteArray) (fuel : Int) (ws out regs : List Int) (read steps en : Int) (A : Option Addr) (c : Nat) (vo : Value) (d a b k base size n : Int)
    (h : OS w0 w w g wb r nw fs inp fuel ⟨ws, out, read, steps, en⟩ regs A c vo) (hd0 : 0 ≤ d) (hd1 : d < regs.length) (ha0 : 0 ≤ a) {va : Int} (ha : regs[a.toNat]? = some va) :
    Calls Try.prog 73 #[.pointer (some ⟨g, 0, none⟩), tacV ⟨2, d, a, b, k, base, size, n⟩, .slice (some ⟨r, 0, none⟩) regs.length regs.length] w fun e w' => e = .returned (.tuple #[]) ∧ OS w0 w w' g wb r nw fs inp fuel ⟨ws, out, read, steps, en⟩ (regs.set d.toNat va) A c vo := by
  have HM := Aside0.mk h
  obtain ⟨m0, m1, m2, m3, m4, m5, m6, m7, m8, lg, lw, fg, fw⟩ := h.rs.cells
  obtain ⟨lr, nrg, ngr, fr⟩ := h.frees
  simp only at m4 m5 m6 m7 m8
  have hd := h.reg hd0 (get_of hd0 hd1)
  have fd := fr d.toNat
  have hA := h.reg ha0 ha
  have ha1 := get_lt ha0 ha
  have HA := Aside0.mk ha
  clear ha
  clear h fr fg fw
  unfold tacV
  go_enter Try.func73, Try.ntmps73
  go_wp2
  go_region
  all_goals (try go_wp2)
  all_goals (go_end0; exact ⟨rfl, by repeat (first | (with_reducible exact HM.out) | (with_reducible refine OS.drew ?_) | (with_reducible refine OS.drewN ?_ _) | (with_reducible refine OS.alloc ?_ _) | (with_reducible refine OS.set_reg (regs := regs) ?_ _ _) | exact HM.out)⟩)

set_option maxHeartbeats 8000000 in
set_option maxRecDepth 100000 in
theorem one_load (w0 w : World) (g wb r : Nat) (nw : Int) (fs : List S35) (inp : ByteArray) (fuel : Int) (ws out regs : List Int) (read steps en : Int) (A : Option Addr) (c : Nat) (vo : Value) (d a b k base size n : Int)
    (h : OS w0 w w g wb r nw fs inp fuel ⟨ws, out, read, steps, en⟩ regs A c vo) (hd0 : 0 ≤ d) (hd1 : d < regs.length) (hw0 : 0 ≤ base) {vw : Int} (hw : ws[(base).toNat]? = some vw) :
    Calls Try.prog 73 #[.pointer (some ⟨g, 0, none⟩), tacV ⟨4, d, a, b, k, base, size, n⟩, .slice (some ⟨r, 0, none⟩) regs.length regs.length] w fun e w' => e = .returned (.tuple #[]) ∧ OS w0 w w' g wb r nw fs inp fuel ⟨ws, out, read, steps, en⟩ (regs.set d.toNat vw) A c vo := by
  have HM := Aside0.mk h
  obtain ⟨m0, m1, m2, m3, m4, m5, m6, m7, m8, lg, lw, fg, fw⟩ := h.rs.cells
  obtain ⟨lr, nrg, ngr, fr⟩ := h.frees
  simp only at m4 m5 m6 m7 m8
  have hd := h.reg hd0 (get_of hd0 hd1)
  have fd := fr d.toNat
  have hW := h.rs.word hw0 hw
  have hw1 := get_lt hw0 hw
  have HW := Aside0.mk hw
  clear hw
  clear h fr fg fw
  unfold tacV
  go_enter Try.func73, Try.ntmps73
  go_wp2
  go_region
  all_goals (try go_wp2)
  all_goals (go_end0; exact ⟨rfl, by repeat (first | (with_reducible exact HM.out) | (with_reducible refine OS.drew ?_) | (with_reducible refine OS.drewN ?_ _) | (with_reducible refine OS.alloc ?_ _) | (with_reducible refine OS.set_reg (regs := regs) ?_ _ _) | exact HM.out)⟩)

set_option maxHeartbeats 8000000 in
set_option maxRecDepth 100000 in
theorem one_store (w0 w : World) (g wb r : Nat) (nw : Int) (fs : List S35) (inp : ByteArray) (fuel : Int) (ws out regs : List Int) (read steps en : Int) (A : Option Addr) (c : Nat) (vo : Value) (d a b k base size n : Int)
    (h : OS w0 w w g wb r nw fs inp fuel ⟨ws, out, read, steps, en⟩ regs A c vo) (hw0 : 0 ≤ base) (hw1 : base < ws.length) (ha0 : 0 ≤ a) {va : Int} (ha : regs[a.toNat]? = some va) :
    Calls Try.prog 73 #[.pointer (some ⟨g, 0, none⟩), tacV ⟨5, d, a, b, k, base, size, n⟩, .slice (some ⟨r, 0, none⟩) regs.length regs.length] w fun e w' => e = .returned (.tuple #[]) ∧ OS w0 w w' g wb r nw fs inp fuel ⟨ws.set (base).toNat va, out, read, steps, en⟩ regs A c vo := by
  have HM := Aside0.mk h
  obtain ⟨m0, m1, m2, m3, m4, m5, m6, m7, m8, lg, lw, fg, fw⟩ := h.rs.cells
  obtain ⟨lr, nrg, ngr, fr⟩ := h.frees
  simp only at m4 m5 m6 m7 m8
  have hA := h.reg ha0 ha
  have ha1 := get_lt ha0 ha
  have HA := Aside0.mk ha
  clear ha
  have hW := h.rs.word hw0 (get_of hw0 hw1)
  have fW := fw (base).toNat
  clear h fr fg fw
  unfold tacV
  go_enter Try.func73, Try.ntmps73
  go_wp2
  go_region
  all_goals (try go_wp2)
  all_goals (go_end0; exact ⟨rfl, by repeat (first | (with_reducible exact HM.out) | (with_reducible refine OS.drew ?_) | (with_reducible refine OS.drewN ?_ _) | (with_reducible refine OS.alloc ?_ _) | (with_reducible refine OS.set_word (s := ⟨ws, out, read, steps, en⟩) ?_ _ _) | exact HM.out)⟩)

set_option maxHeartbeats 8000000 in
set_option maxRecDepth 100000 in
theorem one_bin (w0 w : World) (g wb r : Nat) (nw : Int) (fs : List S35) (inp : ByteArray) (fuel : Int) (ws out regs : List Int) (read steps en : Int) (A : Option Addr) (c : Nat) (vo : Value) (d a b k base size n : Int)
    (h : OS w0 w w g wb r nw fs inp fuel ⟨ws, out, read, steps, en⟩ regs A c vo) (hd0 : 0 ≤ d) (hd1 : d < regs.length) (ha0 : 0 ≤ a) {va : Int} (ha : regs[a.toNat]? = some va) (hb0 : 0 ≤ b) {vb : Int} (hb : regs[b.toNat]? = some vb) {v : Int} (hap : ∀ W, Calls Try.prog 94 #[.int .i64 k, .int .u32 va, .int .u32 vb] W fun e w' => e = .returned (.tuple #[.int .u32 v, .int .i64 0]) ∧ Below W.heap.size W w') :
    Calls Try.prog 73 #[.pointer (some ⟨g, 0, none⟩), tacV ⟨3, d, a, b, k, base, size, n⟩, .slice (some ⟨r, 0, none⟩) regs.length regs.length] w fun e w' => e = .returned (.tuple #[]) ∧ OS w0 w w' g wb r nw fs inp fuel ⟨ws, out, read, steps, en⟩ (regs.set d.toNat v) A c vo := by
  have HM := Aside0.mk h
  obtain ⟨m0, m1, m2, m3, m4, m5, m6, m7, m8, lg, lw, fg, fw⟩ := h.rs.cells
  obtain ⟨lr, nrg, ngr, fr⟩ := h.frees
  simp only at m4 m5 m6 m7 m8
  have hd := h.reg hd0 (get_of hd0 hd1)
  have fd := fr d.toNat
  have hA := h.reg ha0 ha
  have ha1 := get_lt ha0 ha
  have HA := Aside0.mk ha
  clear ha
  have hB := h.reg hb0 hb
  have hb1 := get_lt hb0 hb
  have HB := Aside0.mk hb
  clear hb
  have HP := Aside0.mk hap
  clear hap
  clear h fr fg fw
  unfold tacV
  go_enter Try.func73, Try.ntmps73
  go_upto_region 7 with (fail)
  go_cut [6, 7] (fun v6 v7 wc => v6 = .int .u32 v ∧ v7 = .int .i64 0 ∧ Aside0 (OS w0 w wc g wb r nw fs inp fuel ⟨ws, out, read, steps, en⟩ regs A c vo) ∧ Aside0 (wc.heap[w.heap.size]? = some (.cells #[.int .i64 3, .int .i64 d, .int .i64 a, .int .i64 b, .int .i64 k, .int .i64 base, .int .i64 size, .int .u32 n] 44 (0, 0))))
  case first =>
    have TN := Aside0.mk (blk_new w (.cells #[.int .i64 3, .int .i64 d, .int .i64 a, .int .i64 b, .int .i64 k, .int .i64 base, .int .i64 size, .int .u32 n] 44))
    have lr1 : r < w.heap.size + 1 := by omega
    go_region_held3 (fun W' => W'.cell? ⟨w.heap.size, 4, none⟩ = some (.int .i64 k) ∧ W'.cell? ⟨w.heap.size, 2, none⟩ = some (.int .i64 a) ∧ W'.cell? ⟨w.heap.size, 3, none⟩ = some (.int .i64 b) ∧ W'.cell? ⟨r, a.toNat, none⟩ = some (.int .u32 va) ∧ W'.cell? ⟨r, b.toNat, none⟩ = some (.int .u32 vb)) (go_keep) (first | (go_at_call 94; refine (HP.out _).mono ?_; rintro e w2 ⟨rfl, hb2⟩; have H2 := Aside0.mk hb2; obtain ⟨hcc, hff⟩ := bcell hb2; clear hb2))
    go_wp2
    go_meet
    case rel => exact ⟨rfl, rfl, ⟨by repeat (first | (with_reducible exact HM.out) | (with_reducible refine OS.move ?_ H2.out) | (with_reducible refine OS.drew ?_) | (with_reducible refine OS.drewN ?_ _) | (with_reducible refine OS.alloc ?_ _) | exact HM.out)⟩, ⟨by repeat (first | exact TN.out | (with_reducible refine blk_below ?_ H2.out) | (with_reducible refine blk_drewN ?_ _) | (with_reducible refine blk_drew ?_))⟩⟩
  case rest =>
    clear HM m0 m1 m2 m3 m4 m5 m6 m7 m8 lg lw lr hd fd hA hB
    obtain ⟨rfl, rfl, HM, TN⟩ := hcut
    obtain ⟨m0, m1, m2, m3, m4, m5, m6, m7, m8, lg, lw, fg, fw⟩ := HM.out.rs.cells
    simp only at m4 m5 m6 m7 m8
    have x0 := (blk_cell TN.out 0).trans rfl
    have x1 := (blk_cell TN.out 1).trans rfl
    have hd := HM.out.reg hd0 (get_of hd0 hd1)
    have fd := HM.out.frees.2.2.2 d.toNat
    have lr := HM.out.frees.1
    clear fg fw
    go_wp2
    go_end0
    exact ⟨rfl, by repeat (first | (with_reducible exact HM.out) | (with_reducible refine OS.drew ?_) | (with_reducible refine OS.drewN ?_ _) | (with_reducible refine OS.alloc ?_ _) | (with_reducible refine OS.set_reg (regs := regs) ?_ _ _) | exact HM.out)⟩
  

set_option maxHeartbeats 8000000 in
set_option maxRecDepth 100000 in
theorem one_zero (w0 w : World) (g wb r : Nat) (nw : Int) (fs : List S35) (inp : ByteArray) (fuel : Int) (ws out regs : List Int) (read steps en : Int) (A : Option Addr) (c : Nat) (vo : Value) (d a b k base size n : Int)
    (h : OS w0 w w g wb r nw fs inp fuel ⟨ws, out, read, steps, en⟩ regs A c vo) (ha0 : 0 ≤ a) {va : Int} (ha : regs[a.toNat]? = some va) (hb0 : 0 ≤ b) {vb : Int} (hb : regs[b.toNat]? = some vb) {v e0 : Int} (hap : ∀ W, Calls Try.prog 94 #[.int .i64 k, .int .u32 va, .int .u32 vb] W fun e w' => e = .returned (.tuple #[.int .u32 v, .int .i64 e0]) ∧ Below W.heap.size W w') (he0 : (e0 != 0) = true) :
    Calls Try.prog 73 #[.pointer (some ⟨g, 0, none⟩), tacV ⟨3, d, a, b, k, base, size, n⟩, .slice (some ⟨r, 0, none⟩) regs.length regs.length] w fun e w' => e = .returned (.tuple #[]) ∧ OS w0 w w' g wb r nw fs inp fuel ⟨ws, out, read, steps, 2⟩ regs A c vo := by
  have HM := Aside0.mk h
  obtain ⟨m0, m1, m2, m3, m4, m5, m6, m7, m8, lg, lw, fg, fw⟩ := h.rs.cells
  obtain ⟨lr, nrg, ngr, fr⟩ := h.frees
  simp only at m4 m5 m6 m7 m8
  have hA := h.reg ha0 ha
  have ha1 := get_lt ha0 ha
  have HA := Aside0.mk ha
  clear ha
  have hB := h.reg hb0 hb
  have hb1 := get_lt hb0 hb
  have HB := Aside0.mk hb
  clear hb
  have HP := Aside0.mk hap
  clear hap
  clear h fr fg fw
  unfold tacV
  go_enter Try.func73, Try.ntmps73
  go_upto_region 7 with (fail)
  go_cut [6, 7] (fun v6 v7 wc => v6 = .int .u32 v ∧ v7 = .int .i64 e0 ∧ Aside0 (OS w0 w wc g wb r nw fs inp fuel ⟨ws, out, read, steps, en⟩ regs A c vo) ∧ Aside0 (wc.heap[w.heap.size]? = some (.cells #[.int .i64 3, .int .i64 d, .int .i64 a, .int .i64 b, .int .i64 k, .int .i64 base, .int .i64 size, .int .u32 n] 44 (0, 0))))
  case first =>
    have TN := Aside0.mk (blk_new w (.cells #[.int .i64 3, .int .i64 d, .int .i64 a, .int .i64 b, .int .i64 k, .int .i64 base, .int .i64 size, .int .u32 n] 44))
    have lr1 : r < w.heap.size + 1 := by omega
    go_region_held3 (fun W' => W'.cell? ⟨w.heap.size, 4, none⟩ = some (.int .i64 k) ∧ W'.cell? ⟨w.heap.size, 2, none⟩ = some (.int .i64 a) ∧ W'.cell? ⟨w.heap.size, 3, none⟩ = some (.int .i64 b) ∧ W'.cell? ⟨r, a.toNat, none⟩ = some (.int .u32 va) ∧ W'.cell? ⟨r, b.toNat, none⟩ = some (.int .u32 vb)) (go_keep) (first | (go_at_call 94; refine (HP.out _).mono ?_; rintro e w2 ⟨rfl, hb2⟩; have H2 := Aside0.mk hb2; obtain ⟨hcc, hff⟩ := bcell hb2; clear hb2))
    go_wp2
    go_meet
    case rel => exact ⟨rfl, rfl, ⟨by repeat (first | (with_reducible exact HM.out) | (with_reducible refine OS.move ?_ H2.out) | (with_reducible refine OS.drew ?_) | (with_reducible refine OS.drewN ?_ _) | (with_reducible refine OS.alloc ?_ _) | exact HM.out)⟩, ⟨by repeat (first | exact TN.out | (with_reducible refine blk_below ?_ H2.out) | (with_reducible refine blk_drewN ?_ _) | (with_reducible refine blk_drew ?_))⟩⟩
  case rest =>
    clear HM m0 m1 m2 m3 m4 m5 m6 m7 m8 lg lw lr hA hB
    obtain ⟨rfl, rfl, HM, TN⟩ := hcut
    obtain ⟨m0, m1, m2, m3, m4, m5, m6, m7, m8, lg, lw, fg, fw⟩ := HM.out.rs.cells
    simp only at m4 m5 m6 m7 m8
    have x0 := (blk_cell TN.out 0).trans rfl
    have x1 := (blk_cell TN.out 1).trans rfl
    have f8 := fg 8
    clear fg fw
    go_wp2
    refine bodyPost_ret (results_none rfl _ _ _) rfl ⟨rfl, ?_⟩
    exact (by repeat (first | (with_reducible exact HM.out) | (with_reducible refine OS.drew ?_) | (with_reducible refine OS.drewN ?_ _) | (with_reducible refine OS.alloc ?_ _) | (with_reducible refine OS.set_end (s := ⟨ws, out, read, steps, en⟩) ?_ _) | exact HM.out))
  

set_option maxHeartbeats 8000000 in
set_option maxRecDepth 100000 in
theorem one_aload (w0 w : World) (g wb r : Nat) (nw : Int) (fs : List S35) (inp : ByteArray) (fuel : Int) (ws out regs : List Int) (read steps en : Int) (A : Option Addr) (c : Nat) (vo : Value) (d a b k base size n : Int)
    (h : OS w0 w w g wb r nw fs inp fuel ⟨ws, out, read, steps, en⟩ regs A c vo) (hd0 : 0 ≤ d) (hd1 : d < regs.length) (ha0 : 0 ≤ a) {va : Int} (ha : regs[a.toNat]? = some va) (hs0 : 0 ≤ size) (hs1 : size ≤ 4096) (hv0 : 0 ≤ va) (hv1 : va ≤ 4294967295) (hin : va < size) (hw0 : 0 ≤ wrap64 (base + va)) {vw : Int} (hw : ws[(wrap64 (base + va)).toNat]? = some vw) :
    Calls Try.prog 73 #[.pointer (some ⟨g, 0, none⟩), tacV ⟨6, d, a, b, k, base, size, n⟩, .slice (some ⟨r, 0, none⟩) regs.length regs.length] w fun e w' => e = .returned (.tuple #[]) ∧ OS w0 w w' g wb r nw fs inp fuel ⟨ws, out, read, steps, en⟩ (regs.set d.toNat vw) A c vo := by
  have HM := Aside0.mk h
  obtain ⟨m0, m1, m2, m3, m4, m5, m6, m7, m8, lg, lw, fg, fw⟩ := h.rs.cells
  obtain ⟨lr, nrg, ngr, fr⟩ := h.frees
  simp only at m4 m5 m6 m7 m8
  have hd := h.reg hd0 (get_of hd0 hd1)
  have fd := fr d.toNat
  have hA := h.reg ha0 ha
  have ha1 := get_lt ha0 ha
  have HA := Aside0.mk ha
  clear ha
  have hW := h.rs.word hw0 hw
  have hw1 := get_lt hw0 hw
  have HW := Aside0.mk hw
  clear hw
  have hge : decide (size ≤ va) = false := by simpa using hin
  clear hin
  clear h fr fg fw
  unfold tacV
  go_enter Try.func73, Try.ntmps73
  go_wp2
  all_goals (try (go_quiet (fail); go_wp2))
  all_goals (try (go_region; all_goals (try go_wp2)))
  all_goals (go_end0; exact ⟨rfl, by repeat (first | (with_reducible exact HM.out) | (with_reducible refine OS.drew ?_) | (with_reducible refine OS.drewN ?_ _) | (with_reducible refine OS.alloc ?_ _) | (with_reducible refine OS.set_reg (regs := regs) ?_ _ _) | exact HM.out)⟩)

set_option maxHeartbeats 8000000 in
set_option maxRecDepth 100000 in
theorem one_aload_out (w0 w : World) (g wb r : Nat) (nw : Int) (fs : List S35) (inp : ByteArray) (fuel : Int) (ws out regs : List Int) (read steps en : Int) (A : Option Addr) (c : Nat) (vo : Value) (d a b k base size n : Int)
    (h : OS w0 w w g wb r nw fs inp fuel ⟨ws, out, read, steps, en⟩ regs A c vo) (ha0 : 0 ≤ a) {va : Int} (ha : regs[a.toNat]? = some va) (hs0 : 0 ≤ size) (hs1 : size ≤ 4096) (hv0 : 0 ≤ va) (hv1 : va ≤ 4294967295) (hout : size ≤ va) :
    Calls Try.prog 73 #[.pointer (some ⟨g, 0, none⟩), tacV ⟨6, d, a, b, k, base, size, n⟩, .slice (some ⟨r, 0, none⟩) regs.length regs.length] w fun e w' => e = .returned (.tuple #[]) ∧ OS w0 w w' g wb r nw fs inp fuel ⟨ws, out, read, steps, 3⟩ regs A c vo := by
  have HM := Aside0.mk h
  obtain ⟨m0, m1, m2, m3, m4, m5, m6, m7, m8, lg, lw, fg, fw⟩ := h.rs.cells
  obtain ⟨lr, nrg, ngr, fr⟩ := h.frees
  simp only at m4 m5 m6 m7 m8
  have hA := h.reg ha0 ha
  have ha1 := get_lt ha0 ha
  have HA := Aside0.mk ha
  clear ha
  have hge : decide (size ≤ va) = true := by simpa using hout
  clear hout
  have f8 := fg 8
  clear h fr fg fw
  unfold tacV
  go_enter Try.func73, Try.ntmps73
  go_wp2
  go_quiet (fail)
  go_wp2
  refine bodyPost_ret (results_none rfl _ _ _) rfl ⟨rfl, ?_⟩
  exact (by repeat (first | (with_reducible exact HM.out) | (with_reducible refine OS.drew ?_) | (with_reducible refine OS.drewN ?_ _) | (with_reducible refine OS.alloc ?_ _) | (with_reducible refine OS.set_end (s := ⟨ws, out, read, steps, en⟩) ?_ _) | exact HM.out))

set_option maxHeartbeats 8000000 in
set_option maxRecDepth 100000 in
theorem one_astore (w0 w : World) (g wb r : Nat) (nw : Int) (fs : List S35) (inp : ByteArray) (fuel : Int) (ws out regs : List Int) (read steps en : Int) (A : Option Addr) (c : Nat) (vo : Value) (d a b k base size n : Int)
    (h : OS w0 w w g wb r nw fs inp fuel ⟨ws, out, read, steps, en⟩ regs A c vo) (ha0 : 0 ≤ a) {va : Int} (ha : regs[a.toNat]? = some va) (hs0 : 0 ≤ size) (hs1 : size ≤ 4096) (hv0 : 0 ≤ va) (hv1 : va ≤ 4294967295) (hin : va < size) (hw0 : 0 ≤ wrap64 (base + va)) (hw1 : wrap64 (base + va) < ws.length) (hb0 : 0 ≤ b) {vb : Int} (hb : regs[b.toNat]? = some vb) :
    Calls Try.prog 73 #[.pointer (some ⟨g, 0, none⟩), tacV ⟨7, d, a, b, k, base, size, n⟩, .slice (some ⟨r, 0, none⟩) regs.length regs.length] w fun e w' => e = .returned (.tuple #[]) ∧ OS w0 w w' g wb r nw fs inp fuel ⟨ws.set (wrap64 (base + va)).toNat vb, out, read, steps, en⟩ regs A c vo := by
  have HM := Aside0.mk h
  obtain ⟨m0, m1, m2, m3, m4, m5, m6, m7, m8, lg, lw, fg, fw⟩ := h.rs.cells
  obtain ⟨lr, nrg, ngr, fr⟩ := h.frees
  simp only at m4 m5 m6 m7 m8
  have hA := h.reg ha0 ha
  have ha1 := get_lt ha0 ha
  have HA := Aside0.mk ha
  clear ha
  have hB := h.reg hb0 hb
  have hb1 := get_lt hb0 hb
  have HB := Aside0.mk hb
  clear hb
  have hW := h.rs.word hw0 (get_of hw0 hw1)
  have fW := fw (wrap64 (base + va)).toNat
  have hge : decide (size ≤ va) = false := by simpa using hin
  clear hin
  clear h fr fg fw
  unfold tacV
  go_enter Try.func73, Try.ntmps73
  go_wp2
  all_goals (try (go_quiet (fail); go_wp2))
  all_goals (try (go_region; all_goals (try go_wp2)))
  all_goals (go_end0; exact ⟨rfl, by repeat (first | (with_reducible exact HM.out) | (with_reducible refine OS.drew ?_) | (with_reducible refine OS.drewN ?_ _) | (with_reducible refine OS.alloc ?_ _) | (with_reducible refine OS.set_word (s := ⟨ws, out, read, steps, en⟩) ?_ _ _) | exact HM.out)⟩)

set_option maxHeartbeats 8000000 in
set_option maxRecDepth 100000 in
theorem one_astore_out (w0 w : World) (g wb r : Nat) (nw : Int) (fs : List S35) (inp : ByteArray) (fuel : Int) (ws out regs : List Int) (read steps en : Int) (A : Option Addr) (c : Nat) (vo : Value) (d a b k base size n : Int)
    (h : OS w0 w w g wb r nw fs inp fuel ⟨ws, out, read, steps, en⟩ regs A c vo) (ha0 : 0 ≤ a) {va : Int} (ha : regs[a.toNat]? = some va) (hs0 : 0 ≤ size) (hs1 : size ≤ 4096) (hv0 : 0 ≤ va) (hv1 : va ≤ 4294967295) (hout : size ≤ va) :
    Calls Try.prog 73 #[.pointer (some ⟨g, 0, none⟩), tacV ⟨7, d, a, b, k, base, size, n⟩, .slice (some ⟨r, 0, none⟩) regs.length regs.length] w fun e w' => e = .returned (.tuple #[]) ∧ OS w0 w w' g wb r nw fs inp fuel ⟨ws, out, read, steps, 3⟩ regs A c vo := by
  have HM := Aside0.mk h
  obtain ⟨m0, m1, m2, m3, m4, m5, m6, m7, m8, lg, lw, fg, fw⟩ := h.rs.cells
  obtain ⟨lr, nrg, ngr, fr⟩ := h.frees
  simp only at m4 m5 m6 m7 m8
  have hA := h.reg ha0 ha
  have ha1 := get_lt ha0 ha
  have HA := Aside0.mk ha
  clear ha
  have hge : decide (size ≤ va) = true := by simpa using hout
  clear hout
  have f8 := fg 8
  clear h fr fg fw
  unfold tacV
  go_enter Try.func73, Try.ntmps73
  go_wp2
  go_quiet (fail)
  go_wp2
  refine bodyPost_ret (results_none rfl _ _ _) rfl ⟨rfl, ?_⟩
  exact (by repeat (first | (with_reducible exact HM.out) | (with_reducible refine OS.drew ?_) | (with_reducible refine OS.drewN ?_ _) | (with_reducible refine OS.alloc ?_ _) | (with_reducible refine OS.set_end (s := ⟨ws, out, read, steps, en⟩) ?_ _) | exact HM.out))

set_option maxHeartbeats 8000000 in
set_option maxRecDepth 100000 in
theorem one_get_none (w0 w : World) (g wb r : Nat) (nw : Int) (fs : List S35) (inp : ByteArray) (fuel : Int) (ws out regs : List Int) (read steps en : Int) (A : Option Addr) (c : Nat) (vo : Value) (d a b k base size n : Int)
    (h : OS w0 w w g wb r nw fs inp fuel ⟨ws, out, read, steps, en⟩ regs A c vo) (hd0 : 0 ≤ d) (hd1 : d < regs.length) (hin : (inp.size : Int) ≤ read) :
    Calls Try.prog 73 #[.pointer (some ⟨g, 0, none⟩), tacV ⟨8, d, a, b, k, base, size, n⟩, .slice (some ⟨r, 0, none⟩) regs.length regs.length] w fun e w' => e = .returned (.tuple #[]) ∧ OS w0 w w' g wb r nw fs inp fuel ⟨ws, out, read, steps, en⟩ (regs.set d.toNat 256) A c vo := by
  have HM := Aside0.mk h
  obtain ⟨m0, m1, m2, m3, m4, m5, m6, m7, m8, lg, lw, fg, fw⟩ := h.rs.cells
  obtain ⟨lr, nrg, ngr, fr⟩ := h.frees
  simp only at m4 m5 m6 m7 m8
  have hd := h.reg hd0 (get_of hd0 hd1)
  have fd := fr d.toNat
  have hge : decide (read < (inp.size : Int)) = false := by simp; omega
  clear hin
  clear h fr fg fw
  unfold tacV
  go_enter Try.func73, Try.ntmps73
  go_wp2
  go_quiet (fail)
  go_wp2
  all_goals (go_end0; exact ⟨rfl, by repeat (first | (with_reducible exact HM.out) | (with_reducible refine OS.drew ?_) | (with_reducible refine OS.drewN ?_ _) | (with_reducible refine OS.alloc ?_ _) | (with_reducible refine OS.set_reg (regs := regs) ?_ _ _) | exact HM.out)⟩)

set_option maxHeartbeats 8000000 in
set_option maxRecDepth 100000 in
theorem one_get (w0 w : World) (g wb r : Nat) (nw : Int) (fs : List S35) (inp : ByteArray) (fuel : Int) (ws out regs : List Int) (read steps en : Int) (A : Option Addr) (c : Nat) (vo : Value) (d a b k base size n : Int)
    (h : OS w0 w w g wb r nw fs inp fuel ⟨ws, out, read, steps, en⟩ regs A c vo) (hd0 : 0 ≤ d) (hd1 : d < regs.length) (hr0 : 0 ≤ read) (hr1 : read ≤ 1000000) (hin : read < (inp.size : Int)) :
    Calls Try.prog 73 #[.pointer (some ⟨g, 0, none⟩), tacV ⟨8, d, a, b, k, base, size, n⟩, .slice (some ⟨r, 0, none⟩) regs.length regs.length] w fun e w' => e = .returned (.tuple #[]) ∧ OS w0 w w' g wb r nw fs inp fuel ⟨ws, out, read + 1, steps, en⟩ ((regs.set d.toNat 256).set d.toNat (bt inp read)) A c vo := by
  have HM := Aside0.mk h
  obtain ⟨m0, m1, m2, m3, m4, m5, m6, m7, m8, lg, lw, fg, fw⟩ := h.rs.cells
  obtain ⟨lr, nrg, ngr, fr⟩ := h.frees
  simp only at m4 m5 m6 m7 m8
  have hd := h.reg hd0 (get_of hd0 hd1)
  have fd := fr d.toNat
  have hge : decide (read < (inp.size : Int)) = true := by simp; omega
  have f6 := fg 6
  have hbt := bt_at inp read (by omega)
  have HBT := Aside0.mk hbt
  have hr2 : read.toNat < inp.size := by omega
  clear hbt
  clear h fr fg fw
  unfold tacV
  go_enter Try.func73, Try.ntmps73
  go_wp2
  go_quiet (fail)
  go_wp2
  go_region
  all_goals go_wp2
  all_goals (go_end0; refine ⟨rfl, ?_⟩; rw [inp_atR hr2]; exact (by repeat (first | (with_reducible exact HM.out) | (with_reducible refine OS.drew ?_) | (with_reducible refine OS.drewN ?_ _) | (with_reducible refine OS.alloc ?_ _) | (with_reducible refine OS.set_read (s := ⟨ws, out, read, steps, en⟩) ?_ _) | (with_reducible refine OS.set_reg (regs := regs.set d.toNat 256) ?_ _ _) | (with_reducible refine OS.set_reg (regs := regs) ?_ _ _) | exact HM.out)))

set_option maxHeartbeats 8000000 in
set_option maxRecDepth 100000 in
theorem one_put_full (w0 w : World) (g wb r : Nat) (nw : Int) (fs : List S35) (inp : ByteArray) (fuel : Int) (ws out regs : List Int) (read steps en : Int) (A : Option Addr) (c : Nat) (vo : Value) (d a b k base size n : Int)
    (h : OS w0 w w g wb r nw fs inp fuel ⟨ws, out, read, steps, en⟩ regs A c vo) (hfull : 65536 ≤ out.length) :
    Calls Try.prog 73 #[.pointer (some ⟨g, 0, none⟩), tacV ⟨9, d, a, b, k, base, size, n⟩, .slice (some ⟨r, 0, none⟩) regs.length regs.length] w fun e w' => e = .returned (.tuple #[]) ∧ OS w0 w w' g wb r nw fs inp fuel ⟨ws, out, read, steps, 4⟩ regs A c vo := by
  obtain ⟨Ao, co, rfl⟩ := own_slice h.rs.out
  have HM := Aside0.mk h
  obtain ⟨m0, m1, m2, m3, m4, m5, m6, m7, m8, lg, lw, fg, fw⟩ := h.rs.cells
  obtain ⟨lr, nrg, ngr, fr⟩ := h.frees
  simp only at m4 m5 m6 m7 m8
  have hf4 : (65536 : Int) ≤ (out.length : Int) := by omega
  have f8 := fg 8
  clear h fr fg fw
  unfold tacV
  go_enter Try.func73, Try.ntmps73
  go_wp2
  refine bodyPost_ret (results_none rfl _ _ _) rfl ⟨rfl, ?_⟩
  exact (by repeat (first | (with_reducible exact HM.out) | (with_reducible refine OS.drew ?_) | (with_reducible refine OS.drewN ?_ _) | (with_reducible refine OS.alloc ?_ _) | (with_reducible refine OS.set_end (s := ⟨ws, out, read, steps, en⟩) ?_ _) | exact HM.out))

set_option maxHeartbeats 8000000 in
set_option maxRecDepth 100000 in
theorem one_put (w0 w : World) (g wb r : Nat) (nw : Int) (fs : List S35) (inp : ByteArray) (fuel : Int) (ws out regs : List Int) (read steps en : Int) (A : Option Addr) (c : Nat) (vo : Value) (d a b k base size n : Int)
    (h : OS w0 w w g wb r nw fs inp fuel ⟨ws, out, read, steps, en⟩ regs A c vo) (ha0 : 0 ≤ a) {va : Int} (ha : regs[a.toNat]? = some va) (hroom : ¬ 65536 ≤ out.length) :
    Calls Try.prog 73 #[.pointer (some ⟨g, 0, none⟩), tacV ⟨9, d, a, b, k, base, size, n⟩, .slice (some ⟨r, 0, none⟩) regs.length regs.length] w fun e w' => e = .returned (.tuple #[]) ∧ ∃ v1, OS w0 w w' g wb r nw fs inp fuel ⟨ws, out ++ [IntKind.u8.wrap va], read, steps, en⟩ regs A c v1 := by
  obtain ⟨Ao, co, rfl⟩ := own_slice h.rs.out
  have HM := Aside0.mk h
  obtain ⟨m0, m1, m2, m3, m4, m5, m6, m7, m8, lg, lw, fg, fw⟩ := h.rs.cells
  obtain ⟨lr, nrg, ngr, fr⟩ := h.frees
  simp only at m4 m5 m6 m7 m8
  have hA := h.reg ha0 ha
  have ha1 := get_lt ha0 ha
  have HA := Aside0.mk ha
  clear ha
  have hf4 : ¬ (65536 : Int) ≤ (out.length : Int) := by omega
  have f5 := fg 5
  clear h fr fg fw
  unfold tacV
  go_enter Try.func73, Try.ntmps73
  go_wp2
  go_region_law ((refine step_append_one w0.heap.size ?w1 (.tmp 194) (.tmp 201) 65 5 (.int .u8 0) 1 ?w2 Try.underlying65 info5 ?w3 ?w4 (.slice Ao out.length co) out.length (nums .u8 out) (.int .u8 (IntKind.u8.wrap va)) ?w5 ⟨w.heap.size + 1, 0, none⟩ ?w6 ?hc ?w7 ?ho ?hs ?hl ?_); (case w1 => rfl); (case w2 => rfl); (case w3 => rfl); (case w4 => decide); (case w5 => simp [Act.eval, Act.put]); (case w6 => simp [Act.eval, Act.put]); (case w7 => rfl); (case hc => go_simp); (case hs => have := HM.out.rs.low.size; simp; omega); (case hl => omega); (case ho => repeat (first | exact HM.out.rs.out | refine own_alloc ?_ _ | refine own_drew ?_)); intro gb cap w1 hown hg; (obtain ⟨h41, h42, h43⟩ : w1.cell? ⟨g, 5, none⟩ = some (.slice Ao out.length co) ∧ w1.frozen? ⟨g, 5, none⟩ = false ∧ g < w1.heap.size := by refine RS.at5 (w0 := w0) (wb := wb) (nw := nw) (fs := fs) (inp := inp) (fuel := fuel) (s := ⟨ws, out, read, steps, en⟩) (A := A) (c := c) ?_ hg; refine OS.rs (w := w) (r := r) (regs := regs) ?_; repeat (first | (with_reducible exact HM.out) | (with_reducible refine OS.drew ?_) | (with_reducible refine OS.drewN ?_ _) | (with_reducible refine OS.alloc ?_ _) | exact HM.out)); have HO := Aside0.mk hown; have HG := Aside0.mk hg; clear hown hg)
  all_goals (go_wp2; go_end0; refine ⟨rfl, _, OS.put_out ?_ HO.out HG.out⟩; repeat (first | (with_reducible exact HM.out) | (with_reducible refine OS.drew ?_) | (with_reducible refine OS.drewN ?_ _) | (with_reducible refine OS.alloc ?_ _) | exact HM.out))
  
end Go.Proofs.Ytocnkjhicbmmoaa.Q
