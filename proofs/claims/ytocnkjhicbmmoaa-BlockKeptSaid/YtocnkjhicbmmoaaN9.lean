/- block.tac of the two instructions of law24.awake's program. -/
import Derived.Test.YtocnkjhicbmmoaaN6
import Derived.Test.YtocnkjhicbmmoaaQ1
import Derived.Deep.RegionWith
namespace Go.Proofs.Ytocnkjhicbmmoaa.Q
open Go.RowKit Go.Proofs.YtocnkjhicbmmoaaW.PrintWords Go.Proofs.YtocnkjhicbmmoaaW.PrintLast
attribute [local go_sem high] eqA44
set_option linter.unusedVariables false
set_option linter.unusedSimpArgs false

set_option maxHeartbeats 8000000 in
set_option maxRecDepth 100000 in
theorem aw_sets1 (w : World) : Calls Try.prog 95 #[.agg #[.int .i64 1, .int .i64 0, .int .i64 0, .int .i64 0, .int .i64 0, .int .i64 0, .int .i64 0, .int .u32 65]] w fun e w' => e = .returned (.int .i64 0) ∧ Below w.heap.size w w' := by
  go_enter Try.func95, Try.ntmps95
  go_wp2
  go_ret
  exact ⟨rfl, by repeat (first | exact Below.refl _ _ | refine below_alloc ?_ _ | refine pw_below_drewN ?_ _ | refine below_drew1 ?_)⟩
set_option maxHeartbeats 8000000 in
set_option maxRecDepth 100000 in
theorem aw_sets2 (w : World) : Calls Try.prog 95 #[.agg #[.int .i64 9, .int .i64 0, .int .i64 0, .int .i64 0, .int .i64 0, .int .i64 0, .int .i64 0, .int .u32 0]] w fun e w' => e = .returned (.int .i64 (-1)) ∧ Below w.heap.size w w' := by
  go_enter Try.func95, Try.ntmps95
  go_wp2
  go_ret
  exact ⟨rfl, by repeat (first | exact Below.refl _ _ | refine below_alloc ?_ _ | refine pw_below_drewN ?_ _ | refine below_drew1 ?_)⟩
set_option maxHeartbeats 8000000 in
set_option maxRecDepth 100000 in
theorem aw_uses1 (w : World) : Calls Try.prog 77 #[.agg #[.int .i64 1, .int .i64 0, .int .i64 0, .int .i64 0, .int .i64 0, .int .i64 0, .int .i64 0, .int .u32 65]] w fun e w' => e = .returned (.slice none 0 0) ∧ Below w.heap.size w w' := by
  go_enter Try.func77, Try.ntmps77
  go_wp2
  go_ret
  exact ⟨rfl, by repeat (first | exact Below.refl _ _ | refine below_alloc ?_ _ | refine pw_below_drewN ?_ _ | refine below_drew1 ?_)⟩
set_option maxHeartbeats 8000000 in
set_option maxRecDepth 100000 in
theorem aw_uses2 (w : World) : Calls Try.prog 77 #[.agg #[.int .i64 9, .int .i64 0, .int .i64 0, .int .i64 0, .int .i64 0, .int .i64 0, .int .i64 0, .int .u32 0]] w fun e w' => (∃ g, e = .returned (.slice (some ⟨g, 0, none⟩) 1 1) ∧ w'.heap[g]? = some (.cells #[.int .i64 0] 3 (0, 0))) ∧ Below w.heap.size w w' := by
  go_enter Try.func77, Try.ntmps77
  go_wp2
  go_ret
  exact ⟨⟨_, rfl, (two_new w _ _).2⟩, below_alloc (below_alloc (Below.refl _ _) _) _⟩

/-- block.bare's variables. -/
structure BW (w wc : World) (op d a b k base size n o1 o2 o3 o4 o5 o6 o7 : Int) : Prop where
  b1 : wc.heap[w.heap.size]? = some (.cells #[.int .i64 op, .int .i64 d, .int .i64 a, .int .i64 b, .int .i64 k, .int .i64 base, .int .i64 size, .int .u32 n] 44 (0, 0))
  b2 : wc.heap[w.heap.size + 1]? = some (.cells #[.int .i64 0, .int .i64 0, .int .i64 0, .int .i64 0, .int .i64 0, .int .i64 0, .int .i64 0, .int .u32 0] 44 (0, 0))
  b3 : wc.heap[w.heap.size + 1 + 1]? = some (.cells #[.int .i64 op, .int .i64 o1, .int .i64 o2, .int .i64 o3, .int .i64 o4, .int .i64 o5, .int .i64 o6, .int .u32 o7] 44 (0, 0))
  low : Below w.heap.size w wc
section
variable {w wc wd : World} {op d a b k base size n o1 o2 o3 o4 o5 o6 o7 : Int}
theorem BW.move (h : BW w wc op d a b k base size n o1 o2 o3 o4 o5 o6 o7) (hb : Below wc.heap.size wc wd) : BW w wd op d a b k base size n o1 o2 o3 o4 o5 o6 o7 :=
  ⟨blk_below h.b1 hb, blk_below h.b2 hb, blk_below h.b3 hb, below_step h.low hb⟩
theorem BW.start (w : World) (op d a b k base size n : Int) : BW w (((w.alloc (.cells #[.int .i64 op, .int .i64 d, .int .i64 a, .int .i64 b, .int .i64 k, .int .i64 base, .int .i64 size, .int .u32 n] 44)).alloc (.cells #[.int .i64 0, .int .i64 0, .int .i64 0, .int .i64 0, .int .i64 0, .int .i64 0, .int .i64 0, .int .u32 0] 44)).alloc (.cells #[.int .i64 op, .int .i64 0, .int .i64 0, .int .i64 0, .int .i64 0, .int .i64 0, .int .i64 0, .int .u32 0] 44)) op d a b k base size n 0 0 0 0 0 0 0 :=
  ⟨blk_alloc (two_new w _ _).1 _, blk_alloc (two_new w _ _).2 _, by
    have h := blk_new ((w.alloc (.cells #[.int .i64 op, .int .i64 d, .int .i64 a, .int .i64 b, .int .i64 k, .int .i64 base, .int .i64 size, .int .u32 n] 44)).alloc (.cells #[.int .i64 0, .int .i64 0, .int .i64 0, .int .i64 0, .int .i64 0, .int .i64 0, .int .i64 0, .int .u32 0] 44)) (.cells #[.int .i64 op, .int .i64 0, .int .i64 0, .int .i64 0, .int .i64 0, .int .i64 0, .int .i64 0, .int .u32 0] 44)
    simpa using h, below_alloc (below_alloc (below_alloc (Below.refl _ _) _) _) _⟩
theorem BW.cells (h : BW w wc op d a b k base size n o1 o2 o3 o4 o5 o6 o7) :
    wc.cell? ⟨w.heap.size, 0, none⟩ = some (.int .i64 op) ∧ wc.cell? ⟨w.heap.size, 1, none⟩ = some (.int .i64 d) ∧ wc.cell? ⟨w.heap.size, 2, none⟩ = some (.int .i64 a) ∧ wc.cell? ⟨w.heap.size, 3, none⟩ = some (.int .i64 b) ∧
    wc.cell? ⟨w.heap.size, 4, none⟩ = some (.int .i64 k) ∧ wc.cell? ⟨w.heap.size, 5, none⟩ = some (.int .i64 base) ∧ wc.cell? ⟨w.heap.size, 6, none⟩ = some (.int .i64 size) ∧ wc.cell? ⟨w.heap.size, 7, none⟩ = some (.int .u32 n) ∧ w.heap.size < wc.heap.size :=
  ⟨(blk_cell h.b1 0).trans rfl, (blk_cell h.b1 1).trans rfl, (blk_cell h.b1 2).trans rfl, (blk_cell h.b1 3).trans rfl, (blk_cell h.b1 4).trans rfl, (blk_cell h.b1 5).trans rfl, (blk_cell h.b1 6).trans rfl, (blk_cell h.b1 7).trans rfl, blk_lt h.b1⟩
theorem BW.want (h : BW w wc op d a b k base size n o1 o2 o3 o4 o5 o6 o7) :
    wc.cell? ⟨w.heap.size + 1 + 1, 0, none⟩ = some (.int .i64 op) ∧ wc.cell? ⟨w.heap.size + 1 + 1, 1, none⟩ = some (.int .i64 o1) ∧ wc.cell? ⟨w.heap.size + 1 + 1, 2, none⟩ = some (.int .i64 o2) ∧ wc.cell? ⟨w.heap.size + 1 + 1, 3, none⟩ = some (.int .i64 o3) ∧
    wc.cell? ⟨w.heap.size + 1 + 1, 4, none⟩ = some (.int .i64 o4) ∧ wc.cell? ⟨w.heap.size + 1 + 1, 5, none⟩ = some (.int .i64 o5) ∧ wc.cell? ⟨w.heap.size + 1 + 1, 6, none⟩ = some (.int .i64 o6) ∧ wc.cell? ⟨w.heap.size + 1 + 1, 7, none⟩ = some (.int .u32 o7) ∧ w.heap.size + 1 + 1 < wc.heap.size :=
  ⟨(blk_cell h.b3 0).trans rfl, (blk_cell h.b3 1).trans rfl, (blk_cell h.b3 2).trans rfl, (blk_cell h.b3 3).trans rfl, (blk_cell h.b3 4).trans rfl, (blk_cell h.b3 5).trans rfl, (blk_cell h.b3 6).trans rfl, (blk_cell h.b3 7).trans rfl, blk_lt h.b3⟩
theorem BW.res (h : BW w wc op d a b k base size n o1 o2 o3 o4 o5 o6 o7) :
    wc.cell? ⟨w.heap.size + 1, 0, none⟩ = some (.int .i64 0) ∧ wc.cell? ⟨w.heap.size + 1, 1, none⟩ = some (.int .i64 0) ∧ wc.cell? ⟨w.heap.size + 1, 2, none⟩ = some (.int .i64 0) ∧ wc.cell? ⟨w.heap.size + 1, 3, none⟩ = some (.int .i64 0) ∧
    wc.cell? ⟨w.heap.size + 1, 4, none⟩ = some (.int .i64 0) ∧ wc.cell? ⟨w.heap.size + 1, 5, none⟩ = some (.int .i64 0) ∧ wc.cell? ⟨w.heap.size + 1, 6, none⟩ = some (.int .i64 0) ∧ wc.cell? ⟨w.heap.size + 1, 7, none⟩ = some (.int .u32 0) ∧ w.heap.size + 1 < wc.heap.size ∧ 
    wc.frozen? ⟨w.heap.size + 1, 0, none⟩ = false ∧ wc.frozen? ⟨w.heap.size + 1, 1, none⟩ = false ∧ wc.frozen? ⟨w.heap.size + 1, 2, none⟩ = false ∧ wc.frozen? ⟨w.heap.size + 1, 3, none⟩ = false ∧ wc.frozen? ⟨w.heap.size + 1, 4, none⟩ = false ∧ wc.frozen? ⟨w.heap.size + 1, 5, none⟩ = false ∧ wc.frozen? ⟨w.heap.size + 1, 6, none⟩ = false ∧ wc.frozen? ⟨w.heap.size + 1, 7, none⟩ = false :=
  ⟨(blk_cell h.b2 0).trans rfl, (blk_cell h.b2 1).trans rfl, (blk_cell h.b2 2).trans rfl, (blk_cell h.b2 3).trans rfl, (blk_cell h.b2 4).trans rfl, (blk_cell h.b2 5).trans rfl, (blk_cell h.b2 6).trans rfl, (blk_cell h.b2 7).trans rfl, blk_lt h.b2, blk_frozen h.b2 0, blk_frozen h.b2 1, blk_frozen h.b2 2, blk_frozen h.b2 3, blk_frozen h.b2 4, blk_frozen h.b2 5, blk_frozen h.b2 6, blk_frozen h.b2 7⟩
theorem BW.free (h : BW w wc op d a b k base size n o1 o2 o3 o4 o5 o6 o7) :
    wc.frozen? ⟨w.heap.size + 1 + 1, 1, none⟩ = false ∧ wc.frozen? ⟨w.heap.size + 1 + 1, 2, none⟩ = false ∧ wc.frozen? ⟨w.heap.size + 1 + 1, 3, none⟩ = false ∧ wc.frozen? ⟨w.heap.size + 1 + 1, 7, none⟩ = false :=
  ⟨blk_frozen h.b3 1, blk_frozen h.b3 2, blk_frozen h.b3 3, blk_frozen h.b3 7⟩
theorem BW.set1 (h : BW w wc op d a b k base size n o1 o2 o3 o4 o5 o6 o7) (x : Int) : BW w (wc.setCell ⟨w.heap.size + 1 + 1, 1, none⟩ (.int .i64 x)) op d a b k base size n x o2 o3 o4 o5 o6 o7 :=
  ⟨blk_far h.b1 (by simp only; omega) _, blk_far h.b2 (by simp only; omega) _, blk_put h.b3 1 _ rfl, below_set h.low (by omega)⟩
end
set_option maxHeartbeats 8000000 in
set_option maxRecDepth 100000 in
theorem aw_bare1 (w : World) : Calls Try.prog 76 #[.agg #[.int .i64 1, .int .i64 0, .int .i64 0, .int .i64 0, .int .i64 0, .int .i64 0, .int .i64 0, .int .u32 65]] w fun e w' => e = .returned (.agg #[.int .i64 1, .int .i64 0, .int .i64 0, .int .i64 0, .int .i64 0, .int .i64 0, .int .i64 0, .int .u32 65]) ∧ Below w.heap.size w w' := by
  have F0 := Aside0.mk (BW.start w 1 0 0 0 0 0 0 65)
  go_enter Try.func76, Try.ntmps76
  go_wp2_with fail
  refine (aw_sets1 _).mono ?_
  rintro e w1 ⟨rfl, hb⟩
  have F1 := Aside0.mk (F0.out.move hb)
  clear hb F0
  obtain ⟨x0, x1, x2, x3, x4, x5, x6, x7, xl⟩ := F1.out.cells
  obtain ⟨y0, y1, y2, y3, y4, y5, y6, y7, yl⟩ := F1.out.want
  obtain ⟨f1, f2, f3, f7⟩ := F1.out.free
  go_wp2_with fail
  refine (aw_uses1 _).mono ?_
  rintro e w2 ⟨rfl, hb⟩
  have F2 := Aside0.mk ((F1.out.set1 0).move hb)
  clear hb F1 x0 x1 x2 x3 x4 x5 x6 x7 xl y0 y1 y2 y3 y4 y5 y6 y7 yl f1 f2 f3 f7
  go_wp2
  go_loopw [18] (fun v18 w' => v18 = .int .i64 0 ∧ Aside0 (BW w w' 1 0 0 0 0 0 0 65 0 0 0 0 0 0 0)) (fun _ _ => 0)
  case atStart => exact ⟨rfl, F2⟩
  case round =>
    obtain ⟨rfl, F3⟩ := hrel
    clear F2
    obtain ⟨x0, x1, x2, x3, x4, x5, x6, x7, xl⟩ := F3.out.cells
    obtain ⟨y0, y1, y2, y3, y4, y5, y6, y7, yl⟩ := F3.out.want
    obtain ⟨f1, f2, f3, f7⟩ := F3.out.free
    obtain ⟨z0, z1, z2, z3, z4, z5, z6, z7, zl, r0, r1, r2, r3, r4, r5, r6, r7⟩ := F3.out.res
    go_wp2
    have RF := blk_put (blk_put (blk_put (blk_put (blk_put (blk_put (blk_put (blk_put (blk_far F3.out.b2 (p := ⟨w.heap.size + 1 + 1, 7, none⟩) (by simp only; omega) (.int .u32 65)) 0 (.int .i64 1) rfl) 1 (.int .i64 0) rfl) 2 (.int .i64 0) rfl) 3 (.int .i64 0) rfl) 4 (.int .i64 0) rfl) 5 (.int .i64 0) rfl) 6 (.int .i64 0) rfl) 7 (.int .u32 65) rfl
    refine bodyPost_ret (v := .agg #[.int .i64 1, .int .i64 0, .int .i64 0, .int .i64 0, .int .i64 0, .int .i64 0, .int .i64 0, .int .u32 65]) (results_single rfl (Vals.cell (w.heap.size + 1) 44 _ (0, 0) _ rfl RF Try.underlying44 rfl (by kernel_rfl) .nil)) rfl ⟨rfl, ?_⟩
    repeat (first | (with_reducible exact F3.out.low) | refine below_set ?_ (by omega))
set_option maxHeartbeats 8000000 in
set_option maxRecDepth 100000 in
theorem aw_bare2 (w : World) : Calls Try.prog 76 #[.agg #[.int .i64 9, .int .i64 0, .int .i64 0, .int .i64 0, .int .i64 0, .int .i64 0, .int .i64 0, .int .u32 0]] w fun e w' => e = .returned (.agg #[.int .i64 9, .int .i64 0, .int .i64 0, .int .i64 0, .int .i64 0, .int .i64 0, .int .i64 0, .int .u32 0]) ∧ Below w.heap.size w w' := by
  have F0 := Aside0.mk (BW.start w 9 0 0 0 0 0 0 0)
  go_enter Try.func76, Try.ntmps76
  go_wp2_with fail
  refine (aw_sets2 _).mono ?_
  rintro e w1 ⟨rfl, hb⟩
  have F1 := Aside0.mk (F0.out.move hb)
  clear hb F0
  obtain ⟨x0, x1, x2, x3, x4, x5, x6, x7, xl⟩ := F1.out.cells
  obtain ⟨y0, y1, y2, y3, y4, y5, y6, y7, yl⟩ := F1.out.want
  obtain ⟨f1, f2, f3, f7⟩ := F1.out.free
  go_wp2_with fail
  refine (aw_uses2 _).mono ?_
  rintro e w2 ⟨⟨g, rfl, hg⟩, hb⟩
  have F2 := Aside0.mk (F1.out.move hb)
  have HG := Aside0.mk hg
  clear hb F1 hg x0 x1 x2 x3 x4 x5 x6 x7 xl y0 y1 y2 y3 y4 y5 y6 y7 yl f1 f2 f3 f7
  go_wp2
  go_loopw [18] (fun v18 w' => ∃ i : Nat, i ≤ 1 ∧ v18 = .int .i64 i ∧ Aside0 (BW w w' 9 0 0 0 0 0 0 0 0 0 0 0 0 0 0) ∧ Aside0 (w'.heap[g]? = some (.cells #[.int .i64 0] 3 (0, 0)))) (fun v18 _ => 1 - (intOf v18).toNat)
  case atStart => exact ⟨0, by omega, rfl, F2, HG⟩
  case round =>
    clear F2 HG
    obtain ⟨i, hi, rfl, F3, HG⟩ := hrel
    obtain ⟨x0, x1, x2, x3, x4, x5, x6, x7, xl⟩ := F3.out.cells
    obtain ⟨y0, y1, y2, y3, y4, y5, y6, y7, yl⟩ := F3.out.want
    obtain ⟨f1, f2, f3, f7⟩ := F3.out.free
    have hgc := (blk_cell HG.out 0).trans rfl
    match i, hi with
    | 0, _ =>
      have FS := Aside0.mk (show BW w (wr.setCell ⟨w.heap.size + 1 + 1, 2, none⟩ (.int .i64 0)) 9 0 0 0 0 0 0 0 0 0 0 0 0 0 0 from
        ⟨blk_far F3.out.b1 (by simp only; omega) _, blk_far F3.out.b2 (by simp only; omega) _, blk_put F3.out.b3 2 _ rfl, below_set F3.out.low (by omega)⟩)
      have HG2 := Aside0.mk (show (wr.setCell ⟨w.heap.size + 1 + 1, 2, none⟩ (.int .i64 0)).heap[g]? = some (.cells #[.int .i64 0] 3 (0, 0)) from blk_far HG.out (blk_ne HG.out F3.out.b3 (by decide)) _)
      go_wp2
      go_roundw
      case rel => exact ⟨1, by omega, rfl, FS, HG2⟩
      case measure => simp [intOf]
    | 1, _ =>
      obtain ⟨z0, z1, z2, z3, z4, z5, z6, z7, zl, r0, r1, r2, r3, r4, r5, r6, r7⟩ := F3.out.res
      go_wp2
      have RF := blk_put (blk_put (blk_put (blk_put (blk_put (blk_put (blk_put (blk_put F3.out.b2 0 (.int .i64 9) rfl) 1 (.int .i64 0) rfl) 2 (.int .i64 0) rfl) 3 (.int .i64 0) rfl) 4 (.int .i64 0) rfl) 5 (.int .i64 0) rfl) 6 (.int .i64 0) rfl) 7 (.int .u32 0) rfl
      refine bodyPost_ret (v := .agg #[.int .i64 9, .int .i64 0, .int .i64 0, .int .i64 0, .int .i64 0, .int .i64 0, .int .i64 0, .int .u32 0]) (results_single rfl (Vals.cell (w.heap.size + 1) 44 _ (0, 0) _ rfl RF Try.underlying44 rfl (by kernel_rfl) .nil)) rfl ⟨rfl, ?_⟩
      repeat (first | (with_reducible exact F3.out.low) | refine below_set ?_ (by omega))
set_option maxHeartbeats 8000000 in
set_option maxRecDepth 100000 in
theorem aw_tac1 (fs : List S35) (A : Option Addr) (c : Nat) (fi : Int) (w : World) (hC : Kd.C k35 w A fs.length fs) (h0 : 0 ≤ fi) (h1 : fi < fs.length) (hf : (rd_T35 fs fi).f0 = 1) :
    Calls Try.prog 50 #[.agg #[.int .i64 0, .slice A fs.length c], .int .i64 fi, .agg #[.int .i64 1, .int .i64 0, .int .i64 0, .int .i64 0, .int .i64 0, .int .i64 0, .int .i64 0, .int .u32 65]] w fun e w' => e = .returned (.bool true) ∧ Below w.heap.size w w' := by
  obtain ⟨ad, A1, c1, rfl, e0, e1, l1, g1⟩ := at_T35 hC fi h0 h1
  rw [hf] at e0
  have hb := World.block_lt_of_cell? w _ e0
  have TS := Aside0.mk (TB.start w 0 (some ad) fs.length c 1 0 0 0 0 0 0 65 1)
  clear hC l1 g1
  go_enter Try.func50, Try.ntmps50
  go_upto_region 2 with (fail)
  go_cut [18] (fun v18 wc => v18 = .bool false ∧ Aside0 (TB w wc 0 (some ad) fs.length c 1 0 0 0 0 0 0 65 1))
  case first =>
    go_region_with (go_at_call 76; refine (aw_bare1 _).mono ?_; rintro e w2 ⟨rfl, hb2⟩; (have TB2 : Aside0 (TB w w2 0 (some ad) fs.length c 1 0 0 0 0 0 0 65 1) := by refine ⟨TB.move ?_ hb2⟩; repeat (first | exact TS.out | refine TB.move ?_ (below_drew1 (Below.refl _ _)))); clear hb2; obtain ⟨x0, x1, x2, x3, x4, x5, x6, x7, x8, x9, x10⟩ := TB2.out.cells)
    all_goals
      go_wp2
      go_meet
      case rel => exact ⟨by first | rfl | simp, by refine ⟨?_⟩; repeat (first | exact TB2.out | refine TB.move ?_ (below_drew1 (Below.refl _ _)))⟩
  case rest =>
    clear TS e0 e1 hb
    obtain ⟨rfl, TC⟩ := hcut
    obtain ⟨x0, x1, x2, x3, x4, x5, x6, x7, x8, x9, x10⟩ := TC.out.cells
    go_wp2_with fail
    refine (aw_uses1 _).mono ?_
    rintro e w2 ⟨rfl, hb2⟩
    have HBc := Aside0.mk hb2
    have TC2 := Aside0.mk (TC.out.move hb2)
    clear hb2 x0 x1 x2 x3 x4 x5 x6 x7 x8 x9 x10
    obtain ⟨x0, x1, x2, x3, x4, x5, x6, x7, x8, x9, x10⟩ := TC2.out.cells
    go_upto_block 0 with (fail)
    go_cut [8] (fun v8 wd => ∃ A2 c2, v8 = .slice A2 1 c2 ∧ Aside0 (TB w wd 0 (some ad) fs.length c 1 0 0 0 0 0 0 65 1) ∧ Aside0 (Kd.C (Kd.int .i64) wd A2 1 [0]))
    case first =>
      go_wp2_with ((with_reducible refine gate_builtin (b := .append) (xs := #[.tmp 30, .tmp 33]) rfl ?_); at_builtin; refine Kd.R_append (Kd.int .i64) (w0 := wc) wc.heap.size rfl (.tmp 30) (.tmp 33) 79 3 (.int .i64 0) 8 rfl Try.underlying79 info3 rfl (by decide) (by omega) (.slice none 0 0) [] 0 [.int .i64 0] (fun _ => True) (fun _ => False) rfl rfl ?aP (fun _ hk => hk.elim) ?aF ?aO ?aB ?aS ?aL ?_; (case aP => exact rfl); (case aB => exact (by repeat (first | (with_reducible first | exact HBc.out | apply below_alloc | apply pw_below_drewN | apply below_drew1) | exact HBc.out))); (case aF => exact (fun _ _ => trivial)); (case aO => exact (by (with_reducible repeat (first | apply Kd.R_alloc | apply Kd.R_drewN | apply Kd.R_drew)); exact Kd.R_nil _ _ _ _ _)); (case aS => exact (below_size (by repeat (first | (with_reducible first | exact HBc.out | apply below_alloc | apply pw_below_drewN | apply below_drew1) | exact HBc.out)))); (case aL => simp); intro v174 w4 ho hb hg hat; have HO := Aside0.mk ho; have HB4 := Aside0.mk hb; clear ho hb hg hat)
      obtain ⟨A4, c4, e4, hl4, hC4⟩ := Kd.R_reads HO.out
      subst e4
      go_meet
      case rel => exact ⟨_, _, rfl, ⟨TC.out.move HB4.out⟩, ⟨hC4⟩⟩
    case rest =>
      clear TC TC2 x0 x1 x2 x3 x4 x5 x6 x7 x8 x9 x10
      obtain ⟨A2, c2, rfl, TC, HL⟩ := hcut
      obtain ⟨x0, x1, x2, x3, x4, x5, x6, x7, x8, x9, x10⟩ := TC.out.cells
      go_wp2_with fail
      refine (has_int [0] A2 c2 1 (w.heap.size + 2) _ ?hl1 ?hl2).mono ?_
      case hl1 => exact HL.out
      case hl2 => exact x9
      rintro e w3 ⟨rfl, hd⟩
      have TC3 := Aside0.mk (TC.out.move hd.below)
      clear hd TC x0 x1 x2 x3 x4 x5 x6 x7 x8 x9 x10
      obtain ⟨x0, x1, x2, x3, x4, x5, x6, x7, x8, x9, x10⟩ := TC3.out.cells
      rw [show [(0 : Int)].any (outside 1) = false from rfl]
      go_wp2
      repeat (go_quiet (fail); try go_wp2)
      go_ret
      exact ⟨rfl, by repeat (first | exact TC3.out.low | apply below_drew1 | apply pw_below_drewN)⟩
set_option maxHeartbeats 8000000 in
set_option maxRecDepth 100000 in
theorem aw_tac2 (fs : List S35) (A : Option Addr) (c : Nat) (fi : Int) (w : World) (hC : Kd.C k35 w A fs.length fs) (h0 : 0 ≤ fi) (h1 : fi < fs.length) (hf : (rd_T35 fs fi).f0 = 1) :
    Calls Try.prog 50 #[.agg #[.int .i64 0, .slice A fs.length c], .int .i64 fi, .agg #[.int .i64 9, .int .i64 0, .int .i64 0, .int .i64 0, .int .i64 0, .int .i64 0, .int .i64 0, .int .u32 0]] w fun e w' => e = .returned (.bool true) ∧ Below w.heap.size w w' := by
  obtain ⟨ad, A1, c1, rfl, e0, e1, l1, g1⟩ := at_T35 hC fi h0 h1
  rw [hf] at e0
  have hb := World.block_lt_of_cell? w _ e0
  have TS := Aside0.mk (TB.start w 0 (some ad) fs.length c 9 0 0 0 0 0 0 0 1)
  clear hC l1 g1
  go_enter Try.func50, Try.ntmps50
  go_upto_region 2 with (fail)
  go_cut [18] (fun v18 wc => v18 = .bool false ∧ Aside0 (TB w wc 0 (some ad) fs.length c 9 0 0 0 0 0 0 0 1))
  case first =>
    go_region_with (go_at_call 76; refine (aw_bare2 _).mono ?_; rintro e w2 ⟨rfl, hb2⟩; (have TB2 : Aside0 (TB w w2 0 (some ad) fs.length c 9 0 0 0 0 0 0 0 1) := by refine ⟨TB.move ?_ hb2⟩; repeat (first | exact TS.out | refine TB.move ?_ (below_drew1 (Below.refl _ _)))); clear hb2; obtain ⟨x0, x1, x2, x3, x4, x5, x6, x7, x8, x9, x10⟩ := TB2.out.cells)
    all_goals
      go_wp2
      go_meet
      case rel => exact ⟨by first | rfl | simp, by refine ⟨?_⟩; repeat (first | exact TB2.out | refine TB.move ?_ (below_drew1 (Below.refl _ _)))⟩
  case rest =>
    clear TS e0 e1 hb
    obtain ⟨rfl, TC⟩ := hcut
    obtain ⟨x0, x1, x2, x3, x4, x5, x6, x7, x8, x9, x10⟩ := TC.out.cells
    go_wp2_with fail
    refine (aw_uses2 _).mono ?_
    rintro e w2 ⟨⟨g, rfl, hg⟩, hb2⟩
    have TC2 := Aside0.mk (TC.out.move hb2)
    have HL0 := Aside0.mk (C_of_blk (d := Kd.int .i64) (xs := [0]) [[.int .i64 0]] hg rfl rfl (by simp) (fun i x c hx hc => by
      match i, hx, hc with
      | 0, hx, hc => simp at hx hc; subst hx hc; rfl))
    clear hb2 hg x0 x1 x2 x3 x4 x5 x6 x7 x8 x9 x10
    obtain ⟨x0, x1, x2, x3, x4, x5, x6, x7, x8, x9, x10⟩ := TC2.out.cells
    go_upto_block 0 with (fail)
    go_cut [8] (fun v8 wd => ∃ A2 c2, v8 = .slice A2 1 c2 ∧ Aside0 (TB w wd 0 (some ad) fs.length c 9 0 0 0 0 0 0 0 1) ∧ Aside0 (Kd.C (Kd.int .i64) wd A2 1 [0]))
    case first =>
      go_wp2
      go_meet
      case rel => exact ⟨_, _, rfl, TC2, HL0⟩
    case rest =>
      clear TC TC2 x0 x1 x2 x3 x4 x5 x6 x7 x8 x9 x10
      obtain ⟨A2, c2, rfl, TC, HL⟩ := hcut
      obtain ⟨x0, x1, x2, x3, x4, x5, x6, x7, x8, x9, x10⟩ := TC.out.cells
      go_wp2_with fail
      refine (has_int [0] A2 c2 1 (w.heap.size + 2) _ ?hl1 ?hl2).mono ?_
      case hl1 => exact HL.out
      case hl2 => exact x9
      rintro e w3 ⟨rfl, hd⟩
      have TC3 := Aside0.mk (TC.out.move hd.below)
      clear hd TC x0 x1 x2 x3 x4 x5 x6 x7 x8 x9 x10
      obtain ⟨x0, x1, x2, x3, x4, x5, x6, x7, x8, x9, x10⟩ := TC3.out.cells
      rw [show [(0 : Int)].any (outside 1) = false from rfl]
      go_wp2
      repeat (go_quiet (fail); try go_wp2)
      go_ret
      exact ⟨rfl, by repeat (first | exact TC3.out.low | apply below_drew1 | apply pw_below_drewN)⟩
end Go.Proofs.Ytocnkjhicbmmoaa.Q
