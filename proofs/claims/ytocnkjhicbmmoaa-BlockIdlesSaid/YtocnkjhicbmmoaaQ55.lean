/- Contracts of the Go functions that the statements reach: each answers what its Lean function tells. -/
import Derived.Test.YtocnkjhicbmmoaaQ0
import Derived.Test.YtocnkjhicbmmoaaQ38
import Derived.Test.YtocnkjhicbmmoaaQ39
namespace Go.Proofs.Ytocnkjhicbmmoaa.Q
open Go.RowKit Go.Proofs.YtocnkjhicbmmoaaW.PrintWords Go.Proofs.YtocnkjhicbmmoaaW.PrintLast
set_option linter.unusedVariables false
set_option linter.unusedSimpArgs false

/-! ### block_bare: function 76 -/
mutual
def block_bare.j0 : Nat → Int → Int → Int → Int → Int → Int → Int → Int → Int → Int → Int → Int → Int → Int → Int → Int → Option (Int × Int × Int × Int × Int × Int × Int × Int)
  | 0, _, _, _, _, _, _, _, _, _, _, _, _, _, _, _, _ => none
  | k + 1, x533000, x533001, x533002, x533003, x533004, x533005, x533006, x533007, x535000, x535001, x535002, x535003, x535004, x535005, x535006, x535007 => (block_Uses.f k x533000 x533001 x533002 x533003 x533004 x533005 x533006 x533007).bind fun t536 => (block_bare.l0 k t536 (t536.length : Int) 0 x533000 x533001 x533002 x533003 x533004 x533005 x533006 x533007 x535000 x535001 x535002 x535003 x535004 x535005 x535006 x535007)
def block_bare.l0 : Nat → List Int → Int → Int → Int → Int → Int → Int → Int → Int → Int → Int → Int → Int → Int → Int → Int → Int → Int → Int → Option (Int × Int × Int × Int × Int × Int × Int × Int)
  | 0, _, _, _, _, _, _, _, _, _, _, _, _, _, _, _, _, _, _, _ => none
  | k + 1, x16, x17, x18, x533000, x533001, x533002, x533003, x533004, x533005, x533006, x533007, x535000, x535001, x535002, x535003, x535004, x535005, x535006, x535007 => if x18 < x17 then (if 0 ≤ x18 then (if x18 < (x16.length : Int) then (if x18 = 0 then (block_bare.l0 k x16 x17 (wrap64 (x18 + 1)) x533000 x533001 x533002 x533003 x533004 x533005 x533006 x533007 x535000 x535001 (rd x16 x18) x535003 x535004 x535005 x535006 x535007) else (block_bare.l0 k x16 x17 (wrap64 (x18 + 1)) x533000 x533001 x533002 x533003 x533004 x533005 x533006 x533007 x535000 x535001 x535002 (rd x16 x18) x535004 x535005 x535006 x535007)) else (none)) else (none)) else (if x533000 = 1 then (some (x535000, x535001, x535002, x535003, x535004, x535005, x535006, x533007)) else (if x533000 = 3 then (some (x535000, x535001, x535002, x535003, x533004, x535005, x535006, x535007)) else (if x533000 = 4 then (block_bare.j2 k x533000 (x533000 == 4) x533000 x533001 x533002 x533003 x533004 x533005 x533006 x533007 x535000 x535001 x535002 x535003 x535004 x535005 x535006 x535007) else (if x533000 = 5 then (block_bare.j2 k x533000 (x533000 == 5) x533000 x533001 x533002 x533003 x533004 x533005 x533006 x533007 x535000 x535001 x535002 x535003 x535004 x535005 x535006 x535007) else (block_bare.j2 k x533000 (x533000 == 10) x533000 x533001 x533002 x533003 x533004 x533005 x533006 x533007 x535000 x535001 x535002 x535003 x535004 x535005 x535006 x535007)))))
def block_bare.j2 : Nat → Int → Bool → Int → Int → Int → Int → Int → Int → Int → Int → Int → Int → Int → Int → Int → Int → Int → Int → Option (Int × Int × Int × Int × Int × Int × Int × Int)
  | 0, _, _, _, _, _, _, _, _, _, _, _, _, _, _, _, _, _, _ => none
  | k + 1, x31, x42, x533000, x533001, x533002, x533003, x533004, x533005, x533006, x533007, x535000, x535001, x535002, x535003, x535004, x535005, x535006, x535007 => if x42 = true then (some (x535000, x535001, x535002, x535003, x535004, x533005, x535006, x535007)) else (if x31 = 6 then (some (x535000, x535001, x535002, x535003, x535004, x533005, x533006, x535007)) else (if x31 = 7 then (some (x535000, x535001, x535002, x535003, x535004, x533005, x533006, x535007)) else (some (x535000, x535001, x535002, x535003, x535004, x535005, x535006, x535007))))
end
def block_bare.f (k : Nat) (a0_0 : Int) (a0_1 : Int) (a0_2 : Int) (a0_3 : Int) (a0_4 : Int) (a0_5 : Int) (a0_6 : Int) (a0_7 : Int) : Option (Int × Int × Int × Int × Int × Int × Int × Int) := (block_Sets.f a0_0 a0_1 a0_2 a0_3 a0_4 a0_5 a0_6 a0_7).bind fun t535 => (if t535 ≥ 0 then (block_bare.j0 k a0_0 a0_1 a0_2 a0_3 a0_4 a0_5 a0_6 a0_7 a0_0 a0_1 0 0 0 0 0 0) else (block_bare.j0 k a0_0 a0_1 a0_2 a0_3 a0_4 a0_5 a0_6 a0_7 a0_0 0 0 0 0 0 0 0))
theorem block_bare.mono_l : ∀ k, (∀ y0 y1 y2 y3 y4 y5 y6 y7 y8 y9 y10 y11 y12 y13 y14 y15, LeO (block_bare.j0 k y0 y1 y2 y3 y4 y5 y6 y7 y8 y9 y10 y11 y12 y13 y14 y15) (block_bare.j0 (k + 1) y0 y1 y2 y3 y4 y5 y6 y7 y8 y9 y10 y11 y12 y13 y14 y15)) ∧ (∀ y0 y1 y2 y3 y4 y5 y6 y7 y8 y9 y10 y11 y12 y13 y14 y15 y16 y17 y18, LeO (block_bare.l0 k y0 y1 y2 y3 y4 y5 y6 y7 y8 y9 y10 y11 y12 y13 y14 y15 y16 y17 y18) (block_bare.l0 (k + 1) y0 y1 y2 y3 y4 y5 y6 y7 y8 y9 y10 y11 y12 y13 y14 y15 y16 y17 y18)) ∧ (∀ y0 y1 y2 y3 y4 y5 y6 y7 y8 y9 y10 y11 y12 y13 y14 y15 y16 y17, LeO (block_bare.j2 k y0 y1 y2 y3 y4 y5 y6 y7 y8 y9 y10 y11 y12 y13 y14 y15 y16 y17) (block_bare.j2 (k + 1) y0 y1 y2 y3 y4 y5 y6 y7 y8 y9 y10 y11 y12 y13 y14 y15 y16 y17))
  | 0 => ⟨fun _ _ _ _ _ _ _ _ _ _ _ _ _ _ _ _ r h => by simp [block_bare.j0] at h, fun _ _ _ _ _ _ _ _ _ _ _ _ _ _ _ _ _ _ _ r h => by simp [block_bare.l0] at h, fun _ _ _ _ _ _ _ _ _ _ _ _ _ _ _ _ _ _ r h => by simp [block_bare.j2] at h⟩
  | k + 1 => by
    obtain ⟨ih0, ih1, ih2⟩ := block_bare.mono_l k
    refine ⟨?_, ?_, ?_⟩
    · intro y0 y1 y2 y3 y4 y5 y6 y7 y8 y9 y10 y11 y12 y13 y14 y15
      unfold block_bare.j0
      repeat' first
      | (with_reducible exact ih0 _ _ _ _ _ _ _ _ _ _ _ _ _ _ _ _)
      | (with_reducible exact ih1 _ _ _ _ _ _ _ _ _ _ _ _ _ _ _ _ _ _ _)
      | (with_reducible exact ih2 _ _ _ _ _ _ _ _ _ _ _ _ _ _ _ _ _ _)
      | (with_reducible exact block_Uses.mono _ _ _ _ _ _ _ _ _)
      | (with_reducible exact LeO.refl _)
      | (with_reducible exact LeO.none _)
      | (with_reducible refine LeO.ite ?_ ?_)
      | (with_reducible refine LeO.bind ?_ (fun _ => ?_))
      | exact ih0 _ _ _ _ _ _ _ _ _ _ _ _ _ _ _ _
      | exact ih1 _ _ _ _ _ _ _ _ _ _ _ _ _ _ _ _ _ _ _
      | exact ih2 _ _ _ _ _ _ _ _ _ _ _ _ _ _ _ _ _ _
      | exact block_Uses.mono _ _ _ _ _ _ _ _ _
      | exact LeO.none _
      | refine LeO.ite ?_ ?_
      | refine LeO.bind ?_ (fun _ => ?_)
    · intro y0 y1 y2 y3 y4 y5 y6 y7 y8 y9 y10 y11 y12 y13 y14 y15 y16 y17 y18
      unfold block_bare.l0
      repeat' first
      | (with_reducible exact ih0 _ _ _ _ _ _ _ _ _ _ _ _ _ _ _ _)
      | (with_reducible exact ih1 _ _ _ _ _ _ _ _ _ _ _ _ _ _ _ _ _ _ _)
      | (with_reducible exact ih2 _ _ _ _ _ _ _ _ _ _ _ _ _ _ _ _ _ _)
      | (with_reducible exact block_Uses.mono _ _ _ _ _ _ _ _ _)
      | (with_reducible exact LeO.refl _)
      | (with_reducible exact LeO.none _)
      | (with_reducible refine LeO.ite ?_ ?_)
      | (with_reducible refine LeO.bind ?_ (fun _ => ?_))
      | exact ih0 _ _ _ _ _ _ _ _ _ _ _ _ _ _ _ _
      | exact ih1 _ _ _ _ _ _ _ _ _ _ _ _ _ _ _ _ _ _ _
      | exact ih2 _ _ _ _ _ _ _ _ _ _ _ _ _ _ _ _ _ _
      | exact block_Uses.mono _ _ _ _ _ _ _ _ _
      | exact LeO.none _
      | refine LeO.ite ?_ ?_
      | refine LeO.bind ?_ (fun _ => ?_)
    · intro y0 y1 y2 y3 y4 y5 y6 y7 y8 y9 y10 y11 y12 y13 y14 y15 y16 y17
      unfold block_bare.j2
      repeat' first
      | (with_reducible exact ih0 _ _ _ _ _ _ _ _ _ _ _ _ _ _ _ _)
      | (with_reducible exact ih1 _ _ _ _ _ _ _ _ _ _ _ _ _ _ _ _ _ _ _)
      | (with_reducible exact ih2 _ _ _ _ _ _ _ _ _ _ _ _ _ _ _ _ _ _)
      | (with_reducible exact block_Uses.mono _ _ _ _ _ _ _ _ _)
      | (with_reducible exact LeO.refl _)
      | (with_reducible exact LeO.none _)
      | (with_reducible refine LeO.ite ?_ ?_)
      | (with_reducible refine LeO.bind ?_ (fun _ => ?_))
      | exact ih0 _ _ _ _ _ _ _ _ _ _ _ _ _ _ _ _
      | exact ih1 _ _ _ _ _ _ _ _ _ _ _ _ _ _ _ _ _ _ _
      | exact ih2 _ _ _ _ _ _ _ _ _ _ _ _ _ _ _ _ _ _
      | exact block_Uses.mono _ _ _ _ _ _ _ _ _
      | exact LeO.none _
      | refine LeO.ite ?_ ?_
      | refine LeO.bind ?_ (fun _ => ?_)
theorem block_bare.mono : ∀ a0 a1 a2 a3 a4 a5 a6 a7 k, LeO (block_bare.f k a0 a1 a2 a3 a4 a5 a6 a7) (block_bare.f (k + 1) a0 a1 a2 a3 a4 a5 a6 a7) := by
  intro a0 a1 a2 a3 a4 a5 a6 a7 k
  obtain ⟨ih0, ih1, ih2⟩ := block_bare.mono_l k
  unfold block_bare.f
  repeat' first
      | (with_reducible exact ih0 _ _ _ _ _ _ _ _ _ _ _ _ _ _ _ _)
      | (with_reducible exact ih1 _ _ _ _ _ _ _ _ _ _ _ _ _ _ _ _ _ _ _)
      | (with_reducible exact ih2 _ _ _ _ _ _ _ _ _ _ _ _ _ _ _ _ _ _)
      | (with_reducible exact block_Uses.mono _ _ _ _ _ _ _ _ _)
      | (with_reducible exact LeO.refl _)
      | (with_reducible exact LeO.none _)
      | (with_reducible refine LeO.ite ?_ ?_)
      | (with_reducible refine LeO.bind ?_ (fun _ => ?_))
      | exact ih0 _ _ _ _ _ _ _ _ _ _ _ _ _ _ _ _
      | exact ih1 _ _ _ _ _ _ _ _ _ _ _ _ _ _ _ _ _ _ _
      | exact ih2 _ _ _ _ _ _ _ _ _ _ _ _ _ _ _ _ _ _
      | exact block_Uses.mono _ _ _ _ _ _ _ _ _
      | exact LeO.none _
      | refine LeO.ite ?_ ?_
      | refine LeO.bind ?_ (fun _ => ?_)
def block_bare.T22 : Bool × List (List Nat × List Nat) := (true, [([], []), ([0], [0]), ([], []), ([2], [2]), ([0, 1], []), ([4, 1, 0, 1], [1, 4]), ([0, 1, 2, 3, 4, 5], []), ([6, 3, 5, 0, 1, 2, 3, 4, 5], [3, 6])])
def block_bare.B22 : List Nat := [0, 1, 0, 4, 3, 19, 63, 127]
theorem block_bare.tab22 : rtab .any (opsOf Try.f76 22) = block_bare.T22 := by kernel_rfl
theorem block_bare.bits22 : waitsOk block_bare.T22.2 block_bare.B22 = true := by kernel_rfl
set_option maxHeartbeats 8000000 in
set_option maxRecDepth 100000 in
theorem block_bare.calls (k : Nat) (a0_0 : Int) (a0_1 : Int) (a0_2 : Int) (a0_3 : Int) (a0_4 : Int) (a0_5 : Int) (a0_6 : Int) (a0_7 : Int) (r1 : Int) (r2 : Int) (r3 : Int) (r4 : Int) (r5 : Int) (r6 : Int) (r7 : Int) (r8 : Int) (w : World) (h : block_bare.f k a0_0 a0_1 a0_2 a0_3 a0_4 a0_5 a0_6 a0_7 = some (r1, r2, r3, r4, r5, r6, r7, r8)) :
    Calls Try.prog 76 #[.agg #[.int .i64 a0_0, .int .i64 a0_1, .int .i64 a0_2, .int .i64 a0_3, .int .i64 a0_4, .int .i64 a0_5, .int .i64 a0_6, .int .u32 a0_7]] w fun e w' => e = .returned (.agg #[.int .i64 r1, .int .i64 r2, .int .i64 r3, .int .i64 r4, .int .i64 r5, .int .i64 r6, .int .i64 r7, .int .u32 r8]) ∧ Below w.heap.size w w' := by
  have hu44 := Try.underlying44
  have HB := Aside0.mk (Below.refl w.heap.size w)
  have H : ((block_Sets.f a0_0 a0_1 a0_2 a0_3 a0_4 a0_5 a0_6 a0_7).bind fun t535 => (if t535 ≥ 0 then (block_bare.j0 k a0_0 a0_1 a0_2 a0_3 a0_4 a0_5 a0_6 a0_7 a0_0 a0_1 0 0 0 0 0 0) else (block_bare.j0 k a0_0 a0_1 a0_2 a0_3 a0_4 a0_5 a0_6 a0_7 a0_0 0 0 0 0 0 0 0))) = some (r1, r2, r3, r4, r5, r6, r7, r8) := h
  clear h
  replace H := Option.bind_eq_some_iff.mp H
  obtain ⟨t535, A20, H⟩ := H
  replace H : (if t535 ≥ 0 then (block_bare.j0 k a0_0 a0_1 a0_2 a0_3 a0_4 a0_5 a0_6 a0_7 a0_0 a0_1 0 0 0 0 0 0) else (block_bare.j0 k a0_0 a0_1 a0_2 a0_3 a0_4 a0_5 a0_6 a0_7 a0_0 0 0 0 0 0 0 0)) = some (r1, r2, r3, r4, r5, r6, r7, r8) := H
  have A2 := Aside0.mk A20
  clear A20
  have HC3 := Aside0.mk H
  clear H
  go_enter Try.func76, Try.ntmps76
  go_upto_if 11 with (first | ((with_reducible refine gate_dst (N := 1) rfl ?_); refine box_event ?hg (N := 1) ?hd (cs := #[.int .i64 a0_0, .int .i64 a0_1, .int .i64 a0_2, .int .i64 a0_3, .int .i64 a0_4, .int .i64 a0_5, .int .i64 a0_6, .int .u32 a0_7]) (t := 44) ?hr ?_; (case hd => rfl); (case hg => rfl); (case hr => first | (go_simp; done) | (go_simp; rfl)); intro gb532 hg w4 hbox hb; have n0_ := Aside0.mk (below_step (by repeat (first | (with_reducible first | exact HB.out | apply below_alloc | apply pw_below_drewN | apply below_drew1) | exact HB.out)) hb); have n1_ := Aside0.mk (hbox); have n2_ := Aside0.mk ((by rw [hg]; exact (below_size (by repeat (first | (with_reducible first | exact HB.out | apply below_alloc | apply pw_below_drewN | apply below_drew1) | exact HB.out))) : w.heap.size ≤ gb532)); have n3_ := Aside0.mk ((by rw [hg]; exact (below_size (by repeat (first | (with_reducible first | exact HB.out | apply below_alloc | apply pw_below_drewN | apply below_drew1) | exact HB.out))) : w.heap.size ≤ gb532)); clear HB; have HB := n0_; have BK532 := n1_; have GW532 := n2_; have GE532 := n3_; clear n0_ n1_ n2_ n3_; clear hb hbox hg) | ((with_reducible refine gate_dst (N := 2) rfl ?_); refine box_event ?hg (N := 2) ?hd (cs := #[.int .i64 0, .int .i64 0, .int .i64 0, .int .i64 0, .int .i64 0, .int .i64 0, .int .i64 0, .int .u32 0]) (t := 44) ?hr ?_; (case hd => rfl); (case hg => rfl); (case hr => first | (go_simp; done) | (go_simp; rfl)); intro gb533 hg w5 hbox hb; have n0_ := Aside0.mk (blk_below (g := gb532) (o := .cells #[.int .i64 a0_0, .int .i64 a0_1, .int .i64 a0_2, .int .i64 a0_3, .int .i64 a0_4, .int .i64 a0_5, .int .i64 a0_6, .int .u32 a0_7] 44 (0, 0)) (by (with_reducible repeat (first | refine blk_drewN ?_ _ | refine blk_drew ?_ | refine blk_alloc ?_ _)); exact BK532.out) hb); have n1_ := Aside0.mk (below_step (by repeat (first | (with_reducible first | exact HB.out | apply below_alloc | apply pw_below_drewN | apply below_drew1 | refine below_set ?_ GE532.out) | exact HB.out)) hb); have n2_ := Aside0.mk (hbox); have n3_ := Aside0.mk ((by rw [hg]; exact (below_size (by repeat (first | (with_reducible first | exact HB.out | apply below_alloc | apply pw_below_drewN | apply below_drew1 | refine below_set ?_ GE532.out) | exact HB.out))) : w.heap.size ≤ gb533)); have n4_ := Aside0.mk ((by rw [hg]; exact (below_size (by repeat (first | (with_reducible first | exact HB.out | apply below_alloc | apply pw_below_drewN | apply below_drew1 | refine below_set ?_ GE532.out) | exact HB.out))) : w.heap.size ≤ gb533)); have n5_ := Aside0.mk ((by rw [hg]; exact Nat.ne_of_lt (blk_lt (g := gb532) (o := .cells #[.int .i64 a0_0, .int .i64 a0_1, .int .i64 a0_2, .int .i64 a0_3, .int .i64 a0_4, .int .i64 a0_5, .int .i64 a0_6, .int .u32 a0_7] 44 (0, 0)) (by (with_reducible repeat (first | refine blk_drewN ?_ _ | refine blk_drew ?_ | refine blk_alloc ?_ _)); exact BK532.out)) : gb532 ≠ gb533)); have n6_ := Aside0.mk ((by rw [hg]; exact Nat.ne_of_gt (blk_lt (g := gb532) (o := .cells #[.int .i64 a0_0, .int .i64 a0_1, .int .i64 a0_2, .int .i64 a0_3, .int .i64 a0_4, .int .i64 a0_5, .int .i64 a0_6, .int .u32 a0_7] 44 (0, 0)) (by (with_reducible repeat (first | refine blk_drewN ?_ _ | refine blk_drew ?_ | refine blk_alloc ?_ _)); exact BK532.out)) : gb533 ≠ gb532)); clear BK532; clear HB; have BK532 := n0_; have HB := n1_; have BK533 := n2_; have GW533 := n3_; have GE533 := n4_; have NB532_533 := n5_; have NB533_532 := n6_; clear n0_ n1_ n2_ n3_ n4_ n5_ n6_; clear hb hbox hg; have hnb6 := NB532_533.out; have hnc6 := NB533_532.out; have hcz7_0 : w5.cell? ⟨gb532, 0, none⟩ = some (.int .i64 a0_0) := (blk_cell BK532.out 0).trans rfl; have hcz7_1 : w5.cell? ⟨gb532, 1, none⟩ = some (.int .i64 a0_1) := (blk_cell BK532.out 1).trans rfl; have hcz7_2 : w5.cell? ⟨gb532, 2, none⟩ = some (.int .i64 a0_2) := (blk_cell BK532.out 2).trans rfl; have hcz7_3 : w5.cell? ⟨gb532, 3, none⟩ = some (.int .i64 a0_3) := (blk_cell BK532.out 3).trans rfl; have hcz7_4 : w5.cell? ⟨gb532, 4, none⟩ = some (.int .i64 a0_4) := (blk_cell BK532.out 4).trans rfl; have hcz7_5 : w5.cell? ⟨gb532, 5, none⟩ = some (.int .i64 a0_5) := (blk_cell BK532.out 5).trans rfl; have hcz7_6 : w5.cell? ⟨gb532, 6, none⟩ = some (.int .i64 a0_6) := (blk_cell BK532.out 6).trans rfl; have hcz7_7 : w5.cell? ⟨gb532, 7, none⟩ = some (.int .u32 a0_7) := (blk_cell BK532.out 7).trans rfl; have hfz7_0 := blk_frozen BK532.out 0; have hfz7_1 := blk_frozen BK532.out 1; have hfz7_2 := blk_frozen BK532.out 2; have hfz7_3 := blk_frozen BK532.out 3; have hfz7_4 := blk_frozen BK532.out 4; have hfz7_5 := blk_frozen BK532.out 5; have hfz7_6 := blk_frozen BK532.out 6; have hfz7_7 := blk_frozen BK532.out 7) | ((with_reducible refine gate_dst (N := 3) rfl ?_); refine box_event ?hg (N := 3) ?hd (cs := #[.int .i64 0, .int .i64 0, .int .i64 0, .int .i64 0, .int .i64 0, .int .i64 0, .int .i64 0, .int .u32 0]) (t := 44) ?hr ?_; (case hd => rfl); (case hg => rfl); (case hr => first | (go_simp; done) | (go_simp; rfl)); intro gb534 hg w8 hbox hb; have n0_ := Aside0.mk (blk_below (g := gb532) (o := .cells #[.int .i64 a0_0, .int .i64 a0_1, .int .i64 a0_2, .int .i64 a0_3, .int .i64 a0_4, .int .i64 a0_5, .int .i64 a0_6, .int .u32 a0_7] 44 (0, 0)) (by (with_reducible repeat (first | refine blk_drewN ?_ _ | refine blk_drew ?_ | refine blk_alloc ?_ _)); exact BK532.out) hb); have n1_ := Aside0.mk (blk_below (g := gb533) (o := .cells #[.int .i64 0, .int .i64 0, .int .i64 0, .int .i64 0, .int .i64 0, .int .i64 0, .int .i64 0, .int .u32 0] 44 (0, 0)) (by (with_reducible repeat (first | refine blk_drewN ?_ _ | refine blk_drew ?_ | refine blk_alloc ?_ _)); exact BK533.out) hb); have n2_ := Aside0.mk (below_step (by repeat (first | (with_reducible first | exact HB.out | apply below_alloc | apply pw_below_drewN | apply below_drew1 | refine below_set ?_ GE532.out | refine below_set ?_ GE533.out) | exact HB.out)) hb); have n3_ := Aside0.mk (hbox); have n4_ := Aside0.mk ((by rw [hg]; exact (below_size (by repeat (first | (with_reducible first | exact HB.out | apply below_alloc | apply pw_below_drewN | apply below_drew1 | refine below_set ?_ GE532.out | refine below_set ?_ GE533.out) | exact HB.out))) : w.heap.size ≤ gb534)); have n5_ := Aside0.mk ((by rw [hg]; exact (below_size (by repeat (first | (with_reducible first | exact HB.out | apply below_alloc | apply pw_below_drewN | apply below_drew1 | refine below_set ?_ GE532.out | refine below_set ?_ GE533.out) | exact HB.out))) : w.heap.size ≤ gb534)); have n6_ := Aside0.mk ((by rw [hg]; exact Nat.ne_of_lt (blk_lt (g := gb532) (o := .cells #[.int .i64 a0_0, .int .i64 a0_1, .int .i64 a0_2, .int .i64 a0_3, .int .i64 a0_4, .int .i64 a0_5, .int .i64 a0_6, .int .u32 a0_7] 44 (0, 0)) (by (with_reducible repeat (first | refine blk_drewN ?_ _ | refine blk_drew ?_ | refine blk_alloc ?_ _)); exact BK532.out)) : gb532 ≠ gb534)); have n7_ := Aside0.mk ((by rw [hg]; exact Nat.ne_of_gt (blk_lt (g := gb532) (o := .cells #[.int .i64 a0_0, .int .i64 a0_1, .int .i64 a0_2, .int .i64 a0_3, .int .i64 a0_4, .int .i64 a0_5, .int .i64 a0_6, .int .u32 a0_7] 44 (0, 0)) (by (with_reducible repeat (first | refine blk_drewN ?_ _ | refine blk_drew ?_ | refine blk_alloc ?_ _)); exact BK532.out)) : gb534 ≠ gb532)); have n8_ := Aside0.mk ((by rw [hg]; exact Nat.ne_of_lt (blk_lt (g := gb533) (o := .cells #[.int .i64 0, .int .i64 0, .int .i64 0, .int .i64 0, .int .i64 0, .int .i64 0, .int .i64 0, .int .u32 0] 44 (0, 0)) (by (with_reducible repeat (first | refine blk_drewN ?_ _ | refine blk_drew ?_ | refine blk_alloc ?_ _)); exact BK533.out)) : gb533 ≠ gb534)); have n9_ := Aside0.mk ((by rw [hg]; exact Nat.ne_of_gt (blk_lt (g := gb533) (o := .cells #[.int .i64 0, .int .i64 0, .int .i64 0, .int .i64 0, .int .i64 0, .int .i64 0, .int .i64 0, .int .u32 0] 44 (0, 0)) (by (with_reducible repeat (first | refine blk_drewN ?_ _ | refine blk_drew ?_ | refine blk_alloc ?_ _)); exact BK533.out)) : gb534 ≠ gb533)); clear BK532; clear BK533; clear HB; have BK532 := n0_; have BK533 := n1_; have HB := n2_; have BK534 := n3_; have GW534 := n4_; have GE534 := n5_; have NB532_534 := n6_; have NB534_532 := n7_; have NB533_534 := n8_; have NB534_533 := n9_; clear n0_ n1_ n2_ n3_ n4_ n5_ n6_ n7_ n8_ n9_; clear hb hbox hg; have hnb9 := NB534_532.out; have hnc9 := NB532_534.out; have hnb10 := NB534_533.out; have hnc10 := NB533_534.out; have hcz11_0 : w8.cell? ⟨gb534, 0, none⟩ = some (.int .i64 0) := (blk_cell BK534.out 0).trans rfl; have hcz11_1 : w8.cell? ⟨gb534, 1, none⟩ = some (.int .i64 0) := (blk_cell BK534.out 1).trans rfl; have hcz11_2 : w8.cell? ⟨gb534, 2, none⟩ = some (.int .i64 0) := (blk_cell BK534.out 2).trans rfl; have hcz11_3 : w8.cell? ⟨gb534, 3, none⟩ = some (.int .i64 0) := (blk_cell BK534.out 3).trans rfl; have hcz11_4 : w8.cell? ⟨gb534, 4, none⟩ = some (.int .i64 0) := (blk_cell BK534.out 4).trans rfl; have hcz11_5 : w8.cell? ⟨gb534, 5, none⟩ = some (.int .i64 0) := (blk_cell BK534.out 5).trans rfl; have hcz11_6 : w8.cell? ⟨gb534, 6, none⟩ = some (.int .i64 0) := (blk_cell BK534.out 6).trans rfl; have hcz11_7 : w8.cell? ⟨gb534, 7, none⟩ = some (.int .u32 0) := (blk_cell BK534.out 7).trans rfl; have hfz11_0 := blk_frozen BK534.out 0; have hfz11_1 := blk_frozen BK534.out 1; have hfz11_2 := blk_frozen BK534.out 2; have hfz11_3 := blk_frozen BK534.out 3; have hfz11_4 := blk_frozen BK534.out 4; have hfz11_5 := blk_frozen BK534.out 5; have hfz11_6 := blk_frozen BK534.out 6; have hfz11_7 := blk_frozen BK534.out 7; have hcz12_0 : w8.cell? ⟨gb532, 0, none⟩ = some (.int .i64 a0_0) := (blk_cell BK532.out 0).trans rfl; have hcz12_1 : w8.cell? ⟨gb532, 1, none⟩ = some (.int .i64 a0_1) := (blk_cell BK532.out 1).trans rfl; have hcz12_2 : w8.cell? ⟨gb532, 2, none⟩ = some (.int .i64 a0_2) := (blk_cell BK532.out 2).trans rfl; have hcz12_3 : w8.cell? ⟨gb532, 3, none⟩ = some (.int .i64 a0_3) := (blk_cell BK532.out 3).trans rfl; have hcz12_4 : w8.cell? ⟨gb532, 4, none⟩ = some (.int .i64 a0_4) := (blk_cell BK532.out 4).trans rfl; have hcz12_5 : w8.cell? ⟨gb532, 5, none⟩ = some (.int .i64 a0_5) := (blk_cell BK532.out 5).trans rfl; have hcz12_6 : w8.cell? ⟨gb532, 6, none⟩ = some (.int .i64 a0_6) := (blk_cell BK532.out 6).trans rfl; have hcz12_7 : w8.cell? ⟨gb532, 7, none⟩ = some (.int .u32 a0_7) := (blk_cell BK532.out 7).trans rfl; have hfz12_0 := blk_frozen BK532.out 0; have hfz12_1 := blk_frozen BK532.out 1; have hfz12_2 := blk_frozen BK532.out 2; have hfz12_3 := blk_frozen BK532.out 3; have hfz12_4 := blk_frozen BK532.out 4; have hfz12_5 := blk_frozen BK532.out 5; have hfz12_6 := blk_frozen BK532.out 6; have hfz12_7 := blk_frozen BK532.out 7) | ((with_reducible refine gate_callee (f := 95) rfl ?_); refine goesL_ (some 10) rfl rfl Try.func95 (by kernel_rfl) rfl #[.agg #[.int .i64 a0_0, .int .i64 a0_1, .int .i64 a0_2, .int .i64 a0_3, .int .i64 a0_4, .int .i64 a0_5, .int .i64 a0_6, .int .u32 a0_7]] rfl (by (try simp only [List.map_toArray, List.map_cons, List.map_nil]); first | done | rfl | (simp only [List.length_drop, List.length_take]; rfl)) ?_; (with_reducible refine (block_Sets.calls a0_0 a0_1 a0_2 a0_3 a0_4 a0_5 a0_6 a0_7 t535 _ A2.out).mono ?_); rintro e w13 ⟨rfl, hb⟩; refine ⟨_, rfl, ?_⟩; have n0_ := Aside0.mk (blk_below (g := gb532) (o := .cells #[.int .i64 a0_0, .int .i64 a0_1, .int .i64 a0_2, .int .i64 a0_3, .int .i64 a0_4, .int .i64 a0_5, .int .i64 a0_6, .int .u32 a0_7] 44 (0, 0)) (by (with_reducible repeat (first | refine blk_drewN ?_ _ | refine blk_drew ?_ | refine blk_alloc ?_ _)); refine blk_far ?_ NB532_534.out _; (with_reducible repeat (first | refine blk_drewN ?_ _ | refine blk_drew ?_ | refine blk_alloc ?_ _)); refine blk_far ?_ NB532_534.out _; (with_reducible repeat (first | refine blk_drewN ?_ _ | refine blk_drew ?_ | refine blk_alloc ?_ _)); refine blk_far ?_ NB532_534.out _; (with_reducible repeat (first | refine blk_drewN ?_ _ | refine blk_drew ?_ | refine blk_alloc ?_ _)); refine blk_far ?_ NB532_534.out _; (with_reducible repeat (first | refine blk_drewN ?_ _ | refine blk_drew ?_ | refine blk_alloc ?_ _)); refine blk_far ?_ NB532_534.out _; (with_reducible repeat (first | refine blk_drewN ?_ _ | refine blk_drew ?_ | refine blk_alloc ?_ _)); refine blk_far ?_ NB532_534.out _; (with_reducible repeat (first | refine blk_drewN ?_ _ | refine blk_drew ?_ | refine blk_alloc ?_ _)); refine blk_far ?_ NB532_534.out _; (with_reducible repeat (first | refine blk_drewN ?_ _ | refine blk_drew ?_ | refine blk_alloc ?_ _)); refine blk_far ?_ NB532_534.out _; (with_reducible repeat (first | refine blk_drewN ?_ _ | refine blk_drew ?_ | refine blk_alloc ?_ _)); exact BK532.out) hb); have n1_ := Aside0.mk (blk_below (g := gb533) (o := .cells #[.int .i64 0, .int .i64 0, .int .i64 0, .int .i64 0, .int .i64 0, .int .i64 0, .int .i64 0, .int .u32 0] 44 (0, 0)) (by (with_reducible repeat (first | refine blk_drewN ?_ _ | refine blk_drew ?_ | refine blk_alloc ?_ _)); refine blk_far ?_ NB533_534.out _; (with_reducible repeat (first | refine blk_drewN ?_ _ | refine blk_drew ?_ | refine blk_alloc ?_ _)); refine blk_far ?_ NB533_534.out _; (with_reducible repeat (first | refine blk_drewN ?_ _ | refine blk_drew ?_ | refine blk_alloc ?_ _)); refine blk_far ?_ NB533_534.out _; (with_reducible repeat (first | refine blk_drewN ?_ _ | refine blk_drew ?_ | refine blk_alloc ?_ _)); refine blk_far ?_ NB533_534.out _; (with_reducible repeat (first | refine blk_drewN ?_ _ | refine blk_drew ?_ | refine blk_alloc ?_ _)); refine blk_far ?_ NB533_534.out _; (with_reducible repeat (first | refine blk_drewN ?_ _ | refine blk_drew ?_ | refine blk_alloc ?_ _)); refine blk_far ?_ NB533_534.out _; (with_reducible repeat (first | refine blk_drewN ?_ _ | refine blk_drew ?_ | refine blk_alloc ?_ _)); refine blk_far ?_ NB533_534.out _; (with_reducible repeat (first | refine blk_drewN ?_ _ | refine blk_drew ?_ | refine blk_alloc ?_ _)); refine blk_far ?_ NB533_534.out _; (with_reducible repeat (first | refine blk_drewN ?_ _ | refine blk_drew ?_ | refine blk_alloc ?_ _)); exact BK533.out) hb); have n2_ := Aside0.mk (blk_below (g := gb534) (o := .cells #[.int .i64 a0_0, .int .i64 0, .int .i64 0, .int .i64 0, .int .i64 0, .int .i64 0, .int .i64 0, .int .u32 0] 44 (0, 0)) (by (with_reducible repeat (first | refine blk_drewN ?_ _ | refine blk_drew ?_ | refine blk_alloc ?_ _)); refine blk_put (cs := #[.int .i64 a0_0, .int .i64 0, .int .i64 0, .int .i64 0, .int .i64 0, .int .i64 0, .int .i64 0, .int .u32 0]) ?_ 7 _ rfl; (with_reducible repeat (first | refine blk_drewN ?_ _ | refine blk_drew ?_ | refine blk_alloc ?_ _)); refine blk_put (cs := #[.int .i64 a0_0, .int .i64 0, .int .i64 0, .int .i64 0, .int .i64 0, .int .i64 0, .int .i64 0, .int .u32 0]) ?_ 6 _ rfl; (with_reducible repeat (first | refine blk_drewN ?_ _ | refine blk_drew ?_ | refine blk_alloc ?_ _)); refine blk_put (cs := #[.int .i64 a0_0, .int .i64 0, .int .i64 0, .int .i64 0, .int .i64 0, .int .i64 0, .int .i64 0, .int .u32 0]) ?_ 5 _ rfl; (with_reducible repeat (first | refine blk_drewN ?_ _ | refine blk_drew ?_ | refine blk_alloc ?_ _)); refine blk_put (cs := #[.int .i64 a0_0, .int .i64 0, .int .i64 0, .int .i64 0, .int .i64 0, .int .i64 0, .int .i64 0, .int .u32 0]) ?_ 4 _ rfl; (with_reducible repeat (first | refine blk_drewN ?_ _ | refine blk_drew ?_ | refine blk_alloc ?_ _)); refine blk_put (cs := #[.int .i64 a0_0, .int .i64 0, .int .i64 0, .int .i64 0, .int .i64 0, .int .i64 0, .int .i64 0, .int .u32 0]) ?_ 3 _ rfl; (with_reducible repeat (first | refine blk_drewN ?_ _ | refine blk_drew ?_ | refine blk_alloc ?_ _)); refine blk_put (cs := #[.int .i64 a0_0, .int .i64 0, .int .i64 0, .int .i64 0, .int .i64 0, .int .i64 0, .int .i64 0, .int .u32 0]) ?_ 2 _ rfl; (with_reducible repeat (first | refine blk_drewN ?_ _ | refine blk_drew ?_ | refine blk_alloc ?_ _)); refine blk_put (cs := #[.int .i64 a0_0, .int .i64 0, .int .i64 0, .int .i64 0, .int .i64 0, .int .i64 0, .int .i64 0, .int .u32 0]) ?_ 1 _ rfl; (with_reducible repeat (first | refine blk_drewN ?_ _ | refine blk_drew ?_ | refine blk_alloc ?_ _)); refine blk_put (cs := #[.int .i64 0, .int .i64 0, .int .i64 0, .int .i64 0, .int .i64 0, .int .i64 0, .int .i64 0, .int .u32 0]) ?_ 0 _ rfl; (with_reducible repeat (first | refine blk_drewN ?_ _ | refine blk_drew ?_ | refine blk_alloc ?_ _)); exact BK534.out) hb); have n3_ := Aside0.mk (below_step (by repeat (first | (with_reducible first | exact HB.out | apply below_alloc | apply pw_below_drewN | apply below_drew1 | refine below_set ?_ GE532.out | refine below_set ?_ GE533.out | refine below_set ?_ GE534.out) | exact HB.out)) hb); clear BK532; clear BK533; clear BK534; clear HB; have BK532 := n0_; have BK533 := n1_; have BK534 := n2_; have HB := n3_; clear n0_ n1_ n2_ n3_; (try clear hb); (try clear hb2); (try clear hk); (try clear hi)))
  (try simp only [Act.put, List.setIfInBounds_toArray, List.set_cons_zero, List.set_cons_succ])
  go_cut [] (fun wc => ∃ (kq : Nat) (x535001_2 : Int), Aside0 (block_bare.j0 kq a0_0 a0_1 a0_2 a0_3 a0_4 a0_5 a0_6 a0_7 a0_0 x535001_2 0 0 0 0 0 0 = some (r1, r2, r3, r4, r5, r6, r7, r8)) ∧ Aside0 (kq ≤ k) ∧ Aside0 (wc.heap[gb532]? = some (.cells #[.int .i64 a0_0, .int .i64 a0_1, .int .i64 a0_2, .int .i64 a0_3, .int .i64 a0_4, .int .i64 a0_5, .int .i64 a0_6, .int .u32 a0_7] 44 (0, 0))) ∧ Aside0 (wc.heap[gb533]? = some (.cells #[.int .i64 0, .int .i64 0, .int .i64 0, .int .i64 0, .int .i64 0, .int .i64 0, .int .i64 0, .int .u32 0] 44 (0, 0))) ∧ Aside0 (wc.heap[gb534]? = some (.cells #[.int .i64 a0_0, .int .i64 x535001_2, .int .i64 0, .int .i64 0, .int .i64 0, .int .i64 0, .int .i64 0, .int .u32 0] 44 (0, 0))) ∧ Aside0 (Below w.heap.size w wc))
  case first =>
    have H := HC3.out
    clear HC3
    by_cases c14 : t535 ≥ 0
    · rw [if_pos c14] at H
      have c14b0 : decide (0 ≤ t535) = true := decide_eq_true c14
      clear c14
      (first | rw [c14b0] | (simp only [i64_w, i32_w]; rw [c14b0]) | skip)
      have H' := Aside0.mk H
      clear H
      have hnb15 := NB532_533.out
      have hnc15 := NB533_532.out
      have hnb16 := NB532_534.out
      have hnc16 := NB534_532.out
      have hcz17_0 : w13.cell? ⟨gb532, 0, none⟩ = some (.int .i64 a0_0) := (blk_cell BK532.out 0).trans rfl
      have hcz17_1 : w13.cell? ⟨gb532, 1, none⟩ = some (.int .i64 a0_1) := (blk_cell BK532.out 1).trans rfl
      have hcz17_2 : w13.cell? ⟨gb532, 2, none⟩ = some (.int .i64 a0_2) := (blk_cell BK532.out 2).trans rfl
      have hcz17_3 : w13.cell? ⟨gb532, 3, none⟩ = some (.int .i64 a0_3) := (blk_cell BK532.out 3).trans rfl
      have hcz17_4 : w13.cell? ⟨gb532, 4, none⟩ = some (.int .i64 a0_4) := (blk_cell BK532.out 4).trans rfl
      have hcz17_5 : w13.cell? ⟨gb532, 5, none⟩ = some (.int .i64 a0_5) := (blk_cell BK532.out 5).trans rfl
      have hcz17_6 : w13.cell? ⟨gb532, 6, none⟩ = some (.int .i64 a0_6) := (blk_cell BK532.out 6).trans rfl
      have hcz17_7 : w13.cell? ⟨gb532, 7, none⟩ = some (.int .u32 a0_7) := (blk_cell BK532.out 7).trans rfl
      have hfz17_0 := blk_frozen BK532.out 0
      have hfz17_1 := blk_frozen BK532.out 1
      have hfz17_2 := blk_frozen BK532.out 2
      have hfz17_3 := blk_frozen BK532.out 3
      have hfz17_4 := blk_frozen BK532.out 4
      have hfz17_5 := blk_frozen BK532.out 5
      have hfz17_6 := blk_frozen BK532.out 6
      have hfz17_7 := blk_frozen BK532.out 7
      have hnb18 := NB534_533.out
      have hnc18 := NB533_534.out
      have hcz19_0 : w13.cell? ⟨gb534, 0, none⟩ = some (.int .i64 a0_0) := (blk_cell BK534.out 0).trans rfl
      have hcz19_1 : w13.cell? ⟨gb534, 1, none⟩ = some (.int .i64 0) := (blk_cell BK534.out 1).trans rfl
      have hcz19_2 : w13.cell? ⟨gb534, 2, none⟩ = some (.int .i64 0) := (blk_cell BK534.out 2).trans rfl
      have hcz19_3 : w13.cell? ⟨gb534, 3, none⟩ = some (.int .i64 0) := (blk_cell BK534.out 3).trans rfl
      have hcz19_4 : w13.cell? ⟨gb534, 4, none⟩ = some (.int .i64 0) := (blk_cell BK534.out 4).trans rfl
      have hcz19_5 : w13.cell? ⟨gb534, 5, none⟩ = some (.int .i64 0) := (blk_cell BK534.out 5).trans rfl
      have hcz19_6 : w13.cell? ⟨gb534, 6, none⟩ = some (.int .i64 0) := (blk_cell BK534.out 6).trans rfl
      have hcz19_7 : w13.cell? ⟨gb534, 7, none⟩ = some (.int .u32 0) := (blk_cell BK534.out 7).trans rfl
      have hfz19_0 := blk_frozen BK534.out 0
      have hfz19_1 := blk_frozen BK534.out 1
      have hfz19_2 := blk_frozen BK534.out 2
      have hfz19_3 := blk_frozen BK534.out 3
      have hfz19_4 := blk_frozen BK534.out 4
      have hfz19_5 := blk_frozen BK534.out 5
      have hfz19_6 := blk_frozen BK534.out 6
      have hfz19_7 := blk_frozen BK534.out 7
      go_wp2
      go_meet
      case rel => exact ⟨_, (a0_1), H', ⟨by first | omega | exact Nat.le_refl _⟩, ⟨by (with_reducible repeat (first | refine blk_drewN ?_ _ | refine blk_drew ?_ | refine blk_alloc ?_ _)); refine blk_far ?_ NB532_534.out _; (with_reducible repeat (first | refine blk_drewN ?_ _ | refine blk_drew ?_ | refine blk_alloc ?_ _)); exact BK532.out⟩, ⟨by (with_reducible repeat (first | refine blk_drewN ?_ _ | refine blk_drew ?_ | refine blk_alloc ?_ _)); refine blk_far ?_ NB533_534.out _; (with_reducible repeat (first | refine blk_drewN ?_ _ | refine blk_drew ?_ | refine blk_alloc ?_ _)); exact BK533.out⟩, ⟨by (with_reducible repeat (first | refine blk_drewN ?_ _ | refine blk_drew ?_ | refine blk_alloc ?_ _)); refine blk_put (cs := #[.int .i64 a0_0, .int .i64 0, .int .i64 0, .int .i64 0, .int .i64 0, .int .i64 0, .int .i64 0, .int .u32 0]) ?_ 1 _ rfl; (with_reducible repeat (first | refine blk_drewN ?_ _ | refine blk_drew ?_ | refine blk_alloc ?_ _)); exact BK534.out⟩, ⟨by repeat (first | (with_reducible first | exact HB.out | apply below_alloc | apply pw_below_drewN | apply below_drew1 | refine below_set ?_ GE532.out | refine below_set ?_ GE533.out | refine below_set ?_ GE534.out) | exact HB.out)⟩⟩
    · rw [if_neg c14] at H
      have c14b0 : decide (0 ≤ t535) = false := decide_eq_false c14
      clear c14
      (first | rw [c14b0] | (simp only [i64_w, i32_w]; rw [c14b0]) | skip)
      have H' := Aside0.mk H
      clear H
      go_wp2
      go_meet
      case rel => exact ⟨_, (0), H', ⟨by first | omega | exact Nat.le_refl _⟩, ⟨by (with_reducible repeat (first | refine blk_drewN ?_ _ | refine blk_drew ?_ | refine blk_alloc ?_ _)); exact BK532.out⟩, ⟨by (with_reducible repeat (first | refine blk_drewN ?_ _ | refine blk_drew ?_ | refine blk_alloc ?_ _)); exact BK533.out⟩, ⟨by (with_reducible repeat (first | refine blk_drewN ?_ _ | refine blk_drew ?_ | refine blk_alloc ?_ _)); exact BK534.out⟩, ⟨by repeat (first | (with_reducible first | exact HB.out | apply below_alloc | apply pw_below_drewN | apply below_drew1 | refine below_set ?_ GE532.out | refine below_set ?_ GE533.out | refine below_set ?_ GE534.out) | exact HB.out)⟩⟩
  case rest =>
    clear HC3
    try clear c1
    try clear p2
    try clear c6
    try clear c7
    try clear c9
    try clear c10
    try clear c14
    try clear c14b0
    try clear c15
    try clear c16
    try clear c18
    try clear hcz11_0
    try clear hcz11_1
    try clear hcz11_2
    try clear hcz11_3
    try clear hcz11_4
    try clear hcz11_5
    try clear hcz11_6
    try clear hcz11_7
    try clear hcz12_0
    try clear hcz12_1
    try clear hcz12_2
    try clear hcz12_3
    try clear hcz12_4
    try clear hcz12_5
    try clear hcz12_6
    try clear hcz12_7
    try clear hcz17_0
    try clear hcz17_1
    try clear hcz17_2
    try clear hcz17_3
    try clear hcz17_4
    try clear hcz17_5
    try clear hcz17_6
    try clear hcz17_7
    try clear hcz19_0
    try clear hcz19_1
    try clear hcz19_2
    try clear hcz19_3
    try clear hcz19_4
    try clear hcz19_5
    try clear hcz19_6
    try clear hcz19_7
    try clear hcz7_0
    try clear hcz7_1
    try clear hcz7_2
    try clear hcz7_3
    try clear hcz7_4
    try clear hcz7_5
    try clear hcz7_6
    try clear hcz7_7
    try clear hfz11_0
    try clear hfz11_1
    try clear hfz11_2
    try clear hfz11_3
    try clear hfz11_4
    try clear hfz11_5
    try clear hfz11_6
    try clear hfz11_7
    try clear hfz12_0
    try clear hfz12_1
    try clear hfz12_2
    try clear hfz12_3
    try clear hfz12_4
    try clear hfz12_5
    try clear hfz12_6
    try clear hfz12_7
    try clear hfz17_0
    try clear hfz17_1
    try clear hfz17_2
    try clear hfz17_3
    try clear hfz17_4
    try clear hfz17_5
    try clear hfz17_6
    try clear hfz17_7
    try clear hfz19_0
    try clear hfz19_1
    try clear hfz19_2
    try clear hfz19_3
    try clear hfz19_4
    try clear hfz19_5
    try clear hfz19_6
    try clear hfz19_7
    try clear hfz7_0
    try clear hfz7_1
    try clear hfz7_2
    try clear hfz7_3
    try clear hfz7_4
    try clear hfz7_5
    try clear hfz7_6
    try clear hfz7_7
    obtain ⟨kq, x535001_2, HA, HJ2, BK532, BK533, BK534, HB⟩ := hcut
    cases kq with
    | zero => exact absurd HA.out (by simp [block_bare.j0])
    | succ kj2 =>
      have H := HA.out
      clear HA
      simp only [block_bare.j0] at H
      replace H := Option.bind_eq_some_iff.mp H
      obtain ⟨t536, A200, H⟩ := H
      replace H : (block_bare.l0 kj2 t536 (t536.length : Int) 0 a0_0 a0_1 a0_2 a0_3 a0_4 a0_5 a0_6 a0_7 a0_0 x535001_2 0 0 0 0 0 0) = some (r1, r2, r3, r4, r5, r6, r7, r8) := H
      have A20 := Aside0.mk A200
      clear A200
      have H' := Aside0.mk H
      clear H
      have hnb21 := NB532_533.out
      have hnc21 := NB533_532.out
      have hnb22 := NB532_534.out
      have hnc22 := NB534_532.out
      have hcz23_0 : wc.cell? ⟨gb532, 0, none⟩ = some (.int .i64 a0_0) := (blk_cell BK532.out 0).trans rfl
      have hcz23_1 : wc.cell? ⟨gb532, 1, none⟩ = some (.int .i64 a0_1) := (blk_cell BK532.out 1).trans rfl
      have hcz23_2 : wc.cell? ⟨gb532, 2, none⟩ = some (.int .i64 a0_2) := (blk_cell BK532.out 2).trans rfl
      have hcz23_3 : wc.cell? ⟨gb532, 3, none⟩ = some (.int .i64 a0_3) := (blk_cell BK532.out 3).trans rfl
      have hcz23_4 : wc.cell? ⟨gb532, 4, none⟩ = some (.int .i64 a0_4) := (blk_cell BK532.out 4).trans rfl
      have hcz23_5 : wc.cell? ⟨gb532, 5, none⟩ = some (.int .i64 a0_5) := (blk_cell BK532.out 5).trans rfl
      have hcz23_6 : wc.cell? ⟨gb532, 6, none⟩ = some (.int .i64 a0_6) := (blk_cell BK532.out 6).trans rfl
      have hcz23_7 : wc.cell? ⟨gb532, 7, none⟩ = some (.int .u32 a0_7) := (blk_cell BK532.out 7).trans rfl
      have hfz23_0 := blk_frozen BK532.out 0
      have hfz23_1 := blk_frozen BK532.out 1
      have hfz23_2 := blk_frozen BK532.out 2
      have hfz23_3 := blk_frozen BK532.out 3
      have hfz23_4 := blk_frozen BK532.out 4
      have hfz23_5 := blk_frozen BK532.out 5
      have hfz23_6 := blk_frozen BK532.out 6
      have hfz23_7 := blk_frozen BK532.out 7
      go_wp2_with (first | ((with_reducible refine gate_callee (f := 77) rfl ?_); refine goesL_ (some 16) rfl rfl Try.func77 (by kernel_rfl) rfl #[.agg #[.int .i64 a0_0, .int .i64 a0_1, .int .i64 a0_2, .int .i64 a0_3, .int .i64 a0_4, .int .i64 a0_5, .int .i64 a0_6, .int .u32 a0_7]] rfl (by (try simp only [List.map_toArray, List.map_cons, List.map_nil]); first | done | rfl | (simp only [List.length_drop, List.length_take]; rfl)) ?_; (with_reducible refine (block_Uses.calls kj2 a0_0 a0_1 a0_2 a0_3 a0_4 a0_5 a0_6 a0_7 t536 _ A20.out).mono ?_); rintro e w24 ⟨v537, rfl, ho0, hb⟩; refine ⟨_, rfl, ?_⟩; have n0_ := Aside0.mk (Kd.R_lower ho0 (below_size (by repeat (first | (with_reducible first | exact HB.out | apply below_alloc | apply pw_below_drewN | apply below_drew1 | refine below_set ?_ GE532.out | refine below_set ?_ GE533.out | refine below_set ?_ GE534.out) | exact HB.out)))); have n1_ := Aside0.mk (blk_below (g := gb532) (o := .cells #[.int .i64 a0_0, .int .i64 a0_1, .int .i64 a0_2, .int .i64 a0_3, .int .i64 a0_4, .int .i64 a0_5, .int .i64 a0_6, .int .u32 a0_7] 44 (0, 0)) (by (with_reducible repeat (first | refine blk_drewN ?_ _ | refine blk_drew ?_ | refine blk_alloc ?_ _)); exact BK532.out) hb); have n2_ := Aside0.mk (blk_below (g := gb533) (o := .cells #[.int .i64 0, .int .i64 0, .int .i64 0, .int .i64 0, .int .i64 0, .int .i64 0, .int .i64 0, .int .u32 0] 44 (0, 0)) (by (with_reducible repeat (first | refine blk_drewN ?_ _ | refine blk_drew ?_ | refine blk_alloc ?_ _)); exact BK533.out) hb); have n3_ := Aside0.mk (blk_below (g := gb534) (o := .cells #[.int .i64 a0_0, .int .i64 x535001_2, .int .i64 0, .int .i64 0, .int .i64 0, .int .i64 0, .int .i64 0, .int .u32 0] 44 (0, 0)) (by (with_reducible repeat (first | refine blk_drewN ?_ _ | refine blk_drew ?_ | refine blk_alloc ?_ _)); exact BK534.out) hb); have n4_ := Aside0.mk (below_step (by repeat (first | (with_reducible first | exact HB.out | apply below_alloc | apply pw_below_drewN | apply below_drew1 | refine below_set ?_ GE532.out | refine below_set ?_ GE533.out | refine below_set ?_ GE534.out) | exact HB.out)) hb); clear BK532; clear BK533; clear BK534; clear HB; have HO538 := n0_; have BK532 := n1_; have BK533 := n2_; have BK534 := n3_; have HB := n4_; clear n0_ n1_ n2_ n3_ n4_; (try clear hb); (try clear hb2); (try clear hk); (try clear hi); (try clear ho0); obtain ⟨Ao25, co25, eo25⟩ := Kd.R_slice HO538.out; subst eo25))
      go_loopg [18] kj2 (fun kq v18 w' => ∃ (x18_2 : Int) (x535002_2 : Int) (x535003_2 : Int), v18 = .int .i64 x18_2 ∧ Aside0 (block_bare.l0 kq t536 (t536.length : Int) x18_2 a0_0 a0_1 a0_2 a0_3 a0_4 a0_5 a0_6 a0_7 a0_0 x535001_2 x535002_2 x535003_2 0 0 0 0 = some (r1, r2, r3, r4, r5, r6, r7, r8)) ∧ Aside0 (kq ≤ kj2) ∧ Aside0 (Kd.R (Kd.int .i64) 3 w' w.heap.size (fun _ => True) (.slice Ao25 t536.length co25) t536) ∧ Aside0 (w'.heap[gb532]? = some (.cells #[.int .i64 a0_0, .int .i64 a0_1, .int .i64 a0_2, .int .i64 a0_3, .int .i64 a0_4, .int .i64 a0_5, .int .i64 a0_6, .int .u32 a0_7] 44 (0, 0))) ∧ Aside0 (w'.heap[gb533]? = some (.cells #[.int .i64 0, .int .i64 0, .int .i64 0, .int .i64 0, .int .i64 0, .int .i64 0, .int .i64 0, .int .u32 0] 44 (0, 0))) ∧ Aside0 (w'.heap[gb534]? = some (.cells #[.int .i64 a0_0, .int .i64 x535001_2, .int .i64 x535002_2, .int .i64 x535003_2, .int .i64 0, .int .i64 0, .int .i64 0, .int .u32 0] 44 (0, 0))) ∧ Aside0 (Below w.heap.size w w'))
      case atStart => exact ⟨(0), (0), (0), (by first | rfl | (simp; done) | (simp [*]; done)), H', ⟨Nat.le_refl _⟩, ⟨by (with_reducible repeat (first | apply Kd.R_alloc | apply Kd.R_drewN | apply Kd.R_drew)); exact HO538.out⟩, ⟨by (with_reducible repeat (first | refine blk_drewN ?_ _ | refine blk_drew ?_ | refine blk_alloc ?_ _)); exact BK532.out⟩, ⟨by (with_reducible repeat (first | refine blk_drewN ?_ _ | refine blk_drew ?_ | refine blk_alloc ?_ _)); exact BK533.out⟩, ⟨by (with_reducible repeat (first | refine blk_drewN ?_ _ | refine blk_drew ?_ | refine blk_alloc ?_ _)); exact BK534.out⟩, ⟨by repeat (first | (with_reducible first | exact HB.out | apply below_alloc | apply pw_below_drewN | apply below_drew1 | refine below_set ?_ GE532.out | refine below_set ?_ GE533.out | refine below_set ?_ GE534.out) | exact HB.out)⟩⟩
      case round =>
        clear H'
        try clear c1
        try clear c2
        try clear p2
        try clear c6
        try clear c7
        try clear c9
        try clear c10
        try clear c14
        try clear c14b0
        try clear c15
        try clear c16
        try clear c18
        try clear c21
        try clear c22
        try clear hcz11_0
        try clear hcz11_1
        try clear hcz11_2
        try clear hcz11_3
        try clear hcz11_4
        try clear hcz11_5
        try clear hcz11_6
        try clear hcz11_7
        try clear hcz12_0
        try clear hcz12_1
        try clear hcz12_2
        try clear hcz12_3
        try clear hcz12_4
        try clear hcz12_5
        try clear hcz12_6
        try clear hcz12_7
        try clear hcz17_0
        try clear hcz17_1
        try clear hcz17_2
        try clear hcz17_3
        try clear hcz17_4
        try clear hcz17_5
        try clear hcz17_6
        try clear hcz17_7
        try clear hcz19_0
        try clear hcz19_1
        try clear hcz19_2
        try clear hcz19_3
        try clear hcz19_4
        try clear hcz19_5
        try clear hcz19_6
        try clear hcz19_7
        try clear hcz23_0
        try clear hcz23_1
        try clear hcz23_2
        try clear hcz23_3
        try clear hcz23_4
        try clear hcz23_5
        try clear hcz23_6
        try clear hcz23_7
        try clear hcz7_0
        try clear hcz7_1
        try clear hcz7_2
        try clear hcz7_3
        try clear hcz7_4
        try clear hcz7_5
        try clear hcz7_6
        try clear hcz7_7
        try clear hfz11_0
        try clear hfz11_1
        try clear hfz11_2
        try clear hfz11_3
        try clear hfz11_4
        try clear hfz11_5
        try clear hfz11_6
        try clear hfz11_7
        try clear hfz12_0
        try clear hfz12_1
        try clear hfz12_2
        try clear hfz12_3
        try clear hfz12_4
        try clear hfz12_5
        try clear hfz12_6
        try clear hfz12_7
        try clear hfz17_0
        try clear hfz17_1
        try clear hfz17_2
        try clear hfz17_3
        try clear hfz17_4
        try clear hfz17_5
        try clear hfz17_6
        try clear hfz17_7
        try clear hfz19_0
        try clear hfz19_1
        try clear hfz19_2
        try clear hfz19_3
        try clear hfz19_4
        try clear hfz19_5
        try clear hfz19_6
        try clear hfz19_7
        try clear hfz23_0
        try clear hfz23_1
        try clear hfz23_2
        try clear hfz23_3
        try clear hfz23_4
        try clear hfz23_5
        try clear hfz23_6
        try clear hfz23_7
        try clear hfz7_0
        try clear hfz7_1
        try clear hfz7_2
        try clear hfz7_3
        try clear hfz7_4
        try clear hfz7_5
        try clear hfz7_6
        try clear hfz7_7
        try clear p2
        obtain ⟨x18_2, x535002_2, x535003_2, rfl, HA, HK2, HO_16, BK532, BK533, BK534, HB⟩ := hrel
        cases gk with
        | zero => exact absurd HA.out (by simp [block_bare.l0])
        | succ k2 =>
          have H := HA.out
          clear HA
          simp only [block_bare.l0] at H
          by_cases c26 : x18_2 < (t536.length : Int)
          · rw [if_pos c26] at H
            have c26b0 : decide (x18_2 < (t536.length : Int)) = true := decide_eq_true c26
            clear c26
            by_cases c27 : 0 ≤ x18_2
            · rw [if_pos c27] at H
              have c27b0 : decide (0 ≤ x18_2) = true := decide_eq_true c27
              clear c27
              by_cases c28 : x18_2 < (t536.length : Int)
              · rw [if_pos c28] at H
                have c28b0 : decide (x18_2 < (t536.length : Int)) = true := decide_eq_true c28
                clear c28
                by_cases c29 : x18_2 = 0
                · rw [if_pos c29] at H
                  have c29b0 : (x18_2 == 0) = true := beq_iff_eq.mpr c29
                  have c29b1 : (x18_2 != 0) = false := bne_eq_false_iff_eq.mpr c29
                  clear c29
                  have H' := Aside0.mk H
                  clear H
                  have p539 : 0 ≤ (x18_2 : Int) := of_decide_eq_true (by first | (with_reducible assumption) | assumption)
                  have q539 : x18_2 < (t536.length : Int) := of_decide_eq_true (by first | (with_reducible assumption) | assumption)
                  obtain ⟨ad539, e539, hx539_0⟩ := Kd.at_int (Kd.R_reads' HO_16.out).2.2 x18_2 p539 q539
                  cases e539
                  replace p539 := eq_true p539
                  replace q539 := eq_true q539
                  have hnb30 := NB534_532.out
                  have hnc30 := NB532_534.out
                  have hnb31 := NB534_533.out
                  have hnc31 := NB533_534.out
                  have hcz32_0 : wr.cell? ⟨gb534, 0, none⟩ = some (.int .i64 a0_0) := (blk_cell BK534.out 0).trans rfl
                  have hcz32_1 : wr.cell? ⟨gb534, 1, none⟩ = some (.int .i64 x535001_2) := (blk_cell BK534.out 1).trans rfl
                  have hcz32_2 : wr.cell? ⟨gb534, 2, none⟩ = some (.int .i64 x535002_2) := (blk_cell BK534.out 2).trans rfl
                  have hcz32_3 : wr.cell? ⟨gb534, 3, none⟩ = some (.int .i64 x535003_2) := (blk_cell BK534.out 3).trans rfl
                  have hcz32_4 : wr.cell? ⟨gb534, 4, none⟩ = some (.int .i64 0) := (blk_cell BK534.out 4).trans rfl
                  have hcz32_5 : wr.cell? ⟨gb534, 5, none⟩ = some (.int .i64 0) := (blk_cell BK534.out 5).trans rfl
                  have hcz32_6 : wr.cell? ⟨gb534, 6, none⟩ = some (.int .i64 0) := (blk_cell BK534.out 6).trans rfl
                  have hcz32_7 : wr.cell? ⟨gb534, 7, none⟩ = some (.int .u32 0) := (blk_cell BK534.out 7).trans rfl
                  have hfz32_0 := blk_frozen BK534.out 0
                  have hfz32_1 := blk_frozen BK534.out 1
                  have hfz32_2 := blk_frozen BK534.out 2
                  have hfz32_3 := blk_frozen BK534.out 3
                  have hfz32_4 := blk_frozen BK534.out 4
                  have hfz32_5 := blk_frozen BK534.out 5
                  have hfz32_6 := blk_frozen BK534.out 6
                  have hfz32_7 := blk_frozen BK534.out 7
                  go_wp2
                  go_roundg k2
                  case measure => have := HJ2.out; have := HK2.out; omega
                  case rel => exact ⟨(wrap64 (x18_2 + 1)), (rd t536 x18_2), (x535003_2), (by first | rfl | (simp; done) | (simp [*]; done)), H', ⟨by have := HJ2.out; have := HK2.out; omega⟩, ⟨by (with_reducible repeat (first | apply Kd.R_alloc | apply Kd.R_drewN | apply Kd.R_drew)); exact Kd.R_mono (Kd.R_far (p := ⟨gb534, 2, none⟩) (Kd.R_types HO_16.out BK534.out (by decide)) (fun _ hk => hk.2) (.int .i64 (rd t536 x18_2))) (fun _ hk => trivial)⟩, ⟨by (with_reducible repeat (first | refine blk_drewN ?_ _ | refine blk_drew ?_ | refine blk_alloc ?_ _)); refine blk_far ?_ NB532_534.out _; (with_reducible repeat (first | refine blk_drewN ?_ _ | refine blk_drew ?_ | refine blk_alloc ?_ _)); exact BK532.out⟩, ⟨by (with_reducible repeat (first | refine blk_drewN ?_ _ | refine blk_drew ?_ | refine blk_alloc ?_ _)); refine blk_far ?_ NB533_534.out _; (with_reducible repeat (first | refine blk_drewN ?_ _ | refine blk_drew ?_ | refine blk_alloc ?_ _)); exact BK533.out⟩, ⟨by (with_reducible repeat (first | refine blk_drewN ?_ _ | refine blk_drew ?_ | refine blk_alloc ?_ _)); refine blk_put (cs := #[.int .i64 a0_0, .int .i64 x535001_2, .int .i64 x535002_2, .int .i64 x535003_2, .int .i64 0, .int .i64 0, .int .i64 0, .int .u32 0]) ?_ 2 _ rfl; (with_reducible repeat (first | refine blk_drewN ?_ _ | refine blk_drew ?_ | refine blk_alloc ?_ _)); exact BK534.out⟩, ⟨by repeat (first | (with_reducible first | exact HB.out | apply below_alloc | apply pw_below_drewN | apply below_drew1 | refine below_set ?_ GE532.out | refine below_set ?_ GE533.out | refine below_set ?_ GE534.out) | exact HB.out)⟩⟩
                · rw [if_neg c29] at H
                  have c29b0 : (x18_2 == 0) = false := beq_eq_false_iff_ne.mpr c29
                  have c29b1 : (x18_2 != 0) = true := bne_iff_ne.mpr c29
                  have H' := Aside0.mk H
                  clear H
                  have p539 : 0 ≤ (x18_2 : Int) := of_decide_eq_true (by first | (with_reducible assumption) | assumption)
                  have q539 : x18_2 < (t536.length : Int) := of_decide_eq_true (by first | (with_reducible assumption) | assumption)
                  obtain ⟨ad539, e539, hx539_0⟩ := Kd.at_int (Kd.R_reads' HO_16.out).2.2 x18_2 p539 q539
                  cases e539
                  replace p539 := eq_true p539
                  replace q539 := eq_true q539
                  have hnb33 := NB534_532.out
                  have hnc33 := NB532_534.out
                  have hnb34 := NB534_533.out
                  have hnc34 := NB533_534.out
                  have hcz35_0 : wr.cell? ⟨gb534, 0, none⟩ = some (.int .i64 a0_0) := (blk_cell BK534.out 0).trans rfl
                  have hcz35_1 : wr.cell? ⟨gb534, 1, none⟩ = some (.int .i64 x535001_2) := (blk_cell BK534.out 1).trans rfl
                  have hcz35_2 : wr.cell? ⟨gb534, 2, none⟩ = some (.int .i64 x535002_2) := (blk_cell BK534.out 2).trans rfl
                  have hcz35_3 : wr.cell? ⟨gb534, 3, none⟩ = some (.int .i64 x535003_2) := (blk_cell BK534.out 3).trans rfl
                  have hcz35_4 : wr.cell? ⟨gb534, 4, none⟩ = some (.int .i64 0) := (blk_cell BK534.out 4).trans rfl
                  have hcz35_5 : wr.cell? ⟨gb534, 5, none⟩ = some (.int .i64 0) := (blk_cell BK534.out 5).trans rfl
                  have hcz35_6 : wr.cell? ⟨gb534, 6, none⟩ = some (.int .i64 0) := (blk_cell BK534.out 6).trans rfl
                  have hcz35_7 : wr.cell? ⟨gb534, 7, none⟩ = some (.int .u32 0) := (blk_cell BK534.out 7).trans rfl
                  have hfz35_0 := blk_frozen BK534.out 0
                  have hfz35_1 := blk_frozen BK534.out 1
                  have hfz35_2 := blk_frozen BK534.out 2
                  have hfz35_3 := blk_frozen BK534.out 3
                  have hfz35_4 := blk_frozen BK534.out 4
                  have hfz35_5 := blk_frozen BK534.out 5
                  have hfz35_6 := blk_frozen BK534.out 6
                  have hfz35_7 := blk_frozen BK534.out 7
                  go_wp2
                  go_roundg k2
                  case measure => have := HJ2.out; have := HK2.out; omega
                  case rel => exact ⟨(wrap64 (x18_2 + 1)), (x535002_2), (rd t536 x18_2), (by first | rfl | (simp; done) | (simp [*]; done)), H', ⟨by have := HJ2.out; have := HK2.out; omega⟩, ⟨by (with_reducible repeat (first | apply Kd.R_alloc | apply Kd.R_drewN | apply Kd.R_drew)); exact Kd.R_mono (Kd.R_far (p := ⟨gb534, 3, none⟩) (Kd.R_types HO_16.out BK534.out (by decide)) (fun _ hk => hk.2) (.int .i64 (rd t536 x18_2))) (fun _ hk => trivial)⟩, ⟨by (with_reducible repeat (first | refine blk_drewN ?_ _ | refine blk_drew ?_ | refine blk_alloc ?_ _)); refine blk_far ?_ NB532_534.out _; (with_reducible repeat (first | refine blk_drewN ?_ _ | refine blk_drew ?_ | refine blk_alloc ?_ _)); exact BK532.out⟩, ⟨by (with_reducible repeat (first | refine blk_drewN ?_ _ | refine blk_drew ?_ | refine blk_alloc ?_ _)); refine blk_far ?_ NB533_534.out _; (with_reducible repeat (first | refine blk_drewN ?_ _ | refine blk_drew ?_ | refine blk_alloc ?_ _)); exact BK533.out⟩, ⟨by (with_reducible repeat (first | refine blk_drewN ?_ _ | refine blk_drew ?_ | refine blk_alloc ?_ _)); refine blk_put (cs := #[.int .i64 a0_0, .int .i64 x535001_2, .int .i64 x535002_2, .int .i64 x535003_2, .int .i64 0, .int .i64 0, .int .i64 0, .int .u32 0]) ?_ 3 _ rfl; (with_reducible repeat (first | refine blk_drewN ?_ _ | refine blk_drew ?_ | refine blk_alloc ?_ _)); exact BK534.out⟩, ⟨by repeat (first | (with_reducible first | exact HB.out | apply below_alloc | apply pw_below_drewN | apply below_drew1 | refine below_set ?_ GE532.out | refine below_set ?_ GE533.out | refine below_set ?_ GE534.out) | exact HB.out)⟩⟩
              · rw [if_neg c28] at H
                exact absurd H (by simp)
            · rw [if_neg c27] at H
              exact absurd H (by simp)
          · rw [if_neg c26] at H
            have c26b0 : decide (x18_2 < (t536.length : Int)) = false := decide_eq_false c26
            clear c26
            by_cases c36 : a0_0 = 1
            · rw [if_pos c36] at H
              have c36b0 : (a0_0 == 1) = true := beq_iff_eq.mpr c36
              have c36b1 : (a0_0 != 1) = false := bne_eq_false_iff_eq.mpr c36
              clear c36
              simp only [Option.some.injEq, Prod.mk.injEq] at H
              obtain ⟨rfl, rfl, rfl, rfl, rfl, rfl, rfl, rfl⟩ := H
              have hnb37 := NB532_533.out
              have hnc37 := NB533_532.out
              have hnb38 := NB532_534.out
              have hnc38 := NB534_532.out
              have hcz39_0 : wr.cell? ⟨gb532, 0, none⟩ = some (.int .i64 a0_0) := (blk_cell BK532.out 0).trans rfl
              have hcz39_1 : wr.cell? ⟨gb532, 1, none⟩ = some (.int .i64 a0_1) := (blk_cell BK532.out 1).trans rfl
              have hcz39_2 : wr.cell? ⟨gb532, 2, none⟩ = some (.int .i64 a0_2) := (blk_cell BK532.out 2).trans rfl
              have hcz39_3 : wr.cell? ⟨gb532, 3, none⟩ = some (.int .i64 a0_3) := (blk_cell BK532.out 3).trans rfl
              have hcz39_4 : wr.cell? ⟨gb532, 4, none⟩ = some (.int .i64 a0_4) := (blk_cell BK532.out 4).trans rfl
              have hcz39_5 : wr.cell? ⟨gb532, 5, none⟩ = some (.int .i64 a0_5) := (blk_cell BK532.out 5).trans rfl
              have hcz39_6 : wr.cell? ⟨gb532, 6, none⟩ = some (.int .i64 a0_6) := (blk_cell BK532.out 6).trans rfl
              have hcz39_7 : wr.cell? ⟨gb532, 7, none⟩ = some (.int .u32 a0_7) := (blk_cell BK532.out 7).trans rfl
              have hfz39_0 := blk_frozen BK532.out 0
              have hfz39_1 := blk_frozen BK532.out 1
              have hfz39_2 := blk_frozen BK532.out 2
              have hfz39_3 := blk_frozen BK532.out 3
              have hfz39_4 := blk_frozen BK532.out 4
              have hfz39_5 := blk_frozen BK532.out 5
              have hfz39_6 := blk_frozen BK532.out 6
              have hfz39_7 := blk_frozen BK532.out 7
              have hnb40 := NB534_533.out
              have hnc40 := NB533_534.out
              have hcz41_0 : wr.cell? ⟨gb534, 0, none⟩ = some (.int .i64 a0_0) := (blk_cell BK534.out 0).trans rfl
              have hcz41_1 : wr.cell? ⟨gb534, 1, none⟩ = some (.int .i64 x535001_2) := (blk_cell BK534.out 1).trans rfl
              have hcz41_2 : wr.cell? ⟨gb534, 2, none⟩ = some (.int .i64 x535002_2) := (blk_cell BK534.out 2).trans rfl
              have hcz41_3 : wr.cell? ⟨gb534, 3, none⟩ = some (.int .i64 x535003_2) := (blk_cell BK534.out 3).trans rfl
              have hcz41_4 : wr.cell? ⟨gb534, 4, none⟩ = some (.int .i64 0) := (blk_cell BK534.out 4).trans rfl
              have hcz41_5 : wr.cell? ⟨gb534, 5, none⟩ = some (.int .i64 0) := (blk_cell BK534.out 5).trans rfl
              have hcz41_6 : wr.cell? ⟨gb534, 6, none⟩ = some (.int .i64 0) := (blk_cell BK534.out 6).trans rfl
              have hcz41_7 : wr.cell? ⟨gb534, 7, none⟩ = some (.int .u32 0) := (blk_cell BK534.out 7).trans rfl
              have hfz41_0 := blk_frozen BK534.out 0
              have hfz41_1 := blk_frozen BK534.out 1
              have hfz41_2 := blk_frozen BK534.out 2
              have hfz41_3 := blk_frozen BK534.out 3
              have hfz41_4 := blk_frozen BK534.out 4
              have hfz41_5 := blk_frozen BK534.out 5
              have hfz41_6 := blk_frozen BK534.out 6
              have hfz41_7 := blk_frozen BK534.out 7
              have hcz42_0 : wr.cell? ⟨gb533, 0, none⟩ = some (.int .i64 0) := (blk_cell BK533.out 0).trans rfl
              have hcz42_1 : wr.cell? ⟨gb533, 1, none⟩ = some (.int .i64 0) := (blk_cell BK533.out 1).trans rfl
              have hcz42_2 : wr.cell? ⟨gb533, 2, none⟩ = some (.int .i64 0) := (blk_cell BK533.out 2).trans rfl
              have hcz42_3 : wr.cell? ⟨gb533, 3, none⟩ = some (.int .i64 0) := (blk_cell BK533.out 3).trans rfl
              have hcz42_4 : wr.cell? ⟨gb533, 4, none⟩ = some (.int .i64 0) := (blk_cell BK533.out 4).trans rfl
              have hcz42_5 : wr.cell? ⟨gb533, 5, none⟩ = some (.int .i64 0) := (blk_cell BK533.out 5).trans rfl
              have hcz42_6 : wr.cell? ⟨gb533, 6, none⟩ = some (.int .i64 0) := (blk_cell BK533.out 6).trans rfl
              have hcz42_7 : wr.cell? ⟨gb533, 7, none⟩ = some (.int .u32 0) := (blk_cell BK533.out 7).trans rfl
              have hfz42_0 := blk_frozen BK533.out 0
              have hfz42_1 := blk_frozen BK533.out 1
              have hfz42_2 := blk_frozen BK533.out 2
              have hfz42_3 := blk_frozen BK533.out 3
              have hfz42_4 := blk_frozen BK533.out 4
              have hfz42_5 := blk_frozen BK533.out 5
              have hfz42_6 := blk_frozen BK533.out 6
              have hfz42_7 := blk_frozen BK533.out 7
              go_wp2
              refine bodyPost_ret (results_cell_row rfl _ _ gb533 44 #[.int .i64 a0_0, .int .i64 x535001_2, .int .i64 x535002_2, .int .i64 x535003_2, .int .i64 0, .int .i64 0, .int .i64 0, .int .u32 a0_7] (0, 0) _ rfl (by (with_reducible repeat (first | refine blk_drewN ?_ _ | refine blk_drew ?_ | refine blk_alloc ?_ _)); refine blk_put (cs := #[.int .i64 a0_0, .int .i64 x535001_2, .int .i64 x535002_2, .int .i64 x535003_2, .int .i64 0, .int .i64 0, .int .i64 0, .int .u32 0]) ?_ 7 _ rfl; (with_reducible repeat (first | refine blk_drewN ?_ _ | refine blk_drew ?_ | refine blk_alloc ?_ _)); refine blk_put (cs := #[.int .i64 a0_0, .int .i64 x535001_2, .int .i64 x535002_2, .int .i64 x535003_2, .int .i64 0, .int .i64 0, .int .i64 0, .int .u32 0]) ?_ 6 _ rfl; (with_reducible repeat (first | refine blk_drewN ?_ _ | refine blk_drew ?_ | refine blk_alloc ?_ _)); refine blk_put (cs := #[.int .i64 a0_0, .int .i64 x535001_2, .int .i64 x535002_2, .int .i64 x535003_2, .int .i64 0, .int .i64 0, .int .i64 0, .int .u32 0]) ?_ 5 _ rfl; (with_reducible repeat (first | refine blk_drewN ?_ _ | refine blk_drew ?_ | refine blk_alloc ?_ _)); refine blk_put (cs := #[.int .i64 a0_0, .int .i64 x535001_2, .int .i64 x535002_2, .int .i64 x535003_2, .int .i64 0, .int .i64 0, .int .i64 0, .int .u32 0]) ?_ 4 _ rfl; (with_reducible repeat (first | refine blk_drewN ?_ _ | refine blk_drew ?_ | refine blk_alloc ?_ _)); refine blk_put (cs := #[.int .i64 a0_0, .int .i64 x535001_2, .int .i64 x535002_2, .int .i64 0, .int .i64 0, .int .i64 0, .int .i64 0, .int .u32 0]) ?_ 3 _ rfl; (with_reducible repeat (first | refine blk_drewN ?_ _ | refine blk_drew ?_ | refine blk_alloc ?_ _)); refine blk_put (cs := #[.int .i64 a0_0, .int .i64 x535001_2, .int .i64 0, .int .i64 0, .int .i64 0, .int .i64 0, .int .i64 0, .int .u32 0]) ?_ 2 _ rfl; (with_reducible repeat (first | refine blk_drewN ?_ _ | refine blk_drew ?_ | refine blk_alloc ?_ _)); refine blk_put (cs := #[.int .i64 a0_0, .int .i64 0, .int .i64 0, .int .i64 0, .int .i64 0, .int .i64 0, .int .i64 0, .int .u32 0]) ?_ 1 _ rfl; (with_reducible repeat (first | refine blk_drewN ?_ _ | refine blk_drew ?_ | refine blk_alloc ?_ _)); refine blk_put (cs := #[.int .i64 0, .int .i64 0, .int .i64 0, .int .i64 0, .int .i64 0, .int .i64 0, .int .i64 0, .int .u32 0]) ?_ 0 _ rfl; (with_reducible repeat (first | refine blk_drewN ?_ _ | refine blk_drew ?_ | refine blk_alloc ?_ _)); refine blk_far ?_ NB533_534.out _; (with_reducible repeat (first | refine blk_drewN ?_ _ | refine blk_drew ?_ | refine blk_alloc ?_ _)); exact BK533.out) Try.underlying44 rfl (by kernel_rfl)) rfl ?_
              exact ⟨by first | rfl | (simp [errW_none, errW_some] <;> rfl) | (simp [*, errW_none, errW_some] <;> rfl), by repeat (first | (with_reducible first | exact HB.out | apply below_alloc | apply pw_below_drewN | apply below_drew1 | refine below_set ?_ GE532.out | refine below_set ?_ GE533.out | refine below_set ?_ GE534.out) | exact HB.out)⟩
            · rw [if_neg c36] at H
              have c36b0 : (a0_0 == 1) = false := beq_eq_false_iff_ne.mpr c36
              have c36b1 : (a0_0 != 1) = true := bne_iff_ne.mpr c36
              by_cases c43 : a0_0 = 3
              · rw [if_pos c43] at H
                have c43b0 : (a0_0 == 3) = true := beq_iff_eq.mpr c43
                have c43b1 : (a0_0 != 3) = false := bne_eq_false_iff_eq.mpr c43
                clear c43
                simp only [Option.some.injEq, Prod.mk.injEq] at H
                obtain ⟨rfl, rfl, rfl, rfl, rfl, rfl, rfl, rfl⟩ := H
                have hnb44 := NB532_533.out
                have hnc44 := NB533_532.out
                have hnb45 := NB532_534.out
                have hnc45 := NB534_532.out
                have hcz46_0 : wr.cell? ⟨gb532, 0, none⟩ = some (.int .i64 a0_0) := (blk_cell BK532.out 0).trans rfl
                have hcz46_1 : wr.cell? ⟨gb532, 1, none⟩ = some (.int .i64 a0_1) := (blk_cell BK532.out 1).trans rfl
                have hcz46_2 : wr.cell? ⟨gb532, 2, none⟩ = some (.int .i64 a0_2) := (blk_cell BK532.out 2).trans rfl
                have hcz46_3 : wr.cell? ⟨gb532, 3, none⟩ = some (.int .i64 a0_3) := (blk_cell BK532.out 3).trans rfl
                have hcz46_4 : wr.cell? ⟨gb532, 4, none⟩ = some (.int .i64 a0_4) := (blk_cell BK532.out 4).trans rfl
                have hcz46_5 : wr.cell? ⟨gb532, 5, none⟩ = some (.int .i64 a0_5) := (blk_cell BK532.out 5).trans rfl
                have hcz46_6 : wr.cell? ⟨gb532, 6, none⟩ = some (.int .i64 a0_6) := (blk_cell BK532.out 6).trans rfl
                have hcz46_7 : wr.cell? ⟨gb532, 7, none⟩ = some (.int .u32 a0_7) := (blk_cell BK532.out 7).trans rfl
                have hfz46_0 := blk_frozen BK532.out 0
                have hfz46_1 := blk_frozen BK532.out 1
                have hfz46_2 := blk_frozen BK532.out 2
                have hfz46_3 := blk_frozen BK532.out 3
                have hfz46_4 := blk_frozen BK532.out 4
                have hfz46_5 := blk_frozen BK532.out 5
                have hfz46_6 := blk_frozen BK532.out 6
                have hfz46_7 := blk_frozen BK532.out 7
                have hnb47 := NB534_533.out
                have hnc47 := NB533_534.out
                have hcz48_0 : wr.cell? ⟨gb534, 0, none⟩ = some (.int .i64 a0_0) := (blk_cell BK534.out 0).trans rfl
                have hcz48_1 : wr.cell? ⟨gb534, 1, none⟩ = some (.int .i64 x535001_2) := (blk_cell BK534.out 1).trans rfl
                have hcz48_2 : wr.cell? ⟨gb534, 2, none⟩ = some (.int .i64 x535002_2) := (blk_cell BK534.out 2).trans rfl
                have hcz48_3 : wr.cell? ⟨gb534, 3, none⟩ = some (.int .i64 x535003_2) := (blk_cell BK534.out 3).trans rfl
                have hcz48_4 : wr.cell? ⟨gb534, 4, none⟩ = some (.int .i64 0) := (blk_cell BK534.out 4).trans rfl
                have hcz48_5 : wr.cell? ⟨gb534, 5, none⟩ = some (.int .i64 0) := (blk_cell BK534.out 5).trans rfl
                have hcz48_6 : wr.cell? ⟨gb534, 6, none⟩ = some (.int .i64 0) := (blk_cell BK534.out 6).trans rfl
                have hcz48_7 : wr.cell? ⟨gb534, 7, none⟩ = some (.int .u32 0) := (blk_cell BK534.out 7).trans rfl
                have hfz48_0 := blk_frozen BK534.out 0
                have hfz48_1 := blk_frozen BK534.out 1
                have hfz48_2 := blk_frozen BK534.out 2
                have hfz48_3 := blk_frozen BK534.out 3
                have hfz48_4 := blk_frozen BK534.out 4
                have hfz48_5 := blk_frozen BK534.out 5
                have hfz48_6 := blk_frozen BK534.out 6
                have hfz48_7 := blk_frozen BK534.out 7
                have hcz49_0 : wr.cell? ⟨gb533, 0, none⟩ = some (.int .i64 0) := (blk_cell BK533.out 0).trans rfl
                have hcz49_1 : wr.cell? ⟨gb533, 1, none⟩ = some (.int .i64 0) := (blk_cell BK533.out 1).trans rfl
                have hcz49_2 : wr.cell? ⟨gb533, 2, none⟩ = some (.int .i64 0) := (blk_cell BK533.out 2).trans rfl
                have hcz49_3 : wr.cell? ⟨gb533, 3, none⟩ = some (.int .i64 0) := (blk_cell BK533.out 3).trans rfl
                have hcz49_4 : wr.cell? ⟨gb533, 4, none⟩ = some (.int .i64 0) := (blk_cell BK533.out 4).trans rfl
                have hcz49_5 : wr.cell? ⟨gb533, 5, none⟩ = some (.int .i64 0) := (blk_cell BK533.out 5).trans rfl
                have hcz49_6 : wr.cell? ⟨gb533, 6, none⟩ = some (.int .i64 0) := (blk_cell BK533.out 6).trans rfl
                have hcz49_7 : wr.cell? ⟨gb533, 7, none⟩ = some (.int .u32 0) := (blk_cell BK533.out 7).trans rfl
                have hfz49_0 := blk_frozen BK533.out 0
                have hfz49_1 := blk_frozen BK533.out 1
                have hfz49_2 := blk_frozen BK533.out 2
                have hfz49_3 := blk_frozen BK533.out 3
                have hfz49_4 := blk_frozen BK533.out 4
                have hfz49_5 := blk_frozen BK533.out 5
                have hfz49_6 := blk_frozen BK533.out 6
                have hfz49_7 := blk_frozen BK533.out 7
                go_wp2
                refine bodyPost_ret (results_cell_row rfl _ _ gb533 44 #[.int .i64 a0_0, .int .i64 x535001_2, .int .i64 x535002_2, .int .i64 x535003_2, .int .i64 a0_4, .int .i64 0, .int .i64 0, .int .u32 0] (0, 0) _ rfl (by (with_reducible repeat (first | refine blk_drewN ?_ _ | refine blk_drew ?_ | refine blk_alloc ?_ _)); refine blk_put (cs := #[.int .i64 a0_0, .int .i64 x535001_2, .int .i64 x535002_2, .int .i64 x535003_2, .int .i64 a0_4, .int .i64 0, .int .i64 0, .int .u32 0]) ?_ 7 _ rfl; (with_reducible repeat (first | refine blk_drewN ?_ _ | refine blk_drew ?_ | refine blk_alloc ?_ _)); refine blk_put (cs := #[.int .i64 a0_0, .int .i64 x535001_2, .int .i64 x535002_2, .int .i64 x535003_2, .int .i64 a0_4, .int .i64 0, .int .i64 0, .int .u32 0]) ?_ 6 _ rfl; (with_reducible repeat (first | refine blk_drewN ?_ _ | refine blk_drew ?_ | refine blk_alloc ?_ _)); refine blk_put (cs := #[.int .i64 a0_0, .int .i64 x535001_2, .int .i64 x535002_2, .int .i64 x535003_2, .int .i64 a0_4, .int .i64 0, .int .i64 0, .int .u32 0]) ?_ 5 _ rfl; (with_reducible repeat (first | refine blk_drewN ?_ _ | refine blk_drew ?_ | refine blk_alloc ?_ _)); refine blk_put (cs := #[.int .i64 a0_0, .int .i64 x535001_2, .int .i64 x535002_2, .int .i64 x535003_2, .int .i64 0, .int .i64 0, .int .i64 0, .int .u32 0]) ?_ 4 _ rfl; (with_reducible repeat (first | refine blk_drewN ?_ _ | refine blk_drew ?_ | refine blk_alloc ?_ _)); refine blk_put (cs := #[.int .i64 a0_0, .int .i64 x535001_2, .int .i64 x535002_2, .int .i64 0, .int .i64 0, .int .i64 0, .int .i64 0, .int .u32 0]) ?_ 3 _ rfl; (with_reducible repeat (first | refine blk_drewN ?_ _ | refine blk_drew ?_ | refine blk_alloc ?_ _)); refine blk_put (cs := #[.int .i64 a0_0, .int .i64 x535001_2, .int .i64 0, .int .i64 0, .int .i64 0, .int .i64 0, .int .i64 0, .int .u32 0]) ?_ 2 _ rfl; (with_reducible repeat (first | refine blk_drewN ?_ _ | refine blk_drew ?_ | refine blk_alloc ?_ _)); refine blk_put (cs := #[.int .i64 a0_0, .int .i64 0, .int .i64 0, .int .i64 0, .int .i64 0, .int .i64 0, .int .i64 0, .int .u32 0]) ?_ 1 _ rfl; (with_reducible repeat (first | refine blk_drewN ?_ _ | refine blk_drew ?_ | refine blk_alloc ?_ _)); refine blk_put (cs := #[.int .i64 0, .int .i64 0, .int .i64 0, .int .i64 0, .int .i64 0, .int .i64 0, .int .i64 0, .int .u32 0]) ?_ 0 _ rfl; (with_reducible repeat (first | refine blk_drewN ?_ _ | refine blk_drew ?_ | refine blk_alloc ?_ _)); refine blk_far ?_ NB533_534.out _; (with_reducible repeat (first | refine blk_drewN ?_ _ | refine blk_drew ?_ | refine blk_alloc ?_ _)); exact BK533.out) Try.underlying44 rfl (by kernel_rfl)) rfl ?_
                exact ⟨by first | rfl | (simp [errW_none, errW_some] <;> rfl) | (simp [*, errW_none, errW_some] <;> rfl), by repeat (first | (with_reducible first | exact HB.out | apply below_alloc | apply pw_below_drewN | apply below_drew1 | refine below_set ?_ GE532.out | refine below_set ?_ GE533.out | refine below_set ?_ GE534.out) | exact HB.out)⟩
              · rw [if_neg c43] at H
                have c43b0 : (a0_0 == 3) = false := beq_eq_false_iff_ne.mpr c43
                have c43b1 : (a0_0 != 3) = true := bne_iff_ne.mpr c43
                have HC50 := Aside0.mk H
                clear H
                have hnb51 := NB532_533.out
                have hnc51 := NB533_532.out
                have hnb52 := NB532_534.out
                have hnc52 := NB534_532.out
                have hcz53_0 : wr.cell? ⟨gb532, 0, none⟩ = some (.int .i64 a0_0) := (blk_cell BK532.out 0).trans rfl
                have hcz53_1 : wr.cell? ⟨gb532, 1, none⟩ = some (.int .i64 a0_1) := (blk_cell BK532.out 1).trans rfl
                have hcz53_2 : wr.cell? ⟨gb532, 2, none⟩ = some (.int .i64 a0_2) := (blk_cell BK532.out 2).trans rfl
                have hcz53_3 : wr.cell? ⟨gb532, 3, none⟩ = some (.int .i64 a0_3) := (blk_cell BK532.out 3).trans rfl
                have hcz53_4 : wr.cell? ⟨gb532, 4, none⟩ = some (.int .i64 a0_4) := (blk_cell BK532.out 4).trans rfl
                have hcz53_5 : wr.cell? ⟨gb532, 5, none⟩ = some (.int .i64 a0_5) := (blk_cell BK532.out 5).trans rfl
                have hcz53_6 : wr.cell? ⟨gb532, 6, none⟩ = some (.int .i64 a0_6) := (blk_cell BK532.out 6).trans rfl
                have hcz53_7 : wr.cell? ⟨gb532, 7, none⟩ = some (.int .u32 a0_7) := (blk_cell BK532.out 7).trans rfl
                have hfz53_0 := blk_frozen BK532.out 0
                have hfz53_1 := blk_frozen BK532.out 1
                have hfz53_2 := blk_frozen BK532.out 2
                have hfz53_3 := blk_frozen BK532.out 3
                have hfz53_4 := blk_frozen BK532.out 4
                have hfz53_5 := blk_frozen BK532.out 5
                have hfz53_6 := blk_frozen BK532.out 6
                have hfz53_7 := blk_frozen BK532.out 7
                go_upto_if 42 with (fail)
                go_cut [42] (fun v42 wc => ∃ (kq : Nat) (x42_49 : Bool), v42 = .bool x42_49 ∧ Aside0 (block_bare.j2 kq a0_0 x42_49 a0_0 a0_1 a0_2 a0_3 a0_4 a0_5 a0_6 a0_7 a0_0 x535001_2 x535002_2 x535003_2 0 0 0 0 = some (r1, r2, r3, r4, r5, r6, r7, r8)) ∧ Aside0 (kq ≤ k2) ∧ Aside0 (wc.heap[gb532]? = some (.cells #[.int .i64 a0_0, .int .i64 a0_1, .int .i64 a0_2, .int .i64 a0_3, .int .i64 a0_4, .int .i64 a0_5, .int .i64 a0_6, .int .u32 a0_7] 44 (0, 0))) ∧ Aside0 (wc.heap[gb533]? = some (.cells #[.int .i64 0, .int .i64 0, .int .i64 0, .int .i64 0, .int .i64 0, .int .i64 0, .int .i64 0, .int .u32 0] 44 (0, 0))) ∧ Aside0 (wc.heap[gb534]? = some (.cells #[.int .i64 a0_0, .int .i64 x535001_2, .int .i64 x535002_2, .int .i64 x535003_2, .int .i64 0, .int .i64 0, .int .i64 0, .int .u32 0] 44 (0, 0))) ∧ Aside0 (Below w.heap.size w wc))
                case first =>
                  have H := HC50.out
                  clear HC50
                  by_cases c54 : a0_0 = 4
                  · rw [if_pos c54] at H
                    have c54b0 : (a0_0 == 4) = true := beq_iff_eq.mpr c54
                    have c54b1 : (a0_0 != 4) = false := bne_eq_false_iff_eq.mpr c54
                    clear c54
                    (first | rw [c54b0] | (simp only [i64_w, i32_w]; rw [c54b0]) | skip)
                    have H' := Aside0.mk H
                    clear H
                    go_wp2
                    go_meet
                    case rel => exact ⟨_, ((a0_0 == 4)), (by first | rfl | (simp; done) | (simp [*]; done)), H', ⟨by have := HJ2.out; have := HK2.out; first | omega | exact Nat.le_refl _⟩, ⟨by (with_reducible repeat (first | refine blk_drewN ?_ _ | refine blk_drew ?_ | refine blk_alloc ?_ _)); exact BK532.out⟩, ⟨by (with_reducible repeat (first | refine blk_drewN ?_ _ | refine blk_drew ?_ | refine blk_alloc ?_ _)); exact BK533.out⟩, ⟨by (with_reducible repeat (first | refine blk_drewN ?_ _ | refine blk_drew ?_ | refine blk_alloc ?_ _)); exact BK534.out⟩, ⟨by repeat (first | (with_reducible first | exact HB.out | apply below_alloc | apply pw_below_drewN | apply below_drew1 | refine below_set ?_ GE532.out | refine below_set ?_ GE533.out | refine below_set ?_ GE534.out) | exact HB.out)⟩⟩
                  · rw [if_neg c54] at H
                    have c54b0 : (a0_0 == 4) = false := beq_eq_false_iff_ne.mpr c54
                    have c54b1 : (a0_0 != 4) = true := bne_iff_ne.mpr c54
                    (first | rw [c54b0] | (simp only [i64_w, i32_w]; rw [c54b0]) | skip)
                    by_cases c55 : a0_0 = 5
                    · rw [if_pos c55] at H
                      have c55b0 : (a0_0 == 5) = true := beq_iff_eq.mpr c55
                      have c55b1 : (a0_0 != 5) = false := bne_eq_false_iff_eq.mpr c55
                      clear c55
                      have H' := Aside0.mk H
                      clear H
                      go_wp2
                      go_meet
                      case rel => exact ⟨_, ((a0_0 == 5)), (by first | rfl | (simp; done) | (simp [*]; done)), H', ⟨by have := HJ2.out; have := HK2.out; first | omega | exact Nat.le_refl _⟩, ⟨by (with_reducible repeat (first | refine blk_drewN ?_ _ | refine blk_drew ?_ | refine blk_alloc ?_ _)); exact BK532.out⟩, ⟨by (with_reducible repeat (first | refine blk_drewN ?_ _ | refine blk_drew ?_ | refine blk_alloc ?_ _)); exact BK533.out⟩, ⟨by (with_reducible repeat (first | refine blk_drewN ?_ _ | refine blk_drew ?_ | refine blk_alloc ?_ _)); exact BK534.out⟩, ⟨by repeat (first | (with_reducible first | exact HB.out | apply below_alloc | apply pw_below_drewN | apply below_drew1 | refine below_set ?_ GE532.out | refine below_set ?_ GE533.out | refine below_set ?_ GE534.out) | exact HB.out)⟩⟩
                    · rw [if_neg c55] at H
                      have c55b0 : (a0_0 == 5) = false := beq_eq_false_iff_ne.mpr c55
                      have c55b1 : (a0_0 != 5) = true := bne_iff_ne.mpr c55
                      have H' := Aside0.mk H
                      clear H
                      go_wp2
                      go_meet
                      case rel => exact ⟨_, ((a0_0 == 10)), (by first | rfl | (simp; done) | (simp [*]; done)), H', ⟨by have := HJ2.out; have := HK2.out; first | omega | exact Nat.le_refl _⟩, ⟨by (with_reducible repeat (first | refine blk_drewN ?_ _ | refine blk_drew ?_ | refine blk_alloc ?_ _)); exact BK532.out⟩, ⟨by (with_reducible repeat (first | refine blk_drewN ?_ _ | refine blk_drew ?_ | refine blk_alloc ?_ _)); exact BK533.out⟩, ⟨by (with_reducible repeat (first | refine blk_drewN ?_ _ | refine blk_drew ?_ | refine blk_alloc ?_ _)); exact BK534.out⟩, ⟨by repeat (first | (with_reducible first | exact HB.out | apply below_alloc | apply pw_below_drewN | apply below_drew1 | refine below_set ?_ GE532.out | refine below_set ?_ GE533.out | refine below_set ?_ GE534.out) | exact HB.out)⟩⟩
                case rest =>
                  clear HC50
                  try clear c1
                  try clear c2
                  try clear p2
                  try clear c3
                  try clear c4
                  try clear c5
                  try clear p5
                  try clear q5
                  try clear hx5
                  try clear c6
                  try clear p6
                  try clear c7
                  try clear c9
                  try clear c10
                  try clear c14
                  try clear c14b0
                  try clear c15
                  try clear c16
                  try clear c18
                  try clear c21
                  try clear c22
                  try clear c26
                  try clear c26b0
                  try clear c27
                  try clear c27b0
                  try clear c28
                  try clear c28b0
                  try clear c29
                  try clear c29b0
                  try clear c29b1
                  try clear c30
                  try clear c31
                  try clear c33
                  try clear c34
                  try clear c36
                  try clear c36b0
                  try clear c36b1
                  try clear c37
                  try clear c38
                  try clear c40
                  try clear c43
                  try clear c43b0
                  try clear c43b1
                  try clear c44
                  try clear c45
                  try clear c47
                  try clear c51
                  try clear c52
                  try clear p53
                  try clear q53
                  try clear hx53
                  try clear c54
                  try clear c54b0
                  try clear c54b1
                  try clear c55
                  try clear c55b0
                  try clear c55b1
                  try clear hcz11_0
                  try clear hcz11_1
                  try clear hcz11_2
                  try clear hcz11_3
                  try clear hcz11_4
                  try clear hcz11_5
                  try clear hcz11_6
                  try clear hcz11_7
                  try clear hcz12_0
                  try clear hcz12_1
                  try clear hcz12_2
                  try clear hcz12_3
                  try clear hcz12_4
                  try clear hcz12_5
                  try clear hcz12_6
                  try clear hcz12_7
                  try clear hcz17_0
                  try clear hcz17_1
                  try clear hcz17_2
                  try clear hcz17_3
                  try clear hcz17_4
                  try clear hcz17_5
                  try clear hcz17_6
                  try clear hcz17_7
                  try clear hcz19_0
                  try clear hcz19_1
                  try clear hcz19_2
                  try clear hcz19_3
                  try clear hcz19_4
                  try clear hcz19_5
                  try clear hcz19_6
                  try clear hcz19_7
                  try clear hcz23_0
                  try clear hcz23_1
                  try clear hcz23_2
                  try clear hcz23_3
                  try clear hcz23_4
                  try clear hcz23_5
                  try clear hcz23_6
                  try clear hcz23_7
                  try clear hcz32_0
                  try clear hcz32_1
                  try clear hcz32_2
                  try clear hcz32_3
                  try clear hcz32_4
                  try clear hcz32_5
                  try clear hcz32_6
                  try clear hcz32_7
                  try clear hcz35_0
                  try clear hcz35_1
                  try clear hcz35_2
                  try clear hcz35_3
                  try clear hcz35_4
                  try clear hcz35_5
                  try clear hcz35_6
                  try clear hcz35_7
                  try clear hcz39_0
                  try clear hcz39_1
                  try clear hcz39_2
                  try clear hcz39_3
                  try clear hcz39_4
                  try clear hcz39_5
                  try clear hcz39_6
                  try clear hcz39_7
                  try clear hcz41_0
                  try clear hcz41_1
                  try clear hcz41_2
                  try clear hcz41_3
                  try clear hcz41_4
                  try clear hcz41_5
                  try clear hcz41_6
                  try clear hcz41_7
                  try clear hcz42_0
                  try clear hcz42_1
                  try clear hcz42_2
                  try clear hcz42_3
                  try clear hcz42_4
                  try clear hcz42_5
                  try clear hcz42_6
                  try clear hcz42_7
                  try clear hcz46_0
                  try clear hcz46_1
                  try clear hcz46_2
                  try clear hcz46_3
                  try clear hcz46_4
                  try clear hcz46_5
                  try clear hcz46_6
                  try clear hcz46_7
                  try clear hcz48_0
                  try clear hcz48_1
                  try clear hcz48_2
                  try clear hcz48_3
                  try clear hcz48_4
                  try clear hcz48_5
                  try clear hcz48_6
                  try clear hcz48_7
                  try clear hcz49_0
                  try clear hcz49_1
                  try clear hcz49_2
                  try clear hcz49_3
                  try clear hcz49_4
                  try clear hcz49_5
                  try clear hcz49_6
                  try clear hcz49_7
                  try clear hcz53_0
                  try clear hcz53_1
                  try clear hcz53_2
                  try clear hcz53_3
                  try clear hcz53_4
                  try clear hcz53_5
                  try clear hcz53_6
                  try clear hcz53_7
                  try clear hcz7_0
                  try clear hcz7_1
                  try clear hcz7_2
                  try clear hcz7_3
                  try clear hcz7_4
                  try clear hcz7_5
                  try clear hcz7_6
                  try clear hcz7_7
                  try clear hfz11_0
                  try clear hfz11_1
                  try clear hfz11_2
                  try clear hfz11_3
                  try clear hfz11_4
                  try clear hfz11_5
                  try clear hfz11_6
                  try clear hfz11_7
                  try clear hfz12_0
                  try clear hfz12_1
                  try clear hfz12_2
                  try clear hfz12_3
                  try clear hfz12_4
                  try clear hfz12_5
                  try clear hfz12_6
                  try clear hfz12_7
                  try clear hfz17_0
                  try clear hfz17_1
                  try clear hfz17_2
                  try clear hfz17_3
                  try clear hfz17_4
                  try clear hfz17_5
                  try clear hfz17_6
                  try clear hfz17_7
                  try clear hfz19_0
                  try clear hfz19_1
                  try clear hfz19_2
                  try clear hfz19_3
                  try clear hfz19_4
                  try clear hfz19_5
                  try clear hfz19_6
                  try clear hfz19_7
                  try clear hfz23_0
                  try clear hfz23_1
                  try clear hfz23_2
                  try clear hfz23_3
                  try clear hfz23_4
                  try clear hfz23_5
                  try clear hfz23_6
                  try clear hfz23_7
                  try clear hfz32_0
                  try clear hfz32_1
                  try clear hfz32_2
                  try clear hfz32_3
                  try clear hfz32_4
                  try clear hfz32_5
                  try clear hfz32_6
                  try clear hfz32_7
                  try clear hfz35_0
                  try clear hfz35_1
                  try clear hfz35_2
                  try clear hfz35_3
                  try clear hfz35_4
                  try clear hfz35_5
                  try clear hfz35_6
                  try clear hfz35_7
                  try clear hfz39_0
                  try clear hfz39_1
                  try clear hfz39_2
                  try clear hfz39_3
                  try clear hfz39_4
                  try clear hfz39_5
                  try clear hfz39_6
                  try clear hfz39_7
                  try clear hfz41_0
                  try clear hfz41_1
                  try clear hfz41_2
                  try clear hfz41_3
                  try clear hfz41_4
                  try clear hfz41_5
                  try clear hfz41_6
                  try clear hfz41_7
                  try clear hfz42_0
                  try clear hfz42_1
                  try clear hfz42_2
                  try clear hfz42_3
                  try clear hfz42_4
                  try clear hfz42_5
                  try clear hfz42_6
                  try clear hfz42_7
                  try clear hfz46_0
                  try clear hfz46_1
                  try clear hfz46_2
                  try clear hfz46_3
                  try clear hfz46_4
                  try clear hfz46_5
                  try clear hfz46_6
                  try clear hfz46_7
                  try clear hfz48_0
                  try clear hfz48_1
                  try clear hfz48_2
                  try clear hfz48_3
                  try clear hfz48_4
                  try clear hfz48_5
                  try clear hfz48_6
                  try clear hfz48_7
                  try clear hfz49_0
                  try clear hfz49_1
                  try clear hfz49_2
                  try clear hfz49_3
                  try clear hfz49_4
                  try clear hfz49_5
                  try clear hfz49_6
                  try clear hfz49_7
                  try clear hfz53_0
                  try clear hfz53_1
                  try clear hfz53_2
                  try clear hfz53_3
                  try clear hfz53_4
                  try clear hfz53_5
                  try clear hfz53_6
                  try clear hfz53_7
                  try clear hfz7_0
                  try clear hfz7_1
                  try clear hfz7_2
                  try clear hfz7_3
                  try clear hfz7_4
                  try clear hfz7_5
                  try clear hfz7_6
                  try clear hfz7_7
                  try clear hx539_0
                  try clear p2
                  try clear p539
                  try clear q539
                  obtain ⟨kq, x42_49, rfl, HA, HJ49, BK532, BK533, BK534, HB⟩ := hcut
                  cases kq with
                  | zero => exact absurd HA.out (by simp [block_bare.j2])
                  | succ kj49 =>
                    have H := HA.out
                    clear HA
                    simp only [block_bare.j2] at H
                    by_cases c56 : x42_49 = true
                    · subst c56
                      have H1 : (some (a0_0, x535001_2, x535002_2, x535003_2, 0, a0_5, 0, 0)) = some (r1, r2, r3, r4, r5, r6, r7, r8) := by rw [if_pos rfl] at H; exact H
                      clear H
                      have H := H1
                      clear H1
                      simp only [Option.some.injEq, Prod.mk.injEq] at H
                      obtain ⟨rfl, rfl, rfl, rfl, rfl, rfl, rfl, rfl⟩ := H
                      have hnb57 := NB532_533.out
                      have hnc57 := NB533_532.out
                      have hnb58 := NB532_534.out
                      have hnc58 := NB534_532.out
                      have hcz59_0 : wc.cell? ⟨gb532, 0, none⟩ = some (.int .i64 a0_0) := (blk_cell BK532.out 0).trans rfl
                      have hcz59_1 : wc.cell? ⟨gb532, 1, none⟩ = some (.int .i64 a0_1) := (blk_cell BK532.out 1).trans rfl
                      have hcz59_2 : wc.cell? ⟨gb532, 2, none⟩ = some (.int .i64 a0_2) := (blk_cell BK532.out 2).trans rfl
                      have hcz59_3 : wc.cell? ⟨gb532, 3, none⟩ = some (.int .i64 a0_3) := (blk_cell BK532.out 3).trans rfl
                      have hcz59_4 : wc.cell? ⟨gb532, 4, none⟩ = some (.int .i64 a0_4) := (blk_cell BK532.out 4).trans rfl
                      have hcz59_5 : wc.cell? ⟨gb532, 5, none⟩ = some (.int .i64 a0_5) := (blk_cell BK532.out 5).trans rfl
                      have hcz59_6 : wc.cell? ⟨gb532, 6, none⟩ = some (.int .i64 a0_6) := (blk_cell BK532.out 6).trans rfl
                      have hcz59_7 : wc.cell? ⟨gb532, 7, none⟩ = some (.int .u32 a0_7) := (blk_cell BK532.out 7).trans rfl
                      have hfz59_0 := blk_frozen BK532.out 0
                      have hfz59_1 := blk_frozen BK532.out 1
                      have hfz59_2 := blk_frozen BK532.out 2
                      have hfz59_3 := blk_frozen BK532.out 3
                      have hfz59_4 := blk_frozen BK532.out 4
                      have hfz59_5 := blk_frozen BK532.out 5
                      have hfz59_6 := blk_frozen BK532.out 6
                      have hfz59_7 := blk_frozen BK532.out 7
                      have hnb60 := NB534_533.out
                      have hnc60 := NB533_534.out
                      have hcz61_0 : wc.cell? ⟨gb534, 0, none⟩ = some (.int .i64 a0_0) := (blk_cell BK534.out 0).trans rfl
                      have hcz61_1 : wc.cell? ⟨gb534, 1, none⟩ = some (.int .i64 x535001_2) := (blk_cell BK534.out 1).trans rfl
                      have hcz61_2 : wc.cell? ⟨gb534, 2, none⟩ = some (.int .i64 x535002_2) := (blk_cell BK534.out 2).trans rfl
                      have hcz61_3 : wc.cell? ⟨gb534, 3, none⟩ = some (.int .i64 x535003_2) := (blk_cell BK534.out 3).trans rfl
                      have hcz61_4 : wc.cell? ⟨gb534, 4, none⟩ = some (.int .i64 0) := (blk_cell BK534.out 4).trans rfl
                      have hcz61_5 : wc.cell? ⟨gb534, 5, none⟩ = some (.int .i64 0) := (blk_cell BK534.out 5).trans rfl
                      have hcz61_6 : wc.cell? ⟨gb534, 6, none⟩ = some (.int .i64 0) := (blk_cell BK534.out 6).trans rfl
                      have hcz61_7 : wc.cell? ⟨gb534, 7, none⟩ = some (.int .u32 0) := (blk_cell BK534.out 7).trans rfl
                      have hfz61_0 := blk_frozen BK534.out 0
                      have hfz61_1 := blk_frozen BK534.out 1
                      have hfz61_2 := blk_frozen BK534.out 2
                      have hfz61_3 := blk_frozen BK534.out 3
                      have hfz61_4 := blk_frozen BK534.out 4
                      have hfz61_5 := blk_frozen BK534.out 5
                      have hfz61_6 := blk_frozen BK534.out 6
                      have hfz61_7 := blk_frozen BK534.out 7
                      have hcz62_0 : wc.cell? ⟨gb533, 0, none⟩ = some (.int .i64 0) := (blk_cell BK533.out 0).trans rfl
                      have hcz62_1 : wc.cell? ⟨gb533, 1, none⟩ = some (.int .i64 0) := (blk_cell BK533.out 1).trans rfl
                      have hcz62_2 : wc.cell? ⟨gb533, 2, none⟩ = some (.int .i64 0) := (blk_cell BK533.out 2).trans rfl
                      have hcz62_3 : wc.cell? ⟨gb533, 3, none⟩ = some (.int .i64 0) := (blk_cell BK533.out 3).trans rfl
                      have hcz62_4 : wc.cell? ⟨gb533, 4, none⟩ = some (.int .i64 0) := (blk_cell BK533.out 4).trans rfl
                      have hcz62_5 : wc.cell? ⟨gb533, 5, none⟩ = some (.int .i64 0) := (blk_cell BK533.out 5).trans rfl
                      have hcz62_6 : wc.cell? ⟨gb533, 6, none⟩ = some (.int .i64 0) := (blk_cell BK533.out 6).trans rfl
                      have hcz62_7 : wc.cell? ⟨gb533, 7, none⟩ = some (.int .u32 0) := (blk_cell BK533.out 7).trans rfl
                      have hfz62_0 := blk_frozen BK533.out 0
                      have hfz62_1 := blk_frozen BK533.out 1
                      have hfz62_2 := blk_frozen BK533.out 2
                      have hfz62_3 := blk_frozen BK533.out 3
                      have hfz62_4 := blk_frozen BK533.out 4
                      have hfz62_5 := blk_frozen BK533.out 5
                      have hfz62_6 := blk_frozen BK533.out 6
                      have hfz62_7 := blk_frozen BK533.out 7
                      go_wp2
                      refine bodyPost_ret (results_cell_row rfl _ _ gb533 44 #[.int .i64 a0_0, .int .i64 x535001_2, .int .i64 x535002_2, .int .i64 x535003_2, .int .i64 0, .int .i64 a0_5, .int .i64 0, .int .u32 0] (0, 0) _ rfl (by (with_reducible repeat (first | refine blk_drewN ?_ _ | refine blk_drew ?_ | refine blk_alloc ?_ _)); refine blk_put (cs := #[.int .i64 a0_0, .int .i64 x535001_2, .int .i64 x535002_2, .int .i64 x535003_2, .int .i64 0, .int .i64 a0_5, .int .i64 0, .int .u32 0]) ?_ 7 _ rfl; (with_reducible repeat (first | refine blk_drewN ?_ _ | refine blk_drew ?_ | refine blk_alloc ?_ _)); refine blk_put (cs := #[.int .i64 a0_0, .int .i64 x535001_2, .int .i64 x535002_2, .int .i64 x535003_2, .int .i64 0, .int .i64 a0_5, .int .i64 0, .int .u32 0]) ?_ 6 _ rfl; (with_reducible repeat (first | refine blk_drewN ?_ _ | refine blk_drew ?_ | refine blk_alloc ?_ _)); refine blk_put (cs := #[.int .i64 a0_0, .int .i64 x535001_2, .int .i64 x535002_2, .int .i64 x535003_2, .int .i64 0, .int .i64 0, .int .i64 0, .int .u32 0]) ?_ 5 _ rfl; (with_reducible repeat (first | refine blk_drewN ?_ _ | refine blk_drew ?_ | refine blk_alloc ?_ _)); refine blk_put (cs := #[.int .i64 a0_0, .int .i64 x535001_2, .int .i64 x535002_2, .int .i64 x535003_2, .int .i64 0, .int .i64 0, .int .i64 0, .int .u32 0]) ?_ 4 _ rfl; (with_reducible repeat (first | refine blk_drewN ?_ _ | refine blk_drew ?_ | refine blk_alloc ?_ _)); refine blk_put (cs := #[.int .i64 a0_0, .int .i64 x535001_2, .int .i64 x535002_2, .int .i64 0, .int .i64 0, .int .i64 0, .int .i64 0, .int .u32 0]) ?_ 3 _ rfl; (with_reducible repeat (first | refine blk_drewN ?_ _ | refine blk_drew ?_ | refine blk_alloc ?_ _)); refine blk_put (cs := #[.int .i64 a0_0, .int .i64 x535001_2, .int .i64 0, .int .i64 0, .int .i64 0, .int .i64 0, .int .i64 0, .int .u32 0]) ?_ 2 _ rfl; (with_reducible repeat (first | refine blk_drewN ?_ _ | refine blk_drew ?_ | refine blk_alloc ?_ _)); refine blk_put (cs := #[.int .i64 a0_0, .int .i64 0, .int .i64 0, .int .i64 0, .int .i64 0, .int .i64 0, .int .i64 0, .int .u32 0]) ?_ 1 _ rfl; (with_reducible repeat (first | refine blk_drewN ?_ _ | refine blk_drew ?_ | refine blk_alloc ?_ _)); refine blk_put (cs := #[.int .i64 0, .int .i64 0, .int .i64 0, .int .i64 0, .int .i64 0, .int .i64 0, .int .i64 0, .int .u32 0]) ?_ 0 _ rfl; (with_reducible repeat (first | refine blk_drewN ?_ _ | refine blk_drew ?_ | refine blk_alloc ?_ _)); refine blk_far ?_ NB533_534.out _; (with_reducible repeat (first | refine blk_drewN ?_ _ | refine blk_drew ?_ | refine blk_alloc ?_ _)); exact BK533.out) Try.underlying44 rfl (by kernel_rfl)) rfl ?_
                      exact ⟨by first | rfl | (simp [errW_none, errW_some] <;> rfl) | (simp [*, errW_none, errW_some] <;> rfl), by repeat (first | (with_reducible first | exact HB.out | apply below_alloc | apply pw_below_drewN | apply below_drew1 | refine below_set ?_ GE532.out | refine below_set ?_ GE533.out | refine below_set ?_ GE534.out) | exact HB.out)⟩
                    · replace c56 := Bool.eq_false_iff.mpr c56
                      subst c56
                      have H1 : (if a0_0 = 6 then (some (a0_0, x535001_2, x535002_2, x535003_2, 0, a0_5, a0_6, 0)) else (if a0_0 = 7 then (some (a0_0, x535001_2, x535002_2, x535003_2, 0, a0_5, a0_6, 0)) else (some (a0_0, x535001_2, x535002_2, x535003_2, 0, 0, 0, 0)))) = some (r1, r2, r3, r4, r5, r6, r7, r8) := by rw [if_neg (show ¬ (false = true) by decide)] at H; exact H
                      clear H
                      have H := H1
                      clear H1
                      by_cases c63 : a0_0 = 6
                      · rw [if_pos c63] at H
                        have c63b0 : (a0_0 == 6) = true := beq_iff_eq.mpr c63
                        have c63b1 : (a0_0 != 6) = false := bne_eq_false_iff_eq.mpr c63
                        clear c63
                        simp only [Option.some.injEq, Prod.mk.injEq] at H
                        obtain ⟨rfl, rfl, rfl, rfl, rfl, rfl, rfl, rfl⟩ := H
                        try go_wp2
                        have n0_ := Aside0.mk (blk_drew BK532.out)
                        have n1_ := Aside0.mk (blk_drew BK533.out)
                        have n2_ := Aside0.mk (blk_drew BK534.out)
                        have n3_ := Aside0.mk (below_drew1 HB.out)
                        clear BK532
                        clear BK533
                        clear BK534
                        clear HB
                        have BK532 := n0_
                        have BK533 := n1_
                        have BK534 := n2_
                        have HB := n3_
                        clear n0_ n1_ n2_ n3_
                        refine start_ (n := 8) (S := fun w' => w'.cell? ⟨gb532, 0, none⟩ = some (.int .i64 a0_0) ∧ w'.cell? ⟨gb532, 1, none⟩ = some (.int .i64 a0_1) ∧ w'.cell? ⟨gb532, 2, none⟩ = some (.int .i64 a0_2) ∧ w'.cell? ⟨gb532, 3, none⟩ = some (.int .i64 a0_3) ∧ w'.cell? ⟨gb532, 4, none⟩ = some (.int .i64 a0_4) ∧ w'.cell? ⟨gb532, 5, none⟩ = some (.int .i64 a0_5) ∧ w'.cell? ⟨gb532, 6, none⟩ = some (.int .i64 a0_6) ∧ w'.cell? ⟨gb532, 7, none⟩ = some (.int .u32 a0_7)) (ds := []) #[false, false, false, false, false, false, false, false] (by kernel_rfl) rfl rfl ⟨(blk_cell BK532.out 0).trans rfl, (blk_cell BK532.out 1).trans rfl, (blk_cell BK532.out 2).trans rfl, (blk_cell BK532.out 3).trans rfl, (blk_cell BK532.out 4).trans rfl, (blk_cell BK532.out 5).trans rfl, (blk_cell BK532.out 6).trans rfl, (blk_cell BK532.out 7).trans rfl⟩ (fun hHeld => ?_); refine with_tabW block_bare.tab22 block_bare.bits22 (fun HT_ HW_ => ?_)
                        generalize wc.drew = w64 at BK532 BK533 BK534 HB hHeld ⊢
                        refine pure_ (i := 0) (N := some 52) (v := ?_) (a' := ?_) #[true, false, false, false, false, false, false, false] rfl rfl (any_of HT_.out (by kernel_rfl)) (fun _ _ _ h => h) (Or.inl ⟨by rfl, ?_⟩) ?_ ?_
                        rotate_left
                        · intro w'
                          go_simp
                          with_reducible rfl
                        rotate_left
                        · simp only [Act.put, List.setIfInBounds_toArray, List.set_cons_zero, List.set_cons_succ, i64_w, i32_w]
                          rfl
                        refine pure_ (i := 2) (N := some 54) (v := ?_) (a' := ?_) #[true, false, true, false, false, false, false, false] rfl rfl (any_of HT_.out (by kernel_rfl)) (fun _ _ _ h => h) (Or.inl ⟨by rfl, ?_⟩) ?_ ?_
                        rotate_left
                        · intro w'
                          go_simp
                          with_reducible rfl
                        rotate_left
                        · simp only [Act.put, List.setIfInBounds_toArray, List.set_cons_zero, List.set_cons_succ, i64_w, i32_w]
                          rfl
                        refine take_ (i := 1) (N := some 53) (v := ?_) (a' := ?_) #[true, true, true, false, false, false, false, false] rfl rfl (take_ofW HT_.out HW_.out (by kernel_rfl)) (fun _ _ _ h => h) (Or.inl ⟨by rfl, ?_⟩) hHeld ?_ ?_
                        rotate_left
                        · rintro w' ⟨s0, s1, s2, s3, s4, s5, s6, s7⟩
                          go_simp
                          with_reducible rfl
                        rotate_left
                        · simp only [Act.put, List.setIfInBounds_toArray, List.set_cons_zero, List.set_cons_succ, i64_w, i32_w]
                          rfl
                        refine pure_ (i := 4) (N := some 56) (v := ?_) (a' := ?_) #[true, true, true, false, true, false, false, false] rfl rfl (any_of HT_.out (by kernel_rfl)) (fun _ _ _ h => h) (Or.inl ⟨by rfl, ?_⟩) ?_ ?_
                        rotate_left
                        · intro w'
                          go_simp
                          with_reducible rfl
                        rotate_left
                        · simp only [Act.put, List.setIfInBounds_toArray, List.set_cons_zero, List.set_cons_succ, i64_w, i32_w]
                          rfl
                        refine take_ (i := 3) (N := some 55) (v := ?_) (a' := ?_) #[true, true, true, true, true, false, false, false] rfl rfl (take_ofW HT_.out HW_.out (by kernel_rfl)) (fun _ _ _ h => h) (Or.inl ⟨by rfl, ?_⟩) hHeld ?_ ?_
                        rotate_left
                        · rintro w' ⟨s0, s1, s2, s3, s4, s5, s6, s7⟩
                          go_simp
                          with_reducible rfl
                        rotate_left
                        · simp only [Act.put, List.setIfInBounds_toArray, List.set_cons_zero, List.set_cons_succ, i64_w, i32_w]
                          rfl
                        refine one_ (i := 5) (N := none) #[true, true, true, true, true, true, false, false] rfl rfl (one_of HT_.out (by kernel_rfl)) (by decide) (fun K hK => ?_)
                        have hs65 : w64.cell? ⟨gb534, 5, none⟩ = some (.int .i64 0) := (blk_cell BK534.out 5).trans rfl
                        have hfs65 := blk_frozen BK534.out 5
                        have hns65_0 := NB532_534.out
                        have hns65_1 := NB533_534.out
                        have hms65_0 := NB534_532.out
                        have hms65_1 := NB534_533.out
                        refine skip_ (w1 := ?_) (by rfl) rfl ?_ ?_
                        rotate_left
                        · go_simp
                          rfl
                        refine hK.out _ _ ⟨((cell_far (p := ⟨gb534, _, none⟩) NB532_534.out _).trans (hHeld.1)), ((cell_far (p := ⟨gb534, _, none⟩) NB532_534.out _).trans (hHeld.2.1)), ((cell_far (p := ⟨gb534, _, none⟩) NB532_534.out _).trans (hHeld.2.2.1)), ((cell_far (p := ⟨gb534, _, none⟩) NB532_534.out _).trans (hHeld.2.2.2.1)), ((cell_far (p := ⟨gb534, _, none⟩) NB532_534.out _).trans (hHeld.2.2.2.2.1)), ((cell_far (p := ⟨gb534, _, none⟩) NB532_534.out _).trans (hHeld.2.2.2.2.2.1)), ((cell_far (p := ⟨gb534, _, none⟩) NB532_534.out _).trans (hHeld.2.2.2.2.2.2.1)), ((cell_far (p := ⟨gb534, _, none⟩) NB532_534.out _).trans (hHeld.2.2.2.2.2.2.2))⟩ (fun hHeld => ?_)
                        clear hK K
                        refine pure_ (i := 6) (N := some 57) (v := ?_) (a' := ?_) #[true, true, true, true, true, true, true, false] rfl rfl (any_of HT_.out (by kernel_rfl)) (fun _ _ _ h => h) (Or.inl ⟨by rfl, ?_⟩) ?_ ?_
                        rotate_left
                        · intro w'
                          go_simp
                          with_reducible rfl
                        rotate_left
                        · simp only [Act.put, List.setIfInBounds_toArray, List.set_cons_zero, List.set_cons_succ, i64_w, i32_w]
                          rfl
                        refine one_ (i := 7) (N := none) #[true, true, true, true, true, true, true, true] rfl rfl (one_of HT_.out (by kernel_rfl)) (by decide) (fun K hK => ?_)
                        have hs66 : w64.cell? ⟨gb534, 6, none⟩ = some (.int .i64 0) := (blk_cell BK534.out 6).trans rfl
                        have hfs66 := blk_frozen BK534.out 6
                        have hns66_0 := NB532_534.out
                        have hns66_1 := NB533_534.out
                        have hms66_0 := NB534_532.out
                        have hms66_1 := NB534_533.out
                        refine skip_ (w1 := ?_) (by rfl) rfl ?_ ?_
                        rotate_left
                        · go_simp
                          rfl
                        refine hK.out _ _ ⟨((cell_far (p := ⟨gb534, _, none⟩) NB532_534.out _).trans (hHeld.1)), ((cell_far (p := ⟨gb534, _, none⟩) NB532_534.out _).trans (hHeld.2.1)), ((cell_far (p := ⟨gb534, _, none⟩) NB532_534.out _).trans (hHeld.2.2.1)), ((cell_far (p := ⟨gb534, _, none⟩) NB532_534.out _).trans (hHeld.2.2.2.1)), ((cell_far (p := ⟨gb534, _, none⟩) NB532_534.out _).trans (hHeld.2.2.2.2.1)), ((cell_far (p := ⟨gb534, _, none⟩) NB532_534.out _).trans (hHeld.2.2.2.2.2.1)), ((cell_far (p := ⟨gb534, _, none⟩) NB532_534.out _).trans (hHeld.2.2.2.2.2.2.1)), ((cell_far (p := ⟨gb534, _, none⟩) NB532_534.out _).trans (hHeld.2.2.2.2.2.2.2))⟩ (fun hHeld => ?_)
                        clear hK K
                        refine done_ (done_of HT_.out (by kernel_rfl)) ?_
                        have hnb67 := NB534_532.out
                        have hnc67 := NB532_534.out
                        have hnb68 := NB534_533.out
                        have hnc68 := NB533_534.out
                        have hcz69_0 : w64.cell? ⟨gb534, 0, none⟩ = some (.int .i64 a0_0) := (blk_cell BK534.out 0).trans rfl
                        have hcz69_1 : w64.cell? ⟨gb534, 1, none⟩ = some (.int .i64 x535001_2) := (blk_cell BK534.out 1).trans rfl
                        have hcz69_2 : w64.cell? ⟨gb534, 2, none⟩ = some (.int .i64 x535002_2) := (blk_cell BK534.out 2).trans rfl
                        have hcz69_3 : w64.cell? ⟨gb534, 3, none⟩ = some (.int .i64 x535003_2) := (blk_cell BK534.out 3).trans rfl
                        have hcz69_4 : w64.cell? ⟨gb534, 4, none⟩ = some (.int .i64 0) := (blk_cell BK534.out 4).trans rfl
                        have hcz69_5 : w64.cell? ⟨gb534, 5, none⟩ = some (.int .i64 0) := (blk_cell BK534.out 5).trans rfl
                        have hcz69_6 : w64.cell? ⟨gb534, 6, none⟩ = some (.int .i64 0) := (blk_cell BK534.out 6).trans rfl
                        have hcz69_7 : w64.cell? ⟨gb534, 7, none⟩ = some (.int .u32 0) := (blk_cell BK534.out 7).trans rfl
                        have hfz69_0 := blk_frozen BK534.out 0
                        have hfz69_1 := blk_frozen BK534.out 1
                        have hfz69_2 := blk_frozen BK534.out 2
                        have hfz69_3 := blk_frozen BK534.out 3
                        have hfz69_4 := blk_frozen BK534.out 4
                        have hfz69_5 := blk_frozen BK534.out 5
                        have hfz69_6 := blk_frozen BK534.out 6
                        have hfz69_7 := blk_frozen BK534.out 7
                        have hnb70 := NB533_532.out
                        have hnc70 := NB532_533.out
                        have hcz71_0 : w64.cell? ⟨gb533, 0, none⟩ = some (.int .i64 0) := (blk_cell BK533.out 0).trans rfl
                        have hcz71_1 : w64.cell? ⟨gb533, 1, none⟩ = some (.int .i64 0) := (blk_cell BK533.out 1).trans rfl
                        have hcz71_2 : w64.cell? ⟨gb533, 2, none⟩ = some (.int .i64 0) := (blk_cell BK533.out 2).trans rfl
                        have hcz71_3 : w64.cell? ⟨gb533, 3, none⟩ = some (.int .i64 0) := (blk_cell BK533.out 3).trans rfl
                        have hcz71_4 : w64.cell? ⟨gb533, 4, none⟩ = some (.int .i64 0) := (blk_cell BK533.out 4).trans rfl
                        have hcz71_5 : w64.cell? ⟨gb533, 5, none⟩ = some (.int .i64 0) := (blk_cell BK533.out 5).trans rfl
                        have hcz71_6 : w64.cell? ⟨gb533, 6, none⟩ = some (.int .i64 0) := (blk_cell BK533.out 6).trans rfl
                        have hcz71_7 : w64.cell? ⟨gb533, 7, none⟩ = some (.int .u32 0) := (blk_cell BK533.out 7).trans rfl
                        have hfz71_0 := blk_frozen BK533.out 0
                        have hfz71_1 := blk_frozen BK533.out 1
                        have hfz71_2 := blk_frozen BK533.out 2
                        have hfz71_3 := blk_frozen BK533.out 3
                        have hfz71_4 := blk_frozen BK533.out 4
                        have hfz71_5 := blk_frozen BK533.out 5
                        have hfz71_6 := blk_frozen BK533.out 6
                        have hfz71_7 := blk_frozen BK533.out 7
                        try go_wp2
                        refine bodyPost_ret (results_cell_row rfl _ _ gb533 44 #[.int .i64 a0_0, .int .i64 x535001_2, .int .i64 x535002_2, .int .i64 x535003_2, .int .i64 0, .int .i64 a0_5, .int .i64 a0_6, .int .u32 0] (0, 0) _ rfl (by (with_reducible repeat (first | refine blk_drewN ?_ _ | refine blk_drew ?_ | refine blk_alloc ?_ _)); refine blk_put (cs := #[.int .i64 a0_0, .int .i64 x535001_2, .int .i64 x535002_2, .int .i64 x535003_2, .int .i64 0, .int .i64 a0_5, .int .i64 a0_6, .int .u32 0]) ?_ 7 _ rfl; (with_reducible repeat (first | refine blk_drewN ?_ _ | refine blk_drew ?_ | refine blk_alloc ?_ _)); refine blk_put (cs := #[.int .i64 a0_0, .int .i64 x535001_2, .int .i64 x535002_2, .int .i64 x535003_2, .int .i64 0, .int .i64 a0_5, .int .i64 0, .int .u32 0]) ?_ 6 _ rfl; (with_reducible repeat (first | refine blk_drewN ?_ _ | refine blk_drew ?_ | refine blk_alloc ?_ _)); refine blk_put (cs := #[.int .i64 a0_0, .int .i64 x535001_2, .int .i64 x535002_2, .int .i64 x535003_2, .int .i64 0, .int .i64 0, .int .i64 0, .int .u32 0]) ?_ 5 _ rfl; (with_reducible repeat (first | refine blk_drewN ?_ _ | refine blk_drew ?_ | refine blk_alloc ?_ _)); refine blk_put (cs := #[.int .i64 a0_0, .int .i64 x535001_2, .int .i64 x535002_2, .int .i64 x535003_2, .int .i64 0, .int .i64 0, .int .i64 0, .int .u32 0]) ?_ 4 _ rfl; (with_reducible repeat (first | refine blk_drewN ?_ _ | refine blk_drew ?_ | refine blk_alloc ?_ _)); refine blk_put (cs := #[.int .i64 a0_0, .int .i64 x535001_2, .int .i64 x535002_2, .int .i64 0, .int .i64 0, .int .i64 0, .int .i64 0, .int .u32 0]) ?_ 3 _ rfl; (with_reducible repeat (first | refine blk_drewN ?_ _ | refine blk_drew ?_ | refine blk_alloc ?_ _)); refine blk_put (cs := #[.int .i64 a0_0, .int .i64 x535001_2, .int .i64 0, .int .i64 0, .int .i64 0, .int .i64 0, .int .i64 0, .int .u32 0]) ?_ 2 _ rfl; (with_reducible repeat (first | refine blk_drewN ?_ _ | refine blk_drew ?_ | refine blk_alloc ?_ _)); refine blk_put (cs := #[.int .i64 a0_0, .int .i64 0, .int .i64 0, .int .i64 0, .int .i64 0, .int .i64 0, .int .i64 0, .int .u32 0]) ?_ 1 _ rfl; (with_reducible repeat (first | refine blk_drewN ?_ _ | refine blk_drew ?_ | refine blk_alloc ?_ _)); refine blk_put (cs := #[.int .i64 0, .int .i64 0, .int .i64 0, .int .i64 0, .int .i64 0, .int .i64 0, .int .i64 0, .int .u32 0]) ?_ 0 _ rfl; (with_reducible repeat (first | refine blk_drewN ?_ _ | refine blk_drew ?_ | refine blk_alloc ?_ _)); refine blk_far ?_ NB533_534.out _; (with_reducible repeat (first | refine blk_drewN ?_ _ | refine blk_drew ?_ | refine blk_alloc ?_ _)); refine blk_far ?_ NB533_534.out _; (with_reducible repeat (first | refine blk_drewN ?_ _ | refine blk_drew ?_ | refine blk_alloc ?_ _)); exact BK533.out) Try.underlying44 rfl (by kernel_rfl)) rfl ?_
                        exact ⟨by first | rfl | (simp [errW_none, errW_some] <;> rfl) | (simp [*, errW_none, errW_some] <;> rfl), by repeat (first | (with_reducible first | exact HB.out | apply below_alloc | apply pw_below_drewN | apply below_drew1 | refine below_set ?_ GE532.out | refine below_set ?_ GE533.out | refine below_set ?_ GE534.out) | exact HB.out)⟩
                      · rw [if_neg c63] at H
                        have c63b0 : (a0_0 == 6) = false := beq_eq_false_iff_ne.mpr c63
                        have c63b1 : (a0_0 != 6) = true := bne_iff_ne.mpr c63
                        by_cases c72 : a0_0 = 7
                        · rw [if_pos c72] at H
                          have c72b0 : (a0_0 == 7) = true := beq_iff_eq.mpr c72
                          have c72b1 : (a0_0 != 7) = false := bne_eq_false_iff_eq.mpr c72
                          clear c72
                          simp only [Option.some.injEq, Prod.mk.injEq] at H
                          obtain ⟨rfl, rfl, rfl, rfl, rfl, rfl, rfl, rfl⟩ := H
                          try go_wp2
                          have n0_ := Aside0.mk (blk_drew BK532.out)
                          have n1_ := Aside0.mk (blk_drew BK533.out)
                          have n2_ := Aside0.mk (blk_drew BK534.out)
                          have n3_ := Aside0.mk (below_drew1 HB.out)
                          clear BK532
                          clear BK533
                          clear BK534
                          clear HB
                          have BK532 := n0_
                          have BK533 := n1_
                          have BK534 := n2_
                          have HB := n3_
                          clear n0_ n1_ n2_ n3_
                          refine start_ (n := 8) (S := fun w' => w'.cell? ⟨gb532, 0, none⟩ = some (.int .i64 a0_0) ∧ w'.cell? ⟨gb532, 1, none⟩ = some (.int .i64 a0_1) ∧ w'.cell? ⟨gb532, 2, none⟩ = some (.int .i64 a0_2) ∧ w'.cell? ⟨gb532, 3, none⟩ = some (.int .i64 a0_3) ∧ w'.cell? ⟨gb532, 4, none⟩ = some (.int .i64 a0_4) ∧ w'.cell? ⟨gb532, 5, none⟩ = some (.int .i64 a0_5) ∧ w'.cell? ⟨gb532, 6, none⟩ = some (.int .i64 a0_6) ∧ w'.cell? ⟨gb532, 7, none⟩ = some (.int .u32 a0_7)) (ds := []) #[false, false, false, false, false, false, false, false] (by kernel_rfl) rfl rfl ⟨(blk_cell BK532.out 0).trans rfl, (blk_cell BK532.out 1).trans rfl, (blk_cell BK532.out 2).trans rfl, (blk_cell BK532.out 3).trans rfl, (blk_cell BK532.out 4).trans rfl, (blk_cell BK532.out 5).trans rfl, (blk_cell BK532.out 6).trans rfl, (blk_cell BK532.out 7).trans rfl⟩ (fun hHeld => ?_); refine with_tabW block_bare.tab22 block_bare.bits22 (fun HT_ HW_ => ?_)
                          generalize wc.drew = w73 at BK532 BK533 BK534 HB hHeld ⊢
                          refine pure_ (i := 0) (N := some 52) (v := ?_) (a' := ?_) #[true, false, false, false, false, false, false, false] rfl rfl (any_of HT_.out (by kernel_rfl)) (fun _ _ _ h => h) (Or.inl ⟨by rfl, ?_⟩) ?_ ?_
                          rotate_left
                          · intro w'
                            go_simp
                            with_reducible rfl
                          rotate_left
                          · simp only [Act.put, List.setIfInBounds_toArray, List.set_cons_zero, List.set_cons_succ, i64_w, i32_w]
                            rfl
                          refine pure_ (i := 2) (N := some 54) (v := ?_) (a' := ?_) #[true, false, true, false, false, false, false, false] rfl rfl (any_of HT_.out (by kernel_rfl)) (fun _ _ _ h => h) (Or.inl ⟨by rfl, ?_⟩) ?_ ?_
                          rotate_left
                          · intro w'
                            go_simp
                            with_reducible rfl
                          rotate_left
                          · simp only [Act.put, List.setIfInBounds_toArray, List.set_cons_zero, List.set_cons_succ, i64_w, i32_w]
                            rfl
                          refine take_ (i := 1) (N := some 53) (v := ?_) (a' := ?_) #[true, true, true, false, false, false, false, false] rfl rfl (take_ofW HT_.out HW_.out (by kernel_rfl)) (fun _ _ _ h => h) (Or.inl ⟨by rfl, ?_⟩) hHeld ?_ ?_
                          rotate_left
                          · rintro w' ⟨s0, s1, s2, s3, s4, s5, s6, s7⟩
                            go_simp
                            with_reducible rfl
                          rotate_left
                          · simp only [Act.put, List.setIfInBounds_toArray, List.set_cons_zero, List.set_cons_succ, i64_w, i32_w]
                            rfl
                          refine pure_ (i := 4) (N := some 56) (v := ?_) (a' := ?_) #[true, true, true, false, true, false, false, false] rfl rfl (any_of HT_.out (by kernel_rfl)) (fun _ _ _ h => h) (Or.inl ⟨by rfl, ?_⟩) ?_ ?_
                          rotate_left
                          · intro w'
                            go_simp
                            with_reducible rfl
                          rotate_left
                          · simp only [Act.put, List.setIfInBounds_toArray, List.set_cons_zero, List.set_cons_succ, i64_w, i32_w]
                            rfl
                          refine take_ (i := 3) (N := some 55) (v := ?_) (a' := ?_) #[true, true, true, true, true, false, false, false] rfl rfl (take_ofW HT_.out HW_.out (by kernel_rfl)) (fun _ _ _ h => h) (Or.inl ⟨by rfl, ?_⟩) hHeld ?_ ?_
                          rotate_left
                          · rintro w' ⟨s0, s1, s2, s3, s4, s5, s6, s7⟩
                            go_simp
                            with_reducible rfl
                          rotate_left
                          · simp only [Act.put, List.setIfInBounds_toArray, List.set_cons_zero, List.set_cons_succ, i64_w, i32_w]
                            rfl
                          refine one_ (i := 5) (N := none) #[true, true, true, true, true, true, false, false] rfl rfl (one_of HT_.out (by kernel_rfl)) (by decide) (fun K hK => ?_)
                          have hs74 : w73.cell? ⟨gb534, 5, none⟩ = some (.int .i64 0) := (blk_cell BK534.out 5).trans rfl
                          have hfs74 := blk_frozen BK534.out 5
                          have hns74_0 := NB532_534.out
                          have hns74_1 := NB533_534.out
                          have hms74_0 := NB534_532.out
                          have hms74_1 := NB534_533.out
                          refine skip_ (w1 := ?_) (by rfl) rfl ?_ ?_
                          rotate_left
                          · go_simp
                            rfl
                          refine hK.out _ _ ⟨((cell_far (p := ⟨gb534, _, none⟩) NB532_534.out _).trans (hHeld.1)), ((cell_far (p := ⟨gb534, _, none⟩) NB532_534.out _).trans (hHeld.2.1)), ((cell_far (p := ⟨gb534, _, none⟩) NB532_534.out _).trans (hHeld.2.2.1)), ((cell_far (p := ⟨gb534, _, none⟩) NB532_534.out _).trans (hHeld.2.2.2.1)), ((cell_far (p := ⟨gb534, _, none⟩) NB532_534.out _).trans (hHeld.2.2.2.2.1)), ((cell_far (p := ⟨gb534, _, none⟩) NB532_534.out _).trans (hHeld.2.2.2.2.2.1)), ((cell_far (p := ⟨gb534, _, none⟩) NB532_534.out _).trans (hHeld.2.2.2.2.2.2.1)), ((cell_far (p := ⟨gb534, _, none⟩) NB532_534.out _).trans (hHeld.2.2.2.2.2.2.2))⟩ (fun hHeld => ?_)
                          clear hK K
                          refine pure_ (i := 6) (N := some 57) (v := ?_) (a' := ?_) #[true, true, true, true, true, true, true, false] rfl rfl (any_of HT_.out (by kernel_rfl)) (fun _ _ _ h => h) (Or.inl ⟨by rfl, ?_⟩) ?_ ?_
                          rotate_left
                          · intro w'
                            go_simp
                            with_reducible rfl
                          rotate_left
                          · simp only [Act.put, List.setIfInBounds_toArray, List.set_cons_zero, List.set_cons_succ, i64_w, i32_w]
                            rfl
                          refine one_ (i := 7) (N := none) #[true, true, true, true, true, true, true, true] rfl rfl (one_of HT_.out (by kernel_rfl)) (by decide) (fun K hK => ?_)
                          have hs75 : w73.cell? ⟨gb534, 6, none⟩ = some (.int .i64 0) := (blk_cell BK534.out 6).trans rfl
                          have hfs75 := blk_frozen BK534.out 6
                          have hns75_0 := NB532_534.out
                          have hns75_1 := NB533_534.out
                          have hms75_0 := NB534_532.out
                          have hms75_1 := NB534_533.out
                          refine skip_ (w1 := ?_) (by rfl) rfl ?_ ?_
                          rotate_left
                          · go_simp
                            rfl
                          refine hK.out _ _ ⟨((cell_far (p := ⟨gb534, _, none⟩) NB532_534.out _).trans (hHeld.1)), ((cell_far (p := ⟨gb534, _, none⟩) NB532_534.out _).trans (hHeld.2.1)), ((cell_far (p := ⟨gb534, _, none⟩) NB532_534.out _).trans (hHeld.2.2.1)), ((cell_far (p := ⟨gb534, _, none⟩) NB532_534.out _).trans (hHeld.2.2.2.1)), ((cell_far (p := ⟨gb534, _, none⟩) NB532_534.out _).trans (hHeld.2.2.2.2.1)), ((cell_far (p := ⟨gb534, _, none⟩) NB532_534.out _).trans (hHeld.2.2.2.2.2.1)), ((cell_far (p := ⟨gb534, _, none⟩) NB532_534.out _).trans (hHeld.2.2.2.2.2.2.1)), ((cell_far (p := ⟨gb534, _, none⟩) NB532_534.out _).trans (hHeld.2.2.2.2.2.2.2))⟩ (fun hHeld => ?_)
                          clear hK K
                          refine done_ (done_of HT_.out (by kernel_rfl)) ?_
                          have hnb76 := NB534_532.out
                          have hnc76 := NB532_534.out
                          have hnb77 := NB534_533.out
                          have hnc77 := NB533_534.out
                          have hcz78_0 : w73.cell? ⟨gb534, 0, none⟩ = some (.int .i64 a0_0) := (blk_cell BK534.out 0).trans rfl
                          have hcz78_1 : w73.cell? ⟨gb534, 1, none⟩ = some (.int .i64 x535001_2) := (blk_cell BK534.out 1).trans rfl
                          have hcz78_2 : w73.cell? ⟨gb534, 2, none⟩ = some (.int .i64 x535002_2) := (blk_cell BK534.out 2).trans rfl
                          have hcz78_3 : w73.cell? ⟨gb534, 3, none⟩ = some (.int .i64 x535003_2) := (blk_cell BK534.out 3).trans rfl
                          have hcz78_4 : w73.cell? ⟨gb534, 4, none⟩ = some (.int .i64 0) := (blk_cell BK534.out 4).trans rfl
                          have hcz78_5 : w73.cell? ⟨gb534, 5, none⟩ = some (.int .i64 0) := (blk_cell BK534.out 5).trans rfl
                          have hcz78_6 : w73.cell? ⟨gb534, 6, none⟩ = some (.int .i64 0) := (blk_cell BK534.out 6).trans rfl
                          have hcz78_7 : w73.cell? ⟨gb534, 7, none⟩ = some (.int .u32 0) := (blk_cell BK534.out 7).trans rfl
                          have hfz78_0 := blk_frozen BK534.out 0
                          have hfz78_1 := blk_frozen BK534.out 1
                          have hfz78_2 := blk_frozen BK534.out 2
                          have hfz78_3 := blk_frozen BK534.out 3
                          have hfz78_4 := blk_frozen BK534.out 4
                          have hfz78_5 := blk_frozen BK534.out 5
                          have hfz78_6 := blk_frozen BK534.out 6
                          have hfz78_7 := blk_frozen BK534.out 7
                          have hnb79 := NB533_532.out
                          have hnc79 := NB532_533.out
                          have hcz80_0 : w73.cell? ⟨gb533, 0, none⟩ = some (.int .i64 0) := (blk_cell BK533.out 0).trans rfl
                          have hcz80_1 : w73.cell? ⟨gb533, 1, none⟩ = some (.int .i64 0) := (blk_cell BK533.out 1).trans rfl
                          have hcz80_2 : w73.cell? ⟨gb533, 2, none⟩ = some (.int .i64 0) := (blk_cell BK533.out 2).trans rfl
                          have hcz80_3 : w73.cell? ⟨gb533, 3, none⟩ = some (.int .i64 0) := (blk_cell BK533.out 3).trans rfl
                          have hcz80_4 : w73.cell? ⟨gb533, 4, none⟩ = some (.int .i64 0) := (blk_cell BK533.out 4).trans rfl
                          have hcz80_5 : w73.cell? ⟨gb533, 5, none⟩ = some (.int .i64 0) := (blk_cell BK533.out 5).trans rfl
                          have hcz80_6 : w73.cell? ⟨gb533, 6, none⟩ = some (.int .i64 0) := (blk_cell BK533.out 6).trans rfl
                          have hcz80_7 : w73.cell? ⟨gb533, 7, none⟩ = some (.int .u32 0) := (blk_cell BK533.out 7).trans rfl
                          have hfz80_0 := blk_frozen BK533.out 0
                          have hfz80_1 := blk_frozen BK533.out 1
                          have hfz80_2 := blk_frozen BK533.out 2
                          have hfz80_3 := blk_frozen BK533.out 3
                          have hfz80_4 := blk_frozen BK533.out 4
                          have hfz80_5 := blk_frozen BK533.out 5
                          have hfz80_6 := blk_frozen BK533.out 6
                          have hfz80_7 := blk_frozen BK533.out 7
                          try go_wp2
                          refine bodyPost_ret (results_cell_row rfl _ _ gb533 44 #[.int .i64 a0_0, .int .i64 x535001_2, .int .i64 x535002_2, .int .i64 x535003_2, .int .i64 0, .int .i64 a0_5, .int .i64 a0_6, .int .u32 0] (0, 0) _ rfl (by (with_reducible repeat (first | refine blk_drewN ?_ _ | refine blk_drew ?_ | refine blk_alloc ?_ _)); refine blk_put (cs := #[.int .i64 a0_0, .int .i64 x535001_2, .int .i64 x535002_2, .int .i64 x535003_2, .int .i64 0, .int .i64 a0_5, .int .i64 a0_6, .int .u32 0]) ?_ 7 _ rfl; (with_reducible repeat (first | refine blk_drewN ?_ _ | refine blk_drew ?_ | refine blk_alloc ?_ _)); refine blk_put (cs := #[.int .i64 a0_0, .int .i64 x535001_2, .int .i64 x535002_2, .int .i64 x535003_2, .int .i64 0, .int .i64 a0_5, .int .i64 0, .int .u32 0]) ?_ 6 _ rfl; (with_reducible repeat (first | refine blk_drewN ?_ _ | refine blk_drew ?_ | refine blk_alloc ?_ _)); refine blk_put (cs := #[.int .i64 a0_0, .int .i64 x535001_2, .int .i64 x535002_2, .int .i64 x535003_2, .int .i64 0, .int .i64 0, .int .i64 0, .int .u32 0]) ?_ 5 _ rfl; (with_reducible repeat (first | refine blk_drewN ?_ _ | refine blk_drew ?_ | refine blk_alloc ?_ _)); refine blk_put (cs := #[.int .i64 a0_0, .int .i64 x535001_2, .int .i64 x535002_2, .int .i64 x535003_2, .int .i64 0, .int .i64 0, .int .i64 0, .int .u32 0]) ?_ 4 _ rfl; (with_reducible repeat (first | refine blk_drewN ?_ _ | refine blk_drew ?_ | refine blk_alloc ?_ _)); refine blk_put (cs := #[.int .i64 a0_0, .int .i64 x535001_2, .int .i64 x535002_2, .int .i64 0, .int .i64 0, .int .i64 0, .int .i64 0, .int .u32 0]) ?_ 3 _ rfl; (with_reducible repeat (first | refine blk_drewN ?_ _ | refine blk_drew ?_ | refine blk_alloc ?_ _)); refine blk_put (cs := #[.int .i64 a0_0, .int .i64 x535001_2, .int .i64 0, .int .i64 0, .int .i64 0, .int .i64 0, .int .i64 0, .int .u32 0]) ?_ 2 _ rfl; (with_reducible repeat (first | refine blk_drewN ?_ _ | refine blk_drew ?_ | refine blk_alloc ?_ _)); refine blk_put (cs := #[.int .i64 a0_0, .int .i64 0, .int .i64 0, .int .i64 0, .int .i64 0, .int .i64 0, .int .i64 0, .int .u32 0]) ?_ 1 _ rfl; (with_reducible repeat (first | refine blk_drewN ?_ _ | refine blk_drew ?_ | refine blk_alloc ?_ _)); refine blk_put (cs := #[.int .i64 0, .int .i64 0, .int .i64 0, .int .i64 0, .int .i64 0, .int .i64 0, .int .i64 0, .int .u32 0]) ?_ 0 _ rfl; (with_reducible repeat (first | refine blk_drewN ?_ _ | refine blk_drew ?_ | refine blk_alloc ?_ _)); refine blk_far ?_ NB533_534.out _; (with_reducible repeat (first | refine blk_drewN ?_ _ | refine blk_drew ?_ | refine blk_alloc ?_ _)); refine blk_far ?_ NB533_534.out _; (with_reducible repeat (first | refine blk_drewN ?_ _ | refine blk_drew ?_ | refine blk_alloc ?_ _)); exact BK533.out) Try.underlying44 rfl (by kernel_rfl)) rfl ?_
                          exact ⟨by first | rfl | (simp [errW_none, errW_some] <;> rfl) | (simp [*, errW_none, errW_some] <;> rfl), by repeat (first | (with_reducible first | exact HB.out | apply below_alloc | apply pw_below_drewN | apply below_drew1 | refine below_set ?_ GE532.out | refine below_set ?_ GE533.out | refine below_set ?_ GE534.out) | exact HB.out)⟩
                        · rw [if_neg c72] at H
                          have c72b0 : (a0_0 == 7) = false := beq_eq_false_iff_ne.mpr c72
                          have c72b1 : (a0_0 != 7) = true := bne_iff_ne.mpr c72
                          simp only [Option.some.injEq, Prod.mk.injEq] at H
                          obtain ⟨rfl, rfl, rfl, rfl, rfl, rfl, rfl, rfl⟩ := H
                          have hnb81 := NB534_532.out
                          have hnc81 := NB532_534.out
                          have hnb82 := NB534_533.out
                          have hnc82 := NB533_534.out
                          have hcz83_0 : wc.cell? ⟨gb534, 0, none⟩ = some (.int .i64 a0_0) := (blk_cell BK534.out 0).trans rfl
                          have hcz83_1 : wc.cell? ⟨gb534, 1, none⟩ = some (.int .i64 x535001_2) := (blk_cell BK534.out 1).trans rfl
                          have hcz83_2 : wc.cell? ⟨gb534, 2, none⟩ = some (.int .i64 x535002_2) := (blk_cell BK534.out 2).trans rfl
                          have hcz83_3 : wc.cell? ⟨gb534, 3, none⟩ = some (.int .i64 x535003_2) := (blk_cell BK534.out 3).trans rfl
                          have hcz83_4 : wc.cell? ⟨gb534, 4, none⟩ = some (.int .i64 0) := (blk_cell BK534.out 4).trans rfl
                          have hcz83_5 : wc.cell? ⟨gb534, 5, none⟩ = some (.int .i64 0) := (blk_cell BK534.out 5).trans rfl
                          have hcz83_6 : wc.cell? ⟨gb534, 6, none⟩ = some (.int .i64 0) := (blk_cell BK534.out 6).trans rfl
                          have hcz83_7 : wc.cell? ⟨gb534, 7, none⟩ = some (.int .u32 0) := (blk_cell BK534.out 7).trans rfl
                          have hfz83_0 := blk_frozen BK534.out 0
                          have hfz83_1 := blk_frozen BK534.out 1
                          have hfz83_2 := blk_frozen BK534.out 2
                          have hfz83_3 := blk_frozen BK534.out 3
                          have hfz83_4 := blk_frozen BK534.out 4
                          have hfz83_5 := blk_frozen BK534.out 5
                          have hfz83_6 := blk_frozen BK534.out 6
                          have hfz83_7 := blk_frozen BK534.out 7
                          have hnb84 := NB533_532.out
                          have hnc84 := NB532_533.out
                          have hcz85_0 : wc.cell? ⟨gb533, 0, none⟩ = some (.int .i64 0) := (blk_cell BK533.out 0).trans rfl
                          have hcz85_1 : wc.cell? ⟨gb533, 1, none⟩ = some (.int .i64 0) := (blk_cell BK533.out 1).trans rfl
                          have hcz85_2 : wc.cell? ⟨gb533, 2, none⟩ = some (.int .i64 0) := (blk_cell BK533.out 2).trans rfl
                          have hcz85_3 : wc.cell? ⟨gb533, 3, none⟩ = some (.int .i64 0) := (blk_cell BK533.out 3).trans rfl
                          have hcz85_4 : wc.cell? ⟨gb533, 4, none⟩ = some (.int .i64 0) := (blk_cell BK533.out 4).trans rfl
                          have hcz85_5 : wc.cell? ⟨gb533, 5, none⟩ = some (.int .i64 0) := (blk_cell BK533.out 5).trans rfl
                          have hcz85_6 : wc.cell? ⟨gb533, 6, none⟩ = some (.int .i64 0) := (blk_cell BK533.out 6).trans rfl
                          have hcz85_7 : wc.cell? ⟨gb533, 7, none⟩ = some (.int .u32 0) := (blk_cell BK533.out 7).trans rfl
                          have hfz85_0 := blk_frozen BK533.out 0
                          have hfz85_1 := blk_frozen BK533.out 1
                          have hfz85_2 := blk_frozen BK533.out 2
                          have hfz85_3 := blk_frozen BK533.out 3
                          have hfz85_4 := blk_frozen BK533.out 4
                          have hfz85_5 := blk_frozen BK533.out 5
                          have hfz85_6 := blk_frozen BK533.out 6
                          have hfz85_7 := blk_frozen BK533.out 7
                          go_wp2
                          refine bodyPost_ret (results_cell_row rfl _ _ gb533 44 #[.int .i64 a0_0, .int .i64 x535001_2, .int .i64 x535002_2, .int .i64 x535003_2, .int .i64 0, .int .i64 0, .int .i64 0, .int .u32 0] (0, 0) _ rfl (by (with_reducible repeat (first | refine blk_drewN ?_ _ | refine blk_drew ?_ | refine blk_alloc ?_ _)); refine blk_put (cs := #[.int .i64 a0_0, .int .i64 x535001_2, .int .i64 x535002_2, .int .i64 x535003_2, .int .i64 0, .int .i64 0, .int .i64 0, .int .u32 0]) ?_ 7 _ rfl; (with_reducible repeat (first | refine blk_drewN ?_ _ | refine blk_drew ?_ | refine blk_alloc ?_ _)); refine blk_put (cs := #[.int .i64 a0_0, .int .i64 x535001_2, .int .i64 x535002_2, .int .i64 x535003_2, .int .i64 0, .int .i64 0, .int .i64 0, .int .u32 0]) ?_ 6 _ rfl; (with_reducible repeat (first | refine blk_drewN ?_ _ | refine blk_drew ?_ | refine blk_alloc ?_ _)); refine blk_put (cs := #[.int .i64 a0_0, .int .i64 x535001_2, .int .i64 x535002_2, .int .i64 x535003_2, .int .i64 0, .int .i64 0, .int .i64 0, .int .u32 0]) ?_ 5 _ rfl; (with_reducible repeat (first | refine blk_drewN ?_ _ | refine blk_drew ?_ | refine blk_alloc ?_ _)); refine blk_put (cs := #[.int .i64 a0_0, .int .i64 x535001_2, .int .i64 x535002_2, .int .i64 x535003_2, .int .i64 0, .int .i64 0, .int .i64 0, .int .u32 0]) ?_ 4 _ rfl; (with_reducible repeat (first | refine blk_drewN ?_ _ | refine blk_drew ?_ | refine blk_alloc ?_ _)); refine blk_put (cs := #[.int .i64 a0_0, .int .i64 x535001_2, .int .i64 x535002_2, .int .i64 0, .int .i64 0, .int .i64 0, .int .i64 0, .int .u32 0]) ?_ 3 _ rfl; (with_reducible repeat (first | refine blk_drewN ?_ _ | refine blk_drew ?_ | refine blk_alloc ?_ _)); refine blk_put (cs := #[.int .i64 a0_0, .int .i64 x535001_2, .int .i64 0, .int .i64 0, .int .i64 0, .int .i64 0, .int .i64 0, .int .u32 0]) ?_ 2 _ rfl; (with_reducible repeat (first | refine blk_drewN ?_ _ | refine blk_drew ?_ | refine blk_alloc ?_ _)); refine blk_put (cs := #[.int .i64 a0_0, .int .i64 0, .int .i64 0, .int .i64 0, .int .i64 0, .int .i64 0, .int .i64 0, .int .u32 0]) ?_ 1 _ rfl; (with_reducible repeat (first | refine blk_drewN ?_ _ | refine blk_drew ?_ | refine blk_alloc ?_ _)); refine blk_put (cs := #[.int .i64 0, .int .i64 0, .int .i64 0, .int .i64 0, .int .i64 0, .int .i64 0, .int .i64 0, .int .u32 0]) ?_ 0 _ rfl; (with_reducible repeat (first | refine blk_drewN ?_ _ | refine blk_drew ?_ | refine blk_alloc ?_ _)); exact BK533.out) Try.underlying44 rfl (by kernel_rfl)) rfl ?_
                          exact ⟨by first | rfl | (simp [errW_none, errW_some] <;> rfl) | (simp [*, errW_none, errW_some] <;> rfl), by repeat (first | (with_reducible first | exact HB.out | apply below_alloc | apply pw_below_drewN | apply below_drew1 | refine below_set ?_ GE532.out | refine below_set ?_ GE533.out | refine below_set ?_ GE534.out) | exact HB.out)⟩

end Go.Proofs.Ytocnkjhicbmmoaa.Q
