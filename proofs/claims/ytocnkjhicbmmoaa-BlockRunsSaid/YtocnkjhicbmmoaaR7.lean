/- seedcornref24.Run answers what rrun tells. -/
import Derived.Test.YtocnkjhicbmmoaaR6
namespace Go.Proofs.Ytocnkjhicbmmoaa.Q
open Go.RowKit Go.Proofs.YtocnkjhicbmmoaaW.PrintWords Go.Proofs.YtocnkjhicbmmoaaW.PrintLast
set_option linter.unusedVariables false
set_option linter.unusedSimpArgs false

def rEnd (en : Int) : Int := if en = 0 then 1 else en
theorem rs_start (w : World) (m : Nat) (fs : List S35) (inp : ByteArray) (fuel : Int) (A : Option Addr) (c : Nat) (hC : Kd.C k35 w A fs.length fs) (hc : fs.length ≤ c) :
    RS w ((w.alloc (.cells (madeCells #[.int .u32 0] m) 42)).alloc (.cells #[.int .i64 m, .slice A fs.length c, .string inp, .int .i64 fuel, .slice (some ⟨w.heap.size, 0, none⟩) m m, .slice none 0 0, .int .i64 0, .int .i64 0, .int .i64 0] 77))
      (w.heap.size + 1) w.heap.size m fs inp fuel ⟨List.replicate m 0, [], 0, 0, 0⟩ A c (.slice none 0 0) := by
  refine ⟨?_, hc, hC, ?_, own_nil _ _ _ _, by omega, by omega, ?_⟩
  · have h := (two_new w (.cells (madeCells #[.int .u32 0] m) 42) (.cells #[.int .i64 m, .slice A fs.length c, .string inp, .int .i64 fuel, .slice (some ⟨w.heap.size, 0, none⟩) m m, .slice none 0 0, .int .i64 0, .int .i64 0, .int .i64 0] 77)).2
    simpa using h
  · have h := (two_new w (.cells (madeCells #[.int .u32 0] m) 42) (.cells #[.int .i64 m, .slice A fs.length c, .string inp, .int .i64 fuel, .slice (some ⟨w.heap.size, 0, none⟩) m m, .slice none 0 0, .int .i64 0, .int .i64 0, .int .i64 0] 77)).1
    rw [made_nums] at h
    rw [made_nums]
    simpa using h
  · exact below_alloc (below_alloc (Below.refl _ _) _) _

set_option maxHeartbeats 8000000 in
set_option maxRecDepth 100000 in
theorem rrun_calls (app : Int → Int → Int → Option (Int × Int)) (happ : AppOk app) (k : Nat) (nw : Int) (fs : List S35) (inp : ByteArray) (fuel : Int) (A : Option Addr) (c : Nat) (w : World) (s : Rc)
    (hC : Kd.C k35 w A fs.length fs) (hc : fs.length ≤ c) (hw0 : 0 ≤ nw) (hw1 : nw * 4 ≤ 281474976710656) (hl : 0 < fs.length) (hl1 : fs.length ≤ 1000000)
    (hfu : fuel ≤ 1000000) (hf0 : 0 ≤ fuel) (h : rfun app inp fs fuel k ⟨List.replicate nw.toNat 0, [], 0, 0, 0⟩ (fs.length - 1) = some s) :
    Calls Try.prog 20 #[.agg #[.int .i64 nw, .slice A fs.length c], .string inp, .int .i64 fuel] w fun e w' => e = .returned (.agg #[.int .i64 (rEnd s.en), .string (strOfNums s.out), .int .i64 s.steps]) ∧ Below w.heap.size w w' := by
  obtain ⟨m, rfl⟩ := Int.eq_ofNat_of_zero_le hw0
  simp only [Int.toNat_natCast] at h
  have hmk := print_make 64 42 .u32 4 Try.underlying64 info42 (by decide) m (by omega)
  have hl2 : ((fs.length : Int) == 0) = false := beq_eq_false_iff_ne.2 (by omega)
  have hf1 : decide (fuel < 0) = false := by simp; omega
  have H := Aside0.mk h
  have HC := Aside0.mk hC
  have Hc := Aside0.mk hc
  have HA := Aside0.mk happ
  have HU := Aside0.mk hfu
  clear h hC hc happ hfu hw0 hw1 hf0
  go_enter Try.func20, Try.ntmps20
  go_wp2
  go_region
  go_wp2_with fail
  obtain ⟨w0, hw0⟩ : ∃ w0 : World, w0 = (w.alloc (.cells #[.int .i64 m, .slice A fs.length c] 24)).alloc (.cells #[.int .i64 0, .string ⟨#[]⟩, .int .i64 0] 28) := ⟨_, rfl⟩
  have hz : w0.heap.size = w.heap.size + 1 + 1 := by rw [hw0]; simp
  have HB0 : Below w.heap.size w w0 := by rw [hw0]; exact below_alloc (below_alloc (Below.refl _ _) _) _
  have HS := rs_start w0 m fs inp fuel A c (Kd.C_below HC.out HB0) Hc.out
  rw [hz] at HS
  with_reducible refine ((fun_ok app HA.out k).use w0 _ (w.heap.size + 1 + 1 + 1) (w.heap.size + 1 + 1) m fs inp fuel ⟨List.replicate m 0, [], 0, 0, 0⟩ s A c (.slice none 0 0) ((fs.length : Int) - 1) HU.out ?hrs H.out).mono ?_
  case hrs =>
    subst hw0
    repeat (first | exact HS | (with_reducible refine RS.drew ?_) | (with_reducible refine RS.drewN ?_ _))
  rintro e w1 ⟨rfl, vo, h1, h2⟩
  have HM := Aside0.mk h1
  have HW0 := Aside0.mk hw0
  have HB := Aside0.mk HB0
  clear HS h1 h2 hw0 hz HB0 hmk hl2 hf1
  obtain ⟨ws, out, read, steps, en⟩ := s
  by_cases hen : en = 0
  · subst hen
    obtain ⟨m0, m1, m2, m3, m4, m5, m6, m7, m8, lg, lw, fg, fw⟩ := HM.out.cells
    simp only at m8
    have f8 := fg 8
    have HE0 := Aside0.mk (HM.out.set_end 1)
    clear fg fw HM
    go_upto_region 9 with (fail)
    obtain ⟨w9, hw9⟩ : ∃ w9 : World, w9 = w1.setCell ⟨w.heap.size + 1 + 1 + 1, 8, none⟩ (.int .i64 1) := ⟨_, rfl⟩
    rw [← hw9]
    have HE : Aside0 (RS w0 w9 (w.heap.size + 1 + 1 + 1) (w.heap.size + 1 + 1) m fs inp fuel ⟨ws, out, read, steps, 1⟩ A c vo) := ⟨by rw [hw9]; exact HE0.out⟩
    clear HE0 hw9 m0 m1 m2 m3 m4 m5 m6 m7 m8 lg lw f8
    obtain ⟨Ao, co, rfl⟩ := own_slice HE.out.out
    have hRC := res_cells HW0.out HE.out.low
    have r0 := (blk_cell hRC 0).trans rfl
    have r1 := (blk_cell hRC 1).trans rfl
    have r2 := (blk_cell hRC 2).trans rfl
    have q0 := blk_frozen hRC 0
    have q1 := blk_frozen hRC 1
    have q2 := blk_frozen hRC 2
    have RC := Aside0.mk hRC
    clear hRC
    have v1 := own_string (P := Try.prog) (src := 65) (dst := 9) (e := 5) Try.underlying65 Try.underlying5 Try.underlying9 HE.out.out
    have v2 := own_string (P := Try.prog) (src := 65) (dst := 9) (e := 5) Try.underlying65 Try.underlying5 Try.underlying9 (own_drew HE.out.out)
    obtain ⟨m0, m1, m2, m3, m4, m5, m6, m7, m8, lg, lw, fg, fw⟩ := HE.out.cells
    simp only at m4 m5 m6 m7 m8
    clear fg fw
    go_wp2
    go_region
    go_wp2
    have RF := blk_drew (blk_put (blk_put (blk_put RC.out 0 (.int .i64 1) rfl) 1 (.string (strOfNums out)) rfl) 2 (.int .i64 steps) rfl)
    refine bodyPost_ret (v := .agg #[.int .i64 1, .string (strOfNums out), .int .i64 steps]) (results_single rfl (Vals.cell (w.heap.size + 1) 28 _ (0, 0) _ rfl RF Try.underlying28 rfl (by kernel_rfl) .nil)) rfl ⟨?_, ?_⟩
    · rfl
    have hh : w.heap.size ≤ w.heap.size + 1 := by omega
    exact below_drew1 (below_set (below_set (below_set (below_weaken HB.out HB.out.size HE.out.low) hh) hh) hh)
  · obtain ⟨m0, m1, m2, m3, m4, m5, m6, m7, m8, lg, lw, fg, fw⟩ := HM.out.cells
    simp only at m8
    have hb : (en == 0) = false := beq_eq_false_iff_ne.2 hen
    have HN := Aside0.mk hen
    clear fg fw hen
    go_upto_region 9 with (fail)
    have HE := HM
    clear HM m0 m1 m2 m3 m4 m5 m6 m7 m8 lg lw hb
    obtain ⟨Ao, co, rfl⟩ := own_slice HE.out.out
    have hRC := res_cells HW0.out HE.out.low
    have r0 := (blk_cell hRC 0).trans rfl
    have r1 := (blk_cell hRC 1).trans rfl
    have r2 := (blk_cell hRC 2).trans rfl
    have q0 := blk_frozen hRC 0
    have q1 := blk_frozen hRC 1
    have q2 := blk_frozen hRC 2
    have RC := Aside0.mk hRC
    clear hRC
    have v1 := own_string (P := Try.prog) (src := 65) (dst := 9) (e := 5) Try.underlying65 Try.underlying5 Try.underlying9 HE.out.out
    have v2 := own_string (P := Try.prog) (src := 65) (dst := 9) (e := 5) Try.underlying65 Try.underlying5 Try.underlying9 (own_drew HE.out.out)
    obtain ⟨m0, m1, m2, m3, m4, m5, m6, m7, m8, lg, lw, fg, fw⟩ := HE.out.cells
    simp only at m4 m5 m6 m7 m8
    clear fg fw
    go_wp2
    go_region
    go_wp2
    have RF := blk_drew (blk_put (blk_put (blk_put RC.out 0 (.int .i64 en) rfl) 1 (.string (strOfNums out)) rfl) 2 (.int .i64 steps) rfl)
    refine bodyPost_ret (v := .agg #[.int .i64 en, .string (strOfNums out), .int .i64 steps]) (results_single rfl (Vals.cell (w.heap.size + 1) 28 _ (0, 0) _ rfl RF Try.underlying28 rfl (by kernel_rfl) .nil)) rfl ⟨?_, ?_⟩
    · rw [show rEnd en = en by simp [rEnd, HN.out]]
    have hh : w.heap.size ≤ w.heap.size + 1 := by omega
    exact below_drew1 (below_set (below_set (below_set (below_weaken HB.out HB.out.size HE.out.low) hh) hh) hh)
set_option maxHeartbeats 8000000 in
set_option maxRecDepth 100000 in
theorem rrun_neg (app : Int → Int → Int → Option (Int × Int)) (happ : AppOk app) (k : Nat) (nw : Int) (fs : List S35) (inp : ByteArray) (fuel : Int) (A : Option Addr) (c : Nat) (w : World) (s : Rc)
    (hC : Kd.C k35 w A fs.length fs) (hc : fs.length ≤ c) (hw0 : 0 ≤ nw) (hw1 : nw * 4 ≤ 281474976710656) (hl : 0 < fs.length) (hl1 : fs.length ≤ 1000000)
    (hf0 : fuel < 0) (h : rfun app inp fs 0 k ⟨List.replicate nw.toNat 0, [], 0, 0, 0⟩ (fs.length - 1) = some s) :
    Calls Try.prog 20 #[.agg #[.int .i64 nw, .slice A fs.length c], .string inp, .int .i64 fuel] w fun e w' => e = .returned (.agg #[.int .i64 (rEnd s.en), .string (strOfNums s.out), .int .i64 s.steps]) ∧ Below w.heap.size w w' := by
  obtain ⟨m, rfl⟩ := Int.eq_ofNat_of_zero_le hw0
  simp only [Int.toNat_natCast] at h
  have hmk := print_make 64 42 .u32 4 Try.underlying64 info42 (by decide) m (by omega)
  have hl2 : ((fs.length : Int) == 0) = false := beq_eq_false_iff_ne.2 (by omega)
  have hf1 : decide (fuel < 0) = true := by simpa using hf0
  have hfu : (0 : Int) ≤ 1000000 := by omega
  have H := Aside0.mk h
  have HC := Aside0.mk hC
  have Hc := Aside0.mk hc
  have HA := Aside0.mk happ
  have HU := Aside0.mk hfu
  clear h hC hc happ hfu hw0 hw1 hf0
  go_enter Try.func20, Try.ntmps20
  go_wp2
  go_region
  go_wp2_with fail
  obtain ⟨w0, hw0⟩ : ∃ w0 : World, w0 = (w.alloc (.cells #[.int .i64 m, .slice A fs.length c] 24)).alloc (.cells #[.int .i64 0, .string ⟨#[]⟩, .int .i64 0] 28) := ⟨_, rfl⟩
  have hz : w0.heap.size = w.heap.size + 1 + 1 := by rw [hw0]; simp
  have HB0 : Below w.heap.size w w0 := by rw [hw0]; exact below_alloc (below_alloc (Below.refl _ _) _) _
  have HS := rs_start w0 m fs inp 0 A c (Kd.C_below HC.out HB0) Hc.out
  rw [hz] at HS
  with_reducible refine ((fun_ok app HA.out k).use w0 _ (w.heap.size + 1 + 1 + 1) (w.heap.size + 1 + 1) m fs inp 0 ⟨List.replicate m 0, [], 0, 0, 0⟩ s A c (.slice none 0 0) ((fs.length : Int) - 1) HU.out ?hrs H.out).mono ?_
  case hrs =>
    subst hw0
    repeat (first | exact HS | (with_reducible refine RS.drew ?_) | (with_reducible refine RS.drewN ?_ _))
  rintro e w1 ⟨rfl, vo, h1, h2⟩
  have HM := Aside0.mk h1
  have HW0 := Aside0.mk hw0
  have HB := Aside0.mk HB0
  clear HS h1 h2 hw0 hz HB0 hmk hl2 hf1
  obtain ⟨ws, out, read, steps, en⟩ := s
  by_cases hen : en = 0
  · subst hen
    obtain ⟨m0, m1, m2, m3, m4, m5, m6, m7, m8, lg, lw, fg, fw⟩ := HM.out.cells
    simp only at m8
    have f8 := fg 8
    have HE0 := Aside0.mk (HM.out.set_end 1)
    clear fg fw HM
    go_upto_region 9 with (fail)
    obtain ⟨w9, hw9⟩ : ∃ w9 : World, w9 = w1.setCell ⟨w.heap.size + 1 + 1 + 1, 8, none⟩ (.int .i64 1) := ⟨_, rfl⟩
    rw [← hw9]
    have HE : Aside0 (RS w0 w9 (w.heap.size + 1 + 1 + 1) (w.heap.size + 1 + 1) m fs inp 0 ⟨ws, out, read, steps, 1⟩ A c vo) := ⟨by rw [hw9]; exact HE0.out⟩
    clear HE0 hw9 m0 m1 m2 m3 m4 m5 m6 m7 m8 lg lw f8
    obtain ⟨Ao, co, rfl⟩ := own_slice HE.out.out
    have hRC := res_cells HW0.out HE.out.low
    have r0 := (blk_cell hRC 0).trans rfl
    have r1 := (blk_cell hRC 1).trans rfl
    have r2 := (blk_cell hRC 2).trans rfl
    have q0 := blk_frozen hRC 0
    have q1 := blk_frozen hRC 1
    have q2 := blk_frozen hRC 2
    have RC := Aside0.mk hRC
    clear hRC
    have v1 := own_string (P := Try.prog) (src := 65) (dst := 9) (e := 5) Try.underlying65 Try.underlying5 Try.underlying9 HE.out.out
    have v2 := own_string (P := Try.prog) (src := 65) (dst := 9) (e := 5) Try.underlying65 Try.underlying5 Try.underlying9 (own_drew HE.out.out)
    obtain ⟨m0, m1, m2, m3, m4, m5, m6, m7, m8, lg, lw, fg, fw⟩ := HE.out.cells
    simp only at m4 m5 m6 m7 m8
    clear fg fw
    go_wp2
    go_region
    go_wp2
    have RF := blk_drew (blk_put (blk_put (blk_put RC.out 0 (.int .i64 1) rfl) 1 (.string (strOfNums out)) rfl) 2 (.int .i64 steps) rfl)
    refine bodyPost_ret (v := .agg #[.int .i64 1, .string (strOfNums out), .int .i64 steps]) (results_single rfl (Vals.cell (w.heap.size + 1) 28 _ (0, 0) _ rfl RF Try.underlying28 rfl (by kernel_rfl) .nil)) rfl ⟨?_, ?_⟩
    · rfl
    have hh : w.heap.size ≤ w.heap.size + 1 := by omega
    exact below_drew1 (below_set (below_set (below_set (below_weaken HB.out HB.out.size HE.out.low) hh) hh) hh)
  · obtain ⟨m0, m1, m2, m3, m4, m5, m6, m7, m8, lg, lw, fg, fw⟩ := HM.out.cells
    simp only at m8
    have hb : (en == 0) = false := beq_eq_false_iff_ne.2 hen
    have HN := Aside0.mk hen
    clear fg fw hen
    go_upto_region 9 with (fail)
    have HE := HM
    clear HM m0 m1 m2 m3 m4 m5 m6 m7 m8 lg lw hb
    obtain ⟨Ao, co, rfl⟩ := own_slice HE.out.out
    have hRC := res_cells HW0.out HE.out.low
    have r0 := (blk_cell hRC 0).trans rfl
    have r1 := (blk_cell hRC 1).trans rfl
    have r2 := (blk_cell hRC 2).trans rfl
    have q0 := blk_frozen hRC 0
    have q1 := blk_frozen hRC 1
    have q2 := blk_frozen hRC 2
    have RC := Aside0.mk hRC
    clear hRC
    have v1 := own_string (P := Try.prog) (src := 65) (dst := 9) (e := 5) Try.underlying65 Try.underlying5 Try.underlying9 HE.out.out
    have v2 := own_string (P := Try.prog) (src := 65) (dst := 9) (e := 5) Try.underlying65 Try.underlying5 Try.underlying9 (own_drew HE.out.out)
    obtain ⟨m0, m1, m2, m3, m4, m5, m6, m7, m8, lg, lw, fg, fw⟩ := HE.out.cells
    simp only at m4 m5 m6 m7 m8
    clear fg fw
    go_wp2
    go_region
    go_wp2
    have RF := blk_drew (blk_put (blk_put (blk_put RC.out 0 (.int .i64 en) rfl) 1 (.string (strOfNums out)) rfl) 2 (.int .i64 steps) rfl)
    refine bodyPost_ret (v := .agg #[.int .i64 en, .string (strOfNums out), .int .i64 steps]) (results_single rfl (Vals.cell (w.heap.size + 1) 28 _ (0, 0) _ rfl RF Try.underlying28 rfl (by kernel_rfl) .nil)) rfl ⟨?_, ?_⟩
    · rw [show rEnd en = en by simp [rEnd, HN.out]]
    have hh : w.heap.size ≤ w.heap.size + 1 := by omega
    exact below_drew1 (below_set (below_set (below_set (below_weaken HB.out HB.out.size HE.out.low) hh) hh) hh)
end Go.Proofs.Ytocnkjhicbmmoaa.Q
