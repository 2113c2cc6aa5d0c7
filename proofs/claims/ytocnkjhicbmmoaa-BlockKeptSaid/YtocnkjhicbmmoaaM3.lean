/- block's (*machine).call: a frame more. -/
import Derived.Test.YtocnkjhicbmmoaaM2
namespace Go.Proofs.Ytocnkjhicbmmoaa.Q
open Go.RowKit Go.Proofs.YtocnkjhicbmmoaaW.PrintWords Go.Proofs.YtocnkjhicbmmoaaW.PrintLast
set_option linter.unusedVariables false
set_option linter.unusedSimpArgs false

theorem info42 : (Try.prog.info? 42).map (fun i => (i.zero, i.size, i.bytes)) = some (some (.int .u32 0), 1, 4) := by kernel_rfl
theorem info70 : (Try.prog.info? 70).map (fun i => (i.zero, i.size, i.bytes)) = some (some (.pointer none), 1, 8) := by kernel_rfl

theorem four_new (w : World) (o1 o2 o3 o4 : Obj) : (((((w.alloc o1).alloc o2).alloc o3).alloc o4).heap[w.heap.size + 1]? = some o2) ∧ (((((w.alloc o1).alloc o2).alloc o3).alloc o4).heap[w.heap.size + 2]? = some o3) := by
  constructor
  · have h := blk_alloc (blk_alloc (blk_new (w.alloc o1) o2) o3) o4
    simpa using h
  · have h := blk_alloc (blk_new ((w.alloc o1).alloc o2) o3) o4
    simpa using h
theorem made_nums (k : IntKind) (m : Nat) : madeCells #[.int k 0] m = (nums k (List.replicate m 0)).toArray := by
  apply Array.ext
  · simp [madeCells, nums]
  · intro i h1 h2
    simp [madeCells, nums, Nat.mod_one]
set_option maxHeartbeats 8000000 in
set_option maxRecDepth 100000 in
theorem call_calls (w0 w : World) (g wb : Nat) (nw : Int) (fs : List S35) (inp : ByteArray) (ws out : List Int) (st : List Fr) (en : Int) (loc : List (Nat × Nat)) (A : Option Addr) (c : Nat) (vo vc : Value)
    (h : MS w0 w g wb nw fs ⟨inp, ws, out, st, en⟩ loc A c vo vc) (i : Int) (h0 : 0 ≤ i) (h1 : i < fs.length) (m : Nat) (hreg : (rd_T35 fs i).f0 = m) (hm : m * 4 ≤ 281474976710656) (hst : (st.length + 1) * 8 ≤ 140737488355328) :
    Calls Try.prog 40 #[.pointer (some ⟨g, 0, none⟩), .int .i64 i] w fun e w' => e = .returned (.tuple #[]) ∧
      ∃ p r v1, MS w0 w' g wb nw fs ⟨inp, ws, out, ⟨rd_T35 fs i, List.replicate m 0, 0, 0⟩ :: st, en⟩ ((p, r) :: loc) A c vo v1 := by
  obtain ⟨Ac, cc, rfl⟩ := own_slice h.calls
  obtain ⟨ad, A1, c1, rfl, e0, e1, l1, g1⟩ := at_T35 h.fsr i h0 h1
  have e0 := pw_cell_below h.low e0
  have e1 := pw_cell_below h.low e1
  obtain ⟨m0, m1, m2, m3, m4, m5, m6, lg, lw, fg, fw⟩ := h.cells
  rw [hreg] at e0
  have f5 := fg 5
  have hmk := print_make 64 42 .u32 4 Try.underlying64 info42 (by decide) m hm
  have HM := Aside0.mk h
  have HR := Aside0.mk hreg
  have G1 := Aside0.mk g1
  have L1 := Aside0.mk l1
  have Hm := Aside0.mk hm
  have HS := Aside0.mk hst
  clear h fg fw hreg g1 l1 hm hst
  simp only at m2 m3 m5 m6
  have lg1 : g < w.heap.size + 1 := by omega
  have lg2 : g < w.heap.size + 1 + 1 := by omega
  have lg3 : g < w.heap.size + 1 + 1 + 1 := by omega
  have lg2' : g < w.heap.size + 2 := by omega
  have lg3' : g < w.heap.size + 3 := by omega
  go_enter Try.func40, Try.ntmps40
  go_wp2
  go_region_law ((refine step_append_one w0.heap.size ?w1 (.tmp 17) (.tmp 24) 66 70 (.pointer none) 8 ?w2 Try.underlying66 info70 ?w3 ?w4 (.slice Ac st.length cc) st.length (ptrs loc) (.pointer (some ⟨w.heap.size + 2, 0, none⟩)) ?w5 ⟨w.heap.size + 3, 0, none⟩ ?w6 ?hc ?w7 ?ho ?hs ?hl ?_); (case w1 => rfl); (case w2 => rfl); (case w3 => rfl); (case w4 => decide); (case w5 => simp [Act.eval, Act.put]); (case w6 => simp [Act.eval, Act.put]); (case w7 => rfl); (case hc => go_simp); (case hs => have := HM.out.low.size; simp; omega); (case hl => exact HS.out); (case ho => repeat (first | exact HM.out.calls | refine own_alloc ?_ _ | refine own_drew ?_)); intro gb cap w1 hown hg; (obtain ⟨h41, h42, h43⟩ : w1.cell? ⟨g, 5, none⟩ = some (.slice Ac st.length cc) ∧ w1.frozen? ⟨g, 5, none⟩ = false ∧ g < w1.heap.size := by refine MS.at5 (w0 := w0) (wb := wb) (nw := nw) (fs := fs) (s := ⟨inp, ws, out, st, en⟩) (loc := loc) (A := some ad) (c := c) (vo := vo) ?_ hg; repeat (first | (with_reducible exact HM.out) | (with_reducible refine MS.drew ?_) | (with_reducible refine MS.drewN ?_ _) | (with_reducible refine MS.alloc ?_ _) | exact HM.out)); have HO := Aside0.mk hown; have HG := Aside0.mk hg; clear hown hg)
  all_goals
    go_end0
    refine ⟨rfl, w.heap.size + 2, w.heap.size + 1, _, MS.push (f := ⟨rd_T35 fs i, List.replicate m 0, 0, 0⟩) (p := w.heap.size + 2) (r := w.heap.size + 1) ?_ ?_ ?_ ?_ HO.out HG.out⟩
    · repeat (first | (with_reducible exact HM.out) | (with_reducible refine MS.drew ?_) | (with_reducible refine MS.drewN ?_ _) | (with_reducible refine MS.alloc ?_ _) | exact HM.out)
    · have h2 := fun o1 o2 o3 o4 => (four_new w o1 o2 o3 o4).1
      have h3 := fun o1 o2 o3 o4 => (four_new w o1 o2 o3 o4).2
      refine ⟨A1, c1, ?_, L1.out, G1.out, ?_, ?_, ?_⟩
      · rw [HR.out]
        refine (h3 _ _ _ _).trans ?_
        simp [nums]
      · refine (h2 _ _ _ _).trans ?_
        rw [made_nums]
      · have := HM.out.low.size; omega
      · have := HM.out.low.size; omega
    · intro l hl
      obtain ⟨⟨_, a1⟩, ⟨_, a2⟩⟩ := HM.out.frames.ty l hl
      have := blk_lt a1
      have := blk_lt a2
      omega
    · omega
end Go.Proofs.Ytocnkjhicbmmoaa.Q
