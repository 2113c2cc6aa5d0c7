/- The library's IndexFunc and ContainsFunc over whole numbers, with block.tac's question whether a register lies outside. -/
import Derived.Test.YtocnkjhicbmmoaaQ0
namespace Go.Proofs.Ytocnkjhicbmmoaa.Q
open Go.RowKit Go.Proofs.YtocnkjhicbmmoaaW.PrintWords Go.Proofs.YtocnkjhicbmmoaaW.PrintLast
set_option linter.unusedVariables false
set_option linter.unusedSimpArgs false

theorem drawn_trans {w w1 w2 : World} (h : Drawn0 w w1) (k : Drawn0 w1 w2) : Drawn0 w w2 := by
  obtain ⟨n, rfl⟩ := k
  exact h.step n
def outside (regs v : Int) : Bool := decide (v < 0) || decide (v ≥ regs)

set_option maxHeartbeats 8000000 in
set_option maxRecDepth 100000 in
theorem tac1_calls (v regs : Int) (B : Nat) (w : World) (hc : w.cell? ⟨B, 0, none⟩ = some (.int .i64 regs)) :
    Calls Try.prog 79 #[.int .i64 v, .pointer (some ⟨B, 0, none⟩)] w fun e w' => e = .returned (.bool (outside regs v)) ∧ Drawn0 w w' := by
  by_cases h0 : v < 0
  · have d0 : decide (v < 0) = true := decide_eq_true h0
    have hr := Aside0.mk (show outside regs v = true by simp [outside, d0])
    clear h0
    go_enter Try.func79, Try.ntmps79
    go_wp2
    repeat (go_quiet (fail); try go_wp2)
    go_ret
    rw [hr.out]
    exact ⟨rfl, by repeat (first | exact Drawn0.refl _ | refine Drawn0.step ?_ _)⟩
  · have d0 : decide (v < 0) = false := decide_eq_false h0
    by_cases h1 : v ≥ regs
    · have d1 : decide (regs ≤ v) = true := decide_eq_true h1
      have hr := Aside0.mk (show outside regs v = true by simp [outside, d1])
      clear h1 h0
      go_enter Try.func79, Try.ntmps79
      go_wp2
      repeat (go_quiet (fail); try go_wp2)
      go_ret
      rw [hr.out]
      exact ⟨rfl, by repeat (first | exact Drawn0.refl _ | refine Drawn0.step ?_ _)⟩
    · have d1 : decide (regs ≤ v) = false := decide_eq_false h1
      have hr := Aside0.mk (show outside regs v = false by simp [outside, d0, d1])
      clear h1 h0
      go_enter Try.func79, Try.ntmps79
      go_wp2
      repeat (go_quiet (fail); try go_wp2)
      go_ret
      rw [hr.out]
      exact ⟨rfl, by repeat (first | exact Drawn0.refl _ | refine Drawn0.step ?_ _)⟩

set_option maxHeartbeats 8000000 in
set_option maxRecDepth 100000 in
theorem idx_int (xs : List Int) (A : Option Addr) (c : Nat) (regs : Int) (B : Nat) (w : World) (hr : Kd.C (Kd.int .i64) w A xs.length xs) (hc : w.cell? ⟨B, 0, none⟩ = some (.int .i64 regs)) :
    Calls Try.prog 96 #[.slice A xs.length c, .func (.func 79) #[] #[.pointer (some ⟨B, 0, none⟩)]] w fun e w' => (∃ r : Int, e = .returned (.int .i64 r) ∧ (0 ≤ r ↔ xs.any (outside regs) = true)) ∧ Drawn0 w w' := by
  have HR := Aside0.mk hr
  have hlen := hr.2.1
  have HC := Aside0.mk hc
  clear hr hc
  go_enter Try.func96, Try.ntmps96
  go_wp2
  go_loopw [8] (fun v8 w' => ∃ i : Nat, i ≤ xs.length ∧ v8 = .int .i64 i ∧ Aside0 (∀ j, j < i → outside regs (xs.getD j 0) = false) ∧ Aside0 (Drawn0 w w')) (fun v8 _ => xs.length - (intOf v8).toNat)
  case atStart => exact ⟨0, Nat.zero_le _, rfl, ⟨fun j hj => by omega⟩, ⟨Drawn0.refl _⟩⟩
  case round =>
    obtain ⟨i, hi, rfl, HJ, HD⟩ := hrel
    by_cases hlt : i < xs.length
    · obtain ⟨ad, hA, hcell⟩ := Kd.at_int HR.out i (by omega) (by omega)
      subst hA
      have hcell := pw_cell_below HD.out.below hcell
      have hcb := Aside0.mk (pw_cell_below HD.out.below HC.out)
      simp only [Int.toNat_natCast] at hcell
      have hrd : rd xs i = xs.getD i 0 := by simp [rd]
      rw [hrd] at hcell
      have hX := Aside0.mk hrd
      clear hrd
      obtain ⟨x, hx⟩ : ∃ x, x = xs.getD i 0 := ⟨_, rfl⟩
      rw [← hx] at hcell
      have HX := Aside0.mk hx
      clear hx
      have K : ∀ q, outside regs x = q → Aside0 (outside regs (xs.getD i 0) = q) := fun q hq => ⟨by rw [← HX.out]; exact hq⟩
      have hT := fun W hcW => tac1_calls x regs B W hcW
      cases hq : outside regs x with
      | true =>
        have hK := K true hq
        rw [hq] at hT
        have HT := Aside0.mk hT
        clear hT hq K
        go_wp2_with fail
        with_reducible refine (HT.out _ ?hc1).mono ?_
        case hc1 => exact hcb.out
        rintro e w2 ⟨rfl, hd⟩
        have HD2 := Aside0.mk hd
        clear hd
        go_wp2
        go_ret
        refine ⟨⟨i, rfl, fun _ => ?_, fun _ => by omega⟩, drawn_trans HD.out HD2.out⟩
        rw [List.any_eq_true]
        exact ⟨xs.getD i 0, by rw [List.getD_eq_getElem?_getD, List.getElem?_eq_getElem hlt]; exact List.getElem_mem hlt, hK.out⟩
      | false =>
        have hK := K false hq
        rw [hq] at hT
        have HT := Aside0.mk hT
        clear hT hq K
        go_wp2_with fail
        with_reducible refine (HT.out _ ?hc2).mono ?_
        case hc2 => exact hcb.out
        rintro e w2 ⟨rfl, hd⟩
        have HD2 := Aside0.mk hd
        clear hd
        go_wp2
        go_roundw
        case rel => exact ⟨i + 1, by omega, by go_num, ⟨fun j hj => by rcases Nat.lt_or_ge j i with h | h; { exact HJ.out j h }; { rw [show j = i by omega]; exact hK.out }⟩, ⟨drawn_trans HD.out HD2.out⟩⟩
        case measure => simp [intOf]; omega
    · have hge : i = xs.length := by omega
      have hJ := HJ.out
      rw [hge] at hJ
      have HJ2 := Aside0.mk hJ
      clear hJ
      have hn : ¬ (i : Int) < (xs.length : Int) := by omega
      clear hge hi
      go_wp2
      go_ret
      refine ⟨⟨-1, rfl, fun h => by omega, fun h => ?_⟩, HD.out⟩
      obtain ⟨y, hy, hq⟩ := h
      obtain ⟨j, hj, rfl⟩ := List.mem_iff_getElem.1 hy
      have := HJ2.out j hj
      rw [List.getD_eq_getElem?_getD, List.getElem?_eq_getElem hj] at this
      simp only [Option.getD_some] at this
      rw [this] at hq
      cases hq

set_option maxHeartbeats 8000000 in
set_option maxRecDepth 100000 in
theorem has_int (xs : List Int) (A : Option Addr) (c : Nat) (regs : Int) (B : Nat) (w : World) (hr : Kd.C (Kd.int .i64) w A xs.length xs) (hc : w.cell? ⟨B, 0, none⟩ = some (.int .i64 regs)) :
    Calls Try.prog 78 #[.slice A xs.length c, .func (.func 79) #[] #[.pointer (some ⟨B, 0, none⟩)]] w fun e w' => e = .returned (.bool (xs.any (outside regs))) ∧ Drawn0 w w' := by
  have HI := Aside0.mk (idx_int xs A c regs B w hr hc)
  clear hr hc
  go_enter Try.func78, Try.ntmps78
  go_wp2_with fail
  refine HI.out.mono ?_
  rintro e w1 ⟨⟨r, rfl, hr⟩, hd⟩
  have HR := Aside0.mk hr
  have HD := Aside0.mk hd
  clear hr hd
  go_wp2
  go_ret
  refine ⟨?_, HD.out⟩
  have hb : decide ((0 : Int) ≤ r) = xs.any (outside regs) := by rw [Bool.eq_iff_iff, decide_eq_true_eq]; exact HR.out
  rw [← hb]
  simp
theorem two_new (w : World) (o1 o2 : Obj) : ((w.alloc o1).alloc o2).heap[w.heap.size]? = some o1 ∧ ((w.alloc o1).alloc o2).heap[w.heap.size + 1]? = some o2 := by
  constructor
  · exact blk_alloc (blk_new w o1) o2
  · have h := blk_new (w.alloc o1) o2
    simpa using h
end Go.Proofs.Ytocnkjhicbmmoaa.Q
