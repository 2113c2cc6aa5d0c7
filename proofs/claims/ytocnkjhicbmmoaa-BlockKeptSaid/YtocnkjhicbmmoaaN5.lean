/- block.Right: whether a program may be. -/
import Derived.Test.YtocnkjhicbmmoaaN8
namespace Go.Proofs.Ytocnkjhicbmmoaa.Q
open Go.RowKit Go.Proofs.YtocnkjhicbmmoaaW.PrintWords Go.Proofs.YtocnkjhicbmmoaaW.PrintLast
set_option linter.unusedVariables false
set_option linter.unusedSimpArgs false

/-- What the closures of block.Right have caught, and what it reads. -/
structure RB (w0 wc : World) (nw : Int) (fs : List S35) (A : Option Addr) (c : Nat) (fi : Int) (B1 B2 : Nat) : Prop where
  fsr : Kd.C k35 w0 A fs.length fs
  b1 : wc.heap[B1]? = some (.cells #[.int .i64 nw, .slice A fs.length c] 24 (0, 0))
  b2 : wc.heap[B2]? = some (.cells #[.int .i64 fi] 3 (0, 0))
  low : Below w0.heap.size w0 wc
section
variable {w0 wc wd : World} {nw : Int} {fs : List S35} {A : Option Addr} {c : Nat} {fi : Int} {B1 B2 : Nat}
theorem RB.move (h : RB w0 wc nw fs A c fi B1 B2) (hb : Below wc.heap.size wc wd) : RB w0 wd nw fs A c fi B1 B2 :=
  ⟨h.fsr, blk_below h.b1 hb, blk_below h.b2 hb, below_step h.low hb⟩
theorem RB.cells (h : RB w0 wc nw fs A c fi B1 B2) : wc.cell? ⟨B1, 0, none⟩ = some (.int .i64 nw) ∧ wc.cell? ⟨B1, 1, none⟩ = some (.slice A fs.length c) ∧ wc.cell? ⟨B2, 0, none⟩ = some (.int .i64 fi) ∧ B1 < wc.heap.size ∧ B2 < wc.heap.size :=
  ⟨(blk_cell h.b1 0).trans rfl, (blk_cell h.b1 1).trans rfl, (blk_cell h.b2 0).trans rfl, blk_lt h.b1, blk_lt h.b2⟩
end
def IdxPost (xs : List S44) (p : S44 → Bool) (w0 : World) (e : Ending) (w' : World) : Prop := (∃ r : Int, e = .returned (.int .i64 r) ∧ (0 ≤ r ↔ ∃ x ∈ xs, p x = true)) ∧ Below w0.heap.size w0 w'

set_option maxHeartbeats 8000000 in
set_option maxRecDepth 100000 in
theorem idx_tac (tb : Int → Int → S44 → Bool) (w0 : World) (nw : Int) (fs : List S35) (A : Option Addr) (c : Nat) (fi : Int) (B1 B2 : Nat) (xs : List S44) (Ax : Option Addr) (cx : Nat) (w : World) (h : RB w0 w nw fs A c fi B1 B2) (hx : Kd.C k44 w Ax xs.length xs)
    (h0 : 0 ≤ fi) (h1 : fi < fs.length) (hok : TacOk nw fs A c tb) (hsub : ∀ t ∈ xs, ∃ b ∈ (rd_T35 fs fi).f1, t ∈ b.f0) :
    Calls Try.prog 75 #[.slice Ax xs.length cx, .func (.func 49) #[] #[.pointer (some ⟨B1, 0, none⟩), .pointer (some ⟨B2, 0, none⟩)]] w (IdxPost xs (fun t => !tb (rd_T35 fs fi).f0 fi t) w) := by
  have HR := Aside0.mk h
  have HX := Aside0.mk hx
  have hlen := hx.2.1
  have HOK := Aside0.mk hok
  have HSUB := Aside0.mk hsub
  clear h hx hok hsub
  go_enter Try.func75, Try.ntmps75
  go_wp2
  go_loopw [8] (fun v8 w' => ∃ i : Nat, i ≤ xs.length ∧ v8 = .int .i64 i ∧ Aside0 (∀ j, j < i → tb (rd_T35 fs fi).f0 fi (xs.getD j z44) = true) ∧ Aside0 (Below w.heap.size w w')) (fun v8 _ => xs.length - (intOf v8).toNat)
  case atStart => exact ⟨0, Nat.zero_le _, rfl, ⟨fun j hj => by omega⟩, ⟨Below.refl _ _⟩⟩
  case round =>
    obtain ⟨i, hi, rfl, HJ, HD⟩ := hrel
    by_cases hlt : i < xs.length
    · obtain ⟨ad, rfl, d0, d1, d2, d3, d4, d5, d6, d7⟩ := at_T44 HX.out i (by omega) (by omega)
      have d0 := pw_cell_below HD.out d0
      have d1 := pw_cell_below HD.out d1
      have d2 := pw_cell_below HD.out d2
      have d3 := pw_cell_below HD.out d3
      have d4 := pw_cell_below HD.out d4
      have d5 := pw_cell_below HD.out d5
      have d6 := pw_cell_below HD.out d6
      have d7 := pw_cell_below HD.out d7
      have HRr := Aside0.mk (HR.out.move HD.out)
      have hrd : rd_T44 xs i = xs.getD i z44 := by simp [rd_T44]
      obtain ⟨x, hx⟩ : ∃ x, x = rd_T44 xs i := ⟨_, rfl⟩
      rw [← hx] at d0 d1 d2 d3 d4 d5 d6 d7
      simp only [Int.toNat_natCast] at d0 d1 d2 d3 d4 d5 d6 d7
      have HXe := Aside0.mk (hx.trans hrd)
      have HXM := Aside0.mk (show x ∈ xs by rw [hx.trans hrd, List.getD_eq_getElem?_getD, List.getElem?_eq_getElem hlt]; exact List.getElem_mem hlt)
      clear hx hrd
      obtain ⟨q, hq⟩ : ∃ q, tb (rd_T35 fs fi).f0 fi x = !q := ⟨!tb (rd_T35 fs fi).f0 fi x, by simp⟩
      have HQ := Aside0.mk hq
      clear hq
      go_wp2_with fail
      obtain ⟨y0, y1, y2, y3, y4⟩ := HRr.out.cells
      with_reducible refine (right1_calls tb nw fs A c HOK.out fi x B1 B2 _ (Kd.C_below HR.out.fsr HRr.out.low) h0 h1 (HSUB.out x HXM.out) y0 y1 y2 y3 y4 q HQ.out).mono ?_
      rintro e w2 ⟨rfl, hb⟩
      have HD2 := Aside0.mk (below_step HD.out hb)
      clear hb y0 y1 y2 y3 y4
      cases q with
      | true =>
        go_wp2
        go_ret
        refine ⟨⟨i, rfl, fun _ => ⟨xs.getD i z44, ?_, ?_⟩, fun _ => by omega⟩, HD2.out⟩
        · rw [List.getD_eq_getElem?_getD, List.getElem?_eq_getElem hlt]; exact List.getElem_mem hlt
        · have h := HQ.out
          rw [HXe.out] at h
          show (!tb (rd_T35 fs fi).f0 fi (xs.getD i z44)) = true
          rw [h]; rfl
      | false =>
        go_wp2
        go_roundw
        case rel => exact ⟨i + 1, by omega, by go_num, ⟨fun j hj => by rcases Nat.lt_or_ge j i with h | h; { exact HJ.out j h }; { rw [show j = i by omega, ← HXe.out, HQ.out]; rfl }⟩, HD2⟩
        case measure => simp [intOf]; omega
    · have hge : i = xs.length := by omega
      have hJ := HJ.out
      rw [hge] at hJ
      have HJ2 := Aside0.mk hJ
      have hn : ¬ (i : Int) < (xs.length : Int) := by omega
      clear hge hi hJ
      go_wp2
      go_ret
      refine ⟨⟨-1, rfl, fun h => by omega, fun h => ?_⟩, HD.out⟩
      obtain ⟨y, hy, hq⟩ := h
      obtain ⟨j, hj, rfl⟩ := List.mem_iff_getElem.1 hy
      have := HJ2.out j hj
      rw [List.getD_eq_getElem?_getD, List.getElem?_eq_getElem hj] at this
      simp only [Option.getD_some] at this
      have hq' : (!tb (rd_T35 fs fi).f0 fi xs[j]) = true := hq
      rw [this] at hq'
      cases hq'

set_option maxHeartbeats 8000000 in
set_option maxRecDepth 100000 in
theorem has_tac (tb : Int → Int → S44 → Bool) (w0 : World) (nw : Int) (fs : List S35) (A : Option Addr) (c : Nat) (fi : Int) (B1 B2 : Nat) (xs : List S44) (Ax : Option Addr) (cx : Nat) (w : World) (h : RB w0 w nw fs A c fi B1 B2) (hx : Kd.C k44 w Ax xs.length xs)
    (h0 : 0 ≤ fi) (h1 : fi < fs.length) (hok : TacOk nw fs A c tb) (hsub : ∀ t ∈ xs, ∃ b ∈ (rd_T35 fs fi).f1, t ∈ b.f0) (q : Bool) (hq : xs.all (fun t => tb (rd_T35 fs fi).f0 fi t) = !q) :
    Calls Try.prog 48 #[.slice Ax xs.length cx, .func (.func 49) #[] #[.pointer (some ⟨B1, 0, none⟩), .pointer (some ⟨B2, 0, none⟩)]] w fun e w' => e = .returned (.bool q) ∧ Below w.heap.size w w' := by
  have HI := Aside0.mk (idx_tac tb w0 nw fs A c fi B1 B2 xs Ax cx w h hx h0 h1 hok hsub)
  have HQ := Aside0.mk hq
  clear h hx hq hok hsub
  go_enter Try.func48, Try.ntmps48
  go_wp2_with fail
  refine HI.out.mono ?_
  rintro e w1 ⟨⟨r, rfl, hr⟩, hd⟩
  have HR := Aside0.mk hr
  have HD := Aside0.mk hd
  clear hr hd
  go_wp2
  go_ret
  refine ⟨?_, HD.out⟩
  have hb : decide ((0 : Int) ≤ r) = q := by
    rw [Bool.eq_iff_iff, decide_eq_true_eq, HR.out]
    have h := HQ.out
    cases q with
    | true =>
      simp only [Bool.not_true, List.all_eq_false] at h
      obtain ⟨x, hx, hp⟩ := h
      exact ⟨fun _ => rfl, fun _ => ⟨x, hx, by simpa using hp⟩⟩
    | false =>
      simp only [Bool.not_false, List.all_eq_true] at h
      refine ⟨fun ⟨x, hx, hp⟩ => ?_, fun h => by cases h⟩
      have hp' : (!tb (rd_T35 fs fi).f0 fi x) = true := hp
      rw [h x hx] at hp'
      cases hp'
  rw [← hb]
  simp
end Go.Proofs.Ytocnkjhicbmmoaa.Q
