/- seedcornref24's (*runner).fun: a function is done. -/
import Derived.Test.YtocnkjhicbmmoaaR5
import Derived.Test.YtocnkjhicbmmoaaN1
namespace Go.Proofs.Ytocnkjhicbmmoaa.Q
open Go.RowKit Go.Proofs.YtocnkjhicbmmoaaW.PrintWords Go.Proofs.YtocnkjhicbmmoaaW.PrintLast
set_option linter.unusedVariables false
set_option linter.unusedSimpArgs false

theorem rput_len {s : Rc} {regs : List Int} {d v : Int} {q : Rc × List Int} (h : rput s regs d v = some q) : q.2.length = regs.length := by
  obtain ⟨s', r'⟩ := q
  obtain ⟨_, rfl, rfl⟩ := rput_some h
  simp
theorem rloc_len {app : Int → Int → Int → Option (Int × Int)} {inp : ByteArray} {s : Rc} {regs : List Int} {t : S44} {q : Rc × List Int} (h : rloc app inp s regs t = some q) : q.2.length = regs.length := by
  unfold rloc at h
  by_cases e1 : t.f0 = 1
  · rw [if_pos e1] at h
    exact rput_len h
  rw [if_neg e1] at h
  by_cases e2 : t.f0 = 2
  · rw [if_pos e2] at h
    obtain ⟨_, _, h⟩ := Option.bind_eq_some_iff.1 h
    exact rput_len h
  rw [if_neg e2] at h
  by_cases e3 : t.f0 = 3
  · rw [if_pos e3] at h
    obtain ⟨_, _, h⟩ := Option.bind_eq_some_iff.1 h
    obtain ⟨_, _, h⟩ := Option.bind_eq_some_iff.1 h
    obtain ⟨z, _, h⟩ := Option.bind_eq_some_iff.1 h
    by_cases hz : z.2 = 0
    · rw [if_pos hz] at h
      exact rput_len h
    · rw [if_neg hz] at h
      injection h with h; subst h; rfl
  rw [if_neg e3] at h
  by_cases e4 : t.f0 = 4
  · rw [if_pos e4] at h
    obtain ⟨_, _, h⟩ := Option.bind_eq_some_iff.1 h
    exact rput_len h
  rw [if_neg e4] at h
  by_cases e5 : t.f0 = 5
  · rw [if_pos e5] at h
    obtain ⟨_, _, h⟩ := Option.bind_eq_some_iff.1 h
    obtain ⟨_, _, rfl⟩ := Option.map_eq_some_iff.1 h
    rfl
  rw [if_neg e5] at h
  by_cases e6 : t.f0 = 6
  · rw [if_pos e6] at h
    obtain ⟨a, _, h⟩ := Option.bind_eq_some_iff.1 h
    by_cases hz : 0 ≤ t.f6 ∧ t.f6 ≤ 4096 ∧ 0 ≤ a ∧ a ≤ 4294967295
    case neg => rw [if_neg hz] at h; cases h
    rw [if_pos hz] at h
    by_cases hy : a < t.f6
    · rw [if_pos hy] at h
      obtain ⟨_, _, h⟩ := Option.bind_eq_some_iff.1 h
      exact rput_len h
    · rw [if_neg hy] at h
      injection h with h; subst h; rfl
  rw [if_neg e6] at h
  by_cases e7 : t.f0 = 7
  · rw [if_pos e7] at h
    obtain ⟨a, _, h⟩ := Option.bind_eq_some_iff.1 h
    by_cases hz : 0 ≤ t.f6 ∧ t.f6 ≤ 4096 ∧ 0 ≤ a ∧ a ≤ 4294967295
    case neg => rw [if_neg hz] at h; cases h
    rw [if_pos hz] at h
    by_cases hy : a < t.f6
    · rw [if_pos hy] at h
      obtain ⟨_, _, h⟩ := Option.bind_eq_some_iff.1 h
      obtain ⟨_, _, rfl⟩ := Option.map_eq_some_iff.1 h
      rfl
    · rw [if_neg hy] at h
      injection h with h; subst h; rfl
  rw [if_neg e7] at h
  by_cases e8 : t.f0 = 8
  · rw [if_pos e8] at h
    by_cases hz : (inp.size : Int) ≤ s.read
    · rw [if_pos hz] at h
      exact rput_len h
    · rw [if_neg hz] at h
      by_cases hy : 0 ≤ s.read ∧ s.read ≤ 1000000
      · rw [if_pos hy] at h
        exact rput_len h
      · rw [if_neg hy] at h
        cases h
  rw [if_neg e8] at h
  by_cases e9 : t.f0 = 9
  · rw [if_pos e9] at h
    by_cases hz : 65536 ≤ s.out.length
    · rw [if_pos hz] at h
      injection h with h; subst h; rfl
    · rw [if_neg hz] at h
      obtain ⟨_, _, rfl⟩ := Option.map_eq_some_iff.1 h
      rfl
  rw [if_neg e9] at h
  cases h
theorem rone_len {app : Int → Int → Int → Option (Int × Int)} {inp : ByteArray} {fs : List S35} {fuel : Int} {k : Nat} {s s' : Rc} {regs regs' : List Int} {t : S44} (h : rone app inp fs fuel (k + 1) s regs t = some (s', regs')) : regs'.length = regs.length := by
  rw [rone] at h
  by_cases e : t.f0 = 10
  · rw [if_pos e] at h
    obtain ⟨_, _, he⟩ := Option.map_eq_some_iff.1 h
    injection he with _ he
    rw [he]
  · rw [if_neg e] at h
    exact rloc_len h
/-- At the end the function's own registers are no old block. -/
theorem OS.gone {w0 w W : World} {g wb r : Nat} {nw : Int} {fs : List S35} {inp : ByteArray} {fuel : Int} {s : Rc} {regs : List Int} {A : Option Addr} {c : Nat} {vo : Value}
    (h : OS w0 w W g wb r nw fs inp fuel s regs A c vo) (hr : w.heap.size ≤ r) : FAfter w0 g wb nw fs inp fuel A c s w W :=
  ⟨vo, h.rs, fun k cs t hk h5 h7 hn => h.kp k cs t hk h5 h7 fun e => e.elim hn fun e => by have := blk_lt hk; omega⟩
theorem fun_start {w0 w : World} {g wb : Nat} {nw : Int} {fs : List S35} {inp : ByteArray} {fuel : Int} {s : Rc} {A : Option Addr} {c : Nat} {vo : Value} (h : RS w0 w g wb nw fs inp fuel s A c vo) (o : Obj) (m : Nat) :
    OS w0 w ((w.alloc o).alloc (.cells (madeCells #[.int .u32 0] m) 42)) g wb (w.heap.size + 1) nw fs inp fuel s (List.replicate m 0) A c vo := by
  refine ⟨(h.alloc _).alloc _, ?_, ?_, ?_, ((Kp.refl _ _).alloc _).alloc _⟩
  · rw [made_nums]
    exact (two_new w o _).2
  · have := blk_lt h.words; omega
  · have := h.low.size; omega

set_option maxHeartbeats 16000000 in
set_option maxRecDepth 100000 in
theorem fun_step (app : Int → Int → Int → Option (Int × Int)) (happ : AppOk app) (K : Nat) (hF : ∀ j, j < K → FunOk app j) : FunOk app K := by
  intro w0 w g wb nw fs inp fuel s s' A c vo i hfu h hs
  cases K with
  | zero => simp [rfun] at hs
  | succ K =>
  rw [rfun] at hs
  by_cases hc : 0 ≤ i ∧ i < fs.length ∧ 0 ≤ (rd_T35 fs i).f0 ∧ (rd_T35 fs i).f0 * 4 ≤ 281474976710656
  case neg => rw [if_neg hc] at hs; cases hs
  rw [if_pos hc] at hs
  obtain ⟨h0, h1, h2, h3⟩ := hc
  obtain ⟨ad, A1, c1, rfl, e0, e1, l1, g1⟩ := at_T35 h.fsr i h0 h1
  have e0 := pw_cell_below h.low e0
  have e1 := pw_cell_below h.low e1
  obtain ⟨f, hf⟩ : ∃ f, f = rd_T35 fs i := ⟨_, rfl⟩
  rw [← hf] at e0 e1 l1 g1 h2 h3 hs
  obtain ⟨m, hm⟩ := Int.eq_ofNat_of_zero_le h2
  rw [hm] at e0 hs h3
  simp only [Int.toNat_natCast] at hs
  have hmk := print_make 64 42 .u32 4 Try.underlying64 info42 (by decide) m (by omega)
  obtain ⟨m0, m1, m2, m3, m4, m5, m6, m7, m8, lg, lw, fg, fw⟩ := h.cells
  have H := Aside0.mk hs
  have HF := Aside0.mk hF
  have HA := Aside0.mk happ
  have HU := Aside0.mk hfu
  have G1 := Aside0.mk g1
  have HB0 := Aside0.mk h.low
  have HS := Aside0.mk (fun_start h (.cells #[.int .i64 m, .slice A1 f.f1.length c1] 35) m)
  have T1 := Aside0.mk (two_new w (.cells #[.int .i64 m, .slice A1 f.f1.length c1] 35) (.cells (madeCells #[.int .u32 0] m) 42)).1
  clear hs hF happ hfu h g1 l1 fg fw hm hf h2 h3
  go_enter Try.func43, Try.ntmps43
  go_wp2
  go_loopg [6] K (fun kq v6 w' => ∃ (at_ : Int) (s6 : Rc) (r6 : List Int) (vo6 : Value), v6 = .int .i64 at_ ∧ r6.length = m ∧ Aside0 (rloop app inp fs fuel kq s6 f r6 at_ = some s') ∧ Aside0 (kq ≤ K) ∧ Aside0 (OS w0 w w' g wb (w.heap.size + 1) nw fs inp fuel s6 r6 (some ad) c vo6) ∧ Aside0 (w'.heap[w.heap.size]? = some (.cells #[.int .i64 m, .slice A1 f.f1.length c1] 35 (0, 0))))
  case atStart => exact ⟨0, s, List.replicate m 0, vo, rfl, by simp, H, ⟨Nat.le_refl _⟩, HS, T1⟩
  case round =>
    clear H HS T1 hmk m0 m1 m2 m3 m4 m5 m6 m7 m8 lg lw e0 e1
    obtain ⟨at_, s6, r6, vo6, rfl, hr6, HR, HK, HO, HT⟩ := hrel
    cases gk with
    | zero => exact absurd HR.out (by simp [rloop])
    | succ k1 =>
    have H := HR.out
    clear HR
    rw [rloop] at H
    obtain ⟨m0, m1, m2, m3, m4, m5, m6, m7, m8, lg, lw, fg, fw⟩ := HO.out.rs.cells
    clear fg fw
    by_cases hen : s6.en = 0
    case neg =>
      rw [if_neg hen] at H
      injection H with H
      have HE := Aside0.mk H
      have hb : (s6.en == 0) = false := beq_eq_false_iff_ne.2 hen
      clear H hen
      go_wp2
      go_end0
      exact ⟨rfl, by rw [← HE.out]; exact HO.out.gone (by omega)⟩
    rw [if_pos hen] at H
    have hb : (s6.en == 0) = true := beq_iff_eq.2 hen
    by_cases hat : 0 ≤ at_ ∧ at_ < f.f1.length
    case neg => rw [if_neg hat] at H; cases H
    rw [if_pos hat] at H
    obtain ⟨ha0, ha1⟩ := hat
    obtain ⟨⟨stop, s9, r9⟩, hq, H⟩ := Option.bind_eq_some_iff.1 H
    have HQ := Aside0.mk hq
    have H' := Aside0.mk H
    obtain ⟨ad2, A0, n0, rfl, d0, d1, d2, d3, d4, l0, g0⟩ := at_T41 G1.out at_ ha0 ha1
    have d0 := pw_cell_below HO.out.rs.low d0
    have d1 := pw_cell_below HO.out.rs.low d1
    have d2 := pw_cell_below HO.out.rs.low d2
    have d3 := pw_cell_below HO.out.rs.low d3
    have d4 := pw_cell_below HO.out.rs.low d4
    have G0 := Aside0.mk g0
    have hl0 := g0.2.1
    have t0 := (blk_cell HT.out 0).trans rfl
    have t1 := (blk_cell HT.out 1).trans rfl
    have tl := blk_lt HT.out
    obtain ⟨wo, rfl⟩ : ∃ wo : World, wo = wr := ⟨_, rfl⟩
    have K1 := Aside0.mk (blk_new wo (.cells #[.slice A0 (rd_T41 f.f1 at_).f0.length n0, .int .i64 (rd_T41 f.f1 at_).f1, .int .i64 (rd_T41 f.f1 at_).f2, .int .i64 (rd_T41 f.f1 at_).f3, .int .i64 (rd_T41 f.f1 at_).f4] 41))
    clear H hq hen l0 g0
    go_wp2
    go_loopg [8] k1 (fun kq v8 w' => ∃ (j : Int) (s8 : Rc) (r8 : List Int) (vo8 : Value), v8 = .int .i64 j ∧ r8.length = m ∧ 0 ≤ j ∧ Aside0 (rins app inp fs fuel kq s8 (rd_T41 f.f1 at_) r8 j = some (stop, s9, r9)) ∧ Aside0 (kq ≤ k1) ∧ Aside0 (OS w0 w w' g wb (w.heap.size + 1) nw fs inp fuel s8 r8 (some ad) c vo8) ∧ Aside0 (w'.heap[w.heap.size]? = some (.cells #[.int .i64 m, .slice (some ad2) f.f1.length c1] 35 (0, 0))) ∧ Aside0 (w'.heap[wo.heap.size]? = some (.cells #[.slice A0 (rd_T41 f.f1 at_).f0.length n0, .int .i64 (rd_T41 f.f1 at_).f1, .int .i64 (rd_T41 f.f1 at_).f2, .int .i64 (rd_T41 f.f1 at_).f3, .int .i64 (rd_T41 f.f1 at_).f4] 41 (0, 0))))
    case atStart => exact ⟨0, s6, r6, vo6, rfl, hr6, by omega, HQ, ⟨Nat.le_refl _⟩, ⟨HO.out.alloc _⟩, ⟨blk_alloc HT.out _⟩, K1⟩
    case round =>
      clear K1 HQ HO HT m0 m1 m2 m3 m4 m5 m6 m7 m8 lg lw d0 d1 d2 d3 d4 t0 t1 tl hb
      obtain ⟨j, s8, r8, vo8, rfl, hr8, hj0, HR, HK2, HO, HT, HX⟩ := hrel
      cases gk with
      | zero => exact absurd HR.out (by simp [rins])
      | succ k2 =>
      have H := HR.out
      clear HR
      rw [rins] at H
      obtain ⟨m0, m1, m2, m3, m4, m5, m6, m7, m8, lg, lw, fg, fw⟩ := HO.out.rs.cells
      have x0 := (blk_cell HX.out 0).trans rfl
      have x1 := (blk_cell HX.out 1).trans rfl
      have x2 := (blk_cell HX.out 2).trans rfl
      have x3 := (blk_cell HX.out 3).trans rfl
      have x4 := (blk_cell HX.out 4).trans rfl
      have xl := blk_lt HX.out
      clear fg fw
      by_cases hj : 0 ≤ j ∧ j < (rd_T41 f.f1 at_).f0.length
      · rw [if_pos hj] at H
        obtain ⟨_, hj1⟩ := hj
        by_cases hs0 : 0 ≤ s8.steps
        case neg => rw [if_neg hs0] at H; cases H
        rw [if_pos hs0] at H
        by_cases hf : fuel ≤ s8.steps
        · rw [if_pos hf] at H
          simp only [Option.some.injEq, Prod.mk.injEq] at H
          obtain ⟨rfl, rfl, rfl⟩ := H
          have HE := H'.out
          simp only [if_true, Option.some.injEq] at HE
          have HE2 := Aside0.mk HE
          have HF2 := Aside0.mk hf
          clear HE hf
          go_wp2_with fail
          with_reducible refine (rstep_no w0 _ g wb nw fs inp fuel s8 (some ad) c vo8 HO.out.rs HF2.out).mono ?_
          rintro e w3 ⟨rfl, q1, q2⟩
          have HO3 := Aside0.mk (HO.out.through q1 (q2.wide fun k e => e.elim))
          clear q1 q2
          go_wp2
          refine bodyPost_ret (results_none rfl _ _ _) rfl ⟨rfl, ?_⟩
          rw [← HE2.out]
          exact HO3.out.gone (by omega)
        · rw [if_neg hf] at H
          obtain ⟨⟨s10, r10⟩, hone, H⟩ := Option.bind_eq_some_iff.1 H
          cases k2 with
          | zero => exact absurd hone (by simp [rone])
          | succ k3 =>
          obtain ⟨ad3, rfl, y0, y1, y2, y3, y4, y5, y6, y7⟩ := at_T44 G0.out j hj0 hj1
          have Y := Aside0.mk (And.intro y0 (And.intro y1 (And.intro y2 (And.intro y3 (And.intro y4 (And.intro y5 (And.intro y6 y7)))))))
          have HF2 := Aside0.mk hf
          have HH := Aside0.mk H
          have HONE := Aside0.mk hone
          clear hf H hone y0 y1 y2 y3 y4 y5 y6 y7
          have hs1 : s8.steps ≤ 1000000 := by have := HU.out; have := HF2.out; omega
          go_wp2_with fail
          with_reducible refine (rstep_yes w0 _ g wb nw fs inp fuel s8 (some ad) c vo8 HO.out.rs hs0 hs1 (by have := HF2.out; omega)).mono ?_
          rintro e w3 ⟨rfl, q1, q2⟩
          have HO3 := Aside0.mk (HO.out.through q1 (q2.wide fun k e => e.elim))
          have HT3 := Aside0.mk (q2 _ _ 35 HT.out (by decide) (by decide) id)
          have HX3 := Aside0.mk (q2 _ _ 41 HX.out (by decide) (by decide) id)
          clear q1 q2 m0 m1 m2 m3 m4 m5 m6 m7 m8 lg lw x0 x1 x2 x3 x4 xl
          obtain ⟨y0, y1, y2, y3, y4, y5, y6, y7⟩ := Y.out
          have y0 := pw_cell_below HO3.out.rs.low y0
          have y1 := pw_cell_below HO3.out.rs.low y1
          have y2 := pw_cell_below HO3.out.rs.low y2
          have y3 := pw_cell_below HO3.out.rs.low y3
          have y4 := pw_cell_below HO3.out.rs.low y4
          have y5 := pw_cell_below HO3.out.rs.low y5
          have y6 := pw_cell_below HO3.out.rs.low y6
          have y7 := pw_cell_below HO3.out.rs.low y7
          have x0 := (blk_cell HX3.out 0).trans rfl
          obtain ⟨m0, m1, m2, m3, m4, m5, m6, m7, m8, lg, lw, fg, fw⟩ := HO3.out.rs.cells
          clear fg fw
          have hk3 : k3 < K + 1 := by have := HK.out; have := HK2.out; omega
          have HC := Aside0.mk (rone_calls app HA.out k3 (HF.out k3 hk3) w0 w3 g wb (w.heap.size + 1) nw fs inp fuel { s8 with steps := s8.steps + 1 } r8 (some ad) c vo8 (rd_T44 (rd_T41 f.f1 at_).f0 j) (s10, r10) HU.out (OS.start HO3.out.rs HO3.out.rr HO3.out.ne HO3.out.ge) HONE.out)
          rw [hr8] at HC
          go_wp2_with fail
          refine HC.out.mono ?_
          rintro e w4 ⟨rfl, vo4, hO⟩
          have HO4 := Aside0.mk (show OS w0 w w4 g wb (w.heap.size + 1) nw fs inp fuel s10 r10 (some ad) c vo4 from ⟨hO.rs, hO.rr, hO.ne, hO.ge, HO3.out.kp.trans hO.kp⟩)
          have hne1 : ¬ Own2 wb (w.heap.size + 1) w.heap.size := by
            intro e
            rcases e with e | e
            · exact absurd HO3.out.rs.words (by rw [← e, HT3.out]; simp)
            · omega
          have hne2 : ¬ Own2 wb (w.heap.size + 1) wo.heap.size := by
            intro e
            rcases e with e | e
            · exact absurd HO3.out.rs.words (by rw [← e, HX3.out]; simp)
            · exact absurd HO3.out.rr (by rw [← e, HX3.out]; simp)
          have HT4 := Aside0.mk (hO.kp _ _ 35 HT3.out (by decide) (by decide) hne1)
          have HX4 := Aside0.mk (hO.kp _ _ 41 HX3.out (by decide) (by decide) hne2)
          clear hO hne1 hne2 m0 m1 m2 m3 m4 m5 m6 m7 m8 lg lw x0 y0 y1 y2 y3 y4 y5 y6 y7 HC
          have x0 := (blk_cell HX4.out 0).trans rfl
          obtain ⟨m0, m1, m2, m3, m4, m5, m6, m7, m8, lg, lw, fg, fw⟩ := HO4.out.rs.cells
          clear fg fw
          have hr10 : r10.length = m := (rone_len HONE.out).trans hr8
          by_cases hen : s10.en = 0
          · have H := HH.out
            rw [if_pos hen] at H
            have HN := Aside0.mk H
            have hb : (s10.en != 0) = false := by rw [hen]; rfl
            clear H hen
            go_wp2
            go_roundg (k3 + 1)
            case measure => omega
            case rel => exact ⟨j + 1, s10, r10, vo4, by go_num, hr10, by omega, HN, ⟨by have := HK2.out; omega⟩, HO4, HT4, HX4⟩
          · have H := HH.out
            rw [if_neg hen] at H
            simp only [Option.some.injEq, Prod.mk.injEq] at H
            obtain ⟨rfl, rfl, rfl⟩ := H
            have HE := H'.out
            simp only [if_true, Option.some.injEq] at HE
            have HE2 := Aside0.mk HE
            have hb : (s10.en != 0) = true := by rw [bne_iff_ne]; exact hen
            clear HE hen
            go_wp2
            refine bodyPost_ret (results_none rfl _ _ _) rfl ⟨rfl, ?_⟩
            rw [← HE2.out]
            exact HO4.out.gone (by omega)
      · rw [if_neg hj] at H
        simp only [Option.some.injEq, Prod.mk.injEq] at H
        obtain ⟨rfl, rfl, rfl⟩ := H
        have hjn : ¬ j < (rd_T41 f.f1 at_).f0.length := fun e => hj ⟨hj0, e⟩
        clear hj
        have H := H'.out
        simp only [Bool.false_eq_true, if_false] at H
        by_cases hs0 : 0 ≤ s8.steps
        case neg => rw [if_neg hs0] at H; cases H
        rw [if_pos hs0] at H
        by_cases hf : fuel ≤ s8.steps
        · rw [if_pos hf] at H
          injection H with H
          have HE2 := Aside0.mk H
          have HF2 := Aside0.mk hf
          clear H hf
          go_wp2_with fail
          with_reducible refine (rstep_no w0 _ g wb nw fs inp fuel s8 (some ad) c vo8 HO.out.rs HF2.out).mono ?_
          rintro e w3 ⟨rfl, q1, q2⟩
          have HO3 := Aside0.mk (HO.out.through q1 (q2.wide fun k e => e.elim))
          clear q1 q2
          go_wp2
          repeat (go_quiet (fail); try go_wp2)
          refine bodyPost_ret (results_none rfl _ _ _) rfl ⟨rfl, ?_⟩
          rw [← HE2.out]
          refine OS.gone (r := w.heap.size + 1) (regs := r8) (vo := vo8) ?_ (by omega)
          repeat (first | exact HO3.out | (with_reducible refine OS.drew ?_) | (with_reducible refine OS.drewN ?_ _))
        · rw [if_neg hf] at H
          have HF2 := Aside0.mk hf
          have HN := Aside0.mk H
          have hs1 : s8.steps ≤ 1000000 := by have := HU.out; omega
          clear H hf
          go_wp2_with fail
          with_reducible refine (rstep_yes w0 _ g wb nw fs inp fuel s8 (some ad) c vo8 HO.out.rs hs0 hs1 (by have := HF2.out; omega)).mono ?_
          rintro e w3 ⟨rfl, q1, q2⟩
          have HO3 := Aside0.mk (HO.out.through q1 (q2.wide fun k e => e.elim))
          have HT3 := Aside0.mk (q2 _ _ 35 HT.out (by decide) (by decide) id)
          have HX3 := Aside0.mk (q2 _ _ 41 HX.out (by decide) (by decide) id)
          clear q1 q2 m0 m1 m2 m3 m4 m5 m6 m7 m8 lg lw x0 x1 x2 x3 x4 xl
          have x0 := (blk_cell HX3.out 0).trans rfl
          have x1 := (blk_cell HX3.out 1).trans rfl
          have x2 := (blk_cell HX3.out 2).trans rfl
          have x3 := (blk_cell HX3.out 3).trans rfl
          have x4 := (blk_cell HX3.out 4).trans rfl
          obtain ⟨m0, m1, m2, m3, m4, m5, m6, m7, m8, lg, lw, fg, fw⟩ := HO3.out.rs.cells
          clear fg
          by_cases h3 : (rd_T41 f.f1 at_).f1 = 3
          · have H := HN.out
            rw [if_pos h3] at H
            injection H with H
            have HE2 := Aside0.mk H
            have b3 : ((rd_T41 f.f1 at_).f1 == 3) = true := beq_iff_eq.2 h3
            clear H h3 fw
            go_wp2
            repeat (go_quiet (fail); try go_wp2)
            refine bodyPost_ret (results_none rfl _ _ _) rfl ⟨rfl, ?_⟩
            rw [← HE2.out]
            refine OS.gone (r := w.heap.size + 1) (regs := r8) (vo := vo8) ?_ (by omega)
            repeat (first | exact HO3.out | (with_reducible refine OS.drew ?_) | (with_reducible refine OS.drewN ?_ _))
          have b3 : ((rd_T41 f.f1 at_).f1 == 3) = false := beq_eq_false_iff_ne.2 h3
          have H := HN.out
          rw [if_neg h3] at H
          by_cases h2 : (rd_T41 f.f1 at_).f1 = 2
          · rw [if_pos h2] at H
            obtain ⟨v, hv, H⟩ := Option.bind_eq_some_iff.1 H
            obtain ⟨hv0, hv⟩ := rget_some hv
            have hV := HO3.out.reg hv0 hv
            have hV1 := get_lt hv0 hv
            rw [hr8] at hV1
            have b2 : ((rd_T41 f.f1 at_).f1 == 2) = true := beq_iff_eq.2 h2
            by_cases hz : v = 0
            · rw [if_pos hz] at H
              have HN2 := Aside0.mk H
              have bz : (v == 0) = true := beq_iff_eq.2 hz
              clear H h2 h3 hz hv fw
              go_wp2
              repeat (go_quiet (fail); try go_wp2)
              go_roundg k1
              case measure => have := HK.out; omega
              case rel => exact ⟨(rd_T41 f.f1 at_).f4, _, r8, vo8, rfl, hr8, HN2, ⟨by have := HK.out; omega⟩, ⟨by repeat (first | exact HO3.out | (with_reducible refine OS.drew ?_) | (with_reducible refine OS.drewN ?_ _))⟩, ⟨by repeat (first | exact HT3.out | (with_reducible refine blk_drew ?_) | (with_reducible refine blk_drewN ?_ _))⟩⟩
            · rw [if_neg hz] at H
              have HN2 := Aside0.mk H
              have bz : (v == 0) = false := beq_eq_false_iff_ne.2 hz
              clear H h2 h3 hz hv fw
              go_wp2
              repeat (go_quiet (fail); try go_wp2)
              go_roundg k1
              case measure => have := HK.out; omega
              case rel => exact ⟨(rd_T41 f.f1 at_).f3, _, r8, vo8, rfl, hr8, HN2, ⟨by have := HK.out; omega⟩, ⟨by repeat (first | exact HO3.out | (with_reducible refine OS.drew ?_) | (with_reducible refine OS.drewN ?_ _))⟩, ⟨by repeat (first | exact HT3.out | (with_reducible refine blk_drew ?_) | (with_reducible refine blk_drewN ?_ _))⟩⟩
          · rw [if_neg h2] at H
            have HN2 := Aside0.mk H
            have b2 : ((rd_T41 f.f1 at_).f1 == 2) = false := beq_eq_false_iff_ne.2 h2
            clear H h2 h3 fw
            go_wp2
            repeat (go_quiet (fail); try go_wp2)
            go_roundg k1
            case measure => have := HK.out; omega
            case rel => exact ⟨(rd_T41 f.f1 at_).f3, _, r8, vo8, rfl, hr8, HN2, ⟨by have := HK.out; omega⟩, ⟨by repeat (first | exact HO3.out | (with_reducible refine OS.drew ?_) | (with_reducible refine OS.drewN ?_ _))⟩, ⟨by repeat (first | exact HT3.out | (with_reducible refine blk_drew ?_) | (with_reducible refine blk_drewN ?_ _))⟩⟩
theorem fun_ok (app : Int → Int → Int → Option (Int × Int)) (happ : AppOk app) (K : Nat) : FunOk app K := by
  induction K using Nat.strongRecOn with
  | ind K ih => exact fun_step app happ K ih
end Go.Proofs.Ytocnkjhicbmmoaa.Q
