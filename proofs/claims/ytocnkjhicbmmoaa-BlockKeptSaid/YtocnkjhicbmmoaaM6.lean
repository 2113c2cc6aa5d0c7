/- block.Run answers what mrun tells. -/
import Derived.Test.YtocnkjhicbmmoaaM5
namespace Go.Proofs.Ytocnkjhicbmmoaa.Q
open Go.RowKit Go.Proofs.YtocnkjhicbmmoaaW.PrintWords Go.Proofs.YtocnkjhicbmmoaaW.PrintLast
set_option linter.unusedVariables false
set_option linter.unusedSimpArgs false

theorem ms_start (w : World) (m : Nat) (fs : List S35) (inp : ByteArray) (A : Option Addr) (c : Nat) (hC : Kd.C k35 w A fs.length fs) (hc : fs.length ≤ c) :
    MS w ((w.alloc (.cells (madeCells #[.int .u32 0] m) 42)).alloc (.cells #[.int .i64 m, .slice A fs.length c, .string inp, .slice (some ⟨w.heap.size, 0, none⟩) m m, .slice none 0 0, .slice none 0 0, .int .i64 0] 68))
      (w.heap.size + 1) w.heap.size m fs ⟨inp, List.replicate m 0, [], [], 0⟩ [] A c (.slice none 0 0) (.slice none 0 0) := by
  refine ⟨?_, hc, hC, ?_, own_nil _ _ _ _, own_nil _ _ _ _, trivial, by simp, by simp, by omega, by omega, ?_⟩
  · have h := blk_new (w.alloc (.cells (madeCells #[.int .u32 0] m) 42)) (.cells #[.int .i64 m, .slice A fs.length c, .string inp, .slice (some ⟨w.heap.size, 0, none⟩) m m, .slice none 0 0, .slice none 0 0, .int .i64 0] 68)
    simpa using h
  · have h := blk_alloc (blk_new w (.cells (madeCells #[.int .u32 0] m) 42)) (.cells #[.int .i64 m, .slice A fs.length c, .string inp, .slice (some ⟨w.heap.size, 0, none⟩) m m, .slice none 0 0, .slice none 0 0, .int .i64 0] 68)
    rw [made_nums] at h
    rw [made_nums]
    simpa using h
  · exact below_alloc (below_alloc (Below.refl _ _) _) _
theorem MAfter.of {w0 w : World} {g wb : Nat} {nw : Int} {fs : List S35} {A : Option Addr} {c : Nat} {s : Mc} {loc : List (Nat × Nat)} {vo vc : Value} (h : MS w0 w g wb nw fs s loc A c vo vc) : MAfter w0 g wb nw fs A c s w := ⟨_, _, _, h⟩
theorem mput_len {s s' : Mc} {f : Fr} {st : List Fr} {d v : Int} (h : mput s f st d v = some s') : s'.stk.length = st.length + 1 := by
  obtain ⟨_, rfl⟩ := mput_some h
  rfl
theorem mdo_len {fs : List S35} {inp : ByteArray} {ws out : List Int} {en : Int} {f : Fr} {st : List Fr} {t : S44} {s' : Mc} (h : mdo fs ⟨inp, ws, out, f :: st, en⟩ f st t = some s') : s'.stk.length ≤ st.length + 2 := by
  unfold mdo at h
  by_cases e1 : t.f0 = 1
  · rw [if_pos e1] at h
    have := mput_len h; omega
  rw [if_neg e1] at h
  by_cases e2 : t.f0 = 2
  · rw [if_pos e2] at h
    obtain ⟨_, _, h⟩ := Option.bind_eq_some_iff.1 h
    have := mput_len h; omega
  rw [if_neg e2] at h
  by_cases e3 : t.f0 = 3
  · rw [if_pos e3] at h
    obtain ⟨_, _, h⟩ := Option.bind_eq_some_iff.1 h
    obtain ⟨_, _, h⟩ := Option.bind_eq_some_iff.1 h
    obtain ⟨q, _, h⟩ := Option.bind_eq_some_iff.1 h
    by_cases hq : q.2 = 0
    · rw [if_pos hq] at h
      have := mput_len h; omega
    · rw [if_neg hq] at h
      injection h with h; subst h; simp
  rw [if_neg e3] at h
  by_cases e4 : t.f0 = 4
  · rw [if_pos e4] at h
    obtain ⟨_, _, h⟩ := Option.bind_eq_some_iff.1 h
    have := mput_len h; omega
  rw [if_neg e4] at h
  by_cases e5 : t.f0 = 5
  · rw [if_pos e5] at h
    obtain ⟨_, _, h⟩ := Option.bind_eq_some_iff.1 h
    obtain ⟨_, _, rfl⟩ := Option.map_eq_some_iff.1 h
    simp
  rw [if_neg e5] at h
  by_cases e6 : t.f0 = 6
  · rw [if_pos e6] at h
    obtain ⟨a, _, h⟩ := Option.bind_eq_some_iff.1 h
    by_cases hq : a < t.f6 % 4294967296
    · rw [if_pos hq] at h
      obtain ⟨_, _, h⟩ := Option.bind_eq_some_iff.1 h
      have := mput_len h; omega
    · rw [if_neg hq] at h
      injection h with h; subst h; simp
  rw [if_neg e6] at h
  by_cases e7 : t.f0 = 7
  · rw [if_pos e7] at h
    obtain ⟨a, _, h⟩ := Option.bind_eq_some_iff.1 h
    by_cases hq : a < t.f6 % 4294967296
    · rw [if_pos hq] at h
      obtain ⟨_, _, h⟩ := Option.bind_eq_some_iff.1 h
      obtain ⟨_, _, rfl⟩ := Option.map_eq_some_iff.1 h
      simp
    · rw [if_neg hq] at h
      injection h with h; subst h; simp
  rw [if_neg e7] at h
  by_cases e8 : t.f0 = 8
  · rw [if_pos e8] at h
    by_cases hq : inp.size = 0
    · rw [if_pos hq] at h
      have := mput_len h; omega
    · rw [if_neg hq] at h
      have := mput_len h; omega
  rw [if_neg e8] at h
  by_cases e9 : t.f0 = 9
  · rw [if_pos e9] at h
    by_cases hq : 65536 ≤ out.length
    · rw [if_pos hq] at h
      injection h with h; subst h; simp
    · rw [if_neg hq] at h
      obtain ⟨_, _, rfl⟩ := Option.map_eq_some_iff.1 h
      simp
  rw [if_neg e9] at h
  by_cases e10 : t.f0 = 10
  · rw [if_pos e10] at h
    by_cases hq : 0 ≤ t.f5 ∧ t.f5 < fs.length ∧ 0 ≤ (rd_T35 fs t.f5).f0 ∧ (rd_T35 fs t.f5).f0 * 4 ≤ 281474976710656
    · rw [if_pos hq] at h
      injection h with h; subst h; simp
    · rw [if_neg hq] at h
      cases h
  rw [if_neg e10] at h
  cases h
theorem mover_len {inp : ByteArray} {ws out : List Int} {en : Int} {f : Fr} {st : List Fr} {b : S41} {s' : Mc} (h : mover ⟨inp, ws, out, f :: st, en⟩ f st b = some s') : s'.stk.length ≤ st.length + 1 := by
  unfold mover at h
  simp only at h
  split at h
  · injection h with h; subst h; simp
  split at h
  · obtain ⟨_, _, rfl⟩ := Option.map_eq_some_iff.1 h
    simp
  split at h
  · injection h with h; subst h; simp
  · injection h with h; subst h; simp
/-- The last function's frame, as the slice of calls has it. -/
theorem MS.last {w0 W : World} {g wb : Nat} {nw : Int} {fs : List S35} {inp : ByteArray} {ws out : List Int} {en : Int} {f : Fr} {st : List Fr} {l : Nat × Nat} {loc : List (Nat × Nat)} {A : Option Addr} {c : Nat} {vo vc : Value}
    (h : MS w0 W g wb nw fs ⟨inp, ws, out, f :: st, en⟩ (l :: loc) A c vo vc) : ∃ gb cc, vc = .slice (some ⟨gb, 0, none⟩) (st.length + 1) cc ∧ st.length + 1 ≤ cc ∧ W.cell? ⟨gb, st.length, none⟩ = some (.pointer (some ⟨l.1, 0, none⟩)) := by
  have hlen : loc.length = st.length := h.frames.2.len
  have hc := h.calls
  obtain ⟨gb, cc, he⟩ : ∃ gb cc, vc = .slice (some ⟨gb, 0, none⟩) (st.length + 1) cc := by
    rcases hc.2 with ⟨_, h⟩ | ⟨gb, cap, _, h, _⟩
    · simp at h
    · exact ⟨gb, cap, h⟩
  subst he
  refine ⟨gb, cc, rfl, own_cap hc, ?_⟩
  have := hc.cells (g := gb) rfl st.length (.pointer (some ⟨l.1, 0, none⟩)) (by simp [ptrs, hlen])
  rwa [add_plain] at this

theorem res_cells {w w0 W : World} {m : Int} {A : Option Addr} {n c : Nat} (hw0 : w0 = (w.alloc (.cells #[.int .i64 m, .slice A n c] 24)).alloc (.cells #[.int .i64 0, .string ⟨#[]⟩, .int .i64 0] 28)) (hb : Below w0.heap.size w0 W) :
    W.heap[w.heap.size + 1]? = some (.cells #[.int .i64 0, .string ⟨#[]⟩, .int .i64 0] 28 (0, 0)) := by
  have h := blk_new (w.alloc (.cells #[.int .i64 m, .slice A n c] 24)) (.cells #[.int .i64 0, .string ⟨#[]⟩, .int .i64 0] 28)
  rw [← hw0] at h
  have h2 : w0.heap[w.heap.size + 1]? = some (.cells #[.int .i64 0, .string ⟨#[]⟩, .int .i64 0] 28 (0, 0)) := by simpa using h
  exact blk_below h2 hb
theorem FrOk.ge {w0 W : World} {p r : Nat} {f : Fr} (h : FrOk w0 W p r f) : w0.heap.size ≤ p := by
  obtain ⟨_, _, _, _, _, _, h5, _⟩ := h
  exact h5
theorem do_calls2 (w0 w : World) (g wb : Nat) (nw : Int) (fs : List S35) (inp : ByteArray) (ws out : List Int) (f : Fr) (st : List Fr) (en : Int) (p r : Nat) (loc : List (Nat × Nat)) (A : Option Addr) (c : Nat) (vo vc : Value) (t : S44) (s' : Mc)
    (h : MS w0 w g wb nw fs ⟨inp, ws, out, f :: st, en⟩ ((p, r) :: loc) A c vo vc) (hs : mdo fs ⟨inp, ws, out, f :: st, en⟩ f st t = some s') (hst : (st.length + 2) * 8 ≤ 140737488355328) :
    Calls Try.prog 42 #[.pointer (some ⟨g, 0, none⟩), .pointer (some ⟨p, 0, none⟩), .agg #[.int .i64 t.f0, .int .i64 t.f1, .int .i64 t.f2, .int .i64 t.f3, .int .i64 t.f4, .int .i64 t.f5, .int .i64 t.f6, .int .u32 t.f7]] w fun e w' => e = .returned (.tuple #[]) ∧ MAfter w0 g wb nw fs A c s' w' :=
  do_calls w0 w g wb nw fs inp ws out f st en p r loc A c vo vc t s' h hs hst
set_option maxHeartbeats 8000000 in
set_option maxRecDepth 100000 in
theorem run_calls (k : Nat) (nw : Int) (fs : List S35) (inp : ByteArray) (fuel : Int) (A : Option Addr) (c : Nat) (w : World) (s : Mc) (n : Int)
    (hC : Kd.C k35 w A fs.length fs) (hc : fs.length ≤ c) (hw0 : 0 ≤ nw) (hw1 : nw * 4 ≤ 281474976710656) (hl : 0 < fs.length) (hr0 : 0 ≤ (rd_T35 fs (fs.length - 1)).f0) (hr1 : (rd_T35 fs (fs.length - 1)).f0 * 4 ≤ 281474976710656)
    (hfu : fuel ≤ 1000000) (hl1 : fs.length ≤ 1000000) (h : mrun fs fuel k 0 (mstart fs nw inp) = some (s, n)) :
    Calls Try.prog 19 #[.agg #[.int .i64 nw, .slice A fs.length c], .string inp, .int .i64 fuel] w fun e w' => e = .returned (.agg #[.int .i64 s.en, .string (strOfNums s.out), .int .i64 n]) ∧ Below w.heap.size w w' := by
  obtain ⟨m, rfl⟩ := Int.eq_ofNat_of_zero_le hw0
  have hmk := print_make 64 42 .u32 4 Try.underlying64 info42 (by decide) m (by omega)
  have H := Aside0.mk h
  have HC := Aside0.mk hC
  have Hc := Aside0.mk hc
  have HR0 := Aside0.mk hr0
  have HR1 := Aside0.mk hr1
  clear h hC hc hr0 hr1 hw0 hw1
  go_enter Try.func19, Try.ntmps19
  go_wp2
  go_step3
  go_wp2
  go_region
  go_wp2_with fail
  obtain ⟨w0, hw0⟩ : ∃ w0 : World, w0 = (w.alloc (.cells #[.int .i64 m, .slice A fs.length c] 24)).alloc (.cells #[.int .i64 0, .string ⟨#[]⟩, .int .i64 0] 28) := ⟨_, rfl⟩
  have hz : w0.heap.size = w.heap.size + 1 + 1 := by rw [hw0]; simp
  have HB0 : Below w.heap.size w w0 := by rw [hw0]; exact below_alloc (below_alloc (Below.refl _ _) _) _
  have HS := ms_start w0 m fs inp A c (Kd.C_below HC.out HB0) Hc.out
  with_reducible refine (call_calls w0 _ (w.heap.size + 1 + 1 + 1) (w.heap.size + 1 + 1) m fs inp (List.replicate m 0) [] [] 0 [] A c (.slice none 0 0) (.slice none 0 0) ?hms ((fs.length : Int) - 1) ?h0 ?h1 (rd_T35 fs (fs.length - 1)).f0.toNat ?h2 ?h3 ?h4).mono ?_
  case hms =>
    rw [hz] at HS
    subst hw0
    repeat (first | exact HS | (with_reducible refine MS.drew ?_) | (with_reducible refine MS.drewN ?_ _))
  case h0 => omega
  case h1 => omega
  case h2 => have := HR0.out; omega
  case h3 => have := HR1.out; omega
  case h4 => simp
  rintro e w1 ⟨rfl, p, r, v1, hM⟩
  have HM := Aside0.mk (MAfter.of hM)
  have HW0 := Aside0.mk hw0
  have HZ := Aside0.mk hz
  have HB := Aside0.mk HB0
  clear hM HS hw0 hz HB0 hmk
  go_wp2
  go_step3
  go_wp2
  go_loopg [8] k (fun kq v8 w' => ∃ (n8 : Int) (s8 : Mc), v8 = .int .i64 n8 ∧ 0 ≤ n8 ∧ n8 ≤ 1000000 ∧ Aside0 (mrun fs fuel kq n8 s8 = some (s, n)) ∧ Aside0 (MAfter w0 (w.heap.size + 1 + 1 + 1) (w.heap.size + 1 + 1) m fs A c s8 w') ∧ Aside0 ((s8.stk.length : Int) ≤ n8 + 1))
  case atStart => exact ⟨0, mstart fs m inp, rfl, by omega, by omega, H, ⟨by simpa [mstart] using HM.out⟩, ⟨by simp [mstart]⟩⟩
  case round =>
    clear H HM HR0 HR1
    obtain ⟨n8, s8, rfl, hn0, hn1, HA, HM, HK⟩ := hrel
    cases gk with
    | zero => exact absurd HA.out (by simp [mrun])
    | succ k1 =>
      have H := HA.out
      clear HA
      obtain ⟨inp8, ws8, out8, stk8, en8⟩ := s8
      simp only [mrun] at H
      obtain ⟨loc, vo, vc, hM⟩ := HM.out
      obtain ⟨m0, m1, m2, m3, m4, m5, m6, lg, lw, fg, fw⟩ := hM.cells
      simp only at m2 m3 m6
      have f6 := fg 6
      have HMS := Aside0.mk hM
      have FG := Aside0.mk fg
      clear hM fg fw HM
      by_cases he : en8 = 0
      · rw [if_pos he] at H
        subst he
        by_cases hf : n8 ≥ fuel
        · rw [if_pos hf] at H
          simp only [Option.some.injEq, Prod.mk.injEq] at H
          obtain ⟨rfl, rfl⟩ := H
          have hdf : decide (fuel ≤ n8) = true := by simpa using hf
          have HE0 := Aside0.mk (HMS.out.set_end 5)
          clear hf HMS FG
          go_wp2
          obtain ⟨w9, hw9⟩ : ∃ w9 : World, w9 = wr.setCell ⟨w.heap.size + 1 + 1 + 1, 6, none⟩ (.int .i64 5) := ⟨_, rfl⟩
          rw [← hw9]
          have HE : Aside0 (MS w0 w9 (w.heap.size + 1 + 1 + 1) (w.heap.size + 1 + 1) m fs ⟨inp8, ws8, out8, stk8, 5⟩ loc A c vo vc) := ⟨by rw [hw9]; exact HE0.out⟩
          clear HE0 hw9 m0 m1 m2 m3 m4 m5 m6 lg lw f6 hdf
          obtain ⟨Ao, co, rfl⟩ := own_slice HE.out.out
          have hRC := res_cells HW0.out HE.out.low
          have r0 := (blk_cell hRC 0).trans rfl
          have r1 := (blk_cell hRC 1).trans rfl
          have r2 := (blk_cell hRC 2).trans rfl
          have q0 := blk_frozen hRC 0
          have q1 := blk_frozen hRC 1
          have q2 := blk_frozen hRC 2
          have RC := Aside0.mk hRC
          clear hRC
          have v1 := own_string (P := Try.prog) (src := 65) (dst := 9) (e := 5) Try.underlying65 Try.underlying5 Try.underlying9 HE.out.out
          have v2 := own_string (P := Try.prog) (src := 65) (dst := 9) (e := 5) Try.underlying65 Try.underlying5 Try.underlying9 (own_drew HE.out.out)
          obtain ⟨m0, m1, m2, m3, m4, m5, m6, lg, lw, fg, fw⟩ := HE.out.cells
          simp only at m2 m3 m6
          clear fg fw
          go_wp2
          go_region
          go_wp2
          rw [Exit.noGoto_ret]
          have RF := blk_drew (blk_put (blk_put (blk_put RC.out 0 (.int .i64 5) rfl) 1 (.string (strOfNums out8)) rfl) 2 (.int .i64 n8) rfl)
          refine bodyPost_ret (v := .agg #[.int .i64 5, .string (strOfNums out8), .int .i64 n8]) (results_single rfl (Vals.cell (w.heap.size + 1) 28 _ (0, 0) _ rfl RF Try.underlying28 rfl (by kernel_rfl) .nil)) rfl ⟨rfl, ?_⟩
          have hh : w.heap.size ≤ w.heap.size + 1 := by omega
          exact below_drew1 (below_set (below_set (below_set (below_weaken HB.out HB.out.size HE.out.low) hh) hh) hh)
        · rw [if_neg hf] at H
          obtain ⟨s9, hs, HX⟩ := Option.bind_eq_some_iff.1 H
          clear H
          cases stk8 with
          | nil => exact absurd hs (by simp [mstep])
          | cons f st =>
            cases loc with
            | nil => exact absurd HMS.out.frames (by simp [FrsOk])
            | cons l loc =>
              obtain ⟨p, r⟩ := l
              have H' := Aside0.mk HX
              clear HX
              have hn2 : n8 + 1 ≤ 1000000 := by omega
              have hK := HK.out
              simp only [List.length_cons] at hK
              obtain ⟨gb, cc, rfl, hcc, hlast⟩ := HMS.out.last
              obtain ⟨Af, cf, c0, c1, c2, c3, c4, lp, lr, fp, fr, lc, hC⟩ := HMS.out.top.cells
              simp only [mstep] at hs
              by_cases hb : 0 ≤ f.blk ∧ f.blk < f.fn.f1.length
              · rw [if_pos hb] at hs
                obtain ⟨hb0, hb1⟩ := hb
                obtain ⟨ad, A0, n0, rfl, e0, e1, e2, e3, e4, l0, g0⟩ := at_T41 hC f.blk hb0 hb1
                have e0 := pw_cell_below HMS.out.low e0
                have hl9 := g0.2.1
                have hdf : decide (fuel ≤ n8) = false := by simpa using hf
                have hst9 : (st.length : Int) ≤ 9223372036854775807 := by omega
                have hst8 : (st.length + 2) * 8 ≤ 140737488355328 := by omega
                have fp4 := fp 4
                have FP := Aside0.mk fp
                have G0 := Aside0.mk g0
                have HST := Aside0.mk hst8
                clear e1 e2 e3 e4 fp fr hC lc hf hst8
                by_cases ha : f.at_ = (rd_T41 f.fn.f1 f.blk).f0.length
                · rw [if_pos ha] at hs
                  have hs' := Aside0.mk hs
                  have ha' : (f.at_ == ((rd_T41 f.fn.f1 f.blk).f0.length : Int)) = true := beq_iff_eq.2 ha
                  clear hs ha
                  go_wp2
                  go_quiet (fail)
                  go_wp2
                  go_quiet (fail)
                  go_wp2_with fail
                  with_reducible refine (over_calls w0 _ (w.heap.size + 1 + 1 + 1) (w.heap.size + 1 + 1) m fs inp8 ws8 out8 f st 0 p r loc A c vo (.slice (some ⟨gb, 0, none⟩) (st.length + 1) cc) s9 ?hms1 hb0 hb1 hs'.out HST.out).mono ?_
                  case hms1 => repeat (first | (with_reducible exact HMS.out) | (with_reducible refine MS.drew ?_) | (with_reducible refine MS.drewN ?_ _) | (with_reducible refine MS.alloc ?_ _) | exact HMS.out)
                  rintro e w2 ⟨rfl, hA⟩
                  have HA := Aside0.mk hA
                  have HL := Aside0.mk (mover_len hs'.out)
                  clear hA
                  go_wp2
                  go_roundg k1
                  case measure => omega
                  case rel => exact ⟨n8 + 1, s9, by go_num, by omega, by omega, H', HA, ⟨by have := HL.out; omega⟩⟩
                · rw [if_neg ha] at hs
                  by_cases hat : 0 ≤ f.at_ ∧ f.at_ < (rd_T41 f.fn.f1 f.blk).f0.length
                  · rw [if_pos hat] at hs
                    obtain ⟨ha0, ha1⟩ := hat
                    obtain ⟨ad2, rfl, d0, d1, d2, d3, d4, d5, d6, d7⟩ := at_T44 G0.out f.at_ ha0 ha1
                    have hlt := World.block_lt_of_cell? w0 _ d0
                    have hge : w0.heap.size ≤ p := HMS.out.top.ge
                    have D := Aside0.mk (And.intro d0 (And.intro d1 (And.intro d2 (And.intro d3 (And.intro d4 (And.intro d5 (And.intro d6 d7)))))))
                    have hs' := Aside0.mk hs
                    have ha' : (f.at_ == ((rd_T41 f.fn.f1 f.blk).f0.length : Int)) = false := beq_eq_false_iff_ne.2 ha
                    clear hs ha hlt hge d0 d1 d2 d3 d4 d5 d6 d7
                    go_wp2
                    go_quiet (fail)
                    go_wp2
                    go_quiet (fail)
                    go_upto_region 13 with (fail)
                    generalize hw8 : World.setCell _ _ _ = w8
                    have HM8 : MS w0 w8 (w.heap.size + 1 + 1 + 1) (w.heap.size + 1 + 1) m fs ⟨inp8, ws8, out8, { f with at_ := f.at_ + 1 } :: st, 0⟩ ((p, r) :: loc) A c vo (.slice (some ⟨gb, 0, none⟩) (st.length + 1) cc) := by
                      rw [← hw8]
                      refine MS.set_at (f := f) (l := (p, r)) ?_ _
                      repeat (first | (with_reducible exact HMS.out) | (with_reducible refine MS.drew ?_) | (with_reducible refine MS.drewN ?_ _) | (with_reducible refine MS.alloc ?_ _) | exact HMS.out)
                    obtain ⟨d0, d1, d2, d3, d4, d5, d6, d7⟩ := D.out
                    have d0 := pw_cell_below HM8.low d0
                    have d1 := pw_cell_below HM8.low d1
                    have d2 := pw_cell_below HM8.low d2
                    have d3 := pw_cell_below HM8.low d3
                    have d4 := pw_cell_below HM8.low d4
                    have d5 := pw_cell_below HM8.low d5
                    have d6 := pw_cell_below HM8.low d6
                    have d7 := pw_cell_below HM8.low d7
                    clear c0 c1 c2 c3 c4 lp lr
                    obtain ⟨Af, cf', c0, c1, c2, c3, c4, lp, lr, fp, fr, lc, hC⟩ := HM8.top.cells
                    simp only at c0 c1 c2 c3 c4
                    have HMS := Aside0.mk HM8
                    clear fp fr lc hC HM8 hw8
                    go_wp2_with fail
                    with_reducible refine (do_calls2 w0 _ (w.heap.size + 1 + 1 + 1) (w.heap.size + 1 + 1) m fs inp8 ws8 out8 { f with at_ := f.at_ + 1 } st 0 p r loc A c vo (.slice (some ⟨gb, 0, none⟩) (st.length + 1) cc) (rd_T44 (rd_T41 f.fn.f1 f.blk).f0 f.at_) s9 ?hms2 hs'.out HST.out).mono ?_
                    case hms2 => repeat (first | (with_reducible exact HMS.out) | (with_reducible refine MS.drew ?_) | (with_reducible refine MS.drewN ?_ _) | (with_reducible refine MS.alloc ?_ _) | exact HMS.out)
                    rintro e w2 ⟨rfl, hA⟩
                    have HA := Aside0.mk hA
                    have HL := Aside0.mk (mdo_len hs'.out)
                    clear hA
                    go_wp2
                    go_roundg k1
                    case measure => omega
                    case rel => exact ⟨n8 + 1, s9, by go_num, by omega, by omega, H', HA, ⟨by have := HL.out; omega⟩⟩
                  · rw [if_neg hat] at hs
                    cases hs
              · rw [if_neg hb] at hs
                cases hs
      · rw [if_neg he] at H
        simp only [Option.some.injEq, Prod.mk.injEq] at H
        obtain ⟨rfl, rfl⟩ := H
        have hen : (en8 == 0) = false := beq_eq_false_iff_ne.2 he
        clear he
        clear m0 m1 m2 m3 m4 m5 m6 lg lw f6
        have HE := HMS
        clear HMS FG
        obtain ⟨Ao, co, rfl⟩ := own_slice HE.out.out
        have hRC := res_cells HW0.out HE.out.low
        have r0 := (blk_cell hRC 0).trans rfl
        have r1 := (blk_cell hRC 1).trans rfl
        have r2 := (blk_cell hRC 2).trans rfl
        have q0 := blk_frozen hRC 0
        have q1 := blk_frozen hRC 1
        have q2 := blk_frozen hRC 2
        have RC := Aside0.mk hRC
        clear hRC
        have v1 := own_string (P := Try.prog) (src := 65) (dst := 9) (e := 5) Try.underlying65 Try.underlying5 Try.underlying9 HE.out.out
        have v2 := own_string (P := Try.prog) (src := 65) (dst := 9) (e := 5) Try.underlying65 Try.underlying5 Try.underlying9 (own_drew HE.out.out)
        obtain ⟨m0, m1, m2, m3, m4, m5, m6, lg, lw, fg, fw⟩ := HE.out.cells
        simp only at m2 m3 m6
        clear fg fw
        go_wp2
        go_region
        go_wp2
        rw [Exit.noGoto_ret]
        have RF := blk_drew (blk_put (blk_put (blk_put RC.out 0 (.int .i64 en8) rfl) 1 (.string (strOfNums out8)) rfl) 2 (.int .i64 n8) rfl)
        refine bodyPost_ret (v := .agg #[.int .i64 en8, .string (strOfNums out8), .int .i64 n8]) (results_single rfl (Vals.cell (w.heap.size + 1) 28 _ (0, 0) _ rfl RF Try.underlying28 rfl (by kernel_rfl) .nil)) rfl ⟨rfl, ?_⟩
        have hh : w.heap.size ≤ w.heap.size + 1 := by omega
        exact below_drew1 (below_set (below_set (below_set (below_weaken HB.out HB.out.size HE.out.low) hh) hh) hh)
end Go.Proofs.Ytocnkjhicbmmoaa.Q
