/- block.tac: whether an instruction may be, as a function of numbers. -/
import Derived.Test.YtocnkjhicbmmoaaN8
import Derived.Test.YtocnkjhicbmmoaaQ1
import Derived.Test.YtocnkjhicbmmoaaQ38
import Derived.Test.YtocnkjhicbmmoaaQ55
import Derived.Deep.RegionWith
namespace Go.Proofs.Ytocnkjhicbmmoaa.Q
open Go.RowKit Go.Proofs.YtocnkjhicbmmoaaW.PrintWords Go.Proofs.YtocnkjhicbmmoaaW.PrintLast
attribute [local go_sem high] eqA44
set_option linter.unusedVariables false
set_option linter.unusedSimpArgs false

def sameTac (t : S44) (r : Int × Int × Int × Int × Int × Int × Int × Int) : Bool :=
  t.f0 == r.1 && (t.f1 == r.2.1 && (t.f2 == r.2.2.1 && (t.f3 == r.2.2.2.1 && (t.f4 == r.2.2.2.2.1 && (t.f5 == r.2.2.2.2.2.1 && (t.f6 == r.2.2.2.2.2.2.1 && (t.f7 == r.2.2.2.2.2.2.2)))))))

def tacL (op d : Int) (l : List Int) : List Int := if op = 1 ∨ op = 2 ∨ op = 3 ∨ op = 4 ∨ op = 6 ∨ op = 8 then l ++ [d] else l
/-- What is asked of an instruction besides its registers. -/
def tacR (nw fi op k base size : Int) : Bool :=
  if op = 1 ∨ op = 2 ∨ op = 8 ∨ op = 9 then true
  else if op = 3 then decide (4 ≤ k) && decide (k ≤ 15)
  else if op = 4 ∨ op = 5 then decide (0 ≤ base) && decide (base < nw)
  else if op = 6 ∨ op = 7 then decide (1 ≤ size) && (decide (size ≤ 4096) && (decide (0 ≤ base) && decide (base ≤ nw - size)))
  else if op = 10 then decide (0 ≤ base) && decide (base < fi)
  else false
set_option maxHeartbeats 8000000 in
set_option maxRecDepth 100000 in
theorem tac_calls (nw : Int) (fs : List S35) (A : Option Addr) (c : Nat) (fi op d a b k base size n : Int) (w : World) (hC : Kd.C k35 w A fs.length fs) (h0 : 0 ≤ fi) (h1 : fi < fs.length)
    (r1 r2 r3 r4 r5 r6 r7 r8 : Int) (hbare : block_bare.f 9 op d a b k base size n = some (r1, r2, r3, r4, r5, r6, r7, r8)) (l : List Int) (huses : block_Uses.f 9 op d a b k base size n = some l) (hll : l.length ≤ 2) (hn0 : 0 ≤ nw) (hn1 : nw ≤ 1048576) (q : Bool)
    (hq : q = ((op == r1 && (d == r2 && (a == r3 && (b == r4 && (k == r5 && (base == r6 && (size == r7 && (n == r8)))))))) && (!(tacL op d l).any (outside (rd_T35 fs fi).f0) && tacR nw fi op k base size))) :
    Calls Try.prog 50 #[.agg #[.int .i64 nw, .slice A fs.length c], .int .i64 fi, .agg #[.int .i64 op, .int .i64 d, .int .i64 a, .int .i64 b, .int .i64 k, .int .i64 base, .int .i64 size, .int .u32 n]] w fun e w' => e = .returned (.bool q) ∧ Below w.heap.size w w' := by
  obtain ⟨ad, A1, c1, rfl, e0, e1, l1, g1⟩ := at_T35 hC fi h0 h1
  have hb := World.block_lt_of_cell? w _ e0
  have HB := Aside0.mk hbare
  have HU := Aside0.mk huses
  have TS := Aside0.mk (TB.start w nw (some ad) fs.length c op d a b k base size n (rd_T35 fs fi).f0)
  have HLl := Aside0.mk hll
  have HQ := Aside0.mk hq
  clear hbare huses hC l1 g1 hll hq
  go_enter Try.func50, Try.ntmps50
  go_upto_region 2 with (fail)
  go_cut [18] (fun v18 wc => v18 = .bool (!(op == r1 && (d == r2 && (a == r3 && (b == r4 && (k == r5 && (base == r6 && (size == r7 && (n == r8)))))))))  ∧ Aside0 (TB w wc nw (some ad) fs.length c op d a b k base size n (rd_T35 fs fi).f0))
  case first =>
    go_region_with (go_at_call 76; refine (block_bare.calls 9 _ _ _ _ _ _ _ _ _ _ _ _ _ _ _ _ _ HB.out).mono ?_; rintro e w2 ⟨rfl, hb2⟩; (have TB2 : Aside0 (TB w w2 nw (some ad) fs.length c op d a b k base size n (rd_T35 fs fi).f0) := by refine ⟨TB.move ?_ hb2⟩; repeat (first | exact TS.out | refine TB.move ?_ (below_drew1 (Below.refl _ _)))); clear hb2; obtain ⟨x0, x1, x2, x3, x4, x5, x6, x7, x8, x9, x10⟩ := TB2.out.cells)
    all_goals
      go_wp2
      go_meet
      case rel => exact ⟨by simp, by refine ⟨?_⟩; repeat (first | exact TB2.out | refine TB.move ?_ (below_drew1 (Below.refl _ _)))⟩
  case rest =>
    clear TS e0 e1 hb
    obtain ⟨rfl, TC⟩ := hcut
    obtain ⟨x0, x1, x2, x3, x4, x5, x6, x7, x8, x9, x10⟩ := TC.out.cells
    cases hs : (op == r1 && (d == r2 && (a == r3 && (b == r4 && (k == r5 && (base == r6 && (size == r7 && (n == r8)))))))) with
    | false =>
      have hq := HQ.out
      rw [hs, Bool.false_and] at hq
      have HQ2 := Aside0.mk hq
      clear hs hq
      simp only [Bool.not_false]
      go_wp2
      go_ret
      exact ⟨by rw [HQ2.out]; rfl, TC.out.low⟩
    | true =>
      have hq := HQ.out
      rw [hs, Bool.true_and] at hq
      clear HQ
      have HQ := Aside0.mk hq
      clear hs hq
      simp only [Bool.not_true]
      go_wp2_with fail
      refine (block_Uses.calls 9 _ _ _ _ _ _ _ _ _ _ HU.out).mono ?_
      rintro e w2 ⟨v0, rfl, hR, hb2⟩
      have HBc := Aside0.mk hb2
      have TC2 := Aside0.mk (TC.out.move hb2)
      have HR := Aside0.mk hR
      clear hR hb2 x0 x1 x2 x3 x4 x5 x6 x7 x8 x9 x10
      obtain ⟨x0, x1, x2, x3, x4, x5, x6, x7, x8, x9, x10⟩ := TC2.out.cells
      obtain ⟨Ao, co, eo⟩ := Kd.R_slice HR.out
      subst eo
      go_upto_block 0 with (fail)
      go_cut [8] (fun v8 wd => ∃ A2 c2, v8 = .slice A2 (tacL op d l).length c2 ∧ Aside0 (TB w wd nw (some ad) fs.length c op d a b k base size n (rd_T35 fs fi).f0) ∧ Aside0 (Kd.C (Kd.int .i64) wd A2 (tacL op d l).length (tacL op d l)))
      case first =>
        by_cases e1 : op = 1
        · have b1 : (op == 1) = true := beq_iff_eq.2 e1
          have HLe := Aside0.mk (show tacL op d l = l ++ [d] by simp [tacL, e1])
          clear e1
          go_wp2_with ((with_reducible refine gate_builtin (b := .append) (xs := #[.tmp 30, .tmp 33]) rfl ?_); at_builtin; refine Kd.R_append (Kd.int .i64) (w0 := wc) wc.heap.size rfl (.tmp 30) (.tmp 33) 79 3 (.int .i64 0) 8 rfl Try.underlying79 info3 rfl (by decide) (by omega) (.slice Ao l.length co) l d [.int .i64 d] (fun _ => True) (fun _ => False) rfl rfl ?aP (fun _ hk => hk.elim) ?aF ?aO ?aB ?aS ?aL ?_; (case aP => exact rfl); (case aB => exact (by repeat (first | (with_reducible first | exact HBc.out | apply below_alloc | apply pw_below_drewN | apply below_drew1) | exact HBc.out))); (case aF => exact (fun _ _ => trivial)); (case aO => exact (by (with_reducible repeat (first | apply Kd.R_alloc | apply Kd.R_drewN | apply Kd.R_drew)); exact HR.out)); (case aS => exact (below_size (by repeat (first | (with_reducible first | exact HBc.out | apply below_alloc | apply pw_below_drewN | apply below_drew1) | exact HBc.out)))); (case aL => have := HLl.out; omega); intro v174 w4 ho hb hg hat; have HO := Aside0.mk ho; have HB4 := Aside0.mk hb; clear ho hb hg hat)
          obtain ⟨A4, c4, e4, hl4, hC4⟩ := Kd.R_reads HO.out
          subst e4
          go_meet
          case rel => rw [HLe.out]; exact ⟨_, _, rfl, ⟨TC.out.move HB4.out⟩, ⟨hC4⟩⟩
        have b1 : (op == 1) = false := beq_eq_false_iff_ne.2 e1
        by_cases e2 : op = 2
        · have b2 : (op == 2) = true := beq_iff_eq.2 e2
          have HLe := Aside0.mk (show tacL op d l = l ++ [d] by simp [tacL, e2])
          clear e2
          go_wp2_with ((with_reducible refine gate_builtin (b := .append) (xs := #[.tmp 30, .tmp 33]) rfl ?_); at_builtin; refine Kd.R_append (Kd.int .i64) (w0 := wc) wc.heap.size rfl (.tmp 30) (.tmp 33) 79 3 (.int .i64 0) 8 rfl Try.underlying79 info3 rfl (by decide) (by omega) (.slice Ao l.length co) l d [.int .i64 d] (fun _ => True) (fun _ => False) rfl rfl ?aP (fun _ hk => hk.elim) ?aF ?aO ?aB ?aS ?aL ?_; (case aP => exact rfl); (case aB => exact (by repeat (first | (with_reducible first | exact HBc.out | apply below_alloc | apply pw_below_drewN | apply below_drew1) | exact HBc.out))); (case aF => exact (fun _ _ => trivial)); (case aO => exact (by (with_reducible repeat (first | apply Kd.R_alloc | apply Kd.R_drewN | apply Kd.R_drew)); exact HR.out)); (case aS => exact (below_size (by repeat (first | (with_reducible first | exact HBc.out | apply below_alloc | apply pw_below_drewN | apply below_drew1) | exact HBc.out)))); (case aL => have := HLl.out; omega); intro v174 w4 ho hb hg hat; have HO := Aside0.mk ho; have HB4 := Aside0.mk hb; clear ho hb hg hat)
          obtain ⟨A4, c4, e4, hl4, hC4⟩ := Kd.R_reads HO.out
          subst e4
          go_meet
          case rel => rw [HLe.out]; exact ⟨_, _, rfl, ⟨TC.out.move HB4.out⟩, ⟨hC4⟩⟩
        have b2 : (op == 2) = false := beq_eq_false_iff_ne.2 e2
        by_cases e3 : op = 3
        · have b3 : (op == 3) = true := beq_iff_eq.2 e3
          have HLe := Aside0.mk (show tacL op d l = l ++ [d] by simp [tacL, e3])
          clear e3
          go_wp2_with ((with_reducible refine gate_builtin (b := .append) (xs := #[.tmp 30, .tmp 33]) rfl ?_); at_builtin; refine Kd.R_append (Kd.int .i64) (w0 := wc) wc.heap.size rfl (.tmp 30) (.tmp 33) 79 3 (.int .i64 0) 8 rfl Try.underlying79 info3 rfl (by decide) (by omega) (.slice Ao l.length co) l d [.int .i64 d] (fun _ => True) (fun _ => False) rfl rfl ?aP (fun _ hk => hk.elim) ?aF ?aO ?aB ?aS ?aL ?_; (case aP => exact rfl); (case aB => exact (by repeat (first | (with_reducible first | exact HBc.out | apply below_alloc | apply pw_below_drewN | apply below_drew1) | exact HBc.out))); (case aF => exact (fun _ _ => trivial)); (case aO => exact (by (with_reducible repeat (first | apply Kd.R_alloc | apply Kd.R_drewN | apply Kd.R_drew)); exact HR.out)); (case aS => exact (below_size (by repeat (first | (with_reducible first | exact HBc.out | apply below_alloc | apply pw_below_drewN | apply below_drew1) | exact HBc.out)))); (case aL => have := HLl.out; omega); intro v174 w4 ho hb hg hat; have HO := Aside0.mk ho; have HB4 := Aside0.mk hb; clear ho hb hg hat)
          obtain ⟨A4, c4, e4, hl4, hC4⟩ := Kd.R_reads HO.out
          subst e4
          go_meet
          case rel => rw [HLe.out]; exact ⟨_, _, rfl, ⟨TC.out.move HB4.out⟩, ⟨hC4⟩⟩
        have b3 : (op == 3) = false := beq_eq_false_iff_ne.2 e3
        by_cases e4 : op = 4
        · have b4 : (op == 4) = true := beq_iff_eq.2 e4
          have HLe := Aside0.mk (show tacL op d l = l ++ [d] by simp [tacL, e4])
          clear e4
          go_wp2_with ((with_reducible refine gate_builtin (b := .append) (xs := #[.tmp 30, .tmp 33]) rfl ?_); at_builtin; refine Kd.R_append (Kd.int .i64) (w0 := wc) wc.heap.size rfl (.tmp 30) (.tmp 33) 79 3 (.int .i64 0) 8 rfl Try.underlying79 info3 rfl (by decide) (by omega) (.slice Ao l.length co) l d [.int .i64 d] (fun _ => True) (fun _ => False) rfl rfl ?aP (fun _ hk => hk.elim) ?aF ?aO ?aB ?aS ?aL ?_; (case aP => exact rfl); (case aB => exact (by repeat (first | (with_reducible first | exact HBc.out | apply below_alloc | apply pw_below_drewN | apply below_drew1) | exact HBc.out))); (case aF => exact (fun _ _ => trivial)); (case aO => exact (by (with_reducible repeat (first | apply Kd.R_alloc | apply Kd.R_drewN | apply Kd.R_drew)); exact HR.out)); (case aS => exact (below_size (by repeat (first | (with_reducible first | exact HBc.out | apply below_alloc | apply pw_below_drewN | apply below_drew1) | exact HBc.out)))); (case aL => have := HLl.out; omega); intro v174 w4 ho hb hg hat; have HO := Aside0.mk ho; have HB4 := Aside0.mk hb; clear ho hb hg hat)
          obtain ⟨A4, c4, e4, hl4, hC4⟩ := Kd.R_reads HO.out
          subst e4
          go_meet
          case rel => rw [HLe.out]; exact ⟨_, _, rfl, ⟨TC.out.move HB4.out⟩, ⟨hC4⟩⟩
        have b4 : (op == 4) = false := beq_eq_false_iff_ne.2 e4
        by_cases e6 : op = 6
        · have b6 : (op == 6) = true := beq_iff_eq.2 e6
          have HLe := Aside0.mk (show tacL op d l = l ++ [d] by simp [tacL, e6])
          clear e6
          go_wp2_with ((with_reducible refine gate_builtin (b := .append) (xs := #[.tmp 30, .tmp 33]) rfl ?_); at_builtin; refine Kd.R_append (Kd.int .i64) (w0 := wc) wc.heap.size rfl (.tmp 30) (.tmp 33) 79 3 (.int .i64 0) 8 rfl Try.underlying79 info3 rfl (by decide) (by omega) (.slice Ao l.length co) l d [.int .i64 d] (fun _ => True) (fun _ => False) rfl rfl ?aP (fun _ hk => hk.elim) ?aF ?aO ?aB ?aS ?aL ?_; (case aP => exact rfl); (case aB => exact (by repeat (first | (with_reducible first | exact HBc.out | apply below_alloc | apply pw_below_drewN | apply below_drew1) | exact HBc.out))); (case aF => exact (fun _ _ => trivial)); (case aO => exact (by (with_reducible repeat (first | apply Kd.R_alloc | apply Kd.R_drewN | apply Kd.R_drew)); exact HR.out)); (case aS => exact (below_size (by repeat (first | (with_reducible first | exact HBc.out | apply below_alloc | apply pw_below_drewN | apply below_drew1) | exact HBc.out)))); (case aL => have := HLl.out; omega); intro v174 w4 ho hb hg hat; have HO := Aside0.mk ho; have HB4 := Aside0.mk hb; clear ho hb hg hat)
          obtain ⟨A4, c4, e4, hl4, hC4⟩ := Kd.R_reads HO.out
          subst e4
          go_meet
          case rel => rw [HLe.out]; exact ⟨_, _, rfl, ⟨TC.out.move HB4.out⟩, ⟨hC4⟩⟩
        have b6 : (op == 6) = false := beq_eq_false_iff_ne.2 e6
        by_cases e8 : op = 8
        · have b8 : (op == 8) = true := beq_iff_eq.2 e8
          have HLe := Aside0.mk (show tacL op d l = l ++ [d] by simp [tacL, e8])
          clear e8
          go_wp2_with ((with_reducible refine gate_builtin (b := .append) (xs := #[.tmp 30, .tmp 33]) rfl ?_); at_builtin; refine Kd.R_append (Kd.int .i64) (w0 := wc) wc.heap.size rfl (.tmp 30) (.tmp 33) 79 3 (.int .i64 0) 8 rfl Try.underlying79 info3 rfl (by decide) (by omega) (.slice Ao l.length co) l d [.int .i64 d] (fun _ => True) (fun _ => False) rfl rfl ?aP (fun _ hk => hk.elim) ?aF ?aO ?aB ?aS ?aL ?_; (case aP => exact rfl); (case aB => exact (by repeat (first | (with_reducible first | exact HBc.out | apply below_alloc | apply pw_below_drewN | apply below_drew1) | exact HBc.out))); (case aF => exact (fun _ _ => trivial)); (case aO => exact (by (with_reducible repeat (first | apply Kd.R_alloc | apply Kd.R_drewN | apply Kd.R_drew)); exact HR.out)); (case aS => exact (below_size (by repeat (first | (with_reducible first | exact HBc.out | apply below_alloc | apply pw_below_drewN | apply below_drew1) | exact HBc.out)))); (case aL => have := HLl.out; omega); intro v174 w4 ho hb hg hat; have HO := Aside0.mk ho; have HB4 := Aside0.mk hb; clear ho hb hg hat)
          obtain ⟨A4, c4, e4, hl4, hC4⟩ := Kd.R_reads HO.out
          subst e4
          go_meet
          case rel => rw [HLe.out]; exact ⟨_, _, rfl, ⟨TC.out.move HB4.out⟩, ⟨hC4⟩⟩
        have b8 : (op == 8) = false := beq_eq_false_iff_ne.2 e8
        have HLe := Aside0.mk (show tacL op d l = l by simp [tacL, e1, e2, e3, e4, e6, e8])
        clear e1 e2 e3 e4 e6 e8
        go_wp2
        obtain ⟨A4, c4, e4, hl4, hC4⟩ := Kd.R_reads HR.out
        injection e4 with e4 _ e5
        subst e4
        go_meet
        case rel => rw [HLe.out]; exact ⟨_, _, rfl, TC2, ⟨hC4⟩⟩
      case rest =>
        clear TC TC2 HR HBc x0 x1 x2 x3 x4 x5 x6 x7 x8 x9 x10
        obtain ⟨A2, c2, rfl, TC, HL⟩ := hcut
        obtain ⟨x0, x1, x2, x3, x4, x5, x6, x7, x8, x9, x10⟩ := TC.out.cells
        go_wp2_with fail
        with_reducible refine (has_int (tacL op d l) A2 c2 (rd_T35 fs fi).f0 (w.heap.size + 2) _ ?hl1 ?hl2).mono ?_
        case hl1 => exact HL.out
        case hl2 => exact x9
        rintro e w3 ⟨rfl, hd⟩
        have TC3 := Aside0.mk (TC.out.move hd.below)
        clear hd TC x0 x1 x2 x3 x4 x5 x6 x7 x8 x9 x10
        obtain ⟨x0, x1, x2, x3, x4, x5, x6, x7, x8, x9, x10⟩ := TC3.out.cells
        cases hany : (tacL op d l).any (outside (rd_T35 fs fi).f0) with
        | true =>
          have HA := Aside0.mk hany
          clear hany
          go_wp2
          go_ret
          refine ⟨?_, TC3.out.low⟩
          have h := HQ.out
          rw [HA.out] at h
          rw [h]
          simp
        | false =>
          have HA := Aside0.mk hany
          clear hany
          by_cases e1 : op = 1
          · have b1 : (op == 1) = true := beq_iff_eq.2 e1
            have HE := Aside0.mk e1
            clear e1
            go_wp2
            repeat (go_quiet (fail); try go_wp2)
            go_ret
            refine ⟨?_, by repeat (first | exact TC3.out.low | apply below_drew1 | apply pw_below_drewN)⟩
            have h := HQ.out
            rw [HA.out] at h
            rw [h]
            first | (simp [tacR, HE.out]; done) | (simp [tacR, HE.out]; omega)
          have b1 : (op == 1) = false := beq_eq_false_iff_ne.2 e1
          by_cases e2 : op = 2
          · have b2 : (op == 2) = true := beq_iff_eq.2 e2
            have HE := Aside0.mk e2
            clear e2; (try clear e1)
            go_wp2
            repeat (go_quiet (fail); try go_wp2)
            go_ret
            refine ⟨?_, by repeat (first | exact TC3.out.low | apply below_drew1 | apply pw_below_drewN)⟩
            have h := HQ.out
            rw [HA.out] at h
            rw [h]
            first | (simp [tacR, HE.out]; done) | (simp [tacR, HE.out]; omega)
          have b2 : (op == 2) = false := beq_eq_false_iff_ne.2 e2
          by_cases e8 : op = 8
          · have b8 : (op == 8) = true := beq_iff_eq.2 e8
            have HE := Aside0.mk e8
            clear e8; (try clear e1); (try clear e2)
            go_wp2
            repeat (go_quiet (fail); try go_wp2)
            go_ret
            refine ⟨?_, by repeat (first | exact TC3.out.low | apply below_drew1 | apply pw_below_drewN)⟩
            have h := HQ.out
            rw [HA.out] at h
            rw [h]
            first | (simp [tacR, HE.out]; done) | (simp [tacR, HE.out]; omega)
          have b8 : (op == 8) = false := beq_eq_false_iff_ne.2 e8
          by_cases e9 : op = 9
          · have b9 : (op == 9) = true := beq_iff_eq.2 e9
            have HE := Aside0.mk e9
            clear e9; (try clear e1); (try clear e2); (try clear e8)
            go_wp2
            repeat (go_quiet (fail); try go_wp2)
            go_ret
            refine ⟨?_, by repeat (first | exact TC3.out.low | apply below_drew1 | apply pw_below_drewN)⟩
            have h := HQ.out
            rw [HA.out] at h
            rw [h]
            first | (simp [tacR, HE.out]; done) | (simp [tacR, HE.out]; omega)
          have b9 : (op == 9) = false := beq_eq_false_iff_ne.2 e9
          by_cases e3 : op = 3
          · have b3 : (op == 3) = true := beq_iff_eq.2 e3
            have HE := Aside0.mk e3
            clear e3; (try clear e1); (try clear e2); (try clear e8); (try clear e9)
            by_cases c0 : 4 ≤ k
            · have dc0 : decide (4 ≤ k) = true := by simpa using c0
              have Hc0 := Aside0.mk c0
              clear c0
              by_cases c1 : k ≤ 15
              · have dc1 : decide (k ≤ 15) = true := by simpa using c1
                have Hc1 := Aside0.mk c1
                clear c1
                go_wp2
                repeat (go_quiet (fail); try go_wp2)
                go_ret
                refine ⟨?_, by repeat (first | exact TC3.out.low | apply below_drew1 | apply pw_below_drewN)⟩
                have h := HQ.out
                rw [HA.out] at h
                rw [h]
                have g0 := Hc0.out
                have g1 := Hc1.out
                first | (simp [tacR, HE.out, Hc0.out, Hc1.out]; done) | (simp [tacR, HE.out, Hc0.out, Hc1.out]; omega)
              · have dc1 : decide (k ≤ 15) = false := by simp; omega
                have Hc1 := Aside0.mk c1
                clear c1
                go_wp2
                repeat (go_quiet (fail); try go_wp2)
                go_ret
                refine ⟨?_, by repeat (first | exact TC3.out.low | apply below_drew1 | apply pw_below_drewN)⟩
                have h := HQ.out
                rw [HA.out] at h
                rw [h]
                have g0 := Hc0.out
                have g1 := Hc1.out
                first | (simp [tacR, HE.out, Hc0.out, Hc1.out]; done) | (simp [tacR, HE.out, Hc0.out, Hc1.out]; omega)
            · have dc0 : decide (4 ≤ k) = false := by simp; omega
              have Hc0 := Aside0.mk c0
              clear c0
              go_wp2
              repeat (go_quiet (fail); try go_wp2)
              go_ret
              refine ⟨?_, by repeat (first | exact TC3.out.low | apply below_drew1 | apply pw_below_drewN)⟩
              have h := HQ.out
              rw [HA.out] at h
              rw [h]
              have g0 := Hc0.out
              first | (simp [tacR, HE.out, Hc0.out]; done) | (simp [tacR, HE.out, Hc0.out]; omega)
          have b3 : (op == 3) = false := beq_eq_false_iff_ne.2 e3
          by_cases e4 : op = 4
          · have b4 : (op == 4) = true := beq_iff_eq.2 e4
            have HE := Aside0.mk e4
            clear e4; (try clear e1); (try clear e2); (try clear e8); (try clear e9); (try clear e3)
            by_cases c0 : 0 ≤ base
            · have dc0 : decide (0 ≤ base) = true := by simpa using c0
              have Hc0 := Aside0.mk c0
              clear c0
              by_cases c1 : base < nw
              · have dc1 : decide (base < nw) = true := by simpa using c1
                have Hc1 := Aside0.mk c1
                clear c1
                go_wp2
                repeat (go_quiet (fail); try go_wp2)
                go_ret
                refine ⟨?_, by repeat (first | exact TC3.out.low | apply below_drew1 | apply pw_below_drewN)⟩
                have h := HQ.out
                rw [HA.out] at h
                rw [h]
                have g0 := Hc0.out
                have g1 := Hc1.out
                first | (simp [tacR, HE.out, Hc0.out, Hc1.out]; done) | (simp [tacR, HE.out, Hc0.out, Hc1.out]; omega)
              · have dc1 : decide (base < nw) = false := by simp; omega
                have Hc1 := Aside0.mk c1
                clear c1
                go_wp2
                repeat (go_quiet (fail); try go_wp2)
                go_ret
                refine ⟨?_, by repeat (first | exact TC3.out.low | apply below_drew1 | apply pw_below_drewN)⟩
                have h := HQ.out
                rw [HA.out] at h
                rw [h]
                have g0 := Hc0.out
                have g1 := Hc1.out
                first | (simp [tacR, HE.out, Hc0.out, Hc1.out]; done) | (simp [tacR, HE.out, Hc0.out, Hc1.out]; omega)
            · have dc0 : decide (0 ≤ base) = false := by simp; omega
              have Hc0 := Aside0.mk c0
              clear c0
              go_wp2
              repeat (go_quiet (fail); try go_wp2)
              go_ret
              refine ⟨?_, by repeat (first | exact TC3.out.low | apply below_drew1 | apply pw_below_drewN)⟩
              have h := HQ.out
              rw [HA.out] at h
              rw [h]
              have g0 := Hc0.out
              first | (simp [tacR, HE.out, Hc0.out]; done) | (simp [tacR, HE.out, Hc0.out]; omega)
          have b4 : (op == 4) = false := beq_eq_false_iff_ne.2 e4
          by_cases e5 : op = 5
          · have b5 : (op == 5) = true := beq_iff_eq.2 e5
            have HE := Aside0.mk e5
            clear e5; (try clear e1); (try clear e2); (try clear e8); (try clear e9); (try clear e3); (try clear e4)
            by_cases c0 : 0 ≤ base
            · have dc0 : decide (0 ≤ base) = true := by simpa using c0
              have Hc0 := Aside0.mk c0
              clear c0
              by_cases c1 : base < nw
              · have dc1 : decide (base < nw) = true := by simpa using c1
                have Hc1 := Aside0.mk c1
                clear c1
                go_wp2
                repeat (go_quiet (fail); try go_wp2)
                go_ret
                refine ⟨?_, by repeat (first | exact TC3.out.low | apply below_drew1 | apply pw_below_drewN)⟩
                have h := HQ.out
                rw [HA.out] at h
                rw [h]
                have g0 := Hc0.out
                have g1 := Hc1.out
                first | (simp [tacR, HE.out, Hc0.out, Hc1.out]; done) | (simp [tacR, HE.out, Hc0.out, Hc1.out]; omega)
              · have dc1 : decide (base < nw) = false := by simp; omega
                have Hc1 := Aside0.mk c1
                clear c1
                go_wp2
                repeat (go_quiet (fail); try go_wp2)
                go_ret
                refine ⟨?_, by repeat (first | exact TC3.out.low | apply below_drew1 | apply pw_below_drewN)⟩
                have h := HQ.out
                rw [HA.out] at h
                rw [h]
                have g0 := Hc0.out
                have g1 := Hc1.out
                first | (simp [tacR, HE.out, Hc0.out, Hc1.out]; done) | (simp [tacR, HE.out, Hc0.out, Hc1.out]; omega)
            · have dc0 : decide (0 ≤ base) = false := by simp; omega
              have Hc0 := Aside0.mk c0
              clear c0
              go_wp2
              repeat (go_quiet (fail); try go_wp2)
              go_ret
              refine ⟨?_, by repeat (first | exact TC3.out.low | apply below_drew1 | apply pw_below_drewN)⟩
              have h := HQ.out
              rw [HA.out] at h
              rw [h]
              have g0 := Hc0.out
              first | (simp [tacR, HE.out, Hc0.out]; done) | (simp [tacR, HE.out, Hc0.out]; omega)
          have b5 : (op == 5) = false := beq_eq_false_iff_ne.2 e5
          by_cases e6 : op = 6
          · have b6 : (op == 6) = true := beq_iff_eq.2 e6
            have HE := Aside0.mk e6
            clear e6; (try clear e1); (try clear e2); (try clear e8); (try clear e9); (try clear e3); (try clear e4); (try clear e5)
            by_cases c0 : 1 ≤ size
            · have dc0 : decide (1 ≤ size) = true := by simpa using c0
              have Hc0 := Aside0.mk c0
              clear c0
              by_cases c1 : size ≤ 4096
              · have dc1 : decide (size ≤ 4096) = true := by simpa using c1
                have Hc1 := Aside0.mk c1
                clear c1
                have hwr : wrap64 (nw - size) = nw - size := by have := Hc0.out; have := Hc1.out; unfold wrap64; omega
                by_cases c2 : 0 ≤ base
                · have dc2 : decide (0 ≤ base) = true := by simpa using c2
                  have Hc2 := Aside0.mk c2
                  clear c2
                  by_cases c3 : base ≤ nw - size
                  · have dc3 : decide (base ≤ nw - size) = true := by simpa using c3
                    have Hc3 := Aside0.mk c3
                    clear c3
                    go_wp2
                    repeat (go_quiet (fail); try go_wp2)
                    go_ret
                    refine ⟨?_, by repeat (first | exact TC3.out.low | apply below_drew1 | apply pw_below_drewN)⟩
                    have h := HQ.out
                    rw [HA.out] at h
                    rw [h]
                    have g0 := Hc0.out
                    have g1 := Hc1.out
                    have g2 := Hc2.out
                    have g3 := Hc3.out
                    first | (simp [tacR, HE.out, Hc0.out, Hc1.out, Hc2.out, Hc3.out]; done) | (simp [tacR, HE.out, Hc0.out, Hc1.out, Hc2.out, Hc3.out]; omega)
                  · have dc3 : decide (base ≤ nw - size) = false := by simp; omega
                    have Hc3 := Aside0.mk c3
                    clear c3
                    go_wp2
                    repeat (go_quiet (fail); try go_wp2)
                    go_ret
                    refine ⟨?_, by repeat (first | exact TC3.out.low | apply below_drew1 | apply pw_below_drewN)⟩
                    have h := HQ.out
                    rw [HA.out] at h
                    rw [h]
                    have g0 := Hc0.out
                    have g1 := Hc1.out
                    have g2 := Hc2.out
                    have g3 := Hc3.out
                    first | (simp [tacR, HE.out, Hc0.out, Hc1.out, Hc2.out, Hc3.out]; done) | (simp [tacR, HE.out, Hc0.out, Hc1.out, Hc2.out, Hc3.out]; omega)
                · have dc2 : decide (0 ≤ base) = false := by simp; omega
                  have Hc2 := Aside0.mk c2
                  clear c2
                  go_wp2
                  repeat (go_quiet (fail); try go_wp2)
                  go_ret
                  refine ⟨?_, by repeat (first | exact TC3.out.low | apply below_drew1 | apply pw_below_drewN)⟩
                  have h := HQ.out
                  rw [HA.out] at h
                  rw [h]
                  have g0 := Hc0.out
                  have g1 := Hc1.out
                  have g2 := Hc2.out
                  first | (simp [tacR, HE.out, Hc0.out, Hc1.out, Hc2.out]; done) | (simp [tacR, HE.out, Hc0.out, Hc1.out, Hc2.out]; omega)
              · have dc1 : decide (size ≤ 4096) = false := by simp; omega
                have Hc1 := Aside0.mk c1
                clear c1
                go_wp2
                repeat (go_quiet (fail); try go_wp2)
                go_ret
                refine ⟨?_, by repeat (first | exact TC3.out.low | apply below_drew1 | apply pw_below_drewN)⟩
                have h := HQ.out
                rw [HA.out] at h
                rw [h]
                have g0 := Hc0.out
                have g1 := Hc1.out
                first | (simp [tacR, HE.out, Hc0.out, Hc1.out]; done) | (simp [tacR, HE.out, Hc0.out, Hc1.out]; omega)
            · have dc0 : decide (1 ≤ size) = false := by simp; omega
              have Hc0 := Aside0.mk c0
              clear c0
              go_wp2
              repeat (go_quiet (fail); try go_wp2)
              go_ret
              refine ⟨?_, by repeat (first | exact TC3.out.low | apply below_drew1 | apply pw_below_drewN)⟩
              have h := HQ.out
              rw [HA.out] at h
              rw [h]
              have g0 := Hc0.out
              first | (simp [tacR, HE.out, Hc0.out]; done) | (simp [tacR, HE.out, Hc0.out]; omega)
          have b6 : (op == 6) = false := beq_eq_false_iff_ne.2 e6
          by_cases e7 : op = 7
          · have b7 : (op == 7) = true := beq_iff_eq.2 e7
            have HE := Aside0.mk e7
            clear e7; (try clear e1); (try clear e2); (try clear e8); (try clear e9); (try clear e3); (try clear e4); (try clear e5); (try clear e6)
            by_cases c0 : 1 ≤ size
            · have dc0 : decide (1 ≤ size) = true := by simpa using c0
              have Hc0 := Aside0.mk c0
              clear c0
              by_cases c1 : size ≤ 4096
              · have dc1 : decide (size ≤ 4096) = true := by simpa using c1
                have Hc1 := Aside0.mk c1
                clear c1
                have hwr : wrap64 (nw - size) = nw - size := by have := Hc0.out; have := Hc1.out; unfold wrap64; omega
                by_cases c2 : 0 ≤ base
                · have dc2 : decide (0 ≤ base) = true := by simpa using c2
                  have Hc2 := Aside0.mk c2
                  clear c2
                  by_cases c3 : base ≤ nw - size
                  · have dc3 : decide (base ≤ nw - size) = true := by simpa using c3
                    have Hc3 := Aside0.mk c3
                    clear c3
                    go_wp2
                    repeat (go_quiet (fail); try go_wp2)
                    go_ret
                    refine ⟨?_, by repeat (first | exact TC3.out.low | apply below_drew1 | apply pw_below_drewN)⟩
                    have h := HQ.out
                    rw [HA.out] at h
                    rw [h]
                    have g0 := Hc0.out
                    have g1 := Hc1.out
                    have g2 := Hc2.out
                    have g3 := Hc3.out
                    first | (simp [tacR, HE.out, Hc0.out, Hc1.out, Hc2.out, Hc3.out]; done) | (simp [tacR, HE.out, Hc0.out, Hc1.out, Hc2.out, Hc3.out]; omega)
                  · have dc3 : decide (base ≤ nw - size) = false := by simp; omega
                    have Hc3 := Aside0.mk c3
                    clear c3
                    go_wp2
                    repeat (go_quiet (fail); try go_wp2)
                    go_ret
                    refine ⟨?_, by repeat (first | exact TC3.out.low | apply below_drew1 | apply pw_below_drewN)⟩
                    have h := HQ.out
                    rw [HA.out] at h
                    rw [h]
                    have g0 := Hc0.out
                    have g1 := Hc1.out
                    have g2 := Hc2.out
                    have g3 := Hc3.out
                    first | (simp [tacR, HE.out, Hc0.out, Hc1.out, Hc2.out, Hc3.out]; done) | (simp [tacR, HE.out, Hc0.out, Hc1.out, Hc2.out, Hc3.out]; omega)
                · have dc2 : decide (0 ≤ base) = false := by simp; omega
                  have Hc2 := Aside0.mk c2
                  clear c2
                  go_wp2
                  repeat (go_quiet (fail); try go_wp2)
                  go_ret
                  refine ⟨?_, by repeat (first | exact TC3.out.low | apply below_drew1 | apply pw_below_drewN)⟩
                  have h := HQ.out
                  rw [HA.out] at h
                  rw [h]
                  have g0 := Hc0.out
                  have g1 := Hc1.out
                  have g2 := Hc2.out
                  first | (simp [tacR, HE.out, Hc0.out, Hc1.out, Hc2.out]; done) | (simp [tacR, HE.out, Hc0.out, Hc1.out, Hc2.out]; omega)
              · have dc1 : decide (size ≤ 4096) = false := by simp; omega
                have Hc1 := Aside0.mk c1
                clear c1
                go_wp2
                repeat (go_quiet (fail); try go_wp2)
                go_ret
                refine ⟨?_, by repeat (first | exact TC3.out.low | apply below_drew1 | apply pw_below_drewN)⟩
                have h := HQ.out
                rw [HA.out] at h
                rw [h]
                have g0 := Hc0.out
                have g1 := Hc1.out
                first | (simp [tacR, HE.out, Hc0.out, Hc1.out]; done) | (simp [tacR, HE.out, Hc0.out, Hc1.out]; omega)
            · have dc0 : decide (1 ≤ size) = false := by simp; omega
              have Hc0 := Aside0.mk c0
              clear c0
              go_wp2
              repeat (go_quiet (fail); try go_wp2)
              go_ret
              refine ⟨?_, by repeat (first | exact TC3.out.low | apply below_drew1 | apply pw_below_drewN)⟩
              have h := HQ.out
              rw [HA.out] at h
              rw [h]
              have g0 := Hc0.out
              first | (simp [tacR, HE.out, Hc0.out]; done) | (simp [tacR, HE.out, Hc0.out]; omega)
          have b7 : (op == 7) = false := beq_eq_false_iff_ne.2 e7
          by_cases e10 : op = 10
          · have b10 : (op == 10) = true := beq_iff_eq.2 e10
            have HE := Aside0.mk e10
            clear e10; (try clear e1); (try clear e2); (try clear e8); (try clear e9); (try clear e3); (try clear e4); (try clear e5); (try clear e6); (try clear e7)
            by_cases c0 : 0 ≤ base
            · have dc0 : decide (0 ≤ base) = true := by simpa using c0
              have Hc0 := Aside0.mk c0
              clear c0
              by_cases c1 : base < fi
              · have dc1 : decide (base < fi) = true := by simpa using c1
                have Hc1 := Aside0.mk c1
                clear c1
                go_wp2
                repeat (go_quiet (fail); try go_wp2)
                go_ret
                refine ⟨?_, by repeat (first | exact TC3.out.low | apply below_drew1 | apply pw_below_drewN)⟩
                have h := HQ.out
                rw [HA.out] at h
                rw [h]
                have g0 := Hc0.out
                have g1 := Hc1.out
                first | (simp [tacR, HE.out, Hc0.out, Hc1.out]; done) | (simp [tacR, HE.out, Hc0.out, Hc1.out]; omega)
              · have dc1 : decide (base < fi) = false := by simp; omega
                have Hc1 := Aside0.mk c1
                clear c1
                go_wp2
                repeat (go_quiet (fail); try go_wp2)
                go_ret
                refine ⟨?_, by repeat (first | exact TC3.out.low | apply below_drew1 | apply pw_below_drewN)⟩
                have h := HQ.out
                rw [HA.out] at h
                rw [h]
                have g0 := Hc0.out
                have g1 := Hc1.out
                first | (simp [tacR, HE.out, Hc0.out, Hc1.out]; done) | (simp [tacR, HE.out, Hc0.out, Hc1.out]; omega)
            · have dc0 : decide (0 ≤ base) = false := by simp; omega
              have Hc0 := Aside0.mk c0
              clear c0
              go_wp2
              repeat (go_quiet (fail); try go_wp2)
              go_ret
              refine ⟨?_, by repeat (first | exact TC3.out.low | apply below_drew1 | apply pw_below_drewN)⟩
              have h := HQ.out
              rw [HA.out] at h
              rw [h]
              have g0 := Hc0.out
              first | (simp [tacR, HE.out, Hc0.out]; done) | (simp [tacR, HE.out, Hc0.out]; omega)
          have b10 : (op == 10) = false := beq_eq_false_iff_ne.2 e10
          have HE1 := Aside0.mk e1
          clear e1
          have HE2 := Aside0.mk e2
          clear e2
          have HE8 := Aside0.mk e8
          clear e8
          have HE9 := Aside0.mk e9
          clear e9
          have HE3 := Aside0.mk e3
          clear e3
          have HE4 := Aside0.mk e4
          clear e4
          have HE5 := Aside0.mk e5
          clear e5
          have HE6 := Aside0.mk e6
          clear e6
          have HE7 := Aside0.mk e7
          clear e7
          have HE10 := Aside0.mk e10
          clear e10
          go_wp2
          repeat (go_quiet (fail); try go_wp2)
          go_ret
          refine ⟨?_, by repeat (first | exact TC3.out.low | apply below_drew1 | apply pw_below_drewN)⟩
          have h := HQ.out
          rw [HA.out] at h
          rw [h]
          first | (simp [tacR, HE1.out, HE2.out, HE8.out, HE9.out, HE3.out, HE4.out, HE5.out, HE6.out, HE7.out, HE10.out]; done) | (simp [tacR, HE1.out, HE2.out, HE8.out, HE9.out, HE3.out, HE4.out, HE5.out, HE6.out, HE7.out, HE10.out]; omega)
end Go.Proofs.Ytocnkjhicbmmoaa.Q
