/- seedcornref01.both: bit by bit. -/
import Derived.Test.YtocnkjhicbmmoaaQ0
import Derived.Test.YtocnkjhicbmmoaaQ18
namespace Go.Proofs.Ytocnkjhicbmmoaa.Q
open Go.RowKit Go.Proofs.YtocnkjhicbmmoaaW.PrintWords Go.Proofs.YtocnkjhicbmmoaaW.PrintLast
set_option linter.unusedVariables false
set_option linter.unusedSimpArgs false

/-- A bit out of the sum of two. -/
def bo (op n : Int) : Int := if (n = 2 ∧ op ≠ 11) ∨ (n = 1 ∧ op ≠ 9) then 1 else 0
def bothL (op : Int) (xs ys : List Int) : List Int := List.zipWith (fun x y => bo op (x + y)) xs ys
def Bits32 (xs : List Int) : Prop := xs.length = 32 ∧ ∀ x ∈ xs, 0 ≤ x ∧ x ≤ 1
instance (xs : List Int) : Decidable (Bits32 xs) := by unfold Bits32; infer_instance
def seedcornref01_both.f (k : Nat) (a0 : Int) (a1 : Int) (a2 : Int) : Option (Int) :=
  (seedcornref01_Bits.f k a1).bind fun ta => (seedcornref01_Bits.f k a2).bind fun tb => if Bits32 ta ∧ Bits32 tb then seedcornref01_Of.f k (bothL a0 ta tb) else none
theorem seedcornref01_both.mono : ∀ a0 a1 a2 k, LeO (seedcornref01_both.f k a0 a1 a2) (seedcornref01_both.f (k + 1) a0 a1 a2) := by
  intro a0 a1 a2 k
  unfold seedcornref01_both.f
  exact LeO.bind (seedcornref01_Bits.mono _ _) fun _ => LeO.bind (seedcornref01_Bits.mono _ _) fun _ => LeO.ite (seedcornref01_Of.mono _ _) (LeO.refl _)

/-- A row of whole numbers that stands in a block. -/
def BL (W : World) (g : Nat) (xs : List Int) : Prop := ∃ cs, W.heap[g]? = some (.cells cs 3 (0, 0)) ∧ ∀ (j : Nat) x, xs[j]? = some x → cs[j]? = some (.int .i64 x)
theorem BL.below {W W1 : World} {g : Nat} {xs : List Int} (h : BL W g xs) (hb : Below W.heap.size W W1) : BL W1 g xs := let ⟨cs, h1, h2⟩ := h; ⟨cs, blk_below h1 hb, h2⟩
theorem BL.drewN {W : World} {g : Nat} {xs : List Int} (h : BL W g xs) (n : Nat) : BL (W.drewN n) g xs := h.below (pw_below_drewN (Below.refl _ _) n)
theorem BL.drew {W : World} {g : Nat} {xs : List Int} (h : BL W g xs) : BL W.drew g xs := h.below (below_drew1 (Below.refl _ _))
theorem BL.lt {W : World} {g : Nat} {xs : List Int} (h : BL W g xs) : g < W.heap.size := let ⟨_, h1, _⟩ := h; blk_lt h1
theorem BL.cell {W : World} {g : Nat} {xs : List Int} (h : BL W g xs) {j : Nat} {x : Int} (hx : xs[j]? = some x) : W.cell? ⟨g, j, none⟩ = some (.int .i64 x) ∧ W.frozen? ⟨g, j, none⟩ = false := by
  obtain ⟨cs, h1, h2⟩ := h
  exact ⟨(blk_cell h1 j).trans (h2 j x hx), blk_frozen h1 j⟩
theorem BL.set {W : World} {g : Nat} {xs : List Int} (h : BL W g xs) (i : Nat) (u : Int) : BL (W.setCell ⟨g, i, none⟩ (.int .i64 u)) g (xs.set i u) := by
  obtain ⟨cs, h1, h2⟩ := h
  refine ⟨_, blk_put h1 i _ rfl, fun j x hx => ?_⟩
  rw [List.getElem?_set] at hx
  rw [Array.getElem?_setIfInBounds]
  split at hx
  · rename_i hij
    subst hij
    split at hx
    · rename_i hl
      injection hx with hx
      subst hx
      rw [if_pos rfl]
      have h3 := h2 i _ (List.getElem?_eq_getElem hl)
      have h4 := (Array.getElem?_eq_some_iff.1 h3).1
      rw [if_pos h4]
    · cases hx
  · rename_i hij
    rw [if_neg hij]
    exact h2 j x hx
theorem BL.far {W : World} {g g2 : Nat} {xs : List Int} (h : BL W g xs) (hn : g ≠ g2) (i : Nat) (u : Value) : BL (W.setCell ⟨g2, i, none⟩ u) g xs := by
  obtain ⟨cs, h1, h2⟩ := h
  exact ⟨cs, blk_far h1 hn u, h2⟩
theorem BL.reads {W : World} {g : Nat} {xs : List Int} (h : BL W g xs) (hl : xs.length ≤ 9223372036854775807) : Kd.C (Kd.int .i64) W (some ⟨g, 0, none⟩) xs.length xs := by
  refine ⟨rfl, hl, fun _ => ⟨_, rfl, fun j p hj => ⟨[.int .i64 p], rfl, rfl, fun i u hu => ?_⟩⟩⟩
  match i, hu with
  | 0, hu =>
    simp at hu
    subst hu
    have ha : (⟨g, 0, none⟩ : Addr).add (j * (Kd.int .i64).sz + 0) = ⟨g, j, none⟩ := by
      have : (Kd.int .i64).sz = 1 := rfl
      rw [this]
      unfold Addr.add
      split <;> simp_all
    rw [ha]
    exact (h.cell hj).1
theorem bl_of {w W : World} {base : Nat} {v : Value} {xs : List Int} (h : Kd.R (Kd.int .i64) 3 W base (fun _ => True) v xs) (hp : 0 < xs.length) : ∃ g c, v = .slice (some ⟨g, 0, none⟩) xs.length c ∧ base ≤ g ∧ xs.length ≤ c ∧ BL W g xs := by
  obtain ⟨hl, ho⟩ := Kd.own_of_R h
  rcases ho with ⟨_, h0⟩ | ⟨g, cap, cur, rfl, hb, hh, hc, _, hs, ht⟩
  · omega
  · refine ⟨g, cap, rfl, hb, hc, cur, hh, fun j x hx => ?_⟩
    have hj : j < xs.length := (List.getElem?_eq_some_iff.1 hx).1
    have h2 : (cur.toList.take (xs.length * 1))[j]? = some (.int .i64 x) := by
      rw [ht]
      simp [encs, hx]
    rw [List.getElem?_take, if_pos (by omega)] at h2
    simpa using h2

theorem bit_cases {x : Int} (h : 0 ≤ x ∧ x ≤ 1) : x = 0 ∨ x = 1 := by omega
set_option maxHeartbeats 8000000 in
set_option maxRecDepth 100000 in
theorem both_calls (k : Nat) (op a b : Int) (r : Int) (w : World) (ta tb : List Int) (ha : seedcornref01_Bits.f k a = some ta) (hb : seedcornref01_Bits.f k b = some tb) (h1 : Bits32 ta) (h2 : Bits32 tb) (hr : seedcornref01_Of.f k (bothL op ta tb) = some r) :
    Calls Try.prog 104 #[.int .i64 op, .int .u32 a, .int .u32 b] w fun e w' => e = .returned (.int .u32 r) ∧ Below w.heap.size w w' := by
  have HA := Aside0.mk ha
  have HB := Aside0.mk hb
  have H1 := Aside0.mk h1
  have H2 := Aside0.mk h2
  have HR := Aside0.mk hr
  clear ha hb h1 h2 hr
  go_enter Try.func104, Try.ntmps104
  go_wp2_with fail
  refine (seedcornref01_Bits.calls k a ta _ HA.out).mono ?_
  rintro e w1 ⟨v0, rfl, hR1, hb1⟩
  obtain ⟨gx, cx, rfl, hgx, hcx, hX⟩ := bl_of (w := w) hR1 (by have := H1.out.1; omega)
  have HX := Aside0.mk hX
  have HB1 := Aside0.mk hb1
  have hgx1 := hX.lt
  clear hR1 hb1 hX
  go_wp2_with fail
  refine (seedcornref01_Bits.calls k b tb _ HB.out).mono ?_
  rintro e w2 ⟨v1, rfl, hR2, hb2⟩
  obtain ⟨gy, cy, rfl, hgy, hcy, hY⟩ := bl_of (w := w) hR2 (by have := H2.out.1; omega)
  have HY := Aside0.mk hY
  have HX2 := Aside0.mk (HX.out.below hb2)
  have HB2 := Aside0.mk (below_step HB1.out hb2)
  have HN := Aside0.mk (show gy ≠ gx by omega)
  have HL1 := Aside0.mk H1.out.1
  have HL2 := Aside0.mk H2.out.1
  have HGX := Aside0.mk hgx
  clear hR2 hb2 hY HX HB1 hgx hgx1 hgy
  rw [H1.out.1, H2.out.1]
  have HCX := Aside0.mk (show 32 ≤ cx by have := H1.out.1; omega)
  clear hcx hcy
  go_wp2
  go_loopw [9] (fun v9 w' => ∃ (i : Nat) (xs : List Int), i ≤ 32 ∧ v9 = .int .i64 i ∧ Aside0 (xs.length = 32 ∧ ∀ j, j < 32 → xs.getD j 0 = if j < i then bo op (ta.getD j 0 + tb.getD j 0) else ta.getD j 0) ∧ Aside0 (BL w' gx xs) ∧ Aside0 (BL w' gy tb) ∧ Aside0 (Below w.heap.size w w')) (fun v9 _ => 32 - (intOf v9).toNat)
  case atStart => exact ⟨0, ta, by omega, rfl, ⟨HL1.out, fun j hj => by simp⟩, HX2, HY, HB2⟩
  case round =>
    clear HX2 HY HB2
    obtain ⟨i, xs, hi, rfl, HI, HX, HY, HW⟩ := hrel
    by_cases hlt : i < 32
    · obtain ⟨hx, hxf⟩ := HX.out.cell (j := i) (x := xs.getD i 0) (by have := HI.out.1; rw [List.getD_eq_getElem?_getD, List.getElem?_eq_getElem (show i < xs.length by omega)]; rfl)
      obtain ⟨hy, hyf⟩ := HY.out.cell (j := i) (x := tb.getD i 0) (by have := HL2.out; rw [List.getD_eq_getElem?_getD, List.getElem?_eq_getElem (show i < tb.length by omega)]; rfl)
      have hxe : xs.getD i 0 = ta.getD i 0 := by have := HI.out.2 i hlt; rw [if_neg (Nat.lt_irrefl i)] at this; exact this
      rw [hxe] at hx
      have hxb := bit_cases (x := ta.getD i 0) (H1.out.2 _ (by have := HL1.out; rw [List.getD_eq_getElem?_getD, List.getElem?_eq_getElem (show i < ta.length by omega)]; exact List.getElem_mem _))
      have hyb := bit_cases (x := tb.getD i 0) (H2.out.2 _ (by have := HL2.out; rw [List.getD_eq_getElem?_getD, List.getElem?_eq_getElem (show i < tb.length by omega)]; exact List.getElem_mem _))
      have hgl := HX.out.lt
      have NXT : ∀ v, v = bo op (ta.getD i 0 + tb.getD i 0) → ∀ l : List Int, l = xs.set i v → (l.length = 32 ∧ ∀ j, j < 32 → l.getD j 0 = if j < i + 1 then bo op (ta.getD j 0 + tb.getD j 0) else ta.getD j 0) := by
        intro v hv l hl
        subst hl
        refine ⟨by rw [List.length_set]; exact HI.out.1, fun j hj => ?_⟩
        rw [List.getD_eq_getElem?_getD, List.getElem?_set]
        by_cases hij : i = j
        · subst hij
          rw [if_pos rfl, if_pos (by rw [HI.out.1]; omega), if_pos (by omega)]
          exact hv
        · rw [if_neg hij, ← List.getD_eq_getElem?_getD, HI.out.2 j hj]
          by_cases h : j < i
          · rw [if_pos h, if_pos (by omega)]
          · rw [if_neg h, if_neg (by omega)]
      have NX := Aside0.mk NXT
      have S0 := Aside0.mk (fun (W : World) (h : BL W gx xs) => h.set i 0)
      clear NXT hxe hyf
      have fin : ∀ (W : World) (v : Int) (l : List Int), v = bo op (ta.getD i 0 + tb.getD i 0) → l = xs.set i v → BL W gx l → BL W gy tb → Below w.heap.size w W →
          ∃ (i' : Nat) (xs : List Int), i' ≤ 32 ∧ Value.int .i64 (i + 1) = .int .i64 i' ∧ Aside0 (xs.length = 32 ∧ ∀ j, j < 32 → xs.getD j 0 = if j < i' then bo op (ta.getD j 0 + tb.getD j 0) else ta.getD j 0) ∧ Aside0 (BL W gx xs) ∧ Aside0 (BL W gy tb) ∧ Aside0 (Below w.heap.size w W) :=
        fun W v l hv hl hX hY hB => ⟨i + 1, l, by omega, by simp, ⟨NX.out v hv l hl⟩, ⟨hX⟩, ⟨hY⟩, ⟨hB⟩⟩
      have FIN := Aside0.mk fin
      clear NX S0 fin
      have hop : (op = 11) ∨ (op = 9) ∨ (op ≠ 11 ∧ op ≠ 9) := by omega
      rcases hxb with ex | ex <;> rcases hyb with ey | ey <;> rw [ex] at hx FIN <;> rw [ey] at hy FIN
      all_goals clear ex ey
      all_goals rcases hop with ho | ho | ⟨ho, ho2⟩
      all_goals
        try have b1 : (op == 11) = true := beq_iff_eq.2 ho
        try have b2 : (op != 11) = false := bne_eq_false_iff_eq.2 ho
        try have b3 : (op == 9) = true := beq_iff_eq.2 ho
        try have b4 : (op != 9) = false := bne_eq_false_iff_eq.2 ho
        try have b5 : (op == 11) = false := beq_eq_false_iff_ne.2 (by omega)
        try have b6 : (op != 11) = true := bne_iff_ne.2 (by omega)
        try have b7 : (op == 9) = false := beq_eq_false_iff_ne.2 (by omega)
        try have b8 : (op != 9) = true := bne_iff_ne.2 (by omega)
        have HO := Aside0.mk ho
        try have HO2 := Aside0.mk ho2
        clear ho
        try clear ho2
        go_wp2
        repeat (go_quiet (fail); try go_wp2)
        go_roundw
        case rel =>
          first
            | (refine FIN.out _ 0 (xs.set i 0) ?_ rfl ?_ ?_ ?_; (focus (first | (simp [bo]; done) | (simp [bo, HO.out]; done) | (simp [bo, HO.out, HO2.out]; done))); (focus repeat (first | (with_reducible exact HX.out) | refine BL.drewN ?_ _ | refine BL.drew ?_ | refine BL.set ?_ _ _)); (focus repeat (first | (with_reducible exact HY.out) | refine BL.drewN ?_ _ | refine BL.drew ?_ | refine BL.far ?_ HN.out _ _)); (focus repeat (first | (with_reducible exact HW.out) | refine pw_below_drewN ?_ _ | refine below_drew1 ?_ | refine below_set ?_ HGX.out)))
            | (refine FIN.out _ 1 ((xs.set i 0).set i 1) ?_ (List.set_set ..) ?_ ?_ ?_; (focus (first | (simp [bo]; done) | (simp [bo, HO.out]; done) | (simp [bo, HO.out, HO2.out]; done))); (focus repeat (first | (with_reducible exact HX.out) | refine BL.drewN ?_ _ | refine BL.drew ?_ | refine BL.set ?_ _ _)); (focus repeat (first | (with_reducible exact HY.out) | refine BL.drewN ?_ _ | refine BL.drew ?_ | refine BL.far ?_ HN.out _ _)); (focus repeat (first | (with_reducible exact HW.out) | refine pw_below_drewN ?_ _ | refine below_drew1 ?_ | refine below_set ?_ HGX.out)))
        case measure => simp [intOf]; omega
    · have hge : i = 32 := by omega
      subst hge
      have hlen : xs.length = 32 := HI.out.1
      have hxs : xs = bothL op ta tb := by
        apply List.ext_getElem
        · simp [bothL, hlen, HL1.out, HL2.out]
        · intro j h1 h2
          have h3 := HI.out.2 j (by omega)
          rw [if_pos (by omega)] at h3
          simp only [List.getD_eq_getElem?_getD] at h3
          rw [List.getElem?_eq_getElem h1, List.getElem?_eq_getElem (show j < ta.length by have := HL1.out; omega), List.getElem?_eq_getElem (show j < tb.length by have := HL2.out; omega)] at h3
          simp only [Option.getD_some] at h3
          rw [h3]
          simp [bothL]
      have hC := HX.out.reads (by omega)
      rw [hlen] at hC
      have HC := Aside0.mk hC
      have HE := Aside0.mk (show seedcornref01_Of.f k xs = some r by rw [hxs]; exact HR.out)
      have HLN := Aside0.mk hlen
      clear hxs hC hlen
      go_wp2_with fail
      have HQ := fun W (hW : Kd.C (Kd.int .i64) W (some ⟨gx, 0, none⟩) 32 xs) => seedcornref01_Of.calls k (some ⟨gx, 0, none⟩) cx xs r W (by rw [HLN.out]; exact hW) (by rw [HLN.out]; exact HCX.out) HE.out
      rw [HLN.out] at HQ
      refine (HQ _ ?hc).mono ?_
      case hc => exact HC.out
      rintro e w3 ⟨rfl, hd⟩
      have HD := Aside0.mk hd
      clear hd HQ
      go_wp2
      go_ret
      exact ⟨rfl, below_step HW.out HD.out.below⟩
theorem seedcornref01_both.calls (k : Nat) (a0 : Int) (a1 : Int) (a2 : Int) (r : Int) (w : World) (h : seedcornref01_both.f k a0 a1 a2 = some r) :
    Calls Try.prog 104 #[.int .i64 a0, .int .u32 a1, .int .u32 a2] w fun e w' => e = .returned (.int .u32 r) ∧ Below w.heap.size w w' := by
  unfold seedcornref01_both.f at h
  obtain ⟨ta, ha, h⟩ := Option.bind_eq_some_iff.1 h
  obtain ⟨tb, hb, h⟩ := Option.bind_eq_some_iff.1 h
  by_cases hc : Bits32 ta ∧ Bits32 tb
  · rw [if_pos hc] at h
    exact both_calls k a0 a1 a2 r w ta tb ha hb hc.1 hc.2 h
  · rw [if_neg hc] at h
    cases h
end Go.Proofs.Ytocnkjhicbmmoaa.Q
