/- A program that may be, and block's machine in the midst of it: each step is defined, and leaves such a machine. -/
import Derived.Test.YtocnkjhicbmmoaaM5
import Derived.Test.YtocnkjhicbmmoaaQ10
namespace Go.Proofs.Ytocnkjhicbmmoaa.Q
open Go.RowKit Go.Proofs.YtocnkjhicbmmoaaW.PrintWords Go.Proofs.YtocnkjhicbmmoaaW.PrintLast
set_option linter.unusedVariables false
set_option linter.unusedSimpArgs false

def U32 (x : Int) : Prop := 0 ≤ x ∧ x < 4294967296
def fitT (nw fi regs : Int) (t : S44) : Bool := fitsB t.f0 t.f1 t.f2 t.f3 t.f4 t.f5 t.f6 t.f7 fi regs nw
structure OkB (nw fi regs : Int) (nb : Nat) (b : S41) : Prop where
  en : endB nb regs b.f1 b.f2 b.f3 b.f4 = true
  ins : ∀ t ∈ b.f0, fitT nw fi regs t = true ∧ U32 t.f7
structure OkF (nw fi : Int) (f : S35) : Prop where
  r0 : 0 ≤ f.f0
  r1 : f.f0 ≤ 4000
  nb : 0 < f.f1.length
  bs : ∀ b ∈ f.f1, OkB nw fi f.f0 f.f1.length b
structure OkP (nw : Int) (fs : List S35) : Prop where
  w0 : 0 ≤ nw
  w1 : nw ≤ 1048576
  nf : 0 < fs.length
  fn : ∀ (i : Nat) f, fs[i]? = some f → OkF nw i f

structure FrG (fs : List S35) (f : Fr) : Prop where
  fn : ∃ i : Nat, fs[i]? = some f.fn
  len : (f.regs.length : Int) = f.fn.f0
  u : ∀ x ∈ f.regs, U32 x
  b0 : 0 ≤ f.blk
  b1 : f.blk < f.fn.f1.length
  a0 : 0 ≤ f.at_
  a1 : f.at_ ≤ (rd_T41 f.fn.f1 f.blk).f0.length
structure McG (nw : Int) (fs : List S35) (s : Mc) : Prop where
  ws : (s.ws.length : Int) = nw
  u : ∀ x ∈ s.ws, U32 x
  fr : ∀ f ∈ s.stk, FrG fs f
  run : s.en = 0 → s.stk ≠ []
  en : s.en ≠ 5

theorem rget_ok {xs : List Int} (hu : ∀ x ∈ xs, U32 x) {i : Int} (h0 : 0 ≤ i) (h1 : i < xs.length) : ∃ v, rget xs i = some v ∧ U32 v := by
  have hl : i.toNat < xs.length := by omega
  exact ⟨xs[i.toNat], by unfold rget; rw [if_pos h0]; exact List.getElem?_eq_getElem hl, hu _ (List.getElem_mem hl)⟩
theorem rset_ok {xs : List Int} (hu : ∀ x ∈ xs, U32 x) {i v : Int} (h0 : 0 ≤ i) (h1 : i < xs.length) (hv : U32 v) : rset xs i v = some (xs.set i.toNat v) ∧ (xs.set i.toNat v).length = xs.length ∧ ∀ x ∈ xs.set i.toNat v, U32 x := by
  refine ⟨by unfold rset; rw [if_pos ⟨h0, h1⟩], by simp, fun x hx => ?_⟩
  rcases List.mem_or_eq_of_mem_set hx with h | rfl
  · exact hu x h
  · exact hv
theorem bt_u (s : ByteArray) (i : Int) : U32 (bt s i) := by
  have := bt_range s i
  unfold U32
  omega
theorem u32_of {n : Int} (h : (Lit.int .u32 n).wf = true) : U32 n := by
  simp [Lit.wf, IntKind.min, IntKind.max, IntKind.signed, IntKind.bits] at h
  unfold U32
  omega
theorem wrap_u32 (n : Int) : U32 (IntKind.u32.wrap n) := by
  simp only [U32, IntKind.wrap, IntKind.bits, IntKind.signed]
  simp
  omega
theorem bits_u32 (op : BinOp) (x y : Int) : U32 (Go.bits op .u32 x y) := by
  unfold Go.bits
  exact wrap_u32 _
theorem mod_u32 (n : Int) : U32 (n % 4294967296) := by unfold U32; omega
theorem truth_u32 (b : Bool) : ∃ v, word_truth.f b = some v ∧ U32 v := by
  cases b
  · exact ⟨0, rfl, by unfold U32; omega⟩
  · exact ⟨1, rfl, by unfold U32; omega⟩
theorem apply_ok {op a b : Int} (h4 : 4 ≤ op) (h15 : op ≤ 15) (ha : U32 a) (hb : U32 b) : ∃ q, word_Apply.f 1 op a b = some q ∧ U32 q.1 := by
  have hz : U32 0 := by unfold U32; omega
  unfold word_Apply.f
  by_cases e7 : op = 7
  · rw [if_pos e7]
    simp only [word_Apply.j0]
    by_cases hb0 : b = 0
    · exact ⟨(0, 14), by rw [if_pos hb0], hz⟩
    · exact ⟨_, by rw [if_neg hb0, if_pos e7], mod_u32 _⟩
  rw [if_neg e7]
  by_cases e8 : op = 8
  · rw [if_pos e8]
    simp only [word_Apply.j0]
    by_cases hb0 : b = 0
    · exact ⟨(0, 14), by rw [if_pos hb0], hz⟩
    · refine ⟨_, by rw [if_neg hb0, if_neg e7], ?_⟩
      obtain ⟨a0, a1⟩ := ha
      obtain ⟨b0, b1⟩ := hb
      show U32 (Int.tmod a b)
      rw [Int.tmod_eq_emod_of_nonneg a0]
      have h1 := Int.emod_nonneg a hb0
      have h2 := Int.emod_lt_of_pos a (show 0 < b by omega)
      exact ⟨h1, by omega⟩
  rw [if_neg e8]
  by_cases e : op = 4
  · rw [if_pos e]; exact ⟨_, rfl, mod_u32 _⟩
  rw [if_neg e]
  by_cases e : op = 5
  · rw [if_pos e]; exact ⟨_, rfl, mod_u32 _⟩
  rw [if_neg e]
  by_cases e : op = 6
  · rw [if_pos e]; exact ⟨_, rfl, mod_u32 _⟩
  rw [if_neg e]
  by_cases e : op = 9
  · rw [if_pos e]; exact ⟨(Go.bits .and .u32 a b, 0), rfl, bits_u32 .and a b⟩
  rw [if_neg e]
  by_cases e : op = 10
  · rw [if_pos e]; exact ⟨(Go.bits .or .u32 a b, 0), rfl, bits_u32 .or a b⟩
  rw [if_neg e]
  by_cases e : op = 11
  · rw [if_pos e]; exact ⟨(Go.bits .xor .u32 a b, 0), rfl, bits_u32 .xor a b⟩
  rw [if_neg e]
  by_cases e : op = 12
  · rw [if_pos e, if_pos hb.1]; exact ⟨_, rfl, wrap_u32 _⟩
  rw [if_neg e]
  by_cases e : op = 13
  · rw [if_pos e, if_pos hb.1]
    refine ⟨_, rfl, ?_⟩
    show U32 (shr .u32 a b)
    unfold shr
    obtain ⟨a0, a1⟩ := ha
    have hp : (1 : Int) ≤ 2 ^ min b.toNat IntKind.u32.bits := by
      have := Nat.one_le_two_pow (n := min b.toNat IntKind.u32.bits)
      exact_mod_cast this
    exact ⟨Int.ediv_nonneg a0 (by omega), Int.lt_of_le_of_lt (Int.ediv_le_self _ a0) a1⟩
  rw [if_neg e]
  by_cases e : op = 14
  · rw [if_pos e]
    obtain ⟨v, hv, hu⟩ := truth_u32 (decide (a < b))
    exact ⟨(v, 0), by rw [hv]; rfl, hu⟩
  rw [if_neg e]
  by_cases e : op = 15
  · rw [if_pos e]
    obtain ⟨v, hv, hu⟩ := truth_u32 (a == b)
    exact ⟨(v, 0), by rw [hv]; rfl, hu⟩
  omega

section
variable {nw : Int} {fs : List S35} {s : Mc} {f : Fr} {st : List Fr}
theorem FrG.regs' (h : FrG fs f) {r : List Int} (hl : r.length = f.regs.length) (hu : ∀ x ∈ r, U32 x) : FrG fs { f with regs := r } :=
  ⟨h.fn, by have := h.len; simp only; omega, hu, h.b0, h.b1, h.a0, h.a1⟩
theorem McG.stk' (h : McG nw fs s) {l : List Fr} (hl : ∀ g ∈ l, FrG fs g) (hn : l ≠ []) : McG nw fs { s with stk := l } :=
  ⟨h.ws, h.u, hl, fun _ => hn, h.en⟩
theorem McG.ended (h : McG nw fs s) {e : Int} (h0 : e ≠ 0) (h5 : e ≠ 5) : McG nw fs { s with en := e } := ⟨h.ws, h.u, h.fr, fun h => absurd h h0, h5⟩
theorem mput_ok (h : McG nw fs s) (hf : FrG fs f) (hst : ∀ g ∈ st, FrG fs g) {d v : Int} (h0 : 0 ≤ d) (h1 : d < f.fn.f0) (hv : U32 v) :
    ∃ s', mput s f st d v = some s' ∧ McG nw fs s' ∧ s'.out = s.out := by
  have hl := hf.len
  obtain ⟨e, l, u⟩ := rset_ok hf.u h0 (by omega) hv
  refine ⟨{ s with stk := { f with regs := f.regs.set d.toNat v } :: st }, by unfold mput; rw [e]; rfl, ?_, rfl⟩
  refine h.stk' (fun g hg => ?_) (by simp)
  rcases List.mem_cons.1 hg with rfl | hg
  · exact hf.regs' l u
  · exact hst g hg
theorem wrap_sum {x y : Int} (h0 : 0 ≤ x) (h1 : x ≤ 1048576) (h2 : 0 ≤ y) (h3 : y ≤ 4096) : wrap64 (x + wrap64 y) = x + y := by unfold wrap64; omega

/-- An instruction that may be, in a function that may be. -/
theorem mdo_ok (hp : OkP nw fs) (h : McG nw fs s) (hs : s.stk = f :: st) (he : s.en = 0) {i : Nat} (hi : fs[i]? = some f.fn) {t : S44} (ht : fitT nw i f.fn.f0 t = true) (hN : U32 t.f7) :
    ∃ s', mdo fs s f st t = some s' ∧ McG nw fs s' ∧ s.out <+: s'.out := by
  have hf : FrG fs f := h.fr f (by rw [hs]; simp)
  have hst : ∀ g ∈ st, FrG fs g := fun g hg => h.fr g (by rw [hs]; simp [hg])
  have hw := h.ws
  have hl := hf.len
  obtain ⟨op, d, a, b, k, base, size, n⟩ := t
  unfold fitT fitsB at ht
  unfold mdo
  simp only at ht hN ⊢
  by_cases e : op = 1
  · rw [if_pos e] at ht ⊢
    simp only [Bool.and_eq_true, isB, decide_eq_true_eq, beq_iff_eq] at ht
    obtain ⟨s', h1, h2, h3⟩ := mput_ok h hf hst ht.1.1 ht.1.2 hN
    exact ⟨s', h1, h2, by rw [h3]; exact List.prefix_refl _⟩
  rw [if_neg e] at ht ⊢
  by_cases e : op = 2
  · rw [if_pos e] at ht ⊢
    simp only [Bool.and_eq_true, isB, decide_eq_true_eq, beq_iff_eq] at ht
    obtain ⟨v, hv, hu⟩ := rget_ok hf.u ht.2.1.1 (by omega)
    obtain ⟨s', h1, h2, h3⟩ := mput_ok h hf hst ht.1.1 ht.1.2 hu
    exact ⟨s', by rw [hv]; exact h1, h2, by rw [h3]; exact List.prefix_refl _⟩
  rw [if_neg e] at ht ⊢
  by_cases e : op = 3
  · rw [if_pos e] at ht ⊢
    simp only [Bool.and_eq_true, isB, decide_eq_true_eq, beq_iff_eq] at ht
    obtain ⟨hd, ha, hb, h4, h15, _⟩ := ht
    obtain ⟨va, hva, hua⟩ := rget_ok hf.u ha.1 (by omega)
    obtain ⟨vb, hvb, hub⟩ := rget_ok hf.u hb.1 (by omega)
    obtain ⟨q, hq, huq⟩ := apply_ok h4 h15 hua hub
    by_cases hz : q.2 = 0
    · obtain ⟨s', h1, h2, h3⟩ := mput_ok h hf hst hd.1 hd.2 huq
      refine ⟨s', ?_, h2, by rw [h3]; exact List.prefix_refl _⟩
      rw [hva]; simp only [Option.bind_some]; rw [hvb]; simp only [Option.bind_some]; rw [hq]; simp only [Option.bind_some]; rw [if_pos hz]; exact h1
    · refine ⟨{ s with en := 2 }, ?_, h.ended (by decide) (by decide), List.prefix_refl _⟩
      rw [hva]; simp only [Option.bind_some]; rw [hvb]; simp only [Option.bind_some]; rw [hq]; simp only [Option.bind_some]; rw [if_neg hz]
  rw [if_neg e] at ht ⊢
  by_cases e : op = 4
  · rw [if_pos e] at ht ⊢
    simp only [Bool.and_eq_true, isB, decide_eq_true_eq, beq_iff_eq] at ht
    obtain ⟨v, hv, hu⟩ := rget_ok h.u ht.2.1.1 (by omega)
    obtain ⟨s', h1, h2, h3⟩ := mput_ok h hf hst ht.1.1 ht.1.2 hu
    exact ⟨s', by rw [hv]; exact h1, h2, by rw [h3]; exact List.prefix_refl _⟩
  rw [if_neg e] at ht ⊢
  by_cases e : op = 5
  · rw [if_pos e] at ht ⊢
    simp only [Bool.and_eq_true, isB, decide_eq_true_eq, beq_iff_eq] at ht
    obtain ⟨v, hv, hu⟩ := rget_ok hf.u ht.1.1 (by omega)
    obtain ⟨e1, e2, e3⟩ := rset_ok h.u ht.2.1.1 (by omega) hu
    refine ⟨{ s with ws := s.ws.set base.toNat v }, by rw [hv]; simp only [Option.bind_some]; rw [e1]; rfl, ⟨by simp only; omega, e3, h.fr, h.run, h.en⟩, List.prefix_refl _⟩
  rw [if_neg e] at ht ⊢
  by_cases e : op = 6
  · rw [if_pos e] at ht ⊢
    simp only [Bool.and_eq_true, isB, decide_eq_true_eq, beq_iff_eq] at ht
    obtain ⟨hd, ha, z1, z2, z3, z4, _⟩ := ht
    obtain ⟨v, hv, hu⟩ := rget_ok hf.u ha.1 (by omega)
    have hw1 := hp.w1
    rw [hv]
    simp only [Option.bind_some]
    by_cases hin : v < size % 4294967296
    · rw [if_pos hin, wrap_sum z3 (by omega) hu.1 (by omega)]
      have hin2 : v < size := by omega
      obtain ⟨x, hx, hux⟩ := rget_ok h.u (i := base + v) (by have := hu.1; omega) (by omega)
      obtain ⟨s', h1, h2, h3⟩ := mput_ok h hf hst hd.1 hd.2 hux
      exact ⟨s', by rw [hx]; exact h1, h2, by rw [h3]; exact List.prefix_refl _⟩
    · rw [if_neg hin]
      exact ⟨_, rfl, h.ended (by decide) (by decide), List.prefix_refl _⟩
  rw [if_neg e] at ht ⊢
  by_cases e : op = 7
  · rw [if_pos e] at ht ⊢
    simp only [Bool.and_eq_true, isB, decide_eq_true_eq, beq_iff_eq] at ht
    obtain ⟨ha, hb, z1, z2, z3, z4, _⟩ := ht
    obtain ⟨v, hv, hu⟩ := rget_ok hf.u ha.1 (by omega)
    obtain ⟨vb, hvb, hub⟩ := rget_ok hf.u hb.1 (by omega)
    have hw1 := hp.w1
    rw [hv]
    simp only [Option.bind_some]
    by_cases hin : v < size % 4294967296
    · rw [if_pos hin, wrap_sum z3 (by omega) hu.1 (by omega)]
      have hin2 : v < size := by omega
      obtain ⟨e1, e2, e3⟩ := rset_ok h.u (i := base + v) (by have := hu.1; omega) (by omega) hub
      refine ⟨{ s with ws := s.ws.set (base + v).toNat vb }, by rw [hvb]; simp only [Option.bind_some]; rw [e1]; rfl, ⟨by simp only; omega, e3, h.fr, h.run, h.en⟩, List.prefix_refl _⟩
    · rw [if_neg hin]
      exact ⟨_, rfl, h.ended (by decide) (by decide), List.prefix_refl _⟩
  rw [if_neg e] at ht ⊢
  by_cases e : op = 8
  · rw [if_pos e] at ht ⊢
    simp only [Bool.and_eq_true, isB, decide_eq_true_eq, beq_iff_eq] at ht
    by_cases hz : s.inp.size = 0
    · rw [if_pos hz]
      obtain ⟨s', h1, h2, h3⟩ := mput_ok h hf hst ht.1.1 ht.1.2 (show U32 256 by unfold U32; omega)
      exact ⟨s', h1, h2, by rw [h3]; exact List.prefix_refl _⟩
    · rw [if_neg hz]
      obtain ⟨s', h1, h2, h3⟩ := mput_ok (s := { s with inp := s.inp.extract 1 s.inp.size }) ⟨h.ws, h.u, h.fr, h.run, h.en⟩ hf hst ht.1.1 ht.1.2 (bt_u s.inp 0)
      exact ⟨s', h1, h2, by rw [h3]; exact List.prefix_refl _⟩
  rw [if_neg e] at ht ⊢
  by_cases e : op = 9
  · rw [if_pos e] at ht ⊢
    simp only [Bool.and_eq_true, isB, decide_eq_true_eq, beq_iff_eq] at ht
    by_cases hz : 65536 ≤ s.out.length
    · rw [if_pos hz]
      exact ⟨_, rfl, h.ended (by decide) (by decide), List.prefix_refl _⟩
    · rw [if_neg hz]
      obtain ⟨v, hv, hu⟩ := rget_ok hf.u ht.1.1 (by omega)
      exact ⟨{ s with out := s.out ++ [IntKind.u8.wrap v] }, by rw [hv]; rfl, ⟨h.ws, h.u, h.fr, h.run, h.en⟩, List.prefix_append _ _⟩
  rw [if_neg e] at ht ⊢
  by_cases e : op = 10
  · rw [if_pos e] at ht ⊢
    simp only [Bool.and_eq_true, isB, decide_eq_true_eq, beq_iff_eq] at ht
    have hil : i < fs.length := (List.getElem?_eq_some_iff.1 hi).1
    have hbl : base.toNat < fs.length := by omega
    have hg : fs[base.toNat]? = some (rd_T35 fs base) := by simp [rd_T35, List.getD_eq_getElem?_getD, List.getElem?_eq_getElem hbl]
    have hF := hp.fn _ _ hg
    have r0 := hF.r0
    have r1 := hF.r1
    refine ⟨{ s with stk := ⟨rd_T35 fs base, List.replicate (rd_T35 fs base).f0.toNat 0, 0, 0⟩ :: f :: st }, ?_, ?_, List.prefix_refl _⟩
    · rw [if_pos ⟨ht.1.1, by omega, r0, by omega⟩]
    · refine h.stk' (fun g hgm => ?_) (by simp)
      rcases List.mem_cons.1 hgm with rfl | hgm
      · have := hF.nb
        refine ⟨⟨_, hg⟩, by simp; omega, fun x hx => ?_, by simp, by simp only; omega, by simp, by simp only; omega⟩
        rw [List.mem_replicate] at hx
        rw [hx.2]
        unfold U32; omega
      · rw [← hs] at hgm
        exact h.fr g hgm
  rw [if_neg e] at ht
  cases ht

theorem mover_ok (hp : OkP nw fs) (h : McG nw fs s) (hs : s.stk = f :: st) (he : s.en = 0) {i : Nat} (hi : fs[i]? = some f.fn) :
    ∃ s', mover s f st (rd_T41 f.fn.f1 f.blk) = some s' ∧ McG nw fs s' ∧ s'.out = s.out := by
  have hf : FrG fs f := h.fr f (by rw [hs]; simp)
  have hst : ∀ g ∈ st, FrG fs g := fun g hg => h.fr g (by rw [hs]; simp [hg])
  have hF := hp.fn _ _ hi
  have hl := hf.len
  have b0 := hf.b0
  have b1 := hf.b1
  have hbl : f.blk.toNat < f.fn.f1.length := by omega
  have hm : rd_T41 f.fn.f1 f.blk ∈ f.fn.f1 := by
    have : rd_T41 f.fn.f1 f.blk = f.fn.f1[f.blk.toNat] := by simp [rd_T41, List.getD_eq_getElem?_getD, List.getElem?_eq_getElem hbl]
    rw [this]; exact List.getElem_mem hbl
  have hB := (hF.bs _ hm).en
  generalize rd_T41 f.fn.f1 f.blk = b at hB
  have jump : ∀ v : Int, 0 ≤ v → v < f.fn.f1.length → FrG fs { f with at_ := 0, blk := v } := fun v h0 h1 => ⟨hf.fn, hf.len, hf.u, h0, h1, by simp, by simp only; omega⟩
  have push : ∀ g, FrG fs g → ∀ g' ∈ g :: st, FrG fs g' := fun g hg g' hg' => by
    rcases List.mem_cons.1 hg' with rfl | hg'
    · exact hg
    · exact hst g' hg'
  unfold endB at hB
  unfold mover
  by_cases e : b.f1 = 1
  · rw [if_pos e] at hB ⊢
    simp only [Bool.and_eq_true, isB, decide_eq_true_eq, beq_iff_eq] at hB
    exact ⟨_, rfl, h.stk' (push _ (jump _ hB.1.1 hB.1.2)) (by simp), rfl⟩
  rw [if_neg e] at hB ⊢
  by_cases e : b.f1 = 2
  · rw [if_pos e] at hB ⊢
    simp only [Bool.and_eq_true, isB, decide_eq_true_eq, beq_iff_eq] at hB
    obtain ⟨v, hv, hu⟩ := rget_ok hf.u hB.2.2.1 (by omega)
    refine ⟨_, by rw [hv]; rfl, h.stk' (push _ (jump _ ?_ ?_)) (by simp), rfl⟩
    · split <;> omega
    · split <;> omega
  rw [if_neg e]
  by_cases e : st = []
  · rw [if_pos e]
    exact ⟨_, rfl, ⟨h.ws, h.u, (fun g hg => by cases hg), (fun h => absurd (show (1 : Int) = 0 from h) (by decide)), (show (1 : Int) ≠ 5 by decide)⟩, rfl⟩
  · rw [if_neg e]
    exact ⟨_, rfl, h.stk' hst e, rfl⟩

theorem mstep_ok (hp : OkP nw fs) (h : McG nw fs s) (he : s.en = 0) : ∃ s', mstep fs s = some s' ∧ McG nw fs s' ∧ s.out <+: s'.out := by
  cases hs : s.stk with
  | nil => exact absurd hs (h.run he)
  | cons f st =>
    have hf : FrG fs f := h.fr f (by rw [hs]; simp)
    have hst : ∀ g ∈ st, FrG fs g := fun g hg => h.fr g (by rw [hs]; simp [hg])
    obtain ⟨i, hi⟩ := hf.fn
    unfold mstep
    rw [hs]
    simp only
    rw [if_pos ⟨hf.b0, hf.b1⟩]
    by_cases ha : f.at_ = (rd_T41 f.fn.f1 f.blk).f0.length
    · rw [if_pos ha]
      obtain ⟨s', h1, h2, h3⟩ := mover_ok hp h hs he hi
      exact ⟨s', h1, h2, by rw [h3]; exact List.prefix_refl _⟩
    · have a0 := hf.a0
      have a1 := hf.a1
      have b0 := hf.b0
      have b1 := hf.b1
      rw [if_neg ha, if_pos ⟨hf.a0, by omega⟩]
      have hbl : f.blk.toNat < f.fn.f1.length := by omega
      have hm : rd_T41 f.fn.f1 f.blk ∈ f.fn.f1 := by
        have : rd_T41 f.fn.f1 f.blk = f.fn.f1[f.blk.toNat] := by simp [rd_T41, List.getD_eq_getElem?_getD, List.getElem?_eq_getElem hbl]
        rw [this]; exact List.getElem_mem hbl
      have hal : f.at_.toNat < (rd_T41 f.fn.f1 f.blk).f0.length := by omega
      have hmt : rd_T44 (rd_T41 f.fn.f1 f.blk).f0 f.at_ ∈ (rd_T41 f.fn.f1 f.blk).f0 := by
        have : rd_T44 (rd_T41 f.fn.f1 f.blk).f0 f.at_ = (rd_T41 f.fn.f1 f.blk).f0[f.at_.toNat] := by simp [rd_T44, List.getD_eq_getElem?_getD, List.getElem?_eq_getElem hal]
        rw [this]; exact List.getElem_mem hal
      obtain ⟨q1, q2⟩ := ((hp.fn _ _ hi).bs _ hm).ins _ hmt
      have hf' : FrG fs { f with at_ := f.at_ + 1 } := ⟨hf.fn, hf.len, hf.u, hf.b0, hf.b1, by simp only; omega, by simp only; omega⟩
      have hM : McG nw fs { s with stk := { f with at_ := f.at_ + 1 } :: st } := h.stk' (fun g hg => by
        rcases List.mem_cons.1 hg with rfl | hg
        · exact hf'
        · exact hst g hg) (by simp)
      exact mdo_ok hp hM rfl he (f := { f with at_ := f.at_ + 1 }) hi q1 q2
end

/-- The start. -/
theorem mstart_ok {nw : Int} {fs : List S35} (hp : OkP nw fs) (inp : ByteArray) : McG nw fs (mstart fs nw inp) := by
  have hn := hp.nf
  have hl : fs.length - 1 < fs.length := by omega
  have he : ((fs.length : Int) - 1).toNat = fs.length - 1 := by omega
  have hg : fs[fs.length - 1]? = some (rd_T35 fs (fs.length - 1)) := by simp [rd_T35, he, List.getD_eq_getElem?_getD, List.getElem?_eq_getElem hl]
  have hF := hp.fn _ _ hg
  have w0 := hp.w0
  have r0 := hF.r0
  have nb := hF.nb
  unfold mstart
  refine ⟨by simp; omega, fun x hx => ?_, fun f hf => ?_, fun _ => by simp, by simp⟩
  · have := (List.mem_replicate.1 hx).2
    rw [this]; unfold U32; omega
  · rw [List.mem_singleton] at hf
    subst hf
    refine ⟨⟨_, hg⟩, by simp; omega, fun x hx => ?_, by simp, by simp only; omega, by simp, by simp only; omega⟩
    have := (List.mem_replicate.1 hx).2
    rw [this]; unfold U32; omega
end Go.Proofs.Ytocnkjhicbmmoaa.Q

namespace Go.Proofs.Ytocnkjhicbmmoaa.Q
open Go.RowKit Go.Proofs.YtocnkjhicbmmoaaW.PrintWords Go.Proofs.YtocnkjhicbmmoaaW.PrintLast
set_option linter.unusedVariables false
set_option linter.unusedSimpArgs false

/-- So many steps, but none behind an end. -/
def mit (fs : List S35) : Nat → Mc → Mc
  | 0, s => s
  | j + 1, s => if s.en = 0 then mit fs j ((mstep fs s).getD s) else s
section
variable {nw : Int} {fs : List S35} {s : Mc}
theorem mit_ended (h : s.en ≠ 0) : ∀ j, mit fs j s = s
  | 0 => rfl
  | j + 1 => by rw [mit, if_neg h]
theorem mit_one {s' : Mc} (h : s.en = 0) (hs : mstep fs s = some s') (j : Nat) : mit fs (j + 1) s = mit fs j s' := by rw [mit, if_pos h, hs]; rfl
theorem mit_ok (hp : OkP nw fs) : ∀ (j : Nat) (s : Mc), McG nw fs s → McG nw fs (mit fs j s) ∧ s.out <+: (mit fs j s).out
  | 0, s, h => ⟨h, List.prefix_refl _⟩
  | j + 1, s, h => by
    by_cases he : s.en = 0
    · obtain ⟨s', h1, h2, h3⟩ := mstep_ok hp h he
      rw [mit_one he h1]
      obtain ⟨h4, h5⟩ := mit_ok hp j s' h2
      exact ⟨h4, h3.trans h5⟩
    · rw [mit_ended he]; exact ⟨h, List.prefix_refl _⟩
theorem mit_add (i j : Nat) : ∀ s : Mc, mit fs (i + j) s = mit fs j (mit fs i s) := by
  induction i with
  | zero => intro s; simp [mit]
  | succ i ih =>
    intro s
    rw [show i + 1 + j = (i + j) + 1 by omega]
    by_cases he : s.en = 0
    · rw [mit, if_pos he, mit, if_pos he]; exact ih _
    · rw [mit_ended he, mit_ended he, mit_ended he]
/-- How many of at most m steps are done before an end. -/
def mlen (fs : List S35) : Nat → Mc → Nat
  | 0, _ => 0
  | m + 1, s => if s.en = 0 then mlen fs m ((mstep fs s).getD s) + 1 else 0
theorem mlen_le : ∀ (m : Nat) (s : Mc), mlen fs m s ≤ m
  | 0, _ => Nat.le_refl _
  | m + 1, s => by
    rw [mlen]
    split
    · have := mlen_le m ((mstep fs s).getD s); omega
    · omega
/-- Not ended by m steps: all are done. -/
theorem mlen_all : ∀ (m : Nat) (s : Mc), (mit fs m s).en = 0 → mlen fs m s = m
  | 0, _, _ => rfl
  | m + 1, s, h => by
    by_cases he : s.en = 0
    · rw [mlen, if_pos he]
      rw [mit, if_pos he] at h
      rw [mlen_all m _ h]
    · rw [mit_ended he] at h; exact absurd h he
/-- Ended by m steps: more change nothing. -/
theorem mlen_more (k : Nat) : ∀ (m : Nat) (s : Mc), (mit fs m s).en ≠ 0 → mlen fs (m + k) s = mlen fs m s
  | 0, s, h => by
    cases k with
    | zero => rfl
    | succ k => simp only [Nat.zero_add, mlen]; rw [if_neg (show ¬ s.en = 0 from h)]
  | m + 1, s, h => by
    rw [show m + 1 + k = (m + k) + 1 by omega]
    by_cases he : s.en = 0
    · rw [mlen, if_pos he, mlen, if_pos he]
      rw [mit, if_pos he] at h
      rw [mlen_more k m _ h]
    · rw [mlen, if_neg he, mlen, if_neg he]
/-- What the run with the fuel m answers: the end, what was put out, the steps. -/
def mres (fs : List S35) (m : Nat) (s : Mc) : Int × List Int × Nat := (if (mit fs m s).en = 0 then 5 else (mit fs m s).en, (mit fs m s).out, mlen fs m s)
theorem mrun_is (hp : OkP nw fs) : ∀ (m k : Nat) (n : Int) (s : Mc), McG nw fs s → m + 2 ≤ k →
    ∃ s', mrun fs (n + m) k n s = some (s', n + (mres fs m s).2.2) ∧ s'.en = (mres fs m s).1 ∧ s'.out = (mres fs m s).2.1
  | 0, k, n, s, h, hk => by
    obtain ⟨k, rfl⟩ : ∃ q, k = q + 1 := ⟨k - 1, by omega⟩
    by_cases he : s.en = 0
    · refine ⟨{ s with en := 5 }, ?_, ?_, rfl⟩
      · rw [mrun, if_pos he, if_pos (by omega)]; simp [mres, mlen]
      · simp [mres, mit, he]
    · refine ⟨s, ?_, ?_, rfl⟩
      · rw [mrun, if_neg he]; simp [mres, mlen]
      · simp [mres, mit, he]
  | m + 1, k, n, s, h, hk => by
    obtain ⟨k, rfl⟩ : ∃ q, k = q + 1 := ⟨k - 1, by omega⟩
    by_cases he : s.en = 0
    · obtain ⟨s1, h1, h2, _⟩ := mstep_ok hp h he
      obtain ⟨s', e1, e2, e3⟩ := mrun_is hp m k (n + 1) s1 h2 (by omega)
      refine ⟨s', ?_, ?_, ?_⟩
      · rw [mrun, if_pos he, if_neg (by omega), h1]
        simp only [Option.bind_some]
        rw [show n + ((m + 1 : Nat) : Int) = n + 1 + (m : Int) by omega, e1]
        simp only [mres, mlen, if_pos he, h1, Option.getD_some]
        congr 2
        omega
      · rw [e2]; simp only [mres, mit, if_pos he, h1, Option.getD_some]
      · rw [e3]; simp only [mres, mit, if_pos he, h1, Option.getD_some]
    · refine ⟨s, ?_, ?_, ?_⟩
      · rw [mrun, if_neg he]; simp [mres, mlen, he]
      · simp only [mres]; rw [mit_ended he, if_neg he]
      · simp only [mres]; rw [mit_ended he]
end

/-- The law of more fuel: an end is the same; else all the steps are done, and what is put out is a beginning. -/
theorem fuel_law {nw : Int} {fs : List S35} (hp : OkP nw fs) (m k : Nat) {s : Mc} (h : McG nw fs s) :
    ((mres fs m s).1 ≠ 5 → mres fs (m + k) s = mres fs m s ∧ (mres fs m s).2.2 ≤ m) ∧ ((mres fs m s).1 = 5 → (mres fs m s).2.2 = m ∧ (mres fs m s).2.1 <+: (mres fs (m + k) s).2.1) := by
  obtain ⟨h1, _⟩ := mit_ok hp m s h
  refine ⟨fun h5 => ?_, fun h5 => ?_⟩
  · have he : (mit fs m s).en ≠ 0 := fun he => h5 (by simp [mres, he])
    refine ⟨?_, mlen_le m s⟩
    simp only [mres]
    rw [mit_add, mit_ended he, mlen_more k m s he]
  · have he : (mit fs m s).en = 0 := by
      by_cases he : (mit fs m s).en = 0
      · exact he
      · simp only [mres, if_neg he] at h5
        exact absurd h5 h1.en
    refine ⟨mlen_all m s he, ?_⟩
    simp only [mres]
    rw [mit_add]
    exact (mit_ok hp k _ h1).2
end Go.Proofs.Ytocnkjhicbmmoaa.Q
