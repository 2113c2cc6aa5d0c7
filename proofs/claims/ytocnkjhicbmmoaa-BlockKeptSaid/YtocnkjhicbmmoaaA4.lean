/- What a program as an argument reads as, opened into the rows that the walks ask for. -/
import Derived.Test.YtocnkjhicbmmoaaQ0
import Derived.Deep.Slices
import Derived.SizedLaws
import Derived.OpenShut
namespace Go.Proofs.Ytocnkjhicbmmoaa.Q
open Go.ChangeShapes Go.WideShapes Go.RowKit Go.Proofs.YtocnkjhicbmmoaaW.PrintWords Go.Proofs.YtocnkjhicbmmoaaW.PrintLast
set_option linter.unusedVariables false
set_option linter.unusedSimpArgs false

/-- Cells that read as data of type t are what d tells of some x with G x. -/
def Opens {α : Type} (P : Program) (t : TypeId) (d : Kd α) (G : α → Prop) : Prop :=
  ∀ {H : Type} (enc : TypeId × Value → H) (w : World) (sp : Nat → Bool) (held : Bool) (fuel : Nat) (cs : List Value) (x : DataW H × List MemPlace),
    DataW.trod enc P w 0 sp held fuel t cs = some x → (∀ n ∈ x.1.weights P t, n ≤ reachBytes) → ∃ y, d.K w y cs ∧ G y

theorem opens_int {P : Program} {t : TypeId} {k : IntKind} (ht : P.underlying t = some (.int k)) : Opens P t (Kd.int k) (fun n => (Lit.int k n).wf = true) := by
  intro H enc w sp held fuel cs x h _
  obtain ⟨n, rfl, _, hw⟩ := DataW.trod_int ht h
  exact ⟨n, rfl, hw⟩

theorem list_of {α : Type} {p : Nat → α → Prop} : ∀ (n : Nat), (∀ i, i < n → ∃ x, p i x) → ∃ xs : List α, xs.length = n ∧ ∀ (i : Nat) x, xs[i]? = some x → p i x
  | 0, _ => ⟨[], rfl, fun i x h => by simp at h⟩
  | n + 1, h => by
    obtain ⟨xs, h1, h2⟩ := list_of n fun i hi => h i (by omega)
    obtain ⟨x, hx⟩ := h n (by omega)
    refine ⟨xs ++ [x], by simp [h1], fun i y hy => ?_⟩
    rcases Nat.lt_or_ge i n with hi | hi
    · rw [List.getElem?_append_left (by omega)] at hy
      exact h2 i y hy
    · rw [List.getElem?_append_right (by omega)] at hy
      have : i - xs.length = 0 := by
        have := (List.getElem?_eq_some_iff.1 hy).1
        simp at this
        omega
      rw [this] at hy
      simp at hy
      subst hy
      rw [show i = n by omega]
      exact hx
theorem weightsAll_mem {H : Type} {P : Program} {e : TypeId} : ∀ {l : List (DataW H)} {y : DataW H}, y ∈ l → ∀ n ∈ y.weights P e, n ∈ DataW.weightsAll P e l
  | a :: l, y, hy, n, hn => by
    simp only [DataW.weightsAll, List.mem_append]
    rcases List.mem_cons.1 hy with rfl | hy
    · exact .inl hn
    · exact .inr (weightsAll_mem hy n hn)

theorem opens_slice {α : Type} {P : Program} {t e : TypeId} {d : Kd α} {G : α → Prop} (hd : Opens P e d G) (ht : P.underlying t = some (.slice e)) (hz : P.cellsOf e = d.sz) {B : Nat} (hB : P.bytesOf e = B) :
    Opens P t (Kd.slice e d) (fun xs => xs.length * B ≤ reachBytes ∧ xs.length ≤ maxLen ∧ ∀ x ∈ xs, G x) := by
  intro H enc w sp held fuel cs x h hw
  rcases DataW.trod_slice ht h with ⟨rfl, rfl⟩ | ⟨a, len, cap, elems, rest, n, _, rfl, rfl, _, hl, hm, hlen, hel, _, _⟩
  · exact ⟨[], ⟨none, 0, rfl, Nat.le_refl _, ⟨rfl, by simp, fun h => absurd h (by simp)⟩⟩, by simp, by simp, by simp⟩
  · have hw2 : (elems.length + rest.length) * P.bytesOf e ≤ reachBytes := by
      have := hw ((elems.length + rest.length) * P.bytesOf e) (by simp [DataW.weights, ht])
      exact this
    have key : ∀ i, i < len → ∃ p : α × List Value, d.K w p.1 p.2 ∧ G p.1 ∧ ∀ j u, p.2[j]? = some u → w.cell? (a.add (i * d.sz + j)) = some u := by
      intro i hi
      have he := hel i hi
      rw [List.getElem?_eq_getElem (by omega)] at he
      obtain ⟨cs', h1, h2⟩ := Option.bind_eq_some_iff.1 he
      have hmem : elems[i]'(by omega) ∈ elems := List.getElem_mem _
      obtain ⟨y, hy, hG⟩ := hd enc w sp held n cs' _ h2 (fun m hm => hw m (by
        simp only [DataW.weights, ht]
        refine List.mem_cons_of_mem _ (List.mem_append_left _ ?_)
        exact weightsAll_mem (List.mem_map_of_mem hmem) m hm))
      refine ⟨(y, cs'), hy, hG, fun j u hj => ?_⟩
      obtain ⟨_, hcl, hc⟩ := World.cells?_some h1
      have hj2 : j < P.cellsOf e := by
        have h9 : j < cs'.length := (List.getElem?_eq_some_iff.1 hj).1
        omega
      have h3 := hc j hj2
      rw [hj, Go.Deep.add_add, hz] at h3
      exact h3
    obtain ⟨ys, h1, h2⟩ := list_of len key
    have hg : ∀ (j : Nat) x, (ys.map (·.1))[j]? = some x → ∃ p, ys[j]? = some p ∧ p.1 = x := by
      intro j x hx
      rw [List.getElem?_map] at hx
      obtain ⟨p, hp, rfl⟩ := Option.map_eq_some_iff.1 hx
      exact ⟨p, hp, rfl⟩
    have hl1 : (ys.map (·.1)).length = len := by simp [h1]
    refine ⟨ys.map (·.1), ⟨some a, cap, by rw [hl1], by omega, ⟨rfl, ?_, fun _ => ⟨a, rfl, fun j p hj => ?_⟩⟩⟩, ?_, ?_, ?_⟩
    · rw [hl1]; simp only [maxLen] at hm; omega
    · obtain ⟨q, hq, rfl⟩ := hg j p hj
      obtain ⟨k1, k2, k3⟩ := h2 j q hq
      exact ⟨q.2, d.K_len k1, k1, k3⟩
    · rw [hl1, ← hB]
      exact Nat.le_trans (Nat.mul_le_mul_right _ (by omega)) hw2
    · rw [hl1]; omega
    · intro x hx
      obtain ⟨j, hj, rfl⟩ := List.mem_iff_getElem.1 hx
      obtain ⟨q, hq, e1⟩ := hg j _ (List.getElem?_eq_getElem hj)
      rw [← e1]
      exact (h2 j q hq).2.1

/-- A field of one cell. -/
theorem open_field {α : Type} {H : Type} {enc : TypeId × Value → H} {P : Program} {w : World} {sp : Nat → Bool} {held : Bool} {fuel : Nat} {t : TypeId} {fs : Array Field} {cs : List Value} {x : DataW H × List MemPlace} (ht : P.underlying t = some (.struct fs))
    (h : DataW.trod enc P w 0 sp held fuel t cs = some x) (hw : ∀ n ∈ x.1.weights P t, n ≤ reachBytes) (i : Nat) {f : Field} (hf : fs[i]? = some f) (hz : P.cellsOf f.type = 1) {v : Value} (hv : cs[f.offset]? = some v)
    {d : Kd α} {G : α → Prop} (hd : Opens P f.type d G) : ∃ y, d.K w y [v] ∧ G y := by
  obtain ⟨xs, n, _, rfl, hl, hlen, hx⟩ := DataW.trod_struct ht h
  have h1 := hx i f hf
  have hi : i < fs.size := (Array.getElem?_eq_some_iff.1 hf).1
  rw [List.getElem?_eq_getElem (show i < xs.length by omega), hz] at h1
  have h2 : (cs.drop f.offset).take 1 = [v] := by
    obtain ⟨ho, rfl⟩ := List.getElem?_eq_some_iff.1 hv
    rw [List.drop_eq_getElem_cons ho]
    rfl
  rw [h2] at h1
  refine hd enc w sp held n [v] _ h1 fun m hm => hw m ?_
  simp only [DataW.weights, ht]
  refine DataW.weights_mem_each (j := i) (t := f.type) (d := (xs[i]'(by omega)).1) ?_ ?_ m hm
  · rw [List.getElem?_map]
    have : fs.toList[i]? = some f := by simpa using hf
    rw [this]; rfl
  · rw [List.getElem?_map, List.getElem?_eq_getElem (show i < xs.length by omega)]; rfl

theorem cells24 : Try.prog.cellsOf 24 = 2 := by kernel_rfl
theorem cells35 : Try.prog.cellsOf 35 = 2 := by kernel_rfl
theorem cells41 : Try.prog.cellsOf 41 = 5 := by kernel_rfl
theorem cells44 : Try.prog.cellsOf 44 = 8 := by kernel_rfl
theorem cells3 : Try.prog.cellsOf 3 = 1 := by kernel_rfl
theorem cells42 : Try.prog.cellsOf 42 = 1 := by kernel_rfl
theorem cells22 : Try.prog.cellsOf 22 = 1 := by kernel_rfl
theorem cells33 : Try.prog.cellsOf 33 = 1 := by kernel_rfl
theorem cells39 : Try.prog.cellsOf 39 = 1 := by kernel_rfl
theorem bytes44 : Try.prog.bytesOf 44 = 64 := by kernel_rfl
theorem bytes41 : Try.prog.bytesOf 41 = 56 := by kernel_rfl
theorem bytes35 : Try.prog.bytesOf 35 = 32 := by kernel_rfl
/-- Numbers that the memory can hold, and rows that fit into it. -/
structure G44 (t : S44) : Prop where
  w0 : (Lit.int .i64 t.f0).wf = true
  w1 : (Lit.int .i64 t.f1).wf = true
  w2 : (Lit.int .i64 t.f2).wf = true
  w3 : (Lit.int .i64 t.f3).wf = true
  w4 : (Lit.int .i64 t.f4).wf = true
  w5 : (Lit.int .i64 t.f5).wf = true
  w6 : (Lit.int .i64 t.f6).wf = true
  w7 : (Lit.int .u32 t.f7).wf = true
structure G41 (b : S41) : Prop where
  sz : b.f0.length * 64 ≤ reachBytes
  ts : ∀ t ∈ b.f0, G44 t
  w1 : (Lit.int .i64 b.f1).wf = true
  w2 : (Lit.int .i64 b.f2).wf = true
  w3 : (Lit.int .i64 b.f3).wf = true
  w4 : (Lit.int .i64 b.f4).wf = true
structure G35 (f : S35) : Prop where
  w0 : (Lit.int .i64 f.f0).wf = true
  sz : f.f1.length * 56 ≤ reachBytes
  bs : ∀ b ∈ f.f1, G41 b
set_option maxRecDepth 100000 in
theorem opens44 : Opens Try.prog 44 k44 G44 := by
  intro H enc w sp held fuel cs x h hw
  obtain ⟨_, _, _, _, hl, _, _⟩ := DataW.trod_struct Try.underlying44 h
  rw [cells44] at hl
  match cs, hl with
  | [v0, v1, v2, v3, v4, v5, v6, v7], _ =>
    obtain ⟨n0, e0, g0⟩ := open_field Try.underlying44 h hw 0 rfl cells3 rfl (opens_int Try.underlying3)
    obtain ⟨n1, e1, g1⟩ := open_field Try.underlying44 h hw 1 rfl cells3 rfl (opens_int Try.underlying3)
    obtain ⟨n2, e2, g2⟩ := open_field Try.underlying44 h hw 2 rfl cells3 rfl (opens_int Try.underlying3)
    obtain ⟨n3, e3, g3⟩ := open_field Try.underlying44 h hw 3 rfl cells3 rfl (opens_int Try.underlying3)
    obtain ⟨n4, e4, g4⟩ := open_field Try.underlying44 h hw 4 rfl cells3 rfl (opens_int Try.underlying3)
    obtain ⟨n5, e5, g5⟩ := open_field Try.underlying44 h hw 5 rfl cells3 rfl (opens_int Try.underlying3)
    obtain ⟨n6, e6, g6⟩ := open_field Try.underlying44 h hw 6 rfl cells3 rfl (opens_int Try.underlying3)
    obtain ⟨n7, e7, g7⟩ := open_field Try.underlying44 h hw 7 rfl cells42 rfl (opens_int Try.underlying42)
    injection e0 with e0; injection e1 with e1; injection e2 with e2; injection e3 with e3; injection e4 with e4; injection e5 with e5; injection e6 with e6; injection e7 with e7
    subst e0 e1 e2 e3 e4 e5 e6 e7
    exact ⟨⟨n0, n1, n2, n3, n4, n5, n6, n7⟩, k44_mk w _, ⟨g0, g1, g2, g3, g4, g5, g6, g7⟩⟩
set_option maxRecDepth 100000 in
theorem opens41 : Opens Try.prog 41 k41 G41 := by
  intro H enc w sp held fuel cs x h hw
  obtain ⟨_, _, _, _, hl, _, _⟩ := DataW.trod_struct Try.underlying41 h
  rw [cells41] at hl
  match cs, hl with
  | [v0, v1, v2, v3, v4], _ =>
    obtain ⟨xs, ⟨A, c, e0, l0, hC⟩, s0, _, g0⟩ := open_field Try.underlying41 h hw 0 rfl cells39 rfl (opens_slice opens44 Try.underlying39 cells44 bytes44)
    obtain ⟨n1, e1, g1⟩ := open_field Try.underlying41 h hw 1 rfl cells3 rfl (opens_int Try.underlying3)
    obtain ⟨n2, e2, g2⟩ := open_field Try.underlying41 h hw 2 rfl cells3 rfl (opens_int Try.underlying3)
    obtain ⟨n3, e3, g3⟩ := open_field Try.underlying41 h hw 3 rfl cells3 rfl (opens_int Try.underlying3)
    obtain ⟨n4, e4, g4⟩ := open_field Try.underlying41 h hw 4 rfl cells3 rfl (opens_int Try.underlying3)
    injection e0 with e0; injection e1 with e1; injection e2 with e2; injection e3 with e3; injection e4 with e4
    subst e0 e1 e2 e3 e4
    exact ⟨⟨xs, n1, n2, n3, n4⟩, k41_mk w ⟨xs, n1, n2, n3, n4⟩ l0 hC, ⟨s0, g0, g1, g2, g3, g4⟩⟩
set_option maxRecDepth 100000 in
theorem opens35 : Opens Try.prog 35 k35 G35 := by
  intro H enc w sp held fuel cs x h hw
  obtain ⟨_, _, _, _, hl, _, _⟩ := DataW.trod_struct Try.underlying35 h
  rw [cells35] at hl
  match cs, hl with
  | [v0, v1], _ =>
    obtain ⟨n0, e0, g0⟩ := open_field Try.underlying35 h hw 0 rfl cells3 rfl (opens_int Try.underlying3)
    obtain ⟨xs, ⟨A, c, e1, l1, hC⟩, s1, _, g1⟩ := open_field Try.underlying35 h hw 1 rfl cells33 rfl (opens_slice opens41 Try.underlying33 cells41 bytes41)
    injection e0 with e0; injection e1 with e1
    subst e0 e1
    exact ⟨⟨n0, xs⟩, k35_mk w ⟨n0, xs⟩ l1 hC, ⟨g0, s1, g1⟩⟩
set_option maxRecDepth 100000 in
/-- A program as an argument. -/
theorem open_prog {H : Type} {enc : TypeId × Value → H} {W : World} {base : Nat} {sp : Nat → Bool} {held : Bool} {v : Value} {d : DataW H} {ps : List MemPlace} (hv : Value.okWide Try.prog W .any base 24 v)
    (h : DataW.Trod enc Try.prog W 0 sp held 24 v d ps) (hw : ∀ n ∈ d.weights Try.prog 24, n ≤ reachBytes) :
    ∃ nw A c fs, v = .agg #[.int .i64 nw, .slice A fs.length c] ∧ fs.length ≤ c ∧ Kd.C k35 W A fs.length fs ∧ (Lit.int .i64 nw).wf = true ∧ fs.length * 32 ≤ reachBytes ∧ ∀ f ∈ fs, G35 f := by
  obtain ⟨cs, rfl, hsz⟩ := okWide_struct Try.underlying24 hv
  rw [cells24] at hsz
  obtain ⟨fuel, hf⟩ := h
  obtain ⟨cs⟩ := cs
  simp only [List.size_toArray] at hsz
  match cs, hsz with
  | [v0, v1], _ =>
    have hf : DataW.trod enc Try.prog W 0 sp held fuel 24 [v0, v1] = some (d, ps) := by simpa [Value.cells] using hf
    obtain ⟨n0, e0, g0⟩ := open_field Try.underlying24 hf hw 0 rfl cells3 rfl (opens_int Try.underlying3)
    obtain ⟨xs, ⟨A, c, e1, l1, hC⟩, s1, _, g1⟩ := open_field Try.underlying24 hf hw 1 rfl cells22 rfl (opens_slice opens35 Try.underlying22 cells35 bytes35)
    injection e0 with e0; injection e1 with e1
    subst e0 e1
    exact ⟨n0, A, c, xs, rfl, l1, hC, g0, s1, g1⟩
theorem cells31 : Try.prog.cellsOf 31 = 2 := by kernel_rfl
theorem cells5 : Try.prog.cellsOf 5 = 1 := by kernel_rfl
set_option maxRecDepth 100000 in
/-- Two small numbers as an argument. -/
theorem open_two {H : Type} {enc : TypeId × Value → H} {W : World} {base : Nat} {sp : Nat → Bool} {held : Bool} {v : Value} {d : DataW H} {ps : List MemPlace} (hv : Value.okWide Try.prog W .any base 31 v)
    (h : DataW.Trod enc Try.prog W 0 sp held 31 v d ps) : ∃ a b, v = .agg #[.int .u8 a, .int .u8 b] ∧ (Lit.int .u8 a).wf = true ∧ (Lit.int .u8 b).wf = true := by
  obtain ⟨cs, rfl, hsz⟩ : ∃ cs : Array Value, v = .agg cs ∧ cs.size = Try.prog.cellsOf 31 := by
    unfold Value.okWide at hv
    rw [Try.underlying31] at hv
    obtain ⟨cs, h1, h2, _⟩ := hv
    exact ⟨cs, h1, h2⟩
  rw [cells31] at hsz
  obtain ⟨fuel, hf⟩ := h
  obtain ⟨cs⟩ := cs
  simp only [List.size_toArray] at hsz
  match cs, hsz with
  | [v0, v1], _ =>
    have hf : DataW.trod enc Try.prog W 0 sp held fuel 31 [v0, v1] = some (d, ps) := by simpa [Value.cells] using hf
    obtain ⟨xs, m, _, _, _, hl, he⟩ := DataW.trod_array Try.underlying31 hf
    have h0 := he 0 (by omega)
    have h1 := he 1 (by omega)
    rw [cells5] at h0 h1
    rw [List.getElem?_eq_getElem (show 0 < xs.length by omega)] at h0
    rw [List.getElem?_eq_getElem (show 1 < xs.length by omega)] at h1
    obtain ⟨a, ea, _, wa⟩ := DataW.trod_int Try.underlying5 h0
    obtain ⟨b, eb, _, wb⟩ := DataW.trod_int Try.underlying5 h1
    simp at ea eb
    subst ea eb
    exact ⟨a, b, rfl, wa, wb⟩
theorem weights_at {H : Type} {P : Program} {ts : List TypeId} {ds : List (DataW H)} (h : (DataW.weightsEach P ts ds).all (· ≤ reachBytes) = true) {j : Nat} {t : TypeId} {d : DataW H} (ht : ts[j]? = some t) (hd : ds[j]? = some d) : ∀ n ∈ d.weights P t, n ≤ reachBytes := by
  intro n hn
  have := List.all_eq_true.1 h n (DataW.weights_mem_each ht hd n hn)
  simpa using this
end Go.Proofs.Ytocnkjhicbmmoaa.Q
