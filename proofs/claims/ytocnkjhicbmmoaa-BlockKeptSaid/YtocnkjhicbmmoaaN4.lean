/- block.Right of any program. -/
import Derived.Test.YtocnkjhicbmmoaaN2
import Derived.Test.YtocnkjhicbmmoaaN6
namespace Go.Proofs.Ytocnkjhicbmmoaa.Q
open Go.RowKit Go.Proofs.YtocnkjhicbmmoaaW.PrintWords Go.Proofs.YtocnkjhicbmmoaaW.PrintLast
set_option linter.unusedVariables false
set_option linter.unusedSimpArgs false

theorem uses_some' (m : Nat) (op d a b k base size n : Int) : ∃ l, block_Uses.f (m + 1) op d a b k base size n = some l ∧ l.length ≤ 2 := by
  unfold block_Uses.f
  by_cases e2 : op = 2
  · rw [if_pos e2]; exact ⟨[a], by simp [block_Uses.j0, e2], by simp⟩
  rw [if_neg e2]
  by_cases e5 : op = 5
  · rw [if_pos e5]; exact ⟨[a], by simp [block_Uses.j0, e5], by simp⟩
  rw [if_neg e5]
  by_cases e6 : op = 6
  · rw [if_pos e6]; exact ⟨[a], by simp [block_Uses.j0, e6], by simp⟩
  rw [if_neg e6]
  by_cases e9 : op = 9
  · exact ⟨[a], by simp [block_Uses.j0, e9], by simp⟩
  by_cases e3 : op = 3
  · exact ⟨[a, b], by simp [block_Uses.j0, e3], by simp⟩
  by_cases e7 : op = 7
  · exact ⟨[a, b], by simp [block_Uses.j0, e7], by simp⟩
  exact ⟨[], by simp [block_Uses.j0, e9, e3, e7], by simp⟩
theorem uses_some (op d a b k base size n : Int) : ∃ l, block_Uses.f 9 op d a b k base size n = some l ∧ l.length ≤ 2 := uses_some' 8 op d a b k base size n
theorem sets_some (op d a b k base size n : Int) : ∃ r, block_Sets.f op d a b k base size n = some r := by
  unfold block_Sets.f
  repeat (first | exact ⟨_, rfl⟩ | split)
theorem j2_some (m : Nat) (x : Int) (q : Bool) (y0 y1 y2 y3 y4 y5 y6 y7 z0 z1 z2 z3 z4 z5 z6 z7 : Int) : (block_bare.j2 (m + 1) x q y0 y1 y2 y3 y4 y5 y6 y7 z0 z1 z2 z3 z4 z5 z6 z7).isSome = true := by
  simp only [block_bare.j2]
  repeat (first | rfl | split)
theorem l0_end (m : Nat) (l : List Int) (i : Int) (y0 y1 y2 y3 y4 y5 y6 y7 z0 z1 z2 z3 z4 z5 z6 z7 : Int) (h : (l.length : Int) ≤ i) : (block_bare.l0 (m + 2) l l.length i y0 y1 y2 y3 y4 y5 y6 y7 z0 z1 z2 z3 z4 z5 z6 z7).isSome = true := by
  rw [block_bare.l0, if_neg (by omega)]
  repeat (first | rfl | exact j2_some _ _ _ _ _ _ _ _ _ _ _ _ _ _ _ _ _ _ _ | split)
theorem l0_some (l : List Int) (hl : l.length ≤ 2) (dd : Nat) : ∀ (m : Nat) (i : Int) (y0 y1 y2 y3 y4 y5 y6 y7 z0 z1 z2 z3 z4 z5 z6 z7 : Int), 0 ≤ i → (l.length : Int) - i ≤ dd → dd + 2 ≤ m → (block_bare.l0 m l l.length i y0 y1 y2 y3 y4 y5 y6 y7 z0 z1 z2 z3 z4 z5 z6 z7).isSome = true := by
  induction dd with
  | zero =>
    intro m i y0 y1 y2 y3 y4 y5 y6 y7 z0 z1 z2 z3 z4 z5 z6 z7 h0 h1 h2
    obtain ⟨k, rfl⟩ : ∃ k, m = k + 2 := ⟨m - 2, by omega⟩
    exact l0_end _ _ _ _ _ _ _ _ _ _ _ _ _ _ _ _ _ _ _ (by omega)
  | succ dd ih =>
    intro m i y0 y1 y2 y3 y4 y5 y6 y7 z0 z1 z2 z3 z4 z5 z6 z7 h0 h1 h2
    by_cases hlt : i < (l.length : Int)
    · obtain ⟨k, rfl⟩ : ∃ k, m = k + 1 := ⟨m - 1, by omega⟩
      have hw : wrap64 (i + 1) = i + 1 := by unfold wrap64; omega
      rw [block_bare.l0, if_pos hlt, if_pos h0, if_pos hlt, hw]
      split
      · exact ih k (i + 1) _ _ _ _ _ _ _ _ _ _ _ _ _ _ _ _ (by omega) (by omega) (by omega)
      · exact ih k (i + 1) _ _ _ _ _ _ _ _ _ _ _ _ _ _ _ _ (by omega) (by omega) (by omega)
    · obtain ⟨k, rfl⟩ : ∃ k, m = k + 2 := ⟨m - 2, by omega⟩
      exact l0_end _ _ _ _ _ _ _ _ _ _ _ _ _ _ _ _ _ _ _ (by omega)
theorem j0_some (y0 y1 y2 y3 y4 y5 y6 y7 z0 z1 z2 z3 z4 z5 z6 z7 : Int) : (block_bare.j0 9 y0 y1 y2 y3 y4 y5 y6 y7 z0 z1 z2 z3 z4 z5 z6 z7).isSome = true := by
  obtain ⟨l, hu, hl⟩ := uses_some' 7 y0 y1 y2 y3 y4 y5 y6 y7
  rw [block_bare.j0, hu]
  simp only [Option.bind_some]
  exact l0_some l hl 2 8 0 _ _ _ _ _ _ _ _ _ _ _ _ _ _ _ _ (by omega) (by omega) (by omega)
theorem bare_some (op d a b k base size n : Int) : ∃ r1 r2 r3 r4 r5 r6 r7 r8, block_bare.f 9 op d a b k base size n = some (r1, r2, r3, r4, r5, r6, r7, r8) := by
  have h : (block_bare.f 9 op d a b k base size n).isSome = true := by
    unfold block_bare.f
    obtain ⟨r, hr⟩ := sets_some op d a b k base size n
    rw [hr]
    simp only [Option.bind_some]
    split
    · exact j0_some _ _ _ _ _ _ _ _ _ _ _ _ _ _ _ _
    · exact j0_some _ _ _ _ _ _ _ _ _ _ _ _ _ _ _ _
  obtain ⟨⟨r1, r2, r3, r4, r5, r6, r7, r8⟩, hr⟩ := Option.isSome_iff_exists.1 h
  exact ⟨r1, r2, r3, r4, r5, r6, r7, r8, hr⟩
/-- What block.tac answers. -/
def tacB (nw regs fi : Int) (t : S44) : Bool :=
  match block_bare.f 9 t.f0 t.f1 t.f2 t.f3 t.f4 t.f5 t.f6 t.f7, block_Uses.f 9 t.f0 t.f1 t.f2 t.f3 t.f4 t.f5 t.f6 t.f7 with
  | some r, some l => sameTac t r && (!(tacL t.f0 t.f1 l).any (outside regs) && tacR nw fi t.f0 t.f4 t.f5 t.f6)
  | _, _ => false
theorem tac_is (nw : Int) (fs : List S35) (A : Option Addr) (c : Nat) (fi : Int) (t : S44) (w : World) (hC : Kd.C k35 w A fs.length fs) (h0 : 0 ≤ fi) (h1 : fi < fs.length) (hn0 : 0 ≤ nw) (hn1 : nw ≤ 1048576) :
    Calls Try.prog 50 #[.agg #[.int .i64 nw, .slice A fs.length c], .int .i64 fi, .agg #[.int .i64 t.f0, .int .i64 t.f1, .int .i64 t.f2, .int .i64 t.f3, .int .i64 t.f4, .int .i64 t.f5, .int .i64 t.f6, .int .u32 t.f7]] w fun e w' => e = .returned (.bool (tacB nw (rd_T35 fs fi).f0 fi t)) ∧ Below w.heap.size w w' := by
  obtain ⟨r1, r2, r3, r4, r5, r6, r7, r8, hb⟩ := bare_some t.f0 t.f1 t.f2 t.f3 t.f4 t.f5 t.f6 t.f7
  obtain ⟨l, hu, hl⟩ := uses_some t.f0 t.f1 t.f2 t.f3 t.f4 t.f5 t.f6 t.f7
  exact tac_calls nw fs A c fi t.f0 t.f1 t.f2 t.f3 t.f4 t.f5 t.f6 t.f7 w hC h0 h1 r1 r2 r3 r4 r5 r6 r7 r8 hb l hu hl hn0 hn1 _ (by simp only [tacB, hb, hu, sameTac])

theorem tac_ok (nw : Int) (fs : List S35) (A : Option Addr) (c : Nat) (hn0 : 0 ≤ nw) (hn1 : nw ≤ 1048576) : TacOk nw fs A c (tacB nw) :=
  fun fi t w hC h0 h1 _ => tac_is nw fs A c fi t w hC h0 h1 hn0 hn1
/-- What block.Right answers. -/
def rightB (nw : Int) (fs : List S35) : Bool := rightBy (tacB nw) nw fs
theorem right_calls (nw : Int) (fs : List S35) (A : Option Addr) (c : Nat) (w : World) (hC : Kd.C k35 w A fs.length fs) (hc : fs.length ≤ c) :
    Calls Try.prog 22 #[.agg #[.int .i64 nw, .slice A fs.length c]] w fun e w' => e = .returned (.bool (rightB nw fs)) ∧ Below w.heap.size w w' :=
  right_by (tacB nw) nw fs A c (fun h0 h1 => tac_ok nw fs A c h0 h1) w hC hc
end Go.Proofs.Ytocnkjhicbmmoaa.Q
