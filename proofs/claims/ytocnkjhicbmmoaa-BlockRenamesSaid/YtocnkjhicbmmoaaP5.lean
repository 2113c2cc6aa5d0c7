/- BlockRenames, without memory: its Lean function says true of whatever input; so the law's call answers true. -/
import Derived.Test.YtocnkjhicbmmoaaA9
import Derived.Test.YtocnkjhicbmmoaaA13
import Derived.Test.YtocnkjhicbmmoaaB5
namespace Go.Proofs.Ytocnkjhicbmmoaa.Q
open Go.RowKit Go.Proofs.YtocnkjhicbmmoaaW.PrintWords Go.Proofs.YtocnkjhicbmmoaaW.PrintLast
set_option linter.unusedVariables false
set_option linter.unusedSimpArgs false

theorem block_run_is5 {nw : Int} {fs : List S35} (hp : OkP nw fs) (hl : fs.length ≤ 1000000) (inp : ByteArray) (m k : Nat) (hm : m ≤ 1000000) (hk : m + 2 ≤ k) :
    block_Run.f k nw fs inp m = some ((mres fs m (mstart fs nw inp)).1, strOfNums (mres fs m (mstart fs nw inp)).2.1, ((mres fs m (mstart fs nw inp)).2.2 : Int)) := by
  obtain ⟨s', h1, h2, h3⟩ := mrun_is hp m k 0 (mstart fs nw inp) (mstart_ok hp inp) hk
  have hn := hp.nf
  have he : ((fs.length : Int) - 1).toNat = fs.length - 1 := by omega
  have hg : fs[fs.length - 1]? = some (rd_T35 fs (fs.length - 1)) := by simp [rd_T35, he, List.getD_eq_getElem?_getD, List.getElem?_eq_getElem (show fs.length - 1 < fs.length by omega)]
  have hF := hp.fn _ _ hg
  have w0 := hp.w0
  have w1 := hp.w1
  have r0 := hF.r0
  have r1 := hF.r1
  have ho : RunOk nw fs m := ⟨w0, by omega, hp.nf, r0, by omega, by omega, hl⟩
  unfold block_Run.f
  rw [if_pos ho]
  simp only [Int.zero_add] at h1
  rw [h1]
  simp only [Option.bind_some]
  rw [h2, h3]
theorem take_next5 {α : Type} (l : List α) (z : α) (j : Nat) (h : j < l.length) : l.take (j + 1) = l.take j ++ [l.getD j z] := by
  rw [List.take_add_one, List.getElem?_eq_getElem h, List.getD_eq_getElem?_getD, List.getElem?_eq_getElem h]
  rfl
theorem turned_is {v n : Int} (h0 : 0 ≤ v) (h1 : v ≤ 4000) (h2 : 0 ≤ n) (h3 : n ≤ 4000) : seedcornlaw24_turned.f v n = some (n - 1 - v) := by
  unfold seedcornlaw24_turned.f
  congr 1
  unfold wrap64
  omega
theorem wrap_up {j : Nat} (h : j < 1000) : wrap64 ((j : Int) + 1) = ((j + 1 : Nat) : Int) := by unfold wrap64; omega
/-- One instruction: what Uses and Sets say of it, and what comes of it. -/
theorem ren_ins {nw fi n : Int} {t : S44} (hf : fitT nw fi n t = true) (hn0 : 0 ≤ n) (hn1 : n ≤ 4000) {x4 x7 : Int} {x6 : List S44} {nb : Int} {bs acc : List S41} {na : Int} {tl : List S44} {e1 e2 e3 e4 : Int} (hl : x6.length < 2199023255552) {k : Nat} {R : Option (Int × List S41)}
    (h : seedcornlaw24_rename.l1 (k + 1) x4 (x6 ++ [renT n t]) (wrap64 (x7 + 1)) n bs na acc tl e1 e2 e3 e4 = R) :
    ((seedcornref24_Uses.f (k + 2) t.f0 t.f1 t.f2 t.f3 t.f4 t.f5 t.f6 t.f7).bind fun t136 => ((seedcornref24_Sets.f t.f0 t.f1 t.f2 t.f3 t.f4 t.f5 t.f6 t.f7).bind fun t139 => (if t139 ≥ 0 then ((seedcornlaw24_turned.f t.f1 n).bind fun t140 => (seedcornlaw24_rename.j3 (k + 2) x4 x6 x7 t136 n bs na acc tl e1 e2 e3 e4 t.f0 t140 t.f2 t.f3 t.f4 t.f5 t.f6 t.f7)) else (seedcornlaw24_rename.j3 (k + 2) x4 x6 x7 t136 n bs na acc tl e1 e2 e3 e4 t.f0 t.f1 t.f2 t.f3 t.f4 t.f5 t.f6 t.f7)))) = R := by
  obtain ⟨op, d, a, b, kk, base, size, m⟩ := t
  have c : (x6.length < 2199023255552) = True := eq_true hl
  unfold fitT fitsB at hf
  simp only at hf h ⊢
  by_cases e : op = 1
  · subst e
    simp [isB] at hf
    have td := turned_is (v := d) (n := n) (by omega) (by omega) hn0 hn1
    have hd : (0 ≤ d) = True := eq_true (by omega)
    simp [seedcornref24_Uses.f, seedcornref24_Uses.j0, seedcornref24_Sets.f, seedcornlaw24_rename.j3, c, td, hd]
    exact h
  have f1 := e
  clear e
  by_cases e : op = 2
  · subst e
    simp [isB] at hf
    have td := turned_is (v := d) (n := n) (by omega) (by omega) hn0 hn1
    have hd : (0 ≤ d) = True := eq_true (by omega)
    have ta := turned_is (v := a) (n := n) (by omega) (by omega) hn0 hn1
    simp [seedcornref24_Uses.f, seedcornref24_Uses.j0, seedcornref24_Sets.f, seedcornlaw24_rename.j3, c, td, hd, ta]
    exact h
  have f2 := e
  clear e
  by_cases e : op = 3
  · subst e
    simp [isB] at hf
    have td := turned_is (v := d) (n := n) (by omega) (by omega) hn0 hn1
    have hd : (0 ≤ d) = True := eq_true (by omega)
    have ta := turned_is (v := a) (n := n) (by omega) (by omega) hn0 hn1
    have tb := turned_is (v := b) (n := n) (by omega) (by omega) hn0 hn1
    simp [seedcornref24_Uses.f, seedcornref24_Uses.j0, seedcornref24_Sets.f, seedcornlaw24_rename.j3, c, td, hd, ta, tb]
    exact h
  have f3 := e
  clear e
  by_cases e : op = 4
  · subst e
    simp [isB] at hf
    have td := turned_is (v := d) (n := n) (by omega) (by omega) hn0 hn1
    have hd : (0 ≤ d) = True := eq_true (by omega)
    simp [seedcornref24_Uses.f, seedcornref24_Uses.j0, seedcornref24_Sets.f, seedcornlaw24_rename.j3, c, td, hd]
    exact h
  have f4 := e
  clear e
  by_cases e : op = 5
  · subst e
    simp [isB] at hf
    have ta := turned_is (v := a) (n := n) (by omega) (by omega) hn0 hn1
    simp [seedcornref24_Uses.f, seedcornref24_Uses.j0, seedcornref24_Sets.f, seedcornlaw24_rename.j3, c, ta]
    exact h
  have e5 := e
  clear e
  by_cases e : op = 6
  · subst e
    simp [isB] at hf
    have td := turned_is (v := d) (n := n) (by omega) (by omega) hn0 hn1
    have hd : (0 ≤ d) = True := eq_true (by omega)
    have ta := turned_is (v := a) (n := n) (by omega) (by omega) hn0 hn1
    simp [seedcornref24_Uses.f, seedcornref24_Uses.j0, seedcornref24_Sets.f, seedcornlaw24_rename.j3, c, td, hd, ta]
    exact h
  have e6 := e
  clear e
  by_cases e : op = 7
  · subst e
    simp [isB] at hf
    have ta := turned_is (v := a) (n := n) (by omega) (by omega) hn0 hn1
    have tb := turned_is (v := b) (n := n) (by omega) (by omega) hn0 hn1
    simp [seedcornref24_Uses.f, seedcornref24_Uses.j0, seedcornref24_Sets.f, seedcornlaw24_rename.j3, c, ta, tb]
    exact h
  have e7 := e
  clear e
  by_cases e : op = 8
  · subst e
    simp [isB] at hf
    have td := turned_is (v := d) (n := n) (by omega) (by omega) hn0 hn1
    have hd : (0 ≤ d) = True := eq_true (by omega)
    simp [seedcornref24_Uses.f, seedcornref24_Uses.j0, seedcornref24_Sets.f, seedcornlaw24_rename.j3, c, td, hd]
    exact h
  have e8 := e
  clear e
  by_cases e : op = 9
  · subst e
    simp [isB] at hf
    have ta := turned_is (v := a) (n := n) (by omega) (by omega) hn0 hn1
    simp [seedcornref24_Uses.f, seedcornref24_Uses.j0, seedcornref24_Sets.f, seedcornlaw24_rename.j3, c, ta]
    exact h
  have e9 := e
  clear e
  by_cases e : op = 10
  · subst e
    simp [isB] at hf
    simp [seedcornref24_Uses.f, seedcornref24_Uses.j0, seedcornref24_Sets.f, seedcornlaw24_rename.j3, c]
    exact h
  have e10 := e
  clear e
  simp [f1, f2, f3, f4, e5, e6, e7, e8, e9, e10] at hf
theorem wrap_one {j : Nat} (h : j < 1000000) : wrap64 ((j : Int) + 1) = ((j + 1 : Nat) : Int) := by unfold wrap64; omega
section
variable {nw : Int} {R : Option (Int × List S41)}
theorem ren_l1 {fi n : Int} (hn0 : 0 ≤ n) (hn1 : n ≤ 4000) {bs : List S41} {i : Nat} {l : List S44} (hl : l.length < 1000) (hfit : ∀ t ∈ l, fitT nw fi n t = true) (hi : i < 1000) {acc : List S41} (hacc : acc.length < 1000) {e1 v e3 e4 : Int}
    (H : ∃ k0, ∀ k, k0 ≤ k → seedcornlaw24_rename.l0 k ((i + 1 : Nat) : Int) n bs n (acc ++ [⟨l.map (renT n), e1, v, e3, e4⟩]) = R) :
    ∀ (d j : Nat), l.length - j = d → j ≤ l.length → ∃ k0, ∀ k, k0 ≤ k → seedcornlaw24_rename.l1 k i ((l.take j).map (renT n)) j n bs n acc l e1 v e3 e4 = R
  | 0, j, hd, hj => by
    obtain ⟨k0, hk0⟩ := H
    refine ⟨k0 + 1, fun k hk => ?_⟩
    obtain ⟨k, rfl⟩ : ∃ q, k = q + 1 := ⟨k - 1, by omega⟩
    have hje : j = l.length := by omega
    have c3 : ((j : Int) < (l.length : Int)) = False := eq_false (by omega)
    have c4 : (acc.length < 2513169434916) = True := eq_true (by omega)
    have ht : l.take j = l := by rw [hje, List.take_length]
    have hk1 := hk0 k (by omega)
    have hw := wrap_one (j := i) (by omega)
    simp only [seedcornlaw24_rename.l1, c3, c4, if_true, if_false, hw, ht]
    exact hk1
  | d + 1, j, hd, hj => by
    obtain ⟨k0, hk0⟩ := ren_l1 hn0 hn1 hl hfit hi hacc H d (j + 1) (by omega) (by omega)
    refine ⟨k0 + 4, fun k hk => ?_⟩
    obtain ⟨k, rfl⟩ : ∃ q, k = q + 3 := ⟨k - 3, by omega⟩
    have hjl : j < l.length := by omega
    have hm : l.getD j z44 ∈ l := by
      rw [List.getD_eq_getElem?_getD, List.getElem?_eq_getElem hjl]
      exact List.getElem_mem hjl
    have hrd : rd_T44 l j = l.getD j z44 := by simp [rd_T44]
    have c1 : (0 ≤ (j : Int)) = True := eq_true (by omega)
    have c3 : ((j : Int) < (l.length : Int)) = True := eq_true (by omega)
    have hx : ((l.take j).map (renT n)).length < 2199023255552 := by rw [List.length_map, List.length_take]; omega
    have hk1 := hk0 (k + 1) (by omega)
    rw [take_next5 _ z44 j hjl, List.map_append, ← wrap_one (j := j) (by omega)] at hk1
    have hz := ren_ins (nb := 0) (x4 := i) (x7 := j) (bs := bs) (na := n) (acc := acc) (tl := l) (e1 := e1) (e2 := v) (e3 := e3) (e4 := e4) (hfit _ hm) hn0 hn1 hx hk1
    simp only [seedcornlaw24_rename.l1, c1, c3, if_true, hrd]
    exact hz
theorem ren_l0 {fi : Int} {nb : Int} {n : Int} (hn0 : 0 ≤ n) (hn1 : n ≤ 4000) {bs : List S41} (hbl : bs.length < 300) (hlen : ∀ b ∈ bs, b.f0.length < 300) (hfit : ∀ b ∈ bs, endB nb n b.f1 b.f2 b.f3 b.f4 = true ∧ ∀ t ∈ b.f0, fitT nw fi n t = true) :
    ∀ (d i : Nat), bs.length - i = d → i ≤ bs.length → ∃ k0, ∀ k, k0 ≤ k → seedcornlaw24_rename.l0 k i n bs n ((bs.take i).map (renB n)) = some (n, bs.map (renB n))
  | 0, i, hd, hi => by
    refine ⟨1, fun k hk => ?_⟩
    obtain ⟨k, rfl⟩ : ∃ q, k = q + 1 := ⟨k - 1, by omega⟩
    have hje : i = bs.length := by omega
    have c3 : ((i : Int) < (bs.length : Int)) = False := eq_false (by omega)
    have ht : bs.take i = bs := by rw [hje, List.take_length]
    simp only [seedcornlaw24_rename.l0, c3, if_false, ht]
  | d + 1, i, hd, hi => by
    have hil : i < bs.length := by omega
    have hm : rd_T41 bs i ∈ bs := rd41_mem (by omega) (by omega)
    have hrd : bs.getD i z41 = rd_T41 bs i := by simp [rd_T41]
    have hR := ren_l0 hn0 hn1 hbl hlen hfit d (i + 1) (by omega) (by omega)
    rw [take_next5 _ z41 i hil, List.map_append, hrd] at hR
    obtain ⟨hen, hin⟩ := hfit _ hm
    have hb := hlen _ hm
    generalize hbe : rd_T41 bs i = b at *
    have hacc : ((bs.take i).map (renB n)).length < 1000 := by rw [List.length_map, List.length_take]; omega
    obtain ⟨k0, hk0⟩ := ren_l1 (i := i) hn0 hn1 (by omega) hin (by omega) hacc hR b.f0.length 0 (by omega) (by omega)
    refine ⟨k0 + 2, fun k hk => ?_⟩
    obtain ⟨k, rfl⟩ : ∃ q, k = q + 2 := ⟨k - 2, by omega⟩
    have c1 : (0 ≤ (i : Int)) = True := eq_true (by omega)
    have c3 : ((i : Int) < (bs.length : Int)) = True := eq_true (by omega)
    have hk1 := hk0 k (by omega)
    by_cases e2 : b.f1 = 2
    · have hv : 0 ≤ b.f2 ∧ b.f2 < n := by
        unfold endB at hen
        rw [e2] at hen
        simp [isB] at hen
        omega
      have td := turned_is (v := b.f2) (n := n) (by omega) (by omega) hn0 hn1
      rw [if_pos e2] at hk1
      have c5 : (b.f1 = 2) = True := eq_true e2
      simp only [seedcornlaw24_rename.l0, seedcornlaw24_rename.j1, c1, c3, if_true, hbe, c5, td, Option.bind_some]
      exact hk1
    · rw [if_neg e2] at hk1
      have c5 : (b.f1 = 2) = False := eq_false e2
      simp only [seedcornlaw24_rename.l0, seedcornlaw24_rename.j1, c1, c3, if_true, if_false, hbe, c5]
      exact hk1
end
theorem rename_is {nw : Int} {i : Nat} {f : S35} (hF : OkF nw i f) (hfew : FewF f) : ∃ k0, ∀ k, k0 ≤ k → seedcornlaw24_rename.f k f.f0 f.f1 = some (f.f0, f.f1.map (renB f.f0)) := by
  have r0 := hF.r0
  have r1 := hF.r1
  obtain ⟨k0, h⟩ := ren_l0 (nw := nw) (fi := i) (nb := f.f1.length) (n := f.f0) r0 r1 hfew.1 hfew.2 (fun b hb => ⟨(hF.bs b hb).en, fun t ht => ((hF.bs b hb).ins t ht).1⟩) f.f1.length 0 (by omega) (by omega)
  exact ⟨k0, fun k hk => h k hk⟩
section
variable {nw : Int} {fs : List S35} {s : ByteArray} {a : Int}
theorem renames_l0 (hfew : ∀ f ∈ fs, FewF f) (hl : fs.length < 300) (hp : OkP nw fs) (E : ∃ k0, ∀ k, k0 ≤ k → seedcornlaw24_BlockRenames.l0 k s a fs.length nw fs nw (fs.map renF) = some true) :
    ∀ (d i : Nat), fs.length - i = d → i ≤ fs.length → ∃ k0, ∀ k, k0 ≤ k → seedcornlaw24_BlockRenames.l0 k s a i nw fs nw ((fs.take i).map renF) = some true
  | 0, i, hd, hi => by
    rw [show i = fs.length by omega, List.take_length]
    exact E
  | d + 1, i, hd, hi => by
    have hil : i < fs.length := by omega
    have hm : rd_T35 fs i ∈ fs := rd35_mem (by omega) (by omega)
    have hg : fs[i]? = some (rd_T35 fs i) := by simp [rd_T35, List.getD_eq_getElem?_getD, List.getElem?_eq_getElem hil]
    obtain ⟨k1, hk1⟩ := rename_is (hp.fn i _ hg) (hfew _ hm)
    obtain ⟨k2, hk2⟩ := renames_l0 hfew hl hp E d (i + 1) (by omega) (by omega)
    rw [take_next5 _ z35 i hil, List.map_append, show fs.getD i z35 = rd_T35 fs i by simp [rd_T35]] at hk2
    refine ⟨max k1 k2 + 1, fun k hk => ?_⟩
    obtain ⟨k, rfl⟩ : ∃ q, k = q + 1 := ⟨k - 1, by omega⟩
    have q1 := hk1 k (by omega)
    have q2 := hk2 k (by omega)
    have c1 : (0 ≤ (i : Int)) = True := eq_true (by omega)
    have c3 : ((i : Int) < (fs.length : Int)) = True := eq_true (by omega)
    have c4 : (((fs.take i).map renF).length < 4398046511104) = True := eq_true (by rw [List.length_map, List.length_take]; omega)
    have hw := wrap_one (j := i) (by omega)
    simp only [seedcornlaw24_BlockRenames.l0, c1, c3, c4, if_true, q1, Option.bind_some, hw]
    exact q2
end
theorem BlockRenames_pure (nw : Int) (fs : List S35) (s : ByteArray) (a : Int) (hG : ∀ f ∈ fs, G35 f) (hs : fs.length * 32 ≤ reachBytes) (ha : 0 ≤ a ∧ a ≤ 255) : ∃ k, seedcornlaw24_BlockRenames.f k nw fs s a = some true := by
  obtain ⟨k1, r, hk1, hr⟩ := small_is (nw := nw) s hG hs
  cases r with
  | false =>
    refine ⟨k1, ?_⟩
    unfold seedcornlaw24_BlockRenames.f
    rw [hk1]
    rfl
  | true =>
    obtain ⟨h60, hnw, hfl, hff, hp⟩ := hr rfl
    obtain ⟨n, rfl⟩ := Int.eq_ofNat_of_zero_le ha.1
    have hp' := ren_ok hp
    have w1 : wrap64 (n : Int) = n := wrap_id (by omega) (by omega)
    obtain ⟨k2, hk2⟩ := renames_l0 (s := s) (a := (n : Int)) hff hfl hp (by
      refine ⟨n + 3, fun k hk => ?_⟩
      obtain ⟨k, rfl⟩ : ∃ q, k = q + 1 := ⟨k - 1, by omega⟩
      have r1 := block_run_is5 hp (by omega) s n k (by omega) (by omega)
      have r2 := block_run_is5 hp' (by rw [List.length_map]; omega) s n k (by omega) (by omega)
      rw [ren_law hp s n] at r2
      have c3 : ((fs.length : Int) < (fs.length : Int)) = False := eq_false (by omega)
      simp only [seedcornlaw24_BlockRenames.l0, c3, if_false, seedcornlaw24_awake.f, Option.bind_some, if_true, block_Right.f, right_of_ok hp', w1, r1, r2]
      simp) fs.length 0 (by omega) (by omega)
    refine ⟨max k1 k2, ?_⟩
    unfold seedcornlaw24_BlockRenames.f
    rw [leO_le (fun k => seedcornlaw24_small.mono _ _ _ k) (Nat.le_max_left k1 k2) hk1]
    simp only [Option.bind_some, if_true]
    exact hk2 _ (Nat.le_max_right k1 k2)
theorem walk5 (nw : Int) (A : Option Addr) (c : Nat) (fs : List S35) (s : ByteArray) (a : Int) (w : World) (hC : Kd.C k35 w A fs.length fs) (hc : fs.length ≤ c) (wn : (Lit.int .i64 nw).wf = true) (sz : fs.length * 32 ≤ reachBytes) (hg : ∀ f ∈ fs, G35 f) (ws : s.size ≤ 140737488351232) (wa : (Lit.int .u8 a).wf = true) :
    Calls Try.prog 5 #[.agg #[.int .i64 nw, .slice A fs.length c], .string s, .int .u8 a] w fun e w' => e = .returned (.bool true) ∧ Below w.heap.size w w' := by
  obtain ⟨k, h⟩ := BlockRenames_pure nw fs s a hg sz (bounds_u8 wa)
  exact seedcornlaw24_BlockRenames.calls k nw A c fs s a w hC hc h
end Go.Proofs.Ytocnkjhicbmmoaa.Q
