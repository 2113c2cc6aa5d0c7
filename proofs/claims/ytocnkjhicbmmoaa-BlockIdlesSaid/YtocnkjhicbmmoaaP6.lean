/- BlockIdles, without memory: its Lean function says true of whatever input; so the law's call answers true. -/
import Derived.Test.YtocnkjhicbmmoaaA9
import Derived.Test.YtocnkjhicbmmoaaA11
import Derived.Test.YtocnkjhicbmmoaaB6
namespace Go.Proofs.Ytocnkjhicbmmoaa.Q
open Go.RowKit Go.Proofs.YtocnkjhicbmmoaaW.PrintWords Go.Proofs.YtocnkjhicbmmoaaW.PrintLast
set_option linter.unusedVariables false
set_option linter.unusedSimpArgs false

theorem okp_runok6 {nw : Int} {fs : List S35} (hp : OkP nw fs) (hl : fs.length ≤ 1000000) {fuel : Int} (hf : fuel ≤ 1000000) : RunOk nw fs fuel := by
  have hn := hp.nf
  have he : ((fs.length : Int) - 1).toNat = fs.length - 1 := by omega
  have hg : fs[fs.length - 1]? = some (rd_T35 fs (fs.length - 1)) := by simp [rd_T35, he, List.getD_eq_getElem?_getD, List.getElem?_eq_getElem (show fs.length - 1 < fs.length by omega)]
  have hF := hp.fn _ _ hg
  have h0 := hp.w0
  have h1 := hp.w1
  have r0 := hF.r0
  have r1 := hF.r1
  exact ⟨h0, by omega, hp.nf, r0, by omega, hf, hl⟩
theorem block_run_is6 {nw : Int} {fs : List S35} (hp : OkP nw fs) (hl : fs.length ≤ 1000000) (inp : ByteArray) (m k : Nat) (hm : m ≤ 1000000) (hk : m + 2 ≤ k) :
    block_Run.f k nw fs inp m = some ((mres fs m (mstart fs nw inp)).1, strOfNums (mres fs m (mstart fs nw inp)).2.1, ((mres fs m (mstart fs nw inp)).2.2 : Int)) := by
  obtain ⟨s', h1, h2, h3⟩ := mrun_is hp m k 0 (mstart fs nw inp) (mstart_ok hp inp) hk
  unfold block_Run.f
  rw [if_pos (okp_runok6 hp hl (by omega))]
  simp only [Int.zero_add] at h1
  rw [h1]
  simp only [Option.bind_some]
  rw [h2, h3]
theorem take_next {α : Type} (l : List α) (z : α) (j : Nat) (h : j < l.length) : l.take (j + 1) = l.take j ++ [l.getD j z] := by
  rw [List.take_add_one, List.getElem?_eq_getElem h, List.getD_eq_getElem?_getD, List.getElem?_eq_getElem h]
  rfl
theorem wrap_back {x : Int} (h0 : 0 ≤ x) (h1 : x ≤ 4000) : wrap64 (x + 1 - 1) = x := by unfold wrap64; omega
section
variable {nw : Int} {fs : List S35} {s : ByteArray} {a : Int}
theorem idles_l1 (hl : fs.length < 300) {i : Nat} (hi : i < fs.length) (hf : FewF (rd_T35 fs i)) (h0 : 0 ≤ (rd_T35 fs i).f0) (h1 : (rd_T35 fs i).f0 ≤ 4000) (acc : List S35) (hacc : acc.length < 1000) (R : ∃ k0, ∀ k, k0 ≤ k → seedcornlaw24_BlockIdles.l0 k s a ((i : Int) + 1) nw fs nw (acc ++ [idleF (rd_T35 fs i)]) = some true) :
    ∀ (d j : Nat), (rd_T35 fs i).f1.length - j = d → j ≤ (rd_T35 fs i).f1.length → ∃ k0, ∀ k, k0 ≤ k → seedcornlaw24_BlockIdles.l1 k s a i j nw fs nw acc ((rd_T35 fs i).f0 + 1) (((rd_T35 fs i).f1.take j).map (idleB (rd_T35 fs i).f0)) = some true
  | 0, j, hd, hj => by
    obtain ⟨k0, hk0⟩ := R
    refine ⟨k0 + 1, fun k hk => ?_⟩
    obtain ⟨k, rfl⟩ : ∃ q, k = q + 1 := ⟨k - 1, by omega⟩
    have hw : wrap64 ((i : Int) + 1) = (i : Int) + 1 := by unfold wrap64; omega
    have hn := hk0 k (by omega)
    have hje : j = (rd_T35 fs i).f1.length := by omega
    have c1 : (0 ≤ (i : Int)) = True := eq_true (by omega)
    have c2 : ((i : Int) < (fs.length : Int)) = True := eq_true (by omega)
    have c3 : ((j : Int) < ((rd_T35 fs i).f1.length : Int)) = False := eq_false (by omega)
    have c4 : (acc.length < 4398046511104) = True := eq_true (by omega)
    have ht : (rd_T35 fs i).f1.take j = (rd_T35 fs i).f1 := by rw [hje, List.take_length]
    simp only [seedcornlaw24_BlockIdles.l1, c1, c2, c3, c4, if_true, if_false, hw, ht]
    exact hn
  | d + 1, j, hd, hj => by
    obtain ⟨k0, hk0⟩ := idles_l1 hl hi hf h0 h1 acc hacc R d (j + 1) (by omega) (by omega)
    refine ⟨k0 + 1, fun k hk => ?_⟩
    obtain ⟨k, rfl⟩ : ∃ q, k = q + 1 := ⟨k - 1, by omega⟩
    have hlen := hf.1
    have hb := hf.2 (rd_T41 (rd_T35 fs i).f1 j) (rd41_mem (by omega) (by omega))
    have c1 : (0 ≤ (i : Int)) = True := eq_true (by omega)
    have c2 : ((i : Int) < (fs.length : Int)) = True := eq_true (by omega)
    have c3 : ((j : Int) < ((rd_T35 fs i).f1.length : Int)) = True := eq_true (by omega)
    have c5 : (0 ≤ (j : Int)) = True := eq_true (by omega)
    have c6 : (0 + 1 + (rd_T41 (rd_T35 fs i).f1 j).f0.length < 2199023255552) = True := eq_true (by omega)
    have c7 : ((((rd_T35 fs i).f1.take j).map (idleB (rd_T35 fs i).f0)).length < 2513169434916) = True := eq_true (by rw [List.length_map, List.length_take]; omega)
    have hn := hk0 k (by omega)
    rw [take_next _ z41 j (by omega), List.map_append] at hn
    have hrd : (rd_T35 fs i).f1.getD j z41 = rd_T41 (rd_T35 fs i).f1 j := by simp [rd_T41]
    rw [hrd] at hn
    have hw : wrap64 ((j : Int) + 1) = ((j + 1 : Nat) : Int) := by unfold wrap64; omega
    have hr : wrap64 ((rd_T35 fs i).f0 + 1 - 1) = (rd_T35 fs i).f0 := wrap_back h0 h1
    simp only [seedcornlaw24_BlockIdles.l1, c1, c2, c3, c5, if_true, Option.bind_some, List.length_cons, List.length_nil, c6, c7, hw, hr]
    exact hn
theorem idles_l0 (hfew : ∀ f ∈ fs, FewF f) (hl : fs.length < 300) (hp : OkP nw fs) (E : (∀ f ∈ fs, f.f0 + 1 ≤ 4000) → ∃ k0, ∀ k, k0 ≤ k → seedcornlaw24_BlockIdles.l0 k s a fs.length nw fs nw (fs.map idleF) = some true) :
    ∀ (d i : Nat), fs.length - i = d → i ≤ fs.length → (∀ (j : Nat) f, j < i → fs[j]? = some f → f.f0 + 1 ≤ 4000) → ∃ k0, ∀ k, k0 ≤ k → seedcornlaw24_BlockIdles.l0 k s a i nw fs nw ((fs.take i).map idleF) = some true
  | 0, i, hd, hi, hall => by
    rw [show i = fs.length by omega, List.take_length]
    refine E fun f hf => ?_
    obtain ⟨j, hj, rfl⟩ := List.mem_iff_getElem.1 hf
    exact hall j _ (by omega) (List.getElem?_eq_getElem hj)
  | d + 1, i, hd, hi, hall => by
    have hil : i < fs.length := by omega
    have hm : rd_T35 fs i ∈ fs := rd35_mem (by omega) (by omega)
    have hg : fs[i]? = some (rd_T35 fs i) := by simp [rd_T35, List.getD_eq_getElem?_getD, List.getElem?_eq_getElem hil]
    have hF := hp.fn i _ hg
    have r0 := hF.r0
    have r1 := hF.r1
    have hw : wrap64 ((rd_T35 fs i).f0 + 1) = (rd_T35 fs i).f0 + 1 := by unfold wrap64; omega
    by_cases h4 : (rd_T35 fs i).f0 + 1 > 4000
    · refine ⟨1, fun k hk => ?_⟩
      obtain ⟨k, rfl⟩ : ∃ q, k = q + 1 := ⟨k - 1, by omega⟩
      simp only [seedcornlaw24_BlockIdles.l0]
      rw [if_pos (by omega), if_pos (by omega), hw, if_pos h4]
      rfl
    · have hR := idles_l0 hfew hl hp E d (i + 1) (by omega) (by omega) (fun j f hj hf => by
        rcases Nat.lt_or_ge j i with h | h
        · exact hall j f h hf
        · rw [show j = i by omega, hg] at hf
          injection hf with hf
          rw [← hf]; omega)
      rw [take_next _ z35 i hil, List.map_append, show fs.getD i z35 = rd_T35 fs i by simp [rd_T35]] at hR
      obtain ⟨k0, hk0⟩ := idles_l1 (s := s) (a := a) hl hil (hfew _ hm) r0 r1 ((fs.take i).map idleF) (by rw [List.length_map, List.length_take]; omega) (by
        obtain ⟨k0, hk0⟩ := hR
        exact ⟨k0, fun k hk => hk0 k hk⟩) (rd_T35 fs i).f1.length 0 (by omega) (by omega)
      refine ⟨k0 + 1, fun k hk => ?_⟩
      obtain ⟨k, rfl⟩ : ∃ q, k = q + 1 := ⟨k - 1, by omega⟩
      simp only [seedcornlaw24_BlockIdles.l0]
      rw [if_pos (by omega), if_pos (by omega), hw, if_neg h4]
      exact hk0 k (by omega)
end
theorem BlockIdles_pure (nw : Int) (fs : List S35) (s : ByteArray) (a : Int) (hG : ∀ f ∈ fs, G35 f) (hs : fs.length * 32 ≤ reachBytes) (ha : 0 ≤ a ∧ a ≤ 255) : ∃ k, seedcornlaw24_BlockIdles.f k nw fs s a = some true := by
  obtain ⟨k1, r, hk1, hr⟩ := small_is (nw := nw) s hG hs
  cases r with
  | false =>
    refine ⟨k1, ?_⟩
    unfold seedcornlaw24_BlockIdles.f
    rw [hk1]
    rfl
  | true =>
    obtain ⟨h60, hnw, hfl, hff, hp⟩ := hr rfl
    obtain ⟨n, rfl⟩ := Int.eq_ofNat_of_zero_le ha.1
    have w1 : wrap64 (n : Int) = n := wrap_id (by omega) (by omega)
    have w2 : wrap64 (wrap64 (2 * (n : Int)) + 2) = ((2 * n + 2 : Nat) : Int) := by unfold wrap64; omega
    obtain ⟨k2, hk2⟩ := idles_l0 (s := s) (a := (n : Int)) hff hfl hp (fun h4 => by
      have hp' := idle_ok hp h4
      refine ⟨2 * n + 5, fun k hk => ?_⟩
      obtain ⟨k, rfl⟩ : ∃ q, k = q + 1 := ⟨k - 1, by omega⟩
      have r1 := block_run_is6 hp (by omega) s n k (by omega) (by omega)
      have r2 := block_run_is6 hp' (by rw [List.length_map]; omega) s (2 * n + 2) k (by omega) (by omega)
      have hM := (fuel_law hp n 0 (mstart_ok hp s)).1
      simp only [seedcornlaw24_BlockIdles.l0]
      rw [if_neg (by omega), w1, w2, r1, r2]
      simp only [Option.bind_some, seedcornlaw24_awake.f, if_true, block_Right.f, right_of_ok hp']
      by_cases h5 : (mres fs n (mstart fs nw s)).1 = 5
      · rw [if_pos h5]
      · obtain ⟨q1, q2, q3, q4⟩ := idle_law hp hp' s n h5
        have hle := (hM h5).2
        have w3 : wrap64 (2 * ((mres fs n (mstart fs nw s)).2.2 : Int)) = 2 * ((mres fs n (mstart fs nw s)).2.2 : Int) := by unfold wrap64; omega
        rw [if_neg h5, q1, if_pos rfl, q2, if_pos rfl, if_pos (by omega), w3]
        simp
        omega) fs.length 0 (by omega) (by omega) (fun j f hj _ => by omega)
    refine ⟨max k1 k2, ?_⟩
    unfold seedcornlaw24_BlockIdles.f
    rw [leO_le (fun k => seedcornlaw24_small.mono _ _ _ k) (Nat.le_max_left k1 k2) hk1]
    simp only [Option.bind_some, if_true]
    exact hk2 _ (Nat.le_max_right k1 k2)
theorem walk6 (nw : Int) (A : Option Addr) (c : Nat) (fs : List S35) (s : ByteArray) (a : Int) (w : World) (hC : Kd.C k35 w A fs.length fs) (hc : fs.length ≤ c) (wn : (Lit.int .i64 nw).wf = true) (sz : fs.length * 32 ≤ reachBytes) (hg : ∀ f ∈ fs, G35 f) (ws : s.size ≤ 140737488351232) (wa : (Lit.int .u8 a).wf = true) :
    Calls Try.prog 6 #[.agg #[.int .i64 nw, .slice A fs.length c], .string s, .int .u8 a] w fun e w' => e = .returned (.bool true) ∧ Below w.heap.size w w' := by
  obtain ⟨k, h⟩ := BlockIdles_pure nw fs s a hg sz (bounds_u8 wa)
  exact seedcornlaw24_BlockIdles.calls k nw A c fs s a w hC hc h
end Go.Proofs.Ytocnkjhicbmmoaa.Q
