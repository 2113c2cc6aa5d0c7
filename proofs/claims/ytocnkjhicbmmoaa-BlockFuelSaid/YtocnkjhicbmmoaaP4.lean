/- BlockFuel, without memory: its Lean function says true of whatever input; so the law's call answers true. -/
import Derived.Test.YtocnkjhicbmmoaaA3
import Derived.Test.YtocnkjhicbmmoaaA2
import Derived.Test.YtocnkjhicbmmoaaB4
namespace Go.Proofs.Ytocnkjhicbmmoaa.Q
open Go.RowKit Go.Proofs.YtocnkjhicbmmoaaW.PrintWords Go.Proofs.YtocnkjhicbmmoaaW.PrintLast
set_option linter.unusedVariables false
set_option linter.unusedSimpArgs false

theorem okp_last {nw : Int} {fs : List S35} (hp : OkP nw fs) : OkF nw ((fs.length - 1 : Nat) : Int) (rd_T35 fs (fs.length - 1)) := by
  have hn := hp.nf
  have he : ((fs.length : Int) - 1).toNat = fs.length - 1 := by omega
  have hg : fs[fs.length - 1]? = some (rd_T35 fs (fs.length - 1)) := by simp [rd_T35, he, List.getD_eq_getElem?_getD, List.getElem?_eq_getElem (show fs.length - 1 < fs.length by omega)]
  exact hp.fn _ _ hg
theorem okp_runok {nw : Int} {fs : List S35} (hp : OkP nw fs) (hl : fs.length ≤ 1000000) {fuel : Int} (hf : fuel ≤ 1000000) : RunOk nw fs fuel := by
  have hF := okp_last hp
  have h0 := hp.w0
  have h1 := hp.w1
  have r0 := hF.r0
  have r1 := hF.r1
  exact ⟨h0, by omega, hp.nf, r0, by omega, hf, hl⟩
/-- A run with a fuel. -/
theorem block_run_is {nw : Int} {fs : List S35} (hp : OkP nw fs) (hl : fs.length ≤ 1000000) (inp : ByteArray) (m k : Nat) (hm : m ≤ 1000000) (hk : m + 2 ≤ k) :
    block_Run.f k nw fs inp m = some ((mres fs m (mstart fs nw inp)).1, strOfNums (mres fs m (mstart fs nw inp)).2.1, ((mres fs m (mstart fs nw inp)).2.2 : Int)) := by
  obtain ⟨s', h1, h2, h3⟩ := mrun_is hp m k 0 (mstart fs nw inp) (mstart_ok hp inp) hk
  unfold block_Run.f
  rw [if_pos (okp_runok hp hl (by omega))]
  simp only [Int.zero_add] at h1
  rw [h1]
  simp only [Option.bind_some]
  rw [h2, h3]
theorem str_prefix {o1 o2 : List Int} (h : o1 <+: o2) : ((strOfNums o2).extract 0 (strOfNums o1).size).toList = (strOfNums o1).toList := by
  obtain ⟨t, rfl⟩ := h
  have : (strOfNums (o1 ++ t)).extract 0 (strOfNums o1).size = strOfNums o1 := by
    rw [strOfNums_size]
    apply ByteArray.ext
    simp [strOfNums, ByteArray.data_extract]
  rw [this]
theorem BlockFuel_pure (nw : Int) (fs : List S35) (s : ByteArray) (a b : Int) (hG : ∀ f ∈ fs, G35 f) (hs : fs.length * 32 ≤ reachBytes) (ha : 0 ≤ a ∧ a ≤ 255) (hb : 0 ≤ b ∧ b ≤ 255) : ∃ k, seedcornlaw24_BlockFuel.f k nw fs s a b = some true := by
  obtain ⟨k1, r, hk1, hr⟩ := small_is (nw := nw) s hG hs
  cases r with
  | false =>
    refine ⟨k1, ?_⟩
    unfold seedcornlaw24_BlockFuel.f
    rw [hk1]
    rfl
  | true =>
    obtain ⟨h60, hnw, hfl, hff, hp⟩ := hr rfl
    obtain ⟨n, rfl⟩ := Int.eq_ofNat_of_zero_le ha.1
    obtain ⟨m, rfl⟩ := Int.eq_ofNat_of_zero_le hb.1
    have e1 := leO_le (fun k => seedcornlaw24_small.mono _ _ _ k) (Nat.le_max_left k1 (n + m + 2)) hk1
    have w1 : wrap64 (n : Int) = n := wrap_id (by omega) (by omega)
    have w2 : wrap64 (m : Int) = m := wrap_id (by omega) (by omega)
    have w3 : wrap64 ((n : Int) + (m : Int)) = ((n + m : Nat) : Int) := by rw [wrap_id (by omega) (by omega)]; omega
    have r1 := block_run_is hp (by omega) s n (max k1 (n + m + 2)) (by omega) (by omega)
    have r2 := block_run_is hp (by omega) s (n + m) (max k1 (n + m + 2)) (by omega) (by omega)
    refine ⟨max k1 (n + m + 2), ?_⟩
    unfold seedcornlaw24_BlockFuel.f
    rw [e1]
    simp only [Option.bind_some, if_true]
    rw [w1, w2, w3, r1, r2]
    simp only [Option.bind_some, seedcornlaw24_awake.f, if_true]
    obtain ⟨g1, g2⟩ := fuel_law hp n m (mstart_ok hp s)
    by_cases h5 : (mres fs n (mstart fs nw s)).1 = 5
    · obtain ⟨q1, q2⟩ := g2 h5
      have q3 : (mres fs n (mstart fs nw s)).2.1.length ≤ (mres fs (n + m) (mstart fs nw s)).2.1.length := q2.length_le
      have z1 := strOfNums_size (mres fs n (mstart fs nw s)).2.1
      have z2 := strOfNums_size (mres fs (n + m) (mstart fs nw s)).2.1
      rw [if_pos h5, if_pos (by omega), if_pos (by omega), if_pos (by omega), if_pos (by omega), Int.toNat_natCast, str_prefix q2]
      simp
    · obtain ⟨q1, q2⟩ := g1 h5
      rw [if_neg h5, q1]
      simp
      omega
theorem walk4 (nw : Int) (A : Option Addr) (c : Nat) (fs : List S35) (s : ByteArray) (a b : Int) (w : World) (hC : Kd.C k35 w A fs.length fs) (hc : fs.length ≤ c) (wn : (Lit.int .i64 nw).wf = true) (sz : fs.length * 32 ≤ reachBytes) (hg : ∀ f ∈ fs, G35 f) (ws : s.size ≤ 140737488351232) (wa : (Lit.int .u8 a).wf = true) (wb : (Lit.int .u8 b).wf = true) :
    Calls Try.prog 4 #[.agg #[.int .i64 nw, .slice A fs.length c], .string s, .agg #[.int .u8 a, .int .u8 b]] w fun e w' => e = .returned (.bool true) ∧ Below w.heap.size w w' := by
  obtain ⟨k, h⟩ := BlockFuel_pure nw fs s a b hg sz (bounds_u8 wa) (bounds_u8 wb)
  exact seedcornlaw24_BlockFuel.calls k nw A c fs s a b w hC hc h
end Go.Proofs.Ytocnkjhicbmmoaa.Q
