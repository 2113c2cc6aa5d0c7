/- seedcornlaw24.awake: true. -/
import Derived.Test.YtocnkjhicbmmoaaM6
import Derived.Test.YtocnkjhicbmmoaaN9
import Derived.Test.YtocnkjhicbmmoaaQ15
namespace Go.Proofs.Ytocnkjhicbmmoaa.Q
open Go.RowKit Go.Proofs.YtocnkjhicbmmoaaW.PrintWords Go.Proofs.YtocnkjhicbmmoaaW.PrintLast
set_option linter.unusedVariables false
set_option linter.unusedSimpArgs false

def awT1 : S44 := ⟨1, 0, 0, 0, 0, 0, 0, 65⟩
def awT2 : S44 := ⟨9, 0, 0, 0, 0, 0, 0, 0⟩
def awB : S41 := ⟨[awT1, awT2], 3, 0, 0, 0⟩
def awF : S35 := ⟨1, [awB]⟩
def awW (w : World) : World :=
  ((((w.alloc (.cells #[.int .i64 1, .int .i64 0, .int .i64 0, .int .i64 0, .int .i64 0, .int .i64 0, .int .i64 0, .int .u32 65, .int .i64 9, .int .i64 0, .int .i64 0, .int .i64 0, .int .i64 0, .int .i64 0, .int .i64 0, .int .u32 0] 44)).alloc
    (.cells #[.slice (some ⟨w.heap.size, 0, none⟩) 2 2, .int .i64 3, .int .i64 0, .int .i64 0, .int .i64 0] 41)).alloc
    (.cells #[.slice (some ⟨w.heap.size, 0, none⟩) 2 2, .int .i64 3, .int .i64 0, .int .i64 0, .int .i64 0] 41)).alloc
    (.cells #[.int .i64 1, .slice (some ⟨w.heap.size + 1 + 1, 0, none⟩) 1 1] 35)).alloc
    (.cells #[.int .i64 0, .slice (some ⟨w.heap.size + 1 + 1 + 1, 0, none⟩) 1 1] 24)
theorem awW_size (w : World) : (awW w).heap.size = w.heap.size + 1 + 1 + 1 + 1 + 1 := by unfold awW; simp
theorem awW_below (w : World) : Below w.heap.size w (awW w) := by
  unfold awW
  exact below_alloc (below_alloc (below_alloc (below_alloc (below_alloc (Below.refl _ _) _) _) _) _) _
theorem awW_blk (w : World) : (awW w).heap[w.heap.size + 1 + 1 + 1 + 1]? = some (.cells #[.int .i64 0, .slice (some ⟨w.heap.size + 1 + 1 + 1, 0, none⟩) 1 1] 24 (0, 0)) := by
  unfold awW
  have h := blk_new ((((w.alloc (.cells #[.int .i64 1, .int .i64 0, .int .i64 0, .int .i64 0, .int .i64 0, .int .i64 0, .int .i64 0, .int .u32 65, .int .i64 9, .int .i64 0, .int .i64 0, .int .i64 0, .int .i64 0, .int .i64 0, .int .i64 0, .int .u32 0] 44)).alloc
    (.cells #[.slice (some ⟨w.heap.size, 0, none⟩) 2 2, .int .i64 3, .int .i64 0, .int .i64 0, .int .i64 0] 41)).alloc
    (.cells #[.slice (some ⟨w.heap.size, 0, none⟩) 2 2, .int .i64 3, .int .i64 0, .int .i64 0, .int .i64 0] 41)).alloc
    (.cells #[.int .i64 1, .slice (some ⟨w.heap.size + 1 + 1, 0, none⟩) 1 1] 35)) (.cells #[.int .i64 0, .slice (some ⟨w.heap.size + 1 + 1 + 1, 0, none⟩) 1 1] 24)
  simpa using h
theorem awW_row (w : World) : Kd.C k35 (awW w) (some ⟨w.heap.size + 1 + 1 + 1, 0, none⟩) 1 [awF] := by
  have h0 := blk_new w (.cells #[.int .i64 1, .int .i64 0, .int .i64 0, .int .i64 0, .int .i64 0, .int .i64 0, .int .i64 0, .int .u32 65, .int .i64 9, .int .i64 0, .int .i64 0, .int .i64 0, .int .i64 0, .int .i64 0, .int .i64 0, .int .u32 0] 44)
  have a0 : (awW w).heap[w.heap.size]? = _ := blk_alloc (blk_alloc (blk_alloc (blk_alloc h0 _) _) _) _
  have h2 := blk_new ((w.alloc (.cells #[.int .i64 1, .int .i64 0, .int .i64 0, .int .i64 0, .int .i64 0, .int .i64 0, .int .i64 0, .int .u32 65, .int .i64 9, .int .i64 0, .int .i64 0, .int .i64 0, .int .i64 0, .int .i64 0, .int .i64 0, .int .u32 0] 44)).alloc
    (.cells #[.slice (some ⟨w.heap.size, 0, none⟩) 2 2, .int .i64 3, .int .i64 0, .int .i64 0, .int .i64 0] 41)) (.cells #[.slice (some ⟨w.heap.size, 0, none⟩) 2 2, .int .i64 3, .int .i64 0, .int .i64 0, .int .i64 0] 41)
  have a2 : (awW w).heap[_]? = _ := blk_alloc (blk_alloc h2 _) _
  have h3 := blk_new (((w.alloc (.cells #[.int .i64 1, .int .i64 0, .int .i64 0, .int .i64 0, .int .i64 0, .int .i64 0, .int .i64 0, .int .u32 65, .int .i64 9, .int .i64 0, .int .i64 0, .int .i64 0, .int .i64 0, .int .i64 0, .int .i64 0, .int .u32 0] 44)).alloc
    (.cells #[.slice (some ⟨w.heap.size, 0, none⟩) 2 2, .int .i64 3, .int .i64 0, .int .i64 0, .int .i64 0] 41)).alloc (.cells #[.slice (some ⟨w.heap.size, 0, none⟩) 2 2, .int .i64 3, .int .i64 0, .int .i64 0, .int .i64 0] 41)) (.cells #[.int .i64 1, .slice (some ⟨w.heap.size + 1 + 1, 0, none⟩) 1 1] 35)
  have a3 : (awW w).heap[_]? = _ := blk_alloc h3 _
  simp at a2 a3
  generalize awW w = W at a0 a2 a3
  have c44 : Kd.C k44 W (some ⟨w.heap.size, 0, none⟩) 2 [awT1, awT2] := C_of_blk [[.int .i64 1, .int .i64 0, .int .i64 0, .int .i64 0, .int .i64 0, .int .i64 0, .int .i64 0, .int .u32 65], [.int .i64 9, .int .i64 0, .int .i64 0, .int .i64 0, .int .i64 0, .int .i64 0, .int .i64 0, .int .u32 0]] a0 rfl rfl (by simp) (fun i x c hx hc => by
    match i, hx, hc with
    | 0, hx, hc => simp at hx hc; subst hx hc; exact k44_mk W awT1
    | 1, hx, hc => simp at hx hc; subst hx hc; exact k44_mk W awT2)
  have c41 : Kd.C k41 W (some ⟨w.heap.size + 1 + 1, 0, none⟩) 1 [awB] := C_of_blk [[.slice (some ⟨w.heap.size, 0, none⟩) 2 2, .int .i64 3, .int .i64 0, .int .i64 0, .int .i64 0]] a2 rfl rfl (by simp) (fun i x c hx hc => by
    match i, hx, hc with
    | 0, hx, hc => simp at hx hc; subst hx hc; exact k41_mk W awB (Nat.le_refl 2) c44)
  exact C_of_blk [[.int .i64 1, .slice (some ⟨w.heap.size + 1 + 1, 0, none⟩) 1 1]] a3 rfl rfl (by simp) (fun i x c hx hc => by
    match i, hx, hc with
    | 0, hx, hc => simp at hx hc; subst hx hc; exact k35_mk W awF (Nat.le_refl 1) c41)
theorem aw_run9 : ∃ s, mrun [awF] 9 20 0 (mstart [awF] 0 ⟨#[]⟩) = some (s, 3) ∧ s.en = 1 ∧ s.out = [65] := ⟨_, rfl, rfl, rfl⟩
theorem aw_run2 : ∃ s, mrun [awF] 2 20 0 (mstart [awF] 0 ⟨#[]⟩) = some (s, 2) ∧ s.en = 5 ∧ s.out = [65] := ⟨_, rfl, rfl, rfl⟩
theorem aw_tacok (A : Option Addr) (c : Nat) : TacOk 0 [awF] A c (fun _ _ _ => true) := by
  intro fi t w hC h0 h1 hm
  have hfi : fi = 0 := by simp at h1; omega
  subst hfi
  obtain ⟨b, hb, ht⟩ := hm
  have hb' : b ∈ [awB] := hb
  rw [List.mem_singleton] at hb'
  subst hb'
  have ht' : t ∈ [awT1, awT2] := ht
  rcases List.mem_cons.1 ht' with rfl | ht'
  · exact aw_tac1 [awF] A c 0 w hC h0 h1 rfl
  · rw [List.mem_singleton] at ht'
    subst ht'
    exact aw_tac2 [awF] A c 0 w hC h0 h1 rfl
theorem aw_tacno (A : Option Addr) (c : Nat) : TacOk 0 [] A c (fun _ _ _ => true) := by
  intro fi t w hC h0 h1 hm
  simp at h1
  omega
theorem aw_right : rightBy (fun _ _ _ => true) 0 [awF] = true := by decide +kernel
theorem aw_wrong : rightBy (fun _ _ _ => true) 0 [] = false := by rfl
theorem aw_size : block_Size.f 20 0 [awF] = some 3 := by decide +kernel

theorem nil35 (W : World) : Kd.C k35 W none 0 [] := ⟨rfl, by omega, fun h => absurd h (by omega)⟩
set_option maxHeartbeats 8000000 in
set_option maxRecDepth 100000 in
theorem awake24_calls (w : World) : Calls Try.prog 18 #[] w fun e w' => e = .returned (.bool true) ∧ Below w.heap.size w w' := by
  obtain ⟨s9, hr9, he9, ho9⟩ := aw_run9
  obtain ⟨s2, hr2, he2, ho2⟩ := aw_run2
  have R9 := fun W hC => run_calls 20 0 [awF] ⟨#[]⟩ 9 (some ⟨w.heap.size + 1 + 1 + 1, 0, none⟩) 1 W s9 3 hC (Nat.le_refl 1) (by decide) (by decide) (by decide) (by decide) (by decide) (by decide) (by decide) hr9
  have R2 := fun W hC => run_calls 20 0 [awF] ⟨#[]⟩ 2 (some ⟨w.heap.size + 1 + 1 + 1, 0, none⟩) 1 W s2 2 hC (Nat.le_refl 1) (by decide) (by decide) (by decide) (by decide) (by decide) (by decide) (by decide) hr2
  simp only [List.length_cons, List.length_nil, Nat.zero_add] at R9 R2
  rw [he9, ho9, show strOfNums [65] = ⟨#[65]⟩ from rfl] at R9
  rw [he2, ho2, show strOfNums [65] = ⟨#[65]⟩ from rfl] at R2
  have RT : ∀ W, Kd.C k35 W (some ⟨w.heap.size + 1 + 1 + 1, 0, none⟩) 1 [awF] → _ := fun W hC => right_by (fun _ _ _ => true) 0 [awF] (some ⟨w.heap.size + 1 + 1 + 1, 0, none⟩) 1 (fun _ _ => aw_tacok _ _) W hC (Nat.le_refl 1)
  have RN : ∀ W, Kd.C k35 W none 0 [] → _ := fun W hC => right_by (fun _ _ _ => true) 0 [] none 0 (fun _ _ => aw_tacno _ _) W hC (Nat.le_refl 0)
  have RZ : ∀ W, Kd.C k35 W (some ⟨w.heap.size + 1 + 1 + 1, 0, none⟩) 1 [awF] → _ := fun W hC => block_Size.calls 20 0 (some ⟨w.heap.size + 1 + 1 + 1, 0, none⟩) 1 [awF] 3 W hC (Nat.le_refl 1) aw_size
  simp only [List.length_cons, List.length_nil, Nat.zero_add, aw_right, aw_wrong] at RT RN RZ
  have R9 := Aside0.mk R9
  have R2 := Aside0.mk R2
  clear hr9 hr2 he9 he2 ho9 ho2
  have HC := Aside0.mk (awW_row w)
  have HB := Aside0.mk (awW_below w)
  have HK := Aside0.mk (awW_blk w)
  have HZ := Aside0.mk (awW_size w)
  go_enter Try.func18, Try.ntmps18
  go_wp2_with fail
  rw [show ((((w.alloc (.cells #[.int .i64 1, .int .i64 0, .int .i64 0, .int .i64 0, .int .i64 0, .int .i64 0, .int .i64 0, .int .u32 65, .int .i64 9, .int .i64 0, .int .i64 0, .int .i64 0, .int .i64 0, .int .i64 0, .int .i64 0, .int .u32 0] 44)).alloc
    (.cells #[.slice (some ⟨w.heap.size, 0, none⟩) 2 2, .int .i64 3, .int .i64 0, .int .i64 0, .int .i64 0] 41)).alloc
    (.cells #[.slice (some ⟨w.heap.size, 0, none⟩) 2 2, .int .i64 3, .int .i64 0, .int .i64 0, .int .i64 0] 41)).alloc
    (.cells #[.int .i64 1, .slice (some ⟨w.heap.size + 1 + 1, 0, none⟩) 1 1] 35)).alloc
    (.cells #[.int .i64 0, .slice (some ⟨w.heap.size + 1 + 1 + 1, 0, none⟩) 1 1] 24) = awW w from rfl]
  with_reducible refine (R9.out _ HC.out).mono ?_
  rintro e w6 ⟨rfl, hb⟩
  have K6 := Aside0.mk (blk_below HK.out hb)
  have C6 := Aside0.mk (Kd.C_below HC.out hb)
  have B6 := Aside0.mk (below_step HB.out hb)
  clear hb HC HB HK
  have c0 := (blk_cell K6.out 0).trans rfl
  have c1 := (blk_cell K6.out 1).trans rfl
  have l0 := blk_lt K6.out
  go_wp2_with fail
  have HR := blk_new w6 (.cells #[.int .i64 1, .string ⟨#[65]⟩, .int .i64 3] 28)
  with_reducible refine (R2.out _ (Kd.C_alloc C6.out _)).mono ?_
  rintro e w7 ⟨rfl, hb⟩
  have K7 := Aside0.mk (blk_below (blk_alloc K6.out _) hb)
  have C7 := Aside0.mk (Kd.C_below (Kd.C_alloc C6.out _) hb)
  have B7 := Aside0.mk (below_step (below_alloc B6.out _) hb)
  have X7 := Aside0.mk (blk_below HR hb)
  clear hb HR K6 C6 B6 R9 R2 c0 c1 l0
  obtain ⟨g6, hg6⟩ : ∃ g6, g6 = w6.heap.size := ⟨_, rfl⟩
  rw [← hg6] at X7 ⊢
  clear hg6
  have c0 := (blk_cell K7.out 0).trans rfl
  have c1 := (blk_cell K7.out 1).trans rfl
  have l0 := blk_lt K7.out
  have x0 := (blk_cell X7.out 0).trans rfl
  have x1 := (blk_cell X7.out 1).trans rfl
  have x2 := (blk_cell X7.out 2).trans rfl
  have l1 := blk_lt X7.out
  have RT := Aside0.mk RT
  have RN := Aside0.mk RN
  have RZ := Aside0.mk RZ
  go_wp2_with fail
  have HR := blk_new w7 (.cells #[.int .i64 5, .string ⟨#[65]⟩, .int .i64 2] 28)
  with_reducible refine (RT.out _ (Kd.C_alloc C7.out _)).mono ?_
  rintro e w8 ⟨rfl, hb⟩
  have K8 := Aside0.mk (blk_below (blk_alloc K7.out _) hb)
  have C8 := Aside0.mk (Kd.C_below (Kd.C_alloc C7.out _) hb)
  have B8 := Aside0.mk (below_step (below_alloc B7.out _) hb)
  have X8 := Aside0.mk (blk_below (blk_alloc X7.out _) hb)
  have Y8 := Aside0.mk (blk_below HR hb)
  clear hb HR K7 C7 B7 X7 c0 c1 l0 x0 x1 x2 l1 RT
  obtain ⟨g7, hg7⟩ : ∃ g7, g7 = w7.heap.size := ⟨_, rfl⟩
  rw [← hg7] at Y8 ⊢
  clear hg7
  go_wp2_with fail
  with_reducible refine (RN.out _ (nil35 _)).mono ?_
  rintro e w9 ⟨rfl, hb⟩
  have K9 := Aside0.mk (blk_below K8.out hb)
  have C9 := Aside0.mk (Kd.C_below C8.out hb)
  have B9 := Aside0.mk (below_step B8.out hb)
  have X9 := Aside0.mk (blk_below X8.out hb)
  have Y9 := Aside0.mk (blk_below Y8.out hb)
  clear hb K8 C8 B8 X8 Y8 RN
  have c0 := (blk_cell K9.out 0).trans rfl
  have c1 := (blk_cell K9.out 1).trans rfl
  go_wp2_with fail
  with_reducible refine (RZ.out _ C9.out).mono ?_
  rintro e w10 ⟨rfl, hb⟩
  have B10 := Aside0.mk (below_step B9.out hb)
  have X10 := Aside0.mk (blk_below X9.out hb)
  have Y10 := Aside0.mk (blk_below Y9.out hb)
  clear hb K9 C9 B9 X9 Y9 RZ c0 c1
  have x0 := (blk_cell X10.out 0).trans rfl
  have x1 := (blk_cell X10.out 1).trans rfl
  have x2 := (blk_cell X10.out 2).trans rfl
  have y0 := (blk_cell Y10.out 0).trans rfl
  have y1 := (blk_cell Y10.out 1).trans rfl
  have y2 := (blk_cell Y10.out 2).trans rfl
  go_wp2
  go_ret
  exact ⟨rfl, B10.out⟩
end Go.Proofs.Ytocnkjhicbmmoaa.Q
