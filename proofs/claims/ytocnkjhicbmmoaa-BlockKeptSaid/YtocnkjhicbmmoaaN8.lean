/- What is asked of block.tac's answers, and block.Right's question over one instruction. -/
import Derived.Test.YtocnkjhicbmmoaaN3
namespace Go.Proofs.Ytocnkjhicbmmoaa.Q
open Go.RowKit Go.Proofs.YtocnkjhicbmmoaaW.PrintWords Go.Proofs.YtocnkjhicbmmoaaW.PrintLast
set_option linter.unusedVariables false
set_option linter.unusedSimpArgs false

theorem flatten_at {α : Type} {sz i : Nat} {u : α} {c : List α} : ∀ {css : List (List α)} {j : Nat}, (∀ c ∈ css, c.length = sz) → css[j]? = some c → c[i]? = some u → css.flatten[j * sz + i]? = some u
  | [], j, _, hj, _ => by simp at hj
  | a :: css, 0, hs, hj, hi => by
    simp only [List.getElem?_cons_zero, Option.some.injEq] at hj
    subst hj
    have hl : i < a.length := (List.getElem?_eq_some_iff.1 hi).1
    rw [Nat.zero_mul, Nat.zero_add, List.flatten_cons, List.getElem?_append_left hl]
    exact hi
  | a :: css, j + 1, hs, hj, hi => by
    simp only [List.getElem?_cons_succ] at hj
    have ha : a.length = sz := hs a (by simp)
    have hr := flatten_at (fun c hc => hs c (by simp [hc])) hj hi
    rw [List.flatten_cons, List.getElem?_append_right (by rw [ha, Nat.add_mul]; omega), ha, show (j + 1) * sz + i - sz = j * sz + i by rw [Nat.add_mul]; omega]
    exact hr
/-- A row that stands whole in a block. -/
theorem C_of_blk {α : Type} {d : Kd α} {W : World} {g : Nat} {t : TypeId} {xs : List α} (css : List (List Value)) {cs : Array Value} (h : W.heap[g]? = some (.cells cs t (0, 0))) (he : cs.toList = css.flatten) (hl : css.length = xs.length) (hn : xs.length ≤ 9223372036854775807)
    (hK : ∀ (i : Nat) x c, xs[i]? = some x → css[i]? = some c → d.K W x c) : Kd.C d W (some ⟨g, 0, none⟩) xs.length xs := by
  refine ⟨rfl, hn, fun _ => ⟨_, rfl, fun j p hj => ?_⟩⟩
  have hjl : j < css.length := by
    have := (List.getElem?_eq_some_iff.1 hj).1
    omega
  have hc := List.getElem?_eq_getElem hjl
  have hk := hK j p _ hj hc
  refine ⟨_, d.K_len hk, hk, fun i u hu => ?_⟩
  have hf := flatten_at (css := css) (sz := d.sz) (fun c hm => by
    obtain ⟨q, hq, rfl⟩ := List.mem_iff_getElem.1 hm
    exact d.K_len (hK q _ _ (List.getElem?_eq_getElem (show q < xs.length by omega)) (List.getElem?_eq_getElem hq))) hc hu
  have ha : (⟨g, 0, none⟩ : Addr).add (j * d.sz + i) = ⟨g, j * d.sz + i, none⟩ := by unfold Addr.add; split <;> simp_all
  rw [ha, blk_cell h, ← Array.getElem?_toList, he]
  exact hf

/-- block.tac's own variables: the program, the instruction, the number of registers. -/
structure TB (w wc : World) (nw : Int) (A : Option Addr) (n c : Nat) (op d a b k base size nn regs : Int) : Prop where
  b1 : wc.heap[w.heap.size]? = some (.cells #[.int .i64 nw, .slice A n c] 24 (0, 0))
  b2 : wc.heap[w.heap.size + 1]? = some (.cells #[.int .i64 op, .int .i64 d, .int .i64 a, .int .i64 b, .int .i64 k, .int .i64 base, .int .i64 size, .int .u32 nn] 44 (0, 0))
  b3 : wc.heap[w.heap.size + 2]? = some (.cells #[.int .i64 regs] 3 (0, 0))
  low : Below w.heap.size w wc
section
variable {w wc wd : World} {nw : Int} {A : Option Addr} {n c : Nat} {op d a b k base size nn regs : Int}
theorem TB.move (h : TB w wc nw A n c op d a b k base size nn regs) (hb : Below wc.heap.size wc wd) : TB w wd nw A n c op d a b k base size nn regs :=
  ⟨blk_below h.b1 hb, blk_below h.b2 hb, blk_below h.b3 hb, below_step h.low hb⟩
theorem TB.cells (h : TB w wc nw A n c op d a b k base size nn regs) :
    wc.cell? ⟨w.heap.size, 0, none⟩ = some (.int .i64 nw) ∧ wc.cell? ⟨w.heap.size + 1, 0, none⟩ = some (.int .i64 op) ∧ wc.cell? ⟨w.heap.size + 1, 1, none⟩ = some (.int .i64 d) ∧ wc.cell? ⟨w.heap.size + 1, 2, none⟩ = some (.int .i64 a) ∧
    wc.cell? ⟨w.heap.size + 1, 3, none⟩ = some (.int .i64 b) ∧ wc.cell? ⟨w.heap.size + 1, 4, none⟩ = some (.int .i64 k) ∧ wc.cell? ⟨w.heap.size + 1, 5, none⟩ = some (.int .i64 base) ∧ wc.cell? ⟨w.heap.size + 1, 6, none⟩ = some (.int .i64 size) ∧
    wc.cell? ⟨w.heap.size + 1, 7, none⟩ = some (.int .u32 nn) ∧ wc.cell? ⟨w.heap.size + 2, 0, none⟩ = some (.int .i64 regs) ∧ w.heap.size + 2 < wc.heap.size :=
  ⟨(blk_cell h.b1 0).trans rfl, (blk_cell h.b2 0).trans rfl, (blk_cell h.b2 1).trans rfl, (blk_cell h.b2 2).trans rfl, (blk_cell h.b2 3).trans rfl, (blk_cell h.b2 4).trans rfl, (blk_cell h.b2 5).trans rfl, (blk_cell h.b2 6).trans rfl, (blk_cell h.b2 7).trans rfl, (blk_cell h.b3 0).trans rfl, blk_lt h.b3⟩
theorem TB.start (w : World) (nw : Int) (A : Option Addr) (n c : Nat) (op d a b k base size nn regs : Int) :
    TB w (((w.alloc (.cells #[.int .i64 nw, .slice A n c] 24)).alloc (.cells #[.int .i64 op, .int .i64 d, .int .i64 a, .int .i64 b, .int .i64 k, .int .i64 base, .int .i64 size, .int .u32 nn] 44)).alloc (.cells #[.int .i64 regs] 3)) nw A n c op d a b k base size nn regs := by
  refine ⟨blk_alloc (blk_alloc (blk_new w _) _) _, ?_, ?_, below_alloc (below_alloc (below_alloc (Below.refl _ _) _) _) _⟩
  · have h := blk_alloc (blk_new (w.alloc (.cells #[.int .i64 nw, .slice A n c] 24)) (.cells #[.int .i64 op, .int .i64 d, .int .i64 a, .int .i64 b, .int .i64 k, .int .i64 base, .int .i64 size, .int .u32 nn] 44)) (.cells #[.int .i64 regs] 3)
    simpa using h
  · have h := blk_new ((w.alloc (.cells #[.int .i64 nw, .slice A n c] 24)).alloc (.cells #[.int .i64 op, .int .i64 d, .int .i64 a, .int .i64 b, .int .i64 k, .int .i64 base, .int .i64 size, .int .u32 nn] 44)) (.cells #[.int .i64 regs] 3)
    simpa using h
end
/-- block.tac answers what tb tells of all instructions of a program. -/
def TacOk (nw : Int) (fs : List S35) (A : Option Addr) (c : Nat) (tb : Int → Int → S44 → Bool) : Prop :=
  ∀ (fi : Int) (t : S44) (w : World), Kd.C k35 w A fs.length fs → 0 ≤ fi → fi < fs.length → (∃ b ∈ (rd_T35 fs fi).f1, t ∈ b.f0) →
    Calls Try.prog 50 #[.agg #[.int .i64 nw, .slice A fs.length c], .int .i64 fi, .agg #[.int .i64 t.f0, .int .i64 t.f1, .int .i64 t.f2, .int .i64 t.f3, .int .i64 t.f4, .int .i64 t.f5, .int .i64 t.f6, .int .u32 t.f7]] w fun e w' => e = .returned (.bool (tb (rd_T35 fs fi).f0 fi t)) ∧ Below w.heap.size w w'

set_option maxHeartbeats 8000000 in
set_option maxRecDepth 100000 in
theorem right1_calls (tb : Int → Int → S44 → Bool) (nw : Int) (fs : List S35) (A : Option Addr) (c : Nat) (hok : TacOk nw fs A c tb) (fi : Int) (t : S44) (B1 B2 : Nat) (w : World) (hC : Kd.C k35 w A fs.length fs) (h0 : 0 ≤ fi) (h1 : fi < fs.length) (hm : ∃ b ∈ (rd_T35 fs fi).f1, t ∈ b.f0)
    (x0 : w.cell? ⟨B1, 0, none⟩ = some (.int .i64 nw)) (x1 : w.cell? ⟨B1, 1, none⟩ = some (.slice A fs.length c)) (x2 : w.cell? ⟨B2, 0, none⟩ = some (.int .i64 fi)) (hB1 : B1 < w.heap.size) (hB2 : B2 < w.heap.size) (q : Bool) (hq : tb (rd_T35 fs fi).f0 fi t = !q) :
    Calls Try.prog 49 #[.agg #[.int .i64 t.f0, .int .i64 t.f1, .int .i64 t.f2, .int .i64 t.f3, .int .i64 t.f4, .int .i64 t.f5, .int .i64 t.f6, .int .u32 t.f7], .pointer (some ⟨B1, 0, none⟩), .pointer (some ⟨B2, 0, none⟩)] w fun e w' => e = .returned (.bool q) ∧ Below w.heap.size w w' := by
  have HT := Aside0.mk (fun W (hW : Kd.C k35 W A fs.length fs) => hok fi t W hW h0 h1 hm)
  rw [hq] at HT
  have HC := Aside0.mk hC
  clear hC hq hm hok
  go_enter Try.func49, Try.ntmps49
  go_wp2_with fail
  refine (HT.out _ ?hc).mono ?_
  case hc => exact Kd.C_alloc HC.out _
  rintro e w1 ⟨rfl, hb⟩
  have HB := Aside0.mk (below_step (below_alloc (Below.refl _ _) _) hb)
  clear hb
  go_wp2
  go_ret
  exact ⟨by simp, HB.out⟩
end Go.Proofs.Ytocnkjhicbmmoaa.Q
