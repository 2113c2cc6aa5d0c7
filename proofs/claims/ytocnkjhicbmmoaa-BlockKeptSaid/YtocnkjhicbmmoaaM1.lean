/- block's (*machine).place: the place of an array's word, or the run's end. -/
import Derived.Test.YtocnkjhicbmmoaaM0
namespace Go.Proofs.Ytocnkjhicbmmoaa.Q
open Go.RowKit Go.Proofs.YtocnkjhicbmmoaaW.PrintWords Go.Proofs.YtocnkjhicbmmoaaW.PrintLast
set_option linter.unusedVariables false
set_option linter.unusedSimpArgs false

def tacV (t : S44) : Value := .agg #[.int .i64 t.f0, .int .i64 t.f1, .int .i64 t.f2, .int .i64 t.f3, .int .i64 t.f4, .int .i64 t.f5, .int .i64 t.f6, .int .u32 t.f7]

set_option maxHeartbeats 8000000 in
set_option maxRecDepth 100000 in
theorem place_in (g : Nat) (t : S44) (i : Int) (w : World) (hi : i < t.f6 % 4294967296) :
    Calls Try.prog 71 #[.pointer (some ⟨g, 0, none⟩), tacV t, .int .u32 i] w fun e w' => e = .returned (.tuple #[.int .i64 (wrap64 (t.f5 + wrap64 i)), .bool true]) ∧ ∃ o, w' = w.alloc o := by
  have hd : decide (t.f6 % 4294967296 ≤ i) = false := by simpa using hi
  unfold tacV
  go_enter Try.func71, Try.ntmps71
  go_wp2
  go_ret2
  exact ⟨rfl, _, rfl⟩
set_option maxHeartbeats 8000000 in
set_option maxRecDepth 100000 in
theorem place_out (g : Nat) (t : S44) (i : Int) (w : World) (hi : ¬ i < t.f6 % 4294967296) {cs : Array Value} (hm : w.heap[g]? = some (.cells cs 68 (0, 0))) {en : Int} (hs : cs[6]? = some (.int .i64 en)) :
    Calls Try.prog 71 #[.pointer (some ⟨g, 0, none⟩), tacV t, .int .u32 i] w fun e w' => e = .returned (.tuple #[.int .i64 0, .bool false]) ∧ ∃ o, w' = (w.setCell ⟨g, 6, none⟩ (.int .i64 3)).alloc o := by
  have hd : decide (t.f6 % 4294967296 ≤ i) = true := by simp; omega
  have hg := blk_lt hm
  have hc : w.cell? ⟨g, 6, none⟩ = some (.int .i64 en) := (blk_cell hm 6).trans hs
  have hf := blk_frozen hm 6
  clear hm hs
  unfold tacV
  go_enter Try.func71, Try.ntmps71
  go_wp2
  go_ret2
  exact ⟨rfl, _, rfl⟩
end Go.Proofs.Ytocnkjhicbmmoaa.Q
