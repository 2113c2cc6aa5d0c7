/-
  No cell of these rows narrows 'for every input' (looked for: loops, veiled, ifaces, maps, wideKeys, modest, calm, conditions, laid).
  DERIVED. THE GIVEN ROWS OF THIS SEAT. 14 by the template 'for every input the law returns true; each argument reads behind the call as it read before'; 0 by the template 'total and deterministic' (their statements: YtocnkjhicbmmoaaTotals.lean).
  GIVEN WITH THE SEED: the statements are not yours to turn. If you find one false, say at which input.
  Laid BY PROGRAM, IN A SANDBOX (cutbox-rows.mjs): the forced cells as the released guide's own fill.sh prints them over the translation ec246380bdb966ee… (all of the seat's roots in one cut). By AI agents, Wed Nov 11 2026. No macro, syntax, notation, axiom, sorry.
-/
import Derived.Test.YtocnkjhicbmmoaaChecked
import GoSem.Claim
import GoSem.ClaimJoined
import GoSem.ClaimMapViews
import Derived.JoinedTies
import Derived.KernelRfl
namespace Go.Proofs.Ytocnkjhicbmmoaa
/- THE CELL 'sum', in the pinned program and in every row, IS THE sha256 OF THE DUMP (.gsa) THAT YtocnkjhicbmmoaaProg.lean LOADS. Nothing in Lean hashes anything: it is a label: what it is worth is what the hold of that sum in a sandbox is worth. -/
noncomputable def Try.pinned : Pinned := { name := "ytocnkjhicbmmoaa", sum := "ec246380bdb966ee0f4822affa5346394d2b8d2e8af2f03599f64db886e42677", checked := Try.checked }
namespace Rows
def none {H : Type} : Left H := { results := [], args := [] }

/-- 'seedcornlaw24.BlockRuns': WHATEVER THE INPUT: true; the input reads as it did. -/
def blockRunsSpec : ChangeSpec := { name := "blockRuns", fn := fun _ => fun
  | [d1, d2, d3] => { results := [.lit (.bool true)], args := [d1, d2, d3] }
  | _ => none }
def blockRunsRow : OpenClaim := { program := "ytocnkjhicbmmoaa", sum := "ec246380bdb966ee0f4822affa5346394d2b8d2e8af2f03599f64db886e42677", func := "seedcorn/seedcornlaw24.BlockRuns", spec := "blockRuns", unfollowed := true, recurses := true, plainKeys := false, apart := false }
def BlockRunsSaid : Prop := blockRunsRow.holds Try.pinned (OpenSpec.ofChange blockRunsSpec)

/-- ITS FALSE NEIGHBOUR: 'it returns false'. Refute it at one input. -/
def blockRunsWrong : ChangeSpec := { name := "blockRuns", fn := fun _ => fun
  | [d1, d2, d3] => { results := [.lit (.bool false)], args := [d1, d2, d3] }
  | _ => none }
def BlockRunsWrongFalsely : Prop := blockRunsRow.holds Try.pinned (OpenSpec.ofChange blockRunsWrong)

/-- 'seedcornlaw24.BlockFuel': WHATEVER THE INPUT: true; the input reads as it did. -/
def blockFuelSpec : ChangeSpec := { name := "blockFuel", fn := fun _ => fun
  | [d1, d2, d3] => { results := [.lit (.bool true)], args := [d1, d2, d3] }
  | _ => none }
def blockFuelRow : OpenClaim := { program := "ytocnkjhicbmmoaa", sum := "ec246380bdb966ee0f4822affa5346394d2b8d2e8af2f03599f64db886e42677", func := "seedcorn/seedcornlaw24.BlockFuel", spec := "blockFuel", unfollowed := true, recurses := true, plainKeys := false, apart := false }
def BlockFuelSaid : Prop := blockFuelRow.holds Try.pinned (OpenSpec.ofChange blockFuelSpec)

/-- ITS FALSE NEIGHBOUR: 'it returns false'. Refute it at one input. -/
def blockFuelWrong : ChangeSpec := { name := "blockFuel", fn := fun _ => fun
  | [d1, d2, d3] => { results := [.lit (.bool false)], args := [d1, d2, d3] }
  | _ => none }
def BlockFuelWrongFalsely : Prop := blockFuelRow.holds Try.pinned (OpenSpec.ofChange blockFuelWrong)

/-- 'seedcornlaw24.BlockRenames': WHATEVER THE INPUT: true; the input reads as it did. -/
def blockRenamesSpec : ChangeSpec := { name := "blockRenames", fn := fun _ => fun
  | [d1, d2, d3] => { results := [.lit (.bool true)], args := [d1, d2, d3] }
  | _ => none }
def blockRenamesRow : OpenClaim := { program := "ytocnkjhicbmmoaa", sum := "ec246380bdb966ee0f4822affa5346394d2b8d2e8af2f03599f64db886e42677", func := "seedcorn/seedcornlaw24.BlockRenames", spec := "blockRenames", unfollowed := true, recurses := true, plainKeys := false, apart := false }
def BlockRenamesSaid : Prop := blockRenamesRow.holds Try.pinned (OpenSpec.ofChange blockRenamesSpec)

/-- ITS FALSE NEIGHBOUR: 'it returns false'. Refute it at one input. -/
def blockRenamesWrong : ChangeSpec := { name := "blockRenames", fn := fun _ => fun
  | [d1, d2, d3] => { results := [.lit (.bool false)], args := [d1, d2, d3] }
  | _ => none }
def BlockRenamesWrongFalsely : Prop := blockRenamesRow.holds Try.pinned (OpenSpec.ofChange blockRenamesWrong)

/-- 'seedcornlaw24.BlockIdles': WHATEVER THE INPUT: true; the input reads as it did. -/
def blockIdlesSpec : ChangeSpec := { name := "blockIdles", fn := fun _ => fun
  | [d1, d2, d3] => { results := [.lit (.bool true)], args := [d1, d2, d3] }
  | _ => none }
def blockIdlesRow : OpenClaim := { program := "ytocnkjhicbmmoaa", sum := "ec246380bdb966ee0f4822affa5346394d2b8d2e8af2f03599f64db886e42677", func := "seedcorn/seedcornlaw24.BlockIdles", spec := "blockIdles", unfollowed := true, recurses := true, plainKeys := false, apart := false }
def BlockIdlesSaid : Prop := blockIdlesRow.holds Try.pinned (OpenSpec.ofChange blockIdlesSpec)

/-- ITS FALSE NEIGHBOUR: 'it returns false'. Refute it at one input. -/
def blockIdlesWrong : ChangeSpec := { name := "blockIdles", fn := fun _ => fun
  | [d1, d2, d3] => { results := [.lit (.bool false)], args := [d1, d2, d3] }
  | _ => none }
def BlockIdlesWrongFalsely : Prop := blockIdlesRow.holds Try.pinned (OpenSpec.ofChange blockIdlesWrong)

/-- 'seedcornlaw24.BlockSplits': WHATEVER THE INPUT: true; the input reads as it did. -/
def blockSplitsSpec : ChangeSpec := { name := "blockSplits", fn := fun _ => fun
  | [d1, d2, d3] => { results := [.lit (.bool true)], args := [d1, d2, d3] }
  | _ => none }
def blockSplitsRow : OpenClaim := { program := "ytocnkjhicbmmoaa", sum := "ec246380bdb966ee0f4822affa5346394d2b8d2e8af2f03599f64db886e42677", func := "seedcorn/seedcornlaw24.BlockSplits", spec := "blockSplits", unfollowed := true, recurses := true, plainKeys := false, apart := false }
def BlockSplitsSaid : Prop := blockSplitsRow.holds Try.pinned (OpenSpec.ofChange blockSplitsSpec)

/-- ITS FALSE NEIGHBOUR: 'it returns false'. Refute it at one input. -/
def blockSplitsWrong : ChangeSpec := { name := "blockSplits", fn := fun _ => fun
  | [d1, d2, d3] => { results := [.lit (.bool false)], args := [d1, d2, d3] }
  | _ => none }
def BlockSplitsWrongFalsely : Prop := blockSplitsRow.holds Try.pinned (OpenSpec.ofChange blockSplitsWrong)

/-- 'seedcornlaw24.BlockKept': WHATEVER THE INPUT: true; the input reads as it did. -/
def blockKeptSpec : ChangeSpec := { name := "blockKept", fn := fun _ => fun
  | [d1, d2] => { results := [.lit (.bool true)], args := [d1, d2] }
  | _ => none }
def blockKeptRow : OpenClaim := { program := "ytocnkjhicbmmoaa", sum := "ec246380bdb966ee0f4822affa5346394d2b8d2e8af2f03599f64db886e42677", func := "seedcorn/seedcornlaw24.BlockKept", spec := "blockKept", unfollowed := true, recurses := true, plainKeys := false, apart := false }
def BlockKeptSaid : Prop := blockKeptRow.holds Try.pinned (OpenSpec.ofChange blockKeptSpec)

/-- ITS FALSE NEIGHBOUR: 'it returns false'. Refute it at one input. -/
def blockKeptWrong : ChangeSpec := { name := "blockKept", fn := fun _ => fun
  | [d1, d2] => { results := [.lit (.bool false)], args := [d1, d2] }
  | _ => none }
def BlockKeptWrongFalsely : Prop := blockKeptRow.holds Try.pinned (OpenSpec.ofChange blockKeptWrong)

/-- 'seedcornlaw34.ValidCheck': WHATEVER THE INPUT: true; the input reads as it did. -/
def validCheckSpec : ChangeSpec := { name := "validCheck", fn := fun _ => fun
  | [d1, d2, d3] => { results := [.lit (.bool true)], args := [d1, d2, d3] }
  | _ => none }
def validCheckRow : OpenClaim := { program := "ytocnkjhicbmmoaa", sum := "ec246380bdb966ee0f4822affa5346394d2b8d2e8af2f03599f64db886e42677", func := "seedcorn/seedcornlaw34.ValidCheck", spec := "validCheck", unfollowed := true, recurses := true, plainKeys := false, apart := false }
def ValidCheckSaid : Prop := validCheckRow.holds Try.pinned (OpenSpec.ofChange validCheckSpec)

/-- ITS FALSE NEIGHBOUR: 'it returns false'. Refute it at one input. -/
def validCheckWrong : ChangeSpec := { name := "validCheck", fn := fun _ => fun
  | [d1, d2, d3] => { results := [.lit (.bool false)], args := [d1, d2, d3] }
  | _ => none }
def ValidCheckWrongFalsely : Prop := validCheckRow.holds Try.pinned (OpenSpec.ofChange validCheckWrong)

/-- 'seedcornlaw34.ValidSelf': WHATEVER THE INPUT: true; the input reads as it did. -/
def validSelfSpec : ChangeSpec := { name := "validSelf", fn := fun _ => fun
  | [d1, d2] => { results := [.lit (.bool true)], args := [d1, d2] }
  | _ => none }
def validSelfRow : OpenClaim := { program := "ytocnkjhicbmmoaa", sum := "ec246380bdb966ee0f4822affa5346394d2b8d2e8af2f03599f64db886e42677", func := "seedcorn/seedcornlaw34.ValidSelf", spec := "validSelf", unfollowed := true, recurses := true, plainKeys := false, apart := false }
def ValidSelfSaid : Prop := validSelfRow.holds Try.pinned (OpenSpec.ofChange validSelfSpec)

/-- ITS FALSE NEIGHBOUR: 'it returns false'. Refute it at one input. -/
def validSelfWrong : ChangeSpec := { name := "validSelf", fn := fun _ => fun
  | [d1, d2] => { results := [.lit (.bool false)], args := [d1, d2] }
  | _ => none }
def ValidSelfWrongFalsely : Prop := validSelfRow.holds Try.pinned (OpenSpec.ofChange validSelfWrong)

/-- 'seedcornlaw34.ValidMeans': WHATEVER THE INPUT: true; the input reads as it did. -/
def validMeansSpec : ChangeSpec := { name := "validMeans", fn := fun _ => fun
  | [d1, d2, d3] => { results := [.lit (.bool true)], args := [d1, d2, d3] }
  | _ => none }
def validMeansRow : OpenClaim := { program := "ytocnkjhicbmmoaa", sum := "ec246380bdb966ee0f4822affa5346394d2b8d2e8af2f03599f64db886e42677", func := "seedcorn/seedcornlaw34.ValidMeans", spec := "validMeans", unfollowed := true, recurses := true, plainKeys := false, apart := false }
def ValidMeansSaid : Prop := validMeansRow.holds Try.pinned (OpenSpec.ofChange validMeansSpec)

/-- ITS FALSE NEIGHBOUR: 'it returns false'. Refute it at one input. -/
def validMeansWrong : ChangeSpec := { name := "validMeans", fn := fun _ => fun
  | [d1, d2, d3] => { results := [.lit (.bool false)], args := [d1, d2, d3] }
  | _ => none }
def ValidMeansWrongFalsely : Prop := validMeansRow.holds Try.pinned (OpenSpec.ofChange validMeansWrong)

/-- 'seedcornlaw34.ValidEnds': WHATEVER THE INPUT: true; the input reads as it did. -/
def validEndsSpec : ChangeSpec := { name := "validEnds", fn := fun _ => fun
  | [d1, d2, d3] => { results := [.lit (.bool true)], args := [d1, d2, d3] }
  | _ => none }
def validEndsRow : OpenClaim := { program := "ytocnkjhicbmmoaa", sum := "ec246380bdb966ee0f4822affa5346394d2b8d2e8af2f03599f64db886e42677", func := "seedcorn/seedcornlaw34.ValidEnds", spec := "validEnds", unfollowed := true, recurses := true, plainKeys := false, apart := false }
def ValidEndsSaid : Prop := validEndsRow.holds Try.pinned (OpenSpec.ofChange validEndsSpec)

/-- ITS FALSE NEIGHBOUR: 'it returns false'. Refute it at one input. -/
def validEndsWrong : ChangeSpec := { name := "validEnds", fn := fun _ => fun
  | [d1, d2, d3] => { results := [.lit (.bool false)], args := [d1, d2, d3] }
  | _ => none }
def ValidEndsWrongFalsely : Prop := validEndsRow.holds Try.pinned (OpenSpec.ofChange validEndsWrong)

/-- 'seedcornlaw34.ValidShapes': WHATEVER THE INPUT: true; the input reads as it did. -/
def validShapesSpec : ChangeSpec := { name := "validShapes", fn := fun _ => fun
  | [d1, d2, d3] => { results := [.lit (.bool true)], args := [d1, d2, d3] }
  | _ => none }
def validShapesRow : OpenClaim := { program := "ytocnkjhicbmmoaa", sum := "ec246380bdb966ee0f4822affa5346394d2b8d2e8af2f03599f64db886e42677", func := "seedcorn/seedcornlaw34.ValidShapes", spec := "validShapes", unfollowed := true, recurses := true, plainKeys := false, apart := false }
def ValidShapesSaid : Prop := validShapesRow.holds Try.pinned (OpenSpec.ofChange validShapesSpec)

/-- ITS FALSE NEIGHBOUR: 'it returns false'. Refute it at one input. -/
def validShapesWrong : ChangeSpec := { name := "validShapes", fn := fun _ => fun
  | [d1, d2, d3] => { results := [.lit (.bool false)], args := [d1, d2, d3] }
  | _ => none }
def ValidShapesWrongFalsely : Prop := validShapesRow.holds Try.pinned (OpenSpec.ofChange validShapesWrong)

/-- 'seedcornlaw34.ValidTurns': WHATEVER THE INPUT: true; the input reads as it did. -/
def validTurnsSpec : ChangeSpec := { name := "validTurns", fn := fun _ => fun
  | [d1, d2, d3] => { results := [.lit (.bool true)], args := [d1, d2, d3] }
  | _ => none }
def validTurnsRow : OpenClaim := { program := "ytocnkjhicbmmoaa", sum := "ec246380bdb966ee0f4822affa5346394d2b8d2e8af2f03599f64db886e42677", func := "seedcorn/seedcornlaw34.ValidTurns", spec := "validTurns", unfollowed := true, recurses := true, plainKeys := false, apart := false }
def ValidTurnsSaid : Prop := validTurnsRow.holds Try.pinned (OpenSpec.ofChange validTurnsSpec)

/-- ITS FALSE NEIGHBOUR: 'it returns false'. Refute it at one input. -/
def validTurnsWrong : ChangeSpec := { name := "validTurns", fn := fun _ => fun
  | [d1, d2, d3] => { results := [.lit (.bool false)], args := [d1, d2, d3] }
  | _ => none }
def ValidTurnsWrongFalsely : Prop := validTurnsRow.holds Try.pinned (OpenSpec.ofChange validTurnsWrong)

/-- 'seedcornlaw34.ValidChains': WHATEVER THE INPUT: true; the input reads as it did. -/
def validChainsSpec : ChangeSpec := { name := "validChains", fn := fun _ => fun
  | [d1, d2, d3] => { results := [.lit (.bool true)], args := [d1, d2, d3] }
  | _ => none }
def validChainsRow : OpenClaim := { program := "ytocnkjhicbmmoaa", sum := "ec246380bdb966ee0f4822affa5346394d2b8d2e8af2f03599f64db886e42677", func := "seedcorn/seedcornlaw34.ValidChains", spec := "validChains", unfollowed := true, recurses := true, plainKeys := false, apart := false }
def ValidChainsSaid : Prop := validChainsRow.holds Try.pinned (OpenSpec.ofChange validChainsSpec)

/-- ITS FALSE NEIGHBOUR: 'it returns false'. Refute it at one input. -/
def validChainsWrong : ChangeSpec := { name := "validChains", fn := fun _ => fun
  | [d1, d2, d3] => { results := [.lit (.bool false)], args := [d1, d2, d3] }
  | _ => none }
def ValidChainsWrongFalsely : Prop := validChainsRow.holds Try.pinned (OpenSpec.ofChange validChainsWrong)

/-- 'seedcornlaw34.ValidSpare': WHATEVER THE INPUT: true; the input reads as it did. -/
def validSpareSpec : ChangeSpec := { name := "validSpare", fn := fun _ => fun
  | [d1, d2, d3] => { results := [.lit (.bool true)], args := [d1, d2, d3] }
  | _ => none }
def validSpareRow : OpenClaim := { program := "ytocnkjhicbmmoaa", sum := "ec246380bdb966ee0f4822affa5346394d2b8d2e8af2f03599f64db886e42677", func := "seedcorn/seedcornlaw34.ValidSpare", spec := "validSpare", unfollowed := true, recurses := true, plainKeys := false, apart := false }
def ValidSpareSaid : Prop := validSpareRow.holds Try.pinned (OpenSpec.ofChange validSpareSpec)

/-- ITS FALSE NEIGHBOUR: 'it returns false'. Refute it at one input. -/
def validSpareWrong : ChangeSpec := { name := "validSpare", fn := fun _ => fun
  | [d1, d2, d3] => { results := [.lit (.bool false)], args := [d1, d2, d3] }
  | _ => none }
def ValidSpareWrongFalsely : Prop := validSpareRow.holds Try.pinned (OpenSpec.ofChange validSpareWrong)

/- THE SECOND FORM. 'bulk': how many values and letters a reading holds, each counted each time it is reached (what is shared counts as often as it is met; a slice's spare places count too). A statement '..UptoSaid' is the law's where the arguments, and the package variables that the reading takes, are together of bulk at most 1048576: NARROWER than '..Said'. Prove '..Said' where nothing that the law and all that it calls make is longer than what came in: it says more and counts as full. Else prove '..UptoSaid'. A law counts once. -/
mutual
def uptoBulk {H : Type} : DataW H → Nat
  | .lit (.string bytes) => bytes.length + 1
  | .lit _ => 1
  | .nil => 1
  | .ptr d => uptoBulk d + 1
  | .slice elems spare => uptoBulkAll elems + uptoBulkAll spare + 1
  | .agg parts => uptoBulkAll parts + 1
  | .iface _ d => uptoBulk d + 1
  | .map entries => uptoBulkEntries entries + 1
  | .held _ => 1
def uptoBulkAll {H : Type} : List (DataW H) → Nat
  | [] => 0
  | d :: r => uptoBulk d + uptoBulkAll r
def uptoBulkEntries {H : Type} : List (Lit × DataW H) → Nat
  | [] => 0
  | x :: r => uptoBulkEntry x + uptoBulkEntries r
def uptoBulkEntry {H : Type} : Lit × DataW H → Nat
  | (.string bytes, d) => bytes.length + uptoBulk d + 1
  | (_, d) => uptoBulk d + 1
 end
def uptoSmall : (H : Type) → List (DataW H) → Bool := fun _ ds => decide (uptoBulkAll ds ≤ 1048576)
def OpenSpec.upto (s : _root_.Go.ChangeSpec) : _root_.Go.OpenSpec := { _root_.Go.OpenSpec.ofChange s with cond := some uptoSmall }

/-- 'seedcornlaw24.BlockRuns', WHERE WHAT IT READS IS OF BULK AT MOST 1048576: true; the input reads as it did. -/
def blockRunsUptoRow : OpenClaim := { program := "ytocnkjhicbmmoaa", sum := "ec246380bdb966ee0f4822affa5346394d2b8d2e8af2f03599f64db886e42677", func := "seedcorn/seedcornlaw24.BlockRuns", spec := "blockRuns", unfollowed := true, recurses := true, plainKeys := false, apart := false, narrowed := true }
def BlockRunsUptoSaid : Prop := blockRunsUptoRow.holds Try.pinned (OpenSpec.upto blockRunsSpec)

/-- 'seedcornlaw24.BlockFuel', WHERE WHAT IT READS IS OF BULK AT MOST 1048576: true; the input reads as it did. -/
def blockFuelUptoRow : OpenClaim := { program := "ytocnkjhicbmmoaa", sum := "ec246380bdb966ee0f4822affa5346394d2b8d2e8af2f03599f64db886e42677", func := "seedcorn/seedcornlaw24.BlockFuel", spec := "blockFuel", unfollowed := true, recurses := true, plainKeys := false, apart := false, narrowed := true }
def BlockFuelUptoSaid : Prop := blockFuelUptoRow.holds Try.pinned (OpenSpec.upto blockFuelSpec)

/-- 'seedcornlaw24.BlockRenames', WHERE WHAT IT READS IS OF BULK AT MOST 1048576: true; the input reads as it did. -/
def blockRenamesUptoRow : OpenClaim := { program := "ytocnkjhicbmmoaa", sum := "ec246380bdb966ee0f4822affa5346394d2b8d2e8af2f03599f64db886e42677", func := "seedcorn/seedcornlaw24.BlockRenames", spec := "blockRenames", unfollowed := true, recurses := true, plainKeys := false, apart := false, narrowed := true }
def BlockRenamesUptoSaid : Prop := blockRenamesUptoRow.holds Try.pinned (OpenSpec.upto blockRenamesSpec)

/-- 'seedcornlaw24.BlockIdles', WHERE WHAT IT READS IS OF BULK AT MOST 1048576: true; the input reads as it did. -/
def blockIdlesUptoRow : OpenClaim := { program := "ytocnkjhicbmmoaa", sum := "ec246380bdb966ee0f4822affa5346394d2b8d2e8af2f03599f64db886e42677", func := "seedcorn/seedcornlaw24.BlockIdles", spec := "blockIdles", unfollowed := true, recurses := true, plainKeys := false, apart := false, narrowed := true }
def BlockIdlesUptoSaid : Prop := blockIdlesUptoRow.holds Try.pinned (OpenSpec.upto blockIdlesSpec)

/-- 'seedcornlaw24.BlockSplits', WHERE WHAT IT READS IS OF BULK AT MOST 1048576: true; the input reads as it did. -/
def blockSplitsUptoRow : OpenClaim := { program := "ytocnkjhicbmmoaa", sum := "ec246380bdb966ee0f4822affa5346394d2b8d2e8af2f03599f64db886e42677", func := "seedcorn/seedcornlaw24.BlockSplits", spec := "blockSplits", unfollowed := true, recurses := true, plainKeys := false, apart := false, narrowed := true }
def BlockSplitsUptoSaid : Prop := blockSplitsUptoRow.holds Try.pinned (OpenSpec.upto blockSplitsSpec)

/-- 'seedcornlaw24.BlockKept', WHERE WHAT IT READS IS OF BULK AT MOST 1048576: true; the input reads as it did. -/
def blockKeptUptoRow : OpenClaim := { program := "ytocnkjhicbmmoaa", sum := "ec246380bdb966ee0f4822affa5346394d2b8d2e8af2f03599f64db886e42677", func := "seedcorn/seedcornlaw24.BlockKept", spec := "blockKept", unfollowed := true, recurses := true, plainKeys := false, apart := false, narrowed := true }
def BlockKeptUptoSaid : Prop := blockKeptUptoRow.holds Try.pinned (OpenSpec.upto blockKeptSpec)

/-- 'seedcornlaw34.ValidCheck', WHERE WHAT IT READS IS OF BULK AT MOST 1048576: true; the input reads as it did. -/
def validCheckUptoRow : OpenClaim := { program := "ytocnkjhicbmmoaa", sum := "ec246380bdb966ee0f4822affa5346394d2b8d2e8af2f03599f64db886e42677", func := "seedcorn/seedcornlaw34.ValidCheck", spec := "validCheck", unfollowed := true, recurses := true, plainKeys := false, apart := false, narrowed := true }
def ValidCheckUptoSaid : Prop := validCheckUptoRow.holds Try.pinned (OpenSpec.upto validCheckSpec)

/-- 'seedcornlaw34.ValidSelf', WHERE WHAT IT READS IS OF BULK AT MOST 1048576: true; the input reads as it did. -/
def validSelfUptoRow : OpenClaim := { program := "ytocnkjhicbmmoaa", sum := "ec246380bdb966ee0f4822affa5346394d2b8d2e8af2f03599f64db886e42677", func := "seedcorn/seedcornlaw34.ValidSelf", spec := "validSelf", unfollowed := true, recurses := true, plainKeys := false, apart := false, narrowed := true }
def ValidSelfUptoSaid : Prop := validSelfUptoRow.holds Try.pinned (OpenSpec.upto validSelfSpec)

/-- 'seedcornlaw34.ValidMeans', WHERE WHAT IT READS IS OF BULK AT MOST 1048576: true; the input reads as it did. -/
def validMeansUptoRow : OpenClaim := { program := "ytocnkjhicbmmoaa", sum := "ec246380bdb966ee0f4822affa5346394d2b8d2e8af2f03599f64db886e42677", func := "seedcorn/seedcornlaw34.ValidMeans", spec := "validMeans", unfollowed := true, recurses := true, plainKeys := false, apart := false, narrowed := true }
def ValidMeansUptoSaid : Prop := validMeansUptoRow.holds Try.pinned (OpenSpec.upto validMeansSpec)

/-- 'seedcornlaw34.ValidEnds', WHERE WHAT IT READS IS OF BULK AT MOST 1048576: true; the input reads as it did. -/
def validEndsUptoRow : OpenClaim := { program := "ytocnkjhicbmmoaa", sum := "ec246380bdb966ee0f4822affa5346394d2b8d2e8af2f03599f64db886e42677", func := "seedcorn/seedcornlaw34.ValidEnds", spec := "validEnds", unfollowed := true, recurses := true, plainKeys := false, apart := false, narrowed := true }
def ValidEndsUptoSaid : Prop := validEndsUptoRow.holds Try.pinned (OpenSpec.upto validEndsSpec)

/-- 'seedcornlaw34.ValidShapes', WHERE WHAT IT READS IS OF BULK AT MOST 1048576: true; the input reads as it did. -/
def validShapesUptoRow : OpenClaim := { program := "ytocnkjhicbmmoaa", sum := "ec246380bdb966ee0f4822affa5346394d2b8d2e8af2f03599f64db886e42677", func := "seedcorn/seedcornlaw34.ValidShapes", spec := "validShapes", unfollowed := true, recurses := true, plainKeys := false, apart := false, narrowed := true }
def ValidShapesUptoSaid : Prop := validShapesUptoRow.holds Try.pinned (OpenSpec.upto validShapesSpec)

/-- 'seedcornlaw34.ValidTurns', WHERE WHAT IT READS IS OF BULK AT MOST 1048576: true; the input reads as it did. -/
def validTurnsUptoRow : OpenClaim := { program := "ytocnkjhicbmmoaa", sum := "ec246380bdb966ee0f4822affa5346394d2b8d2e8af2f03599f64db886e42677", func := "seedcorn/seedcornlaw34.ValidTurns", spec := "validTurns", unfollowed := true, recurses := true, plainKeys := false, apart := false, narrowed := true }
def ValidTurnsUptoSaid : Prop := validTurnsUptoRow.holds Try.pinned (OpenSpec.upto validTurnsSpec)

/-- 'seedcornlaw34.ValidChains', WHERE WHAT IT READS IS OF BULK AT MOST 1048576: true; the input reads as it did. -/
def validChainsUptoRow : OpenClaim := { program := "ytocnkjhicbmmoaa", sum := "ec246380bdb966ee0f4822affa5346394d2b8d2e8af2f03599f64db886e42677", func := "seedcorn/seedcornlaw34.ValidChains", spec := "validChains", unfollowed := true, recurses := true, plainKeys := false, apart := false, narrowed := true }
def ValidChainsUptoSaid : Prop := validChainsUptoRow.holds Try.pinned (OpenSpec.upto validChainsSpec)

/-- 'seedcornlaw34.ValidSpare', WHERE WHAT IT READS IS OF BULK AT MOST 1048576: true; the input reads as it did. -/
def validSpareUptoRow : OpenClaim := { program := "ytocnkjhicbmmoaa", sum := "ec246380bdb966ee0f4822affa5346394d2b8d2e8af2f03599f64db886e42677", func := "seedcorn/seedcornlaw34.ValidSpare", spec := "validSpare", unfollowed := true, recurses := true, plainKeys := false, apart := false, narrowed := true }
def ValidSpareUptoSaid : Prop := validSpareUptoRow.holds Try.pinned (OpenSpec.upto validSpareSpec)

end Rows
end Go.Proofs.Ytocnkjhicbmmoaa
