/-
  No cell of these rows narrows 'for every input' (looked for: loops, veiled, ifaces, maps, wideKeys, modest, calm, conditions, laid).
  DERIVED. THE GIVEN ROWS OF THIS SEAT. 8 by the template 'for every input the law returns true; each argument reads behind the call as it read before'; 0 by the template 'total and deterministic' (their statements: YtggpaahhgchloaaGreatTotals.lean).
  GIVEN WITH THE SEED: the statements are not yours to turn. If you find one false, say at which input.
  Laid BY PROGRAM, IN A SANDBOX (cutbox-rows.mjs): the forced cells as the released guide's own fill.sh prints them over the translation fd460fae632367da… (all of the seat's roots in one cut). By AI agents, Wed Nov 11 2026. No macro, syntax, notation, axiom, sorry.
-/
import Derived.Test.YtggpaahhgchloaaGreatChecked
import GoSem.Claim
import GoSem.ClaimJoined
import GoSem.ClaimMapViews
import Derived.JoinedTies
import Derived.KernelRfl
namespace Go.Proofs.YtggpaahhgchloaaGreat
/- THE CELL 'sum', in the pinned program and in every row, IS THE sha256 OF THE DUMP (.gsa) THAT YtggpaahhgchloaaGreatProg.lean LOADS. Nothing in Lean hashes anything: it is a label: what it is worth is what the hold of that sum in a sandbox is worth. -/
noncomputable def Tryz.pinned : Pinned := { name := "ytggpaahhgchloaagreat", sum := "fd460fae632367da996857fd7de9abd1ff1fc0a3bcdb0892173c41fc6334a5f9", checked := Tryz.checked }
namespace Rows
def none {H : Type} : Left H := { results := [], args := [] }

/-- 'hopmeshlaw26.TransactionReceives': WHATEVER THE INPUT: true; the input reads as it did. -/
def transactionReceivesSpec : ChangeSpec := { name := "transactionReceives", fn := fun _ => fun
  | [d1, d2, d3, d4] => { results := [.lit (.bool true)], args := [d1, d2, d3, d4] }
  | _ => none }
def transactionReceivesRow : OpenClaim := { program := "ytggpaahhgchloaagreat", sum := "fd460fae632367da996857fd7de9abd1ff1fc0a3bcdb0892173c41fc6334a5f9", func := "hopmesh/hopmeshlaw26.TransactionReceives", spec := "transactionReceives", inPlace := ["slices.overlaps[hopmesh/api.TableCell]"], unfollowed := true, recurses := true, apart := false }
def TransactionReceivesSaid : Prop := transactionReceivesRow.holds Tryz.pinned (OpenSpec.ofChange transactionReceivesSpec)

/-- ITS FALSE NEIGHBOUR: 'it returns false'. Refute it at one input. -/
def transactionReceivesWrong : ChangeSpec := { name := "transactionReceives", fn := fun _ => fun
  | [d1, d2, d3, d4] => { results := [.lit (.bool false)], args := [d1, d2, d3, d4] }
  | _ => none }
def TransactionReceivesWrongFalsely : Prop := transactionReceivesRow.holds Tryz.pinned (OpenSpec.ofChange transactionReceivesWrong)

/-- 'hopmeshlaw27.ConsistencyExchanges': WHATEVER THE INPUT: true; the input reads as it did. -/
def consistencyExchangesSpec : ChangeSpec := { name := "consistencyExchanges", fn := fun _ => fun
  | [d1, d2, d3, d4] => { results := [.lit (.bool true)], args := [d1, d2, d3, d4] }
  | _ => none }
def consistencyExchangesRow : OpenClaim := { program := "ytggpaahhgchloaagreat", sum := "fd460fae632367da996857fd7de9abd1ff1fc0a3bcdb0892173c41fc6334a5f9", func := "hopmesh/hopmeshlaw27.ConsistencyExchanges", spec := "consistencyExchanges", inPlace := ["slices.overlaps[hopmesh/api.TableCell]"], unfollowed := true, recurses := true, apart := false }
def ConsistencyExchangesSaid : Prop := consistencyExchangesRow.holds Tryz.pinned (OpenSpec.ofChange consistencyExchangesSpec)

/-- ITS FALSE NEIGHBOUR: 'it returns false'. Refute it at one input. -/
def consistencyExchangesWrong : ChangeSpec := { name := "consistencyExchanges", fn := fun _ => fun
  | [d1, d2, d3, d4] => { results := [.lit (.bool false)], args := [d1, d2, d3, d4] }
  | _ => none }
def ConsistencyExchangesWrongFalsely : Prop := consistencyExchangesRow.holds Tryz.pinned (OpenSpec.ofChange consistencyExchangesWrong)

/-- 'hopmeshlaw27.ConsistencyPlays': WHATEVER THE INPUT: true; the input reads as it did. -/
def consistencyPlaysSpec : ChangeSpec := { name := "consistencyPlays", fn := fun _ => fun
  | [d1, d2] => { results := [.lit (.bool true)], args := [d1, d2] }
  | _ => none }
def consistencyPlaysRow : OpenClaim := { program := "ytggpaahhgchloaagreat", sum := "fd460fae632367da996857fd7de9abd1ff1fc0a3bcdb0892173c41fc6334a5f9", func := "hopmesh/hopmeshlaw27.ConsistencyPlays", spec := "consistencyPlays", inPlace := ["slices.overlaps[hopmesh/api.TableCell]"], unfollowed := true, recurses := true, apart := false }
def ConsistencyPlaysSaid : Prop := consistencyPlaysRow.holds Tryz.pinned (OpenSpec.ofChange consistencyPlaysSpec)

/-- ITS FALSE NEIGHBOUR: 'it returns false'. Refute it at one input. -/
def consistencyPlaysWrong : ChangeSpec := { name := "consistencyPlays", fn := fun _ => fun
  | [d1, d2] => { results := [.lit (.bool false)], args := [d1, d2] }
  | _ => none }
def ConsistencyPlaysWrongFalsely : Prop := consistencyPlaysRow.holds Tryz.pinned (OpenSpec.ofChange consistencyPlaysWrong)

/-- 'hopmeshlaw28.RepairCouples': WHATEVER THE INPUT: true; the input reads as it did. -/
def repairCouplesSpec : ChangeSpec := { name := "repairCouples", fn := fun _ => fun
  | [d1, d2, d3, d4] => { results := [.lit (.bool true)], args := [d1, d2, d3, d4] }
  | _ => none }
def repairCouplesRow : OpenClaim := { program := "ytggpaahhgchloaagreat", sum := "fd460fae632367da996857fd7de9abd1ff1fc0a3bcdb0892173c41fc6334a5f9", func := "hopmesh/hopmeshlaw28.RepairCouples", spec := "repairCouples", inPlace := ["slices.overlaps[hopmesh/api.TableCell]"], unfollowed := true, recurses := true, apart := false }
def RepairCouplesSaid : Prop := repairCouplesRow.holds Tryz.pinned (OpenSpec.ofChange repairCouplesSpec)

/-- ITS FALSE NEIGHBOUR: 'it returns false'. Refute it at one input. -/
def repairCouplesWrong : ChangeSpec := { name := "repairCouples", fn := fun _ => fun
  | [d1, d2, d3, d4] => { results := [.lit (.bool false)], args := [d1, d2, d3, d4] }
  | _ => none }
def RepairCouplesWrongFalsely : Prop := repairCouplesRow.holds Tryz.pinned (OpenSpec.ofChange repairCouplesWrong)

/-- 'hopmeshlaw28.RepairSteps': WHATEVER THE INPUT: true; the input reads as it did. -/
def repairStepsSpec : ChangeSpec := { name := "repairSteps", fn := fun _ => fun
  | [d1, d2] => { results := [.lit (.bool true)], args := [d1, d2] }
  | _ => none }
def repairStepsRow : OpenClaim := { program := "ytggpaahhgchloaagreat", sum := "fd460fae632367da996857fd7de9abd1ff1fc0a3bcdb0892173c41fc6334a5f9", func := "hopmesh/hopmeshlaw28.RepairSteps", spec := "repairSteps", inPlace := ["slices.overlaps[hopmesh/api.TableCell]"], unfollowed := true, recurses := true, apart := false }
def RepairStepsSaid : Prop := repairStepsRow.holds Tryz.pinned (OpenSpec.ofChange repairStepsSpec)

/-- ITS FALSE NEIGHBOUR: 'it returns false'. Refute it at one input. -/
def repairStepsWrong : ChangeSpec := { name := "repairSteps", fn := fun _ => fun
  | [d1, d2] => { results := [.lit (.bool false)], args := [d1, d2] }
  | _ => none }
def RepairStepsWrongFalsely : Prop := repairStepsRow.holds Tryz.pinned (OpenSpec.ofChange repairStepsWrong)

/-- 'hopmeshlaw28.RepairQuiet': WHATEVER THE INPUT: true; the input reads as it did. -/
def repairQuietSpec : ChangeSpec := { name := "repairQuiet", fn := fun _ => fun
  | [d1, d2] => { results := [.lit (.bool true)], args := [d1, d2] }
  | _ => none }
def repairQuietRow : OpenClaim := { program := "ytggpaahhgchloaagreat", sum := "fd460fae632367da996857fd7de9abd1ff1fc0a3bcdb0892173c41fc6334a5f9", func := "hopmesh/hopmeshlaw28.RepairQuiet", spec := "repairQuiet", inPlace := ["slices.overlaps[hopmesh/api.TableCell]"], unfollowed := true, recurses := true, apart := false }
def RepairQuietSaid : Prop := repairQuietRow.holds Tryz.pinned (OpenSpec.ofChange repairQuietSpec)

/-- ITS FALSE NEIGHBOUR: 'it returns false'. Refute it at one input. -/
def repairQuietWrong : ChangeSpec := { name := "repairQuiet", fn := fun _ => fun
  | [d1, d2] => { results := [.lit (.bool false)], args := [d1, d2] }
  | _ => none }
def RepairQuietWrongFalsely : Prop := repairQuietRow.holds Tryz.pinned (OpenSpec.ofChange repairQuietWrong)

/-- 'hopmeshlaw28.RepairRuns': WHATEVER THE INPUT: true; the input reads as it did. -/
def repairRunsSpec : ChangeSpec := { name := "repairRuns", fn := fun _ => fun
  | [d1, d2] => { results := [.lit (.bool true)], args := [d1, d2] }
  | _ => none }
def repairRunsRow : OpenClaim := { program := "ytggpaahhgchloaagreat", sum := "fd460fae632367da996857fd7de9abd1ff1fc0a3bcdb0892173c41fc6334a5f9", func := "hopmesh/hopmeshlaw28.RepairRuns", spec := "repairRuns", inPlace := ["slices.overlaps[hopmesh/api.TableCell]"], unfollowed := true, recurses := true, apart := false }
def RepairRunsSaid : Prop := repairRunsRow.holds Tryz.pinned (OpenSpec.ofChange repairRunsSpec)

/-- ITS FALSE NEIGHBOUR: 'it returns false'. Refute it at one input. -/
def repairRunsWrong : ChangeSpec := { name := "repairRuns", fn := fun _ => fun
  | [d1, d2] => { results := [.lit (.bool false)], args := [d1, d2] }
  | _ => none }
def RepairRunsWrongFalsely : Prop := repairRunsRow.holds Tryz.pinned (OpenSpec.ofChange repairRunsWrong)

/-- 'hopmeshlaw28.RepairNothingLost': WHATEVER THE INPUT: true; the input reads as it did. -/
def repairNothingLostSpec : ChangeSpec := { name := "repairNothingLost", fn := fun _ => fun
  | [d1, d2, d3, d4, d5] => { results := [.lit (.bool true)], args := [d1, d2, d3, d4, d5] }
  | _ => none }
def repairNothingLostRow : OpenClaim := { program := "ytggpaahhgchloaagreat", sum := "fd460fae632367da996857fd7de9abd1ff1fc0a3bcdb0892173c41fc6334a5f9", func := "hopmesh/hopmeshlaw28.RepairNothingLost", spec := "repairNothingLost", inPlace := ["slices.overlaps[hopmesh/api.TableCell]"], unfollowed := true, recurses := true, apart := false }
def RepairNothingLostSaid : Prop := repairNothingLostRow.holds Tryz.pinned (OpenSpec.ofChange repairNothingLostSpec)

/-- ITS FALSE NEIGHBOUR: 'it returns false'. Refute it at one input. -/
def repairNothingLostWrong : ChangeSpec := { name := "repairNothingLost", fn := fun _ => fun
  | [d1, d2, d3, d4, d5] => { results := [.lit (.bool false)], args := [d1, d2, d3, d4, d5] }
  | _ => none }
def RepairNothingLostWrongFalsely : Prop := repairNothingLostRow.holds Tryz.pinned (OpenSpec.ofChange repairNothingLostWrong)

/- THE SECOND FORM. 'bulk': how many values and letters a reading holds, each counted each time it is reached (what is shared counts as often as it is met; a slice's spare places count too). A statement '..UptoSaid' is the law's where the arguments, and the package variables that the reading takes, are together of bulk at most 1048576: NARROWER than '..Said'. Prove '..Said' where nothing that the law and all that it calls make is longer than what came in: it says more and counts as full. Else prove '..UptoSaid'. A law counts once. -/
mutual
def uptoBulk {H : Type} : DataW H → Nat
  | .lit (.string bytes) => bytes.length + 1
  | .lit _ => 1
  | .nil => 1
  | .ptr d => uptoBulk d + 1
  | .slice elems spare => uptoBulkAll elems + uptoBulkAll spare + 1
  | .agg parts => uptoBulkAll parts + 1
  | .iface _ d => uptoBulk d + 1
  | .map entries => uptoBulkEntries entries + 1
  | .held _ => 1
def uptoBulkAll {H : Type} : List (DataW H) → Nat
  | [] => 0
  | d :: r => uptoBulk d + uptoBulkAll r
def uptoBulkEntries {H : Type} : List (Lit × DataW H) → Nat
  | [] => 0
  | x :: r => uptoBulkEntry x + uptoBulkEntries r
def uptoBulkEntry {H : Type} : Lit × DataW H → Nat
  | (.string bytes, d) => bytes.length + uptoBulk d + 1
  | (_, d) => uptoBulk d + 1
 end
def uptoSmall : (H : Type) → List (DataW H) → Bool := fun _ ds => decide (uptoBulkAll ds ≤ 1048576)
def OpenSpec.upto (s : _root_.Go.ChangeSpec) : _root_.Go.OpenSpec := { _root_.Go.OpenSpec.ofChange s with cond := some uptoSmall }

/-- 'hopmeshlaw26.TransactionReceives', WHERE WHAT IT READS IS OF BULK AT MOST 1048576: true; the input reads as it did. -/
def transactionReceivesUptoRow : OpenClaim := { program := "ytggpaahhgchloaagreat", sum := "fd460fae632367da996857fd7de9abd1ff1fc0a3bcdb0892173c41fc6334a5f9", func := "hopmesh/hopmeshlaw26.TransactionReceives", spec := "transactionReceives", inPlace := ["slices.overlaps[hopmesh/api.TableCell]"], unfollowed := true, recurses := true, apart := false, narrowed := true }
def TransactionReceivesUptoSaid : Prop := transactionReceivesUptoRow.holds Tryz.pinned (OpenSpec.upto transactionReceivesSpec)

/-- 'hopmeshlaw27.ConsistencyExchanges', WHERE WHAT IT READS IS OF BULK AT MOST 1048576: true; the input reads as it did. -/
def consistencyExchangesUptoRow : OpenClaim := { program := "ytggpaahhgchloaagreat", sum := "fd460fae632367da996857fd7de9abd1ff1fc0a3bcdb0892173c41fc6334a5f9", func := "hopmesh/hopmeshlaw27.ConsistencyExchanges", spec := "consistencyExchanges", inPlace := ["slices.overlaps[hopmesh/api.TableCell]"], unfollowed := true, recurses := true, apart := false, narrowed := true }
def ConsistencyExchangesUptoSaid : Prop := consistencyExchangesUptoRow.holds Tryz.pinned (OpenSpec.upto consistencyExchangesSpec)

/-- 'hopmeshlaw27.ConsistencyPlays', WHERE WHAT IT READS IS OF BULK AT MOST 1048576: true; the input reads as it did. -/
def consistencyPlaysUptoRow : OpenClaim := { program := "ytggpaahhgchloaagreat", sum := "fd460fae632367da996857fd7de9abd1ff1fc0a3bcdb0892173c41fc6334a5f9", func := "hopmesh/hopmeshlaw27.ConsistencyPlays", spec := "consistencyPlays", inPlace := ["slices.overlaps[hopmesh/api.TableCell]"], unfollowed := true, recurses := true, apart := false, narrowed := true }
def ConsistencyPlaysUptoSaid : Prop := consistencyPlaysUptoRow.holds Tryz.pinned (OpenSpec.upto consistencyPlaysSpec)

/-- 'hopmeshlaw28.RepairCouples', WHERE WHAT IT READS IS OF BULK AT MOST 1048576: true; the input reads as it did. -/
def repairCouplesUptoRow : OpenClaim := { program := "ytggpaahhgchloaagreat", sum := "fd460fae632367da996857fd7de9abd1ff1fc0a3bcdb0892173c41fc6334a5f9", func := "hopmesh/hopmeshlaw28.RepairCouples", spec := "repairCouples", inPlace := ["slices.overlaps[hopmesh/api.TableCell]"], unfollowed := true, recurses := true, apart := false, narrowed := true }
def RepairCouplesUptoSaid : Prop := repairCouplesUptoRow.holds Tryz.pinned (OpenSpec.upto repairCouplesSpec)

/-- 'hopmeshlaw28.RepairSteps', WHERE WHAT IT READS IS OF BULK AT MOST 1048576: true; the input reads as it did. -/
def repairStepsUptoRow : OpenClaim := { program := "ytggpaahhgchloaagreat", sum := "fd460fae632367da996857fd7de9abd1ff1fc0a3bcdb0892173c41fc6334a5f9", func := "hopmesh/hopmeshlaw28.RepairSteps", spec := "repairSteps", inPlace := ["slices.overlaps[hopmesh/api.TableCell]"], unfollowed := true, recurses := true, apart := false, narrowed := true }
def RepairStepsUptoSaid : Prop := repairStepsUptoRow.holds Tryz.pinned (OpenSpec.upto repairStepsSpec)

/-- 'hopmeshlaw28.RepairQuiet', WHERE WHAT IT READS IS OF BULK AT MOST 1048576: true; the input reads as it did. -/
def repairQuietUptoRow : OpenClaim := { program := "ytggpaahhgchloaagreat", sum := "fd460fae632367da996857fd7de9abd1ff1fc0a3bcdb0892173c41fc6334a5f9", func := "hopmesh/hopmeshlaw28.RepairQuiet", spec := "repairQuiet", inPlace := ["slices.overlaps[hopmesh/api.TableCell]"], unfollowed := true, recurses := true, apart := false, narrowed := true }
def RepairQuietUptoSaid : Prop := repairQuietUptoRow.holds Tryz.pinned (OpenSpec.upto repairQuietSpec)

/-- 'hopmeshlaw28.RepairRuns', WHERE WHAT IT READS IS OF BULK AT MOST 1048576: true; the input reads as it did. -/
def repairRunsUptoRow : OpenClaim := { program := "ytggpaahhgchloaagreat", sum := "fd460fae632367da996857fd7de9abd1ff1fc0a3bcdb0892173c41fc6334a5f9", func := "hopmesh/hopmeshlaw28.RepairRuns", spec := "repairRuns", inPlace := ["slices.overlaps[hopmesh/api.TableCell]"], unfollowed := true, recurses := true, apart := false, narrowed := true }
def RepairRunsUptoSaid : Prop := repairRunsUptoRow.holds Tryz.pinned (OpenSpec.upto repairRunsSpec)

/-- 'hopmeshlaw28.RepairNothingLost', WHERE WHAT IT READS IS OF BULK AT MOST 1048576: true; the input reads as it did. -/
def repairNothingLostUptoRow : OpenClaim := { program := "ytggpaahhgchloaagreat", sum := "fd460fae632367da996857fd7de9abd1ff1fc0a3bcdb0892173c41fc6334a5f9", func := "hopmesh/hopmeshlaw28.RepairNothingLost", spec := "repairNothingLost", inPlace := ["slices.overlaps[hopmesh/api.TableCell]"], unfollowed := true, recurses := true, apart := false, narrowed := true }
def RepairNothingLostUptoSaid : Prop := repairNothingLostUptoRow.holds Tryz.pinned (OpenSpec.upto repairNothingLostSpec)

end Rows
end Go.Proofs.YtggpaahhgchloaaGreat
