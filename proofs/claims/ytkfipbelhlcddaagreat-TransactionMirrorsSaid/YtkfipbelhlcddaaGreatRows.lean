/-
  No cell of these rows narrows 'for every input' (looked for: loops, veiled, ifaces, maps, wideKeys, modest, calm, conditions, laid).
  DERIVED. THE GIVEN ROWS OF THIS SEAT. 8 by the template 'for every input the law returns true; each argument reads behind the call as it read before'; 0 by the template 'total and deterministic' (their statements: YtkfipbelhlcddaaGreatTotals.lean).
  GIVEN WITH THE SEED: the statements are not yours to turn. If you find one false, say at which input.
  Laid BY PROGRAM, IN A SANDBOX (cutbox-rows.mjs): the forced cells as the released guide's own fill.sh prints them over the translation f074971d68b0ed27… (all of the seat's roots in one cut). By AI agents, Wed Nov 11 2026. No macro, syntax, notation, axiom, sorry.
-/
import Derived.Test.YtkfipbelhlcddaaGreatChecked
import GoSem.Claim
import GoSem.ClaimJoined
import GoSem.ClaimMapViews
import Derived.JoinedTies
import Derived.KernelRfl
namespace Go.Proofs.YtkfipbelhlcddaaGreat
/- THE CELL 'sum', in the pinned program and in every row, IS THE sha256 OF THE DUMP (.gsa) THAT YtkfipbelhlcddaaGreatProg.lean LOADS. Nothing in Lean hashes anything: it is a label: what it is worth is what the hold of that sum in a sandbox is worth. -/
noncomputable def Tryz.pinned : Pinned := { name := "ytkfipbelhlcddaagreat", sum := "f074971d68b0ed27bd4897b794a26b819fca3654a9144f16c256e05da7953c0f", checked := Tryz.checked }
namespace Rows
def none {H : Type} : Left H := { results := [], args := [] }

/-- 'hopmeshlaw26.TransactionReceives': WHATEVER THE INPUT: true; the input reads as it did. -/
def transactionReceivesSpec : ChangeSpec := { name := "transactionReceives", fn := fun _ => fun
  | [d1, d2, d3, d4] => { results := [.lit (.bool true)], args := [d1, d2, d3, d4] }
  | _ => none }
def transactionReceivesRow : OpenClaim := { program := "ytkfipbelhlcddaagreat", sum := "f074971d68b0ed27bd4897b794a26b819fca3654a9144f16c256e05da7953c0f", func := "hopmesh/hopmeshlaw26.TransactionReceives", spec := "transactionReceives", inPlace := ["slices.overlaps[hopmesh/api.TableCell]"], unfollowed := true, recurses := true, apart := false }
def TransactionReceivesSaid : Prop := transactionReceivesRow.holds Tryz.pinned (OpenSpec.ofChange transactionReceivesSpec)

/-- ITS FALSE NEIGHBOUR: 'it returns false'. Refute it at one input. -/
def transactionReceivesWrong : ChangeSpec := { name := "transactionReceives", fn := fun _ => fun
  | [d1, d2, d3, d4] => { results := [.lit (.bool false)], args := [d1, d2, d3, d4] }
  | _ => none }
def TransactionReceivesWrongFalsely : Prop := transactionReceivesRow.holds Tryz.pinned (OpenSpec.ofChange transactionReceivesWrong)

/-- 'hopmeshlaw26.TransactionFinishes': WHATEVER THE INPUT: true; the input reads as it did. -/
def transactionFinishesSpec : ChangeSpec := { name := "transactionFinishes", fn := fun _ => fun
  | [d1, d2] => { results := [.lit (.bool true)], args := [d1, d2] }
  | _ => none }
def transactionFinishesRow : OpenClaim := { program := "ytkfipbelhlcddaagreat", sum := "f074971d68b0ed27bd4897b794a26b819fca3654a9144f16c256e05da7953c0f", func := "hopmesh/hopmeshlaw26.TransactionFinishes", spec := "transactionFinishes", inPlace := ["slices.overlaps[hopmesh/api.TableCell]"], unfollowed := true, recurses := true, apart := false }
def TransactionFinishesSaid : Prop := transactionFinishesRow.holds Tryz.pinned (OpenSpec.ofChange transactionFinishesSpec)

/-- ITS FALSE NEIGHBOUR: 'it returns false'. Refute it at one input. -/
def transactionFinishesWrong : ChangeSpec := { name := "transactionFinishes", fn := fun _ => fun
  | [d1, d2] => { results := [.lit (.bool false)], args := [d1, d2] }
  | _ => none }
def TransactionFinishesWrongFalsely : Prop := transactionFinishesRow.holds Tryz.pinned (OpenSpec.ofChange transactionFinishesWrong)

/-- 'hopmeshlaw26.TransactionMirrors': WHATEVER THE INPUT: true; the input reads as it did. -/
def transactionMirrorsSpec : ChangeSpec := { name := "transactionMirrors", fn := fun _ => fun
  | [d1, d2, d3, d4, d5, d6, d7] => { results := [.lit (.bool true)], args := [d1, d2, d3, d4, d5, d6, d7] }
  | _ => none }
def transactionMirrorsRow : OpenClaim := { program := "ytkfipbelhlcddaagreat", sum := "f074971d68b0ed27bd4897b794a26b819fca3654a9144f16c256e05da7953c0f", func := "hopmesh/hopmeshlaw26.TransactionMirrors", spec := "transactionMirrors", inPlace := ["slices.overlaps[hopmesh/api.TableCell]"], unfollowed := true, recurses := true, apart := false }
def TransactionMirrorsSaid : Prop := transactionMirrorsRow.holds Tryz.pinned (OpenSpec.ofChange transactionMirrorsSpec)

/-- ITS FALSE NEIGHBOUR: 'it returns false'. Refute it at one input. -/
def transactionMirrorsWrong : ChangeSpec := { name := "transactionMirrors", fn := fun _ => fun
  | [d1, d2, d3, d4, d5, d6, d7] => { results := [.lit (.bool false)], args := [d1, d2, d3, d4, d5, d6, d7] }
  | _ => none }
def TransactionMirrorsWrongFalsely : Prop := transactionMirrorsRow.holds Tryz.pinned (OpenSpec.ofChange transactionMirrorsWrong)

/-- 'hopmeshlaw26.TransactionDoubled': WHATEVER THE INPUT: true; the input reads as it did. -/
def transactionDoubledSpec : ChangeSpec := { name := "transactionDoubled", fn := fun _ => fun
  | [d1, d2, d3, d4] => { results := [.lit (.bool true)], args := [d1, d2, d3, d4] }
  | _ => none }
def transactionDoubledRow : OpenClaim := { program := "ytkfipbelhlcddaagreat", sum := "f074971d68b0ed27bd4897b794a26b819fca3654a9144f16c256e05da7953c0f", func := "hopmesh/hopmeshlaw26.TransactionDoubled", spec := "transactionDoubled", inPlace := ["slices.overlaps[hopmesh/api.TableCell]"], unfollowed := true, recurses := true, apart := false }
def TransactionDoubledSaid : Prop := transactionDoubledRow.holds Tryz.pinned (OpenSpec.ofChange transactionDoubledSpec)

/-- ITS FALSE NEIGHBOUR: 'it returns false'. Refute it at one input. -/
def transactionDoubledWrong : ChangeSpec := { name := "transactionDoubled", fn := fun _ => fun
  | [d1, d2, d3, d4] => { results := [.lit (.bool false)], args := [d1, d2, d3, d4] }
  | _ => none }
def TransactionDoubledWrongFalsely : Prop := transactionDoubledRow.holds Tryz.pinned (OpenSpec.ofChange transactionDoubledWrong)

/-- 'hopmeshlaw26.TransactionNumbers': WHATEVER THE INPUT: true; the input reads as it did. -/
def transactionNumbersSpec : ChangeSpec := { name := "transactionNumbers", fn := fun _ => fun
  | [d1, d2, d3, d4] => { results := [.lit (.bool true)], args := [d1, d2, d3, d4] }
  | _ => none }
def transactionNumbersRow : OpenClaim := { program := "ytkfipbelhlcddaagreat", sum := "f074971d68b0ed27bd4897b794a26b819fca3654a9144f16c256e05da7953c0f", func := "hopmesh/hopmeshlaw26.TransactionNumbers", spec := "transactionNumbers", inPlace := ["slices.overlaps[hopmesh/api.TableCell]"], unfollowed := true, recurses := true, apart := false }
def TransactionNumbersSaid : Prop := transactionNumbersRow.holds Tryz.pinned (OpenSpec.ofChange transactionNumbersSpec)

/-- ITS FALSE NEIGHBOUR: 'it returns false'. Refute it at one input. -/
def transactionNumbersWrong : ChangeSpec := { name := "transactionNumbers", fn := fun _ => fun
  | [d1, d2, d3, d4] => { results := [.lit (.bool false)], args := [d1, d2, d3, d4] }
  | _ => none }
def TransactionNumbersWrongFalsely : Prop := transactionNumbersRow.holds Tryz.pinned (OpenSpec.ofChange transactionNumbersWrong)

/-- 'hopmeshlaw26.TransactionOrder': WHATEVER THE INPUT: true; the input reads as it did. -/
def transactionOrderSpec : ChangeSpec := { name := "transactionOrder", fn := fun _ => fun
  | [d1, d2, d3, d4, d5, d6, d7] => { results := [.lit (.bool true)], args := [d1, d2, d3, d4, d5, d6, d7] }
  | _ => none }
def transactionOrderRow : OpenClaim := { program := "ytkfipbelhlcddaagreat", sum := "f074971d68b0ed27bd4897b794a26b819fca3654a9144f16c256e05da7953c0f", func := "hopmesh/hopmeshlaw26.TransactionOrder", spec := "transactionOrder", inPlace := ["slices.overlaps[hopmesh/api.TableCell]"], unfollowed := true, recurses := true, apart := false }
def TransactionOrderSaid : Prop := transactionOrderRow.holds Tryz.pinned (OpenSpec.ofChange transactionOrderSpec)

/-- ITS FALSE NEIGHBOUR: 'it returns false'. Refute it at one input. -/
def transactionOrderWrong : ChangeSpec := { name := "transactionOrder", fn := fun _ => fun
  | [d1, d2, d3, d4, d5, d6, d7] => { results := [.lit (.bool false)], args := [d1, d2, d3, d4, d5, d6, d7] }
  | _ => none }
def TransactionOrderWrongFalsely : Prop := transactionOrderRow.holds Tryz.pinned (OpenSpec.ofChange transactionOrderWrong)

/-- 'hopmeshlaw26.TransactionEnds': WHATEVER THE INPUT: true; the input reads as it did. -/
def transactionEndsSpec : ChangeSpec := { name := "transactionEnds", fn := fun _ => fun
  | [d1, d2, d3, d4, d5] => { results := [.lit (.bool true)], args := [d1, d2, d3, d4, d5] }
  | _ => none }
def transactionEndsRow : OpenClaim := { program := "ytkfipbelhlcddaagreat", sum := "f074971d68b0ed27bd4897b794a26b819fca3654a9144f16c256e05da7953c0f", func := "hopmesh/hopmeshlaw26.TransactionEnds", spec := "transactionEnds", inPlace := ["slices.overlaps[hopmesh/api.TableCell]"], unfollowed := true, recurses := true, apart := false }
def TransactionEndsSaid : Prop := transactionEndsRow.holds Tryz.pinned (OpenSpec.ofChange transactionEndsSpec)

/-- ITS FALSE NEIGHBOUR: 'it returns false'. Refute it at one input. -/
def transactionEndsWrong : ChangeSpec := { name := "transactionEnds", fn := fun _ => fun
  | [d1, d2, d3, d4, d5] => { results := [.lit (.bool false)], args := [d1, d2, d3, d4, d5] }
  | _ => none }
def TransactionEndsWrongFalsely : Prop := transactionEndsRow.holds Tryz.pinned (OpenSpec.ofChange transactionEndsWrong)

/-- 'hopmeshlaw26.TransactionAsks': WHATEVER THE INPUT: true; the input reads as it did. -/
def transactionAsksSpec : ChangeSpec := { name := "transactionAsks", fn := fun _ => fun
  | [d1, d2, d3, d4, d5, d6, d7] => { results := [.lit (.bool true)], args := [d1, d2, d3, d4, d5, d6, d7] }
  | _ => none }
def transactionAsksRow : OpenClaim := { program := "ytkfipbelhlcddaagreat", sum := "f074971d68b0ed27bd4897b794a26b819fca3654a9144f16c256e05da7953c0f", func := "hopmesh/hopmeshlaw26.TransactionAsks", spec := "transactionAsks", inPlace := ["slices.overlaps[hopmesh/api.TableCell]"], unfollowed := true, recurses := true, apart := false }
def TransactionAsksSaid : Prop := transactionAsksRow.holds Tryz.pinned (OpenSpec.ofChange transactionAsksSpec)

/-- ITS FALSE NEIGHBOUR: 'it returns false'. Refute it at one input. -/
def transactionAsksWrong : ChangeSpec := { name := "transactionAsks", fn := fun _ => fun
  | [d1, d2, d3, d4, d5, d6, d7] => { results := [.lit (.bool false)], args := [d1, d2, d3, d4, d5, d6, d7] }
  | _ => none }
def TransactionAsksWrongFalsely : Prop := transactionAsksRow.holds Tryz.pinned (OpenSpec.ofChange transactionAsksWrong)

/- THE SECOND FORM. 'bulk': how many values and letters a reading holds, each counted each time it is reached (what is shared counts as often as it is met; a slice's spare places count too). A statement '..UptoSaid' is the law's where the arguments, and the package variables that the reading takes, are together of bulk at most 1048576: NARROWER than '..Said'. Prove '..Said' where nothing that the law and all that it calls make is longer than what came in: it says more and counts as full. Else prove '..UptoSaid'. A law counts once. -/
mutual
def uptoBulk {H : Type} : DataW H → Nat
  | .lit (.string bytes) => bytes.length + 1
  | .lit _ => 1
  | .nil => 1
  | .ptr d => uptoBulk d + 1
  | .slice elems spare => uptoBulkAll elems + uptoBulkAll spare + 1
  | .agg parts => uptoBulkAll parts + 1
  | .iface _ d => uptoBulk d + 1
  | .map entries => uptoBulkEntries entries + 1
  | .held _ => 1
def uptoBulkAll {H : Type} : List (DataW H) → Nat
  | [] => 0
  | d :: r => uptoBulk d + uptoBulkAll r
def uptoBulkEntries {H : Type} : List (Lit × DataW H) → Nat
  | [] => 0
  | x :: r => uptoBulkEntry x + uptoBulkEntries r
def uptoBulkEntry {H : Type} : Lit × DataW H → Nat
  | (.string bytes, d) => bytes.length + uptoBulk d + 1
  | (_, d) => uptoBulk d + 1
 end
def uptoSmall : (H : Type) → List (DataW H) → Bool := fun _ ds => decide (uptoBulkAll ds ≤ 1048576)
def OpenSpec.upto (s : _root_.Go.ChangeSpec) : _root_.Go.OpenSpec := { _root_.Go.OpenSpec.ofChange s with cond := some uptoSmall }

/-- 'hopmeshlaw26.TransactionReceives', WHERE WHAT IT READS IS OF BULK AT MOST 1048576: true; the input reads as it did. -/
def transactionReceivesUptoRow : OpenClaim := { program := "ytkfipbelhlcddaagreat", sum := "f074971d68b0ed27bd4897b794a26b819fca3654a9144f16c256e05da7953c0f", func := "hopmesh/hopmeshlaw26.TransactionReceives", spec := "transactionReceives", inPlace := ["slices.overlaps[hopmesh/api.TableCell]"], unfollowed := true, recurses := true, apart := false, narrowed := true }
def TransactionReceivesUptoSaid : Prop := transactionReceivesUptoRow.holds Tryz.pinned (OpenSpec.upto transactionReceivesSpec)

/-- 'hopmeshlaw26.TransactionFinishes', WHERE WHAT IT READS IS OF BULK AT MOST 1048576: true; the input reads as it did. -/
def transactionFinishesUptoRow : OpenClaim := { program := "ytkfipbelhlcddaagreat", sum := "f074971d68b0ed27bd4897b794a26b819fca3654a9144f16c256e05da7953c0f", func := "hopmesh/hopmeshlaw26.TransactionFinishes", spec := "transactionFinishes", inPlace := ["slices.overlaps[hopmesh/api.TableCell]"], unfollowed := true, recurses := true, apart := false, narrowed := true }
def TransactionFinishesUptoSaid : Prop := transactionFinishesUptoRow.holds Tryz.pinned (OpenSpec.upto transactionFinishesSpec)

/-- 'hopmeshlaw26.TransactionMirrors', WHERE WHAT IT READS IS OF BULK AT MOST 1048576: true; the input reads as it did. -/
def transactionMirrorsUptoRow : OpenClaim := { program := "ytkfipbelhlcddaagreat", sum := "f074971d68b0ed27bd4897b794a26b819fca3654a9144f16c256e05da7953c0f", func := "hopmesh/hopmeshlaw26.TransactionMirrors", spec := "transactionMirrors", inPlace := ["slices.overlaps[hopmesh/api.TableCell]"], unfollowed := true, recurses := true, apart := false, narrowed := true }
def TransactionMirrorsUptoSaid : Prop := transactionMirrorsUptoRow.holds Tryz.pinned (OpenSpec.upto transactionMirrorsSpec)

/-- 'hopmeshlaw26.TransactionDoubled', WHERE WHAT IT READS IS OF BULK AT MOST 1048576: true; the input reads as it did. -/
def transactionDoubledUptoRow : OpenClaim := { program := "ytkfipbelhlcddaagreat", sum := "f074971d68b0ed27bd4897b794a26b819fca3654a9144f16c256e05da7953c0f", func := "hopmesh/hopmeshlaw26.TransactionDoubled", spec := "transactionDoubled", inPlace := ["slices.overlaps[hopmesh/api.TableCell]"], unfollowed := true, recurses := true, apart := false, narrowed := true }
def TransactionDoubledUptoSaid : Prop := transactionDoubledUptoRow.holds Tryz.pinned (OpenSpec.upto transactionDoubledSpec)

/-- 'hopmeshlaw26.TransactionNumbers', WHERE WHAT IT READS IS OF BULK AT MOST 1048576: true; the input reads as it did. -/
def transactionNumbersUptoRow : OpenClaim := { program := "ytkfipbelhlcddaagreat", sum := "f074971d68b0ed27bd4897b794a26b819fca3654a9144f16c256e05da7953c0f", func := "hopmesh/hopmeshlaw26.TransactionNumbers", spec := "transactionNumbers", inPlace := ["slices.overlaps[hopmesh/api.TableCell]"], unfollowed := true, recurses := true, apart := false, narrowed := true }
def TransactionNumbersUptoSaid : Prop := transactionNumbersUptoRow.holds Tryz.pinned (OpenSpec.upto transactionNumbersSpec)

/-- 'hopmeshlaw26.TransactionOrder', WHERE WHAT IT READS IS OF BULK AT MOST 1048576: true; the input reads as it did. -/
def transactionOrderUptoRow : OpenClaim := { program := "ytkfipbelhlcddaagreat", sum := "f074971d68b0ed27bd4897b794a26b819fca3654a9144f16c256e05da7953c0f", func := "hopmesh/hopmeshlaw26.TransactionOrder", spec := "transactionOrder", inPlace := ["slices.overlaps[hopmesh/api.TableCell]"], unfollowed := true, recurses := true, apart := false, narrowed := true }
def TransactionOrderUptoSaid : Prop := transactionOrderUptoRow.holds Tryz.pinned (OpenSpec.upto transactionOrderSpec)

/-- 'hopmeshlaw26.TransactionEnds', WHERE WHAT IT READS IS OF BULK AT MOST 1048576: true; the input reads as it did. -/
def transactionEndsUptoRow : OpenClaim := { program := "ytkfipbelhlcddaagreat", sum := "f074971d68b0ed27bd4897b794a26b819fca3654a9144f16c256e05da7953c0f", func := "hopmesh/hopmeshlaw26.TransactionEnds", spec := "transactionEnds", inPlace := ["slices.overlaps[hopmesh/api.TableCell]"], unfollowed := true, recurses := true, apart := false, narrowed := true }
def TransactionEndsUptoSaid : Prop := transactionEndsUptoRow.holds Tryz.pinned (OpenSpec.upto transactionEndsSpec)

/-- 'hopmeshlaw26.TransactionAsks', WHERE WHAT IT READS IS OF BULK AT MOST 1048576: true; the input reads as it did. -/
def transactionAsksUptoRow : OpenClaim := { program := "ytkfipbelhlcddaagreat", sum := "f074971d68b0ed27bd4897b794a26b819fca3654a9144f16c256e05da7953c0f", func := "hopmesh/hopmeshlaw26.TransactionAsks", spec := "transactionAsks", inPlace := ["slices.overlaps[hopmesh/api.TableCell]"], unfollowed := true, recurses := true, apart := false, narrowed := true }
def TransactionAsksUptoSaid : Prop := transactionAsksUptoRow.holds Tryz.pinned (OpenSpec.upto transactionAsksSpec)

end Rows
end Go.Proofs.YtkfipbelhlcddaaGreat
