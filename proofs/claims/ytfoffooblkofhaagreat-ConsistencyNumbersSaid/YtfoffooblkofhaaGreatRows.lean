/-
  No cell of these rows narrows 'for every input' (looked for: loops, veiled, ifaces, maps, wideKeys, modest, calm, conditions, laid).
  DERIVED. THE GIVEN ROWS OF THIS SEAT. 8 by the template 'for every input the law returns true; each argument reads behind the call as it read before'; 0 by the template 'total and deterministic' (their statements: YtfoffooblkofhaaGreatTotals.lean).
  GIVEN WITH THE SEED: the statements are not yours to turn. If you find one false, say at which input.
  Laid BY PROGRAM, IN A SANDBOX (cutbox-rows.mjs): the forced cells as the released guide's own fill.sh prints them over the translation 780c96bc41027a67… (all of the seat's roots in one cut). By AI agents, Wed Nov 11 2026. No macro, syntax, notation, axiom, sorry.
-/
import Derived.Test.YtfoffooblkofhaaGreatChecked
import GoSem.Claim
import GoSem.ClaimJoined
import GoSem.ClaimMapViews
import Derived.JoinedTies
import Derived.KernelRfl
namespace Go.Proofs.YtfoffooblkofhaaGreat
/- THE CELL 'sum', in the pinned program and in every row, IS THE sha256 OF THE DUMP (.gsa) THAT YtfoffooblkofhaaGreatProg.lean LOADS. Nothing in Lean hashes anything: it is a label: what it is worth is what the hold of that sum in a sandbox is worth. -/
noncomputable def Tryz.pinned : Pinned := { name := "ytfoffooblkofhaagreat", sum := "780c96bc41027a678397f76c032a68ca209528241fac16c3a20c95d999522cca", checked := Tryz.checked }
namespace Rows
def none {H : Type} : Left H := { results := [], args := [] }

/-- 'hopmeshlaw26.TransactionReceives': WHATEVER THE INPUT: true; the input reads as it did. -/
def transactionReceivesSpec : ChangeSpec := { name := "transactionReceives", fn := fun _ => fun
  | [d1, d2, d3, d4] => { results := [.lit (.bool true)], args := [d1, d2, d3, d4] }
  | _ => none }
def transactionReceivesRow : OpenClaim := { program := "ytfoffooblkofhaagreat", sum := "780c96bc41027a678397f76c032a68ca209528241fac16c3a20c95d999522cca", func := "hopmesh/hopmeshlaw26.TransactionReceives", spec := "transactionReceives", inPlace := ["slices.overlaps[hopmesh/api.TableCell]"], unfollowed := true, recurses := true, apart := false }
def TransactionReceivesSaid : Prop := transactionReceivesRow.holds Tryz.pinned (OpenSpec.ofChange transactionReceivesSpec)

/-- ITS FALSE NEIGHBOUR: 'it returns false'. Refute it at one input. -/
def transactionReceivesWrong : ChangeSpec := { name := "transactionReceives", fn := fun _ => fun
  | [d1, d2, d3, d4] => { results := [.lit (.bool false)], args := [d1, d2, d3, d4] }
  | _ => none }
def TransactionReceivesWrongFalsely : Prop := transactionReceivesRow.holds Tryz.pinned (OpenSpec.ofChange transactionReceivesWrong)

/-- 'hopmeshlaw27.ConsistencyPairs': WHATEVER THE INPUT: true; the input reads as it did. -/
def consistencyPairsSpec : ChangeSpec := { name := "consistencyPairs", fn := fun _ => fun
  | [d1, d2] => { results := [.lit (.bool true)], args := [d1, d2] }
  | _ => none }
def consistencyPairsRow : OpenClaim := { program := "ytfoffooblkofhaagreat", sum := "780c96bc41027a678397f76c032a68ca209528241fac16c3a20c95d999522cca", func := "hopmesh/hopmeshlaw27.ConsistencyPairs", spec := "consistencyPairs", inPlace := ["slices.overlaps[hopmesh/api.TableCell]"], unfollowed := true, recurses := true, apart := false }
def ConsistencyPairsSaid : Prop := consistencyPairsRow.holds Tryz.pinned (OpenSpec.ofChange consistencyPairsSpec)

/-- ITS FALSE NEIGHBOUR: 'it returns false'. Refute it at one input. -/
def consistencyPairsWrong : ChangeSpec := { name := "consistencyPairs", fn := fun _ => fun
  | [d1, d2] => { results := [.lit (.bool false)], args := [d1, d2] }
  | _ => none }
def ConsistencyPairsWrongFalsely : Prop := consistencyPairsRow.holds Tryz.pinned (OpenSpec.ofChange consistencyPairsWrong)

/-- 'hopmeshlaw27.ConsistencyExchanges': WHATEVER THE INPUT: true; the input reads as it did. -/
def consistencyExchangesSpec : ChangeSpec := { name := "consistencyExchanges", fn := fun _ => fun
  | [d1, d2, d3, d4] => { results := [.lit (.bool true)], args := [d1, d2, d3, d4] }
  | _ => none }
def consistencyExchangesRow : OpenClaim := { program := "ytfoffooblkofhaagreat", sum := "780c96bc41027a678397f76c032a68ca209528241fac16c3a20c95d999522cca", func := "hopmesh/hopmeshlaw27.ConsistencyExchanges", spec := "consistencyExchanges", inPlace := ["slices.overlaps[hopmesh/api.TableCell]"], unfollowed := true, recurses := true, apart := false }
def ConsistencyExchangesSaid : Prop := consistencyExchangesRow.holds Tryz.pinned (OpenSpec.ofChange consistencyExchangesSpec)

/-- ITS FALSE NEIGHBOUR: 'it returns false'. Refute it at one input. -/
def consistencyExchangesWrong : ChangeSpec := { name := "consistencyExchanges", fn := fun _ => fun
  | [d1, d2, d3, d4] => { results := [.lit (.bool false)], args := [d1, d2, d3, d4] }
  | _ => none }
def ConsistencyExchangesWrongFalsely : Prop := consistencyExchangesRow.holds Tryz.pinned (OpenSpec.ofChange consistencyExchangesWrong)

/-- 'hopmeshlaw27.ConsistencyPlays': WHATEVER THE INPUT: true; the input reads as it did. -/
def consistencyPlaysSpec : ChangeSpec := { name := "consistencyPlays", fn := fun _ => fun
  | [d1, d2] => { results := [.lit (.bool true)], args := [d1, d2] }
  | _ => none }
def consistencyPlaysRow : OpenClaim := { program := "ytfoffooblkofhaagreat", sum := "780c96bc41027a678397f76c032a68ca209528241fac16c3a20c95d999522cca", func := "hopmesh/hopmeshlaw27.ConsistencyPlays", spec := "consistencyPlays", inPlace := ["slices.overlaps[hopmesh/api.TableCell]"], unfollowed := true, recurses := true, apart := false }
def ConsistencyPlaysSaid : Prop := consistencyPlaysRow.holds Tryz.pinned (OpenSpec.ofChange consistencyPlaysSpec)

/-- ITS FALSE NEIGHBOUR: 'it returns false'. Refute it at one input. -/
def consistencyPlaysWrong : ChangeSpec := { name := "consistencyPlays", fn := fun _ => fun
  | [d1, d2] => { results := [.lit (.bool false)], args := [d1, d2] }
  | _ => none }
def ConsistencyPlaysWrongFalsely : Prop := consistencyPlaysRow.holds Tryz.pinned (OpenSpec.ofChange consistencyPlaysWrong)

/-- 'hopmeshlaw27.ConsistencyDetects': WHATEVER THE INPUT: true; the input reads as it did. -/
def consistencyDetectsSpec : ChangeSpec := { name := "consistencyDetects", fn := fun _ => fun
  | [d1, d2, d3, d4] => { results := [.lit (.bool true)], args := [d1, d2, d3, d4] }
  | _ => none }
def consistencyDetectsRow : OpenClaim := { program := "ytfoffooblkofhaagreat", sum := "780c96bc41027a678397f76c032a68ca209528241fac16c3a20c95d999522cca", func := "hopmesh/hopmeshlaw27.ConsistencyDetects", spec := "consistencyDetects", inPlace := ["slices.overlaps[hopmesh/api.TableCell]"], unfollowed := true, recurses := true, apart := false }
def ConsistencyDetectsSaid : Prop := consistencyDetectsRow.holds Tryz.pinned (OpenSpec.ofChange consistencyDetectsSpec)

/-- ITS FALSE NEIGHBOUR: 'it returns false'. Refute it at one input. -/
def consistencyDetectsWrong : ChangeSpec := { name := "consistencyDetects", fn := fun _ => fun
  | [d1, d2, d3, d4] => { results := [.lit (.bool false)], args := [d1, d2, d3, d4] }
  | _ => none }
def ConsistencyDetectsWrongFalsely : Prop := consistencyDetectsRow.holds Tryz.pinned (OpenSpec.ofChange consistencyDetectsWrong)

/-- 'hopmeshlaw27.ConsistencyLosses': WHATEVER THE INPUT: true; the input reads as it did. -/
def consistencyLossesSpec : ChangeSpec := { name := "consistencyLosses", fn := fun _ => fun
  | [d1, d2, d3, d4] => { results := [.lit (.bool true)], args := [d1, d2, d3, d4] }
  | _ => none }
def consistencyLossesRow : OpenClaim := { program := "ytfoffooblkofhaagreat", sum := "780c96bc41027a678397f76c032a68ca209528241fac16c3a20c95d999522cca", func := "hopmesh/hopmeshlaw27.ConsistencyLosses", spec := "consistencyLosses", inPlace := ["slices.overlaps[hopmesh/api.TableCell]"], unfollowed := true, recurses := true, apart := false }
def ConsistencyLossesSaid : Prop := consistencyLossesRow.holds Tryz.pinned (OpenSpec.ofChange consistencyLossesSpec)

/-- ITS FALSE NEIGHBOUR: 'it returns false'. Refute it at one input. -/
def consistencyLossesWrong : ChangeSpec := { name := "consistencyLosses", fn := fun _ => fun
  | [d1, d2, d3, d4] => { results := [.lit (.bool false)], args := [d1, d2, d3, d4] }
  | _ => none }
def ConsistencyLossesWrongFalsely : Prop := consistencyLossesRow.holds Tryz.pinned (OpenSpec.ofChange consistencyLossesWrong)

/-- 'hopmeshlaw27.ConsistencyClears': WHATEVER THE INPUT: true; the input reads as it did. -/
def consistencyClearsSpec : ChangeSpec := { name := "consistencyClears", fn := fun _ => fun
  | [d1, d2] => { results := [.lit (.bool true)], args := [d1, d2] }
  | _ => none }
def consistencyClearsRow : OpenClaim := { program := "ytfoffooblkofhaagreat", sum := "780c96bc41027a678397f76c032a68ca209528241fac16c3a20c95d999522cca", func := "hopmesh/hopmeshlaw27.ConsistencyClears", spec := "consistencyClears", inPlace := ["slices.overlaps[hopmesh/api.TableCell]"], unfollowed := true, recurses := true, apart := false }
def ConsistencyClearsSaid : Prop := consistencyClearsRow.holds Tryz.pinned (OpenSpec.ofChange consistencyClearsSpec)

/-- ITS FALSE NEIGHBOUR: 'it returns false'. Refute it at one input. -/
def consistencyClearsWrong : ChangeSpec := { name := "consistencyClears", fn := fun _ => fun
  | [d1, d2] => { results := [.lit (.bool false)], args := [d1, d2] }
  | _ => none }
def ConsistencyClearsWrongFalsely : Prop := consistencyClearsRow.holds Tryz.pinned (OpenSpec.ofChange consistencyClearsWrong)

/-- 'hopmeshlaw27.ConsistencyNumbers': WHATEVER THE INPUT: true; the input reads as it did. -/
def consistencyNumbersSpec : ChangeSpec := { name := "consistencyNumbers", fn := fun _ => fun
  | [d1, d2, d3, d4] => { results := [.lit (.bool true)], args := [d1, d2, d3, d4] }
  | _ => none }
def consistencyNumbersRow : OpenClaim := { program := "ytfoffooblkofhaagreat", sum := "780c96bc41027a678397f76c032a68ca209528241fac16c3a20c95d999522cca", func := "hopmesh/hopmeshlaw27.ConsistencyNumbers", spec := "consistencyNumbers", inPlace := ["slices.overlaps[hopmesh/api.TableCell]"], unfollowed := true, recurses := true, apart := false }
def ConsistencyNumbersSaid : Prop := consistencyNumbersRow.holds Tryz.pinned (OpenSpec.ofChange consistencyNumbersSpec)

/-- ITS FALSE NEIGHBOUR: 'it returns false'. Refute it at one input. -/
def consistencyNumbersWrong : ChangeSpec := { name := "consistencyNumbers", fn := fun _ => fun
  | [d1, d2, d3, d4] => { results := [.lit (.bool false)], args := [d1, d2, d3, d4] }
  | _ => none }
def ConsistencyNumbersWrongFalsely : Prop := consistencyNumbersRow.holds Tryz.pinned (OpenSpec.ofChange consistencyNumbersWrong)

/- THE SECOND FORM. 'bulk': how many values and letters a reading holds, each counted each time it is reached (what is shared counts as often as it is met; a slice's spare places count too). A statement '..UptoSaid' is the law's where the arguments, and the package variables that the reading takes, are together of bulk at most 1048576: NARROWER than '..Said'. Prove '..Said' where nothing that the law and all that it calls make is longer than what came in: it says more and counts as full. Else prove '..UptoSaid'. A law counts once. -/
mutual
def uptoBulk {H : Type} : DataW H → Nat
  | .lit (.string bytes) => bytes.length + 1
  | .lit _ => 1
  | .nil => 1
  | .ptr d => uptoBulk d + 1
  | .slice elems spare => uptoBulkAll elems + uptoBulkAll spare + 1
  | .agg parts => uptoBulkAll parts + 1
  | .iface _ d => uptoBulk d + 1
  | .map entries => uptoBulkEntries entries + 1
  | .held _ => 1
def uptoBulkAll {H : Type} : List (DataW H) → Nat
  | [] => 0
  | d :: r => uptoBulk d + uptoBulkAll r
def uptoBulkEntries {H : Type} : List (Lit × DataW H) → Nat
  | [] => 0
  | x :: r => uptoBulkEntry x + uptoBulkEntries r
def uptoBulkEntry {H : Type} : Lit × DataW H → Nat
  | (.string bytes, d) => bytes.length + uptoBulk d + 1
  | (_, d) => uptoBulk d + 1
 end
def uptoSmall : (H : Type) → List (DataW H) → Bool := fun _ ds => decide (uptoBulkAll ds ≤ 1048576)
def OpenSpec.upto (s : _root_.Go.ChangeSpec) : _root_.Go.OpenSpec := { _root_.Go.OpenSpec.ofChange s with cond := some uptoSmall }

/-- 'hopmeshlaw26.TransactionReceives', WHERE WHAT IT READS IS OF BULK AT MOST 1048576: true; the input reads as it did. -/
def transactionReceivesUptoRow : OpenClaim := { program := "ytfoffooblkofhaagreat", sum := "780c96bc41027a678397f76c032a68ca209528241fac16c3a20c95d999522cca", func := "hopmesh/hopmeshlaw26.TransactionReceives", spec := "transactionReceives", inPlace := ["slices.overlaps[hopmesh/api.TableCell]"], unfollowed := true, recurses := true, apart := false, narrowed := true }
def TransactionReceivesUptoSaid : Prop := transactionReceivesUptoRow.holds Tryz.pinned (OpenSpec.upto transactionReceivesSpec)

/-- 'hopmeshlaw27.ConsistencyPairs', WHERE WHAT IT READS IS OF BULK AT MOST 1048576: true; the input reads as it did. -/
def consistencyPairsUptoRow : OpenClaim := { program := "ytfoffooblkofhaagreat", sum := "780c96bc41027a678397f76c032a68ca209528241fac16c3a20c95d999522cca", func := "hopmesh/hopmeshlaw27.ConsistencyPairs", spec := "consistencyPairs", inPlace := ["slices.overlaps[hopmesh/api.TableCell]"], unfollowed := true, recurses := true, apart := false, narrowed := true }
def ConsistencyPairsUptoSaid : Prop := consistencyPairsUptoRow.holds Tryz.pinned (OpenSpec.upto consistencyPairsSpec)

/-- 'hopmeshlaw27.ConsistencyExchanges', WHERE WHAT IT READS IS OF BULK AT MOST 1048576: true; the input reads as it did. -/
def consistencyExchangesUptoRow : OpenClaim := { program := "ytfoffooblkofhaagreat", sum := "780c96bc41027a678397f76c032a68ca209528241fac16c3a20c95d999522cca", func := "hopmesh/hopmeshlaw27.ConsistencyExchanges", spec := "consistencyExchanges", inPlace := ["slices.overlaps[hopmesh/api.TableCell]"], unfollowed := true, recurses := true, apart := false, narrowed := true }
def ConsistencyExchangesUptoSaid : Prop := consistencyExchangesUptoRow.holds Tryz.pinned (OpenSpec.upto consistencyExchangesSpec)

/-- 'hopmeshlaw27.ConsistencyPlays', WHERE WHAT IT READS IS OF BULK AT MOST 1048576: true; the input reads as it did. -/
def consistencyPlaysUptoRow : OpenClaim := { program := "ytfoffooblkofhaagreat", sum := "780c96bc41027a678397f76c032a68ca209528241fac16c3a20c95d999522cca", func := "hopmesh/hopmeshlaw27.ConsistencyPlays", spec := "consistencyPlays", inPlace := ["slices.overlaps[hopmesh/api.TableCell]"], unfollowed := true, recurses := true, apart := false, narrowed := true }
def ConsistencyPlaysUptoSaid : Prop := consistencyPlaysUptoRow.holds Tryz.pinned (OpenSpec.upto consistencyPlaysSpec)

/-- 'hopmeshlaw27.ConsistencyDetects', WHERE WHAT IT READS IS OF BULK AT MOST 1048576: true; the input reads as it did. -/
def consistencyDetectsUptoRow : OpenClaim := { program := "ytfoffooblkofhaagreat", sum := "780c96bc41027a678397f76c032a68ca209528241fac16c3a20c95d999522cca", func := "hopmesh/hopmeshlaw27.ConsistencyDetects", spec := "consistencyDetects", inPlace := ["slices.overlaps[hopmesh/api.TableCell]"], unfollowed := true, recurses := true, apart := false, narrowed := true }
def ConsistencyDetectsUptoSaid : Prop := consistencyDetectsUptoRow.holds Tryz.pinned (OpenSpec.upto consistencyDetectsSpec)

/-- 'hopmeshlaw27.ConsistencyLosses', WHERE WHAT IT READS IS OF BULK AT MOST 1048576: true; the input reads as it did. -/
def consistencyLossesUptoRow : OpenClaim := { program := "ytfoffooblkofhaagreat", sum := "780c96bc41027a678397f76c032a68ca209528241fac16c3a20c95d999522cca", func := "hopmesh/hopmeshlaw27.ConsistencyLosses", spec := "consistencyLosses", inPlace := ["slices.overlaps[hopmesh/api.TableCell]"], unfollowed := true, recurses := true, apart := false, narrowed := true }
def ConsistencyLossesUptoSaid : Prop := consistencyLossesUptoRow.holds Tryz.pinned (OpenSpec.upto consistencyLossesSpec)

/-- 'hopmeshlaw27.ConsistencyClears', WHERE WHAT IT READS IS OF BULK AT MOST 1048576: true; the input reads as it did. -/
def consistencyClearsUptoRow : OpenClaim := { program := "ytfoffooblkofhaagreat", sum := "780c96bc41027a678397f76c032a68ca209528241fac16c3a20c95d999522cca", func := "hopmesh/hopmeshlaw27.ConsistencyClears", spec := "consistencyClears", inPlace := ["slices.overlaps[hopmesh/api.TableCell]"], unfollowed := true, recurses := true, apart := false, narrowed := true }
def ConsistencyClearsUptoSaid : Prop := consistencyClearsUptoRow.holds Tryz.pinned (OpenSpec.upto consistencyClearsSpec)

/-- 'hopmeshlaw27.ConsistencyNumbers', WHERE WHAT IT READS IS OF BULK AT MOST 1048576: true; the input reads as it did. -/
def consistencyNumbersUptoRow : OpenClaim := { program := "ytfoffooblkofhaagreat", sum := "780c96bc41027a678397f76c032a68ca209528241fac16c3a20c95d999522cca", func := "hopmesh/hopmeshlaw27.ConsistencyNumbers", spec := "consistencyNumbers", inPlace := ["slices.overlaps[hopmesh/api.TableCell]"], unfollowed := true, recurses := true, apart := false, narrowed := true }
def ConsistencyNumbersUptoSaid : Prop := consistencyNumbersUptoRow.holds Tryz.pinned (OpenSpec.upto consistencyNumbersSpec)

end Rows
end Go.Proofs.YtfoffooblkofhaaGreat
