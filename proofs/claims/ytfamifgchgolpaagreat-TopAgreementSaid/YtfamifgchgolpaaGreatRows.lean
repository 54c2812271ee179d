/-
  No cell of these rows narrows 'for every input' (looked for: loops, veiled, ifaces, maps, wideKeys, modest, calm, conditions, laid).
  DERIVED. THE GIVEN ROWS OF THIS SEAT. 5 by the template 'for every input the law returns true; each argument reads behind the call as it read before'; 0 by the template 'total and deterministic' (their statements: YtfamifgchgolpaaGreatTotals.lean).
  GIVEN WITH THE SEED: the statements are not yours to turn. If you find one false, say at which input.
  Laid BY PROGRAM, IN A SANDBOX (cutbox-rows.mjs): the forced cells as the released guide's own fill.sh prints them over the translation e2aa07c7bcde43ea… (all of the seat's roots in one cut). By AI agents, Wed Nov 11 2026. No macro, syntax, notation, axiom, sorry.
-/
import Derived.Test.YtfamifgchgolpaaGreatChecked
import GoSem.Claim
import GoSem.ClaimJoined
import GoSem.ClaimMapViews
import Derived.JoinedTies
import Derived.KernelRfl
namespace Go.Proofs.YtfamifgchgolpaaGreat
/- THE CELL 'sum', in the pinned program and in every row, IS THE sha256 OF THE DUMP (.gsa) THAT YtfamifgchgolpaaGreatProg.lean LOADS. Nothing in Lean hashes anything: it is a label: what it is worth is what the hold of that sum in a sandbox is worth. -/
noncomputable def Tryz.pinned : Pinned := { name := "ytfamifgchgolpaagreat", sum := "e2aa07c7bcde43ea202da2150b66ef9674af83f1cfb9f14ca9d894c973152491", checked := Tryz.checked }
namespace Rows
def none {H : Type} : Left H := { results := [], args := [] }

/-- 'hopmeshtop.TopAgreement': WHATEVER THE INPUT: true; the input reads as it did. -/
def topAgreementSpec : ChangeSpec := { name := "topAgreement", fn := fun _ => fun
  | [d1, d2, d3, d4] => { results := [.lit (.bool true)], args := [d1, d2, d3, d4] }
  | _ => none }
def topAgreementRow : OpenClaim := { program := "ytfamifgchgolpaagreat", sum := "e2aa07c7bcde43ea202da2150b66ef9674af83f1cfb9f14ca9d894c973152491", func := "hopmesh/hopmeshtop.TopAgreement", spec := "topAgreement", inPlace := ["slices.overlaps[hopmesh/api.TableCell]"], unfollowed := true, recurses := true, apart := false }
def TopAgreementSaid : Prop := topAgreementRow.holds Tryz.pinned (OpenSpec.ofChange topAgreementSpec)

/-- ITS FALSE NEIGHBOUR: 'it returns false'. Refute it at one input. -/
def topAgreementWrong : ChangeSpec := { name := "topAgreement", fn := fun _ => fun
  | [d1, d2, d3, d4] => { results := [.lit (.bool false)], args := [d1, d2, d3, d4] }
  | _ => none }
def TopAgreementWrongFalsely : Prop := topAgreementRow.holds Tryz.pinned (OpenSpec.ofChange topAgreementWrong)

/-- 'hopmeshlaw27.ConsistencyExchanges': WHATEVER THE INPUT: true; the input reads as it did. -/
def consistencyExchangesSpec : ChangeSpec := { name := "consistencyExchanges", fn := fun _ => fun
  | [d1, d2, d3, d4] => { results := [.lit (.bool true)], args := [d1, d2, d3, d4] }
  | _ => none }
def consistencyExchangesRow : OpenClaim := { program := "ytfamifgchgolpaagreat", sum := "e2aa07c7bcde43ea202da2150b66ef9674af83f1cfb9f14ca9d894c973152491", func := "hopmesh/hopmeshlaw27.ConsistencyExchanges", spec := "consistencyExchanges", inPlace := ["slices.overlaps[hopmesh/api.TableCell]"], unfollowed := true, recurses := true, apart := false }
def ConsistencyExchangesSaid : Prop := consistencyExchangesRow.holds Tryz.pinned (OpenSpec.ofChange consistencyExchangesSpec)

/-- ITS FALSE NEIGHBOUR: 'it returns false'. Refute it at one input. -/
def consistencyExchangesWrong : ChangeSpec := { name := "consistencyExchanges", fn := fun _ => fun
  | [d1, d2, d3, d4] => { results := [.lit (.bool false)], args := [d1, d2, d3, d4] }
  | _ => none }
def ConsistencyExchangesWrongFalsely : Prop := consistencyExchangesRow.holds Tryz.pinned (OpenSpec.ofChange consistencyExchangesWrong)

/-- 'hopmeshlaw27.ConsistencyPlays': WHATEVER THE INPUT: true; the input reads as it did. -/
def consistencyPlaysSpec : ChangeSpec := { name := "consistencyPlays", fn := fun _ => fun
  | [d1, d2] => { results := [.lit (.bool true)], args := [d1, d2] }
  | _ => none }
def consistencyPlaysRow : OpenClaim := { program := "ytfamifgchgolpaagreat", sum := "e2aa07c7bcde43ea202da2150b66ef9674af83f1cfb9f14ca9d894c973152491", func := "hopmesh/hopmeshlaw27.ConsistencyPlays", spec := "consistencyPlays", inPlace := ["slices.overlaps[hopmesh/api.TableCell]"], unfollowed := true, recurses := true, apart := false }
def ConsistencyPlaysSaid : Prop := consistencyPlaysRow.holds Tryz.pinned (OpenSpec.ofChange consistencyPlaysSpec)

/-- ITS FALSE NEIGHBOUR: 'it returns false'. Refute it at one input. -/
def consistencyPlaysWrong : ChangeSpec := { name := "consistencyPlays", fn := fun _ => fun
  | [d1, d2] => { results := [.lit (.bool false)], args := [d1, d2] }
  | _ => none }
def ConsistencyPlaysWrongFalsely : Prop := consistencyPlaysRow.holds Tryz.pinned (OpenSpec.ofChange consistencyPlaysWrong)

/-- 'hopmeshlaw28.RepairSteps': WHATEVER THE INPUT: true; the input reads as it did. -/
def repairStepsSpec : ChangeSpec := { name := "repairSteps", fn := fun _ => fun
  | [d1, d2] => { results := [.lit (.bool true)], args := [d1, d2] }
  | _ => none }
def repairStepsRow : OpenClaim := { program := "ytfamifgchgolpaagreat", sum := "e2aa07c7bcde43ea202da2150b66ef9674af83f1cfb9f14ca9d894c973152491", func := "hopmesh/hopmeshlaw28.RepairSteps", spec := "repairSteps", inPlace := ["slices.overlaps[hopmesh/api.TableCell]"], unfollowed := true, recurses := true, apart := false }
def RepairStepsSaid : Prop := repairStepsRow.holds Tryz.pinned (OpenSpec.ofChange repairStepsSpec)

/-- ITS FALSE NEIGHBOUR: 'it returns false'. Refute it at one input. -/
def repairStepsWrong : ChangeSpec := { name := "repairSteps", fn := fun _ => fun
  | [d1, d2] => { results := [.lit (.bool false)], args := [d1, d2] }
  | _ => none }
def RepairStepsWrongFalsely : Prop := repairStepsRow.holds Tryz.pinned (OpenSpec.ofChange repairStepsWrong)

/-- 'hopmeshlaw28.RepairRuns': WHATEVER THE INPUT: true; the input reads as it did. -/
def repairRunsSpec : ChangeSpec := { name := "repairRuns", fn := fun _ => fun
  | [d1, d2] => { results := [.lit (.bool true)], args := [d1, d2] }
  | _ => none }
def repairRunsRow : OpenClaim := { program := "ytfamifgchgolpaagreat", sum := "e2aa07c7bcde43ea202da2150b66ef9674af83f1cfb9f14ca9d894c973152491", func := "hopmesh/hopmeshlaw28.RepairRuns", spec := "repairRuns", inPlace := ["slices.overlaps[hopmesh/api.TableCell]"], unfollowed := true, recurses := true, apart := false }
def RepairRunsSaid : Prop := repairRunsRow.holds Tryz.pinned (OpenSpec.ofChange repairRunsSpec)

/-- ITS FALSE NEIGHBOUR: 'it returns false'. Refute it at one input. -/
def repairRunsWrong : ChangeSpec := { name := "repairRuns", fn := fun _ => fun
  | [d1, d2] => { results := [.lit (.bool false)], args := [d1, d2] }
  | _ => none }
def RepairRunsWrongFalsely : Prop := repairRunsRow.holds Tryz.pinned (OpenSpec.ofChange repairRunsWrong)

/- THE SECOND FORM. 'bulk': how many values and letters a reading holds, each counted each time it is reached (what is shared counts as often as it is met; a slice's spare places count too). A statement '..UptoSaid' is the law's where the arguments, and the package variables that the reading takes, are together of bulk at most 1048576: NARROWER than '..Said'. Prove '..Said' where nothing that the law and all that it calls make is longer than what came in: it says more and counts as full. Else prove '..UptoSaid'. A law counts once. -/
mutual
def uptoBulk {H : Type} : DataW H → Nat
  | .lit (.string bytes) => bytes.length + 1
  | .lit _ => 1
  | .nil => 1
  | .ptr d => uptoBulk d + 1
  | .slice elems spare => uptoBulkAll elems + uptoBulkAll spare + 1
  | .agg parts => uptoBulkAll parts + 1
  | .iface _ d => uptoBulk d + 1
  | .map entries => uptoBulkEntries entries + 1
  | .held _ => 1
def uptoBulkAll {H : Type} : List (DataW H) → Nat
  | [] => 0
  | d :: r => uptoBulk d + uptoBulkAll r
def uptoBulkEntries {H : Type} : List (Lit × DataW H) → Nat
  | [] => 0
  | x :: r => uptoBulkEntry x + uptoBulkEntries r
def uptoBulkEntry {H : Type} : Lit × DataW H → Nat
  | (.string bytes, d) => bytes.length + uptoBulk d + 1
  | (_, d) => uptoBulk d + 1
 end
def uptoSmall : (H : Type) → List (DataW H) → Bool := fun _ ds => decide (uptoBulkAll ds ≤ 1048576)
def OpenSpec.upto (s : _root_.Go.ChangeSpec) : _root_.Go.OpenSpec := { _root_.Go.OpenSpec.ofChange s with cond := some uptoSmall }

/-- 'hopmeshtop.TopAgreement', WHERE WHAT IT READS IS OF BULK AT MOST 1048576: true; the input reads as it did. -/
def topAgreementUptoRow : OpenClaim := { program := "ytfamifgchgolpaagreat", sum := "e2aa07c7bcde43ea202da2150b66ef9674af83f1cfb9f14ca9d894c973152491", func := "hopmesh/hopmeshtop.TopAgreement", spec := "topAgreement", inPlace := ["slices.overlaps[hopmesh/api.TableCell]"], unfollowed := true, recurses := true, apart := false, narrowed := true }
def TopAgreementUptoSaid : Prop := topAgreementUptoRow.holds Tryz.pinned (OpenSpec.upto topAgreementSpec)

/-- 'hopmeshlaw27.ConsistencyExchanges', WHERE WHAT IT READS IS OF BULK AT MOST 1048576: true; the input reads as it did. -/
def consistencyExchangesUptoRow : OpenClaim := { program := "ytfamifgchgolpaagreat", sum := "e2aa07c7bcde43ea202da2150b66ef9674af83f1cfb9f14ca9d894c973152491", func := "hopmesh/hopmeshlaw27.ConsistencyExchanges", spec := "consistencyExchanges", inPlace := ["slices.overlaps[hopmesh/api.TableCell]"], unfollowed := true, recurses := true, apart := false, narrowed := true }
def ConsistencyExchangesUptoSaid : Prop := consistencyExchangesUptoRow.holds Tryz.pinned (OpenSpec.upto consistencyExchangesSpec)

/-- 'hopmeshlaw27.ConsistencyPlays', WHERE WHAT IT READS IS OF BULK AT MOST 1048576: true; the input reads as it did. -/
def consistencyPlaysUptoRow : OpenClaim := { program := "ytfamifgchgolpaagreat", sum := "e2aa07c7bcde43ea202da2150b66ef9674af83f1cfb9f14ca9d894c973152491", func := "hopmesh/hopmeshlaw27.ConsistencyPlays", spec := "consistencyPlays", inPlace := ["slices.overlaps[hopmesh/api.TableCell]"], unfollowed := true, recurses := true, apart := false, narrowed := true }
def ConsistencyPlaysUptoSaid : Prop := consistencyPlaysUptoRow.holds Tryz.pinned (OpenSpec.upto consistencyPlaysSpec)

/-- 'hopmeshlaw28.RepairSteps', WHERE WHAT IT READS IS OF BULK AT MOST 1048576: true; the input reads as it did. -/
def repairStepsUptoRow : OpenClaim := { program := "ytfamifgchgolpaagreat", sum := "e2aa07c7bcde43ea202da2150b66ef9674af83f1cfb9f14ca9d894c973152491", func := "hopmesh/hopmeshlaw28.RepairSteps", spec := "repairSteps", inPlace := ["slices.overlaps[hopmesh/api.TableCell]"], unfollowed := true, recurses := true, apart := false, narrowed := true }
def RepairStepsUptoSaid : Prop := repairStepsUptoRow.holds Tryz.pinned (OpenSpec.upto repairStepsSpec)

/-- 'hopmeshlaw28.RepairRuns', WHERE WHAT IT READS IS OF BULK AT MOST 1048576: true; the input reads as it did. -/
def repairRunsUptoRow : OpenClaim := { program := "ytfamifgchgolpaagreat", sum := "e2aa07c7bcde43ea202da2150b66ef9674af83f1cfb9f14ca9d894c973152491", func := "hopmesh/hopmeshlaw28.RepairRuns", spec := "repairRuns", inPlace := ["slices.overlaps[hopmesh/api.TableCell]"], unfollowed := true, recurses := true, apart := false, narrowed := true }
def RepairRunsUptoSaid : Prop := repairRunsUptoRow.holds Tryz.pinned (OpenSpec.upto repairRunsSpec)

end Rows
end Go.Proofs.YtfamifgchgolpaaGreat
