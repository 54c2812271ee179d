/-
  No cell of these rows narrows 'for every input' (looked for: loops, veiled, ifaces, maps, wideKeys, modest, calm, conditions, laid).
  DERIVED. THE GIVEN ROWS OF THIS SEAT. 7 by the template 'for every input the law returns true; each argument reads behind the call as it read before'; 0 by the template 'total and deterministic' (their statements: YtdlgdmbcbenlbaaTotals.lean).
  GIVEN WITH THE SEED: the statements are not yours to turn. If you find one false, say at which input.
  Laid BY PROGRAM, IN A SANDBOX (cutbox-rows.mjs): the forced cells as the released guide's own fill.sh prints them over the translation 8ef00fb23f3337b5… (all of the seat's roots in one cut). By AI agents, Wed Nov 11 2026. No macro, syntax, notation, axiom, sorry.
-/
import Derived.Test.YtdlgdmbcbenlbaaChecked
import GoSem.Claim
import GoSem.ClaimJoined
import GoSem.ClaimMapViews
import Derived.JoinedTies
import Derived.KernelRfl
namespace Go.Proofs.Ytdlgdmbcbenlbaa
/- THE CELL 'sum', in the pinned program and in every row, IS THE sha256 OF THE DUMP (.gsa) THAT YtdlgdmbcbenlbaaProg.lean LOADS. Nothing in Lean hashes anything: it is a label: what it is worth is what the hold of that sum in a sandbox is worth. -/
noncomputable def Try.pinned : Pinned := { name := "ytdlgdmbcbenlbaa", sum := "8ef00fb23f3337b593c0bf08b5963152249e3547098ee96831967524c254bbe9", checked := Try.checked }
namespace Rows
def none {H : Type} : Left H := { results := [], args := [] }

/-- 'hopmeshlaw52.SwitchoverChecks': WHATEVER THE INPUT: true; the input reads as it did. -/
def switchoverChecksSpec : ChangeSpec := { name := "switchoverChecks", fn := fun _ => fun
  | [d1, d2] => { results := [.lit (.bool true)], args := [d1, d2] }
  | _ => none }
def switchoverChecksRow : OpenClaim := { program := "ytdlgdmbcbenlbaa", sum := "8ef00fb23f3337b593c0bf08b5963152249e3547098ee96831967524c254bbe9", func := "hopmesh/hopmeshlaw52.SwitchoverChecks", spec := "switchoverChecks", unfollowed := true, recurses := true, plainKeys := false, apart := false }
def SwitchoverChecksSaid : Prop := switchoverChecksRow.holds Try.pinned (OpenSpec.ofChange switchoverChecksSpec)

/-- ITS FALSE NEIGHBOUR: 'it returns false'. Refute it at one input. -/
def switchoverChecksWrong : ChangeSpec := { name := "switchoverChecks", fn := fun _ => fun
  | [d1, d2] => { results := [.lit (.bool false)], args := [d1, d2] }
  | _ => none }
def SwitchoverChecksWrongFalsely : Prop := switchoverChecksRow.holds Try.pinned (OpenSpec.ofChange switchoverChecksWrong)

/-- 'hopmeshlaw52.SwitchoverDuties': WHATEVER THE INPUT: true; the input reads as it did. -/
def switchoverDutiesSpec : ChangeSpec := { name := "switchoverDuties", fn := fun _ => fun
  | [d1, d2, d3, d4] => { results := [.lit (.bool true)], args := [d1, d2, d3, d4] }
  | _ => none }
def switchoverDutiesRow : OpenClaim := { program := "ytdlgdmbcbenlbaa", sum := "8ef00fb23f3337b593c0bf08b5963152249e3547098ee96831967524c254bbe9", func := "hopmesh/hopmeshlaw52.SwitchoverDuties", spec := "switchoverDuties", unfollowed := true, recurses := true, plainKeys := false, apart := false }
def SwitchoverDutiesSaid : Prop := switchoverDutiesRow.holds Try.pinned (OpenSpec.ofChange switchoverDutiesSpec)

/-- ITS FALSE NEIGHBOUR: 'it returns false'. Refute it at one input. -/
def switchoverDutiesWrong : ChangeSpec := { name := "switchoverDuties", fn := fun _ => fun
  | [d1, d2, d3, d4] => { results := [.lit (.bool false)], args := [d1, d2, d3, d4] }
  | _ => none }
def SwitchoverDutiesWrongFalsely : Prop := switchoverDutiesRow.holds Try.pinned (OpenSpec.ofChange switchoverDutiesWrong)

/-- 'hopmeshlaw52.SwitchoverAround': WHATEVER THE INPUT: true; the input reads as it did. -/
def switchoverAroundSpec : ChangeSpec := { name := "switchoverAround", fn := fun _ => fun
  | [d1, d2, d3, d4] => { results := [.lit (.bool true)], args := [d1, d2, d3, d4] }
  | _ => none }
def switchoverAroundRow : OpenClaim := { program := "ytdlgdmbcbenlbaa", sum := "8ef00fb23f3337b593c0bf08b5963152249e3547098ee96831967524c254bbe9", func := "hopmesh/hopmeshlaw52.SwitchoverAround", spec := "switchoverAround", unfollowed := true, recurses := true, plainKeys := false, apart := false }
def SwitchoverAroundSaid : Prop := switchoverAroundRow.holds Try.pinned (OpenSpec.ofChange switchoverAroundSpec)

/-- ITS FALSE NEIGHBOUR: 'it returns false'. Refute it at one input. -/
def switchoverAroundWrong : ChangeSpec := { name := "switchoverAround", fn := fun _ => fun
  | [d1, d2, d3, d4] => { results := [.lit (.bool false)], args := [d1, d2, d3, d4] }
  | _ => none }
def SwitchoverAroundWrongFalsely : Prop := switchoverAroundRow.holds Try.pinned (OpenSpec.ofChange switchoverAroundWrong)

/-- 'hopmeshlaw52.SwitchoverTimes': WHATEVER THE INPUT: true; the input reads as it did. -/
def switchoverTimesSpec : ChangeSpec := { name := "switchoverTimes", fn := fun _ => fun
  | [d1, d2, d3, d4] => { results := [.lit (.bool true)], args := [d1, d2, d3, d4] }
  | _ => none }
def switchoverTimesRow : OpenClaim := { program := "ytdlgdmbcbenlbaa", sum := "8ef00fb23f3337b593c0bf08b5963152249e3547098ee96831967524c254bbe9", func := "hopmesh/hopmeshlaw52.SwitchoverTimes", spec := "switchoverTimes", unfollowed := true, recurses := true, plainKeys := false, apart := false }
def SwitchoverTimesSaid : Prop := switchoverTimesRow.holds Try.pinned (OpenSpec.ofChange switchoverTimesSpec)

/-- ITS FALSE NEIGHBOUR: 'it returns false'. Refute it at one input. -/
def switchoverTimesWrong : ChangeSpec := { name := "switchoverTimes", fn := fun _ => fun
  | [d1, d2, d3, d4] => { results := [.lit (.bool false)], args := [d1, d2, d3, d4] }
  | _ => none }
def SwitchoverTimesWrongFalsely : Prop := switchoverTimesRow.holds Try.pinned (OpenSpec.ofChange switchoverTimesWrong)

/-- 'hopmeshlaw52.SwitchoverEnds': WHATEVER THE INPUT: true; the input reads as it did. -/
def switchoverEndsSpec : ChangeSpec := { name := "switchoverEnds", fn := fun _ => fun
  | [d1, d2, d3] => { results := [.lit (.bool true)], args := [d1, d2, d3] }
  | _ => none }
def switchoverEndsRow : OpenClaim := { program := "ytdlgdmbcbenlbaa", sum := "8ef00fb23f3337b593c0bf08b5963152249e3547098ee96831967524c254bbe9", func := "hopmesh/hopmeshlaw52.SwitchoverEnds", spec := "switchoverEnds", unfollowed := true, recurses := true, plainKeys := false, apart := false }
def SwitchoverEndsSaid : Prop := switchoverEndsRow.holds Try.pinned (OpenSpec.ofChange switchoverEndsSpec)

/-- ITS FALSE NEIGHBOUR: 'it returns false'. Refute it at one input. -/
def switchoverEndsWrong : ChangeSpec := { name := "switchoverEnds", fn := fun _ => fun
  | [d1, d2, d3] => { results := [.lit (.bool false)], args := [d1, d2, d3] }
  | _ => none }
def SwitchoverEndsWrongFalsely : Prop := switchoverEndsRow.holds Try.pinned (OpenSpec.ofChange switchoverEndsWrong)

/-- 'hopmeshlaw52.SwitchoverSettles': WHATEVER THE INPUT: true; the input reads as it did. -/
def switchoverSettlesSpec : ChangeSpec := { name := "switchoverSettles", fn := fun _ => fun
  | [d1, d2, d3] => { results := [.lit (.bool true)], args := [d1, d2, d3] }
  | _ => none }
def switchoverSettlesRow : OpenClaim := { program := "ytdlgdmbcbenlbaa", sum := "8ef00fb23f3337b593c0bf08b5963152249e3547098ee96831967524c254bbe9", func := "hopmesh/hopmeshlaw52.SwitchoverSettles", spec := "switchoverSettles", unfollowed := true, recurses := true, plainKeys := false, apart := false }
def SwitchoverSettlesSaid : Prop := switchoverSettlesRow.holds Try.pinned (OpenSpec.ofChange switchoverSettlesSpec)

/-- ITS FALSE NEIGHBOUR: 'it returns false'. Refute it at one input. -/
def switchoverSettlesWrong : ChangeSpec := { name := "switchoverSettles", fn := fun _ => fun
  | [d1, d2, d3] => { results := [.lit (.bool false)], args := [d1, d2, d3] }
  | _ => none }
def SwitchoverSettlesWrongFalsely : Prop := switchoverSettlesRow.holds Try.pinned (OpenSpec.ofChange switchoverSettlesWrong)

/-- 'hopmeshlaw52.SwitchoverOne': WHATEVER THE INPUT: true; the input reads as it did. -/
def switchoverOneSpec : ChangeSpec := { name := "switchoverOne", fn := fun _ => fun
  | [d1, d2, d3] => { results := [.lit (.bool true)], args := [d1, d2, d3] }
  | _ => none }
def switchoverOneRow : OpenClaim := { program := "ytdlgdmbcbenlbaa", sum := "8ef00fb23f3337b593c0bf08b5963152249e3547098ee96831967524c254bbe9", func := "hopmesh/hopmeshlaw52.SwitchoverOne", spec := "switchoverOne", unfollowed := true, recurses := true, plainKeys := false, apart := false }
def SwitchoverOneSaid : Prop := switchoverOneRow.holds Try.pinned (OpenSpec.ofChange switchoverOneSpec)

/-- ITS FALSE NEIGHBOUR: 'it returns false'. Refute it at one input. -/
def switchoverOneWrong : ChangeSpec := { name := "switchoverOne", fn := fun _ => fun
  | [d1, d2, d3] => { results := [.lit (.bool false)], args := [d1, d2, d3] }
  | _ => none }
def SwitchoverOneWrongFalsely : Prop := switchoverOneRow.holds Try.pinned (OpenSpec.ofChange switchoverOneWrong)

/- THE SECOND FORM. 'bulk': how many values and letters a reading holds, each counted each time it is reached (what is shared counts as often as it is met; a slice's spare places count too). A statement '..UptoSaid' is the law's where the arguments, and the package variables that the reading takes, are together of bulk at most 1048576: NARROWER than '..Said'. Prove '..Said' where nothing that the law and all that it calls make is longer than what came in: it says more and counts as full. Else prove '..UptoSaid'. A law counts once. -/
mutual
def uptoBulk {H : Type} : DataW H → Nat
  | .lit (.string bytes) => bytes.length + 1
  | .lit _ => 1
  | .nil => 1
  | .ptr d => uptoBulk d + 1
  | .slice elems spare => uptoBulkAll elems + uptoBulkAll spare + 1
  | .agg parts => uptoBulkAll parts + 1
  | .iface _ d => uptoBulk d + 1
  | .map entries => uptoBulkEntries entries + 1
  | .held _ => 1
def uptoBulkAll {H : Type} : List (DataW H) → Nat
  | [] => 0
  | d :: r => uptoBulk d + uptoBulkAll r
def uptoBulkEntries {H : Type} : List (Lit × DataW H) → Nat
  | [] => 0
  | x :: r => uptoBulkEntry x + uptoBulkEntries r
def uptoBulkEntry {H : Type} : Lit × DataW H → Nat
  | (.string bytes, d) => bytes.length + uptoBulk d + 1
  | (_, d) => uptoBulk d + 1
 end
def uptoSmall : (H : Type) → List (DataW H) → Bool := fun _ ds => decide (uptoBulkAll ds ≤ 1048576)
def OpenSpec.upto (s : _root_.Go.ChangeSpec) : _root_.Go.OpenSpec := { _root_.Go.OpenSpec.ofChange s with cond := some uptoSmall }

/-- 'hopmeshlaw52.SwitchoverChecks', WHERE WHAT IT READS IS OF BULK AT MOST 1048576: true; the input reads as it did. -/
def switchoverChecksUptoRow : OpenClaim := { program := "ytdlgdmbcbenlbaa", sum := "8ef00fb23f3337b593c0bf08b5963152249e3547098ee96831967524c254bbe9", func := "hopmesh/hopmeshlaw52.SwitchoverChecks", spec := "switchoverChecks", unfollowed := true, recurses := true, plainKeys := false, apart := false, narrowed := true }
def SwitchoverChecksUptoSaid : Prop := switchoverChecksUptoRow.holds Try.pinned (OpenSpec.upto switchoverChecksSpec)

/-- 'hopmeshlaw52.SwitchoverDuties', WHERE WHAT IT READS IS OF BULK AT MOST 1048576: true; the input reads as it did. -/
def switchoverDutiesUptoRow : OpenClaim := { program := "ytdlgdmbcbenlbaa", sum := "8ef00fb23f3337b593c0bf08b5963152249e3547098ee96831967524c254bbe9", func := "hopmesh/hopmeshlaw52.SwitchoverDuties", spec := "switchoverDuties", unfollowed := true, recurses := true, plainKeys := false, apart := false, narrowed := true }
def SwitchoverDutiesUptoSaid : Prop := switchoverDutiesUptoRow.holds Try.pinned (OpenSpec.upto switchoverDutiesSpec)

/-- 'hopmeshlaw52.SwitchoverAround', WHERE WHAT IT READS IS OF BULK AT MOST 1048576: true; the input reads as it did. -/
def switchoverAroundUptoRow : OpenClaim := { program := "ytdlgdmbcbenlbaa", sum := "8ef00fb23f3337b593c0bf08b5963152249e3547098ee96831967524c254bbe9", func := "hopmesh/hopmeshlaw52.SwitchoverAround", spec := "switchoverAround", unfollowed := true, recurses := true, plainKeys := false, apart := false, narrowed := true }
def SwitchoverAroundUptoSaid : Prop := switchoverAroundUptoRow.holds Try.pinned (OpenSpec.upto switchoverAroundSpec)

/-- 'hopmeshlaw52.SwitchoverTimes', WHERE WHAT IT READS IS OF BULK AT MOST 1048576: true; the input reads as it did. -/
def switchoverTimesUptoRow : OpenClaim := { program := "ytdlgdmbcbenlbaa", sum := "8ef00fb23f3337b593c0bf08b5963152249e3547098ee96831967524c254bbe9", func := "hopmesh/hopmeshlaw52.SwitchoverTimes", spec := "switchoverTimes", unfollowed := true, recurses := true, plainKeys := false, apart := false, narrowed := true }
def SwitchoverTimesUptoSaid : Prop := switchoverTimesUptoRow.holds Try.pinned (OpenSpec.upto switchoverTimesSpec)

/-- 'hopmeshlaw52.SwitchoverEnds', WHERE WHAT IT READS IS OF BULK AT MOST 1048576: true; the input reads as it did. -/
def switchoverEndsUptoRow : OpenClaim := { program := "ytdlgdmbcbenlbaa", sum := "8ef00fb23f3337b593c0bf08b5963152249e3547098ee96831967524c254bbe9", func := "hopmesh/hopmeshlaw52.SwitchoverEnds", spec := "switchoverEnds", unfollowed := true, recurses := true, plainKeys := false, apart := false, narrowed := true }
def SwitchoverEndsUptoSaid : Prop := switchoverEndsUptoRow.holds Try.pinned (OpenSpec.upto switchoverEndsSpec)

/-- 'hopmeshlaw52.SwitchoverSettles', WHERE WHAT IT READS IS OF BULK AT MOST 1048576: true; the input reads as it did. -/
def switchoverSettlesUptoRow : OpenClaim := { program := "ytdlgdmbcbenlbaa", sum := "8ef00fb23f3337b593c0bf08b5963152249e3547098ee96831967524c254bbe9", func := "hopmesh/hopmeshlaw52.SwitchoverSettles", spec := "switchoverSettles", unfollowed := true, recurses := true, plainKeys := false, apart := false, narrowed := true }
def SwitchoverSettlesUptoSaid : Prop := switchoverSettlesUptoRow.holds Try.pinned (OpenSpec.upto switchoverSettlesSpec)

/-- 'hopmeshlaw52.SwitchoverOne', WHERE WHAT IT READS IS OF BULK AT MOST 1048576: true; the input reads as it did. -/
def switchoverOneUptoRow : OpenClaim := { program := "ytdlgdmbcbenlbaa", sum := "8ef00fb23f3337b593c0bf08b5963152249e3547098ee96831967524c254bbe9", func := "hopmesh/hopmeshlaw52.SwitchoverOne", spec := "switchoverOne", unfollowed := true, recurses := true, plainKeys := false, apart := false, narrowed := true }
def SwitchoverOneUptoSaid : Prop := switchoverOneUptoRow.holds Try.pinned (OpenSpec.upto switchoverOneSpec)

end Rows
end Go.Proofs.Ytdlgdmbcbenlbaa
