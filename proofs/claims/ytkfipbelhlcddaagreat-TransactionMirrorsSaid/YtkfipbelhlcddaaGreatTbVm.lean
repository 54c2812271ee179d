/- The law Mirrors, its arguments taken apart. -/
import Derived.Test.YtkfipbelhlcddaaGreatTbK
import Derived.Test.YtkfipbelhlcddaaGreatMo
set_option linter.unusedVariables false
set_option linter.unusedSimpArgs false
namespace Go.Proofs.YtkfipbelhlcddaaGreat
open Go Go.RowKit
namespace Tx
theorem transactionMirrors_walk (x1 : Int) (A3 : Option Addr) (n4 c5 : Nat) (l6 : List TCl) (A8 : Option Addr) (n9 c10 : Nat) (l11 : List Int) (A13 : Option Addr) (n14 c15 : Nat) (l16 : List Int) (A18 : Option Addr) (n19 c20 : Nat) (l21 : List Int) (x23 : Int) (x25 : Int) (W : World) (h2 : (Lit.int .u8 x1).wf = true) (h7 : TclS W A3 n4 l6 ∧ n4 ≤ c5) (h12 : U8S W A8 n9 l11 ∧ ∀ s ∈ l11, 0 ≤ s ∧ s ≤ 255) (h17 : U8S W A13 n14 l16 ∧ ∀ s ∈ l16, 0 ≤ s ∧ s ≤ 255) (h22 : IntS W A18 n19 l21 ∧ n19 ≤ c20) (h24 : (Lit.int .u8 x23).wf = true) (h26 : (Lit.int .u8 x25).wf = true) : Calls Tryz.prog 5 #[.int .u8 x1, .slice A3 n4 c5, .slice A8 n9 c10, .slice A13 n14 c15, .slice A18 n19 c20, .int .u8 x23, .int .u8 x25] W fun e w' => e = .returned (.bool true) ∧ Below W.heap.size W w' :=
  mirrors_any x1 A3 n4 c5 l6 A8 n9 c10 l11 A13 n14 c15 l16 A18 n19 c20 l21 x23 x25 W (u8_wf h2).1 (u8_wf h2).2 (u8_wf h24).1 (u8_wf h24).2 (u8_wf h26).1 (u8_wf h26).2 h7.1 h12.1 h12.2 h17.1 h17.2 h22.1
end Tx
end Go.Proofs.YtkfipbelhlcddaaGreat
