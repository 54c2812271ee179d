/- The law Order, its arguments taken apart. -/
import Derived.Test.YtkfipbelhlcddaaGreatTbQ
import Derived.Test.YtkfipbelhlcddaaGreatMo
set_option linter.unusedVariables false
set_option linter.unusedSimpArgs false
namespace Go.Proofs.YtkfipbelhlcddaaGreat
open Go Go.RowKit
namespace Tx
theorem transactionOrder_walk (x1 : Int) (A3 : Option Addr) (n4 c5 : Nat) (l6 : List TCl) (A8 : Option Addr) (n9 c10 : Nat) (l11 : List Int) (x13 : Int) (x15 : Int) (x17 : Int) (x19 : Int) (W : World) (h2 : (Lit.int .u8 x1).wf = true) (h7 : TclS W A3 n4 l6 ∧ n4 ≤ c5) (h12 : IntS W A8 n9 l11 ∧ n9 ≤ c10) (h14 : (Lit.int .u8 x13).wf = true) (h16 : (Lit.int .u8 x15).wf = true) (h18 : (Lit.int .u8 x17).wf = true) (h20 : (Lit.int .u8 x19).wf = true) : Calls Tryz.prog 8 #[.int .u8 x1, .slice A3 n4 c5, .slice A8 n9 c10, .int .u8 x13, .int .u8 x15, .int .u8 x17, .int .u8 x19] W fun e w' => e = .returned (.bool true) ∧ Below W.heap.size W w' :=
  order_any x1 A3 n4 c5 l6 A8 n9 c10 l11 x13 x15 x17 x19 W (u8_wf h2).1 (u8_wf h2).2 (u8_wf h14).1 (u8_wf h14).2 (u8_wf h16).1 (u8_wf h16).2 (u8_wf h18).1 (u8_wf h18).2 (u8_wf h20).1 (u8_wf h20).2 h7.1 h12.1
end Tx
end Go.Proofs.YtkfipbelhlcddaaGreat
