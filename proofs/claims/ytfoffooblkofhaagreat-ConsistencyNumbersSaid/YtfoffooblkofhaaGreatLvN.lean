/- The law Numbers, its arguments taken apart. -/
import Derived.Test.YtfoffooblkofhaaGreatLpN
set_option linter.unusedVariables false
set_option linter.unusedSimpArgs false
namespace Go.Proofs.YtfoffooblkofhaaGreat
open Go Go.RowKit
namespace Tx
theorem consistencyNumbers_walk (x1 : Int) (x3 : Int) (A5 : Option Addr) (n6 c7 : Nat) (l8 : List TCl) (x10 : Int) (x12 : Int) (A14 : Option Addr) (n15 c16 : Nat) (l17 : List TCl) (A19 : Option Addr) (n20 c21 : Nat) (l22 : List Int) (A24 : Option Addr) (n25 c26 : Nat) (l27 : List Wsh) (W : World) (h2 : (Lit.int .i64 x1).wf = true) (h4 : (Lit.int .i64 x3).wf = true) (h9 : TclS W A5 n6 l8 ∧ n6 ≤ c7) (h11 : (Lit.int .i64 x10).wf = true) (h13 : (Lit.int .i64 x12).wf = true) (h18 : TclS W A14 n15 l17 ∧ n15 ≤ c16) (h23 : IntS W A19 n20 l22 ∧ n20 ≤ c21) (h28 : WshS W A24 n25 l27 ∧ n25 ≤ c26) : Calls Tryz.prog 10 #[.agg #[.int .i64 x1, .int .i64 x3, .slice A5 n6 c7], .agg #[.int .i64 x10, .int .i64 x12, .slice A14 n15 c16], .slice A19 n20 c21, .slice A24 n25 c26] W fun e w' => e = .returned (.bool true) ∧ Below W.heap.size W w' :=
  lawNumbers_any ⟨x1, x3, l8⟩ ⟨x10, x12, l17⟩ l22 l27 ⟨A5, n6, c7⟩ ⟨A14, n15, c16⟩ A19 A24 n20 c21 n25 c26 W ⟨h9.1, h9.2⟩ ⟨h18.1, h18.2⟩ h23.1 h28.1
end Tx
end Go.Proofs.YtfoffooblkofhaaGreat
