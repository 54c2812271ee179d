/- Chapter 26: equal spots, equal cells of a table. -/
import Derived.Test.YtkfipbelhlcddaaGreatTx2
import Derived.Laws.StructEq
set_option linter.unusedVariables false
set_option linter.unusedSimpArgs false
namespace Go.Proofs.YtkfipbelhlcddaaGreat
open Go Go.RowKit Go.Sort
namespace Tx
open Sw Mm
def eqS (a b : Spt) : Bool := decide (a = b)
theorem eqS_split (a b : Spt) : eqS a b = (a.slot == b.slot && a.off == b.off) := by
  unfold eqS
  obtain ⟨a0, a1⟩ := a
  obtain ⟨b0, b1⟩ := b
  rw [Bool.eq_iff_iff]
  simp
theorem equal_spt (a b : Spt) (W : World) : (Op.equalIn 10000 78 (.agg #[.int .i64 a.slot, .int .i64 a.off]) (.agg #[.int .i64 b.slot, .int .i64 b.off])).run Tryz.prog W = .ok (eqS a b) W := by
  have u3 := Tryz.underlying3
  have a3 := Tryz.isAgg3
  have z3 := Tryz.sizeOf3
  have hS : Tryz.prog.underlying 78 = some (.struct (Tryz.prog.fieldsOf 78)) := by kernel_rfl
  have hp : Tryz.prog.stoodInHeld 78 = false := by kernel_rfl
  rw [eqS_split, show (10000 : Nat) = 9999 + 1 from rfl, run_equalIn_agg W 9999 78 _ _ hS hp]
  simp only [Program.fieldsOf, Tryz.underlying78]
  go_simp
  by_cases h0 : a.slot = b.slot
  · by_cases h1 : a.off = b.off <;> simp [h0, h1]
  · simp [h0]
theorem eql_spt (a b : Spt) (W : World) : (binOp .eql 78 (.agg #[.int .i64 a.slot, .int .i64 a.off]) (.agg #[.int .i64 b.slot, .int .i64 b.off])).run Tryz.prog W = .ok (.bool (eqS a b)) W := by
  rw [run_eql_struct, equal_spt]; rfl
theorem neq_spt (a b : Spt) (W : World) : (binOp .neq 78 (.agg #[.int .i64 a.slot, .int .i64 a.off]) (.agg #[.int .i64 b.slot, .int .i64 b.off])).run Tryz.prog W = .ok (.bool (!eqS a b)) W := by
  rw [run_neq_struct, equal_spt]; rfl
def eqT (a b : TCl) : Bool := decide (a = b)
theorem eqT_split (a b : TCl) : eqT a b = (a.slot == b.slot && (a.off == b.off && (a.kind == b.kind && (a.send == b.send && (a.peer == b.peer && a.flow == b.flow))))) := by
  unfold eqT
  obtain ⟨a0, a1, a2, a3, a4, a5⟩ := a
  obtain ⟨b0, b1, b2, b3, b4, b5⟩ := b
  rw [Bool.eq_iff_iff]
  simp
theorem equal_tcl (a b : TCl) (W : World) : (Op.equalIn 10000 67 (.agg #[.int .i64 a.slot, .int .i64 a.off, .int .i64 a.kind, .bool a.send, .int .i64 a.peer, .int .i64 a.flow]) (.agg #[.int .i64 b.slot, .int .i64 b.off, .int .i64 b.kind, .bool b.send, .int .i64 b.peer, .int .i64 b.flow])).run Tryz.prog W = .ok (eqT a b) W := by
  have u3 := Tryz.underlying3
  have a3 := Tryz.isAgg3
  have z3 := Tryz.sizeOf3
  have u4 := Tryz.underlying4
  have a4 := Tryz.isAgg4
  have z4 := Tryz.sizeOf4
  have hS : Tryz.prog.underlying 67 = some (.struct (Tryz.prog.fieldsOf 67)) := by kernel_rfl
  have hp : Tryz.prog.stoodInHeld 67 = false := by kernel_rfl
  rw [eqT_split, show (10000 : Nat) = 9999 + 1 from rfl, run_equalIn_agg W 9999 67 _ _ hS hp]
  simp only [Program.fieldsOf, Tryz.underlying67]
  go_simp
  by_cases h0 : a.slot = b.slot
  · by_cases h1 : a.off = b.off
    · by_cases h2 : a.kind = b.kind
      · by_cases h3 : a.send = b.send
        · by_cases h4 : a.peer = b.peer
          · by_cases h5 : a.flow = b.flow <;> simp [h0, h1, h2, h3, h4, h5]
          · simp [h0, h1, h2, h3, h4]
        · simp [h0, h1, h2, h3]
      · simp [h0, h1, h2]
    · simp [h0, h1]
  · simp [h0]
theorem eql_tcl (a b : TCl) (W : World) : (binOp .eql 67 (.agg #[.int .i64 a.slot, .int .i64 a.off, .int .i64 a.kind, .bool a.send, .int .i64 a.peer, .int .i64 a.flow]) (.agg #[.int .i64 b.slot, .int .i64 b.off, .int .i64 b.kind, .bool b.send, .int .i64 b.peer, .int .i64 b.flow])).run Tryz.prog W = .ok (.bool (eqT a b)) W := by
  rw [run_eql_struct, equal_tcl]; rfl
theorem neq_tcl (a b : TCl) (W : World) : (binOp .neq 67 (.agg #[.int .i64 a.slot, .int .i64 a.off, .int .i64 a.kind, .bool a.send, .int .i64 a.peer, .int .i64 a.flow]) (.agg #[.int .i64 b.slot, .int .i64 b.off, .int .i64 b.kind, .bool b.send, .int .i64 b.peer, .int .i64 b.flow])).run Tryz.prog W = .ok (.bool (!eqT a b)) W := by
  rw [run_neq_struct, equal_tcl]; rfl
end Tx
end Go.Proofs.YtkfipbelhlcddaaGreat
