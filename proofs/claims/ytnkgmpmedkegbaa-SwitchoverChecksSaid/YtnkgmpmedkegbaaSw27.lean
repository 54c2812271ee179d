/- Equality of pairs and of duties. -/
import Derived.Test.YtnkgmpmedkegbaaSw26
import Derived.ChangeKeysEq
namespace Go.Proofs.Ytnkgmpmedkegbaa
open Go Go.RowKit Go.Sort
namespace Sw
open Mm
theorem info_int : (Try.prog.info? 3).map (fun i => (i.zero, i.size, i.bytes)) = some (some (.int .i64 0), 1, 8) := by kernel_rfl
def eqP (a b : Int × Int) : Bool := decide (a = b)
theorem eqP_split (a b : Int × Int) : eqP a b = (a.1 == b.1 && a.2 == b.2) := by
  unfold eqP
  obtain ⟨a0, a1⟩ := a
  obtain ⟨b0, b1⟩ := b
  rw [Bool.eq_iff_iff]
  simp
theorem neq_pr (a b : Int × Int) (W : World) : (binOp .neq 42 (.agg #[.int .i64 a.1, .int .i64 a.2]) (.agg #[.int .i64 b.1, .int .i64 b.2])).run Try.prog W = .ok (.bool (!eqP a b)) W := by
  have u3 := Try.underlying3
  have a3 := Try.isAgg3
  have z3 := Try.sizeOf3
  have hu := Try.underlying42
  obtain ⟨i, hi, hz0, hz1, hz2⟩ := info_parts info_int
  have hc1 : Try.prog.cellsOf 3 = 1 := by kernel_rfl
  rw [eqP_split, run_neq_struct, show (10000 : Nat) = 9999 + 1 from rfl, run_equalIn_array W 9999 _ _ hu hi]
  simp only [List.range_succ_eq_map, List.range_zero, List.map_nil, List.map_cons, Op.eqItems, hc1]
  go_simp
  by_cases h0 : a.1 = b.1
  · by_cases h1 : a.2 = b.2 <;> simp [h0, h1]
  · simp [h0]
def eqD (a b : Dut) : Bool := decide (a = b)
theorem eqD_split (a b : Dut) : eqD a b = (eqC a.cell b.cell && (a.sends == b.sends && (a.extra == b.extra && (a.first == b.first && a.til == b.til)))) := by
  unfold eqD eqC
  obtain ⟨a0, a1, a2, a3, a4⟩ := a
  obtain ⟨b0, b1, b2, b3, b4⟩ := b
  rw [Bool.eq_iff_iff]
  simp
set_option maxRecDepth 100000 in
theorem equal_dut (a b : Dut) (W : World) : (Op.equalIn 10000 45 (.agg #[.int .i64 a.cell.slot, .int .i64 a.cell.offset, .int .i64 a.cell.frm, .int .i64 a.cell.to, .int .i64 a.cell.flow, .bool a.sends, .bool a.extra, .int .i64 a.first, .int .i64 a.til]) (.agg #[.int .i64 b.cell.slot, .int .i64 b.cell.offset, .int .i64 b.cell.frm, .int .i64 b.cell.to, .int .i64 b.cell.flow, .bool b.sends, .bool b.extra, .int .i64 b.first, .int .i64 b.til])).run Try.prog W = .ok (eqD a b) W := by
  have u3 := Try.underlying3
  have a3 := Try.isAgg3
  have z3 := Try.sizeOf3
  have u4 := Try.underlying4
  have a4 := Try.isAgg4
  have z4 := Try.sizeOf4
  have a5 := Try.isAgg34
  have z5 := Try.sizeOf34
  have hS : Try.prog.underlying 45 = some (.struct (Try.prog.fieldsOf 45)) := by kernel_rfl
  have hp : Try.prog.stoodInHeld 45 = false := by kernel_rfl
  rw [eqD_split, eqC_split, show (10000 : Nat) = 9999 + 1 from rfl, run_equalIn_agg W 9999 45 _ _ hS hp]
  simp only [Program.fieldsOf, Try.underlying45]
  go_simp
  by_cases h0 : a.cell.slot = b.cell.slot
  case neg => simp [h0]
  by_cases h1 : a.cell.offset = b.cell.offset
  case neg => simp [h0, h1]
  by_cases h2 : a.cell.frm = b.cell.frm
  case neg => simp [h0, h1, h2]
  by_cases h3 : a.cell.to = b.cell.to
  case neg => simp [h0, h1, h2, h3]
  by_cases h4 : a.cell.flow = b.cell.flow
  case neg => simp [h0, h1, h2, h3, h4]
  by_cases h5 : a.sends = b.sends
  case neg => simp [h0, h1, h2, h3, h4, h5]
  by_cases h6 : a.extra = b.extra
  case neg => simp [h0, h1, h2, h3, h4, h5, h6]
  by_cases h7 : a.first = b.first
  case neg => simp [h0, h1, h2, h3, h4, h5, h6, h7]
  by_cases h8 : a.til = b.til
  · simp [h0, h1, h2, h3, h4, h5, h6, h7, h8]
  · simp [h0, h1, h2, h3, h4, h5, h6, h7, h8]
theorem eql_dut (a b : Dut) (W : World) : (binOp .eql 45 (.agg #[.int .i64 a.cell.slot, .int .i64 a.cell.offset, .int .i64 a.cell.frm, .int .i64 a.cell.to, .int .i64 a.cell.flow, .bool a.sends, .bool a.extra, .int .i64 a.first, .int .i64 a.til]) (.agg #[.int .i64 b.cell.slot, .int .i64 b.cell.offset, .int .i64 b.cell.frm, .int .i64 b.cell.to, .int .i64 b.cell.flow, .bool b.sends, .bool b.extra, .int .i64 b.first, .int .i64 b.til])).run Try.prog W = .ok (.bool (eqD a b)) W := by
  rw [run_eql_struct, equal_dut]; rfl
theorem neq_dut (a b : Dut) (W : World) : (binOp .neq 45 (.agg #[.int .i64 a.cell.slot, .int .i64 a.cell.offset, .int .i64 a.cell.frm, .int .i64 a.cell.to, .int .i64 a.cell.flow, .bool a.sends, .bool a.extra, .int .i64 a.first, .int .i64 a.til]) (.agg #[.int .i64 b.cell.slot, .int .i64 b.cell.offset, .int .i64 b.cell.frm, .int .i64 b.cell.to, .int .i64 b.cell.flow, .bool b.sends, .bool b.extra, .int .i64 b.first, .int .i64 b.til])).run Try.prog W = .ok (.bool (!eqD a b)) W := by
  rw [run_neq_struct, equal_dut]; rfl
theorem list_eq_getD {α : Type} [Inhabited α] {xs ys : List α} {n : Nat} (h1 : xs.length = n) (h2 : ys.length = n) (h : ∀ j, j < n → xs.getD j default = ys.getD j default) : xs = ys := by
  apply List.ext_getElem (by omega)
  intro i h3 h4
  have := h i (by omega)
  rw [List.getD_eq_getElem?_getD, List.getD_eq_getElem?_getD, List.getElem?_eq_getElem h3, List.getElem?_eq_getElem h4] at this
  exact this
end Sw
end Go.Proofs.Ytnkgmpmedkegbaa
