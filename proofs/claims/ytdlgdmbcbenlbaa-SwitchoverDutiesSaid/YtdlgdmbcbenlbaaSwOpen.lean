/- The arguments of the statements of chapter 52, opened. -/
import Derived.Test.YtdlgdmbcbenlbaaOpenSl
import Derived.Test.YtdlgdmbcbenlbaaKa
set_option linter.unusedVariables false
set_option linter.unusedSimpArgs false
namespace Go.Proofs.Ytdlgdmbcbenlbaa
open Go Go.RowKit
namespace Sw
open Op
section
variable {H : Type} {enc : TypeId × Value → H} {W : World} {sp : Nat → Bool} {held : Bool} {fuel : Nat} {A : Option Addr} {n c : Nat} {x : DataW H × List MemPlace}
theorem sub_at {cs : List Value} {off k j : Nat} (hj : j < k) : ((cs.drop off).take k)[j]? = cs[off + j]? := by
  rw [List.getElem?_take, if_pos hj, List.getElem?_drop]
theorem cel_open {cs' : List Value} {m : Nat} {y : DataW H × List MemPlace} (hh : DataW.trod enc Try.prog W 0 sp held m 34 cs' = some y) : ∃ x : Cel, x.ok ∧ ∀ j, j < 5 → cs'[j]? = (celE x)[j]? := by
  obtain ⟨hl, hf⟩ := Frame.trod_struct' Try.underlying34 hh
  obtain ⟨_, _, g0⟩ := hf 0 _ rfl
  obtain ⟨_, _, g1⟩ := hf 1 _ rfl
  obtain ⟨_, _, g2⟩ := hf 2 _ rfl
  obtain ⟨_, _, g3⟩ := hf 3 _ rfl
  obtain ⟨_, _, g4⟩ := hf 4 _ rfl
  obtain ⟨v0, k0, e0⟩ := at_int Try.underlying3 (by kernel_rfl) g0
  obtain ⟨v1, k1, e1⟩ := at_int Try.underlying3 (by kernel_rfl) g1
  obtain ⟨v2, k2, e2⟩ := at_int Try.underlying3 (by kernel_rfl) g2
  obtain ⟨v3, k3, e3⟩ := at_int Try.underlying3 (by kernel_rfl) g3
  obtain ⟨v4, k4, e4⟩ := at_int Try.underlying3 (by kernel_rfl) g4
  exact ⟨⟨v0, v1, v2, v3, v4⟩, ⟨k0, k1, k2, k3, k4⟩, fun j hj => match j, hj with
    | 0, _ => e0
    | 1, _ => e1
    | 2, _ => e2
    | 3, _ => e3
    | 4, _ => e4⟩
theorem open_cells (h : DataW.trod enc Try.prog W 0 sp held fuel 22 [.slice A n c] = some x) : ∃ xs, CelS W A n xs ∧ ∀ x ∈ xs, x.ok :=
  open_sls Try.underlying22 (by kernel_rfl) (by decide) celE celE_len Cel.ok (fun hh => cel_open hh) h
theorem open_chgs (h : DataW.trod enc Try.prog W 0 sp held fuel 25 [.slice A n c] = some x) : ∃ xs, ChgS W A n xs ∧ ∀ x ∈ xs, I64 x.slot ∧ x.cell.ok :=
  open_sls Try.underlying25 (by kernel_rfl) (by decide) chgE chgE_len (fun x => I64 x.slot ∧ x.cell.ok)
    (fun {cs' m y} hh => by
      obtain ⟨hl, hf⟩ := Frame.trod_struct' Try.underlying56 hh
      obtain ⟨_, _, g0⟩ := hf 0 _ rfl
      obtain ⟨_, _, g1⟩ := hf 1 _ rfl
      obtain ⟨_, _, g2⟩ := hf 2 _ rfl
      obtain ⟨v0, k0, e0⟩ := at_int Try.underlying3 (by kernel_rfl) g0
      obtain ⟨v1, e1⟩ := at_bool Try.underlying4 (by kernel_rfl) g1
      obtain ⟨v2, k2, e2⟩ := cel_open g2
      replace e2 : ∀ j, j < 5 → ((cs'.drop 2).take (Try.prog.cellsOf 34))[j]? = (celE v2)[j]? := e2
      rw [show Try.prog.cellsOf 34 = 5 from by kernel_rfl] at e2
      refine ⟨⟨v0, v1, v2⟩, ⟨k0, k2⟩, fun j hj => ?_⟩
      match j, hj with
      | 0, _ => exact e0
      | 1, _ => exact e1
      | j + 2, hj =>
        have := e2 j (by omega)
        rw [sub_at (by omega)] at this
        rw [show j + 2 = 2 + j by omega]
        refine Eq.trans this ?_
        rw [Nat.add_comm 2 j]
        rfl) h
end
end Sw
end Go.Proofs.Ytdlgdmbcbenlbaa
