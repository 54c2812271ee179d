/- A slice of 16-bit numbers among the arguments, opened. -/
import Derived.Test.YtlefbpopemkkaaaCrcFinds
import Derived.Test.YtlefbpopemkkaaaFrame
namespace Go.Proofs.Ytlefbpopemkkaaa
open Go Go.RowKit
namespace Crc
theorem spot_of_cell {w : World} {a : Addr} {v : Value} (h : w.cell? a = some v) : a.spot = none ∧ a.block < w.heap.size := by
  unfold World.cell? at h
  split at h
  · rename_i hb
    refine ⟨?_, ?_⟩
    · cases hs : a.spot with
      | none => rfl
      | some s => rw [hs] at h; simp at h
    · exact (Array.getElem?_eq_some_iff.1 hb).1
  · cases h
theorem open_u16s {H : Type} {enc : TypeId × Value → H} {W : World} {sp : Nat → Bool} {held : Bool} {fuel : Nat} {A : Option Addr} {n c : Nat} {x : DataW H × List MemPlace}
    (h : DataW.trod enc Try.prog W 0 sp held fuel 48 [.slice A n c] = some x) : ∃ xs, U16s W A n c xs := by
  obtain ⟨A', n', c', e, hl, hm, h0, hi⟩ := Frame.trod_slice' Try.underlying48 h
  injection e with e _
  injection e with e1 e2 e3
  subst e1 e2 e3
  rcases A with _ | a
  · obtain ⟨rfl, rfl⟩ := h0 rfl
    exact ⟨[], rfl, by omega, fun i hi => absurd hi (by omega), fun h => absurd h (by omega)⟩
  · have key : ∀ i, i < n → ∃ v : Nat, v < 65536 ∧ W.cell? (a.add i) = some (.int .u16 (v : Int)) := by
      intro i hin
      obtain ⟨cs', m, y, hc, ht⟩ := hi a rfl i hin
      rw [show Try.prog.cellsOf 22 = 1 from by kernel_rfl, Nat.mul_one] at hc
      obtain ⟨hlen, _, hget⟩ := Frame.cells_get hc
      obtain ⟨v, rfl, hwf⟩ := Frame.trod_int' Try.underlying22 ht
      obtain ⟨z', hz⟩ := z_of v hwf
      refine ⟨v.toNat, by have := z1 z'; have := z0 z'; omega, ?_⟩
      have := hget 0 (by omega)
      rw [show (a.add i).add 0 = a.add i from rfl] at this
      rw [this, show ((v.toNat : Nat) : Int) = v by have := z0 z'; omega]
      rfl
    have hch : ∃ f : Nat → Nat, ∀ i, i < n → f i < 65536 ∧ W.cell? (a.add i) = some (.int .u16 (f i : Int)) := by
      refine ⟨fun i => if h : i < n then Classical.choose (key i h) else 0, fun i hin => ?_⟩
      simp only [hin, dif_pos]
      exact Classical.choose_spec (key i hin)
    obtain ⟨f, hf⟩ := hch
    refine ⟨(List.range n).map f, by simp, by omega, fun i hin => ?_, fun hpos => ?_⟩
    · simp [hin]; exact (hf i hin).1
    · have h00 := (hf 0 hpos).2
      obtain ⟨hs, hb⟩ := spot_of_cell h00
      rw [show a.add 0 = a from rfl] at hs hb
      obtain ⟨b, off, spot⟩ := a
      simp only at hs hb
      subst hs
      refine ⟨b, off, rfl, hb, fun i hin => ?_⟩
      have := (hf i hin).2
      have ea : (⟨b, off, none⟩ : Addr).add i = ⟨b, off + i, none⟩ := by unfold Addr.add; split <;> simp_all
      rw [ea] at this
      rw [this]; simp [hin]
end Crc
end Go.Proofs.Ytlefbpopemkkaaa
