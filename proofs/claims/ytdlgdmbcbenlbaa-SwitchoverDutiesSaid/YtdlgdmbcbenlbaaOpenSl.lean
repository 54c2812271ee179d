/- Slices among the arguments, opened: elements of k cells. -/
import Derived.Test.YtdlgdmbcbenlbaaFrame
import Derived.Test.YtdlgdmbcbenlbaaKa
set_option linter.unusedVariables false
set_option linter.unusedSimpArgs false
namespace Go.Proofs.Ytdlgdmbcbenlbaa
open Go Go.RowKit
namespace Op
theorem spot_of_cell {w : World} {a : Addr} {v : Value} (h : w.cell? a = some v) : a.spot = none ∧ a.block < w.heap.size := by
  unfold World.cell? at h
  split at h
  · rename_i hb
    refine ⟨?_, ?_⟩
    · cases hs : a.spot with
      | none => rfl
      | some s => rw [hs] at h; simp at h
    · exact (Array.getElem?_eq_some_iff.1 hb).1
  · cases h
theorem open_sl {α : Type} [Inhabited α] {H : Type} {enc : TypeId × Value → H} {P : Program} {W : World} {sp : Nat → Bool} {held : Bool} {fuel : Nat} {t e : TypeId} {A : Option Addr} {n c k : Nat} {x : DataW H × List MemPlace}
    (ht : P.underlying t = some (.slice e)) (hce : P.cellsOf e = k) (hk : 0 < k) (f : α → Nat → Value) (Q : α → Prop)
    (hel : ∀ {cs' : List Value} {m : Nat} {y : DataW H × List MemPlace}, DataW.trod enc P W 0 sp held m e cs' = some y → ∃ x, Q x ∧ ∀ j, j < k → cs'[j]? = some (f x j))
    (h : DataW.trod enc P W 0 sp held fuel t [.slice A n c] = some x) :
    ∃ xs : List α, xs.length = n ∧ n ≤ maxLen ∧ n ≤ c ∧ (∀ i, i < n → Q (xs.getD i default)) ∧
      (0 < n → ∃ b off, A = some ⟨b, off, none⟩ ∧ b < W.heap.size ∧ ∀ i, i < n → ∀ j, j < k → W.cell? ⟨b, off + i * k + j, none⟩ = some (f (xs.getD i default) j)) := by
  obtain ⟨A', n', c', e1, hl, hm, h0, hi⟩ := Frame.trod_slice' ht h
  injection e1 with e1 _
  injection e1 with e1 e2 e3
  subst e1 e2 e3
  rcases A with _ | a
  · obtain ⟨rfl, rfl⟩ := h0 rfl
    exact ⟨[], rfl, by omega, by omega, fun i hi => absurd hi (by omega), fun h => absurd h (by omega)⟩
  · have key : ∀ i, i < n → ∃ x, Q x ∧ ∀ j, j < k → W.cell? (a.add (i * k + j)) = some (f x j) := by
      intro i hin
      obtain ⟨cs', m, y, hc, hh⟩ := hi a rfl i hin
      rw [hce] at hc
      obtain ⟨hlen, _, hget⟩ := Frame.cells_get hc
      obtain ⟨x, hq, hx⟩ := hel hh
      refine ⟨x, hq, fun j hj => ?_⟩
      have := hget j hj
      rw [Go.Deep.add_add] at this
      rw [this, hx j hj]
    have hch : ∃ g : Nat → α, ∀ i, i < n → Q (g i) ∧ ∀ j, j < k → W.cell? (a.add (i * k + j)) = some (f (g i) j) := by
      refine ⟨fun i => if h : i < n then Classical.choose (key i h) else default, fun i hin => ?_⟩
      simp only [hin, dif_pos]
      exact Classical.choose_spec (key i hin)
    obtain ⟨g, hg⟩ := hch
    have hgd : ∀ i, i < n → ((List.range n).map g).getD i default = g i := fun i hin => by rw [List.getD_eq_getElem?_getD]; simp [hin]
    refine ⟨(List.range n).map g, by simp, by omega, by omega, fun i hin => by rw [hgd i hin]; exact (hg i hin).1, fun hpos => ?_⟩
    have h00 := (hg 0 hpos).2 0 hk
    obtain ⟨hs, hb⟩ := spot_of_cell h00
    rw [show 0 * k + 0 = 0 by omega, show a.add 0 = a from rfl] at hs hb
    obtain ⟨b, off, spot⟩ := a
    simp only at hs hb
    subst hs
    refine ⟨b, off, rfl, hb, fun i hin j hj => ?_⟩
    have := (hg i hin).2 j hj
    have ea : (⟨b, off, none⟩ : Addr).add (i * k + j) = ⟨b, off + i * k + j, none⟩ := by unfold Addr.add; split <;> simp_all <;> omega
    rw [ea] at this
    rw [this, hgd i hin]
theorem all_getD {α : Type} [Inhabited α] {Q : α → Prop} {xs : List α} {n : Nat} (hn : xs.length = n) (h : ∀ i, i < n → Q (xs.getD i default)) : ∀ x ∈ xs, Q x := by
  intro x hx
  obtain ⟨i, hi, rfl⟩ := List.mem_iff_getElem.1 hx
  have := h i (by omega)
  rwa [List.getD_eq_getElem?_getD, List.getElem?_eq_getElem hi] at this
theorem open_sls {α : Type} [Inhabited α] {H : Type} {encH : TypeId × Value → H} {P : Program} {W : World} {sp : Nat → Bool} {held : Bool} {fuel : Nat} {t e : TypeId} {A : Option Addr} {n c k : Nat} {x : DataW H × List MemPlace}
    (ht : P.underlying t = some (.slice e)) (hce : P.cellsOf e = k) (hk : 0 < k) (enc : α → List Value) (hlen : ∀ x, (enc x).length = k) (Q : α → Prop)
    (hel : ∀ {cs' : List Value} {m : Nat} {y : DataW H × List MemPlace}, DataW.trod encH P W 0 sp held m e cs' = some y → ∃ x, Q x ∧ ∀ j, j < k → cs'[j]? = (enc x)[j]?)
    (h : DataW.trod encH P W 0 sp held fuel t [.slice A n c] = some x) : ∃ xs : List α, Sw.Sls enc k W A n xs ∧ ∀ x ∈ xs, Q x := by
  have hs : ∀ x j, j < k → (enc x)[j]? = some ((enc x).getD j (.bool false)) := fun x j hj => by
    rw [List.getD_eq_getElem?_getD, List.getElem?_eq_getElem (by rw [hlen]; exact hj)]; rfl
  obtain ⟨xs, h1, h2, h3, h4, h5⟩ := open_sl ht hce hk (fun x j => (enc x).getD j (.bool false)) Q (fun hh => by
    obtain ⟨x, hq, hx⟩ := hel hh
    exact ⟨x, hq, fun j hj => by rw [hx j hj, hs x j hj]⟩) h
  exact ⟨xs, ⟨h1, h2, fun hn => by
    obtain ⟨b, off, e, hb, hc⟩ := h5 hn
    exact ⟨b, off, e, hb, fun i hi j hj => by rw [hc i hi j hj, hs _ j hj]⟩⟩, all_getD h1 h4⟩
theorem at_int {H : Type} {enc : TypeId × Value → H} {P : Program} {W : World} {sp : Nat → Bool} {held : Bool} {k : IntKind} {cs : List Value} {off m : Nat} {t : TypeId} {y : DataW H × List MemPlace} (ht : P.underlying t = some (.int k)) (hc : P.cellsOf t = 1) (h : DataW.trod enc P W 0 sp held m t ((cs.drop off).take (P.cellsOf t)) = some y) :
    ∃ v, (Lit.int k v).wf = true ∧ cs[off]? = some (.int k v) := by
  obtain ⟨v, e, hwf⟩ := Frame.trod_int' ht h
  rw [hc] at e
  refine ⟨v, hwf, ?_⟩
  have := congrArg (fun l : List Value => l[0]?) e
  simp only [List.getElem?_take, List.getElem?_drop] at this
  simpa using this
theorem at_bool {H : Type} {enc : TypeId × Value → H} {P : Program} {W : World} {sp : Nat → Bool} {held : Bool} {cs : List Value} {off m : Nat} {t : TypeId} {y : DataW H × List MemPlace} (ht : P.underlying t = some .bool) (hc : P.cellsOf t = 1) (h : DataW.trod enc P W 0 sp held m t ((cs.drop off).take (P.cellsOf t)) = some y) :
    ∃ v, cs[off]? = some (.bool v) := by
  obtain ⟨v, e⟩ := Frame.trod_bool' ht h
  rw [hc] at e
  refine ⟨v, ?_⟩
  have := congrArg (fun l : List Value => l[0]?) e
  simp only [List.getElem?_take, List.getElem?_drop] at this
  simpa using this
end Op
end Go.Proofs.Ytdlgdmbcbenlbaa
