/- Slices among the arguments, opened: numbers, links, cells, rows. -/
import Derived.Test.YthibgpgjioepfaaFrame
import Derived.Test.YthibgpgjioepfaaNetBase
namespace Go.Proofs.Ythibgpgjioepfaa
open Go Go.RowKit
namespace Op
theorem spot_of_cell {w : World} {a : Addr} {v : Value} (h : w.cell? a = some v) : a.spot = none ∧ a.block < w.heap.size := by
  unfold World.cell? at h
  split at h
  · rename_i hb
    refine ⟨?_, ?_⟩
    · cases hs : a.spot with
      | none => rfl
      | some s => rw [hs] at h; simp at h
    · exact (Array.getElem?_eq_some_iff.1 hb).1
  · cases h
theorem open_sl {α : Type} [Inhabited α] {H : Type} {enc : TypeId × Value → H} {P : Program} {W : World} {sp : Nat → Bool} {held : Bool} {fuel : Nat} {t e : TypeId} {A : Option Addr} {n c k : Nat} {x : DataW H × List MemPlace}
    (ht : P.underlying t = some (.slice e)) (hce : P.cellsOf e = k) (hk : 0 < k) (f : α → Nat → Value) (Q : α → Prop)
    (hel : ∀ {cs' : List Value} {m : Nat} {y : DataW H × List MemPlace}, DataW.trod enc P W 0 sp held m e cs' = some y → ∃ x, Q x ∧ ∀ j, j < k → cs'[j]? = some (f x j))
    (h : DataW.trod enc P W 0 sp held fuel t [.slice A n c] = some x) :
    ∃ xs : List α, xs.length = n ∧ n ≤ maxLen ∧ n ≤ c ∧ (∀ i, i < n → Q (xs.getD i default)) ∧
      (0 < n → ∃ b off, A = some ⟨b, off, none⟩ ∧ b < W.heap.size ∧ ∀ i, i < n → ∀ j, j < k → W.cell? ⟨b, off + i * k + j, none⟩ = some (f (xs.getD i default) j)) := by
  obtain ⟨A', n', c', e1, hl, hm, h0, hi⟩ := Frame.trod_slice' ht h
  injection e1 with e1 _
  injection e1 with e1 e2 e3
  subst e1 e2 e3
  rcases A with _ | a
  · obtain ⟨rfl, rfl⟩ := h0 rfl
    exact ⟨[], rfl, by omega, by omega, fun i hi => absurd hi (by omega), fun h => absurd h (by omega)⟩
  · have key : ∀ i, i < n → ∃ x, Q x ∧ ∀ j, j < k → W.cell? (a.add (i * k + j)) = some (f x j) := by
      intro i hin
      obtain ⟨cs', m, y, hc, hh⟩ := hi a rfl i hin
      rw [hce] at hc
      obtain ⟨hlen, _, hget⟩ := Frame.cells_get hc
      obtain ⟨x, hq, hx⟩ := hel hh
      refine ⟨x, hq, fun j hj => ?_⟩
      have := hget j hj
      rw [Go.Deep.add_add] at this
      rw [this, hx j hj]
    have hch : ∃ g : Nat → α, ∀ i, i < n → Q (g i) ∧ ∀ j, j < k → W.cell? (a.add (i * k + j)) = some (f (g i) j) := by
      refine ⟨fun i => if h : i < n then Classical.choose (key i h) else default, fun i hin => ?_⟩
      simp only [hin, dif_pos]
      exact Classical.choose_spec (key i hin)
    obtain ⟨g, hg⟩ := hch
    have hgd : ∀ i, i < n → ((List.range n).map g).getD i default = g i := fun i hin => by rw [List.getD_eq_getElem?_getD]; simp [hin]
    refine ⟨(List.range n).map g, by simp, by omega, by omega, fun i hin => by rw [hgd i hin]; exact (hg i hin).1, fun hpos => ?_⟩
    have h00 := (hg 0 hpos).2 0 hk
    obtain ⟨hs, hb⟩ := spot_of_cell h00
    rw [show 0 * k + 0 = 0 by omega, show a.add 0 = a from rfl] at hs hb
    obtain ⟨b, off, spot⟩ := a
    simp only at hs hb
    subst hs
    refine ⟨b, off, rfl, hb, fun i hin j hj => ?_⟩
    have := (hg i hin).2 j hj
    have ea : (⟨b, off, none⟩ : Addr).add (i * k + j) = ⟨b, off + i * k + j, none⟩ := by unfold Addr.add; split <;> simp_all <;> omega
    rw [ea] at this
    rw [this, hgd i hin]
theorem i64_wf {n : Int} (h : (Lit.int .i64 n).wf = true) : Nt.I64 n := by
  unfold Nt.I64
  unfold Lit.wf at h
  rw [Bool.and_eq_true, decide_eq_true_eq, decide_eq_true_eq] at h
  exact ⟨h.1, h.2⟩
section
variable {H : Type} {enc : TypeId × Value → H} {W : World} {sp : Nat → Bool} {held : Bool} {fuel : Nat} {A : Option Addr} {n c : Nat} {x : DataW H × List MemPlace}
open Nt
theorem all_getD {α : Type} [Inhabited α] {Q : α → Prop} {xs : List α} {n : Nat} (hn : xs.length = n) (h : ∀ i, i < n → Q (xs.getD i default)) : ∀ x ∈ xs, Q x := by
  intro x hx
  obtain ⟨i, hi, rfl⟩ := List.mem_iff_getElem.1 hx
  have := h i (by omega)
  rwa [List.getD_eq_getElem?_getD, List.getElem?_eq_getElem hi] at this
theorem open_ints (h : DataW.trod enc Try.prog W 0 sp held fuel 24 [.slice A n c] = some x) : ∃ xs, IntS W A n xs := by
  obtain ⟨xs, h1, h2, h3, h4, h5⟩ := open_sl (α := Int) (k := 1) Try.underlying24 (by kernel_rfl) (by decide) (fun x _ => .int .i64 x) I64
    (fun {cs' m y} hh => by
      obtain ⟨v, rfl, hwf⟩ := Frame.trod_int' Try.underlying3 hh
      exact ⟨v, i64_wf hwf, fun j hj => by obtain rfl : j = 0 := by omega
                                           rfl⟩) h
  exact ⟨xs, ⟨h1, h2, fun hn => by obtain ⟨b, off, e, hb, hc⟩ := h5 hn; exact ⟨b, off, e, hb, hc⟩⟩, all_getD h1 h4⟩
theorem int_at {cs : List Value} {off m : Nat} {t : TypeId} {y : DataW H × List MemPlace} (ht : Try.prog.underlying t = some (.int .i64)) (hc : Try.prog.cellsOf t = 1) (h : DataW.trod enc Try.prog W 0 sp held m t ((cs.drop off).take (Try.prog.cellsOf t)) = some y) :
    ∃ v, I64 v ∧ cs[off]? = some (.int .i64 v) := by
  obtain ⟨v, e, hwf⟩ := Frame.trod_int' ht h
  rw [hc] at e
  refine ⟨v, i64_wf hwf, ?_⟩
  have := congrArg (fun l : List Value => l[0]?) e
  simp only [List.getElem?_take, List.getElem?_drop] at this
  simpa using this
theorem open_links (h : DataW.trod enc Try.prog W 0 sp held fuel 23 [.slice A n c] = some x) : ∃ xs, LnkS W A n xs := by
  obtain ⟨xs, h1, h2, h3, h4, h5⟩ := open_sl (α := Lnk) (k := 3) Try.underlying23 (by kernel_rfl) (by decide) (fun x j => .int .i64 (lnkF x j)) Lnk.ok
    (fun {cs' m y} hh => by
      obtain ⟨hl, hf⟩ := Frame.trod_struct' Try.underlying44 hh
      obtain ⟨_, _, g0⟩ := hf 0 _ rfl
      obtain ⟨_, _, g1⟩ := hf 1 _ rfl
      obtain ⟨_, _, g2⟩ := hf 2 _ rfl
      obtain ⟨v0, k0, e0⟩ := int_at Try.underlying3 (by kernel_rfl) g0
      obtain ⟨v1, k1, e1⟩ := int_at Try.underlying3 (by kernel_rfl) g1
      obtain ⟨v2, k2, e2⟩ := int_at Try.underlying3 (by kernel_rfl) g2
      exact ⟨⟨v0, v1, v2⟩, ⟨k0, k1, k2⟩, fun j hj => match j, hj with
        | 0, _ => e0
        | 1, _ => e1
        | 2, _ => e2⟩) h
  exact ⟨xs, ⟨h1, h2, fun hn => by obtain ⟨b, off, e, hb, hc⟩ := h5 hn; exact ⟨b, off, e, hb, hc⟩⟩, all_getD h1 h4⟩
theorem open_cells (h : DataW.trod enc Try.prog W 0 sp held fuel 27 [.slice A n c] = some x) : ∃ xs, CelS W A n xs := by
  obtain ⟨xs, h1, h2, h3, h4, h5⟩ := open_sl (α := Cel) (k := 5) Try.underlying27 (by kernel_rfl) (by decide) (fun x j => .int .i64 (celF x j)) Cel.ok
    (fun {cs' m y} hh => by
      obtain ⟨hl, hf⟩ := Frame.trod_struct' Try.underlying36 hh
      obtain ⟨_, _, g0⟩ := hf 0 _ rfl
      obtain ⟨_, _, g1⟩ := hf 1 _ rfl
      obtain ⟨_, _, g2⟩ := hf 2 _ rfl
      obtain ⟨_, _, g3⟩ := hf 3 _ rfl
      obtain ⟨_, _, g4⟩ := hf 4 _ rfl
      obtain ⟨v0, k0, e0⟩ := int_at Try.underlying3 (by kernel_rfl) g0
      obtain ⟨v1, k1, e1⟩ := int_at Try.underlying3 (by kernel_rfl) g1
      obtain ⟨v2, k2, e2⟩ := int_at Try.underlying3 (by kernel_rfl) g2
      obtain ⟨v3, k3, e3⟩ := int_at Try.underlying3 (by kernel_rfl) g3
      obtain ⟨v4, k4, e4⟩ := int_at Try.underlying3 (by kernel_rfl) g4
      exact ⟨⟨v0, v1, v2, v3, v4⟩, ⟨k0, k1, k2, k3, k4⟩, fun j hj => match j, hj with
        | 0, _ => e0
        | 1, _ => e1
        | 2, _ => e2
        | 3, _ => e3
        | 4, _ => e4⟩) h
  exact ⟨xs, ⟨h1, h2, fun hn => by obtain ⟨b, off, e, hb, hc⟩ := h5 hn; exact ⟨b, off, e, hb, hc⟩⟩, all_getD h1 h4⟩
theorem cap_of {t e : TypeId} (ht : Try.prog.underlying t = some (.slice e)) (h : DataW.trod enc Try.prog W 0 sp held fuel t [.slice A n c] = some x) : n ≤ c := by
  obtain ⟨A', n', c', e1, hl, _⟩ := Frame.trod_slice' ht h
  injection e1 with e1 _
  injection e1 with e1 e2 e3
  omega
theorem open_cells2 (h : DataW.trod enc Try.prog W 0 sp held fuel 27 [.slice A n c] = some x) : ∃ xs, CelS W A n xs ∧ n ≤ c := by
  obtain ⟨xs, hx⟩ := open_cells h
  exact ⟨xs, hx, cap_of Try.underlying27 h⟩
theorem open_links2 (h : DataW.trod enc Try.prog W 0 sp held fuel 23 [.slice A n c] = some x) : ∃ xs, LnkS W A n xs ∧ n ≤ c := by
  obtain ⟨xs, hx⟩ := open_links h
  exact ⟨xs, hx, cap_of Try.underlying23 h⟩
theorem open_rows (h : DataW.trod enc Try.prog W 0 sp held fuel 22 [.slice A n c] = some x) : ∃ xss, RowS W A n xss := by
  obtain ⟨xs, h1, h2, h3, h4, h5⟩ := open_sl (α := Option Addr × Nat × Nat × List Int) (k := 1) Try.underlying22 (by kernel_rfl) (by decide) (fun x _ => .slice x.1 x.2.1 x.2.2.1) (fun x => IntS W x.1 x.2.1 x.2.2.2)
    (fun {cs' m y} hh => by
      obtain ⟨A', n', c', rfl, _⟩ := Frame.trod_slice' Try.underlying24 hh
      obtain ⟨xs, hx⟩ := open_ints hh
      exact ⟨(A', n', c', xs), hx, fun j hj => by obtain rfl : j = 0 := by omega
                                                  rfl⟩) h
  refine ⟨xs.map (·.2.2.2), by simp [h1], h2, fun hn => ?_⟩
  obtain ⟨b, off, e, hb, hc⟩ := h5 hn
  refine ⟨b, off, e, hb, fun i hi => ⟨_, _, _, by have := hc i hi 0 (by decide); rwa [show off + i * 1 + 0 = off + i by omega] at this, ?_⟩⟩
  have e2 : (xs.map (·.2.2.2)).getD i [] = (xs.getD i default).2.2.2 := by
    rw [List.getD_eq_getElem?_getD, List.getD_eq_getElem?_getD, List.getElem?_map]
    rw [List.getElem?_eq_getElem (by omega)]; rfl
  rw [e2]
  exact h4 i hi
end
end Op
end Go.Proofs.Ythibgpgjioepfaa
