/- hopmeshref31.Copy. -/
import Derived.Test.YthibgpgjioepfaaLaw1
import Derived.Deep.RegionHeld3
namespace Go.Proofs.Ythibgpgjioepfaa
open Go Go.RowKit Go.Sort
namespace Nt
open Mm
/-- rows that a call owns, each in a block of its own -/
structure OwnRs (w : World) (base : Nat) (vP : Value) (hs : List Value) (rows : List (List Int)) : Prop where
  len : hs.length = rows.length
  outer : w.ownsRow base 24 1 vP hs.length hs
  row : ∀ i, i < rows.length → ∃ g cap, hs[i]? = some (Value.slice (some ⟨g, 0, none⟩) (rows.getD i []).length cap) ∧ w.ownsRow base 3 1 (Value.slice (some ⟨g, 0, none⟩) (rows.getD i []).length cap) (rows.getD i []).length (flat 1 intV (rows.getD i [])) ∧ vP.ownBlock ≠ some g
  apart : ∀ (i j g n c m d : Nat), i ≠ j → hs[i]? = some (Value.slice (some ⟨g, 0, none⟩) n c) → hs[j]? ≠ some (Value.slice (some ⟨g, 0, none⟩) m d)
theorem OwnRs.kept {w w' : World} {base : Nat} {vP : Value} {hs : List Value} {rows : List (List Int)} {r : Option Nat} (h : OwnRs w base vP hs rows) (hg : w.grownBy w' r) (h0 : vP.ownBlock = none ∨ vP.ownBlock ≠ r) (h1 : ∀ g, r = some g → g < base) : OwnRs w' base vP hs rows :=
  ⟨h.len, h.outer.kept hg h0, fun i hi => by
    obtain ⟨g, cap, e, ho, ha⟩ := h.row i hi
    exact ⟨g, cap, e, ho.kept hg (.inr (fun hr => by have := (ho.lt g rfl).1; have := h1 g hr.symm; omega)), ha⟩, h.apart⟩
theorem OwnRs.alloc {w : World} {base : Nat} {vP : Value} {hs : List Value} {rows : List (List Int)} (h : OwnRs w base vP hs rows) (o : Obj) : OwnRs (w.alloc o) base vP hs rows :=
  h.kept (World.grownBy_alloc w o none) (by cases vP.ownBlock <;> simp) (fun g hg => by cases hg)
theorem OwnRs.drew {w : World} {base : Nat} {vP : Value} {hs : List Value} {rows : List (List Int)} (h : OwnRs w base vP hs rows) : OwnRs w.drew base vP hs rows :=
  h.kept (r := none) ⟨rfl, rfl, rfl, Nat.le_refl _, fun _ _ _ => rfl⟩ (by cases vP.ownBlock <;> simp) (fun g hg => by cases hg)
/-- a further row: its own block is new, and so is the row of headers, or it is the old one -/
theorem OwnRs.push {w w1 w2 : World} {base : Nat} {vP : Value} {hs : List Value} {rows : List (List Int)} {xs : List Int} {g cap gg capp : Nat}
    (h : OwnRs w base vP hs rows) (hg1 : w.grownBy w1 none) (hnew : w.heap.size ≤ g) (ho1 : w1.ownsRow base 3 1 (Value.slice (some ⟨g, 0, none⟩) xs.length cap) xs.length (flat 1 intV xs))
    (hg2 : w1.grownBy w2 vP.ownBlock) (ho2 : w2.ownsRow base 24 1 (Value.slice (some ⟨gg, 0, none⟩) (hs.length + 1) capp) (hs.length + 1) (hs ++ [Value.slice (some ⟨g, 0, none⟩) xs.length cap]))
    (hat : vP.ownBlock = some gg ∨ w1.heap.size ≤ gg) : OwnRs w2 base (Value.slice (some ⟨gg, 0, none⟩) (hs.length + 1) capp) (hs ++ [Value.slice (some ⟨g, 0, none⟩) xs.length cap]) (rows ++ [xs]) := by
  have hsz := hg1.size
  have hgl := ho1.lt g rfl
  have hvP : ∀ x, vP.ownBlock = some x → x < w.heap.size := fun x hx => (h.outer.lt x hx).2
  have hgg : gg ≠ g := by
    rcases hat with e | e
    · have := hvP gg e; omega
    · omega
  have hold : ∀ i g0 n c, hs[i]? = some (Value.slice (some ⟨g0, 0, none⟩) n c) → g0 < w.heap.size ∧ vP.ownBlock ≠ some g0 := fun i g0 n c hi => by
    have hil : i < rows.length := by rw [← h.len]; exact (List.getElem?_eq_some_iff.1 hi).1
    obtain ⟨g', cap', e, ho, ha⟩ := h.row i hil
    rw [hi] at e
    injection e with e
    injection e with e1 e2 e3
    injection e1 with e1
    injection e1 with e1
    subst e1
    exact ⟨(ho.lt g0 rfl).2, ha⟩
  refine ⟨by simp [h.len], by simpa using ho2, fun i hi => ?_, fun i j g0 n c m d hij h1 h2 => ?_⟩
  · by_cases e : i < rows.length
    · obtain ⟨g', cap', e1, ho, ha⟩ := h.row i e
      have hx : (rows ++ [xs]).getD i [] = rows.getD i [] := by rw [List.getD_eq_getElem?_getD, List.getD_eq_getElem?_getD, List.getElem?_append_left e]
      rw [hx]
      have hlt := hold i g' _ _ e1
      refine ⟨g', cap', by rw [List.getElem?_append_left (by rw [h.len]; exact e)]; exact e1, (ho.kept hg1 (.inr (by simp [Value.ownBlock]))).kept hg2 (.inr (fun hr => hlt.2 hr.symm)), fun hb => ?_⟩
      have hb' : gg = g' := by simpa [Value.ownBlock] using hb
      subst hb'
      rcases hat with e2 | e2
      · exact ha e2
      · omega
    · have hie : i = rows.length := by simp at hi; omega
      subst hie
      have hx : (rows ++ [xs]).getD rows.length [] = xs := by rw [List.getD_eq_getElem?_getD, List.getElem?_append_right (Nat.le_refl _)]; simp
      rw [hx]
      refine ⟨g, cap, by rw [← h.len, List.getElem?_append_right (Nat.le_refl _)]; simp, ho1.kept hg2 (.inr (fun hr => by have := hvP g hr.symm; omega)), fun hb => ?_⟩
      exact hgg (by simpa [Value.ownBlock] using hb)
  · have key : ∀ i, (hs ++ [Value.slice (some ⟨g, 0, none⟩) xs.length cap])[i]? = some (Value.slice (some ⟨g0, 0, none⟩) n c) → (hs[i]? = some (Value.slice (some ⟨g0, 0, none⟩) n c) ∧ g0 < w.heap.size) ∨ (i = hs.length ∧ g0 = g) := fun i hi => by
      by_cases e : i < hs.length
      · rw [List.getElem?_append_left e] at hi
        exact .inl ⟨hi, (hold i g0 n c hi).1⟩
      · rw [List.getElem?_append_right (by omega)] at hi
        by_cases e2 : i = hs.length
        · subst e2
          simp at hi
          exact .inr ⟨rfl, hi.1.symm⟩
        · rw [List.getElem?_eq_none (by simp; omega)] at hi; cases hi
    have key2 : (hs[j]? = some (Value.slice (some ⟨g0, 0, none⟩) m d) ∧ g0 < w.heap.size) ∨ (j = hs.length ∧ g0 = g) := by
      by_cases e : j < hs.length
      · rw [List.getElem?_append_left e] at h2
        exact .inl ⟨h2, (hold j g0 m d h2).1⟩
      · rw [List.getElem?_append_right (by omega)] at h2
        by_cases e2 : j = hs.length
        · subst e2
          simp at h2
          exact .inr ⟨rfl, h2.1.symm⟩
        · rw [List.getElem?_eq_none (by simp; omega)] at h2; cases h2
    rcases key i h1 with ⟨a1, a2⟩ | ⟨a1, a2⟩ <;> rcases key2 with ⟨b1, b2⟩ | ⟨b1, b2⟩
    · exact h.apart i j g0 n c m d hij a1 b1
    · omega
    · omega
    · omega
theorem rowS_of_ownRs {w : World} {base : Nat} {A : Option Addr} {n c : Nat} {hs : List Value} {rows : List (List Int)} (h : OwnRs w base (.slice A n c) hs rows) (ok : ∀ xs ∈ rows, ∀ x ∈ xs, I64 x) : RowS w A rows.length rows := by
  have hl := h.len
  have hfl : flat 1 (fun (v : Value) _ => v) hs = hs := by
    clear h hl
    induction hs with
    | nil => rfl
    | cons x xs ih => simp [flat, ih]
  have ho := h.outer
  rw [← hfl] at ho
  have ho2 : w.ownsRow base 24 1 (.slice A n c) hs.length (flat 1 (fun (v : Value) _ => v) hs) := by
    have e : (flat 1 (fun (v : Value) _ => v) hs).length = hs.length := by rw [flat_length]; omega
    rw [e] at ho
    exact ho
  obtain ⟨h1, h2, h3⟩ := owns_read (α := Value) (by decide) ho2
  refine ⟨rfl, by omega, fun hn => ?_⟩
  rcases h3 with ⟨hv, h0⟩ | ⟨g, cap, hv, hb, hg, hc⟩
  · omega
  · injection hv with e1 e2 e3
    subst e1
    refine ⟨g, 0, rfl, hg, fun i hi => ?_⟩
    obtain ⟨g', cap', e, ho', _⟩ := h.row i hi
    have hcell := hc i (by omega) 0 (by decide)
    have e' : hs.getD i default = Value.slice (some ⟨g', 0, none⟩) (rows.getD i []).length cap' := by rw [List.getD_eq_getElem?_getD, e]; rfl
    rw [e'] at hcell
    refine ⟨_, _, _, by rw [show 0 + i = i * 1 + 0 by omega]; exact hcell, (intS_of_owns ho' (fun x hx => ?_)).2⟩
    refine ok (rows.getD i []) ?_ x hx
    rw [List.getD_eq_getElem?_getD, List.getElem?_eq_getElem hi]
    exact List.getElem_mem hi
end Nt
end Go.Proofs.Ythibgpgjioepfaa
