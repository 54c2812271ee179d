/- Plain: what a check without a fault says. -/
import Derived.Test.YtnkgmpmedkegbaaSw22
namespace Go.Proofs.Ytnkgmpmedkegbaa
open Go Go.RowKit Go.Sort
namespace Sw
theorem firstF_zero {F : Nat → Int} {n : Nat} (h : (firstF F n).2 = 0) : ∀ j, j < n → F j = 0 := by
  unfold firstF at h
  cases hf : (List.range n).find? (fun i => F i != 0) with
  | some i =>
    rw [hf] at h
    have := List.find?_some hf
    simp at this
    exact absurd h this
  | none =>
    intro j hj
    rw [List.find?_eq_none] at hf
    have := hf j (List.mem_range.2 hj)
    simpa using this
structure Right (L O : Int) (cs : List Cel) (l : List Chg) : Prop where
  formed : formedB L O cs = true
  few : l.length ≤ 1024
  fault : ∀ j, j < l.length → faultAt L O cs l j = 0
theorem right_of {L O : Int} {cs : List Cel} {l : List Chg} (h : (chkN L O cs l).2 = 0) : Right L O cs l := by
  unfold chkN at h
  by_cases h1 : formedB L O cs = false
  · rw [if_pos h1] at h; exact absurd h (by decide)
  · rw [if_neg h1] at h
    by_cases h2 : 1024 < l.length
    · rw [if_pos h2] at h; exact absurd h (by decide)
    · rw [if_neg h2] at h
      exact ⟨by simpa using h1, by omega, firstF_zero h⟩
theorem fault_zero {L O : Int} {cs : List Cel} {l : List Chg} {i : Nat} (h : faultAt L O cs l i = 0) :
    (0 ≤ (l.getD i default).slot ∧ (l.getD i default).slot ≤ 4096) ∧ (0 < i → (l.getD (i - 1) default).slot ≤ (l.getD i default).slot) ∧ cellOk L O (l.getD i default).cell = true ∧ (l.getD i default).add = !thereN cs (l.take i) (l.getD i default).cell := by
  unfold faultAt at h
  split at h
  · exact absurd h (by decide)
  · split at h
    · exact absurd h (by decide)
    · split at h
      · exact absurd h (by decide)
      · split at h
        · exact absurd h (by decide)
        · split at h
          · exact absurd h (by decide)
          · rename_i a b c d e
            refine ⟨by omega, fun h0 => by omega, by simpa using c, ?_⟩
            cases h1 : (l.getD i default).add <;> cases h2 : thereN cs (l.take i) (l.getD i default).cell <;> simp_all
theorem Right.okL {L O : Int} {cs : List Cel} {l : List Chg} (h : Right L O cs l) (c : Cel) : OkL cs l c :=
  ⟨fun k h0 hk => (fault_zero (h.fault k hk)).2.1 h0, fun k hk => (fault_zero (h.fault k hk)).1.1, fun k hk e => by
    have := (fault_zero (h.fault k hk)).2.2.2
    rw [e] at this; exact this⟩
end Sw
end Go.Proofs.Ytnkgmpmedkegbaa
