/- Plain: the candidate's times say what is in force. -/
import Derived.Test.YtnkgmpmedkegbaaSw21
namespace Go.Proofs.Ytnkgmpmedkegbaa
open Go Go.RowKit Go.Sort
namespace Sw
/-- changes in order, as far as one cell is concerned -/
structure OkL (cs : List Cel) (l : List Chg) (c : Cel) : Prop where
  asc : ∀ k, 0 < k → k < l.length → (l.getD (k - 1) default).slot ≤ (l.getD k default).slot
  pos : ∀ k, k < l.length → 0 ≤ (l.getD k default).slot
  sw : ∀ k, k < l.length → (l.getD k default).cell = c → (l.getD k default).add = !thereN cs (l.take k) c
def curS (l : List Chg) (k : Nat) : Int := if k = 0 then 0 else (l.getD (k - 1) default).slot
theorem timesC_inv {cs : List Cel} {l : List Chg} {c : Cel} (h : OkL cs l c) (k : Nat) (hk : k ≤ l.length) : Inv (timesC cs (l.take k) c) (forceN cs (l.take k) c) (curS l k) (thereN cs (l.take k) c) := by
  induction k with
  | zero =>
    have h0 := Inv.start (decide (c ∈ cs))
    have e : (if decide (c ∈ cs) = true then begT [] 0 else []) = timesC cs (l.take 0) c := by
      show _ = (if c ∈ cs then begT [] 0 else [])
      by_cases hc : c ∈ cs <;> simp [hc]
    rw [e] at h0
    exact h0
  | succ k ih =>
    have hkl : k < l.length := by omega
    have ih' := ih (by omega)
    rw [take_snoc hkl, timesC_snoc, thereN_snoc]
    have hs : curS l k ≤ (l.getD k default).slot := by
      unfold curS
      split
      · exact h.pos k hkl
      · exact h.asc k (by omega) hkl
    have hc : curS l (k + 1) = (l.getD k default).slot := by
      unfold curS; rw [if_neg (by omega), Nat.add_sub_cancel]
    rw [hc]
    have hsw := h.sw k hkl
    have hfs := fun x => forceN_snoc cs (l.take k) c x (l.getD k default)
    generalize l.getD k default = ch at *
    unfold stepT setF
    by_cases e : ch.cell = c
    · rw [if_pos e, if_pos e.symm]
      have ha := hsw e
      cases hadd : ch.add with
      | true =>
        rw [hadd, eq_comm, Bool.not_eq_true'] at ha
        rw [ha] at ih'
        rw [if_pos rfl]
        refine (ih'.begin_ hs).congr fun x _ => ?_
        rw [hfs x, hadd]
        unfold upd
        by_cases c1 : ch.slot ≤ x
        · rw [if_pos ⟨c1, e⟩, if_pos c1]
        · rw [if_neg (fun h => c1 h.1), if_neg c1]
      | false =>
        rw [hadd, eq_comm, Bool.not_eq_false'] at ha
        rw [ha] at ih'
        rw [if_neg (by decide)]
        refine (ih'.end_ hs).congr fun x _ => ?_
        rw [hfs x, hadd]
        unfold upd
        by_cases c1 : ch.slot ≤ x
        · rw [if_pos ⟨c1, e⟩, if_pos c1]
        · rw [if_neg (fun h => c1 h.1), if_neg c1]
    · rw [if_neg e, if_neg (Ne.symm e)]
      refine (ih'.later hs).congr fun x _ => ?_
      rw [hfs x, if_neg (fun h => e h.2)]
theorem ends_of {cs : List Cel} {l : List Chg} {c : Cel} (h : OkL cs l c) : Ends cs l c := fun k hk e ha => by
  have hi := timesC_inv h k (by omega)
  have := h.sw k hk e
  rw [ha, eq_comm, Bool.not_eq_false'] at this
  rw [this] at hi
  obtain ⟨u, p, hu, _⟩ := hi.open_
  exact ⟨u, p, hu⟩
end Sw
end Go.Proofs.Ytnkgmpmedkegbaa
