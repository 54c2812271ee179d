/- Plain laws: a cell alone, no cell twice, no cells. -/
import Derived.Test.YthibgpgjioepfaaCfl8
namespace Go.Proofs.Ythibgpgjioepfaa
open Go Go.RowKit Go.Sort
namespace Nt
theorem usable_heard {N : Net} {f t : Int} (h : usableN N (indexN N f t) = true) : hearsN N (N.margin.getD (indexN N f t).toNat 0) 0 = true ∧ hearsN N (N.margin.getD (indexN N t f).toNat 0) 0 = true := by
  obtain ⟨hc, ⟨h0, h1⟩, ⟨h2, h3⟩, _, _⟩ := usable_ends h
  have hi : ∀ a b, indexN N a b = findL N.links a b := fun a b => by unfold indexN; rw [if_pos hc]
  unfold usableN at h
  simp only [Bool.and_eq_true, decide_eq_true_eq] at h
  obtain ⟨_, hv⟩ := h
  have hm1 := margin_bd hc (i := (indexN N f t).toNat) (by omega)
  have hm2 := margin_bd hc (i := (indexN N t f).toNat) (by omega)
  rw [hi] at h0 h1 hv hm1 ⊢
  rw [hi] at hm2 ⊢
  obtain ⟨k, hk⟩ := Int.eq_ofNat_of_zero_le h0
  obtain ⟨hkl, hf, ht⟩ := findL_at hk
  rw [hk, Int.toNat_natCast] at hv hm1 ⊢
  unfold usableV at hv
  dsimp only at hv
  rw [hf, ht] at hv
  simp only [Bool.and_eq_true, decide_eq_true_eq] at hv
  have key : ∀ s : Int, 0 ≤ s ∧ s ≤ 68719476736 → heardB N.threshold N.noise s 0 = true → hearsN N s 0 = true := fun s hs hh => by
    unfold hearsN
    rw [hh]
    have : s ≤ mostS := by unfold mostS; omega
    have h5 : (0 : Int) ≤ mostS := by unfold mostS; omega
    simp [hc, hs.1, this, h5]
  exact ⟨key _ hm1 hv.1.2, key _ hm2 hv.2⟩
theorem find1 (p : Nat → Bool) : (List.range 1).find? p = if p 0 = true then some 0 else none := by
  simp only [List.range_succ, List.range_zero, List.nil_append, List.find?_cons, List.find?_nil]
  cases p 0 <;> rfl
theorem dist_own (N : Net) (c : Cel) (node : Int) : dist N [c] ((0 : Nat) : Int) node = 0 := by
  show distTo N [c] ((0 : Nat) : Int) node 1 = 0
  simp [distTo]
theorem alone_good {N : Net} (hc : check N = 0) (c : Cel) : goodN N [c] = usableN N (indexN N c.frm c.to) := by
  have hf : faulty N [c] 0 = !usableN N (indexN N c.frm c.to) := by
    unfold faulty
    dsimp only
    rw [show [c].getD 0 default = c from rfl]
    cases hu : usableN N (indexN N c.frm c.to) with
    | false => rfl
    | true =>
      obtain ⟨h1, h2⟩ := usable_heard hu
      have hs : shares [c] 0 [c].length = false := by simp [shares]
      rw [if_neg (by decide), hs, if_neg (by decide)]
      unfold heardAt
      rw [dist_own, dist_own, h1, h2]; rfl
  unfold goodN firstN
  rw [if_pos hc, show [c].length = 1 from rfl, find1, hf]
  cases usableN N (indexN N c.frm c.to) <;> simp [hc]
theorem none_good {N : Net} (hc : check N = 0) : goodN N [] = true := by
  unfold goodN firstN
  rw [if_pos hc]
  simp [hc]
theorem twice_bad (N : Net) (l : Lnk) : togetherN N l l = false := by
  unfold togetherN goodN firstN
  by_cases hc : check N = 0
  · rw [if_pos hc]
    have hf : faulty N [cellOf l, cellOf l] 0 = true := by
      unfold faulty
      dsimp only
      split
      · rfl
      · have hs : shares [cellOf l, cellOf l] 0 [cellOf l, cellOf l].length = true := by
          simp [shares, touches]
        rw [hs, if_pos rfl]
    have : (List.range [cellOf l, cellOf l].length).find? (fun i => faulty N [cellOf l, cellOf l] i) = some 0 := by
      simp only [List.length_cons, List.length_nil]
      rw [show List.range (0 + 1 + 1) = [0, 1] from rfl, List.find?_cons, hf]
    rw [this]; simp
  · simp [hc]
end Nt
end Go.Proofs.Ythibgpgjioepfaa
