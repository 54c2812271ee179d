/- Plain laws: with less noise, a lower threshold and less disturbance a good set stays good. -/
import Derived.Test.YthibgpgjioepfaaHears
namespace Go.Proofs.Ythibgpgjioepfaa
open Go Go.RowKit Go.Sort
namespace Nt
structure Quieter (N M : Net) : Prop where
  nodes : M.nodes = N.nodes
  links : M.links = N.links
  margin : M.margin = N.margin
  noise : 0 ≤ M.noise ∧ M.noise ≤ N.noise
  thr : 1000 ≤ M.threshold ∧ M.threshold ≤ N.threshold
  len : M.power.length = N.power.length
  cols : ∀ xs ∈ M.power, (xs.length : Int) = N.nodes
  rng : ∀ xs ∈ M.power, ∀ x ∈ xs, 0 ≤ x ∧ x ≤ 68719476736
  le : ∀ a b, powerAt M a b ≤ powerAt N a b
  same : ∀ a b, 0 ≤ indexN N a b → powerAt M a b = powerAt N a b
theorem find_self {N : Net} (hc : check N = 0) {i : Nat} (hi : i < N.links.length) : 0 ≤ indexN N (N.links.getD i default).frm (N.links.getD i default).to := by
  have e : indexN N (N.links.getD i default).frm (N.links.getD i default).to = findL N.links (N.links.getD i default).frm (N.links.getD i default).to := by unfold indexN; rw [if_pos hc]
  rw [e]
  unfold findL
  have := idx_any (fun l : Lnk => l.frm == (N.links.getD i default).frm && l.to == (N.links.getD i default).to) N.links
  have h2 : N.links.any (fun l : Lnk => l.frm == (N.links.getD i default).frm && l.to == (N.links.getD i default).to) = true := by
    rw [List.any_eq_true]
    refine ⟨N.links.getD i default, ?_, by simp⟩
    rw [List.getD_eq_getElem?_getD, List.getElem?_eq_getElem hi]
    exact List.getElem_mem hi
  rw [h2] at this
  simpa using this
theorem check_of {N : Net} (h1 : badNodes N.nodes = false) (h2 : Square N) (h3 : ∀ xs ∈ N.power, ∀ x ∈ xs, 0 ≤ x ∧ x ≤ 68719476736) (h4 : badNoise N.noise N.threshold = false) (h5 : N.links.length ≤ 128) (h6 : N.margin.length = N.links.length) (h7 : ∀ i, i < N.links.length → checkLink N i = 0) : check N = 0 := by
  have hp : checkPower N = 0 := by
    unfold checkPower
    rw [if_neg, if_neg, if_neg]
    · rw [Bool.not_eq_true, List.any_eq_false]
      intro xs hx
      rw [Bool.not_eq_true, List.any_eq_false]
      intro x hxx
      have := h3 xs hx x hxx
      unfold outP
      simp; omega
    · rw [Bool.not_eq_true, List.any_eq_false]
      intro xs hx
      have := h2.cols xs hx
      unfold badRow
      simp; omega
    · have := h2.rows
      simp; omega
  unfold check
  rw [if_neg (by rw [h1]; decide), hp, if_neg (by decide), if_neg (by rw [h4]; decide), if_neg (by omega), if_neg (by simp; omega)]
  exact linkFault_none h7
theorem quiet_check {N M : Net} (hc : check N = 0) (h : Quieter N M) : check M = 0 := by
  obtain ⟨c1, c2, c3, c4, c5, c6, c7⟩ := check_zero hc
  have hn := noise_ok c4
  refine check_of (by rw [h.nodes]; exact c1) ⟨by rw [h.len, h.nodes]; exact c2.rows, fun xs hx => by rw [h.nodes]; exact h.cols xs hx⟩ h.rng ?_ (by rw [h.links]; exact c5) (by rw [h.margin, h.links]; exact c6) fun i hi => ?_
  · have a := h.noise
    have b := h.thr
    unfold badNoise
    simp; omega
  · rw [h.links] at hi
    obtain ⟨l1, l2, l3⟩ := checkLink_zero (c7 i hi)
    have hs := h.same _ _ (find_self hc hi)
    have e1 : badEnds M (M.links.getD i default) = false := by rw [h.links]; unfold badEnds; rw [h.nodes]; exact l1
    have e2 : badOrder M i = false := by unfold badOrder; rw [h.links]; exact l2
    have e3 : badMargin M i = false := by unfold badMargin; rw [h.links, h.margin, hs]; exact l3
    unfold checkLink
    rw [e1, e2, e3]
    rfl
theorem mul_le4 {a b c d : Int} (h1 : 0 ≤ a) (h2 : a ≤ b) (h3 : 0 ≤ c) (h4 : c ≤ d) : a * c ≤ b * d := Int.mul_le_mul h2 h4 h3 (by omega)
theorem quiet_heard {N M : Net} (h : Quieter N M) {s d e : Int} (hd : 0 ≤ d) (hde : d ≤ e) (hh : heardB N.threshold N.noise s e = true) : heardB M.threshold M.noise s d = true := by
  have a := h.noise
  have b := h.thr
  unfold heardB at *
  simp only [decide_eq_true_eq] at *
  have := mul_le4 (a := M.threshold) (b := N.threshold) (c := M.noise + d) (d := N.noise + e) (by omega) b.2 (by omega) (by omega)
  omega
theorem quiet_hears {N M : Net} (hc : check N = 0) (h : Quieter N M) {s d e : Int} (hd : 0 ≤ d) (hde : d ≤ e) (hh : hearsN N s e = true) : hearsN M s d = true := by
  unfold hearsN at *
  simp only [Bool.and_eq_true, decide_eq_true_eq] at *
  obtain ⟨⟨⟨_, h1, h2⟩, h3, h4⟩, h5⟩ := hh
  exact ⟨⟨⟨quiet_check hc h, h1, hd⟩, h3, by omega⟩, quiet_heard h hd hde h5⟩
theorem quiet_dist {N M : Net} (h : Quieter N M) (cs : List Cel) (i node : Int) : 0 ≤ dist M cs i node ∧ dist M cs i node ≤ dist N cs i node := by
  refine ⟨by unfold dist; exact (distTo_bd h.rng cs i node _).1, ?_⟩
  unfold dist
  have ha : ∀ a, adds M node a ≤ adds N node a := fun a => by
    unfold adds
    rw [h.nodes]
    split
    · exact h.le a node
    · omega
  have key : ∀ k, distTo M cs i node k ≤ distTo N cs i node k := by
    intro k
    induction k with
    | zero => exact Int.le_refl _
    | succ k ih =>
      simp only [distTo]
      split
      · omega
      · have h1 := ha (cs.getD k default).frm
        have h2 := ha (cs.getD k default).to
        unfold distC
        omega
  exact key _
theorem quiet_index {N M : Net} (hc : check N = 0) (h : Quieter N M) (a b : Int) : indexN M a b = indexN N a b := by
  unfold indexN
  rw [if_pos hc, if_pos (quiet_check hc h), h.links]
theorem quiet_usable {N M : Net} (hc : check N = 0) (h : Quieter N M) {i : Int} (hu : usableN N i = true) : usableN M i = true := by
  unfold usableN at *
  simp only [Bool.and_eq_true, decide_eq_true_eq] at *
  obtain ⟨⟨⟨_, h1⟩, h2⟩, h3⟩ := hu
  refine ⟨⟨⟨quiet_check hc h, h1⟩, by rw [h.links]; exact h2⟩, ?_⟩
  unfold usableV at *
  dsimp only at *
  rw [h.links, h.margin]
  simp only [Bool.and_eq_true, decide_eq_true_eq] at *
  exact ⟨⟨h3.1.1, quiet_heard h (Int.le_refl _) (Int.le_refl _) h3.1.2⟩, quiet_heard h (Int.le_refl _) (Int.le_refl _) h3.2⟩
theorem quiet_good {N M : Net} (h : Quieter N M) {cs : List Cel} (hg : goodN N cs = true) : goodN M cs = true := by
  have hc : check N = 0 := by
    unfold goodN at hg
    simp only [Bool.and_eq_true, decide_eq_true_eq] at hg
    exact hg.1
  have hf := (good_iff hc cs).1 hg
  refine (good_iff (quiet_check hc h) cs).2 fun i hi => ?_
  obtain ⟨f1, f2, f3, f4⟩ := faulty_iff.1 (hf i hi)
  refine faulty_iff.2 ⟨by rw [quiet_index hc h]; exact quiet_usable hc h f1, f2, ?_, ?_⟩
  · rw [quiet_index hc h]
    unfold heardAt at *
    rw [h.margin]
    have := quiet_dist h cs (i : Int) (cs.getD i default).to
    exact quiet_hears hc h this.1 this.2 f3
  · rw [quiet_index hc h]
    unfold heardAt at *
    rw [h.margin]
    have := quiet_dist h cs (i : Int) (cs.getD i default).frm
    exact quiet_hears hc h this.1 this.2 f4
/-- a row whose first k numbers were halved where there is no link -/
def rowTo (N : Net) (a : Int) (xs : List Int) : Nat → List Int
  | 0 => xs
  | k + 1 => if indexN N a (k : Int) < 0 then (rowTo N a xs k).set k ((rowTo N a xs k).getD k 0 / 2) else rowTo N a xs k
theorem rowTo_len (N : Net) (a : Int) (xs : List Int) (k : Nat) : (rowTo N a xs k).length = xs.length := by
  induction k with
  | zero => rfl
  | succ k ih =>
    simp only [rowTo]
    split
    · rw [List.length_set, ih]
    · exact ih
theorem rowTo_at (N : Net) (a : Int) (xs : List Int) (hx : ∀ x ∈ xs, 0 ≤ x) (k j : Nat) : 0 ≤ (rowTo N a xs k).getD j 0 ∧ (rowTo N a xs k).getD j 0 ≤ xs.getD j 0 ∧ (0 ≤ indexN N a (j : Int) → (rowTo N a xs k).getD j 0 = xs.getD j 0) := by
  induction k with
  | zero =>
    refine ⟨?_, Int.le_refl _, fun _ => rfl⟩
    rcases getD_mem_or xs j 0 with e | e
    · show 0 ≤ xs.getD j 0
      rw [e]; omega
    · exact hx _ e
  | succ k ih =>
    simp only [rowTo]
    split
    · rename_i hneg
      by_cases e : j = k
      · subst e
        by_cases hl : j < (rowTo N a xs j).length
        · have e2 : ((rowTo N a xs j).set j ((rowTo N a xs j).getD j 0 / 2)).getD j 0 = (rowTo N a xs j).getD j 0 / 2 := by
            rw [List.getD_eq_getElem?_getD (l := (rowTo N a xs j).set j _), List.getElem?_set_self hl]; rfl
          rw [e2]
          exact ⟨by omega, by omega, fun h => by omega⟩
        · have e2 : (rowTo N a xs j).set j ((rowTo N a xs j).getD j 0 / 2) = rowTo N a xs j := by rw [List.set_eq_of_length_le (by omega)]
          rw [e2]; exact ih
      · have e2 : ((rowTo N a xs k).set k ((rowTo N a xs k).getD k 0 / 2)).getD j 0 = (rowTo N a xs k).getD j 0 := by
          rw [List.getD_eq_getElem?_getD, List.getElem?_set_ne (fun h => e h.symm), ← List.getD_eq_getElem?_getD]
        rw [e2]; exact ih
    · exact ih
theorem rowTo_mem {N : Net} {a : Int} {xs : List Int} (hx : ∀ x ∈ xs, 0 ≤ x ∧ x ≤ 68719476736) (k : Nat) : ∀ x ∈ rowTo N a xs k, 0 ≤ x ∧ x ≤ 68719476736 := by
  intro x hm
  obtain ⟨j, hj, rfl⟩ := List.mem_iff_getElem.1 hm
  obtain ⟨h1, h2, _⟩ := rowTo_at N a xs (fun x h => (hx x h).1) k j
  have e : (rowTo N a xs k).getD j 0 = (rowTo N a xs k)[j] := by rw [List.getD_eq_getElem?_getD, List.getElem?_eq_getElem hj]; rfl
  rw [e] at h1 h2
  have hj2 : j < xs.length := by rw [rowTo_len] at hj; exact hj
  have e2 : xs.getD j 0 = xs[j] := by rw [List.getD_eq_getElem?_getD, List.getElem?_eq_getElem hj2]; rfl
  rw [e2] at h2
  have := hx _ (List.getElem_mem hj2)
  omega
theorem quieter_mk {N : Net} (hc : check N = 0) {a : Nat} (ha : a < N.power.length) {noise thr : Int} (hn : 0 ≤ noise ∧ noise ≤ N.noise) (ht : 1000 ≤ thr ∧ thr ≤ N.threshold) (k : Nat) :
    Quieter N ⟨N.nodes, N.power.set a (rowTo N (a : Int) (N.power.getD a []) k), noise, thr, N.links, N.margin⟩ := by
  obtain ⟨_, c2, c3, _⟩ := check_zero hc
  have hmem : N.power.getD a [] ∈ N.power := by
    rw [List.getD_eq_getElem?_getD, List.getElem?_eq_getElem ha]
    exact List.getElem_mem ha
  have hrow := c3 _ hmem
  have hpa : ∀ x y : Int, powerAt ⟨N.nodes, N.power.set a (rowTo N (a : Int) (N.power.getD a []) k), noise, thr, N.links, N.margin⟩ x y = if x.toNat = a then (rowTo N (a : Int) (N.power.getD a []) k).getD y.toNat 0 else powerAt N x y := fun x y => by
    unfold powerAt
    dsimp only
    by_cases e : x.toNat = a
    · rw [if_pos e, e, List.getD_eq_getElem?_getD (l := N.power.set a _), List.getElem?_set_self ha]; rfl
    · rw [if_neg e, List.getD_eq_getElem?_getD (l := N.power.set a _), List.getElem?_set_ne (fun h => e h.symm), ← List.getD_eq_getElem?_getD]
  refine ⟨rfl, rfl, rfl, hn, ht, by simp, fun xs hx => ?_, fun xs hx => ?_, fun x y => ?_, fun x y hxy => ?_⟩
  · rcases List.mem_or_eq_of_mem_set hx with h | h
    · exact c2.cols xs h
    · rw [h, rowTo_len]; exact c2.cols _ hmem
  · rcases List.mem_or_eq_of_mem_set hx with h | h
    · exact c3 xs h
    · rw [h]; exact rowTo_mem hrow k
  · rw [hpa]
    split
    · rename_i e
      have := (rowTo_at N (a : Int) (N.power.getD a []) (fun x h => (hrow x h).1) k y.toNat).2.1
      unfold powerAt
      rw [e]; exact this
    · exact Int.le_refl _
  · rw [hpa]
    split
    · rename_i e
      have hn2 := index_ends hc hxy
      have b1 := isNode_yes hn2.2.1
      have b2 := isNode_yes hn2.2.2.1
      have h3 := (rowTo_at N (a : Int) (N.power.getD a []) (fun x h => (hrow x h).1) k y.toNat).2.2
      unfold powerAt
      rw [e]
      exact h3 (by rw [show ((y.toNat : Nat) : Int) = y by omega, show ((a : Nat) : Int) = x by omega]; exact hxy)
    · rfl
end Nt
end Go.Proofs.Ythibgpgjioepfaa
