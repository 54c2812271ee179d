/- Plain laws: the search that extends good sets finds a greatest one. -/
import Derived.Test.YthibgpgjioepfaaParts
namespace Go.Proofs.Ythibgpgjioepfaa
open Go Go.RowKit Go.Sort
namespace Nt
/-- behind the index n - k: the best set when the search has seen all extensions of set by these indices -/
def goL (G : List Nat → Bool) (n : Nat) : Nat → List Nat → List Nat → List Nat
  | 0, best, _ => best
  | k + 1, best, set =>
    if G (set ++ [n - (k + 1)]) = true then
      goL G n k (goL G n k (if best.length < (set ++ [n - (k + 1)]).length then set ++ [n - (k + 1)] else best) (set ++ [n - (k + 1)])) set
    else goL G n k best set
structure OkS (G : List Nat → Bool) (n : Nat) (s : List Nat) : Prop where
  asc : s.Pairwise (· < ·)
  lt : ∀ x ∈ s, x < n
  good : G s = true
theorem goL_le (G : List Nat → Bool) (n k : Nat) (best set : List Nat) : best.length ≤ (goL G n k best set).length := by
  induction k generalizing best set with
  | zero => exact Nat.le_refl _
  | succ k ih =>
    unfold goL
    split
    · refine Nat.le_trans ?_ (ih _ _)
      refine Nat.le_trans ?_ (ih _ _)
      split <;> omega
    · exact ih _ _
theorem asc_snoc {s : List Nat} {x : Nat} (h : s.Pairwise (· < ·)) (hx : ∀ y ∈ s, y < x) : (s ++ [x]).Pairwise (· < ·) := by
  rw [List.pairwise_append]
  refine ⟨h, List.pairwise_singleton _ _, fun a ha b hb => ?_⟩
  rw [List.mem_singleton] at hb
  exact hb ▸ hx a ha
theorem goL_ok (G : List Nat → Bool) (n k : Nat) (best set : List Nat) (hk : k ≤ n) (hs : set.Pairwise (· < ·)) (hl : ∀ x ∈ set, x < n - k) (hb : OkS G n best) : OkS G n (goL G n k best set) := by
  induction k generalizing best set with
  | zero => exact hb
  | succ k ih =>
    unfold goL
    split
    · rename_i hg
      have h1 := asc_snoc hs hl
      have h2 : ∀ x ∈ set ++ [n - (k + 1)], x < n - k := fun x hx => by
        rcases List.mem_append.1 hx with hx | hx
        · have := hl x hx; omega
        · rw [List.mem_singleton] at hx; omega
      refine ih _ _ (by omega) hs (fun x hx => by have := hl x hx; omega) (ih _ _ (by omega) h1 h2 ?_)
      split
      · exact ⟨h1, fun x hx => by have := h2 x hx; omega, hg⟩
      · exact hb
    · exact ih _ _ (by omega) hs (fun x hx => by have := hl x hx; omega) hb
theorem goL_max (G : List Nat → Bool) (hG : ∀ a b, G (a ++ b) = true → G a = true) (n k : Nat) (best set u : List Nat) (hk : k ≤ n) (hs : set.length ≤ best.length)
    (hu : u.Pairwise (· < ·)) (hr : ∀ x ∈ u, n - k ≤ x ∧ x < n) (hg : G (set ++ u) = true) : (set ++ u).length ≤ (goL G n k best set).length := by
  induction k generalizing best set u with
  | zero =>
    cases u with
    | nil => simpa [goL] using hs
    | cons x u => have := hr x (List.mem_cons_self ..); omega
  | succ k ih =>
    cases u with
    | nil => rw [List.append_nil]; exact Nat.le_trans hs (goL_le ..)
    | cons x u =>
      have hx := hr x (List.mem_cons_self ..)
      rw [List.pairwise_cons] at hu
      by_cases he : x = n - (k + 1)
      · have h1 : set ++ x :: u = (set ++ [n - (k + 1)]) ++ u := by rw [he]; simp
        rw [h1] at hg ⊢
        unfold goL
        rw [if_pos (hG _ _ hg)]
        refine Nat.le_trans ?_ (goL_le ..)
        refine ih _ _ _ (by omega) ?_ hu.2 (fun y hy => ?_) hg
        · split <;> omega
        · have := hu.1 y hy; have := hr y (List.mem_cons_of_mem _ hy); omega
      · have hall : ∀ y ∈ x :: u, n - k ≤ y ∧ y < n := fun y hy => by
          rcases List.mem_cons.1 hy with rfl | hy
          · omega
          · have := hu.1 y hy; have := hr y (List.mem_cons_of_mem _ hy); omega
        unfold goL
        split
        · refine ih _ _ _ (by omega) ?_ (List.pairwise_cons.2 hu) hall hg
          refine Nat.le_trans ?_ (goL_le ..)
          split
          · simp
          · exact hs
        · exact ih _ _ _ (by omega) hs (List.pairwise_cons.2 hu) hall hg
/-- the cells of the links of ls that s names -/
def cellsAt (ls : List Lnk) (s : List Nat) : List Cel := s.map fun i => cellOf (ls.getD i default)
def goodAt (N : Net) (ls : List Lnk) (s : List Nat) : Bool := goodN N (cellsAt ls s)
/-- the greatest good set -/
def largestN (N : Net) (ls : List Lnk) : List Nat := goL (goodAt N ls) ls.length ls.length [] []
theorem emb_prefix (a b : List Cel) : Emb a (a ++ b) id := by
  refine ⟨fun k hk => by simp; omega, fun _ _ _ _ h => h, fun k hk => ?_⟩
  have : (a ++ b).getD (id k) default = a.getD k default := by
    rw [List.getD_eq_getElem?_getD, List.getD_eq_getElem?_getD, id, List.getElem?_append_left hk]
  rw [this]; exact ⟨rfl, rfl⟩
theorem goodAt_prefix {N : Net} {ls : List Lnk} (a b : List Nat) (h : goodAt N ls (a ++ b) = true) : goodAt N ls a = true := by
  unfold goodAt cellsAt at *
  rw [List.map_append] at h
  exact emb_good (emb_prefix _ _) h
theorem good_nil {N : Net} (hc : check N = 0) : goodN N [] = true := (good_iff hc []).2 fun i hi => absurd hi (by simp)
theorem largest_ok {N : Net} (hc : check N = 0) (ls : List Lnk) : OkS (goodAt N ls) ls.length (largestN N ls) :=
  goL_ok _ _ _ _ _ (Nat.le_refl _) List.Pairwise.nil (fun x hx => absurd hx (by simp)) ⟨List.Pairwise.nil, fun x hx => absurd hx (by simp), good_nil hc⟩
theorem largest_max {N : Net} (ls : List Lnk) {s : List Nat} (h : OkS (goodAt N ls) ls.length s) : s.length ≤ (largestN N ls).length := by
  have := goL_max (goodAt N ls) goodAt_prefix ls.length ls.length [] [] s (Nat.le_refl _) (Nat.le_refl _) h.asc (fun x hx => ⟨by omega, h.lt x hx⟩) h.good
  exact this
theorem place_asc (p : Nat → Bool) (k : Nat) : (placeOf p k).Pairwise (· < ·) := by
  induction k with
  | zero => exact List.Pairwise.nil
  | succ k ih =>
    simp only [placeOf]
    split
    · exact asc_snoc ih fun y hy => place_mem hy
    · simpa using ih
theorem cellsAt_take {ls : List Lnk} {m : Nat} {s : List Nat} (h : ∀ x ∈ s, x < m) : cellsAt (ls.take m) s = cellsAt ls s := by
  unfold cellsAt
  refine List.map_congr_left fun x hx => ?_
  have := h x hx
  rw [List.getD_eq_getElem?_getD, List.getD_eq_getElem?_getD, List.getElem?_take, if_pos this]
theorem largest_less {N : Net} (hc : check N = 0) (ls : List Lnk) (m : Nat) (hm : m ≤ ls.length) : (largestN N (ls.take m)).length ≤ (largestN N ls).length := by
  have h := largest_ok hc (ls.take m)
  have hl : (ls.take m).length = m := by simp; omega
  rw [hl] at h
  refine largest_max ls ⟨h.asc, fun x hx => by have := h.lt x hx; omega, ?_⟩
  have := h.good
  unfold goodAt at this ⊢
  rwa [cellsAt_take h.lt] at this
theorem largest_one {N : Net} (hc : check N = 0) (ls : List Lnk) (h0 : 0 < ls.length) : (largestN N ls).length ≤ (largestN N (ls.take (ls.length - 1))).length + 1 := by
  have h := largest_ok hc ls
  generalize largestN N ls = s at h
  have hl : (ls.take (ls.length - 1)).length = ls.length - 1 := by simp
  have hd : s.dropLast.length ≤ (largestN N (ls.take (ls.length - 1))).length := by
    have hsplit : ∀ hne : s ≠ [], s = s.dropLast ++ [s.getLast hne] := fun hne => (List.dropLast_concat_getLast hne).symm
    have hlt : ∀ x ∈ s.dropLast, x < ls.length - 1 := fun x hx => by
      by_cases hne : s = []
      · rw [hne] at hx; exact absurd hx (by simp)
      · have ha := h.asc
        rw [hsplit hne, List.pairwise_append] at ha
        have h1 := ha.2.2 x hx _ (List.mem_singleton.2 rfl)
        have h2 := h.lt _ (List.getLast_mem hne)
        omega
    refine largest_max _ ⟨?_, ?_, ?_⟩
    · exact h.asc.sublist (List.dropLast_sublist s)
    · rw [hl]; exact hlt
    · unfold goodAt
      rw [cellsAt_take hlt]
      by_cases hne : s = []
      · rw [hne]; exact good_nil hc
      · have hg := h.good
        rw [hsplit hne] at hg
        exact goodAt_prefix _ _ hg
  rw [List.length_dropLast] at hd
  omega
theorem picked_cells (p : Nat → Bool) (ls : List Lnk) (k : Nat) : (picked p ls k).map cellOf = cellsAt ls (placeOf p k) := by
  rw [picked_map]; unfold cellsAt; simp
theorem some_max {N : Net} (ls : List Lnk) (p : Nat → Bool) (h : goodN N (cellsAt ls (placeOf p ls.length)) = true) : (placeOf p ls.length).length ≤ (largestN N ls).length :=
  largest_max ls ⟨place_asc p _, fun _ hx => place_mem hx, h⟩
end Nt
end Go.Proofs.Ythibgpgjioepfaa
