/- Names ranked by their number and their bytes: plain laws. -/
import Derived.Test.YtgdkehnakopnnaaCpB1
import Derived.Shelf.SlSortCmp.QuietGrown
namespace Go.Proofs.Ytgdkehnakopnnaa
open Go Go.RowKit Go.Sort Go.Maps Go.WideMaps
namespace Cp
abbrev Nm := List UInt8
def ltN (l : List Nm) (x y : Nm) : Prop := l.count y < l.count x ∨ (l.count x = l.count y ∧ x < y)
theorem cf_lt (l : List Nm) (x y : Nm) : cfL l x y < 0 ↔ ltN l x y := by
  unfold cfL orI ltN Lib.compareInt cmpL
  by_cases h1 : l.count y < l.count x
  · rw [if_pos (by omega : (l.count y : Int) < (l.count x : Int))]
    simp [h1]
  · by_cases h2 : l.count x < l.count y
    · rw [if_neg (by omega), if_pos (by omega : (l.count y : Int) > (l.count x : Int))]
      simp
      omega
    · have he : l.count x = l.count y := by omega
      simp only [he, Int.lt_irrefl, gt_iff_lt, Nat.lt_irrefl, false_or, true_and, if_true, if_false]
      by_cases h3 : x < y
      · rw [if_pos h3]; exact ⟨fun _ => h3, fun _ => by decide⟩
      · rw [if_neg h3]
        refine ⟨fun h => ?_, fun h => absurd h h3⟩
        split at h <;> exact absurd h (by decide)
theorem ltN_irrefl (l : List Nm) (x : Nm) : ¬ ltN l x x := by
  rintro (h | h)
  · omega
  · exact List.lt_irrefl x h.2
theorem ltN_trans {l : List Nm} {x y z : Nm} (h1 : ltN l x y) (h2 : ltN l y z) : ltN l x z := by
  unfold ltN at *
  rcases h1 with h1 | ⟨e1, h1⟩ <;> rcases h2 with h2 | ⟨e2, h2⟩
  · left; omega
  · left; omega
  · left; omega
  · exact .inr ⟨by omega, List.lt_trans h1 h2⟩
theorem lt_tri {x y : Nm} (h : x ≠ y) : x < y ∨ y < x := by
  by_cases h1 : x < y
  · exact .inl h1
  · by_cases h2 : y < x
    · exact .inr h2
    · exact absurd (List.le_antisymm (List.not_lt.1 h2) (List.not_lt.1 h1)) h
theorem ltN_tri (l : List Nm) {x y : Nm} (h : x ≠ y) : ltN l x y ∨ ltN l y x := by
  unfold ltN
  rcases Nat.lt_trichotomy (l.count x) (l.count y) with h1 | h1 | h1
  · exact .inr (.inl h1)
  · rcases lt_tri h with h2 | h2
    · exact .inl (.inr ⟨h1, h2⟩)
    · exact .inr (.inr ⟨h1.symm, h2⟩)
  · exact .inl (.inl h1)
structure Ranked (l L : List Nm) : Prop where
  mem : ∀ x, x ∈ L ↔ x ∈ l
  sorted : L.Pairwise (ltN l)
theorem Ranked.nodup {l L : List Nm} (h : Ranked l L) : L.Nodup := h.sorted.imp (fun {x y} (hxy : ltN l x y) (e : x = y) => ltN_irrefl l x (by rw [← e] at hxy; exact hxy))
/-- the least of those that have not come is the next -/
theorem Ranked.next {l L : List Nm} (h : Ranked l L) {j : Nat} {x : Nm} (hx : x ∈ l) (hn : x ∉ L.take j) (hm : ∀ y, y ∈ l → y ∉ L.take j → y ≠ x → ltN l x y) : j < L.length ∧ L.take (j + 1) = L.take j ++ [x] := by
  have hxL := (h.mem x).2 hx
  have hj : j < L.length := by
    rcases Nat.lt_or_ge j L.length with hj | hj
    · exact hj
    · rw [List.take_of_length_le hj] at hn; exact absurd hxL hn
  refine ⟨hj, ?_⟩
  rw [List.take_succ_eq_append_getElem hj]
  congr 2
  refine Classical.byContradiction fun hne => ?_
  have hmem : L[j] ∈ l := (h.mem _).1 (List.getElem_mem hj)
  have hnot : L[j] ∉ L.take j := by
    intro hc
    obtain ⟨i, hi, e⟩ := List.mem_iff_getElem.1 hc
    rw [List.length_take] at hi
    rw [List.getElem_take] at e
    have := (List.getElem_inj h.nodup (h₀ := by omega) (h₁ := hj)).1 e
    omega
  have h1 := hm _ hmem hnot hne
  obtain ⟨i, hi, e⟩ := List.mem_iff_getElem.1 hxL
  have hij : j < i := by
    rcases Nat.lt_trichotomy i j with h2 | h2 | h2
    · exact absurd (List.mem_iff_getElem.2 ⟨i, by rw [List.length_take]; omega, by rw [List.getElem_take]; exact e⟩) hn
    · subst h2; exact absurd e hne
    · exact h2
  have h2 := List.pairwise_iff_getElem.1 h.sorted j i hj hi hij
  rw [e] at h2
  exact ltN_irrefl l x (ltN_trans h1 h2)
theorem Ranked.none {l L : List Nm} (h : Ranked l L) {j : Nat} (ha : ∀ y, y ∈ l → y ∈ L.take j) : L.take j = L := by
  rcases Nat.lt_or_ge j L.length with hj | hj
  · have hmem := ha _ ((h.mem _).1 (List.getElem_mem hj))
    obtain ⟨i, hi, e⟩ := List.mem_iff_getElem.1 hmem
    rw [List.length_take] at hi
    rw [List.getElem_take] at e
    have := (List.getElem_inj h.nodup (h₀ := by omega) (h₁ := hj)).1 e
    omega
  · exact List.take_of_length_le hj
def addN (N : List Nm) (a : Nm) : List Nm := if a ∈ N then N else N ++ [a]
def nub (l : List Nm) : List Nm := l.foldl addN []
theorem nub_snoc (l : List Nm) (a : Nm) : nub (l ++ [a]) = addN (nub l) a := by unfold nub; rw [List.foldl_append]; rfl
theorem addN_mem (N : List Nm) (a x : Nm) : x ∈ addN N a ↔ x ∈ N ∨ x = a := by
  unfold addN
  by_cases h : a ∈ N
  · rw [if_pos h]
    exact ⟨.inl, fun h1 => h1.elim id (fun e => by rw [e]; exact h)⟩
  · rw [if_neg h]; simp
theorem addN_nodup {N : List Nm} (a : Nm) (h : N.Nodup) : (addN N a).Nodup := by
  unfold addN
  by_cases ha : a ∈ N
  · rw [if_pos ha]; exact h
  · rw [if_neg ha]
    exact List.nodup_append.2 ⟨h, by simp, fun x hx y hy => by simp at hy; subst hy; exact fun e => ha (e ▸ hx)⟩
theorem foldl_mem (l : List Nm) : ∀ N x, x ∈ l.foldl addN N ↔ x ∈ N ∨ x ∈ l := by
  induction l with
  | nil => intro N x; simp
  | cons a l ih => intro N x; rw [List.foldl_cons, ih, addN_mem, List.mem_cons, or_assoc]
theorem foldl_nodup (l : List Nm) : ∀ N, N.Nodup → (l.foldl addN N).Nodup := by
  induction l with
  | nil => intro N h; exact h
  | cons a l ih => intro N h; exact ih _ (addN_nodup a h)
theorem nub_mem (l : List Nm) (x : Nm) : x ∈ nub l ↔ x ∈ l := by unfold nub; rw [foldl_mem]; simp
theorem nub_nodup (l : List Nm) : (nub l).Nodup := foldl_nodup l [] List.nodup_nil
theorem nub_length (l : List Nm) : (nub l).length ≤ l.length := by
  unfold nub
  have : ∀ (l N : List Nm), (l.foldl addN N).length ≤ N.length + l.length := by
    intro l
    induction l with
    | nil => intro N; simp
    | cons a l ih =>
      intro N
      refine Nat.le_trans (ih _) ?_
      unfold addN
      split <;> simp <;> omega
  simpa using this l []
/-- the names of the headers that are valid -/
def nam (h : Hdr) : List Nm := if valid h then [h.src.data.toList.take 3, h.dst.data.toList.take 3] else []
def names (hs : List Hdr) : List Nm := hs.flatMap nam
theorem names_take (hs : List Hdr) {k : Nat} (hk : k < hs.length) : names (hs.take (k + 1)) = names (hs.take k) ++ nam (hs.getD k default) := by
  unfold names
  rw [List.take_succ_eq_append_getElem hk, List.flatMap_append, List.getD_eq_getElem?_getD, List.getElem?_eq_getElem hk]
  simp
theorem names_length (hs : List Hdr) : (names hs).length ≤ 2 * hs.length := by
  unfold names
  induction hs with
  | nil => simp
  | cons a l ih =>
    rw [List.flatMap_cons, List.length_append, List.length_cons]
    have : (nam a).length ≤ 2 := by unfold nam; split <;> simp
    omega
/-- sorting a list without repetition by cf -/
theorem ranked_sort (l L : List Nm) (hp : L.Perm (nub l)) (hs : L.Pairwise (fun x y => ¬ ltN l y x)) : Ranked l L := by
  refine ⟨fun x => by rw [hp.mem_iff, nub_mem], ?_⟩
  have hd : L.Nodup := hp.nodup_iff.2 (nub_nodup l)
  exact (hs.and hd).imp fun {x y} ⟨h1, h2⟩ => (ltN_tri l h2).elim id (fun h => absurd h h1)
end Cp
end Go.Proofs.Ytgdkehnakopnnaa
