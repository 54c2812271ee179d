/- Plain laws: a set without a common node, and what is heard. -/
import Derived.Test.YthibgpgjioepfaaAlone
import Derived.Test.YthibgpgjioepfaaRef6
namespace Go.Proofs.Ythibgpgjioepfaa
open Go Go.RowKit Go.Sort
namespace Nt
theorem index_ends {N : Net} {f t : Int} (hc : check N = 0) (h : 0 ≤ indexN N f t) : indexN N f t < N.links.length ∧ isNode N.nodes f = true ∧ isNode N.nodes t = true ∧ f ≠ t := by
  have hi : indexN N f t = findL N.links f t := by unfold indexN; rw [if_pos hc]
  rw [hi] at h ⊢
  obtain ⟨k, hk⟩ := Int.eq_ofNat_of_zero_le h
  obtain ⟨hkl, hf, ht⟩ := findL_at hk
  have hz := (checkLink_zero ((check_zero hc).2.2.2.2.2.2 k hkl)).1
  unfold badEnds at hz
  simp only [Bool.or_eq_false_iff, Bool.not_eq_false'] at hz
  rw [hf, ht] at hz
  exact ⟨by rw [hk]; omega, hz.1.1.1.1, hz.1.1.1.2, by simpa using hz.1.1.2⟩
theorem usable_back {N : Net} {f t : Int} (h : usableN N (indexN N f t) = true) : 0 ≤ indexN N f t ∧ 0 ≤ indexN N t f := ⟨(usable_ends h).2.1.1, (usable_ends h).2.2.1.1⟩
def seenB (cs : List Cel) (k : Nat) (x : Int) : Bool := (cs.take k).any fun c => c.frm == x || c.to == x
def heardC (N : Net) (cs : List Cel) (i : Nat) (k node : Int) : Bool := hearsN N (N.margin.getD k.toNat 0) (distN N cs (i : Int) node)
def wantTo (N : Net) (cs : List Cel) : Nat → Bool
  | 0 => true
  | k + 1 =>
    let q := cs.getD k default
    wantTo N cs k && !seenB cs k q.frm && !seenB cs k q.to && heardC N cs k (indexN N q.frm q.to) q.to && heardC N cs k (indexN N q.to q.frm) q.frm
def LinkedTo (N : Net) (cs : List Cel) (k : Nat) : Prop := ∀ i, i < k → 0 ≤ indexN N (cs.getD i default).frm (cs.getD i default).to ∧ 0 ≤ indexN N (cs.getD i default).to (cs.getD i default).frm
theorem getD_lt {α : Type} [Inhabited α] (xs : List α) {i : Nat} (h : i < xs.length) : xs[i]? = some (xs.getD i default) := by
  rw [List.getD_eq_getElem?_getD, List.getElem?_eq_getElem h]; rfl
theorem seen_iff {cs : List Cel} {k : Nat} (hk : k ≤ cs.length) (x : Int) : seenB cs k x = false ↔ ∀ j, j < k → (cs.getD j default).frm ≠ x ∧ (cs.getD j default).to ≠ x := by
  unfold seenB
  rw [List.any_eq_false]
  constructor
  · intro h j hj
    have := h (cs.getD j default) (by rw [List.mem_take_iff_getElem]; exact ⟨j, by omega, by have := getD_lt cs (i := j) (by omega); rw [List.getElem?_eq_getElem (by omega)] at this; injection this⟩)
    simpa using this
  · intro h c hc
    rw [List.mem_take_iff_getElem] at hc
    obtain ⟨j, hj, rfl⟩ := hc
    have := h j (by omega)
    have e := getD_lt cs (i := j) (by omega)
    rw [List.getElem?_eq_getElem (by omega)] at e
    injection e with e
    rw [e]
    simpa using this
theorem touches_comm (a b : Cel) : touches a b = touches b a := by
  rw [touches_swap]
  unfold touches
  cases (b.frm == a.frm) <;> cases (b.frm == a.to) <;> cases (b.to == a.frm) <;> cases (b.to == a.to) <;> rfl
theorem touches_false {a b : Cel} : touches a b = false ↔ a.frm ≠ b.frm ∧ a.frm ≠ b.to ∧ a.to ≠ b.frm ∧ a.to ≠ b.to := by
  unfold touches
  simp [and_assoc]
theorem shares_iff {cs : List Cel} {i n : Nat} : shares cs i n = false ↔ ∀ k, k < n → k ≠ i → touches (cs.getD i default) (cs.getD k default) = false := by
  induction n with
  | zero => simp [shares]
  | succ n ih =>
    simp only [shares, Bool.or_eq_false_iff, Bool.and_eq_false_iff, decide_eq_false_iff_not, ih]
    constructor
    · rintro ⟨h1, h2⟩ k hk hki
      by_cases e : k = n
      · subst e
        rcases h2 with h2 | h2
        · exact absurd hki h2
        · exact h2
      · exact h1 k (by omega) hki
    · intro h
      refine ⟨fun k hk hki => h k (by omega) hki, ?_⟩
      by_cases e : n = i
      · left; simpa using e
      · right; exact h n (by omega) e
theorem want_iff {N : Net} {cs : List Cel} {n : Nat} : wantTo N cs n = true ↔ ∀ k, k < n → seenB cs k (cs.getD k default).frm = false ∧ seenB cs k (cs.getD k default).to = false ∧ heardC N cs k (indexN N (cs.getD k default).frm (cs.getD k default).to) (cs.getD k default).to = true ∧ heardC N cs k (indexN N (cs.getD k default).to (cs.getD k default).frm) (cs.getD k default).frm = true := by
  induction n with
  | zero => simp [wantTo]
  | succ n ih =>
    simp only [wantTo, Bool.and_eq_true, Bool.not_eq_true', ih]
    constructor
    · rintro ⟨⟨⟨⟨h1, h2⟩, h3⟩, h4⟩, h5⟩ k hk
      by_cases e : k = n
      · subst e; exact ⟨h2, h3, h4, h5⟩
      · exact h1 k (by omega)
    · intro h
      obtain ⟨h2, h3, h4, h5⟩ := h n (by omega)
      exact ⟨⟨⟨⟨fun k hk => h k (by omega), h2⟩, h3⟩, h4⟩, h5⟩
theorem good_iff {N : Net} (hc : check N = 0) (cs : List Cel) : goodN N cs = true ↔ ∀ i, i < cs.length → faulty N cs i = false := by
  unfold goodN firstN
  rw [if_pos hc]
  simp only [hc, decide_true, Bool.true_and, Option.isNone_iff_eq_none, List.find?_eq_none, List.mem_range, Bool.not_eq_true]
theorem faulty_iff {N : Net} {cs : List Cel} {i : Nat} : faulty N cs i = false ↔ usableN N (indexN N (cs.getD i default).frm (cs.getD i default).to) = true ∧ shares cs i cs.length = false ∧ heardAt N cs i (indexN N (cs.getD i default).frm (cs.getD i default).to) (cs.getD i default).to = true ∧ heardAt N cs i (indexN N (cs.getD i default).to (cs.getD i default).frm) (cs.getD i default).frm = true := by
  unfold faulty
  dsimp only
  cases usableN N (indexN N (cs.getD i default).frm (cs.getD i default).to) with
  | false => simp
  | true =>
    cases shares cs i cs.length with
    | true => simp
    | false => simp
theorem heard_mono {N : Net} {s d e : Int} (hd : 0 ≤ d) (hde : d ≤ e) (h : hearsN N s e = true) : hearsN N s d = true := by
  unfold hearsN at h ⊢
  simp only [Bool.and_eq_true, decide_eq_true_eq] at h ⊢
  obtain ⟨⟨⟨hc, h1, h2⟩, h3, h4⟩, h5⟩ := h
  refine ⟨⟨⟨hc, h1, hd⟩, h3, by omega⟩, ?_⟩
  unfold heardB at h5 ⊢
  simp only [decide_eq_true_eq] at h5 ⊢
  have ht := noise_ok (check_zero hc).2.2.2.1
  have : N.threshold * (N.noise + d) ≤ N.threshold * (N.noise + e) := Int.mul_le_mul_of_nonneg_left (by omega) (by omega)
  omega
theorem hears_usable {N : Net} (hc : check N = 0) {f t : Int} (h1 : 0 ≤ indexN N f t) (h2 : 0 ≤ indexN N t f) (k1 : hearsN N (N.margin.getD (indexN N f t).toNat 0) 0 = true) (k2 : hearsN N (N.margin.getD (indexN N t f).toNat 0) 0 = true) : usableN N (indexN N f t) = true := by
  have b1 := index_ends hc h1
  have hi : ∀ a b, indexN N a b = findL N.links a b := fun a b => by unfold indexN; rw [if_pos hc]
  unfold usableN
  rw [hi] at *
  obtain ⟨k, hk⟩ := Int.eq_ofNat_of_zero_le h1
  obtain ⟨hkl, hf, ht⟩ := findL_at hk
  rw [hk, Int.toNat_natCast] at k1 ⊢
  unfold usableV
  dsimp only
  rw [hf, ht]
  unfold hearsN at k1 k2
  simp only [Bool.and_eq_true, decide_eq_true_eq] at k1 k2
  rw [k1.2, k2.2]
  simp [hc, hkl, h2]
theorem linked_nodes {N : Net} {cs : List Cel} (hc : check N = 0) (hl : LinkedTo N cs cs.length) : cs.any (noneC N.nodes) = false := by
  rw [List.any_eq_false]
  intro c hcm
  obtain ⟨j, hj, rfl⟩ := List.mem_iff_getElem.1 hcm
  have h := hl j hj
  have e := getD_lt cs hj
  rw [List.getElem?_eq_getElem hj] at e
  injection e with e
  rw [← e] at h
  have := index_ends hc h.1
  unfold noneC
  simp [this.2.1, this.2.2.1]
theorem want_good {N : Net} {cs : List Cel} (hc : check N = 0) (hl : LinkedTo N cs cs.length) : goodN N cs = wantTo N cs cs.length := by
  have hnn := linked_nodes hc hl
  have hpw := (check_zero hc).2.2.1
  have hdist : ∀ i, i < cs.length → ∀ node, isNode N.nodes node = true → distN N cs (i : Int) node = dist N cs (i : Int) node := fun i hi node hnode => by
    unfold distN
    rw [if_pos ⟨hc, by omega, by omega, hnode, hnn⟩]
  have hd0 : ∀ i node, 0 ≤ dist N cs i node := fun i node => by unfold dist; exact (distTo_bd hpw cs i node _).1
  have key : ∀ i, i < cs.length → ∀ k node, isNode N.nodes node = true → heardC N cs i k node = heardAt N cs i k node := fun i hi k node hnode => by
    unfold heardC heardAt
    rw [hdist i hi node hnode]
  rw [Bool.eq_iff_iff, good_iff hc, want_iff]
  constructor
  · intro h i hi
    have he := hl i hi
    obtain ⟨f1, f2, f3, f4⟩ := faulty_iff.1 (h i hi)
    have hn := index_ends hc he.1
    refine ⟨(seen_iff (by omega) _).2 fun j hj => ?_, (seen_iff (by omega) _).2 fun j hj => ?_, by rw [key i hi _ _ hn.2.2.1]; exact f3, by rw [key i hi _ _ hn.2.1]; exact f4⟩
    · have := touches_false.1 (shares_iff.1 f2 j (by omega) (by omega))
      exact ⟨fun e => this.1 e.symm, fun e => this.2.1 e.symm⟩
    · have := touches_false.1 (shares_iff.1 f2 j (by omega) (by omega))
      exact ⟨fun e => this.2.2.1 e.symm, fun e => this.2.2.2 e.symm⟩
  · intro h i hi
    have he := hl i hi
    obtain ⟨s1, s2, h3, h4⟩ := h i hi
    have hn := index_ends hc he.1
    rw [key i hi _ _ hn.2.2.1] at h3
    rw [key i hi _ _ hn.2.1] at h4
    refine faulty_iff.2 ⟨hears_usable hc he.1 he.2 (heard_mono (by omega) (hd0 _ _) h3) (heard_mono (by omega) (hd0 _ _) h4), shares_iff.2 fun k hk hki => ?_, h3, h4⟩
    rcases Nat.lt_or_gt_of_ne hki with hlt | hgt
    · have a1 := (seen_iff (by omega) _).1 s1 k hlt
      have a2 := (seen_iff (by omega) _).1 s2 k hlt
      exact touches_false.2 ⟨fun e => a1.1 e.symm, fun e => a1.2 e.symm, fun e => a2.1 e.symm, fun e => a2.2 e.symm⟩
    · obtain ⟨t1, t2, _⟩ := h k hk
      have a1 := (seen_iff (by omega) _).1 t1 i hgt
      have a2 := (seen_iff (by omega) _).1 t2 i hgt
      exact touches_false.2 ⟨a1.1, a2.1, a1.2, a2.2⟩
theorem unlinked_bad {N : Net} {cs : List Cel} (hc : check N = 0) {k : Nat} (hk : k < cs.length) (h : indexN N (cs.getD k default).frm (cs.getD k default).to < 0 ∨ indexN N (cs.getD k default).to (cs.getD k default).frm < 0) : goodN N cs = false := by
  cases hg : goodN N cs with
  | false => rfl
  | true =>
    have h1 := (faulty_iff.1 ((good_iff hc cs).1 hg k hk)).1
    have h2 := usable_back h1
    omega
end Nt
end Go.Proofs.Ythibgpgjioepfaa
