/- Plain laws: cells that lie, one by one, in a good set, are good. -/
import Derived.Test.YthibgpgjioepfaaHears
namespace Go.Proofs.Ythibgpgjioepfaa
open Go Go.RowKit Go.Sort
namespace Nt
/-- the sum of f at the indices below n that p picks -/
def sumP (f : Nat → Int) (p : Nat → Bool) : Nat → Int
  | 0 => 0
  | n + 1 => sumP f p n + cond (p n) (f n) 0
theorem sumP_le {f : Nat → Int} {p q : Nat → Bool} {n : Nat} (h0 : ∀ i, 0 ≤ f i) (h : ∀ i, i < n → p i = true → q i = true) : sumP f p n ≤ sumP f q n := by
  induction n with
  | zero => simp [sumP]
  | succ n ih =>
    simp only [sumP]
    have h1 := ih fun i hi => h i (by omega)
    have h2 := h n (by omega)
    have h3 := h0 n
    cases hp : p n with
    | false =>
      cases q n <;> simp only [cond_true, cond_false] <;> omega
    | true =>
      rw [h2 hp]; simp only [cond_true]; omega
theorem sumP_add {f : Nat → Int} {p : Nat → Bool} {n m : Nat} (hm : m < n) (hp : p m = false) : sumP f (fun i => p i || i == m) n = sumP f p n + f m := by
  induction n with
  | zero => omega
  | succ n ih =>
    simp only [sumP]
    by_cases e : m = n
    · subst e
      have : sumP f (fun i => p i || i == m) m = sumP f p m := by
        clear ih hm
        have key : ∀ k, k ≤ m → sumP f (fun i => p i || i == m) k = sumP f p k := by
          intro k
          induction k with
          | zero => intro _; rfl
          | succ k ihk =>
            intro hk
            simp only [sumP]
            rw [ihk (by omega)]
            have : (k == m) = false := by simp; omega
            rw [this, Bool.or_false]
        exact key m (Nat.le_refl _)
      rw [this, hp]
      simp
    · rw [ih (by omega)]
      have : (n == m) = false := by simp; omega
      rw [this, Bool.or_false]
      omega
def imgB (φ : Nat → Nat) (j : Nat) : Nat → Nat → Bool
  | 0, _ => false
  | K + 1, i => imgB φ j K i || (decide (K ≠ j) && i == φ K)
theorem imgB_iff {φ : Nat → Nat} {j K i : Nat} : imgB φ j K i = true ↔ ∃ k, k < K ∧ k ≠ j ∧ i = φ k := by
  induction K with
  | zero => simp [imgB]
  | succ K ih =>
    simp only [imgB, Bool.or_eq_true, ih, Bool.and_eq_true, decide_eq_true_eq, beq_iff_eq]
    constructor
    · rintro (⟨k, h1, h2, h3⟩ | ⟨h1, h2⟩)
      · exact ⟨k, by omega, h2, h3⟩
      · exact ⟨K, by omega, h1, h2⟩
    · rintro ⟨k, h1, h2, h3⟩
      by_cases e : k = K
      · subst e; exact .inr ⟨h2, h3⟩
      · exact .inl ⟨k, by omega, h2, h3⟩
theorem sum_img {f : Nat → Int} {φ : Nat → Nat} {n j K : Nat} (hφ : ∀ k, k < K → φ k < n) (hinj : ∀ a b, a < K → b < K → φ a = φ b → a = b) :
    sumP (fun k => f (φ k)) (fun k => decide (k ≠ j)) K = sumP f (imgB φ j K) n := by
  induction K with
  | zero =>
    have : ∀ m, sumP f (imgB φ j 0) m = 0 := by
      intro m
      induction m with
      | zero => rfl
      | succ m ih => simp only [sumP, ih]; rfl
    rw [this]; rfl
  | succ K ih =>
    simp only [sumP]
    rw [ih (fun k hk => hφ k (by omega)) (fun a b ha hb => hinj a b (by omega) (by omega))]
    by_cases e : K = j
    · subst e
      have hd : decide (K ≠ K) = false := by simp
      rw [hd, cond_false, Int.add_zero]
      congr 1
      funext i
      simp [imgB]
    · have hd : decide (K ≠ j) = true := by simpa using e
      rw [hd, cond_true]
      have hp : imgB φ j K (φ K) = false := by
        cases hq : imgB φ j K (φ K) with
        | false => rfl
        | true =>
          obtain ⟨k, h1, _, h3⟩ := imgB_iff.1 hq
          have := hinj K k (by omega) (by omega) h3
          omega
      rw [← sumP_add (hφ K (by omega)) hp]
      congr 1
      funext i
      simp only [imgB, hd, Bool.true_and]
theorem distTo_sum (N : Net) (cs : List Cel) (i : Nat) (node : Int) (k : Nat) : distTo N cs (i : Int) node k = sumP (fun m => distC N node (cs.getD m default)) (fun m => decide (m ≠ i)) k := by
  induction k with
  | zero => rfl
  | succ k ih =>
    simp only [distTo, sumP, ih]
    by_cases e : k = i
    · subst e; simp
    · have : ¬ (k : Int) = (i : Int) := by omega
      simp [e, this]
/-- each of ds lies in cs, at places of their own -/
structure Emb (ds cs : List Cel) (φ : Nat → Nat) : Prop where
  lt : ∀ k, k < ds.length → φ k < cs.length
  inj : ∀ a b, a < ds.length → b < ds.length → φ a = φ b → a = b
  ends : ∀ k, k < ds.length → (ds.getD k default).frm = (cs.getD (φ k) default).frm ∧ (ds.getD k default).to = (cs.getD (φ k) default).to
theorem distC_ends {N : Net} {node : Int} {a b : Cel} (h1 : a.frm = b.frm) (h2 : a.to = b.to) : distC N node a = distC N node b := by
  unfold distC; rw [h1, h2]
theorem sumP_congr {f g : Nat → Int} {p : Nat → Bool} {n : Nat} (h : ∀ i, i < n → f i = g i) : sumP f p n = sumP g p n := by
  induction n with
  | zero => rfl
  | succ n ih => simp only [sumP]; rw [ih fun i hi => h i (by omega), h n (by omega)]
theorem emb_dist {N : Net} (hpw : ∀ xs ∈ N.power, ∀ x ∈ xs, 0 ≤ x ∧ x ≤ 68719476736) {ds cs : List Cel} {φ : Nat → Nat} (h : Emb ds cs φ) {j : Nat} (hj : j < ds.length) (node : Int) :
    dist N ds (j : Int) node ≤ dist N cs ((φ j : Nat) : Int) node := by
  unfold dist
  rw [distTo_sum, distTo_sum]
  have h0 : ∀ i, 0 ≤ distC N node (cs.getD i default) := fun i => by
    unfold distC
    have a := adds_bd hpw node (cs.getD i default).frm
    have b := adds_bd hpw node (cs.getD i default).to
    omega
  rw [sumP_congr (g := fun m => distC N node (cs.getD (φ m) default)) (fun i hi => distC_ends (h.ends i hi).1 (h.ends i hi).2)]
  rw [sum_img (f := fun m => distC N node (cs.getD m default)) (φ := φ) (j := j) h.lt h.inj]
  refine sumP_le h0 fun i hi hp => ?_
  obtain ⟨k, h1, h2, h3⟩ := imgB_iff.1 hp
  have : i ≠ φ j := fun e => h2 (h.inj k j h1 hj (by omega))
  simpa using this
theorem heardAt_le {N : Net} {ds cs : List Cel} {i j : Nat} {k node : Int} (h0 : 0 ≤ dist N ds (j : Int) node) (h : dist N ds (j : Int) node ≤ dist N cs (i : Int) node) (hh : heardAt N cs i k node = true) : heardAt N ds j k node = true := by
  unfold heardAt at *
  exact heard_mono h0 h hh
theorem emb_good {N : Net} {ds cs : List Cel} {φ : Nat → Nat} (h : Emb ds cs φ) (hg : goodN N cs = true) : goodN N ds = true := by
  have hc : check N = 0 := by
    unfold goodN at hg
    simp only [Bool.and_eq_true, decide_eq_true_eq] at hg
    exact hg.1
  have hpw := (check_zero hc).2.2.1
  have hf := (good_iff hc cs).1 hg
  refine (good_iff hc ds).2 fun j hj => ?_
  obtain ⟨f1, f2, f3, f4⟩ := faulty_iff.1 (hf (φ j) (h.lt j hj))
  obtain ⟨e1, e2⟩ := h.ends j hj
  have hd0 : ∀ node, 0 ≤ dist N ds (j : Int) node := fun node => by unfold dist; exact (distTo_bd hpw ds j node _).1
  refine faulty_iff.2 ⟨by rw [e1, e2]; exact f1, shares_iff.2 fun k hk hkj => ?_, ?_, ?_⟩
  · have hne : φ k ≠ φ j := fun e => hkj (h.inj k j hk hj e)
    have := touches_false.1 (shares_iff.1 f2 (φ k) (h.lt k hk) hne)
    obtain ⟨g1, g2⟩ := h.ends k hk
    refine touches_false.2 ?_
    rw [e1, e2, g1, g2]
    exact this
  · rw [e1, e2]; exact heardAt_le (hd0 _) (emb_dist hpw h hj _) f3
  · rw [e1, e2]; exact heardAt_le (hd0 _) (emb_dist hpw h hj _) f4
theorem rev_getD (cs : List Cel) {k : Nat} (h : k < cs.length) : cs.reverse.getD k default = cs.getD (cs.length - 1 - k) default := by
  rw [List.getD_eq_getElem?_getD, List.getD_eq_getElem?_getD, List.getElem?_reverse h]
theorem emb_reverse (cs : List Cel) : Emb cs.reverse cs (fun k => cs.length - 1 - k) :=
  ⟨fun k hk => by simp at hk; omega, fun a b ha hb h => by simp at ha hb; omega, fun k hk => by rw [rev_getD cs (by simpa using hk)]; exact ⟨rfl, rfl⟩⟩
theorem good_reverse (N : Net) (cs : List Cel) : goodN N cs.reverse = goodN N cs := by
  cases h : goodN N cs with
  | true => exact emb_good (emb_reverse cs) h
  | false =>
    cases h2 : goodN N cs.reverse with
    | false => rfl
    | true =>
      have := emb_good (emb_reverse cs.reverse) h2
      rw [List.reverse_reverse, h] at this
      exact this.symm
theorem emb_pair {cs : List Cel} {i j : Nat} (hi : i < cs.length) (hj : j < cs.length) (hij : i ≠ j) : Emb [cellOf ⟨(cs.getD i default).frm, (cs.getD i default).to, 0⟩, cellOf ⟨(cs.getD j default).frm, (cs.getD j default).to, 0⟩] cs (fun k => if k = 0 then i else j) := by
  refine ⟨fun k hk => ?_, fun a b ha hb h => ?_, fun k hk => ?_⟩
  · split <;> assumption
  · simp at ha hb
    by_cases a0 : a = 0 <;> by_cases b0 : b = 0
    · omega
    · rw [if_pos a0, if_neg b0] at h; omega
    · rw [if_neg a0, if_pos b0] at h; omega
    · omega
  · simp at hk
    rcases (by omega : k = 0 ∨ k = 1) with rfl | rfl
    · exact ⟨rfl, rfl⟩
    · exact ⟨rfl, rfl⟩
theorem together_of_good {N : Net} {cs : List Cel} (hg : goodN N cs = true) {i j : Nat} (hi : i < cs.length) (hj : j < cs.length) (hij : i ≠ j) :
    togetherN N ⟨(cs.getD i default).frm, (cs.getD i default).to, 0⟩ ⟨(cs.getD j default).frm, (cs.getD j default).to, 0⟩ = true := emb_good (emb_pair hi hj hij) hg
/-- the elements below k whose indices p picks -/
def picked {α : Type} [Inhabited α] (p : Nat → Bool) (xs : List α) : Nat → List α
  | 0 => []
  | k + 1 => picked p xs k ++ (if p k = true then [xs.getD k default] else [])
def placeOf (p : Nat → Bool) : Nat → List Nat
  | 0 => []
  | k + 1 => placeOf p k ++ (if p k = true then [k] else [])
theorem picked_map {α : Type} [Inhabited α] (p : Nat → Bool) (xs : List α) (k : Nat) : picked p xs k = (placeOf p k).map fun i => xs.getD i default := by
  induction k with
  | zero => rfl
  | succ k ih =>
    simp only [picked, placeOf, ih, List.map_append]
    split <;> simp
theorem place_mem {p : Nat → Bool} {k x : Nat} (h : x ∈ placeOf p k) : x < k := by
  induction k with
  | zero => cases h
  | succ k ih =>
    simp only [placeOf, List.mem_append] at h
    rcases h with h | h
    · have := ih h; omega
    · split at h
      · simp at h; omega
      · cases h
theorem place_nodup (p : Nat → Bool) (k : Nat) : (placeOf p k).Nodup := by
  induction k with
  | zero => exact List.nodup_nil
  | succ k ih =>
    simp only [placeOf]
    split
    · rw [List.nodup_append]
      refine ⟨ih, by simp, fun a ha b hb => ?_⟩
      have := place_mem ha
      simp at hb
      omega
    · simpa using ih
theorem emb_picked (p : Nat → Bool) (cs : List Cel) : Emb (picked p cs cs.length) cs (fun k => (placeOf p cs.length).getD k 0) := by
  have hl : (picked p cs cs.length).length = (placeOf p cs.length).length := by rw [picked_map]; simp
  refine ⟨fun k hk => ?_, fun a b ha hb h => ?_, fun k hk => ?_⟩
  · rw [hl] at hk
    rw [List.getD_eq_getElem?_getD, List.getElem?_eq_getElem hk]
    exact place_mem (List.getElem_mem hk)
  · rw [hl] at ha hb
    rw [List.getD_eq_getElem?_getD, List.getElem?_eq_getElem ha, List.getD_eq_getElem?_getD, List.getElem?_eq_getElem hb] at h
    simp only [Option.getD_some] at h
    have hp := List.pairwise_iff_getElem.1 (place_nodup p cs.length)
    rcases Nat.lt_trichotomy a b with hlt | heq | hgt
    · exact absurd h (hp a b ha hb hlt)
    · exact heq
    · exact absurd h.symm (hp b a hb ha hgt)
  · rw [hl] at hk
    have e : (picked p cs cs.length).getD k default = cs.getD ((placeOf p cs.length).getD k 0) default := by
      rw [picked_map, List.getD_eq_getElem?_getD, List.getElem?_map, List.getElem?_eq_getElem hk]
      rw [List.getD_eq_getElem?_getD (l := placeOf p cs.length), List.getElem?_eq_getElem hk]
      rfl
    rw [e]
    exact ⟨rfl, rfl⟩
end Nt
end Go.Proofs.Ythibgpgjioepfaa
