/- Plain laws of merging. -/
import Derived.Test.YtnkgmpmedkegbaaSt3
namespace Go.Proofs.Ytnkgmpmedkegbaa
open Go Go.RowKit Go.Sort Go.Shelf Go.Lib
namespace St
variable {α : Type} [Inhabited α] {lt : α → α → Bool}
omit [Inhabited α] in
theorem le_trans3 (hO : SWO lt) {x y z : α} (h1 : lt y x = false) (h2 : lt z y = false) : lt z x = false := hO.ntrans z y x h2 h1
omit [Inhabited α] in
theorem le_of_lt (hO : SWO lt) {x y : α} (h : lt x y = true) : lt y x = false := by
  cases h2 : lt y x with
  | false => rfl
  | true => have := hO.trans x y x h h2; rw [hO.irrefl] at this; exact this.symm
theorem sorted_le {d : Array α} {a b p q : Nat} (hO : SWO lt) (h : SortedIn lt a b d) (hp : a ≤ p) (hpq : p ≤ q) (hq : q < b) : lt d[q]! d[p]! = false := by
  rcases Nat.lt_or_ge p q with h1 | h1
  · exact h p q hp h1 hq
  · obtain rfl : p = q := by omega
    exact hO.irrefl _
/-- behind a rotation of [s, m) and [m, e) -/
structure Split (lt : α → α → Bool) (d : Array α) (a s m e b : Nat) : Prop where
  has : a ≤ s
  hsm : s ≤ m
  hme : m ≤ e
  heb : e ≤ b
  s1 : SortedIn lt a m d
  s2 : SortedIn lt m b d
  xy : ∀ x y, m ≤ x → x < e → s ≤ y → y < m → lt d[y]! d[x]! = false
  lz : ∀ x z, a ≤ x → x < s → e ≤ z → z < b → lt d[z]! d[x]! = false
theorem Split.runs {d d' : Array α} {a s m e b : Nat} (H : Split lt d a s m e b) (R : Rotated d d' s m e) :
    SortedIn lt a s d' ∧ SortedIn lt s (s + (e - m)) d' ∧ SortedIn lt (s + (e - m)) e d' ∧ SortedIn lt e b d' ∧ ∀ p q, a ≤ p → p < s + (e - m) → s + (e - m) ≤ q → q < b → lt d'[q]! d'[p]! = false := by
  obtain ⟨has, hsm, hme, heb, s1, s2, xy, lz⟩ := H
  have I := fun t => rotI_cases s m e t
  refine ⟨fun p q h1 h2 h3 => ?_, fun p q h1 h2 h3 => ?_, fun p q h1 h2 h3 => ?_, fun p q h1 h2 h3 => ?_, fun p q h1 h2 h3 h4 => ?_⟩
  · rw [R.at_, R.at_]
    have e1 : rotI s m e p = p := by have := I p; omega
    have e2 : rotI s m e q = q := by have := I q; omega
    rw [e1, e2]
    exact s1 p q h1 h2 (by omega)
  · rw [R.at_, R.at_]
    have e1 : rotI s m e p = p + (m - s) := by have := I p; omega
    have e2 : rotI s m e q = q + (m - s) := by have := I q; omega
    rw [e1, e2]
    exact s2 _ _ (by omega) (by omega) (by omega)
  · rw [R.at_, R.at_]
    have e1 : rotI s m e p = p - (e - m) := by have := I p; omega
    have e2 : rotI s m e q = q - (e - m) := by have := I q; omega
    rw [e1, e2]
    exact s1 _ _ (by omega) (by omega) (by omega)
  · rw [R.at_, R.at_]
    have e1 : rotI s m e p = p := by have := I p; omega
    have e2 : rotI s m e q = q := by have := I q; omega
    rw [e1, e2]
    exact s2 p q (by omega) h2 h3
  · rw [R.at_, R.at_]
    by_cases c1 : p < s
    · have e1 : rotI s m e p = p := by have := I p; omega
      rw [e1]
      by_cases c2 : q < e
      · have e2 : rotI s m e q = q - (e - m) := by have := I q; omega
        rw [e2]
        exact s1 p _ h1 (by omega) (by omega)
      · have e2 : rotI s m e q = q := by have := I q; omega
        rw [e2]
        exact lz p q h1 c1 (by omega) h4
    · have e1 : rotI s m e p = p + (m - s) := by have := I p; omega
      rw [e1]
      by_cases c2 : q < e
      · have e2 : rotI s m e q = q - (e - m) := by have := I q; omega
        rw [e2]
        exact xy _ _ (by omega) (by omega) (by omega) (by omega)
      · have e2 : rotI s m e q = q := by have := I q; omega
        rw [e2]
        exact s2 _ q (by omega) (by omega) h4
/-- both halves sorted, and the left one not above the right one -/
theorem halves_sorted {d : Array α} {a c b : Nat} (h1 : SortedIn lt a c d) (h2 : SortedIn lt c b d) (h : ∀ p q, a ≤ p → p < c → c ≤ q → q < b → lt d[q]! d[p]! = false) : SortedIn lt a b d := by
  intro p q hp hpq hq
  by_cases c1 : q < c
  · exact h1 p q hp hpq c1
  · by_cases c2 : p < c
    · exact h p q hp c2 (by omega) hq
    · exact h2 p q (by omega) hpq hq
theorem perm_val {d d' : Array α} {a b : Nat} (h : PermIn a b d d') (hb : b ≤ d.size) {q : Nat} (h1 : a ≤ q) (h2 : q < b) : ∃ q', a ≤ q' ∧ q' < b ∧ d'[q]! = d[q']! := by
  obtain ⟨hs, _, hp⟩ := h
  have hm : d'[q]! ∈ (d'.extract a b).toList := by
    rw [getElem!_pos d' q (by omega)]
    rw [Array.mem_toList_iff, Array.mem_iff_getElem]
    refine ⟨q - a, by simp; omega, ?_⟩
    simp only [Array.getElem_extract]
    congr 1; omega
  have hm2 := hp.mem_iff.1 hm
  rw [Array.mem_toList_iff, Array.mem_iff_getElem] at hm2
  obtain ⟨i, hi, he⟩ := hm2
  simp at hi
  simp only [Array.getElem_extract] at he
  refine ⟨a + i, by omega, by omega, ?_⟩
  rw [getElem!_pos d (a + i) (by omega), he]
theorem sorted_out {d d' : Array α} {a b x y : Nat} (h : PermIn a b d d') (ho : y ≤ a ∨ b ≤ x) (hs : SortedIn lt x y d) : SortedIn lt x y d' := by
  intro p q h1 h2 h3
  rw [h.2.1 p (by omega), h.2.1 q (by omega)]
  exact hs p q h1 h2 h3
/-- the whole of symMerge behind its rotation -/
theorem merged_of {d d1 d2 d3 : Array α} {a s m e b : Nat} (hb : b ≤ d.size) (has : a ≤ s) (hsm : s ≤ m) (hme : m ≤ e) (heb : e ≤ b)
    (H : SortedIn lt a m d → SortedIn lt m b d → Split lt d a s m e b) (R : Rotated d d1 s m e)
    (M1 : Merged lt d1 d2 a s (s + (e - m))) (M2 : Merged lt d2 d3 (s + (e - m)) e b) : Merged lt d d3 a m b := by
  have hc : s + (e - m) ≤ e := by omega
  have p1 : PermIn a b d d1 := permIn_mono _ _ _ _ _ _ has heb (by first | exact hb | omega) R.perm
  have z1 : d1.size = d.size := p1.1
  have p2 : PermIn a b d1 d2 := permIn_mono _ _ _ _ _ _ (Nat.le_refl _) (by omega) (by omega) M1.1
  have z2 : d2.size = d1.size := p2.1
  have p3 : PermIn a b d2 d3 := permIn_mono _ _ _ _ _ _ (by omega) (Nat.le_refl _) (by omega) M2.1
  refine ⟨permIn_trans _ _ _ _ _ (permIn_trans _ _ _ _ _ p1 p2) p3, fun h1 h2 => ?_⟩
  obtain ⟨r1, r2, r3, r4, r5⟩ := (H h1 h2).runs R
  have q1 := M1.2 r1 r2
  have q2 := M2.2 (sorted_out M1.1 (.inr (Nat.le_refl _)) r3) (sorted_out M1.1 (.inr hc) r4)
  refine halves_sorted (sorted_out M2.1 (.inl (Nat.le_refl _)) q1) q2 fun p q hp hpc hcq hq => ?_
  rw [M2.1.2.1 p (.inl hpc)]
  obtain ⟨q', k1, k2, k3⟩ := perm_val M2.1 (by omega) hcq hq
  rw [k3, M1.1.2.1 q' (.inr k1)]
  obtain ⟨p', k4, k5, k6⟩ := perm_val M1.1 (by omega) hp hpc
  rw [k6]
  exact r5 p' q' k4 k5 k1 k2
/-- one element ahead of a run -/
theorem ins_left (hO : SWO lt) {d d1 : Array α} {a i b : Nat} (hb : b ≤ d.size) (h1 : a + 1 ≤ i) (h2 : i ≤ b) (f1 : i = a + 1 ∨ lt d[i - 1]! d[a]! = true) (f2 : i = b ∨ lt d[i]! d[a]! = false) (R : Rotated d d1 a (a + 1) i) : Merged lt d d1 a (a + 1) b := by
  refine ⟨permIn_mono _ _ _ _ _ _ (Nat.le_refl _) h2 hb R.perm, fun s1 s2 => ?_⟩
  have H : Split lt d a a (a + 1) i b := ⟨Nat.le_refl _, by omega, h1, h2, s1, s2, fun x y g1 g2 g3 g4 => by
    obtain rfl : y = a := by omega
    rcases f1 with f1 | f1
    · omega
    · exact le_trans3 hO (sorted_le hO s2 g1 (show x ≤ i - 1 by omega) (by omega)) (le_of_lt hO f1), fun x z g1 g2 => by omega⟩
  obtain ⟨_, r2, r3, r4, r5⟩ := H.runs R
  refine halves_sorted r2 (fun p q g1 g2 g3 => ?_) r5
  by_cases c1 : q < i
  · exact r3 p q g1 g2 c1
  · by_cases c2 : i ≤ p
    · exact r4 p q c2 g2 g3
    · have I := fun t => rotI_cases a (a + 1) i t
      rw [R.at_, R.at_]
      have e1 : rotI a (a + 1) i p = a := by have := I p; omega
      have e2 : rotI a (a + 1) i q = q := by have := I q; omega
      rw [e1, e2]
      rcases f2 with f2 | f2
      · omega
      · exact le_trans3 hO f2 (sorted_le hO s2 h1 (by omega) g3)
/-- one element behind a run -/
theorem ins_right (hO : SWO lt) {d d1 : Array α} {a i m : Nat} (hb : m + 1 ≤ d.size) (h1 : a ≤ i) (h2 : i ≤ m) (f1 : i = a ∨ lt d[m]! d[i - 1]! = false) (f2 : i = m ∨ lt d[m]! d[i]! = true) (R : Rotated d d1 i m (m + 1)) : Merged lt d d1 a m (m + 1) := by
  refine ⟨permIn_mono _ _ _ _ _ _ h1 (Nat.le_refl _) hb R.perm, fun s1 s2 => ?_⟩
  have H : Split lt d a i m (m + 1) (m + 1) := ⟨h1, h2, by omega, Nat.le_refl _, s1, s2, fun x y g1 g2 g3 g4 => by
    obtain rfl : x = m := by omega
    rcases f2 with f2 | f2
    · omega
    · exact le_trans3 hO (le_of_lt hO f2) (sorted_le hO s1 h1 g3 g4), fun x z g1 g2 g3 g4 => by omega⟩
  obtain ⟨r1, r2, r3, _, r5⟩ := H.runs R
  refine halves_sorted (fun p q g1 g2 g3 => ?_) r3 r5
  by_cases c1 : q < i
  · exact r1 p q g1 g2 c1
  · by_cases c2 : i ≤ p
    · exact r2 p q c2 g2 g3
    · have I := fun t => rotI_cases i m (m + 1) t
      rw [R.at_, R.at_]
      have e1 : rotI i m (m + 1) p = p := by have := I p; omega
      have e2 : rotI i m (m + 1) q = m := by have := I q; omega
      rw [e1, e2]
      rcases f1 with f1 | f1
      · omega
      · exact le_trans3 hO (sorted_le hO s1 g1 (show p ≤ i - 1 by omega) (by omega)) f1
/-- what the search of symMerge has found -/
theorem split_of (hO : SWO lt) {d : Array α} {a m b mid s : Nat} (hm1 : a < m) (hm2 : m < b) (hmid : mid = (a + b) / 2) (r0 s0 : Nat) (h0 : (mid < m ∧ s0 = mid + m - b ∧ r0 = mid) ∨ (m ≤ mid ∧ s0 = a ∧ r0 = m)) (hs1 : s0 ≤ s) (hs2 : s ≤ r0)
    (f1 : s = s0 ∨ lt d[mid + m - s]! d[s - 1]! = false) (f2 : s = r0 ∨ lt d[mid + m - s - 1]! d[s]! = true) (s1 : SortedIn lt a m d) (s2 : SortedIn lt m b d) : Split lt d a s m (mid + m - s) b := by
  refine ⟨by omega, by omega, by omega, by omega, s1, s2, fun x y g1 g2 g3 g4 => ?_, fun x z g1 g2 g3 g4 => ?_⟩
  · rcases f2 with f2 | f2
    · omega
    · exact le_trans3 hO (le_trans3 hO (sorted_le hO s2 g1 (show x ≤ mid + m - s - 1 by omega) (by omega)) (le_of_lt hO f2)) (sorted_le hO s1 (by omega) g3 g4)
  · rcases f1 with f1 | f1
    · omega
    · exact le_trans3 hO (le_trans3 hO (sorted_le hO s1 g1 (show x ≤ s - 1 by omega) (by omega)) f1) (sorted_le hO s2 (by omega) g3 g4)
end St
end Go.Proofs.Ytnkgmpmedkegbaa
