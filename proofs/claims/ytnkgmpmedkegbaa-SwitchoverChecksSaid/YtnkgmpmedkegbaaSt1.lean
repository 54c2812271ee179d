/- Plain laws of the stable sort: exchanges of ranges, rotations, merging. -/
import Derived.Sort.LotA
namespace Go.Proofs.Ytnkgmpmedkegbaa
open Go Go.Sort
namespace St
variable {α : Type} [Inhabited α]
def swI (a b n t : Nat) : Nat := if a ≤ t ∧ t < a + n then t - a + b else if b ≤ t ∧ t < b + n then t - b + a else t
def swapR (d : Array α) (a b : Nat) : Nat → Array α
  | 0 => d
  | n + 1 => swp (swapR d a b n) (a + n) (b + n)
theorem swapR_size (d : Array α) (a b n : Nat) : (swapR d a b n).size = d.size := by
  induction n with
  | zero => rfl
  | succ n ih => simp only [swapR, size_swp, ih]
theorem swapR_get (d : Array α) (a b n : Nat) (h1 : a + n ≤ b) (h2 : b + n ≤ d.size) (t : Nat) : (swapR d a b n)[t]! = d[swI a b n t]! := by
  induction n generalizing t with
  | zero =>
    unfold swI
    rw [if_neg (by omega), if_neg (by omega)]; rfl
  | succ n ih =>
    have ih' := ih (by omega) (by omega)
    simp only [swapR]
    rw [swp_get _ (by rw [swapR_size]; omega) (by rw [swapR_size]; omega)]
    by_cases e1 : t = b + n
    · rw [if_pos e1, ih']
      unfold swI
      rw [if_neg (by omega), if_neg (by omega), if_neg (by omega), if_pos (by omega), e1]
      congr 1; omega
    · rw [if_neg e1]
      by_cases e2 : t = a + n
      · rw [if_pos e2, ih']
        unfold swI
        rw [if_neg (by omega), if_neg (by omega), if_pos (by omega), e2]
        congr 1; omega
      · rw [if_neg e2, ih']
        unfold swI
        by_cases c1 : a ≤ t ∧ t < a + n
        · rw [if_pos c1, if_pos (by omega)]
        · by_cases c2 : b ≤ t ∧ t < b + n
          · rw [if_neg c1, if_pos c2, if_neg (by omega), if_pos (by omega)]
          · rw [if_neg c1, if_neg c2, if_neg (by omega), if_neg (by omega)]
theorem swapR_perm (d : Array α) (a b n lo hi : Nat) (h0 : lo ≤ a) (h1 : a + n ≤ b) (h2 : b + n ≤ hi) (h3 : hi ≤ d.size) : PermIn lo hi d (swapR d a b n) := by
  induction n with
  | zero => exact permIn_refl _ _ _
  | succ n ih =>
    simp only [swapR]
    exact permIn_trans _ _ _ _ _ (ih (by omega) (by omega)) (swp_permIn _ _ _ _ _ (by omega) (by omega) (by omega) (by omega) (by rw [swapR_size]; exact h3))
def rotI (a m b t : Nat) : Nat := if a ≤ t ∧ t < a + (b - m) then t + (m - a) else if a + (b - m) ≤ t ∧ t < b then t - (b - m) else t
theorem rotI_cases (a m b t : Nat) : (a ≤ t ∧ t < a + (b - m) ∧ rotI a m b t = t + (m - a)) ∨ (a + (b - m) ≤ t ∧ t < b ∧ rotI a m b t = t - (b - m)) ∨ (¬ (a ≤ t ∧ t < a + (b - m)) ∧ ¬ (a + (b - m) ≤ t ∧ t < b) ∧ rotI a m b t = t) := by
  unfold rotI
  by_cases h1 : a ≤ t ∧ t < a + (b - m)
  · rw [if_pos h1]; exact .inl ⟨h1.1, h1.2, rfl⟩
  · rw [if_neg h1]
    by_cases h2 : a + (b - m) ≤ t ∧ t < b
    · rw [if_pos h2]; exact .inr (.inl ⟨h2.1, h2.2, rfl⟩)
    · rw [if_neg h2]; exact .inr (.inr ⟨h1, h2, rfl⟩)
theorem swI_cases (a b n t : Nat) : (a ≤ t ∧ t < a + n ∧ swI a b n t = t - a + b) ∨ (¬ (a ≤ t ∧ t < a + n) ∧ b ≤ t ∧ t < b + n ∧ swI a b n t = t - b + a) ∨ (¬ (a ≤ t ∧ t < a + n) ∧ ¬ (b ≤ t ∧ t < b + n) ∧ swI a b n t = t) := by
  unfold swI
  by_cases h1 : a ≤ t ∧ t < a + n
  · rw [if_pos h1]; exact .inl ⟨h1.1, h1.2, rfl⟩
  · rw [if_neg h1]
    by_cases h2 : b ≤ t ∧ t < b + n
    · rw [if_pos h2]; exact .inr (.inl ⟨h1, h2.1, h2.2, rfl⟩)
    · rw [if_neg h2]; exact .inr (.inr ⟨h1, h2, rfl⟩)
theorem rot_gt (m i j t : Nat) (h : j < i) (hm : i ≤ m) : swI (m - i) m j (rotI (m - (i - j)) m (m + j) t) = rotI (m - i) m (m + j) t := by
  have h1 := rotI_cases (m - (i - j)) m (m + j) t
  have h2 := rotI_cases (m - i) m (m + j) t
  generalize rotI (m - (i - j)) m (m + j) t = x at *
  have h3 := swI_cases (m - i) m j x
  omega
theorem rot_lt (m i j t : Nat) (h : i < j) (hm : i ≤ m) : swI (m - i) (m + j - i) i (rotI (m - i) m (m + (j - i)) t) = rotI (m - i) m (m + j) t := by
  have h1 := rotI_cases (m - i) m (m + (j - i)) t
  have h2 := rotI_cases (m - i) m (m + j) t
  generalize rotI (m - i) m (m + (j - i)) t = x at *
  have h3 := swI_cases (m - i) (m + j - i) i x
  omega
theorem rot_eq (m i t : Nat) (hm : i ≤ m) : swI (m - i) m i t = rotI (m - i) m (m + i) t := by
  have h1 := rotI_cases (m - i) m (m + i) t
  have h2 := swI_cases (m - i) m i t
  omega
/-- one ascending range out of two: what is wanted of symMerge -/
def Merged (lt : α → α → Bool) (d d' : Array α) (a m b : Nat) : Prop := PermIn a b d d' ∧ (SortedIn lt a m d → SortedIn lt m b d → SortedIn lt a b d')
end St
end Go.Proofs.Ytnkgmpmedkegbaa
