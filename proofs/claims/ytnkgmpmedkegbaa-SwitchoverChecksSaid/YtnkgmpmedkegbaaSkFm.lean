/- Rows of elements of k cells: their cells. -/
import Derived.Test.YtnkgmpmedkegbaaMem
namespace Go.Proofs.Ytnkgmpmedkegbaa
open Go Go.RowKit Go.Sort
namespace Sk
variable {α : Type} [Inhabited α]
omit [Inhabited α] in
theorem fm_len (enc : α → List Value) (k : Nat) (hk : ∀ x, (enc x).length = k) (xs : List α) : (xs.flatMap enc).length = xs.length * k := by
  induction xs with
  | nil => simp
  | cons x xs ih => rw [List.flatMap_cons, List.length_append, hk, ih, List.length_cons, Nat.add_mul]; omega
theorem fm_get (enc : α → List Value) (k : Nat) (hk : ∀ x, (enc x).length = k) (xs : List α) : ∀ i j, i < xs.length → j < k → (xs.flatMap enc)[i * k + j]? = (enc (xs.getD i default))[j]? := by
  induction xs with
  | nil => intro i j hi; simp at hi
  | cons x xs ih =>
    intro i j hi hj
    rw [List.flatMap_cons]
    cases i with
    | zero => rw [List.getElem?_append_left (by rw [hk]; omega)]; simp
    | succ i =>
      rw [List.getElem?_append_right (by rw [hk, Nat.add_mul]; omega), hk, show (i + 1) * k + j - k = i * k + j by rw [Nat.add_mul]; omega]
      rw [ih i j (by simpa using hi) hj]
      simp
end Sk
end Go.Proofs.Ytnkgmpmedkegbaa
