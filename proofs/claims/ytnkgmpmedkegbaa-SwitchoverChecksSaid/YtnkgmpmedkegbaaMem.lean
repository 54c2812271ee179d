/- Blocks that are known whole, and slices that a call owns: plain lemmas. -/
import Derived.WalkKit
import Derived.Lib.Hide
import Derived.Lib.QuietBelow
import Derived.Laws.Rows
import Derived.Deep.AppendLies
namespace Go.Proofs.Ytnkgmpmedkegbaa
open Go Go.RowKit Go.Sort
namespace Mm
/-- a block known whole, that may be written -/
structure Blk (w : World) (B : Nat) (C : Array Value) (t : TypeId) : Prop where
  at_ : w.heap[B]? = some (.cells C t (0, 0))
theorem Blk.lt {w : World} {B : Nat} {C : Array Value} {t : TypeId} (h : Blk w B C t) : B < w.heap.size := by
  rcases Nat.lt_or_ge B w.heap.size with hlt | hge
  · exact hlt
  · have := h.at_; rw [Array.getElem?_eq_none hge] at this; cases this
theorem Blk.cell {w : World} {B : Nat} {C : Array Value} {t : TypeId} (h : Blk w B C t) : ∀ i, w.cell? ⟨B, i, none⟩ = C[i]? := fun i => cell_of_row w B i C t (0, 0) h.at_
theorem Blk.free {w : World} {B : Nat} {C : Array Value} {t : TypeId} (h : Blk w B C t) : ∀ i, w.frozen? ⟨B, i, none⟩ = false := fun i => frozen_of_row w B i C t h.at_
theorem Blk.keep {w w' : World} {B : Nat} {C : Array Value} {t : TypeId} (h : Blk w B C t) (hb : Below w.heap.size w w') : Blk w' B C t := ⟨by rw [hb.block B h.lt]; exact h.at_⟩
theorem Blk.under {w w' : World} {B n : Nat} {C : Array Value} {t : TypeId} (h : Blk w B C t) (hb : Below n w w') (hn : B < n) : Blk w' B C t := ⟨by rw [hb.block B hn]; exact h.at_⟩
theorem Blk.new (w : World) (C : Array Value) (t : TypeId) : Blk (w.alloc (.cells C t)) w.heap.size C t := ⟨heap_alloc_new w _⟩
theorem Blk.alloc {w : World} {B : Nat} {C : Array Value} {t : TypeId} (h : Blk w B C t) (o : Obj) : Blk (w.alloc o) B C t := ⟨by rw [Below.heap_alloc w o B h.lt]; exact h.at_⟩
theorem Blk.drew {w : World} {B : Nat} {C : Array Value} {t : TypeId} (h : Blk w B C t) : Blk w.drew B C t := ⟨h.at_⟩
theorem Blk.set {w : World} {B : Nat} {C : Array Value} {t : TypeId} (h : Blk w B C t) (i : Nat) (v : Value) : Blk (w.setCell ⟨B, i, none⟩ v) B (C.setIfInBounds i v) t := ⟨heap_setCell_same w B i C t v h.at_⟩
theorem Blk.other {w : World} {B : Nat} {C : Array Value} {t : TypeId} (h : Blk w B C t) {p : Addr} (hp : B ≠ p.block) (v : Value) : Blk (w.setCell p v) B C t := ⟨by rw [heap_setCell_other w p B v hp]; exact h.at_⟩
theorem Blk.grown {w w' : World} {B : Nat} {C : Array Value} {t : TypeId} {row : Option Nat} (h : Blk w B C t) (hg : w.grownBy w' row) (hr : row ≠ some B) : Blk w' B C t := ⟨by rw [hg.block B h.lt (fun e => hr e.symm)]; exact h.at_⟩
theorem Blk.regrown {w : World} {B : Nat} {C : Array Value} {t : TypeId} (h : Blk w B C t) : ∀ d os i, (grow (redrawn w d) os).cell? ⟨B, i, none⟩ = C[i]? := fun d os => (h.keep (below_regrown w d os)).cell
/-- the cells of a list of elements, k cells each -/
def flat {α : Type} (k : Nat) (f : α → Nat → Value) : List α → List Value
  | [] => []
  | x :: xs => (List.range k).map (f x) ++ flat k f xs
theorem flat_append {α : Type} (k : Nat) (f : α → Nat → Value) (xs ys : List α) : flat k f (xs ++ ys) = flat k f xs ++ flat k f ys := by
  induction xs with
  | nil => rfl
  | cons x xs ih => simp [flat, ih]
theorem flat_length {α : Type} (k : Nat) (f : α → Nat → Value) (xs : List α) : (flat k f xs).length = xs.length * k := by
  induction xs with
  | nil => simp [flat]
  | cons x xs ih => simp [flat, ih, Nat.add_mul]; omega
theorem flat_at {α : Type} [Inhabited α] (k : Nat) (f : α → Nat → Value) (xs : List α) (i j : Nat) (hi : i < xs.length) (hj : j < k) : (flat k f xs)[i * k + j]? = some (f (xs.getD i default) j) := by
  induction xs generalizing i with
  | nil => simp at hi
  | cons x xs ih =>
    cases i with
    | zero =>
      simp only [flat, Nat.zero_mul, Nat.zero_add]
      rw [List.getElem?_append_left (by simpa using hj)]
      simp [hj]
    | succ i =>
      simp only [flat]
      rw [List.getElem?_append_right (by simp [Nat.add_mul]; omega)]
      have e : (i + 1) * k + j - (List.map (f x) (List.range k)).length = i * k + j := by simp [Nat.add_mul]; omega
      rw [e, ih i (by simpa using hi)]
      rfl
/-- a slice value that the call owns reads as these cells -/
theorem owns_read {α : Type} [Inhabited α] {w : World} {base k n : Nat} {e : TypeId} {v : Value} {f : α → Nat → Value} {xs : List α} (hk : 0 < k) (h : w.ownsRow base e k v n (flat k f xs)) :
    xs.length = n ∧ n ≤ maxLen ∧ ((v = .slice none 0 0 ∧ n = 0) ∨ ∃ g cap, v = .slice (some ⟨g, 0, none⟩) n cap ∧ base ≤ g ∧ g < w.heap.size ∧ ∀ i, i < n → ∀ j, j < k → w.cell? ⟨g, i * k + j, none⟩ = some (f (xs.getD i default) j)) := by
  have hl : xs.length = n := by
    have := h.1
    rw [flat_length] at this
    exact Nat.eq_of_mul_eq_mul_right hk this
  rcases h.2 with ⟨hv, h0⟩ | ⟨g, cap, cur, hv, hb, hg, hn, hm, hs, ht⟩
  · exact ⟨hl, by rw [h0]; exact Nat.zero_le _, .inl ⟨hv, h0⟩⟩
  · refine ⟨hl, by omega, .inr ⟨g, cap, hv, hb, ?_, fun i hi j hj => ?_⟩⟩
    · rcases Nat.lt_or_ge g w.heap.size with hlt | hge
      · exact hlt
      · rw [Array.getElem?_eq_none hge] at hg; cases hg
    · have := h.cells (g := g) (by rw [hv]; rfl) (i * k + j) _ (flat_at k f xs i j (by omega) hj)
      have hadd : (⟨g, 0, none⟩ : Addr).add (i * k + j) = ⟨g, i * k + j, none⟩ := by unfold Addr.add; split <;> simp_all
      rwa [hadd] at this
theorem below_drewN {B : Nat} {a w : World} (h : Below B a w) (n : Nat) : Below B a (w.drewN n) := ⟨h.os, h.tape, h.output, h.size, h.block⟩
theorem owns_keep {w w' : World} {base : Nat} {e : TypeId} {size n : Nat} {v : Value} {xs : List Value} (h : w.ownsRow base e size v n xs) (hb : Below w.heap.size w w') : w'.ownsRow base e size v n xs :=
  h.kept (row := none) ⟨hb.os, hb.tape, hb.output, hb.size, fun i hi _ => hb.block i hi⟩ (by cases v.ownBlock <;> simp)
/-- behind an append: what lay below the first block of the call's own is as it was -/
theorem below_append {w0 w w' : World} {base : Nat} {e : TypeId} {size n : Nat} {v : Value} {xs : List Value} (h : Below w0.heap.size w0 w) (ho : w.ownsRow base e size v n xs) (hg : w.grownBy w' v.ownBlock) (hbase : w0.heap.size ≤ base) : Below w0.heap.size w0 w' :=
  h.grown hg h.size (fun k hk => Nat.le_trans hbase (ho.lt k hk).1)
end Mm
end Go.Proofs.Ytnkgmpmedkegbaa
