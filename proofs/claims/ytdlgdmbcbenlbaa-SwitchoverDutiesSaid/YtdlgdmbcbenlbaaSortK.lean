/- Rows of elements of k cells that the library's sort has turned. -/
import Derived.Shelf.SlSortCmp.NoneTotal
import Derived.Sort.OwnSorted
import Derived.Test.YtdlgdmbcbenlbaaKa
set_option linter.unusedVariables false
set_option linter.unusedSimpArgs false
namespace Go.Proofs.Ytdlgdmbcbenlbaa
open Go Go.RowKit Go.Sort Go.Shelf
namespace Sk
variable {α : Type} [Inhabited α]
theorem flatK_fm (enc : α → List Value) (k : Nat) (hk : ∀ x, (enc x).length = k) (xs : List α) : (flatK enc k xs.toArray).toList = xs.flatMap enc := by
  apply List.ext_getElem?
  intro t
  by_cases ht : t < xs.length * k
  · have k0 : 0 < k := by rcases Nat.eq_zero_or_pos k with h | h; · subst h; simp at ht
                          · exact h
    have h1 : t / k < xs.length := by rw [Nat.div_lt_iff_lt_mul k0]; exact ht
    have h2 : t % k < k := Nat.mod_lt _ k0
    have h3 := fm_get enc k hk xs (t / k) (t % k) h1 h2
    rw [Nat.mul_comm, Nat.div_add_mod] at h3
    rw [h3]
    have h4 := get_flatK enc k xs.toArray t (by simpa using ht)
    rw [getElem!_pos (flatK enc k xs.toArray) t (by simpa using ht)] at h4
    rw [Array.getElem?_toList, Array.getElem?_eq_getElem (by simpa using ht), h4]
    have e : xs.toArray[t / k]! = xs.getD (t / k) default := by
      rw [getElem!_pos xs.toArray (t / k) (by simpa using h1)]; simp [List.getD_eq_getElem?_getD, h1]
    rw [e]
    generalize xs.getD (t / k) default = y
    have := hk y
    rw [List.getElem?_eq_getElem (by omega), getElem!_pos (enc y) _ (by omega)]
  · rw [List.getElem?_eq_none (by simpa using ht), List.getElem?_eq_none (by rw [fm_len enc k hk]; omega)]
theorem holdsK_of (enc : α → List Value) (k : Nat) (hk : ∀ x, (enc x).length = k) {w : World} {g : Nat} {cur : Array Value} {e : TypeId} {ss : List α} (hb : w.heap[g]? = some (.cells cur e (0, 0))) (ht : cur.toList.take (ss.length * k) = ss.flatMap enc) : HoldsK enc k w g 0 ss.toArray := by
  intro j hj
  have hj' : j < ss.length * k := by simpa using hj
  refine ⟨?_, by simp [World.frozen?, hb]⟩
  have h1 : (cur.toList.take (ss.length * k))[j]? = (ss.flatMap enc)[j]? := by rw [ht]
  rw [List.getElem?_take_of_lt hj', ← flatK_fm enc k hk] at h1
  simp only [World.cell?, hb, Nat.zero_add]
  simp only [Option.isSome_none, Bool.false_eq_true, if_false]
  rw [← Array.getElem?_toList, h1, Array.getElem?_toList, Array.getElem?_eq_getElem hj, getElem!_pos (flatK enc k ss.toArray) j hj]
  rfl
theorem heap_putI {w : World} {g n : Nat} {os : Array Obj} {cur : Array Value} {e : TypeId} {fr : Nat × Nat} (d : Array Value) (hb : w.heap[g]? = some (.cells cur e fr)) :
    (grow (putRow id (Sort.ahead w n) g 0 d) os).heap[g]? = some (.cells (putCells id 0 d cur) e fr) := by
  have hg : g < w.heap.size := (Array.getElem?_eq_some_iff.1 hb).1
  rw [heap_grow_old _ _ (by simpa using hg)]
  simp [putRow, mapBlock, Sort.ahead, Array.getElem?_modify, hb, onCells]
theorem grownBy_sortK (enc : α → List Value) (k : Nat) {w : World} {g n : Nat} {os : Array Obj} (d : Array α) : w.grownBy (sortWorldK enc k w g 0 n d os) (some g) := by
  refine ⟨rfl, rfl, rfl, by simp [sortWorldK, putRowK], fun k hk hne => ?_⟩
  unfold sortWorldK putRowK
  rw [heap_grow_old _ _ (by simpa using hk)]
  have : g ≠ k := fun e => hne (by rw [e])
  simp [putRow, mapBlock, Sort.ahead, Array.getElem?_modify, this]
theorem take_putI (cur : Array Value) (ts : Array Value) (h : ts.size ≤ cur.size) : (putCells id 0 ts cur).toList.take ts.size = ts.toList := by
  apply List.ext_getElem?
  intro j
  by_cases hj : j < ts.size
  · rw [List.getElem?_take_of_lt hj, Array.getElem?_toList]
    simp [putCells, hj, show j < cur.size by omega]
  · rw [List.getElem?_take_eq_none (by omega), List.getElem?_eq_none (by simp; omega)]
theorem owns_sortK (enc : α → List Value) (k : Nat) (hk : ∀ x, (enc x).length = k) {w : World} {base g cap n : Nat} {e : TypeId} {os : Array Obj} {cur : Array Value} {m : Nat} {ts : List α} (hl : ts.length = m) (hbase : base ≤ g) (hb : w.heap[g]? = some (.cells cur e (0, 0)))
    (h1 : m ≤ cap) (h2 : cap ≤ maxLen) (h3 : cur.size = cap * k) :
    (sortWorldK enc k w g 0 n ts.toArray os).ownsRow base e k (.slice (some ⟨g, 0, none⟩) m cap) m (ts.flatMap enc) :=
  ⟨by rw [fm_len enc k hk, hl], .inr ⟨g, cap, _, rfl, hbase, heap_putI _ hb, h1, h2, by simp [putCells, h3], by
    have := take_putI cur (flatK enc k ts.toArray) (by rw [size_flatK, h3, List.size_toArray, hl]; exact Nat.mul_le_mul_right k h1)
    rw [size_flatK, flatK_fm enc k hk, List.size_toArray, hl] at this
    exact this⟩⟩
end Sk
end Go.Proofs.Ytdlgdmbcbenlbaa
