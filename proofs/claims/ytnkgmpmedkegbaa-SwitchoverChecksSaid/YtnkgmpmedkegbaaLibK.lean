/- In-place work on rows of elements of k cells that a call owns; the builtin clear at structs. -/
import Derived.Test.YtnkgmpmedkegbaaSwB
import Derived.Lib.SliceRun
import Derived.Laws.OwnMore
namespace Go.Proofs.Ytnkgmpmedkegbaa
open Go Go.RowKit Go.Sort
namespace Sw
open Mm
def setL : List Value → Nat → List Value → List Value
  | xs, _, [] => xs
  | xs, j, v :: vs => setL (xs.set j v) (j + 1) vs
theorem setL_len : ∀ (vs xs : List Value) (j : Nat), (setL xs j vs).length = xs.length
  | [], _, _ => rfl
  | v :: vs, xs, j => by rw [setL, setL_len vs]; simp
theorem setL_get : ∀ (vs xs : List Value) (j t : Nat), (setL xs j vs)[t]? = if j ≤ t ∧ t < j + vs.length ∧ t < xs.length then vs[t - j]? else xs[t]?
  | [], xs, j, t => by rw [setL, if_neg (by simp; omega)]
  | v :: vs, xs, j, t => by
    rw [setL, setL_get vs, List.length_set]
    by_cases c1 : t = j
    · subst c1
      rw [if_neg (by omega)]
      by_cases c2 : t < xs.length
      · rw [if_pos ⟨Nat.le_refl _, by simp, c2⟩, List.getElem?_set, if_pos rfl, if_pos c2, Nat.sub_self]; rfl
      · rw [if_neg (by omega), List.getElem?_set, if_pos rfl, if_neg c2, List.getElem?_eq_none (by omega)]
    · by_cases c2 : j + 1 ≤ t ∧ t < j + 1 + vs.length ∧ t < xs.length
      · rw [if_pos c2, if_pos ⟨by omega, by simp; omega, c2.2.2⟩, show t - j = (t - (j + 1)) + 1 by omega, List.getElem?_cons_succ]
      · rw [if_neg c2, if_neg (by simp at c2 ⊢; omega), List.getElem?_set, if_neg (Ne.symm c1)]
theorem setL_out : ∀ (vs xs : List Value) (j : Nat), xs.length ≤ j → setL xs j vs = xs
  | [], _, _, _ => rfl
  | v :: vs, xs, j, h => by rw [setL, List.set_eq_of_length_le h, setL_out vs xs (j + 1) (by omega)]
section
variable {α : Type} [Inhabited α] {enc : α → List Value} {k : Nat}
theorem setL_fm (hk : ∀ x, (enc x).length = k) (xs : List α) (i : Nat) (y : α) (hi : i < xs.length) : setL (xs.flatMap enc) (i * k) (enc y) = (xs.set i y).flatMap enc := by
  apply List.ext_getElem?
  intro t
  rw [setL_get, hk, Sk.fm_len enc k hk]
  by_cases ht : t < xs.length * k
  · have k0 : 0 < k := by rcases Nat.eq_zero_or_pos k with h | h; · subst h; simp at ht
                          · exact h
    have h1 : t / k < xs.length := by rw [Nat.div_lt_iff_lt_mul k0]; exact ht
    have h2 : t % k < k := Nat.mod_lt _ k0
    have e1 : t / k * k + t % k = t := by rw [Nat.mul_comm, Nat.div_add_mod]
    have r := Sk.fm_get enc k hk (xs.set i y) (t / k) (t % k) (by simpa using h1) h2
    have r0 := Sk.fm_get enc k hk xs (t / k) (t % k) h1 h2
    rw [e1] at r r0
    rw [r]
    by_cases c : t / k = i
    · have c1 : i * k ≤ t := by rw [← c]; omega
      have c2 : t < i * k + k := by rw [← c]; omega
      have c3 : t - i * k = t % k := by rw [← c]; omega
      rw [if_pos ⟨c1, c2, ht⟩, c3, c]
      congr 2
      rw [List.getD_eq_getElem?_getD, List.getElem?_set, if_pos rfl, if_pos hi]; rfl
    · have c1 : ¬ (i * k ≤ t ∧ t < i * k + k ∧ t < xs.length * k) := by
        rintro ⟨h3, h4, _⟩
        apply c
        rw [Nat.div_eq_iff k0]
        constructor
        · exact h3
        · omega
      rw [if_neg c1, r0]
      congr 2
      rw [List.getD_eq_getElem?_getD, List.getD_eq_getElem?_getD, List.getElem?_set, if_neg (Ne.symm c)]
  · rw [if_neg (fun h => ht h.2.2), List.getElem?_eq_none (by rw [Sk.fm_len enc k hk]; omega), List.getElem?_eq_none (by rw [Sk.fm_len enc k hk, List.length_set]; omega)]
omit [Inhabited α] in
theorem fm_take (hk : ∀ x, (enc x).length = k) (xs : List α) (m : Nat) : (xs.flatMap enc).take (m * k) = (xs.take m).flatMap enc := by
  induction xs generalizing m with
  | nil => simp
  | cons x xs ih =>
    cases m with
    | zero => simp
    | succ m =>
      rw [List.flatMap_cons, List.take_succ_cons, List.flatMap_cons, ← ih m]
      rw [show (m + 1) * k = (enc x).length + m * k by rw [hk, Nat.add_mul]; omega, List.take_length_add_append]
end
theorem gb_trans {a b c : World} {r : Option Nat} (h1 : a.grownBy b r) (h2 : b.grownBy c r) : a.grownBy c r :=
  ⟨h2.os.trans h1.os, h2.tape.trans h1.tape, h2.output.trans h1.output, Nat.le_trans h1.size h2.size, fun i hi hr => (h2.block i (Nat.lt_of_lt_of_le hi h1.size) hr).trans (h1.block i hi hr)⟩
theorem gb_refl (w : World) (r : Option Nat) : w.grownBy w r := ⟨rfl, rfl, rfl, Nat.le_refl _, fun _ _ _ => rfl⟩
theorem gb_below {a w : World} {r : Option Nat} (h : Below a.heap.size a w) : a.grownBy w r := ⟨h.os, h.tape, h.output, h.size, fun i hi _ => h.block i hi⟩
theorem own_setCells {base : Nat} {e : TypeId} {size g n cap : Nat} : ∀ (vs xs : List Value) (w : World) (j : Nat), w.ownsRow base e size (.slice (some ⟨g, 0, none⟩) n cap) n xs → (w.setCells g j vs).ownsRow base e size (.slice (some ⟨g, 0, none⟩) n cap) n (setL xs j vs) ∧ w.grownBy (w.setCells g j vs) (some g)
  | [], _, _, _, h => ⟨h, gb_refl _ _⟩
  | v :: vs, xs, w, j, h => by
    have h1 := h.stored j v
    have h2 := own_setCells vs _ _ (j + 1) h1.1
    exact ⟨h2.1, gb_trans h1.2 h2.2⟩
theorem own_cut {w : World} {base : Nat} {e : TypeId} {size g n cap m : Nat} {xs : List Value} (h : w.ownsRow base e size (.slice (some ⟨g, 0, none⟩) n cap) n xs) (hm : m ≤ n) : w.ownsRow base e size (.slice (some ⟨g, 0, none⟩) m cap) m (xs.take (m * size)) := by
  have hl := h.1
  have hms : m * size ≤ n * size := Nat.mul_le_mul_right size hm
  rcases h.2 with ⟨h', _⟩ | ⟨g', cap', cur, h', hb, hg, hnc, hcm, hcs, ht⟩
  · simp at h'
  · simp only [Value.slice.injEq, Option.some.injEq, Addr.mk.injEq, and_true, true_and] at h'
    obtain ⟨rfl, rfl⟩ := h'
    exact ⟨by rw [List.length_take, hl]; omega, .inr ⟨g, cap, cur, rfl, hb, hg, Nat.le_trans hm hnc, hcm, hcs, by rw [← ht, List.take_take, Nat.min_eq_left hms]⟩⟩
/-- the elements of a row of the call's own, one stored anew -/
theorem own_put {α : Type} [Inhabited α] {enc : α → List Value} {k : Nat} (hk : ∀ x, (enc x).length = k) {w : World} {base : Nat} {e : TypeId} {g n cap : Nat} {xs : List α} (h : w.ownsRow base e k (.slice (some ⟨g, 0, none⟩) n cap) n (xs.flatMap enc)) (hl : xs.length = n) {i : Nat} (hi : i < n) (y : α) :
    (w.setCells g (i * k) (enc y)).ownsRow base e k (.slice (some ⟨g, 0, none⟩) n cap) n ((xs.set i y).flatMap enc) ∧ w.grownBy (w.setCells g (i * k) (enc y)) (some g) := by
  have := own_setCells (enc y) _ w (i * k) h
  rw [setL_fm hk xs i y (by omega)] at this
  exact this
/-- cut to m elements, and what is behind cleared -/
theorem own_clear {α : Type} [Inhabited α] {enc : α → List Value} {k : Nat} (hk : ∀ x, (enc x).length = k) {w : World} {base : Nat} {e : TypeId} {g n cap : Nat} {xs : List α} (h : w.ownsRow base e k (.slice (some ⟨g, 0, none⟩) n cap) n (xs.flatMap enc)) {m : Nat} (hm : m ≤ n) (vs : List Value) :
    (w.setCells g (m * k) vs).ownsRow base e k (.slice (some ⟨g, 0, none⟩) m cap) m ((xs.take m).flatMap enc) ∧ w.grownBy (w.setCells g (m * k) vs) (some g) := by
  have h1 := own_cut h hm
  rw [fm_take hk] at h1
  have h2 := own_setCells vs _ w (m * k) h1
  rw [setL_out _ _ _ (by rw [h1.1]; exact Nat.le_refl _)] at h2
  exact h2
theorem zeroCells_len (z : Array Value) (n : Nat) : (Builtin.zeroCells z n).toList.length = n * z.size := by simp [Builtin.zeroCells]
theorem zeroCells_one {z : Array Value} (h : ∀ v ∈ z, v.oneCell' = true) (n : Nat) : ∀ v ∈ (Builtin.zeroCells z n).toList, v.oneCell' = true := by
  intro v hv
  simp only [Builtin.zeroCells, Array.toList_map, List.mem_map, Array.toList_range, List.mem_range] at hv
  obtain ⟨i, hi, rfl⟩ := hv
  have hz : 0 < z.size := by rcases Nat.eq_zero_or_pos z.size with h | h; · rw [h] at hi; simp at hi
                             · exact h
  rw [getElem!_pos z (i % z.size) (Nat.mod_lt _ hz)]
  exact h _ (Array.getElem_mem _)
/-- the builtin clear at a slice of structs that the call owns -/
theorem run_clear_own {P : Program} {α : Type} {enc : α → List Value} {k : Nat} {w : World} {base : Nat} {e : TypeId} {g n cap : Nat} {xs : List α} (h : w.ownsRow base e k (.slice (some ⟨g, 0, none⟩) n cap) n (xs.flatMap enc)) {m : Nat} (hm : m < n)
    (t ty : TypeId) (z : Value) (ht : P.underlying t = some (.slice e)) (hv : ∀ w, (zeroValue e).run P w = .ok z w) (hz : z.cells.size = k) (h1 : ∀ v ∈ z.cells, v.oneCell' = true) (c : Nat) :
    (Builtin.clear_ #[t] ty #[.slice (some ⟨g, m * k, none⟩) (n - m) c]).run P w = .ok (.tuple #[]) (w.setCells g (m * k) (Builtin.zeroCells z.cells (n - m)).toList) := by
  have hb : m * k + (n - m) * k = n * k := by rw [← Nat.add_mul]; congr 1; omega
  have hl := h.1
  have hst := run_storeCells_cells (P := P) g (m * k) (Builtin.zeroCells z.cells (n - m)).toList 0 w (by
    intro j hj
    rw [zeroCells_len, hz] at hj
    rw [Nat.add_zero, h.cellAt _ (by omega), List.getElem?_eq_getElem (by omega)]; rfl) (by intro j _; exact h.frozenAt _) (zeroCells_one h1 _)
  simp only [Nat.add_zero] at hst
  obtain ⟨q, hq⟩ : ∃ q, n - m = q + 1 := ⟨n - m - 1, by omega⟩
  rw [hq] at hst ⊢
  simp [Builtin.clear_, run_underlying ht, hv, hst]
end Sw
end Go.Proofs.Ytnkgmpmedkegbaa
