/- In-place work on rows of elements of k cells that a call owns; the builtin clear at structs. -/
import Derived.Test.YtdlgdmbcbenlbaaKa
import Derived.Lib.SliceRun
import Derived.Laws.OwnMore
import Derived.Test.YtdlgdmbcbenlbaaKd
import Derived.IntWalk
set_option linter.unusedVariables false
set_option linter.unusedSimpArgs false
namespace Go.Proofs.Ytdlgdmbcbenlbaa
open Go Go.RowKit Go.Sort
namespace Sw
open Mm
def setL : List Value → Nat → List Value → List Value
  | xs, _, [] => xs
  | xs, j, v :: vs => setL (xs.set j v) (j + 1) vs
theorem setL_len : ∀ (vs xs : List Value) (j : Nat), (setL xs j vs).length = xs.length
  | [], _, _ => rfl
  | v :: vs, xs, j => by rw [setL, setL_len vs]; simp
theorem setL_get : ∀ (vs xs : List Value) (j t : Nat), (setL xs j vs)[t]? = if j ≤ t ∧ t < j + vs.length ∧ t < xs.length then vs[t - j]? else xs[t]?
  | [], xs, j, t => by rw [setL, if_neg (by simp; omega)]
  | v :: vs, xs, j, t => by
    rw [setL, setL_get vs, List.length_set]
    by_cases c1 : t = j
    · subst c1
      rw [if_neg (by omega)]
      by_cases c2 : t < xs.length
      · rw [if_pos ⟨Nat.le_refl _, by simp, c2⟩, List.getElem?_set, if_pos rfl, if_pos c2, Nat.sub_self]; rfl
      · rw [if_neg (by omega), List.getElem?_set, if_pos rfl, if_neg c2, List.getElem?_eq_none (by omega)]
    · by_cases c2 : j + 1 ≤ t ∧ t < j + 1 + vs.length ∧ t < xs.length
      · rw [if_pos c2, if_pos ⟨by omega, by simp; omega, c2.2.2⟩, show t - j = (t - (j + 1)) + 1 by omega, List.getElem?_cons_succ]
      · rw [if_neg c2, if_neg (by simp at c2 ⊢; omega), List.getElem?_set, if_neg (Ne.symm c1)]
theorem setL_out : ∀ (vs xs : List Value) (j : Nat), xs.length ≤ j → setL xs j vs = xs
  | [], _, _, _ => rfl
  | v :: vs, xs, j, h => by rw [setL, List.set_eq_of_length_le h, setL_out vs xs (j + 1) (by omega)]
section
variable {α : Type} [Inhabited α] {enc : α → List Value} {k : Nat}
theorem setL_fm (hk : ∀ x, (enc x).length = k) (xs : List α) (i : Nat) (y : α) (hi : i < xs.length) : setL (xs.flatMap enc) (i * k) (enc y) = (xs.set i y).flatMap enc := by
  apply List.ext_getElem?
  intro t
  rw [setL_get, hk, Sk.fm_len enc k hk]
  by_cases ht : t < xs.length * k
  · have k0 : 0 < k := by rcases Nat.eq_zero_or_pos k with h | h; · subst h; simp at ht
                          · exact h
    have h1 : t / k < xs.length := by rw [Nat.div_lt_iff_lt_mul k0]; exact ht
    have h2 : t % k < k := Nat.mod_lt _ k0
    have e1 : t / k * k + t % k = t := by rw [Nat.mul_comm, Nat.div_add_mod]
    have r := Sk.fm_get enc k hk (xs.set i y) (t / k) (t % k) (by simpa using h1) h2
    have r0 := Sk.fm_get enc k hk xs (t / k) (t % k) h1 h2
    rw [e1] at r r0
    rw [r]
    by_cases c : t / k = i
    · have c1 : i * k ≤ t := by rw [← c]; omega
      have c2 : t < i * k + k := by rw [← c]; omega
      have c3 : t - i * k = t % k := by rw [← c]; omega
      rw [if_pos ⟨c1, c2, ht⟩, c3, c]
      congr 2
      rw [List.getD_eq_getElem?_getD, List.getElem?_set, if_pos rfl, if_pos hi]; rfl
    · have c1 : ¬ (i * k ≤ t ∧ t < i * k + k ∧ t < xs.length * k) := by
        rintro ⟨h3, h4, _⟩
        apply c
        rw [Nat.div_eq_iff k0]
        constructor
        · exact h3
        · omega
      rw [if_neg c1, r0]
      congr 2
      rw [List.getD_eq_getElem?_getD, List.getD_eq_getElem?_getD, List.getElem?_set, if_neg (Ne.symm c)]
  · rw [if_neg (fun h => ht h.2.2), List.getElem?_eq_none (by rw [Sk.fm_len enc k hk]; omega), List.getElem?_eq_none (by rw [Sk.fm_len enc k hk, List.length_set]; omega)]
omit [Inhabited α] in
theorem fm_take (hk : ∀ x, (enc x).length = k) (xs : List α) (m : Nat) : (xs.flatMap enc).take (m * k) = (xs.take m).flatMap enc := by
  induction xs generalizing m with
  | nil => simp
  | cons x xs ih =>
    cases m with
    | zero => simp
    | succ m =>
      rw [List.flatMap_cons, List.take_succ_cons, List.flatMap_cons, ← ih m]
      rw [show (m + 1) * k = (enc x).length + m * k by rw [hk, Nat.add_mul]; omega, List.take_length_add_append]
end
theorem gb_trans {a b c : World} {r : Option Nat} (h1 : a.grownBy b r) (h2 : b.grownBy c r) : a.grownBy c r :=
  ⟨h2.os.trans h1.os, h2.tape.trans h1.tape, h2.output.trans h1.output, Nat.le_trans h1.size h2.size, fun i hi hr => (h2.block i (Nat.lt_of_lt_of_le hi h1.size) hr).trans (h1.block i hi hr)⟩
theorem gb_refl (w : World) (r : Option Nat) : w.grownBy w r := ⟨rfl, rfl, rfl, Nat.le_refl _, fun _ _ _ => rfl⟩
theorem gb_below {a w : World} {r : Option Nat} (h : Below a.heap.size a w) : a.grownBy w r := ⟨h.os, h.tape, h.output, h.size, fun i hi _ => h.block i hi⟩
theorem own_setCells {base : Nat} {e : TypeId} {size g n cap : Nat} : ∀ (vs xs : List Value) (w : World) (j : Nat), w.ownsRow base e size (.slice (some ⟨g, 0, none⟩) n cap) n xs → (w.setCells g j vs).ownsRow base e size (.slice (some ⟨g, 0, none⟩) n cap) n (setL xs j vs) ∧ w.grownBy (w.setCells g j vs) (some g)
  | [], _, _, _, h => ⟨h, gb_refl _ _⟩
  | v :: vs, xs, w, j, h => by
    have h1 := h.stored j v
    have h2 := own_setCells vs _ _ (j + 1) h1.1
    exact ⟨h2.1, gb_trans h1.2 h2.2⟩
theorem own_cut {w : World} {base : Nat} {e : TypeId} {size g n cap m : Nat} {xs : List Value} (h : w.ownsRow base e size (.slice (some ⟨g, 0, none⟩) n cap) n xs) (hm : m ≤ n) : w.ownsRow base e size (.slice (some ⟨g, 0, none⟩) m cap) m (xs.take (m * size)) := by
  have hl := h.1
  have hms : m * size ≤ n * size := Nat.mul_le_mul_right size hm
  rcases h.2 with ⟨h', _⟩ | ⟨g', cap', cur, h', hb, hg, hnc, hcm, hcs, ht⟩
  · simp at h'
  · simp only [Value.slice.injEq, Option.some.injEq, Addr.mk.injEq, and_true, true_and] at h'
    obtain ⟨rfl, rfl⟩ := h'
    exact ⟨by rw [List.length_take, hl]; omega, .inr ⟨g, cap, cur, rfl, hb, hg, Nat.le_trans hm hnc, hcm, hcs, by rw [← ht, List.take_take, Nat.min_eq_left hms]⟩⟩
/-- the elements of a row of the call's own, one stored anew -/
theorem own_put {α : Type} [Inhabited α] {enc : α → List Value} {k : Nat} (hk : ∀ x, (enc x).length = k) {w : World} {base : Nat} {e : TypeId} {g n cap : Nat} {xs : List α} (h : w.ownsRow base e k (.slice (some ⟨g, 0, none⟩) n cap) n (xs.flatMap enc)) (hl : xs.length = n) {i : Nat} (hi : i < n) (y : α) :
    (w.setCells g (i * k) (enc y)).ownsRow base e k (.slice (some ⟨g, 0, none⟩) n cap) n ((xs.set i y).flatMap enc) ∧ w.grownBy (w.setCells g (i * k) (enc y)) (some g) := by
  have := own_setCells (enc y) _ w (i * k) h
  rw [setL_fm hk xs i y (by omega)] at this
  exact this
/-- cut to m elements, and what is behind cleared -/
theorem own_clear {α : Type} [Inhabited α] {enc : α → List Value} {k : Nat} (hk : ∀ x, (enc x).length = k) {w : World} {base : Nat} {e : TypeId} {g n cap : Nat} {xs : List α} (h : w.ownsRow base e k (.slice (some ⟨g, 0, none⟩) n cap) n (xs.flatMap enc)) {m : Nat} (hm : m ≤ n) (vs : List Value) :
    (w.setCells g (m * k) vs).ownsRow base e k (.slice (some ⟨g, 0, none⟩) m cap) m ((xs.take m).flatMap enc) ∧ w.grownBy (w.setCells g (m * k) vs) (some g) := by
  have h1 := own_cut h hm
  rw [fm_take hk] at h1
  have h2 := own_setCells vs _ w (m * k) h1
  rw [setL_out _ _ _ (by rw [h1.1]; exact Nat.le_refl _)] at h2
  exact h2
theorem zeroCells_len (z : Array Value) (n : Nat) : (Builtin.zeroCells z n).toList.length = n * z.size := by simp [Builtin.zeroCells]
theorem zeroCells_one {z : Array Value} (h : ∀ v ∈ z, v.oneCell' = true) (n : Nat) : ∀ v ∈ (Builtin.zeroCells z n).toList, v.oneCell' = true := by
  intro v hv
  simp only [Builtin.zeroCells, Array.toList_map, List.mem_map, Array.toList_range, List.mem_range] at hv
  obtain ⟨i, hi, rfl⟩ := hv
  have hz : 0 < z.size := by rcases Nat.eq_zero_or_pos z.size with h | h; · rw [h] at hi; simp at hi
                             · exact h
  rw [getElem!_pos z (i % z.size) (Nat.mod_lt _ hz)]
  exact h _ (Array.getElem_mem _)
/-- the builtin clear at a slice of structs that the call owns -/
theorem run_clear_own {P : Program} {α : Type} {enc : α → List Value} {k : Nat} {w : World} {base : Nat} {e : TypeId} {g n cap : Nat} {xs : List α} (h : w.ownsRow base e k (.slice (some ⟨g, 0, none⟩) n cap) n (xs.flatMap enc)) {m : Nat} (hm : m < n)
    (t ty : TypeId) (z : Value) (ht : P.underlying t = some (.slice e)) (hv : ∀ w, (zeroValue e).run P w = .ok z w) (hz : z.cells.size = k) (h1 : ∀ v ∈ z.cells, v.oneCell' = true) (c : Nat) :
    (Builtin.clear_ #[t] ty #[.slice (some ⟨g, m * k, none⟩) (n - m) c]).run P w = .ok (.tuple #[]) (w.setCells g (m * k) (Builtin.zeroCells z.cells (n - m)).toList) := by
  have hb : m * k + (n - m) * k = n * k := by rw [← Nat.add_mul]; congr 1; omega
  have hl := h.1
  have hst := run_storeCells_cells (P := P) g (m * k) (Builtin.zeroCells z.cells (n - m)).toList 0 w (by
    intro j hj
    rw [zeroCells_len, hz] at hj
    rw [Nat.add_zero, h.cellAt _ (by omega), List.getElem?_eq_getElem (by omega)]; rfl) (by intro j _; exact h.frozenAt _) (zeroCells_one h1 _)
  simp only [Nat.add_zero] at hst
  obtain ⟨q, hq⟩ : ∃ q, n - m = q + 1 := ⟨n - m - 1, by omega⟩
  rw [hq] at hst ⊢
  simp [Builtin.clear_, run_underlying ht, hv, hst]
end Sw
end Go.Proofs.Ytdlgdmbcbenlbaa
namespace Go.Proofs.Ytdlgdmbcbenlbaa
open Go Go.RowKit Go.Sort
namespace Sw
open Mm
def IdxFHit {α : Type} [Inhabited α] (p : α → Bool) (xs : List α) (n k : Nat) : Prop := k < n ∧ p (xs.getD k default) = true ∧ ∀ j, j < k → p (xs.getD j default) = false
/-- what IndexFunc returns -/
def IdxF {α : Type} [Inhabited α] (p : α → Bool) (xs : List α) (i : Int) : Prop := (∃ k : Nat, i = k ∧ IdxFHit p xs xs.length k) ∨ (i = -1 ∧ ∀ j, j < xs.length → p (xs.getD j default) = false)
def IdxFPost {α : Type} [Inhabited α] (p : α → Bool) (xs : List α) (w : World) (e : Ending) (w' : World) : Prop := ∃ i : Int, e = .returned (.int .i64 i) ∧ IdxF p xs i ∧ Below w.heap.size w w'
theorem idxF_any {α : Type} [Inhabited α] {p : α → Bool} {xs : List α} {i : Int} (h : IdxF p xs i) : decide (0 ≤ i) = xs.any p := by
  rcases h with ⟨k, rfl, h1, h2, _⟩ | ⟨rfl, h⟩
  · have : xs.any p = true := by
      rw [List.any_eq_true]
      refine ⟨xs.getD k default, ?_, h2⟩
      rw [List.getD_eq_getElem?_getD, List.getElem?_eq_getElem h1]; exact List.getElem_mem h1
    rw [this]; simp
  · have : xs.any p = false := by
      rw [List.any_eq_false]
      intro x hx
      obtain ⟨q, hq, rfl⟩ := List.mem_iff_getElem.1 hx
      have := h q hq
      rw [List.getD_eq_getElem?_getD, List.getElem?_eq_getElem hq] at this
      simpa using this
    rw [this]; rfl
def DelPost {α : Type} [Inhabited α] (enc : α → List Value) (T : TypeId) (k : Nat) (p : α → Bool) (A : Option Addr) (n c base : Nat) (xs : List α) (w : World) (e : Ending) (w' : World) : Prop :=
  ∃ m, e = .returned (.slice A m c) ∧ m = (xs.filter fun x => !p x).length ∧ w'.ownsRow base T k (.slice A m c) m ((xs.filter fun x => !p x).flatMap enc) ∧ w.grownBy w' (Value.slice A n c).ownBlock
theorem own_len {α : Type} [Inhabited α] {enc : α → List Value} {k : Nat} (hk : ∀ x, (enc x).length = k) (k0 : 0 < k) {w : World} {base n : Nat} {T : TypeId} {v : Value} {xs : List α} (h : w.ownsRow base T k v n (xs.flatMap enc)) : xs.length = n := by
  have := h.1
  rw [Sk.fm_len enc k hk] at this
  exact Nat.eq_of_mul_eq_mul_right k0 this
theorem own_some {w : World} {base : Nat} {e : TypeId} {size g n cap : Nat} {xs : List Value} (h : w.ownsRow base e size (.slice (some ⟨g, 0, none⟩) n cap) n xs) {a : Nat} (ha : a < n * size) : ∃ v, w.cell? ⟨g, a, none⟩ = some v :=
  ⟨_, (h.cellAt a ha).trans (List.getElem?_eq_getElem (by rw [h.1]; exact ha))⟩
def delU {α : Type} (p : α → Bool) (xs : List α) (j : Nat) : List α := (xs.take j).filter fun x => !p x
theorem delU_succ {α : Type} [Inhabited α] (p : α → Bool) (xs : List α) (j : Nat) (h : j < xs.length) : delU p xs (j + 1) = delU p xs j ++ (if p (xs.getD j default) = true then [] else [xs.getD j default]) := by
  unfold delU
  rw [List.take_succ_eq_append_getElem h, List.filter_append, List.getD_eq_getElem?_getD, List.getElem?_eq_getElem h]
  cases hp : p xs[j] <;> simp [hp]
theorem delU_all {α : Type} [Inhabited α] {p : α → Bool} {xs : List α} {j : Nat} (hj : j ≤ xs.length) (h : ∀ q, q < j → p (xs.getD q default) = false) : delU p xs j = xs.take j := by
  unfold delU
  rw [List.filter_eq_self]
  intro x hx
  obtain ⟨q, hq, rfl⟩ := List.mem_iff_getElem.1 hx
  rw [List.length_take] at hq
  have := h q (by omega)
  rw [List.getD_eq_getElem?_getD, List.getElem?_eq_getElem (by omega)] at this
  simp at this
  simp [this]
theorem delU_start {α : Type} [Inhabited α] {p : α → Bool} {xs : List α} {m : Nat} (h1 : p (xs.getD m default) = true) (h2 : ∀ j, j < m → p (xs.getD j default) = false) (hm : m < xs.length) : delU p xs (m + 1) = xs.take m := by
  rw [delU_succ p xs m hm, if_pos h1, List.append_nil, delU_all (Nat.le_of_lt hm) h2]
theorem del_set {α : Type} [Inhabited α] {xs ys : List α} {m j n : Nat} (hmj : m < j) (hjn : j < n) (hl : ys.length = n) (hq : ∀ q, j ≤ q → q < n → ys.getD q default = xs.getD q default) (x : α) :
    (ys.set m x).take (m + 1) = ys.take m ++ [x] ∧ (∀ q, j + 1 ≤ q → q < n → (ys.set m x).getD q default = xs.getD q default) := by
  constructor
  · rw [List.take_succ_eq_append_getElem (by rw [List.length_set]; omega), List.take_set_of_le (Nat.le_refl _), List.getElem_set_self]
  · intro q h1 h2
    rw [← hq q (by omega) h2, List.getD_eq_getElem?_getD, List.getD_eq_getElem?_getD, List.getElem?_set, if_neg (by omega)]
set_option maxRecDepth 100000 in
set_option maxHeartbeats 4000000 in
theorem idxFnP_any (f : Nat) (cb : Array Value) (p : (Int × Int) → Bool) (A : Option Addr) (n c : Nat) (xs : List (Int × Int)) (w : World) (ef : ∀ args w, (callFunc f args).run Try.prog w = .ok (.enter f args) w) (hs : PrS w A n xs)
    (hp : ∀ x ∈ xs, ∀ W, Below w.heap.size w W → Calls Try.prog f (#[.agg #[.int .i64 x.1, .int .i64 x.2]] ++ cb) W fun e w' => e = .returned (.bool (p x)) ∧ Below W.heap.size W w') :
    Calls Try.prog 57 #[.slice A n c, .func (.func f) #[] cb] w (IdxFPost p xs w) := by
  have hlen := hs.len
  have hm := hs.small
  unfold maxLen at hm
  replace hs := Lib.hid hs
  replace hp := Lib.hid hp
  replace hlen := Lib.hid hlen
  go_enter Try.func57, Try.ntmps57
  go_wp2_with fail
  go_loopw [5, 8] (fun _ i wr => ∃ k : Nat, k ≤ n ∧ i = .int .i64 k ∧ Hid (∀ j, j < k → p (xs.getD j default) = false) ∧ Hid (Below w.heap.size w wr)) (fun _ i _ => n - (intOf i).toNat)
  case atStart => exact ⟨0, by omega, rfl, fun j hj => absurd hj (by omega), Below.refl _ _⟩
  case round =>
    obtain ⟨k, hk, rfl, HP, HB⟩ := hrel
    by_cases hlt : k < n
    · obtain ⟨b, off, rfl⟩ := hs.out.addr (by omega)
      have hx := pr_at (hs.out.keep HB.out) hlt
      have hc := hp.out _ (ok_at (P := (· ∈ xs)) (fun _ h => h) (k := k) (by rw [hlen.out]; exact hlt)) wr HB.out
      have hnx : p (xs.getD k default) = false → ∀ j, j < k + 1 → p (xs.getD j default) = false := fun h j hj => by
        by_cases e : j = k
        · subst e; exact h
        · exact HP.out j (by omega)
      have hhit : p (xs.getD k default) = true → IdxFHit p xs n k := fun h => ⟨hlt, h, HP.out⟩
      generalize xs.getD k default = x at *
      generalize p x = px at *
      obtain ⟨x0, x1⟩ := x
      obtain ⟨q0, q1⟩ := hx
      dsimp only at q0 q1 hc
      have r1 : (k : Int) < (n : Int) := by omega
      replace hc := Lib.hid hc
      replace hnx := Lib.hid hnx
      replace hhit := Lib.hid hhit
      go_wp2_with fail
      refine hc.out.mono ?_
      rintro e w2 ⟨rfl, hb_⟩
      clear q0 q1
      have HB2 := Lib.hid (bthen HB.out hb_)
      clear hb_
      cases px with
      | true =>
        have hh := Lib.hid (hhit.out rfl)
        go_wp2
        go_ret
        exact ⟨k, rfl, .inl ⟨k, rfl, hlen.out ▸ hh.out⟩, HB2.out⟩
      | false =>
        have hh := Lib.hid (hnx.out rfl)
        go_wp2
        go_roundw
        case rel => exact ⟨k + 1, by omega, by go_num, hh, HB2⟩
        case measure => simp [intOf]; omega
    · obtain rfl : k = n := by omega
      go_wp2
      go_ret
      exact ⟨-1, rfl, .inr ⟨rfl, hlen.out ▸ HP.out⟩, HB.out⟩
set_option maxRecDepth 100000 in
set_option maxHeartbeats 4000000 in
theorem ctnFnP_any (f : Nat) (cb : Array Value) (p : (Int × Int) → Bool) (A : Option Addr) (n c : Nat) (xs : List (Int × Int)) (w : World) (ef : ∀ args w, (callFunc f args).run Try.prog w = .ok (.enter f args) w) (hs : PrS w A n xs)
    (hp : ∀ x ∈ xs, ∀ W, Below w.heap.size w W → Calls Try.prog f (#[.agg #[.int .i64 x.1, .int .i64 x.2]] ++ cb) W fun e w' => e = .returned (.bool (p x)) ∧ Below W.heap.size W w') :
    Calls Try.prog 25 #[.slice A n c, .func (.func f) #[] cb] w fun e w' => e = .returned (.bool (xs.any p)) ∧ Below w.heap.size w w' := by
  have hi := idxFnP_any f cb p A n c xs w ef hs hp
  have hv : Hid (∀ (i : Int), IdxF p xs i → decide (0 ≤ i) = xs.any p) := fun i h => idxF_any h
  generalize xs.any p = R at *
  replace hs := Lib.hid hs
  replace hp := Lib.hid hp
  replace hi := Lib.hid hi
  go_enter Try.func25, Try.ntmps25
  go_wp2_with fail
  refine hi.out.mono ?_
  rintro e w2 ⟨i, rfl, hI, hb_⟩
  have hv2 := Lib.hid (hv.out i hI)
  replace hI := Lib.hid hI
  replace hb_ := Lib.hid hb_
  go_wp2
  go_ret
  exact ⟨by rw [← hv2.out]; rfl, hb_.out⟩
set_option maxRecDepth 100000 in
set_option maxHeartbeats 4000000 in
theorem idxFnD_any (f : Nat) (cb : Array Value) (p : Dut → Bool) (A : Option Addr) (n c : Nat) (xs : List Dut) (w : World) (ef : ∀ args w, (callFunc f args).run Try.prog w = .ok (.enter f args) w) (hs : DutS w A n xs)
    (hp : ∀ x ∈ xs, ∀ W, Below w.heap.size w W → Calls Try.prog f (#[.agg #[.int .i64 x.cell.slot, .int .i64 x.cell.offset, .int .i64 x.cell.frm, .int .i64 x.cell.to, .int .i64 x.cell.flow, .bool x.sends, .bool x.extra, .int .i64 x.first, .int .i64 x.til]] ++ cb) W fun e w' => e = .returned (.bool (p x)) ∧ Below W.heap.size W w') :
    Calls Try.prog 64 #[.slice A n c, .func (.func f) #[] cb] w (IdxFPost p xs w) := by
  have hlen := hs.len
  have hm := hs.small
  unfold maxLen at hm
  replace hs := Lib.hid hs
  replace hp := Lib.hid hp
  replace hlen := Lib.hid hlen
  go_enter Try.func64, Try.ntmps64
  go_wp2_with fail
  go_loopw [5, 8] (fun _ i wr => ∃ k : Nat, k ≤ n ∧ i = .int .i64 k ∧ Hid (∀ j, j < k → p (xs.getD j default) = false) ∧ Hid (Below w.heap.size w wr)) (fun _ i _ => n - (intOf i).toNat)
  case atStart => exact ⟨0, by omega, rfl, fun j hj => absurd hj (by omega), Below.refl _ _⟩
  case round =>
    obtain ⟨k, hk, rfl, HP, HB⟩ := hrel
    by_cases hlt : k < n
    · obtain ⟨b, off, rfl⟩ := hs.out.addr (by omega)
      have hx := dut_at (hs.out.keep HB.out) hlt
      have hc := hp.out _ (ok_at (P := (· ∈ xs)) (fun _ h => h) (k := k) (by rw [hlen.out]; exact hlt)) wr HB.out
      have hnx : p (xs.getD k default) = false → ∀ j, j < k + 1 → p (xs.getD j default) = false := fun h j hj => by
        by_cases e : j = k
        · subst e; exact h
        · exact HP.out j (by omega)
      have hhit : p (xs.getD k default) = true → IdxFHit p xs n k := fun h => ⟨hlt, h, HP.out⟩
      generalize xs.getD k default = x at *
      generalize p x = px at *
      obtain ⟨⟨x0, x1, x2, x3, x4⟩, x5, x6, x7, x8⟩ := x
      obtain ⟨q0, q1, q2, q3, q4, q5, q6, q7, q8⟩ := hx
      dsimp only at q0 q1 q2 q3 q4 q5 q6 q7 q8 hc
      have r1 : (k : Int) < (n : Int) := by omega
      replace hc := Lib.hid hc
      replace hnx := Lib.hid hnx
      replace hhit := Lib.hid hhit
      go_wp2_with fail
      refine hc.out.mono ?_
      rintro e w2 ⟨rfl, hb_⟩
      clear q0 q1 q2 q3 q4 q5 q6 q7 q8
      have HB2 := Lib.hid (bthen HB.out hb_)
      clear hb_
      cases px with
      | true =>
        have hh := Lib.hid (hhit.out rfl)
        go_wp2
        go_ret
        exact ⟨k, rfl, .inl ⟨k, rfl, hlen.out ▸ hh.out⟩, HB2.out⟩
      | false =>
        have hh := Lib.hid (hnx.out rfl)
        go_wp2
        go_roundw
        case rel => exact ⟨k + 1, by omega, by go_num, hh, HB2⟩
        case measure => simp [intOf]; omega
    · obtain rfl : k = n := by omega
      go_wp2
      go_ret
      exact ⟨-1, rfl, .inr ⟨rfl, hlen.out ▸ HP.out⟩, HB.out⟩
set_option maxRecDepth 100000 in
set_option maxHeartbeats 4000000 in
theorem ctnFnD_any (f : Nat) (cb : Array Value) (p : Dut → Bool) (A : Option Addr) (n c : Nat) (xs : List Dut) (w : World) (ef : ∀ args w, (callFunc f args).run Try.prog w = .ok (.enter f args) w) (hs : DutS w A n xs)
    (hp : ∀ x ∈ xs, ∀ W, Below w.heap.size w W → Calls Try.prog f (#[.agg #[.int .i64 x.cell.slot, .int .i64 x.cell.offset, .int .i64 x.cell.frm, .int .i64 x.cell.to, .int .i64 x.cell.flow, .bool x.sends, .bool x.extra, .int .i64 x.first, .int .i64 x.til]] ++ cb) W fun e w' => e = .returned (.bool (p x)) ∧ Below W.heap.size W w') :
    Calls Try.prog 55 #[.slice A n c, .func (.func f) #[] cb] w fun e w' => e = .returned (.bool (xs.any p)) ∧ Below w.heap.size w w' := by
  have hi := idxFnD_any f cb p A n c xs w ef hs hp
  have hv : Hid (∀ (i : Int), IdxF p xs i → decide (0 ≤ i) = xs.any p) := fun i h => idxF_any h
  generalize xs.any p = R at *
  replace hs := Lib.hid hs
  replace hp := Lib.hid hp
  replace hi := Lib.hid hi
  go_enter Try.func55, Try.ntmps55
  go_wp2_with fail
  refine hi.out.mono ?_
  rintro e w2 ⟨i, rfl, hI, hb_⟩
  have hv2 := Lib.hid (hv.out i hI)
  replace hI := Lib.hid hI
  replace hb_ := Lib.hid hb_
  go_wp2
  go_ret
  exact ⟨by rw [← hv2.out]; rfl, hb_.out⟩
set_option maxRecDepth 100000 in
set_option maxHeartbeats 4000000 in
theorem idxFnC_any (f : Nat) (cb : Array Value) (p : Cel → Bool) (A : Option Addr) (n c : Nat) (xs : List Cel) (w : World) (ef : ∀ args w, (callFunc f args).run Try.prog w = .ok (.enter f args) w) (hs : CelS w A n xs)
    (hp : ∀ x ∈ xs, ∀ W, Below w.heap.size w W → Calls Try.prog f (#[.agg #[.int .i64 x.slot, .int .i64 x.offset, .int .i64 x.frm, .int .i64 x.to, .int .i64 x.flow]] ++ cb) W fun e w' => e = .returned (.bool (p x)) ∧ Below W.heap.size W w') :
    Calls Try.prog 76 #[.slice A n c, .func (.func f) #[] cb] w (IdxFPost p xs w) := by
  have hlen := hs.len
  have hm := hs.small
  unfold maxLen at hm
  replace hs := Lib.hid hs
  replace hp := Lib.hid hp
  replace hlen := Lib.hid hlen
  go_enter Try.func76, Try.ntmps76
  go_wp2_with fail
  go_loopw [5, 8] (fun _ i wr => ∃ k : Nat, k ≤ n ∧ i = .int .i64 k ∧ Hid (∀ j, j < k → p (xs.getD j default) = false) ∧ Hid (Below w.heap.size w wr)) (fun _ i _ => n - (intOf i).toNat)
  case atStart => exact ⟨0, by omega, rfl, fun j hj => absurd hj (by omega), Below.refl _ _⟩
  case round =>
    obtain ⟨k, hk, rfl, HP, HB⟩ := hrel
    by_cases hlt : k < n
    · obtain ⟨b, off, rfl⟩ := hs.out.addr (by omega)
      have hx := cel_at (hs.out.keep HB.out) hlt
      have hc := hp.out _ (ok_at (P := (· ∈ xs)) (fun _ h => h) (k := k) (by rw [hlen.out]; exact hlt)) wr HB.out
      have hnx : p (xs.getD k default) = false → ∀ j, j < k + 1 → p (xs.getD j default) = false := fun h j hj => by
        by_cases e : j = k
        · subst e; exact h
        · exact HP.out j (by omega)
      have hhit : p (xs.getD k default) = true → IdxFHit p xs n k := fun h => ⟨hlt, h, HP.out⟩
      generalize xs.getD k default = x at *
      generalize p x = px at *
      obtain ⟨x0, x1, x2, x3, x4⟩ := x
      obtain ⟨q0, q1, q2, q3, q4⟩ := hx
      dsimp only at q0 q1 q2 q3 q4 hc
      have r1 : (k : Int) < (n : Int) := by omega
      replace hc := Lib.hid hc
      replace hnx := Lib.hid hnx
      replace hhit := Lib.hid hhit
      go_wp2_with fail
      refine hc.out.mono ?_
      rintro e w2 ⟨rfl, hb_⟩
      clear q0 q1 q2 q3 q4
      have HB2 := Lib.hid (bthen HB.out hb_)
      clear hb_
      cases px with
      | true =>
        have hh := Lib.hid (hhit.out rfl)
        go_wp2
        go_ret
        exact ⟨k, rfl, .inl ⟨k, rfl, hlen.out ▸ hh.out⟩, HB2.out⟩
      | false =>
        have hh := Lib.hid (hnx.out rfl)
        go_wp2
        go_roundw
        case rel => exact ⟨k + 1, by omega, by go_num, hh, HB2⟩
        case measure => simp [intOf]; omega
    · obtain rfl : k = n := by omega
      go_wp2
      go_ret
      exact ⟨-1, rfl, .inr ⟨rfl, hlen.out ▸ HP.out⟩, HB.out⟩
end Sw
end Go.Proofs.Ytdlgdmbcbenlbaa
namespace Go.Proofs.Ytdlgdmbcbenlbaa
open Go Go.RowKit Go.Sort
namespace Sw
open Mm
set_option maxRecDepth 100000 in
set_option maxHeartbeats 4000000 in
theorem delFnC_any (f : Nat) (cb : Array Value) (p : Cel → Bool) (A : Option Addr) (n c base : Nat) (xs : List Cel) (w : World) (ef : ∀ args w, (callFunc f args).run Try.prog w = .ok (.enter f args) w)
    (ho : w.ownsRow base 34 5 (.slice A n c) n (xs.flatMap celE)) (hn : n ≤ 1000000)
    (hp : ∀ x ∈ xs, ∀ W, w.grownBy W (Value.slice A n c).ownBlock → Calls Try.prog f (#[.agg #[.int .i64 x.slot, .int .i64 x.offset, .int .i64 x.frm, .int .i64 x.to, .int .i64 x.flow]] ++ cb) W fun e w' => e = .returned (.bool (p x)) ∧ Below W.heap.size W w') :
    Calls Try.prog 59 #[.slice A n c, .func (.func f) #[] cb] w (DelPost celE 34 5 p A n c base xs w) := by
  have hl : xs.length = n := own_len celE_len (by decide) ho
  have hs := (Sls.of_owns celE_len ho hl).2
  have hi := idxFnC_any f cb p A n c xs w ef hs (fun x hx W hb => hp x hx W (gb_below hb))
  replace hs := Lib.hid hs
  replace hi := Lib.hid hi
  replace hl := Lib.hid hl
  rcases ho.2 with ⟨hv, h0⟩ | ⟨g, cap, cur, hv, hbase, hg, r1, r2, r3, r4⟩
  · injection hv with hA _ hc
    subst hA hc h0
    have hx : xs = [] := List.length_eq_zero_iff.1 hl.out
    subst hx
    have hF : Hid (∀ w', Below w.heap.size w w' → DelPost celE 34 5 p none 0 0 base [] w (.returned (.slice none 0 0)) w') := fun w' hb => ⟨0, rfl, rfl, owns_keep ho hb, gb_below hb⟩
    clear ho hp hn
    go_enter Try.func59, Try.ntmps59
    go_wp2_with fail
    refine hi.out.mono ?_
    rintro e w2 ⟨i, rfl, hI, hb_⟩
    obtain rfl : i = -1 := by
      rcases hI with ⟨_, _, h, _⟩ | ⟨h, _⟩
      · exact absurd h (by simp)
      · exact h
    replace hI := Lib.hid hI
    replace hb_ := Lib.hid hb_
    go_wp2
    go_ret
    exact hF.out _ hb_.out
  · injection hv with hA _ hc
    subst hA hc
    clear hg r3 r4
    replace ho := Lib.hid ho
    replace hp := Lib.hid hp
    go_enter Try.func59, Try.ntmps59
    go_wp2_with fail
    refine hi.out.mono ?_
    rintro e w1 ⟨i, rfl, hI, hb_⟩
    have HB1 := Lib.hid (gb_below (r := some g) hb_)
    have HO1 := Lib.hid (owns_keep ho.out hb_)
    clear hb_
    rcases hI with ⟨m0, rfl, hm1, hm2, hm3⟩ | ⟨rfl, hno⟩
    · rw [hl.out] at hm1
      have HD : Hid (delU p xs (m0 + 1) = xs.take m0) := delU_start hm2 hm3 (by rw [hl.out]; exact hm1)
      replace hm2 := Lib.hid hm2
      replace hm3 := Lib.hid hm3
      have r5 : ((m0 : Int) == -1) = false := by rw [beq_eq_false_iff_ne]; omega
      go_wp2_with fail
      go_loopw [5, 6] (fun vi vj wr => ∃ (m j : Nat) (ys : List Cel), m < j ∧ j ≤ n ∧ vi = .int .i64 m ∧ vj = .int .i64 j ∧ Hid (ys.length = n) ∧ Hid (delU p xs j = ys.take m) ∧ Hid (∀ q, j ≤ q → q < n → ys.getD q default = xs.getD q default) ∧ Hid (wr.ownsRow base 34 5 (.slice (some ⟨g, 0, none⟩) n c) n (ys.flatMap celE)) ∧ Hid (w.grownBy wr (some g))) (fun _ vj _ => n - (intOf vj).toNat)
      case atStart => exact ⟨m0, m0 + 1, xs, by omega, by omega, rfl, by go_num, hl, HD, fun _ _ _ => rfl, HO1, HB1⟩
      case round =>
        clear HO1 HB1 HD
        obtain ⟨m, j, ys, hmj, hjn, rfl, rfl, HL, HD, HQ, HO, HG⟩ := hrel
        by_cases hlt : j < n
        · have hx := cel_at (Sls.of_owns celE_len HO.out HL.out).2 hlt
          have hq := HQ.out j (Nat.le_refl _) hlt
          have hds := delU_succ p xs j (by rw [hl.out]; exact hlt)
          rw [hq, Nat.zero_add] at hx
          have hmem := ok_at (P := (· ∈ xs)) (fun _ h => h) (k := j) (by rw [hl.out]; exact hlt)
          have hc := fun W (hW : w.grownBy W (some g)) => hp.out _ hmem W hW
          generalize xs.getD j default = x at *
          have hput := fun (W : World) (h : W.ownsRow base 34 5 (.slice (some ⟨g, 0, none⟩) n c) n (ys.flatMap celE)) => own_put celE_len h HL.out (show m < n by omega) x
          generalize p x = px at *
          have hset : Hid ((ys.set m x).take (m + 1) = ys.take m ++ [x] ∧ (∀ q, j + 1 ≤ q → q < n → (ys.set m x).getD q default = xs.getD q default)) := del_set hmj hlt HL.out HQ.out x
          generalize hz : ys.set m x = zs at *
          have hzl : Hid (zs.length = n) := by show _ = _; rw [← hz, List.length_set]; exact HL.out
          obtain ⟨x0, x1, x2, x3, x4⟩ := x
          obtain ⟨q0, q1, q2, q3, q4⟩ := hx
          dsimp only at q0 q1 q2 q3 q4 hc hput
          have hbx := ballN (Below.refl wr.heap.size wr) (.cells #[.int .i64 x0, .int .i64 x1, .int .i64 x2, .int .i64 x3, .int .i64 x4] 34)
          have BX := Box.new wr #[.int .i64 x0, .int .i64 x1, .int .i64 x2, .int .i64 x3, .int .i64 x4] 34
          have hc2 := hc (wr.alloc (.cells #[.int .i64 x0, .int .i64 x1, .int .i64 x2, .int .i64 x3, .int .i64 x4] 34)) (gb_trans HG.out (gb_below hbx))
          have HO2 := Lib.hid (owns_keep HO.out hbx)
          have HG2 := Lib.hid (gb_trans HG.out (gb_below (r := some g) hbx))
          have r6 : (j : Int) < (n : Int) := by omega
          have kx := BX.at_
          replace hq := Lib.hid hq
          replace hds := Lib.hid hds
          replace hz := Lib.hid hz
          replace hmem := Lib.hid hmem
          replace hc := Lib.hid hc
          replace hput := Lib.hid hput
          replace hc2 := Lib.hid hc2
          replace hbx := Lib.hid hbx
          replace BX := Lib.hid BX
          go_wp2_with fail
          refine hc2.out.mono ?_
          rintro e wr2 ⟨rfl, hb_⟩
          clear q0 q1 q2 q3 q4 kx
          have HO3 := Lib.hid (owns_keep HO2.out hb_)
          have HG3 := Lib.hid (gb_trans HG2.out (gb_below (r := some g) hb_))
          have kx := (BX.out.keep hb_).at_
          clear hb_ HO2 HG2 HO HG
          cases px with
          | true =>
            have HD2 : Hid (delU p xs (j + 1) = ys.take m) := by show _ = _; rw [hds.out, HD.out]; simp
            have HQ2 : Hid (∀ q, j + 1 ≤ q → q < n → ys.getD q default = xs.getD q default) := fun q h1 h2 => HQ.out q (by omega) h2
            go_wp2
            go_roundw
            case rel => exact ⟨m, j + 1, ys, by omega, by omega, rfl, by go_num, HL, HD2, HQ2, HO3, HG3⟩
            case measure => simp [intOf]; omega
          | false =>
            have HP := hput.out wr2 HO3.out
            have HO4 : Hid ((((((wr2.setCell ⟨g, m * 5, none⟩ (.int .i64 x0)).setCell ⟨g, m * 5 + 1, none⟩ (.int .i64 x1)).setCell ⟨g, m * 5 + 2, none⟩ (.int .i64 x2)).setCell ⟨g, m * 5 + 3, none⟩ (.int .i64 x3)).setCell ⟨g, m * 5 + 4, none⟩ (.int .i64 x4)).ownsRow base 34 5 (.slice (some ⟨g, 0, none⟩) n c) n (zs.flatMap celE)) := HP.1
            have HG4 : Hid (w.grownBy (((((wr2.setCell ⟨g, m * 5, none⟩ (.int .i64 x0)).setCell ⟨g, m * 5 + 1, none⟩ (.int .i64 x1)).setCell ⟨g, m * 5 + 2, none⟩ (.int .i64 x2)).setCell ⟨g, m * 5 + 3, none⟩ (.int .i64 x3)).setCell ⟨g, m * 5 + 4, none⟩ (.int .i64 x4)) (some g)) := gb_trans HG3.out HP.2
            have HD2 : Hid (delU p xs (j + 1) = zs.take (m + 1)) := by show _ = _; rw [hds.out, HD.out, hset.out.1]; simp
            have HQ2 := Lib.hid hset.out.2
            have hf := fun q => HO3.out.frozenAt q
            obtain ⟨v0, s0⟩ := own_some HO3.out (a := m * 5) (by omega)
            obtain ⟨v1, s1⟩ := own_some HO3.out (a := m * 5 + 1) (by omega)
            obtain ⟨v2, s2⟩ := own_some HO3.out (a := m * 5 + 2) (by omega)
            obtain ⟨v3, s3⟩ := own_some HO3.out (a := m * 5 + 3) (by omega)
            obtain ⟨v4, s4⟩ := own_some HO3.out (a := m * 5 + 4) (by omega)
            clear HP
            have r7 : (m : Int) < (n : Int) := by omega
            go_wp2
            go_roundw
            case rel => exact ⟨m + 1, j + 1, zs, by omega, by omega, by go_num, by go_num, hzl, HD2, HQ2, HO4, HG4⟩
            case measure => simp [intOf]; omega
        · obtain rfl : j = n := by omega
          have hcl := fun ty c => run_clear_own (P := Try.prog) HO.out hmj 22 ty _ Try.underlying22 Try.zeroValue34 rfl (by simp [Value.cells, Value.oneCell']) c
          have hoc := own_clear celE_len HO.out (Nat.le_of_lt hmj) (Builtin.zeroCells (Value.agg #[.int .i64 0, .int .i64 0, .int .i64 0, .int .i64 0, .int .i64 0]).cells (j - m)).toList
          generalize hww : wr.setCells g (m * 5) (Builtin.zeroCells (Value.agg #[.int .i64 0, .int .i64 0, .int .i64 0, .int .i64 0, .int .i64 0]).cells (j - m)).toList = wz at *
          have HD2 : Hid (DelPost celE 34 5 p (some ⟨g, 0, none⟩) j c base xs w (.returned (.slice (some ⟨g, 0, none⟩) m c)) wz) := by
            have e1 : xs.filter (fun x => !p x) = ys.take m := by
              rw [← HD.out]; unfold delU; rw [List.take_of_length_le (by rw [hl.out]; exact Nat.le_refl _)]
            refine ⟨m, rfl, by rw [e1, List.length_take, HL.out]; omega, by rw [e1]; exact hoc.1, gb_trans HG.out hoc.2⟩
          have r7 : (m : Int) ≤ (j : Int) := by omega
          have r8 : ((j : Int) - (m : Int)).toNat = j - m := by omega
          replace hww := Lib.hid hww
          replace hoc := Lib.hid hoc
          go_wp2
          go_ret
          exact HD2.out
    · have hF : Hid (DelPost celE 34 5 p (some ⟨g, 0, none⟩) n c base xs w (.returned (.slice (some ⟨g, 0, none⟩) n c)) w1) := by
        have e1 : xs.filter (fun x => !p x) = xs := by
          rw [List.filter_eq_self]
          intro x hx
          obtain ⟨q, hq, rfl⟩ := List.mem_iff_getElem.1 hx
          have := hno q hq
          rw [List.getD_eq_getElem?_getD, List.getElem?_eq_getElem hq] at this
          simp at this
          simp [this]
        exact ⟨n, rfl, by rw [e1, hl.out], by rw [e1]; exact HO1.out, HB1.out⟩
      replace hno := Lib.hid hno
      go_wp2
      go_ret
      exact hF.out
end Sw
end Go.Proofs.Ytdlgdmbcbenlbaa
namespace Go.Proofs.Ytdlgdmbcbenlbaa
open Go Go.RowKit Go.Sort
namespace Sw
open Mm
set_option maxRecDepth 100000 in
set_option maxHeartbeats 4000000 in
theorem delFnD_any (f : Nat) (cb : Array Value) (p : Dut → Bool) (A : Option Addr) (n c base : Nat) (xs : List Dut) (w : World) (ef : ∀ args w, (callFunc f args).run Try.prog w = .ok (.enter f args) w)
    (ho : w.ownsRow base 45 9 (.slice A n c) n (xs.flatMap dutE)) (hn : n ≤ 1000000)
    (hp : ∀ x ∈ xs, ∀ W, w.grownBy W (Value.slice A n c).ownBlock → Calls Try.prog f (#[.agg #[.int .i64 x.cell.slot, .int .i64 x.cell.offset, .int .i64 x.cell.frm, .int .i64 x.cell.to, .int .i64 x.cell.flow, .bool x.sends, .bool x.extra, .int .i64 x.first, .int .i64 x.til]] ++ cb) W fun e w' => e = .returned (.bool (p x)) ∧ Below W.heap.size W w') :
    Calls Try.prog 30 #[.slice A n c, .func (.func f) #[] cb] w (DelPost dutE 45 9 p A n c base xs w) := by
  have hl : xs.length = n := own_len dutE_len (by decide) ho
  have hs := (Sls.of_owns dutE_len ho hl).2
  have hi := idxFnD_any f cb p A n c xs w ef hs (fun x hx W hb => hp x hx W (gb_below hb))
  replace hs := Lib.hid hs
  replace hi := Lib.hid hi
  replace hl := Lib.hid hl
  rcases ho.2 with ⟨hv, h0⟩ | ⟨g, cap, cur, hv, hbase, hg, r1, r2, r3, r4⟩
  · injection hv with hA _ hc
    subst hA hc h0
    have hx : xs = [] := List.length_eq_zero_iff.1 hl.out
    subst hx
    have hF : Hid (∀ w', Below w.heap.size w w' → DelPost dutE 45 9 p none 0 0 base [] w (.returned (.slice none 0 0)) w') := fun w' hb => ⟨0, rfl, rfl, owns_keep ho hb, gb_below hb⟩
    clear ho hp hn
    go_enter Try.func30, Try.ntmps30
    go_wp2_with fail
    refine hi.out.mono ?_
    rintro e w2 ⟨i, rfl, hI, hb_⟩
    obtain rfl : i = -1 := by
      rcases hI with ⟨_, _, h, _⟩ | ⟨h, _⟩
      · exact absurd h (by simp)
      · exact h
    replace hI := Lib.hid hI
    replace hb_ := Lib.hid hb_
    go_wp2
    go_ret
    exact hF.out _ hb_.out
  · injection hv with hA _ hc
    subst hA hc
    clear hg r3 r4
    replace ho := Lib.hid ho
    replace hp := Lib.hid hp
    go_enter Try.func30, Try.ntmps30
    go_wp2_with fail
    refine hi.out.mono ?_
    rintro e w1 ⟨i, rfl, hI, hb_⟩
    have HB1 := Lib.hid (gb_below (r := some g) hb_)
    have HO1 := Lib.hid (owns_keep ho.out hb_)
    clear hb_
    rcases hI with ⟨m0, rfl, hm1, hm2, hm3⟩ | ⟨rfl, hno⟩
    · rw [hl.out] at hm1
      have HD : Hid (delU p xs (m0 + 1) = xs.take m0) := delU_start hm2 hm3 (by rw [hl.out]; exact hm1)
      replace hm2 := Lib.hid hm2
      replace hm3 := Lib.hid hm3
      have r5 : ((m0 : Int) == -1) = false := by rw [beq_eq_false_iff_ne]; omega
      go_wp2_with fail
      go_loopw [5, 6] (fun vi vj wr => ∃ (m j : Nat) (ys : List Dut), m < j ∧ j ≤ n ∧ vi = .int .i64 m ∧ vj = .int .i64 j ∧ Hid (ys.length = n) ∧ Hid (delU p xs j = ys.take m) ∧ Hid (∀ q, j ≤ q → q < n → ys.getD q default = xs.getD q default) ∧ Hid (wr.ownsRow base 45 9 (.slice (some ⟨g, 0, none⟩) n c) n (ys.flatMap dutE)) ∧ Hid (w.grownBy wr (some g))) (fun _ vj _ => n - (intOf vj).toNat)
      case atStart => exact ⟨m0, m0 + 1, xs, by omega, by omega, rfl, by go_num, hl, HD, fun _ _ _ => rfl, HO1, HB1⟩
      case round =>
        clear HO1 HB1 HD
        obtain ⟨m, j, ys, hmj, hjn, rfl, rfl, HL, HD, HQ, HO, HG⟩ := hrel
        by_cases hlt : j < n
        · have hx := dut_at (Sls.of_owns dutE_len HO.out HL.out).2 hlt
          have hq := HQ.out j (Nat.le_refl _) hlt
          have hds := delU_succ p xs j (by rw [hl.out]; exact hlt)
          rw [hq, Nat.zero_add] at hx
          have hmem := ok_at (P := (· ∈ xs)) (fun _ h => h) (k := j) (by rw [hl.out]; exact hlt)
          have hc := fun W (hW : w.grownBy W (some g)) => hp.out _ hmem W hW
          generalize xs.getD j default = x at *
          have hput := fun (W : World) (h : W.ownsRow base 45 9 (.slice (some ⟨g, 0, none⟩) n c) n (ys.flatMap dutE)) => own_put dutE_len h HL.out (show m < n by omega) x
          generalize p x = px at *
          have hset : Hid ((ys.set m x).take (m + 1) = ys.take m ++ [x] ∧ (∀ q, j + 1 ≤ q → q < n → (ys.set m x).getD q default = xs.getD q default)) := del_set hmj hlt HL.out HQ.out x
          generalize hz : ys.set m x = zs at *
          have hzl : Hid (zs.length = n) := by show _ = _; rw [← hz, List.length_set]; exact HL.out
          obtain ⟨⟨x0, x1, x2, x3, x4⟩, x5, x6, x7, x8⟩ := x
          obtain ⟨q0, q1, q2, q3, q4, q5, q6, q7, q8⟩ := hx
          dsimp only at q0 q1 q2 q3 q4 q5 q6 q7 q8 hc hput
          have hbx := ballN (Below.refl wr.heap.size wr) (.cells #[.int .i64 x0, .int .i64 x1, .int .i64 x2, .int .i64 x3, .int .i64 x4, .bool x5, .bool x6, .int .i64 x7, .int .i64 x8] 45)
          have BX := Box.new wr #[.int .i64 x0, .int .i64 x1, .int .i64 x2, .int .i64 x3, .int .i64 x4, .bool x5, .bool x6, .int .i64 x7, .int .i64 x8] 45
          have hc2 := hc (wr.alloc (.cells #[.int .i64 x0, .int .i64 x1, .int .i64 x2, .int .i64 x3, .int .i64 x4, .bool x5, .bool x6, .int .i64 x7, .int .i64 x8] 45)) (gb_trans HG.out (gb_below hbx))
          have HO2 := Lib.hid (owns_keep HO.out hbx)
          have HG2 := Lib.hid (gb_trans HG.out (gb_below (r := some g) hbx))
          have r6 : (j : Int) < (n : Int) := by omega
          have kx := BX.at_
          replace hq := Lib.hid hq
          replace hds := Lib.hid hds
          replace hz := Lib.hid hz
          replace hmem := Lib.hid hmem
          replace hc := Lib.hid hc
          replace hput := Lib.hid hput
          replace hc2 := Lib.hid hc2
          replace hbx := Lib.hid hbx
          replace BX := Lib.hid BX
          go_wp2_with fail
          refine hc2.out.mono ?_
          rintro e wr2 ⟨rfl, hb_⟩
          clear q0 q1 q2 q3 q4 q5 q6 q7 q8 kx
          have HO3 := Lib.hid (owns_keep HO2.out hb_)
          have HG3 := Lib.hid (gb_trans HG2.out (gb_below (r := some g) hb_))
          have kx := (BX.out.keep hb_).at_
          clear hb_ HO2 HG2 HO HG
          cases px with
          | true =>
            have HD2 : Hid (delU p xs (j + 1) = ys.take m) := by show _ = _; rw [hds.out, HD.out]; simp
            have HQ2 : Hid (∀ q, j + 1 ≤ q → q < n → ys.getD q default = xs.getD q default) := fun q h1 h2 => HQ.out q (by omega) h2
            go_wp2
            go_roundw
            case rel => exact ⟨m, j + 1, ys, by omega, by omega, rfl, by go_num, HL, HD2, HQ2, HO3, HG3⟩
            case measure => simp [intOf]; omega
          | false =>
            have HP := hput.out wr2 HO3.out
            have HO4 : Hid ((((((((((wr2.setCell ⟨g, m * 9, none⟩ (.int .i64 x0)).setCell ⟨g, m * 9 + 1, none⟩ (.int .i64 x1)).setCell ⟨g, m * 9 + 2, none⟩ (.int .i64 x2)).setCell ⟨g, m * 9 + 3, none⟩ (.int .i64 x3)).setCell ⟨g, m * 9 + 4, none⟩ (.int .i64 x4)).setCell ⟨g, m * 9 + 5, none⟩ (.bool x5)).setCell ⟨g, m * 9 + 6, none⟩ (.bool x6)).setCell ⟨g, m * 9 + 7, none⟩ (.int .i64 x7)).setCell ⟨g, m * 9 + 8, none⟩ (.int .i64 x8)).ownsRow base 45 9 (.slice (some ⟨g, 0, none⟩) n c) n (zs.flatMap dutE)) := HP.1
            have HG4 : Hid (w.grownBy (((((((((wr2.setCell ⟨g, m * 9, none⟩ (.int .i64 x0)).setCell ⟨g, m * 9 + 1, none⟩ (.int .i64 x1)).setCell ⟨g, m * 9 + 2, none⟩ (.int .i64 x2)).setCell ⟨g, m * 9 + 3, none⟩ (.int .i64 x3)).setCell ⟨g, m * 9 + 4, none⟩ (.int .i64 x4)).setCell ⟨g, m * 9 + 5, none⟩ (.bool x5)).setCell ⟨g, m * 9 + 6, none⟩ (.bool x6)).setCell ⟨g, m * 9 + 7, none⟩ (.int .i64 x7)).setCell ⟨g, m * 9 + 8, none⟩ (.int .i64 x8)) (some g)) := gb_trans HG3.out HP.2
            have HD2 : Hid (delU p xs (j + 1) = zs.take (m + 1)) := by show _ = _; rw [hds.out, HD.out, hset.out.1]; simp
            have HQ2 := Lib.hid hset.out.2
            have hf := fun q => HO3.out.frozenAt q
            obtain ⟨v0, s0⟩ := own_some HO3.out (a := m * 9) (by omega)
            obtain ⟨v1, s1⟩ := own_some HO3.out (a := m * 9 + 1) (by omega)
            obtain ⟨v2, s2⟩ := own_some HO3.out (a := m * 9 + 2) (by omega)
            obtain ⟨v3, s3⟩ := own_some HO3.out (a := m * 9 + 3) (by omega)
            obtain ⟨v4, s4⟩ := own_some HO3.out (a := m * 9 + 4) (by omega)
            obtain ⟨v5, s5⟩ := own_some HO3.out (a := m * 9 + 5) (by omega)
            obtain ⟨v6, s6⟩ := own_some HO3.out (a := m * 9 + 6) (by omega)
            obtain ⟨v7, s7⟩ := own_some HO3.out (a := m * 9 + 7) (by omega)
            obtain ⟨v8, s8⟩ := own_some HO3.out (a := m * 9 + 8) (by omega)
            clear HP
            have r7 : (m : Int) < (n : Int) := by omega
            go_wp2
            go_roundw
            case rel => exact ⟨m + 1, j + 1, zs, by omega, by omega, by go_num, by go_num, hzl, HD2, HQ2, HO4, HG4⟩
            case measure => simp [intOf]; omega
        · obtain rfl : j = n := by omega
          have hcl := fun ty c => run_clear_own (P := Try.prog) HO.out hmj 38 ty _ Try.underlying38 Try.zeroValue45 rfl (by simp [Value.cells, Value.oneCell']) c
          have hoc := own_clear dutE_len HO.out (Nat.le_of_lt hmj) (Builtin.zeroCells (Value.agg #[.int .i64 0, .int .i64 0, .int .i64 0, .int .i64 0, .int .i64 0, .bool false, .bool false, .int .i64 0, .int .i64 0]).cells (j - m)).toList
          generalize hww : wr.setCells g (m * 9) (Builtin.zeroCells (Value.agg #[.int .i64 0, .int .i64 0, .int .i64 0, .int .i64 0, .int .i64 0, .bool false, .bool false, .int .i64 0, .int .i64 0]).cells (j - m)).toList = wz at *
          have HD2 : Hid (DelPost dutE 45 9 p (some ⟨g, 0, none⟩) j c base xs w (.returned (.slice (some ⟨g, 0, none⟩) m c)) wz) := by
            have e1 : xs.filter (fun x => !p x) = ys.take m := by
              rw [← HD.out]; unfold delU; rw [List.take_of_length_le (by rw [hl.out]; exact Nat.le_refl _)]
            refine ⟨m, rfl, by rw [e1, List.length_take, HL.out]; omega, by rw [e1]; exact hoc.1, gb_trans HG.out hoc.2⟩
          have r7 : (m : Int) ≤ (j : Int) := by omega
          have r8 : ((j : Int) - (m : Int)).toNat = j - m := by omega
          replace hww := Lib.hid hww
          replace hoc := Lib.hid hoc
          go_wp2
          go_ret
          exact HD2.out
    · have hF : Hid (DelPost dutE 45 9 p (some ⟨g, 0, none⟩) n c base xs w (.returned (.slice (some ⟨g, 0, none⟩) n c)) w1) := by
        have e1 : xs.filter (fun x => !p x) = xs := by
          rw [List.filter_eq_self]
          intro x hx
          obtain ⟨q, hq, rfl⟩ := List.mem_iff_getElem.1 hx
          have := hno q hq
          rw [List.getD_eq_getElem?_getD, List.getElem?_eq_getElem hq] at this
          simp at this
          simp [this]
        exact ⟨n, rfl, by rw [e1, hl.out], by rw [e1]; exact HO1.out, HB1.out⟩
      replace hno := Lib.hid hno
      go_wp2
      go_ret
      exact hF.out
end Sw
end Go.Proofs.Ytdlgdmbcbenlbaa
namespace Go.Proofs.Ytdlgdmbcbenlbaa
open Go Go.RowKit Go.Sort
namespace Sw
open Mm
def kpL {α : Type} [DecidableEq α] [Inhabited α] (xs : List α) (j : Nat) : Bool := decide (j = 0) || !decide (xs.getD j default = xs.getD (j - 1) default)
/-- consecutive equal elements once, as far as j -/
def cpU {α : Type} [DecidableEq α] [Inhabited α] (xs : List α) (j : Nat) : List α := ((List.range j).filter (kpL xs)).map fun i => xs.getD i default
def cpL {α : Type} [DecidableEq α] [Inhabited α] (xs : List α) : List α := cpU xs xs.length
def CptPost {α : Type} [DecidableEq α] [Inhabited α] (enc : α → List Value) (T : TypeId) (k : Nat) (A : Option Addr) (n c base : Nat) (xs : List α) (w : World) (e : Ending) (w' : World) : Prop :=
  ∃ m, e = .returned (.slice A m c) ∧ m = (cpL xs).length ∧ w'.ownsRow base T k (.slice A m c) m ((cpL xs).flatMap enc) ∧ w.grownBy w' (Value.slice A n c).ownBlock
section
variable {α : Type} [DecidableEq α] [Inhabited α] {xs : List α}
theorem kpL_small {j : Nat} (h : j < 1) : kpL xs j = true := by
  obtain rfl : j = 0 := by omega
  simp [kpL]
theorem kpL_at {j : Nat} (h : 0 < j) : kpL xs j = !decide (xs.getD j default = xs.getD (j - 1) default) := by
  unfold kpL
  rw [decide_eq_false (by omega), Bool.false_or]
omit [DecidableEq α] in
theorem range_getD : ∀ (xs : List α), (List.range xs.length).map (fun i => xs.getD i default) = xs := fun xs => by
  apply List.ext_getElem?
  intro i
  rw [List.getElem?_map]
  by_cases h : i < xs.length
  · rw [List.getElem?_range h]; simp [h]
  · rw [List.getElem?_eq_none (by simpa using h), List.getElem?_eq_none (by omega)]; rfl
theorem cpU_all {j : Nat} (hj : j ≤ xs.length) (h : ∀ q, q < j → kpL xs q = true) : cpU xs j = xs.take j := by
  unfold cpU
  rw [List.filter_eq_self.2 (fun q hq => h q (List.mem_range.1 hq))]
  have := congrArg (List.take j) (range_getD xs)
  rw [← List.map_take, List.take_range, Nat.min_eq_left hj] at this
  exact this
theorem cpL_all {n : Nat} (h : ∀ q, q < n → kpL xs q = true) (hl : xs.length = n) : cpL xs = xs := by
  unfold cpL
  rw [cpU_all (Nat.le_refl _) (by rw [hl]; exact h), List.take_length]
theorem cpU_succ (xs : List α) (j : Nat) (_h : j < xs.length) : cpU xs (j + 1) = cpU xs j ++ (if kpL xs j = true then [xs.getD j default] else []) := by
  unfold cpU
  rw [List.range_succ, List.filter_append, List.map_append]
  cases hk : kpL xs j <;> simp [hk]
theorem cpU_start {m : Nat} (h : ∀ q, q < m → kpL xs q = true) (hm : kpL xs m = false) (hl : m < xs.length) : cpU xs (m + 1) = xs.take m := by
  rw [cpU_succ xs m hl, hm, cpU_all (Nat.le_of_lt hl) h]; simp
end
theorem cp_set {α : Type} [Inhabited α] {xs ys : List α} {m j n : Nat} (hmj : m < j) (hjn : j < n) (hl : ys.length = n) (hq : ∀ q, j ≤ q + 1 → q < n → ys.getD q default = xs.getD q default) (x : α) :
    (ys.set m x).take (m + 1) = ys.take m ++ [x] ∧ (∀ q, j + 1 ≤ q + 1 → q < n → (ys.set m x).getD q default = xs.getD q default) := by
  constructor
  · rw [List.take_succ_eq_append_getElem (by rw [List.length_set]; omega), List.take_set_of_le (Nat.le_refl _), List.getElem_set_self]
  · intro q h1 h2
    rw [← hq q (by omega) h2, List.getD_eq_getElem?_getD, List.getD_eq_getElem?_getD, List.getElem?_set, if_neg (by omega)]
set_option maxRecDepth 100000 in
set_option maxHeartbeats 4000000 in
theorem compactC_any (A : Option Addr) (n c base : Nat) (xs : List Cel) (w : World)
    (ho : w.ownsRow base 34 5 (.slice A n c) n (xs.flatMap celE)) (hn : n ≤ 1000000) :
    Calls Try.prog 43 #[.slice A n c] w (CptPost celE 34 5 A n c base xs w) := by
  have hl : xs.length = n := own_len celE_len (by decide) ho
  have ke := eql_cel
  have kn := neq_cel
  have hE : ∀ a b, eqC a b = decide (a = b) := fun _ _ => rfl
  have hsame : ∀ w', Below w.heap.size w w' → (∀ j, j < n → kpL xs j = true) → CptPost celE 34 5 A n c base xs w (.returned (.slice A n c)) w' := fun w' hb hk => by
    have e : cpL xs = xs := cpL_all hk hl
    exact ⟨n, rfl, by rw [e, hl], by rw [e]; exact owns_keep ho hb, gb_below hb⟩
  generalize eqC = E at *
  replace hl := Lib.hid hl
  replace ke := Lib.hid ke
  replace kn := Lib.hid kn
  replace hE := Lib.hid hE
  replace hsame := Lib.hid hsame
  by_cases h2 : n < 2
  · replace ho := Lib.hid ho
    have hF := Lib.hid (hsame.out w (Below.refl _ _) (fun j hj => kpL_small (by omega)))
    go_enter Try.func43, Try.ntmps43
    go_wp2
    go_ret
    exact hF.out
  rcases ho.2 with ⟨hv, h0⟩ | ⟨g, cap, cur, hv, hbase, hg, r1, r2, r3, r4⟩
  · omega
  injection hv with hA _ hc
  subst hA hc
  clear hg r3 r4
  replace ho := Lib.hid ho
  go_enter Try.func43, Try.ntmps43
  go_wp2_with fail
  go_loopw [3] (fun vk wr => ∃ m : Nat, 1 ≤ m ∧ m ≤ n ∧ vk = .int .i64 m ∧ Hid (∀ j, j < m → kpL xs j = true) ∧ Hid (Below w.heap.size w wr)) (fun vk _ => n - (intOf vk).toNat)
  case atStart => exact ⟨1, by omega, by omega, rfl, fun j hj => kpL_small (by omega), Below.refl _ _⟩
  case round =>
    obtain ⟨m0, hm1, hmn, rfl, HK, HB⟩ := hrel
    by_cases hlt : m0 < n
    · have HO1 := Lib.hid (owns_keep ho.out HB.out)
      have hx := cel_at (Sls.of_owns celE_len HO1.out hl.out).2 hlt
      have hy := cel_at (Sls.of_owns celE_len HO1.out hl.out).2 (show m0 - 1 < n by omega)
      have hkp := kpL_at (xs := xs) (j := m0) (by omega)
      rw [Nat.zero_add] at hx hy
      have he := ke.out (xs.getD m0 default) (xs.getD (m0 - 1) default)
      have hEx := hE.out (xs.getD m0 default) (xs.getD (m0 - 1) default)
      generalize E (xs.getD m0 default) (xs.getD (m0 - 1) default) = B at *
      rw [← hEx] at hkp
      generalize xs.getD m0 default = x at *
      generalize xs.getD (m0 - 1) default = y at *
      obtain ⟨x0, x1, x2, x3, x4⟩ := x
      obtain ⟨y0, y1, y2, y3, y4⟩ := y
      obtain ⟨q0, q1, q2, q3, q4⟩ := hx
      obtain ⟨p0, p1, p2, p3, p4⟩ := hy
      dsimp only at q0 q1 q2 q3 q4 p0 p1 p2 p3 p4 he
      have a0 := cell_regrown q0
      have b0 := cell_regrown p0
      have a1 := cell_regrown q1
      have b1 := cell_regrown p1
      have a2 := cell_regrown q2
      have b2 := cell_regrown p2
      have a3 := cell_regrown q3
      have b3 := cell_regrown p3
      have a4 := cell_regrown q4
      have b4 := cell_regrown p4
      have hcast : (m0 : Int) - 1 = ((m0 - 1 : Nat) : Int) := by omega
      have hw1 : IntKind.i64.wrap ((m0 : Int) - 1) = (m0 : Int) - 1 := IntWalk.i64_in _ (by omega)
      have ht1 : ((m0 : Int) - 1).toNat = m0 - 1 := by omega
      have s1 : (0 : Int) ≤ (m0 : Int) - 1 := by omega
      have s2 : (m0 : Int) - 1 < (n : Int) := by omega
      have s3 : (m0 : Int) < (n : Int) := by omega
      clear q0 q1 q2 q3 q4 p0 p1 p2 p3 p4 hcast
      replace hEx := Lib.hid hEx
      replace hkp := Lib.hid hkp
      go_wp2_with fail
      cases B with
      | false =>
        have hk2 : Hid (∀ j, j < m0 + 1 → kpL xs j = true) := fun j hj => by
          by_cases e : j = m0
          · subst e; rw [hkp.out]; rfl
          · exact HK.out j (by omega)
        refine wp_region_quiet_below (by kernel_rfl) (by kernel_rfl) ?_
        repeat (go_big_quiet_step (fail))
        refine wpQuiet_nil ?_
        rintro _ ⟨⟨dq, osq⟩, rfl⟩
        have hb_ := below_regrown wr dq osq
        replace HB := Lib.hid (HB.out.keep hb_)
        generalize grow (redrawn wr dq) osq = w2 at *
        clear hb_
        go_wp2
        go_roundw
        case rel => exact ⟨m0 + 1, by omega, by omega, by go_num, hk2, HB⟩
        case measure => simp [intOf]; omega
      | true =>
        refine wp_region_quiet_below (by kernel_rfl) (by kernel_rfl) ?_
        repeat (go_big_quiet_step (fail))
        refine wpQuiet_nil ?_
        rintro _ ⟨⟨dq, osq⟩, rfl⟩
        have hb_ := below_regrown wr dq osq
        replace HB := Lib.hid (HB.out.keep hb_)
        generalize grow (redrawn wr dq) osq = w2 at *
        clear hb_
        have HO2 := Lib.hid (owns_keep ho.out HB.out)
        have HG2 := Lib.hid (gb_below (r := some g) HB.out)
        have HD := Lib.hid (cpU_start HK.out (by rw [hkp.out]; rfl) (by rw [hl.out]; exact hlt))
        clear HB HO1 a0 a1 a2 a3 a4 b0 b1 b2 b3 b4 hw1 ht1 s1 s2 s3 he
        have s4 : (m0 : Int) ≤ (n : Int) := by omega
        have s5 : ((n : Int) - (m0 : Int)).toNat = n - m0 := by omega
        go_wp2_with fail
        go_loopw [3, 5] (fun vm vj wr => ∃ (m j : Nat) (ys : List Cel), m0 ≤ m ∧ 1 ≤ j ∧ m < m0 + j ∧ m0 + j ≤ n ∧ vm = .int .i64 m ∧ vj = .int .i64 j ∧ Hid (ys.length = n) ∧ Hid (cpU xs (m0 + j) = ys.take m) ∧ Hid (∀ q, m0 + j ≤ q + 1 → q < n → ys.getD q default = xs.getD q default) ∧ Hid (wr.ownsRow base 34 5 (.slice (some ⟨g, 0, none⟩) n c) n (ys.flatMap celE)) ∧ Hid (w.grownBy wr (some g))) (fun _ vj _ => n - (intOf vj).toNat)
        case atStart => exact ⟨m0, 1, xs, by omega, by omega, by omega, by omega, rfl, rfl, hl, HD, fun _ _ _ => rfl, HO2, HG2⟩
        case round =>
          clear HO2 HG2 HD HK hkp hEx
          obtain ⟨m, j, ys, hm0, hj1, hmj, hjn, rfl, rfl, HL, HD, HQ, HO, HG⟩ := hrel
          by_cases hlt2 : m0 + j < n
          · have hx := cel_at (Sls.of_owns celE_len HO.out HL.out).2 hlt2
            have hy := cel_at (Sls.of_owns celE_len HO.out HL.out).2 (show m0 + j - 1 < n by omega)
            have hkp := kpL_at (xs := xs) (j := m0 + j) (by omega)
            have hds := cpU_succ xs (m0 + j) (by rw [hl.out]; exact hlt2)
            rw [HQ.out _ (by omega) hlt2, Nat.zero_add] at hx
            rw [HQ.out (m0 + j - 1) (by omega) (by omega), Nat.zero_add] at hy
            have he := kn.out (xs.getD (m0 + j) default) (xs.getD (m0 + j - 1) default)
            have hEx := hE.out (xs.getD (m0 + j) default) (xs.getD (m0 + j - 1) default)
            generalize E (xs.getD (m0 + j) default) (xs.getD (m0 + j - 1) default) = B at *
            rw [← hEx] at hkp
            generalize xs.getD (m0 + j) default = x at *
            generalize xs.getD (m0 + j - 1) default = y at *
            have hput := fun (W : World) (h : W.ownsRow base 34 5 (.slice (some ⟨g, 0, none⟩) n c) n (ys.flatMap celE)) => own_put celE_len h HL.out (show m < n by omega) x
            have hset : Hid ((ys.set m x).take (m + 1) = ys.take m ++ [x] ∧ (∀ q, m0 + j + 1 ≤ q + 1 → q < n → (ys.set m x).getD q default = xs.getD q default)) := cp_set (by omega) hlt2 HL.out HQ.out x
            generalize hz : ys.set m x = zs at *
            have hzl : Hid (zs.length = n) := by show _ = _; rw [← hz, List.length_set]; exact HL.out
            obtain ⟨x0, x1, x2, x3, x4⟩ := x
            obtain ⟨y0, y1, y2, y3, y4⟩ := y
            obtain ⟨q0, q1, q2, q3, q4⟩ := hx
            obtain ⟨p0, p1, p2, p3, p4⟩ := hy
            have eo1 : m0 * 5 + j * 5 = (m0 + j) * 5 := by omega
            have eo2 : m0 * 5 + (j - 1) * 5 = (m0 + j - 1) * 5 := by omega
            rw [← eo1] at q0 q1 q2 q3 q4
            rw [← eo2] at p0 p1 p2 p3 p4
            dsimp only at q0 q1 q2 q3 q4 p0 p1 p2 p3 p4 he hput
            have a0 := cell_regrown q0
            have b0 := cell_regrown p0
            have a1 := cell_regrown q1
            have b1 := cell_regrown p1
            have a2 := cell_regrown q2
            have b2 := cell_regrown p2
            have a3 := cell_regrown q3
            have b3 := cell_regrown p3
            have a4 := cell_regrown q4
            have b4 := cell_regrown p4
            have hcast : (j : Int) - 1 = ((j - 1 : Nat) : Int) := by omega
            have hw1 : IntKind.i64.wrap ((j : Int) - 1) = (j : Int) - 1 := IntWalk.i64_in _ (by omega)
            have ht1 : ((j : Int) - 1).toNat = j - 1 := by omega
            have s1 : (0 : Int) ≤ (j : Int) - 1 := by omega
            have s2 : (j : Int) - 1 < ((n - m0 : Nat) : Int) := by omega
            have s3 : (j : Int) < ((n - m0 : Nat) : Int) := by omega
            have s6 : j < n - m0 := by omega
            clear q0 q1 q2 q3 q4 p0 p1 p2 p3 p4 hcast eo1 eo2
            replace hEx := Lib.hid hEx
            replace hkp := Lib.hid hkp
            replace hds := Lib.hid hds
            replace hz := Lib.hid hz
            replace hput := Lib.hid hput
            go_wp2_with fail
            refine wp_region_quiet_below (by kernel_rfl) (by kernel_rfl) ?_
            repeat (go_big_quiet_step (fail))
            refine wpQuiet_nil ?_
            rintro _ ⟨⟨dq, osq⟩, rfl⟩
            have hb_ := below_regrown wr dq osq
            have HO3 := Lib.hid (owns_keep HO.out hb_)
            have HG3 := Lib.hid (gb_trans HG.out (gb_below (r := some g) hb_))
            replace a0 := a0 dq osq
            replace a1 := a1 dq osq
            replace a2 := a2 dq osq
            replace a3 := a3 dq osq
            replace a4 := a4 dq osq
            generalize grow (redrawn wr dq) osq = w2 at *
            clear hb_ HO HG b0 b1 b2 b3 b4 hw1 ht1 s1 s2 he
            have hjz : m0 + (j + 1) = m0 + j + 1 := by omega
            cases B with
            | true =>
              have HD2 : Hid (cpU xs (m0 + (j + 1)) = ys.take m) := by show _ = _; rw [hjz, hds.out, hkp.out, HD.out]; simp
              have HQ2 : Hid (∀ q, m0 + (j + 1) ≤ q + 1 → q < n → ys.getD q default = xs.getD q default) := fun q h1 h2 => HQ.out q (by omega) h2
              clear a0 a1 a2 a3 a4 hjz
              go_wp2
              go_roundw
              case rel => exact ⟨m, j + 1, ys, hm0, by omega, by omega, by omega, rfl, by go_num, HL, HD2, HQ2, HO3, HG3⟩
              case measure => simp [intOf]; omega
            | false =>
              have HP := hput.out w2 HO3.out
              have HO4 : Hid ((((((w2.setCell ⟨g, m * 5, none⟩ (.int .i64 x0)).setCell ⟨g, m * 5 + 1, none⟩ (.int .i64 x1)).setCell ⟨g, m * 5 + 2, none⟩ (.int .i64 x2)).setCell ⟨g, m * 5 + 3, none⟩ (.int .i64 x3)).setCell ⟨g, m * 5 + 4, none⟩ (.int .i64 x4)).ownsRow base 34 5 (.slice (some ⟨g, 0, none⟩) n c) n (zs.flatMap celE)) := HP.1
              have HG4 : Hid (w.grownBy (((((w2.setCell ⟨g, m * 5, none⟩ (.int .i64 x0)).setCell ⟨g, m * 5 + 1, none⟩ (.int .i64 x1)).setCell ⟨g, m * 5 + 2, none⟩ (.int .i64 x2)).setCell ⟨g, m * 5 + 3, none⟩ (.int .i64 x3)).setCell ⟨g, m * 5 + 4, none⟩ (.int .i64 x4)) (some g)) := gb_trans HG3.out HP.2
              have HD2 : Hid (cpU xs (m0 + (j + 1)) = zs.take (m + 1)) := by show _ = _; rw [hjz, hds.out, hkp.out, HD.out, hset.out.1]; simp
              have HQ2 : Hid (∀ q, m0 + (j + 1) ≤ q + 1 → q < n → zs.getD q default = xs.getD q default) := fun q h1 h2 => hset.out.2 q (by omega) h2
              have hf := fun q => HO3.out.frozenAt q
              obtain ⟨v0, z0⟩ := own_some HO3.out (a := m * 5) (by omega)
              obtain ⟨v1, z1⟩ := own_some HO3.out (a := m * 5 + 1) (by omega)
              obtain ⟨v2, z2⟩ := own_some HO3.out (a := m * 5 + 2) (by omega)
              obtain ⟨v3, z3⟩ := own_some HO3.out (a := m * 5 + 3) (by omega)
              obtain ⟨v4, z4⟩ := own_some HO3.out (a := m * 5 + 4) (by omega)
              clear HP hjz
              have s7 : (m : Int) < (n : Int) := by omega
              go_wp2
              go_roundw
              case rel => exact ⟨m + 1, j + 1, zs, by omega, by omega, by omega, by omega, by go_num, by go_num, hzl, HD2, HQ2, HO4, HG4⟩
              case measure => simp [intOf]; omega
          · have hjn2 : m0 + j = n := by omega
            rw [hjn2] at hmj HD
            have hcl := fun ty c => run_clear_own (P := Try.prog) HO.out hmj 22 ty _ Try.underlying22 Try.zeroValue34 rfl (by simp [Value.cells, Value.oneCell']) c
            have hoc := own_clear celE_len HO.out (Nat.le_of_lt hmj) (Builtin.zeroCells (Value.agg #[.int .i64 0, .int .i64 0, .int .i64 0, .int .i64 0, .int .i64 0]).cells (n - m)).toList
            generalize hww : wr.setCells g (m * 5) (Builtin.zeroCells (Value.agg #[.int .i64 0, .int .i64 0, .int .i64 0, .int .i64 0, .int .i64 0]).cells (n - m)).toList = wz at *
            have HD2 : Hid (CptPost celE 34 5 (some ⟨g, 0, none⟩) n c base xs w (.returned (.slice (some ⟨g, 0, none⟩) m c)) wz) := by
              have e1 : cpL xs = ys.take m := by
                rw [← HD.out]; unfold cpL; rw [hl.out]
              refine ⟨m, rfl, by rw [e1, List.length_take, HL.out]; omega, by rw [e1]; exact hoc.1, gb_trans HG.out hoc.2⟩
            have s7 : (m : Int) ≤ (n : Int) := by omega
            have s8 : ((n : Int) - (m : Int)).toNat = n - m := by omega
            have s9 : ¬ (j : Int) < ((n - m0 : Nat) : Int) := by omega
            have s10 : ¬ j < n - m0 := by omega
            replace hww := Lib.hid hww
            replace hoc := Lib.hid hoc
            replace hjn2 := Lib.hid hjn2
            go_wp2
            go_ret
            exact HD2.out
    · obtain rfl : m0 = n := by omega
      have hF := Lib.hid (hsame.out wr HB.out HK.out)
      go_wp2
      go_ret
      exact hF.out
end Sw
end Go.Proofs.Ytdlgdmbcbenlbaa
