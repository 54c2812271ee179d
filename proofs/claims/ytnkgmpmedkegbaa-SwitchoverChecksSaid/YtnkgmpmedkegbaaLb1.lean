/- Contracts of slices' functions at structs (printed by gen_lib.py). -/
import Derived.Test.YtnkgmpmedkegbaaSw16
import Derived.Test.YtnkgmpmedkegbaaLibK
namespace Go.Proofs.Ytnkgmpmedkegbaa
open Go Go.RowKit Go.Sort
namespace Sw
open Mm
def IdxFHit {α : Type} [Inhabited α] (p : α → Bool) (xs : List α) (n k : Nat) : Prop := k < n ∧ p (xs.getD k default) = true ∧ ∀ j, j < k → p (xs.getD j default) = false
/-- what IndexFunc returns -/
def IdxF {α : Type} [Inhabited α] (p : α → Bool) (xs : List α) (i : Int) : Prop := (∃ k : Nat, i = k ∧ IdxFHit p xs xs.length k) ∨ (i = -1 ∧ ∀ j, j < xs.length → p (xs.getD j default) = false)
def IdxFPost {α : Type} [Inhabited α] (p : α → Bool) (xs : List α) (w : World) (e : Ending) (w' : World) : Prop := ∃ i : Int, e = .returned (.int .i64 i) ∧ IdxF p xs i ∧ Below w.heap.size w w'
theorem idxF_any {α : Type} [Inhabited α] {p : α → Bool} {xs : List α} {i : Int} (h : IdxF p xs i) : decide (0 ≤ i) = xs.any p := by
  rcases h with ⟨k, rfl, h1, h2, _⟩ | ⟨rfl, h⟩
  · have : xs.any p = true := by
      rw [List.any_eq_true]
      refine ⟨xs.getD k default, ?_, h2⟩
      rw [List.getD_eq_getElem?_getD, List.getElem?_eq_getElem h1]; exact List.getElem_mem h1
    rw [this]; simp
  · have : xs.any p = false := by
      rw [List.any_eq_false]
      intro x hx
      obtain ⟨q, hq, rfl⟩ := List.mem_iff_getElem.1 hx
      have := h q hq
      rw [List.getD_eq_getElem?_getD, List.getElem?_eq_getElem hq] at this
      simpa using this
    rw [this]; rfl
def DelPost {α : Type} [Inhabited α] (enc : α → List Value) (T : TypeId) (k : Nat) (p : α → Bool) (A : Option Addr) (n c base : Nat) (xs : List α) (w : World) (e : Ending) (w' : World) : Prop :=
  ∃ m, e = .returned (.slice A m c) ∧ m = (xs.filter fun x => !p x).length ∧ w'.ownsRow base T k (.slice A m c) m ((xs.filter fun x => !p x).flatMap enc) ∧ w.grownBy w' (Value.slice A n c).ownBlock
theorem own_len {α : Type} [Inhabited α] {enc : α → List Value} {k : Nat} (hk : ∀ x, (enc x).length = k) (k0 : 0 < k) {w : World} {base n : Nat} {T : TypeId} {v : Value} {xs : List α} (h : w.ownsRow base T k v n (xs.flatMap enc)) : xs.length = n := by
  have := h.1
  rw [Sk.fm_len enc k hk] at this
  exact Nat.eq_of_mul_eq_mul_right k0 this
theorem own_some {w : World} {base : Nat} {e : TypeId} {size g n cap : Nat} {xs : List Value} (h : w.ownsRow base e size (.slice (some ⟨g, 0, none⟩) n cap) n xs) {a : Nat} (ha : a < n * size) : ∃ v, w.cell? ⟨g, a, none⟩ = some v :=
  ⟨_, (h.cellAt a ha).trans (List.getElem?_eq_getElem (by rw [h.1]; exact ha))⟩
def delU {α : Type} (p : α → Bool) (xs : List α) (j : Nat) : List α := (xs.take j).filter fun x => !p x
theorem delU_succ {α : Type} [Inhabited α] (p : α → Bool) (xs : List α) (j : Nat) (h : j < xs.length) : delU p xs (j + 1) = delU p xs j ++ (if p (xs.getD j default) = true then [] else [xs.getD j default]) := by
  unfold delU
  rw [List.take_succ_eq_append_getElem h, List.filter_append, List.getD_eq_getElem?_getD, List.getElem?_eq_getElem h]
  cases hp : p xs[j] <;> simp [hp]
theorem delU_all {α : Type} [Inhabited α] {p : α → Bool} {xs : List α} {j : Nat} (hj : j ≤ xs.length) (h : ∀ q, q < j → p (xs.getD q default) = false) : delU p xs j = xs.take j := by
  unfold delU
  rw [List.filter_eq_self]
  intro x hx
  obtain ⟨q, hq, rfl⟩ := List.mem_iff_getElem.1 hx
  rw [List.length_take] at hq
  have := h q (by omega)
  rw [List.getD_eq_getElem?_getD, List.getElem?_eq_getElem (by omega)] at this
  simp at this
  simp [this]
theorem delU_start {α : Type} [Inhabited α] {p : α → Bool} {xs : List α} {m : Nat} (h1 : p (xs.getD m default) = true) (h2 : ∀ j, j < m → p (xs.getD j default) = false) (hm : m < xs.length) : delU p xs (m + 1) = xs.take m := by
  rw [delU_succ p xs m hm, if_pos h1, List.append_nil, delU_all (Nat.le_of_lt hm) h2]
theorem del_set {α : Type} [Inhabited α] {xs ys : List α} {m j n : Nat} (hmj : m < j) (hjn : j < n) (hl : ys.length = n) (hq : ∀ q, j ≤ q → q < n → ys.getD q default = xs.getD q default) (x : α) :
    (ys.set m x).take (m + 1) = ys.take m ++ [x] ∧ (∀ q, j + 1 ≤ q → q < n → (ys.set m x).getD q default = xs.getD q default) := by
  constructor
  · rw [List.take_succ_eq_append_getElem (by rw [List.length_set]; omega), List.take_set_of_le (Nat.le_refl _), List.getElem_set_self]
  · intro q h1 h2
    rw [← hq q (by omega) h2, List.getD_eq_getElem?_getD, List.getD_eq_getElem?_getD, List.getElem?_set, if_neg (by omega)]
set_option maxRecDepth 100000 in
set_option maxHeartbeats 4000000 in
theorem idxFnP_any (f : Nat) (cb : Array Value) (p : (Int × Int) → Bool) (A : Option Addr) (n c : Nat) (xs : List (Int × Int)) (w : World) (ef : ∀ args w, (callFunc f args).run Try.prog w = .ok (.enter f args) w) (hs : PrS w A n xs)
    (hp : ∀ x ∈ xs, ∀ W, Below w.heap.size w W → Calls Try.prog f (#[.agg #[.int .i64 x.1, .int .i64 x.2]] ++ cb) W fun e w' => e = .returned (.bool (p x)) ∧ Below W.heap.size W w') :
    Calls Try.prog 57 #[.slice A n c, .func (.func f) #[] cb] w (IdxFPost p xs w) := by
  have hlen := hs.len
  have hm := hs.small
  unfold maxLen at hm
  replace hs := Lib.hid hs
  replace hp := Lib.hid hp
  replace hlen := Lib.hid hlen
  go_enter Try.func57, Try.ntmps57
  go_wp2_with fail
  go_loopw [5, 8] (fun _ i wr => ∃ k : Nat, k ≤ n ∧ i = .int .i64 k ∧ Hid (∀ j, j < k → p (xs.getD j default) = false) ∧ Hid (Below w.heap.size w wr)) (fun _ i _ => n - (intOf i).toNat)
  case atStart => exact ⟨0, by omega, rfl, fun j hj => absurd hj (by omega), Below.refl _ _⟩
  case round =>
    obtain ⟨k, hk, rfl, HP, HB⟩ := hrel
    by_cases hlt : k < n
    · obtain ⟨b, off, rfl⟩ := hs.out.addr (by omega)
      have hx := pr_at (hs.out.keep HB.out) hlt
      have hc := hp.out _ (ok_at (P := (· ∈ xs)) (fun _ h => h) (k := k) (by rw [hlen.out]; exact hlt)) wr HB.out
      have hnx : p (xs.getD k default) = false → ∀ j, j < k + 1 → p (xs.getD j default) = false := fun h j hj => by
        by_cases e : j = k
        · subst e; exact h
        · exact HP.out j (by omega)
      have hhit : p (xs.getD k default) = true → IdxFHit p xs n k := fun h => ⟨hlt, h, HP.out⟩
      generalize xs.getD k default = x at *
      generalize p x = px at *
      obtain ⟨x0, x1⟩ := x
      obtain ⟨q0, q1⟩ := hx
      dsimp only at q0 q1 hc
      have r1 : (k : Int) < (n : Int) := by omega
      replace hc := Lib.hid hc
      replace hnx := Lib.hid hnx
      replace hhit := Lib.hid hhit
      go_wp2_with fail
      refine hc.out.mono ?_
      rintro e w2 ⟨rfl, hb_⟩
      clear q0 q1
      have HB2 := Lib.hid (bthen HB.out hb_)
      clear hb_
      cases px with
      | true =>
        have hh := Lib.hid (hhit.out rfl)
        go_wp2
        go_ret
        exact ⟨k, rfl, .inl ⟨k, rfl, hlen.out ▸ hh.out⟩, HB2.out⟩
      | false =>
        have hh := Lib.hid (hnx.out rfl)
        go_wp2
        go_roundw
        case rel => exact ⟨k + 1, by omega, by go_num, hh, HB2⟩
        case measure => simp [intOf]; omega
    · obtain rfl : k = n := by omega
      go_wp2
      go_ret
      exact ⟨-1, rfl, .inr ⟨rfl, hlen.out ▸ HP.out⟩, HB.out⟩
set_option maxRecDepth 100000 in
set_option maxHeartbeats 4000000 in
theorem ctnFnP_any (f : Nat) (cb : Array Value) (p : (Int × Int) → Bool) (A : Option Addr) (n c : Nat) (xs : List (Int × Int)) (w : World) (ef : ∀ args w, (callFunc f args).run Try.prog w = .ok (.enter f args) w) (hs : PrS w A n xs)
    (hp : ∀ x ∈ xs, ∀ W, Below w.heap.size w W → Calls Try.prog f (#[.agg #[.int .i64 x.1, .int .i64 x.2]] ++ cb) W fun e w' => e = .returned (.bool (p x)) ∧ Below W.heap.size W w') :
    Calls Try.prog 25 #[.slice A n c, .func (.func f) #[] cb] w fun e w' => e = .returned (.bool (xs.any p)) ∧ Below w.heap.size w w' := by
  have hi := idxFnP_any f cb p A n c xs w ef hs hp
  have hv : Hid (∀ (i : Int), IdxF p xs i → decide (0 ≤ i) = xs.any p) := fun i h => idxF_any h
  generalize xs.any p = R at *
  replace hs := Lib.hid hs
  replace hp := Lib.hid hp
  replace hi := Lib.hid hi
  go_enter Try.func25, Try.ntmps25
  go_wp2_with fail
  refine hi.out.mono ?_
  rintro e w2 ⟨i, rfl, hI, hb_⟩
  have hv2 := Lib.hid (hv.out i hI)
  replace hI := Lib.hid hI
  replace hb_ := Lib.hid hb_
  go_wp2
  go_ret
  exact ⟨by rw [← hv2.out]; rfl, hb_.out⟩
set_option maxRecDepth 100000 in
set_option maxHeartbeats 4000000 in
theorem idxFnD_any (f : Nat) (cb : Array Value) (p : Dut → Bool) (A : Option Addr) (n c : Nat) (xs : List Dut) (w : World) (ef : ∀ args w, (callFunc f args).run Try.prog w = .ok (.enter f args) w) (hs : DutS w A n xs)
    (hp : ∀ x ∈ xs, ∀ W, Below w.heap.size w W → Calls Try.prog f (#[.agg #[.int .i64 x.cell.slot, .int .i64 x.cell.offset, .int .i64 x.cell.frm, .int .i64 x.cell.to, .int .i64 x.cell.flow, .bool x.sends, .bool x.extra, .int .i64 x.first, .int .i64 x.til]] ++ cb) W fun e w' => e = .returned (.bool (p x)) ∧ Below W.heap.size W w') :
    Calls Try.prog 64 #[.slice A n c, .func (.func f) #[] cb] w (IdxFPost p xs w) := by
  have hlen := hs.len
  have hm := hs.small
  unfold maxLen at hm
  replace hs := Lib.hid hs
  replace hp := Lib.hid hp
  replace hlen := Lib.hid hlen
  go_enter Try.func64, Try.ntmps64
  go_wp2_with fail
  go_loopw [5, 8] (fun _ i wr => ∃ k : Nat, k ≤ n ∧ i = .int .i64 k ∧ Hid (∀ j, j < k → p (xs.getD j default) = false) ∧ Hid (Below w.heap.size w wr)) (fun _ i _ => n - (intOf i).toNat)
  case atStart => exact ⟨0, by omega, rfl, fun j hj => absurd hj (by omega), Below.refl _ _⟩
  case round =>
    obtain ⟨k, hk, rfl, HP, HB⟩ := hrel
    by_cases hlt : k < n
    · obtain ⟨b, off, rfl⟩ := hs.out.addr (by omega)
      have hx := dut_at (hs.out.keep HB.out) hlt
      have hc := hp.out _ (ok_at (P := (· ∈ xs)) (fun _ h => h) (k := k) (by rw [hlen.out]; exact hlt)) wr HB.out
      have hnx : p (xs.getD k default) = false → ∀ j, j < k + 1 → p (xs.getD j default) = false := fun h j hj => by
        by_cases e : j = k
        · subst e; exact h
        · exact HP.out j (by omega)
      have hhit : p (xs.getD k default) = true → IdxFHit p xs n k := fun h => ⟨hlt, h, HP.out⟩
      generalize xs.getD k default = x at *
      generalize p x = px at *
      obtain ⟨⟨x0, x1, x2, x3, x4⟩, x5, x6, x7, x8⟩ := x
      obtain ⟨q0, q1, q2, q3, q4, q5, q6, q7, q8⟩ := hx
      dsimp only at q0 q1 q2 q3 q4 q5 q6 q7 q8 hc
      have r1 : (k : Int) < (n : Int) := by omega
      replace hc := Lib.hid hc
      replace hnx := Lib.hid hnx
      replace hhit := Lib.hid hhit
      go_wp2_with fail
      refine hc.out.mono ?_
      rintro e w2 ⟨rfl, hb_⟩
      clear q0 q1 q2 q3 q4 q5 q6 q7 q8
      have HB2 := Lib.hid (bthen HB.out hb_)
      clear hb_
      cases px with
      | true =>
        have hh := Lib.hid (hhit.out rfl)
        go_wp2
        go_ret
        exact ⟨k, rfl, .inl ⟨k, rfl, hlen.out ▸ hh.out⟩, HB2.out⟩
      | false =>
        have hh := Lib.hid (hnx.out rfl)
        go_wp2
        go_roundw
        case rel => exact ⟨k + 1, by omega, by go_num, hh, HB2⟩
        case measure => simp [intOf]; omega
    · obtain rfl : k = n := by omega
      go_wp2
      go_ret
      exact ⟨-1, rfl, .inr ⟨rfl, hlen.out ▸ HP.out⟩, HB.out⟩
set_option maxRecDepth 100000 in
set_option maxHeartbeats 4000000 in
theorem ctnFnD_any (f : Nat) (cb : Array Value) (p : Dut → Bool) (A : Option Addr) (n c : Nat) (xs : List Dut) (w : World) (ef : ∀ args w, (callFunc f args).run Try.prog w = .ok (.enter f args) w) (hs : DutS w A n xs)
    (hp : ∀ x ∈ xs, ∀ W, Below w.heap.size w W → Calls Try.prog f (#[.agg #[.int .i64 x.cell.slot, .int .i64 x.cell.offset, .int .i64 x.cell.frm, .int .i64 x.cell.to, .int .i64 x.cell.flow, .bool x.sends, .bool x.extra, .int .i64 x.first, .int .i64 x.til]] ++ cb) W fun e w' => e = .returned (.bool (p x)) ∧ Below W.heap.size W w') :
    Calls Try.prog 55 #[.slice A n c, .func (.func f) #[] cb] w fun e w' => e = .returned (.bool (xs.any p)) ∧ Below w.heap.size w w' := by
  have hi := idxFnD_any f cb p A n c xs w ef hs hp
  have hv : Hid (∀ (i : Int), IdxF p xs i → decide (0 ≤ i) = xs.any p) := fun i h => idxF_any h
  generalize xs.any p = R at *
  replace hs := Lib.hid hs
  replace hp := Lib.hid hp
  replace hi := Lib.hid hi
  go_enter Try.func55, Try.ntmps55
  go_wp2_with fail
  refine hi.out.mono ?_
  rintro e w2 ⟨i, rfl, hI, hb_⟩
  have hv2 := Lib.hid (hv.out i hI)
  replace hI := Lib.hid hI
  replace hb_ := Lib.hid hb_
  go_wp2
  go_ret
  exact ⟨by rw [← hv2.out]; rfl, hb_.out⟩
set_option maxRecDepth 100000 in
set_option maxHeartbeats 4000000 in
theorem idxFnC_any (f : Nat) (cb : Array Value) (p : Cel → Bool) (A : Option Addr) (n c : Nat) (xs : List Cel) (w : World) (ef : ∀ args w, (callFunc f args).run Try.prog w = .ok (.enter f args) w) (hs : CelS w A n xs)
    (hp : ∀ x ∈ xs, ∀ W, Below w.heap.size w W → Calls Try.prog f (#[.agg #[.int .i64 x.slot, .int .i64 x.offset, .int .i64 x.frm, .int .i64 x.to, .int .i64 x.flow]] ++ cb) W fun e w' => e = .returned (.bool (p x)) ∧ Below W.heap.size W w') :
    Calls Try.prog 76 #[.slice A n c, .func (.func f) #[] cb] w (IdxFPost p xs w) := by
  have hlen := hs.len
  have hm := hs.small
  unfold maxLen at hm
  replace hs := Lib.hid hs
  replace hp := Lib.hid hp
  replace hlen := Lib.hid hlen
  go_enter Try.func76, Try.ntmps76
  go_wp2_with fail
  go_loopw [5, 8] (fun _ i wr => ∃ k : Nat, k ≤ n ∧ i = .int .i64 k ∧ Hid (∀ j, j < k → p (xs.getD j default) = false) ∧ Hid (Below w.heap.size w wr)) (fun _ i _ => n - (intOf i).toNat)
  case atStart => exact ⟨0, by omega, rfl, fun j hj => absurd hj (by omega), Below.refl _ _⟩
  case round =>
    obtain ⟨k, hk, rfl, HP, HB⟩ := hrel
    by_cases hlt : k < n
    · obtain ⟨b, off, rfl⟩ := hs.out.addr (by omega)
      have hx := cel_at (hs.out.keep HB.out) hlt
      have hc := hp.out _ (ok_at (P := (· ∈ xs)) (fun _ h => h) (k := k) (by rw [hlen.out]; exact hlt)) wr HB.out
      have hnx : p (xs.getD k default) = false → ∀ j, j < k + 1 → p (xs.getD j default) = false := fun h j hj => by
        by_cases e : j = k
        · subst e; exact h
        · exact HP.out j (by omega)
      have hhit : p (xs.getD k default) = true → IdxFHit p xs n k := fun h => ⟨hlt, h, HP.out⟩
      generalize xs.getD k default = x at *
      generalize p x = px at *
      obtain ⟨x0, x1, x2, x3, x4⟩ := x
      obtain ⟨q0, q1, q2, q3, q4⟩ := hx
      dsimp only at q0 q1 q2 q3 q4 hc
      have r1 : (k : Int) < (n : Int) := by omega
      replace hc := Lib.hid hc
      replace hnx := Lib.hid hnx
      replace hhit := Lib.hid hhit
      go_wp2_with fail
      refine hc.out.mono ?_
      rintro e w2 ⟨rfl, hb_⟩
      clear q0 q1 q2 q3 q4
      have HB2 := Lib.hid (bthen HB.out hb_)
      clear hb_
      cases px with
      | true =>
        have hh := Lib.hid (hhit.out rfl)
        go_wp2
        go_ret
        exact ⟨k, rfl, .inl ⟨k, rfl, hlen.out ▸ hh.out⟩, HB2.out⟩
      | false =>
        have hh := Lib.hid (hnx.out rfl)
        go_wp2
        go_roundw
        case rel => exact ⟨k + 1, by omega, by go_num, hh, HB2⟩
        case measure => simp [intOf]; omega
    · obtain rfl : k = n := by omega
      go_wp2
      go_ret
      exact ⟨-1, rfl, .inr ⟨rfl, hlen.out ▸ HP.out⟩, HB.out⟩
end Sw
end Go.Proofs.Ytnkgmpmedkegbaa
