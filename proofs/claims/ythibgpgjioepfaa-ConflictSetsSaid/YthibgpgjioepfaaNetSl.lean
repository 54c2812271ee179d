/- slices.IndexFunc, slices.ContainsFunc over cells, rows and numbers, by the contract of the function value. Printed by gen_netsl.py. -/
import Derived.Test.YthibgpgjioepfaaNetWalks1
namespace Go.Proofs.Ythibgpgjioepfaa
open Go Go.RowKit Go.Sort
namespace Nt
def idx {α : Type} (p : α → Bool) (xs : List α) : Int := match xs.findIdx? p with | some i => (i : Int) | none => -1
theorem idx_hit {α : Type} [Inhabited α] {p : α → Bool} {xs : List α} {k : Nat} {x : α} (hk : xs[k]? = some x) (hp : p x = true) (h : ∀ j, j < k → p (xs.getD j default) = false) : idx p xs = k := by
  have hl : k < xs.length := (List.getElem?_eq_some_iff.1 hk).1
  have hx : xs[k] = x := (List.getElem?_eq_some_iff.1 hk).2
  have : xs.findIdx? p = some k := by
    rw [List.findIdx?_eq_some_iff_getElem]
    refine ⟨hl, by rw [hx]; exact hp, fun j hj => ?_⟩
    have := h j hj
    rw [List.getD_eq_getElem?_getD, List.getElem?_eq_getElem (by omega)] at this
    simpa using this
  unfold idx; rw [this]
theorem idx_miss {α : Type} [Inhabited α] {p : α → Bool} {xs : List α} {n : Nat} (hn : xs.length ≤ n) (h : ∀ j, j < n → p (xs.getD j default) = false) : idx p xs = -1 := by
  have : xs.findIdx? p = none := by
    rw [List.findIdx?_eq_none_iff]
    intro x hx
    obtain ⟨j, hj, e⟩ := List.getElem_of_mem hx
    have := h j (by omega)
    rw [List.getD_eq_getElem?_getD, List.getElem?_eq_getElem hj, e] at this
    exact this
  unfold idx; rw [this]
theorem idx_next {α : Type} [Inhabited α] {p : α → Bool} {xs : List α} {k : Nat} {x : α} (hk : xs[k]? = some x) (hp : p x = false) (h : ∀ j, j < k → p (xs.getD j default) = false) : ∀ j, j < k + 1 → p (xs.getD j default) = false := by
  intro j hj
  by_cases c : j = k
  · subst c; rw [List.getD_eq_getElem?_getD, hk]; exact hp
  · exact h j (by omega)
theorem idx_any {α : Type} (p : α → Bool) (xs : List α) : decide (0 ≤ idx p xs) = xs.any p := by
  unfold idx
  cases h : xs.findIdx? p with
  | none =>
    rw [List.findIdx?_eq_none_iff] at h
    have : xs.any p = false := by rw [List.any_eq_false]; intro x hx; simp [h x hx]
    rw [this]; rfl
  | some i =>
    rw [List.findIdx?_eq_some_iff_getElem] at h
    obtain ⟨hi, hp, _⟩ := h
    have : xs.any p = true := List.any_eq_true.2 ⟨_, List.getElem_mem hi, hp⟩
    rw [this]; simp
set_option maxRecDepth 100000 in
set_option maxHeartbeats 800000 in
theorem indexC_any (F : FuncId) (he : ∀ args w, (callFunc F args).run Try.prog w = .ok (.enter F args) w) (x : Value) (p : Cel → Bool) (A : Option Addr) (n c : Nat) (cs : List (Cel)) (w : World) (hs : CelS w A n cs)
    (hF : ∀ W, Below w.heap.size w W → ∀ c ∈ cs, Calls Try.prog F #[.agg #[.int .i64 c.slot, .int .i64 c.offset, .int .i64 c.frm, .int .i64 c.to, .int .i64 c.flow], x] W fun e w' => e = .returned (.bool (p c)) ∧ Below W.heap.size W w') :
    Calls Try.prog 60 #[.slice A n c, .func (.func F) #[] #[x]] w fun e w' => e = .returned (.int .i64 (idx p cs)) ∧ Below w.heap.size w w' := by
  have hsm := hs.els.small
  unfold maxLen at hsm
  have hlen := hs.els.len
  replace hlen := Lib.hid hlen
  replace hs := Lib.hid hs
  replace hF := Lib.hid hF
  go_enter Try.func60, Try.ntmps60
  go_wp2
  go_loopw [8] (fun i wr => ∃ k : Nat, k ≤ n ∧ i = .int .i64 k ∧ Hid (∀ j, j < k → p (cs.getD j default) = false) ∧ Hid (Below w.heap.size w wr)) (fun i _ => n - (intOf i).toNat)
  case atStart => exact ⟨0, by omega, rfl, fun j hj => absurd hj (by omega), Below.refl _ _⟩
  case round =>
    obtain ⟨k, hk, rfl, HP, HB⟩ := hrel
    by_cases hlt : k < n
    · obtain ⟨b, off, rfl⟩ := hs.out.els.addr (by omega)
      obtain ⟨⟨a0, a1, a2, a3, a4⟩, hq, hm, q0, q1, q2, q3, q4⟩ := (hs.out.keep HB.out).elem hlt
      dsimp only at q0 q1 q2 q3 q4
      have hcall := hF.out _ HB.out _ hm
      replace hcall := Lib.hid hcall
      replace hq := Lib.hid hq
      replace hm := Lib.hid hm
      go_wp2_with fail
      refine hcall.out.mono ?_
      rintro e w1 ⟨rfl, hb1⟩
      have hb2 := Lib.hid (bthen HB.out hb1)
      clear hb1
      by_cases hp : p ⟨a0, a1, a2, a3, a4⟩ = true
      · rw [hp]
        have HI : Hid (idx p cs = (k : Int)) := idx_hit hq.out hp HP.out
        go_wp2
        go_ret
        exact ⟨by rw [HI.out]; rfl, hb2.out⟩
      · have hp' : p ⟨a0, a1, a2, a3, a4⟩ = false := by simpa using hp
        rw [hp']
        have HN : Hid (∀ j, j < k + 1 → p (cs.getD j default) = false) := idx_next hq.out hp' HP.out
        clear hp hp'
        go_wp2
        go_roundw
        case rel => exact ⟨k + 1, by omega, by go_num, HN, hb2⟩
        case measure => simp [intOf]; omega
    · have HI : Hid (idx p cs = -1) := idx_miss (n := k) (by have := hlen.out; omega) HP.out
      go_wp2
      go_ret
      exact ⟨by rw [HI.out]; rfl, HB.out⟩
set_option maxRecDepth 100000 in
set_option maxHeartbeats 400000 in
theorem containsC_any (F : FuncId) (he : ∀ args w, (callFunc F args).run Try.prog w = .ok (.enter F args) w) (x : Value) (p : Cel → Bool) (A : Option Addr) (n c : Nat) (cs : List (Cel)) (w : World) (hs : CelS w A n cs)
    (hF : ∀ W, Below w.heap.size w W → ∀ c ∈ cs, Calls Try.prog F #[.agg #[.int .i64 c.slot, .int .i64 c.offset, .int .i64 c.frm, .int .i64 c.to, .int .i64 c.flow], x] W fun e w' => e = .returned (.bool (p c)) ∧ Below W.heap.size W w') :
    Calls Try.prog 38 #[.slice A n c, .func (.func F) #[] #[x]] w fun e w' => e = .returned (.bool (cs.any p)) ∧ Below w.heap.size w w' := by
  have H := Lib.hid (indexC_any F he x p A n c cs w hs hF)
  have HA := Lib.hid (idx_any p cs)
  clear hs hF
  go_enter Try.func38, Try.ntmps38
  go_wp2_with fail
  refine H.out.mono ?_
  rintro e w1 ⟨rfl, hb1⟩
  go_wp2
  go_ret
  exact ⟨by rw [← HA.out]; rfl, hb1⟩
set_option maxRecDepth 100000 in
set_option maxHeartbeats 800000 in
theorem indexI_any (F : FuncId) (he : ∀ args w, (callFunc F args).run Try.prog w = .ok (.enter F args) w) (p : Int → Bool) (A : Option Addr) (n c : Nat) (cs : List (Int)) (w : World) (hs : IntS w A n cs)
    (hF : ∀ W, Below w.heap.size w W → ∀ x ∈ cs, Calls Try.prog F #[.int .i64 x] W fun e w' => e = .returned (.bool (p x)) ∧ Below W.heap.size W w') :
    Calls Try.prog 83 #[.slice A n c, .func (.func F) #[] #[]] w fun e w' => e = .returned (.int .i64 (idx p cs)) ∧ Below w.heap.size w w' := by
  have hsm := hs.els.small
  unfold maxLen at hsm
  have hlen := hs.els.len
  replace hlen := Lib.hid hlen
  replace hs := Lib.hid hs
  replace hF := Lib.hid hF
  go_enter Try.func83, Try.ntmps83
  go_wp2
  go_loopw [8] (fun i wr => ∃ k : Nat, k ≤ n ∧ i = .int .i64 k ∧ Hid (∀ j, j < k → p (cs.getD j default) = false) ∧ Hid (Below w.heap.size w wr)) (fun i _ => n - (intOf i).toNat)
  case atStart => exact ⟨0, by omega, rfl, fun j hj => absurd hj (by omega), Below.refl _ _⟩
  case round =>
    obtain ⟨k, hk, rfl, HP, HB⟩ := hrel
    by_cases hlt : k < n
    · obtain ⟨b, off, rfl⟩ := hs.out.els.addr (by omega)
      obtain ⟨x0, hq, hm, q0⟩ := (hs.out.keep HB.out).elem hlt
      have hcall := hF.out _ HB.out x0 hm
      replace hcall := Lib.hid hcall
      replace hq := Lib.hid hq
      replace hm := Lib.hid hm
      go_wp2_with fail
      refine hcall.out.mono ?_
      rintro e w1 ⟨rfl, hb1⟩
      have hb2 := Lib.hid (bthen HB.out hb1)
      clear hb1
      by_cases hp : p x0 = true
      · rw [hp]
        have HI : Hid (idx p cs = (k : Int)) := idx_hit hq.out hp HP.out
        go_wp2
        go_ret
        exact ⟨by rw [HI.out]; rfl, hb2.out⟩
      · have hp' : p x0 = false := by simpa using hp
        rw [hp']
        have HN : Hid (∀ j, j < k + 1 → p (cs.getD j default) = false) := idx_next hq.out hp' HP.out
        clear hp hp'
        go_wp2
        go_roundw
        case rel => exact ⟨k + 1, by omega, by go_num, HN, hb2⟩
        case measure => simp [intOf]; omega
    · have HI : Hid (idx p cs = -1) := idx_miss (n := k) (by have := hlen.out; omega) HP.out
      go_wp2
      go_ret
      exact ⟨by rw [HI.out]; rfl, HB.out⟩
set_option maxRecDepth 100000 in
set_option maxHeartbeats 400000 in
theorem containsI_any (F : FuncId) (he : ∀ args w, (callFunc F args).run Try.prog w = .ok (.enter F args) w) (p : Int → Bool) (A : Option Addr) (n c : Nat) (cs : List (Int)) (w : World) (hs : IntS w A n cs)
    (hF : ∀ W, Below w.heap.size w W → ∀ x ∈ cs, Calls Try.prog F #[.int .i64 x] W fun e w' => e = .returned (.bool (p x)) ∧ Below W.heap.size W w') :
    Calls Try.prog 68 #[.slice A n c, .func (.func F) #[] #[]] w fun e w' => e = .returned (.bool (cs.any p)) ∧ Below w.heap.size w w' := by
  have H := Lib.hid (indexI_any F he p A n c cs w hs hF)
  have HA := Lib.hid (idx_any p cs)
  clear hs hF
  go_enter Try.func68, Try.ntmps68
  go_wp2_with fail
  refine H.out.mono ?_
  rintro e w1 ⟨rfl, hb1⟩
  go_wp2
  go_ret
  exact ⟨by rw [← HA.out]; rfl, hb1⟩
set_option maxRecDepth 100000 in
set_option maxHeartbeats 800000 in
theorem indexR_any (F : FuncId) (he : ∀ args w, (callFunc F args).run Try.prog w = .ok (.enter F args) w) (x : Value) (p : List Int → Bool) (A : Option Addr) (n c : Nat) (cs : List (List Int)) (w : World) (hs : RowS w A n cs)
    (hF : ∀ W, Below w.heap.size w W → ∀ xs RA rn rc, xs ∈ cs → IntS W RA rn xs → Calls Try.prog F #[.slice RA rn rc, x] W fun e w' => e = .returned (.bool (p xs)) ∧ Below W.heap.size W w') :
    Calls Try.prog 82 #[.slice A n c, .func (.func F) #[] #[x]] w fun e w' => e = .returned (.int .i64 (idx p cs)) ∧ Below w.heap.size w w' := by
  have hsm := hs.small
  unfold maxLen at hsm
  have hlen := hs.len
  replace hlen := Lib.hid hlen
  replace hs := Lib.hid hs
  replace hF := Lib.hid hF
  go_enter Try.func82, Try.ntmps82
  go_wp2
  go_loopw [8] (fun i wr => ∃ k : Nat, k ≤ n ∧ i = .int .i64 k ∧ Hid (∀ j, j < k → p (cs.getD j default) = false) ∧ Hid (Below w.heap.size w wr)) (fun i _ => n - (intOf i).toNat)
  case atStart => exact ⟨0, by omega, rfl, fun j hj => absurd hj (by omega), Below.refl _ _⟩
  case round =>
    obtain ⟨k, hk, rfl, HP, HB⟩ := hrel
    by_cases hlt : k < n
    · obtain ⟨b, off, rfl⟩ := hs.out.addr (by omega)
      obtain ⟨xs, RA, rn, rc, hq, hm, q0, hxs⟩ := (hs.out.keep HB.out).elem hlt
      have hcall := hF.out _ HB.out xs RA rn rc hm hxs
      replace hxs := Lib.hid hxs
      replace hcall := Lib.hid hcall
      replace hq := Lib.hid hq
      replace hm := Lib.hid hm
      go_wp2_with fail
      refine hcall.out.mono ?_
      rintro e w1 ⟨rfl, hb1⟩
      have hb2 := Lib.hid (bthen HB.out hb1)
      clear hb1
      by_cases hp : p xs = true
      · rw [hp]
        have HI : Hid (idx p cs = (k : Int)) := idx_hit hq.out hp HP.out
        go_wp2
        go_ret
        exact ⟨by rw [HI.out]; rfl, hb2.out⟩
      · have hp' : p xs = false := by simpa using hp
        rw [hp']
        have HN : Hid (∀ j, j < k + 1 → p (cs.getD j default) = false) := idx_next hq.out hp' HP.out
        clear hp hp'
        go_wp2
        go_roundw
        case rel => exact ⟨k + 1, by omega, by go_num, HN, hb2⟩
        case measure => simp [intOf]; omega
    · have HI : Hid (idx p cs = -1) := idx_miss (n := k) (by have := hlen.out; omega) HP.out
      go_wp2
      go_ret
      exact ⟨by rw [HI.out]; rfl, HB.out⟩
set_option maxRecDepth 100000 in
set_option maxHeartbeats 400000 in
theorem containsR_any (F : FuncId) (he : ∀ args w, (callFunc F args).run Try.prog w = .ok (.enter F args) w) (x : Value) (p : List Int → Bool) (A : Option Addr) (n c : Nat) (cs : List (List Int)) (w : World) (hs : RowS w A n cs)
    (hF : ∀ W, Below w.heap.size w W → ∀ xs RA rn rc, xs ∈ cs → IntS W RA rn xs → Calls Try.prog F #[.slice RA rn rc, x] W fun e w' => e = .returned (.bool (p xs)) ∧ Below W.heap.size W w') :
    Calls Try.prog 64 #[.slice A n c, .func (.func F) #[] #[x]] w fun e w' => e = .returned (.bool (cs.any p)) ∧ Below w.heap.size w w' := by
  have H := Lib.hid (indexR_any F he x p A n c cs w hs hF)
  have HA := Lib.hid (idx_any p cs)
  clear hs hF
  go_enter Try.func64, Try.ntmps64
  go_wp2_with fail
  refine H.out.mono ?_
  rintro e w1 ⟨rfl, hb1⟩
  go_wp2
  go_ret
  exact ⟨by rw [← HA.out]; rfl, hb1⟩
end Nt
end Go.Proofs.Ythibgpgjioepfaa
