/- Plain laws: the search that extends good sets and the search over all bits answer alike. -/
import Derived.Test.YthibgpgjioepfaaLrg
import Derived.Test.YthibgpgjioepfaaLrg5
import Derived.Test.YthibgpgjioepfaaRef8
namespace Go.Proofs.Ythibgpgjioepfaa
open Go Go.RowKit Go.Sort
namespace Nt
/-- of lists of one length: the first one is less in order -/
def lexB : List Nat → List Nat → Bool
  | x :: a, y :: b => if x = y then lexB a b else decide (x < y)
  | _, _ => false
/-- longer, or as long and less in order -/
def bef (a b : List Nat) : Bool := if a.length = b.length then lexB a b else decide (b.length < a.length)
theorem lexB_app (s a b : List Nat) : lexB (s ++ a) (s ++ b) = lexB a b := by
  induction s with
  | nil => rfl
  | cons x s ih => simp [lexB, ih]
theorem lexB_eq : ∀ {a b : List Nat}, a.length = b.length → lexB a b = false → lexB b a = false → a = b
  | [], [], _, _, _ => rfl
  | x :: a, y :: b, h, h1, h2 => by
    unfold lexB at h1 h2
    by_cases e : x = y
    · subst e
      simp at h1 h2 h
      rw [lexB_eq h h1 h2]
    · rw [if_neg e] at h1
      rw [if_neg (Ne.symm e)] at h2
      simp at h1 h2
      omega
theorem lexB_ntrans : ∀ {a b c : List Nat}, a.length = b.length → b.length = c.length → lexB a b = false → lexB b c = false → lexB a c = false
  | [], _, _, _, _, _, _ => by simp [lexB]
  | x :: a, [], _, h, _, _, _ => by simp at h
  | x :: a, y :: b, [], _, h, _, _ => by simp at h
  | x :: a, y :: b, z :: c, h1, h2, h3, h4 => by
    unfold lexB at h3 h4 ⊢
    simp at h1 h2
    by_cases e1 : x = y
    · subst e1
      by_cases e2 : x = z
      · subst e2
        simp at h3 h4 ⊢
        exact lexB_ntrans h1 h2 h3 h4
      · rw [if_neg e2] at h4 ⊢
        exact h4
    · rw [if_neg e1] at h3
      by_cases e2 : y = z
      · subst e2
        rw [if_neg e1]
        exact h3
      · rw [if_neg e2] at h4
        simp at h3 h4
        have : x ≠ z := by omega
        rw [if_neg this]
        simp
        omega
theorem bef_ntrans {a b c : List Nat} (h1 : bef a b = false) (h2 : bef b c = false) : bef a c = false := by
  unfold bef at *
  by_cases e1 : a.length = b.length
  · rw [if_pos e1] at h1
    by_cases e2 : b.length = c.length
    · rw [if_pos e2] at h2
      rw [if_pos (e1.trans e2)]
      exact lexB_ntrans e1 e2 h1 h2
    · rw [if_neg e2] at h2
      rw [if_neg (by omega)]
      simp at h2 ⊢
      omega
  · rw [if_neg e1] at h1
    simp at h1
    by_cases e2 : b.length = c.length
    · rw [if_neg (by omega)]
      simp
      omega
    · rw [if_neg e2] at h2
      simp at h2
      rw [if_neg (by omega)]
      simp
      omega
theorem bef_irrefl (a : List Nat) : bef a a = false := by
  have : ∀ a : List Nat, lexB a a = false := fun a => by
    induction a with
    | nil => rfl
    | cons x a ih => simp [lexB, ih]
  unfold bef
  rw [if_pos rfl]
  exact this a
theorem bef_asymm {a b : List Nat} (h : bef a b = true) : bef b a = false := by
  cases h2 : bef b a with
  | false => rfl
  | true =>
    exfalso
    have hl : ∀ {a b : List Nat}, lexB a b = true → lexB b a = true → False := fun {a} => by
      induction a with
      | nil => intro b h; simp [lexB] at h
      | cons x a ih =>
        intro b h1 h2
        cases b with
        | nil => simp [lexB] at h1
        | cons y b =>
          unfold lexB at h1 h2
          by_cases e : x = y
          · subst e; simp at h1 h2; exact ih h1 h2
          · rw [if_neg e] at h1
            rw [if_neg (Ne.symm e)] at h2
            simp at h1 h2
            omega
    unfold bef at h h2
    by_cases e : a.length = b.length
    · rw [if_pos e] at h
      rw [if_pos e.symm] at h2
      exact hl h h2
    · rw [if_neg e] at h
      rw [if_neg (Ne.symm e)] at h2
      simp at h h2
      omega
/-- the search's answer comes first among the sets of its length -/
theorem goL_first (G : List Nat → Bool) (hG : ∀ a b, G (a ++ b) = true → G a = true) (n k : Nat) (best set : List Nat) (hk : k ≤ n) (hs : set.length ≤ best.length) :
    goL G n k best set = best ∨ ((∃ v, v ≠ [] ∧ goL G n k best set = set ++ v ∧ ∀ x ∈ v, n - k ≤ x) ∧ best.length < (goL G n k best set).length ∧
      ∀ u : List Nat, u.Pairwise (· < ·) → (∀ x ∈ u, n - k ≤ x ∧ x < n) → G (set ++ u) = true → (set ++ u).length = (goL G n k best set).length → lexB (set ++ u) (goL G n k best set) = false) := by
  induction k generalizing best set with
  | zero => exact .inl rfl
  | succ k ih =>
    have hall : ∀ (x : Nat) (u : List Nat), (x :: u).Pairwise (· < ·) → (∀ y ∈ x :: u, n - (k + 1) ≤ y ∧ y < n) → x ≠ n - (k + 1) → ∀ y ∈ x :: u, n - k ≤ y ∧ y < n := fun x u hu hr hx y hy => by
      rw [List.pairwise_cons] at hu
      have h1 := hr x (List.mem_cons_self ..)
      have h2 := hr y hy
      rcases List.mem_cons.1 hy with rfl | hy
      · omega
      · have := hu.1 y hy; omega
    have htl : ∀ (x : Nat) (u : List Nat), (x :: u).Pairwise (· < ·) → (∀ y ∈ x :: u, n - (k + 1) ≤ y ∧ y < n) → x = n - (k + 1) → ∀ y ∈ u, n - k ≤ y ∧ y < n := fun x u hu hr hx y hy => by
      rw [List.pairwise_cons] at hu
      have h2 := hr y (List.mem_cons_of_mem _ hy)
      have := hu.1 y hy
      omega
    by_cases hg : G (set ++ [n - (k + 1)]) = true
    · have e0 : goL G n (k + 1) best set = goL G n k (goL G n k (if best.length < (set ++ [n - (k + 1)]).length then set ++ [n - (k + 1)] else best) (set ++ [n - (k + 1)])) set := by
        show (if _ then _ else _) = _
        rw [if_pos hg]
      rw [e0]
      generalize hb1 : (if best.length < (set ++ [n - (k + 1)]).length then set ++ [n - (k + 1)] else best) = b1
      have hb1l : (set ++ [n - (k + 1)]).length ≤ b1.length := by rw [← hb1]; split <;> omega
      have hb1b : b1 = best ∨ (b1 = set ++ [n - (k + 1)] ∧ best.length < b1.length) := by
        rw [← hb1]
        split
        · exact .inr ⟨rfl, by assumption⟩
        · exact .inl rfl
      have i1 := ih b1 (set ++ [n - (k + 1)]) (by omega) hb1l
      have m1 := goL_max G hG n k b1 (set ++ [n - (k + 1)])
      generalize hr1 : goL G n k b1 (set ++ [n - (k + 1)]) = r1 at *
      have hr1l : b1.length ≤ r1.length := by rw [← hr1]; exact goL_le ..
      have i2 := ih r1 set (by omega) (by simp at hb1l; omega)
      generalize goL G n k r1 set = r at *
      have hbb : best.length ≤ b1.length := by
        rcases hb1b with h | h
        · rw [h]; exact Nat.le_refl _
        · omega
      rcases i2 with h2 | ⟨⟨v, hv0, hv, hvx⟩, h2l, h2⟩
      · subst h2
        rcases i1 with h1 | ⟨⟨v, hv0, hv, hvx⟩, h1l, h1⟩
        · subst h1
          rcases hb1b with h | ⟨h, hl⟩
          · exact .inl h
          · refine .inr ⟨⟨[n - (k + 1)], by simp, h, fun x hx => by simp at hx; omega⟩, hl, fun u hu hr hgu hlu => ?_⟩
            rw [h] at hlu ⊢
            rw [lexB_app]
            match u with
            | [] => simp at hlu
            | [y] =>
              have := hr y (List.mem_cons_self ..)
              unfold lexB
              split
              · rfl
              · simp; omega
            | y :: z :: u => simp at hlu
        · refine .inr ⟨⟨(n - (k + 1)) :: v, by simp, by rw [hv]; simp, fun x hx => ?_⟩, by omega, fun u hu hr hgu hlu => ?_⟩
          · rcases List.mem_cons.1 hx with rfl | hx
            · omega
            · have := hvx x hx; omega
          · cases u with
            | nil => rw [hv] at hlu; simp at hlu
            | cons y u =>
              by_cases hy : y = n - (k + 1)
              · have es : set ++ y :: u = (set ++ [n - (k + 1)]) ++ u := by rw [hy]; simp
                rw [es] at hgu hlu ⊢
                exact h1 u (List.pairwise_cons.1 hu).2 (htl y u hu hr hy) hgu hlu
              · have hy1 := hr y (List.mem_cons_self ..)
                have es : (set ++ [n - (k + 1)]) ++ v = set ++ (n - (k + 1)) :: v := by simp
                rw [hv, es, lexB_app]
                unfold lexB
                rw [if_neg hy]
                simp
                omega
      · refine .inr ⟨⟨v, hv0, hv, fun x hx => by have := hvx x hx; omega⟩, by omega, fun u hu hr hgu hlu => ?_⟩
        cases u with
        | nil => rw [hv] at hlu; simp at hlu; exact absurd hlu hv0
        | cons y u =>
          by_cases hy : y = n - (k + 1)
          · exfalso
            have es : set ++ y :: u = (set ++ [n - (k + 1)]) ++ u := by rw [hy]; simp
            rw [es] at hgu hlu
            have := m1 u (by omega) hb1l (List.pairwise_cons.1 hu).2 (htl y u hu hr hy) hgu
            omega
          · exact h2 (y :: u) hu (hall y u hu hr hy) hgu hlu
    · have e0 : goL G n (k + 1) best set = goL G n k best set := by
        show (if _ then _ else _) = _
        rw [if_neg hg]
      rw [e0]
      rcases ih best set (by omega) hs with h | ⟨⟨v, hv0, hv, hvx⟩, h2l, h2⟩
      · exact .inl h
      · refine .inr ⟨⟨v, hv0, hv, fun x hx => by have := hvx x hx; omega⟩, h2l, fun u hu hr hgu hlu => ?_⟩
        cases u with
        | nil => rw [hv] at hlu; simp at hlu; exact absurd hlu hv0
        | cons y u =>
          by_cases hy : y = n - (k + 1)
          · exfalso
            have es : set ++ y :: u = (set ++ [n - (k + 1)]) ++ u := by rw [hy]; simp
            rw [es] at hgu
            exact hg (hG _ _ hgu)
          · exact h2 (y :: u) hu (hall y u hu hr hy) hgu hlu
/-- the best of the sets of all numbers below m -/
def refB (G : List Nat → Bool) (at_ : Nat → List Nat) : Nat → List Nat
  | 0 => []
  | m + 1 => if (bef (at_ m) (refB G at_ m) && G (at_ m)) = true then at_ m else refB G at_ m
theorem refB_good (G : List Nat → Bool) (at_ : Nat → List Nat) (h0 : G [] = true) (m : Nat) : G (refB G at_ m) = true ∧ (refB G at_ m = [] ∨ ∃ b, b < m ∧ refB G at_ m = at_ b) := by
  induction m with
  | zero => exact ⟨h0, .inl rfl⟩
  | succ m ih =>
    unfold refB
    split
    · rename_i h
      rw [Bool.and_eq_true] at h
      exact ⟨h.2, .inr ⟨m, by omega, rfl⟩⟩
    · exact ⟨ih.1, ih.2.imp id fun ⟨b, h1, h2⟩ => ⟨b, by omega, h2⟩⟩
theorem refB_least (G : List Nat → Bool) (at_ : Nat → List Nat) (m : Nat) : ∀ b, b < m → G (at_ b) = true → bef (at_ b) (refB G at_ m) = false := by
  induction m with
  | zero => intro b hb; omega
  | succ m ih =>
    intro b hb hg
    unfold refB
    split
    · rename_i h
      rw [Bool.and_eq_true] at h
      by_cases e : b = m
      · subst e; exact bef_irrefl _
      · exact bef_ntrans (ih b (by omega) hg) (bef_asymm h.1)
    · rename_i h
      by_cases e : b = m
      · subst e
        rw [hg, Bool.and_true, Bool.not_eq_true] at h
        exact h
      · exact ih b (by omega) hg
theorem place_congr {p q : Nat → Bool} (k : Nat) (h : ∀ j, j < k → p j = q j) : placeOf p k = placeOf q k := by
  induction k with
  | zero => rfl
  | succ k ih => simp only [placeOf]; rw [ih (fun j hj => h j (by omega)), h k (by omega)]
/-- each choice is the bits of a number -/
theorem bits_of (p : Nat → Bool) (n : Nat) : ∃ b, b < 2 ^ n ∧ ∀ j, j < n → b.testBit j = p j := by
  induction n with
  | zero => exact ⟨0, by decide, fun j hj => by omega⟩
  | succ n ih =>
    obtain ⟨b, hb, hj⟩ := ih
    cases hp : p n with
    | false =>
      refine ⟨b, by rw [Nat.pow_succ]; omega, fun j h => ?_⟩
      by_cases e : j = n
      · subst e; rw [hp]; exact Nat.testBit_lt_two_pow hb
      · exact hj j (by omega)
    | true =>
      refine ⟨2 ^ n + b, by rw [Nat.pow_succ]; omega, fun j h => ?_⟩
      by_cases e : j = n
      · subst e
        rw [Nat.testBit_two_pow_add_eq, Nat.testBit_lt_two_pow hb, hp]; rfl
      · rw [Nat.testBit_two_pow_add_gt (by omega)]
        exact hj j (by omega)
theorem place_of_asc {s : List Nat} (n : Nat) (h : s.Pairwise (· < ·)) (hl : ∀ x ∈ s, x < n) : placeOf (fun j => decide (j ∈ s)) n = s := by
  induction n generalizing s with
  | zero => 
    cases s with
    | nil => rfl
    | cons x s => have := hl x (List.mem_cons_self ..); omega
  | succ n ih =>
    simp only [placeOf]
    by_cases hn : n ∈ s
    · rw [if_pos (by simpa using hn)]
      have hne : s ≠ [] := List.ne_nil_of_mem hn
      have hs := (List.dropLast_concat_getLast hne).symm
      generalize s.dropLast = t at hs
      generalize s.getLast hne = y at hs
      subst hs
      rw [List.pairwise_append] at h
      have hty : ∀ x ∈ t, x < y := fun x hx => h.2.2 x hx y (List.mem_singleton.2 rfl)
      have hyn : y = n := by
        rcases List.mem_append.1 hn with hn | hn
        · have h1 := hty n hn
          have := hl y (by simp)
          omega
        · rw [List.mem_singleton] at hn; exact hn.symm
      subst hyn
      congr 1
      rw [← ih h.1 hty]
      refine place_congr _ fun j hj => ?_
      rw [ih h.1 hty]
      have : j ≠ y := by omega
      simp [this]
    · rw [if_neg (by simpa using hn), List.append_nil]
      exact ih h fun x hx => by
        have := hl x hx
        have : x ≠ n := fun e => hn (e ▸ hx)
        omega
/-- both searches answer alike -/
theorem both_eq (G : List Nat → Bool) (h0 : G [] = true) (hG : ∀ a b, G (a ++ b) = true → G a = true) (n : Nat) (p : Nat → Nat → Bool) (hp : ∀ b j, b < 2 ^ n → j < n → p b j = b.testBit j) (hok : OkS G n (goL G n n [] [])) :
    refB G (fun b => placeOf (p b) n) (2 ^ n) = goL G n n [] [] := by
  have hA := fun b => refB_least G (fun b => placeOf (p b) n) (2 ^ n) b
  have hB := refB_good G (fun b => placeOf (p b) n) h0 (2 ^ n)
  have hF := goL_first G hG n n [] [] (Nat.le_refl _) (Nat.le_refl _)
  have hM := fun u => goL_max G hG n n [] [] u (Nat.le_refl _) (Nat.le_refl _)
  have hR : OkS G n (refB G (fun b => placeOf (p b) n) (2 ^ n)) := by
    rcases hB.2 with h | ⟨b, _, h⟩
    · exact ⟨by rw [h]; exact List.Pairwise.nil, by rw [h]; simp, hB.1⟩
    · exact ⟨by rw [h]; exact place_asc _ _, by rw [h]; exact fun x hx => place_mem hx, hB.1⟩
  generalize refB G (fun b => placeOf (p b) n) (2 ^ n) = r at *
  generalize goL G n n [] [] = r' at *
  have h1 : bef r' r = false := by
    obtain ⟨b, hb, hj⟩ := bits_of (fun j => decide (j ∈ r')) n
    have e : placeOf (p b) n = r' := by
      rw [place_congr n (q := fun j => decide (j ∈ r')) fun j h => by rw [hp b j hb h, hj j h]]
      exact place_of_asc n hok.asc hok.lt
    have := hA b hb
    rw [e] at this
    exact this hok.good
  have h2 : r.length ≤ r'.length := by
    have := hM r hR.asc (fun x hx => ⟨by omega, hR.lt x hx⟩) (by simpa using hR.good)
    simpa using this
  unfold bef at h1
  by_cases e : r'.length = r.length
  · rw [if_pos e] at h1
    rcases hF with h | ⟨_, _, h⟩
    · rw [h] at e ⊢
      exact List.length_eq_zero_iff.1 e.symm
    · have := h r hR.asc (fun x hx => ⟨by omega, hR.lt x hx⟩) (by simpa using hR.good) (by simpa using e.symm)
      exact lexB_eq e.symm (by simpa using this) h1
  · rw [if_neg e] at h1
    simp at h1
    omega
end Nt
end Go.Proofs.Ythibgpgjioepfaa
namespace Go.Proofs.Ythibgpgjioepfaa
open Go Go.RowKit Go.Sort
namespace Nt
open Mm
def pk (b : Int) (k : Nat) : Bool := bits BinOp.and IntKind.i64 (b / 2 ^ k) 1 == 1
def linksAt (ls : List Lnk) (s : List Nat) : List Lnk := s.map fun i => ls.getD i default
theorem pair_ne {w : World} {b1 b2 s1 s2 n1 n2 : Nat} {e1 e2 : TypeId} {v1 v2 : Value} {xs1 xs2 : List Value} (h1 : w.ownsRow b1 e1 s1 v1 n1 xs1) (h2 : w.ownsRow b2 e2 s2 v2 n2 xs2) (hne : e1 ≠ e2) : v1.ownBlock = none ∨ v1.ownBlock ≠ v2.ownBlock := by
  rcases h1.2 with ⟨rfl, _⟩ | ⟨g1, c1, cur1, rfl, _, hg1, _⟩
  · exact .inl rfl
  · refine .inr fun e => ?_
    rcases h2.2 with ⟨rfl, _⟩ | ⟨g2, c2, cur2, rfl, _, hg2, _⟩
    · simp [Value.ownBlock] at e
    · simp only [Value.ownBlock, Option.some.injEq] at e
      subst e
      rw [hg1] at hg2
      injection hg2 with hg2
      injection hg2 with _ h
      exact hne h
theorem place_le (p : Nat → Bool) (k : Nat) : (placeOf p k).length ≤ k := by
  induction k with
  | zero => exact Nat.le_refl _
  | succ k ih => simp only [placeOf, List.length_append]; split <;> simp <;> omega
def SomePost (ls : List Lnk) (p : Nat → Bool) (n : Nat) (w : World) (e : Ending) (w' : World) : Prop :=
  ∃ A1 m c1 A2 c2, e = .returned (.tuple #[.slice A1 m c1, .slice A2 m c2]) ∧ LnkS w' A1 m (linksAt ls (placeOf p n)) ∧ IntS w' A2 m (intsOf (placeOf p n)) ∧ m = (placeOf p n).length ∧ Below w.heap.size w w'
set_option maxRecDepth 100000 in
set_option maxHeartbeats 4000000 in
theorem rSome_any (A : Option Addr) (n c : Nat) (ls : List Lnk) (b : Int) (w : World) (hs : LnkS w A n ls) (hn : n ≤ 12) :
    Calls Try.prog 55 #[.slice A n c, .int .i64 b] w (SomePost ls (pk b) n w) := by
  obtain ⟨i0, hi, hz0, hz1, hz2⟩ := info_parts info_link
  obtain ⟨i1, hi1, hy0, hy1, hy2⟩ := info_parts info_int
  have hlen := hs.els.len
  have hm0 := World.ownsRow_made (base := w.heap.size) (e := 44) (size := 3) w #[] 0 (Nat.le_refl _) (by decide) rfl
  have hm1 := World.ownsRow_made (base := w.heap.size) (e := 3) (size := 1) (w.alloc (.cells #[] 44)) #[] 0 (by simp) (by decide) rfl
  have hb0 := below_allocN (below_alloc w (.cells #[] 44)) (.cells #[] 3)
  have hm0' := hm0.alloc (.cells #[] 3)
  rw [size_alloc1] at hm1
  replace hi := Lib.hid hi
  replace hz0 := Lib.hid hz0
  replace hz1 := Lib.hid hz1
  replace hz2 := Lib.hid hz2
  replace hi1 := Lib.hid hi1
  replace hy0 := Lib.hid hy0
  replace hy1 := Lib.hid hy1
  replace hy2 := Lib.hid hy2
  replace hlen := Lib.hid hlen
  replace hs := Lib.hid hs
  replace hm0' := Lib.hid hm0'
  replace hm1 := Lib.hid hm1
  replace hb0 := Lib.hid hb0
  clear hm0
  go_enter Try.func55, Try.ntmps55
  go_wp2
  go_loopw [6, 7, 8] (fun o a i wr => ∃ (k : Nat) (vO vA : Value), k ≤ n ∧ i = .int .i64 k ∧ vO = o ∧ vA = a ∧ Hid (wr.ownsRow w.heap.size 44 3 vO (placeOf (pk b) k).length (flat 3 lnkV (linksAt ls (placeOf (pk b) k)))) ∧ Hid (wr.ownsRow w.heap.size 3 1 vA (placeOf (pk b) k).length (flat 1 intV (intsOf (placeOf (pk b) k)))) ∧ Hid (Below w.heap.size w wr)) (fun _ _ i _ => n - (intOf i).toNat)
  case atStart => exact ⟨0, _, _, by omega, rfl, rfl, rfl, hm0', hm1, hb0⟩
  case round =>
    obtain ⟨k, vO, vA, hk, rfl, rfl, rfl, HO, HA, HB⟩ := hrel
    clear hm0' hm1
    by_cases hlt : k < n
    · obtain ⟨bb, off, rfl⟩ := hs.out.els.addr (by omega)
      obtain ⟨⟨f, t, l⟩, he, hm, q0, q1, q2⟩ := (hs.out.keep HB.out).elem hlt
      dsimp only at q0 q1 q2
      have hg : ls.getD k default = ⟨f, t, l⟩ := by rw [List.getD_eq_getElem?_getD, he]; rfl
      have hsz := HB.out.size
      have hpl := place_le (pk b) k
      have e : placeOf (pk b) (k + 1) = placeOf (pk b) k ++ (if pk b k = true then [k] else []) := rfl
      have hpk : pk b k = (bits BinOp.and IntKind.i64 (b / 2 ^ k) 1 == 1) := rfl
      generalize hP2 : placeOf (pk b) (k + 1) = P2 at *
      generalize placeOf (pk b) k = P1 at *
      replace he := Lib.hid he
      replace hm := Lib.hid hm
      replace hg := Lib.hid hg
      replace hP2 := Lib.hid hP2
      replace e := Lib.hid e
      cases hp : (bits BinOp.and IntKind.i64 (b / 2 ^ k) 1 == 1)
      · rw [hp] at hpk
        have e2 := e.out
        rw [hpk, if_neg (by decide), List.append_nil] at e2
        subst e2
        replace hpk := Lib.hid hpk
        go_wp2
        go_roundw
        case rel => exact ⟨k + 1, _, _, by omega, by go_num, rfl, rfl, by rw [hP2.out]; exact HO, by rw [hP2.out]; exact HA, HB⟩
        case measure => simp [intOf]; omega
      · rw [hp] at hpk
        have e2 := e.out
        rw [hpk, if_pos rfl] at e2
        have HOa := HO.out.alloc (.cells #[.int .i64 f, .int .i64 t, .int .i64 l] 44)
        have HAa := HA.out.alloc (.cells #[.int .i64 f, .int .i64 t, .int .i64 l] 44)
        have HBa := below_allocN HB.out (.cells #[.int .i64 f, .int .i64 t, .int .i64 l] 44)
        have hne1 := pair_ne HAa HOa (by decide)
        have hnews := World.news_of_block (Blk.new wr #[.int .i64 f, .int .i64 t, .int .i64 l] 44).at_
        have ef : flat 3 lnkV (linksAt ls P2) = flat 3 lnkV (linksAt ls P1) ++ [.int .i64 f, .int .i64 t, .int .i64 l] := by
          rw [e2]; unfold linksAt; rw [List.map_append, flat_append, List.map_singleton, hg.out]; rfl
        have ei : flat 1 intV (intsOf P2) = flat 1 intV (intsOf P1) ++ [.int .i64 (k : Int)] := by
          rw [e2]; unfold intsOf; rw [List.map_append, flat_append]; rfl
        have el : P2.length = P1.length + 1 := by rw [e2]; simp
        replace hpk := Lib.hid hpk
        replace e2 := Lib.hid e2
        replace HOa := Lib.hid HOa
        replace HAa := Lib.hid HAa
        replace HBa := Lib.hid HBa
        replace hne1 := Lib.hid hne1
        replace hnews := Lib.hid hnews
        replace ef := Lib.hid ef
        replace ei := Lib.hid ei
        replace el := Lib.hid el
        go_wp2_with (at_builtin; refine wpList_append_lies _ rfl _ _ _ rfl w.heap.size 44 i0 (.agg #[.int .i64 0, .int .i64 0, .int .i64 0]) 3 24 Try.underlying23 hi.out hz0.out hz1.out hz2.out rfl (by decide) vO P1.length _ rfl HOa.out ⟨wr.heap.size, 0, none⟩ 1 1 [.int .i64 f, .int .i64 t, .int .i64 l] rfl rfl ?c1 ?c2 (by decide) ?c3 ?c4 ?c5 (wr.heap.size + 1) ?c6 ?_)
        try case c1 => exact hnews.out
        try case c2 => first | exact ⟨rfl, rfl, rfl⟩ | simp [Value.oneCell']
        try case c3 => unfold maxLen; omega
        try case c4 => omega
        try case c5 => first | omega | (simp; omega)
        try case c6 => first | rfl | simp
        intro g cap w1 hown1 hgrow1 hat1 hlt1
        have HO1 : Hid (w1.ownsRow w.heap.size 44 3 (.slice (some ⟨g, 0, none⟩) (P1.length + 1) cap) P2.length (flat 3 lnkV (linksAt ls P2))) := by
          show World.ownsRow _ _ _ _ _ _ _
          rw [ef.out, el.out]; exact hown1
        have HA1 := HAa.out.kept hgrow1 hne1.out
        have HB1 := below_append HBa.out HOa.out hgrow1 (Nat.le_refl _)
        clear hown1 hgrow1 hat1 HOa HAa HBa hne1 hnews
        have HO1a := HO1.out.alloc (.cells #[.int .i64 (k : Int)] 3)
        have HA1a := HA1.alloc (.cells #[.int .i64 (k : Int)] 3)
        have HB1a := below_allocN HB1 (.cells #[.int .i64 (k : Int)] 3)
        have hne2 := pair_ne HO1a HA1a (by decide)
        have hnews2 := World.news_of_block (Blk.new w1 #[.int .i64 (k : Int)] 3).at_
        have hsz1 := HB1.size
        replace HO1a := Lib.hid HO1a
        replace HA1a := Lib.hid HA1a
        replace HB1a := Lib.hid HB1a
        replace hne2 := Lib.hid hne2
        replace hnews2 := Lib.hid hnews2
        replace HA1 := Lib.hid HA1
        replace HB1 := Lib.hid HB1
        go_wp2_with (at_builtin; refine wpList_append_lies _ rfl _ _ _ rfl w.heap.size 3 i1 (.int .i64 0) 1 8 Try.underlying24 hi1.out hy0.out hy1.out hy2.out rfl (by decide) vA P1.length _ rfl HA1a.out ⟨w1.heap.size, 0, none⟩ 1 1 [.int .i64 (k : Int)] rfl rfl ?d1 ?d2 (by decide) ?d3 ?d4 ?d5 (w1.heap.size + 1) ?d6 ?_)
        try case d1 => exact hnews2.out
        try case d2 => first | exact ⟨rfl, rfl, rfl⟩ | simp [Value.oneCell']
        try case d3 => unfold maxLen; omega
        try case d4 => omega
        try case d5 => first | omega | (simp; omega)
        try case d6 => first | rfl | simp
        intro g2 cap2 w2 hown2 hgrow2 hat2 hlt2
        have HA2 : Hid (w2.ownsRow w.heap.size 3 1 (.slice (some ⟨g2, 0, none⟩) (P1.length + 1) cap2) P2.length (flat 1 intV (intsOf P2))) := by
          show World.ownsRow _ _ _ _ _ _ _
          rw [ei.out, el.out]; exact hown2
        have HO2 := Lib.hid (HO1a.out.kept hgrow2 hne2.out)
        have HB2 := Lib.hid (below_append HB1a.out HA1a.out hgrow2 (Nat.le_refl _))
        clear hown2 hgrow2 hat2
        go_wp2
        go_roundw
        case rel => exact ⟨k + 1, _, _, by omega, by go_num, rfl, rfl, by rw [hP2.out]; exact HO2, by rw [hP2.out]; exact HA2, HB2⟩
        case measure => simp [intOf]; omega
    · obtain rfl : k = n := by omega
      obtain ⟨A1, c1, rfl⟩ := owns_slice HO.out
      obtain ⟨A2, c2, rfl⟩ := owns_slice HA.out
      have h1 := (lnkS_of_owns HO.out (fun x hx => by
        unfold linksAt at hx
        obtain ⟨y, hy, rfl⟩ := List.mem_map.1 hx
        have hyl := place_mem hy
        exact hs.out.ok _ (by rw [List.getD_eq_getElem?_getD, List.getElem?_eq_getElem (by rw [hlen.out]; exact hyl)]; exact List.getElem_mem _))).2
      have h2 := (intS_of_owns HA.out (fun x hx => by
        unfold intsOf at hx
        obtain ⟨y, hy, rfl⟩ := List.mem_map.1 hx
        have hyl := place_mem hy
        unfold I64; omega)).2
      replace h1 := Lib.hid h1
      replace h2 := Lib.hid h2
      go_wp2
      refine bodyPost_ret (v := .tuple #[.slice A1 (placeOf (pk b) k).length c1, .slice A2 (placeOf (pk b) k).length c2]) (by simp [results, Try.results55, go_sem]) rfl ⟨A1, _, c1, A2, c2, rfl, h1.out, h2.out, rfl, HB.out⟩
theorem drop_at {s : List Nat} {k : Nat} {x : Int} (h : (intsOf s)[k]? = some x) : ∃ q : Nat, x = (q : Int) ∧ s.drop k = q :: s.drop (k + 1) := by
  unfold intsOf at h
  rw [List.getElem?_map] at h
  by_cases hk : k < s.length
  · rw [List.getElem?_eq_getElem hk] at h
    simp at h
    exact ⟨s[k], h.symm, (List.getElem_cons_drop ..).symm⟩
  · rw [List.getElem?_eq_none (by omega)] at h; cases h
set_option maxRecDepth 100000 in
set_option maxHeartbeats 2000000 in
theorem rbefore_any (A B : Option Addr) (n m c d : Nat) (s r : List Nat) (w : World) (hs : IntS w A n (intsOf s)) (hr : IntS w B m (intsOf r)) :
    Calls Try.prog 56 #[.slice A n c, .slice B m d] w fun e w' => e = .returned (.bool (bef s r)) ∧ Below w.heap.size w w' := by
  have hsl : s.length = n := by have := hs.els.len; simpa [intsOf] using this
  have hrl : r.length = m := by have := hr.els.len; simpa [intsOf] using this
  have hbef : bef s r = if n = m then lexB s r else decide (m < n) := by unfold bef; rw [hsl, hrl]
  have hsn := hs.els.small
  have hrn := hr.els.small
  unfold maxLen at hsn hrn
  generalize bef s r = R at *
  replace hs := Lib.hid hs
  replace hr := Lib.hid hr
  replace hsl := Lib.hid hsl
  replace hrl := Lib.hid hrl
  replace hbef := Lib.hid hbef
  go_enter Try.func56, Try.ntmps56
  by_cases hnm : n = m
  · subst hnm
    have hR0 : Hid (R = lexB (s.drop 0) (r.drop 0)) := by show _ = _; rw [hbef.out, if_pos rfl]; rfl
    go_wp2
    go_loopw [5] (fun i wr => ∃ k : Nat, k ≤ n ∧ i = .int .i64 k ∧ Hid (R = lexB (s.drop k) (r.drop k)) ∧ Hid (Below w.heap.size w wr)) (fun i _ => n - (intOf i).toNat)
    case atStart => exact ⟨0, by omega, rfl, hR0, Below.refl _ _⟩
    case round =>
      obtain ⟨k, hk, rfl, HR, HB⟩ := hrel
      clear hR0
      by_cases hlt : k < n
      · obtain ⟨b1, o1, rfl⟩ := hs.out.els.addr (by omega)
        obtain ⟨b2, o2, rfl⟩ := hr.out.els.addr (by omega)
        obtain ⟨x, hx, hxm, q0⟩ := (hs.out.keep HB.out).elem (k := k) (by omega)
        obtain ⟨y, hy, hym, q1⟩ := (hr.out.keep HB.out).elem (k := k) (by omega)
        obtain ⟨p, rfl, hp⟩ := drop_at hx
        obtain ⟨q, rfl, hq⟩ := drop_at hy
        have hR1 := HR.out
        rw [hp, hq] at hR1
        have hR2 : R = if p = q then lexB (s.drop (k + 1)) (r.drop (k + 1)) else decide (p < q) := hR1
        have r1 : (k : Int) < (n : Int) := by omega
        clear hR1 HR
        have p0 := cell_regrown q0
        have p1 := cell_regrown q1
        replace hx := Lib.hid hx
        replace hy := Lib.hid hy
        replace hxm := Lib.hid hxm
        replace hym := Lib.hid hym
        replace hp := Lib.hid hp
        replace hq := Lib.hid hq
        replace hR2 := Lib.hid hR2
        by_cases hpq : p = q
        · subst hpq
          have hR3 : Hid (R = lexB (s.drop (k + 1)) (r.drop (k + 1))) := by show _ = _; rw [hR2.out, if_pos rfl]
          go_wp2_with fail
          refine wp_region_quiet_below (by kernel_rfl) (by kernel_rfl) ?_
          repeat (go_big_quiet_step (fail))
          refine wpQuiet_nil ?_
          rintro _ ⟨⟨dq, osq⟩, rfl⟩
          have hb_ := below_regrown wr dq osq
          replace HB := Lib.hid (HB.out.keep hb_)
          generalize grow (redrawn wr dq) osq = w2 at *
          clear hb_
          go_wp2
          go_roundw
          case rel => exact ⟨k + 1, by omega, by go_num, hR3, HB⟩
          case measure => simp [intOf]; omega
        · have hne : ((p : Int) != (q : Int)) = true := by rw [bne_iff_ne]; omega
          have hR3 : Hid (R = decide (p < q)) := by show _ = _; rw [hR2.out, if_neg hpq]
          have hR4 : decide ((p : Int) < (q : Int)) = decide (p < q) := by by_cases h : p < q <;> simp [h]
          replace hR4 := Lib.hid hR4
          clear hpq
          go_wp2_with fail
          refine wp_region_quiet_below (by kernel_rfl) (by kernel_rfl) ?_
          repeat (go_big_quiet_step (fail))
          refine wpQuiet_nil ?_
          rintro _ ⟨⟨dq, osq⟩, rfl⟩
          have hb_ := below_regrown wr dq osq
          replace HB := Lib.hid (HB.out.keep hb_)
          generalize grow (redrawn wr dq) osq = w2 at *
          clear hb_
          clear p0 p1
          obtain ⟨x2, hx2, _, q0⟩ := (hs.out.keep HB.out).elem (k := k) (by omega)
          obtain ⟨y2, hy2, _, q1⟩ := (hr.out.keep HB.out).elem (k := k) (by omega)
          have e1 : x2 = (p : Int) := by rw [hx.out] at hx2; injection hx2 with hx2; exact hx2.symm
          have e2 : y2 = (q : Int) := by rw [hy.out] at hy2; injection hy2 with hy2; exact hy2.symm
          subst e1 e2
          clear hx2 hy2
          have p0 := cell_regrown q0
          have p1 := cell_regrown q1
          go_wp2_with fail
          refine wp_region_quiet_below (by kernel_rfl) (by kernel_rfl) ?_
          repeat (go_big_quiet_step (fail))
          refine wpQuiet_nil ?_
          rintro _ ⟨⟨dq, osq⟩, rfl⟩
          have hb_ := below_regrown w2 dq osq
          replace HB := Lib.hid (HB.out.keep hb_)
          generalize grow (redrawn w2 dq) osq = w3 at *
          clear hb_
          go_wp2
          go_ret
          exact ⟨by rw [hR3.out, ← hR4.out]; try rfl, HB.out⟩
      · obtain rfl : k = n := by omega
        have hR3 : R = false := by
          rw [HR.out, List.drop_of_length_le (by rw [hsl.out]; exact Nat.le_refl _)]; rfl
        replace hR3 := Lib.hid hR3
        go_wp2
        go_ret
        exact ⟨by rw [hR3.out]; rfl, HB.out⟩
  · have hne : ((n : Int) != (m : Int)) = true := by rw [bne_iff_ne]; omega
    have hR3 : R = decide (m < n) := by rw [hbef.out, if_neg hnm]
    have hR4 : decide ((m : Int) < (n : Int)) = decide (m < n) := by by_cases h : m < n <;> simp [h]
    clear hnm
    replace hR3 := Lib.hid hR3
    replace hR4 := Lib.hid hR4
    go_wp2
    go_ret
    exact ⟨by rw [hR3.out]; try rfl, Below.refl _ _⟩
end Nt
end Go.Proofs.Ythibgpgjioepfaa
namespace Go.Proofs.Ythibgpgjioepfaa
open Go Go.RowKit Go.Sort
namespace Nt
open Mm
theorem cells_links (ls : List Lnk) (s : List Nat) : (linksAt ls s).map cellOf = cellsAt ls s := by unfold linksAt cellsAt; rw [List.map_map]; rfl
def rLg (N : Net) (ls : List Lnk) (b : Nat) : List Nat := refB (goodAt N ls) (fun b => placeOf (pk b) ls.length) b
theorem rLg_succ (N : Net) (ls : List Lnk) (b : Nat) : rLg N ls (b + 1) = if (bef (placeOf (pk b) ls.length) (rLg N ls b) && goodN N (cellsAt ls (placeOf (pk b) ls.length))) = true then placeOf (pk b) ls.length else rLg N ls b := rfl
def RLgP (s : List Nat) (w : World) (e : Ending) (w' : World) : Prop := ∃ A' m c', e = .returned (.tuple #[.slice A' m c', .int .i64 0]) ∧ IntS w' A' m (intsOf s) ∧ Below w.heap.size w w'
def RLargestPost (N : Net) (ls : List Lnk) (w : World) (e : Ending) (w' : World) : Prop :=
  RLgP (rLg N ls (2 ^ ls.length)) w e w'
set_option maxRecDepth 100000 in
set_option maxHeartbeats 2000000 in
theorem rLargest_err (N : Net) (v : NetV) (A : Option Addr) (n c : Nat) (w : World) (hN : NetIs w v N) (hc : check N ≠ 0 ∨ 12 < n) :
    Calls Try.prog 30 #[.agg #[.int .i64 N.nodes, .slice v.PA v.pn v.pc, .int .i64 N.noise, .int .i64 N.threshold, .slice v.LA v.ln v.lc, .slice v.MA v.mn v.mc], .slice A n c] w fun e w' => e = .returned (.tuple #[.slice none 0 0, .int .i64 (if check N = 0 then 8 else 1)]) ∧ Below w.heap.size w w' := by
  have BX := Box.new w #[.int .i64 N.nodes, .slice v.PA v.pn v.pc, .int .i64 N.noise, .int .i64 N.threshold, .slice v.LA v.ln v.lc, .slice v.MA v.mn v.mc] 26
  have hbw := below_alloc w (.cells #[.int .i64 N.nodes, .slice v.PA v.pn v.pc, .int .i64 N.noise, .int .i64 N.threshold, .slice v.LA v.ln v.lc, .slice v.MA v.mn v.mc] 26)
  have HC := rcheck_any N v _ (hN.keep hbw)
  replace HC := Lib.hid HC
  replace hN := Lib.hid hN
  replace BX := Lib.hid BX
  replace hbw := Lib.hid hbw
  generalize check N = C at *
  go_enter Try.func30, Try.ntmps30
  have kx := BX.out.at_
  go_wp2_with fail
  refine HC.out.mono ?_
  rintro e w1 ⟨rfl, hb_⟩
  clear kx
  replace hbw := Lib.hid (hbw.out.keep hb_)
  clear hb_
  by_cases c0 : C = 0
  · have hn : 12 < n := by rcases hc with h | h; · exact absurd c0 h
                           · exact h
    subst c0
    go_wp2
    refine bodyPost_ret (v := .tuple #[.slice none 0 0, .int .i64 8]) (by simp [results, Try.results30, go_sem]) rfl ⟨rfl, hbw.out⟩
  · have d : (C != 0) = true := by rw [bne_iff_ne]; exact c0
    have e1 : (if C = 0 then (8 : Int) else 1) = 1 := if_neg c0
    clear hc
    replace c0 := Lib.hid c0
    replace e1 := Lib.hid e1
    go_wp2
    refine bodyPost_ret (v := .tuple #[.slice none 0 0, .int .i64 1]) (by simp [results, Try.results30, go_sem]) rfl ⟨rfl, hbw.out⟩
set_option maxRecDepth 100000 in
set_option maxHeartbeats 8000000 in
theorem rLargest_any (N : Net) (v : NetV) (ls : List Lnk) (A : Option Addr) (n c : Nat) (w : World) (hN : NetIs w v N) (hL : LnkS w A n ls) (hc : check N = 0) (hn : n ≤ 12) :
    Calls Try.prog 30 #[.agg #[.int .i64 N.nodes, .slice v.PA v.pn v.pc, .int .i64 N.noise, .int .i64 N.threshold, .slice v.LA v.ln v.lc, .slice v.MA v.mn v.mc], .slice A n c] w (RLargestPost N ls w) := by
  have hlen := hL.els.len
  have BX := Box.new w #[.int .i64 N.nodes, .slice v.PA v.pn v.pc, .int .i64 N.noise, .int .i64 N.threshold, .slice v.LA v.ln v.lc, .slice v.MA v.mn v.mc] 26
  have hbw := below_alloc w (.cells #[.int .i64 N.nodes, .slice v.PA v.pn v.pc, .int .i64 N.noise, .int .i64 N.threshold, .slice v.LA v.ln v.lc, .slice v.MA v.mn v.mc] 26)
  have HC := rcheck_any N v _ (hN.keep hbw)
  rw [hc] at HC
  have HSo := fun W (h : LnkS W A n ls) (b : Nat) => rSome_any A n c ls b W h hn
  have HBe := fun W A1 A2 n1 n2 c1 c2 s r (h1 : IntS W A1 n1 (intsOf s)) (h2 : IntS W A2 n2 (intsOf r)) => rbefore_any A1 A2 n1 n2 c1 c2 s r W h1 h2
  have HCe := fun W A1 n1 c1 ds (h : LnkS W A1 n1 ds) (hn : n1 ≤ 1000) => rCells_any A1 n1 c1 ds W h hn
  have HGo := fun W (h : NetIs W v N) A1 n1 c1 cs (h2 : CelS W A1 n1 cs) (hn : n1 ≤ 60) => rGood_any N v A1 n1 c1 cs W h h2 hn
  have hst := fun b => rLg_succ N ls b
  have h2n : 2 ^ n ≤ 4096 := Nat.le_trans (Nat.pow_le_pow_right (by decide) hn) (by decide)
  rw [hlen] at hst
  have hpl := fun (b : Nat) => place_le (pk b) n
  have hwr : RowKit.wrap64 (2 ^ n) = ((2 ^ n : Nat) : Int) := by
    have h : ((2 : Int) ^ n) = ((2 ^ n : Nat) : Int) := by push_cast; rfl
    have h3 : ∀ M : Nat, M ≤ 4096 → RowKit.wrap64 (M : Int) = (M : Int) := fun M h => by unfold RowKit.wrap64; omega
    rw [h]; exact h3 _ h2n
  have hR0 : rLg N ls 0 = [] := rfl
  have h2p : 0 < 2 ^ n := Nat.pow_pos (by decide)
  have hout : rLg N ls (2 ^ ls.length) = rLg N ls (2 ^ n) := by rw [hlen]
  unfold RLargestPost
  rw [hout]
  clear hout
  replace HC := Lib.hid HC
  replace hN := Lib.hid hN
  replace hL := Lib.hid hL
  replace BX := Lib.hid BX
  replace hbw := Lib.hid hbw
  replace HSo := Lib.hid HSo
  replace HBe := Lib.hid HBe
  replace HCe := Lib.hid HCe
  replace HGo := Lib.hid HGo
  replace hst := Lib.hid hst
  replace hlen := Lib.hid hlen
  replace hpl := Lib.hid hpl
  replace hR0 := Lib.hid hR0
  generalize hMM : (2 ^ n : Nat) = M at *
  clear hMM
  generalize hRL : rLg N ls = RL at *
  clear hRL
  suffices HH : Calls Try.prog 30 #[.agg #[.int .i64 N.nodes, .slice v.PA v.pn v.pc, .int .i64 N.noise, .int .i64 N.threshold, .slice v.LA v.ln v.lc, .slice v.MA v.mn v.mc], .slice A n c] w (fun e w' => RLgP (RL M) w e w') from HH
  go_enter Try.func30, Try.ntmps30
  have kx := BX.out.at_
  go_wp2_with fail
  refine HC.out.mono ?_
  rintro e w1 ⟨rfl, hb_⟩
  clear kx
  replace hbw := Lib.hid (hbw.out.keep hb_)
  replace BX := Lib.hid (BX.out.keep hb_)
  clear hb_
  have hbw2 := below_allocN hbw.out (.cells #[] 3)
  replace hbw2 := Lib.hid hbw2
  have hI0 : Hid (IntS (w1.alloc (.cells #[] 3)) (some ⟨w1.heap.size, 0, none⟩) 0 (intsOf (RL 0))) := by
    show IntS _ _ _ _
    rw [hR0.out]
    exact ⟨⟨rfl, by decide, fun h => absurd h (by omega)⟩, fun x hx => by cases hx⟩
  go_wp2_with fail
  go_loopw [6, 7] (fun o i wr => ∃ (b : Nat) (A6 : Option Addr) (m6 c6 : Nat), b ≤ M ∧ i = .int .i64 b ∧ o = .slice A6 m6 c6 ∧ Hid (IntS wr A6 m6 (intsOf (RL b))) ∧ Hid (Below w.heap.size w wr) ∧ Hid (Below w1.heap.size w1 wr)) (fun _ i _ => M - (intOf i).toNat)
  case atStart => exact ⟨0, _, _, _, by omega, rfl, rfl, hI0, hbw2, below_alloc _ _⟩
  case round =>
    obtain ⟨b, A6, m6, c6, hb, rfl, rfl, HI, HB, HB1⟩ := hrel
    clear hI0
    by_cases hlt : b < M
    · go_wp2_with fail
      refine (HSo.out wr (hL.out.keep HB.out) b).mono ?_
      rintro e w2 ⟨A1, m1, c1, A2, c2, rfl, h1, h2, hm1, hb_⟩
      have HN := hN.out.keep HB.out
      have HX1 := BX.out.keep HB1.out
      replace HB := Lib.hid (bthen HB.out hb_)
      replace HI := Lib.hid (HI.out.keep hb_)
      have w1b := Lib.hid (bthen HB1.out hb_)
      clear HB1
      have hm1l := hpl.out b
      rw [← hm1] at hm1l
      have hsb := hst.out b
      have HXn := HX1.keep hb_
      have HNn := HN.keep hb_
      generalize placeOf (pk b) n = s at *
      have HX : Hid (∀ w', Below w2.heap.size w2 w' → (Below w2.heap.size w2 w' ∧ (w'.cell? ⟨w.heap.size, 0, none⟩ = some (.int .i64 N.nodes) ∧ w'.cell? ⟨w.heap.size, 1, none⟩ = some (.slice v.PA v.pn v.pc) ∧ w'.cell? ⟨w.heap.size, 2, none⟩ = some (.int .i64 N.noise) ∧ w'.cell? ⟨w.heap.size, 3, none⟩ = some (.int .i64 N.threshold) ∧ w'.cell? ⟨w.heap.size, 4, none⟩ = some (.slice v.LA v.ln v.lc) ∧ w'.cell? ⟨w.heap.size, 5, none⟩ = some (.slice v.MA v.mn v.mc)))) := fun w' h =>
        ⟨h, (HXn.keep h).at_ 0, (HXn.keep h).at_ 1, (HXn.keep h).at_ 2, (HXn.keep h).at_ 3, (HXn.keep h).at_ 4, (HXn.keep h).at_ 5⟩
      have kz := HX.out _ (Below.refl _ _)
      have cB := fun W (h : Below w2.heap.size w2 W) => HBe.out W A2 A6 m1 m6 c2 c6 s (RL b) (h2.keep h) (HI.out.keep h)
      have cC := fun W (h : Below w2.heap.size w2 W) => HCe.out W A1 m1 c1 _ (h1.keep h) (by omega)
      rw [cells_links] at cC
      have cG := fun W (h : Below w2.heap.size w2 W) A1 c1 (h2 : CelS W A1 m1 (cellsAt ls s)) => HGo.out W (HNn.keep h) A1 m1 c1 _ h2 (by omega)
      generalize bef s (RL b) = BF at *
      generalize goodN N (cellsAt ls s) = GF at *
      replace h1 := Lib.hid h1
      replace h2 := Lib.hid h2
      replace hm1 := Lib.hid hm1
      replace hsb := Lib.hid hsb
      replace HXn := Lib.hid HXn
      replace HNn := Lib.hid HNn
      replace cB := Lib.hid cB
      replace cC := Lib.hid cC
      replace cG := Lib.hid cG
      clear HX1 HN hb_
      go_upto_region 10 with fail
      cases BF with
      | false =>
        have hs2 := hsb.out
        rw [Bool.false_and, if_neg (by decide)] at hs2
        have HI2 : Hid (IntS w2 A6 m6 (intsOf (RL (b + 1)))) := by show IntS _ _ _ _; rw [hs2]; exact HI.out
        replace hs2 := Lib.hid hs2
        have cl : ∀ d os, Calls Try.prog 56 #[.slice A2 m1 c2, .slice A6 m6 c6] (grow (redrawn w2 d) os) fun e w'' => e = .returned (.bool false) ∧ ∃ p : Regrown, w'' = grow (redrawn w2 p.d) p.os := fun d os => Calls.regrown_of (cB.out _ (below_regrown w2 d os))
        replace cl := Lib.hid cl
        refine wp_region_quiet_below (by kernel_rfl) (by kernel_rfl) ?_
        repeat (go_big_quiet_step (exact cl.out _ _))
        refine wpQuiet_nil ?_
        rintro _ ⟨⟨dq, osq⟩, rfl⟩
        have hb_ := below_regrown w2 dq osq
        replace HI2 := Lib.hid (HI2.out.keep hb_)
        replace HB := Lib.hid (HB.out.keep hb_)
        replace w1b := Lib.hid (w1b.out.keep hb_)
        generalize grow (redrawn w2 dq) osq = w5 at *
        clear hb_
        go_wp2
        go_roundw
        case rel => exact ⟨b + 1, _, _, _, by omega, by go_num, rfl, HI2, HB, w1b⟩
        case measure => simp [intOf]; omega
      | true =>
        go_region_held3 (fun w' => Below w2.heap.size w2 w' ∧ (w'.cell? ⟨w.heap.size, 0, none⟩ = some (.int .i64 N.nodes) ∧ w'.cell? ⟨w.heap.size, 1, none⟩ = some (.slice v.PA v.pn v.pc) ∧ w'.cell? ⟨w.heap.size, 2, none⟩ = some (.int .i64 N.noise) ∧ w'.cell? ⟨w.heap.size, 3, none⟩ = some (.int .i64 N.threshold) ∧ w'.cell? ⟨w.heap.size, 4, none⟩ = some (.slice v.LA v.ln v.lc) ∧ w'.cell? ⟨w.heap.size, 5, none⟩ = some (.slice v.MA v.mn v.mc)))
          (first
            | exact HX.out _ ((Below.refl _ _).drew)
            | exact HX.out _ (by assumption)
            | exact HX.out _ (bthen (And.left (by assumption)) (by assumption)))
          (first
            | (go_at_call 56; refine (cB.out _ (And.left (by assumption))).mono ?_; rintro e wf ⟨rfl, hb4⟩)
            | (go_at_call 50; refine (cC.out _ (And.left (by assumption))).mono ?_; rintro e wf ⟨A7, c7, rfl, hC7, hb4⟩)
            | (go_at_call 22; refine (cG.out _ (And.left (by assumption)) _ _ (by assumption)).mono ?_; rintro e wf ⟨rfl, hb4⟩))
        have hB4 : Below w2.heap.size w2 wf := And.left (by assumption)
        have HB3 := Lib.hid (bthen HB.out hB4)
        have w1c := Lib.hid (bthen w1b.out hB4)
        have hs2 := hsb.out
        rw [Bool.true_and] at hs2
        cases GF with
        | false =>
          have HI2 : Hid (IntS wf A6 m6 (intsOf (RL (b + 1)))) := by show IntS _ _ _ _; rw [hs2, if_neg (by decide)]; exact HI.out.keep hB4
          replace hs2 := Lib.hid hs2
          go_wp2
          go_roundw
          case rel => exact ⟨b + 1, _, _, _, by omega, by go_num, rfl, HI2, HB3, w1c⟩
          case measure => simp [intOf]; omega
        | true =>
          have HI2 : Hid (IntS wf A2 m1 (intsOf (RL (b + 1)))) := by show IntS _ _ _ _; rw [hs2, if_pos rfl]; exact h2.out.keep hB4
          replace hs2 := Lib.hid hs2
          go_wp2
          go_roundw
          case rel => exact ⟨b + 1, _, _, _, by omega, by go_num, rfl, HI2, HB3, w1c⟩
          case measure => simp [intOf]; omega
    · obtain rfl : b = M := by omega
      go_wp2
      refine bodyPost_ret (v := .tuple #[.slice A6 m6 c6, .int .i64 0]) (by simp [results, Try.results30, go_sem]) rfl ⟨A6, m6, c6, rfl, HI.out, HB.out⟩
end Nt
end Go.Proofs.Ythibgpgjioepfaa
namespace Go.Proofs.Ythibgpgjioepfaa
open Go Go.RowKit Go.Sort
namespace Nt
open Mm
def cf2 (x y : Int × Int) : Int := if cmpI x.1 y.1 = 0 then cmpI x.2 y.2 else cmpI x.1 y.1
set_option maxRecDepth 100000 in
set_option maxHeartbeats 2000000 in
theorem compare2_any (A B : Nat) (c d : Nat) (x y : Int × Int) (w : World) (ha : Box w A #[.int .i64 x.1, .int .i64 x.2]) (hb : Box w B #[.int .i64 y.1, .int .i64 y.2]) :
    Calls Try.prog 59 #[.slice (some ⟨A, 0, none⟩) 2 c, .slice (some ⟨B, 0, none⟩) 2 d] w fun e w' => e = .returned (.int .i64 (cf2 x y)) ∧ w' = w := by
  obtain ⟨x1, x2⟩ := x
  obtain ⟨y1, y2⟩ := y
  have hcf : cf2 (x1, x2) (y1, y2) = if cmpI x1 y1 = 0 then cmpI x2 y2 else cmpI x1 y1 := rfl
  generalize cf2 (x1, x2) (y1, y2) = R at *
  have k0 := ha.at_ 0
  have k1 := ha.at_ 1
  have l0 := hb.at_ 0
  have l1 := hb.at_ 1
  simp only [List.getElem?_toArray, List.getElem?_cons_zero, List.getElem?_cons_succ] at k0 k1 l0 l1
  have c1 := fun a b w => cmp_any a b w
  generalize cmpI = CI at *
  replace hcf := Lib.hid hcf
  replace c1 := Lib.hid c1
  by_cases h1 : CI x1 y1 = 0
  · have e1 : Hid (R = CI x2 y2) := by show _ = _; rw [hcf.out, if_pos h1]
    have h1' : (CI x1 y1 != 0) = false := by rw [h1]; rfl
    replace h1 := Lib.hid h1
    by_cases h2 : CI x2 y2 = 0
    · have h2' : (CI x2 y2 != 0) = false := by rw [h2]; rfl
      have e2 : Hid (R = 0) := by show _ = _; rw [e1.out, h2]
      replace h2 := Lib.hid h2
      go_enter Try.func59, Try.ntmps59
      go_wp2_with fail
      refine wp_loop_rounds 3 ?_
      rw [rounds_succ]
      go_wp2_with (first | (go_at_call 81; refine (c1.out _ _ _).mono ?_; rintro e w1 ⟨rfl, rfl⟩))
      rw [rounds_succ]
      go_wp2_with (first | (go_at_call 81; refine (c1.out _ _ _).mono ?_; rintro e w1 ⟨rfl, rfl⟩))
      rw [rounds_succ]
      go_wp2
      go_ret
      exact ⟨by rw [e2.out]; rfl, rfl⟩
    · have h2' : (CI x2 y2 != 0) = true := by rw [bne_iff_ne]; exact h2
      clear h2
      go_enter Try.func59, Try.ntmps59
      go_wp2_with fail
      refine wp_loop_rounds 3 ?_
      rw [rounds_succ]
      go_wp2_with (first | (go_at_call 81; refine (c1.out _ _ _).mono ?_; rintro e w1 ⟨rfl, rfl⟩))
      rw [rounds_succ]
      go_wp2_with (first | (go_at_call 81; refine (c1.out _ _ _).mono ?_; rintro e w1 ⟨rfl, rfl⟩))
      go_ret
      exact ⟨by rw [e1.out]; rfl, rfl⟩
  · have h1' : (CI x1 y1 != 0) = true := by rw [bne_iff_ne]; exact h1
    have e1 : Hid (R = CI x1 y1) := by show _ = _; rw [hcf.out, if_neg h1]
    clear h1
    go_enter Try.func59, Try.ntmps59
    go_wp2_with fail
    refine wp_loop_rounds 3 ?_
    rw [rounds_succ]
    go_wp2_with (first | (go_at_call 81; refine (c1.out _ _ _).mono ?_; rintro e w1 ⟨rfl, rfl⟩))
    go_ret
    exact ⟨by rw [e1.out]; rfl, rfl⟩
set_option maxRecDepth 100000 in
set_option maxHeartbeats 2000000 in
theorem pairsCmp_any (x y : Int × Int) (w : World) :
    Calls Try.prog 58 #[.agg #[.int .i64 x.1, .int .i64 x.2], .agg #[.int .i64 y.1, .int .i64 y.2]] w fun e w' => e = .returned (.int .i64 (cf2 x y)) ∧ ∃ q os, w' = grow (w.drewN q) os := by
  have BX := (Box.new w #[.int .i64 x.1, .int .i64 x.2] 63).alloc (.cells #[.int .i64 y.1, .int .i64 y.2] 63)
  have BY := Box.new (w.alloc (.cells #[.int .i64 x.1, .int .i64 x.2] 63)) #[.int .i64 y.1, .int .i64 y.2] 63
  rw [size_alloc1] at BY
  have cc := fun W (h1 : Box W w.heap.size #[.int .i64 x.1, .int .i64 x.2]) (h2 : Box W (w.heap.size + 1) #[.int .i64 y.1, .int .i64 y.2]) => compare2_any w.heap.size (w.heap.size + 1) 2 2 x y W h1 h2
  replace BX := Lib.hid BX
  replace BY := Lib.hid BY
  replace cc := Lib.hid cc
  go_enter Try.func58, Try.ntmps58
  go_wp2_with fail
  go_region_with (first | (go_at_call 59; refine (cc.out _ (BX.out.keep ((Below.refl _ _).drew)) (BY.out.keep ((Below.refl _ _).drew))).mono ?_; rintro e w1 ⟨rfl, rfl⟩))
  all_goals
    go_wp2
    go_ret
    exact ⟨rfl, 1, #[.cells #[.int .i64 x.1, .int .i64 x.2] 63, .cells #[.int .i64 y.1, .int .i64 y.2] 63], by rw [alloc_eq_grow, alloc_eq_grow, grow_grow]; rfl⟩
end Nt
end Go.Proofs.Ythibgpgjioepfaa
namespace Go.Proofs.Ythibgpgjioepfaa
open Go Go.RowKit Go.Sort
namespace Nt
def ltP (x y : Int × Int) : Prop := x.1 < y.1 ∨ (x.1 = y.1 ∧ x.2 < y.2)
theorem cf2_lt (x y : Int × Int) : cf2 x y < 0 ↔ ltP x y := by
  unfold cf2 cmpI ltP
  by_cases h1 : x.1 < y.1
  · simp [h1]
  · by_cases h2 : y.1 < x.1
    · simp [h1, h2]; omega
    · have e : x.1 = y.1 := by omega
      rw [e]
      simp
      by_cases h3 : x.2 < y.2
      · simp [h3]
      · by_cases h4 : y.2 < x.2 <;> simp [h3, h4]
theorem ltP_irrefl (x : Int × Int) : ¬ ltP x x := by unfold ltP; omega
theorem ltP_trans {x y z : Int × Int} (h1 : ltP x y) (h2 : ltP y z) : ltP x z := by unfold ltP at *; omega
theorem ltP_tri {x y : Int × Int} (h1 : ¬ ltP x y) (h2 : ¬ ltP y x) : x = y := by
  unfold ltP at *
  obtain ⟨a, b⟩ := x
  obtain ⟨c, d⟩ := y
  dsimp only at *
  have e1 : a = c := by omega
  have e2 : b = d := by omega
  rw [e1, e2]
def rowR (bad : Nat → Nat → Bool) (i : Nat) : Nat → List (Int × Int)
  | 0 => []
  | k + 1 => rowR bad i k ++ (if (decide (i < k) && bad i k) = true then [((i : Int), (k : Int))] else [])
def outR (bad : Nat → Nat → Bool) (n : Nat) : Nat → List (Int × Int)
  | 0 => []
  | i + 1 => outR bad n i ++ rowR bad i n
def colC (bad : Nat → Nat → Bool) (k : Nat) : Nat → List (Int × Int)
  | 0 => []
  | i + 1 => colC bad k i ++ (if bad i k = true then [((i : Int), (k : Int))] else [])
def outC (bad : Nat → Nat → Bool) : Nat → List (Int × Int)
  | 0 => []
  | k + 1 => outC bad k ++ colC bad k k
theorem rowR_start (bad : Nat → Nat → Bool) (i k : Nat) (hk : k ≤ i + 1) : rowR bad i k = [] := by
  induction k with
  | zero => rfl
  | succ k ih =>
    simp only [rowR]
    rw [ih (by omega), if_neg (by simp; omega)]
    rfl
theorem rowR_mem (bad : Nat → Nat → Bool) (i m : Nat) (p : Int × Int) : p ∈ rowR bad i m ↔ ∃ k : Nat, p = ((i : Int), (k : Int)) ∧ i < k ∧ k < m ∧ bad i k = true := by
  induction m with
  | zero => simp [rowR]
  | succ m ih =>
    simp only [rowR, List.mem_append, ih]
    constructor
    · rintro (⟨k, h1, h2, h3, h4⟩ | h)
      · exact ⟨k, h1, h2, by omega, h4⟩
      · split at h
        · rename_i hc
          rw [Bool.and_eq_true, decide_eq_true_eq] at hc
          exact ⟨m, List.mem_singleton.1 h, hc.1, by omega, hc.2⟩
        · cases h
    · rintro ⟨k, h1, h2, h3, h4⟩
      by_cases e : k = m
      · subst e
        exact .inr (by rw [if_pos (by simp [h2, h4])]; exact List.mem_singleton.2 h1)
      · exact .inl ⟨k, h1, h2, by omega, h4⟩
theorem outR_mem (bad : Nat → Nat → Bool) (n m : Nat) (p : Int × Int) : p ∈ outR bad n m ↔ ∃ i k : Nat, p = (((i : Nat) : Int), ((k : Nat) : Int)) ∧ i < m ∧ i < k ∧ k < n ∧ bad i k = true := by
  induction m with
  | zero => simp [outR]
  | succ m ih =>
    simp only [outR, List.mem_append, ih, rowR_mem]
    constructor
    · rintro (⟨i, k, h1, h2, h3⟩ | ⟨k, h1, h3⟩)
      · exact ⟨i, k, h1, by omega, h3⟩
      · exact ⟨m, k, h1, by omega, h3⟩
    · rintro ⟨i, k, h1, h2, h3⟩
      by_cases e : i = m
      · subst e; exact .inr ⟨k, h1, h3⟩
      · exact .inl ⟨i, k, h1, by omega, h3⟩
theorem colC_mem (bad : Nat → Nat → Bool) (k m : Nat) (p : Int × Int) : p ∈ colC bad k m ↔ ∃ i : Nat, p = (((i : Nat) : Int), (k : Int)) ∧ i < m ∧ bad i k = true := by
  induction m with
  | zero => simp [colC]
  | succ m ih =>
    simp only [colC, List.mem_append, ih]
    constructor
    · rintro (⟨i, h1, h2, h3⟩ | h)
      · exact ⟨i, h1, by omega, h3⟩
      · split at h
        · exact ⟨m, List.mem_singleton.1 h, by omega, by assumption⟩
        · cases h
    · rintro ⟨i, h1, h2, h3⟩
      by_cases e : i = m
      · subst e; exact .inr (by rw [if_pos h3]; exact List.mem_singleton.2 h1)
      · exact .inl ⟨i, h1, by omega, h3⟩
theorem outC_mem (bad : Nat → Nat → Bool) (m : Nat) (p : Int × Int) : p ∈ outC bad m ↔ ∃ i k : Nat, p = (((i : Nat) : Int), ((k : Nat) : Int)) ∧ i < k ∧ k < m ∧ bad i k = true := by
  induction m with
  | zero => simp [outC]
  | succ m ih =>
    simp only [outC, List.mem_append, ih, colC_mem]
    constructor
    · rintro (⟨i, k, h1, h2, h3, h4⟩ | ⟨i, h1, h2, h3⟩)
      · exact ⟨i, k, h1, h2, by omega, h4⟩
      · exact ⟨i, m, h1, h2, by omega, h3⟩
    · rintro ⟨i, k, h1, h2, h3, h4⟩
      by_cases e : k = m
      · subst e; exact .inr ⟨i, h1, h2, h4⟩
      · exact .inl ⟨i, k, h1, h2, by omega, h4⟩
theorem rowR_sorted (bad : Nat → Nat → Bool) (i m : Nat) : (rowR bad i m).Pairwise ltP := by
  induction m with
  | zero => exact List.Pairwise.nil
  | succ m ih =>
    simp only [rowR]
    rw [List.pairwise_append]
    refine ⟨ih, by split <;> simp, fun a ha b hb => ?_⟩
    obtain ⟨k, rfl, h1, h2, h3⟩ := (rowR_mem ..).1 ha
    split at hb
    · obtain rfl := List.mem_singleton.1 hb
      exact .inr ⟨rfl, by dsimp only; omega⟩
    · cases hb
theorem outR_sorted (bad : Nat → Nat → Bool) (n m : Nat) : (outR bad n m).Pairwise ltP := by
  induction m with
  | zero => exact List.Pairwise.nil
  | succ m ih =>
    simp only [outR]
    rw [List.pairwise_append]
    refine ⟨ih, rowR_sorted .., fun a ha b hb => ?_⟩
    obtain ⟨i, k, rfl, h1, h2⟩ := (outR_mem ..).1 ha
    obtain ⟨k2, rfl, h3⟩ := (rowR_mem ..).1 hb
    exact .inl (by dsimp only; omega)
theorem colC_nodup (bad : Nat → Nat → Bool) (k m : Nat) : (colC bad k m).Nodup := by
  induction m with
  | zero => exact List.nodup_nil
  | succ m ih =>
    simp only [colC]
    rw [List.nodup_append]
    refine ⟨ih, by split <;> simp, fun a ha b hb e => ?_⟩
    obtain ⟨i, rfl, h1, h2⟩ := (colC_mem ..).1 ha
    split at hb
    · obtain rfl := List.mem_singleton.1 hb
      have := congrArg Prod.fst e
      dsimp only at this
      omega
    · cases hb
theorem outC_nodup (bad : Nat → Nat → Bool) (m : Nat) : (outC bad m).Nodup := by
  induction m with
  | zero => exact List.nodup_nil
  | succ m ih =>
    simp only [outC]
    rw [List.nodup_append]
    refine ⟨ih, colC_nodup .., fun a ha b hb e => ?_⟩
    obtain ⟨i, k, rfl, h1, h2, h3⟩ := (outC_mem ..).1 ha
    obtain ⟨i2, rfl, h4⟩ := (colC_mem ..).1 hb
    have := congrArg Prod.snd e
    dsimp only at this
    omega
theorem pairs_perm (bad : Nat → Nat → Bool) (n : Nat) : (outC bad n).Perm (outR bad n n) := by
  refine (List.perm_ext_iff_of_nodup (outC_nodup bad n) ((outR_sorted bad n n).imp fun {a b} (h : ltP a b) (e : a = b) => ltP_irrefl a (by rw [← e] at h; exact h))).2 fun p => ?_
  rw [outC_mem, outR_mem]
  constructor
  · rintro ⟨i, k, h1, h2, h3, h4⟩; exact ⟨i, k, h1, by omega, h2, h3, h4⟩
  · rintro ⟨i, k, h1, _, h2, h3, h4⟩; exact ⟨i, k, h1, h2, h3, h4⟩
theorem pairs_sorted (bad : Nat → Nat → Bool) (n : Nat) : (outC bad n).mergeSort (fun x y => !decide (cf2 y x < 0)) = outR bad n n := by
  have hle : ∀ x y, (!decide (cf2 y x < 0)) = true ↔ ¬ ltP y x := fun x y => by
    rw [Bool.not_eq_true', decide_eq_false_iff_not, cf2_lt]
  refine List.Perm.eq_of_pairwise (le := fun x y => (!decide (cf2 y x < 0)) = true) (fun a b _ _ h1 h2 => ?_) (List.pairwise_mergeSort (fun a b c h1 h2 => ?_) (fun a b => ?_) _) ((outR_sorted bad n n).imp fun {a b} h => ?_) ((List.mergeSort_perm _ _).trans (pairs_perm bad n))
  · rw [hle] at h1 h2; exact ltP_tri h2 h1
  · rw [hle] at *
    intro h
    by_cases e1 : ltP a b
    · exact h2 (ltP_trans h e1)
    · have := ltP_tri e1 h1
      subst this
      exact h2 h
  · rw [Bool.or_eq_true, hle, hle]
    by_cases h : ltP b a
    · exact .inr fun h2 => ltP_irrefl _ (ltP_trans h h2)
    · exact .inl h
  · rw [hle]
    exact fun h2 => ltP_irrefl _ (ltP_trans h h2)
theorem rowR_len (bad : Nat → Nat → Bool) (i m : Nat) : (rowR bad i m).length ≤ m := by
  induction m with
  | zero => simp [rowR]
  | succ m ih => simp only [rowR, List.length_append]; split <;> simp <;> omega
theorem outR_len (bad : Nat → Nat → Bool) (n m : Nat) : (outR bad n m).length ≤ m * n := by
  induction m with
  | zero => simp [outR]
  | succ m ih => simp only [outR, List.length_append]; have := rowR_len bad m n; rw [Nat.add_mul]; omega
theorem colC_len (bad : Nat → Nat → Bool) (k m : Nat) : (colC bad k m).length ≤ m := by
  induction m with
  | zero => simp [colC]
  | succ m ih => simp only [colC, List.length_append]; split <;> simp <;> omega
theorem outC_len (bad : Nat → Nat → Bool) (n m : Nat) (h : m ≤ n) : (outC bad m).length ≤ m * n := by
  induction m with
  | zero => simp [outC]
  | succ m ih => simp only [outC, List.length_append]; have := colC_len bad m m; have := ih (by omega); rw [Nat.add_mul]; omega
end Nt
end Go.Proofs.Ythibgpgjioepfaa
namespace Go.Proofs.Ythibgpgjioepfaa
open Go Go.RowKit Go.Sort
namespace Nt
open Mm
def prE (x : Int × Int) : List Value := [.int .i64 x.1, .int .i64 x.2]
def prs (xs : List (Int × Int)) : List Value := xs.flatMap prE
theorem prs_app (xs ys : List (Int × Int)) : prs (xs ++ ys) = prs xs ++ prs ys := by unfold prs; rw [List.flatMap_append]
theorem prs_len (xs : List (Int × Int)) : (prs xs).length = xs.length * 2 := by
  induction xs with
  | nil => rfl
  | cons x xs ih => show (prE x ++ prs xs).length = _; rw [List.length_append, ih]; simp [prE]; omega
theorem info_pr : (Try.prog.info? 63).map (fun i => (i.zero, i.size, i.bytes)) = some (some (.agg #[.int .i64 0, .int .i64 0]), 2, 16) := by kernel_rfl
def badN (N : Net) (ls : List Lnk) (i k : Nat) : Bool := !togetherN N (ls.getD i default) (ls.getD k default)
theorem rowR_succ (bad : Nat → Nat → Bool) (i k : Nat) (h : i < k) : rowR bad i (k + 1) = rowR bad i k ++ (if bad i k = true then [((i : Int), (k : Int))] else []) := by
  have : decide (i < k) = true := by simpa using h
  simp only [rowR, this, Bool.true_and]
def RPairsPost (xs : List (Int × Int)) (w : World) (e : Ending) (w' : World) : Prop :=
  ∃ A' c', e = .returned (.tuple #[.slice A' xs.length c', .int .i64 0]) ∧ w'.ownsRow w.heap.size 63 2 (.slice A' xs.length c') xs.length (prs xs) ∧ Below w.heap.size w w'
set_option maxRecDepth 100000 in
set_option maxHeartbeats 2000000 in
theorem rPairs_err (N : Net) (v : NetV) (A : Option Addr) (n c : Nat) (w : World) (hN : NetIs w v N) (hc : check N ≠ 0 ∨ 45 < n) :
    Calls Try.prog 32 #[.agg #[.int .i64 N.nodes, .slice v.PA v.pn v.pc, .int .i64 N.noise, .int .i64 N.threshold, .slice v.LA v.ln v.lc, .slice v.MA v.mn v.mc], .slice A n c] w fun e w' => e = .returned (.tuple #[.slice none 0 0, .int .i64 (if check N = 0 then 8 else 1)]) ∧ Below w.heap.size w w' := by
  have BX := Box.new w #[.int .i64 N.nodes, .slice v.PA v.pn v.pc, .int .i64 N.noise, .int .i64 N.threshold, .slice v.LA v.ln v.lc, .slice v.MA v.mn v.mc] 26
  have hbw := below_alloc w (.cells #[.int .i64 N.nodes, .slice v.PA v.pn v.pc, .int .i64 N.noise, .int .i64 N.threshold, .slice v.LA v.ln v.lc, .slice v.MA v.mn v.mc] 26)
  have HC := rcheck_any N v _ (hN.keep hbw)
  replace HC := Lib.hid HC
  replace hN := Lib.hid hN
  replace BX := Lib.hid BX
  replace hbw := Lib.hid hbw
  generalize check N = C at *
  go_enter Try.func32, Try.ntmps32
  have kx := BX.out.at_
  go_wp2_with fail
  refine HC.out.mono ?_
  rintro e w1 ⟨rfl, hb_⟩
  clear kx
  replace hbw := Lib.hid (hbw.out.keep hb_)
  clear hb_
  by_cases c0 : C = 0
  · have hn : 45 < n := by rcases hc with h | h; · exact absurd c0 h
                           · exact h
    subst c0
    go_wp2
    refine bodyPost_ret (v := .tuple #[.slice none 0 0, .int .i64 8]) (by simp [results, Try.results32, go_sem]) rfl ⟨rfl, hbw.out⟩
  · have d : (C != 0) = true := by rw [bne_iff_ne]; exact c0
    have e1 : (if C = 0 then (8 : Int) else 1) = 1 := if_neg c0
    clear hc
    replace c0 := Lib.hid c0
    replace e1 := Lib.hid e1
    go_wp2
    refine bodyPost_ret (v := .tuple #[.slice none 0 0, .int .i64 1]) (by simp [results, Try.results32, go_sem]) rfl ⟨rfl, hbw.out⟩
set_option maxRecDepth 100000 in
set_option maxHeartbeats 8000000 in
theorem rPairs_any (N : Net) (v : NetV) (ls : List Lnk) (A : Option Addr) (n c : Nat) (w : World) (hN : NetIs w v N) (hL : LnkS w A n ls) (hc : check N = 0) (hn : n ≤ 45) :
    Calls Try.prog 32 #[.agg #[.int .i64 N.nodes, .slice v.PA v.pn v.pc, .int .i64 N.noise, .int .i64 N.threshold, .slice v.LA v.ln v.lc, .slice v.MA v.mn v.mc], .slice A n c] w (RPairsPost (outR (badN N ls) n n) w) := by
  have hlen := hL.els.len
  obtain ⟨i0, hi, hz0, hz1, hz2⟩ := info_parts info_pr
  have BX := Box.new w #[.int .i64 N.nodes, .slice v.PA v.pn v.pc, .int .i64 N.noise, .int .i64 N.threshold, .slice v.LA v.ln v.lc, .slice v.MA v.mn v.mc] 26
  have hbw := below_alloc w (.cells #[.int .i64 N.nodes, .slice v.PA v.pn v.pc, .int .i64 N.noise, .int .i64 N.threshold, .slice v.LA v.ln v.lc, .slice v.MA v.mn v.mc] 26)
  have HC := rcheck_any N v _ (hN.keep hbw)
  rw [hc] at HC
  have HT := fun W (h : NetIs W v N) a b (ha : a.ok) (hb : b.ok) => rTogether_any N v a b W h ha hb
  have hbad : ∀ i k, badN N ls i k = !togetherN N (ls.getD i default) (ls.getD k default) := fun _ _ => rfl
  have hoL := fun m (h : m ≤ n) => Nat.le_trans (outR_len (badN N ls) n m) (Nat.le_trans (Nat.mul_le_mul_right n h) (Nat.mul_le_mul hn hn))
  have hrL := fun i m => rowR_len (badN N ls) i m
  have hrS := fun i k (h : i < k) => rowR_succ (badN N ls) i k h
  have hr0 := fun i => rowR_start (badN N ls) i (i + 1) (Nat.le_refl _)
  have ho0 : outR (badN N ls) n 0 = [] := rfl
  have hoS : ∀ i, outR (badN N ls) n (i + 1) = outR (badN N ls) n i ++ rowR (badN N ls) i n := fun _ => rfl
  generalize badN N ls = bad at *
  generalize hOO : outR bad n = OO at *
  generalize hRR : rowR bad = RR at *
  clear hOO hRR
  replace HC := Lib.hid HC
  replace hN := Lib.hid hN
  replace hL := Lib.hid hL
  replace BX := Lib.hid BX
  replace hbw := Lib.hid hbw
  replace HT := Lib.hid HT
  replace hlen := Lib.hid hlen
  replace hbad := Lib.hid hbad
  replace hoL := Lib.hid hoL
  replace hrL := Lib.hid hrL
  replace hrS := Lib.hid hrS
  replace hr0 := Lib.hid hr0
  replace hi := Lib.hid hi
  replace hz0 := Lib.hid hz0
  replace hz1 := Lib.hid hz1
  replace hz2 := Lib.hid hz2
  replace ho0 := Lib.hid ho0
  replace hoS := Lib.hid hoS
  go_enter Try.func32, Try.ntmps32
  have kx := BX.out.at_
  go_wp2_with fail
  refine HC.out.mono ?_
  rintro e w1 ⟨rfl, hb_⟩
  clear kx
  replace hbw := Lib.hid (hbw.out.keep hb_)
  replace BX := Lib.hid (BX.out.keep hb_)
  clear hb_
  have hm0 : Hid ((w1.alloc (.cells #[] 63)).ownsRow w1.heap.size 63 2 (.slice (some ⟨w1.heap.size, 0, none⟩) 0 0) (OO 0).length (prs (OO 0))) := by
    show World.ownsRow _ _ _ _ _ _ _
    rw [ho0.out]
    exact World.ownsRow_made (base := w1.heap.size) (e := 63) (size := 2) w1 #[] 0 (Nat.le_refl _) (by decide) rfl
  have hb1 := Lib.hid (below_alloc w1 (.cells #[] 63))
  go_wp2_with fail
  go_loopw [6, 7, 8] (fun o ii _ wr => ∃ (i : Nat) (vO : Value), i ≤ n ∧ ii = .int .i64 i ∧ vO = o ∧ Hid (wr.ownsRow w1.heap.size 63 2 vO (OO i).length (prs (OO i))) ∧ Hid (Below w1.heap.size w1 wr)) (fun _ ii _ _ => n - (intOf ii).toNat)
  case atStart => exact ⟨0, _, by omega, rfl, rfl, hm0, hb1⟩
  case round =>
    obtain ⟨i, vO, hin, rfl, rfl, HO, HB⟩ := hrel
    clear hm0 hb1
    have hoi := hoL.out i hin
    have hro := hr0.out i
    have hos := hoS.out i
    by_cases hlt : i < n
    · have hoL2 := hoL.out (i + 1) (by omega)
      have hO0 : Hid (wr.ownsRow w1.heap.size 63 2 vO (OO i ++ RR i (i + 1)).length (prs (OO i ++ RR i (i + 1)))) := by
        show World.ownsRow _ _ _ _ _ _ _
        rw [hro, List.append_nil]; exact HO.out
      replace hro := Lib.hid hro
      replace hos := Lib.hid hos
      clear HO
      go_wp2_with fail
      go_loopw [6, 8] (fun o kk wr2 => ∃ (k : Nat) (vO : Value), i < k ∧ k ≤ n ∧ kk = .int .i64 k ∧ vO = o ∧ Hid (wr2.ownsRow w1.heap.size 63 2 vO (OO i ++ RR i k).length (prs (OO i ++ RR i k))) ∧ Hid (Below w1.heap.size w1 wr2)) (fun _ kk _ => n - (intOf kk).toNat)
      case atStart => exact ⟨i + 1, _, by omega, by omega, by go_num, rfl, hO0, HB⟩
      case round =>
        obtain ⟨k, vP, hik, hkn, rfl, rfl, HO, HB2⟩ := hrel
        clear hO0 HB
        by_cases hlk : k < n
        · have hb0 := Lib.hid (bthen hbw.out HB2.out)
          obtain ⟨b, off, rfl⟩ := hL.out.els.addr (by omega)
          obtain ⟨xi, hxi, hmi, q0, q1, q2⟩ := (hL.out.keep hb0.out).elem hlt
          obtain ⟨xk, hxk, hmk, p0, p1, p2⟩ := (hL.out.keep hb0.out).elem hlk
          have oki := hL.out.ok xi hmi
          have okk := hL.out.ok xk hmk
          have hgi : ls.getD i default = xi := by rw [List.getD_eq_getElem?_getD, hxi]; rfl
          have hgk : ls.getD k default = xk := by rw [List.getD_eq_getElem?_getD, hxk]; rfl
          have hbd := hbad.out i k
          rw [hgi, hgk] at hbd
          have hrs := hrS.out i k hik
          have cT := fun W (h : Below wr.heap.size wr W) => HT.out W (hN.out.keep (bthen hb0.out h)) xi xk oki okk
          generalize togetherN N xi xk = TG at *
          obtain ⟨fi, ti, li⟩ := xi
          obtain ⟨fk, tk, lk⟩ := xk
          dsimp only at q0 q1 q2 p0 p1 p2 cT
          have hlO := hoL.out i hin
          have hlR := hrL.out i k
          have HX := BX.out.keep HB2.out
          have cl : ∀ d os, Calls Try.prog 24 #[.agg #[.int .i64 N.nodes, .slice v.PA v.pn v.pc, .int .i64 N.noise, .int .i64 N.threshold, .slice v.LA v.ln v.lc, .slice v.MA v.mn v.mc], .agg #[.int .i64 fi, .int .i64 ti, .int .i64 li], .agg #[.int .i64 fk, .int .i64 tk, .int .i64 lk]] (grow (redrawn wr d) os) fun e w'' => e = .returned (.bool TG) ∧ ∃ p : Regrown, w'' = grow (redrawn wr p.d) p.os := fun d os => Calls.regrown_of (cT _ (below_regrown wr d os))
          have g0 := cell_regrown q0
          have g1 := cell_regrown q1
          have g2 := cell_regrown q2
          have k0 := cell_regrown p0
          have k1 := cell_regrown p1
          have k2 := cell_regrown p2
          have gx := HX.grown
          have r1 : (i : Int) < (n : Int) := by omega
          have r2 : (k : Int) < (n : Int) := by omega
          have hOP : (OO i ++ RR i k).length ≤ 5000 := by rw [List.length_append]; omega
          clear q0 q1 q2 p0 p1 p2
          replace hxi := Lib.hid hxi
          replace hxk := Lib.hid hxk
          replace hmi := Lib.hid hmi
          replace hmk := Lib.hid hmk
          replace oki := Lib.hid oki
          replace okk := Lib.hid okk
          replace hgi := Lib.hid hgi
          replace hgk := Lib.hid hgk
          replace hbd := Lib.hid hbd
          replace hrs := Lib.hid hrs
          replace cl := Lib.hid cl
          clear cT
          cases TG with
          | true =>
            have hs2 : Hid (OO i ++ RR i (k + 1) = OO i ++ RR i k) := by show _ = _; rw [hrs.out, hbd.out]; simp
            have hK := Lib.hid (Below.refl wr.heap.size wr)
            go_wp2_with fail
            refine wp_region_quiet_below (by kernel_rfl) (by kernel_rfl) ?_
            repeat (go_big_quiet_step (exact cl.out _ _))
            refine wpQuiet_nil ?_
            rintro _ ⟨⟨dq, osq⟩, rfl⟩
            have hb_ := below_regrown wr dq osq
            replace HB2 := Lib.hid (HB2.out.keep hb_)
            replace hK := Lib.hid (hK.out.keep hb_)
            generalize grow (redrawn wr dq) osq = w3 at *
            clear hb_
            have HO3 : Hid (w3.ownsRow w1.heap.size 63 2 vP (OO i ++ RR i (k + 1)).length (prs (OO i ++ RR i (k + 1)))) := by
              show World.ownsRow _ _ _ _ _ _ _
              rw [hs2.out]; exact owns_keep HO.out hK.out
            go_wp2
            go_roundw
            case rel => exact ⟨k + 1, _, by omega, by omega, by go_num, rfl, HO3, HB2⟩
            case measure => simp [intOf]; omega
          | false =>
            have hs2 : Hid (OO i ++ RR i (k + 1) = (OO i ++ RR i k) ++ [((i : Int), (k : Int))]) := by show _ = _; rw [hrs.out, hbd.out]; simp
            have hK := Lib.hid (Below.refl wr.heap.size wr)
            go_wp2_with fail
            refine wp_region_quiet_below (by kernel_rfl) (by kernel_rfl) ?_
            repeat (go_big_quiet_step (exact cl.out _ _))
            refine wpQuiet_nil ?_
            rintro _ ⟨⟨dq, osq⟩, rfl⟩
            have hb_ := below_regrown wr dq osq
            replace HB2 := Lib.hid (HB2.out.keep hb_)
            replace hK := Lib.hid (hK.out.keep hb_)
            generalize grow (redrawn wr dq) osq = w3 at *
            clear hb_
            have HOa := (owns_keep HO.out hK.out).alloc (.cells #[.int .i64 (i : Int), .int .i64 (k : Int)] 63)
            have HBa := below_allocN HB2.out (.cells #[.int .i64 (i : Int), .int .i64 (k : Int)] 63)
            have hnews := World.news_of_block (Blk.new w3 #[.int .i64 (i : Int), .int .i64 (k : Int)] 63).at_
            have hs3 := HB2.out.size
            generalize OO i ++ RR i k = PL at *
            replace HOa := Lib.hid HOa
            replace HBa := Lib.hid HBa
            replace hnews := Lib.hid hnews
            go_wp2_with (at_builtin; refine wpList_append_lies _ rfl _ _ _ rfl w1.heap.size 63 i0 (.agg #[.int .i64 0, .int .i64 0]) 2 16 Try.underlying58 hi.out hz0.out hz1.out hz2.out rfl (by decide) vP PL.length _ rfl HOa.out ⟨w3.heap.size, 0, none⟩ 1 1 [.int .i64 (i : Int), .int .i64 (k : Int)] rfl rfl ?c1 ?c2 (by decide) ?c3 ?c4 ?c5 (w3.heap.size + 1) ?c6 ?_)
            try case c1 => exact hnews.out
            try case c2 => simp [Value.oneCell']
            try case c3 => unfold maxLen; omega
            try case c4 => omega
            try case c5 => first | omega | (simp; omega)
            try case c6 => first | rfl | simp
            intro g cap w4 hown1 hgrow1 hat1 hlt1
            have HO1 : Hid (w4.ownsRow w1.heap.size 63 2 (.slice (some ⟨g, 0, none⟩) (PL.length + 1) cap) (OO i ++ RR i (k + 1)).length (prs (OO i ++ RR i (k + 1)))) := by
              show World.ownsRow _ _ _ _ _ _ _
              rw [hs2.out, prs_app, List.length_append]; exact hown1
            have HB3 := Lib.hid (below_append HBa.out HOa.out hgrow1 (Nat.le_refl _))
            clear hown1 hgrow1 hat1
            go_wp2
            go_roundw
            case rel => exact ⟨k + 1, _, by omega, by omega, by go_num, rfl, HO1, HB3⟩
            case measure => simp [intOf]; omega
        · obtain rfl : k = n := by omega
          have hO2 : Hid (wr.ownsRow w1.heap.size 63 2 vP (OO (i + 1)).length (prs (OO (i + 1)))) := by
            show World.ownsRow _ _ _ _ _ _ _
            rw [hos.out]; exact HO.out
          go_wp2
          go_roundw
          case rel => exact ⟨i + 1, _, by omega, by go_num, rfl, hO2, HB2⟩
          case measure => simp [intOf]; omega
    · obtain rfl : i = n := by omega
      obtain ⟨A', c', rfl⟩ := owns_slice HO.out
      have hbw2 := Lib.hid (bthen hbw.out HB.out)
      replace hro := Lib.hid hro
      replace hos := Lib.hid hos
      go_wp2
      refine bodyPost_ret (v := .tuple #[.slice A' (OO i).length c', .int .i64 0]) (by simp [results, Try.results32, go_sem]) rfl ⟨A', c', rfl, owns_base HO.out hbw.out.size, hbw2.out⟩
end Nt
end Go.Proofs.Ythibgpgjioepfaa
