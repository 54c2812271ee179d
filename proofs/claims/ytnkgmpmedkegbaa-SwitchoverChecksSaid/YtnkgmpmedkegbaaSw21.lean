/- Plain: the reference's times say what f says. -/
import Derived.Test.YtnkgmpmedkegbaaSw20
namespace Go.Proofs.Ytnkgmpmedkegbaa
open Go Go.RowKit Go.Sort
namespace Sw
/-- f up to k, and as before k behind it -/
def upto (f : Int → Bool) (k : Nat) (x : Int) : Bool := if x < (k : Int) then f x else f ((k : Int) - 1)
theorem rT_inv (f : Int → Bool) (k : Nat) : Inv (rT f (k + 1)).1 (upto f (k + 1)) (k : Int) (f k) := by
  induction k with
  | zero =>
    have h := Inv.start (f 0)
    have e : (rT f 1).1 = if f 0 = true then begT [] 0 else [] := by
      show stepR [] false (f ((0 : Nat) : Int)) 0 = _
      unfold stepR
      cases f ((0 : Nat) : Int) <;> rfl
    rw [e]
    refine h.congr fun x hx => ?_
    unfold upto
    by_cases c : x < ((0 + 1 : Nat) : Int)
    · rw [if_pos c]; congr 1; omega
    · rw [if_neg c]; congr 1
  | succ k ih =>
    have e : (rT f (k + 1 + 1)).1 = stepR (rT f (k + 1)).1 (f k) (f ((k + 1 : Nat) : Int)) ((k + 1 : Nat) : Int) := rfl
    rw [e]
    generalize (rT f (k + 1)).1 = t at *
    have hk : ((k + 1 : Nat) : Int) = (k : Int) + 1 := by omega
    have hsame : ∀ x, upto f (k + 1 + 1) x = upd (upto f (k + 1)) ((k + 1 : Nat) : Int) (f ((k + 1 : Nat) : Int)) x := fun x => by
      unfold upto upd
      by_cases c1 : ((k + 1 : Nat) : Int) ≤ x
      · rw [if_pos c1]
        by_cases c2 : x < ((k + 1 + 1 : Nat) : Int)
        · rw [if_pos c2]; congr 1; omega
        · rw [if_neg c2]; congr 1; omega
      · rw [if_neg c1, if_pos (by omega)]
        show f x = (if x < ((k + 1 : Nat) : Int) then f x else f (((k + 1 : Nat) : Int) - 1))
        rw [if_pos (by omega)]
    cases ho : f (k : Int) <;> cases hn : f ((k + 1 : Nat) : Int)
    · rw [ho] at ih
      refine (ih.later (s' := ((k + 1 : Nat) : Int)) (by omega)).congr fun x hx => ?_
      rw [hsame]
      unfold upd
      by_cases c1 : ((k + 1 : Nat) : Int) ≤ x
      · rw [if_pos c1, hn, ih.const x (by omega)]
      · rw [if_neg c1]
    · rw [ho] at ih
      have h := ih.begin_ (s' := ((k + 1 : Nat) : Int)) (by omega)
      have e2 : stepR t false true ((k + 1 : Nat) : Int) = begT t ((k + 1 : Nat) : Int) := by
        rcases snoc_cases t with rfl | ⟨u, p, rfl⟩
        · rfl
        · have := (ih.le p (by simp)).2
          rw [begT_snoc, if_neg (by omega)]
          unfold stepR
          rw [if_pos ⟨rfl, rfl⟩]
      rw [e2]
      refine h.congr fun x _ => ?_
      rw [hsame, hn]
    · rw [ho] at ih
      have h := ih.end_ (s' := ((k + 1 : Nat) : Int)) (by omega)
      obtain ⟨u, p, rfl, _⟩ := ih.open_
      have e2 : stepR (u ++ [p]) true false ((k + 1 : Nat) : Int) = endT (u ++ [p]) ((k + 1 : Nat) : Int) := by
        have := (ih.le p (by simp)).1
        rw [endT_snoc, if_neg (by omega)]
        unfold stepR
        rw [if_neg (by simp), if_pos ⟨rfl, rfl⟩, closeT_snoc]
      rw [e2]
      refine h.congr fun x _ => ?_
      rw [hsame, hn]
    · rw [ho] at ih
      refine (ih.later (s' := ((k + 1 : Nat) : Int)) (by omega)).congr fun x hx => ?_
      rw [hsame]
      unfold upd
      by_cases c1 : ((k + 1 : Nat) : Int) ≤ x
      · rw [if_pos c1, hn, ih.const x (by omega)]
      · rw [if_neg c1]
end Sw
end Go.Proofs.Ytnkgmpmedkegbaa
