/- right, formed. -/
import Derived.Test.YtnkgmpmedkegbaaSw2
import Derived.Deep.CutBlock
import Derived.Deep.DeepCutAuto
namespace Go.Proofs.Ytnkgmpmedkegbaa
open Go Go.RowKit Go.Sort
namespace Sw
open Mm
def wi (n m : Int) : Bool := decide (0 ≤ n) && decide (n ≤ m)
theorem wi_any (a m : Int) (w : World) :
    Calls Try.prog 65 #[.int .i64 a, .int .i64 m] w fun e w' => e = .returned (.bool (wi a m)) ∧ w = w' := by
  have hR : wi a m = (decide (0 ≤ a) && decide (a ≤ m)) := rfl
  generalize wi a m = R at *
  by_cases h1 : 0 ≤ a
  · by_cases h2 : a ≤ m
    · have h : R = true := by rw [hR]; simp [h1, h2]
      subst h
      clear hR
      go_enter Try.func65, Try.ntmps65
      go_wp2
      go_ret
      exact ⟨by simp, rfl⟩
    · have h : R = false := by rw [hR]; simp [h2]
      subst h
      have h3 : decide (a ≤ m) = false := by simpa using h2
      clear hR h2
      go_enter Try.func65, Try.ntmps65
      go_wp2
      go_ret
      exact ⟨by simp, rfl⟩
  · have h : R = false := by rw [hR]; simp [h1]
    subst h
    have h3 : decide (0 ≤ a) = false := by simpa using h1
    clear hR h1
    go_enter Try.func65, Try.ntmps65
    go_wp2
    go_ret
    exact ⟨by simp, rfl⟩
def cellOk (L O : Int) (c : Cel) : Bool := wi c.slot (L - 1) && wi c.offset (O - 1) && wi c.frm 31 && wi c.to 31 && wi c.flow 255 && (c.frm != c.to)
set_option maxRecDepth 100000 in
set_option maxHeartbeats 4000000 in
theorem right_any (L O : Int) (A : Option Addr) (n cp : Nat) (c : Cel) (w : World) (hL : 1 ≤ L ∧ L ≤ 512) (hO : 1 ≤ O ∧ O ≤ 16) :
    Calls Try.prog 33 #[.agg #[.int .i64 L, .int .i64 O, .slice A n cp], .agg #[.int .i64 c.slot, .int .i64 c.offset, .int .i64 c.frm, .int .i64 c.to, .int .i64 c.flow]] w fun e w' => e = .returned (.bool (cellOk L O c)) ∧ Below w.heap.size w w' := by
  obtain ⟨c0, c1, c2, c3, c4⟩ := c
  dsimp only
  have hR : cellOk L O ⟨c0, c1, c2, c3, c4⟩ = (wi c0 (L - 1) && wi c1 (O - 1) && wi c2 31 && wi c3 31 && wi c4 255 && (c2 != c3)) := rfl
  have cw := fun a m W => wi_any a m W
  generalize cellOk L O ⟨c0, c1, c2, c3, c4⟩ = R at *
  generalize wi = WI at *
  obtain ⟨hL1, hL2⟩ := hL
  obtain ⟨hO1, hO2⟩ := hO
  have hbw := ballN (ball w (.cells #[.int .i64 L, .int .i64 O, .slice A n cp] 24)) (.cells #[.int .i64 c0, .int .i64 c1, .int .i64 c2, .int .i64 c3, .int .i64 c4] 34)
  replace cw := Lib.hid cw
  replace hbw := Lib.hid hbw
  have hw : (WI c0 (L - 1) = false ∧ R = false) ∨ (WI c0 (L - 1) = true ∧ WI c1 (O - 1) = false ∧ R = false) ∨ (WI c0 (L - 1) = true ∧ WI c1 (O - 1) = true ∧ WI c2 31 = false ∧ R = false) ∨ (WI c0 (L - 1) = true ∧ WI c1 (O - 1) = true ∧ WI c2 31 = true ∧ WI c3 31 = false ∧ R = false)
      ∨ (WI c0 (L - 1) = true ∧ WI c1 (O - 1) = true ∧ WI c2 31 = true ∧ WI c3 31 = true ∧ WI c4 255 = false ∧ R = false) ∨ (WI c0 (L - 1) = true ∧ WI c1 (O - 1) = true ∧ WI c2 31 = true ∧ WI c3 31 = true ∧ WI c4 255 = true ∧ (c2 != c3) = false ∧ R = false) ∨ (WI c0 (L - 1) = true ∧ WI c1 (O - 1) = true ∧ WI c2 31 = true ∧ WI c3 31 = true ∧ WI c4 255 = true ∧ (c2 != c3) = true ∧ R = true) := by
    rw [hR]
    cases WI c0 (L - 1) <;> cases WI c1 (O - 1) <;> cases WI c2 31 <;> cases WI c3 31 <;> cases WI c4 255 <;> cases (c2 != c3) <;> simp
  clear hR
  rcases hw with ⟨h1, hR⟩ | ⟨h1, h2, hR⟩ | ⟨h1, h2, h3, hR⟩ | ⟨h1, h2, h3, h4, hR⟩ | ⟨h1, h2, h3, h4, h5, hR⟩ | ⟨h1, h2, h3, h4, h5, h6, hR⟩ | ⟨h1, h2, h3, h4, h5, h6, hR⟩
  all_goals
    subst hR
    go_enter Try.func33, Try.ntmps33
    go_wp2_with (first | (go_at_call 65; refine (cw.out _ _ _).mono ?_; rintro e w1 ⟨rfl, rfl⟩))
    go_ret
    exact ⟨rfl, hbw.out⟩
end Sw
end Go.Proofs.Ytnkgmpmedkegbaa
