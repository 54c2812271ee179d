/- The comparison of Best. -/
import Derived.Test.YtgdkehnakopnnaaCpB0
namespace Go.Proofs.Ytgdkehnakopnnaa
open Go Go.RowKit Go.Sort Go.Maps Go.WideMaps
namespace Cp
open Mm
theorem lawS : Keyed Try.prog 9 := string_keyed Try.underlying9
theorem zeroI (w : World) : (zeroValue 3).run Try.prog w = .ok (.int .i64 0) w := by kernel_rfl
abbrev Dt := DataW Unit
def OwnM (w : World) (b nn : Nat) (D : Dt) : Prop := w.ownsMap Try.prog 9 (plainElem Try.prog 3) b nn D
/-- the datum counts the names of a list -/
structure CountsD (D : Dt) (l : List (List UInt8)) : Prop where
  isMap : IsMap D
  at_ : ∀ x, D.atKey (.string x) (.lit (.int .i64 0)) = .lit (.int .i64 (l.count x : Int))
  has_ : ∀ x, Maps.has D (.string x) = decide (x ∈ l)
def cfL (l : List (List UInt8)) (x y : List UInt8) : Int := orI (Lib.compareInt (l.count y) (l.count x)) (cmpL x y)
theorem key_str {s : ByteArray} (h : s.size ≤ maxLen) : keyOf Try.prog 9 (.string s) = some (.string s.data.toList) := keyOf_string_mk Try.underlying9 h
set_option maxRecDepth 100000 in
set_option maxHeartbeats 4000000 in
theorem close_any (x y : ByteArray) (hx : x.size ≤ maxLen) (hy : y.size ≤ maxLen) (B b nn : Nat) (D : Dt) (l : List (List UInt8)) (w : World) (hB : w.cell? ⟨B, 0, none⟩ = some (.map (some b))) (hown : OwnM w b nn D) (hD : CountsD D l) :
    Calls Try.prog 53 #[.string x, .string y, .pointer (some ⟨B, 0, none⟩)] w fun e w' => e = .returned (.int .i64 (cfL l x.data.toList y.data.toList)) ∧ ∃ q os, w' = grow (w.drewN q) os := by
  unfold OwnM at hown
  obtain ⟨cx, hrx, hax, _⟩ := hown.lookup_int lawS Try.underlying73 Try.underlying3 (zeroI _) (key_str hx)
  obtain ⟨cy, hry, hay, _⟩ := hown.lookup_int lawS Try.underlying73 Try.underlying3 (zeroI _) (key_str hy)
  have hlx := hown.lt
  rw [hD.at_] at hax hay
  injection hax with hax
  injection hax with _ hax
  injection hay with hay
  injection hay with _ hay
  unfold cfL
  rw [hax, hay]
  have c1 := fun w => Try.cmp_Compare_int cy cx w
  have c2 := fun w => cmpS_any x y w
  have c3 := fun b w h0 h1 => or_any b 0 2 (Lib.compareInt cy cx) (cmpL x.data.toList y.data.toList) w h0 h1
  generalize Lib.compareInt cy cx = r1 at *
  generalize cmpL x.data.toList y.data.toList = r2 at *
  generalize orI r1 r2 = r at *
  replace hax := Lib.hid hax
  replace hay := Lib.hid hay
  replace hown := Lib.hid hown
  replace hD := Lib.hid hD
  replace c1 := Lib.hid c1
  replace c2 := Lib.hid c2
  replace c3 := Lib.hid c3
  replace hx := Lib.hid hx
  replace hy := Lib.hid hy
  go_enter Try.func53, Try.ntmps53
  go_wp2_with (first
    | (go_at_call 55; refine (c1.out _).mono ?_; rintro e w1 ⟨rfl, hw⟩; subst hw)
    | (go_at_call 56; refine (c2.out _).mono ?_; rintro e w1 ⟨rfl, hw⟩; subst hw)
    | (go_at_call 54; refine (c3.out _ _ ((Blk.new _ #[.int .i64 r1, .int .i64 r2] 3).cell 0) ((Blk.new _ #[.int .i64 r1, .int .i64 r2] 3).cell 1)).mono ?_; rintro e w1 ⟨rfl, rfl⟩))
  go_ret
  exact ⟨rfl, 0, #[.cells #[.int .i64 r1, .int .i64 r2] 3], by rw [alloc_eq_grow]; rfl⟩
end Cp
end Go.Proofs.Ytgdkehnakopnnaa
