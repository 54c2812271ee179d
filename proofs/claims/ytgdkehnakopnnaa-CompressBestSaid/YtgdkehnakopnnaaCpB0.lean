/- cmp.Compare at strings, cmp.Or at two numbers, the comparison of Best. -/
import Derived.Test.YtgdkehnakopnnaaCpRt
import Derived.Maps.OwnOps
import Derived.Maps.Views
import Derived.Sort.EncStr
import Derived.Sort.Walk0
import Derived.Lib.Strings
import Derived.Laws.Cover1
namespace Go.Proofs.Ytgdkehnakopnnaa
open Go Go.RowKit Go.Sort
namespace Cp
open Mm
def cmpL (x y : List UInt8) : Int := if x < y then -1 else if y < x then 1 else 0
theorem cmpL_lt {x y : List UInt8} (h : Op.bytesLess x y = true) : cmpL x y = -1 := by
  rw [bytesLess_eq, decide_eq_true_eq] at h
  unfold cmpL; rw [if_pos h]
theorem cmpL_eq {x y : List UInt8} (h : (Op.bytesLess x y || x == y) = true) (h0 : Op.bytesLess x y = false) : cmpL x y = 0 := by
  rw [h0, Bool.false_or, beq_iff_eq] at h
  subst h
  rw [bytesLess_eq, decide_eq_false_iff_not] at h0
  unfold cmpL; rw [if_neg h0, if_neg h0]
theorem cmpL_gt {x y : List UInt8} (h : (Op.bytesLess x y || x == y) = false) : cmpL x y = 1 := by
  rw [Bool.or_eq_false_iff, bytesLess_eq, decide_eq_false_iff_not, beq_eq_false_iff_ne] at h
  unfold cmpL; rw [if_neg h.1, if_pos]
  have h1 : y ≤ x := List.not_lt.1 h.1
  refine Classical.byContradiction fun h2 => h.2 (List.le_antisymm (List.not_lt.1 h2) h1)
set_option maxRecDepth 100000 in
set_option maxHeartbeats 2000000 in
theorem cmpS_any (x y : ByteArray) (w : World) : Calls Try.prog 56 #[.string x, .string y] w fun e w' => e = .returned (.int .i64 (cmpL x.data.toList y.data.toList)) ∧ w' = w := by
  rw [← Lib.toList_data, ← Lib.toList_data]
  have k1 := @cmpL_lt x.toList y.toList
  have k2 := @cmpL_eq x.toList y.toList
  have k3 := @cmpL_gt x.toList y.toList
  generalize cmpL x.toList y.toList = r at *
  replace k1 := Lib.hid k1
  replace k2 := Lib.hid k2
  replace k3 := Lib.hid k3
  go_enter Try.func56, Try.ntmps56
  go_wp2
  all_goals
    go_ret
    exact ⟨by first | (rw [k1.out (by simp_all)] <;> rfl) | (rw [k2.out (by simp_all) (by simp_all)] <;> rfl) | (rw [k3.out (by simp_all)] <;> rfl), rfl⟩
def orI (a b : Int) : Int := if a = 0 then b else a
set_option maxRecDepth 100000 in
set_option maxHeartbeats 2000000 in
theorem or_any (b off c : Nat) (x y : Int) (w : World) (h0 : w.cell? ⟨b, off, none⟩ = some (.int .i64 x)) (h1 : w.cell? ⟨b, off + 1, none⟩ = some (.int .i64 y)) :
    Calls Try.prog 54 #[.slice (some ⟨b, off, none⟩) 2 c] w fun e w' => e = .returned (.int .i64 (orI x y)) ∧ w' = w := by
  have k1 : x ≠ 0 → orI x y = x := fun h => by unfold orI; rw [if_neg h]
  have k2 : x = 0 → orI x y = y := fun h => by unfold orI; rw [if_pos h]
  generalize orI x y = r at *
  replace k1 := Lib.hid k1
  replace k2 := Lib.hid k2
  go_enter Try.func54, Try.ntmps54
  go_wp2
  refine wp_loop_rounds 3 ?_
  rw [rounds_succ]
  go_wp2
  · have k := k1.out (by simp_all)
    subst k
    go_ret; exact ⟨rfl, rfl⟩
  · have k := k2.out (by simp_all)
    subst k
    rw [rounds_succ]
    go_wp2
    · go_ret; exact ⟨rfl, rfl⟩
    · rw [rounds_succ]
      go_wp2
      go_ret
      exact ⟨by simp_all, rfl⟩
end Cp
end Go.Proofs.Ytgdkehnakopnnaa
