/- hopmeshref52.cell, way by way. -/
import Derived.Test.YtnkgmpmedkegbaaSw17
namespace Go.Proofs.Ytnkgmpmedkegbaa
open Go Go.RowKit Go.Sort
namespace Sw
open Mm
set_option maxRecDepth 100000 in
set_option maxHeartbeats 8000000 in
theorem rcell_0 (L O : Int) (A : Option Addr) (n cp : Nat) (c0 c1 c2 c3 c4 : Int) (w : World)  (g0 : ¬ (0 ≤ c0)) :
    Calls Try.prog 38 #[.agg #[.int .i64 L, .int .i64 O, .slice A n cp], .agg #[.int .i64 c0, .int .i64 c1, .int .i64 c2, .int .i64 c3, .int .i64 c4]] w fun e w' => e = .returned (.bool false) ∧ Below w.heap.size w w' := by
  have hb2 := ballN (ball w (.cells #[.int .i64 L, .int .i64 O, .slice A n cp] 24)) (.cells #[.int .i64 c0, .int .i64 c1, .int .i64 c2, .int .i64 c3, .int .i64 c4] 34)
  have BX := (Box.new w #[.int .i64 L, .int .i64 O, .slice A n cp] 24).alloc (.cells #[.int .i64 c0, .int .i64 c1, .int .i64 c2, .int .i64 c3, .int .i64 c4] 34)
  have BC := Box.new (w.alloc (.cells #[.int .i64 L, .int .i64 O, .slice A n cp] 24)) #[.int .i64 c0, .int .i64 c1, .int .i64 c2, .int .i64 c3, .int .i64 c4] 34
  rw [size1] at BC
  have kx := BX.at_
  have kb := BC.at_
  replace hb2 := Lib.hid hb2
  replace BX := Lib.hid BX
  replace BC := Lib.hid BC
  have dd : decide (0 ≤ c0) = false := by simpa using g0
  clear g0
  go_enter Try.func38, Try.ntmps38
  go_wp2
  go_ret
  exact ⟨by first | rfl | simp, hb2.out⟩
set_option maxRecDepth 100000 in
set_option maxHeartbeats 8000000 in
theorem rcell_1 (L O : Int) (A : Option Addr) (n cp : Nat) (c0 c1 c2 c3 c4 : Int) (w : World) (g0 : 0 ≤ c0) (g1 : ¬ (c0 < L)) :
    Calls Try.prog 38 #[.agg #[.int .i64 L, .int .i64 O, .slice A n cp], .agg #[.int .i64 c0, .int .i64 c1, .int .i64 c2, .int .i64 c3, .int .i64 c4]] w fun e w' => e = .returned (.bool false) ∧ Below w.heap.size w w' := by
  have hb2 := ballN (ball w (.cells #[.int .i64 L, .int .i64 O, .slice A n cp] 24)) (.cells #[.int .i64 c0, .int .i64 c1, .int .i64 c2, .int .i64 c3, .int .i64 c4] 34)
  have BX := (Box.new w #[.int .i64 L, .int .i64 O, .slice A n cp] 24).alloc (.cells #[.int .i64 c0, .int .i64 c1, .int .i64 c2, .int .i64 c3, .int .i64 c4] 34)
  have BC := Box.new (w.alloc (.cells #[.int .i64 L, .int .i64 O, .slice A n cp] 24)) #[.int .i64 c0, .int .i64 c1, .int .i64 c2, .int .i64 c3, .int .i64 c4] 34
  rw [size1] at BC
  have kx := BX.at_
  have kb := BC.at_
  replace hb2 := Lib.hid hb2
  replace BX := Lib.hid BX
  replace BC := Lib.hid BC
  have dd : decide (c0 < L) = false := by simpa using g1
  clear g1
  go_enter Try.func38, Try.ntmps38
  go_wp2
  go_ret
  exact ⟨by first | rfl | simp, hb2.out⟩
set_option maxRecDepth 100000 in
set_option maxHeartbeats 8000000 in
theorem rcell_2 (L O : Int) (A : Option Addr) (n cp : Nat) (c0 c1 c2 c3 c4 : Int) (w : World) (g0 : 0 ≤ c0) (g1 : c0 < L) (g2 : ¬ (0 ≤ c1)) :
    Calls Try.prog 38 #[.agg #[.int .i64 L, .int .i64 O, .slice A n cp], .agg #[.int .i64 c0, .int .i64 c1, .int .i64 c2, .int .i64 c3, .int .i64 c4]] w fun e w' => e = .returned (.bool false) ∧ Below w.heap.size w w' := by
  have hb2 := ballN (ball w (.cells #[.int .i64 L, .int .i64 O, .slice A n cp] 24)) (.cells #[.int .i64 c0, .int .i64 c1, .int .i64 c2, .int .i64 c3, .int .i64 c4] 34)
  have BX := (Box.new w #[.int .i64 L, .int .i64 O, .slice A n cp] 24).alloc (.cells #[.int .i64 c0, .int .i64 c1, .int .i64 c2, .int .i64 c3, .int .i64 c4] 34)
  have BC := Box.new (w.alloc (.cells #[.int .i64 L, .int .i64 O, .slice A n cp] 24)) #[.int .i64 c0, .int .i64 c1, .int .i64 c2, .int .i64 c3, .int .i64 c4] 34
  rw [size1] at BC
  have kx := BX.at_
  have kb := BC.at_
  replace hb2 := Lib.hid hb2
  replace BX := Lib.hid BX
  replace BC := Lib.hid BC
  have dd : decide (0 ≤ c1) = false := by simpa using g2
  clear g2
  go_enter Try.func38, Try.ntmps38
  go_wp2
  go_ret
  exact ⟨by first | rfl | simp, hb2.out⟩
set_option maxRecDepth 100000 in
set_option maxHeartbeats 8000000 in
theorem rcell_3 (L O : Int) (A : Option Addr) (n cp : Nat) (c0 c1 c2 c3 c4 : Int) (w : World) (g0 : 0 ≤ c0) (g1 : c0 < L) (g2 : 0 ≤ c1) (g3 : ¬ (c1 < O)) :
    Calls Try.prog 38 #[.agg #[.int .i64 L, .int .i64 O, .slice A n cp], .agg #[.int .i64 c0, .int .i64 c1, .int .i64 c2, .int .i64 c3, .int .i64 c4]] w fun e w' => e = .returned (.bool false) ∧ Below w.heap.size w w' := by
  have hb2 := ballN (ball w (.cells #[.int .i64 L, .int .i64 O, .slice A n cp] 24)) (.cells #[.int .i64 c0, .int .i64 c1, .int .i64 c2, .int .i64 c3, .int .i64 c4] 34)
  have BX := (Box.new w #[.int .i64 L, .int .i64 O, .slice A n cp] 24).alloc (.cells #[.int .i64 c0, .int .i64 c1, .int .i64 c2, .int .i64 c3, .int .i64 c4] 34)
  have BC := Box.new (w.alloc (.cells #[.int .i64 L, .int .i64 O, .slice A n cp] 24)) #[.int .i64 c0, .int .i64 c1, .int .i64 c2, .int .i64 c3, .int .i64 c4] 34
  rw [size1] at BC
  have kx := BX.at_
  have kb := BC.at_
  replace hb2 := Lib.hid hb2
  replace BX := Lib.hid BX
  replace BC := Lib.hid BC
  have dd : decide (c1 < O) = false := by simpa using g3
  clear g3
  go_enter Try.func38, Try.ntmps38
  go_wp2
  go_ret
  exact ⟨by first | rfl | simp, hb2.out⟩
set_option maxRecDepth 100000 in
set_option maxHeartbeats 8000000 in
theorem rcell_4 (L O : Int) (A : Option Addr) (n cp : Nat) (c0 c1 c2 c3 c4 : Int) (w : World) (g0 : 0 ≤ c0) (g1 : c0 < L) (g2 : 0 ≤ c1) (g3 : c1 < O) (g4 : ¬ (0 ≤ c2)) :
    Calls Try.prog 38 #[.agg #[.int .i64 L, .int .i64 O, .slice A n cp], .agg #[.int .i64 c0, .int .i64 c1, .int .i64 c2, .int .i64 c3, .int .i64 c4]] w fun e w' => e = .returned (.bool false) ∧ Below w.heap.size w w' := by
  have hb2 := ballN (ball w (.cells #[.int .i64 L, .int .i64 O, .slice A n cp] 24)) (.cells #[.int .i64 c0, .int .i64 c1, .int .i64 c2, .int .i64 c3, .int .i64 c4] 34)
  have BX := (Box.new w #[.int .i64 L, .int .i64 O, .slice A n cp] 24).alloc (.cells #[.int .i64 c0, .int .i64 c1, .int .i64 c2, .int .i64 c3, .int .i64 c4] 34)
  have BC := Box.new (w.alloc (.cells #[.int .i64 L, .int .i64 O, .slice A n cp] 24)) #[.int .i64 c0, .int .i64 c1, .int .i64 c2, .int .i64 c3, .int .i64 c4] 34
  rw [size1] at BC
  have kx := BX.at_
  have kb := BC.at_
  replace hb2 := Lib.hid hb2
  replace BX := Lib.hid BX
  replace BC := Lib.hid BC
  have dd : decide (0 ≤ c2) = false := by simpa using g4
  clear g4
  go_enter Try.func38, Try.ntmps38
  go_wp2
  go_ret
  exact ⟨by first | rfl | simp, hb2.out⟩
set_option maxRecDepth 100000 in
set_option maxHeartbeats 8000000 in
theorem rcell_5 (L O : Int) (A : Option Addr) (n cp : Nat) (c0 c1 c2 c3 c4 : Int) (w : World) (g0 : 0 ≤ c0) (g1 : c0 < L) (g2 : 0 ≤ c1) (g3 : c1 < O) (g4 : 0 ≤ c2) (g5 : ¬ (c2 < 32)) :
    Calls Try.prog 38 #[.agg #[.int .i64 L, .int .i64 O, .slice A n cp], .agg #[.int .i64 c0, .int .i64 c1, .int .i64 c2, .int .i64 c3, .int .i64 c4]] w fun e w' => e = .returned (.bool false) ∧ Below w.heap.size w w' := by
  have hb2 := ballN (ball w (.cells #[.int .i64 L, .int .i64 O, .slice A n cp] 24)) (.cells #[.int .i64 c0, .int .i64 c1, .int .i64 c2, .int .i64 c3, .int .i64 c4] 34)
  have BX := (Box.new w #[.int .i64 L, .int .i64 O, .slice A n cp] 24).alloc (.cells #[.int .i64 c0, .int .i64 c1, .int .i64 c2, .int .i64 c3, .int .i64 c4] 34)
  have BC := Box.new (w.alloc (.cells #[.int .i64 L, .int .i64 O, .slice A n cp] 24)) #[.int .i64 c0, .int .i64 c1, .int .i64 c2, .int .i64 c3, .int .i64 c4] 34
  rw [size1] at BC
  have kx := BX.at_
  have kb := BC.at_
  replace hb2 := Lib.hid hb2
  replace BX := Lib.hid BX
  replace BC := Lib.hid BC
  have dd : decide (c2 < 32) = false := by simpa using g5
  clear g5
  go_enter Try.func38, Try.ntmps38
  go_wp2
  go_ret
  exact ⟨by first | rfl | simp, hb2.out⟩
end Sw
end Go.Proofs.Ytnkgmpmedkegbaa
namespace Go.Proofs.Ytnkgmpmedkegbaa
open Go Go.RowKit Go.Sort
namespace Sw
open Mm
set_option maxRecDepth 100000 in
set_option maxHeartbeats 8000000 in
theorem rcell_6 (L O : Int) (A : Option Addr) (n cp : Nat) (c0 c1 c2 c3 c4 : Int) (w : World) (g0 : 0 ≤ c0) (g1 : c0 < L) (g2 : 0 ≤ c1) (g3 : c1 < O) (g4 : 0 ≤ c2) (g5 : c2 < 32) (g6 : ¬ (0 ≤ c3)) :
    Calls Try.prog 38 #[.agg #[.int .i64 L, .int .i64 O, .slice A n cp], .agg #[.int .i64 c0, .int .i64 c1, .int .i64 c2, .int .i64 c3, .int .i64 c4]] w fun e w' => e = .returned (.bool false) ∧ Below w.heap.size w w' := by
  have hb2 := ballN (ball w (.cells #[.int .i64 L, .int .i64 O, .slice A n cp] 24)) (.cells #[.int .i64 c0, .int .i64 c1, .int .i64 c2, .int .i64 c3, .int .i64 c4] 34)
  have BX := (Box.new w #[.int .i64 L, .int .i64 O, .slice A n cp] 24).alloc (.cells #[.int .i64 c0, .int .i64 c1, .int .i64 c2, .int .i64 c3, .int .i64 c4] 34)
  have BC := Box.new (w.alloc (.cells #[.int .i64 L, .int .i64 O, .slice A n cp] 24)) #[.int .i64 c0, .int .i64 c1, .int .i64 c2, .int .i64 c3, .int .i64 c4] 34
  rw [size1] at BC
  have kx := BX.at_
  have kb := BC.at_
  replace hb2 := Lib.hid hb2
  replace BX := Lib.hid BX
  replace BC := Lib.hid BC
  have dd : decide (0 ≤ c3) = false := by simpa using g6
  clear g6
  go_enter Try.func38, Try.ntmps38
  go_wp2
  go_ret
  exact ⟨by first | rfl | simp, hb2.out⟩
set_option maxRecDepth 100000 in
set_option maxHeartbeats 8000000 in
theorem rcell_7 (L O : Int) (A : Option Addr) (n cp : Nat) (c0 c1 c2 c3 c4 : Int) (w : World) (g0 : 0 ≤ c0) (g1 : c0 < L) (g2 : 0 ≤ c1) (g3 : c1 < O) (g4 : 0 ≤ c2) (g5 : c2 < 32) (g6 : 0 ≤ c3) (g7 : ¬ (c3 < 32)) :
    Calls Try.prog 38 #[.agg #[.int .i64 L, .int .i64 O, .slice A n cp], .agg #[.int .i64 c0, .int .i64 c1, .int .i64 c2, .int .i64 c3, .int .i64 c4]] w fun e w' => e = .returned (.bool false) ∧ Below w.heap.size w w' := by
  have hb2 := ballN (ball w (.cells #[.int .i64 L, .int .i64 O, .slice A n cp] 24)) (.cells #[.int .i64 c0, .int .i64 c1, .int .i64 c2, .int .i64 c3, .int .i64 c4] 34)
  have BX := (Box.new w #[.int .i64 L, .int .i64 O, .slice A n cp] 24).alloc (.cells #[.int .i64 c0, .int .i64 c1, .int .i64 c2, .int .i64 c3, .int .i64 c4] 34)
  have BC := Box.new (w.alloc (.cells #[.int .i64 L, .int .i64 O, .slice A n cp] 24)) #[.int .i64 c0, .int .i64 c1, .int .i64 c2, .int .i64 c3, .int .i64 c4] 34
  rw [size1] at BC
  have kx := BX.at_
  have kb := BC.at_
  replace hb2 := Lib.hid hb2
  replace BX := Lib.hid BX
  replace BC := Lib.hid BC
  have dd : decide (c3 < 32) = false := by simpa using g7
  clear g7
  go_enter Try.func38, Try.ntmps38
  go_wp2
  go_ret
  exact ⟨by first | rfl | simp, hb2.out⟩
set_option maxRecDepth 100000 in
set_option maxHeartbeats 8000000 in
theorem rcell_8 (L O : Int) (A : Option Addr) (n cp : Nat) (c0 c1 c2 c3 c4 : Int) (w : World) (g0 : 0 ≤ c0) (g1 : c0 < L) (g2 : 0 ≤ c1) (g3 : c1 < O) (g4 : 0 ≤ c2) (g5 : c2 < 32) (g6 : 0 ≤ c3) (g7 : c3 < 32) (g8 : ¬ (c2 ≠ c3)) :
    Calls Try.prog 38 #[.agg #[.int .i64 L, .int .i64 O, .slice A n cp], .agg #[.int .i64 c0, .int .i64 c1, .int .i64 c2, .int .i64 c3, .int .i64 c4]] w fun e w' => e = .returned (.bool false) ∧ Below w.heap.size w w' := by
  have hb2 := ballN (ball w (.cells #[.int .i64 L, .int .i64 O, .slice A n cp] 24)) (.cells #[.int .i64 c0, .int .i64 c1, .int .i64 c2, .int .i64 c3, .int .i64 c4] 34)
  have BX := (Box.new w #[.int .i64 L, .int .i64 O, .slice A n cp] 24).alloc (.cells #[.int .i64 c0, .int .i64 c1, .int .i64 c2, .int .i64 c3, .int .i64 c4] 34)
  have BC := Box.new (w.alloc (.cells #[.int .i64 L, .int .i64 O, .slice A n cp] 24)) #[.int .i64 c0, .int .i64 c1, .int .i64 c2, .int .i64 c3, .int .i64 c4] 34
  rw [size1] at BC
  have kx := BX.at_
  have kb := BC.at_
  replace hb2 := Lib.hid hb2
  replace BX := Lib.hid BX
  replace BC := Lib.hid BC
  have dd : (c2 != c3) = false := by simpa using g8
  clear g8
  go_enter Try.func38, Try.ntmps38
  go_wp2
  go_ret
  exact ⟨by first | rfl | simp, hb2.out⟩
end Sw
end Go.Proofs.Ytnkgmpmedkegbaa
namespace Go.Proofs.Ytnkgmpmedkegbaa
open Go Go.RowKit Go.Sort
namespace Sw
open Mm
set_option maxRecDepth 100000 in
set_option maxHeartbeats 8000000 in
theorem rcell_9 (L O : Int) (A : Option Addr) (n cp : Nat) (c0 c1 c2 c3 c4 : Int) (w : World) (g0 : 0 ≤ c0) (g1 : c0 < L) (g2 : 0 ≤ c1) (g3 : c1 < O) (g4 : 0 ≤ c2) (g5 : c2 < 32) (g6 : 0 ≤ c3) (g7 : c3 < 32) (g8 : c2 ≠ c3) (g9 : ¬ (0 ≤ c4)) :
    Calls Try.prog 38 #[.agg #[.int .i64 L, .int .i64 O, .slice A n cp], .agg #[.int .i64 c0, .int .i64 c1, .int .i64 c2, .int .i64 c3, .int .i64 c4]] w fun e w' => e = .returned (.bool false) ∧ Below w.heap.size w w' := by
  have hb2 := ballN (ball w (.cells #[.int .i64 L, .int .i64 O, .slice A n cp] 24)) (.cells #[.int .i64 c0, .int .i64 c1, .int .i64 c2, .int .i64 c3, .int .i64 c4] 34)
  have BX := (Box.new w #[.int .i64 L, .int .i64 O, .slice A n cp] 24).alloc (.cells #[.int .i64 c0, .int .i64 c1, .int .i64 c2, .int .i64 c3, .int .i64 c4] 34)
  have BC := Box.new (w.alloc (.cells #[.int .i64 L, .int .i64 O, .slice A n cp] 24)) #[.int .i64 c0, .int .i64 c1, .int .i64 c2, .int .i64 c3, .int .i64 c4] 34
  rw [size1] at BC
  have kx := BX.at_
  have kb := BC.at_
  replace hb2 := Lib.hid hb2
  replace BX := Lib.hid BX
  replace BC := Lib.hid BC
  have d8 : (c2 != c3) = true := by rw [bne_iff_ne]; exact g8
  clear g8
  have dd : decide (0 ≤ c4) = false := by simpa using g9
  clear g9
  go_enter Try.func38, Try.ntmps38
  go_wp2
  go_ret
  exact ⟨by first | rfl | simp, hb2.out⟩
set_option maxRecDepth 100000 in
set_option maxHeartbeats 8000000 in
theorem rcell_10 (L O : Int) (A : Option Addr) (n cp : Nat) (c0 c1 c2 c3 c4 : Int) (w : World) (g0 : 0 ≤ c0) (g1 : c0 < L) (g2 : 0 ≤ c1) (g3 : c1 < O) (g4 : 0 ≤ c2) (g5 : c2 < 32) (g6 : 0 ≤ c3) (g7 : c3 < 32) (g8 : c2 ≠ c3) (g9 : 0 ≤ c4) (g10 : ¬ (c4 ≤ 255)) :
    Calls Try.prog 38 #[.agg #[.int .i64 L, .int .i64 O, .slice A n cp], .agg #[.int .i64 c0, .int .i64 c1, .int .i64 c2, .int .i64 c3, .int .i64 c4]] w fun e w' => e = .returned (.bool false) ∧ Below w.heap.size w w' := by
  have hb2 := ballN (ball w (.cells #[.int .i64 L, .int .i64 O, .slice A n cp] 24)) (.cells #[.int .i64 c0, .int .i64 c1, .int .i64 c2, .int .i64 c3, .int .i64 c4] 34)
  have BX := (Box.new w #[.int .i64 L, .int .i64 O, .slice A n cp] 24).alloc (.cells #[.int .i64 c0, .int .i64 c1, .int .i64 c2, .int .i64 c3, .int .i64 c4] 34)
  have BC := Box.new (w.alloc (.cells #[.int .i64 L, .int .i64 O, .slice A n cp] 24)) #[.int .i64 c0, .int .i64 c1, .int .i64 c2, .int .i64 c3, .int .i64 c4] 34
  rw [size1] at BC
  have kx := BX.at_
  have kb := BC.at_
  replace hb2 := Lib.hid hb2
  replace BX := Lib.hid BX
  replace BC := Lib.hid BC
  have d8 : (c2 != c3) = true := by rw [bne_iff_ne]; exact g8
  clear g8
  have dd : decide (c4 ≤ 255) = false := by simpa using g10
  clear g10
  go_enter Try.func38, Try.ntmps38
  go_wp2
  go_ret
  exact ⟨by first | rfl | simp, hb2.out⟩
end Sw
end Go.Proofs.Ytnkgmpmedkegbaa
namespace Go.Proofs.Ytnkgmpmedkegbaa
open Go Go.RowKit Go.Sort
namespace Sw
open Mm
set_option maxRecDepth 100000 in
set_option maxHeartbeats 8000000 in
theorem rcell_11 (L O : Int) (A : Option Addr) (n cp : Nat) (c0 c1 c2 c3 c4 : Int) (w : World) (g0 : 0 ≤ c0) (g1 : c0 < L) (g2 : 0 ≤ c1) (g3 : c1 < O) (g4 : 0 ≤ c2) (g5 : c2 < 32) (g6 : 0 ≤ c3) (g7 : c3 < 32) (g8 : c2 ≠ c3) (g9 : 0 ≤ c4) (g10 : c4 ≤ 255) :
    Calls Try.prog 38 #[.agg #[.int .i64 L, .int .i64 O, .slice A n cp], .agg #[.int .i64 c0, .int .i64 c1, .int .i64 c2, .int .i64 c3, .int .i64 c4]] w fun e w' => e = .returned (.bool true) ∧ Below w.heap.size w w' := by
  have hb2 := ballN (ball w (.cells #[.int .i64 L, .int .i64 O, .slice A n cp] 24)) (.cells #[.int .i64 c0, .int .i64 c1, .int .i64 c2, .int .i64 c3, .int .i64 c4] 34)
  have BX := (Box.new w #[.int .i64 L, .int .i64 O, .slice A n cp] 24).alloc (.cells #[.int .i64 c0, .int .i64 c1, .int .i64 c2, .int .i64 c3, .int .i64 c4] 34)
  have BC := Box.new (w.alloc (.cells #[.int .i64 L, .int .i64 O, .slice A n cp] 24)) #[.int .i64 c0, .int .i64 c1, .int .i64 c2, .int .i64 c3, .int .i64 c4] 34
  rw [size1] at BC
  have kx := BX.at_
  have kb := BC.at_
  replace hb2 := Lib.hid hb2
  replace BX := Lib.hid BX
  replace BC := Lib.hid BC
  have d8 : (c2 != c3) = true := by rw [bne_iff_ne]; exact g8
  clear g8
  go_enter Try.func38, Try.ntmps38
  go_wp2
  go_ret
  exact ⟨by first | rfl | simp, hb2.out⟩
end Sw
end Go.Proofs.Ytnkgmpmedkegbaa
namespace Go.Proofs.Ytnkgmpmedkegbaa
open Go Go.RowKit Go.Sort
namespace Sw
open Mm
theorem cellOk_iff (L O : Int) (c : Cel) : cellOk L O c = true ↔ (0 ≤ c.slot ∧ c.slot < L ∧ 0 ≤ c.offset ∧ c.offset < O ∧ 0 ≤ c.frm ∧ c.frm < 32 ∧ 0 ≤ c.to ∧ c.to < 32 ∧ c.frm ≠ c.to ∧ 0 ≤ c.flow ∧ c.flow ≤ 255) := by
  unfold cellOk wi
  simp only [Bool.and_eq_true, decide_eq_true_eq, bne_iff_ne]
  omega
theorem rcell_any (L O : Int) (A : Option Addr) (n cp : Nat) (c : Cel) (w : World) :
    Calls Try.prog 38 #[.agg #[.int .i64 L, .int .i64 O, .slice A n cp], .agg #[.int .i64 c.slot, .int .i64 c.offset, .int .i64 c.frm, .int .i64 c.to, .int .i64 c.flow]] w fun e w' => e = .returned (.bool (cellOk L O c)) ∧ Below w.heap.size w w' := by
  have hR := cellOk_iff L O c
  generalize cellOk L O c = R at *
  obtain ⟨c0, c1, c2, c3, c4⟩ := c
  dsimp only at *
  have hF : ∀ P : Prop, (R = true → P) → ¬ P → R = false := fun P h1 h2 => by
    cases R with
    | false => rfl
    | true => exact absurd (h1 rfl) h2
  by_cases g0 : 0 ≤ c0
  case neg => rw [hF _ (fun h => (hR.1 h).1) g0]; exact rcell_0 L O A n cp c0 c1 c2 c3 c4 w g0
  by_cases g1 : c0 < L
  case neg => rw [hF _ (fun h => (hR.1 h).2.1) g1]; exact rcell_1 L O A n cp c0 c1 c2 c3 c4 w g0 g1
  by_cases g2 : 0 ≤ c1
  case neg => rw [hF _ (fun h => (hR.1 h).2.2.1) g2]; exact rcell_2 L O A n cp c0 c1 c2 c3 c4 w g0 g1 g2
  by_cases g3 : c1 < O
  case neg => rw [hF _ (fun h => (hR.1 h).2.2.2.1) g3]; exact rcell_3 L O A n cp c0 c1 c2 c3 c4 w g0 g1 g2 g3
  by_cases g4 : 0 ≤ c2
  case neg => rw [hF _ (fun h => (hR.1 h).2.2.2.2.1) g4]; exact rcell_4 L O A n cp c0 c1 c2 c3 c4 w g0 g1 g2 g3 g4
  by_cases g5 : c2 < 32
  case neg => rw [hF _ (fun h => (hR.1 h).2.2.2.2.2.1) g5]; exact rcell_5 L O A n cp c0 c1 c2 c3 c4 w g0 g1 g2 g3 g4 g5
  by_cases g6 : 0 ≤ c3
  case neg => rw [hF _ (fun h => (hR.1 h).2.2.2.2.2.2.1) g6]; exact rcell_6 L O A n cp c0 c1 c2 c3 c4 w g0 g1 g2 g3 g4 g5 g6
  by_cases g7 : c3 < 32
  case neg => rw [hF _ (fun h => (hR.1 h).2.2.2.2.2.2.2.1) g7]; exact rcell_7 L O A n cp c0 c1 c2 c3 c4 w g0 g1 g2 g3 g4 g5 g6 g7
  by_cases g8 : c2 ≠ c3
  case neg => rw [hF _ (fun h => (hR.1 h).2.2.2.2.2.2.2.2.1) g8]; exact rcell_8 L O A n cp c0 c1 c2 c3 c4 w g0 g1 g2 g3 g4 g5 g6 g7 g8
  by_cases g9 : 0 ≤ c4
  case neg => rw [hF _ (fun h => (hR.1 h).2.2.2.2.2.2.2.2.2.1) g9]; exact rcell_9 L O A n cp c0 c1 c2 c3 c4 w g0 g1 g2 g3 g4 g5 g6 g7 g8 g9
  by_cases g10 : c4 ≤ 255
  case neg => rw [hF _ (fun h => (hR.1 h).2.2.2.2.2.2.2.2.2.2) g10]; exact rcell_10 L O A n cp c0 c1 c2 c3 c4 w g0 g1 g2 g3 g4 g5 g6 g7 g8 g9 g10
  rw [hR.2 ⟨g0, g1, g2, g3, g4, g5, g6, g7, g8, g9, g10⟩]
  exact rcell_11 L O A n cp c0 c1 c2 c3 c4 w g0 g1 g2 g3 g4 g5 g6 g7 g8 g9 g10
end Sw
end Go.Proofs.Ytnkgmpmedkegbaa
