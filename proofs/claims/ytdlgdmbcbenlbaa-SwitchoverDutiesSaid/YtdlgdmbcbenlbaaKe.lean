/- hopmeshref52.cell, way by way. -/
import Derived.Test.YtdlgdmbcbenlbaaKd
import Derived.Deep.Cut
set_option linter.unusedVariables false
set_option linter.unusedSimpArgs false
namespace Go.Proofs.Ytdlgdmbcbenlbaa
open Go Go.RowKit Go.Sort
namespace Sw
open Mm
set_option maxRecDepth 100000 in
set_option maxHeartbeats 8000000 in
theorem rcell_0 (L O : Int) (A : Option Addr) (n cp : Nat) (c0 c1 c2 c3 c4 : Int) (w : World)  (g0 : ¬ (0 ≤ c0)) :
    Calls Try.prog 38 #[.agg #[.int .i64 L, .int .i64 O, .slice A n cp], .agg #[.int .i64 c0, .int .i64 c1, .int .i64 c2, .int .i64 c3, .int .i64 c4]] w fun e w' => e = .returned (.bool false) ∧ Below w.heap.size w w' := by
  have hb2 := ballN (ball w (.cells #[.int .i64 L, .int .i64 O, .slice A n cp] 24)) (.cells #[.int .i64 c0, .int .i64 c1, .int .i64 c2, .int .i64 c3, .int .i64 c4] 34)
  have BX := (Box.new w #[.int .i64 L, .int .i64 O, .slice A n cp] 24).alloc (.cells #[.int .i64 c0, .int .i64 c1, .int .i64 c2, .int .i64 c3, .int .i64 c4] 34)
  have BC := Box.new (w.alloc (.cells #[.int .i64 L, .int .i64 O, .slice A n cp] 24)) #[.int .i64 c0, .int .i64 c1, .int .i64 c2, .int .i64 c3, .int .i64 c4] 34
  rw [size1] at BC
  have kx := BX.at_
  have kb := BC.at_
  replace hb2 := Lib.hid hb2
  replace BX := Lib.hid BX
  replace BC := Lib.hid BC
  have dd : decide (0 ≤ c0) = false := by simpa using g0
  clear g0
  go_enter Try.func38, Try.ntmps38
  go_wp2
  go_ret
  exact ⟨by first | rfl | simp, hb2.out⟩
set_option maxRecDepth 100000 in
set_option maxHeartbeats 8000000 in
theorem rcell_1 (L O : Int) (A : Option Addr) (n cp : Nat) (c0 c1 c2 c3 c4 : Int) (w : World) (g0 : 0 ≤ c0) (g1 : ¬ (c0 < L)) :
    Calls Try.prog 38 #[.agg #[.int .i64 L, .int .i64 O, .slice A n cp], .agg #[.int .i64 c0, .int .i64 c1, .int .i64 c2, .int .i64 c3, .int .i64 c4]] w fun e w' => e = .returned (.bool false) ∧ Below w.heap.size w w' := by
  have hb2 := ballN (ball w (.cells #[.int .i64 L, .int .i64 O, .slice A n cp] 24)) (.cells #[.int .i64 c0, .int .i64 c1, .int .i64 c2, .int .i64 c3, .int .i64 c4] 34)
  have BX := (Box.new w #[.int .i64 L, .int .i64 O, .slice A n cp] 24).alloc (.cells #[.int .i64 c0, .int .i64 c1, .int .i64 c2, .int .i64 c3, .int .i64 c4] 34)
  have BC := Box.new (w.alloc (.cells #[.int .i64 L, .int .i64 O, .slice A n cp] 24)) #[.int .i64 c0, .int .i64 c1, .int .i64 c2, .int .i64 c3, .int .i64 c4] 34
  rw [size1] at BC
  have kx := BX.at_
  have kb := BC.at_
  replace hb2 := Lib.hid hb2
  replace BX := Lib.hid BX
  replace BC := Lib.hid BC
  have dd : decide (c0 < L) = false := by simpa using g1
  clear g1
  go_enter Try.func38, Try.ntmps38
  go_wp2
  go_ret
  exact ⟨by first | rfl | simp, hb2.out⟩
set_option maxRecDepth 100000 in
set_option maxHeartbeats 8000000 in
theorem rcell_2 (L O : Int) (A : Option Addr) (n cp : Nat) (c0 c1 c2 c3 c4 : Int) (w : World) (g0 : 0 ≤ c0) (g1 : c0 < L) (g2 : ¬ (0 ≤ c1)) :
    Calls Try.prog 38 #[.agg #[.int .i64 L, .int .i64 O, .slice A n cp], .agg #[.int .i64 c0, .int .i64 c1, .int .i64 c2, .int .i64 c3, .int .i64 c4]] w fun e w' => e = .returned (.bool false) ∧ Below w.heap.size w w' := by
  have hb2 := ballN (ball w (.cells #[.int .i64 L, .int .i64 O, .slice A n cp] 24)) (.cells #[.int .i64 c0, .int .i64 c1, .int .i64 c2, .int .i64 c3, .int .i64 c4] 34)
  have BX := (Box.new w #[.int .i64 L, .int .i64 O, .slice A n cp] 24).alloc (.cells #[.int .i64 c0, .int .i64 c1, .int .i64 c2, .int .i64 c3, .int .i64 c4] 34)
  have BC := Box.new (w.alloc (.cells #[.int .i64 L, .int .i64 O, .slice A n cp] 24)) #[.int .i64 c0, .int .i64 c1, .int .i64 c2, .int .i64 c3, .int .i64 c4] 34
  rw [size1] at BC
  have kx := BX.at_
  have kb := BC.at_
  replace hb2 := Lib.hid hb2
  replace BX := Lib.hid BX
  replace BC := Lib.hid BC
  have dd : decide (0 ≤ c1) = false := by simpa using g2
  clear g2
  go_enter Try.func38, Try.ntmps38
  go_wp2
  go_ret
  exact ⟨by first | rfl | simp, hb2.out⟩
set_option maxRecDepth 100000 in
set_option maxHeartbeats 8000000 in
theorem rcell_3 (L O : Int) (A : Option Addr) (n cp : Nat) (c0 c1 c2 c3 c4 : Int) (w : World) (g0 : 0 ≤ c0) (g1 : c0 < L) (g2 : 0 ≤ c1) (g3 : ¬ (c1 < O)) :
    Calls Try.prog 38 #[.agg #[.int .i64 L, .int .i64 O, .slice A n cp], .agg #[.int .i64 c0, .int .i64 c1, .int .i64 c2, .int .i64 c3, .int .i64 c4]] w fun e w' => e = .returned (.bool false) ∧ Below w.heap.size w w' := by
  have hb2 := ballN (ball w (.cells #[.int .i64 L, .int .i64 O, .slice A n cp] 24)) (.cells #[.int .i64 c0, .int .i64 c1, .int .i64 c2, .int .i64 c3, .int .i64 c4] 34)
  have BX := (Box.new w #[.int .i64 L, .int .i64 O, .slice A n cp] 24).alloc (.cells #[.int .i64 c0, .int .i64 c1, .int .i64 c2, .int .i64 c3, .int .i64 c4] 34)
  have BC := Box.new (w.alloc (.cells #[.int .i64 L, .int .i64 O, .slice A n cp] 24)) #[.int .i64 c0, .int .i64 c1, .int .i64 c2, .int .i64 c3, .int .i64 c4] 34
  rw [size1] at BC
  have kx := BX.at_
  have kb := BC.at_
  replace hb2 := Lib.hid hb2
  replace BX := Lib.hid BX
  replace BC := Lib.hid BC
  have dd : decide (c1 < O) = false := by simpa using g3
  clear g3
  go_enter Try.func38, Try.ntmps38
  go_wp2
  go_ret
  exact ⟨by first | rfl | simp, hb2.out⟩
set_option maxRecDepth 100000 in
set_option maxHeartbeats 8000000 in
theorem rcell_4 (L O : Int) (A : Option Addr) (n cp : Nat) (c0 c1 c2 c3 c4 : Int) (w : World) (g0 : 0 ≤ c0) (g1 : c0 < L) (g2 : 0 ≤ c1) (g3 : c1 < O) (g4 : ¬ (0 ≤ c2)) :
    Calls Try.prog 38 #[.agg #[.int .i64 L, .int .i64 O, .slice A n cp], .agg #[.int .i64 c0, .int .i64 c1, .int .i64 c2, .int .i64 c3, .int .i64 c4]] w fun e w' => e = .returned (.bool false) ∧ Below w.heap.size w w' := by
  have hb2 := ballN (ball w (.cells #[.int .i64 L, .int .i64 O, .slice A n cp] 24)) (.cells #[.int .i64 c0, .int .i64 c1, .int .i64 c2, .int .i64 c3, .int .i64 c4] 34)
  have BX := (Box.new w #[.int .i64 L, .int .i64 O, .slice A n cp] 24).alloc (.cells #[.int .i64 c0, .int .i64 c1, .int .i64 c2, .int .i64 c3, .int .i64 c4] 34)
  have BC := Box.new (w.alloc (.cells #[.int .i64 L, .int .i64 O, .slice A n cp] 24)) #[.int .i64 c0, .int .i64 c1, .int .i64 c2, .int .i64 c3, .int .i64 c4] 34
  rw [size1] at BC
  have kx := BX.at_
  have kb := BC.at_
  replace hb2 := Lib.hid hb2
  replace BX := Lib.hid BX
  replace BC := Lib.hid BC
  have dd : decide (0 ≤ c2) = false := by simpa using g4
  clear g4
  go_enter Try.func38, Try.ntmps38
  go_wp2
  go_ret
  exact ⟨by first | rfl | simp, hb2.out⟩
set_option maxRecDepth 100000 in
set_option maxHeartbeats 8000000 in
theorem rcell_5 (L O : Int) (A : Option Addr) (n cp : Nat) (c0 c1 c2 c3 c4 : Int) (w : World) (g0 : 0 ≤ c0) (g1 : c0 < L) (g2 : 0 ≤ c1) (g3 : c1 < O) (g4 : 0 ≤ c2) (g5 : ¬ (c2 < 32)) :
    Calls Try.prog 38 #[.agg #[.int .i64 L, .int .i64 O, .slice A n cp], .agg #[.int .i64 c0, .int .i64 c1, .int .i64 c2, .int .i64 c3, .int .i64 c4]] w fun e w' => e = .returned (.bool false) ∧ Below w.heap.size w w' := by
  have hb2 := ballN (ball w (.cells #[.int .i64 L, .int .i64 O, .slice A n cp] 24)) (.cells #[.int .i64 c0, .int .i64 c1, .int .i64 c2, .int .i64 c3, .int .i64 c4] 34)
  have BX := (Box.new w #[.int .i64 L, .int .i64 O, .slice A n cp] 24).alloc (.cells #[.int .i64 c0, .int .i64 c1, .int .i64 c2, .int .i64 c3, .int .i64 c4] 34)
  have BC := Box.new (w.alloc (.cells #[.int .i64 L, .int .i64 O, .slice A n cp] 24)) #[.int .i64 c0, .int .i64 c1, .int .i64 c2, .int .i64 c3, .int .i64 c4] 34
  rw [size1] at BC
  have kx := BX.at_
  have kb := BC.at_
  replace hb2 := Lib.hid hb2
  replace BX := Lib.hid BX
  replace BC := Lib.hid BC
  have dd : decide (c2 < 32) = false := by simpa using g5
  clear g5
  go_enter Try.func38, Try.ntmps38
  go_wp2
  go_ret
  exact ⟨by first | rfl | simp, hb2.out⟩
end Sw
end Go.Proofs.Ytdlgdmbcbenlbaa
namespace Go.Proofs.Ytdlgdmbcbenlbaa
open Go Go.RowKit Go.Sort
namespace Sw
open Mm
set_option maxRecDepth 100000 in
set_option maxHeartbeats 8000000 in
theorem rcell_6 (L O : Int) (A : Option Addr) (n cp : Nat) (c0 c1 c2 c3 c4 : Int) (w : World) (g0 : 0 ≤ c0) (g1 : c0 < L) (g2 : 0 ≤ c1) (g3 : c1 < O) (g4 : 0 ≤ c2) (g5 : c2 < 32) (g6 : ¬ (0 ≤ c3)) :
    Calls Try.prog 38 #[.agg #[.int .i64 L, .int .i64 O, .slice A n cp], .agg #[.int .i64 c0, .int .i64 c1, .int .i64 c2, .int .i64 c3, .int .i64 c4]] w fun e w' => e = .returned (.bool false) ∧ Below w.heap.size w w' := by
  have hb2 := ballN (ball w (.cells #[.int .i64 L, .int .i64 O, .slice A n cp] 24)) (.cells #[.int .i64 c0, .int .i64 c1, .int .i64 c2, .int .i64 c3, .int .i64 c4] 34)
  have BX := (Box.new w #[.int .i64 L, .int .i64 O, .slice A n cp] 24).alloc (.cells #[.int .i64 c0, .int .i64 c1, .int .i64 c2, .int .i64 c3, .int .i64 c4] 34)
  have BC := Box.new (w.alloc (.cells #[.int .i64 L, .int .i64 O, .slice A n cp] 24)) #[.int .i64 c0, .int .i64 c1, .int .i64 c2, .int .i64 c3, .int .i64 c4] 34
  rw [size1] at BC
  have kx := BX.at_
  have kb := BC.at_
  replace hb2 := Lib.hid hb2
  replace BX := Lib.hid BX
  replace BC := Lib.hid BC
  have dd : decide (0 ≤ c3) = false := by simpa using g6
  clear g6
  go_enter Try.func38, Try.ntmps38
  go_wp2
  go_ret
  exact ⟨by first | rfl | simp, hb2.out⟩
set_option maxRecDepth 100000 in
set_option maxHeartbeats 8000000 in
theorem rcell_7 (L O : Int) (A : Option Addr) (n cp : Nat) (c0 c1 c2 c3 c4 : Int) (w : World) (g0 : 0 ≤ c0) (g1 : c0 < L) (g2 : 0 ≤ c1) (g3 : c1 < O) (g4 : 0 ≤ c2) (g5 : c2 < 32) (g6 : 0 ≤ c3) (g7 : ¬ (c3 < 32)) :
    Calls Try.prog 38 #[.agg #[.int .i64 L, .int .i64 O, .slice A n cp], .agg #[.int .i64 c0, .int .i64 c1, .int .i64 c2, .int .i64 c3, .int .i64 c4]] w fun e w' => e = .returned (.bool false) ∧ Below w.heap.size w w' := by
  have hb2 := ballN (ball w (.cells #[.int .i64 L, .int .i64 O, .slice A n cp] 24)) (.cells #[.int .i64 c0, .int .i64 c1, .int .i64 c2, .int .i64 c3, .int .i64 c4] 34)
  have BX := (Box.new w #[.int .i64 L, .int .i64 O, .slice A n cp] 24).alloc (.cells #[.int .i64 c0, .int .i64 c1, .int .i64 c2, .int .i64 c3, .int .i64 c4] 34)
  have BC := Box.new (w.alloc (.cells #[.int .i64 L, .int .i64 O, .slice A n cp] 24)) #[.int .i64 c0, .int .i64 c1, .int .i64 c2, .int .i64 c3, .int .i64 c4] 34
  rw [size1] at BC
  have kx := BX.at_
  have kb := BC.at_
  replace hb2 := Lib.hid hb2
  replace BX := Lib.hid BX
  replace BC := Lib.hid BC
  have dd : decide (c3 < 32) = false := by simpa using g7
  clear g7
  go_enter Try.func38, Try.ntmps38
  go_wp2
  go_ret
  exact ⟨by first | rfl | simp, hb2.out⟩
set_option maxRecDepth 100000 in
set_option maxHeartbeats 8000000 in
theorem rcell_8 (L O : Int) (A : Option Addr) (n cp : Nat) (c0 c1 c2 c3 c4 : Int) (w : World) (g0 : 0 ≤ c0) (g1 : c0 < L) (g2 : 0 ≤ c1) (g3 : c1 < O) (g4 : 0 ≤ c2) (g5 : c2 < 32) (g6 : 0 ≤ c3) (g7 : c3 < 32) (g8 : ¬ (c2 ≠ c3)) :
    Calls Try.prog 38 #[.agg #[.int .i64 L, .int .i64 O, .slice A n cp], .agg #[.int .i64 c0, .int .i64 c1, .int .i64 c2, .int .i64 c3, .int .i64 c4]] w fun e w' => e = .returned (.bool false) ∧ Below w.heap.size w w' := by
  have hb2 := ballN (ball w (.cells #[.int .i64 L, .int .i64 O, .slice A n cp] 24)) (.cells #[.int .i64 c0, .int .i64 c1, .int .i64 c2, .int .i64 c3, .int .i64 c4] 34)
  have BX := (Box.new w #[.int .i64 L, .int .i64 O, .slice A n cp] 24).alloc (.cells #[.int .i64 c0, .int .i64 c1, .int .i64 c2, .int .i64 c3, .int .i64 c4] 34)
  have BC := Box.new (w.alloc (.cells #[.int .i64 L, .int .i64 O, .slice A n cp] 24)) #[.int .i64 c0, .int .i64 c1, .int .i64 c2, .int .i64 c3, .int .i64 c4] 34
  rw [size1] at BC
  have kx := BX.at_
  have kb := BC.at_
  replace hb2 := Lib.hid hb2
  replace BX := Lib.hid BX
  replace BC := Lib.hid BC
  have dd : (c2 != c3) = false := by simpa using g8
  clear g8
  go_enter Try.func38, Try.ntmps38
  go_wp2
  go_ret
  exact ⟨by first | rfl | simp, hb2.out⟩
end Sw
end Go.Proofs.Ytdlgdmbcbenlbaa
namespace Go.Proofs.Ytdlgdmbcbenlbaa
open Go Go.RowKit Go.Sort
namespace Sw
open Mm
set_option maxRecDepth 100000 in
set_option maxHeartbeats 8000000 in
theorem rcell_9 (L O : Int) (A : Option Addr) (n cp : Nat) (c0 c1 c2 c3 c4 : Int) (w : World) (g0 : 0 ≤ c0) (g1 : c0 < L) (g2 : 0 ≤ c1) (g3 : c1 < O) (g4 : 0 ≤ c2) (g5 : c2 < 32) (g6 : 0 ≤ c3) (g7 : c3 < 32) (g8 : c2 ≠ c3) (g9 : ¬ (0 ≤ c4)) :
    Calls Try.prog 38 #[.agg #[.int .i64 L, .int .i64 O, .slice A n cp], .agg #[.int .i64 c0, .int .i64 c1, .int .i64 c2, .int .i64 c3, .int .i64 c4]] w fun e w' => e = .returned (.bool false) ∧ Below w.heap.size w w' := by
  have hb2 := ballN (ball w (.cells #[.int .i64 L, .int .i64 O, .slice A n cp] 24)) (.cells #[.int .i64 c0, .int .i64 c1, .int .i64 c2, .int .i64 c3, .int .i64 c4] 34)
  have BX := (Box.new w #[.int .i64 L, .int .i64 O, .slice A n cp] 24).alloc (.cells #[.int .i64 c0, .int .i64 c1, .int .i64 c2, .int .i64 c3, .int .i64 c4] 34)
  have BC := Box.new (w.alloc (.cells #[.int .i64 L, .int .i64 O, .slice A n cp] 24)) #[.int .i64 c0, .int .i64 c1, .int .i64 c2, .int .i64 c3, .int .i64 c4] 34
  rw [size1] at BC
  have kx := BX.at_
  have kb := BC.at_
  replace hb2 := Lib.hid hb2
  replace BX := Lib.hid BX
  replace BC := Lib.hid BC
  have d8 : (c2 != c3) = true := by rw [bne_iff_ne]; exact g8
  clear g8
  have dd : decide (0 ≤ c4) = false := by simpa using g9
  clear g9
  go_enter Try.func38, Try.ntmps38
  go_wp2
  go_ret
  exact ⟨by first | rfl | simp, hb2.out⟩
set_option maxRecDepth 100000 in
set_option maxHeartbeats 8000000 in
theorem rcell_10 (L O : Int) (A : Option Addr) (n cp : Nat) (c0 c1 c2 c3 c4 : Int) (w : World) (g0 : 0 ≤ c0) (g1 : c0 < L) (g2 : 0 ≤ c1) (g3 : c1 < O) (g4 : 0 ≤ c2) (g5 : c2 < 32) (g6 : 0 ≤ c3) (g7 : c3 < 32) (g8 : c2 ≠ c3) (g9 : 0 ≤ c4) (g10 : ¬ (c4 ≤ 255)) :
    Calls Try.prog 38 #[.agg #[.int .i64 L, .int .i64 O, .slice A n cp], .agg #[.int .i64 c0, .int .i64 c1, .int .i64 c2, .int .i64 c3, .int .i64 c4]] w fun e w' => e = .returned (.bool false) ∧ Below w.heap.size w w' := by
  have hb2 := ballN (ball w (.cells #[.int .i64 L, .int .i64 O, .slice A n cp] 24)) (.cells #[.int .i64 c0, .int .i64 c1, .int .i64 c2, .int .i64 c3, .int .i64 c4] 34)
  have BX := (Box.new w #[.int .i64 L, .int .i64 O, .slice A n cp] 24).alloc (.cells #[.int .i64 c0, .int .i64 c1, .int .i64 c2, .int .i64 c3, .int .i64 c4] 34)
  have BC := Box.new (w.alloc (.cells #[.int .i64 L, .int .i64 O, .slice A n cp] 24)) #[.int .i64 c0, .int .i64 c1, .int .i64 c2, .int .i64 c3, .int .i64 c4] 34
  rw [size1] at BC
  have kx := BX.at_
  have kb := BC.at_
  replace hb2 := Lib.hid hb2
  replace BX := Lib.hid BX
  replace BC := Lib.hid BC
  have d8 : (c2 != c3) = true := by rw [bne_iff_ne]; exact g8
  clear g8
  have dd : decide (c4 ≤ 255) = false := by simpa using g10
  clear g10
  go_enter Try.func38, Try.ntmps38
  go_wp2
  go_ret
  exact ⟨by first | rfl | simp, hb2.out⟩
end Sw
end Go.Proofs.Ytdlgdmbcbenlbaa
namespace Go.Proofs.Ytdlgdmbcbenlbaa
open Go Go.RowKit Go.Sort
namespace Sw
open Mm
set_option maxRecDepth 100000 in
set_option maxHeartbeats 8000000 in
theorem rcell_11 (L O : Int) (A : Option Addr) (n cp : Nat) (c0 c1 c2 c3 c4 : Int) (w : World) (g0 : 0 ≤ c0) (g1 : c0 < L) (g2 : 0 ≤ c1) (g3 : c1 < O) (g4 : 0 ≤ c2) (g5 : c2 < 32) (g6 : 0 ≤ c3) (g7 : c3 < 32) (g8 : c2 ≠ c3) (g9 : 0 ≤ c4) (g10 : c4 ≤ 255) :
    Calls Try.prog 38 #[.agg #[.int .i64 L, .int .i64 O, .slice A n cp], .agg #[.int .i64 c0, .int .i64 c1, .int .i64 c2, .int .i64 c3, .int .i64 c4]] w fun e w' => e = .returned (.bool true) ∧ Below w.heap.size w w' := by
  have hb2 := ballN (ball w (.cells #[.int .i64 L, .int .i64 O, .slice A n cp] 24)) (.cells #[.int .i64 c0, .int .i64 c1, .int .i64 c2, .int .i64 c3, .int .i64 c4] 34)
  have BX := (Box.new w #[.int .i64 L, .int .i64 O, .slice A n cp] 24).alloc (.cells #[.int .i64 c0, .int .i64 c1, .int .i64 c2, .int .i64 c3, .int .i64 c4] 34)
  have BC := Box.new (w.alloc (.cells #[.int .i64 L, .int .i64 O, .slice A n cp] 24)) #[.int .i64 c0, .int .i64 c1, .int .i64 c2, .int .i64 c3, .int .i64 c4] 34
  rw [size1] at BC
  have kx := BX.at_
  have kb := BC.at_
  replace hb2 := Lib.hid hb2
  replace BX := Lib.hid BX
  replace BC := Lib.hid BC
  have d8 : (c2 != c3) = true := by rw [bne_iff_ne]; exact g8
  clear g8
  go_enter Try.func38, Try.ntmps38
  go_wp2
  go_ret
  exact ⟨by first | rfl | simp, hb2.out⟩
end Sw
end Go.Proofs.Ytdlgdmbcbenlbaa
namespace Go.Proofs.Ytdlgdmbcbenlbaa
open Go Go.RowKit Go.Sort
namespace Sw
open Mm
theorem cellOk_iff (L O : Int) (c : Cel) : cellOk L O c = true ↔ (0 ≤ c.slot ∧ c.slot < L ∧ 0 ≤ c.offset ∧ c.offset < O ∧ 0 ≤ c.frm ∧ c.frm < 32 ∧ 0 ≤ c.to ∧ c.to < 32 ∧ c.frm ≠ c.to ∧ 0 ≤ c.flow ∧ c.flow ≤ 255) := by
  unfold cellOk wi
  simp only [Bool.and_eq_true, decide_eq_true_eq, bne_iff_ne]
  omega
theorem rcell_any (L O : Int) (A : Option Addr) (n cp : Nat) (c : Cel) (w : World) :
    Calls Try.prog 38 #[.agg #[.int .i64 L, .int .i64 O, .slice A n cp], .agg #[.int .i64 c.slot, .int .i64 c.offset, .int .i64 c.frm, .int .i64 c.to, .int .i64 c.flow]] w fun e w' => e = .returned (.bool (cellOk L O c)) ∧ Below w.heap.size w w' := by
  have hR := cellOk_iff L O c
  generalize cellOk L O c = R at *
  obtain ⟨c0, c1, c2, c3, c4⟩ := c
  dsimp only at *
  have hF : ∀ P : Prop, (R = true → P) → ¬ P → R = false := fun P h1 h2 => by
    cases R with
    | false => rfl
    | true => exact absurd (h1 rfl) h2
  by_cases g0 : 0 ≤ c0
  case neg => rw [hF _ (fun h => (hR.1 h).1) g0]; exact rcell_0 L O A n cp c0 c1 c2 c3 c4 w g0
  by_cases g1 : c0 < L
  case neg => rw [hF _ (fun h => (hR.1 h).2.1) g1]; exact rcell_1 L O A n cp c0 c1 c2 c3 c4 w g0 g1
  by_cases g2 : 0 ≤ c1
  case neg => rw [hF _ (fun h => (hR.1 h).2.2.1) g2]; exact rcell_2 L O A n cp c0 c1 c2 c3 c4 w g0 g1 g2
  by_cases g3 : c1 < O
  case neg => rw [hF _ (fun h => (hR.1 h).2.2.2.1) g3]; exact rcell_3 L O A n cp c0 c1 c2 c3 c4 w g0 g1 g2 g3
  by_cases g4 : 0 ≤ c2
  case neg => rw [hF _ (fun h => (hR.1 h).2.2.2.2.1) g4]; exact rcell_4 L O A n cp c0 c1 c2 c3 c4 w g0 g1 g2 g3 g4
  by_cases g5 : c2 < 32
  case neg => rw [hF _ (fun h => (hR.1 h).2.2.2.2.2.1) g5]; exact rcell_5 L O A n cp c0 c1 c2 c3 c4 w g0 g1 g2 g3 g4 g5
  by_cases g6 : 0 ≤ c3
  case neg => rw [hF _ (fun h => (hR.1 h).2.2.2.2.2.2.1) g6]; exact rcell_6 L O A n cp c0 c1 c2 c3 c4 w g0 g1 g2 g3 g4 g5 g6
  by_cases g7 : c3 < 32
  case neg => rw [hF _ (fun h => (hR.1 h).2.2.2.2.2.2.2.1) g7]; exact rcell_7 L O A n cp c0 c1 c2 c3 c4 w g0 g1 g2 g3 g4 g5 g6 g7
  by_cases g8 : c2 ≠ c3
  case neg => rw [hF _ (fun h => (hR.1 h).2.2.2.2.2.2.2.2.1) g8]; exact rcell_8 L O A n cp c0 c1 c2 c3 c4 w g0 g1 g2 g3 g4 g5 g6 g7 g8
  by_cases g9 : 0 ≤ c4
  case neg => rw [hF _ (fun h => (hR.1 h).2.2.2.2.2.2.2.2.2.1) g9]; exact rcell_9 L O A n cp c0 c1 c2 c3 c4 w g0 g1 g2 g3 g4 g5 g6 g7 g8 g9
  by_cases g10 : c4 ≤ 255
  case neg => rw [hF _ (fun h => (hR.1 h).2.2.2.2.2.2.2.2.2.2) g10]; exact rcell_10 L O A n cp c0 c1 c2 c3 c4 w g0 g1 g2 g3 g4 g5 g6 g7 g8 g9 g10
  rw [hR.2 ⟨g0, g1, g2, g3, g4, g5, g6, g7, g8, g9, g10⟩]
  exact rcell_11 L O A n cp c0 c1 c2 c3 c4 w g0 g1 g2 g3 g4 g5 g6 g7 g8 g9 g10
end Sw
end Go.Proofs.Ytdlgdmbcbenlbaa
namespace Go.Proofs.Ytdlgdmbcbenlbaa
open Go Go.RowKit Go.Sort
namespace Sw
open Mm
theorem lessL_any (a b : Cel) (w : World) :
    Calls Try.prog 66 #[.agg #[.int .i64 a.slot, .int .i64 a.offset, .int .i64 a.frm, .int .i64 a.to, .int .i64 a.flow], .agg #[.int .i64 b.slot, .int .i64 b.offset, .int .i64 b.frm, .int .i64 b.to, .int .i64 b.flow]] w fun e w' => e = .returned (.bool (decide (cmpC a b < 0))) ∧ Below w.heap.size w w' := less_any a b w
set_option maxRecDepth 100000 in
set_option maxHeartbeats 2000000 in
theorem rinOrder_any (L O : Int) (A : Option Addr) (n cp : Nat) (xs : List Cel) (w : World) (h : CelS w A n xs) :
    Calls Try.prog 36 #[.agg #[.int .i64 L, .int .i64 O, .slice A n cp]] w fun e w' => e = .returned (.bool (formedB L O xs)) ∧ Below w.heap.size w w' := by
  have hlen := h.len
  have hs := h.small
  unfold maxLen at hs
  have hbw := ball w (.cells #[.int .i64 L, .int .i64 O, .slice A n cp] 24)
  have BX := Box.new w #[.int .i64 L, .int .i64 O, .slice A n cp] 24
  have hR : formedB L O xs = (headB L O n && (List.range n).all (adjB L O xs)) := by unfold formedB; rw [hlen]
  generalize formedB L O xs = R at *
  have hH : (headB L O n = false ∧ (L < 1 ∨ (1 ≤ L ∧ 512 < L) ∨ (1 ≤ L ∧ L ≤ 512 ∧ O < 1) ∨ (1 ≤ L ∧ L ≤ 512 ∧ 1 ≤ O ∧ 16 < O) ∨ (1 ≤ L ∧ L ≤ 512 ∧ 1 ≤ O ∧ O ≤ 16 ∧ 512 < n))) ∨ (headB L O n = true ∧ 1 ≤ L ∧ L ≤ 512 ∧ 1 ≤ O ∧ O ≤ 16 ∧ n ≤ 512) := by
    unfold headB
    by_cases h1 : 1 ≤ L <;> by_cases h2 : L ≤ 512 <;> by_cases h3 : 1 ≤ O <;> by_cases h4 : O ≤ 16 <;> by_cases h5 : n ≤ 512 <;> simp [h1, h2, h3, h4, h5] <;> omega
  replace h := Lib.hid h
  replace hlen := Lib.hid hlen
  replace hbw := Lib.hid hbw
  replace BX := Lib.hid BX
  replace hR := Lib.hid hR
  rcases hH with ⟨hF, hw⟩ | ⟨hT, hL1, hL2, hO1, hO2, hn⟩
  · have hR2 : Hid (R = false) := by show _ = _; rw [hR.out, hF]; rfl
    clear hR hF
    have kx := BX.out.at_
    rcases hw with h1 | ⟨h1, h2⟩ | ⟨h1, h2, h3⟩ | ⟨h1, h2, h3, h4⟩ | ⟨h1, h2, h3, h4, h5⟩
    all_goals
      go_enter Try.func36, Try.ntmps36
      go_wp2
      go_ret
      exact ⟨by rw [hR2.out]; rfl, hbw.out⟩
  have hR2 : Hid (R = (List.range n).all (adjB L O xs)) := by show _ = _; rw [hR.out, hT]; rfl
  clear hR hT
  have hAd : Hid (∀ i, adjB L O xs i = (cellOk L O (xs.getD i default) && (decide (i = 0) || decide (cmpC (xs.getD (i - 1) default) (xs.getD i default) < 0)))) := fun _ => rfl
  have cR := fun c W => rcell_any L O A n cp c W
  have cC := fun a b W => lessL_any a b W
  generalize adjB L O xs = AD at *
  generalize cellOk L O = CO at *
  generalize cmpC = CC at *
  replace cR := Lib.hid cR
  replace cC := Lib.hid cC
  have kx := BX.out.at_
  go_enter Try.func36, Try.ntmps36
  go_wp2_with fail
  clear kx
  generalize w.alloc (.cells #[.int .i64 L, .int .i64 O, .slice A n cp] 24) = w0 at *
  go_loopw [3] (fun i wr => ∃ k : Nat, k ≤ n ∧ i = .int .i64 k ∧ Hid (∀ j, j < k → AD j = true) ∧ Hid (Below w0.heap.size w0 wr)) (fun i _ => n - (intOf i).toNat)
  case atStart => exact ⟨0, by omega, rfl, fun j hj => absurd hj (by omega), Below.refl _ _⟩
  case round =>
    obtain ⟨k, hk, rfl, HP, HB⟩ := hrel
    have hB0 := Lib.hid (bthen hbw.out HB.out)
    have kx := (BX.out.keep HB.out).at_
    by_cases hlt : k < n
    · obtain ⟨b, off, rfl⟩ := h.out.addr (by omega)
      have hk1 := cel_at (h.out.keep hB0.out) hlt
      have hA := hAd.out k
      have cr := cR.out (xs.getD k default)
      have cc := cC.out (xs.getD (k - 1) default) (xs.getD k default)
      have hkp := fun (h0 : 0 < k) => cel_at (h.out.keep hB0.out) (i := k - 1) (by omega)
      generalize CC (xs.getD (k - 1) default) (xs.getD k default) = V at *
      generalize CO (xs.getD k default) = CK at *
      generalize xs.getD k default = c at *
      generalize xs.getD (k - 1) default = d at *
      obtain ⟨c0, c1, c2, c3, c4⟩ := c
      obtain ⟨d0, d1, d2, d3, d4⟩ := d
      obtain ⟨q0, q1, q2, q3, q4⟩ := hk1
      dsimp only at q0 q1 q2 q3 q4 cr cc
      replace hA := Lib.hid hA
      replace hkp := Lib.hid hkp
      replace cr := Lib.hid cr
      replace cc := Lib.hid cc
      have r1 : (k : Int) < (n : Int) := by omega
      go_wp2_with fail
      have gx := (BX.out.keep HB.out).grown
      have g1 := cell_regrown q0
      have g2 := cell_regrown q1
      have g3 := cell_regrown q2
      have g4 := cell_regrown q3
      have g5 := cell_regrown q4
      clear q0 q1 q2 q3 q4 kx
      have cl : ∀ d os, Calls Try.prog 38 #[.agg #[.int .i64 L, .int .i64 O, .slice (some ⟨b, off, none⟩) n cp], .agg #[.int .i64 c0, .int .i64 c1, .int .i64 c2, .int .i64 c3, .int .i64 c4]] (grow (redrawn wr d) os) fun e w'' => e = .returned (.bool CK) ∧ ∃ p : Regrown, w'' = grow (redrawn wr p.d) p.os :=
        fun d os => Calls.regrown_of (cr.out _)
      replace cl := Lib.hid cl
      cases CK with
      | false =>
        have hA2 : Hid (R = false) := by show _ = _; rw [hR2.out]; exact all_range_false hlt (by rw [hA.out]; rfl)
        refine wp_region_quiet_below (by kernel_rfl) (by kernel_rfl) ?_
        repeat (go_big_quiet_step (exact cl.out _ _))
        refine wpQuiet_nil ?_
        rintro _ ⟨⟨dq, osq⟩, rfl⟩
        have hb_ := below_regrown wr dq osq
        replace HB := Lib.hid (HB.out.keep hb_)
        generalize grow (redrawn wr dq) osq = w2 at *
        clear hb_
        have hB2 := Lib.hid (bthen hbw.out HB.out)
        go_wp2
        go_ret
        exact ⟨by rw [hA2.out]; rfl, hB2.out⟩
      | true =>
        by_cases h0 : k = 0
        · subst h0
          have hP2 : Hid (∀ j, j < 0 + 1 → AD j = true) := fun j hj => by
            obtain rfl : j = 0 := by omega
            rw [hA.out]; rfl
          simp only [Nat.zero_mul, Nat.add_zero] at g1 g2 g3 g4 g5
          refine wp_region_quiet_below (by kernel_rfl) (by kernel_rfl) ?_
          repeat (go_big_quiet_step (exact cl.out _ _))
          refine wpQuiet_nil ?_
          rintro _ ⟨⟨dq, osq⟩, rfl⟩
          have hb_ := below_regrown wr dq osq
          replace HB := Lib.hid (HB.out.keep hb_)
          generalize grow (redrawn wr dq) osq = w2 at *
          clear hb_
          go_wp2
          go_roundw
          case rel => exact ⟨0 + 1, by omega, by go_num, hP2, HB⟩
          case measure => simp [intOf]; omega
        · have hk0 : 0 < k := by omega
          obtain ⟨p0, p1, p2, p3, p4⟩ := hkp.out hk0
          dsimp only at p0 p1 p2 p3 p4
          have hcast : (k : Int) - 1 = ((k - 1 : Nat) : Int) := by omega
          have hw1 : IntKind.i64.wrap ((k : Int) - 1) = (k : Int) - 1 := IntWalk.i64_in _ (by omega)
          have ht1 : ((k : Int) - 1).toNat = k - 1 := by omega
          have r3 : (0 : Int) ≤ (k : Int) - 1 := by omega
          have r2 : (k : Int) - 1 < (n : Int) := by omega
          have g6 := cell_regrown p0
          have g7 := cell_regrown p1
          have g8 := cell_regrown p2
          have g9 := cell_regrown p3
          have g10 := cell_regrown p4
          clear hcast p0 p1 p2 p3 p4
          have hk0' : 0 < (k : Int) := by omega
          obtain ⟨BV, hBV⟩ : ∃ B : Bool, B = decide (V < 0) := ⟨_, rfl⟩
          have cc2 := cc.out
          rw [← hBV] at cc2
          have cm : ∀ d os, Calls Try.prog 66 #[.agg #[.int .i64 d0, .int .i64 d1, .int .i64 d2, .int .i64 d3, .int .i64 d4], .agg #[.int .i64 c0, .int .i64 c1, .int .i64 c2, .int .i64 c3, .int .i64 c4]] (grow (redrawn wr d) os) fun e w'' => e = .returned (.bool BV) ∧ ∃ p : Regrown, w'' = grow (redrawn wr p.d) p.os :=
            fun d os => Calls.regrown_of (cc2 _)
          replace cm := Lib.hid cm
          replace cc2 := Lib.hid cc2
          replace hBV := Lib.hid hBV
          cases BV with
          | true =>
            have hP2 : Hid (∀ j, j < k + 1 → AD j = true) := fun j hj => by
              by_cases e : j = k
              · subst e; rw [hA.out, ← hBV.out]; simp
              · exact HP.out j (by omega)
            refine wp_region_quiet_below (by kernel_rfl) (by kernel_rfl) ?_
            repeat (go_big_quiet_step ((first | exact cl.out _ _ | exact cm.out _ _)))
            refine wpQuiet_nil ?_
            rintro _ ⟨⟨dq, osq⟩, rfl⟩
            have hb_ := below_regrown wr dq osq
            replace HB := Lib.hid (HB.out.keep hb_)
            generalize grow (redrawn wr dq) osq = w2 at *
            clear hb_
            go_wp2
            go_roundw
            case rel => exact ⟨k + 1, by omega, by go_num, hP2, HB⟩
            case measure => simp [intOf]; omega
          | false =>
            have hA2 : Hid (R = false) := by show _ = _; rw [hR2.out]; exact all_range_false hlt (by rw [hA.out, ← hBV.out]; simp [h0])
            refine wp_region_quiet_below (by kernel_rfl) (by kernel_rfl) ?_
            repeat (go_big_quiet_step ((first | exact cl.out _ _ | exact cm.out _ _)))
            refine wpQuiet_nil ?_
            rintro _ ⟨⟨dq, osq⟩, rfl⟩
            have hb_ := below_regrown wr dq osq
            replace HB := Lib.hid (HB.out.keep hb_)
            generalize grow (redrawn wr dq) osq = w2 at *
            clear hb_
            have hB2 := Lib.hid (bthen hbw.out HB.out)
            go_wp2
            go_ret
            exact ⟨by rw [hA2.out]; rfl, hB2.out⟩
    · obtain rfl : k = n := by omega
      have hR3 : Hid (R = true) := by show _ = _; rw [hR2.out]; exact all_range_true HP.out
      go_wp2
      go_ret
      exact ⟨by rw [hR3.out]; rfl, hB0.out⟩
end Sw
end Go.Proofs.Ytdlgdmbcbenlbaa
namespace Go.Proofs.Ytdlgdmbcbenlbaa
open Go Go.RowKit Go.Sort
namespace Sw
open Mm
set_option maxRecDepth 100000 in
set_option maxHeartbeats 4000000 in
theorem rcheck_any (L O : Int) (A : Option Addr) (n cp : Nat) (cs : List Cel) (B : Option Addr) (m cq : Nat) (l : List Chg) (w : World) (h1 : CelS w A n cs) (h2 : ChgS w B m l) :
    Calls Try.prog 14 #[.agg #[.int .i64 L, .int .i64 O, .slice A n cp], .slice B m cq] w (CkPost (chkN L O cs l) w) := by
  have hl1 := h1.len
  have hl2 := h2.len
  have hs2 := h2.small
  unfold maxLen at hs2
  have hbw := ball w (.cells #[.int .i64 L, .int .i64 O, .slice A n cp] 24)
  have BX := Box.new w #[.int .i64 L, .int .i64 O, .slice A n cp] 24
  have cF := fun W (h : CelS W A n cs) => rinOrder_any L O A n cp cs W h
  have hR : chkN L O cs l = if formedB L O cs = false then (-1, 1) else if 1024 < m then (-1, 8) else firstF (faultAt L O cs l) m := by unfold chkN; rw [hl2]
  have cR := fun c W => rcell_any L O A n cp c W
  have cH := fun c W (h : CelS W A n cs) => has_any A n cp cs c W h
  have hFA : ∀ i, faultAt L O cs l i = if (l.getD i default).slot < 0 ∨ 4096 < (l.getD i default).slot then 2
    else if 0 < i ∧ (l.getD i default).slot < (l.getD (i - 1) default).slot then 5
    else if cellOk L O (l.getD i default).cell = false then 1
    else if (l.getD i default).add = true ∧ thereN cs (l.take i) (l.getD i default).cell = true then 6
    else if (l.getD i default).add = false ∧ thereN cs (l.take i) (l.getD i default).cell = false then 7
    else 0 := fun _ => rfl
  have ke := eql_cel
  have hTs := fun c k (hk : k < m) => show thereN cs (l.take (k + 1)) c = if eqC (l.getD k default).cell c = true then (l.getD k default).add else thereN cs (l.take k) c by
    rw [take_snoc (by omega), thereN_snoc]
    unfold setF eqC
    by_cases e : c = (l.getD k default).cell
    · rw [if_pos e, if_pos (decide_eq_true e.symm)]
    · rw [if_neg e, if_neg (fun h => e (of_decide_eq_true h).symm)]
  have hT0 : ∀ c, thereN cs (l.take 0) c = decide (c ∈ cs) := fun _ => rfl
  generalize chkN L O cs l = R at *
  generalize formedB L O cs = FB at *
  generalize faultAt L O cs l = FA at *
  generalize cellOk L O = CO at *
  generalize eqC = E at *
  generalize hTT : (fun k => thereN cs (l.take k)) = TN at *
  have hFA' : ∀ i, FA i = if (l.getD i default).slot < 0 ∨ 4096 < (l.getD i default).slot then 2
    else if 0 < i ∧ (l.getD i default).slot < (l.getD (i - 1) default).slot then 5
    else if CO (l.getD i default).cell = false then 1
    else if (l.getD i default).add = true ∧ TN i (l.getD i default).cell = true then 6
    else if (l.getD i default).add = false ∧ TN i (l.getD i default).cell = false then 7
    else 0 := fun i => by rw [hFA i, ← hTT]
  have hTs' : ∀ c k, k < m → TN (k + 1) c = if E (l.getD k default).cell c = true then (l.getD k default).add else TN k c := fun c k hk => by rw [← hTT]; exact hTs c k hk
  have hT0' : ∀ c, decide (c ∈ cs) = TN 0 c := fun c => by rw [← hTT]; exact (hT0 c).symm
  clear hFA hTs hT0 hTT
  replace h1 := Lib.hid h1
  replace h2 := Lib.hid h2
  replace hl1 := Lib.hid hl1
  replace hl2 := Lib.hid hl2
  replace hbw := Lib.hid hbw
  replace BX := Lib.hid BX
  replace cF := Lib.hid cF
  replace hR := Lib.hid hR
  replace cR := Lib.hid cR
  replace cH := Lib.hid cH
  replace hFA' := Lib.hid hFA'
  replace ke := Lib.hid ke
  replace hTs' := Lib.hid hTs'
  replace hT0' := Lib.hid hT0'
  have kx := BX.out.at_
  go_enter Try.func14, Try.ntmps14
  go_wp2_with fail
  refine (cF.out _ (h1.out.keep hbw.out)).mono ?_
  rintro e w1 ⟨rfl, hb_⟩
  clear kx cF
  replace BX := Lib.hid (BX.out.keep hb_)
  replace hbw := Lib.hid (hbw.out.keep hb_)
  clear hb_
  cases FB with
  | false =>
    have hR2 : Hid (R = (-1, 1)) := by show _ = _; rw [hR.out, if_pos rfl]
    clear hR
    go_wp2
    refine bodyPost_ret (v := .tuple #[.int .i64 (-1), .int .i64 1]) (by simp [results, Try.results14, go_sem]) rfl ⟨by rw [hR2.out], hbw.out⟩
  | true =>
  by_cases hm : 1024 < m
  · have hR2 : Hid (R = (-1, 8)) := by show _ = _; rw [hR.out, if_neg (by decide), if_pos hm]
    clear hR
    go_wp2
    refine bodyPost_ret (v := .tuple #[.int .i64 (-1), .int .i64 8]) (by simp [results, Try.results14, go_sem]) rfl ⟨by rw [hR2.out], hbw.out⟩
  have hR2 : Hid (R = firstF FA m) := by show _ = _; rw [hR.out, if_neg (by decide), if_neg hm]
  clear hR
  go_wp2_with fail
  go_loopw [6, 7, 8] (fun i _ _ wr => ∃ j : Nat, j ≤ m ∧ i = .int .i64 j ∧ Hid (∀ q, q < j → FA q = 0) ∧ Hid (Below w1.heap.size w1 wr)) (fun i _ _ _ => m - (intOf i).toNat)
  case atStart => exact ⟨0, by omega, rfl, fun q hq => absurd hq (by omega), Below.refl _ _⟩
  case round =>
    obtain ⟨j, hj, rfl, HP, HB⟩ := hrel
    have hB := Lib.hid (bthen hbw.out HB.out)
    by_cases hlt : j < m
    · obtain ⟨b, off, rfl⟩ := h2.out.addr (by omega)
      have hx := chg_at (h2.out.keep hB.out) hlt
      have hF := hFA'.out j
      have hch := fun W (h : CelS W A n cs) => cH.out (l.getD j default).cell W h
      rw [hT0'.out] at hch
      have cr := cR.out (l.getD j default).cell
      have hts := fun k hk => hTs'.out (l.getD j default).cell k hk
      have kex := fun y W => ke.out y (l.getD j default).cell W
      have hyy := fun W (hb : Below w.heap.size w W) (h0 : 0 < j) => chg_at (h2.out.keep hb) (i := j - 1) (by omega)
      have hxx := fun W (hb : Below w.heap.size w W) => chg_at (h2.out.keep hb) hlt
      generalize hTj : (fun k => TN k (l.getD j default).cell) = TJ at *
      have hF' : FA j = if (l.getD j default).slot < 0 ∨ 4096 < (l.getD j default).slot then 2
        else if 0 < j ∧ (l.getD j default).slot < (l.getD (j - 1) default).slot then 5
        else if CO (l.getD j default).cell = false then 1
        else if (l.getD j default).add = true ∧ TJ j = true then 6
        else if (l.getD j default).add = false ∧ TJ j = false then 7
        else 0 := by rw [hF, ← hTj]
      have hts' : ∀ k, k < m → TJ (k + 1) = if E (l.getD k default).cell (l.getD j default).cell = true then (l.getD k default).add else TJ k := fun k hk => by rw [← hTj]; exact hts k hk
      have hch' : ∀ W (_ : CelS W A n cs), Calls Try.prog 37 #[.slice A n cp, .agg #[.int .i64 (l.getD j default).cell.slot, .int .i64 (l.getD j default).cell.offset, .int .i64 (l.getD j default).cell.frm, .int .i64 (l.getD j default).cell.to, .int .i64 (l.getD j default).cell.flow]] W fun e w' => e = .returned (.bool (TJ 0)) ∧ Below W.heap.size W w' := fun W h => by rw [← hTj]; exact hch W h
      clear hF hts hch hTj
      generalize CO (l.getD j default).cell = CK at *
      generalize l.getD (j - 1) default = y at *
      generalize l.getD j default = x at *
      obtain ⟨xs, xa, x0, x1, x2, x3, x4⟩ := x
      obtain ⟨ys, ya, y0, y1, y2, y3, y4⟩ := y
      obtain ⟨q0, q1, q2, q3, q4, q5, q6⟩ := hx
      dsimp only at q0 q1 q2 q3 q4 q5 q6 cr hF' hts' hch' kex hyy hxx
      have gx := (BX.out.keep HB.out).grown
      have g2 := cell_regrown q2
      have g3 := cell_regrown q3
      have g4 := cell_regrown q4
      have g5 := cell_regrown q5
      have g6 := cell_regrown q6
      have r1 : (j : Int) < (m : Int) := by omega
      have hc0 := fun d os => hch' _ ((h1.out.keep hB.out).keep (below_regrown wr d os))
      clear q0 q1 q2 q3 q4 q5 q6
      have ch : ∀ d os, Calls Try.prog 37 #[.slice A n cp, .agg #[.int .i64 x0, .int .i64 x1, .int .i64 x2, .int .i64 x3, .int .i64 x4]] (grow (redrawn wr d) os) fun e w'' => e = .returned (.bool (TJ 0)) ∧ ∃ p : Regrown, w'' = grow (redrawn wr p.d) p.os := fun d os => Calls.regrown_of (hc0 d os)
      replace hc0 := Lib.hid hc0
      replace hF' := Lib.hid hF'
      replace hts' := Lib.hid hts'
      replace kex := Lib.hid kex
      replace hyy := Lib.hid hyy
      replace hxx := Lib.hid hxx
      replace cr := Lib.hid cr
      replace hch' := Lib.hid hch'
      replace ch := Lib.hid ch
      clear hB
      go_wp2_with fail
      refine wp_region_quiet_below (by kernel_rfl) (by kernel_rfl) ?_
      repeat (go_big_quiet_step (exact ch.out _ _))
      refine wpQuiet_nil ?_
      rintro _ ⟨⟨dq, osq⟩, rfl⟩
      have hb_ := below_regrown wr dq osq
      replace HB := Lib.hid (HB.out.keep hb_)
      generalize grow (redrawn wr dq) osq = w2 at *
      clear hb_
      clear gx g2 g3 g4 g5 g6 r1 ch hc0
      have r0 : j ≤ m := by omega
      go_wp2_with fail
      go_loopw [7, 8] (fun t k wr => ∃ q : Nat, q ≤ j ∧ k = .int .i64 q ∧ t = .bool (TJ q) ∧ Hid (Below w1.heap.size w1 wr)) (fun _ k _ => j - (intOf k).toNat)
      case atStart => exact ⟨0, by omega, rfl, rfl, HB⟩
      case round =>
        clear HB
        obtain ⟨q, hq, rfl, rfl, HB⟩ := hrel
        have hB2 := Lib.hid (bthen hbw.out HB.out)
        by_cases hqj : q < j
        · have hqm : q < m := by omega
          have hzz := fun W (hb : Below w.heap.size w W) => chg_at (h2.out.keep hb) hqm
          have hz := hzz wr hB2.out
          have hts := hts'.out q hqm
          have kez := fun W => kex.out (l.getD q default).cell W
          generalize E (l.getD q default).cell ⟨x0, x1, x2, x3, x4⟩ = Q at *
          generalize l.getD q default = z at *
          obtain ⟨zs, za, z0, z1, z2, z3, z4⟩ := z
          dsimp only at hz hts kez hzz
          obtain ⟨p0, p1, p2, p3, p4, p5, p6⟩ := hz
          obtain ⟨e0, e1, e2, e3, e4, e5, e6⟩ := hxx.out wr hB2.out
          have g2 := cell_regrown p2
          have g3 := cell_regrown p3
          have g4 := cell_regrown p4
          have g5 := cell_regrown p5
          have g6 := cell_regrown p6
          have f2 := cell_regrown e2
          have f3 := cell_regrown e3
          have f4 := cell_regrown e4
          have f5 := cell_regrown e5
          have f6 := cell_regrown e6
          have s1 : (q : Int) < (m : Int) := by omega
          have s2 : (j : Int) < (m : Int) := by omega
          have s3 : (q : Int) < (j : Int) := by omega
          clear p0 p1 p2 p3 p4 p5 p6 e0 e1 e2 e3 e4 e5 e6 hB2
          replace hzz := Lib.hid hzz
          replace hts := Lib.hid hts
          go_wp2_with fail
          refine wp_region_quiet_below (by kernel_rfl) (by kernel_rfl) ?_
          repeat (go_big_quiet_step (fail))
          refine wpQuiet_nil ?_
          rintro _ ⟨⟨dq, osq⟩, rfl⟩
          have hb_ := below_regrown wr dq osq
          replace HB := Lib.hid (HB.out.keep hb_)
          generalize grow (redrawn wr dq) osq = w3 at *
          clear hb_
          clear g2 g3 g4 g5 g6 f2 f3 f4 f5 f6
          cases Q with
          | true =>
            have hN : Hid (TJ (q + 1) = za) := by show _ = _; rw [hts.out, if_pos rfl]
            obtain ⟨_, p1, _⟩ := hzz.out w3 (bthen hbw.out HB.out)
            dsimp only at p1
            go_wp2
            go_roundw
            case rel => exact ⟨q + 1, by omega, by go_num, by rw [hN.out], HB⟩
            case measure => simp [intOf]; omega
          | false =>
            have hN : Hid (TJ (q + 1) = TJ q) := by show _ = _; rw [hts.out, if_neg (by decide)]
            go_wp2
            go_roundw
            case rel => exact ⟨q + 1, by omega, by go_num, by rw [hN.out], HB⟩
            case measure => simp [intOf]; omega
        · obtain rfl : q = j := by omega
          clear hqj hts' kex hch'
          have hF := hF'.out
          clear hF'
          generalize TJ q = T at *
          obtain ⟨e0, e1, e2, e3, e4, e5, e6⟩ := hxx.out wr hB2.out
          dsimp only at e0 e1 e2 e3 e4 e5 e6
          have s2 : (q : Int) < (m : Int) := by omega
          by_cases hr : xs < 0 ∨ 4096 < xs
          · have hF2 : FA q = 2 := by rw [hF, if_pos hr]
            have hR3 : Hid (R = ((q : Int), 2)) := by show _ = _; rw [hR2.out, firstF_hit hlt (by rw [hF2]; decide) HP.out, hF2]
            replace hF2 := Lib.hid hF2
            replace hF := Lib.hid hF
            rcases hr with hr | hr
            · go_wp2
              refine bodyPost_ret (v := .tuple #[.int .i64 (q : Int), .int .i64 2]) (by simp [results, Try.results14, go_sem]) rfl ⟨by rw [hR3.out], hB2.out⟩
            · have hr0 : 0 ≤ xs := by omega
              go_wp2
              refine bodyPost_ret (v := .tuple #[.int .i64 (q : Int), .int .i64 2]) (by simp [results, Try.results14, go_sem]) rfl ⟨by rw [hR3.out], hB2.out⟩
          have hF3 : Hid (FA q = (if 0 < q ∧ xs < ys then 5 else if CK = false then 1 else if xa = true ∧ T = true then 6 else if xa = false ∧ T = false then 7 else 0)) := by show _ = _; rw [hF, if_neg hr]
          have hr1 : 0 ≤ xs := by omega
          have hr2 : xs ≤ 4096 := by omega
          clear hr hF
          obtain ⟨B16, hB16⟩ : ∃ b : Bool, b = (decide (0 < q) && decide (xs < ys)) := ⟨_, rfl⟩
          go_upto_region 16 with fail
          go_cut [66] (fun s66 wx => s66 = .bool B16 ∧ Hid (Below w1.heap.size w1 wx))
          case first =>
            have f0 := cell_regrown e0
            by_cases h0 : 0 < q
            · obtain ⟨p0, _⟩ := hyy.out wr hB2.out h0
              dsimp only at p0
              have hw1 : IntKind.i64.wrap ((q : Int) - 1) = (q : Int) - 1 := IntWalk.i64_in _ (by omega)
              have ht1 : ((q : Int) - 1).toNat = q - 1 := by omega
              have t1 : (0 : Int) ≤ (q : Int) - 1 := by omega
              have t2 : (q : Int) - 1 < (m : Int) := by omega
              have f1 := cell_regrown p0
              have h0' : 0 < (q : Int) := by omega
              clear p0 e0 e1 e2 e3 e4 e5 e6
              by_cases hlt2 : xs < ys
              · have hb : Hid (B16 = true) := by show _ = _; rw [hB16]; simp [h0, hlt2]
                replace hB16 := Lib.hid hB16
                refine wp_region_quiet_below (by kernel_rfl) (by kernel_rfl) ?_
                repeat (go_big_quiet_step (fail))
                refine wpQuiet_nil ?_
                rintro _ ⟨⟨dq, osq⟩, rfl⟩
                have hb_ := below_regrown wr dq osq
                replace HB := Lib.hid (HB.out.keep hb_)
                generalize grow (redrawn wr dq) osq = w4 at *
                clear hb_
                go_wp2_with fail
                go_meet
                exact ⟨by rw [hb.out], HB⟩
              · have hb : Hid (B16 = false) := by show _ = _; rw [hB16]; simp [hlt2]
                have hnl2 : decide (xs < ys) = false := by simpa using hlt2
                replace hB16 := Lib.hid hB16
                clear hlt2
                refine wp_region_quiet_below (by kernel_rfl) (by kernel_rfl) ?_
                repeat (go_big_quiet_step (fail))
                refine wpQuiet_nil ?_
                rintro _ ⟨⟨dq, osq⟩, rfl⟩
                have hb_ := below_regrown wr dq osq
                replace HB := Lib.hid (HB.out.keep hb_)
                generalize grow (redrawn wr dq) osq = w4 at *
                clear hb_
                go_wp2_with fail
                go_meet
                exact ⟨by rw [hb.out], HB⟩
            · have hb : Hid (B16 = false) := by show _ = _; rw [hB16]; simp [h0]
              have hj1 : decide (0 < q) = false := by simpa using h0
              replace hB16 := Lib.hid hB16
              clear e0 e1 e2 e3 e4 e5 e6
              refine wp_region_quiet_below (by kernel_rfl) (by kernel_rfl) ?_
              repeat (go_big_quiet_step (fail))
              refine wpQuiet_nil ?_
              rintro _ ⟨⟨dq, osq⟩, rfl⟩
              have hb_ := below_regrown wr dq osq
              replace HB := Lib.hid (HB.out.keep hb_)
              generalize grow (redrawn wr dq) osq = w4 at *
              clear hb_
              go_wp2_with fail
              go_meet
              exact ⟨by rw [hb.out], HB⟩
          case rest =>
            obtain ⟨rfl, HBc⟩ := hcut
            clear e0 e1 e2 e3 e4 e5 e6 hB2 HB
            have hB2 := Lib.hid (bthen hbw.out HBc.out)
            cases B16 with
            | true =>
              have hF2 : FA q = 5 := by
                rw [eq_comm, Bool.and_eq_true, decide_eq_true_eq, decide_eq_true_eq] at hB16
                rw [hF3.out, if_pos hB16]
              have hR3 : Hid (R = ((q : Int), 5)) := by show _ = _; rw [hR2.out, firstF_hit hlt (by rw [hF2]; decide) HP.out, hF2]
              replace hF2 := Lib.hid hF2
              replace hB16 := Lib.hid hB16
              go_wp2
              refine bodyPost_ret (v := .tuple #[.int .i64 (q : Int), .int .i64 5]) (by simp [results, Try.results14, go_sem]) rfl ⟨by rw [hR3.out], hB2.out⟩
            | false =>
              have hF4 : Hid (FA q = (if CK = false then 1 else if xa = true ∧ T = true then 6 else if xa = false ∧ T = false then 7 else 0)) := by
                show _ = _
                rw [eq_comm, Bool.and_eq_false_iff, decide_eq_false_iff_not, decide_eq_false_iff_not] at hB16
                rw [hF3.out, if_neg (fun h => by rcases hB16 with h3 | h3 <;> omega)]
              replace hB16 := Lib.hid hB16
              clear hF3
              obtain ⟨e0, e1, e2, e3, e4, e5, e6⟩ := hxx.out wc hB2.out
              dsimp only at e0 e1 e2 e3 e4 e5 e6
              have gx := (BX.out.keep HBc.out).grown
              have f2 := cell_regrown e2
              have f3 := cell_regrown e3
              have f4 := cell_regrown e4
              have f5 := cell_regrown e5
              have f6 := cell_regrown e6
              have cl : ∀ d os, Calls Try.prog 38 #[.agg #[.int .i64 L, .int .i64 O, .slice A n cp], .agg #[.int .i64 x0, .int .i64 x1, .int .i64 x2, .int .i64 x3, .int .i64 x4]] (grow (redrawn wc d) os) fun e w'' => e = .returned (.bool CK) ∧ ∃ p : Regrown, w'' = grow (redrawn wc p.d) p.os :=
                fun d os => Calls.regrown_of (cr.out _)
              replace cl := Lib.hid cl
              clear e0 e1 e2 e3 e4 e5 e6 hB2
              go_wp2_with fail
              refine wp_region_quiet_below (by kernel_rfl) (by kernel_rfl) ?_
              repeat (go_big_quiet_step (exact cl.out _ _))
              refine wpQuiet_nil ?_
              rintro _ ⟨⟨dq, osq⟩, rfl⟩
              have hb_ := below_regrown wc dq osq
              replace HBc := Lib.hid (HBc.out.keep hb_)
              generalize grow (redrawn wc dq) osq = w5 at *
              clear hb_
              clear gx f2 f3 f4 f5 f6 cl
              have hB2 := Lib.hid (bthen hbw.out HBc.out)
              obtain ⟨e0, e1, _⟩ := hxx.out w5 hB2.out
              dsimp only at e1
              clear e0
              cases CK with
              | false =>
                have hF2 : FA q = 1 := by rw [hF4.out, if_pos rfl]
                have hR3 : Hid (R = ((q : Int), 1)) := by show _ = _; rw [hR2.out, firstF_hit hlt (by rw [hF2]; decide) HP.out, hF2]
                replace hF2 := Lib.hid hF2
                go_wp2
                refine bodyPost_ret (v := .tuple #[.int .i64 (q : Int), .int .i64 1]) (by simp [results, Try.results14, go_sem]) rfl ⟨by rw [hR3.out], hB2.out⟩
              | true =>
                cases xa <;> cases T
                · have hF2 : FA q = 7 := by rw [hF4.out]; decide
                  have hR3 : Hid (R = ((q : Int), 7)) := by show _ = _; rw [hR2.out, firstF_hit hlt (by rw [hF2]; decide) HP.out, hF2]
                  replace hF2 := Lib.hid hF2
                  go_wp2
                  refine bodyPost_ret (v := .tuple #[.int .i64 (q : Int), .int .i64 7]) (by simp [results, Try.results14, go_sem]) rfl ⟨by rw [hR3.out], hB2.out⟩
                · have hF2 : FA q = 0 := by rw [hF4.out]; decide
                  have hP2 := Lib.hid (next_zero hF2 HP.out)
                  replace hF2 := Lib.hid hF2
                  go_wp2
                  go_roundw
                  case rel => exact ⟨q + 1, by omega, by go_num, hP2, HBc⟩
                  case measure => simp [intOf]; omega
                · have hF2 : FA q = 0 := by rw [hF4.out]; decide
                  have hP2 := Lib.hid (next_zero hF2 HP.out)
                  replace hF2 := Lib.hid hF2
                  go_wp2
                  go_roundw
                  case rel => exact ⟨q + 1, by omega, by go_num, hP2, HBc⟩
                  case measure => simp [intOf]; omega
                · have hF2 : FA q = 6 := by rw [hF4.out]; decide
                  have hR3 : Hid (R = ((q : Int), 6)) := by show _ = _; rw [hR2.out, firstF_hit hlt (by rw [hF2]; decide) HP.out, hF2]
                  replace hF2 := Lib.hid hF2
                  go_wp2
                  refine bodyPost_ret (v := .tuple #[.int .i64 (q : Int), .int .i64 6]) (by simp [results, Try.results14, go_sem]) rfl ⟨by rw [hR3.out], hB2.out⟩
    · obtain rfl : j = m := by omega
      have hR3 : Hid (R = (-1, 0)) := by show _ = _; rw [hR2.out, firstF_none HP.out]
      go_wp2
      refine bodyPost_ret (v := .tuple #[.int .i64 (-1), .int .i64 0]) (by simp [results, Try.results14, go_sem]) rfl ⟨by rw [hR3.out], hB.out⟩
end Sw
end Go.Proofs.Ytdlgdmbcbenlbaa
