/- The library's sorts laid at this program (printed by the kit's laying tools); the stable sort of at most 20 elements. -/
import Derived.Test.YtnkgmpmedkegbaaSw12
import Derived.Test.YtnkgmpmedkegbaaSt1
import Derived.Test.YtnkgmpmedkegbaaSortK
import Derived.Shelf.SlSortCmp.NoneTotal
import Derived.Sort.LotA
import Derived.Ground.SlsfProg
namespace Go.Proofs
open Go.Shelf
def Try.sortc_ren : Go.Shelf.Ren := ⟨fun | 6 => 41 | 15 => 71 | 14 => 70 | 28 => 85 | 29 => 86 | 20 => 77 | 21 => 78 | 22 => 79 | 23 => 80 | 24 => 81 | 25 => 82 | 26 => 83 | 27 => 84 | 46 => 89 | 47 => 90 | 48 => 91 | 49 => 92 | 50 => 93 | 57 => 95 | n => n, fun | 22 => 22 | 24 => 34 | 25 => 71 | 3 => 3 | 39 => 94 | 0 => 0 | 53 => 109 | 55 => 111 | 4 => 4 | 46 => 102 | 45 => 101 | 50 => 106 | 5 => 5 | 9 => 9 | 66 => 114 | 70 => 118 | 76 => 120 | 77 => 121 | n => n, fun | n => n⟩
theorem Try.sortc : Go.Proofs.SlLaysF0.n6 Try.prog Try.sortc_ren := {
  mixed := by kernel_rfl
  f6 := ⟨Try.f41.name, by decide, Try.func41.trans (congrArg some (by kernel_rfl))⟩
  f14 := ⟨Try.f70.name, by decide, Try.func70.trans (congrArg some (by kernel_rfl))⟩
  f15 := Try.func71.trans (congrArg some (by kernel_rfl))
  f20 := ⟨Try.f77.name, by decide, Try.func77.trans (congrArg some (by kernel_rfl))⟩
  f21 := ⟨Try.f78.name, by decide, Try.func78.trans (congrArg some (by kernel_rfl))⟩
  f22 := ⟨Try.f79.name, by decide, Try.func79.trans (congrArg some (by kernel_rfl))⟩
  f23 := ⟨Try.f80.name, by decide, Try.func80.trans (congrArg some (by kernel_rfl))⟩
  f24 := ⟨Try.f81.name, by decide, Try.func81.trans (congrArg some (by kernel_rfl))⟩
  f25 := ⟨Try.f82.name, by decide, Try.func82.trans (congrArg some (by kernel_rfl))⟩
  f26 := ⟨Try.f83.name, by decide, Try.func83.trans (congrArg some (by kernel_rfl))⟩
  f27 := ⟨Try.f84.name, by decide, Try.func84.trans (congrArg some (by kernel_rfl))⟩
  f28 := Try.func85.trans (congrArg some (by kernel_rfl))
  f29 := Try.func86.trans (congrArg some (by kernel_rfl))
  f46 := ⟨Try.f89.name, by decide, Try.func89.trans (congrArg some (by kernel_rfl))⟩
  f47 := Try.func90.trans (congrArg some (by kernel_rfl))
  f48 := Try.func91.trans (congrArg some (by kernel_rfl))
  f49 := ⟨Try.f92.name, by decide, Try.func92.trans (congrArg some (by kernel_rfl))⟩
  f50 := ⟨Try.f93.name, by decide, Try.func93.trans (congrArg some (by kernel_rfl))⟩
  f57 := ⟨Try.f95.name, by decide, Try.func95.trans (congrArg some (by kernel_rfl))⟩
  t0 := Try.underlying0
  a0 := Try.isAgg0
  z0 := Try.sizeOf0
  v0 := Try.zeroValue0
  t3 := Try.underlying3
  a3 := Try.isAgg3
  z3 := Try.sizeOf3
  v3 := Try.zeroValue3
  t4 := Try.underlying4
  a4 := Try.isAgg4
  z4 := Try.sizeOf4
  v4 := Try.zeroValue4
  t5 := Try.underlying5
  a5 := Try.isAgg5
  z5 := Try.sizeOf5
  v5 := Try.zeroValue5
  t9 := Try.underlying9
  a9 := Try.isAgg9
  z9 := Try.sizeOf9
  v9 := Try.zeroValue9
  t22 := Try.underlying22
  a22 := Try.isAgg22
  z22 := Try.sizeOf22
  v22 := Try.zeroValue22
  t25 := Try.underlying71
  a25 := Try.isAgg71
  z25 := Try.sizeOf71
  v25 := Try.zeroValue71
  t39 := Try.underlying94
  a39 := Try.isAgg94
  z39 := Try.sizeOf94
  v39 := Try.zeroValue94
  t45 := Try.underlying101
  a45 := Try.isAgg101
  z45 := Try.sizeOf101
  v45 := Try.zeroValue101
  t46 := Try.underlying102
  a46 := Try.isAgg102
  z46 := Try.sizeOf102
  v46 := Try.zeroValue102
  t50 := Try.underlying106
  a50 := Try.isAgg106
  z50 := Try.sizeOf106
  v50 := Try.zeroValue106
  t53 := Try.underlying109
  a53 := Try.isAgg109
  z53 := Try.sizeOf109
  v53 := Try.zeroValue109
  t55 := Try.underlying111
  a55 := Try.isAgg111
  z55 := Try.sizeOf111
  v55 := Try.zeroValue111
  t66 := Try.underlying114
  a66 := Try.isAgg114
  z66 := Try.sizeOf114
  v66 := Try.zeroValue114
  t70 := Try.underlying118
  a70 := Try.isAgg118
  z70 := Try.sizeOf118
  v70 := Try.zeroValue118
  t76 := Try.underlying120
  a76 := Try.isAgg120
  z76 := Try.sizeOf120
  v76 := Try.zeroValue120
  t77 := Try.underlying121
  a77 := Try.isAgg121
  z77 := Try.sizeOf121
  v77 := Try.zeroValue121 }
def Try.insd_ren : Go.Shelf.Ren := ⟨fun | 20 => 87 | n => n, fun | 24 => 45 | 22 => 38 | 3 => 3 | 25 => 78 | 4 => 4 | 0 => 0 | n => n, fun | n => n⟩
theorem Try.insd : Go.Proofs.SlLaysF0.n20 Try.prog Try.insd_ren := {
  mixed := by kernel_rfl
  f20 := ⟨Try.f87.name, by decide, Try.func87.trans (congrArg some (by kernel_rfl))⟩
  t0 := Try.underlying0
  a0 := Try.isAgg0
  z0 := Try.sizeOf0
  v0 := Try.zeroValue0
  t3 := Try.underlying3
  a3 := Try.isAgg3
  z3 := Try.sizeOf3
  v3 := Try.zeroValue3
  t4 := Try.underlying4
  a4 := Try.isAgg4
  z4 := Try.sizeOf4
  v4 := Try.zeroValue4
  t22 := Try.underlying38
  a22 := Try.isAgg38
  z22 := Try.sizeOf38
  v22 := Try.zeroValue38
  t25 := Try.underlying78
  a25 := Try.isAgg78
  z25 := Try.sizeOf78
  v25 := Try.zeroValue78 }
end Go.Proofs

namespace Go.Proofs.Ytnkgmpmedkegbaa
open Go Go.RowKit Go.Sort Go.Shelf Go.Lib
namespace Sw
open Mm
def insD (cf : Dut → Dut → Int) (d : List Dut) : List Dut := (Sort.insertionSort (ltOf cf) d.toArray 0 d.length).toList
theorem ins_none (L : SlLaysF0.n20 Try.prog Try.insd_ren) (p : Option Addr) (cap : Nat) (fv : Value) (w : World) :
    Calls Try.prog 87 #[.slice p 0 cap, .int .i64 0, .int .i64 0, fv] w fun e w' => e = .returned (.tuple #[]) ∧ w' = w := by
  have h := AnyF.insertionSortCmpFunc_none (P := Try.prog) (ρ := Try.insd_ren) L p cap fv w
  exact h
/-- what a comparison of duties must do -/
def CmpD (g : Nat) (cb : Array Value) (cf : Dut → Dut → Int) : Prop := ∀ (x y : Dut) (w : World),
  Calls Try.prog g (#[.agg (dutE x).toArray, .agg (dutE y).toArray] ++ cb) w fun e w' => e = .returned (.int .i64 (cf x y)) ∧ GW w w'
theorem cmpLays_of {g : Nat} {cb : Array Value} {cf : Dut → Dut → Int} (h : CmpD g cb cf) (blk size : Nat) (w : World) : CmpLays Try.prog g cb dutE 9 cf blk 0 size w := by
  intro m os dk _ x y
  exact h x y _
set_option maxRecDepth 100000 in
set_option maxHeartbeats 4000000 in
theorem stable_small (g : Nat) (cb : Array Value) (cf : Dut → Dut → Int) (blk cap : Nat) (d : List Dut) (w : World) (eg : ∀ args w, (callFunc g args).run Try.prog w = .ok (.enter g args) w) (hC : CmpLays Try.prog g cb dutE 9 cf blk 0 d.toArray.size w) (hH : HoldsK dutE 9 w blk 0 d.toArray) (hblk : blk < w.heap.size) (hn : d.length < 20) :
    Calls Try.prog 45 #[.slice (some ⟨blk, 0, none⟩) d.length cap, .func (.func g) #[] cb] w fun e w' =>
      e = .returned (.tuple #[]) ∧ ∃ q os, w' = sortWorldK dutE 9 w blk 0 q (insD cf d).toArray os := by
  have hS := AnyQ.insertionSortCmpFunc (P := Try.prog) (ρ := Try.insd_ren) Try.insd 9 Try.isAgg45 Try.sizeOf45 dutE dutE_len dutE_one cf g cb blk 0 cap 0 d.length d.toArray w eg hC hH hblk (Nat.zero_le _) (by simp) (by simp; omega)
  change Calls Try.prog 87 _ _ _ at hS
  rw [List.size_toArray] at hS
  have hcS : Calls Try.prog 72 #[.slice (some ⟨blk, 0, none⟩) d.length cap, .int .i64 (d.length : Int), .func (.func g) #[] cb] w fun e w' =>
      e = .returned (.tuple #[]) ∧ ∃ q os, w' = sortWorldK dutE 9 w blk 0 q (insD cf d).toArray os := by
    generalize hins : sortWorldK dutE 9 w blk 0 = SW at *
    have e1 : (insD cf d).toArray = Sort.insertionSort (ltOf cf) d.toArray 0 d.length := by unfold insD; simp
    rw [← e1] at hS
    generalize (insD cf d).toArray = D at *
    generalize d.length = n at *
    clear hH hC e1 hins
    replace hS := Lib.hid hS
    go_enter Try.func72, Try.ntmps72
    go_wp2
    refine wp_loop_rounds 1 ?_
    rw [rounds_succ]
    go_wp2_with (first | (go_at_call 87; refine (hS.out).mono ?_; rintro e w' ⟨rfl, q, os, rfl⟩))
    refine wp_loop_rounds 1 ?_
    rw [rounds_succ]
    go_wp2
    go_end0
    exact ⟨rfl, q, os, rfl⟩
  generalize hins : sortWorldK dutE 9 w blk 0 = SW at *
  generalize (insD cf d).toArray = D at *
  clear hH hC hS hins
  replace hcS := Lib.hid hcS
  go_enter Try.func45, Try.ntmps45
  go_wp2_with (first | (go_at_call 72; refine (hcS.out).mono ?_; rintro e w' ⟨rfl, q, os, rfl⟩))
  go_end0
  exact ⟨rfl, q, os, rfl⟩
end Sw
end Go.Proofs.Ytnkgmpmedkegbaa
