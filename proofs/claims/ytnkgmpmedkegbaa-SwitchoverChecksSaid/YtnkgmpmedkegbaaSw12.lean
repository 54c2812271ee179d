/- The comparison of Duties. -/
import Derived.Test.YtnkgmpmedkegbaaSw11
import Derived.Deep.RegionHeld3
namespace Go.Proofs.Ytnkgmpmedkegbaa
open Go Go.RowKit Go.Sort
namespace Sw
open Mm
def cmpD (d e : Dut) : Int := fst0 [cmpC d.cell e.cell, cmpI d.first e.first, cmpI (lastN d.til) (lastN e.til), laterN d - laterN e]
theorem laterN_bd (d : Dut) : 0 ≤ laterN d ∧ laterN d ≤ 1 := by unfold laterN; split <;> omega
set_option maxRecDepth 100000 in
set_option maxHeartbeats 8000000 in
theorem dutCmp_any (d e : Dut) (w : World) :
    Calls Try.prog 46 #[.agg #[.int .i64 d.cell.slot, .int .i64 d.cell.offset, .int .i64 d.cell.frm, .int .i64 d.cell.to, .int .i64 d.cell.flow, .bool d.sends, .bool d.extra, .int .i64 d.first, .int .i64 d.til], .agg #[.int .i64 e.cell.slot, .int .i64 e.cell.offset, .int .i64 e.cell.frm, .int .i64 e.cell.to, .int .i64 e.cell.flow, .bool e.sends, .bool e.extra, .int .i64 e.first, .int .i64 e.til]] w fun r w' => r = .returned (.int .i64 (cmpD d e)) ∧ GW w w' := by
  obtain ⟨⟨a0, a1, a2, a3, a4⟩, a9, ax, af, au⟩ := d
  obtain ⟨⟨b0, b1, b2, b3, b4⟩, b9, bx, bf, bu⟩ := e
  have hR : cmpD ⟨⟨a0, a1, a2, a3, a4⟩, a9, ax, af, au⟩ ⟨⟨b0, b1, b2, b3, b4⟩, b9, bx, bf, bu⟩ = fst0 [cmpC ⟨a0, a1, a2, a3, a4⟩ ⟨b0, b1, b2, b3, b4⟩, cmpI af bf, cmpI (lastN au) (lastN bu), laterN ⟨⟨a0, a1, a2, a3, a4⟩, a9, ax, af, au⟩ - laterN ⟨⟨b0, b1, b2, b3, b4⟩, b9, bx, bf, bu⟩] := rfl
  have c1 := fun W => compare_any ⟨a0, a1, a2, a3, a4⟩ ⟨b0, b1, b2, b3, b4⟩ W
  have c2 := fun x y W => cmp_any x y W
  have c3 := fun u W => last_any u W
  have c4 := fun W => later_any ⟨⟨a0, a1, a2, a3, a4⟩, a9, ax, af, au⟩ W
  have c5 := fun W => later_any ⟨⟨b0, b1, b2, b3, b4⟩, b9, bx, bf, bu⟩ W
  have l1 := laterN_bd ⟨⟨a0, a1, a2, a3, a4⟩, a9, ax, af, au⟩
  have l2 := laterN_bd ⟨⟨b0, b1, b2, b3, b4⟩, b9, bx, bf, bu⟩
  dsimp only at *
  generalize cmpD ⟨⟨a0, a1, a2, a3, a4⟩, a9, ax, af, au⟩ ⟨⟨b0, b1, b2, b3, b4⟩, b9, bx, bf, bu⟩ = R at *
  generalize laterN ⟨⟨a0, a1, a2, a3, a4⟩, a9, ax, af, au⟩ = m1 at *
  generalize laterN ⟨⟨b0, b1, b2, b3, b4⟩, b9, bx, bf, bu⟩ = m2 at *
  generalize cmpC ⟨a0, a1, a2, a3, a4⟩ ⟨b0, b1, b2, b3, b4⟩ = V at *
  generalize cmpI = CI at *
  generalize lastN = LA at *
  have c6 := fun A W (h : IntS W A 4 [V, CI af bf, CI (LA au) (LA bu), m1 - m2]) => first_any A 4 4 _ W h
  rw [← hR] at c6
  have hw1 : IntKind.i64.wrap (m1 - m2) = m1 - m2 := IntWalk.i64_in _ (by omega)
  obtain ⟨l1a, l1b⟩ := l1
  obtain ⟨l2a, l2b⟩ := l2
  have BX := (Box.new w #[.int .i64 a0, .int .i64 a1, .int .i64 a2, .int .i64 a3, .int .i64 a4, .bool a9, .bool ax, .int .i64 af, .int .i64 au] 45).alloc (.cells #[.int .i64 b0, .int .i64 b1, .int .i64 b2, .int .i64 b3, .int .i64 b4, .bool b9, .bool bx, .int .i64 bf, .int .i64 bu] 45)
  have BY := Box.new (w.alloc (.cells #[.int .i64 a0, .int .i64 a1, .int .i64 a2, .int .i64 a3, .int .i64 a4, .bool a9, .bool ax, .int .i64 af, .int .i64 au] 45)) #[.int .i64 b0, .int .i64 b1, .int .i64 b2, .int .i64 b3, .int .i64 b4, .bool b9, .bool bx, .int .i64 bf, .int .i64 bu] 45
  have hG := ((GW.refl w).alloc (.cells #[.int .i64 a0, .int .i64 a1, .int .i64 a2, .int .i64 a3, .int .i64 a4, .bool a9, .bool ax, .int .i64 af, .int .i64 au] 45)).alloc (.cells #[.int .i64 b0, .int .i64 b1, .int .i64 b2, .int .i64 b3, .int .i64 b4, .bool b9, .bool bx, .int .i64 bf, .int .i64 bu] 45)
  rw [size1] at BY
  replace hR := Lib.hid hR
  replace c1 := Lib.hid c1
  replace c2 := Lib.hid c2
  replace c3 := Lib.hid c3
  replace c4 := Lib.hid c4
  replace c5 := Lib.hid c5
  replace c6 := Lib.hid c6
  replace BX := Lib.hid BX
  replace BY := Lib.hid BY
  replace hG := Lib.hid hG
  go_enter Try.func46, Try.ntmps46
  have kx := BX.out.at_
  have ky := BY.out.at_
  go_wp2_with fail
  generalize (w.alloc (.cells #[.int .i64 a0, .int .i64 a1, .int .i64 a2, .int .i64 a3, .int .i64 a4, .bool a9, .bool ax, .int .i64 af, .int .i64 au] 45)).alloc (.cells #[.int .i64 b0, .int .i64 b1, .int .i64 b2, .int .i64 b3, .int .i64 b4, .bool b9, .bool bx, .int .i64 bf, .int .i64 bu] 45) = w1 at *
  have HX : Hid (∀ w', GW w1 w' → (GW w1 w' ∧ (w'.cell? ⟨w.heap.size, 0, none⟩ = some (.int .i64 a0) ∧ w'.cell? ⟨w.heap.size, 1, none⟩ = some (.int .i64 a1) ∧ w'.cell? ⟨w.heap.size, 2, none⟩ = some (.int .i64 a2) ∧ w'.cell? ⟨w.heap.size, 3, none⟩ = some (.int .i64 a3) ∧ w'.cell? ⟨w.heap.size, 4, none⟩ = some (.int .i64 a4) ∧ w'.cell? ⟨w.heap.size, 5, none⟩ = some (.bool a9) ∧ w'.cell? ⟨w.heap.size, 6, none⟩ = some (.bool ax) ∧ w'.cell? ⟨w.heap.size, 7, none⟩ = some (.int .i64 af) ∧ w'.cell? ⟨w.heap.size, 8, none⟩ = some (.int .i64 au)) ∧ (w'.cell? ⟨w.heap.size + 1, 0, none⟩ = some (.int .i64 b0) ∧ w'.cell? ⟨w.heap.size + 1, 1, none⟩ = some (.int .i64 b1) ∧ w'.cell? ⟨w.heap.size + 1, 2, none⟩ = some (.int .i64 b2) ∧ w'.cell? ⟨w.heap.size + 1, 3, none⟩ = some (.int .i64 b3) ∧ w'.cell? ⟨w.heap.size + 1, 4, none⟩ = some (.int .i64 b4) ∧ w'.cell? ⟨w.heap.size + 1, 5, none⟩ = some (.bool b9) ∧ w'.cell? ⟨w.heap.size + 1, 6, none⟩ = some (.bool bx) ∧ w'.cell? ⟨w.heap.size + 1, 7, none⟩ = some (.int .i64 bf) ∧ w'.cell? ⟨w.heap.size + 1, 8, none⟩ = some (.int .i64 bu)))) := fun w' h =>
    ⟨h, ⟨(BX.out.keep h.below).at_ 0, (BX.out.keep h.below).at_ 1, (BX.out.keep h.below).at_ 2, (BX.out.keep h.below).at_ 3, (BX.out.keep h.below).at_ 4, (BX.out.keep h.below).at_ 5, (BX.out.keep h.below).at_ 6, (BX.out.keep h.below).at_ 7, (BX.out.keep h.below).at_ 8⟩, ⟨(BY.out.keep h.below).at_ 0, (BY.out.keep h.below).at_ 1, (BY.out.keep h.below).at_ 2, (BY.out.keep h.below).at_ 3, (BY.out.keep h.below).at_ 4, (BY.out.keep h.below).at_ 5, (BY.out.keep h.below).at_ 6, (BY.out.keep h.below).at_ 7, (BY.out.keep h.below).at_ 8⟩⟩
  have kz := HX.out _ (GW.refl w1)
  clear kx ky
  go_region_held3 (fun w' => GW w1 w' ∧ (w'.cell? ⟨w.heap.size, 0, none⟩ = some (.int .i64 a0) ∧ w'.cell? ⟨w.heap.size, 1, none⟩ = some (.int .i64 a1) ∧ w'.cell? ⟨w.heap.size, 2, none⟩ = some (.int .i64 a2) ∧ w'.cell? ⟨w.heap.size, 3, none⟩ = some (.int .i64 a3) ∧ w'.cell? ⟨w.heap.size, 4, none⟩ = some (.int .i64 a4) ∧ w'.cell? ⟨w.heap.size, 5, none⟩ = some (.bool a9) ∧ w'.cell? ⟨w.heap.size, 6, none⟩ = some (.bool ax) ∧ w'.cell? ⟨w.heap.size, 7, none⟩ = some (.int .i64 af) ∧ w'.cell? ⟨w.heap.size, 8, none⟩ = some (.int .i64 au)) ∧ (w'.cell? ⟨w.heap.size + 1, 0, none⟩ = some (.int .i64 b0) ∧ w'.cell? ⟨w.heap.size + 1, 1, none⟩ = some (.int .i64 b1) ∧ w'.cell? ⟨w.heap.size + 1, 2, none⟩ = some (.int .i64 b2) ∧ w'.cell? ⟨w.heap.size + 1, 3, none⟩ = some (.int .i64 b3) ∧ w'.cell? ⟨w.heap.size + 1, 4, none⟩ = some (.int .i64 b4) ∧ w'.cell? ⟨w.heap.size + 1, 5, none⟩ = some (.bool b9) ∧ w'.cell? ⟨w.heap.size + 1, 6, none⟩ = some (.bool bx) ∧ w'.cell? ⟨w.heap.size + 1, 7, none⟩ = some (.int .i64 bf) ∧ w'.cell? ⟨w.heap.size + 1, 8, none⟩ = some (.int .i64 bu)))
    (first
      | exact HX.out _ ((GW.refl w1).drew)
      | exact HX.out _ (by assumption)
      | exact HX.out _ (And.left (by assumption))
      | exact HX.out _ (GW.trans (And.left (by assumption)) (by assumption))
      | exact HX.out _ (GW.alloc (And.left (by assumption)) _))
    (first
      | (go_at_call 42; refine (c1.out _).mono ?_; rintro r wf ⟨rfl, hgw⟩)
      | (go_at_call 48; refine (c2.out _ _ _).mono ?_; rintro r wf ⟨rfl, rfl⟩)
      | (go_at_call 49; refine (c3.out _ _).mono ?_; rintro r wf ⟨rfl, rfl⟩)
      | (go_at_call 50; refine (c4.out _).mono ?_; rintro r wf ⟨rfl, hgw⟩)
      | (go_at_call 50; refine (c5.out _).mono ?_; rintro r wf ⟨rfl, hgw⟩)
      | (go_at_call 47; refine (c6.out _ _ (ints_box _ 3 [V, CI af bf, CI (LA au) (LA bu), m1 - m2] (by simp [maxLen]))).mono ?_; rintro r wf ⟨rfl, rfl⟩))
  all_goals
    go_wp2
    go_ret
    exact ⟨rfl, hG.out.trans (And.left (by assumption))⟩
end Sw
end Go.Proofs.Ytnkgmpmedkegbaa
