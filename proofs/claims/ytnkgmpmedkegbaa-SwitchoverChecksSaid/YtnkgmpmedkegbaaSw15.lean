/- At's closures; Until. -/
import Derived.Test.YtnkgmpmedkegbaaSw14
import Derived.Deep.RegionHeld3
namespace Go.Proofs.Ytnkgmpmedkegbaa
open Go Go.RowKit Go.Sort
namespace Sw
open Mm
def turnN (d : Dut) : Int := if d.sends = true then -1 else laterN d
theorem turnN_bd (d : Dut) : -1 ≤ turnN d ∧ turnN d ≤ 1 := by
  have := laterN_bd d
  unfold turnN; split <;> omega
set_option maxRecDepth 100000 in
set_option maxHeartbeats 2000000 in
theorem turn_any (d : Dut) (w : World) : Calls Try.prog 62 #[.agg #[.int .i64 d.cell.slot, .int .i64 d.cell.offset, .int .i64 d.cell.frm, .int .i64 d.cell.to, .int .i64 d.cell.flow, .bool d.sends, .bool d.extra, .int .i64 d.first, .int .i64 d.til]] w fun e w' => e = .returned (.int .i64 (turnN d)) ∧ GW w w' := by
  have hR : turnN d = if d.sends = true then -1 else laterN d := rfl
  have c1 := fun W => later_any d W
  generalize turnN d = R at *
  generalize laterN d = L at *
  obtain ⟨⟨a0, a1, a2, a3, a4⟩, a9, ax, af, au⟩ := d
  dsimp only at *
  have hG := (GW.refl w).alloc (.cells #[.int .i64 a0, .int .i64 a1, .int .i64 a2, .int .i64 a3, .int .i64 a4, .bool a9, .bool ax, .int .i64 af, .int .i64 au] 45)
  have BX := Box.new w #[.int .i64 a0, .int .i64 a1, .int .i64 a2, .int .i64 a3, .int .i64 a4, .bool a9, .bool ax, .int .i64 af, .int .i64 au] 45
  replace c1 := Lib.hid c1
  replace hG := Lib.hid hG
  replace BX := Lib.hid BX
  have kx := BX.out.at_
  cases a9 with
  | true =>
    rw [if_pos rfl] at hR
    replace hR := Lib.hid hR
    go_enter Try.func62, Try.ntmps62
    go_wp2
    go_ret
    exact ⟨by rw [hR.out]; rfl, hG.out⟩
  | false =>
    rw [if_neg (by decide)] at hR
    replace hR := Lib.hid hR
    go_enter Try.func62, Try.ntmps62
    go_wp2_with fail
    refine (c1.out _).mono ?_
    rintro e w2 ⟨rfl, hg2⟩
    have hG2 := Lib.hid (hG.out.trans hg2)
    clear hg2 kx
    go_wp2
    go_ret
    exact ⟨by rw [hR.out]; rfl, hG2.out⟩
set_option maxRecDepth 100000 in
set_option maxHeartbeats 8000000 in
theorem atCmp_any (d e : Dut) (B : Nat) (w : World) (hB : w.cell? ⟨B, 0, none⟩ = some (.func (.func 62) #[] #[])) :
    Calls Try.prog 63 #[.agg #[.int .i64 d.cell.slot, .int .i64 d.cell.offset, .int .i64 d.cell.frm, .int .i64 d.cell.to, .int .i64 d.cell.flow, .bool d.sends, .bool d.extra, .int .i64 d.first, .int .i64 d.til], .agg #[.int .i64 e.cell.slot, .int .i64 e.cell.offset, .int .i64 e.cell.frm, .int .i64 e.cell.to, .int .i64 e.cell.flow, .bool e.sends, .bool e.extra, .int .i64 e.first, .int .i64 e.til], .pointer (some ⟨B, 0, none⟩)] w fun r w' => r = .returned (.int .i64 (turnN d - turnN e)) ∧ GW w w' := by
  have c4 := fun W => turn_any d W
  have c5 := fun W => turn_any e W
  have l1 := turnN_bd d
  have l2 := turnN_bd e
  generalize turnN d = m1 at *
  generalize turnN e = m2 at *
  obtain ⟨⟨a0, a1, a2, a3, a4⟩, a9, ax, af, au⟩ := d
  obtain ⟨⟨b0, b1, b2, b3, b4⟩, b9, bx, bf, bu⟩ := e
  dsimp only at *
  have hw1 : IntKind.i64.wrap (m1 - m2) = m1 - m2 := IntWalk.i64_in _ (by omega)
  obtain ⟨l1a, l1b⟩ := l1
  obtain ⟨l2a, l2b⟩ := l2
  have BX := (Box.new w #[.int .i64 a0, .int .i64 a1, .int .i64 a2, .int .i64 a3, .int .i64 a4, .bool a9, .bool ax, .int .i64 af, .int .i64 au] 45).alloc (.cells #[.int .i64 b0, .int .i64 b1, .int .i64 b2, .int .i64 b3, .int .i64 b4, .bool b9, .bool bx, .int .i64 bf, .int .i64 bu] 45)
  have BY := Box.new (w.alloc (.cells #[.int .i64 a0, .int .i64 a1, .int .i64 a2, .int .i64 a3, .int .i64 a4, .bool a9, .bool ax, .int .i64 af, .int .i64 au] 45)) #[.int .i64 b0, .int .i64 b1, .int .i64 b2, .int .i64 b3, .int .i64 b4, .bool b9, .bool bx, .int .i64 bf, .int .i64 bu] 45
  have hG := ((GW.refl w).alloc (.cells #[.int .i64 a0, .int .i64 a1, .int .i64 a2, .int .i64 a3, .int .i64 a4, .bool a9, .bool ax, .int .i64 af, .int .i64 au] 45)).alloc (.cells #[.int .i64 b0, .int .i64 b1, .int .i64 b2, .int .i64 b3, .int .i64 b4, .bool b9, .bool bx, .int .i64 bf, .int .i64 bu] 45)
  have hB1 := (hG.below.cell (p := ⟨B, 0, none⟩) (World.block_lt_of_cell? w _ hB)).trans hB
  rw [size1] at BY
  replace c4 := Lib.hid c4
  replace c5 := Lib.hid c5
  replace BX := Lib.hid BX
  replace BY := Lib.hid BY
  replace hG := Lib.hid hG
  replace hB := Lib.hid hB
  go_enter Try.func63, Try.ntmps63
  have kx := BX.out.at_
  have ky := BY.out.at_
  go_wp2_with fail
  generalize (w.alloc (.cells #[.int .i64 a0, .int .i64 a1, .int .i64 a2, .int .i64 a3, .int .i64 a4, .bool a9, .bool ax, .int .i64 af, .int .i64 au] 45)).alloc (.cells #[.int .i64 b0, .int .i64 b1, .int .i64 b2, .int .i64 b3, .int .i64 b4, .bool b9, .bool bx, .int .i64 bf, .int .i64 bu] 45) = w1 at *
  have hBk : Hid (∀ w', GW w1 w' → w'.cell? ⟨B, 0, none⟩ = some (.func (.func 62) #[] #[])) := fun w' h => (h.below.cell (p := ⟨B, 0, none⟩) (World.block_lt_of_cell? w1 _ hB1)).trans hB1
  have HX : Hid (∀ w', GW w1 w' → (GW w1 w' ∧ w'.cell? ⟨B, 0, none⟩ = some (.func (.func 62) #[] #[]) ∧ (w'.cell? ⟨w.heap.size, 0, none⟩ = some (.int .i64 a0) ∧ w'.cell? ⟨w.heap.size, 1, none⟩ = some (.int .i64 a1) ∧ w'.cell? ⟨w.heap.size, 2, none⟩ = some (.int .i64 a2) ∧ w'.cell? ⟨w.heap.size, 3, none⟩ = some (.int .i64 a3) ∧ w'.cell? ⟨w.heap.size, 4, none⟩ = some (.int .i64 a4) ∧ w'.cell? ⟨w.heap.size, 5, none⟩ = some (.bool a9) ∧ w'.cell? ⟨w.heap.size, 6, none⟩ = some (.bool ax) ∧ w'.cell? ⟨w.heap.size, 7, none⟩ = some (.int .i64 af) ∧ w'.cell? ⟨w.heap.size, 8, none⟩ = some (.int .i64 au)) ∧ (w'.cell? ⟨w.heap.size + 1, 0, none⟩ = some (.int .i64 b0) ∧ w'.cell? ⟨w.heap.size + 1, 1, none⟩ = some (.int .i64 b1) ∧ w'.cell? ⟨w.heap.size + 1, 2, none⟩ = some (.int .i64 b2) ∧ w'.cell? ⟨w.heap.size + 1, 3, none⟩ = some (.int .i64 b3) ∧ w'.cell? ⟨w.heap.size + 1, 4, none⟩ = some (.int .i64 b4) ∧ w'.cell? ⟨w.heap.size + 1, 5, none⟩ = some (.bool b9) ∧ w'.cell? ⟨w.heap.size + 1, 6, none⟩ = some (.bool bx) ∧ w'.cell? ⟨w.heap.size + 1, 7, none⟩ = some (.int .i64 bf) ∧ w'.cell? ⟨w.heap.size + 1, 8, none⟩ = some (.int .i64 bu)))) := fun w' h =>
    ⟨h, hBk.out w' h, ⟨(BX.out.keep h.below).at_ 0, (BX.out.keep h.below).at_ 1, (BX.out.keep h.below).at_ 2, (BX.out.keep h.below).at_ 3, (BX.out.keep h.below).at_ 4, (BX.out.keep h.below).at_ 5, (BX.out.keep h.below).at_ 6, (BX.out.keep h.below).at_ 7, (BX.out.keep h.below).at_ 8⟩, ⟨(BY.out.keep h.below).at_ 0, (BY.out.keep h.below).at_ 1, (BY.out.keep h.below).at_ 2, (BY.out.keep h.below).at_ 3, (BY.out.keep h.below).at_ 4, (BY.out.keep h.below).at_ 5, (BY.out.keep h.below).at_ 6, (BY.out.keep h.below).at_ 7, (BY.out.keep h.below).at_ 8⟩⟩
  have kz := HX.out _ (GW.refl w1)
  clear kx ky hB1
  go_region_held3 (fun w' => GW w1 w' ∧ w'.cell? ⟨B, 0, none⟩ = some (.func (.func 62) #[] #[]) ∧ (w'.cell? ⟨w.heap.size, 0, none⟩ = some (.int .i64 a0) ∧ w'.cell? ⟨w.heap.size, 1, none⟩ = some (.int .i64 a1) ∧ w'.cell? ⟨w.heap.size, 2, none⟩ = some (.int .i64 a2) ∧ w'.cell? ⟨w.heap.size, 3, none⟩ = some (.int .i64 a3) ∧ w'.cell? ⟨w.heap.size, 4, none⟩ = some (.int .i64 a4) ∧ w'.cell? ⟨w.heap.size, 5, none⟩ = some (.bool a9) ∧ w'.cell? ⟨w.heap.size, 6, none⟩ = some (.bool ax) ∧ w'.cell? ⟨w.heap.size, 7, none⟩ = some (.int .i64 af) ∧ w'.cell? ⟨w.heap.size, 8, none⟩ = some (.int .i64 au)) ∧ (w'.cell? ⟨w.heap.size + 1, 0, none⟩ = some (.int .i64 b0) ∧ w'.cell? ⟨w.heap.size + 1, 1, none⟩ = some (.int .i64 b1) ∧ w'.cell? ⟨w.heap.size + 1, 2, none⟩ = some (.int .i64 b2) ∧ w'.cell? ⟨w.heap.size + 1, 3, none⟩ = some (.int .i64 b3) ∧ w'.cell? ⟨w.heap.size + 1, 4, none⟩ = some (.int .i64 b4) ∧ w'.cell? ⟨w.heap.size + 1, 5, none⟩ = some (.bool b9) ∧ w'.cell? ⟨w.heap.size + 1, 6, none⟩ = some (.bool bx) ∧ w'.cell? ⟨w.heap.size + 1, 7, none⟩ = some (.int .i64 bf) ∧ w'.cell? ⟨w.heap.size + 1, 8, none⟩ = some (.int .i64 bu)))
    (first
      | exact HX.out _ ((GW.refl w1).drew)
      | exact HX.out _ (by assumption)
      | exact HX.out _ (And.left (by assumption))
      | exact HX.out _ (GW.trans (And.left (by assumption)) (by assumption)))
    (first
      | (go_at_call 62; refine (c4.out _).mono ?_; rintro r wf ⟨rfl, hgw⟩)
      | (go_at_call 62; refine (c5.out _).mono ?_; rintro r wf ⟨rfl, hgw⟩))
  all_goals
    go_wp2
    go_ret
    exact ⟨rfl, hG.out.trans (And.left (by assumption))⟩
def untilN (L : Int) (l : List Chg) : Int := if l.length = 0 then 0 else (l.getD (l.length - 1) default).slot + L
set_option maxRecDepth 100000 in
set_option maxHeartbeats 2000000 in
theorem until_any (L : Int) (B : Option Addr) (m cq : Nat) (l : List Chg) (w : World) (h : ChgS w B m l) (hL : 1 ≤ L ∧ L ≤ 512) (hs : ∀ x ∈ l, 0 ≤ x.slot ∧ x.slot ≤ 4096) :
    Calls Try.prog 21 #[.slice B m cq, .int .i64 L] w fun e w' => e = .returned (.int .i64 (untilN L l)) ∧ w = w' := by
  have hlen := h.len
  have hsm := h.small
  unfold maxLen at hsm
  obtain ⟨hL1, hL2⟩ := hL
  have hR : untilN L l = if m = 0 then 0 else (l.getD (m - 1) default).slot + L := by unfold untilN; rw [hlen]
  generalize untilN L l = R at *
  by_cases h0 : m = 0
  · have hR2 : Hid (R = 0) := by show _ = _; rw [hR, if_pos h0]
    have d : ((m : Int) == 0) = true := by rw [h0]; rfl
    clear hR
    replace h := Lib.hid h
    replace hlen := Lib.hid hlen
    replace hs := Lib.hid hs
    replace h0 := Lib.hid h0
    go_enter Try.func21, Try.ntmps21
    go_wp2
    go_ret
    exact ⟨by rw [hR2.out]; rfl, rfl⟩
  · obtain ⟨b, off, rfl⟩ := h.addr (by omega)
    obtain ⟨q0, _⟩ := chg_at h (i := m - 1) (by omega)
    have hx := ok_at hs (k := m - 1) (by omega)
    rw [if_neg h0] at hR
    generalize (l.getD (m - 1) default).slot = x at *
    have d : ((m : Int) == 0) = false := by rw [beq_eq_false_iff_ne]; omega
    have ht1 : ((m : Int) - 1).toNat = m - 1 := by omega
    have r1 : (0 : Int) ≤ (m : Int) - 1 := by omega
    have r2 : (m : Int) - 1 < (m : Int) := by omega
    obtain ⟨hx1, hx2⟩ := hx
    replace h := Lib.hid h
    replace hlen := Lib.hid hlen
    replace hs := Lib.hid hs
    replace h0 := Lib.hid h0
    replace hR := Lib.hid hR
    go_enter Try.func21, Try.ntmps21
    go_wp2
    go_ret
    exact ⟨by rw [hR.out]; rfl, rfl⟩
end Sw
end Go.Proofs.Ytnkgmpmedkegbaa
