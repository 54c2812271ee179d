/- Chapter 27: the reference's Opposite of two lists of cells. -/
import Derived.Test.YtfoffooblkofhaaGreatCx
set_option linter.unusedVariables false
set_option linter.unusedSimpArgs false
namespace Go.Proofs.YtfoffooblkofhaaGreat
open Go Go.RowKit Go.Sort Go.Shelf Go.Maps
namespace Tx
open Sw Mm Pl
set_option maxRecDepth 100000 in
set_option maxHeartbeats 4000000 in
theorem oppR_any (A B : Option Addr) (n cp m cq : Nat) (xs ys : List TCl) (w : World) (h : TclS w A n xs) (h2 : TclS w B m ys) :
    Calls Tryz.prog 32 #[.slice A n cp, .slice B m cq] w fun e w' => e = .returned (.bool (oppN xs ys)) ∧ Below w.heap.size w w' := by
  have hlen := h.len
  have hlen2 := h2.len
  have hs := h.small
  have hs2 := h2.small
  unfold maxLen at hs hs2
  by_cases hnm : n = m
  case neg =>
    have hR : oppN xs ys = false := oppN_ne (by omega)
    have d1 : ((n : Int) != (m : Int)) = true := by rw [bne_iff_ne]; omega
    rw [hR]
    replace h := Lib.hid h
    replace h2 := Lib.hid h2
    replace hlen := Lib.hid hlen
    replace hlen2 := Lib.hid hlen2
    go_enter Tryz.func32, Tryz.ntmps32
    go_wp2_with fail
    go_ret
    exact ⟨rfl, Below.refl _ _⟩
  subst hnm
  have hno := fun k (hk : k < n) => oppN_no (a := xs) (b := ys) (i := k) (by omega)
  have hyes := fun (hh : ∀ i, i < n → oppC (xs.getD i default) (ys.getD i default) = true) => oppN_yes (a := xs) (b := ys) (by omega) (fun i hi => hh i (by omega))
  generalize oppN xs ys = R at *
  replace h := Lib.hid h
  replace h2 := Lib.hid h2
  replace hlen := Lib.hid hlen
  replace hlen2 := Lib.hid hlen2
  replace hno := Lib.hid hno
  replace hyes := Lib.hid hyes
  go_enter Tryz.func32, Tryz.ntmps32
  go_wp2_with fail
  go_loopw [5] (fun i wr => ∃ k : Nat, k ≤ n ∧ i = .int .i64 k ∧ Hid (∀ j, j < k → oppC (xs.getD j default) (ys.getD j default) = true) ∧ Hid (Below w.heap.size w wr)) (fun i _ => n - (intOf i).toNat)
  case atStart => exact ⟨0, by omega, rfl, fun j hj => absurd hj (by omega), Below.refl _ _⟩
  case round =>
    obtain ⟨k, hkn, rfl, HP, HB⟩ := hrel
    by_cases hlt : k < n
    · obtain ⟨b, off, rfl⟩ := h.out.addr (by omega)
      obtain ⟨b2, off2, rfl⟩ := h2.out.addr (by omega)
      have hx := tcl_at (h.out.keep HB.out) hlt
      have hy := tcl_at (h2.out.keep HB.out) hlt
      have hf := hno.out k hlt
      have hnx : oppC (xs.getD k default) (ys.getD k default) = true → ∀ j, j < k + 1 → oppC (xs.getD j default) (ys.getD j default) = true := fun h j hj => by
        by_cases e : j = k
        · subst e; exact h
        · exact HP.out j (by omega)
      generalize xs.getD k default = x at *
      generalize ys.getD k default = y at *
      obtain ⟨x0, x1, x2, x3, x4, x5⟩ := x
      obtain ⟨y0, y1, y2, y3, y4, y5⟩ := y
      have hq : oppC ⟨x0, x1, x2, x3, x4, x5⟩ ⟨y0, y1, y2, y3, y4, y5⟩ = (decide (x0 = y0) && (decide (x1 = y1) && decide (x3 ≠ y3))) := rfl
      rw [hq] at hf hnx
      clear hq
      obtain ⟨q0, q1, q2, q3, q4, q5⟩ := hx
      obtain ⟨r0, r1, r2, r3, r4, r5⟩ := hy
      dsimp only at q0 r0 q1 r1 q3 r3
      have g0 := cell_regrown q0
      have u0 := cell_regrown r0
      have g1 := cell_regrown q1
      have u1 := cell_regrown r1
      have g3 := cell_regrown q3
      have u3 := cell_regrown r3
      have r1' : (k : Int) < (n : Int) := by omega
      have r0' : (0 : Int) ≤ (k : Int) := by omega
      clear q0 r0 q1 r1 q2 r2 q3 r3 q4 r4 q5 r5
      replace hf := Lib.hid hf
      replace hnx := Lib.hid hnx
      by_cases t0 : x0 = y0
      case neg =>
        have d0 : (x0 != y0) = true := by rw [bne_iff_ne]; exact t0
        have hh := hf.out (by simp [t0])
        subst hh
        replace t0 := Lib.hid t0
        go_wp2_with fail
        refine wp_region_quiet_below (by kernel_rfl) (by kernel_rfl) ?_
        repeat (go_big_quiet_step (fail))
        refine wpQuiet_nil ?_
        rintro _ ⟨⟨dq, osq⟩, rfl⟩
        have hb_ := below_regrown wr dq osq
        replace HB := Lib.hid (HB.out.keep hb_)
        generalize grow (redrawn wr dq) osq = w2 at *
        clear hb_
        go_wp2
        go_ret
        exact ⟨rfl, HB.out⟩
      have d0 : (x0 != y0) = false := by rw [bne_eq_false_iff_eq]; exact t0
      by_cases t1 : x1 = y1
      case neg =>
        have d1 : (x1 != y1) = true := by rw [bne_iff_ne]; exact t1
        have hh := hf.out (by simp [t1])
        subst hh
        replace t0 := Lib.hid t0
        replace t1 := Lib.hid t1
        go_wp2_with fail
        refine wp_region_quiet_below (by kernel_rfl) (by kernel_rfl) ?_
        repeat (go_big_quiet_step (fail))
        refine wpQuiet_nil ?_
        rintro _ ⟨⟨dq, osq⟩, rfl⟩
        have hb_ := below_regrown wr dq osq
        replace HB := Lib.hid (HB.out.keep hb_)
        generalize grow (redrawn wr dq) osq = w2 at *
        clear hb_
        go_wp2
        go_ret
        exact ⟨rfl, HB.out⟩
      have d1 : (x1 != y1) = false := by rw [bne_eq_false_iff_eq]; exact t1
      by_cases t3 : x3 = y3
      case pos =>
        have d3 : (x3 == y3) = true := by rw [beq_iff_eq]; exact t3
        have hh := hf.out (by simp [t3])
        subst hh
        replace t0 := Lib.hid t0
        replace t1 := Lib.hid t1
        replace t3 := Lib.hid t3
        go_wp2_with fail
        refine wp_region_quiet_below (by kernel_rfl) (by kernel_rfl) ?_
        repeat (go_big_quiet_step (fail))
        refine wpQuiet_nil ?_
        rintro _ ⟨⟨dq, osq⟩, rfl⟩
        have hb_ := below_regrown wr dq osq
        replace HB := Lib.hid (HB.out.keep hb_)
        generalize grow (redrawn wr dq) osq = w2 at *
        clear hb_
        go_wp2
        go_ret
        exact ⟨rfl, HB.out⟩
      have d3 : (x3 == y3) = false := by rw [beq_eq_false_iff_ne]; exact t3
      have hh := Lib.hid (hnx.out (by simp [t0, t1, t3]))
      replace t0 := Lib.hid t0
      replace t1 := Lib.hid t1
      replace t3 := Lib.hid t3
      go_wp2_with fail
      refine wp_region_quiet_below (by kernel_rfl) (by kernel_rfl) ?_
      repeat (go_big_quiet_step (fail))
      refine wpQuiet_nil ?_
      rintro _ ⟨⟨dq, osq⟩, rfl⟩
      have hb_ := below_regrown wr dq osq
      replace HB := Lib.hid (HB.out.keep hb_)
      generalize grow (redrawn wr dq) osq = w2 at *
      clear hb_
      go_wp2
      go_roundw
      case rel => exact ⟨k + 1, by omega, by go_num, hh, HB⟩
      case measure => simp [intOf]; omega
    · obtain rfl : k = n := by omega
      have hR := hyes.out HP.out
      subst hR
      go_wp2
      go_ret
      exact ⟨rfl, HB.out⟩
end Tx
end Go.Proofs.YtfoffooblkofhaaGreat
