/- Contracts of slices' functions at structs (printed by gen_lib.py). -/
import Derived.Test.YtnkgmpmedkegbaaSw27
namespace Go.Proofs.Ytnkgmpmedkegbaa
open Go Go.RowKit Go.Sort
namespace Sw
open Mm
set_option maxRecDepth 100000 in
set_option maxHeartbeats 4000000 in
theorem equalP_any (A B : Option Addr) (n m c1 c2 : Nat) (xs ys : List (Int × Int)) (w : World) (h1 : PrS w A n xs) (h2 : PrS w B m ys) :
    Calls Try.prog 19 #[.slice A n c1, .slice B m c2] w fun e w' => e = .returned (.bool (decide (xs = ys))) ∧ Below w.heap.size w w' := by
  have hl1 := h1.len
  have hl2 := h2.len
  have hs := h1.small
  unfold maxLen at hs
  have kn := neq_pr
  have hE : ∀ a b, eqP a b = decide (a = b) := fun _ _ => rfl
  have hne : n ≠ m → decide (xs = ys) = false := fun h => decide_eq_false (fun e => h (by rw [← hl1, ← hl2, e]))
  have hno : ∀ k, eqP (xs.getD k default) (ys.getD k default) = false → decide (xs = ys) = false := fun k h => decide_eq_false (fun e => by rw [e, hE, decide_eq_false_iff_not] at h; exact h rfl)
  have hyes : n = m → (∀ j, j < n → xs.getD j default = ys.getD j default) → decide (xs = ys) = true := fun h h2 => decide_eq_true (list_eq_getD hl1 (by rw [hl2, h]) h2)
  generalize decide (xs = ys) = R at *
  generalize eqP = E at *
  replace h1 := Lib.hid h1
  replace h2 := Lib.hid h2
  replace hl1 := Lib.hid hl1
  replace hl2 := Lib.hid hl2
  replace kn := Lib.hid kn
  replace hE := Lib.hid hE
  replace hno := Lib.hid hno
  replace hyes := Lib.hid hyes
  by_cases hnm : n = m
  · subst hnm
    have hbb : ((n : Int) != (n : Int)) = false := by simp
    clear hne
    go_enter Try.func19, Try.ntmps19
    go_wp2_with fail
    go_loopw [5, 13] (fun _ i wr => ∃ k : Nat, k ≤ n ∧ i = .int .i64 k ∧ Hid (∀ j, j < k → xs.getD j default = ys.getD j default) ∧ Hid (Below w.heap.size w wr)) (fun _ i _ => n - (intOf i).toNat)
    case atStart => exact ⟨0, by omega, rfl, fun j hj => absurd hj (by omega), Below.refl _ _⟩
    case round =>
      obtain ⟨k, hk, rfl, HP, HB⟩ := hrel
      by_cases hlt : k < n
      · obtain ⟨b1, o1, rfl⟩ := h1.out.addr (by omega)
        obtain ⟨b2, o2, rfl⟩ := h2.out.addr (by omega)
        have hx := pr_at (h1.out.keep HB.out) hlt
        have hy := pr_at (h2.out.keep HB.out) hlt
        have he := kn.out (xs.getD k default) (ys.getD k default)
        have hEx := hE.out (xs.getD k default) (ys.getD k default)
        have hnk := hno.out k
        generalize hX : xs.getD k default = x at *
        generalize hY : ys.getD k default = y at *
        generalize E x y = Q at *
        obtain ⟨x0, x1⟩ := x
        obtain ⟨y0, y1⟩ := y
        obtain ⟨q0, q1⟩ := hx
        obtain ⟨p0, p1⟩ := hy
        dsimp only at q0 q1 p0 p1 he
        have a0 := cell_regrown q0
        have b0 := cell_regrown p0
        have a1 := cell_regrown q1
        have b1 := cell_regrown p1
        have r1 : (k : Int) < (n : Int) := by omega
        clear q0 q1 p0 p1
        replace hEx := Lib.hid hEx
        replace hX := Lib.hid hX
        replace hY := Lib.hid hY
        replace hnk := Lib.hid hnk
        cases Q with
        | true =>
          have hP2 : Hid (∀ j, j < k + 1 → xs.getD j default = ys.getD j default) := fun j hj => by
            by_cases e : j = k
            · subst e
              have := hEx.out
              rw [eq_comm, decide_eq_true_eq] at this
              rw [hX.out, hY.out, this]
            · exact HP.out j (by omega)
          go_wp2_with fail
          refine wp_region_quiet_below (by kernel_rfl) (by kernel_rfl) ?_
          repeat (go_big_quiet_step (fail))
          refine wpQuiet_nil ?_
          rintro _ ⟨⟨dq, osq⟩, rfl⟩
          have hb_ := below_regrown wr dq osq
          replace HB := Lib.hid (HB.out.keep hb_)
          generalize grow (redrawn wr dq) osq = w2 at *
          clear hb_
          go_wp2
          go_roundw
          case rel => exact ⟨k + 1, by omega, by go_num, hP2, HB⟩
          case measure => simp [intOf]; omega
        | false =>
          have hR := Lib.hid (hnk.out rfl)
          go_wp2_with fail
          refine wp_region_quiet_below (by kernel_rfl) (by kernel_rfl) ?_
          repeat (go_big_quiet_step (fail))
          refine wpQuiet_nil ?_
          rintro _ ⟨⟨dq, osq⟩, rfl⟩
          have hb_ := below_regrown wr dq osq
          replace HB := Lib.hid (HB.out.keep hb_)
          generalize grow (redrawn wr dq) osq = w2 at *
          clear hb_
          go_wp2
          go_ret
          exact ⟨by rw [hR.out]; rfl, HB.out⟩
      · obtain rfl : k = n := by omega
        have hR := Lib.hid (hyes.out (by first | rfl | trivial) HP.out)
        go_wp2
        go_ret
        exact ⟨by rw [hR.out]; rfl, HB.out⟩
  · have hR := Lib.hid (hne hnm)
    have hbb : ((n : Int) != (m : Int)) = true := by rw [bne_iff_ne]; omega
    clear hne
    replace hnm := Lib.hid hnm
    go_enter Try.func19, Try.ntmps19
    go_wp2
    go_ret
    exact ⟨by rw [hR.out]; rfl, Below.refl _ _⟩
set_option maxRecDepth 100000 in
set_option maxHeartbeats 4000000 in
theorem equalD_any (A B : Option Addr) (n m c1 c2 : Nat) (xs ys : List Dut) (w : World) (h1 : DutS w A n xs) (h2 : DutS w B m ys) :
    Calls Try.prog 20 #[.slice A n c1, .slice B m c2] w fun e w' => e = .returned (.bool (decide (xs = ys))) ∧ Below w.heap.size w w' := by
  have hl1 := h1.len
  have hl2 := h2.len
  have hs := h1.small
  unfold maxLen at hs
  have kn := neq_dut
  have hE : ∀ a b, eqD a b = decide (a = b) := fun _ _ => rfl
  have hne : n ≠ m → decide (xs = ys) = false := fun h => decide_eq_false (fun e => h (by rw [← hl1, ← hl2, e]))
  have hno : ∀ k, eqD (xs.getD k default) (ys.getD k default) = false → decide (xs = ys) = false := fun k h => decide_eq_false (fun e => by rw [e, hE, decide_eq_false_iff_not] at h; exact h rfl)
  have hyes : n = m → (∀ j, j < n → xs.getD j default = ys.getD j default) → decide (xs = ys) = true := fun h h2 => decide_eq_true (list_eq_getD hl1 (by rw [hl2, h]) h2)
  generalize decide (xs = ys) = R at *
  generalize eqD = E at *
  replace h1 := Lib.hid h1
  replace h2 := Lib.hid h2
  replace hl1 := Lib.hid hl1
  replace hl2 := Lib.hid hl2
  replace kn := Lib.hid kn
  replace hE := Lib.hid hE
  replace hno := Lib.hid hno
  replace hyes := Lib.hid hyes
  by_cases hnm : n = m
  · subst hnm
    have hbb : ((n : Int) != (n : Int)) = false := by simp
    clear hne
    go_enter Try.func20, Try.ntmps20
    go_wp2_with fail
    go_loopw [5, 13] (fun _ i wr => ∃ k : Nat, k ≤ n ∧ i = .int .i64 k ∧ Hid (∀ j, j < k → xs.getD j default = ys.getD j default) ∧ Hid (Below w.heap.size w wr)) (fun _ i _ => n - (intOf i).toNat)
    case atStart => exact ⟨0, by omega, rfl, fun j hj => absurd hj (by omega), Below.refl _ _⟩
    case round =>
      obtain ⟨k, hk, rfl, HP, HB⟩ := hrel
      by_cases hlt : k < n
      · obtain ⟨b1, o1, rfl⟩ := h1.out.addr (by omega)
        obtain ⟨b2, o2, rfl⟩ := h2.out.addr (by omega)
        have hx := dut_at (h1.out.keep HB.out) hlt
        have hy := dut_at (h2.out.keep HB.out) hlt
        have he := kn.out (xs.getD k default) (ys.getD k default)
        have hEx := hE.out (xs.getD k default) (ys.getD k default)
        have hnk := hno.out k
        generalize hX : xs.getD k default = x at *
        generalize hY : ys.getD k default = y at *
        generalize E x y = Q at *
        obtain ⟨⟨x0, x1, x2, x3, x4⟩, x5, x6, x7, x8⟩ := x
        obtain ⟨⟨y0, y1, y2, y3, y4⟩, y5, y6, y7, y8⟩ := y
        obtain ⟨q0, q1, q2, q3, q4, q5, q6, q7, q8⟩ := hx
        obtain ⟨p0, p1, p2, p3, p4, p5, p6, p7, p8⟩ := hy
        dsimp only at q0 q1 q2 q3 q4 q5 q6 q7 q8 p0 p1 p2 p3 p4 p5 p6 p7 p8 he
        have a0 := cell_regrown q0
        have b0 := cell_regrown p0
        have a1 := cell_regrown q1
        have b1 := cell_regrown p1
        have a2 := cell_regrown q2
        have b2 := cell_regrown p2
        have a3 := cell_regrown q3
        have b3 := cell_regrown p3
        have a4 := cell_regrown q4
        have b4 := cell_regrown p4
        have a5 := cell_regrown q5
        have b5 := cell_regrown p5
        have a6 := cell_regrown q6
        have b6 := cell_regrown p6
        have a7 := cell_regrown q7
        have b7 := cell_regrown p7
        have a8 := cell_regrown q8
        have b8 := cell_regrown p8
        have r1 : (k : Int) < (n : Int) := by omega
        clear q0 q1 q2 q3 q4 q5 q6 q7 q8 p0 p1 p2 p3 p4 p5 p6 p7 p8
        replace hEx := Lib.hid hEx
        replace hX := Lib.hid hX
        replace hY := Lib.hid hY
        replace hnk := Lib.hid hnk
        cases Q with
        | true =>
          have hP2 : Hid (∀ j, j < k + 1 → xs.getD j default = ys.getD j default) := fun j hj => by
            by_cases e : j = k
            · subst e
              have := hEx.out
              rw [eq_comm, decide_eq_true_eq] at this
              rw [hX.out, hY.out, this]
            · exact HP.out j (by omega)
          go_wp2_with fail
          refine wp_region_quiet_below (by kernel_rfl) (by kernel_rfl) ?_
          repeat (go_big_quiet_step (fail))
          refine wpQuiet_nil ?_
          rintro _ ⟨⟨dq, osq⟩, rfl⟩
          have hb_ := below_regrown wr dq osq
          replace HB := Lib.hid (HB.out.keep hb_)
          generalize grow (redrawn wr dq) osq = w2 at *
          clear hb_
          go_wp2
          go_roundw
          case rel => exact ⟨k + 1, by omega, by go_num, hP2, HB⟩
          case measure => simp [intOf]; omega
        | false =>
          have hR := Lib.hid (hnk.out rfl)
          go_wp2_with fail
          refine wp_region_quiet_below (by kernel_rfl) (by kernel_rfl) ?_
          repeat (go_big_quiet_step (fail))
          refine wpQuiet_nil ?_
          rintro _ ⟨⟨dq, osq⟩, rfl⟩
          have hb_ := below_regrown wr dq osq
          replace HB := Lib.hid (HB.out.keep hb_)
          generalize grow (redrawn wr dq) osq = w2 at *
          clear hb_
          go_wp2
          go_ret
          exact ⟨by rw [hR.out]; rfl, HB.out⟩
      · obtain rfl : k = n := by omega
        have hR := Lib.hid (hyes.out (by first | rfl | trivial) HP.out)
        go_wp2
        go_ret
        exact ⟨by rw [hR.out]; rfl, HB.out⟩
  · have hR := Lib.hid (hne hnm)
    have hbb : ((n : Int) != (m : Int)) = true := by rw [bne_iff_ne]; omega
    clear hne
    replace hnm := Lib.hid hnm
    go_enter Try.func20, Try.ntmps20
    go_wp2
    go_ret
    exact ⟨by rw [hR.out]; rfl, Below.refl _ _⟩
end Sw
end Go.Proofs.Ytnkgmpmedkegbaa
