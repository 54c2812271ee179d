/- hopmeshref52: less, cell, has. -/
import Derived.Test.YtnkgmpmedkegbaaSw16
namespace Go.Proofs.Ytnkgmpmedkegbaa
open Go Go.RowKit Go.Sort
namespace Sw
open Mm
theorem neq_or (x y : Int) : ((x != y) = true ∧ x ≠ y) ∨ ((x != y) = false ∧ x = y) := by
  by_cases h : x = y
  · exact .inr ⟨by rw [h]; simp, h⟩
  · exact .inl ⟨by simpa using h, h⟩
set_option maxRecDepth 100000 in
set_option maxHeartbeats 4000000 in
theorem less_any (a b : Cel) (w : World) :
    Calls Try.prog 66 #[.agg #[.int .i64 a.slot, .int .i64 a.offset, .int .i64 a.frm, .int .i64 a.to, .int .i64 a.flow], .agg #[.int .i64 b.slot, .int .i64 b.offset, .int .i64 b.frm, .int .i64 b.to, .int .i64 b.flow]] w fun e w' => e = .returned (.bool (decide (cmpC a b < 0))) ∧ Below w.heap.size w w' := by
  have hb2 := ballN (ball w (.cells #[.int .i64 a.slot, .int .i64 a.offset, .int .i64 a.frm, .int .i64 a.to, .int .i64 a.flow] 34)) (.cells #[.int .i64 b.slot, .int .i64 b.offset, .int .i64 b.frm, .int .i64 b.to, .int .i64 b.flow] 34)
  have BX := (Box.new w #[.int .i64 a.slot, .int .i64 a.offset, .int .i64 a.frm, .int .i64 a.to, .int .i64 a.flow] 34).alloc (.cells #[.int .i64 b.slot, .int .i64 b.offset, .int .i64 b.frm, .int .i64 b.to, .int .i64 b.flow] 34)
  have BY := Box.new (w.alloc (.cells #[.int .i64 a.slot, .int .i64 a.offset, .int .i64 a.frm, .int .i64 a.to, .int .i64 a.flow] 34)) #[.int .i64 b.slot, .int .i64 b.offset, .int .i64 b.frm, .int .i64 b.to, .int .i64 b.flow] 34
  rw [size1] at BY
  have hR : decide (cmpC a b < 0) = true ↔ ltC a b := by rw [decide_eq_true_eq, cmpC_lt]
  generalize decide (cmpC a b < 0) = R at *
  obtain ⟨a0, a1, a2, a3, a4⟩ := a
  obtain ⟨b0, b1, b2, b3, b4⟩ := b
  unfold ltC at hR
  dsimp only at *
  have kx := BX.at_
  have ky := BY.at_
  replace hb2 := Lib.hid hb2
  replace BX := Lib.hid BX
  replace BY := Lib.hid BY
  rcases neq_or a0 b0 with ⟨d0, e0⟩ | ⟨d0, rfl⟩
  · have h : Hid (R = decide (a0 < b0)) := by show _ = _; rw [Bool.eq_iff_iff, hR, decide_eq_true_eq]; omega
    clear hR e0
    go_enter Try.func66, Try.ntmps66
    go_wp2
    go_ret
    exact ⟨by rw [h.out]; rfl, hb2.out⟩
  rcases neq_or a1 b1 with ⟨d1, e1⟩ | ⟨d1, rfl⟩
  · have h : Hid (R = decide (a1 < b1)) := by show _ = _; rw [Bool.eq_iff_iff, hR, decide_eq_true_eq]; omega
    clear hR e1
    go_enter Try.func66, Try.ntmps66
    go_wp2
    go_ret
    exact ⟨by rw [h.out]; rfl, hb2.out⟩
  rcases neq_or a2 b2 with ⟨d2, e2⟩ | ⟨d2, rfl⟩
  · have h : Hid (R = decide (a2 < b2)) := by show _ = _; rw [Bool.eq_iff_iff, hR, decide_eq_true_eq]; omega
    clear hR e2
    go_enter Try.func66, Try.ntmps66
    go_wp2
    go_ret
    exact ⟨by rw [h.out]; rfl, hb2.out⟩
  rcases neq_or a3 b3 with ⟨d3, e3⟩ | ⟨d3, rfl⟩
  · have h : Hid (R = decide (a3 < b3)) := by show _ = _; rw [Bool.eq_iff_iff, hR, decide_eq_true_eq]; omega
    clear hR e3
    go_enter Try.func66, Try.ntmps66
    go_wp2
    go_ret
    exact ⟨by rw [h.out]; rfl, hb2.out⟩
  · have h : Hid (R = decide (a4 < b4)) := by show _ = _; rw [Bool.eq_iff_iff, hR, decide_eq_true_eq]; omega
    clear hR
    go_enter Try.func66, Try.ntmps66
    go_wp2
    go_ret
    exact ⟨by rw [h.out]; rfl, hb2.out⟩
set_option maxRecDepth 100000 in
set_option maxHeartbeats 2000000 in
theorem has_any (A : Option Addr) (n cp : Nat) (cs : List Cel) (c : Cel) (w : World) (h : CelS w A n cs) :
    Calls Try.prog 37 #[.slice A n cp, .agg #[.int .i64 c.slot, .int .i64 c.offset, .int .i64 c.frm, .int .i64 c.to, .int .i64 c.flow]] w fun e w' => e = .returned (.bool (decide (c ∈ cs))) ∧ Below w.heap.size w w' := by
  have hlen := h.len
  have hs := h.small
  unfold maxLen at hs
  have hbw := ball w (.cells #[.int .i64 c.slot, .int .i64 c.offset, .int .i64 c.frm, .int .i64 c.to, .int .i64 c.flow] 34)
  have BC := Box.new w #[.int .i64 c.slot, .int .i64 c.offset, .int .i64 c.frm, .int .i64 c.to, .int .i64 c.flow] 34
  have ke := fun d W => eql_cel d c W
  have hmem : Hid (∀ d, eqC d c = decide (d = c)) := fun _ => rfl
  have hR : Hid (decide (c ∈ cs) = decide (c ∈ cs)) := rfl
  generalize eqC = E at *
  obtain ⟨c0, c1, c2, c3, c4⟩ := c
  dsimp only at *
  replace h := Lib.hid h
  replace hlen := Lib.hid hlen
  replace hbw := Lib.hid hbw
  replace BC := Lib.hid BC
  replace ke := Lib.hid ke
  have kb := BC.out.at_
  go_enter Try.func37, Try.ntmps37
  go_wp2_with fail
  clear kb
  generalize w.alloc (.cells #[.int .i64 c0, .int .i64 c1, .int .i64 c2, .int .i64 c3, .int .i64 c4] 34) = w1 at *
  go_loopw [5] (fun i wr => ∃ k : Nat, k ≤ n ∧ i = .int .i64 k ∧ Hid (∀ d ∈ cs.take k, d ≠ (⟨c0, c1, c2, c3, c4⟩ : Cel)) ∧ Hid (Below w1.heap.size w1 wr)) (fun i _ => n - (intOf i).toNat)
  case atStart => exact ⟨0, by omega, rfl, fun d hd => by simp at hd, Below.refl _ _⟩
  case round =>
    obtain ⟨k, hk, rfl, HP, HB⟩ := hrel
    have hB := bthen hbw.out HB.out
    by_cases hlt : k < n
    · obtain ⟨b, off, rfl⟩ := h.out.addr (by omega)
      have hx := cel_at (h.out.keep hB) hlt
      have hk2 := ke.out (cs.getD k default)
      have htk := take_snoc (xs := cs) (k := k) (by rw [hlen.out]; exact hlt)
      have hin : cs.getD k default ∈ cs := ok_at (P := (· ∈ cs)) (fun _ h => h) (by rw [hlen.out]; exact hlt)
      have hme := hmem.out (cs.getD k default)
      generalize cs.getD k default = x at *
      obtain ⟨x0, x1, x2, x3, x4⟩ := x
      obtain ⟨q0, q1, q2, q3, q4⟩ := hx
      dsimp only at q0 q1 q2 q3 q4 hk2
      have g0 := cell_regrown q0
      have g1 := cell_regrown q1
      have g2 := cell_regrown q2
      have g3 := cell_regrown q3
      have g4 := cell_regrown q4
      have BR := BC.out.keep HB.out
      have gx := BR.grown
      have r1 : (k : Int) < (n : Int) := by omega
      generalize E ⟨x0, x1, x2, x3, x4⟩ ⟨c0, c1, c2, c3, c4⟩ = Q at *
      clear q0 q1 q2 q3 q4
      replace htk := Lib.hid htk
      replace hin := Lib.hid hin
      replace hme := Lib.hid hme
      replace BR := Lib.hid BR
      replace hB := Lib.hid hB
      cases Q with
      | true =>
        have hm : Hid (decide ((⟨c0, c1, c2, c3, c4⟩ : Cel) ∈ cs) = true) := by
          have := hme.out
          rw [eq_comm, decide_eq_true_eq] at this
          show _ = _
          rw [← this]; simpa using hin.out
        go_wp2_with fail
        refine wp_region_quiet_below (by kernel_rfl) (by kernel_rfl) ?_
        repeat (go_big_quiet_step (fail))
        refine wpQuiet_nil ?_
        rintro _ ⟨⟨dq, osq⟩, rfl⟩
        have hb_ := below_regrown wr dq osq
        replace HB := Lib.hid (HB.out.keep hb_)
        generalize grow (redrawn wr dq) osq = w2 at *
        clear hb_
        have hB2 := Lib.hid (bthen hbw.out HB.out)
        go_wp2
        go_ret
        exact ⟨by rw [hm.out]; rfl, hB2.out⟩
      | false =>
        have hP2 : Hid (∀ d ∈ cs.take (k + 1), d ≠ (⟨c0, c1, c2, c3, c4⟩ : Cel)) := fun d hd => by
          rw [htk.out, List.mem_append, List.mem_singleton] at hd
          rcases hd with hd | rfl
          · exact HP.out d hd
          · have := hme.out
            rw [eq_comm, decide_eq_false_iff_not] at this
            exact this
        go_wp2_with fail
        refine wp_region_quiet_below (by kernel_rfl) (by kernel_rfl) ?_
        repeat (go_big_quiet_step (fail))
        refine wpQuiet_nil ?_
        rintro _ ⟨⟨dq, osq⟩, rfl⟩
        have hb_ := below_regrown wr dq osq
        replace HB := Lib.hid (HB.out.keep hb_)
        generalize grow (redrawn wr dq) osq = w2 at *
        clear hb_
        go_wp2
        go_roundw
        case rel => exact ⟨k + 1, by omega, by go_num, hP2, HB⟩
        case measure => simp [intOf]; omega
    · obtain rfl : k = n := by omega
      have hm : Hid (decide ((⟨c0, c1, c2, c3, c4⟩ : Cel) ∈ cs) = false) := by
        have := HP.out
        rw [List.take_of_length_le (by rw [hlen.out]; exact Nat.le_refl _)] at this
        show _ = _
        rw [decide_eq_false_iff_not]
        exact fun h => this _ h rfl
      replace hB := Lib.hid hB
      go_wp2
      go_ret
      exact ⟨by rw [hm.out]; rfl, hB.out⟩
end Sw
end Go.Proofs.Ytnkgmpmedkegbaa
