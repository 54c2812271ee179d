/- Chapter 27: Consistent, Detects, Pair: the reference's. -/
import Derived.Test.YtfoffooblkofhaaGreatCx
import Derived.Test.YtfoffooblkofhaaGreatCd
import Derived.Test.YtfoffooblkofhaaGreatCe
set_option linter.unusedVariables false
set_option linter.unusedSimpArgs false
namespace Go.Proofs.YtfoffooblkofhaaGreat
open Go Go.RowKit Go.Sort Go.Shelf Go.Maps
namespace Tx
open Sw Mm Pl
set_option maxRecDepth 100000 in
set_option maxHeartbeats 4000000 in
theorem oppR_any (A B : Option Addr) (n cp m cq : Nat) (xs ys : List TCl) (w : World) (h : TclS w A n xs) (h2 : TclS w B m ys) :
    Calls Tryz.prog 32 #[.slice A n cp, .slice B m cq] w fun e w' => e = .returned (.bool (oppN xs ys)) ∧ Below w.heap.size w w' := by
  have hlen := h.len
  have hlen2 := h2.len
  have hs := h.small
  have hs2 := h2.small
  unfold maxLen at hs hs2
  by_cases hnm : n = m
  case neg =>
    have hR : oppN xs ys = false := oppN_ne (by omega)
    have d1 : ((n : Int) != (m : Int)) = true := by rw [bne_iff_ne]; omega
    rw [hR]
    replace h := Lib.hid h
    replace h2 := Lib.hid h2
    replace hlen := Lib.hid hlen
    replace hlen2 := Lib.hid hlen2
    go_enter Tryz.func32, Tryz.ntmps32
    go_wp2_with fail
    go_ret
    exact ⟨rfl, Below.refl _ _⟩
  subst hnm
  have hno := fun k (hk : k < n) => oppN_no (a := xs) (b := ys) (i := k) (by omega)
  have hyes := fun (hh : ∀ i, i < n → oppC (xs.getD i default) (ys.getD i default) = true) => oppN_yes (a := xs) (b := ys) (by omega) (fun i hi => hh i (by omega))
  generalize oppN xs ys = R at *
  replace h := Lib.hid h
  replace h2 := Lib.hid h2
  replace hlen := Lib.hid hlen
  replace hlen2 := Lib.hid hlen2
  replace hno := Lib.hid hno
  replace hyes := Lib.hid hyes
  go_enter Tryz.func32, Tryz.ntmps32
  go_wp2_with fail
  go_loopw [5] (fun i wr => ∃ k : Nat, k ≤ n ∧ i = .int .i64 k ∧ Hid (∀ j, j < k → oppC (xs.getD j default) (ys.getD j default) = true) ∧ Hid (Below w.heap.size w wr)) (fun i _ => n - (intOf i).toNat)
  case atStart => exact ⟨0, by omega, rfl, fun j hj => absurd hj (by omega), Below.refl _ _⟩
  case round =>
    obtain ⟨k, hkn, rfl, HP, HB⟩ := hrel
    by_cases hlt : k < n
    · obtain ⟨b, off, rfl⟩ := h.out.addr (by omega)
      obtain ⟨b2, off2, rfl⟩ := h2.out.addr (by omega)
      have hx := tcl_at (h.out.keep HB.out) hlt
      have hy := tcl_at (h2.out.keep HB.out) hlt
      have hf := hno.out k hlt
      have hnx : oppC (xs.getD k default) (ys.getD k default) = true → ∀ j, j < k + 1 → oppC (xs.getD j default) (ys.getD j default) = true := fun h j hj => by
        by_cases e : j = k
        · subst e; exact h
        · exact HP.out j (by omega)
      generalize xs.getD k default = x at *
      generalize ys.getD k default = y at *
      obtain ⟨x0, x1, x2, x3, x4, x5⟩ := x
      obtain ⟨y0, y1, y2, y3, y4, y5⟩ := y
      have hq : oppC ⟨x0, x1, x2, x3, x4, x5⟩ ⟨y0, y1, y2, y3, y4, y5⟩ = (decide (x0 = y0) && (decide (x1 = y1) && decide (x3 ≠ y3))) := rfl
      rw [hq] at hf hnx
      clear hq
      obtain ⟨q0, q1, q2, q3, q4, q5⟩ := hx
      obtain ⟨r0, r1, r2, r3, r4, r5⟩ := hy
      dsimp only at q0 r0 q1 r1 q3 r3
      have g0 := cell_regrown q0
      have u0 := cell_regrown r0
      have g1 := cell_regrown q1
      have u1 := cell_regrown r1
      have g3 := cell_regrown q3
      have u3 := cell_regrown r3
      have r1' : (k : Int) < (n : Int) := by omega
      have r0' : (0 : Int) ≤ (k : Int) := by omega
      clear q0 r0 q1 r1 q2 r2 q3 r3 q4 r4 q5 r5
      replace hf := Lib.hid hf
      replace hnx := Lib.hid hnx
      by_cases t0 : x0 = y0
      case neg =>
        have d0 : (x0 != y0) = true := by rw [bne_iff_ne]; exact t0
        have hh := hf.out (by simp [t0])
        subst hh
        replace t0 := Lib.hid t0
        go_wp2_with fail
        refine wp_region_quiet_below (by kernel_rfl) (by kernel_rfl) ?_
        repeat (go_big_quiet_step (fail))
        refine wpQuiet_nil ?_
        rintro _ ⟨⟨dq, osq⟩, rfl⟩
        have hb_ := below_regrown wr dq osq
        replace HB := Lib.hid (HB.out.keep hb_)
        generalize grow (redrawn wr dq) osq = w2 at *
        clear hb_
        go_wp2
        go_ret
        exact ⟨rfl, HB.out⟩
      have d0 : (x0 != y0) = false := by rw [bne_eq_false_iff_eq]; exact t0
      by_cases t1 : x1 = y1
      case neg =>
        have d1 : (x1 != y1) = true := by rw [bne_iff_ne]; exact t1
        have hh := hf.out (by simp [t1])
        subst hh
        replace t0 := Lib.hid t0
        replace t1 := Lib.hid t1
        go_wp2_with fail
        refine wp_region_quiet_below (by kernel_rfl) (by kernel_rfl) ?_
        repeat (go_big_quiet_step (fail))
        refine wpQuiet_nil ?_
        rintro _ ⟨⟨dq, osq⟩, rfl⟩
        have hb_ := below_regrown wr dq osq
        replace HB := Lib.hid (HB.out.keep hb_)
        generalize grow (redrawn wr dq) osq = w2 at *
        clear hb_
        go_wp2
        go_ret
        exact ⟨rfl, HB.out⟩
      have d1 : (x1 != y1) = false := by rw [bne_eq_false_iff_eq]; exact t1
      by_cases t3 : x3 = y3
      case pos =>
        have d3 : (x3 == y3) = true := by rw [beq_iff_eq]; exact t3
        have hh := hf.out (by simp [t3])
        subst hh
        replace t0 := Lib.hid t0
        replace t1 := Lib.hid t1
        replace t3 := Lib.hid t3
        go_wp2_with fail
        refine wp_region_quiet_below (by kernel_rfl) (by kernel_rfl) ?_
        repeat (go_big_quiet_step (fail))
        refine wpQuiet_nil ?_
        rintro _ ⟨⟨dq, osq⟩, rfl⟩
        have hb_ := below_regrown wr dq osq
        replace HB := Lib.hid (HB.out.keep hb_)
        generalize grow (redrawn wr dq) osq = w2 at *
        clear hb_
        go_wp2
        go_ret
        exact ⟨rfl, HB.out⟩
      have d3 : (x3 == y3) = false := by rw [beq_eq_false_iff_ne]; exact t3
      have hh := Lib.hid (hnx.out (by simp [t0, t1, t3]))
      replace t0 := Lib.hid t0
      replace t1 := Lib.hid t1
      replace t3 := Lib.hid t3
      go_wp2_with fail
      refine wp_region_quiet_below (by kernel_rfl) (by kernel_rfl) ?_
      repeat (go_big_quiet_step (fail))
      refine wpQuiet_nil ?_
      rintro _ ⟨⟨dq, osq⟩, rfl⟩
      have hb_ := below_regrown wr dq osq
      replace HB := Lib.hid (HB.out.keep hb_)
      generalize grow (redrawn wr dq) osq = w2 at *
      clear hb_
      go_wp2
      go_roundw
      case rel => exact ⟨k + 1, by omega, by go_num, hh, HB⟩
      case measure => simp [intOf]; omega
    · obtain rfl : k = n := by omega
      have hR := hyes.out HP.out
      subst hR
      go_wp2
      go_ret
      exact ⟨rfl, HB.out⟩
set_option maxRecDepth 100000 in
set_option maxHeartbeats 4000000 in
theorem ends_any (a b : Ed) (va vb : EdV) (w : World) (h1 : EdIs w va a) (h2 : EdIs w vb b) : Calls Tryz.prog 68 #[.agg (endA a va), .agg (endA b vb)] w fun r w' => r = .returned (.bool (pairB a b)) ∧ Below w.heap.size w w' := by
  have HM := Lib.hid (Mem.start w)
  obtain ⟨F0, hFs, hF⟩ : ∃ F : World → Prop, Stb F ∧ Hid (F w) := ⟨_, Stb.true, trivial⟩
  have uE := Tryz.underlying27
  have uT := Tryz.underlying29
  have uM := Tryz.underlying25
  have hR : pairB a b = (decide (chkE a = 0) && (decide (chkE b = 0) && (decide (a.node = b.peer) && decide (a.peer = b.node)))) := rfl
  have cA := fun W (hb : Below w.heap.size w W) => rchkE_any a va W (h1.keep hb)
  have cB := fun W (hb : Below w.heap.size w W) => rchkE_any b vb W (h2.keep hb)
  rw [rChkE_eq] at cA cB
  generalize pairB a b = R at *
  generalize chkE a = C1 at *
  generalize chkE b = C2 at *
  replace cA := Lib.hid cA
  replace cB := Lib.hid cB
  replace h1 := Lib.hid h1
  replace h2 := Lib.hid h2
  replace hR := Lib.hid hR
  replace uE := Lib.hid uE
  replace uT := Lib.hid uT
  replace uM := Lib.hid uM
  go_enter Tryz.func68, Tryz.ntmps68
  have mk1 : Unit := ()
  have mk2 : Unit := ()
  go_upto_region 1 with (first | go_skip | (clear mk1; refine wpList_boxA HM rfl 27 _ rfl _ rfl ?_; clear HM; intro ga w1 HM hG; replace hF := Lib.hid (hFs.keep hF.out hG.out); clear hG) | (clear mk2; refine wpList_boxA HM rfl 27 _ rfl _ rfl ?_; clear HM; intro gb w1 HM hG; replace hF := Lib.hid (hFs.keep hF.out hG.out); clear hG) | fail)
  have p0 : World.cell? _ ⟨ga, 0, none⟩ = some (.int .i64 a.node) := HM.out.cell 1 rfl 0
  have p1 : World.cell? _ ⟨ga, 1, none⟩ = some (.int .i64 a.peer) := HM.out.cell 1 rfl 1
  have q0 : World.cell? _ ⟨gb, 0, none⟩ = some (.int .i64 b.node) := HM.out.cell 0 rfl 0
  have q1 : World.cell? _ ⟨gb, 1, none⟩ = some (.int .i64 b.peer) := HM.out.cell 0 rfl 1
  have mkz : Unit := ()
  by_cases e1 : C1 = 0
  case neg =>
    have d1 : (C1 == 0) = false := by rw [beq_eq_false_iff_ne]; exact e1
    have hh : R = false := by rw [hR.out]; simp [e1]
    subst hh
    replace e1 := Lib.hid e1
    have mk3 : Unit := ()
    have mk4 : Unit := ()
    go_wp2_with (first | go_skip | (refine wpList_loadG 1 HM (by rfl) _ _ rfl _ rfl rfl _ uE.out rfl (by exact zend) ?_) | (refine wpList_loadG 0 HM (by rfl) _ _ rfl _ rfl rfl _ uE.out rfl (by exact zend) ?_) | (go_at_call 96; clear mk3; refine (cA.out _ HM.out.below).mono ?_; rintro r w3 ⟨rfl, hb_⟩; replace p0 := ((HM.out.keep hb_).cell 1 rfl 0).trans ((HM.out.cell 1 rfl 0).symm.trans p0); replace p1 := ((HM.out.keep hb_).cell 1 rfl 1).trans ((HM.out.cell 1 rfl 1).symm.trans p1); replace q0 := ((HM.out.keep hb_).cell 0 rfl 0).trans ((HM.out.cell 0 rfl 0).symm.trans q0); replace q1 := ((HM.out.keep hb_).cell 0 rfl 1).trans ((HM.out.cell 0 rfl 1).symm.trans q1); replace HM := Lib.hid (HM.out.keep hb_); replace hF := Lib.hid (hFs.keep hF.out hb_); clear hb_; dsimp only) | (go_at_call 96; clear mk4; refine (cB.out _ HM.out.below).mono ?_; rintro r w3 ⟨rfl, hb_⟩; replace p0 := ((HM.out.keep hb_).cell 1 rfl 0).trans ((HM.out.cell 1 rfl 0).symm.trans p0); replace p1 := ((HM.out.keep hb_).cell 1 rfl 1).trans ((HM.out.cell 1 rfl 1).symm.trans p1); replace q0 := ((HM.out.keep hb_).cell 0 rfl 0).trans ((HM.out.cell 0 rfl 0).symm.trans q0); replace q1 := ((HM.out.keep hb_).cell 0 rfl 1).trans ((HM.out.cell 0 rfl 1).symm.trans q1); replace HM := Lib.hid (HM.out.keep hb_); replace hF := Lib.hid (hFs.keep hF.out hb_); clear hb_; dsimp only) | fail)
    try simp only [Exit.inBlock, Exit.then]
    go_ret
    exact ⟨by first | rfl | trivial, HM.out.below⟩
  have d1 : (C1 == 0) = true := by rw [beq_iff_eq]; exact e1
  by_cases e2 : C2 = 0
  case neg =>
    have d2 : (C2 == 0) = false := by rw [beq_eq_false_iff_ne]; exact e2
    have hh : R = false := by rw [hR.out]; simp [e2]
    subst hh
    replace e1 := Lib.hid e1
    replace e2 := Lib.hid e2
    have mk3 : Unit := ()
    have mk4 : Unit := ()
    go_wp2_with (first | go_skip | (refine wpList_loadG 1 HM (by rfl) _ _ rfl _ rfl rfl _ uE.out rfl (by exact zend) ?_) | (refine wpList_loadG 0 HM (by rfl) _ _ rfl _ rfl rfl _ uE.out rfl (by exact zend) ?_) | (go_at_call 96; clear mk3; refine (cA.out _ HM.out.below).mono ?_; rintro r w3 ⟨rfl, hb_⟩; replace p0 := ((HM.out.keep hb_).cell 1 rfl 0).trans ((HM.out.cell 1 rfl 0).symm.trans p0); replace p1 := ((HM.out.keep hb_).cell 1 rfl 1).trans ((HM.out.cell 1 rfl 1).symm.trans p1); replace q0 := ((HM.out.keep hb_).cell 0 rfl 0).trans ((HM.out.cell 0 rfl 0).symm.trans q0); replace q1 := ((HM.out.keep hb_).cell 0 rfl 1).trans ((HM.out.cell 0 rfl 1).symm.trans q1); replace HM := Lib.hid (HM.out.keep hb_); replace hF := Lib.hid (hFs.keep hF.out hb_); clear hb_; dsimp only) | (go_at_call 96; clear mk4; refine (cB.out _ HM.out.below).mono ?_; rintro r w3 ⟨rfl, hb_⟩; replace p0 := ((HM.out.keep hb_).cell 1 rfl 0).trans ((HM.out.cell 1 rfl 0).symm.trans p0); replace p1 := ((HM.out.keep hb_).cell 1 rfl 1).trans ((HM.out.cell 1 rfl 1).symm.trans p1); replace q0 := ((HM.out.keep hb_).cell 0 rfl 0).trans ((HM.out.cell 0 rfl 0).symm.trans q0); replace q1 := ((HM.out.keep hb_).cell 0 rfl 1).trans ((HM.out.cell 0 rfl 1).symm.trans q1); replace HM := Lib.hid (HM.out.keep hb_); replace hF := Lib.hid (hFs.keep hF.out hb_); clear hb_; dsimp only) | fail)
    try simp only [Exit.inBlock, Exit.then]
    go_ret
    exact ⟨by first | rfl | trivial, HM.out.below⟩
  have d2 : (C2 == 0) = true := by rw [beq_iff_eq]; exact e2
  by_cases e3 : a.node = b.peer
  case neg =>
    have d3 : (a.node == b.peer) = false := by rw [beq_eq_false_iff_ne]; exact e3
    have hh : R = false := by rw [hR.out]; simp [e3]
    subst hh
    replace e1 := Lib.hid e1
    replace e2 := Lib.hid e2
    replace e3 := Lib.hid e3
    have mk3 : Unit := ()
    have mk4 : Unit := ()
    go_wp2_with (first | go_skip | (refine wpList_loadG 1 HM (by rfl) _ _ rfl _ rfl rfl _ uE.out rfl (by exact zend) ?_) | (refine wpList_loadG 0 HM (by rfl) _ _ rfl _ rfl rfl _ uE.out rfl (by exact zend) ?_) | (go_at_call 96; clear mk3; refine (cA.out _ HM.out.below).mono ?_; rintro r w3 ⟨rfl, hb_⟩; replace p0 := ((HM.out.keep hb_).cell 1 rfl 0).trans ((HM.out.cell 1 rfl 0).symm.trans p0); replace p1 := ((HM.out.keep hb_).cell 1 rfl 1).trans ((HM.out.cell 1 rfl 1).symm.trans p1); replace q0 := ((HM.out.keep hb_).cell 0 rfl 0).trans ((HM.out.cell 0 rfl 0).symm.trans q0); replace q1 := ((HM.out.keep hb_).cell 0 rfl 1).trans ((HM.out.cell 0 rfl 1).symm.trans q1); replace HM := Lib.hid (HM.out.keep hb_); replace hF := Lib.hid (hFs.keep hF.out hb_); clear hb_; dsimp only) | (go_at_call 96; clear mk4; refine (cB.out _ HM.out.below).mono ?_; rintro r w3 ⟨rfl, hb_⟩; replace p0 := ((HM.out.keep hb_).cell 1 rfl 0).trans ((HM.out.cell 1 rfl 0).symm.trans p0); replace p1 := ((HM.out.keep hb_).cell 1 rfl 1).trans ((HM.out.cell 1 rfl 1).symm.trans p1); replace q0 := ((HM.out.keep hb_).cell 0 rfl 0).trans ((HM.out.cell 0 rfl 0).symm.trans q0); replace q1 := ((HM.out.keep hb_).cell 0 rfl 1).trans ((HM.out.cell 0 rfl 1).symm.trans q1); replace HM := Lib.hid (HM.out.keep hb_); replace hF := Lib.hid (hFs.keep hF.out hb_); clear hb_; dsimp only) | fail)
    try simp only [Exit.inBlock, Exit.then]
    go_ret
    exact ⟨by first | rfl | trivial, HM.out.below⟩
  have d3 : (a.node == b.peer) = true := by rw [beq_iff_eq]; exact e3
  by_cases e4 : a.peer = b.node
  case neg =>
    have d4 : (a.peer == b.node) = false := by rw [beq_eq_false_iff_ne]; exact e4
    have hh : R = false := by rw [hR.out]; simp [e4]
    subst hh
    replace e1 := Lib.hid e1
    replace e2 := Lib.hid e2
    replace e3 := Lib.hid e3
    replace e4 := Lib.hid e4
    have mk3 : Unit := ()
    have mk4 : Unit := ()
    go_wp2_with (first | go_skip | (refine wpList_loadG 1 HM (by rfl) _ _ rfl _ rfl rfl _ uE.out rfl (by exact zend) ?_) | (refine wpList_loadG 0 HM (by rfl) _ _ rfl _ rfl rfl _ uE.out rfl (by exact zend) ?_) | (go_at_call 96; clear mk3; refine (cA.out _ HM.out.below).mono ?_; rintro r w3 ⟨rfl, hb_⟩; replace p0 := ((HM.out.keep hb_).cell 1 rfl 0).trans ((HM.out.cell 1 rfl 0).symm.trans p0); replace p1 := ((HM.out.keep hb_).cell 1 rfl 1).trans ((HM.out.cell 1 rfl 1).symm.trans p1); replace q0 := ((HM.out.keep hb_).cell 0 rfl 0).trans ((HM.out.cell 0 rfl 0).symm.trans q0); replace q1 := ((HM.out.keep hb_).cell 0 rfl 1).trans ((HM.out.cell 0 rfl 1).symm.trans q1); replace HM := Lib.hid (HM.out.keep hb_); replace hF := Lib.hid (hFs.keep hF.out hb_); clear hb_; dsimp only) | (go_at_call 96; clear mk4; refine (cB.out _ HM.out.below).mono ?_; rintro r w3 ⟨rfl, hb_⟩; replace p0 := ((HM.out.keep hb_).cell 1 rfl 0).trans ((HM.out.cell 1 rfl 0).symm.trans p0); replace p1 := ((HM.out.keep hb_).cell 1 rfl 1).trans ((HM.out.cell 1 rfl 1).symm.trans p1); replace q0 := ((HM.out.keep hb_).cell 0 rfl 0).trans ((HM.out.cell 0 rfl 0).symm.trans q0); replace q1 := ((HM.out.keep hb_).cell 0 rfl 1).trans ((HM.out.cell 0 rfl 1).symm.trans q1); replace HM := Lib.hid (HM.out.keep hb_); replace hF := Lib.hid (hFs.keep hF.out hb_); clear hb_; dsimp only) | fail)
    try simp only [Exit.inBlock, Exit.then]
    go_ret
    exact ⟨by first | rfl | trivial, HM.out.below⟩
  have d4 : (a.peer == b.node) = true := by rw [beq_iff_eq]; exact e4
  have hh : R = true := by rw [hR.out]; simp [e1, e2, e3, e4]
  subst hh
  replace e1 := Lib.hid e1
  replace e2 := Lib.hid e2
  replace e3 := Lib.hid e3
  replace e4 := Lib.hid e4
  have mk3 : Unit := ()
  have mk4 : Unit := ()
  go_wp2_with (first | go_skip | (refine wpList_loadG 1 HM (by rfl) _ _ rfl _ rfl rfl _ uE.out rfl (by exact zend) ?_) | (refine wpList_loadG 0 HM (by rfl) _ _ rfl _ rfl rfl _ uE.out rfl (by exact zend) ?_) | (go_at_call 96; clear mk3; refine (cA.out _ HM.out.below).mono ?_; rintro r w3 ⟨rfl, hb_⟩; replace p0 := ((HM.out.keep hb_).cell 1 rfl 0).trans ((HM.out.cell 1 rfl 0).symm.trans p0); replace p1 := ((HM.out.keep hb_).cell 1 rfl 1).trans ((HM.out.cell 1 rfl 1).symm.trans p1); replace q0 := ((HM.out.keep hb_).cell 0 rfl 0).trans ((HM.out.cell 0 rfl 0).symm.trans q0); replace q1 := ((HM.out.keep hb_).cell 0 rfl 1).trans ((HM.out.cell 0 rfl 1).symm.trans q1); replace HM := Lib.hid (HM.out.keep hb_); replace hF := Lib.hid (hFs.keep hF.out hb_); clear hb_; dsimp only) | (go_at_call 96; clear mk4; refine (cB.out _ HM.out.below).mono ?_; rintro r w3 ⟨rfl, hb_⟩; replace p0 := ((HM.out.keep hb_).cell 1 rfl 0).trans ((HM.out.cell 1 rfl 0).symm.trans p0); replace p1 := ((HM.out.keep hb_).cell 1 rfl 1).trans ((HM.out.cell 1 rfl 1).symm.trans p1); replace q0 := ((HM.out.keep hb_).cell 0 rfl 0).trans ((HM.out.cell 0 rfl 0).symm.trans q0); replace q1 := ((HM.out.keep hb_).cell 0 rfl 1).trans ((HM.out.cell 0 rfl 1).symm.trans q1); replace HM := Lib.hid (HM.out.keep hb_); replace hF := Lib.hid (hFs.keep hF.out hb_); clear hb_; dsimp only) | fail)
  try simp only [Exit.inBlock, Exit.then]
  go_ret
  exact ⟨by first | rfl | trivial, HM.out.below⟩
set_option maxRecDepth 100000 in
set_option maxHeartbeats 4000000 in
theorem consR_any (a b : Ed) (va vb : EdV) (w : World) (h1 : EdIs w va a) (h2 : EdIs w vb b) : Calls Tryz.prog 21 #[.agg (endA a va), .agg (endA b vb)] w fun r w' => r = .returned (.bool (consB a b)) ∧ Below w.heap.size w w' := by
  have HM := Lib.hid (Mem.start w)
  obtain ⟨F0, hFs, hF⟩ : ∃ F : World → Prop, Stb F ∧ Hid (F w) := ⟨_, Stb.true, trivial⟩
  have uE := Tryz.underlying27
  have uT := Tryz.underlying29
  have uM := Tryz.underlying25
  have hR : consB a b = (pairB a b && (decide (a.number = b.number) && oppN a.cells b.cells)) := rfl
  have cP := fun W (hb : Below w.heap.size w W) => ends_any a b va vb W (h1.keep hb) (h2.keep hb)
  have cO := fun W (hb : Below w.heap.size w W) => oppR_any va.cA vb.cA va.cn va.cc vb.cn vb.cc a.cells b.cells W (h1.cells.keep hb) (h2.cells.keep hb)
  generalize oppN a.cells b.cells = OB at *
  generalize consB a b = R at *
  generalize pairB a b = PB at *
  replace cP := Lib.hid cP
  replace h1 := Lib.hid h1
  replace h2 := Lib.hid h2
  replace hR := Lib.hid hR
  replace uE := Lib.hid uE
  replace uT := Lib.hid uT
  replace uM := Lib.hid uM
  replace cO := Lib.hid cO
  go_enter Tryz.func21, Tryz.ntmps21
  have mk1 : Unit := ()
  have mk2 : Unit := ()
  go_upto_region 1 with (first | go_skip | (clear mk1; refine wpList_boxA HM rfl 27 _ rfl _ rfl ?_; clear HM; intro ga w1 HM hG; replace hF := Lib.hid (hFs.keep hF.out hG.out); clear hG) | (clear mk2; refine wpList_boxA HM rfl 27 _ rfl _ rfl ?_; clear HM; intro gb w1 HM hG; replace hF := Lib.hid (hFs.keep hF.out hG.out); clear hG) | fail)
  have p2 : World.cell? _ ⟨ga, 2, none⟩ = some (.int .i64 a.number) := HM.out.cell 1 rfl 2
  have q2 : World.cell? _ ⟨gb, 2, none⟩ = some (.int .i64 b.number) := HM.out.cell 0 rfl 2
  have p3 : World.cell? _ ⟨ga, 3, none⟩ = some (.slice va.cA va.cn va.cc) := HM.out.cell 1 rfl 3
  have q3 : World.cell? _ ⟨gb, 3, none⟩ = some (.slice vb.cA vb.cn vb.cc) := HM.out.cell 0 rfl 3
  cases PB
  case false =>
    have hh : R = false := by rw [hR.out]; simp []
    subst hh
    have mk3 : Unit := ()
    have mk4 : Unit := ()
    go_wp2_with (first | go_skip | (refine wpList_loadG 1 HM (by rfl) _ _ rfl _ rfl rfl _ uE.out rfl (by exact zend) ?_) | (refine wpList_loadG 0 HM (by rfl) _ _ rfl _ rfl rfl _ uE.out rfl (by exact zend) ?_) | (go_at_call 68; clear mk3; refine (cP.out _ HM.out.below).mono ?_; rintro r w3 ⟨rfl, hb_⟩; replace p2 := ((HM.out.keep hb_).cell 1 rfl 2).trans ((HM.out.cell 1 rfl 2).symm.trans p2); replace q2 := ((HM.out.keep hb_).cell 0 rfl 2).trans ((HM.out.cell 0 rfl 2).symm.trans q2); replace p3 := ((HM.out.keep hb_).cell 1 rfl 3).trans ((HM.out.cell 1 rfl 3).symm.trans p3); replace q3 := ((HM.out.keep hb_).cell 0 rfl 3).trans ((HM.out.cell 0 rfl 3).symm.trans q3); replace HM := Lib.hid (HM.out.keep hb_); replace hF := Lib.hid (hFs.keep hF.out hb_); clear hb_; dsimp only) | (go_at_call 32; clear mk4; refine (cO.out _ HM.out.below).mono ?_; rintro r w3 ⟨rfl, hb_⟩; clear p2 q2 p3 q3; replace HM := Lib.hid (HM.out.keep hb_); replace hF := Lib.hid (hFs.keep hF.out hb_); clear hb_; dsimp only) | fail)
    try simp only [Exit.inBlock, Exit.then]
    go_ret
    exact ⟨by first | rfl | trivial, HM.out.below⟩
  by_cases e2 : a.number = b.number
  case neg =>
    have d2 : (a.number == b.number) = false := by rw [beq_eq_false_iff_ne]; exact e2
    have hh : R = false := by rw [hR.out]; simp [e2]
    subst hh
    replace e2 := Lib.hid e2
    have mk3 : Unit := ()
    have mk4 : Unit := ()
    go_wp2_with (first | go_skip | (refine wpList_loadG 1 HM (by rfl) _ _ rfl _ rfl rfl _ uE.out rfl (by exact zend) ?_) | (refine wpList_loadG 0 HM (by rfl) _ _ rfl _ rfl rfl _ uE.out rfl (by exact zend) ?_) | (go_at_call 68; clear mk3; refine (cP.out _ HM.out.below).mono ?_; rintro r w3 ⟨rfl, hb_⟩; replace p2 := ((HM.out.keep hb_).cell 1 rfl 2).trans ((HM.out.cell 1 rfl 2).symm.trans p2); replace q2 := ((HM.out.keep hb_).cell 0 rfl 2).trans ((HM.out.cell 0 rfl 2).symm.trans q2); replace p3 := ((HM.out.keep hb_).cell 1 rfl 3).trans ((HM.out.cell 1 rfl 3).symm.trans p3); replace q3 := ((HM.out.keep hb_).cell 0 rfl 3).trans ((HM.out.cell 0 rfl 3).symm.trans q3); replace HM := Lib.hid (HM.out.keep hb_); replace hF := Lib.hid (hFs.keep hF.out hb_); clear hb_; dsimp only) | (go_at_call 32; clear mk4; refine (cO.out _ HM.out.below).mono ?_; rintro r w3 ⟨rfl, hb_⟩; clear p2 q2 p3 q3; replace HM := Lib.hid (HM.out.keep hb_); replace hF := Lib.hid (hFs.keep hF.out hb_); clear hb_; dsimp only) | fail)
    try simp only [Exit.inBlock, Exit.then]
    go_ret
    exact ⟨by first | rfl | trivial, HM.out.below⟩
  have d2 : (a.number == b.number) = true := by rw [beq_iff_eq]; exact e2
  have hh : R = OB := by rw [hR.out]; simp [e2]
  subst hh
  replace e2 := Lib.hid e2
  have mk3 : Unit := ()
  have mk4 : Unit := ()
  go_wp2_with (first | go_skip | (refine wpList_loadG 1 HM (by rfl) _ _ rfl _ rfl rfl _ uE.out rfl (by exact zend) ?_) | (refine wpList_loadG 0 HM (by rfl) _ _ rfl _ rfl rfl _ uE.out rfl (by exact zend) ?_) | (go_at_call 68; clear mk3; refine (cP.out _ HM.out.below).mono ?_; rintro r w3 ⟨rfl, hb_⟩; replace p2 := ((HM.out.keep hb_).cell 1 rfl 2).trans ((HM.out.cell 1 rfl 2).symm.trans p2); replace q2 := ((HM.out.keep hb_).cell 0 rfl 2).trans ((HM.out.cell 0 rfl 2).symm.trans q2); replace p3 := ((HM.out.keep hb_).cell 1 rfl 3).trans ((HM.out.cell 1 rfl 3).symm.trans p3); replace q3 := ((HM.out.keep hb_).cell 0 rfl 3).trans ((HM.out.cell 0 rfl 3).symm.trans q3); replace HM := Lib.hid (HM.out.keep hb_); replace hF := Lib.hid (hFs.keep hF.out hb_); clear hb_; dsimp only) | (go_at_call 32; clear mk4; refine (cO.out _ HM.out.below).mono ?_; rintro r w3 ⟨rfl, hb_⟩; clear p2 q2 p3 q3; replace HM := Lib.hid (HM.out.keep hb_); replace hF := Lib.hid (hFs.keep hF.out hb_); clear hb_; dsimp only) | fail)
  try simp only [Exit.inBlock, Exit.then]
  go_ret
  exact ⟨by first | rfl | trivial, HM.out.below⟩
set_option maxRecDepth 100000 in
set_option maxHeartbeats 4000000 in
theorem detR_any (a b : Ed) (va vb : EdV) (w : World) (h1 : EdIs w va a) (h2 : EdIs w vb b) : Calls Tryz.prog 23 #[.agg (endA a va), .agg (endA b vb)] w fun r w' => r = .returned (.bool (detB a b)) ∧ Below w.heap.size w w' := by
  have HM := Lib.hid (Mem.start w)
  obtain ⟨F0, hFs, hF⟩ : ∃ F : World → Prop, Stb F ∧ Hid (F w) := ⟨_, Stb.true, trivial⟩
  have uE := Tryz.underlying27
  have uT := Tryz.underlying29
  have uM := Tryz.underlying25
  have hR : detB a b = (pairB a b && !decide (a.number = b.number)) := rfl
  have cP := fun W (hb : Below w.heap.size w W) => ends_any a b va vb W (h1.keep hb) (h2.keep hb)
  generalize detB a b = R at *
  generalize pairB a b = PB at *
  replace cP := Lib.hid cP
  replace h1 := Lib.hid h1
  replace h2 := Lib.hid h2
  replace hR := Lib.hid hR
  replace uE := Lib.hid uE
  replace uT := Lib.hid uT
  replace uM := Lib.hid uM
  go_enter Tryz.func23, Tryz.ntmps23
  have mk1 : Unit := ()
  have mk2 : Unit := ()
  go_upto_region 1 with (first | go_skip | (clear mk1; refine wpList_boxA HM rfl 27 _ rfl _ rfl ?_; clear HM; intro ga w1 HM hG; replace hF := Lib.hid (hFs.keep hF.out hG.out); clear hG) | (clear mk2; refine wpList_boxA HM rfl 27 _ rfl _ rfl ?_; clear HM; intro gb w1 HM hG; replace hF := Lib.hid (hFs.keep hF.out hG.out); clear hG) | fail)
  have p2 : World.cell? _ ⟨ga, 2, none⟩ = some (.int .i64 a.number) := HM.out.cell 1 rfl 2
  have q2 : World.cell? _ ⟨gb, 2, none⟩ = some (.int .i64 b.number) := HM.out.cell 0 rfl 2
  cases PB
  case false =>
    have hh : R = false := by rw [hR.out]; simp []
    subst hh
    have mk3 : Unit := ()
    go_wp2_with (first | go_skip | (refine wpList_loadG 1 HM (by rfl) _ _ rfl _ rfl rfl _ uE.out rfl (by exact zend) ?_) | (refine wpList_loadG 0 HM (by rfl) _ _ rfl _ rfl rfl _ uE.out rfl (by exact zend) ?_) | (go_at_call 68; clear mk3; refine (cP.out _ HM.out.below).mono ?_; rintro r w3 ⟨rfl, hb_⟩; replace p2 := ((HM.out.keep hb_).cell 1 rfl 2).trans ((HM.out.cell 1 rfl 2).symm.trans p2); replace q2 := ((HM.out.keep hb_).cell 0 rfl 2).trans ((HM.out.cell 0 rfl 2).symm.trans q2); replace HM := Lib.hid (HM.out.keep hb_); replace hF := Lib.hid (hFs.keep hF.out hb_); clear hb_; dsimp only) | fail)
    try simp only [Exit.inBlock, Exit.then]
    go_ret
    exact ⟨by first | rfl | trivial, HM.out.below⟩
  by_cases e2 : a.number = b.number
  case pos =>
    have d2 : (a.number != b.number) = false := by rw [bne_eq_false_iff_eq]; exact e2
    have hh : R = false := by rw [hR.out]; simp [e2]
    subst hh
    replace e2 := Lib.hid e2
    have mk3 : Unit := ()
    go_wp2_with (first | go_skip | (refine wpList_loadG 1 HM (by rfl) _ _ rfl _ rfl rfl _ uE.out rfl (by exact zend) ?_) | (refine wpList_loadG 0 HM (by rfl) _ _ rfl _ rfl rfl _ uE.out rfl (by exact zend) ?_) | (go_at_call 68; clear mk3; refine (cP.out _ HM.out.below).mono ?_; rintro r w3 ⟨rfl, hb_⟩; replace p2 := ((HM.out.keep hb_).cell 1 rfl 2).trans ((HM.out.cell 1 rfl 2).symm.trans p2); replace q2 := ((HM.out.keep hb_).cell 0 rfl 2).trans ((HM.out.cell 0 rfl 2).symm.trans q2); replace HM := Lib.hid (HM.out.keep hb_); replace hF := Lib.hid (hFs.keep hF.out hb_); clear hb_; dsimp only) | fail)
    try simp only [Exit.inBlock, Exit.then]
    go_ret
    exact ⟨by first | rfl | trivial, HM.out.below⟩
  have d2 : (a.number != b.number) = true := by rw [bne_iff_ne]; exact e2
  have hh : R = true := by rw [hR.out]; simp [e2]
  subst hh
  replace e2 := Lib.hid e2
  have mk3 : Unit := ()
  go_wp2_with (first | go_skip | (refine wpList_loadG 1 HM (by rfl) _ _ rfl _ rfl rfl _ uE.out rfl (by exact zend) ?_) | (refine wpList_loadG 0 HM (by rfl) _ _ rfl _ rfl rfl _ uE.out rfl (by exact zend) ?_) | (go_at_call 68; clear mk3; refine (cP.out _ HM.out.below).mono ?_; rintro r w3 ⟨rfl, hb_⟩; replace p2 := ((HM.out.keep hb_).cell 1 rfl 2).trans ((HM.out.cell 1 rfl 2).symm.trans p2); replace q2 := ((HM.out.keep hb_).cell 0 rfl 2).trans ((HM.out.cell 0 rfl 2).symm.trans q2); replace HM := Lib.hid (HM.out.keep hb_); replace hF := Lib.hid (hFs.keep hF.out hb_); clear hb_; dsimp only) | fail)
  try simp only [Exit.inBlock, Exit.then]
  go_ret
  exact ⟨by first | rfl | trivial, HM.out.below⟩
set_option maxRecDepth 100000 in
set_option maxHeartbeats 4000000 in
theorem pairR_any (a b : Ed) (ta tb : Tab) (va vb : EdV) (vta vtb : TabV) (w : World) (h1 : EdIs w va a) (h2 : EdIs w vb b) (t1 : TabIs w vta ta) (t2 : TabIs w vtb tb) : Calls Tryz.prog 30 #[.agg (endA a va), .agg (endA b vb), .agg (tabA ta vta), .agg (tabA tb vtb)] w fun r w' => r = .returned (.bool (idleB a b ta tb)) ∧ Below w.heap.size w w' := by
  have HM := Lib.hid (Mem.start w)
  obtain ⟨F0, hFs, hF⟩ : ∃ F : World → Prop, Stb F ∧ Hid (F w) := ⟨_, Stb.true, trivial⟩
  have uE := Tryz.underlying27
  have uT := Tryz.underlying29
  have uM := Tryz.underlying25
  have hR : idleB a b ta tb = (pairB a b && (decide (ta.length = tb.length) && (decide (fullC ta a = 0) && decide (fullC tb b = 0)))) := rfl
  have cP := fun W (hb : Below w.heap.size w W) => ends_any a b va vb W (h1.keep hb) (h2.keep hb)
  have cF := fun W (hb : Below w.heap.size w W) => rfull_any ta a vta va W (t1.keep hb) (h1.keep hb)
  have cG := fun W (hb : Below w.heap.size w W) => rfull_any tb b vtb vb W (t2.keep hb) (h2.keep hb)
  unfold FullPost at cF cG
  generalize idleB a b ta tb = R at *
  generalize pairB a b = PB at *
  generalize fullC ta a = C1 at *
  generalize fullC tb b = C2 at *
  generalize fullN ta a = FU1 at *
  generalize fullN tb b = FU2 at *
  replace cP := Lib.hid cP
  replace cF := Lib.hid cF
  replace cG := Lib.hid cG
  replace h1 := Lib.hid h1
  replace h2 := Lib.hid h2
  replace t1 := Lib.hid t1
  replace t2 := Lib.hid t2
  replace hR := Lib.hid hR
  replace uE := Lib.hid uE
  replace uT := Lib.hid uT
  replace uM := Lib.hid uM
  go_enter Tryz.func30, Tryz.ntmps30
  have mk1 : Unit := ()
  have mk2 : Unit := ()
  have mk3 : Unit := ()
  have mk4 : Unit := ()
  go_upto_region 1 with (first | go_skip | (clear mk1; refine wpList_boxA HM rfl 27 _ rfl _ rfl ?_; clear HM; intro ga w1 HM hG; replace hF := Lib.hid (hFs.keep hF.out hG.out); clear hG) | (clear mk2; refine wpList_boxA HM rfl 27 _ rfl _ rfl ?_; clear HM; intro gb w1 HM hG; replace hF := Lib.hid (hFs.keep hF.out hG.out); clear hG) | (clear mk3; refine wpList_boxA HM rfl 29 _ rfl _ rfl ?_; clear HM; intro ta_ w1 HM hG; replace hF := Lib.hid (hFs.keep hF.out hG.out); clear hG) | (clear mk4; refine wpList_boxA HM rfl 29 _ rfl _ rfl ?_; clear HM; intro tb_ w1 HM hG; replace hF := Lib.hid (hFs.keep hF.out hG.out); clear hG) | fail)
  have p1 : World.cell? _ ⟨ta_, 1, none⟩ = some (.int .i64 ta.length) := HM.out.cell 1 rfl 1
  have q1 : World.cell? _ ⟨tb_, 1, none⟩ = some (.int .i64 tb.length) := HM.out.cell 0 rfl 1
  cases PB
  case false =>
    have hh : R = false := by rw [hR.out]; simp []
    subst hh
    have mk5 : Unit := ()
    go_wp2_with (first | go_skip | (refine wpList_loadG 3 HM (by rfl) _ _ rfl _ rfl rfl _ uE.out rfl (by exact zend) ?_) | (refine wpList_loadG 2 HM (by rfl) _ _ rfl _ rfl rfl _ uE.out rfl (by exact zend) ?_) | (go_at_call 68; clear mk5; refine (cP.out _ HM.out.below).mono ?_; rintro r w3 ⟨rfl, hb_⟩; replace p1 := ((HM.out.keep hb_).cell 1 rfl 1).trans ((HM.out.cell 1 rfl 1).symm.trans p1); replace q1 := ((HM.out.keep hb_).cell 0 rfl 1).trans ((HM.out.cell 0 rfl 1).symm.trans q1); replace HM := Lib.hid (HM.out.keep hb_); replace hF := Lib.hid (hFs.keep hF.out hb_); clear hb_; dsimp only) | fail)
    try simp only [Exit.inBlock, Exit.then]
    go_ret
    exact ⟨by first | rfl | trivial, HM.out.below⟩
  by_cases e2 : ta.length = tb.length
  case neg =>
    have d2 : (ta.length != tb.length) = true := by rw [bne_iff_ne]; exact e2
    have hh : R = false := by rw [hR.out]; simp [e2]
    subst hh
    replace e2 := Lib.hid e2
    have mk5 : Unit := ()
    go_wp2_with (first | go_skip | (refine wpList_loadG 3 HM (by rfl) _ _ rfl _ rfl rfl _ uE.out rfl (by exact zend) ?_) | (refine wpList_loadG 2 HM (by rfl) _ _ rfl _ rfl rfl _ uE.out rfl (by exact zend) ?_) | (go_at_call 68; clear mk5; refine (cP.out _ HM.out.below).mono ?_; rintro r w3 ⟨rfl, hb_⟩; replace p1 := ((HM.out.keep hb_).cell 1 rfl 1).trans ((HM.out.cell 1 rfl 1).symm.trans p1); replace q1 := ((HM.out.keep hb_).cell 0 rfl 1).trans ((HM.out.cell 0 rfl 1).symm.trans q1); replace HM := Lib.hid (HM.out.keep hb_); replace hF := Lib.hid (hFs.keep hF.out hb_); clear hb_; dsimp only) | fail)
    try simp only [Exit.inBlock, Exit.then]
    go_ret
    exact ⟨by first | rfl | trivial, HM.out.below⟩
  have d2 : (ta.length != tb.length) = false := by rw [bne_eq_false_iff_eq]; exact e2
  have mk5 : Unit := ()
  go_upto_region 3 with (first | go_skip | (refine wpList_loadG 3 HM (by rfl) _ _ rfl _ rfl rfl _ uE.out rfl (by exact zend) ?_) | (refine wpList_loadG 2 HM (by rfl) _ _ rfl _ rfl rfl _ uE.out rfl (by exact zend) ?_) | (go_at_call 68; clear mk5; refine (cP.out _ HM.out.below).mono ?_; rintro r w3 ⟨rfl, hb_⟩; replace p1 := ((HM.out.keep hb_).cell 1 rfl 1).trans ((HM.out.cell 1 rfl 1).symm.trans p1); replace q1 := ((HM.out.keep hb_).cell 0 rfl 1).trans ((HM.out.cell 0 rfl 1).symm.trans q1); replace HM := Lib.hid (HM.out.keep hb_); replace hF := Lib.hid (hFs.keep hF.out hb_); clear hb_; dsimp only) | fail)
  clear p1 q1 cP
  have mk6 : Unit := ()
  have mk7 : Unit := ()
  go_upto_region 4 with (first | go_skip | (refine wpList_loadG 1 HM (by rfl) _ _ rfl _ rfl rfl _ uT.out rfl (by exact ztab) ?_) | (refine wpList_loadG 3 HM (by rfl) _ _ rfl _ rfl rfl _ uE.out rfl (by exact zend) ?_) | (go_at_call 52; clear mk6; refine (cF.out _ HM.out.below).mono ?_; rintro r w3 ⟨v1, rfl, hT1, hb_⟩; replace HM := Lib.hid (HM.out.keep hb_); replace hF := Lib.hid (hFs.keep hF.out hb_); clear hb_; dsimp only) | (clear mk7; refine wpList_allocN HM rfl 29 rfl tabInfo ?_; clear HM; intro g9 w1 HM hG hN9; replace hF := Lib.hid (hFs.keep hF.out hG.out); clear hG hN9) | (refine wpList_storeF 0 HM rfl _ _ _ rfl _ rfl rfl _ rfl (by exact ztab) (by rfl) (by rfl) ?_; have hBq := HM.out.at_ 0 rfl; clear HM; intro w4 HM hG4; simp only [List.set] at HM; replace hF := Lib.hid (hFs.put hF.out hBq (by decide) (by decide) hG4.out); clear hBq hG4) | fail)
  clear hT1 cF
  have mk8 : Unit := ()
  have mk9 : Unit := ()
  go_upto_region 5 with (first | go_skip | (refine wpList_loadG 1 HM (by rfl) _ _ rfl _ rfl rfl _ uT.out rfl (by exact ztab) ?_) | (refine wpList_loadG 3 HM (by rfl) _ _ rfl _ rfl rfl _ uE.out rfl (by exact zend) ?_) | (go_at_call 52; clear mk8; refine (cG.out _ HM.out.below).mono ?_; rintro r w3 ⟨v2, rfl, hT2, hb_⟩; replace HM := Lib.hid (HM.out.keep hb_); replace hF := Lib.hid (hFs.keep hF.out hb_); clear hb_; dsimp only) | (clear mk9; refine wpList_allocN HM rfl 29 rfl tabInfo ?_; clear HM; intro g11 w1 HM hG hN9; replace hF := Lib.hid (hFs.keep hF.out hG.out); clear hG hN9) | (refine wpList_storeF 0 HM rfl _ _ _ rfl _ rfl rfl _ rfl (by exact ztab) (by rfl) (by rfl) ?_; have hBq := HM.out.at_ 0 rfl; clear HM; intro w4 HM hG4; simp only [List.set] at HM; replace hF := Lib.hid (hFs.put hF.out hBq (by decide) (by decide) hG4.out); clear hBq hG4) | fail)
  clear hT2 cG
  by_cases e3 : C1 = 0
  case neg =>
    have d3 : (C1 == 0) = false := by rw [beq_eq_false_iff_ne]; exact e3
    have hh : R = false := by rw [hR.out]; simp [e3]
    subst hh
    replace e2 := Lib.hid e2
    replace e3 := Lib.hid e3
    go_wp2_with fail
    try simp only [Exit.inBlock, Exit.then]
    go_ret
    exact ⟨by first | rfl | trivial, HM.out.below⟩
  have d3 : (C1 == 0) = true := by rw [beq_iff_eq]; exact e3
  by_cases e4 : C2 = 0
  case neg =>
    have d4 : (C2 == 0) = false := by rw [beq_eq_false_iff_ne]; exact e4
    have hh : R = false := by rw [hR.out]; simp [e4]
    subst hh
    replace e2 := Lib.hid e2
    replace e3 := Lib.hid e3
    replace e4 := Lib.hid e4
    go_wp2_with fail
    try simp only [Exit.inBlock, Exit.then]
    go_ret
    exact ⟨by first | rfl | trivial, HM.out.below⟩
  have d4 : (C2 == 0) = true := by rw [beq_iff_eq]; exact e4
  have hh : R = true := by rw [hR.out]; simp [e2, e3, e4]
  subst hh
  replace e2 := Lib.hid e2
  replace e3 := Lib.hid e3
  replace e4 := Lib.hid e4
  go_wp2_with fail
  try simp only [Exit.inBlock, Exit.then]
  go_ret
  exact ⟨by first | rfl | trivial, HM.out.below⟩
end Tx
end Go.Proofs.YtfoffooblkofhaaGreat
