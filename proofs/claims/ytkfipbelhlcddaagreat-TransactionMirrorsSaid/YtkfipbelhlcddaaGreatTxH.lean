/- Chapters 16, 25: small functions of the references. -/
import Derived.Test.YtkfipbelhlcddaaGreatTxF
set_option linter.unusedVariables false
set_option linter.unusedSimpArgs false
namespace Go.Proofs.YtkfipbelhlcddaaGreat
open Go Go.RowKit Go.Sort Go.Lib Go.Shelf Go.Maps
namespace Tx
open Sw Mm
theorem ltT_split (a b : TCl) : decide (ltT a b) = (decide (a.slot < b.slot) || (decide (a.slot = b.slot) && decide (a.kind < b.kind))) := by
  rw [Bool.eq_iff_iff, decide_eq_true_iff]
  unfold ltT
  simp
theorem less_any (a b : TCl) (w : World) : Calls Tryz.prog 132 #[.agg #[.int .i64 a.slot, .int .i64 a.off, .int .i64 a.kind, .bool a.send, .int .i64 a.peer, .int .i64 a.flow], .agg #[.int .i64 b.slot, .int .i64 b.off, .int .i64 b.kind, .bool b.send, .int .i64 b.peer, .int .i64 b.flow]] w fun e w' => e = .returned (.bool (decide (ltT a b))) ∧ Below w.heap.size w w' := by
  have HM := Lib.hid (Mem.start w)
  have hR := ltT_split a b
  generalize decide (ltT a b) = R at *
  obtain ⟨a0, a1, a2, a3, a4, a5⟩ := a
  obtain ⟨b0, b1, b2, b3, b4, b5⟩ := b
  dsimp only at *
  subst hR
  go_enter Tryz.func132, Tryz.ntmps132
  go_upto_region 1 with (refine wpList_boxA HM rfl _ _ rfl _ rfl ?_; clear HM; intro g w1 HM hG; clear hG)
  have kb := HM.out.cell 0 rfl
  have ka := HM.out.cell 1 rfl
  go_wp2
  all_goals
    go_ret
    exact ⟨by first | (simp [*]; done) | (simp [*]; omega) | (simp [*, intB]; done) | (simp [*, intB]; omega) | (simp [*, bne, intB]; done), HM.out.below⟩

set_option maxRecDepth 100000 in
set_option maxHeartbeats 2000000 in
theorem sameT_any (A B : Option Addr) (n cp m cq : Nat) (xs ys : List TCl) (w : World) (h : TclS w A n xs) (h2 : TclS w B m ys) :
    Calls Tryz.prog 65 #[.slice A n cp, .slice B m cq] w fun e w' => e = .returned (.bool (decide (xs = ys))) ∧ Below w.heap.size w w' := by
  have hlen := h.len
  have hlen2 := h2.len
  have hs := h.small
  unfold maxLen at hs
  have hne : n ≠ m → decide (xs = ys) = false := fun e => decide_eq_false fun h => e (by rw [← hlen, ← hlen2, h])
  have hhit : ∀ k, eqT (xs.getD k default) (ys.getD k default) = false → decide (xs = ys) = false := fun k e => decide_eq_false fun h => by
    rw [h] at e; unfold eqT at e; simp at e
  have hall : n = m → (∀ k, k < n → eqT (xs.getD k default) (ys.getD k default) = true) → decide (xs = ys) = true := fun e h => decide_eq_true (list_eq_getD hlen (by omega) fun j hj => by
    have := h j hj; unfold eqT at this; simpa using this)
  generalize decide (xs = ys) = R at *
  have ke := fun a b W => neq_tcl a b W
  generalize eqT = E at *
  replace h := Lib.hid h
  replace h2 := Lib.hid h2
  replace hlen := Lib.hid hlen
  replace hlen2 := Lib.hid hlen2
  replace hne := Lib.hid hne
  replace hhit := Lib.hid hhit
  replace hall := Lib.hid hall
  replace ke := Lib.hid ke
  go_enter Tryz.func65, Tryz.ntmps65
  by_cases hnm : n = m
  case neg =>
    have d1 : ((n : Int) != (m : Int)) = true := by rw [bne_iff_ne]; omega
    have hR := Lib.hid (hne.out hnm)
    go_wp2
    all_goals
      go_ret
      exact ⟨by rw [hR.out]; rfl, Below.refl _ _⟩
  subst hnm
  go_wp2_with fail
  go_loopw [5] (fun i wr => ∃ k : Nat, k ≤ n ∧ i = .int .i64 k ∧ Hid (∀ j, j < k → E (xs.getD j default) (ys.getD j default) = true) ∧ Hid (Below w.heap.size w wr)) (fun i _ => n - (intOf i).toNat)
  case atStart => exact ⟨0, by omega, rfl, fun j hj => by omega, Below.refl _ _⟩
  case round =>
    obtain ⟨k, hk, rfl, HP, HB⟩ := hrel
    by_cases hlt : k < n
    · obtain ⟨b, off, rfl⟩ := h.out.addr (by omega)
      obtain ⟨b2, off2, rfl⟩ := h2.out.addr (by omega)
      have hx := tcl_at (h.out.keep HB.out) hlt
      have hy := tcl_at (h2.out.keep HB.out) hlt
      have kx := ke.out (xs.getD k default) (ys.getD k default)
      have hh := hhit.out k
      have hnx : E (xs.getD k default) (ys.getD k default) = true → ∀ j, j < k + 1 → E (xs.getD j default) (ys.getD j default) = true := fun h j hj => by
        by_cases e : j = k
        · subst e; exact h
        · exact HP.out j (by omega)
      generalize E (xs.getD k default) (ys.getD k default) = Q at *
      generalize xs.getD k default = x at *
      generalize ys.getD k default = y at *
      obtain ⟨x0, x1, x2, x3, x4, x5⟩ := x
      obtain ⟨y0, y1, y2, y3, y4, y5⟩ := y
      obtain ⟨q0, q1, q2, q3, q4, q5⟩ := hx
      obtain ⟨r0, r1, r2, r3, r4, r5⟩ := hy
      dsimp only at q0 r0 q1 r1 q2 r2 q3 r3 q4 r4 q5 r5 kx
      have g0 := cell_regrown q0
      have u0 := cell_regrown r0
      have g1 := cell_regrown q1
      have u1 := cell_regrown r1
      have g2 := cell_regrown q2
      have u2 := cell_regrown r2
      have g3 := cell_regrown q3
      have u3 := cell_regrown r3
      have g4 := cell_regrown q4
      have u4 := cell_regrown r4
      have g5 := cell_regrown q5
      have u5 := cell_regrown r5
      have r1 : (k : Int) < (n : Int) := by omega
      clear q0 r0 q1 r1 q2 r2 q3 r3 q4 r4 q5 r5
      replace hh := Lib.hid hh
      replace hnx := Lib.hid hnx
      cases Q with
      | false =>
        have hR := Lib.hid (hh.out rfl)
        go_wp2_with fail
        refine wp_region_quiet_below (by kernel_rfl) (by kernel_rfl) ?_
        repeat (go_big_quiet_step (fail))
        refine wpQuiet_nil ?_
        rintro _ ⟨⟨dq, osq⟩, rfl⟩
        have hb_ := below_regrown wr dq osq
        replace HB := Lib.hid (HB.out.keep hb_)
        generalize grow (redrawn wr dq) osq = w2 at *
        clear hb_
        go_wp2
        go_ret
        exact ⟨by rw [hR.out]; rfl, HB.out⟩
      | true =>
        have hP2 := Lib.hid (hnx.out rfl)
        go_wp2_with fail
        refine wp_region_quiet_below (by kernel_rfl) (by kernel_rfl) ?_
        repeat (go_big_quiet_step (fail))
        refine wpQuiet_nil ?_
        rintro _ ⟨⟨dq, osq⟩, rfl⟩
        have hb_ := below_regrown wr dq osq
        replace HB := Lib.hid (HB.out.keep hb_)
        generalize grow (redrawn wr dq) osq = w2 at *
        clear hb_
        go_wp2
        go_roundw
        case rel => exact ⟨k + 1, by omega, by go_num, hP2, HB⟩
        case measure => simp [intOf]; omega
    · obtain rfl : k = n := by omega
      have hR := Lib.hid (hall.out (by first | rfl | trivial) HP.out)
      go_wp2
      go_ret
      exact ⟨by rw [hR.out]; rfl, HB.out⟩

set_option maxRecDepth 100000 in
set_option maxHeartbeats 2000000 in
theorem upTo_any (A B : Option Addr) (n cp m cq : Nat) (xs ys : List Spt) (w : World) (h : SptS w A n xs) (h2 : SptS w B m ys) (hnm : n = m) :
    Calls Tryz.prog 112 #[.slice A n cp, .slice B m cq] w fun e w' => e = .returned (.bool (decide (xs = ys))) ∧ Below w.heap.size w w' := by
  have hlen := h.len
  have hlen2 := h2.len
  have hs := h.small
  unfold maxLen at hs
  have hne : n ≠ m → decide (xs = ys) = false := fun e => decide_eq_false fun h => e (by rw [← hlen, ← hlen2, h])
  have hhit : ∀ k, eqS (xs.getD k default) (ys.getD k default) = false → decide (xs = ys) = false := fun k e => decide_eq_false fun h => by
    rw [h] at e; unfold eqS at e; simp at e
  have hall : n = m → (∀ k, k < n → eqS (xs.getD k default) (ys.getD k default) = true) → decide (xs = ys) = true := fun e h => decide_eq_true (list_eq_getD hlen (by omega) fun j hj => by
    have := h j hj; unfold eqS at this; simpa using this)
  generalize decide (xs = ys) = R at *
  have ke := fun a b W => neq_spt a b W
  generalize eqS = E at *
  replace h := Lib.hid h
  replace h2 := Lib.hid h2
  replace hlen := Lib.hid hlen
  replace hlen2 := Lib.hid hlen2
  replace hne := Lib.hid hne
  replace hhit := Lib.hid hhit
  replace hall := Lib.hid hall
  replace ke := Lib.hid ke
  go_enter Tryz.func112, Tryz.ntmps112
  subst hnm
  go_wp2_with fail
  go_loopw [5] (fun i wr => ∃ k : Nat, k ≤ n ∧ i = .int .i64 k ∧ Hid (∀ j, j < k → E (xs.getD j default) (ys.getD j default) = true) ∧ Hid (Below w.heap.size w wr)) (fun i _ => n - (intOf i).toNat)
  case atStart => exact ⟨0, by omega, rfl, fun j hj => by omega, Below.refl _ _⟩
  case round =>
    obtain ⟨k, hk, rfl, HP, HB⟩ := hrel
    by_cases hlt : k < n
    · obtain ⟨b, off, rfl⟩ := h.out.addr (by omega)
      obtain ⟨b2, off2, rfl⟩ := h2.out.addr (by omega)
      have hx := spt_at (h.out.keep HB.out) hlt
      have hy := spt_at (h2.out.keep HB.out) hlt
      have kx := ke.out (xs.getD k default) (ys.getD k default)
      have hh := hhit.out k
      have hnx : E (xs.getD k default) (ys.getD k default) = true → ∀ j, j < k + 1 → E (xs.getD j default) (ys.getD j default) = true := fun h j hj => by
        by_cases e : j = k
        · subst e; exact h
        · exact HP.out j (by omega)
      generalize E (xs.getD k default) (ys.getD k default) = Q at *
      generalize xs.getD k default = x at *
      generalize ys.getD k default = y at *
      obtain ⟨x0, x1⟩ := x
      obtain ⟨y0, y1⟩ := y
      obtain ⟨q0, q1⟩ := hx
      obtain ⟨r0, r1⟩ := hy
      dsimp only at q0 r0 q1 r1 kx
      have g0 := cell_regrown q0
      have u0 := cell_regrown r0
      have g1 := cell_regrown q1
      have u1 := cell_regrown r1
      have r1 : (k : Int) < (n : Int) := by omega
      clear q0 r0 q1 r1
      replace hh := Lib.hid hh
      replace hnx := Lib.hid hnx
      cases Q with
      | false =>
        have hR := Lib.hid (hh.out rfl)
        go_wp2_with fail
        refine wp_region_quiet_below (by kernel_rfl) (by kernel_rfl) ?_
        repeat (go_big_quiet_step (fail))
        refine wpQuiet_nil ?_
        rintro _ ⟨⟨dq, osq⟩, rfl⟩
        have hb_ := below_regrown wr dq osq
        replace HB := Lib.hid (HB.out.keep hb_)
        generalize grow (redrawn wr dq) osq = w2 at *
        clear hb_
        go_wp2
        go_ret
        exact ⟨by rw [hR.out]; rfl, HB.out⟩
      | true =>
        have hP2 := Lib.hid (hnx.out rfl)
        go_wp2_with fail
        refine wp_region_quiet_below (by kernel_rfl) (by kernel_rfl) ?_
        repeat (go_big_quiet_step (fail))
        refine wpQuiet_nil ?_
        rintro _ ⟨⟨dq, osq⟩, rfl⟩
        have hb_ := below_regrown wr dq osq
        replace HB := Lib.hid (HB.out.keep hb_)
        generalize grow (redrawn wr dq) osq = w2 at *
        clear hb_
        go_wp2
        go_roundw
        case rel => exact ⟨k + 1, by omega, by go_num, hP2, HB⟩
        case measure => simp [intOf]; omega
    · obtain rfl : k = n := by omega
      have hR := Lib.hid (hall.out (by first | rfl | trivial) HP.out)
      go_wp2
      go_ret
      exact ⟨by rw [hR.out]; rfl, HB.out⟩

theorem sameS_any (A B : Option Addr) (n cp m cq : Nat) (xs ys : List Spt) (w : World) (h : SptS w A n xs) (h2 : SptS w B m ys) :
    Calls Tryz.prog 66 #[.slice A n cp, .slice B m cq] w fun e w' => e = .returned (.bool (decide (xs = ys))) ∧ Below w.heap.size w w' := by
  have hne : n ≠ m → decide (xs = ys) = false := fun e => decide_eq_false fun k => e (by rw [← h.len, ← h2.len, k])
  have cU := fun e => upTo_any A B n cp m cq xs ys w h h2 e
  generalize decide (xs = ys) = R at *
  by_cases hnm : n = m
  · have cU2 := cU hnm
    subst hnm
    replace h := Lib.hid h
    replace h2 := Lib.hid h2
    replace hne := Lib.hid hne
    replace cU := Lib.hid cU
    replace cU2 := Lib.hid cU2
    go_enter Tryz.func66, Tryz.ntmps66
    go_wp2_with fail
    refine cU2.out.mono ?_
    rintro e w1 ⟨rfl, hb_⟩
    replace hb_ := Lib.hid hb_
    go_wp2
    go_ret
    exact ⟨rfl, hb_.out⟩
  · have d1 : ((n : Int) == (m : Int)) = false := by rw [beq_eq_false_iff_ne]; omega
    have hR := Lib.hid (hne hnm)
    replace h := Lib.hid h
    replace h2 := Lib.hid h2
    replace hne := Lib.hid hne
    replace cU := Lib.hid cU
    go_enter Tryz.func66, Tryz.ntmps66
    go_wp2
    go_ret
    exact ⟨by rw [hR.out]; rfl, Below.refl _ _⟩
theorem sameM_split (a b : Msg) : decide (a = b) = (a.kind == b.kind && (a.reply == b.reply && (a.number == b.number && (a.code == b.code && (a.count == b.count && (decide (a.spots = b.spots) && decide (a.old = b.old))))))) := by
  obtain ⟨a0, a1, a2, a3, a4, a5, a6⟩ := a
  obtain ⟨b0, b1, b2, b3, b4, b5, b6⟩ := b
  rw [Bool.eq_iff_iff]
  simp
set_option maxRecDepth 100000 in
set_option maxHeartbeats 4000000 in
theorem sameM_any (a b : Msg) (va vb : MsgV) (w : World) (h1 : MsgIs w va a) (h2 : MsgIs w vb b) : Calls Tryz.prog 18 #[.agg #[.int .i64 a.kind, .bool a.reply, .int .i64 a.number, .int .i64 a.code, .int .i64 a.count, .slice va.sA va.sn va.sc, .slice va.oA va.on va.oc], .agg #[.int .i64 b.kind, .bool b.reply, .int .i64 b.number, .int .i64 b.code, .int .i64 b.count, .slice vb.sA vb.sn vb.sc, .slice vb.oA vb.on vb.oc]] w fun e w' => e = .returned (.bool (decide (a = b))) ∧ Below w.heap.size w w' := by
  have HM := Lib.hid (Mem.start w)
  have hR := sameM_split a b
  have cS := fun W (hb : Below w.heap.size w W) => sameS_any va.sA vb.sA va.sn va.sc vb.sn vb.sc a.spots b.spots W (h1.spots.keep hb) (h2.spots.keep hb)
  have cO := fun W (hb : Below w.heap.size w W) => sameS_any va.oA vb.oA va.on va.oc vb.on vb.oc a.old b.old W (h1.old.keep hb) (h2.old.keep hb)
  generalize decide (a = b) = R at *
  generalize decide (a.spots = b.spots) = D1 at *
  generalize decide (a.old = b.old) = D2 at *
  obtain ⟨k0, r0, n0, c0, t0, s0, o0⟩ := a
  obtain ⟨k1, r1, n1, c1, t1, s1, o1⟩ := b
  dsimp only at *
  replace cS := Lib.hid cS
  replace cO := Lib.hid cO
  replace h1 := Lib.hid h1
  replace h2 := Lib.hid h2
  replace hR := Lib.hid hR
  go_enter Tryz.func18, Tryz.ntmps18
  go_upto_region 1 with (refine wpList_boxA HM rfl _ _ rfl _ rfl ?_; clear HM; intro g w1 HM hG; clear hG)
  have kb := HM.out.cell 0 rfl
  have ka := HM.out.cell 1 rfl
  go_wp2_with (first
    | (go_at_call 66; refine (cS.out _ HM.out.below).mono ?_; rintro e w3 ⟨rfl, hb_⟩; have HM2 := Lib.hid (HM.out.keep hb_); clear HM hb_ ka kb cS; have HM := HM2; clear HM2; have ka := HM.out.cell 1 rfl; have kb := HM.out.cell 0 rfl)
    | (go_at_call 66; refine (cO.out _ HM.out.below).mono ?_; rintro e w4 ⟨rfl, hb_⟩; have HM2 := Lib.hid (HM.out.keep hb_); clear HM hb_ ka kb cO; have HM := HM2; clear HM2; have ka := HM.out.cell 1 rfl; have kb := HM.out.cell 0 rfl)
    | fail)
  all_goals
    go_ret
    exact ⟨by rw [hR.out]; first | (simp [*]; done) | (simp [*]; omega) | (simp [*, intB]; done) | (simp [*, intB]; omega) | (simp [*, bne, intB]; done), HM.out.below⟩
set_option maxRecDepth 100000 in
set_option maxHeartbeats 4000000 in
theorem equalM_any (a b : Msg) (va vb : MsgV) (w : World) (h1 : MsgIs w va a) (h2 : MsgIs w vb b) : Calls Tryz.prog 48 #[.agg #[.int .i64 a.kind, .bool a.reply, .int .i64 a.number, .int .i64 a.code, .int .i64 a.count, .slice va.sA va.sn va.sc, .slice va.oA va.on va.oc], .agg #[.int .i64 b.kind, .bool b.reply, .int .i64 b.number, .int .i64 b.code, .int .i64 b.count, .slice vb.sA vb.sn vb.sc, .slice vb.oA vb.on vb.oc]] w fun e w' => e = .returned (.bool (decide (a = b))) ∧ Below w.heap.size w w' := by
  have HM := Lib.hid (Mem.start w)
  have hR := sameM_split a b
  have cS := fun W (hb : Below w.heap.size w W) => equalS_any va.sA vb.sA va.sn vb.sn va.sc vb.sc a.spots b.spots W (h1.spots.keep hb) (h2.spots.keep hb)
  have cO := fun W (hb : Below w.heap.size w W) => equalS_any va.oA vb.oA va.on vb.on va.oc vb.oc a.old b.old W (h1.old.keep hb) (h2.old.keep hb)
  generalize decide (a = b) = R at *
  generalize decide (a.spots = b.spots) = D1 at *
  generalize decide (a.old = b.old) = D2 at *
  obtain ⟨k0, r0, n0, c0, t0, s0, o0⟩ := a
  obtain ⟨k1, r1, n1, c1, t1, s1, o1⟩ := b
  dsimp only at *
  replace cS := Lib.hid cS
  replace cO := Lib.hid cO
  replace h1 := Lib.hid h1
  replace h2 := Lib.hid h2
  replace hR := Lib.hid hR
  go_enter Tryz.func48, Tryz.ntmps48
  go_upto_region 1 with (refine wpList_boxA HM rfl _ _ rfl _ rfl ?_; clear HM; intro g w1 HM hG; clear hG)
  have kb := HM.out.cell 0 rfl
  have ka := HM.out.cell 1 rfl
  go_wp2_with (first
    | (go_at_call 102; refine (cS.out _ HM.out.below).mono ?_; rintro e w3 ⟨rfl, hb_⟩; have HM2 := Lib.hid (HM.out.keep hb_); clear HM hb_ ka kb cS; have HM := HM2; clear HM2; have ka := HM.out.cell 1 rfl; have kb := HM.out.cell 0 rfl)
    | (go_at_call 102; refine (cO.out _ HM.out.below).mono ?_; rintro e w4 ⟨rfl, hb_⟩; have HM2 := Lib.hid (HM.out.keep hb_); clear HM hb_ ka kb cO; have HM := HM2; clear HM2; have ka := HM.out.cell 1 rfl; have kb := HM.out.cell 0 rfl)
    | fail)
  all_goals
    go_ret
    exact ⟨by rw [hR.out]; first | (simp [*]; done) | (simp [*]; omega) | (simp [*, intB]; done) | (simp [*, intB]; omega) | (simp [*, bne, intB]; done), HM.out.below⟩
def fewM (m : Msg) : Bool := decide ((m.spots.length : Int) ≤ 12) && decide ((m.old.length : Int) ≤ 12)
theorem fewM_any (m : Msg) (v : MsgV) (w : World) (h : MsgIs w v m) : Calls Tryz.prog 14 #[.agg #[.int .i64 m.kind, .bool m.reply, .int .i64 m.number, .int .i64 m.code, .int .i64 m.count, .slice v.sA v.sn v.sc, .slice v.oA v.on v.oc]] w fun e w' => e = .returned (.bool (fewM m)) ∧ Below w.heap.size w w' := by
  have HM := (Mem.start w).alloc #[.int .i64 m.kind, .bool m.reply, .int .i64 m.number, .int .i64 m.code, .int .i64 m.count, .slice v.sA v.sn v.sc, .slice v.oA v.on v.oc] 25
  have kx := HM.cell 0 rfl
  unfold fewM
  rw [h.spots.len, h.old.len]
  replace HM := Lib.hid HM
  replace h := Lib.hid h
  go_enter Tryz.func14, Tryz.ntmps14
  go_wp2
  all_goals
    go_ret
    exact ⟨by first | (simp [*]; done) | (simp [*]; omega) | (simp [*, intB]; done) | (simp [*, intB]; omega) | (simp [*, bne, intB]; done), HM.out.below⟩

end Tx
end Go.Proofs.YtkfipbelhlcddaaGreat
