/- Chapter 27: few, and the example. -/
import Derived.Test.YtfoffooblkofhaaGreatEq
import Derived.Test.YtfoffooblkofhaaGreatBk
import Derived.Test.YtfoffooblkofhaaGreatBz
set_option linter.unusedVariables false
set_option linter.unusedSimpArgs false
namespace Go.Proofs.YtfoffooblkofhaaGreat
open Go Go.RowKit Go.Sort Go.Shelf Go.Maps
namespace Tx
open Sw Mm Pl
def cplA (a : Ed) (va : EdV) (b : Ed) (vb : EdV) (ta : Tab) (vta : TabV) (tb : Tab) (vtb : TabV) (A : Option Addr) (nf cf : Nat) : Array Value := #[.int .i64 a.node, .int .i64 a.peer, .int .i64 a.number, .slice va.cA va.cn va.cc, .bool a.opn, .int .i64 a.since, .int .i64 a.asked.kind, .bool a.asked.reply, .int .i64 a.asked.number, .int .i64 a.asked.code, .int .i64 a.asked.count, .slice va.a.sA va.a.sn va.a.sc, .slice va.a.oA va.a.on va.a.oc, .bool a.known, .int .i64 a.last.kind, .bool a.last.reply, .int .i64 a.last.number, .int .i64 a.last.code, .int .i64 a.last.count, .slice va.l.sA va.l.sn va.l.sc, .slice va.l.oA va.l.on va.l.oc, .int .i64 a.reply.kind, .bool a.reply.reply, .int .i64 a.reply.number, .int .i64 a.reply.code, .int .i64 a.reply.count, .slice va.r.sA va.r.sn va.r.sc, .slice va.r.oA va.r.on va.r.oc, .int .i64 b.node, .int .i64 b.peer, .int .i64 b.number, .slice vb.cA vb.cn vb.cc, .bool b.opn, .int .i64 b.since, .int .i64 b.asked.kind, .bool b.asked.reply, .int .i64 b.asked.number, .int .i64 b.asked.code, .int .i64 b.asked.count, .slice vb.a.sA vb.a.sn vb.a.sc, .slice vb.a.oA vb.a.on vb.a.oc, .bool b.known, .int .i64 b.last.kind, .bool b.last.reply, .int .i64 b.last.number, .int .i64 b.last.code, .int .i64 b.last.count, .slice vb.l.sA vb.l.sn vb.l.sc, .slice vb.l.oA vb.l.on vb.l.oc, .int .i64 b.reply.kind, .bool b.reply.reply, .int .i64 b.reply.number, .int .i64 b.reply.code, .int .i64 b.reply.count, .slice vb.r.sA vb.r.sn vb.r.sc, .slice vb.r.oA vb.r.on vb.r.oc, .int .i64 ta.node, .int .i64 ta.length, .slice vta.A vta.n vta.c, .int .i64 tb.node, .int .i64 tb.length, .slice vtb.A vtb.n vtb.c, .slice A nf cf]
theorem zcp : (Tryz.prog.info? 43).map (·.size) = some 63 := by kernel_rfl
def few27 (a b : Ed) (ta tb : Tab) (nf : Nat) : Bool := fewE a && (fewE b && (fewT ta && (fewT tb && decide (nf ≤ 600))))
set_option maxRecDepth 100000 in
set_option maxHeartbeats 8000000 in
theorem few27_any (a b : Ed) (ta tb : Tab) (va vb : EdV) (vta vtb : TabV) (A : Option Addr) (nf cf : Nat) (w : World) (h1 : EdIs w va a) (h2 : EdIs w vb b) (t1 : TabIs w vta ta) (t2 : TabIs w vtb tb) : Calls Tryz.prog 24 #[.agg (cplA a va b vb ta vta tb vtb A nf cf)] w fun r w' => r = .returned (.bool (few27 a b ta tb nf)) ∧ Below w.heap.size w w' := by
  have HM := Lib.hid (Mem.start w)
  obtain ⟨F0, hFs, hF⟩ : ∃ F : World → Prop, Stb F ∧ Hid (F w) := ⟨_, Stb.true, trivial⟩
  have uE := Tryz.underlying27
  have uT := Tryz.underlying29
  have uM := Tryz.underlying25
  have hR : few27 a b ta tb nf = (fewE a && (fewE b && (fewT ta && (fewT tb && decide (nf ≤ 600))))) := rfl
  have cA := fun W (hb : Below w.heap.size w W) => fewE_any a va W (h1.keep hb)
  have cB := fun W (hb : Below w.heap.size w W) => fewE_any b vb W (h2.keep hb)
  have cC := fun W (hb : Below w.heap.size w W) => fewT_any ta vta W (t1.keep hb)
  have cD := fun W (hb : Below w.heap.size w W) => fewT_any tb vtb W (t2.keep hb)
  generalize few27 a b ta tb nf = R at *
  generalize fewE a = B1 at *
  generalize fewE b = B2 at *
  generalize fewT ta = B3 at *
  generalize fewT tb = B4 at *
  replace cA := Lib.hid cA
  replace cB := Lib.hid cB
  replace cC := Lib.hid cC
  replace cD := Lib.hid cD
  replace h1 := Lib.hid h1
  replace h2 := Lib.hid h2
  replace t1 := Lib.hid t1
  replace t2 := Lib.hid t2
  replace uE := Lib.hid uE
  replace uT := Lib.hid uT
  replace uM := Lib.hid uM
  go_enter Tryz.func24, Tryz.ntmps24
  have mk1 : Unit := ()
  go_upto_region 1 with (first | go_skip | (clear mk1; refine wpList_boxA HM rfl 43 _ rfl _ rfl ?_; clear HM; intro gc w1 HM hG; replace hF := Lib.hid (hFs.keep hF.out hG.out); clear hG) | fail)
  have p62 : World.cell? _ ⟨gc, 62, none⟩ = some (.slice A nf cf) := HM.out.cell 0 rfl 62
  cases B1
  case false =>
    have hh : R = false := by rw [hR]; simp []
    subst hh
    replace hR := Lib.hid hR
    have mk2 : Unit := ()
    have mk3 : Unit := ()
    have mk4 : Unit := ()
    have mk5 : Unit := ()
    go_wp2_with (first | go_skip | (refine wpList_loadP 0 HM (by rfl) _ _ rfl _ 0 rfl rfl (endA a va) (by kernel_rfl) _ uE.out rfl (by exact zend) ?_) | (refine wpList_loadP 0 HM (by rfl) _ _ rfl _ 28 rfl rfl (endA b vb) (by kernel_rfl) _ uE.out rfl (by exact zend) ?_) | (refine wpList_loadP 0 HM (by rfl) _ _ rfl _ 56 rfl rfl (tabA ta vta) (by kernel_rfl) _ uT.out rfl (by exact ztab) ?_) | (refine wpList_loadP 0 HM (by rfl) _ _ rfl _ 59 rfl rfl (tabA tb vtb) (by kernel_rfl) _ uT.out rfl (by exact ztab) ?_) | (go_at_call 12; clear mk2; refine (cA.out _ HM.out.below).mono ?_; rintro r w3 ⟨rfl, hb_⟩; replace p62 := ((HM.out.keep hb_).cell 0 rfl 62).trans ((HM.out.cell 0 rfl 62).symm.trans p62); replace HM := Lib.hid (HM.out.keep hb_); replace hF := Lib.hid (hFs.keep hF.out hb_); clear hb_; dsimp only) | (go_at_call 12; clear mk3; refine (cB.out _ HM.out.below).mono ?_; rintro r w3 ⟨rfl, hb_⟩; replace p62 := ((HM.out.keep hb_).cell 0 rfl 62).trans ((HM.out.cell 0 rfl 62).symm.trans p62); replace HM := Lib.hid (HM.out.keep hb_); replace hF := Lib.hid (hFs.keep hF.out hb_); clear hb_; dsimp only) | (go_at_call 13; clear mk4; refine (cC.out _ HM.out.below).mono ?_; rintro r w3 ⟨rfl, hb_⟩; replace p62 := ((HM.out.keep hb_).cell 0 rfl 62).trans ((HM.out.cell 0 rfl 62).symm.trans p62); replace HM := Lib.hid (HM.out.keep hb_); replace hF := Lib.hid (hFs.keep hF.out hb_); clear hb_; dsimp only) | (go_at_call 13; clear mk5; refine (cD.out _ HM.out.below).mono ?_; rintro r w3 ⟨rfl, hb_⟩; replace p62 := ((HM.out.keep hb_).cell 0 rfl 62).trans ((HM.out.cell 0 rfl 62).symm.trans p62); replace HM := Lib.hid (HM.out.keep hb_); replace hF := Lib.hid (hFs.keep hF.out hb_); clear hb_; dsimp only) | fail)
    try simp only [Exit.inBlock, Exit.then]
    go_ret
    exact ⟨by first | rfl | trivial, HM.out.below⟩
  cases B2
  case false =>
    have hh : R = false := by rw [hR]; simp []
    subst hh
    replace hR := Lib.hid hR
    have mk2 : Unit := ()
    have mk3 : Unit := ()
    have mk4 : Unit := ()
    have mk5 : Unit := ()
    go_wp2_with (first | go_skip | (refine wpList_loadP 0 HM (by rfl) _ _ rfl _ 0 rfl rfl (endA a va) (by kernel_rfl) _ uE.out rfl (by exact zend) ?_) | (refine wpList_loadP 0 HM (by rfl) _ _ rfl _ 28 rfl rfl (endA b vb) (by kernel_rfl) _ uE.out rfl (by exact zend) ?_) | (refine wpList_loadP 0 HM (by rfl) _ _ rfl _ 56 rfl rfl (tabA ta vta) (by kernel_rfl) _ uT.out rfl (by exact ztab) ?_) | (refine wpList_loadP 0 HM (by rfl) _ _ rfl _ 59 rfl rfl (tabA tb vtb) (by kernel_rfl) _ uT.out rfl (by exact ztab) ?_) | (go_at_call 12; clear mk2; refine (cA.out _ HM.out.below).mono ?_; rintro r w3 ⟨rfl, hb_⟩; replace p62 := ((HM.out.keep hb_).cell 0 rfl 62).trans ((HM.out.cell 0 rfl 62).symm.trans p62); replace HM := Lib.hid (HM.out.keep hb_); replace hF := Lib.hid (hFs.keep hF.out hb_); clear hb_; dsimp only) | (go_at_call 12; clear mk3; refine (cB.out _ HM.out.below).mono ?_; rintro r w3 ⟨rfl, hb_⟩; replace p62 := ((HM.out.keep hb_).cell 0 rfl 62).trans ((HM.out.cell 0 rfl 62).symm.trans p62); replace HM := Lib.hid (HM.out.keep hb_); replace hF := Lib.hid (hFs.keep hF.out hb_); clear hb_; dsimp only) | (go_at_call 13; clear mk4; refine (cC.out _ HM.out.below).mono ?_; rintro r w3 ⟨rfl, hb_⟩; replace p62 := ((HM.out.keep hb_).cell 0 rfl 62).trans ((HM.out.cell 0 rfl 62).symm.trans p62); replace HM := Lib.hid (HM.out.keep hb_); replace hF := Lib.hid (hFs.keep hF.out hb_); clear hb_; dsimp only) | (go_at_call 13; clear mk5; refine (cD.out _ HM.out.below).mono ?_; rintro r w3 ⟨rfl, hb_⟩; replace p62 := ((HM.out.keep hb_).cell 0 rfl 62).trans ((HM.out.cell 0 rfl 62).symm.trans p62); replace HM := Lib.hid (HM.out.keep hb_); replace hF := Lib.hid (hFs.keep hF.out hb_); clear hb_; dsimp only) | fail)
    try simp only [Exit.inBlock, Exit.then]
    go_ret
    exact ⟨by first | rfl | trivial, HM.out.below⟩
  cases B3
  case false =>
    have hh : R = false := by rw [hR]; simp []
    subst hh
    replace hR := Lib.hid hR
    have mk2 : Unit := ()
    have mk3 : Unit := ()
    have mk4 : Unit := ()
    have mk5 : Unit := ()
    go_wp2_with (first | go_skip | (refine wpList_loadP 0 HM (by rfl) _ _ rfl _ 0 rfl rfl (endA a va) (by kernel_rfl) _ uE.out rfl (by exact zend) ?_) | (refine wpList_loadP 0 HM (by rfl) _ _ rfl _ 28 rfl rfl (endA b vb) (by kernel_rfl) _ uE.out rfl (by exact zend) ?_) | (refine wpList_loadP 0 HM (by rfl) _ _ rfl _ 56 rfl rfl (tabA ta vta) (by kernel_rfl) _ uT.out rfl (by exact ztab) ?_) | (refine wpList_loadP 0 HM (by rfl) _ _ rfl _ 59 rfl rfl (tabA tb vtb) (by kernel_rfl) _ uT.out rfl (by exact ztab) ?_) | (go_at_call 12; clear mk2; refine (cA.out _ HM.out.below).mono ?_; rintro r w3 ⟨rfl, hb_⟩; replace p62 := ((HM.out.keep hb_).cell 0 rfl 62).trans ((HM.out.cell 0 rfl 62).symm.trans p62); replace HM := Lib.hid (HM.out.keep hb_); replace hF := Lib.hid (hFs.keep hF.out hb_); clear hb_; dsimp only) | (go_at_call 12; clear mk3; refine (cB.out _ HM.out.below).mono ?_; rintro r w3 ⟨rfl, hb_⟩; replace p62 := ((HM.out.keep hb_).cell 0 rfl 62).trans ((HM.out.cell 0 rfl 62).symm.trans p62); replace HM := Lib.hid (HM.out.keep hb_); replace hF := Lib.hid (hFs.keep hF.out hb_); clear hb_; dsimp only) | (go_at_call 13; clear mk4; refine (cC.out _ HM.out.below).mono ?_; rintro r w3 ⟨rfl, hb_⟩; replace p62 := ((HM.out.keep hb_).cell 0 rfl 62).trans ((HM.out.cell 0 rfl 62).symm.trans p62); replace HM := Lib.hid (HM.out.keep hb_); replace hF := Lib.hid (hFs.keep hF.out hb_); clear hb_; dsimp only) | (go_at_call 13; clear mk5; refine (cD.out _ HM.out.below).mono ?_; rintro r w3 ⟨rfl, hb_⟩; replace p62 := ((HM.out.keep hb_).cell 0 rfl 62).trans ((HM.out.cell 0 rfl 62).symm.trans p62); replace HM := Lib.hid (HM.out.keep hb_); replace hF := Lib.hid (hFs.keep hF.out hb_); clear hb_; dsimp only) | fail)
    try simp only [Exit.inBlock, Exit.then]
    go_ret
    exact ⟨by first | rfl | trivial, HM.out.below⟩
  cases B4
  case false =>
    have hh : R = false := by rw [hR]; simp []
    subst hh
    replace hR := Lib.hid hR
    have mk2 : Unit := ()
    have mk3 : Unit := ()
    have mk4 : Unit := ()
    have mk5 : Unit := ()
    go_wp2_with (first | go_skip | (refine wpList_loadP 0 HM (by rfl) _ _ rfl _ 0 rfl rfl (endA a va) (by kernel_rfl) _ uE.out rfl (by exact zend) ?_) | (refine wpList_loadP 0 HM (by rfl) _ _ rfl _ 28 rfl rfl (endA b vb) (by kernel_rfl) _ uE.out rfl (by exact zend) ?_) | (refine wpList_loadP 0 HM (by rfl) _ _ rfl _ 56 rfl rfl (tabA ta vta) (by kernel_rfl) _ uT.out rfl (by exact ztab) ?_) | (refine wpList_loadP 0 HM (by rfl) _ _ rfl _ 59 rfl rfl (tabA tb vtb) (by kernel_rfl) _ uT.out rfl (by exact ztab) ?_) | (go_at_call 12; clear mk2; refine (cA.out _ HM.out.below).mono ?_; rintro r w3 ⟨rfl, hb_⟩; replace p62 := ((HM.out.keep hb_).cell 0 rfl 62).trans ((HM.out.cell 0 rfl 62).symm.trans p62); replace HM := Lib.hid (HM.out.keep hb_); replace hF := Lib.hid (hFs.keep hF.out hb_); clear hb_; dsimp only) | (go_at_call 12; clear mk3; refine (cB.out _ HM.out.below).mono ?_; rintro r w3 ⟨rfl, hb_⟩; replace p62 := ((HM.out.keep hb_).cell 0 rfl 62).trans ((HM.out.cell 0 rfl 62).symm.trans p62); replace HM := Lib.hid (HM.out.keep hb_); replace hF := Lib.hid (hFs.keep hF.out hb_); clear hb_; dsimp only) | (go_at_call 13; clear mk4; refine (cC.out _ HM.out.below).mono ?_; rintro r w3 ⟨rfl, hb_⟩; replace p62 := ((HM.out.keep hb_).cell 0 rfl 62).trans ((HM.out.cell 0 rfl 62).symm.trans p62); replace HM := Lib.hid (HM.out.keep hb_); replace hF := Lib.hid (hFs.keep hF.out hb_); clear hb_; dsimp only) | (go_at_call 13; clear mk5; refine (cD.out _ HM.out.below).mono ?_; rintro r w3 ⟨rfl, hb_⟩; replace p62 := ((HM.out.keep hb_).cell 0 rfl 62).trans ((HM.out.cell 0 rfl 62).symm.trans p62); replace HM := Lib.hid (HM.out.keep hb_); replace hF := Lib.hid (hFs.keep hF.out hb_); clear hb_; dsimp only) | fail)
    try simp only [Exit.inBlock, Exit.then]
    go_ret
    exact ⟨by first | rfl | trivial, HM.out.below⟩
  by_cases e5 : nf ≤ 600
  case neg =>
    have d5 : decide ((nf : Int) ≤ 600) = false := decide_eq_false (by omega)
    have hh : R = false := by rw [hR]; simp [e5]
    subst hh
    replace hR := Lib.hid hR
    replace e5 := Lib.hid e5
    have mk2 : Unit := ()
    have mk3 : Unit := ()
    have mk4 : Unit := ()
    have mk5 : Unit := ()
    go_wp2_with (first | go_skip | (refine wpList_loadP 0 HM (by rfl) _ _ rfl _ 0 rfl rfl (endA a va) (by kernel_rfl) _ uE.out rfl (by exact zend) ?_) | (refine wpList_loadP 0 HM (by rfl) _ _ rfl _ 28 rfl rfl (endA b vb) (by kernel_rfl) _ uE.out rfl (by exact zend) ?_) | (refine wpList_loadP 0 HM (by rfl) _ _ rfl _ 56 rfl rfl (tabA ta vta) (by kernel_rfl) _ uT.out rfl (by exact ztab) ?_) | (refine wpList_loadP 0 HM (by rfl) _ _ rfl _ 59 rfl rfl (tabA tb vtb) (by kernel_rfl) _ uT.out rfl (by exact ztab) ?_) | (go_at_call 12; clear mk2; refine (cA.out _ HM.out.below).mono ?_; rintro r w3 ⟨rfl, hb_⟩; replace p62 := ((HM.out.keep hb_).cell 0 rfl 62).trans ((HM.out.cell 0 rfl 62).symm.trans p62); replace HM := Lib.hid (HM.out.keep hb_); replace hF := Lib.hid (hFs.keep hF.out hb_); clear hb_; dsimp only) | (go_at_call 12; clear mk3; refine (cB.out _ HM.out.below).mono ?_; rintro r w3 ⟨rfl, hb_⟩; replace p62 := ((HM.out.keep hb_).cell 0 rfl 62).trans ((HM.out.cell 0 rfl 62).symm.trans p62); replace HM := Lib.hid (HM.out.keep hb_); replace hF := Lib.hid (hFs.keep hF.out hb_); clear hb_; dsimp only) | (go_at_call 13; clear mk4; refine (cC.out _ HM.out.below).mono ?_; rintro r w3 ⟨rfl, hb_⟩; replace p62 := ((HM.out.keep hb_).cell 0 rfl 62).trans ((HM.out.cell 0 rfl 62).symm.trans p62); replace HM := Lib.hid (HM.out.keep hb_); replace hF := Lib.hid (hFs.keep hF.out hb_); clear hb_; dsimp only) | (go_at_call 13; clear mk5; refine (cD.out _ HM.out.below).mono ?_; rintro r w3 ⟨rfl, hb_⟩; replace p62 := ((HM.out.keep hb_).cell 0 rfl 62).trans ((HM.out.cell 0 rfl 62).symm.trans p62); replace HM := Lib.hid (HM.out.keep hb_); replace hF := Lib.hid (hFs.keep hF.out hb_); clear hb_; dsimp only) | fail)
    try simp only [Exit.inBlock, Exit.then]
    go_ret
    exact ⟨by first | rfl | trivial, HM.out.below⟩
  have d5 : decide ((nf : Int) ≤ 600) = true := decide_eq_true (by omega)
  have hh : R = true := by rw [hR]; simp [e5]
  subst hh
  replace hR := Lib.hid hR
  replace e5 := Lib.hid e5
  have mk2 : Unit := ()
  have mk3 : Unit := ()
  have mk4 : Unit := ()
  have mk5 : Unit := ()
  go_wp2_with (first | go_skip | (refine wpList_loadP 0 HM (by rfl) _ _ rfl _ 0 rfl rfl (endA a va) (by kernel_rfl) _ uE.out rfl (by exact zend) ?_) | (refine wpList_loadP 0 HM (by rfl) _ _ rfl _ 28 rfl rfl (endA b vb) (by kernel_rfl) _ uE.out rfl (by exact zend) ?_) | (refine wpList_loadP 0 HM (by rfl) _ _ rfl _ 56 rfl rfl (tabA ta vta) (by kernel_rfl) _ uT.out rfl (by exact ztab) ?_) | (refine wpList_loadP 0 HM (by rfl) _ _ rfl _ 59 rfl rfl (tabA tb vtb) (by kernel_rfl) _ uT.out rfl (by exact ztab) ?_) | (go_at_call 12; clear mk2; refine (cA.out _ HM.out.below).mono ?_; rintro r w3 ⟨rfl, hb_⟩; replace p62 := ((HM.out.keep hb_).cell 0 rfl 62).trans ((HM.out.cell 0 rfl 62).symm.trans p62); replace HM := Lib.hid (HM.out.keep hb_); replace hF := Lib.hid (hFs.keep hF.out hb_); clear hb_; dsimp only) | (go_at_call 12; clear mk3; refine (cB.out _ HM.out.below).mono ?_; rintro r w3 ⟨rfl, hb_⟩; replace p62 := ((HM.out.keep hb_).cell 0 rfl 62).trans ((HM.out.cell 0 rfl 62).symm.trans p62); replace HM := Lib.hid (HM.out.keep hb_); replace hF := Lib.hid (hFs.keep hF.out hb_); clear hb_; dsimp only) | (go_at_call 13; clear mk4; refine (cC.out _ HM.out.below).mono ?_; rintro r w3 ⟨rfl, hb_⟩; replace p62 := ((HM.out.keep hb_).cell 0 rfl 62).trans ((HM.out.cell 0 rfl 62).symm.trans p62); replace HM := Lib.hid (HM.out.keep hb_); replace hF := Lib.hid (hFs.keep hF.out hb_); clear hb_; dsimp only) | (go_at_call 13; clear mk5; refine (cD.out _ HM.out.below).mono ?_; rintro r w3 ⟨rfl, hb_⟩; replace p62 := ((HM.out.keep hb_).cell 0 rfl 62).trans ((HM.out.cell 0 rfl 62).symm.trans p62); replace HM := Lib.hid (HM.out.keep hb_); replace hF := Lib.hid (hFs.keep hF.out hb_); clear hb_; dsimp only) | fail)
  try simp only [Exit.inBlock, Exit.then]
  go_ret
  exact ⟨by first | rfl | trivial, HM.out.below⟩
end Tx
end Go.Proofs.YtfoffooblkofhaaGreat
