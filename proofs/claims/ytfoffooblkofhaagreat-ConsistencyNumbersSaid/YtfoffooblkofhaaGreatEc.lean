/- Chapter 27: check: the program's. -/
import Derived.Test.YtfoffooblkofhaaGreatCw
import Derived.Test.YtfoffooblkofhaaGreatDq
import Derived.Test.YtfoffooblkofhaaGreatCx
set_option linter.unusedVariables false
set_option linter.unusedSimpArgs false
namespace Go.Proofs.YtfoffooblkofhaaGreat
open Go Go.RowKit Go.Sort Go.Shelf Go.Maps
namespace Tx
open Sw Mm Pl
theorem wpList_makes {P : Program} {ops : Array Oper} {rest : List Oper} {op : Oper} {a : Act} {w a0 : World} {L : List (Nat × Array Value × TypeId)} {Q : Exit → Act → World → Prop} (hM : Hid (Mem a0 w L)) (hgd : op.guard = none) (C : Array Value) (t : TypeId) (v : Nat → Value) (hr : (execOp a.eval op).run P w = .ok (.value (v w.heap.size)) (w.alloc (.cells C t)))
    (h : ∀ g w', Hid (Mem a0 w' ((g, C, t) :: L)) → Hid (Below w.heap.size w w') → wpList P ops Q rest (a.put op.dst (v g)) w') : wpList P ops Q (op :: rest) a w :=
  wpList_plain hgd fun K hK => by
    simp only [Oper.wp, hr, Oper.upon]
    exact hK _ _ (h _ _ (hM.out.alloc C t) (ball w _))
def sidesA (a : Ed) (va : EdV) (ta : Tab) (vta : TabV) (b : Ed) (vb : EdV) (tb : Tab) (vtb : TabV) : Array Value := #[.int .i64 a.node, .int .i64 a.peer, .int .i64 a.number, .slice va.cA va.cn va.cc, .bool a.opn, .int .i64 a.since, .int .i64 a.asked.kind, .bool a.asked.reply, .int .i64 a.asked.number, .int .i64 a.asked.code, .int .i64 a.asked.count, .slice va.a.sA va.a.sn va.a.sc, .slice va.a.oA va.a.on va.a.oc, .bool a.known, .int .i64 a.last.kind, .bool a.last.reply, .int .i64 a.last.number, .int .i64 a.last.code, .int .i64 a.last.count, .slice va.l.sA va.l.sn va.l.sc, .slice va.l.oA va.l.on va.l.oc, .int .i64 a.reply.kind, .bool a.reply.reply, .int .i64 a.reply.number, .int .i64 a.reply.code, .int .i64 a.reply.count, .slice va.r.sA va.r.sn va.r.sc, .slice va.r.oA va.r.on va.r.oc, .int .i64 ta.node, .int .i64 ta.length, .slice vta.A vta.n vta.c, .int .i64 b.node, .int .i64 b.peer, .int .i64 b.number, .slice vb.cA vb.cn vb.cc, .bool b.opn, .int .i64 b.since, .int .i64 b.asked.kind, .bool b.asked.reply, .int .i64 b.asked.number, .int .i64 b.asked.code, .int .i64 b.asked.count, .slice vb.a.sA vb.a.sn vb.a.sc, .slice vb.a.oA vb.a.on vb.a.oc, .bool b.known, .int .i64 b.last.kind, .bool b.last.reply, .int .i64 b.last.number, .int .i64 b.last.code, .int .i64 b.last.count, .slice vb.l.sA vb.l.sn vb.l.sc, .slice vb.l.oA vb.l.on vb.l.oc, .int .i64 b.reply.kind, .bool b.reply.reply, .int .i64 b.reply.number, .int .i64 b.reply.code, .int .i64 b.reply.count, .slice vb.r.sA vb.r.sn vb.r.sc, .slice vb.r.oA vb.r.on vb.r.oc, .int .i64 tb.node, .int .i64 tb.length, .slice vtb.A vtb.n vtb.c]
theorem full_chkT {t : Tab} {e : Ed} (h : chkT t ≠ 0) : fullC t e ≠ 0 := by
  unfold fullC
  rw [if_pos (.inr (.inl h))]
  decide
theorem results_cctt {P : Program} {fn : Func} {s r u u2 : Tmp} {ty tz : TypeId} (hr : fn.results = #[.cell s ty, .cell r tz, .tmp u, .tmp u2]) {tmps : Array Value} {w : World} {B E : Nat} {C D : Array Value} {t k : TypeId} (hB : Blk w B C t) (hE : Blk w E D k) (hs : tmps.getD s undef = .pointer (some ⟨B, 0, none⟩)) (hs2 : tmps.getD r undef = .pointer (some ⟨E, 0, none⟩))
    (d : TypeDesc) (hu : P.underlying ty = some d) (hd : (match d with | .struct _ | .array _ _ => true | _ => false) = true) (hi : (P.info? ty).map (·.size) = some C.size) (d2 : TypeDesc) (hu2 : P.underlying tz = some d2) (hd2 : (match d2 with | .struct _ | .array _ _ => true | _ => false) = true) (hi2 : (P.info? tz).map (·.size) = some D.size) :
    (results fn tmps).run P w = .ok (.tuple #[.agg C, .agg D, tmps.getD u undef, tmps.getD u2 undef]) w := by
  have h1 := run_loadVar_blk hB ty d hu hd hi
  have h2 := run_loadVar_blk hE tz d2 hu2 hd2 hi2
  rw [Array.getD_eq_getD_getElem?] at hs hs2
  simp [results, hr, hs, hs2, asAddr, h1, h2]
set_option maxRecDepth 100000 in
set_option maxHeartbeats 8000000 in
theorem check_any (a b : Ed) (ta tb : Tab) (va vb : EdV) (vta vtb : TabV) (w : World) (h1 : EdIs w va a) (h2 : EdIs w vb b) (t1 : TabIs w vta ta) (t2 : TabIs w vtb tb) : Calls Tryz.prog 69 #[.agg (sideA a va ta vta), .agg (sideA b vb tb vtb)] w fun r w' => r = .returned (.int .i64 (idleC a b ta tb)) ∧ Below w.heap.size w w' := by
  have HM := Lib.hid (Mem.start w)
  obtain ⟨F0, hFs, hF⟩ : ∃ F : World → Prop, Stb F ∧ Hid (F w) := ⟨_, Stb.true, trivial⟩
  have uE := Tryz.underlying27
  have uT := Tryz.underlying29
  have uM := Tryz.underlying25
  have uS := Tryz.underlying98
  have hR : idleC a b ta tb = if (pairB a b && (decide (ta.length = tb.length) && (decide (fullC ta a = 0) && decide (fullC tb b = 0)))) = false then 1 else if a.opn = true ∨ b.opn = true then 12 else 0 := rfl
  have cP := fun W (hb : Below w.heap.size w W) => paired_any a b va vb W (h1.keep hb) (h2.keep hb)
  have cK := fun W (hb : Below w.heap.size w W) => chkT_any ta vta W (t1.keep hb)
  have cL := fun W (hb : Below w.heap.size w W) => chkT_any tb vtb W (t2.keep hb)
  have cF := fun W (hb : Below w.heap.size w W) => full_any ta a vta va W (t1.keep hb) (h1.keep hb)
  have cG := fun W (hb : Below w.heap.size w W) => full_any tb b vtb vb W (t2.keep hb) (h2.keep hb)
  unfold FullPost at cF cG
  have hk1 := full_chkT (t := ta) (e := a)
  have hk2 := full_chkT (t := tb) (e := b)
  generalize idleC a b ta tb = R at *
  generalize pairB a b = PB at *
  generalize fullC ta a = F1 at *
  generalize fullC tb b = F2 at *
  generalize fullN ta a = U1 at *
  generalize fullN tb b = U2 at *
  generalize chkT ta = C1 at *
  generalize chkT tb = C2 at *
  replace cP := Lib.hid cP
  replace cK := Lib.hid cK
  replace cL := Lib.hid cL
  replace cF := Lib.hid cF
  replace cG := Lib.hid cG
  replace hk1 := Lib.hid hk1
  replace hk2 := Lib.hid hk2
  replace h1 := Lib.hid h1
  replace h2 := Lib.hid h2
  replace t1 := Lib.hid t1
  replace t2 := Lib.hid t2
  replace uE := Lib.hid uE
  replace uT := Lib.hid uT
  replace uM := Lib.hid uM
  replace uS := Lib.hid uS
  go_enter Tryz.func69, Tryz.ntmps69
  have mk1 : Unit := ()
  have mk2 : Unit := ()
  go_upto_region 1 with (first | go_skip | (clear mk1; refine wpList_boxA HM rfl 98 _ rfl _ rfl ?_; clear HM; intro ga w1 HM hG; replace hF := Lib.hid (hFs.keep hF.out hG.out); clear hG) | (clear mk2; refine wpList_boxA HM rfl 98 _ rfl _ rfl ?_; clear HM; intro gb w1 HM hG; replace hF := Lib.hid (hFs.keep hF.out hG.out); clear hG) | fail)
  have p29 : World.cell? _ ⟨ga, 29, none⟩ = some (.int .i64 ta.length) := HM.out.cell 1 rfl 29
  have q29 : World.cell? _ ⟨gb, 29, none⟩ = some (.int .i64 tb.length) := HM.out.cell 0 rfl 29
  cases PB
  case false =>
    have hh : R = 1 := hR.trans (if_pos (by simp []))
    subst hh
    replace hR := Lib.hid hR
    have mk3 : Unit := ()
    have mk4 : Unit := ()
    have mk5 : Unit := ()
    go_wp2_with (first | go_skip | (refine wpList_loadP 1 HM (by rfl) _ _ rfl _ 0 rfl rfl (endA a va) (by kernel_rfl) _ uE.out rfl (by exact zend) ?_) | (refine wpList_loadP 0 HM (by rfl) _ _ rfl _ 0 rfl rfl (endA b vb) (by kernel_rfl) _ uE.out rfl (by exact zend) ?_) | (refine wpList_loadP 1 HM (by rfl) _ _ rfl _ 28 rfl rfl (tabA ta vta) (by kernel_rfl) _ uT.out rfl (by exact ztab) ?_) | (refine wpList_loadP 0 HM (by rfl) _ _ rfl _ 28 rfl rfl (tabA tb vtb) (by kernel_rfl) _ uT.out rfl (by exact ztab) ?_) | (go_at_call 65; clear mk3; refine (cP.out _ HM.out.below).mono ?_; rintro r w3 ⟨rfl, hb_⟩; replace p29 := ((HM.out.keep hb_).cell 1 rfl 29).trans ((HM.out.cell 1 rfl 29).symm.trans p29); replace q29 := ((HM.out.keep hb_).cell 0 rfl 29).trans ((HM.out.cell 0 rfl 29).symm.trans q29); replace HM := Lib.hid (HM.out.keep hb_); replace hF := Lib.hid (hFs.keep hF.out hb_); clear hb_; dsimp only) | (go_at_call 85; clear mk4; refine (cK.out _ HM.out.below).mono ?_; rintro r w3 ⟨rfl, hb_⟩; replace p29 := ((HM.out.keep hb_).cell 1 rfl 29).trans ((HM.out.cell 1 rfl 29).symm.trans p29); replace q29 := ((HM.out.keep hb_).cell 0 rfl 29).trans ((HM.out.cell 0 rfl 29).symm.trans q29); replace HM := Lib.hid (HM.out.keep hb_); replace hF := Lib.hid (hFs.keep hF.out hb_); clear hb_; dsimp only) | (go_at_call 85; clear mk5; refine (cL.out _ HM.out.below).mono ?_; rintro r w3 ⟨rfl, hb_⟩; replace p29 := ((HM.out.keep hb_).cell 1 rfl 29).trans ((HM.out.cell 1 rfl 29).symm.trans p29); replace q29 := ((HM.out.keep hb_).cell 0 rfl 29).trans ((HM.out.cell 0 rfl 29).symm.trans q29); replace HM := Lib.hid (HM.out.keep hb_); replace hF := Lib.hid (hFs.keep hF.out hb_); clear hb_; dsimp only) | fail)
    try simp only [Exit.inBlock, Exit.then]
    go_ret
    exact ⟨by first | rfl | trivial, HM.out.below⟩
  by_cases e1 : C1 = 0
  case neg =>
    have d1 : (C1 != 0) = true := by rw [bne_iff_ne]; exact e1
    have e8 := hk1.out e1
    have hh : R = 1 := hR.trans (if_pos (by simp [e8]))
    subst hh
    replace hR := Lib.hid hR
    replace e1 := Lib.hid e1
    replace e8 := Lib.hid e8
    have mk3 : Unit := ()
    have mk4 : Unit := ()
    have mk5 : Unit := ()
    go_wp2_with (first | go_skip | (refine wpList_loadP 1 HM (by rfl) _ _ rfl _ 0 rfl rfl (endA a va) (by kernel_rfl) _ uE.out rfl (by exact zend) ?_) | (refine wpList_loadP 0 HM (by rfl) _ _ rfl _ 0 rfl rfl (endA b vb) (by kernel_rfl) _ uE.out rfl (by exact zend) ?_) | (refine wpList_loadP 1 HM (by rfl) _ _ rfl _ 28 rfl rfl (tabA ta vta) (by kernel_rfl) _ uT.out rfl (by exact ztab) ?_) | (refine wpList_loadP 0 HM (by rfl) _ _ rfl _ 28 rfl rfl (tabA tb vtb) (by kernel_rfl) _ uT.out rfl (by exact ztab) ?_) | (go_at_call 65; clear mk3; refine (cP.out _ HM.out.below).mono ?_; rintro r w3 ⟨rfl, hb_⟩; replace p29 := ((HM.out.keep hb_).cell 1 rfl 29).trans ((HM.out.cell 1 rfl 29).symm.trans p29); replace q29 := ((HM.out.keep hb_).cell 0 rfl 29).trans ((HM.out.cell 0 rfl 29).symm.trans q29); replace HM := Lib.hid (HM.out.keep hb_); replace hF := Lib.hid (hFs.keep hF.out hb_); clear hb_; dsimp only) | (go_at_call 85; clear mk4; refine (cK.out _ HM.out.below).mono ?_; rintro r w3 ⟨rfl, hb_⟩; replace p29 := ((HM.out.keep hb_).cell 1 rfl 29).trans ((HM.out.cell 1 rfl 29).symm.trans p29); replace q29 := ((HM.out.keep hb_).cell 0 rfl 29).trans ((HM.out.cell 0 rfl 29).symm.trans q29); replace HM := Lib.hid (HM.out.keep hb_); replace hF := Lib.hid (hFs.keep hF.out hb_); clear hb_; dsimp only) | (go_at_call 85; clear mk5; refine (cL.out _ HM.out.below).mono ?_; rintro r w3 ⟨rfl, hb_⟩; replace p29 := ((HM.out.keep hb_).cell 1 rfl 29).trans ((HM.out.cell 1 rfl 29).symm.trans p29); replace q29 := ((HM.out.keep hb_).cell 0 rfl 29).trans ((HM.out.cell 0 rfl 29).symm.trans q29); replace HM := Lib.hid (HM.out.keep hb_); replace hF := Lib.hid (hFs.keep hF.out hb_); clear hb_; dsimp only) | fail)
    try simp only [Exit.inBlock, Exit.then]
    go_ret
    exact ⟨by first | rfl | trivial, HM.out.below⟩
  have d1 : (C1 != 0) = false := by rw [bne_eq_false_iff_eq]; exact e1
  by_cases e2 : C2 = 0
  case neg =>
    have d2 : (C2 != 0) = true := by rw [bne_iff_ne]; exact e2
    have e8 := hk2.out e2
    have hh : R = 1 := hR.trans (if_pos (by simp [e8]))
    subst hh
    replace hR := Lib.hid hR
    replace e1 := Lib.hid e1
    replace e2 := Lib.hid e2
    replace e8 := Lib.hid e8
    have mk3 : Unit := ()
    have mk4 : Unit := ()
    have mk5 : Unit := ()
    go_wp2_with (first | go_skip | (refine wpList_loadP 1 HM (by rfl) _ _ rfl _ 0 rfl rfl (endA a va) (by kernel_rfl) _ uE.out rfl (by exact zend) ?_) | (refine wpList_loadP 0 HM (by rfl) _ _ rfl _ 0 rfl rfl (endA b vb) (by kernel_rfl) _ uE.out rfl (by exact zend) ?_) | (refine wpList_loadP 1 HM (by rfl) _ _ rfl _ 28 rfl rfl (tabA ta vta) (by kernel_rfl) _ uT.out rfl (by exact ztab) ?_) | (refine wpList_loadP 0 HM (by rfl) _ _ rfl _ 28 rfl rfl (tabA tb vtb) (by kernel_rfl) _ uT.out rfl (by exact ztab) ?_) | (go_at_call 65; clear mk3; refine (cP.out _ HM.out.below).mono ?_; rintro r w3 ⟨rfl, hb_⟩; replace p29 := ((HM.out.keep hb_).cell 1 rfl 29).trans ((HM.out.cell 1 rfl 29).symm.trans p29); replace q29 := ((HM.out.keep hb_).cell 0 rfl 29).trans ((HM.out.cell 0 rfl 29).symm.trans q29); replace HM := Lib.hid (HM.out.keep hb_); replace hF := Lib.hid (hFs.keep hF.out hb_); clear hb_; dsimp only) | (go_at_call 85; clear mk4; refine (cK.out _ HM.out.below).mono ?_; rintro r w3 ⟨rfl, hb_⟩; replace p29 := ((HM.out.keep hb_).cell 1 rfl 29).trans ((HM.out.cell 1 rfl 29).symm.trans p29); replace q29 := ((HM.out.keep hb_).cell 0 rfl 29).trans ((HM.out.cell 0 rfl 29).symm.trans q29); replace HM := Lib.hid (HM.out.keep hb_); replace hF := Lib.hid (hFs.keep hF.out hb_); clear hb_; dsimp only) | (go_at_call 85; clear mk5; refine (cL.out _ HM.out.below).mono ?_; rintro r w3 ⟨rfl, hb_⟩; replace p29 := ((HM.out.keep hb_).cell 1 rfl 29).trans ((HM.out.cell 1 rfl 29).symm.trans p29); replace q29 := ((HM.out.keep hb_).cell 0 rfl 29).trans ((HM.out.cell 0 rfl 29).symm.trans q29); replace HM := Lib.hid (HM.out.keep hb_); replace hF := Lib.hid (hFs.keep hF.out hb_); clear hb_; dsimp only) | fail)
    try simp only [Exit.inBlock, Exit.then]
    go_ret
    exact ⟨by first | rfl | trivial, HM.out.below⟩
  have d2 : (C2 != 0) = false := by rw [bne_eq_false_iff_eq]; exact e2
  by_cases e3 : ta.length = tb.length
  case neg =>
    have d3 : (ta.length != tb.length) = true := by rw [bne_iff_ne]; exact e3
    have hh : R = 1 := hR.trans (if_pos (by simp [e3]))
    subst hh
    replace hR := Lib.hid hR
    replace e1 := Lib.hid e1
    replace e2 := Lib.hid e2
    replace e3 := Lib.hid e3
    have mk3 : Unit := ()
    have mk4 : Unit := ()
    have mk5 : Unit := ()
    go_wp2_with (first | go_skip | (refine wpList_loadP 1 HM (by rfl) _ _ rfl _ 0 rfl rfl (endA a va) (by kernel_rfl) _ uE.out rfl (by exact zend) ?_) | (refine wpList_loadP 0 HM (by rfl) _ _ rfl _ 0 rfl rfl (endA b vb) (by kernel_rfl) _ uE.out rfl (by exact zend) ?_) | (refine wpList_loadP 1 HM (by rfl) _ _ rfl _ 28 rfl rfl (tabA ta vta) (by kernel_rfl) _ uT.out rfl (by exact ztab) ?_) | (refine wpList_loadP 0 HM (by rfl) _ _ rfl _ 28 rfl rfl (tabA tb vtb) (by kernel_rfl) _ uT.out rfl (by exact ztab) ?_) | (go_at_call 65; clear mk3; refine (cP.out _ HM.out.below).mono ?_; rintro r w3 ⟨rfl, hb_⟩; replace p29 := ((HM.out.keep hb_).cell 1 rfl 29).trans ((HM.out.cell 1 rfl 29).symm.trans p29); replace q29 := ((HM.out.keep hb_).cell 0 rfl 29).trans ((HM.out.cell 0 rfl 29).symm.trans q29); replace HM := Lib.hid (HM.out.keep hb_); replace hF := Lib.hid (hFs.keep hF.out hb_); clear hb_; dsimp only) | (go_at_call 85; clear mk4; refine (cK.out _ HM.out.below).mono ?_; rintro r w3 ⟨rfl, hb_⟩; replace p29 := ((HM.out.keep hb_).cell 1 rfl 29).trans ((HM.out.cell 1 rfl 29).symm.trans p29); replace q29 := ((HM.out.keep hb_).cell 0 rfl 29).trans ((HM.out.cell 0 rfl 29).symm.trans q29); replace HM := Lib.hid (HM.out.keep hb_); replace hF := Lib.hid (hFs.keep hF.out hb_); clear hb_; dsimp only) | (go_at_call 85; clear mk5; refine (cL.out _ HM.out.below).mono ?_; rintro r w3 ⟨rfl, hb_⟩; replace p29 := ((HM.out.keep hb_).cell 1 rfl 29).trans ((HM.out.cell 1 rfl 29).symm.trans p29); replace q29 := ((HM.out.keep hb_).cell 0 rfl 29).trans ((HM.out.cell 0 rfl 29).symm.trans q29); replace HM := Lib.hid (HM.out.keep hb_); replace hF := Lib.hid (hFs.keep hF.out hb_); clear hb_; dsimp only) | fail)
    try simp only [Exit.inBlock, Exit.then]
    go_ret
    exact ⟨by first | rfl | trivial, HM.out.below⟩
  have d3 : (ta.length != tb.length) = false := by rw [bne_eq_false_iff_eq]; exact e3
  have e0x := Lib.hid (decide_eq_true e3)
  replace hR := Lib.hid hR
  replace e1 := Lib.hid e1
  replace e2 := Lib.hid e2
  replace e3 := Lib.hid e3
  have mk3 : Unit := ()
  have mk4 : Unit := ()
  have mk5 : Unit := ()
  go_upto_region 3 with (first | go_skip | (refine wpList_loadP 1 HM (by rfl) _ _ rfl _ 0 rfl rfl (endA a va) (by kernel_rfl) _ uE.out rfl (by exact zend) ?_) | (refine wpList_loadP 0 HM (by rfl) _ _ rfl _ 0 rfl rfl (endA b vb) (by kernel_rfl) _ uE.out rfl (by exact zend) ?_) | (refine wpList_loadP 1 HM (by rfl) _ _ rfl _ 28 rfl rfl (tabA ta vta) (by kernel_rfl) _ uT.out rfl (by exact ztab) ?_) | (refine wpList_loadP 0 HM (by rfl) _ _ rfl _ 28 rfl rfl (tabA tb vtb) (by kernel_rfl) _ uT.out rfl (by exact ztab) ?_) | (go_at_call 65; clear mk3; refine (cP.out _ HM.out.below).mono ?_; rintro r w3 ⟨rfl, hb_⟩; replace p29 := ((HM.out.keep hb_).cell 1 rfl 29).trans ((HM.out.cell 1 rfl 29).symm.trans p29); replace q29 := ((HM.out.keep hb_).cell 0 rfl 29).trans ((HM.out.cell 0 rfl 29).symm.trans q29); replace HM := Lib.hid (HM.out.keep hb_); replace hF := Lib.hid (hFs.keep hF.out hb_); clear hb_; dsimp only) | (go_at_call 85; clear mk4; refine (cK.out _ HM.out.below).mono ?_; rintro r w3 ⟨rfl, hb_⟩; replace p29 := ((HM.out.keep hb_).cell 1 rfl 29).trans ((HM.out.cell 1 rfl 29).symm.trans p29); replace q29 := ((HM.out.keep hb_).cell 0 rfl 29).trans ((HM.out.cell 0 rfl 29).symm.trans q29); replace HM := Lib.hid (HM.out.keep hb_); replace hF := Lib.hid (hFs.keep hF.out hb_); clear hb_; dsimp only) | (go_at_call 85; clear mk5; refine (cL.out _ HM.out.below).mono ?_; rintro r w3 ⟨rfl, hb_⟩; replace p29 := ((HM.out.keep hb_).cell 1 rfl 29).trans ((HM.out.cell 1 rfl 29).symm.trans p29); replace q29 := ((HM.out.keep hb_).cell 0 rfl 29).trans ((HM.out.cell 0 rfl 29).symm.trans q29); replace HM := Lib.hid (HM.out.keep hb_); replace hF := Lib.hid (hFs.keep hF.out hb_); clear hb_; dsimp only) | fail)
  clear p29 q29 d1 d2 d3 cP cK cL hk1 hk2
  refine wp_region_lit ?_
  refine wpList_loadM 1 HM rfl _ _ rfl _ rfl rfl _ uS.out rfl (by exact zsd) ?_
  try go_frame
  refine wpList_loadM 0 HM rfl _ _ rfl _ rfl rfl _ uS.out rfl (by exact zsd) ?_
  try go_frame
  refine wpList_makes HM rfl (sidesA a va ta vta b vb tb vtb) 98 (fun g => .slice (some ⟨g, 0, none⟩) 2 2) (by kernel_rfl) ?_
  clear HM
  intro pb w5 HM hG
  replace hF := Lib.hid (hFs.keep hF.out hG.out)
  clear hG
  try go_frame
  go_wp2_with fail
  go_loopw [6, 7, 8, 40] (fun _ _ _ i wr => Hid ((i = .int .i64 0 ∧ Mem w wr [(pb, sidesA a va ta vta b vb tb vtb, 98), (gb, sideA b vb tb vtb, 98), (ga, sideA a va ta vta, 98)]) ∨ (i = .int .i64 1 ∧ F1 = 0 ∧ Mem w wr [(pb, sidesA a va ta vta b vb tb vtb, 98), (gb, sideA b vb tb vtb, 98), (ga, sideA a va ta vta, 98)]) ∨ (i = .int .i64 2 ∧ F1 = 0 ∧ F2 = 0 ∧ Mem w wr [(pb, sidesA a va ta vta b vb tb vtb, 98), (gb, sideA b vb tb vtb, 98), (ga, sideA a va ta vta, 98)]))) (fun _ _ _ i _ => 2 - (intOf i).toNat)
  case atStart => exact Lib.hid (.inl ⟨rfl, HM.out⟩)
  case round =>
    clear HM hF hFs
    rcases hrel.out with ⟨rfl, HM⟩ | ⟨rfl, e1, HM⟩ | ⟨rfl, e1, e2, HM⟩
    · clear hrel
      replace HM := Lib.hid HM
      obtain ⟨F0, hFs, hF⟩ : ∃ F : World → Prop, Stb F ∧ Hid (F wr) := ⟨_, Stb.true, trivial⟩
      have mk6 : Unit := ()
      go_upto_region 6 with (first | go_skip | (refine wpList_loadP 0 HM (by rfl) _ _ rfl _ 0 rfl rfl (sideA a va ta vta) (by kernel_rfl) _ uS.out rfl (by exact zsd) ?_) | (clear mk6; refine wpList_allocN HM rfl 98 rfl sdInfo ?_; clear HM; intro g6 w1 HM hG hN9; replace hF := Lib.hid (hFs.keep hF.out hG.out); clear hG hN9) | (refine wpList_storeF 0 HM rfl _ _ _ rfl _ rfl rfl _ rfl (by exact zsd) (by rfl) (by rfl) ?_; have hBq := HM.out.at_ 0 rfl; clear HM; intro w4 HM hG4; simp only [List.set] at HM; replace hF := Lib.hid (hFs.put hF.out hBq (by decide) (by decide) hG4.out); clear hBq hG4) | fail)
      have mk7 : Unit := ()
      have mk8 : Unit := ()
      go_upto_region 7 with (first | go_skip | (refine wpList_loadP 0 HM (by rfl) _ _ rfl _ 28 rfl rfl (tabA ta vta) (by kernel_rfl) _ uT.out rfl (by exact ztab) ?_) | (refine wpList_loadP 0 HM (by rfl) _ _ rfl _ 0 rfl rfl (endA a va) (by kernel_rfl) _ uE.out rfl (by exact zend) ?_) | (go_at_call 38; clear mk7; refine (cF.out _ HM.out.below).mono ?_; rintro r w3 ⟨v9, rfl, hT9, hb_⟩; replace HM := Lib.hid (HM.out.keep hb_); replace hF := Lib.hid (hFs.keep hF.out hb_); clear hb_; dsimp only) | (clear mk8; refine wpList_allocN HM rfl 29 rfl tabInfo ?_; clear HM; intro g7 w1 HM hG hN9; replace hF := Lib.hid (hFs.keep hF.out hG.out); clear hG hN9) | (refine wpList_storeF 0 HM rfl _ _ _ rfl _ rfl rfl _ rfl (by exact ztab) (by rfl) (by rfl) ?_; have hBq := HM.out.at_ 0 rfl; clear HM; intro w4 HM hG4; simp only [List.set] at HM; replace hF := Lib.hid (hFs.put hF.out hBq (by decide) (by decide) hG4.out); clear hBq hG4) | fail)
      clear hT9
      by_cases e9 : F1 = 0
      case neg =>
        have d9 : (F1 != 0) = true := by rw [bne_iff_ne]; exact e9
        have hh : R = 1 := hR.out.trans (if_pos (by simp [e9]))
        subst hh
        replace e9 := Lib.hid e9
        go_wp2_with fail
        try simp only [Exit.inBlock, Exit.then]
        go_ret
        exact ⟨by first | rfl | trivial, HM.out.below⟩
      have d9 : (F1 != 0) = false := by rw [bne_eq_false_iff_eq]; exact e9
      replace e9 := Lib.hid e9
      go_wp2_with fail
      exact ⟨Lib.hid (.inr (.inl ⟨by first | trivial | go_num, e9.out, HM.out.sub (by repeat (first | exact List.Sublist.refl _ | apply List.Sublist.cons_cons | apply List.Sublist.cons))⟩)), by simp [intOf]⟩
    · clear hrel
      replace HM := Lib.hid HM
      replace e1 := Lib.hid e1
      obtain ⟨F0, hFs, hF⟩ : ∃ F : World → Prop, Stb F ∧ Hid (F wr) := ⟨_, Stb.true, trivial⟩
      have mk6 : Unit := ()
      go_upto_region 6 with (first | go_skip | (refine wpList_loadP 0 HM (by rfl) _ _ rfl _ 31 rfl rfl (sideA b vb tb vtb) (by kernel_rfl) _ uS.out rfl (by exact zsd) ?_) | (clear mk6; refine wpList_allocN HM rfl 98 rfl sdInfo ?_; clear HM; intro g6 w1 HM hG hN9; replace hF := Lib.hid (hFs.keep hF.out hG.out); clear hG hN9) | (refine wpList_storeF 0 HM rfl _ _ _ rfl _ rfl rfl _ rfl (by exact zsd) (by rfl) (by rfl) ?_; have hBq := HM.out.at_ 0 rfl; clear HM; intro w4 HM hG4; simp only [List.set] at HM; replace hF := Lib.hid (hFs.put hF.out hBq (by decide) (by decide) hG4.out); clear hBq hG4) | fail)
      have mk7 : Unit := ()
      have mk8 : Unit := ()
      go_upto_region 7 with (first | go_skip | (refine wpList_loadP 0 HM (by rfl) _ _ rfl _ 28 rfl rfl (tabA tb vtb) (by kernel_rfl) _ uT.out rfl (by exact ztab) ?_) | (refine wpList_loadP 0 HM (by rfl) _ _ rfl _ 0 rfl rfl (endA b vb) (by kernel_rfl) _ uE.out rfl (by exact zend) ?_) | (go_at_call 38; clear mk7; refine (cG.out _ HM.out.below).mono ?_; rintro r w3 ⟨v9, rfl, hT9, hb_⟩; replace HM := Lib.hid (HM.out.keep hb_); replace hF := Lib.hid (hFs.keep hF.out hb_); clear hb_; dsimp only) | (clear mk8; refine wpList_allocN HM rfl 29 rfl tabInfo ?_; clear HM; intro g7 w1 HM hG hN9; replace hF := Lib.hid (hFs.keep hF.out hG.out); clear hG hN9) | (refine wpList_storeF 0 HM rfl _ _ _ rfl _ rfl rfl _ rfl (by exact ztab) (by rfl) (by rfl) ?_; have hBq := HM.out.at_ 0 rfl; clear HM; intro w4 HM hG4; simp only [List.set] at HM; replace hF := Lib.hid (hFs.put hF.out hBq (by decide) (by decide) hG4.out); clear hBq hG4) | fail)
      clear hT9
      by_cases e9 : F2 = 0
      case neg =>
        have d9 : (F2 != 0) = true := by rw [bne_iff_ne]; exact e9
        have hh : R = 1 := hR.out.trans (if_pos (by simp [e9]))
        subst hh
        replace e9 := Lib.hid e9
        go_wp2_with fail
        try simp only [Exit.inBlock, Exit.then]
        go_ret
        exact ⟨by first | rfl | trivial, HM.out.below⟩
      have d9 : (F2 != 0) = false := by rw [bne_eq_false_iff_eq]; exact e9
      replace e9 := Lib.hid e9
      go_wp2_with fail
      exact ⟨Lib.hid (.inr (.inr ⟨by first | trivial | go_num, e1.out, e9.out, HM.out.sub (by repeat (first | exact List.Sublist.refl _ | apply List.Sublist.cons_cons | apply List.Sublist.cons))⟩)), by simp [intOf]⟩
    · clear hrel
      replace HM := Lib.hid HM
      obtain ⟨F0, hFs, hF⟩ : ∃ F : World → Prop, Stb F ∧ Hid (F wr) := ⟨_, Stb.true, trivial⟩
      have p4 : World.cell? _ ⟨ga, 4, none⟩ = some (.bool a.opn) := HM.out.cell 2 rfl 4
      have q4 : World.cell? _ ⟨gb, 4, none⟩ = some (.bool b.opn) := HM.out.cell 1 rfl 4
      replace hR := Lib.hid (hR.out.trans (if_neg (by rw [e1, e2, e0x.out]; decide)))
      replace e1 := Lib.hid e1
      replace e2 := Lib.hid e2
      generalize a.opn = oa at *
      generalize b.opn = ob at *
      cases oa
      · cases ob
        · have hh : R = 0 := hR.out.trans (if_neg (by decide))
          subst hh
          go_wp2_with fail
          try simp only [Exit.inBlock, Exit.then]
          go_ret
          exact ⟨by first | rfl | trivial, HM.out.below⟩
        · have hh : R = 12 := hR.out.trans (if_pos (.inr rfl))
          subst hh
          go_wp2_with fail
          try simp only [Exit.inBlock, Exit.then]
          go_ret
          exact ⟨by first | rfl | trivial, HM.out.below⟩
      · have hh : R = 12 := hR.out.trans (if_pos (.inl rfl))
        subst hh
        go_wp2_with fail
        try simp only [Exit.inBlock, Exit.then]
        go_ret
        exact ⟨by first | rfl | trivial, HM.out.below⟩
end Tx
end Go.Proofs.YtfoffooblkofhaaGreat
