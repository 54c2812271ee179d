/- Chapter 27: the law Pairs. -/
import Derived.Test.YtfoffooblkofhaaGreatEs
import Derived.Test.YtfoffooblkofhaaGreatCz
import Derived.Test.YtfoffooblkofhaaGreatCq
import Derived.Test.YtfoffooblkofhaaGreatBz
set_option linter.unusedVariables false
set_option linter.unusedSimpArgs false
namespace Go.Proofs.YtfoffooblkofhaaGreat
open Go Go.RowKit Go.Sort Go.Shelf Go.Maps
namespace Tx
open Sw Mm Pl
set_option maxRecDepth 100000 in
set_option maxHeartbeats 8000000 in
theorem lawPairs_any (a b : Ed) (va vb : EdV) (w : World) (h1 : EdIs w va a) (h2 : EdIs w vb b) : Calls Tryz.prog 4 #[.agg (endA a va), .agg (endA b vb)] w fun r w' => r = .returned (.bool true) ∧ Below w.heap.size w w' := by
  have HM := Lib.hid (Mem.start w)
  obtain ⟨F0, hFs, hF⟩ : ∃ F : World → Prop, Stb F ∧ Hid (F w) := ⟨_, Stb.true, trivial⟩
  have uE := Tryz.underlying27
  have uT := Tryz.underlying29
  have uM := Tryz.underlying25
  have cAw := fun W => awake27_any W
  have cFa := fun W (hb : Below w.heap.size w W) => fewE_any a va W (h1.keep hb)
  have cFb := fun W (hb : Below w.heap.size w W) => fewE_any b vb W (h2.keep hb)
  have cCp := fun W (hb : Below w.heap.size w W) => consP_any a b va vb W (h1.keep hb) (h2.keep hb)
  have cCr := fun W (hb : Below w.heap.size w W) => consR_any a b va vb W (h1.keep hb) (h2.keep hb)
  have cDp := fun W (hb : Below w.heap.size w W) => detP_any a b va vb W (h1.keep hb) (h2.keep hb)
  have cDr := fun W (hb : Below w.heap.size w W) => detR_any a b va vb W (h1.keep hb) (h2.keep hb)
  generalize fewE a = FA at *
  generalize fewE b = FB at *
  generalize consB a b = CB at *
  generalize detB a b = DB at *
  have dC : (CB == CB) = true := by cases CB <;> rfl
  have dD : (DB == DB) = true := by cases DB <;> rfl
  replace cAw := Lib.hid cAw
  replace cFa := Lib.hid cFa
  replace cFb := Lib.hid cFb
  replace cCp := Lib.hid cCp
  replace cCr := Lib.hid cCr
  replace cDp := Lib.hid cDp
  replace cDr := Lib.hid cDr
  replace h1 := Lib.hid h1
  replace h2 := Lib.hid h2
  replace uE := Lib.hid uE
  replace uT := Lib.hid uT
  replace uM := Lib.hid uM
  go_enter Tryz.func4, Tryz.ntmps4
  have mk1 : Unit := ()
  have mk2 : Unit := ()
  go_upto_region 1 with (first | go_skip | (clear mk1; refine wpList_boxA HM rfl 27 _ rfl _ rfl ?_; clear HM; intro ga w1 HM hG; replace hF := Lib.hid (hFs.keep hF.out hG.out); clear hG) | (clear mk2; refine wpList_boxA HM rfl 27 _ rfl _ rfl ?_; clear HM; intro gb w1 HM hG; replace hF := Lib.hid (hFs.keep hF.out hG.out); clear hG) | fail)
  have mk3 : Unit := ()
  go_upto_region 3 with (first | go_skip | (go_at_call 19; clear mk3; refine (cAw.out _).mono ?_; rintro r w3 ⟨rfl, hb_⟩; replace HM := Lib.hid (HM.out.keep hb_); replace hF := Lib.hid (hFs.keep hF.out hb_); clear hb_; dsimp only) | fail)
  have mk4 : Unit := ()
  have mk5 : Unit := ()
  cases FA
  case false =>
    go_wp2_with (first | go_skip | (refine wpList_loadG 1 HM (by rfl) _ _ rfl _ rfl rfl _ uE.out rfl (by exact zend) ?_) | (refine wpList_loadG 0 HM (by rfl) _ _ rfl _ rfl rfl _ uE.out rfl (by exact zend) ?_) | (go_at_call 12; clear mk4; refine (cFa.out _ HM.out.below).mono ?_; rintro r w3 ⟨rfl, hb_⟩; replace HM := Lib.hid (HM.out.keep hb_); replace hF := Lib.hid (hFs.keep hF.out hb_); clear hb_; dsimp only) | (go_at_call 12; clear mk5; refine (cFb.out _ HM.out.below).mono ?_; rintro r w3 ⟨rfl, hb_⟩; replace HM := Lib.hid (HM.out.keep hb_); replace hF := Lib.hid (hFs.keep hF.out hb_); clear hb_; dsimp only) | fail)
    try simp only [Exit.inBlock, Exit.then]
    go_ret
    exact ⟨by first | rfl | trivial, HM.out.below⟩
  cases FB
  case false =>
    go_wp2_with (first | go_skip | (refine wpList_loadG 1 HM (by rfl) _ _ rfl _ rfl rfl _ uE.out rfl (by exact zend) ?_) | (refine wpList_loadG 0 HM (by rfl) _ _ rfl _ rfl rfl _ uE.out rfl (by exact zend) ?_) | (go_at_call 12; clear mk4; refine (cFa.out _ HM.out.below).mono ?_; rintro r w3 ⟨rfl, hb_⟩; replace HM := Lib.hid (HM.out.keep hb_); replace hF := Lib.hid (hFs.keep hF.out hb_); clear hb_; dsimp only) | (go_at_call 12; clear mk5; refine (cFb.out _ HM.out.below).mono ?_; rintro r w3 ⟨rfl, hb_⟩; replace HM := Lib.hid (HM.out.keep hb_); replace hF := Lib.hid (hFs.keep hF.out hb_); clear hb_; dsimp only) | fail)
    try simp only [Exit.inBlock, Exit.then]
    go_ret
    exact ⟨by first | rfl | trivial, HM.out.below⟩
  go_upto_region 5 with (first | go_skip | (refine wpList_loadG 1 HM (by rfl) _ _ rfl _ rfl rfl _ uE.out rfl (by exact zend) ?_) | (refine wpList_loadG 0 HM (by rfl) _ _ rfl _ rfl rfl _ uE.out rfl (by exact zend) ?_) | (go_at_call 12; clear mk4; refine (cFa.out _ HM.out.below).mono ?_; rintro r w3 ⟨rfl, hb_⟩; replace HM := Lib.hid (HM.out.keep hb_); replace hF := Lib.hid (hFs.keep hF.out hb_); clear hb_; dsimp only) | (go_at_call 12; clear mk5; refine (cFb.out _ HM.out.below).mono ?_; rintro r w3 ⟨rfl, hb_⟩; replace HM := Lib.hid (HM.out.keep hb_); replace hF := Lib.hid (hFs.keep hF.out hb_); clear hb_; dsimp only) | fail)
  replace hF := Lib.hid (hFs.keep hF.out ((Below.refl _ _).drew))
  replace HM := Lib.hid (HM.out.keep ((Below.refl _ _).drew))
  have HMs := Lib.hid HM.out
  refine wp_region_plan (fun w' => Mem _ w' _) 13 [(0, true), (1, true), (3, true), (4, true), (2, false), (5, false), (6, true), (7, true), (8, true), (9, true), (11, true), (12, true), (10, false)] (by kernel_rfl) (by kernel_rfl) HMs.out ?_
  generalize World.drew _ = wd at *
  refine plTakeL rfl (yields_memG rfl _ _ rfl 1 (fun w_ hSw => hSw) rfl rfl _ uE.out rfl (by exact zend)) ?_
  try simp only [Act.put, List.setIfInBounds_toArray, List.set_cons_zero, List.set_cons_succ, List.getElem_toArray, List.getElem_cons_succ, List.getElem_cons_zero]
  refine plTakeL rfl (yields_memG rfl _ _ rfl 0 (fun w_ hSw => hSw) rfl rfl _ uE.out rfl (by exact zend)) ?_
  try simp only [Act.put, List.setIfInBounds_toArray, List.set_cons_zero, List.set_cons_succ, List.getElem_toArray, List.getElem_cons_succ, List.getElem_cons_zero]
  refine plTakeL rfl (yields_memG rfl _ _ rfl 1 (fun w_ hSw => hSw) rfl rfl _ uE.out rfl (by exact zend)) ?_
  try simp only [Act.put, List.setIfInBounds_toArray, List.set_cons_zero, List.set_cons_succ, List.getElem_toArray, List.getElem_cons_succ, List.getElem_cons_zero]
  refine plTakeL rfl (yields_memG rfl _ _ rfl 0 (fun w_ hSw => hSw) rfl rfl _ uE.out rfl (by exact zend)) ?_
  try simp only [Act.put, List.setIfInBounds_toArray, List.set_cons_zero, List.set_cons_succ, List.getElem_toArray, List.getElem_cons_succ, List.getElem_cons_zero]
  refine plStepG rfl rfl fun K hK => ?_
  go_wp2_with (first | (go_at_call 20; refine (cCp.out _ HM.out.below).mono ?_; rintro r w3 ⟨rfl, hb_⟩) | fail)
  refine hK.out _ _ (HMs.out.keep hb_) fun hS_ => ?_
  clear hK K hS_
  try simp only [Act.put, List.setIfInBounds_toArray, List.set_cons_zero, List.set_cons_succ, List.getElem_toArray, List.getElem_cons_succ, List.getElem_cons_zero]
  replace HM := Lib.hid (HM.out.keep hb_)
  replace HMs := Lib.hid (HMs.out.keep hb_)
  replace hF := Lib.hid (hFs.keep hF.out hb_)
  clear hb_
  refine plStepG rfl rfl fun K hK => ?_
  go_wp2_with (first | (go_at_call 21; refine (cCr.out _ HM.out.below).mono ?_; rintro r w3 ⟨rfl, hb_⟩) | fail)
  refine hK.out _ _ (HMs.out.keep hb_) fun hS_ => ?_
  clear hK K hS_
  try simp only [Act.put, List.setIfInBounds_toArray, List.set_cons_zero, List.set_cons_succ, List.getElem_toArray, List.getElem_cons_succ, List.getElem_cons_zero]
  replace HM := Lib.hid (HM.out.keep hb_)
  replace HMs := Lib.hid (HMs.out.keep hb_)
  replace hF := Lib.hid (hFs.keep hF.out hb_)
  clear hb_
  refine plPureG rfl rfl (by intro w_ hSw; go_simp; first | done | exact rfl) ?_
  try simp only [Act.put, List.setIfInBounds_toArray, List.set_cons_zero, List.set_cons_succ, List.getElem_toArray, List.getElem_cons_succ, List.getElem_cons_zero]
  refine plPureG rfl rfl (by intro w_ hSw; go_simp; first | done | exact rfl) ?_
  try simp only [Act.put, List.setIfInBounds_toArray, List.set_cons_zero, List.set_cons_succ, List.getElem_toArray, List.getElem_cons_succ, List.getElem_cons_zero]
  refine plTakeL rfl (yields_memG rfl _ _ rfl 1 (fun w_ hSw => hSw) rfl rfl _ uE.out rfl (by exact zend)) ?_
  try simp only [Act.put, List.setIfInBounds_toArray, List.set_cons_zero, List.set_cons_succ, List.getElem_toArray, List.getElem_cons_succ, List.getElem_cons_zero]
  refine plTakeL rfl (yields_memG rfl _ _ rfl 0 (fun w_ hSw => hSw) rfl rfl _ uE.out rfl (by exact zend)) ?_
  try simp only [Act.put, List.setIfInBounds_toArray, List.set_cons_zero, List.set_cons_succ, List.getElem_toArray, List.getElem_cons_succ, List.getElem_cons_zero]
  refine plTakeL rfl (yields_memG rfl _ _ rfl 1 (fun w_ hSw => hSw) rfl rfl _ uE.out rfl (by exact zend)) ?_
  try simp only [Act.put, List.setIfInBounds_toArray, List.set_cons_zero, List.set_cons_succ, List.getElem_toArray, List.getElem_cons_succ, List.getElem_cons_zero]
  refine plTakeL rfl (yields_memG rfl _ _ rfl 0 (fun w_ hSw => hSw) rfl rfl _ uE.out rfl (by exact zend)) ?_
  try simp only [Act.put, List.setIfInBounds_toArray, List.set_cons_zero, List.set_cons_succ, List.getElem_toArray, List.getElem_cons_succ, List.getElem_cons_zero]
  refine plStepG rfl rfl fun K hK => ?_
  go_wp2_with (first | (go_at_call 22; refine (cDp.out _ HM.out.below).mono ?_; rintro r w3 ⟨rfl, hb_⟩) | fail)
  refine hK.out _ _ (HMs.out.keep hb_) fun hS_ => ?_
  clear hK K hS_
  try simp only [Act.put, List.setIfInBounds_toArray, List.set_cons_zero, List.set_cons_succ, List.getElem_toArray, List.getElem_cons_succ, List.getElem_cons_zero]
  replace HM := Lib.hid (HM.out.keep hb_)
  replace HMs := Lib.hid (HMs.out.keep hb_)
  replace hF := Lib.hid (hFs.keep hF.out hb_)
  clear hb_
  refine plDone ?_
  simp only [List.drop]
  have mk6 : Unit := ()
  go_wp2_with (first | go_skip | (go_at_call 23; clear mk6; refine (cDr.out _ HM.out.below).mono ?_; rintro r w3 ⟨rfl, hb_⟩; replace HM := Lib.hid (HM.out.keep hb_); replace hF := Lib.hid (hFs.keep hF.out hb_); clear hb_; dsimp only) | fail)
  try simp only [Exit.inBlock, Exit.then]
  go_ret
  exact ⟨by first | rfl | trivial, HM.out.below⟩
end Tx
end Go.Proofs.YtfoffooblkofhaaGreat
