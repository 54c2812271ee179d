/- Chapter 27: the law fresh. -/
import Derived.Maps.RangeWalk
import Derived.Test.YtfoffooblkofhaaGreatEq
import Derived.Test.YtfoffooblkofhaaGreatCz
import Derived.Test.YtfoffooblkofhaaGreatCq
set_option linter.unusedVariables false
set_option linter.unusedSimpArgs false
namespace Go.Proofs.YtfoffooblkofhaaGreat
open Go Go.RowKit Go.Sort Go.Shelf Go.Maps
namespace Tx
open Sw Mm Pl
def freshB (ta tb : Tab) : Bool := decide (startC ta.node tb.node = 0) && (decide (startC tb.node ta.node = 0) && idleB (startE ta.node tb.node) (startE tb.node ta.node) ta tb)
def FrPost (ta tb : Tab) (w : World) (r : Ending) (w' : World) : Prop := ∃ va vb x y, r = .returned (.tuple #[.agg (endA x va), .agg (endA y vb), .bool (freshB ta tb)]) ∧ (freshB ta tb = true → x = startE ta.node tb.node ∧ y = startE tb.node ta.node) ∧ EdOwn w' va x ∧ EdOwn w' vb y ∧ Below w.heap.size w w'
set_option maxRecDepth 100000 in
set_option maxHeartbeats 8000000 in
theorem fresh_any (ta tb : Tab) (vta vtb : TabV) (w : World) (t1 : TabIs w vta ta) (t2 : TabIs w vtb tb) : Calls Tryz.prog 31 #[.agg (tabA ta vta), .agg (tabA tb vtb)] w (FrPost ta tb w) := by
  have HM := Lib.hid (Mem.start w)
  obtain ⟨F0, hFs, hF⟩ : ∃ F : World → Prop, Stb F ∧ Hid (F w) := ⟨_, Stb.true, trivial⟩
  have uE := Tryz.underlying27
  have uT := Tryz.underlying29
  have uM := Tryz.underlying25
  have cS := fun W => start_own ta.node tb.node W
  have cT := fun W => start_own tb.node ta.node W
  have cP := fun va vb W (hb : Below w.heap.size w W) (q1 : EdIs W va (startE ta.node tb.node)) (q2 : EdIs W vb (startE tb.node ta.node)) => pairR_any (startE ta.node tb.node) (startE tb.node ta.node) ta tb va vb vta vtb W q1 q2 (t1.keep hb) (t2.keep hb)
  unfold EndOwn at cS cT
  have hS : startC ta.node tb.node = 0 → startN ta.node tb.node = startE ta.node tb.node := fun h => by unfold startN; rw [if_pos h]
  have hT : startC tb.node ta.node = 0 → startN tb.node ta.node = startE tb.node ta.node := fun h => by unfold startN; rw [if_pos h]
  have hR : freshB ta tb = (decide (startC ta.node tb.node = 0) && (decide (startC tb.node ta.node = 0) && idleB (startE ta.node tb.node) (startE tb.node ta.node) ta tb)) := rfl
  generalize hP : FrPost ta tb w = P
  have hPo : ∀ va vb x y B W, freshB ta tb = B → (B = true → x = startE ta.node tb.node ∧ y = startE tb.node ta.node) → EdOwn W va x → EdOwn W vb y → Below w.heap.size w W → P (.returned (.tuple #[.agg (endA x va), .agg (endA y vb), .bool B])) W := fun va vb x y B W e h q1 q2 hb => by rw [← hP]; exact ⟨va, vb, x, y, by rw [e], e ▸ h, q1, q2, hb⟩
  clear hP
  generalize freshB ta tb = R at *
  generalize startC ta.node tb.node = C1 at *
  generalize startC tb.node ta.node = C2 at *
  generalize idleB (startE ta.node tb.node) (startE tb.node ta.node) ta tb = IB at *
  replace cS := Lib.hid cS
  replace cT := Lib.hid cT
  replace cP := Lib.hid cP
  replace hS := Lib.hid hS
  replace hT := Lib.hid hT
  replace hPo := Lib.hid hPo
  replace t1 := Lib.hid t1
  replace t2 := Lib.hid t2
  replace uE := Lib.hid uE
  replace uT := Lib.hid uT
  replace uM := Lib.hid uM
  go_enter Tryz.func31, Tryz.ntmps31
  have mk1 : Unit := ()
  have mk2 : Unit := ()
  have mk3 : Unit := ()
  have mk4 : Unit := ()
  go_upto_region 1 with (first | go_skip | (clear mk1; refine wpList_boxA HM rfl 29 _ rfl _ rfl ?_; clear HM; intro gta w1 HM hG; replace hF := Lib.hid (hFs.keep hF.out hG.out); clear hG) | (clear mk2; refine wpList_boxA HM rfl 29 _ rfl _ rfl ?_; clear HM; intro gtb w1 HM hG; replace hF := Lib.hid (hFs.keep hF.out hG.out); clear hG) | (clear mk3; refine wpList_allocN HM rfl 27 rfl edInfo ?_; clear HM; intro g4 w1 HM hG hN9; replace hF := Lib.hid (hFs.keep hF.out hG.out); clear hG hN9) | (clear mk4; refine wpList_allocN HM rfl 27 rfl edInfo ?_; clear HM; intro g5 w1 HM hG hN9; replace hF := Lib.hid (hFs.keep hF.out hG.out); clear hG hN9) | fail)
  have n1 : World.cell? _ ⟨gta, 0, none⟩ = some (.int .i64 ta.node) := HM.out.cell 3 rfl 0
  have n2 : World.cell? _ ⟨gtb, 0, none⟩ = some (.int .i64 tb.node) := HM.out.cell 2 rfl 0
  have mk5 : Unit := ()
  have mk6 : Unit := ()
  go_upto_region 2 with (first | go_skip | (go_at_call 33; clear mk5; refine (cS.out _).mono ?_; rintro r w3 ⟨v1, rfl, hE, hb_⟩; clear n1 n2; replace HM := Lib.hid (HM.out.keep hb_); replace hF := Lib.hid (hFs.keep hF.out hb_); clear hb_; obtain ⟨F1, hFs2, hF2, hU, hNw⟩ := stb_add hFs hF (Stb.ed v1 _) hE; clear hFs hF; have gA := Lib.hid hNw; clear hNw hU; have hFs := hFs2; have hF := hF2; clear hFs2 hF2 hE; dsimp only) | (clear mk6; refine wpList_allocN HM rfl 27 rfl edInfo ?_; clear HM; intro g7 w1 HM hG hN9; replace hF := Lib.hid (hFs.keep hF.out hG.out); clear hG hN9) | (refine wpList_storeF 0 HM rfl _ _ _ rfl _ rfl rfl _ rfl (by exact zend) (by rfl) (by rfl) ?_; have hBq := HM.out.at_ 0 rfl; clear HM; intro w4 HM hG4; simp only [List.set] at HM; replace hF := Lib.hid (hFs.put hF.out hBq (by decide) (by decide) hG4.out); clear hBq hG4) | fail)
  have n1 : World.cell? _ ⟨gta, 0, none⟩ = some (.int .i64 ta.node) := HM.out.cell 4 rfl 0
  have n2 : World.cell? _ ⟨gtb, 0, none⟩ = some (.int .i64 tb.node) := HM.out.cell 3 rfl 0
  have mk7 : Unit := ()
  have mk8 : Unit := ()
  go_upto_region 3 with (first | go_skip | (go_at_call 33; clear mk7; refine (cT.out _).mono ?_; rintro r w3 ⟨v2, rfl, hE, hb_⟩; clear n1 n2; replace HM := Lib.hid (HM.out.keep hb_); replace hF := Lib.hid (hFs.keep hF.out hb_); clear hb_; obtain ⟨F2, hFs2, hF2, hU, hNw⟩ := stb_add hFs hF (Stb.ed v2 _) hE; clear hFs hF; replace gA := Lib.hid (fun W h => gA.out W (hU W h)); have gB := Lib.hid hNw; clear hNw hU; have hFs := hFs2; have hF := hF2; clear hFs2 hF2 hE; dsimp only) | (clear mk8; refine wpList_allocN HM rfl 27 rfl edInfo ?_; clear HM; intro g9 w1 HM hG hN9; replace hF := Lib.hid (hFs.keep hF.out hG.out); clear hG hN9) | (refine wpList_storeF 0 HM rfl _ _ _ rfl _ rfl rfl _ rfl (by exact zend) (by rfl) (by rfl) ?_; have hBq := HM.out.at_ 0 rfl; clear HM; intro w4 HM hG4; simp only [List.set] at HM; replace hF := Lib.hid (hFs.put hF.out hBq (by decide) (by decide) hG4.out); clear hBq hG4) | fail)
  by_cases e1 : C1 = 0
  case neg =>
    have d1 : (C1 != 0) = true := by rw [bne_iff_ne]; exact e1
    have hh : R = false := by rw [hR]; simp [e1]
    replace hR := Lib.hid hR
    replace e1 := Lib.hid e1
    go_upto_region 4 with (first | go_skip | (refine wpList_loadG 1 HM (by rfl) _ _ rfl _ rfl rfl _ uE.out rfl (by exact zend) ?_) | (refine wpList_loadG 0 HM (by rfl) _ _ rfl _ rfl rfl _ uE.out rfl (by exact zend) ?_) | (refine wpList_loadG 5 HM (by rfl) _ _ rfl _ rfl rfl _ uT.out rfl (by exact ztab) ?_) | (refine wpList_loadG 4 HM (by rfl) _ _ rfl _ rfl rfl _ uT.out rfl (by exact ztab) ?_) | fail)
    replace hF := Lib.hid (hFs.keep hF.out ((Below.refl _ _).drew))
    replace HM := Lib.hid (HM.out.keep ((Below.refl _ _).drew))
    have HMs := Lib.hid HM.out
    replace HMs := Lib.hid (HMs.out.less 3)
    replace HMs := Lib.hid (HMs.out.less 2)
    simp only [List.eraseIdx] at HMs
    refine wp_region_plan (fun w' => Mem _ w' _) 3 [(0, true), (1, true), (2, false)] (by kernel_rfl) (by kernel_rfl) HMs.out ?_
    generalize World.drew _ = wd at *
    refine plTakeL (by rfl) (yields_memw rfl _ _ rfl 1 (fun w_ hSw => hSw) rfl rfl _ uE.out rfl (by exact zend)) ?_
    try go_frame
    refine plTakeL (by rfl) (yields_memw rfl _ _ rfl 0 (fun w_ hSw => hSw) rfl rfl _ uE.out rfl (by exact zend)) ?_
    try go_frame
    clear HMs
    refine plStepL rfl rfl fun K hK => ?_
    go_wp2_with (first | (refine wpList_storeF 3 HM rfl _ _ _ rfl _ rfl rfl _ rfl (by exact zend) (by rfl) (by rfl) ?_; have hBq := HM.out.at_ 3 rfl; clear HM; intro w4 HM hG4; simp only [List.set] at HM; replace hF := Lib.hid (hFs.put hF.out hBq (by decide) (by decide) hG4.out); clear hBq hG4) | fail)
    refine hK.out _ _ ((HM.out.less 3).less 2) fun hS_ => ?_
    clear hK K hS_
    try simp only [Act.put, List.setIfInBounds_toArray, List.set_cons_zero, List.set_cons_succ, List.getElem_toArray, List.getElem_cons_succ, List.getElem_cons_zero]
    refine plDone ?_
    simp only [List.drop]
    go_wp2_with (first | go_skip | (refine wpList_storeF 2 HM rfl _ _ _ rfl _ rfl rfl _ rfl (by exact zend) (by rfl) (by rfl) ?_; have hBq := HM.out.at_ 2 rfl; clear HM; intro w4 HM hG4; simp only [List.set] at HM; replace hF := Lib.hid (hFs.put hF.out hBq (by decide) (by decide) hG4.out); clear hBq hG4) | fail)
    try simp only [Exit.inBlock, Exit.then]
    refine bodyPost_ret (results_cct rfl (HM.out.at_ 3 rfl) (HM.out.at_ 2 rfl) rfl rfl _ uE.out rfl (by exact zend) _ uE.out rfl (by exact zend)) rfl ?_
    exact hPo.out v1 v2 _ _ false _ hh (fun h => by cases h) (gA.out _ hF.out) (gB.out _ hF.out) HM.out.below
  have d1 : (C1 != 0) = false := by rw [bne_eq_false_iff_eq]; exact e1
  by_cases e2 : C2 = 0
  case neg =>
    have d2 : (C2 != 0) = true := by rw [bne_iff_ne]; exact e2
    have hh : R = false := by rw [hR]; simp [e1, e2]
    replace hR := Lib.hid hR
    replace e1 := Lib.hid e1
    replace e2 := Lib.hid e2
    go_upto_region 4 with (first | go_skip | (refine wpList_loadG 1 HM (by rfl) _ _ rfl _ rfl rfl _ uE.out rfl (by exact zend) ?_) | (refine wpList_loadG 0 HM (by rfl) _ _ rfl _ rfl rfl _ uE.out rfl (by exact zend) ?_) | (refine wpList_loadG 5 HM (by rfl) _ _ rfl _ rfl rfl _ uT.out rfl (by exact ztab) ?_) | (refine wpList_loadG 4 HM (by rfl) _ _ rfl _ rfl rfl _ uT.out rfl (by exact ztab) ?_) | fail)
    replace hF := Lib.hid (hFs.keep hF.out ((Below.refl _ _).drew))
    replace HM := Lib.hid (HM.out.keep ((Below.refl _ _).drew))
    have HMs := Lib.hid HM.out
    replace HMs := Lib.hid (HMs.out.less 3)
    replace HMs := Lib.hid (HMs.out.less 2)
    simp only [List.eraseIdx] at HMs
    refine wp_region_plan (fun w' => Mem _ w' _) 3 [(0, true), (1, true), (2, false)] (by kernel_rfl) (by kernel_rfl) HMs.out ?_
    generalize World.drew _ = wd at *
    refine plTakeL (by rfl) (yields_memw rfl _ _ rfl 1 (fun w_ hSw => hSw) rfl rfl _ uE.out rfl (by exact zend)) ?_
    try go_frame
    refine plTakeL (by rfl) (yields_memw rfl _ _ rfl 0 (fun w_ hSw => hSw) rfl rfl _ uE.out rfl (by exact zend)) ?_
    try go_frame
    clear HMs
    refine plStepL rfl rfl fun K hK => ?_
    go_wp2_with (first | (refine wpList_storeF 3 HM rfl _ _ _ rfl _ rfl rfl _ rfl (by exact zend) (by rfl) (by rfl) ?_; have hBq := HM.out.at_ 3 rfl; clear HM; intro w4 HM hG4; simp only [List.set] at HM; replace hF := Lib.hid (hFs.put hF.out hBq (by decide) (by decide) hG4.out); clear hBq hG4) | fail)
    refine hK.out _ _ ((HM.out.less 3).less 2) fun hS_ => ?_
    clear hK K hS_
    try simp only [Act.put, List.setIfInBounds_toArray, List.set_cons_zero, List.set_cons_succ, List.getElem_toArray, List.getElem_cons_succ, List.getElem_cons_zero]
    refine plDone ?_
    simp only [List.drop]
    go_wp2_with (first | go_skip | (refine wpList_storeF 2 HM rfl _ _ _ rfl _ rfl rfl _ rfl (by exact zend) (by rfl) (by rfl) ?_; have hBq := HM.out.at_ 2 rfl; clear HM; intro w4 HM hG4; simp only [List.set] at HM; replace hF := Lib.hid (hFs.put hF.out hBq (by decide) (by decide) hG4.out); clear hBq hG4) | fail)
    try simp only [Exit.inBlock, Exit.then]
    refine bodyPost_ret (results_cct rfl (HM.out.at_ 3 rfl) (HM.out.at_ 2 rfl) rfl rfl _ uE.out rfl (by exact zend) _ uE.out rfl (by exact zend)) rfl ?_
    exact hPo.out v1 v2 _ _ false _ hh (fun h => by cases h) (gA.out _ hF.out) (gB.out _ hF.out) HM.out.below
  have d2 : (C2 != 0) = false := by rw [bne_eq_false_iff_eq]; exact e2
  have s1 := hS.out e1
  have s2 := hT.out e2
  rw [s1] at HM gA
  rw [s2] at HM gB
  clear s1 s2
  cases IB
  case false =>
    have hh : R = false := by rw [hR]; simp [e1, e2]
    replace hR := Lib.hid hR
    replace e1 := Lib.hid e1
    replace e2 := Lib.hid e2
    have mk9 : Unit := ()
    go_upto_region 4 with (first | go_skip | (refine wpList_loadG 1 HM (by rfl) _ _ rfl _ rfl rfl _ uE.out rfl (by exact zend) ?_) | (refine wpList_loadG 0 HM (by rfl) _ _ rfl _ rfl rfl _ uE.out rfl (by exact zend) ?_) | (refine wpList_loadG 5 HM (by rfl) _ _ rfl _ rfl rfl _ uT.out rfl (by exact ztab) ?_) | (refine wpList_loadG 4 HM (by rfl) _ _ rfl _ rfl rfl _ uT.out rfl (by exact ztab) ?_) | (go_at_call 30; clear mk9; refine (cP.out _ _ _ HM.out.below (gA.out _ hF.out).is (gB.out _ hF.out).is).mono ?_; rintro r w3 ⟨rfl, hb_⟩; replace HM := Lib.hid (HM.out.keep hb_); replace hF := Lib.hid (hFs.keep hF.out hb_); clear hb_; dsimp only) | fail)
    replace hF := Lib.hid (hFs.keep hF.out ((Below.refl _ _).drew))
    replace HM := Lib.hid (HM.out.keep ((Below.refl _ _).drew))
    have HMs := Lib.hid HM.out
    replace HMs := Lib.hid (HMs.out.less 3)
    replace HMs := Lib.hid (HMs.out.less 2)
    simp only [List.eraseIdx] at HMs
    refine wp_region_plan (fun w' => Mem _ w' _) 3 [(0, true), (1, true), (2, false)] (by kernel_rfl) (by kernel_rfl) HMs.out ?_
    generalize World.drew _ = wd at *
    refine plTakeL (by rfl) (yields_memw rfl _ _ rfl 1 (fun w_ hSw => hSw) rfl rfl _ uE.out rfl (by exact zend)) ?_
    try go_frame
    refine plTakeL (by rfl) (yields_memw rfl _ _ rfl 0 (fun w_ hSw => hSw) rfl rfl _ uE.out rfl (by exact zend)) ?_
    try go_frame
    clear HMs
    refine plStepL rfl rfl fun K hK => ?_
    go_wp2_with (first | (refine wpList_storeF 3 HM rfl _ _ _ rfl _ rfl rfl _ rfl (by exact zend) (by rfl) (by rfl) ?_; have hBq := HM.out.at_ 3 rfl; clear HM; intro w4 HM hG4; simp only [List.set] at HM; replace hF := Lib.hid (hFs.put hF.out hBq (by decide) (by decide) hG4.out); clear hBq hG4) | fail)
    refine hK.out _ _ ((HM.out.less 3).less 2) fun hS_ => ?_
    clear hK K hS_
    try simp only [Act.put, List.setIfInBounds_toArray, List.set_cons_zero, List.set_cons_succ, List.getElem_toArray, List.getElem_cons_succ, List.getElem_cons_zero]
    refine plDone ?_
    simp only [List.drop]
    go_wp2_with (first | go_skip | (refine wpList_storeF 2 HM rfl _ _ _ rfl _ rfl rfl _ rfl (by exact zend) (by rfl) (by rfl) ?_; have hBq := HM.out.at_ 2 rfl; clear HM; intro w4 HM hG4; simp only [List.set] at HM; replace hF := Lib.hid (hFs.put hF.out hBq (by decide) (by decide) hG4.out); clear hBq hG4) | fail)
    try simp only [Exit.inBlock, Exit.then]
    refine bodyPost_ret (results_cct rfl (HM.out.at_ 3 rfl) (HM.out.at_ 2 rfl) rfl rfl _ uE.out rfl (by exact zend) _ uE.out rfl (by exact zend)) rfl ?_
    exact hPo.out v1 v2 _ _ false _ hh (fun h => by cases h) (gA.out _ hF.out) (gB.out _ hF.out) HM.out.below
  have hh : R = true := by rw [hR]; simp [e1, e2]
  replace hR := Lib.hid hR
  replace e1 := Lib.hid e1
  replace e2 := Lib.hid e2
  have mk9 : Unit := ()
  go_upto_region 5 with (first | go_skip | (refine wpList_loadG 1 HM (by rfl) _ _ rfl _ rfl rfl _ uE.out rfl (by exact zend) ?_) | (refine wpList_loadG 0 HM (by rfl) _ _ rfl _ rfl rfl _ uE.out rfl (by exact zend) ?_) | (refine wpList_loadG 5 HM (by rfl) _ _ rfl _ rfl rfl _ uT.out rfl (by exact ztab) ?_) | (refine wpList_loadG 4 HM (by rfl) _ _ rfl _ rfl rfl _ uT.out rfl (by exact ztab) ?_) | (go_at_call 30; clear mk9; refine (cP.out _ _ _ HM.out.below (gA.out _ hF.out).is (gB.out _ hF.out).is).mono ?_; rintro r w3 ⟨rfl, hb_⟩; replace HM := Lib.hid (HM.out.keep hb_); replace hF := Lib.hid (hFs.keep hF.out hb_); clear hb_; dsimp only) | fail)
  replace hF := Lib.hid (hFs.keep hF.out ((Below.refl _ _).drew))
  replace HM := Lib.hid (HM.out.keep ((Below.refl _ _).drew))
  have HMs := Lib.hid HM.out
  replace HMs := Lib.hid (HMs.out.less 3)
  replace HMs := Lib.hid (HMs.out.less 2)
  simp only [List.eraseIdx] at HMs
  refine wp_region_plan (fun w' => Mem _ w' _) 3 [(0, true), (1, true), (2, false)] (by kernel_rfl) (by kernel_rfl) HMs.out ?_
  generalize World.drew _ = wd at *
  refine plTakeL (by rfl) (yields_memw rfl _ _ rfl 1 (fun w_ hSw => hSw) rfl rfl _ uE.out rfl (by exact zend)) ?_
  try go_frame
  refine plTakeL (by rfl) (yields_memw rfl _ _ rfl 0 (fun w_ hSw => hSw) rfl rfl _ uE.out rfl (by exact zend)) ?_
  try go_frame
  clear HMs
  refine plStepL rfl rfl fun K hK => ?_
  go_wp2_with (first | (refine wpList_storeF 3 HM rfl _ _ _ rfl _ rfl rfl _ rfl (by exact zend) (by rfl) (by rfl) ?_; have hBq := HM.out.at_ 3 rfl; clear HM; intro w4 HM hG4; simp only [List.set] at HM; replace hF := Lib.hid (hFs.put hF.out hBq (by decide) (by decide) hG4.out); clear hBq hG4) | fail)
  refine hK.out _ _ ((HM.out.less 3).less 2) fun hS_ => ?_
  clear hK K hS_
  try simp only [Act.put, List.setIfInBounds_toArray, List.set_cons_zero, List.set_cons_succ, List.getElem_toArray, List.getElem_cons_succ, List.getElem_cons_zero]
  refine plDone ?_
  simp only [List.drop]
  go_wp2_with (first | go_skip | (refine wpList_storeF 2 HM rfl _ _ _ rfl _ rfl rfl _ rfl (by exact zend) (by rfl) (by rfl) ?_; have hBq := HM.out.at_ 2 rfl; clear HM; intro w4 HM hG4; simp only [List.set] at HM; replace hF := Lib.hid (hFs.put hF.out hBq (by decide) (by decide) hG4.out); clear hBq hG4) | fail)
  try simp only [Exit.inBlock, Exit.then]
  refine bodyPost_ret (results_cct rfl (HM.out.at_ 3 rfl) (HM.out.at_ 2 rfl) rfl rfl _ uE.out rfl (by exact zend) _ uE.out rfl (by exact zend)) rfl ?_
  exact hPo.out v1 v2 _ _ true _ hh (fun _ => ⟨rfl, rfl⟩) (gA.out _ hF.out) (gB.out _ hF.out) HM.out.below
end Tx
end Go.Proofs.YtfoffooblkofhaaGreat
