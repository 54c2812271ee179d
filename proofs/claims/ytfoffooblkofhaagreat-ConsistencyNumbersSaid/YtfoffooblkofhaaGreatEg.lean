/- Chapter 27: Exchange: the program's. -/
import Derived.Test.YtfoffooblkofhaaGreatEx
import Derived.Test.YtfoffooblkofhaaGreatEc
set_option linter.unusedVariables false
set_option linter.unusedSimpArgs false
namespace Go.Proofs.YtfoffooblkofhaaGreat
open Go Go.RowKit Go.Sort Go.Shelf Go.Maps
namespace Tx
open Sw Mm Pl
theorem Mem.swap2 {a w : World} {p q : Nat × Array Value × TypeId} {L : List (Nat × Array Value × TypeId)} (h : Mem a w (p :: q :: L)) : Mem a w (q :: p :: L) := by
  have hp : (q :: p :: L).Perm (p :: q :: L) := List.Perm.swap _ _ _
  exact ⟨h.below, fun e he => h.blk e (hp.subset he), ((hp.map _).nodup_iff).2 h.nodup, fun e he => h.ge e (hp.subset he)⟩
theorem Stb.runD (a b : Ed) (ta tb : Tab) (f : List Int) (kind count : Int) (x : Fate) (vta vtb : TabV) (vb : EdV) (d : Xd) (v : Xv) : Stb (RunD a b ta tb f kind count x vta vtb vb d v) :=
  ⟨fun h hb => ⟨h.xa, h.xb, h.xcode, h.xta, h.xtb, h.xvta, h.xvtb, h.xoa.keep hb, h.xob.imp (·.keep hb) id⟩, fun h hB h1 h2 hg => ⟨h.xa, h.xb, h.xcode, h.xta, h.xtb, h.xvta, h.xvtb, h.xoa.put hB h1 h2 hg, h.xob.imp (·.put hB h1 h2 hg) id⟩⟩
def ExPost (E1 E2 : Ed) (code err : Int) (vb : EdV) (b : Ed) (w : World) (r : Ending) (w' : World) : Prop := ∃ v1 v2, r = .returned (.tuple #[.agg (endA E1 v1), .agg (endA E2 v2), .int .i64 code, .int .i64 err]) ∧ EdOwn w' v1 E1 ∧ OwnB vb b v2 E2 w' ∧ Below w.heap.size w w'
set_option maxRecDepth 100000 in
set_option maxHeartbeats 8000000 in
theorem exchange_any (a b : Ed) (ta tb : Tab) (f : List Int) (kind count : Int) (x : Fate) (va vb : EdV) (vta vtb : TabV) (A : Option Addr) (nf cf : Nat) (w : World) (h1 : EdIs w va a) (h2 : EdIs w vb b) (t1 : TabIs w vta ta) (t2 : TabIs w vtb tb) (hf : IntS w A nf f) : Calls Tryz.prog 25 #[.agg (endA a va), .agg (endA b vb), .agg (tabA ta vta), .agg (tabA tb vtb), .slice A nf cf, .int .i64 kind, .int .i64 count, .agg (fateA x)] w (ExPost (exN a b ta tb f kind count x).1 (exN a b ta tb f kind count x).2.1 (exN a b ta tb f kind count x).2.2 (exC a b ta tb f kind count) vb b w) := by
  have HM := Lib.hid (Mem.start w)
  obtain ⟨F0, hFs, hF⟩ : ∃ F : World → Prop, Stb F ∧ Hid (F w) := ⟨_, Stb.true, trivial⟩
  have uE := Tryz.underlying27
  have uT := Tryz.underlying29
  have uM := Tryz.underlying25
  have uS := Tryz.underlying98
  have uX := Tryz.underlying104
  have uY := Tryz.underlying45
  have hC : exC a b ta tb f kind count = if idleC a b ta tb ≠ 0 then idleC a b ta tb else askC a ta f kind count 0 := rfl
  have hN : exN a b ta tb f kind count x = if exC a b ta tb f kind count = 0 then runN a b ta tb f kind count x else (ed0, ed0, 0) := rfl
  have cK := fun W (hb : Below w.heap.size w W) => check_any a b ta tb va vb vta vtb W (h1.keep hb) (h2.keep hb) (t1.keep hb) (t2.keep hb)
  have cR := fun W (hb : Below w.heap.size w W) => run_any a b ta tb f kind count x va vb vta vtb A nf cf W (h1.keep hb) (h2.keep hb) (t1.keep hb) (t2.keep hb) (hf.keep hb)
  have cR0 : askC a ta f kind count 0 ≠ 0 → ∀ W, Below w.heap.size w W → Calls Tryz.prog 70 #[.agg (sideA a va ta vta), .agg (sideA b vb tb vtb), .slice A nf cf, .int .i64 kind, .int .i64 count, .agg (fateA x)] W fun r w' => r = .returned (.tuple #[.pointer none, .int .i64 (askC a ta f kind count 0)]) ∧ Below W.heap.size W w' := fun h W hb => (cR W hb).mono fun r w' h' => by
    rcases h' with ⟨_, h2, h3⟩ | ⟨h1, _⟩
    · exact ⟨h2, h3⟩
    · exact absurd h1 h
  have cR1 : askC a ta f kind count 0 = 0 → ∀ W, Below w.heap.size w W → Calls Tryz.prog 70 #[.agg (sideA a va ta vta), .agg (sideA b vb tb vtb), .slice A nf cf, .int .i64 kind, .int .i64 count, .agg (fateA x)] W fun r w' => ∃ (gx : Nat) (d : Xd) (v : Xv), r = .returned (.tuple #[.pointer (some ⟨gx, 0, none⟩), .int .i64 0]) ∧ Mem W w' [(gx, exA d v, 104)] ∧ RunD a b ta tb f kind count x vta vtb vb d v w' := fun h W hb => (cR W hb).mono fun r w' h' => by
    rcases h' with ⟨h1, _⟩ | ⟨_, h2⟩
    · exact absurd h h1
    · exact h2
  clear cR
  generalize hP : ExPost (exN a b ta tb f kind count x).1 (exN a b ta tb f kind count x).2.1 (exN a b ta tb f kind count x).2.2 (exC a b ta tb f kind count) vb b w = P
  have hPb : ∀ c W, exC a b ta tb f kind count = c → c ≠ 0 → Below w.heap.size w W → P (.returned (.tuple #[.agg #[.int .i64 0, .int .i64 0, .int .i64 0, .slice none 0 0, .bool false, .int .i64 0, .int .i64 0, .bool false, .int .i64 0, .int .i64 0, .int .i64 0, .slice none 0 0, .slice none 0 0, .bool false, .int .i64 0, .bool false, .int .i64 0, .int .i64 0, .int .i64 0, .slice none 0 0, .slice none 0 0, .int .i64 0, .bool false, .int .i64 0, .int .i64 0, .int .i64 0, .slice none 0 0, .slice none 0 0], .agg #[.int .i64 0, .int .i64 0, .int .i64 0, .slice none 0 0, .bool false, .int .i64 0, .int .i64 0, .bool false, .int .i64 0, .int .i64 0, .int .i64 0, .slice none 0 0, .slice none 0 0, .bool false, .int .i64 0, .bool false, .int .i64 0, .int .i64 0, .int .i64 0, .slice none 0 0, .slice none 0 0, .int .i64 0, .bool false, .int .i64 0, .int .i64 0, .int .i64 0, .slice none 0 0, .slice none 0 0], .int .i64 0, .int .i64 c])) W := fun c W e hc hb => by
    rw [← hP, hN, e, if_neg hc]
    exact ⟨edV0, edV0, rfl, EdOwn.startE W 0 0, .inl (EdOwn.startE W 0 0), hb⟩
  have hPo : ∀ d v W, exC a b ta tb f kind count = 0 → RunD a b ta tb f kind count x vta vtb vb d v W → Below w.heap.size w W → P (.returned (.tuple #[.agg (endA d.a v.a), .agg (endA d.b v.b), .int .i64 d.code, .int .i64 0])) W := fun d v W e hD hb => by
    rw [← hP, hN, e, if_pos rfl, ← hD.xa, ← hD.xb, ← hD.xcode]
    exact ⟨v.a, v.b, rfl, hD.xoa, hD.xob, hb⟩
  clear hP hN
  generalize exC a b ta tb f kind count = XC at *
  generalize idleC a b ta tb = IC at *
  generalize askC a ta f kind count 0 = AC at *
  replace cK := Lib.hid cK
  replace cR0 := Lib.hid cR0
  replace cR1 := Lib.hid cR1
  replace hC := Lib.hid hC
  replace hPb := Lib.hid hPb
  replace hPo := Lib.hid hPo
  replace h1 := Lib.hid h1
  replace h2 := Lib.hid h2
  replace t1 := Lib.hid t1
  replace t2 := Lib.hid t2
  replace hf := Lib.hid hf
  replace uE := Lib.hid uE
  replace uT := Lib.hid uT
  replace uM := Lib.hid uM
  replace uS := Lib.hid uS
  replace uX := Lib.hid uX
  replace uY := Lib.hid uY
  go_enter Tryz.func25, Tryz.ntmps25
  have mk1 : Unit := ()
  have mk2 : Unit := ()
  have mk3 : Unit := ()
  have mk4 : Unit := ()
  have mk5 : Unit := ()
  have mk6 : Unit := ()
  have mk7 : Unit := ()
  go_upto_region 1 with (first | go_skip | (clear mk1; refine wpList_boxA HM rfl 27 _ rfl _ rfl ?_; clear HM; intro ga w1 HM hG; replace hF := Lib.hid (hFs.keep hF.out hG.out); clear hG) | (clear mk2; refine wpList_boxA HM rfl 27 _ rfl _ rfl ?_; clear HM; intro gb w1 HM hG; replace hF := Lib.hid (hFs.keep hF.out hG.out); clear hG) | (clear mk3; refine wpList_boxA HM rfl 29 _ rfl _ rfl ?_; clear HM; intro gta w1 HM hG; replace hF := Lib.hid (hFs.keep hF.out hG.out); clear hG) | (clear mk4; refine wpList_boxA HM rfl 29 _ rfl _ rfl ?_; clear HM; intro gtb w1 HM hG; replace hF := Lib.hid (hFs.keep hF.out hG.out); clear hG) | (clear mk5; refine wpList_boxA HM rfl 45 _ rfl _ rfl ?_; clear HM; intro gy w1 HM hG; replace hF := Lib.hid (hFs.keep hF.out hG.out); clear hG) | (clear mk6; refine wpList_allocN HM rfl 27 rfl edInfo ?_; clear HM; intro g16 w1 HM hG hN9; replace hF := Lib.hid (hFs.keep hF.out hG.out); clear hG hN9) | (clear mk7; refine wpList_allocN HM rfl 27 rfl edInfo ?_; clear HM; intro g17 w1 HM hG hN9; replace hF := Lib.hid (hFs.keep hF.out hG.out); clear hG hN9) | fail)
  replace hF := Lib.hid (hFs.keep hF.out ((Below.refl _ _).drew))
  replace HM := Lib.hid (HM.out.keep ((Below.refl _ _).drew))
  have HMs := Lib.hid HM.out
  refine wp_region_pt (fun w' => Mem _ w' _) 9 (.take 0 (.take 1 (.take 2 (.take 3 (.take 4 (.take 5 (.fork 6 (.only 7 (.only 8 .done)) 7 (.only 6 (.only 8 .done))))))))) (by kernel_rfl) (by kernel_rfl) HMs.out ?_
  clear HMs
  generalize World.drew _ = wd at *
  refine ptTake (by rfl) (yields_memw rfl _ _ rfl 6 (fun w_ hSw => hSw) rfl rfl _ uE.out rfl (by exact zend)) ?_
  try go_frame
  refine ptTake (by rfl) (yields_memw rfl _ _ rfl 4 (fun w_ hSw => hSw) rfl rfl _ uT.out rfl (by exact ztab)) ?_
  try go_frame
  refine ptPure (v := .agg (sideA a va ta vta)) rfl rfl (fun w_ _ => by kernel_rfl) ?_
  try go_frame
  refine ptTake (by rfl) (yields_memw rfl _ _ rfl 5 (fun w_ hSw => hSw) rfl rfl _ uE.out rfl (by exact zend)) ?_
  try go_frame
  refine ptTake (by rfl) (yields_memw rfl _ _ rfl 3 (fun w_ hSw => hSw) rfl rfl _ uT.out rfl (by exact ztab)) ?_
  try go_frame
  refine ptPure (v := .agg (sideA b vb tb vtb)) rfl rfl (fun w_ _ => by kernel_rfl) ?_
  try go_frame
  refine ptFork rfl rfl rfl rfl (fun K hK => ?f1) (fun K hK => ?f2)
  case' f1 =>
    go_wp2_with (first | (refine wpList_allocN HM rfl 98 rfl sdInfo ?_; clear HM; intro g20 w1 HM hG hN9; replace hF := Lib.hid (hFs.keep hF.out hG.out); clear hG hN9) | fail)
    refine hK.out _ _ HM.out.tail fun hS_ => ?_
    clear hK K hS_
    try go_frame
    refine ptOnly rfl rfl fun K hK => ?_
    go_wp2_with (first | (refine wpList_allocN HM rfl 98 rfl sdInfo ?_; clear HM; intro g21 w1 HM hG hN9; replace hF := Lib.hid (hFs.keep hF.out hG.out); clear hG hN9) | fail)
    refine hK.out _ _ (HM.out.tail.tail) fun hS_ => ?_
    clear hK K hS_
    try simp only [Act.put, List.setIfInBounds_toArray, List.set_cons_zero, List.set_cons_succ, List.getElem_toArray, List.getElem_cons_succ, List.getElem_cons_zero]
    refine ptOnly rfl rfl fun K hK => ?_
    go_wp2_with (first | (refine wpList_storeF 1 HM rfl _ _ _ rfl _ rfl rfl _ rfl (by exact zsd) (by rfl) (by rfl) ?_; have hBq := HM.out.at_ 1 rfl; clear HM; intro w4 HM hG4; simp only [List.set] at HM; replace hF := Lib.hid (hFs.put hF.out hBq (by decide) (by decide) hG4.out); clear hBq hG4) | fail)
    refine hK.out _ _ (HM.out.tail.tail) fun hS_ => ?_
    clear hK K hS_
    try simp only [Act.put, List.setIfInBounds_toArray, List.set_cons_zero, List.set_cons_succ, List.getElem_toArray, List.getElem_cons_succ, List.getElem_cons_zero]
    refine ptDone ?_
    simp only [List.drop]
    replace HM := Lib.hid HM.out.swap2
  case' f2 =>
    go_wp2_with (first | (refine wpList_allocN HM rfl 98 rfl sdInfo ?_; clear HM; intro g21 w1 HM hG hN9; replace hF := Lib.hid (hFs.keep hF.out hG.out); clear hG hN9) | fail)
    refine hK.out _ _ HM.out.tail fun hS_ => ?_
    clear hK K hS_
    try go_frame
    refine ptOnly rfl rfl fun K hK => ?_
    go_wp2_with (first | (refine wpList_allocN HM rfl 98 rfl sdInfo ?_; clear HM; intro g20 w1 HM hG hN9; replace hF := Lib.hid (hFs.keep hF.out hG.out); clear hG hN9) | fail)
    refine hK.out _ _ (HM.out.tail.tail) fun hS_ => ?_
    clear hK K hS_
    try simp only [Act.put, List.setIfInBounds_toArray, List.set_cons_zero, List.set_cons_succ, List.getElem_toArray, List.getElem_cons_succ, List.getElem_cons_zero]
    refine ptOnly rfl rfl fun K hK => ?_
    go_wp2_with (first | (refine wpList_storeF 0 HM rfl _ _ _ rfl _ rfl rfl _ rfl (by exact zsd) (by rfl) (by rfl) ?_; have hBq := HM.out.at_ 0 rfl; clear HM; intro w4 HM hG4; simp only [List.set] at HM; replace hF := Lib.hid (hFs.put hF.out hBq (by decide) (by decide) hG4.out); clear hBq hG4) | fail)
    refine hK.out _ _ (HM.out.tail.tail) fun hS_ => ?_
    clear hK K hS_
    try simp only [Act.put, List.setIfInBounds_toArray, List.set_cons_zero, List.set_cons_succ, List.getElem_toArray, List.getElem_cons_succ, List.getElem_cons_zero]
    refine ptDone ?_
    simp only [List.drop]
  all_goals
    go_upto_region 2 with (first | go_skip | (refine wpList_storeF 1 HM rfl _ _ _ rfl _ rfl rfl _ rfl (by exact zsd) (by rfl) (by rfl) ?_; have hBq := HM.out.at_ 1 rfl; clear HM; intro w4 HM hG4; simp only [List.set] at HM; replace hF := Lib.hid (hFs.put hF.out hBq (by decide) (by decide) hG4.out); clear hBq hG4) | fail)
    have mk8 : Unit := ()
    go_upto_region 3 with (first | go_skip | (refine wpList_loadG 0 HM (by rfl) _ _ rfl _ rfl rfl _ uS.out rfl (by exact zsd) ?_) | (refine wpList_loadG 1 HM (by rfl) _ _ rfl _ rfl rfl _ uS.out rfl (by exact zsd) ?_) | (go_at_call 69; clear mk8; refine (cK.out _ HM.out.below).mono ?_; rintro r w3 ⟨rfl, hb_⟩; replace HM := Lib.hid (HM.out.keep hb_); replace hF := Lib.hid (hFs.keep hF.out hb_); clear hb_; dsimp only) | fail)
    by_cases e1 : IC = 0
    case neg =>
      have d1 : (IC != 0) = true := by rw [bne_iff_ne]; exact e1
      have hX1 := Lib.hid (hC.out.trans (if_pos e1))
      replace e1 := Lib.hid e1
      go_wp2_with (first | go_skip | (refine wpList_storeF 3 HM rfl _ _ _ rfl _ rfl rfl _ rfl (by exact zend) (by rfl) (by rfl) ?_; have hBq := HM.out.at_ 3 rfl; clear HM; intro w4 HM hG4; simp only [List.set] at HM; replace hF := Lib.hid (hFs.put hF.out hBq (by decide) (by decide) hG4.out); clear hBq hG4) | (refine wpList_storeF 2 HM rfl _ _ _ rfl _ rfl rfl _ rfl (by exact zend) (by rfl) (by rfl) ?_; have hBq := HM.out.at_ 2 rfl; clear HM; intro w4 HM hG4; simp only [List.set] at HM; replace hF := Lib.hid (hFs.put hF.out hBq (by decide) (by decide) hG4.out); clear hBq hG4) | fail)
      try simp only [Exit.inBlock, Exit.then]
      refine bodyPost_ret (results_cctt rfl (HM.out.at_ 3 rfl) (HM.out.at_ 2 rfl) rfl rfl _ uE.out rfl (by exact zend) _ uE.out rfl (by exact zend)) rfl ?_
      exact hPb.out _ _ hX1.out e1.out HM.out.below
    subst e1
    replace hC := Lib.hid (hC.out.trans (if_neg (fun h => h rfl)))
    go_upto_region 5 with fail
    by_cases e2 : AC = 0
    case neg =>
      have d1 : (AC != 0) = true := by rw [bne_iff_ne]; exact e2
      have cR2 := Lib.hid (cR0.out e2)
      replace e2 := Lib.hid e2
      have mk9 : Unit := ()
      go_wp2_with (first | go_skip | (refine wpList_loadG 0 HM (by rfl) _ _ rfl _ rfl rfl _ uS.out rfl (by exact zsd) ?_) | (refine wpList_loadG 1 HM (by rfl) _ _ rfl _ rfl rfl _ uS.out rfl (by exact zsd) ?_) | (refine wpList_loadG 4 HM (by rfl) _ _ rfl _ rfl rfl _ uY.out rfl (by exact zfa) ?_) | (go_at_call 70; clear mk9; refine (cR2.out _ HM.out.below).mono ?_; rintro r w3 ⟨rfl, hb_⟩; replace HM := Lib.hid (HM.out.keep hb_); replace hF := Lib.hid (hFs.keep hF.out hb_); clear hb_; dsimp only) | (refine wpList_storeF 3 HM rfl _ _ _ rfl _ rfl rfl _ rfl (by exact zend) (by rfl) (by rfl) ?_; have hBq := HM.out.at_ 3 rfl; clear HM; intro w4 HM hG4; simp only [List.set] at HM; replace hF := Lib.hid (hFs.put hF.out hBq (by decide) (by decide) hG4.out); clear hBq hG4) | (refine wpList_storeF 2 HM rfl _ _ _ rfl _ rfl rfl _ rfl (by exact zend) (by rfl) (by rfl) ?_; have hBq := HM.out.at_ 2 rfl; clear HM; intro w4 HM hG4; simp only [List.set] at HM; replace hF := Lib.hid (hFs.put hF.out hBq (by decide) (by decide) hG4.out); clear hBq hG4) | fail)
      try simp only [Exit.inBlock, Exit.then]
      refine bodyPost_ret (results_cctt rfl (HM.out.at_ 3 rfl) (HM.out.at_ 2 rfl) rfl rfl _ uE.out rfl (by exact zend) _ uE.out rfl (by exact zend)) rfl ?_
      exact hPb.out _ _ hC.out e2.out HM.out.below
    have cR2 := Lib.hid (cR1.out e2)
    subst e2
    clear cR0 cR1
    have mk9 : Unit := ()
    go_upto_region 6 with (first | go_skip | (refine wpList_loadG 0 HM (by rfl) _ _ rfl _ rfl rfl _ uS.out rfl (by exact zsd) ?_) | (refine wpList_loadG 1 HM (by rfl) _ _ rfl _ rfl rfl _ uS.out rfl (by exact zsd) ?_) | (refine wpList_loadG 4 HM (by rfl) _ _ rfl _ rfl rfl _ uY.out rfl (by exact zfa) ?_) | (go_at_call 70; clear mk9; refine (cR2.out _ HM.out.below).mono ?_; rintro r w3 ⟨gx, d, v, rfl, hM7, hD⟩; have hb_ := hM7.below; have hge := hM7.ge _ (List.mem_cons_self ..); replace HM := Lib.hid (HM.out.add hb_ (hM7.at_ 0 rfl) hge); replace hF := Lib.hid (hFs.keep hF.out hb_); clear hM7 hb_ hge; replace hD := Lib.hid hD; dsimp only) | fail)
    obtain ⟨F9, hFs2, hF2, hU, hNw⟩ := stb_add hFs hF (Stb.runD _ _ _ _ _ _ _ _ _ _ _ d v) hD.out
    clear hFs hF hU hD
    have gD := Lib.hid hNw
    clear hNw
    have hFs := hFs2
    have hF := hF2
    clear hFs2 hF2
    go_upto_region 8 with fail
    replace hF := Lib.hid (hFs.keep hF.out ((Below.refl _ _).drew))
    replace HM := Lib.hid (HM.out.keep ((Below.refl _ _).drew))
    have HMs := Lib.hid HM.out
    replace HMs := Lib.hid (HMs.out.less 4)
    replace HMs := Lib.hid (HMs.out.less 3)
    simp only [List.eraseIdx] at HMs
    refine wp_region_plan (fun w' => Mem _ w' _) 16 [(0, true), (1, true), (2, true), (3, true), (4, true), (5, true), (6, true), (7, true), (8, true), (9, true), (10, true), (11, true), (12, true), (13, true), (14, false), (15, false)] (by kernel_rfl) (by kernel_rfl) HMs.out ?_
    generalize World.drew _ = wd at *
    repeat (first | (refine plPure rfl rfl (by intro w_ hSw; go_simp; first | done | exact rfl) ?_; try simp only [Act.put, List.setIfInBounds_toArray, List.set_cons_zero, List.set_cons_succ, List.getElem_toArray, List.getElem_cons_succ, List.getElem_cons_zero]))
    refine plTakeL (by rfl) (yields_mem (by rfl) _ _ (by rfl) 0 (fun w_ hSw => hSw) (by rfl) _ (by rfl) (endA d.a v.a) (by kernel_rfl) _ uE.out (by rfl) (by exact zend)) ?_
    try go_frame
    repeat (first | (refine plPure rfl rfl (by intro w_ hSw; go_simp; first | done | exact rfl) ?_; try simp only [Act.put, List.setIfInBounds_toArray, List.set_cons_zero, List.set_cons_succ, List.getElem_toArray, List.getElem_cons_succ, List.getElem_cons_zero]))
    refine plTakeL (by rfl) (yields_mem (by rfl) _ _ (by rfl) 0 (fun w_ hSw => hSw) (by rfl) _ (by rfl) (endA d.b v.b) (by kernel_rfl) _ uE.out (by rfl) (by exact zend)) ?_
    try go_frame
    repeat (first | (refine plPure rfl rfl (by intro w_ hSw; go_simp; first | done | exact rfl) ?_; try simp only [Act.put, List.setIfInBounds_toArray, List.set_cons_zero, List.set_cons_succ, List.getElem_toArray, List.getElem_cons_succ, List.getElem_cons_zero]))
    refine plTakeL (by rfl) (yields_memc rfl _ _ rfl 0 (fun w_ hSw => hSw) rfl 81 rfl (.int .i64 d.code) (by rfl) _ Tryz.underlying3 (by rfl)) ?_
    try go_frame
    repeat (first | (refine plPure rfl rfl (by intro w_ hSw; go_simp; first | done | exact rfl) ?_; try simp only [Act.put, List.setIfInBounds_toArray, List.set_cons_zero, List.set_cons_succ, List.getElem_toArray, List.getElem_cons_succ, List.getElem_cons_zero]))
    clear HMs
    refine plStepL rfl rfl fun K hK => ?_
    go_wp2_with (first | (refine wpList_storeF 4 HM rfl _ _ _ rfl _ rfl rfl _ rfl (by exact zend) (by rfl) (by rfl) ?_; have hBq := HM.out.at_ 4 rfl; clear HM; intro w4 HM hG4; simp only [List.set] at HM; replace hF := Lib.hid (hFs.put hF.out hBq (by decide) (by decide) hG4.out); clear hBq hG4) | fail)
    refine hK.out _ _ ((HM.out.less 4).less 3) fun hS_ => ?_
    clear hK K hS_
    try simp only [Act.put, List.setIfInBounds_toArray, List.set_cons_zero, List.set_cons_succ, List.getElem_toArray, List.getElem_cons_succ, List.getElem_cons_zero]
    repeat (first | (refine plPure rfl rfl (by intro w_ hSw; go_simp; first | done | exact rfl) ?_; try simp only [Act.put, List.setIfInBounds_toArray, List.set_cons_zero, List.set_cons_succ, List.getElem_toArray, List.getElem_cons_succ, List.getElem_cons_zero]))
    refine plStepL rfl rfl fun K hK => ?_
    go_wp2_with (first | (refine wpList_storeF 3 HM rfl _ _ _ rfl _ rfl rfl _ rfl (by exact zend) (by rfl) (by rfl) ?_; have hBq := HM.out.at_ 3 rfl; clear HM; intro w4 HM hG4; simp only [List.set] at HM; replace hF := Lib.hid (hFs.put hF.out hBq (by decide) (by decide) hG4.out); clear hBq hG4) | fail)
    refine hK.out _ _ ((HM.out.less 4).less 3) fun hS_ => ?_
    clear hK K hS_
    try simp only [Act.put, List.setIfInBounds_toArray, List.set_cons_zero, List.set_cons_succ, List.getElem_toArray, List.getElem_cons_succ, List.getElem_cons_zero]
    repeat (first | (refine plPure rfl rfl (by intro w_ hSw; go_simp; first | done | exact rfl) ?_; try simp only [Act.put, List.setIfInBounds_toArray, List.set_cons_zero, List.set_cons_succ, List.getElem_toArray, List.getElem_cons_succ, List.getElem_cons_zero]))
    refine plDone ?_
    simp only [List.drop]
    go_wp2_with fail
    try simp only [Exit.inBlock, Exit.then]
    refine bodyPost_ret (results_cctt rfl (HM.out.at_ 4 rfl) (HM.out.at_ 3 rfl) rfl rfl _ uE.out rfl (by exact zend) _ uE.out rfl (by exact zend)) rfl ?_
    exact hPo.out d v _ hC.out (gD.out _ hF.out) HM.out.below
end Tx
end Go.Proofs.YtfoffooblkofhaaGreat
