/- Chapter 27: the example. -/
import Derived.Test.YtfoffooblkofhaaGreatEq
set_option linter.unusedVariables false
set_option linter.unusedSimpArgs false
namespace Go.Proofs.YtfoffooblkofhaaGreat
open Go Go.RowKit Go.Sort Go.Shelf Go.Maps
namespace Tx
open Sw Mm Pl
theorem OwnB.is {w : World} {vb v : EdV} {b e : Ed} (h : OwnB vb b v e w) (h2 : EdIs w vb b) : EdIs w v e := by
  rcases h with h | ⟨rfl, rfl⟩
  · exact h.is
  · exact h2
set_option maxRecDepth 100000 in
set_option maxHeartbeats 8000000 in
theorem awake27_any (w : World) : Calls Tryz.prog 19 #[] w fun r w' => r = .returned (.bool true) ∧ Below w.heap.size w w' := by
  have HM := Lib.hid (Mem.start w)
  obtain ⟨F0, hFs, hF⟩ : ∃ F : World → Prop, Stb F ∧ Hid (F w) := ⟨_, Stb.true, trivial⟩
  have uE := Tryz.underlying27
  have uT := Tryz.underlying29
  have uM := Tryz.underlying25
  obtain ⟨f1, f2, f3, f4, f5, f6, f7, f8, f9, f10⟩ := aw27_facts
  have cEx := fun A W (hf : IntS W A 4 [1, 1, 1, 1]) => exchange_any (startE 1 2) (startE 2 1) ⟨1, 4, []⟩ ⟨2, 4, []⟩ [1, 1, 1, 1] 1 1 ⟨false, true, false, false⟩ edV0 edV0 tabV0 tabV0 A 4 4 W (EdOwn.startE W 1 2).is (EdOwn.startE W 2 1).is ⟨Sls.nil, Nat.le_refl _⟩ ⟨Sls.nil, Nat.le_refl _⟩ hf
  rw [f1, f2] at cEx
  change ∀ A W, _ → Calls _ _ _ _ (ExPost awA awB (-1) 0 edV0 (startE 2 1) W) at cEx
  have cPl := fun v1 v2 A Al W (h1 : EdIs W v1 awA) (h2 : EdIs W v2 awB) (hf : IntS W A 4 [1, 1, 1, 1]) (hl : WshS W Al 2 awL) => play_any awA awB ⟨1, 4, []⟩ ⟨2, 4, []⟩ [1, 1, 1, 1] awL v1 v2 tabV0 tabV0 A Al 4 4 2 2 W h1 h2 ⟨Sls.nil, Nat.le_refl _⟩ ⟨Sls.nil, Nat.le_refl _⟩ hf hl (fun _ => ⟨⟨by decide, by decide⟩, ⟨by decide, by decide⟩⟩)
  rw [f7, f8] at cPl
  change ∀ v1 v2 A Al W, _ → _ → _ → _ → Calls _ _ _ _ (PlPost awX awY [false, true] 0 W) at cPl
  have cC := fun v1 v2 W (h1 : EdIs W v1 awA) (h2 : EdIs W v2 awB) => consP_any awA awB v1 v2 W h1 h2
  rw [f5] at cC
  have cD := fun v1 v2 W (h1 : EdIs W v1 awA) (h2 : EdIs W v2 awB) => detP_any awA awB v1 v2 W h1 h2
  rw [f6] at cD
  have cQ := fun A B n c d W (h1 : Sls boolE 1 W A n [false, true]) (h2 : Sls boolE 1 W B 2 [false, true]) => eqBool_any A B n c 2 d [false, true] [false, true] W h1 h2
  rw [show decide ([false, true] = [false, true]) = true from rfl] at cQ
  generalize awA = xA at *
  generalize awB = xB at *
  generalize awX = xX at *
  generalize awY = xY at *
  clear f1 f2 f5 f6 f7 f8
  replace cEx := Lib.hid cEx
  replace cPl := Lib.hid cPl
  replace cC := Lib.hid cC
  replace cD := Lib.hid cD
  replace cQ := Lib.hid cQ
  replace uE := Lib.hid uE
  replace uT := Lib.hid uT
  replace uM := Lib.hid uM
  replace f3 := Lib.hid f3
  replace f4 := Lib.hid f4
  replace f9 := Lib.hid f9
  replace f10 := Lib.hid f10
  go_enter Tryz.func19, Tryz.ntmps19
  have mk1 : Unit := ()
  have mk2 : Unit := ()
  go_upto_region 2 with (first | go_skip | (clear mk1; refine wpList_allocN HM rfl 27 rfl edInfo ?_; clear HM; intro g1 w1 HM hG hN9; replace hF := Lib.hid (hFs.keep hF.out hG.out); clear hG hN9) | (clear mk2; refine wpList_allocN HM rfl 27 rfl edInfo ?_; clear HM; intro g2 w1 HM hG hN9; replace hF := Lib.hid (hFs.keep hF.out hG.out); clear hG hN9) | (refine wpList_storeF 1 HM rfl _ _ _ rfl _ rfl rfl _ rfl (by exact zend) (by rfl) (by rfl) ?_; have hBq := HM.out.at_ 1 rfl; clear HM; intro w4 HM hG4; simp only [List.set] at HM; replace hF := Lib.hid (hFs.put hF.out hBq (by decide) (by decide) hG4.out); clear hBq hG4) | (refine wpList_storeF 0 HM rfl _ _ _ rfl _ rfl rfl _ rfl (by exact zend) (by rfl) (by rfl) ?_; have hBq := HM.out.at_ 0 rfl; clear HM; intro w4 HM hG4; simp only [List.set] at HM; replace hF := Lib.hid (hFs.put hF.out hBq (by decide) (by decide) hG4.out); clear hBq hG4) | fail)
  have HM9 : Hid (Mem w _ [(g2, endA (startE 2 1) edV0, 27), (g1, endA (startE 1 2) edV0, 27)]) := HM
  clear HM
  have HM := HM9
  clear HM9
  have mk3 : Unit := ()
  have mk4 : Unit := ()
  go_upto_region 3 with (first | go_skip | (clear mk3; refine wpList_allocN HM rfl 29 rfl tabInfo ?_; clear HM; intro g3 w1 HM hG hN9; replace hF := Lib.hid (hFs.keep hF.out hG.out); clear hG hN9) | (clear mk4; refine wpList_allocN HM rfl 29 rfl tabInfo ?_; clear HM; intro g4 w1 HM hG hN9; replace hF := Lib.hid (hFs.keep hF.out hG.out); clear hG hN9) | (refine wpList_storeF 1 HM rfl _ _ _ rfl _ rfl rfl _ rfl (by exact ztab) (by rfl) (by rfl) ?_; have hBq := HM.out.at_ 1 rfl; clear HM; intro w4 HM hG4; simp only [List.set] at HM; replace hF := Lib.hid (hFs.put hF.out hBq (by decide) (by decide) hG4.out); clear hBq hG4) | (refine wpList_storeF 0 HM rfl _ _ _ rfl _ rfl rfl _ rfl (by exact ztab) (by rfl) (by rfl) ?_; have hBq := HM.out.at_ 0 rfl; clear HM; intro w4 HM hG4; simp only [List.set] at HM; replace hF := Lib.hid (hFs.put hF.out hBq (by decide) (by decide) hG4.out); clear hBq hG4) | fail)
  have HM9 : Hid (Mem w _ [(g4, tabA ⟨2, 4, []⟩ tabV0, 29), (g3, tabA ⟨1, 4, []⟩ tabV0, 29), (g2, endA (startE 2 1) edV0, 27), (g1, endA (startE 1 2) edV0, 27)]) := HM
  clear HM
  have HM := HM9
  clear HM9
  go_upto_region 4 with fail
  have HM2 := Lib.hid (HM.out.alloc #[.int .i64 1, .int .i64 1, .int .i64 1, .int .i64 1] 3)
  replace hF := Lib.hid (hFs.keep hF.out (ball _ (.cells #[.int .i64 1, .int .i64 1, .int .i64 1, .int .i64 1] 3)))
  clear HM
  have HM := HM2
  clear HM2
  generalize w4.alloc (.cells #[.int .i64 1, .int .i64 1, .int .i64 1, .int .i64 1] 3) = w5 at *
  generalize w4.heap.size = gf at *
  have mk5 : Unit := ()
  go_upto_region 5 with (first | go_skip | (refine wpList_loadG 4 HM (by rfl) _ _ rfl _ rfl rfl _ uE.out rfl (by exact zend) ?_) | (refine wpList_loadG 3 HM (by rfl) _ _ rfl _ rfl rfl _ uE.out rfl (by exact zend) ?_) | (refine wpList_loadG 2 HM (by rfl) _ _ rfl _ rfl rfl _ uT.out rfl (by exact ztab) ?_) | (refine wpList_loadG 1 HM (by rfl) _ _ rfl _ rfl rfl _ uT.out rfl (by exact ztab) ?_) | (go_at_call 25; clear mk5; refine (cEx.out _ _ (aw27_free (HM.out.at_ 0 rfl))).mono ?_; rintro r w3 ⟨v1, v2, rfl, hE, hO5, hb_⟩; replace HM := Lib.hid (HM.out.keep hb_); replace hF := Lib.hid (hFs.keep hF.out hb_); clear hb_; obtain ⟨F1, hFs2, hF2, hU, hNw⟩ := stb_add hFs hF (Stb.ed v1 _) hE; clear hFs hF; have gA := Lib.hid hNw; clear hNw hU; have hFs := hFs2; have hF := hF2; clear hFs2 hF2 hE; obtain ⟨F2, hFs2, hF2, hU, hNw⟩ := stb_add hFs hF (Stb.ownB _ _ v2 _) hO5; clear hFs hF; replace gA := Lib.hid (fun W h => gA.out W (hU W h)); have gB := Lib.hid hNw; clear hNw hU; have hFs := hFs2; have hF := hF2; clear hFs2 hF2 hO5; dsimp only) | (refine wpList_storeF 4 HM rfl _ _ _ rfl _ rfl rfl _ rfl (by exact zend) (by rfl) (by rfl) ?_; have hBq := HM.out.at_ 4 rfl; clear HM; intro w4 HM hG4; simp only [List.set] at HM; replace hF := Lib.hid (hFs.put hF.out hBq (by decide) (by decide) hG4.out); clear hBq hG4) | (refine wpList_storeF 3 HM rfl _ _ _ rfl _ rfl rfl _ rfl (by exact zend) (by rfl) (by rfl) ?_; have hBq := HM.out.at_ 3 rfl; clear HM; intro w4 HM hG4; simp only [List.set] at HM; replace hF := Lib.hid (hFs.put hF.out hBq (by decide) (by decide) hG4.out); clear hBq hG4) | fail)
  have hn1 := (gA.out _ hF.out).is.cells.len
  have hn2 := ((gB.out _ hF.out).is (EdOwn.startE _ 2 1).is).cells.len
  have p3 : World.cell? _ ⟨g1, 3, none⟩ = some (.slice v1.cA v1.cn v1.cc) := HM.out.cell 4 rfl 3
  have q3 : World.cell? _ ⟨g2, 3, none⟩ = some (.slice v2.cA v2.cn v2.cc) := HM.out.cell 3 rfl 3
  rw [← hn1, f3.out] at p3
  rw [← hn2, f4.out] at q3
  clear hn1 hn2
  have mk6 : Unit := ()
  have mk7 : Unit := ()
  go_upto_region 7 with (first | go_skip | (refine wpList_loadG 4 HM (by rfl) _ _ rfl _ rfl rfl _ uE.out rfl (by exact zend) ?_) | (refine wpList_loadG 3 HM (by rfl) _ _ rfl _ rfl rfl _ uE.out rfl (by exact zend) ?_) | (go_at_call 20; clear mk6; refine (cC.out _ _ _ (gA.out _ hF.out).is ((gB.out _ hF.out).is (EdOwn.startE _ 2 1).is)).mono ?_; rintro r w3 ⟨rfl, hb_⟩; clear p3 q3; replace HM := Lib.hid (HM.out.keep hb_); replace hF := Lib.hid (hFs.keep hF.out hb_); clear hb_; dsimp only) | (go_at_call 22; clear mk7; refine (cD.out _ _ _ (gA.out _ hF.out).is ((gB.out _ hF.out).is (EdOwn.startE _ 2 1).is)).mono ?_; rintro r w3 ⟨rfl, hb_⟩; replace HM := Lib.hid (HM.out.keep hb_); replace hF := Lib.hid (hFs.keep hF.out hb_); clear hb_; dsimp only) | fail)
  try clear p3
  try clear q3
  have mk8 : Unit := ()
  go_upto_region 8 with (first | go_skip | (refine wpList_loadG 4 HM (by rfl) _ _ rfl _ rfl rfl _ uE.out rfl (by exact zend) ?_) | (refine wpList_loadG 3 HM (by rfl) _ _ rfl _ rfl rfl _ uE.out rfl (by exact zend) ?_) | (refine wpList_loadG 2 HM (by rfl) _ _ rfl _ rfl rfl _ uT.out rfl (by exact ztab) ?_) | (refine wpList_loadG 1 HM (by rfl) _ _ rfl _ rfl rfl _ uT.out rfl (by exact ztab) ?_) | (go_at_call 27; clear mk8; refine (cPl.out _ _ _ _ _ ((gA.out _ (hFs.keep hF.out (ball _ _))).is) ((gB.out _ (hFs.keep hF.out (ball _ _))).is (EdOwn.startE _ 2 1).is) (aw27_free ((HM.out.keep (ball _ _)).at_ 0 rfl)) (aw27_wish (Blk.new _ _ _))).mono ?_; rintro r w3 ⟨v3, v4, A5, n5, c5, rfl, hX5, hY5, ⟨bO, HO⟩, hn5, hb_⟩; replace HM := Lib.hid ((HM.out.keep (ball _ _)).keep hb_); have hZ := Lib.hid (bthen HM.out.below (Below.refl _ _)); replace HO := Lib.hid HO; replace hn5 := Lib.hid hn5; have hb9 := HM.out.below; clear hF hFs gA gB; obtain ⟨F8, hFs, hF, gX, gY⟩ : ∃ F : World → Prop, Stb F ∧ Hid (F w3) ∧ Hid (∀ W, F W → EdX _ v3 xX W) ∧ Hid (∀ W, F W → EdX _ v4 xY W) := ⟨_, (Stb.edX _ v3 xX).and (Stb.edX _ v4 xY), ⟨hX5, hY5⟩, fun _ h => h.1, fun _ h => h.2⟩; clear hX5 hY5 hb_ hZ hb9; dsimp only) | (refine wpList_storeF 4 HM rfl _ _ _ rfl _ rfl rfl _ rfl (by exact zend) (by rfl) (by rfl) ?_; have hBq := HM.out.at_ 4 rfl; clear HM; intro w4 HM hG4; simp only [List.set] at HM; replace hF := Lib.hid (hFs.put hF.out hBq (by decide) (by decide) hG4.out); replace HO := Lib.hid (HO.out.kept hG4.out (.inr (row_ne_blk HO.out hBq (by decide)))); clear hBq hG4) | (refine wpList_storeF 3 HM rfl _ _ _ rfl _ rfl rfl _ rfl (by exact zend) (by rfl) (by rfl) ?_; have hBq := HM.out.at_ 3 rfl; clear HM; intro w4 HM hG4; simp only [List.set] at HM; replace hF := Lib.hid (hFs.put hF.out hBq (by decide) (by decide) hG4.out); replace HO := Lib.hid (HO.out.kept hG4.out (.inr (row_ne_blk HO.out hBq (by decide)))); clear hBq hG4) | fail)
  have hn1 := (gX.out _ hF.out).lc
  have hn2 := (gY.out _ hF.out).lc
  have p3 : World.cell? _ ⟨g1, 3, none⟩ = some (.slice v3.cA v3.cn v3.cc) := HM.out.cell 4 rfl 3
  have q3 : World.cell? _ ⟨g2, 3, none⟩ = some (.slice v4.cA v4.cn v4.cc) := HM.out.cell 3 rfl 3
  rw [← hn1, f9.out] at p3
  rw [← hn2, f10.out] at q3
  clear hn1 hn2
  have mk9 : Unit := ()
  go_wp2_with (first | go_skip | (go_at_call 29; clear mk9; refine (cQ.out _ _ _ _ _ _ ((Sls.of_owns boolE_len (owns_keep HO.out (ball _ _)) hn5.out).2) (aw27_bools (Blk.new _ _ _))).mono ?_; rintro r w3 ⟨rfl, hb_⟩; clear p3 q3; replace HM := Lib.hid ((HM.out.keep (ball _ _)).keep hb_); have p3 : World.cell? _ ⟨g1, 3, none⟩ = some (.slice v3.cA v3.cn v3.cc) := HM.out.cell 4 rfl 3; have q3 : World.cell? _ ⟨g2, 3, none⟩ = some (.slice v4.cA v4.cn v4.cc) := HM.out.cell 3 rfl 3; rw [← (gX.out _ hF.out).lc, f9.out] at p3; rw [← (gY.out _ hF.out).lc, f10.out] at q3; clear hb_ hF hFs gX gY HO; dsimp only) | fail)
  try simp only [Exit.inBlock, Exit.then]
  go_ret
  exact ⟨by first | rfl | trivial, HM.out.below⟩
end Tx
end Go.Proofs.YtfoffooblkofhaaGreat
