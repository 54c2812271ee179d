/- The statements' example. -/
import Derived.Test.YtkfipbelhlcddaaGreatMw
import Derived.Test.YtkfipbelhlcddaaGreatTaW
import Derived.Test.YtkfipbelhlcddaaGreatTaO
import Derived.Test.YtkfipbelhlcddaaGreatTx9
set_option linter.unusedVariables false
set_option linter.unusedSimpArgs false
namespace Go.Proofs.YtkfipbelhlcddaaGreat
open Go Go.RowKit Go.Sort Go.Shelf Go.Maps
namespace Tx
open Sw Mm Pl
def awF : List Int := [0, 1, 1, 0]
def awA1 : Ed := askE (startN 1 2) ⟨1, 4, []⟩ awF 1 1 7
def awM1 : Msg := askN (startN 1 2) ⟨1, 4, []⟩ awF 1 1 7
def awB1 : Ed := (recv (startN 2 1) ⟨2, 4, []⟩ awF awM1).1
def awR1 : Msg := (recv (startN 2 1) ⟨2, 4, []⟩ awF awM1).2
def awA2 : Ed := finN awA1 awR1
set_option maxRecDepth 100000 in
theorem aw_facts : startC 1 2 = 0 ∧ startC 2 1 = 0 ∧ askC (startN 1 2) ⟨1, 4, []⟩ awF 1 1 7 = 0 ∧ recvC (startN 2 1) ⟨2, 4, []⟩ awM1 = 0 ∧ finC awA1 awR1 = 0 ∧ awA2.number = 1 ∧ awB1.number = 1 ∧ awA2.cells = [⟨1, 0, 2, true, 2, -1⟩] ∧ awB1.cells = [⟨1, 0, 2, false, 1, -1⟩] := by decide +kernel
theorem aw_free {w : World} {B : Nat} {t : TypeId} (h : Blk w B #[.int .i64 0, .int .i64 1, .int .i64 1, .int .i64 0] t) : IntS w (some ⟨B, 0, none⟩) 4 awF where
  len := rfl
  small := by unfold maxLen; omega
  at_ := fun _ => ⟨B, 0, rfl, h.lt, fun i hi j hj => by
    obtain rfl : j = 0 := by omega
    rw [show 0 + i * 1 + 0 = i by omega, h.cell]
    rcases (by omega : i = 0 ∨ i = 1 ∨ i = 2 ∨ i = 3) with rfl | rfl | rfl | rfl <;> rfl⟩
set_option maxRecDepth 100000 in
set_option maxHeartbeats 4000000 in
theorem awake_any (w : World) : Calls Tryz.prog 11 #[] w fun r w' => r = .returned (.bool true) ∧ Below w.heap.size w w' := by
  have HM := Lib.hid (Mem.start w)
  obtain ⟨F0, hFs, hF⟩ : ∃ F : World → Prop, Stb F ∧ Hid (F w) := ⟨_, Stb.true, trivial⟩
  have uE := Tryz.underlying27
  have uT := Tryz.underlying29
  have uM := Tryz.underlying25
  obtain ⟨f1, f2, f3, f4, f5, f6, f7, f8, f9⟩ := aw_facts
  have cS1 := fun W => start_own 1 2 W
  have cS2 := fun W => start_own 2 1 W
  rw [f1] at cS1
  rw [f2] at cS2
  have cAs := fun v1 A W (h : EdOwn W v1 (startN 1 2)) (hf : IntS W A 4 awF) => ask_any (startN 1 2) ⟨1, 4, []⟩ v1 tabV0 A 4 4 awF 1 1 7 W h.is ⟨Sls.nil, Nat.le_refl _⟩ hf
  rw [f3] at cAs
  change ∀ v1 A W, EdOwn W v1 (startN 1 2) → _ → Calls _ _ _ _ (TriOwn awA1 awM1 0 W) at cAs
  have cRc := fun v2 vm A W (h : EdOwn W v2 (startN 2 1)) (hm : MsgSub W vm awM1) (hf : IntS W A 4 awF) => receive_any (startN 2 1) ⟨2, 4, []⟩ awF awM1 v2 tabV0 vm A 4 4 W h.is ⟨Sls.nil, Nat.le_refl _⟩ hf hm.is
  rw [f4] at cRc
  change ∀ v2 vm A W, EdOwn W v2 (startN 2 1) → _ → _ → Calls _ _ _ _ (TriOwn awB1 awR1 0 W) at cRc
  have cFi := fun v1 vr W (h : EdOwn W v1 awA1) (hr : MsgSub W vr awR1) => finish_any awA1 awR1 v1 vr W h.is hr.is
  rw [f5] at cFi
  change ∀ v1 vr W, EdOwn W v1 awA1 → _ → Calls _ _ _ _ (EndOwn awA2 0 W) at cFi
  have cQ := fun A B n m c1 c2 xs ys W (h1 : TclS W A n xs) (h2 : TclS W B m ys) => equalT_any A B n m c1 c2 xs ys W h1 h2
  generalize startN 1 2 = xA0 at *
  generalize startN 2 1 = xB0 at *
  generalize awA1 = xA1 at *
  generalize awM1 = xM1 at *
  generalize awB1 = xB1 at *
  generalize awR1 = xR1 at *
  generalize awA2 = xA2 at *
  clear f1 f2 f3 f4 f5
  replace cS1 := Lib.hid cS1
  replace cS2 := Lib.hid cS2
  replace cAs := Lib.hid cAs
  replace cRc := Lib.hid cRc
  replace cFi := Lib.hid cFi
  replace cQ := Lib.hid cQ
  replace uE := Lib.hid uE
  replace uT := Lib.hid uT
  replace uM := Lib.hid uM
  replace f6 := Lib.hid f6
  replace f7 := Lib.hid f7
  replace f8 := Lib.hid f8
  replace f9 := Lib.hid f9
  go_enter Tryz.func11, Tryz.ntmps11
  have mk1 : Unit := ()
  have mk2 : Unit := ()
  go_upto_region 2 with (first | go_skip | (go_at_call 30; clear mk1; refine (cS1.out _).mono ?_; rintro r w3 ⟨v1, rfl, hE, hb_⟩; replace HM := Lib.hid (HM.out.keep hb_); replace hF := Lib.hid (hFs.keep hF.out hb_); clear hb_; obtain ⟨F1, hFs2, hF2, hU, hNw⟩ := stb_add hFs hF (Stb.ed v1 _) hE; clear hFs hF; have gA := Lib.hid hNw; clear hNw hU; have hFs := hFs2; have hF := hF2; clear hFs2 hF2 hE) | (clear mk2; refine wpList_allocN HM rfl 27 rfl edInfo ?_; clear HM; intro g1 w1 HM hG hN9; replace hF := Lib.hid (hFs.keep hF.out hG.out); clear hG hN9) | (refine wpList_storeF 0 HM rfl _ _ _ rfl _ rfl rfl _ rfl (by exact zend) (by rfl) (by rfl) ?_; have hBq := HM.out.at_ 0 rfl; clear HM; intro w4 HM hG4; simp only [List.set] at HM; replace hF := Lib.hid (hFs.put hF.out hBq (by decide) (by decide) hG4.out); clear hBq hG4) | fail)
  have mk3 : Unit := ()
  have mk4 : Unit := ()
  go_upto_region 3 with (first | go_skip | (go_at_call 30; clear mk3; refine (cS2.out _).mono ?_; rintro r w3 ⟨v2, rfl, hE, hb_⟩; replace HM := Lib.hid (HM.out.keep hb_); replace hF := Lib.hid (hFs.keep hF.out hb_); clear hb_; obtain ⟨F2, hFs2, hF2, hU, hNw⟩ := stb_add hFs hF (Stb.ed v2 _) hE; clear hFs hF; replace gA := Lib.hid (fun W h => gA.out W (hU W h)); have gB := Lib.hid hNw; clear hNw hU; have hFs := hFs2; have hF := hF2; clear hFs2 hF2 hE) | (clear mk4; refine wpList_allocN HM rfl 27 rfl edInfo ?_; clear HM; intro g3 w1 HM hG hN9; replace hF := Lib.hid (hFs.keep hF.out hG.out); clear hG hN9) | (refine wpList_storeF 0 HM rfl _ _ _ rfl _ rfl rfl _ rfl (by exact zend) (by rfl) (by rfl) ?_; have hBq := HM.out.at_ 0 rfl; clear HM; intro w4 HM hG4; simp only [List.set] at HM; replace hF := Lib.hid (hFs.put hF.out hBq (by decide) (by decide) hG4.out); clear hBq hG4) | fail)
  go_upto_region 4 with fail
  have HM2 := Lib.hid (HM.out.alloc #[.int .i64 0, .int .i64 1, .int .i64 1, .int .i64 0] 3)
  replace hF := Lib.hid (hFs.keep hF.out (ball _ (.cells #[.int .i64 0, .int .i64 1, .int .i64 1, .int .i64 0] 3)))
  clear HM
  have HM := HM2
  clear HM2
  generalize w4.alloc (.cells #[.int .i64 0, .int .i64 1, .int .i64 1, .int .i64 0] 3) = w5 at *
  generalize w4.heap.size = gf at *
  have mk5 : Unit := ()
  have mk6 : Unit := ()
  go_upto_region 5 with (first | go_skip | (clear mk5; refine wpList_allocN HM rfl 29 rfl tabInfo ?_; clear HM; intro g6 w1 HM hG hN9; replace hF := Lib.hid (hFs.keep hF.out hG.out); clear hG hN9) | (clear mk6; refine wpList_allocN HM rfl 29 rfl tabInfo ?_; clear HM; intro g7 w1 HM hG hN9; replace hF := Lib.hid (hFs.keep hF.out hG.out); clear hG hN9) | (refine wpList_storeF 1 HM rfl _ _ _ rfl _ rfl rfl _ rfl (by exact ztab) (by rfl) (by rfl) ?_; have hBq := HM.out.at_ 1 rfl; clear HM; intro w4 HM hG4; simp only [List.set] at HM; replace hF := Lib.hid (hFs.put hF.out hBq (by decide) (by decide) hG4.out); clear hBq hG4) | (refine wpList_storeF 0 HM rfl _ _ _ rfl _ rfl rfl _ rfl (by exact ztab) (by rfl) (by rfl) ?_; have hBq := HM.out.at_ 0 rfl; clear HM; intro w4 HM hG4; simp only [List.set] at HM; replace hF := Lib.hid (hFs.put hF.out hBq (by decide) (by decide) hG4.out); clear hBq hG4) | fail)
  have mk7 : Unit := ()
  have mk8 : Unit := ()
  go_upto_region 6 with (first | go_skip | (refine wpList_loadG 4 HM (by rfl) _ _ rfl _ rfl rfl _ uE.out rfl (by exact zend) ?_) | (refine wpList_loadG 1 HM (by rfl) _ _ rfl _ rfl rfl _ uT.out rfl (by exact ztab) ?_) | (go_at_call 24; clear mk7; refine (cAs.out v1 _ _ (gA.out _ hF.out) (aw_free (HM.out.at_ 2 rfl))).mono ?_; rintro r w3 ⟨v3, vm1, rfl, hE, hM, hb_⟩; replace HM := Lib.hid (HM.out.keep hb_); replace hF := Lib.hid (hFs.keep hF.out hb_); clear hb_; obtain ⟨F3, hFs2, hF2, hU, hNw⟩ := stb_add hFs hF (Stb.ed v3 _) hE; clear hFs hF; replace gA := Lib.hid (fun W h => gA.out W (hU W h)); replace gB := Lib.hid (fun W h => gB.out W (hU W h)); have gA1 := Lib.hid hNw; clear hNw hU; have hFs := hFs2; have hF := hF2; clear hFs2 hF2 hE; obtain ⟨F4, hFs2, hF2, hU, hNw⟩ := stb_add hFs hF (Stb.sub vm1 _) hM; clear hFs hF; replace gA := Lib.hid (fun W h => gA.out W (hU W h)); replace gB := Lib.hid (fun W h => gB.out W (hU W h)); replace gA1 := Lib.hid (fun W h => gA1.out W (hU W h)); have gM1 := Lib.hid hNw; clear hNw hU; have hFs := hFs2; have hF := hF2; clear hFs2 hF2 hM) | (clear mk8; refine wpList_allocN HM rfl 25 rfl msgInfo ?_; clear HM; intro g8 w1 HM hG hN9; replace hF := Lib.hid (hFs.keep hF.out hG.out); clear hG hN9) | (refine wpList_storeF 5 HM rfl _ _ _ rfl _ rfl rfl _ rfl (by exact zend) (by rfl) (by rfl) ?_; have hBq := HM.out.at_ 5 rfl; clear HM; intro w4 HM hG4; simp only [List.set] at HM; replace hF := Lib.hid (hFs.put hF.out hBq (by decide) (by decide) hG4.out); clear hBq hG4) | (refine wpList_storeF 0 HM rfl _ _ _ rfl _ rfl rfl _ rfl (by exact zmsg) (by rfl) (by rfl) ?_; have hBq := HM.out.at_ 0 rfl; clear HM; intro w4 HM hG4; simp only [List.set] at HM; replace hF := Lib.hid (hFs.put hF.out hBq (by decide) (by decide) hG4.out); clear hBq hG4) | fail)
  have mk9 : Unit := ()
  have mk10 : Unit := ()
  go_upto_region 7 with (first | go_skip | (refine wpList_loadG 4 HM (by rfl) _ _ rfl _ rfl rfl _ uE.out rfl (by exact zend) ?_) | (refine wpList_loadG 1 HM (by rfl) _ _ rfl _ rfl rfl _ uT.out rfl (by exact ztab) ?_) | (refine wpList_loadG 0 HM (by rfl) _ _ rfl _ rfl rfl _ uM.out rfl (by exact zmsg) ?_) | (go_at_call 15; clear mk9; refine (cRc.out v2 vm1 _ _ (gB.out _ hF.out) (gM1.out _ hF.out) (aw_free (HM.out.at_ 3 rfl))).mono ?_; rintro r w3 ⟨v4, vr1, rfl, hE, hM, hb_⟩; replace HM := Lib.hid (HM.out.keep hb_); replace hF := Lib.hid (hFs.keep hF.out hb_); clear hb_; obtain ⟨F5, hFs2, hF2, hU, hNw⟩ := stb_add hFs hF (Stb.ed v4 _) hE; clear hFs hF; replace gA := Lib.hid (fun W h => gA.out W (hU W h)); replace gB := Lib.hid (fun W h => gB.out W (hU W h)); replace gA1 := Lib.hid (fun W h => gA1.out W (hU W h)); replace gM1 := Lib.hid (fun W h => gM1.out W (hU W h)); have gB1 := Lib.hid hNw; clear hNw hU; have hFs := hFs2; have hF := hF2; clear hFs2 hF2 hE; obtain ⟨F6, hFs2, hF2, hU, hNw⟩ := stb_add hFs hF (Stb.sub vr1 _) hM; clear hFs hF; replace gA := Lib.hid (fun W h => gA.out W (hU W h)); replace gB := Lib.hid (fun W h => gB.out W (hU W h)); replace gA1 := Lib.hid (fun W h => gA1.out W (hU W h)); replace gM1 := Lib.hid (fun W h => gM1.out W (hU W h)); replace gB1 := Lib.hid (fun W h => gB1.out W (hU W h)); have gR1 := Lib.hid hNw; clear hNw hU; have hFs := hFs2; have hF := hF2; clear hFs2 hF2 hM) | (clear mk10; refine wpList_allocN HM rfl 25 rfl msgInfo ?_; clear HM; intro g10 w1 HM hG hN9; replace hF := Lib.hid (hFs.keep hF.out hG.out); clear hG hN9) | (refine wpList_storeF 5 HM rfl _ _ _ rfl _ rfl rfl _ rfl (by exact zend) (by rfl) (by rfl) ?_; have hBq := HM.out.at_ 5 rfl; clear HM; intro w4 HM hG4; simp only [List.set] at HM; replace hF := Lib.hid (hFs.put hF.out hBq (by decide) (by decide) hG4.out); clear hBq hG4) | (refine wpList_storeF 0 HM rfl _ _ _ rfl _ rfl rfl _ rfl (by exact zmsg) (by rfl) (by rfl) ?_; have hBq := HM.out.at_ 0 rfl; clear HM; intro w4 HM hG4; simp only [List.set] at HM; replace hF := Lib.hid (hFs.put hF.out hBq (by decide) (by decide) hG4.out); clear hBq hG4) | fail)
  have mk11 : Unit := ()
  go_upto_region 8 with (first | go_skip | (refine wpList_loadG 6 HM (by rfl) _ _ rfl _ rfl rfl _ uE.out rfl (by exact zend) ?_) | (refine wpList_loadG 0 HM (by rfl) _ _ rfl _ rfl rfl _ uM.out rfl (by exact zmsg) ?_) | (go_at_call 19; clear mk11; refine (cFi.out v3 vr1 _ (gA1.out _ hF.out) (gR1.out _ hF.out)).mono ?_; rintro r w3 ⟨v5, rfl, hE, hb_⟩; replace HM := Lib.hid (HM.out.keep hb_); replace hF := Lib.hid (hFs.keep hF.out hb_); clear hb_; obtain ⟨F7, hFs2, hF2, hU, hNw⟩ := stb_add hFs hF (Stb.ed v5 _) hE; clear hFs hF; replace gA := Lib.hid (fun W h => gA.out W (hU W h)); replace gB := Lib.hid (fun W h => gB.out W (hU W h)); replace gA1 := Lib.hid (fun W h => gA1.out W (hU W h)); replace gM1 := Lib.hid (fun W h => gM1.out W (hU W h)); replace gB1 := Lib.hid (fun W h => gB1.out W (hU W h)); replace gR1 := Lib.hid (fun W h => gR1.out W (hU W h)); have gA2 := Lib.hid hNw; clear hNw hU; have hFs := hFs2; have hF := hF2; clear hFs2 hF2 hE) | (refine wpList_storeF 6 HM rfl _ _ _ rfl _ rfl rfl _ rfl (by exact zend) (by rfl) (by rfl) ?_; have hBq := HM.out.at_ 6 rfl; clear HM; intro w4 HM hG4; simp only [List.set] at HM; replace hF := Lib.hid (hFs.put hF.out hBq (by decide) (by decide) hG4.out); clear hBq hG4) | fail)
  have n1 := Lib.hid (gA2.out _ hF.out).lc
  have n2 := Lib.hid (gB1.out _ hF.out).lc
  have q1 := Lib.hid (fun W (h : F7 W) => (gA2.out W h).is.cells)
  have q2 := Lib.hid (fun W (h : F7 W) => (gB1.out W h).is.cells)
  rw [f8.out] at q1
  rw [f9.out] at q2
  have ka := HM.out.cell 6 rfl
  have kb := HM.out.cell 5 rfl
  have ka2 := ka 2
  have ka3 := ka 3
  have kb2 := kb 2
  have kb3 := kb 3
  change _ = some (Value.int .i64 xA2.number) at ka2
  change _ = some (Value.int .i64 xB1.number) at kb2
  change _ = some (Value.slice v5.cA v5.cn v5.cc) at ka3
  change _ = some (Value.slice v4.cA v4.cn v4.cc) at kb3
  rw [f6.out] at ka2
  rw [f7.out] at kb2
  clear ka kb
  have mk12 : Unit := ()
  have mk13 : Unit := ()
  go_wp2_with (first | go_skip | (go_at_call 42; clear mk12; refine (cQ.out _ _ _ _ _ _ [⟨1, 0, 2, true, 2, -1⟩] [⟨1, 0, 2, true, 2, -1⟩] _ (q1.out _ (hFs.keep hF.out (ball _ _))) (Sls.one (t := 67) (Blk.new _ _ _))).mono ?_; rintro r w3 ⟨rfl, hb_⟩; clear ka2 ka3 kb2 kb3; replace HM := Lib.hid ((HM.out.keep (ball _ _)).keep hb_); replace hF := Lib.hid (hFs.keep (hFs.keep hF.out (ball _ _)) hb_); clear hb_; have kb3 := HM.out.cell 5 rfl 3; change _ = some (Value.slice v4.cA v4.cn v4.cc) at kb3) | (go_at_call 42; clear mk13; refine (cQ.out _ _ _ _ _ _ [⟨1, 0, 2, false, 1, -1⟩] [⟨1, 0, 2, false, 1, -1⟩] _ (q2.out _ (hFs.keep hF.out (ball _ _))) (Sls.one (t := 67) (Blk.new _ _ _))).mono ?_; rintro r w3 ⟨rfl, hb_⟩; replace HM := Lib.hid ((HM.out.keep (ball _ _)).keep hb_); replace hF := Lib.hid (hFs.keep (hFs.keep hF.out (ball _ _)) hb_); clear hb_) | fail)
  try simp only [Exit.inBlock, Exit.then]
  go_ret
  exact ⟨by first | rfl | trivial, HM.out.below⟩
end Tx
end Go.Proofs.YtkfipbelhlcddaaGreat
