/- The law Doubled. -/
import Derived.Test.YtkfipbelhlcddaaGreatTbW
import Derived.Test.YtkfipbelhlcddaaGreatTaW
import Derived.Test.YtkfipbelhlcddaaGreatTaJs
set_option linter.unusedVariables false
set_option linter.unusedSimpArgs false
namespace Go.Proofs.YtkfipbelhlcddaaGreat
open Go Go.RowKit Go.Sort Go.Shelf Go.Maps
namespace Tx
open Sw Mm Pl
set_option maxRecDepth 100000 in
set_option maxHeartbeats 16000000 in
theorem doubled_any (e : Ed) (t : Tab) (f : List Int) (m : Msg) (v : EdV) (vt : TabV) (vm : MsgV) (A : Option Addr) (nf cf : Nat) (w : World) (h : EdIs w v e) (ht : TabIs w vt t) (hf : IntS w A nf f) (hm : MsgIs w vm m) : Calls Tryz.prog 6 #[.agg (endA e v), .agg (tabA t vt), .slice A nf cf, .agg (msgA m vm)] w fun r w' => r = .returned (.bool true) ∧ Below w.heap.size w w' := by
  have HM := Lib.hid (Mem.start w)
  obtain ⟨F0, hFs, hF⟩ : ∃ F : World → Prop, Stb F ∧ Hid (F w) := ⟨_, Stb.true, trivial⟩
  have uE := Tryz.underlying27
  have uT := Tryz.underlying29
  have uM := Tryz.underlying25
  have cAw := fun W => awake_any W
  have cFe := fun W (hb : Below w.heap.size w W) => fewE_any e v W (h.keep hb)
  have cFt := fun W (hb : Below w.heap.size w W) => fewT_any t vt W (ht.keep hb)
  have cFm := fun W (hb : Below w.heap.size w W) => fewM_any m vm W (hm.keep hb)
  have cR1 := fun W (hb : Below w.heap.size w W) => receive_any e t f m v vt vm A nf cf W (h.keep hb) (ht.keep hb) (hf.keep hb) (hm.keep hb)
  have cR2 := fun x vx W (hb : Below w.heap.size w W) (hx : EdOwn W vx x) => receive_any x t f m vx vt vm A nf cf W hx.is (ht.keep hb) (hf.keep hb) (hm.keep hb)
  have cE := fun a b va vb W (h1 : EdIs W va a) (h2 : EdIs W vb b) => sameE_any a b va vb W h1 h2
  have cM := fun a b va vb W (h1 : MsgIs W va a) (h2 : MsgIs W vb b) => sameM_any a b va vb W h1 h2
  have cK := fun x vx W (hx : EdIs W vx x) => chkE_any x vx W hx
  have cA := fun r vr W (hb : Below w.heap.size w W) (hr : MsgIs W vr r) => rans_any m r vm vr W (hm.keep hb) hr
  have hRoom : fewE e = true → fewT t = true → FullOk t e → Room t e := few_room
  generalize fewE e = B1 at *
  generalize fewT t = B2 at *
  generalize fewM m = B3 at *
  replace h := Lib.hid h
  replace ht := Lib.hid ht
  replace hf := Lib.hid hf
  replace hm := Lib.hid hm
  replace cAw := Lib.hid cAw
  replace cFe := Lib.hid cFe
  replace cFt := Lib.hid cFt
  replace cFm := Lib.hid cFm
  replace cR1 := Lib.hid cR1
  replace cR2 := Lib.hid cR2
  replace cE := Lib.hid cE
  replace cM := Lib.hid cM
  replace cK := Lib.hid cK
  replace cA := Lib.hid cA
  replace uE := Lib.hid uE
  replace uT := Lib.hid uT
  replace uM := Lib.hid uM
  replace hRoom := Lib.hid hRoom
  go_enter Tryz.func6, Tryz.ntmps6
  go_upto_region 1 with (first | go_skip | (refine wpList_boxA HM rfl 27 _ rfl _ rfl ?_; clear HM; intro g4 w1 HM hG; replace hF := Lib.hid (hFs.keep hF.out hG.out); clear hG) | (refine wpList_boxA HM rfl 29 _ rfl _ rfl ?_; clear HM; intro g5 w1 HM hG; replace hF := Lib.hid (hFs.keep hF.out hG.out); clear hG) | (refine wpList_boxA HM rfl 25 _ rfl _ rfl ?_; clear HM; intro g7 w1 HM hG; replace hF := Lib.hid (hFs.keep hF.out hG.out); clear hG) | fail)
  have mk1 : Unit := ()
  go_upto_region 3 with (first | go_skip | (go_at_call 11; clear mk1; refine (cAw.out _).mono ?_; rintro r w3 ⟨rfl, hb_⟩; replace HM := Lib.hid (HM.out.keep hb_); replace hF := Lib.hid (hFs.keep hF.out hb_); clear hb_; dsimp only) | fail)
  have mk2 : Unit := ()
  have mk3 : Unit := ()
  have mk4 : Unit := ()
  cases B1
  case false =>
    go_wp2_with (first | go_skip | (refine wpList_loadG 2 HM (by rfl) _ _ rfl _ rfl rfl _ uE.out rfl (by exact zend) ?_) | (refine wpList_loadG 1 HM (by rfl) _ _ rfl _ rfl rfl _ uT.out rfl (by exact ztab) ?_) | (refine wpList_loadG 0 HM (by rfl) _ _ rfl _ rfl rfl _ uM.out rfl (by exact zmsg) ?_) | (go_at_call 12; clear mk2; refine (cFe.out _ HM.out.below).mono ?_; rintro r w3 ⟨rfl, hb_⟩; replace HM := Lib.hid (HM.out.keep hb_); replace hF := Lib.hid (hFs.keep hF.out hb_); clear hb_; dsimp only) | (go_at_call 13; clear mk3; refine (cFt.out _ HM.out.below).mono ?_; rintro r w3 ⟨rfl, hb_⟩; replace HM := Lib.hid (HM.out.keep hb_); replace hF := Lib.hid (hFs.keep hF.out hb_); clear hb_; dsimp only) | (go_at_call 14; clear mk4; refine (cFm.out _ HM.out.below).mono ?_; rintro r w3 ⟨rfl, hb_⟩; replace HM := Lib.hid (HM.out.keep hb_); replace hF := Lib.hid (hFs.keep hF.out hb_); clear hb_; dsimp only) | fail)
    try simp only [Exit.inBlock, Exit.then]
    go_ret
    exact ⟨by first | rfl | trivial, HM.out.below⟩
  cases B2
  case false =>
    go_wp2_with (first | go_skip | (refine wpList_loadG 2 HM (by rfl) _ _ rfl _ rfl rfl _ uE.out rfl (by exact zend) ?_) | (refine wpList_loadG 1 HM (by rfl) _ _ rfl _ rfl rfl _ uT.out rfl (by exact ztab) ?_) | (refine wpList_loadG 0 HM (by rfl) _ _ rfl _ rfl rfl _ uM.out rfl (by exact zmsg) ?_) | (go_at_call 12; clear mk2; refine (cFe.out _ HM.out.below).mono ?_; rintro r w3 ⟨rfl, hb_⟩; replace HM := Lib.hid (HM.out.keep hb_); replace hF := Lib.hid (hFs.keep hF.out hb_); clear hb_; dsimp only) | (go_at_call 13; clear mk3; refine (cFt.out _ HM.out.below).mono ?_; rintro r w3 ⟨rfl, hb_⟩; replace HM := Lib.hid (HM.out.keep hb_); replace hF := Lib.hid (hFs.keep hF.out hb_); clear hb_; dsimp only) | (go_at_call 14; clear mk4; refine (cFm.out _ HM.out.below).mono ?_; rintro r w3 ⟨rfl, hb_⟩; replace HM := Lib.hid (HM.out.keep hb_); replace hF := Lib.hid (hFs.keep hF.out hb_); clear hb_; dsimp only) | fail)
    try simp only [Exit.inBlock, Exit.then]
    go_ret
    exact ⟨by first | rfl | trivial, HM.out.below⟩
  by_cases hnf : (600 : Int) < (nf : Int)
  case pos =>
    have hnf2 : 600 < nf := by omega
    go_wp2_with (first | go_skip | (refine wpList_loadG 2 HM (by rfl) _ _ rfl _ rfl rfl _ uE.out rfl (by exact zend) ?_) | (refine wpList_loadG 1 HM (by rfl) _ _ rfl _ rfl rfl _ uT.out rfl (by exact ztab) ?_) | (refine wpList_loadG 0 HM (by rfl) _ _ rfl _ rfl rfl _ uM.out rfl (by exact zmsg) ?_) | (go_at_call 12; clear mk2; refine (cFe.out _ HM.out.below).mono ?_; rintro r w3 ⟨rfl, hb_⟩; replace HM := Lib.hid (HM.out.keep hb_); replace hF := Lib.hid (hFs.keep hF.out hb_); clear hb_; dsimp only) | (go_at_call 13; clear mk3; refine (cFt.out _ HM.out.below).mono ?_; rintro r w3 ⟨rfl, hb_⟩; replace HM := Lib.hid (HM.out.keep hb_); replace hF := Lib.hid (hFs.keep hF.out hb_); clear hb_; dsimp only) | (go_at_call 14; clear mk4; refine (cFm.out _ HM.out.below).mono ?_; rintro r w3 ⟨rfl, hb_⟩; replace HM := Lib.hid (HM.out.keep hb_); replace hF := Lib.hid (hFs.keep hF.out hb_); clear hb_; dsimp only) | fail)
    try simp only [Exit.inBlock, Exit.then]
    go_ret
    exact ⟨by first | rfl | trivial, HM.out.below⟩
  have hnf2 : ¬ 600 < nf := by omega
  have hnf3 : nf ≤ 600 := by omega
  have hnf4 : (nf : Int) ≤ 600 := by omega
  have hnf5 : decide ((600 : Int) < (nf : Int)) = false := decide_eq_false hnf
  cases B3
  case false =>
    go_wp2_with (first | go_skip | (refine wpList_loadG 2 HM (by rfl) _ _ rfl _ rfl rfl _ uE.out rfl (by exact zend) ?_) | (refine wpList_loadG 1 HM (by rfl) _ _ rfl _ rfl rfl _ uT.out rfl (by exact ztab) ?_) | (refine wpList_loadG 0 HM (by rfl) _ _ rfl _ rfl rfl _ uM.out rfl (by exact zmsg) ?_) | (go_at_call 12; clear mk2; refine (cFe.out _ HM.out.below).mono ?_; rintro r w3 ⟨rfl, hb_⟩; replace HM := Lib.hid (HM.out.keep hb_); replace hF := Lib.hid (hFs.keep hF.out hb_); clear hb_; dsimp only) | (go_at_call 13; clear mk3; refine (cFt.out _ HM.out.below).mono ?_; rintro r w3 ⟨rfl, hb_⟩; replace HM := Lib.hid (HM.out.keep hb_); replace hF := Lib.hid (hFs.keep hF.out hb_); clear hb_; dsimp only) | (go_at_call 14; clear mk4; refine (cFm.out _ HM.out.below).mono ?_; rintro r w3 ⟨rfl, hb_⟩; replace HM := Lib.hid (HM.out.keep hb_); replace hF := Lib.hid (hFs.keep hF.out hb_); clear hb_; dsimp only) | fail)
    try simp only [Exit.inBlock, Exit.then]
    go_ret
    exact ⟨by first | rfl | trivial, HM.out.below⟩
  have hRm := Lib.hid (hRoom.out rfl rfl)
  have mk5 : Unit := ()
  have mk6 : Unit := ()
  have mk7 : Unit := ()
  go_upto_region 6 with (first | go_skip | (refine wpList_loadG 2 HM (by rfl) _ _ rfl _ rfl rfl _ uE.out rfl (by exact zend) ?_) | (refine wpList_loadG 1 HM (by rfl) _ _ rfl _ rfl rfl _ uT.out rfl (by exact ztab) ?_) | (refine wpList_loadG 0 HM (by rfl) _ _ rfl _ rfl rfl _ uM.out rfl (by exact zmsg) ?_) | (go_at_call 12; clear mk2; refine (cFe.out _ HM.out.below).mono ?_; rintro r w3 ⟨rfl, hb_⟩; replace HM := Lib.hid (HM.out.keep hb_); replace hF := Lib.hid (hFs.keep hF.out hb_); clear hb_; dsimp only) | (go_at_call 13; clear mk3; refine (cFt.out _ HM.out.below).mono ?_; rintro r w3 ⟨rfl, hb_⟩; replace HM := Lib.hid (HM.out.keep hb_); replace hF := Lib.hid (hFs.keep hF.out hb_); clear hb_; dsimp only) | (go_at_call 14; clear mk4; refine (cFm.out _ HM.out.below).mono ?_; rintro r w3 ⟨rfl, hb_⟩; replace HM := Lib.hid (HM.out.keep hb_); replace hF := Lib.hid (hFs.keep hF.out hb_); clear hb_; dsimp only) | (go_at_call 15; clear mk5; refine (cR1.out _ HM.out.below).mono ?_; rintro r w3 ⟨v1, vm1, rfl, hE, hM, hb_⟩; replace HM := Lib.hid (HM.out.keep hb_); replace hF := Lib.hid (hFs.keep hF.out hb_); clear hb_; obtain ⟨F1, hFs2, hF2, hU, hNw⟩ := stb_add hFs hF (Stb.ed v1 _) hE; clear hFs hF; have gX := Lib.hid hNw; clear hNw hU; have hFs := hFs2; have hF := hF2; clear hFs2 hF2 hE; obtain ⟨F2, hFs2, hF2, hU, hNw⟩ := stb_add hFs hF (Stb.sub vm1 _) hM; clear hFs hF; replace gX := Lib.hid (fun W h => gX.out W (hU W h)); have gR := Lib.hid hNw; clear hNw hU; have hFs := hFs2; have hF := hF2; clear hFs2 hF2 hM; dsimp only) | (clear mk6; refine wpList_allocN HM rfl 27 rfl edInfo ?_; clear HM; intro g9 w1 HM hG hN9; replace hF := Lib.hid (hFs.keep hF.out hG.out); clear hG hN9) | (clear mk7; refine wpList_allocN HM rfl 25 rfl msgInfo ?_; clear HM; intro g10 w1 HM hG hN9; replace hF := Lib.hid (hFs.keep hF.out hG.out); clear hG hN9) | (refine wpList_storeF 1 HM rfl _ _ _ rfl _ rfl rfl _ rfl (by exact zend) (by rfl) (by rfl) ?_; have hBq := HM.out.at_ 1 rfl; clear HM; intro w4 HM hG4; simp only [List.set] at HM; replace hF := Lib.hid (hFs.put hF.out hBq (by decide) (by decide) hG4.out); clear hBq hG4) | (refine wpList_storeF 0 HM rfl _ _ _ rfl _ rfl rfl _ rfl (by exact zmsg) (by rfl) (by rfl) ?_; have hBq := HM.out.at_ 0 rfl; clear HM; intro w4 HM hG4; simp only [List.set] at HM; replace hF := Lib.hid (hFs.put hF.out hBq (by decide) (by decide) hG4.out); clear hBq hG4) | fail)
  have hRok : Hid (recvC e t m = 0 → RecvOk t f e m (recv e t f m).1 (recv e t f m).2) := fun h0 => recv_ok' hRm.out h0
  have hbad : Hid (recvC e t m ≠ 0 → recv e t f m = (ed0, msg0)) := fun h0 => recv_not h0
  have hC2 : Hid (recvC e t m = 0 → recvC (recv e t f m).1 t m = 0) := fun h0 => recvC_again hRm.out h0
  generalize hCe : recvC e t m = C at *
  replace hCe := Lib.hid hCe
  generalize hXe : recv e t f m = X at *
  replace hXe := Lib.hid hXe
  obtain ⟨x, r⟩ := X
  dsimp only at *
  by_cases h0 : C = 0
  case neg =>
    have e1 := hbad.out h0
    injection e1 with e1 e2
    subst e1 e2
    have d1 : (C != 0) = true := by rw [bne_iff_ne]; exact h0
    have cE0 := Lib.hid (fun W (hx : EdIs W v1 ed0) => cE.out ed0 ed0 v1 edV0 W hx (EdIs.zero _))
    have cM0 := Lib.hid (fun W (hx : MsgIs W vm1 msg0) => cM.out msg0 msg0 vm1 msgV0 W hx (MsgIs.zero _))
    rw [decide_eq_true rfl] at cE0 cM0
    have mk8 : Unit := ()
    have mk9 : Unit := ()
    go_wp2_with (first | go_skip | (refine wpList_loadG 1 HM (by rfl) _ _ rfl _ rfl rfl _ uE.out rfl (by exact zend) ?_) | (refine wpList_loadG 0 HM (by rfl) _ _ rfl _ rfl rfl _ uM.out rfl (by exact zmsg) ?_) | (go_at_call 17; clear mk8; refine (cE0.out _ (gX.out _ hF.out).is).mono ?_; rintro r w3 ⟨rfl, hb_⟩; replace HM := Lib.hid (HM.out.keep hb_); replace hF := Lib.hid (hFs.keep hF.out hb_); clear hb_; dsimp only) | (go_at_call 18; clear mk9; refine (cM0.out _ (gR.out _ hF.out).is).mono ?_; rintro r w3 ⟨rfl, hb_⟩; replace HM := Lib.hid (HM.out.keep hb_); replace hF := Lib.hid (hFs.keep hF.out hb_); clear hb_; dsimp only) | fail)
    try simp only [Exit.inBlock, Exit.then]
    go_ret
    exact ⟨by first | rfl | trivial, HM.out.below⟩
  subst h0
  have hR := Lib.hid (hRok.out rfl)
  have hCx := Lib.hid (hC2.out rfl)
  clear hRok hbad hC2 hCe hXe
  have cR3 := Lib.hid (fun W (hb : Below w.heap.size w W) (hx : EdOwn W v1 x) => cR2.out x v1 W hb hx)
  rw [hR.out.again, hCx.out] at cR3
  dsimp only at cR3
  clear hCx cR2 cR1
  have mk8 : Unit := ()
  have mk9 : Unit := ()
  have mk10 : Unit := ()
  go_upto_region 9 with (first | go_skip | (refine wpList_loadG 1 HM (by rfl) _ _ rfl _ rfl rfl _ uE.out rfl (by exact zend) ?_) | (refine wpList_loadG 3 HM (by rfl) _ _ rfl _ rfl rfl _ uT.out rfl (by exact ztab) ?_) | (refine wpList_loadG 2 HM (by rfl) _ _ rfl _ rfl rfl _ uM.out rfl (by exact zmsg) ?_) | (go_at_call 15; clear mk8; refine (cR3.out _ HM.out.below (gX.out _ hF.out)).mono ?_; rintro r w3 ⟨v2, vm2, rfl, hE, hM, hb_⟩; replace HM := Lib.hid (HM.out.keep hb_); replace hF := Lib.hid (hFs.keep hF.out hb_); clear hb_; obtain ⟨F3, hFs2, hF2, hU, hNw⟩ := stb_add hFs hF (Stb.ed v2 _) hE; clear hFs hF; replace gX := Lib.hid (fun W h => gX.out W (hU W h)); replace gR := Lib.hid (fun W h => gR.out W (hU W h)); have gY := Lib.hid hNw; clear hNw hU; have hFs := hFs2; have hF := hF2; clear hFs2 hF2 hE; obtain ⟨F4, hFs2, hF2, hU, hNw⟩ := stb_add hFs hF (Stb.sub vm2 _) hM; clear hFs hF; replace gX := Lib.hid (fun W h => gX.out W (hU W h)); replace gR := Lib.hid (fun W h => gR.out W (hU W h)); replace gY := Lib.hid (fun W h => gY.out W (hU W h)); have gS := Lib.hid hNw; clear hNw hU; have hFs := hFs2; have hF := hF2; clear hFs2 hF2 hM; dsimp only) | (clear mk9; refine wpList_allocN HM rfl 27 rfl edInfo ?_; clear HM; intro g12 w1 HM hG hN9; replace hF := Lib.hid (hFs.keep hF.out hG.out); clear hG hN9) | (clear mk10; refine wpList_allocN HM rfl 25 rfl msgInfo ?_; clear HM; intro g13 w1 HM hG hN9; replace hF := Lib.hid (hFs.keep hF.out hG.out); clear hG hN9) | (refine wpList_storeF 1 HM rfl _ _ _ rfl _ rfl rfl _ rfl (by exact zend) (by rfl) (by rfl) ?_; have hBq := HM.out.at_ 1 rfl; clear HM; intro w4 HM hG4; simp only [List.set] at HM; replace hF := Lib.hid (hFs.put hF.out hBq (by decide) (by decide) hG4.out); clear hBq hG4) | (refine wpList_storeF 0 HM rfl _ _ _ rfl _ rfl rfl _ rfl (by exact zmsg) (by rfl) (by rfl) ?_; have hBq := HM.out.at_ 0 rfl; clear HM; intro w4 HM hG4; simp only [List.set] at HM; replace hF := Lib.hid (hFs.put hF.out hBq (by decide) (by decide) hG4.out); clear hBq hG4) | fail)
  have cExy := Lib.hid (fun W (hx : EdIs W v1 x) (hy : EdIs W v2 x) => cE.out x x v1 v2 W hx hy)
  have cMrs := Lib.hid (fun W (hx : MsgIs W vm1 r) (hy : MsgIs W vm2 r) => cM.out r r vm1 vm2 W hx hy)
  rw [decide_eq_true rfl] at cExy cMrs
  have cAn := Lib.hid (fun W hb hr => cA.out r vm1 W hb hr)
  rw [ansR_eq, hR.out.ans] at cAn
  have cKx := Lib.hid (fun W hx => cK.out x v1 W hx)
  rw [(chkE_iff x).2 hR.out.full.ed] at cKx
  have mk11 : Unit := ()
  have mk12 : Unit := ()
  have mk13 : Unit := ()
  have mk14 : Unit := ()
  go_upto_region 11 with (first | go_skip | (refine wpList_loadG 3 HM (by rfl) _ _ rfl _ rfl rfl _ uE.out rfl (by exact zend) ?_) | (refine wpList_loadG 1 HM (by rfl) _ _ rfl _ rfl rfl _ uE.out rfl (by exact zend) ?_) | (refine wpList_loadG 2 HM (by rfl) _ _ rfl _ rfl rfl _ uM.out rfl (by exact zmsg) ?_) | (refine wpList_loadG 0 HM (by rfl) _ _ rfl _ rfl rfl _ uM.out rfl (by exact zmsg) ?_) | (refine wpList_loadG 4 HM (by rfl) _ _ rfl _ rfl rfl _ uM.out rfl (by exact zmsg) ?_) | (go_at_call 17; clear mk11; refine (cExy.out _ (gX.out _ hF.out).is (gY.out _ hF.out).is).mono ?_; rintro r w3 ⟨rfl, hb_⟩; replace HM := Lib.hid (HM.out.keep hb_); replace hF := Lib.hid (hFs.keep hF.out hb_); clear hb_; dsimp only) | (go_at_call 18; clear mk12; refine (cMrs.out _ (gR.out _ hF.out).is (gS.out _ hF.out).is).mono ?_; rintro r w3 ⟨rfl, hb_⟩; replace HM := Lib.hid (HM.out.keep hb_); replace hF := Lib.hid (hFs.keep hF.out hb_); clear hb_; dsimp only) | (go_at_call 27; clear mk13; refine (cAn.out _ HM.out.below (gR.out _ hF.out).is).mono ?_; rintro r w3 ⟨rfl, hb_⟩; replace HM := Lib.hid (HM.out.keep hb_); replace hF := Lib.hid (hFs.keep hF.out hb_); clear hb_; dsimp only) | (go_at_call 25; clear mk14; refine (cKx.out _ (gX.out _ hF.out).is).mono ?_; rintro r w3 ⟨rfl, hb_⟩; replace HM := Lib.hid (HM.out.keep hb_); replace hF := Lib.hid (hFs.keep hF.out hb_); clear hb_; dsimp only) | fail)
  have kr := HM.out.cell 2 rfl 3
  change _ = some (Value.int .i64 r.code) at kr
  by_cases hc : r.code = 0
  case pos =>
    have d1 : (r.code == 0) = true := by rw [beq_iff_eq]; exact hc
    go_wp2_with (first | go_skip | (refine wpList_loadG 3 HM (by rfl) _ _ rfl _ rfl rfl _ uE.out rfl (by exact zend) ?_) | (refine wpList_loadG 6 HM (by rfl) _ _ rfl _ rfl rfl _ uE.out rfl (by exact zend) ?_) | fail)
    try simp only [Exit.inBlock, Exit.then]
    go_ret
    exact ⟨by first | rfl | trivial, HM.out.below⟩
  have d1 : (r.code == 0) = false := by rw [beq_eq_false_iff_ne]; exact hc
  have hxe := Lib.hid (hR.out.refused hc)
  have cEe := Lib.hid (fun W (hx : EdIs W v1 x) (hy : EdIs W v e) => cE.out x e v1 v W hx hy)
  rw [decide_eq_true hxe.out] at cEe
  have mk15 : Unit := ()
  go_wp2_with (first | go_skip | (refine wpList_loadG 3 HM (by rfl) _ _ rfl _ rfl rfl _ uE.out rfl (by exact zend) ?_) | (refine wpList_loadG 6 HM (by rfl) _ _ rfl _ rfl rfl _ uE.out rfl (by exact zend) ?_) | (go_at_call 17; clear mk15; refine (cEe.out _ (gX.out _ hF.out).is (h.out.keep HM.out.below)).mono ?_; rintro r w3 ⟨rfl, hb_⟩; clear kr; replace HM := Lib.hid (HM.out.keep hb_); replace hF := Lib.hid (hFs.keep hF.out hb_); clear hb_; dsimp only) | fail)
  try simp only [Exit.inBlock, Exit.then]
  go_ret
  exact ⟨by first | rfl | trivial, HM.out.below⟩
end Tx
end Go.Proofs.YtkfipbelhlcddaaGreat
