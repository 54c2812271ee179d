/- The law Asks. -/
import Derived.Test.YtkfipbelhlcddaaGreatTbW
import Derived.Test.YtkfipbelhlcddaaGreatTm
import Derived.Test.YtkfipbelhlcddaaGreatTaJs
import Derived.Test.YtkfipbelhlcddaaGreatTxO
set_option linter.unusedVariables false
set_option linter.unusedSimpArgs false
namespace Go.Proofs.YtkfipbelhlcddaaGreat
open Go Go.RowKit Go.Sort Go.Shelf Go.Maps
namespace Tx
open Sw Mm Pl
set_option maxRecDepth 100000 in
set_option maxHeartbeats 16000000 in
theorem asks_any (e : Ed) (t : Tab) (f : List Int) (kind count slot : Int) (old : List Spt) (v : EdV) (vt : TabV) (A B : Option Addr) (nf cf n2 c2 : Nat) (w : World) (h : EdIs w v e) (ht : TabIs w vt t) (hf : IntS w A nf f) (ho : SptS w B n2 old) (hoc : n2 ≤ c2) : Calls Tryz.prog 10 #[.agg (endA e v), .agg (tabA t vt), .slice A nf cf, .int .i64 kind, .int .i64 count, .int .i64 slot, .slice B n2 c2] w fun r w' => r = .returned (.bool true) ∧ Below w.heap.size w w' := by
  have HM := Lib.hid (Mem.start w)
  obtain ⟨F0, hFs, hF⟩ : ∃ F : World → Prop, Stb F ∧ Hid (F w) := ⟨_, Stb.true, trivial⟩
  have uE := Tryz.underlying27
  have uT := Tryz.underlying29
  have uM := Tryz.underlying25
  have cAw := fun W => awake_any W
  have cFe := fun W (hb : Below w.heap.size w W) => fewE_any e v W (h.keep hb)
  have cFt := fun W (hb : Below w.heap.size w W) => fewT_any t vt W (ht.keep hb)
  have cV := fun W (hb : Below w.heap.size w W) => move_any e t v vt A B nf cf n2 c2 f old slot W (h.keep hb) (ht.keep hb) (hf.keep hb) (ho.keep hb)
  have cVr := fun W (hb : Below w.heap.size w W) => rmove_any e t v vt A B nf cf n2 c2 f old slot W (h.keep hb) (ht.keep hb) (hf.keep hb) (ho.keep hb) hoc
  have cF := fun W (hb : Below w.heap.size w W) => full_any t e vt v W (ht.keep hb) (h.keep hb)
  have cFr := fun W (hb : Below w.heap.size w W) => rfull_any t e vt v W (ht.keep hb) (h.keep hb)
  have cA := fun W (hb : Below w.heap.size w W) => ask_any e t v vt A nf cf f kind count slot W (h.keep hb) (ht.keep hb) (hf.keep hb)
  have cAr := fun W (hb : Below w.heap.size w W) => rask_any e t v vt A nf cf f kind count slot W (h.keep hb) (ht.keep hb) (hf.keep hb)
  change ∀ W, _ → Calls _ _ #[.agg (endA e v)] _ _ at cFe
  change ∀ W, _ → Calls _ _ #[.agg (tabA t vt)] _ _ at cFt
  change ∀ W, _ → Calls _ _ #[.agg (endA e v), .agg (tabA t vt), _, _, _] _ _ at cV
  change ∀ W, _ → Calls _ _ #[.agg (tabA t vt), .agg (endA e v)] _ _ at cF
  change ∀ W, _ → Calls _ _ #[.agg (endA e v), .agg (tabA t vt), _, _, _, _] _ _ at cA
  have cE := fun a va vb W (h1 : EdIs W va a) (h2 : EdIs W vb a) => sameE_any a a va vb W h1 h2
  simp only [eq_self, decide_true] at cE
  have cM := fun a va vb W (h1 : MsgIs W va a) (h2 : MsgIs W vb a) => sameM_any a a va vb W h1 h2
  simp only [eq_self, decide_true] at cM
  have cT := fun a va vb W (h1 : TabIs W va a) (h2 : TabIs W vb a) => sameTab_any a a va vb W h1 h2
  simp only [eq_self, decide_true] at cT
  unfold TriOwn at cV cVr cA cAr
  unfold FullPost at cF cFr
  generalize fewE e = B1 at *
  generalize fewT t = B2 at *
  generalize movE e t f old slot = VE at *
  generalize movN e t f old slot = VM at *
  generalize movC e t f old slot = VC at *
  generalize fullN t e = FT at *
  generalize fullC t e = FC at *
  generalize askE e t f kind count slot = AE at *
  generalize askN e t f kind count slot = AM at *
  generalize askC e t f kind count slot = AC at *
  replace cAw := Lib.hid cAw
  replace cFe := Lib.hid cFe
  replace cFt := Lib.hid cFt
  replace cV := Lib.hid cV
  replace cVr := Lib.hid cVr
  replace cF := Lib.hid cF
  replace cFr := Lib.hid cFr
  replace cA := Lib.hid cA
  replace cAr := Lib.hid cAr
  replace cE := Lib.hid cE
  replace cM := Lib.hid cM
  replace cT := Lib.hid cT
  replace uE := Lib.hid uE
  replace uM := Lib.hid uM
  replace uT := Lib.hid uT
  clear h ht hf ho
  go_enter Tryz.func10, Tryz.ntmps10
  go_upto_region 1 with (first | go_skip | (refine wpList_boxA HM rfl 27 _ rfl _ rfl ?_; clear HM; intro g7 w1 HM hG; replace hF := Lib.hid (hFs.keep hF.out hG.out); clear hG) | (refine wpList_boxA HM rfl 29 _ rfl _ rfl ?_; clear HM; intro g8 w1 HM hG; replace hF := Lib.hid (hFs.keep hF.out hG.out); clear hG) | fail)
  have mk1 : Unit := ()
  go_upto_region 3 with (first | go_skip | (go_at_call 11; clear mk1; refine (cAw.out _).mono ?_; rintro r w3 ⟨rfl, hb_⟩; replace HM := Lib.hid (HM.out.keep hb_); replace hF := Lib.hid (hFs.keep hF.out hb_); clear hb_; dsimp only) | fail)
  have mk2 : Unit := ()
  have mk3 : Unit := ()
  cases B1
  case false =>
    go_wp2_with (first | go_skip | (refine wpList_loadG 1 HM (by rfl) _ _ rfl _ rfl rfl _ uE.out rfl (by exact zend) ?_) | (refine wpList_loadG 0 HM (by rfl) _ _ rfl _ rfl rfl _ uT.out rfl (by exact ztab) ?_) | (go_at_call 12; clear mk2; refine (cFe.out _ HM.out.below).mono ?_; rintro r w3 ⟨rfl, hb_⟩; replace HM := Lib.hid (HM.out.keep hb_); replace hF := Lib.hid (hFs.keep hF.out hb_); clear hb_; dsimp only) | (go_at_call 13; clear mk3; refine (cFt.out _ HM.out.below).mono ?_; rintro r w3 ⟨rfl, hb_⟩; replace HM := Lib.hid (HM.out.keep hb_); replace hF := Lib.hid (hFs.keep hF.out hb_); clear hb_; dsimp only) | fail)
    try simp only [Exit.inBlock, Exit.then]
    go_ret
    exact ⟨by first | rfl | trivial, HM.out.below⟩
  cases B2
  case false =>
    go_wp2_with (first | go_skip | (refine wpList_loadG 1 HM (by rfl) _ _ rfl _ rfl rfl _ uE.out rfl (by exact zend) ?_) | (refine wpList_loadG 0 HM (by rfl) _ _ rfl _ rfl rfl _ uT.out rfl (by exact ztab) ?_) | (go_at_call 12; clear mk2; refine (cFe.out _ HM.out.below).mono ?_; rintro r w3 ⟨rfl, hb_⟩; replace HM := Lib.hid (HM.out.keep hb_); replace hF := Lib.hid (hFs.keep hF.out hb_); clear hb_; dsimp only) | (go_at_call 13; clear mk3; refine (cFt.out _ HM.out.below).mono ?_; rintro r w3 ⟨rfl, hb_⟩; replace HM := Lib.hid (HM.out.keep hb_); replace hF := Lib.hid (hFs.keep hF.out hb_); clear hb_; dsimp only) | fail)
    try simp only [Exit.inBlock, Exit.then]
    go_ret
    exact ⟨by first | rfl | trivial, HM.out.below⟩
  by_cases hnf : (600 : Int) < (nf : Int)
  case pos =>
    have hnf2 : 600 < nf := by omega
    go_wp2_with (first | go_skip | (refine wpList_loadG 1 HM (by rfl) _ _ rfl _ rfl rfl _ uE.out rfl (by exact zend) ?_) | (refine wpList_loadG 0 HM (by rfl) _ _ rfl _ rfl rfl _ uT.out rfl (by exact ztab) ?_) | (go_at_call 12; clear mk2; refine (cFe.out _ HM.out.below).mono ?_; rintro r w3 ⟨rfl, hb_⟩; replace HM := Lib.hid (HM.out.keep hb_); replace hF := Lib.hid (hFs.keep hF.out hb_); clear hb_; dsimp only) | (go_at_call 13; clear mk3; refine (cFt.out _ HM.out.below).mono ?_; rintro r w3 ⟨rfl, hb_⟩; replace HM := Lib.hid (HM.out.keep hb_); replace hF := Lib.hid (hFs.keep hF.out hb_); clear hb_; dsimp only) | fail)
    try simp only [Exit.inBlock, Exit.then]
    go_ret
    exact ⟨by first | rfl | trivial, HM.out.below⟩
  have hnf2_nf : ¬ 600 < nf := by omega
  have hnf5_nf : decide ((600 : Int) < (nf : Int)) = false := decide_eq_false hnf
  clear hnf
  by_cases hnf : (12 : Int) < (n2 : Int)
  case pos =>
    have hnf2 : 12 < n2 := by omega
    go_wp2_with (first | go_skip | (refine wpList_loadG 1 HM (by rfl) _ _ rfl _ rfl rfl _ uE.out rfl (by exact zend) ?_) | (refine wpList_loadG 0 HM (by rfl) _ _ rfl _ rfl rfl _ uT.out rfl (by exact ztab) ?_) | (go_at_call 12; clear mk2; refine (cFe.out _ HM.out.below).mono ?_; rintro r w3 ⟨rfl, hb_⟩; replace HM := Lib.hid (HM.out.keep hb_); replace hF := Lib.hid (hFs.keep hF.out hb_); clear hb_; dsimp only) | (go_at_call 13; clear mk3; refine (cFt.out _ HM.out.below).mono ?_; rintro r w3 ⟨rfl, hb_⟩; replace HM := Lib.hid (HM.out.keep hb_); replace hF := Lib.hid (hFs.keep hF.out hb_); clear hb_; dsimp only) | fail)
    try simp only [Exit.inBlock, Exit.then]
    go_ret
    exact ⟨by first | rfl | trivial, HM.out.below⟩
  have hnf2_n2 : ¬ 12 < n2 := by omega
  have hnf5_n2 : decide ((12 : Int) < (n2 : Int)) = false := decide_eq_false hnf
  clear hnf
  go_upto_region 5 with (first | go_skip | (refine wpList_loadG 1 HM (by rfl) _ _ rfl _ rfl rfl _ uE.out rfl (by exact zend) ?_) | (refine wpList_loadG 0 HM (by rfl) _ _ rfl _ rfl rfl _ uT.out rfl (by exact ztab) ?_) | (go_at_call 12; clear mk2; refine (cFe.out _ HM.out.below).mono ?_; rintro r w3 ⟨rfl, hb_⟩; replace HM := Lib.hid (HM.out.keep hb_); replace hF := Lib.hid (hFs.keep hF.out hb_); clear hb_; dsimp only) | (go_at_call 13; clear mk3; refine (cFt.out _ HM.out.below).mono ?_; rintro r w3 ⟨rfl, hb_⟩; replace HM := Lib.hid (HM.out.keep hb_); replace hF := Lib.hid (hFs.keep hF.out hb_); clear hb_; dsimp only) | fail)
  have mk4 : Unit := ()
  have mk5 : Unit := ()
  have mk6 : Unit := ()
  go_upto_region 6 with (first | go_skip | (refine wpList_loadG 1 HM (by rfl) _ _ rfl _ rfl rfl _ uE.out rfl (by exact zend) ?_) | (refine wpList_loadG 0 HM (by rfl) _ _ rfl _ rfl rfl _ uT.out rfl (by exact ztab) ?_) | (go_at_call 37; clear mk4; refine (cV.out _ HM.out.below).mono ?_; rintro r w3 ⟨v1, m1, rfl, hE, hM, hb_⟩; replace HM := Lib.hid (HM.out.keep hb_); replace hF := Lib.hid (hFs.keep hF.out hb_); clear hb_; obtain ⟨F1, hFs2, hF2, hU, hNw⟩ := stb_add hFs hF (Stb.ed v1 _) hE; clear hFs hF; have gE1 := Lib.hid hNw; clear hNw hU; have hFs := hFs2; have hF := hF2; clear hFs2 hF2 hE; obtain ⟨F2, hFs2, hF2, hU, hNw⟩ := stb_add hFs hF (Stb.sub m1 _) hM; clear hFs hF; replace gE1 := Lib.hid (fun W h => gE1.out W (hU W h)); have gM1 := Lib.hid hNw; clear hNw hU; have hFs := hFs2; have hF := hF2; clear hFs2 hF2 hM; dsimp only) | (clear mk5; refine wpList_allocN HM rfl 27 rfl edInfo ?_; clear HM; intro g15 w1 HM hG hN9; replace hF := Lib.hid (hFs.keep hF.out hG.out); clear hG hN9) | (clear mk6; refine wpList_allocN HM rfl 25 rfl msgInfo ?_; clear HM; intro g16 w1 HM hG hN9; replace hF := Lib.hid (hFs.keep hF.out hG.out); clear hG hN9) | (refine wpList_storeF 1 HM rfl _ _ _ rfl _ rfl rfl _ rfl (by exact zend) (by rfl) (by rfl) ?_; have hBq := HM.out.at_ 1 rfl; clear HM; intro w4 HM hG4; simp only [List.set] at HM; replace hF := Lib.hid (hFs.put hF.out hBq (by decide) (by decide) hG4.out); clear hBq hG4) | (refine wpList_storeF 0 HM rfl _ _ _ rfl _ rfl rfl _ rfl (by exact zmsg) (by rfl) (by rfl) ?_; have hBq := HM.out.at_ 0 rfl; clear HM; intro w4 HM hG4; simp only [List.set] at HM; replace hF := Lib.hid (hFs.put hF.out hBq (by decide) (by decide) hG4.out); clear hBq hG4) | fail)
  have mk7 : Unit := ()
  have mk8 : Unit := ()
  have mk9 : Unit := ()
  go_upto_region 7 with (first | go_skip | (refine wpList_loadG 3 HM (by rfl) _ _ rfl _ rfl rfl _ uE.out rfl (by exact zend) ?_) | (refine wpList_loadG 2 HM (by rfl) _ _ rfl _ rfl rfl _ uT.out rfl (by exact ztab) ?_) | (go_at_call 38; clear mk7; refine (cVr.out _ HM.out.below).mono ?_; rintro r w3 ⟨v2, m2, rfl, hE, hM, hb_⟩; replace HM := Lib.hid (HM.out.keep hb_); replace hF := Lib.hid (hFs.keep hF.out hb_); clear hb_; obtain ⟨F3, hFs2, hF2, hU, hNw⟩ := stb_add hFs hF (Stb.ed v2 _) hE; clear hFs hF; replace gE1 := Lib.hid (fun W h => gE1.out W (hU W h)); replace gM1 := Lib.hid (fun W h => gM1.out W (hU W h)); have gE2 := Lib.hid hNw; clear hNw hU; have hFs := hFs2; have hF := hF2; clear hFs2 hF2 hE; obtain ⟨F4, hFs2, hF2, hU, hNw⟩ := stb_add hFs hF (Stb.sub m2 _) hM; clear hFs hF; replace gE1 := Lib.hid (fun W h => gE1.out W (hU W h)); replace gM1 := Lib.hid (fun W h => gM1.out W (hU W h)); replace gE2 := Lib.hid (fun W h => gE2.out W (hU W h)); have gM2 := Lib.hid hNw; clear hNw hU; have hFs := hFs2; have hF := hF2; clear hFs2 hF2 hM; dsimp only) | (clear mk8; refine wpList_allocN HM rfl 27 rfl edInfo ?_; clear HM; intro g18 w1 HM hG hN9; replace hF := Lib.hid (hFs.keep hF.out hG.out); clear hG hN9) | (clear mk9; refine wpList_allocN HM rfl 25 rfl msgInfo ?_; clear HM; intro g19 w1 HM hG hN9; replace hF := Lib.hid (hFs.keep hF.out hG.out); clear hG hN9) | (refine wpList_storeF 1 HM rfl _ _ _ rfl _ rfl rfl _ rfl (by exact zend) (by rfl) (by rfl) ?_; have hBq := HM.out.at_ 1 rfl; clear HM; intro w4 HM hG4; simp only [List.set] at HM; replace hF := Lib.hid (hFs.put hF.out hBq (by decide) (by decide) hG4.out); clear hBq hG4) | (refine wpList_storeF 0 HM rfl _ _ _ rfl _ rfl rfl _ rfl (by exact zmsg) (by rfl) (by rfl) ?_; have hBq := HM.out.at_ 0 rfl; clear HM; intro w4 HM hG4; simp only [List.set] at HM; replace hF := Lib.hid (hFs.put hF.out hBq (by decide) (by decide) hG4.out); clear hBq hG4) | fail)
  have mk10 : Unit := ()
  have mk11 : Unit := ()
  go_upto_region 9 with (first | go_skip | (refine wpList_loadG 3 HM (by rfl) _ _ rfl _ rfl rfl _ uE.out rfl (by exact zend) ?_) | (refine wpList_loadG 1 HM (by rfl) _ _ rfl _ rfl rfl _ uE.out rfl (by exact zend) ?_) | (refine wpList_loadG 2 HM (by rfl) _ _ rfl _ rfl rfl _ uM.out rfl (by exact zmsg) ?_) | (refine wpList_loadG 0 HM (by rfl) _ _ rfl _ rfl rfl _ uM.out rfl (by exact zmsg) ?_) | (go_at_call 17; clear mk10; refine (cE.out VE v1 v2 _ (gE1.out _ hF.out).is (gE2.out _ hF.out).is).mono ?_; rintro r w3 ⟨rfl, hb_⟩; replace HM := Lib.hid (HM.out.keep hb_); replace hF := Lib.hid (hFs.keep hF.out hb_); clear hb_; dsimp only) | (go_at_call 18; clear mk11; refine (cM.out VM m1 m2 _ (gM1.out _ hF.out).is (gM2.out _ hF.out).is).mono ?_; rintro r w3 ⟨rfl, hb_⟩; replace HM := Lib.hid (HM.out.keep hb_); replace hF := Lib.hid (hFs.keep hF.out hb_); clear hb_; dsimp only) | fail)
  have mk12 : Unit := ()
  have mk13 : Unit := ()
  go_upto_region 10 with (first | go_skip | (refine wpList_loadG 5 HM (by rfl) _ _ rfl _ rfl rfl _ uE.out rfl (by exact zend) ?_) | (refine wpList_loadG 4 HM (by rfl) _ _ rfl _ rfl rfl _ uT.out rfl (by exact ztab) ?_) | (go_at_call 23; clear mk12; refine (cF.out _ HM.out.below).mono ?_; rintro r w3 ⟨u1, rfl, hT1, hb_⟩; replace HM := Lib.hid (HM.out.keep hb_); replace hF := Lib.hid (hFs.keep hF.out hb_); replace hT1 := Lib.hid hT1; have HB := Lib.hid (Below.refl w3.heap.size w3); clear hb_; dsimp only) | (clear mk13; refine wpList_allocN HM rfl 29 rfl tabInfo ?_; clear HM; intro g21 w1 HM hG hN9; replace hF := Lib.hid (hFs.keep hF.out hG.out); have hf_g21 := Nat.le_trans HB.out.size hN9.out; replace HB := Lib.hid (bthen HB.out hG.out); clear hG hN9) | (refine wpList_storeF 0 HM rfl _ _ _ rfl _ rfl rfl _ rfl (by exact ztab) (by rfl) (by rfl) ?_; have hBq := HM.out.at_ 0 rfl; clear HM; intro w4 HM hG4; simp only [List.set] at HM; replace hF := Lib.hid (hFs.put hF.out hBq (by decide) (by decide) hG4.out); replace HB := Lib.hid (HB.out.grown hG4.out HB.out.size (fun k e => by cases e; exact hf_g21)); clear hBq hG4) | fail)
  have mk14 : Unit := ()
  have mk15 : Unit := ()
  go_upto_region 11 with (first | go_skip | (refine wpList_loadG 6 HM (by rfl) _ _ rfl _ rfl rfl _ uE.out rfl (by exact zend) ?_) | (refine wpList_loadG 5 HM (by rfl) _ _ rfl _ rfl rfl _ uT.out rfl (by exact ztab) ?_) | (go_at_call 39; clear mk14; refine (cFr.out _ HM.out.below).mono ?_; rintro r w3 ⟨u2, rfl, hT2, hb_⟩; replace HM := Lib.hid (HM.out.keep hb_); replace hF := Lib.hid (hFs.keep hF.out hb_); replace HB := Lib.hid (bthen HB.out hb_); replace hT1 := Lib.hid (hT1.out.keep HB.out); clear HB; replace hT2 := Lib.hid hT2; have HB := Lib.hid (Below.refl w3.heap.size w3); clear hb_; dsimp only) | (clear mk15; refine wpList_allocN HM rfl 29 rfl tabInfo ?_; clear HM; intro g23 w1 HM hG hN9; replace hF := Lib.hid (hFs.keep hF.out hG.out); have hf_g23 := Nat.le_trans HB.out.size hN9.out; replace HB := Lib.hid (bthen HB.out hG.out); clear hG hN9) | (refine wpList_storeF 0 HM rfl _ _ _ rfl _ rfl rfl _ rfl (by exact ztab) (by rfl) (by rfl) ?_; have hBq := HM.out.at_ 0 rfl; clear HM; intro w4 HM hG4; simp only [List.set] at HM; replace hF := Lib.hid (hFs.put hF.out hBq (by decide) (by decide) hG4.out); replace HB := Lib.hid (HB.out.grown hG4.out HB.out.size (fun k e => by cases e; exact hf_g23)); clear hBq hG4) | fail)
  have mk16 : Unit := ()
  have mk17 : Unit := ()
  have mk18 : Unit := ()
  go_upto_region 12 with (first | go_skip | (refine wpList_loadG 7 HM (by rfl) _ _ rfl _ rfl rfl _ uE.out rfl (by exact zend) ?_) | (refine wpList_loadG 6 HM (by rfl) _ _ rfl _ rfl rfl _ uT.out rfl (by exact ztab) ?_) | (go_at_call 24; clear mk16; refine (cA.out _ HM.out.below).mono ?_; rintro r w3 ⟨v3, m3, rfl, hE, hM, hb_⟩; replace HM := Lib.hid (HM.out.keep hb_); replace hF := Lib.hid (hFs.keep hF.out hb_); replace HB := Lib.hid (bthen HB.out hb_); clear hb_; obtain ⟨F5, hFs2, hF2, hU, hNw⟩ := stb_add hFs hF (Stb.ed v3 _) hE; clear hFs hF; replace gE1 := Lib.hid (fun W h => gE1.out W (hU W h)); replace gM1 := Lib.hid (fun W h => gM1.out W (hU W h)); replace gE2 := Lib.hid (fun W h => gE2.out W (hU W h)); replace gM2 := Lib.hid (fun W h => gM2.out W (hU W h)); have gE3 := Lib.hid hNw; clear hNw hU; have hFs := hFs2; have hF := hF2; clear hFs2 hF2 hE; obtain ⟨F6, hFs2, hF2, hU, hNw⟩ := stb_add hFs hF (Stb.sub m3 _) hM; clear hFs hF; replace gE1 := Lib.hid (fun W h => gE1.out W (hU W h)); replace gM1 := Lib.hid (fun W h => gM1.out W (hU W h)); replace gE2 := Lib.hid (fun W h => gE2.out W (hU W h)); replace gM2 := Lib.hid (fun W h => gM2.out W (hU W h)); replace gE3 := Lib.hid (fun W h => gE3.out W (hU W h)); have gM3 := Lib.hid hNw; clear hNw hU; have hFs := hFs2; have hF := hF2; clear hFs2 hF2 hM; dsimp only) | (clear mk17; refine wpList_allocN HM rfl 27 rfl edInfo ?_; clear HM; intro g25 w1 HM hG hN9; replace hF := Lib.hid (hFs.keep hF.out hG.out); have hf_g25 := Nat.le_trans HB.out.size hN9.out; replace HB := Lib.hid (bthen HB.out hG.out); clear hG hN9) | (clear mk18; refine wpList_allocN HM rfl 25 rfl msgInfo ?_; clear HM; intro g26 w1 HM hG hN9; replace hF := Lib.hid (hFs.keep hF.out hG.out); have hf_g26 := Nat.le_trans HB.out.size hN9.out; replace HB := Lib.hid (bthen HB.out hG.out); clear hG hN9) | (refine wpList_storeF 1 HM rfl _ _ _ rfl _ rfl rfl _ rfl (by exact zend) (by rfl) (by rfl) ?_; have hBq := HM.out.at_ 1 rfl; clear HM; intro w4 HM hG4; simp only [List.set] at HM; replace hF := Lib.hid (hFs.put hF.out hBq (by decide) (by decide) hG4.out); replace HB := Lib.hid (HB.out.grown hG4.out HB.out.size (fun k e => by cases e; exact hf_g25)); clear hBq hG4) | (refine wpList_storeF 0 HM rfl _ _ _ rfl _ rfl rfl _ rfl (by exact zmsg) (by rfl) (by rfl) ?_; have hBq := HM.out.at_ 0 rfl; clear HM; intro w4 HM hG4; simp only [List.set] at HM; replace hF := Lib.hid (hFs.put hF.out hBq (by decide) (by decide) hG4.out); replace HB := Lib.hid (HB.out.grown hG4.out HB.out.size (fun k e => by cases e; exact hf_g26)); clear hBq hG4) | fail)
  have mk19 : Unit := ()
  have mk20 : Unit := ()
  have mk21 : Unit := ()
  go_upto_region 13 with (first | go_skip | (refine wpList_loadG 9 HM (by rfl) _ _ rfl _ rfl rfl _ uE.out rfl (by exact zend) ?_) | (refine wpList_loadG 8 HM (by rfl) _ _ rfl _ rfl rfl _ uT.out rfl (by exact ztab) ?_) | (go_at_call 40; clear mk19; refine (cAr.out _ HM.out.below).mono ?_; rintro r w3 ⟨v4, m4, rfl, hE, hM, hb_⟩; replace HM := Lib.hid (HM.out.keep hb_); replace hF := Lib.hid (hFs.keep hF.out hb_); replace HB := Lib.hid (bthen HB.out hb_); clear hb_; obtain ⟨F7, hFs2, hF2, hU, hNw⟩ := stb_add hFs hF (Stb.ed v4 _) hE; clear hFs hF; replace gE1 := Lib.hid (fun W h => gE1.out W (hU W h)); replace gM1 := Lib.hid (fun W h => gM1.out W (hU W h)); replace gE2 := Lib.hid (fun W h => gE2.out W (hU W h)); replace gM2 := Lib.hid (fun W h => gM2.out W (hU W h)); replace gE3 := Lib.hid (fun W h => gE3.out W (hU W h)); replace gM3 := Lib.hid (fun W h => gM3.out W (hU W h)); have gE4 := Lib.hid hNw; clear hNw hU; have hFs := hFs2; have hF := hF2; clear hFs2 hF2 hE; obtain ⟨F8, hFs2, hF2, hU, hNw⟩ := stb_add hFs hF (Stb.sub m4 _) hM; clear hFs hF; replace gE1 := Lib.hid (fun W h => gE1.out W (hU W h)); replace gM1 := Lib.hid (fun W h => gM1.out W (hU W h)); replace gE2 := Lib.hid (fun W h => gE2.out W (hU W h)); replace gM2 := Lib.hid (fun W h => gM2.out W (hU W h)); replace gE3 := Lib.hid (fun W h => gE3.out W (hU W h)); replace gM3 := Lib.hid (fun W h => gM3.out W (hU W h)); replace gE4 := Lib.hid (fun W h => gE4.out W (hU W h)); have gM4 := Lib.hid hNw; clear hNw hU; have hFs := hFs2; have hF := hF2; clear hFs2 hF2 hM; dsimp only) | (clear mk20; refine wpList_allocN HM rfl 27 rfl edInfo ?_; clear HM; intro g28 w1 HM hG hN9; replace hF := Lib.hid (hFs.keep hF.out hG.out); have hf_g28 := Nat.le_trans HB.out.size hN9.out; replace HB := Lib.hid (bthen HB.out hG.out); clear hG hN9) | (clear mk21; refine wpList_allocN HM rfl 25 rfl msgInfo ?_; clear HM; intro g29 w1 HM hG hN9; replace hF := Lib.hid (hFs.keep hF.out hG.out); have hf_g29 := Nat.le_trans HB.out.size hN9.out; replace HB := Lib.hid (bthen HB.out hG.out); clear hG hN9) | (refine wpList_storeF 1 HM rfl _ _ _ rfl _ rfl rfl _ rfl (by exact zend) (by rfl) (by rfl) ?_; have hBq := HM.out.at_ 1 rfl; clear HM; intro w4 HM hG4; simp only [List.set] at HM; replace hF := Lib.hid (hFs.put hF.out hBq (by decide) (by decide) hG4.out); replace HB := Lib.hid (HB.out.grown hG4.out HB.out.size (fun k e => by cases e; exact hf_g28)); clear hBq hG4) | (refine wpList_storeF 0 HM rfl _ _ _ rfl _ rfl rfl _ rfl (by exact zmsg) (by rfl) (by rfl) ?_; have hBq := HM.out.at_ 0 rfl; clear HM; intro w4 HM hG4; simp only [List.set] at HM; replace hF := Lib.hid (hFs.put hF.out hBq (by decide) (by decide) hG4.out); replace HB := Lib.hid (HB.out.grown hG4.out HB.out.size (fun k e => by cases e; exact hf_g29)); clear hBq hG4) | fail)
  have mk22 : Unit := ()
  have mk23 : Unit := ()
  have mk24 : Unit := ()
  go_wp2_with (first | go_skip | (refine wpList_loadG 5 HM (by rfl) _ _ rfl _ rfl rfl _ uT.out rfl (by exact ztab) ?_) | (refine wpList_loadG 4 HM (by rfl) _ _ rfl _ rfl rfl _ uT.out rfl (by exact ztab) ?_) | (refine wpList_loadG 3 HM (by rfl) _ _ rfl _ rfl rfl _ uE.out rfl (by exact zend) ?_) | (refine wpList_loadG 1 HM (by rfl) _ _ rfl _ rfl rfl _ uE.out rfl (by exact zend) ?_) | (refine wpList_loadG 2 HM (by rfl) _ _ rfl _ rfl rfl _ uM.out rfl (by exact zmsg) ?_) | (refine wpList_loadG 0 HM (by rfl) _ _ rfl _ rfl rfl _ uM.out rfl (by exact zmsg) ?_) | (go_at_call 41; clear mk22; refine (cT.out FT u1 u2 _ (hT1.out.keep HB.out) (hT2.out.keep HB.out)).mono ?_; rintro r w3 ⟨rfl, hb_⟩; replace HM := Lib.hid (HM.out.keep hb_); replace hF := Lib.hid (hFs.keep hF.out hb_); replace HB := Lib.hid (bthen HB.out hb_); clear hb_; dsimp only) | (go_at_call 17; clear mk23; refine (cE.out AE v3 v4 _ (gE3.out _ hF.out).is (gE4.out _ hF.out).is).mono ?_; rintro r w3 ⟨rfl, hb_⟩; replace HM := Lib.hid (HM.out.keep hb_); replace hF := Lib.hid (hFs.keep hF.out hb_); replace HB := Lib.hid (bthen HB.out hb_); clear hb_; dsimp only) | (go_at_call 18; clear mk24; refine (cM.out AM m3 m4 _ (gM3.out _ hF.out).is (gM4.out _ hF.out).is).mono ?_; rintro r w3 ⟨rfl, hb_⟩; replace HM := Lib.hid (HM.out.keep hb_); replace hF := Lib.hid (hFs.keep hF.out hb_); replace HB := Lib.hid (bthen HB.out hb_); clear hb_; dsimp only) | fail)
  try simp only [Exit.inBlock, Exit.then]
  go_ret
  exact ⟨by first | rfl | trivial, HM.out.below⟩
end Tx
end Go.Proofs.YtkfipbelhlcddaaGreat
namespace Go.Proofs.YtkfipbelhlcddaaGreat
open Go Go.RowKit
namespace Tx
theorem transactionAsks_walk (x1 : Int) (x3 : Int) (x5 : Int) (A7 : Option Addr) (n8 c9 : Nat) (l10 : List TCl) (b12 : Bool) (x13 : Int) (x15 : Int) (b17 : Bool) (x18 : Int) (x20 : Int) (x22 : Int) (A24 : Option Addr) (n25 c26 : Nat) (l27 : List Spt) (A29 : Option Addr) (n30 c31 : Nat) (l32 : List Spt) (b34 : Bool) (x35 : Int) (b37 : Bool) (x38 : Int) (x40 : Int) (x42 : Int) (A44 : Option Addr) (n45 c46 : Nat) (l47 : List Spt) (A49 : Option Addr) (n50 c51 : Nat) (l52 : List Spt) (x54 : Int) (b56 : Bool) (x57 : Int) (x59 : Int) (x61 : Int) (A63 : Option Addr) (n64 c65 : Nat) (l66 : List Spt) (A68 : Option Addr) (n69 c70 : Nat) (l71 : List Spt) (x73 : Int) (x75 : Int) (A77 : Option Addr) (n78 c79 : Nat) (l80 : List TCl) (A82 : Option Addr) (n83 c84 : Nat) (l85 : List Int) (x87 : Int) (x89 : Int) (x91 : Int) (A93 : Option Addr) (n94 c95 : Nat) (l96 : List Spt) (W : World) (h2 : (Lit.int .i64 x1).wf = true) (h4 : (Lit.int .i64 x3).wf = true) (h6 : (Lit.int .i64 x5).wf = true) (h11 : TclS W A7 n8 l10 ∧ n8 ≤ c9) (h14 : (Lit.int .i64 x13).wf = true) (h16 : (Lit.int .i64 x15).wf = true) (h19 : (Lit.int .i64 x18).wf = true) (h21 : (Lit.int .i64 x20).wf = true) (h23 : (Lit.int .i64 x22).wf = true) (h28 : SptS W A24 n25 l27 ∧ n25 ≤ c26) (h33 : SptS W A29 n30 l32 ∧ n30 ≤ c31) (h36 : (Lit.int .i64 x35).wf = true) (h39 : (Lit.int .i64 x38).wf = true) (h41 : (Lit.int .i64 x40).wf = true) (h43 : (Lit.int .i64 x42).wf = true) (h48 : SptS W A44 n45 l47 ∧ n45 ≤ c46) (h53 : SptS W A49 n50 l52 ∧ n50 ≤ c51) (h55 : (Lit.int .i64 x54).wf = true) (h58 : (Lit.int .i64 x57).wf = true) (h60 : (Lit.int .i64 x59).wf = true) (h62 : (Lit.int .i64 x61).wf = true) (h67 : SptS W A63 n64 l66 ∧ n64 ≤ c65) (h72 : SptS W A68 n69 l71 ∧ n69 ≤ c70) (h74 : (Lit.int .i64 x73).wf = true) (h76 : (Lit.int .i64 x75).wf = true) (h81 : TclS W A77 n78 l80 ∧ n78 ≤ c79) (h86 : IntS W A82 n83 l85 ∧ n83 ≤ c84) (h88 : (Lit.int .i64 x87).wf = true) (h90 : (Lit.int .i64 x89).wf = true) (h92 : (Lit.int .i64 x91).wf = true) (h97 : SptS W A93 n94 l96 ∧ n94 ≤ c95) : Calls Tryz.prog 10 #[.agg #[.int .i64 x1, .int .i64 x3, .int .i64 x5, .slice A7 n8 c9, .bool b12, .int .i64 x13, .int .i64 x15, .bool b17, .int .i64 x18, .int .i64 x20, .int .i64 x22, .slice A24 n25 c26, .slice A29 n30 c31, .bool b34, .int .i64 x35, .bool b37, .int .i64 x38, .int .i64 x40, .int .i64 x42, .slice A44 n45 c46, .slice A49 n50 c51, .int .i64 x54, .bool b56, .int .i64 x57, .int .i64 x59, .int .i64 x61, .slice A63 n64 c65, .slice A68 n69 c70], .agg #[.int .i64 x73, .int .i64 x75, .slice A77 n78 c79], .slice A82 n83 c84, .int .i64 x87, .int .i64 x89, .int .i64 x91, .slice A93 n94 c95] W fun e w' => e = .returned (.bool true) ∧ Below W.heap.size W w' :=
  asks_any ⟨x1, x3, x5, l10, b12, x13, ⟨x15, b17, x18, x20, x22, l27, l32⟩, b34, ⟨x35, b37, x38, x40, x42, l47, l52⟩, ⟨x54, b56, x57, x59, x61, l66, l71⟩⟩ ⟨x73, x75, l80⟩ l85 x87 x89 x91 l96 ⟨A7, n8, c9, ⟨A24, n25, c26, A29, n30, c31⟩, ⟨A44, n45, c46, A49, n50, c51⟩, ⟨A63, n64, c65, A68, n69, c70⟩⟩ ⟨A77, n78, c79⟩ A82 A93 n83 c84 n94 c95 W ⟨h11.1, h11.2, ⟨h28.1, h33.1, h28.2, h33.2⟩, ⟨h48.1, h53.1, h48.2, h53.2⟩, ⟨h67.1, h72.1, h67.2, h72.2⟩⟩ ⟨h81.1, h81.2⟩ h86.1 h97.1 h97.2
end Tx
end Go.Proofs.YtkfipbelhlcddaaGreat
