/- The law Finishes. -/
import Derived.Test.YtkfipbelhlcddaaGreatTbW
import Derived.Test.YtkfipbelhlcddaaGreatTe
import Derived.Test.YtkfipbelhlcddaaGreatTaJs
set_option linter.unusedVariables false
set_option linter.unusedSimpArgs false
namespace Go.Proofs.YtkfipbelhlcddaaGreat
open Go Go.RowKit Go.Sort Go.Shelf Go.Maps
namespace Tx
open Sw Mm Pl
set_option maxRecDepth 100000 in
set_option maxHeartbeats 16000000 in
theorem finishes_any (e : Ed) (m : Msg) (v : EdV) (vm : MsgV) (w : World) (h : EdIs w v e) (hm : MsgIs w vm m) : Calls Tryz.prog 4 #[.agg (endA e v), .agg (msgA m vm)] w fun r w' => r = .returned (.bool true) ∧ Below w.heap.size w w' := by
  have HM := Lib.hid (Mem.start w)
  obtain ⟨F0, hFs, hF⟩ : ∃ F : World → Prop, Stb F ∧ Hid (F w) := ⟨_, Stb.true, trivial⟩
  have uE := Tryz.underlying27
  have uT := Tryz.underlying29
  have uM := Tryz.underlying25
  have cAw := fun W => awake_any W
  have cFe := fun W (hb : Below w.heap.size w W) => fewE_any e v W (h.keep hb)
  have cFm := fun W (hb : Below w.heap.size w W) => fewM_any m vm W (hm.keep hb)
  have cS := fun W (hb : Below w.heap.size w W) => finish_any e m v vm W (h.keep hb) (hm.keep hb)
  have cSr := fun W (hb : Below w.heap.size w W) => rfinish_any e m v vm W (h.keep hb) (hm.keep hb)
  change ∀ W, _ → Calls _ _ #[.agg (endA e v)] _ _ at cFe
  change ∀ W, _ → Calls _ _ #[.agg (msgA m vm)] _ _ at cFm
  change ∀ W, _ → Calls _ _ #[.agg (endA e v), .agg (msgA m vm)] _ _ at cS
  have cE := fun a va vb W (h1 : EdIs W va a) (h2 : EdIs W vb a) => sameE_any a a va vb W h1 h2
  simp only [eq_self, decide_true] at cE
  unfold EndOwn at cS cSr
  generalize fewE e = B1 at *
  generalize fewM m = B2 at *
  generalize finN e m = FN at *
  generalize finC e m = FC at *
  replace cAw := Lib.hid cAw
  replace cFe := Lib.hid cFe
  replace cFm := Lib.hid cFm
  replace cS := Lib.hid cS
  replace cSr := Lib.hid cSr
  replace cE := Lib.hid cE
  replace uE := Lib.hid uE
  replace uM := Lib.hid uM
  clear uT h hm
  go_enter Tryz.func4, Tryz.ntmps4
  go_upto_region 1 with (first | go_skip | (refine wpList_boxA HM rfl 27 _ rfl _ rfl ?_; clear HM; intro g2 w1 HM hG; replace hF := Lib.hid (hFs.keep hF.out hG.out); clear hG) | (refine wpList_boxA HM rfl 25 _ rfl _ rfl ?_; clear HM; intro g3 w1 HM hG; replace hF := Lib.hid (hFs.keep hF.out hG.out); clear hG) | fail)
  have mk1 : Unit := ()
  go_upto_region 3 with (first | go_skip | (go_at_call 11; clear mk1; refine (cAw.out _).mono ?_; rintro r w3 ⟨rfl, hb_⟩; replace HM := Lib.hid (HM.out.keep hb_); replace hF := Lib.hid (hFs.keep hF.out hb_); clear hb_; dsimp only) | fail)
  have mk2 : Unit := ()
  have mk3 : Unit := ()
  cases B1
  case false =>
    go_wp2_with (first | go_skip | (refine wpList_loadG 1 HM (by rfl) _ _ rfl _ rfl rfl _ uE.out rfl (by exact zend) ?_) | (refine wpList_loadG 0 HM (by rfl) _ _ rfl _ rfl rfl _ uM.out rfl (by exact zmsg) ?_) | (go_at_call 12; clear mk2; refine (cFe.out _ HM.out.below).mono ?_; rintro r w3 ⟨rfl, hb_⟩; replace HM := Lib.hid (HM.out.keep hb_); replace hF := Lib.hid (hFs.keep hF.out hb_); clear hb_; dsimp only) | (go_at_call 14; clear mk3; refine (cFm.out _ HM.out.below).mono ?_; rintro r w3 ⟨rfl, hb_⟩; replace HM := Lib.hid (HM.out.keep hb_); replace hF := Lib.hid (hFs.keep hF.out hb_); clear hb_; dsimp only) | fail)
    try simp only [Exit.inBlock, Exit.then]
    go_ret
    exact ⟨by first | rfl | trivial, HM.out.below⟩
  cases B2
  case false =>
    go_wp2_with (first | go_skip | (refine wpList_loadG 1 HM (by rfl) _ _ rfl _ rfl rfl _ uE.out rfl (by exact zend) ?_) | (refine wpList_loadG 0 HM (by rfl) _ _ rfl _ rfl rfl _ uM.out rfl (by exact zmsg) ?_) | (go_at_call 12; clear mk2; refine (cFe.out _ HM.out.below).mono ?_; rintro r w3 ⟨rfl, hb_⟩; replace HM := Lib.hid (HM.out.keep hb_); replace hF := Lib.hid (hFs.keep hF.out hb_); clear hb_; dsimp only) | (go_at_call 14; clear mk3; refine (cFm.out _ HM.out.below).mono ?_; rintro r w3 ⟨rfl, hb_⟩; replace HM := Lib.hid (HM.out.keep hb_); replace hF := Lib.hid (hFs.keep hF.out hb_); clear hb_; dsimp only) | fail)
    try simp only [Exit.inBlock, Exit.then]
    go_ret
    exact ⟨by first | rfl | trivial, HM.out.below⟩
  go_upto_region 5 with (first | go_skip | (refine wpList_loadG 1 HM (by rfl) _ _ rfl _ rfl rfl _ uE.out rfl (by exact zend) ?_) | (refine wpList_loadG 0 HM (by rfl) _ _ rfl _ rfl rfl _ uM.out rfl (by exact zmsg) ?_) | (go_at_call 12; clear mk2; refine (cFe.out _ HM.out.below).mono ?_; rintro r w3 ⟨rfl, hb_⟩; replace HM := Lib.hid (HM.out.keep hb_); replace hF := Lib.hid (hFs.keep hF.out hb_); clear hb_; dsimp only) | (go_at_call 14; clear mk3; refine (cFm.out _ HM.out.below).mono ?_; rintro r w3 ⟨rfl, hb_⟩; replace HM := Lib.hid (HM.out.keep hb_); replace hF := Lib.hid (hFs.keep hF.out hb_); clear hb_; dsimp only) | fail)
  have mk4 : Unit := ()
  have mk5 : Unit := ()
  go_upto_region 6 with (first | go_skip | (refine wpList_loadG 1 HM (by rfl) _ _ rfl _ rfl rfl _ uE.out rfl (by exact zend) ?_) | (refine wpList_loadG 0 HM (by rfl) _ _ rfl _ rfl rfl _ uM.out rfl (by exact zmsg) ?_) | (go_at_call 19; clear mk4; refine (cS.out _ HM.out.below).mono ?_; rintro r w3 ⟨v1, rfl, hE, hb_⟩; replace HM := Lib.hid (HM.out.keep hb_); replace hF := Lib.hid (hFs.keep hF.out hb_); clear hb_; obtain ⟨F1, hFs2, hF2, hU, hNw⟩ := stb_add hFs hF (Stb.ed v1 _) hE; clear hFs hF; have gX := Lib.hid hNw; clear hNw hU; have hFs := hFs2; have hF := hF2; clear hFs2 hF2 hE; dsimp only) | (clear mk5; refine wpList_allocN HM rfl 27 rfl edInfo ?_; clear HM; intro g5 w1 HM hG hN9; replace hF := Lib.hid (hFs.keep hF.out hG.out); clear hG hN9) | (refine wpList_storeF 0 HM rfl _ _ _ rfl _ rfl rfl _ rfl (by exact zend) (by rfl) (by rfl) ?_; have hBq := HM.out.at_ 0 rfl; clear HM; intro w4 HM hG4; simp only [List.set] at HM; replace hF := Lib.hid (hFs.put hF.out hBq (by decide) (by decide) hG4.out); clear hBq hG4) | fail)
  have mk6 : Unit := ()
  have mk7 : Unit := ()
  go_upto_region 7 with (first | go_skip | (refine wpList_loadG 2 HM (by rfl) _ _ rfl _ rfl rfl _ uE.out rfl (by exact zend) ?_) | (refine wpList_loadG 1 HM (by rfl) _ _ rfl _ rfl rfl _ uM.out rfl (by exact zmsg) ?_) | (go_at_call 20; clear mk6; refine (cSr.out _ HM.out.below).mono ?_; rintro r w3 ⟨v2, rfl, hE, hb_⟩; replace HM := Lib.hid (HM.out.keep hb_); replace hF := Lib.hid (hFs.keep hF.out hb_); clear hb_; obtain ⟨F2, hFs2, hF2, hU, hNw⟩ := stb_add hFs hF (Stb.ed v2 _) hE; clear hFs hF; replace gX := Lib.hid (fun W h => gX.out W (hU W h)); have gY := Lib.hid hNw; clear hNw hU; have hFs := hFs2; have hF := hF2; clear hFs2 hF2 hE; dsimp only) | (clear mk7; refine wpList_allocN HM rfl 27 rfl edInfo ?_; clear HM; intro g7 w1 HM hG hN9; replace hF := Lib.hid (hFs.keep hF.out hG.out); clear hG hN9) | (refine wpList_storeF 0 HM rfl _ _ _ rfl _ rfl rfl _ rfl (by exact zend) (by rfl) (by rfl) ?_; have hBq := HM.out.at_ 0 rfl; clear HM; intro w4 HM hG4; simp only [List.set] at HM; replace hF := Lib.hid (hFs.put hF.out hBq (by decide) (by decide) hG4.out); clear hBq hG4) | fail)
  have mk8 : Unit := ()
  go_wp2_with (first | go_skip | (refine wpList_loadG 1 HM (by rfl) _ _ rfl _ rfl rfl _ uE.out rfl (by exact zend) ?_) | (refine wpList_loadG 0 HM (by rfl) _ _ rfl _ rfl rfl _ uE.out rfl (by exact zend) ?_) | (go_at_call 17; clear mk8; refine (cE.out FN v1 v2 _ (gX.out _ hF.out).is (gY.out _ hF.out).is).mono ?_; rintro r w3 ⟨rfl, hb_⟩; replace HM := Lib.hid (HM.out.keep hb_); replace hF := Lib.hid (hFs.keep hF.out hb_); clear hb_; dsimp only) | fail)
  try simp only [Exit.inBlock, Exit.then]
  go_ret
  exact ⟨by first | rfl | trivial, HM.out.below⟩
end Tx
end Go.Proofs.YtkfipbelhlcddaaGreat
namespace Go.Proofs.YtkfipbelhlcddaaGreat
open Go Go.RowKit
namespace Tx
theorem transactionFinishes_walk (x1 : Int) (x3 : Int) (x5 : Int) (A7 : Option Addr) (n8 c9 : Nat) (l10 : List TCl) (b12 : Bool) (x13 : Int) (x15 : Int) (b17 : Bool) (x18 : Int) (x20 : Int) (x22 : Int) (A24 : Option Addr) (n25 c26 : Nat) (l27 : List Spt) (A29 : Option Addr) (n30 c31 : Nat) (l32 : List Spt) (b34 : Bool) (x35 : Int) (b37 : Bool) (x38 : Int) (x40 : Int) (x42 : Int) (A44 : Option Addr) (n45 c46 : Nat) (l47 : List Spt) (A49 : Option Addr) (n50 c51 : Nat) (l52 : List Spt) (x54 : Int) (b56 : Bool) (x57 : Int) (x59 : Int) (x61 : Int) (A63 : Option Addr) (n64 c65 : Nat) (l66 : List Spt) (A68 : Option Addr) (n69 c70 : Nat) (l71 : List Spt) (x73 : Int) (b75 : Bool) (x76 : Int) (x78 : Int) (x80 : Int) (A82 : Option Addr) (n83 c84 : Nat) (l85 : List Spt) (A87 : Option Addr) (n88 c89 : Nat) (l90 : List Spt) (W : World) (h2 : (Lit.int .i64 x1).wf = true) (h4 : (Lit.int .i64 x3).wf = true) (h6 : (Lit.int .i64 x5).wf = true) (h11 : TclS W A7 n8 l10 ∧ n8 ≤ c9) (h14 : (Lit.int .i64 x13).wf = true) (h16 : (Lit.int .i64 x15).wf = true) (h19 : (Lit.int .i64 x18).wf = true) (h21 : (Lit.int .i64 x20).wf = true) (h23 : (Lit.int .i64 x22).wf = true) (h28 : SptS W A24 n25 l27 ∧ n25 ≤ c26) (h33 : SptS W A29 n30 l32 ∧ n30 ≤ c31) (h36 : (Lit.int .i64 x35).wf = true) (h39 : (Lit.int .i64 x38).wf = true) (h41 : (Lit.int .i64 x40).wf = true) (h43 : (Lit.int .i64 x42).wf = true) (h48 : SptS W A44 n45 l47 ∧ n45 ≤ c46) (h53 : SptS W A49 n50 l52 ∧ n50 ≤ c51) (h55 : (Lit.int .i64 x54).wf = true) (h58 : (Lit.int .i64 x57).wf = true) (h60 : (Lit.int .i64 x59).wf = true) (h62 : (Lit.int .i64 x61).wf = true) (h67 : SptS W A63 n64 l66 ∧ n64 ≤ c65) (h72 : SptS W A68 n69 l71 ∧ n69 ≤ c70) (h74 : (Lit.int .i64 x73).wf = true) (h77 : (Lit.int .i64 x76).wf = true) (h79 : (Lit.int .i64 x78).wf = true) (h81 : (Lit.int .i64 x80).wf = true) (h86 : SptS W A82 n83 l85 ∧ n83 ≤ c84) (h91 : SptS W A87 n88 l90 ∧ n88 ≤ c89) : Calls Tryz.prog 4 #[.agg #[.int .i64 x1, .int .i64 x3, .int .i64 x5, .slice A7 n8 c9, .bool b12, .int .i64 x13, .int .i64 x15, .bool b17, .int .i64 x18, .int .i64 x20, .int .i64 x22, .slice A24 n25 c26, .slice A29 n30 c31, .bool b34, .int .i64 x35, .bool b37, .int .i64 x38, .int .i64 x40, .int .i64 x42, .slice A44 n45 c46, .slice A49 n50 c51, .int .i64 x54, .bool b56, .int .i64 x57, .int .i64 x59, .int .i64 x61, .slice A63 n64 c65, .slice A68 n69 c70], .agg #[.int .i64 x73, .bool b75, .int .i64 x76, .int .i64 x78, .int .i64 x80, .slice A82 n83 c84, .slice A87 n88 c89]] W fun e w' => e = .returned (.bool true) ∧ Below W.heap.size W w' :=
  finishes_any ⟨x1, x3, x5, l10, b12, x13, ⟨x15, b17, x18, x20, x22, l27, l32⟩, b34, ⟨x35, b37, x38, x40, x42, l47, l52⟩, ⟨x54, b56, x57, x59, x61, l66, l71⟩⟩ ⟨x73, b75, x76, x78, x80, l85, l90⟩ ⟨A7, n8, c9, ⟨A24, n25, c26, A29, n30, c31⟩, ⟨A44, n45, c46, A49, n50, c51⟩, ⟨A63, n64, c65, A68, n69, c70⟩⟩ ⟨A82, n83, c84, A87, n88, c89⟩ W ⟨h11.1, h11.2, ⟨h28.1, h33.1, h28.2, h33.2⟩, ⟨h48.1, h53.1, h48.2, h53.2⟩, ⟨h67.1, h72.1, h67.2, h72.2⟩⟩ ⟨h86.1, h91.1, h86.2, h91.2⟩
end Tx
end Go.Proofs.YtkfipbelhlcddaaGreat
