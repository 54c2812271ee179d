/- The law Numbers. -/
import Derived.Test.YtkfipbelhlcddaaGreatTbW
import Derived.Test.YtkfipbelhlcddaaGreatTbM
import Derived.Test.YtkfipbelhlcddaaGreatTaJs
set_option linter.unusedVariables false
set_option linter.unusedSimpArgs false
namespace Go.Proofs.YtkfipbelhlcddaaGreat
open Go Go.RowKit Go.Sort Go.Shelf Go.Maps
namespace Tx
open Sw Mm Pl
theorem regN {P : Program} {f : FuncId} {args : Array Value} {v : Value} {a0 W : World} {L : List (Nat × Array Value × TypeId)} (_ : Hid (Mem a0 W L)) (c : ∀ W', Calls P f args W' fun e w' => e = .returned v ∧ W' = w') : ∀ d os, Calls P f args (grow (redrawn W d) os) fun e w'' => e = .returned v ∧ ∃ p : Regrown, w'' = grow (redrawn W p.d) p.os :=
  fun _ _ => Calls.regrown_of ((c _).mono fun _ _ hh => ⟨hh.1, by rw [← hh.2]; exact Below.refl _ _⟩)
theorem accN_code (q : Msg) (n : Int) (l o : List Spt) : (accN q n l o).code = 0 := by
  unfold accN
  split <;> rfl
set_option maxRecDepth 100000 in
set_option maxHeartbeats 16000000 in
theorem numbers_any (e : Ed) (t : Tab) (f : List Int) (m : Msg) (v : EdV) (vt : TabV) (vm : MsgV) (A : Option Addr) (nf cf : Nat) (w : World) (h : EdIs w v e) (ht : TabIs w vt t) (hf : IntS w A nf f) (hm : MsgIs w vm m) : Calls Tryz.prog 7 #[.agg (endA e v), .agg (tabA t vt), .slice A nf cf, .agg (msgA m vm)] w fun r w' => r = .returned (.bool true) ∧ Below w.heap.size w w' := by
  obtain ⟨en, ep, eu, cl, eo, es, ea, ek, el, er⟩ := e
  have HM := Lib.hid (Mem.start w)
  obtain ⟨F0, hFs, hF⟩ : ∃ F : World → Prop, Stb F ∧ Hid (F w) := ⟨_, Stb.true, trivial⟩
  have uE := Tryz.underlying27
  have uT := Tryz.underlying29
  have uM := Tryz.underlying25
  have cAw := fun W => awake_any W
  have cN := fun n W => next_any n W
  have cFe := fun W (hb : Below w.heap.size w W) => fewE_any ⟨en, ep, eu, cl, eo, es, ea, ek, el, er⟩ v W (h.keep hb)
  have cFt := fun W (hb : Below w.heap.size w W) => fewT_any t vt W (ht.keep hb)
  have cFm := fun W (hb : Below w.heap.size w W) => fewM_any m vm W (hm.keep hb)
  have cR1 := fun W (hb : Below w.heap.size w W) => receive_any ⟨en, ep, eu, cl, eo, es, ea, ek, el, er⟩ t f m v vt vm A nf cf W (h.keep hb) (ht.keep hb) (hf.keep hb) (hm.keep hb)
  have cE := fun a b va vb W (h1 : EdIs W va a) (h2 : EdIs W vb b) => sameE_any a b va vb W h1 h2
  have cM := fun a b va vb W (h1 : MsgIs W va a) (h2 : MsgIs W vb b) => sameM_any a b va vb W h1 h2
  have hRd : Hid (recvC ⟨en, ep, eu, cl, eo, es, ea, ek, el, er⟩ t m = 0 → FullOk t ⟨en, ep, eu, cl, eo, es, ea, ek, el, er⟩ ∧ chkM m = 0 ∧ m.reply = false) := fun h => recvC_iff.1 h
  generalize fewE ⟨en, ep, eu, cl, eo, es, ea, ek, el, er⟩ = B1 at *
  generalize fewT t = B2 at *
  generalize fewM m = B3 at *
  dsimp only at *
  replace h := Lib.hid h
  replace ht := Lib.hid ht
  replace hf := Lib.hid hf
  replace hm := Lib.hid hm
  replace cAw := Lib.hid cAw
  replace cN := Lib.hid cN
  replace cFe := Lib.hid cFe
  replace cFt := Lib.hid cFt
  replace cFm := Lib.hid cFm
  replace cR1 := Lib.hid cR1
  replace cE := Lib.hid cE
  replace cM := Lib.hid cM
  replace uE := Lib.hid uE
  replace uT := Lib.hid uT
  replace uM := Lib.hid uM
  go_enter Tryz.func7, Tryz.ntmps7
  go_upto_region 1 with (first | go_skip | (refine wpList_boxA HM rfl 27 _ rfl _ rfl ?_; clear HM; intro g4 w1 HM hG; replace hF := Lib.hid (hFs.keep hF.out hG.out); clear hG) | (refine wpList_boxA HM rfl 29 _ rfl _ rfl ?_; clear HM; intro g5 w1 HM hG; replace hF := Lib.hid (hFs.keep hF.out hG.out); clear hG) | (refine wpList_boxA HM rfl 25 _ rfl _ rfl ?_; clear HM; intro g7 w1 HM hG; replace hF := Lib.hid (hFs.keep hF.out hG.out); clear hG) | fail)
  have mk1 : Unit := ()
  go_upto_region 3 with (first | go_skip | (go_at_call 11; clear mk1; refine (cAw.out _).mono ?_; rintro r w3 ⟨rfl, hb_⟩; replace HM := Lib.hid (HM.out.keep hb_); replace hF := Lib.hid (hFs.keep hF.out hb_); clear hb_; dsimp only) | fail)
  have hmk := @run_makeMap Tryz.prog
  go_upto_region 4 with fail
  have HO := Lib.hid (World.ownsMap_made (H := Unit) w3 Tryz.prog 3 (plainElem Tryz.prog 4))
  have hbn := Lib.hid (fun x hx => (HM.out.blk x hx).lt)
  have hws := Lib.hid HM.out.below.size
  replace HM := Lib.hid (HM.out.keep (ball w3 (.map #[] 0)))
  generalize w3.alloc (.map #[] 0) = w5 at *
  generalize w3.heap.size = gm at *
  go_wp2_with fail
  go_loopw [9, 17] (fun a i wr => Hid (∃ k : Nat, k ≤ 255 ∧ a = .int .i64 k ∧ i = .int .i64 k ∧ Hid (wr.ownsMap Tryz.prog 3 (plainElem Tryz.prog 4) gm k (SeenD (natsTo k))) ∧ Hid (Mem w wr [(g7, msgA m vm, 25), (g5, tabA t vt, 29), (g4, endA ⟨en, ep, eu, cl, eo, es, ea, ek, el, er⟩ v, 27)]))) (fun _ i _ => 255 - (intOf i).toNat)
  case atStart => exact Lib.hid ⟨0, by omega, rfl, rfl, HO, HM⟩
  case round =>
    clear HM HO hF hFs
    obtain ⟨k, hk, rfl, rfl, HO, HM⟩ := hrel.out
    clear hrel
    by_cases hlt : k < 255
    · have hnx := next_nat hlt
      have cN1 := cN.out (k : Int)
      rw [hnx] at cN1
      have hcst : ((k + 1 : Nat) : Int) = (k : Int) + 1 := by omega
      have r1 : (k : Int) < 255 := by omega
      have d1 : decide (((k + 1 : Nat) : Int) < 1) = false := decide_eq_false (by omega)
      have d2 : decide ((255 : Int) < ((k + 1 : Nat) : Int)) = false := decide_eq_false (by omega)
      obtain ⟨w6, hup, HO2, hg6⟩ := seen_put HO.out hlt
      have HM6 : Hid (Mem w w6 [(g7, msgA m vm, 25), (g5, tabA t vt, 29), (g4, endA ⟨en, ep, eu, cl, eo, es, ea, ek, el, er⟩ v, 27)]) := HM.out.grown hg6 (fun g e => by injection e with e; subst e; exact ⟨hws.out, fun x hx => Nat.ne_of_lt (hbn.out x hx)⟩)
      generalize hkk : ((k + 1 : Nat) : Int) = kk at *
      clear hnx hcst
      replace hkk := Lib.hid hkk
      replace cN1 := Lib.hid cN1
      replace HO2 := Lib.hid HO2
      go_upto_region 9 with (first
        | (go_at_call 28; refine (cN1.out _).mono ?_; rintro r w_ ⟨rfl, rfl⟩)
        | (refine wpList_lookupG _ (by rfl) _ _ 55 rfl 3 4 lawI Tryz.underlying55 Tryz.underlying4 (by kernel_rfl) gm k (SeenD (natsTo k)) rfl HO.out _ (.int .i64 kk) rfl (by rw [← hkk.out]; exact keyI _ (by omega)) ?_; intro cc hcc; have hs := seen_at k; rw [hkk.out] at hs; rw [hs] at hcc; injection hcc with hcc; injection hcc with hcc; subst hcc)
        | fail)
      go_wp2_with fail
      refine ⟨Lib.hid ⟨k + 1, by omega, by rw [hkk.out], by go_num, HO2, HM6⟩, ?_⟩
      simp [intOf]; omega
    · obtain rfl : k = 255 := by omega
      obtain ⟨F0, hFs, hF⟩ : ∃ F : World → Prop, Stb F ∧ Hid (F wr) := ⟨_, Stb.true, trivial⟩
      clear HO
      have cN1 : Hid (∀ W, Calls Tryz.prog 28 #[.int .i64 255] W fun e w' => e = .returned (.int .i64 1) ∧ W = w') := fun W => cN.out 255 W
      have cN2 : Hid (∀ W, Calls Tryz.prog 28 #[.int .i64 (-1)] W fun e w' => e = .returned (.int .i64 0) ∧ W = w') := fun W => cN.out (-1) W
      have cN3 : Hid (∀ W, Calls Tryz.prog 28 #[.int .i64 256] W fun e w' => e = .returned (.int .i64 0) ∧ W = w') := fun W => cN.out 256 W
      have mk2 : Unit := ()
      have mk3 : Unit := ()
      have mk4 : Unit := ()
      go_upto_region 13 with (first | go_skip | (go_at_call 28; refine (cN1.out _).mono ?_; rintro r w_ ⟨rfl, rfl⟩; clear cN1) | (go_at_call 28; refine (cN2.out _).mono ?_; rintro r w_ ⟨rfl, rfl⟩; clear cN2) | (go_at_call 28; refine (cN3.out _).mono ?_; rintro r w_ ⟨rfl, rfl⟩; clear cN3) | fail)
      cases B1
      case false =>
        go_wp2_with (first | go_skip | (refine wpList_loadG 2 HM (by rfl) _ _ rfl _ rfl rfl _ uE.out rfl (by exact zend) ?_) | (refine wpList_loadG 1 HM (by rfl) _ _ rfl _ rfl rfl _ uT.out rfl (by exact ztab) ?_) | (refine wpList_loadG 0 HM (by rfl) _ _ rfl _ rfl rfl _ uM.out rfl (by exact zmsg) ?_) | (go_at_call 12; clear mk2; refine (cFe.out _ HM.out.below).mono ?_; rintro r w3 ⟨rfl, hb_⟩; replace HM := Lib.hid (HM.out.keep hb_); replace hF := Lib.hid (hFs.keep hF.out hb_); clear hb_; dsimp only) | (go_at_call 13; clear mk3; refine (cFt.out _ HM.out.below).mono ?_; rintro r w3 ⟨rfl, hb_⟩; replace HM := Lib.hid (HM.out.keep hb_); replace hF := Lib.hid (hFs.keep hF.out hb_); clear hb_; dsimp only) | (go_at_call 14; clear mk4; refine (cFm.out _ HM.out.below).mono ?_; rintro r w3 ⟨rfl, hb_⟩; replace HM := Lib.hid (HM.out.keep hb_); replace hF := Lib.hid (hFs.keep hF.out hb_); clear hb_; dsimp only) | fail)
        try simp only [Exit.inBlock, Exit.then]
        go_ret
        exact ⟨by first | rfl | trivial, HM.out.below⟩
      cases B2
      case false =>
        go_wp2_with (first | go_skip | (refine wpList_loadG 2 HM (by rfl) _ _ rfl _ rfl rfl _ uE.out rfl (by exact zend) ?_) | (refine wpList_loadG 1 HM (by rfl) _ _ rfl _ rfl rfl _ uT.out rfl (by exact ztab) ?_) | (refine wpList_loadG 0 HM (by rfl) _ _ rfl _ rfl rfl _ uM.out rfl (by exact zmsg) ?_) | (go_at_call 12; clear mk2; refine (cFe.out _ HM.out.below).mono ?_; rintro r w3 ⟨rfl, hb_⟩; replace HM := Lib.hid (HM.out.keep hb_); replace hF := Lib.hid (hFs.keep hF.out hb_); clear hb_; dsimp only) | (go_at_call 13; clear mk3; refine (cFt.out _ HM.out.below).mono ?_; rintro r w3 ⟨rfl, hb_⟩; replace HM := Lib.hid (HM.out.keep hb_); replace hF := Lib.hid (hFs.keep hF.out hb_); clear hb_; dsimp only) | (go_at_call 14; clear mk4; refine (cFm.out _ HM.out.below).mono ?_; rintro r w3 ⟨rfl, hb_⟩; replace HM := Lib.hid (HM.out.keep hb_); replace hF := Lib.hid (hFs.keep hF.out hb_); clear hb_; dsimp only) | fail)
        try simp only [Exit.inBlock, Exit.then]
        go_ret
        exact ⟨by first | rfl | trivial, HM.out.below⟩
      by_cases hnf : (600 : Int) < (nf : Int)
      case pos =>
        have hnf2 : 600 < nf := by omega
        go_wp2_with (first | go_skip | (refine wpList_loadG 2 HM (by rfl) _ _ rfl _ rfl rfl _ uE.out rfl (by exact zend) ?_) | (refine wpList_loadG 1 HM (by rfl) _ _ rfl _ rfl rfl _ uT.out rfl (by exact ztab) ?_) | (refine wpList_loadG 0 HM (by rfl) _ _ rfl _ rfl rfl _ uM.out rfl (by exact zmsg) ?_) | (go_at_call 12; clear mk2; refine (cFe.out _ HM.out.below).mono ?_; rintro r w3 ⟨rfl, hb_⟩; replace HM := Lib.hid (HM.out.keep hb_); replace hF := Lib.hid (hFs.keep hF.out hb_); clear hb_; dsimp only) | (go_at_call 13; clear mk3; refine (cFt.out _ HM.out.below).mono ?_; rintro r w3 ⟨rfl, hb_⟩; replace HM := Lib.hid (HM.out.keep hb_); replace hF := Lib.hid (hFs.keep hF.out hb_); clear hb_; dsimp only) | (go_at_call 14; clear mk4; refine (cFm.out _ HM.out.below).mono ?_; rintro r w3 ⟨rfl, hb_⟩; replace HM := Lib.hid (HM.out.keep hb_); replace hF := Lib.hid (hFs.keep hF.out hb_); clear hb_; dsimp only) | fail)
        try simp only [Exit.inBlock, Exit.then]
        go_ret
        exact ⟨by first | rfl | trivial, HM.out.below⟩
      have hnf2 : ¬ 600 < nf := by omega
      have hnf3 : nf ≤ 600 := by omega
      have hnf4 : (nf : Int) ≤ 600 := by omega
      have hnf5 : decide ((600 : Int) < (nf : Int)) = false := decide_eq_false hnf
      cases B3
      case false =>
        go_wp2_with (first | go_skip | (refine wpList_loadG 2 HM (by rfl) _ _ rfl _ rfl rfl _ uE.out rfl (by exact zend) ?_) | (refine wpList_loadG 1 HM (by rfl) _ _ rfl _ rfl rfl _ uT.out rfl (by exact ztab) ?_) | (refine wpList_loadG 0 HM (by rfl) _ _ rfl _ rfl rfl _ uM.out rfl (by exact zmsg) ?_) | (go_at_call 12; clear mk2; refine (cFe.out _ HM.out.below).mono ?_; rintro r w3 ⟨rfl, hb_⟩; replace HM := Lib.hid (HM.out.keep hb_); replace hF := Lib.hid (hFs.keep hF.out hb_); clear hb_; dsimp only) | (go_at_call 13; clear mk3; refine (cFt.out _ HM.out.below).mono ?_; rintro r w3 ⟨rfl, hb_⟩; replace HM := Lib.hid (HM.out.keep hb_); replace hF := Lib.hid (hFs.keep hF.out hb_); clear hb_; dsimp only) | (go_at_call 14; clear mk4; refine (cFm.out _ HM.out.below).mono ?_; rintro r w3 ⟨rfl, hb_⟩; replace HM := Lib.hid (HM.out.keep hb_); replace hF := Lib.hid (hFs.keep hF.out hb_); clear hb_; dsimp only) | fail)
        try simp only [Exit.inBlock, Exit.then]
        go_ret
        exact ⟨by first | rfl | trivial, HM.out.below⟩
      have mk5 : Unit := ()
      have mk6 : Unit := ()
      have mk7 : Unit := ()
      go_upto_region 16 with (first | go_skip | (refine wpList_loadG 2 HM (by rfl) _ _ rfl _ rfl rfl _ uE.out rfl (by exact zend) ?_) | (refine wpList_loadG 1 HM (by rfl) _ _ rfl _ rfl rfl _ uT.out rfl (by exact ztab) ?_) | (refine wpList_loadG 0 HM (by rfl) _ _ rfl _ rfl rfl _ uM.out rfl (by exact zmsg) ?_) | (go_at_call 12; clear mk2; refine (cFe.out _ HM.out.below).mono ?_; rintro r w3 ⟨rfl, hb_⟩; replace HM := Lib.hid (HM.out.keep hb_); replace hF := Lib.hid (hFs.keep hF.out hb_); clear hb_; dsimp only) | (go_at_call 13; clear mk3; refine (cFt.out _ HM.out.below).mono ?_; rintro r w3 ⟨rfl, hb_⟩; replace HM := Lib.hid (HM.out.keep hb_); replace hF := Lib.hid (hFs.keep hF.out hb_); clear hb_; dsimp only) | (go_at_call 14; clear mk4; refine (cFm.out _ HM.out.below).mono ?_; rintro r w3 ⟨rfl, hb_⟩; replace HM := Lib.hid (HM.out.keep hb_); replace hF := Lib.hid (hFs.keep hF.out hb_); clear hb_; dsimp only) | (go_at_call 15; clear mk5; refine (cR1.out _ HM.out.below).mono ?_; rintro r w3 ⟨v1, vm1, rfl, hE, hM, hb_⟩; replace HM := Lib.hid (HM.out.keep hb_); replace hF := Lib.hid (hFs.keep hF.out hb_); clear hb_; obtain ⟨F1, hFs2, hF2, hU, hNw⟩ := stb_add hFs hF (Stb.ed v1 _) hE; clear hFs hF; have gX := Lib.hid hNw; clear hNw hU; have hFs := hFs2; have hF := hF2; clear hFs2 hF2 hE; obtain ⟨F2, hFs2, hF2, hU, hNw⟩ := stb_add hFs hF (Stb.sub vm1 _) hM; clear hFs hF; replace gX := Lib.hid (fun W h => gX.out W (hU W h)); have gR := Lib.hid hNw; clear hNw hU; have hFs := hFs2; have hF := hF2; clear hFs2 hF2 hM; dsimp only) | (clear mk6; refine wpList_allocN HM rfl 27 rfl edInfo ?_; clear HM; intro g11 w1 HM hG hN9; replace hF := Lib.hid (hFs.keep hF.out hG.out); clear hG hN9) | (clear mk7; refine wpList_allocN HM rfl 25 rfl msgInfo ?_; clear HM; intro g12 w1 HM hG hN9; replace hF := Lib.hid (hFs.keep hF.out hG.out); clear hG hN9) | (refine wpList_storeF 1 HM rfl _ _ _ rfl _ rfl rfl _ rfl (by exact zend) (by rfl) (by rfl) ?_; have hBq := HM.out.at_ 1 rfl; clear HM; intro w4 HM hG4; simp only [List.set] at HM; replace hF := Lib.hid (hFs.put hF.out hBq (by decide) (by decide) hG4.out); clear hBq hG4) | (refine wpList_storeF 0 HM rfl _ _ _ rfl _ rfl rfl _ rfl (by exact zmsg) (by rfl) (by rfl) ?_; have hBq := HM.out.at_ 0 rfl; clear HM; intro w4 HM hG4; simp only [List.set] at HM; replace hF := Lib.hid (hFs.put hF.out hBq (by decide) (by decide) hG4.out); clear hBq hG4) | fail)
      clear cR1 cFe cFt cFm cAw
      generalize hCe : recvC ⟨en, ep, eu, cl, eo, es, ea, ek, el, er⟩ t m = C at *
      replace hCe := Lib.hid hCe
      by_cases h0 : C = 0
      case neg =>
        have d1 : (C != 0) = true := by rw [bne_iff_ne]; exact h0
        go_wp2_with fail
        try simp only [Exit.inBlock, Exit.then]
        go_ret
        exact ⟨by first | rfl | trivial, HM.out.below⟩
      subst h0
      obtain ⟨hFo, hKo, hro⟩ := hRd.out rfl
      have hrd := Lib.hid (recv_def (f := f) hFo hKo hro)
      have hr1 := Lib.hid (refN_eq hKo hro (c := 1) (by decide) (by decide))
      have hr2 := Lib.hid (refN_eq hKo hro (c := 2) (by decide) (by decide))
      have hr3 := Lib.hid (refN_eq hKo hro (c := 3) (by decide) (by decide))
      clear hFo hKo hro hRd
      generalize hXe : recv ⟨en, ep, eu, cl, eo, es, ea, ek, el, er⟩ t f m = X at *
      replace hXe := Lib.hid hXe
      obtain ⟨x, r⟩ := X
      dsimp only at *
      have k7 := HM.out.cell 2 rfl 0
      change _ = some (Value.int .i64 m.kind) at k7
      have hlc := Lib.hid (gX.out _ hF.out).lc
      by_cases h6 : m.kind = 6
      case pos =>
        have d6 : (m.kind == 6) = true := by rw [beq_iff_eq]; exact h6
        have e1 := hrd.out
        rw [if_pos h6] at e1
        injection e1 with e1 e2
        have q1 : x.number = 0 := by rw [e1]; rfl
        have q2 : v1.cn = 0 := by rw [← hlc.out, e1]; rfl
        have q3 : x.opn = false := by rw [e1]; rfl
        have q4 : r.code = 0 := by rw [e2]; exact accN_code _ _ _ _
        have kx := HM.out.cell 1 rfl
        have kr := HM.out.cell 0 rfl 3
        have kx2 := kx 2
        have kx3 := kx 3
        have kx4 := kx 4
        change _ = some (Value.int .i64 x.number) at kx2
        change _ = some (Value.slice v1.cA v1.cn v1.cc) at kx3
        change _ = some (Value.bool x.opn) at kx4
        change _ = some (Value.int .i64 r.code) at kr
        rw [q1] at kx2
        rw [q2] at kx3
        rw [q3] at kx4
        rw [q4] at kr
        clear e1 e2 q1 q2 q3 q4 kx
        go_wp2_with fail
        try simp only [Exit.inBlock, Exit.then]
        go_ret
        exact ⟨by first | rfl | trivial, HM.out.below⟩
      have d6 : (m.kind == 6) = false := by rw [beq_eq_false_iff_ne]; exact h6
      rw [if_neg h6] at hrd
      go_upto_region 20 with fail
      clear k7
      have k47 := HM.out.cell 4 rfl 13
      change _ = some (Value.bool ek) at k47
      have cM1 := Lib.hid (fun W (hb : Below w.heap.size w W) => cM.out el m v.l vm W (h.out.last.keep hb) (hm.out.keep hb))
      cases ek
      case' true =>
        by_cases hem : el = m
        case pos =>
          rw [decide_eq_true hem] at cM1
          have e1 := hrd.out
          rw [if_pos ⟨rfl, hem.symm⟩] at e1
          injection e1 with e1 e2
          have cE1 := Lib.hid (fun W (hb : Below w.heap.size w W) (hx : EdIs W v1 x) => cE.out x _ v1 v W hx (h.out.keep hb))
          rw [decide_eq_true e1] at cE1
          have cM2 := Lib.hid (fun W (hb : Below w.heap.size w W) (hx : MsgIs W vm1 r) => cM.out r er vm1 v.r W hx (h.out.reply.keep hb))
          rw [decide_eq_true e2] at cM2
          have mk8 : Unit := ()
          have mk9 : Unit := ()
          have mk10 : Unit := ()
          try replace e1 := Lib.hid e1
          try replace e2 := Lib.hid e2
          try replace hem := Lib.hid hem
          go_wp2_with (first | go_skip | (refine wpList_loadP 4 HM (by rfl) _ _ rfl _ 14 rfl rfl (#[.int .i64 el.kind, .bool el.reply, .int .i64 el.number, .int .i64 el.code, .int .i64 el.count, .slice v.l.sA v.l.sn v.l.sc, .slice v.l.oA v.l.on v.l.oc]) (by kernel_rfl) _ uM.out rfl (by exact zmsg) ?_) | (refine wpList_loadP 4 HM (by rfl) _ _ rfl _ 21 rfl rfl (#[.int .i64 er.kind, .bool er.reply, .int .i64 er.number, .int .i64 er.code, .int .i64 er.count, .slice v.r.sA v.r.sn v.r.sc, .slice v.r.oA v.r.on v.r.oc]) (by kernel_rfl) _ uM.out rfl (by exact zmsg) ?_) | (refine wpList_loadG 2 HM (by rfl) _ _ rfl _ rfl rfl _ uM.out rfl (by exact zmsg) ?_) | (refine wpList_loadG 1 HM (by rfl) _ _ rfl _ rfl rfl _ uE.out rfl (by exact zend) ?_) | (refine wpList_loadG 4 HM (by rfl) _ _ rfl _ rfl rfl _ uE.out rfl (by exact zend) ?_) | (refine wpList_loadG 0 HM (by rfl) _ _ rfl _ rfl rfl _ uM.out rfl (by exact zmsg) ?_) | (go_at_call 18; clear mk8; refine (cM1.out _ HM.out.below).mono ?_; rintro r w3 ⟨rfl, hb_⟩; clear k47; replace HM := Lib.hid (HM.out.keep hb_); replace hF := Lib.hid (hFs.keep hF.out hb_); clear hb_; dsimp only) | (go_at_call 17; clear mk9; refine (cE1.out _ HM.out.below (gX.out _ hF.out).is).mono ?_; rintro r w3 ⟨rfl, hb_⟩; replace HM := Lib.hid (HM.out.keep hb_); replace hF := Lib.hid (hFs.keep hF.out hb_); clear hb_; dsimp only) | (go_at_call 18; clear mk10; refine (cM2.out _ HM.out.below (gR.out _ hF.out).is).mono ?_; rintro r w3 ⟨rfl, hb_⟩; replace HM := Lib.hid (HM.out.keep hb_); replace hF := Lib.hid (hFs.keep hF.out hb_); clear hb_; dsimp only) | fail)
          try simp only [Exit.inBlock, Exit.then]
          go_ret
          exact ⟨by first | rfl | trivial, HM.out.below⟩
        rw [decide_eq_false hem] at cM1
        rw [if_neg (fun hh => hem hh.2.symm)] at hrd
      case' false =>
        rw [if_neg (fun hh => Bool.noConfusion hh.1)] at hrd
      all_goals
        have mk8 : Unit := ()
        go_upto_region 22 with (first | go_skip | (refine wpList_loadP 4 HM (by rfl) _ _ rfl _ 14 rfl rfl (#[.int .i64 el.kind, .bool el.reply, .int .i64 el.number, .int .i64 el.code, .int .i64 el.count, .slice v.l.sA v.l.sn v.l.sc, .slice v.l.oA v.l.on v.l.oc]) (by kernel_rfl) _ uM.out rfl (by exact zmsg) ?_) | (refine wpList_loadG 2 HM (by rfl) _ _ rfl _ rfl rfl _ uM.out rfl (by exact zmsg) ?_) | (go_at_call 18; clear mk8; refine (cM1.out _ HM.out.below).mono ?_; rintro r w3 ⟨rfl, hb_⟩; clear k47; replace HM := Lib.hid (HM.out.keep hb_); replace hF := Lib.hid (hFs.keep hF.out hb_); clear hb_; dsimp only) | fail)
        try clear k47
        have k44 := HM.out.cell 4 rfl 4
        change _ = some (Value.bool eo) at k44
        have k42 := HM.out.cell 4 rfl 2
        change _ = some (Value.int .i64 eu) at k42
        have k72 := HM.out.cell 2 rfl 2
        change _ = some (Value.int .i64 m.number) at k72
        have kr := HM.out.cell 0 rfl 3
        change _ = some (Value.int .i64 r.code) at kr
        cases eo
        case true =>
          have e1 := hrd.out
          rw [if_pos rfl, hr3.out] at e1
          injection e1 with e1 e2
          have q4 : r.code = 3 := by rw [e2]
          rw [q4] at kr
          have cE1 := Lib.hid (fun W (hb : Below w.heap.size w W) (hx : EdIs W v1 x) => cE.out x _ v1 v W hx (h.out.keep hb))
          rw [decide_eq_true e1] at cE1
          have mk9 : Unit := ()
          try replace e1 := Lib.hid e1
          try replace e2 := Lib.hid e2
          try replace hem := Lib.hid hem
          go_wp2_with (first | go_skip | (refine wpList_loadG 1 HM (by rfl) _ _ rfl _ rfl rfl _ uE.out rfl (by exact zend) ?_) | (refine wpList_loadG 4 HM (by rfl) _ _ rfl _ rfl rfl _ uE.out rfl (by exact zend) ?_) | (go_at_call 17; clear mk9; refine (cE1.out _ HM.out.below (gX.out _ hF.out).is).mono ?_; rintro r w3 ⟨rfl, hb_⟩; clear k44 k42 k72 kr; replace HM := Lib.hid (HM.out.keep hb_); replace hF := Lib.hid (hFs.keep hF.out hb_); clear hb_; dsimp only; have kr := HM.out.cell 0 rfl 3; change _ = some (Value.int .i64 r.code) at kr; rw [q4] at kr; have k44 := HM.out.cell 4 rfl 4; change _ = some (Value.bool true) at k44) | fail)
          try simp only [Exit.inBlock, Exit.then]
          go_ret
          exact ⟨by first | rfl | trivial, HM.out.below⟩
        rw [if_neg (by decide)] at hrd
        by_cases hnu : m.number = eu
        case neg =>
          have e1 := hrd.out
          rw [if_pos hnu, hr1.out] at e1
          injection e1 with e1 e2
          have q4 : r.code = 1 := by rw [e2]
          rw [q4] at kr
          have cE1 := Lib.hid (fun W (hb : Below w.heap.size w W) (hx : EdIs W v1 x) => cE.out x _ v1 v W hx (h.out.keep hb))
          rw [decide_eq_true e1] at cE1
          have dn : (m.number != eu) = true := by rw [bne_iff_ne]; exact hnu
          have mk9 : Unit := ()
          try replace e1 := Lib.hid e1
          try replace e2 := Lib.hid e2
          try replace hem := Lib.hid hem
          go_wp2_with (first | go_skip | (refine wpList_loadG 1 HM (by rfl) _ _ rfl _ rfl rfl _ uE.out rfl (by exact zend) ?_) | (refine wpList_loadG 4 HM (by rfl) _ _ rfl _ rfl rfl _ uE.out rfl (by exact zend) ?_) | (go_at_call 17; clear mk9; refine (cE1.out _ HM.out.below (gX.out _ hF.out).is).mono ?_; rintro r w3 ⟨rfl, hb_⟩; clear k44 k42 k72 kr; replace HM := Lib.hid (HM.out.keep hb_); replace hF := Lib.hid (hFs.keep hF.out hb_); clear hb_; dsimp only; have kr := HM.out.cell 0 rfl 3; change _ = some (Value.int .i64 r.code) at kr; rw [q4] at kr; have k44 := HM.out.cell 4 rfl 4; change _ = some (Value.bool false) at k44) | fail)
          try simp only [Exit.inBlock, Exit.then]
          go_ret
          exact ⟨by first | rfl | trivial, HM.out.below⟩
        have dn : (m.number != eu) = false := by rw [bne_eq_false_iff_eq]; exact hnu
        rw [if_neg (fun hh => hh hnu)] at hrd
        generalize wantN ⟨en, ep, eu, cl, _, es, ea, _, el, er⟩ t f m = WN at *
        rcases WN with _ | ⟨n, s, o⟩
        case none =>
          have e1 := hrd.out
          dsimp only at e1
          rw [hr2.out] at e1
          injection e1 with e1 e2
          have q4 : r.code = 2 := by rw [e2]
          rw [q4] at kr
          try replace e1 := Lib.hid e1
          try replace e2 := Lib.hid e2
          go_upto_region 24 with fail
          have kr1 := cell_regrown kr
          refine wp_region_quiet_below (by kernel_rfl) (by kernel_rfl) ?_
          repeat (go_big_quiet_step (fail))
          refine wpQuiet_nil ?_
          rintro _ ⟨⟨dq, osq⟩, rfl⟩
          have HM3 := Lib.hid (HM.out.keep (below_regrown _ dq osq))
          go_wp2_with fail
          go_ret
          exact ⟨by first | rfl | trivial, HM3.out.below⟩
        case some =>
          have e1 := hrd.out
          dsimp only at e1
          injection e1 with e1 e2
          have q4 : r.code = 0 := by rw [e2]; exact accN_code _ _ _ _
          have q1 : x.number = nextN eu := by rw [e1]; rfl
          have q2 : x.known = true := by rw [e1]; rfl
          rw [q4] at kr
          have kx := HM.out.cell 1 rfl
          have kx2 := kx 2
          have kx7 := kx 13
          change _ = some (Value.int .i64 x.number) at kx2
          change _ = some (Value.bool x.known) at kx7
          rw [q1] at kx2
          rw [q2] at kx7
          have ke2 := k42
          try replace e1 := Lib.hid e1
          try replace e2 := Lib.hid e2
          go_upto_region 24 with fail
          have cNu := regN HM (cN.out eu)
          replace cNu := Lib.hid cNu
          have g1 := cell_regrown kr
          have g2 := cell_regrown kx2
          have g3 := cell_regrown kx7
          have g4' := cell_regrown ke2
          refine wp_region_quiet_below (by kernel_rfl) (by kernel_rfl) ?_
          repeat (go_big_quiet_step (exact cNu.out _ _))
          refine wpQuiet_nil ?_
          rintro _ ⟨⟨dq, osq⟩, rfl⟩
          have HM3 := Lib.hid (HM.out.keep (below_regrown _ dq osq))
          go_wp2_with fail
          go_ret
          exact ⟨by first | rfl | trivial | simp, HM3.out.below⟩
end Tx
end Go.Proofs.YtkfipbelhlcddaaGreat
