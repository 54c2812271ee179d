/- Chapter 27: the law Numbers. -/
import Derived.Test.YtfoffooblkofhaaGreatLpF
import Derived.Test.YtfoffooblkofhaaGreatEs
import Derived.Test.YtfoffooblkofhaaGreatCq
import Derived.Test.YtfoffooblkofhaaGreatBk
import Derived.Test.YtfoffooblkofhaaGreatDz
set_option linter.unusedVariables false
set_option linter.unusedSimpArgs false
namespace Go.Proofs.YtfoffooblkofhaaGreat
open Go Go.RowKit Go.Sort Go.Shelf Go.Maps
namespace Tx
open Sw Mm Pl
theorem few_small2 {t : Tab} (h : fewT t = true) (hT : TabOk t) : Small2 t := by
  unfold fewT fewC at h
  simp only [Bool.and_eq_true, Bool.or_eq_true, decide_eq_true_eq] at h
  have h1 := hT.size
  have h2 := hT.len
  exact ⟨by omega, by omega⟩
structure NumLaw (ta tb : Tab) (f : List Int) (l : List Wsh) (X Y : Ed) (bs : List Bool) : Prop where
  small : idleC (startE ta.node tb.node) (startE tb.node ta.node) ta tb = 0 → Small2 ta ∧ Small2 tb
  play : playC (startE ta.node tb.node) (startE tb.node ta.node) ta tb l = 0
  ends : playE (startE ta.node tb.node) (startE tb.node ta.node) ta tb f l = (X, Y)
  bools : playB (startE ta.node tb.node) (startE tb.node ta.node) ta tb f l = bs
  len : bs.length = l.length
  last : 0 < l.length → bs.getD (l.length - 1) default = decide (X.number = Y.number)
  cons : consB X Y = decide (X.number = Y.number)
  det : detB X Y = !decide (X.number = Y.number)
  opp : X.number = Y.number → oppN X.cells Y.cells = true
theorem bools_last (ta tb : Tab) (f : List Int) (l : List Wsh) (a b : Ed) (h : 0 < l.length) : (boolsN ta tb f l a b).getD (l.length - 1) default = consB (wishesN ta tb f l a b).1 (wishesN ta tb f l a b).2 := by
  obtain ⟨l', x, rfl⟩ : ∃ l' x, l = l' ++ [x] := ⟨l.dropLast, l.getLast (by intro e; rw [e] at h; simp at h), (List.dropLast_concat_getLast _).symm⟩
  rw [bools_snoc, List.getD_eq_getElem?_getD, List.getElem?_append_right (by rw [bools_len]; simp)]
  simp [bools_len]
theorem num_law {ta tb : Tab} {f : List Int} {l : List Wsh} (hF : freshB ta tb = true) (h1 : fewT ta = true) (h2 : fewT tb = true) (hl : l.length ≤ 30) : ∃ X Y bs, NumLaw ta tb f l X Y bs := by
  unfold freshB at hF
  simp only [Bool.and_eq_true, decide_eq_true_eq] at hF
  have hi := idleB_iff.1 hF.2.2
  have hI : Idle (startE ta.node tb.node) (startE tb.node ta.node) ta tb := ⟨hi.1, hi.2.1, hi.2.2.1, hi.2.2.2.1, hi.2.2.2.2, rfl, rfl⟩
  have sa := few_small2 h1 hI.fa.tab
  have sb := few_small2 h2 hI.fb.tab
  obtain ⟨k1, k2⟩ := wishes_keep (f := f) sa sb l hI
  have k3 := k2 (inv_start _ _ _ _)
  have hC : playC (startE ta.node tb.node) (startE tb.node ta.node) ta tb l = 0 := by
    unfold playC
    rw [if_neg (by rw [idleC_iff.2 hI]; simp), if_neg (by omega)]
  have hE : playE (startE ta.node tb.node) (startE tb.node ta.node) ta tb f l = wishesN ta tb f l (startE ta.node tb.node) (startE tb.node ta.node) := by unfold playE; rw [if_pos hC]
  have hB : playB (startE ta.node tb.node) (startE tb.node ta.node) ta tb f l = boolsN ta tb f l (startE ta.node tb.node) (startE tb.node ta.node) := by unfold playB; rw [if_pos hC]
  exact ⟨(wishesN ta tb f l (startE ta.node tb.node) (startE tb.node ta.node)).1, (wishesN ta tb f l (startE ta.node tb.node) (startE tb.node ta.node)).2, _, ⟨fun _ => ⟨sa, sb⟩, hC, hE, hB, bools_len _ _ _ _ _ _, fun h => (bools_last ta tb f l _ _ h).trans (inv_cons k3 k1), inv_cons k3 k1, inv_det k1, k3.same⟩⟩
set_option maxRecDepth 100000 in
set_option maxHeartbeats 16000000 in
theorem lawNumbers_any (ta tb : Tab) (f : List Int) (l : List Wsh) (vta vtb : TabV) (A Al : Option Addr) (nf cf n cl : Nat) (w : World) (t1 : TabIs w vta ta) (t2 : TabIs w vtb tb) (hf : IntS w A nf f) (hl : WshS w Al n l) : Calls Tryz.prog 10 #[.agg (tabA ta vta), .agg (tabA tb vtb), .slice A nf cf, .slice Al n cl] w fun r w' => r = .returned (.bool true) ∧ Below w.heap.size w w' := by
  have HM := Lib.hid (Mem.start w)
  obtain ⟨F0, hFs, hF⟩ : ∃ F : World → Prop, Stb F ∧ Hid (F w) := ⟨_, Stb.true, trivial⟩
  have uE := Tryz.underlying27
  have uT := Tryz.underlying29
  have uM := Tryz.underlying25
  have hlen := hl.len
  have hsm := hl.small
  unfold maxLen at hsm
  have cAw := fun W => awake27_any W
  have cFr := fun W (hb : Below w.heap.size w W) => fresh_any ta tb vta vtb W (t1.keep hb) (t2.keep hb)
  unfold FrPost at cFr
  have cFa := fun W (hb : Below w.heap.size w W) => fewT_any ta vta W (t1.keep hb)
  have cFb := fun W (hb : Below w.heap.size w W) => fewT_any tb vtb W (t2.keep hb)
  have hL : freshB ta tb = true → fewT ta = true → fewT tb = true → l.length ≤ 30 → ∃ X Y bs, NumLaw ta tb f l X Y bs := fun q1 q2 q3 q4 => num_law q1 q2 q3 q4
  rw [hlen] at hL
  generalize freshB ta tb = FR at *
  generalize fewT ta = FT1 at *
  generalize fewT tb = FT2 at *
  replace cAw := Lib.hid cAw
  replace cFr := Lib.hid cFr
  replace cFa := Lib.hid cFa
  replace cFb := Lib.hid cFb
  replace hL := Lib.hid hL
  replace hl := Lib.hid hl
  replace hlen := Lib.hid hlen
  replace hf := Lib.hid hf
  replace t1 := Lib.hid t1
  replace t2 := Lib.hid t2
  replace uE := Lib.hid uE
  replace uT := Lib.hid uT
  replace uM := Lib.hid uM
  go_enter Tryz.func10, Tryz.ntmps10
  have mk1 : Unit := ()
  have mk2 : Unit := ()
  go_upto_region 1 with (first | go_skip | (clear mk1; refine wpList_boxA HM rfl 29 _ rfl _ rfl ?_; clear HM; intro gta w1 HM hG; replace hF := Lib.hid (hFs.keep hF.out hG.out); clear hG) | (clear mk2; refine wpList_boxA HM rfl 29 _ rfl _ rfl ?_; clear HM; intro gtb w1 HM hG; replace hF := Lib.hid (hFs.keep hF.out hG.out); clear hG) | fail)
  have mk3 : Unit := ()
  go_upto_region 3 with (first | go_skip | (go_at_call 19; clear mk3; refine (cAw.out _).mono ?_; rintro r w3 ⟨rfl, hb_⟩; replace HM := Lib.hid (HM.out.keep hb_); replace hF := Lib.hid (hFs.keep hF.out hb_); clear hb_; dsimp only) | fail)
  have mk4 : Unit := ()
  have mk5 : Unit := ()
  have mk6 : Unit := ()
  go_upto_region 4 with (first | go_skip | (refine wpList_loadG 1 HM (by rfl) _ _ rfl _ rfl rfl _ uT.out rfl (by exact ztab) ?_) | (refine wpList_loadG 0 HM (by rfl) _ _ rfl _ rfl rfl _ uT.out rfl (by exact ztab) ?_) | (go_at_call 31; clear mk4; refine (cFr.out _ HM.out.below).mono ?_; rintro r w3 ⟨v1, v2, E1, E2, rfl, hEq, hE, hE2, hb_⟩; replace hEq := Lib.hid hEq; replace HM := Lib.hid (HM.out.keep hb_); replace hF := Lib.hid (hFs.keep hF.out hb_); clear hb_; obtain ⟨F1, hFs2, hF2, hU, hNw⟩ := stb_add hFs hF (Stb.ed v1 _) hE; clear hFs hF; have gA := Lib.hid hNw; clear hNw hU; have hFs := hFs2; have hF := hF2; clear hFs2 hF2 hE; obtain ⟨F2, hFs2, hF2, hU, hNw⟩ := stb_add hFs hF (Stb.ed v2 _) hE2; clear hFs hF; replace gA := Lib.hid (fun W h => gA.out W (hU W h)); have gB := Lib.hid hNw; clear hNw hU; have hFs := hFs2; have hF := hF2; clear hFs2 hF2 hE2; dsimp only) | (clear mk5; refine wpList_allocN HM rfl 27 rfl edInfo ?_; clear HM; intro g9 w1 HM hG hN9; replace hF := Lib.hid (hFs.keep hF.out hG.out); clear hG hN9) | (clear mk6; refine wpList_allocN HM rfl 27 rfl edInfo ?_; clear HM; intro g10 w1 HM hG hN9; replace hF := Lib.hid (hFs.keep hF.out hG.out); clear hG hN9) | (refine wpList_storeF 1 HM rfl _ _ _ rfl _ rfl rfl _ rfl (by exact zend) (by rfl) (by rfl) ?_; have hBq := HM.out.at_ 1 rfl; clear HM; intro w4 HM hG4; simp only [List.set] at HM; replace hF := Lib.hid (hFs.put hF.out hBq (by decide) (by decide) hG4.out); clear hBq hG4) | (refine wpList_storeF 0 HM rfl _ _ _ rfl _ rfl rfl _ rfl (by exact zend) (by rfl) (by rfl) ?_; have hBq := HM.out.at_ 0 rfl; clear HM; intro w4 HM hG4; simp only [List.set] at HM; replace hF := Lib.hid (hFs.put hF.out hBq (by decide) (by decide) hG4.out); clear hBq hG4) | fail)
  have mk7 : Unit := ()
  have mk8 : Unit := ()
  cases FT1
  case false =>
    go_wp2_with (first | go_skip | (refine wpList_loadG 3 HM (by rfl) _ _ rfl _ rfl rfl _ uT.out rfl (by exact ztab) ?_) | (refine wpList_loadG 2 HM (by rfl) _ _ rfl _ rfl rfl _ uT.out rfl (by exact ztab) ?_) | (go_at_call 13; clear mk7; refine (cFa.out _ HM.out.below).mono ?_; rintro r w3 ⟨rfl, hb_⟩; replace HM := Lib.hid (HM.out.keep hb_); replace hF := Lib.hid (hFs.keep hF.out hb_); clear hb_; dsimp only) | (go_at_call 13; clear mk8; refine (cFb.out _ HM.out.below).mono ?_; rintro r w3 ⟨rfl, hb_⟩; replace HM := Lib.hid (HM.out.keep hb_); replace hF := Lib.hid (hFs.keep hF.out hb_); clear hb_; dsimp only) | fail)
    try simp only [Exit.inBlock, Exit.then]
    go_ret
    exact ⟨by first | rfl | trivial, HM.out.below⟩
  cases FT2
  case false =>
    go_wp2_with (first | go_skip | (refine wpList_loadG 3 HM (by rfl) _ _ rfl _ rfl rfl _ uT.out rfl (by exact ztab) ?_) | (refine wpList_loadG 2 HM (by rfl) _ _ rfl _ rfl rfl _ uT.out rfl (by exact ztab) ?_) | (go_at_call 13; clear mk7; refine (cFa.out _ HM.out.below).mono ?_; rintro r w3 ⟨rfl, hb_⟩; replace HM := Lib.hid (HM.out.keep hb_); replace hF := Lib.hid (hFs.keep hF.out hb_); clear hb_; dsimp only) | (go_at_call 13; clear mk8; refine (cFb.out _ HM.out.below).mono ?_; rintro r w3 ⟨rfl, hb_⟩; replace HM := Lib.hid (HM.out.keep hb_); replace hF := Lib.hid (hFs.keep hF.out hb_); clear hb_; dsimp only) | fail)
    try simp only [Exit.inBlock, Exit.then]
    go_ret
    exact ⟨by first | rfl | trivial, HM.out.below⟩
  by_cases hnf : (64 : Int) < (nf : Int)
  case pos =>
    have hnf2 : 64 < nf := by omega
    have hnf5 : decide ((64 : Int) < (nf : Int)) = true := decide_eq_true hnf
    go_wp2_with (first | go_skip | (refine wpList_loadG 3 HM (by rfl) _ _ rfl _ rfl rfl _ uT.out rfl (by exact ztab) ?_) | (refine wpList_loadG 2 HM (by rfl) _ _ rfl _ rfl rfl _ uT.out rfl (by exact ztab) ?_) | (go_at_call 13; clear mk7; refine (cFa.out _ HM.out.below).mono ?_; rintro r w3 ⟨rfl, hb_⟩; replace HM := Lib.hid (HM.out.keep hb_); replace hF := Lib.hid (hFs.keep hF.out hb_); clear hb_; dsimp only) | (go_at_call 13; clear mk8; refine (cFb.out _ HM.out.below).mono ?_; rintro r w3 ⟨rfl, hb_⟩; replace HM := Lib.hid (HM.out.keep hb_); replace hF := Lib.hid (hFs.keep hF.out hb_); clear hb_; dsimp only) | fail)
    try simp only [Exit.inBlock, Exit.then]
    go_ret
    exact ⟨by first | rfl | trivial, HM.out.below⟩
  have hnf2 : ¬ 64 < nf := by omega
  have hnf5 : decide ((64 : Int) < (nf : Int)) = false := decide_eq_false hnf
  by_cases hnl : (30 : Int) < (n : Int)
  case pos =>
    have hnl2 : 30 < n := by omega
    have hnl5 : decide ((30 : Int) < (n : Int)) = true := decide_eq_true hnl
    go_wp2_with (first | go_skip | (refine wpList_loadG 3 HM (by rfl) _ _ rfl _ rfl rfl _ uT.out rfl (by exact ztab) ?_) | (refine wpList_loadG 2 HM (by rfl) _ _ rfl _ rfl rfl _ uT.out rfl (by exact ztab) ?_) | (go_at_call 13; clear mk7; refine (cFa.out _ HM.out.below).mono ?_; rintro r w3 ⟨rfl, hb_⟩; replace HM := Lib.hid (HM.out.keep hb_); replace hF := Lib.hid (hFs.keep hF.out hb_); clear hb_; dsimp only) | (go_at_call 13; clear mk8; refine (cFb.out _ HM.out.below).mono ?_; rintro r w3 ⟨rfl, hb_⟩; replace HM := Lib.hid (HM.out.keep hb_); replace hF := Lib.hid (hFs.keep hF.out hb_); clear hb_; dsimp only) | fail)
    try simp only [Exit.inBlock, Exit.then]
    go_ret
    exact ⟨by first | rfl | trivial, HM.out.below⟩
  have hnl2 : ¬ 30 < n := by omega
  have hnl5 : decide ((30 : Int) < (n : Int)) = false := decide_eq_false hnl
  cases FR
  case false =>
    go_wp2_with (first | go_skip | (refine wpList_loadG 3 HM (by rfl) _ _ rfl _ rfl rfl _ uT.out rfl (by exact ztab) ?_) | (refine wpList_loadG 2 HM (by rfl) _ _ rfl _ rfl rfl _ uT.out rfl (by exact ztab) ?_) | (go_at_call 13; clear mk7; refine (cFa.out _ HM.out.below).mono ?_; rintro r w3 ⟨rfl, hb_⟩; replace HM := Lib.hid (HM.out.keep hb_); replace hF := Lib.hid (hFs.keep hF.out hb_); clear hb_; dsimp only) | (go_at_call 13; clear mk8; refine (cFb.out _ HM.out.below).mono ?_; rintro r w3 ⟨rfl, hb_⟩; replace HM := Lib.hid (HM.out.keep hb_); replace hF := Lib.hid (hFs.keep hF.out hb_); clear hb_; dsimp only) | fail)
    try simp only [Exit.inBlock, Exit.then]
    go_ret
    exact ⟨by first | rfl | trivial, HM.out.below⟩
  obtain ⟨X, Y, bs, hN⟩ := hL.out rfl rfl rfl (by omega)
  obtain ⟨rfl, rfl⟩ := hEq.out rfl
  clear hL hEq
  go_upto_region 6 with (first | go_skip | (refine wpList_loadG 3 HM (by rfl) _ _ rfl _ rfl rfl _ uT.out rfl (by exact ztab) ?_) | (refine wpList_loadG 2 HM (by rfl) _ _ rfl _ rfl rfl _ uT.out rfl (by exact ztab) ?_) | (go_at_call 13; clear mk7; refine (cFa.out _ HM.out.below).mono ?_; rintro r w3 ⟨rfl, hb_⟩; replace HM := Lib.hid (HM.out.keep hb_); replace hF := Lib.hid (hFs.keep hF.out hb_); clear hb_; dsimp only) | (go_at_call 13; clear mk8; refine (cFb.out _ HM.out.below).mono ?_; rintro r w3 ⟨rfl, hb_⟩; replace HM := Lib.hid (HM.out.keep hb_); replace hF := Lib.hid (hFs.keep hF.out hb_); clear hb_; dsimp only) | fail)
  clear hnf hnf2 hnf5 hnl hnl5 cFa cFb cFr cAw
  have cP := fun W (hb : Below w.heap.size w W) (q1 : EdIs W v1 (startE ta.node tb.node)) (q2 : EdIs W v2 (startE tb.node ta.node)) => play_any _ _ ta tb f l v1 v2 vta vtb A Al nf cf n cl W q1 q2 (t1.out.keep hb) (t2.out.keep hb) (hf.out.keep hb) (hl.out.keep hb) hN.small
  rw [hN.play, hN.ends, hN.bools] at cP
  unfold PlPost at cP
  dsimp only at cP
  obtain ⟨_, _, _, _, hbl, hlast, hcons, hdet, hopp⟩ := hN
  rw [hlen.out] at hbl hlast
  replace cP := Lib.hid cP
  replace hbl := Lib.hid hbl
  replace hlast := Lib.hid hlast
  replace hcons := Lib.hid hcons
  replace hdet := Lib.hid hdet
  replace hopp := Lib.hid hopp
  have mk9 : Unit := ()
  have mk10 : Unit := ()
  have mk11 : Unit := ()
  go_upto_region 7 with (first | go_skip | (refine wpList_loadG 1 HM (by rfl) _ _ rfl _ rfl rfl _ uE.out rfl (by exact zend) ?_) | (refine wpList_loadG 0 HM (by rfl) _ _ rfl _ rfl rfl _ uE.out rfl (by exact zend) ?_) | (refine wpList_loadG 3 HM (by rfl) _ _ rfl _ rfl rfl _ uT.out rfl (by exact ztab) ?_) | (refine wpList_loadG 2 HM (by rfl) _ _ rfl _ rfl rfl _ uT.out rfl (by exact ztab) ?_) | (go_at_call 27; clear mk9; refine (cP.out _ HM.out.below (gA.out _ hF.out).is (gB.out _ hF.out).is).mono ?_; rintro r w3 ⟨v3, v4, A5, n5, c5, rfl, hX5, hY5, ⟨bO, HO⟩, hn5, hb_⟩; have HB := Lib.hid hb_; replace HM := Lib.hid (HM.out.keep hb_); replace HO := Lib.hid HO; obtain rfl : n5 = n := hn5.symm.trans hbl.out; replace hn5 := Lib.hid hn5; clear hF hFs gA gB; obtain ⟨F8, hFs, hF, gX, gY⟩ : ∃ F : World → Prop, Stb F ∧ Hid (F w3) ∧ Hid (∀ W, F W → EdX _ v3 X W) ∧ Hid (∀ W, F W → EdX _ v4 Y W) := ⟨_, (Stb.edX _ v3 X).and (Stb.edX _ v4 Y), ⟨hX5, hY5⟩, fun _ h => h.1, fun _ h => h.2⟩; clear hX5 hY5 hb_; dsimp only) | (clear mk10; refine wpList_allocN HM rfl 27 rfl edInfo ?_; clear HM; intro g12 w1 HM hG hN9; replace hF := Lib.hid (hFs.keep hF.out hG.out); replace HO := Lib.hid (owns_keep HO.out hG.out); have hf_g12 := Nat.le_trans HB.out.size hN9.out; replace HB := Lib.hid (bthen HB.out hG.out); clear hG hN9) | (clear mk11; refine wpList_allocN HM rfl 27 rfl edInfo ?_; clear HM; intro g13 w1 HM hG hN9; replace hF := Lib.hid (hFs.keep hF.out hG.out); replace HO := Lib.hid (owns_keep HO.out hG.out); have hf_g13 := Nat.le_trans HB.out.size hN9.out; replace HB := Lib.hid (bthen HB.out hG.out); clear hG hN9) | (refine wpList_storeF 1 HM rfl _ _ _ rfl _ rfl rfl _ rfl (by exact zend) (by rfl) (by rfl) ?_; have hBq := HM.out.at_ 1 rfl; clear HM; intro w4 HM hG4; simp only [List.set] at HM; replace hF := Lib.hid (hFs.put hF.out hBq (by decide) (by decide) hG4.out); replace HB := Lib.hid (HB.out.grown hG4.out HB.out.size (fun k e => by cases e; exact hf_g12)); replace HO := Lib.hid (HO.out.kept hG4.out (.inr (row_ne_blk HO.out hBq (by decide)))); clear hBq hG4) | (refine wpList_storeF 0 HM rfl _ _ _ rfl _ rfl rfl _ rfl (by exact zend) (by rfl) (by rfl) ?_; have hBq := HM.out.at_ 0 rfl; clear HM; intro w4 HM hG4; simp only [List.set] at HM; replace hF := Lib.hid (hFs.put hF.out hBq (by decide) (by decide) hG4.out); replace HB := Lib.hid (HB.out.grown hG4.out HB.out.size (fun k e => by cases e; exact hf_g13)); replace HO := Lib.hid (HO.out.kept hG4.out (.inr (row_ne_blk HO.out hBq (by decide)))); clear hBq hG4) | fail)
  go_upto_region 9 with fail
  have p2 : World.cell? _ ⟨g12, 2, none⟩ = some (.int .i64 X.number) := HM.out.cell 1 rfl 2
  have q2 : World.cell? _ ⟨g13, 2, none⟩ = some (.int .i64 Y.number) := HM.out.cell 0 rfl 2
  by_cases en : X.number = Y.number
  case neg =>
    rw [decide_eq_false en] at hlast hcons hdet
    have cC := fun W q1 q2 => consP_any X Y v3 v4 W q1 q2
    have cD := fun W q1 q2 => detP_any X Y v3 v4 W q1 q2
    rw [hcons.out] at cC
    rw [hdet.out] at cD
    have d2 : (X.number == Y.number) = false := by rw [beq_eq_false_iff_ne]; exact en
    have d3 : (X.number != Y.number) = true := by rw [bne_iff_ne]; exact en
    try simp only [Bool.not_true, Bool.not_false] at cD
    replace cC := Lib.hid cC
    replace cD := Lib.hid cD
    replace en := Lib.hid en
    clear hcons hdet hopp
    by_cases hz : n5 = 0
    case pos =>
      subst hz
      clear hlast
      have g1 := cell_regrown p2
      have g2 := cell_regrown q2
      refine wp_region_quiet_below (by kernel_rfl) (by kernel_rfl) ?_
      repeat (go_big_quiet_step (fail))
      refine wpQuiet_nil ?_
      rintro _ ⟨⟨dq, osq⟩, rfl⟩
      clear p2 q2
      replace HM := Lib.hid (HM.out.keep (below_regrown _ dq osq))
      replace hF := Lib.hid (hFs.keep hF.out (below_regrown _ dq osq))
      replace HB := Lib.hid (bthen HB.out (below_regrown _ dq osq))
      clear HO
      clear g1 g2
      go_upto_region 11 with fail
      replace hF := Lib.hid (hFs.keep hF.out ((Below.refl _ _).drew))
      replace HM := Lib.hid (HM.out.keep ((Below.refl _ _).drew))
      replace HB := Lib.hid (bthen HB.out ((Below.refl _ _).drew))
      have HMs := Lib.hid HM.out
      refine wp_region_plan (fun w' => Mem _ w' _) 31 [(0, true), (1, true), (3, true), (4, true), (5, true), (6, true), (7, true), (2, false), (8, true), (9, true), (10, true), (11, true), (13, true), (14, true), (15, true), (16, true), (17, true), (12, false), (18, true), (19, true), (20, true), (21, true), (22, true), (23, true), (24, true), (25, true), (26, true), (27, true), (28, true), (29, true), (30, true)] (by kernel_rfl) (by kernel_rfl) HMs.out ?_
      generalize World.drew _ = wd at *
      repeat (first | (refine plTakeL rfl (yields_memG rfl _ _ rfl 1 (fun w_ hSw => hSw) rfl rfl _ uE.out rfl (by exact zend)) ?_; try go_frame) | (refine plTakeL rfl (yields_memG rfl _ _ rfl 0 (fun w_ hSw => hSw) rfl rfl _ uE.out rfl (by exact zend)) ?_; try go_frame) | (refine plTakeL rfl (yields_celG rfl _ _ rfl 1 (fun w_ hSw => hSw) rfl 2 rfl (.int .i64 X.number) (by rfl) _ Tryz.underlying3 (by rfl)) ?_; try go_frame) | (refine plTakeL rfl (yields_celG rfl _ _ rfl 0 (fun w_ hSw => hSw) rfl 2 rfl (.int .i64 Y.number) (by rfl) _ Tryz.underlying3 (by rfl)) ?_; try go_frame) | (refine plTakeL rfl (yields_celG rfl _ _ rfl 1 (fun w_ hSw => hSw) rfl 3 rfl (.slice v3.cA v3.cn v3.cc) (by rfl) _ Tryz.underlying22 (by rfl)) ?_; try go_frame) | (refine plTakeL rfl (yields_celG rfl _ _ rfl 0 (fun w_ hSw => hSw) rfl 3 rfl (.slice v4.cA v4.cn v4.cc) (by rfl) _ Tryz.underlying22 (by rfl)) ?_; try go_frame) | (refine plPureG rfl rfl (by intro w_ hSw; go_simp; first | done | exact rfl) ?_; try go_frame) | (refine plSkipG rfl rfl ?_; try go_frame))
      refine plStepG rfl rfl fun K hK => ?_
      go_wp2_with (first | (go_at_call 20; refine (cC.out _ ((gX.out _ hF.out).is HB.out) ((gY.out _ hF.out).is HB.out)).mono ?_; rintro r w3 ⟨rfl, hb_⟩) | fail)
      refine hK.out _ _ (HMs.out.keep hb_) fun hS_ => ?_
      clear hK K hS_
      try go_frame
      replace HM := Lib.hid (HM.out.keep hb_)
      replace HMs := Lib.hid (HMs.out.keep hb_)
      replace hF := Lib.hid (hFs.keep hF.out hb_)
      replace HB := Lib.hid (bthen HB.out hb_)
      clear hb_
      repeat (first | (refine plTakeL rfl (yields_memG rfl _ _ rfl 1 (fun w_ hSw => hSw) rfl rfl _ uE.out rfl (by exact zend)) ?_; try go_frame) | (refine plTakeL rfl (yields_memG rfl _ _ rfl 0 (fun w_ hSw => hSw) rfl rfl _ uE.out rfl (by exact zend)) ?_; try go_frame) | (refine plTakeL rfl (yields_celG rfl _ _ rfl 1 (fun w_ hSw => hSw) rfl 2 rfl (.int .i64 X.number) (by rfl) _ Tryz.underlying3 (by rfl)) ?_; try go_frame) | (refine plTakeL rfl (yields_celG rfl _ _ rfl 0 (fun w_ hSw => hSw) rfl 2 rfl (.int .i64 Y.number) (by rfl) _ Tryz.underlying3 (by rfl)) ?_; try go_frame) | (refine plTakeL rfl (yields_celG rfl _ _ rfl 1 (fun w_ hSw => hSw) rfl 3 rfl (.slice v3.cA v3.cn v3.cc) (by rfl) _ Tryz.underlying22 (by rfl)) ?_; try go_frame) | (refine plTakeL rfl (yields_celG rfl _ _ rfl 0 (fun w_ hSw => hSw) rfl 3 rfl (.slice v4.cA v4.cn v4.cc) (by rfl) _ Tryz.underlying22 (by rfl)) ?_; try go_frame) | (refine plPureG rfl rfl (by intro w_ hSw; go_simp; first | done | exact rfl) ?_; try go_frame) | (refine plSkipG rfl rfl ?_; try go_frame))
      refine plStepG rfl rfl fun K hK => ?_
      go_wp2_with (first | (go_at_call 22; refine (cD.out _ ((gX.out _ hF.out).is HB.out) ((gY.out _ hF.out).is HB.out)).mono ?_; rintro r w3 ⟨rfl, hb_⟩) | fail)
      refine hK.out _ _ (HMs.out.keep hb_) fun hS_ => ?_
      clear hK K hS_
      try go_frame
      replace HM := Lib.hid (HM.out.keep hb_)
      replace HMs := Lib.hid (HMs.out.keep hb_)
      replace hF := Lib.hid (hFs.keep hF.out hb_)
      replace HB := Lib.hid (bthen HB.out hb_)
      clear hb_
      repeat (first | (refine plTakeL rfl (yields_memG rfl _ _ rfl 1 (fun w_ hSw => hSw) rfl rfl _ uE.out rfl (by exact zend)) ?_; try go_frame) | (refine plTakeL rfl (yields_memG rfl _ _ rfl 0 (fun w_ hSw => hSw) rfl rfl _ uE.out rfl (by exact zend)) ?_; try go_frame) | (refine plTakeL rfl (yields_celG rfl _ _ rfl 1 (fun w_ hSw => hSw) rfl 2 rfl (.int .i64 X.number) (by rfl) _ Tryz.underlying3 (by rfl)) ?_; try go_frame) | (refine plTakeL rfl (yields_celG rfl _ _ rfl 0 (fun w_ hSw => hSw) rfl 2 rfl (.int .i64 Y.number) (by rfl) _ Tryz.underlying3 (by rfl)) ?_; try go_frame) | (refine plTakeL rfl (yields_celG rfl _ _ rfl 1 (fun w_ hSw => hSw) rfl 3 rfl (.slice v3.cA v3.cn v3.cc) (by rfl) _ Tryz.underlying22 (by rfl)) ?_; try go_frame) | (refine plTakeL rfl (yields_celG rfl _ _ rfl 0 (fun w_ hSw => hSw) rfl 3 rfl (.slice v4.cA v4.cn v4.cc) (by rfl) _ Tryz.underlying22 (by rfl)) ?_; try go_frame) | (refine plPureG rfl rfl (by intro w_ hSw; go_simp; first | done | exact rfl) ?_; try go_frame) | (refine plSkipG rfl rfl ?_; try go_frame))
      refine plDone ?_
      simp only [List.drop]
      have mk12 : Unit := ()
      go_wp2_with fail
      try simp only [Exit.inBlock, Exit.then]
      go_ret
      exact ⟨by first | rfl | trivial, HM.out.below⟩
    obtain ⟨q, rfl⟩ : ∃ q, n5 = q + 1 := ⟨n5 - 1, by omega⟩
    have hsl := (Sls.of_owns boolE_len HO.out hn5.out).2
    obtain ⟨b5, off5, rfl⟩ := hsl.addr (by omega)
    have kb := bool_at hsl (i := q) (by omega)
    have hl9 := hlast.out (by omega)
    rw [show q + 1 - 1 = q by omega] at hl9
    rw [hl9] at kb
    clear hsl hl9 hlast hz
    have g0 := cell_regrown kb
    have g1 := cell_regrown p2
    have g2 := cell_regrown q2
    have i1 : ((q + 1 : Nat) : Int) - 1 = (q : Int) := by omega
    have i2 : (q : Int) < ((q + 1 : Nat) : Int) := by omega
    have i3 : (0 : Int) ≤ (q : Int) := by omega
    clear kb
    refine wp_region_quiet_below (by kernel_rfl) (by kernel_rfl) ?_
    repeat (go_big_quiet_step (fail))
    refine wpQuiet_nil ?_
    rintro _ ⟨⟨dq, osq⟩, rfl⟩
    clear p2 q2
    replace HM := Lib.hid (HM.out.keep (below_regrown _ dq osq))
    replace hF := Lib.hid (hFs.keep hF.out (below_regrown _ dq osq))
    replace HB := Lib.hid (bthen HB.out (below_regrown _ dq osq))
    clear HO
    clear g0 g1 g2 i1 i2 i3
    go_upto_region 11 with fail
    replace hF := Lib.hid (hFs.keep hF.out ((Below.refl _ _).drew))
    replace HM := Lib.hid (HM.out.keep ((Below.refl _ _).drew))
    replace HB := Lib.hid (bthen HB.out ((Below.refl _ _).drew))
    have HMs := Lib.hid HM.out
    refine wp_region_plan (fun w' => Mem _ w' _) 31 [(0, true), (1, true), (3, true), (4, true), (5, true), (6, true), (7, true), (2, false), (8, true), (9, true), (10, true), (11, true), (13, true), (14, true), (15, true), (16, true), (17, true), (12, false), (18, true), (19, true), (20, true), (21, true), (22, true), (23, true), (24, true), (25, true), (26, true), (27, true), (28, true), (29, true), (30, true)] (by kernel_rfl) (by kernel_rfl) HMs.out ?_
    generalize World.drew _ = wd at *
    repeat (first | (refine plTakeL rfl (yields_memG rfl _ _ rfl 1 (fun w_ hSw => hSw) rfl rfl _ uE.out rfl (by exact zend)) ?_; try go_frame) | (refine plTakeL rfl (yields_memG rfl _ _ rfl 0 (fun w_ hSw => hSw) rfl rfl _ uE.out rfl (by exact zend)) ?_; try go_frame) | (refine plTakeL rfl (yields_celG rfl _ _ rfl 1 (fun w_ hSw => hSw) rfl 2 rfl (.int .i64 X.number) (by rfl) _ Tryz.underlying3 (by rfl)) ?_; try go_frame) | (refine plTakeL rfl (yields_celG rfl _ _ rfl 0 (fun w_ hSw => hSw) rfl 2 rfl (.int .i64 Y.number) (by rfl) _ Tryz.underlying3 (by rfl)) ?_; try go_frame) | (refine plTakeL rfl (yields_celG rfl _ _ rfl 1 (fun w_ hSw => hSw) rfl 3 rfl (.slice v3.cA v3.cn v3.cc) (by rfl) _ Tryz.underlying22 (by rfl)) ?_; try go_frame) | (refine plTakeL rfl (yields_celG rfl _ _ rfl 0 (fun w_ hSw => hSw) rfl 3 rfl (.slice v4.cA v4.cn v4.cc) (by rfl) _ Tryz.underlying22 (by rfl)) ?_; try go_frame) | (refine plPureG rfl rfl (by intro w_ hSw; go_simp; first | done | exact rfl) ?_; try go_frame) | (refine plSkipG rfl rfl ?_; try go_frame))
    refine plStepG rfl rfl fun K hK => ?_
    go_wp2_with (first | (go_at_call 20; refine (cC.out _ ((gX.out _ hF.out).is HB.out) ((gY.out _ hF.out).is HB.out)).mono ?_; rintro r w3 ⟨rfl, hb_⟩) | fail)
    refine hK.out _ _ (HMs.out.keep hb_) fun hS_ => ?_
    clear hK K hS_
    try go_frame
    replace HM := Lib.hid (HM.out.keep hb_)
    replace HMs := Lib.hid (HMs.out.keep hb_)
    replace hF := Lib.hid (hFs.keep hF.out hb_)
    replace HB := Lib.hid (bthen HB.out hb_)
    clear hb_
    repeat (first | (refine plTakeL rfl (yields_memG rfl _ _ rfl 1 (fun w_ hSw => hSw) rfl rfl _ uE.out rfl (by exact zend)) ?_; try go_frame) | (refine plTakeL rfl (yields_memG rfl _ _ rfl 0 (fun w_ hSw => hSw) rfl rfl _ uE.out rfl (by exact zend)) ?_; try go_frame) | (refine plTakeL rfl (yields_celG rfl _ _ rfl 1 (fun w_ hSw => hSw) rfl 2 rfl (.int .i64 X.number) (by rfl) _ Tryz.underlying3 (by rfl)) ?_; try go_frame) | (refine plTakeL rfl (yields_celG rfl _ _ rfl 0 (fun w_ hSw => hSw) rfl 2 rfl (.int .i64 Y.number) (by rfl) _ Tryz.underlying3 (by rfl)) ?_; try go_frame) | (refine plTakeL rfl (yields_celG rfl _ _ rfl 1 (fun w_ hSw => hSw) rfl 3 rfl (.slice v3.cA v3.cn v3.cc) (by rfl) _ Tryz.underlying22 (by rfl)) ?_; try go_frame) | (refine plTakeL rfl (yields_celG rfl _ _ rfl 0 (fun w_ hSw => hSw) rfl 3 rfl (.slice v4.cA v4.cn v4.cc) (by rfl) _ Tryz.underlying22 (by rfl)) ?_; try go_frame) | (refine plPureG rfl rfl (by intro w_ hSw; go_simp; first | done | exact rfl) ?_; try go_frame) | (refine plSkipG rfl rfl ?_; try go_frame))
    refine plStepG rfl rfl fun K hK => ?_
    go_wp2_with (first | (go_at_call 22; refine (cD.out _ ((gX.out _ hF.out).is HB.out) ((gY.out _ hF.out).is HB.out)).mono ?_; rintro r w3 ⟨rfl, hb_⟩) | fail)
    refine hK.out _ _ (HMs.out.keep hb_) fun hS_ => ?_
    clear hK K hS_
    try go_frame
    replace HM := Lib.hid (HM.out.keep hb_)
    replace HMs := Lib.hid (HMs.out.keep hb_)
    replace hF := Lib.hid (hFs.keep hF.out hb_)
    replace HB := Lib.hid (bthen HB.out hb_)
    clear hb_
    repeat (first | (refine plTakeL rfl (yields_memG rfl _ _ rfl 1 (fun w_ hSw => hSw) rfl rfl _ uE.out rfl (by exact zend)) ?_; try go_frame) | (refine plTakeL rfl (yields_memG rfl _ _ rfl 0 (fun w_ hSw => hSw) rfl rfl _ uE.out rfl (by exact zend)) ?_; try go_frame) | (refine plTakeL rfl (yields_celG rfl _ _ rfl 1 (fun w_ hSw => hSw) rfl 2 rfl (.int .i64 X.number) (by rfl) _ Tryz.underlying3 (by rfl)) ?_; try go_frame) | (refine plTakeL rfl (yields_celG rfl _ _ rfl 0 (fun w_ hSw => hSw) rfl 2 rfl (.int .i64 Y.number) (by rfl) _ Tryz.underlying3 (by rfl)) ?_; try go_frame) | (refine plTakeL rfl (yields_celG rfl _ _ rfl 1 (fun w_ hSw => hSw) rfl 3 rfl (.slice v3.cA v3.cn v3.cc) (by rfl) _ Tryz.underlying22 (by rfl)) ?_; try go_frame) | (refine plTakeL rfl (yields_celG rfl _ _ rfl 0 (fun w_ hSw => hSw) rfl 3 rfl (.slice v4.cA v4.cn v4.cc) (by rfl) _ Tryz.underlying22 (by rfl)) ?_; try go_frame) | (refine plPureG rfl rfl (by intro w_ hSw; go_simp; first | done | exact rfl) ?_; try go_frame) | (refine plSkipG rfl rfl ?_; try go_frame))
    refine plDone ?_
    simp only [List.drop]
    have mk12 : Unit := ()
    go_wp2_with fail
    try simp only [Exit.inBlock, Exit.then]
    go_ret
    exact ⟨by first | rfl | trivial, HM.out.below⟩
  rw [decide_eq_true en] at hlast hcons hdet
  have cC := fun W q1 q2 => consP_any X Y v3 v4 W q1 q2
  have cD := fun W q1 q2 => detP_any X Y v3 v4 W q1 q2
  rw [hcons.out] at cC
  rw [hdet.out] at cD
  have cO := fun W q1 q2 => oppR_any v3.cA v4.cA v3.cn v3.cc v4.cn v4.cc X.cells Y.cells W q1 q2
  rw [hopp.out en] at cO
  replace cO := Lib.hid cO
  have d2 : (X.number == Y.number) = true := by rw [beq_iff_eq]; exact en
  have d3 : (X.number != Y.number) = false := by rw [bne_eq_false_iff_eq]; exact en
  try simp only [Bool.not_true, Bool.not_false] at cD
  replace cC := Lib.hid cC
  replace cD := Lib.hid cD
  replace en := Lib.hid en
  clear hcons hdet hopp
  by_cases hz : n5 = 0
  case pos =>
    subst hz
    clear hlast
    have g1 := cell_regrown p2
    have g2 := cell_regrown q2
    refine wp_region_quiet_below (by kernel_rfl) (by kernel_rfl) ?_
    repeat (go_big_quiet_step (fail))
    refine wpQuiet_nil ?_
    rintro _ ⟨⟨dq, osq⟩, rfl⟩
    clear p2 q2
    replace HM := Lib.hid (HM.out.keep (below_regrown _ dq osq))
    replace hF := Lib.hid (hFs.keep hF.out (below_regrown _ dq osq))
    replace HB := Lib.hid (bthen HB.out (below_regrown _ dq osq))
    clear HO
    clear g1 g2
    go_upto_region 11 with fail
    replace hF := Lib.hid (hFs.keep hF.out ((Below.refl _ _).drew))
    replace HM := Lib.hid (HM.out.keep ((Below.refl _ _).drew))
    replace HB := Lib.hid (bthen HB.out ((Below.refl _ _).drew))
    have HMs := Lib.hid HM.out
    refine wp_region_plan (fun w' => Mem _ w' _) 31 [(0, true), (1, true), (3, true), (4, true), (5, true), (6, true), (7, true), (2, false), (8, true), (9, true), (10, true), (11, true), (13, true), (14, true), (15, true), (16, true), (17, true), (12, false), (18, true), (19, true), (20, true), (21, true), (22, true), (23, true), (24, true), (25, true), (26, true), (27, true), (28, true), (29, true), (30, true)] (by kernel_rfl) (by kernel_rfl) HMs.out ?_
    generalize World.drew _ = wd at *
    repeat (first | (refine plTakeL rfl (yields_memG rfl _ _ rfl 1 (fun w_ hSw => hSw) rfl rfl _ uE.out rfl (by exact zend)) ?_; try go_frame) | (refine plTakeL rfl (yields_memG rfl _ _ rfl 0 (fun w_ hSw => hSw) rfl rfl _ uE.out rfl (by exact zend)) ?_; try go_frame) | (refine plTakeL rfl (yields_celG rfl _ _ rfl 1 (fun w_ hSw => hSw) rfl 2 rfl (.int .i64 X.number) (by rfl) _ Tryz.underlying3 (by rfl)) ?_; try go_frame) | (refine plTakeL rfl (yields_celG rfl _ _ rfl 0 (fun w_ hSw => hSw) rfl 2 rfl (.int .i64 Y.number) (by rfl) _ Tryz.underlying3 (by rfl)) ?_; try go_frame) | (refine plTakeL rfl (yields_celG rfl _ _ rfl 1 (fun w_ hSw => hSw) rfl 3 rfl (.slice v3.cA v3.cn v3.cc) (by rfl) _ Tryz.underlying22 (by rfl)) ?_; try go_frame) | (refine plTakeL rfl (yields_celG rfl _ _ rfl 0 (fun w_ hSw => hSw) rfl 3 rfl (.slice v4.cA v4.cn v4.cc) (by rfl) _ Tryz.underlying22 (by rfl)) ?_; try go_frame) | (refine plPureG rfl rfl (by intro w_ hSw; go_simp; first | done | exact rfl) ?_; try go_frame) | (refine plSkipG rfl rfl ?_; try go_frame))
    refine plStepG rfl rfl fun K hK => ?_
    go_wp2_with (first | (go_at_call 20; refine (cC.out _ ((gX.out _ hF.out).is HB.out) ((gY.out _ hF.out).is HB.out)).mono ?_; rintro r w3 ⟨rfl, hb_⟩) | fail)
    refine hK.out _ _ (HMs.out.keep hb_) fun hS_ => ?_
    clear hK K hS_
    try go_frame
    replace HM := Lib.hid (HM.out.keep hb_)
    replace HMs := Lib.hid (HMs.out.keep hb_)
    replace hF := Lib.hid (hFs.keep hF.out hb_)
    replace HB := Lib.hid (bthen HB.out hb_)
    clear hb_
    repeat (first | (refine plTakeL rfl (yields_memG rfl _ _ rfl 1 (fun w_ hSw => hSw) rfl rfl _ uE.out rfl (by exact zend)) ?_; try go_frame) | (refine plTakeL rfl (yields_memG rfl _ _ rfl 0 (fun w_ hSw => hSw) rfl rfl _ uE.out rfl (by exact zend)) ?_; try go_frame) | (refine plTakeL rfl (yields_celG rfl _ _ rfl 1 (fun w_ hSw => hSw) rfl 2 rfl (.int .i64 X.number) (by rfl) _ Tryz.underlying3 (by rfl)) ?_; try go_frame) | (refine plTakeL rfl (yields_celG rfl _ _ rfl 0 (fun w_ hSw => hSw) rfl 2 rfl (.int .i64 Y.number) (by rfl) _ Tryz.underlying3 (by rfl)) ?_; try go_frame) | (refine plTakeL rfl (yields_celG rfl _ _ rfl 1 (fun w_ hSw => hSw) rfl 3 rfl (.slice v3.cA v3.cn v3.cc) (by rfl) _ Tryz.underlying22 (by rfl)) ?_; try go_frame) | (refine plTakeL rfl (yields_celG rfl _ _ rfl 0 (fun w_ hSw => hSw) rfl 3 rfl (.slice v4.cA v4.cn v4.cc) (by rfl) _ Tryz.underlying22 (by rfl)) ?_; try go_frame) | (refine plPureG rfl rfl (by intro w_ hSw; go_simp; first | done | exact rfl) ?_; try go_frame) | (refine plSkipG rfl rfl ?_; try go_frame))
    refine plStepG rfl rfl fun K hK => ?_
    go_wp2_with (first | (go_at_call 22; refine (cD.out _ ((gX.out _ hF.out).is HB.out) ((gY.out _ hF.out).is HB.out)).mono ?_; rintro r w3 ⟨rfl, hb_⟩) | fail)
    refine hK.out _ _ (HMs.out.keep hb_) fun hS_ => ?_
    clear hK K hS_
    try go_frame
    replace HM := Lib.hid (HM.out.keep hb_)
    replace HMs := Lib.hid (HMs.out.keep hb_)
    replace hF := Lib.hid (hFs.keep hF.out hb_)
    replace HB := Lib.hid (bthen HB.out hb_)
    clear hb_
    repeat (first | (refine plTakeL rfl (yields_memG rfl _ _ rfl 1 (fun w_ hSw => hSw) rfl rfl _ uE.out rfl (by exact zend)) ?_; try go_frame) | (refine plTakeL rfl (yields_memG rfl _ _ rfl 0 (fun w_ hSw => hSw) rfl rfl _ uE.out rfl (by exact zend)) ?_; try go_frame) | (refine plTakeL rfl (yields_celG rfl _ _ rfl 1 (fun w_ hSw => hSw) rfl 2 rfl (.int .i64 X.number) (by rfl) _ Tryz.underlying3 (by rfl)) ?_; try go_frame) | (refine plTakeL rfl (yields_celG rfl _ _ rfl 0 (fun w_ hSw => hSw) rfl 2 rfl (.int .i64 Y.number) (by rfl) _ Tryz.underlying3 (by rfl)) ?_; try go_frame) | (refine plTakeL rfl (yields_celG rfl _ _ rfl 1 (fun w_ hSw => hSw) rfl 3 rfl (.slice v3.cA v3.cn v3.cc) (by rfl) _ Tryz.underlying22 (by rfl)) ?_; try go_frame) | (refine plTakeL rfl (yields_celG rfl _ _ rfl 0 (fun w_ hSw => hSw) rfl 3 rfl (.slice v4.cA v4.cn v4.cc) (by rfl) _ Tryz.underlying22 (by rfl)) ?_; try go_frame) | (refine plPureG rfl rfl (by intro w_ hSw; go_simp; first | done | exact rfl) ?_; try go_frame) | (refine plSkipG rfl rfl ?_; try go_frame))
    refine plDone ?_
    simp only [List.drop]
    have mk12 : Unit := ()
    go_wp2_with (first | go_skip | (go_at_call 32; clear mk12; refine (cO.out _ ((gX.out _ hF.out).is HB.out).cells ((gY.out _ hF.out).is HB.out).cells).mono ?_; rintro r w3 ⟨rfl, hb_⟩; replace HM := Lib.hid (HM.out.keep hb_); replace hF := Lib.hid (hFs.keep hF.out hb_); replace HB := Lib.hid (bthen HB.out hb_); clear hb_; dsimp only) | fail)
    try simp only [Exit.inBlock, Exit.then]
    go_ret
    exact ⟨by first | rfl | trivial, HM.out.below⟩
  obtain ⟨q, rfl⟩ : ∃ q, n5 = q + 1 := ⟨n5 - 1, by omega⟩
  have hsl := (Sls.of_owns boolE_len HO.out hn5.out).2
  obtain ⟨b5, off5, rfl⟩ := hsl.addr (by omega)
  have kb := bool_at hsl (i := q) (by omega)
  have hl9 := hlast.out (by omega)
  rw [show q + 1 - 1 = q by omega] at hl9
  rw [hl9] at kb
  clear hsl hl9 hlast hz
  have g0 := cell_regrown kb
  have g1 := cell_regrown p2
  have g2 := cell_regrown q2
  have i1 : ((q + 1 : Nat) : Int) - 1 = (q : Int) := by omega
  have i2 : (q : Int) < ((q + 1 : Nat) : Int) := by omega
  have i3 : (0 : Int) ≤ (q : Int) := by omega
  clear kb
  refine wp_region_quiet_below (by kernel_rfl) (by kernel_rfl) ?_
  repeat (go_big_quiet_step (fail))
  refine wpQuiet_nil ?_
  rintro _ ⟨⟨dq, osq⟩, rfl⟩
  clear p2 q2
  replace HM := Lib.hid (HM.out.keep (below_regrown _ dq osq))
  replace hF := Lib.hid (hFs.keep hF.out (below_regrown _ dq osq))
  replace HB := Lib.hid (bthen HB.out (below_regrown _ dq osq))
  clear HO
  clear g0 g1 g2 i1 i2 i3
  go_upto_region 11 with fail
  replace hF := Lib.hid (hFs.keep hF.out ((Below.refl _ _).drew))
  replace HM := Lib.hid (HM.out.keep ((Below.refl _ _).drew))
  replace HB := Lib.hid (bthen HB.out ((Below.refl _ _).drew))
  have HMs := Lib.hid HM.out
  refine wp_region_plan (fun w' => Mem _ w' _) 31 [(0, true), (1, true), (3, true), (4, true), (5, true), (6, true), (7, true), (2, false), (8, true), (9, true), (10, true), (11, true), (13, true), (14, true), (15, true), (16, true), (17, true), (12, false), (18, true), (19, true), (20, true), (21, true), (22, true), (23, true), (24, true), (25, true), (26, true), (27, true), (28, true), (29, true), (30, true)] (by kernel_rfl) (by kernel_rfl) HMs.out ?_
  generalize World.drew _ = wd at *
  repeat (first | (refine plTakeL rfl (yields_memG rfl _ _ rfl 1 (fun w_ hSw => hSw) rfl rfl _ uE.out rfl (by exact zend)) ?_; try go_frame) | (refine plTakeL rfl (yields_memG rfl _ _ rfl 0 (fun w_ hSw => hSw) rfl rfl _ uE.out rfl (by exact zend)) ?_; try go_frame) | (refine plTakeL rfl (yields_celG rfl _ _ rfl 1 (fun w_ hSw => hSw) rfl 2 rfl (.int .i64 X.number) (by rfl) _ Tryz.underlying3 (by rfl)) ?_; try go_frame) | (refine plTakeL rfl (yields_celG rfl _ _ rfl 0 (fun w_ hSw => hSw) rfl 2 rfl (.int .i64 Y.number) (by rfl) _ Tryz.underlying3 (by rfl)) ?_; try go_frame) | (refine plTakeL rfl (yields_celG rfl _ _ rfl 1 (fun w_ hSw => hSw) rfl 3 rfl (.slice v3.cA v3.cn v3.cc) (by rfl) _ Tryz.underlying22 (by rfl)) ?_; try go_frame) | (refine plTakeL rfl (yields_celG rfl _ _ rfl 0 (fun w_ hSw => hSw) rfl 3 rfl (.slice v4.cA v4.cn v4.cc) (by rfl) _ Tryz.underlying22 (by rfl)) ?_; try go_frame) | (refine plPureG rfl rfl (by intro w_ hSw; go_simp; first | done | exact rfl) ?_; try go_frame) | (refine plSkipG rfl rfl ?_; try go_frame))
  refine plStepG rfl rfl fun K hK => ?_
  go_wp2_with (first | (go_at_call 20; refine (cC.out _ ((gX.out _ hF.out).is HB.out) ((gY.out _ hF.out).is HB.out)).mono ?_; rintro r w3 ⟨rfl, hb_⟩) | fail)
  refine hK.out _ _ (HMs.out.keep hb_) fun hS_ => ?_
  clear hK K hS_
  try go_frame
  replace HM := Lib.hid (HM.out.keep hb_)
  replace HMs := Lib.hid (HMs.out.keep hb_)
  replace hF := Lib.hid (hFs.keep hF.out hb_)
  replace HB := Lib.hid (bthen HB.out hb_)
  clear hb_
  repeat (first | (refine plTakeL rfl (yields_memG rfl _ _ rfl 1 (fun w_ hSw => hSw) rfl rfl _ uE.out rfl (by exact zend)) ?_; try go_frame) | (refine plTakeL rfl (yields_memG rfl _ _ rfl 0 (fun w_ hSw => hSw) rfl rfl _ uE.out rfl (by exact zend)) ?_; try go_frame) | (refine plTakeL rfl (yields_celG rfl _ _ rfl 1 (fun w_ hSw => hSw) rfl 2 rfl (.int .i64 X.number) (by rfl) _ Tryz.underlying3 (by rfl)) ?_; try go_frame) | (refine plTakeL rfl (yields_celG rfl _ _ rfl 0 (fun w_ hSw => hSw) rfl 2 rfl (.int .i64 Y.number) (by rfl) _ Tryz.underlying3 (by rfl)) ?_; try go_frame) | (refine plTakeL rfl (yields_celG rfl _ _ rfl 1 (fun w_ hSw => hSw) rfl 3 rfl (.slice v3.cA v3.cn v3.cc) (by rfl) _ Tryz.underlying22 (by rfl)) ?_; try go_frame) | (refine plTakeL rfl (yields_celG rfl _ _ rfl 0 (fun w_ hSw => hSw) rfl 3 rfl (.slice v4.cA v4.cn v4.cc) (by rfl) _ Tryz.underlying22 (by rfl)) ?_; try go_frame) | (refine plPureG rfl rfl (by intro w_ hSw; go_simp; first | done | exact rfl) ?_; try go_frame) | (refine plSkipG rfl rfl ?_; try go_frame))
  refine plStepG rfl rfl fun K hK => ?_
  go_wp2_with (first | (go_at_call 22; refine (cD.out _ ((gX.out _ hF.out).is HB.out) ((gY.out _ hF.out).is HB.out)).mono ?_; rintro r w3 ⟨rfl, hb_⟩) | fail)
  refine hK.out _ _ (HMs.out.keep hb_) fun hS_ => ?_
  clear hK K hS_
  try go_frame
  replace HM := Lib.hid (HM.out.keep hb_)
  replace HMs := Lib.hid (HMs.out.keep hb_)
  replace hF := Lib.hid (hFs.keep hF.out hb_)
  replace HB := Lib.hid (bthen HB.out hb_)
  clear hb_
  repeat (first | (refine plTakeL rfl (yields_memG rfl _ _ rfl 1 (fun w_ hSw => hSw) rfl rfl _ uE.out rfl (by exact zend)) ?_; try go_frame) | (refine plTakeL rfl (yields_memG rfl _ _ rfl 0 (fun w_ hSw => hSw) rfl rfl _ uE.out rfl (by exact zend)) ?_; try go_frame) | (refine plTakeL rfl (yields_celG rfl _ _ rfl 1 (fun w_ hSw => hSw) rfl 2 rfl (.int .i64 X.number) (by rfl) _ Tryz.underlying3 (by rfl)) ?_; try go_frame) | (refine plTakeL rfl (yields_celG rfl _ _ rfl 0 (fun w_ hSw => hSw) rfl 2 rfl (.int .i64 Y.number) (by rfl) _ Tryz.underlying3 (by rfl)) ?_; try go_frame) | (refine plTakeL rfl (yields_celG rfl _ _ rfl 1 (fun w_ hSw => hSw) rfl 3 rfl (.slice v3.cA v3.cn v3.cc) (by rfl) _ Tryz.underlying22 (by rfl)) ?_; try go_frame) | (refine plTakeL rfl (yields_celG rfl _ _ rfl 0 (fun w_ hSw => hSw) rfl 3 rfl (.slice v4.cA v4.cn v4.cc) (by rfl) _ Tryz.underlying22 (by rfl)) ?_; try go_frame) | (refine plPureG rfl rfl (by intro w_ hSw; go_simp; first | done | exact rfl) ?_; try go_frame) | (refine plSkipG rfl rfl ?_; try go_frame))
  refine plDone ?_
  simp only [List.drop]
  have mk12 : Unit := ()
  go_wp2_with (first | go_skip | (go_at_call 32; clear mk12; refine (cO.out _ ((gX.out _ hF.out).is HB.out).cells ((gY.out _ hF.out).is HB.out).cells).mono ?_; rintro r w3 ⟨rfl, hb_⟩; replace HM := Lib.hid (HM.out.keep hb_); replace hF := Lib.hid (hFs.keep hF.out hb_); replace HB := Lib.hid (bthen HB.out hb_); clear hb_; dsimp only) | fail)
  try simp only [Exit.inBlock, Exit.then]
  go_ret
  exact ⟨by first | rfl | trivial, HM.out.below⟩
end Tx
end Go.Proofs.YtfoffooblkofhaaGreat
