/- Chapter 27: the law Clears. -/
import Derived.Test.YtfoffooblkofhaaGreatEr
import Derived.Test.YtfoffooblkofhaaGreatEs
import Derived.Test.YtfoffooblkofhaaGreatEg
import Derived.Test.YtfoffooblkofhaaGreatCc
import Derived.Test.YtfoffooblkofhaaGreatCz
set_option linter.unusedVariables false
set_option linter.unusedSimpArgs false
namespace Go.Proofs.YtfoffooblkofhaaGreat
open Go Go.RowKit Go.Sort Go.Shelf Go.Maps
namespace Tx
open Sw Mm Pl
/-- tables and ends that are few have room -/
theorem few_small {a b : Ed} {ta tb : Tab} {nf : Nat} (h : few27 a b ta tb nf = true) : (FullOk ta a → Room ta a) ∧ (FullOk tb b → Room tb b) := by
  unfold few27 at h
  simp only [Bool.and_eq_true] at h
  exact ⟨fun hF => few_room h.1 h.2.2.1 hF, fun hF => few_room h.2.1 h.2.2.2.1 hF⟩
theorem exC_zero {a b : Ed} {ta tb : Tab} {f : List Int} {kind count : Int} (h : exC a b ta tb f kind count = 0) : Idle a b ta tb ∧ askC a ta f kind count 0 = 0 := by
  unfold exC at h
  split at h
  · exact absurd h (by assumption)
  · rename_i h1
    exact ⟨idleC_iff.1 (Decidable.not_not.1 h1), h⟩
theorem ex_run {a b : Ed} {ta tb : Tab} {f : List Int} {kind count : Int} {nf : Nat} (hw : few27 a b ta tb nf = true) (h : exC a b ta tb f kind count = 0) : Idle a b ta tb ∧ ∃ m y r z, RunIs a b ta tb f kind count m y r z ∧ ∀ x : Fate, exN a b ta tb f kind count x = if x.request = true then (a, b, -1) else if x.reply = true then (a, y, -1) else (z, y, r.code) := by
  obtain ⟨hi, ha⟩ := exC_zero h
  obtain ⟨q1, q2⟩ := few_small hw
  obtain ⟨m, y, r, z, hR⟩ := run_is hi (q1 hi.fa) (q2 hi.fb) ha
  refine ⟨hi, m, y, r, z, hR, fun x => ?_⟩
  unfold exN
  rw [if_pos h, hR.run]
structure ClrLaw (a : Ed) (rp : Bool) (X : Ed × Ed × Int) : Prop where
  yn : X.2.1.number = 0
  yc : X.2.1.cells = []
  rep : rp = true → X.2.2 = -1 ∧ X.1 = a
  both : rp = false → X.2.2 = 0 ∧ X.1.number = 0 ∧ X.1.cells = [] ∧ consB X.1 X.2.1 = true
theorem clr_law {a b : Ed} {ta tb : Tab} {f : List Int} {nf : Nat} {rp ra rk : Bool} (hw : few27 a b ta tb nf = true) (h : exC a b ta tb f 6 0 = 0) : ClrLaw a rp (exN a b ta tb f 6 0 ⟨false, rp, ra, rk⟩) := by
  obtain ⟨hi, m, y, r, z, hR, hx⟩ := ex_run hw h
  obtain ⟨c0, yn, yc, zn, zc, hb⟩ := clears_ok hi hR
  rw [hx]
  cases rp
  · exact ⟨yn, yc, (fun e => by cases e), fun _ => ⟨c0, zn, zc, hb⟩⟩
  · exact ⟨yn, yc, fun _ => ⟨rfl, rfl⟩, (fun e => by cases e)⟩
theorem clr_bad {a b : Ed} {ta tb : Tab} {f : List Int} (h : exC a b ta tb f 6 0 ≠ 0) : idleB a b ta tb = false ∨ a.opn = true ∨ b.opn = true := by
  cases h1 : idleB a b ta tb
  · exact .inl rfl
  · cases h2 : a.opn
    · cases h3 : b.opn
      · obtain ⟨q1, q2, q3, q4, q5⟩ := idleB_iff.1 h1
        refine absurd ?_ h
        unfold exC
        rw [if_neg (by rw [idleC_iff.2 ⟨q1, q2, q3, q4, q5, h2, h3⟩]; simp)]
        exact clear_ask q1 h2
      · exact .inr (.inr rfl)
    · exact .inr (.inl rfl)
set_option maxRecDepth 100000 in
set_option maxHeartbeats 16000000 in
theorem lawClears_any (a b : Ed) (ta tb : Tab) (f : List Int) (rq rp ra rk : Bool) (va vb : EdV) (vta vtb : TabV) (A : Option Addr) (nf cf : Nat) (w : World) (h1 : EdIs w va a) (h2 : EdIs w vb b) (t1 : TabIs w vta ta) (t2 : TabIs w vtb tb) (hf : IntS w A nf f) : Calls Tryz.prog 9 #[.agg (cplA a va b vb ta vta tb vtb A nf cf), .agg (fateA ⟨rq, rp, ra, rk⟩)] w fun r w' => r = .returned (.bool true) ∧ Below w.heap.size w w' := by
  have HM := Lib.hid (Mem.start w)
  obtain ⟨F0, hFs, hF⟩ : ∃ F : World → Prop, Stb F ∧ Hid (F w) := ⟨_, Stb.true, trivial⟩
  have uE := Tryz.underlying27
  have uT := Tryz.underlying29
  have uM := Tryz.underlying25
  have cAw := fun W => awake27_any W
  have uC := Tryz.underlying43
  have uY := Tryz.underlying45
  have cFw := fun W (hb : Below w.heap.size w W) => few27_any a b ta tb va vb vta vtb A nf cf W (h1.keep hb) (h2.keep hb) (t1.keep hb) (t2.keep hb)
  have hIa := fun W (hb : Below w.heap.size w W) => h1.keep hb
  have hIb := fun W (hb : Below w.heap.size w W) => h2.keep hb
  have cX := fun W (hb : Below w.heap.size w W) => exchange_any a b ta tb f 6 0 ⟨false, rp, ra, rk⟩ va vb vta vtb A nf cf W (h1.keep hb) (h2.keep hb) (t1.keep hb) (t2.keep hb) (hf.keep hb)
  unfold ExPost at cX
  have cPr := fun W (hb : Below w.heap.size w W) => pairR_any a b ta tb va vb vta vtb W (h1.keep hb) (h2.keep hb) (t1.keep hb) (t2.keep hb)
  have cSa := fun x vx W (q : EdIs W vx x) (hb : Below w.heap.size w W) => sameE_any x a vx va W q (h1.keep hb)
  have hL : few27 a b ta tb nf = true → exC a b ta tb f 6 0 = 0 → ClrLaw a rp (exN a b ta tb f 6 0 ⟨false, rp, ra, rk⟩) := fun q1 q2 => clr_law q1 q2
  have hBad := clr_bad (a := a) (b := b) (ta := ta) (tb := tb) (f := f)
  generalize exN a b ta tb f 6 0 ⟨false, rp, ra, rk⟩ = XN at *
  obtain ⟨A1, B1, cd⟩ := XN
  dsimp only at cX
  generalize exC a b ta tb f 6 0 = XC at *
  generalize few27 a b ta tb nf = FW at *
  generalize idleB a b ta tb = IB at *
  replace cAw := Lib.hid cAw
  replace cFw := Lib.hid cFw
  replace hIa := Lib.hid hIa
  replace hIb := Lib.hid hIb
  replace cX := Lib.hid cX
  replace cPr := Lib.hid cPr
  replace cSa := Lib.hid cSa
  replace hL := Lib.hid hL
  replace hBad := Lib.hid hBad
  replace uC := Lib.hid uC
  replace uY := Lib.hid uY
  replace h1 := Lib.hid h1
  replace h2 := Lib.hid h2
  replace t1 := Lib.hid t1
  replace t2 := Lib.hid t2
  replace hf := Lib.hid hf
  replace uE := Lib.hid uE
  replace uT := Lib.hid uT
  replace uM := Lib.hid uM
  go_enter Tryz.func9, Tryz.ntmps9
  have mk1 : Unit := ()
  have mk2 : Unit := ()
  go_upto_region 1 with (first | go_skip | (clear mk1; refine wpList_boxA HM rfl 43 _ rfl _ rfl ?_; clear HM; intro gc w1 HM hG; replace hF := Lib.hid (hFs.keep hF.out hG.out); clear hG) | (clear mk2; refine wpList_boxA HM rfl 45 _ rfl _ rfl ?_; clear HM; intro gy w1 HM hG; replace hF := Lib.hid (hFs.keep hF.out hG.out); clear hG) | fail)
  have mk3 : Unit := ()
  go_upto_region 3 with (first | go_skip | (go_at_call 19; clear mk3; refine (cAw.out _).mono ?_; rintro r w3 ⟨rfl, hb_⟩; replace HM := Lib.hid (HM.out.keep hb_); replace hF := Lib.hid (hFs.keep hF.out hb_); clear hb_; dsimp only) | fail)
  have mk4 : Unit := ()
  cases FW
  case false =>
    go_wp2_with (first | go_skip | (refine wpList_loadG 1 HM (by rfl) _ _ rfl _ rfl rfl _ uC.out rfl (by exact zcp) ?_) | (go_at_call 24; clear mk4; refine (cFw.out _ HM.out.below).mono ?_; rintro r w3 ⟨rfl, hb_⟩; replace HM := Lib.hid (HM.out.keep hb_); replace hF := Lib.hid (hFs.keep hF.out hb_); clear hb_; dsimp only) | fail)
    try simp only [Exit.inBlock, Exit.then]
    go_ret
    exact ⟨by first | rfl | trivial, HM.out.below⟩
  go_upto_region 5 with (first | go_skip | (refine wpList_loadG 1 HM (by rfl) _ _ rfl _ rfl rfl _ uC.out rfl (by exact zcp) ?_) | (go_at_call 24; clear mk4; refine (cFw.out _ HM.out.below).mono ?_; rintro r w3 ⟨rfl, hb_⟩; replace HM := Lib.hid (HM.out.keep hb_); replace hF := Lib.hid (hFs.keep hF.out hb_); clear hb_; dsimp only) | fail)
  have hL2 := Lib.hid (hL.out rfl)
  clear hL cFw cAw
  go_upto_region 6 with (first | go_skip | (refine wpList_storeM 0 HM rfl _ _ _ rfl _ 0 rfl rfl _ (by conv => {lhs; whnf}) (by exact zone_b) (by kernel_rfl) (Nat.le_of_ble_eq_true (by kernel_rfl)) (fateA ⟨false, rp, ra, rk⟩) (by kernel_rfl) ?_; have hBq := HM.out.at_ 0 rfl; clear HM; intro w4 HM hG4; simp only [List.set] at HM; replace hF := Lib.hid (hFs.put hF.out hBq (by decide) (by decide) hG4.out); clear hBq hG4) | fail)
  have p62 : World.cell? _ ⟨gc, 62, none⟩ = some (.slice A nf cf) := HM.out.cell 1 rfl 62
  have mk5 : Unit := ()
  have mk6 : Unit := ()
  have mk7 : Unit := ()
  go_upto_region 7 with (first | go_skip | (refine wpList_loadP 1 HM (by rfl) _ _ rfl _ 0 rfl rfl (endA a va) (by kernel_rfl) _ uE.out rfl (by exact zend) ?_) | (refine wpList_loadP 1 HM (by rfl) _ _ rfl _ 28 rfl rfl (endA b vb) (by kernel_rfl) _ uE.out rfl (by exact zend) ?_) | (refine wpList_loadP 1 HM (by rfl) _ _ rfl _ 56 rfl rfl (tabA ta vta) (by kernel_rfl) _ uT.out rfl (by exact ztab) ?_) | (refine wpList_loadP 1 HM (by rfl) _ _ rfl _ 59 rfl rfl (tabA tb vtb) (by kernel_rfl) _ uT.out rfl (by exact ztab) ?_) | (refine wpList_loadG 0 HM (by rfl) _ _ rfl _ rfl rfl _ uY.out rfl (by exact zfa) ?_) | (go_at_call 25; clear mk5; refine (cX.out _ HM.out.below).mono ?_; rintro r w3 ⟨v1, v2, rfl, hE, hO5, hb_⟩; clear p62; replace HM := Lib.hid (HM.out.keep hb_); replace hF := Lib.hid (hFs.keep hF.out hb_); clear hb_; obtain ⟨F1, hFs2, hF2, hU, hNw⟩ := stb_add hFs hF (Stb.ed v1 _) hE; clear hFs hF; have gA := Lib.hid hNw; clear hNw hU; have hFs := hFs2; have hF := hF2; clear hFs2 hF2 hE; obtain ⟨F2, hFs2, hF2, hU, hNw⟩ := stb_add hFs hF (Stb.ownB _ _ v2 _) hO5; clear hFs hF; replace gA := Lib.hid (fun W h => gA.out W (hU W h)); have gB := Lib.hid hNw; clear hNw hU; have hFs := hFs2; have hF := hF2; clear hFs2 hF2 hO5; dsimp only) | (clear mk6; refine wpList_allocN HM rfl 27 rfl edInfo ?_; clear HM; intro g5 w1 HM hG hN9; replace hF := Lib.hid (hFs.keep hF.out hG.out); clear hG hN9) | (clear mk7; refine wpList_allocN HM rfl 27 rfl edInfo ?_; clear HM; intro g6 w1 HM hG hN9; replace hF := Lib.hid (hFs.keep hF.out hG.out); clear hG hN9) | (refine wpList_storeF 1 HM rfl _ _ _ rfl _ rfl rfl _ rfl (by exact zend) (by rfl) (by rfl) ?_; have hBq := HM.out.at_ 1 rfl; clear HM; intro w4 HM hG4; simp only [List.set] at HM; replace hF := Lib.hid (hFs.put hF.out hBq (by decide) (by decide) hG4.out); clear hBq hG4) | (refine wpList_storeF 0 HM rfl _ _ _ rfl _ rfl rfl _ rfl (by exact zend) (by rfl) (by rfl) ?_; have hBq := HM.out.at_ 0 rfl; clear HM; intro w4 HM hG4; simp only [List.set] at HM; replace hF := Lib.hid (hFs.put hF.out hBq (by decide) (by decide) hG4.out); clear hBq hG4) | fail)
  by_cases e0 : XC = 0
  case neg =>
    have d0 : (XC != 0) = true := by rw [bne_iff_ne]; exact e0
    have hbad := hBad.out e0
    replace e0 := Lib.hid e0
    go_upto_region 8 with fail
    have p4 : World.cell? _ ⟨gc, 4, none⟩ = some (.bool a.opn) := HM.out.cell 3 rfl 4
    have q4 : World.cell? _ ⟨gc, 32, none⟩ = some (.bool b.opn) := HM.out.cell 3 rfl 32
    have mk8 : Unit := ()
    generalize a.opn = oa at *
    generalize b.opn = ob at *
    cases IB
    case false =>
      clear hbad
      go_wp2_with (first | go_skip | (refine wpList_loadP 3 HM (by rfl) _ _ rfl _ 0 rfl rfl (endA a va) (by kernel_rfl) _ uE.out rfl (by exact zend) ?_) | (refine wpList_loadP 3 HM (by rfl) _ _ rfl _ 28 rfl rfl (endA b vb) (by kernel_rfl) _ uE.out rfl (by exact zend) ?_) | (refine wpList_loadP 3 HM (by rfl) _ _ rfl _ 56 rfl rfl (tabA ta vta) (by kernel_rfl) _ uT.out rfl (by exact ztab) ?_) | (refine wpList_loadP 3 HM (by rfl) _ _ rfl _ 59 rfl rfl (tabA tb vtb) (by kernel_rfl) _ uT.out rfl (by exact ztab) ?_) | (go_at_call 30; clear mk8; refine (cPr.out _ HM.out.below).mono ?_; rintro r w3 ⟨rfl, hb_⟩; replace p4 := ((HM.out.keep hb_).cell 3 rfl 4).trans ((HM.out.cell 3 rfl 4).symm.trans p4); replace q4 := ((HM.out.keep hb_).cell 3 rfl 32).trans ((HM.out.cell 3 rfl 32).symm.trans q4); replace HM := Lib.hid (HM.out.keep hb_); replace hF := Lib.hid (hFs.keep hF.out hb_); clear hb_; dsimp only) | fail)
      try simp only [Exit.inBlock, Exit.then]
      go_ret
      exact ⟨by first | rfl | trivial, HM.out.below⟩
    cases oa
    case true =>
      clear hbad
      go_wp2_with (first | go_skip | (refine wpList_loadP 3 HM (by rfl) _ _ rfl _ 0 rfl rfl (endA a va) (by kernel_rfl) _ uE.out rfl (by exact zend) ?_) | (refine wpList_loadP 3 HM (by rfl) _ _ rfl _ 28 rfl rfl (endA b vb) (by kernel_rfl) _ uE.out rfl (by exact zend) ?_) | (refine wpList_loadP 3 HM (by rfl) _ _ rfl _ 56 rfl rfl (tabA ta vta) (by kernel_rfl) _ uT.out rfl (by exact ztab) ?_) | (refine wpList_loadP 3 HM (by rfl) _ _ rfl _ 59 rfl rfl (tabA tb vtb) (by kernel_rfl) _ uT.out rfl (by exact ztab) ?_) | (go_at_call 30; clear mk8; refine (cPr.out _ HM.out.below).mono ?_; rintro r w3 ⟨rfl, hb_⟩; replace p4 := ((HM.out.keep hb_).cell 3 rfl 4).trans ((HM.out.cell 3 rfl 4).symm.trans p4); replace q4 := ((HM.out.keep hb_).cell 3 rfl 32).trans ((HM.out.cell 3 rfl 32).symm.trans q4); replace HM := Lib.hid (HM.out.keep hb_); replace hF := Lib.hid (hFs.keep hF.out hb_); clear hb_; dsimp only) | fail)
      try simp only [Exit.inBlock, Exit.then]
      go_ret
      exact ⟨by first | rfl | trivial, HM.out.below⟩
    obtain rfl : ob = true := by simpa using hbad
    go_wp2_with (first | go_skip | (refine wpList_loadP 3 HM (by rfl) _ _ rfl _ 0 rfl rfl (endA a va) (by kernel_rfl) _ uE.out rfl (by exact zend) ?_) | (refine wpList_loadP 3 HM (by rfl) _ _ rfl _ 28 rfl rfl (endA b vb) (by kernel_rfl) _ uE.out rfl (by exact zend) ?_) | (refine wpList_loadP 3 HM (by rfl) _ _ rfl _ 56 rfl rfl (tabA ta vta) (by kernel_rfl) _ uT.out rfl (by exact ztab) ?_) | (refine wpList_loadP 3 HM (by rfl) _ _ rfl _ 59 rfl rfl (tabA tb vtb) (by kernel_rfl) _ uT.out rfl (by exact ztab) ?_) | (go_at_call 30; clear mk8; refine (cPr.out _ HM.out.below).mono ?_; rintro r w3 ⟨rfl, hb_⟩; replace p4 := ((HM.out.keep hb_).cell 3 rfl 4).trans ((HM.out.cell 3 rfl 4).symm.trans p4); replace q4 := ((HM.out.keep hb_).cell 3 rfl 32).trans ((HM.out.cell 3 rfl 32).symm.trans q4); replace HM := Lib.hid (HM.out.keep hb_); replace hF := Lib.hid (hFs.keep hF.out hb_); clear hb_; dsimp only) | fail)
    try simp only [Exit.inBlock, Exit.then]
    go_ret
    exact ⟨by first | rfl | trivial, HM.out.below⟩
  obtain ⟨hyn, hyc, hrep, hboth⟩ := hL2.out e0
  subst e0
  dsimp only at hyn hyc hrep hboth
  clear hL2 hBad cPr cX
  go_upto_region 9 with fail
  have p2 : World.cell? _ ⟨g6, 2, none⟩ = some (.int .i64 B1.number) := HM.out.cell 0 rfl 2
  have p3 : World.cell? _ ⟨g6, 3, none⟩ = some (.slice v2.cA v2.cn v2.cc) := HM.out.cell 0 rfl 3
  have hn1 := ((gB.out _ hF.out).is (hIb.out _ HM.out.below)).cells.len
  rw [hyc] at hn1
  rw [← hn1] at p3
  rw [hyn] at p2
  clear hn1
  replace hyn := Lib.hid hyn
  replace hyc := Lib.hid hyc
  replace hrep := Lib.hid hrep
  replace hboth := Lib.hid hboth
  go_upto_region 11 with fail
  clear p2 p3
  have y1 : World.cell? _ ⟨gy, 1, none⟩ = some (.bool rp) := HM.out.cell 2 rfl 1
  cases rp
  case true =>
    obtain ⟨hc, hq⟩ := hrep.out rfl
    subst hc
    have cS1 := Lib.hid (cSa.out A1 v1)
    rw [decide_eq_true hq] at cS1
    replace hq := Lib.hid hq
    have mk8 : Unit := ()
    go_wp2_with (first | go_skip | (refine wpList_loadG 1 HM (by rfl) _ _ rfl _ rfl rfl _ uE.out rfl (by exact zend) ?_) | (refine wpList_loadP 3 HM (by rfl) _ _ rfl _ 0 rfl rfl (endA a va) (by kernel_rfl) _ uE.out rfl (by exact zend) ?_) | (go_at_call 17; clear mk8; refine (cS1.out _ (gA.out _ hF.out).is HM.out.below).mono ?_; rintro r w3 ⟨rfl, hb_⟩; replace HM := Lib.hid (HM.out.keep hb_); replace hF := Lib.hid (hFs.keep hF.out hb_); clear hb_; dsimp only) | fail)
    try simp only [Exit.inBlock, Exit.then]
    go_ret
    exact ⟨by first | rfl | trivial, HM.out.below⟩
  obtain ⟨hc, han, hac, hcn⟩ := hboth.out rfl
  subst hc
  have cC5 := fun W q1 q2 => consP_any A1 B1 v1 v2 W q1 q2
  rw [hcn] at cC5
  have p2 : World.cell? _ ⟨g5, 2, none⟩ = some (.int .i64 A1.number) := HM.out.cell 1 rfl 2
  have p3 : World.cell? _ ⟨g5, 3, none⟩ = some (.slice v1.cA v1.cn v1.cc) := HM.out.cell 1 rfl 3
  have hn1 := (gA.out _ hF.out).is.cells.len
  rw [hac] at hn1
  rw [← hn1] at p3
  rw [han] at p2
  clear hn1
  replace cC5 := Lib.hid cC5
  replace han := Lib.hid han
  replace hac := Lib.hid hac
  replace hcn := Lib.hid hcn
  have mk8 : Unit := ()
  go_wp2_with (first | go_skip | (refine wpList_loadG 1 HM (by rfl) _ _ rfl _ rfl rfl _ uE.out rfl (by exact zend) ?_) | (refine wpList_loadG 0 HM (by rfl) _ _ rfl _ rfl rfl _ uE.out rfl (by exact zend) ?_) | (go_at_call 20; clear mk8; refine (cC5.out _ (gA.out _ hF.out).is ((gB.out _ hF.out).is (hIb.out _ HM.out.below))).mono ?_; rintro r w3 ⟨rfl, hb_⟩; clear p2 p3; replace HM := Lib.hid (HM.out.keep hb_); replace hF := Lib.hid (hFs.keep hF.out hb_); clear hb_; dsimp only) | fail)
  try simp only [Exit.inBlock, Exit.then]
  go_ret
  exact ⟨by first | rfl | trivial, HM.out.below⟩
end Tx
end Go.Proofs.YtfoffooblkofhaaGreat
