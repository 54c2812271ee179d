/- Chapter 27: the law Losses. -/
import Derived.Test.YtfoffooblkofhaaGreatEr
import Derived.Test.YtfoffooblkofhaaGreatEs
import Derived.Test.YtfoffooblkofhaaGreatEg
import Derived.Test.YtfoffooblkofhaaGreatCc
import Derived.Test.YtfoffooblkofhaaGreatCq
set_option linter.unusedVariables false
set_option linter.unusedSimpArgs false
namespace Go.Proofs.YtfoffooblkofhaaGreat
open Go Go.RowKit Go.Sort Go.Shelf Go.Maps
namespace Tx
open Sw Mm Pl
/-- tables and ends that are few have room -/
theorem few_small {a b : Ed} {ta tb : Tab} {nf : Nat} (h : few27 a b ta tb nf = true) : (FullOk ta a → Room ta a) ∧ (FullOk tb b → Room tb b) := by
  unfold few27 at h
  simp only [Bool.and_eq_true] at h
  exact ⟨fun hF => few_room h.1 h.2.2.1 hF, fun hF => few_room h.2.1 h.2.2.2.1 hF⟩
theorem exC_zero {a b : Ed} {ta tb : Tab} {f : List Int} {kind count : Int} (h : exC a b ta tb f kind count = 0) : Idle a b ta tb ∧ askC a ta f kind count 0 = 0 := by
  unfold exC at h
  split at h
  · exact absurd h (by assumption)
  · rename_i h1
    exact ⟨idleC_iff.1 (Decidable.not_not.1 h1), h⟩
theorem ex_run {a b : Ed} {ta tb : Tab} {f : List Int} {kind count : Int} {nf : Nat} (hw : few27 a b ta tb nf = true) (h : exC a b ta tb f kind count = 0) : Idle a b ta tb ∧ ∃ m y r z, RunIs a b ta tb f kind count m y r z ∧ ∀ x : Fate, exN a b ta tb f kind count x = if x.request = true then (a, b, -1) else if x.reply = true then (a, y, -1) else (z, y, r.code) := by
  obtain ⟨hi, ha⟩ := exC_zero h
  obtain ⟨q1, q2⟩ := few_small hw
  obtain ⟨m, y, r, z, hR⟩ := run_is hi (q1 hi.fa) (q2 hi.fb) ha
  refine ⟨hi, m, y, r, z, hR, fun x => ?_⟩
  unfold exN
  rw [if_pos h, hR.run]
theorem yields_parG {P : Program} {ops : Array Oper} {S : World → Prop} {o : Oper} {a : Act} {a0 : World} {L : List (Nat × Array Value × TypeId)} (hw : Region.wanted o (yielded ops a.tmps) = true) (ty : TypeId) (x : Operand) (ho : o.op = .load ty x) (i : Nat) {B : Nat} {C : Array Value} {t : TypeId} (hS : ∀ w, S w → Mem a0 w L) (hL : L[i]? = some (B, C, t)) (k : Nat) (hx : a.eval x = .pointer (some ⟨B, k, none⟩)) (D : Array Value) (hD : C.extract k (k + D.size) = D)
    (d : TypeDesc) (hu : P.underlying ty = some d) (hd : d.isRow = true) (hi : (P.info? ty).map (·.size) = some D.size) : YieldsIf P ops S o (.agg D) a :=
  yieldsIf_load_mid hw ty x ho B k hx D.toList d (fun w hs => (hS w hs).range i hL k D hD) hu hd (by rw [hi]; simp)
structure LossLaw (a b : Ed) (rq rp : Bool) (X X2 : Ed × Ed × Int) : Prop where
  two : X2 = X
  req : rq = true → X = (a, b, -1)
  rep : rq = false → rp = true → X.2.2 = -1 ∧ X.1 = a ∧ consB X.1 X.2.1 = decide (X.2.1.number = b.number)
  both : rq = false → rp = false → X.2.2 ≠ 1 ∧ X.2.2 ≠ 3 ∧ consB X.1 X.2.1 = true
theorem loss_law {a b : Ed} {ta tb : Tab} {f : List Int} {kind count : Int} {nf : Nat} {rq rp ra rk : Bool} (hw : few27 a b ta tb nf = true) (hd : consB a b = true) (h : exC a b ta tb f kind count = 0) : LossLaw a b rq rp (exN a b ta tb f kind count ⟨rq, rp, ra, rk⟩) (exN a b ta tb f kind count ⟨rq, rp, false, false⟩) := by
  obtain ⟨hi, m, y, r, z, hR, hx⟩ := ex_run hw h
  obtain ⟨l1, l2, l3, l4⟩ := losses_ok hi hR hd
  refine ⟨by rw [hx, hx], fun e => by rw [hx]; exact if_pos e, fun e1 e2 => ?_, fun e1 e2 => ?_⟩
  · rw [hx]
    subst e1 e2
    exact ⟨rfl, rfl, l1⟩
  · rw [hx]
    subst e1 e2
    exact ⟨l2, l3, l4⟩
set_option maxRecDepth 100000 in
set_option maxHeartbeats 16000000 in
theorem lawLosses_any (a b : Ed) (ta tb : Tab) (f : List Int) (kind count : Int) (rq rp ra rk : Bool) (va vb : EdV) (vta vtb : TabV) (A : Option Addr) (nf cf : Nat) (w : World) (h1 : EdIs w va a) (h2 : EdIs w vb b) (t1 : TabIs w vta ta) (t2 : TabIs w vtb tb) (hf : IntS w A nf f) : Calls Tryz.prog 8 #[.agg (cplA a va b vb ta vta tb vtb A nf cf), .int .i64 kind, .int .i64 count, .agg (fateA ⟨rq, rp, ra, rk⟩)] w fun r w' => r = .returned (.bool true) ∧ Below w.heap.size w w' := by
  have HM := Lib.hid (Mem.start w)
  obtain ⟨F0, hFs, hF⟩ : ∃ F : World → Prop, Stb F ∧ Hid (F w) := ⟨_, Stb.true, trivial⟩
  have uE := Tryz.underlying27
  have uT := Tryz.underlying29
  have uM := Tryz.underlying25
  have cAw := fun W => awake27_any W
  have uC := Tryz.underlying43
  have uY := Tryz.underlying45
  have cFw := fun W (hb : Below w.heap.size w W) => few27_any a b ta tb va vb vta vtb A nf cf W (h1.keep hb) (h2.keep hb) (t1.keep hb) (t2.keep hb)
  have hIa := fun W (hb : Below w.heap.size w W) => h1.keep hb
  have hIb := fun W (hb : Below w.heap.size w W) => h2.keep hb
  have cCo := fun W (hb : Below w.heap.size w W) => consP_any a b va vb W (h1.keep hb) (h2.keep hb)
  have cX := fun W (hb : Below w.heap.size w W) => exchange_any a b ta tb f kind count ⟨rq, rp, ra, rk⟩ va vb vta vtb A nf cf W (h1.keep hb) (h2.keep hb) (t1.keep hb) (t2.keep hb) (hf.keep hb)
  have cX2 := fun W (hb : Below w.heap.size w W) => exchange_any a b ta tb f kind count ⟨rq, rp, false, false⟩ va vb vta vtb A nf cf W (h1.keep hb) (h2.keep hb) (t1.keep hb) (t2.keep hb) (hf.keep hb)
  unfold ExPost at cX cX2
  have cSa := fun x vx W (q : EdIs W vx x) (hb : Below w.heap.size w W) => sameE_any x a vx va W q (h1.keep hb)
  have cSb := fun x vx W (q : EdIs W vx x) (hb : Below w.heap.size w W) => sameE_any x b vx vb W q (h2.keep hb)
  have cSS := fun x vx vy W (q1 : EdIs W vx x) (q2 : EdIs W vy x) => sameE_any x x vx vy W q1 q2
  have hL : few27 a b ta tb nf = true → consB a b = true → exC a b ta tb f kind count = 0 → LossLaw a b rq rp (exN a b ta tb f kind count ⟨rq, rp, ra, rk⟩) (exN a b ta tb f kind count ⟨rq, rp, false, false⟩) := fun q1 q2 q4 => loss_law q1 q2 q4
  generalize exN a b ta tb f kind count ⟨rq, rp, ra, rk⟩ = XN at *
  generalize exN a b ta tb f kind count ⟨rq, rp, false, false⟩ = XM at *
  generalize exC a b ta tb f kind count = XC at *
  generalize few27 a b ta tb nf = FW at *
  generalize hCB : consB a b = CB at *
  replace hCB := Lib.hid hCB
  replace cAw := Lib.hid cAw
  replace cFw := Lib.hid cFw
  replace hIa := Lib.hid hIa
  replace hIb := Lib.hid hIb
  replace cCo := Lib.hid cCo
  replace cX := Lib.hid cX
  replace cX2 := Lib.hid cX2
  replace cSa := Lib.hid cSa
  replace cSb := Lib.hid cSb
  replace cSS := Lib.hid cSS
  replace hL := Lib.hid hL
  replace uC := Lib.hid uC
  replace uY := Lib.hid uY
  replace h1 := Lib.hid h1
  replace h2 := Lib.hid h2
  replace t1 := Lib.hid t1
  replace t2 := Lib.hid t2
  replace hf := Lib.hid hf
  replace uE := Lib.hid uE
  replace uT := Lib.hid uT
  replace uM := Lib.hid uM
  go_enter Tryz.func8, Tryz.ntmps8
  have mk1 : Unit := ()
  have mk2 : Unit := ()
  go_upto_region 1 with (first | go_skip | (clear mk1; refine wpList_boxA HM rfl 43 _ rfl _ rfl ?_; clear HM; intro gc w1 HM hG; replace hF := Lib.hid (hFs.keep hF.out hG.out); clear hG) | (clear mk2; refine wpList_boxA HM rfl 45 _ rfl _ rfl ?_; clear HM; intro gy w1 HM hG; replace hF := Lib.hid (hFs.keep hF.out hG.out); clear hG) | fail)
  have mk3 : Unit := ()
  go_upto_region 3 with (first | go_skip | (go_at_call 19; clear mk3; refine (cAw.out _).mono ?_; rintro r w3 ⟨rfl, hb_⟩; replace HM := Lib.hid (HM.out.keep hb_); replace hF := Lib.hid (hFs.keep hF.out hb_); clear hb_; dsimp only) | fail)
  have mk4 : Unit := ()
  have mk5 : Unit := ()
  cases FW
  case false =>
    go_wp2_with (first | go_skip | (refine wpList_loadG 1 HM (by rfl) _ _ rfl _ rfl rfl _ uC.out rfl (by exact zcp) ?_) | (refine wpList_loadP 1 HM (by rfl) _ _ rfl _ 0 rfl rfl (endA a va) (by kernel_rfl) _ uE.out rfl (by exact zend) ?_) | (refine wpList_loadP 1 HM (by rfl) _ _ rfl _ 28 rfl rfl (endA b vb) (by kernel_rfl) _ uE.out rfl (by exact zend) ?_) | (go_at_call 24; clear mk4; refine (cFw.out _ HM.out.below).mono ?_; rintro r w3 ⟨rfl, hb_⟩; replace HM := Lib.hid (HM.out.keep hb_); replace hF := Lib.hid (hFs.keep hF.out hb_); clear hb_; dsimp only) | (go_at_call 20; clear mk5; refine (cCo.out _ HM.out.below).mono ?_; rintro r w3 ⟨rfl, hb_⟩; replace HM := Lib.hid (HM.out.keep hb_); replace hF := Lib.hid (hFs.keep hF.out hb_); clear hb_; dsimp only) | fail)
    try simp only [Exit.inBlock, Exit.then]
    go_ret
    exact ⟨by first | rfl | trivial, HM.out.below⟩
  cases CB
  case false =>
    go_wp2_with (first | go_skip | (refine wpList_loadG 1 HM (by rfl) _ _ rfl _ rfl rfl _ uC.out rfl (by exact zcp) ?_) | (refine wpList_loadP 1 HM (by rfl) _ _ rfl _ 0 rfl rfl (endA a va) (by kernel_rfl) _ uE.out rfl (by exact zend) ?_) | (refine wpList_loadP 1 HM (by rfl) _ _ rfl _ 28 rfl rfl (endA b vb) (by kernel_rfl) _ uE.out rfl (by exact zend) ?_) | (go_at_call 24; clear mk4; refine (cFw.out _ HM.out.below).mono ?_; rintro r w3 ⟨rfl, hb_⟩; replace HM := Lib.hid (HM.out.keep hb_); replace hF := Lib.hid (hFs.keep hF.out hb_); clear hb_; dsimp only) | (go_at_call 20; clear mk5; refine (cCo.out _ HM.out.below).mono ?_; rintro r w3 ⟨rfl, hb_⟩; replace HM := Lib.hid (HM.out.keep hb_); replace hF := Lib.hid (hFs.keep hF.out hb_); clear hb_; dsimp only) | fail)
    try simp only [Exit.inBlock, Exit.then]
    go_ret
    exact ⟨by first | rfl | trivial, HM.out.below⟩
  have hL2 := Lib.hid (hL.out rfl rfl)
  clear hL
  go_upto_region 5 with (first | go_skip | (refine wpList_loadG 1 HM (by rfl) _ _ rfl _ rfl rfl _ uC.out rfl (by exact zcp) ?_) | (refine wpList_loadP 1 HM (by rfl) _ _ rfl _ 0 rfl rfl (endA a va) (by kernel_rfl) _ uE.out rfl (by exact zend) ?_) | (refine wpList_loadP 1 HM (by rfl) _ _ rfl _ 28 rfl rfl (endA b vb) (by kernel_rfl) _ uE.out rfl (by exact zend) ?_) | (go_at_call 24; clear mk4; refine (cFw.out _ HM.out.below).mono ?_; rintro r w3 ⟨rfl, hb_⟩; replace HM := Lib.hid (HM.out.keep hb_); replace hF := Lib.hid (hFs.keep hF.out hb_); clear hb_; dsimp only) | (go_at_call 20; clear mk5; refine (cCo.out _ HM.out.below).mono ?_; rintro r w3 ⟨rfl, hb_⟩; replace HM := Lib.hid (HM.out.keep hb_); replace hF := Lib.hid (hFs.keep hF.out hb_); clear hb_; dsimp only) | fail)
  clear cFw cCo cAw hCB
  have p62 : World.cell? _ ⟨gc, 62, none⟩ = some (.slice A nf cf) := HM.out.cell 1 rfl 62
  by_cases e0 : XC = 0
  case neg =>
    have d0 : (XC != 0) = true := by rw [bne_iff_ne]; exact e0
    replace e0 := Lib.hid e0
    obtain ⟨A1, B1, cd⟩ := XN
    dsimp only at cX
    have mk6 : Unit := ()
    have mk7 : Unit := ()
    have mk8 : Unit := ()
    go_wp2_with (first | go_skip | (refine wpList_loadP 1 HM (by rfl) _ _ rfl _ 0 rfl rfl (endA a va) (by kernel_rfl) _ uE.out rfl (by exact zend) ?_) | (refine wpList_loadP 1 HM (by rfl) _ _ rfl _ 28 rfl rfl (endA b vb) (by kernel_rfl) _ uE.out rfl (by exact zend) ?_) | (refine wpList_loadP 1 HM (by rfl) _ _ rfl _ 56 rfl rfl (tabA ta vta) (by kernel_rfl) _ uT.out rfl (by exact ztab) ?_) | (refine wpList_loadP 1 HM (by rfl) _ _ rfl _ 59 rfl rfl (tabA tb vtb) (by kernel_rfl) _ uT.out rfl (by exact ztab) ?_) | (refine wpList_loadG 0 HM (by rfl) _ _ rfl _ rfl rfl _ uY.out rfl (by exact zfa) ?_) | (go_at_call 25; clear mk6; refine (cX.out _ HM.out.below).mono ?_; rintro r w3 ⟨v1, v2, rfl, hE, hO5, hb_⟩; clear p62; replace HM := Lib.hid (HM.out.keep hb_); replace hF := Lib.hid (hFs.keep hF.out hb_); clear hb_; obtain ⟨F1, hFs2, hF2, hU, hNw⟩ := stb_add hFs hF (Stb.ed v1 _) hE; clear hFs hF; have gA := Lib.hid hNw; clear hNw hU; have hFs := hFs2; have hF := hF2; clear hFs2 hF2 hE; obtain ⟨F2, hFs2, hF2, hU, hNw⟩ := stb_add hFs hF (Stb.ownB _ _ v2 _) hO5; clear hFs hF; replace gA := Lib.hid (fun W h => gA.out W (hU W h)); have gB := Lib.hid hNw; clear hNw hU; have hFs := hFs2; have hF := hF2; clear hFs2 hF2 hO5; dsimp only) | (clear mk7; refine wpList_allocN HM rfl 27 rfl edInfo ?_; clear HM; intro g9 w1 HM hG hN9; replace hF := Lib.hid (hFs.keep hF.out hG.out); clear hG hN9) | (clear mk8; refine wpList_allocN HM rfl 27 rfl edInfo ?_; clear HM; intro g10 w1 HM hG hN9; replace hF := Lib.hid (hFs.keep hF.out hG.out); clear hG hN9) | (refine wpList_storeF 1 HM rfl _ _ _ rfl _ rfl rfl _ rfl (by exact zend) (by rfl) (by rfl) ?_; have hBq := HM.out.at_ 1 rfl; clear HM; intro w4 HM hG4; simp only [List.set] at HM; replace hF := Lib.hid (hFs.put hF.out hBq (by decide) (by decide) hG4.out); clear hBq hG4) | (refine wpList_storeF 0 HM rfl _ _ _ rfl _ rfl rfl _ rfl (by exact zend) (by rfl) (by rfl) ?_; have hBq := HM.out.at_ 0 rfl; clear HM; intro w4 HM hG4; simp only [List.set] at HM; replace hF := Lib.hid (hFs.put hF.out hBq (by decide) (by decide) hG4.out); clear hBq hG4) | fail)
    try simp only [Exit.inBlock, Exit.then]
    go_ret
    exact ⟨by first | rfl | trivial, HM.out.below⟩
  obtain ⟨htwo, hreq, hrep, hboth⟩ := hL2.out e0
  subst htwo
  subst e0
  clear hL2
  obtain ⟨A1, B1, cd⟩ := XM
  dsimp only at cX cX2 hreq hrep hboth
  have cS3 := Lib.hid (cSS.out A1)
  have cS4 := Lib.hid (cSS.out B1)
  rw [decide_eq_true rfl] at cS3 cS4
  clear cSS
  replace hreq := Lib.hid hreq
  replace hrep := Lib.hid hrep
  replace hboth := Lib.hid hboth
  have mk6 : Unit := ()
  have mk7 : Unit := ()
  have mk8 : Unit := ()
  go_upto_region 6 with (first | go_skip | (refine wpList_loadP 1 HM (by rfl) _ _ rfl _ 0 rfl rfl (endA a va) (by kernel_rfl) _ uE.out rfl (by exact zend) ?_) | (refine wpList_loadP 1 HM (by rfl) _ _ rfl _ 28 rfl rfl (endA b vb) (by kernel_rfl) _ uE.out rfl (by exact zend) ?_) | (refine wpList_loadP 1 HM (by rfl) _ _ rfl _ 56 rfl rfl (tabA ta vta) (by kernel_rfl) _ uT.out rfl (by exact ztab) ?_) | (refine wpList_loadP 1 HM (by rfl) _ _ rfl _ 59 rfl rfl (tabA tb vtb) (by kernel_rfl) _ uT.out rfl (by exact ztab) ?_) | (refine wpList_loadG 0 HM (by rfl) _ _ rfl _ rfl rfl _ uY.out rfl (by exact zfa) ?_) | (go_at_call 25; clear mk6; refine (cX.out _ HM.out.below).mono ?_; rintro r w3 ⟨v1, v2, rfl, hE, hO5, hb_⟩; clear p62; replace HM := Lib.hid (HM.out.keep hb_); replace hF := Lib.hid (hFs.keep hF.out hb_); clear hb_; obtain ⟨F1, hFs2, hF2, hU, hNw⟩ := stb_add hFs hF (Stb.ed v1 _) hE; clear hFs hF; have gA := Lib.hid hNw; clear hNw hU; have hFs := hFs2; have hF := hF2; clear hFs2 hF2 hE; obtain ⟨F2, hFs2, hF2, hU, hNw⟩ := stb_add hFs hF (Stb.ownB _ _ v2 _) hO5; clear hFs hF; replace gA := Lib.hid (fun W h => gA.out W (hU W h)); have gB := Lib.hid hNw; clear hNw hU; have hFs := hFs2; have hF := hF2; clear hFs2 hF2 hO5; dsimp only) | (clear mk7; refine wpList_allocN HM rfl 27 rfl edInfo ?_; clear HM; intro g9 w1 HM hG hN9; replace hF := Lib.hid (hFs.keep hF.out hG.out); clear hG hN9) | (clear mk8; refine wpList_allocN HM rfl 27 rfl edInfo ?_; clear HM; intro g10 w1 HM hG hN9; replace hF := Lib.hid (hFs.keep hF.out hG.out); clear hG hN9) | (refine wpList_storeF 1 HM rfl _ _ _ rfl _ rfl rfl _ rfl (by exact zend) (by rfl) (by rfl) ?_; have hBq := HM.out.at_ 1 rfl; clear HM; intro w4 HM hG4; simp only [List.set] at HM; replace hF := Lib.hid (hFs.put hF.out hBq (by decide) (by decide) hG4.out); clear hBq hG4) | (refine wpList_storeF 0 HM rfl _ _ _ rfl _ rfl rfl _ rfl (by exact zend) (by rfl) (by rfl) ?_; have hBq := HM.out.at_ 0 rfl; clear HM; intro w4 HM hG4; simp only [List.set] at HM; replace hF := Lib.hid (hFs.put hF.out hBq (by decide) (by decide) hG4.out); clear hBq hG4) | fail)
  go_upto_region 8 with fail
  have p62 : World.cell? _ ⟨gc, 62, none⟩ = some (.slice A nf cf) := HM.out.cell 3 rfl 62
  have y0 : World.cell? _ ⟨gy, 0, none⟩ = some (.bool rq) := HM.out.cell 2 rfl 0
  have y1 : World.cell? _ ⟨gy, 1, none⟩ = some (.bool rp) := HM.out.cell 2 rfl 1
  have mk9 : Unit := ()
  have mk10 : Unit := ()
  have mk11 : Unit := ()
  go_upto_region 9 with (first | go_skip | (refine wpList_loadP 3 HM (by rfl) _ _ rfl _ 0 rfl rfl (endA a va) (by kernel_rfl) _ uE.out rfl (by exact zend) ?_) | (refine wpList_loadP 3 HM (by rfl) _ _ rfl _ 28 rfl rfl (endA b vb) (by kernel_rfl) _ uE.out rfl (by exact zend) ?_) | (refine wpList_loadP 3 HM (by rfl) _ _ rfl _ 56 rfl rfl (tabA ta vta) (by kernel_rfl) _ uT.out rfl (by exact ztab) ?_) | (refine wpList_loadP 3 HM (by rfl) _ _ rfl _ 59 rfl rfl (tabA tb vtb) (by kernel_rfl) _ uT.out rfl (by exact ztab) ?_) | (go_at_call 25; clear mk9; refine (cX2.out _ HM.out.below).mono ?_; rintro r w3 ⟨v3, v4, rfl, hE, hO5, hb_⟩; clear p62 y0 y1; replace HM := Lib.hid (HM.out.keep hb_); replace hF := Lib.hid (hFs.keep hF.out hb_); clear hb_; obtain ⟨F3, hFs2, hF2, hU, hNw⟩ := stb_add hFs hF (Stb.ed v3 _) hE; clear hFs hF; replace gA := Lib.hid (fun W h => gA.out W (hU W h)); replace gB := Lib.hid (fun W h => gB.out W (hU W h)); have gC := Lib.hid hNw; clear hNw hU; have hFs := hFs2; have hF := hF2; clear hFs2 hF2 hE; obtain ⟨F4, hFs2, hF2, hU, hNw⟩ := stb_add hFs hF (Stb.ownB _ _ v4 _) hO5; clear hFs hF; replace gA := Lib.hid (fun W h => gA.out W (hU W h)); replace gB := Lib.hid (fun W h => gB.out W (hU W h)); replace gC := Lib.hid (fun W h => gC.out W (hU W h)); have gD := Lib.hid hNw; clear hNw hU; have hFs := hFs2; have hF := hF2; clear hFs2 hF2 hO5; dsimp only) | (clear mk10; refine wpList_allocN HM rfl 27 rfl edInfo ?_; clear HM; intro g13 w1 HM hG hN9; replace hF := Lib.hid (hFs.keep hF.out hG.out); clear hG hN9) | (clear mk11; refine wpList_allocN HM rfl 27 rfl edInfo ?_; clear HM; intro g14 w1 HM hG hN9; replace hF := Lib.hid (hFs.keep hF.out hG.out); clear hG hN9) | (refine wpList_storeF 1 HM rfl _ _ _ rfl _ rfl rfl _ rfl (by exact zend) (by rfl) (by rfl) ?_; have hBq := HM.out.at_ 1 rfl; clear HM; intro w4 HM hG4; simp only [List.set] at HM; replace hF := Lib.hid (hFs.put hF.out hBq (by decide) (by decide) hG4.out); clear hBq hG4) | (refine wpList_storeF 0 HM rfl _ _ _ rfl _ rfl rfl _ rfl (by exact zend) (by rfl) (by rfl) ?_; have hBq := HM.out.at_ 0 rfl; clear HM; intro w4 HM hG4; simp only [List.set] at HM; replace hF := Lib.hid (hFs.put hF.out hBq (by decide) (by decide) hG4.out); clear hBq hG4) | fail)
  have mk12 : Unit := ()
  have mk13 : Unit := ()
  go_upto_region 11 with (first | go_skip | (refine wpList_loadG 3 HM (by rfl) _ _ rfl _ rfl rfl _ uE.out rfl (by exact zend) ?_) | (refine wpList_loadG 1 HM (by rfl) _ _ rfl _ rfl rfl _ uE.out rfl (by exact zend) ?_) | (refine wpList_loadG 2 HM (by rfl) _ _ rfl _ rfl rfl _ uE.out rfl (by exact zend) ?_) | (refine wpList_loadG 0 HM (by rfl) _ _ rfl _ rfl rfl _ uE.out rfl (by exact zend) ?_) | (go_at_call 17; clear mk12; refine (cS3.out _ _ _ (gA.out _ hF.out).is (gC.out _ hF.out).is).mono ?_; rintro r w3 ⟨rfl, hb_⟩; replace HM := Lib.hid (HM.out.keep hb_); replace hF := Lib.hid (hFs.keep hF.out hb_); clear hb_; dsimp only) | (go_at_call 17; clear mk13; refine (cS4.out _ _ _ ((gB.out _ hF.out).is (hIb.out _ HM.out.below)) ((gD.out _ hF.out).is (hIb.out _ HM.out.below))).mono ?_; rintro r w3 ⟨rfl, hb_⟩; replace HM := Lib.hid (HM.out.keep hb_); replace hF := Lib.hid (hFs.keep hF.out hb_); clear hb_; dsimp only) | fail)
  have y0 : World.cell? _ ⟨gy, 0, none⟩ = some (.bool rq) := HM.out.cell 4 rfl 0
  have y1 : World.cell? _ ⟨gy, 1, none⟩ = some (.bool rp) := HM.out.cell 4 rfl 1
  clear cS3 cS4
  cases rq
  case true =>
    have hq := hreq.out rfl
    injection hq with q1 q2
    injection q2 with q2 q3
    subst q3
    have cS1 := Lib.hid (cSa.out A1 v1)
    rw [decide_eq_true q1] at cS1
    have cS2 := Lib.hid (cSb.out B1 v2)
    rw [decide_eq_true q2] at cS2
    replace q1 := Lib.hid q1
    replace q2 := Lib.hid q2
    have mk14 : Unit := ()
    have mk15 : Unit := ()
    go_wp2_with (first | go_skip | (refine wpList_loadG 3 HM (by rfl) _ _ rfl _ rfl rfl _ uE.out rfl (by exact zend) ?_) | (refine wpList_loadG 2 HM (by rfl) _ _ rfl _ rfl rfl _ uE.out rfl (by exact zend) ?_) | (refine wpList_loadP 5 HM (by rfl) _ _ rfl _ 0 rfl rfl (endA a va) (by kernel_rfl) _ uE.out rfl (by exact zend) ?_) | (refine wpList_loadP 5 HM (by rfl) _ _ rfl _ 28 rfl rfl (endA b vb) (by kernel_rfl) _ uE.out rfl (by exact zend) ?_) | (go_at_call 17; clear mk14; refine (cS1.out _ (gA.out _ hF.out).is HM.out.below).mono ?_; rintro r w3 ⟨rfl, hb_⟩; replace HM := Lib.hid (HM.out.keep hb_); replace hF := Lib.hid (hFs.keep hF.out hb_); clear hb_; dsimp only) | (go_at_call 17; clear mk15; refine (cS2.out _ ((gB.out _ hF.out).is (hIb.out _ HM.out.below)) HM.out.below).mono ?_; rintro r w3 ⟨rfl, hb_⟩; replace HM := Lib.hid (HM.out.keep hb_); replace hF := Lib.hid (hFs.keep hF.out hb_); clear hb_; dsimp only) | fail)
    try simp only [Exit.inBlock, Exit.then]
    go_ret
    exact ⟨by first | rfl | trivial, HM.out.below⟩
  cases rp
  case true =>
    obtain ⟨hc, hq, hcn⟩ := hrep.out rfl rfl
    subst hc
    have cS1 := Lib.hid (cSa.out A1 v1)
    rw [decide_eq_true hq] at cS1
    have cC5 := fun W q1 q2 => consP_any A1 B1 v1 v2 W q1 q2
    rw [hcn] at cC5
    replace hq := Lib.hid hq
    replace hcn := Lib.hid hcn
    replace cC5 := Lib.hid cC5
    go_upto_region 14 with fail
    replace hF := Lib.hid (hFs.keep hF.out ((Below.refl _ _).drew))
    replace HM := Lib.hid (HM.out.keep ((Below.refl _ _).drew))
    have HMs := Lib.hid HM.out
    refine wp_region_plan (fun w' => Mem _ w' _) 18 [(0, true), (1, true), (2, true), (3, true), (4, true), (5, true), (6, false), (7, true), (8, true), (9, true), (10, true), (12, true), (13, true), (14, true), (15, true), (16, true), (17, true), (11, false)] (by kernel_rfl) (by kernel_rfl) HMs.out ?_
    generalize World.drew _ = wd at *
    refine plPureG rfl rfl (by intro w_ hSw; go_simp; first | done | exact rfl) ?_
    try simp only [Act.put, List.setIfInBounds_toArray, List.set_cons_zero, List.set_cons_succ, List.getElem_toArray, List.getElem_cons_succ, List.getElem_cons_zero]
    refine plPureG rfl rfl (by intro w_ hSw; go_simp; first | done | exact rfl) ?_
    try simp only [Act.put, List.setIfInBounds_toArray, List.set_cons_zero, List.set_cons_succ, List.getElem_toArray, List.getElem_cons_succ, List.getElem_cons_zero]
    refine plPureG rfl rfl (by intro w_ hSw; go_simp; first | done | exact rfl) ?_
    try simp only [Act.put, List.setIfInBounds_toArray, List.set_cons_zero, List.set_cons_succ, List.getElem_toArray, List.getElem_cons_succ, List.getElem_cons_zero]
    refine plTakeL rfl (yields_memG rfl _ _ rfl 3 (fun w_ hSw => hSw) rfl rfl _ uE.out rfl (by exact zend)) ?_
    try simp only [Act.put, List.setIfInBounds_toArray, List.set_cons_zero, List.set_cons_succ, List.getElem_toArray, List.getElem_cons_succ, List.getElem_cons_zero]
    refine plPureG rfl rfl (by intro w_ hSw; go_simp; first | done | exact rfl) ?_
    try simp only [Act.put, List.setIfInBounds_toArray, List.set_cons_zero, List.set_cons_succ, List.getElem_toArray, List.getElem_cons_succ, List.getElem_cons_zero]
    refine plTakeL rfl (yields_parG rfl _ _ rfl 5 (fun w_ hSw => hSw) rfl 0 rfl (endA a va) (by kernel_rfl) _ uE.out rfl (by exact zend)) ?_
    try simp only [Act.put, List.setIfInBounds_toArray, List.set_cons_zero, List.set_cons_succ, List.getElem_toArray, List.getElem_cons_succ, List.getElem_cons_zero]
    refine plStepG rfl rfl fun K hK => ?_
    go_wp2_with (first | (go_at_call 17; refine (cS1.out _ (gA.out _ hF.out).is HM.out.below).mono ?_; rintro r w3 ⟨rfl, hb_⟩) | fail)
    refine hK.out _ _ (HMs.out.keep hb_) fun hS_ => ?_
    clear hK K hS_
    try simp only [Act.put, List.setIfInBounds_toArray, List.set_cons_zero, List.set_cons_succ, List.getElem_toArray, List.getElem_cons_succ, List.getElem_cons_zero]
    replace HM := Lib.hid (HM.out.keep hb_)
    replace HMs := Lib.hid (HMs.out.keep hb_)
    replace hF := Lib.hid (hFs.keep hF.out hb_)
    clear hb_
    refine plPureG rfl rfl (by intro w_ hSw; go_simp; first | done | exact rfl) ?_
    try simp only [Act.put, List.setIfInBounds_toArray, List.set_cons_zero, List.set_cons_succ, List.getElem_toArray, List.getElem_cons_succ, List.getElem_cons_zero]
    refine plPureG rfl rfl (by intro w_ hSw; go_simp; first | done | exact rfl) ?_
    try simp only [Act.put, List.setIfInBounds_toArray, List.set_cons_zero, List.set_cons_succ, List.getElem_toArray, List.getElem_cons_succ, List.getElem_cons_zero]
    refine plTakeL rfl (yields_memG rfl _ _ rfl 3 (fun w_ hSw => hSw) rfl rfl _ uE.out rfl (by exact zend)) ?_
    try simp only [Act.put, List.setIfInBounds_toArray, List.set_cons_zero, List.set_cons_succ, List.getElem_toArray, List.getElem_cons_succ, List.getElem_cons_zero]
    refine plTakeL rfl (yields_memG rfl _ _ rfl 2 (fun w_ hSw => hSw) rfl rfl _ uE.out rfl (by exact zend)) ?_
    try simp only [Act.put, List.setIfInBounds_toArray, List.set_cons_zero, List.set_cons_succ, List.getElem_toArray, List.getElem_cons_succ, List.getElem_cons_zero]
    refine plPureG rfl rfl (by intro w_ hSw; go_simp; first | done | exact rfl) ?_
    try simp only [Act.put, List.setIfInBounds_toArray, List.set_cons_zero, List.set_cons_succ, List.getElem_toArray, List.getElem_cons_succ, List.getElem_cons_zero]
    refine plTakeL rfl (yields_celG rfl _ _ rfl 2 (fun w_ hSw => hSw) rfl 2 rfl (.int .i64 B1.number) (by rfl) _ Tryz.underlying3 (by rfl)) ?_
    try simp only [Act.put, List.setIfInBounds_toArray, List.set_cons_zero, List.set_cons_succ, List.getElem_toArray, List.getElem_cons_succ, List.getElem_cons_zero]
    refine plPureG rfl rfl (by intro w_ hSw; go_simp; first | done | exact rfl) ?_
    try simp only [Act.put, List.setIfInBounds_toArray, List.set_cons_zero, List.set_cons_succ, List.getElem_toArray, List.getElem_cons_succ, List.getElem_cons_zero]
    refine plPureG rfl rfl (by intro w_ hSw; go_simp; first | done | exact rfl) ?_
    try simp only [Act.put, List.setIfInBounds_toArray, List.set_cons_zero, List.set_cons_succ, List.getElem_toArray, List.getElem_cons_succ, List.getElem_cons_zero]
    refine plTakeL rfl (yields_celG rfl _ _ rfl 5 (fun w_ hSw => hSw) rfl 30 rfl (.int .i64 b.number) (by rfl) _ Tryz.underlying3 (by rfl)) ?_
    try simp only [Act.put, List.setIfInBounds_toArray, List.set_cons_zero, List.set_cons_succ, List.getElem_toArray, List.getElem_cons_succ, List.getElem_cons_zero]
    refine plPureG rfl rfl (by intro w_ hSw; go_simp; first | done | exact rfl) ?_
    try simp only [Act.put, List.setIfInBounds_toArray, List.set_cons_zero, List.set_cons_succ, List.getElem_toArray, List.getElem_cons_succ, List.getElem_cons_zero]
    refine plStepG rfl rfl fun K hK => ?_
    go_wp2_with (first | (go_at_call 20; refine (cC5.out _ (gA.out _ hF.out).is ((gB.out _ hF.out).is (hIb.out _ HM.out.below))).mono ?_; rintro r w3 ⟨rfl, hb_⟩) | fail)
    refine hK.out _ _ (HMs.out.keep hb_) fun hS_ => ?_
    clear hK K hS_
    try simp only [Act.put, List.setIfInBounds_toArray, List.set_cons_zero, List.set_cons_succ, List.getElem_toArray, List.getElem_cons_succ, List.getElem_cons_zero]
    replace HM := Lib.hid (HM.out.keep hb_)
    replace HMs := Lib.hid (HMs.out.keep hb_)
    replace hF := Lib.hid (hFs.keep hF.out hb_)
    clear hb_
    refine plDone ?_
    simp only [List.drop]
    have d9 : (decide (B1.number = b.number) == (B1.number == b.number)) = true := by by_cases e : B1.number = b.number <;> simp [e]
    go_wp2_with fail
    try simp only [Exit.inBlock, Exit.then]
    go_ret
    exact ⟨by first | rfl | trivial, HM.out.below⟩
  obtain ⟨hc1, hc3, hcn⟩ := hboth.out rfl rfl
  have cC5 := fun W q1 q2 => consP_any A1 B1 v1 v2 W q1 q2
  rw [hcn] at cC5
  replace hcn := Lib.hid hcn
  replace cC5 := Lib.hid cC5
  have d1 : (cd != 1) = true := by rw [bne_iff_ne]; exact hc1
  have d3 : (cd != 3) = true := by rw [bne_iff_ne]; exact hc3
  replace hc1 := Lib.hid hc1
  replace hc3 := Lib.hid hc3
  have mk14 : Unit := ()
  go_wp2_with (first | go_skip | (refine wpList_loadG 3 HM (by rfl) _ _ rfl _ rfl rfl _ uE.out rfl (by exact zend) ?_) | (refine wpList_loadG 2 HM (by rfl) _ _ rfl _ rfl rfl _ uE.out rfl (by exact zend) ?_) | (go_at_call 20; clear mk14; refine (cC5.out _ (gA.out _ hF.out).is ((gB.out _ hF.out).is (hIb.out _ HM.out.below))).mono ?_; rintro r w3 ⟨rfl, hb_⟩; replace HM := Lib.hid (HM.out.keep hb_); replace hF := Lib.hid (hFs.keep hF.out hb_); clear hb_; dsimp only) | fail)
  try simp only [Exit.inBlock, Exit.then]
  go_ret
  exact ⟨by first | rfl | trivial, HM.out.below⟩
end Tx
end Go.Proofs.YtfoffooblkofhaaGreat
