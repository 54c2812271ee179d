/- Chapter 27: the law Detects. -/
import Derived.Test.YtfoffooblkofhaaGreatEr
import Derived.Test.YtfoffooblkofhaaGreatEs
import Derived.Test.YtfoffooblkofhaaGreatEg
import Derived.Test.YtfoffooblkofhaaGreatCc
set_option linter.unusedVariables false
set_option linter.unusedSimpArgs false
namespace Go.Proofs.YtfoffooblkofhaaGreat
open Go Go.RowKit Go.Sort Go.Shelf Go.Maps
namespace Tx
open Sw Mm Pl
/-- tables and ends that are few have room -/
theorem few_small {a b : Ed} {ta tb : Tab} {nf : Nat} (h : few27 a b ta tb nf = true) : (FullOk ta a → Room ta a) ∧ (FullOk tb b → Room tb b) := by
  unfold few27 at h
  simp only [Bool.and_eq_true] at h
  exact ⟨fun hF => few_room h.1 h.2.2.1 hF, fun hF => few_room h.2.1 h.2.2.2.1 hF⟩
theorem exC_zero {a b : Ed} {ta tb : Tab} {f : List Int} {kind count : Int} (h : exC a b ta tb f kind count = 0) : Idle a b ta tb ∧ askC a ta f kind count 0 = 0 := by
  unfold exC at h
  split at h
  · exact absurd h (by assumption)
  · rename_i h1
    exact ⟨idleC_iff.1 (Decidable.not_not.1 h1), h⟩
theorem ex_run {a b : Ed} {ta tb : Tab} {f : List Int} {kind count : Int} {nf : Nat} (hw : few27 a b ta tb nf = true) (h : exC a b ta tb f kind count = 0) : Idle a b ta tb ∧ ∃ m y r z, RunIs a b ta tb f kind count m y r z ∧ ∀ x : Fate, exN a b ta tb f kind count x = if x.request = true then (a, b, -1) else if x.reply = true then (a, y, -1) else (z, y, r.code) := by
  obtain ⟨hi, ha⟩ := exC_zero h
  obtain ⟨q1, q2⟩ := few_small hw
  obtain ⟨m, y, r, z, hR⟩ := run_is hi (q1 hi.fa) (q2 hi.fb) ha
  refine ⟨hi, m, y, r, z, hR, fun x => ?_⟩
  unfold exN
  rw [if_pos h, hR.run]
structure DetLaw (a b : Ed) (rq rp : Bool) (X : Ed × Ed × Int) : Prop where
  same : X.2.1 = b
  lost : rq = true ∨ rp = true → X.2.2 = -1 ∧ X.1 = a
  code : rq = false → rp = false → X.2.2 ≠ 1 → b.known = true ∧ b.last.number = a.number
  one : rq = false → rp = false → X.2.2 = 1 → X.1 = a
theorem det_law {a b : Ed} {ta tb : Tab} {f : List Int} {kind count : Int} {nf : Nat} {rq rp ra rk : Bool} (hw : few27 a b ta tb nf = true) (hd : detB a b = true) (h6 : kind ≠ 6) (h : exC a b ta tb f kind count = 0) : DetLaw a b rq rp (exN a b ta tb f kind count ⟨rq, rp, ra, rk⟩) := by
  obtain ⟨hi, m, y, r, z, hR, hx⟩ := ex_run hw h
  rw [hx]
  have hn : a.number ≠ b.number := by
    unfold detB at hd
    rw [Bool.and_eq_true] at hd
    simpa using hd.2
  obtain ⟨rfl, q2, q3⟩ := detects_ok hR hn h6
  cases rq
  · cases rp
    · exact ⟨rfl, (fun h => by rcases h with h | h <;> cases h), fun _ _ => q2, fun _ _ => q3⟩
    · exact ⟨rfl, fun _ => ⟨rfl, rfl⟩, (fun _ e => by cases e), (fun _ e => by cases e)⟩
  · exact ⟨rfl, fun _ => ⟨rfl, rfl⟩, (fun e => by cases e), (fun e => by cases e)⟩
set_option maxRecDepth 100000 in
set_option maxHeartbeats 16000000 in
theorem lawDetects_any (a b : Ed) (ta tb : Tab) (f : List Int) (kind count : Int) (rq rp ra rk : Bool) (va vb : EdV) (vta vtb : TabV) (A : Option Addr) (nf cf : Nat) (w : World) (h1 : EdIs w va a) (h2 : EdIs w vb b) (t1 : TabIs w vta ta) (t2 : TabIs w vtb tb) (hf : IntS w A nf f) : Calls Tryz.prog 7 #[.agg (cplA a va b vb ta vta tb vtb A nf cf), .int .i64 kind, .int .i64 count, .agg (fateA ⟨rq, rp, ra, rk⟩)] w fun r w' => r = .returned (.bool true) ∧ Below w.heap.size w w' := by
  have HM := Lib.hid (Mem.start w)
  obtain ⟨F0, hFs, hF⟩ : ∃ F : World → Prop, Stb F ∧ Hid (F w) := ⟨_, Stb.true, trivial⟩
  have uE := Tryz.underlying27
  have uT := Tryz.underlying29
  have uM := Tryz.underlying25
  have cAw := fun W => awake27_any W
  have uC := Tryz.underlying43
  have uY := Tryz.underlying45
  have cFw := fun W (hb : Below w.heap.size w W) => few27_any a b ta tb va vb vta vtb A nf cf W (h1.keep hb) (h2.keep hb) (t1.keep hb) (t2.keep hb)
  have hIa := fun W (hb : Below w.heap.size w W) => h1.keep hb
  have hIb := fun W (hb : Below w.heap.size w W) => h2.keep hb
  have cD := fun W (hb : Below w.heap.size w W) => detP_any a b va vb W (h1.keep hb) (h2.keep hb)
  have cX := fun W (hb : Below w.heap.size w W) => exchange_any a b ta tb f kind count ⟨rq, rp, ra, rk⟩ va vb vta vtb A nf cf W (h1.keep hb) (h2.keep hb) (t1.keep hb) (t2.keep hb) (hf.keep hb)
  unfold ExPost at cX
  have cS := fun x vx W (q : EdIs W vx x) (hb : Below w.heap.size w W) => sameE_any x a vx va W q (h1.keep hb)
  have cS2 := fun vx W (q : EdIs W vx b) (hb : Below w.heap.size w W) => sameE_any b b vx vb W q (h2.keep hb)
  rw [decide_eq_true rfl] at cS2
  have hL : few27 a b ta tb nf = true → detB a b = true → kind ≠ 6 → exC a b ta tb f kind count = 0 → DetLaw a b rq rp (exN a b ta tb f kind count ⟨rq, rp, ra, rk⟩) := fun q1 q2 q3 q4 => det_law q1 q2 q3 q4
  generalize exN a b ta tb f kind count ⟨rq, rp, ra, rk⟩ = XN at *
  obtain ⟨A1, B1, cd⟩ := XN
  dsimp only at cX
  generalize exC a b ta tb f kind count = XC at *
  generalize few27 a b ta tb nf = FW at *
  generalize detB a b = DB at *
  replace cAw := Lib.hid cAw
  replace cFw := Lib.hid cFw
  replace hIa := Lib.hid hIa
  replace hIb := Lib.hid hIb
  replace cD := Lib.hid cD
  replace cX := Lib.hid cX
  replace cS := Lib.hid cS
  replace cS2 := Lib.hid cS2
  replace hL := Lib.hid hL
  replace uC := Lib.hid uC
  replace uY := Lib.hid uY
  replace h1 := Lib.hid h1
  replace h2 := Lib.hid h2
  replace t1 := Lib.hid t1
  replace t2 := Lib.hid t2
  replace hf := Lib.hid hf
  replace uE := Lib.hid uE
  replace uT := Lib.hid uT
  replace uM := Lib.hid uM
  go_enter Tryz.func7, Tryz.ntmps7
  have mk1 : Unit := ()
  have mk2 : Unit := ()
  go_upto_region 1 with (first | go_skip | (clear mk1; refine wpList_boxA HM rfl 43 _ rfl _ rfl ?_; clear HM; intro gc w1 HM hG; replace hF := Lib.hid (hFs.keep hF.out hG.out); clear hG) | (clear mk2; refine wpList_boxA HM rfl 45 _ rfl _ rfl ?_; clear HM; intro gy w1 HM hG; replace hF := Lib.hid (hFs.keep hF.out hG.out); clear hG) | fail)
  have mk3 : Unit := ()
  go_upto_region 3 with (first | go_skip | (go_at_call 19; clear mk3; refine (cAw.out _).mono ?_; rintro r w3 ⟨rfl, hb_⟩; replace HM := Lib.hid (HM.out.keep hb_); replace hF := Lib.hid (hFs.keep hF.out hb_); clear hb_; dsimp only) | fail)
  have mk4 : Unit := ()
  have mk5 : Unit := ()
  cases FW
  case false =>
    go_wp2_with (first | go_skip | (refine wpList_loadG 1 HM (by rfl) _ _ rfl _ rfl rfl _ uC.out rfl (by exact zcp) ?_) | (refine wpList_loadP 1 HM (by rfl) _ _ rfl _ 0 rfl rfl (endA a va) (by kernel_rfl) _ uE.out rfl (by exact zend) ?_) | (refine wpList_loadP 1 HM (by rfl) _ _ rfl _ 28 rfl rfl (endA b vb) (by kernel_rfl) _ uE.out rfl (by exact zend) ?_) | (go_at_call 24; clear mk4; refine (cFw.out _ HM.out.below).mono ?_; rintro r w3 ⟨rfl, hb_⟩; replace HM := Lib.hid (HM.out.keep hb_); replace hF := Lib.hid (hFs.keep hF.out hb_); clear hb_; dsimp only) | (go_at_call 22; clear mk5; refine (cD.out _ HM.out.below).mono ?_; rintro r w3 ⟨rfl, hb_⟩; replace HM := Lib.hid (HM.out.keep hb_); replace hF := Lib.hid (hFs.keep hF.out hb_); clear hb_; dsimp only) | fail)
    try simp only [Exit.inBlock, Exit.then]
    go_ret
    exact ⟨by first | rfl | trivial, HM.out.below⟩
  cases DB
  case false =>
    go_wp2_with (first | go_skip | (refine wpList_loadG 1 HM (by rfl) _ _ rfl _ rfl rfl _ uC.out rfl (by exact zcp) ?_) | (refine wpList_loadP 1 HM (by rfl) _ _ rfl _ 0 rfl rfl (endA a va) (by kernel_rfl) _ uE.out rfl (by exact zend) ?_) | (refine wpList_loadP 1 HM (by rfl) _ _ rfl _ 28 rfl rfl (endA b vb) (by kernel_rfl) _ uE.out rfl (by exact zend) ?_) | (go_at_call 24; clear mk4; refine (cFw.out _ HM.out.below).mono ?_; rintro r w3 ⟨rfl, hb_⟩; replace HM := Lib.hid (HM.out.keep hb_); replace hF := Lib.hid (hFs.keep hF.out hb_); clear hb_; dsimp only) | (go_at_call 22; clear mk5; refine (cD.out _ HM.out.below).mono ?_; rintro r w3 ⟨rfl, hb_⟩; replace HM := Lib.hid (HM.out.keep hb_); replace hF := Lib.hid (hFs.keep hF.out hb_); clear hb_; dsimp only) | fail)
    try simp only [Exit.inBlock, Exit.then]
    go_ret
    exact ⟨by first | rfl | trivial, HM.out.below⟩
  by_cases e6 : kind = 6
  case pos =>
    have d6 : (kind == 6) = true := by rw [beq_iff_eq]; exact e6
    replace e6 := Lib.hid e6
    go_wp2_with (first | go_skip | (refine wpList_loadG 1 HM (by rfl) _ _ rfl _ rfl rfl _ uC.out rfl (by exact zcp) ?_) | (refine wpList_loadP 1 HM (by rfl) _ _ rfl _ 0 rfl rfl (endA a va) (by kernel_rfl) _ uE.out rfl (by exact zend) ?_) | (refine wpList_loadP 1 HM (by rfl) _ _ rfl _ 28 rfl rfl (endA b vb) (by kernel_rfl) _ uE.out rfl (by exact zend) ?_) | (go_at_call 24; clear mk4; refine (cFw.out _ HM.out.below).mono ?_; rintro r w3 ⟨rfl, hb_⟩; replace HM := Lib.hid (HM.out.keep hb_); replace hF := Lib.hid (hFs.keep hF.out hb_); clear hb_; dsimp only) | (go_at_call 22; clear mk5; refine (cD.out _ HM.out.below).mono ?_; rintro r w3 ⟨rfl, hb_⟩; replace HM := Lib.hid (HM.out.keep hb_); replace hF := Lib.hid (hFs.keep hF.out hb_); clear hb_; dsimp only) | fail)
    try simp only [Exit.inBlock, Exit.then]
    go_ret
    exact ⟨by first | rfl | trivial, HM.out.below⟩
  have d6 : (kind == 6) = false := by rw [beq_eq_false_iff_ne]; exact e6
  have hL2 := Lib.hid (hL.out rfl rfl e6)
  replace e6 := Lib.hid e6
  clear hL
  go_upto_region 5 with (first | go_skip | (refine wpList_loadG 1 HM (by rfl) _ _ rfl _ rfl rfl _ uC.out rfl (by exact zcp) ?_) | (refine wpList_loadP 1 HM (by rfl) _ _ rfl _ 0 rfl rfl (endA a va) (by kernel_rfl) _ uE.out rfl (by exact zend) ?_) | (refine wpList_loadP 1 HM (by rfl) _ _ rfl _ 28 rfl rfl (endA b vb) (by kernel_rfl) _ uE.out rfl (by exact zend) ?_) | (go_at_call 24; clear mk4; refine (cFw.out _ HM.out.below).mono ?_; rintro r w3 ⟨rfl, hb_⟩; replace HM := Lib.hid (HM.out.keep hb_); replace hF := Lib.hid (hFs.keep hF.out hb_); clear hb_; dsimp only) | (go_at_call 22; clear mk5; refine (cD.out _ HM.out.below).mono ?_; rintro r w3 ⟨rfl, hb_⟩; replace HM := Lib.hid (HM.out.keep hb_); replace hF := Lib.hid (hFs.keep hF.out hb_); clear hb_; dsimp only) | fail)
  clear d6 cFw cD cAw
  have p62 : World.cell? _ ⟨gc, 62, none⟩ = some (.slice A nf cf) := HM.out.cell 1 rfl 62
  have mk6 : Unit := ()
  have mk7 : Unit := ()
  have mk8 : Unit := ()
  go_upto_region 6 with (first | go_skip | (refine wpList_loadP 1 HM (by rfl) _ _ rfl _ 0 rfl rfl (endA a va) (by kernel_rfl) _ uE.out rfl (by exact zend) ?_) | (refine wpList_loadP 1 HM (by rfl) _ _ rfl _ 28 rfl rfl (endA b vb) (by kernel_rfl) _ uE.out rfl (by exact zend) ?_) | (refine wpList_loadP 1 HM (by rfl) _ _ rfl _ 56 rfl rfl (tabA ta vta) (by kernel_rfl) _ uT.out rfl (by exact ztab) ?_) | (refine wpList_loadP 1 HM (by rfl) _ _ rfl _ 59 rfl rfl (tabA tb vtb) (by kernel_rfl) _ uT.out rfl (by exact ztab) ?_) | (refine wpList_loadG 0 HM (by rfl) _ _ rfl _ rfl rfl _ uY.out rfl (by exact zfa) ?_) | (go_at_call 25; clear mk6; refine (cX.out _ HM.out.below).mono ?_; rintro r w3 ⟨v1, v2, rfl, hE, hO5, hb_⟩; clear p62; replace HM := Lib.hid (HM.out.keep hb_); replace hF := Lib.hid (hFs.keep hF.out hb_); clear hb_; obtain ⟨F1, hFs2, hF2, hU, hNw⟩ := stb_add hFs hF (Stb.ed v1 _) hE; clear hFs hF; have gA := Lib.hid hNw; clear hNw hU; have hFs := hFs2; have hF := hF2; clear hFs2 hF2 hE; obtain ⟨F2, hFs2, hF2, hU, hNw⟩ := stb_add hFs hF (Stb.ownB _ _ v2 _) hO5; clear hFs hF; replace gA := Lib.hid (fun W h => gA.out W (hU W h)); have gB := Lib.hid hNw; clear hNw hU; have hFs := hFs2; have hF := hF2; clear hFs2 hF2 hO5; dsimp only) | (clear mk7; refine wpList_allocN HM rfl 27 rfl edInfo ?_; clear HM; intro g9 w1 HM hG hN9; replace hF := Lib.hid (hFs.keep hF.out hG.out); clear hG hN9) | (clear mk8; refine wpList_allocN HM rfl 27 rfl edInfo ?_; clear HM; intro g10 w1 HM hG hN9; replace hF := Lib.hid (hFs.keep hF.out hG.out); clear hG hN9) | (refine wpList_storeF 1 HM rfl _ _ _ rfl _ rfl rfl _ rfl (by exact zend) (by rfl) (by rfl) ?_; have hBq := HM.out.at_ 1 rfl; clear HM; intro w4 HM hG4; simp only [List.set] at HM; replace hF := Lib.hid (hFs.put hF.out hBq (by decide) (by decide) hG4.out); clear hBq hG4) | (refine wpList_storeF 0 HM rfl _ _ _ rfl _ rfl rfl _ rfl (by exact zend) (by rfl) (by rfl) ?_; have hBq := HM.out.at_ 0 rfl; clear HM; intro w4 HM hG4; simp only [List.set] at HM; replace hF := Lib.hid (hFs.put hF.out hBq (by decide) (by decide) hG4.out); clear hBq hG4) | fail)
  by_cases e0 : XC = 0
  case neg =>
    have d0 : (XC != 0) = true := by rw [bne_iff_ne]; exact e0
    replace e0 := Lib.hid e0
    go_wp2_with fail
    try simp only [Exit.inBlock, Exit.then]
    go_ret
    exact ⟨by first | rfl | trivial, HM.out.below⟩
  have hD := hL2.out e0
  subst e0
  clear hL2 cX
  obtain ⟨hB, hlost, hcode, hone⟩ := hD
  replace hB := hB.symm
  dsimp only at hB
  subst hB
  replace hlost := Lib.hid hlost
  replace hcode := Lib.hid hcode
  replace hone := Lib.hid hone
  go_upto_region 8 with fail
  have y0 : World.cell? _ ⟨gy, 0, none⟩ = some (.bool rq) := HM.out.cell 2 rfl 0
  have y1 : World.cell? _ ⟨gy, 1, none⟩ = some (.bool rp) := HM.out.cell 2 rfl 1
  have mk9 : Unit := ()
  have mk10 : Unit := ()
  cases rq
  case true =>
    obtain ⟨hc, hq⟩ := hlost.out (.inl rfl)
    subst hc
    have cS1 := Lib.hid (cS.out A1 v1)
    rw [decide_eq_true hq] at cS1
    replace hq := Lib.hid hq
    go_wp2_with (first | go_skip | (refine wpList_loadG 1 HM (by rfl) _ _ rfl _ rfl rfl _ uE.out rfl (by exact zend) ?_) | (refine wpList_loadG 0 HM (by rfl) _ _ rfl _ rfl rfl _ uE.out rfl (by exact zend) ?_) | (refine wpList_loadP 3 HM (by rfl) _ _ rfl _ 0 rfl rfl (endA a va) (by kernel_rfl) _ uE.out rfl (by exact zend) ?_) | (refine wpList_loadP 3 HM (by rfl) _ _ rfl _ 28 rfl rfl (endA b vb) (by kernel_rfl) _ uE.out rfl (by exact zend) ?_) | (go_at_call 17; clear mk9; refine (cS1.out _ (gA.out _ hF.out).is HM.out.below).mono ?_; rintro r w3 ⟨rfl, hb_⟩; replace HM := Lib.hid (HM.out.keep hb_); replace hF := Lib.hid (hFs.keep hF.out hb_); clear hb_; dsimp only) | (go_at_call 17; clear mk10; refine (cS2.out _ _ ((gB.out _ hF.out).is (hIb.out _ HM.out.below)) HM.out.below).mono ?_; rintro r w3 ⟨rfl, hb_⟩; replace HM := Lib.hid (HM.out.keep hb_); replace hF := Lib.hid (hFs.keep hF.out hb_); clear hb_; dsimp only) | fail)
    try simp only [Exit.inBlock, Exit.then]
    go_ret
    exact ⟨by first | rfl | trivial, HM.out.below⟩
  cases rp
  case true =>
    obtain ⟨hc, hq⟩ := hlost.out (.inr rfl)
    subst hc
    have cS1 := Lib.hid (cS.out A1 v1)
    rw [decide_eq_true hq] at cS1
    replace hq := Lib.hid hq
    go_wp2_with (first | go_skip | (refine wpList_loadG 1 HM (by rfl) _ _ rfl _ rfl rfl _ uE.out rfl (by exact zend) ?_) | (refine wpList_loadG 0 HM (by rfl) _ _ rfl _ rfl rfl _ uE.out rfl (by exact zend) ?_) | (refine wpList_loadP 3 HM (by rfl) _ _ rfl _ 0 rfl rfl (endA a va) (by kernel_rfl) _ uE.out rfl (by exact zend) ?_) | (refine wpList_loadP 3 HM (by rfl) _ _ rfl _ 28 rfl rfl (endA b vb) (by kernel_rfl) _ uE.out rfl (by exact zend) ?_) | (go_at_call 17; clear mk9; refine (cS1.out _ (gA.out _ hF.out).is HM.out.below).mono ?_; rintro r w3 ⟨rfl, hb_⟩; replace HM := Lib.hid (HM.out.keep hb_); replace hF := Lib.hid (hFs.keep hF.out hb_); clear hb_; dsimp only) | (go_at_call 17; clear mk10; refine (cS2.out _ _ ((gB.out _ hF.out).is (hIb.out _ HM.out.below)) HM.out.below).mono ?_; rintro r w3 ⟨rfl, hb_⟩; replace HM := Lib.hid (HM.out.keep hb_); replace hF := Lib.hid (hFs.keep hF.out hb_); clear hb_; dsimp only) | fail)
    try simp only [Exit.inBlock, Exit.then]
    go_ret
    exact ⟨by first | rfl | trivial, HM.out.below⟩
  by_cases ec : cd = 1
  case pos =>
    have hq := hone.out rfl rfl ec
    subst ec
    have cS1 := Lib.hid (cS.out A1 v1)
    rw [decide_eq_true hq] at cS1
    replace hq := Lib.hid hq
    go_wp2_with (first | go_skip | (refine wpList_loadG 1 HM (by rfl) _ _ rfl _ rfl rfl _ uE.out rfl (by exact zend) ?_) | (refine wpList_loadG 0 HM (by rfl) _ _ rfl _ rfl rfl _ uE.out rfl (by exact zend) ?_) | (refine wpList_loadP 3 HM (by rfl) _ _ rfl _ 0 rfl rfl (endA a va) (by kernel_rfl) _ uE.out rfl (by exact zend) ?_) | (refine wpList_loadP 3 HM (by rfl) _ _ rfl _ 28 rfl rfl (endA b vb) (by kernel_rfl) _ uE.out rfl (by exact zend) ?_) | (go_at_call 17; clear mk10; refine (cS2.out _ _ ((gB.out _ hF.out).is (hIb.out _ HM.out.below)) HM.out.below).mono ?_; rintro r w3 ⟨rfl, hb_⟩; replace HM := Lib.hid (HM.out.keep hb_); replace hF := Lib.hid (hFs.keep hF.out hb_); clear hb_; dsimp only) | (go_at_call 17; clear mk9; refine (cS1.out _ (gA.out _ hF.out).is HM.out.below).mono ?_; rintro r w3 ⟨rfl, hb_⟩; replace HM := Lib.hid (HM.out.keep hb_); replace hF := Lib.hid (hFs.keep hF.out hb_); clear hb_; dsimp only) | fail)
    try simp only [Exit.inBlock, Exit.then]
    go_ret
    exact ⟨by first | rfl | trivial, HM.out.below⟩
  have dc : (cd != 1) = true := by rw [bne_iff_ne]; exact ec
  obtain ⟨hk1, hk2⟩ := hcode.out rfl rfl ec
  replace ec := Lib.hid ec
  have p41 : World.cell? _ ⟨gc, 41, none⟩ = some (.bool b.known) := HM.out.cell 3 rfl 41
  have p44 : World.cell? _ ⟨gc, 44, none⟩ = some (.int .i64 b.last.number) := HM.out.cell 3 rfl 44
  have p2 : World.cell? _ ⟨gc, 2, none⟩ = some (.int .i64 a.number) := HM.out.cell 3 rfl 2
  rw [hk1] at p41
  rw [hk2] at p44
  clear hk1 hk2
  go_wp2_with (first | go_skip | (refine wpList_loadG 1 HM (by rfl) _ _ rfl _ rfl rfl _ uE.out rfl (by exact zend) ?_) | (refine wpList_loadG 0 HM (by rfl) _ _ rfl _ rfl rfl _ uE.out rfl (by exact zend) ?_) | (refine wpList_loadP 3 HM (by rfl) _ _ rfl _ 0 rfl rfl (endA a va) (by kernel_rfl) _ uE.out rfl (by exact zend) ?_) | (refine wpList_loadP 3 HM (by rfl) _ _ rfl _ 28 rfl rfl (endA b vb) (by kernel_rfl) _ uE.out rfl (by exact zend) ?_) | (go_at_call 17; clear mk10; refine (cS2.out _ _ ((gB.out _ hF.out).is (hIb.out _ HM.out.below)) HM.out.below).mono ?_; rintro r w3 ⟨rfl, hb_⟩; replace HM := Lib.hid (HM.out.keep hb_); replace hF := Lib.hid (hFs.keep hF.out hb_); clear hb_; dsimp only) | fail)
  try simp only [Exit.inBlock, Exit.then]
  go_ret
  exact ⟨by first | rfl | trivial, HM.out.below⟩
end Tx
end Go.Proofs.YtfoffooblkofhaaGreat
