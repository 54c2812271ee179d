/- Chapter 26: Start, Clear: the reference's. -/
import Derived.Test.YtkfipbelhlcddaaGreatTk
import Derived.Test.YtkfipbelhlcddaaGreatMw
set_option linter.unusedVariables false
set_option linter.unusedSimpArgs false
namespace Go.Proofs.YtkfipbelhlcddaaGreat
open Go Go.RowKit Go.Sort Go.Shelf Go.Maps
namespace Tx
open Sw Mm Pl
set_option maxRecDepth 100000 in
set_option maxHeartbeats 8000000 in
theorem rstart_own (node peer : Int) (w : World) : Calls Tryz.prog 31 #[.int .i64 node, .int .i64 peer] w (EndOwn (startN node peer) (startC node peer) w) := by
  have HM := Lib.hid (Mem.start w)
  have hPb : ∀ w', startC node peer = 2 → Below w.heap.size w w' → EndOwn (startN node peer) (startC node peer) w (.returned (.tuple #[.agg (endA ed0 edV0), .int .i64 2])) w' := fun w' e1 hb => by
    unfold EndOwn startN; rw [e1, if_neg (by decide)]; exact ⟨edV0, rfl, EdOwn.zero _, hb⟩
  have hPo : ∀ w', startC node peer = 0 → Below w.heap.size w w' → EndOwn (startN node peer) (startC node peer) w (.returned (.tuple #[.agg (endA (startE node peer) edV0), .int .i64 0])) w' := fun w' e1 hb => by
    unfold EndOwn startN; rw [e1, if_pos rfl]; exact ⟨edV0, rfl, EdOwn.startE _ _ _, hb⟩
  have hC : startC node peer = if node < 0 ∨ 31 < node ∨ peer < 0 ∨ 31 < peer ∨ node = peer then 2 else 0 := rfl
  generalize EndOwn (startN node peer) (startC node peer) w = P at *
  generalize startC node peer = R at *
  have uE := Tryz.underlying27
  replace hPb := Lib.hid hPb
  replace hPo := Lib.hid hPo
  replace uE := Lib.hid uE
  go_enter Tryz.func31, Tryz.ntmps31
  go_upto_region 1 with (refine wpList_allocA HM rfl 27 rfl (by first | exact msgInfo | exact edInfo | exact tabInfo | exact info_tcl | exact info_spt) ?_; clear HM; intro g4 w1 HM hG; clear hG)
  by_cases hb : node < 0 ∨ 31 < node ∨ peer < 0 ∨ 31 < peer ∨ node = peer
  case pos =>
    rw [if_pos hb] at hC
    have hr2 : node < 0 ∨ (¬ node < 0 ∧ (32 ≤ node ∨ (¬ 32 ≤ node ∧ (peer < 0 ∨ (¬ peer < 0 ∧ (32 ≤ peer ∨ (¬ 32 ≤ peer ∧ (node = peer)))))))) := by omega
    clear hb
    rcases hr2 with g0 | ⟨g0, g1 | ⟨g1, g2 | ⟨g2, g3 | ⟨g3, g4⟩⟩⟩⟩
    case' inr.inr.inr.inr => have d9 : (node == peer) = true := by rw [beq_iff_eq]; assumption
    all_goals
      go_wp2_with (first | go_skip | (refine wpList_storeF 0 HM rfl _ _ _ rfl _ rfl rfl _ rfl (by exact zend) (by rfl) (by rfl) ?_; clear HM; intro w4 HM hG4; simp only [List.set] at HM; clear hG4) | fail)
      try simp only [Exit.inBlock, Exit.then]
      refine bodyPost_ret (results_ct rfl (HM.out.at_ 0 rfl) rfl _ uE.out rfl (by exact zend)) rfl ?_
      exact hPb.out _ hC HM.out.below
  rw [if_neg hb] at hC
  obtain ⟨g0, g1, g2, g3, g4'⟩ : ¬ node < 0 ∧ ¬ 32 ≤ node ∧ ¬ peer < 0 ∧ ¬ 32 ≤ peer ∧ ¬ node = peer := by omega
  have d9 : (node == peer) = false := by rw [beq_eq_false_iff_ne]; exact g4'
  clear hb
  go_wp2_with (first | go_skip | (refine wpList_storeF 0 HM rfl _ _ _ rfl _ rfl rfl _ rfl (by exact zend) (by rfl) (by rfl) ?_; clear HM; intro w4 HM hG4; simp only [List.set] at HM; clear hG4) | fail)
  try simp only [Exit.inBlock, Exit.then]
  refine bodyPost_ret (results_ct rfl (HM.out.at_ 0 rfl) rfl _ uE.out rfl (by exact zend)) rfl ?_
  exact hPo.out _ hC HM.out.below
set_option maxRecDepth 100000 in
set_option maxHeartbeats 8000000 in
theorem rclear_own (e : Ed) (v : EdV) (w : World) (h : EdIs w v e) : Calls Tryz.prog 34 #[.agg (endA e v)] w (EndOwn (clrN e) (clrC e) w) := by
  have HM := Lib.hid (Mem.start w)
  have cC := fun W (hb : Below w.heap.size w W) => rchkE_any e v W (h.keep hb)
  rw [rChkE_eq] at cC
  have hPb : ∀ w', chkE e ≠ 0 → Below w.heap.size w w' → EndOwn (clrN e) (clrC e) w (.returned (.tuple #[.agg (endA ed0 edV0), .int .i64 1])) w' := fun w' e1 hb => by
    unfold clrN clrC; rw [if_pos e1, if_pos e1]; exact ⟨edV0, rfl, EdOwn.zero _, hb⟩
  have hPo : ∀ w', chkE e = 0 → Below w.heap.size w w' → EndOwn (clrN e) (clrC e) w (.returned (.tuple #[.agg (endA (startE e.node e.peer) edV0), .int .i64 0])) w' := fun w' e1 hb => by
    unfold clrN clrC; rw [if_neg (fun h => h e1), if_neg (fun h => h e1)]; exact ⟨edV0, rfl, EdOwn.startE _ _ _, hb⟩
  generalize EndOwn (clrN e) (clrC e) w = P at *
  generalize chkE e = C at *
  have uE := Tryz.underlying27
  replace h := Lib.hid h
  replace cC := Lib.hid cC
  replace hPb := Lib.hid hPb
  replace hPo := Lib.hid hPo
  replace uE := Lib.hid uE
  go_enter Tryz.func34, Tryz.ntmps34
  go_upto_region 1 with (first | (refine wpList_boxA HM rfl 27 _ rfl _ rfl ?_; clear HM; intro ge w1 HM hG; clear hG) | (refine wpList_allocA HM rfl 27 rfl (by first | exact msgInfo | exact edInfo | exact tabInfo | exact info_tcl | exact info_spt) ?_; clear HM; intro g2 w1 HM hG; clear hG))
  by_cases hC : C = 0
  case neg =>
    have d1 : (C != 0) = true := by rw [bne_iff_ne]; exact hC
    go_wp2_with (first | go_skip | (refine wpList_loadG 1 HM (by rfl) _ _ rfl _ rfl rfl _ uE.out rfl (by exact zend) ?_) | (refine wpList_storeF 0 HM rfl _ _ _ rfl _ rfl rfl _ rfl (by exact zend) (by rfl) (by rfl) ?_; clear HM; intro w4 HM hG4; simp only [List.set] at HM; clear hG4) | (go_at_call 36; refine (cC.out _ HM.out.below).mono ?_; rintro r w3 ⟨rfl, hb_⟩; replace HM := Lib.hid (HM.out.keep hb_); clear hb_) | fail)
    try simp only [Exit.inBlock, Exit.then]
    refine bodyPost_ret (results_ct rfl (HM.out.at_ 0 rfl) rfl _ uE.out rfl (by exact zend)) rfl ?_
    exact hPb.out _ hC HM.out.below
  have d1 : (C != 0) = false := by rw [bne_eq_false_iff_eq]; exact hC
  go_wp2_with (first | go_skip | (refine wpList_loadG 1 HM (by rfl) _ _ rfl _ rfl rfl _ uE.out rfl (by exact zend) ?_) | (refine wpList_storeF 0 HM rfl _ _ _ rfl _ rfl rfl _ rfl (by exact zend) (by rfl) (by rfl) ?_; clear HM; intro w4 HM hG4; simp only [List.set] at HM; clear hG4) | (go_at_call 36; refine (cC.out _ HM.out.below).mono ?_; rintro r w3 ⟨rfl, hb_⟩; replace HM := Lib.hid (HM.out.keep hb_); clear hb_; have p0 : World.cell? _ ⟨ge, 0, none⟩ = some (.int .i64 e.node) := HM.out.cell 1 rfl 0; have p1 : World.cell? _ ⟨ge, 1, none⟩ = some (.int .i64 e.peer) := HM.out.cell 1 rfl 1) | fail)
  try simp only [Exit.inBlock, Exit.then]
  refine bodyPost_ret (results_ct rfl (HM.out.at_ 0 rfl) rfl _ uE.out rfl (by exact zend)) rfl ?_
  exact hPo.out _ hC HM.out.below
end Tx
end Go.Proofs.YtkfipbelhlcddaaGreat
namespace Go.Proofs.YtkfipbelhlcddaaGreat
open Go Go.RowKit Go.Sort Go.Shelf Go.Maps
namespace Tx
open Sw Mm Pl
/-- the end as it was given, or one of the call's own -/
def EdTwo (e : Ed) (v : EdV) (E : Ed) (v' : EdV) (w : World) : Prop := (v' = v ∧ E = e) ∨ EdOwn w v' E
theorem EdTwo.is {e E : Ed} {v v' : EdV} {w : World} (h : EdTwo e v E v' w) (h0 : EdIs w v e) : EdIs w v' E := by
  rcases h with ⟨rfl, rfl⟩ | h
  · exact h0
  · exact h.is
theorem Stb.exTwo (e : Ed) (v : EdV) (E : Ed) (v' : EdV) : Stb (EdTwo e v E v') := ⟨fun x hb => x.imp id fun x => x.keep hb, fun x hB h1 h2 hg => x.imp id fun x => x.put hB h1 h2 hg⟩
def ExTwo (e : Ed) (v : EdV) (E : Ed) (c : Bool) (w : World) (r : Ending) (w' : World) : Prop := ∃ v', r = .returned (.tuple #[.agg (endA E v'), .bool c]) ∧ EdTwo e v E v' w' ∧ Below w.heap.size w w'
set_option maxRecDepth 100000 in
set_option maxHeartbeats 8000000 in
theorem rexpire_any (e : Ed) (v : EdV) (slot wait : Int) (w : World) (h : EdIs w v e) (hsl : -(2 ^ 63 : Int) ≤ slot) (hsl2 : slot < 2 ^ 63) : Calls Tryz.prog 32 #[.agg (endA e v), .int .i64 slot, .int .i64 wait] w (ExTwo e v (expN e slot wait) (expB e slot wait) w) := by
  have HM := Lib.hid (Mem.start w)
  have cC := fun W (hb : Below w.heap.size w W) => rchkE_any e v W (h.keep hb)
  rw [rChkE_eq] at cC
  have cL := fun W (hb : Below w.heap.size w W) (hk : chkE e = 0) => rcopied_any e v W (h.keep hb) (small_of h hk)
  unfold ClonePostE at cL
  have hR := expB_w e slot wait
  have hr : chkE e = 0 → 0 ≤ e.since ∧ e.since ≤ 1099511627776 := fun h => ⟨((chkE_iff e).1 h).since0, ((chkE_iff e).1 h).since⟩
  have hPb : ∀ w', expB e slot wait = false → Below w.heap.size w w' → ExTwo e v (expN e slot wait) (expB e slot wait) w (.returned (.tuple #[.agg (endA e v), .bool false])) w' := fun w' e1 hb => by
    unfold ExTwo expN; rw [e1]; exact ⟨v, rfl, .inl ⟨rfl, rfl⟩, hb⟩
  have hPo : ∀ w' v', expB e slot wait = true → EdOwn w' v' (closE e) → Below w.heap.size w w' → ExTwo e v (expN e slot wait) (expB e slot wait) w (.returned (.tuple #[.agg (endA (closE e) v'), .bool true])) w' := fun w' v' e1 hE hb => by
    unfold ExTwo expN; rw [e1]; exact ⟨v', rfl, .inr hE, hb⟩
  generalize ExTwo e v (expN e slot wait) (expB e slot wait) w = P at *
  generalize expB e slot wait = R at *
  generalize chkE e = C at *
  have uE := Tryz.underlying27
  replace h := Lib.hid h
  replace cC := Lib.hid cC
  replace cL := Lib.hid cL
  replace hR := Lib.hid hR
  replace hr := Lib.hid hr
  replace hPb := Lib.hid hPb
  replace hPo := Lib.hid hPo
  replace uE := Lib.hid uE
  go_enter Tryz.func32, Tryz.ntmps32
  go_upto_region 1 with (first | (refine wpList_boxA HM rfl 27 _ rfl _ rfl ?_; clear HM; intro ge w1 HM hG; clear hG) | (refine wpList_allocA HM rfl 27 rfl (by first | exact msgInfo | exact edInfo | exact tabInfo | exact info_tcl | exact info_spt) ?_; clear HM; intro g6 w1 HM hG; clear hG) | fail)
  have p4 : World.cell? _ ⟨ge, 4, none⟩ = some (.bool e.opn) := HM.out.cell 1 rfl 4
  have p5 : World.cell? _ ⟨ge, 5, none⟩ = some (.int .i64 e.since) := HM.out.cell 1 rfl 5
  by_cases hC : C = 0
  case neg =>
    have hR2 : R = false := by rw [hR.out]; simp [hC]
    have d1 : (C != 0) = true := by rw [bne_iff_ne]; exact hC
    go_wp2_with (first | go_skip | (refine wpList_loadM 1 HM rfl _ _ rfl _ rfl rfl _ uE.out rfl (by exact zend) ?_) | (refine wpList_storeF 0 HM rfl _ _ _ rfl _ rfl rfl _ rfl (by exact zend) (by rfl) (by rfl) ?_; clear HM ; intro w4 HM hG4; simp only [List.set] at HM) | (go_at_call 36; refine (cC.out _ HM.out.below).mono ?_; rintro r w3 ⟨rfl, hb_⟩; clear p4 p5; replace HM := Lib.hid (HM.out.keep hb_); clear hb_) | fail)
    try simp only [Exit.inBlock, Exit.then]
    refine bodyPost_ret (results_ct rfl (HM.out.at_ 0 rfl) rfl _ uE.out rfl (by exact zend)) rfl ?_
    exact hPb.out _ hR2 HM.out.below
  have d1 : (C != 0) = false := by rw [bne_eq_false_iff_eq]; exact hC
  obtain ⟨s0, s1⟩ := hr.out hC
  have hcL := Lib.hid fun W hb => cL.out W hb hC
  clear cL hr
  have hR2 : Hid (R = (e.opn && (!decide (slot < 0) && !decide (slot - e.since < wait)))) := by show _ = _; rw [hR.out]; simp [hC]
  clear hR
  have hw1 : Hid (0 ≤ slot → IntKind.i64.wrap (slot - e.since) = slot - e.since) := fun h0 => IntWalk.i64_in _ (by omega)
  clear s0 s1
  cases ho : e.opn
  case false =>
    rw [ho] at p4
    have hR3 : R = false := by rw [hR2.out, ho]; rfl
    go_wp2_with (first | go_skip | (refine wpList_loadM 1 HM rfl _ _ rfl _ rfl rfl _ uE.out rfl (by exact zend) ?_) | (refine wpList_storeF 0 HM rfl _ _ _ rfl _ rfl rfl _ rfl (by exact zend) (by rfl) (by rfl) ?_; clear HM ; intro w4 HM hG4; simp only [List.set] at HM) | (go_at_call 36; refine (cC.out _ HM.out.below).mono ?_; rintro r w3 ⟨rfl, hb_⟩; replace p4 := ((HM.out.keep hb_).cell 1 rfl 4).trans ((HM.out.cell 1 rfl 4).symm.trans p4); replace p5 := ((HM.out.keep hb_).cell 1 rfl 5).trans ((HM.out.cell 1 rfl 5).symm.trans p5); replace HM := Lib.hid (HM.out.keep hb_); clear hb_) | fail)
    try simp only [Exit.inBlock, Exit.then]
    refine bodyPost_ret (results_ct rfl (HM.out.at_ 0 rfl) rfl _ uE.out rfl (by exact zend)) rfl ?_
    exact hPb.out _ hR3 HM.out.below
  rw [ho] at p4
  by_cases hs : slot < 0
  case pos =>
    have hR3 : R = false := by rw [hR2.out, ho, decide_eq_true hs]; rfl
    go_wp2_with (first | go_skip | (refine wpList_loadM 1 HM rfl _ _ rfl _ rfl rfl _ uE.out rfl (by exact zend) ?_) | (refine wpList_storeF 0 HM rfl _ _ _ rfl _ rfl rfl _ rfl (by exact zend) (by rfl) (by rfl) ?_; clear HM ; intro w4 HM hG4; simp only [List.set] at HM) | (go_at_call 36; refine (cC.out _ HM.out.below).mono ?_; rintro r w3 ⟨rfl, hb_⟩; replace p4 := ((HM.out.keep hb_).cell 1 rfl 4).trans ((HM.out.cell 1 rfl 4).symm.trans p4); replace p5 := ((HM.out.keep hb_).cell 1 rfl 5).trans ((HM.out.cell 1 rfl 5).symm.trans p5); replace HM := Lib.hid (HM.out.keep hb_); clear hb_) | fail)
    try simp only [Exit.inBlock, Exit.then]
    refine bodyPost_ret (results_ct rfl (HM.out.at_ 0 rfl) rfl _ uE.out rfl (by exact zend)) rfl ?_
    exact hPb.out _ hR3 HM.out.below
  have hw2 := hw1.out (by omega)
  clear hw1
  by_cases hsw : slot - e.since < wait
  case pos =>
    have hR3 : R = false := by rw [hR2.out, ho, decide_eq_false hs, decide_eq_true hsw]; rfl
    go_wp2_with (first | go_skip | (refine wpList_loadM 1 HM rfl _ _ rfl _ rfl rfl _ uE.out rfl (by exact zend) ?_) | (refine wpList_storeF 0 HM rfl _ _ _ rfl _ rfl rfl _ rfl (by exact zend) (by rfl) (by rfl) ?_; clear HM ; intro w4 HM hG4; simp only [List.set] at HM) | (go_at_call 36; refine (cC.out _ HM.out.below).mono ?_; rintro r w3 ⟨rfl, hb_⟩; replace p4 := ((HM.out.keep hb_).cell 1 rfl 4).trans ((HM.out.cell 1 rfl 4).symm.trans p4); replace p5 := ((HM.out.keep hb_).cell 1 rfl 5).trans ((HM.out.cell 1 rfl 5).symm.trans p5); replace HM := Lib.hid (HM.out.keep hb_); clear hb_) | fail)
    try simp only [Exit.inBlock, Exit.then]
    refine bodyPost_ret (results_ct rfl (HM.out.at_ 0 rfl) rfl _ uE.out rfl (by exact zend)) rfl ?_
    exact hPb.out _ hR3 HM.out.below
  have hR3 : R = true := by rw [hR2.out, ho, decide_eq_false hs, decide_eq_false hsw]; rfl
  have mk1 : Unit := ()
  go_upto_region 4 with (first | go_skip | (refine wpList_loadM 1 HM rfl _ _ rfl _ rfl rfl _ uE.out rfl (by exact zend) ?_) | (clear mk1; refine wpList_allocA HM rfl 27 rfl edInfo ?_; clear HM; intro g8 w1 HM hG; replace hE := Lib.hid (hE.out.keep hG.out); clear hG) | (refine wpList_storeF 0 HM rfl _ _ _ rfl _ rfl rfl _ rfl (by exact zend) (by rfl) (by rfl) ?_; have hBq := HM.out.at_ 0 rfl; clear HM ; intro w4 HM hG4; simp only [List.set] at HM; replace hE := Lib.hid (hE.out.put hBq (by decide) (by decide) hG4.out); clear hBq) | (go_at_call 36; refine (cC.out _ HM.out.below).mono ?_; rintro r w3 ⟨rfl, hb_⟩; replace p4 := ((HM.out.keep hb_).cell 1 rfl 4).trans ((HM.out.cell 1 rfl 4).symm.trans p4); replace p5 := ((HM.out.keep hb_).cell 1 rfl 5).trans ((HM.out.cell 1 rfl 5).symm.trans p5); replace HM := Lib.hid (HM.out.keep hb_); clear hb_) | (go_at_call 57; refine (hcL.out _ HM.out.below).mono ?_; rintro r w3 ⟨v', rfl, hE, hb_⟩; clear p4 p5; replace hE := Lib.hid hE; replace HM := Lib.hid (HM.out.keep hb_); clear hb_) | fail)
  clear d1 cC hcL hsw hs hw2
  simp only [endA] at HM
  go_wp2_with (first | (refine wpList_loadM 0 HM rfl _ _ rfl _ rfl rfl _ uE.out rfl (by exact zend) ?_) | (refine wpList_storeM 0 HM rfl _ _ _ rfl _ _ rfl rfl _ (by conv => {lhs; whnf}) (by exact zone_b) (by rfl) (Nat.le_of_ble_eq_true (by rfl)) _ (by simp only [setL, List.set, Value.cells]; exact rfl) ?_; have hBq := HM.out.at_ 0 rfl; clear HM ; intro w4 HM hG4; simp only [List.set] at HM; replace hE := Lib.hid (hE.out.put hBq (by decide) (by decide) hG4.out); clear hBq) | (refine wpList_storeM 0 HM rfl _ _ _ rfl _ _ rfl rfl _ (by conv => {lhs; whnf}) (by exact zone_i) (by rfl) (Nat.le_of_ble_eq_true (by rfl)) _ (by simp only [setL, List.set, Value.cells]; exact rfl) ?_; have hBq := HM.out.at_ 0 rfl; clear HM ; intro w4 HM hG4; simp only [List.set] at HM; replace hE := Lib.hid (hE.out.put hBq (by decide) (by decide) hG4.out); clear hBq) | (refine wpList_storeM 0 HM rfl _ _ _ rfl _ _ rfl rfl _ (by conv => {lhs; whnf}) (by exact zmsg) (by rfl) (Nat.le_of_ble_eq_true (by rfl)) _ (by simp only [setL, List.set, Value.cells]; exact rfl) ?_; have hBq := HM.out.at_ 0 rfl; clear HM ; intro w4 HM hG4; simp only [List.set] at HM; replace hE := Lib.hid (hE.out.put hBq (by decide) (by decide) hG4.out); clear hBq) | (refine wpList_storeF 1 HM rfl _ _ _ rfl _ rfl rfl _ rfl (by exact zend) (by rfl) (by rfl) ?_; have hBq := HM.out.at_ 1 rfl; clear HM ; intro w4 HM hG4; simp only [List.set] at HM; replace hE := Lib.hid (hE.out.put hBq (by decide) (by decide) hG4.out); clear hBq) | fail)
  try simp only [Exit.inBlock, Exit.then]
  refine bodyPost_ret (results_ct rfl (HM.out.at_ 1 rfl) rfl _ uE.out rfl (by exact zend)) rfl ?_
  exact hPo.out _ _ hR3 hE.out.closed HM.out.below
set_option maxRecDepth 100000 in
set_option maxHeartbeats 4000000 in
theorem expire_two (e : Ed) (v : EdV) (slot wait : Int) (w : World) (h : EdIs w v e) (hsl : -(2 ^ 63 : Int) ≤ slot) (hsl2 : slot < 2 ^ 63) : Calls Tryz.prog 29 #[.agg #[.int .i64 e.node, .int .i64 e.peer, .int .i64 e.number, .slice v.cA v.cn v.cc, .bool e.opn, .int .i64 e.since, .int .i64 e.asked.kind, .bool e.asked.reply, .int .i64 e.asked.number, .int .i64 e.asked.code, .int .i64 e.asked.count, .slice v.a.sA v.a.sn v.a.sc, .slice v.a.oA v.a.on v.a.oc, .bool e.known, .int .i64 e.last.kind, .bool e.last.reply, .int .i64 e.last.number, .int .i64 e.last.code, .int .i64 e.last.count, .slice v.l.sA v.l.sn v.l.sc, .slice v.l.oA v.l.on v.l.oc, .int .i64 e.reply.kind, .bool e.reply.reply, .int .i64 e.reply.number, .int .i64 e.reply.code, .int .i64 e.reply.count, .slice v.r.sA v.r.sn v.r.sc, .slice v.r.oA v.r.on v.r.oc], .int .i64 slot, .int .i64 wait] w (ExTwo e v (expN e slot wait) (expB e slot wait) w) := by
  have HM := Lib.hid (Mem.start w)
  have cC := fun W (hb : Below w.heap.size w W) => chkE_any e v W (h.keep hb)
  have cL := fun W (hb : Below w.heap.size w W) (hk : chkE e = 0) => closed_any e v W (h.keep hb) (small_of h hk)
  have hR := expB_w e slot wait
  have hr : chkE e = 0 → 0 ≤ e.since ∧ e.since ≤ 1099511627776 := fun h => ⟨((chkE_iff e).1 h).since0, ((chkE_iff e).1 h).since⟩
  have hPb : ∀ w', expB e slot wait = false → Below w.heap.size w w' → ExTwo e v (expN e slot wait) (expB e slot wait) w (.returned (.tuple #[.agg (endA e v), .bool false])) w' := fun w' e1 hb => by
    unfold ExTwo expN; rw [e1]; exact ⟨v, rfl, .inl ⟨rfl, rfl⟩, hb⟩
  have hPo : ∀ w' v', expB e slot wait = true → EdOwn w' v' (closE e) → Below w.heap.size w w' → ExTwo e v (expN e slot wait) (expB e slot wait) w (.returned (.tuple #[.agg (endA (closE e) v'), .bool true])) w' := fun w' v' e1 hE hb => by
    unfold ExTwo expN; rw [e1]; exact ⟨v', rfl, .inr hE, hb⟩
  generalize ExTwo e v (expN e slot wait) (expB e slot wait) w = P at *
  generalize expB e slot wait = R at *
  generalize chkE e = C at *
  have uE := Tryz.underlying27
  obtain ⟨e0, e1, e2, e3, eo, e5, ea, ek, el, er⟩ := e
  dsimp only at *
  replace h := Lib.hid h
  replace cC := Lib.hid cC
  replace cL := Lib.hid cL
  replace hR := Lib.hid hR
  replace hr := Lib.hid hr
  replace hPb := Lib.hid hPb
  replace hPo := Lib.hid hPo
  replace uE := Lib.hid uE
  go_enter Tryz.func29, Tryz.ntmps29
  go_upto_region 1 with (first | (refine wpList_boxA HM rfl 27 _ rfl _ rfl ?_; clear HM; intro ge w1 HM hG; clear hG) | (refine wpList_allocA HM rfl 27 rfl (by first | exact msgInfo | exact edInfo | exact tabInfo | exact info_tcl | exact info_spt) ?_; clear HM; intro g2 w1 HM hG; clear hG))
  have ke := HM.out.cell 1 rfl
  by_cases hC : C = 0
  case neg =>
    have hR2 : Hid (R = false) := by show _ = _; rw [hR.out]; simp [hC]
    have d1 : (C != 0) = true := by rw [bne_iff_ne]; exact hC
    go_wp2_with (first
      | (refine wpList_loadM 1 HM rfl _ _ rfl _ rfl rfl _ uE.out rfl (by exact zend) ?_)
      | (refine wpList_storeF 0 HM rfl _ _ _ rfl _ rfl rfl _ rfl (by exact zend) (by rfl) (by rfl) ?_; clear HM ke; intro w4 HM hG4; simp only [List.set] at HM; have ke := HM.out.cell 1 rfl)
      | (go_at_call 25; refine (cC.out _ HM.out.below).mono ?_; rintro r w3 ⟨rfl, hb_⟩; have HM2 := Lib.hid (HM.out.keep hb_); clear HM hb_ ke cC; have HM := HM2; clear HM2; have ke := HM.out.cell 1 rfl)
      | fail)
    try simp only [Exit.inBlock, Exit.then]
    refine bodyPost_ret (results_ct rfl (HM.out.at_ 0 rfl) rfl _ uE.out rfl (by exact zend)) rfl ?_
    exact hPb.out _ hR2.out HM.out.below
  obtain ⟨s0, s1⟩ := hr.out hC
  have hcL := Lib.hid fun W hb => cL.out W hb hC
  clear cL hr
  rw [hC] at cC hR
  have hR2 : Hid (R = (eo && (!decide (slot < 0) && !decide (slot - e5 < wait)))) := by show _ = _; rw [hR.out]; simp
  clear hR
  cases eo
  all_goals
    by_cases hs : slot < 0
  all_goals
    have d2 : decide (slot < 0) = decide (slot < 0) := rfl
    first | rw [decide_eq_true hs] at hR2 | rw [decide_eq_false hs] at hR2
  all_goals try have hw1 : IntKind.i64.wrap (slot - e5) = slot - e5 := IntWalk.i64_in _ (by omega)
  all_goals
    clear d2
    go_wp2_with (first
      | (refine wpList_loadM 1 HM rfl _ _ rfl _ rfl rfl _ uE.out rfl (by exact zend) ?_)
      | (refine wpList_storeF 0 HM rfl _ _ _ rfl _ rfl rfl _ rfl (by exact zend) (by rfl) (by rfl) ?_; have hBq := HM.out.at_ 0 rfl; clear HM ke; intro w4 HM hG4; simp only [List.set] at HM; replace hE := Lib.hid (hE.out.put hBq (by decide) (by decide) hG4.out); clear hBq; have ke := HM.out.cell 1 rfl)
      | (refine wpList_storeF 0 HM rfl _ _ _ rfl _ rfl rfl _ rfl (by exact zend) (by rfl) (by rfl) ?_; clear HM ke; intro w4 HM hG4; simp only [List.set] at HM; have ke := HM.out.cell 1 rfl)
      | (go_at_call 25; refine (cC.out _ HM.out.below).mono ?_; rintro r w3 ⟨rfl, hb_⟩; have HM2 := Lib.hid (HM.out.keep hb_); clear HM hb_ ke cC; have HM := HM2; clear HM2; have ke := HM.out.cell 1 rfl)
      | (go_at_call 68; refine (hcL.out _ HM.out.below).mono ?_; rintro r w3 ⟨v', rfl, hE, hb_⟩; dsimp only [endA]; replace hE := Lib.hid hE; have HM2 := Lib.hid (HM.out.keep hb_); clear HM hb_ ke hcL; have HM := HM2; clear HM2; have ke := HM.out.cell 1 rfl)
      | fail)
  all_goals
    try simp only [Exit.inBlock, Exit.then]
    refine bodyPost_ret (results_ct rfl (HM.out.at_ 0 rfl) rfl _ uE.out rfl (by exact zend)) rfl ?_
    try simp only [bne_iff_ne, beq_iff_eq, ne_eq, bne_eq_false_iff_eq, beq_eq_false_iff_ne, Bool.not_eq_true', Bool.not_eq_false'] at *
    first
    | exact hPb.out _ (by rw [hR2.out]; first | (simp [*]; done) | (simp; omega)) HM.out.below
    | exact hPo.out _ _ (by rw [hR2.out]; simp [*]; done) hE.out HM.out.below
    | (trace_state; fail)
end Tx
end Go.Proofs.YtkfipbelhlcddaaGreat
