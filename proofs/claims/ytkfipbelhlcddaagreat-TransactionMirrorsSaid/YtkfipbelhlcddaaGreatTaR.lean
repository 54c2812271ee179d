/- Chapter 26: Finish: the program's. -/
import Derived.Test.YtkfipbelhlcddaaGreatTaK
import Derived.Test.YtkfipbelhlcddaaGreatMe
import Derived.Test.YtkfipbelhlcddaaGreatMp
set_option linter.unusedVariables false
set_option linter.unusedSimpArgs false
namespace Go.Proofs.YtkfipbelhlcddaaGreat
open Go Go.RowKit Go.Sort Go.Shelf Go.Maps
namespace Tx
open Sw Mm Pl
theorem EdOwn.zero (w : World) : EdOwn w edV0 ed0 := ⟨⟨0, World.ownsRow_nil _ _ _ _⟩, rfl, MsgOwn.zero w, MsgOwn.zero w, MsgOwn.zero w⟩
def EndOwn (E : Ed) (c : Int) (w : World) (r : Ending) (w' : World) : Prop := ∃ v, r = .returned (.tuple #[.agg (endA E v), .int .i64 c]) ∧ EdOwn w' v E ∧ Below w.heap.size w w'
structure ChgFit (e : Ed) (old spots : List Spt) (send : Bool) : Prop where
  ok : ChgOk e old spots
  bd : ∀ x ∈ keptN e old ++ newsN e spots send, 0 ≤ x.slot ∧ x.slot ≤ 511
theorem chg_fit {e : Ed} {old spots : List Spt} (b : Bool) (h : CellsOk e) (ha : Asc spots) (hok : ∀ x ∈ spots, SptOk x) (hf : ∀ s ∈ spots, ∀ c ∈ e.cells, c.slot ≠ s.slot) : ChgFit e old spots b where
  ok := ⟨cells_ag h, ha, fun s hs c hc => hf s hs c (kept_mem hc)⟩
  bd := fun x hx => by
    rcases List.mem_append.1 hx with hx | hx
    · have := h.each x (kept_mem hx)
      exact ⟨this.slot0, this.slot⟩
    · obtain ⟨s, hs, rfl⟩ := List.mem_map.1 hx
      have := hok s hs
      exact ⟨this.slot0, by have := this.slot; show s.slot ≤ 511; omega⟩
theorem ans_ok {q r : Msg} (h : ansN q r = true) : MsgOk q ∧ MsgOk r ∧ q.reply = false ∧ r.reply = true ∧ q.kind = r.kind ∧ q.number = r.number ∧ (r.code = 0 → (q.kind = 1 → r.count ≤ q.count ∧ amongN r.spots q.spots = true) ∧ (q.kind = 3 → r.count ≤ q.count ∧ amongN r.spots q.spots = true ∧ amongN r.old q.old = true) ∧ (q.kind = 2 → r.old = q.old)) := by
  unfold ansN at h
  split at h
  · cases h
  rename_i h1
  simp only [not_or, Decidable.not_not, Bool.not_eq_true, Bool.not_eq_false] at h1
  obtain ⟨a, b, c, d, k, l⟩ := h1
  refine ⟨(chkM_iff q).1 a, (chkM_iff r).1 b, c, d, k, l, fun h0 => ?_⟩
  rw [if_neg (by omega)] at h
  refine ⟨fun hk => ?_, fun hk => ?_, fun hk => ?_⟩
  · rw [if_pos hk] at h; simpa using h
  · rw [if_neg (by omega), if_pos hk] at h; simpa using h
  · rw [if_neg (by omega), if_neg (by omega), if_pos hk] at h; simpa using h
theorem asked_ok {e : Ed} (h : EdOk e) (ho : e.opn = true) : chkM e.asked = 0 ∧ e.asked.reply = false ∧ e.asked.number = e.number ∧ (∀ s ∈ e.asked.old, hasN e s true = true) ∧ ∀ s ∈ e.asked.spots, ∀ c ∈ e.cells, c.slot ≠ s.slot := by
  have := h.asked
  unfold askedOk at this
  rw [if_neg (by rw [ho]; decide)] at this
  simp only [Bool.and_eq_true, decide_eq_true_eq, Bool.not_eq_true', List.all_eq_true, List.any_eq_false] at this
  obtain ⟨a, b, c, d, k⟩ := this
  exact ⟨a, b, c, d, fun s hs x hx hn => by have := k s hs x hx; simp [hn] at this⟩
theorem fin_fit {e : Ed} {m : Msg} (hE : EdOk e) (ho : e.opn = true) (ha : ansN e.asked m = true) (hc : m.code = 0) (hk : m.kind = 1 ∨ m.kind = 3) : ChgFit (closE e) m.old m.spots true := by
  obtain ⟨_, hm, _, _, e1, _, h3⟩ := ans_ok ha
  have h4 := h3 hc
  have hs : amongN m.spots e.asked.spots = true := by
    rcases hk with hk | hk
    · exact (h4.1 (by omega)).2
    · exact (h4.2.1 (by omega)).2.1
  have h5 := asked_ok hE ho
  exact chg_fit (e := closE e) true ⟨hE.cells.each, hE.cells.asc, hE.cells.num⟩ hm.sasc hm.sok fun s hs2 c hc2 => h5.2.2.2.2 s (among_mem hs s hs2) c hc2
theorem fin_fit2 {e : Ed} {m : Msg} (hE : EdOk e) : ChgFit (closE e) m.old [] true :=
  chg_fit (e := closE e) true ⟨hE.cells.each, hE.cells.asc, hE.cells.num⟩ Asc.nil (by simp) (by simp)
theorem endOwn_bad {E : Ed} {c C : Int} {w w' : World} (hE : E = ed0) (hc : c = C) (hb : Below w.heap.size w w') : EndOwn E c w (.returned (.tuple #[.agg #[.int .i64 0, .int .i64 0, .int .i64 0, .slice none 0 0, .bool false, .int .i64 0, .int .i64 0, .bool false, .int .i64 0, .int .i64 0, .int .i64 0, .slice none 0 0, .slice none 0 0, .bool false, .int .i64 0, .bool false, .int .i64 0, .int .i64 0, .int .i64 0, .slice none 0 0, .slice none 0 0, .int .i64 0, .bool false, .int .i64 0, .int .i64 0, .int .i64 0, .slice none 0 0, .slice none 0 0], .int .i64 C])) w' := by
  subst hE hc; exact ⟨edV0, rfl, EdOwn.zero _, hb⟩
theorem finN_bad {e : Ed} {m : Msg} (h : finC e m ≠ 0) : finN e m = ed0 := by unfold finN; rw [if_neg h]
theorem finN_ok {e : Ed} {m : Msg} (h : finC e m = 0) : finN e m = finE e m := by unfold finN; rw [if_pos h]
theorem EdOwn.forget {w : World} {v : EdV} {e : Ed} (h : EdOwn w v e) (n : Int) : EdOwn w { v with l := msgV0, r := msgV0 } { e with known := false, last := msg0, reply := msg0, number := n } := ⟨h.cells, h.lc, h.asked, MsgOwn.zero w, MsgOwn.zero w⟩
theorem EdOwn.cells2 {w : World} {v : EdV} {e : Ed} (h : EdOwn w v e) {L : List TCl} {A : Option Addr} {n c b : Nat} (hL : w.ownsRow b 67 6 (.slice A n c) n (L.flatMap tclE)) : EdOwn w { v with cA := A, cn := n, cc := c } { e with cells := L } :=
  ⟨⟨b, hL⟩, own_len tclE_len (by decide) hL, h.asked, h.last, h.reply⟩
set_option maxRecDepth 100000 in
set_option maxHeartbeats 2000000 in
theorem finish_any (e : Ed) (m : Msg) (v : EdV) (vm : MsgV) (w : World) (h : EdIs w v e) (hm : MsgIs w vm m) : Calls Tryz.prog 19 #[.agg #[.int .i64 e.node, .int .i64 e.peer, .int .i64 e.number, .slice v.cA v.cn v.cc, .bool e.opn, .int .i64 e.since, .int .i64 e.asked.kind, .bool e.asked.reply, .int .i64 e.asked.number, .int .i64 e.asked.code, .int .i64 e.asked.count, .slice v.a.sA v.a.sn v.a.sc, .slice v.a.oA v.a.on v.a.oc, .bool e.known, .int .i64 e.last.kind, .bool e.last.reply, .int .i64 e.last.number, .int .i64 e.last.code, .int .i64 e.last.count, .slice v.l.sA v.l.sn v.l.sc, .slice v.l.oA v.l.on v.l.oc, .int .i64 e.reply.kind, .bool e.reply.reply, .int .i64 e.reply.number, .int .i64 e.reply.code, .int .i64 e.reply.count, .slice v.r.sA v.r.sn v.r.sc, .slice v.r.oA v.r.on v.r.oc], .agg #[.int .i64 m.kind, .bool m.reply, .int .i64 m.number, .int .i64 m.code, .int .i64 m.count, .slice vm.sA vm.sn vm.sc, .slice vm.oA vm.on vm.oc]] w (EndOwn (finN e m) (finC e m) w) := by
  have HM := Lib.hid (Mem.start w)
  have cE := fun W (hb : Below w.heap.size w W) => chkE_any e v W (h.keep hb)
  have cA := fun W (hb : Below w.heap.size w W) => ans_any e.asked m v.a vm W (h.asked.keep hb) (hm.keep hb)
  have cL : ∀ W, Below w.heap.size w W → Small v → Calls Tryz.prog 68 #[.agg #[.int .i64 e.node, .int .i64 e.peer, .int .i64 e.number, .slice v.cA v.cn v.cc, .bool e.opn, .int .i64 e.since, .int .i64 e.asked.kind, .bool e.asked.reply, .int .i64 e.asked.number, .int .i64 e.asked.code, .int .i64 e.asked.count, .slice v.a.sA v.a.sn v.a.sc, .slice v.a.oA v.a.on v.a.oc, .bool e.known, .int .i64 e.last.kind, .bool e.last.reply, .int .i64 e.last.number, .int .i64 e.last.code, .int .i64 e.last.count, .slice v.l.sA v.l.sn v.l.sc, .slice v.l.oA v.l.on v.l.oc, .int .i64 e.reply.kind, .bool e.reply.reply, .int .i64 e.reply.number, .int .i64 e.reply.code, .int .i64 e.reply.count, .slice v.r.sA v.r.sn v.r.sc, .slice v.r.oA v.r.on v.r.oc]] W fun r w' => ∃ v', r = .returned (.agg (endA (closE e) v')) ∧ EdOwn w' v' (closE e) ∧ Below W.heap.size W w' := fun W hb hs => closed_any e v W (h.keep hb) hs
  have cN := fun W => next_any e.number W
  have cG := fun E v1 spots B mm dd W (hb : Below w.heap.size w W) (hE : EdIs W v1 E) (hs : SptS W B mm spots) (hcn : v1.cn ≤ 100000) (hmm : mm ≤ 100000) (hf : ChgFit E m.old spots true) => change_any E v1 m.old spots vm.oA B vm.on vm.oc mm dd true W hE (hm.old.keep hb) hs hcn hmm hf.ok hf.bd
  have hsm : chkE e = 0 → Small v := fun hF => small_of h hF
  have hok : chkE e = 0 → EdOk e := fun hF => (chkE_iff e).1 hF
  have hA : finC e m = if chkE e ≠ 0 then 1 else if e.opn = false then 12 else if ansN e.asked m = false then 11 else 0 := rfl
  have hPb : ∀ c w', finC e m = c → c ≠ 0 → Below w.heap.size w w' → EndOwn (finN e m) (finC e m) w (.returned (.tuple #[.agg #[.int .i64 0, .int .i64 0, .int .i64 0, .slice none 0 0, .bool false, .int .i64 0, .int .i64 0, .bool false, .int .i64 0, .int .i64 0, .int .i64 0, .slice none 0 0, .slice none 0 0, .bool false, .int .i64 0, .bool false, .int .i64 0, .int .i64 0, .int .i64 0, .slice none 0 0, .slice none 0 0, .int .i64 0, .bool false, .int .i64 0, .int .i64 0, .int .i64 0, .slice none 0 0, .slice none 0 0], .int .i64 c])) w' := fun c w' e1 e2 hb => endOwn_bad (finN_bad (by rw [e1]; exact e2)) e1 hb
  have hPo : ∀ w' E ve, finC e m = 0 → finE e m = E → EdOwn w' ve E → Below w.heap.size w w' → EndOwn (finN e m) (finC e m) w (.returned (.tuple #[.agg (endA E ve), .int .i64 0])) w' := fun w' E ve e1 e2 hE hb => by
    rw [e1, finN_ok e1, e2]
    exact ⟨ve, rfl, hE, hb⟩
  have hFd : finE e m = if m.code ≠ 0 then closE e
    else if m.kind = 6 then { closE e with known := false, last := msg0, reply := msg0, cells := [], number := 0 }
    else { closE e with known := false, last := msg0, reply := msg0, number := nextN e.number, cells := if m.kind = 1 ∨ m.kind = 3 then chgN e m.old m.spots true else if m.kind = 2 then chgN e m.old [] true else e.cells } := rfl
  have hfit : chkE e = 0 → e.opn = true → ansN e.asked m = true → m.code = 0 → m.kind = 1 ∨ m.kind = 3 → ChgFit (closE e) m.old m.spots true := fun h0 h1 h2 h3 h4 => fin_fit ((chkE_iff e).1 h0) h1 h2 h3 h4
  have hfit2 : chkE e = 0 → ChgFit (closE e) m.old [] true := fun h0 => fin_fit2 ((chkE_iff e).1 h0)
  have hms8 : ansN e.asked m = true → vm.sn ≤ 8 := fun ha => by have := (ans_ok ha).2.1.ls; rw [hm.spots.len] at this; exact this
  generalize EndOwn (finN e m) (finC e m) w = P at *
  generalize finC e m = FC at *
  generalize finE e m = FE at *
  generalize chkE e = CE at *
  generalize ansN e.asked m = AN at *
  generalize nextN e.number = NX at *
  obtain ⟨n0, p0, u0, cl, eo, s0, ea, ek, el, er⟩ := e
  dsimp only [closE] at *
  have uE := Tryz.underlying27
  have uM := Tryz.underlying25
  replace cE := Lib.hid cE
  replace cA := Lib.hid cA
  replace cL := Lib.hid cL
  replace cN := Lib.hid cN
  replace cG := Lib.hid cG
  replace hsm := Lib.hid hsm
  replace hok := Lib.hid hok
  replace hA := Lib.hid hA
  replace hms8 := Lib.hid hms8
  replace hPb := Lib.hid hPb
  replace hPo := Lib.hid hPo
  replace hFd := Lib.hid hFd
  replace hfit := Lib.hid hfit
  replace hfit2 := Lib.hid hfit2
  replace uE := Lib.hid uE
  replace uM := Lib.hid uM
  replace h := Lib.hid h
  replace hm := Lib.hid hm
  go_enter Tryz.func19, Tryz.ntmps19
  go_upto_region 1 with (first | (refine wpList_boxA HM rfl 27 _ rfl _ rfl ?_; clear HM; intro ge w1 HM hG; clear hG) | (refine wpList_boxA HM rfl 25 _ rfl _ rfl ?_; clear HM; intro gm w1 HM hG; clear hG) | (refine wpList_allocA HM rfl 27 rfl (by first | exact msgInfo | exact edInfo | exact tabInfo | exact info_tcl | exact info_spt) ?_; clear HM; intro g4 w1 HM hG; clear hG))
  have ke := HM.out.cell 2 rfl
  have km := HM.out.cell 1 rfl
  by_cases hC : CE = 0
  case neg =>
    have hA1 := Lib.hid (hA.out.trans (if_pos hC))
    have d1 : (CE != 0) = true := by rw [bne_iff_ne]; exact hC
    go_wp2_with (first
      | (refine wpList_loadM 2 HM rfl _ _ rfl _ rfl rfl _ uE.out rfl (by exact zend) ?_)
      | (refine wpList_storeF 0 HM rfl _ _ _ rfl _ rfl rfl _ rfl (by exact zend) (by rfl) (by rfl) ?_; clear HM ; intro w4 HM hG4; simp only [List.set] at HM)
      | (go_at_call 25; refine (cE.out _ HM.out.below).mono ?_; rintro r w3 ⟨rfl, hb_⟩; have HM2 := Lib.hid (HM.out.keep hb_); clear HM hb_ ke km cE; have HM := HM2; clear HM2; have ke := HM.out.cell 2 rfl; have km := HM.out.cell 1 rfl)
      | fail)
    try simp only [Exit.inBlock, Exit.then]
    refine bodyPost_ret (results_ct rfl (HM.out.at_ 0 rfl) rfl _ uE.out rfl (by exact zend)) rfl ?_
    exact hPb.out 1 _ hA1.out (by decide) HM.out.below
  subst hC
  replace hA := Lib.hid (hA.out.trans (if_neg (fun h => h rfl)))
  have hsm2 := Lib.hid (hsm.out rfl)
  have hfi := Lib.hid (hfit.out rfl)
  have hfi2 := Lib.hid (hfit2.out rfl)
  clear hsm hfit hfit2 hok
  go_upto_region 3 with (first
      | (refine wpList_loadM 2 HM rfl _ _ rfl _ rfl rfl _ uE.out rfl (by exact zend) ?_)
      | (go_at_call 25; refine (cE.out _ HM.out.below).mono ?_; rintro r w3 ⟨rfl, hb_⟩; have HM2 := Lib.hid (HM.out.keep hb_); clear HM hb_ ke km cE; have HM := HM2; clear HM2; have ke := HM.out.cell 2 rfl; have km := HM.out.cell 1 rfl)
      | fail)
  cases eo
  case false =>
    have hA1 := Lib.hid (hA.out.trans (if_pos rfl))
    go_wp2_with (first
      | (refine wpList_storeF 0 HM rfl _ _ _ rfl _ rfl rfl _ rfl (by exact zend) (by rfl) (by rfl) ?_; clear HM ; intro w4 HM hG4; simp only [List.set] at HM)
      | fail)
    try simp only [Exit.inBlock, Exit.then]
    refine bodyPost_ret (results_ct rfl (HM.out.at_ 0 rfl) rfl _ uE.out rfl (by exact zend)) rfl ?_
    exact hPb.out 12 _ hA1.out (by decide) HM.out.below
  replace hA := Lib.hid (hA.out.trans (if_neg (by decide)))
  cases AN
  case false =>
    have hA1 := Lib.hid (hA.out.trans (if_pos rfl))
    go_wp2_with (first
      | (refine wpList_storeF 0 HM rfl _ _ _ rfl _ rfl rfl _ rfl (by exact zend) (by rfl) (by rfl) ?_; clear HM ; intro w4 HM hG4; simp only [List.set] at HM)
      | (refine wpList_loadP 2 HM (by rfl) _ _ rfl _ _ rfl rfl #[.int .i64 ea.kind, .bool ea.reply, .int .i64 ea.number, .int .i64 ea.code, .int .i64 ea.count, .slice v.a.sA v.a.sn v.a.sc, .slice v.a.oA v.a.on v.a.oc] (by rfl) _ uM.out rfl (by exact zmsg) ?_)
      | (refine wpList_loadM 1 HM rfl _ _ rfl _ rfl rfl _ uM.out rfl (by exact zmsg) ?_)
      | (go_at_call 67; refine (cA.out _ HM.out.below).mono ?_; rintro r w3 ⟨rfl, hb_⟩; have HM2 := Lib.hid (HM.out.keep hb_); clear HM hb_ ke km cA; have HM := HM2; clear HM2; have ke := HM.out.cell 2 rfl; have km := HM.out.cell 1 rfl)
      | fail)
    try simp only [Exit.inBlock, Exit.then]
    refine bodyPost_ret (results_ct rfl (HM.out.at_ 0 rfl) rfl _ uE.out rfl (by exact zend)) rfl ?_
    exact hPb.out 11 _ hA1.out (by decide) HM.out.below
  replace hA := Lib.hid (hA.out.trans (if_neg (by decide)))
  go_upto_region 8 with (first
      | (refine wpList_loadM 2 HM rfl _ _ rfl _ rfl rfl _ uE.out rfl (by exact zend) ?_)
      | (refine wpList_loadP 2 HM (by rfl) _ _ rfl _ _ rfl rfl #[.int .i64 ea.kind, .bool ea.reply, .int .i64 ea.number, .int .i64 ea.code, .int .i64 ea.count, .slice v.a.sA v.a.sn v.a.sc, .slice v.a.oA v.a.on v.a.oc] (by rfl) _ uM.out rfl (by exact zmsg) ?_)
      | (refine wpList_loadM 1 HM rfl _ _ rfl _ rfl rfl _ uM.out rfl (by exact zmsg) ?_)
      | (go_at_call 67; refine (cA.out _ HM.out.below).mono ?_; rintro r w3 ⟨rfl, hb_⟩; have HM2 := Lib.hid (HM.out.keep hb_); clear HM hb_ ke km cA; have HM := HM2; clear HM2; have ke := HM.out.cell 2 rfl; have km := HM.out.cell 1 rfl)
      | (go_at_call 68; refine (cL.out _ HM.out.below hsm2.out).mono ?_; rintro r w3 ⟨v', rfl, hE, hb_⟩; dsimp only [endA]; replace hE := Lib.hid hE; have HM2 := Lib.hid (HM.out.keep hb_); clear HM hb_ ke km cL; have HM := HM2; clear HM2; have ke := HM.out.cell 2 rfl; have km := HM.out.cell 1 rfl)
      | (refine wpList_allocN HM rfl 27 rfl edInfo ?_; clear HM ke km; intro g6 w1 HM hG hN9; replace hE := Lib.hid (hE.out.keep hG.out); have ke := HM.out.cell 3 rfl; have km := HM.out.cell 2 rfl)
      | (refine wpList_storeF 0 HM rfl _ _ _ rfl _ rfl rfl _ rfl (by exact zend) (by rfl) (by rfl) ?_; have hBq := HM.out.at_ 0 rfl; clear HM ke km; intro w4 HM hG4; simp only [List.set] at HM; replace hE := Lib.hid (hE.out.put hBq (by decide) (by decide) hG4.out); clear hBq; have ke := HM.out.cell 3 rfl; have km := HM.out.cell 2 rfl)
      | fail)
  replace hE := Lib.hid (hE.out)
  have hm8 := hms8.out trivial
  clear hG hG4 hN9 hms8 hPb
  by_cases hcd : m.code = 0
  case neg =>
    have d1 : (m.code != 0) = true := by rw [bne_iff_ne]; exact hcd
    have hFE : Hid (FE = _) := hFd.out.trans (if_pos hcd)
    have hEx := hE.out
    replace hE := Lib.hid hEx
    clear hEx
    go_wp2_with (first
      | (refine wpList_loadM 0 HM rfl _ _ rfl _ rfl rfl _ uE.out rfl (by exact zend) ?_)
      | (refine wpList_storeF 1 HM rfl _ _ _ rfl _ rfl rfl _ rfl (by exact zend) (by rfl) (by rfl) ?_; have hBq := HM.out.at_ 1 rfl; clear HM ke km; intro w4 HM hG4; simp only [List.set] at HM; replace hE := Lib.hid (hE.out.put hBq (by decide) (by decide) hG4.out); clear hBq; have ke := HM.out.cell 3 rfl; have km := HM.out.cell 2 rfl)
      | fail)
    try simp only [Exit.inBlock, Exit.then]
    refine bodyPost_ret (results_ct rfl (HM.out.at_ 1 rfl) rfl _ uE.out rfl (by exact zend)) rfl ?_
    exact hPo.out _ _ _ hA.out hFE.out hE.out HM.out.below
  have d1 : (m.code != 0) = false := by rw [bne_eq_false_iff_eq]; exact hcd
  replace hFd := Lib.hid (hFd.out.trans (if_neg (fun h => h hcd)))
  replace hfi := Lib.hid (hfi.out trivial trivial hcd)
  clear hcd
  go_upto_region 11 with (first
    | (refine wpList_storeM 0 HM rfl _ _ _ rfl _ _ rfl rfl _ (by conv => {lhs; whnf}) (by exact zone_b) (by rfl) (Nat.le_of_ble_eq_true (by rfl)) _ (by simp only [setL, List.set, Value.cells]; exact rfl) ?_; have hBq := HM.out.at_ 0 rfl; clear HM ke km; intro w4 HM hG4; simp only [List.set] at HM; replace hE := Lib.hid (hE.out.put hBq (by decide) (by decide) hG4.out); clear hBq; have ke := HM.out.cell 3 rfl; have km := HM.out.cell 2 rfl)
    | (refine wpList_storeM 0 HM rfl _ _ _ rfl _ _ rfl rfl _ (by conv => {lhs; whnf}) (by exact zmsg) (by rfl) (Nat.le_of_ble_eq_true (by rfl)) _ (by simp only [setL, List.set, Value.cells]; exact rfl) ?_; have hBq := HM.out.at_ 0 rfl; clear HM ke km; intro w4 HM hG4; simp only [List.set] at HM; replace hE := Lib.hid (hE.out.put hBq (by decide) (by decide) hG4.out); clear hBq; have ke := HM.out.cell 3 rfl; have km := HM.out.cell 2 rfl)
    | fail)
  clear d1
  by_cases c6 : m.kind = 6
  case pos =>
    have d6 : (m.kind == 6) = true := by rw [beq_iff_eq]; exact c6
    have hFE : Hid (FE = _) := hFd.out.trans (if_pos c6)
    go_upto_region 14 with (first
      | (refine wpList_storeM 0 HM rfl _ _ _ rfl _ _ rfl rfl _ (by conv => {lhs; whnf}) (by exact zslT) (by rfl) (Nat.le_of_ble_eq_true (by rfl)) _ (by simp only [setL, List.set, Value.cells]; exact rfl) ?_; have hBq := HM.out.at_ 0 rfl; clear HM ke km; intro w4 HM hG4; simp only [List.set] at HM; replace hE := Lib.hid (hE.out.put hBq (by decide) (by decide) hG4.out); clear hBq; have ke := HM.out.cell 3 rfl; have km := HM.out.cell 2 rfl)
      | (refine wpList_storeM 0 HM rfl _ _ _ rfl _ _ rfl rfl _ (by conv => {lhs; whnf}) (by exact zone_i) (by rfl) (Nat.le_of_ble_eq_true (by rfl)) _ (by simp only [setL, List.set, Value.cells]; exact rfl) ?_; have hBq := HM.out.at_ 0 rfl; clear HM ke km; intro w4 HM hG4; simp only [List.set] at HM; replace hE := Lib.hid (hE.out.put hBq (by decide) (by decide) hG4.out); clear hBq; have ke := HM.out.cell 3 rfl; have km := HM.out.cell 2 rfl)
      | fail)
    have hE2 : Hid (EdOwn w4 ⟨none, 0, 0, v'.a, msgV0, msgV0⟩ ⟨n0, p0, 0, [], false, 0, msg0, false, msg0, msg0⟩) := ⟨⟨0, World.ownsRow_nil _ _ _ _⟩, rfl, hE.out.asked, MsgOwn.zero _, MsgOwn.zero _⟩
    clear hE
    have hE := hE2
    clear hE2
    have hEx := hE.out
    replace hE := Lib.hid hEx
    clear hEx
    go_wp2_with (first
      | (refine wpList_loadM 0 HM rfl _ _ rfl _ rfl rfl _ uE.out rfl (by exact zend) ?_)
      | (refine wpList_storeF 1 HM rfl _ _ _ rfl _ rfl rfl _ rfl (by exact zend) (by rfl) (by rfl) ?_; have hBq := HM.out.at_ 1 rfl; clear HM ke km; intro w4 HM hG4; simp only [List.set] at HM; replace hE := Lib.hid (hE.out.put hBq (by decide) (by decide) hG4.out); clear hBq; have ke := HM.out.cell 3 rfl; have km := HM.out.cell 2 rfl)
      | fail)
    try simp only [Exit.inBlock, Exit.then]
    refine bodyPost_ret (results_ct rfl (HM.out.at_ 1 rfl) rfl _ uE.out rfl (by exact zend)) rfl ?_
    exact hPo.out _ _ _ hA.out hFE.out hE.out HM.out.below
  have d6 : (m.kind == 6) = false := by rw [beq_eq_false_iff_ne]; exact c6
  replace hFd := Lib.hid (hFd.out.trans (if_neg c6))
  clear c6
  by_cases c13 : m.kind = 1 ∨ m.kind = 3
  case pos =>
    have hd13 : (m.kind == 1) = true ∨ ((m.kind == 1) = false ∧ (m.kind == 3) = true) := by
      by_cases c1 : m.kind = 1
      · exact .inl (by rw [beq_iff_eq]; exact c1)
      · exact .inr ⟨by rw [beq_eq_false_iff_ne]; exact c1, by rw [beq_iff_eq]; omega⟩
    replace hfi := Lib.hid (hfi.out c13)
    have hFE : Hid (FE = ⟨n0, p0, NX, chgN ⟨n0, p0, u0, cl, true, s0, ea, ek, el, er⟩ m.old m.spots true, false, 0, msg0, false, msg0, msg0⟩) := by show _ = _; rw [hFd.out, if_pos c13]
    clear c13 hFd
    rcases hd13 with d13 | ⟨d1, d13⟩
    all_goals
      have hE1 : Hid (EdOwn w4 ⟨v'.cA, v'.cn, v'.cc, v'.a, msgV0, msgV0⟩ ⟨n0, p0, u0, cl, false, 0, msg0, false, msg0, msg0⟩) := hE.out.forget u0
      clear hE
      have hE := hE1
      clear hE1
      have hcn : v'.cn ≤ 100000 := by have h1 := hE.out.lc; have h2 := h.out.cells.len; have h3 := hsm2.out.c; dsimp only at h1 h2; omega
      have hf := Lib.hid (hfi.out)
      have hf2 : Hid (ChgFit ⟨n0, p0, u0, cl, false, 0, msg0, false, msg0, msg0⟩ m.old m.spots true) := ⟨⟨hf.out.ok.ag, hf.out.ok.asc, hf.out.ok.free⟩, hf.out.bd⟩
      clear hf
      go_upto_region 20 with (first
        | (refine wpList_loadM 0 HM rfl _ _ rfl _ rfl rfl _ uE.out rfl (by exact zend) ?_)
        | (go_at_call 69; refine (cG.out ⟨n0, p0, u0, cl, false, 0, msg0, false, msg0, msg0⟩ ⟨v'.cA, v'.cn, v'.cc, v'.a, msgV0, msgV0⟩ m.spots vm.sA vm.sn vm.sc _ HM.out.below hE.out.is (hm.out.spots.keep HM.out.below) hcn (by omega) hf2.out).mono ?_; rintro r w5 ⟨A1, n1, c1, rfl, hl1, hO1, hb_⟩; dsimp only [endA]; replace hE := Lib.hid ((hE.out.keep hb_).cells2 hO1); clear hO1 hl1; have HM2 := Lib.hid (HM.out.keep hb_); clear HM hb_ ke km cG; have HM := HM2; clear HM2; have ke := HM.out.cell 3 rfl; have km := HM.out.cell 2 rfl)
        | (refine wpList_storeF 0 HM rfl _ _ _ rfl _ rfl rfl _ rfl (by exact zend) (by rfl) (by rfl) ?_; have hBq := HM.out.at_ 0 rfl; clear HM ke km; intro w4 HM hG4; simp only [List.set] at HM; replace hE := Lib.hid (hE.out.put hBq (by decide) (by decide) hG4.out); clear hBq; have ke := HM.out.cell 3 rfl; have km := HM.out.cell 2 rfl)
        | fail)
      have k6 := HM.out.cell 0 rfl
      go_upto_region 21 with (first
        | (go_at_call 28; refine (cN.out _).mono ?_; rintro r w_ ⟨rfl, rfl⟩)
        | (refine wpList_storeM 0 HM rfl _ _ _ rfl _ _ rfl rfl _ (by conv => {lhs; whnf}) (by exact zone_i) (by rfl) (Nat.le_of_ble_eq_true (by rfl)) _ (by simp only [setL, List.set, Value.cells]; exact rfl) ?_; have hBq := HM.out.at_ 0 rfl; clear HM ke km k6; intro w4 HM hG4; simp only [List.set] at HM; replace hE := Lib.hid (hE.out.put hBq (by decide) (by decide) hG4.out); clear hBq; have ke := HM.out.cell 3 rfl; have km := HM.out.cell 2 rfl; have k6 := HM.out.cell 0 rfl)
        | fail)
      have hE4 : Hid (EdOwn w4 ⟨A1, n1, c1, v'.a, msgV0, msgV0⟩ ⟨n0, p0, NX, chgN ⟨n0, p0, u0, cl, true, s0, ea, ek, el, er⟩ m.old m.spots true, false, 0, msg0, false, msg0, msg0⟩) := ⟨hE.out.cells, hE.out.lc, hE.out.asked, hE.out.last, hE.out.reply⟩
      clear hE k6
      have hEx := hE4.out
      replace hE := Lib.hid hEx
      clear hEx
      go_wp2_with (first
        | (refine wpList_loadM 0 HM rfl _ _ rfl _ rfl rfl _ uE.out rfl (by exact zend) ?_)
        | (refine wpList_storeF 1 HM rfl _ _ _ rfl _ rfl rfl _ rfl (by exact zend) (by rfl) (by rfl) ?_; have hBq := HM.out.at_ 1 rfl; clear HM ke km; intro w4 HM hG4; simp only [List.set] at HM; replace hE := Lib.hid (hE.out.put hBq (by decide) (by decide) hG4.out); clear hBq; have ke := HM.out.cell 3 rfl; have km := HM.out.cell 2 rfl)
        | fail)
      try simp only [Exit.inBlock, Exit.then]
      refine bodyPost_ret (results_ct rfl (HM.out.at_ 1 rfl) rfl _ uE.out rfl (by exact zend)) rfl ?_
      exact hPo.out _ _ _ hA.out hFE.out hE.out HM.out.below
  have d1 : (m.kind == 1) = false := by rw [beq_eq_false_iff_ne]; omega
  have d3 : (m.kind == 3) = false := by rw [beq_eq_false_iff_ne]; omega
  clear hfi
  by_cases c2 : m.kind = 2
  case pos =>
    have d2 : (m.kind == 2) = true := by rw [beq_iff_eq]; exact c2
    have hFE : Hid (FE = ⟨n0, p0, NX, chgN ⟨n0, p0, u0, cl, true, s0, ea, ek, el, er⟩ m.old [] true, false, 0, msg0, false, msg0, msg0⟩) := by show _ = _; rw [hFd.out, if_neg c13, if_pos c2]
    clear c13 hFd c2
    have hE1 : Hid (EdOwn w4 ⟨v'.cA, v'.cn, v'.cc, v'.a, msgV0, msgV0⟩ ⟨n0, p0, u0, cl, false, 0, msg0, false, msg0, msg0⟩) := hE.out.forget u0
    clear hE
    have hE := hE1
    clear hE1
    have hcn : v'.cn ≤ 100000 := by have h1 := hE.out.lc; have h2 := h.out.cells.len; have h3 := hsm2.out.c; dsimp only at h1 h2; omega
    have hf := Lib.hid (hfi2.out)
    have hf2 : Hid (ChgFit ⟨n0, p0, u0, cl, false, 0, msg0, false, msg0, msg0⟩ m.old [] true) := ⟨⟨hf.out.ok.ag, hf.out.ok.asc, hf.out.ok.free⟩, hf.out.bd⟩
    clear hf
    go_upto_region 20 with (first
      | (refine wpList_loadM 0 HM rfl _ _ rfl _ rfl rfl _ uE.out rfl (by exact zend) ?_)
      | (go_at_call 69; refine (cG.out ⟨n0, p0, u0, cl, false, 0, msg0, false, msg0, msg0⟩ ⟨v'.cA, v'.cn, v'.cc, v'.a, msgV0, msgV0⟩ [] none 0 0 _ HM.out.below hE.out.is Sls.nil hcn (by decide) hf2.out).mono ?_; rintro r w5 ⟨A1, n1, c1, rfl, hl1, hO1, hb_⟩; dsimp only [endA]; replace hE := Lib.hid ((hE.out.keep hb_).cells2 hO1); clear hO1 hl1; have HM2 := Lib.hid (HM.out.keep hb_); clear HM hb_ ke km cG; have HM := HM2; clear HM2; have ke := HM.out.cell 3 rfl; have km := HM.out.cell 2 rfl)
      | (refine wpList_storeF 0 HM rfl _ _ _ rfl _ rfl rfl _ rfl (by exact zend) (by rfl) (by rfl) ?_; have hBq := HM.out.at_ 0 rfl; clear HM ke km; intro w4 HM hG4; simp only [List.set] at HM; replace hE := Lib.hid (hE.out.put hBq (by decide) (by decide) hG4.out); clear hBq; have ke := HM.out.cell 3 rfl; have km := HM.out.cell 2 rfl)
      | fail)
    have k6 := HM.out.cell 0 rfl
    go_upto_region 21 with (first
      | (go_at_call 28; refine (cN.out _).mono ?_; rintro r w_ ⟨rfl, rfl⟩)
      | (refine wpList_storeM 0 HM rfl _ _ _ rfl _ _ rfl rfl _ (by conv => {lhs; whnf}) (by exact zone_i) (by rfl) (Nat.le_of_ble_eq_true (by rfl)) _ (by simp only [setL, List.set, Value.cells]; exact rfl) ?_; have hBq := HM.out.at_ 0 rfl; clear HM ke km k6; intro w4 HM hG4; simp only [List.set] at HM; replace hE := Lib.hid (hE.out.put hBq (by decide) (by decide) hG4.out); clear hBq; have ke := HM.out.cell 3 rfl; have km := HM.out.cell 2 rfl; have k6 := HM.out.cell 0 rfl)
      | fail)
    have hE4 : Hid (EdOwn w4 ⟨A1, n1, c1, v'.a, msgV0, msgV0⟩ ⟨n0, p0, NX, chgN ⟨n0, p0, u0, cl, true, s0, ea, ek, el, er⟩ m.old [] true, false, 0, msg0, false, msg0, msg0⟩) := ⟨hE.out.cells, hE.out.lc, hE.out.asked, hE.out.last, hE.out.reply⟩
    clear hE k6
    have hEx := hE4.out
    replace hE := Lib.hid hEx
    clear hEx
    go_wp2_with (first
      | (refine wpList_loadM 0 HM rfl _ _ rfl _ rfl rfl _ uE.out rfl (by exact zend) ?_)
      | (refine wpList_storeF 1 HM rfl _ _ _ rfl _ rfl rfl _ rfl (by exact zend) (by rfl) (by rfl) ?_; have hBq := HM.out.at_ 1 rfl; clear HM ke km; intro w4 HM hG4; simp only [List.set] at HM; replace hE := Lib.hid (hE.out.put hBq (by decide) (by decide) hG4.out); clear hBq; have ke := HM.out.cell 3 rfl; have km := HM.out.cell 2 rfl)
      | fail)
    try simp only [Exit.inBlock, Exit.then]
    refine bodyPost_ret (results_ct rfl (HM.out.at_ 1 rfl) rfl _ uE.out rfl (by exact zend)) rfl ?_
    exact hPo.out _ _ _ hA.out hFE.out hE.out HM.out.below
  have d2 : (m.kind == 2) = false := by rw [beq_eq_false_iff_ne]; exact c2
  have hFE : Hid (FE = ⟨n0, p0, NX, cl, false, 0, msg0, false, msg0, msg0⟩) := by show _ = _; rw [hFd.out, if_neg c13, if_neg c2]
  clear c13 c2 hFd
  have k6 := HM.out.cell 0 rfl
  go_upto_region 21 with (first
    | (go_at_call 28; refine (cN.out _).mono ?_; rintro r w_ ⟨rfl, rfl⟩)
    | (refine wpList_storeM 0 HM rfl _ _ _ rfl _ _ rfl rfl _ (by conv => {lhs; whnf}) (by exact zone_i) (by rfl) (Nat.le_of_ble_eq_true (by rfl)) _ (by simp only [setL, List.set, Value.cells]; exact rfl) ?_; have hBq := HM.out.at_ 0 rfl; clear HM ke km k6; intro w4 HM hG4; simp only [List.set] at HM; replace hE := Lib.hid (hE.out.put hBq (by decide) (by decide) hG4.out); clear hBq; have ke := HM.out.cell 3 rfl; have km := HM.out.cell 2 rfl; have k6 := HM.out.cell 0 rfl)
    | fail)
  have hE4 : Hid (EdOwn w4 ⟨v'.cA, v'.cn, v'.cc, v'.a, msgV0, msgV0⟩ ⟨n0, p0, NX, cl, false, 0, msg0, false, msg0, msg0⟩) := ⟨hE.out.cells, hE.out.lc, hE.out.asked, MsgOwn.zero _, MsgOwn.zero _⟩
  clear hE k6
  have hEx := hE4.out
  replace hE := Lib.hid hEx
  clear hEx
  go_wp2_with (first
    | (refine wpList_loadM 0 HM rfl _ _ rfl _ rfl rfl _ uE.out rfl (by exact zend) ?_)
    | (refine wpList_storeF 1 HM rfl _ _ _ rfl _ rfl rfl _ rfl (by exact zend) (by rfl) (by rfl) ?_; have hBq := HM.out.at_ 1 rfl; clear HM ke km; intro w4 HM hG4; simp only [List.set] at HM; replace hE := Lib.hid (hE.out.put hBq (by decide) (by decide) hG4.out); clear hBq; have ke := HM.out.cell 3 rfl; have km := HM.out.cell 2 rfl)
    | fail)
  try simp only [Exit.inBlock, Exit.then]
  refine bodyPost_ret (results_ct rfl (HM.out.at_ 1 rfl) rfl _ uE.out rfl (by exact zend)) rfl ?_
  exact hPo.out _ _ _ hA.out hFE.out hE.out HM.out.below
end Tx
end Go.Proofs.YtkfipbelhlcddaaGreat
