/- Chapter 25: Accept: what it returns is the call's own. -/
import Derived.Test.YtkfipbelhlcddaaGreatMa
import Derived.Test.YtkfipbelhlcddaaGreatMg
import Derived.Test.YtkfipbelhlcddaaGreatMt
set_option linter.unusedVariables false
set_option linter.unusedSimpArgs false
namespace Go.Proofs.YtkfipbelhlcddaaGreat
open Go Go.RowKit Go.Sort Go.Lib Go.Shelf Go.Maps
namespace Tx
open Sw Mm
def AccOwn (q : Msg) (count : Int) (l old : List Spt) (w : World) (e : Ending) (w' : World) : Prop := ∃ v, e = .returned (.tuple #[.agg (msgA (accN q count l old) v), .int .i64 (accC q count l old)]) ∧ MsgOwn w' v (accN q count l old) ∧ Below w.heap.size w w'
theorem accOwn_bad {q : Msg} {count F : Int} {l old : List Spt} {w w' : World} {e : Ending} (hF : accC q count l old = F) (h0 : F ≠ 0) (h : e = .returned (.tuple #[.agg #[.int .i64 0, .bool false, .int .i64 0, .int .i64 0, .int .i64 0, .slice none 0 0, .slice none 0 0], .int .i64 F])) (hb : Below w.heap.size w w') : AccOwn q count l old w e w' := by
  have hN : accN q count l old = msg0 := by unfold accN; rw [hF, if_neg h0]
  unfold AccOwn
  rw [hN, hF]
  exact ⟨msgV0, h, MsgOwn.zero _, hb⟩
theorem accOwn_ok {q : Msg} {count : Int} {l old : List Spt} {w w' : World} {e : Ending} (hF : accC q count l old = 0) {v : MsgV} (h : e = .returned (.tuple #[.agg (msgA (accM q count l old) v), .int .i64 0])) (hv : MsgOwn w' v (accM q count l old)) (hb : Below w.heap.size w w') : AccOwn q count l old w e w' := by
  have hN : accN q count l old = accM q count l old := by unfold accN; rw [hF, if_pos rfl]
  unfold AccOwn
  rw [hN, hF]
  exact ⟨v, h, hv, hb⟩
set_option maxRecDepth 100000 in
set_option maxHeartbeats 4000000 in
theorem accO_any (q : Msg) (vq : MsgV) (count : Int) (A B : Option Addr) (n c m d : Nat) (l old : List Spt) (w : World) (h1 : MsgIs w vq q) (hl : SptS w A n l) (ho : SptS w B m old) (hn : n ≤ 100000) (hm : m ≤ 100000) : Calls Tryz.prog 55 #[.agg #[.int .i64 q.kind, .bool q.reply, .int .i64 q.number, .int .i64 q.code, .int .i64 q.count, .slice vq.sA vq.sn vq.sc, .slice vq.oA vq.on vq.oc], .int .i64 count, .slice A n c, .slice B m d] w (AccOwn q count l old w) := by
  have HM := ((Mem.start w).alloc #[.int .i64 q.kind, .bool q.reply, .int .i64 q.number, .int .i64 q.code, .int .i64 q.count, .slice vq.sA vq.sn vq.sc, .slice vq.oA vq.on vq.oc] 25).alloc #[.int .i64 0, .bool false, .int .i64 0, .int .i64 0, .int .i64 0, .slice none 0 0, .slice none 0 0] 25
  rw [size1] at HM
  have cQ := chkM_any q vq _ (h1.keep HM.below)
  have cL := fun W hb => cloneS_any A n c l W (hl.keep (w' := W) hb) hn
  have cO := fun W hb => cloneS_any B m d old W (ho.keep (w' := W) hb) hm
  have cA := fun v W hb hv => ans_any q (accM q count l old) vq v W (h1.keep (w' := W) hb) hv
  have hF : accC q count l old = accC q count l old := rfl
  conv at hF => rhs; unfold accC
  generalize hP : AccOwn _ _ _ _ _ = P
  generalize chkM q = C1 at *
  generalize ansN q (accM q count l old) = AN at *
  obtain ⟨k0, r0, n0, c0, t0, s0, o0⟩ := q
  dsimp only [accM] at *
  have kq := HM.cell 1 rfl
  have uM := Tryz.underlying25
  replace h1 := Lib.hid h1
  replace HM := Lib.hid HM
  replace cQ := Lib.hid cQ
  replace cL := Lib.hid cL
  replace cO := Lib.hid cO
  replace cA := Lib.hid cA
  replace hF := Lib.hid hF
  replace uM := Lib.hid uM
  replace hP := Lib.hid hP
  replace hl := Lib.hid hl
  replace ho := Lib.hid ho
  go_enter Tryz.func55, Tryz.ntmps55
  go_wp2_with fail
  refine cQ.out.mono ?_
  rintro e w3 ⟨rfl, hb_⟩
  replace HM := Lib.hid (HM.out.keep hb_)
  clear hb_ kq cQ
  have kq := HM.out.cell 1 rfl
  go_upto_region 3 with (refine wpList_storeM 0 HM rfl _ _ _ rfl _ _ rfl rfl _ (by conv => {lhs; whnf}) (by exact zmsg) (by rfl) (Nat.le_of_ble_eq_true (by rfl)) _ (by simp only [setL, List.set, Value.cells]; exact rfl) ?_; clear HM kq; intro w4 HM hG4; simp only [List.set] at HM; have kq := HM.out.cell 1 rfl)
  all_goals try
    (have f1 := hF.out
     try simp only [Exit.inBlock, Exit.then]
     refine bodyPost_ret (results_ct rfl (HM.out.at_ 0 rfl) rfl _ uM.out rfl (by exact zmsg)) rfl ?_
     rw [← hP.out]
     have e1 := f1.trans (by simp [*] : _ = (1 : Int)); exact accOwn_bad e1 (by decide) rfl HM.out.below)
  subst_vars
  go_cut [10] (fun s10 wx => ∃ B v, s10 = .pointer (some ⟨B, 0, none⟩) ∧ Hid (Mem w wx [(B, msgA ⟨k0, true, n0, 0, count, l, old⟩ v, 25), (w.heap.size + 1, #[.int .i64 0, .bool false, .int .i64 0, .int .i64 0, .int .i64 0, .slice none 0 0, .slice none 0 0], 25), (w.heap.size, #[.int .i64 k0, .bool false, .int .i64 n0, .int .i64 c0, .int .i64 t0, .slice vq.sA vq.sn vq.sc, .slice vq.oA vq.on vq.oc], 25)]) ∧ Hid (MsgOwn wx v ⟨k0, true, n0, 0, count, l, old⟩))
  case first =>
    have HX : Hid (∀ w', Below w3.heap.size w3 w' → Below w3.heap.size w3 w' ∧ w'.cell? ⟨w.heap.size, 0, none⟩ = some (.int .i64 k0) ∧ w'.cell? ⟨w.heap.size, 2, none⟩ = some (.int .i64 n0)) := fun w' hb' => ⟨hb', (HM.out.keep hb').cell 1 rfl 0, (HM.out.keep hb').cell 1 rfl 2⟩
    clear kq
    go_region_held3 (fun w' => Below w3.heap.size w3 w' ∧ w'.cell? ⟨w.heap.size, 0, none⟩ = some (.int .i64 k0) ∧ w'.cell? ⟨w.heap.size, 2, none⟩ = some (.int .i64 n0))
      ((refine HX.out _ ?_; (repeat (with_reducible (first | assumption | exact Below.refl _ _ | refine Below.drew ?_ | refine ballN ?_ _ | refine Below.setCell ?_ ?_ _ | exact Nat.le_refl _ | exact Below.size (by assumption))))))
      (first
        | (go_at_call 95; (with_reducible show Calls _ _ _ (World.drew (World.alloc _ _)) _); refine (cL.out _ (bthen HM.out.below ((ballN (Below.refl _ _) _).drew))).mono ?_; rintro e w4 ⟨A1, c1, rfl, hO1, hB_⟩; have hB4 : Below w3.heap.size w3 w4 := bthen ((ballN (Below.refl _ _) _).drew) hB_; have hk4 : Blk w4 w3.heap.size _ _ := ((Blk.new _ _ _).drew).keep hB_; have kc4 := hk4.cell; have kf4 := hk4.free; clear hB_)
        | (go_at_call 95; refine (cL.out _ (bthen HM.out.below ((Below.refl _ _).drew))).mono ?_; rintro e w4 ⟨A1, c1, rfl, hO1, hB_⟩; have hB4 : Below w3.heap.size w3 w4 := bthen ((Below.refl _ _).drew) hB_; clear hB_)
        | (go_at_call 95; (with_reducible show Calls _ _ _ (World.alloc _ _) _); refine (cO.out _ (bthen HM.out.below (ballN hB4 _))).mono ?_; rintro e w5 ⟨A2, c2, rfl, hO2, hB_⟩; have hB5 : Below w3.heap.size w3 w5 := bthen (ballN hB4 _) hB_; have hk5 := (Blk.new _ _ _).keep hB_; have kc5 := hk5.cell; have kf5 := hk5.free; have hO3 := owns_keep (w' := w5) hO1 (bthen (ball _ _) hB_); clear hB_)
        | (go_at_call 95; refine (cO.out _ (bthen HM.out.below hB4)).mono ?_; rintro e w5 ⟨A2, c2, rfl, hO2, hB_⟩; have hB5 : Below w3.heap.size w3 w5 := bthen hB4 hB_; have hk5 := hk4.keep hB_; clear kc4 kf4; have kc5 := hk5.cell; have kf5 := hk5.free; have hO3 := owns_keep (w' := w5) hO1 hB_; clear hB_)
        | (go_at_call 95; refine (cO.out _ (bthen HM.out.below hB4)).mono ?_; rintro e w5 ⟨A2, c2, rfl, hO2, hB_⟩; have hB5 : Below w3.heap.size w3 w5 := bthen hB4 hB_; have hO3 := owns_keep (w' := w5) hO1 hB_; clear hB_)
        | fail)
    all_goals
      go_wp2_with fail
      go_meet
      refine ⟨_, ⟨A1, n, c1, A2, m, c2⟩, rfl, ?_⟩
      first
      | (rw [fold_msg (s := l) (o := old)]
         first
         | exact mem_msg (M := ⟨k0, true, n0, 0, count, l, old⟩) (HM.out.add hB5 hk5 (Nat.le_refl _)) rfl hO3 hO2 hl.out.len ho.out.len
         | exact mem_msg (M := ⟨k0, true, n0, 0, count, l, old⟩) (HM.out.add hB5 hk5 hB4.size) rfl hO3 hO2 hl.out.len ho.out.len)
      | exact ⟨(HM.out.keep hB5).alloc _ _, ⟨_, hO3.alloc _⟩, ⟨_, hO2.alloc _⟩, hl.out.len, ho.out.len⟩
  case rest =>
    obtain ⟨B, v, rfl, HM2, hv⟩ := hcut
    clear HM kq
    have HM := HM2
    clear HM2
    have kq := HM.out.cell 2 rfl
    have kb := HM.out.cell 0 rfl
    dsimp only [msgA] at kb
    have cA2 := Lib.hid (cA.out v wc HM.out.below hv.out.is)
    clear cA
    go_wp2_with fail
    refine cA2.out.mono ?_
    rintro e w6 ⟨rfl, hb_⟩
    replace HM := Lib.hid (HM.out.keep hb_)
    replace hv := Lib.hid (hv.out.keep hb_)
    clear hb_ kq kb
    have kb := HM.out.cell 0 rfl
    dsimp only [msgA] at kb
    have hB1 := Lib.hid (HM.out.at_ 1 rfl)
    cases AN
    all_goals
      go_wp2_with (refine wpList_storeM 1 HM rfl _ _ _ rfl _ _ rfl rfl _ (by conv => {lhs; whnf}) (by exact zmsg) (by rfl) (Nat.le_of_ble_eq_true (by rfl)) _ (by simp only [setL, List.set, Value.cells]; exact rfl) ?_; clear HM kb; intro w4 HM hG4; simp only [List.set] at HM; have kb := HM.out.cell 0 rfl)
      have f1 := hF.out
      try simp only [Exit.inBlock, Exit.then]
      refine bodyPost_ret (results_ct rfl (HM.out.at_ 1 rfl) rfl _ uM.out rfl (by exact zmsg)) rfl ?_
      first
      | (have e1 := f1.trans (by simp [*] : _ = (12 : Int)); exact accOwn_bad e1 (by decide) rfl HM.out.below)
      | (have e1 := f1.trans (by simp [*] : _ = (0 : Int)); exact accOwn_ok (v := v) e1 rfl (hv.out.put hB1.out (by decide) hG4.out) HM.out.below)
end Tx
end Go.Proofs.YtkfipbelhlcddaaGreat

namespace Go.Proofs.YtkfipbelhlcddaaGreat
open Go Go.RowKit Go.Sort Go.Shelf Go.Maps
namespace Tx
open Sw Mm Pl
def TriPost (E : Ed) (M : Msg) (c : Int) (w : World) (r : Ending) (w' : World) : Prop := ∃ v vm, r = .returned (.tuple #[.agg (endA E v), .agg (msgA M vm), .int .i64 c]) ∧ EdIs w' v E ∧ MsgIs w' vm M ∧ Below w.heap.size w w'
def OpenPost (e : Ed) (m : Msg) (vm : MsgV) (slot : Int) (w : World) (r : Ending) (w' : World) : Prop := ∃ v, r = .returned (.tuple #[.agg (endA (openE e { m with number := e.number } slot) v), .agg (msgA { m with number := e.number } vm), .int .i64 0]) ∧ EdOwn w' v (openE e { m with number := e.number } slot) ∧ Below w.heap.size w w'
def numM (m : Msg) (n : Int) : Msg := { m with number := n }
theorem EdIs.opened {w : World} {v : EdV} {e : Ed} {m : Msg} {vm : MsgV} (h : EdIs w v e) (hm : MsgIs w vm m) (n slot : Int) : EdIs w { v with a := vm } (openE e (numM m n) slot) := ⟨h.cells, h.cc, ⟨hm.spots, hm.old, hm.sc, hm.oc⟩, h.last, h.reply⟩
theorem EdOwn.small {w w0 : World} {v v0 : EdV} {e : Ed} (h : EdOwn w v e) (h0 : EdIs w0 v0 e) (hs : Small v0) : Small v := by
  have e1 := h.lc.symm.trans h0.cells.len
  have e2 := h.asked.ls.symm.trans h0.asked.spots.len
  have e3 := h.asked.lo.symm.trans h0.asked.old.len
  have e4 := h.last.ls.symm.trans h0.last.spots.len
  have e5 := h.last.lo.symm.trans h0.last.old.len
  have e6 := h.reply.ls.symm.trans h0.reply.spots.len
  have e7 := h.reply.lo.symm.trans h0.reply.old.len
  obtain ⟨a, b, c, d⟩ := hs
  exact ⟨by omega, by omega, by omega, by omega⟩
set_option maxRecDepth 100000 in
set_option maxHeartbeats 2000000 in
theorem open_any (e : Ed) (v : EdV) (m : Msg) (vm : MsgV) (slot : Int) (w : World) (h : EdIs w v e) (hm : MsgIs w vm m) (hs : Small v) (hsm : vm.sn ≤ 100000 ∧ vm.on ≤ 100000) : Calls Tryz.prog 82 #[.agg #[.int .i64 e.node, .int .i64 e.peer, .int .i64 e.number, .slice v.cA v.cn v.cc, .bool e.opn, .int .i64 e.since, .int .i64 e.asked.kind, .bool e.asked.reply, .int .i64 e.asked.number, .int .i64 e.asked.code, .int .i64 e.asked.count, .slice v.a.sA v.a.sn v.a.sc, .slice v.a.oA v.a.on v.a.oc, .bool e.known, .int .i64 e.last.kind, .bool e.last.reply, .int .i64 e.last.number, .int .i64 e.last.code, .int .i64 e.last.count, .slice v.l.sA v.l.sn v.l.sc, .slice v.l.oA v.l.on v.l.oc, .int .i64 e.reply.kind, .bool e.reply.reply, .int .i64 e.reply.number, .int .i64 e.reply.code, .int .i64 e.reply.count, .slice v.r.sA v.r.sn v.r.sc, .slice v.r.oA v.r.on v.r.oc], .agg #[.int .i64 m.kind, .bool m.reply, .int .i64 m.number, .int .i64 m.code, .int .i64 m.count, .slice vm.sA vm.sn vm.sc, .slice vm.oA vm.on vm.oc], .int .i64 slot] w (OpenPost e m vm slot w) := by
  have HM := Lib.hid (Mem.start w)
  have cC := fun W (hb : Below w.heap.size w W) => clone_any e v W (h.keep hb) hs.c hs.a hs.l hs.r
  have cD := fun v' W (h : EdIs W v' (openE e (numM m e.number) slot)) (hs : Small v') => clone_any _ v' W h hs.c hs.a hs.l hs.r
  have hSm := fun W v' (h' : EdOwn W v' e) => h'.small h hs
  have uE := Tryz.underlying27
  have uM := Tryz.underlying25
  generalize hP : OpenPost e m vm slot w = P
  replace h := Lib.hid h
  replace hm := Lib.hid hm
  replace cC := Lib.hid cC
  replace cD := Lib.hid cD
  replace uE := Lib.hid uE
  replace uM := Lib.hid uM
  replace hP := Lib.hid hP
  replace hSm := Lib.hid hSm
  go_enter Tryz.func82, Tryz.ntmps82
  go_upto_region 1 with (first | (refine wpList_boxA HM rfl 27 _ rfl _ rfl ?_; clear HM; intro ge w1 HM hG; clear hG) | (refine wpList_boxA HM rfl 25 _ rfl _ rfl ?_; clear HM; intro gm w1 HM hG; clear hG) | (refine wpList_allocA HM rfl 27 rfl (by first | exact msgInfo | exact edInfo | exact tabInfo | exact info_tcl | exact info_spt) ?_; clear HM; intro g6 w1 HM hG; clear hG) | (refine wpList_allocA HM rfl 25 rfl (by first | exact msgInfo | exact edInfo | exact tabInfo | exact info_tcl | exact info_spt) ?_; clear HM; intro g7 w1 HM hG; clear hG))
  have ke := HM.out.cell 3 rfl
  have km := HM.out.cell 2 rfl
  go_upto_region 3 with (first
    | (refine wpList_loadM 3 HM rfl _ _ rfl _ rfl rfl _ uE.out rfl (by exact zend) ?_)
    | (refine wpList_storeM 2 HM rfl _ _ _ rfl _ _ rfl rfl _ (by conv => {lhs; whnf}) (by exact zone_i) (by rfl) (Nat.le_of_ble_eq_true (by rfl)) _ (by simp only [setL, List.set, Value.cells]; exact rfl) ?_; have hBq := HM.out.at_ 2 rfl; clear HM ke km; intro w4 HM hG4; simp only [List.set] at HM; replace hE := Lib.hid (hE.out.put hBq (by decide) (by decide) hG4.out); clear hBq; have ke := HM.out.cell 3 rfl; have km := HM.out.cell 2 rfl)
    | (refine wpList_storeF 3 HM rfl _ _ _ rfl _ rfl rfl _ rfl (by exact zend) (by rfl) (by rfl) ?_; have hBq := HM.out.at_ 3 rfl; clear HM ke km; intro w4 HM hG4; simp only [List.set] at HM; replace hE := Lib.hid (hE.out.put hBq (by decide) (by decide) hG4.out); clear hBq; have ke := HM.out.cell 3 rfl; have km := HM.out.cell 2 rfl)
    | (go_at_call 47; refine (cC.out _ HM.out.below).mono ?_; rintro r w3 ⟨v', rfl, hE, hb_⟩; dsimp only [endA]; replace hE := Lib.hid hE; have HM2 := Lib.hid (HM.out.keep hb_); clear HM hb_ ke km cC; have HM := HM2; clear HM2; have ke := HM.out.cell 3 rfl; have km := HM.out.cell 2 rfl)
    | fail)
  clear km
  have HMd := Lib.hid HM.out.drew
  replace hE := Lib.hid (hE.out.keep ((Below.refl _ _).drew))
  clear HM ke
  have HM := HMd
  clear HMd
  have ke := HM.out.cell 3 rfl
  have HMs := Lib.hid HM.out
  replace HMs := Lib.hid (HMs.out.less 3)
  simp only [List.eraseIdx] at HMs
  refine wp_region_plan (fun w' => Mem _ w' _) 6 [(0, true), (1, true), (2, true), (3, false), (4, true), (5, false)] (by kernel_rfl) (by kernel_rfl) HMs.out ?_
  refine plPure rfl rfl (by intro w_ hSw; go_simp; first | done | exact rfl) ?_
  try simp only [Act.put, List.setIfInBounds_toArray, List.set_cons_zero, List.set_cons_succ, List.getElem_toArray, List.getElem_cons_succ, List.getElem_cons_zero]
  refine plTakeL (by rfl) (yields_memw rfl _ _ rfl 2 (fun w_ hSw => hSw) rfl rfl _ uM.out rfl (by exact zmsg)) ?_
  try simp only [Act.put, List.setIfInBounds_toArray, List.set_cons_zero, List.set_cons_succ, List.getElem_toArray, List.getElem_cons_succ, List.getElem_cons_zero]
  refine plPure rfl rfl (by intro w_ hSw; go_simp; first | done | exact rfl) ?_
  try simp only [Act.put, List.setIfInBounds_toArray, List.set_cons_zero, List.set_cons_succ, List.getElem_toArray, List.getElem_cons_succ, List.getElem_cons_zero]
  refine plStepL rfl rfl fun K hK => ?_
  go_wp2_with (first | (refine wpList_storeM 3 HM rfl _ _ _ rfl _ _ rfl rfl _ (by conv => {lhs; whnf}) (by exact zone_b) (by rfl) (Nat.le_of_ble_eq_true (by rfl)) _ (by simp only [setL, List.set, Value.cells]; exact rfl) ?_; have hBq := HM.out.at_ 3 rfl; clear HM ke; intro w4 HM hG4; simp only [List.set] at HM; replace hE := Lib.hid (hE.out.put hBq (by decide) (by decide) hG4.out); clear hBq; have ke := HM.out.cell 3 rfl) | fail)
  refine hK.out _ _ (HM.out.sub (by repeat (first | exact List.Sublist.refl _ | apply List.Sublist.cons_cons | apply List.Sublist.cons))) fun hS_ => ?_
  clear hK K hS_
  try simp only [Act.put, List.setIfInBounds_toArray, List.set_cons_zero, List.set_cons_succ, List.getElem_toArray, List.getElem_cons_succ, List.getElem_cons_zero]
  refine plPure rfl rfl (by intro w_ hSw; go_simp; first | done | exact rfl) ?_
  try simp only [Act.put, List.setIfInBounds_toArray, List.set_cons_zero, List.set_cons_succ, List.getElem_toArray, List.getElem_cons_succ, List.getElem_cons_zero]
  refine plStepL rfl rfl fun K hK => ?_
  go_wp2_with (first | (refine wpList_storeM 3 HM rfl _ _ _ rfl _ _ rfl rfl _ (by conv => {lhs; whnf}) (by exact zone_i) (by rfl) (Nat.le_of_ble_eq_true (by rfl)) _ (by simp only [setL, List.set, Value.cells]; exact rfl) ?_; have hBq := HM.out.at_ 3 rfl; clear HM ke; intro w4 HM hG4; simp only [List.set] at HM; replace hE := Lib.hid (hE.out.put hBq (by decide) (by decide) hG4.out); clear hBq; have ke := HM.out.cell 3 rfl) | fail)
  refine hK.out _ _ (HM.out.sub (by repeat (first | exact List.Sublist.refl _ | apply List.Sublist.cons_cons | apply List.Sublist.cons))) fun hS_ => ?_
  clear hK K hS_
  try simp only [Act.put, List.setIfInBounds_toArray, List.set_cons_zero, List.set_cons_succ, List.getElem_toArray, List.getElem_cons_succ, List.getElem_cons_zero]
  refine plDone ?_
  simp only [List.drop]
  go_upto_region 4 with (first | (refine wpList_storeM 3 HM rfl _ _ _ rfl _ _ rfl rfl _ (by conv => {lhs; whnf}) (by exact zmsg) (by rfl) (Nat.le_of_ble_eq_true (by rfl)) _ (by simp only [setL, List.set, Value.cells]; exact rfl) ?_; have hBq := HM.out.at_ 3 rfl; clear HM ke; intro w4 HM hG4; simp only [List.set] at HM; replace hE := Lib.hid (hE.out.put hBq (by decide) (by decide) hG4.out); clear hBq; have ke := HM.out.cell 3 rfl) | fail)
  have hE2 := Lib.hid (hE.out.is.opened (hm.out.keep HM.out.below) e.number slot)
  have hS2 := hSm.out _ _ hE.out
  have hS3 : Hid (Small { v' with a := vm }) := ⟨hS2.c, hsm, hS2.l, hS2.r⟩
  clear hS2 hE ke
  have HMd := Lib.hid HM.out.drew
  replace hE2 := Lib.hid (hE2.out.keep ((Below.refl _ _).drew))
  clear HM 
  have HM := HMd
  clear HMd
  have HMs := Lib.hid HM.out
  replace HMs := Lib.hid (HMs.out.less 1)
  simp only [List.eraseIdx] at HMs
  refine wp_region_plan (fun w' => Mem _ w' _) 4 [(0, true), (2, true), (1, false), (3, false)] (by kernel_rfl) (by kernel_rfl) HMs.out ?_
  refine plTakeL (by rfl) (yields_memw rfl _ _ rfl 2 (fun w_ hSw => hSw) rfl rfl _ uE.out rfl (by exact zend)) ?_
  try simp only [Act.put, List.setIfInBounds_toArray, List.set_cons_zero, List.set_cons_succ, List.getElem_toArray, List.getElem_cons_succ, List.getElem_cons_zero]
  refine plTakeL (by rfl) (yields_memw rfl _ _ rfl 1 (fun w_ hSw => hSw) rfl rfl _ uM.out rfl (by exact zmsg)) ?_
  try simp only [Act.put, List.setIfInBounds_toArray, List.set_cons_zero, List.set_cons_succ, List.getElem_toArray, List.getElem_cons_succ, List.getElem_cons_zero]
  refine plStepL rfl rfl fun K hK => ?_
  go_wp2_with (first | (go_at_call 47; refine (cD.out { v' with a := vm } _ hE2.out hS3.out).mono ?_; rintro r w5 ⟨v2, rfl, hE, hb_⟩; replace hE := Lib.hid hE) | fail)
  refine hK.out _ _ (HMs.out.keep hb_) fun hS_ => ?_
  clear hK K hS_
  try simp only [Act.put, List.setIfInBounds_toArray, List.set_cons_zero, List.set_cons_succ, List.getElem_toArray, List.getElem_cons_succ, List.getElem_cons_zero]
  dsimp only [endA]
  replace HM := Lib.hid (HM.out.keep hb_)
  clear hb_ HMs
  refine plStepL rfl rfl fun K hK => ?_
  go_wp2_with (first | (refine wpList_storeF 1 HM rfl _ _ _ rfl _ rfl rfl _ rfl (by exact zend) (by rfl) (by rfl) ?_; have hBq := HM.out.at_ 1 rfl; clear HM ; intro w4 HM hG4; simp only [List.set] at HM; replace hE := Lib.hid (hE.out.put hBq (by decide) (by decide) hG4.out); clear hBq) | fail)
  refine hK.out _ _ (HM.out.sub (by repeat (first | exact List.Sublist.refl _ | apply List.Sublist.cons_cons | apply List.Sublist.cons))) fun hS_ => ?_
  clear hK K hS_
  try simp only [Act.put, List.setIfInBounds_toArray, List.set_cons_zero, List.set_cons_succ, List.getElem_toArray, List.getElem_cons_succ, List.getElem_cons_zero]
  refine plDone ?_
  simp only [List.drop]
  go_wp2_with (first | (refine wpList_storeF 0 HM rfl _ _ _ rfl _ rfl rfl _ rfl (by exact zmsg) (by rfl) (by rfl) ?_; have hBq := HM.out.at_ 0 rfl; clear HM ; intro w4 HM hG4; simp only [List.set] at HM; replace hE := Lib.hid (hE.out.put hBq (by decide) (by decide) hG4.out); clear hBq) | fail)
  try simp only [Exit.inBlock, Exit.then]
  refine bodyPost_ret (results_cct rfl (HM.out.at_ 1 rfl) (HM.out.at_ 0 rfl) rfl rfl _ uE.out rfl (by exact zend) _ uM.out rfl (by exact zmsg)) rfl ?_
  rw [← hP.out]
  exact ⟨v2, rfl, hE.out, HM.out.below⟩
end Tx
end Go.Proofs.YtkfipbelhlcddaaGreat
