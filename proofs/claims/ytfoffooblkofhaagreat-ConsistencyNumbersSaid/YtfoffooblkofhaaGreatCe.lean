/- Chapter 26: Between and Full: the reference's. -/
import Derived.Test.YtfoffooblkofhaaGreatBq
import Derived.Test.YtfoffooblkofhaaGreatBn
import Derived.Test.YtfoffooblkofhaaGreatBo
import Derived.Test.YtfoffooblkofhaaGreatCd
set_option linter.unusedVariables false
set_option linter.unusedSimpArgs false
namespace Go.Proofs.YtfoffooblkofhaaGreat
open Go Go.RowKit Go.Sort Go.Shelf Go.Maps
namespace Tx
open Sw Mm Pl
def btK (peer : Int) (c : TCl) : Bool := decide (c.kind = 2) && decide (c.peer = peer)
theorem bt_succ {peer : Int} {l : List TCl} {k : Nat} (h : k < l.length) : (l.take (k + 1)).filter (btK peer) = (l.take k).filter (btK peer) ++ (if btK peer (l.getD k default) = true then [l.getD k default] else []) := by
  rw [take_snoc h, List.filter_append]
  generalize l.getD k default = y
  cases hq : btK peer y <;> simp [hq]
theorem bt_len (peer : Int) (l : List TCl) (k : Nat) : ((l.take k).filter (btK peer)).length ≤ k := by
  have h1 := List.length_filter_le (btK peer) (l.take k)
  have h2 := List.length_take_le k l
  omega
set_option maxRecDepth 100000 in
set_option maxHeartbeats 8000000 in
theorem rbetween_any (t : Tab) (v : TabV) (peer : Int) (w : World) (h : TabIs w v t) : Calls Tryz.prog 98 #[.agg (tabA t v), .int .i64 peer] w (BtPost t peer w) := by
  have HM := Lib.hid (Mem.start w)
  have hB : betwN t peer = if chkT t = 0 then t.cells.filter (btK peer) else [] := rfl
  have cK := fun W (hb : Below w.heap.size w W) => rchkT_any t v W (h.keep hb)
  have hl := h.cells.len
  have hcE := h.cells
  have hsz : chkT t = 0 → v.n ≤ 512 := fun e => by have := ((chkT_iff t).1 e).size; omega
  have hsucc := fun k (hk : k < v.n) => bt_succ (peer := peer) (l := t.cells) (k := k) (by rw [hl]; exact hk)
  have hle := fun k => bt_len peer t.cells k
  have hall : t.cells.take v.n = t.cells := List.take_of_length_le (by rw [hl]; exact Nat.le_refl _)
  have hF : ∀ x : TCl, btK peer x = (decide (x.kind = 2) && decide (x.peer = peer)) := fun x => rfl
  have hP : ∀ L A n c w', betwN t peer = L → TclS w' A n L → Below w.heap.size w w' → BtPost t peer w (.returned (.slice A n c)) w' := fun L A n c w' e1 h1 h2 => by subst e1; exact ⟨A, n, c, rfl, h1, h2⟩
  generalize BtPost t peer w = P at *
  generalize betwN t peer = R at *
  generalize chkT t = C1 at *
  have uM := Tryz.underlying29
  have uT := Tryz.underlying67
  replace cK := Lib.hid cK
  replace hB := Lib.hid hB
  replace hP := Lib.hid hP
  replace hl := Lib.hid hl
  replace hcE := Lib.hid hcE
  replace hsz := Lib.hid hsz
  replace hsucc := Lib.hid hsucc
  replace hle := Lib.hid hle
  replace hall := Lib.hid hall
  replace hF := Lib.hid hF
  replace uM := Lib.hid uM
  replace uT := Lib.hid uT
  clear h
  go_enter Tryz.func98, Tryz.ntmps98
  go_upto_region 1 with (first | (refine wpList_boxA HM rfl 29 _ rfl _ rfl ?_; clear HM; intro gt w1 HM hG; clear hG) | fail)
  by_cases hc : C1 = 0
  case neg =>
    have d1 : (C1 != 0) = true := by rw [bne_iff_ne]; exact hc
    have hR : R = [] := by rw [hB.out, if_neg hc]
    go_wp2_with (first | go_skip | (refine wpList_loadM 0 HM rfl _ _ rfl _ rfl rfl _ uM.out rfl (by exact ztab) ?_) | (go_at_call 97; refine (cK.out _ HM.out.below).mono ?_; rintro r w3 ⟨rfl, hb_⟩; replace HM := Lib.hid (HM.out.keep hb_); clear hb_) | fail)
    exact hP.out [] none 0 _ _ hR Sls.nil HM.out.below
  have d1 : (C1 != 0) = false := by rw [bne_eq_false_iff_eq]; exact hc
  have hn5 := hsz.out hc
  have hR := Lib.hid (hB.out.trans (if_pos hc))
  clear hB hsz
  go_upto_region 4 with (first | go_skip | (refine wpList_loadM 0 HM rfl _ _ rfl _ rfl rfl _ uM.out rfl (by exact ztab) ?_) | (go_at_call 97; refine (cK.out _ HM.out.below).mono ?_; rintro r w3 ⟨rfl, hb_⟩; replace HM := Lib.hid (HM.out.keep hb_); clear hb_) | fail)
  clear cK d1 hc
  go_wp2_with fail
  go_loopw [5, 6] (fun o i wr => Hid (∃ (k n1 : Nat) (A1 : Option Addr) (c1 : Nat), k ≤ v.n ∧ i = .int .i64 k ∧ o = .slice A1 n1 c1 ∧ Hid (((t.cells.take k).filter (btK peer)).length = n1) ∧ Hid (wr.ownsRow w.heap.size 67 6 (.slice A1 n1 c1) n1 (((t.cells.take k).filter (btK peer)).flatMap tclE)) ∧ Hid (Mem w wr [(gt, tabA t v, 29)]))) (fun _ i _ => v.n - (intOf i).toNat)
  case atStart => exact Lib.hid ⟨0, 0, none, 0, by omega, rfl, rfl, rfl, World.ownsRow_nil _ _ _ _, HM⟩
  case round =>
    clear HM
    obtain ⟨k, n1, A1, c1, hk, rfl, rfl, HL, HO, HM⟩ := hrel.out
    clear hrel
    have p2 : World.cell? _ ⟨gt, 2, none⟩ = some (.slice v.A v.n v.c) := HM.out.cell 0 rfl 2
    by_cases hlt : k < v.n
    · obtain ⟨b, off, hcA⟩ := hcE.out.addr (by omega)
      have hx := tcl_at (hcA ▸ hcE.out.keep HM.out.below) hlt
      have hst := hsucc.out k hlt
      have hmk := hle.out k
      have HL3 := HL.out
      rw [HL3] at hmk
      have hFx := hF.out (t.cells.getD k default)
      generalize hxq : t.cells.getD k default = x at *
      clear hxq
      generalize btK peer x = Q at *
      rw [hcA] at p2
      replace hcA := Lib.hid hcA
      obtain ⟨x0, x1, x2, x3, x4, x5⟩ := x
      obtain ⟨q0, q1, q2, q3, q4, q5⟩ := hx
      dsimp only at q0 q1 q2 q3 q4 q5 hFx
      have r1 : (k : Int) < (v.n : Int) := by omega
      have r0 : (0 : Int) ≤ (k : Int) := by omega
      replace hst := Lib.hid hst
      by_cases hq : Q = true
      · have HE : Hid ((t.cells.take (k + 1)).filter (btK peer) = (t.cells.take k).filter (btK peer) ++ [⟨x0, x1, x2, x3, x4, x5⟩]) := by show _ = _; rw [hst.out, if_pos hq]
        obtain ⟨rfl, rfl⟩ : x2 = 2 ∧ x4 = peer := by rw [hq] at hFx; simpa using hFx.symm
        have de : (x4 == x4) = true := beq_self_eq_true x4
        clear hFx hq
        go_wp2_with (first | go_skip | (at_builtin; refine wpList_append_sls eltT _ rfl _ _ rfl w.heap.size (.slice A1 n1 c1) ((t.cells.take k).filter (btK x4)) rfl (by rw [HL3]; exact HO.out.alloc _) _ 1 1 [⟨x0, x1, 2, x3, x4, x5⟩] rfl (Sls.one (t := 67) (Blk.new _ _ _)) (by rw [HL3]; simp; omega) (by exact (ballN HM.out.below _).size) ?_; intro v1 w7 HO1 HG1 _; rw [List.length_append, HL3, List.length_singleton] at HO1; obtain ⟨A2, c2, rfl⟩ := own_slice HO1; replace HO1 := Lib.hid HO1; have HM7 := Lib.hid ((HM.out.keep (ball _ _)).row (HO.out.alloc _) HG1 (Nat.le_refl _) (apart_of (by rfl))); clear HG1) | fail)
        rw [← HE.out] at HO1
        have HL2 : Hid (((t.cells.take (k + 1)).filter (btK x4)).length = n1 + 1) := by show _ = _; rw [HE.out, List.length_append, HL3]; rfl
        exact ⟨Lib.hid ⟨k + 1, n1 + 1, A2, c2, by omega, by go_num, rfl, HL2, HO1, HM7⟩, by simp [intOf]; omega⟩
      · have HE : Hid ((t.cells.take (k + 1)).filter (btK peer) = (t.cells.take k).filter (btK peer)) := by show _ = _; rw [hst.out, if_neg hq, List.append_nil]
        rw [← HE.out] at HO HL
        by_cases hk2 : x2 = 2
        · have d1 : (x2 == 2) = true := by rw [beq_iff_eq]; exact hk2
          have d2 : (x4 == peer) = false := by
            rw [beq_eq_false_iff_ne]; intro e4; apply hq; rw [hFx, hk2, e4]; simp
          clear hFx hq
          go_wp2_with (first | go_skip | fail)
          exact ⟨Lib.hid ⟨k + 1, n1, A1, c1, by omega, by go_num, rfl, HL, HO, HM⟩, by simp [intOf]; omega⟩
        · have d1 : (x2 == 2) = false := by rw [beq_eq_false_iff_ne]; exact hk2
          clear hFx hq
          go_wp2_with (first | go_skip | fail)
          exact ⟨Lib.hid ⟨k + 1, n1, A1, c1, by omega, by go_num, rfl, HL, HO, HM⟩, by simp [intOf]; omega⟩
    · obtain rfl : k = v.n := by omega
      rw [hall.out] at HL HO
      go_wp2_with fail
      exact hP.out _ A1 n1 c1 _ hR.out (Sls.of_owns tclE_len HO.out HL.out).2 HM.out.below
end Tx
end Go.Proofs.YtfoffooblkofhaaGreat
namespace Go.Proofs.YtfoffooblkofhaaGreat
open Go Go.RowKit Go.Sort Go.Shelf Go.Maps
namespace Tx
open Sw Mm Pl
theorem tcl_range {w : World} {b o : Nat} {x : TCl} (h : TclAt w b o x) : w.rangeAt b o (tclA x).toList := fun j v hv => by
  obtain ⟨h0, h1, h2, h3, h4, h5⟩ := h
  match j, hv with
  | 0, hv => rw [show some v = some _ from hv.symm]; exact h0
  | 1, hv => rw [show some v = some _ from hv.symm]; exact h1
  | 2, hv => rw [show some v = some _ from hv.symm]; exact h2
  | 3, hv => rw [show some v = some _ from hv.symm]; exact h3
  | 4, hv => rw [show some v = some _ from hv.symm]; exact h4
  | 5, hv => rw [show some v = some _ from hv.symm]; exact h5
set_option maxRecDepth 100000 in
set_option maxHeartbeats 8000000 in
theorem rfull_any (t : Tab) (e : Ed) (vt : TabV) (v : EdV) (w : World) (ht : TabIs w vt t) (h : EdIs w v e) : Calls Tryz.prog 52 #[.agg (tabA t vt), .agg (endA e v)] w (FullPost t e w) := by
  obtain ⟨cA, cn, cc, va, vl, vr⟩ := v
  have HM := Lib.hid (Mem.start w)
  have cE := fun W (hb : Below w.heap.size w W) => rchkE_any e _ W (h.keep hb)
  rw [rChkE_eq] at cE
  have cT := fun W (hb : Below w.heap.size w W) => rchkT_any t vt W (ht.keep hb)
  have cB := fun W (hb : Below w.heap.size w W) => rbetween_any t vt e.peer W (ht.keep hb)
  have cAd := fun u vu c W (hu : TabIs W vu u) => radd_any u vu c W hu
  have hcE := h.cells
  have hlE := h.cells.len
  have hsm := h.cells.small
  dsimp only at hcE hlE hsm
  unfold maxLen at hsm
  have hPb := fun F w' e1 e2 e3 => fullPost_bad (t := t) (e := e) (F := F) (w := w) (w' := w') e1 e2 e3
  have hPo := fun u w' v' h1 h2 h3 h4 => fullPost_ok (t := t) (u := u) (e := e) (w := w) (w' := w') h1 h2 (v := v') h3 h4
  have hF : fullC t e = if chkE e ≠ 0 ∨ chkT t ≠ 0 ∨ t.node ≠ e.node ∨ (betwN t e.peer).length ≠ 0 then 1 else if addsN t e.cells = none then 16 else 0 := rfl
  generalize FullPost t e w = P at *
  generalize fullC t e = F at *
  generalize chkE e = C1 at *
  generalize chkT t = C2 at *
  have uE := Tryz.underlying27
  have uM := Tryz.underlying29
  have uT := Tryz.underlying67
  have hT0 := ht
  replace cE := Lib.hid cE
  replace cT := Lib.hid cT
  replace cB := Lib.hid cB
  replace cAd := Lib.hid cAd
  replace hPb := Lib.hid hPb
  replace hPo := Lib.hid hPo
  replace hF := Lib.hid hF
  replace uE := Lib.hid uE
  replace uM := Lib.hid uM
  replace uT := Lib.hid uT
  replace ht := Lib.hid ht
  replace h := Lib.hid h
  replace hcE := Lib.hid hcE
  replace hlE := Lib.hid hlE
  replace hT0 := Lib.hid hT0
  go_enter Tryz.func52, Tryz.ntmps52
  go_upto_region 1 with (first | (refine wpList_boxA HM rfl 29 _ rfl _ rfl ?_; clear HM; intro gt w1 HM hG; clear hG) | (refine wpList_boxA HM rfl 27 _ rfl _ rfl ?_; clear HM; intro ge w1 HM hG; clear hG) | (refine wpList_allocA HM rfl 29 rfl (by first | exact msgInfo | exact edInfo | exact tabInfo | exact info_tcl | exact info_spt) ?_; clear HM; intro g4 w1 HM hG; clear hG))
  have p0 : World.cell? _ ⟨gt, 0, none⟩ = some (.int .i64 t.node) := HM.out.cell 2 rfl 0
  have q0 : World.cell? _ ⟨ge, 0, none⟩ = some (.int .i64 e.node) := HM.out.cell 1 rfl 0
  have q1 : World.cell? _ ⟨ge, 1, none⟩ = some (.int .i64 e.peer) := HM.out.cell 1 rfl 1
  by_cases hC1 : C1 = 0
  case neg =>
    have hF1 := Lib.hid (hF.out.trans (if_pos (.inl hC1)))
    have d1 : (C1 != 0) = true := by rw [bne_iff_ne]; exact hC1
    go_wp2_with (first | go_skip | (refine wpList_loadM 1 HM rfl _ _ rfl _ rfl rfl _ uE.out rfl (by exact zend) ?_) | (refine wpList_storeF 0 HM rfl _ _ _ rfl _ rfl rfl _ rfl (by exact ztab) (by rfl) (by rfl) ?_; clear HM ; intro w4 HM hG4; simp only [List.set] at HM) | (go_at_call 96; refine (cE.out _ HM.out.below).mono ?_; rintro r w3 ⟨rfl, hb_⟩; clear p0 q0 q1; replace HM := Lib.hid (HM.out.keep hb_); clear hb_) | fail)
    try simp only [Exit.inBlock, Exit.then]
    refine bodyPost_ret (results_ct rfl (HM.out.at_ 0 rfl) rfl _ uM.out rfl (by exact ztab)) rfl ?_
    exact hPb.out _ _ hF1.out (by decide) HM.out.below
  have d1 : (C1 != 0) = false := by rw [bne_eq_false_iff_eq]; exact hC1
  by_cases hC2 : C2 = 0
  case neg =>
    have hF1 := Lib.hid (hF.out.trans (if_pos (.inr (.inl hC2))))
    have d2 : (C2 != 0) = true := by rw [bne_iff_ne]; exact hC2
    go_wp2_with (first | go_skip | (refine wpList_loadM 1 HM rfl _ _ rfl _ rfl rfl _ uE.out rfl (by exact zend) ?_) | (refine wpList_loadG 2 HM (by rfl) _ _ rfl _ rfl rfl _ uM.out rfl (by exact ztab) ?_) | (refine wpList_storeF 0 HM rfl _ _ _ rfl _ rfl rfl _ rfl (by exact ztab) (by rfl) (by rfl) ?_; clear HM ; intro w4 HM hG4; simp only [List.set] at HM) | (go_at_call 96; refine (cE.out _ HM.out.below).mono ?_; rintro r w3 ⟨rfl, hb_⟩; replace p0 := ((HM.out.keep hb_).cell 2 rfl 0).trans ((HM.out.cell 2 rfl 0).symm.trans p0); replace q0 := ((HM.out.keep hb_).cell 1 rfl 0).trans ((HM.out.cell 1 rfl 0).symm.trans q0); replace q1 := ((HM.out.keep hb_).cell 1 rfl 1).trans ((HM.out.cell 1 rfl 1).symm.trans q1); replace HM := Lib.hid (HM.out.keep hb_); clear hb_) | (go_at_call 97; refine (cT.out _ HM.out.below).mono ?_; rintro r w3 ⟨rfl, hb_⟩; clear p0 q0 q1; replace HM := Lib.hid (HM.out.keep hb_); clear hb_) | fail)
    try simp only [Exit.inBlock, Exit.then]
    refine bodyPost_ret (results_ct rfl (HM.out.at_ 0 rfl) rfl _ uM.out rfl (by exact ztab)) rfl ?_
    exact hPb.out _ _ hF1.out (by decide) HM.out.below
  have d2 : (C2 != 0) = false := by rw [bne_eq_false_iff_eq]; exact hC2
  by_cases hN : t.node = e.node
  case neg =>
    have hF1 := Lib.hid (hF.out.trans (if_pos (.inr (.inr (.inl hN)))))
    have d3 : (t.node != e.node) = true := by rw [bne_iff_ne]; exact hN
    go_wp2_with (first | go_skip | (refine wpList_loadM 1 HM rfl _ _ rfl _ rfl rfl _ uE.out rfl (by exact zend) ?_) | (refine wpList_loadG 2 HM (by rfl) _ _ rfl _ rfl rfl _ uM.out rfl (by exact ztab) ?_) | (refine wpList_storeF 0 HM rfl _ _ _ rfl _ rfl rfl _ rfl (by exact ztab) (by rfl) (by rfl) ?_; clear HM ; intro w4 HM hG4; simp only [List.set] at HM) | (go_at_call 96; refine (cE.out _ HM.out.below).mono ?_; rintro r w3 ⟨rfl, hb_⟩; replace p0 := ((HM.out.keep hb_).cell 2 rfl 0).trans ((HM.out.cell 2 rfl 0).symm.trans p0); replace q0 := ((HM.out.keep hb_).cell 1 rfl 0).trans ((HM.out.cell 1 rfl 0).symm.trans q0); replace q1 := ((HM.out.keep hb_).cell 1 rfl 1).trans ((HM.out.cell 1 rfl 1).symm.trans q1); replace HM := Lib.hid (HM.out.keep hb_); clear hb_) | (go_at_call 97; refine (cT.out _ HM.out.below).mono ?_; rintro r w3 ⟨rfl, hb_⟩; replace p0 := ((HM.out.keep hb_).cell 2 rfl 0).trans ((HM.out.cell 2 rfl 0).symm.trans p0); replace q0 := ((HM.out.keep hb_).cell 1 rfl 0).trans ((HM.out.cell 1 rfl 0).symm.trans q0); replace q1 := ((HM.out.keep hb_).cell 1 rfl 1).trans ((HM.out.cell 1 rfl 1).symm.trans q1); replace HM := Lib.hid (HM.out.keep hb_); clear hb_) | fail)
    try simp only [Exit.inBlock, Exit.then]
    refine bodyPost_ret (results_ct rfl (HM.out.at_ 0 rfl) rfl _ uM.out rfl (by exact ztab)) rfl ?_
    exact hPb.out _ _ hF1.out (by decide) HM.out.below
  have d3 : (t.node != e.node) = false := by rw [bne_eq_false_iff_eq]; exact hN
  replace hN := Lib.hid hN
  by_cases hB : (betwN t e.peer).length = 0
  case neg =>
    have hF1 := Lib.hid (hF.out.trans (if_pos (.inr (.inr (.inr hB)))))
    replace hB := Lib.hid hB
    go_wp2_with (first | go_skip | (refine wpList_loadM 1 HM rfl _ _ rfl _ rfl rfl _ uE.out rfl (by exact zend) ?_) | (refine wpList_loadG 2 HM (by rfl) _ _ rfl _ rfl rfl _ uM.out rfl (by exact ztab) ?_) | (refine wpList_storeF 0 HM rfl _ _ _ rfl _ rfl rfl _ rfl (by exact ztab) (by rfl) (by rfl) ?_; clear HM ; intro w4 HM hG4; simp only [List.set] at HM) | (go_at_call 96; refine (cE.out _ HM.out.below).mono ?_; rintro r w3 ⟨rfl, hb_⟩; replace p0 := ((HM.out.keep hb_).cell 2 rfl 0).trans ((HM.out.cell 2 rfl 0).symm.trans p0); replace q0 := ((HM.out.keep hb_).cell 1 rfl 0).trans ((HM.out.cell 1 rfl 0).symm.trans q0); replace q1 := ((HM.out.keep hb_).cell 1 rfl 1).trans ((HM.out.cell 1 rfl 1).symm.trans q1); replace HM := Lib.hid (HM.out.keep hb_); clear hb_) | (go_at_call 97; refine (cT.out _ HM.out.below).mono ?_; rintro r w3 ⟨rfl, hb_⟩; replace p0 := ((HM.out.keep hb_).cell 2 rfl 0).trans ((HM.out.cell 2 rfl 0).symm.trans p0); replace q0 := ((HM.out.keep hb_).cell 1 rfl 0).trans ((HM.out.cell 1 rfl 0).symm.trans q0); replace q1 := ((HM.out.keep hb_).cell 1 rfl 1).trans ((HM.out.cell 1 rfl 1).symm.trans q1); replace HM := Lib.hid (HM.out.keep hb_); clear hb_) | (go_at_call 98; refine (cB.out _ HM.out.below).mono ?_; rintro r w3 ⟨Ab, nb, cb, rfl, hS, hb_⟩; have hnb : (0 : Int) < (nb : Int) := (by have := hS.len; have := hB.out; omega); clear p0 q0 q1 hS; replace HM := Lib.hid (HM.out.keep hb_); clear hb_) | fail)
    try simp only [Exit.inBlock, Exit.then]
    refine bodyPost_ret (results_ct rfl (HM.out.at_ 0 rfl) rfl _ uM.out rfl (by exact ztab)) rfl ?_
    exact hPb.out _ _ hF1.out (by decide) HM.out.below
  have hok := Lib.hid (show (C1 ≠ 0 ∨ C2 ≠ 0 ∨ t.node ≠ e.node ∨ (betwN t e.peer).length ≠ 0) → False by
    rintro (a | a | a | a)
    · exact a hC1
    · exact a hC2
    · exact a hN.out
    · exact a hB)
  have hF2 := Lib.hid (hF.out.trans (if_neg hok.out))
  clear hF
  replace hB := Lib.hid hB
  go_upto_region 3 with (first | go_skip | (refine wpList_loadM 1 HM rfl _ _ rfl _ rfl rfl _ uE.out rfl (by exact zend) ?_) | (refine wpList_loadG 2 HM (by rfl) _ _ rfl _ rfl rfl _ uM.out rfl (by exact ztab) ?_) | (go_at_call 96; refine (cE.out _ HM.out.below).mono ?_; rintro r w3 ⟨rfl, hb_⟩; replace p0 := ((HM.out.keep hb_).cell 2 rfl 0).trans ((HM.out.cell 2 rfl 0).symm.trans p0); replace q0 := ((HM.out.keep hb_).cell 1 rfl 0).trans ((HM.out.cell 1 rfl 0).symm.trans q0); replace q1 := ((HM.out.keep hb_).cell 1 rfl 1).trans ((HM.out.cell 1 rfl 1).symm.trans q1); replace HM := Lib.hid (HM.out.keep hb_); clear hb_) | (go_at_call 97; refine (cT.out _ HM.out.below).mono ?_; rintro r w3 ⟨rfl, hb_⟩; replace p0 := ((HM.out.keep hb_).cell 2 rfl 0).trans ((HM.out.cell 2 rfl 0).symm.trans p0); replace q0 := ((HM.out.keep hb_).cell 1 rfl 0).trans ((HM.out.cell 1 rfl 0).symm.trans q0); replace q1 := ((HM.out.keep hb_).cell 1 rfl 1).trans ((HM.out.cell 1 rfl 1).symm.trans q1); replace HM := Lib.hid (HM.out.keep hb_); clear hb_) | (go_at_call 98; refine (cB.out _ HM.out.below).mono ?_; rintro r w3 ⟨Ab, nb, cb, rfl, hS, hb_⟩; have hnb : nb = 0 := (by have := hS.len; have := hB.out; omega); subst hnb; clear p0 q0 q1 hS; replace HM := Lib.hid (HM.out.keep hb_); clear hb_) | fail)
  clear d1 d2 d3 cE cT cB hC1 hC2
  have mk1 : Unit := ()
  go_wp2_with (first | (refine wpList_loadM 2 HM rfl _ _ rfl _ rfl rfl _ uM.out rfl (by exact ztab) ?_) | (clear mk1; (refine wpList_allocA HM rfl 29 rfl (by first | exact msgInfo | exact edInfo | exact tabInfo | exact info_tcl | exact info_spt) ?_; clear HM; intro g6 w1 HM hG; clear hG)) | (refine wpList_storeF 0 HM rfl _ _ _ rfl _ rfl rfl _ rfl (by exact ztab) (by rfl) (by rfl) ?_; clear HM ; intro w4 HM hG4; simp only [List.set] at HM) | fail)
  replace hT0 := Lib.hid (hT0.out.keep HM.out.below)
  go_loopw [7, 8, 9] (fun i _ _ wr => ∃ (k : Nat) (u : Tab) (vu : TabV), k ≤ cn ∧ i = .int .i64 k ∧ Hid (addsN t (e.cells.take k) = some u) ∧ Hid (TabIs wr vu u) ∧ Hid (Mem w wr [(g6, tabA u vu, 29), (g4, #[.int .i64 0, .int .i64 0, .slice none 0 0], 29), (ge, endA e ⟨cA, cn, cc, va, vl, vr⟩, 27), (gt, tabA t vt, 29)])) (fun i _ _ _ => cn - (intOf i).toNat)
  case atStart => exact ⟨0, t, vt, by omega, rfl, rfl, hT0, HM⟩
  case round =>
    clear HM hT0
    obtain ⟨k, u, vu, hk, rfl, hA, hT, HM⟩ := hrel
    have q3 : World.cell? _ ⟨ge, 3, none⟩ = some (.slice cA cn cc) := HM.out.cell 2 rfl 3
    by_cases hlt2 : k < cn
    · obtain ⟨b, off, rfl⟩ := hcE.out.addr (by omega)
      have hxs := Lib.hid (fun W (hb : Below w.heap.size w W) => tcl_at (hcE.out.keep hb) hlt2)
      have hst : addsN t (e.cells.take (k + 1)) = if addC u (e.cells.getD k default) = 0 then some (addN u (e.cells.getD k default)) else none := by
        have e1 : e.cells.take (k + 1) = e.cells.take k ++ [e.cells.getD k default] := by
          rw [List.take_add_one, List.getElem?_eq_getElem (by rw [hlE.out]; exact hlt2)]
          simp [List.getD, List.getElem?_eq_getElem (show k < e.cells.length by rw [hlE.out]; exact hlt2)]
        rw [e1, addsN_snoc, hA.out]; rfl
      have hbad : addsN t (e.cells.take (k + 1)) = none → addsN t e.cells = none := fun h1 => by
        have := addsN_none _ (e.cells.drop (k + 1)) t h1
        rwa [List.take_append_drop] at this
      have cX := cAd.out u vu (e.cells.getD k default)
      unfold AddPost at cX
      generalize e.cells.getD k default = x at *
      generalize addC u x = AC at *
      generalize addN u x = AN at *
      have r1 : (k : Int) < (cn : Int) := by omega
      have r0 : (0 : Int) ≤ (k : Int) := by omega
      change Hid (∀ W, _ → Calls _ _ #[_, .agg (tclA x)] _ _) at cX
      replace hst := Lib.hid hst
      replace hbad := Lib.hid hbad
      replace cX := Lib.hid cX
      go_upto_region 7 with fail
      clear q3
      replace hT := Lib.hid (hT.out.keep ((Below.refl _ _).drew))
      replace HM := Lib.hid (HM.out.keep ((Below.refl _ _).drew))
      refine wp_region_pt (fun w' => Mem w w' _) 12 (.take 0 (.take 1 (.take 2 (.take 3 (.take 4 (.take 5 (.fork 6 (.take 7 (.take 8 (.take 9 (.only 10 (.only 11 .done))))) 10 (.only 6 (.take 7 (.take 8 (.take 9 (.only 11 .done)))))))))))) (by kernel_rfl) (by kernel_rfl) HM.out ?_
      generalize World.drew wr = wd at *
      refine ptTake (by rfl) (yields_memw rfl _ _ rfl 0 (fun w_ hSw => hSw) rfl rfl _ uM.out rfl (by exact ztab)) ?_
      try simp only [Act.put, List.setIfInBounds_toArray, List.set_cons_zero, List.set_cons_succ, List.getElem_toArray, List.getElem_cons_succ, List.getElem_cons_zero]
      repeat (first | (refine ptPure rfl rfl (by intro w_ hSw; go_simp; first | done | exact rfl) ?_; try simp only [Act.put, List.setIfInBounds_toArray, List.set_cons_zero, List.set_cons_succ, List.getElem_toArray, List.getElem_cons_succ, List.getElem_cons_zero]))
      refine ptTake (by rfl) (yields_memc rfl _ _ rfl 2 (fun w_ hSw => hSw) rfl 3 rfl (.slice (some ⟨b, off, none⟩) cn cc) rfl _ Tryz.underlying22 (by rfl)) ?_
      try simp only [Act.put, List.setIfInBounds_toArray, List.set_cons_zero, List.set_cons_succ, List.getElem_toArray, List.getElem_cons_succ, List.getElem_cons_zero]
      repeat (first | (refine ptPure rfl rfl (by intro w_ hSw; go_simp; first | done | exact rfl) ?_; try simp only [Act.put, List.setIfInBounds_toArray, List.set_cons_zero, List.set_cons_succ, List.getElem_toArray, List.getElem_cons_succ, List.getElem_cons_zero]))
      refine ptTake (by rfl) (yields_part rfl _ _ rfl b (off + k * 6) rfl _ _ (fun w_ hSw => tcl_range (hxs.out w_ hSw.below)) uT.out rfl (by exact ztcl)) ?_
      try simp only [Act.put, List.setIfInBounds_toArray, List.set_cons_zero, List.set_cons_succ, List.getElem_toArray, List.getElem_cons_succ, List.getElem_cons_zero]
      refine ptFork rfl rfl rfl rfl (fun K hK => ?_) (fun K hK => ?_)
      · go_wp2_with (first | (go_at_call 99; refine (cX.out _ hT.out).mono ?_; rintro r w5 ⟨vn, rfl, hT2, hb_⟩; replace hT2 := Lib.hid hT2) | fail)
        refine hK.out _ _ (HM.out.keep hb_) fun hS_ => ?_
        clear hK K hS_
        try simp only [Act.put, List.setIfInBounds_toArray, List.set_cons_zero, List.set_cons_succ, List.getElem_toArray, List.getElem_cons_succ, List.getElem_cons_zero]
        replace HM := Lib.hid (HM.out.keep hb_)
        clear hb_ hT
        repeat (first | (refine ptPure rfl rfl (by intro w_ hSw; go_simp; first | done | exact rfl) ?_; try simp only [Act.put, List.setIfInBounds_toArray, List.set_cons_zero, List.set_cons_succ, List.getElem_toArray, List.getElem_cons_succ, List.getElem_cons_zero]))
        refine ptOnly rfl rfl fun K hK => ?_
        go_wp2_with (first | (refine wpList_allocN HM rfl 29 rfl tabInfo ?_; clear HM; intro g8 w1 HM hG hN9; replace hT2 := Lib.hid (hT2.out.keep hG.out); clear hG hN9) | fail)
        refine hK.out _ _ (HM.out.tail) fun hS_ => ?_
        clear hK K hS_
        try simp only [Act.put, List.setIfInBounds_toArray, List.set_cons_zero, List.set_cons_succ, List.getElem_toArray, List.getElem_cons_succ, List.getElem_cons_zero]
        refine ptOnly rfl rfl fun K hK => ?_
        go_wp2_with (first | (refine wpList_storeF 0 HM rfl _ _ _ rfl _ rfl rfl _ rfl (by exact ztab) (by rfl) (by rfl) ?_; have hBq := HM.out.at_ 0 rfl; clear HM; intro w4 HM hG4; simp only [List.set] at HM; replace hT2 := Lib.hid (hT2.out.grown hBq (by show 3 < 6; decide) hG4.out); clear hBq hG4) | fail)
        refine hK.out _ _ (HM.out.tail) fun hS_ => ?_
        clear hK K hS_
        try simp only [Act.put, List.setIfInBounds_toArray, List.set_cons_zero, List.set_cons_succ, List.getElem_toArray, List.getElem_cons_succ, List.getElem_cons_zero]
        refine ptDone ?_
        simp only [List.drop]
        by_cases hA0 : AC = 0
        case neg =>
          have d1 : (AC != 0) = true := by rw [bne_iff_ne]; exact hA0
          go_wp2_with (first | (refine wpList_storeF 2 HM rfl _ _ _ rfl _ rfl rfl _ rfl (by exact ztab) (by rfl) (by rfl) ?_; clear HM ; intro w4 HM hG4; simp only [List.set] at HM) | fail)
          try simp only [Exit.inBlock, Exit.then]
          refine bodyPost_ret (results_ct rfl (HM.out.at_ 2 rfl) rfl _ uM.out rfl (by exact ztab)) rfl ?_
          exact hPb.out 16 _ (hF2.out.trans (if_pos (hbad.out (hst.out.trans (if_neg hA0))))) (by decide) HM.out.below
        have d1 : (AC != 0) = false := by rw [bne_eq_false_iff_eq]; exact hA0
        have hA2 := Lib.hid (hst.out.trans (if_pos hA0))
        go_wp2_with (first | (refine wpList_loadM 0 HM rfl _ _ rfl _ rfl rfl _ uM.out rfl (by exact ztab) ?_) | (refine wpList_storeF 1 HM rfl _ _ _ rfl _ rfl rfl _ rfl (by exact ztab) (by rfl) (by rfl) ?_; have hBq := HM.out.at_ 1 rfl; clear HM; intro w4 HM hG4; simp only [List.set] at HM; replace hT2 := Lib.hid (hT2.out.grown hBq (by show 3 < 6; decide) hG4.out); clear hBq hG4) | fail)
        have HM2 := Lib.hid HM.out.tail
        exact ⟨⟨k + 1, _, vn, by omega, by go_num, hA2, hT2, HM2⟩, by simp [intOf]; omega⟩
      · go_wp2_with (first | (refine wpList_allocN HM rfl 29 rfl tabInfo ?_; clear HM; intro g8 w1 HM hG hN9; replace hT := Lib.hid (hT.out.keep hG.out); clear hG hN9) | fail)
        refine hK.out _ _ HM.out.tail fun hS_ => ?_
        clear hK K hS_
        try simp only [Act.put, List.setIfInBounds_toArray, List.set_cons_zero, List.set_cons_succ, List.getElem_toArray, List.getElem_cons_succ, List.getElem_cons_zero]
        refine ptOnly rfl rfl fun K hK => ?_
        go_wp2_with (first | (go_at_call 99; refine (cX.out _ hT.out).mono ?_; rintro r w5 ⟨vn, rfl, hT2, hb_⟩; replace hT2 := Lib.hid hT2) | fail)
        refine hK.out _ _ ((HM.out.keep hb_).tail) fun hS_ => ?_
        clear hK K hS_
        try simp only [Act.put, List.setIfInBounds_toArray, List.set_cons_zero, List.set_cons_succ, List.getElem_toArray, List.getElem_cons_succ, List.getElem_cons_zero]
        replace HM := Lib.hid (HM.out.keep hb_)
        clear hb_ hT
        repeat (first | (refine ptPure rfl rfl (by intro w_ hSw; go_simp; first | done | exact rfl) ?_; try simp only [Act.put, List.setIfInBounds_toArray, List.set_cons_zero, List.set_cons_succ, List.getElem_toArray, List.getElem_cons_succ, List.getElem_cons_zero]))
        refine ptOnly rfl rfl fun K hK => ?_
        go_wp2_with (first | (refine wpList_storeF 0 HM rfl _ _ _ rfl _ rfl rfl _ rfl (by exact ztab) (by rfl) (by rfl) ?_; have hBq := HM.out.at_ 0 rfl; clear HM; intro w4 HM hG4; simp only [List.set] at HM; replace hT2 := Lib.hid (hT2.out.grown hBq (by show 3 < 6; decide) hG4.out); clear hBq hG4) | fail)
        refine hK.out _ _ (HM.out.tail) fun hS_ => ?_
        clear hK K hS_
        try simp only [Act.put, List.setIfInBounds_toArray, List.set_cons_zero, List.set_cons_succ, List.getElem_toArray, List.getElem_cons_succ, List.getElem_cons_zero]
        refine ptDone ?_
        simp only [List.drop]
        by_cases hA0 : AC = 0
        case neg =>
          have d1 : (AC != 0) = true := by rw [bne_iff_ne]; exact hA0
          go_wp2_with (first | (refine wpList_storeF 2 HM rfl _ _ _ rfl _ rfl rfl _ rfl (by exact ztab) (by rfl) (by rfl) ?_; clear HM ; intro w4 HM hG4; simp only [List.set] at HM) | fail)
          try simp only [Exit.inBlock, Exit.then]
          refine bodyPost_ret (results_ct rfl (HM.out.at_ 2 rfl) rfl _ uM.out rfl (by exact ztab)) rfl ?_
          exact hPb.out 16 _ (hF2.out.trans (if_pos (hbad.out (hst.out.trans (if_neg hA0))))) (by decide) HM.out.below
        have d1 : (AC != 0) = false := by rw [bne_eq_false_iff_eq]; exact hA0
        have hA2 := Lib.hid (hst.out.trans (if_pos hA0))
        go_wp2_with (first | (refine wpList_loadM 0 HM rfl _ _ rfl _ rfl rfl _ uM.out rfl (by exact ztab) ?_) | (refine wpList_storeF 1 HM rfl _ _ _ rfl _ rfl rfl _ rfl (by exact ztab) (by rfl) (by rfl) ?_; have hBq := HM.out.at_ 1 rfl; clear HM; intro w4 HM hG4; simp only [List.set] at HM; replace hT2 := Lib.hid (hT2.out.grown hBq (by show 3 < 6; decide) hG4.out); clear hBq hG4) | fail)
        have HM2 := Lib.hid HM.out.tail
        exact ⟨⟨k + 1, _, vn, by omega, by go_num, hA2, hT2, HM2⟩, by simp [intOf]; omega⟩
    · have hkn : k = cn := by omega
      have hA2 : addsN t e.cells = some u := by
        have := hA.out
        rwa [List.take_of_length_le (by rw [hlE.out]; omega)] at this
      replace hA2 := Lib.hid hA2
      go_wp2_with (first | (refine wpList_loadM 0 HM rfl _ _ rfl _ rfl rfl _ uM.out rfl (by exact ztab) ?_) | (refine wpList_storeF 1 HM rfl _ _ _ rfl _ rfl rfl _ rfl (by exact ztab) (by rfl) (by rfl) ?_; have hBq := HM.out.at_ 1 rfl; clear HM; intro w4 HM hG4; simp only [List.set] at HM; replace hT := Lib.hid (hT.out.grown hBq (by show 3 < 6; decide) hG4.out); clear hBq hG4) | fail)
      try simp only [Exit.inBlock, Exit.then]
      refine bodyPost_ret (results_ct rfl (HM.out.at_ 1 rfl) rfl _ uM.out rfl (by exact ztab)) rfl ?_
      exact hPo.out u _ vu hok.out hA2.out hT.out HM.out.below
end Tx
end Go.Proofs.YtfoffooblkofhaaGreat
