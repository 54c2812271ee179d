/- Chapter 16: Candidates, the reference's. -/
import Derived.Test.YtkfipbelhlcddaaGreatTxT
import Derived.Test.YtkfipbelhlcddaaGreatTaO
import Derived.Test.YtkfipbelhlcddaaGreatTh
import Derived.Test.YtkfipbelhlcddaaGreatMw
import Derived.Test.YtkfipbelhlcddaaGreatMi
import Derived.Test.YtkfipbelhlcddaaGreatTk
set_option linter.unusedVariables false
set_option linter.unusedSimpArgs false
namespace Go.Proofs.YtkfipbelhlcddaaGreat
open Go Go.RowKit Go.Sort Go.Shelf Go.Maps
namespace Tx
open Sw Mm
set_option maxRecDepth 100000 in
set_option maxHeartbeats 8000000 in
theorem rcand_any (t : Tab) (v : TabV) (A : Option Addr) (n c q : Nat) (f : List Int) (w : World) (h : TabIs w v t) (hf : IntS w A n f) (hq : q ≤ 1000) : Calls Tryz.prog 98 #[.agg #[.int .i64 t.node, .int .i64 t.length, .slice v.A v.n v.c], .slice A n c, .int .i64 q] w (CandPost t f q w) := by
  obtain ⟨B, m, c2⟩ := v
  have HM := Lib.hid (Mem.start w)
  have cK := fun W (hb : Below w.heap.size w W) => rchkT_any t ⟨B, m, c2⟩ W (h.keep hb)
  have cM := fun W (hb : Below w.heap.size w W) => rmask_any A n c f t.length W (hf.keep hb)
  have cU := fun W (k j : Nat) (hb : Below w.heap.size w W) => rfits_any t ⟨B, m, c2⟩ A n c f ⟨k, j⟩ W (h.keep hb) (hf.keep hb)
  have hft : ∀ k j : Nat, chkT t = 0 → maskN f t.length = true → t.length = n → k < n → j < 16 → fitsN t f ⟨k, j⟩ = (bitN (f.getD k default) j && !usedN t k) := fun k j e1 e2 e3 e4 e5 => by
    unfold fitsN
    rw [e1, e2, e3]
    have a1 : ((k : Int) < (n : Int)) := by omega
    have a2 : ((j : Int) < 16) := by omega
    simp [a1, a2]
  have hmk : maskN f t.length = true → (n : Int) = t.length ∧ ∀ x ∈ f, 0 ≤ x ∧ x < 65536 := fun e => by
    unfold maskN at e
    rw [hf.len] at e
    simp at e
    exact ⟨e.1, e.2⟩
  have hlf := hf.len
  have hsm := hf.small
  unfold maxLen at hsm
  have hbad := fun h => candN_bad (t := t) (f := f) (n := q) h
  have heq := fun N k h0 h1 h2 h3 h4 => candN_eq (t := t) (f := f) (n := q) (N := N) (k := k) h0 h1 h2 h3 h4
  have hS : ∀ k, candS t f k = if usedN t k = true then [] else match offN (f.getD k 0) with
    | some j => [⟨k, j⟩]
    | none => [] := fun k => rfl
  have hsucc := candG_succ t f
  have h0 : candG t f 0 = [] := rfl
  generalize hP : CandPost t f q w = P
  have hPb : candN t f q = [] → ∀ w', Below w.heap.size w w' → P (.returned (.slice none 0 0)) w' := fun e w' hb => by
    rw [← hP]
    exact ⟨none, 0, 0, rfl, by rw [e]; rfl, by rw [e]; exact World.ownsRow_nil _ _ _ _, hb⟩
  have hPo : ∀ xs A1 m1 c1 w', candN t f q = xs → xs.length = m1 → w'.ownsRow w.heap.size 78 2 (.slice A1 m1 c1) m1 (xs.flatMap sptE) → Below w.heap.size w w' → P (.returned (.slice A1 m1 c1)) w' := fun xs A1 m1 c1 w' e hl ho hb => by
    rw [← hP]
    exact ⟨A1, m1, c1, rfl, by rw [e]; exact hl, by rw [e]; exact ho, hb⟩
  clear hP
  generalize maskN f t.length = MK at *
  generalize chkT t = C1 at *
  generalize usedN t = US at *
  generalize candS t f = CS at *
  generalize candG t f = CG at *
  generalize candN t f q = CN at *
  generalize fitsN t f = FT at *
  obtain ⟨t0, t1, t2⟩ := t
  dsimp only at *
  replace h := Lib.hid h
  replace cK := Lib.hid cK
  replace cM := Lib.hid cM
  replace cU := Lib.hid cU
  replace hft := Lib.hid hft
  replace hf := Lib.hid hf
  replace hmk := Lib.hid hmk
  replace hlf := Lib.hid hlf
  replace hbad := Lib.hid hbad
  replace heq := Lib.hid heq
  replace hS := Lib.hid hS
  replace hsucc := Lib.hid hsucc
  replace h0 := Lib.hid h0
  replace hPb := Lib.hid hPb
  replace hPo := Lib.hid hPo
  go_enter Tryz.func98, Tryz.ntmps98
  go_upto_region 1 with (refine wpList_boxA HM rfl 29 _ rfl _ rfl ?_; clear HM; intro gt w1 HM hG; clear hG)
  have kt := HM.out.cell 0 rfl
  go_upto_region 4 with (first
    | (go_at_call 87; refine (cK.out _ HM.out.below).mono ?_; rintro e w3 ⟨rfl, hb_⟩; have HM2 := Lib.hid (HM.out.keep hb_); clear HM hb_ kt cK; have HM := HM2; clear HM2; have kt := HM.out.cell 0 rfl)
    | (go_at_call 135; refine (cM.out _ HM.out.below).mono ?_; rintro e w4 ⟨rfl, hb_⟩; have HM2 := Lib.hid (HM.out.keep hb_); clear HM hb_ kt cM; have HM := HM2; clear HM2; have kt := HM.out.cell 0 rfl)
    | fail)
  all_goals try
    (refine hPb.out (hbad.out ?_) _ HM.out.below
     rintro ⟨h1, rfl⟩
     contradiction)
  cases MK
  · contradiction
  simp only [Bool.not_true]
  obtain ⟨hn1, hfb⟩ := hmk.out rfl
  subst hn1
  have hft2 := fun k j => hft.out k j (by assumption) (by first | rfl | trivial) (by first | rfl | trivial)
  have heq2 := fun k h3 h4 => heq.out n k (by assumption) (by first | rfl | trivial) (by first | rfl | trivial) h3 h4
  replace heq2 := Lib.hid heq2
  replace hfb := Lib.hid hfb
  replace hft2 := Lib.hid hft2
  clear heq hmk hbad hPb hft
  have HO : Hid (w4.ownsRow w.heap.size 78 2 (.slice none 0 0) 0 ((CG 0).flatMap sptE)) := by show World.ownsRow _ _ _ _ _ _ _; rw [h0.out]; exact World.ownsRow_nil _ _ _ _
  have hL0 : Hid ((CG 0).length = 0) := by show _ = _; rw [h0.out]; rfl
  go_wp2_with fail
  go_loopw [7, 8, 9] (fun o i _ wr => ∃ (k m1 : Nat) (A1 : Option Addr) (c1 : Nat), k ≤ n ∧ i = .int .i64 k ∧ o = .slice A1 m1 c1 ∧ m1 ≤ q ∧ Hid ((CG k).length = m1) ∧ Hid (wr.ownsRow w.heap.size 78 2 (.slice A1 m1 c1) m1 ((CG k).flatMap sptE)) ∧ Hid (Mem w wr [(gt, #[.int .i64 t0, .int .i64 n, .slice B m c2], 29)])) (fun _ i _ _ => n - (intOf i).toNat)
  case atStart => exact ⟨0, 0, none, 0, by omega, rfl, rfl, by omega, hL0, HO, HM⟩
  case round =>
    clear HM HO hL0 kt
    obtain ⟨k, m1, A1, c1, hk, rfl, rfl, hm1, HL, HO, HM⟩ := hrel
    have kt := HM.out.cell 0 rfl
    by_cases hlt : k < n
    · have r1 : (k : Int) < (n : Int) := by omega
      by_cases hfull : q ≤ m1
      · have hP2 := Lib.hid (hPo.out (CG k) A1 m1 c1 wr (heq2.out k (by omega) (.inl (by have := HL.out; omega))) HL.out HO.out HM.out.below)
        have r2 : (q : Int) ≤ (m1 : Int) := by omega
        go_wp2
        exact hP2.out
      · have r2 : (m1 : Int) < (q : Int) := by omega
        have hxb := hfb.out _ (getD_mem (l := f) (i := k) (by rw [hlf.out]; exact hlt))
        have hS2 := hS.out k
        have hs2 := hsucc.out k
        have hft3 := fun j h => hft2.out k j hlt h
        rw [show f.getD k 0 = f.getD k default from rfl] at hS2
        generalize US k = u at *
        generalize f.getD k default = x at *
        replace hS2 := Lib.hid hS2
        replace hs2 := Lib.hid hs2
        replace hft3 := Lib.hid hft3
        go_wp2_with fail
        go_loopw [7, 9] (fun o i wi => ∃ j : Nat, j ≤ 16 ∧ i = .int .i64 j ∧ o = .slice A1 m1 c1 ∧ Hid (∀ p : Nat, p < j → (bitN x p && !u) = false) ∧ Hid (wi.ownsRow w.heap.size 78 2 (.slice A1 m1 c1) m1 ((CG k).flatMap sptE)) ∧ Hid (Mem w wi [(gt, #[.int .i64 t0, .int .i64 n, .slice B m c2], 29)])) (fun _ i _ => 16 - (intOf i).toNat)
        case atStart => exact ⟨0, by omega, rfl, rfl, fun p hp => by omega, HO, HM⟩
        case round =>
          clear HO HM kt
          obtain ⟨j, hj, rfl, rfl, HP, HO, HM⟩ := hrel
          have kt := HM.out.cell 0 rfl
          by_cases hlj : j < 16
          · have r3 : (j : Int) < 16 := by omega
            have cU2 := cU.out wr k j HM.out.below
            have hfe := hft3.out j hlj
            have hnx : (bitN x j && !u) = false → ∀ p : Nat, p < j + 1 → (bitN x p && !u) = false := fun e p hp => by
              by_cases h : p = j
              · subst h; exact e
              · exact HP.out p (by omega)
            have hC : (bitN x j && !u) = true → CS k = [⟨k, j⟩] := fun e => by
              rw [Bool.and_eq_true, Bool.not_eq_true'] at e
              rw [hS2.out, e.2, offN_some hlj e.1 fun p hp => by
                have := HP.out p hp
                rw [e.2] at this
                simpa using this]
              rfl
            rw [hfe] at cU2
            generalize (bitN x j && !u) = bb at *
            replace hC := Lib.hid hC
            replace hnx := Lib.hid hnx
            replace cU2 := Lib.hid cU2
            replace hfe := Lib.hid hfe
            go_wp2_with fail
            refine cU2.out.mono ?_
            rintro e w5 ⟨rfl, hb_⟩
            replace HO := Lib.hid (owns_keep HO.out hb_)
            have HM2 := Lib.hid (HM.out.keep hb_); clear HM hb_ kt cU2; have HM := HM2; clear HM2; have kt := HM.out.cell 0 rfl
            cases bb with
            | false =>
              have hP2 := Lib.hid (hnx.out rfl)
              go_wp2
              go_roundw
              case rel => exact ⟨j + 1, by omega, by go_num, rfl, hP2, HO, HM⟩
              case measure => simp [intOf]; omega
            | true =>
              have hC2 := hC.out rfl
              have HL2 : Hid ((CG (k + 1)).length = m1 + 1) := by show _ = _; rw [hs2.out, hC2, List.length_append, HL.out]; rfl
              have HE : Hid (CG (k + 1) = CG k ++ [⟨k, j⟩]) := by show _ = _; rw [hs2.out, hC2]
              clear hC2 hC hnx
              go_wp2_with (at_builtin; refine wpList_append_sls eltS _ rfl _ _ rfl w.heap.size (.slice A1 m1 c1) (CG k) rfl (by rw [HL.out]; exact HO.out.alloc _) _ 1 1 [⟨k, j⟩] rfl (Sls.one (Blk.new _ _ _)) (by rw [HL.out]; omega) (by first | exact (ballN HM.out.below _).size | (have := HM.out.below.size; simp; omega)) ?_; intro v1 w6 HO1 HG1 _; obtain ⟨A2, c2', rfl⟩ := own_slice HO1; replace HO1 := Lib.hid HO1; replace HG1 := Lib.hid HG1)
              have HM2 := Lib.hid ((HM.out.keep (ball w5 (.cells #[.int .i64 k, .int .i64 j] 78))).row (HO.out.alloc _) HG1.out (Nat.le_refl _) (apart_of (by rfl)))
              rw [List.length_append, HL.out] at HO1
              have HO2 : Hid (w6.ownsRow w.heap.size 78 2 (.slice A2 (m1 + 1) c2') (m1 + 1) ((CG (k + 1)).flatMap sptE)) := by show World.ownsRow _ _ _ _ _ _ _; rw [HE.out]; exact HO1.out
              go_wp2
              exact ⟨⟨k + 1, m1 + 1, A2, c2', by omega, by go_num, by rw [HL.out], by omega, HL2, HO2, HM2⟩, by simp [intOf]; omega⟩
          · obtain rfl : j = 16 := by omega
            have hC : CS k = [] := by
              rw [hS2.out]
              cases u with
              | true => rfl
              | false => rw [offN_none fun p hp => by have := HP.out p hp; simpa using this]; rfl
            have HL2 : Hid ((CG (k + 1)).length = m1) := by show _ = _; rw [hs2.out, hC, List.append_nil]; exact HL.out
            have HO2 : Hid (wr.ownsRow w.heap.size 78 2 (.slice A1 m1 c1) m1 ((CG (k + 1)).flatMap sptE)) := by show World.ownsRow _ _ _ _ _ _ _; rw [hs2.out, hC, List.append_nil]; exact HO.out
            clear hC
            go_wp2
            go_roundw
            case rel => exact ⟨k + 1, m1, A1, c1, by omega, by go_num, rfl, by omega, HL2, HO2, HM⟩
            case measure => simp [intOf]; omega
    · obtain rfl : k = n := by omega
      have hP2 := Lib.hid (hPo.out (CG k) A1 m1 c1 wr (heq2.out k (by omega) (.inr ⟨rfl, by have := HL.out; omega⟩)) HL.out HO.out HM.out.below)
      go_wp2
      exact hP2.out
end Tx
end Go.Proofs.YtkfipbelhlcddaaGreat
namespace Go.Proofs.YtkfipbelhlcddaaGreat
open Go Go.RowKit Go.Sort Go.Shelf Go.Maps
namespace Tx
open Sw Mm Pl
theorem eM2 : ∀ args w, (callFunc 93 args).run Tryz.prog w = .ok (.enter 93 args) w := enters_of Tryz.func93 (by kernel_rfl) rfl
set_option maxRecDepth 100000 in
set_option maxHeartbeats 2000000 in
theorem m2_any (e : Ed) (v : EdV) (s : Spt) (B : Nat) (w : World) (h : EdIs w v e) (hB : Box w B #[.int .i64 e.node, .int .i64 e.peer, .int .i64 e.number, .slice v.cA v.cn v.cc, .bool e.opn, .int .i64 e.since, .int .i64 e.asked.kind, .bool e.asked.reply, .int .i64 e.asked.number, .int .i64 e.asked.code, .int .i64 e.asked.count, .slice v.a.sA v.a.sn v.a.sc, .slice v.a.oA v.a.on v.a.oc, .bool e.known, .int .i64 e.last.kind, .bool e.last.reply, .int .i64 e.last.number, .int .i64 e.last.code, .int .i64 e.last.count, .slice v.l.sA v.l.sn v.l.sc, .slice v.l.oA v.l.on v.l.oc, .int .i64 e.reply.kind, .bool e.reply.reply, .int .i64 e.reply.number, .int .i64 e.reply.code, .int .i64 e.reply.count, .slice v.r.sA v.r.sn v.r.sc, .slice v.r.oA v.r.on v.r.oc]) :
    Calls Tryz.prog 93 (#[.agg #[.int .i64 s.slot, .int .i64 s.off]] ++ #[.pointer (some ⟨B, 0, none⟩)]) w fun r w' => r = .returned (.bool (!hasN e s true)) ∧ Below w.heap.size w w' := by
  show Calls Tryz.prog 93 #[.agg #[.int .i64 s.slot, .int .i64 s.off], .pointer (some ⟨B, 0, none⟩)] w _
  have HM := Lib.hid (Mem.start w)
  have cH := fun W (hb : Below w.heap.size w W) => has_any e v s true W (h.keep hb)
  generalize hasN e s true = R at *
  have uE := Lib.hid Tryz.underlying27
  replace h := Lib.hid h
  replace hB := Lib.hid hB
  replace cH := Lib.hid cH
  go_enter Tryz.func93, Tryz.ntmps93
  go_upto_region 1 with (refine wpList_boxA HM rfl _ _ rfl _ rfl ?_; clear HM; intro g w1 HM hG; clear hG)
  have hB1 := Lib.hid (hB.out.keep HM.out.below)
  have ks := HM.out.cell 0 rfl
  go_wp2_with (first | (refine wpList_loadBox hB1 rfl _ _ rfl rfl _ uE.out rfl (by exact zend) ?_) | fail)
  refine (cH.out _ HM.out.below).mono ?_
  rintro r w3 ⟨rfl, hb_⟩
  clear hB1
  have HM2 := Lib.hid (HM.out.keep hb_); clear HM hb_ ks cH; have HM := HM2; clear HM2; have ks := HM.out.cell 0 rfl
  go_wp2
  go_ret
  exact ⟨rfl, HM.out.below⟩
set_option maxRecDepth 100000 in
set_option maxHeartbeats 2000000 in
theorem mfail_any (c : Int) (w : World) : Calls Tryz.prog 91 #[.int .i64 c] w fun r w' => r = .returned (.tuple #[.agg #[.int .i64 0, .int .i64 0, .int .i64 0, .slice none 0 0, .bool false, .int .i64 0, .int .i64 0, .bool false, .int .i64 0, .int .i64 0, .int .i64 0, .slice none 0 0, .slice none 0 0, .bool false, .int .i64 0, .bool false, .int .i64 0, .int .i64 0, .int .i64 0, .slice none 0 0, .slice none 0 0, .int .i64 0, .bool false, .int .i64 0, .int .i64 0, .int .i64 0, .slice none 0 0, .slice none 0 0], .agg #[.int .i64 0, .bool false, .int .i64 0, .int .i64 0, .int .i64 0, .slice none 0 0, .slice none 0 0], .int .i64 c]) ∧ Below w.heap.size w w' := by
  have HM := Lib.hid (Mem.start w)
  have uE := Tryz.underlying27
  have uM := Tryz.underlying25
  generalize hP : (fun (r : Ending) w' => r = Ending.returned (.tuple #[.agg #[.int .i64 0, .int .i64 0, .int .i64 0, .slice none 0 0, .bool false, .int .i64 0, .int .i64 0, .bool false, .int .i64 0, .int .i64 0, .int .i64 0, .slice none 0 0, .slice none 0 0, .bool false, .int .i64 0, .bool false, .int .i64 0, .int .i64 0, .int .i64 0, .slice none 0 0, .slice none 0 0, .int .i64 0, .bool false, .int .i64 0, .int .i64 0, .int .i64 0, .slice none 0 0, .slice none 0 0], .agg #[.int .i64 0, .bool false, .int .i64 0, .int .i64 0, .int .i64 0, .slice none 0 0, .slice none 0 0], .int .i64 c]) ∧ Below w.heap.size w w') = P
  replace uE := Lib.hid uE
  replace uM := Lib.hid uM
  replace hP := Lib.hid hP
  go_enter Tryz.func91, Tryz.ntmps91
  go_wp2_with (first | (refine wpList_allocA HM rfl 27 rfl (by first | exact msgInfo | exact edInfo | exact tabInfo | exact info_tcl | exact info_spt) ?_; clear HM; intro g2 w1 HM hG; clear hG) | (refine wpList_allocA HM rfl 25 rfl (by first | exact msgInfo | exact edInfo | exact tabInfo | exact info_tcl | exact info_spt) ?_; clear HM; intro g3 w1 HM hG; clear hG) | (refine wpList_storeF 1 HM rfl _ _ _ rfl _ rfl rfl _ rfl (by exact zend) (by rfl) (by rfl) ?_; clear HM ; intro w4 HM hG4; simp only [List.set] at HM) | (refine wpList_storeF 0 HM rfl _ _ _ rfl _ rfl rfl _ rfl (by exact zmsg) (by rfl) (by rfl) ?_; clear HM ; intro w4 HM hG4; simp only [List.set] at HM) | fail)
  try simp only [Exit.inBlock, Exit.then]
  refine bodyPost_ret (results_cct rfl (HM.out.at_ 1 rfl) (HM.out.at_ 0 rfl) rfl rfl _ uE.out rfl (by exact zend) _ uM.out rfl (by exact zmsg)) rfl ?_
  rw [← hP.out]
  exact ⟨rfl, HM.out.below⟩
theorem movE_bad {e : Ed} {t : Tab} {f : List Int} {old : List Spt} {slot : Int} (h : movC e t f old slot ≠ 0) : movE e t f old slot = ed0 ∧ movN e t f old slot = msg0 := by
  unfold movE movN; rw [if_neg h, if_neg h]; exact ⟨rfl, rfl⟩
theorem mov_ok {e : Ed} {t : Tab} {f : List Int} {old : List Spt} {slot : Int} (h : movC e t f old slot = 0) : movE e t f old slot = openE e (movM e t f old) slot ∧ movN e t f old slot = movM e t f old := by
  unfold movE movN; rw [if_pos h, if_pos h]; exact ⟨rfl, rfl⟩
theorem movC_w (e : Ed) (t : Tab) (f : List Int) (old : List Spt) (slot : Int) : movC e t f old slot = if fullC t e ≠ 0 then fullC t e
  else if withB slot 1099511627776 = false ∨ old.length < 1 ∨ 8 < old.length then 2
  else if e.opn = true then 12
  else if (old.any fun s => !hasN e s true) = true then 7
  else if ascN old = false then 5
  else if (candN (fullN t e) f 8).length < old.length then 14 else 0 := by
  unfold movC withB
  have h1 : (slot < 0 ∨ 1099511627776 < slot ∨ old.length < 1 ∨ 8 < old.length) ↔ ((decide (0 ≤ slot) && decide (slot ≤ 1099511627776)) = false ∨ old.length < 1 ∨ 8 < old.length) := by
    simp only [Bool.and_eq_false_iff, decide_eq_false_iff_not]
    omega
  have h2 : ((old.all fun s => hasN e s true) = false) ↔ ((old.any fun s => !hasN e s true) = true) := by
    rw [List.all_eq_not_any_not]; simp
  simp only [h1, h2]
theorem ascN_true {l : List Spt} {n : Nat} (hl : l.length = n) (h : ∀ j, 0 < j → j < n → (l.getD (j - 1) default).slot < (l.getD j default).slot) : ascN l = true := by
  unfold ascN
  refine Sw.all_range_true fun k hk => ?_
  by_cases k0 : k = 0
  · simp [k0]
  · have h2 := h k (by omega) (by omega)
    rw [decide_eq_true h2]; simp
theorem ascN_false {l : List Spt} {n k : Nat} (hl : l.length = n) (h0 : 0 < k) (hk : k < n) (h : ¬ (l.getD (k - 1) default).slot < (l.getD k default).slot) : ascN l = false := by
  unfold ascN
  refine Sw.all_range_false (k := k) (by omega) ?_
  rw [Bool.or_eq_false_iff, decide_eq_false_iff_not, decide_eq_false_iff_not]
  exact ⟨by omega, h⟩
set_option maxRecDepth 100000 in
set_option maxHeartbeats 2000000 in
theorem move_any (e : Ed) (t : Tab) (v : EdV) (vt : TabV) (A B : Option Addr) (nf cf n2 c2 : Nat) (f : List Int) (old : List Spt) (slot : Int) (w : World) (h : EdIs w v e) (ht : TabIs w vt t) (hf : IntS w A nf f) (ho : SptS w B n2 old) : Calls Tryz.prog 37 #[.agg #[.int .i64 e.node, .int .i64 e.peer, .int .i64 e.number, .slice v.cA v.cn v.cc, .bool e.opn, .int .i64 e.since, .int .i64 e.asked.kind, .bool e.asked.reply, .int .i64 e.asked.number, .int .i64 e.asked.code, .int .i64 e.asked.count, .slice v.a.sA v.a.sn v.a.sc, .slice v.a.oA v.a.on v.a.oc, .bool e.known, .int .i64 e.last.kind, .bool e.last.reply, .int .i64 e.last.number, .int .i64 e.last.code, .int .i64 e.last.count, .slice v.l.sA v.l.sn v.l.sc, .slice v.l.oA v.l.on v.l.oc, .int .i64 e.reply.kind, .bool e.reply.reply, .int .i64 e.reply.number, .int .i64 e.reply.code, .int .i64 e.reply.count, .slice v.r.sA v.r.sn v.r.sc, .slice v.r.oA v.r.on v.r.oc], .agg #[.int .i64 t.node, .int .i64 t.length, .slice vt.A vt.n vt.c], .slice A nf cf, .slice B n2 c2, .int .i64 slot] w (TriOwn (movE e t f old slot) (movN e t f old slot) (movC e t f old slot) w) := by
  have HM := Lib.hid (Mem.start w)
  have cF : ∀ W, Below w.heap.size w W → Calls Tryz.prog 23 #[.agg #[.int .i64 t.node, .int .i64 t.length, .slice vt.A vt.n vt.c], .agg #[.int .i64 e.node, .int .i64 e.peer, .int .i64 e.number, .slice v.cA v.cn v.cc, .bool e.opn, .int .i64 e.since, .int .i64 e.asked.kind, .bool e.asked.reply, .int .i64 e.asked.number, .int .i64 e.asked.code, .int .i64 e.asked.count, .slice v.a.sA v.a.sn v.a.sc, .slice v.a.oA v.a.on v.a.oc, .bool e.known, .int .i64 e.last.kind, .bool e.last.reply, .int .i64 e.last.number, .int .i64 e.last.code, .int .i64 e.last.count, .slice v.l.sA v.l.sn v.l.sc, .slice v.l.oA v.l.on v.l.oc, .int .i64 e.reply.kind, .bool e.reply.reply, .int .i64 e.reply.number, .int .i64 e.reply.code, .int .i64 e.reply.count, .slice v.r.sA v.r.sn v.r.sc, .slice v.r.oA v.r.on v.r.oc]] W fun r w' => ∃ v, r = .returned (.tuple #[.agg (tabA (fullN t e) v), .int .i64 (fullC t e)]) ∧ TabIs w' v (fullN t e) ∧ Below W.heap.size W w' := fun W hb => full_any t e vt v W (ht.keep hb) (h.keep hb)
  have cX := fun c W => mfail_any c W
  have hWB := fun W => within_any slot 1099511627776 W
  have cC : ∀ vu W, TabIs W vu (fullN t e) → Below w.heap.size w W → Calls Tryz.prog 80 #[.agg #[.int .i64 (fullN t e).node, .int .i64 (fullN t e).length, .slice vu.A vu.n vu.c], .slice A nf cf, .int .i64 8] W fun r w' => ∃ A m c, r = .returned (.slice A m c) ∧ (candN (fullN t e) f 8).length = m ∧ w'.ownsRow W.heap.size 78 2 (.slice A m c) m ((candN (fullN t e) f 8).flatMap sptE) ∧ Below W.heap.size W w' := fun vu W hu hb => cand_any (fullN t e) vu A nf cf 8 f W hu (hf.keep hb) (by decide)
  have cK := fun W (hb : Below w.heap.size w W) (hn : n2 ≤ 100000) => cloneS_any B n2 c2 old W (ho.keep hb) hn
  have cT := fun W B1 (hb : Below w.heap.size w W) (h1 : Box W B1 #[.int .i64 e.node, .int .i64 e.peer, .int .i64 e.number, .slice v.cA v.cn v.cc, .bool e.opn, .int .i64 e.since, .int .i64 e.asked.kind, .bool e.asked.reply, .int .i64 e.asked.number, .int .i64 e.asked.code, .int .i64 e.asked.count, .slice v.a.sA v.a.sn v.a.sc, .slice v.a.oA v.a.on v.a.oc, .bool e.known, .int .i64 e.last.kind, .bool e.last.reply, .int .i64 e.last.number, .int .i64 e.last.code, .int .i64 e.last.count, .slice v.l.sA v.l.sn v.l.sc, .slice v.l.oA v.l.on v.l.oc, .int .i64 e.reply.kind, .bool e.reply.reply, .int .i64 e.reply.number, .int .i64 e.reply.code, .int .i64 e.reply.count, .slice v.r.sA v.r.sn v.r.sc, .slice v.r.oA v.r.on v.r.oc]) => ctnFnS_any 93 #[.pointer (some ⟨B1, 0, none⟩)] (fun s => !hasN e s true) B n2 c2 old W eM2 (ho.keep hb) (fun s _ W2 hb2 => m2_any e v s B1 W2 (h.keep (bthen hb hb2)) (h1.keep hb2))
  have cO := fun m vm W (hb : Below w.heap.size w W) (hm : MsgIs W vm m) (hs : Small v) (hsm : vm.sn ≤ 100000 ∧ vm.on ≤ 100000) => open_any e v m vm slot W (h.keep hb) hm hs hsm
  have hsm : fullC t e = 0 → Small v := fun hF => small_of h ((chkE_iff e).2 ((fullC_iff t e).1 hF).ed)
  have hA := movC_w e t f old slot
  have hol := ho.len
  rw [hol] at hA
  have hPb : ∀ c w', movC e t f old slot = c → c ≠ 0 → Below w.heap.size w w' → TriOwn (movE e t f old slot) (movN e t f old slot) (movC e t f old slot) w (.returned (.tuple #[.agg #[.int .i64 0, .int .i64 0, .int .i64 0, .slice none 0 0, .bool false, .int .i64 0, .int .i64 0, .bool false, .int .i64 0, .int .i64 0, .int .i64 0, .slice none 0 0, .slice none 0 0, .bool false, .int .i64 0, .bool false, .int .i64 0, .int .i64 0, .int .i64 0, .slice none 0 0, .slice none 0 0, .int .i64 0, .bool false, .int .i64 0, .int .i64 0, .int .i64 0, .slice none 0 0, .slice none 0 0], .agg #[.int .i64 0, .bool false, .int .i64 0, .int .i64 0, .int .i64 0, .slice none 0 0, .slice none 0 0], .int .i64 c])) w' := fun c w' e1 e2 hb => triOwn_bad (movE_bad (by rw [e1]; exact e2)).1 (movE_bad (by rw [e1]; exact e2)).2 e1 hb
  have hPo : ∀ w' m ve vm, movC e t f old slot = 0 → movM e t f old = { m with number := e.number } → EdOwn w' ve (openE e { m with number := e.number } slot) → MsgSub w' vm m → Below w.heap.size w w' → TriOwn (movE e t f old slot) (movN e t f old slot) (movC e t f old slot) w (.returned (.tuple #[.agg (endA (openE e { m with number := e.number } slot) ve), .agg (msgA { m with number := e.number } vm), .int .i64 0])) w' := fun w' m ve vm e1 e2 hE hM hb => by
    obtain ⟨e3, e4⟩ := mov_ok e1
    rw [e1, e3, e4, e2]
    exact ⟨ve, vm, rfl, hE, hM.num _, hb⟩
  have hMd : movM e t f old = ⟨3, false, e.number, 0, n2, candN (fullN t e) f 8, old⟩ := by unfold movM; rw [hol]
  have hasT := fun h => ascN_true (l := old) hol h
  have hasF := fun k h0 hk h => ascN_false (l := old) (k := k) hol h0 hk h
  generalize TriOwn (movE e t f old slot) (movN e t f old slot) (movC e t f old slot) w = P at *
  generalize movC e t f old slot = AC at *
  generalize movM e t f old = AM at *
  generalize fullC t e = F at *
  generalize (old.any fun s => !hasN e s true) = R7 at *
  generalize ascN old = AS at *
  generalize withB slot 1099511627776 = WB at *
  have hcd : (candN (fullN t e) f 8).length ≤ 8 := by unfold candN; split; exact List.length_take_le _ _; simp
  generalize fullN t e = FU at *
  generalize hCNe : candN FU f 8 = CN at *
  replace hCNe := Lib.hid hCNe
  obtain ⟨n0, p0, u0, cl, eo, s0, ea, ek, el, er⟩ := e
  dsimp only at *
  have uE := Tryz.underlying27
  have uT := Tryz.underlying29
  have uM := Tryz.underlying25
  replace cF := Lib.hid cF
  replace cX := Lib.hid cX
  replace hWB := Lib.hid hWB
  replace cC := Lib.hid cC
  replace cK := Lib.hid cK
  replace cT := Lib.hid cT
  replace cO := Lib.hid cO
  replace hsm := Lib.hid hsm
  replace hA := Lib.hid hA
  replace hPb := Lib.hid hPb
  replace hPo := Lib.hid hPo
  replace hMd := Lib.hid hMd
  replace uE := Lib.hid uE
  replace uT := Lib.hid uT
  replace uM := Lib.hid uM
  replace h := Lib.hid h
  replace ht := Lib.hid ht
  replace hf := Lib.hid hf
  replace ho := Lib.hid ho
  replace hcd := Lib.hid hcd
  replace hasT := Lib.hid hasT
  replace hasF := Lib.hid hasF
  replace hol := Lib.hid hol
  go_enter Tryz.func37, Tryz.ntmps37
  go_upto_region 1 with (first | (refine wpList_boxA HM rfl 27 _ rfl _ rfl ?_; clear HM; intro ge w1 HM hG; clear hG) | (refine wpList_boxA HM rfl 29 _ rfl _ rfl ?_; clear HM; intro gt w1 HM hG; clear hG) | (refine wpList_allocA HM rfl 27 rfl (by first | exact msgInfo | exact edInfo | exact tabInfo | exact info_tcl | exact info_spt) ?_; clear HM; intro g12 w1 HM hG; clear hG) | (refine wpList_allocA HM rfl 25 rfl (by first | exact msgInfo | exact edInfo | exact tabInfo | exact info_tcl | exact info_spt) ?_; clear HM; intro g13 w1 HM hG; clear hG))
  have ke := HM.out.cell 3 rfl
  have kt := HM.out.cell 2 rfl
  go_upto_region 3 with (first
    | (refine wpList_loadM 3 HM rfl _ _ rfl _ rfl rfl _ uE.out rfl (by exact zend) ?_)
    | (refine wpList_loadM 2 HM rfl _ _ rfl _ rfl rfl _ uT.out rfl (by exact ztab) ?_)
    | (go_at_call 23; refine (cF.out _ HM.out.below).mono ?_; rintro r w3 ⟨vf, rfl, hTf, hb_⟩; dsimp only [tabA]; replace hTf := Lib.hid hTf; have HM2 := Lib.hid (HM.out.keep hb_); clear HM hb_ ke kt cF; have HM := HM2; clear HM2; have ke := HM.out.cell 3 rfl; have kt := HM.out.cell 2 rfl)
    | (refine wpList_allocN HM rfl 29 rfl tabInfo ?_; clear HM ke; intro g16 w1 HM hG hN9; have ke := HM.out.cell 4 rfl)
    | (refine wpList_storeF 0 HM rfl _ _ _ rfl _ rfl rfl _ rfl (by exact ztab) (by rfl) (by rfl) ?_; clear HM ke; intro w4 HM hG4; simp only [List.set] at HM; have ke := HM.out.cell 4 rfl)
    | fail)
  replace hTf := Lib.hid (hTf.out.keep (hG.out.grown hG4.out hG.out.size (fun k e => by cases e; exact hN9.out)))
  clear hG hG4 hN9 kt
  by_cases hF : F = 0
  case neg =>
    have hA1 := Lib.hid (hA.out.trans (if_pos hF))
    have d1 : (F != 0) = true := by rw [bne_iff_ne]; exact hF
    have hP2 := Lib.hid (fun w' => hPb.out F w' hA1.out hF)
    clear hPb
    have hPb := hP2
    go_wp2_with (first
      | (go_at_call 91; refine (cX.out _ _).mono ?_; rintro r w3 ⟨rfl, hb_⟩; have HM2 := Lib.hid (HM.out.keep hb_); clear HM hb_ ke ; have HM := HM2; clear HM2; have ke := HM.out.cell 4 rfl)
      | (refine wpList_storeF 2 HM rfl _ _ _ rfl _ rfl rfl _ rfl (by exact zend) (by rfl) (by rfl) ?_; clear HM ; intro w4 HM hG4; simp only [List.set] at HM)
      | (refine wpList_storeF 1 HM rfl _ _ _ rfl _ rfl rfl _ rfl (by exact zmsg) (by rfl) (by rfl) ?_; clear HM ; intro w4 HM hG4; simp only [List.set] at HM)
      | fail)
    all_goals
      try simp only [Exit.inBlock, Exit.then]
      refine bodyPost_ret (results_cct rfl (HM.out.at_ 2 rfl) (HM.out.at_ 1 rfl) rfl rfl _ uE.out rfl (by exact zend) _ uM.out rfl (by exact zmsg)) rfl ?_
      exact hPb.out _ HM.out.below
  subst hF
  replace hA := Lib.hid (hA.out.trans (if_neg (fun h => h rfl)))
  have hsm2 := Lib.hid (hsm.out rfl)
  clear hsm
  by_cases hr : WB = false ∨ n2 < 1 ∨ 8 < n2
  case pos =>
    have hA1 := Lib.hid (hA.out.trans (if_pos hr))
    have hr4 : WB = false ∨ (WB = true ∧ (n2 : Int) < 1) ∨ (WB = true ∧ ¬ (n2 : Int) < 1 ∧ 8 < (n2 : Int)) := by
      cases WB
      · exact .inl rfl
      · rcases hr with h | h | h
        · cases h
        · exact .inr (.inl ⟨rfl, by omega⟩)
        · exact .inr (.inr ⟨rfl, by omega, by omega⟩)
    clear hr
    rcases hr4 with rfl | ⟨rfl, h2⟩ | ⟨rfl, h2, h3⟩
    all_goals
      go_wp2_with (first
        | (go_at_call 91; refine (cX.out _ _).mono ?_; rintro r w3 ⟨rfl, hb_⟩; have HM2 := Lib.hid (HM.out.keep hb_); clear HM hb_ ke ; have HM := HM2; clear HM2; have ke := HM.out.cell 4 rfl)
        | (go_at_call 78; refine (hWB.out _).mono ?_; rintro r w_ ⟨rfl, rfl⟩)
        | (refine wpList_storeF 2 HM rfl _ _ _ rfl _ rfl rfl _ rfl (by exact zend) (by rfl) (by rfl) ?_; clear HM ; intro w4 HM hG4; simp only [List.set] at HM)
        | (refine wpList_storeF 1 HM rfl _ _ _ rfl _ rfl rfl _ rfl (by exact zmsg) (by rfl) (by rfl) ?_; clear HM ; intro w4 HM hG4; simp only [List.set] at HM)
        | fail)
      all_goals
        try simp only [Exit.inBlock, Exit.then]
        refine bodyPost_ret (results_cct rfl (HM.out.at_ 2 rfl) (HM.out.at_ 1 rfl) rfl rfl _ uE.out rfl (by exact zend) _ uM.out rfl (by exact zmsg)) rfl ?_
        exact hPb.out 2 _ hA1.out (by decide) HM.out.below
  replace hA := Lib.hid (hA.out.trans (if_neg hr))
  have hr4 : WB = true ∧ 1 ≤ n2 ∧ n2 ≤ 8 := by
    cases WB
    · exact absurd (.inl rfl) hr
    · refine ⟨rfl, ?_, ?_⟩ <;> omega
  clear hr
  obtain ⟨rfl, hn1, hn8⟩ := hr4
  go_upto_region 7 with (first
      | (go_at_call 78; refine (hWB.out _).mono ?_; rintro r w_ ⟨rfl, rfl⟩)
      | fail)
  clear hWB
  cases eo
  case true =>
    have hA1 := Lib.hid (hA.out.trans (if_pos rfl))
    go_wp2_with (first
      | (go_at_call 91; refine (cX.out _ _).mono ?_; rintro r w3 ⟨rfl, hb_⟩; have HM2 := Lib.hid (HM.out.keep hb_); clear HM hb_ ke ; have HM := HM2; clear HM2; have ke := HM.out.cell 4 rfl)
      | (refine wpList_storeF 2 HM rfl _ _ _ rfl _ rfl rfl _ rfl (by exact zend) (by rfl) (by rfl) ?_; clear HM ; intro w4 HM hG4; simp only [List.set] at HM)
      | (refine wpList_storeF 1 HM rfl _ _ _ rfl _ rfl rfl _ rfl (by exact zmsg) (by rfl) (by rfl) ?_; clear HM ; intro w4 HM hG4; simp only [List.set] at HM)
      | fail)
    all_goals
      try simp only [Exit.inBlock, Exit.then]
      refine bodyPost_ret (results_cct rfl (HM.out.at_ 2 rfl) (HM.out.at_ 1 rfl) rfl rfl _ uE.out rfl (by exact zend) _ uM.out rfl (by exact zmsg)) rfl ?_
      exact hPb.out 12 _ hA1.out (by decide) HM.out.below
  replace hA := Lib.hid (hA.out.trans (if_neg (by decide)))
  cases R7
  case true =>
    have hA1 := Lib.hid (hA.out.trans (if_pos rfl))
    go_wp2_with (first
      | (go_at_call 91; refine (cX.out _ _).mono ?_; rintro r w3 ⟨rfl, hb_⟩; have HM2 := Lib.hid (HM.out.keep hb_); clear HM hb_ ke ; have HM := HM2; clear HM2; have ke := HM.out.cell 4 rfl)
      | (go_at_call 92; refine (cT.out _ _ HM.out.below (HM.out.at_ 4 rfl).box).mono ?_; rintro r w3 ⟨rfl, hb_⟩; replace hTf := Lib.hid (hTf.out.keep hb_); have HM2 := Lib.hid (HM.out.keep hb_); clear HM hb_ ke cT; have HM := HM2; clear HM2; have ke := HM.out.cell 4 rfl)
      | (refine wpList_storeF 2 HM rfl _ _ _ rfl _ rfl rfl _ rfl (by exact zend) (by rfl) (by rfl) ?_; clear HM ; intro w4 HM hG4; simp only [List.set] at HM)
      | (refine wpList_storeF 1 HM rfl _ _ _ rfl _ rfl rfl _ rfl (by exact zmsg) (by rfl) (by rfl) ?_; clear HM ; intro w4 HM hG4; simp only [List.set] at HM)
      | fail)
    all_goals
      try simp only [Exit.inBlock, Exit.then]
      refine bodyPost_ret (results_cct rfl (HM.out.at_ 2 rfl) (HM.out.at_ 1 rfl) rfl rfl _ uE.out rfl (by exact zend) _ uM.out rfl (by exact zmsg)) rfl ?_
      exact hPb.out 7 _ hA1.out (by decide) HM.out.below
  replace hA := Lib.hid (hA.out.trans (if_neg (by decide)))
  go_upto_region 11 with (first
      | (go_at_call 92; refine (cT.out _ _ HM.out.below (HM.out.at_ 4 rfl).box).mono ?_; rintro r w3 ⟨rfl, hb_⟩; replace hTf := Lib.hid (hTf.out.keep hb_); have HM2 := Lib.hid (HM.out.keep hb_); clear HM hb_ ke cT; have HM := HM2; clear HM2; have ke := HM.out.cell 4 rfl)
      | fail)
  skip
  go_wp2_with fail
  go_loopw [16, 71] (fun _ i wr => Hid (∃ k : Nat, k ≤ n2 ∧ i = .int .i64 k ∧ Hid (∀ j, 0 < j → j < k → (old.getD (j - 1) default).slot < (old.getD j default).slot) ∧ Hid (TabIs wr vf FU) ∧ Hid (Mem w wr [(g16, #[.int .i64 FU.node, .int .i64 FU.length, .slice vf.A vf.n vf.c], 29), (g13, #[.int .i64 0, .bool false, .int .i64 0, .int .i64 0, .int .i64 0, .slice none 0 0, .slice none 0 0], 25), (g12, #[.int .i64 0, .int .i64 0, .int .i64 0, .slice none 0 0, .bool false, .int .i64 0, .int .i64 0, .bool false, .int .i64 0, .int .i64 0, .int .i64 0, .slice none 0 0, .slice none 0 0, .bool false, .int .i64 0, .bool false, .int .i64 0, .int .i64 0, .int .i64 0, .slice none 0 0, .slice none 0 0, .int .i64 0, .bool false, .int .i64 0, .int .i64 0, .int .i64 0, .slice none 0 0, .slice none 0 0], 27), (gt, #[.int .i64 t.node, .int .i64 t.length, .slice vt.A vt.n vt.c], 29), (ge, #[.int .i64 n0, .int .i64 p0, .int .i64 u0, .slice v.cA v.cn v.cc, .bool false, .int .i64 s0, .int .i64 ea.kind, .bool ea.reply, .int .i64 ea.number, .int .i64 ea.code, .int .i64 ea.count, .slice v.a.sA v.a.sn v.a.sc, .slice v.a.oA v.a.on v.a.oc, .bool ek, .int .i64 el.kind, .bool el.reply, .int .i64 el.number, .int .i64 el.code, .int .i64 el.count, .slice v.l.sA v.l.sn v.l.sc, .slice v.l.oA v.l.on v.l.oc, .int .i64 er.kind, .bool er.reply, .int .i64 er.number, .int .i64 er.code, .int .i64 er.count, .slice v.r.sA v.r.sn v.r.sc, .slice v.r.oA v.r.on v.r.oc], 27)]))) (fun _ i _ => n2 - (intOf i).toNat)
  case atStart => exact Lib.hid ⟨0, by omega, rfl, fun j hj => by omega, hTf, HM⟩
  case round =>
    clear HM hTf ke
    obtain ⟨k, hk, rfl, HP, hTf, HM⟩ := hrel.out
    clear hrel
    have ke := HM.out.cell 4 rfl
    by_cases hlt2 : k < n2
    · obtain ⟨b, off, rfl⟩ := ho.out.addr (by omega)
      have q1 := (spt_at (ho.out.keep HM.out.below) hlt2).1
      have r1 : (k : Int) < (n2 : Int) := by omega
      by_cases k0 : k = 0
      · subst k0
        have d1 : decide (0 < (0 : Nat)) = false := by simp
        clear q1 ke
        go_wp2_with fail
        refine wp_region_quiet_below (by kernel_rfl) (by kernel_rfl) ?_
        repeat (go_big_quiet_step (fail))
        refine wpQuiet_nil ?_
        rintro _ ⟨⟨dq, osq⟩, rfl⟩
        have hb_ := below_regrown wr dq osq
        replace HM := Lib.hid (HM.out.keep hb_)
        replace hTf := Lib.hid (hTf.out.keep hb_)
        generalize grow (redrawn wr dq) osq = w2 at *
        clear hb_
        have ke := HM.out.cell 4 rfl
        have HP2 : Hid (∀ j, 0 < j → j < 0 + 1 → (old.getD (j - 1) default).slot < (old.getD j default).slot) := fun j hj => by omega
        go_wp2_with fail
        go_roundw
        case rel => exact Lib.hid ⟨0 + 1, by omega, by go_num, HP2, hTf, HM⟩
        case measure => simp [intOf]; omega
      · have q0 := (spt_at (ho.out.keep HM.out.below) (show k - 1 < n2 by omega)).1
        have hfF := hasF.out k (by omega) hlt2
        have hnx : (old.getD (k - 1) default).slot < (old.getD k default).slot → ∀ j, 0 < j → j < k + 1 → (old.getD (j - 1) default).slot < (old.getD j default).slot := fun h j h0 hj => by
          by_cases e : j = k
          · subst e; exact h
          · exact HP.out j h0 (by omega)
        generalize (old.getD (k - 1) default).slot = y0 at *
        generalize (old.getD k default).slot = x0 at *
        have k1 : 0 < k := by omega
        have k2 : (0 : Int) < (k : Int) := by omega
        have g2 := cell_regrown q0
        have g3 := cell_regrown q1
        have hw1 : IntKind.i64.wrap ((k : Int) - 1) = (k : Int) - 1 := IntWalk.i64_in _ (by omega)
        have ht1 : ((k : Int) - 1).toNat = k - 1 := by omega
        have t1 : (0 : Int) ≤ (k : Int) - 1 := by omega
        have t2 : (k : Int) - 1 < (n2 : Int) := by omega
        replace hfF := Lib.hid hfF
        replace hnx := Lib.hid hnx
        replace k0 := Lib.hid k0
        by_cases hyx : x0 ≤ y0
        · have hA1 := Lib.hid (hA.out.trans (if_pos (hfF.out (by omega))))
          clear hnx q0 q1 ke
          go_wp2_with fail
          refine wp_region_quiet_below (by kernel_rfl) (by kernel_rfl) ?_
          repeat (go_big_quiet_step (fail))
          refine wpQuiet_nil ?_
          rintro _ ⟨⟨dq, osq⟩, rfl⟩
          have hb_ := below_regrown wr dq osq
          replace HM := Lib.hid (HM.out.keep hb_)
          replace hTf := Lib.hid (hTf.out.keep hb_)
          generalize grow (redrawn wr dq) osq = w2 at *
          clear hb_
          clear g2 g3
          have ke := HM.out.cell 4 rfl
          go_wp2_with (first
            | (go_at_call 91; refine (cX.out _ _).mono ?_; rintro r w3 ⟨rfl, hb_⟩; have HM2 := Lib.hid (HM.out.keep hb_); clear HM hb_ ke ; have HM := HM2; clear HM2; have ke := HM.out.cell 4 rfl)
            | (refine wpList_storeF 2 HM rfl _ _ _ rfl _ rfl rfl _ rfl (by exact zend) (by rfl) (by rfl) ?_; clear HM ; intro w4 HM hG4; simp only [List.set] at HM)
            | (refine wpList_storeF 1 HM rfl _ _ _ rfl _ rfl rfl _ rfl (by exact zmsg) (by rfl) (by rfl) ?_; clear HM ; intro w4 HM hG4; simp only [List.set] at HM)
            | fail)
          all_goals
            try simp only [Exit.inBlock, Exit.then]
            refine bodyPost_ret (results_cct rfl (HM.out.at_ 2 rfl) (HM.out.at_ 1 rfl) rfl rfl _ uE.out rfl (by exact zend) _ uM.out rfl (by exact zmsg)) rfl ?_
            exact hPb.out 5 _ hA1.out (by decide) HM.out.below
        · have HP2 := Lib.hid (hnx.out (by omega))
          have d2 : decide (x0 ≤ y0) = false := by simpa using hyx
          clear hnx hfF q0 q1 ke
          replace hyx := Lib.hid hyx
          go_wp2_with fail
          refine wp_region_quiet_below (by kernel_rfl) (by kernel_rfl) ?_
          repeat (go_big_quiet_step (fail))
          refine wpQuiet_nil ?_
          rintro _ ⟨⟨dq, osq⟩, rfl⟩
          have hb_ := below_regrown wr dq osq
          replace HM := Lib.hid (HM.out.keep hb_)
          replace hTf := Lib.hid (hTf.out.keep hb_)
          generalize grow (redrawn wr dq) osq = w2 at *
          clear hb_
          clear g2 g3
          have ke := HM.out.cell 4 rfl
          go_wp2_with fail
          go_roundw
          case rel => exact Lib.hid ⟨k + 1, by omega, by go_num, HP2, hTf, HM⟩
          case measure => simp [intOf]; omega
    · have hkn : k = n2 := by omega
      subst hkn
      have hAS := hasT.out HP.out
      subst hAS
      replace hA := Lib.hid (hA.out.trans (if_neg (by decide)))
      go_upto_region 18 with (first
        | (refine wpList_loadM 0 HM rfl _ _ rfl _ rfl rfl _ uT.out rfl (by exact ztab) ?_)
        | (go_at_call 80; refine (cC.out vf _ hTf.out HM.out.below).mono ?_; rintro r w5 ⟨Ac, nc, cc, rfl, hcl, hOc, hb_⟩; replace hcl := Lib.hid hcl; replace hOc := Lib.hid hOc; have HM2 := Lib.hid (HM.out.keep hb_); clear HM hb_ ke cC hTf; have HM := HM2; clear HM2; have ke := HM.out.cell 4 rfl)
        | fail)
      have hOd := Lib.hid (SubS.of_own hOc.out)
      have hcc := own_cap hOc.out
      have hc8 : nc ≤ 8 := by have := hcd.out; have := hcl.out; omega
      clear hOc
      by_cases hlc : (nc : Int) < (k : Int)
      case pos =>
        have hA1 := Lib.hid (hA.out.trans (if_pos (by rw [hcl.out]; omega)))
        go_wp2_with (first
          | (go_at_call 91; refine (cX.out _ _).mono ?_; rintro r w3 ⟨rfl, hb_⟩; have HM2 := Lib.hid (HM.out.keep hb_); clear HM hb_ ke ; have HM := HM2; clear HM2; have ke := HM.out.cell 4 rfl)
          | (refine wpList_storeF 2 HM rfl _ _ _ rfl _ rfl rfl _ rfl (by exact zend) (by rfl) (by rfl) ?_; clear HM ; intro w4 HM hG4; simp only [List.set] at HM)
          | (refine wpList_storeF 1 HM rfl _ _ _ rfl _ rfl rfl _ rfl (by exact zmsg) (by rfl) (by rfl) ?_; clear HM ; intro w4 HM hG4; simp only [List.set] at HM)
          | fail)
        all_goals
          try simp only [Exit.inBlock, Exit.then]
          refine bodyPost_ret (results_cct rfl (HM.out.at_ 2 rfl) (HM.out.at_ 1 rfl) rfl rfl _ uE.out rfl (by exact zend) _ uM.out rfl (by exact zmsg)) rfl ?_
          exact hPb.out 14 _ hA1.out (by decide) HM.out.below
      replace hA := Lib.hid (hA.out.trans (if_neg (by rw [hcl.out]; omega)))
      go_upto_region 20 with fail
      have HMd := Lib.hid HM.out.drew
      replace hOd := Lib.hid (hOd.out.keep ((Below.refl _ _).drew))
      clear HM ke
      have HM := HMd
      clear HMd
      have ke := HM.out.cell 4 rfl
      have HMs := Lib.hid HM.out
      refine wp_region_plan (fun w' => Mem _ w' _) 12 [(0, true), (1, true), (2, true), (3, true), (4, true), (7, true), (5, false), (6, true), (8, false), (9, true), (10, true), (11, true)] (by kernel_rfl) (by kernel_rfl) HMs.out ?_
      refine plTakeL (by rfl) (yields_memw rfl _ _ rfl 4 (fun w_ hSw => hSw) rfl rfl _ uE.out rfl (by exact zend)) ?_
      try simp only [Act.put, List.setIfInBounds_toArray, List.set_cons_zero, List.set_cons_succ, List.getElem_toArray, List.getElem_cons_succ, List.getElem_cons_zero]
      repeat (first | (refine plPure rfl rfl (by intro w_ hSw; go_simp; first | done | exact rfl) ?_; try simp only [Act.put, List.setIfInBounds_toArray, List.set_cons_zero, List.set_cons_succ, List.getElem_toArray, List.getElem_cons_succ, List.getElem_cons_zero]))
      refine plStepL rfl rfl fun K hK => ?_
      go_wp2_with (first | (go_at_call 95; refine (cK.out _ HM.out.below (by omega)).mono ?_; rintro r w5 ⟨Ao, co, rfl, hOo, hb_⟩; replace hOo := Lib.hid hOo) | fail)
      refine hK.out _ _ (HMs.out.keep hb_) fun hS_ => ?_
      clear hK K hS_
      try simp only [Act.put, List.setIfInBounds_toArray, List.set_cons_zero, List.set_cons_succ, List.getElem_toArray, List.getElem_cons_succ, List.getElem_cons_zero]
      have hSo := Lib.hid (SubS.of_own hOo.out)
      have hoc := own_cap hOo.out
      clear hOo
      replace HM := Lib.hid (HM.out.keep hb_)
      replace HMs := Lib.hid (HMs.out.keep hb_)
      replace hOd := Lib.hid (hOd.out.keep hb_)
      clear ke
      have ke := HM.out.cell 4 rfl
      clear hb_
      repeat (first | (refine plPure rfl rfl (by intro w_ hSw; go_simp; first | done | exact rfl) ?_; try simp only [Act.put, List.setIfInBounds_toArray, List.set_cons_zero, List.set_cons_succ, List.getElem_toArray, List.getElem_cons_succ, List.getElem_cons_zero]))
      have hMs : Hid (MsgSub w5 ⟨Ac, nc, cc, Ao, k, co⟩ ⟨3, false, 0, 0, (k : Int), CN, old⟩) := ⟨hOd.out, hSo.out, hcc, hoc⟩
      have hAM : Hid (AM = { (⟨3, false, 0, 0, (k : Int), CN, old⟩ : Msg) with number := u0 }) := hMd
      clear hOd hSo
      refine plStepL rfl rfl fun K hK => ?_
      go_wp2_with (first | (go_at_call 82; refine (cO.out ⟨3, false, 0, 0, (k : Int), CN, old⟩ ⟨Ac, nc, cc, Ao, k, co⟩ _ HM.out.below hMs.out.is hsm2.out ⟨by dsimp only; omega, by dsimp only; omega⟩).mono ?_; rintro r w7 ⟨ve, rfl, hE, hb_⟩; dsimp only [endA, msgA]; replace hE := Lib.hid hE; replace hMs := Lib.hid (hMs.out.keep hb_)) | fail)
      refine hK.out _ _ (HMs.out.keep hb_) fun hS_ => ?_
      clear hK K hS_
      try simp only [Act.put, List.setIfInBounds_toArray, List.set_cons_zero, List.set_cons_succ, List.getElem_toArray, List.getElem_cons_succ, List.getElem_cons_zero]
      replace HM := Lib.hid (HM.out.keep hb_)
      replace HMs := Lib.hid (HMs.out.keep hb_)
      clear ke
      have ke := HM.out.cell 4 rfl
      clear hb_
      repeat (first | (refine plPure rfl rfl (by intro w_ hSw; go_simp; first | done | exact rfl) ?_; try simp only [Act.put, List.setIfInBounds_toArray, List.set_cons_zero, List.set_cons_succ, List.getElem_toArray, List.getElem_cons_succ, List.getElem_cons_zero]))
      refine plDone ?_
      simp only [List.drop]
      go_wp2_with (first
        | (have hBm := Lib.hid (HM.out.at_ 2 rfl); (refine wpList_storeF 2 HM rfl _ _ _ rfl _ rfl rfl _ rfl (by exact zend) (by rfl) (by rfl) ?_; have hBq := HM.out.at_ 2 rfl; clear HM ; intro w4 HM hG4; simp only [List.set] at HM; replace hE := Lib.hid (hE.out.put hBq (by decide) (by decide) hG4.out); clear hBq); replace hMs := Lib.hid (hMs.out.put hBm.out (by decide) hG4.out); clear hBm)
        | (have hBm := Lib.hid (HM.out.at_ 1 rfl); (refine wpList_storeF 1 HM rfl _ _ _ rfl _ rfl rfl _ rfl (by exact zmsg) (by rfl) (by rfl) ?_; have hBq := HM.out.at_ 1 rfl; clear HM ; intro w4 HM hG4; simp only [List.set] at HM; replace hE := Lib.hid (hE.out.put hBq (by decide) (by decide) hG4.out); clear hBq); replace hMs := Lib.hid (hMs.out.put hBm.out (by decide) hG4.out); clear hBm)
        | fail)
      try simp only [Exit.inBlock, Exit.then]
      refine bodyPost_ret (results_cct rfl (HM.out.at_ 2 rfl) (HM.out.at_ 1 rfl) rfl rfl _ uE.out rfl (by exact zend) _ uM.out rfl (by exact zmsg)) rfl ?_
      exact hPo.out _ _ _ _ hA.out hAM.out hE.out hMs.out HM.out.below
end Tx
end Go.Proofs.YtkfipbelhlcddaaGreat
namespace Go.Proofs.YtkfipbelhlcddaaGreat
open Go Go.RowKit Go.Sort Go.Shelf Go.Maps
namespace Tx
open Sw Mm Pl
theorem MsgOwn.sub {w : World} {v : MsgV} {m : Msg} (h : MsgOwn w v m) : MsgSub w v m := by
  obtain ⟨⟨b1, h1⟩, ⟨b2, h2⟩, l1, l2⟩ := h
  exact ⟨SubS.of_own h1, SubS.of_own h2, own_cap h1, own_cap h2⟩
set_option maxRecDepth 100000 in
set_option maxHeartbeats 16000000 in
theorem rask_any (e : Ed) (t : Tab) (v : EdV) (vt : TabV) (A : Option Addr) (nf cf : Nat) (f : List Int) (kind count slot : Int) (w : World) (h : EdIs w v e) (ht : TabIs w vt t) (hf : IntS w A nf f) : Calls Tryz.prog 40 #[.agg (endA e v), .agg (tabA t vt), .slice A nf cf, .int .i64 kind, .int .i64 count, .int .i64 slot] w (TriOwn (askE e t f kind count slot) (askN e t f kind count slot) (askC e t f kind count slot) w) := by
  have HM := Lib.hid (Mem.start w)
  have cF := fun W (hb : Below w.heap.size w W) => rfull_any t e vt v W (ht.keep hb) (h.keep hb)
  unfold FullPost at cF
  have cC : ∀ vu W, TabIs W vu (fullN t e) → Below w.heap.size w W → Calls Tryz.prog 98 #[.agg (tabA (fullN t e) vu), .slice A nf cf, .int .i64 8] W fun r w' => ∃ A m c, r = .returned (.slice A m c) ∧ (candN (fullN t e) f 8).length = m ∧ w'.ownsRow W.heap.size 78 2 (.slice A m c) m ((candN (fullN t e) f 8).flatMap sptE) ∧ Below W.heap.size W w' := fun vu W hu hb => rcand_any (fullN t e) vu A nf cf 8 f W hu (hf.keep hb) (by decide)
  have cS : ∀ W, Below w.heap.size w W → v.cn ≤ 100000 → Calls Tryz.prog 97 #[.agg (endA e v)] W fun r w' => ∃ A n c, r = .returned (.slice A n c) ∧ (sendsN e).length = n ∧ w'.ownsRow W.heap.size 78 2 (.slice A n c) n ((sendsN e).flatMap sptE) ∧ Below W.heap.size W w' := fun W hb hn => rsends_any e v W (h.keep hb) hn
  have cL := fun W (hb : Below w.heap.size w W) (hs : Small v) => rcopied_any e v W (h.keep hb) hs
  unfold ClonePostE at cL
  have cMs := fun m vm W (hm : MsgIs W vm m) (hs : vm.sn ≤ 100000 ∧ vm.on ≤ 100000) => rmessage_any m vm W hm hs
  unfold MsgPost at cMs
  have hsm : fullC t e = 0 → Small v := fun hF => small_of h ((chkE_iff e).2 ((fullC_iff t e).1 hF).ed)
  have hA : askC e t f kind count slot = if fullC t e ≠ 0 then fullC t e
      else if kind < 1 ∨ 6 < kind ∨ slot < 0 ∨ 1099511627776 < slot ∨ countsN kind count = false then 2
      else if e.opn = true then 12
      else if (kind = 1 ∨ kind = 3) ∧ ((candN (fullN t e) f 8).length : Int) < count then 14
      else if (kind = 2 ∨ kind = 3) ∧ ((sendsN e).length : Int) < count then 14 else 0 := rfl
  have hPb : ∀ c w', askC e t f kind count slot = c → c ≠ 0 → Below w.heap.size w w' → TriOwn (askE e t f kind count slot) (askN e t f kind count slot) (askC e t f kind count slot) w (.returned (.tuple #[.agg #[.int .i64 0, .int .i64 0, .int .i64 0, .slice none 0 0, .bool false, .int .i64 0, .int .i64 0, .bool false, .int .i64 0, .int .i64 0, .int .i64 0, .slice none 0 0, .slice none 0 0, .bool false, .int .i64 0, .bool false, .int .i64 0, .int .i64 0, .int .i64 0, .slice none 0 0, .slice none 0 0, .int .i64 0, .bool false, .int .i64 0, .int .i64 0, .int .i64 0, .slice none 0 0, .slice none 0 0], .agg #[.int .i64 0, .bool false, .int .i64 0, .int .i64 0, .int .i64 0, .slice none 0 0, .slice none 0 0], .int .i64 c])) w' := fun c w' e1 e2 hb => triOwn_bad (askE_bad (by rw [e1]; exact e2)).1 (askE_bad (by rw [e1]; exact e2)).2 e1 hb
  have hPo : ∀ w' m ve vm, askC e t f kind count slot = 0 → askM e t f kind count = m → EdOwn w' ve (openE e m slot) → MsgSub w' vm m → Below w.heap.size w w' → TriOwn (askE e t f kind count slot) (askN e t f kind count slot) (askC e t f kind count slot) w (.returned (.tuple #[.agg (endA (openE e m slot) ve), .agg (msgA m vm), .int .i64 0])) w' := fun w' m ve vm e1 e2 hE hM hb => by
    obtain ⟨e3, e4⟩ := ask_ok e1
    rw [e1, e3, e4, e2]
    exact ⟨ve, vm, rfl, hE, hM, hb⟩
  have hMd : askM e t f kind count = ⟨kind, false, e.number, 0, count, if kind = 1 ∨ kind = 3 then candN (fullN t e) f 8 else [], if kind = 2 then (sendsN e).drop ((sendsN e).length - count.toNat) else if kind = 3 then (sendsN e).take count.toNat else []⟩ := rfl
  generalize TriOwn (askE e t f kind count slot) (askN e t f kind count slot) (askC e t f kind count slot) w = P at *
  generalize askC e t f kind count slot = AC at *
  generalize askM e t f kind count = AM at *
  generalize fullC t e = F at *
  have hcd : (candN (fullN t e) f 8).length ≤ 8 := by unfold candN; split; exact List.length_take_le _ _; simp
  have hsl : (sendsN e).length ≤ e.cells.length := by unfold sendsN; rw [List.length_map]; exact List.length_filter_le _ _
  rw [h.cells.len] at hsl
  generalize fullN t e = FU at *
  generalize hCNe : candN FU f 8 = CN at *
  replace hCNe := Lib.hid hCNe
  generalize hSNe : sendsN e = SN at *
  replace hSNe := Lib.hid hSNe
  have uE := Tryz.underlying27
  have uT := Tryz.underlying29
  have uM := Tryz.underlying25
  replace cF := Lib.hid cF
  replace cC := Lib.hid cC
  replace cS := Lib.hid cS
  replace cL := Lib.hid cL
  replace cMs := Lib.hid cMs
  replace hsm := Lib.hid hsm
  replace hA := Lib.hid hA
  replace hPb := Lib.hid hPb
  replace hPo := Lib.hid hPo
  replace hMd := Lib.hid hMd
  replace uE := Lib.hid uE
  replace uT := Lib.hid uT
  replace uM := Lib.hid uM
  replace hcd := Lib.hid hcd
  replace hsl := Lib.hid hsl
  clear h ht hf
  go_enter Tryz.func40, Tryz.ntmps40
  go_upto_region 1 with (first | (refine wpList_boxA HM rfl 27 _ rfl _ rfl ?_; clear HM; intro ge w1 HM hG; clear hG) | (refine wpList_boxA HM rfl 29 _ rfl _ rfl ?_; clear HM; intro gt w1 HM hG; clear hG) | (refine wpList_allocA HM rfl 27 rfl (by first | exact msgInfo | exact edInfo | exact tabInfo | exact info_tcl | exact info_spt) ?_; clear HM; intro g12 w1 HM hG; clear hG) | (refine wpList_allocA HM rfl 25 rfl (by first | exact msgInfo | exact edInfo | exact tabInfo | exact info_tcl | exact info_spt) ?_; clear HM; intro g13 w1 HM hG; clear hG) | fail)
  go_upto_region 2 with (first
    | (refine wpList_loadM 2 HM rfl _ _ rfl _ rfl rfl _ uT.out rfl (by exact ztab) ?_)
    | (refine wpList_loadM 3 HM rfl _ _ rfl _ rfl rfl _ uE.out rfl (by exact zend) ?_)
    | (go_at_call 39; refine (cF.out _ HM.out.below).mono ?_; rintro r w3 ⟨vf, rfl, hTf, hb_⟩; replace hTf := Lib.hid hTf; replace HM := Lib.hid (HM.out.keep hb_); clear hb_)
    | (refine wpList_allocN HM rfl 29 rfl tabInfo ?_; clear HM; intro g15 w1 HM hG hN9)
    | (refine wpList_storeF 0 HM rfl _ _ _ rfl _ rfl rfl _ rfl (by exact ztab) (by rfl) (by rfl) ?_; clear HM ; intro w4 HM hG4; simp only [List.set] at HM)
    | fail)
  replace hTf := Lib.hid (hTf.out.keep (hG.out.grown hG4.out hG.out.size (fun k e => by cases e; exact hN9.out)))
  clear hG hG4 hN9 cF
  by_cases hF : F = 0
  case neg =>
    have hA1 := Lib.hid (hA.out.trans (if_pos hF))
    have d1 : (F != 0) = true := by rw [bne_iff_ne]; exact hF
    have hP2 := Lib.hid (fun w' => hPb.out F w' hA1.out hF)
    go_wp2_with (first | go_skip | (refine wpList_storeF 2 HM rfl _ _ _ rfl _ rfl rfl _ rfl (by exact zend) (by rfl) (by rfl) ?_; clear HM ; intro w4 HM hG4; simp only [List.set] at HM) | (refine wpList_storeF 1 HM rfl _ _ _ rfl _ rfl rfl _ rfl (by exact zmsg) (by rfl) (by rfl) ?_; clear HM ; intro w4 HM hG4; simp only [List.set] at HM) | fail)
    try simp only [Exit.inBlock, Exit.then]
    refine bodyPost_ret (results_cct rfl (HM.out.at_ 2 rfl) (HM.out.at_ 1 rfl) rfl rfl _ uE.out rfl (by exact zend) _ uM.out rfl (by exact zmsg)) rfl ?_
    exact hP2.out _ HM.out.below
  subst hF
  replace hA := Lib.hid (hA.out.trans (if_neg (fun h => h rfl)))
  have hsm2 := Lib.hid (hsm.out rfl)
  clear hsm
  go_upto_region 4 with fail
  by_cases hr : kind < 1 ∨ 6 < kind ∨ slot < 0 ∨ 1099511627776 < slot
  case pos =>
    have hA1 := Lib.hid (hA.out.trans (if_pos (by rcases hr with q | q | q | q; exact .inl q; exact .inr (.inl q); exact .inr (.inr (.inl q)); exact .inr (.inr (.inr (.inl q))))))
    have hr2 : kind < 1 ∨ (¬ kind < 1 ∧ (6 < kind ∨ (¬ 6 < kind ∧ (slot < 0 ∨ (¬ slot < 0 ∧ 1099511627776 < slot))))) := by omega
    clear hr
    rcases hr2 with g0 | ⟨g0, g1 | ⟨g1, g2 | ⟨g2, g3⟩⟩⟩
    all_goals
      go_wp2_with (first | go_skip | (refine wpList_storeF 2 HM rfl _ _ _ rfl _ rfl rfl _ rfl (by exact zend) (by rfl) (by rfl) ?_; clear HM ; intro w4 HM hG4; simp only [List.set] at HM) | (refine wpList_storeF 1 HM rfl _ _ _ rfl _ rfl rfl _ rfl (by exact zmsg) (by rfl) (by rfl) ?_; clear HM ; intro w4 HM hG4; simp only [List.set] at HM) | fail)
      all_goals
        try simp only [Exit.inBlock, Exit.then]
        refine bodyPost_ret (results_cct rfl (HM.out.at_ 2 rfl) (HM.out.at_ 1 rfl) rfl rfl _ uE.out rfl (by exact zend) _ uM.out rfl (by exact zmsg)) rfl ?_
        exact hPb.out 2 _ (hA1.out) (by decide) HM.out.below
  obtain ⟨g0, g1, g2, g3⟩ : ¬ kind < 1 ∧ ¬ 6 < kind ∧ ¬ slot < 0 ∧ ¬ 1099511627776 < slot := by omega
  go_upto_region 6 with fail
  replace hA := Lib.hid hA.out
  clear hr
  rcases (show kind = 1 ∨ kind = 2 ∨ kind = 3 ∨ 3 < kind by omega) with rfl | rfl | rfl | h5
  · skip
    have hcn : countsN 1 count = (decide (1 ≤ count) && decide (count ≤ 8)) := by unfold countsN; rw [if_pos (by decide)]
    rw [hcn] at hA
    clear hcn
    by_cases hc1 : count < 1
    case pos =>
      have hA1 := Lib.hid (hA.out.trans (if_pos (.inr (.inr (.inr (.inr (by rw [decide_eq_false (by omega)]; rfl)))))))
      go_wp2_with (first | go_skip | (refine wpList_storeF 2 HM rfl _ _ _ rfl _ rfl rfl _ rfl (by exact zend) (by rfl) (by rfl) ?_; clear HM ; intro w4 HM hG4; simp only [List.set] at HM) | (refine wpList_storeF 1 HM rfl _ _ _ rfl _ rfl rfl _ rfl (by exact zmsg) (by rfl) (by rfl) ?_; clear HM ; intro w4 HM hG4; simp only [List.set] at HM) | fail)
      all_goals
        try simp only [Exit.inBlock, Exit.then]
        refine bodyPost_ret (results_cct rfl (HM.out.at_ 2 rfl) (HM.out.at_ 1 rfl) rfl rfl _ uE.out rfl (by exact zend) _ uM.out rfl (by exact zmsg)) rfl ?_
        exact hPb.out 2 _ (hA1.out) (by decide) HM.out.below
    by_cases hc8 : 8 < count
    case pos =>
      have hA1 := Lib.hid (hA.out.trans (if_pos (.inr (.inr (.inr (.inr (by rw [decide_eq_false (show ¬ count ≤ 8 by omega), Bool.and_false])))))))
      go_wp2_with (first | go_skip | (refine wpList_storeF 2 HM rfl _ _ _ rfl _ rfl rfl _ rfl (by exact zend) (by rfl) (by rfl) ?_; clear HM ; intro w4 HM hG4; simp only [List.set] at HM) | (refine wpList_storeF 1 HM rfl _ _ _ rfl _ rfl rfl _ rfl (by exact zmsg) (by rfl) (by rfl) ?_; clear HM ; intro w4 HM hG4; simp only [List.set] at HM) | fail)
      all_goals
        try simp only [Exit.inBlock, Exit.then]
        refine bodyPost_ret (results_cct rfl (HM.out.at_ 2 rfl) (HM.out.at_ 1 rfl) rfl rfl _ uE.out rfl (by exact zend) _ uM.out rfl (by exact zmsg)) rfl ?_
        exact hPb.out 2 _ (hA1.out) (by decide) HM.out.below
    replace hA := Lib.hid (hA.out.trans (if_neg (by
      rintro (h | h | h | h | h)
      · exact absurd h (by decide)
      · exact absurd h (by decide)
      · exact g2 h
      · exact g3 h
      · rw [decide_eq_true (by omega), decide_eq_true (by omega)] at h; cases h)))
    go_upto_region 8 with (first | go_skip | fail)
    have p4 : World.cell? _ ⟨ge, 4, none⟩ = some (.bool e.opn) := HM.out.cell 4 rfl 4
    cases ho : e.opn
    case true =>
      rw [ho] at p4
      have hA1 := Lib.hid (hA.out.trans (if_pos ho))
      go_wp2_with (first | go_skip | (refine wpList_storeF 2 HM rfl _ _ _ rfl _ rfl rfl _ rfl (by exact zend) (by rfl) (by rfl) ?_; clear HM ; intro w4 HM hG4; simp only [List.set] at HM) | (refine wpList_storeF 1 HM rfl _ _ _ rfl _ rfl rfl _ rfl (by exact zmsg) (by rfl) (by rfl) ?_; clear HM ; intro w4 HM hG4; simp only [List.set] at HM) | fail)
      all_goals
        try simp only [Exit.inBlock, Exit.then]
        refine bodyPost_ret (results_cct rfl (HM.out.at_ 2 rfl) (HM.out.at_ 1 rfl) rfl rfl _ uE.out rfl (by exact zend) _ uM.out rfl (by exact zmsg)) rfl ?_
        exact hPb.out 12 _ (hA1.out) (by decide) HM.out.below
    rw [ho] at p4
    replace hA := Lib.hid (hA.out.trans (if_neg (by rw [ho]; decide)))
    have p2 : World.cell? _ ⟨ge, 2, none⟩ = some (.int .i64 e.number) := HM.out.cell 4 rfl 2
    go_upto_region 11 with (first
      | (refine wpList_allocN HM rfl 25 rfl msgInfo ?_; clear HM p4 p2; intro g17 w1 HM hG hN9)
      | (refine wpList_storeF 0 HM rfl _ _ _ rfl _ rfl rfl _ rfl (by exact zmsg) (by rfl) (by rfl) ?_; clear HM ; intro w4 HM hG4; simp only [List.set] at HM)
      | fail)
    replace hTf := Lib.hid (hTf.out.keep (hG.out.grown hG4.out hG.out.size (fun k e => by cases e; exact hN9.out)))
    clear hG hG4 hN9
    change Hid (Mem _ _ ((_, msgA ⟨1, false, e.number, 0, count, [], []⟩ msgV0, _) :: _)) at HM
    go_upto_region 13 with (first
      | go_skip
      | (refine wpList_loadM 1 HM rfl _ _ rfl _ rfl rfl _ uT.out rfl (by exact ztab) ?_)
      | (go_at_call 98; refine (cC.out vf _ hTf.out HM.out.below).mono ?_; rintro r w5 ⟨Ac, nc, cc, rfl, hcl, hOc, hb_⟩; replace hcl := Lib.hid hcl; replace HM := Lib.hid (HM.out.keep hb_); clear hb_ hTf)
      | (refine wpList_storeM 0 HM rfl _ _ _ rfl _ 5 rfl rfl _ (by conv => {lhs; whnf}) (by exact zslS) (by rfl) (Nat.le_of_ble_eq_true (by rfl)) (msgA ⟨1, false, e.number, 0, count, CN, []⟩ ⟨Ac, nc, cc, none, 0, 0⟩) (by rfl) ?_; have hBq := HM.out.at_ 0 rfl; clear HM; intro w4 HM hG4; simp only [List.set] at HM; have hOd := Lib.hid (SubS.of_own (hOc.kept hG4.out (.inr (row_ne_blk hOc hBq (by decide))))); clear hBq hG4)
      | fail)
    have hcc := own_cap hOc
    clear hOc
    have hc8c : nc ≤ 8 := by have := hcd.out; have := hcl.out; omega
    have p5 : World.cell? _ ⟨g17, 5, none⟩ = some (.slice Ac nc cc) := HM.out.cell 0 rfl 5
    by_cases hlc : (nc : Int) < count
    case pos =>
      have hA1 := Lib.hid (hA.out.trans (if_pos ⟨by decide, by rw [hcl.out]; exact hlc⟩))
      go_wp2_with (first | go_skip | (refine wpList_storeF 3 HM rfl _ _ _ rfl _ rfl rfl _ rfl (by exact zend) (by rfl) (by rfl) ?_; clear HM ; intro w4 HM hG4; simp only [List.set] at HM) | (refine wpList_storeF 2 HM rfl _ _ _ rfl _ rfl rfl _ rfl (by exact zmsg) (by rfl) (by rfl) ?_; clear HM ; intro w4 HM hG4; simp only [List.set] at HM) | fail)
      all_goals
        try simp only [Exit.inBlock, Exit.then]
        refine bodyPost_ret (results_cct rfl (HM.out.at_ 3 rfl) (HM.out.at_ 2 rfl) rfl rfl _ uE.out rfl (by exact zend) _ uM.out rfl (by exact zmsg)) rfl ?_
        exact hPb.out 14 _ (hA1.out) (by decide) HM.out.below
    replace hA := Lib.hid (hA.out.trans (if_neg (fun h => hlc (by rw [← hcl.out]; exact h.2))))
    go_upto_region 15 with fail
    clear p5
    go_upto_region 16 with (first
      | (refine wpList_loadM 5 HM rfl _ _ rfl _ rfl rfl _ uE.out rfl (by exact zend) ?_)
      | (go_at_call 97; refine (cS.out _ HM.out.below hsm2.out.c).mono ?_; rintro r w5 ⟨As, ns, cs, rfl, hsn, hOs, hb_⟩; replace hsn := Lib.hid hsn; replace HM := Lib.hid (HM.out.keep hb_); replace hOd := Lib.hid (hOd.out.keep hb_); clear hb_)
      | fail)
    clear hOs
    replace hA := Lib.hid (hA.out.trans (if_neg (by rintro ⟨h | h, _⟩ <;> first | exact absurd h (by decide) | omega)))
    go_upto_region 22 with (first | go_skip | fail)
    have hMs : Hid (MsgSub _ ⟨Ac, nc, cc, none, 0, 0⟩ ⟨1, false, e.number, 0, count, CN, []⟩) := ⟨hOd.out, SubS.nil _, hcc, Nat.le_refl _⟩
    have hAM : Hid (AM = (⟨1, false, e.number, 0, count, CN, []⟩ : Msg)) := by show _ = _; rw [hMd.out]; simp [hsn.out]
    have hA0 := Lib.hid hA.out
    clear hA hPb hsl hcd hMd
    obtain ⟨F0, hFs, hF, gM⟩ : ∃ F : World → Prop, Stb F ∧ Hid (F _) ∧ Hid (∀ W, F W → MsgSub W ⟨Ac, nc, cc, none, 0, 0⟩ ⟨1, false, e.number, 0, count, CN, []⟩) := ⟨_, Stb.sub _ _, hMs, fun _ h => h⟩
    clear hMs
    have mk1 : Unit := ()
    have mk2 : Unit := ()
    go_upto_region 23 with (first | go_skip | (refine wpList_loadM 5 HM rfl _ _ rfl _ rfl rfl _ uE.out rfl (by exact zend) ?_) | (go_at_call 57; clear mk1; refine (cL.out _ HM.out.below hsm2.out).mono ?_; rintro r w3 ⟨v1, rfl, hE, hb_⟩; replace HM := Lib.hid (HM.out.keep hb_); replace hF := Lib.hid (hFs.keep hF.out hb_); clear hb_; obtain ⟨F2, hFs2, hF2, hU, hNw⟩ := stb_add hFs hF (Stb.ed v1 _) hE; clear hFs hF; replace gM := Lib.hid (fun W h => gM.out W (hU W h)); have gE := Lib.hid hNw; clear hNw hU; have hFs := hFs2; have hF := hF2; clear hFs2 hF2 hE) | (clear mk2; refine wpList_allocN HM rfl 27 rfl edInfo ?_; clear HM; intro g19 w1 HM hG hN9; replace hF := Lib.hid (hFs.keep hF.out hG.out); clear hG hN9) | (refine wpList_storeF 0 HM rfl _ _ _ rfl _ rfl rfl _ rfl (by exact zend) (by rfl) (by rfl) ?_; have hBq := HM.out.at_ 0 rfl; clear HM; intro w4 HM hG4; simp only [List.set] at HM; replace hF := Lib.hid (hFs.put hF.out hBq (by decide) (by decide) hG4.out); clear hBq hG4) | fail)
    have mk3 : Unit := ()
    go_upto_region 24 with (first | go_skip | (refine wpList_loadM 1 HM rfl _ _ rfl _ rfl rfl _ uM.out rfl (by exact zmsg) ?_) | (go_at_call 60; clear mk3; refine (cMs.out _ _ _ (gM.out _ hF.out).is ⟨by dsimp only; omega, by dsimp only; omega⟩).mono ?_; rintro r w3 ⟨va, rfl, hA5, hb_⟩; replace HM := Lib.hid (HM.out.keep hb_); replace hF := Lib.hid (hFs.keep hF.out hb_); clear hb_; obtain ⟨F3, hFs2, hF2, hU, hNw⟩ := stb_add hFs hF (Stb.msg va _) hA5; clear hFs hF; replace gM := Lib.hid (fun W h => gM.out W (hU W h)); replace gE := Lib.hid (fun W h => gE.out W (hU W h)); have gA := Lib.hid hNw; clear hNw hU; have hFs := hFs2; have hF := hF2; clear hFs2 hF2 hA5) | (refine wpList_storeM 0 HM rfl _ _ _ rfl _ 4 rfl rfl _ (by conv => {lhs; whnf}) (by exact zone_b) (by rfl) (Nat.le_of_ble_eq_true (by rfl)) (endA { e with opn := true } v1) (by rfl) ?_; have hBq := HM.out.at_ 0 rfl; clear HM; intro w4 HM hG4; simp only [List.set] at HM; replace hF := Lib.hid (hFs.put hF.out hBq (by decide) (by decide) hG4.out); clear hBq hG4) | (refine wpList_storeM 0 HM rfl _ _ _ rfl _ 5 rfl rfl _ (by conv => {lhs; whnf}) (by exact zone_i) (by rfl) (Nat.le_of_ble_eq_true (by rfl)) (endA { e with opn := true, since := slot } v1) (by rfl) ?_; have hBq := HM.out.at_ 0 rfl; clear HM; intro w4 HM hG4; simp only [List.set] at HM; replace hF := Lib.hid (hFs.put hF.out hBq (by decide) (by decide) hG4.out); clear hBq hG4) | (refine wpList_storeM 0 HM rfl _ _ _ rfl _ 6 rfl rfl _ (by conv => {lhs; whnf}) (by exact zmsg) (by rfl) (Nat.le_of_ble_eq_true (by rfl)) (endA (openE e ⟨1, false, e.number, 0, count, CN, []⟩ slot) { v1 with a := va }) (by rfl) ?_; have hBq := HM.out.at_ 0 rfl; clear HM; intro w4 HM hG4; simp only [List.set] at HM; replace hF := Lib.hid (hFs.put hF.out hBq (by decide) (by decide) hG4.out); clear hBq hG4) | fail)
    replace hF := Lib.hid (hFs.keep hF.out ((Below.refl _ _).drew))
    replace HM := Lib.hid (HM.out.keep ((Below.refl _ _).drew))
    have HMs := Lib.hid HM.out
    refine wp_region_plan (fun w' => Mem _ w' _) 3 [(0, true), (1, true), (2, false)] (by kernel_rfl) (by kernel_rfl) HMs.out ?_
    generalize World.drew _ = wd at *
    refine plTakeL (by rfl) (yields_memw rfl _ _ rfl 0 (fun w_ hSw => hSw) rfl rfl _ uE.out rfl (by exact zend)) ?_
    try simp only [Act.put, List.setIfInBounds_toArray, List.set_cons_zero, List.set_cons_succ, List.getElem_toArray, List.getElem_cons_succ, List.getElem_cons_zero]
    refine plTakeL (by rfl) (yields_memw rfl _ _ rfl 1 (fun w_ hSw => hSw) rfl rfl _ uM.out rfl (by exact zmsg)) ?_
    try simp only [Act.put, List.setIfInBounds_toArray, List.set_cons_zero, List.set_cons_succ, List.getElem_toArray, List.getElem_cons_succ, List.getElem_cons_zero]
    refine plStepL rfl rfl fun K hK => ?_
    go_wp2_with (first | (go_at_call 60; refine (cMs.out _ _ _ (gM.out _ hF.out).is ⟨by dsimp only; omega, by dsimp only; omega⟩).mono ?_; rintro r w3 ⟨vb, rfl, hA5, hb_⟩) | fail)
    refine hK.out _ _ (HMs.out.keep hb_) fun hS_ => ?_
    clear hK K hS_
    try simp only [Act.put, List.setIfInBounds_toArray, List.set_cons_zero, List.set_cons_succ, List.getElem_toArray, List.getElem_cons_succ, List.getElem_cons_zero]
    replace HM := Lib.hid (HM.out.keep hb_)
    replace hF := Lib.hid (hFs.keep hF.out hb_)
    clear hb_ HMs
    obtain ⟨F5, hFs2, hF2, hU, hNw⟩ := stb_add hFs hF (Stb.msg vb _) hA5
    clear hFs hF
    replace gM := Lib.hid (fun W h => gM.out W (hU W h))
    replace gE := Lib.hid (fun W h => gE.out W (hU W h))
    replace gA := Lib.hid (fun W h => gA.out W (hU W h))
    have gB := Lib.hid hNw
    clear hNw hU
    have hFs := hFs2
    have hF := hF2
    clear hFs2 hF2 hA5
    refine plDone ?_
    simp only [List.drop]
    go_wp2_with (first | go_skip | (refine wpList_storeF 4 HM rfl _ _ _ rfl _ rfl rfl _ rfl (by exact zend) (by rfl) (by rfl) ?_; have hBq := HM.out.at_ 4 rfl; clear HM; intro w4 HM hG4; simp only [List.set] at HM; replace hF := Lib.hid (hFs.put hF.out hBq (by decide) (by decide) hG4.out); clear hBq hG4) | (refine wpList_storeF 3 HM rfl _ _ _ rfl _ rfl rfl _ rfl (by exact zmsg) (by rfl) (by rfl) ?_; have hBq := HM.out.at_ 3 rfl; clear HM; intro w4 HM hG4; simp only [List.set] at HM; replace hF := Lib.hid (hFs.put hF.out hBq (by decide) (by decide) hG4.out); clear hBq hG4) | fail)
    try simp only [Exit.inBlock, Exit.then]
    refine bodyPost_ret (results_cct rfl (HM.out.at_ 4 rfl) (HM.out.at_ 3 rfl) rfl rfl _ uE.out rfl (by exact zend) _ uM.out rfl (by exact zmsg)) rfl ?_
    exact hPo.out _ _ _ _ hA0.out hAM.out ⟨(gE.out _ hF.out).cells, (gE.out _ hF.out).lc, gA.out _ hF.out, (gE.out _ hF.out).last, (gE.out _ hF.out).reply⟩ (gB.out _ hF.out).sub HM.out.below
  · skip
    have hcn : countsN 2 count = (decide (1 ≤ count) && decide (count ≤ 8)) := by unfold countsN; rw [if_pos (by decide)]
    rw [hcn] at hA
    clear hcn
    by_cases hc1 : count < 1
    case pos =>
      have hA1 := Lib.hid (hA.out.trans (if_pos (.inr (.inr (.inr (.inr (by rw [decide_eq_false (by omega)]; rfl)))))))
      go_wp2_with (first | go_skip | (refine wpList_storeF 2 HM rfl _ _ _ rfl _ rfl rfl _ rfl (by exact zend) (by rfl) (by rfl) ?_; clear HM ; intro w4 HM hG4; simp only [List.set] at HM) | (refine wpList_storeF 1 HM rfl _ _ _ rfl _ rfl rfl _ rfl (by exact zmsg) (by rfl) (by rfl) ?_; clear HM ; intro w4 HM hG4; simp only [List.set] at HM) | fail)
      all_goals
        try simp only [Exit.inBlock, Exit.then]
        refine bodyPost_ret (results_cct rfl (HM.out.at_ 2 rfl) (HM.out.at_ 1 rfl) rfl rfl _ uE.out rfl (by exact zend) _ uM.out rfl (by exact zmsg)) rfl ?_
        exact hPb.out 2 _ (hA1.out) (by decide) HM.out.below
    by_cases hc8 : 8 < count
    case pos =>
      have hA1 := Lib.hid (hA.out.trans (if_pos (.inr (.inr (.inr (.inr (by rw [decide_eq_false (show ¬ count ≤ 8 by omega), Bool.and_false])))))))
      go_wp2_with (first | go_skip | (refine wpList_storeF 2 HM rfl _ _ _ rfl _ rfl rfl _ rfl (by exact zend) (by rfl) (by rfl) ?_; clear HM ; intro w4 HM hG4; simp only [List.set] at HM) | (refine wpList_storeF 1 HM rfl _ _ _ rfl _ rfl rfl _ rfl (by exact zmsg) (by rfl) (by rfl) ?_; clear HM ; intro w4 HM hG4; simp only [List.set] at HM) | fail)
      all_goals
        try simp only [Exit.inBlock, Exit.then]
        refine bodyPost_ret (results_cct rfl (HM.out.at_ 2 rfl) (HM.out.at_ 1 rfl) rfl rfl _ uE.out rfl (by exact zend) _ uM.out rfl (by exact zmsg)) rfl ?_
        exact hPb.out 2 _ (hA1.out) (by decide) HM.out.below
    replace hA := Lib.hid (hA.out.trans (if_neg (by
      rintro (h | h | h | h | h)
      · exact absurd h (by decide)
      · exact absurd h (by decide)
      · exact g2 h
      · exact g3 h
      · rw [decide_eq_true (by omega), decide_eq_true (by omega)] at h; cases h)))
    go_upto_region 8 with (first | go_skip | fail)
    have p4 : World.cell? _ ⟨ge, 4, none⟩ = some (.bool e.opn) := HM.out.cell 4 rfl 4
    cases ho : e.opn
    case true =>
      rw [ho] at p4
      have hA1 := Lib.hid (hA.out.trans (if_pos ho))
      go_wp2_with (first | go_skip | (refine wpList_storeF 2 HM rfl _ _ _ rfl _ rfl rfl _ rfl (by exact zend) (by rfl) (by rfl) ?_; clear HM ; intro w4 HM hG4; simp only [List.set] at HM) | (refine wpList_storeF 1 HM rfl _ _ _ rfl _ rfl rfl _ rfl (by exact zmsg) (by rfl) (by rfl) ?_; clear HM ; intro w4 HM hG4; simp only [List.set] at HM) | fail)
      all_goals
        try simp only [Exit.inBlock, Exit.then]
        refine bodyPost_ret (results_cct rfl (HM.out.at_ 2 rfl) (HM.out.at_ 1 rfl) rfl rfl _ uE.out rfl (by exact zend) _ uM.out rfl (by exact zmsg)) rfl ?_
        exact hPb.out 12 _ (hA1.out) (by decide) HM.out.below
    rw [ho] at p4
    replace hA := Lib.hid (hA.out.trans (if_neg (by rw [ho]; decide)))
    have p2 : World.cell? _ ⟨ge, 2, none⟩ = some (.int .i64 e.number) := HM.out.cell 4 rfl 2
    go_upto_region 11 with (first
      | (refine wpList_allocN HM rfl 25 rfl msgInfo ?_; clear HM p4 p2; intro g17 w1 HM hG hN9)
      | (refine wpList_storeF 0 HM rfl _ _ _ rfl _ rfl rfl _ rfl (by exact zmsg) (by rfl) (by rfl) ?_; clear HM ; intro w4 HM hG4; simp only [List.set] at HM)
      | fail)
    replace hTf := Lib.hid (hTf.out.keep (hG.out.grown hG4.out hG.out.size (fun k e => by cases e; exact hN9.out)))
    clear hG hG4 hN9
    change Hid (Mem _ _ ((_, msgA ⟨2, false, e.number, 0, count, [], []⟩ msgV0, _) :: _)) at HM
    replace hA := Lib.hid (hA.out.trans (if_neg (by rintro ⟨h | h, _⟩ <;> first | exact absurd h (by decide) | omega)))
    clear hTf
    go_upto_region 15 with (first | go_skip | fail)
    go_upto_region 16 with (first
      | (refine wpList_loadM 5 HM rfl _ _ rfl _ rfl rfl _ uE.out rfl (by exact zend) ?_)
      | (go_at_call 97; refine (cS.out _ HM.out.below hsm2.out.c).mono ?_; rintro r w5 ⟨As, ns, cs, rfl, hsn, hOs, hb_⟩; replace hsn := Lib.hid hsn; replace HM := Lib.hid (HM.out.keep hb_); clear hb_)
      | fail)
    have hsc := own_cap hOs
    by_cases hlt : (ns : Int) < count
    case pos =>
      have hA1 := Lib.hid (hA.out.trans (if_pos ⟨by decide, by rw [hsn.out]; exact hlt⟩))
      go_wp2_with (first | go_skip | (refine wpList_storeF 3 HM rfl _ _ _ rfl _ rfl rfl _ rfl (by exact zend) (by rfl) (by rfl) ?_; clear HM ; intro w4 HM hG4; simp only [List.set] at HM) | (refine wpList_storeF 2 HM rfl _ _ _ rfl _ rfl rfl _ rfl (by exact zmsg) (by rfl) (by rfl) ?_; clear HM ; intro w4 HM hG4; simp only [List.set] at HM) | fail)
      all_goals
        try simp only [Exit.inBlock, Exit.then]
        refine bodyPost_ret (results_cct rfl (HM.out.at_ 3 rfl) (HM.out.at_ 2 rfl) rfl rfl _ uE.out rfl (by exact zend) _ uM.out rfl (by exact zmsg)) rfl ?_
        exact hPb.out 14 _ (hA1.out) (by decide) HM.out.below
    replace hA := Lib.hid (hA.out.trans (if_neg (fun h => hlt (by rw [← hsn.out]; exact h.2))))
    obtain ⟨q, rfl⟩ : ∃ q : Nat, count = q := ⟨count.toNat, by omega⟩
    have hqs : q ≤ ns := by omega
    have hqc : q ≤ cs := by omega
    obtain ⟨gs, rfl⟩ := own_addr hOs (by omega)
    have hSd := Lib.hid (SubS.of_own hOs)
    clear hOs
    have hns : ns ≤ 100000 := by have := hsl.out; have := hsn.out; have := hsm2.out.c; omega
    go_upto_region 20 with (first | go_skip | (refine wpList_storeM 0 HM rfl _ _ _ rfl _ 6 rfl rfl _ (by conv => {lhs; whnf}) (by exact zslS) (by rfl) (Nat.le_of_ble_eq_true (by rfl)) (msgA ⟨2, false, e.number, 0, (q : Int), [], SN.take q⟩ ⟨none, 0, 0, some ⟨gs, 0, none⟩, q, cs⟩) (by rfl) ?_; have hBq := HM.out.at_ 0 rfl; clear HM; intro w4 HM hG4; simp only [List.set] at HM; replace hSd := Lib.hid (hSd.out.put hBq (by decide) hG4.out); clear hBq hG4) | fail)
    have hwq : IntKind.i64.wrap ((ns : Int) - (q : Int)) = ((ns - q : Nat) : Int) := by rw [IntWalk.i64_in _ (by omega)]; omega
    have hnq : ns - q ≤ ns := Nat.sub_le _ _
    have hnq2 : ns - (ns - q) = q := by omega
    go_upto_region 22 with (first | go_skip | (refine wpList_storeM 0 HM rfl _ _ _ rfl _ 6 rfl rfl _ (by conv => {lhs; whnf}) (by exact zslS) (by rfl) (Nat.le_of_ble_eq_true (by rfl)) (msgA ⟨2, false, e.number, 0, (q : Int), [], SN.drop (ns - q)⟩ ⟨none, 0, 0, some ⟨gs, (ns - q) * 2, none⟩, q, cs - (ns - q)⟩) (by rfl) ?_; have hBq := HM.out.at_ 0 rfl; clear HM; intro w4 HM hG4; simp only [List.set] at HM; replace hSd := Lib.hid (hSd.out.put hBq (by decide) hG4.out); clear hBq hG4) | fail)
    have hSt := hSd.out.drop hnq
    rw [Nat.zero_add, hnq2] at hSt
    replace hSt := Lib.hid hSt
    have hcq : q ≤ cs - (ns - q) := by omega
    clear hSd hwq
    have hMs : Hid (MsgSub _ ⟨none, 0, 0, some ⟨gs, (ns - q) * 2, none⟩, q, cs - (ns - q)⟩ ⟨2, false, e.number, 0, (q : Int), [], SN.drop (ns - q)⟩) := ⟨SubS.nil _, hSt.out, Nat.le_refl _, hcq⟩
    have hAM : Hid (AM = (⟨2, false, e.number, 0, (q : Int), [], SN.drop (ns - q)⟩ : Msg)) := by show _ = _; rw [hMd.out]; simp [hsn.out]
    have hA0 := Lib.hid hA.out
    clear hA hPb hsl hcd hMd
    obtain ⟨F0, hFs, hF, gM⟩ : ∃ F : World → Prop, Stb F ∧ Hid (F _) ∧ Hid (∀ W, F W → MsgSub W ⟨none, 0, 0, some ⟨gs, (ns - q) * 2, none⟩, q, cs - (ns - q)⟩ ⟨2, false, e.number, 0, (q : Int), [], SN.drop (ns - q)⟩) := ⟨_, Stb.sub _ _, hMs, fun _ h => h⟩
    clear hMs
    have mk1 : Unit := ()
    have mk2 : Unit := ()
    go_upto_region 23 with (first | go_skip | (refine wpList_loadM 5 HM rfl _ _ rfl _ rfl rfl _ uE.out rfl (by exact zend) ?_) | (go_at_call 57; clear mk1; refine (cL.out _ HM.out.below hsm2.out).mono ?_; rintro r w3 ⟨v1, rfl, hE, hb_⟩; replace HM := Lib.hid (HM.out.keep hb_); replace hF := Lib.hid (hFs.keep hF.out hb_); clear hb_; obtain ⟨F2, hFs2, hF2, hU, hNw⟩ := stb_add hFs hF (Stb.ed v1 _) hE; clear hFs hF; replace gM := Lib.hid (fun W h => gM.out W (hU W h)); have gE := Lib.hid hNw; clear hNw hU; have hFs := hFs2; have hF := hF2; clear hFs2 hF2 hE) | (clear mk2; refine wpList_allocN HM rfl 27 rfl edInfo ?_; clear HM; intro g19 w1 HM hG hN9; replace hF := Lib.hid (hFs.keep hF.out hG.out); clear hG hN9) | (refine wpList_storeF 0 HM rfl _ _ _ rfl _ rfl rfl _ rfl (by exact zend) (by rfl) (by rfl) ?_; have hBq := HM.out.at_ 0 rfl; clear HM; intro w4 HM hG4; simp only [List.set] at HM; replace hF := Lib.hid (hFs.put hF.out hBq (by decide) (by decide) hG4.out); clear hBq hG4) | fail)
    have mk3 : Unit := ()
    go_upto_region 24 with (first | go_skip | (refine wpList_loadM 1 HM rfl _ _ rfl _ rfl rfl _ uM.out rfl (by exact zmsg) ?_) | (go_at_call 60; clear mk3; refine (cMs.out _ _ _ (gM.out _ hF.out).is ⟨by dsimp only; omega, by dsimp only; omega⟩).mono ?_; rintro r w3 ⟨va, rfl, hA5, hb_⟩; replace HM := Lib.hid (HM.out.keep hb_); replace hF := Lib.hid (hFs.keep hF.out hb_); clear hb_; obtain ⟨F3, hFs2, hF2, hU, hNw⟩ := stb_add hFs hF (Stb.msg va _) hA5; clear hFs hF; replace gM := Lib.hid (fun W h => gM.out W (hU W h)); replace gE := Lib.hid (fun W h => gE.out W (hU W h)); have gA := Lib.hid hNw; clear hNw hU; have hFs := hFs2; have hF := hF2; clear hFs2 hF2 hA5) | (refine wpList_storeM 0 HM rfl _ _ _ rfl _ 4 rfl rfl _ (by conv => {lhs; whnf}) (by exact zone_b) (by rfl) (Nat.le_of_ble_eq_true (by rfl)) (endA { e with opn := true } v1) (by rfl) ?_; have hBq := HM.out.at_ 0 rfl; clear HM; intro w4 HM hG4; simp only [List.set] at HM; replace hF := Lib.hid (hFs.put hF.out hBq (by decide) (by decide) hG4.out); clear hBq hG4) | (refine wpList_storeM 0 HM rfl _ _ _ rfl _ 5 rfl rfl _ (by conv => {lhs; whnf}) (by exact zone_i) (by rfl) (Nat.le_of_ble_eq_true (by rfl)) (endA { e with opn := true, since := slot } v1) (by rfl) ?_; have hBq := HM.out.at_ 0 rfl; clear HM; intro w4 HM hG4; simp only [List.set] at HM; replace hF := Lib.hid (hFs.put hF.out hBq (by decide) (by decide) hG4.out); clear hBq hG4) | (refine wpList_storeM 0 HM rfl _ _ _ rfl _ 6 rfl rfl _ (by conv => {lhs; whnf}) (by exact zmsg) (by rfl) (Nat.le_of_ble_eq_true (by rfl)) (endA (openE e ⟨2, false, e.number, 0, (q : Int), [], SN.drop (ns - q)⟩ slot) { v1 with a := va }) (by rfl) ?_; have hBq := HM.out.at_ 0 rfl; clear HM; intro w4 HM hG4; simp only [List.set] at HM; replace hF := Lib.hid (hFs.put hF.out hBq (by decide) (by decide) hG4.out); clear hBq hG4) | fail)
    replace hF := Lib.hid (hFs.keep hF.out ((Below.refl _ _).drew))
    replace HM := Lib.hid (HM.out.keep ((Below.refl _ _).drew))
    have HMs := Lib.hid HM.out
    refine wp_region_plan (fun w' => Mem _ w' _) 3 [(0, true), (1, true), (2, false)] (by kernel_rfl) (by kernel_rfl) HMs.out ?_
    generalize World.drew _ = wd at *
    refine plTakeL (by rfl) (yields_memw rfl _ _ rfl 0 (fun w_ hSw => hSw) rfl rfl _ uE.out rfl (by exact zend)) ?_
    try simp only [Act.put, List.setIfInBounds_toArray, List.set_cons_zero, List.set_cons_succ, List.getElem_toArray, List.getElem_cons_succ, List.getElem_cons_zero]
    refine plTakeL (by rfl) (yields_memw rfl _ _ rfl 1 (fun w_ hSw => hSw) rfl rfl _ uM.out rfl (by exact zmsg)) ?_
    try simp only [Act.put, List.setIfInBounds_toArray, List.set_cons_zero, List.set_cons_succ, List.getElem_toArray, List.getElem_cons_succ, List.getElem_cons_zero]
    refine plStepL rfl rfl fun K hK => ?_
    go_wp2_with (first | (go_at_call 60; refine (cMs.out _ _ _ (gM.out _ hF.out).is ⟨by dsimp only; omega, by dsimp only; omega⟩).mono ?_; rintro r w3 ⟨vb, rfl, hA5, hb_⟩) | fail)
    refine hK.out _ _ (HMs.out.keep hb_) fun hS_ => ?_
    clear hK K hS_
    try simp only [Act.put, List.setIfInBounds_toArray, List.set_cons_zero, List.set_cons_succ, List.getElem_toArray, List.getElem_cons_succ, List.getElem_cons_zero]
    replace HM := Lib.hid (HM.out.keep hb_)
    replace hF := Lib.hid (hFs.keep hF.out hb_)
    clear hb_ HMs
    obtain ⟨F5, hFs2, hF2, hU, hNw⟩ := stb_add hFs hF (Stb.msg vb _) hA5
    clear hFs hF
    replace gM := Lib.hid (fun W h => gM.out W (hU W h))
    replace gE := Lib.hid (fun W h => gE.out W (hU W h))
    replace gA := Lib.hid (fun W h => gA.out W (hU W h))
    have gB := Lib.hid hNw
    clear hNw hU
    have hFs := hFs2
    have hF := hF2
    clear hFs2 hF2 hA5
    refine plDone ?_
    simp only [List.drop]
    go_wp2_with (first | go_skip | (refine wpList_storeF 4 HM rfl _ _ _ rfl _ rfl rfl _ rfl (by exact zend) (by rfl) (by rfl) ?_; have hBq := HM.out.at_ 4 rfl; clear HM; intro w4 HM hG4; simp only [List.set] at HM; replace hF := Lib.hid (hFs.put hF.out hBq (by decide) (by decide) hG4.out); clear hBq hG4) | (refine wpList_storeF 3 HM rfl _ _ _ rfl _ rfl rfl _ rfl (by exact zmsg) (by rfl) (by rfl) ?_; have hBq := HM.out.at_ 3 rfl; clear HM; intro w4 HM hG4; simp only [List.set] at HM; replace hF := Lib.hid (hFs.put hF.out hBq (by decide) (by decide) hG4.out); clear hBq hG4) | fail)
    try simp only [Exit.inBlock, Exit.then]
    refine bodyPost_ret (results_cct rfl (HM.out.at_ 4 rfl) (HM.out.at_ 3 rfl) rfl rfl _ uE.out rfl (by exact zend) _ uM.out rfl (by exact zmsg)) rfl ?_
    exact hPo.out _ _ _ _ hA0.out hAM.out ⟨(gE.out _ hF.out).cells, (gE.out _ hF.out).lc, gA.out _ hF.out, (gE.out _ hF.out).last, (gE.out _ hF.out).reply⟩ (gB.out _ hF.out).sub HM.out.below
  · skip
    have hcn : countsN 3 count = (decide (1 ≤ count) && decide (count ≤ 8)) := by unfold countsN; rw [if_pos (by decide)]
    rw [hcn] at hA
    clear hcn
    by_cases hc1 : count < 1
    case pos =>
      have hA1 := Lib.hid (hA.out.trans (if_pos (.inr (.inr (.inr (.inr (by rw [decide_eq_false (by omega)]; rfl)))))))
      go_wp2_with (first | go_skip | (refine wpList_storeF 2 HM rfl _ _ _ rfl _ rfl rfl _ rfl (by exact zend) (by rfl) (by rfl) ?_; clear HM ; intro w4 HM hG4; simp only [List.set] at HM) | (refine wpList_storeF 1 HM rfl _ _ _ rfl _ rfl rfl _ rfl (by exact zmsg) (by rfl) (by rfl) ?_; clear HM ; intro w4 HM hG4; simp only [List.set] at HM) | fail)
      all_goals
        try simp only [Exit.inBlock, Exit.then]
        refine bodyPost_ret (results_cct rfl (HM.out.at_ 2 rfl) (HM.out.at_ 1 rfl) rfl rfl _ uE.out rfl (by exact zend) _ uM.out rfl (by exact zmsg)) rfl ?_
        exact hPb.out 2 _ (hA1.out) (by decide) HM.out.below
    by_cases hc8 : 8 < count
    case pos =>
      have hA1 := Lib.hid (hA.out.trans (if_pos (.inr (.inr (.inr (.inr (by rw [decide_eq_false (show ¬ count ≤ 8 by omega), Bool.and_false])))))))
      go_wp2_with (first | go_skip | (refine wpList_storeF 2 HM rfl _ _ _ rfl _ rfl rfl _ rfl (by exact zend) (by rfl) (by rfl) ?_; clear HM ; intro w4 HM hG4; simp only [List.set] at HM) | (refine wpList_storeF 1 HM rfl _ _ _ rfl _ rfl rfl _ rfl (by exact zmsg) (by rfl) (by rfl) ?_; clear HM ; intro w4 HM hG4; simp only [List.set] at HM) | fail)
      all_goals
        try simp only [Exit.inBlock, Exit.then]
        refine bodyPost_ret (results_cct rfl (HM.out.at_ 2 rfl) (HM.out.at_ 1 rfl) rfl rfl _ uE.out rfl (by exact zend) _ uM.out rfl (by exact zmsg)) rfl ?_
        exact hPb.out 2 _ (hA1.out) (by decide) HM.out.below
    replace hA := Lib.hid (hA.out.trans (if_neg (by
      rintro (h | h | h | h | h)
      · exact absurd h (by decide)
      · exact absurd h (by decide)
      · exact g2 h
      · exact g3 h
      · rw [decide_eq_true (by omega), decide_eq_true (by omega)] at h; cases h)))
    go_upto_region 8 with (first | go_skip | fail)
    have p4 : World.cell? _ ⟨ge, 4, none⟩ = some (.bool e.opn) := HM.out.cell 4 rfl 4
    cases ho : e.opn
    case true =>
      rw [ho] at p4
      have hA1 := Lib.hid (hA.out.trans (if_pos ho))
      go_wp2_with (first | go_skip | (refine wpList_storeF 2 HM rfl _ _ _ rfl _ rfl rfl _ rfl (by exact zend) (by rfl) (by rfl) ?_; clear HM ; intro w4 HM hG4; simp only [List.set] at HM) | (refine wpList_storeF 1 HM rfl _ _ _ rfl _ rfl rfl _ rfl (by exact zmsg) (by rfl) (by rfl) ?_; clear HM ; intro w4 HM hG4; simp only [List.set] at HM) | fail)
      all_goals
        try simp only [Exit.inBlock, Exit.then]
        refine bodyPost_ret (results_cct rfl (HM.out.at_ 2 rfl) (HM.out.at_ 1 rfl) rfl rfl _ uE.out rfl (by exact zend) _ uM.out rfl (by exact zmsg)) rfl ?_
        exact hPb.out 12 _ (hA1.out) (by decide) HM.out.below
    rw [ho] at p4
    replace hA := Lib.hid (hA.out.trans (if_neg (by rw [ho]; decide)))
    have p2 : World.cell? _ ⟨ge, 2, none⟩ = some (.int .i64 e.number) := HM.out.cell 4 rfl 2
    go_upto_region 11 with (first
      | (refine wpList_allocN HM rfl 25 rfl msgInfo ?_; clear HM p4 p2; intro g17 w1 HM hG hN9)
      | (refine wpList_storeF 0 HM rfl _ _ _ rfl _ rfl rfl _ rfl (by exact zmsg) (by rfl) (by rfl) ?_; clear HM ; intro w4 HM hG4; simp only [List.set] at HM)
      | fail)
    replace hTf := Lib.hid (hTf.out.keep (hG.out.grown hG4.out hG.out.size (fun k e => by cases e; exact hN9.out)))
    clear hG hG4 hN9
    change Hid (Mem _ _ ((_, msgA ⟨3, false, e.number, 0, count, [], []⟩ msgV0, _) :: _)) at HM
    go_upto_region 13 with (first
      | go_skip
      | (refine wpList_loadM 1 HM rfl _ _ rfl _ rfl rfl _ uT.out rfl (by exact ztab) ?_)
      | (go_at_call 98; refine (cC.out vf _ hTf.out HM.out.below).mono ?_; rintro r w5 ⟨Ac, nc, cc, rfl, hcl, hOc, hb_⟩; replace hcl := Lib.hid hcl; replace HM := Lib.hid (HM.out.keep hb_); clear hb_ hTf)
      | (refine wpList_storeM 0 HM rfl _ _ _ rfl _ 5 rfl rfl _ (by conv => {lhs; whnf}) (by exact zslS) (by rfl) (Nat.le_of_ble_eq_true (by rfl)) (msgA ⟨3, false, e.number, 0, count, CN, []⟩ ⟨Ac, nc, cc, none, 0, 0⟩) (by rfl) ?_; have hBq := HM.out.at_ 0 rfl; clear HM; intro w4 HM hG4; simp only [List.set] at HM; have hOd := Lib.hid (SubS.of_own (hOc.kept hG4.out (.inr (row_ne_blk hOc hBq (by decide))))); clear hBq hG4)
      | fail)
    have hcc := own_cap hOc
    clear hOc
    have hc8c : nc ≤ 8 := by have := hcd.out; have := hcl.out; omega
    have p5 : World.cell? _ ⟨g17, 5, none⟩ = some (.slice Ac nc cc) := HM.out.cell 0 rfl 5
    by_cases hlc : (nc : Int) < count
    case pos =>
      have hA1 := Lib.hid (hA.out.trans (if_pos ⟨by decide, by rw [hcl.out]; exact hlc⟩))
      go_wp2_with (first | go_skip | (refine wpList_storeF 3 HM rfl _ _ _ rfl _ rfl rfl _ rfl (by exact zend) (by rfl) (by rfl) ?_; clear HM ; intro w4 HM hG4; simp only [List.set] at HM) | (refine wpList_storeF 2 HM rfl _ _ _ rfl _ rfl rfl _ rfl (by exact zmsg) (by rfl) (by rfl) ?_; clear HM ; intro w4 HM hG4; simp only [List.set] at HM) | fail)
      all_goals
        try simp only [Exit.inBlock, Exit.then]
        refine bodyPost_ret (results_cct rfl (HM.out.at_ 3 rfl) (HM.out.at_ 2 rfl) rfl rfl _ uE.out rfl (by exact zend) _ uM.out rfl (by exact zmsg)) rfl ?_
        exact hPb.out 14 _ (hA1.out) (by decide) HM.out.below
    replace hA := Lib.hid (hA.out.trans (if_neg (fun h => hlc (by rw [← hcl.out]; exact h.2))))
    go_upto_region 15 with fail
    clear p5
    go_upto_region 16 with (first
      | (refine wpList_loadM 5 HM rfl _ _ rfl _ rfl rfl _ uE.out rfl (by exact zend) ?_)
      | (go_at_call 97; refine (cS.out _ HM.out.below hsm2.out.c).mono ?_; rintro r w5 ⟨As, ns, cs, rfl, hsn, hOs, hb_⟩; replace hsn := Lib.hid hsn; replace HM := Lib.hid (HM.out.keep hb_); replace hOd := Lib.hid (hOd.out.keep hb_); clear hb_)
      | fail)
    have hsc := own_cap hOs
    by_cases hlt : (ns : Int) < count
    case pos =>
      have hA1 := Lib.hid (hA.out.trans (if_pos ⟨by decide, by rw [hsn.out]; exact hlt⟩))
      go_wp2_with (first | go_skip | (refine wpList_storeF 3 HM rfl _ _ _ rfl _ rfl rfl _ rfl (by exact zend) (by rfl) (by rfl) ?_; clear HM ; intro w4 HM hG4; simp only [List.set] at HM) | (refine wpList_storeF 2 HM rfl _ _ _ rfl _ rfl rfl _ rfl (by exact zmsg) (by rfl) (by rfl) ?_; clear HM ; intro w4 HM hG4; simp only [List.set] at HM) | fail)
      all_goals
        try simp only [Exit.inBlock, Exit.then]
        refine bodyPost_ret (results_cct rfl (HM.out.at_ 3 rfl) (HM.out.at_ 2 rfl) rfl rfl _ uE.out rfl (by exact zend) _ uM.out rfl (by exact zmsg)) rfl ?_
        exact hPb.out 14 _ (hA1.out) (by decide) HM.out.below
    replace hA := Lib.hid (hA.out.trans (if_neg (fun h => hlt (by rw [← hsn.out]; exact h.2))))
    obtain ⟨q, rfl⟩ : ∃ q : Nat, count = q := ⟨count.toNat, by omega⟩
    have hqs : q ≤ ns := by omega
    have hqc : q ≤ cs := by omega
    obtain ⟨gs, rfl⟩ := own_addr hOs (by omega)
    have hSd := Lib.hid (SubS.of_own hOs)
    clear hOs
    have hns : ns ≤ 100000 := by have := hsl.out; have := hsn.out; have := hsm2.out.c; omega
    go_upto_region 20 with (first | go_skip | (refine wpList_storeM 0 HM rfl _ _ _ rfl _ 6 rfl rfl _ (by conv => {lhs; whnf}) (by exact zslS) (by rfl) (Nat.le_of_ble_eq_true (by rfl)) (msgA ⟨3, false, e.number, 0, (q : Int), CN, SN.take q⟩ ⟨Ac, nc, cc, some ⟨gs, 0, none⟩, q, cs⟩) (by rfl) ?_; have hBq := HM.out.at_ 0 rfl; clear HM; intro w4 HM hG4; simp only [List.set] at HM; replace hSd := Lib.hid (hSd.out.put hBq (by decide) hG4.out); replace hOd := Lib.hid (hOd.out.put hBq (by decide) hG4.out); clear hBq hG4) | fail)
    go_upto_region 22 with (first | go_skip | fail)
    have hSt := Lib.hid (hSd.out.take hqs)
    clear hSd
    have hMs : Hid (MsgSub _ ⟨Ac, nc, cc, some ⟨gs, 0, none⟩, q, cs⟩ ⟨3, false, e.number, 0, (q : Int), CN, SN.take q⟩) := ⟨hOd.out, hSt.out, hcc, hqc⟩
    have hAM : Hid (AM = (⟨3, false, e.number, 0, (q : Int), CN, SN.take q⟩ : Msg)) := by show _ = _; rw [hMd.out]; simp [hsn.out]
    have hA0 := Lib.hid hA.out
    clear hA hPb hsl hcd hMd
    obtain ⟨F0, hFs, hF, gM⟩ : ∃ F : World → Prop, Stb F ∧ Hid (F _) ∧ Hid (∀ W, F W → MsgSub W ⟨Ac, nc, cc, some ⟨gs, 0, none⟩, q, cs⟩ ⟨3, false, e.number, 0, (q : Int), CN, SN.take q⟩) := ⟨_, Stb.sub _ _, hMs, fun _ h => h⟩
    clear hMs
    have mk1 : Unit := ()
    have mk2 : Unit := ()
    go_upto_region 23 with (first | go_skip | (refine wpList_loadM 5 HM rfl _ _ rfl _ rfl rfl _ uE.out rfl (by exact zend) ?_) | (go_at_call 57; clear mk1; refine (cL.out _ HM.out.below hsm2.out).mono ?_; rintro r w3 ⟨v1, rfl, hE, hb_⟩; replace HM := Lib.hid (HM.out.keep hb_); replace hF := Lib.hid (hFs.keep hF.out hb_); clear hb_; obtain ⟨F2, hFs2, hF2, hU, hNw⟩ := stb_add hFs hF (Stb.ed v1 _) hE; clear hFs hF; replace gM := Lib.hid (fun W h => gM.out W (hU W h)); have gE := Lib.hid hNw; clear hNw hU; have hFs := hFs2; have hF := hF2; clear hFs2 hF2 hE) | (clear mk2; refine wpList_allocN HM rfl 27 rfl edInfo ?_; clear HM; intro g19 w1 HM hG hN9; replace hF := Lib.hid (hFs.keep hF.out hG.out); clear hG hN9) | (refine wpList_storeF 0 HM rfl _ _ _ rfl _ rfl rfl _ rfl (by exact zend) (by rfl) (by rfl) ?_; have hBq := HM.out.at_ 0 rfl; clear HM; intro w4 HM hG4; simp only [List.set] at HM; replace hF := Lib.hid (hFs.put hF.out hBq (by decide) (by decide) hG4.out); clear hBq hG4) | fail)
    have mk3 : Unit := ()
    go_upto_region 24 with (first | go_skip | (refine wpList_loadM 1 HM rfl _ _ rfl _ rfl rfl _ uM.out rfl (by exact zmsg) ?_) | (go_at_call 60; clear mk3; refine (cMs.out _ _ _ (gM.out _ hF.out).is ⟨by dsimp only; omega, by dsimp only; omega⟩).mono ?_; rintro r w3 ⟨va, rfl, hA5, hb_⟩; replace HM := Lib.hid (HM.out.keep hb_); replace hF := Lib.hid (hFs.keep hF.out hb_); clear hb_; obtain ⟨F3, hFs2, hF2, hU, hNw⟩ := stb_add hFs hF (Stb.msg va _) hA5; clear hFs hF; replace gM := Lib.hid (fun W h => gM.out W (hU W h)); replace gE := Lib.hid (fun W h => gE.out W (hU W h)); have gA := Lib.hid hNw; clear hNw hU; have hFs := hFs2; have hF := hF2; clear hFs2 hF2 hA5) | (refine wpList_storeM 0 HM rfl _ _ _ rfl _ 4 rfl rfl _ (by conv => {lhs; whnf}) (by exact zone_b) (by rfl) (Nat.le_of_ble_eq_true (by rfl)) (endA { e with opn := true } v1) (by rfl) ?_; have hBq := HM.out.at_ 0 rfl; clear HM; intro w4 HM hG4; simp only [List.set] at HM; replace hF := Lib.hid (hFs.put hF.out hBq (by decide) (by decide) hG4.out); clear hBq hG4) | (refine wpList_storeM 0 HM rfl _ _ _ rfl _ 5 rfl rfl _ (by conv => {lhs; whnf}) (by exact zone_i) (by rfl) (Nat.le_of_ble_eq_true (by rfl)) (endA { e with opn := true, since := slot } v1) (by rfl) ?_; have hBq := HM.out.at_ 0 rfl; clear HM; intro w4 HM hG4; simp only [List.set] at HM; replace hF := Lib.hid (hFs.put hF.out hBq (by decide) (by decide) hG4.out); clear hBq hG4) | (refine wpList_storeM 0 HM rfl _ _ _ rfl _ 6 rfl rfl _ (by conv => {lhs; whnf}) (by exact zmsg) (by rfl) (Nat.le_of_ble_eq_true (by rfl)) (endA (openE e ⟨3, false, e.number, 0, (q : Int), CN, SN.take q⟩ slot) { v1 with a := va }) (by rfl) ?_; have hBq := HM.out.at_ 0 rfl; clear HM; intro w4 HM hG4; simp only [List.set] at HM; replace hF := Lib.hid (hFs.put hF.out hBq (by decide) (by decide) hG4.out); clear hBq hG4) | fail)
    replace hF := Lib.hid (hFs.keep hF.out ((Below.refl _ _).drew))
    replace HM := Lib.hid (HM.out.keep ((Below.refl _ _).drew))
    have HMs := Lib.hid HM.out
    refine wp_region_plan (fun w' => Mem _ w' _) 3 [(0, true), (1, true), (2, false)] (by kernel_rfl) (by kernel_rfl) HMs.out ?_
    generalize World.drew _ = wd at *
    refine plTakeL (by rfl) (yields_memw rfl _ _ rfl 0 (fun w_ hSw => hSw) rfl rfl _ uE.out rfl (by exact zend)) ?_
    try simp only [Act.put, List.setIfInBounds_toArray, List.set_cons_zero, List.set_cons_succ, List.getElem_toArray, List.getElem_cons_succ, List.getElem_cons_zero]
    refine plTakeL (by rfl) (yields_memw rfl _ _ rfl 1 (fun w_ hSw => hSw) rfl rfl _ uM.out rfl (by exact zmsg)) ?_
    try simp only [Act.put, List.setIfInBounds_toArray, List.set_cons_zero, List.set_cons_succ, List.getElem_toArray, List.getElem_cons_succ, List.getElem_cons_zero]
    refine plStepL rfl rfl fun K hK => ?_
    go_wp2_with (first | (go_at_call 60; refine (cMs.out _ _ _ (gM.out _ hF.out).is ⟨by dsimp only; omega, by dsimp only; omega⟩).mono ?_; rintro r w3 ⟨vb, rfl, hA5, hb_⟩) | fail)
    refine hK.out _ _ (HMs.out.keep hb_) fun hS_ => ?_
    clear hK K hS_
    try simp only [Act.put, List.setIfInBounds_toArray, List.set_cons_zero, List.set_cons_succ, List.getElem_toArray, List.getElem_cons_succ, List.getElem_cons_zero]
    replace HM := Lib.hid (HM.out.keep hb_)
    replace hF := Lib.hid (hFs.keep hF.out hb_)
    clear hb_ HMs
    obtain ⟨F5, hFs2, hF2, hU, hNw⟩ := stb_add hFs hF (Stb.msg vb _) hA5
    clear hFs hF
    replace gM := Lib.hid (fun W h => gM.out W (hU W h))
    replace gE := Lib.hid (fun W h => gE.out W (hU W h))
    replace gA := Lib.hid (fun W h => gA.out W (hU W h))
    have gB := Lib.hid hNw
    clear hNw hU
    have hFs := hFs2
    have hF := hF2
    clear hFs2 hF2 hA5
    refine plDone ?_
    simp only [List.drop]
    go_wp2_with (first | go_skip | (refine wpList_storeF 4 HM rfl _ _ _ rfl _ rfl rfl _ rfl (by exact zend) (by rfl) (by rfl) ?_; have hBq := HM.out.at_ 4 rfl; clear HM; intro w4 HM hG4; simp only [List.set] at HM; replace hF := Lib.hid (hFs.put hF.out hBq (by decide) (by decide) hG4.out); clear hBq hG4) | (refine wpList_storeF 3 HM rfl _ _ _ rfl _ rfl rfl _ rfl (by exact zmsg) (by rfl) (by rfl) ?_; have hBq := HM.out.at_ 3 rfl; clear HM; intro w4 HM hG4; simp only [List.set] at HM; replace hF := Lib.hid (hFs.put hF.out hBq (by decide) (by decide) hG4.out); clear hBq hG4) | fail)
    try simp only [Exit.inBlock, Exit.then]
    refine bodyPost_ret (results_cct rfl (HM.out.at_ 4 rfl) (HM.out.at_ 3 rfl) rfl rfl _ uE.out rfl (by exact zend) _ uM.out rfl (by exact zmsg)) rfl ?_
    exact hPo.out _ _ _ _ hA0.out hAM.out ⟨(gE.out _ hF.out).cells, (gE.out _ hF.out).lc, gA.out _ hF.out, (gE.out _ hF.out).last, (gE.out _ hF.out).reply⟩ (gB.out _ hF.out).sub HM.out.below
  · skip
    have hcn : countsN kind count = decide (count = 0) := by unfold countsN; rw [if_neg (by omega)]
    rw [hcn] at hA
    clear hcn
    by_cases hc0 : count = 0
    case neg =>
      have hA1 := Lib.hid (hA.out.trans (if_pos (.inr (.inr (.inr (.inr (decide_eq_false hc0)))))))
      have d1 : (count != 0) = true := by rw [bne_iff_ne]; exact hc0
      have d2 : decide (kind ≤ 3) = false := decide_eq_false (by omega)
      go_wp2_with (first | go_skip | (refine wpList_storeF 2 HM rfl _ _ _ rfl _ rfl rfl _ rfl (by exact zend) (by rfl) (by rfl) ?_; clear HM ; intro w4 HM hG4; simp only [List.set] at HM) | (refine wpList_storeF 1 HM rfl _ _ _ rfl _ rfl rfl _ rfl (by exact zmsg) (by rfl) (by rfl) ?_; clear HM ; intro w4 HM hG4; simp only [List.set] at HM) | fail)
      all_goals
        try simp only [Exit.inBlock, Exit.then]
        refine bodyPost_ret (results_cct rfl (HM.out.at_ 2 rfl) (HM.out.at_ 1 rfl) rfl rfl _ uE.out rfl (by exact zend) _ uM.out rfl (by exact zmsg)) rfl ?_
        exact hPb.out 2 _ (hA1.out) (by decide) HM.out.below
    subst hc0
    replace hA := Lib.hid (hA.out.trans (if_neg (by rintro (h | h | h | h | h) <;> first | exact absurd h (by assumption) | exact absurd h (by decide))))
    have d2 : decide (kind ≤ 3) = false := decide_eq_false (by omega)
    have e1 : (kind == 1) = false := by rw [beq_eq_false_iff_ne]; omega
    have e2 : (kind == 2) = false := by rw [beq_eq_false_iff_ne]; omega
    have e3 : (kind == 3) = false := by rw [beq_eq_false_iff_ne]; omega
    go_upto_region 8 with (first | go_skip | fail)
    have p4 : World.cell? _ ⟨ge, 4, none⟩ = some (.bool e.opn) := HM.out.cell 4 rfl 4
    cases ho : e.opn
    case true =>
      rw [ho] at p4
      have hA1 := Lib.hid (hA.out.trans (if_pos ho))
      go_wp2_with (first | go_skip | (refine wpList_storeF 2 HM rfl _ _ _ rfl _ rfl rfl _ rfl (by exact zend) (by rfl) (by rfl) ?_; clear HM ; intro w4 HM hG4; simp only [List.set] at HM) | (refine wpList_storeF 1 HM rfl _ _ _ rfl _ rfl rfl _ rfl (by exact zmsg) (by rfl) (by rfl) ?_; clear HM ; intro w4 HM hG4; simp only [List.set] at HM) | fail)
      all_goals
        try simp only [Exit.inBlock, Exit.then]
        refine bodyPost_ret (results_cct rfl (HM.out.at_ 2 rfl) (HM.out.at_ 1 rfl) rfl rfl _ uE.out rfl (by exact zend) _ uM.out rfl (by exact zmsg)) rfl ?_
        exact hPb.out 12 _ (hA1.out) (by decide) HM.out.below
    rw [ho] at p4
    replace hA := Lib.hid (hA.out.trans (if_neg (by rw [ho]; decide)))
    have p2 : World.cell? _ ⟨ge, 2, none⟩ = some (.int .i64 e.number) := HM.out.cell 4 rfl 2
    go_upto_region 11 with (first
      | (refine wpList_allocN HM rfl 25 rfl msgInfo ?_; clear HM p4 p2; intro g17 w1 HM hG hN9)
      | (refine wpList_storeF 0 HM rfl _ _ _ rfl _ rfl rfl _ rfl (by exact zmsg) (by rfl) (by rfl) ?_; clear HM ; intro w4 HM hG4; simp only [List.set] at HM)
      | fail)
    replace hTf := Lib.hid (hTf.out.keep (hG.out.grown hG4.out hG.out.size (fun k e => by cases e; exact hN9.out)))
    clear hG hG4 hN9
    change Hid (Mem _ _ ((_, msgA ⟨kind, false, e.number, 0, 0, [], []⟩ msgV0, _) :: _)) at HM
    replace hA := Lib.hid (hA.out.trans (if_neg (by rintro ⟨h | h, _⟩ <;> first | exact absurd h (by decide) | omega)))
    clear hTf
    go_upto_region 15 with (first | go_skip | fail)
    go_upto_region 16 with (first
      | (refine wpList_loadM 5 HM rfl _ _ rfl _ rfl rfl _ uE.out rfl (by exact zend) ?_)
      | (go_at_call 97; refine (cS.out _ HM.out.below hsm2.out.c).mono ?_; rintro r w5 ⟨As, ns, cs, rfl, hsn, hOs, hb_⟩; replace hsn := Lib.hid hsn; replace HM := Lib.hid (HM.out.keep hb_); clear hb_)
      | fail)
    clear hOs
    replace hA := Lib.hid (hA.out.trans (if_neg (by rintro ⟨h | h, _⟩ <;> first | exact absurd h (by decide) | omega)))
    go_upto_region 22 with (first | go_skip | fail)
    have hMs : Hid (MsgSub w5 ⟨none, 0, 0, none, 0, 0⟩ ⟨kind, false, e.number, 0, 0, [], []⟩) := ⟨SubS.nil _, SubS.nil _, Nat.le_refl _, Nat.le_refl _⟩
    have hAM : Hid (AM = (⟨kind, false, e.number, 0, 0, [], []⟩ : Msg)) := by show _ = _; rw [hMd.out, if_neg (by omega), if_neg (by omega), if_neg (by omega)]
    have hA0 := Lib.hid hA.out
    clear hA hPb hsl hcd hMd
    obtain ⟨F0, hFs, hF, gM⟩ : ∃ F : World → Prop, Stb F ∧ Hid (F _) ∧ Hid (∀ W, F W → MsgSub W ⟨none, 0, 0, none, 0, 0⟩ ⟨kind, false, e.number, 0, 0, [], []⟩) := ⟨_, Stb.sub _ _, hMs, fun _ h => h⟩
    clear hMs
    have mk1 : Unit := ()
    have mk2 : Unit := ()
    go_upto_region 23 with (first | go_skip | (refine wpList_loadM 5 HM rfl _ _ rfl _ rfl rfl _ uE.out rfl (by exact zend) ?_) | (go_at_call 57; clear mk1; refine (cL.out _ HM.out.below hsm2.out).mono ?_; rintro r w3 ⟨v1, rfl, hE, hb_⟩; replace HM := Lib.hid (HM.out.keep hb_); replace hF := Lib.hid (hFs.keep hF.out hb_); clear hb_; obtain ⟨F2, hFs2, hF2, hU, hNw⟩ := stb_add hFs hF (Stb.ed v1 _) hE; clear hFs hF; replace gM := Lib.hid (fun W h => gM.out W (hU W h)); have gE := Lib.hid hNw; clear hNw hU; have hFs := hFs2; have hF := hF2; clear hFs2 hF2 hE) | (clear mk2; refine wpList_allocN HM rfl 27 rfl edInfo ?_; clear HM; intro g19 w1 HM hG hN9; replace hF := Lib.hid (hFs.keep hF.out hG.out); clear hG hN9) | (refine wpList_storeF 0 HM rfl _ _ _ rfl _ rfl rfl _ rfl (by exact zend) (by rfl) (by rfl) ?_; have hBq := HM.out.at_ 0 rfl; clear HM; intro w4 HM hG4; simp only [List.set] at HM; replace hF := Lib.hid (hFs.put hF.out hBq (by decide) (by decide) hG4.out); clear hBq hG4) | fail)
    have mk3 : Unit := ()
    go_upto_region 24 with (first | go_skip | (refine wpList_loadM 1 HM rfl _ _ rfl _ rfl rfl _ uM.out rfl (by exact zmsg) ?_) | (go_at_call 60; clear mk3; refine (cMs.out _ _ _ (gM.out _ hF.out).is ⟨by dsimp only; omega, by dsimp only; omega⟩).mono ?_; rintro r w3 ⟨va, rfl, hA5, hb_⟩; replace HM := Lib.hid (HM.out.keep hb_); replace hF := Lib.hid (hFs.keep hF.out hb_); clear hb_; obtain ⟨F3, hFs2, hF2, hU, hNw⟩ := stb_add hFs hF (Stb.msg va _) hA5; clear hFs hF; replace gM := Lib.hid (fun W h => gM.out W (hU W h)); replace gE := Lib.hid (fun W h => gE.out W (hU W h)); have gA := Lib.hid hNw; clear hNw hU; have hFs := hFs2; have hF := hF2; clear hFs2 hF2 hA5) | (refine wpList_storeM 0 HM rfl _ _ _ rfl _ 4 rfl rfl _ (by conv => {lhs; whnf}) (by exact zone_b) (by rfl) (Nat.le_of_ble_eq_true (by rfl)) (endA { e with opn := true } v1) (by rfl) ?_; have hBq := HM.out.at_ 0 rfl; clear HM; intro w4 HM hG4; simp only [List.set] at HM; replace hF := Lib.hid (hFs.put hF.out hBq (by decide) (by decide) hG4.out); clear hBq hG4) | (refine wpList_storeM 0 HM rfl _ _ _ rfl _ 5 rfl rfl _ (by conv => {lhs; whnf}) (by exact zone_i) (by rfl) (Nat.le_of_ble_eq_true (by rfl)) (endA { e with opn := true, since := slot } v1) (by rfl) ?_; have hBq := HM.out.at_ 0 rfl; clear HM; intro w4 HM hG4; simp only [List.set] at HM; replace hF := Lib.hid (hFs.put hF.out hBq (by decide) (by decide) hG4.out); clear hBq hG4) | (refine wpList_storeM 0 HM rfl _ _ _ rfl _ 6 rfl rfl _ (by conv => {lhs; whnf}) (by exact zmsg) (by rfl) (Nat.le_of_ble_eq_true (by rfl)) (endA (openE e ⟨kind, false, e.number, 0, 0, [], []⟩ slot) { v1 with a := va }) (by rfl) ?_; have hBq := HM.out.at_ 0 rfl; clear HM; intro w4 HM hG4; simp only [List.set] at HM; replace hF := Lib.hid (hFs.put hF.out hBq (by decide) (by decide) hG4.out); clear hBq hG4) | fail)
    replace hF := Lib.hid (hFs.keep hF.out ((Below.refl _ _).drew))
    replace HM := Lib.hid (HM.out.keep ((Below.refl _ _).drew))
    have HMs := Lib.hid HM.out
    refine wp_region_plan (fun w' => Mem _ w' _) 3 [(0, true), (1, true), (2, false)] (by kernel_rfl) (by kernel_rfl) HMs.out ?_
    generalize World.drew _ = wd at *
    refine plTakeL (by rfl) (yields_memw rfl _ _ rfl 0 (fun w_ hSw => hSw) rfl rfl _ uE.out rfl (by exact zend)) ?_
    try simp only [Act.put, List.setIfInBounds_toArray, List.set_cons_zero, List.set_cons_succ, List.getElem_toArray, List.getElem_cons_succ, List.getElem_cons_zero]
    refine plTakeL (by rfl) (yields_memw rfl _ _ rfl 1 (fun w_ hSw => hSw) rfl rfl _ uM.out rfl (by exact zmsg)) ?_
    try simp only [Act.put, List.setIfInBounds_toArray, List.set_cons_zero, List.set_cons_succ, List.getElem_toArray, List.getElem_cons_succ, List.getElem_cons_zero]
    refine plStepL rfl rfl fun K hK => ?_
    go_wp2_with (first | (go_at_call 60; refine (cMs.out _ _ _ (gM.out _ hF.out).is ⟨by dsimp only; omega, by dsimp only; omega⟩).mono ?_; rintro r w3 ⟨vb, rfl, hA5, hb_⟩) | fail)
    refine hK.out _ _ (HMs.out.keep hb_) fun hS_ => ?_
    clear hK K hS_
    try simp only [Act.put, List.setIfInBounds_toArray, List.set_cons_zero, List.set_cons_succ, List.getElem_toArray, List.getElem_cons_succ, List.getElem_cons_zero]
    replace HM := Lib.hid (HM.out.keep hb_)
    replace hF := Lib.hid (hFs.keep hF.out hb_)
    clear hb_ HMs
    obtain ⟨F5, hFs2, hF2, hU, hNw⟩ := stb_add hFs hF (Stb.msg vb _) hA5
    clear hFs hF
    replace gM := Lib.hid (fun W h => gM.out W (hU W h))
    replace gE := Lib.hid (fun W h => gE.out W (hU W h))
    replace gA := Lib.hid (fun W h => gA.out W (hU W h))
    have gB := Lib.hid hNw
    clear hNw hU
    have hFs := hFs2
    have hF := hF2
    clear hFs2 hF2 hA5
    refine plDone ?_
    simp only [List.drop]
    go_wp2_with (first | go_skip | (refine wpList_storeF 4 HM rfl _ _ _ rfl _ rfl rfl _ rfl (by exact zend) (by rfl) (by rfl) ?_; have hBq := HM.out.at_ 4 rfl; clear HM; intro w4 HM hG4; simp only [List.set] at HM; replace hF := Lib.hid (hFs.put hF.out hBq (by decide) (by decide) hG4.out); clear hBq hG4) | (refine wpList_storeF 3 HM rfl _ _ _ rfl _ rfl rfl _ rfl (by exact zmsg) (by rfl) (by rfl) ?_; have hBq := HM.out.at_ 3 rfl; clear HM; intro w4 HM hG4; simp only [List.set] at HM; replace hF := Lib.hid (hFs.put hF.out hBq (by decide) (by decide) hG4.out); clear hBq hG4) | fail)
    try simp only [Exit.inBlock, Exit.then]
    refine bodyPost_ret (results_cct rfl (HM.out.at_ 4 rfl) (HM.out.at_ 3 rfl) rfl rfl _ uE.out rfl (by exact zend) _ uM.out rfl (by exact zmsg)) rfl ?_
    exact hPo.out _ _ _ _ hA0.out hAM.out ⟨(gE.out _ hF.out).cells, (gE.out _ hF.out).lc, gA.out _ hF.out, (gE.out _ hF.out).last, (gE.out _ hF.out).reply⟩ (gB.out _ hF.out).sub HM.out.below
end Tx
end Go.Proofs.YtkfipbelhlcddaaGreat
namespace Go.Proofs.YtkfipbelhlcddaaGreat
open Go Go.RowKit Go.Sort Go.Shelf Go.Maps
namespace Tx
open Sw Mm Pl
theorem Stb.subS (A : Option Addr) (n : Nat) (xs : List Spt) : Stb (fun W => SubS W A n xs) := ⟨fun x hb => x.keep hb, fun x hB h1 _ hg => x.put hB h1 hg⟩
theorem sends_has (e : Ed) (s : Spt) : decide (s ∈ sendsN e) = hasN e s true := by
  rw [Bool.eq_iff_iff, decide_eq_true_iff, hasN_iff]
  unfold sendsN
  rw [List.mem_map]
  constructor
  · rintro ⟨c, hc, rfl⟩
    rw [List.mem_filter] at hc
    exact ⟨c, hc.1, rfl, hc.2⟩
  · rintro ⟨c, hc, rfl, h2⟩
    exact ⟨c, List.mem_filter.2 ⟨hc, h2⟩, rfl⟩
set_option maxRecDepth 100000 in
set_option maxHeartbeats 16000000 in
theorem rmove_any (e : Ed) (t : Tab) (v : EdV) (vt : TabV) (A B : Option Addr) (nf cf n2 c2 : Nat) (f : List Int) (old : List Spt) (slot : Int) (w : World) (h : EdIs w v e) (ht : TabIs w vt t) (hf : IntS w A nf f) (ho : SptS w B n2 old) (hoc : n2 ≤ c2) : Calls Tryz.prog 38 #[.agg (endA e v), .agg (tabA t vt), .slice A nf cf, .slice B n2 c2, .int .i64 slot] w (TriOwn (movE e t f old slot) (movN e t f old slot) (movC e t f old slot) w) := by
  have HM := Lib.hid (Mem.start w)
  have cF := fun W (hb : Below w.heap.size w W) => rfull_any t e vt v W (ht.keep hb) (h.keep hb)
  unfold FullPost at cF
  have cC : ∀ vu W, TabIs W vu (fullN t e) → Below w.heap.size w W → Calls Tryz.prog 98 #[.agg (tabA (fullN t e) vu), .slice A nf cf, .int .i64 8] W fun r w' => ∃ A m c, r = .returned (.slice A m c) ∧ (candN (fullN t e) f 8).length = m ∧ w'.ownsRow W.heap.size 78 2 (.slice A m c) m ((candN (fullN t e) f 8).flatMap sptE) ∧ Below W.heap.size W w' := fun vu W hu hb => rcand_any (fullN t e) vu A nf cf 8 f W hu (hf.keep hb) (by decide)
  have cS : ∀ W, Below w.heap.size w W → v.cn ≤ 100000 → Calls Tryz.prog 97 #[.agg (endA e v)] W fun r w' => ∃ A n c, r = .returned (.slice A n c) ∧ (sendsN e).length = n ∧ w'.ownsRow W.heap.size 78 2 (.slice A n c) n ((sendsN e).flatMap sptE) ∧ Below W.heap.size W w' := fun W hb hn => rsends_any e v W (h.keep hb) hn
  have cH : ∀ A1 n1 c1 s W, SptS W A1 n1 (sendsN e) → Calls Tryz.prog 96 #[.slice A1 n1 c1, .agg (sptA s)] W fun r w' => r = .returned (.bool (hasN e s true)) ∧ Below W.heap.size W w' := fun A1 n1 c1 s W hs => by rw [← sends_has]; exact rhas_any A1 n1 c1 (sendsN e) s W hs
  have cL := fun W (hb : Below w.heap.size w W) (hs : Small v) => rcopied_any e v W (h.keep hb) hs
  unfold ClonePostE at cL
  have cMs := fun m vm W (hm : MsgIs W vm m) (hs : vm.sn ≤ 100000 ∧ vm.on ≤ 100000) => rmessage_any m vm W hm hs
  unfold MsgPost at cMs
  have hsm : fullC t e = 0 → Small v := fun hF => small_of h ((chkE_iff e).2 ((fullC_iff t e).1 hF).ed)
  have hA : movC e t f old slot = if fullC t e ≠ 0 then fullC t e
      else if slot < 0 ∨ 1099511627776 < slot ∨ old.length < 1 ∨ 8 < old.length then 2
      else if e.opn = true then 12
      else if (old.all fun s => hasN e s true) = false then 7
      else if ascN old = false then 5
      else if (candN (fullN t e) f 8).length < old.length then 14 else 0 := rfl
  have hMd : movM e t f old = ⟨3, false, e.number, 0, old.length, candN (fullN t e) f 8, old⟩ := rfl
  have hol := ho.len
  rw [hol] at hA hMd
  have hPb : ∀ c w', movC e t f old slot = c → c ≠ 0 → Below w.heap.size w w' → TriOwn (movE e t f old slot) (movN e t f old slot) (movC e t f old slot) w (.returned (.tuple #[.agg #[.int .i64 0, .int .i64 0, .int .i64 0, .slice none 0 0, .bool false, .int .i64 0, .int .i64 0, .bool false, .int .i64 0, .int .i64 0, .int .i64 0, .slice none 0 0, .slice none 0 0, .bool false, .int .i64 0, .bool false, .int .i64 0, .int .i64 0, .int .i64 0, .slice none 0 0, .slice none 0 0, .int .i64 0, .bool false, .int .i64 0, .int .i64 0, .int .i64 0, .slice none 0 0, .slice none 0 0], .agg #[.int .i64 0, .bool false, .int .i64 0, .int .i64 0, .int .i64 0, .slice none 0 0, .slice none 0 0], .int .i64 c])) w' := fun c w' e1 e2 hb => triOwn_bad (movE_bad (by rw [e1]; exact e2)).1 (movE_bad (by rw [e1]; exact e2)).2 e1 hb
  have hPo : ∀ w' m ve vm, movC e t f old slot = 0 → movM e t f old = m → EdOwn w' ve (openE e m slot) → MsgSub w' vm m → Below w.heap.size w w' → TriOwn (movE e t f old slot) (movN e t f old slot) (movC e t f old slot) w (.returned (.tuple #[.agg (endA (openE e m slot) ve), .agg (msgA m vm), .int .i64 0])) w' := fun w' m ve vm e1 e2 hE hM hb => by
    obtain ⟨e3, e4⟩ := mov_ok e1
    rw [e1, e3, e4, e2]
    exact ⟨ve, vm, rfl, hE, hM, hb⟩
  have hHit := fun k (hk : k < n2) (hh : hasN e (old.getD k default) true = false) => all_hit (p := fun s => hasN e s true) (l := old) (k := k) (by rw [hol]; exact hk) hh
  have hAll := fun (hh : ∀ k, k < n2 → hasN e (old.getD k default) true = true) => all_all (p := fun s => hasN e s true) (l := old) (fun k hk => hh k (by rw [← hol]; exact hk))
  have hasF := fun k (h0 : 0 < k) (hk : k < n2) (hh : ¬ (old.getD (k - 1) default).slot < (old.getD k default).slot) => ascN_false hol h0 hk hh
  have hasT := fun (hh : ∀ j, 0 < j → j < n2 → (old.getD (j - 1) default).slot < (old.getD j default).slot) => ascN_true hol hh
  generalize TriOwn (movE e t f old slot) (movN e t f old slot) (movC e t f old slot) w = P at *
  generalize movC e t f old slot = AC at *
  generalize movM e t f old = AM at *
  generalize fullC t e = F at *
  generalize (old.all fun s => hasN e s true) = OA at *
  generalize ascN old = OS at *
  have hcd : (candN (fullN t e) f 8).length ≤ 8 := by unfold candN; split; exact List.length_take_le _ _; simp
  generalize fullN t e = FU at *
  generalize hCNe : candN FU f 8 = CN at *
  replace hCNe := Lib.hid hCNe
  generalize hSNe : sendsN e = SN at *
  replace hSNe := Lib.hid hSNe
  have uE := Tryz.underlying27
  have uT := Tryz.underlying29
  have uM := Tryz.underlying25
  have uS := Tryz.underlying78
  have hsm1 := ho.small
  unfold maxLen at hsm1
  replace cF := Lib.hid cF
  replace cC := Lib.hid cC
  replace cS := Lib.hid cS
  replace cH := Lib.hid cH
  replace cL := Lib.hid cL
  replace cMs := Lib.hid cMs
  replace hsm := Lib.hid hsm
  replace hA := Lib.hid hA
  replace hPb := Lib.hid hPb
  replace hPo := Lib.hid hPo
  replace hMd := Lib.hid hMd
  replace uE := Lib.hid uE
  replace uT := Lib.hid uT
  replace uM := Lib.hid uM
  replace uS := Lib.hid uS
  replace hcd := Lib.hid hcd
  replace hHit := Lib.hid hHit
  replace hAll := Lib.hid hAll
  replace hasF := Lib.hid hasF
  replace hasT := Lib.hid hasT
  replace ho := Lib.hid ho
  replace hol := Lib.hid hol
  clear h ht hf
  go_enter Tryz.func38, Tryz.ntmps38
  go_upto_region 1 with (first | (refine wpList_boxA HM rfl 27 _ rfl _ rfl ?_; clear HM; intro ge w1 HM hG; clear hG) | (refine wpList_boxA HM rfl 29 _ rfl _ rfl ?_; clear HM; intro gt w1 HM hG; clear hG) | (refine wpList_allocA HM rfl 27 rfl (by first | exact msgInfo | exact edInfo | exact tabInfo | exact info_tcl | exact info_spt) ?_; clear HM; intro g12 w1 HM hG; clear hG) | (refine wpList_allocA HM rfl 25 rfl (by first | exact msgInfo | exact edInfo | exact tabInfo | exact info_tcl | exact info_spt) ?_; clear HM; intro g13 w1 HM hG; clear hG) | fail)
  go_upto_region 2 with (first
    | (refine wpList_loadM 2 HM rfl _ _ rfl _ rfl rfl _ uT.out rfl (by exact ztab) ?_)
    | (refine wpList_loadM 3 HM rfl _ _ rfl _ rfl rfl _ uE.out rfl (by exact zend) ?_)
    | (go_at_call 39; refine (cF.out _ HM.out.below).mono ?_; rintro r w3 ⟨vf, rfl, hTf, hb_⟩; replace hTf := Lib.hid hTf; replace HM := Lib.hid (HM.out.keep hb_); clear hb_)
    | (refine wpList_allocN HM rfl 29 rfl tabInfo ?_; clear HM; intro g15 w1 HM hG hN9)
    | (refine wpList_storeF 0 HM rfl _ _ _ rfl _ rfl rfl _ rfl (by exact ztab) (by rfl) (by rfl) ?_; clear HM ; intro w4 HM hG4; simp only [List.set] at HM)
    | fail)
  replace hTf := Lib.hid (hTf.out.keep (hG.out.grown hG4.out hG.out.size (fun k e => by cases e; exact hN9.out)))
  clear hG hG4 hN9 cF
  by_cases hF : F = 0
  case neg =>
    have hA1 := Lib.hid (hA.out.trans (if_pos hF))
    have d1 : (F != 0) = true := by rw [bne_iff_ne]; exact hF
    have hP2 := Lib.hid (fun w' => hPb.out F w' hA1.out hF)
    go_wp2_with (first | go_skip | (refine wpList_storeF 2 HM rfl _ _ _ rfl _ rfl rfl _ rfl (by exact zend) (by rfl) (by rfl) ?_; clear HM ; intro w4 HM hG4; simp only [List.set] at HM) | (refine wpList_storeF 1 HM rfl _ _ _ rfl _ rfl rfl _ rfl (by exact zmsg) (by rfl) (by rfl) ?_; clear HM ; intro w4 HM hG4; simp only [List.set] at HM) | fail)
    try simp only [Exit.inBlock, Exit.then]
    refine bodyPost_ret (results_cct rfl (HM.out.at_ 2 rfl) (HM.out.at_ 1 rfl) rfl rfl _ uE.out rfl (by exact zend) _ uM.out rfl (by exact zmsg)) rfl ?_
    exact hP2.out _ HM.out.below
  subst hF
  replace hA := Lib.hid (hA.out.trans (if_neg (fun h => h rfl)))
  have hsm2 := Lib.hid (hsm.out rfl)
  clear hsm
  go_upto_region 4 with fail
  by_cases hr : slot < 0 ∨ 1099511627776 < slot ∨ n2 < 1 ∨ 8 < n2
  case pos =>
    have hA1 := Lib.hid (hA.out.trans (if_pos hr))
    have hr2 : slot < 0 ∨ (¬ slot < 0 ∧ (1099511627776 < slot ∨ (¬ 1099511627776 < slot ∧ ((n2 : Int) < 1 ∨ (¬ (n2 : Int) < 1 ∧ (8 : Int) < (n2 : Int)))))) := by omega
    clear hr
    rcases hr2 with g0 | ⟨g0, g1 | ⟨g1, g2 | ⟨g2, g3⟩⟩⟩
    all_goals
      go_wp2_with (first | go_skip | (refine wpList_storeF 2 HM rfl _ _ _ rfl _ rfl rfl _ rfl (by exact zend) (by rfl) (by rfl) ?_; clear HM ; intro w4 HM hG4; simp only [List.set] at HM) | (refine wpList_storeF 1 HM rfl _ _ _ rfl _ rfl rfl _ rfl (by exact zmsg) (by rfl) (by rfl) ?_; clear HM ; intro w4 HM hG4; simp only [List.set] at HM) | fail)
      all_goals
        try simp only [Exit.inBlock, Exit.then]
        refine bodyPost_ret (results_cct rfl (HM.out.at_ 2 rfl) (HM.out.at_ 1 rfl) rfl rfl _ uE.out rfl (by exact zend) _ uM.out rfl (by exact zmsg)) rfl ?_
        exact hPb.out 2 _ (hA1.out) (by decide) HM.out.below
  obtain ⟨g0, g1, g2, g3⟩ : ¬ slot < 0 ∧ ¬ 1099511627776 < slot ∧ ¬ (n2 : Int) < 1 ∧ ¬ (8 : Int) < (n2 : Int) := by omega
  replace hA := Lib.hid (hA.out.trans (if_neg hr))
  clear hr
  go_upto_region 6 with (first | go_skip | fail)
  have p4 : World.cell? _ ⟨ge, 4, none⟩ = some (.bool e.opn) := HM.out.cell 4 rfl 4
  cases ho2 : e.opn
  case true =>
    rw [ho2] at p4
    have hA1 := Lib.hid (hA.out.trans (if_pos ho2))
    go_wp2_with (first | go_skip | (refine wpList_storeF 2 HM rfl _ _ _ rfl _ rfl rfl _ rfl (by exact zend) (by rfl) (by rfl) ?_; clear HM ; intro w4 HM hG4; simp only [List.set] at HM) | (refine wpList_storeF 1 HM rfl _ _ _ rfl _ rfl rfl _ rfl (by exact zmsg) (by rfl) (by rfl) ?_; clear HM ; intro w4 HM hG4; simp only [List.set] at HM) | fail)
    all_goals
      try simp only [Exit.inBlock, Exit.then]
      refine bodyPost_ret (results_cct rfl (HM.out.at_ 2 rfl) (HM.out.at_ 1 rfl) rfl rfl _ uE.out rfl (by exact zend) _ uM.out rfl (by exact zmsg)) rfl ?_
      exact hPb.out 12 _ (hA1.out) (by decide) HM.out.below
  rw [ho2] at p4
  replace hA := Lib.hid (hA.out.trans (if_neg (by rw [ho2]; decide)))
  have n8 : n2 ≤ 8 := by omega
  have n1 : 1 ≤ n2 := by omega
  go_upto_region 8 with fail
  clear p4 g0 g1 g2 g3
  go_wp2_with fail
  go_loopw [15] (fun i wr => Hid (∃ k : Nat, k ≤ n2 ∧ i = .int .i64 k ∧ Hid (∀ j, j < k → hasN e (old.getD j default) true = true) ∧ Hid (TabIs wr vf FU) ∧ Hid (Mem w wr [(g15, tabA FU vf, 29), (g13, #[.int .i64 0, .bool false, .int .i64 0, .int .i64 0, .int .i64 0, .slice none 0 0, .slice none 0 0], 25), (g12, #[.int .i64 0, .int .i64 0, .int .i64 0, .slice none 0 0, .bool false, .int .i64 0, .int .i64 0, .bool false, .int .i64 0, .int .i64 0, .int .i64 0, .slice none 0 0, .slice none 0 0, .bool false, .int .i64 0, .bool false, .int .i64 0, .int .i64 0, .int .i64 0, .slice none 0 0, .slice none 0 0, .int .i64 0, .bool false, .int .i64 0, .int .i64 0, .int .i64 0, .slice none 0 0, .slice none 0 0], 27), (gt, tabA t vt, 29), (ge, endA e v, 27)]))) (fun i _ => n2 - (intOf i).toNat)
  case atStart => exact Lib.hid ⟨0, by omega, rfl, fun j hj => by omega, hTf, HM⟩
  case round =>
    clear HM hTf
    obtain ⟨k, hk, rfl, HQ, hTf, HM⟩ := hrel.out
    clear hrel
    by_cases hlt : k < n2
    · obtain ⟨b, off, rfl⟩ := ho.out.addr (by omega)
      have hxs := Lib.hid (fun W (hb : Below w.heap.size w W) => spt_at (ho.out.keep hb) hlt)
      have hh := hHit.out k hlt
      have hnx : hasN e (old.getD k default) true = true → ∀ j, j < k + 1 → hasN e (old.getD j default) true = true := fun h j hj => by
        by_cases e1 : j = k
        · subst e1; exact h
        · exact HQ.out j (by omega)
      have cH2 := fun A1 n1 c1 W hs => cH.out A1 n1 c1 (old.getD k default) W hs
      generalize hasN e (old.getD k default) true = Q at *
      generalize old.getD k default = y at *
      have r1 : (k : Int) < (n2 : Int) := by omega
      have r0 : (0 : Int) ≤ (k : Int) := by omega
      replace hh := Lib.hid hh
      replace hnx := Lib.hid hnx
      replace cH2 := Lib.hid cH2
      go_upto_region 11 with fail
      replace hTf := Lib.hid (hTf.out.keep ((Below.refl _ _).drew))
      replace HM := Lib.hid (HM.out.keep ((Below.refl _ _).drew))
      have HMs := Lib.hid HM.out
      refine wp_region_plan (fun w' => Mem _ w' _) 6 [(0, true), (2, true), (3, true), (4, true), (5, true), (1, false)] (by kernel_rfl) (by kernel_rfl) HMs.out ?_
      generalize World.drew wr = wd at *
      refine plTakeL (by rfl) (yields_memw rfl _ _ rfl 4 (fun w_ hSw => hSw) rfl rfl _ uE.out rfl (by exact zend)) ?_
      try simp only [Act.put, List.setIfInBounds_toArray, List.set_cons_zero, List.set_cons_succ, List.getElem_toArray, List.getElem_cons_succ, List.getElem_cons_zero]
      repeat (first | (refine plPure rfl rfl (by intro w_ hSw; go_simp; first | done | exact rfl) ?_; try simp only [Act.put, List.setIfInBounds_toArray, List.set_cons_zero, List.set_cons_succ, List.getElem_toArray, List.getElem_cons_succ, List.getElem_cons_zero]))
      refine plTakeL (by rfl) (yields_part rfl _ _ rfl b (off + k * 2) rfl _ _ (fun w_ hSw => spt_range (hxs.out w_ hSw.below)) uS.out rfl (by exact zspt)) ?_
      try simp only [Act.put, List.setIfInBounds_toArray, List.set_cons_zero, List.set_cons_succ, List.getElem_toArray, List.getElem_cons_succ, List.getElem_cons_zero]
      refine plStepL rfl rfl fun K hK => ?_
      go_wp2_with (first | (go_at_call 97; refine (cS.out _ HM.out.below hsm2.out.c).mono ?_; rintro r w5 ⟨As, ns, cs, rfl, hsn, hOs, hb_⟩; replace hsn := Lib.hid hsn; replace hOs := Lib.hid hOs) | fail)
      refine hK.out _ _ (HMs.out.keep hb_) fun hS_ => ?_
      clear hK K hS_
      try simp only [Act.put, List.setIfInBounds_toArray, List.set_cons_zero, List.set_cons_succ, List.getElem_toArray, List.getElem_cons_succ, List.getElem_cons_zero]
      replace HM := Lib.hid (HM.out.keep hb_)
      replace hTf := Lib.hid (hTf.out.keep hb_)
      clear hb_ HMs
      refine plDone ?_
      simp only [List.drop]
      cases Q
      case false =>
        have hA1 := Lib.hid (hA.out.trans (if_pos (hh.out rfl)))
        go_upto_region 12 with (first | (go_at_call 96; refine (cH2.out As ns cs _ (Sls.of_owns sptE_len hOs.out hsn.out).2).mono ?_; rintro r w6 ⟨rfl, hb_⟩; replace HM := Lib.hid (HM.out.keep hb_); clear hb_; dsimp only) | fail)
        go_wp2_with (first | go_skip | (refine wpList_storeF 2 HM rfl _ _ _ rfl _ rfl rfl _ rfl (by exact zend) (by rfl) (by rfl) ?_; clear HM ; intro w4 HM hG4; simp only [List.set] at HM) | (refine wpList_storeF 1 HM rfl _ _ _ rfl _ rfl rfl _ rfl (by exact zmsg) (by rfl) (by rfl) ?_; clear HM ; intro w4 HM hG4; simp only [List.set] at HM) | fail)
        all_goals
          try simp only [Exit.inBlock, Exit.then]
          refine bodyPost_ret (results_cct rfl (HM.out.at_ 2 rfl) (HM.out.at_ 1 rfl) rfl rfl _ uE.out rfl (by exact zend) _ uM.out rfl (by exact zmsg)) rfl ?_
          exact hPb.out 7 _ (hA1.out) (by decide) HM.out.below
      case true =>
        have hP2 := Lib.hid (hnx.out rfl)
        go_wp2_with (first | (go_at_call 96; refine (cH2.out As ns cs _ (Sls.of_owns sptE_len hOs.out hsn.out).2).mono ?_; rintro r w6 ⟨rfl, hb_⟩; replace HM := Lib.hid (HM.out.keep hb_); replace hTf := Lib.hid (hTf.out.keep hb_); clear hb_; dsimp only) | fail)
        exact ⟨Lib.hid ⟨k + 1, by omega, by go_num, hP2, hTf, HM⟩, by simp [intOf]; omega⟩
    · obtain rfl : k = n2 := by omega
      replace hA := Lib.hid (hA.out.trans (if_neg (by rw [hAll.out HQ.out]; decide)))
      clear HQ hHit hAll cH cS
      go_upto_region 13 with fail
      go_wp2_with fail
      go_loopw [16] (fun i wr => Hid (∃ k2 : Nat, k2 + 1 ≤ k ∧ i = .int .i64 ((k2 : Int) + 1) ∧ Hid (∀ j, 0 < j → j < k2 + 1 → (old.getD (j - 1) default).slot < (old.getD j default).slot) ∧ Hid (TabIs wr vf FU) ∧ Hid (Mem w wr [(g15, tabA FU vf, 29), (g13, #[.int .i64 0, .bool false, .int .i64 0, .int .i64 0, .int .i64 0, .slice none 0 0, .slice none 0 0], 25), (g12, #[.int .i64 0, .int .i64 0, .int .i64 0, .slice none 0 0, .bool false, .int .i64 0, .int .i64 0, .bool false, .int .i64 0, .int .i64 0, .int .i64 0, .slice none 0 0, .slice none 0 0, .bool false, .int .i64 0, .bool false, .int .i64 0, .int .i64 0, .int .i64 0, .slice none 0 0, .slice none 0 0, .int .i64 0, .bool false, .int .i64 0, .int .i64 0, .int .i64 0, .slice none 0 0, .slice none 0 0], 27), (gt, tabA t vt, 29), (ge, endA e v, 27)]))) (fun i _ => k - (intOf i).toNat)
      case atStart => exact Lib.hid ⟨0, by omega, rfl, fun j hj => by omega, hTf, HM⟩
      case round =>
        clear HM hTf
        obtain ⟨q, hq, rfl, HQ, hTf, HM⟩ := hrel.out
        clear hrel
        by_cases hlt : q + 1 < k
        · obtain ⟨b, off, rfl⟩ := ho.out.addr (by omega)
          have q1 := (spt_at (ho.out.keep HM.out.below) hlt).1
          have q0 := (spt_at (ho.out.keep HM.out.below) (show q < k by omega)).1
          have hfF := hasF.out (q + 1) (by omega) hlt
          have hnx : (old.getD q default).slot < (old.getD (q + 1) default).slot → ∀ j, 0 < j → j < q + 1 + 1 → (old.getD (j - 1) default).slot < (old.getD j default).slot := fun h j h0 hj => by
            by_cases e1 : j = q + 1
            · subst e1; exact h
            · exact HQ.out j h0 (by omega)
          rw [Nat.add_sub_cancel] at hfF
          generalize (old.getD q default).slot = y0 at *
          generalize (old.getD (q + 1) default).slot = x0 at *
          have r1 : (q : Int) + 1 < (k : Int) := by omega
          have r0 : (0 : Int) ≤ (q : Int) + 1 := by omega
          have r2 : ((q : Int) + 1).toNat = q + 1 := by omega
          have g2 := cell_regrown q0
          have g3 := cell_regrown q1
          have hw1 : IntKind.i64.wrap ((q : Int) + 1 - 1) = (q : Int) := by rw [IntWalk.i64_in _ (by omega)]; omega
          have hw2 : IntKind.i64.wrap (q : Int) = (q : Int) := IntWalk.i64_in _ (by omega)
          have t1 : (0 : Int) ≤ (q : Int) := by omega
          have t2 : (q : Int) < (k : Int) := by omega
          replace hfF := Lib.hid hfF
          replace hnx := Lib.hid hnx
          by_cases hyx : x0 ≤ y0
          · have hA1 := Lib.hid (hA.out.trans (if_pos (hfF.out (by omega))))
            clear hnx q0 q1
            go_wp2_with fail
            refine wp_region_quiet_below (by kernel_rfl) (by kernel_rfl) ?_
            repeat (go_big_quiet_step (fail))
            refine wpQuiet_nil ?_
            rintro _ ⟨⟨dq, osq⟩, rfl⟩
            have hb_ := below_regrown wr dq osq
            replace HM := Lib.hid (HM.out.keep hb_)
            replace hTf := Lib.hid (hTf.out.keep hb_)
            generalize grow (redrawn wr dq) osq = w2 at *
            clear hb_
            clear g2 g3
            go_wp2_with (first | go_skip | (refine wpList_storeF 2 HM rfl _ _ _ rfl _ rfl rfl _ rfl (by exact zend) (by rfl) (by rfl) ?_; clear HM ; intro w4 HM hG4; simp only [List.set] at HM) | (refine wpList_storeF 1 HM rfl _ _ _ rfl _ rfl rfl _ rfl (by exact zmsg) (by rfl) (by rfl) ?_; clear HM ; intro w4 HM hG4; simp only [List.set] at HM) | fail)
            all_goals
              try simp only [Exit.inBlock, Exit.then]
              refine bodyPost_ret (results_cct rfl (HM.out.at_ 2 rfl) (HM.out.at_ 1 rfl) rfl rfl _ uE.out rfl (by exact zend) _ uM.out rfl (by exact zmsg)) rfl ?_
              exact hPb.out 5 _ (hA1.out) (by decide) HM.out.below
          · have HP2 := Lib.hid (hnx.out (by omega))
            have d2 : decide (x0 ≤ y0) = false := by simpa using hyx
            clear hnx hfF q0 q1
            replace hyx := Lib.hid hyx
            go_wp2_with fail
            refine wp_region_quiet_below (by kernel_rfl) (by kernel_rfl) ?_
            repeat (go_big_quiet_step (fail))
            refine wpQuiet_nil ?_
            rintro _ ⟨⟨dq, osq⟩, rfl⟩
            have hb_ := below_regrown wr dq osq
            replace HM := Lib.hid (HM.out.keep hb_)
            replace hTf := Lib.hid (hTf.out.keep hb_)
            generalize grow (redrawn wr dq) osq = w2 at *
            clear hb_
            clear g2 g3
            go_wp2_with fail
            exact ⟨Lib.hid ⟨q + 1, by omega, by first | rfl | go_num, HP2, hTf, HM⟩, by simp [intOf]; omega⟩
        · obtain rfl : k = q + 1 := by omega
          replace hA := Lib.hid (hA.out.trans (if_neg (by rw [hasT.out HQ.out]; decide)))
          clear HQ hasF hasT
          generalize hn2 : q + 1 = n2 at *
          go_upto_region 18 with fail
          replace hTf := Lib.hid (hTf.out.keep ((Below.refl _ _).drew))
          replace HM := Lib.hid (HM.out.keep ((Below.refl _ _).drew))
          refine wp_region_pt (fun w' => Mem w w' _) 10 (.take 0 (.take 1 (.take 2 (.take 3 (.take 4 (.take 5 (.take 6 (.fork 7 (.take 8 (.only 9 .done)) 9 (.only 7 (.take 8 .done)))))))))) (by kernel_rfl) (by kernel_rfl) HM.out ?_
          generalize World.drew _ = wd at *
          repeat (first | (refine ptPure rfl rfl (by intro w_ hSw; go_simp; first | done | exact rfl) ?_; try simp only [Act.put, List.setIfInBounds_toArray, List.set_cons_zero, List.set_cons_succ, List.getElem_toArray, List.getElem_cons_succ, List.getElem_cons_zero]))
          refine ptTake (by rfl) (yields_memc rfl _ _ rfl 4 (fun w_ hSw => hSw) rfl 2 rfl (.int .i64 e.number) rfl _ Tryz.underlying3 (by rfl)) ?_
          try simp only [Act.put, List.setIfInBounds_toArray, List.set_cons_zero, List.set_cons_succ, List.getElem_toArray, List.getElem_cons_succ, List.getElem_cons_zero]
          repeat (first | (refine ptPure rfl rfl (by intro w_ hSw; go_simp; first | done | exact rfl) ?_; try simp only [Act.put, List.setIfInBounds_toArray, List.set_cons_zero, List.set_cons_succ, List.getElem_toArray, List.getElem_cons_succ, List.getElem_cons_zero]))
          refine ptTake (by rfl) (yields_memw rfl _ _ rfl 0 (fun w_ hSw => hSw) rfl rfl _ uT.out rfl (by exact ztab)) ?_
          try simp only [Act.put, List.setIfInBounds_toArray, List.set_cons_zero, List.set_cons_succ, List.getElem_toArray, List.getElem_cons_succ, List.getElem_cons_zero]
          repeat (first | (refine ptPure rfl rfl (by intro w_ hSw; go_simp; first | done | exact rfl) ?_; try simp only [Act.put, List.setIfInBounds_toArray, List.set_cons_zero, List.set_cons_succ, List.getElem_toArray, List.getElem_cons_succ, List.getElem_cons_zero]))
          refine ptFork rfl rfl rfl rfl (fun K hK => ?_) (fun K hK => ?_)
          · skip
            go_wp2_with (first | (go_at_call 98; refine (cC.out vf _ hTf.out HM.out.below).mono ?_; rintro r w5 ⟨Ac, nc, cc, rfl, hcl, hOc, hb_⟩; replace hcl := Lib.hid hcl; have hcc := own_cap hOc; have hOd := Lib.hid (SubS.of_own hOc); clear hOc) | fail)
            refine hK.out _ _ (HM.out.keep hb_) fun hS_ => ?_
            clear hK K hS_
            try simp only [Act.put, List.setIfInBounds_toArray, List.set_cons_zero, List.set_cons_succ, List.getElem_toArray, List.getElem_cons_succ, List.getElem_cons_zero]
            replace HM := Lib.hid (HM.out.keep hb_)
            clear hb_ hTf
            repeat (first | (refine ptPure rfl rfl (by intro w_ hSw; go_simp; first | done | exact rfl) ?_; try simp only [Act.put, List.setIfInBounds_toArray, List.set_cons_zero, List.set_cons_succ, List.getElem_toArray, List.getElem_cons_succ, List.getElem_cons_zero]))
            refine ptOnly rfl rfl fun K hK => ?_
            go_wp2_with (first | (refine wpList_allocN HM rfl 25 rfl msgInfo ?_; clear HM; intro g17 w1 HM hG hN9; replace hOd := Lib.hid (hOd.out.keep hG.out); clear hG hN9) | fail)
            refine hK.out _ _ (HM.out.tail) fun hS_ => ?_
            clear hK K hS_
            try simp only [Act.put, List.setIfInBounds_toArray, List.set_cons_zero, List.set_cons_succ, List.getElem_toArray, List.getElem_cons_succ, List.getElem_cons_zero]
            refine ptDone ?_
            simp only [List.drop]
            go_upto_region 19 with (first | (refine wpList_storeF 0 HM rfl _ _ _ rfl _ rfl rfl _ rfl (by exact zmsg) (by rfl) (by rfl) ?_; have hBq := HM.out.at_ 0 rfl; clear HM; intro w4 HM hG4; simp only [List.set] at HM; replace hOd := Lib.hid (hOd.out.put hBq (by decide) hG4.out); clear hBq hG4) | fail)
            change Hid (Mem _ _ ((_, msgA ⟨3, false, e.number, 0, (n2 : Int), CN, old⟩ ⟨Ac, nc, cc, B, n2, c2⟩, _) :: _)) at HM
            have hc8c : nc ≤ 8 := by have := hcd.out; have := hcl.out; omega
            have p5 : World.cell? _ ⟨g17, 5, none⟩ = some (.slice Ac nc cc) := HM.out.cell 0 rfl 5
            by_cases hlc : (nc : Int) < (n2 : Int)
            case pos =>
              have hA1 := Lib.hid (hA.out.trans (if_pos (by rw [hcl.out]; omega)))
              go_wp2_with (first | go_skip | (refine wpList_storeF 3 HM rfl _ _ _ rfl _ rfl rfl _ rfl (by exact zend) (by rfl) (by rfl) ?_; clear HM ; intro w4 HM hG4; simp only [List.set] at HM) | (refine wpList_storeF 2 HM rfl _ _ _ rfl _ rfl rfl _ rfl (by exact zmsg) (by rfl) (by rfl) ?_; clear HM ; intro w4 HM hG4; simp only [List.set] at HM) | fail)
              all_goals
                try simp only [Exit.inBlock, Exit.then]
                refine bodyPost_ret (results_cct rfl (HM.out.at_ 3 rfl) (HM.out.at_ 2 rfl) rfl rfl _ uE.out rfl (by exact zend) _ uM.out rfl (by exact zmsg)) rfl ?_
                exact hPb.out 14 _ (hA1.out) (by decide) HM.out.below
            replace hA := Lib.hid (hA.out.trans (if_neg (by rw [hcl.out]; omega)))
            go_upto_region 21 with fail
            clear p5
            have hAM : Hid (AM = (⟨3, false, e.number, 0, (n2 : Int), CN, old⟩ : Msg)) := hMd.out
            have hA0 := Lib.hid hA.out
            clear hA hPb hcd hMd
            obtain ⟨F0, hFs, hF, gM⟩ : ∃ F : World → Prop, Stb F ∧ Hid (F _) ∧ Hid (∀ W, F W → Below w.heap.size w W → MsgIs W ⟨Ac, nc, cc, B, n2, c2⟩ ⟨3, false, e.number, 0, (n2 : Int), CN, old⟩) := ⟨_, Stb.subS _ _ _, hOd, fun _ h hb => ⟨h.is, ho.out.keep hb, hcc, hoc⟩⟩
            clear hOd
            have mk1 : Unit := ()
            have mk2 : Unit := ()
            go_upto_region 22 with (first | go_skip | (refine wpList_loadM 5 HM rfl _ _ rfl _ rfl rfl _ uE.out rfl (by exact zend) ?_) | (go_at_call 57; clear mk1; refine (cL.out _ HM.out.below hsm2.out).mono ?_; rintro r w3 ⟨v1, rfl, hE, hb_⟩; replace HM := Lib.hid (HM.out.keep hb_); replace hF := Lib.hid (hFs.keep hF.out hb_); clear hb_; obtain ⟨F2, hFs2, hF2, hU, hNw⟩ := stb_add hFs hF (Stb.ed v1 _) hE; clear hFs hF; replace gM := Lib.hid (fun W h => gM.out W (hU W h)); have gE := Lib.hid hNw; clear hNw hU; have hFs := hFs2; have hF := hF2; clear hFs2 hF2 hE; dsimp only) | (clear mk2; refine wpList_allocN HM rfl 27 rfl edInfo ?_; clear HM; intro g19 w1 HM hG hN9; replace hF := Lib.hid (hFs.keep hF.out hG.out); clear hG hN9) | (refine wpList_storeF 0 HM rfl _ _ _ rfl _ rfl rfl _ rfl (by exact zend) (by rfl) (by rfl) ?_; have hBq := HM.out.at_ 0 rfl; clear HM; intro w4 HM hG4; simp only [List.set] at HM; replace hF := Lib.hid (hFs.put hF.out hBq (by decide) (by decide) hG4.out); clear hBq hG4) | fail)
            have mk3 : Unit := ()
            go_upto_region 23 with (first | go_skip | (refine wpList_loadM 1 HM rfl _ _ rfl _ rfl rfl _ uM.out rfl (by exact zmsg) ?_) | (go_at_call 60; clear mk3; refine (cMs.out _ _ _ (gM.out _ hF.out HM.out.below) ⟨by dsimp only; omega, by dsimp only; omega⟩).mono ?_; rintro r w3 ⟨va, rfl, hA5, hb_⟩; replace HM := Lib.hid (HM.out.keep hb_); replace hF := Lib.hid (hFs.keep hF.out hb_); clear hb_; obtain ⟨F3, hFs2, hF2, hU, hNw⟩ := stb_add hFs hF (Stb.msg va _) hA5; clear hFs hF; replace gM := Lib.hid (fun W h => gM.out W (hU W h)); replace gE := Lib.hid (fun W h => gE.out W (hU W h)); have gA := Lib.hid hNw; clear hNw hU; have hFs := hFs2; have hF := hF2; clear hFs2 hF2 hA5; dsimp only) | (refine wpList_storeM 0 HM rfl _ _ _ rfl _ 4 rfl rfl _ (by conv => {lhs; whnf}) (by exact zone_b) (by rfl) (Nat.le_of_ble_eq_true (by rfl)) (endA { e with opn := true } v1) (by rfl) ?_; have hBq := HM.out.at_ 0 rfl; clear HM; intro w4 HM hG4; simp only [List.set] at HM; replace hF := Lib.hid (hFs.put hF.out hBq (by decide) (by decide) hG4.out); clear hBq hG4) | (refine wpList_storeM 0 HM rfl _ _ _ rfl _ 5 rfl rfl _ (by conv => {lhs; whnf}) (by exact zone_i) (by rfl) (Nat.le_of_ble_eq_true (by rfl)) (endA { e with opn := true, since := slot } v1) (by rfl) ?_; have hBq := HM.out.at_ 0 rfl; clear HM; intro w4 HM hG4; simp only [List.set] at HM; replace hF := Lib.hid (hFs.put hF.out hBq (by decide) (by decide) hG4.out); clear hBq hG4) | (refine wpList_storeM 0 HM rfl _ _ _ rfl _ 6 rfl rfl _ (by conv => {lhs; whnf}) (by exact zmsg) (by rfl) (Nat.le_of_ble_eq_true (by rfl)) (endA (openE e ⟨3, false, e.number, 0, (n2 : Int), CN, old⟩ slot) { v1 with a := va }) (by rfl) ?_; have hBq := HM.out.at_ 0 rfl; clear HM; intro w4 HM hG4; simp only [List.set] at HM; replace hF := Lib.hid (hFs.put hF.out hBq (by decide) (by decide) hG4.out); clear hBq hG4) | fail)
            replace hF := Lib.hid (hFs.keep hF.out ((Below.refl _ _).drew))
            replace HM := Lib.hid (HM.out.keep ((Below.refl _ _).drew))
            have HMs := Lib.hid HM.out
            refine wp_region_plan (fun w' => Mem _ w' _) 3 [(0, true), (1, true), (2, false)] (by kernel_rfl) (by kernel_rfl) HMs.out ?_
            generalize World.drew _ = wd at *
            refine plTakeL (by rfl) (yields_memw rfl _ _ rfl 0 (fun w_ hSw => hSw) rfl rfl _ uE.out rfl (by exact zend)) ?_
            try simp only [Act.put, List.setIfInBounds_toArray, List.set_cons_zero, List.set_cons_succ, List.getElem_toArray, List.getElem_cons_succ, List.getElem_cons_zero]
            refine plTakeL (by rfl) (yields_memw rfl _ _ rfl 1 (fun w_ hSw => hSw) rfl rfl _ uM.out rfl (by exact zmsg)) ?_
            try simp only [Act.put, List.setIfInBounds_toArray, List.set_cons_zero, List.set_cons_succ, List.getElem_toArray, List.getElem_cons_succ, List.getElem_cons_zero]
            refine plStepL rfl rfl fun K hK => ?_
            go_wp2_with (first | (go_at_call 60; refine (cMs.out _ _ _ (gM.out _ hF.out HM.out.below) ⟨by dsimp only; omega, by dsimp only; omega⟩).mono ?_; rintro r w3 ⟨vb, rfl, hA5, hb_⟩) | fail)
            refine hK.out _ _ (HMs.out.keep hb_) fun hS_ => ?_
            clear hK K hS_
            try simp only [Act.put, List.setIfInBounds_toArray, List.set_cons_zero, List.set_cons_succ, List.getElem_toArray, List.getElem_cons_succ, List.getElem_cons_zero]
            replace HM := Lib.hid (HM.out.keep hb_)
            replace hF := Lib.hid (hFs.keep hF.out hb_)
            clear hb_ HMs
            obtain ⟨F5, hFs2, hF2, hU, hNw⟩ := stb_add hFs hF (Stb.msg vb _) hA5
            clear hFs hF
            replace gM := Lib.hid (fun W h => gM.out W (hU W h))
            replace gE := Lib.hid (fun W h => gE.out W (hU W h))
            replace gA := Lib.hid (fun W h => gA.out W (hU W h))
            have gB := Lib.hid hNw
            clear hNw hU
            have hFs := hFs2
            have hF := hF2
            clear hFs2 hF2 hA5
            refine plDone ?_
            simp only [List.drop]
            go_wp2_with (first | go_skip | (refine wpList_storeF 4 HM rfl _ _ _ rfl _ rfl rfl _ rfl (by exact zend) (by rfl) (by rfl) ?_; have hBq := HM.out.at_ 4 rfl; clear HM; intro w4 HM hG4; simp only [List.set] at HM; replace hF := Lib.hid (hFs.put hF.out hBq (by decide) (by decide) hG4.out); clear hBq hG4) | (refine wpList_storeF 3 HM rfl _ _ _ rfl _ rfl rfl _ rfl (by exact zmsg) (by rfl) (by rfl) ?_; have hBq := HM.out.at_ 3 rfl; clear HM; intro w4 HM hG4; simp only [List.set] at HM; replace hF := Lib.hid (hFs.put hF.out hBq (by decide) (by decide) hG4.out); clear hBq hG4) | fail)
            try simp only [Exit.inBlock, Exit.then]
            refine bodyPost_ret (results_cct rfl (HM.out.at_ 4 rfl) (HM.out.at_ 3 rfl) rfl rfl _ uE.out rfl (by exact zend) _ uM.out rfl (by exact zmsg)) rfl ?_
            exact hPo.out _ _ _ _ hA0.out hAM.out ⟨(gE.out _ hF.out).cells, (gE.out _ hF.out).lc, gA.out _ hF.out, (gE.out _ hF.out).last, (gE.out _ hF.out).reply⟩ (gB.out _ hF.out).sub HM.out.below
          · skip
            go_wp2_with (first | (refine wpList_allocN HM rfl 25 rfl msgInfo ?_; clear HM; intro g17 w1 HM hG hN9; replace hTf := Lib.hid (hTf.out.keep hG.out); clear hG hN9) | fail)
            refine hK.out _ _ HM.out.tail fun hS_ => ?_
            clear hK K hS_
            try simp only [Act.put, List.setIfInBounds_toArray, List.set_cons_zero, List.set_cons_succ, List.getElem_toArray, List.getElem_cons_succ, List.getElem_cons_zero]
            refine ptOnly rfl rfl fun K hK => ?_
            go_wp2_with (first | (go_at_call 98; refine (cC.out vf _ hTf.out HM.out.below).mono ?_; rintro r w5 ⟨Ac, nc, cc, rfl, hcl, hOc, hb_⟩; replace hcl := Lib.hid hcl; have hcc := own_cap hOc; have hOd := Lib.hid (SubS.of_own hOc); clear hOc) | fail)
            refine hK.out _ _ ((HM.out.keep hb_).tail) fun hS_ => ?_
            clear hK K hS_
            try simp only [Act.put, List.setIfInBounds_toArray, List.set_cons_zero, List.set_cons_succ, List.getElem_toArray, List.getElem_cons_succ, List.getElem_cons_zero]
            replace HM := Lib.hid (HM.out.keep hb_)
            clear hb_ hTf
            repeat (first | (refine ptPure rfl rfl (by intro w_ hSw; go_simp; first | done | exact rfl) ?_; try simp only [Act.put, List.setIfInBounds_toArray, List.set_cons_zero, List.set_cons_succ, List.getElem_toArray, List.getElem_cons_succ, List.getElem_cons_zero]))
            refine ptDone ?_
            simp only [List.drop]
            go_upto_region 19 with (first | (refine wpList_storeF 0 HM rfl _ _ _ rfl _ rfl rfl _ rfl (by exact zmsg) (by rfl) (by rfl) ?_; have hBq := HM.out.at_ 0 rfl; clear HM; intro w4 HM hG4; simp only [List.set] at HM; replace hOd := Lib.hid (hOd.out.put hBq (by decide) hG4.out); clear hBq hG4) | fail)
            change Hid (Mem _ _ ((_, msgA ⟨3, false, e.number, 0, (n2 : Int), CN, old⟩ ⟨Ac, nc, cc, B, n2, c2⟩, _) :: _)) at HM
            have hc8c : nc ≤ 8 := by have := hcd.out; have := hcl.out; omega
            have p5 : World.cell? _ ⟨g17, 5, none⟩ = some (.slice Ac nc cc) := HM.out.cell 0 rfl 5
            by_cases hlc : (nc : Int) < (n2 : Int)
            case pos =>
              have hA1 := Lib.hid (hA.out.trans (if_pos (by rw [hcl.out]; omega)))
              go_wp2_with (first | go_skip | (refine wpList_storeF 3 HM rfl _ _ _ rfl _ rfl rfl _ rfl (by exact zend) (by rfl) (by rfl) ?_; clear HM ; intro w4 HM hG4; simp only [List.set] at HM) | (refine wpList_storeF 2 HM rfl _ _ _ rfl _ rfl rfl _ rfl (by exact zmsg) (by rfl) (by rfl) ?_; clear HM ; intro w4 HM hG4; simp only [List.set] at HM) | fail)
              all_goals
                try simp only [Exit.inBlock, Exit.then]
                refine bodyPost_ret (results_cct rfl (HM.out.at_ 3 rfl) (HM.out.at_ 2 rfl) rfl rfl _ uE.out rfl (by exact zend) _ uM.out rfl (by exact zmsg)) rfl ?_
                exact hPb.out 14 _ (hA1.out) (by decide) HM.out.below
            replace hA := Lib.hid (hA.out.trans (if_neg (by rw [hcl.out]; omega)))
            go_upto_region 21 with fail
            clear p5
            have hAM : Hid (AM = (⟨3, false, e.number, 0, (n2 : Int), CN, old⟩ : Msg)) := hMd.out
            have hA0 := Lib.hid hA.out
            clear hA hPb hcd hMd
            obtain ⟨F0, hFs, hF, gM⟩ : ∃ F : World → Prop, Stb F ∧ Hid (F _) ∧ Hid (∀ W, F W → Below w.heap.size w W → MsgIs W ⟨Ac, nc, cc, B, n2, c2⟩ ⟨3, false, e.number, 0, (n2 : Int), CN, old⟩) := ⟨_, Stb.subS _ _ _, hOd, fun _ h hb => ⟨h.is, ho.out.keep hb, hcc, hoc⟩⟩
            clear hOd
            have mk1 : Unit := ()
            have mk2 : Unit := ()
            go_upto_region 22 with (first | go_skip | (refine wpList_loadM 5 HM rfl _ _ rfl _ rfl rfl _ uE.out rfl (by exact zend) ?_) | (go_at_call 57; clear mk1; refine (cL.out _ HM.out.below hsm2.out).mono ?_; rintro r w3 ⟨v1, rfl, hE, hb_⟩; replace HM := Lib.hid (HM.out.keep hb_); replace hF := Lib.hid (hFs.keep hF.out hb_); clear hb_; obtain ⟨F2, hFs2, hF2, hU, hNw⟩ := stb_add hFs hF (Stb.ed v1 _) hE; clear hFs hF; replace gM := Lib.hid (fun W h => gM.out W (hU W h)); have gE := Lib.hid hNw; clear hNw hU; have hFs := hFs2; have hF := hF2; clear hFs2 hF2 hE; dsimp only) | (clear mk2; refine wpList_allocN HM rfl 27 rfl edInfo ?_; clear HM; intro g19 w1 HM hG hN9; replace hF := Lib.hid (hFs.keep hF.out hG.out); clear hG hN9) | (refine wpList_storeF 0 HM rfl _ _ _ rfl _ rfl rfl _ rfl (by exact zend) (by rfl) (by rfl) ?_; have hBq := HM.out.at_ 0 rfl; clear HM; intro w4 HM hG4; simp only [List.set] at HM; replace hF := Lib.hid (hFs.put hF.out hBq (by decide) (by decide) hG4.out); clear hBq hG4) | fail)
            have mk3 : Unit := ()
            go_upto_region 23 with (first | go_skip | (refine wpList_loadM 1 HM rfl _ _ rfl _ rfl rfl _ uM.out rfl (by exact zmsg) ?_) | (go_at_call 60; clear mk3; refine (cMs.out _ _ _ (gM.out _ hF.out HM.out.below) ⟨by dsimp only; omega, by dsimp only; omega⟩).mono ?_; rintro r w3 ⟨va, rfl, hA5, hb_⟩; replace HM := Lib.hid (HM.out.keep hb_); replace hF := Lib.hid (hFs.keep hF.out hb_); clear hb_; obtain ⟨F3, hFs2, hF2, hU, hNw⟩ := stb_add hFs hF (Stb.msg va _) hA5; clear hFs hF; replace gM := Lib.hid (fun W h => gM.out W (hU W h)); replace gE := Lib.hid (fun W h => gE.out W (hU W h)); have gA := Lib.hid hNw; clear hNw hU; have hFs := hFs2; have hF := hF2; clear hFs2 hF2 hA5; dsimp only) | (refine wpList_storeM 0 HM rfl _ _ _ rfl _ 4 rfl rfl _ (by conv => {lhs; whnf}) (by exact zone_b) (by rfl) (Nat.le_of_ble_eq_true (by rfl)) (endA { e with opn := true } v1) (by rfl) ?_; have hBq := HM.out.at_ 0 rfl; clear HM; intro w4 HM hG4; simp only [List.set] at HM; replace hF := Lib.hid (hFs.put hF.out hBq (by decide) (by decide) hG4.out); clear hBq hG4) | (refine wpList_storeM 0 HM rfl _ _ _ rfl _ 5 rfl rfl _ (by conv => {lhs; whnf}) (by exact zone_i) (by rfl) (Nat.le_of_ble_eq_true (by rfl)) (endA { e with opn := true, since := slot } v1) (by rfl) ?_; have hBq := HM.out.at_ 0 rfl; clear HM; intro w4 HM hG4; simp only [List.set] at HM; replace hF := Lib.hid (hFs.put hF.out hBq (by decide) (by decide) hG4.out); clear hBq hG4) | (refine wpList_storeM 0 HM rfl _ _ _ rfl _ 6 rfl rfl _ (by conv => {lhs; whnf}) (by exact zmsg) (by rfl) (Nat.le_of_ble_eq_true (by rfl)) (endA (openE e ⟨3, false, e.number, 0, (n2 : Int), CN, old⟩ slot) { v1 with a := va }) (by rfl) ?_; have hBq := HM.out.at_ 0 rfl; clear HM; intro w4 HM hG4; simp only [List.set] at HM; replace hF := Lib.hid (hFs.put hF.out hBq (by decide) (by decide) hG4.out); clear hBq hG4) | fail)
            replace hF := Lib.hid (hFs.keep hF.out ((Below.refl _ _).drew))
            replace HM := Lib.hid (HM.out.keep ((Below.refl _ _).drew))
            have HMs := Lib.hid HM.out
            refine wp_region_plan (fun w' => Mem _ w' _) 3 [(0, true), (1, true), (2, false)] (by kernel_rfl) (by kernel_rfl) HMs.out ?_
            generalize World.drew _ = wd at *
            refine plTakeL (by rfl) (yields_memw rfl _ _ rfl 0 (fun w_ hSw => hSw) rfl rfl _ uE.out rfl (by exact zend)) ?_
            try simp only [Act.put, List.setIfInBounds_toArray, List.set_cons_zero, List.set_cons_succ, List.getElem_toArray, List.getElem_cons_succ, List.getElem_cons_zero]
            refine plTakeL (by rfl) (yields_memw rfl _ _ rfl 1 (fun w_ hSw => hSw) rfl rfl _ uM.out rfl (by exact zmsg)) ?_
            try simp only [Act.put, List.setIfInBounds_toArray, List.set_cons_zero, List.set_cons_succ, List.getElem_toArray, List.getElem_cons_succ, List.getElem_cons_zero]
            refine plStepL rfl rfl fun K hK => ?_
            go_wp2_with (first | (go_at_call 60; refine (cMs.out _ _ _ (gM.out _ hF.out HM.out.below) ⟨by dsimp only; omega, by dsimp only; omega⟩).mono ?_; rintro r w3 ⟨vb, rfl, hA5, hb_⟩) | fail)
            refine hK.out _ _ (HMs.out.keep hb_) fun hS_ => ?_
            clear hK K hS_
            try simp only [Act.put, List.setIfInBounds_toArray, List.set_cons_zero, List.set_cons_succ, List.getElem_toArray, List.getElem_cons_succ, List.getElem_cons_zero]
            replace HM := Lib.hid (HM.out.keep hb_)
            replace hF := Lib.hid (hFs.keep hF.out hb_)
            clear hb_ HMs
            obtain ⟨F5, hFs2, hF2, hU, hNw⟩ := stb_add hFs hF (Stb.msg vb _) hA5
            clear hFs hF
            replace gM := Lib.hid (fun W h => gM.out W (hU W h))
            replace gE := Lib.hid (fun W h => gE.out W (hU W h))
            replace gA := Lib.hid (fun W h => gA.out W (hU W h))
            have gB := Lib.hid hNw
            clear hNw hU
            have hFs := hFs2
            have hF := hF2
            clear hFs2 hF2 hA5
            refine plDone ?_
            simp only [List.drop]
            go_wp2_with (first | go_skip | (refine wpList_storeF 4 HM rfl _ _ _ rfl _ rfl rfl _ rfl (by exact zend) (by rfl) (by rfl) ?_; have hBq := HM.out.at_ 4 rfl; clear HM; intro w4 HM hG4; simp only [List.set] at HM; replace hF := Lib.hid (hFs.put hF.out hBq (by decide) (by decide) hG4.out); clear hBq hG4) | (refine wpList_storeF 3 HM rfl _ _ _ rfl _ rfl rfl _ rfl (by exact zmsg) (by rfl) (by rfl) ?_; have hBq := HM.out.at_ 3 rfl; clear HM; intro w4 HM hG4; simp only [List.set] at HM; replace hF := Lib.hid (hFs.put hF.out hBq (by decide) (by decide) hG4.out); clear hBq hG4) | fail)
            try simp only [Exit.inBlock, Exit.then]
            refine bodyPost_ret (results_cct rfl (HM.out.at_ 4 rfl) (HM.out.at_ 3 rfl) rfl rfl _ uE.out rfl (by exact zend) _ uM.out rfl (by exact zmsg)) rfl ?_
            exact hPo.out _ _ _ _ hA0.out hAM.out ⟨(gE.out _ hF.out).cells, (gE.out _ hF.out).lc, gA.out _ hF.out, (gE.out _ hF.out).last, (gE.out _ hF.out).reply⟩ (gB.out _ hF.out).sub HM.out.below
end Tx
end Go.Proofs.YtkfipbelhlcddaaGreat
