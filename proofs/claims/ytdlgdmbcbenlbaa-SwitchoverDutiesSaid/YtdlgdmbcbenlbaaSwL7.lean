/- The law Duties. -/
import Derived.Test.YtdlgdmbcbenlbaaSw39
set_option linter.unusedVariables false
set_option linter.unusedSimpArgs false
namespace Go.Proofs.Ytdlgdmbcbenlbaa
open Go Go.RowKit Go.Sort Go.Lib
namespace Sw
open Mm
theorem Sls.grownBlk {α : Type} [Inhabited α] {enc : α → List Value} {k : Nat} (hk : ∀ x, (enc x).length = k) {w w' : World} {A : Option Addr} {n : Nat} {xs : List α} (h : Sls enc k w A n xs) {M : Nat} {C : Array Value} {t : TypeId} (hB : Blk w M C t) (hC : C.size < k) (hg : w.grownBy w' (some M)) : Sls enc k w' A n xs where
  len := h.len
  small := h.small
  at_ := fun hn => by
    obtain ⟨b, off, e, hb, hc⟩ := h.at_ hn
    have hne : some b ≠ some M := fun e => by
      injection e with e
      subst e
      have h1 := hc 0 hn (k - 1) (by omega)
      rw [hB.cell, Array.getElem?_eq_none (by omega), List.getElem?_eq_getElem (by rw [hk]; omega)] at h1
      cases h1
    refine ⟨b, off, e, Nat.lt_of_lt_of_le hb hg.size, fun i hi j hj => ?_⟩
    rw [← hc i hi j hj]
    exact hg.cell_far ⟨b, _, none⟩ hb hne
theorem same_below {P : Program} {f : Nat} {args : Array Value} {w : World} {v : Value} (h : Calls P f args w fun e w' => e = .returned v ∧ w = w') : Calls P f args w fun e w' => e = .returned v ∧ Below w.heap.size w w' :=
  h.mono fun _ _ ⟨a, b⟩ => ⟨a, b ▸ Below.refl _ _⟩
set_option maxRecDepth 100000 in
set_option maxHeartbeats 8000000 in
theorem duties_law (L O : Int) (A : Option Addr) (n cp : Nat) (cs : List Cel) (B : Option Addr) (m cq : Nat) (l : List Chg) (c : Cel) (node : Int) (w : World) (h1 : CelS w A n cs) (h2 : ChgS w B m l) (ok1 : ∀ c ∈ cs, c.ok) (ok2 : ∀ x ∈ l, x.cell.ok) :
    Calls Try.prog 4 #[.agg #[.int .i64 L, .int .i64 O, .slice A n cp], .slice B m cq, .agg #[.int .i64 c.slot, .int .i64 c.offset, .int .i64 c.frm, .int .i64 c.to, .int .i64 c.flow], .int .i64 node] w fun e w' => e = .returned (.bool true) ∧ Below w.heap.size w w' := by
  have hs1 := h1.small
  have hs2 := h2.small
  have hl2 := h2.len
  have hb := ballN (ball w (.cells #[.int .i64 L, .int .i64 O, .slice A n cp] 24)) (.cells #[.int .i64 c.slot, .int .i64 c.offset, .int .i64 c.frm, .int .i64 c.to, .int .i64 c.flow] 34)
  have BX := (Box.new w #[.int .i64 L, .int .i64 O, .slice A n cp] 24).alloc (.cells #[.int .i64 c.slot, .int .i64 c.offset, .int .i64 c.frm, .int .i64 c.to, .int .i64 c.flow] 34)
  have BC := Box.new (w.alloc (.cells #[.int .i64 L, .int .i64 O, .slice A n cp] 24)) #[.int .i64 c.slot, .int .i64 c.offset, .int .i64 c.frm, .int .i64 c.to, .int .i64 c.flow] 34
  rw [size1] at BC
  have cA := fun W => awake_any W
  have cF := fun W => few_any L O A n cp B m cq W hs1 hs2
  have cP := fun W (k1 : CelS W A n cs) (k2 : ChgS W B m l) (hn : n ≤ 100000) (hm : m ≤ 100000) => cp_any L O A n cp cs B m cq l W k1 k2 hn hm
  have hg : (chkN L O cs l).2 = 0 → Ends cs l c ∧ m ≤ 1024 := fun h0 => ⟨ends_of ((right_of h0).okL c), by rw [← hl2]; exact (right_of h0).few⟩
  have cT := fun A n cp B cq W (k1 : CelS W A n cs) (k2 : ChgS W B m l) => Times_any L O A n cp cs B m cq l c W k1 k2 ok1 ok2 hg
  have cR := fun W (k1 : CelS W A n cs) (k2 : ChgS W B m l) => rTimes_any L O A n cp cs B m cq l c W k1 k2
  have cD := fun A n cp B cq W (k1 : CelS W A n cs) (k2 : ChgS W B m l) => dutR_any L O A n cp cs B m cq l node W k1 k2 ok1 ok2
  have cE := fun W (k1 : CelS W A n cs) (k2 : ChgS W B m l) => rdutR_any L O A n cp cs B m cq l node W k1 k2
  have hU := fun (h0 : (chkN L O cs l).2 = 0) W (k : ChgS W B m l) => same_below (until_any L B m cq l W k ⟨(right_of h0).len.1, (right_of h0).len.2.1⟩ (timesP_eq (right_of h0)))
  have hV := fun (h0 : (chkN L O cs l).2 = 0) W (k : ChgS W B m l) => same_below (runtil_any L B m cq l W k ⟨(right_of h0).len.1, (right_of h0).len.2.1⟩ (timesP_eq (right_of h0)))
  have hfew : fewB n m = true → n ≤ 100000 ∧ m ≤ 100000 := by
    unfold fewB
    simp only [Bool.and_eq_true, Bool.or_eq_true, decide_eq_true_eq]
    omega
  generalize untilN L l = UN at *
  generalize timesR L O cs l c = TR at *
  generalize dutR L O cs l node = DR at *
  generalize codR L O cs l node = CD at *
  generalize chkN L O cs l = R at *
  obtain ⟨r1, r2⟩ := R
  dsimp only at hU hV
  clear hg
  generalize fewB n m = FW at *
  obtain ⟨c0, c1, c2, c3, c4⟩ := c
  dsimp only at hb BX BC cT cR
  have kx := BX.at_
  have kc := BC.at_
  replace h1 := Lib.hid h1
  replace h2 := Lib.hid h2
  replace hb := Lib.hid hb
  replace BX := Lib.hid BX
  replace BC := Lib.hid BC
  replace cA := Lib.hid cA
  replace cF := Lib.hid cF
  replace cP := Lib.hid cP
  replace cT := Lib.hid cT
  replace cR := Lib.hid cR
  replace cD := Lib.hid cD
  replace cE := Lib.hid cE
  replace hs1 := Lib.hid hs1
  replace hs2 := Lib.hid hs2
  replace hl2 := Lib.hid hl2
  replace ok1 := Lib.hid ok1
  replace ok2 := Lib.hid ok2
  replace hU := Lib.hid hU
  replace hV := Lib.hid hV
  replace hfew := Lib.hid hfew
  go_enter Try.func4, Try.ntmps4
  go_wp2_with fail
  clear kx kc
  generalize (w.alloc (.cells #[.int .i64 L, .int .i64 O, .slice A n cp] 24)).alloc (.cells #[.int .i64 c0, .int .i64 c1, .int .i64 c2, .int .i64 c3, .int .i64 c4] 34) = w0 at *
  refine (cA.out _).mono ?_
  rintro e w1 ⟨rfl, hb_⟩
  replace hb := Lib.hid (hb.out.keep hb_)
  replace BX := Lib.hid (BX.out.keep hb_)
  replace BC := Lib.hid (BC.out.keep hb_)
  clear hb_
  have kx := BX.out.at_
  go_wp2_with fail
  refine (cF.out _).mono ?_
  rintro e w2 ⟨rfl, hb_⟩
  clear kx
  replace hb := Lib.hid (hb.out.keep hb_)
  replace BX := Lib.hid (BX.out.keep hb_)
  replace BC := Lib.hid (BC.out.keep hb_)
  clear hb_
  cases FW with
  | false =>
    go_wp2_with fail
    refine (cA.out w2).mono ?_
    rintro e w3 ⟨rfl, hb_⟩
    replace hb := Lib.hid (hb.out.keep hb_)
    clear hb_
    go_wp2
    go_ret
    exact ⟨rfl, hb.out⟩
  | true =>
  obtain ⟨hn, hm⟩ := hfew.out (by trivial)
  have cP2 := cP.out w2 (h1.out.keep hb.out) (h2.out.keep hb.out) hn hm
  have kx := BX.out.at_
  replace cP2 := Lib.hid cP2
  go_wp2_with fail
  refine cP2.out.mono ?_
  rintro e w3 ⟨A2, d2, B2, e2, rfl, hc2, hg2, hb_⟩
  clear kx cP2
  replace hb := Lib.hid (hb.out.keep hb_)
  replace BX := Lib.hid (BX.out.keep hb_)
  replace BC := Lib.hid (BC.out.keep hb_)
  clear hb_
  have hlt4 : w.heap.size + 1 < w3.heap.size := BC.out.lt
  have BS := Lib.hid (Blk.new w3 #[.int .i64 L, .int .i64 O, .slice A2 n d2] 24)
  have hbb := ball w3 (.cells #[.int .i64 L, .int .i64 O, .slice A2 n d2] 24)
  replace hb := Lib.hid (hb.out.keep hbb)
  replace BX := Lib.hid (BX.out.keep hbb)
  replace BC := Lib.hid (BC.out.keep hbb)
  replace hc2 := Lib.hid (hc2.keep hbb)
  replace hg2 := Lib.hid (hg2.keep hbb)
  clear hbb
  go_upto_region 4 with fail
  generalize hBs : w3.heap.size = Bs at *
  generalize w3.alloc (.cells #[.int .i64 L, .int .i64 O, .slice A2 n d2] 24) = w4 at *
  replace hBs := Lib.hid hBs
  have kx := BS.out.box.at_
  have kc := BC.out.at_
  have cT2 := cT.out A2 n d2 B2 e2 w4 hc2.out hg2.out
  replace cT2 := Lib.hid cT2
  go_wp2_with fail
  have hbs4 := BS.out.lt
  refine cT2.out.mono ?_
  rintro e w5 ⟨A5, c5, rfl, ho5, hb_⟩
  clear kx kc cT2 hc2 hg2
  replace hb := Lib.hid (hb.out.keep hb_)
  replace BX := Lib.hid (BX.out.keep hb_)
  replace BC := Lib.hid (BC.out.keep hb_)
  replace BS := Lib.hid (BS.out.keep hb_)
  have hbs5 := BS.out.lt
  have HO5 : Hid (w5.ownsRow (Bs + 1) 42 2 (.slice A5 TR.length c5) TR.length (TR.flatMap prE)) := own_base ho5 hbs4
  clear ho5 hb_ hbs5
  dsimp only
  have kx := BX.out.at_
  have kc := BC.out.at_
  have cR2 := cR.out w5 (h1.out.keep hb.out) (h2.out.keep hb.out)
  replace cR2 := Lib.hid cR2
  go_wp2_with fail
  refine cR2.out.mono ?_
  rintro e w6 ⟨A6, c6, rfl, ho6, hb_⟩
  clear kx kc cR2
  have hbs6 := BS.out.lt
  replace hb := Lib.hid (hb.out.keep hb_)
  replace BX := Lib.hid (BX.out.keep hb_)
  replace BC := Lib.hid (BC.out.keep hb_)
  replace BS := Lib.hid (BS.out.keep hb_)
  have HO6 : Hid (w6.ownsRow (Bs + 1) 42 2 (.slice A6 TR.length c6) TR.length (TR.flatMap prE)) := own_base ho6 hbs6
  replace HO5 := Lib.hid (owns_keep HO5.out hb_)
  clear ho6 hb_ hbs6
  dsimp only
  have cP2 := cP.out w6 (h1.out.keep hb.out) (h2.out.keep hb.out) hn hm
  have kx := BX.out.at_
  replace cP2 := Lib.hid cP2
  go_wp2_with fail
  refine cP2.out.mono ?_
  rintro e w7 ⟨A7, d7, B7, e7, rfl, hc7, hg7, hb_⟩
  clear kx cP2
  replace hb := Lib.hid (hb.out.keep hb_)
  replace BX := Lib.hid (BX.out.keep hb_)
  replace BC := Lib.hid (BC.out.keep hb_)
  replace BS := Lib.hid (BS.out.keep hb_)
  replace HO5 := Lib.hid (owns_keep HO5.out hb_)
  replace HO6 := Lib.hid (owns_keep HO6.out hb_)
  clear hb_
  have hW : ∃ W, W = ((w7.setCell ⟨Bs, 0, none⟩ (.int .i64 L)).setCell ⟨Bs, 1, none⟩ (.int .i64 O)).setCell ⟨Bs, 2, none⟩ (.slice A7 n d7) := ⟨_, rfl⟩
  obtain ⟨W, hW⟩ := hW
  have hbS : Below Bs w7 W := by rw [hW]; refine Below.setCell (Below.setCell (Below.setCell (Below.refl _ _) ?_ _) ?_ _) ?_ _ <;> exact Nat.le_refl _
  have hgS : w7.grownBy W (some Bs) := by rw [hW]; exact gb_trans (gb_trans (gb_set1 _ _ _ _) (gb_set1 _ _ _ _)) (gb_set1 _ _ _ _)
  have BSW : Hid (Blk W Bs #[.int .i64 L, .int .i64 O, .slice A7 n d7] 24) := by
    show Blk _ _ _ _
    rw [hW]
    have := ((BS.out.set 0 (.int .i64 L)).set 1 (.int .i64 O)).set 2 (.slice A7 n d7)
    simpa using this
  have hbW : Hid (Below w.heap.size w W) := hb.out.trans (hbS.mono (by have := hBs.out; omega))
  have BXW := Lib.hid (BX.out.underM hbS (by have := hBs.out; have := BX.out.lt; have := hlt4; omega) (Nat.le_of_lt BS.out.lt))
  have BCW := Lib.hid (BC.out.underM hbS (by have := hBs.out; have := hlt4; omega) (Nat.le_of_lt BS.out.lt))
  have hcW := Lib.hid (hc7.grownBlk celE_len BS.out (by simp) hgS)
  have hgW := Lib.hid (hg7.grownBlk chgE_len BS.out (by simp) hgS)
  have HO5W : Hid (W.ownsRow (Bs + 1) 42 2 (.slice A5 TR.length c5) TR.length (TR.flatMap prE)) := by
    show World.ownsRow _ _ _ _ _ _ _
    rw [hW]; exact own_apart (own_apart (own_apart HO5.out (by omega)) (by omega)) (by omega)
  have HO6W : Hid (W.ownsRow (Bs + 1) 42 2 (.slice A6 TR.length c6) TR.length (TR.flatMap prE)) := by
    show World.ownsRow _ _ _ _ _ _ _
    rw [hW]; exact own_apart (own_apart (own_apart HO6.out (by omega)) (by omega)) (by omega)
  have kS := BS.out.cell
  have kSf := BS.out.free
  have hW2 := hW.symm
  clear hc7 hg7 hbS hgS hb BX BC BS HO5 HO6
  replace hW := Lib.hid hW
  go_upto_region 7 with fail
  clear kS kSf
  generalize ((w7.setCell ⟨Bs, 0, none⟩ (.int .i64 L)).setCell ⟨Bs, 1, none⟩ (.int .i64 O)).setCell ⟨Bs, 2, none⟩ (.slice A7 n d7) = W9 at *
  subst hW2
  clear hW
  have kS := BSW.out.box.at_
  have cD2 := cD.out A7 n d7 B7 e7 W9 hcW.out hgW.out
  replace cD2 := Lib.hid cD2
  go_wp2_with fail
  refine cD2.out.mono ?_
  rintro e w8 ⟨A8, c8, rfl, h8, hb_⟩
  clear kS cD2 hcW hgW BSW
  replace hbW := Lib.hid (hbW.out.keep hb_)
  replace BXW := Lib.hid (BXW.out.keep hb_)
  replace BCW := Lib.hid (BCW.out.keep hb_)
  replace HO5W := Lib.hid (owns_keep HO5W.out hb_)
  replace HO6W := Lib.hid (owns_keep HO6W.out hb_)
  clear hb_
  have kx := BXW.out.at_
  have cE2 := cE.out w8 (h1.out.keep hbW.out) (h2.out.keep hbW.out)
  replace cE2 := Lib.hid cE2
  replace h8 := Lib.hid h8
  go_wp2_with fail
  refine cE2.out.mono ?_
  rintro e w9 ⟨A9, c9, rfl, h9, hb_⟩
  clear kx cE2
  replace h8 := Lib.hid (h8.out.keep hb_)
  replace hbW := Lib.hid (hbW.out.keep hb_)
  replace BXW := Lib.hid (BXW.out.keep hb_)
  replace BCW := Lib.hid (BCW.out.keep hb_)
  replace HO5W := Lib.hid (owns_keep HO5W.out hb_)
  replace HO6W := Lib.hid (owns_keep HO6W.out hb_)
  clear hb_
  have hP5 := Lib.hid (Sls.of_owns prE_len HO5W.out rfl).2
  have hP6 := Lib.hid (Sls.of_owns prE_len HO6W.out rfl).2
  have h2W := Lib.hid (h2.out.keep hbW.out)
  have gx := BXW.out.grown
  replace h9 := Lib.hid h9
  have c1 := fun W (k1 : PrS W A5 TR.length TR) (k2 : PrS W A6 TR.length TR) => equalP_any A5 A6 TR.length TR.length c5 c6 TR TR W k1 k2
  have c2 := fun W (k1 : DutS W A8 DR.length DR) (k2 : DutS W A9 DR.length DR) => equalD_any A8 A9 DR.length DR.length c8 c9 DR DR W k1 k2
  simp only [decide_true] at c1 c2
  generalize TR.length = tn at *
  generalize DR.length = dn at *
  have k1 : ∀ d os, Calls Try.prog 19 #[.slice A5 tn c5, .slice A6 tn c6] (grow (redrawn w9 d) os) fun e w'' => e = .returned (.bool true) ∧ ∃ p : Regrown, w'' = grow (redrawn w9 p.d) p.os :=
    fun d os => Calls.regrown_of (c1 _ (hP5.out.keep (below_regrown w9 d os)) (hP6.out.keep (below_regrown w9 d os)))
  replace k1 := Lib.hid k1
  have k2 : ∀ d os, Calls Try.prog 20 #[.slice A8 dn c8, .slice A9 dn c9] (grow (redrawn w9 d) os) fun e w'' => e = .returned (.bool true) ∧ ∃ p : Regrown, w'' = grow (redrawn w9 p.d) p.os :=
    fun d os => Calls.regrown_of (c2 _ (h8.out.keep (below_regrown w9 d os)) (h9.out.keep (below_regrown w9 d os)))
  replace k2 := Lib.hid k2
  replace c1 := Lib.hid c1
  replace c2 := Lib.hid c2
  by_cases h0 : r2 = 0
  · subst h0
    have hU2 := hU.out (by trivial)
    have hV2 := hV.out (by trivial)
    have k3 : ∀ d os, Calls Try.prog 21 #[.slice B m cq, .int .i64 L] (grow (redrawn w9 d) os) fun e w'' => e = .returned (.int .i64 UN) ∧ ∃ p : Regrown, w'' = grow (redrawn w9 p.d) p.os :=
      fun d os => Calls.regrown_of (hU2 _ (h2W.out.keep (below_regrown w9 d os)))
    replace k3 := Lib.hid k3
    have k4 : ∀ d os, Calls Try.prog 22 #[.slice B m cq, .int .i64 L] (grow (redrawn w9 d) os) fun e w'' => e = .returned (.int .i64 UN) ∧ ∃ p : Regrown, w'' = grow (redrawn w9 p.d) p.os :=
      fun d os => Calls.regrown_of (hV2 _ (h2W.out.keep (below_regrown w9 d os)))
    replace k4 := Lib.hid k4
    replace hU2 := Lib.hid hU2
    replace hV2 := Lib.hid hV2
    go_wp2_with fail
    refine wp_region_quiet_below (by kernel_rfl) (by kernel_rfl) ?_
    repeat (go_big_quiet_step ((first | exact k1.out _ _ | exact k2.out _ _ | exact k3.out _ _ | exact k4.out _ _)))
    refine wpQuiet_nil ?_
    rintro _ ⟨⟨dq, osq⟩, rfl⟩
    have hb_ := below_regrown w9 dq osq
    replace hbW := Lib.hid (hbW.out.keep hb_)
    generalize grow (redrawn w9 dq) osq = w10 at *
    clear hb_
    go_wp2
    go_ret
    exact ⟨by first | rfl | simp, hbW.out⟩
  · have d : (r2 != 0) = true := by rw [bne_iff_ne]; exact h0
    replace h0 := Lib.hid h0
    go_wp2_with fail
    refine wp_region_quiet_below (by kernel_rfl) (by kernel_rfl) ?_
    repeat (go_big_quiet_step ((first | exact k1.out _ _ | exact k2.out _ _)))
    refine wpQuiet_nil ?_
    rintro _ ⟨⟨dq, osq⟩, rfl⟩
    have hb_ := below_regrown w9 dq osq
    replace hbW := Lib.hid (hbW.out.keep hb_)
    generalize grow (redrawn w9 dq) osq = w10 at *
    clear hb_
    go_wp2
    go_ret
    exact ⟨by first | rfl | simp, hbW.out⟩
theorem switchoverDuties_walk (L O : Int) (A : Option Addr) (n cp : Nat) (cs : List Cel) (B : Option Addr) (m cq : Nat) (l : List Chg) (c0 c1 c2 c3 c4 : Int) (node : Int) (w : World) (_ : (Lit.int .i64 L).wf = true) (_ : (Lit.int .i64 O).wf = true) (h1 : CelS w A n cs ∧ ∀ c ∈ cs, c.ok) (h2 : ChgS w B m l ∧ ∀ x ∈ l, I64 x.slot ∧ x.cell.ok) (_ : (Lit.int .i64 c0).wf = true) (_ : (Lit.int .i64 c1).wf = true) (_ : (Lit.int .i64 c2).wf = true) (_ : (Lit.int .i64 c3).wf = true) (_ : (Lit.int .i64 c4).wf = true) (_ : (Lit.int .i64 node).wf = true) :
    Calls Try.prog 4 #[.agg #[.int .i64 L, .int .i64 O, .slice A n cp], .slice B m cq, .agg #[.int .i64 c0, .int .i64 c1, .int .i64 c2, .int .i64 c3, .int .i64 c4], .int .i64 node] w fun e w' => e = .returned (.bool true) ∧ Below w.heap.size w w' :=
  duties_law L O A n cp cs B m cq l ⟨c0, c1, c2, c3, c4⟩ node w h1.1 h2.1 h1.2 (fun x hx => (h2.2 x hx).2)
end Sw
end Go.Proofs.Ytdlgdmbcbenlbaa
