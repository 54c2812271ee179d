/- The law Around. -/
import Derived.Test.YtdlgdmbcbenlbaaSwL3
set_option linter.unusedVariables false
set_option linter.unusedSimpArgs false
namespace Go.Proofs.Ytdlgdmbcbenlbaa
open Go Go.RowKit Go.Sort
namespace Sw
open Mm
theorem eCv1 : ∀ args w, (callFunc 56 args).run Try.prog w = .ok (.enter 56 args) w := enters_of Try.func56 (by kernel_rfl) rfl
set_option maxRecDepth 100000 in
set_option maxHeartbeats 2000000 in
theorem cv_any (d : Dut) (c : Cel) (y : Int) (B1 B2 : Nat) (w : World) (h1 : Box w B1 #[.int .i64 c.slot, .int .i64 c.offset, .int .i64 c.frm, .int .i64 c.to, .int .i64 c.flow]) (h2 : Box w B2 #[.int .i64 y]) :
    Calls Try.prog 56 (#[.agg #[.int .i64 d.cell.slot, .int .i64 d.cell.offset, .int .i64 d.cell.frm, .int .i64 d.cell.to, .int .i64 d.cell.flow, .bool d.sends, .bool d.extra, .int .i64 d.first, .int .i64 d.til]] ++ #[.pointer (some ⟨B1, 0, none⟩), .pointer (some ⟨B2, 0, none⟩)]) w fun e w' => e = .returned (.bool (cvB c y d)) ∧ Below w.heap.size w w' := by
  show Calls Try.prog 56 #[.agg #[.int .i64 d.cell.slot, .int .i64 d.cell.offset, .int .i64 d.cell.frm, .int .i64 d.cell.to, .int .i64 d.cell.flow, .bool d.sends, .bool d.extra, .int .i64 d.first, .int .i64 d.til], .pointer (some ⟨B1, 0, none⟩), .pointer (some ⟨B2, 0, none⟩)] w _
  have ke := fun W => eql_cel d.cell c W
  have hR : cvB c y d = (!d.sends && (eqC d.cell c && (decide (d.first ≤ y) && (decide (d.til = -1) || decide (y < d.til))))) := rfl
  generalize cvB c y d = R at *
  generalize eqC d.cell c = E at *
  obtain ⟨⟨x0, x1, x2, x3, x4⟩, x5, x6, x7, x8⟩ := d
  obtain ⟨c0, c1, c2, c3, c4⟩ := c
  dsimp only at *
  have hbw := ball w (.cells #[.int .i64 x0, .int .i64 x1, .int .i64 x2, .int .i64 x3, .int .i64 x4, .bool x5, .bool x6, .int .i64 x7, .int .i64 x8] 45)
  have BD := Box.new w #[.int .i64 x0, .int .i64 x1, .int .i64 x2, .int .i64 x3, .int .i64 x4, .bool x5, .bool x6, .int .i64 x7, .int .i64 x8] 45
  have BC := h1.alloc (.cells #[.int .i64 x0, .int .i64 x1, .int .i64 x2, .int .i64 x3, .int .i64 x4, .bool x5, .bool x6, .int .i64 x7, .int .i64 x8] 45)
  have BY := h2.alloc (.cells #[.int .i64 x0, .int .i64 x1, .int .i64 x2, .int .i64 x3, .int .i64 x4, .bool x5, .bool x6, .int .i64 x7, .int .i64 x8] 45)
  have kd := BD.at_
  have kc := BC.at_
  have ky0 := BY.at_ 0
  have ky : (w.alloc (.cells #[.int .i64 x0, .int .i64 x1, .int .i64 x2, .int .i64 x3, .int .i64 x4, .bool x5, .bool x6, .int .i64 x7, .int .i64 x8] 45)).cell? ⟨B2, 0, none⟩ = some (.int .i64 y) := ky0
  clear ky0
  replace h1 := Lib.hid h1
  replace h2 := Lib.hid h2
  replace hbw := Lib.hid hbw
  replace BD := Lib.hid BD
  replace BC := Lib.hid BC
  replace BY := Lib.hid BY
  cases x5 with
  | true =>
    have hR2 : Hid (R = false) := by show _ = _; rw [hR]; rfl
    clear hR
    go_enter Try.func56, Try.ntmps56
    go_wp2
    go_ret
    exact ⟨by rw [hR2.out]; rfl, hbw.out⟩
  | false =>
  cases E with
  | false =>
    have hR2 : Hid (R = false) := by show _ = _; rw [hR]; rfl
    clear hR
    go_enter Try.func56, Try.ntmps56
    go_wp2
    go_ret
    exact ⟨by rw [hR2.out]; rfl, hbw.out⟩
  | true =>
  by_cases g1 : x7 ≤ y
  case neg =>
    have d1 : decide (x7 ≤ y) = false := by simpa using g1
    have hR2 : Hid (R = false) := by show _ = _; rw [hR, d1]; rfl
    clear hR
    replace g1 := Lib.hid g1
    go_enter Try.func56, Try.ntmps56
    go_wp2
    go_ret
    exact ⟨by rw [hR2.out]; rfl, hbw.out⟩
  by_cases g2 : x8 = -1
  · have hR2 : Hid (R = true) := by show _ = _; rw [hR]; simp [g1, g2]
    have d2 : (x8 == -1) = true := by simpa using g2
    clear hR
    replace g2 := Lib.hid g2
    go_enter Try.func56, Try.ntmps56
    go_wp2
    go_ret
    exact ⟨by rw [hR2.out]; rfl, hbw.out⟩
  have d2 : (x8 == -1) = false := by simpa using g2
  by_cases g3 : y < x8
  · have hR2 : Hid (R = true) := by show _ = _; rw [hR]; simp [g1, g3]
    clear hR
    replace g2 := Lib.hid g2
    go_enter Try.func56, Try.ntmps56
    go_wp2
    go_ret
    exact ⟨by rw [hR2.out]; rfl, hbw.out⟩
  · have hR2 : Hid (R = false) := by show _ = _; rw [hR]; simp [g2, g3]
    have d3 : decide (y < x8) = false := by simpa using g3
    clear hR
    replace g2 := Lib.hid g2
    replace g3 := Lib.hid g3
    go_enter Try.func56, Try.ntmps56
    go_wp2
    go_ret
    exact ⟨by rw [hR2.out]; rfl, hbw.out⟩
set_option maxRecDepth 100000 in
set_option maxHeartbeats 1000000 in
theorem covers_any (A : Option Addr) (n cp : Nat) (ds : List Dut) (c : Cel) (y : Int) (w : World) (h : DutS w A n ds) :
    Calls Try.prog 24 #[.slice A n cp, .agg #[.int .i64 c.slot, .int .i64 c.offset, .int .i64 c.frm, .int .i64 c.to, .int .i64 c.flow], .int .i64 y] w fun e w' => e = .returned (.bool (ds.any (cvB c y))) ∧ Below w.heap.size w w' := by
  have hb2 := ballN (ball w (.cells #[.int .i64 c.slot, .int .i64 c.offset, .int .i64 c.frm, .int .i64 c.to, .int .i64 c.flow] 34)) (.cells #[.int .i64 y] 3)
  have BC := (Box.new w #[.int .i64 c.slot, .int .i64 c.offset, .int .i64 c.frm, .int .i64 c.to, .int .i64 c.flow] 34).alloc (.cells #[.int .i64 y] 3)
  have BY := Box.new (w.alloc (.cells #[.int .i64 c.slot, .int .i64 c.offset, .int .i64 c.frm, .int .i64 c.to, .int .i64 c.flow] 34)) #[.int .i64 y] 3
  rw [size1] at BY
  have cF := ctnFnD_any 56 #[.pointer (some ⟨w.heap.size, 0, none⟩), .pointer (some ⟨w.heap.size + 1, 0, none⟩)] (cvB c y) A n cp ds _ eCv1 (h.keep hb2) (fun x _ W hb => cv_any x c y _ _ W (BC.keep hb) (BY.keep hb))
  generalize ds.any (cvB c y) = R at *
  obtain ⟨c0, c1, c2, c3, c4⟩ := c
  dsimp only at *
  replace h := Lib.hid h
  replace hb2 := Lib.hid hb2
  replace BC := Lib.hid BC
  replace BY := Lib.hid BY
  replace cF := Lib.hid cF
  go_enter Try.func24, Try.ntmps24
  go_wp2_with fail
  refine cF.out.mono ?_
  rintro e w1 ⟨rfl, hb_⟩
  have hB := Lib.hid (bthen hb2.out hb_)
  clear hb_
  go_wp2
  go_ret
  exact ⟨rfl, hB.out⟩
set_option maxRecDepth 100000 in
set_option maxHeartbeats 8000000 in
theorem around_law (L O : Int) (A : Option Addr) (n cp : Nat) (cs : List Cel) (B : Option Addr) (m cq : Nat) (l : List Chg) (from_ by_ : Int) (w : World) (h1 : CelS w A n cs) (h2 : ChgS w B m l) (ok1 : ∀ c ∈ cs, c.ok) (ok2 : ∀ x ∈ l, x.cell.ok) (hm0 : 0 ≤ by_) (hm1 : by_ ≤ 255) :
    Calls Try.prog 5 #[.agg #[.int .i64 L, .int .i64 O, .slice A n cp], .slice B m cq, .int .i64 from_, .int .u8 by_] w fun e w' => e = .returned (.bool true) ∧ Below w.heap.size w w' := by
  have hs1 := h1.small
  have hs2 := h2.small
  have hl1 := h1.len
  have hl2 := h2.len
  have hb := ball w (.cells #[.int .i64 L, .int .i64 O, .slice A n cp] 24)
  have BX := Box.new w #[.int .i64 L, .int .i64 O, .slice A n cp] 24
  have cA := fun W => awake_any W
  have cF := fun W => few_any L O A n cp B m cq W hs1 hs2
  have cK := fun W (k1 : CelS W A n cs) (k2 : ChgS W B m l) => check_any L O A n cp cs B m cq l W k1 k2 ok1 ok2
  have hRi := fun (h0 : (chkN L O cs l).2 = 0) => right_of h0
  generalize chkN L O cs l = R at *
  obtain ⟨r1, r2⟩ := R
  dsimp only at hRi
  generalize fewB n m = FW at *
  have kx := BX.at_
  replace h1 := Lib.hid h1
  replace h2 := Lib.hid h2
  replace hb := Lib.hid hb
  replace BX := Lib.hid BX
  replace cA := Lib.hid cA
  replace cF := Lib.hid cF
  replace cK := Lib.hid cK
  replace hs1 := Lib.hid hs1
  replace hs2 := Lib.hid hs2
  replace ok1 := Lib.hid ok1
  replace ok2 := Lib.hid ok2
  replace hRi := Lib.hid hRi
  replace hl1 := Lib.hid hl1
  replace hl2 := Lib.hid hl2
  go_enter Try.func5, Try.ntmps5
  go_wp2_with fail
  clear kx
  generalize w.alloc (.cells #[.int .i64 L, .int .i64 O, .slice A n cp] 24) = w0 at *
  refine (cA.out _).mono ?_
  rintro e w1 ⟨rfl, hb_⟩
  replace hb := Lib.hid (hb.out.keep hb_)
  replace BX := Lib.hid (BX.out.keep hb_)
  clear hb_
  have kx := BX.out.at_
  go_wp2_with fail
  refine (cF.out _).mono ?_
  rintro e w2 ⟨rfl, hb_⟩
  clear kx
  replace hb := Lib.hid (hb.out.keep hb_)
  replace BX := Lib.hid (BX.out.keep hb_)
  clear hb_
  have hAw : Hid (∀ W, Below w.heap.size w W → Calls Try.prog 10 #[] W fun e w' => e = .returned (.bool true) ∧ Below w.heap.size w w') := fun W h => (cA.out W).mono fun _ _ k => ⟨k.1, bthen h k.2⟩
  cases FW with
  | false =>
    go_wp2_with fail
    refine (hAw.out _ hb.out).mono ?_
    rintro e w3 ⟨rfl, hb_⟩
    replace hb_ := Lib.hid hb_
    go_wp2
    go_ret
    exact ⟨rfl, hb_.out⟩
  | true =>
  by_cases hf0 : from_ < 0
  · go_wp2_with fail
    refine (hAw.out _ hb.out).mono ?_
    rintro e w3 ⟨rfl, hb_⟩
    replace hb_ := Lib.hid hb_
    go_wp2
    go_ret
    exact ⟨rfl, hb_.out⟩
  by_cases hf1 : 4096 < from_
  · have hf2 : 0 ≤ from_ := by omega
    go_wp2_with fail
    refine (hAw.out _ hb.out).mono ?_
    rintro e w3 ⟨rfl, hb_⟩
    replace hb_ := Lib.hid hb_
    go_wp2
    go_ret
    exact ⟨rfl, hb_.out⟩
  have hf2 : 0 ≤ from_ := by omega
  have hf3 : from_ ≤ 4096 := by omega
  clear hf0 hf1
  have cK2 := cK.out w2 (h1.out.keep hb.out) (h2.out.keep hb.out)
  unfold CkPost at cK2
  have kx := BX.out.at_
  replace cK2 := Lib.hid cK2
  go_wp2_with fail
  refine cK2.out.mono ?_
  rintro e w3 ⟨rfl, hb_⟩
  clear kx
  replace hb := Lib.hid (hb.out.keep hb_)
  replace BX := Lib.hid (BX.out.keep hb_)
  clear hb_ cK2
  dsimp only
  by_cases h0 : r2 = 0
  case neg =>
    have d : (r2 != 0) = true := by rw [bne_iff_ne]; exact h0
    replace h0 := Lib.hid h0
    go_wp2
    go_ret
    exact ⟨rfl, hb.out⟩
  have hR := hRi.out h0
  subst h0
  have hLL := hR.len
  have hL1 := hLL.1
  have hL2 := hLL.2.1
  have hfew := hR.few
  have hM0 : 0 ≤ by_ % L := Int.emod_nonneg _ (by omega)
  have hM1 : by_ % L < L := Int.emod_lt_of_pos _ (by omega)
  have har := fun n d (hd : d ∈ allD L cs l n) (hs : d.sends = true) slot (hin : d.first ≤ slot ∧ (d.til = -1 ∨ slot < d.til)) => around_ok hR hd hs hM0 hM1 hin
  have hto := fun n d (hd : d ∈ allD L cs l n) => (cell_ne hR (all_mem hd).1).2.2
  have cNo := fun W (k1 : CelS W A n cs) (k2 : ChgS W B m l) => nodes_any L O A n cp cs B m cq l W k1 k2 (by rw [← hl1.out]; omega) (by rw [← hl2.out]; omega)
  have cDu := fun nd W (k1 : CelS W A n cs) (k2 : ChgS W B m l) hnd => duN_any L O A n cp cs B m cq l nd W k1 k2 ok1.out ok2.out hR hnd
  have hnn := fun k (hk : k < (nodesL cs l).length) => nodes_in hR (ok_at (P := (· ∈ nodesL cs l)) (fun _ h => h) hk)
  have hnl := (nodesL_ok cs l).2.2
  have hdl := fun n => allD_len hR n
  generalize hNL : nodesL cs l = NL at *
  generalize hMM : by_ % L = M at *
  have hnl2 : NL.length ≤ 4000 := by omega
  clear hLL hnl hfew
  replace hR := Lib.hid hR
  replace har := Lib.hid har
  replace hto := Lib.hid hto
  replace cNo := Lib.hid cNo
  replace cDu := Lib.hid cDu
  replace hnn := Lib.hid hnn
  replace hNL := Lib.hid hNL
  replace hRi := Lib.hid hRi
  replace hdl := Lib.hid hdl
  have cNo2 := cNo.out w3 (h1.out.keep hb.out) (h2.out.keep hb.out)
  have kx := BX.out.at_
  replace cNo2 := Lib.hid cNo2
  go_wp2_with fail
  refine cNo2.out.mono ?_
  rintro e w5 ⟨A5, c5, rfl, h5, hb_⟩
  clear kx
  replace hb := Lib.hid (hb.out.keep hb_)
  replace BX := Lib.hid (BX.out.keep hb_)
  replace h5 := Lib.hid h5
  clear hb_ cNo2 cNo
  generalize hnN : NL.length = nN at *
  replace hnN := Lib.hid hnN
  go_wp2_with fail
  go_loopw [12, 13, 14, 17, 18, 19, 20, 21, 22, 52, 67] (fun _ _ _ _ _ _ _ _ _ i _ wr => ∃ (k : Nat), k ≤ nN ∧ i = .int .i64 k ∧ Hid (Below w5.heap.size w5 wr)) (fun _ _ _ _ _ _ _ _ _ i _ _ => nN - (intOf i).toNat)
  case atStart => exact ⟨0, by omega, rfl, Below.refl _ _⟩
  case round =>
    obtain ⟨k, hk, rfl, HB⟩ := hrel
    have HBw := Lib.hid (bthen hb.out HB.out)
    by_cases hlt : k < nN
    · obtain ⟨b, off, rfl⟩ := h5.out.addr (by omega)
      have hx := int_at (h5.out.keep HB.out) hlt
      have hnk := hnn.out k hlt
      generalize NL.getD k default = nd at *
      have r1 : (k : Int) < (nN : Int) := by omega
      have kx := (BX.out.keep HB.out).at_
      have cD := cDu.out nd wr (h1.out.keep HBw.out) (h2.out.keep HBw.out) hnk
      replace cD := Lib.hid cD
      replace hnk := Lib.hid hnk
      go_wp2_with fail
      refine cD.out.mono ?_
      rintro e w6 ⟨d6, A6, c6, rfl, hp6, h6, hb_⟩
      clear kx hx
      have HB6 := Lib.hid (bthen HB.out hb_)
      have hdl6 : d6.length ≤ 9000000 := by rw [hp6.length_eq]; exact hdl.out nd
      have hd6 : ∀ d ∈ d6, d ∈ allD L cs l nd := fun d hd => hp6.mem_iff.1 hd
      clear hb_ cD hp6
      generalize hd6l : d6.length = q6 at *
      replace h6 := Lib.hid h6
      replace hd6 := Lib.hid hd6
      replace hd6l := Lib.hid hd6l
      go_wp2_with fail
      go_loopw [17, 18, 19, 20, 21, 22, 67] (fun _ _ _ _ _ _ i wr => ∃ (j : Nat), j ≤ q6 ∧ i = .int .i64 j ∧ Hid (Below w6.heap.size w6 wr)) (fun _ _ _ _ _ _ i _ => q6 - (intOf i).toNat)
      case atStart => exact ⟨0, by omega, rfl, Below.refl _ _⟩
      case round =>
        obtain ⟨j, hj, rfl, HC⟩ := hrel
        have HC5 := Lib.hid (bthen HB6.out HC.out)
        by_cases hlj : j < q6
        · obtain ⟨b, off, rfl⟩ := h6.out.addr (by omega)
          have hx := dut_at (h6.out.keep HC.out) hlj
          have hdj := hd6.out _ (ok_at (P := (· ∈ d6)) (fun _ h => h) (by rw [hd6l.out]; exact hlj))
          have htj := hto.out nd _ hdj
          have haj := har.out nd _ hdj
          generalize d6.getD j default = x at *
          obtain ⟨⟨x0, x1, x2, x3, x4⟩, x5, x6, x7, x8⟩ := x
          obtain ⟨q0, q1, q2, q3, q4, q5, q6', q7', q8⟩ := hx
          dsimp only at q0 q1 q2 q3 q4 q5 q6' q7' q8 hdj htj haj
          have BD := Box.new wr #[.int .i64 x0, .int .i64 x1, .int .i64 x2, .int .i64 x3, .int .i64 x4, .bool x5, .bool x6, .int .i64 x7, .int .i64 x8] 45
          have HCb := ballN HC.out (.cells #[.int .i64 x0, .int .i64 x1, .int .i64 x2, .int .i64 x3, .int .i64 x4, .bool x5, .bool x6, .int .i64 x7, .int .i64 x8] 45)
          have HC5b := ballN HC5.out (.cells #[.int .i64 x0, .int .i64 x1, .int .i64 x2, .int .i64 x3, .int .i64 x4, .bool x5, .bool x6, .int .i64 x7, .int .i64 x8] 45)
          have kd := BD.at_
          have r2 : (j : Int) < (q6 : Int) := by omega
          replace BD := Lib.hid BD
          replace HCb := Lib.hid HCb
          replace HC5b := Lib.hid HC5b
          replace hdj := Lib.hid hdj
          replace haj := Lib.hid haj
          cases x5 with
          | false =>
            go_wp2
            go_roundw
            case rel => exact ⟨j + 1, by omega, by go_num, HCb⟩
            case measure => simp [intOf]; omega
          | true =>
            have cD := cDu.out x3 _ (h1.out.keep (bthen hb.out HC5b.out)) (h2.out.keep (bthen hb.out HC5b.out)) htj
            have kx := (BX.out.keep HC5b.out).at_
            replace cD := Lib.hid cD
            clear htj
            go_wp2_with fail
            refine cD.out.mono ?_
            rintro e w8 ⟨d8, A8, c8, rfl, hp8, h8, hb_⟩
            clear kx q0 q1 q2 q3 q4 q5 q6' q7' q8 kd
            generalize hBx : wr.heap.size = Bx at *
            have HC8 := Lib.hid (bthen HCb.out hb_)
            have HC58 := Lib.hid (bthen HC5b.out hb_)
            have BD8 := Lib.hid (BD.out.keep hb_)
            have hcv := fun X (hin : x7 ≤ X ∧ (x8 = -1 ∨ X < x8)) => (by
              have := haj.out (by trivial) X hin
              rw [← hp8.any_eq, ← hp8.any_eq] at this
              exact this : d8.any (cvB ⟨x0, x1, x2, x3, x4⟩ (X + M)) = true ∧ (0 ≤ X - M → d8.any (cvB ⟨x0, x1, x2, x3, x4⟩ (X - M)) = true))
            clear hb_ cD hp8 HCb HC5b haj
            generalize d8.length = q8 at *
            replace h8 := Lib.hid h8
            replace hcv := Lib.hid hcv
            replace BD := Lib.hid BD
            replace hBx := Lib.hid hBx
            go_wp2_with fail
            go_loopw [19, 20, 21, 22] (fun s19 _ _ _ wr => ∃ (q : Nat) (X : Int), q ≤ 60 ∧ X = from_ + q ∧ s19 = .int .i64 X ∧ Hid (Below w8.heap.size w8 wr)) (fun s19 _ _ _ _ => (from_ + 60 - intOf s19).toNat)
            case atStart => exact ⟨0, from_, by omega, by omega, rfl, Below.refl _ _⟩
            case round =>
              obtain ⟨q, X, hq, hX, rfl, HD⟩ := hrel
              have HD5 := Lib.hid (bthen HC58.out HD.out)
              have HD6 := Lib.hid (bthen HC8.out HD.out)
              have hX2 : 0 ≤ X := by omega
              have hX3 : X ≤ 4156 := by omega
              have hXn : Hid (X + 1 = from_ + ((q + 1 : Nat) : Int)) := by show _ = _; omega
              by_cases hlq : q < 60
              · have r3 : X < from_ + 60 := by omega
                have kd := (BD8.out.keep HD.out).at_
                have kx := (BX.out.keep HD5.out).at_
                have hIN : ∃ IN : Bool, (IN = true → x7 ≤ X ∧ (x8 = -1 ∨ X < x8)) ∧ IN = (decide (x7 ≤ X) && (decide (x8 = -1) || decide (X < x8))) := ⟨_, by simp, rfl⟩
                obtain ⟨IN, hIN1, hIN2⟩ := hIN
                replace hX := Lib.hid hX
                replace hIN1 := Lib.hid hIN1
                replace hIN2 := Lib.hid hIN2
                go_upto_region 22 with fail
                go_cut [20] (fun s20 wx => s20 = .bool IN ∧ wx = wr)
                case first =>
                  by_cases g1 : x7 ≤ X
                  case neg =>
                    have d1 : decide (x7 ≤ X) = false := by simpa using g1
                    obtain rfl : IN = false := by rw [hIN2.out, d1]; rfl
                    replace g1 := Lib.hid g1
                    go_wp2_with fail
                    go_meet
                    exact ⟨rfl, rfl⟩
                  by_cases g2 : x8 = -1
                  · have d2 : (x8 == -1) = true := by simpa using g2
                    obtain rfl : IN = true := by rw [hIN2.out]; simp [g1, g2]
                    replace g2 := Lib.hid g2
                    go_wp2_with fail
                    go_meet
                    exact ⟨rfl, rfl⟩
                  have d2 : (x8 == -1) = false := by simpa using g2
                  by_cases g3 : X < x8
                  · obtain rfl : IN = true := by rw [hIN2.out]; simp [g1, g3]
                    replace g2 := Lib.hid g2
                    go_wp2_with fail
                    go_meet
                    exact ⟨rfl, rfl⟩
                  · have d3 : decide (X < x8) = false := by simpa using g3
                    obtain rfl : IN = false := by rw [hIN2.out]; simp [g2, g3]
                    replace g2 := Lib.hid g2
                    replace g3 := Lib.hid g3
                    go_wp2_with fail
                    go_meet
                    exact ⟨rfl, rfl⟩
                case rest =>
                  obtain ⟨rfl, rfl⟩ := hcut
                  cases IN with
                  | false =>
                    go_wp2
                    go_roundw
                    case rel => exact ⟨q + 1, X + 1, by omega, hXn.out, by go_num, HD⟩
                    case measure => simp [intOf]; omega
                  | true =>
                    obtain ⟨cv1, cv2⟩ := hcv.out X (hIN1.out rfl)
                    have cC := covers_any A8 q8 c8 d8 ⟨x0, x1, x2, x3, x4⟩ (X + M) wc (h8.out.keep HD.out)
                    rw [cv1] at cC
                    replace cC := Lib.hid cC
                    replace cv1 := Lib.hid cv1
                    replace cv2 := Lib.hid cv2
                    go_wp2_with fail
                    refine cC.out.mono ?_
                    rintro e w9 ⟨rfl, hb_⟩
                    clear kd kx cC
                    have HE := Lib.hid (bthen HD.out hb_)
                    have HE5 := Lib.hid (bthen HD5.out hb_)
                    clear hb_
                    have kd := (BD8.out.keep HE.out).at_
                    by_cases hbk : 0 ≤ X - M
                    · have hbk2 : M ≤ X := by omega
                      have cC := covers_any A8 q8 c8 d8 ⟨x0, x1, x2, x3, x4⟩ (X - M) w9 (h8.out.keep HE.out)
                      rw [cv2.out hbk] at cC
                      replace cC := Lib.hid cC
                      go_wp2_with fail
                      refine cC.out.mono ?_
                      rintro e w10 ⟨rfl, hb_⟩
                      clear kd cC
                      have HF := Lib.hid (bthen HE.out hb_)
                      clear hb_
                      go_wp2
                      go_roundw
                      case rel => exact ⟨q + 1, X + 1, by omega, hXn.out, by go_num, HF⟩
                      case measure => simp [intOf]; omega
                    · have d1 : decide (0 ≤ X - M) = false := by simpa using hbk
                      have d2 : decide (M ≤ X) = false := by simp; omega
                      replace hbk := Lib.hid hbk
                      go_wp2
                      go_roundw
                      case rel => exact ⟨q + 1, X + 1, by omega, hXn.out, by go_num, HE⟩
                      case measure => simp [intOf]; omega
              · have r3 : decide (X < from_ + 60) = false := by simp; omega
                replace hX := Lib.hid hX
                replace hlq := Lib.hid hlq
                go_wp2
                go_roundw
                case rel => exact ⟨j + 1, by omega, by go_num, HD6⟩
                case measure => simp [intOf]; omega
        · obtain rfl : j = q6 := by omega
          go_wp2
          go_roundw
          case rel => exact ⟨k + 1, by omega, by go_num, HC5⟩
          case measure => simp [intOf]; omega
    · obtain rfl : k = nN := by omega
      go_wp2
      go_ret
      exact ⟨rfl, HBw.out⟩
theorem u8_bd {x : Int} (h : (Lit.int .u8 x).wf = true) : 0 ≤ x ∧ x ≤ 255 := by
  have e1 : IntKind.u8.min = 0 := rfl
  have e2 : IntKind.u8.max = 255 := rfl
  simp [Lit.wf, e1, e2] at h
  omega
theorem switchoverAround_walk (L O : Int) (A : Option Addr) (n cp : Nat) (cs : List Cel) (B : Option Addr) (m cq : Nat) (l : List Chg) (from_ by_ : Int) (w : World) (_ : (Lit.int .i64 L).wf = true) (_ : (Lit.int .i64 O).wf = true) (h1 : CelS w A n cs ∧ ∀ c ∈ cs, c.ok) (h2 : ChgS w B m l ∧ ∀ x ∈ l, I64 x.slot ∧ x.cell.ok) (_ : (Lit.int .i64 from_).wf = true) (hm : (Lit.int .u8 by_).wf = true) :
    Calls Try.prog 5 #[.agg #[.int .i64 L, .int .i64 O, .slice A n cp], .slice B m cq, .int .i64 from_, .int .u8 by_] w fun e w' => e = .returned (.bool true) ∧ Below w.heap.size w w' :=
  around_law L O A n cp cs B m cq l from_ by_ w h1.1 h2.1 h1.2 (fun x hx => (h2.2 x hx).2) (u8_bd hm).1 (u8_bd hm).2
end Sw
end Go.Proofs.Ytdlgdmbcbenlbaa
