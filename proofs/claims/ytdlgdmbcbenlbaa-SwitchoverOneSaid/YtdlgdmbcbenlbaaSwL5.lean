/- The law One. -/
import Derived.Test.YtdlgdmbcbenlbaaSwL4
set_option linter.unusedVariables false
set_option linter.unusedSimpArgs false
namespace Go.Proofs.Ytdlgdmbcbenlbaa
open Go Go.RowKit Go.Sort
namespace Sw
open Mm
theorem allD_small (L : Int) (cs : List Cel) (l : List Chg) (nd : Int) (h1 : cs.length ≤ 24) (h2 : l.length ≤ 16) : (allD L cs l nd).length ≤ 5000 := by
  unfold allD
  have hc : ∀ c, (cellD L cs l nd c).length ≤ 51 := fun c => by
    unfold cellD
    split
    · simp
    · have h3 := flatMap_len (dutiesC c nd L) 3 (dutiesC_len c nd L) (timesC cs l c)
      have h4 := timesC_len cs c l.length l rfl
      omega
  have h3 := flatMap_len (cellD L cs l nd) 51 hc (cellsC cs l)
  have h4 : (cellsC cs l).length ≤ cs.length + l.length := by
    unfold cellsC
    refine Nat.le_trans (cpL_len _) ?_
    rw [(sortC_perm _).length_eq]; simp
  omega
theorem eOn1 : ∀ args w, (callFunc 31 args).run Try.prog w = .ok (.enter 31 args) w := enters_of Try.func31 (by kernel_rfl) rfl
set_option maxRecDepth 100000 in
set_option maxHeartbeats 1000000 in
theorem ex_any (d : Dut) (w : World) :
    Calls Try.prog 31 (#[.agg #[.int .i64 d.cell.slot, .int .i64 d.cell.offset, .int .i64 d.cell.frm, .int .i64 d.cell.to, .int .i64 d.cell.flow, .bool d.sends, .bool d.extra, .int .i64 d.first, .int .i64 d.til]] ++ #[]) w fun e w' => e = .returned (.bool (exB d)) ∧ Below w.heap.size w w' := by
  show Calls Try.prog 31 #[.agg #[.int .i64 d.cell.slot, .int .i64 d.cell.offset, .int .i64 d.cell.frm, .int .i64 d.cell.to, .int .i64 d.cell.flow, .bool d.sends, .bool d.extra, .int .i64 d.first, .int .i64 d.til]] w _
  unfold exB
  obtain ⟨⟨x0, x1, x2, x3, x4⟩, x5, x6, x7, x8⟩ := d
  dsimp only at *
  have hbw := ball w (.cells #[.int .i64 x0, .int .i64 x1, .int .i64 x2, .int .i64 x3, .int .i64 x4, .bool x5, .bool x6, .int .i64 x7, .int .i64 x8] 45)
  have BD := Box.new w #[.int .i64 x0, .int .i64 x1, .int .i64 x2, .int .i64 x3, .int .i64 x4, .bool x5, .bool x6, .int .i64 x7, .int .i64 x8] 45
  have kd := BD.at_
  replace hbw := Lib.hid hbw
  replace BD := Lib.hid BD
  go_enter Try.func31, Try.ntmps31
  go_wp2
  go_ret
  exact ⟨rfl, hbw.out⟩
set_option maxRecDepth 100000 in
set_option maxHeartbeats 8000000 in
theorem one_law (L O : Int) (A : Option Addr) (n cp : Nat) (cs : List Cel) (B : Option Addr) (m cq : Nat) (l : List Chg) (from_ : Int) (w : World) (h1 : CelS w A n cs) (h2 : ChgS w B m l) (ok1 : ∀ c ∈ cs, c.ok) (ok2 : ∀ x ∈ l, x.cell.ok) :
    Calls Try.prog 9 #[.agg #[.int .i64 L, .int .i64 O, .slice A n cp], .slice B m cq, .int .i64 from_] w fun e w' => e = .returned (.bool true) ∧ Below w.heap.size w w' := by
  have hs1 := h1.small
  have hs2 := h2.small
  have hl1 := h1.len
  have hl2 := h2.len
  have hb := ball w (.cells #[.int .i64 L, .int .i64 O, .slice A n cp] 24)
  have BX := Box.new w #[.int .i64 L, .int .i64 O, .slice A n cp] 24
  have cA := fun W => awake_any W
  have cF := fun W => few_any L O A n cp B m cq W hs1 hs2
  have cK := fun W (k1 : CelS W A n cs) (k2 : ChgS W B m l) => check_any L O A n cp cs B m cq l W k1 k2 ok1 ok2
  have hRi := fun (h0 : (chkN L O cs l).2 = 0) => right_of h0
  generalize chkN L O cs l = R at *
  obtain ⟨r1, r2⟩ := R
  dsimp only at hRi
  have hfw : fewB n m = true → (n ≤ 24 ∨ n = 513) ∧ (m ≤ 16 ∨ m = 1025) := fun h => by
    unfold fewB at h
    simp only [Bool.and_eq_true, Bool.or_eq_true, decide_eq_true_eq] at h
    exact h
  generalize fewB n m = FW at *
  have kx := BX.at_
  replace h1 := Lib.hid h1
  replace h2 := Lib.hid h2
  replace hb := Lib.hid hb
  replace BX := Lib.hid BX
  replace cA := Lib.hid cA
  replace cF := Lib.hid cF
  replace cK := Lib.hid cK
  replace hs1 := Lib.hid hs1
  replace hs2 := Lib.hid hs2
  replace ok1 := Lib.hid ok1
  replace ok2 := Lib.hid ok2
  replace hRi := Lib.hid hRi
  replace hl1 := Lib.hid hl1
  replace hl2 := Lib.hid hl2
  replace hfw := Lib.hid hfw
  go_enter Try.func9, Try.ntmps9
  go_wp2_with fail
  clear kx
  generalize w.alloc (.cells #[.int .i64 L, .int .i64 O, .slice A n cp] 24) = w0 at *
  refine (cA.out _).mono ?_
  rintro e w1 ⟨rfl, hb_⟩
  replace hb := Lib.hid (hb.out.keep hb_)
  replace BX := Lib.hid (BX.out.keep hb_)
  clear hb_
  have kx := BX.out.at_
  go_wp2_with fail
  refine (cF.out _).mono ?_
  rintro e w2 ⟨rfl, hb_⟩
  clear kx
  replace hb := Lib.hid (hb.out.keep hb_)
  replace BX := Lib.hid (BX.out.keep hb_)
  clear hb_
  have hAw : Hid (∀ W, Below w.heap.size w W → Calls Try.prog 10 #[] W fun e w' => e = .returned (.bool true) ∧ Below w.heap.size w w') := fun W h => (cA.out W).mono fun _ _ k => ⟨k.1, bthen h k.2⟩
  cases FW with
  | false =>
    go_wp2_with fail
    refine (hAw.out _ hb.out).mono ?_
    rintro e w3 ⟨rfl, hb_⟩
    replace hb_ := Lib.hid hb_
    go_wp2
    go_ret
    exact ⟨rfl, hb_.out⟩
  | true =>
  by_cases hf0 : from_ < 0
  · go_wp2_with fail
    refine (hAw.out _ hb.out).mono ?_
    rintro e w3 ⟨rfl, hb_⟩
    replace hb_ := Lib.hid hb_
    go_wp2
    go_ret
    exact ⟨rfl, hb_.out⟩
  by_cases hf1 : 4096 < from_
  · have hf2 : 0 ≤ from_ := by omega
    go_wp2_with fail
    refine (hAw.out _ hb.out).mono ?_
    rintro e w3 ⟨rfl, hb_⟩
    replace hb_ := Lib.hid hb_
    go_wp2
    go_ret
    exact ⟨rfl, hb_.out⟩
  have hf2 : 0 ≤ from_ := by omega
  have hf3 : from_ ≤ 4096 := by omega
  clear hf0 hf1
  have cK2 := cK.out w2 (h1.out.keep hb.out) (h2.out.keep hb.out)
  unfold CkPost at cK2
  have kx := BX.out.at_
  replace cK2 := Lib.hid cK2
  go_wp2_with fail
  refine cK2.out.mono ?_
  rintro e w3 ⟨rfl, hb_⟩
  clear kx
  replace hb := Lib.hid (hb.out.keep hb_)
  replace BX := Lib.hid (BX.out.keep hb_)
  clear hb_ cK2
  dsimp only
  by_cases h0 : r2 = 0
  case neg =>
    have d : (r2 != 0) = true := by rw [bne_iff_ne]; exact h0
    replace h0 := Lib.hid h0
    go_wp2
    go_ret
    exact ⟨rfl, hb.out⟩
  have hR := hRi.out h0
  subst h0
  have hLL := hR.len
  have hL1 := hLL.1
  have hL2 := hLL.2.1
  have hfew := hR.few
  have hfl := fun X => inF_len L cs l X
  have hown := fun n X (hX : 0 ≤ X) (d' : List Dut) (hp : d'.Perm ((allD L cs l n).filter (onB L X))) => own_cnt hR n X hX hp
  have cIn := fun X (hX : 0 ≤ X) W (k1 : CelS W A n cs) (k2 : ChgS W B m l) => inF_any L O A n cp cs B m cq l X W k1 k2 (by rw [← hl1.out]; omega) (by rw [← hl2.out]; omega) ⟨hL1, hL2⟩ hX
  have cNo := fun W (k1 : CelS W A n cs) (k2 : ChgS W B m l) => nodes_any L O A n cp cs B m cq l W k1 k2 (by rw [← hl1.out]; omega) (by rw [← hl2.out]; omega)
  have cDu := fun nd W (k1 : CelS W A n cs) (k2 : ChgS W B m l) hnd => duN_any L O A n cp cs B m cq l nd W k1 k2 ok1.out ok2.out hR hnd
  have cAt := fun nd X (hX : 0 ≤ X) A c d W (h : DutS W A d.length d) (hp : d.Perm (allD L cs l nd)) => atN_any L O cs l nd X hR hX A c d W h hp (by rw [hp.length_eq]; have := allD_len hR nd; omega)
  have hnn := fun k (hk : k < (nodesL cs l).length) => nodes_in hR (ok_at (P := (· ∈ nodesL cs l)) (fun _ h => h) hk)
  have hnl := (nodesL_ok cs l).2.2
  have hfw2 := hfw.out (by trivial)
  have hcl := hLL.2.2.2.2
  have hdl := fun nd => allD_small L cs l nd (by have := hl1.out; omega) (by have := hl2.out; omega)
  clear hfw2 hcl
  generalize hNL : nodesL cs l = NL at *
  have hnl2 : NL.length ≤ 4000 := by omega
  have hfl2 : ∀ X, (inF L cs l X).length ≤ 2000 := fun X => by have := hfl X; omega
  clear hLL hnl hfew hfl
  replace hR := Lib.hid hR
  replace hown := Lib.hid hown
  replace cNo := Lib.hid cNo
  replace cDu := Lib.hid cDu
  replace cIn := Lib.hid cIn
  replace cAt := Lib.hid cAt
  replace hnn := Lib.hid hnn
  replace hNL := Lib.hid hNL
  replace hRi := Lib.hid hRi
  replace hdl := Lib.hid hdl
  replace hfl2 := Lib.hid hfl2
  have cNo2 := cNo.out w3 (h1.out.keep hb.out) (h2.out.keep hb.out)
  have kx := BX.out.at_
  replace cNo2 := Lib.hid cNo2
  go_wp2_with fail
  refine cNo2.out.mono ?_
  rintro e w5 ⟨A5, c5, rfl, h5, hb_⟩
  clear kx
  replace hb := Lib.hid (hb.out.keep hb_)
  replace BX := Lib.hid (BX.out.keep hb_)
  replace h5 := Lib.hid h5
  clear hb_ cNo2 cNo
  generalize hnN : NL.length = nN at *
  replace hnN := Lib.hid hnN
  go_wp2_with fail
  go_loopw [10, 11, 12, 13, 14, 17, 18, 19, 49, 74] (fun _ _ _ _ _ _ _ _ i _ wr => ∃ (k : Nat), k ≤ nN ∧ i = .int .i64 k ∧ Hid (Below w5.heap.size w5 wr)) (fun _ _ _ _ _ _ _ _ i _ _ => nN - (intOf i).toNat)
  case atStart => exact ⟨0, by omega, rfl, Below.refl _ _⟩
  case round =>
    obtain ⟨k, hk, rfl, HB⟩ := hrel
    have HBw := Lib.hid (bthen hb.out HB.out)
    by_cases hlt : k < nN
    · obtain ⟨b, off, rfl⟩ := h5.out.addr (by omega)
      have hx := int_at (h5.out.keep HB.out) hlt
      have hnk := hnn.out k hlt
      generalize NL.getD k default = nd at *
      have r1 : (k : Int) < (nN : Int) := by omega
      have kx := (BX.out.keep HB.out).at_
      have cD := cDu.out nd wr (h1.out.keep HBw.out) (h2.out.keep HBw.out) hnk
      replace cD := Lib.hid cD
      replace hnk := Lib.hid hnk
      go_wp2_with fail
      refine cD.out.mono ?_
      rintro e w6 ⟨d6, A6, c6, rfl, hp6, h6, hb_⟩
      clear kx hx
      have HB6 := Lib.hid (bthen HB.out hb_)
      have hdl6 : d6.length ≤ 5000 := by rw [hp6.length_eq]; exact hdl.out nd
      clear hb_ cD
      have cA6 := fun X hX W (hb : Below w6.heap.size w6 W) => cAt.out nd X hX A6 c6 d6 W (h6.keep hb) hp6
      generalize hd6l : d6.length = q6 at *
      replace h6 := Lib.hid h6
      replace hp6 := Lib.hid hp6
      replace hd6l := Lib.hid hd6l
      replace cA6 := Lib.hid cA6
      go_wp2_with fail
      go_loopw [13, 14, 17, 18, 19, 74] (fun s13 _ _ _ _ _ wr => ∃ (q : Nat) (X : Int), q ≤ 40 ∧ X = from_ + q ∧ s13 = .int .i64 X ∧ Hid (Below w6.heap.size w6 wr)) (fun s13 _ _ _ _ _ _ => (from_ + 40 - intOf s13).toNat)
      case atStart => exact ⟨0, from_, by omega, by omega, rfl, Below.refl _ _⟩
      case round =>
        obtain ⟨q, X, hq, hX, rfl, HD⟩ := hrel
        have HD6 := Lib.hid (bthen HB6.out HD.out)
        have hX2 : 0 ≤ X := by omega
        have hX3 : X ≤ 4136 := by omega
        have hXn : Hid (X + 1 = from_ + ((q + 1 : Nat) : Int)) := by show _ = _; omega
        by_cases hlq : q < 40
        · have r3 : X < from_ + 40 := by omega
          have kx := (BX.out.keep HD6.out).at_
          have cI := cIn.out X hX2 wr (h1.out.keep (bthen hb.out HD6.out)) (h2.out.keep (bthen hb.out HD6.out))
          have hcn := hown.out nd X hX2
          have hwl := hfl2.out X
          generalize inF L cs l X = WF at *
          have cA7 := cA6.out X hX2
          replace cI := Lib.hid cI
          replace hX := Lib.hid hX
          replace hcn := Lib.hid hcn
          go_wp2_with fail
          refine cI.out.mono ?_
          rintro e w7 ⟨A7, c7, rfl, h7, hb_⟩
          clear kx cI
          have HD7 := Lib.hid (bthen HD.out hb_)
          have HD67 := Lib.hid (bthen HD6.out hb_)
          clear hb_
          have hPs := fun j (hj : j < WF.length) => (by rw [take_snoc hj, List.countP_append, List.countP_singleton] : (WF.take (j + 1)).countP (fun c => decide (c.frm = nd) || decide (c.to = nd)) = (WF.take j).countP (fun c => decide (c.frm = nd) || decide (c.to = nd)) + if (decide ((WF.getD j default).frm = nd) || decide ((WF.getD j default).to = nd)) = true then 1 else 0)
          have hPn : (WF.take WF.length).countP (fun c => decide (c.frm = nd) || decide (c.to = nd)) = WF.countP (fun c => decide (c.frm = nd) || decide (c.to = nd)) := by rw [List.take_length]
          have hPl := fun j => Nat.le_trans (List.countP_le_length (p := fun c : Cel => decide (c.frm = nd) || decide (c.to = nd)) (l := WF.take j)) (Nat.le_trans (by rw [List.length_take]; exact Nat.min_le_right _ _) hwl)
          have hP0 : (WF.take 0).countP (fun c => decide (c.frm = nd) || decide (c.to = nd)) = 0 := rfl
          generalize hPP : (fun j => (WF.take j).countP (fun c => decide (c.frm = nd) || decide (c.to = nd))) = PP at *
          have hPs' : ∀ j, j < WF.length → PP (j + 1) = PP j + if (decide ((WF.getD j default).frm = nd) || decide ((WF.getD j default).to = nd)) = true then 1 else 0 := by rw [← hPP]; exact hPs
          have hPn' : PP WF.length = WF.countP (fun c => decide (c.frm = nd) || decide (c.to = nd)) := by rw [← hPP]; exact hPn
          have hPl' : ∀ j, PP j ≤ 2000 := by rw [← hPP]; exact hPl
          have hP0' : PP 0 = 0 := by rw [← hPP]; exact hP0
          have hcn2 : ∀ d' : List Dut, d'.Perm ((allD L cs l nd).filter (onB L X)) → (d'.filter fun d => !exB d).length = PP WF.length := fun d' hp => by rw [hPn']; exact hcn.out d' hp
          clear hPP hPs hPn hPl hP0 hPn' hcn
          generalize hwn : WF.length = nW at *
          replace h7 := Lib.hid h7
          replace hPs' := Lib.hid hPs'
          replace hPl' := Lib.hid hPl'
          replace hP0' := Lib.hid hP0'
          replace hcn2 := Lib.hid hcn2
          replace hwn := Lib.hid hwn
          replace cA7 := Lib.hid cA7
          go_wp2_with fail
          go_loopw [14, 74] (fun s14 i wr2 => ∃ (j : Nat), j ≤ nW ∧ i = .int .i64 j ∧ s14 = .int .i64 (PP j) ∧ Hid (Below w7.heap.size w7 wr2)) (fun _ i _ => nW - (intOf i).toNat)
          case atStart => exact ⟨0, by omega, rfl, by rw [hP0'.out]; rfl, Below.refl _ _⟩
          case round =>
            obtain ⟨j, hj, rfl, rfl, HE⟩ := hrel
            have hpj := hPl'.out j
            by_cases hlj : j < nW
            · obtain ⟨b, off, rfl⟩ := h7.out.addr (by omega)
              have hx := cel_at (h7.out.keep HE.out) hlj
              have hps := hPs'.out j hlj
              generalize WF.getD j default = c at *
              obtain ⟨y0, y1, y2, y3, y4⟩ := c
              obtain ⟨q0, q1, q2, q3, q4⟩ := hx
              dsimp only at q0 q1 q2 q3 q4 hps
              have BC := Box.new wr #[.int .i64 y0, .int .i64 y1, .int .i64 y2, .int .i64 y3, .int .i64 y4] 34
              have HEb := ballN HE.out (.cells #[.int .i64 y0, .int .i64 y1, .int .i64 y2, .int .i64 y3, .int .i64 y4] 34)
              have kc := BC.at_
              have r4 : (j : Int) < (nW : Int) := by omega
              replace BC := Lib.hid BC
              replace HEb := Lib.hid HEb
              by_cases g1 : y2 = nd
              · have hps2 : Hid (PP (j + 1) = PP j + 1) := by show _ = _; rw [hps]; simp [g1]
                have d1 : (y2 == nd) = true := by simpa using g1
                clear hps
                replace g1 := Lib.hid g1
                go_wp2
                go_roundw
                case rel => exact ⟨j + 1, by omega, by go_num, by rw [hps2.out]; go_num, HEb⟩
                case measure => simp [intOf]; omega
              · have d1 : (y2 == nd) = false := by simpa using g1
                by_cases g2 : y3 = nd
                · have hps2 : Hid (PP (j + 1) = PP j + 1) := by show _ = _; rw [hps]; simp [g2]
                  have d2 : (y3 == nd) = true := by simpa using g2
                  clear hps
                  replace g1 := Lib.hid g1
                  replace g2 := Lib.hid g2
                  go_wp2
                  go_roundw
                  case rel => exact ⟨j + 1, by omega, by go_num, by rw [hps2.out]; go_num, HEb⟩
                  case measure => simp [intOf]; omega
                · have hps2 : Hid (PP (j + 1) = PP j) := by show _ = _; rw [hps]; simp [g1, g2]
                  have d2 : (y3 == nd) = false := by simpa using g2
                  clear hps
                  replace g1 := Lib.hid g1
                  replace g2 := Lib.hid g2
                  go_wp2
                  go_roundw
                  case rel => exact ⟨j + 1, by omega, by go_num, by rw [hps2.out], HEb⟩
                  case measure => simp [intOf]; omega
            · obtain rfl : j = nW := by omega
              have HE6 := Lib.hid (bthen HD7.out HE.out)
              have HE5 := Lib.hid (bthen HD67.out HE.out)
              have kx := (BX.out.keep HE5.out).at_
              have cA8 := cA7.out wr HE6.out
              replace cA8 := Lib.hid cA8
              go_wp2_with fail
              refine cA8.out.mono ?_
              rintro e w8 ⟨d8, A8, c8, rfl, hp8, _, ho8, hb_⟩
              clear kx cA8
              have HF := Lib.hid (bthen HE6.out hb_)
              have hq8 : d8.length ≤ 5000 := by
                rw [hp8.length_eq]
                exact Nat.le_trans (List.length_filter_le _ _) (hdl.out nd)
              have cX := delFnD_any 31 #[] exB A8 d8.length c8 wr.heap.size d8 w8 eOn1 ho8 (by omega) (fun d _ W _ => ex_any d W)
              have hc8 := hcn2.out d8 hp8
              have hss := HE6.out.size
              have hbb := hb_.size
              clear hb_
              replace cX := Lib.hid cX
              replace hc8 := Lib.hid hc8
              replace hp8 := Lib.hid hp8
              replace ho8 := Lib.hid ho8
              replace hss := Lib.hid hss
              replace hbb := Lib.hid hbb
              go_wp2_with fail
              refine cX.out.mono ?_
              rintro e w9 ⟨m9, rfl, hm9, ho9, hg9⟩
              have HG := Lib.hid (below_append HF.out ho8.out hg9 hss.out)
              rw [hc8.out] at hm9
              subst hm9
              clear ho9 hg9 cX
              go_wp2
              go_roundw
              case rel => exact ⟨q + 1, X + 1, by omega, hXn.out, by go_num, HG⟩
              case measure => simp [intOf]; omega
        · have r3 : decide (X < from_ + 40) = false := by simp; omega
          replace hX := Lib.hid hX
          replace hlq := Lib.hid hlq
          go_wp2
          go_roundw
          case rel => exact ⟨k + 1, by omega, by go_num, HD6⟩
          case measure => simp [intOf]; omega
    · obtain rfl : k = nN := by omega
      go_wp2
      go_ret
      exact ⟨rfl, HBw.out⟩
theorem switchoverOne_walk (L O : Int) (A : Option Addr) (n cp : Nat) (cs : List Cel) (B : Option Addr) (m cq : Nat) (l : List Chg) (from_ : Int) (w : World) (_ : (Lit.int .i64 L).wf = true) (_ : (Lit.int .i64 O).wf = true) (h1 : CelS w A n cs ∧ ∀ c ∈ cs, c.ok) (h2 : ChgS w B m l ∧ ∀ x ∈ l, I64 x.slot ∧ x.cell.ok) (_ : (Lit.int .i64 from_).wf = true) :
    Calls Try.prog 9 #[.agg #[.int .i64 L, .int .i64 O, .slice A n cp], .slice B m cq, .int .i64 from_] w fun e w' => e = .returned (.bool true) ∧ Below w.heap.size w w' :=
  one_law L O A n cp cs B m cq l from_ w h1.1 h2.1 h1.2 (fun x hx => (h2.2 x hx).2)
end Sw
end Go.Proofs.Ytdlgdmbcbenlbaa
