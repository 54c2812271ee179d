/- The law Settles. -/
import Derived.Test.YtdlgdmbcbenlbaaKj
set_option linter.unusedVariables false
set_option linter.unusedSimpArgs false
namespace Go.Proofs.Ytdlgdmbcbenlbaa
open Go Go.RowKit Go.Sort
namespace Sw
open Mm
theorem sum_take {α : Type} [Inhabited α] (f : α → Nat) (xs : List α) (k : Nat) (h : k < xs.length) : ((xs.take (k + 1)).map f).sum = ((xs.take k).map f).sum + f (xs.getD k default) := by
  rw [take_snoc h, List.map_append, List.sum_append]; simp
theorem sum_le {α : Type} (f : α → Nat) (N : Nat) : ∀ (xs : List α), (∀ x ∈ xs, f x ≤ N) → (xs.map f).sum ≤ xs.length * N
  | [], _ => by simp
  | x :: xs, h => by
    have := sum_le f N xs (fun y hy => h y (List.mem_cons_of_mem _ hy))
    have := h x (List.mem_cons_self ..)
    rw [List.map_cons, List.sum_cons, List.length_cons, Nat.add_mul]
    omega
theorem inF_len (L : Int) (cs : List Cel) (l : List Chg) (x : Int) : (inF L cs l x).length ≤ cs.length + l.length :=
  Nat.le_trans (List.length_filter_le _ _) (allF_len cs x l)
def AtN (L : Int) (cs : List Cel) (l : List Chg) (x n : Int) (w : World) (e : Ending) (w' : World) : Prop := ∃ (d' : List Dut) (A : Option Addr) (c : Nat), e = .returned (.tuple #[.slice A d'.length c, .int .i64 0]) ∧ d'.Perm ((allD L cs l n).filter (onB L x)) ∧ DutS w' A d'.length d' ∧ w'.ownsRow w.heap.size 45 9 (.slice A d'.length c) d'.length (d'.flatMap dutE) ∧ Below w.heap.size w w'
def DuN (all : List Dut) (w : World) (e : Ending) (w' : World) : Prop := ∃ (d' : List Dut) (A : Option Addr) (c : Nat), e = .returned (.tuple #[.slice A d'.length c, .int .i64 0]) ∧ d'.Perm all ∧ DutS w' A d'.length d' ∧ Below w.heap.size w w'
theorem duN_any (L O : Int) (A : Option Addr) (n cp : Nat) (cs : List Cel) (B : Option Addr) (m cq : Nat) (l : List Chg) (node : Int) (w : World) (h1 : CelS w A n cs) (h2 : ChgS w B m l) (ok1 : ∀ c ∈ cs, c.ok) (ok2 : ∀ x ∈ l, x.cell.ok) (hR : Right L O cs l) (hnode : 0 ≤ node ∧ node < 32) :
    Calls Try.prog 17 #[.agg #[.int .i64 L, .int .i64 O, .slice A n cp], .slice B m cq, .int .i64 node] w (DuN (allD L cs l node) w) :=
  (Duties_ok L O A n cp cs B m cq l node w h1 h2 ok1 ok2 hR.chk hR hnode).mono fun _ _ ⟨d', A', c, e, hp, _, ho, hb⟩ => ⟨d', A', c, e, hp, (Sls.of_owns dutE_len ho rfl).2, hb⟩
theorem atN_any (L O : Int) (cs : List Cel) (l : List Chg) (node x : Int) (hR : Right L O cs l) (hx : 0 ≤ x) (A : Option Addr) (c : Nat) (d : List Dut) (w : World) (h : DutS w A d.length d) (hp : d.Perm (allD L cs l node)) (hn : d.length ≤ 10000000) :
    Calls Try.prog 29 #[.slice A d.length c, .int .i64 L, .int .i64 x] w (AtN L cs l x node w) :=
  (at_any L x A d.length c d w h ⟨hR.len.1, hR.len.2.1⟩ hx hn).mono fun _ _ ⟨d', A', c', e, hp', ho, hb⟩ => ⟨d', A', c', e, hp'.trans (hp.filter _), (Sls.of_owns dutE_len ho rfl).2, ho, hb⟩
theorem allD_len {L O : Int} {cs : List Cel} {l : List Chg} (h : Right L O cs l) (n : Int) : (allD L cs l n).length ≤ 9000000 := by
  unfold allD
  have h1 := flatMap_len (cellD L cs l n) 3075 (cellD_len L cs l n h.few) (cellsC cs l)
  have h2 : (cellsC cs l).length ≤ cs.length + l.length := by
    unfold cellsC
    refine Nat.le_trans (cpL_len _) ?_
    rw [(sortC_perm _).length_eq]; simp
  have := h.len.2.2.2.2
  have := h.few
  have : (cellsC cs l).length * 3075 ≤ 1537 * 3075 := Nat.mul_le_mul_right _ (by omega)
  omega
set_option maxRecDepth 100000 in
set_option maxHeartbeats 8000000 in
theorem settles_law (L O : Int) (A : Option Addr) (n cp : Nat) (cs : List Cel) (B : Option Addr) (m cq : Nat) (l : List Chg) (more : Int) (w : World) (h1 : CelS w A n cs) (h2 : ChgS w B m l) (ok1 : ∀ c ∈ cs, c.ok) (ok2 : ∀ x ∈ l, x.cell.ok) (hm0 : 0 ≤ more) (hm1 : more ≤ 255) :
    Calls Try.prog 8 #[.agg #[.int .i64 L, .int .i64 O, .slice A n cp], .slice B m cq, .int .u8 more] w fun e w' => e = .returned (.bool true) ∧ Below w.heap.size w w' := by
  have hs1 := h1.small
  have hs2 := h2.small
  have hl1 := h1.len
  have hl2 := h2.len
  have hb := ball w (.cells #[.int .i64 L, .int .i64 O, .slice A n cp] 24)
  have BX := Box.new w #[.int .i64 L, .int .i64 O, .slice A n cp] 24
  have cA := fun W => awake_any W
  have cF := fun W => few_any L O A n cp B m cq W hs1 hs2
  have cK := fun W (k1 : CelS W A n cs) (k2 : ChgS W B m l) => check_any L O A n cp cs B m cq l W k1 k2 ok1 ok2
  have hRi := fun (h0 : (chkN L O cs l).2 = 0) => right_of h0
  generalize chkN L O cs l = R at *
  obtain ⟨r1, r2⟩ := R
  dsimp only at hRi
  generalize fewB n m = FW at *
  have kx := BX.at_
  replace h1 := Lib.hid h1
  replace h2 := Lib.hid h2
  replace hb := Lib.hid hb
  replace BX := Lib.hid BX
  replace cA := Lib.hid cA
  replace cF := Lib.hid cF
  replace cK := Lib.hid cK
  replace hs1 := Lib.hid hs1
  replace hs2 := Lib.hid hs2
  replace ok1 := Lib.hid ok1
  replace ok2 := Lib.hid ok2
  replace hRi := Lib.hid hRi
  replace hl1 := Lib.hid hl1
  replace hl2 := Lib.hid hl2
  go_enter Try.func8, Try.ntmps8
  go_wp2_with fail
  clear kx
  generalize w.alloc (.cells #[.int .i64 L, .int .i64 O, .slice A n cp] 24) = w0 at *
  refine (cA.out _).mono ?_
  rintro e w1 ⟨rfl, hb_⟩
  replace hb := Lib.hid (hb.out.keep hb_)
  replace BX := Lib.hid (BX.out.keep hb_)
  clear hb_
  have kx := BX.out.at_
  go_wp2_with fail
  refine (cF.out _).mono ?_
  rintro e w2 ⟨rfl, hb_⟩
  clear kx
  replace hb := Lib.hid (hb.out.keep hb_)
  replace BX := Lib.hid (BX.out.keep hb_)
  clear hb_
  cases FW with
  | false =>
    go_wp2_with fail
    refine (cA.out w2).mono ?_
    rintro e w3 ⟨rfl, hb_⟩
    replace hb := Lib.hid (hb.out.keep hb_)
    clear hb_
    go_wp2
    go_ret
    exact ⟨rfl, hb.out⟩
  | true =>
  have cK2 := cK.out w2 (h1.out.keep hb.out) (h2.out.keep hb.out)
  unfold CkPost at cK2
  have kx := BX.out.at_
  replace cK2 := Lib.hid cK2
  go_wp2_with fail
  refine cK2.out.mono ?_
  rintro e w3 ⟨rfl, hb_⟩
  clear kx
  replace hb := Lib.hid (hb.out.keep hb_)
  replace BX := Lib.hid (BX.out.keep hb_)
  clear hb_ cK2
  dsimp only
  by_cases h0 : r2 = 0
  case neg =>
    have d : (r2 != 0) = true := by rw [bne_iff_ne]; exact h0
    replace h0 := Lib.hid h0
    go_wp2
    go_ret
    exact ⟨rfl, hb.out⟩
  have hR := hRi.out h0
  subst h0
  have hLL := hR.len
  have hL1 := hLL.1
  have hL2 := hLL.2.1
  have hfew := hR.few
  have hcur := hR.cur
  have hU := until_any L B m cq l w3 (h2.out.keep hb.out) ⟨hL1, hL2⟩ (fun x hx => by
    obtain ⟨i, hi, rfl⟩ := List.mem_iff_getElem.1 hx
    have := (fault_zero (hR.fault i hi)).1
    rwa [List.getD_eq_getElem?_getD, List.getElem?_eq_getElem hi] at this)
  have hu0 : 0 ≤ untilN L l ∧ untilN L l ≤ 4608 := by
    unfold untilN
    unfold curS at hcur
    split
    · omega
    · rename_i c; rw [if_neg c] at hcur; omega
  obtain ⟨hu0, hu1⟩ := hu0
  have hX : ∃ X, X = untilN L l + more := ⟨_, rfl⟩
  obtain ⟨X, hX⟩ := hX
  have hX0 : 0 ≤ X := by omega
  have hXu : untilN L l ≤ X := by omega
  have hXb : X ≤ 5000 := by omega
  have hok := fun n d (hd : d ∈ allD L cs l n) (hon : onB L X d = true) => settled hR hXu hd hon
  have hok2 := fun n d (hd : d ∈ allD L cs l n) (hon : onB L X d = true) => (duty_ok hR hX0 hd hon).2.2
  have hsum := settle_sum hR X hXu hX0
  have cIn := fun W (k1 : CelS W A n cs) (k2 : ChgS W B m l) => inF_any L O A n cp cs B m cq l X W k1 k2 (by rw [← hl1.out]; omega) (by rw [← hl2.out]; omega) ⟨hL1, hL2⟩ hX0
  have cNo := fun W (k1 : CelS W A n cs) (k2 : ChgS W B m l) => nodes_any L O A n cp cs B m cq l W k1 k2 (by rw [← hl1.out]; omega) (by rw [← hl2.out]; omega)
  have cDu := fun nd W (k1 : CelS W A n cs) (k2 : ChgS W B m l) hnd => duN_any L O A n cp cs B m cq l nd W k1 k2 ok1.out ok2.out hR hnd
  have cAt := fun nd A c d W (h : DutS W A d.length d) (hp : d.Perm (allD L cs l nd)) => atN_any L O cs l nd X hR hX0 A c d W h hp (by rw [hp.length_eq]; have := allD_len hR nd; omega)
  have hnn := fun k (hk : k < (nodesL cs l).length) => nodes_in hR (ok_at (P := (· ∈ nodesL cs l)) (fun _ h => h) hk)
  have hnl := (nodesL_ok cs l).2.2
  have hsl : ∀ k, k ≤ (nodesL cs l).length → (((nodesL cs l).take k).map (settleC L cs l X)).sum ≤ 100000000000 := fun k hk => by
    have := sum_le (settleC L cs l X) 9000000 ((nodesL cs l).take k) (fun n _ => Nat.le_trans (List.length_filter_le _ _) (allD_len hR n))
    rw [List.length_take] at this
    have h2 : min k (nodesL cs l).length * 9000000 ≤ 4000 * 9000000 := Nat.mul_le_mul_right _ (by omega)
    omega
  have hss := fun k (hk : k < (nodesL cs l).length) => sum_take (settleC L cs l X) (nodesL cs l) k hk
  have hwl := inF_len L cs l X
  have hsn : (((nodesL cs l).take (nodesL cs l).length).map (settleC L cs l X)).sum = 2 * (inF L cs l X).length := by rw [List.take_length]; exact hsum
  have hs0 : (((nodesL cs l).take 0).map (settleC L cs l X)).sum = 0 := rfl
  generalize hNL : nodesL cs l = NL at *
  generalize hWF : inF L cs l X = WF at *
  generalize hSC : (fun k => ((NL.take k).map (settleC L cs l X)).sum) = SC at *
  have hsl' : ∀ k, k ≤ NL.length → SC k ≤ 100000000000 := by rw [← hSC]; exact hsl
  have hss' : ∀ k, k < NL.length → SC (k + 1) = SC k + settleC L cs l X (NL.getD k default) := by rw [← hSC]; exact hss
  have hsn' : SC NL.length = 2 * WF.length := by rw [← hSC]; exact hsn
  have hs0' : SC 0 = 0 := by rw [← hSC]; exact hs0
  have kx := BX.out.at_
  have hwX : more + untilN L l = X := by omega
  have hwl2 : WF.length ≤ 2000 := by omega
  have hnl2 : NL.length ≤ 4000 := by omega
  clear hSC hsl hss hsn hs0 hcur hfew hLL hsum hwl hnl
  generalize untilN L l = U at *
  replace hU := Lib.hid hU
  replace hR := Lib.hid hR
  replace hok := Lib.hid hok
  replace hok2 := Lib.hid hok2
  replace cIn := Lib.hid cIn
  replace cNo := Lib.hid cNo
  replace cDu := Lib.hid cDu
  replace cAt := Lib.hid cAt
  replace hnn := Lib.hid hnn
  replace hsl' := Lib.hid hsl'
  replace hss' := Lib.hid hss'
  replace hsn' := Lib.hid hsn'
  replace hs0' := Lib.hid hs0'
  replace hNL := Lib.hid hNL
  replace hWF := Lib.hid hWF
  replace hwX := Lib.hid hwX
  replace hRi := Lib.hid hRi
  go_wp2_with fail
  refine hU.out.mono ?_
  rintro e w_ ⟨rfl, rfl⟩
  have hXX : U + more = X := hX.symm
  have cIn2 := cIn.out w3 (h1.out.keep hb.out) (h2.out.keep hb.out)
  replace cIn2 := Lib.hid cIn2
  replace hX := Lib.hid hX
  go_wp2_with fail
  refine cIn2.out.mono ?_
  rintro e w4 ⟨A4, c4, rfl, h4, hb_⟩
  clear kx
  replace hb := Lib.hid (hb.out.keep hb_)
  replace BX := Lib.hid (BX.out.keep hb_)
  replace h4 := Lib.hid h4
  clear hb_ cIn2 cIn
  have cNo2 := cNo.out w4 (h1.out.keep hb.out) (h2.out.keep hb.out)
  have kx := BX.out.at_
  replace cNo2 := Lib.hid cNo2
  go_wp2_with fail
  refine cNo2.out.mono ?_
  rintro e w5 ⟨A5, c5, rfl, h5, hb_⟩
  clear kx
  replace hb := Lib.hid (hb.out.keep hb_)
  replace BX := Lib.hid (BX.out.keep hb_)
  replace h4 := Lib.hid (h4.out.keep hb_)
  replace h5 := Lib.hid h5
  clear hb_ cNo2 cNo
  generalize hnN : NL.length = nN at *
  have hwf : ∃ nW, nW = WF.length := ⟨_, rfl⟩
  obtain ⟨nW, hwf⟩ := hwf
  rw [← hwf] at h4 hsn' hwl2 ⊢
  replace hnN := Lib.hid hnN
  replace hwf := Lib.hid hwf
  go_wp2_with fail
  go_loopw [11, 13, 14, 15, 16, 17, 52, 79] (fun s11 _ _ _ _ _ i _ wr => ∃ (k : Nat), k ≤ nN ∧ i = .int .i64 k ∧ s11 = .int .i64 (SC k) ∧ Hid (Below w5.heap.size w5 wr)) (fun _ _ _ _ _ _ i _ _ => nN - (intOf i).toNat)
  case atStart => exact ⟨0, by omega, rfl, by rw [hs0'.out]; rfl, Below.refl _ _⟩
  case round =>
    obtain ⟨k, hk, rfl, rfl, HB⟩ := hrel
    have HBw := Lib.hid (bthen hb.out HB.out)
    have hck := hsl'.out k hk
    by_cases hlt : k < nN
    · obtain ⟨b, off, rfl⟩ := h5.out.addr (by omega)
      have hx := int_at (h5.out.keep HB.out) hlt
      have hnk := hnn.out k hlt
      have hsk := hss'.out k hlt
      generalize NL.getD k default = nd at *
      have r1 : (k : Int) < (nN : Int) := by omega
      have kx := (BX.out.keep HB.out).at_
      have cD := cDu.out nd wr (h1.out.keep HBw.out) (h2.out.keep HBw.out) hnk
      replace hsk := Lib.hid hsk
      replace cD := Lib.hid cD
      replace hnk := Lib.hid hnk
      go_wp2_with fail
      refine cD.out.mono ?_
      rintro e w6 ⟨d6, A6, c6, rfl, hp6, h6, hb_⟩
      clear kx hx
      have HB6 := Lib.hid (bthen HB.out hb_)
      have cA6 := cAt.out nd A6 c6 d6 w6 h6 hp6
      have kx := (BX.out.keep HB6.out).at_
      replace cA6 := Lib.hid cA6
      replace hp6 := Lib.hid hp6
      replace h6 := Lib.hid h6
      clear hb_ cD
      go_wp2_with fail
      refine cA6.out.mono ?_
      rintro e w7 ⟨d7, A7, c7, rfl, hp7, h7, _, hb_⟩
      clear kx
      have HB7 := Lib.hid (bthen HB6.out hb_)
      have hlen7 : d7.length = settleC L cs l X nd := hp7.length_eq
      have hd7 : ∀ d ∈ d7, d.extra = false ∧ d.til = -1 ∧ d.cell ∈ WF := fun d hd => by
        have hm := hp7.mem_iff.1 hd
        rw [List.mem_filter] at hm
        have := hok.out nd d hm.1 hm.2
        exact ⟨this.1, this.2, hok2.out nd d hm.1 hm.2 this.1⟩
      have hq7 : d7.length ≤ 100000000 := by
        rw [hlen7]
        exact Nat.le_trans (List.length_filter_le _ _) (Nat.le_trans (allD_len hR.out nd) (by decide))
      clear hb_ cA6 hp7
      generalize hd7l : d7.length = q7 at *
      have hsk2 : Hid (SC (k + 1) = SC k + q7) := by show _ = _; rw [hsk.out, hlen7]
      generalize SC k = Sk at *
      replace hd7 := Lib.hid hd7
      replace hlen7 := Lib.hid hlen7
      replace h7 := Lib.hid h7
      replace hd7l := Lib.hid hd7l
      go_wp2_with fail
      go_loopw [11, 79] (fun s11 i wr => ∃ (j : Nat), j ≤ q7 ∧ i = .int .i64 j ∧ s11 = .int .i64 ((Sk + j : Nat) : Int) ∧ Hid (Below w7.heap.size w7 wr)) (fun _ i _ => q7 - (intOf i).toNat)
      case atStart => exact ⟨0, by omega, rfl, rfl, Below.refl _ _⟩
      case round =>
        obtain ⟨j, hj, rfl, rfl, HC⟩ := hrel
        have HC5 := Lib.hid (bthen HB7.out HC.out)
        by_cases hlj : j < q7
        · obtain ⟨b, off, rfl⟩ := h7.out.addr (by omega)
          have hx := dut_at (h7.out.keep HC.out) hlj
          have hdj := hd7.out _ (ok_at (P := (· ∈ d7)) (fun _ h => h) (by rw [hd7l.out]; exact hlj))
          generalize d7.getD j default = x at *
          obtain ⟨⟨x0, x1, x2, x3, x4⟩, x5, x6, x7, x8⟩ := x
          obtain ⟨q0, q1, q2, q3, q4, q5, q6, q7', q8⟩ := hx
          dsimp only at q0 q1 q2 q3 q4 q5 q6 q7' q8 hdj
          obtain ⟨rfl, rfl, hmem⟩ := hdj
          have BD := Box.new wr #[.int .i64 x0, .int .i64 x1, .int .i64 x2, .int .i64 x3, .int .i64 x4, .bool x5, .bool false, .int .i64 x7, .int .i64 (-1)] 45
          have HCb := ballN HC.out (.cells #[.int .i64 x0, .int .i64 x1, .int .i64 x2, .int .i64 x3, .int .i64 x4, .bool x5, .bool false, .int .i64 x7, .int .i64 (-1)] 45)
          have kd := BD.at_
          have r2 : (j : Int) < (q7 : Int) := by omega
          have cC := containsC_any A4 nW c4 WF ⟨x0, x1, x2, x3, x4⟩ _ (h4.out.keep (bthen HB7.out HCb))
          have hdm : decide ((⟨x0, x1, x2, x3, x4⟩ : Cel) ∈ WF) = true := by simpa using hmem
          rw [hdm] at cC
          replace BD := Lib.hid BD
          replace HCb := Lib.hid HCb
          replace cC := Lib.hid cC
          replace hdm := Lib.hid hdm
          replace hmem := Lib.hid hmem
          go_wp2_with fail
          refine cC.out.mono ?_
          rintro e w8 ⟨rfl, hb_⟩
          have HC8 := Lib.hid (bthen HCb.out hb_)
          have kd8 := (BD.out.keep hb_).at_
          clear kd hb_ cC q0 q1 q2 q3 q4 q5 q6 q7' q8
          go_wp2
          go_roundw
          case rel => exact ⟨j + 1, by omega, by go_num, by go_num, HC8⟩
          case measure => simp [intOf]; omega
        · obtain rfl : j = q7 := by omega
          rw [← hsk2.out]
          go_wp2
          go_roundw
          case rel => exact ⟨k + 1, by omega, by go_num, rfl, HC5⟩
          case measure => simp [intOf]; omega
    · obtain rfl : k = nN := by omega
      rw [hsn'.out]
      go_wp2
      go_ret
      exact ⟨by first | rfl | simp, HBw.out⟩
theorem switchoverSettles_walk (L O : Int) (A : Option Addr) (n cp : Nat) (cs : List Cel) (B : Option Addr) (m cq : Nat) (l : List Chg) (more : Int) (w : World) (_ : (Lit.int .i64 L).wf = true) (_ : (Lit.int .i64 O).wf = true) (h1 : CelS w A n cs ∧ ∀ c ∈ cs, c.ok) (h2 : ChgS w B m l ∧ ∀ x ∈ l, I64 x.slot ∧ x.cell.ok) (hm : (Lit.int .u8 more).wf = true) :
    Calls Try.prog 8 #[.agg #[.int .i64 L, .int .i64 O, .slice A n cp], .slice B m cq, .int .u8 more] w fun e w' => e = .returned (.bool true) ∧ Below w.heap.size w w' := by
  have h0 : 0 ≤ more ∧ more ≤ 255 := by
    have e1 : IntKind.u8.min = 0 := rfl
    have e2 : IntKind.u8.max = 255 := rfl
    simp [Lit.wf, e1, e2] at hm
    omega
  exact settles_law L O A n cp cs B m cq l more w h1.1 h2.1 h1.2 (fun x hx => (h2.2 x hx).2) h0.1 h0.2
end Sw
end Go.Proofs.Ytdlgdmbcbenlbaa
