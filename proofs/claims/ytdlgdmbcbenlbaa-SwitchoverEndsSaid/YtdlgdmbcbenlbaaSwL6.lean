/- The law Ends. -/
import Derived.Test.YtdlgdmbcbenlbaaSwP3
import Derived.Deep.LoopGhost
set_option linter.unusedVariables false
set_option linter.unusedSimpArgs false
namespace Go.Proofs.Ytdlgdmbcbenlbaa
open Go Go.RowKit Go.Sort Go.Maps
namespace Sw
open Mm
theorem own_hdr {w : World} {base : Nat} {e : TypeId} {size n : Nat} {v : Value} {xs : List Value} (h : w.ownsRow base e size v n xs) : Hdr v := by
  rcases h.2 with ⟨hv, _⟩ | ⟨g, cap, cur, hv, _⟩
  · exact .inl ⟨0, 0, hv⟩
  · exact .inr ⟨g, 0, n, cap, hv⟩
def DuH (all : List Dut) (w : World) (e : Ending) (w' : World) : Prop := ∃ (d' : List Dut) (A : Option Addr) (c : Nat), e = .returned (.tuple #[.slice A d'.length c, .int .i64 0]) ∧ d'.Perm all ∧ DutS w' A d'.length d' ∧ Hdr (.slice A d'.length c) ∧ Below w.heap.size w w'
theorem duH_any (L O : Int) (A : Option Addr) (n cp : Nat) (cs : List Cel) (B : Option Addr) (m cq : Nat) (l : List Chg) (node : Int) (w : World) (h1 : CelS w A n cs) (h2 : ChgS w B m l) (ok1 : ∀ c ∈ cs, c.ok) (ok2 : ∀ x ∈ l, x.cell.ok) (hR : Right L O cs l) (hnode : 0 ≤ node ∧ node < 32) :
    Calls Try.prog 17 #[.agg #[.int .i64 L, .int .i64 O, .slice A n cp], .slice B m cq, .int .i64 node] w (DuH (allD L cs l node) w) :=
  (Duties_ok L O A n cp cs B m cq l node w h1 h2 ok1 ok2 hR.chk hR hnode).mono fun _ _ ⟨d', A', c, e, hp, _, ho, hb⟩ => ⟨d', A', c, e, hp, (Sls.of_owns dutE_len ho rfl).2, own_hdr ho, hb⟩
theorem lawI : Keyed Try.prog 3 := int_keyed Try.underlying3
theorem keyI (n : Int) (h : 0 ≤ n ∧ n < 32) : keyOf Try.prog 3 (.int .i64 n) = some (.int .i64 n) := by
  refine keyOf_int_mk Try.underlying3 ?_
  have e1 : IntKind.i64.min = -9223372036854775808 := rfl
  have e2 : IntKind.i64.max = 9223372036854775807 := rfl
  simp [Lit.wf, e1, e2]; omega
theorem invKI (key : Value) (kl : Lit) (h : keyOf Try.prog 3 key = some kl) : ∃ x, key = Value.int .i64 x := by
  obtain ⟨x, e, _⟩ := Maps.keyOf_int_inv Try.underlying3 h
  exact ⟨x, e⟩
theorem below_gb {w w' : World} (h : w.grownBy w' none) : Below w.heap.size w w' := ⟨h.os, h.tape, h.output, h.size, fun i hi => h.block i hi (by simp)⟩
theorem cell_map {w : World} {b clock : Nat} {es : Array MapEntry} (h : w.heap[b]? = some (.map es clock)) (off : Nat) : w.cell? ⟨b, off, none⟩ = none := by simp [World.cell?, h]
set_option maxRecDepth 100000 in
set_option maxHeartbeats 16000000 in
theorem ends_law (L O : Int) (A : Option Addr) (n cp : Nat) (cs : List Cel) (B : Option Addr) (m cq : Nat) (l : List Chg) (from_ : Int) (w : World) (h1 : CelS w A n cs) (h2 : ChgS w B m l) (ok1 : ∀ c ∈ cs, c.ok) (ok2 : ∀ x ∈ l, x.cell.ok) :
    Calls Try.prog 7 #[.agg #[.int .i64 L, .int .i64 O, .slice A n cp], .slice B m cq, .int .i64 from_] w fun e w' => e = .returned (.bool true) ∧ Below w.heap.size w w' := by
  have hs1 := h1.small
  have hs2 := h2.small
  have hl1 := h1.len
  have hl2 := h2.len
  have hb := ball w (.cells #[.int .i64 L, .int .i64 O, .slice A n cp] 24)
  have BX := Box.new w #[.int .i64 L, .int .i64 O, .slice A n cp] 24
  have cA := fun W => awake_any W
  have cF := fun W => few_any L O A n cp B m cq W hs1 hs2
  have cK := fun W (k1 : CelS W A n cs) (k2 : ChgS W B m l) => check_any L O A n cp cs B m cq l W k1 k2 ok1 ok2
  have hRi := fun (h0 : (chkN L O cs l).2 = 0) => right_of h0
  generalize chkN L O cs l = R at *
  obtain ⟨r1, r2⟩ := R
  dsimp only at hRi
  generalize fewB n m = FW at *
  have kx := BX.at_
  replace h1 := Lib.hid h1
  replace h2 := Lib.hid h2
  replace hb := Lib.hid hb
  replace BX := Lib.hid BX
  replace cA := Lib.hid cA
  replace cF := Lib.hid cF
  replace cK := Lib.hid cK
  replace hs1 := Lib.hid hs1
  replace hs2 := Lib.hid hs2
  replace ok1 := Lib.hid ok1
  replace ok2 := Lib.hid ok2
  replace hRi := Lib.hid hRi
  replace hl1 := Lib.hid hl1
  replace hl2 := Lib.hid hl2
  go_enter Try.func7, Try.ntmps7
  go_wp2_with fail
  clear kx
  generalize w.alloc (.cells #[.int .i64 L, .int .i64 O, .slice A n cp] 24) = w0 at *
  refine (cA.out _).mono ?_
  rintro e w1 ⟨rfl, hb_⟩
  replace hb := Lib.hid (hb.out.keep hb_)
  replace BX := Lib.hid (BX.out.keep hb_)
  clear hb_
  have kx := BX.out.at_
  go_wp2_with fail
  refine (cF.out _).mono ?_
  rintro e w2 ⟨rfl, hb_⟩
  clear kx
  replace hb := Lib.hid (hb.out.keep hb_)
  replace BX := Lib.hid (BX.out.keep hb_)
  clear hb_
  have hAw : Hid (∀ W, Below w.heap.size w W → Calls Try.prog 10 #[] W fun e w' => e = .returned (.bool true) ∧ Below w.heap.size w w') := fun W h => (cA.out W).mono fun _ _ k => ⟨k.1, bthen h k.2⟩
  cases FW with
  | false =>
    go_wp2_with fail
    refine (hAw.out _ hb.out).mono ?_
    rintro e w3 ⟨rfl, hb_⟩
    replace hb_ := Lib.hid hb_
    go_wp2
    go_ret
    exact ⟨rfl, hb_.out⟩
  | true =>
  by_cases hf0 : from_ < 0
  · go_wp2_with fail
    refine (hAw.out _ hb.out).mono ?_
    rintro e w3 ⟨rfl, hb_⟩
    replace hb_ := Lib.hid hb_
    go_wp2
    go_ret
    exact ⟨rfl, hb_.out⟩
  by_cases hf1 : 4096 < from_
  · have hf2 : 0 ≤ from_ := by omega
    go_wp2_with fail
    refine (hAw.out _ hb.out).mono ?_
    rintro e w3 ⟨rfl, hb_⟩
    replace hb_ := Lib.hid hb_
    go_wp2
    go_ret
    exact ⟨rfl, hb_.out⟩
  have hf2 : 0 ≤ from_ := by omega
  have hf3 : from_ ≤ 4096 := by omega
  clear hf0 hf1
  have cK2 := cK.out w2 (h1.out.keep hb.out) (h2.out.keep hb.out)
  unfold CkPost at cK2
  have kx := BX.out.at_
  replace cK2 := Lib.hid cK2
  go_wp2_with fail
  refine cK2.out.mono ?_
  rintro e w3 ⟨rfl, hb_⟩
  clear kx
  replace hb := Lib.hid (hb.out.keep hb_)
  replace BX := Lib.hid (BX.out.keep hb_)
  clear hb_ cK2
  dsimp only
  by_cases h0 : r2 = 0
  case neg =>
    have d : (r2 != 0) = true := by rw [bne_iff_ne]; exact h0
    replace h0 := Lib.hid h0
    go_wp2
    go_ret
    exact ⟨rfl, hb.out⟩
  have hR := hRi.out h0
  subst h0
  have hLL := hR.len
  have hL1 := hLL.1
  have hL2 := hLL.2.1
  have hfew := hR.few
  have hfl := fun X => inF_len L cs l X
  have hdok := fun n X (hX : 0 ≤ X) d (hd : d ∈ allD L cs l n) (hon : onB L X d = true) => duty_ok hR hX hd hon
  have hcnt := fun n X (hX : 0 ≤ X) => cnt_all hR n X hX
  have hsum := fun X => in_nodes hR X
  have cIn := fun X (hX : 0 ≤ X) W (k1 : CelS W A n cs) (k2 : ChgS W B m l) => inF_any L O A n cp cs B m cq l X W k1 k2 (by rw [← hl1.out]; omega) (by rw [← hl2.out]; omega) ⟨hL1, hL2⟩ hX
  have cNo := fun W (k1 : CelS W A n cs) (k2 : ChgS W B m l) => nodes_any L O A n cp cs B m cq l W k1 k2 (by rw [← hl1.out]; omega) (by rw [← hl2.out]; omega)
  have cDu := fun nd W (k1 : CelS W A n cs) (k2 : ChgS W B m l) hnd => duH_any L O A n cp cs B m cq l nd W k1 k2 ok1.out ok2.out hR hnd
  have cAt := fun nd X (hX : 0 ≤ X) A c d W (h : DutS W A d.length d) (hp : d.Perm (allD L cs l nd)) => atN_any L O cs l nd X hR hX A c d W h hp (by rw [hp.length_eq]; have := allD_len hR nd; omega)
  have hnn := fun k (hk : k < (nodesL cs l).length) => nodes_in hR (ok_at (P := (· ∈ nodesL cs l)) (fun _ h => h) hk)
  have hnl := (nodesL_ok cs l).2.2
  have hnd := (nodesL_ok cs l).1
  have hdl := fun n => allD_len hR n
  generalize hNL : nodesL cs l = NL at *
  have hnl2 : NL.length ≤ 4000 := by omega
  have hfl2 : ∀ X, (inF L cs l X).length ≤ 2000 := fun X => by have := hfl X; omega
  clear hLL hnl hfew hfl
  have HM0 := World.ownsMap_made (H := Unit) w3 Try.prog 3 rdS
  have hbM := ball w3 (.map #[] 0)
  have hP0 := HasN.empty (fun nd v => ∃ d A c, v = .slice A d.length c ∧ d.Perm (allD L cs l nd) ∧ DutS (w3.alloc (.map #[] 0)) A d.length d)
  have kx := BX.out.at_
  have hmm := @run_makeMap Try.prog
  replace hR := Lib.hid hR
  replace hdok := Lib.hid hdok
  replace hcnt := Lib.hid hcnt
  replace hsum := Lib.hid hsum
  replace cNo := Lib.hid cNo
  replace cDu := Lib.hid cDu
  replace cIn := Lib.hid cIn
  replace cAt := Lib.hid cAt
  replace hnn := Lib.hid hnn
  replace hNL := Lib.hid hNL
  replace hRi := Lib.hid hRi
  replace hdl := Lib.hid hdl
  replace hfl2 := Lib.hid hfl2
  replace hnd := Lib.hid hnd
  replace HM0 := Lib.hid HM0
  replace hbM := Lib.hid hbM
  replace hP0 := Lib.hid hP0
  go_upto_region 7 with fail
  clear kx hmm
  generalize hBm : w3.heap.size = Bm at *
  generalize w3.alloc (.map #[] 0) = w4 at *
  have hb34 : Hid (Below w3.heap.size w3 w4) := by show Below _ _ _; rw [hBm]; exact hbM.out
  have hb4 := Lib.hid (bthen hb.out hb34.out)
  have BX4 := Lib.hid (BX.out.keep hb34.out)
  have cNo2 := cNo.out w4 (h1.out.keep hb4.out) (h2.out.keep hb4.out)
  have kx := BX4.out.at_
  replace cNo2 := Lib.hid cNo2
  replace hBm := Lib.hid hBm
  clear hbM
  go_wp2_with fail
  refine cNo2.out.mono ?_
  rintro e w5 ⟨A5, c5, rfl, h5, hb_⟩
  clear kx
  have hb5 := Lib.hid (bthen hb34.out hb_)
  have HM5 := Lib.hid (HM0.out.kept (gb_below (r := none) hb_) (by simp))
  have HP5 := Lib.hid (hP0.out.mono (Q := fun nd v => ∃ d A c, v = .slice A d.length c ∧ d.Perm (allD L cs l nd) ∧ DutS w5 A d.length d) (fun nd v ⟨d, A, c, e, hp, hd⟩ => ⟨d, A, c, e, hp, hd.keep hb_⟩))
  replace h5 := Lib.hid h5
  clear hb_ cNo2 cNo HM0 hP0 hb4 BX4 hb34
  generalize hnN : NL.length = nN at *
  have hnl3 : Hid (NL.length = nN) := hnN
  clear hnN
  go_wp2_with fail
  go_loopw [11, 12, 13, 55] (fun _ _ _ i wr => ∃ (k : Nat) (D : DataW Unit), k ≤ nN ∧ i = .int .i64 k ∧ Hid (wr.ownsMap Try.prog 3 rdS Bm k D) ∧ Hid (HasN D (fun nd v => ∃ d A c, v = .slice A d.length c ∧ d.Perm (allD L cs l nd) ∧ DutS wr A d.length d) (NL.take k)) ∧ Hid (IntS wr A5 nN NL) ∧ Hid (Below w3.heap.size w3 wr)) (fun _ _ _ i _ => nN - (intOf i).toNat)
  case atStart => exact ⟨0, _, by omega, rfl, HM5, HP5, h5, hb5⟩
  case round =>
    clear HM5 HP5 h5 hb5
    obtain ⟨k, D, hk, rfl, HM, HP, h5, HB⟩ := hrel
    have HBw := Lib.hid (bthen hb.out HB.out)
    by_cases hlt : k < nN
    · obtain ⟨b, off, rfl⟩ := h5.out.addr (by omega)
      have hx := int_at h5.out hlt
      have hnk := hnn.out k hlt
      have htk : NL.take (k + 1) = NL.take k ++ [NL.getD k default] := take_snoc (by rw [hnl3.out]; exact hlt)
      have hno : NL.getD k default ∉ NL.take k := fun hm => by
        have := hnd.out.sublist (List.take_sublist (k + 1) NL)
        rw [htk, List.nodup_append] at this
        exact this.2.2 _ hm _ (by simp) rfl
      generalize NL.getD k default = nd at *
      have r1 : (k : Int) < (nN : Int) := by omega
      have kx := (BX.out.keep HB.out).at_
      have cD := cDu.out nd wr (h1.out.keep HBw.out) (h2.out.keep HBw.out) hnk
      replace cD := Lib.hid cD
      replace hnk := Lib.hid hnk
      replace htk := Lib.hid htk
      replace hno := Lib.hid hno
      go_wp2_with fail
      refine cD.out.mono ?_
      rintro e w6 ⟨d6, A6, c6, rfl, hp6, h6, hh6, hb_⟩
      clear kx hx cD
      have HB6 := Lib.hid (bthen HB.out hb_)
      have HM6 := HM.out.kept (gb_below (r := none) hb_) (by simp)
      obtain ⟨w7, hrun, hM7, hg7⟩ := HM6.update lawI Try.underlying57 (by unfold maxLen; omega) (keyI nd hnk.out) (rdS_hdr hh6)
      have hcm : ∀ off, w6.cell? ⟨Bm, off, none⟩ = none := by
        obtain ⟨es, ck, he, _⟩ := HM6
        exact cell_map he
      have HP7 : Hid (HasN (D.put (.int .i64 nd) (codeS (.slice A6 d6.length c6))) (fun nd v => ∃ d A c, v = .slice A d.length c ∧ d.Perm (allD L cs l nd) ∧ DutS w7 A d.length d) (NL.take (k + 1))) := by
        show HasN _ _ _
        rw [htk.out]
        exact (HP.out.mono (fun nd v ⟨d, A, c, e, hp, hd⟩ => ⟨d, A, c, e, hp, (hd.keep hb_).grownMap dutE_len (by decide) hg7 hcm⟩)).put hno.out hh6 ⟨d6, A6, c6, rfl, hp6, h6.grownMap dutE_len (by decide) hg7 hcm⟩
      have h57 := Lib.hid ((h5.out.keep hb_).grownMap intE_len (by decide) hg7 hcm)
      have HB7 := Lib.hid (Below.grownM HB6.out hg7 HB6.out.size (fun q hq => by have := hBm.out; injection hq with hq; omega))
      clear HM6 hp6 h6 hh6 hb_ hg7 hcm HM HP h5
      replace hM7 := Lib.hid hM7
      generalize d6.length = q6 at *
      go_wp2
      go_roundw
      case rel => exact ⟨k + 1, _, by omega, by go_num, hM7, HP7, h57, HB7⟩
      case measure => simp [intOf]; omega
    · obtain rfl : k = nN := by omega
      have HPn := HP.out
      rw [← hnl3.out, List.take_length] at HPn
      clear h5 HP
      generalize wr = w6 at *
      replace HPn := Lib.hid HPn
      go_wp2_with fail
      go_loopw [14, 15, 16, 17, 18, 19, 20, 21, 24, 84, 102, 110, 150, 155] (fun s14 _ _ _ _ _ _ _ _ _ _ _ _ _ wr => ∃ (q : Nat) (X : Int), q ≤ 60 ∧ X = from_ + q ∧ s14 = .int .i64 X ∧ Hid (Below w6.heap.size w6 wr)) (fun s14 _ _ _ _ _ _ _ _ _ _ _ _ _ _ => (from_ + 60 - intOf s14).toNat)
      case atStart => exact ⟨0, from_, by omega, by omega, rfl, Below.refl _ _⟩
      case round =>
        obtain ⟨q, X, hq, hX, rfl, HD⟩ := hrel
        have HD3 := Lib.hid (bthen HB.out HD.out)
        have hX2 : 0 ≤ X := by omega
        have hX3 : X ≤ 4156 := by omega
        have hXn : Hid (X + 1 = from_ + ((q + 1 : Nat) : Int)) := by show _ = _; omega
        by_cases hlq : q < 60
        · have r3 : X < from_ + 60 := by omega
          have kx := (BX.out.keep HD3.out).at_
          have cI := cIn.out X hX2 wr (h1.out.keep (bthen hb.out HD3.out)) (h2.out.keep (bthen hb.out HD3.out))
          have hok := fun nd d hd hon => hdok.out nd X hX2 d hd hon
          have hcn := fun nd => hcnt.out nd X hX2
          have hsm := hsum.out X
          have hwl := hfl2.out X
          generalize inF L cs l X = WF at *
          have cA7 := fun nd => cAt.out nd X hX2
          replace cI := Lib.hid cI
          replace hX := Lib.hid hX
          replace hok := Lib.hid hok
          replace hcn := Lib.hid hcn
          replace hsm := Lib.hid hsm
          replace cA7 := Lib.hid cA7
          go_wp2_with fail
          refine cI.out.mono ?_
          rintro e w7 ⟨A7, c7, rfl, h7, hb_⟩
          clear kx cI
          have HD7 := Lib.hid (bthen HD.out hb_)
          have HD37 := Lib.hid (bthen HD3.out hb_)
          have HM7 := HM.out.kept (gb_below (r := none) HD7.out) (by simp)
          clear hb_
          generalize hwn : WF.length = nW at *
          replace h7 := Lib.hid h7
          replace hwn := Lib.hid hwn
          go_wp2_with (at_range; refine wpList_range_own _ rfl _ 57 rfl 3 38 lawI Try.underlying57 rdS Bm k D rfl HM7 ?_; intro w8 hrg8 hg8 hs8)
          go_frame
          have HL8 : Hid (Left (Maps.has D) NL) := Left.start HPn.out hnd.out
          have HE8 := Lib.hid (below_gb hg8)
          replace hrg8 := Lib.hid hrg8
          replace hg8 := Lib.hid hg8
          replace hs8 := Lib.hid hs8
          go_loopw [16, 17, 18, 19, 20, 21, 24, 102, 110, 150, 155] (fun s16 s17 _ _ _ _ _ _ _ _ _ wr => ∃ (left : Lit → Bool) (cnt : Nat) (rem : List Int) (s t : Nat), s16 = .int .i64 s ∧ s17 = .int .i64 t ∧ Hid (wr.ranges Try.prog 3 rdS Bm w7.heap.size k D left cnt) ∧ Hid (Left left rem) ∧ Hid (∀ n ∈ rem, n ∈ NL) ∧ Hid (s + (rem.map fun n => WF.countP fun c => decide (c.frm = n)).sum = nW ∧ t + (rem.map fun n => WF.countP fun c => decide (c.to = n)).sum = nW) ∧ Hid (Below w7.heap.size w7 wr)) (fun _ _ _ _ _ _ _ _ _ _ _ wr => wr.rangeLeft Bm w7.heap.size)
          case atStart => exact ⟨_, _, NL, 0, 0, rfl, rfl, hrg8, HL8, fun n h => h, by show _ ∧ _; have h := hsm.out; omega, HE8⟩
          case round =>
            clear hrg8 HL8 HE8 hg8 hs8
            obtain ⟨left, cnt, rem, s, t, rfl, rfl, HRG, HL, HSub, HSum, HE⟩ := hrel
            have hsN : s ≤ nW := by have := HSum.out.1; omega
            have htN : t ≤ nW := by have := HSum.out.2; omega
            have HE6 := Lib.hid (bthen HD7.out HE.out)
            go_wp2_with (at_next; refine wpList_next_ranges _ rfl _ rfl 3 lawI rdS (Value.int .i64) (fun v : Value => v) invKI (fun v y _ => ⟨v, rfl⟩) Bm w7.heap.size k D left cnt rfl HRG.out ?hDone ?hMore)
            case hDone =>
              intro hc0 hl0
              have hrem := HL.out.done hl0
              subst hrem
              obtain ⟨hS1, hS2⟩ := HSum.out
              have e1 : s = nW := by simpa using hS1
              have e2 : t = nW := by simpa using hS2
              clear hl0 hS1 hS2 HL HSub HSum
              subst e1
              subst e2
              go_wp2
              go_roundw
              case rel => exact ⟨q + 1, X + 1, by omega, hXn.out, by go_num, HE6⟩
              case measure => simp [intOf]; omega
            case hMore =>
              intro x v kl y y2 w9 cnt9 hkey hlk hrv hat hrg9 hlt9 hg9 hs9 hen
              obtain ⟨x', ex, hkl, hwx⟩ := Maps.keyOf_int_inv Try.underlying3 hkey
              have ex2 : x = x' := by injection ex
              subst ex2
              subst hkl
              obtain ⟨hmem, HL9⟩ := HL.out.step hlk
              have hxN := HSub.out x hmem
              obtain ⟨u, hu1, ⟨d, A9, c9, rfl, hp, hd⟩, hu3⟩ := HPn.out.at_ x hxN
              obtain ⟨hv1, hv2⟩ := rdS_inv hrv
              have hvv : v = .slice A9 d.length c9 := codeS_inj hv1 hu1 (by rw [← hu3 (.lit (.bool false)), hat]; injection hv2 with e _; exact e.symm)
              subst hvv
              have HE9 := Lib.hid (Below.grownM HE.out hg9 HE.out.size (fun q hq => by injection hq with hq; omega))
              have HE69 := Lib.hid (bthen HD7.out HE9.out)
              have HE39 := Lib.hid (bthen HD37.out HE9.out)
              have kx := (BX.out.keep HE39.out).at_
              have cA9 := cA7.out x A9 c9 d w9 (hd.keep HE69.out) hp
              have hss := sum_erase hmem (fun n => WF.countP fun c => decide (c.frm = n))
              have hst := sum_erase hmem (fun n => WF.countP fun c => decide (c.to = n))
              have HRn : Hid (∀ n ∈ rem.erase x, n ∈ NL) := fun n hn => HSub.out n (List.mem_of_mem_erase hn)
              have hokx := hok.out x
              have hcnx := hcn.out x
              have hdl0 := hdl
              have hdl := Nat.le_trans (Nat.le_of_eq hp.length_eq) (hdl.out x)
              have hle := Lib.hid HRG.out.left_eq
              clear hkey hlk hrv hat hwx hd hp hu3 hv1 hv2 hu1 HL hg9 hs9 HE HRG
              generalize hr8 : rem.erase x = rem9 at *
              generalize d.length = q9 at *
              replace cA9 := Lib.hid cA9
              replace hrg9 := Lib.hid hrg9
              replace HL9 := Lib.hid HL9
              replace hss := Lib.hid hss
              replace hst := Lib.hid hst
              replace hokx := Lib.hid hokx
              replace hcnx := Lib.hid hcnx
              replace hr8 := Lib.hid hr8
              replace hxN := Lib.hid hxN
              replace hmem := Lib.hid hmem
              replace hlt9 := Lib.hid hlt9
              go_wp2_with fail
              refine cA9.out.mono ?_
              rintro e w10 ⟨d10, A10, c10, rfl, hp10, h10, _, hb_⟩
              clear kx cA9 hen
              have HE10 := Lib.hid (bthen HE9.out hb_)
              have HRG10 := Lib.hid (hrg9.out.kept (gb_below (r := none) hb_) (by simp) (by simp))
              have hd10 : ∀ e ∈ d10, (e.sends = true → e.extra = false ∧ e.cell.frm = x) ∧ (e.sends = false → e.cell.to = x) ∧ (e.extra = false → e.cell ∈ WF) := fun e he => by
                have hm := hp10.mem_iff.1 he
                rw [List.mem_filter] at hm
                exact hokx.out e hm.1 hm.2
              have hS10 : (d10.countP sndB) = WF.countP (fun c => decide (c.frm = x)) ∧ (d10.countP lstB) = WF.countP (fun c => decide (c.to = x)) := by
                rw [hp10.countP_eq, hp10.countP_eq, List.countP_filter, List.countP_filter, ← hcnx.out.1, ← hcnx.out.2]
                constructor
                · refine congrArg (fun p => List.countP p _) ?_
                  funext a; exact Bool.and_comm _ _
                · refine congrArg (fun p => List.countP p _) ?_
                  funext a; exact Bool.and_comm _ _
              have hq10 : d10.length ≤ 9000000 := by
                rw [hp10.length_eq]
                exact Nat.le_trans (List.length_filter_le _ _) (hdl0.out x)
              have hCs := fun (p : Dut → Bool) j (hj : j < d10.length) => (by rw [take_snoc hj, List.countP_append, List.countP_singleton] : (d10.take (j + 1)).countP p = (d10.take j).countP p + if p (d10.getD j default) = true then 1 else 0)
              have hCl := fun (p : Dut → Bool) j => Nat.le_trans (List.countP_le_length (p := p) (l := d10.take j)) (Nat.le_trans (by rw [List.length_take]; exact Nat.min_le_right _ _) hq10)
              have hCn := fun (p : Dut → Bool) => (by rw [List.take_length] : (d10.take d10.length).countP p = d10.countP p)
              have hSn : ∃ CS : Nat → Nat, CS = fun j => (d10.take j).countP sndB := ⟨_, rfl⟩
              have hTn : ∃ CT : Nat → Nat, CT = fun j => (d10.take j).countP lstB := ⟨_, rfl⟩
              obtain ⟨CS, hCS⟩ := hSn
              obtain ⟨CT, hCT⟩ := hTn
              have hCSs : ∀ j, j < d10.length → CS (j + 1) = CS j + if sndB (d10.getD j default) = true then 1 else 0 := by rw [hCS]; exact hCs sndB
              have hCTs : ∀ j, j < d10.length → CT (j + 1) = CT j + if lstB (d10.getD j default) = true then 1 else 0 := by rw [hCT]; exact hCs lstB
              have hCSl : ∀ j, CS j ≤ 9000000 := by rw [hCS]; exact hCl sndB
              have hCTl : ∀ j, CT j ≤ 9000000 := by rw [hCT]; exact hCl lstB
              have hCS0 : CS 0 = 0 := by rw [hCS]; rfl
              have hCT0 : CT 0 = 0 := by rw [hCT]; rfl
              have hCSn : CS d10.length = WF.countP (fun c => decide (c.frm = x)) := by rw [hCS, ← hS10.1]; exact hCn sndB
              have hCTn : CT d10.length = WF.countP (fun c => decide (c.to = x)) := by rw [hCT, ← hS10.2]; exact hCn lstB
              clear hCs hCl hCn hCS hCT hS10 hp10 hb_ hdl
              generalize hd10l : d10.length = q10 at *
              replace h10 := Lib.hid h10
              replace hd10 := Lib.hid hd10
              replace hd10l := Lib.hid hd10l
              replace hCSs := Lib.hid hCSs
              replace hCTs := Lib.hid hCTs
              replace hCSl := Lib.hid hCSl
              replace hCTl := Lib.hid hCTl
              replace hCS0 := Lib.hid hCS0
              replace hCT0 := Lib.hid hCT0
              replace hCSn := Lib.hid hCSn
              replace hCTn := Lib.hid hCTn
              go_wp2_with fail
              go_loopw [16, 17, 24, 102, 110, 150, 155] (fun s16 s17 _ i _ _ _ wr => ∃ (j : Nat), j ≤ q10 ∧ i = .int .i64 j ∧ s16 = .int .i64 ((s + CS j : Nat) : Int) ∧ s17 = .int .i64 ((t + CT j : Nat) : Int) ∧ Hid (Below w10.heap.size w10 wr)) (fun _ _ _ i _ _ _ _ => q10 - (intOf i).toNat)
              case atStart => exact ⟨0, by omega, rfl, by rw [hCS0.out]; rfl, by rw [hCT0.out]; rfl, Below.refl _ _⟩
              case round =>
                obtain ⟨j, hj, rfl, rfl, rfl, HF⟩ := hrel
                have HF7 := Lib.hid (bthen HE10.out HF.out)
                have hc1 := hCSl.out j
                have hc2 := hCTl.out j
                by_cases hlj : j < q10
                · obtain ⟨b, off, rfl⟩ := h10.out.addr (by omega)
                  have hx := dut_at (h10.out.keep HF.out) hlj
                  have hdj := hd10.out _ (ok_at (P := (· ∈ d10)) (fun _ h => h) (by rw [hd10l.out]; exact hlj))
                  have hs1 := hCSs.out j hlj
                  have ht1 := hCTs.out j hlj
                  generalize d10.getD j default = y at *
                  unfold sndB at hs1
                  unfold lstB at ht1
                  obtain ⟨⟨x0, x1, x2, x3, x4⟩, x5, x6, x7, x8⟩ := y
                  obtain ⟨q0, q1, q2, q3, q4, q5, q6', q7', q8⟩ := hx
                  dsimp only at q0 q1 q2 q3 q4 q5 q6' q7' q8 hdj hs1 ht1
                  have BD := Box.new wr #[.int .i64 x0, .int .i64 x1, .int .i64 x2, .int .i64 x3, .int .i64 x4, .bool x5, .bool x6, .int .i64 x7, .int .i64 x8] 45
                  have HFb := ballN HF.out (.cells #[.int .i64 x0, .int .i64 x1, .int .i64 x2, .int .i64 x3, .int .i64 x4, .bool x5, .bool x6, .int .i64 x7, .int .i64 x8] 45)
                  have HF7b := ballN HF7.out (.cells #[.int .i64 x0, .int .i64 x1, .int .i64 x2, .int .i64 x3, .int .i64 x4, .bool x5, .bool x6, .int .i64 x7, .int .i64 x8] 45)
                  have kd := BD.at_
                  have r4 : (j : Int) < (q10 : Int) := by omega
                  have cC := containsC_any A7 nW c7 WF ⟨x0, x1, x2, x3, x4⟩ _ (h7.out.keep HF7b)
                  have hE : (decide ((⟨x0, x1, x2, x3, x4⟩ : Cel) ∈ WF) = true) ↔ (⟨x0, x1, x2, x3, x4⟩ : Cel) ∈ WF := by simp
                  generalize decide ((⟨x0, x1, x2, x3, x4⟩ : Cel) ∈ WF) = E at *
                  obtain ⟨g1, g2, g3⟩ := hdj
                  cases x5 with
                  | true =>
                    obtain ⟨e1, e2⟩ := g1 rfl
                    subst e1
                    subst e2
                    obtain rfl : E = true := hE.2 (g3 rfl)
                    have hs2 : Hid (CS (j + 1) = CS j + 1) := by show _ = _; rw [hs1]; rfl
                    have ht2 : Hid (CT (j + 1) = CT j) := by show _ = _; rw [ht1]; rfl
                    clear hs1 ht1 g1 g2 g3 hE
                    replace BD := Lib.hid BD
                    replace HFb := Lib.hid HFb
                    replace HF7b := Lib.hid HF7b
                    replace cC := Lib.hid cC
                    go_wp2_with fail
                    refine cC.out.mono ?_
                    rintro e w11 ⟨rfl, hb_⟩
                    have HF2 := Lib.hid (bthen HFb.out hb_)
                    have kd2 := (BD.out.keep hb_).at_
                    clear kd hb_ cC q0 q1 q2 q3 q4 q5 q6' q7' q8
                    go_wp2
                    go_roundw
                    case rel => exact ⟨j + 1, by omega, by go_num, by rw [hs2.out]; go_num, by rw [ht2.out]; go_num, HF2⟩
                    case measure => simp [intOf]; omega
                  | false =>
                    have e2 := g2 rfl
                    subst e2
                    cases x6 with
                    | true =>
                      have hs2 : Hid (CS (j + 1) = CS j) := by show _ = _; rw [hs1]; rfl
                      have ht2 : Hid (CT (j + 1) = CT j) := by show _ = _; rw [ht1]; rfl
                      clear hs1 ht1 g1 g2 g3 hE
                      replace BD := Lib.hid BD
                      replace HFb := Lib.hid HFb
                      replace HF7b := Lib.hid HF7b
                      replace cC := Lib.hid cC
                      go_wp2_with fail
                      refine cC.out.mono ?_
                      rintro e w11 ⟨rfl, hb_⟩
                      have HF2 := Lib.hid (bthen HFb.out hb_)
                      have kd2 := (BD.out.keep hb_).at_
                      clear kd hb_ cC q0 q1 q2 q3 q4 q5 q6' q7' q8
                      go_wp2
                      go_roundw
                      case rel => exact ⟨j + 1, by omega, by go_num, by rw [hs2.out]; go_num, by rw [ht2.out]; go_num, HF2⟩
                      case measure => simp [intOf]; omega
                    | false =>
                      obtain rfl : E = true := hE.2 (g3 rfl)
                      have hs2 : Hid (CS (j + 1) = CS j) := by show _ = _; rw [hs1]; rfl
                      have ht2 : Hid (CT (j + 1) = CT j + 1) := by show _ = _; rw [ht1]; rfl
                      clear hs1 ht1 g1 g2 g3 hE
                      replace BD := Lib.hid BD
                      replace HFb := Lib.hid HFb
                      replace HF7b := Lib.hid HF7b
                      replace cC := Lib.hid cC
                      go_wp2_with fail
                      refine cC.out.mono ?_
                      rintro e w11 ⟨rfl, hb_⟩
                      have HF2 := Lib.hid (bthen HFb.out hb_)
                      have kd2 := (BD.out.keep hb_).at_
                      clear kd hb_ cC q0 q1 q2 q3 q4 q5 q6' q7' q8
                      go_wp2
                      go_roundw
                      case rel => exact ⟨j + 1, by omega, by go_num, by rw [hs2.out]; go_num, by rw [ht2.out]; go_num, HF2⟩
                      case measure => simp [intOf]; omega
                · obtain rfl : j = q10 := by omega
                  have hL9 := HL9
                  have hsn : Hid (s + CS j + (rem9.map fun n => WF.countP fun c => decide (c.frm = n)).sum = nW ∧ t + CT j + (rem9.map fun n => WF.countP fun c => decide (c.to = n)).sum = nW) := by
                    show _ ∧ _
                    have h1 := HSum.out
                    have h2 := hss.out
                    have h3 := hst.out
                    rw [hCSn.out, hCTn.out]
                    omega
                  have HRGn := Lib.hid (HRG10.out.kept (gb_below (r := none) HF.out) (by simp) (by simp))
                  go_wp2
                  go_roundw
                  case rel => exact ⟨_, _, rem9, s + CS j, t + CT j, congrArg (Value.int .i64) (by omega), congrArg (Value.int .i64) (by omega), HRGn, HL9, HRn, hsn, HF7⟩
                  case measure => (rw [HRGn.out.left_eq, hle.out]; exact hlt9.out)
        · have r3 : decide (X < from_ + 60) = false := by simp; omega
          replace hX := Lib.hid hX
          replace hlq := Lib.hid hlq
          go_wp2
          go_ret
          exact ⟨rfl, (bthen hb.out HD3.out)⟩
theorem switchoverEnds_walk (L O : Int) (A : Option Addr) (n cp : Nat) (cs : List Cel) (B : Option Addr) (m cq : Nat) (l : List Chg) (from_ : Int) (w : World) (_ : (Lit.int .i64 L).wf = true) (_ : (Lit.int .i64 O).wf = true) (h1 : CelS w A n cs ∧ ∀ c ∈ cs, c.ok) (h2 : ChgS w B m l ∧ ∀ x ∈ l, I64 x.slot ∧ x.cell.ok) (_ : (Lit.int .i64 from_).wf = true) :
    Calls Try.prog 7 #[.agg #[.int .i64 L, .int .i64 O, .slice A n cp], .slice B m cq, .int .i64 from_] w fun e w' => e = .returned (.bool true) ∧ Below w.heap.size w w' :=
  ends_law L O A n cp cs B m cq l from_ w h1.1 h2.1 h1.2 (fun x hx => (h2.2 x hx).2)
end Sw
end Go.Proofs.Ytdlgdmbcbenlbaa
