/- The law Times. -/
import Derived.Test.YtdlgdmbcbenlbaaKi
import Derived.Deep.LoopGhost
import Derived.Laws.EntriesVeiled
set_option linter.unusedVariables false
set_option linter.unusedSimpArgs false
namespace Go.Proofs.Ytdlgdmbcbenlbaa
open Go Go.RowKit Go.Sort Go.Shelf
namespace Sw
open Mm
theorem eTm1 : ∀ args w, (callFunc 26 args).run Try.prog w = .ok (.enter 26 args) w := enters_of Try.func26 (by kernel_rfl) rfl
set_option maxRecDepth 100000 in
set_option maxHeartbeats 8000000 in
theorem times_law (L O : Int) (A : Option Addr) (n cp : Nat) (cs : List Cel) (B : Option Addr) (m cq : Nat) (l : List Chg) (c : Cel) (from_ : Int) (w : World) (h1 : CelS w A n cs) (h2 : ChgS w B m l) (ok1 : ∀ c ∈ cs, c.ok) (ok2 : ∀ x ∈ l, x.cell.ok) :
    Calls Try.prog 6 #[.agg #[.int .i64 L, .int .i64 O, .slice A n cp], .slice B m cq, .agg #[.int .i64 c.slot, .int .i64 c.offset, .int .i64 c.frm, .int .i64 c.to, .int .i64 c.flow], .int .i64 from_] w fun e w' => e = .returned (.bool true) ∧ Below w.heap.size w w' := by
  have hs1 := h1.small
  have hs2 := h2.small
  have hl2 := h2.len
  have hb2 := ballN (ball w (.cells #[.int .i64 L, .int .i64 O, .slice A n cp] 24)) (.cells #[.int .i64 c.slot, .int .i64 c.offset, .int .i64 c.frm, .int .i64 c.to, .int .i64 c.flow] 34)
  have BX := (Box.new w #[.int .i64 L, .int .i64 O, .slice A n cp] 24).alloc (.cells #[.int .i64 c.slot, .int .i64 c.offset, .int .i64 c.frm, .int .i64 c.to, .int .i64 c.flow] 34)
  have BC := Box.new (w.alloc (.cells #[.int .i64 L, .int .i64 O, .slice A n cp] 24)) #[.int .i64 c.slot, .int .i64 c.offset, .int .i64 c.frm, .int .i64 c.to, .int .i64 c.flow] 34
  rw [size1] at BC
  have cA := fun W => awake_any W
  have cF := fun W => few_any L O A n cp B m cq W hs1 hs2
  have cT := fun W (k1 : CelS W A n cs) (k2 : ChgS W B m l) => Times_any L O A n cp cs B m cq l c W k1 k2 ok1 ok2 (fun h0 => ⟨ends_of ((right_of h0).okL c), by rw [← hl2]; exact (right_of h0).few⟩)
  have hTR : timesR L O cs l c = if (chkN L O cs l).2 = 0 then timesC cs l c else [] := rfl
  have hRi := fun (h0 : (chkN L O cs l).2 = 0) => right_of h0
  generalize timesR L O cs l c = TR at *
  generalize chkN L O cs l = R at *
  obtain ⟨r1, r2⟩ := R
  dsimp only at hTR hRi
  generalize fewB n m = FW at *
  obtain ⟨c0, c1, c2, c3, c4⟩ := c
  dsimp only at hb2 BX BC cT
  have kx := BX.at_
  have kc := BC.at_
  replace h1 := Lib.hid h1
  replace h2 := Lib.hid h2
  replace hb2 := Lib.hid hb2
  replace BX := Lib.hid BX
  replace BC := Lib.hid BC
  replace cA := Lib.hid cA
  replace cF := Lib.hid cF
  replace cT := Lib.hid cT
  replace hs1 := Lib.hid hs1
  replace hs2 := Lib.hid hs2
  replace hl2 := Lib.hid hl2
  replace ok1 := Lib.hid ok1
  replace ok2 := Lib.hid ok2
  replace hTR := Lib.hid hTR
  replace hRi := Lib.hid hRi
  go_enter Try.func6, Try.ntmps6
  go_wp2_with fail
  clear kx kc
  generalize (w.alloc (.cells #[.int .i64 L, .int .i64 O, .slice A n cp] 24)).alloc (.cells #[.int .i64 c0, .int .i64 c1, .int .i64 c2, .int .i64 c3, .int .i64 c4] 34) = w0 at *
  refine (cA.out _).mono ?_
  rintro e w1 ⟨rfl, hb_⟩
  replace hb2 := Lib.hid (hb2.out.keep hb_)
  replace BX := Lib.hid (BX.out.keep hb_)
  replace BC := Lib.hid (BC.out.keep hb_)
  clear hb_
  have kx := BX.out.at_
  go_wp2_with fail
  refine (cF.out _).mono ?_
  rintro e w2 ⟨rfl, hb_⟩
  clear kx
  replace hb2 := Lib.hid (hb2.out.keep hb_)
  replace BX := Lib.hid (BX.out.keep hb_)
  replace BC := Lib.hid (BC.out.keep hb_)
  clear hb_
  have hAw : Hid (∀ W, Below w.heap.size w W → Calls Try.prog 10 #[] W fun e w' => e = .returned (.bool true) ∧ Below w.heap.size w w') := fun W h => (cA.out W).mono fun _ _ k => ⟨k.1, bthen h k.2⟩
  cases FW with
  | false =>
    go_wp2_with fail
    refine (hAw.out _ hb2.out).mono ?_
    rintro e w3 ⟨rfl, hb_⟩
    replace hb_ := Lib.hid hb_
    go_wp2
    go_ret
    exact ⟨rfl, hb_.out⟩
  | true =>
  by_cases hf0 : from_ < 0
  · go_wp2_with fail
    refine (hAw.out _ hb2.out).mono ?_
    rintro e w3 ⟨rfl, hb_⟩
    replace hb_ := Lib.hid hb_
    go_wp2
    go_ret
    exact ⟨rfl, hb_.out⟩
  by_cases hf1 : 4096 < from_
  · have hf2 : 0 ≤ from_ := by omega
    go_wp2_with fail
    refine (hAw.out _ hb2.out).mono ?_
    rintro e w3 ⟨rfl, hb_⟩
    replace hb_ := Lib.hid hb_
    go_wp2
    go_ret
    exact ⟨rfl, hb_.out⟩
  have hf2 : 0 ≤ from_ := by omega
  have hf3 : from_ ≤ 4096 := by omega
  clear hf0 hf1
  have kx := BX.out.at_
  have kc := BC.out.at_
  have cT2 := cT.out w2 (h1.out.keep hb2.out) (h2.out.keep hb2.out)
  replace cT2 := Lib.hid cT2
  go_wp2_with fail
  refine cT2.out.mono ?_
  rintro e w3 ⟨AT, ct, rfl, ho, hb_⟩
  clear kx kc
  replace hb2 := Lib.hid (hb2.out.keep hb_)
  replace BX := Lib.hid (BX.out.keep hb_)
  replace BC := Lib.hid (BC.out.keep hb_)
  have HT := Lib.hid (Sls.of_owns prE_len ho rfl).2
  clear hb_ ho
  dsimp only
  by_cases h0 : r2 = 0
  case neg =>
    have hTe : TR = [] := by rw [hTR.out, if_neg h0]
    subst hTe
    have d : (r2 != 0) = true := by rw [bne_iff_ne]; exact h0
    replace h0 := Lib.hid h0
    go_wp2
    go_ret
    exact ⟨by first | rfl | simp, hb2.out⟩
  have hR := Lib.hid (hRi.out h0)
  have hTe : TR = timesC cs l ⟨c0, c1, c2, c3, c4⟩ := by rw [hTR.out, if_pos h0]
  have hcan := hR.out.inv ⟨c0, c1, c2, c3, c4⟩
  have hin := fun x hx => in_force hR.out ⟨c0, c1, c2, c3, c4⟩ x hx
  rw [← hTe] at hcan hin
  have hca := fun i (hi : i < TR.length) => canon_at hcan.canon hi
  subst h0
  replace hTe := Lib.hid hTe
  replace hin := Lib.hid hin
  replace hca := Lib.hid hca
  replace hcan := Lib.hid hcan
  clear cT cT2 hTR hRi
  have hFin : Hid (∀ x : Int, 0 ≤ x → TR.any (inB x) = forceN cs l ⟨c0, c1, c2, c3, c4⟩ x) := hin.out
  generalize hnt : TR.length = nt at *
  have hsm := HT.out.small
  unfold maxLen at hsm
  replace hnt := Lib.hid hnt
  go_wp2_with fail
  go_loopw [49] (fun i wr => ∃ k : Nat, k ≤ nt ∧ i = .int .i64 k ∧ Hid (Below w3.heap.size w3 wr)) (fun i _ => nt - (intOf i).toNat)
  case atStart => exact ⟨0, by omega, rfl, Below.refl _ _⟩
  case round =>
    obtain ⟨k, hk, rfl, HB⟩ := hrel
    by_cases hlt : k < nt
    · obtain ⟨b, off, rfl⟩ := HT.out.addr (by omega)
      have hx := pr_at (HT.out.keep HB.out) hlt
      have hc := hca.out k hlt
      have hy := fun W (hb : Below w3.heap.size w3 W) (h0 : 0 < k) => pr_at (HT.out.keep hb) (i := k - 1) (by omega)
      generalize TR.getD (k - 1) default = y at *
      generalize TR.getD k default = x at *
      obtain ⟨x0, x1⟩ := x
      obtain ⟨y0, y1⟩ := y
      obtain ⟨p0, p1⟩ := hx
      obtain ⟨e0, e1, e2⟩ := hc
      dsimp only at p0 p1 e0 e1 e2 hy
      have BP := Box.new wr #[.int .i64 x0, .int .i64 x1] 42
      have HBb := ballN HB.out (.cells #[.int .i64 x0, .int .i64 x1] 42)
      have r1 : (k : Int) < (nt : Int) := by omega
      replace BP := Lib.hid BP
      replace HBb := Lib.hid HBb
      replace hy := Lib.hid hy
      replace e1 := Lib.hid e1
      replace e2 := Lib.hid e2
      go_upto_region 9 with fail
      clear p0 p1
      generalize hB' : wr.heap.size = Bp at *
      generalize wr.alloc (.cells #[.int .i64 x0, .int .i64 x1] 42) = wb at *
      have gp := BP.out.grown
      replace hB' := Lib.hid hB'
      have d0 : decide (x0 < 0) = false := by simp; omega
      by_cases c1 : x1 = -1
      · subst c1
        by_cases h0 : k = 0
        · have h1' : decide (0 < k) = false := by simp; omega
          have h2' : decide (0 < (k : Int)) = false := by simp; omega
          replace h0 := Lib.hid h0
          refine wp_region_quiet_below (by kernel_rfl) (by kernel_rfl) ?_
          repeat (go_big_quiet_step (fail))
          refine wpQuiet_nil ?_
          rintro _ ⟨⟨dq, osq⟩, rfl⟩
          have hb_ := below_regrown wb dq osq
          replace HBb := Lib.hid (HBb.out.keep hb_)
          generalize grow (redrawn wb dq) osq = w5 at *
          clear hb_
          go_wp2
          go_roundw
          case rel => exact ⟨k + 1, by omega, by go_num, HBb⟩
          case measure => simp [intOf]; omega
        · have hk0 : 0 < k := by omega
          obtain ⟨_, q1⟩ := hy.out wb HBb.out hk0
          obtain ⟨f1, f2⟩ := e2.out hk0
          have g1 := cell_regrown q1
          have d2 : (y1 == -1) = false := by simpa using f1
          have d3 : decide (x0 ≤ y1) = false := by simp; omega
          have hw1 : IntKind.i64.wrap ((k : Int) - 1) = (k : Int) - 1 := by rw [IntKind.wrap_i64]; omega
          have ht1 : ((k : Int) - 1).toNat = k - 1 := by omega
          have t1 : (0 : Int) ≤ (k : Int) - 1 := by omega
          have t2 : (k : Int) - 1 < (nt : Int) := by omega
          have hk0' : 0 < (k : Int) := by omega
          clear q1 f1
          replace f2 := Lib.hid f2
          refine wp_region_quiet_below (by kernel_rfl) (by kernel_rfl) ?_
          repeat (go_big_quiet_step (fail))
          refine wpQuiet_nil ?_
          rintro _ ⟨⟨dq, osq⟩, rfl⟩
          have hb_ := below_regrown wb dq osq
          replace HBb := Lib.hid (HBb.out.keep hb_)
          generalize grow (redrawn wb dq) osq = w5 at *
          clear hb_
          go_wp2
          go_roundw
          case rel => exact ⟨k + 1, by omega, by go_num, HBb⟩
          case measure => simp [intOf]; omega
      · have d1 : (x1 != -1) = true := by rw [bne_iff_ne]; exact c1
        have d4 : decide (x1 ≤ x0) = false := by have := e1.out; simp; omega
        replace c1 := Lib.hid c1
        by_cases h0 : k = 0
        · have h1' : decide (0 < k) = false := by simp; omega
          have h2' : decide (0 < (k : Int)) = false := by simp; omega
          replace h0 := Lib.hid h0
          refine wp_region_quiet_below (by kernel_rfl) (by kernel_rfl) ?_
          repeat (go_big_quiet_step (fail))
          refine wpQuiet_nil ?_
          rintro _ ⟨⟨dq, osq⟩, rfl⟩
          have hb_ := below_regrown wb dq osq
          replace HBb := Lib.hid (HBb.out.keep hb_)
          generalize grow (redrawn wb dq) osq = w5 at *
          clear hb_
          go_wp2
          go_roundw
          case rel => exact ⟨k + 1, by omega, by go_num, HBb⟩
          case measure => simp [intOf]; omega
        · have hk0 : 0 < k := by omega
          obtain ⟨_, q1⟩ := hy.out wb HBb.out hk0
          obtain ⟨f1, f2⟩ := e2.out hk0
          have g1 := cell_regrown q1
          have d2 : (y1 == -1) = false := by simpa using f1
          have d3 : decide (x0 ≤ y1) = false := by simp; omega
          have hw1 : IntKind.i64.wrap ((k : Int) - 1) = (k : Int) - 1 := by rw [IntKind.wrap_i64]; omega
          have ht1 : ((k : Int) - 1).toNat = k - 1 := by omega
          have t1 : (0 : Int) ≤ (k : Int) - 1 := by omega
          have t2 : (k : Int) - 1 < (nt : Int) := by omega
          have hk0' : 0 < (k : Int) := by omega
          clear q1 f1
          replace f2 := Lib.hid f2
          refine wp_region_quiet_below (by kernel_rfl) (by kernel_rfl) ?_
          repeat (go_big_quiet_step (fail))
          refine wpQuiet_nil ?_
          rintro _ ⟨⟨dq, osq⟩, rfl⟩
          have hb_ := below_regrown wb dq osq
          replace HBb := Lib.hid (HBb.out.keep hb_)
          generalize grow (redrawn wb dq) osq = w5 at *
          clear hb_
          go_wp2
          go_roundw
          case rel => exact ⟨k + 1, by omega, by go_num, HBb⟩
          case measure => simp [intOf]; omega
    · obtain rfl : k = nt := by omega
      have HB3 := Lib.hid (bthen hb2.out HB.out)
      have BF0 := Lib.hid (Blk.new wr #[.int .i64 from_] 3)
      have HBf := Lib.hid (ballN HB.out (.cells #[.int .i64 from_] 3))
      clear HB3
      go_wp2_with fail
      generalize hBf : wr.heap.size = Bf at *
      generalize wr.alloc (.cells #[.int .i64 from_] 3) = wf at *
      replace hBf := Lib.hid hBf
      go_loopg [13, 14, 15, 110] 100 (fun g1 s13 _ _ _ wr => ∃ (q Bq : Nat), q ≤ 100 ∧ 100 - q ≤ g1 ∧ s13 = .pointer (some ⟨Bq, 0, none⟩) ∧ Hid (Blk wr Bq #[.int .i64 (from_ + q)] 3) ∧ Hid (w3.heap.size ≤ Bq) ∧ Hid (Below w3.heap.size w3 wr))
      case atStart => exact ⟨0, Bf, by omega, by omega, rfl, by show Blk _ _ _ _; rw [show from_ + ((0 : Nat) : Int) = from_ by omega]; exact BF0.out, by show _ ≤ _; rw [← hBf.out]; exact HB.out.size, HBf⟩
      case round =>
        clear BF0 HBf
        obtain ⟨q, Bq, hq, hg1, rfl, BF, HBq, HB⟩ := hrel
        have hB2 := Lib.hid (bthen hb2.out HB.out)
        by_cases hq1 : q < 100
        · have hX : ∃ X, X = from_ + (q : Int) := ⟨_, rfl⟩
          obtain ⟨X, hX⟩ := hX
          rw [← hX] at BF
          have hX1 : X < from_ + 100 := by omega
          have hX2 : 0 ≤ X := by omega
          have hX3 : X ≤ 5000 := by omega
          have kf := BF.out.cell 0
          have kf' : wr.cell? ⟨Bq, 0, none⟩ = some (.int .i64 X) := kf
          clear kf
          have cC := ctnFnP_any 26 #[.pointer (some ⟨Bq, 0, none⟩)] (inB X) AT k ct TR wr eTm1 (HT.out.keep HB.out) (fun x _ W hb => inT_any x X Bq W ((hb.cell (p := ⟨Bq, 0, none⟩) (World.block_lt_of_cell? wr _ kf')).trans kf'))
          rw [hFin.out X hX2] at cC
          have hfs := fun k (hk : k < l.length) => forceN_snoc cs (l.take k) ⟨c0, c1, c2, c3, c4⟩ X (l.getD k default)
          have hf0 : forceN cs (l.take 0) ⟨c0, c1, c2, c3, c4⟩ X = decide ((⟨c0, c1, c2, c3, c4⟩ : Cel) ∈ cs) := rfl
          have hfn : forceN cs (l.take m) ⟨c0, c1, c2, c3, c4⟩ X = forceN cs l ⟨c0, c1, c2, c3, c4⟩ X := by rw [← hl2.out, List.take_length]
          replace hX := Lib.hid hX
          replace cC := Lib.hid cC
          replace hfs := Lib.hid hfs
          replace hf0 := Lib.hid hf0
          replace hfn := Lib.hid hfn
          go_wp2_with fail
          refine cC.out.mono ?_
          rintro e w4 ⟨rfl, hb_⟩
          clear kf'
          replace hB2 := Lib.hid (hB2.out.keep hb_)
          replace HB := Lib.hid (HB.out.keep hb_)
          replace BF := Lib.hid (BF.out.keep hb_)
          clear hb_ cC
          have cH := containsC_any A n cp cs ⟨c0, c1, c2, c3, c4⟩ w4 (h1.out.keep hB2.out)
          rw [← hf0.out] at cH
          have kx := (BX.out.keep HB.out).at_
          have kc := (BC.out.keep HB.out).at_
          replace cH := Lib.hid cH
          go_wp2_with fail
          refine cH.out.mono ?_
          rintro e w5 ⟨rfl, hb_⟩
          clear kx kc
          replace hB2 := Lib.hid (hB2.out.keep hb_)
          replace HB := Lib.hid (HB.out.keep hb_)
          replace BF := Lib.hid (BF.out.keep hb_)
          clear hb_ cH hf0
          generalize forceN cs l ⟨c0, c1, c2, c3, c4⟩ X = FX at *
          generalize hFF : (fun k => forceN cs (l.take k) ⟨c0, c1, c2, c3, c4⟩ X) = FN at *
          have hF0 : forceN cs (l.take 0) ⟨c0, c1, c2, c3, c4⟩ X = FN 0 := by rw [← hFF]
          have hFs : ∀ k, k < l.length → FN (k + 1) = if (l.getD k default).slot ≤ X ∧ (l.getD k default).cell = ⟨c0, c1, c2, c3, c4⟩ then (l.getD k default).add else FN k := fun k hk => by rw [← hFF]; show forceN cs (l.take (k + 1)) _ X = _; rw [take_snoc hk]; exact hfs.out k hk
          have hFn : FN m = FX := by rw [← hFF]; exact hfn.out
          rw [hF0]
          clear hfs hfn hFF hF0
          have hm2 := hs2.out
          unfold maxLen at hm2
          replace hFs := Lib.hid hFs
          replace hFn := Lib.hid hFn
          go_wp2_with fail
          go_loopw [15, 110] (fun t i wr => ∃ (j : Nat), j ≤ m ∧ i = .int .i64 j ∧ t = .bool (FN j) ∧ Hid (Below w5.heap.size w5 wr)) (fun _ i _ => m - (intOf i).toNat)
          case atStart => exact ⟨0, by omega, rfl, rfl, Below.refl _ _⟩
          case round =>
            obtain ⟨j, hj, rfl, rfl, HI⟩ := hrel
            have HB6 := Lib.hid (bthen HB.out HI.out)
            have hB6 := Lib.hid (bthen hB2.out HI.out)
            by_cases hjm : j < m
            · obtain ⟨b, off, rfl⟩ := h2.out.addr (by omega)
              have hx := chg_at (h2.out.keep hB6.out) hjm
              have hfs := hFs.out j (by rw [hl2.out]; exact hjm)
              have ke := fun W => eql_cel (l.getD j default).cell ⟨c0, c1, c2, c3, c4⟩ W
              have hE : eqC (l.getD j default).cell ⟨c0, c1, c2, c3, c4⟩ = decide ((l.getD j default).cell = ⟨c0, c1, c2, c3, c4⟩) := rfl
              generalize eqC (l.getD j default).cell ⟨c0, c1, c2, c3, c4⟩ = E at *
              generalize l.getD j default = x at *
              obtain ⟨xs, xa, x0, x1, x2, x3, x4⟩ := x
              obtain ⟨q0, q1, q2, q3, q4, q5, q6⟩ := hx
              dsimp only at q0 q1 q2 q3 q4 q5 q6 hfs ke hE
              have BXx := Box.new wr #[.int .i64 xs, .bool xa, .int .i64 x0, .int .i64 x1, .int .i64 x2, .int .i64 x3, .int .i64 x4] 56
              have HIb := ballN HI.out (.cells #[.int .i64 xs, .bool xa, .int .i64 x0, .int .i64 x1, .int .i64 x2, .int .i64 x3, .int .i64 x4] 56)
              have HBb := ballN HB6.out (.cells #[.int .i64 xs, .bool xa, .int .i64 x0, .int .i64 x1, .int .i64 x2, .int .i64 x3, .int .i64 x4] 56)
              have r1 : (j : Int) < (m : Int) := by omega
              replace BXx := Lib.hid BXx
              replace HIb := Lib.hid HIb
              replace HBb := Lib.hid HBb
              replace hfs := Lib.hid hfs
              replace hE := Lib.hid hE
              go_upto_region 20 with fail
              clear q0 q1 q2 q3 q4 q5 q6
              generalize hB' : wr.heap.size = Bx at *
              generalize wr.alloc (.cells #[.int .i64 xs, .bool xa, .int .i64 x0, .int .i64 x1, .int .i64 x2, .int .i64 x3, .int .i64 x4] 56) = wb at *
              have kx := BXx.out.at_
              have kc := (BC.out.keep HBb.out).at_
              have kf0 := (BF.out.keep HIb.out).cell 0
              have kf : wb.cell? ⟨Bq, 0, none⟩ = some (.int .i64 X) := kf0
              clear kf0
              replace hB' := Lib.hid hB'
              by_cases c1 : xs ≤ X
              · cases E with
                | true =>
                  have hN : Hid (FN (j + 1) = xa) := by
                    show _ = _
                    have := hE.out
                    rw [eq_comm, decide_eq_true_eq] at this
                    rw [hfs.out, if_pos ⟨c1, this⟩]
                  go_wp2
                  go_roundw
                  case rel => exact ⟨j + 1, by omega, by go_num, by rw [hN.out], HIb⟩
                  case measure => simp [intOf]; omega
                | false =>
                  have hN : Hid (FN (j + 1) = FN j) := by
                    show _ = _
                    have := hE.out
                    rw [eq_comm, decide_eq_false_iff_not] at this
                    rw [hfs.out, if_neg (fun h => this h.2)]
                  go_wp2
                  go_roundw
                  case rel => exact ⟨j + 1, by omega, by go_num, by rw [hN.out], HIb⟩
                  case measure => simp [intOf]; omega
              · have hN : Hid (FN (j + 1) = FN j) := by
                  show _ = _
                  rw [hfs.out, if_neg (fun h => c1 h.1)]
                have d1 : decide (xs ≤ X) = false := by simpa using c1
                replace c1 := Lib.hid c1
                go_wp2
                go_roundw
                case rel => exact ⟨j + 1, by omega, by go_num, by rw [hN.out], HIb⟩
                case measure => simp [intOf]; omega
            · obtain rfl : j = m := by omega
              rw [hFn.out]
              have BF6 := Lib.hid (BF.out.keep HI.out)
              have kf0 := BF6.out.cell 0
              have kf : wr.cell? ⟨Bq, 0, none⟩ = some (.int .i64 X) := kf0
              clear kf0
              go_wp2_with fail
              have hBF : Hid (Blk (wr.alloc (.cells #[.int .i64 (X + 1)] 3)) wr.heap.size #[.int .i64 (from_ + ((q + 1 : Nat) : Int))] 3) := by
                show Blk _ _ _ _
                rw [show from_ + ((q + 1 : Nat) : Int) = X + 1 by have := hX.out; omega]
                exact Blk.new _ _ _
              have hSz : Hid (w3.heap.size ≤ wr.heap.size) := HB6.out.size
              have hBN := Lib.hid (ballN HB6.out (.cells #[.int .i64 (X + 1)] 3))
              go_roundg (100 - (q + 1))
              case rel => exact ⟨q + 1, wr.heap.size, by omega, by omega, rfl, hBF, hSz, hBN⟩
              case measure => omega
        · have hqq : q = 100 := by omega
          have kf0 := BF.out.cell 0
          have kf : wr.cell? ⟨Bq, 0, none⟩ = some (.int .i64 (from_ + q)) := kf0
          clear kf0
          have r1 : ¬ (from_ + (q : Int) < from_ + 100) := by omega
          go_wp2
          go_ret
          exact ⟨rfl, hB2.out⟩
theorem switchoverTimes_walk (L O : Int) (A : Option Addr) (n cp : Nat) (cs : List Cel) (B : Option Addr) (m cq : Nat) (l : List Chg) (c0 c1 c2 c3 c4 : Int) (from_ : Int) (w : World) (_ : (Lit.int .i64 L).wf = true) (_ : (Lit.int .i64 O).wf = true) (h1 : CelS w A n cs ∧ ∀ c ∈ cs, c.ok) (h2 : ChgS w B m l ∧ ∀ x ∈ l, I64 x.slot ∧ x.cell.ok) (_ : (Lit.int .i64 c0).wf = true) (_ : (Lit.int .i64 c1).wf = true) (_ : (Lit.int .i64 c2).wf = true) (_ : (Lit.int .i64 c3).wf = true) (_ : (Lit.int .i64 c4).wf = true) (_ : (Lit.int .i64 from_).wf = true) :
    Calls Try.prog 6 #[.agg #[.int .i64 L, .int .i64 O, .slice A n cp], .slice B m cq, .agg #[.int .i64 c0, .int .i64 c1, .int .i64 c2, .int .i64 c3, .int .i64 c4], .int .i64 from_] w fun e w' => e = .returned (.bool true) ∧ Below w.heap.size w w' :=
  times_law L O A n cp cs B m cq l ⟨c0, c1, c2, c3, c4⟩ from_ w h1.1 h2.1 h1.2 (fun x hx => (h2.2 x hx).2)
end Sw
end Go.Proofs.Ytdlgdmbcbenlbaa
