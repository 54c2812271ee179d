/- Chapter 16: the reference's cell. -/
import Derived.Test.YtkfipbelhlcddaaGreatTxI
set_option linter.unusedVariables false
set_option linter.unusedSimpArgs false
namespace Go.Proofs.YtkfipbelhlcddaaGreat
open Go Go.RowKit Go.Sort Go.Lib Go.Shelf Go.Maps
namespace Tx
open Sw Mm
set_option maxRecDepth 100000 in
set_option maxHeartbeats 4000000 in
theorem rcell_any (t : Tab) (v : TabV) (c : TCl) (w : World) : Calls Tryz.prog 120 #[.agg #[.int .i64 t.node, .int .i64 t.length, .slice v.A v.n v.c], .agg #[.int .i64 c.slot, .int .i64 c.off, .int .i64 c.kind, .bool c.send, .int .i64 c.peer, .int .i64 c.flow]] w fun e w' => e = .returned (.int .i64 (formN c t.node t.length)) ∧ Below w.heap.size w w' := by
  have HM := Lib.hid (Mem.start w)
  have hR : formN c t.node t.length = formN c t.node t.length := rfl
  conv at hR => rhs; unfold formN
  generalize formN c t.node t.length = R at *
  obtain ⟨self, len, cs⟩ := t
  obtain ⟨c0, c1, c2, c3, c4, c5⟩ := c
  dsimp only at *
  have hk : c2 = 1 ∨ c2 = 2 ∨ c2 = 3 ∨ (c2 ≠ 1 ∧ c2 ≠ 2 ∧ c2 ≠ 3) := by omega
  rcases hk with rfl | rfl | rfl | ⟨n1, n2, n3⟩
  case inr.inr.inr =>
    rw [if_pos (by omega)] at hR
    by_cases n4 : c2 < 1
    · replace hR := Lib.hid hR
      replace n1 := Lib.hid n1
      replace n2 := Lib.hid n2
      replace n3 := Lib.hid n3
      go_enter Tryz.func120, Tryz.ntmps120
      go_upto_region 1 with (refine wpList_boxA HM rfl _ _ rfl _ rfl ?_; clear HM; intro g w1 HM hG; clear hG)
      have kb := HM.out.cell 0 rfl
      have ka := HM.out.cell 1 rfl
      go_wp2
      go_ret
      exact ⟨by rw [hR.out]; rfl, HM.out.below⟩
    · have n5 : 3 < c2 := by omega
      have n6 : 1 ≤ c2 := by omega
      replace hR := Lib.hid hR
      replace n1 := Lib.hid n1
      replace n2 := Lib.hid n2
      replace n3 := Lib.hid n3
      replace n4 := Lib.hid n4
      go_enter Tryz.func120, Tryz.ntmps120
      go_upto_region 1 with (refine wpList_boxA HM rfl _ _ rfl _ rfl ?_; clear HM; intro g w1 HM hG; clear hG)
      have kb := HM.out.cell 0 rfl
      have ka := HM.out.cell 1 rfl
      go_wp2
      go_ret
      exact ⟨by rw [hR.out]; rfl, HM.out.below⟩
  all_goals
    cases c3
    all_goals
      simp at hR
      replace hR := Lib.hid hR
      go_enter Tryz.func120, Tryz.ntmps120
      go_upto_region 1 with (refine wpList_boxA HM rfl _ _ rfl _ rfl ?_; clear HM; intro g w1 HM hG; clear hG)
      have kb := HM.out.cell 0 rfl
      have ka := HM.out.cell 1 rfl
      go_wp2
      all_goals
        have hR2 := hR.out
        go_ret
        refine ⟨?_, HM.out.below⟩
        rw [hR2]
        repeat' split
        all_goals first | rfl | (exfalso; omega) | (simp only [beq_iff_eq, bne_iff_ne, beq_eq_false_iff_ne, bne_eq_false_iff_eq, Bool.not_eq_true, ne_eq, decide_eq_true_eq, decide_eq_false_iff_not, Bool.not_eq_eq_eq_not, Bool.not_true, Bool.not_false] at *; exfalso; omega)
end Tx
end Go.Proofs.YtkfipbelhlcddaaGreat

namespace Go.Proofs.YtkfipbelhlcddaaGreat
open Go Go.RowKit Go.Sort Go.Lib Go.Shelf Go.Maps
namespace Tx
open Sw Mm
set_option maxRecDepth 100000 in
set_option maxHeartbeats 4000000 in
theorem chkT_any (t : Tab) (v : TabV) (w : World) (h : TabIs w v t) : Calls Tryz.prog 73 #[.agg #[.int .i64 t.node, .int .i64 t.length, .slice v.A v.n v.c]] w fun e w' => e = .returned (.int .i64 (chkT t)) ∧ Below w.heap.size w w' := by
  obtain ⟨A, n, c⟩ := v
  have HM := Lib.hid (Mem.start w)
  have hc := h.cells
  dsimp only at hc
  have hlen := hc.len
  have hs := hc.small
  unfold maxLen at hs
  have hR : chkT t = if t.node < 0 ∨ 32 ≤ t.node ∨ t.length < 1 ∨ 512 < t.length then 2 else if 512 < t.cells.length then 8 else fstF (faultT t) t.cells.length := rfl
  have hF : ∀ k, faultT t k = if formN (t.cells.getD k default) t.node t.length ≠ 0 then formN (t.cells.getD k default) t.node t.length else if 0 < k ∧ ¬ ltT (t.cells.getD (k - 1) default) (t.cells.getD k default) then 5 else 0 := fun _ => rfl
  have hit := fun k (hk : k < n) (h1 : faultT t k ≠ 0) h2 => (fstF_hit hk h1 h2 : fstF (faultT t) n = faultT t k)
  have non := fun (hp : ∀ j, j < n → faultT t j = 0) => (fstF_none hp : fstF (faultT t) n = 0)
  rw [hlen] at hR
  generalize fstF (faultT t) n = R1 at *
  generalize chkT t = R at *
  generalize faultT t = F at *
  have cF := fun c W => form_any c t.node t.length W
  have cN := node_any t.node
  have hWt : withB t.node 31 = true → 0 ≤ t.node ∧ t.node ≤ 31 := by unfold withB; simp
  have hWf : ¬ withB t.node 31 = true → t.node < 0 ∨ 31 < t.node := by unfold withB; simp; omega
  generalize withB t.node 31 = W31 at *
  obtain ⟨n0, l0, cs⟩ := t
  dsimp only at *
  replace hc := Lib.hid hc
  replace hlen := Lib.hid hlen
  replace hF := Lib.hid hF
  replace hit := Lib.hid hit
  replace non := Lib.hid non
  replace cF := Lib.hid cF
  replace cN := Lib.hid cN
  replace h := Lib.hid h
  replace hR := Lib.hid hR
  replace hWt := Lib.hid hWt
  replace hWf := Lib.hid hWf
  go_enter Tryz.func73, Tryz.ntmps73
  go_upto_region 1 with (refine wpList_boxA HM rfl _ _ rfl _ rfl ?_; clear HM; intro g w1 HM hG; clear hG)
  have kt := HM.out.cell 0 rfl
  go_upto_region 5 with (first | (go_at_call 122; refine (cN.out _).mono ?_; rintro e w_ ⟨rfl, rfl⟩) | fail)
  all_goals try
    (go_ret
     refine ⟨?_, HM.out.below⟩
     rw [hR.out]
     first
     | (have a := hWf.out (by assumption); rw [if_pos (by omega)]; (try rfl); done)
     | (have a := hWt.out (by assumption); rw [if_pos (by omega)]; (try rfl); done)
     | (have a := hWt.out (by assumption); rw [if_neg (by omega), if_pos (by omega)]; (try rfl); done))
  have a := hWt.out (by assumption)
  have hR1 : Hid (R = R1) := by show _ = _; rw [hR.out, if_neg (by omega), if_neg (by omega)]
  clear hR hWt hWf
  go_wp2_with fail
  go_loopw [3, 4, 5, 27] (fun _ _ _ i wr => ∃ k : Nat, k ≤ n ∧ i = .int .i64 k ∧ Hid (∀ j, j < k → F j = 0) ∧ Hid (Mem w wr [(g, #[.int .i64 n0, .int .i64 l0, .slice A n c], 29)])) (fun _ _ _ i _ => n - (intOf i).toNat)
  case atStart => exact ⟨0, by omega, rfl, fun j hj => by omega, HM⟩
  case round =>
    clear HM
    obtain ⟨k, hk, rfl, HP, HM⟩ := hrel
    clear kt
    have kt := HM.out.cell 0 rfl
    by_cases hlt : k < n
    · obtain ⟨b, off, rfl⟩ := hc.out.addr (by omega)
      have hx := tcl_at (hc.out.keep HM.out.below) hlt
      have hy := fun W (hb : Below w.heap.size w W) (h0 : 0 < k) => tcl_at (hc.out.keep hb) (i := k - 1) (by omega)
      have hF2 := hF.out k
      have hit2 := fun h1 => hit.out k hlt h1 HP.out
      have nz := fun (h : F k = 0) => next_zero h HP.out
      have cF2 := cF.out (cs.getD k default)
      have cV := fun W => cmpT_any (cs.getD (k - 1) default) (cs.getD k default) W
      have hV := cmpT_neg (cs.getD (k - 1) default) (cs.getD k default)
      generalize cmpT (cs.getD (k - 1) default) (cs.getD k default) = V at *
      generalize formN (cs.getD k default) n0 l0 = FO at *
      generalize cs.getD (k - 1) default = y at *
      generalize cs.getD k default = x at *
      generalize F k = f at *
      obtain ⟨x0, x1, x2, x3, x4, x5⟩ := x
      obtain ⟨y0, y1, y2, y3, y4, y5⟩ := y
      obtain ⟨q0, q1, q2, q3, q4, q5⟩ := hx
      dsimp only at q0 q1 q2 q3 q4 q5 hy cF2 cV
      have r1 : (k : Int) < (n : Int) := by omega
      replace hy := Lib.hid hy
      replace hF2 := Lib.hid hF2
      replace hit2 := Lib.hid hit2
      replace nz := Lib.hid nz
      replace cF2 := Lib.hid cF2
      replace cV := Lib.hid cV
      replace hV := Lib.hid hV
      go_upto_region 8 with (first | (refine wpList_allocA HM rfl _ rfl (by first | exact msgInfo | exact edInfo | exact tabInfo | exact info_tcl | exact info_spt) ?_; clear HM; intro g w1 HM hG; clear hG) | (refine wpList_storeM 0 HM rfl _ _ _ rfl _ _ rfl rfl _ (by conv => {lhs; whnf}) (by exact ztcl) (by rfl) (Nat.le_of_ble_eq_true (by rfl)) _ (by simp only [setL, List.set, Value.cells]; exact rfl) ?_; clear HM kt; intro w4 HM hG4; simp only [List.set] at HM; have kt := HM.out.cell 1 rfl))
      have kc := HM.out.cell 0 rfl
      clear q0 q1 q2 q3 q4 q5
      go_wp2_with fail
      refine (cF2.out _).mono ?_
      rintro e w3 ⟨rfl, hb_⟩
      replace HM := Lib.hid (HM.out.keep hb_)
      clear hb_ kc kt
      by_cases hf : FO = 0
      case neg =>
        have hRe : Hid (R = FO) := by
          have e1 : f = FO := by rw [hF2.out, if_pos hf]
          show _ = _; rw [hR1.out, hit2.out (by rw [e1]; exact hf), e1]
        have d1 : (FO != 0) = true := by rw [bne_iff_ne]; exact hf
        replace hf := Lib.hid hf
        go_wp2
        go_ret
        exact ⟨by rw [hRe.out]; rfl, HM.out.below⟩
      subst hf
      have hF3 := hF2.out
      rw [if_neg (fun h => h rfl)] at hF3
      clear hF2
      have kc := (HM.out.at_ 0 rfl).box.grown
      have kt := (HM.out.at_ 1 rfl).box.grown
      by_cases k0 : k = 0
      · subst k0
        have hz : f = 0 := by rw [hF3, if_neg (by omega)]
        have hP2 := Lib.hid (nz.out hz)
        have d1 : decide (0 < (0 : Nat)) = false := by simp
        clear hit2 hF3 nz hy hz
        go_upto_region 11 with fail
        go_wp2_with fail
        refine wp_region_quiet_below (by kernel_rfl) (by kernel_rfl) ?_
        repeat (go_big_quiet_step (fail))
        refine wpQuiet_nil ?_
        rintro _ ⟨⟨dq, osq⟩, rfl⟩
        have hb_ := below_regrown w3 dq osq
        replace HM := Lib.hid (HM.out.keep hb_)
        generalize grow (redrawn w3 dq) osq = w4 at *
        clear hb_
        have HM2 := Lib.hid HM.out.tail
        go_wp2
        go_roundw
        case rel => exact ⟨0 + 1, by omega, by go_num, hP2, HM2⟩
        case measure => simp [intOf]; omega
      · have k1 : 0 < k := by omega
        have k2 : (0 : Int) < (k : Int) := by omega
        obtain ⟨p0, p1, p2, p3, p4, p5⟩ := hy.out w3 HM.out.below k1
        have g0 := cell_regrown p0
        have g1 := cell_regrown p1
        have g2 := cell_regrown p2
        have g3 := cell_regrown p3
        have g4 := cell_regrown p4
        have g5 := cell_regrown p5
        have hw1 : IntKind.i64.wrap ((k : Int) - 1) = (k : Int) - 1 := IntWalk.i64_in _ (by omega)
        have ht1 : ((k : Int) - 1).toNat = k - 1 := by omega
        have t1 : (0 : Int) ≤ (k : Int) - 1 := by omega
        have t2 : (k : Int) - 1 < (n : Int) := by omega
        clear p0 p1 p2 p3 p4 p5 hy
        have cs : ∀ d os, Calls Tryz.prog 124 #[.agg #[.int .i64 y0, .int .i64 y1, .int .i64 y2, .bool y3, .int .i64 y4, .int .i64 y5], .agg #[.int .i64 x0, .int .i64 x1, .int .i64 x2, .bool x3, .int .i64 x4, .int .i64 x5]] (grow (redrawn w3 d) os) fun e w'' => e = .returned (.int .i64 V) ∧ ∃ p : Regrown, w'' = grow (redrawn w3 p.d) p.os :=
          fun d os => Calls.regrown_of (cV.out _)
        replace cs := Lib.hid cs
        by_cases hv : V < 0
        · have hz : f = 0 := by rw [hF3, if_neg (by have := hV.out.1 hv; simp [this])]
          have hP2 := Lib.hid (nz.out hz)
          clear hit2 hF3 nz hz cV hV
          go_upto_region 11 with fail
          go_wp2_with fail
          refine wp_region_quiet_below (by kernel_rfl) (by kernel_rfl) ?_
          repeat (go_big_quiet_step (exact cs.out _ _))
          refine wpQuiet_nil ?_
          rintro _ ⟨⟨dq, osq⟩, rfl⟩
          have hb_ := below_regrown w3 dq osq
          replace HM := Lib.hid (HM.out.keep hb_)
          generalize grow (redrawn w3 dq) osq = w4 at *
          clear hb_
          have HM2 := Lib.hid HM.out.tail
          go_wp2
          go_roundw
          case rel => exact ⟨k + 1, by omega, by go_num, hP2, HM2⟩
          case measure => simp [intOf]; omega
        · have hz : f = 5 := by rw [hF3, if_pos ⟨k1, fun h => hv (hV.out.2 h)⟩]
          have hRe : Hid (R = 5) := by show _ = _; rw [hR1.out, hit2.out (by rw [hz]; decide), hz]
          have hv2 : 0 ≤ V := by omega
          clear hit2 hF3 nz hz cV hV
          go_upto_region 11 with fail
          go_wp2_with fail
          refine wp_region_quiet_below (by kernel_rfl) (by kernel_rfl) ?_
          repeat (go_big_quiet_step (exact cs.out _ _))
          refine wpQuiet_nil ?_
          rintro _ ⟨⟨dq, osq⟩, rfl⟩
          have hb_ := below_regrown w3 dq osq
          replace HM := Lib.hid (HM.out.keep hb_)
          generalize grow (redrawn w3 dq) osq = w4 at *
          clear hb_
          go_wp2
          go_ret
          exact ⟨by rw [hRe.out]; rfl, HM.out.below⟩
    · obtain rfl : k = n := by omega
      have hRe : Hid (R = 0) := by show _ = _; rw [hR1.out, non.out HP.out]
      go_wp2
      go_ret
      exact ⟨by rw [hRe.out]; rfl, HM.out.below⟩
end Tx
end Go.Proofs.YtkfipbelhlcddaaGreat
