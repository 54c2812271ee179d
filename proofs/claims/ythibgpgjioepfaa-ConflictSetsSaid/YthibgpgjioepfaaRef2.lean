/- hopmeshref31.link, Check. -/
import Derived.Test.YthibgpgjioepfaaRef1
namespace Go.Proofs.Ythibgpgjioepfaa
open Go Go.RowKit Go.Sort
namespace Nt
theorem _root_.Go.RowKit.Below.keep {w w1 w2 : World} (h : Below w.heap.size w w1) (k : Below w1.heap.size w1 w2) : Below w.heap.size w w2 := bthen h k
theorem inB_node (n a : Int) : inB a 0 (n - 1) = isNode n a := by
  unfold inB isNode
  have : decide (a ≤ n - 1) = decide (a < n) := by rw [decide_eq_decide]; omega
  rw [this]
theorem in_same (n lo hi : Int) (w : World) : Calls Try.prog 61 #[.int .i64 n, .int .i64 lo, .int .i64 hi] w fun e w' => e = .returned (.bool (inB n lo hi)) ∧ w = w' :=
  (in_any n lo hi w).mono fun _ _ ⟨h, k⟩ => ⟨h, k.symm⟩
theorem in_below (n lo hi : Int) (w : World) : Calls Try.prog 61 #[.int .i64 n, .int .i64 lo, .int .i64 hi] w fun e w' => e = .returned (.bool (inB n lo hi)) ∧ Below w.heap.size w w' :=
  (in_any n lo hi w).mono fun _ _ ⟨h, k⟩ => ⟨h, by rw [k]; exact Below.refl _ _⟩
theorem inB_loss (x : Int) : inB x 0 7 = !(decide (x < 0) || decide (7 < x)) := by
  unfold inB
  by_cases a : x < 0 <;> by_cases b : 7 < x <;> simp [a, b] <;> omega
theorem badOrder_cases {N : Net} {i : Nat} {pf pt f t pl l : Int} (h0 : 0 < i) (h1 : N.links.getD (i - 1) default = ⟨pf, pt, pl⟩) (h2 : N.links.getD i default = ⟨f, t, l⟩) :
    (decide (f < pf) = true ∧ badOrder N i = true) ∨ (decide (f < pf) = false ∧ (pf == f) = false ∧ badOrder N i = false) ∨ (decide (f < pf) = false ∧ (pf == f) = true ∧ decide (t ≤ pt) = true ∧ badOrder N i = true) ∨ (decide (f < pf) = false ∧ (pf == f) = true ∧ decide (t ≤ pt) = false ∧ badOrder N i = false) := by
  have hb : badOrder N i = decide (0 ≤ cmpL ⟨pf, pt, pl⟩ ⟨f, t, l⟩) := by unfold badOrder; rw [h1, h2]; simp [h0]
  have hc := cmpL_neg ⟨pf, pt, pl⟩ ⟨f, t, l⟩
  dsimp only at hc
  rw [hb]
  simp only [decide_eq_true_eq, decide_eq_false_iff_not, beq_eq_false_iff_ne, beq_iff_eq, ne_eq]
  omega
set_option maxRecDepth 100000 in
set_option maxHeartbeats 4000000 in
theorem rlink_any (N : Net) (v : NetV) (i : Nat) (w : World) (hN : NetIs w v N) (hi : i < N.links.length) (hm : N.margin.length = N.links.length) (hsq : Square N) (hnd : 2 ≤ N.nodes ∧ N.nodes ≤ 32) :
    Calls Try.prog 63 #[.agg #[.int .i64 N.nodes, .slice v.PA v.pn v.pc, .int .i64 N.noise, .int .i64 N.threshold, .slice v.LA v.ln v.lc, .slice v.MA v.mn v.mc], .int .i64 (i : Int)] w
      fun e w' => e = .returned (.int .i64 (checkLink N i)) ∧ Below w.heap.size w w' := by
  obtain ⟨nodes, power, noise, thr, links, margin⟩ := N
  obtain ⟨PA, pn, pc, LA, ln, lc, MA, mn, mc⟩ := v
  have hln := hN.links.els.len
  have hmn := hN.margin.els.len
  have hpn := hN.power.len
  have hsm := hN.links.els.small
  dsimp only at hln hmn hpn hi hm hnd ⊢
  obtain ⟨hn1, hn2⟩ := hnd
  unfold maxLen at hsm
  dsimp only at hsm
  have hil : i < ln := by omega
  have him : i < mn := by omega
  obtain ⟨lb, lo, rfl⟩ := hN.links.els.addr (by show 0 < ln; omega)
  obtain ⟨⟨f, t, loss⟩, hl, hlm, l0, l1, l2⟩ := hN.links.elem hil
  dsimp only at l0 l1 l2
  have hl' : links.getD i default = ⟨f, t, loss⟩ := by rw [List.getD_eq_getElem?_getD, hl]; rfl
  have hlt := (hN.links.els.cell (by show 0 < ln; omega)).1
  replace hl := Lib.hid hl
  replace hl' := Lib.hid hl'
  replace hlm := Lib.hid hlm
  replace hln := Lib.hid hln
  replace hmn := Lib.hid hmn
  replace hpn := Lib.hid hpn
  replace hsq := Lib.hid hsq
  replace hm := Lib.hid hm
  replace hN := Lib.hid hN
  go_enter Try.func63, Try.ntmps63
  go_wp2_with fail
  have BX := (Box.new w #[.int .i64 nodes, .slice PA pn pc, .int .i64 noise, .int .i64 thr, .slice (some ⟨lb, lo, none⟩) ln lc, .slice MA mn mc] 26).alloc (.cells #[.int .i64 f, .int .i64 t, .int .i64 loss] 44)
  have BL := Box.new (w.alloc (.cells #[.int .i64 nodes, .slice PA pn pc, .int .i64 noise, .int .i64 thr, .slice (some ⟨lb, lo, none⟩) ln lc, .slice MA mn mc] 26)) #[.int .i64 f, .int .i64 t, .int .i64 loss] 44
  have hbw : Below w.heap.size w ((w.alloc (.cells #[.int .i64 nodes, .slice PA pn pc, .int .i64 noise, .int .i64 thr, .slice (some ⟨lb, lo, none⟩) ln lc, .slice MA mn mc] 26)).alloc (.cells #[.int .i64 f, .int .i64 t, .int .i64 loss] 44)) := (below_alloc _ _).alloc (by simp) _
  rw [show (w.alloc (.cells #[.int .i64 nodes, .slice PA pn pc, .int .i64 noise, .int .i64 thr, .slice (some ⟨lb, lo, none⟩) ln lc, .slice MA mn mc] 26)).heap.size = w.heap.size + 1 by simp] at BL
  generalize (w.alloc (.cells #[.int .i64 nodes, .slice PA pn pc, .int .i64 noise, .int .i64 thr, .slice (some ⟨lb, lo, none⟩) ln lc, .slice MA mn mc] 26)).alloc (.cells #[.int .i64 f, .int .i64 t, .int .i64 loss] 44) = w1 at *
  clear l0 l1 l2 hlt
  have kb := BX.at_
  have kl := BL.at_
  replace BX := Lib.hid BX
  replace BL := Lib.hid BL
  replace hbw := Lib.hid hbw
  refine (in_same f 0 (nodes - 1) _).mono ?_
  rintro e w_ ⟨rfl, rfl⟩
  rw [inB_node]
  by_cases c1 : isNode nodes f = true
  case neg =>
    have HR : Hid (checkLink ⟨nodes, power, noise, thr, links, margin⟩ i = 2) := by
      show _ = _; unfold checkLink badEnds; dsimp only; rw [hl'.out]; dsimp only; rw [if_pos (by simp [c1])]
    have c1' : isNode nodes f = false := by simpa using c1
    rw [c1']
    clear c1 c1'
    go_wp2
    go_ret
    exact ⟨by rw [HR.out]; rfl, hbw.out⟩
  rw [c1]
  go_wp2_with fail
  refine (in_same t 0 (nodes - 1) _).mono ?_
  rintro e w_ ⟨rfl, rfl⟩
  rw [inB_node]
  by_cases c2 : isNode nodes t = true
  case neg =>
    have HR : Hid (checkLink ⟨nodes, power, noise, thr, links, margin⟩ i = 2) := by
      show _ = _; unfold checkLink badEnds; dsimp only; rw [hl'.out]; dsimp only; rw [if_pos (by simp [c2])]
    have c2' : isNode nodes t = false := by simpa using c2
    rw [c2']
    clear c1 c2 c2'
    go_wp2
    go_ret
    exact ⟨by rw [HR.out]; rfl, hbw.out⟩
  rw [c2]
  cases c3 : (f == t) with
  | true =>
    have HR : Hid (checkLink ⟨nodes, power, noise, thr, links, margin⟩ i = 2) := by
      show _ = _; unfold checkLink badEnds; dsimp only; rw [hl'.out]; dsimp only; rw [if_pos (by rw [c3]; simp)]
    go_wp2
    go_ret
    exact ⟨by rw [HR.out]; rfl, hbw.out⟩
  | false =>
    go_wp2_with fail
    refine (in_same loss 0 7 _).mono ?_
    rintro e w_ ⟨rfl, rfl⟩
    rw [inB_loss]
    cases c4 : (decide (loss < 0) || decide (7 < loss)) with
    | true =>
      have HR : Hid (checkLink ⟨nodes, power, noise, thr, links, margin⟩ i = 2) := by
        show _ = _; unfold checkLink badEnds; dsimp only; rw [hl'.out]; dsimp only; rw [if_pos (by rw [Bool.or_assoc, c4]; simp)]
      replace c4 := Lib.hid c4
      go_wp2
      go_ret
      exact ⟨by rw [HR.out]; rfl, hbw.out⟩
    | false =>
      have HE : Hid (badEnds ⟨nodes, power, noise, thr, links, margin⟩ ⟨f, t, loss⟩ = false) := by
        show _ = _; unfold badEnds; dsimp only; rw [Bool.or_assoc, c4, c1, c2, c3]; rfl
      have f1 := isNode_yes c1
      have t1 := isNode_yes c2
      replace c4 := Lib.hid c4
      replace c3 := Lib.hid c3
      replace c1 := Lib.hid c1
      replace c2 := Lib.hid c2
      go_wp2
      clear kb kl
      obtain ⟨f, rfl⟩ := Int.eq_ofNat_of_zero_le f1.1
      obtain ⟨t, rfl⟩ := Int.eq_ofNat_of_zero_le t1.1
      have N3 := Lib.hid (hN.out.keep hbw.out)
      have gx := BX.out.grown
      have gl := BL.out.grown
      by_cases hi0 : 0 < i
      case' neg =>
        have g0 : decide ((0 : Int) < (i : Int)) = false := by rw [decide_eq_false_iff_not]; omega
        have g1 : decide (0 < i) = false := by rw [decide_eq_false_iff_not]; exact hi0
        have HO : Hid (badOrder ⟨nodes, power, noise, thr, links, margin⟩ i = false) := by show _ = _; unfold badOrder; simp [hi0]
        replace hi0 := Lib.hid hi0
        refine wp_region_quiet_below (by kernel_rfl) (by kernel_rfl) ?_
        repeat (go_big_quiet_step (fail))
        refine wpQuiet_nil ?_
        rintro _ ⟨⟨dq, osq⟩, rfl⟩
        have hb_ := below_regrown w1 dq osq
        replace BX := Lib.hid (BX.out.keep hb_)
        replace BL := Lib.hid (BL.out.keep hb_)
        replace hbw := Lib.hid (hbw.out.keep hb_)
        generalize grow (redrawn w1 dq) osq = w4 at *
        clear hb_
        clear gx gl N3 g0 g1
        go_wp2
      case' pos =>
        have g0 : decide ((0 : Int) < (i : Int)) = true := by rw [decide_eq_true_eq]; omega
        have g1 : decide (0 < i) = true := by rw [decide_eq_true_eq]; exact hi0
        obtain ⟨⟨pf, pt, ploss⟩, pl, plm, pl0, pl1, pl2⟩ := N3.out.links.elem (k := i - 1) (by show i - 1 < ln; omega)
        dsimp only at pl0 pl1 pl2
        have e0 := cell_regrown pl0
        have e1 := cell_regrown pl1
        have r1 : ((i : Int) - 1).toNat = i - 1 := by omega
        have r2 : (0 : Int) ≤ (i : Int) - 1 := by omega
        have r3 : (i : Int) - 1 < (ln : Int) := by omega
        have r4 : (1 : Int) ≤ (i : Int) := by omega
        have pl' : links.getD (i - 1) default = ⟨pf, pt, ploss⟩ := by rw [List.getD_eq_getElem?_getD, pl]; rfl
        have HO := badOrder_cases (N := ⟨nodes, power, noise, thr, links, margin⟩) hi0 pl' hl'.out
        replace pl' := Lib.hid pl'
        replace pl := Lib.hid pl
        replace hi0 := Lib.hid hi0
        clear pl0 pl1 pl2 plm
        rcases HO with ⟨d5, HO⟩ | ⟨d5, d6, HO⟩ | ⟨d5, d6, d7, HO⟩ | ⟨d5, d6, d7, HO⟩
        all_goals
          replace HO := Lib.hid HO
          refine wp_region_quiet_below (by kernel_rfl) (by kernel_rfl) ?_
          repeat (go_big_quiet_step (fail))
          refine wpQuiet_nil ?_
          rintro _ ⟨⟨dq, osq⟩, rfl⟩
          have hb_ := below_regrown w1 dq osq
          replace BX := Lib.hid (BX.out.keep hb_)
          replace BL := Lib.hid (BL.out.keep hb_)
          replace hbw := Lib.hid (hbw.out.keep hb_)
          generalize grow (redrawn w1 dq) osq = w4 at *
          clear hb_
          clear gx gl N3 g0 g1 e0 e1 r1 r2 r3 r4
          try (have HR : Hid (checkLink ⟨nodes, power, noise, thr, links, margin⟩ i = 5) := (by show _ = _; unfold checkLink; rw [hl'.out, if_neg (by rw [HE.out]; decide), if_pos HO.out]); go_wp2; go_ret; exact ⟨by rw [HR.out]; rfl, hbw.out⟩)
        all_goals (try clear d7)
        all_goals (try clear d6)
        all_goals clear d5
        all_goals go_wp2
      all_goals
        have N4 := hN.out.keep hbw.out
        have hfp : f < pn := by have h1 := hsq.out.rows; have h2 := hpn.out; dsimp only at h1; omega
        obtain ⟨mb, mo, rfl⟩ := N4.margin.els.addr (by show 0 < mn; omega)
        obtain ⟨pb, po, rfl⟩ := N4.power.addr (by show 0 < pn; omega)
        obtain ⟨m, hm0, _, m0⟩ := N4.margin.elem (k := i) (by show i < mn; omega)
        obtain ⟨row, RA, rn, rc, hr, hrm, row0, hrow⟩ := N4.power.elem (k := f) (by show f < pn; omega)
        dsimp only at hm0 hr hrm m0 row0
        have hrn := hrow.els.len
        have htr : t < rn := by have h1 := hsq.out.cols row hrm; dsimp only at h1; omega
        obtain ⟨rb, ro, rfl⟩ := hrow.els.addr (by omega)
        obtain ⟨p, hp0, _, p0⟩ := hrow.elem (k := t) htr
        have HP : powerAt ⟨nodes, power, noise, thr, links, margin⟩ (f : Int) (t : Int) = p := by
          unfold powerAt; dsimp only
          rw [Int.toNat_natCast, Int.toNat_natCast, List.getD_eq_getElem?_getD, List.getD_eq_getElem?_getD, hr]
          show (row[t]?).getD 0 = p
          rw [hp0]; rfl
        have HM : margin.getD i 0 = m := by rw [List.getD_eq_getElem?_getD, hm0]; rfl
        have HR : checkLink ⟨nodes, power, noise, thr, links, margin⟩ i = if (inB m 0 p) = true then 0 else 2 := by
          unfold checkLink; rw [hl'.out, if_neg (by rw [HE.out]; decide), if_neg (by rw [HO.out]; decide)]
          unfold badMargin inB; rw [hl'.out]; dsimp only; rw [HM, HP]
          by_cases a : m < 0 <;> by_cases b : p < m <;> simp [a, b] <;> omega
        replace HR := Lib.hid HR
        clear HP HM hp0 hr hrm hm0 hrn N4
        replace hrow := Lib.hid hrow
        have gx := BX.out.grown
        have gl := BL.out.grown
        have e1 := cell_regrown m0
        have e2 := cell_regrown row0
        have e3 := cell_regrown p0
        clear m0 row0 p0
        have r5 : (i : Int) < (mn : Int) := by omega
        have r6 : (f : Int) < (pn : Int) := by omega
        have r7 : (t : Int) < (rn : Int) := by omega
        have ci : ∀ d os, Calls Try.prog 61 #[.int .i64 m, .int .i64 0, .int .i64 p] (grow (redrawn w4 d) os) fun e w'' => e = .returned (.bool (inB m 0 p)) ∧ ∃ p : Regrown, w'' = grow (redrawn w4 p.d) p.os :=
          fun d os => Calls.regrown_of (in_below m 0 p _)
        replace ci := Lib.hid ci
        refine wp_region_quiet_below (by kernel_rfl) (by kernel_rfl) ?_
        repeat (go_big_quiet_step (exact ci.out _ _))
        refine wpQuiet_nil ?_
        rintro _ ⟨⟨dq, osq⟩, rfl⟩
        have hb_ := below_regrown w4 dq osq
        replace BX := Lib.hid (BX.out.keep hb_)
        replace BL := Lib.hid (BL.out.keep hb_)
        replace hbw := Lib.hid (hbw.out.keep hb_)
        generalize grow (redrawn w4 dq) osq = w5 at *
        clear hb_
        clear gx gl e1 e2 e3 r5 r6 r7 ci
        cases c8 : inB m 0 p with
        | true =>
          have HR2 : Hid (checkLink ⟨nodes, power, noise, thr, links, margin⟩ i = 0) := by show _ = _; rw [HR.out, if_pos c8]
          replace c8 := Lib.hid c8
          go_wp2
          go_ret
          exact ⟨by rw [HR2.out]; rfl, hbw.out⟩
        | false =>
          have HR2 : Hid (checkLink ⟨nodes, power, noise, thr, links, margin⟩ i = 2) := by show _ = _; rw [HR.out, if_neg (by rw [c8]; decide)]
          replace c8 := Lib.hid c8
          go_wp2
          go_ret
          exact ⟨by rw [HR2.out]; rfl, hbw.out⟩
end Nt
end Go.Proofs.Ythibgpgjioepfaa
