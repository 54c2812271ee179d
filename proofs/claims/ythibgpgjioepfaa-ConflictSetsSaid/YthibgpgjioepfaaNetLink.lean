/- network.checkLink. -/
import Derived.Test.YthibgpgjioepfaaNetCmp
namespace Go.Proofs.Ythibgpgjioepfaa
open Go Go.RowKit Go.Sort
namespace Nt
theorem enter_l1 : ∀ (args : Array Value) (w : World), (callFunc 69 args).run Try.prog w = .ok (.enter 69 args) w := fun _ _ => by kernel_rfl
set_option maxHeartbeats 400000 in
theorem l1_any (N a : Int) (p q r s t : Value) (B : Nat) (w : World) (hB : Box w B #[.int .i64 N, p, q, r, s, t]) :
    Calls Try.prog 69 #[.int .i64 a, .pointer (some ⟨B, 0, none⟩)] w fun e w' => e = .returned (.bool (isNode N a)) ∧ Below w.heap.size w w' := by
  have hc := hB.at_
  replace hB := Lib.hid hB
  by_cases h : 0 ≤ a
  · have H : Hid (isNode N a = decide (a < N)) := by show _ = _; unfold isNode; simp [h]
    go_enter Try.func69, Try.ntmps69
    go_wp2
    go_ret
    exact ⟨by rw [H.out]; rfl, Below.refl _ _⟩
  · have H : Hid (isNode N a = false) := by show _ = _; unfold isNode; simp [h]
    go_enter Try.func69, Try.ntmps69
    go_wp2
    go_ret
    exact ⟨by rw [H.out]; rfl, Below.refl _ _⟩
def powerAt (N : Net) (a b : Int) : Int := (N.power.getD a.toNat []).getD b.toNat 0
def badEnds (N : Net) (l : Lnk) : Bool := !isNode N.nodes l.frm || !isNode N.nodes l.to || (l.frm == l.to) || decide (l.loss < 0) || decide (7 < l.loss)
def badOrder (N : Net) (i : Nat) : Bool := decide (0 < i) && decide (0 ≤ cmpL (N.links.getD (i - 1) default) (N.links.getD i default))
def badMargin (N : Net) (i : Nat) : Bool := decide (N.margin.getD i 0 < 0) || decide (powerAt N (N.links.getD i default).frm (N.links.getD i default).to < N.margin.getD i 0)
def checkLink (N : Net) (i : Nat) : Int :=
  if badEnds N (N.links.getD i default) = true then 2 else if badOrder N i = true then 5 else if badMargin N i = true then 2 else 0
structure Square (N : Net) : Prop where
  rows : (N.power.length : Int) = N.nodes
  cols : ∀ xs ∈ N.power, (xs.length : Int) = N.nodes
theorem Box.grown {w : World} {B : Nat} {C : Array Value} (h : Box w B C) : ∀ d os i, (grow (redrawn w d) os).cell? ⟨B, i, none⟩ = C[i]? := fun d os i => by
  rw [(below_regrown w d os).cell (p := ⟨B, i, none⟩) h.lt]; exact h.at_ i
set_option maxRecDepth 100000 in
set_option maxHeartbeats 1000000 in
theorem checkLink_any (N : Net) (v : NetV) (i : Nat) (w : World) (hN : NetIs w v N) (hi : i < N.links.length) (hm : N.margin.length = N.links.length) (hsq : Square N) :
    Calls Try.prog 44 #[.agg #[.int .i64 N.nodes, .slice v.PA v.pn v.pc, .int .i64 N.noise, .int .i64 N.threshold, .slice v.LA v.ln v.lc, .slice v.MA v.mn v.mc], .int .i64 (i : Int)] w
      fun e w' => e = .returned (.int .i64 (checkLink N i)) ∧ Below w.heap.size w w' := by
  obtain ⟨nodes, power, noise, thr, links, margin⟩ := N
  obtain ⟨PA, pn, pc, LA, ln, lc, MA, mn, mc⟩ := v
  have hln := hN.links.els.len
  have hmn := hN.margin.els.len
  have hpn := hN.power.len
  have hsm := hN.links.els.small
  dsimp only at hln hmn hpn hi hm ⊢
  unfold maxLen at hsm
  dsimp only at hsm
  have hil : i < ln := by omega
  have him : i < mn := by omega
  obtain ⟨lb, lo, rfl⟩ := hN.links.els.addr (by show 0 < ln; omega)
  obtain ⟨⟨f, t, loss⟩, hl, hlm, l0, l1, l2⟩ := hN.links.elem hil
  dsimp only at l0 l1 l2
  have hl' : links.getD i default = ⟨f, t, loss⟩ := by rw [List.getD_eq_getElem?_getD, hl]; rfl
  replace hl := Lib.hid hl
  replace hl' := Lib.hid hl'
  replace hlm := Lib.hid hlm
  replace hln := Lib.hid hln
  replace hmn := Lib.hid hmn
  replace hpn := Lib.hid hpn
  replace hsq := Lib.hid hsq
  replace hm := Lib.hid hm
  have hlt := (hN.links.els.cell (by show 0 < ln; omega)).1
  replace hN := Lib.hid hN
  go_enter Try.func44, Try.ntmps44
  go_wp2_with fail
  have BX := (Box.new w #[.int .i64 nodes, .slice PA pn pc, .int .i64 noise, .int .i64 thr, .slice (some ⟨lb, lo, none⟩) ln lc, .slice MA mn mc] 26).alloc (.cells #[.int .i64 f, .int .i64 t, .int .i64 loss] 44)
  have BL := Box.new (w.alloc (.cells #[.int .i64 nodes, .slice PA pn pc, .int .i64 noise, .int .i64 thr, .slice (some ⟨lb, lo, none⟩) ln lc, .slice MA mn mc] 26)) #[.int .i64 f, .int .i64 t, .int .i64 loss] 44
  have hbw : Below w.heap.size w ((w.alloc (.cells #[.int .i64 nodes, .slice PA pn pc, .int .i64 noise, .int .i64 thr, .slice (some ⟨lb, lo, none⟩) ln lc, .slice MA mn mc] 26)).alloc (.cells #[.int .i64 f, .int .i64 t, .int .i64 loss] 44)) := (below_alloc _ _).alloc (by simp) _
  rw [show (w.alloc (.cells #[.int .i64 nodes, .slice PA pn pc, .int .i64 noise, .int .i64 thr, .slice (some ⟨lb, lo, none⟩) ln lc, .slice MA mn mc] 26)).heap.size = w.heap.size + 1 by simp] at BL
  generalize (w.alloc (.cells #[.int .i64 nodes, .slice PA pn pc, .int .i64 noise, .int .i64 thr, .slice (some ⟨lb, lo, none⟩) ln lc, .slice MA mn mc] 26)).alloc (.cells #[.int .i64 f, .int .i64 t, .int .i64 loss] 44) = w1 at *
  replace BX := Lib.hid BX
  replace BL := Lib.hid BL
  replace hbw := Lib.hid hbw
  clear l0 l1 l2
  refine (l1_any nodes f _ _ _ _ _ _ _ BX.out).mono ?_
  rintro e w2 ⟨rfl, hb2⟩
  have BX2 := Lib.hid (BX.out.keep hb2)
  have BL2 := Lib.hid (BL.out.keep hb2)
  have hbw2 := Lib.hid (bthen hbw.out hb2)
  clear hb2 BX BL hbw
  by_cases c1 : isNode nodes f = true
  case neg =>
    have HR : Hid (checkLink ⟨nodes, power, noise, thr, links, margin⟩ i = 2) := by
      show _ = _; unfold checkLink badEnds; dsimp only; rw [hl'.out]; dsimp only; rw [if_pos (by simp [c1])]
    have c1' : isNode nodes f = false := by simpa using c1
    rw [c1']
    clear c1 c1'
    go_wp2
    go_ret
    exact ⟨by rw [HR.out]; rfl, hbw2.out⟩
  rw [c1]
  have kl := BL2.out.at_
  go_wp2_with fail
  clear kl
  refine (l1_any nodes t _ _ _ _ _ _ _ BX2.out).mono ?_
  rintro e w3 ⟨rfl, hb3⟩
  have BX3 := Lib.hid (BX2.out.keep hb3)
  have BL3 := Lib.hid (BL2.out.keep hb3)
  have hbw3 := Lib.hid (bthen hbw2.out hb3)
  clear hb3 BX2 BL2 hbw2
  by_cases c2 : isNode nodes t = true
  case neg =>
    have HR : Hid (checkLink ⟨nodes, power, noise, thr, links, margin⟩ i = 2) := by
      show _ = _; unfold checkLink badEnds; dsimp only; rw [hl'.out]; dsimp only; rw [if_pos (by simp [c2])]
    have c2' : isNode nodes t = false := by simpa using c2
    rw [c2']
    clear c1 c2 c2'
    go_wp2
    go_ret
    exact ⟨by rw [HR.out]; rfl, hbw3.out⟩
  rw [c2]
  have kl := BL3.out.at_
  by_cases c3 : ((f == t) || decide (loss < 0) || decide (7 < loss)) = true
  case pos =>
    have HR : Hid (checkLink ⟨nodes, power, noise, thr, links, margin⟩ i = 2) := by
      show _ = _; unfold checkLink badEnds; dsimp only; rw [hl'.out]; dsimp only; rw [if_pos (by simp at c3; simp; rcases c3 with (h | h) | h <;> simp [h])]
    have c3 : (f == t) = true ∨ ((f == t) = false ∧ loss < 0) ∨ ((f == t) = false ∧ ¬ loss < 0 ∧ 7 < loss) := by
      cases hq : (f == t)
      · by_cases h : loss < 0
        · exact .inr (.inl ⟨rfl, h⟩)
        · refine .inr (.inr ⟨rfl, h, ?_⟩)
          rw [hq] at c3; simp at c3; omega
      · exact .inl rfl
    rcases c3 with c3 | ⟨c3, c4⟩ | ⟨c3, c4, c5⟩
    all_goals
      go_wp2
      go_ret
      exact ⟨by rw [HR.out]; rfl, hbw3.out⟩
  have HE : Hid (badEnds ⟨nodes, power, noise, thr, links, margin⟩ ⟨f, t, loss⟩ = false) := by
    show _ = _; unfold badEnds; dsimp only; rw [c1, c2]; simp at c3; simp; exact ⟨⟨c3.1.1, by omega⟩, by omega⟩
  have d1 : (f == t) = false := by cases h : (f == t) <;> simp_all
  have d2 : ¬ loss < 0 := fun h => c3 (by simp [h])
  have d3 : ¬ 7 < loss := fun h => c3 (by simp [h])
  clear c3
  go_wp2
  clear d1 d2 d3 kl
  have f1 := isNode_yes c1
  have t1 := isNode_yes c2
  clear c1 c2
  obtain ⟨f, rfl⟩ := Int.eq_ofNat_of_zero_le f1.1
  obtain ⟨t, rfl⟩ := Int.eq_ofNat_of_zero_le t1.1
  have N3 := Lib.hid (hN.out.keep hbw3.out)
  have gx := BX3.out.grown
  have gl := BL3.out.grown
  by_cases hi0 : 0 < i
  case' neg =>
    have g0 : decide ((0 : Int) < (i : Int)) = false := by rw [decide_eq_false_iff_not]; omega
    have g1 : decide (0 < i) = false := by rw [decide_eq_false_iff_not]; exact hi0
    have HO : Hid (badOrder ⟨nodes, power, noise, thr, links, margin⟩ i = false) := by show _ = _; unfold badOrder; simp [hi0]
    replace hi0 := Lib.hid hi0
    refine wp_region_quiet_below (by kernel_rfl) (by kernel_rfl) ?_
    repeat (go_big_quiet_step (fail))
    refine wpQuiet_nil ?_
    rintro _ ⟨⟨dq, osq⟩, rfl⟩
    have BX4 := Lib.hid (BX3.out.keep (below_regrown w3 dq osq))
    have BL4 := Lib.hid (BL3.out.keep (below_regrown w3 dq osq))
    have hbw4 := Lib.hid (bthen hbw3.out (below_regrown w3 dq osq))
    generalize grow (redrawn w3 dq) osq = w4 at *
    clear gx gl BX3 BL3 hbw3 N3 g0 g1
    go_wp2
  case' pos =>
    have g0 : decide ((0 : Int) < (i : Int)) = true := by rw [decide_eq_true_eq]; omega
    have g1 : decide (0 < i) = true := by rw [decide_eq_true_eq]; exact hi0
    obtain ⟨⟨pf, pt, ploss⟩, pl, plm, pl0, pl1, pl2⟩ := N3.out.links.elem (k := i - 1) (by show i - 1 < ln; omega)
    dsimp only at pl0 pl1 pl2
    have e0 := cell_regrown pl0
    have e1 := cell_regrown pl1
    have e2 := cell_regrown pl2
    have r1 : ((i : Int) - 1).toNat = i - 1 := by omega
    have r2 : (0 : Int) ≤ (i : Int) - 1 := by omega
    have r3 : (i : Int) - 1 < (ln : Int) := by omega
    have r4 : (1 : Int) ≤ (i : Int) := by omega
    have cs : ∀ d os, Calls Try.prog 70 #[.agg #[.int .i64 pf, .int .i64 pt, .int .i64 ploss], .agg #[.int .i64 (f : Int), .int .i64 (t : Int), .int .i64 loss]] (grow (redrawn w3 d) os) fun e w'' => e = .returned (.int .i64 (cmpL ⟨pf, pt, ploss⟩ ⟨f, t, loss⟩)) ∧ ∃ p : Regrown, w'' = grow (redrawn w3 p.d) p.os :=
      fun d os => Calls.regrown_of (compare_any ⟨pf, pt, ploss⟩ ⟨f, t, loss⟩ _)
    have pl' : links.getD (i - 1) default = ⟨pf, pt, ploss⟩ := by rw [List.getD_eq_getElem?_getD, pl]; rfl
    have HO : badOrder ⟨nodes, power, noise, thr, links, margin⟩ i = decide (0 ≤ cmpL ⟨pf, pt, ploss⟩ ⟨f, t, loss⟩) := by
      unfold badOrder; dsimp only; rw [pl', hl'.out]; simp [hi0]
    replace HO := Lib.hid HO
    replace cs := Lib.hid cs
    replace pl' := Lib.hid pl'
    replace pl := Lib.hid pl
    replace hi0 := Lib.hid hi0
    clear pl0 pl1 pl2 plm
    refine wp_region_quiet_below (by kernel_rfl) (by kernel_rfl) ?_
    repeat (go_big_quiet_step (exact cs.out _ _))
    refine wpQuiet_nil ?_
    rintro _ ⟨⟨dq, osq⟩, rfl⟩
    have BX4 := Lib.hid (BX3.out.keep (below_regrown w3 dq osq))
    have BL4 := Lib.hid (BL3.out.keep (below_regrown w3 dq osq))
    have hbw4 := Lib.hid (bthen hbw3.out (below_regrown w3 dq osq))
    generalize grow (redrawn w3 dq) osq = w4 at *
    clear gx gl BX3 BL3 hbw3 N3 g0 g1 e0 e1 e2 r1 r2 r3 r4
    by_cases c5 : 0 ≤ cmpL ⟨pf, pt, ploss⟩ ⟨f, t, loss⟩
    case pos =>
      have HR : Hid (checkLink ⟨nodes, power, noise, thr, links, margin⟩ i = 5) := by
        show _ = _; unfold checkLink; rw [hl'.out, if_neg (by rw [HE.out]; decide), if_pos (by rw [HO.out]; simpa using c5)]
      go_wp2
      go_ret
      exact ⟨by rw [HR.out]; rfl, hbw4.out⟩
    replace HO : Hid (badOrder ⟨nodes, power, noise, thr, links, margin⟩ i = false) := by show _ = _; rw [HO.out]; simpa using c5
    go_wp2
    clear c5
  all_goals
    have N4 := hN.out.keep hbw4.out
    have hfp : f < pn := by have h1 := hsq.out.rows; have h2 := hpn.out; dsimp only at h1; omega
    obtain ⟨mb, mo, rfl⟩ := N4.margin.els.addr (by show 0 < mn; omega)
    obtain ⟨pb, po, rfl⟩ := N4.power.addr (by show 0 < pn; omega)
    obtain ⟨m, hm0, _, m0⟩ := N4.margin.elem (k := i) (by show i < mn; omega)
    obtain ⟨row, RA, rn, rc, hr, hrm, row0, hrow⟩ := N4.power.elem (k := f) (by show f < pn; omega)
    dsimp only at hm0 hr hrm m0 row0
    have hrn := hrow.els.len
    have htr : t < rn := by have h1 := hsq.out.cols row hrm; dsimp only at h1; omega
    obtain ⟨rb, ro, rfl⟩ := hrow.els.addr (by omega)
    obtain ⟨p, hp0, _, p0⟩ := hrow.elem (k := t) htr
    have HP : powerAt ⟨nodes, power, noise, thr, links, margin⟩ (f : Int) (t : Int) = p := by
      unfold powerAt; dsimp only
      rw [Int.toNat_natCast, Int.toNat_natCast, List.getD_eq_getElem?_getD, List.getD_eq_getElem?_getD, hr]
      show (row[t]?).getD 0 = p
      rw [hp0]; rfl
    have HM : margin.getD i 0 = m := by rw [List.getD_eq_getElem?_getD, hm0]; rfl
    have HR : checkLink ⟨nodes, power, noise, thr, links, margin⟩ i = if (decide (m < 0) || decide (p < m)) = true then 2 else 0 := by
      unfold checkLink; rw [hl'.out, if_neg (by rw [HE.out]; decide), if_neg (by rw [HO.out]; decide)]
      unfold badMargin; rw [hl'.out]; dsimp only; rw [HM, HP]
    replace HR := Lib.hid HR
    clear HP HM hp0 hr hrm hm0 hrn N4
    replace hrow := Lib.hid hrow
    have gx := BX4.out.grown
    have gl := BL4.out.grown
    have e1 := cell_regrown m0
    have e2 := cell_regrown row0
    have e3 := cell_regrown p0
    clear m0 row0 p0
    by_cases c6 : m < 0
    case pos =>
      have d1 : decide (m < 0) = true := by simpa using c6
      replace HR : Hid (checkLink ⟨nodes, power, noise, thr, links, margin⟩ i = 2) := by show _ = _; rw [HR.out, if_pos (by simp [c6])]
      refine wp_region_quiet_below (by kernel_rfl) (by kernel_rfl) ?_
      repeat (go_big_quiet_step (fail))
      refine wpQuiet_nil ?_
      rintro _ ⟨⟨dq, osq⟩, rfl⟩
      have hbw5 := Lib.hid (bthen hbw4.out (below_regrown w4 dq osq))
      clear gx gl e1 e2 e3 d1 c6
      go_wp2
      go_ret
      exact ⟨by rw [HR.out]; rfl, hbw5.out⟩
    case neg =>
      have d1 : decide (m < 0) = false := by simpa using c6
      by_cases c7 : p < m
      case pos =>
        replace HR : Hid (checkLink ⟨nodes, power, noise, thr, links, margin⟩ i = 2) := by show _ = _; rw [HR.out, if_pos (by simp [c7])]
        refine wp_region_quiet_below (by kernel_rfl) (by kernel_rfl) ?_
        repeat (go_big_quiet_step (fail))
        refine wpQuiet_nil ?_
        rintro _ ⟨⟨dq, osq⟩, rfl⟩
        have hbw5 := Lib.hid (bthen hbw4.out (below_regrown w4 dq osq))
        clear gx gl e1 e2 e3 d1
        go_wp2
        go_ret
        exact ⟨by rw [HR.out]; rfl, hbw5.out⟩
      case neg =>
        replace HR : Hid (checkLink ⟨nodes, power, noise, thr, links, margin⟩ i = 0) := by show _ = _; rw [HR.out, if_neg (by simp; omega)]
        refine wp_region_quiet_below (by kernel_rfl) (by kernel_rfl) ?_
        repeat (go_big_quiet_step (fail))
        refine wpQuiet_nil ?_
        rintro _ ⟨⟨dq, osq⟩, rfl⟩
        have hbw5 := Lib.hid (bthen hbw4.out (below_regrown w4 dq osq))
        clear gx gl e1 e2 e3 d1
        go_wp2
        go_ret
        exact ⟨by rw [HR.out]; rfl, hbw5.out⟩
end Nt
end Go.Proofs.Ythibgpgjioepfaa
