/- hopmeshref31.Good; hopmeshref34.power, Sum, Disturbance. -/
import Derived.Test.YthibgpgjioepfaaRef3
namespace Go.Proofs.Ythibgpgjioepfaa
open Go Go.RowKit Go.Sort
namespace Nt
theorem findL_lt (ls : List Lnk) (f t : Int) : findL ls f t < ls.length ∧ -1 ≤ findL ls f t := idx_lt _ ls
set_option maxRecDepth 100000 in
set_option maxHeartbeats 4000000 in
theorem rgood_any (N : Net) (v : NetV) (f t : Int) (w : World) (hN : NetIs w v N) (hc : check N = 0) :
    Calls Try.prog 74 #[.agg #[.int .i64 N.nodes, .slice v.PA v.pn v.pc, .int .i64 N.noise, .int .i64 N.threshold, .slice v.LA v.ln v.lc, .slice v.MA v.mn v.mc], .int .i64 f, .int .i64 t] w
      fun e w' => e = .returned (.bool (goodR N f t)) ∧ Below w.heap.size w w' := by
  have HK := noise_ok (check_zero hc).2.2.2.1
  have hml := (check_zero hc).2.2.2.2.2.1
  have HMb := fun b (hb : b < N.links.length) => margin_bd hc hb
  have HF := fun W (h : NetIs W v N) a b => rfind_any N v a b W h
  have HH := fun s d W hs hd => rheard_any N.nodes N.noise N.threshold s d (.slice v.PA v.pn v.pc) (.slice v.LA v.ln v.lc) (.slice v.MA v.mn v.mc) W HK.1 (by have := HK.2; omega) hs hd
  have HG : Hid (goodR N f t = (decide (0 ≤ findL N.links f t) && decide (0 ≤ findL N.links t f) && heardB N.threshold N.noise (N.margin.getD (findL N.links f t).toNat 0) 0 && heardB N.threshold N.noise (N.margin.getD (findL N.links t f).toNat 0) 0)) := rfl
  have hf1 := findL_lt N.links f t
  have hf2 := findL_lt N.links t f
  have hmn := hN.margin.els.len
  generalize goodR N f t = G at *
  generalize hI1 : findL N.links f t = I1 at *
  generalize hI2 : findL N.links t f = I2 at *
  clear hc
  have NK := hN.keep (below_alloc w (.cells #[.int .i64 N.nodes, .slice v.PA v.pn v.pc, .int .i64 N.noise, .int .i64 N.threshold, .slice v.LA v.ln v.lc, .slice v.MA v.mn v.mc] 26))
  replace HF := Lib.hid HF
  replace HH := Lib.hid HH
  replace HMb := Lib.hid HMb
  replace HK := Lib.hid HK
  obtain ⟨nodes, power, noise, thr, links, margin⟩ := N
  obtain ⟨PA, pn, pc, LA, ln, lc, MA, mn, mc⟩ := v
  dsimp only at *
  have BX := Box.new w #[.int .i64 nodes, .slice PA pn pc, .int .i64 noise, .int .i64 thr, .slice LA ln lc, .slice MA mn mc] 26
  have hbw := below_alloc w (.cells #[.int .i64 nodes, .slice PA pn pc, .int .i64 noise, .int .i64 thr, .slice LA ln lc, .slice MA mn mc] 26)
  replace hN := Lib.hid hN
  replace NK := Lib.hid NK
  replace BX := Lib.hid BX
  replace hbw := Lib.hid hbw
  replace hmn := Lib.hid hmn
  replace hml := Lib.hid hml
  replace hf1 := Lib.hid hf1
  replace hf2 := Lib.hid hf2
  replace hI1 := Lib.hid hI1
  replace hI2 := Lib.hid hI2
  go_enter Try.func74, Try.ntmps74
  go_wp2_with fail
  generalize w.alloc (.cells #[.int .i64 nodes, .slice PA pn pc, .int .i64 noise, .int .i64 thr, .slice LA ln lc, .slice MA mn mc] 26) = w1 at *
  have gx := BX.out.grown
  have c1 : ∀ d os, Calls Try.prog 77 #[.agg #[.int .i64 nodes, .slice PA pn pc, .int .i64 noise, .int .i64 thr, .slice LA ln lc, .slice MA mn mc], .int .i64 f, .int .i64 t] (grow (redrawn w1 d) os) fun e w'' => e = .returned (.int .i64 I1) ∧ ∃ p : Regrown, w'' = grow (redrawn w1 p.d) p.os :=
    fun d os => Calls.regrown_of (by have := HF.out _ (NK.out.keep (below_regrown w1 d os)) f t; rwa [hI1.out] at this)
  replace c1 := Lib.hid c1
  have c2 : ∀ d os, Calls Try.prog 77 #[.agg #[.int .i64 nodes, .slice PA pn pc, .int .i64 noise, .int .i64 thr, .slice LA ln lc, .slice MA mn mc], .int .i64 t, .int .i64 f] (grow (redrawn w1 d) os) fun e w'' => e = .returned (.int .i64 I2) ∧ ∃ p : Regrown, w'' = grow (redrawn w1 p.d) p.os :=
    fun d os => Calls.regrown_of (by have := HF.out _ (NK.out.keep (below_regrown w1 d os)) t f; rwa [hI2.out] at this)
  replace c2 := Lib.hid c2
  refine wp_region_quiet_below (by kernel_rfl) (by kernel_rfl) ?_
  repeat (go_big_quiet_step (first | (with_reducible exact c1.out _ _) | (with_reducible exact c2.out _ _)))
  refine wpQuiet_nil ?_
  rintro _ ⟨⟨dq, osq⟩, rfl⟩
  have hb_ := below_regrown w1 dq osq
  replace BX := Lib.hid (BX.out.keep hb_)
  replace hbw := Lib.hid (hbw.out.keep hb_)
  replace NK := Lib.hid (NK.out.keep hb_)
  generalize grow (redrawn w1 dq) osq = w2 at *
  clear hb_
  clear gx c1 c2
  go_wp2_with fail
  have gx := BX.out.grown
  by_cases d1 : 0 ≤ I1
  case neg =>
    have e1 : decide (0 ≤ I1) = false := by simpa using d1
    have HR : Hid (G = false) := by show _ = _; rw [HG.out, e1]; rfl
    refine wp_region_quiet_below (by kernel_rfl) (by kernel_rfl) ?_
    repeat (go_big_quiet_step (fail))
    refine wpQuiet_nil ?_
    rintro _ ⟨⟨dq, osq⟩, rfl⟩
    have hb_ := below_regrown w2 dq osq
    replace hbw := Lib.hid (hbw.out.keep hb_)
    generalize grow (redrawn w2 dq) osq = w3 at *
    clear hb_
    clear gx e1
    go_wp2
    go_ret
    exact ⟨by rw [HR.out]; rfl, hbw.out⟩
  by_cases d2 : 0 ≤ I2
  case neg =>
    have e1 : decide (0 ≤ I1) = true := by simpa using d1
    have e2 : decide (0 ≤ I2) = false := by simpa using d2
    have HR : Hid (G = false) := by show _ = _; rw [HG.out, e1, e2]; rfl
    refine wp_region_quiet_below (by kernel_rfl) (by kernel_rfl) ?_
    repeat (go_big_quiet_step (fail))
    refine wpQuiet_nil ?_
    rintro _ ⟨⟨dq, osq⟩, rfl⟩
    have hb_ := below_regrown w2 dq osq
    replace hbw := Lib.hid (hbw.out.keep hb_)
    generalize grow (redrawn w2 dq) osq = w3 at *
    clear hb_
    clear gx e1 e2
    go_wp2
    go_ret
    exact ⟨by rw [HR.out]; rfl, hbw.out⟩
  obtain ⟨a, rfl⟩ := Int.eq_ofNat_of_zero_le d1
  obtain ⟨b, rfl⟩ := Int.eq_ofNat_of_zero_le d2
  have e1 : decide ((0 : Int) ≤ (a : Int)) = true := by simp
  have e2 : decide ((0 : Int) ≤ (b : Int)) = true := by simp
  have hal : a < links.length := by have := hf1.out.1; omega
  have hbl : b < links.length := by have := hf2.out.1; omega
  have ham : a < mn := by have := hml.out; have := hmn.out; omega
  have hbm : b < mn := by have := hml.out; have := hmn.out; omega
  obtain ⟨mb, mo, rfl⟩ := NK.out.margin.els.addr (show 0 < mn by omega)
  obtain ⟨m1, hm1, _, q1⟩ := NK.out.margin.elem (k := a) ham
  obtain ⟨m2, hm2, _, q2⟩ := NK.out.margin.elem (k := b) hbm
  dsimp only at hm1 hm2 q1 q2
  have b1 := HMb.out a hal
  have b2 := HMb.out b hbl
  have hm1' : margin.getD a 0 = m1 := by rw [List.getD_eq_getElem?_getD, hm1]; rfl
  have hm2' : margin.getD b 0 = m2 := by rw [List.getD_eq_getElem?_getD, hm2]; rfl
  rw [hm1'] at b1
  rw [hm2'] at b2
  have HG2 := HG.out
  rw [e1, e2, Int.toNat_natCast, Int.toNat_natCast, hm1', hm2'] at HG2
  replace HG2 : Hid (G = (heardB thr noise m1 0 && heardB thr noise m2 0)) := by show _ = _; rw [HG2]; rfl
  clear HG hm1 hm2 hm1' hm2'
  have g1 := cell_regrown q1
  have g2 := cell_regrown q2
  clear q1 q2
  have r1 : (a : Int) < (mn : Int) := by omega
  have r2 : (b : Int) < (mn : Int) := by omega
  have c1 : ∀ d os, Calls Try.prog 76 #[.agg #[.int .i64 nodes, .slice PA pn pc, .int .i64 noise, .int .i64 thr, .slice LA ln lc, .slice (some ⟨mb, mo, none⟩) mn mc], .int .i64 m1, .int .i64 0] (grow (redrawn w2 d) os) fun e w'' => e = .returned (.bool (heardB thr noise m1 0)) ∧ ∃ p : Regrown, w'' = grow (redrawn w2 p.d) p.os :=
    fun d os => Calls.regrown_of (HH.out m1 0 _ (by omega) (by omega))
  replace c1 := Lib.hid c1
  have c2 : ∀ d os, Calls Try.prog 76 #[.agg #[.int .i64 nodes, .slice PA pn pc, .int .i64 noise, .int .i64 thr, .slice LA ln lc, .slice (some ⟨mb, mo, none⟩) mn mc], .int .i64 m2, .int .i64 0] (grow (redrawn w2 d) os) fun e w'' => e = .returned (.bool (heardB thr noise m2 0)) ∧ ∃ p : Regrown, w'' = grow (redrawn w2 p.d) p.os :=
    fun d os => Calls.regrown_of (HH.out m2 0 _ (by omega) (by omega))
  replace c2 := Lib.hid c2
  clear b1 b2
  cases hh : heardB thr noise m1 0 with
  | false =>
    rw [hh] at c1
    have HR : Hid (G = false) := by show _ = _; rw [HG2.out, hh]; rfl
    replace hh := Lib.hid hh
    refine wp_region_quiet_below (by kernel_rfl) (by kernel_rfl) ?_
    repeat (go_big_quiet_step (exact c1.out _ _))
    refine wpQuiet_nil ?_
    rintro _ ⟨⟨dq, osq⟩, rfl⟩
    have hb_ := below_regrown w2 dq osq
    replace hbw := Lib.hid (hbw.out.keep hb_)
    generalize grow (redrawn w2 dq) osq = w3 at *
    clear hb_
    clear gx e1 e2 g1 g2
    go_wp2
    go_ret
    exact ⟨by rw [HR.out]; rfl, hbw.out⟩
  | true =>
    rw [hh] at c1
    have HR : Hid (G = heardB thr noise m2 0) := by show _ = _; rw [HG2.out, hh]; rfl
    replace hh := Lib.hid hh
    refine wp_region_quiet_below (by kernel_rfl) (by kernel_rfl) ?_
    repeat (go_big_quiet_step (first | (with_reducible exact c1.out _ _) | (with_reducible exact c2.out _ _)))
    refine wpQuiet_nil ?_
    rintro _ ⟨⟨dq, osq⟩, rfl⟩
    have hb_ := below_regrown w2 dq osq
    replace hbw := Lib.hid (hbw.out.keep hb_)
    generalize grow (redrawn w2 dq) osq = w3 at *
    clear hb_
    clear gx e1 e2 g1 g2
    go_wp2
    go_ret
    exact ⟨by rw [HR.out]; rfl, hbw.out⟩
def powR (N : Net) (a b : Int) : Int := if isNode N.nodes b = true then adds N b a else 0
set_option maxRecDepth 100000 in
set_option maxHeartbeats 2000000 in
theorem power_any (N : Net) (v : NetV) (a b : Int) (w : World) (hN : NetIs w v N) (hsq : Square N) :
    Calls Try.prog 75 #[.agg #[.int .i64 N.nodes, .slice v.PA v.pn v.pc, .int .i64 N.noise, .int .i64 N.threshold, .slice v.LA v.ln v.lc, .slice v.MA v.mn v.mc], .int .i64 a, .int .i64 b] w
      fun e w' => e = .returned (.int .i64 (powR N a b)) ∧ Below w.heap.size w w' := by
  have HA : ∀ h : isNode N.nodes a = false, powR N a b = 0 := fun h => by unfold powR adds; rw [if_neg (c := isNode N.nodes a = true) (by rw [h]; decide)]; simp
  have HA2 : ∀ h : isNode N.nodes b = false, powR N a b = 0 := fun h => by unfold powR; rw [if_neg (by rw [h]; decide)]
  have HB : ∀ (h : isNode N.nodes a = true) (h2 : isNode N.nodes b = true), powR N a b = powerAt N a b := fun h h2 => by unfold powR adds; rw [if_pos h2, if_pos h]
  have HP : Hid (∀ x y : Int, powerAt N x y = (N.power.getD x.toNat []).getD y.toNat 0) := fun x y => rfl
  generalize powR N a b = AD at *
  generalize powerAt N = PW at *
  have hpn := hN.power.len
  obtain ⟨nodes, power, noise, thr, links, margin⟩ := N
  obtain ⟨PA, pn, pc, LA, ln, lc, MA, mn, mc⟩ := v
  dsimp only at *
  have BX := Box.new w #[.int .i64 nodes, .slice PA pn pc, .int .i64 noise, .int .i64 thr, .slice LA ln lc, .slice MA mn mc] 26
  have hbw := below_alloc w (.cells #[.int .i64 nodes, .slice PA pn pc, .int .i64 noise, .int .i64 thr, .slice LA ln lc, .slice MA mn mc] 26)
  have hr := hsq.rows
  have hcl := hsq.cols
  dsimp only at hr hcl
  have kx := BX.at_
  replace hN := Lib.hid hN
  replace BX := Lib.hid BX
  replace hbw := Lib.hid hbw
  replace hpn := Lib.hid hpn
  replace hr := Lib.hid hr
  replace hcl := Lib.hid hcl
  replace HA := Lib.hid HA
  replace HA2 := Lib.hid HA2
  replace HB := Lib.hid HB
  clear hsq
  go_enter Try.func75, Try.ntmps75
  go_wp2_with fail
  refine (rnode_any nodes a _ _ _ _ _ _).mono ?_
  rintro e w1 ⟨rfl, hb⟩
  clear kx
  replace BX := Lib.hid (BX.out.keep hb)
  replace hbw := Lib.hid (hbw.out.keep hb)
  clear hb
  have kx := BX.out.at_
  cases c1 : isNode nodes a with
  | false =>
    have HR : Hid (AD = 0) := HA.out c1
    replace c1 := Lib.hid c1
    go_wp2
    go_ret
    exact ⟨by rw [HR.out]; rfl, hbw.out⟩
  | true =>
    go_wp2_with fail
    refine (rnode_any nodes b _ _ _ _ _ _).mono ?_
    rintro e w2 ⟨rfl, hb⟩
    clear kx
    replace BX := Lib.hid (BX.out.keep hb)
    replace hbw := Lib.hid (hbw.out.keep hb)
    clear hb
    have kx := BX.out.at_
    cases c2 : isNode nodes b with
    | false =>
      have HR : Hid (AD = 0) := HA2.out c2
      replace c1 := Lib.hid c1
      replace c2 := Lib.hid c2
      go_wp2
      go_ret
      exact ⟨by rw [HR.out]; rfl, hbw.out⟩
    | true =>
      have hav := HB.out c1 c2
      have n1 := isNode_yes c1
      have n2 := isNode_yes c2
      obtain ⟨f, rfl⟩ := Int.eq_ofNat_of_zero_le n1.1
      obtain ⟨t, rfl⟩ := Int.eq_ofNat_of_zero_le n2.1
      have hfp : f < pn := by have := hr.out; have := hpn.out; omega
      obtain ⟨pb, po, rfl⟩ := hN.out.power.addr (show 0 < pn by omega)
      obtain ⟨row, RA, rn, rc, hrr, hrm, row0, hrow⟩ := (hN.out.keep hbw.out).power.elem (k := f) hfp
      dsimp only at hrr hrm row0
      have hrn := hrow.els.len
      have htr : t < rn := by have h1 := hcl.out row hrm; omega
      obtain ⟨rb, ro, rfl⟩ := hrow.els.addr (by omega)
      obtain ⟨p, hp0, _, p0⟩ := hrow.elem (k := t) htr
      have hpv : AD = p := by
        rw [hav, HP.out, Int.toNat_natCast, Int.toNat_natCast, List.getD_eq_getElem?_getD, List.getD_eq_getElem?_getD, hrr]
        show (row[t]?).getD 0 = p
        rw [hp0]; rfl
      clear hav hp0 hrr hrm hrn
      replace hrow := Lib.hid hrow
      replace hpv := Lib.hid hpv
      replace c1 := Lib.hid c1
      replace c2 := Lib.hid c2
      go_wp2
      go_ret
      exact ⟨by rw [hpv.out]; rfl, hbw.out⟩
end Nt
end Go.Proofs.Ythibgpgjioepfaa
