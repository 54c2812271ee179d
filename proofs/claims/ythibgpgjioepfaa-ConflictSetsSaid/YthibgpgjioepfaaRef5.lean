/- hopmeshref34.Sum, Disturbance. -/
import Derived.Test.YthibgpgjioepfaaRef4
namespace Go.Proofs.Ythibgpgjioepfaa
open Go Go.RowKit Go.Sort
namespace Nt
theorem distC_nodes {N : Net} {node : Int} {c : Cel} (h : noneC N.nodes c = false) : distC N node c = powerAt N c.frm node + powerAt N c.to node := by
  unfold noneC at h
  simp only [Bool.or_eq_false_iff, Bool.not_eq_false'] at h
  unfold distC adds
  rw [if_pos h.1, if_pos h.2]
set_option maxRecDepth 100000 in
set_option maxHeartbeats 4000000 in
theorem sum_any (N : Net) (v : NetV) (A : Option Addr) (n c : Nat) (cs : List Cel) (i : Int) (node : Nat) (w : World) (hN : NetIs w v N) (hs : CelS w A n cs)
    (hsq : Square N) (hpw : ∀ xs ∈ N.power, ∀ x ∈ xs, 0 ≤ x ∧ x ≤ 68719476736) (hnd : (node : Int) < N.nodes) (hn : n ≤ 100000) (hall : cs.any (noneC N.nodes) = false) :
    Calls Try.prog 42 #[.agg #[.int .i64 N.nodes, .slice v.PA v.pn v.pc, .int .i64 N.noise, .int .i64 N.threshold, .slice v.LA v.ln v.lc, .slice v.MA v.mn v.mc], .slice A n c, .int .i64 i, .int .i64 (node : Int)] w
      fun e w' => e = .returned (.int .i64 (dist N cs i (node : Int))) ∧ Below w.heap.size w w' := by
  have HD : Hid (dist N cs i (node : Int) = distTo N cs i (node : Int) n) := by show _ = _; unfold dist; rw [hs.els.len]
  have HT := fun k => distTo_bd hpw cs i (node : Int) k
  have HS : Hid (∀ k, distTo N cs i (node : Int) (k + 1) = distTo N cs i (node : Int) k + (if (k : Int) = i then 0 else distC N (node : Int) (cs.getD k default))) := fun k => rfl
  have HDC : ∀ c ∈ cs, (isNode N.nodes c.frm = true ∧ isNode N.nodes c.to = true) ∧ distC N (node : Int) c = powerAt N c.frm (node : Int) + powerAt N c.to (node : Int) := fun c hc => by
    have h := List.any_eq_false.1 hall c hc
    have h' : noneC N.nodes c = false := by simpa using h
    refine ⟨?_, distC_nodes h'⟩
    unfold noneC at h'
    simpa using h'
  have HPB := fun a => powerAt_bd hpw a (node : Int)
  have HP : Hid (∀ x y : Int, powerAt N x y = (N.power.getD x.toNat []).getD y.toNat 0) := fun x y => rfl
  generalize hTdef : distTo N cs i (node : Int) = T at *
  generalize hDdef : distC N (node : Int) = DC at *
  generalize hPdef : powerAt N = PW at *
  generalize dist N cs i (node : Int) = D at *
  clear hTdef hDdef hPdef hpw hall
  have hlen := hs.els.len
  have hpn := hN.power.len
  have hr := hsq.rows
  have hcl := hsq.cols
  obtain ⟨nodes, power, noise, thr, links, margin⟩ := N
  obtain ⟨PA, pn, pc, LA, ln, lc, MA, mn, mc⟩ := v
  dsimp only at *
  have hbw := below_alloc w (.cells #[.int .i64 nodes, .slice PA pn pc, .int .i64 noise, .int .i64 thr, .slice LA ln lc, .slice MA mn mc] 26)
  have BX := Box.new w #[.int .i64 nodes, .slice PA pn pc, .int .i64 noise, .int .i64 thr, .slice LA ln lc, .slice MA mn mc] 26
  replace HT := Lib.hid HT
  replace HDC := Lib.hid HDC
  replace HPB := Lib.hid HPB
  replace hlen := Lib.hid hlen
  replace hpn := Lib.hid hpn
  replace hr := Lib.hid hr
  replace hcl := Lib.hid hcl
  replace hN := Lib.hid hN
  replace hs := Lib.hid hs
  replace BX := Lib.hid BX
  replace hbw := Lib.hid hbw
  clear hsq
  go_enter Try.func42, Try.ntmps42
  go_wp2
  go_loopw [9, 10] (fun s i wr => ∃ k : Nat, k ≤ n ∧ i = .int .i64 k ∧ s = .int .i64 (T k) ∧ Hid (Below w.heap.size w wr) ∧ Hid (Box wr w.heap.size #[.int .i64 nodes, .slice PA pn pc, .int .i64 noise, .int .i64 thr, .slice LA ln lc, .slice MA mn mc])) (fun _ i _ => n - (intOf i).toNat)
  case atStart => exact ⟨0, by omega, rfl, by have := HT.out 0; simp only [Int.natCast_zero, Int.zero_mul] at this; rw [show T 0 = 0 by omega], hbw, BX⟩
  case round =>
    obtain ⟨k, hk, rfl, rfl, HB, HX⟩ := hrel
    clear hbw BX
    by_cases hlt : k < n
    · have HTk := HT.out k
      have HTs := HS.out k
      by_cases hki : ((k : Int) != i) = true
      · obtain ⟨b, off, rfl⟩ := hs.out.els.addr (by omega)
        obtain ⟨⟨a0, a1, a2, a3, a4⟩, hq, hm, q0, q1, q2, q3, q4⟩ := (hs.out.keep HB.out).elem hlt
        dsimp only at q0 q1 q2 q3 q4
        have hq' : cs.getD k default = ⟨a0, a1, a2, a3, a4⟩ := by rw [List.getD_eq_getElem?_getD, hq]; rfl
        obtain ⟨⟨m1, m2⟩, hdc⟩ := HDC.out _ hm
        dsimp only at m1 m2 hdc
        rw [hq', if_neg (by simpa using hki), hdc] at HTs
        have n1 := isNode_yes m1
        have n2 := isNode_yes m2
        obtain ⟨f, rfl⟩ := Int.eq_ofNat_of_zero_le n1.1
        obtain ⟨t, rfl⟩ := Int.eq_ofNat_of_zero_le n2.1
        have hfp : f < pn := by have := hr.out; have := hpn.out; omega
        have htp : t < pn := by have := hr.out; have := hpn.out; omega
        obtain ⟨pb, po, rfl⟩ := hN.out.power.addr (show 0 < pn by omega)
        obtain ⟨row1, RA1, rn1, rc1, hrr1, hrm1, row01, hrow1⟩ := (hN.out.keep HB.out).power.elem (k := f) hfp
        obtain ⟨row2, RA2, rn2, rc2, hrr2, hrm2, row02, hrow2⟩ := (hN.out.keep HB.out).power.elem (k := t) htp
        dsimp only at hrr1 hrm1 row01 hrr2 hrm2 row02
        have hrn1 := hrow1.els.len
        have hrn2 := hrow2.els.len
        have ht1 : node < rn1 := by have h1 := hcl.out row1 hrm1; omega
        have ht2 : node < rn2 := by have h1 := hcl.out row2 hrm2; omega
        obtain ⟨rb1, ro1, rfl⟩ := hrow1.els.addr (by omega)
        obtain ⟨rb2, ro2, rfl⟩ := hrow2.els.addr (by omega)
        obtain ⟨p1, hp1, _, p10⟩ := hrow1.elem (k := node) ht1
        obtain ⟨p2, hp2, _, p20⟩ := hrow2.elem (k := node) ht2
        have e1 : PW (f : Int) (node : Int) = p1 := by
          rw [HP.out, Int.toNat_natCast, Int.toNat_natCast, List.getD_eq_getElem?_getD, List.getD_eq_getElem?_getD, hrr1]
          show (row1[node]?).getD 0 = p1
          rw [hp1]; rfl
        have e2 : PW (t : Int) (node : Int) = p2 := by
          rw [HP.out, Int.toNat_natCast, Int.toNat_natCast, List.getD_eq_getElem?_getD, List.getD_eq_getElem?_getD, hrr2]
          show (row2[node]?).getD 0 = p2
          rw [hp2]; rfl
        have b1 := HPB.out (f : Int)
        have b2 := HPB.out (t : Int)
        rw [e1] at b1 HTs
        rw [e2] at b2 HTs
        clear e1 e2 hp1 hp2 hrr1 hrr2 hrm1 hrm2 hrn1 hrn2 m1 m2 hq hm hq' hdc
        replace hrow1 := Lib.hid hrow1
        replace hrow2 := Lib.hid hrow2
        have hk137 : (k : Int) * 137438953472 ≤ 13743895347200000 := by omega
        have HTs' : Hid (T (k + 1) = T k + p1 + p2) := by show _ = _; omega
        clear HTs
        generalize T k = Tk at *
        go_wp2_with fail
        have g2 := cell_regrown q2
        have g3 := cell_regrown q3
        have g4 := cell_regrown row01
        have g5 := cell_regrown row02
        have g6 := cell_regrown p10
        have g7 := cell_regrown p20
        have gx := HX.out.grown
        have r1 : (k : Int) < (n : Int) := by omega
        have r2 : (f : Int) < (pn : Int) := by omega
        have r3 : (t : Int) < (pn : Int) := by omega
        have r4 : (node : Int) < (rn1 : Int) := by omega
        have r5 : (node : Int) < (rn2 : Int) := by omega
        have w1 : IntKind.i64.wrap (Tk + p1) = Tk + p1 := IntWalk.i64_in _ (by omega)
        have w2 : IntKind.i64.wrap (Tk + p1 + p2) = Tk + p1 + p2 := IntWalk.i64_in _ (by omega)
        clear q0 q1 q2 q3 q4 row01 row02 p10 p20
        refine wp_region_quiet_below (by kernel_rfl) (by kernel_rfl) ?_
        repeat (go_big_quiet_step (fail))
        refine wpQuiet_nil ?_
        rintro _ ⟨⟨dq, osq⟩, rfl⟩
        have hb_ := below_regrown wr dq osq
        replace HX := Lib.hid (HX.out.keep hb_)
        replace HB := Lib.hid (HB.out.keep hb_)
        generalize grow (redrawn wr dq) osq = wq at *
        clear hb_
        clear gx g2 g3 g4 g5 g6 g7 r1 r2 r3 r4 r5 w1 w2
        go_wp2
        go_roundw
        case rel => exact ⟨k + 1, by omega, by go_num, by rw [HTs'.out], HB, HX⟩
        case measure => simp [intOf]; omega
      · have hki' : ((k : Int) != i) = false := by simpa using hki
        have he : T (k + 1) = T k := by rw [HTs, if_pos (by simpa using hki)]; omega
        replace he := Lib.hid he
        replace HTs := Lib.hid HTs
        replace HTk := Lib.hid HTk
        replace hki := Lib.hid hki
        go_wp2
        go_roundw
        case rel => exact ⟨k + 1, by omega, by go_num, by rw [he.out], HB, HX⟩
        case measure => simp [intOf]; omega
    · have e : k = n := by omega
      subst e
      go_wp2
      go_ret
      exact ⟨by rw [HD.out]; rfl, HB.out⟩
theorem any_split {α : Type} [Inhabited α] {p : α → Bool} {xs : List α} {k : Nat} (hk : k < xs.length) (hp : p (xs.getD k default) = true) : xs.any p = true := by
  rw [List.any_eq_true]
  refine ⟨xs.getD k default, ?_, hp⟩
  rw [List.getD_eq_getElem?_getD, List.getElem?_eq_getElem hk]
  exact List.getElem_mem hk
def NoneTo (n : Int) (cs : List Cel) (k : Nat) : Prop := ∀ j, j < k → noneC n (cs.getD j default) = false
set_option maxRecDepth 100000 in
set_option maxHeartbeats 4000000 in
theorem rDisturbance_any (N : Net) (v : NetV) (A : Option Addr) (n c : Nat) (cs : List Cel) (i node : Int) (w : World) (hN : NetIs w v N) (hs : CelS w A n cs) (hn : n ≤ 100000) :
    Calls Try.prog 14 #[.agg #[.int .i64 N.nodes, .slice v.PA v.pn v.pc, .int .i64 N.noise, .int .i64 N.threshold, .slice v.LA v.ln v.lc, .slice v.MA v.mn v.mc], .slice A n c, .int .i64 i, .int .i64 node] w
      fun e w' => e = .returned (.int .i64 (distN N cs i node)) ∧ Below w.heap.size w w' := by
  have HC := fun W (h : NetIs W v N) => rcheck_any N v W h
  have hlen := hs.els.len
  have HI : Hid (distN N cs i node = if check N = 0 ∧ 0 ≤ i ∧ i < (n : Int) ∧ isNode N.nodes node = true ∧ cs.any (noneC N.nodes) = false then dist N cs i node else 0) := by show _ = _; unfold distN; rw [hlen]
  have HF := fun W (h1 : NetIs W v N) (h2 : CelS W A n cs) (hc : check N = 0) (nd : Nat) (h3 : (nd : Int) < N.nodes) (h4 : cs.any (noneC N.nodes) = false) => sum_any N v A n c cs i nd W h1 h2 (check_zero hc).2.1 (check_zero hc).2.2.1 h3 hn h4
  have NK := hN.keep (below_alloc w (.cells #[.int .i64 N.nodes, .slice v.PA v.pn v.pc, .int .i64 N.noise, .int .i64 N.threshold, .slice v.LA v.ln v.lc, .slice v.MA v.mn v.mc] 26))
  generalize check N = C at *
  generalize distN N cs i node = I at *
  generalize hDg : dist N cs i = D at *
  clear hDg
  obtain ⟨nodes, power, noise, thr, links, margin⟩ := N
  obtain ⟨PA, pn, pc, LA, ln, lc, MA, mn, mc⟩ := v
  dsimp only at *
  have hbw := below_alloc w (.cells #[.int .i64 nodes, .slice PA pn pc, .int .i64 noise, .int .i64 thr, .slice LA ln lc, .slice MA mn mc] 26)
  have BX := Box.new w #[.int .i64 nodes, .slice PA pn pc, .int .i64 noise, .int .i64 thr, .slice LA ln lc, .slice MA mn mc] 26
  have kx := BX.at_
  replace HC := Lib.hid HC
  replace HF := Lib.hid HF
  replace hlen := Lib.hid hlen
  replace hN := Lib.hid hN
  replace hs := Lib.hid hs
  replace NK := Lib.hid NK
  replace BX := Lib.hid BX
  replace hbw := Lib.hid hbw
  go_enter Try.func14, Try.ntmps14
  go_wp2_with fail
  refine (HC.out _ NK.out).mono ?_
  rintro e w1 ⟨rfl, hb⟩
  clear kx NK
  replace BX := Lib.hid (BX.out.keep hb)
  replace hbw := Lib.hid (hbw.out.keep hb)
  clear hb
  have kx := BX.out.at_
  by_cases c0 : C = 0
  case neg =>
    have HR : Hid (I = 0) := by show _ = _; rw [HI.out, if_neg (fun h => c0 h.1)]
    have d : (C != 0) = true := by rw [bne_iff_ne]; exact c0
    replace c0 := Lib.hid c0
    go_wp2
    go_ret
    exact ⟨by rw [HR.out]; rfl, hbw.out⟩
  have dz : (C != 0) = false := by rw [c0]; rfl
  replace c0 := Lib.hid c0
  by_cases c1 : 0 ≤ i
  case neg =>
    have HR : Hid (I = 0) := by show _ = _; rw [HI.out, if_neg (fun h => c1 h.2.1)]
    go_wp2
    go_ret
    exact ⟨by rw [HR.out]; rfl, hbw.out⟩
  by_cases c2 : i < (n : Int)
  case neg =>
    have HR : Hid (I = 0) := by show _ = _; rw [HI.out, if_neg (fun h => c2 h.2.2.1)]
    go_wp2
    go_ret
    exact ⟨by rw [HR.out]; rfl, hbw.out⟩
  go_wp2_with fail
  refine (rnode_any nodes node _ _ _ _ _ _).mono ?_
  rintro e w2 ⟨rfl, hb⟩
  clear kx
  replace BX := Lib.hid (BX.out.keep hb)
  replace hbw := Lib.hid (hbw.out.keep hb)
  clear hb
  have kx := BX.out.at_
  cases c3 : isNode nodes node with
  | false =>
    have HR : Hid (I = 0) := by show _ = _; rw [HI.out, if_neg (fun h => by rw [c3] at h; cases h.2.2.2.1)]
    replace c3 := Lib.hid c3
    go_wp2
    go_ret
    exact ⟨by rw [HR.out]; rfl, hbw.out⟩
  | true =>
  have hnode := isNode_yes c3
  obtain ⟨nd, rfl⟩ := Int.eq_ofNat_of_zero_le hnode.1
  replace c3 := Lib.hid c3
  go_wp2
  clear kx dz
  go_loopw [9] (fun i wr => ∃ k : Nat, k ≤ n ∧ i = .int .i64 k ∧ Hid (NoneTo nodes cs k) ∧ Hid (Below w.heap.size w wr) ∧ Hid (Box wr w.heap.size #[.int .i64 nodes, .slice PA pn pc, .int .i64 noise, .int .i64 thr, .slice LA ln lc, .slice MA mn mc])) (fun i _ => n - (intOf i).toNat)
  case atStart => exact ⟨0, by omega, rfl, fun j hj => absurd hj (by omega), hbw, BX⟩
  case round =>
    obtain ⟨k, hk, rfl, HP, HB, HX⟩ := hrel
    clear hbw BX
    have kx := HX.out.at_
    by_cases hlt : k < n
    · obtain ⟨b, off, rfl⟩ := hs.out.els.addr (by omega)
      obtain ⟨⟨a0, a1, a2, a3, a4⟩, hq, hm, q0, q1, q2, q3, q4⟩ := (hs.out.keep HB.out).elem hlt
      dsimp only at q0 q1 q2 q3 q4
      have hq' : cs.getD k default = ⟨a0, a1, a2, a3, a4⟩ := by rw [List.getD_eq_getElem?_getD, hq]; rfl
      replace hq := Lib.hid hq
      replace hm := Lib.hid hm
      replace hq' := Lib.hid hq'
      go_wp2_with fail
      have g2 := cell_regrown q2
      have g3 := cell_regrown q3
      have gx := HX.out.grown
      have r1 : (k : Int) < (n : Int) := by omega
      clear q0 q1 q2 q3 q4 kx
      have x1 : ∀ d os, Calls Try.prog 41 #[.agg #[.int .i64 nodes, .slice PA pn pc, .int .i64 noise, .int .i64 thr, .slice LA ln lc, .slice MA mn mc], .int .i64 a2] (grow (redrawn wr d) os) fun e w'' => e = .returned (.bool (isNode nodes a2)) ∧ ∃ p : Regrown, w'' = grow (redrawn wr p.d) p.os :=
        fun d os => Calls.regrown_of (rnode_any nodes a2 _ _ _ _ _ _)
      replace x1 := Lib.hid x1
      have x2 : ∀ d os, Calls Try.prog 41 #[.agg #[.int .i64 nodes, .slice PA pn pc, .int .i64 noise, .int .i64 thr, .slice LA ln lc, .slice MA mn mc], .int .i64 a3] (grow (redrawn wr d) os) fun e w'' => e = .returned (.bool (isNode nodes a3)) ∧ ∃ p : Regrown, w'' = grow (redrawn wr p.d) p.os :=
        fun d os => Calls.regrown_of (rnode_any nodes a3 _ _ _ _ _ _)
      replace x2 := Lib.hid x2
      cases m1 : isNode nodes a2 with
      | false =>
        rw [m1] at x1
        have HR : Hid (I = 0) := by
          show _ = _; rw [HI.out, if_neg (fun h => ?_)]
          rw [any_split (k := k) (by have := hlen.out; omega) (by rw [hq'.out]; unfold noneC; rw [m1]; rfl)] at h
          cases h.2.2.2.2
        replace m1 := Lib.hid m1
        refine wp_region_quiet_below (by kernel_rfl) (by kernel_rfl) ?_
        repeat (go_big_quiet_step (exact x1.out _ _))
        refine wpQuiet_nil ?_
        rintro _ ⟨⟨dq, osq⟩, rfl⟩
        have hb_ := below_regrown wr dq osq
        replace HX := Lib.hid (HX.out.keep hb_)
        replace HB := Lib.hid (HB.out.keep hb_)
        generalize grow (redrawn wr dq) osq = wq at *
        clear hb_
        clear gx g2 g3 r1
        go_wp2
        go_ret
        exact ⟨by rw [HR.out]; rfl, HB.out⟩
      | true =>
        rw [m1] at x1
        cases m2 : isNode nodes a3 with
        | false =>
          rw [m2] at x2
          have HR : Hid (I = 0) := by
            show _ = _; rw [HI.out, if_neg (fun h => ?_)]
            rw [any_split (k := k) (by have := hlen.out; omega) (by rw [hq'.out]; unfold noneC; rw [m2]; simp)] at h
            cases h.2.2.2.2
          replace m1 := Lib.hid m1
          replace m2 := Lib.hid m2
          refine wp_region_quiet_below (by kernel_rfl) (by kernel_rfl) ?_
          repeat (go_big_quiet_step (first | (with_reducible exact x1.out _ _) | (with_reducible exact x2.out _ _)))
          refine wpQuiet_nil ?_
          rintro _ ⟨⟨dq, osq⟩, rfl⟩
          have hb_ := below_regrown wr dq osq
          replace HX := Lib.hid (HX.out.keep hb_)
          replace HB := Lib.hid (HB.out.keep hb_)
          generalize grow (redrawn wr dq) osq = wq at *
          clear hb_
          clear gx g2 g3 r1
          go_wp2
          go_ret
          exact ⟨by rw [HR.out]; rfl, HB.out⟩
        | true =>
          rw [m2] at x2
          have HN : Hid (NoneTo nodes cs (k + 1)) := all_upto (p := noneC nodes) HP.out (by rw [hq'.out]; unfold noneC; rw [m1, m2]; rfl)
          replace m1 := Lib.hid m1
          replace m2 := Lib.hid m2
          refine wp_region_quiet_below (by kernel_rfl) (by kernel_rfl) ?_
          repeat (go_big_quiet_step (first | (with_reducible exact x1.out _ _) | (with_reducible exact x2.out _ _)))
          refine wpQuiet_nil ?_
          rintro _ ⟨⟨dq, osq⟩, rfl⟩
          have hb_ := below_regrown wr dq osq
          replace HX := Lib.hid (HX.out.keep hb_)
          replace HB := Lib.hid (HB.out.keep hb_)
          generalize grow (redrawn wr dq) osq = wq at *
          clear hb_
          clear gx g2 g3 r1
          go_wp2
          go_roundw
          case rel => exact ⟨k + 1, by omega, by go_num, HN, HB, HX⟩
          case measure => simp [intOf]; omega
    · have hall : cs.any (noneC nodes) = false := any_none (fun j hj => HP.out j (by have := hlen.out; omega))
      have HR : Hid (I = D nd) := by show _ = _; rw [HI.out, if_pos ⟨c0.out, c1, c2, c3.out, hall⟩]
      have HFc := Lib.hid (HF.out wr (hN.out.keep HB.out) (hs.out.keep HB.out) c0.out nd hnode.2 hall)
      replace hall := Lib.hid hall
      go_wp2_with fail
      refine HFc.out.mono ?_
      rintro e w4 ⟨rfl, hb⟩
      go_wp2
      go_ret
      exact ⟨by rw [HR.out]; rfl, bthen HB.out hb⟩
end Nt
end Go.Proofs.Ythibgpgjioepfaa
