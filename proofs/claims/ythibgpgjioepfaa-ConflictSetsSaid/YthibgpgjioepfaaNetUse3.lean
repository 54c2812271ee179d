/- network.usable, Usable. -/
import Derived.Test.YthibgpgjioepfaaNetUse2
namespace Go.Proofs.Ythibgpgjioepfaa
open Go Go.RowKit Go.Sort
namespace Nt
theorem usableV_eq (N : Net) (i : Nat) (l : Lnk) (hl : N.links.getD i default = l) (b : Int) (hb : findL N.links l.to l.frm = b) :
    usableV N i = (decide (0 ≤ b) && heardB N.threshold N.noise (N.margin.getD i 0) 0 && heardB N.threshold N.noise (N.margin.getD b.toNat 0) 0) := by
  unfold usableV; dsimp only; rw [hl, hb]
set_option maxRecDepth 100000 in
set_option maxHeartbeats 2000000 in
theorem usable_any (N : Net) (v : NetV) (i : Nat) (w : World) (hN : NetIs w v N) (hc : check N = 0) (hi : i < N.links.length) :
    Calls Try.prog 51 #[.agg #[.int .i64 N.nodes, .slice v.PA v.pn v.pc, .int .i64 N.noise, .int .i64 N.threshold, .slice v.LA v.ln v.lc, .slice v.MA v.mn v.mc], .int .i64 (i : Int)] w
      fun e w' => e = .returned (.bool (usableV N i)) ∧ Below w.heap.size w w' := by
  have HK := noise_ok (check_zero hc).2.2.2.1
  have hml := (check_zero hc).2.2.2.2.2.1
  have hll := (check_zero hc).2.2.2.2.1
  have HMi := margin_bd hc hi
  have HMb := fun b (hb : b < N.links.length) => margin_bd hc hb
  have HA := check_asc hc
  have HU := fun l hl b hb => usableV_eq N i l hl b hb
  replace HMb := Lib.hid HMb
  replace HA := Lib.hid HA
  replace HU := Lib.hid HU
  clear hc
  generalize usableV N i = U at *
  obtain ⟨nodes, power, noise, thr, links, margin⟩ := N
  obtain ⟨PA, pn, pc, LA, ln, lc, MA, mn, mc⟩ := v
  dsimp only at *
  have hln := hN.links.els.len
  have hmn := hN.margin.els.len
  dsimp only at hln hmn
  obtain ⟨lb, lo, rfl⟩ := hN.links.els.addr (by show 0 < ln; omega)
  obtain ⟨mb, mo, rfl⟩ := hN.margin.els.addr (by show 0 < mn; omega)
  have hil : i < ln := by omega
  have him : i < mn := by omega
  obtain ⟨⟨f, t, loss⟩, hl, hlm, l0, l1, l2⟩ := hN.links.elem hil
  obtain ⟨m, hm0, _, m0⟩ := hN.margin.elem him
  dsimp only at l0 l1 l2 hl hm0 m0
  have hl' : links.getD i default = ⟨f, t, loss⟩ := by rw [List.getD_eq_getElem?_getD, hl]; rfl
  have hm' : margin.getD i 0 = m := by rw [List.getD_eq_getElem?_getD, hm0]; rfl
  rw [hm'] at HMi
  have HUU := HU.out _ hl' (findL links t f) rfl
  have hFb := idx_lt (fun l : Lnk => l.frm == t && l.to == f) links
  rw [show idx (fun l : Lnk => l.frm == t && l.to == f) links = findL links t f from rfl] at hFb
  rw [hm'] at HUU
  replace HUU := Lib.hid HUU
  have hFb1 : findL links t f < (ln : Int) := by omega
  have hFb2 := hFb.2
  clear hFb
  have hsz : links.length ≤ 1000 := by omega
  have N1 := Lib.hid (hN.keep (below_alloc w (.cells #[.int .i64 nodes, .slice PA pn pc, .int .i64 noise, .int .i64 thr, .slice (some ⟨lb, lo, none⟩) ln lc, .slice (some ⟨mb, mo, none⟩) mn mc] 26)))
  have b0 := all_below (below_alloc w (.cells #[.int .i64 nodes, .slice PA pn pc, .int .i64 noise, .int .i64 thr, .slice (some ⟨lb, lo, none⟩) ln lc, .slice (some ⟨mb, mo, none⟩) mn mc] 26)) (hN.links.els.cell (by show 0 < ln; omega)).1 l0
  have b1 := all_below (below_alloc w (.cells #[.int .i64 nodes, .slice PA pn pc, .int .i64 noise, .int .i64 thr, .slice (some ⟨lb, lo, none⟩) ln lc, .slice (some ⟨mb, mo, none⟩) mn mc] 26)) (hN.links.els.cell (by show 0 < ln; omega)).1 l1
  have b2 := all_below (below_alloc w (.cells #[.int .i64 nodes, .slice PA pn pc, .int .i64 noise, .int .i64 thr, .slice (some ⟨lb, lo, none⟩) ln lc, .slice (some ⟨mb, mo, none⟩) mn mc] 26)) (hN.margin.els.cell (by show 0 < mn; omega)).1 m0
  have BX := Box.new w #[.int .i64 nodes, .slice PA pn pc, .int .i64 noise, .int .i64 thr, .slice (some ⟨lb, lo, none⟩) ln lc, .slice (some ⟨mb, mo, none⟩) mn mc] 26
  have hbw := below_alloc w (.cells #[.int .i64 nodes, .slice PA pn pc, .int .i64 noise, .int .i64 thr, .slice (some ⟨lb, lo, none⟩) ln lc, .slice (some ⟨mb, mo, none⟩) mn mc] 26)
  clear l0 l1 l2 m0
  replace hl := Lib.hid hl
  replace hl' := Lib.hid hl'
  replace hm0 := Lib.hid hm0
  replace hm' := Lib.hid hm'
  replace hlm := Lib.hid hlm
  replace hN := Lib.hid hN
  replace BX := Lib.hid BX
  replace hbw := Lib.hid hbw
  replace hln := Lib.hid hln
  replace hmn := Lib.hid hmn
  replace hml := Lib.hid hml
  have r1 : (i : Int) < (ln : Int) := by omega
  have r2 : (i : Int) < (mn : Int) := by omega
  replace b0 := Lib.hid b0
  replace b1 := Lib.hid b1
  replace b2 := Lib.hid b2
  replace HK := Lib.hid HK
  go_enter Try.func51, Try.ntmps51
  go_wp2_with fail
  generalize w.alloc (.cells #[.int .i64 nodes, .slice PA pn pc, .int .i64 noise, .int .i64 thr, .slice (some ⟨lb, lo, none⟩) ln lc, .slice (some ⟨mb, mo, none⟩) mn mc] 26) = w1 at *
  have g0 := cell_regrown b0.out
  have g1 := cell_regrown b1.out
  have gx := BX.out.grown
  have cs : ∀ d os, Calls Try.prog 45 #[.agg #[.int .i64 nodes, .slice PA pn pc, .int .i64 noise, .int .i64 thr, .slice (some ⟨lb, lo, none⟩) ln lc, .slice (some ⟨mb, mo, none⟩) mn mc], .int .i64 t, .int .i64 f] (grow (redrawn w1 d) os) fun e w'' => e = .returned (.int .i64 (findL links t f)) ∧ ∃ p : Regrown, w'' = grow (redrawn w1 p.d) p.os :=
    fun d os => Calls.regrown_of (find_any ⟨nodes, power, noise, thr, links, margin⟩ ⟨PA, pn, pc, some ⟨lb, lo, none⟩, ln, lc, some ⟨mb, mo, none⟩, mn, mc⟩ t f _ (N1.out.keep (below_regrown w1 d os)) HA.out hsz)
  replace cs := Lib.hid cs
  refine wp_region_quiet_below (by kernel_rfl) (by kernel_rfl) ?_
  repeat (go_big_quiet_step (exact cs.out _ _))
  refine wpQuiet_nil ?_
  rintro _ ⟨⟨dq, osq⟩, rfl⟩
  have BX2 := Lib.hid (BX.out.keep (below_regrown w1 dq osq))
  have hbw2 := Lib.hid (bthen hbw.out (below_regrown w1 dq osq))
  have N2 := Lib.hid (N1.out.keep (below_regrown w1 dq osq))
  have b2' := Lib.hid (cell_regrown b2.out dq osq)
  generalize grow (redrawn w1 dq) osq = w2 at *
  clear g0 g1 gx BX hbw N1 b0 b1 b2 cs
  generalize findL links t f = FL at *
  go_wp2_with fail
  have gx := BX2.out.grown
  have g2 := cell_regrown b2'.out
  by_cases c1 : 0 ≤ FL
  case neg =>
    have d1 : decide (0 ≤ FL) = false := by rw [decide_eq_false_iff_not]; exact c1
    have HR : Hid (U = false) := by show _ = _; rw [HUU.out, d1]; rfl
    refine wp_region_quiet_below (by kernel_rfl) (by kernel_rfl) ?_
    repeat (go_big_quiet_step (fail))
    refine wpQuiet_nil ?_
    rintro _ ⟨⟨dq, osq⟩, rfl⟩
    have hbw3 := Lib.hid (bthen hbw2.out (below_regrown w2 dq osq))
    clear gx g2 d1
    go_wp2
    go_ret
    exact ⟨by rw [HR.out]; rfl, hbw3.out⟩
  obtain ⟨b, rfl⟩ := Int.eq_ofNat_of_zero_le c1
  have d1 : decide ((0 : Int) ≤ (b : Int)) = true := by simp
  have hbm : b < mn := by have := hml.out; have := hmn.out; have := hln.out; omega
  have hbl : b < links.length := by have := hln.out; omega
  obtain ⟨mm, hmm0, _, mm0⟩ := N2.out.margin.elem (k := b) hbm
  dsimp only at hmm0 mm0
  have hmm' : margin.getD b 0 = mm := by rw [List.getD_eq_getElem?_getD, hmm0]; rfl
  have HMM := HMb.out b hbl
  rw [hmm'] at HMM
  have HR : U = (heardB thr noise m 0 && heardB thr noise mm 0) := by rw [HUU.out, d1, Int.toNat_natCast, hmm']; rfl
  have g3 := cell_regrown mm0
  have r3 : (b : Int) < (mn : Int) := by omega
  clear mm0 hmm0 hmm'
  replace HR := Lib.hid HR
  have cs1 : ∀ d os, Calls Try.prog 46 #[.agg #[.int .i64 nodes, .slice PA pn pc, .int .i64 noise, .int .i64 thr, .slice (some ⟨lb, lo, none⟩) ln lc, .slice (some ⟨mb, mo, none⟩) mn mc], .int .i64 m, .int .i64 0] (grow (redrawn w2 d) os) fun e w'' => e = .returned (.bool (heardB thr noise m 0)) ∧ ∃ p : Regrown, w'' = grow (redrawn w2 p.d) p.os :=
    fun d os => Calls.regrown_of (hears_any nodes noise thr m 0 _ _ _ _ HK.out.1 (by have := HK.out.2; omega) (by omega) (by omega))
  have cs2 : ∀ d os, Calls Try.prog 46 #[.agg #[.int .i64 nodes, .slice PA pn pc, .int .i64 noise, .int .i64 thr, .slice (some ⟨lb, lo, none⟩) ln lc, .slice (some ⟨mb, mo, none⟩) mn mc], .int .i64 mm, .int .i64 0] (grow (redrawn w2 d) os) fun e w'' => e = .returned (.bool (heardB thr noise mm 0)) ∧ ∃ p : Regrown, w'' = grow (redrawn w2 p.d) p.os :=
    fun d os => Calls.regrown_of (hears_any nodes noise thr mm 0 _ _ _ _ HK.out.1 (by have := HK.out.2; omega) (by omega) (by omega))
  replace cs1 := Lib.hid cs1
  replace cs2 := Lib.hid cs2
  cases hh : heardB thr noise m 0 with
  | false =>
    rw [hh] at cs1 HR
    replace HR : Hid (U = false) := by show _ = _; rw [HR.out]; rfl
    replace hh := Lib.hid hh
    refine wp_region_quiet_below (by kernel_rfl) (by kernel_rfl) ?_
    repeat (go_big_quiet_step (exact cs1.out _ _))
    refine wpQuiet_nil ?_
    rintro _ ⟨⟨dq, osq⟩, rfl⟩
    have hbw3 := Lib.hid (bthen hbw2.out (below_regrown w2 dq osq))
    clear gx g2 g3 d1
    go_wp2
    go_ret
    exact ⟨by rw [HR.out]; rfl, hbw3.out⟩
  | true =>
    rw [hh] at cs1 HR
    replace HR : Hid (U = heardB thr noise mm 0) := by show _ = _; rw [HR.out]; rfl
    replace hh := Lib.hid hh
    refine wp_region_quiet_below (by kernel_rfl) (by kernel_rfl) ?_
    repeat (go_big_quiet_step (first | (with_reducible exact cs1.out _ _) | (with_reducible exact cs2.out _ _)))
    refine wpQuiet_nil ?_
    rintro _ ⟨⟨dq, osq⟩, rfl⟩
    have hbw3 := Lib.hid (bthen hbw2.out (below_regrown w2 dq osq))
    clear gx g2 g3 d1
    go_wp2
    go_ret
    exact ⟨by rw [HR.out]; rfl, hbw3.out⟩
end Nt
end Go.Proofs.Ythibgpgjioepfaa
