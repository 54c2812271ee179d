/- the closure of conflict.faulty. -/
import Derived.Test.YthibgpgjioepfaaCfl3
namespace Go.Proofs.Ythibgpgjioepfaa
open Go Go.RowKit Go.Sort
namespace Nt
set_option maxRecDepth 100000 in
set_option maxHeartbeats 2000000 in
theorem heard_any (N : Net) (v : NetV) (A : Option Addr) (n c : Nat) (cs : List Cel) (i : Int) (k nd : Nat) (B0 B1 B2 : Nat) (w : World) (hN : NetIs w v N) (hs : CelS w A n cs) (hn : n ≤ 100000)
    (hc : check N = 0) (hk : k < N.links.length) (hnd : (nd : Int) < N.nodes) (h0 : Box w B0 #[.int .i64 N.nodes, .slice v.PA v.pn v.pc, .int .i64 N.noise, .int .i64 N.threshold, .slice v.LA v.ln v.lc, .slice v.MA v.mn v.mc]) (h1 : Box w B1 #[.slice A n c]) (h2 : Box w B2 #[.int .i64 i]) :
    Calls Try.prog 73 #[.int .i64 (k : Int), .int .i64 (nd : Int), .pointer (some ⟨B0, 0, none⟩), .pointer (some ⟨B1, 0, none⟩), .pointer (some ⟨B2, 0, none⟩)] w
      fun e w' => e = .returned (.bool (hearsN N (N.margin.getD k 0) (dist N cs i (nd : Int)))) ∧ Below w.heap.size w w' := by
  have hml := (check_zero hc).2.2.2.2.2.1
  have hmn := hN.margin.els.len
  obtain ⟨mb, mo, hA⟩ := hN.margin.els.addr (by omega)
  have hkm : k < v.mn := by omega
  rw [hA] at h0
  have hMA : IntS w (some ⟨mb, mo, none⟩) v.mn N.margin := by rw [← hA]; exact hN.margin
  obtain ⟨m, hm0, _, m0⟩ := hMA.elem hkm
  have hm' : N.margin.getD k 0 = m := by rw [List.getD_eq_getElem?_getD, hm0]; rfl
  rw [hm']
  have cs1 : ∀ d os, Calls Try.prog 39 #[.agg #[.int .i64 N.nodes, .slice v.PA v.pn v.pc, .int .i64 N.noise, .int .i64 N.threshold, .slice v.LA v.ln v.lc, .slice (some ⟨mb, mo, none⟩) v.mn v.mc], .slice A n c, .int .i64 i, .int .i64 (nd : Int)] (grow (redrawn w d) os) fun e w'' => e = .returned (.int .i64 (dist N cs i (nd : Int))) ∧ ∃ p : Regrown, w'' = grow (redrawn w p.d) p.os :=
    fun d os => Calls.regrown_of (by
      have := dist_any N v A n c cs i nd _ (hN.keep (below_regrown w d os)) (hs.keep (below_regrown w d os)) (check_zero hc).2.1 (check_zero hc).2.2.1 hnd hn
      rwa [hA] at this)
  have cs2 : ∀ d os, Calls Try.prog 18 #[.agg #[.int .i64 N.nodes, .slice v.PA v.pn v.pc, .int .i64 N.noise, .int .i64 N.threshold, .slice v.LA v.ln v.lc, .slice (some ⟨mb, mo, none⟩) v.mn v.mc], .int .i64 m, .int .i64 (dist N cs i (nd : Int))] (grow (redrawn w d) os) fun e w'' => e = .returned (.bool (hearsN N m (dist N cs i (nd : Int)))) ∧ ∃ p : Regrown, w'' = grow (redrawn w p.d) p.os :=
    fun d os => Calls.regrown_of (by
      have := Hears_any N v m (dist N cs i (nd : Int)) _ (hN.keep (below_regrown w d os))
      rwa [hA] at this)
  have g0 := h0.grown
  have g1 := h1.grown
  have g2 := h2.grown
  have g3 := cell_regrown m0
  clear hN hc hMA hA h0 h1 h2 m0 hs
  generalize dist N cs i (nd : Int) = D at *
  generalize hearsN N m D = H at *
  replace cs1 := Lib.hid cs1
  replace cs2 := Lib.hid cs2
  replace hm0 := Lib.hid hm0
  replace hm' := Lib.hid hm'
  replace hmn := Lib.hid hmn
  replace hml := Lib.hid hml
  have r1 : (k : Int) < (v.mn : Int) := by omega
  obtain ⟨nodes, power, noise, thr, links, margin⟩ := N
  obtain ⟨PA, pn, pc, LA, ln, lc, MA, mn, mc⟩ := v
  dsimp only at *
  go_enter Try.func73, Try.ntmps73
  go_wp2_with fail
  refine wp_region_quiet_below (by kernel_rfl) (by kernel_rfl) ?_
  repeat (go_big_quiet_step (first | (with_reducible exact cs1.out _ _) | (with_reducible exact cs2.out _ _)))
  refine wpQuiet_nil ?_
  rintro _ ⟨⟨dq, osq⟩, rfl⟩
  clear g0 g1 g2 g3
  go_wp2
  go_ret
  exact ⟨rfl, below_regrown w dq osq⟩
end Nt
end Go.Proofs.Ythibgpgjioepfaa
