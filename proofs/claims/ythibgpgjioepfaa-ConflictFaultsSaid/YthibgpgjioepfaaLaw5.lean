/- the walk of ConflictFaults. -/
import Derived.Test.YthibgpgjioepfaaRef8
namespace Go.Proofs.Ythibgpgjioepfaa
open Go Go.RowKit Go.Sort
namespace Nt
open Mm
set_option maxRecDepth 100000 in
set_option maxHeartbeats 8000000 in
theorem ConflictFaults_any (N : Net) (v : NetV) (A : Option Addr) (n c : Nat) (cs : List Cel) (a b : Lnk) (w : World) (hN : NetIs w v N) (hs : CelS w A n cs) (ha : a.ok) (hb : b.ok) :
    Calls Try.prog 6 #[.agg #[.int .i64 N.nodes, .slice v.PA v.pn v.pc, .int .i64 N.noise, .int .i64 N.threshold, .slice v.LA v.ln v.lc, .slice v.MA v.mn v.mc], .slice A n c, .agg #[.int .i64 a.frm, .int .i64 a.to, .int .i64 a.loss], .agg #[.int .i64 b.frm, .int .i64 b.to, .int .i64 b.loss]] w fun e w' => e = .returned (.bool true) ∧ Below w.heap.size w w' := by
  have HF := fun W (h : NetIs W v N) => few_any N v W h
  have H1 := fun W (h : NetIs W v N) (h2 : CelS W A n cs) hn => First_any N v A n c cs W h h2 hn
  have H2 := fun W (h : NetIs W v N) (h2 : CelS W A n cs) hn => rFirst_any N v A n c cs W h h2 hn
  have H3 := fun W (h : NetIs W v N) (h2 : CelS W A n cs) hn => Good_any N v A n c cs W h h2 hn
  have H4 := fun W (h : NetIs W v N) (h2 : CelS W A n cs) hn => rGood_any N v A n c cs W h h2 hn
  have H5 := fun W (h : NetIs W v N) => Together_any N v a b W h ha hb
  have H6 := fun W (h : NetIs W v N) => rTogether_any N v a b W h ha hb
  have hns := hs.els.small
  unfold maxLen at hns
  generalize firstN N cs = FI at *
  generalize goodN N cs = G at *
  generalize togetherN N a b = T at *
  generalize fewN N = F at *
  obtain ⟨nodes, power, noise, thr, links, margin⟩ := N
  obtain ⟨PA, pn, pc, LA, ln, lc, MA, mn, mc⟩ := v
  obtain ⟨a0, a1, a2⟩ := a
  obtain ⟨b0, b1, b2⟩ := b
  dsimp only at *
  have hbw := ((below_alloc w (.cells #[.int .i64 nodes, .slice PA pn pc, .int .i64 noise, .int .i64 thr, .slice LA ln lc, .slice MA mn mc] 26)).alloc (by simp) (.cells #[.int .i64 a0, .int .i64 a1, .int .i64 a2] 44)).alloc (by simp; omega) (.cells #[.int .i64 b0, .int .i64 b1, .int .i64 b2] 44)
  have BX := ((Box.new w #[.int .i64 nodes, .slice PA pn pc, .int .i64 noise, .int .i64 thr, .slice LA ln lc, .slice MA mn mc] 26).alloc (.cells #[.int .i64 a0, .int .i64 a1, .int .i64 a2] 44)).alloc (.cells #[.int .i64 b0, .int .i64 b1, .int .i64 b2] 44)
  have BA := (Box.new (w.alloc (.cells #[.int .i64 nodes, .slice PA pn pc, .int .i64 noise, .int .i64 thr, .slice LA ln lc, .slice MA mn mc] 26)) #[.int .i64 a0, .int .i64 a1, .int .i64 a2] 44).alloc (.cells #[.int .i64 b0, .int .i64 b1, .int .i64 b2] 44)
  have BB := Box.new ((w.alloc (.cells #[.int .i64 nodes, .slice PA pn pc, .int .i64 noise, .int .i64 thr, .slice LA ln lc, .slice MA mn mc] 26)).alloc (.cells #[.int .i64 a0, .int .i64 a1, .int .i64 a2] 44)) #[.int .i64 b0, .int .i64 b1, .int .i64 b2] 44
  rw [show ((w.alloc (.cells #[.int .i64 nodes, .slice PA pn pc, .int .i64 noise, .int .i64 thr, .slice LA ln lc, .slice MA mn mc] 26)).alloc (.cells #[.int .i64 a0, .int .i64 a1, .int .i64 a2] 44)).heap.size = w.heap.size + 1 + 1 by simp] at BB
  rw [show (w.alloc (.cells #[.int .i64 nodes, .slice PA pn pc, .int .i64 noise, .int .i64 thr, .slice LA ln lc, .slice MA mn mc] 26)).heap.size = w.heap.size + 1 by simp] at BA
  replace HF := Lib.hid HF
  replace H1 := Lib.hid H1
  replace H2 := Lib.hid H2
  replace H3 := Lib.hid H3
  replace H4 := Lib.hid H4
  replace H5 := Lib.hid H5
  replace H6 := Lib.hid H6
  replace hN := Lib.hid hN
  replace hs := Lib.hid hs
  replace ha := Lib.hid ha
  replace hb := Lib.hid hb
  replace BX := Lib.hid BX
  replace BA := Lib.hid BA
  replace BB := Lib.hid BB
  replace hbw := Lib.hid hbw
  go_enter Try.func6, Try.ntmps6
  go_wp2_with fail
  generalize ((w.alloc (.cells #[.int .i64 nodes, .slice PA pn pc, .int .i64 noise, .int .i64 thr, .slice LA ln lc, .slice MA mn mc] 26)).alloc (.cells #[.int .i64 a0, .int .i64 a1, .int .i64 a2] 44)).alloc (.cells #[.int .i64 b0, .int .i64 b1, .int .i64 b2] 44) = w0 at *
  refine (awake_any _).mono ?_
  rintro e w1 ⟨rfl, hb_⟩
  replace BX := Lib.hid (BX.out.keep hb_)
  replace BA := Lib.hid (BA.out.keep hb_)
  replace BB := Lib.hid (BB.out.keep hb_)
  replace hbw := Lib.hid (hbw.out.keep hb_)
  clear hb_
  have kx := BX.out.at_
  have c1 := Lib.hid (HF.out _ (hN.out.keep hbw.out))
  go_wp2_with fail
  refine c1.out.mono ?_
  rintro e w2 ⟨rfl, hb_⟩
  clear kx c1
  replace BX := Lib.hid (BX.out.keep hb_)
  replace BA := Lib.hid (BA.out.keep hb_)
  replace BB := Lib.hid (BB.out.keep hb_)
  replace hbw := Lib.hid (hbw.out.keep hb_)
  clear hb_
  cases F with
  | false =>
    go_wp2
    go_ret
    exact ⟨rfl, hbw.out⟩
  | true =>
  by_cases hn10 : 10 < n
  · go_wp2
    go_ret
    exact ⟨rfl, hbw.out⟩
  have hn1 : n ≤ 100000 := by omega
  have hn2 : n ≤ 60 := by omega
  have kx := BX.out.at_
  have c1 := Lib.hid (H1.out _ (hN.out.keep hbw.out) (hs.out.keep hbw.out) hn1)
  go_wp2_with fail
  refine c1.out.mono ?_
  rintro e w3 ⟨rfl, hb_⟩
  clear kx c1
  replace BX := Lib.hid (BX.out.keep hb_)
  replace BA := Lib.hid (BA.out.keep hb_)
  replace BB := Lib.hid (BB.out.keep hb_)
  replace hbw := Lib.hid (hbw.out.keep hb_)
  clear hb_
  have kx := BX.out.at_
  have c1 := Lib.hid (H2.out _ (hN.out.keep hbw.out) (hs.out.keep hbw.out) hn2)
  rcases FI with _ | fi
  all_goals
    simp only [firstV] at c1 ⊢
    go_wp2_with fail
    refine c1.out.mono ?_
    rintro e w4 ⟨rfl, hb_⟩
    clear kx c1
    replace BX := Lib.hid (BX.out.keep hb_)
    replace BA := Lib.hid (BA.out.keep hb_)
    replace BB := Lib.hid (BB.out.keep hb_)
    replace hbw := Lib.hid (hbw.out.keep hb_)
    clear hb_
    have x1 : ∀ d os, Calls Try.prog 17 #[.agg #[.int .i64 nodes, .slice PA pn pc, .int .i64 noise, .int .i64 thr, .slice LA ln lc, .slice MA mn mc], .slice A n c] (grow (redrawn w4 d) os) fun e w'' => e = .returned (.bool G) ∧ ∃ p : Regrown, w'' = grow (redrawn w4 p.d) p.os :=
      fun d os => Calls.regrown_of (H3.out _ (hN.out.keep (hbw.out.keep (below_regrown w4 d os))) (hs.out.keep (hbw.out.keep (below_regrown w4 d os))) hn1)
    replace x1 := Lib.hid x1
    have x2 : ∀ d os, Calls Try.prog 22 #[.agg #[.int .i64 nodes, .slice PA pn pc, .int .i64 noise, .int .i64 thr, .slice LA ln lc, .slice MA mn mc], .slice A n c] (grow (redrawn w4 d) os) fun e w'' => e = .returned (.bool G) ∧ ∃ p : Regrown, w'' = grow (redrawn w4 p.d) p.os :=
      fun d os => Calls.regrown_of (H4.out _ (hN.out.keep (hbw.out.keep (below_regrown w4 d os))) (hs.out.keep (hbw.out.keep (below_regrown w4 d os))) hn2)
    replace x2 := Lib.hid x2
    have x3 : ∀ d os, Calls Try.prog 23 #[.agg #[.int .i64 nodes, .slice PA pn pc, .int .i64 noise, .int .i64 thr, .slice LA ln lc, .slice MA mn mc], .agg #[.int .i64 a0, .int .i64 a1, .int .i64 a2], .agg #[.int .i64 b0, .int .i64 b1, .int .i64 b2]] (grow (redrawn w4 d) os) fun e w'' => e = .returned (.bool T) ∧ ∃ p : Regrown, w'' = grow (redrawn w4 p.d) p.os :=
      fun d os => Calls.regrown_of (H5.out _ (hN.out.keep (hbw.out.keep (below_regrown w4 d os))))
    replace x3 := Lib.hid x3
    have x4 : ∀ d os, Calls Try.prog 24 #[.agg #[.int .i64 nodes, .slice PA pn pc, .int .i64 noise, .int .i64 thr, .slice LA ln lc, .slice MA mn mc], .agg #[.int .i64 a0, .int .i64 a1, .int .i64 a2], .agg #[.int .i64 b0, .int .i64 b1, .int .i64 b2]] (grow (redrawn w4 d) os) fun e w'' => e = .returned (.bool T) ∧ ∃ p : Regrown, w'' = grow (redrawn w4 p.d) p.os :=
      fun d os => Calls.regrown_of (H6.out _ (hN.out.keep (hbw.out.keep (below_regrown w4 d os))))
    replace x4 := Lib.hid x4
    have gx := BX.out.grown
    have ga := BA.out.grown
    have gb := BB.out.grown
    go_wp2_with fail
    have tt : (G == G) = true := by simp
    have tt2 : (T == T) = true := by simp
    refine wp_region_quiet_below (by kernel_rfl) (by kernel_rfl) ?_
    repeat (go_big_quiet_step (first | (with_reducible exact x1.out _ _) | (with_reducible exact x2.out _ _) | (with_reducible exact x3.out _ _) | (with_reducible exact x4.out _ _)))
    refine wpQuiet_nil ?_
    rintro _ ⟨⟨dq, osq⟩, rfl⟩
    have hb_ := below_regrown w4 dq osq
    replace hbw := Lib.hid (hbw.out.keep hb_)
    generalize grow (redrawn w4 dq) osq = w5 at *
    clear hb_
    clear gx ga gb
    go_wp2
    go_ret
    exact ⟨by simp, hbw.out⟩
theorem conflictFaults_walk (nodes : Int) (PA : Option Addr) (pn pc : Nat) (power : List (List Int)) (noise thr : Int) (LA : Option Addr) (ln lc : Nat) (links : List Lnk) (MA : Option Addr) (mn mc : Nat) (margin : List Int) (A : Option Addr) (n c : Nat) (cs : List Cel) (a0 a1 a2 b0 b1 b2 : Int) (w : World)
    (h1 : (Lit.int .i64 nodes).wf = true) (h2 : RowS w PA pn power) (h3 : (Lit.int .i64 noise).wf = true) (h4 : (Lit.int .i64 thr).wf = true) (h5 : LnkS w LA ln links) (h6 : IntS w MA mn margin) (h7 : CelS w A n cs)
    (k0 : (Lit.int .i64 a0).wf = true) (k1 : (Lit.int .i64 a1).wf = true) (k2 : (Lit.int .i64 a2).wf = true) (k3 : (Lit.int .i64 b0).wf = true) (k4 : (Lit.int .i64 b1).wf = true) (k5 : (Lit.int .i64 b2).wf = true) :
    Calls Try.prog 6 #[.agg #[.int .i64 nodes, .slice PA pn pc, .int .i64 noise, .int .i64 thr, .slice LA ln lc, .slice MA mn mc], .slice A n c, .agg #[.int .i64 a0, .int .i64 a1, .int .i64 a2], .agg #[.int .i64 b0, .int .i64 b1, .int .i64 b2]] w fun e w' => e = .returned (.bool true) ∧ Below w.heap.size w w' :=
  ConflictFaults_any ⟨nodes, power, noise, thr, links, margin⟩ ⟨PA, pn, pc, LA, ln, lc, MA, mn, mc⟩ A n c cs ⟨a0, a1, a2⟩ ⟨b0, b1, b2⟩ w (netIs_of h1 h2 h3 h4 h5 h6) h7 ⟨Op.i64_wf k0, Op.i64_wf k1, Op.i64_wf k2⟩ ⟨Op.i64_wf k3, Op.i64_wf k4, Op.i64_wf k5⟩
end Nt
end Go.Proofs.Ythibgpgjioepfaa
