/- the walk of ConflictSums. -/
import Derived.Test.YthibgpgjioepfaaLaw2
import Derived.Test.YthibgpgjioepfaaOpenN
namespace Go.Proofs.Ythibgpgjioepfaa
open Go Go.RowKit Go.Sort
namespace Nt
open Mm
theorem netIs_of {w : World} {nodes noise thr : Int} {PA LA MA : Option Addr} {pn pc ln lc mn mc : Nat} {power : List (List Int)} {links : List Lnk} {margin : List Int}
    (h1 : (Lit.int .i64 nodes).wf = true) (h2 : RowS w PA pn power) (h3 : (Lit.int .i64 noise).wf = true) (h4 : (Lit.int .i64 thr).wf = true) (h5 : LnkS w LA ln links) (h6 : IntS w MA mn margin) :
    NetIs w ⟨PA, pn, pc, LA, ln, lc, MA, mn, mc⟩ ⟨nodes, power, noise, thr, links, margin⟩ := ⟨h2, h5, h6, Op.i64_wf h1, Op.i64_wf h3, Op.i64_wf h4⟩
set_option maxRecDepth 100000 in
set_option maxHeartbeats 4000000 in
theorem ConflictSums_any (N : Net) (v : NetV) (A : Option Addr) (n c : Nat) (cs : List Cel) (i node : Int) (w : World) (hN : NetIs w v N) (hs : CelS w A n cs) :
    Calls Try.prog 3 #[.agg #[.int .i64 N.nodes, .slice v.PA v.pn v.pc, .int .i64 N.noise, .int .i64 N.threshold, .slice v.LA v.ln v.lc, .slice v.MA v.mn v.mc], .slice A n c, .int .i64 i, .int .i64 node] w fun e w' => e = .returned (.bool true) ∧ Below w.heap.size w w' := by
  have HF := fun W (h : NetIs W v N) => few_any N v W h
  have HD := fun W (h : NetIs W v N) (h2 : CelS W A n cs) hn => Disturbance_any N v A n c cs i node W h h2 hn
  have HR := fun W (h : NetIs W v N) (h2 : CelS W A n cs) hn => rDisturbance_any N v A n c cs i node W h h2 hn
  have hns := hs.els.small
  unfold maxLen at hns
  generalize distN N cs i node = D at *
  generalize fewN N = F at *
  obtain ⟨nodes, power, noise, thr, links, margin⟩ := N
  obtain ⟨PA, pn, pc, LA, ln, lc, MA, mn, mc⟩ := v
  dsimp only at *
  have hbw := below_alloc w (.cells #[.int .i64 nodes, .slice PA pn pc, .int .i64 noise, .int .i64 thr, .slice LA ln lc, .slice MA mn mc] 26)
  have BX := Box.new w #[.int .i64 nodes, .slice PA pn pc, .int .i64 noise, .int .i64 thr, .slice LA ln lc, .slice MA mn mc] 26
  replace HF := Lib.hid HF
  replace HD := Lib.hid HD
  replace HR := Lib.hid HR
  replace hN := Lib.hid hN
  replace hs := Lib.hid hs
  replace BX := Lib.hid BX
  replace hbw := Lib.hid hbw
  go_enter Try.func3, Try.ntmps3
  go_wp2_with fail
  refine (awake_any _).mono ?_
  rintro e w1 ⟨rfl, hb_⟩
  replace BX := Lib.hid (BX.out.keep hb_)
  replace hbw := Lib.hid (hbw.out.keep hb_)
  clear hb_
  have kx := BX.out.at_
  have HFc := Lib.hid (HF.out _ (hN.out.keep hbw.out))
  go_wp2_with fail
  refine HFc.out.mono ?_
  rintro e w2 ⟨rfl, hb⟩
  clear kx HFc
  replace BX := Lib.hid (BX.out.keep hb)
  replace hbw := Lib.hid (hbw.out.keep hb)
  clear hb
  cases F with
  | false => 
    go_wp2
    go_ret
    exact ⟨rfl, hbw.out⟩
  | true =>
    by_cases c1 : 10 < n
    · go_wp2
      go_ret
      exact ⟨rfl, hbw.out⟩
    · have hn : n ≤ 100000 := by omega
      have x1 : ∀ d os, Calls Try.prog 13 #[.agg #[.int .i64 nodes, .slice PA pn pc, .int .i64 noise, .int .i64 thr, .slice LA ln lc, .slice MA mn mc], .slice A n c, .int .i64 i, .int .i64 node] (grow (redrawn w2 d) os) fun e w'' => e = .returned (.int .i64 D) ∧ ∃ p : Regrown, w'' = grow (redrawn w2 p.d) p.os :=
        fun d os => Calls.regrown_of (HD.out _ (hN.out.keep (hbw.out.keep (below_regrown w2 d os))) (hs.out.keep (hbw.out.keep (below_regrown w2 d os))) hn)
      replace x1 := Lib.hid x1
      have x2 : ∀ d os, Calls Try.prog 14 #[.agg #[.int .i64 nodes, .slice PA pn pc, .int .i64 noise, .int .i64 thr, .slice LA ln lc, .slice MA mn mc], .slice A n c, .int .i64 i, .int .i64 node] (grow (redrawn w2 d) os) fun e w'' => e = .returned (.int .i64 D) ∧ ∃ p : Regrown, w'' = grow (redrawn w2 p.d) p.os :=
        fun d os => Calls.regrown_of (HR.out _ (hN.out.keep (hbw.out.keep (below_regrown w2 d os))) (hs.out.keep (hbw.out.keep (below_regrown w2 d os))) hn)
      replace x2 := Lib.hid x2
      have gx := BX.out.grown
      go_wp2_with fail
      refine wp_region_quiet_below (by kernel_rfl) (by kernel_rfl) ?_
      repeat (go_big_quiet_step (first | (with_reducible exact x1.out _ _) | (with_reducible exact x2.out _ _)))
      refine wpQuiet_nil ?_
      rintro _ ⟨⟨dq, osq⟩, rfl⟩
      have hb_ := below_regrown w2 dq osq
      replace hbw := Lib.hid (hbw.out.keep hb_)
      generalize grow (redrawn w2 dq) osq = w3 at *
      clear hb_
      clear gx
      go_wp2
      go_ret
      exact ⟨by simp, hbw.out⟩
theorem conflictSums_walk (nodes : Int) (PA : Option Addr) (pn pc : Nat) (power : List (List Int)) (noise thr : Int) (LA : Option Addr) (ln lc : Nat) (links : List Lnk) (MA : Option Addr) (mn mc : Nat) (margin : List Int) (A : Option Addr) (n c : Nat) (cs : List Cel) (i node : Int) (w : World)
    (h1 : (Lit.int .i64 nodes).wf = true) (h2 : RowS w PA pn power) (h3 : (Lit.int .i64 noise).wf = true) (h4 : (Lit.int .i64 thr).wf = true) (h5 : LnkS w LA ln links) (h6 : IntS w MA mn margin) (h7 : CelS w A n cs) (_ : (Lit.int .i64 i).wf = true) (_ : (Lit.int .i64 node).wf = true) :
    Calls Try.prog 3 #[.agg #[.int .i64 nodes, .slice PA pn pc, .int .i64 noise, .int .i64 thr, .slice LA ln lc, .slice MA mn mc], .slice A n c, .int .i64 i, .int .i64 node] w fun e w' => e = .returned (.bool true) ∧ Below w.heap.size w w' :=
  ConflictSums_any ⟨nodes, power, noise, thr, links, margin⟩ ⟨PA, pn, pc, LA, ln, lc, MA, mn, mc⟩ A n c cs i node w (netIs_of h1 h2 h3 h4 h5 h6) h7
end Nt
end Go.Proofs.Ythibgpgjioepfaa
