/- The law Checks. -/
import Derived.Test.YtnkgmpmedkegbaaSw29
import Derived.Test.YtnkgmpmedkegbaaSw31
import Derived.Test.YtnkgmpmedkegbaaSw32
namespace Go.Proofs.Ytnkgmpmedkegbaa
open Go Go.RowKit Go.Sort
namespace Sw
open Mm
set_option maxRecDepth 100000 in
set_option maxHeartbeats 4000000 in
theorem checks_any (L O : Int) (A : Option Addr) (n cp : Nat) (cs : List Cel) (B : Option Addr) (m cq : Nat) (l : List Chg) (w : World) (h1 : CelS w A n cs) (h2 : ChgS w B m l) (ok1 : ∀ c ∈ cs, c.ok) (ok2 : ∀ x ∈ l, x.cell.ok) :
    Calls Try.prog 3 #[.agg #[.int .i64 L, .int .i64 O, .slice A n cp], .slice B m cq] w fun e w' => e = .returned (.bool true) ∧ Below w.heap.size w w' := by
  have hs1 := h1.small
  have hs2 := h2.small
  have hbw := ball w (.cells #[.int .i64 L, .int .i64 O, .slice A n cp] 24)
  have BX := Box.new w #[.int .i64 L, .int .i64 O, .slice A n cp] 24
  have cA := fun W => awake_any W
  have cF := fun W => few_any L O A n cp B m cq W hs1 hs2
  have cR := fun W (k1 : CelS W A n cs) (k2 : ChgS W B m l) => rcheck_any L O A n cp cs B m cq l W k1 k2
  have cP := fun W (k1 : CelS W A n cs) (k2 : ChgS W B m l) (hn : n ≤ 100000) (hm : m ≤ 100000) => cp_any L O A n cp cs B m cq l W k1 k2 hn hm
  have hfew : fewB n m = true → n ≤ 100000 ∧ m ≤ 100000 := by
    unfold fewB
    simp only [Bool.and_eq_true, Bool.or_eq_true, decide_eq_true_eq]
    omega
  generalize fewB n m = FW at *
  replace h1 := Lib.hid h1
  replace h2 := Lib.hid h2
  replace hbw := Lib.hid hbw
  replace BX := Lib.hid BX
  replace cA := Lib.hid cA
  replace cF := Lib.hid cF
  replace cR := Lib.hid cR
  replace cP := Lib.hid cP
  replace hs1 := Lib.hid hs1
  replace hs2 := Lib.hid hs2
  replace ok1 := Lib.hid ok1
  replace ok2 := Lib.hid ok2
  replace hfew := Lib.hid hfew
  go_enter Try.func3, Try.ntmps3
  go_wp2_with fail
  refine (cA.out _).mono ?_
  rintro e w1 ⟨rfl, hb_⟩
  replace hbw := Lib.hid (hbw.out.keep hb_)
  replace BX := Lib.hid (BX.out.keep hb_)
  clear hb_
  have kx := BX.out.at_
  go_wp2_with fail
  refine (cF.out _).mono ?_
  rintro e w2 ⟨rfl, hb_⟩
  clear kx
  replace hbw := Lib.hid (hbw.out.keep hb_)
  replace BX := Lib.hid (BX.out.keep hb_)
  clear hb_
  cases FW with
  | false =>
    go_wp2_with fail
    refine (cA.out _).mono ?_
    rintro e w3 ⟨rfl, hb_⟩
    replace hbw := Lib.hid (hbw.out.keep hb_)
    clear hb_
    go_wp2
    go_ret
    exact ⟨rfl, hbw.out⟩
  | true =>
    obtain ⟨hn, hm⟩ := hfew.out rfl
    have kx := BX.out.at_
    have cP2 := cP.out w2 (h1.out.keep hbw.out) (h2.out.keep hbw.out) hn hm
    replace cP2 := Lib.hid cP2
    go_wp2_with fail
    refine cP2.out.mono ?_
    rintro e w3 ⟨A2, c2, B2, d2, rfl, hc2, hg2, hb_⟩
    clear kx
    replace hbw := Lib.hid (hbw.out.keep hb_)
    replace BX := Lib.hid (BX.out.keep hb_)
    clear hb_
    have cR2 := fun W (h : Below w.heap.size w W) => cR.out W (h1.out.keep h) (h2.out.keep h)
    have cK := check_any L O A2 n c2 cs B2 m d2 l w3 hc2 hg2 ok1.out ok2.out
    generalize chkN L O cs l = R at *
    obtain ⟨r1, r2⟩ := R
    replace cK := Lib.hid cK
    replace hc2 := Lib.hid hc2
    replace hg2 := Lib.hid hg2
    replace cR2 := Lib.hid cR2
    go_wp2_with fail
    refine cK.out.mono ?_
    rintro e w4 ⟨rfl, hb_⟩
    replace hbw := Lib.hid (hbw.out.keep hb_)
    replace BX := Lib.hid (BX.out.keep hb_)
    clear hb_ cK hc2 hg2
    have kx := BX.out.at_
    have cR3 := cR2.out w4 hbw.out
    replace cR3 := Lib.hid cR3
    dsimp only
    go_wp2_with fail
    refine cR3.out.mono ?_
    rintro e w5 ⟨rfl, hb_⟩
    have hB := Lib.hid (bthen hbw.out hb_)
    clear hb_ kx
    dsimp only
    go_wp2
    go_ret
    exact ⟨by first | rfl | simp, hB.out⟩
theorem switchoverChecks_walk (L O : Int) (A : Option Addr) (n cp : Nat) (cs : List Cel) (B : Option Addr) (m cq : Nat) (l : List Chg) (w : World) (_ : (Lit.int .i64 L).wf = true) (_ : (Lit.int .i64 O).wf = true) (h1 : CelS w A n cs ∧ ∀ c ∈ cs, c.ok) (h2 : ChgS w B m l ∧ ∀ x ∈ l, I64 x.slot ∧ x.cell.ok) :
    Calls Try.prog 3 #[.agg #[.int .i64 L, .int .i64 O, .slice A n cp], .slice B m cq] w fun e w' => e = .returned (.bool true) ∧ Below w.heap.size w w' :=
  checks_any L O A n cp cs B m cq l w h1.1 h2.1 h1.2 (fun x hx => (h2.2 x hx).2)
end Sw
end Go.Proofs.Ytnkgmpmedkegbaa
