/- CompressBest, walked. -/
import Derived.Test.YtgdkehnakopnnaaCpB4
import Derived.Test.YtgdkehnakopnnaaCpB5
import Derived.Test.YtgdkehnakopnnaaCpB6
namespace Go.Proofs.Ytgdkehnakopnnaa
open Go Go.RowKit Go.Sort Go.Shelf
namespace Cp
open Mm
def IsNil (A : Option Addr) (n : Nat) (ps : List ByteArray) (w : World) : Prop := CtxS w A n ps
/-- both answers, read as lists -/
theorem both_any (A B : Option Addr) (n c c2 : Nat) (hs : List Hdr) (most : Int) (w : World) (h1 : HdrS w A n hs) (hn : n ≤ 20) :
    Calls Try.prog 29 #[.slice A n c, .int .i64 most] w fun e w' => ∃ A' n' c' ps, e = .returned (.slice A' n' c') ∧ n' ≤ 1000 ∧ CtxS w' A' n' ps ∧ Below w.heap.size w w' ∧
      ∀ W, HdrS W B n hs → Calls Try.prog 31 #[.slice B n c2, .int .i64 most] W fun e W' => ∃ A2 c3, e = .returned (.slice A2 n' c3) ∧ CtxS W' A2 n' ps ∧ Below W.heap.size W W' := by
  by_cases hm : 1 ≤ most ∧ most ≤ 8
  · refine (best_some A n c hs most w sortC_holds h1 hn hm.1 hm.2).mono ?_
    rintro e w' ⟨A', n', c', L, rfl, hR, hC, hB⟩
    have hl : n' = ((L.take most.toNat).map fun x => (⟨x.toArray⟩ : ByteArray)).length := hC.els.len.symm
    refine ⟨A', n', c', _, rfl, by rw [hl, List.length_map, List.length_take]; omega, hC, hB, fun W hW => ?_⟩
    refine (rbest_some B n c2 hs most L W hR hW hn hm.1 hm.2).mono ?_
    rintro e W' ⟨A2, n2, c3, rfl, hC2, hB2⟩
    obtain rfl : n2 = n' := by rw [hl, ← hC2.els.len]
    exact ⟨A2, c3, rfl, hC2, hB2⟩
  · refine (best_none A n c most w hm).mono ?_
    rintro e w' ⟨rfl, hB⟩
    refine ⟨none, 0, 0, [], rfl, by omega, ⟨⟨rfl, by omega, fun h => by omega⟩, fun p hp => by cases hp⟩, hB, fun W hW => ?_⟩
    refine (rbest_none B n c2 most W hm).mono ?_
    rintro e W' ⟨A2, c3, rfl, hB2⟩
    exact ⟨A2, c3, rfl, ⟨⟨rfl, by omega, fun h => by omega⟩, fun p hp => by cases hp⟩, hB2⟩
set_option maxRecDepth 100000 in
set_option maxHeartbeats 8000000 in
theorem compressBest_walk (A : Option Addr) (n c : Nat) (hs : List Hdr) (most : Int) (w : World) (hH : HdrS w A n hs) (_ : (Lit.int .i64 most).wf = true) :
    Calls Try.prog 9 #[.slice A n c, .int .i64 most] w fun e w' => e = .returned (.bool true) ∧ Below w.heap.size w w' := by
  have ca := Lib.hid (awake_any w)
  have hlen := hH.els.len
  have hsm := hH.els.small
  unfold maxLen at hsm
  have cf := Lib.hid (fun W (hb : Below w.heap.size w W) => containsFuncH_any 27 (fun h => !short h) A n c hs W (enters_of Try.func27 (by kernel_rfl) rfl) notShort_any (hH.keep hb))
  generalize (hs.any fun h => !short h) = F at *
  replace hH := Lib.hid hH
  replace hlen := Lib.hid hlen
  go_enter Try.func9, Try.ntmps9
  go_wp2_with fail
  refine ca.out.mono ?_
  rintro e w1 ⟨rfl, hb⟩
  have HB1 := Lib.hid hb
  have cf1 := Lib.hid (cf.out w1 hb)
  clear ca cf hb
  by_cases hn : n ≤ 20
  · have hn' : decide ((20 : Int) < (n : Int)) = false := by rw [decide_eq_false_iff_not]; omega
    have hn'' : ¬ (20 : Int) < (n : Int) := by omega
    go_wp2_with fail
    refine cf1.out.mono ?_
    rintro e w2 ⟨rfl, hb⟩
    have HB2 := Lib.hid (bthen HB1.out hb)
    clear cf1 HB1 hb
    cases F with
    | true =>
      go_wp2_with fail
      go_ret
      exact ⟨rfl, HB2.out⟩
    | false =>
      have cc := Lib.hid (cloneH_any A n c hs w2 (hH.out.keep HB2.out) (by omega))
      go_wp2_with fail
      refine cc.out.mono ?_
      rintro e w3 ⟨A1, c1, rfl, hC1, hb⟩
      have HB3 := Lib.hid (bthen HB2.out hb)
      have cB := Lib.hid (both_any A1 A n c1 c hs most w3 hC1 hn)
      clear cc HB2 hb hC1
      go_wp2_with fail
      refine cB.out.mono ?_
      rintro e w4 ⟨A2, n2, c2, ps, rfl, hn2, hP, hb, hR⟩
      have HB4 := Lib.hid (bthen HB3.out hb)
      have cR := Lib.hid (hR w4 (hH.out.keep HB4.out))
      replace hP := Lib.hid hP
      clear cB HB3 hb hR
      go_wp2_with fail
      refine cR.out.mono ?_
      rintro e w5 ⟨A3, c3, rfl, hP2, hb⟩
      have HB5 := Lib.hid (bthen HB4.out hb)
      have cE := Lib.hid (equal_any A2 A3 n2 c2 c3 ps w5 (hP.out.keep hb) hP2 hn2)
      clear cR HB4 hb hP2 hP
      go_wp2_with fail
      refine cE.out.mono ?_
      rintro e w6 ⟨rfl, hb⟩
      have HB6 := Lib.hid (bthen HB5.out hb)
      clear cE HB5 hb
      go_wp2_with fail
      go_ret
      exact ⟨rfl, HB6.out⟩
  · have hn' : decide ((20 : Int) < (n : Int)) = true := by rw [decide_eq_true_eq]; omega
    have hn'' : (20 : Int) < (n : Int) := by omega
    go_wp2_with fail
    go_ret
    exact ⟨rfl, HB1.out⟩
end Cp
end Go.Proofs.Ytgdkehnakopnnaa
