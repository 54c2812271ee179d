/- network.checkPower, checkLink, Check. -/
import Derived.Test.YthibgpgjioepfaaNetSl
import Derived.Laws.EntriesVeiled
namespace Go.Proofs.Ythibgpgjioepfaa
open Go Go.RowKit Go.Sort
namespace Nt
theorem enter_p1 : ∀ (args : Array Value) (w : World), (callFunc 65 args).run Try.prog w = .ok (.enter 65 args) w := fun _ _ => by kernel_rfl
theorem enter_p2 : ∀ (args : Array Value) (w : World), (callFunc 66 args).run Try.prog w = .ok (.enter 66 args) w := fun _ _ => by kernel_rfl
theorem enter_p3 : ∀ (args : Array Value) (w : World), (callFunc 67 args).run Try.prog w = .ok (.enter 67 args) w := fun _ _ => by kernel_rfl
set_option maxHeartbeats 400000 in
theorem p1_any (N : Int) (p q r s t : Value) (A : Option Addr) (n c : Nat) (B : Nat) (w : World) (hB : Box w B #[.int .i64 N, p, q, r, s, t]) :
    Calls Try.prog 65 #[.slice A n c, .pointer (some ⟨B, 0, none⟩)] w fun e w' => e = .returned (.bool ((n : Int) != N)) ∧ Below w.heap.size w w' := by
  have hc := hB.at_
  replace hB := Lib.hid hB
  go_enter Try.func65, Try.ntmps65
  go_wp2
  go_ret
  exact ⟨rfl, Below.refl _ _⟩
def outP (x : Int) : Bool := decide (x < 0) || decide (68719476736 < x)
set_option maxHeartbeats 400000 in
theorem p2_any (x : Int) (w : World) :
    Calls Try.prog 66 #[.int .i64 x] w fun e w' => e = .returned (.bool (outP x)) ∧ Below w.heap.size w w' := by
  by_cases h : x < 0
  · have H : Hid (outP x = true) := by show _ = _; unfold outP; simp [h]
    go_enter Try.func66, Try.ntmps66
    go_wp2
    go_ret
    exact ⟨by rw [H.out]; rfl, Below.refl _ _⟩
  · have H : Hid (outP x = decide (68719476736 < x)) := by show _ = _; unfold outP; simp [h]
    go_enter Try.func66, Try.ntmps66
    go_wp2
    go_ret
    exact ⟨by rw [H.out]; rfl, Below.refl _ _⟩
set_option maxHeartbeats 400000 in
theorem p3_any (xs : List Int) (A : Option Addr) (n c : Nat) (B : Nat) (w : World) (hB : Box w B #[.func (.func 66) #[] #[]]) (hx : IntS w A n xs) :
    Calls Try.prog 67 #[.slice A n c, .pointer (some ⟨B, 0, none⟩)] w fun e w' => e = .returned (.bool (xs.any outP)) ∧ Below w.heap.size w w' := by
  have hc := hB.at_
  have H := containsI_any 66 enter_p2 outP A n c xs w hx (fun W _ x _ => p2_any x W)
  replace H := Lib.hid H
  replace hB := Lib.hid hB
  replace hx := Lib.hid hx
  go_enter Try.func67, Try.ntmps67
  go_wp2_with fail
  refine H.out.mono ?_
  rintro e w1 ⟨rfl, hb1⟩
  go_wp2
  go_ret
  exact ⟨rfl, hb1⟩
def badRow (n : Int) (xs : List Int) : Bool := ((xs.length : Int) != n)
def checkPower (N : Net) : Int :=
  if ((N.power.length : Int) != N.nodes) = true then 1 else if N.power.any (badRow N.nodes) = true then 1 else if N.power.any (fun xs => xs.any outP) = true then 2 else 0
set_option maxRecDepth 100000 in
set_option maxHeartbeats 1000000 in
theorem checkPower_any (N : Net) (v : NetV) (w : World) (hN : NetIs w v N) :
    Calls Try.prog 43 #[.agg #[.int .i64 N.nodes, .slice v.PA v.pn v.pc, .int .i64 N.noise, .int .i64 N.threshold, .slice v.LA v.ln v.lc, .slice v.MA v.mn v.mc]] w
      fun e w' => e = .returned (.int .i64 (checkPower N)) ∧ Below w.heap.size w w' := by
  obtain ⟨nodes, power, noise, thr, links, margin⟩ := N
  obtain ⟨PA, pn, pc, LA, ln, lc, MA, mn, mc⟩ := v
  have hlen := hN.power.len
  replace hN := Lib.hid hN
  dsimp only at hlen ⊢
  by_cases h1 : ((pn : Int) != nodes) = true
  · have HR : Hid (checkPower ⟨nodes, power, noise, thr, links, margin⟩ = 1) := by
      show _ = _; unfold checkPower; dsimp only; rw [hlen, if_pos h1]
    replace hlen := Lib.hid hlen
    go_enter Try.func43, Try.ntmps43
    go_wp2
    go_ret
    exact ⟨by rw [HR.out]; rfl, below_alloc _ _⟩
  · have h1' : ((pn : Int) != nodes) = false := by simpa using h1
    have HB0 := Box.new w #[.int .i64 nodes, .slice PA pn pc, .int .i64 noise, .int .i64 thr, .slice LA ln lc, .slice MA mn mc] 26
    have hbw := below_alloc w (.cells #[.int .i64 nodes, .slice PA pn pc, .int .i64 noise, .int .i64 thr, .slice LA ln lc, .slice MA mn mc] 26)
    have HC1 := fun W (hW : Below (w.alloc (.cells #[.int .i64 nodes, .slice PA pn pc, .int .i64 noise, .int .i64 thr, .slice LA ln lc, .slice MA mn mc] 26)).heap.size (w.alloc (.cells #[.int .i64 nodes, .slice PA pn pc, .int .i64 noise, .int .i64 thr, .slice LA ln lc, .slice MA mn mc] 26)) W) (xs : List Int) (RA : Option Addr) (rn rc : Nat) (_ : xs ∈ power) (hx : IntS W RA rn xs) =>
      (show Calls Try.prog 65 #[.slice RA rn rc, .pointer (some ⟨w.heap.size, 0, none⟩)] W fun e w' => e = .returned (.bool (badRow nodes xs)) ∧ Below W.heap.size W w' by
        have := p1_any nodes _ _ _ _ _ RA rn rc _ W (HB0.keep hW)
        unfold badRow; rw [hx.els.len]; exact this)
    have H1 := containsR_any 65 enter_p1 _ (badRow nodes) PA pn pc power _ (hN.out.power.keep hbw) HC1
    replace H1 := Lib.hid H1
    replace HB0 := Lib.hid HB0
    replace hbw := Lib.hid hbw
    clear HC1 h1
    replace hlen := Lib.hid hlen
    go_enter Try.func43, Try.ntmps43
    go_wp2_with fail
    refine H1.out.mono ?_
    rintro e w1 ⟨rfl, hb1⟩
    have HB1 := HB0.out.keep hb1
    have hb1' := Lib.hid (bthen hbw.out hb1)
    clear hb1
    by_cases h2 : power.any (badRow nodes) = true
    · rw [h2]
      have HR : Hid (checkPower ⟨nodes, power, noise, thr, links, margin⟩ = 1) := by
        show _ = _; unfold checkPower; dsimp only; rw [hlen.out, if_neg (by rw [h1']; decide), if_pos h2]
      clear h2
      go_wp2
      go_ret
      exact ⟨by rw [HR.out]; rfl, hb1'.out⟩
    · have h2' : power.any (badRow nodes) = false := by simpa using h2
      rw [h2']
      have hbx := HB1.at_
      replace HB1 := Lib.hid HB1
      have HB2 := Box.new w1 #[.func (.func 66) #[] #[]] 83
      have hbw2 := below_alloc w1 (.cells #[.func (.func 66) #[] #[]] 83)
      have H2 := containsR_any 67 enter_p3 _ (fun xs => xs.any outP) PA pn pc power _ ((hN.out.power.keep hb1'.out).keep hbw2) (fun W hW xs RA rn rc _ hx => p3_any xs RA rn rc _ W (HB2.keep hW) hx)
      replace H2 := Lib.hid H2
      replace HB2 := Lib.hid HB2
      replace hbw2 := Lib.hid hbw2
      replace h2 := Lib.hid h2
      replace h2' := Lib.hid h2'
      have hbx2 := (HB1.out.keep hbw2.out).at_
      go_wp2_with fail
      refine H2.out.mono ?_
      rintro e w2 ⟨rfl, hb2⟩
      by_cases h3 : power.any (fun xs => xs.any outP) = true
      · rw [h3]
        have HR : Hid (checkPower ⟨nodes, power, noise, thr, links, margin⟩ = 2) := by
          show _ = _; unfold checkPower; dsimp only; rw [hlen.out, if_neg (by rw [h1']; decide), if_neg (by rw [h2'.out]; decide), if_pos h3]
        clear h3
        go_wp2
        go_ret
        exact ⟨by rw [HR.out]; rfl, bthen (bthen hb1'.out hbw2.out) hb2⟩
      · have h3' : power.any (fun xs => xs.any outP) = false := by
          cases hq : power.any (fun xs => xs.any outP) with
          | true => exact absurd hq h3
          | false => rfl
        rw [h3']
        have HR : Hid (checkPower ⟨nodes, power, noise, thr, links, margin⟩ = 0) := by
          show _ = _; unfold checkPower; dsimp only; rw [hlen.out, if_neg (by rw [h1']; decide), if_neg (by rw [h2'.out]; decide), if_neg h3]
        replace h3 := Lib.hid h3
        replace h3' := Lib.hid h3'
        go_wp2
        go_ret
        exact ⟨by rw [HR.out]; rfl, bthen (bthen hb1'.out hbw2.out) hb2⟩
end Nt
end Go.Proofs.Ythibgpgjioepfaa
