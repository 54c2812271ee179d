/- formed. -/
import Derived.Test.YtnkgmpmedkegbaaSw3
import Derived.Lib.QuietBelow
import Derived.BigQuiet
import Derived.IntWalk
namespace Go.Proofs.Ytnkgmpmedkegbaa
open Go Go.RowKit Go.Sort
namespace Sw
open Mm
theorem _root_.Go.RowKit.Below.keep {a w w' : World} (h : Below a.heap.size a w) (k : Below w.heap.size w w') : Below a.heap.size a w' := bthen h k
/-- the cell at an index is one of the schedule, and behind the one before -/
def adjB (L O : Int) (xs : List Cel) (i : Nat) : Bool := cellOk L O (xs.getD i default) && (decide (i = 0) || decide (cmpC (xs.getD (i - 1) default) (xs.getD i default) < 0))
def headB (L O : Int) (n : Nat) : Bool := decide (1 ≤ L) && decide (L ≤ 512) && decide (1 ≤ O) && decide (O ≤ 16) && decide (n ≤ 512)
def formedB (L O : Int) (xs : List Cel) : Bool := headB L O xs.length && (List.range xs.length).all (adjB L O xs)
theorem all_range_false {p : Nat → Bool} {n k : Nat} (hk : k < n) (h : p k = false) : (List.range n).all p = false := by
  rw [← Bool.not_eq_true, List.all_eq_true]
  intro h2
  rw [h2 k (List.mem_range.2 hk)] at h
  cases h
theorem all_range_true {p : Nat → Bool} {n : Nat} (h : ∀ k, k < n → p k = true) : (List.range n).all p = true := by
  rw [List.all_eq_true]
  intro k hk
  exact h k (List.mem_range.1 hk)
theorem compare_below (a b : Cel) (w : World) :
    Calls Try.prog 42 #[.agg #[.int .i64 a.slot, .int .i64 a.offset, .int .i64 a.frm, .int .i64 a.to, .int .i64 a.flow], .agg #[.int .i64 b.slot, .int .i64 b.offset, .int .i64 b.frm, .int .i64 b.to, .int .i64 b.flow]] w fun e w' => e = .returned (.int .i64 (cmpC a b)) ∧ Below w.heap.size w w' :=
  (compare_any a b w).mono fun _ _ h => ⟨h.1, h.2.below⟩
set_option maxRecDepth 100000 in
set_option maxHeartbeats 1000000 in
theorem formed_any (L O : Int) (A : Option Addr) (n cp : Nat) (xs : List Cel) (w : World) (h : CelS w A n xs) :
    Calls Try.prog 32 #[.agg #[.int .i64 L, .int .i64 O, .slice A n cp]] w fun e w' => e = .returned (.bool (formedB L O xs)) ∧ Below w.heap.size w w' := by
  have hlen := h.len
  have hs := h.small
  unfold maxLen at hs
  have hbw := ball w (.cells #[.int .i64 L, .int .i64 O, .slice A n cp] 24)
  have BX := Box.new w #[.int .i64 L, .int .i64 O, .slice A n cp] 24
  have hR : formedB L O xs = (headB L O n && (List.range n).all (adjB L O xs)) := by unfold formedB; rw [hlen]
  generalize formedB L O xs = R at *
  have hH : (headB L O n = false ∧ (L < 1 ∨ (1 ≤ L ∧ 512 < L) ∨ (1 ≤ L ∧ L ≤ 512 ∧ O < 1) ∨ (1 ≤ L ∧ L ≤ 512 ∧ 1 ≤ O ∧ 16 < O) ∨ (1 ≤ L ∧ L ≤ 512 ∧ 1 ≤ O ∧ O ≤ 16 ∧ 512 < n))) ∨ (headB L O n = true ∧ 1 ≤ L ∧ L ≤ 512 ∧ 1 ≤ O ∧ O ≤ 16 ∧ n ≤ 512) := by
    unfold headB
    by_cases h1 : 1 ≤ L <;> by_cases h2 : L ≤ 512 <;> by_cases h3 : 1 ≤ O <;> by_cases h4 : O ≤ 16 <;> by_cases h5 : n ≤ 512 <;> simp [h1, h2, h3, h4, h5] <;> omega
  replace h := Lib.hid h
  replace hlen := Lib.hid hlen
  replace hbw := Lib.hid hbw
  replace BX := Lib.hid BX
  replace hR := Lib.hid hR
  rcases hH with ⟨hF, hw⟩ | ⟨hT, hL1, hL2, hO1, hO2, hn⟩
  · have hR2 : Hid (R = false) := by show _ = _; rw [hR.out, hF]; rfl
    clear hR hF
    have kx := BX.out.at_
    rcases hw with h1 | ⟨h1, h2⟩ | ⟨h1, h2, h3⟩ | ⟨h1, h2, h3, h4⟩ | ⟨h1, h2, h3, h4, h5⟩
    all_goals
      go_enter Try.func32, Try.ntmps32
      go_wp2
      go_ret
      exact ⟨by rw [hR2.out]; rfl, hbw.out⟩
  have hR2 : Hid (R = (List.range n).all (adjB L O xs)) := by show _ = _; rw [hR.out, hT]; rfl
  clear hR hT
  have hAd : Hid (∀ i, adjB L O xs i = (cellOk L O (xs.getD i default) && (decide (i = 0) || decide (cmpC (xs.getD (i - 1) default) (xs.getD i default) < 0)))) := fun _ => rfl
  have cR := fun c W => right_any L O A n cp c W ⟨hL1, hL2⟩ ⟨hO1, hO2⟩
  have cC := fun a b W => compare_below a b W
  generalize adjB L O xs = AD at *
  generalize cellOk L O = CO at *
  generalize cmpC = CC at *
  replace cR := Lib.hid cR
  replace cC := Lib.hid cC
  have kx := BX.out.at_
  go_enter Try.func32, Try.ntmps32
  go_wp2_with fail
  clear kx
  go_loopw [32] (fun i wr => ∃ k : Nat, k ≤ n ∧ i = .int .i64 k ∧ Hid (∀ j, j < k → AD j = true) ∧ Hid (Below (w.alloc (.cells #[.int .i64 L, .int .i64 O, .slice A n cp] 24)).heap.size (w.alloc (.cells #[.int .i64 L, .int .i64 O, .slice A n cp] 24)) wr)) (fun i _ => n - (intOf i).toNat)
  case atStart => exact ⟨0, by omega, rfl, fun j hj => absurd hj (by omega), Below.refl _ _⟩
  case round =>
    obtain ⟨k, hk, rfl, HP, HB⟩ := hrel
    have hB0 := Lib.hid (bthen hbw.out HB.out)
    by_cases hlt : k < n
    · obtain ⟨b, off, rfl⟩ := h.out.addr (by omega)
      have hk1 := cel_at (h.out.keep hB0.out) hlt
      have hA := hAd.out k
      have cr := cR.out (xs.getD k default)
      have cc := cC.out (xs.getD (k - 1) default) (xs.getD k default)
      have hkp := fun W (hb : Below w.heap.size w W) (h0 : 0 < k) => cel_at (h.out.keep hb) (i := k - 1) (by omega)
      generalize CC (xs.getD (k - 1) default) (xs.getD k default) = V at *
      generalize CO (xs.getD k default) = CK at *
      generalize xs.getD k default = c at *
      generalize xs.getD (k - 1) default = d at *
      obtain ⟨c0, c1, c2, c3, c4⟩ := c
      obtain ⟨d0, d1, d2, d3, d4⟩ := d
      obtain ⟨q0, q1, q2, q3, q4⟩ := hk1
      dsimp only at q0 q1 q2 q3 q4 cr cc
      have BXr := BX.out.keep HB.out
      have BC := Box.new wr #[.int .i64 c0, .int .i64 c1, .int .i64 c2, .int .i64 c3, .int .i64 c4] 34
      have HBc := ballN HB.out (.cells #[.int .i64 c0, .int .i64 c1, .int .i64 c2, .int .i64 c3, .int .i64 c4] 34)
      have BXc := BXr.alloc (.cells #[.int .i64 c0, .int .i64 c1, .int .i64 c2, .int .i64 c3, .int .i64 c4] 34)
      replace hA := Lib.hid hA
      replace hkp := Lib.hid hkp
      replace BC := Lib.hid BC
      replace HBc := Lib.hid HBc
      replace BXc := Lib.hid BXc
      replace cr := Lib.hid cr
      replace cc := Lib.hid cc
      have kx := BXr.at_
      go_upto_region 6 with fail
      clear q0 q1 q2 q3 q4 kx
      generalize (wr.alloc (.cells #[.int .i64 c0, .int .i64 c1, .int .i64 c2, .int .i64 c3, .int .i64 c4] 34)) = wb at *
      have g1 := BXc.out.grown
      have g2 := BC.out.grown
      have cl : ∀ d os, Calls Try.prog 33 #[.agg #[.int .i64 L, .int .i64 O, .slice (some ⟨b, off, none⟩) n cp], .agg #[.int .i64 c0, .int .i64 c1, .int .i64 c2, .int .i64 c3, .int .i64 c4]] (grow (redrawn wb d) os) fun e w'' => e = .returned (.bool CK) ∧ ∃ p : Regrown, w'' = grow (redrawn wb p.d) p.os :=
        fun d os => Calls.regrown_of (cr.out _)
      replace cl := Lib.hid cl
      have cm : ∀ d os, Calls Try.prog 42 #[.agg #[.int .i64 d0, .int .i64 d1, .int .i64 d2, .int .i64 d3, .int .i64 d4], .agg #[.int .i64 c0, .int .i64 c1, .int .i64 c2, .int .i64 c3, .int .i64 c4]] (grow (redrawn wb d) os) fun e w'' => e = .returned (.int .i64 V) ∧ ∃ p : Regrown, w'' = grow (redrawn wb p.d) p.os :=
        fun d os => Calls.regrown_of (cc.out _)
      replace cm := Lib.hid cm
      cases CK with
      | false =>
        have hA2 : Hid (R = false) := by show _ = _; rw [hR2.out]; exact all_range_false hlt (by rw [hA.out]; rfl)
        refine wp_region_quiet_below (by kernel_rfl) (by kernel_rfl) ?_
        repeat (go_big_quiet_step (exact cl.out _ _))
        refine wpQuiet_nil ?_
        rintro _ ⟨⟨dq, osq⟩, rfl⟩
        have hb_ := below_regrown wb dq osq
        replace HBc := Lib.hid (HBc.out.keep hb_)
        generalize grow (redrawn wb dq) osq = w2 at *
        clear hb_
        have hB2 := Lib.hid (bthen hbw.out HBc.out)
        go_wp2
        go_ret
        exact ⟨by rw [hA2.out]; rfl, hB2.out⟩
      | true =>
        by_cases h0 : k = 0
        · subst h0
          have hP2 : Hid (∀ j, j < 0 + 1 → AD j = true) := fun j hj => by
            obtain rfl : j = 0 := by omega
            rw [hA.out]; rfl
          refine wp_region_quiet_below (by kernel_rfl) (by kernel_rfl) ?_
          repeat (go_big_quiet_step (exact cl.out _ _))
          refine wpQuiet_nil ?_
          rintro _ ⟨⟨dq, osq⟩, rfl⟩
          have hb_ := below_regrown wb dq osq
          replace HBc := Lib.hid (HBc.out.keep hb_)
          generalize grow (redrawn wb dq) osq = w2 at *
          clear hb_
          go_wp2
          go_roundw
          case rel => exact ⟨0 + 1, by omega, by go_num, hP2, HBc⟩
          case measure => simp [intOf]; omega
        · have hk0 : 0 < k := by omega
          obtain ⟨p0, p1, p2, p3, p4⟩ := hkp.out wb (bthen hbw.out HBc.out) hk0
          dsimp only at p0 p1 p2 p3 p4
          have hcast : (k : Int) - 1 = ((k - 1 : Nat) : Int) := by omega
          have hw1 : IntKind.i64.wrap ((k : Int) - 1) = (k : Int) - 1 := IntWalk.i64_in _ (by omega)
          have ht1 : ((k : Int) - 1).toNat = k - 1 := by omega
          have r1 : (0 : Int) ≤ (k : Int) - 1 := by omega
          have r2 : (k : Int) - 1 < (n : Int) := by omega
          have g3 := cell_regrown p0
          have g4 := cell_regrown p1
          have g5 := cell_regrown p2
          have g6 := cell_regrown p3
          have g7 := cell_regrown p4
          clear hcast p0 p1 p2 p3 p4
          have hk0' : 0 < (k : Int) := by omega
          by_cases hV : V < 0
          · have hP2 : Hid (∀ j, j < k + 1 → AD j = true) := fun j hj => by
              by_cases e : j = k
              · subst e; rw [hA.out]; simp [hV]
              · exact HP.out j (by omega)
            refine wp_region_quiet_below (by kernel_rfl) (by kernel_rfl) ?_
            repeat (go_big_quiet_step ((first | exact cl.out _ _ | exact cm.out _ _)))
            refine wpQuiet_nil ?_
            rintro _ ⟨⟨dq, osq⟩, rfl⟩
            have hb_ := below_regrown wb dq osq
            replace HBc := Lib.hid (HBc.out.keep hb_)
            generalize grow (redrawn wb dq) osq = w2 at *
            clear hb_
            go_wp2
            go_roundw
            case rel => exact ⟨k + 1, by omega, by go_num, hP2, HBc⟩
            case measure => simp [intOf]; omega
          · have hA2 : Hid (R = false) := by show _ = _; rw [hR2.out]; exact all_range_false hlt (by rw [hA.out]; simp [hV, h0])
            have hV2 : decide (0 ≤ V) = true := by simp; omega
            clear hV
            refine wp_region_quiet_below (by kernel_rfl) (by kernel_rfl) ?_
            repeat (go_big_quiet_step ((first | exact cl.out _ _ | exact cm.out _ _)))
            refine wpQuiet_nil ?_
            rintro _ ⟨⟨dq, osq⟩, rfl⟩
            have hb_ := below_regrown wb dq osq
            replace HBc := Lib.hid (HBc.out.keep hb_)
            generalize grow (redrawn wb dq) osq = w2 at *
            clear hb_
            have hB2 := Lib.hid (bthen hbw.out HBc.out)
            go_wp2
            go_ret
            exact ⟨by rw [hA2.out]; rfl, hB2.out⟩
    · obtain rfl : k = n := by omega
      have hR3 : Hid (R = true) := by show _ = _; rw [hR2.out]; exact all_range_true HP.out
      go_wp2
      go_ret
      exact ⟨by rw [hR3.out]; rfl, hB0.out⟩
end Sw
end Go.Proofs.Ytnkgmpmedkegbaa
