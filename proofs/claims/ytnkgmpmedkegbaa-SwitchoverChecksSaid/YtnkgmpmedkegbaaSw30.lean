/- hopmeshref52.InOrder. -/
import Derived.Test.YtnkgmpmedkegbaaSw18
namespace Go.Proofs.Ytnkgmpmedkegbaa
open Go Go.RowKit Go.Sort
namespace Sw
open Mm
theorem lessL_any (a b : Cel) (w : World) :
    Calls Try.prog 66 #[.agg #[.int .i64 a.slot, .int .i64 a.offset, .int .i64 a.frm, .int .i64 a.to, .int .i64 a.flow], .agg #[.int .i64 b.slot, .int .i64 b.offset, .int .i64 b.frm, .int .i64 b.to, .int .i64 b.flow]] w fun e w' => e = .returned (.bool (decide (cmpC a b < 0))) ∧ Below w.heap.size w w' := less_any a b w
set_option maxRecDepth 100000 in
set_option maxHeartbeats 2000000 in
theorem rinOrder_any (L O : Int) (A : Option Addr) (n cp : Nat) (xs : List Cel) (w : World) (h : CelS w A n xs) :
    Calls Try.prog 36 #[.agg #[.int .i64 L, .int .i64 O, .slice A n cp]] w fun e w' => e = .returned (.bool (formedB L O xs)) ∧ Below w.heap.size w w' := by
  have hlen := h.len
  have hs := h.small
  unfold maxLen at hs
  have hbw := ball w (.cells #[.int .i64 L, .int .i64 O, .slice A n cp] 24)
  have BX := Box.new w #[.int .i64 L, .int .i64 O, .slice A n cp] 24
  have hR : formedB L O xs = (headB L O n && (List.range n).all (adjB L O xs)) := by unfold formedB; rw [hlen]
  generalize formedB L O xs = R at *
  have hH : (headB L O n = false ∧ (L < 1 ∨ (1 ≤ L ∧ 512 < L) ∨ (1 ≤ L ∧ L ≤ 512 ∧ O < 1) ∨ (1 ≤ L ∧ L ≤ 512 ∧ 1 ≤ O ∧ 16 < O) ∨ (1 ≤ L ∧ L ≤ 512 ∧ 1 ≤ O ∧ O ≤ 16 ∧ 512 < n))) ∨ (headB L O n = true ∧ 1 ≤ L ∧ L ≤ 512 ∧ 1 ≤ O ∧ O ≤ 16 ∧ n ≤ 512) := by
    unfold headB
    by_cases h1 : 1 ≤ L <;> by_cases h2 : L ≤ 512 <;> by_cases h3 : 1 ≤ O <;> by_cases h4 : O ≤ 16 <;> by_cases h5 : n ≤ 512 <;> simp [h1, h2, h3, h4, h5] <;> omega
  replace h := Lib.hid h
  replace hlen := Lib.hid hlen
  replace hbw := Lib.hid hbw
  replace BX := Lib.hid BX
  replace hR := Lib.hid hR
  rcases hH with ⟨hF, hw⟩ | ⟨hT, hL1, hL2, hO1, hO2, hn⟩
  · have hR2 : Hid (R = false) := by show _ = _; rw [hR.out, hF]; rfl
    clear hR hF
    have kx := BX.out.at_
    rcases hw with h1 | ⟨h1, h2⟩ | ⟨h1, h2, h3⟩ | ⟨h1, h2, h3, h4⟩ | ⟨h1, h2, h3, h4, h5⟩
    all_goals
      go_enter Try.func36, Try.ntmps36
      go_wp2
      go_ret
      exact ⟨by rw [hR2.out]; rfl, hbw.out⟩
  have hR2 : Hid (R = (List.range n).all (adjB L O xs)) := by show _ = _; rw [hR.out, hT]; rfl
  clear hR hT
  have hAd : Hid (∀ i, adjB L O xs i = (cellOk L O (xs.getD i default) && (decide (i = 0) || decide (cmpC (xs.getD (i - 1) default) (xs.getD i default) < 0)))) := fun _ => rfl
  have cR := fun c W => rcell_any L O A n cp c W
  have cC := fun a b W => lessL_any a b W
  generalize adjB L O xs = AD at *
  generalize cellOk L O = CO at *
  generalize cmpC = CC at *
  replace cR := Lib.hid cR
  replace cC := Lib.hid cC
  have kx := BX.out.at_
  go_enter Try.func36, Try.ntmps36
  go_wp2_with fail
  clear kx
  generalize w.alloc (.cells #[.int .i64 L, .int .i64 O, .slice A n cp] 24) = w0 at *
  go_loopw [3] (fun i wr => ∃ k : Nat, k ≤ n ∧ i = .int .i64 k ∧ Hid (∀ j, j < k → AD j = true) ∧ Hid (Below w0.heap.size w0 wr)) (fun i _ => n - (intOf i).toNat)
  case atStart => exact ⟨0, by omega, rfl, fun j hj => absurd hj (by omega), Below.refl _ _⟩
  case round =>
    obtain ⟨k, hk, rfl, HP, HB⟩ := hrel
    have hB0 := Lib.hid (bthen hbw.out HB.out)
    have kx := (BX.out.keep HB.out).at_
    by_cases hlt : k < n
    · obtain ⟨b, off, rfl⟩ := h.out.addr (by omega)
      have hk1 := cel_at (h.out.keep hB0.out) hlt
      have hA := hAd.out k
      have cr := cR.out (xs.getD k default)
      have cc := cC.out (xs.getD (k - 1) default) (xs.getD k default)
      have hkp := fun (h0 : 0 < k) => cel_at (h.out.keep hB0.out) (i := k - 1) (by omega)
      generalize CC (xs.getD (k - 1) default) (xs.getD k default) = V at *
      generalize CO (xs.getD k default) = CK at *
      generalize xs.getD k default = c at *
      generalize xs.getD (k - 1) default = d at *
      obtain ⟨c0, c1, c2, c3, c4⟩ := c
      obtain ⟨d0, d1, d2, d3, d4⟩ := d
      obtain ⟨q0, q1, q2, q3, q4⟩ := hk1
      dsimp only at q0 q1 q2 q3 q4 cr cc
      replace hA := Lib.hid hA
      replace hkp := Lib.hid hkp
      replace cr := Lib.hid cr
      replace cc := Lib.hid cc
      have r1 : (k : Int) < (n : Int) := by omega
      go_wp2_with fail
      have gx := (BX.out.keep HB.out).grown
      have g1 := cell_regrown q0
      have g2 := cell_regrown q1
      have g3 := cell_regrown q2
      have g4 := cell_regrown q3
      have g5 := cell_regrown q4
      clear q0 q1 q2 q3 q4 kx
      have cl : ∀ d os, Calls Try.prog 38 #[.agg #[.int .i64 L, .int .i64 O, .slice (some ⟨b, off, none⟩) n cp], .agg #[.int .i64 c0, .int .i64 c1, .int .i64 c2, .int .i64 c3, .int .i64 c4]] (grow (redrawn wr d) os) fun e w'' => e = .returned (.bool CK) ∧ ∃ p : Regrown, w'' = grow (redrawn wr p.d) p.os :=
        fun d os => Calls.regrown_of (cr.out _)
      replace cl := Lib.hid cl
      cases CK with
      | false =>
        have hA2 : Hid (R = false) := by show _ = _; rw [hR2.out]; exact all_range_false hlt (by rw [hA.out]; rfl)
        refine wp_region_quiet_below (by kernel_rfl) (by kernel_rfl) ?_
        repeat (go_big_quiet_step (exact cl.out _ _))
        refine wpQuiet_nil ?_
        rintro _ ⟨⟨dq, osq⟩, rfl⟩
        have hb_ := below_regrown wr dq osq
        replace HB := Lib.hid (HB.out.keep hb_)
        generalize grow (redrawn wr dq) osq = w2 at *
        clear hb_
        have hB2 := Lib.hid (bthen hbw.out HB.out)
        go_wp2
        go_ret
        exact ⟨by rw [hA2.out]; rfl, hB2.out⟩
      | true =>
        by_cases h0 : k = 0
        · subst h0
          have hP2 : Hid (∀ j, j < 0 + 1 → AD j = true) := fun j hj => by
            obtain rfl : j = 0 := by omega
            rw [hA.out]; rfl
          simp only [Nat.zero_mul, Nat.add_zero] at g1 g2 g3 g4 g5
          refine wp_region_quiet_below (by kernel_rfl) (by kernel_rfl) ?_
          repeat (go_big_quiet_step (exact cl.out _ _))
          refine wpQuiet_nil ?_
          rintro _ ⟨⟨dq, osq⟩, rfl⟩
          have hb_ := below_regrown wr dq osq
          replace HB := Lib.hid (HB.out.keep hb_)
          generalize grow (redrawn wr dq) osq = w2 at *
          clear hb_
          go_wp2
          go_roundw
          case rel => exact ⟨0 + 1, by omega, by go_num, hP2, HB⟩
          case measure => simp [intOf]; omega
        · have hk0 : 0 < k := by omega
          obtain ⟨p0, p1, p2, p3, p4⟩ := hkp.out hk0
          dsimp only at p0 p1 p2 p3 p4
          have hcast : (k : Int) - 1 = ((k - 1 : Nat) : Int) := by omega
          have hw1 : IntKind.i64.wrap ((k : Int) - 1) = (k : Int) - 1 := IntWalk.i64_in _ (by omega)
          have ht1 : ((k : Int) - 1).toNat = k - 1 := by omega
          have r3 : (0 : Int) ≤ (k : Int) - 1 := by omega
          have r2 : (k : Int) - 1 < (n : Int) := by omega
          have g6 := cell_regrown p0
          have g7 := cell_regrown p1
          have g8 := cell_regrown p2
          have g9 := cell_regrown p3
          have g10 := cell_regrown p4
          clear hcast p0 p1 p2 p3 p4
          have hk0' : 0 < (k : Int) := by omega
          obtain ⟨BV, hBV⟩ : ∃ B : Bool, B = decide (V < 0) := ⟨_, rfl⟩
          have cc2 := cc.out
          rw [← hBV] at cc2
          have cm : ∀ d os, Calls Try.prog 66 #[.agg #[.int .i64 d0, .int .i64 d1, .int .i64 d2, .int .i64 d3, .int .i64 d4], .agg #[.int .i64 c0, .int .i64 c1, .int .i64 c2, .int .i64 c3, .int .i64 c4]] (grow (redrawn wr d) os) fun e w'' => e = .returned (.bool BV) ∧ ∃ p : Regrown, w'' = grow (redrawn wr p.d) p.os :=
            fun d os => Calls.regrown_of (cc2 _)
          replace cm := Lib.hid cm
          replace cc2 := Lib.hid cc2
          replace hBV := Lib.hid hBV
          cases BV with
          | true =>
            have hP2 : Hid (∀ j, j < k + 1 → AD j = true) := fun j hj => by
              by_cases e : j = k
              · subst e; rw [hA.out, ← hBV.out]; simp
              · exact HP.out j (by omega)
            refine wp_region_quiet_below (by kernel_rfl) (by kernel_rfl) ?_
            repeat (go_big_quiet_step ((first | exact cl.out _ _ | exact cm.out _ _)))
            refine wpQuiet_nil ?_
            rintro _ ⟨⟨dq, osq⟩, rfl⟩
            have hb_ := below_regrown wr dq osq
            replace HB := Lib.hid (HB.out.keep hb_)
            generalize grow (redrawn wr dq) osq = w2 at *
            clear hb_
            go_wp2
            go_roundw
            case rel => exact ⟨k + 1, by omega, by go_num, hP2, HB⟩
            case measure => simp [intOf]; omega
          | false =>
            have hA2 : Hid (R = false) := by show _ = _; rw [hR2.out]; exact all_range_false hlt (by rw [hA.out, ← hBV.out]; simp [h0])
            refine wp_region_quiet_below (by kernel_rfl) (by kernel_rfl) ?_
            repeat (go_big_quiet_step ((first | exact cl.out _ _ | exact cm.out _ _)))
            refine wpQuiet_nil ?_
            rintro _ ⟨⟨dq, osq⟩, rfl⟩
            have hb_ := below_regrown wr dq osq
            replace HB := Lib.hid (HB.out.keep hb_)
            generalize grow (redrawn wr dq) osq = w2 at *
            clear hb_
            have hB2 := Lib.hid (bthen hbw.out HB.out)
            go_wp2
            go_ret
            exact ⟨by rw [hA2.out]; rfl, hB2.out⟩
    · obtain rfl : k = n := by omega
      have hR3 : Hid (R = true) := by show _ = _; rw [hR2.out]; exact all_range_true HP.out
      go_wp2
      go_ret
      exact ⟨by rw [hR3.out]; rfl, hB0.out⟩
end Sw
end Go.Proofs.Ytnkgmpmedkegbaa
