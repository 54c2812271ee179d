/- Chapter 16: IsMask, Fits, the reference's. -/
import Derived.Test.YtkfipbelhlcddaaGreatMq
import Derived.Test.YtkfipbelhlcddaaGreatTxK
set_option linter.unusedVariables false
set_option linter.unusedSimpArgs false
namespace Go.Proofs.YtkfipbelhlcddaaGreat
open Go Go.RowKit Go.Sort Go.Shelf Go.Maps
namespace Tx
open Sw Mm
set_option maxRecDepth 100000 in
set_option maxHeartbeats 4000000 in
theorem rmask_any (A : Option Addr) (n c : Nat) (f : List Int) (len : Int) (w : World) (h : IntS w A n f) : Calls Tryz.prog 135 #[.slice A n c, .int .i64 len] w fun e w' => e = .returned (.bool (maskN f len)) ∧ Below w.heap.size w w' := by
  have hlen := h.len
  have hs := h.small
  unfold maxLen at hs
  have hR : maskN f len = (decide ((n : Int) = len) && !f.any mkB) := by rw [maskN_split, hlen]
  have hyes : ∀ k, k < n → mkB (f.getD k default) = true → f.any mkB = true := fun k hk e => List.any_eq_true.2 ⟨_, getD_mem (by rw [hlen]; exact hk), e⟩
  have hno : (∀ k, k < n → mkB (f.getD k default) = false) → f.any mkB = false := fun e => by
    rw [List.any_eq_false]
    intro x hx
    obtain ⟨i, hi, rfl⟩ := mem_getD hx
    rw [e i (by omega)]; simp
  have hmk : ∀ x, mkB x = (decide (x < 0) || decide (65536 ≤ x)) := fun _ => rfl
  generalize maskN f len = R at *
  generalize f.any mkB = V at *
  generalize mkB = B at *
  replace h := Lib.hid h
  replace hlen := Lib.hid hlen
  replace hR := Lib.hid hR
  replace hyes := Lib.hid hyes
  replace hno := Lib.hid hno
  replace hmk := Lib.hid hmk
  go_enter Tryz.func135, Tryz.ntmps135
  by_cases hl : (n : Int) = len
  case neg =>
    have d : ((n : Int) != len) = true := by rw [bne_iff_ne]; exact hl
    have hR2 : Hid (R = false) := by show _ = _; rw [hR.out]; simp [hl]
    replace hl := Lib.hid hl
    go_wp2
    go_ret
    exact ⟨by rw [hR2.out]; rfl, Below.refl _ _⟩
  subst hl
  go_wp2_with fail
  go_loopw [5] (fun i wr => ∃ k : Nat, k ≤ n ∧ i = .int .i64 k ∧ Hid (∀ j, j < k → B (f.getD j default) = false) ∧ Hid (Below w.heap.size w wr)) (fun i _ => n - (intOf i).toNat)
  case atStart => exact ⟨0, by omega, rfl, fun j hj => by omega, Below.refl _ _⟩
  case round =>
    obtain ⟨k, hk, rfl, HP, HB⟩ := hrel
    by_cases hlt : k < n
    · obtain ⟨b, off, rfl⟩ := h.out.addr (by omega)
      have hx := int_at (h.out.keep HB.out) hlt
      have hy := hyes.out k hlt
      have hb := hmk.out (f.getD k default)
      have hn : B (f.getD k default) = false → ∀ j, j < k + 1 → B (f.getD j default) = false := fun h j hj => by
        by_cases e : j = k
        · subst e; exact h
        · exact HP.out j (by omega)
      generalize f.getD k default = x at *
      have g0 := cell_regrown hx
      have r1 : (k : Int) < (n : Int) := by omega
      clear hx
      by_cases c0 : x < 0
      · have hR2 : Hid (R = false) := by show _ = _; rw [hR.out, hy (by rw [hb]; simp [c0])]; simp
        have d0 : decide (x < 0) = true := by simpa using c0
        clear hb hn hy
        go_wp2_with fail
        go_wp2_with fail
        refine wp_region_quiet_below (by kernel_rfl) (by kernel_rfl) ?_
        repeat (go_big_quiet_step (fail))
        refine wpQuiet_nil ?_
        rintro _ ⟨⟨dq, osq⟩, rfl⟩
        have hb_ := below_regrown wr dq osq
        replace HB := Lib.hid (HB.out.keep hb_)
        generalize grow (redrawn wr dq) osq = w2 at *
        clear hb_
        go_wp2
        go_ret
        exact ⟨by rw [hR2.out]; rfl, HB.out⟩
      · have d0 : decide (x < 0) = false := by simpa using c0
        have cs : ∀ d os, Calls Tryz.prog 150 #[.int .i64 16] (grow (redrawn wr d) os) fun e w'' => e = .returned (.int .i64 65536) ∧ ∃ p : Regrown, w'' = grow (redrawn wr p.d) p.os :=
          fun d os => Calls.regrown_of (same_below (power_any _))
        replace cs := Lib.hid cs
        by_cases c1 : 65536 ≤ x
        · have hR2 : Hid (R = false) := by show _ = _; rw [hR.out, hy (by rw [hb]; simp [c1])]; simp
          clear hb hn hy c0
          go_wp2_with fail
          go_wp2_with fail
          refine wp_region_quiet_below (by kernel_rfl) (by kernel_rfl) ?_
          repeat (go_big_quiet_step (exact cs.out _ _))
          refine wpQuiet_nil ?_
          rintro _ ⟨⟨dq, osq⟩, rfl⟩
          have hb_ := below_regrown wr dq osq
          replace HB := Lib.hid (HB.out.keep hb_)
          generalize grow (redrawn wr dq) osq = w2 at *
          clear hb_
          go_wp2
          go_ret
          exact ⟨by rw [hR2.out]; rfl, HB.out⟩
        · have hP2 := Lib.hid (hn (by rw [hb]; first | (simp [c1, d0]; done) | (simp [c1, d0]; omega)))
          have c2 : x < 65536 := by omega
          clear hb hn hy c0 c1
          go_wp2_with fail
          go_wp2_with fail
          refine wp_region_quiet_below (by kernel_rfl) (by kernel_rfl) ?_
          repeat (go_big_quiet_step (exact cs.out _ _))
          refine wpQuiet_nil ?_
          rintro _ ⟨⟨dq, osq⟩, rfl⟩
          have hb_ := below_regrown wr dq osq
          replace HB := Lib.hid (HB.out.keep hb_)
          generalize grow (redrawn wr dq) osq = w2 at *
          clear hb_
          go_wp2
          go_roundw
          case rel => exact ⟨k + 1, by omega, by go_num, hP2, HB⟩
          case measure => simp [intOf]; omega
    · obtain rfl : k = n := by omega
      have hR2 : Hid (R = true) := by show _ = _; rw [hR.out, hno.out HP.out]; simp
      go_wp2
      go_ret
      exact ⟨by rw [hR2.out]; rfl, HB.out⟩
set_option maxRecDepth 100000 in
set_option maxHeartbeats 4000000 in
theorem rfits_any (t : Tab) (v : TabV) (A : Option Addr) (n c : Nat) (f : List Int) (s : Spt) (w : World) (h : TabIs w v t) (hf : IntS w A n f) : Calls Tryz.prog 110 #[.agg #[.int .i64 t.node, .int .i64 t.length, .slice v.A v.n v.c], .slice A n c, .agg #[.int .i64 s.slot, .int .i64 s.off]] w fun e w' => e = .returned (.bool (fitsN t f s)) ∧ Below w.heap.size w w' := by
  obtain ⟨B, m, c2⟩ := v
  have HM := Lib.hid (Mem.start w)
  have hB : fitsN t f s = (decide (chkT t = 0) && (maskN f t.length && (decide (0 ≤ s.slot) && (decide (s.slot < t.length) && (decide (0 ≤ s.off) && (decide (s.off < 16) && (bitN (f.getD s.slot.toNat 0) s.off && !usedN t s.slot))))))) := rfl
  have cK := fun W (hb : Below w.heap.size w W) => rchkT_any t ⟨B, m, c2⟩ W (h.keep hb)
  have cM := fun W (hb : Below w.heap.size w W) => rmask_any A n c f t.length W (hf.keep hb)
  have hmk : maskN f t.length = true → (n : Int) = t.length ∧ ∀ x ∈ f, 0 ≤ x ∧ x < 65536 := fun e => by
    unfold maskN at e
    rw [hf.len] at e
    simp at e
    exact ⟨e.1, e.2⟩
  have hlf := hf.len
  have hc := h.cells
  dsimp only at hc
  have hlc := hc.len
  have hsm := hc.small
  unfold maxLen at hsm
  have hyes : ∀ k, k < m → decide ((t.cells.getD k default).slot = s.slot) = true → usedN t s.slot = true := fun k hk e => List.any_eq_true.2 ⟨_, getD_mem (by rw [hlc]; exact hk), e⟩
  have hno : (∀ k, k < m → decide ((t.cells.getD k default).slot = s.slot) = false) → usedN t s.slot = false := fun e => by
    unfold usedN
    rw [List.any_eq_false]
    intro x hx
    obtain ⟨i, hi, rfl⟩ := mem_getD hx
    rw [e i (by omega)]; simp
  generalize fitsN t f s = R at *
  generalize maskN f t.length = MK at *
  generalize usedN t s.slot = US at *
  generalize chkT t = C1 at *
  obtain ⟨t0, t1, t2⟩ := t
  obtain ⟨s0, s1⟩ := s
  dsimp only at *
  replace h := Lib.hid h
  replace cK := Lib.hid cK
  replace cM := Lib.hid cM
  replace hB := Lib.hid hB
  replace hf := Lib.hid hf
  replace hmk := Lib.hid hmk
  replace hlf := Lib.hid hlf
  replace hc := Lib.hid hc
  replace hlc := Lib.hid hlc
  replace hyes := Lib.hid hyes
  replace hno := Lib.hid hno
  go_enter Tryz.func110, Tryz.ntmps110
  go_upto_region 1 with (first | (refine wpList_boxA HM rfl 29 _ rfl _ rfl ?_; clear HM; intro gt w1 HM hG; clear hG) | (refine wpList_boxA HM rfl 78 _ rfl _ rfl ?_; clear HM; intro gs w1 HM hG; clear hG))
  have ks := HM.out.cell 0 rfl
  have kt := HM.out.cell 1 rfl
  go_upto_region 3 with (first
    | (go_at_call 87; refine (cK.out _ HM.out.below).mono ?_; rintro e w3 ⟨rfl, hb_⟩; have HM2 := Lib.hid (HM.out.keep hb_); clear HM hb_ kt ks cK; have HM := HM2; clear HM2; have kt := HM.out.cell 1 rfl; have ks := HM.out.cell 0 rfl)
    | (go_at_call 135; refine (cM.out _ HM.out.below).mono ?_; rintro e w4 ⟨rfl, hb_⟩; have HM2 := Lib.hid (HM.out.keep hb_); clear HM hb_ kt ks cM; have HM := HM2; clear HM2; have kt := HM.out.cell 1 rfl; have ks := HM.out.cell 0 rfl)
    | fail)
  all_goals try
    (go_ret
     exact ⟨by rw [hB.out]; first | (simp [*]; done) | (simp [*]; omega), HM.out.below⟩)
  obtain ⟨hn1, hfb⟩ := hmk.out (by assumption)
  obtain ⟨a, rfl⟩ : ∃ a : Nat, s0 = a := ⟨s0.toNat, by omega⟩
  obtain ⟨q, rfl⟩ : ∃ q : Nat, s1 = q := ⟨s1.toNat, by omega⟩
  have hq : q < 16 := by omega
  have han : a < n := by omega
  obtain ⟨b, off, rfl⟩ := hf.out.addr (by omega)
  have hB2 : Hid (R = (bitN (f.getD a default) q && !US)) := by
    show _ = _
    rw [hB.out]
    have e1 : f.getD (a : Int).toNat 0 = f.getD a default := rfl
    rw [e1]
    first | (simp [*]; done) | (simp [*]; omega)
  have hxb := hfb _ (getD_mem (l := f) (i := a) (by rw [hlf.out]; exact han))
  clear hB hfb
  go_wp2_with fail
  go_loopw [7] (fun i wr => ∃ k : Nat, k ≤ m ∧ i = .int .i64 k ∧ Hid (∀ j, j < k → decide ((t2.getD j default).slot = a) = false) ∧ Hid (Mem w wr [(gs, #[.int .i64 a, .int .i64 q], 78), (gt, #[.int .i64 t0, .int .i64 t1, .slice B m c2], 29)])) (fun i _ => m - (intOf i).toNat)
  case atStart => exact ⟨0, by omega, rfl, fun j hj => by omega, HM⟩
  case round =>
    clear HM ks kt
    obtain ⟨k, hk, rfl, HP, HM⟩ := hrel
    have kt := HM.out.cell 1 rfl
    by_cases hlt : k < m
    · obtain ⟨b2, off2, rfl⟩ := hc.out.addr (by omega)
      have hx := (tcl_at (hc.out.keep HM.out.below) hlt).1
      have hy := hyes.out k hlt
      have hn : decide ((t2.getD k default).slot = a) = false → ∀ j, j < k + 1 → decide ((t2.getD j default).slot = a) = false := fun h j hj => by
        by_cases e : j = k
        · subst e; exact h
        · exact HP.out j (by omega)
      generalize (t2.getD k default).slot = x at *
      have r1 : (k : Int) < (m : Int) := by omega
      go_upto_region 6 with fail
      have g0 := cell_regrown hx
      have ge := (HM.out.at_ 1 rfl).box.grown
      have gf := (HM.out.at_ 0 rfl).box.grown
      clear hx kt
      by_cases c0 : x = a
      · have hR3 : Hid (R = false) := by show _ = _; rw [hB2.out, hy (by simp [c0])]; simp
        subst c0
        clear hy hn
        go_wp2_with fail
        refine wp_region_quiet_below (by kernel_rfl) (by kernel_rfl) ?_
        repeat (go_big_quiet_step (fail))
        refine wpQuiet_nil ?_
        rintro _ ⟨⟨dq, osq⟩, rfl⟩
        have hb_ := below_regrown wr dq osq
        replace HM := Lib.hid (HM.out.keep hb_)
        generalize grow (redrawn wr dq) osq = w5 at *
        clear hb_
        go_wp2
        go_ret
        exact ⟨by rw [hR3.out]; rfl, HM.out.below⟩
      · have hP2 := Lib.hid (hn (by simp [c0]))
        have d0 : (x == (a : Int)) = false := by simpa using c0
        replace c0 := Lib.hid c0
        clear hy hn
        go_wp2_with fail
        refine wp_region_quiet_below (by kernel_rfl) (by kernel_rfl) ?_
        repeat (go_big_quiet_step (fail))
        refine wpQuiet_nil ?_
        rintro _ ⟨⟨dq, osq⟩, rfl⟩
        have hb_ := below_regrown wr dq osq
        replace HM := Lib.hid (HM.out.keep hb_)
        generalize grow (redrawn wr dq) osq = w5 at *
        clear hb_
        go_wp2
        go_roundw
        case rel => exact ⟨k + 1, by omega, by go_num, hP2, HM⟩
        case measure => simp [intOf]; omega
    · obtain rfl : k = m := by omega
      have hx := int_at (hf.out.keep HM.out.below) han
      have hUS := Lib.hid (hno.out HP.out)
      generalize f.getD a default = x at *
      have r1 : (a : Int) < (n : Int) := by omega
      go_upto_region 8 with fail
      have g0 := cell_regrown hx
      have ge := (HM.out.at_ 0 rfl).box.grown
      clear hx kt
      have cs : ∀ d os, Calls Tryz.prog 141 #[.int .i64 x, .int .i64 (q : Int)] (grow (redrawn wr d) os) fun e w'' => e = .returned (.bool (bitN x q)) ∧ ∃ p : Regrown, w'' = grow (redrawn wr p.d) p.os :=
        fun d os => Calls.regrown_of (same_below (bit_any x q _ hxb.1 hxb.2 hq))
      replace cs := Lib.hid cs
      generalize bitN x q = BV at *
      go_wp2_with fail
      refine wp_region_quiet_below (by kernel_rfl) (by kernel_rfl) ?_
      repeat (go_big_quiet_step (exact cs.out _ _))
      refine wpQuiet_nil ?_
      rintro _ ⟨⟨dq, osq⟩, rfl⟩
      have hb_ := below_regrown wr dq osq
      replace HM := Lib.hid (HM.out.keep hb_)
      generalize grow (redrawn wr dq) osq = w5 at *
      clear hb_
      go_wp2
      go_ret
      exact ⟨by rw [hB2.out, hUS.out]; simp, HM.out.below⟩
end Tx
end Go.Proofs.YtkfipbelhlcddaaGreat
