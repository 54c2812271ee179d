/- The reference: Until, before, insert. -/
import Derived.Test.YtdlgdmbcbenlbaaSwP4
import Derived.Test.YtdlgdmbcbenlbaaAp
import Derived.Lib.QuietBelow
import Derived.Deep.RegionHeld3
import Derived.IntWalk
set_option linter.unusedVariables false
set_option linter.unusedSimpArgs false
namespace Go.Proofs.Ytdlgdmbcbenlbaa
open Go Go.RowKit Go.Sort
namespace Sw
open Mm
set_option maxRecDepth 100000 in
set_option maxHeartbeats 1000000 in
theorem runtil_any (L : Int) (B : Option Addr) (m cq : Nat) (l : List Chg) (w : World) (h : ChgS w B m l) (hL : 1 ≤ L ∧ L ≤ 512) (hs : ∀ x ∈ l, 0 ≤ x.slot ∧ x.slot ≤ 4096) :
    Calls Try.prog 22 #[.slice B m cq, .int .i64 L] w fun e w' => e = .returned (.int .i64 (untilN L l)) ∧ w = w' := by
  have hlen := h.len
  have hsm := h.small
  unfold maxLen at hsm
  obtain ⟨hL1, hL2⟩ := hL
  have hR : untilN L l = if m = 0 then 0 else (l.getD (m - 1) default).slot + L := by unfold untilN; rw [hlen]
  generalize untilN L l = R at *
  by_cases h0 : m = 0
  · have hR2 : Hid (R = 0) := by show _ = _; rw [hR, if_pos h0]
    have d : ((m : Int) == 0) = true := by rw [h0]; rfl
    clear hR
    replace h := Lib.hid h
    replace hlen := Lib.hid hlen
    replace hs := Lib.hid hs
    replace h0 := Lib.hid h0
    go_enter Try.func22, Try.ntmps22
    go_wp2
    go_ret
    exact ⟨by rw [hR2.out]; rfl, rfl⟩
  · obtain ⟨b, off, rfl⟩ := h.addr (by omega)
    obtain ⟨q0, _⟩ := chg_at h (i := m - 1) (by omega)
    have hx := ok_at hs (k := m - 1) (by omega)
    rw [if_neg h0] at hR
    generalize (l.getD (m - 1) default).slot = x at *
    have d : ((m : Int) == 0) = false := by rw [beq_eq_false_iff_ne]; omega
    have ht1 : ((m : Int) - 1).toNat = m - 1 := by omega
    have r1 : (0 : Int) ≤ (m : Int) - 1 := by omega
    have r2 : (m : Int) - 1 < (m : Int) := by omega
    obtain ⟨hx1, hx2⟩ := hx
    replace h := Lib.hid h
    replace hlen := Lib.hid hlen
    replace hs := Lib.hid hs
    replace h0 := Lib.hid h0
    replace hR := Lib.hid hR
    go_enter Try.func22, Try.ntmps22
    go_wp2
    go_ret
    exact ⟨by rw [hR.out]; rfl, rfl⟩
set_option maxRecDepth 100000 in
set_option maxHeartbeats 2000000 in
theorem before_any (a b : Dut) (w : World) :
    Calls Try.prog 74 #[.agg #[.int .i64 a.cell.slot, .int .i64 a.cell.offset, .int .i64 a.cell.frm, .int .i64 a.cell.to, .int .i64 a.cell.flow, .bool a.sends, .bool a.extra, .int .i64 a.first, .int .i64 a.til], .agg #[.int .i64 b.cell.slot, .int .i64 b.cell.offset, .int .i64 b.cell.frm, .int .i64 b.cell.to, .int .i64 b.cell.flow, .bool b.sends, .bool b.extra, .int .i64 b.first, .int .i64 b.til]] w fun e w' => e = .returned (.bool (befB a b)) ∧ Below w.heap.size w w' := by
  have hR : befB a b = if a.first ≠ b.first then decide (a.first < b.first) else if a.til ≠ b.til then (decide (b.til = -1) || (!decide (a.til = -1) && decide (a.til < b.til))) else (!a.extra && b.extra) := rfl
  generalize befB a b = R at *
  obtain ⟨⟨x0, x1, x2, x3, x4⟩, x5, x6, x7, x8⟩ := a
  obtain ⟨⟨y0, y1, y2, y3, y4⟩, y5, y6, y7, y8⟩ := b
  dsimp only at *
  have hb := ballN (ball w (.cells #[.int .i64 x0, .int .i64 x1, .int .i64 x2, .int .i64 x3, .int .i64 x4, .bool x5, .bool x6, .int .i64 x7, .int .i64 x8] 45)) (.cells #[.int .i64 y0, .int .i64 y1, .int .i64 y2, .int .i64 y3, .int .i64 y4, .bool y5, .bool y6, .int .i64 y7, .int .i64 y8] 45)
  have BX := (Box.new w #[.int .i64 x0, .int .i64 x1, .int .i64 x2, .int .i64 x3, .int .i64 x4, .bool x5, .bool x6, .int .i64 x7, .int .i64 x8] 45).alloc (.cells #[.int .i64 y0, .int .i64 y1, .int .i64 y2, .int .i64 y3, .int .i64 y4, .bool y5, .bool y6, .int .i64 y7, .int .i64 y8] 45)
  have BY := Box.new (w.alloc (.cells #[.int .i64 x0, .int .i64 x1, .int .i64 x2, .int .i64 x3, .int .i64 x4, .bool x5, .bool x6, .int .i64 x7, .int .i64 x8] 45)) #[.int .i64 y0, .int .i64 y1, .int .i64 y2, .int .i64 y3, .int .i64 y4, .bool y5, .bool y6, .int .i64 y7, .int .i64 y8] 45
  rw [size1] at BY
  have kx := BX.at_
  have ky := BY.at_
  replace hb := Lib.hid hb
  replace BX := Lib.hid BX
  replace BY := Lib.hid BY
  by_cases c1 : x7 = y7
  case neg =>
    have d1 : (x7 != y7) = true := by rw [bne_iff_ne]; exact c1
    rw [if_pos c1] at hR
    replace c1 := Lib.hid c1
    replace hR := Lib.hid hR
    go_enter Try.func74, Try.ntmps74
    go_wp2
    go_ret
    exact ⟨by rw [hR.out]; rfl, hb.out⟩
  have d1 : (x7 != y7) = false := by rw [bne_eq_false_iff_eq]; exact c1
  rw [if_neg (fun k => k c1)] at hR
  replace c1 := Lib.hid c1
  by_cases c2 : x8 = y8
  · have d2 : (x8 != y8) = false := by rw [bne_eq_false_iff_eq]; exact c2
    rw [if_neg (fun k => k c2)] at hR
    replace c2 := Lib.hid c2
    cases x6 with
    | true =>
      have hR2 : Hid (R = false) := by show _ = _; rw [hR]; rfl
      clear hR
      go_enter Try.func74, Try.ntmps74
      go_wp2
      go_ret
      exact ⟨by rw [hR2.out]; rfl, hb.out⟩
    | false =>
      have hR2 : Hid (R = y6) := by show _ = _; rw [hR]; rfl
      clear hR
      go_enter Try.func74, Try.ntmps74
      go_wp2
      go_ret
      exact ⟨by rw [hR2.out]; rfl, hb.out⟩
  have d2 : (x8 != y8) = true := by rw [bne_iff_ne]; exact c2
  rw [if_pos c2] at hR
  replace c2 := Lib.hid c2
  by_cases c3 : y8 = -1
  · have d3 : (y8 == -1) = true := by simpa using c3
    have hR2 : Hid (R = true) := by show _ = _; rw [hR]; simp [c3]
    clear hR
    replace c3 := Lib.hid c3
    go_enter Try.func74, Try.ntmps74
    go_wp2
    go_ret
    exact ⟨by rw [hR2.out]; rfl, hb.out⟩
  have d3 : (y8 == -1) = false := by simpa using c3
  by_cases c4 : x8 = -1
  · have d4 : (x8 != -1) = false := by rw [bne_eq_false_iff_eq]; exact c4
    have hR2 : Hid (R = false) := by show _ = _; rw [hR]; simp [c3, c4]
    clear hR
    replace c3 := Lib.hid c3
    replace c4 := Lib.hid c4
    go_enter Try.func74, Try.ntmps74
    go_wp2
    go_ret
    exact ⟨by rw [hR2.out]; rfl, hb.out⟩
  · have d4 : (x8 != -1) = true := by rw [bne_iff_ne]; exact c4
    have hR2 : Hid (R = decide (x8 < y8)) := by show _ = _; rw [hR]; simp [c3, c4]
    clear hR
    replace c3 := Lib.hid c3
    replace c4 := Lib.hid c4
    go_enter Try.func74, Try.ntmps74
    go_wp2
    go_ret
    exact ⟨by rw [hR2.out]; rfl, hb.out⟩
theorem eltD : Elt Try.prog dutE 9 38 45 := ⟨dutE_len, by decide, dutE_one, Try.underlying38, by
  obtain ⟨i, h1, h2, h3, h4⟩ := info_parts info_dut
  exact ⟨i, _, h1, h2, h3, by omega, rfl⟩⟩
theorem eltC : Elt Try.prog celE 5 22 34 := ⟨celE_len, by decide, celE_one, Try.underlying22, by
  obtain ⟨i, h1, h2, h3, h4⟩ := info_parts info_cel
  exact ⟨i, _, h1, h2, h3, by omega, rfl⟩⟩
def InsPost (ys : List Dut) (w : World) (e : Ending) (w' : World) : Prop := ∃ A' c', e = .returned (.slice A' ys.length c') ∧ DutS w' A' ys.length ys ∧ ys.length ≤ c' ∧ Below w.heap.size w w'
set_option maxRecDepth 100000 in
set_option maxHeartbeats 4000000 in
theorem insert_any (A : Option Addr) (n c : Nat) (xs : List Dut) (d : Dut) (w : World) (h : DutS w A n xs) (hn : n ≤ 100000) (hc : n ≤ c) :
    Calls Try.prog 52 #[.slice A n c, .agg #[.int .i64 d.cell.slot, .int .i64 d.cell.offset, .int .i64 d.cell.frm, .int .i64 d.cell.to, .int .i64 d.cell.flow, .bool d.sends, .bool d.extra, .int .i64 d.first, .int .i64 d.til]] w (InsPost (insD' xs d) w) := by
  have hlen := h.len
  have hcut := fun i (h1 : i ≤ xs.length) h2 h3 => cut_at (p := fun x => !befB d x) (l := xs) (i := i) h1 h2 h3 d
  have hI : insD' xs d = insBy (fun x => !befB d x) xs d := rfl
  rw [hI]
  clear hI
  generalize insBy (fun x => !befB d x) xs d = YS at *
  have cb := fun x W => before_any d x W
  obtain ⟨BF, hBF⟩ : ∃ BF, BF = befB d := ⟨_, rfl⟩
  have hcut2 : ∀ i, i ≤ n → (∀ j, j < i → BF (xs.getD j default) = false) → (i = n ∨ BF (xs.getD i default) = true) → YS = xs.take i ++ d :: xs.drop i := fun i h1 h2 h3 => hcut i (by omega) (fun j hj => by have := h2 j hj; rw [hBF] at this; show (!befB d (xs.getD j default)) = true; rw [this]; rfl) (h3.imp (fun e => by omega) (fun e => by rw [hBF] at e; show (!befB d (xs.getD i default)) = false; rw [e]; rfl))
  rw [← hBF] at cb
  clear hcut hBF
  obtain ⟨⟨x0, x1, x2, x3, x4⟩, x5, x6, x7, x8⟩ := d
  dsimp only at *
  have hbw := ball w (.cells #[.int .i64 x0, .int .i64 x1, .int .i64 x2, .int .i64 x3, .int .i64 x4, .bool x5, .bool x6, .int .i64 x7, .int .i64 x8] 45)
  have BX := Box.new w #[.int .i64 x0, .int .i64 x1, .int .i64 x2, .int .i64 x3, .int .i64 x4, .bool x5, .bool x6, .int .i64 x7, .int .i64 x8] 45
  replace h := Lib.hid h
  replace hlen := Lib.hid hlen
  replace hcut2 := Lib.hid hcut2
  replace cb := Lib.hid cb
  replace hbw := Lib.hid hbw
  replace BX := Lib.hid BX
  go_enter Try.func52, Try.ntmps52
  go_wp2_with fail
  generalize w.alloc (.cells #[.int .i64 x0, .int .i64 x1, .int .i64 x2, .int .i64 x3, .int .i64 x4, .bool x5, .bool x6, .int .i64 x7, .int .i64 x8] 45) = w1 at *
  go_loopw [5] (fun i wr => ∃ k : Nat, k ≤ n ∧ i = .int .i64 k ∧ Hid (∀ j, j < k → BF (xs.getD j default) = false) ∧ Hid (Below w1.heap.size w1 wr)) (fun i _ => n - (intOf i).toNat)
  case atStart => exact ⟨0, by omega, rfl, fun j hj => by omega, Below.refl _ _⟩
  case round =>
    obtain ⟨k, hk, rfl, HP, HB⟩ := hrel
    have hB0 := Lib.hid (bthen hbw.out HB.out)
    by_cases hlt : k < n
    · obtain ⟨b, off, rfl⟩ := h.out.addr (by omega)
      have hx := dut_at (h.out.keep hB0.out) hlt
      have hb2 := cb.out (xs.getD k default)
      obtain ⟨B, hBe⟩ : ∃ B, B = BF (xs.getD k default) := ⟨_, rfl⟩
      rw [← hBe] at hb2
      generalize hy : xs.getD k default = y at *
      obtain ⟨⟨y0, y1, y2, y3, y4⟩, y5, y6, y7, y8⟩ := y
      obtain ⟨q0, q1, q2, q3, q4, q5, q6, q7, q8⟩ := hx
      dsimp only at q0 q1 q2 q3 q4 q5 q6 q7 q8 hb2
      have r1 : (k : Int) < (n : Int) := by omega
      have gx := (BX.out.keep HB.out).grown
      have g0 := cell_regrown q0
      have g1 := cell_regrown q1
      have g2 := cell_regrown q2
      have g3 := cell_regrown q3
      have g4 := cell_regrown q4
      have g5 := cell_regrown q5
      have g6 := cell_regrown q6
      have g7 := cell_regrown q7
      have g8 := cell_regrown q8
      clear q0 q1 q2 q3 q4 q5 q6 q7 q8
      have cl : ∀ d os, Calls Try.prog 74 #[.agg #[.int .i64 x0, .int .i64 x1, .int .i64 x2, .int .i64 x3, .int .i64 x4, .bool x5, .bool x6, .int .i64 x7, .int .i64 x8], .agg #[.int .i64 y0, .int .i64 y1, .int .i64 y2, .int .i64 y3, .int .i64 y4, .bool y5, .bool y6, .int .i64 y7, .int .i64 y8]] (grow (redrawn wr d) os) fun e w'' => e = .returned (.bool B) ∧ ∃ p : Regrown, w'' = grow (redrawn wr p.d) p.os :=
        fun d os => Calls.regrown_of (hb2 _)
      replace cl := Lib.hid cl
      replace hb2 := Lib.hid hb2
      replace hBe := Lib.hid hBe
      replace hy := Lib.hid hy
      cases B with
      | false =>
        have hP2 : Hid (∀ j, j < k + 1 → BF (xs.getD j default) = false) := fun j hj => by
          by_cases e : j = k
          · subst e; rw [hy.out, ← hBe.out]
          · exact HP.out j (by omega)
        go_wp2_with fail
        refine wp_region_quiet_below (by kernel_rfl) (by kernel_rfl) ?_
        repeat (go_big_quiet_step (exact cl.out _ _))
        refine wpQuiet_nil ?_
        rintro _ ⟨⟨dq, osq⟩, rfl⟩
        have hb_ := below_regrown wr dq osq
        replace HB := Lib.hid (HB.out.keep hb_)
        generalize grow (redrawn wr dq) osq = w2 at *
        clear hb_
        go_wp2
        go_roundw
        case rel => exact ⟨k + 1, by omega, by go_num, hP2, HB⟩
        case measure => simp [intOf]; omega
      | true =>
        have hY := hcut2.out k hk HP.out (.inr (by rw [hy.out, ← hBe.out]))
        go_wp2_with fail
        refine wp_region_quiet_below (by kernel_rfl) (by kernel_rfl) ?_
        repeat (go_big_quiet_step (exact cl.out _ _))
        refine wpQuiet_nil ?_
        rintro _ ⟨⟨dq, osq⟩, rfl⟩
        have hb_ := below_regrown wr dq osq
        replace HB := Lib.hid (HB.out.keep hb_)
        generalize grow (redrawn wr dq) osq = w2 at *
        clear hb_
        have kx := (BX.out.keep HB.out).at_
        have hS := h.out.keep (bthen hbw.out HB.out)
        have hS1 := hS.take hk
        have hS2 := hS.drop hk
        have hlt1 := (BX.out.keep HB.out).lt
        have hkc : ¬ c = k := by omega
        have hc0 : ¬ c = 0 := by omega
        have hkc2 : k ≤ c := by omega
        replace hY := Lib.hid hY
        replace hS := Lib.hid hS
        replace hS1 := Lib.hid hS1
        replace hS2 := Lib.hid hS2
        go_upto_region 4 with fail
        have hb2w := HB.out.size
        have BX2 := Lib.hid (BX.out.keep HB.out)
        clear kx
        have HX : Hid (∀ w', Below w2.heap.size w2 w' → Below w2.heap.size w2 w' ∧ (w'.cell? ⟨w.heap.size, 0, none⟩ = some (.int .i64 x0) ∧ w'.cell? ⟨w.heap.size, 1, none⟩ = some (.int .i64 x1) ∧ w'.cell? ⟨w.heap.size, 2, none⟩ = some (.int .i64 x2) ∧ w'.cell? ⟨w.heap.size, 3, none⟩ = some (.int .i64 x3) ∧ w'.cell? ⟨w.heap.size, 4, none⟩ = some (.int .i64 x4) ∧ w'.cell? ⟨w.heap.size, 5, none⟩ = some (.bool x5) ∧ w'.cell? ⟨w.heap.size, 6, none⟩ = some (.bool x6) ∧ w'.cell? ⟨w.heap.size, 7, none⟩ = some (.int .i64 x7) ∧ w'.cell? ⟨w.heap.size, 8, none⟩ = some (.int .i64 x8))) := fun w' h => ⟨h, by
          have hbx := (BX2.out.keep h).at_
          exact ⟨hbx 0, hbx 1, hbx 2, hbx 3, hbx 4, hbx 5, hbx 6, hbx 7, hbx 8⟩⟩
        go_region_held3 (fun w' => Below w2.heap.size w2 w' ∧ (w'.cell? ⟨w.heap.size, 0, none⟩ = some (.int .i64 x0) ∧ w'.cell? ⟨w.heap.size, 1, none⟩ = some (.int .i64 x1) ∧ w'.cell? ⟨w.heap.size, 2, none⟩ = some (.int .i64 x2) ∧ w'.cell? ⟨w.heap.size, 3, none⟩ = some (.int .i64 x3) ∧ w'.cell? ⟨w.heap.size, 4, none⟩ = some (.int .i64 x4) ∧ w'.cell? ⟨w.heap.size, 5, none⟩ = some (.bool x5) ∧ w'.cell? ⟨w.heap.size, 6, none⟩ = some (.bool x6) ∧ w'.cell? ⟨w.heap.size, 7, none⟩ = some (.int .i64 x7) ∧ w'.cell? ⟨w.heap.size, 8, none⟩ = some (.int .i64 x8)))
          (first
            | exact HX.out _ ((Below.refl _ _).drew)
            | exact HX.out _ (by assumption)
            | exact HX.out _ (ballN (And.left (by assumption)) _)
            | exact HX.out _ (ballN (by assumption) _)
            | (trace_state; fail))
          (first
            | (refine step_append_sls eltD _ (by rfl) _ _ (by rfl) w2.heap.size (.slice (some ⟨w2.heap.size, 0, none⟩) 0 0) [] (by rfl) (own_empty dutE w2.drew 45 (Nat.le_refl _)) _ k _ (xs.take k) (by rfl) (hS1.out.keep (ballN ((Below.refl _ _).drew) _)) (by first | (simp; done) | (simp; omega)) (by simp) ?_; intro v3 w3 ho3 hg3 hb3; have HB3 : Below w2.heap.size w2 w3 := Below.grownM (M := w2.heap.size) (ballN ((Below.refl _ _).drew) _) hg3 (by simp) (fun q hq => by simp [Value.ownBlock] at hq; omega))
            | (refine step_append_sls eltD _ (by rfl) _ _ (by rfl) w2.heap.size (.slice (some ⟨w2.heap.size, 0, none⟩) 0 0) [] (by rfl) ((own_empty dutE w2.drew 45 (Nat.le_refl _)).alloc (.cells #[.int .i64 x0, .int .i64 x1, .int .i64 x2, .int .i64 x3, .int .i64 x4, .bool x5, .bool x6, .int .i64 x7, .int .i64 x8] 45)) _ k _ (xs.take k) (by rfl) (hS1.out.keep (ballN (ballN ((Below.refl _ _).drew) _) _)) (by first | (simp; done) | (simp; omega)) (by first | (simp; done) | (simp; omega)) ?_; intro v3 w3 ho3 hg3 hb3; have HB3 : Below w2.heap.size w2 w3 := Below.grownM (M := w2.heap.size) (ballN (ballN ((Below.refl _ _).drew) _) _) hg3 (by first | (simp; done) | (simp; omega)) (fun q hq => by simp [Value.ownBlock] at hq; omega); have hD3 := (Blk.new (w2.drew.alloc (.cells #[] 45)) #[.int .i64 x0, .int .i64 x1, .int .i64 x2, .int .i64 x3, .int .i64 x4, .bool x5, .bool x6, .int .i64 x7, .int .i64 x8] 45).grown hg3 (by simp [Value.ownBlock]); rw [size1] at hD3)
            | (refine step_append_sls eltD _ (by rfl) _ _ (by rfl) w2.heap.size (.slice (some ⟨w2.heap.size + 1, 0, none⟩) 0 0) [] (by rfl) (by have := own_empty dutE (k := 9) (w2.drew.alloc (.cells #[.int .i64 x0, .int .i64 x1, .int .i64 x2, .int .i64 x3, .int .i64 x4, .bool x5, .bool x6, .int .i64 x7, .int .i64 x8] 45)) 45 (base := w2.heap.size) (by simp); rwa [size1] at this) _ k _ (xs.take k) (by rfl) (hS1.out.keep (ballN (ballN ((Below.refl _ _).drew) _) _)) (by first | (simp; done) | (simp; omega)) (by first | (simp; done) | (simp; omega)) ?_; intro v3 w3 ho3 hg3 hb3; have HB3 : Below w2.heap.size w2 w3 := Below.grownM (M := w2.heap.size) (ballN (ballN ((Below.refl _ _).drew) _) _) hg3 (by first | (simp; done) | (simp; omega)) (fun q hq => by simp [Value.ownBlock] at hq; omega); have hD3 := ((Blk.new w2.drew #[.int .i64 x0, .int .i64 x1, .int .i64 x2, .int .i64 x3, .int .i64 x4, .bool x5, .bool x6, .int .i64 x7, .int .i64 x8] 45).alloc (.cells #[] 45)).grown hg3 (by simp [Value.ownBlock]))
            | (refine step_append_sls eltD _ (by rfl) _ _ (by rfl) w2.heap.size v3 _ (by rfl) (ho3.alloc _) _ 1 _ [⟨⟨x0, x1, x2, x3, x4⟩, x5, x6, x7, x8⟩] (by rfl) (Sls.one (t := 45) (Blk.new w3 #[.int .i64 x0, .int .i64 x1, .int .i64 x2, .int .i64 x3, .int .i64 x4, .bool x5, .bool x6, .int .i64 x7, .int .i64 x8] 45)) (by first | (simp; done) | (simp; omega)) (by have := HB3.size; first | (simp; done) | (simp; omega)) ?_; intro v4 w4 ho4 hg4 hb4; have HB4 : Below w2.heap.size w2 w4 := Below.grownM (M := w2.heap.size) (ballN HB3 _) hg4 (by have := HB3.size; first | (simp; done) | (simp; omega)) (fun q hq => (ho3.lt q hq).1))
            | (refine step_append_sls eltD _ (by rfl) _ _ (by rfl) w2.heap.size v3 _ (by rfl) ho3 _ 1 _ [⟨⟨x0, x1, x2, x3, x4⟩, x5, x6, x7, x8⟩] (by rfl) (Sls.one (t := 45) hD3) (by first | (simp; done) | (simp; omega)) HB3.size ?_; intro v4 w4 ho4 hg4 hb4; have HB4 : Below w2.heap.size w2 w4 := Below.grownM (M := w2.heap.size) HB3 hg4 HB3.size (fun q hq => (ho3.lt q hq).1))
            | (refine step_append_sls eltD _ (by rfl) _ _ (by rfl) w2.heap.size v4 _ (by rfl) ho4 _ (n - k) _ (xs.drop k) (by rfl) (hS2.out.keep HB4) (by first | (simp; done) | (simp; omega)) HB4.size ?_; intro v5 w5 ho5 hg5 hb5; have HB5 : Below w2.heap.size w2 w5 := Below.grownM (M := w2.heap.size) HB4 hg5 HB4.size (fun q hq => (ho4.lt q hq).1)))
        all_goals
          have e : ([] ++ (xs.take k) ++ [⟨⟨x0, x1, x2, x3, x4⟩, x5, x6, x7, x8⟩] ++ (xs.drop k) : List Dut) = YS := by rw [hY.out]; simp
          rw [e] at ho5
          obtain ⟨A5, c5, rfl⟩ := own_slice ho5
          have hD5 := (Sls.of_owns dutE_len ho5 rfl).2
          have hC5 := own_cap ho5
          have hB5 := bthen (bthen hbw.out HB.out) HB5
          replace hD5 := Lib.hid hD5
          replace hB5 := Lib.hid hB5
          replace hC5 := Lib.hid hC5
          clear ho3 ho4 ho5 hg3 hg4 hg5 hb3 hb4 hb5 HB3 HB4 HB5 e
          go_wp2
          go_ret
          exact ⟨A5, c5, rfl, hD5.out, hC5.out, hB5.out⟩
    · obtain rfl : k = n := by omega
      have hY := hcut2.out k (Nat.le_refl _) HP.out (.inl rfl)
      rw [List.take_of_length_le (by rw [hlen.out]; exact Nat.le_refl _), List.drop_of_length_le (by rw [hlen.out]; exact Nat.le_refl _)] at hY
      rcases Nat.eq_zero_or_pos k with hk0 | hk0
      · subst hk0
        have hx0 : xs = [] := List.length_eq_zero_iff.1 hlen.out
        rw [hx0] at hY
        replace hY := Lib.hid hY
        replace hx0 := Lib.hid hx0
        go_wp2_with fail
        refine wp_region_quiet_below (by kernel_rfl) (by kernel_rfl) ?_
        repeat (go_big_quiet_step (fail))
        refine wpQuiet_nil ?_
        rintro _ ⟨⟨dq, osq⟩, rfl⟩
        have hb_ := below_regrown wr dq osq
        replace HB := Lib.hid (HB.out.keep hb_)
        generalize grow (redrawn wr dq) osq = w2 at *
        clear hb_
        have BX2 := Lib.hid (BX.out.keep HB.out)
        go_upto_region 4 with fail
        have HX : Hid (∀ w', Below w2.heap.size w2 w' → Below w2.heap.size w2 w' ∧ (w'.cell? ⟨w.heap.size, 0, none⟩ = some (.int .i64 x0) ∧ w'.cell? ⟨w.heap.size, 1, none⟩ = some (.int .i64 x1) ∧ w'.cell? ⟨w.heap.size, 2, none⟩ = some (.int .i64 x2) ∧ w'.cell? ⟨w.heap.size, 3, none⟩ = some (.int .i64 x3) ∧ w'.cell? ⟨w.heap.size, 4, none⟩ = some (.int .i64 x4) ∧ w'.cell? ⟨w.heap.size, 5, none⟩ = some (.bool x5) ∧ w'.cell? ⟨w.heap.size, 6, none⟩ = some (.bool x6) ∧ w'.cell? ⟨w.heap.size, 7, none⟩ = some (.int .i64 x7) ∧ w'.cell? ⟨w.heap.size, 8, none⟩ = some (.int .i64 x8))) := fun w' h => ⟨h, by
          have hbx := (BX2.out.keep h).at_
          exact ⟨hbx 0, hbx 1, hbx 2, hbx 3, hbx 4, hbx 5, hbx 6, hbx 7, hbx 8⟩⟩
        go_region_held3 (fun w' => Below w2.heap.size w2 w' ∧ (w'.cell? ⟨w.heap.size, 0, none⟩ = some (.int .i64 x0) ∧ w'.cell? ⟨w.heap.size, 1, none⟩ = some (.int .i64 x1) ∧ w'.cell? ⟨w.heap.size, 2, none⟩ = some (.int .i64 x2) ∧ w'.cell? ⟨w.heap.size, 3, none⟩ = some (.int .i64 x3) ∧ w'.cell? ⟨w.heap.size, 4, none⟩ = some (.int .i64 x4) ∧ w'.cell? ⟨w.heap.size, 5, none⟩ = some (.bool x5) ∧ w'.cell? ⟨w.heap.size, 6, none⟩ = some (.bool x6) ∧ w'.cell? ⟨w.heap.size, 7, none⟩ = some (.int .i64 x7) ∧ w'.cell? ⟨w.heap.size, 8, none⟩ = some (.int .i64 x8)))
          (first
            | exact HX.out _ ((Below.refl _ _).drew)
            | exact HX.out _ (by assumption)
            | exact HX.out _ (ballN (And.left (by assumption)) _)
            | exact HX.out _ (ballN (by assumption) _)
            | (trace_state; fail))
          (first
            | (refine step_append_sls eltD _ (by rfl) _ _ (by rfl) w2.heap.size (.slice (some ⟨w2.heap.size, 0, none⟩) 0 0) [] (by rfl) (own_empty dutE w2.drew 45 (Nat.le_refl _)) _ 0 _ ([]) (by rfl) (Sls.empty _) (by first | (simp; done) | (simp; omega)) (by simp) ?_; intro v3 w3 ho3 hg3 hb3; have HB3 : Below w2.heap.size w2 w3 := Below.grownM (M := w2.heap.size) (ballN ((Below.refl _ _).drew) _) hg3 (by simp) (fun q hq => by simp [Value.ownBlock] at hq; omega))
            | (refine step_append_sls eltD _ (by rfl) _ _ (by rfl) w2.heap.size (.slice (some ⟨w2.heap.size, 0, none⟩) 0 0) [] (by rfl) ((own_empty dutE w2.drew 45 (Nat.le_refl _)).alloc (.cells #[.int .i64 x0, .int .i64 x1, .int .i64 x2, .int .i64 x3, .int .i64 x4, .bool x5, .bool x6, .int .i64 x7, .int .i64 x8] 45)) _ 0 _ ([]) (by rfl) (Sls.empty _) (by first | (simp; done) | (simp; omega)) (by first | (simp; done) | (simp; omega)) ?_; intro v3 w3 ho3 hg3 hb3; have HB3 : Below w2.heap.size w2 w3 := Below.grownM (M := w2.heap.size) (ballN (ballN ((Below.refl _ _).drew) _) _) hg3 (by first | (simp; done) | (simp; omega)) (fun q hq => by simp [Value.ownBlock] at hq; omega); have hD3 := (Blk.new (w2.drew.alloc (.cells #[] 45)) #[.int .i64 x0, .int .i64 x1, .int .i64 x2, .int .i64 x3, .int .i64 x4, .bool x5, .bool x6, .int .i64 x7, .int .i64 x8] 45).grown hg3 (by simp [Value.ownBlock]); rw [size1] at hD3)
            | (refine step_append_sls eltD _ (by rfl) _ _ (by rfl) w2.heap.size (.slice (some ⟨w2.heap.size + 1, 0, none⟩) 0 0) [] (by rfl) (by have := own_empty dutE (k := 9) (w2.drew.alloc (.cells #[.int .i64 x0, .int .i64 x1, .int .i64 x2, .int .i64 x3, .int .i64 x4, .bool x5, .bool x6, .int .i64 x7, .int .i64 x8] 45)) 45 (base := w2.heap.size) (by simp); rwa [size1] at this) _ 0 _ ([]) (by rfl) (Sls.empty _) (by first | (simp; done) | (simp; omega)) (by first | (simp; done) | (simp; omega)) ?_; intro v3 w3 ho3 hg3 hb3; have HB3 : Below w2.heap.size w2 w3 := Below.grownM (M := w2.heap.size) (ballN (ballN ((Below.refl _ _).drew) _) _) hg3 (by first | (simp; done) | (simp; omega)) (fun q hq => by simp [Value.ownBlock] at hq; omega); have hD3 := ((Blk.new w2.drew #[.int .i64 x0, .int .i64 x1, .int .i64 x2, .int .i64 x3, .int .i64 x4, .bool x5, .bool x6, .int .i64 x7, .int .i64 x8] 45).alloc (.cells #[] 45)).grown hg3 (by simp [Value.ownBlock]))
            | (refine step_append_sls eltD _ (by rfl) _ _ (by rfl) w2.heap.size v3 _ (by rfl) (ho3.alloc _) _ 1 _ [⟨⟨x0, x1, x2, x3, x4⟩, x5, x6, x7, x8⟩] (by rfl) (Sls.one (t := 45) (Blk.new w3 #[.int .i64 x0, .int .i64 x1, .int .i64 x2, .int .i64 x3, .int .i64 x4, .bool x5, .bool x6, .int .i64 x7, .int .i64 x8] 45)) (by first | (simp; done) | (simp; omega)) (by have := HB3.size; first | (simp; done) | (simp; omega)) ?_; intro v4 w4 ho4 hg4 hb4; have HB4 : Below w2.heap.size w2 w4 := Below.grownM (M := w2.heap.size) (ballN HB3 _) hg4 (by have := HB3.size; first | (simp; done) | (simp; omega)) (fun q hq => (ho3.lt q hq).1))
            | (refine step_append_sls eltD _ (by rfl) _ _ (by rfl) w2.heap.size v3 _ (by rfl) ho3 _ 1 _ [⟨⟨x0, x1, x2, x3, x4⟩, x5, x6, x7, x8⟩] (by rfl) (Sls.one (t := 45) hD3) (by first | (simp; done) | (simp; omega)) HB3.size ?_; intro v4 w4 ho4 hg4 hb4; have HB4 : Below w2.heap.size w2 w4 := Below.grownM (M := w2.heap.size) HB3 hg4 HB3.size (fun q hq => (ho3.lt q hq).1))
            | (refine step_append_sls eltD _ (by rfl) _ _ (by rfl) w2.heap.size v4 _ (by rfl) ho4 _ 0 _ ([]) (by rfl) (Sls.empty _) (by first | (simp; done) | (simp; omega)) HB4.size ?_; intro v5 w5 ho5 hg5 hb5; have HB5 : Below w2.heap.size w2 w5 := Below.grownM (M := w2.heap.size) HB4 hg5 HB4.size (fun q hq => (ho4.lt q hq).1)))
        all_goals
          have e : ([] ++ ([]) ++ [⟨⟨x0, x1, x2, x3, x4⟩, x5, x6, x7, x8⟩] ++ ([]) : List Dut) = YS := by rw [hY.out]; simp
          rw [e] at ho5
          obtain ⟨A5, c5, rfl⟩ := own_slice ho5
          have hD5 := (Sls.of_owns dutE_len ho5 rfl).2
          have hC5 := own_cap ho5
          have hB5 := bthen (bthen hbw.out HB.out) HB5
          replace hD5 := Lib.hid hD5
          replace hB5 := Lib.hid hB5
          replace hC5 := Lib.hid hC5
          clear ho3 ho4 ho5 hg3 hg4 hg5 hb3 hb4 hb5 HB3 HB4 HB5 e
          go_wp2
          go_ret
          exact ⟨A5, c5, rfl, hD5.out, hC5.out, hB5.out⟩
      · have hS := h.out.keep (bthen hbw.out HB.out)
        obtain ⟨b, off, rfl⟩ := h.out.addr hk0
        have hc0 : ¬ c = 0 := by omega
        have hxl : xs.length ≤ 100000 := by rw [hlen.out]; exact hn
        replace hY := Lib.hid hY
        go_wp2_with fail
        refine wp_region_quiet_below (by kernel_rfl) (by kernel_rfl) ?_
        repeat (go_big_quiet_step (fail))
        refine wpQuiet_nil ?_
        rintro _ ⟨⟨dq, osq⟩, rfl⟩
        have hb_ := below_regrown wr dq osq
        replace HB := Lib.hid (HB.out.keep hb_)
        generalize grow (redrawn wr dq) osq = w2 at *
        clear hb_
        have hS1 := Lib.hid (h.out.keep (bthen hbw.out HB.out))
        have BX2 := Lib.hid (BX.out.keep HB.out)
        clear hS
        go_upto_region 4 with fail
        by_cases hck : c = k
        · subst hck
          have HX : Hid (∀ w', Below w2.heap.size w2 w' → Below w2.heap.size w2 w' ∧ (w'.cell? ⟨w.heap.size, 0, none⟩ = some (.int .i64 x0) ∧ w'.cell? ⟨w.heap.size, 1, none⟩ = some (.int .i64 x1) ∧ w'.cell? ⟨w.heap.size, 2, none⟩ = some (.int .i64 x2) ∧ w'.cell? ⟨w.heap.size, 3, none⟩ = some (.int .i64 x3) ∧ w'.cell? ⟨w.heap.size, 4, none⟩ = some (.int .i64 x4) ∧ w'.cell? ⟨w.heap.size, 5, none⟩ = some (.bool x5) ∧ w'.cell? ⟨w.heap.size, 6, none⟩ = some (.bool x6) ∧ w'.cell? ⟨w.heap.size, 7, none⟩ = some (.int .i64 x7) ∧ w'.cell? ⟨w.heap.size, 8, none⟩ = some (.int .i64 x8))) := fun w' h => ⟨h, by
            have hbx := (BX2.out.keep h).at_
            exact ⟨hbx 0, hbx 1, hbx 2, hbx 3, hbx 4, hbx 5, hbx 6, hbx 7, hbx 8⟩⟩
          go_region_held3 (fun w' => Below w2.heap.size w2 w' ∧ (w'.cell? ⟨w.heap.size, 0, none⟩ = some (.int .i64 x0) ∧ w'.cell? ⟨w.heap.size, 1, none⟩ = some (.int .i64 x1) ∧ w'.cell? ⟨w.heap.size, 2, none⟩ = some (.int .i64 x2) ∧ w'.cell? ⟨w.heap.size, 3, none⟩ = some (.int .i64 x3) ∧ w'.cell? ⟨w.heap.size, 4, none⟩ = some (.int .i64 x4) ∧ w'.cell? ⟨w.heap.size, 5, none⟩ = some (.bool x5) ∧ w'.cell? ⟨w.heap.size, 6, none⟩ = some (.bool x6) ∧ w'.cell? ⟨w.heap.size, 7, none⟩ = some (.int .i64 x7) ∧ w'.cell? ⟨w.heap.size, 8, none⟩ = some (.int .i64 x8)))
            (first
              | exact HX.out _ ((Below.refl _ _).drew)
              | exact HX.out _ (by assumption)
              | exact HX.out _ (ballN (And.left (by assumption)) _)
              | exact HX.out _ (ballN (by assumption) _)
              | (trace_state; fail))
            (first
              | (refine step_append_sls eltD _ (by rfl) _ _ (by rfl) w2.heap.size (.slice (some ⟨w2.heap.size, 0, none⟩) 0 0) [] (by rfl) (own_empty dutE w2.drew 45 (Nat.le_refl _)) _ c _ (xs) (by rfl) (hS1.out.keep (ballN ((Below.refl _ _).drew) _)) (by first | (simp; done) | (simp; omega)) (by simp) ?_; intro v3 w3 ho3 hg3 hb3; have HB3 : Below w2.heap.size w2 w3 := Below.grownM (M := w2.heap.size) (ballN ((Below.refl _ _).drew) _) hg3 (by simp) (fun q hq => by simp [Value.ownBlock] at hq; omega))
              | (refine step_append_sls eltD _ (by rfl) _ _ (by rfl) w2.heap.size (.slice (some ⟨w2.heap.size, 0, none⟩) 0 0) [] (by rfl) ((own_empty dutE w2.drew 45 (Nat.le_refl _)).alloc (.cells #[.int .i64 x0, .int .i64 x1, .int .i64 x2, .int .i64 x3, .int .i64 x4, .bool x5, .bool x6, .int .i64 x7, .int .i64 x8] 45)) _ c _ (xs) (by rfl) (hS1.out.keep (ballN (ballN ((Below.refl _ _).drew) _) _)) (by first | (simp; done) | (simp; omega)) (by first | (simp; done) | (simp; omega)) ?_; intro v3 w3 ho3 hg3 hb3; have HB3 : Below w2.heap.size w2 w3 := Below.grownM (M := w2.heap.size) (ballN (ballN ((Below.refl _ _).drew) _) _) hg3 (by first | (simp; done) | (simp; omega)) (fun q hq => by simp [Value.ownBlock] at hq; omega); have hD3 := (Blk.new (w2.drew.alloc (.cells #[] 45)) #[.int .i64 x0, .int .i64 x1, .int .i64 x2, .int .i64 x3, .int .i64 x4, .bool x5, .bool x6, .int .i64 x7, .int .i64 x8] 45).grown hg3 (by simp [Value.ownBlock]); rw [size1] at hD3)
              | (refine step_append_sls eltD _ (by rfl) _ _ (by rfl) w2.heap.size (.slice (some ⟨w2.heap.size + 1, 0, none⟩) 0 0) [] (by rfl) (by have := own_empty dutE (k := 9) (w2.drew.alloc (.cells #[.int .i64 x0, .int .i64 x1, .int .i64 x2, .int .i64 x3, .int .i64 x4, .bool x5, .bool x6, .int .i64 x7, .int .i64 x8] 45)) 45 (base := w2.heap.size) (by simp); rwa [size1] at this) _ c _ (xs) (by rfl) (hS1.out.keep (ballN (ballN ((Below.refl _ _).drew) _) _)) (by first | (simp; done) | (simp; omega)) (by first | (simp; done) | (simp; omega)) ?_; intro v3 w3 ho3 hg3 hb3; have HB3 : Below w2.heap.size w2 w3 := Below.grownM (M := w2.heap.size) (ballN (ballN ((Below.refl _ _).drew) _) _) hg3 (by first | (simp; done) | (simp; omega)) (fun q hq => by simp [Value.ownBlock] at hq; omega); have hD3 := ((Blk.new w2.drew #[.int .i64 x0, .int .i64 x1, .int .i64 x2, .int .i64 x3, .int .i64 x4, .bool x5, .bool x6, .int .i64 x7, .int .i64 x8] 45).alloc (.cells #[] 45)).grown hg3 (by simp [Value.ownBlock]))
              | (refine step_append_sls eltD _ (by rfl) _ _ (by rfl) w2.heap.size v3 _ (by rfl) (ho3.alloc _) _ 1 _ [⟨⟨x0, x1, x2, x3, x4⟩, x5, x6, x7, x8⟩] (by rfl) (Sls.one (t := 45) (Blk.new w3 #[.int .i64 x0, .int .i64 x1, .int .i64 x2, .int .i64 x3, .int .i64 x4, .bool x5, .bool x6, .int .i64 x7, .int .i64 x8] 45)) (by first | (simp; done) | (simp; omega)) (by have := HB3.size; first | (simp; done) | (simp; omega)) ?_; intro v4 w4 ho4 hg4 hb4; have HB4 : Below w2.heap.size w2 w4 := Below.grownM (M := w2.heap.size) (ballN HB3 _) hg4 (by have := HB3.size; first | (simp; done) | (simp; omega)) (fun q hq => (ho3.lt q hq).1))
              | (refine step_append_sls eltD _ (by rfl) _ _ (by rfl) w2.heap.size v3 _ (by rfl) ho3 _ 1 _ [⟨⟨x0, x1, x2, x3, x4⟩, x5, x6, x7, x8⟩] (by rfl) (Sls.one (t := 45) hD3) (by first | (simp; done) | (simp; omega)) HB3.size ?_; intro v4 w4 ho4 hg4 hb4; have HB4 : Below w2.heap.size w2 w4 := Below.grownM (M := w2.heap.size) HB3 hg4 HB3.size (fun q hq => (ho3.lt q hq).1))
              | (refine step_append_sls eltD _ (by rfl) _ _ (by rfl) w2.heap.size v4 _ (by rfl) ho4 _ 0 _ ([]) (by rfl) (Sls.empty _) (by first | (simp; done) | (simp; omega)) HB4.size ?_; intro v5 w5 ho5 hg5 hb5; have HB5 : Below w2.heap.size w2 w5 := Below.grownM (M := w2.heap.size) HB4 hg5 HB4.size (fun q hq => (ho4.lt q hq).1)))
          all_goals
            have e : ([] ++ (xs) ++ [⟨⟨x0, x1, x2, x3, x4⟩, x5, x6, x7, x8⟩] ++ ([]) : List Dut) = YS := by rw [hY.out]; simp
            rw [e] at ho5
            obtain ⟨A5, c5, rfl⟩ := own_slice ho5
            have hD5 := (Sls.of_owns dutE_len ho5 rfl).2
            have hC5 := own_cap ho5
            have hB5 := bthen (bthen hbw.out HB.out) HB5
            replace hD5 := Lib.hid hD5
            replace hB5 := Lib.hid hB5
            replace hC5 := Lib.hid hC5
            clear ho3 ho4 ho5 hg3 hg4 hg5 hb3 hb4 hb5 HB3 HB4 HB5 e
            go_wp2
            go_ret
            exact ⟨A5, c5, rfl, hD5.out, hC5.out, hB5.out⟩
        · have hkc2 : k ≤ c := hc
          have HX : Hid (∀ w', Below w2.heap.size w2 w' → Below w2.heap.size w2 w' ∧ (w'.cell? ⟨w.heap.size, 0, none⟩ = some (.int .i64 x0) ∧ w'.cell? ⟨w.heap.size, 1, none⟩ = some (.int .i64 x1) ∧ w'.cell? ⟨w.heap.size, 2, none⟩ = some (.int .i64 x2) ∧ w'.cell? ⟨w.heap.size, 3, none⟩ = some (.int .i64 x3) ∧ w'.cell? ⟨w.heap.size, 4, none⟩ = some (.int .i64 x4) ∧ w'.cell? ⟨w.heap.size, 5, none⟩ = some (.bool x5) ∧ w'.cell? ⟨w.heap.size, 6, none⟩ = some (.bool x6) ∧ w'.cell? ⟨w.heap.size, 7, none⟩ = some (.int .i64 x7) ∧ w'.cell? ⟨w.heap.size, 8, none⟩ = some (.int .i64 x8))) := fun w' h => ⟨h, by
            have hbx := (BX2.out.keep h).at_
            exact ⟨hbx 0, hbx 1, hbx 2, hbx 3, hbx 4, hbx 5, hbx 6, hbx 7, hbx 8⟩⟩
          go_region_held3 (fun w' => Below w2.heap.size w2 w' ∧ (w'.cell? ⟨w.heap.size, 0, none⟩ = some (.int .i64 x0) ∧ w'.cell? ⟨w.heap.size, 1, none⟩ = some (.int .i64 x1) ∧ w'.cell? ⟨w.heap.size, 2, none⟩ = some (.int .i64 x2) ∧ w'.cell? ⟨w.heap.size, 3, none⟩ = some (.int .i64 x3) ∧ w'.cell? ⟨w.heap.size, 4, none⟩ = some (.int .i64 x4) ∧ w'.cell? ⟨w.heap.size, 5, none⟩ = some (.bool x5) ∧ w'.cell? ⟨w.heap.size, 6, none⟩ = some (.bool x6) ∧ w'.cell? ⟨w.heap.size, 7, none⟩ = some (.int .i64 x7) ∧ w'.cell? ⟨w.heap.size, 8, none⟩ = some (.int .i64 x8)))
            (first
              | exact HX.out _ ((Below.refl _ _).drew)
              | exact HX.out _ (by assumption)
              | exact HX.out _ (ballN (And.left (by assumption)) _)
              | exact HX.out _ (ballN (by assumption) _)
              | (trace_state; fail))
            (first
              | (refine step_append_sls eltD _ (by rfl) _ _ (by rfl) w2.heap.size (.slice (some ⟨w2.heap.size, 0, none⟩) 0 0) [] (by rfl) (own_empty dutE w2.drew 45 (Nat.le_refl _)) _ k _ (xs) (by rfl) (hS1.out.keep (ballN ((Below.refl _ _).drew) _)) (by first | (simp; done) | (simp; omega)) (by simp) ?_; intro v3 w3 ho3 hg3 hb3; have HB3 : Below w2.heap.size w2 w3 := Below.grownM (M := w2.heap.size) (ballN ((Below.refl _ _).drew) _) hg3 (by simp) (fun q hq => by simp [Value.ownBlock] at hq; omega))
              | (refine step_append_sls eltD _ (by rfl) _ _ (by rfl) w2.heap.size (.slice (some ⟨w2.heap.size, 0, none⟩) 0 0) [] (by rfl) ((own_empty dutE w2.drew 45 (Nat.le_refl _)).alloc (.cells #[.int .i64 x0, .int .i64 x1, .int .i64 x2, .int .i64 x3, .int .i64 x4, .bool x5, .bool x6, .int .i64 x7, .int .i64 x8] 45)) _ k _ (xs) (by rfl) (hS1.out.keep (ballN (ballN ((Below.refl _ _).drew) _) _)) (by first | (simp; done) | (simp; omega)) (by first | (simp; done) | (simp; omega)) ?_; intro v3 w3 ho3 hg3 hb3; have HB3 : Below w2.heap.size w2 w3 := Below.grownM (M := w2.heap.size) (ballN (ballN ((Below.refl _ _).drew) _) _) hg3 (by first | (simp; done) | (simp; omega)) (fun q hq => by simp [Value.ownBlock] at hq; omega); have hD3 := (Blk.new (w2.drew.alloc (.cells #[] 45)) #[.int .i64 x0, .int .i64 x1, .int .i64 x2, .int .i64 x3, .int .i64 x4, .bool x5, .bool x6, .int .i64 x7, .int .i64 x8] 45).grown hg3 (by simp [Value.ownBlock]); rw [size1] at hD3)
              | (refine step_append_sls eltD _ (by rfl) _ _ (by rfl) w2.heap.size (.slice (some ⟨w2.heap.size + 1, 0, none⟩) 0 0) [] (by rfl) (by have := own_empty dutE (k := 9) (w2.drew.alloc (.cells #[.int .i64 x0, .int .i64 x1, .int .i64 x2, .int .i64 x3, .int .i64 x4, .bool x5, .bool x6, .int .i64 x7, .int .i64 x8] 45)) 45 (base := w2.heap.size) (by simp); rwa [size1] at this) _ k _ (xs) (by rfl) (hS1.out.keep (ballN (ballN ((Below.refl _ _).drew) _) _)) (by first | (simp; done) | (simp; omega)) (by first | (simp; done) | (simp; omega)) ?_; intro v3 w3 ho3 hg3 hb3; have HB3 : Below w2.heap.size w2 w3 := Below.grownM (M := w2.heap.size) (ballN (ballN ((Below.refl _ _).drew) _) _) hg3 (by first | (simp; done) | (simp; omega)) (fun q hq => by simp [Value.ownBlock] at hq; omega); have hD3 := ((Blk.new w2.drew #[.int .i64 x0, .int .i64 x1, .int .i64 x2, .int .i64 x3, .int .i64 x4, .bool x5, .bool x6, .int .i64 x7, .int .i64 x8] 45).alloc (.cells #[] 45)).grown hg3 (by simp [Value.ownBlock]))
              | (refine step_append_sls eltD _ (by rfl) _ _ (by rfl) w2.heap.size v3 _ (by rfl) (ho3.alloc _) _ 1 _ [⟨⟨x0, x1, x2, x3, x4⟩, x5, x6, x7, x8⟩] (by rfl) (Sls.one (t := 45) (Blk.new w3 #[.int .i64 x0, .int .i64 x1, .int .i64 x2, .int .i64 x3, .int .i64 x4, .bool x5, .bool x6, .int .i64 x7, .int .i64 x8] 45)) (by first | (simp; done) | (simp; omega)) (by have := HB3.size; first | (simp; done) | (simp; omega)) ?_; intro v4 w4 ho4 hg4 hb4; have HB4 : Below w2.heap.size w2 w4 := Below.grownM (M := w2.heap.size) (ballN HB3 _) hg4 (by have := HB3.size; first | (simp; done) | (simp; omega)) (fun q hq => (ho3.lt q hq).1))
              | (refine step_append_sls eltD _ (by rfl) _ _ (by rfl) w2.heap.size v3 _ (by rfl) ho3 _ 1 _ [⟨⟨x0, x1, x2, x3, x4⟩, x5, x6, x7, x8⟩] (by rfl) (Sls.one (t := 45) hD3) (by first | (simp; done) | (simp; omega)) HB3.size ?_; intro v4 w4 ho4 hg4 hb4; have HB4 : Below w2.heap.size w2 w4 := Below.grownM (M := w2.heap.size) HB3 hg4 HB3.size (fun q hq => (ho3.lt q hq).1))
              | (refine step_append_sls eltD _ (by rfl) _ _ (by rfl) w2.heap.size v4 _ (by rfl) ho4 _ 0 _ ([]) (by rfl) (Sls.empty _) (by first | (simp; done) | (simp; omega)) HB4.size ?_; intro v5 w5 ho5 hg5 hb5; have HB5 : Below w2.heap.size w2 w5 := Below.grownM (M := w2.heap.size) HB4 hg5 HB4.size (fun q hq => (ho4.lt q hq).1)))
          all_goals
            have e : ([] ++ (xs) ++ [⟨⟨x0, x1, x2, x3, x4⟩, x5, x6, x7, x8⟩] ++ ([]) : List Dut) = YS := by rw [hY.out]; simp
            rw [e] at ho5
            obtain ⟨A5, c5, rfl⟩ := own_slice ho5
            have hD5 := (Sls.of_owns dutE_len ho5 rfl).2
            have hC5 := own_cap ho5
            have hB5 := bthen (bthen hbw.out HB.out) HB5
            replace hD5 := Lib.hid hD5
            replace hB5 := Lib.hid hB5
            replace hC5 := Lib.hid hC5
            clear ho3 ho4 ho5 hg3 hg4 hg5 hb3 hb4 hb5 HB3 HB4 HB5 e
            go_wp2
            go_ret
            exact ⟨A5, c5, rfl, hD5.out, hC5.out, hB5.out⟩
end Sw
end Go.Proofs.Ytdlgdmbcbenlbaa
