/- hopmeshref52.InForce. -/
import Derived.Test.YtnkgmpmedkegbaaSw17
namespace Go.Proofs.Ytnkgmpmedkegbaa
open Go Go.RowKit Go.Sort
namespace Sw
open Mm
/-- whether a cell is in force in a slot -/
def forceN (cs : List Cel) (l : List Chg) (c : Cel) (x : Int) : Bool := l.foldl (fun b ch => if ch.slot ≤ x ∧ ch.cell = c then ch.add else b) (decide (c ∈ cs))
theorem forceN_snoc (cs : List Cel) (l : List Chg) (c : Cel) (x : Int) (ch : Chg) : forceN cs (l ++ [ch]) c x = if ch.slot ≤ x ∧ ch.cell = c then ch.add else forceN cs l c x := by unfold forceN; rw [List.foldl_append]; rfl
set_option maxRecDepth 100000 in
set_option maxHeartbeats 4000000 in
theorem inForce_any (L O : Int) (A : Option Addr) (n cp : Nat) (cs : List Cel) (B : Option Addr) (m cq : Nat) (l : List Chg) (c : Cel) (x : Int) (w : World) (h1 : CelS w A n cs) (h2 : ChgS w B m l) :
    Calls Try.prog 69 #[.agg #[.int .i64 L, .int .i64 O, .slice A n cp], .slice B m cq, .agg #[.int .i64 c.slot, .int .i64 c.offset, .int .i64 c.frm, .int .i64 c.to, .int .i64 c.flow], .int .i64 x] w fun e w' => e = .returned (.bool (forceN cs l c x)) ∧ Below w.heap.size w w' := by
  have hl2 := h2.len
  have hs2 := h2.small
  unfold maxLen at hs2
  have hb2 := ballN (ball w (.cells #[.int .i64 L, .int .i64 O, .slice A n cp] 24)) (.cells #[.int .i64 c.slot, .int .i64 c.offset, .int .i64 c.frm, .int .i64 c.to, .int .i64 c.flow] 34)
  have BX := (Box.new w #[.int .i64 L, .int .i64 O, .slice A n cp] 24).alloc (.cells #[.int .i64 c.slot, .int .i64 c.offset, .int .i64 c.frm, .int .i64 c.to, .int .i64 c.flow] 34)
  have BC := Box.new (w.alloc (.cells #[.int .i64 L, .int .i64 O, .slice A n cp] 24)) #[.int .i64 c.slot, .int .i64 c.offset, .int .i64 c.frm, .int .i64 c.to, .int .i64 c.flow] 34
  rw [size1] at BC
  have cH := fun W (h : CelS W A n cs) => has_any A n cp cs c W h
  have h0 : forceN cs (l.take 0) c x = decide (c ∈ cs) := rfl
  have hsn := fun k (hk : k < l.length) => forceN_snoc cs (l.take k) c x (l.getD k default)
  have hfin : forceN cs l c x = forceN cs (l.take m) c x := by rw [← hl2, List.take_length]
  have ke := fun d W => eql_cel d c W
  have hEq : Hid (∀ d, eqC d c = decide (d = c)) := fun _ => rfl
  generalize decide (c ∈ cs) = IN at *
  generalize eqC = E at *
  obtain ⟨c0, c1, c2, c3, c4⟩ := c
  dsimp only at *
  replace h1 := Lib.hid h1
  replace h2 := Lib.hid h2
  replace hl2 := Lib.hid hl2
  replace hb2 := Lib.hid hb2
  replace BX := Lib.hid BX
  replace BC := Lib.hid BC
  replace cH := Lib.hid cH
  replace h0 := Lib.hid h0
  replace hsn := Lib.hid hsn
  replace hfin := Lib.hid hfin
  replace ke := Lib.hid ke
  have kx := BX.out.at_
  have kb := BC.out.at_
  go_enter Try.func69, Try.ntmps69
  go_wp2_with fail
  refine (cH.out _ (h1.out.keep hb2.out)).mono ?_
  rintro e w1 ⟨rfl, hb_⟩
  clear kx kb
  replace hb2 := Lib.hid (hb2.out.keep hb_)
  replace BC := Lib.hid (BC.out.keep hb_)
  clear hb_ BX cH
  go_wp2_with fail
  go_loopw [9, 10] (fun o i wr => ∃ (k : Nat) (b : Bool), k ≤ m ∧ i = .int .i64 k ∧ o = .bool b ∧ Hid (forceN cs (l.take k) ⟨c0, c1, c2, c3, c4⟩ x = b) ∧ Hid (Below w1.heap.size w1 wr)) (fun _ i _ => m - (intOf i).toNat)
  case atStart => exact ⟨0, IN, by omega, rfl, rfl, h0.out, Below.refl _ _⟩
  case round =>
    obtain ⟨k, bv, hk, rfl, rfl, HF, HB⟩ := hrel
    have hB := bthen hb2.out HB.out
    by_cases hlt : k < m
    · obtain ⟨b, off, rfl⟩ := h2.out.addr (by omega)
      have hkl : k < l.length := by rw [hl2.out]; exact hlt
      have hx := chg_at (h2.out.keep hB) hlt
      have hs := hsn.out k hkl
      rw [← take_snoc hkl, HF.out] at hs
      have hk2 := ke.out (l.getD k default).cell
      have hme := hEq.out (l.getD k default).cell
      generalize l.getD k default = ch at *
      obtain ⟨xs, xa, x0, x1, x2, x3, x4⟩ := ch
      obtain ⟨q0, q1, q2, q3, q4, q5, q6⟩ := hx
      dsimp only at q0 q1 q2 q3 q4 q5 q6 hk2 hs hme
      have g0 := cell_regrown q0
      have g2 := cell_regrown q2
      have g3 := cell_regrown q3
      have g4 := cell_regrown q4
      have g5 := cell_regrown q5
      have g6 := cell_regrown q6
      have BR := BC.out.keep HB.out
      have gx := BR.grown
      have r1 : (k : Int) < (m : Int) := by omega
      generalize E ⟨x0, x1, x2, x3, x4⟩ ⟨c0, c1, c2, c3, c4⟩ = Q at *
      have hq1 : Hid (∀ W, Below wr.heap.size wr W → W.cell? ⟨b, off + k * 7 + 1, none⟩ = some (.bool xa)) := fun W h => (h.cell (p := ⟨b, off + k * 7 + 1, none⟩) (World.block_lt_of_cell? wr _ q1)).trans q1
      have hK := Lib.hid (Below.refl wr.heap.size wr)
      clear q0 q1 q2 q3 q4 q5 q6
      replace hs := Lib.hid hs
      replace hme := Lib.hid hme
      replace BR := Lib.hid BR
      replace hB := Lib.hid hB
      by_cases hle : xs ≤ x
      · cases Q with
        | true =>
          have hf : Hid (forceN cs (l.take (k + 1)) ⟨c0, c1, c2, c3, c4⟩ x = xa) := by
            have := hme.out
            rw [eq_comm, decide_eq_true_eq] at this
            show _ = _
            rw [hs.out, if_pos ⟨hle, this⟩]
          go_wp2_with fail
          refine wp_region_quiet_below (by kernel_rfl) (by kernel_rfl) ?_
          repeat (go_big_quiet_step (fail))
          refine wpQuiet_nil ?_
          rintro _ ⟨⟨dq, osq⟩, rfl⟩
          have hb_ := below_regrown wr dq osq
          replace HB := Lib.hid (HB.out.keep hb_)
          replace hK := Lib.hid (hK.out.keep hb_)
          generalize grow (redrawn wr dq) osq = w2 at *
          clear hb_
          have q1 := hq1.out w2 hK.out
          go_wp2
          go_roundw
          case rel => exact ⟨k + 1, xa, by omega, by go_num, rfl, hf, HB⟩
          case measure => simp [intOf]; omega
        | false =>
          have hf : Hid (forceN cs (l.take (k + 1)) ⟨c0, c1, c2, c3, c4⟩ x = bv) := by
            have := hme.out
            rw [eq_comm, decide_eq_false_iff_not] at this
            show _ = _
            rw [hs.out, if_neg (fun h => this h.2)]
          go_wp2_with fail
          refine wp_region_quiet_below (by kernel_rfl) (by kernel_rfl) ?_
          repeat (go_big_quiet_step (fail))
          refine wpQuiet_nil ?_
          rintro _ ⟨⟨dq, osq⟩, rfl⟩
          have hb_ := below_regrown wr dq osq
          replace HB := Lib.hid (HB.out.keep hb_)
          generalize grow (redrawn wr dq) osq = w2 at *
          clear hb_
          go_wp2
          go_roundw
          case rel => exact ⟨k + 1, bv, by omega, by go_num, rfl, hf, HB⟩
          case measure => simp [intOf]; omega
      · have hf : Hid (forceN cs (l.take (k + 1)) ⟨c0, c1, c2, c3, c4⟩ x = bv) := by
          show _ = _
          rw [hs.out, if_neg (fun h => hle h.1)]
        have hle2 : decide (xs ≤ x) = false := by simpa using hle
        clear hle
        go_wp2_with fail
        refine wp_region_quiet_below (by kernel_rfl) (by kernel_rfl) ?_
        repeat (go_big_quiet_step (fail))
        refine wpQuiet_nil ?_
        rintro _ ⟨⟨dq, osq⟩, rfl⟩
        have hb_ := below_regrown wr dq osq
        replace HB := Lib.hid (HB.out.keep hb_)
        generalize grow (redrawn wr dq) osq = w2 at *
        clear hb_
        go_wp2
        go_roundw
        case rel => exact ⟨k + 1, bv, by omega, by go_num, rfl, hf, HB⟩
        case measure => simp [intOf]; omega
    · obtain rfl : k = m := by omega
      have hf : Hid (forceN cs l ⟨c0, c1, c2, c3, c4⟩ x = bv) := by show _ = _; rw [hfin.out]; exact HF.out
      replace hB := Lib.hid hB
      go_wp2
      go_ret
      exact ⟨by rw [hf.out]; rfl, hB.out⟩
end Sw
end Go.Proofs.Ytnkgmpmedkegbaa
