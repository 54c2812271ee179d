/- Equal cells; slices.Contains at cells; times, Times. -/
import Derived.Test.YtnkgmpmedkegbaaSw7
import Derived.Laws.StructEq
namespace Go.Proofs.Ytnkgmpmedkegbaa
open Go Go.RowKit Go.Sort
namespace Sw
open Mm
def eqC (a b : Cel) : Bool := decide (a = b)
theorem eqC_split (a b : Cel) : eqC a b = (a.slot == b.slot && (a.offset == b.offset && (a.frm == b.frm && (a.to == b.to && a.flow == b.flow)))) := by
  unfold eqC
  obtain ⟨a0, a1, a2, a3, a4⟩ := a
  obtain ⟨b0, b1, b2, b3, b4⟩ := b
  rw [Bool.eq_iff_iff]
  simp
theorem equal_cel (a b : Cel) (W : World) : (Op.equalIn 10000 34 (.agg #[.int .i64 a.slot, .int .i64 a.offset, .int .i64 a.frm, .int .i64 a.to, .int .i64 a.flow]) (.agg #[.int .i64 b.slot, .int .i64 b.offset, .int .i64 b.frm, .int .i64 b.to, .int .i64 b.flow])).run Try.prog W = .ok (eqC a b) W := by
  have u3 := Try.underlying3
  have a3 := Try.isAgg3
  have z3 := Try.sizeOf3
  have hS : Try.prog.underlying 34 = some (.struct (Try.prog.fieldsOf 34)) := by kernel_rfl
  have hp : Try.prog.stoodInHeld 34 = false := by kernel_rfl
  rw [eqC_split, show (10000 : Nat) = 9999 + 1 from rfl, run_equalIn_agg W 9999 34 _ _ hS hp]
  simp only [Program.fieldsOf, Try.underlying34]
  go_simp
  by_cases h0 : a.slot = b.slot
  · by_cases h1 : a.offset = b.offset
    · by_cases h2 : a.frm = b.frm
      · by_cases h3 : a.to = b.to
        · by_cases h4 : a.flow = b.flow <;> simp [h0, h1, h2, h3, h4]
        · simp [h0, h1, h2, h3]
      · simp [h0, h1, h2]
    · simp [h0, h1]
  · simp [h0]
theorem eql_cel (a b : Cel) (W : World) : (binOp .eql 34 (.agg #[.int .i64 a.slot, .int .i64 a.offset, .int .i64 a.frm, .int .i64 a.to, .int .i64 a.flow]) (.agg #[.int .i64 b.slot, .int .i64 b.offset, .int .i64 b.frm, .int .i64 b.to, .int .i64 b.flow])).run Try.prog W = .ok (.bool (eqC a b)) W := by
  rw [run_eql_struct, equal_cel]; rfl
theorem neq_cel (a b : Cel) (W : World) : (binOp .neq 34 (.agg #[.int .i64 a.slot, .int .i64 a.offset, .int .i64 a.frm, .int .i64 a.to, .int .i64 a.flow]) (.agg #[.int .i64 b.slot, .int .i64 b.offset, .int .i64 b.frm, .int .i64 b.to, .int .i64 b.flow])).run Try.prog W = .ok (.bool (!eqC a b)) W := by
  rw [run_neq_struct, equal_cel]; rfl
set_option maxRecDepth 100000 in
set_option maxHeartbeats 2000000 in
theorem contains_any (A : Option Addr) (n cp : Nat) (cs : List Cel) (c : Cel) (w : World) (h : CelS w A n cs) :
    Calls Try.prog 58 #[.slice A n cp, .agg #[.int .i64 c.slot, .int .i64 c.offset, .int .i64 c.frm, .int .i64 c.to, .int .i64 c.flow]] w fun e w' => (∃ i : Int, e = .returned (.int .i64 i) ∧ decide (0 ≤ i) = decide (c ∈ cs)) ∧ Below w.heap.size w w' := by
  have hlen := h.len
  have hs := h.small
  unfold maxLen at hs
  have hbw := ball w (.cells #[.int .i64 c.slot, .int .i64 c.offset, .int .i64 c.frm, .int .i64 c.to, .int .i64 c.flow] 34)
  have BC := Box.new w #[.int .i64 c.slot, .int .i64 c.offset, .int .i64 c.frm, .int .i64 c.to, .int .i64 c.flow] 34
  have ke := fun d W => eql_cel c d W
  have hmem : Hid (∀ d, eqC c d = decide (c = d)) := fun _ => rfl
  generalize eqC c = E at *
  have hcc : Hid (c = c) := rfl
  obtain ⟨c0, c1, c2, c3, c4⟩ := c
  dsimp only at *
  replace h := Lib.hid h
  replace hlen := Lib.hid hlen
  replace hbw := Lib.hid hbw
  replace BC := Lib.hid BC
  replace ke := Lib.hid ke
  have kb := BC.out.at_
  go_enter Try.func58, Try.ntmps58
  go_wp2_with fail
  clear kb
  generalize w.alloc (.cells #[.int .i64 c0, .int .i64 c1, .int .i64 c2, .int .i64 c3, .int .i64 c4] 34) = w1 at *
  go_loopw [5, 8] (fun _ i wr => ∃ k : Nat, k ≤ n ∧ i = .int .i64 k ∧ Hid (∀ d ∈ cs.take k, ⟨c0, c1, c2, c3, c4⟩ ≠ d) ∧ Hid (Below w1.heap.size w1 wr)) (fun _ i _ => n - (intOf i).toNat)
  case atStart => exact ⟨0, by omega, rfl, fun d hd => by simp at hd, Below.refl _ _⟩
  case round =>
    obtain ⟨k, hk, rfl, HP, HB⟩ := hrel
    have hB := bthen hbw.out HB.out
    by_cases hlt : k < n
    · obtain ⟨b, off, rfl⟩ := h.out.addr (by omega)
      have hx := cel_at (h.out.keep hB) hlt
      have hk2 := ke.out (cs.getD k default)
      have htk := take_snoc (xs := cs) (k := k) (by rw [hlen.out]; exact hlt)
      have hin : cs.getD k default ∈ cs := ok_at (P := (· ∈ cs)) (fun _ h => h) (by rw [hlen.out]; exact hlt)
      have hme := hmem.out (cs.getD k default)
      generalize cs.getD k default = x at *
      obtain ⟨x0, x1, x2, x3, x4⟩ := x
      obtain ⟨q0, q1, q2, q3, q4⟩ := hx
      dsimp only at q0 q1 q2 q3 q4 hk2
      have g0 := cell_regrown q0
      have g1 := cell_regrown q1
      have g2 := cell_regrown q2
      have g3 := cell_regrown q3
      have g4 := cell_regrown q4
      have BR := BC.out.keep HB.out
      have gx := BR.grown
      have r1 : (k : Int) < (n : Int) := by omega
      generalize E ⟨x0, x1, x2, x3, x4⟩ = Q at *
      clear q0 q1 q2 q3 q4
      replace htk := Lib.hid htk
      replace hin := Lib.hid hin
      replace hme := Lib.hid hme
      replace BR := Lib.hid BR
      replace hB := Lib.hid hB
      cases Q with
      | true =>
        have hm : decide ((⟨c0, c1, c2, c3, c4⟩ : Cel) ∈ cs) = true := by
          have := hme.out
          rw [eq_comm, decide_eq_true_eq] at this
          rw [this]; simpa using hin.out
        replace hm := Lib.hid hm
        go_wp2_with fail
        refine wp_region_quiet_below (by kernel_rfl) (by kernel_rfl) ?_
        repeat (go_big_quiet_step (fail))
        refine wpQuiet_nil ?_
        rintro _ ⟨⟨dq, osq⟩, rfl⟩
        have hb_ := below_regrown wr dq osq
        replace HB := Lib.hid (HB.out.keep hb_)
        generalize grow (redrawn wr dq) osq = w2 at *
        clear hb_
        have hB2 := Lib.hid (bthen hbw.out HB.out)
        go_wp2
        go_ret
        exact ⟨⟨k, rfl, by rw [hm.out]; simp⟩, hB2.out⟩
      | false =>
        have hP2 : Hid (∀ d ∈ cs.take (k + 1), (⟨c0, c1, c2, c3, c4⟩ : Cel) ≠ d) := fun d hd => by
          rw [htk.out, List.mem_append, List.mem_singleton] at hd
          rcases hd with hd | rfl
          · exact HP.out d hd
          · have := hme.out
            rw [eq_comm, decide_eq_false_iff_not] at this
            exact this
        go_wp2_with fail
        refine wp_region_quiet_below (by kernel_rfl) (by kernel_rfl) ?_
        repeat (go_big_quiet_step (fail))
        refine wpQuiet_nil ?_
        rintro _ ⟨⟨dq, osq⟩, rfl⟩
        have hb_ := below_regrown wr dq osq
        replace HB := Lib.hid (HB.out.keep hb_)
        generalize grow (redrawn wr dq) osq = w2 at *
        clear hb_
        go_wp2
        go_roundw
        case rel => exact ⟨k + 1, by omega, by go_num, hP2, HB⟩
        case measure => simp [intOf]; omega
    · obtain rfl : k = n := by omega
      have hm : decide ((⟨c0, c1, c2, c3, c4⟩ : Cel) ∈ cs) = false := by
        have := HP.out
        rw [List.take_of_length_le (by rw [hlen.out]; exact Nat.le_refl _)] at this
        rw [decide_eq_false_iff_not]
        exact fun h => this _ h rfl
      replace hm := Lib.hid hm
      replace hB := Lib.hid hB
      go_wp2
      go_ret
      exact ⟨⟨-1, rfl, by rw [hm.out]; rfl⟩, hB.out⟩
theorem containsC_any (A : Option Addr) (n cp : Nat) (cs : List Cel) (c : Cel) (w : World) (h : CelS w A n cs) :
    Calls Try.prog 27 #[.slice A n cp, .agg #[.int .i64 c.slot, .int .i64 c.offset, .int .i64 c.frm, .int .i64 c.to, .int .i64 c.flow]] w fun e w' => e = .returned (.bool (decide (c ∈ cs))) ∧ Below w.heap.size w w' := by
  have hbw := ball w (.cells #[.int .i64 c.slot, .int .i64 c.offset, .int .i64 c.frm, .int .i64 c.to, .int .i64 c.flow] 34)
  have BC := Box.new w #[.int .i64 c.slot, .int .i64 c.offset, .int .i64 c.frm, .int .i64 c.to, .int .i64 c.flow] 34
  have cI := contains_any A n cp cs c _ (h.keep hbw)
  generalize decide (c ∈ cs) = R at *
  replace h := Lib.hid h
  replace hbw := Lib.hid hbw
  replace BC := Lib.hid BC
  replace cI := Lib.hid cI
  have kb := BC.out.at_
  go_enter Try.func27, Try.ntmps27
  go_wp2_with fail
  refine cI.out.mono ?_
  rintro e w1 ⟨⟨i, rfl, hi⟩, hb_⟩
  replace hi := Lib.hid hi
  have hB := Lib.hid (bthen hbw.out hb_)
  clear hb_
  go_wp2
  go_ret
  exact ⟨by rw [← hi.out]; rfl, hB.out⟩
end Sw
end Go.Proofs.Ytnkgmpmedkegbaa
