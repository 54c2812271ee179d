/- Chapter 25: Refuse, Accept. -/
import Derived.Test.YtkfipbelhlcddaaGreatTxE
import Derived.Test.YtkfipbelhlcddaaGreatOw
set_option linter.unusedVariables false
set_option linter.unusedSimpArgs false
namespace Go.Proofs.YtkfipbelhlcddaaGreat
open Go Go.RowKit Go.Sort Go.Lib Go.Shelf Go.Maps
namespace Tx
open Sw Mm
theorem stopHere {p : Prop} (h : Hid p) : p := h.out
def RefPost (q : Msg) (code : Int) (w : World) (e : Ending) (w' : World) : Prop := e = .returned (.tuple #[.agg (msgA (refN q code) msgV0), .int .i64 (refC q code)]) ∧ Below w.heap.size w w'
def refM (q : Msg) (code : Int) : Msg := ⟨q.kind, true, q.number, code, 0, [], []⟩
theorem refPost_bad {q : Msg} {code F : Int} {w w' : World} {e : Ending} (hF : refC q code = F) (h0 : F ≠ 0) (h : e = .returned (.tuple #[.agg #[.int .i64 0, .bool false, .int .i64 0, .int .i64 0, .int .i64 0, .slice none 0 0, .slice none 0 0], .int .i64 F])) (hb : Below w.heap.size w w') : RefPost q code w e w' := by
  have hN : refN q code = msg0 := by unfold refN; rw [hF, if_neg h0]
  refine ⟨?_, hb⟩
  rw [hN, hF]
  exact h
theorem refPost_ok {q : Msg} {code : Int} {w w' : World} {e : Ending} (hF : refC q code = 0) (h : e = .returned (.tuple #[.agg (msgA (refM q code) msgV0), .int .i64 0])) (hb : Below w.heap.size w w') : RefPost q code w e w' := by
  have hN : refN q code = refM q code := by unfold refN; rw [hF, if_pos rfl]; rfl
  refine ⟨?_, hb⟩
  rw [hN, hF]
  exact h
set_option maxRecDepth 100000 in
set_option maxHeartbeats 4000000 in
theorem ref_any (q : Msg) (vq : MsgV) (code : Int) (w : World) (h1 : MsgIs w vq q) : Calls Tryz.prog 46 #[.agg #[.int .i64 q.kind, .bool q.reply, .int .i64 q.number, .int .i64 q.code, .int .i64 q.count, .slice vq.sA vq.sn vq.sc, .slice vq.oA vq.on vq.oc], .int .i64 code] w (RefPost q code w) := by
  have HM := ((Mem.start w).alloc #[.int .i64 q.kind, .bool q.reply, .int .i64 q.number, .int .i64 q.code, .int .i64 q.count, .slice vq.sA vq.sn vq.sc, .slice vq.oA vq.on vq.oc] 25).alloc #[.int .i64 0, .bool false, .int .i64 0, .int .i64 0, .int .i64 0, .slice none 0 0, .slice none 0 0] 25
  rw [size1] at HM
  have cQ := chkM_any q vq _ (h1.keep HM.below)
  have hF : refC q code = refC q code := rfl
  conv at hF => rhs; unfold refC
  generalize chkM q = C1 at *
  obtain ⟨k0, r0, n0, c0, t0, s0, o0⟩ := q
  dsimp only at *
  have kq := HM.cell 1 rfl
  generalize hP : RefPost _ _ _ = P
  have uM := Tryz.underlying25
  replace h1 := Lib.hid h1
  replace HM := Lib.hid HM
  replace cQ := Lib.hid cQ
  replace hF := Lib.hid hF
  replace uM := Lib.hid uM
  replace hP := Lib.hid hP
  go_enter Tryz.func46, Tryz.ntmps46
  go_wp2_with fail
  refine cQ.out.mono ?_
  rintro e w3 ⟨rfl, hb_⟩
  replace HM := Lib.hid (HM.out.keep hb_)
  clear hb_ kq cQ
  have kq := HM.out.cell 1 rfl
  go_wp2_with (refine wpList_storeM 0 HM rfl _ _ _ rfl _ _ rfl rfl _ (by conv => {lhs; whnf}) (by exact zmsg) (by rfl) (Nat.le_of_ble_eq_true (by rfl)) _ (by simp only [setL, List.set, Value.cells]; exact rfl) ?_; clear HM kq; intro w4 HM hG4; simp only [List.set] at HM; have kq := HM.out.cell 1 rfl)
  all_goals
    have f1 := hF.out
    try simp only [Exit.inBlock, Exit.then]
    refine bodyPost_ret (results_ct rfl (HM.out.at_ 0 rfl) rfl _ uM.out rfl (by exact zmsg)) rfl ?_
    rw [← hP.out]
    first
    | (have e1 := f1.trans (by simp [*] : _ = (1 : Int)); exact refPost_bad e1 (by decide) rfl HM.out.below)
    | (have e1 := f1.trans (by rw [if_neg (by simp [*]), if_pos (by omega)] : _ = (2 : Int)); exact refPost_bad e1 (by decide) rfl HM.out.below)
    | (have e1 := f1.trans (by rw [if_neg (by simp [*]), if_neg (by omega)] : _ = (0 : Int)); exact refPost_ok e1 (by subst_eqs; rfl) HM.out.below)
set_option maxRecDepth 100000 in
set_option maxHeartbeats 4000000 in
theorem rref_any (q : Msg) (vq : MsgV) (code : Int) (w : World) (h1 : MsgIs w vq q) : Calls Tryz.prog 109 #[.agg #[.int .i64 q.kind, .bool q.reply, .int .i64 q.number, .int .i64 q.code, .int .i64 q.count, .slice vq.sA vq.sn vq.sc, .slice vq.oA vq.on vq.oc], .int .i64 code] w (RefPost q code w) := by
  have HM := ((Mem.start w).alloc #[.int .i64 q.kind, .bool q.reply, .int .i64 q.number, .int .i64 q.code, .int .i64 q.count, .slice vq.sA vq.sn vq.sc, .slice vq.oA vq.on vq.oc] 25).alloc #[.int .i64 0, .bool false, .int .i64 0, .int .i64 0, .int .i64 0, .slice none 0 0, .slice none 0 0] 25
  rw [size1] at HM
  have cQ := rchkM_any q vq _ (h1.keep HM.below)
  have hF : refC q code = refC q code := rfl
  conv at hF => rhs; unfold refC
  generalize chkM q = C1 at *
  obtain ⟨k0, r0, n0, c0, t0, s0, o0⟩ := q
  dsimp only at *
  have kq := HM.cell 1 rfl
  generalize hP : RefPost _ _ _ = P
  have uM := Tryz.underlying25
  replace h1 := Lib.hid h1
  replace HM := Lib.hid HM
  replace cQ := Lib.hid cQ
  replace hF := Lib.hid hF
  replace uM := Lib.hid uM
  replace hP := Lib.hid hP
  go_enter Tryz.func109, Tryz.ntmps109
  go_wp2_with fail
  refine cQ.out.mono ?_
  rintro e w3 ⟨rfl, hb_⟩
  replace HM := Lib.hid (HM.out.keep hb_)
  clear hb_ kq cQ
  have kq := HM.out.cell 1 rfl
  go_wp2_with (refine wpList_storeM 0 HM rfl _ _ _ rfl _ _ rfl rfl _ (by conv => {lhs; whnf}) (by exact zmsg) (by rfl) (Nat.le_of_ble_eq_true (by rfl)) _ (by simp only [setL, List.set, Value.cells]; exact rfl) ?_; clear HM kq; intro w4 HM hG4; simp only [List.set] at HM; have kq := HM.out.cell 1 rfl)
  all_goals
    have f1 := hF.out
    try simp only [Exit.inBlock, Exit.then]
    refine bodyPost_ret (results_ct rfl (HM.out.at_ 0 rfl) rfl _ uM.out rfl (by exact zmsg)) rfl ?_
    rw [← hP.out]
    first
    | (have e1 := f1.trans (by simp [*] : _ = (1 : Int)); exact refPost_bad e1 (by decide) rfl HM.out.below)
    | (have e1 := f1.trans (by rw [if_neg (by simp [*]), if_pos (by omega)] : _ = (2 : Int)); exact refPost_bad e1 (by decide) rfl HM.out.below)
    | (have e1 := f1.trans (by rw [if_neg (by simp [*]), if_neg (by omega)] : _ = (0 : Int)); exact refPost_ok e1 (by subst_eqs; rfl) HM.out.below)
end Tx
end Go.Proofs.YtkfipbelhlcddaaGreat
