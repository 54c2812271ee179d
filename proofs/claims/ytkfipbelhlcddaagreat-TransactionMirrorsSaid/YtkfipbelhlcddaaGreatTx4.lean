/- Chapter 25: the rows of the table of messages. -/
import Derived.Test.YtkfipbelhlcddaaGreatTx3
import Derived.Maps.Views
import Derived.Maps.OwnOps
import Derived.Carry
import Derived.Shelf.Abstract
set_option linter.unusedVariables false
set_option linter.unusedSimpArgs false
namespace Go.Proofs.YtkfipbelhlcddaaGreat
open Go Go.RowKit Go.Sort Go.Lib Go.Shelf Go.Maps
namespace Tx
open Sw Mm
def plainB (m : Msg) : Bool := decide (m.count = 0) && (decide ((m.spots.length : Int) = 0) && decide ((m.old.length : Int) = 0))
theorem eplain : ∀ args w, (callFunc 151 args).run Tryz.prog w = .ok (.enter 151 args) w := enters_of Tryz.func151 (by kernel_rfl) rfl
set_option maxRecDepth 100000 in
set_option maxHeartbeats 1000000 in
theorem plain_any (m : Msg) (v : MsgV) (w : World) (h : MsgIs w v m) : Calls Tryz.prog 151 #[.agg #[.int .i64 m.kind, .bool m.reply, .int .i64 m.number, .int .i64 m.code, .int .i64 m.count, .slice v.sA v.sn v.sc, .slice v.oA v.on v.oc]] w fun e w' => e = .returned (.bool (plainB m)) ∧ Below w.heap.size w w' := by
  have hb := ball w (.cells #[.int .i64 m.kind, .bool m.reply, .int .i64 m.number, .int .i64 m.code, .int .i64 m.count, .slice v.sA v.sn v.sc, .slice v.oA v.on v.oc] 25)
  have BX := Box.new w #[.int .i64 m.kind, .bool m.reply, .int .i64 m.number, .int .i64 m.code, .int .i64 m.count, .slice v.sA v.sn v.sc, .slice v.oA v.on v.oc] 25
  have kx := BX.at_
  obtain ⟨s1, s2⟩ := spots_small h
  unfold maxLen at s1 s2
  unfold plainB
  rw [h.spots.len, h.old.len]
  replace hb := Lib.hid hb
  replace BX := Lib.hid BX
  replace h := Lib.hid h
  go_enter Tryz.func151, Tryz.ntmps151
  go_upto_region 1 with fail
  generalize w.alloc (.cells #[.int .i64 m.kind, .bool m.reply, .int .i64 m.number, .int .i64 m.code, .int .i64 m.count, .slice v.sA v.sn v.sc, .slice v.oA v.on v.oc] 25) = w1 at *
  go_wp2
  all_goals
    go_ret
    exact ⟨by first | (simp [*]; done) | (simp [*]; omega) | (simp [*, intB]; done) | (simp [*, intB]; omega), hb.out⟩
def delB (m : Msg) : Bool := decide ((m.spots.length : Int) = 0) && (decide (1 ≤ (m.old.length : Int)) && decide (m.count = (m.old.length : Int)))
theorem edel : ∀ args w, (callFunc 152 args).run Tryz.prog w = .ok (.enter 152 args) w := enters_of Tryz.func152 (by kernel_rfl) rfl
set_option maxRecDepth 100000 in
set_option maxHeartbeats 1000000 in
theorem del_any (m : Msg) (v : MsgV) (w : World) (h : MsgIs w v m) : Calls Tryz.prog 152 #[.agg #[.int .i64 m.kind, .bool m.reply, .int .i64 m.number, .int .i64 m.code, .int .i64 m.count, .slice v.sA v.sn v.sc, .slice v.oA v.on v.oc]] w fun e w' => e = .returned (.bool (delB m)) ∧ Below w.heap.size w w' := by
  have hb := ball w (.cells #[.int .i64 m.kind, .bool m.reply, .int .i64 m.number, .int .i64 m.code, .int .i64 m.count, .slice v.sA v.sn v.sc, .slice v.oA v.on v.oc] 25)
  have BX := Box.new w #[.int .i64 m.kind, .bool m.reply, .int .i64 m.number, .int .i64 m.code, .int .i64 m.count, .slice v.sA v.sn v.sc, .slice v.oA v.on v.oc] 25
  have kx := BX.at_
  obtain ⟨s1, s2⟩ := spots_small h
  unfold maxLen at s1 s2
  unfold delB
  rw [h.spots.len, h.old.len]
  replace hb := Lib.hid hb
  replace BX := Lib.hid BX
  replace h := Lib.hid h
  go_enter Tryz.func152, Tryz.ntmps152
  go_upto_region 1 with fail
  generalize w.alloc (.cells #[.int .i64 m.kind, .bool m.reply, .int .i64 m.number, .int .i64 m.code, .int .i64 m.count, .slice v.sA v.sn v.sc, .slice v.oA v.on v.oc] 25) = w1 at *
  go_wp2
  all_goals
    go_ret
    exact ⟨by first | (simp [*]; done) | (simp [*]; omega) | (simp [*, intB]; done) | (simp [*, intB]; omega), hb.out⟩
def addQB (m : Msg) : Bool := decide (1 ≤ m.count) && (decide (m.count ≤ 8) && (decide (m.count ≤ (m.spots.length : Int)) && decide ((m.old.length : Int) = 0)))
theorem eaddQ : ∀ args w, (callFunc 153 args).run Tryz.prog w = .ok (.enter 153 args) w := enters_of Tryz.func153 (by kernel_rfl) rfl
set_option maxRecDepth 100000 in
set_option maxHeartbeats 1000000 in
theorem addQ_any (m : Msg) (v : MsgV) (w : World) (h : MsgIs w v m) : Calls Tryz.prog 153 #[.agg #[.int .i64 m.kind, .bool m.reply, .int .i64 m.number, .int .i64 m.code, .int .i64 m.count, .slice v.sA v.sn v.sc, .slice v.oA v.on v.oc]] w fun e w' => e = .returned (.bool (addQB m)) ∧ Below w.heap.size w w' := by
  have hb := ball w (.cells #[.int .i64 m.kind, .bool m.reply, .int .i64 m.number, .int .i64 m.code, .int .i64 m.count, .slice v.sA v.sn v.sc, .slice v.oA v.on v.oc] 25)
  have BX := Box.new w #[.int .i64 m.kind, .bool m.reply, .int .i64 m.number, .int .i64 m.code, .int .i64 m.count, .slice v.sA v.sn v.sc, .slice v.oA v.on v.oc] 25
  have kx := BX.at_
  obtain ⟨s1, s2⟩ := spots_small h
  unfold maxLen at s1 s2
  unfold addQB
  rw [h.spots.len, h.old.len]
  replace hb := Lib.hid hb
  replace BX := Lib.hid BX
  replace h := Lib.hid h
  go_enter Tryz.func153, Tryz.ntmps153
  go_upto_region 1 with fail
  generalize w.alloc (.cells #[.int .i64 m.kind, .bool m.reply, .int .i64 m.number, .int .i64 m.code, .int .i64 m.count, .slice v.sA v.sn v.sc, .slice v.oA v.on v.oc] 25) = w1 at *
  go_wp2
  all_goals
    go_ret
    exact ⟨by first | (simp [*]; done) | (simp [*]; omega) | (simp [*, intB]; done) | (simp [*, intB]; omega), hb.out⟩
def addRB (m : Msg) : Bool := decide (1 ≤ (m.spots.length : Int)) && (decide (m.count = (m.spots.length : Int)) && decide ((m.old.length : Int) = 0))
theorem eaddR : ∀ args w, (callFunc 154 args).run Tryz.prog w = .ok (.enter 154 args) w := enters_of Tryz.func154 (by kernel_rfl) rfl
set_option maxRecDepth 100000 in
set_option maxHeartbeats 1000000 in
theorem addR_any (m : Msg) (v : MsgV) (w : World) (h : MsgIs w v m) : Calls Tryz.prog 154 #[.agg #[.int .i64 m.kind, .bool m.reply, .int .i64 m.number, .int .i64 m.code, .int .i64 m.count, .slice v.sA v.sn v.sc, .slice v.oA v.on v.oc]] w fun e w' => e = .returned (.bool (addRB m)) ∧ Below w.heap.size w w' := by
  have hb := ball w (.cells #[.int .i64 m.kind, .bool m.reply, .int .i64 m.number, .int .i64 m.code, .int .i64 m.count, .slice v.sA v.sn v.sc, .slice v.oA v.on v.oc] 25)
  have BX := Box.new w #[.int .i64 m.kind, .bool m.reply, .int .i64 m.number, .int .i64 m.code, .int .i64 m.count, .slice v.sA v.sn v.sc, .slice v.oA v.on v.oc] 25
  have kx := BX.at_
  obtain ⟨s1, s2⟩ := spots_small h
  unfold maxLen at s1 s2
  unfold addRB
  rw [h.spots.len, h.old.len]
  replace hb := Lib.hid hb
  replace BX := Lib.hid BX
  replace h := Lib.hid h
  go_enter Tryz.func154, Tryz.ntmps154
  go_upto_region 1 with fail
  generalize w.alloc (.cells #[.int .i64 m.kind, .bool m.reply, .int .i64 m.number, .int .i64 m.code, .int .i64 m.count, .slice v.sA v.sn v.sc, .slice v.oA v.on v.oc] 25) = w1 at *
  go_wp2
  all_goals
    go_ret
    exact ⟨by first | (simp [*]; done) | (simp [*]; omega) | (simp [*, intB]; done) | (simp [*, intB]; omega), hb.out⟩
def relQB (m : Msg) : Bool := decide (1 ≤ (m.old.length : Int)) && (decide (m.count = (m.old.length : Int)) && decide (m.count ≤ (m.spots.length : Int)))
theorem erelQ : ∀ args w, (callFunc 155 args).run Tryz.prog w = .ok (.enter 155 args) w := enters_of Tryz.func155 (by kernel_rfl) rfl
set_option maxRecDepth 100000 in
set_option maxHeartbeats 1000000 in
theorem relQ_any (m : Msg) (v : MsgV) (w : World) (h : MsgIs w v m) : Calls Tryz.prog 155 #[.agg #[.int .i64 m.kind, .bool m.reply, .int .i64 m.number, .int .i64 m.code, .int .i64 m.count, .slice v.sA v.sn v.sc, .slice v.oA v.on v.oc]] w fun e w' => e = .returned (.bool (relQB m)) ∧ Below w.heap.size w w' := by
  have hb := ball w (.cells #[.int .i64 m.kind, .bool m.reply, .int .i64 m.number, .int .i64 m.code, .int .i64 m.count, .slice v.sA v.sn v.sc, .slice v.oA v.on v.oc] 25)
  have BX := Box.new w #[.int .i64 m.kind, .bool m.reply, .int .i64 m.number, .int .i64 m.code, .int .i64 m.count, .slice v.sA v.sn v.sc, .slice v.oA v.on v.oc] 25
  have kx := BX.at_
  obtain ⟨s1, s2⟩ := spots_small h
  unfold maxLen at s1 s2
  unfold relQB
  rw [h.spots.len, h.old.len]
  replace hb := Lib.hid hb
  replace BX := Lib.hid BX
  replace h := Lib.hid h
  go_enter Tryz.func155, Tryz.ntmps155
  go_upto_region 1 with fail
  generalize w.alloc (.cells #[.int .i64 m.kind, .bool m.reply, .int .i64 m.number, .int .i64 m.code, .int .i64 m.count, .slice v.sA v.sn v.sc, .slice v.oA v.on v.oc] 25) = w1 at *
  go_wp2
  all_goals
    go_ret
    exact ⟨by first | (simp [*]; done) | (simp [*]; omega) | (simp [*, intB]; done) | (simp [*, intB]; omega), hb.out⟩
def relRB (m : Msg) : Bool := decide (1 ≤ (m.old.length : Int)) && (decide (m.count = (m.old.length : Int)) && decide ((m.spots.length : Int) = (m.old.length : Int)))
theorem erelR : ∀ args w, (callFunc 156 args).run Tryz.prog w = .ok (.enter 156 args) w := enters_of Tryz.func156 (by kernel_rfl) rfl
set_option maxRecDepth 100000 in
set_option maxHeartbeats 1000000 in
theorem relR_any (m : Msg) (v : MsgV) (w : World) (h : MsgIs w v m) : Calls Tryz.prog 156 #[.agg #[.int .i64 m.kind, .bool m.reply, .int .i64 m.number, .int .i64 m.code, .int .i64 m.count, .slice v.sA v.sn v.sc, .slice v.oA v.on v.oc]] w fun e w' => e = .returned (.bool (relRB m)) ∧ Below w.heap.size w w' := by
  have hb := ball w (.cells #[.int .i64 m.kind, .bool m.reply, .int .i64 m.number, .int .i64 m.code, .int .i64 m.count, .slice v.sA v.sn v.sc, .slice v.oA v.on v.oc] 25)
  have BX := Box.new w #[.int .i64 m.kind, .bool m.reply, .int .i64 m.number, .int .i64 m.code, .int .i64 m.count, .slice v.sA v.sn v.sc, .slice v.oA v.on v.oc] 25
  have kx := BX.at_
  obtain ⟨s1, s2⟩ := spots_small h
  unfold maxLen at s1 s2
  unfold relRB
  rw [h.spots.len, h.old.len]
  replace hb := Lib.hid hb
  replace BX := Lib.hid BX
  replace h := Lib.hid h
  go_enter Tryz.func156, Tryz.ntmps156
  go_upto_region 1 with fail
  generalize w.alloc (.cells #[.int .i64 m.kind, .bool m.reply, .int .i64 m.number, .int .i64 m.code, .int .i64 m.count, .slice v.sA v.sn v.sc, .slice v.oA v.on v.oc] 25) = w1 at *
  go_wp2
  all_goals
    go_ret
    exact ⟨by first | (simp [*]; done) | (simp [*]; omega) | (simp [*, intB]; done) | (simp [*, intB]; omega), hb.out⟩
def cntRB (m : Msg) : Bool := decide ((m.spots.length : Int) = 0) && decide ((m.old.length : Int) = 0)
theorem ecntR : ∀ args w, (callFunc 157 args).run Tryz.prog w = .ok (.enter 157 args) w := enters_of Tryz.func157 (by kernel_rfl) rfl
set_option maxRecDepth 100000 in
set_option maxHeartbeats 1000000 in
theorem cntR_any (m : Msg) (v : MsgV) (w : World) (h : MsgIs w v m) : Calls Tryz.prog 157 #[.agg #[.int .i64 m.kind, .bool m.reply, .int .i64 m.number, .int .i64 m.code, .int .i64 m.count, .slice v.sA v.sn v.sc, .slice v.oA v.on v.oc]] w fun e w' => e = .returned (.bool (cntRB m)) ∧ Below w.heap.size w w' := by
  have hb := ball w (.cells #[.int .i64 m.kind, .bool m.reply, .int .i64 m.number, .int .i64 m.code, .int .i64 m.count, .slice v.sA v.sn v.sc, .slice v.oA v.on v.oc] 25)
  have BX := Box.new w #[.int .i64 m.kind, .bool m.reply, .int .i64 m.number, .int .i64 m.code, .int .i64 m.count, .slice v.sA v.sn v.sc, .slice v.oA v.on v.oc] 25
  have kx := BX.at_
  obtain ⟨s1, s2⟩ := spots_small h
  unfold maxLen at s1 s2
  unfold cntRB
  rw [h.spots.len, h.old.len]
  replace hb := Lib.hid hb
  replace BX := Lib.hid BX
  replace h := Lib.hid h
  go_enter Tryz.func157, Tryz.ntmps157
  go_upto_region 1 with fail
  generalize w.alloc (.cells #[.int .i64 m.kind, .bool m.reply, .int .i64 m.number, .int .i64 m.code, .int .i64 m.count, .slice v.sA v.sn v.sc, .slice v.oA v.on v.oc] 25) = w1 at *
  go_wp2
  all_goals
    go_ret
    exact ⟨by first | (simp [*]; done) | (simp [*]; omega) | (simp [*, intB]; done) | (simp [*, intB]; omega), hb.out⟩
def lstRB (m : Msg) : Bool := decide ((m.spots.length : Int) = min 8 m.count) && decide ((m.old.length : Int) = 0)
theorem elstR : ∀ args w, (callFunc 158 args).run Tryz.prog w = .ok (.enter 158 args) w := enters_of Tryz.func158 (by kernel_rfl) rfl
set_option maxRecDepth 100000 in
set_option maxHeartbeats 1000000 in
theorem lstR_any (m : Msg) (v : MsgV) (w : World) (h : MsgIs w v m) : Calls Tryz.prog 158 #[.agg #[.int .i64 m.kind, .bool m.reply, .int .i64 m.number, .int .i64 m.code, .int .i64 m.count, .slice v.sA v.sn v.sc, .slice v.oA v.on v.oc]] w fun e w' => e = .returned (.bool (lstRB m)) ∧ Below w.heap.size w w' := by
  have hb := ball w (.cells #[.int .i64 m.kind, .bool m.reply, .int .i64 m.number, .int .i64 m.code, .int .i64 m.count, .slice v.sA v.sn v.sc, .slice v.oA v.on v.oc] 25)
  have BX := Box.new w #[.int .i64 m.kind, .bool m.reply, .int .i64 m.number, .int .i64 m.code, .int .i64 m.count, .slice v.sA v.sn v.sc, .slice v.oA v.on v.oc] 25
  have kx := BX.at_
  obtain ⟨s1, s2⟩ := spots_small h
  unfold maxLen at s1 s2
  unfold lstRB
  rw [h.spots.len, h.old.len]
  replace hb := Lib.hid hb
  replace BX := Lib.hid BX
  replace h := Lib.hid h
  go_enter Tryz.func158, Tryz.ntmps158
  go_upto_region 1 with fail
  generalize w.alloc (.cells #[.int .i64 m.kind, .bool m.reply, .int .i64 m.number, .int .i64 m.code, .int .i64 m.count, .slice v.sA v.sn v.sc, .slice v.oA v.on v.oc] 25) = w1 at *
  go_wp2
  all_goals
    go_ret
    exact ⟨by first | (simp [*]; done) | (simp [*]; omega) | (simp [*, intB]; done) | (simp [*, intB]; omega), hb.out⟩
/-- the row of a kind -/
def rowV (f g : Nat) : Value := .agg #[.func (.func f) #[] #[], .func (.func g) #[] #[]]
def rowQ (k : Int) : Nat := if k = 1 then 153 else if k = 2 then 152 else if k = 3 then 155 else 151
def rowR (k : Int) : Nat := if k = 1 then 154 else if k = 2 then 152 else if k = 3 then 156 else if k = 4 then 157 else if k = 5 then 158 else 151
def codeF (f g : Nat) : DataW Unit := .agg [.lit (.int .i64 f), .lit (.int .i64 g)]
def fnOf : Value → Option Nat
  | .func (.func f) a b => if a.size = 0 ∧ b.size = 0 then some f else none
  | _ => none
theorem fnOf_inv {x : Value} {f : Nat} (h : fnOf x = some f) : x = .func (.func f) #[] #[] := by
  unfold fnOf at h
  split at h
  · split at h
    · rename_i hs
      injection h with h
      rw [h, Array.eq_empty_of_size_eq_zero hs.1, Array.eq_empty_of_size_eq_zero hs.2]
    · cases h
  · cases h
def pairF (x y : Value) : Option (DataW Unit × List MemPlace) := match fnOf x, fnOf y with
  | some f, some g => some (codeF f g, [])
  | _, _ => some (.agg [], [])
def rdF : Value → Option (DataW Unit × List MemPlace)
  | .agg c => match c.toList with
    | [x, y] => pairF x y
    | _ => some (.agg [], [])
  | _ => none
theorem zeroF (w : World) : (zeroValue 125).run Tryz.prog w = .ok (.agg #[.nilFunc, .nilFunc]) w := by kernel_rfl
theorem rdF_inv {v : Value} {f g : Nat} {ps : List MemPlace} (h : rdF v = some (codeF f g, ps)) : v = .agg #[.func (.func f) #[] #[], .func (.func g) #[] #[]] := by
  unfold rdF at h
  split at h
  · rename_i c
    split at h
    · rename_i x y hc
      unfold pairF at h
      split at h
      · rename_i a b ha hb
        injection h with h
        simp only [codeF, Prod.mk.injEq, DataW.agg.injEq, List.cons.injEq, DataW.lit.injEq, Lit.int.injEq, and_true, true_and] at h
        obtain ⟨⟨h1, h2⟩, _⟩ := h
        rw [Int.ofNat_inj.1 h1] at ha
        rw [Int.ofNat_inj.1 h2] at hb
        have e : c = #[x, y] := by rw [← Array.toList_inj]; exact hc
        rw [e, fnOf_inv ha, fnOf_inv hb]
      · injection h with h
        simp [codeF] at h
    · injection h with h
      simp [codeF] at h
  · cases h
theorem lawI : Keyed Tryz.prog 3 := int_keyed Tryz.underlying3
theorem keyI (n : Int) (h : 0 ≤ n ∧ n < 1000) : keyOf Tryz.prog 3 (.int .i64 n) = some (.int .i64 n) := by
  refine keyOf_int_mk Tryz.underlying3 ?_
  have e1 : IntKind.i64.min = -9223372036854775808 := rfl
  have e2 : IntKind.i64.max = 9223372036854775807 := rfl
  simp [Lit.wf, e1, e2]; omega
/-- the map of rows -/
def Rows (w : World) (b : Nat) : Prop := ∃ D : DataW Unit, w.ownsMap Tryz.prog 3 rdF b 6 D ∧ IsMap D ∧ ∀ k : Int, 1 ≤ k → k ≤ 6 → ∀ zd, D.atKey (.int .i64 k) zd = codeF (rowQ k) (rowR k)
theorem Rows.look {w : World} {b : Nat} (h : Rows w b) {k : Int} (h1 : 1 ≤ k) (h2 : k ≤ 6) : (Instr.lookup 126 (.map (some b)) (.int .i64 k) false).run Tryz.prog w = .ok (.agg #[.func (.func (rowQ k)) #[] #[], .func (.func (rowR k)) #[] #[]]) w := by
  obtain ⟨D, hO, _, hD⟩ := h
  obtain ⟨v, ps, hrun, hv⟩ := hO.lookup lawI Tryz.underlying126 (zeroF w) (rfl : rdF (.agg #[.nilFunc, .nilFunc]) = some (.agg [], [])) (keyI k (by omega))
  rw [hD k h1 h2] at hv
  rw [hrun, rdF_inv hv]
theorem isKeyInt (n : Int) : WideAt.IsKeyLit (.int .i64 n) := by simp [WideAt.IsKeyLit]
def RowsPost (w : World) (e : Ending) (w' : World) : Prop := ∃ b, e = .returned (.map (some b)) ∧ Rows w' b ∧ w.heap.size ≤ b ∧ Below w.heap.size w w'
theorem up_row {w : World} {b n : Nat} {D : DataW Unit} (h : w.ownsMap Tryz.prog 3 rdF b n D) (hn : n ≤ 6) (k : Int) (hk : 1 ≤ k ∧ k ≤ 6) (f g : Nat) : ∃ w', (Instr.mapUpdate 126 (.map (some b)) (.int .i64 k) (.agg #[.func (.func f) #[] #[], .func (.func g) #[] #[]])).run Tryz.prog w = .ok () w' ∧ w'.ownsMap Tryz.prog 3 rdF b (n + 1) (D.put (.int .i64 k) (codeF f g)) ∧ w.grownBy w' (some b) :=
  h.update lawI Tryz.underlying126 (by unfold maxLen; omega) (keyI k (by omega)) (rfl : rdF (.agg #[.func (.func f) #[] #[], .func (.func g) #[] #[]]) = some (codeF f g, []))
set_option maxRecDepth 100000 in
set_option maxHeartbeats 1000000 in
theorem rows_any (w : World) : Calls Tryz.prog 136 #[] w (RowsPost w) := by
  have HM0 := World.ownsMap_made (H := Unit) w Tryz.prog 3 rdF
  have hb0 := ball w (.map #[] 0)
  have hmm := @run_makeMap Tryz.prog
  obtain ⟨w1, u1, o1, g1⟩ := up_row HM0 (by omega) 1 (by omega) (rowQ 1) (rowR 1)
  obtain ⟨w2, u2, o2, g2⟩ := up_row o1 (by omega) 2 (by omega) (rowQ 2) (rowR 2)
  obtain ⟨w3, u3, o3, g3⟩ := up_row o2 (by omega) 3 (by omega) (rowQ 3) (rowR 3)
  obtain ⟨w4, u4, o4, g4⟩ := up_row o3 (by omega) 4 (by omega) (rowQ 4) (rowR 4)
  obtain ⟨w5, u5, o5, g5⟩ := up_row o4 (by omega) 5 (by omega) (rowQ 5) (rowR 5)
  obtain ⟨w6, u6, o6, g6⟩ := up_row o5 (by omega) 6 (by omega) (rowQ 6) (rowR 6)
  have hb6 : Below w.heap.size w w6 := by
    have gg := gb_trans (gb_trans (gb_trans (gb_trans (gb_trans g1 g2) g3) g4) g5) g6
    exact Below.grownM hb0 gg hb0.size (fun q hq => by injection hq with hq; omega)
  have hF : Hid (RowsPost w (.returned (.map (some w.heap.size))) w6) := by
    refine ⟨w.heap.size, rfl, ⟨_, o6, ?_, ?_⟩, Nat.le_refl _, hb6⟩
    · exact (((((isMap_empty.put _ _).put _ _).put _ _).put _ _).put _ _).put _ _
    · intro k h1 h2 zd
      have hm1 := (isMap_empty (H := Unit)).put (.int .i64 1) (codeF (rowQ 1) (rowR 1))
      have hm2 := hm1.put (.int .i64 2) (codeF (rowQ 2) (rowR 2))
      have hm3 := hm2.put (.int .i64 3) (codeF (rowQ 3) (rowR 3))
      have hm4 := hm3.put (.int .i64 4) (codeF (rowQ 4) (rowR 4))
      have hm5 := hm4.put (.int .i64 5) (codeF (rowQ 5) (rowR 5))
      rcases (by omega : k = 1 ∨ k = 2 ∨ k = 3 ∨ k = 4 ∨ k = 5 ∨ k = 6) with rfl | rfl | rfl | rfl | rfl | rfl
      · rw [atKey_put_other (by simp), atKey_put_other (by simp), atKey_put_other (by simp), atKey_put_other (by simp), atKey_put_other (by simp), atKey_put_same isMap_empty (isKeyInt _)]
      · rw [atKey_put_other (by simp), atKey_put_other (by simp), atKey_put_other (by simp), atKey_put_other (by simp), atKey_put_same hm1 (isKeyInt _)]
      · rw [atKey_put_other (by simp), atKey_put_other (by simp), atKey_put_other (by simp), atKey_put_same hm2 (isKeyInt _)]
      · rw [atKey_put_other (by simp), atKey_put_other (by simp), atKey_put_same hm3 (isKeyInt _)]
      · rw [atKey_put_other (by simp), atKey_put_same hm4 (isKeyInt _)]
      · rw [atKey_put_same hm5 (isKeyInt _)]
  have v1 : rowQ 1 = 153 := rfl
  have v2 : rowR 1 = 154 := rfl
  have v3 : rowQ 2 = 152 := rfl
  have v4 : rowR 2 = 152 := rfl
  have v5 : rowQ 3 = 155 := rfl
  have v6 : rowR 3 = 156 := rfl
  have v7 : rowQ 4 = 151 := rfl
  have v8 : rowR 4 = 157 := rfl
  have v9 : rowQ 5 = 151 := rfl
  have v10 : rowR 5 = 158 := rfl
  have v11 : rowQ 6 = 151 := rfl
  have v12 : rowR 6 = 151 := rfl
  rw [v1, v2] at u1
  rw [v3, v4] at u2
  rw [v5, v6] at u3
  rw [v7, v8] at u4
  rw [v9, v10] at u5
  rw [v11, v12] at u6
  clear v1 v2 v3 v4 v5 v6 v7 v8 v9 v10 v11 v12 o1 o2 o3 o4 o5 o6 g1 g2 g3 g4 g5 g6 HM0 hb0 hb6
  go_enter Tryz.func136, Tryz.ntmps136
  go_wp2
  go_ret
  exact hF.out
end Tx
end Go.Proofs.YtkfipbelhlcddaaGreat
