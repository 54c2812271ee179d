/- Chapter 16: the program's small functions: Compare, Or, compare, form, masked, used. -/
import Derived.Test.YtkfipbelhlcddaaGreatTxH
import Derived.StillTailTactics
set_option linter.unusedVariables false
set_option linter.unusedSimpArgs false
namespace Go.Proofs.YtkfipbelhlcddaaGreat
open Go Go.RowKit Go.Sort Go.Lib Go.Shelf Go.Maps
namespace Tx
open Sw Mm
def cmpI (x y : Int) : Int := if x < y then -1 else if y < x then 1 else 0
set_option maxHeartbeats 400000 in
theorem cmp_any (x y : Int) (w : World) : Calls Tryz.prog 147 #[.int .i64 x, .int .i64 y] w fun e w' => e = .returned (.int .i64 (cmpI x y)) ∧ w' = w := by
  have key : (x < y ∧ cmpI x y = -1) ∨ (y < x ∧ cmpI x y = 1) ∨ (x = y ∧ cmpI x y = 0) := by
    unfold cmpI
    rcases Int.lt_trichotomy x y with h | h | h
    · exact .inl ⟨h, if_pos h⟩
    · exact .inr (.inr ⟨h, by rw [if_neg (by omega), if_neg (by omega)]⟩)
    · exact .inr (.inl ⟨h, by rw [if_neg (by omega), if_pos h]⟩)
  rcases key with ⟨h, e⟩ | ⟨h, e⟩ | ⟨rfl, e⟩
  all_goals
    replace e := Lib.hid e
    go_enter Tryz.func147, Tryz.ntmps147
    go_wp2
    go_ret
    exact ⟨by rw [e.out]; rfl, rfl⟩
def orI (x y : Int) : Int := if x = 0 then y else x
set_option maxHeartbeats 400000 in
theorem or_any (x y : Int) (b : Nat) (w : World) (h0 : w.cell? ⟨b, 0, none⟩ = some (.int .i64 x)) (h1 : w.cell? ⟨b, 1, none⟩ = some (.int .i64 y)) :
    Calls Tryz.prog 146 #[.slice (some ⟨b, 0, none⟩) 2 2] w fun e w' => e = .returned (.int .i64 (orI x y)) ∧ w = w' := by
  by_cases hx : x = 0
  · have e : Hid (orI x y = y) := if_pos hx
    have hx' : (x != 0) = false := by rw [hx]; rfl
    replace hx := Lib.hid hx
    by_cases hy : y = 0
    · have hy' : (y != 0) = false := by rw [hy]; rfl
      replace hy := Lib.hid hy
      go_enter Tryz.func146, Tryz.ntmps146
      go_wp2
      refine wp_loop_rounds 3 ?_
      rw [rounds_succ]
      go_wp2
      rw [rounds_succ]
      go_wp2
      rw [rounds_succ]
      go_wp2
      go_ret
      exact ⟨by rw [e.out, hy.out]; rfl, rfl⟩
    · have hy' : (y != 0) = true := by rw [bne_iff_ne]; exact hy
      replace hy := Lib.hid hy
      go_enter Tryz.func146, Tryz.ntmps146
      go_wp2
      refine wp_loop_rounds 3 ?_
      rw [rounds_succ]
      go_wp2
      rw [rounds_succ]
      go_wp2
      go_ret
      exact ⟨by rw [e.out]; rfl, rfl⟩
  · have e : Hid (orI x y = x) := if_neg hx
    have hx' : (x != 0) = true := by rw [bne_iff_ne]; exact hx
    replace hx := Lib.hid hx
    go_enter Tryz.func146, Tryz.ntmps146
    go_wp2
    refine wp_loop_rounds 3 ?_
    rw [rounds_succ]
    go_wp2
    go_ret
    exact ⟨by rw [e.out]; rfl, rfl⟩
theorem wp_still_tail {P : Program} {id : Nat} {Q : Exit → Act → World → Prop} {a : Act} {w : World} {l : List Oper} (n : Nat) (hm : P.follows .mixedOrders = true) (hB : Region.lexTailB .any l.toArray n = true)
    (h : wpStill P l.toArray w.drew (fun a' => wpList P l.toArray Q (l.drop n) a' w.drew) (l.take n) a) : (Code.region id l.toArray true).wp P Q a w :=
  wp_region_still_tail n hm hB h
def cmpT (a b : TCl) : Int := orI (cmpI a.slot b.slot) (cmpI a.kind b.kind)
set_option maxRecDepth 100000 in
set_option maxHeartbeats 1000000 in
theorem cmpT_any (a b : TCl) (w : World) : Calls Tryz.prog 124 #[.agg #[.int .i64 a.slot, .int .i64 a.off, .int .i64 a.kind, .bool a.send, .int .i64 a.peer, .int .i64 a.flow], .agg #[.int .i64 b.slot, .int .i64 b.off, .int .i64 b.kind, .bool b.send, .int .i64 b.peer, .int .i64 b.flow]] w fun e w' => e = .returned (.int .i64 (cmpT a b)) ∧ Below w.heap.size w w' := by
  have HM := Lib.hid (Mem.start w)
  obtain ⟨a0, a1, a2, a3, a4, a5⟩ := a
  obtain ⟨b0, b1, b2, b3, b4, b5⟩ := b
  dsimp only at *
  go_enter Tryz.func124, Tryz.ntmps124
  go_upto_region 1 with (refine wpList_boxA HM rfl _ _ rfl _ rfl ?_; clear HM; intro g w1 HM hG; clear hG)
  have kb := HM.out.cell 0 rfl
  have ka := HM.out.cell 1 rfl
  refine wp_still_tail 10 (by kernel_rfl) (by kernel_rfl) ?_
  simp only [List.take_succ_cons, List.take_zero, List.drop_succ_cons, List.drop_zero]
  repeat (first | still_step | still_call (cmp_any _ _ _))
  refine wpStill_nil ?_
  go_wp2_with fail
  refine (or_any (cmpI a0 b0) (cmpI a2 b2) _ _ (by simp) (by simp)).mono ?_
  rintro e w2 ⟨rfl, rfl⟩
  go_wp2
  go_ret
  exact ⟨rfl, (ballN HM.out.below _).drew⟩
theorem cmpT_neg (a b : TCl) : cmpT a b < 0 ↔ ltT a b := by
  unfold cmpT orI cmpI ltT
  by_cases h1 : a.slot < b.slot
  · simp [h1]
  · by_cases h2 : b.slot < a.slot
    · simp [h1, h2]; omega
    · simp only [h1, h2, if_false, if_true]
      by_cases h3 : a.kind < b.kind
      · simp [h3]; omega
      · by_cases h4 : b.kind < a.kind
        · simp [h3, h4]
        · simp [h3, h4]
theorem cmpT_zero (a b : TCl) : cmpT a b = 0 ↔ a.slot = b.slot ∧ a.kind = b.kind := by
  unfold cmpT orI cmpI
  by_cases h1 : a.slot < b.slot
  · simp [h1]; omega
  · by_cases h2 : b.slot < a.slot
    · simp [h1, h2]; omega
    · simp only [h1, h2, if_false, if_true]
      by_cases h3 : a.kind < b.kind
      · simp [h3]; omega
      · by_cases h4 : b.kind < a.kind
        · simp [h3, h4]; omega
        · simp [h3, h4]; omega
set_option maxRecDepth 100000 in
set_option maxHeartbeats 2000000 in
theorem form_any (c : TCl) (self len : Int) (w : World) : Calls Tryz.prog 123 #[.agg #[.int .i64 c.slot, .int .i64 c.off, .int .i64 c.kind, .bool c.send, .int .i64 c.peer, .int .i64 c.flow], .int .i64 self, .int .i64 len] w fun e w' => e = .returned (.int .i64 (formN c self len)) ∧ Below w.heap.size w w' := by
  have HM := Lib.hid (Mem.start w)
  have hR : formN c self len = formN c self len := rfl
  conv at hR => rhs; unfold formN
  generalize formN c self len = R at *
  have cN := fun n W => node_any n W
  have hW : withB c.peer 31 = true ↔ 0 ≤ c.peer ∧ c.peer ≤ 31 := by unfold withB; simp
  obtain ⟨c0, c1, c2, c3, c4, c5⟩ := c
  dsimp only at *
  replace cN := cN c4
  generalize withB c4 31 = W31 at *
  have hk : c2 = 1 ∨ c2 = 2 ∨ c2 = 3 ∨ (c2 ≠ 1 ∧ c2 ≠ 2 ∧ c2 ≠ 3) := by omega
  replace cN := Lib.hid cN
  rcases hk with rfl | rfl | rfl | ⟨n1, n2, n3⟩
  case inr.inr.inr =>
    have d1 : (c2 == 1) = false := by simpa using n1
    have d2 : (c2 != 2) = true := by simpa using n2
    have d3 : (c2 == 3) = false := by simpa using n3
    rw [if_pos (by omega)] at hR
    replace hR := Lib.hid hR
    replace n1 := Lib.hid n1
    replace n2 := Lib.hid n2
    replace n3 := Lib.hid n3
    replace hW := Lib.hid hW
    go_enter Tryz.func123, Tryz.ntmps123
    go_upto_region 1 with (refine wpList_boxA HM rfl _ _ rfl _ rfl ?_; clear HM; intro g w1 HM hG; clear hG)
    have kb := HM.out.cell 0 rfl
    go_wp2
    go_ret
    exact ⟨by rw [hR.out]; rfl, HM.out.below⟩
  all_goals
    cases c3 <;> cases W31
    all_goals
      simp at hR hW
      replace hR := Lib.hid hR
      replace hW := Lib.hid hW
      go_enter Tryz.func123, Tryz.ntmps123
      go_upto_region 1 with (refine wpList_boxA HM rfl _ _ rfl _ rfl ?_; clear HM; intro g w1 HM hG; clear hG)
      have kb := HM.out.cell 0 rfl
      go_wp2_with (first | (go_at_call 122; refine (cN.out _).mono ?_; rintro e w_ ⟨rfl, rfl⟩) | fail)
      all_goals
        have hR2 := hR.out
        have hW2 := hW.out
        go_ret
        refine ⟨?_, HM.out.below⟩
        rw [hR2]
        repeat' split
        all_goals first | rfl | (exfalso; omega) | (simp only [beq_iff_eq, bne_iff_ne, beq_eq_false_iff_ne, bne_eq_false_iff_eq, Bool.not_eq_true, ne_eq, decide_eq_true_eq, decide_eq_false_iff_not, Bool.not_eq_eq_eq_not, Bool.not_true, Bool.not_false] at *; exfalso; omega)
theorem eMk : ∀ args w, (callFunc 138 args).run Tryz.prog w = .ok (.enter 138 args) w := enters_of Tryz.func138 (by kernel_rfl) rfl
def mkB (x : Int) : Bool := decide (x < 0) || decide (65536 ≤ x)
theorem mk1_any (x : Int) (w : World) : Calls Tryz.prog 138 (#[.int .i64 x] ++ #[]) w fun e w' => e = .returned (.bool (mkB x)) ∧ Below w.heap.size w w' := by
  show Calls Tryz.prog 138 #[.int .i64 x] w _
  unfold mkB
  go_enter Tryz.func138, Tryz.ntmps138
  go_wp2
  all_goals
    go_ret
    exact ⟨by first | (simp [*]; done) | (simp [*]; omega) | (simp [*, intB]; done) | (simp [*, intB]; omega) | (simp [*, bne, intB]; done), Below.refl _ _⟩
theorem maskN_split (f : List Int) (len : Int) : maskN f len = (decide ((f.length : Int) = len) && !f.any mkB) := by
  have e : (fun n : Int => decide (0 ≤ n) && decide (n < 65536)) = fun x => !mkB x := funext fun x => by
    unfold mkB; rw [Bool.eq_iff_iff]; simp
  unfold maskN
  rw [e, List.all_eq_not_any_not]
  simp
set_option maxRecDepth 100000 in
set_option maxHeartbeats 2000000 in
theorem masked_any (A : Option Addr) (n c : Nat) (f : List Int) (len : Int) (w : World) (h : IntS w A n f) : Calls Tryz.prog 103 #[.slice A n c, .int .i64 len] w fun e w' => e = .returned (.bool (maskN f len)) ∧ Below w.heap.size w w' := by
  have cF := ctnFnI_any 138 #[] mkB A n c f w eMk h (fun x _ W _ => mk1_any x W)
  rw [maskN_split, h.len]
  generalize f.any mkB = R at *
  have hs := h.small
  unfold maxLen at hs
  replace h := Lib.hid h
  replace cF := Lib.hid cF
  go_enter Tryz.func103, Tryz.ntmps103
  by_cases hl : (n : Int) = len
  · subst hl
    go_wp2_with fail
    refine cF.out.mono ?_
    rintro e w1 ⟨rfl, hb_⟩
    replace hb_ := Lib.hid hb_
    go_wp2
    all_goals
      go_ret
      exact ⟨by first | (simp [*]; done) | (simp [*]; omega) | (simp [*, intB]; done) | (simp [*, intB]; omega) | (simp [*, bne, intB]; done), hb_.out⟩
  · have d : ((n : Int) == len) = false := by simpa using hl
    go_wp2
    all_goals
      go_ret
      exact ⟨by first | (simp [*]; done) | (simp [*]; omega) | (simp [*, intB]; done) | (simp [*, intB]; omega) | (simp [*, bne, intB]; done), Below.refl _ _⟩
theorem eUs : ∀ args w, (callFunc 139 args).run Tryz.prog w = .ok (.enter 139 args) w := enters_of Tryz.func139 (by kernel_rfl) rfl
set_option maxRecDepth 100000 in
set_option maxHeartbeats 2000000 in
theorem us1_any (x : TCl) (slot : Int) (B1 : Nat) (w : World) (h1 : Box w B1 #[.int .i64 slot]) :
    Calls Tryz.prog 139 (#[.agg #[.int .i64 x.slot, .int .i64 x.off, .int .i64 x.kind, .bool x.send, .int .i64 x.peer, .int .i64 x.flow]] ++ #[.pointer (some ⟨B1, 0, none⟩)]) w fun e w' => e = .returned (.bool (decide (x.slot = slot))) ∧ Below w.heap.size w w' := by
  show Calls Tryz.prog 139 #[.agg #[.int .i64 x.slot, .int .i64 x.off, .int .i64 x.kind, .bool x.send, .int .i64 x.peer, .int .i64 x.flow], .pointer (some ⟨B1, 0, none⟩)] w _
  have HM := Lib.hid (Mem.start w)
  obtain ⟨x0, x1, x2, x3, x4, x5⟩ := x
  dsimp only at *
  replace h1 := Lib.hid h1
  go_enter Tryz.func139, Tryz.ntmps139
  go_upto_region 1 with (refine wpList_boxA HM rfl _ _ rfl _ rfl ?_; clear HM; intro g w1 HM hG; clear hG)
  have kb := HM.out.cell 0 rfl
  have k1 := (h1.out.keep HM.out.below).at_
  go_wp2
  all_goals
    go_ret
    exact ⟨by first | (simp [*]; done) | (simp [*]; omega) | (simp [*, intB]; done) | (simp [*, intB]; omega) | (simp [*, bne, intB]; done), HM.out.below⟩
set_option maxRecDepth 100000 in
set_option maxHeartbeats 2000000 in
theorem used_any (t : Tab) (v : TabV) (slot : Int) (w : World) (h : TabIs w v t) : Calls Tryz.prog 104 #[.agg #[.int .i64 t.node, .int .i64 t.length, .slice v.A v.n v.c], .int .i64 slot] w fun e w' => e = .returned (.bool (usedN t slot)) ∧ Below w.heap.size w w' := by
  have HM := Lib.hid (Mem.start w)
  have cF := fun W B1 (hb : Below w.heap.size w W) (h1 : Box W B1 #[.int .i64 slot]) => ctnFnT_any 139 #[.pointer (some ⟨B1, 0, none⟩)] (fun x => decide (x.slot = slot)) v.A v.n v.c t.cells W eUs (h.cells.keep hb) (fun x _ W2 hb2 => us1_any x slot B1 W2 (h1.keep hb2))
  have hR : usedN t slot = t.cells.any (fun x => decide (x.slot = slot)) := rfl
  generalize t.cells.any (fun x => decide (x.slot = slot)) = R at *
  replace h := Lib.hid h
  replace cF := Lib.hid cF
  replace hR := Lib.hid hR
  go_enter Tryz.func104, Tryz.ntmps104
  go_upto_region 1 with (first | (refine wpList_boxA HM rfl _ _ rfl _ rfl ?_; clear HM; intro g w1 HM hG; clear hG) | (refine wpList_boxM HM rfl _ _ rfl (.int .i64 slot) rfl ?_; clear HM; intro g w1 HM hG; clear hG))
  have kb := HM.out.cell 1 rfl
  go_wp2_with fail
  refine (cF.out _ _ HM.out.below (HM.out.at_ 0 rfl).box).mono ?_
  rintro e w3 ⟨rfl, hb_⟩
  have HM2 := Lib.hid (HM.out.keep hb_); clear HM hb_ kb cF; have HM := HM2; clear HM2; have kb := HM.out.cell 1 rfl
  go_wp2
  go_ret
  exact ⟨by rw [hR.out]; rfl, HM.out.below⟩
end Tx
end Go.Proofs.YtkfipbelhlcddaaGreat
