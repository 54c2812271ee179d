/- Chapter 25: a message follows its table, by the reference; Check. -/
import Derived.Test.YtkfipbelhlcddaaGreatTx5
set_option linter.unusedVariables false
set_option linter.unusedSimpArgs false
namespace Go.Proofs.YtkfipbelhlcddaaGreat
open Go Go.RowKit Go.Sort Go.Lib Go.Shelf Go.Maps
namespace Tx
open Sw Mm
/-- the same with numbers of one kind -/
def follI (k : Int) (r : Bool) (c t a b : Int) : Bool :=
  if r = false ∧ c ≠ 0 then false
  else if c ≠ 0 then decide (t = 0) && (decide (a = 0) && decide (b = 0))
  else if k = 1 then decide (b = 0) && (decide (1 ≤ t) && (decide (t ≤ 8) && (decide (t = a) || (!r && decide (t < a)))))
  else if k = 2 then decide (a = 0) && (decide (1 ≤ b) && decide (t = b))
  else if k = 3 then decide (1 ≤ b) && (decide (t = b) && (decide (a = b) || (!r && decide (b < a))))
  else if k = 4 then decide (a = 0) && (decide (b = 0) && (r || decide (t = 0)))
  else if k = 5 then decide (b = 0) && ((r || decide (t = 0)) && decide (a = min 8 t))
  else decide (a = 0) && (decide (b = 0) && decide (t = 0))
theorem follI_eq (m : Msg) : follN m = follI m.kind m.reply m.code m.count m.spots.length m.old.length := by
  have e0 : ∀ n : Nat, decide (n = 0) = decide ((n : Int) = 0) := fun n => by rw [decide_eq_decide]; omega
  have e1 : ∀ n : Nat, decide (1 ≤ n) = decide (1 ≤ (n : Int)) := fun n => by rw [decide_eq_decide]; omega
  have e2 : ∀ n k : Nat, decide (n = k) = decide ((n : Int) = k) := fun n k => by rw [decide_eq_decide]; omega
  have e3 : ∀ n k : Nat, decide (n < k) = decide ((n : Int) < k) := fun n k => by rw [decide_eq_decide]; omega
  unfold follN follI
  simp only [e1, e3]
  rw [e0 m.spots.length, e0 m.old.length, e2 m.spots.length m.old.length]
set_option maxRecDepth 100000 in
set_option maxHeartbeats 4000000 in
theorem rfollows_any (m : Msg) (v : MsgV) (w : World) (h : MsgIs w v m) : Calls Tryz.prog 108 #[.agg #[.int .i64 m.kind, .bool m.reply, .int .i64 m.number, .int .i64 m.code, .int .i64 m.count, .slice v.sA v.sn v.sc, .slice v.oA v.on v.oc]] w fun e w' => e = .returned (.bool (follN m)) ∧ Below w.heap.size w w' := by
  have hb := ball w (.cells #[.int .i64 m.kind, .bool m.reply, .int .i64 m.number, .int .i64 m.code, .int .i64 m.count, .slice v.sA v.sn v.sc, .slice v.oA v.on v.oc] 25)
  have BX := Box.new w #[.int .i64 m.kind, .bool m.reply, .int .i64 m.number, .int .i64 m.code, .int .i64 m.count, .slice v.sA v.sn v.sc, .slice v.oA v.on v.oc] 25
  obtain ⟨s1, s2⟩ := spots_small h
  unfold maxLen at s1 s2
  rw [follI_eq, h.spots.len, h.old.len]
  clear h
  obtain ⟨k0, r0, n0, c0, t0, s0, o0⟩ := m
  dsimp only at *
  generalize hR : follI k0 r0 c0 t0 v.sn v.on = R at *
  unfold follI at hR
  cases r0 with
  | false =>
    by_cases hc : c0 = 0
    case neg =>
      have d1 : (c0 != 0) = true := by rw [bne_iff_ne]; exact hc
      simp [hc] at hR
      replace hc := Lib.hid hc
      replace hb := Lib.hid hb
      replace BX := Lib.hid BX
      go_enter Tryz.func108, Tryz.ntmps108
      go_upto_region 1 with fail
      generalize w.alloc (.cells #[.int .i64 k0, .bool false, .int .i64 n0, .int .i64 c0, .int .i64 t0, .slice v.sA v.sn v.sc, .slice v.oA v.on v.oc] 25) = w1 at *
      have gx := BX.out.grown
      have kx := BX.out.at_
      go_wp2
      go_ret
      exact ⟨by rw [← hR]; rfl, hb.out⟩
    have d1 : (c0 != 0) = false := by rw [bne_eq_false_iff_eq]; exact hc
    simp only [hc, ne_eq, not_true_eq_false, and_false, if_false] at hR
    replace hc := Lib.hid hc
    replace hb := Lib.hid hb
    replace BX := Lib.hid BX
    go_enter Tryz.func108, Tryz.ntmps108
    go_upto_region 1 with fail
    generalize w.alloc (.cells #[.int .i64 k0, .bool false, .int .i64 n0, .int .i64 c0, .int .i64 t0, .slice v.sA v.sn v.sc, .slice v.oA v.on v.oc] 25) = w1 at *
    have gx := BX.out.grown
    have kx := BX.out.at_
    go_upto_region 3 with fail
    refine wp_region_quiet_below (by kernel_rfl) (by kernel_rfl) ?_
    repeat (go_big_quiet_step (fail))
    refine wpQuiet_nil ?_
    rintro _ ⟨⟨dq, osq⟩, rfl⟩
    have hb_ := below_regrown w1 dq osq
    replace hb := Lib.hid (hb.out.keep hb_)
    replace BX := Lib.hid (BX.out.keep hb_)
    generalize grow (redrawn w1 dq) osq = w2 at *
    clear hb_
    clear kx gx
    have kx := BX.out.at_
    by_cases k1 : k0 = 1
    · rw [if_pos k1] at hR
      have d2 : (k0 == 1) = true := by simpa using k1
      replace hR := Lib.hid hR
      replace k1 := Lib.hid k1
      go_wp2
      all_goals
        go_ret
        exact ⟨by rw [← hR.out]; first | (simp [*]; done) | (simp [*]; omega) | (simp [*, intB]; done) | (simp [*, intB]; omega), hb.out⟩
    rw [if_neg k1] at hR
    have e1 : (k0 == 1) = false := by simpa using k1
    clear k1
    by_cases k2 : k0 = 2
    · rw [if_pos k2] at hR
      have d2 : (k0 == 2) = true := by simpa using k2
      replace hR := Lib.hid hR
      replace k2 := Lib.hid k2
      go_wp2
      all_goals
        go_ret
        exact ⟨by rw [← hR.out]; first | (simp [*]; done) | (simp [*]; omega) | (simp [*, intB]; done) | (simp [*, intB]; omega), hb.out⟩
    rw [if_neg k2] at hR
    have e2 : (k0 == 2) = false := by simpa using k2
    clear k2
    by_cases k3 : k0 = 3
    · rw [if_pos k3] at hR
      have d2 : (k0 == 3) = true := by simpa using k3
      replace hR := Lib.hid hR
      replace k3 := Lib.hid k3
      go_wp2
      all_goals
        go_ret
        exact ⟨by rw [← hR.out]; first | (simp [*]; done) | (simp [*]; omega) | (simp [*, intB]; done) | (simp [*, intB]; omega), hb.out⟩
    rw [if_neg k3] at hR
    have e3 : (k0 == 3) = false := by simpa using k3
    clear k3
    by_cases k4 : k0 = 4
    · rw [if_pos k4] at hR
      have d2 : (k0 == 4) = true := by simpa using k4
      replace hR := Lib.hid hR
      replace k4 := Lib.hid k4
      go_wp2
      all_goals
        go_ret
        exact ⟨by rw [← hR.out]; first | (simp [*]; done) | (simp [*]; omega) | (simp [*, intB]; done) | (simp [*, intB]; omega), hb.out⟩
    rw [if_neg k4] at hR
    have e4 : (k0 == 4) = false := by simpa using k4
    clear k4
    by_cases k5 : k0 = 5
    · rw [if_pos k5] at hR
      have d2 : (k0 == 5) = true := by simpa using k5
      replace hR := Lib.hid hR
      replace k5 := Lib.hid k5
      go_wp2
      all_goals
        go_ret
        exact ⟨by rw [← hR.out]; first | (simp [*]; done) | (simp [*]; omega) | (simp [*, intB]; done) | (simp [*, intB]; omega), hb.out⟩
    rw [if_neg k5] at hR
    have e5 : (k0 == 5) = false := by simpa using k5
    clear k5
    replace hR := Lib.hid hR
    go_wp2
    all_goals
      go_ret
      exact ⟨by rw [← hR.out]; first | (simp [*]; done) | (simp [*]; omega) | (simp [*, intB]; done) | (simp [*, intB]; omega), hb.out⟩
  | true =>
    by_cases hc : c0 = 0
    case neg =>
      have d1 : (c0 != 0) = true := by rw [bne_iff_ne]; exact hc
      simp [hc] at hR
      replace hc := Lib.hid hc
      replace hb := Lib.hid hb
      replace BX := Lib.hid BX
      go_enter Tryz.func108, Tryz.ntmps108
      go_upto_region 1 with fail
      generalize w.alloc (.cells #[.int .i64 k0, .bool true, .int .i64 n0, .int .i64 c0, .int .i64 t0, .slice v.sA v.sn v.sc, .slice v.oA v.on v.oc] 25) = w1 at *
      have gx := BX.out.grown
      have kx := BX.out.at_
      go_upto_region 3 with fail
      refine wp_region_quiet_below (by kernel_rfl) (by kernel_rfl) ?_
      repeat (go_big_quiet_step (fail))
      refine wpQuiet_nil ?_
      rintro _ ⟨⟨dq, osq⟩, rfl⟩
      have hb_ := below_regrown w1 dq osq
      replace hb := Lib.hid (hb.out.keep hb_)
      replace BX := Lib.hid (BX.out.keep hb_)
      generalize grow (redrawn w1 dq) osq = w2 at *
      clear hb_
      clear kx gx
      have kx := BX.out.at_
      replace hR := Lib.hid hR
      go_wp2
      all_goals
        go_ret
        exact ⟨by rw [← hR.out]; first | (simp [*]; done) | (simp [*]; omega) | (simp [*, intB]; done) | (simp [*, intB]; omega), hb.out⟩
    have d1 : (c0 != 0) = false := by rw [bne_eq_false_iff_eq]; exact hc
    simp only [hc, ne_eq, not_true_eq_false, and_false, if_false] at hR
    replace hc := Lib.hid hc
    replace hb := Lib.hid hb
    replace BX := Lib.hid BX
    go_enter Tryz.func108, Tryz.ntmps108
    go_upto_region 1 with fail
    generalize w.alloc (.cells #[.int .i64 k0, .bool true, .int .i64 n0, .int .i64 c0, .int .i64 t0, .slice v.sA v.sn v.sc, .slice v.oA v.on v.oc] 25) = w1 at *
    have gx := BX.out.grown
    have kx := BX.out.at_
    go_upto_region 3 with fail
    refine wp_region_quiet_below (by kernel_rfl) (by kernel_rfl) ?_
    repeat (go_big_quiet_step (fail))
    refine wpQuiet_nil ?_
    rintro _ ⟨⟨dq, osq⟩, rfl⟩
    have hb_ := below_regrown w1 dq osq
    replace hb := Lib.hid (hb.out.keep hb_)
    replace BX := Lib.hid (BX.out.keep hb_)
    generalize grow (redrawn w1 dq) osq = w2 at *
    clear hb_
    clear kx gx
    have kx := BX.out.at_
    by_cases k1 : k0 = 1
    · rw [if_pos k1] at hR
      have d2 : (k0 == 1) = true := by simpa using k1
      replace hR := Lib.hid hR
      replace k1 := Lib.hid k1
      go_wp2
      all_goals
        go_ret
        exact ⟨by rw [← hR.out]; first | (simp [*]; done) | (simp [*]; omega) | (simp [*, intB]; done) | (simp [*, intB]; omega), hb.out⟩
    rw [if_neg k1] at hR
    have e1 : (k0 == 1) = false := by simpa using k1
    clear k1
    by_cases k2 : k0 = 2
    · rw [if_pos k2] at hR
      have d2 : (k0 == 2) = true := by simpa using k2
      replace hR := Lib.hid hR
      replace k2 := Lib.hid k2
      go_wp2
      all_goals
        go_ret
        exact ⟨by rw [← hR.out]; first | (simp [*]; done) | (simp [*]; omega) | (simp [*, intB]; done) | (simp [*, intB]; omega), hb.out⟩
    rw [if_neg k2] at hR
    have e2 : (k0 == 2) = false := by simpa using k2
    clear k2
    by_cases k3 : k0 = 3
    · rw [if_pos k3] at hR
      have d2 : (k0 == 3) = true := by simpa using k3
      replace hR := Lib.hid hR
      replace k3 := Lib.hid k3
      go_wp2
      all_goals
        go_ret
        exact ⟨by rw [← hR.out]; first | (simp [*]; done) | (simp [*]; omega) | (simp [*, intB]; done) | (simp [*, intB]; omega), hb.out⟩
    rw [if_neg k3] at hR
    have e3 : (k0 == 3) = false := by simpa using k3
    clear k3
    by_cases k4 : k0 = 4
    · rw [if_pos k4] at hR
      have d2 : (k0 == 4) = true := by simpa using k4
      replace hR := Lib.hid hR
      replace k4 := Lib.hid k4
      go_wp2
      all_goals
        go_ret
        exact ⟨by rw [← hR.out]; first | (simp [*]; done) | (simp [*]; omega) | (simp [*, intB]; done) | (simp [*, intB]; omega), hb.out⟩
    rw [if_neg k4] at hR
    have e4 : (k0 == 4) = false := by simpa using k4
    clear k4
    by_cases k5 : k0 = 5
    · rw [if_pos k5] at hR
      have d2 : (k0 == 5) = true := by simpa using k5
      replace hR := Lib.hid hR
      replace k5 := Lib.hid k5
      go_wp2
      all_goals
        go_ret
        exact ⟨by rw [← hR.out]; first | (simp [*]; done) | (simp [*]; omega) | (simp [*, intB]; done) | (simp [*, intB]; omega), hb.out⟩
    rw [if_neg k5] at hR
    have e5 : (k0 == 5) = false := by simpa using k5
    clear k5
    replace hR := Lib.hid hR
    go_wp2
    all_goals
      go_ret
      exact ⟨by rw [← hR.out]; first | (simp [*]; done) | (simp [*]; omega) | (simp [*, intB]; done) | (simp [*, intB]; omega), hb.out⟩
end Tx
end Go.Proofs.YtkfipbelhlcddaaGreat
