/- Chapter 26: small functions; lists of places. -/
import Derived.Test.YtkfipbelhlcddaaGreatTx2
import Derived.BigQuiet
import Derived.IntWalk
set_option linter.unusedVariables false
set_option linter.unusedSimpArgs false
namespace Go.Proofs.YtkfipbelhlcddaaGreat
open Go Go.RowKit Go.Sort Go.Lib
namespace Tx
open Sw Mm
theorem fstF_hit {F : Nat → Int} {n k : Nat} (hk : k < n) (h : F k ≠ 0) (hp : ∀ j, j < k → F j = 0) : fstF F n = F k := by
  unfold fstF
  have : (List.range n).find? (fun i => F i != 0) = some k := by
    rw [List.find?_range_eq_some]
    exact ⟨by simpa using h, List.mem_range.2 hk, fun j hj => by simp [hp j hj]⟩
  rw [this]
theorem fstF_none {F : Nat → Int} {n : Nat} (hp : ∀ j, j < n → F j = 0) : fstF F n = 0 := by
  unfold fstF
  have : (List.range n).find? (fun i => F i != 0) = none := by
    rw [List.find?_eq_none]
    intro j hj
    simp [hp j (List.mem_range.1 hj)]
  rw [this]
theorem fstF_zero {F : Nat → Int} {n : Nat} (h : fstF F n = 0) : ∀ j, j < n → F j = 0 := by
  unfold fstF at h
  cases hf : (List.range n).find? (fun i => F i != 0) with
  | some i =>
    rw [hf] at h
    have := List.find?_some hf
    simp at this
    exact absurd h this
  | none =>
    intro j hj
    rw [List.find?_eq_none] at hf
    simpa using hf j (List.mem_range.2 hj)
theorem next_zero {F : Nat → Int} {k : Nat} (h : F k = 0) (hp : ∀ j, j < k → F j = 0) : ∀ j, j < k + 1 → F j = 0 := fun j hj => by
  by_cases e : j = k
  · subst e; exact h
  · exact hp j (by omega)
def withB (n m : Int) : Bool := decide (0 ≤ n) && decide (n ≤ m)
theorem within_any (n m : Int) (w : World) : Calls Tryz.prog 78 #[.int .i64 n, .int .i64 m] w fun e w' => e = .returned (.bool (withB n m)) ∧ w = w' := by
  unfold withB
  go_enter Tryz.func78, Tryz.ntmps78
  go_wp2
  all_goals
    go_ret
    exact ⟨by first | (simp [*]; done) | (simp [*]; omega), rfl⟩
theorem node_any (n : Int) (w : World) : Calls Tryz.prog 122 #[.int .i64 n] w fun e w' => e = .returned (.bool (withB n 31)) ∧ w = w' := by
  unfold withB
  by_cases h : n < 32
  · have h2 : n ≤ 31 := by omega
    go_enter Tryz.func122, Tryz.ntmps122
    go_wp2
    all_goals
      go_ret
      exact ⟨by first | (simp [*]; done) | (simp [*]; omega), rfl⟩
  · have h2 : ¬ n ≤ 31 := by omega
    go_enter Tryz.func122, Tryz.ntmps122
    go_wp2
    all_goals
      go_ret
      exact ⟨by first | (simp [*]; done) | (simp [*]; omega), rfl⟩
theorem next_any (n : Int) (w : World) : Calls Tryz.prog 28 #[.int .i64 n] w fun e w' => e = .returned (.int .i64 (nextN n)) ∧ w = w' := by
  have cW := within_any n 255 w
  have hR : nextN n = if n < 0 ∨ 255 < n then 0 else if n = 255 then 1 else n + 1 := rfl
  have hW : withB n 255 = (decide (0 ≤ n) && decide (n ≤ 255)) := rfl
  generalize nextN n = R at *
  generalize withB n 255 = W at *
  by_cases h1 : n < 0 ∨ 255 < n
  · obtain rfl : W = false := by rw [hW]; simp; omega
    rw [if_pos h1] at hR
    replace cW := Lib.hid cW
    replace hR := Lib.hid hR
    replace hW := Lib.hid hW
    replace h1 := Lib.hid h1
    go_enter Tryz.func28, Tryz.ntmps28
    go_wp2_with fail
    refine cW.out.mono ?_
    rintro e w_ ⟨rfl, rfl⟩
    go_wp2
    go_ret
    exact ⟨by rw [hR.out]; rfl, rfl⟩
  · obtain rfl : W = true := by rw [hW]; simp; omega
    rw [if_neg h1] at hR
    have b1 : 0 ≤ n := by omega
    have b2 : n ≤ 255 := by omega
    by_cases h2 : n = 255
    · subst h2
      replace cW := Lib.hid cW
      replace hR := Lib.hid hR
      replace hW := Lib.hid hW
      replace h1 := Lib.hid h1
      go_enter Tryz.func28, Tryz.ntmps28
      go_wp2_with fail
      refine cW.out.mono ?_
      rintro e w_ ⟨rfl, rfl⟩
      go_wp2
      go_ret
      exact ⟨by rw [hR.out]; rfl, rfl⟩
    · rw [if_neg h2] at hR
      have d2 : (n == 255) = false := by simpa using h2
      replace cW := Lib.hid cW
      replace hR := Lib.hid hR
      replace hW := Lib.hid hW
      replace h1 := Lib.hid h1
      replace h2 := Lib.hid h2
      go_enter Tryz.func28, Tryz.ntmps28
      go_wp2_with fail
      refine cW.out.mono ?_
      rintro e w_ ⟨rfl, rfl⟩
      go_wp2
      go_ret
      exact ⟨by rw [hR.out]; rfl, rfl⟩
theorem rnext_any (n : Int) (w : World) : Calls Tryz.prog 35 #[.int .i64 n] w fun e w' => e = .returned (.int .i64 (nextN n)) ∧ w = w' := by
  have hR : nextN n = if n < 0 ∨ 255 < n then 0 else if n = 255 then 1 else n + 1 := rfl
  generalize nextN n = R at *
  by_cases h1 : n < 0
  · rw [if_pos (.inl h1)] at hR
    replace hR := Lib.hid hR
    go_enter Tryz.func35, Tryz.ntmps35
    go_wp2
    go_ret
    exact ⟨by rw [hR.out]; rfl, rfl⟩
  by_cases h2 : 255 < n
  · rw [if_pos (.inr h2)] at hR
    have h3 : 0 ≤ n := by omega
    replace hR := Lib.hid hR
    go_enter Tryz.func35, Tryz.ntmps35
    go_wp2
    go_ret
    exact ⟨by rw [hR.out]; rfl, rfl⟩
  rw [if_neg (by omega)] at hR
  have b1 : 0 ≤ n := by omega
  have b2 : n ≤ 255 := by omega
  clear h1 h2
  by_cases h2 : n = 255
  · subst h2
    replace hR := Lib.hid hR
    go_enter Tryz.func35, Tryz.ntmps35
    go_wp2
    go_ret
    exact ⟨by rw [hR.out]; rfl, rfl⟩
  · rw [if_neg h2] at hR
    have d2 : (n == 255) = false := by simpa using h2
    replace hR := Lib.hid hR
    replace h2 := Lib.hid h2
    go_enter Tryz.func35, Tryz.ntmps35
    go_wp2
    go_ret
    exact ⟨by rw [hR.out]; rfl, rfl⟩
theorem counts_any (k c : Int) (w : World) : Calls Tryz.prog 79 #[.int .i64 k, .int .i64 c] w fun e w' => e = .returned (.bool (countsN k c)) ∧ w = w' := by
  unfold countsN
  go_enter Tryz.func79, Tryz.ntmps79
  go_wp2
  all_goals
    go_ret
    exact ⟨by first | (simp [*]; done) | (simp [*, intB]; done) | (simp [*]; omega), rfl⟩
/-- a message is zero, by its lengths -/
theorem zeroM_eq (m : Msg) : zeroM m = (decide (m.kind = 0) && (!m.reply && (decide (m.number = 0) && (decide (m.code = 0) && (decide (m.count = 0) && (decide (m.spots.length = 0) && decide (m.old.length = 0))))))) := by
  obtain ⟨a, b, c, d, e, f, g⟩ := m
  unfold zeroM msg0
  rw [Bool.eq_iff_iff]
  simp [List.length_eq_zero_iff]
set_option maxRecDepth 100000 in
set_option maxHeartbeats 1000000 in
theorem zero_any (m : Msg) (v : MsgV) (w : World) (h : MsgIs w v m) : Calls Tryz.prog 128 #[.agg #[.int .i64 m.kind, .bool m.reply, .int .i64 m.number, .int .i64 m.code, .int .i64 m.count, .slice v.sA v.sn v.sc, .slice v.oA v.on v.oc]] w fun e w' => e = .returned (.bool (zeroM m)) ∧ Below w.heap.size w w' := by
  have hb := ball w (.cells #[.int .i64 m.kind, .bool m.reply, .int .i64 m.number, .int .i64 m.code, .int .i64 m.count, .slice v.sA v.sn v.sc, .slice v.oA v.on v.oc] 25)
  have BX := Box.new w #[.int .i64 m.kind, .bool m.reply, .int .i64 m.number, .int .i64 m.code, .int .i64 m.count, .slice v.sA v.sn v.sc, .slice v.oA v.on v.oc] 25
  have kx := BX.at_
  have h1 := h.spots.len
  have h2 := h.old.len
  rw [zeroM_eq, h1, h2]
  clear h1 h2
  replace hb := Lib.hid hb
  replace BX := Lib.hid BX
  replace h := Lib.hid h
  go_enter Tryz.func128, Tryz.ntmps128
  go_upto_region 1 with fail
  generalize w.alloc (.cells #[.int .i64 m.kind, .bool m.reply, .int .i64 m.number, .int .i64 m.code, .int .i64 m.count, .slice v.sA v.sn v.sc, .slice v.oA v.on v.oc] 25) = w1 at *
  go_wp2
  all_goals
    go_ret
    exact ⟨by simp [*, natB0], hb.out⟩
theorem spots_small {w : World} {v : MsgV} {m : Msg} (h : MsgIs w v m) : v.sn ≤ maxLen ∧ v.on ≤ maxLen := ⟨h.spots.small, h.old.small⟩
set_option maxRecDepth 100000 in
set_option maxHeartbeats 1000000 in
theorem places_any (A : Option Addr) (n c : Nat) (l : List Spt) (w : World) (h : SptS w A n l) : Calls Tryz.prog 100 #[.slice A n c] w fun e w' => e = .returned (.int .i64 (placesN l)) ∧ Below w.heap.size w w' := by
  have hlen := h.len
  have hs := h.small
  unfold maxLen at hs
  have hF : ∀ k, faultP l k = if (l.getD k default).slot < 0 ∨ 512 ≤ (l.getD k default).slot ∨ (l.getD k default).off < 0 ∨ 16 ≤ (l.getD k default).off then 2 else if 0 < k ∧ (l.getD k default).slot ≤ (l.getD (k - 1) default).slot then 5 else 0 := fun _ => rfl
  have hit := fun k (hk : k < n) (h1 : faultP l k ≠ 0) h2 => (by unfold placesN; rw [hlen]; exact fstF_hit hk h1 h2 : placesN l = faultP l k)
  have non := fun (hp : ∀ j, j < n → faultP l j = 0) => (by unfold placesN; rw [hlen]; exact fstF_none hp : placesN l = 0)
  generalize placesN l = R at *
  generalize faultP l = F at *
  replace h := Lib.hid h
  replace hlen := Lib.hid hlen
  replace hF := Lib.hid hF
  replace hit := Lib.hid hit
  replace non := Lib.hid non
  go_enter Tryz.func100, Tryz.ntmps100
  go_wp2_with fail
  go_loopw [3, 4, 7] (fun _ _ i wr => ∃ k : Nat, k ≤ n ∧ i = .int .i64 k ∧ Hid (∀ j, j < k → F j = 0) ∧ Hid (Below w.heap.size w wr)) (fun _ _ i _ => n - (intOf i).toNat)
  case atStart => exact ⟨0, by omega, rfl, fun j hj => by omega, Below.refl _ _⟩
  case round =>
    obtain ⟨k, hk, rfl, HP, HB⟩ := hrel
    by_cases hlt : k < n
    · obtain ⟨b, off, rfl⟩ := h.out.addr (by omega)
      have hx := spt_at (h.out.keep HB.out) hlt
      have hy := fun W (hb : Below w.heap.size w W) (h0 : 0 < k) => (spt_at (h.out.keep hb) (i := k - 1) (by omega)).1
      have hF2 := hF.out k
      have hit2 := fun h1 => hit.out k hlt h1 HP.out
      have nz := fun (h : F k = 0) => next_zero h HP.out
      generalize l.getD (k - 1) default = y at *
      generalize l.getD k default = x at *
      generalize F k = f at *
      obtain ⟨x0, x1⟩ := x
      obtain ⟨y0, y1⟩ := y
      obtain ⟨q0, q1⟩ := hx
      dsimp only at q0 q1 hy hF2
      have r1 : (k : Int) < (n : Int) := by omega
      have BX := Box.new wr #[.int .i64 x0, .int .i64 x1] 78
      have HBb := ballN HB.out (.cells #[.int .i64 x0, .int .i64 x1] 78)
      have kx := BX.at_
      have gx := BX.grown
      replace BX := Lib.hid BX
      replace HBb := Lib.hid HBb
      go_upto_region 4 with fail
      clear q0 q1
      generalize wr.alloc (.cells #[.int .i64 x0, .int .i64 x1] 78) = wb at *
      by_cases c0 : x0 < 0
      · have hRe : Hid (R = 2) := by show _ = _; rw [hit2 (by rw [hF2, if_pos (by omega)]; omega), hF2, if_pos (by omega)]
        clear hit2 hF2 nz hy
        go_wp2
        go_ret
        exact ⟨by rw [hRe.out]; rfl, HBb.out⟩
      have nc0 : 0 ≤ x0 := by omega
      clear c0
      by_cases c1 : 512 ≤ x0
      · have hRe : Hid (R = 2) := by show _ = _; rw [hit2 (by rw [hF2, if_pos (by omega)]; omega), hF2, if_pos (by omega)]
        clear hit2 hF2 nz hy
        go_wp2
        go_ret
        exact ⟨by rw [hRe.out]; rfl, HBb.out⟩
      have nc1 : x0 < 512 := by omega
      clear c1
      by_cases c2 : x1 < 0
      · have hRe : Hid (R = 2) := by show _ = _; rw [hit2 (by rw [hF2, if_pos (by omega)]; omega), hF2, if_pos (by omega)]
        clear hit2 hF2 nz hy
        go_wp2
        go_ret
        exact ⟨by rw [hRe.out]; rfl, HBb.out⟩
      have nc2 : 0 ≤ x1 := by omega
      clear c2
      by_cases c3 : 16 ≤ x1
      · have hRe : Hid (R = 2) := by show _ = _; rw [hit2 (by rw [hF2, if_pos (by omega)]; omega), hF2, if_pos (by omega)]
        clear hit2 hF2 nz hy
        go_wp2
        go_ret
        exact ⟨by rw [hRe.out]; rfl, HBb.out⟩
      have nc3 : x1 < 16 := by omega
      clear c3
      rw [if_neg (by omega)] at hF2
      by_cases k0 : k = 0
      · subst k0
        have hz : f = 0 := by rw [hF2, if_neg (by omega)]
        have hP2 := Lib.hid (nz hz)
        have d1 : decide (0 < (0 : Nat)) = false := by simp
        clear hit2 hF2 nz hy hz
        go_wp2_with fail
        refine wp_region_quiet_below (by kernel_rfl) (by kernel_rfl) ?_
        repeat (go_big_quiet_step (fail))
        refine wpQuiet_nil ?_
        rintro _ ⟨⟨dq, osq⟩, rfl⟩
        have hb_ := below_regrown wb dq osq
        replace HBb := Lib.hid (HBb.out.keep hb_)
        generalize grow (redrawn wb dq) osq = w2 at *
        clear hb_
        go_wp2
        go_roundw
        case rel => exact ⟨0 + 1, by omega, by go_num, hP2, HBb⟩
        case measure => simp [intOf]; omega
      have k1 : 0 < k := by omega
      have k2 : (0 : Int) < (k : Int) := by omega
      have p0 := hy wb HBb.out k1
      have g2 := cell_regrown p0
      have hw1 : IntKind.i64.wrap ((k : Int) - 1) = (k : Int) - 1 := IntWalk.i64_in _ (by omega)
      have ht1 : ((k : Int) - 1).toNat = k - 1 := by omega
      have t1 : (0 : Int) ≤ (k : Int) - 1 := by omega
      have t2 : (k : Int) - 1 < (n : Int) := by omega
      clear p0 hy
      by_cases hs : x0 ≤ y0
      · have hRe : Hid (R = 5) := by show _ = _; rw [hit2 (by rw [hF2, if_pos ⟨k1, hs⟩]; omega), hF2, if_pos ⟨k1, hs⟩]
        clear hit2 hF2 nz
        replace k0 := Lib.hid k0
        go_wp2_with fail
        refine wp_region_quiet_below (by kernel_rfl) (by kernel_rfl) ?_
        repeat (go_big_quiet_step (fail))
        refine wpQuiet_nil ?_
        rintro _ ⟨⟨dq, osq⟩, rfl⟩
        have hb_ := below_regrown wb dq osq
        replace HBb := Lib.hid (HBb.out.keep hb_)
        generalize grow (redrawn wb dq) osq = w2 at *
        clear hb_
        go_wp2
        go_ret
        exact ⟨by rw [hRe.out]; rfl, HBb.out⟩
      · have hz : f = 0 := by rw [hF2, if_neg (by omega)]
        have hP2 := Lib.hid (nz hz)
        have d2 : decide (x0 ≤ y0) = false := by simpa using hs
        clear hit2 hF2 nz hz
        replace k0 := Lib.hid k0
        replace hs := Lib.hid hs
        go_wp2_with fail
        refine wp_region_quiet_below (by kernel_rfl) (by kernel_rfl) ?_
        repeat (go_big_quiet_step (fail))
        refine wpQuiet_nil ?_
        rintro _ ⟨⟨dq, osq⟩, rfl⟩
        have hb_ := below_regrown wb dq osq
        replace HBb := Lib.hid (HBb.out.keep hb_)
        generalize grow (redrawn wb dq) osq = w2 at *
        clear hb_
        go_wp2
        go_roundw
        case rel => exact ⟨k + 1, by omega, by go_num, hP2, HBb⟩
        case measure => simp [intOf]; omega
    · obtain rfl : k = n := by omega
      have hRe := Lib.hid (non.out HP.out)
      go_wp2
      go_ret
      exact ⟨by rw [hRe.out]; rfl, HB.out⟩
set_option maxRecDepth 100000 in
set_option maxHeartbeats 1000000 in
theorem rplaces_any (A : Option Addr) (n c : Nat) (l : List Spt) (w : World) (h : SptS w A n l) : Calls Tryz.prog 107 #[.slice A n c] w fun e w' => e = .returned (.int .i64 (placesN l)) ∧ Below w.heap.size w w' := by
  have hlen := h.len
  have hs := h.small
  unfold maxLen at hs
  have hF : ∀ k, faultP l k = if (l.getD k default).slot < 0 ∨ 512 ≤ (l.getD k default).slot ∨ (l.getD k default).off < 0 ∨ 16 ≤ (l.getD k default).off then 2 else if 0 < k ∧ (l.getD k default).slot ≤ (l.getD (k - 1) default).slot then 5 else 0 := fun _ => rfl
  have hit := fun k (hk : k < n) (h1 : faultP l k ≠ 0) h2 => (by unfold placesN; rw [hlen]; exact fstF_hit hk h1 h2 : placesN l = faultP l k)
  have non := fun (hp : ∀ j, j < n → faultP l j = 0) => (by unfold placesN; rw [hlen]; exact fstF_none hp : placesN l = 0)
  generalize placesN l = R at *
  generalize faultP l = F at *
  replace h := Lib.hid h
  replace hlen := Lib.hid hlen
  replace hF := Lib.hid hF
  replace hit := Lib.hid hit
  replace non := Lib.hid non
  go_enter Tryz.func107, Tryz.ntmps107
  go_wp2_with fail
  go_loopw [3] (fun i wr => ∃ k : Nat, k ≤ n ∧ i = .int .i64 k ∧ Hid (∀ j, j < k → F j = 0) ∧ Hid (Below w.heap.size w wr)) (fun i _ => n - (intOf i).toNat)
  case atStart => exact ⟨0, by omega, rfl, fun j hj => by omega, Below.refl _ _⟩
  case round =>
    obtain ⟨k, hk, rfl, HP, HB⟩ := hrel
    by_cases hlt : k < n
    · obtain ⟨b, off, rfl⟩ := h.out.addr (by omega)
      have hx := spt_at (h.out.keep HB.out) hlt
      have hy := fun W (hb : Below w.heap.size w W) (h0 : 0 < k) => (spt_at (h.out.keep hb) (i := k - 1) (by omega)).1
      have hF2 := hF.out k
      have hit2 := fun h1 => hit.out k hlt h1 HP.out
      have nz := fun (h : F k = 0) => next_zero h HP.out
      generalize l.getD (k - 1) default = y at *
      generalize l.getD k default = x at *
      generalize F k = f at *
      obtain ⟨x0, x1⟩ := x
      obtain ⟨y0, y1⟩ := y
      obtain ⟨q0, q1⟩ := hx
      dsimp only at q0 q1 hy hF2
      have r1 : (k : Int) < (n : Int) := by omega
      have gq := cell_regrown q0
      by_cases c0 : x0 < 0
      · have hRe : Hid (R = 2) := by show _ = _; rw [hit2 (by rw [hF2, if_pos (by omega)]; omega), hF2, if_pos (by omega)]
        clear hit2 hF2 nz hy
        go_wp2
        go_ret
        exact ⟨by rw [hRe.out]; rfl, HB.out⟩
      have nc0 : 0 ≤ x0 := by omega
      clear c0
      by_cases c1 : 512 ≤ x0
      · have hRe : Hid (R = 2) := by show _ = _; rw [hit2 (by rw [hF2, if_pos (by omega)]; omega), hF2, if_pos (by omega)]
        clear hit2 hF2 nz hy
        go_wp2
        go_ret
        exact ⟨by rw [hRe.out]; rfl, HB.out⟩
      have nc1 : x0 < 512 := by omega
      clear c1
      by_cases c2 : x1 < 0
      · have hRe : Hid (R = 2) := by show _ = _; rw [hit2 (by rw [hF2, if_pos (by omega)]; omega), hF2, if_pos (by omega)]
        clear hit2 hF2 nz hy
        go_wp2
        go_ret
        exact ⟨by rw [hRe.out]; rfl, HB.out⟩
      have nc2 : 0 ≤ x1 := by omega
      clear c2
      by_cases c3 : 16 ≤ x1
      · have hRe : Hid (R = 2) := by show _ = _; rw [hit2 (by rw [hF2, if_pos (by omega)]; omega), hF2, if_pos (by omega)]
        clear hit2 hF2 nz hy
        go_wp2
        go_ret
        exact ⟨by rw [hRe.out]; rfl, HB.out⟩
      have nc3 : x1 < 16 := by omega
      clear c3
      rw [if_neg (by omega)] at hF2
      by_cases k0 : k = 0
      · subst k0
        have hz : f = 0 := by rw [hF2, if_neg (by omega)]
        have hP2 := Lib.hid (nz hz)
        have d1 : decide (0 < (0 : Nat)) = false := by simp
        simp only [Nat.zero_mul, Nat.add_zero] at q0 q1 gq
        clear hit2 hF2 nz hy hz
        go_wp2_with fail
        refine wp_region_quiet_below (by kernel_rfl) (by kernel_rfl) ?_
        repeat (go_big_quiet_step (fail))
        refine wpQuiet_nil ?_
        rintro _ ⟨⟨dq, osq⟩, rfl⟩
        have hb_ := below_regrown wr dq osq
        replace HB := Lib.hid (HB.out.keep hb_)
        generalize grow (redrawn wr dq) osq = w2 at *
        clear hb_
        go_wp2
        go_roundw
        case rel => exact ⟨0 + 1, by omega, by go_num, hP2, HB⟩
        case measure => simp [intOf]; omega
      have k1 : 0 < k := by omega
      have k2 : (0 : Int) < (k : Int) := by omega
      have p0 := hy wr HB.out k1
      have g2 := cell_regrown p0
      have hw1 : IntKind.i64.wrap ((k : Int) - 1) = (k : Int) - 1 := IntWalk.i64_in _ (by omega)
      have ht1 : ((k : Int) - 1).toNat = k - 1 := by omega
      have t1 : (0 : Int) ≤ (k : Int) - 1 := by omega
      have t2 : (k : Int) - 1 < (n : Int) := by omega
      clear p0 hy
      by_cases hs : x0 ≤ y0
      · have hRe : Hid (R = 5) := by show _ = _; rw [hit2 (by rw [hF2, if_pos ⟨k1, hs⟩]; omega), hF2, if_pos ⟨k1, hs⟩]
        clear hit2 hF2 nz
        replace k0 := Lib.hid k0
        go_wp2_with fail
        refine wp_region_quiet_below (by kernel_rfl) (by kernel_rfl) ?_
        repeat (go_big_quiet_step (fail))
        refine wpQuiet_nil ?_
        rintro _ ⟨⟨dq, osq⟩, rfl⟩
        have hb_ := below_regrown wr dq osq
        replace HB := Lib.hid (HB.out.keep hb_)
        generalize grow (redrawn wr dq) osq = w2 at *
        clear hb_
        go_wp2
        go_ret
        exact ⟨by rw [hRe.out]; rfl, HB.out⟩
      · have hz : f = 0 := by rw [hF2, if_neg (by omega)]
        have hP2 := Lib.hid (nz hz)
        have d2 : decide (x0 ≤ y0) = false := by simpa using hs
        clear hit2 hF2 nz hz
        replace k0 := Lib.hid k0
        replace hs := Lib.hid hs
        go_wp2_with fail
        refine wp_region_quiet_below (by kernel_rfl) (by kernel_rfl) ?_
        repeat (go_big_quiet_step (fail))
        refine wpQuiet_nil ?_
        rintro _ ⟨⟨dq, osq⟩, rfl⟩
        have hb_ := below_regrown wr dq osq
        replace HB := Lib.hid (HB.out.keep hb_)
        generalize grow (redrawn wr dq) osq = w2 at *
        clear hb_
        go_wp2
        go_roundw
        case rel => exact ⟨k + 1, by omega, by go_num, hP2, HB⟩
        case measure => simp [intOf]; omega
    · obtain rfl : k = n := by omega
      have hRe := Lib.hid (non.out HP.out)
      go_wp2
      go_ret
      exact ⟨by rw [hRe.out]; rfl, HB.out⟩
end Tx
end Go.Proofs.YtkfipbelhlcddaaGreat
