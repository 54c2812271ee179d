/- Chapter 16: the reference's small functions: taken, Bit, power, IsMask, Opposite, Few, Same. -/
import Derived.Test.YtkfipbelhlcddaaGreatMj
import Derived.Test.YtkfipbelhlcddaaGreatMp
set_option linter.unusedVariables false
set_option linter.unusedSimpArgs false
namespace Go.Proofs.YtkfipbelhlcddaaGreat
open Go Go.RowKit Go.Sort Go.Lib Go.Shelf Go.Maps
namespace Tx
open Sw Mm
def takenS (l : List TCl) (slot kind : Int) : Bool := l.any fun x => decide (x.slot = slot) && decide (x.kind = kind)
set_option maxRecDepth 100000 in
set_option maxHeartbeats 2000000 in
theorem taken_any (A : Option Addr) (n cp : Nat) (l : List TCl) (slot kind : Int) (w : World) (h : TclS w A n l) : Calls Tryz.prog 121 #[.slice A n cp, .int .i64 slot, .int .i64 kind] w fun e w' => e = .returned (.bool (takenS l slot kind)) ∧ w = w' := by
  have hlen := h.len
  have hs := h.small
  unfold maxLen at hs
  have hyes : ∀ k, k < n → (decide ((l.getD k default).slot = slot) && decide ((l.getD k default).kind = kind)) = true → takenS l slot kind = true := fun k hk e => List.any_eq_true.2 ⟨_, getD_mem (by rw [hlen]; exact hk), e⟩
  have hno : (∀ k, k < n → (decide ((l.getD k default).slot = slot) && decide ((l.getD k default).kind = kind)) = false) → takenS l slot kind = false := fun e => by
    unfold takenS
    rw [List.any_eq_false]
    intro x hx
    obtain ⟨i, hi, rfl⟩ := mem_getD hx
    rw [e i (by omega)]; simp
  generalize takenS l slot kind = R at *
  replace h := Lib.hid h
  replace hlen := Lib.hid hlen
  replace hyes := Lib.hid hyes
  replace hno := Lib.hid hno
  go_enter Tryz.func121, Tryz.ntmps121
  go_wp2_with fail
  go_loopw [7] (fun i wr => ∃ k : Nat, k ≤ n ∧ i = .int .i64 k ∧ Hid (∀ j, j < k → (decide ((l.getD j default).slot = slot) && decide ((l.getD j default).kind = kind)) = false) ∧ wr = w) (fun i _ => n - (intOf i).toNat)
  case atStart => exact ⟨0, by omega, rfl, fun j hj => by omega, rfl⟩
  case round =>
    obtain ⟨k, hk, rfl, HP, rfl⟩ := hrel
    by_cases hlt : k < n
    · obtain ⟨b, off, rfl⟩ := h.out.addr (by omega)
      have hx := tcl_at h.out hlt
      have hy := hyes.out k hlt
      have hn : (decide ((l.getD k default).slot = slot) && decide ((l.getD k default).kind = kind)) = false → ∀ j, j < k + 1 → (decide ((l.getD j default).slot = slot) && decide ((l.getD j default).kind = kind)) = false := fun h j hj => by
        by_cases e : j = k
        · subst e; exact h
        · exact HP.out j (by omega)
      generalize l.getD k default = x at *
      obtain ⟨x0, x1, x2, x3, x4, x5⟩ := x
      obtain ⟨q0, q1, q2, q3, q4, q5⟩ := hx
      dsimp only at q0 q1 q2 q3 q4 q5 hy hn
      have r1 : (k : Int) < (n : Int) := by omega
      by_cases c0 : x0 = slot
      · by_cases c2 : x2 = kind
        · have hR := Lib.hid (hy (by simp [c0, c2]))
          subst c0 c2
          clear hy hn
          go_wp2
          go_ret
          exact ⟨by rw [hR.out]; rfl, rfl⟩
        · have hP2 := Lib.hid (hn (by simp [c2]))
          have d2 : (x2 == kind) = false := by simpa using c2
          subst c0
          replace c2 := Lib.hid c2
          clear hy hn
          go_wp2
          go_roundw
          case rel => exact ⟨k + 1, by omega, by go_num, hP2, by simp⟩
          case measure => simp [intOf]; omega
      · have hP2 := Lib.hid (hn (by simp [c0]))
        have d0 : (x0 == slot) = false := by simpa using c0
        replace c0 := Lib.hid c0
        clear hy hn
        go_wp2
        go_roundw
        case rel => exact ⟨k + 1, by omega, by go_num, hP2, by simp⟩
        case measure => simp [intOf]; omega
    · obtain rfl : k = n := by omega
      have hR := Lib.hid (hno.out HP.out)
      go_wp2
      go_ret
      exact ⟨by rw [hR.out]; rfl, rfl⟩
theorem half (n : Int) (k : Nat) (h0 : 0 ≤ n) : (n / 2 ^ k).tdiv 2 = n / 2 ^ (k + 1) := by
  have hp : (0:Int) < 2 ^ k := Int.pow_pos (by decide)
  rw [Int.tdiv_eq_ediv_of_nonneg (Int.ediv_nonneg h0 (by omega)), Int.ediv_ediv_of_nonneg (by omega), Int.pow_succ]
theorem half_bd (n : Int) (k : Nat) (h0 : 0 ≤ n) (h1 : n < 65536) : 0 ≤ n / 2 ^ k ∧ n / 2 ^ k < 65536 := by
  have hp : (0:Int) < 2 ^ k := Int.pow_pos (by decide)
  refine ⟨Int.ediv_nonneg h0 (by omega), ?_⟩
  have := Int.ediv_le_self (2 ^ k) h0
  omega
set_option maxRecDepth 100000 in
set_option maxHeartbeats 1000000 in
theorem bit_any (n : Int) (b : Nat) (w : World) (h0 : 0 ≤ n) (h1 : n < 65536) (hb : b < 16) : Calls Tryz.prog 141 #[.int .i64 n, .int .i64 b] w fun e w' => e = .returned (.bool (bitN n b)) ∧ w = w' := by
  have hR : bitN n b = decide (n / 2 ^ b % 2 = 1) := by unfold bitN; simp
  generalize bitN n b = R at *
  have e0 : n / 2 ^ 0 = n := by simp
  have hh := fun k => half n k h0
  have hbd := fun k => half_bd n k h0 h1
  generalize hq : (fun k : Nat => n / 2 ^ k) = q at *
  have hq2 : ∀ k, n / 2 ^ k = q k := fun k => by rw [← hq]
  rw [hq2] at e0 hR
  simp only [hq2] at hh hbd
  clear hq hq2
  replace hR := Lib.hid hR
  replace hh := Lib.hid hh
  replace hbd := Lib.hid hbd
  go_enter Tryz.func141, Tryz.ntmps141
  go_wp2_with fail
  go_loopw [0, 5] (fun x i wr => ∃ k : Nat, k ≤ b ∧ x = .int .i64 (q k) ∧ i = .int .i64 k ∧ wr = w) (fun _ i _ => b - (intOf i).toNat)
  case atStart => exact ⟨0, by omega, by rw [e0], rfl, rfl⟩
  case round =>
    obtain ⟨k, hk, rfl, rfl, rfl⟩ := hrel
    by_cases hlt : k < b
    · have r1 : (k : Int) < (b : Int) := by omega
      have r2 := hh.out k
      have r3 := hbd.out (k + 1)
      have r4 : IntKind.i64.wrap (q (k + 1)) = q (k + 1) := IntWalk.i64_in _ (by omega)
      obtain ⟨q1, hq1⟩ : ∃ q1, q1 = q (k + 1) := ⟨_, rfl⟩
      rw [← hq1] at r2 r3 r4
      replace hq1 := Lib.hid hq1
      go_wp2
      go_roundw
      case rel => exact ⟨k + 1, by omega, by rw [hq1.out], by go_num, by simp⟩
      case measure => simp [intOf]; omega
    · obtain rfl : k = b := by omega
      have r3 := hbd.out k
      generalize q k = q1 at *
      go_wp2
      go_ret
      exact ⟨by rw [hR.out]; first | (simp [*]; done) | (simp [*]; omega) | (simp [*, intB]; done) | (simp [*, intB]; omega) | (simp [*, bne, intB]; done), rfl⟩
def pw (k : Nat) : Int := 2 ^ k
set_option maxRecDepth 100000 in
set_option maxHeartbeats 1000000 in
theorem power_any (w : World) : Calls Tryz.prog 150 #[.int .i64 16] w fun e w' => e = .returned (.int .i64 65536) ∧ w = w' := by
  have hs : ∀ k, pw (k + 1) = 2 * pw k := fun k => by unfold pw; rw [Int.pow_succ]; omega
  have hb : ∀ k, k ≤ 16 → 0 ≤ pw k ∧ pw k ≤ 65536 := fun k hk => by
    unfold pw
    have : k = 0 ∨ k = 1 ∨ k = 2 ∨ k = 3 ∨ k = 4 ∨ k = 5 ∨ k = 6 ∨ k = 7 ∨ k = 8 ∨ k = 9 ∨ k = 10 ∨ k = 11 ∨ k = 12 ∨ k = 13 ∨ k = 14 ∨ k = 15 ∨ k = 16 := by omega
    rcases this with rfl | rfl | rfl | rfl | rfl | rfl | rfl | rfl | rfl | rfl | rfl | rfl | rfl | rfl | rfl | rfl | rfl <;> decide
  have h0 : pw 0 = 1 := rfl
  have hR : pw 16 = 65536 := by decide
  generalize pw = p at *
  replace hs := Lib.hid hs
  replace hb := Lib.hid hb
  replace hR := Lib.hid hR
  go_enter Tryz.func150, Tryz.ntmps150
  go_wp2_with fail
  go_loopw [3, 4] (fun x i wr => ∃ k : Nat, k ≤ 16 ∧ x = .int .i64 (p k) ∧ i = .int .i64 k ∧ wr = w) (fun _ i _ => 16 - (intOf i).toNat)
  case atStart => exact ⟨0, by omega, by rw [h0], rfl, rfl⟩
  case round =>
    obtain ⟨k, hk, rfl, rfl, rfl⟩ := hrel
    by_cases hlt : k < 16
    · have r1 : (k : Int) < (16 : Int) := by omega
      have r2 := hs.out k
      have r3 := hb.out (k + 1) hlt
      rw [r2] at r3
      have r4 : IntKind.i64.wrap (2 * p k) = 2 * p k := IntWalk.i64_in _ (by omega)
      replace r2 := Lib.hid r2
      go_wp2
      go_roundw
      case rel => exact ⟨k + 1, by omega, by rw [r2.out], by go_num, by simp⟩
      case measure => simp [intOf]; omega
    · obtain rfl : k = 16 := by omega
      go_wp2
      go_ret
      exact ⟨by rw [← hR.out]; rfl, rfl⟩
def fewC (n : Nat) : Bool := decide ((n : Int) ≤ 40) || (decide ((512 : Int) < n) && decide ((n : Int) ≤ 516))
theorem fewC_any (n : Nat) (w : World) : Calls Tryz.prog 43 #[.int .i64 n] w fun e w' => e = .returned (.bool (fewC n)) ∧ w = w' := by
  unfold fewC
  go_enter Tryz.func43, Tryz.ntmps43
  go_wp2
  all_goals
    go_ret
    exact ⟨by first | (simp [*]; done) | (simp [*]; omega) | (simp [*, intB]; done) | (simp [*, intB]; omega) | (simp [*, bne, intB]; done), rfl⟩
def fewT (t : Tab) : Bool := fewC t.cells.length && (decide (t.length ≤ 64) || decide (512 < t.length))
theorem fewT_any (t : Tab) (v : TabV) (w : World) (h : TabIs w v t) : Calls Tryz.prog 13 #[.agg #[.int .i64 t.node, .int .i64 t.length, .slice v.A v.n v.c]] w fun e w' => e = .returned (.bool (fewT t)) ∧ Below w.heap.size w w' := by
  have HM := Lib.hid (Mem.start w)
  unfold fewT
  rw [h.cells.len]
  have cF := fun W => fewC_any v.n W
  generalize fewC v.n = R at *
  obtain ⟨t0, t1, t2⟩ := t
  dsimp only at *
  replace h := Lib.hid h
  replace cF := Lib.hid cF
  go_enter Tryz.func13, Tryz.ntmps13
  go_upto_region 1 with (refine wpList_boxA HM rfl _ _ rfl _ rfl ?_; clear HM; intro g w1 HM hG; clear hG)
  have kt := HM.out.cell 0 rfl
  go_wp2_with (first | (go_at_call 43; refine (cF.out _).mono ?_; rintro e w_ ⟨rfl, rfl⟩) | fail)
  all_goals
    go_ret
    exact ⟨by first | (simp [*]; done) | (simp [*]; omega) | (simp [*, intB]; done) | (simp [*, intB]; omega) | (simp [*, bne, intB]; done), HM.out.below⟩
theorem sameTab_split (a b : Tab) : decide (a = b) = (a.node == b.node && (a.length == b.length && decide (a.cells = b.cells))) := by
  obtain ⟨a0, a1, a2⟩ := a
  obtain ⟨b0, b1, b2⟩ := b
  rw [Bool.eq_iff_iff]; simp
set_option maxRecDepth 100000 in
set_option maxHeartbeats 2000000 in
theorem sameTab_any (a b : Tab) (va vb : TabV) (w : World) (h1 : TabIs w va a) (h2 : TabIs w vb b) : Calls Tryz.prog 41 #[.agg #[.int .i64 a.node, .int .i64 a.length, .slice va.A va.n va.c], .agg #[.int .i64 b.node, .int .i64 b.length, .slice vb.A vb.n vb.c]] w fun e w' => e = .returned (.bool (decide (a = b))) ∧ Below w.heap.size w w' := by
  have HM := Lib.hid (Mem.start w)
  have hR := sameTab_split a b
  have cS := fun W (hb : Below w.heap.size w W) => sameT_any va.A vb.A va.n va.c vb.n vb.c a.cells b.cells W (h1.cells.keep hb) (h2.cells.keep hb)
  generalize decide (a = b) = R at *
  generalize decide (a.cells = b.cells) = D1 at *
  obtain ⟨a0, a1, a2⟩ := a
  obtain ⟨b0, b1, b2⟩ := b
  dsimp only at *
  replace cS := Lib.hid cS
  replace h1 := Lib.hid h1
  replace h2 := Lib.hid h2
  replace hR := Lib.hid hR
  go_enter Tryz.func41, Tryz.ntmps41
  go_upto_region 1 with (refine wpList_boxA HM rfl _ _ rfl _ rfl ?_; clear HM; intro g w1 HM hG; clear hG)
  have kb := HM.out.cell 0 rfl
  have ka := HM.out.cell 1 rfl
  go_wp2_with (first
    | (go_at_call 65; refine (cS.out _ HM.out.below).mono ?_; rintro e w3 ⟨rfl, hb_⟩; have HM2 := Lib.hid (HM.out.keep hb_); clear HM hb_ ka kb cS; have HM := HM2; clear HM2; have ka := HM.out.cell 1 rfl; have kb := HM.out.cell 0 rfl)
    | fail)
  all_goals
    go_ret
    exact ⟨by rw [hR.out]; first | (simp [*]; done) | (simp [*]; omega) | (simp [*, intB]; done) | (simp [*, intB]; omega) | (simp [*, bne, intB]; done), HM.out.below⟩
end Tx
end Go.Proofs.YtkfipbelhlcddaaGreat
