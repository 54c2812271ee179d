/- Sum, Combine, Locate, and the reference's. -/
import Derived.Test.YtlefbpopemkkaaaCrcWalks4
namespace Go.Proofs.Ytlefbpopemkkaaa
open Go Go.RowKit
namespace Crc
theorem by_shl8 (S : W) (c : UInt8) : bits .xor .u16 (z S) ((c.toNat : Int) * (256 : Int)) = z (S ^^^ (by_ c <<< 8)) := by
  have h := c.toNat_lt
  have e : (c.toNat : Int) * (256 : Int) = z (by_ c <<< 8) := by
    rw [← z_mul256, z_by, wrap16]; omega
  rw [e, z_xor]
set_option maxHeartbeats 400000 in
theorem rupdate_any (s : W) (d : ByteArray) (w : World) (hd : d.size ≤ maxLen) :
    Calls Try.prog 20 #[.int .u16 (z s), .string d] w fun e w' => e = .returned (.int .u16 (z (upd s d.data.toList))) ∧ w = w' := by
  unfold maxLen at hd
  go_enter Try.func20, Try.ntmps20
  go_wp2
  go_loop [0, 5] (fun a i => ∃ k : Nat, k ≤ d.size ∧ i = .int .i64 k ∧ a = .int .u16 (z (upd s (d.data.toList.take k)))) (fun _ i => d.size - (intOf i).toNat)
  case atStart => exact ⟨0, by omega, rfl, rfl⟩
  case round =>
    obtain ⟨k, hk, rfl, rfl⟩ := hrel
    by_cases hlt : k < d.size
    · have HU := Lib.hid (upd_take s d k hlt)
      generalize upd s (d.data.toList.take k) = S0 at *
      have y7 := d[k].toNat_lt
      have y8 := by_shl8 S0 d[k]
      generalize hS : S0 ^^^ (by_ d[k] <<< 8) = S1 at *
      have HS := Lib.hid hS
      clear hS
      go_wp2
      clear y7 y8
      go_loop [0, 6] (fun a i => ∃ j : Nat, j ≤ 8 ∧ i = .int .i64 j ∧ a = .int .u16 (z (Tn j S1))) (fun _ i => 8 - (intOf i).toNat)
      case atStart => exact ⟨0, by omega, rfl, rfl⟩
      case round =>
        obtain ⟨j, hj, rfl, rfl⟩ := hrel
        by_cases hlj : j < 8
        · go_wp2_with ((with_reducible refine (rtimes_any _ _).mono ?_); rintro e w' ⟨rfl, rfl⟩)
          go_round
          case rel => exact ⟨j + 1, by omega, by go_num, rfl⟩
          case measure => simp [intOf]; omega
        · have e : j = 8 := by omega
          subst e
          go_wp2
          go_round
          case rel => exact ⟨k + 1, by omega, by go_num, by rw [HU.out]⟩
          case measure => simp [intOf]; omega
    · have e : d.data.toList.take k = d.data.toList := List.take_of_length_le (by simp; omega)
      rw [e]
      go_wp2
      go_ret
      exact ⟨ret16 rfl, rfl⟩
/-- the check sum of a string -/
def sumB (d : ByteArray) : W := upd 0 d.data.toList
theorem zz : z 0 = 0 := z_lit 0 (by omega)
set_option maxHeartbeats 400000 in
theorem sum_any (d : ByteArray) (w : World) (hd : d.size ≤ maxLen) :
    Calls Try.prog 16 #[.string d] w fun e w' => e = .returned (.int .u16 (z (sumB d))) ∧ Below w.heap.size w w' := by
  have h := fun w => update_any 0 d w hd
  rw [zz] at h
  have H := Lib.hid h
  clear h hd
  go_enter Try.func16, Try.ntmps16
  go_wp2_with fail
  refine (H.out _).mono ?_
  rintro e w1 ⟨rfl, hb⟩
  go_wp2
  go_ret
  exact ⟨ret16 rfl, hb⟩
set_option maxHeartbeats 400000 in
theorem rsum_any (d : ByteArray) (w : World) (hd : d.size ≤ maxLen) :
    Calls Try.prog 18 #[.string d] w fun e w' => e = .returned (.int .u16 (z (sumB d))) ∧ w = w' := by
  have h := fun w => rupdate_any 0 d w hd
  rw [zz] at h
  have H := Lib.hid h
  clear h hd
  go_enter Try.func18, Try.ntmps18
  go_wp2_with fail
  refine (H.out _).mono ?_
  rintro e w1 ⟨rfl, rfl⟩
  go_wp2
  go_ret
  exact ⟨ret16 rfl, rfl⟩
/-- Combine -/
def comb (a b : W) (n : Int) : W := mul a (if n < 0 then 0 else pw (8 * n.toNat)) ^^^ b
theorem mul_zero (a : W) : mul a 0 = 0 := by rw [mul_comm]; exact Lin.zero (f := fun x => mul x a) (fun x y => mul_left x y a)
theorem comb_neg (a b : W) (n : Int) (h : n < 0) : comb a b n = b := by
  unfold comb; rw [if_pos h, mul_zero]; exact BitVec.zero_xor
def eighth (p : W) (k : Nat) : W := match k with | 0 => p | k + 1 => mul (eighth p k) (eighth p k)
theorem eighth_eq (n : Int) : eighth (pwI n) 3 = if n < 0 then 0 else pw (8 * n.toNat) := by
  unfold pwI
  split
  · simp only [eighth, mul_zero]
  · simp only [eighth, pw_mul]; congr 1; omega
set_option maxHeartbeats 400000 in
theorem combine_any (a b : W) (n : Int) (w : World) (hn : n ≤ 9223372036854775807) :
    Calls Try.prog 21 #[.int .u16 (z a), .int .u16 (z b), .int .i64 n] w fun e w' => e = .returned (.int .u16 (z (comb a b n))) ∧ w = w' := by
  have HE := Lib.hid (eighth_eq n)
  have HX := Lib.hid (z_xor (mul a (eighth (pwI n) 3)) b)
  go_enter Try.func21, Try.ntmps21
  go_wp2_with fail
  refine (power_any n _ hn).mono ?_
  rintro e w1 ⟨rfl, rfl⟩
  go_wp2
  go_loop [7, 10] (fun p i => ∃ k : Nat, k ≤ 3 ∧ i = .int .i64 k ∧ p = .int .u16 (z (eighth (pwI n) k))) (fun _ i => 3 - (intOf i).toNat)
  case atStart => exact ⟨0, by omega, rfl, rfl⟩
  case round =>
    obtain ⟨k, hk, rfl, rfl⟩ := hrel
    by_cases hlt : k < 3
    · go_wp2_with ((with_reducible refine (mul_any _ _ _).mono ?_); rintro e w' ⟨rfl, rfl⟩)
      go_round
      case rel => exact ⟨k + 1, by omega, by go_num, rfl⟩
      case measure => simp [intOf]; omega
    · have e : k = 3 := by omega
      subst e
      go_wp2_with ((with_reducible refine (mul_any _ _ _).mono ?_); rintro e w' ⟨rfl, rfl⟩)
      go_ret
      exact ⟨ret16 (by rw [HX.out, HE.out]; rfl), rfl⟩
set_option maxHeartbeats 400000 in
theorem rcombine_any (a b : W) (n : Int) (w : World) (hn : n ≤ 9223372036854775807) :
    Calls Try.prog 22 #[.int .u16 (z a), .int .u16 (z b), .int .i64 n] w fun e w' => e = .returned (.int .u16 (z (comb a b n))) ∧ w = w' := by
  by_cases h0 : n < 0
  · have HE := Lib.hid (comb_neg a b n h0)
    go_enter Try.func22, Try.ntmps22
    go_wp2
    go_ret
    exact ⟨ret16 (by rw [HE.out]), rfl⟩
  · have h1 : 0 ≤ n % 32767 := by omega
    have h2 : n % 32767 < 32767 := by omega
    have HP := Lib.hid (pw_eight n.toNat)
    have HX := Lib.hid (z_xor (mul a (pwI (8 * (n % 32767)))) b)
    have HI : Hid (pwI (8 * (n % 32767)) = pw (8 * (n.toNat % 32767))) := by
      show _ = _
      rw [← pwI_nat]; congr 1; omega
    go_enter Try.func22, Try.ntmps22
    go_wp2_with fail
    refine (rpower_any _ _ (by omega)).mono ?_
    rintro e w1 ⟨rfl, rfl⟩
    go_wp2_with fail
    refine (rmul_any _ _ _).mono ?_
    rintro e w1 ⟨rfl, rfl⟩
    go_wp2
    go_ret
    exact ⟨ret16 (by rw [HX.out, HI.out, HP.out]; unfold comb; rw [if_neg (by omega)]), rfl⟩
/-- Locate -/
def LocIs (s : W) (b : Int) : Option Nat → Prop
  | some i => (i : Int) < b ∧ i < 32767 ∧ pw i = s
  | none => ∀ i : Nat, i < 32767 → (i : Int) < b → pw i ≠ s
def locV (r : Option Nat) : Value := .tuple #[.int .i64 ((r.getD 0 : Nat) : Int), .bool r.isSome]
def LocPost (s : W) (b : Int) (w : World) (e : Ending) (w' : World) : Prop := ∃ r, LocIs s b r ∧ e = .returned (locV r) ∧ w = w'
theorem locNone (s : W) (b : Int) (k : Nat) (h : ∀ j, j < k → pw j ≠ s) (hb : b ≤ k) : LocIs s b none := by
  intro i _ hi
  refine h i ?_
  omega
theorem locEnd (s : W) (b : Int) (k : Nat) (h : ∀ j, j < k → pw j ≠ s) (hk : k < 32767) (h0 : (z (pw k) == z s) = false) (h1 : (z (T (pw k)) == 1) = true) : LocIs s b none := by
  rw [show (1 : Int) = z 1 from (z_lit 1 (by omega)).symm, z_beq, beq_iff_eq] at h1
  rw [z_beq, beq_eq_false_iff_ne] at h0
  have e : k + 1 = 32767 := by
    refine Decidable.byContradiction fun hne => ?_
    exact pw_ne_one (k + 1) (by omega) (by omega) h1
  intro i hi _
  by_cases c : i = k
  · rw [c]; exact h0
  · exact h i (by omega)
theorem locNext (s : W) (k : Nat) (h : ∀ j, j < k → pw j ≠ s) (h0 : (z (pw k) == z s) = false) : ∀ j, j < k + 1 → pw j ≠ s := by
  rw [z_beq, beq_eq_false_iff_ne] at h0
  intro j hj
  by_cases c : j = k
  · rw [c]; exact h0
  · exact h j (by omega)
theorem locLt (k : Nat) (hk : k < 32767) (h1 : (z (T (pw k)) == 1) = false) : k + 1 < 32767 := by
  refine Decidable.byContradiction fun hne => ?_
  have e : k + 1 = 32767 := by omega
  rw [show (1 : Int) = z 1 from (z_lit 1 (by omega)).symm, z_beq, beq_eq_false_iff_ne] at h1
  exact h1 (by have := pw_order; rw [← e] at this; exact this)
theorem locYes (s : W) (b : Int) (k : Nat) (hk : k < 32767) (hL : (k : Int) < b) (h0 : (z (pw k) == z s) = true) : LocIs s b (some k) := by
  rw [z_beq, beq_iff_eq] at h0
  exact ⟨by omega, hk, h0⟩
def locMeasure (i : Value) : Nat := 32767 - (intOf i).toNat
theorem locMeas (k : Nat) (hk : k < 32767) : locMeasure (.int .i64 ((k : Int) + 1)) < locMeasure (.int .i64 k) := by
  unfold locMeasure; simp [intOf]; omega
theorem bigB (b : Int) (h : 524288 < b) (k : Nat) (hk : k < 32767) : (k : Int) < b := by omega
set_option maxHeartbeats 1000000 in
theorem locate_any (s : W) (b : Int) (w : World) :
    Calls Try.prog 17 #[.int .u16 (z s), .int .i64 b] w (LocPost s b w) := by
  rcases (by omega : b < 0 ∨ (0 ≤ b ∧ b ≤ 524288) ∨ 524288 < b) with hb | ⟨hb0, hb1⟩ | hb
  · go_enter Try.func17, Try.ntmps17
    go_wp2
    go_loop [6, 11] (fun a i => ∃ k : Nat, k < 32767 ∧ i = .int .i64 k ∧ a = .int .u16 (z (pw k)) ∧ Hid (∀ j, j < k → pw j ≠ s)) (fun _ i => locMeasure i)
    case atStart => exact ⟨0, by omega, rfl, by rw [show z (pw 0) = 1 from z_lit 1 (by omega)], fun j hj => absurd hj (by omega)⟩
    case round =>
      obtain ⟨k, hk, rfl, rfl, HI⟩ := hrel
      have HM := Lib.hid (locMeas k hk)
      go_wp2
      refine bodyPost_ret (v := locV none) (by simp [results, Try.results17, go_sem, locV]) rfl ⟨none, locNone s b k HI.out (by omega), rfl, rfl⟩
  · go_enter Try.func17, Try.ntmps17
    go_wp2
    go_loop [6, 11] (fun a i => ∃ k : Nat, k < 32767 ∧ i = .int .i64 k ∧ a = .int .u16 (z (pw k)) ∧ Hid (∀ j, j < k → pw j ≠ s)) (fun _ i => locMeasure i)
    case atStart => exact ⟨0, by omega, rfl, by rw [show z (pw 0) = 1 from z_lit 1 (by omega)], fun j hj => absurd hj (by omega)⟩
    case round =>
      obtain ⟨k, hk, rfl, rfl, HI⟩ := hrel
      have HM := Lib.hid (locMeas k hk)
      go_wp2_with (go_at_call 27; refine (times_any _ _).mono ?_; rintro e w' ⟨rfl, rfl⟩)
      · refine bodyPost_ret (v := locV (some k)) (by simp [results, Try.results17, go_sem, locV]) rfl ⟨some k, locYes s b k hk (by omega) ‹_›, rfl, rfl⟩
      · refine bodyPost_ret (v := locV none) (by simp [results, Try.results17, go_sem, locV]) rfl ⟨none, locEnd s b k HI.out hk ‹_› ‹_›, rfl, rfl⟩
      · have h0 : (z (pw k) == z s) = false := by assumption
        have h1 : (z (T (pw k)) == 1) = false := by assumption
        go_round
        case rel => exact ⟨k + 1, locLt k hk h1, by go_num, rfl, locNext s k HI.out h0⟩
        case measure => exact HM.out
      · refine bodyPost_ret (v := locV none) (by simp [results, Try.results17, go_sem, locV]) rfl ⟨none, locNone s b k HI.out (by omega), rfl, rfl⟩
  · go_enter Try.func17, Try.ntmps17
    go_wp2
    have HB := Lib.hid (bigB b hb)
    clear hb
    generalize hL : (524288 : Int) = L
    have hL2 : 32767 ≤ L := by omega
    clear hL
    go_loop [6, 11] (fun a i => ∃ k : Nat, k < 32767 ∧ i = .int .i64 k ∧ a = .int .u16 (z (pw k)) ∧ Hid (∀ j, j < k → pw j ≠ s)) (fun _ i => locMeasure i)
    case atStart => exact ⟨0, by omega, rfl, by rw [show z (pw 0) = 1 from z_lit 1 (by omega)], fun j hj => absurd hj (by omega)⟩
    case round =>
      obtain ⟨k, hk, rfl, rfl, HI⟩ := hrel
      have HM := Lib.hid (locMeas k hk)
      go_wp2_with (go_at_call 27; refine (times_any _ _).mono ?_; rintro e w' ⟨rfl, rfl⟩)
      · refine bodyPost_ret (v := locV (some k)) (by simp [results, Try.results17, go_sem, locV]) rfl ⟨some k, locYes s b k hk (HB.out k hk) ‹_›, rfl, rfl⟩
      · refine bodyPost_ret (v := locV none) (by simp [results, Try.results17, go_sem, locV]) rfl ⟨none, locEnd s b k HI.out hk ‹_› ‹_›, rfl, rfl⟩
      · have h0 : (z (pw k) == z s) = false := by assumption
        have h1 : (z (T (pw k)) == 1) = false := by assumption
        go_round
        case rel => exact ⟨k + 1, locLt k hk h1, by go_num, rfl, locNext s k HI.out h0⟩
        case measure => exact HM.out
end Crc
end Go.Proofs.Ytlefbpopemkkaaa
