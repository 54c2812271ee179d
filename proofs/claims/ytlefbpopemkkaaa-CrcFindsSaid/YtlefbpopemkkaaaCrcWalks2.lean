/- The walks of package crc and of its reference: each function returns what the plain functions of XCrcMath compute. -/
import Derived.Test.YtlefbpopemkkaaaChecked
import Derived.Test.YtlefbpopemkkaaaCrcMath
import Derived.WalkKit
import Derived.Lib.Hide
namespace Go.Proofs.Ytlefbpopemkkaaa
open Go Go.RowKit
namespace Crc
def z (a : W) : Int := a.toNat
theorem z0 (a : W) : 0 ≤ z a := by unfold z; omega
theorem z1 (a : W) : z a < 65536 := by unfold z; have := a.isLt; omega
theorem z_inj {a b : W} (h : z a = z b) : a = b := by
  unfold z at h; apply BitVec.eq_of_toNat_eq; omega
theorem z_beq (a b : W) : (z a == z b) = (a == b) := by
  rw [Bool.eq_iff_iff, beq_iff_eq, beq_iff_eq]; exact ⟨z_inj, fun h => by rw [h]⟩
theorem z_xor (a b : W) : bits .xor .u16 (z a) (z b) = z (a ^^^ b) := by
  rw [u16_xor _ _ (z0 a) (z1 a) (z0 b) (z1 b)]; unfold z; simp
theorem z_and (a b : W) : bits .and .u16 (z a) (z b) = z (a &&& b) := by
  rw [u16_and _ _ (z0 a) (z1 a) (z0 b) (z1 b)]; unfold z; simp
theorem z_or (a b : W) : bits .or .u16 (z a) (z b) = z (a ||| b) := by
  rw [u16_or _ _ (z0 a) (z1 a) (z0 b) (z1 b)]; unfold z; simp
theorem z_lit (n : Nat) (h : n < 65536) : z (BitVec.ofNat 16 n) = n := by
  unfold z; simp [BitVec.toNat_ofNat]; omega
theorem wrap16 (n : Int) : IntKind.u16.wrap n = n % 65536 := by simp [IntKind.wrap, IntKind.bits, IntKind.signed]
theorem z_shl (a : W) (n : Nat) : IntKind.u16.wrap (z a * 2 ^ n) = z (a <<< n) := by
  rw [wrap16]; unfold z
  rw [BitVec.toNat_shiftLeft, Nat.shiftLeft_eq]
  simp
theorem z_shr (a : W) (n : Nat) : z a / 2 ^ n = z (a >>> n) := by
  unfold z
  rw [BitVec.toNat_ushiftRight, Nat.shiftRight_eq_div_pow]
  simp
theorem z_mul2 (a : W) : IntKind.u16.wrap (z a * 2) = z (a <<< 1) := by
  have h := z_shl a 1
  rwa [show (2 : Int) ^ 1 = 2 from rfl] at h
theorem z_mul16 (a : W) : IntKind.u16.wrap (z a * 16) = z (a <<< 4) := by
  have h := z_shl a 4
  rwa [show (2 : Int) ^ 4 = 16 from rfl] at h
theorem z_mul256 (a : W) : IntKind.u16.wrap (z a * 256) = z (a <<< 8) := by
  have h := z_shl a 8
  rwa [show (2 : Int) ^ 8 = 256 from rfl] at h
theorem z_mul4096 (a : W) : IntKind.u16.wrap (z a * 4096) = z (a <<< 12) := by
  have h := z_shl a 12
  rwa [show (2 : Int) ^ 12 = 4096 from rfl] at h
theorem z_div256 (a : W) : z a / (256 : Int) = z (a >>> 8) := by
  have h := z_shr a 8
  rwa [show (2 : Int) ^ 8 = 256 from rfl] at h
theorem z_div4096 (a : W) : z a / (4096 : Int) = z (a >>> 12) := by
  have h := z_shr a 12
  rwa [show (2 : Int) ^ 12 = 4096 from rfl] at h
theorem z_top (a : W) : (bits .and .u16 (z a) 32768 != 0) = a.msb := by
  have h : bits .and .u16 (z a) 32768 = z (a &&& 0x8000#16) := by
    have := z_and a 0x8000#16
    rwa [show z 0x8000#16 = 32768 from rfl] at this
  rw [h]
  have h2 : z (a &&& 0x8000#16) = if a.msb then 32768 else 0 := by
    have : a &&& 0x8000#16 = if a.msb then 0x8000#16 else 0 := by
      apply BitVec.eq_of_getLsbD_eq
      intro i hi
      have e : (0x8000#16).getLsbD i = decide (i = 15) := by
        have : ∀ i : Fin 16, (0x8000#16).getLsbD i = decide (i.val = 15) := by decide
        exact this ⟨i, hi⟩
      rw [BitVec.getLsbD_and, e, BitVec.msb_eq_getLsbD_last]
      by_cases h : i = 15
      · subst h; cases a.getLsbD (16 - 1) <;> simp_all
      · cases a.getLsbD (16 - 1) <;> simp_all
    rw [this]; cases a.msb <;> rfl
  rw [h2]; cases a.msb <;> rfl
theorem z_ge (a : W) : (32768 ≤ z a) ↔ a.msb = true := by
  unfold z; rw [BitVec.msb_eq_decide]; simp; omega
theorem z_bit (b : W) (n : Nat) : (bits .and .u16 (z b / 2 ^ n) 1 == 1) = b.getLsbD n := by
  rw [z_shr]
  have h : bits .and .u16 (z (b >>> n)) 1 = z ((b >>> n) &&& 1#16) := by
    have := z_and (b >>> n) 1#16
    rwa [show z 1#16 = 1 from rfl] at this
  rw [h]
  have h2 : (b >>> n) &&& 1#16 = if b.getLsbD n then 1#16 else 0 := by
    apply BitVec.eq_of_getLsbD_eq
    intro i hi
    rw [BitVec.getLsbD_and, BitVec.getLsbD_ushiftRight, BitVec.getLsbD_one]
    by_cases h : i = 0
    · subst h; simp; cases b.getLsbD n <;> simp
    · cases b.getLsbD n <;> simp [h]
  rw [h2]; cases b.getLsbD n <;> rfl
attribute [irreducible] z
theorem ret16 {a b : Int} (h : a = b) : Ending.returned (.int .u16 a) = .returned (.int .u16 b) := by rw [h]

set_option maxHeartbeats 400000 in
theorem times_any (a : W) (w : World) :
    Calls Try.prog 27 #[.int .u16 (z a)] w fun e w' => e = .returned (.int .u16 (z (T a))) ∧ w = w' := by
  have H := Lib.hid (z_top a)
  have H2 := Lib.hid (z_mul2 a)
  have H3 := Lib.hid (z_xor (a <<< 1) 0x1021#16)
  have e : z 0x1021#16 = 4129 := z_lit 4129 (by omega)
  rw [e] at H3; clear e
  go_enter Try.func27, Try.ntmps27
  go_wp2
  · go_ret
    have h : (bits .and .u16 (z a) 32768 != 0) = true := by assumption
    rw [H.out] at h
    refine ⟨ret16 ?_, rfl⟩
    rw [H2.out, H3.out]; unfold T; rw [if_pos h]
  · go_ret
    have h : (bits .and .u16 (z a) 32768 != 0) = false := by assumption
    rw [H.out] at h
    refine ⟨ret16 ?_, rfl⟩
    rw [H2.out]; unfold T; rw [if_neg (by rw [h]; decide)]
set_option maxHeartbeats 400000 in
theorem mul_any (a b : W) (w : World) :
    Calls Try.prog 12 #[.int .u16 (z a), .int .u16 (z b)] w fun e w' => e = .returned (.int .u16 (z (mul a b))) ∧ w = w' := by
  go_enter Try.func12, Try.ntmps12
  go_wp2
  go_loop [5, 7] (fun out i => ∃ k : Nat, k ≤ 16 ∧ i = .int .i64 k ∧ out = .int .u16 (z (hor a b k))) (fun _ i => 16 - (intOf i).toNat)
  case atStart => exact ⟨0, by omega, rfl, by rw [show hor a b 0 = 0 from rfl, show z 0 = 0 from z_lit 0 (by omega)]⟩
  case round =>
    obtain ⟨k, hk, rfl, rfl⟩ := hrel
    by_cases hlt : k < 16
    · have H := Lib.hid (z_bit b (15 - k))
      have H2 := Lib.hid (z_xor (T (hor a b k)) a)
      go_wp2_with (go_at_call 27; refine (times_any _ _).mono ?_; rintro e w' ⟨rfl, rfl⟩)
      all_goals go_round
      case rel =>
        have h : (bits .and .u16 (z b / 2 ^ (15 - k)) 1 == 1) = true := by assumption
        rw [H.out] at h
        refine ⟨k + 1, by omega, by go_num, ?_⟩
        rw [H2.out]; simp only [hor]; rw [if_pos h]
      case measure => simp [intOf]; omega
      case rel =>
        have h : (bits .and .u16 (z b / 2 ^ (15 - k)) 1 == 1) = false := by assumption
        rw [H.out] at h
        refine ⟨k + 1, by omega, by go_num, ?_⟩
        simp only [hor]; rw [if_neg (by rw [h]; decide)]
      case measure => simp [intOf]; omega
    · have e : k = 16 := by omega
      subst e
      go_wp2
      go_ret
      exact ⟨ret16 rfl, rfl⟩
/-- Power: 0 where the exponent is negative -/
def pwI (n : Int) : W := if n < 0 then 0 else pw n.toNat
theorem pwI_nat (n : Nat) : pwI n = pw n := by unfold pwI; rw [if_neg (by omega)]; rfl
theorem and1 (n : Nat) (h : (n : Int) ≤ 9223372036854775807) : bits .and .i64 (n : Int) 1 = (n : Int) % 2 := by
  show IntKind.i64.wrap (BitVec.ofInt 64 n &&& BitVec.ofInt 64 1).toNat = _
  have e : (BitVec.ofInt 64 (n : Int) &&& BitVec.ofInt 64 1).toNat = n % 2 := by
    rw [BitVec.toNat_and, BitVec.toNat_ofInt, BitVec.toNat_ofInt]
    have e1 : ((n : Int) % ((2 ^ 64 : Nat) : Int)).toNat = n := by omega
    have e2 : ((1 : Int) % ((2 ^ 64 : Nat) : Int)).toNat = 1 := by decide
    rw [e1, e2, Nat.and_one_is_mod]
  rw [e, IntWalk.i64_in _ (by omega)]
  omega
theorem pw_step (i d m N : Nat) (h : i + d * m = N) (hm : m % 2 = 1) : i + d + (d + d) * (m / 2) = N := by
  have e : m = 2 * (m / 2) + 1 := by omega
  have e2 : d * m = d * (2 * (m / 2) + 1) := by rw [← e]
  rw [Nat.mul_add, Nat.mul_one, Nat.mul_left_comm, Nat.two_mul] at e2
  rw [Nat.add_mul]; omega
theorem pw_step0 (i d m N : Nat) (h : i + d * m = N) (hm : m % 2 = 0) : i + (d + d) * (m / 2) = N := by
  have e : m = 2 * (m / 2) := by omega
  have e2 : d * m = d * (2 * (m / 2)) := by rw [← e]
  rw [Nat.mul_left_comm, Nat.two_mul] at e2
  rw [Nat.add_mul]; omega
set_option maxHeartbeats 400000 in
theorem power_any (n : Int) (w : World) (hn : n ≤ 9223372036854775807) :
    Calls Try.prog 14 #[.int .i64 n] w fun e w' => e = .returned (.int .u16 (z (pwI n))) ∧ w = w' := by
  by_cases h0 : n < 0
  · go_enter Try.func14, Try.ntmps14
    go_wp2
    go_ret
    exact ⟨ret16 (by unfold pwI; rw [if_pos h0]; exact (z_lit 0 (by omega)).symm), rfl⟩
  · obtain ⟨N, rfl⟩ := Int.eq_ofNat_of_zero_le (a := n) (by omega)
    go_enter Try.func14, Try.ntmps14
    go_wp2
    go_loop [0, 3, 4] (fun n out s => ∃ m i d : Nat, m ≤ N ∧ n = .int .i64 m ∧ out = .int .u16 (z (pw i)) ∧ s = .int .u16 (z (pw d)) ∧ Hid (i + d * m = N)) (fun n _ _ => (intOf n).toNat)
    case atStart => exact ⟨N, 0, 1, by omega, rfl, by rw [show z (pw 0) = 1 from z_lit 1 (by omega)], by rw [show pw 1 = 2 from by decide, show z 2 = 2 from z_lit 2 (by omega)], by show 0 + 1 * N = N; omega⟩
    case round =>
      obtain ⟨m, i, d, hm, rfl, rfl, rfl, HI⟩ := hrel
      by_cases hlt : 0 < m
      · have H1 := Lib.hid (pw_mul i d)
        have H2 := Lib.hid (pw_mul d d)
        have HA := Lib.hid (and1 m (by omega))
        go_wp2_with ((with_reducible refine (mul_any _ _ _).mono ?_); rintro e w' ⟨rfl, rfl⟩)
        all_goals go_round
        case rel =>
          have h : (bits .and .i64 (m : Int) 1 == 1) = true := by assumption
          rw [HA.out] at h; rw [beq_iff_eq] at h
          exact ⟨m / 2, i + d, d + d, by omega, by go_num, by rw [H1.out], by rw [H2.out], pw_step _ _ _ _ HI.out (by omega)⟩
        case measure => simp [intOf]; omega
        case rel =>
          have h : (bits .and .i64 (m : Int) 1 == 1) = false := by assumption
          rw [HA.out] at h; rw [beq_eq_false_iff_ne] at h
          exact ⟨m / 2, i, d + d, by omega, by go_num, rfl, by rw [H2.out], pw_step0 _ _ _ _ HI.out (by omega)⟩
        case measure => simp [intOf]; omega
      · have e : m = 0 := by omega
        subst e
        have e : i = N := by have := HI.out; omega
        subst e
        have HP := Lib.hid (pwI_nat i)
        go_wp2
        go_ret
        exact ⟨ret16 (by rw [HP.out]), rfl⟩
/-! the reference -/
set_option maxHeartbeats 400000 in
theorem rtimes_any (a : W) (w : World) :
    Calls Try.prog 28 #[.int .u16 (z a)] w fun e w' => e = .returned (.int .u16 (z (T a))) ∧ w = w' := by
  have h0 := z0 a
  have h1 := z1 a
  have H := Lib.hid (z_ge a)
  have H2 := Lib.hid (z_mul2 a)
  have H3 := Lib.hid (z_xor (a <<< 1) 0x1021#16)
  have e : z 0x1021#16 = 4129 := z_lit 4129 (by omega)
  rw [e] at H3; clear e
  go_enter Try.func28, Try.ntmps28
  go_wp2
  · go_ret
    have h : 32768 ≤ z a := by assumption
    have h := H.out.1 h
    refine ⟨ret16 ?_, rfl⟩
    rw [H2.out, H3.out]; unfold T; rw [if_pos h]
  · go_ret
    have hh : ¬ 32768 ≤ z a := by omega
    have h : ¬ a.msb = true := fun h => hh (H.out.2 h)
    refine ⟨ret16 ?_, rfl⟩
    have e : z a * (2 : Int) = z (a <<< 1) := by rw [← H2.out, wrap16]; omega
    rw [e]; unfold T; rw [if_neg h]
set_option maxHeartbeats 400000 in
theorem rmul_any (a b : W) (w : World) :
    Calls Try.prog 13 #[.int .u16 (z a), .int .u16 (z b)] w fun e w' => e = .returned (.int .u16 (z (mul a b))) ∧ w = w' := by
  go_enter Try.func13, Try.ntmps13
  go_wp2
  go_loop [5, 6] (fun out i => ∃ k : Nat, k ≤ 16 ∧ i = .int .i64 (15 - (k : Int)) ∧ out = .int .u16 (z (hor a b k))) (fun _ i => (intOf i + 1).toNat)
  case atStart => exact ⟨0, by omega, rfl, by rw [show hor a b 0 = 0 from rfl, show z 0 = 0 from z_lit 0 (by omega)]⟩
  case round =>
    obtain ⟨k, hk, rfl, rfl⟩ := hrel
    by_cases hlt : k < 16
    · have H := Lib.hid (z_bit b (15 - k))
      have H2 := Lib.hid (z_xor (T (hor a b k)) a)
      go_wp2_with (go_at_call 28; refine (rtimes_any _ _).mono ?_; rintro e w' ⟨rfl, rfl⟩)
      all_goals go_round
      case rel =>
        have h : (bits .and .u16 (z b / 2 ^ (15 - k)) 1 == 1) = true := by assumption
        rw [H.out] at h
        refine ⟨k + 1, by omega, by go_num, ?_⟩
        rw [H2.out]; simp only [hor]; rw [if_pos h]
      case measure => simp [intOf]; omega
      case rel =>
        have h : (bits .and .u16 (z b / 2 ^ (15 - k)) 1 == 1) = false := by assumption
        rw [H.out] at h
        refine ⟨k + 1, by omega, by go_num, ?_⟩
        simp only [hor]; rw [if_neg (by rw [h]; decide)]
      case measure => simp [intOf]; omega
    · have e : k = 16 := by omega
      subst e
      go_wp2
      go_ret
      exact ⟨ret16 rfl, rfl⟩
set_option maxHeartbeats 400000 in
theorem rpower_any (n : Int) (w : World) (hn : n ≤ 9223372036854775807) :
    Calls Try.prog 15 #[.int .i64 n] w fun e w' => e = .returned (.int .u16 (z (pwI n))) ∧ w = w' := by
  by_cases h0 : n < 0
  · go_enter Try.func15, Try.ntmps15
    go_wp2
    go_ret
    exact ⟨ret16 (by unfold pwI; rw [if_pos h0]; exact (z_lit 0 (by omega)).symm), rfl⟩
  · obtain ⟨N, rfl⟩ := Int.eq_ofNat_of_zero_le (a := n) (by omega)
    go_enter Try.func15, Try.ntmps15
    go_wp2
    go_loop [0, 3, 4] (fun n out s => ∃ m i d : Nat, m ≤ N ∧ n = .int .i64 m ∧ out = .int .u16 (z (pw i)) ∧ s = .int .u16 (z (pw d)) ∧ Hid (i + d * m = N)) (fun n _ _ => (intOf n).toNat)
    case atStart => exact ⟨N, 0, 1, by omega, rfl, by rw [show z (pw 0) = 1 from z_lit 1 (by omega)], by rw [show pw 1 = 2 from by decide, show z 2 = 2 from z_lit 2 (by omega)], by show 0 + 1 * N = N; omega⟩
    case round =>
      obtain ⟨m, i, d, hm, rfl, rfl, rfl, HI⟩ := hrel
      by_cases hlt : 0 < m
      · have H1 := Lib.hid (pw_mul i d)
        have H2 := Lib.hid (pw_mul d d)
        go_wp2_with ((with_reducible refine (rmul_any _ _ _).mono ?_); rintro e w' ⟨rfl, rfl⟩)
        all_goals go_round
        case rel =>
          have h : ((m : Int) % 2 == 1) = true := by assumption
          rw [beq_iff_eq] at h
          exact ⟨m / 2, i + d, d + d, by omega, by go_num, by rw [H1.out], by rw [H2.out], pw_step _ _ _ _ HI.out (by omega)⟩
        case measure => simp [intOf]; omega
        case rel =>
          have h : ((m : Int) % 2 == 1) = false := by assumption
          rw [beq_eq_false_iff_ne] at h
          exact ⟨m / 2, i, d + d, by omega, by go_num, rfl, by rw [H2.out], pw_step0 _ _ _ _ HI.out (by omega)⟩
        case measure => simp [intOf]; omega
      · have e : m = 0 := by omega
        subst e
        have e : i = N := by have := HI.out; omega
        subst e
        have HP := Lib.hid (pwI_nat i)
        go_wp2
        go_ret
        exact ⟨ret16 (by rw [HP.out]), rfl⟩
end Crc
end Go.Proofs.Ytlefbpopemkkaaa
