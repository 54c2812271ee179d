/- The laws' walks: CrcField, CrcLocates. -/
import Derived.Test.YtlefbpopemkkaaaCrcLaws2
namespace Go.Proofs.Ytlefbpopemkkaaa
open Go Go.RowKit Go.Sort
open Crc
namespace Crc
theorem mul_any_q (a b : W) (w : World) (d : Nat) (os : Array Obj) : Calls Try.prog 12 #[.int .u16 (z a), .int .u16 (z b)] (grow (redrawn w d) os) fun e w'' => e = .returned (.int .u16 (z (mul a b))) ∧ ∃ p : Regrown, w'' = grow (redrawn w p.d) p.os :=
  Calls.regrown_of ((mul_any _ _ _).mono (by rintro e w' ⟨rfl, rfl⟩; exact ⟨rfl, Below.refl _ _⟩))
end Crc
set_option maxRecDepth 100000 in
set_option maxHeartbeats 2000000 in
theorem crcField_walk (a b c m n : Int) (ha : (Lit.int .u16 a).wf = true) (hb : (Lit.int .u16 b).wf = true) (hc : (Lit.int .u16 c).wf = true) (hm : (Lit.int .i64 m).wf = true) (hn : (Lit.int .i64 n).wf = true) (w : World) :
    Calls Try.prog 4 #[.agg #[.int .u16 a, .int .u16 b, .int .u16 c], .int .i64 m, .int .i64 n] w fun e w' => e = .returned (.bool true) ∧ Below w.heap.size w w' := by
  obtain ⟨x, rfl⟩ := z_of a ha
  obtain ⟨y, rfl⟩ := z_of b hb
  obtain ⟨v, rfl⟩ := z_of c hc
  have Hm := Lib.hid (i64_of m hm)
  have Hn := Lib.hid (i64_of n hn)
  clear ha hb hc hm hn
  have E1 := Lib.hid (Crc.mul_comm y x)
  have E2 := Lib.hid (Crc.mul_assoc x y v)
  have E3 := Lib.hid (z_xor y v)
  have E4 := Lib.hid (z_xor (mul x y) (mul x v))
  have E5 := Lib.hid (Crc.mul_right x y v)
  have M1 : ∀ w, Calls Try.prog 12 #[.int .u16 (z x), .int .u16 1] w fun e w' => e = .returned (.int .u16 (z x)) ∧ w = w' := by
    intro w
    have := mul_any x 1 w
    rwa [mul_one, zlit' 1 1 rfl (by omega)] at this
  have M1 := Lib.hid M1
  have key : ∀ (Q : Prop), ((0 ≤ m ∧ 0 ≤ n ∧ m ≤ 1000000000 ∧ n ≤ 1000000000) → Q) → (m < 0 → Q) → (0 ≤ m → n < 0 → Q) → (0 ≤ m → 0 ≤ n → 1000000000 < m → Q) → (0 ≤ m → 0 ≤ n → m ≤ 1000000000 → 1000000000 < n → Q) → Q := by
    intro Q h1 h2 h3 h4 h5
    by_cases c1 : m < 0
    · exact h2 c1
    by_cases c2 : n < 0
    · exact h3 (by omega) c2
    by_cases c3 : 1000000000 < m
    · exact h4 (by omega) (by omega) c3
    by_cases c4 : 1000000000 < n
    · exact h5 (by omega) (by omega) (by omega) c4
    exact h1 ⟨by omega, by omega, by omega, by omega⟩
  go_enter Try.func4, Try.ntmps4
  go_wp2_with fail
  refine (awake_any _).mono ?_
  rintro e w1 ⟨rfl, hb1⟩
  have e0 : w1.cell? ⟨w.heap.size, 0, none⟩ = some (.int .u16 (z x)) := by rw [hb1.cell (by simp)]; simp
  have e1 : w1.cell? ⟨w.heap.size, 1, none⟩ = some (.int .u16 (z y)) := by rw [hb1.cell (by simp)]; simp
  have e2 : w1.cell? ⟨w.heap.size, 2, none⟩ = some (.int .u16 (z v)) := by rw [hb1.cell (by simp)]; simp
  have hbw : Below w.heap.size w w1 := ((Below.refl _ _).alloc (Nat.le_refl _) _).trans (hb1.mono (by simp))
  clear hb1
  have HB := Lib.hid hbw
  clear hbw
  go_wp2
  have k0 := cell_regrown e0
  have k1 := cell_regrown e1
  have k2 := cell_regrown e2
  clear e0 e1 e2
  refine wp_region_quiet_below (by kernel_rfl) (by kernel_rfl) ?_
  repeat (go_big_quiet_step (fail))
  refine wpQuiet_nil ?_
  rintro _ ⟨⟨dq, osq⟩, rfl⟩
  clear k0 k1 k2
  have HB2 := Lib.hid (bthen HB.out (below_regrown w1 dq osq))
  clear HB
  generalize grow (redrawn w1 dq) osq = w2 at *
  go_wp2_with fail
  refine (mul_any _ _ _).mono ?_
  rintro e w3 ⟨rfl, rfl⟩
  go_wp2_with fail
  refine (mul_any _ _ _).mono ?_
  rintro e w3 ⟨rfl, rfl⟩
  rw [E1.out]
  go_wp2_with fail
  refine (mul_any _ _ _).mono ?_
  rintro e w3 ⟨rfl, rfl⟩
  go_wp2_with fail
  refine (mul_any _ _ _).mono ?_
  rintro e w3 ⟨rfl, rfl⟩
  go_wp2_with fail
  refine (mul_any _ _ _).mono ?_
  rintro e w3 ⟨rfl, rfl⟩
  rw [E2.out]
  go_wp2_with fail
  rw [E3.out]
  refine (mul_any _ _ _).mono ?_
  rintro e w3 ⟨rfl, rfl⟩
  rw [E5.out]
  go_wp2_with fail
  refine (mul_any _ _ _).mono ?_
  rintro e w3 ⟨rfl, rfl⟩
  have E4 := E4.out
  go_wp2_with fail
  refine (M1.out _).mono ?_
  rintro e w3 ⟨rfl, rfl⟩
  clear E4
  refine key _ ?_ ?_ ?_ ?_ ?_
  · rintro ⟨g1, g2, g3, g4⟩
    obtain ⟨M, rfl⟩ := Int.eq_ofNat_of_zero_le g1
    obtain ⟨N, rfl⟩ := Int.eq_ofNat_of_zero_le g2
    have P1 := Lib.hid (pw_mul M N)
    have P2 := Lib.hid (pwI_nat M)
    have P3 := Lib.hid (pwI_nat N)
    have P4 : Hid (pwI ((M : Int) + N) = pw (M + N)) := pwI_nat (M + N)
    clear key
    go_wp2_with fail
    refine (power_any _ _ (by omega)).mono ?_
    rintro e w3 ⟨rfl, rfl⟩
    go_wp2_with fail
    refine (power_any _ _ (by omega)).mono ?_
    rintro e w3 ⟨rfl, rfl⟩
    go_wp2_with fail
    refine (mul_any _ _ _).mono ?_
    rintro e w3 ⟨rfl, rfl⟩
    go_wp2_with fail
    refine (power_any _ _ (by omega)).mono ?_
    rintro e w3 ⟨rfl, rfl⟩
    rw [P2.out, P3.out, P1.out, P4.out]
    go_wp2
    go_ret
    exact ⟨rfl, HB2.out⟩
  all_goals
    intros
    clear key
    go_wp2
    go_ret
    exact ⟨rfl, HB2.out⟩
end Go.Proofs.Ytlefbpopemkkaaa
