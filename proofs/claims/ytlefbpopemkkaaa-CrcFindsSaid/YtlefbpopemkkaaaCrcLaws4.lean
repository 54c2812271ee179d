/- The laws' walks: CrcLocates. -/
import Derived.Test.YtlefbpopemkkaaaCrcLaws1
namespace Go.Proofs.Ytlefbpopemkkaaa
open Go Go.RowKit Go.Sort
open Crc
namespace Crc
theorem locate_yes (k : Nat) (hk : k < 32767) (w : World) : Calls Try.prog 17 #[.int .u16 (z (pw k)), .int .i64 ((k : Int) + 1)] w fun e w' => e = .returned (.tuple #[.int .i64 (k : Int), .bool true]) ∧ w = w' := by
  refine (locate_any (pw k) ((k : Int) + 1) w).mono ?_
  rintro e w' ⟨r, hr, rfl, rfl⟩
  have : r = some k := by
    cases r with
    | none => exact absurd rfl (hr k hk (by omega))
    | some i =>
      obtain ⟨_, h2, h3⟩ := hr
      rw [pw_inj i k h2 hk h3]
  subst this
  exact ⟨rfl, rfl⟩
theorem locate_no (k : Nat) (hk : k < 32767) (w : World) : Calls Try.prog 17 #[.int .u16 (z (pw k)), .int .i64 (k : Int)] w fun e w' => e = .returned (.tuple #[.int .i64 0, .bool false]) ∧ w = w' := by
  refine (locate_any (pw k) (k : Int) w).mono ?_
  rintro e w' ⟨r, hr, rfl, rfl⟩
  have : r = none := by
    cases r with
    | none => rfl
    | some i =>
      obtain ⟨h1, h2, h3⟩ := hr
      have := pw_inj i k h2 hk h3
      omega
  subst this
  exact ⟨rfl, rfl⟩
theorem locate_none_pw (s : W) (b : Int) (h : LocIs s b none) (n : Nat) (hn : (n : Int) < b) : pw n ≠ s := by
  intro e
  have hm : n % 32767 < 32767 := Nat.mod_lt _ (by omega)
  have hl : n % 32767 ≤ n := Nat.mod_le _ _
  exact h (n % 32767) hm (by omega) (by rw [pw_mod_order, e])
theorem power_nat (n : Nat) (w : World) (hn : (n : Int) ≤ 9223372036854775807) : Calls Try.prog 14 #[.int .i64 (n : Int)] w fun e w' => e = .returned (.int .u16 (z (pw n))) ∧ w = w' := by
  have := power_any n w hn
  rwa [pwI_nat] at this
end Crc
theorem locV_none : locV none = .tuple #[.int .i64 0, .bool false] := rfl
theorem locV_some (i : Nat) : locV (some i) = .tuple #[.int .i64 (i : Int), .bool true] := rfl
set_option maxRecDepth 100000 in
set_option maxHeartbeats 4000000 in
theorem crcLocates_walk (s b n : Int) (hs : (Lit.int .u16 s).wf = true) (_hb : (Lit.int .i64 b).wf = true) (hn : (Lit.int .u16 n).wf = true) (w : World) :
    Calls Try.prog 6 #[.int .u16 s, .int .i64 b, .int .u16 n] w fun e w' => e = .returned (.bool true) ∧ Below w.heap.size w w' := by
  obtain ⟨x, rfl⟩ := z_of s hs
  obtain ⟨y, hy⟩ := z_of n hn
  obtain ⟨N, hN⟩ : ∃ N : Nat, n = N := ⟨n.toNat, by have := z0 y; omega⟩
  subst hN
  have hN : N < 65536 := by have := z1 y; omega
  clear hs hn hy
  obtain ⟨k, hkN⟩ : ∃ k : Nat, (N : Int) % 32767 = (k : Int) := ⟨N % 32767, by omega⟩
  have hk : k < 32767 := by omega
  have HL1 := Lib.hid (locate_yes k hk)
  have HL2 := Lib.hid (locate_no k hk)
  go_enter Try.func6, Try.ntmps6
  go_wp2_with fail
  refine (awake_any _).mono ?_
  rintro e w1 ⟨rfl, hb1⟩
  go_wp2_with fail
  refine (locate_any _ _ _).mono ?_
  rintro e w2 ⟨r, hr, rfl, rfl⟩
  rcases r with _ | i
  · rw [locV_none]
    have Hr := Lib.hid hr
    clear hr
    by_cases hlt : (N : Int) < b
    · have hne : (z (pw N) == z x) = false := by rw [z_beq, beq_eq_false_iff_ne]; exact locate_none_pw x b Hr.out N hlt
      go_wp2_with fail
      refine (power_nat N _ (by omega)).mono ?_
      rintro e w' ⟨rfl, rfl⟩
      go_wp2_with fail
      refine (power_nat k _ (by omega)).mono ?_
      rintro e w' ⟨rfl, rfl⟩
      go_wp2_with fail
      refine (HL1.out _).mono ?_
      rintro e w' ⟨rfl, rfl⟩
      go_wp2_with fail
      refine (power_nat k _ (by omega)).mono ?_
      rintro e w' ⟨rfl, rfl⟩
      go_wp2_with fail
      refine (HL2.out _).mono ?_
      rintro e w' ⟨rfl, rfl⟩
      go_wp2
      go_ret
      exact ⟨rfl, hb1⟩
    · go_wp2_with fail
      refine (power_nat k _ (by omega)).mono ?_
      rintro e w' ⟨rfl, rfl⟩
      go_wp2_with fail
      refine (HL1.out _).mono ?_
      rintro e w' ⟨rfl, rfl⟩
      go_wp2_with fail
      refine (power_nat k _ (by omega)).mono ?_
      rintro e w' ⟨rfl, rfl⟩
      go_wp2_with fail
      refine (HL2.out _).mono ?_
      rintro e w' ⟨rfl, rfl⟩
      go_wp2
      go_ret
      exact ⟨rfl, hb1⟩
  · rw [locV_some]
    obtain ⟨h1, h2, h3⟩ := hr
    replace h3 : z (pw i) = z x := by rw [h3]
    replace h3 := Lib.hid h3
    have g3 : decide ((i : Int) < 0) = false := by rw [decide_eq_false_iff_not]; omega
    have g4 : decide ((32767 : Int) ≤ i) = false := by rw [decide_eq_false_iff_not]; omega
    have g5 : decide (b ≤ (i : Int)) = false := by rw [decide_eq_false_iff_not]; omega
    replace h2 := Lib.hid h2
    clear h1
    replace hkN := Lib.hid hkN
    go_wp2_with fail
    refine (power_nat i _ (by have := h2.out; omega)).mono ?_
    rintro e w' ⟨rfl, rfl⟩
    rw [h3.out]
    replace hkN := hkN.out
    replace hk := Lib.hid hk
    go_wp2_with fail
    replace hk := hk.out
    clear g3 g4 g5
    refine (power_nat k _ (by omega)).mono ?_
    rintro e w' ⟨rfl, rfl⟩
    go_wp2_with fail
    refine (HL1.out _).mono ?_
    rintro e w' ⟨rfl, rfl⟩
    go_wp2_with fail
    refine (power_nat k _ (by omega)).mono ?_
    rintro e w' ⟨rfl, rfl⟩
    go_wp2_with fail
    refine (HL2.out _).mono ?_
    rintro e w' ⟨rfl, rfl⟩
    go_wp2
    go_ret
    exact ⟨rfl, hb1⟩
end Go.Proofs.Ytlefbpopemkkaaa
