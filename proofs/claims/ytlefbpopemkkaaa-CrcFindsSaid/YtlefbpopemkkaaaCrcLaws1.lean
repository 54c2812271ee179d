/- The laws' walks: CrcPolynomials, CrcField, CrcLocates, CrcSums, CrcJoins. -/
import Derived.Test.YtlefbpopemkkaaaCrcWalks7
namespace Go.Proofs.Ytlefbpopemkkaaa
open Go Go.RowKit Go.Sort
open Crc
namespace Crc
theorem z_of (a : Int) (h : (Lit.int .u16 a).wf = true) : ∃ x : W, a = z x := by
  have h2 : 0 ≤ a ∧ a < 65536 := by
    simp only [Lit.wf, Bool.and_eq_true, decide_eq_true_eq] at h
    have hmin : IntKind.u16.min = 0 := rfl
    have hmax : IntKind.u16.max = 65535 := rfl
    omega
  refine ⟨BitVec.ofNat 16 a.toNat, ?_⟩
  rw [z_lit _ (by omega)]; omega
theorem i64_of (a : Int) (h : (Lit.int .i64 a).wf = true) : -9223372036854775808 ≤ a ∧ a ≤ 9223372036854775807 := by
  simp only [Lit.wf, Bool.and_eq_true, decide_eq_true_eq] at h
  have hmin : IntKind.i64.min = -9223372036854775808 := rfl
  have hmax : IntKind.i64.max = 9223372036854775807 := rfl
  omega
theorem bthen {w w1 w2 : World} (h : Below w.heap.size w w1) (k : Below w1.heap.size w1 w2) : Below w.heap.size w w2 := h.trans (k.mono h.size)
end Crc
set_option maxHeartbeats 1000000 in
theorem crcPolynomials_walk (a b n : Int) (ha : (Lit.int .u16 a).wf = true) (hb : (Lit.int .u16 b).wf = true) (hn : (Lit.int .i64 n).wf = true) (w : World) :
    Calls Try.prog 3 #[.int .u16 a, .int .u16 b, .int .i64 n] w fun e w' => e = .returned (.bool true) ∧ Below w.heap.size w w' := by
  obtain ⟨x, rfl⟩ := z_of a ha
  obtain ⟨y, rfl⟩ := z_of b hb
  have hn := (i64_of n hn).2
  clear ha hb
  go_enter Try.func3, Try.ntmps3
  go_wp2_with fail
  refine (awake_any _).mono ?_
  rintro e w1 ⟨rfl, hb1⟩
  go_wp2_with fail
  refine (mul_any _ _ _).mono ?_
  rintro e w2 ⟨rfl, rfl⟩
  go_wp2_with fail
  refine (rmul_any _ _ _).mono ?_
  rintro e w2 ⟨rfl, rfl⟩
  go_wp2_with fail
  refine (power_any _ _ hn).mono ?_
  rintro e w2 ⟨rfl, rfl⟩
  go_wp2_with fail
  refine (rpower_any _ _ hn).mono ?_
  rintro e w2 ⟨rfl, rfl⟩
  go_wp2
  go_ret
  exact ⟨rfl, hb1⟩
set_option maxHeartbeats 1000000 in
theorem crcJoins_walk (a b : ByteArray) (ha : a.size ≤ maxLen) (hb : b.size ≤ maxLen) (w : World) :
    Calls Try.prog 8 #[.string a, .string b] w fun e w' => e = .returned (.bool true) ∧ Below w.heap.size w w' := by
  unfold maxLen at ha hb
  by_cases h : a.size ≤ 300 ∧ b.size ≤ 300
  · obtain ⟨h1, h2⟩ := h
    have ha' : a.size ≤ maxLen := by unfold maxLen; omega
    have hb' : b.size ≤ maxLen := by unfold maxLen; omega
    have hab : (a ++ b).size ≤ maxLen := by rw [ByteArray.size_append]; unfold maxLen; omega
    have e1 : upd (sumB a) b.data.toList = sumB (a ++ b) := by
      unfold sumB; rw [ByteArray.data_append, Array.toList_append, upd_app]
    have e2 : comb (sumB a) (sumB b) (b.size : Int) = sumB (a ++ b) := by
      rw [← e1, upd_zero]; unfold comb sumB
      rw [if_neg (by omega), Tn_eq]; rfl
    have HA := Lib.hid ha'
    have HB := Lib.hid hb'
    have HAB := Lib.hid hab
    clear ha' hb' hab
    have H0 : ∀ w, Calls Try.prog 19 #[.int .u16 0, .string a] w fun e w' => e = .returned (.int .u16 (z (sumB a))) ∧ Below w.heap.size w w' := by
      intro w
      have := update_any 0 a w HA.out
      rwa [zz] at this
    have H0 := Lib.hid H0
    have E1 := Lib.hid e1
    have E2 := Lib.hid e2
    clear e1 e2
    go_enter Try.func8, Try.ntmps8
    go_wp2_with fail
    refine (awake_any _).mono ?_
    rintro e w1 ⟨rfl, hb1⟩
    go_wp2_with fail
    refine (sum_any _ _ HAB.out).mono ?_
    rintro e w2 ⟨rfl, hb2⟩
    go_wp2_with fail
    refine (sum_any _ _ HA.out).mono ?_
    rintro e w3 ⟨rfl, hb3⟩
    go_wp2_with fail
    refine (update_any _ _ _ HB.out).mono ?_
    rintro e w4 ⟨rfl, hb4⟩
    rw [E1.out]
    go_wp2_with fail
    refine (sum_any _ _ HA.out).mono ?_
    rintro e w5 ⟨rfl, hb5⟩
    go_wp2_with fail
    refine (sum_any _ _ HB.out).mono ?_
    rintro e w6 ⟨rfl, hb6⟩
    go_wp2_with fail
    refine (combine_any _ _ _ _ (by omega)).mono ?_
    rintro e w7 ⟨rfl, rfl⟩
    rw [E2.out]
    go_wp2_with fail
    refine (H0.out _).mono ?_
    rintro e w7 ⟨rfl, hb7⟩
    go_wp2_with fail
    refine (sum_any _ _ HA.out).mono ?_
    rintro e w8 ⟨rfl, hb8⟩
    go_wp2
    go_ret
    exact ⟨rfl, bthen (bthen (bthen (bthen (bthen (bthen (bthen hb1 hb2) hb3) hb4) hb5) hb6) hb7) hb8⟩
  · by_cases h1 : a.size ≤ 300
    · have h2 : ¬ b.size ≤ 300 := fun h2 => h ⟨h1, h2⟩
      clear h
      go_enter Try.func8, Try.ntmps8
      go_wp2_with fail
      refine (awake_any _).mono ?_
      rintro e w1 ⟨rfl, hb1⟩
      go_wp2
      go_ret
      exact ⟨rfl, hb1⟩
    · clear h
      go_enter Try.func8, Try.ntmps8
      go_wp2_with fail
      refine (awake_any _).mono ?_
      rintro e w1 ⟨rfl, hb1⟩
      go_wp2
      go_ret
      exact ⟨rfl, hb1⟩
end Go.Proofs.Ytlefbpopemkkaaa
