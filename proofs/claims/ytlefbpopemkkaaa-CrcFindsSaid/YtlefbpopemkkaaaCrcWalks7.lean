/- The examples of the chapter hold. -/
import Derived.Test.YtlefbpopemkkaaaCrcWalks6
namespace Go.Proofs.Ytlefbpopemkkaaa
open Go Go.RowKit Go.Sort
namespace Crc
theorem zlit' (a : W) (n : Nat) (h : a = BitVec.ofNat 16 n) (hn : n < 65536) : z a = n := by rw [h, z_lit n hn]
theorem ex_loc (r : Option Nat) (h : LocIs 1 24 r) : r = some 0 := by
  cases r with
  | none => exact absurd rfl (h 0 (by omega) (by omega))
  | some i =>
    obtain ⟨_, h2, h3⟩ := h
    rw [pw_inj i 0 h2 (by omega) h3]
theorem mul_ex (w : World) : Calls Try.prog 12 #[.int .u16 32768, .int .u16 2] w fun e w' => e = .returned (.int .u16 4129) ∧ w = w' := by
  have h := mul_any 0x8000#16 2#16 w
  rw [zlit' (mul 0x8000#16 2#16) 4129 (by decide +kernel) (by omega), zlit' 0x8000#16 32768 rfl (by omega), zlit' 2#16 2 rfl (by omega)] at h
  exact h
theorem loc_ex (w : World) : Calls Try.prog 17 #[.int .u16 1, .int .i64 24] w fun e w' => e = .returned (.tuple #[.int .i64 0, .bool true]) ∧ w = w' := by
  have h := locate_any 1#16 24 w
  rw [zlit' 1#16 1 rfl (by omega)] at h
  refine h.mono ?_
  rintro e w' ⟨r, hr, rfl, rfl⟩
  rw [ex_loc r hr]
  exact ⟨rfl, rfl⟩
theorem pow_ex (w : World) : Calls Try.prog 14 #[.int .i64 16] w fun e w' => e = .returned (.int .u16 4129) ∧ w = w' := by
  have h := power_any 16 w (by omega)
  rw [zlit' (pwI 16) 4129 (by decide +kernel) (by omega)] at h
  exact h
theorem sum_ex (w : World) : Calls Try.prog 16 #[.string ⟨#[49, 50, 51, 52, 53, 54, 55, 56, 57]⟩] w fun e w' => e = .returned (.int .u16 12739) ∧ Below w.heap.size w w' := by
  have h := sum_any ⟨#[49, 50, 51, 52, 53, 54, 55, 56, 57]⟩ w (by decide)
  rw [zlit' (sumB ⟨#[49, 50, 51, 52, 53, 54, 55, 56, 57]⟩) 12739 (by decide +kernel) (by omega)] at h
  exact h
theorem syn_ex (w : World) : Calls Try.prog 25 #[.string ⟨#[0, 0, 1]⟩] w fun e w' => e = .returned (.tuple #[.int .u16 1, .int .i64 0]) ∧ Below w.heap.size w w' := by
  have h := syndrome_ok ⟨#[0, 0, 1]⟩ w (by decide) (by decide)
  rw [zlit' (VB ⟨#[0, 0, 1]⟩) 1 (by decide +kernel) (by omega)] at h
  exact h
theorem prot_ex (w : World) : Calls Try.prog 23 #[.string ⟨#[65]⟩] w fun e w' => e = .returned (.string ⟨#[65, 88, 229]⟩) ∧ Below w.heap.size w w' := by
  have h := protect_any ⟨#[65]⟩ w (by decide)
  have e : prot ⟨#[65]⟩ = ⟨#[65, 88, 229]⟩ := by
    unfold prot tail2
    rw [zlit' (sumB ⟨#[65]⟩) 22757 (by decide +kernel) (by omega)]
    rfl
  rw [e] at h
  exact h
set_option maxHeartbeats 1000000 in
theorem awake_any (w : World) : Calls Try.prog 11 #[] w fun e w' => e = .returned (.bool true) ∧ Below w.heap.size w w' := by
  go_enter Try.func11, Try.ntmps11
  go_wp2_with fail
  refine (syn_ex _).mono ?_
  rintro e w1 ⟨rfl, hb1⟩
  go_wp2_with fail
  refine (loc_ex _).mono ?_
  rintro e w2 ⟨rfl, rfl⟩
  go_wp2_with fail
  refine (sum_ex _).mono ?_
  rintro e w2 ⟨rfl, hb2⟩
  go_wp2_with fail
  refine (pow_ex _).mono ?_
  rintro e w3 ⟨rfl, rfl⟩
  go_wp2_with fail
  refine (mul_ex _).mono ?_
  rintro e w3 ⟨rfl, rfl⟩
  go_wp2_with fail
  refine (prot_ex _).mono ?_
  rintro e w3 ⟨rfl, hb3⟩
  go_wp2
  go_ret
  exact ⟨rfl, (hb1.trans (hb2.mono hb1.size)).trans (hb3.mono (Nat.le_trans hb1.size hb2.size))⟩
end Crc
end Go.Proofs.Ytlefbpopemkkaaa
