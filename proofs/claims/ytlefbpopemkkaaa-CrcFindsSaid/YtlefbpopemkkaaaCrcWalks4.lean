/- Update, and what is made of it. -/
import Derived.Test.YtlefbpopemkkaaaCrcWalks3
namespace Go.Proofs.Ytlefbpopemkkaaa
open Go Go.RowKit
namespace Crc
theorem z_by (c : UInt8) : z (by_ c) = c.toNat := by
  have e : (by_ c).toNat = c.toNat := by
    unfold by_; rw [BitVec.toNat_setWidth]
    have := c.toNat_lt
    show c.toNat % _ = _
    omega
  rw [← e]; with_unfolding_all rfl
theorem shr4_nat (c : UInt8) : (c >>> 4).toNat = c.toNat / 16 := by
  rw [UInt8.toNat_shiftRight, Nat.shiftRight_eq_div_pow]; rfl
theorem and15_nat (c : UInt8) : (c &&& 15).toNat = c.toNat % 16 := by
  rw [UInt8.toNat_and]; exact Nat.and_two_pow_sub_one_eq_mod c.toNat 4
theorem ix_hi (S : W) (c : UInt8) : bits .xor .u16 (z S / 4096) ((c.toNat : Int) / 16) = z ((S >>> 12) ^^^ by_ (c >>> 4)) := by
  have h := c.toNat_lt
  rw [show ((c.toNat : Int) / (16 : Int)) = ((c >>> 4).toNat : Int) by rw [shr4_nat]; omega, ← z_by, z_div4096, z_xor]
theorem ix_lo (S : W) (c : UInt8) : bits .xor .u16 (z S / 4096) ((c.toNat : Int) % 16) = z ((S >>> 12) ^^^ by_ (c &&& 15)) := by
  rw [show ((c.toNat : Int) % (16 : Int)) = ((c &&& 15).toNat : Int) by rw [and15_nat]; omega, ← z_by, z_div4096, z_xor]
theorem u8and15 (c : UInt8) : bits .and .u8 (c.toNat : Int) 15 = (c.toNat : Int) % (16 : Int) := by
  have h := c.toNat_lt
  rw [u8_and _ _ (by omega) (by omega) (by omega) (by omega)]
  show ((c.toNat &&& 15 : Nat) : Int) = _
  rw [show c.toNat &&& 15 = c.toNat % 16 from Nat.and_two_pow_sub_one_eq_mod c.toNat 4]; omega
theorem z_nat (a : W) : (z a).toNat = a.toNat := by with_unfolding_all rfl
theorem ix_lt (S : W) (c : UInt8) (h : c.toNat < 16) : ((S >>> 12) ^^^ by_ c).toNat < 16 := by
  rw [BitVec.toNat_xor]
  refine Nat.xor_lt_two_pow (n := 4) ?_ ?_
  · rw [BitVec.toNat_ushiftRight, Nat.shiftRight_eq_div_pow]; have := S.isLt; omega
  · have := z_by c
    have e : (z (by_ c)).toNat = c.toNat := by rw [this]; rfl
    rw [z_nat] at e; omega
theorem tabN_eq (x : W) : tabN x.toNat = tab x := by unfold tabN; rw [BitVec.ofNat_toNat, BitVec.setWidth_eq]
theorem next_eq (S X : W) : bits .xor .u16 (IntKind.u16.wrap (z S * 16)) (z (tab X)) = z ((S <<< 4) ^^^ tab X) := by
  rw [z_mul16, z_xor]
theorem take_snoc (d : ByteArray) (k : Nat) (h : k < d.size) : d.data.toList.take (k + 1) = d.data.toList.take k ++ [d[k]] := by
  rw [List.take_succ_eq_append_getElem (by simpa using h)]; rfl
theorem upd_take (s : W) (d : ByteArray) (k : Nat) (h : k < d.size) :
    upd s (d.data.toList.take (k + 1)) = Tn 8 (upd s (d.data.toList.take k) ^^^ (by_ d[k] <<< 8)) := by
  rw [take_snoc d k h, upd_snoc]
set_option maxHeartbeats 400000 in
theorem update_any (s : W) (d : ByteArray) (w : World) (hd : d.size ≤ maxLen) :
    Calls Try.prog 19 #[.int .u16 (z s), .string d] w fun e w' => e = .returned (.int .u16 (z (upd s d.data.toList))) ∧ Below w.heap.size w w' := by
  unfold maxLen at hd
  go_enter Try.func19, Try.ntmps19
  go_wp2_with fail
  refine (rem_any _).mono ?_
  rintro e w1 ⟨rfl, hb⟩
  rw [tabs_all]
  go_wp2_with fail
  rw [← tabs_all]
  obtain ⟨w2, hw2⟩ : ∃ w2, w2 = w1.alloc (Obj.cells (tabs 16) 54) := ⟨_, rfl⟩
  have hb2 : Below w.heap.size w w2 := by rw [hw2]; exact hb.alloc hb.size _
  have hcell : ∀ i, i < 16 → w2.cell? ⟨w1.heap.size, i, none⟩ = some (.int .u16 (z (tabN i))) := by
    intro i hi
    rw [hw2, World.cell?_alloc_at _ _ _ _ rfl, tabs_get _ _ hi, if_pos hi]
  rw [← hw2]
  clear hw2 hb
  have HC := Lib.hid hcell
  clear hcell
  generalize w1.heap.size = B1 at *
  go_loop [0, 10] (fun a i => ∃ k : Nat, k ≤ d.size ∧ i = .int .i64 k ∧ a = .int .u16 (z (upd s (d.data.toList.take k)))) (fun _ i => d.size - (intOf i).toNat)
  case atStart => exact ⟨0, by omega, rfl, rfl⟩
  case round =>
    obtain ⟨k, hk, rfl, rfl⟩ := hrel
    by_cases hlt : k < d.size
    · have HU := Lib.hid (upd_take s d k hlt)
      have HB := Lib.hid (byte_step (upd s (d.data.toList.take k)) d[k])
      generalize upd s (d.data.toList.take k) = S0 at *
      obtain ⟨X, hX⟩ : ∃ X, X = (S0 >>> 12) ^^^ by_ (d[k] >>> 4) := ⟨_, rfl⟩
      have x1 : 0 ≤ z X := z0 X
      have x2 : z X < 16 := by
        have := ix_lt S0 (d[k] >>> 4) (by rw [shr4_nat]; have := d[k].toNat_lt; omega)
        rw [← hX, ← z_nat] at this; omega
      have x3 : w2.cell? ⟨B1, (z X).toNat, none⟩ = some (.int .u16 (z (tab X))) := by
        rw [HC.out _ (by omega), z_nat, tabN_eq]
      have x4 := ix_hi S0 d[k]
      rw [← hX] at x4 HB
      obtain ⟨S1, hS1⟩ : ∃ S1, S1 = (S0 <<< 4) ^^^ tab X := ⟨_, rfl⟩
      have x5 := next_eq S0 X
      rw [← hS1] at x5 HB
      obtain ⟨Y, hY⟩ : ∃ Y, Y = (S1 >>> 12) ^^^ by_ (d[k] &&& 15) := ⟨_, rfl⟩
      have y1 : 0 ≤ z Y := z0 Y
      have y2 : z Y < 16 := by
        have := ix_lt S1 (d[k] &&& 15) (by rw [and15_nat]; omega)
        rw [← hY, ← z_nat] at this; omega
      have y3 : w2.cell? ⟨B1, (z Y).toNat, none⟩ = some (.int .u16 (z (tab Y))) := by
        rw [HC.out _ (by omega), z_nat, tabN_eq]
      have y4 := ix_lo S1 d[k]
      rw [← hY] at y4 HB
      have y5 := u8and15 d[k]
      obtain ⟨S2, hS2⟩ : ∃ S2, S2 = (S1 <<< 4) ^^^ tab Y := ⟨_, rfl⟩
      have y6 := next_eq S1 Y
      rw [← hS2] at y6 HB
      clear hX hS1 hY hS2
      have y7 := d[k].toNat_lt
      go_wp2
      clear x1 x2 x3 x4 x5 y1 y2 y3 y4 y5 y6 y7
      go_round
      case rel => exact ⟨k + 1, by omega, by go_num, by rw [HU.out, HB.out]⟩
      case measure => simp [intOf]; omega
    · have e : d.data.toList.take k = d.data.toList := List.take_of_length_le (by simp; omega)
      rw [e]
      go_wp2
      go_ret
      exact ⟨ret16 rfl, hb2⟩
end Crc
end Go.Proofs.Ytlefbpopemkkaaa
