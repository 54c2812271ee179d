/- flip: one bit of a string inverted. -/
import Derived.Test.YtlefbpopemkkaaaCrcLaws6
namespace Go.Proofs.Ytlefbpopemkkaaa
open Go Go.RowKit Go.Sort
open Crc
namespace Crc
def flipIx (s : ByteArray) (i : Nat) : Nat := s.size - 1 - i / 8
def mask (i : Nat) : UInt8 := UInt8.ofNat (2 ^ (i % 8))
def flipV (s : ByteArray) (i j : Nat) : UInt8 := if j = flipIx s i then s.data.toList.getD j 0 ^^^ mask i else s.data.toList.getD j 0
def flipL (s : ByteArray) (i : Nat) : List Int := (List.range s.size).map fun j => ((flipV s i j).toNat : Int)
def flipB (s : ByteArray) (i : Nat) : ByteArray := strOfNums (flipL s i)
theorem mask_nat (i : Nat) : (mask i).toNat = 2 ^ (i % 8) := by
  have h : 2 ^ (i % 8) < 256 := Nat.lt_of_lt_of_le (m := 2 ^ 8) (Nat.pow_lt_pow_right (by omega) (by omega)) (by omega)
  unfold mask
  rw [UInt8.toNat_ofNat', Nat.mod_eq_of_lt h]
theorem flip_val (c : UInt8) (i : Nat) : bits .xor .u8 (c.toNat : Int) ((2 : Int) ^ (i % 8) % (256 : Int)) = ((c ^^^ mask i).toNat : Int) := by
  have h : 2 ^ (i % 8) < 256 := Nat.lt_of_lt_of_le (m := 2 ^ 8) (Nat.pow_lt_pow_right (by omega) (by omega)) (by omega)
  have e : (2 : Int) ^ (i % 8) = ((2 ^ (i % 8) : Nat) : Int) := by simp
  have e2 : (((2 ^ (i % 8) : Nat) : Int)) % (256 : Int) = ((mask i).toNat : Int) := by
    rw [mask_nat]; generalize 2 ^ (i % 8) = m at *; omega
  rw [e, e2, u8x]
theorem flip_size (s : ByteArray) (i : Nat) : (flipB s i).size = s.size := by
  unfold flipB; rw [strOfNums_size]; simp [flipL]
theorem flip_list (s : ByteArray) (i : Nat) : (flipB s i).data.toList = s.data.toList.set (flipIx s i) (s.data.toList.getD (flipIx s i) 0 ^^^ mask i) := by
  unfold flipB
  rw [strOfNums_data]
  have hl : s.data.toList.length = s.size := rfl
  apply List.ext_getElem
  · simp [flipL]
  · intro j h1 h2
    have hj : j < s.size := by simpa [flipL] using h1
    simp only [flipL, List.getElem_map, List.getElem_range, flipV, List.getElem_set]
    by_cases c : j = flipIx s i
    · subst c; simp
    · rw [if_neg c, if_neg (fun e => c e.symm), List.getD_eq_getElem?_getD, List.getElem?_eq_getElem (by omega)]; simp
theorem by_mask (i : Nat) : by_ (mask i) = Tn (i % 8) 1 := by
  have h : ∀ j : Fin 8, by_ (UInt8.ofNat (2 ^ j.val)) = Tn j.val 1 := by decide +kernel
  exact h ⟨i % 8, by omega⟩
theorem flip_V (s : ByteArray) (i : Nat) (h : i < 8 * s.size) : VB (flipB s i) = VB s ^^^ pw i := by
  have hix : flipIx s i < s.size := by unfold flipIx; omega
  have hl : s.data.toList.length = s.size := rfl
  have hsplit : s.data.toList = s.data.toList.take (flipIx s i) ++ s.data.toList[flipIx s i] :: s.data.toList.drop (flipIx s i + 1) := by
    rw [List.getElem_cons_drop, List.take_append_drop]
  have hset : s.data.toList.set (flipIx s i) (s.data.toList.getD (flipIx s i) 0 ^^^ mask i) = s.data.toList.take (flipIx s i) ++ (s.data.toList[flipIx s i] ^^^ mask i) :: s.data.toList.drop (flipIx s i + 1) := by
    rw [List.set_eq_take_append_cons_drop, if_pos (by omega), List.getD_eq_getElem?_getD, List.getElem?_eq_getElem (by omega)]
    rfl
  have hm := V_mid (s.data.toList.take (flipIx s i)) (s.data.toList.drop (flipIx s i + 1)) (s.data.toList[flipIx s i] ^^^ mask i) s.data.toList[flipIx s i]
  rw [← hset, ← hsplit, by_xor] at hm
  have hd : (s.data.toList.drop (flipIx s i + 1)).length = i / 8 := by rw [List.length_drop, hl]; unfold flipIx; omega
  rw [hd, show by_ s.data.toList[flipIx s i] ^^^ by_ (mask i) ^^^ by_ s.data.toList[flipIx s i] = by_ (mask i) by
    rw [BitVec.xor_comm (by_ s.data.toList[flipIx s i]), BitVec.xor_assoc, BitVec.xor_self, BitVec.xor_zero], by_mask, ← Tn_add, show 8 * (i / 8) + i % 8 = i by omega] at hm
  unfold VB
  rw [flip_list s i]
  show _ = V s.data.toList ^^^ Tn i 1
  rw [← hm, BitVec.xor_comm (V (s.data.toList.set _ _)), ← BitVec.xor_assoc, BitVec.xor_self, BitVec.zero_xor]
set_option maxRecDepth 100000 in
set_option maxHeartbeats 1000000 in
theorem flip_any (s : ByteArray) (i : Nat) (w : World) (hs : s.size ≤ 1000) (hi : i < 8 * s.size) :
    Calls Try.prog 26 #[.string s, .int .i64 (i : Int)] w fun e w' => e = .returned (.string (flipB s i)) ∧ Below w.heap.size w w' := by
  have hcv := fun w : World => Lib.run_convert_string_bytes (P := Try.prog) w 9 29 5 s Try.underlying9 Try.underlying29 Try.underlying5
  obtain ⟨x, hx⟩ : ∃ x : Nat, x = flipIx s i := ⟨_, rfl⟩
  have hx' : x < s.size := by rw [hx]; unfold flipIx; omega
  have q1 : ((s.size : Int) - 1 - (i : Int) / 8) = (x : Int) := by rw [hx]; unfold flipIx; omega
  have c1 := Lib.bytesWorld_cell w 5 s x hx'
  have c2 := bytesWorld_free w 5 s x hx'
  have q2 : 0 ≤ (i : Int) % 8 := by omega
  replace hx := Lib.hid hx
  go_enter Try.func26, Try.ntmps26
  go_wp2
  go_region
  have HV := Lib.hid (flip_val s.data[x] i)
  rw [HV.out]
  have hcell : ∀ j, j < s.size → (((Lib.bytesWorld w 5 s).setCell ⟨w.heap.size, x, none⟩ (.int .u8 ((s.data[x] ^^^ mask i).toNat : Int))).drew).cell? ⟨w.heap.size, 0 + j, none⟩ = some (.int .u8 ((flipL s i).getD j 0)) := by
    intro j hj
    have hv : (flipL s i).getD j 0 = ((flipV s i j).toNat : Int) := by simp [flipL, hj]
    rw [hv, Nat.zero_add]
    show (World.setCell _ _ _).cell? _ = _
    unfold flipV
    rw [← hx.out]
    by_cases c : j = x
    · subst c
      rw [if_pos rfl, World.cell?_setCell_same _ _ _ c1, getD_byte s j hj]; rfl
    · rw [if_neg c, World.cell?_setCell_other _ _ _ _ (by intro e; injection e with _ e _; exact c e.symm), Lib.bytesWorld_cell w 5 s j hj]
  have hct := run_convert_bytes_arg (P := Try.prog) _ 29 5 Try.underlying29 Try.underlying5 w.heap.size 0 s.size (grownCap w s.size 0 5) (flipL s i) (by simp [flipL]) hcell 9 Try.underlying9
  have hbel : Below w.heap.size w (((Lib.bytesWorld w 5 s).setCell ⟨w.heap.size, x, none⟩ (.int .u8 ((s.data[x] ^^^ mask i).toNat : Int))).drew) :=
    ((bytesWorld_below w _ s).setCell (p := ⟨w.heap.size, x, none⟩) (Nat.le_refl _) _).drew
  clear hcv c1 c2 hcell
  generalize ((Lib.bytesWorld w 5 s).setCell ⟨w.heap.size, x, none⟩ (.int .u8 ((s.data[x] ^^^ mask i).toNat : Int))).drew = w2 at *
  go_wp2
  go_ret
  exact ⟨rfl, hbel⟩
end Crc
end Go.Proofs.Ytlefbpopemkkaaa
