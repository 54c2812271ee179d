/- The law's walk: CrcProtects. -/
import Derived.Test.YtlefbpopemkkaaaCrcLaws1
namespace Go.Proofs.Ytlefbpopemkkaaa
open Go Go.RowKit Go.Sort
open Crc
namespace Crc
theorem ba_ext {a b : ByteArray} (h : a.data.toList = b.data.toList) : a = b := by
  cases a; cases b; congr 1; exact Array.toList_inj.1 h
theorem by_ofNat (n : Nat) (h : n < 256) : by_ (UInt8.ofNat n) = BitVec.ofNat 16 n := by
  apply BitVec.eq_of_toNat_eq
  unfold by_
  rw [BitVec.toNat_setWidth, BitVec.toNat_ofNat]
  show (UInt8.ofNat n).toNat % 2 ^ 16 = _
  rw [UInt8.toNat_ofNat']
  rw [Nat.mod_eq_of_lt (a := n) (b := 2 ^ 8) (by omega)]
theorem hi_lo (s : W) : ((s >>> 8) <<< 8) ^^^ (s &&& 255#16) = s := by
  refine Lin.ext (f := fun s => ((s >>> 8) <<< 8) ^^^ (s &&& 255#16)) (g := fun s => s) ?_ (fun _ _ => rfl) ?_ s
  · intro a b
    show (((a ^^^ b) >>> 8) <<< 8) ^^^ ((a ^^^ b) &&& 255#16) = _
    rw [shr_lin, shl_lin]
    have : (a ^^^ b) &&& 255#16 = (a &&& 255#16) ^^^ (b &&& 255#16) := by
      apply BitVec.eq_of_getLsbD_eq; intro i _
      simp only [BitVec.getLsbD_xor, BitVec.getLsbD_and]
      cases a.getLsbD i <;> cases b.getLsbD i <;> cases (255#16).getLsbD i <;> rfl
    rw [this, xor4]
  · intro i hi
    have : ∀ i : Fin 16, ((bas i >>> 8) <<< 8) ^^^ (bas i &&& 255#16) = bas i := by decide +kernel
    exact this ⟨i, hi⟩
theorem tail2_list (s : W) : (tail2 s).data.toList = [UInt8.ofNat (s.toNat / 256), UInt8.ofNat (s.toNat % 256)] := by
  unfold tail2
  rw [strOfNums_data]
  have hz : z s = (s.toNat : Int) := by have := z_nat s; have := z0 s; omega
  have hl := s.isLt
  rw [hz]
  simp only [List.map_cons, List.map_nil]
  rw [show ((s.toNat : Int) / (256 : Int) % (256 : Int)).toNat = s.toNat / 256 by omega, show ((s.toNat : Int) % (256 : Int)).toNat = s.toNat % 256 by omega]
theorem tail2_by (s : W) : (by_ (UInt8.ofNat (s.toNat / 256)) <<< 8) ^^^ by_ (UInt8.ofNat (s.toNat % 256)) = s := by
  have hl := s.isLt
  rw [by_ofNat _ (by omega), by_ofNat _ (by omega)]
  have e1 : BitVec.ofNat 16 (s.toNat / 256) = s >>> 8 := by
    apply BitVec.eq_of_toNat_eq
    rw [BitVec.toNat_ofNat, BitVec.toNat_ushiftRight, Nat.shiftRight_eq_div_pow]; omega
  have e2 : BitVec.ofNat 16 (s.toNat % 256) = s &&& 255#16 := by
    apply BitVec.eq_of_toNat_eq
    rw [BitVec.toNat_ofNat, BitVec.toNat_and]
    rw [show (255#16).toNat = 2 ^ 8 - 1 from rfl, Nat.and_two_pow_sub_one_eq_mod]; omega
  rw [e1, e2, hi_lo]
theorem prot_list (d : ByteArray) : (prot d).data.toList = d.data.toList ++ [UInt8.ofNat ((sumB d).toNat / 256), UInt8.ofNat ((sumB d).toNat % 256)] := by
  unfold prot
  rw [ByteArray.data_append, Array.toList_append, tail2_list]
theorem prot_size (d : ByteArray) : (prot d).size = d.size + 2 := by
  unfold prot; rw [ByteArray.size_append, size_tail2]
theorem prot_V (d : ByteArray) : VB (prot d) = 0 := by
  unfold VB
  rw [prot_list, V_two, tail2_by]
  exact BitVec.xor_self
theorem prot_back (d : ByteArray) : (prot d).extract 0 ((prot d).size - 2) = d := by
  apply ba_ext
  rw [slice_list, List.drop_zero, prot_list, prot_size]
  have : d.data.toList.length = d.size := rfl
  rw [List.take_append_of_le_length (by omega), List.take_of_length_le (by omega)]
theorem two_bytes (a b : UInt8) : ((by_ a <<< 8) ^^^ by_ b).toNat = a.toNat * 256 + b.toNat := by
  have ha := a.toNat_lt
  have hb := b.toNat_lt
  have e1 : (by_ a).toNat = a.toNat := by have := z_by a; have := z_nat (by_ a); omega
  have e2 : (by_ b).toNat = b.toNat := by have := z_by b; have := z_nat (by_ b); omega
  rw [BitVec.toNat_xor, BitVec.toNat_shiftLeft, e1, e2, Nat.shiftLeft_eq]
  have h := Nat.two_pow_add_eq_or_of_lt (i := 8) (b := b.toNat) (by omega) a.toNat
  have hx : a.toNat * 2 ^ 8 % 2 ^ 16 = 2 ^ 8 * a.toNat := by omega
  rw [hx]
  have hxor : (2 ^ 8 * a.toNat) ^^^ b.toNat = 2 ^ 8 * a.toNat ||| b.toNat := by
    apply Nat.eq_of_testBit_eq
    intro i
    rw [Nat.testBit_xor, Nat.testBit_or]
    by_cases c : i < 8
    · have haz : (2 ^ 8 * a.toNat).testBit i = false := by
        rw [Nat.testBit_two_pow_mul]; simp; intro h8; omega
      rw [haz]; simp
    · have hbz : b.toNat.testBit i = false := Nat.testBit_lt_two_pow (Nat.lt_of_lt_of_le (m := 2 ^ 8) (by omega) (Nat.pow_le_pow_right (by omega) (by omega)))
      rw [hbz]; simp
  rw [hxor, ← h]; omega
theorem prot_iff (d : ByteArray) (h : 2 ≤ d.size) : prot (d.extract 0 (d.size - 2)) = d ↔ VB d = 0 := by
  constructor
  · intro e; rw [← e]; exact prot_V _
  · intro hv
    apply ba_ext
    have e := syn_eq d h
    rw [hv] at e
    have es : sumB (d.extract 0 (d.size - 2)) = (by_ (d[d.size - 2]'(by omega)) <<< 8) ^^^ by_ (d[d.size - 1]'(by omega)) := by
      have := congrArg (fun x => x ^^^ ((by_ (d[d.size - 2]'(by omega)) <<< 8) ^^^ by_ (d[d.size - 1]'(by omega)))) e
      simp only [BitVec.xor_assoc, BitVec.xor_self] at this
      rw [show (0 : W) ^^^ ((by_ (d[d.size - 2]'(by omega)) <<< 8) ^^^ by_ (d[d.size - 1]'(by omega))) = _ from BitVec.zero_xor] at this
      rw [← this]; simp
    have hn := two_bytes (d[d.size - 2]'(by omega)) (d[d.size - 1]'(by omega))
    have hb := (d[d.size - 1]'(by omega)).toNat_lt
    have ea : UInt8.ofNat ((sumB (d.extract 0 (d.size - 2))).toNat / 256) = d[d.size - 2]'(by omega) := by
      rw [es, hn, show ((d[d.size - 2]'(by omega)).toNat * 256 + (d[d.size - 1]'(by omega)).toNat) / 256 = (d[d.size - 2]'(by omega)).toNat by omega]; simp
    have eb : UInt8.ofNat ((sumB (d.extract 0 (d.size - 2))).toNat % 256) = d[d.size - 1]'(by omega) := by
      rw [es, hn, show ((d[d.size - 2]'(by omega)).toNat * 256 + (d[d.size - 1]'(by omega)).toNat) % 256 = (d[d.size - 1]'(by omega)).toNat by omega]; simp
    rw [prot_list, ea, eb, ← last_two d h]
theorem check_prot (d : ByteArray) (w : World) (h : d.size ≤ 900) :
    Calls Try.prog 24 #[.string (prot d)] w fun e w' => e = .returned (.tuple #[.string d, .int .i64 0]) ∧ Below w.heap.size w w' := by
  have := check_good (prot d) w (by rw [prot_size]; omega) (by rw [prot_size]; omega) (prot_V d)
  rwa [prot_back] at this
end Crc
set_option maxRecDepth 100000 in
set_option maxHeartbeats 4000000 in
theorem crcProtects_walk (d : ByteArray) (hd : d.size ≤ maxLen) (w : World) :
    Calls Try.prog 9 #[.string d] w fun e w' => e = .returned (.bool true) ∧ Below w.heap.size w w' := by
  unfold maxLen at hd
  by_cases h : d.size ≤ 300
  · have hs := prot_size d
    go_enter Try.func9, Try.ntmps9
    go_wp2_with fail
    refine (awake_any _).mono ?_
    rintro e w1 ⟨rfl, hb1⟩
    go_wp2_with fail
    refine (protect_any _ _ (by omega)).mono ?_
    rintro e w2 ⟨rfl, hb2⟩
    go_wp2_with fail
    refine (check_prot _ _ (by omega)).mono ?_
    rintro e w3 ⟨rfl, hb3⟩
    have HB := Lib.hid (bthen (bthen hb1 hb2) hb3)
    clear hb1 hb2 hb3
    by_cases h2 : d.size < 2
    · go_wp2_with fail
      refine (check_short _ _ h2).mono ?_
      rintro e w4 ⟨rfl, rfl⟩
      go_wp2_with fail
      refine (syndrome_short _ _ h2).mono ?_
      rintro e w4 ⟨rfl, rfl⟩
      go_wp2
      go_ret
      exact ⟨rfl, HB.out⟩
    · have q1 : (2 : Int) ≤ d.size := by omega
      by_cases hv : VB d = 0
      · have E := Lib.hid ((prot_iff d (by omega)).2 hv)
        have EV : Hid (z (VB d) = 0) := by show _ = _; rw [hv, zz]
        go_wp2_with fail
        refine (check_good _ _ (by omega) (by omega) hv).mono ?_
        rintro e w4 ⟨rfl, hb4⟩
        replace hv := Lib.hid hv
        go_wp2_with fail
        refine (syndrome_ok _ _ (by omega) (by omega)).mono ?_
        rintro e w5 ⟨rfl, hb5⟩
        rw [EV.out]
        go_wp2_with fail
        refine (protect_any _ _ (by rw [ByteArray.size_extract]; omega)).mono ?_
        rintro e w6 ⟨rfl, hb6⟩
        rw [E.out]
        go_wp2
        go_ret
        exact ⟨rfl, bthen (bthen (bthen HB.out hb4) hb5) hb6⟩
      · have E : ((prot (d.extract 0 (d.size - 2))).toList == d.toList) = false := by
          rw [beq_eq_false_iff_ne, ByteArray.toList_eq, ByteArray.toList_eq]; exact fun e => hv ((prot_iff d (by omega)).1 (ba_ext e))
        have EV : (z (VB d) == 0) = false := by
          rw [beq_eq_false_iff_ne]; intro e; exact hv (z_inj (by rw [e, zz]))
        replace hv := Lib.hid hv
        go_wp2_with fail
        refine (check_bad _ _ (by omega) (by omega) hv.out).mono ?_
        rintro e w4 ⟨rfl, hb4⟩
        go_wp2_with fail
        refine (syndrome_ok _ _ (by omega) (by omega)).mono ?_
        rintro e w5 ⟨rfl, hb5⟩
        go_wp2_with fail
        refine (protect_any _ _ (by rw [ByteArray.size_extract]; omega)).mono ?_
        rintro e w6 ⟨rfl, hb6⟩
        go_wp2
        go_ret
        exact ⟨rfl, bthen (bthen (bthen HB.out hb4) hb5) hb6⟩
  · go_enter Try.func9, Try.ntmps9
    go_wp2_with fail
    refine (awake_any _).mono ?_
    rintro e w1 ⟨rfl, hb1⟩
    go_wp2
    go_ret
    exact ⟨rfl, hb1⟩
end Go.Proofs.Ytlefbpopemkkaaa
