/- The law's walk: CrcLinear. -/
import Derived.Test.YtlefbpopemkkaaaCrcLaws5
import Derived.Lib.ConvBytes
namespace Go.Proofs.Ytlefbpopemkkaaa
open Go Go.RowKit Go.Sort
open Crc
namespace Crc
theorem by_xor (c d : UInt8) : by_ (c ^^^ d) = by_ c ^^^ by_ d := by
  unfold by_
  apply BitVec.eq_of_getLsbD_eq; intro i hi
  rw [BitVec.getLsbD_xor, BitVec.getLsbD_setWidth, BitVec.getLsbD_setWidth, BitVec.getLsbD_setWidth, UInt8.toBitVec_xor, BitVec.getLsbD_xor]
  simp [hi]
theorem upd_xor : ∀ (la lb : List UInt8) (s t : W), la.length = lb.length → upd (s ^^^ t) (List.zipWith (· ^^^ ·) la lb) = upd s la ^^^ upd t lb
  | [], [], s, t, _ => rfl
  | a :: la, b :: lb, s, t, h => by
    have e : ∀ (s : W) c l, upd s (c :: l) = upd (Tn 8 (s ^^^ (by_ c <<< 8))) l := fun _ _ _ => rfl
    rw [List.zipWith_cons_cons, e, e, e, by_xor, shl_lin, xor4, Tn_lin 8, upd_xor la lb _ _ (by simpa using h)]
  | [], _ :: _, _, _, h => by simp at h
  | _ :: _, [], _, _, h => by simp at h
/-- after k rounds -/
def mixB (a b : ByteArray) (k j : Nat) : UInt8 := if j < k then a.data.toList.getD j 0 ^^^ b.data.toList.getD j 0 else a.data.toList.getD j 0
def mixL (a b : ByteArray) : List Int := (List.range a.size).map fun j => ((mixB a b a.size j).toNat : Int)
theorem mixL_list (a b : ByteArray) (h : b.size = a.size) : (strOfNums (mixL a b)).data.toList = List.zipWith (· ^^^ ·) a.data.toList b.data.toList := by
  rw [strOfNums_data]
  have ha : a.data.toList.length = a.size := rfl
  have hb : b.data.toList.length = b.size := rfl
  apply List.ext_getElem
  · simp [mixL]; have : a.data.size = a.size := rfl; have : b.data.size = b.size := rfl; omega
  · intro i h1 h2
    have hi : i < a.size := by simpa [mixL] using h1
    simp only [mixL, List.getElem_map, List.getElem_range, List.getElem_zipWith, mixB, hi, if_true]
    rw [List.getD_eq_getElem?_getD, List.getD_eq_getElem?_getD, List.getElem?_eq_getElem (by omega), List.getElem?_eq_getElem (by omega)]
    simp
theorem mix_sum (a b : ByteArray) (h : b.size = a.size) : sumB (strOfNums (mixL a b)) = sumB a ^^^ sumB b := by
  unfold sumB
  rw [mixL_list a b h, ← upd_xor _ _ _ _ (by show a.size = b.size; omega)]
  rfl
theorem u8x (c d : UInt8) : bits .xor .u8 (c.toNat : Int) (d.toNat : Int) = ((c ^^^ d).toNat : Int) := by
  have hc := c.toNat_lt
  have hd := d.toNat_lt
  rw [u8_xor _ _ (by omega) (by omega) (by omega) (by omega), UInt8.toNat_xor]; rfl
theorem mix_next (a b : ByteArray) (k j : Nat) (h : j ≠ k) : mixB a b (k + 1) j = mixB a b k j := by
  unfold mixB
  by_cases c : j < k
  · rw [if_pos c, if_pos (by omega)]
  · rw [if_neg c, if_neg (by omega)]
theorem mix_at (a b : ByteArray) (k : Nat) : mixB a b (k + 1) k = mixB a b k k ^^^ b.data.toList.getD k 0 := by
  unfold mixB; rw [if_pos (by omega), if_neg (by omega)]
theorem getD_byte (b : ByteArray) (k : Nat) (h : k < b.size) : b.data.toList.getD k 0 = b[k] := by
  rw [List.getD_eq_getElem?_getD, List.getElem?_eq_getElem (by simpa using h)]; rfl
/-- the row of bytes in the loop -/
structure Mixed (w1 wr : World) (B : Nat) (a b : ByteArray) (k : Nat) : Prop where
  below : Below B w1 wr
  cell : ∀ j, j < a.size → wr.cell? ⟨B, j, none⟩ = some (.int .u8 ((mixB a b k j).toNat : Int))
  free : ∀ j, j < a.size → wr.frozen? ⟨B, j, none⟩ = false
theorem bytesWorld_free (w : World) (e : TypeId) (s : ByteArray) (j : Nat) (hj : j < s.size) : (Lib.bytesWorld w e s).frozen? ⟨w.heap.size, j, none⟩ = false := by
  have hs : s.size ≤ (Lib.bytesCells w e s).size := by
    unfold Lib.bytesCells; simp
  unfold World.frozen?
  rw [Lib.bytesWorld_at_new]
  simp [Nat.not_le.2 (Nat.lt_of_lt_of_le hj hs)]
theorem bytesWorld_below (w : World) (e : TypeId) (s : ByteArray) : Below w.heap.size w (Lib.bytesWorld w e s) := by
  refine ⟨?_, ?_, ?_, ?_, fun k hk => Lib.bytesWorld_at_old w e s k hk⟩
  · unfold Lib.bytesWorld World.freeze; split <;> rfl
  · unfold Lib.bytesWorld World.freeze; split <;> rfl
  · unfold Lib.bytesWorld World.freeze; split <;> rfl
  · rw [Lib.bytesWorld_size]; omega
theorem Mixed.start (w : World) (a b : ByteArray) : Mixed w (Lib.bytesWorld w 5 a) w.heap.size a b 0 :=
  ⟨bytesWorld_below w _ a, fun j hj => by rw [Lib.bytesWorld_cell w _ a j hj]; unfold mixB; rw [if_neg (by omega)], fun j hj => bytesWorld_free w _ a j hj⟩
theorem Mixed.next {w1 wr w2 : World} {B : Nat} {a b : ByteArray} {k : Nat} (h : Mixed w1 wr B a b k) (hk : k < a.size) (hkb : k < b.size)
    (hw : w2 = (wr.setCell ⟨B, k, none⟩ (.int .u8 (bits .xor .u8 ((mixB a b k k).toNat : Int) (b[k].toNat : Int)))).drew) : Mixed w1 w2 B a b (k + 1) := by
  subst hw
  rw [u8x]
  refine ⟨(h.below.setCell (p := ⟨B, k, none⟩) (Nat.le_refl _) _).drew, fun j hj => ?_, fun j hj => ?_⟩
  · by_cases c : j = k
    · subst c
      rw [mix_at, getD_byte b j hkb]
      show (wr.setCell _ _).cell? _ = _
      exact World.cell?_setCell_same wr _ _ (h.cell j hj)
    · rw [mix_next a b k j c]
      show (wr.setCell _ _).cell? _ = _
      rw [World.cell?_setCell_other wr _ _ _ (by intro e; injection e with _ e _; exact c e.symm)]
      exact h.cell j hj
  · show (wr.setCell _ _).frozen? _ = _
    rw [World.frozen?_setCell]
    exact h.free j hj
end Crc
set_option maxRecDepth 100000 in
set_option maxHeartbeats 4000000 in
theorem crcLinear_walk (a b : ByteArray) (ha : a.size ≤ maxLen) (hb : b.size ≤ maxLen) (w : World) :
    Calls Try.prog 5 #[.string a, .string b] w fun e w' => e = .returned (.bool true) ∧ Below w.heap.size w w' := by
  unfold maxLen at ha hb
  by_cases h1 : a.size ≤ 300
  · by_cases h2 : b.size = a.size
    · have HE := Lib.hid h2
      have q2 : ((b.size : Int) != (a.size : Int)) = false := by rw [h2]; simp
      clear h2
      have hcv := fun w : World => Lib.run_convert_string_bytes (P := Try.prog) w 9 29 5 a Try.underlying9 Try.underlying29 Try.underlying5
      go_enter Try.func5, Try.ntmps5
      go_wp2_with fail
      refine (awake_any _).mono ?_
      rintro e w1 ⟨rfl, hb1⟩
      go_wp2
      clear hcv
      go_loopw [23] (fun i wr => ∃ k : Nat, k ≤ a.size ∧ i = .int .i64 k ∧ Mixed w1 wr w1.heap.size a b k) (fun i _ => a.size - (intOf i).toNat)
      case atStart => exact ⟨0, by omega, rfl, Mixed.start w1 a b⟩
      case round =>
        obtain ⟨k, hk, rfl, HM⟩ := hrel
        by_cases hlt : k < a.size
        · have hkb : k < b.size := by have := HE.out; omega
          have c1 := HM.cell k hlt
          have c2 := HM.free k hlt
          go_wp2
          go_region
          go_wp2
          have HN := HM.next hlt hkb rfl
          go_roundw
          case rel => exact ⟨k + 1, by omega, by go_num, HN⟩
          case measure => simp [intOf]; omega
        · have e : k = a.size := by omega
          subst e
          have hct := run_convert_bytes_arg (P := Try.prog) wr 29 5 Try.underlying29 Try.underlying5 w1.heap.size 0 a.size (grownCap w1 a.size 0 5) (mixL a b) (by simp [mixL]) (fun i hi => by
            rw [Nat.zero_add, HM.cell i hi]; simp [mixL, hi]) 9 Try.underlying9
          have HX := Lib.hid (mix_sum a b HE.out)
          have HZ := Lib.hid (z_xor (sumB a) (sumB b))
          have HS : Hid ((strOfNums (mixL a b)).size ≤ maxLen) := by
            show _ ≤ _; rw [strOfNums_size]; simp [mixL]; unfold maxLen; omega
          have Ha : Hid (a.size ≤ maxLen) := by show _ ≤ _; unfold maxLen; omega
          have Hb : Hid (b.size ≤ maxLen) := by show _ ≤ _; unfold maxLen; omega
          go_wp2_with fail
          refine (sum_any _ _ HS.out).mono ?_
          rintro e w2 ⟨rfl, hb2⟩
          rw [HX.out]
          clear hct
          go_wp2_with fail
          refine (sum_any _ _ Ha.out).mono ?_
          rintro e w3 ⟨rfl, hb3⟩
          go_wp2_with fail
          refine (sum_any _ _ Hb.out).mono ?_
          rintro e w4 ⟨rfl, hb4⟩
          have HZ := HZ.out
          go_wp2
          go_ret
          exact ⟨rfl, bthen (bthen (bthen (bthen hb1 HM.below) hb2) hb3) hb4⟩
    · have q2 : ((b.size : Int) != (a.size : Int)) = true := by rw [bne_iff_ne]; omega
      clear h2
      go_enter Try.func5, Try.ntmps5
      go_wp2_with fail
      refine (awake_any _).mono ?_
      rintro e w1 ⟨rfl, hb1⟩
      go_wp2
      go_ret
      exact ⟨rfl, hb1⟩
  · go_enter Try.func5, Try.ntmps5
    go_wp2_with fail
    refine (awake_any _).mono ?_
    rintro e w1 ⟨rfl, hb1⟩
    go_wp2
    go_ret
    exact ⟨rfl, hb1⟩
end Go.Proofs.Ytlefbpopemkkaaa
