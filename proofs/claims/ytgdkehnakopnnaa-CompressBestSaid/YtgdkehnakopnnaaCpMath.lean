/- Bits, packed bytes, readers and headers: plain functions and their laws. -/
import Derived.WalkKit
namespace Go.Proofs.Ytgdkehnakopnnaa
namespace Cp
/-- the lowest bits of a number, the highest one first -/
def bitsOf (width n : Nat) : List Bool := (List.range width).map fun i => n.testBit (width - 1 - i)
theorem bitsOf_length (width n : Nat) : (bitsOf width n).length = width := by simp [bitsOf]
theorem bitsOf_get (width n i : Nat) (h : i < width) : (bitsOf width n)[i]? = some (n.testBit (width - 1 - i)) := by simp [bitsOf, h]
theorem bitsOf_take (width n i : Nat) (h : i < width) : (bitsOf width n).take (i + 1) = (bitsOf width n).take i ++ [n.testBit (width - 1 - i)] := by
  rw [List.take_add_one, bitsOf_get width n i h]; rfl
def bt (bs : List Bool) (i : Nat) : Nat := (bs.getD i false).toNat
/-- the byte at a place, filled up with bits 0 -/
def byteOf (bs : List Bool) (j : Nat) : Nat :=
  bt bs (8 * j) * 128 + bt bs (8 * j + 1) * 64 + bt bs (8 * j + 2) * 32 + bt bs (8 * j + 3) * 16 + bt bs (8 * j + 4) * 8 + bt bs (8 * j + 5) * 4 + bt bs (8 * j + 6) * 2 + bt bs (8 * j + 7)
theorem bt_le (bs : List Bool) (i : Nat) : bt bs i ≤ 1 := by unfold bt; cases bs.getD i false <;> decide
theorem bt_past (bs : List Bool) (i : Nat) (h : bs.length ≤ i) : bt bs i = 0 := by
  unfold bt; rw [List.getD_eq_getElem?_getD, List.getElem?_eq_none h]; rfl
theorem bt_snoc_lt (bs : List Bool) (b : Bool) (i : Nat) (h : i < bs.length) : bt (bs ++ [b]) i = bt bs i := by
  unfold bt; rw [List.getD_eq_getElem?_getD, List.getD_eq_getElem?_getD, List.getElem?_append_left h]
theorem bt_snoc_at (bs : List Bool) (b : Bool) : bt (bs ++ [b]) bs.length = b.toNat := by
  unfold bt; rw [List.getD_eq_getElem?_getD, List.getElem?_append_right (Nat.le_refl _)]; simp
theorem bt_snoc (bs : List Bool) (b : Bool) (i : Nat) : bt (bs ++ [b]) i = if i = bs.length then b.toNat else bt bs i := by
  by_cases h : i = bs.length
  · subst h; rw [if_pos rfl]; exact bt_snoc_at bs b
  · rw [if_neg h]
    rcases Nat.lt_or_ge i bs.length with h1 | h1
    · exact bt_snoc_lt bs b i h1
    · rw [bt_past bs i h1, bt_past _ i (by simp; omega)]
theorem byteOf_lt (bs : List Bool) (j : Nat) : byteOf bs j < 256 := by
  unfold byteOf
  have h := fun i => bt_le bs i
  have h0 := h (8 * j); have h1 := h (8 * j + 1); have h2 := h (8 * j + 2); have h3 := h (8 * j + 3)
  have h4 := h (8 * j + 4); have h5 := h (8 * j + 5); have h6 := h (8 * j + 6); have h7 := h (8 * j + 7)
  omega
theorem byteOf_past (bs : List Bool) (j : Nat) (h : bs.length ≤ 8 * j) : byteOf bs j = 0 := by
  unfold byteOf
  simp only [bt_past bs (8 * j) h, bt_past bs (8 * j + 1) (by omega), bt_past bs (8 * j + 2) (by omega), bt_past bs (8 * j + 3) (by omega), bt_past bs (8 * j + 4) (by omega), bt_past bs (8 * j + 5) (by omega), bt_past bs (8 * j + 6) (by omega), bt_past bs (8 * j + 7) (by omega)]
/-- one more bit -/
theorem byteOf_snoc_other (bs : List Bool) (b : Bool) (j : Nat) (h : j ≠ bs.length / 8) : byteOf (bs ++ [b]) j = byteOf bs j := by
  unfold byteOf
  simp only [bt_snoc]
  rw [if_neg (by omega), if_neg (by omega), if_neg (by omega), if_neg (by omega), if_neg (by omega), if_neg (by omega), if_neg (by omega), if_neg (by omega)]
theorem byteOf_snoc_add (bs : List Bool) (b : Bool) : byteOf (bs ++ [b]) (bs.length / 8) = byteOf bs (bs.length / 8) + b.toNat * 2 ^ (7 - bs.length % 8) := by
  have hr : bs.length % 8 < 8 := Nat.mod_lt _ (by decide)
  have hd : bs.length = 8 * (bs.length / 8) + bs.length % 8 := by omega
  generalize bs.length / 8 = j at *
  generalize bs.length % 8 = r at *
  unfold byteOf
  simp only [bt_snoc]
  have hp := fun i (h : bs.length ≤ i) => bt_past bs i h
  have e0 := hp (8 * j + 1); have e1 := hp (8 * j + 2); have e2 := hp (8 * j + 3); have e3 := hp (8 * j + 4); have e4 := hp (8 * j + 5); have e5 := hp (8 * j + 6); have e6 := hp (8 * j + 7); have e7 := hp (8 * j)
  match r, hr with
  | 0, _ =>
    rw [if_pos (by omega), if_neg (by omega), if_neg (by omega), if_neg (by omega), if_neg (by omega), if_neg (by omega), if_neg (by omega), if_neg (by omega), e7 (by omega)]; omega
  | 1, _ =>
    rw [if_neg (by omega), if_pos (by omega), if_neg (by omega), if_neg (by omega), if_neg (by omega), if_neg (by omega), if_neg (by omega), if_neg (by omega), e0 (by omega)]; omega
  | 2, _ =>
    rw [if_neg (by omega), if_neg (by omega), if_pos (by omega), if_neg (by omega), if_neg (by omega), if_neg (by omega), if_neg (by omega), if_neg (by omega), e1 (by omega)]; omega
  | 3, _ =>
    rw [if_neg (by omega), if_neg (by omega), if_neg (by omega), if_pos (by omega), if_neg (by omega), if_neg (by omega), if_neg (by omega), if_neg (by omega), e2 (by omega)]; omega
  | 4, _ =>
    rw [if_neg (by omega), if_neg (by omega), if_neg (by omega), if_neg (by omega), if_pos (by omega), if_neg (by omega), if_neg (by omega), if_neg (by omega), e3 (by omega)]; omega
  | 5, _ =>
    rw [if_neg (by omega), if_neg (by omega), if_neg (by omega), if_neg (by omega), if_neg (by omega), if_pos (by omega), if_neg (by omega), if_neg (by omega), e4 (by omega)]; omega
  | 6, _ =>
    rw [if_neg (by omega), if_neg (by omega), if_neg (by omega), if_neg (by omega), if_neg (by omega), if_neg (by omega), if_pos (by omega), if_neg (by omega), e5 (by omega)]; omega
  | 7, _ =>
    rw [if_neg (by omega), if_neg (by omega), if_neg (by omega), if_neg (by omega), if_neg (by omega), if_neg (by omega), if_neg (by omega), if_pos (by omega), e6 (by omega)]; omega
/-- the byte where the next bit goes is a multiple of twice that bit -/
theorem byteOf_next (bs : List Bool) : ∃ m, byteOf bs (bs.length / 8) = m * 2 ^ (8 - bs.length % 8) := by
  have hr : bs.length % 8 < 8 := Nat.mod_lt _ (by decide)
  have hd : bs.length = 8 * (bs.length / 8) + bs.length % 8 := by omega
  generalize bs.length / 8 = j at *
  generalize bs.length % 8 = r at *
  unfold byteOf
  have hp := fun i (h : bs.length ≤ i) => bt_past bs i h
  have e0 := hp (8 * j + 1); have e1 := hp (8 * j + 2); have e2 := hp (8 * j + 3); have e3 := hp (8 * j + 4); have e4 := hp (8 * j + 5); have e5 := hp (8 * j + 6); have e6 := hp (8 * j + 7); have e7 := hp (8 * j)
  generalize bt bs (8 * j) = a0 at *
  generalize bt bs (8 * j + 1) = a1 at *
  generalize bt bs (8 * j + 2) = a2 at *
  generalize bt bs (8 * j + 3) = a3 at *
  generalize bt bs (8 * j + 4) = a4 at *
  generalize bt bs (8 * j + 5) = a5 at *
  generalize bt bs (8 * j + 6) = a6 at *
  generalize bt bs (8 * j + 7) = a7 at *
  match r, hr with
  | 0, _ => exact ⟨0, by have := e0 (by omega); have := e1 (by omega); have := e2 (by omega); have := e3 (by omega); have := e4 (by omega); have := e5 (by omega); have := e6 (by omega); have := e7 (by omega); omega⟩
  | 1, _ => exact ⟨a0, by have := e0 (by omega); have := e1 (by omega); have := e2 (by omega); have := e3 (by omega); have := e4 (by omega); have := e5 (by omega); have := e6 (by omega); omega⟩
  | 2, _ => exact ⟨a0 * 2 + a1, by have := e1 (by omega); have := e2 (by omega); have := e3 (by omega); have := e4 (by omega); have := e5 (by omega); have := e6 (by omega); omega⟩
  | 3, _ => exact ⟨a0 * 4 + a1 * 2 + a2, by have := e2 (by omega); have := e3 (by omega); have := e4 (by omega); have := e5 (by omega); have := e6 (by omega); omega⟩
  | 4, _ => exact ⟨a0 * 8 + a1 * 4 + a2 * 2 + a3, by have := e3 (by omega); have := e4 (by omega); have := e5 (by omega); have := e6 (by omega); omega⟩
  | 5, _ => exact ⟨a0 * 16 + a1 * 8 + a2 * 4 + a3 * 2 + a4, by have := e4 (by omega); have := e5 (by omega); have := e6 (by omega); omega⟩
  | 6, _ => exact ⟨a0 * 32 + a1 * 16 + a2 * 8 + a3 * 4 + a4 * 2 + a5, by have := e5 (by omega); have := e6 (by omega); omega⟩
  | 7, _ => exact ⟨a0 * 64 + a1 * 32 + a2 * 16 + a3 * 8 + a4 * 4 + a5 * 2 + a6, by have := e6 (by omega); omega⟩
theorem byteOf_snoc_or (bs : List Bool) (b : Bool) : byteOf bs (bs.length / 8) ||| b.toNat * 2 ^ (7 - bs.length % 8) = byteOf (bs ++ [b]) (bs.length / 8) := by
  have hr : bs.length % 8 < 8 := Nat.mod_lt _ (by decide)
  obtain ⟨m, hm⟩ := byteOf_next bs
  rw [byteOf_snoc_add, hm]
  cases b with
  | false => simp
  | true =>
    have hlt : Bool.toNat true * 2 ^ (7 - bs.length % 8) < 2 ^ (8 - bs.length % 8) := by
      rw [show Bool.toNat true = 1 from rfl, Nat.one_mul]
      exact Nat.pow_lt_pow_right (by decide) (by omega)
    rw [Nat.mul_comm m, ← Nat.two_pow_add_eq_or_of_lt hlt]
def nby (k : Nat) : Nat := (k + 7) / 8
/-- the bytes of bits -/
def pack (bs : List Bool) : List Nat := (List.range (nby bs.length)).map (byteOf bs)
theorem pack_length (bs : List Bool) : (pack bs).length = nby bs.length := by simp [pack]
theorem pack_get (bs : List Bool) (j : Nat) (h : j < nby bs.length) : (pack bs)[j]? = some (byteOf bs j) := by simp [pack, h]
/-- behind one more bit: a byte more, or one byte changed -/
theorem pack_snoc_new (bs : List Bool) (b : Bool) (h : bs.length % 8 = 0) : pack (bs ++ [b]) = (pack bs ++ [0]).set (bs.length / 8) (byteOf (bs ++ [b]) (bs.length / 8)) := by
  have hn : nby bs.length = bs.length / 8 := by unfold nby; omega
  have hn1 : nby (bs ++ [b]).length = bs.length / 8 + 1 := by unfold nby; simp; omega
  apply List.ext_getElem?
  intro j
  rw [List.getElem?_set]
  rcases Nat.lt_trichotomy j (bs.length / 8) with hj | hj | hj
  · rw [pack_get _ j (by omega), if_neg (by omega), List.getElem?_append_left (by rw [pack_length]; omega), pack_get _ j (by omega), byteOf_snoc_other _ _ _ (by omega)]
  · subst hj
    rw [pack_get _ _ (by omega), if_pos rfl, if_pos (by simp [pack_length]; omega)]
  · rw [List.getElem?_eq_none (by rw [pack_length]; omega), if_neg (by omega), List.getElem?_eq_none (by simp [pack_length]; omega)]
theorem pack_snoc_old (bs : List Bool) (b : Bool) (h : bs.length % 8 ≠ 0) : pack (bs ++ [b]) = (pack bs).set (bs.length / 8) (byteOf (bs ++ [b]) (bs.length / 8)) := by
  have hn : nby bs.length = bs.length / 8 + 1 := by unfold nby; omega
  have hn1 : nby (bs ++ [b]).length = bs.length / 8 + 1 := by unfold nby; simp; omega
  apply List.ext_getElem?
  intro j
  rw [List.getElem?_set]
  rcases Nat.lt_trichotomy j (bs.length / 8) with hj | hj | hj
  · rw [pack_get _ j (by omega), if_neg (by omega), pack_get _ j (by omega), byteOf_snoc_other _ _ _ (by omega)]
  · subst hj
    rw [pack_get _ _ (by omega), if_pos rfl, if_pos (by rw [pack_length]; omega)]
  · rw [List.getElem?_eq_none (by rw [pack_length]; omega), if_neg (by omega), List.getElem?_eq_none (by rw [pack_length]; omega)]
/-- bits of a string -/
def byt (s : ByteArray) (i : Nat) : Nat := (s.data.toList.getD i 0).toNat
def bit (s : ByteArray) (i : Nat) : Bool := (byt s (i / 8)).testBit (7 - i % 8)
def val (s : ByteArray) (at_ : Nat) : Nat → Nat
  | 0 => 0
  | k + 1 => 2 * val s at_ k + (bit s (at_ + k)).toNat
theorem val_lt (s : ByteArray) (a k : Nat) : val s a k < 2 ^ k := by
  induction k with
  | zero => simp [val]
  | succ k ih =>
    have : (bit s (a + k)).toNat ≤ 1 := by cases bit s (a + k) <;> decide
    rw [val, Nat.pow_succ]; omega
/-- a reader: the next bit, none behind an error -/
def uns (s : ByteArray) (k : Nat) : Option Nat → Nat × Option Nat
  | none => (0, none)
  | some a => if 8 * s.size < a + k then (0, none) else (val s a k, some (a + k))
theorem uns_lt (s : ByteArray) (k : Nat) (st : Option Nat) : (uns s k st).1 < 2 ^ k := by
  have hp : 0 < 2 ^ k := Nat.two_pow_pos k
  cases st with
  | none => simpa [uns] using hp
  | some a => unfold uns; dsimp only; split; exact hp; exact val_lt s a k
end Cp
end Go.Proofs.Ytgdkehnakopnnaa
