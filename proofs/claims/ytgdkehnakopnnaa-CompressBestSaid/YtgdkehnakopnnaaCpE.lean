/- The bits of a header: plain. -/
import Derived.Test.YtgdkehnakopnnaaCpF
namespace Go.Proofs.Ytgdkehnakopnnaa
open Go Go.RowKit Go.Sort
namespace Cp
def bytesB (l : List UInt8) : List Bool := l.flatMap fun c => bitsOf 8 c.toNat
theorem bytesB_length (l : List UInt8) : (bytesB l).length = 8 * l.length := by
  induction l with
  | nil => rfl
  | cons c l ih => unfold bytesB at *; rw [List.flatMap_cons, List.length_append, ih, bitsOf_length, List.length_cons]; omega
theorem bytesB_snoc (l : List UInt8) (k : Nat) (h : k < l.length) : bytesB (l.take (k + 1)) = bytesB (l.take k) ++ bitsOf 8 l[k].toNat := by
  unfold bytesB
  rw [List.take_add_one, List.getElem?_eq_getElem h, List.flatMap_append]
  simp
def headA (ps : List ByteArray) (a : ByteArray) : List Bool := if 0 ≤ fndA ps a then [true] ++ bitsOf 3 (fndA ps a).toNat else [false]
def tailA (ps : List ByteArray) (a : ByteArray) : List UInt8 := if 0 ≤ fndA ps a then a.data.toList.drop (ps.getD (fndA ps a).toNat default).size else a.data.toList
def encA (ps : List ByteArray) (a : ByteArray) : List Bool := headA ps a ++ bytesB (tailA ps a)
def near (p : Int) : Bool := inB (p - 61616) 15
def encC (c : Int) : List Bool := [c != 0] ++ (if c ≠ 0 then bitsOf 8 c.toNat else [])
def limI (x : Int) : Int := if x = 1 then 1 else if x = 64 then 2 else if x = 255 then 3 else -1
def encL (x : Int) : List Bool := bitsOf 2 (max (limI x) 0).toNat ++ (if limI x < 0 then bitsOf 8 x.toNat else [])
def encP (p r : Int) : List Bool :=
  if near p = true ∧ near r = true then bitsOf 2 3 ++ bitsOf 4 (p - 61616).toNat ++ bitsOf 4 (r - 61616).toNat
  else if p = r then bitsOf 2 1 ++ bitsOf 16 p.toNat
  else if inB (p - 61440) 255 = true then bitsOf 2 2 ++ bitsOf 8 (p - 61440).toNat ++ bitsOf 16 r.toNat
  else bitsOf 2 0 ++ bitsOf 16 p.toNat ++ bitsOf 16 r.toNat
def encN (n : Int) : List Bool := [decide (63 < n)] ++ (if 63 < n then bitsOf 12 n.toNat else bitsOf 6 n.toNat)
def encs (ps : List ByteArray) (h : Hdr) : List (List Bool) := [encC h.cls, encL h.lim, encA ps h.src, encA ps h.dst, encP h.port h.rep, encN h.len]
def encU (ps : List ByteArray) (h : Hdr) (k : Nat) : List Bool := ((encs ps h).take k).flatten
def enc (ps : List ByteArray) (h : Hdr) : List Bool := (encs ps h).flatten
theorem encC_len (c : Int) : (encC c).length ≤ 9 ∧ 1 ≤ (encC c).length := by unfold encC; split <;> simp [bitsOf_length]
theorem encL_len (c : Int) : (encL c).length ≤ 10 ∧ 2 ≤ (encL c).length := by unfold encL; split <;> simp [bitsOf_length]
theorem encP_len (p r : Int) : (encP p r).length ≤ 34 ∧ 10 ≤ (encP p r).length := by unfold encP; split <;> (try split) <;> (try split) <;> simp [bitsOf_length]
theorem encN_len (p : Int) : (encN p).length ≤ 13 ∧ 7 ≤ (encN p).length := by unfold encN; split <;> simp [bitsOf_length]
theorem headA_len (ps : List ByteArray) (a : ByteArray) : (headA ps a).length ≤ 4 ∧ 1 ≤ (headA ps a).length := by unfold headA; split <;> simp [bitsOf_length]
theorem tailA_len (ps : List ByteArray) (a : ByteArray) : (tailA ps a).length ≤ a.size := by
  unfold tailA
  have e : a.data.toList.length = a.size := by simp
  split
  · rw [List.length_drop]; omega
  · omega
/-- what a valid header's numbers bear -/
structure Good (h : Hdr) : Prop where
  cls : 0 ≤ h.cls ∧ h.cls ≤ 255
  lim : 0 ≤ h.lim ∧ h.lim ≤ 255
  src : h.src.size = 4
  dst : h.dst.size = 4
  port : 0 ≤ h.port ∧ h.port ≤ 65535
  rep : 0 ≤ h.rep ∧ h.rep ≤ 65535
  len : 0 ≤ h.len ∧ h.len ≤ 4095
theorem inB_iff {n m : Int} : inB n m = true ↔ 0 ≤ n ∧ n ≤ m := by unfold inB; simp
theorem valid_good {h : Hdr} (hv : valid h = true) : Good h := by
  unfold valid at hv
  simp only [Bool.and_eq_true, inB_iff, Bool.not_eq_true', bne_eq_false_iff_eq] at hv
  obtain ⟨⟨⟨⟨⟨⟨h1, h2⟩, h3⟩, h4⟩, h5⟩, h6⟩, h7⟩ := hv
  exact ⟨h1, h2, by omega, by omega, h5, h6, h7⟩
theorem good_valid {h : Hdr} (g : Good h) : valid h = true := by
  unfold valid
  simp only [Bool.and_eq_true, inB_iff, Bool.not_eq_true', bne_eq_false_iff_eq]
  exact ⟨⟨⟨⟨⟨⟨g.cls, g.lim⟩, by have := g.src; omega⟩, by have := g.dst; omega⟩, g.port⟩, g.rep⟩, g.len⟩
theorem encA_len (ps : List ByteArray) (a : ByteArray) (ha : a.size = 4) : (encA ps a).length ≤ 36 := by
  unfold encA
  rw [List.length_append, bytesB_length]
  have := (headA_len ps a).1
  have := tailA_len ps a
  omega
theorem enc_len (ps : List ByteArray) (h : Hdr) (g : Good h) (k : Nat) : (encU ps h k).length ≤ 138 := by
  have h1 := encC_len h.cls
  have h2 := encL_len h.lim
  have h3 := encA_len ps h.src g.src
  have h4 := encA_len ps h.dst g.dst
  have h5 := encP_len h.port h.rep
  have h6 := encN_len h.len
  unfold encU encs
  match k with
  | 0 => simp
  | 1 => simp; omega
  | 2 => simp; omega
  | 3 => simp; omega
  | 4 => simp; omega
  | 5 => simp; omega
  | k + 6 => simp; omega
theorem encU_succ (ps : List ByteArray) (h : Hdr) (k : Nat) (hk : k < 6) : encU ps h (k + 1) = encU ps h k ++ (encs ps h).getD k [] := by
  unfold encU
  have : (encs ps h).length = 6 := rfl
  rw [List.take_add_one, List.getD_eq_getElem?_getD, List.getElem?_eq_getElem (by omega), List.flatten_append]
  simp only [Option.toList_some, List.flatten_cons, List.flatten_nil, List.append_nil, Option.getD_some]
theorem encU_all (ps : List ByteArray) (h : Hdr) : encU ps h 6 = enc ps h := rfl
end Cp
end Go.Proofs.Ytgdkehnakopnnaa
