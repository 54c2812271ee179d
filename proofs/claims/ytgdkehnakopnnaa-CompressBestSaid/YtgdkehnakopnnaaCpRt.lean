/- What was written is read again: plain. -/
import Derived.Test.YtgdkehnakopnnaaCpLaw
import Derived.WideShapes
namespace Go.Proofs.Ytgdkehnakopnnaa
open Go Go.RowKit Go.Sort
namespace Cp
open Mm
theorem bt_test (bs : List Bool) (i : Nat) : (bt bs i) % 2 = (bs.getD i false).toNat := by unfold bt; cases bs.getD i false <;> rfl
theorem byteOf_test (bs : List Bool) (j r : Nat) (hr : r < 8) : (byteOf bs j).testBit (7 - r) = bs.getD (8 * j + r) false := by
  rw [Nat.testBit_eq_decide_div_mod_eq]
  have key : byteOf bs j / 2 ^ (7 - r) % 2 = bt bs (8 * j + r) := by
    unfold byteOf
    have h := fun i => bt_le bs i
    have h0 := h (8 * j); have h1 := h (8 * j + 1); have h2 := h (8 * j + 2); have h3 := h (8 * j + 3)
    have h4 := h (8 * j + 4); have h5 := h (8 * j + 5); have h6 := h (8 * j + 6); have h7 := h (8 * j + 7)
    match r, hr with
    | 0, _ => show _ / 128 % 2 = bt bs (8 * j); omega
    | 1, _ => show _ / 64 % 2 = _; omega
    | 2, _ => show _ / 32 % 2 = _; omega
    | 3, _ => show _ / 16 % 2 = _; omega
    | 4, _ => show _ / 8 % 2 = _; omega
    | 5, _ => show _ / 4 % 2 = _; omega
    | 6, _ => show _ / 2 % 2 = _; omega
    | 7, _ => show _ / 1 % 2 = _; omega
  rw [key]
  unfold bt
  cases bs.getD (8 * j + r) false <;> rfl
theorem strOf_list (xs : List Nat) : (strOf xs).data.toList = xs.map UInt8.ofNat := by
  unfold strOf
  rw [strOfNums_data, List.map_map]
  apply List.map_congr_left
  intro x _
  show UInt8.ofNat ((x : Int)).toNat = _
  rw [show ((x : Int)).toNat = x by omega]
theorem strOf_size (xs : List Nat) : (strOf xs).size = xs.length := by
  have : (strOf xs).data.toList.length = (strOf xs).size := by simp
  rw [← this, strOf_list, List.length_map]
theorem bit_written (bs : List Bool) (more : ByteArray) (i : Nat) (h : i < 8 * nby bs.length) : bit (strOf (pack bs) ++ more) i = bs.getD i false := by
  unfold bit byt
  have hj : i / 8 < nby bs.length := by omega
  have e : (strOf (pack bs) ++ more).data.toList.getD (i / 8) 0 = UInt8.ofNat (byteOf bs (i / 8)) := by
    rw [ByteArray.data_append, Array.toList_append, List.getD_eq_getElem?_getD, List.getElem?_append_left (by rw [strOf_list, List.length_map, pack_length]; exact hj), strOf_list, List.getElem?_map, pack_get _ _ hj]
    rfl
  rw [e, UInt8.toNat_ofNat', Nat.mod_eq_of_lt (byteOf_lt _ _), byteOf_test _ _ _ (Nat.mod_lt _ (by decide))]
  congr 1
  omega
/-- from a place on a string's bits are these -/
structure Pre (d : ByteArray) (a : Nat) (bs : List Bool) : Prop where
  room : a + bs.length ≤ 8 * d.size
  bits : ∀ i, i < bs.length → bit d (a + i) = bs.getD i false
theorem Pre.drop {d : ByteArray} {a : Nat} {x y : List Bool} (h : Pre d a (x ++ y)) : Pre d (a + x.length) y := by
  refine ⟨by have := h.room; rw [List.length_append] at this; omega, fun i hi => ?_⟩
  have := h.bits (x.length + i) (by rw [List.length_append]; omega)
  rw [Nat.add_assoc, this, List.getD_eq_getElem?_getD, List.getElem?_append_right (by omega), List.getD_eq_getElem?_getD]
  congr 2
  omega
theorem val_bits (d : ByteArray) (a k n : Nat) (hn : n < 2 ^ k) (h : ∀ i, i < k → bit d (a + i) = n.testBit (k - 1 - i)) : val d a k = n := by
  have key : ∀ j, j ≤ k → val d a j = n / 2 ^ (k - j) := by
    intro j
    induction j with
    | zero => intro _; rw [Nat.sub_zero, Nat.div_eq_of_lt hn]; rfl
    | succ j ih =>
      intro hj
      rw [val, ih (by omega), h j (by omega), Nat.testBit_eq_decide_div_mod_eq]
      rw [show k - 1 - j = k - (j + 1) by omega, show k - j = (k - (j + 1)) + 1 by omega, Nat.pow_succ, ← Nat.div_div_eq_div_mul]
      generalize n / 2 ^ (k - (j + 1)) = m
      rcases Nat.mod_two_eq_zero_or_one m with e | e <;> rw [e] <;> simp <;> omega
  have := key k (Nat.le_refl _)
  rwa [Nat.sub_self, Nat.pow_zero, Nat.div_one] at this
theorem uns_pre {d : ByteArray} {a k n : Nat} {rest : List Bool} (h : Pre d a (bitsOf k n ++ rest)) (hn : n < 2 ^ k) : uns d k (some a) = (n, some (a + k)) ∧ Pre d (a + k) rest := by
  have hd := h.drop
  rw [bitsOf_length] at hd
  refine ⟨?_, hd⟩
  have hr := h.room
  rw [List.length_append, bitsOf_length] at hr
  have e : uns d k (some a) = (val d a k, some (a + k)) := if_neg (by omega)
  rw [e, val_bits d a k n hn (fun i hi => ?_)]
  rw [h.bits i (by rw [List.length_append, bitsOf_length]; omega), List.getD_eq_getElem?_getD, List.getElem?_append_left (by rw [bitsOf_length]; exact hi), bitsOf_get _ _ _ hi]
  rfl
theorem flag_pre {d : ByteArray} {a : Nat} {b : Bool} {rest : List Bool} (h : Pre d a ([b] ++ rest)) : uns d 1 (some a) = (b.toNat, some (a + 1)) ∧ Pre d (a + 1) rest := by
  have e : [b] = bitsOf 1 b.toNat := by cases b <;> rfl
  rw [e] at h
  exact uns_pre h (by cases b <;> decide)
theorem rdC_pre {d : ByteArray} {a c : Nat} {rest : List Bool} (h : Pre d a (encC (c : Int) ++ rest)) (hc : c ≤ 255) : ∃ a', rdC d (some a) = (c, some a') ∧ Pre d a' rest := by
  unfold encC at h
  unfold rdC
  by_cases hz : (c : Int) = 0
  · rw [if_neg (by simpa using hz), List.append_nil] at h
    have hb : ((c : Int) != 0) = false := by rw [bne_eq_false_iff_eq]; exact hz
    rw [hb] at h
    obtain ⟨e, hp⟩ := flag_pre h
    rw [e]
    refine ⟨a + 1, ?_, hp⟩
    rw [if_neg (by simp)]
    congr 1
    omega
  · rw [if_pos hz, List.append_assoc] at h
    have hb : ((c : Int) != 0) = true := by rw [bne_iff_ne]; exact hz
    rw [hb] at h
    obtain ⟨e, hp⟩ := flag_pre h
    rw [show ((c : Int)).toNat = c by omega] at hp
    obtain ⟨e2, hp2⟩ := uns_pre hp (by omega)
    rw [e]
    refine ⟨_, ?_, hp2⟩
    rw [if_pos (by simp)]
    exact e2
theorem rdL_pre {d : ByteArray} {a l : Nat} {rest : List Bool} (h : Pre d a (encL (l : Int) ++ rest)) (hl : l ≤ 255) : ∃ a', rdL d (some a) = (l, some a') ∧ Pre d a' rest := by
  unfold encL limI at h
  unfold rdL
  by_cases e1 : (l : Int) = 1
  · rw [if_pos e1, if_neg (by decide), List.append_nil] at h
    obtain ⟨e, hp⟩ := uns_pre h (by decide)
    rw [e]
    refine ⟨_, ?_, hp⟩
    rw [if_neg (by simp; omega), show l = 1 by omega]
    rfl
  · rw [if_neg e1] at h
    by_cases e2 : (l : Int) = 64
    · rw [if_pos e2, if_neg (by decide), List.append_nil] at h
      obtain ⟨e, hp⟩ := uns_pre h (by decide)
      rw [e]
      refine ⟨_, ?_, hp⟩
      rw [if_neg (by simp; omega), show l = 64 by omega]
      rfl
    · rw [if_neg e2] at h
      by_cases e3 : (l : Int) = 255
      · rw [if_pos e3, if_neg (by decide), List.append_nil] at h
        obtain ⟨e, hp⟩ := uns_pre h (by decide)
        rw [e]
        refine ⟨_, ?_, hp⟩
        rw [if_neg (by simp; omega), show l = 255 by omega]
        rfl
      · rw [if_neg e3, if_pos (by decide), List.append_assoc] at h
        obtain ⟨e, hp⟩ := uns_pre h (by decide)
        rw [show ((l : Int)).toNat = l by omega] at hp
        obtain ⟨e4, hp2⟩ := uns_pre hp (by omega)
        rw [e]
        refine ⟨_, ?_, hp2⟩
        rw [if_pos (by simp; omega)]
        exact e4
theorem rdN_pre {d : ByteArray} {a n : Nat} {rest : List Bool} (h : Pre d a (encN (n : Int) ++ rest)) (hn : n ≤ 4095) : ∃ a', rdN d (some a) = (n, some a') ∧ Pre d a' rest := by
  unfold encN at h
  unfold rdN
  rw [List.append_assoc] at h
  obtain ⟨e, hp⟩ := flag_pre h
  rw [e]
  by_cases hz : (63 : Int) < (n : Int)
  · rw [if_pos hz, show ((n : Int)).toNat = n by omega] at hp
    obtain ⟨e2, hp2⟩ := uns_pre hp (by omega)
    rw [decide_eq_true hz, if_pos (by simp)]
    exact ⟨_, e2, hp2⟩
  · rw [if_neg hz, show ((n : Int)).toNat = n by omega] at hp
    obtain ⟨e2, hp2⟩ := uns_pre hp (by omega)
    rw [decide_eq_false hz, if_neg (by simp)]
    exact ⟨_, e2, hp2⟩
theorem rdP_pre {d : ByteArray} {a p r : Nat} {rest : List Bool} (h : Pre d a (encP (p : Int) (r : Int) ++ rest)) (hp : p ≤ 65535) (hr : r ≤ 65535) : ∃ a', rdP d (some a) = (p, r, some a') ∧ Pre d a' rest := by
  unfold encP at h
  unfold rdP
  by_cases hn : near (p : Int) = true ∧ near (r : Int) = true
  · rw [if_pos hn, List.append_assoc, List.append_assoc] at h
    have h1 := inB_iff.1 hn.1
    have h2 := inB_iff.1 hn.2
    obtain ⟨e, q⟩ := uns_pre h (by decide)
    obtain ⟨e1, q1⟩ := uns_pre q (by omega)
    obtain ⟨e2, q2⟩ := uns_pre q1 (by omega)
    rw [e]
    dsimp only
    rw [if_pos rfl, e1]
    dsimp only
    rw [e2]
    exact ⟨_, by dsimp only; rw [show ((p : Int) - 61616).toNat + 61616 = p by omega, show ((r : Int) - 61616).toNat + 61616 = r by omega], q2⟩
  · rw [if_neg hn] at h
    by_cases hpr : (p : Int) = (r : Int)
    · rw [if_pos hpr, List.append_assoc, show ((p : Int)).toNat = p by omega] at h
      obtain ⟨e, q⟩ := uns_pre h (by decide)
      obtain ⟨e1, q1⟩ := uns_pre q (by omega)
      rw [e]
      dsimp only
      rw [if_neg (by decide), if_pos rfl, e1]
      exact ⟨_, by dsimp only; rw [show r = p by omega], q1⟩
    · rw [if_neg hpr] at h
      by_cases hq : inB ((p : Int) - 61440) 255 = true
      · rw [if_pos hq, List.append_assoc, List.append_assoc, show ((r : Int)).toNat = r by omega] at h
        have h1 := inB_iff.1 hq
        obtain ⟨e, q⟩ := uns_pre h (by decide)
        obtain ⟨e1, q1⟩ := uns_pre q (by omega)
        obtain ⟨e2, q2⟩ := uns_pre q1 (by omega)
        rw [e]
        dsimp only
        rw [if_neg (by decide), if_neg (by decide), if_pos rfl, e1]
        dsimp only
        rw [e2]
        exact ⟨_, by dsimp only; rw [show ((p : Int) - 61440).toNat + 61440 = p by omega], q2⟩
      · rw [if_neg hq, List.append_assoc, List.append_assoc, show ((r : Int)).toNat = r by omega, show ((p : Int)).toNat = p by omega] at h
        obtain ⟨e, q⟩ := uns_pre h (by decide)
        obtain ⟨e1, q1⟩ := uns_pre q (by omega)
        obtain ⟨e2, q2⟩ := uns_pre q1 (by omega)
        rw [e]
        dsimp only
        rw [if_neg (by decide), if_neg (by decide), if_neg (by decide), e1]
        dsimp only
        rw [e2]
        exact ⟨_, rfl, q2⟩
theorem one_toNat (c : UInt8) : one c.toNat = strL [c] := by
  apply WideShapes.bytes_inj
  unfold one
  rw [strOf_list]
  show [UInt8.ofNat c.toNat] = [c]
  rw [UInt8.ofNat_toNat]
theorem moreB_pre {d : ByteArray} : ∀ (l : List UInt8) (a : Nat) (y : ByteArray) (rest : List Bool), Pre d a (bytesB l ++ rest) → ∃ a', moreB d l.length (y, some a) = (y ++ strL l, some a') ∧ Pre d a' rest
  | [], a, y, rest, h => ⟨a, by show (y, some a) = _; congr 1; apply WideShapes.bytes_inj; simp [strL], h⟩
  | c :: l, a, y, rest, h => by
    have e : bytesB (c :: l) = bitsOf 8 c.toNat ++ bytesB l := by unfold bytesB; rw [List.flatMap_cons]
    rw [e, List.append_assoc] at h
    obtain ⟨e1, q1⟩ := uns_pre h (UInt8.toNat_lt c)
    obtain ⟨a', e2, q2⟩ := moreB_pre l (a + 8) (y ++ one c.toNat) rest q1
    refine ⟨a', ?_, q2⟩
    show moreB d l.length (stepB d (y, some a)) = _
    unfold stepB
    dsimp only
    rw [e1]
    dsimp only
    rw [e2]
    congr 1
    apply WideShapes.bytes_inj
    rw [one_toNat]
    simp [strL]
theorem fnd_has (ps : List ByteArray) (a : ByteArray) (k : Nat) (h : 0 ≤ fnd ps a k) : hasP a (ps.getD (fnd ps a k).toNat default) = true := by
  induction k with
  | zero => simp [fnd] at h
  | succ k ih =>
    unfold fnd at h ⊢
    split
    · rename_i hc
      rw [show ((k : Int)).toNat = k by omega]
      exact hc.1
    · rename_i hc
      rw [if_neg hc] at h
      exact ih h
theorem pAddr_pre {d : ByteArray} {a : Nat} {ps : List ByteArray} {x : ByteArray} {rest : List Bool} (h : Pre d a (encA ps x ++ rest)) (ho : ctxOk ps = true) (hx : x.size = 4) : ∃ a', pAddr d ps (some a) = (x, true, some a') ∧ Pre d a' rest := by
  unfold encA headA tailA at h
  unfold pAddr
  have hxl : x.data.toList.length = 4 := by rw [← hx]; simp
  by_cases hf : 0 ≤ fndA ps x
  · rw [if_pos hf, if_pos hf, List.append_assoc, List.append_assoc] at h
    have hb : -1 ≤ fndA ps x ∧ fndA ps x < (ps.length : Int) := fnd_bd ps x ps.length
    have hh : hasP x (ps.getD (fndA ps x).toNat default) = true := fnd_has ps x ps.length hf
    have h8 := ctxOk_len ho
    obtain ⟨i, hi⟩ := Int.eq_ofNat_of_zero_le hf
    rw [hi, show ((i : Int)).toNat = i by omega] at h hh
    have hm := ctxOk_mem ho _ (getD_mem (show i < ps.length by omega))
    obtain ⟨e, q⟩ := flag_pre h
    obtain ⟨e1, q1⟩ := uns_pre q (by omega)
    obtain ⟨a', e2, q2⟩ := moreB_pre _ _ (ps.getD i default) _ q1
    rw [e]
    dsimp only
    rw [if_pos (by decide), e1]
    dsimp only
    rw [if_neg (by omega)]
    rw [List.length_drop, hxl] at e2
    rw [e2]
    refine ⟨a', ?_, q2⟩
    dsimp only
    congr 1
    apply WideShapes.bytes_inj
    unfold hasP Lib.hasPrefix at hh
    rw [List.isPrefixOf_iff_prefix] at hh
    obtain ⟨t, ht⟩ := hh
    generalize ps.getD i default = p at *
    have hpl : p.data.toList.length = p.size := by simp
    rw [ByteArray.data_append, Array.toList_append]
    show p.data.toList ++ (List.drop p.size x.data.toList) = _
    rw [← ht, ← hpl, List.drop_left]
  · rw [if_neg hf, if_neg hf, List.append_assoc] at h
    obtain ⟨e, q⟩ := flag_pre h
    obtain ⟨a', e2, q2⟩ := moreB_pre _ _ (⟨#[]⟩ : ByteArray) _ q
    rw [e]
    dsimp only
    rw [if_neg (by decide)]
    rw [hxl] at e2
    rw [e2]
    refine ⟨a', ?_, q2⟩
    dsimp only
    congr 1
theorem pHdr_back (ps : List ByteArray) (h : Hdr) (more : ByteArray) (ho : ctxOk ps = true) (g : Good h) : pHdr (encS ps h ++ more) ps (some 0) = (h, true) := by
  obtain ⟨cls, lim, src, dst, port, rep, len⟩ := h
  obtain ⟨C, rfl⟩ := Int.eq_ofNat_of_zero_le g.cls.1
  obtain ⟨L, rfl⟩ := Int.eq_ofNat_of_zero_le g.lim.1
  obtain ⟨P, rfl⟩ := Int.eq_ofNat_of_zero_le g.port.1
  obtain ⟨R, rfl⟩ := Int.eq_ofNat_of_zero_le g.rep.1
  obtain ⟨N, rfl⟩ := Int.eq_ofNat_of_zero_le g.len.1
  have h1 : (C : Int) ≤ 255 := g.cls.2
  have h2 : (L : Int) ≤ 255 := g.lim.2
  have h3 : (P : Int) ≤ 65535 := g.port.2
  have h4 : (R : Int) ≤ 65535 := g.rep.2
  have h5 : (N : Int) ≤ 4095 := g.len.2
  have h6 : src.size = 4 := g.src
  have h7 : dst.size = 4 := g.dst
  have hp : Pre (encS ps ⟨C, L, src, dst, P, R, N⟩ ++ more) 0 (encC (C : Int) ++ (encL (L : Int) ++ (encA ps src ++ (encA ps dst ++ (encP (P : Int) (R : Int) ++ (encN (N : Int) ++ [])))))) := by
    have e : (encC (C : Int) ++ (encL (L : Int) ++ (encA ps src ++ (encA ps dst ++ (encP (P : Int) (R : Int) ++ (encN (N : Int) ++ [])))))) = enc ps ⟨C, L, src, dst, P, R, N⟩ := by unfold enc encs; simp
    rw [e]
    unfold encS
    generalize enc ps ⟨C, L, src, dst, P, R, N⟩ = bs
    refine ⟨?_, fun i hi => ?_⟩
    · rw [ByteArray.size_append, strOf_size, pack_length]
      unfold nby
      omega
    · rw [Nat.zero_add]
      exact bit_written bs more i (by unfold nby; omega)
  generalize encS ps ⟨C, L, src, dst, P, R, N⟩ ++ more = d at *
  obtain ⟨a1, e1, q1⟩ := rdC_pre hp (by omega)
  obtain ⟨a2, e2, q2⟩ := rdL_pre q1 (by omega)
  obtain ⟨a3, e3, q3⟩ := pAddr_pre q2 ho h6
  obtain ⟨a4, e4, q4⟩ := pAddr_pre q3 ho h7
  obtain ⟨a5, e5, q5⟩ := rdP_pre q4 (by omega) (by omega)
  obtain ⟨a6, e6, q6⟩ := rdN_pre q5 (by omega)
  unfold pHdr
  rw [e1]
  dsimp only
  rw [e2]
  dsimp only
  rw [e3]
  dsimp only
  rw [e4]
  dsimp only
  rw [e5]
  dsimp only
  rw [e6]
  rfl
theorem exp_back (ps : List ByteArray) (h : Hdr) (more : ByteArray) (ho : ctxOk ps = true) (g : Good h) : ExpP ps (encS ps h ++ more) = (h, more, 0) := by
  unfold ExpP
  rw [if_pos ho, pHdr_back ps h more ho g]
  dsimp only
  rw [if_pos ⟨rfl, good_valid g⟩]
  have hl : (encS ps h ++ more).data.toList = (encS ps h).data.toList ++ more.data.toList := by rw [ByteArray.data_append, Array.toList_append]
  have hpf : Lib.hasPrefix (encS ps h ++ more).data.toList (encS ps h).data.toList = true := by
    unfold Lib.hasPrefix
    rw [List.isPrefixOf_iff_prefix, hl]
    exact List.prefix_append _ _
  rw [if_pos hpf]
  congr 2
  apply WideShapes.bytes_inj
  unfold Lib.trimPrefix
  rw [if_pos hpf, hl]
  show List.drop _ _ = _
  rw [List.drop_left]
theorem headtail_len (ps : List ByteArray) (x : ByteArray) (ho : ctxOk ps = true) (hx : x.size = 4) : (encA ps x).length ≤ 33 ∧ 4 ≤ (encA ps x).length := by
  unfold encA headA tailA
  have hxl : x.data.toList.length = 4 := by rw [← hx]; simp
  by_cases hf : 0 ≤ fndA ps x
  · rw [if_pos hf, if_pos hf]
    have hb : -1 ≤ fndA ps x ∧ fndA ps x < (ps.length : Int) := fnd_bd ps x ps.length
    have hm := ctxOk_mem ho _ (getD_mem (show (fndA ps x).toNat < ps.length by omega))
    rw [List.length_append, bytesB_length, List.length_drop, hxl, List.length_append, bitsOf_length]
    simp only [List.length_singleton]
    omega
  · rw [if_neg hf, if_neg hf, List.length_append, bytesB_length, hxl]
    simp
theorem enc_bounds (ps : List ByteArray) (h : Hdr) (ho : ctxOk ps = true) (g : Good h) : (enc ps h).length ≤ 132 ∧ 21 ≤ (enc ps h).length := by
  have h1 := encC_len h.cls
  have h2 := encL_len h.lim
  have h3 := headtail_len ps h.src ho g.src
  have h4 := headtail_len ps h.dst ho g.dst
  have h5 := encP_len h.port h.rep
  have h6 := encN_len h.len
  unfold enc encs
  simp only [List.flatten_cons, List.flatten_nil, List.append_nil, List.length_append]
  omega
theorem encS_size (ps : List ByteArray) (h : Hdr) : (encS ps h).size = nby (enc ps h).length := by unfold encS; rw [strOf_size, pack_length]
end Cp
end Go.Proofs.Ytgdkehnakopnnaa
