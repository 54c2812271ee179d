/- Package compress writes a header. -/
import Derived.Test.YtgdkehnakopnnaaCpE
import Derived.Deep.RegionHeld3
namespace Go.Proofs.Ytgdkehnakopnnaa
open Go Go.RowKit Go.Sort
namespace Cp
open Mm
theorem Apart.of_below {base B : Nat} {w w' : World} (h : Below w.heap.size w w') (hb : base ≤ w.heap.size) : Apart base B w w' :=
  ⟨h.os, h.tape, h.output, h.size, fun k hk _ => h.block k (by omega)⟩
theorem WrIs.keep {w w' : World} {base B : Nat} {bs : List Bool} (h : WrIs w base B bs) (hb : Below w.heap.size w w') : WrIs w' base B bs := by
  obtain ⟨v, hV⟩ := h
  exact ⟨v, hV.blk.keep hb, owns_keep hV.own hb, hV.lt⟩
theorem RwIs.keep {w w' : World} {base B : Nat} {bs : List Bool} (h : RwIs w base B bs) (hb : Below w.heap.size w w') : RwIs w' base B bs := by
  obtain ⟨v, hV⟩ := h
  exact ⟨v, hV.blk.keep hb, owns_keep hV.own hb, hV.lt⟩
/-- where the writing stands: an elder world W0, and the writer -/
structure WS (W0 w : World) (base B : Nat) (bs : List Bool) : Prop where
  below : Below W0.heap.size W0 w
  far : W0.heap.size ≤ B
  lt : B < base
  base_le : base ≤ w.heap.size
  wr : WrIs w base B bs
theorem WS.next {W0 w w' : World} {base B : Nat} {bs bs' : List Bool} (h : WS W0 w base B bs) (hA : Apart base B w w') (hW : WrIs w' base B bs') : WS W0 w' base B bs' :=
  ⟨h.below.trans (hA.below h.far (by have := h.far; have := h.lt; omega)), h.far, h.lt, Nat.le_trans h.base_le hA.size, hW⟩
theorem WS.keep {W0 w w' : World} {base B : Nat} {bs : List Bool} (h : WS W0 w base B bs) (hb : Below w.heap.size w w') : WS W0 w' base B bs :=
  h.next (.of_below hb h.base_le) (h.wr.keep hb)
set_option maxRecDepth 100000 in
set_option maxHeartbeats 4000000 in
theorem near_any (p : Int) (w : World) (hp : 0 ≤ p ∧ p ≤ 65535) : Calls Try.prog 92 #[.int .i64 p] w fun e w' => e = .returned (.bool (near p)) ∧ w = w' := by
  unfold near
  go_enter Try.func92, Try.ntmps92
  go_wp2_with (go_at_call 41; refine (in_any _ _ _).mono ?_; rintro e w' ⟨rfl, rfl⟩)
  go_ret
  exact ⟨rfl, rfl⟩
/-- one call of the writer's Unsigned -/
theorem ws_uns {W0 w : World} {base B : Nat} {bs : List Bool} (h : WS W0 w base B bs) (k n : Nat) (h1 : 1 ≤ k) (hk : k ≤ 63) (hn : n < 2 ^ k) (hl : bs.length ≤ 1000) :
    Calls Try.prog 61 #[.pointer (some ⟨B, 0, none⟩), .int .i64 k, .int .i64 n] w fun e w' => e = .returned (.tuple #[]) ∧ Apart base B w w' ∧ WS W0 w' base B (bs ++ bitsOf k n) :=
  (unsigned_any k n base B bs w h1 hk hn h.wr h.base_le (by omega)).mono fun _ _ ⟨e, hA, hW⟩ => ⟨e, hA, h.next hA hW⟩
theorem ws_flag {W0 w : World} {base B : Nat} {bs : List Bool} (h : WS W0 w base B bs) (b : Bool) (hl : bs.length ≤ 1000) :
    Calls Try.prog 60 #[.pointer (some ⟨B, 0, none⟩), .bool b] w fun e w' => e = .returned (.tuple #[]) ∧ Apart base B w w' ∧ WS W0 w' base B (bs ++ [b]) :=
  (flag_any b base B bs w h.wr h.base_le (by omega)).mono fun _ _ ⟨e, hA, hW⟩ => ⟨e, hA, h.next hA hW⟩
def WsPost (W0 : World) (base B : Nat) (bs : List Bool) (w : World) (e : Ending) (w' : World) : Prop := e = .returned (.tuple #[]) ∧ Apart base B w w' ∧ WS W0 w' base B bs
set_option maxRecDepth 100000 in
set_option maxHeartbeats 8000000 in
theorem writeAddress_any (W0 w : World) (base B : Nat) (bs : List Bool) (A : Option Addr) (n c : Nat) (ps : List ByteArray) (a : ByteArray) (hs : CtxS W0 A n ps) (h : WS W0 w base B bs) (hl : bs.length ≤ 300) (ha : a.size = 4) (hok : ctxOk ps = true) :
    Calls Try.prog 66 #[.pointer (some ⟨B, 0, none⟩), .slice A n c, .string a] w (WsPost W0 base B (bs ++ encA ps a) w) := by
  have hf := Lib.hid (find_any A n c ps a w (hs.keep h.below))
  have hbd : -1 ≤ fndA ps a ∧ fndA ps a < (ps.length : Int) := fnd_bd ps a ps.length
  have hlen := hs.els.len
  have h8 := ctxOk_len hok
  have hmem := ctxOk_mem hok
  have hE : Hid (encA ps a = headA ps a ++ bytesB (tailA ps a)) := rfl
  have hH : Hid (headA ps a = if 0 ≤ fndA ps a then [true] ++ bitsOf 3 (fndA ps a).toNat else [false]) := rfl
  have hT : Hid (tailA ps a = if 0 ≤ fndA ps a then a.data.toList.drop (ps.getD (fndA ps a).toNat default).size else a.data.toList) := rfl
  have hHl := (headA_len ps a).1
  have hTl := tailA_len ps a
  generalize encA ps a = EA at *
  generalize headA ps a = HA at *
  generalize tailA ps a = TA at *
  generalize fndA ps a = I at *
  have had : a.data.toList.length = 4 := by rw [← ha]; simp
  replace hs := Lib.hid hs
  replace h := Lib.hid h
  replace hok := Lib.hid hok
  replace ha := Lib.hid ha
  replace hmem := Lib.hid hmem
  replace had := Lib.hid had
  go_enter Try.func66, Try.ntmps66
  go_wp2_with fail
  refine hf.out.mono ?_
  rintro e w1 ⟨rfl, hb⟩
  have HS1 := Lib.hid (h.out.keep hb)
  have HA1 := Lib.hid (Apart.of_below (B := B) hb h.out.base_le)
  replace hb := Lib.hid hb
  clear hf
  go_wp2_with fail
  have cf := Lib.hid (ws_flag HS1.out (decide (0 ≤ I)) (by omega))
  refine cf.out.mono ?_
  rintro e w2 ⟨rfl, hA2, HS2⟩
  clear cf
  replace HA1 := Lib.hid (HA1.out.trans hA2)
  replace hA2 := Lib.hid hA2
  replace HS2 := Lib.hid HS2
  go_upto_if 16 with fail
  go_cut [2] (fun s2 wx => ∃ s : ByteArray, s2 = .string s ∧ Hid (s.data.toList = TA) ∧ Hid (WS W0 wx base B (bs ++ HA)) ∧ Hid (Apart base B w wx) ∧ s.size ≤ 4)
  case first =>
    by_cases hi : 0 ≤ I
    · obtain ⟨i, rfl⟩ := Int.eq_ofNat_of_zero_le hi
      have hil : i < ps.length := by omega
      rw [if_pos hi, show ((i : Int)).toNat = i by omega] at hT
      have hH2 := hH.out
      rw [if_pos hi, show ((i : Int)).toNat = i by omega] at hH2
      have hd : decide (0 ≤ (i : Int)) = true := decide_eq_true hi
      have cu := Lib.hid (ws_uns HS2.out 3 i (by omega) (by omega) (by omega) (by simp; omega))
      replace hH2 := Lib.hid hH2
      replace hd := Lib.hid hd
      go_wp2_with fail
      refine cu.out.mono ?_
      rintro e w3 ⟨rfl, hA3, HS3⟩
      clear cu
      replace HA1 := Lib.hid (HA1.out.trans hA3)
      obtain ⟨b, off, rfl⟩ := hs.out.els.addr (by omega)
      obtain ⟨kc, _⟩ := (hs.out.keep HS3.below).elem (show i < n by omega)
      have hx4 := hmem.out _ (getD_mem hil)
      generalize ps.getD i default = x at *
      have hx1 : (x.size : Int) ≤ 4 := by omega
      have hx2 : (x.size : Int) ≤ (a.size : Int) := by have := ha.out; omega
      have ha4 : (a.size : Int) = 4 := by have := ha.out; omega
      have r1 : (i : Int) < (n : Int) := by omega
      have HS4 : Hid (WS W0 w3 base B (bs ++ HA)) := by
        show WS _ _ _ _ _
        rw [hH2.out, ← List.append_assoc]
        have := HS3
        rw [hd.out] at this
        exact this
      have hs2 : Hid ((a.extract x.size a.size).data.toList = TA) := by show _ = _; rw [Lib.extract_data, List.take_of_length_le (by rw [List.length_drop]; simp), hT.out]
      have hs3 : (a.extract x.size a.size).size ≤ 4 := by rw [ByteArray.size_extract]; have := ha.out; omega
      replace hA3 := Lib.hid hA3
      replace HS3 := Lib.hid HS3
      replace hT := Lib.hid hT
      go_wp2_with fail
      go_meet
      exact ⟨_, rfl, hs2, HS4, HA1, hs3⟩
    · have hT2 := hT.out
      rw [if_neg hi] at hT2
      have hH2 := hH.out
      rw [if_neg hi] at hH2
      have hd : decide (0 ≤ I) = false := decide_eq_false hi
      have HS4 : Hid (WS W0 w2 base B (bs ++ HA)) := by
        show WS _ _ _ _ _
        rw [hH2]
        have := HS2.out
        rw [hd] at this
        exact this
      have hs3 : a.size ≤ 4 := by have := ha.out; omega
      replace hT2 := Lib.hid hT2
      replace hH2 := Lib.hid hH2
      replace hd := Lib.hid hd
      go_wp2_with fail
      go_meet
      exact ⟨_, rfl, hT2.symm, HS4, HA1, hs3⟩
  case rest =>
    obtain ⟨s, rfl, hsT, HS4, HA4, hs4⟩ := hcut
    generalize wc = wa at *
    clear HS1 HA1 HS2 hH hT hbd
    have hsl : s.data.toList.length = s.size := by simp
    have hsm : (s.size : Int) ≤ 4 := by omega
    replace hsl := Lib.hid hsl
    go_wp2_with fail
    go_loopw [7, 30] (fun _ i wr => ∃ k : Nat, k ≤ s.size ∧ i = .int .i64 k ∧ Hid (WS W0 wr base B (bs ++ HA ++ bytesB (s.data.toList.take k))) ∧ Hid (Apart base B w wr)) (fun _ i _ => s.size - (intOf i).toNat)
    case atStart => exact ⟨0, by omega, rfl, by show WS _ _ _ _ _; simpa [bytesB] using HS4.out, HA4⟩
    case round =>
      obtain ⟨k, hk, rfl, HW, HA5⟩ := hrel
      by_cases hlt : k < s.size
      · have hsn := bytesB_snoc s.data.toList k (by rw [hsl.out]; exact hlt)
        have hbl : (bytesB (s.data.toList.take k)).length ≤ 32 := by rw [bytesB_length, List.length_take]; omega
        have hsk : s.data.toList[k]'(by rw [hsl.out]; exact hlt) = s[k] := rfl
        rw [hsk] at hsn
        have hs8 : s[k].toNat < 256 := UInt8.toNat_lt _
        have cu := Lib.hid (ws_uns HW.out 8 s[k].toNat (by omega) (by omega) hs8 (by simp; omega))
        rw [List.append_assoc, ← hsn] at cu
        have r1 : (k : Int) < (s.size : Int) := by omega
        replace hsn := Lib.hid hsn
        replace hsk := Lib.hid hsk
        replace hbl := Lib.hid hbl
        go_wp2_with fail
        refine cu.out.mono ?_
        rintro e w6 ⟨rfl, hA6, HS6⟩
        clear cu
        have HA7 := Lib.hid (HA5.out.trans hA6)
        replace hA6 := Lib.hid hA6
        replace HS6 := Lib.hid HS6
        go_wp2_with fail
        go_roundw
        case rel => exact ⟨k + 1, by omega, by go_num, HS6, HA7⟩
        case measure => simp [intOf]; omega
      · obtain rfl : k = s.size := by omega
        have hW2 := HW.out
        rw [List.take_of_length_le (by rw [hsl.out]; exact Nat.le_refl _), hsT.out, List.append_assoc, ← hE.out] at hW2
        replace hW2 := Lib.hid hW2
        go_wp2
        go_end0
        exact ⟨rfl, HA5.out, hW2.out⟩
set_option maxRecDepth 100000 in
set_option maxHeartbeats 8000000 in
theorem writePorts_any (W0 w : World) (base B : Nat) (bs : List Bool) (p r : Int) (h : WS W0 w base B bs) (hl : bs.length ≤ 300) (hp : 0 ≤ p ∧ p ≤ 65535) (hr : 0 ≤ r ∧ r ≤ 65535) :
    Calls Try.prog 69 #[.pointer (some ⟨B, 0, none⟩), .int .i64 p, .int .i64 r] w (WsPost W0 base B (bs ++ encP p r) w) := by
  have hE : Hid (encP p r = if near p = true ∧ near r = true then bitsOf 2 3 ++ bitsOf 4 (p - 61616).toNat ++ bitsOf 4 (r - 61616).toNat
    else if p = r then bitsOf 2 1 ++ bitsOf 16 p.toNat
    else if inB (p - 61440) 255 = true then bitsOf 2 2 ++ bitsOf 8 (p - 61440).toNat ++ bitsOf 16 r.toNat
    else bitsOf 2 0 ++ bitsOf 16 p.toNat ++ bitsOf 16 r.toNat) := rfl
  have cn1 := near_any p w hp
  have cn2 := near_any r w hr
  have hn1 : near p = true → 0 ≤ p - 61616 ∧ p - 61616 ≤ 15 := fun h => inB_iff.1 h
  have hn2 : near r = true → 0 ≤ r - 61616 ∧ r - 61616 ≤ 15 := fun h => inB_iff.1 h
  generalize encP p r = EP at *
  generalize near p = n1 at *
  generalize near r = n2 at *
  obtain ⟨hp0, hp1⟩ := hp
  obtain ⟨hr0, hr1⟩ := hr
  replace h := Lib.hid h
  replace cn1 := Lib.hid cn1
  replace cn2 := Lib.hid cn2
  by_cases hn : n1 = true ∧ n2 = true
  · obtain ⟨rfl, rfl⟩ := hn
    have hE2 := hE.out
    rw [if_pos ⟨rfl, rfl⟩] at hE2
    obtain ⟨hp2, hp3⟩ := hn1 rfl
    obtain ⟨hr2, hr3⟩ := hn2 rfl
    have c1 := Lib.hid (ws_uns h.out 2 3 (by omega) (by omega) (by decide) (by omega))
    obtain ⟨P, hP⟩ := Int.eq_ofNat_of_zero_le hp2
    obtain ⟨R, hR⟩ := Int.eq_ofNat_of_zero_le hr2
    rw [hP, hR, show ((P : Int)).toNat = P by omega, show ((R : Int)).toNat = R by omega] at hE2
    have hPl : P ≤ 15 := by omega
    have hRl : R ≤ 15 := by omega
    subst hE2
    clear hE hn1 hn2
    go_enter Try.func69, Try.ntmps69
    go_wp2_with fail
    refine cn1.out.mono ?_
    rintro e w1 ⟨rfl, rfl⟩
    go_wp2_with fail
    refine cn2.out.mono ?_
    rintro e w1 ⟨rfl, rfl⟩
    clear cn1 cn2
    go_wp2_with fail
    refine c1.out.mono ?_
    rintro e w1 ⟨rfl, hA1, hS1⟩
    clear c1
    have c2 := Lib.hid (ws_uns hS1 4 P (by omega) (by omega) (by omega) (by simp [bitsOf_length]; omega))
    replace hA1 := Lib.hid hA1
    replace hS1 := Lib.hid hS1
    go_wp2_with fail
    refine c2.out.mono ?_
    rintro e w2 ⟨rfl, hA2, hS2⟩
    clear c2
    have c3 := Lib.hid (ws_uns hS2 4 R (by omega) (by omega) (by omega) (by simp [bitsOf_length]; omega))
    replace hA2 := Lib.hid hA2
    replace hS2 := Lib.hid hS2
    clear hP
    go_wp2_with fail
    refine c3.out.mono ?_
    rintro e w3 ⟨rfl, hA3, hS3⟩
    clear c3 hR
    replace hA3 := Lib.hid hA3
    replace hS3 := Lib.hid hS3
    go_wp2_with fail
    go_end0
    exact ⟨rfl, (hA1.out.trans hA2.out).trans hA3.out, by simpa only [List.append_assoc] using hS3.out⟩
  · cases n1
    · -- near p: false
      have hE2 := hE.out
      rw [if_neg hn] at hE2
      by_cases hpr : p = r
      · subst hpr
        rw [if_pos rfl] at hE2
        obtain ⟨P, hP⟩ := Int.eq_ofNat_of_zero_le hp0
        have hPl : P ≤ 65535 := by omega
        subst hP
        rw [show ((P : Int)).toNat = P by omega] at hE2
        subst hE2
        clear hE hn1 hn2 hn
        go_enter Try.func69, Try.ntmps69
        go_wp2_with fail
        refine cn1.out.mono ?_
        rintro e w1 ⟨rfl, rfl⟩
        clear cn1 cn2
        have c0 := Lib.hid (ws_uns h.out 2 1 (by omega) (by omega) (by first | decide | omega) (by first | omega | (simp [bitsOf_length]; omega)))
        go_wp2_with fail
        refine c0.out.mono ?_
        rintro e w10 ⟨rfl, hA0, hS0⟩
        clear c0
        have c1 := Lib.hid (ws_uns hS0 16 P (by omega) (by omega) (by first | decide | omega) (by first | omega | (simp [bitsOf_length]; omega)))
        replace hA0 := Lib.hid hA0
        replace hS0 := Lib.hid hS0
        go_wp2_with fail
        refine c1.out.mono ?_
        rintro e w11 ⟨rfl, hA1, hS1⟩
        clear c1
        replace hA1 := Lib.hid hA1
        replace hS1 := Lib.hid hS1
        go_wp2_with fail
        go_end0
        exact ⟨rfl, (hA0.out.trans hA1.out), by simpa only [List.append_assoc] using hS1.out⟩
      · rw [if_neg hpr] at hE2
        have dpr : (p == r) = false := by rw [beq_eq_false_iff_ne]; exact hpr
        have hr' := Int.eq_ofNat_of_zero_le hr0
        obtain ⟨R, hR⟩ := hr'
        have hRl : R ≤ 65535 := by omega
        subst hR
        by_cases hq : inB (p - 61440) 255 = true
        · rw [if_pos hq] at hE2
          have hq2 := inB_iff.1 hq
          obtain ⟨P, hP⟩ := Int.eq_ofNat_of_zero_le hq2.1
          have hPl : P ≤ 255 := by omega
          rw [hP, show ((P : Int)).toNat = P by omega, show ((R : Int)).toNat = R by omega] at hE2
          rw [hP] at hq hq2
          have ci := Lib.hid (in_any (P : Int) 255 w)
          rw [hq] at ci
          subst hE2
          clear hE hn1 hn2 hn
          replace hq := Lib.hid hq
          replace hq2 := Lib.hid hq2
          replace hpr := Lib.hid hpr
          go_enter Try.func69, Try.ntmps69
          go_wp2_with fail
          refine cn1.out.mono ?_
          rintro e w1 ⟨rfl, rfl⟩
          go_wp2_with fail
          refine ci.out.mono ?_
          rintro e w1 ⟨rfl, rfl⟩
          clear ci
          clear cn1 cn2
          have c0 := Lib.hid (ws_uns h.out 2 2 (by omega) (by omega) (by first | decide | omega) (by first | omega | (simp [bitsOf_length]; omega)))
          go_wp2_with fail
          refine c0.out.mono ?_
          rintro e w10 ⟨rfl, hA0, hS0⟩
          clear c0
          have c1 := Lib.hid (ws_uns hS0 8 P (by omega) (by omega) (by first | decide | omega) (by first | omega | (simp [bitsOf_length]; omega)))
          replace hA0 := Lib.hid hA0
          replace hS0 := Lib.hid hS0
          go_wp2_with fail
          refine c1.out.mono ?_
          rintro e w11 ⟨rfl, hA1, hS1⟩
          clear c1
          have c2 := Lib.hid (ws_uns hS1 16 R (by omega) (by omega) (by first | decide | omega) (by first | omega | (simp [bitsOf_length]; omega)))
          replace hA1 := Lib.hid hA1
          replace hS1 := Lib.hid hS1
          go_wp2_with fail
          refine c2.out.mono ?_
          rintro e w12 ⟨rfl, hA2, hS2⟩
          clear c2
          replace hA2 := Lib.hid hA2
          replace hS2 := Lib.hid hS2
          go_wp2_with fail
          go_end0
          exact ⟨rfl, ((hA0.out.trans hA1.out).trans hA2.out), by simpa only [List.append_assoc] using hS2.out⟩
        · rw [if_neg hq] at hE2
          have hq' : inB (p - 61440) 255 = false := by simpa using hq
          have ci := Lib.hid (in_any (p - 61440) 255 w)
          rw [hq'] at ci
          obtain ⟨P, hP⟩ := Int.eq_ofNat_of_zero_le hp0
          have hPl : P ≤ 65535 := by omega
          subst hP
          rw [show ((P : Int)).toNat = P by omega, show ((R : Int)).toNat = R by omega] at hE2
          replace hq' := Lib.hid hq'
          replace hq := Lib.hid hq
          subst hE2
          clear hE hn1 hn2 hn
          replace hpr := Lib.hid hpr
          go_enter Try.func69, Try.ntmps69
          go_wp2_with fail
          refine cn1.out.mono ?_
          rintro e w1 ⟨rfl, rfl⟩
          go_wp2_with fail
          refine ci.out.mono ?_
          rintro e w1 ⟨rfl, rfl⟩
          clear ci
          clear cn1 cn2
          have c0 := Lib.hid (ws_uns h.out 2 0 (by omega) (by omega) (by first | decide | omega) (by first | omega | (simp [bitsOf_length]; omega)))
          go_wp2_with fail
          refine c0.out.mono ?_
          rintro e w10 ⟨rfl, hA0, hS0⟩
          clear c0
          have c1 := Lib.hid (ws_uns hS0 16 P (by omega) (by omega) (by first | decide | omega) (by first | omega | (simp [bitsOf_length]; omega)))
          replace hA0 := Lib.hid hA0
          replace hS0 := Lib.hid hS0
          go_wp2_with fail
          refine c1.out.mono ?_
          rintro e w11 ⟨rfl, hA1, hS1⟩
          clear c1
          have c2 := Lib.hid (ws_uns hS1 16 R (by omega) (by omega) (by first | decide | omega) (by first | omega | (simp [bitsOf_length]; omega)))
          replace hA1 := Lib.hid hA1
          replace hS1 := Lib.hid hS1
          go_wp2_with fail
          refine c2.out.mono ?_
          rintro e w12 ⟨rfl, hA2, hS2⟩
          clear c2
          replace hA2 := Lib.hid hA2
          replace hS2 := Lib.hid hS2
          go_wp2_with fail
          go_end0
          exact ⟨rfl, ((hA0.out.trans hA1.out).trans hA2.out), by simpa only [List.append_assoc] using hS2.out⟩
    · -- near p: true
      have hE2 := hE.out
      obtain rfl : n2 = false := by cases n2 <;> simp_all
      rw [if_neg hn] at hE2
      by_cases hpr : p = r
      · subst hpr
        rw [if_pos rfl] at hE2
        obtain ⟨P, hP⟩ := Int.eq_ofNat_of_zero_le hp0
        have hPl : P ≤ 65535 := by omega
        subst hP
        rw [show ((P : Int)).toNat = P by omega] at hE2
        subst hE2
        clear hE hn1 hn2 hn
        go_enter Try.func69, Try.ntmps69
        go_wp2_with fail
        refine cn1.out.mono ?_
        rintro e w1 ⟨rfl, rfl⟩
        go_wp2_with fail
        refine cn2.out.mono ?_
        rintro e w1 ⟨rfl, rfl⟩
        clear cn1 cn2
        have c0 := Lib.hid (ws_uns h.out 2 1 (by omega) (by omega) (by first | decide | omega) (by first | omega | (simp [bitsOf_length]; omega)))
        go_wp2_with fail
        refine c0.out.mono ?_
        rintro e w10 ⟨rfl, hA0, hS0⟩
        clear c0
        have c1 := Lib.hid (ws_uns hS0 16 P (by omega) (by omega) (by first | decide | omega) (by first | omega | (simp [bitsOf_length]; omega)))
        replace hA0 := Lib.hid hA0
        replace hS0 := Lib.hid hS0
        go_wp2_with fail
        refine c1.out.mono ?_
        rintro e w11 ⟨rfl, hA1, hS1⟩
        clear c1
        replace hA1 := Lib.hid hA1
        replace hS1 := Lib.hid hS1
        go_wp2_with fail
        go_end0
        exact ⟨rfl, (hA0.out.trans hA1.out), by simpa only [List.append_assoc] using hS1.out⟩
      · rw [if_neg hpr] at hE2
        have dpr : (p == r) = false := by rw [beq_eq_false_iff_ne]; exact hpr
        have hr' := Int.eq_ofNat_of_zero_le hr0
        obtain ⟨R, hR⟩ := hr'
        have hRl : R ≤ 65535 := by omega
        subst hR
        by_cases hq : inB (p - 61440) 255 = true
        · rw [if_pos hq] at hE2
          have hq2 := inB_iff.1 hq
          obtain ⟨P, hP⟩ := Int.eq_ofNat_of_zero_le hq2.1
          have hPl : P ≤ 255 := by omega
          rw [hP, show ((P : Int)).toNat = P by omega, show ((R : Int)).toNat = R by omega] at hE2
          rw [hP] at hq hq2
          have ci := Lib.hid (in_any (P : Int) 255 w)
          rw [hq] at ci
          subst hE2
          clear hE hn1 hn2 hn
          replace hq := Lib.hid hq
          replace hq2 := Lib.hid hq2
          replace hpr := Lib.hid hpr
          go_enter Try.func69, Try.ntmps69
          go_wp2_with fail
          refine cn1.out.mono ?_
          rintro e w1 ⟨rfl, rfl⟩
          go_wp2_with fail
          refine cn2.out.mono ?_
          rintro e w1 ⟨rfl, rfl⟩
          go_wp2_with fail
          refine ci.out.mono ?_
          rintro e w1 ⟨rfl, rfl⟩
          clear ci
          clear cn1 cn2
          have c0 := Lib.hid (ws_uns h.out 2 2 (by omega) (by omega) (by first | decide | omega) (by first | omega | (simp [bitsOf_length]; omega)))
          go_wp2_with fail
          refine c0.out.mono ?_
          rintro e w10 ⟨rfl, hA0, hS0⟩
          clear c0
          have c1 := Lib.hid (ws_uns hS0 8 P (by omega) (by omega) (by first | decide | omega) (by first | omega | (simp [bitsOf_length]; omega)))
          replace hA0 := Lib.hid hA0
          replace hS0 := Lib.hid hS0
          go_wp2_with fail
          refine c1.out.mono ?_
          rintro e w11 ⟨rfl, hA1, hS1⟩
          clear c1
          have c2 := Lib.hid (ws_uns hS1 16 R (by omega) (by omega) (by first | decide | omega) (by first | omega | (simp [bitsOf_length]; omega)))
          replace hA1 := Lib.hid hA1
          replace hS1 := Lib.hid hS1
          go_wp2_with fail
          refine c2.out.mono ?_
          rintro e w12 ⟨rfl, hA2, hS2⟩
          clear c2
          replace hA2 := Lib.hid hA2
          replace hS2 := Lib.hid hS2
          go_wp2_with fail
          go_end0
          exact ⟨rfl, ((hA0.out.trans hA1.out).trans hA2.out), by simpa only [List.append_assoc] using hS2.out⟩
        · rw [if_neg hq] at hE2
          have hq' : inB (p - 61440) 255 = false := by simpa using hq
          have ci := Lib.hid (in_any (p - 61440) 255 w)
          rw [hq'] at ci
          obtain ⟨P, hP⟩ := Int.eq_ofNat_of_zero_le hp0
          have hPl : P ≤ 65535 := by omega
          subst hP
          rw [show ((P : Int)).toNat = P by omega, show ((R : Int)).toNat = R by omega] at hE2
          replace hq' := Lib.hid hq'
          replace hq := Lib.hid hq
          subst hE2
          clear hE hn1 hn2 hn
          replace hpr := Lib.hid hpr
          go_enter Try.func69, Try.ntmps69
          go_wp2_with fail
          refine cn1.out.mono ?_
          rintro e w1 ⟨rfl, rfl⟩
          go_wp2_with fail
          refine cn2.out.mono ?_
          rintro e w1 ⟨rfl, rfl⟩
          go_wp2_with fail
          refine ci.out.mono ?_
          rintro e w1 ⟨rfl, rfl⟩
          clear ci
          clear cn1 cn2
          have c0 := Lib.hid (ws_uns h.out 2 0 (by omega) (by omega) (by first | decide | omega) (by first | omega | (simp [bitsOf_length]; omega)))
          go_wp2_with fail
          refine c0.out.mono ?_
          rintro e w10 ⟨rfl, hA0, hS0⟩
          clear c0
          have c1 := Lib.hid (ws_uns hS0 16 P (by omega) (by omega) (by first | decide | omega) (by first | omega | (simp [bitsOf_length]; omega)))
          replace hA0 := Lib.hid hA0
          replace hS0 := Lib.hid hS0
          go_wp2_with fail
          refine c1.out.mono ?_
          rintro e w11 ⟨rfl, hA1, hS1⟩
          clear c1
          have c2 := Lib.hid (ws_uns hS1 16 R (by omega) (by omega) (by first | decide | omega) (by first | omega | (simp [bitsOf_length]; omega)))
          replace hA1 := Lib.hid hA1
          replace hS1 := Lib.hid hS1
          go_wp2_with fail
          refine c2.out.mono ?_
          rintro e w12 ⟨rfl, hA2, hS2⟩
          clear c2
          replace hA2 := Lib.hid hA2
          replace hS2 := Lib.hid hS2
          go_wp2_with fail
          go_end0
          exact ⟨rfl, ((hA0.out.trans hA1.out).trans hA2.out), by simpa only [List.append_assoc] using hS2.out⟩
/-- where write stands: its boxes, and the writer -/
structure Pc (W0 w : World) (base B bl bh b5 : Nat) (A : Option Addr) (n c : Nat) (h : Hdr) (bs : List Bool) : Prop where
  ws : WS W0 w base B bs
  l : Blk w bl #[.slice A n c] 22
  hd : Blk w bh (hdrC h) 24
  p5 : Blk w b5 #[.pointer (some ⟨B, 0, none⟩)] 54
  ll : bl < base ∧ bl ≠ B
  lh : bh < base ∧ bh ≠ B
  l5 : b5 < base ∧ b5 ≠ B
theorem Pc.next {W0 w w' : World} {base B bl bh b5 : Nat} {A : Option Addr} {n c : Nat} {h : Hdr} {bs bs' : List Bool} (p : Pc W0 w base B bl bh b5 A n c h bs) (hA : Apart base B w w') (hS : WS W0 w' base B bs') : Pc W0 w' base B bl bh b5 A n c h bs' :=
  ⟨hS, hA.blk p.l p.ll.1 p.ll.2, hA.blk p.hd p.lh.1 p.lh.2, hA.blk p.p5 p.l5.1 p.l5.2, p.ll, p.lh, p.l5⟩
section
variable {W0 w : World} {base B bl bh b5 : Nat} {A : Option Addr} {n c : Nat} {h : Hdr} {bs : List Bool}
set_option maxRecDepth 100000 in
set_option maxHeartbeats 8000000 in
theorem write1_any (p : Pc W0 w base B bl bh b5 A n c h bs) (hl : bs.length ≤ 200) (g : Good h) :
    Calls Try.prog 59 #[.pointer (some ⟨b5, 0, none⟩), .pointer (some ⟨bh, 0, none⟩)] w (WsPost W0 base B (bs ++ encC h.cls) w) := by
  have k5 := p.p5.cell 0
  have kh : w.cell? ⟨bh, 0, none⟩ = some (.int .i64 h.cls) := p.hd.cell 0
  have hE : Hid (encC h.cls = [h.cls != 0] ++ (if h.cls ≠ 0 then bitsOf 8 h.cls.toNat else [])) := rfl
  obtain ⟨C, hC⟩ := Int.eq_ofNat_of_zero_le g.cls.1
  have hCl : C ≤ 255 := by have := g.cls.2; omega
  generalize encC h.cls = E at *
  rw [hC] at kh hE
  have c0 := Lib.hid (ws_flag p.ws ((C : Int) != 0) (by omega))
  by_cases hz : (C : Int) = 0
  · have d : ((C : Int) != 0) = false := by rw [bne_eq_false_iff_eq]; exact hz
    have hE2 := hE.out
    rw [if_neg (by simpa using hz), d] at hE2
    rw [d] at c0
    replace p := Lib.hid p
    replace hE2 := Lib.hid hE2
    replace hC := Lib.hid hC
    replace hz := Lib.hid hz
    go_enter Try.func59, Try.ntmps59
    go_wp2_with fail
    refine c0.out.mono ?_
    rintro e w1 ⟨rfl, hA1, hS1⟩
    have kh1 : w1.cell? ⟨bh, 0, none⟩ = some (.int .i64 (C : Int)) := by have := (p.out.next hA1 hS1).hd.cell 0; rw [this]; show some (Value.int _ h.cls) = _; rw [hC.out]
    clear c0 k5 kh
    replace hA1 := Lib.hid hA1
    replace hS1 := Lib.hid hS1
    go_wp2_with fail
    go_end0
    exact ⟨rfl, hA1.out, by rw [hE2.out]; simpa using hS1.out⟩
  · have d : ((C : Int) != 0) = true := by rw [bne_iff_ne]; exact hz
    have hE2 := hE.out
    rw [if_pos hz, d, show ((C : Int)).toNat = C by omega] at hE2
    rw [d] at c0
    replace p := Lib.hid p
    replace hE2 := Lib.hid hE2
    replace hC := Lib.hid hC
    replace hz := Lib.hid hz
    go_enter Try.func59, Try.ntmps59
    go_wp2_with fail
    refine c0.out.mono ?_
    rintro e w1 ⟨rfl, hA1, hS1⟩
    have hp1 := p.out.next hA1 hS1
    have kh1 : w1.cell? ⟨bh, 0, none⟩ = some (.int .i64 (C : Int)) := by have := hp1.hd.cell 0; rw [this]; show some (Value.int _ h.cls) = _; rw [hC.out]
    have k51 := hp1.p5.cell 0
    clear c0 k5 kh
    have c1 := Lib.hid (ws_uns hS1 8 C (by omega) (by omega) (by omega) (by simp; omega))
    replace hA1 := Lib.hid hA1
    replace hS1 := Lib.hid hS1
    replace hp1 := Lib.hid hp1
    go_wp2_with fail
    refine c1.out.mono ?_
    rintro e w2 ⟨rfl, hA2, hS2⟩
    clear c1 k51 kh1
    replace hA2 := Lib.hid hA2
    replace hS2 := Lib.hid hS2
    go_wp2_with fail
    go_end0
    exact ⟨rfl, hA1.out.trans hA2.out, by rw [hE2.out, ← List.append_assoc]; exact hS2.out⟩
set_option maxRecDepth 100000 in
set_option maxHeartbeats 8000000 in
theorem write3_any (p : Pc W0 w base B bl bh b5 A n c h bs) (hl : bs.length ≤ 200) (g : Good h) {ps : List ByteArray} (hs : CtxS W0 A n ps) (hok : ctxOk ps = true) :
    Calls Try.prog 65 #[.pointer (some ⟨b5, 0, none⟩), .pointer (some ⟨bl, 0, none⟩), .pointer (some ⟨bh, 0, none⟩)] w (WsPost W0 base B (bs ++ encA ps h.src) w) := by
  have k5 := p.p5.cell 0
  have kl := p.l.cell 0
  have kh : w.cell? ⟨bh, 2, none⟩ = some (.string h.src) := p.hd.cell 2
  have c0 := Lib.hid (writeAddress_any W0 w base B bs A n c ps h.src hs p.ws (by omega) g.src hok)
  replace p := Lib.hid p
  replace hs := Lib.hid hs
  replace g := Lib.hid g
  replace hok := Lib.hid hok
  go_enter Try.func65, Try.ntmps65
  go_wp2_with fail
  refine c0.out.mono ?_
  rintro e w1 hq
  obtain ⟨rfl, hA1, hS1⟩ := hq
  clear c0 k5 kh kl
  replace hA1 := Lib.hid hA1
  replace hS1 := Lib.hid hS1
  go_wp2_with fail
  go_end0
  exact ⟨rfl, hA1.out, hS1.out⟩
set_option maxRecDepth 100000 in
set_option maxHeartbeats 8000000 in
theorem write4_any (p : Pc W0 w base B bl bh b5 A n c h bs) (hl : bs.length ≤ 200) (g : Good h) {ps : List ByteArray} (hs : CtxS W0 A n ps) (hok : ctxOk ps = true) :
    Calls Try.prog 67 #[.pointer (some ⟨b5, 0, none⟩), .pointer (some ⟨bl, 0, none⟩), .pointer (some ⟨bh, 0, none⟩)] w (WsPost W0 base B (bs ++ encA ps h.dst) w) := by
  have k5 := p.p5.cell 0
  have kl := p.l.cell 0
  have kh : w.cell? ⟨bh, 3, none⟩ = some (.string h.dst) := p.hd.cell 3
  have c0 := Lib.hid (writeAddress_any W0 w base B bs A n c ps h.dst hs p.ws (by omega) g.dst hok)
  replace p := Lib.hid p
  replace hs := Lib.hid hs
  replace g := Lib.hid g
  replace hok := Lib.hid hok
  go_enter Try.func67, Try.ntmps67
  go_wp2_with fail
  refine c0.out.mono ?_
  rintro e w1 hq
  obtain ⟨rfl, hA1, hS1⟩ := hq
  clear c0 k5 kh kl
  replace hA1 := Lib.hid hA1
  replace hS1 := Lib.hid hS1
  go_wp2_with fail
  go_end0
  exact ⟨rfl, hA1.out, hS1.out⟩
set_option maxRecDepth 100000 in
set_option maxHeartbeats 8000000 in
theorem write6_any (p : Pc W0 w base B bl bh b5 A n c h bs) (hl : bs.length ≤ 200) (g : Good h) :
    Calls Try.prog 70 #[.pointer (some ⟨bh, 0, none⟩), .pointer (some ⟨b5, 0, none⟩)] w (WsPost W0 base B (bs ++ encN h.len) w) := by
  have k5 := p.p5.cell 0
  have kh : w.cell? ⟨bh, 6, none⟩ = some (.int .i64 h.len) := p.hd.cell 6
  have hE : Hid (encN h.len = [decide (63 < h.len)] ++ (if 63 < h.len then bitsOf 12 h.len.toNat else bitsOf 6 h.len.toNat)) := rfl
  obtain ⟨C, hC⟩ := Int.eq_ofNat_of_zero_le g.len.1
  have hCl : C ≤ 4095 := by have := g.len.2; omega
  generalize encN h.len = E at *
  rw [hC] at kh hE
  rw [show ((C : Int)).toNat = C by omega] at hE
  have c0 := Lib.hid (ws_flag p.ws (decide ((63 : Int) < (C : Int))) (by omega))
  by_cases hz : (63 : Int) < (C : Int)
  all_goals
    have hE2 := hE.out
    first | rw [if_pos hz, decide_eq_true hz] at hE2 | rw [if_neg hz, decide_eq_false hz] at hE2
    first | rw [decide_eq_true hz] at c0 | rw [decide_eq_false hz] at c0
    replace p := Lib.hid p
    replace hE2 := Lib.hid hE2
    replace hC := Lib.hid hC
    go_enter Try.func70, Try.ntmps70
    go_wp2_with fail
    refine c0.out.mono ?_
    rintro e w1 ⟨rfl, hA1, hS1⟩
    have hp1 := p.out.next hA1 hS1
    have kh1 : w1.cell? ⟨bh, 6, none⟩ = some (.int .i64 (C : Int)) := by have := hp1.hd.cell 6; rw [this]; show some (Value.int _ h.len) = _; rw [hC.out]
    have k51 := hp1.p5.cell 0
    clear c0 k5 kh
    first
      | have c1 := Lib.hid (ws_uns hS1 6 C (by omega) (by omega) (by omega) (by simp; omega))
      | have c1 := Lib.hid (ws_uns hS1 12 C (by omega) (by omega) (by omega) (by simp; omega))
    replace hA1 := Lib.hid hA1
    replace hS1 := Lib.hid hS1
    replace hp1 := Lib.hid hp1
    go_wp2_with fail
    refine c1.out.mono ?_
    rintro e w2 ⟨rfl, hA2, hS2⟩
    clear c1 k51 kh1
    replace hA2 := Lib.hid hA2
    replace hS2 := Lib.hid hS2
    go_wp2_with fail
    go_end0
    exact ⟨rfl, hA1.out.trans hA2.out, by rw [hE2.out, ← List.append_assoc]; exact hS2.out⟩
end
end Cp
end Go.Proofs.Ytgdkehnakopnnaa
