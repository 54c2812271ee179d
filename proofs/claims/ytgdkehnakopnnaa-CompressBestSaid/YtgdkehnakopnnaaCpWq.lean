/- The reference writes a header. -/
import Derived.Test.YtgdkehnakopnnaaCpWr2
namespace Go.Proofs.Ytgdkehnakopnnaa
open Go Go.RowKit Go.Sort
namespace Cp
open Mm
/-- where the reference's writing stands -/
structure RS (W0 w : World) (base B : Nat) (bs : List Bool) : Prop where
  below : Below W0.heap.size W0 w
  far : W0.heap.size ≤ B
  lt : B < base
  base_le : base ≤ w.heap.size
  wr : RwIs w base B bs
theorem RS.next {W0 w w' : World} {base B : Nat} {bs bs' : List Bool} (h : RS W0 w base B bs) (hA : Apart base B w w') (hW : RwIs w' base B bs') : RS W0 w' base B bs' :=
  ⟨h.below.trans (hA.below h.far (by have := h.far; have := h.lt; omega)), h.far, h.lt, Nat.le_trans h.base_le hA.size, hW⟩
theorem rs_uns {W0 w : World} {base B : Nat} {bs : List Bool} (h : RS W0 w base B bs) (k n : Nat) (h1 : 1 ≤ k) (hk : k ≤ 63) (hn : n < 2 ^ k) (hl : bs.length ≤ 1000) :
    Calls Try.prog 74 #[.pointer (some ⟨B, 0, none⟩), .int .i64 k, .int .i64 n] w fun e w' => e = .returned (.tuple #[]) ∧ Apart base B w w' ∧ RS W0 w' base B (bs ++ bitsOf k n) :=
  (rUnsigned_any k n base B bs w h1 hk hn h.wr h.base_le (by omega)).mono fun _ _ ⟨e, hA, hW⟩ => ⟨e, hA, h.next hA hW⟩
theorem rs_flag {W0 w : World} {base B : Nat} {bs : List Bool} (h : RS W0 w base B bs) (b : Bool) (hl : bs.length ≤ 1000) :
    Calls Try.prog 73 #[.pointer (some ⟨B, 0, none⟩), .bool b] w fun e w' => e = .returned (.tuple #[]) ∧ Apart base B w w' ∧ RS W0 w' base B (bs ++ [b]) :=
  (rFlag_any b base B bs w h.wr h.base_le (by omega)).mono fun _ _ ⟨e, hA, hW⟩ => ⟨e, hA, h.next hA hW⟩
def RsPost (W0 : World) (base B : Nat) (bs : List Bool) (w : World) (e : Ending) (w' : World) : Prop := e = .returned (.tuple #[]) ∧ Apart base B w w' ∧ RS W0 w' base B bs
set_option maxRecDepth 100000 in
set_option maxHeartbeats 8000000 in
theorem address_any (W0 w : World) (base B : Nat) (bs : List Bool) (A : Option Addr) (n c : Nat) (ps : List ByteArray) (a : ByteArray) (hs : CtxS W0 A n ps) (h : RS W0 w base B bs) (hl : bs.length ≤ 300) (ha : a.size = 4) (hok : ctxOk ps = true) :
    Calls Try.prog 75 #[.pointer (some ⟨B, 0, none⟩), .slice A n c, .string a] w (RsPost W0 base B (bs ++ encA ps a) w) := by
  have hf := rFind_any A n c ps a w (hs.keep h.below)
  have hFR : FindR ps a = (max (fndA ps a) 0, decide (0 ≤ fndA ps a)) := if_pos ⟨hok, ha⟩
  rw [hFR] at hf
  replace hf := Lib.hid hf
  have hbd : -1 ≤ fndA ps a ∧ fndA ps a < (ps.length : Int) := fnd_bd ps a ps.length
  have hlen := hs.els.len
  have h8 := ctxOk_len hok
  have hmem := ctxOk_mem hok
  have hE : Hid (encA ps a = headA ps a ++ bytesB (tailA ps a)) := rfl
  have hH : Hid (headA ps a = if 0 ≤ fndA ps a then [true] ++ bitsOf 3 (fndA ps a).toNat else [false]) := rfl
  have hT : Hid (tailA ps a = if 0 ≤ fndA ps a then a.data.toList.drop (ps.getD (fndA ps a).toNat default).size else a.data.toList) := rfl
  have hHl := (headA_len ps a).1
  have hTl := tailA_len ps a
  clear hFR
  generalize encA ps a = EA at *
  generalize headA ps a = HA at *
  generalize tailA ps a = TA at *
  generalize fndA ps a = I at *
  have had : a.data.toList.length = 4 := by rw [← ha]; simp
  replace hs := Lib.hid hs
  replace h := Lib.hid h
  replace hok := Lib.hid hok
  replace ha := Lib.hid ha
  replace hmem := Lib.hid hmem
  replace had := Lib.hid had
  go_enter Try.func75, Try.ntmps75
  go_wp2_with fail
  refine hf.out.mono ?_
  rintro e w1 ⟨rfl, rfl⟩
  clear hf
  go_wp2_with fail
  have cf := Lib.hid (rs_flag h.out (decide (0 ≤ I)) (by omega))
  refine cf.out.mono ?_
  rintro e w2 ⟨rfl, hA2, HS2⟩
  clear cf
  replace hA2 := Lib.hid hA2
  replace HS2 := Lib.hid HS2
  go_upto_if 19 with fail
  go_cut [6, 7, 8] (fun _ _ s8 wx => ∃ F : Nat, s8 = .int .i64 F ∧ F ≤ 4 ∧ Hid (a.data.toList.drop F = TA) ∧ Hid (RS W0 wx base B (bs ++ HA)) ∧ Hid (Apart base B w wx))
  case first =>
    by_cases hi : 0 ≤ I
    · obtain ⟨i, rfl⟩ := Int.eq_ofNat_of_zero_le hi
      have hil : i < ps.length := by omega
      rw [if_pos hi, show ((i : Int)).toNat = i by omega] at hT
      have hH2 := hH.out
      rw [if_pos hi, show ((i : Int)).toNat = i by omega] at hH2
      have hd : decide (0 ≤ (i : Int)) = true := decide_eq_true hi
      have hmx : max (i : Int) 0 = (i : Int) := by omega
      have cu := Lib.hid (rs_uns HS2.out 3 i (by omega) (by omega) (by omega) (by simp; omega))
      replace hH2 := Lib.hid hH2
      go_wp2_with fail
      refine cu.out.mono ?_
      rintro e w3 ⟨rfl, hA3, HS3⟩
      clear cu
      have HA1 := Lib.hid (hA2.out.trans hA3)
      obtain ⟨b, off, rfl⟩ := hs.out.els.addr (by omega)
      obtain ⟨kc, _⟩ := (hs.out.keep HS3.below).elem (show i < n by omega)
      have hx4 := hmem.out _ (getD_mem hil)
      generalize ps.getD i default = x at *
      have hx1 : (x.size : Int) ≤ 4 := by omega
      have r1 : (i : Int) < (n : Int) := by omega
      have HS4 : Hid (RS W0 w3 base B (bs ++ HA)) := by
        show RS _ _ _ _ _
        rw [hH2.out, ← List.append_assoc]
        have := HS3
        rw [hd] at this
        exact this
      have hs2 : Hid (a.data.toList.drop x.size = TA) := hT.out.symm
      replace hA3 := Lib.hid hA3
      replace HS3 := Lib.hid HS3
      replace hT := Lib.hid hT
      replace hd := Lib.hid hd
      go_wp2_with fail
      go_meet
      exact ⟨_, rfl, hx4.2, hs2, HS4, HA1⟩
    · have hT2 := hT.out
      rw [if_neg hi] at hT2
      have hH2 := hH.out
      rw [if_neg hi] at hH2
      have hd : decide (0 ≤ I) = false := decide_eq_false hi
      have HS4 : Hid (RS W0 w2 base B (bs ++ HA)) := by
        show RS _ _ _ _ _
        rw [hH2]
        have := HS2.out
        rw [hd] at this
        exact this
      replace hT2 := Lib.hid hT2
      replace hH2 := Lib.hid hH2
      go_wp2_with fail
      go_meet
      exact ⟨0, rfl, by omega, by show _ = _; rw [hT2.out]; rfl, HS4, hA2⟩
  case rest =>
    obtain ⟨F, rfl, hF4, hsT, HS4, HA4⟩ := hcut
    generalize wc = wa at *
    clear hA2 HS2 hH hT hbd
    have ha4 : (a.size : Int) = 4 := by have := ha.out; omega
    go_wp2_with fail
    go_loopw [9] (fun i wr => ∃ k : Nat, k ≤ 4 - F ∧ i = .int .i64 ((F + k : Nat) : Int) ∧ Hid (RS W0 wr base B (bs ++ HA ++ bytesB (TA.take k))) ∧ Hid (Apart base B w wr)) (fun i _ => 4 - (intOf i).toNat)
    case atStart => exact ⟨0, by omega, by simp, by show RS _ _ _ _ _; simpa [bytesB] using HS4.out, HA4⟩
    case round =>
      obtain ⟨k, hk, rfl, HW, HA5⟩ := hrel
      have hTlen : TA.length = 4 - F := by rw [← hsT.out, List.length_drop, had.out]
      by_cases hlt : F + k < 4
      · have hsn := bytesB_snoc TA k (by rw [hTlen]; omega)
        have hbl : (bytesB (TA.take k)).length ≤ 32 := by rw [bytesB_length, List.length_take]; omega
        obtain ⟨q, hq⟩ : ∃ q, q = F + k := ⟨_, rfl⟩
        have hqs : q < a.size := by have := ha.out; omega
        have hsk : TA[k]'(by rw [hTlen]; omega) = a[q] := by
          have : TA[k]? = some a[q] := by
            rw [← hsT.out, List.getElem?_drop, ← hq, List.getElem?_eq_getElem (by rw [had.out]; omega)]
            rfl
          rw [List.getElem?_eq_getElem (by rw [hTlen]; omega)] at this
          exact Option.some.inj this
        rw [hsk] at hsn
        have hs8 : a[q].toNat < 256 := UInt8.toNat_lt _
        have cu := Lib.hid (rs_uns HW.out 8 a[q].toNat (by omega) (by omega) hs8 (by simp; omega))
        rw [List.append_assoc, ← hsn] at cu
        rw [← hq]
        have hq1 : Hid (F + k = q) := hq.symm
        have r1 : (q : Int) < 4 := by omega
        have r2 : (q : Int) < (a.size : Int) := by omega
        have hq4 : q < 4 := by omega
        clear hsk hlt
        replace hsn := Lib.hid hsn
        replace hbl := Lib.hid hbl
        replace hTlen := Lib.hid hTlen
        replace hq := Lib.hid hq
        go_wp2_with fail
        refine cu.out.mono ?_
        rintro e w6 ⟨rfl, hA6, HS6⟩
        clear cu
        have HA7 := Lib.hid (HA5.out.trans hA6)
        replace hA6 := Lib.hid hA6
        replace HS6 := Lib.hid HS6
        go_wp2_with fail
        go_roundw
        case rel => exact ⟨k + 1, by have := hq1.out; omega, by have := hq1.out; congr 1; omega, HS6, HA7⟩
        case measure => simp [intOf]; omega
      · have hk4 : F + k = 4 := by omega
        have hW2 := HW.out
        rw [List.take_of_length_le (by omega), List.append_assoc, ← hE.out] at hW2
        rw [hk4]
        replace hW2 := Lib.hid hW2
        replace hTlen := Lib.hid hTlen
        replace hk4 := Lib.hid hk4
        clear hlt hk
        go_wp2
        go_end0
        exact ⟨rfl, HA5.out, hW2.out⟩
/-- where the reference's write stands -/
structure Rc (W0 w : World) (base B bh : Nat) (h : Hdr) (bs : List Bool) : Prop where
  rs : RS W0 w base B bs
  hd : Blk w bh (hdrC h) 24
  lh : bh < base ∧ bh ≠ B
theorem Rc.next {W0 w w' : World} {base B bh : Nat} {h : Hdr} {bs bs' : List Bool} (p : Rc W0 w base B bh h bs) (hA : Apart base B w w') (hS : RS W0 w' base B bs') : Rc W0 w' base B bh h bs' :=
  ⟨hS, hA.blk p.hd p.lh.1 p.lh.2, p.lh⟩
theorem RwV.empty {w : World} {base B : Nat} (hb : Blk w B #[.slice none 0 0, .int .i64 0] 99) (hB : B < base) : RwV w base B (.slice none 0 0) [] := ⟨hb, World.ownsRow_nil _ _ _ _, hB⟩
section
variable {W0 w : World} {base B bh : Nat} {C L P R N : Int} {src dst : ByteArray} {bs : List Bool}
theorem Rc.k0 (p : Rc W0 w base B bh ⟨C, L, src, dst, P, R, N⟩ bs) : w.cell? ⟨bh, 0, none⟩ = some (.int .i64 C) := p.hd.cell 0
theorem Rc.k1 (p : Rc W0 w base B bh ⟨C, L, src, dst, P, R, N⟩ bs) : w.cell? ⟨bh, 1, none⟩ = some (.int .i64 L) := p.hd.cell 1
theorem Rc.k2 (p : Rc W0 w base B bh ⟨C, L, src, dst, P, R, N⟩ bs) : w.cell? ⟨bh, 2, none⟩ = some (.string src) := p.hd.cell 2
theorem Rc.k3 (p : Rc W0 w base B bh ⟨C, L, src, dst, P, R, N⟩ bs) : w.cell? ⟨bh, 3, none⟩ = some (.string dst) := p.hd.cell 3
theorem Rc.k4 (p : Rc W0 w base B bh ⟨C, L, src, dst, P, R, N⟩ bs) : w.cell? ⟨bh, 4, none⟩ = some (.int .i64 P) := p.hd.cell 4
theorem Rc.k5 (p : Rc W0 w base B bh ⟨C, L, src, dst, P, R, N⟩ bs) : w.cell? ⟨bh, 5, none⟩ = some (.int .i64 R) := p.hd.cell 5
theorem Rc.k6 (p : Rc W0 w base B bh ⟨C, L, src, dst, P, R, N⟩ bs) : w.cell? ⟨bh, 6, none⟩ = some (.int .i64 N) := p.hd.cell 6
end
def RwritePost (bs : List Bool) (w : World) (e : Ending) (w' : World) : Prop := ∃ B base, e = .returned (.pointer (some ⟨B, 0, none⟩)) ∧ Below w.heap.size w w' ∧ w.heap.size ≤ B ∧ B < base ∧ base ≤ w'.heap.size ∧ RwIs w' base B bs
set_option maxRecDepth 100000 in
set_option maxHeartbeats 16000000 in
theorem rwrite_nat (A : Option Addr) (n c : Nat) (ps : List ByteArray) (C L P R N : Nat) (src dst : ByteArray) (w : World) (hs : CtxS w A n ps) (hok : ctxOk ps = true) (hCl : C ≤ 255) (hLl : L ≤ 255) (hsr : src.size = 4) (hds : dst.size = 4) (hPl : P ≤ 65535) (hRl : R ≤ 65535) (hNl : N ≤ 4095) :
    Calls Try.prog 38 #[.slice A n c, .agg #[.int .i64 (C : Int), .int .i64 (L : Int), .string src, .string dst, .int .i64 (P : Int), .int .i64 (R : Int), .int .i64 (N : Int)]] w (RwritePost (enc ps ⟨C, L, src, dst, P, R, N⟩) w) := by
  have cN := Lib.hid (rNewWriter_any (w.alloc (.cells #[.int .i64 (C : Int), .int .i64 (L : Int), .string src, .string dst, .int .i64 (P : Int), .int .i64 (R : Int), .int .i64 (N : Int)] 24)))
  have hP : Rc w ((w.alloc (.cells #[.int .i64 (C : Int), .int .i64 (L : Int), .string src, .string dst, .int .i64 (P : Int), .int .i64 (R : Int), .int .i64 (N : Int)] 24)).alloc (.cells #[.slice none 0 0, .int .i64 0] 99)) (w.heap.size + 1 + 1) (w.heap.size + 1) w.heap.size ⟨C, L, src, dst, P, R, N⟩ [] := by
    refine ⟨⟨?_, by omega, by omega, by simp, _, RwV.empty ?_ (by omega)⟩, (Blk.new w _ _).alloc _, ⟨by omega, by omega⟩⟩
    · exact ((Below.refl _ _).alloc (Nat.le_refl _) _).alloc (by simp) _
    · have := Blk.new (w.alloc (.cells #[.int .i64 (C : Int), .int .i64 (L : Int), .string src, .string dst, .int .i64 (P : Int), .int .i64 (R : Int), .int .i64 (N : Int)] 24)) #[.slice none 0 0, .int .i64 0] 99
      simpa using this
  have hl1 := (encC_len C).1
  have hl2 := (encL_len L).1
  have hl3 := encA_len ps src hsr
  have hl4 := encA_len ps dst hds
  have hl5 := (encP_len P R).1
  have hEn : Hid (enc ps ⟨C, L, src, dst, P, R, N⟩ = encC C ++ encL L ++ encA ps src ++ encA ps dst ++ encP P R ++ encN N) := by show _ = _; unfold enc encs; simp
  have hE1 : Hid (encC C = [(C : Int) != 0] ++ (if (C : Int) ≠ 0 then bitsOf 8 C else [])) := rfl
  have hE2 : Hid (encL L = bitsOf 2 (max (limI L) 0).toNat ++ (if limI L < 0 then bitsOf 8 L else [])) := rfl
  have hE5 : Hid (encP P R = if near P = true ∧ near R = true then bitsOf 2 3 ++ bitsOf 4 ((P : Int) - 61616).toNat ++ bitsOf 4 ((R : Int) - 61616).toNat
    else if (P : Int) = R then bitsOf 2 1 ++ bitsOf 16 P
    else if inB ((P : Int) - 61440) 255 = true then bitsOf 2 2 ++ bitsOf 8 ((P : Int) - 61440).toNat ++ bitsOf 16 R
    else bitsOf 2 0 ++ bitsOf 16 P ++ bitsOf 16 R) := rfl
  have hE6 : Hid (encN N = [decide ((63 : Int) < (N : Int))] ++ (if (63 : Int) < (N : Int) then bitsOf 12 N else bitsOf 6 N)) := rfl
  have cA1 : Hid (∀ wx bs, bs.length ≤ 300 → RS w wx (w.heap.size + 1 + 1) (w.heap.size + 1) bs → Calls Try.prog 75 #[.pointer (some ⟨w.heap.size + 1, 0, none⟩), .slice A n c, .string src] wx (RsPost w (w.heap.size + 1 + 1) (w.heap.size + 1) (bs ++ encA ps src) wx)) := fun wx bs hl h => address_any w wx _ _ bs A n c ps src hs h hl hsr hok
  have cA2 : Hid (∀ wx bs, bs.length ≤ 300 → RS w wx (w.heap.size + 1 + 1) (w.heap.size + 1) bs → Calls Try.prog 75 #[.pointer (some ⟨w.heap.size + 1, 0, none⟩), .slice A n c, .string dst] wx (RsPost w (w.heap.size + 1 + 1) (w.heap.size + 1) (bs ++ encA ps dst) wx)) := fun wx bs hl h => address_any w wx _ _ bs A n c ps dst hs h hl hds hok
  generalize enc ps ⟨C, L, src, dst, P, R, N⟩ = EE at *
  generalize encC C = E1 at *
  generalize encL L = E2 at *
  generalize encA ps src = E3 at *
  generalize encA ps dst = E4 at *
  generalize encP P R = E5 at *
  generalize encN N = E6 at *
  replace hs := Lib.hid hs
  replace hok := Lib.hid hok
  replace hP := Lib.hid hP
  replace hsr := Lib.hid hsr
  replace hds := Lib.hid hds
  go_enter Try.func38, Try.ntmps38
  go_wp2_with fail
  refine cN.out.mono ?_
  rintro e w1 ⟨rfl, rfl⟩
  clear cN
  have f0 := Lib.hid (rs_flag hP.out.rs ((C : Int) != 0) (by simp))
  go_upto_if 14 with (go_at_call 73; refine f0.out.mono ?_; rintro e w1 ⟨rfl, hA1, hS1⟩; have hP1 := Lib.hid (hP.out.next hA1 hS1); have kh1 := hP1.out.k0; replace hA1 := Lib.hid hA1; replace hS1 := Lib.hid hS1)
  clear f0
  go_cut [] (fun wx => Hid (Rc w wx (w.heap.size + 1 + 1) (w.heap.size + 1) w.heap.size ⟨C, L, src, dst, P, R, N⟩ E1))
  case first =>
    by_cases hz : C = 0
    · subst hz
      have e1 : E1 = [((0 : Nat) : Int) != 0] := by rw [hE1.out, if_neg (by simp)]; simp
      have d : (((0 : Nat) : Int) != 0) = false := rfl
      rw [List.nil_append, ← e1] at hP1
      replace e1 := Lib.hid e1
      go_wp2_with fail
      go_meet
      exact hP1
    · have d : ((C : Int) != 0) = true := by rw [bne_iff_ne]; omega
      have e1 : E1 = [(C : Int) != 0] ++ bitsOf 8 C := by rw [hE1.out, if_pos (by omega)]
      have c1 := Lib.hid (rs_uns hS1.out 8 C (by omega) (by omega) (by omega) (by simp))
      rw [List.nil_append, ← e1] at c1
      replace e1 := Lib.hid e1
      replace hz := Lib.hid hz
      go_wp2_with fail
      refine c1.out.mono ?_
      rintro e w2 ⟨rfl, hA2, hS2⟩
      have hP2 := Lib.hid (hP1.out.next hA2 hS2)
      clear c1 kh1
      replace hA2 := Lib.hid hA2
      replace hS2 := Lib.hid hS2
      go_wp2_with fail
      go_meet
      exact hP2
  case rest =>
    generalize wc = wa at *
    clear hP1 kh1 hA1 hS1 hP hE1
    have k1 := hcut.out.k1
    go_upto_block 0 with fail
    have P1 := hcut
    clear hcut
    go_cut [] (fun wx => Hid (Rc w wx (w.heap.size + 1 + 1) (w.heap.size + 1) w.heap.size ⟨C, L, src, dst, P, R, N⟩ (E1 ++ E2)))
    case first =>
      clear k1
      have z1 := P1.out.k1
      by_cases e1 : L = 1
      · subst e1
        have e2 : E2 = bitsOf 2 1 := by rw [hE2.out]; rfl
        clear hE2
        have c0 := Lib.hid (rs_uns P1.out.rs 2 1 (by omega) (by omega) (by first | decide | omega) (by first | omega | (simp; omega) | (simp [bitsOf_length]; omega)))
        rw [← e2] at c0
        go_wp2_with fail
        refine c0.out.mono ?_
        rintro e y0 ⟨rfl, hA_, hS_⟩
        have Y0 := Lib.hid (P1.out.next hA_ hS_)
        clear c0 hA_ hS_ z1
        have z1 := Y0.out.k1
        clear z1
        go_wp2_with fail
        go_meet
        exact Y0
      · have d1 : ((L : Int) == 1) = false := by rw [beq_eq_false_iff_ne]; omega
        by_cases e64 : L = 64
        · subst e64
          have e2 : E2 = bitsOf 2 2 := by rw [hE2.out]; rfl
          clear hE2
          have c0 := Lib.hid (rs_uns P1.out.rs 2 2 (by omega) (by omega) (by first | decide | omega) (by first | omega | (simp; omega) | (simp [bitsOf_length]; omega)))
          rw [← e2] at c0
          go_wp2_with fail
          refine c0.out.mono ?_
          rintro e y0 ⟨rfl, hA_, hS_⟩
          have Y0 := Lib.hid (P1.out.next hA_ hS_)
          clear c0 hA_ hS_ z1
          have z1 := Y0.out.k1
          clear z1
          go_wp2_with fail
          go_meet
          exact Y0
        · have d64 : ((L : Int) == 64) = false := by rw [beq_eq_false_iff_ne]; omega
          by_cases e255 : L = 255
          · subst e255
            have e2 : E2 = bitsOf 2 3 := by rw [hE2.out]; rfl
            clear hE2
            have c0 := Lib.hid (rs_uns P1.out.rs 2 3 (by omega) (by omega) (by first | decide | omega) (by first | omega | (simp; omega) | (simp [bitsOf_length]; omega)))
            rw [← e2] at c0
            go_wp2_with fail
            refine c0.out.mono ?_
            rintro e y0 ⟨rfl, hA_, hS_⟩
            have Y0 := Lib.hid (P1.out.next hA_ hS_)
            clear c0 hA_ hS_ z1
            have z1 := Y0.out.k1
            clear z1
            go_wp2_with fail
            go_meet
            exact Y0
          · have d255 : ((L : Int) == 255) = false := by rw [beq_eq_false_iff_ne]; omega
            have hlm : limI (L : Int) = -1 := by unfold limI; rw [if_neg (by omega), if_neg (by omega), if_neg (by omega)]
            have e2 : E2 = bitsOf 2 0 ++ bitsOf 8 L := by rw [hE2.out, hlm, if_pos (by decide)]; rfl
            clear hE2 hlm
            have c0 := Lib.hid (rs_uns P1.out.rs 2 0 (by omega) (by omega) (by first | decide | omega) (by first | omega | (simp; omega) | (simp [bitsOf_length]; omega)))
            go_wp2_with fail
            refine c0.out.mono ?_
            rintro e y0 ⟨rfl, hA_, hS_⟩
            have Y0 := Lib.hid (P1.out.next hA_ hS_)
            clear c0 hA_ hS_ z1
            have z1 := Y0.out.k1
            have c1 := Lib.hid (rs_uns Y0.out.rs 8 L (by omega) (by omega) (by first | decide | omega) (by first | omega | (simp; omega) | (simp [bitsOf_length]; omega)))
            rw [List.append_assoc, ← e2] at c1
            go_wp2_with fail
            refine c1.out.mono ?_
            rintro e y1 ⟨rfl, hA_, hS_⟩
            have Y1 := Lib.hid (Y0.out.next hA_ hS_)
            clear c1 hA_ hS_ z1
            have z1 := Y1.out.k1
            clear z1
            go_wp2_with fail
            go_meet
            exact Y1
    case rest =>
      generalize wc = wb at *
      clear P1 k1 hE2
      have z2 := hcut.out.k2
      have c1 := Lib.hid (cA1.out wb (E1 ++ E2) (by simp; omega) hcut.out.rs)
      go_wp2_with fail
      refine c1.out.mono ?_
      rintro e w3 hq
      obtain ⟨rfl, hA_, hS_⟩ := hq
      have P2 := Lib.hid (hcut.out.next hA_ hS_)
      clear c1 z2 hcut hA_ hS_ cA1
      have z3 := P2.out.k3
      have c1 := Lib.hid (cA2.out w3 (E1 ++ E2 ++ E3) (by simp; omega) P2.out.rs)
      go_wp2_with fail
      refine c1.out.mono ?_
      rintro e w4 hq
      obtain ⟨rfl, hA_, hS_⟩ := hq
      have P3 := Lib.hid (P2.out.next hA_ hS_)
      clear c1 z3 P2 hA_ hS_ cA2
      have z4 := P3.out.k4
      have z5 := P3.out.k5
      have cn1 := Lib.hid (fun W => within_any ((P : Int) - 61616) 15 W)
      have cn2 := Lib.hid (fun W => within_any ((R : Int) - 61616) 15 W)
      have hn1 : near P = true → 0 ≤ (P : Int) - 61616 ∧ (P : Int) - 61616 ≤ 15 := fun h => inB_iff.1 h
      have hn2 : near R = true → 0 ≤ (R : Int) - 61616 ∧ (R : Int) - 61616 ≤ 15 := fun h => inB_iff.1 h
      rw [show inB ((P : Int) - 61616) 15 = near P from rfl] at cn1
      rw [show inB ((R : Int) - 61616) 15 = near R from rfl] at cn2
      generalize near P = n1 at *
      generalize near R = n2 at *
      go_upto_block 1 with fail
      go_cut [] (fun wx => Hid (Rc w wx (w.heap.size + 1 + 1) (w.heap.size + 1) w.heap.size ⟨C, L, src, dst, P, R, N⟩ (E1 ++ E2 ++ E3 ++ E4 ++ E5)))
      case first =>
        by_cases hn : n1 = true ∧ n2 = true
        · obtain ⟨rfl, rfl⟩ := hn
          obtain ⟨hp2, hp3⟩ := hn1 rfl
          obtain ⟨hr2, hr3⟩ := hn2 rfl
          obtain ⟨p, hp⟩ := Int.eq_ofNat_of_zero_le hp2
          obtain ⟨r, hr⟩ := Int.eq_ofNat_of_zero_le hr2
          have e5 : E5 = bitsOf 2 3 ++ bitsOf 4 p ++ bitsOf 4 r := by rw [hE5.out, if_pos ⟨rfl, rfl⟩, hp, hr]; rfl
          have hpl : p ≤ 15 := by omega
          have hrl : r ≤ 15 := by omega
          rw [hp] at cn1
          rw [hr] at cn2
          clear hE5 hn1 hn2
          replace e5 := Lib.hid e5
          go_wp2_with fail
          refine (cn1.out _).mono ?_
          rintro e y ⟨rfl, rfl⟩
          go_wp2_with fail
          refine (cn2.out _).mono ?_
          rintro e y ⟨rfl, rfl⟩
          clear cn1 cn2
          have c0 := Lib.hid (rs_uns P3.out.rs 2 3 (by omega) (by omega) (by first | decide | omega) (by first | omega | (simp; omega) | (simp [bitsOf_length]; omega)))
          go_wp2_with fail
          refine c0.out.mono ?_
          rintro e y0 ⟨rfl, hA_, hS_⟩
          have Y0 := Lib.hid (P3.out.next hA_ hS_)
          clear c0 hA_ hS_ z4 z5
          have z4 := Y0.out.k4
          have z5 := Y0.out.k5
          have c1 := Lib.hid (rs_uns Y0.out.rs 4 p (by omega) (by omega) (by first | decide | omega) (by first | omega | (simp; omega) | (simp [bitsOf_length]; omega)))
          go_wp2_with fail
          refine c1.out.mono ?_
          rintro e y1 ⟨rfl, hA_, hS_⟩
          have Y1 := Lib.hid (Y0.out.next hA_ hS_)
          clear c1 hA_ hS_ z4 z5
          have z4 := Y1.out.k4
          have z5 := Y1.out.k5
          have c2 := Lib.hid (rs_uns Y1.out.rs 4 r (by omega) (by omega) (by first | decide | omega) (by first | omega | (simp; omega) | (simp [bitsOf_length]; omega)))
          rw [List.append_assoc, List.append_assoc, ← List.append_assoc (bitsOf 2 3), ← e5.out] at c2
          go_wp2_with fail
          refine c2.out.mono ?_
          rintro e y2 ⟨rfl, hA_, hS_⟩
          have Y2 := Lib.hid (Y1.out.next hA_ hS_)
          clear c2 hA_ hS_ z4 z5
          have z4 := Y2.out.k4
          have z5 := Y2.out.k5
          clear z4 z5
          go_wp2_with fail
          go_meet
          exact Y2
        · cases n1
          · -- the first: false
            have e5 := hE5.out
            rw [if_neg hn] at e5
            clear hE5 hn1 hn2 hn
            by_cases hpr : P = R
            · subst hpr
              rw [if_pos rfl] at e5
              replace e5 := Lib.hid e5
              go_wp2_with fail
              refine (cn1.out _).mono ?_
              rintro e y ⟨rfl, rfl⟩
              clear cn1 cn2
              have c0 := Lib.hid (rs_uns P3.out.rs 2 1 (by omega) (by omega) (by first | decide | omega) (by first | omega | (simp; omega) | (simp [bitsOf_length]; omega)))
              go_wp2_with fail
              refine c0.out.mono ?_
              rintro e y0 ⟨rfl, hA_, hS_⟩
              have Y0 := Lib.hid (P3.out.next hA_ hS_)
              clear c0 hA_ hS_ z4 z5
              have z4 := Y0.out.k4
              have z5 := Y0.out.k5
              have c1 := Lib.hid (rs_uns Y0.out.rs 16 P (by omega) (by omega) (by first | decide | omega) (by first | omega | (simp; omega) | (simp [bitsOf_length]; omega)))
              rw [List.append_assoc, ← e5.out] at c1
              go_wp2_with fail
              refine c1.out.mono ?_
              rintro e y1 ⟨rfl, hA_, hS_⟩
              have Y1 := Lib.hid (Y0.out.next hA_ hS_)
              clear c1 hA_ hS_ z4 z5
              have z4 := Y1.out.k4
              have z5 := Y1.out.k5
              clear z4 z5
              go_wp2_with fail
              go_meet
              exact Y1
            · rw [if_neg (by omega)] at e5
              have dpr : ((P : Int) == (R : Int)) = false := by rw [beq_eq_false_iff_ne]; omega
              by_cases hq : inB ((P : Int) - 61440) 255 = true
              · rw [if_pos hq] at e5
                have hq2 := inB_iff.1 hq
                obtain ⟨p, hp⟩ := Int.eq_ofNat_of_zero_le hq2.1
                have hpl : p ≤ 255 := by omega
                have ci := Lib.hid (fun W => within_any ((P : Int) - 61440) 255 W)
                rw [hq, hp] at ci
                rw [hp, show ((p : Int)).toNat = p by omega] at e5
                replace e5 := Lib.hid e5
                replace hq := Lib.hid hq
                replace hq2 := Lib.hid hq2
                replace hpr := Lib.hid hpr
                go_wp2_with fail
                refine (cn1.out _).mono ?_
                rintro e y ⟨rfl, rfl⟩
                clear cn1 cn2
                go_wp2_with fail
                refine (ci.out _).mono ?_
                rintro e y ⟨rfl, rfl⟩
                clear ci
                have c0 := Lib.hid (rs_uns P3.out.rs 2 2 (by omega) (by omega) (by first | decide | omega) (by first | omega | (simp; omega) | (simp [bitsOf_length]; omega)))
                go_wp2_with fail
                refine c0.out.mono ?_
                rintro e y0 ⟨rfl, hA_, hS_⟩
                have Y0 := Lib.hid (P3.out.next hA_ hS_)
                clear c0 hA_ hS_ z4 z5
                have z4 := Y0.out.k4
                have z5 := Y0.out.k5
                have c1 := Lib.hid (rs_uns Y0.out.rs 8 p (by omega) (by omega) (by first | decide | omega) (by first | omega | (simp; omega) | (simp [bitsOf_length]; omega)))
                go_wp2_with fail
                refine c1.out.mono ?_
                rintro e y1 ⟨rfl, hA_, hS_⟩
                have Y1 := Lib.hid (Y0.out.next hA_ hS_)
                clear c1 hA_ hS_ z4 z5
                have z4 := Y1.out.k4
                have z5 := Y1.out.k5
                have c2 := Lib.hid (rs_uns Y1.out.rs 16 R (by omega) (by omega) (by first | decide | omega) (by first | omega | (simp; omega) | (simp [bitsOf_length]; omega)))
                rw [List.append_assoc, List.append_assoc, ← List.append_assoc (bitsOf 2 2), ← e5.out] at c2
                go_wp2_with fail
                refine c2.out.mono ?_
                rintro e y2 ⟨rfl, hA_, hS_⟩
                have Y2 := Lib.hid (Y1.out.next hA_ hS_)
                clear c2 hA_ hS_ z4 z5
                have z4 := Y2.out.k4
                have z5 := Y2.out.k5
                clear z4 z5
                go_wp2_with fail
                go_meet
                exact Y2
              · rw [if_neg hq] at e5
                have hq' : inB ((P : Int) - 61440) 255 = false := by simpa using hq
                have ci := Lib.hid (fun W => within_any ((P : Int) - 61440) 255 W)
                rw [hq'] at ci
                replace e5 := Lib.hid e5
                replace hq := Lib.hid hq
                replace hq' := Lib.hid hq'
                replace hpr := Lib.hid hpr
                go_wp2_with fail
                refine (cn1.out _).mono ?_
                rintro e y ⟨rfl, rfl⟩
                clear cn1 cn2
                go_wp2_with fail
                refine (ci.out _).mono ?_
                rintro e y ⟨rfl, rfl⟩
                clear ci
                have c0 := Lib.hid (rs_uns P3.out.rs 2 0 (by omega) (by omega) (by first | decide | omega) (by first | omega | (simp; omega) | (simp [bitsOf_length]; omega)))
                go_wp2_with fail
                refine c0.out.mono ?_
                rintro e y0 ⟨rfl, hA_, hS_⟩
                have Y0 := Lib.hid (P3.out.next hA_ hS_)
                clear c0 hA_ hS_ z4 z5
                have z4 := Y0.out.k4
                have z5 := Y0.out.k5
                have c1 := Lib.hid (rs_uns Y0.out.rs 16 P (by omega) (by omega) (by first | decide | omega) (by first | omega | (simp; omega) | (simp [bitsOf_length]; omega)))
                go_wp2_with fail
                refine c1.out.mono ?_
                rintro e y1 ⟨rfl, hA_, hS_⟩
                have Y1 := Lib.hid (Y0.out.next hA_ hS_)
                clear c1 hA_ hS_ z4 z5
                have z4 := Y1.out.k4
                have z5 := Y1.out.k5
                have c2 := Lib.hid (rs_uns Y1.out.rs 16 R (by omega) (by omega) (by first | decide | omega) (by first | omega | (simp; omega) | (simp [bitsOf_length]; omega)))
                rw [List.append_assoc, List.append_assoc, ← List.append_assoc (bitsOf 2 0), ← e5.out] at c2
                go_wp2_with fail
                refine c2.out.mono ?_
                rintro e y2 ⟨rfl, hA_, hS_⟩
                have Y2 := Lib.hid (Y1.out.next hA_ hS_)
                clear c2 hA_ hS_ z4 z5
                have z4 := Y2.out.k4
                have z5 := Y2.out.k5
                clear z4 z5
                go_wp2_with fail
                go_meet
                exact Y2
          · -- the first: true
            obtain rfl : n2 = false := Bool.eq_false_iff.2 fun h => hn ⟨rfl, h⟩
            have e5 := hE5.out
            rw [if_neg hn] at e5
            clear hE5 hn1 hn2 hn
            by_cases hpr : P = R
            · subst hpr
              rw [if_pos rfl] at e5
              replace e5 := Lib.hid e5
              go_wp2_with fail
              refine (cn1.out _).mono ?_
              rintro e y ⟨rfl, rfl⟩
              go_wp2_with fail
              refine (cn2.out _).mono ?_
              rintro e y ⟨rfl, rfl⟩
              clear cn1 cn2
              have c0 := Lib.hid (rs_uns P3.out.rs 2 1 (by omega) (by omega) (by first | decide | omega) (by first | omega | (simp; omega) | (simp [bitsOf_length]; omega)))
              go_wp2_with fail
              refine c0.out.mono ?_
              rintro e y0 ⟨rfl, hA_, hS_⟩
              have Y0 := Lib.hid (P3.out.next hA_ hS_)
              clear c0 hA_ hS_ z4 z5
              have z4 := Y0.out.k4
              have z5 := Y0.out.k5
              have c1 := Lib.hid (rs_uns Y0.out.rs 16 P (by omega) (by omega) (by first | decide | omega) (by first | omega | (simp; omega) | (simp [bitsOf_length]; omega)))
              rw [List.append_assoc, ← e5.out] at c1
              go_wp2_with fail
              refine c1.out.mono ?_
              rintro e y1 ⟨rfl, hA_, hS_⟩
              have Y1 := Lib.hid (Y0.out.next hA_ hS_)
              clear c1 hA_ hS_ z4 z5
              have z4 := Y1.out.k4
              have z5 := Y1.out.k5
              clear z4 z5
              go_wp2_with fail
              go_meet
              exact Y1
            · rw [if_neg (by omega)] at e5
              have dpr : ((P : Int) == (R : Int)) = false := by rw [beq_eq_false_iff_ne]; omega
              by_cases hq : inB ((P : Int) - 61440) 255 = true
              · rw [if_pos hq] at e5
                have hq2 := inB_iff.1 hq
                obtain ⟨p, hp⟩ := Int.eq_ofNat_of_zero_le hq2.1
                have hpl : p ≤ 255 := by omega
                have ci := Lib.hid (fun W => within_any ((P : Int) - 61440) 255 W)
                rw [hq, hp] at ci
                rw [hp, show ((p : Int)).toNat = p by omega] at e5
                replace e5 := Lib.hid e5
                replace hq := Lib.hid hq
                replace hq2 := Lib.hid hq2
                replace hpr := Lib.hid hpr
                go_wp2_with fail
                refine (cn1.out _).mono ?_
                rintro e y ⟨rfl, rfl⟩
                go_wp2_with fail
                refine (cn2.out _).mono ?_
                rintro e y ⟨rfl, rfl⟩
                clear cn1 cn2
                go_wp2_with fail
                refine (ci.out _).mono ?_
                rintro e y ⟨rfl, rfl⟩
                clear ci
                have c0 := Lib.hid (rs_uns P3.out.rs 2 2 (by omega) (by omega) (by first | decide | omega) (by first | omega | (simp; omega) | (simp [bitsOf_length]; omega)))
                go_wp2_with fail
                refine c0.out.mono ?_
                rintro e y0 ⟨rfl, hA_, hS_⟩
                have Y0 := Lib.hid (P3.out.next hA_ hS_)
                clear c0 hA_ hS_ z4 z5
                have z4 := Y0.out.k4
                have z5 := Y0.out.k5
                have c1 := Lib.hid (rs_uns Y0.out.rs 8 p (by omega) (by omega) (by first | decide | omega) (by first | omega | (simp; omega) | (simp [bitsOf_length]; omega)))
                go_wp2_with fail
                refine c1.out.mono ?_
                rintro e y1 ⟨rfl, hA_, hS_⟩
                have Y1 := Lib.hid (Y0.out.next hA_ hS_)
                clear c1 hA_ hS_ z4 z5
                have z4 := Y1.out.k4
                have z5 := Y1.out.k5
                have c2 := Lib.hid (rs_uns Y1.out.rs 16 R (by omega) (by omega) (by first | decide | omega) (by first | omega | (simp; omega) | (simp [bitsOf_length]; omega)))
                rw [List.append_assoc, List.append_assoc, ← List.append_assoc (bitsOf 2 2), ← e5.out] at c2
                go_wp2_with fail
                refine c2.out.mono ?_
                rintro e y2 ⟨rfl, hA_, hS_⟩
                have Y2 := Lib.hid (Y1.out.next hA_ hS_)
                clear c2 hA_ hS_ z4 z5
                have z4 := Y2.out.k4
                have z5 := Y2.out.k5
                clear z4 z5
                go_wp2_with fail
                go_meet
                exact Y2
              · rw [if_neg hq] at e5
                have hq' : inB ((P : Int) - 61440) 255 = false := by simpa using hq
                have ci := Lib.hid (fun W => within_any ((P : Int) - 61440) 255 W)
                rw [hq'] at ci
                replace e5 := Lib.hid e5
                replace hq := Lib.hid hq
                replace hq' := Lib.hid hq'
                replace hpr := Lib.hid hpr
                go_wp2_with fail
                refine (cn1.out _).mono ?_
                rintro e y ⟨rfl, rfl⟩
                go_wp2_with fail
                refine (cn2.out _).mono ?_
                rintro e y ⟨rfl, rfl⟩
                clear cn1 cn2
                go_wp2_with fail
                refine (ci.out _).mono ?_
                rintro e y ⟨rfl, rfl⟩
                clear ci
                have c0 := Lib.hid (rs_uns P3.out.rs 2 0 (by omega) (by omega) (by first | decide | omega) (by first | omega | (simp; omega) | (simp [bitsOf_length]; omega)))
                go_wp2_with fail
                refine c0.out.mono ?_
                rintro e y0 ⟨rfl, hA_, hS_⟩
                have Y0 := Lib.hid (P3.out.next hA_ hS_)
                clear c0 hA_ hS_ z4 z5
                have z4 := Y0.out.k4
                have z5 := Y0.out.k5
                have c1 := Lib.hid (rs_uns Y0.out.rs 16 P (by omega) (by omega) (by first | decide | omega) (by first | omega | (simp; omega) | (simp [bitsOf_length]; omega)))
                go_wp2_with fail
                refine c1.out.mono ?_
                rintro e y1 ⟨rfl, hA_, hS_⟩
                have Y1 := Lib.hid (Y0.out.next hA_ hS_)
                clear c1 hA_ hS_ z4 z5
                have z4 := Y1.out.k4
                have z5 := Y1.out.k5
                have c2 := Lib.hid (rs_uns Y1.out.rs 16 R (by omega) (by omega) (by first | decide | omega) (by first | omega | (simp; omega) | (simp [bitsOf_length]; omega)))
                rw [List.append_assoc, List.append_assoc, ← List.append_assoc (bitsOf 2 0), ← e5.out] at c2
                go_wp2_with fail
                refine c2.out.mono ?_
                rintro e y2 ⟨rfl, hA_, hS_⟩
                have Y2 := Lib.hid (Y1.out.next hA_ hS_)
                clear c2 hA_ hS_ z4 z5
                have z4 := Y2.out.k4
                have z5 := Y2.out.k5
                clear z4 z5
                go_wp2_with fail
                go_meet
                exact Y2
      case rest =>
        generalize wc = wd at *
        clear P3 z4 z5 hE5 cn1 cn2 hn1 hn2
        have z6 := hcut.out.k6
        have f0 := Lib.hid (rs_flag hcut.out.rs (decide ((63 : Int) < (N : Int))) (by simp; omega))
        by_cases hz : (63 : Int) < (N : Int)
        · have e6 := hE6.out
          rw [if_pos hz, decide_eq_true hz] at e6
          rw [decide_eq_true hz] at f0
          replace e6 := Lib.hid e6
          go_wp2_with fail
          refine f0.out.mono ?_
          rintro e y ⟨rfl, hA_, hS_⟩
          have P4 := Lib.hid (hcut.out.next hA_ hS_)
          clear f0 z6 hA_ hS_
          have z6 := P4.out.k6
          have c0 := Lib.hid (rs_uns P4.out.rs 12 N (by omega) (by omega) (by omega) (by simp; omega))
          rw [List.append_assoc, ← e6.out, ← hEn.out] at c0
          go_wp2_with fail
          refine c0.out.mono ?_
          rintro e y2 ⟨rfl, hA_, hS_⟩
          clear c0 z6
          replace hA_ := Lib.hid hA_
          replace hS_ := Lib.hid hS_
          go_wp2_with fail
          go_ret
          exact ⟨_, _, rfl, hS_.out.below, by omega, by omega, hS_.out.base_le, hS_.out.wr⟩
        · have e6 := hE6.out
          rw [if_neg hz, decide_eq_false hz] at e6
          rw [decide_eq_false hz] at f0
          replace e6 := Lib.hid e6
          go_wp2_with fail
          refine f0.out.mono ?_
          rintro e y ⟨rfl, hA_, hS_⟩
          have P4 := Lib.hid (hcut.out.next hA_ hS_)
          clear f0 z6 hA_ hS_
          have z6 := P4.out.k6
          have c0 := Lib.hid (rs_uns P4.out.rs 6 N (by omega) (by omega) (by omega) (by simp; omega))
          rw [List.append_assoc, ← e6.out, ← hEn.out] at c0
          go_wp2_with fail
          refine c0.out.mono ?_
          rintro e y2 ⟨rfl, hA_, hS_⟩
          clear c0 z6
          replace hA_ := Lib.hid hA_
          replace hS_ := Lib.hid hS_
          go_wp2_with fail
          go_ret
          exact ⟨_, _, rfl, hS_.out.below, by omega, by omega, hS_.out.base_le, hS_.out.wr⟩
theorem rwrite_any (A : Option Addr) (n c : Nat) (ps : List ByteArray) (h : Hdr) (w : World) (hs : CtxS w A n ps) (hok : ctxOk ps = true) (g : Good h) :
    Calls Try.prog 38 #[.slice A n c, .agg (hdrC h)] w (RwritePost (enc ps h) w) := by
  obtain ⟨cls, lim, src, dst, port, rep, len⟩ := h
  obtain ⟨C, rfl⟩ := Int.eq_ofNat_of_zero_le g.cls.1
  obtain ⟨L, rfl⟩ := Int.eq_ofNat_of_zero_le g.lim.1
  obtain ⟨P, rfl⟩ := Int.eq_ofNat_of_zero_le g.port.1
  obtain ⟨R, rfl⟩ := Int.eq_ofNat_of_zero_le g.rep.1
  obtain ⟨N, rfl⟩ := Int.eq_ofNat_of_zero_le g.len.1
  have h1 : (C : Int) ≤ 255 := g.cls.2
  have h2 : (L : Int) ≤ 255 := g.lim.2
  have h3 : (P : Int) ≤ 65535 := g.port.2
  have h4 : (R : Int) ≤ 65535 := g.rep.2
  have h5 : (N : Int) ≤ 4095 := g.len.2
  exact rwrite_nat A n c ps C L P R N src dst w hs hok (by omega) (by omega) g.src g.dst (by omega) (by omega) (by omega)
end Cp
end Go.Proofs.Ytgdkehnakopnnaa
