/- The reference reads a header. -/
import Derived.Test.YtgdkehnakopnnaaCpRh
namespace Go.Proofs.Ytgdkehnakopnnaa
open Go Go.RowKit Go.Sort
namespace Cp
open Mm
def moreR (s : ByteArray) : Nat → ByteArray × Option Nat → ByteArray × Option Nat
  | 0, x => x
  | k + 1, x => if x.2.isSome = true then moreR s k (stepB s x) else x
def rAddr (s : ByteArray) (ps : List ByteArray) (st : Option Nat) : ByteArray × Option Nat :=
  if (uns s 1 st).1 = 1 then
    if ps.length ≤ (uns s 3 (uns s 1 st).2).1 then (⟨#[]⟩, none)
    else moreR s (4 - (ps.getD (uns s 3 (uns s 1 st).2).1 default).size) (ps.getD (uns s 3 (uns s 1 st).2).1 default, (uns s 3 (uns s 1 st).2).2)
  else moreR s 4 (⟨#[]⟩, (uns s 1 st).2)
set_option maxRecDepth 100000 in
set_option maxHeartbeats 8000000 in
theorem rread_any (W0 w : World) (B : Nat) (s : ByteArray) (st : Option Nat) (A : Option Addr) (n c : Nat) (ps : List ByteArray) (hs : CtxS W0 A n ps) (hss : s.size ≤ 100000) (hmem : ∀ p ∈ ps, p.size ≤ 4) (h : RdS 107 W0 w B s st) :
    Calls Try.prog 84 #[.pointer (some ⟨B, 0, none⟩), .slice A n c] w (AddrPost 107 (.string (rAddr s ps st).1) B s (rAddr s ps st).2 w) := by
  have hlen := hs.els.len
  have hR : rAddr s ps st = if (uns s 1 st).1 = 1 then
    (if ps.length ≤ (uns s 3 (uns s 1 st).2).1 then (⟨#[]⟩, none)
    else moreR s (4 - (ps.getD (uns s 3 (uns s 1 st).2).1 default).size) (ps.getD (uns s 3 (uns s 1 st).2).1 default, (uns s 3 (uns s 1 st).2).2))
    else moreR s 4 (⟨#[]⟩, (uns s 1 st).2) := rfl
  have c1 := qFlg_any B s st w hss h.rd
  generalize rAddr s ps st = RR at *
  generalize uns s 1 st = u1 at *
  obtain ⟨f, s1⟩ := u1
  dsimp only at c1 hR
  have c2 := fun W (hr : RdIs 107 W B s s1) => qUns_any 3 B s s1 W (by omega) (by omega) hss hr
  have hu3 := uns_lt s 3 s1
  generalize uns s 3 s1 = u3 at *
  obtain ⟨i, s2⟩ := u3
  dsimp only at c2 hR hu3
  replace hs := Lib.hid hs
  replace h := Lib.hid h
  replace c1 := Lib.hid c1
  replace c2 := Lib.hid c2
  by_cases hf : f = 1
  · subst hf
    rw [if_pos rfl] at hR
    by_cases hi : ps.length ≤ i
    · rw [if_pos hi] at hR
      subst hR
      have d : (n : Int) ≤ (i : Int) := by omega
      go_enter Try.func84, Try.ntmps84
      go_wp2_with fail
      refine c1.out.mono ?_
      rintro e w1 ⟨rfl, hg1, hr1⟩
      have c3 := Lib.hid (c2.out w1 hr1)
      clear c1 c2
      replace hg1 := Lib.hid hg1
      replace hr1 := Lib.hid hr1
      go_wp2_with fail
      refine c3.out.mono ?_
      rintro e w2 ⟨rfl, hg2, hr2⟩
      have c4 := Lib.hid (qUns0_any B s s2 w2 hss hr2)
      clear c3
      replace hg2 := Lib.hid hg2
      replace hr2 := Lib.hid hr2
      go_wp2_with fail
      refine c4.out.mono ?_
      rintro e w3 ⟨rfl, hg3, hr3⟩
      clear c4
      replace hg3 := Lib.hid hg3
      replace hr3 := Lib.hid hr3
      go_wp2_with fail
      go_ret
      exact ⟨rfl, gb_trans (gb_trans hg1.out hg2.out) hg3.out, hr3.out⟩
    · rw [if_neg hi] at hR
      have d : ¬ (n : Int) ≤ (i : Int) := by omega
      have d2 : (i : Int) < (n : Int) := by omega
      have hx4 := hmem _ (getD_mem (show i < ps.length by omega))
      obtain ⟨b, off, rfl⟩ := hs.out.els.addr (by omega)
      have hcx := Lib.hid (fun W (hb : Below W0.heap.size W0 W) => ((hs.out.keep hb).elem (show i < n by omega)).1)
      generalize ps.getD i default = x at *
      replace hR := Lib.hid hR
      go_enter Try.func84, Try.ntmps84
      go_wp2_with fail
      refine c1.out.mono ?_
      rintro e w1 ⟨rfl, hg1, hr1⟩
      have c3 := Lib.hid (c2.out w1 hr1)
      clear c1 c2
      have h1 := Lib.hid (h.out.next hg1 hr1)
      replace hg1 := Lib.hid hg1
      replace hr1 := Lib.hid hr1
      go_wp2_with fail
      refine c3.out.mono ?_
      rintro e w2 ⟨rfl, hg2, hr2⟩
      have h2 := h1.out.next hg2 hr2
      have kc := hcx.out w2 h2.below
      have HG := Lib.hid (gb_trans hg1.out hg2)
      clear c3 hcx
      replace hg2 := Lib.hid hg2
      replace hr2 := Lib.hid hr2
      replace h2 := Lib.hid h2
      go_wp2_with fail
      clear kc
      rw [show decide (n ≤ i) = false from by simp; omega]
      go_loopw [5] (fun o wr => ∃ y : ByteArray × Option Nat, o = .string y.1 ∧ y.1.size ≤ 4 ∧ Hid (RdIs 107 wr B s y.2) ∧ Hid (w.grownBy wr (some B)) ∧ Hid (RR = moreR s (4 - y.1.size) y)) (fun o _ => 4 - strLen o)
      case atStart => exact ⟨(x, s2), rfl, hx4, hr2, HG, hR⟩
      case round =>
        obtain ⟨⟨y, st2⟩, rfl, hy4, hr, HG2, HM⟩ := hrel
        dsimp only at hy4 hr HM
        by_cases hlt : y.size < 4
        · have ce := qErr_any B s st2 wr hr.out
          have d1 : (y.size : Int) < 4 := by omega
          have c4 := qUns_any 8 B s st2 wr (by omega) (by omega) hss hr.out
          have hu8 := uns_lt s 8 st2
          have hM3 := HM.out
          rw [show 4 - y.size = (4 - (y ++ one (uns s 8 st2).1).size) + 1 by rw [ByteArray.size_append, one_size]; omega] at hM3
          have hM2 : RR = if st2.isSome = true then moreR s (4 - (y ++ one (uns s 8 st2).1).size) (y ++ one (uns s 8 st2).1, (uns s 8 st2).2) else (y, st2) := hM3
          clear hM3
          have hys : (y ++ one (uns s 8 st2).1).size ≤ 4 := by rw [ByteArray.size_append, one_size]; omega
          have hys2 : (y ++ one (uns s 8 st2).1).size = y.size + 1 := by rw [ByteArray.size_append, one_size]
          generalize uns s 8 st2 = u8 at *
          obtain ⟨v, st3⟩ := u8
          dsimp only at c4 hu8 hM2 hys hys2
          have hv1 : (v : Int) ≤ 255 := by omega
          have hv0 : (0 : Int) ≤ (v : Int) := by omega
          have kc := fun W => convert_one v W
          have ho1 := one_size v
          generalize one v = o1 at *
          have hol : (y.size : Int) + (o1.size : Int) ≤ 9223372036854775807 := by omega
          clear hu8
          cases hso : st2.isSome with
          | false =>
            rw [hso] at hM2
            simp only [Bool.false_eq_true, if_false] at hM2
            subst hM2
            replace HM := Lib.hid HM
            replace c4 := Lib.hid c4
            replace hys2 := Lib.hid hys2
            replace ho1 := Lib.hid ho1
            replace ce := Lib.hid ce
            go_wp2_with fail
            refine ce.out.mono ?_
            rintro e w3 hq
            obtain ⟨m, rfl, rfl, hm⟩ := hq
            have dm : (m == 0) = false := by
              unfold stV at hm
              rw [beq_eq_false_iff_ne]
              intro h0
              rw [hm.1 h0] at hso
              cases hso
            replace hm := Lib.hid hm
            replace hso := Lib.hid hso
            clear ce
            go_wp2_with fail
            go_ret
            exact ⟨rfl, HG2.out, hr.out⟩
          | true =>
            rw [hso, if_pos rfl] at hM2
            replace hM2 := Lib.hid hM2
            replace c4 := Lib.hid c4
            replace hys2 := Lib.hid hys2
            replace ho1 := Lib.hid ho1
            replace ce := Lib.hid ce
            go_wp2_with fail
            refine ce.out.mono ?_
            rintro e w3 hq
            obtain ⟨m, rfl, rfl, hm⟩ := hq
            obtain rfl : m = 0 := hm.2 hso
            replace hm := Lib.hid hm
            replace hso := Lib.hid hso
            clear ce
            go_wp2_with fail
            refine c4.out.mono ?_
            rintro e w3 ⟨rfl, hg3, hr3⟩
            have HG3 := Lib.hid (gb_trans (gb_trans HG2.out hg3) (gb_alloc w3 (.cells #[.int .u8 (v : Int)] 5) _))
            have hr4 := Lib.hid (hr3.keep (below_alloc w3 (.cells #[.int .u8 (v : Int)] 5)))
            clear c4
            replace hg3 := Lib.hid hg3
            replace hr3 := Lib.hid hr3
            go_wp2_with fail
            go_roundw
            case rel => exact ⟨(y ++ o1, st3), rfl, hys, hr4, HG3, hM2⟩
            case measure => show 4 - (y ++ o1).size < 4 - y.size; rw [hys2.out]; omega
        · have hM2 := HM.out
          rw [show 4 - y.size = 0 by omega] at hM2
          change RR = (y, st2) at hM2
          subst hM2
          have d1 : ¬ (y.size : Int) < 4 := by omega
          replace HM := Lib.hid HM
          go_wp2_with fail
          go_ret
          exact ⟨rfl, HG2.out, hr.out⟩
  · rw [if_neg hf] at hR
    have d0 : (f == 1) = false := by rw [beq_eq_false_iff_ne]; exact hf
    rw [d0] at c1
    replace hf := Lib.hid hf
    replace d0 := Lib.hid d0
    replace hR := Lib.hid hR
    go_enter Try.func84, Try.ntmps84
    go_wp2_with fail
    refine c1.out.mono ?_
    rintro e w1 ⟨rfl, hg1, hr1⟩
    clear c1 c2
    replace hg1 := Lib.hid hg1
    replace hr1 := Lib.hid hr1
    go_wp2_with fail
    go_loopw [5] (fun o wr => ∃ y : ByteArray × Option Nat, o = .string y.1 ∧ y.1.size ≤ 4 ∧ Hid (RdIs 107 wr B s y.2) ∧ Hid (w.grownBy wr (some B)) ∧ Hid (RR = moreR s (4 - y.1.size) y)) (fun o _ => 4 - strLen o)
    case atStart => exact ⟨(⟨#[]⟩, s1), rfl, by show (0 : Nat) ≤ 4; omega, hr1, hg1, hR⟩
    case round =>
      obtain ⟨⟨y, st2⟩, rfl, hy4, hr, HG2, HM⟩ := hrel
      dsimp only at hy4 hr HM
      by_cases hlt : y.size < 4
      · have ce := qErr_any B s st2 wr hr.out
        have d1 : (y.size : Int) < 4 := by omega
        have c4 := qUns_any 8 B s st2 wr (by omega) (by omega) hss hr.out
        have hu8 := uns_lt s 8 st2
        have hM3 := HM.out
        rw [show 4 - y.size = (4 - (y ++ one (uns s 8 st2).1).size) + 1 by rw [ByteArray.size_append, one_size]; omega] at hM3
        have hM2 : RR = if st2.isSome = true then moreR s (4 - (y ++ one (uns s 8 st2).1).size) (y ++ one (uns s 8 st2).1, (uns s 8 st2).2) else (y, st2) := hM3
        clear hM3
        have hys : (y ++ one (uns s 8 st2).1).size ≤ 4 := by rw [ByteArray.size_append, one_size]; omega
        have hys2 : (y ++ one (uns s 8 st2).1).size = y.size + 1 := by rw [ByteArray.size_append, one_size]
        generalize uns s 8 st2 = u8 at *
        obtain ⟨v, st3⟩ := u8
        dsimp only at c4 hu8 hM2 hys hys2
        have hv1 : (v : Int) ≤ 255 := by omega
        have hv0 : (0 : Int) ≤ (v : Int) := by omega
        have kc := fun W => convert_one v W
        have ho1 := one_size v
        generalize one v = o1 at *
        have hol : (y.size : Int) + (o1.size : Int) ≤ 9223372036854775807 := by omega
        clear hu8
        cases hso : st2.isSome with
        | false =>
          rw [hso] at hM2
          simp only [Bool.false_eq_true, if_false] at hM2
          subst hM2
          replace HM := Lib.hid HM
          replace c4 := Lib.hid c4
          replace hys2 := Lib.hid hys2
          replace ho1 := Lib.hid ho1
          replace ce := Lib.hid ce
          go_wp2_with fail
          refine ce.out.mono ?_
          rintro e w3 hq
          obtain ⟨m, rfl, rfl, hm⟩ := hq
          have dm : (m == 0) = false := by
            unfold stV at hm
            rw [beq_eq_false_iff_ne]
            intro h0
            rw [hm.1 h0] at hso
            cases hso
          replace hm := Lib.hid hm
          replace hso := Lib.hid hso
          clear ce
          go_wp2_with fail
          go_ret
          exact ⟨rfl, HG2.out, hr.out⟩
        | true =>
          rw [hso, if_pos rfl] at hM2
          replace hM2 := Lib.hid hM2
          replace c4 := Lib.hid c4
          replace hys2 := Lib.hid hys2
          replace ho1 := Lib.hid ho1
          replace ce := Lib.hid ce
          go_wp2_with fail
          refine ce.out.mono ?_
          rintro e w3 hq
          obtain ⟨m, rfl, rfl, hm⟩ := hq
          obtain rfl : m = 0 := hm.2 hso
          replace hm := Lib.hid hm
          replace hso := Lib.hid hso
          clear ce
          go_wp2_with fail
          refine c4.out.mono ?_
          rintro e w3 ⟨rfl, hg3, hr3⟩
          have HG3 := Lib.hid (gb_trans (gb_trans HG2.out hg3) (gb_alloc w3 (.cells #[.int .u8 (v : Int)] 5) _))
          have hr4 := Lib.hid (hr3.keep (below_alloc w3 (.cells #[.int .u8 (v : Int)] 5)))
          clear c4
          replace hg3 := Lib.hid hg3
          replace hr3 := Lib.hid hr3
          go_wp2_with fail
          go_roundw
          case rel => exact ⟨(y ++ o1, st3), rfl, hys, hr4, HG3, hM2⟩
          case measure => show 4 - (y ++ o1).size < 4 - y.size; rw [hys2.out]; omega
      · have hM2 := HM.out
        rw [show 4 - y.size = 0 by omega] at hM2
        change RR = (y, st2) at hM2
        subst hM2
        have d1 : ¬ (y.size : Int) < 4 := by omega
        replace HM := Lib.hid HM
        go_wp2_with fail
        go_ret
        exact ⟨rfl, HG2.out, hr.out⟩
def rHdr (s : ByteArray) (ps : List ByteArray) (st : Option Nat) : Hdr × Option Nat :=
  (⟨(rdC s st).1, (rdL s (rdC s st).2).1, (rAddr s ps (rdL s (rdC s st).2).2).1, (rAddr s ps (rAddr s ps (rdL s (rdC s st).2).2).2).1,
    (rdP s (rAddr s ps (rAddr s ps (rdL s (rdC s st).2).2).2).2).1, (rdP s (rAddr s ps (rAddr s ps (rdL s (rdC s st).2).2).2).2).2.1,
    (rdN s (rdP s (rAddr s ps (rAddr s ps (rdL s (rdC s st).2).2).2).2).2.2).1⟩,
   (rdN s (rdP s (rAddr s ps (rAddr s ps (rdL s (rdC s st).2).2).2).2).2.2).2)
end Cp
end Go.Proofs.Ytgdkehnakopnnaa
