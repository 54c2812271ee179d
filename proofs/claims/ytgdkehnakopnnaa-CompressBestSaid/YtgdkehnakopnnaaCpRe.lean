/- Package compress reads: addresses and ports. -/
import Derived.Test.YtgdkehnakopnnaaCpCb
namespace Go.Proofs.Ytgdkehnakopnnaa
open Go Go.RowKit Go.Sort
namespace Cp
open Mm
def one (v : Nat) : ByteArray := strOf [v]
theorem one_size (v : Nat) : (one v).size = 1 := rfl
def stepB (s : ByteArray) (x : ByteArray × Option Nat) : ByteArray × Option Nat := (x.1 ++ one (uns s 8 x.2).1, (uns s 8 x.2).2)
def moreB (s : ByteArray) : Nat → ByteArray × Option Nat → ByteArray × Option Nat
  | 0, x => x
  | k + 1, x => moreB s k (stepB s x)
/-- an address, whether its context exists, and the reader behind it -/
def pAddr (s : ByteArray) (ps : List ByteArray) (st : Option Nat) : ByteArray × Bool × Option Nat :=
  if (uns s 1 st).1 = 1 then
    if ps.length ≤ (uns s 3 (uns s 1 st).2).1 then (⟨#[]⟩, false, (uns s 3 (uns s 1 st).2).2)
    else
      let p := ps.getD (uns s 3 (uns s 1 st).2).1 default
      let r := moreB s (4 - p.size) (p, (uns s 3 (uns s 1 st).2).2)
      (r.1, true, r.2)
  else
    let r := moreB s 4 (⟨#[]⟩, (uns s 1 st).2)
    (r.1, true, r.2)
structure RdS (t : TypeId) (W0 w : World) (B : Nat) (s : ByteArray) (st : Option Nat) : Prop where
  below : Below W0.heap.size W0 w
  far : W0.heap.size ≤ B
  rd : RdIs t w B s st
theorem RdIs.keep {t : TypeId} {w w' : World} {B : Nat} {s : ByteArray} {st : Option Nat} (h : RdIs t w B s st) (hb : Below w.heap.size w w') : RdIs t w' B s st := by
  cases st with
  | some a => exact ⟨h.1.keep hb, h.2⟩
  | none => obtain ⟨s', a', e, he, hq⟩ := h; exact ⟨s', a', e, he, hq.keep hb⟩
theorem RdIs.set {t : TypeId} {w : World} {B : Nat} {s : ByteArray} {st : Option Nat} (h : RdIs t w B s st) {p : Addr} (hp : B ≠ p.block) (v : Value) : RdIs t (w.setCell p v) B s st := by
  cases st with
  | some a => exact ⟨h.1.other hp v, h.2⟩
  | none => obtain ⟨s', a', e, he, hq⟩ := h; exact ⟨s', a', e, he, hq.other hp v⟩
theorem RdS.next {t : TypeId} {W0 w w' : World} {B : Nat} {s : ByteArray} {st st' : Option Nat} (h : RdS t W0 w B s st) (hg : w.grownBy w' (some B)) (hr : RdIs t w' B s st') : RdS t W0 w' B s st' :=
  ⟨h.below.grown hg h.below.size (fun k hk => by injection hk with hk; have := h.far; omega), h.far, hr⟩
theorem RdS.keep {t : TypeId} {W0 w w' : World} {B : Nat} {s : ByteArray} {st : Option Nat} (h : RdS t W0 w B s st) (hb : Below w.heap.size w w') : RdS t W0 w' B s st :=
  ⟨h.below.trans (hb.mono h.below.size), h.far, h.rd.keep hb⟩
theorem gb_below {a w : World} {r : Option Nat} (h : Below a.heap.size a w) : a.grownBy w r := ⟨h.os, h.tape, h.output, h.size, fun i hi _ => h.block i hi⟩
theorem gb_alloc (w : World) (o : Obj) (r : Option Nat) : w.grownBy (w.alloc o) r := gb_below (below_alloc w o)
theorem convert_one (v : Nat) (W : World) : (convert 92 9 (.slice (some ⟨W.heap.size, 0, none⟩) 1 1)).run Try.prog (W.alloc (.cells #[.int .u8 (v : Int)] 5)) = .ok (.string (one v)) (W.alloc (.cells #[.int .u8 (v : Int)] 5)) := by
  refine run_convert_bytes_arg _ _ _ Try.underlying92 Try.underlying5 W.heap.size 0 1 1 [(v : Int)] rfl (fun i hi => ?_) _ Try.underlying9
  obtain rfl : i = 0 := by omega
  exact (Blk.new W _ _).cell 0
def strLen : Value → Nat
  | .string y => y.size
  | _ => 0
def AddrPost (t : TypeId) (v : Value) (B : Nat) (s : ByteArray) (st : Option Nat) (w : World) (e : Ending) (w' : World) : Prop := e = .returned v ∧ w.grownBy w' (some B) ∧ RdIs t w' B s st
set_option maxRecDepth 100000 in
set_option maxHeartbeats 8000000 in
theorem readAddress_any (W0 w : World) (B : Nat) (s : ByteArray) (st : Option Nat) (A : Option Addr) (n c : Nat) (ps : List ByteArray) (hs : CtxS W0 A n ps) (hss : s.size ≤ 100000) (hmem : ∀ p ∈ ps, p.size ≤ 4) (h : RdS 105 W0 w B s st) :
    Calls Try.prog 78 #[.pointer (some ⟨B, 0, none⟩), .slice A n c] w (AddrPost 105 (.tuple #[.string (pAddr s ps st).1, .bool (pAddr s ps st).2.1]) B s (pAddr s ps st).2.2 w) := by
  have hlen := hs.els.len
  have hR : pAddr s ps st = if (uns s 1 st).1 = 1 then
    (if ps.length ≤ (uns s 3 (uns s 1 st).2).1 then (⟨#[]⟩, false, (uns s 3 (uns s 1 st).2).2)
    else ((moreB s (4 - (ps.getD (uns s 3 (uns s 1 st).2).1 default).size) (ps.getD (uns s 3 (uns s 1 st).2).1 default, (uns s 3 (uns s 1 st).2).2)).1, true, (moreB s (4 - (ps.getD (uns s 3 (uns s 1 st).2).1 default).size) (ps.getD (uns s 3 (uns s 1 st).2).1 default, (uns s 3 (uns s 1 st).2).2)).2))
    else ((moreB s 4 (⟨#[]⟩, (uns s 1 st).2)).1, true, (moreB s 4 (⟨#[]⟩, (uns s 1 st).2)).2) := rfl
  have c1 := rFlg_any B s st w hss h.rd
  generalize pAddr s ps st = RR at *
  generalize uns s 1 st = u1 at *
  obtain ⟨f, s1⟩ := u1
  dsimp only at c1 hR
  have c2 := fun W (hr : RdIs 105 W B s s1) => rUns_any 3 B s s1 W (by omega) (by omega) hss hr
  have hu3 := uns_lt s 3 s1
  generalize uns s 3 s1 = u3 at *
  obtain ⟨i, s2⟩ := u3
  dsimp only at c2 hR hu3
  -- the loop, from any beginning
  replace hs := Lib.hid hs
  replace h := Lib.hid h
  replace c1 := Lib.hid c1
  replace c2 := Lib.hid c2
  by_cases hf : f = 1
  · subst hf
    rw [if_pos rfl] at hR
    by_cases hi : ps.length ≤ i
    · rw [if_pos hi] at hR
      subst hR
      have d : (n : Int) ≤ (i : Int) := by omega
      go_enter Try.func78, Try.ntmps78
      go_wp2_with fail
      refine c1.out.mono ?_
      rintro e w1 ⟨rfl, hg1, hr1⟩
      have c3 := Lib.hid (c2.out w1 hr1)
      clear c1 c2
      replace hg1 := Lib.hid hg1
      replace hr1 := Lib.hid hr1
      go_wp2_with fail
      refine c3.out.mono ?_
      rintro e w2 ⟨rfl, hg2, hr2⟩
      clear c3
      replace hg2 := Lib.hid hg2
      replace hr2 := Lib.hid hr2
      go_wp2_with fail
      go_ret2
      exact ⟨rfl, gb_trans hg1.out hg2.out, hr2.out⟩
    · rw [if_neg hi] at hR
      have d : ¬ (n : Int) ≤ (i : Int) := by omega
      have d2 : (i : Int) < (n : Int) := by omega
      have hx4 := hmem _ (getD_mem (show i < ps.length by omega))
      obtain ⟨b, off, rfl⟩ := hs.out.els.addr (by omega)
      have hcx := Lib.hid (fun W (hb : Below W0.heap.size W0 W) => ((hs.out.keep hb).elem (show i < n by omega)).1)
      generalize ps.getD i default = x at *
      generalize hm : moreB s (4 - x.size) (x, s2) = M at *
      subst hR
      replace hm := Lib.hid hm
      go_enter Try.func78, Try.ntmps78
      go_wp2_with fail
      refine c1.out.mono ?_
      rintro e w1 ⟨rfl, hg1, hr1⟩
      have c3 := Lib.hid (c2.out w1 hr1)
      clear c1 c2
      have h1 := Lib.hid (h.out.next hg1 hr1)
      replace hg1 := Lib.hid hg1
      replace hr1 := Lib.hid hr1
      go_wp2_with fail
      refine c3.out.mono ?_
      rintro e w2 ⟨rfl, hg2, hr2⟩
      have h2 := h1.out.next hg2 hr2
      have kc := hcx.out w2 h2.below
      have HG := Lib.hid (gb_trans hg1.out hg2)
      clear c3 hcx
      replace hg2 := Lib.hid hg2
      replace hr2 := Lib.hid hr2
      replace h2 := Lib.hid h2
      go_wp2_with fail
      clear kc
      rw [show decide (n ≤ i) = false from by simp; omega]
      go_loopw [6] (fun o wr => ∃ y : ByteArray × Option Nat, o = .string y.1 ∧ y.1.size ≤ 4 ∧ Hid (RdIs 105 wr B s y.2) ∧ Hid (w.grownBy wr (some B)) ∧ Hid (moreB s (4 - y.1.size) y = M)) (fun o _ => 4 - strLen o)
      case atStart => exact ⟨(x, s2), rfl, hx4, hr2, HG, hm⟩
      case round =>
        obtain ⟨⟨y, st2⟩, rfl, hy4, hr, HG2, HM⟩ := hrel
        dsimp only at hy4 hr HM
        by_cases hlt : y.size < 4
        · have c4 := rUns_any 8 B s st2 wr (by omega) (by omega) hss hr.out
          have hu8 := uns_lt s 8 st2
          have hM2 : moreB s (4 - (y ++ one (uns s 8 st2).1).size) (y ++ one (uns s 8 st2).1, (uns s 8 st2).2) = M := by
            rw [← HM.out, show 4 - y.size = (4 - (y ++ one (uns s 8 st2).1).size) + 1 by rw [ByteArray.size_append, one_size]; omega]
            rfl
          have hys : (y ++ one (uns s 8 st2).1).size ≤ 4 := by rw [ByteArray.size_append, one_size]; omega
          have hys2 : (y ++ one (uns s 8 st2).1).size = y.size + 1 := by rw [ByteArray.size_append, one_size]
          generalize uns s 8 st2 = u8 at *
          obtain ⟨v, st3⟩ := u8
          dsimp only at c4 hu8 hM2 hys hys2
          have hv1 : (v : Int) ≤ 255 := by omega
          have hv0 : (0 : Int) ≤ (v : Int) := by omega
          have d1 : (y.size : Int) < 4 := by omega
          have kc := fun W => convert_one v W
          have ho1 := one_size v
          generalize one v = o1 at *
          have hol : (y.size : Int) + (o1.size : Int) ≤ 9223372036854775807 := by omega
          replace hM2 := Lib.hid hM2
          replace c4 := Lib.hid c4
          replace hys2 := Lib.hid hys2
          replace ho1 := Lib.hid ho1
          clear hu8
          go_wp2_with fail
          refine c4.out.mono ?_
          rintro e w3 ⟨rfl, hg3, hr3⟩
          have HG3 := Lib.hid (gb_trans (gb_trans HG2.out hg3) (gb_alloc w3 (.cells #[.int .u8 (v : Int)] 5) _))
          have hr4 := Lib.hid (hr3.keep (below_alloc w3 (.cells #[.int .u8 (v : Int)] 5)))
          clear c4
          replace hg3 := Lib.hid hg3
          replace hr3 := Lib.hid hr3
          go_wp2_with fail
          go_roundw
          case rel => exact ⟨(y ++ o1, st3), rfl, hys, hr4, HG3, hM2⟩
          case measure => show 4 - (y ++ o1).size < 4 - y.size; rw [hys2.out]; omega
        · have hM2 := HM.out
          rw [show 4 - y.size = 0 by omega] at hM2
          subst hM2
          have d1 : ¬ (y.size : Int) < 4 := by omega
          replace HM := Lib.hid HM
          go_wp2_with fail
          go_ret2
          exact ⟨rfl, HG2.out, hr.out⟩
  · rw [if_neg hf] at hR
    generalize hm : moreB s 4 (⟨#[]⟩, s1) = M at *
    subst hR
    have d0 : (f == 1) = false := by rw [beq_eq_false_iff_ne]; exact hf
    rw [d0] at c1
    replace hm := Lib.hid hm
    replace hf := Lib.hid hf
    replace d0 := Lib.hid d0
    go_enter Try.func78, Try.ntmps78
    go_wp2_with fail
    refine c1.out.mono ?_
    rintro e w1 ⟨rfl, hg1, hr1⟩
    clear c1 c2
    replace hg1 := Lib.hid hg1
    replace hr1 := Lib.hid hr1
    go_wp2_with fail
    go_loopw [6] (fun o wr => ∃ y : ByteArray × Option Nat, o = .string y.1 ∧ y.1.size ≤ 4 ∧ Hid (RdIs 105 wr B s y.2) ∧ Hid (w.grownBy wr (some B)) ∧ Hid (moreB s (4 - y.1.size) y = M)) (fun o _ => 4 - strLen o)
    case atStart => exact ⟨(⟨#[]⟩, s1), rfl, by show (0 : Nat) ≤ 4; omega, hr1, hg1, hm⟩
    case round =>
      obtain ⟨⟨y, st2⟩, rfl, hy4, hr, HG2, HM⟩ := hrel
      dsimp only at hy4 hr HM
      by_cases hlt : y.size < 4
      · have c4 := rUns_any 8 B s st2 wr (by omega) (by omega) hss hr.out
        have hu8 := uns_lt s 8 st2
        have hM2 : moreB s (4 - (y ++ one (uns s 8 st2).1).size) (y ++ one (uns s 8 st2).1, (uns s 8 st2).2) = M := by
          rw [← HM.out, show 4 - y.size = (4 - (y ++ one (uns s 8 st2).1).size) + 1 by rw [ByteArray.size_append, one_size]; omega]
          rfl
        have hys : (y ++ one (uns s 8 st2).1).size ≤ 4 := by rw [ByteArray.size_append, one_size]; omega
        have hys2 : (y ++ one (uns s 8 st2).1).size = y.size + 1 := by rw [ByteArray.size_append, one_size]
        generalize uns s 8 st2 = u8 at *
        obtain ⟨v, st3⟩ := u8
        dsimp only at c4 hu8 hM2 hys hys2
        have hv1 : (v : Int) ≤ 255 := by omega
        have hv0 : (0 : Int) ≤ (v : Int) := by omega
        have d1 : (y.size : Int) < 4 := by omega
        have kc := fun W => convert_one v W
        have ho1 := one_size v
        generalize one v = o1 at *
        have hol : (y.size : Int) + (o1.size : Int) ≤ 9223372036854775807 := by omega
        replace hM2 := Lib.hid hM2
        replace c4 := Lib.hid c4
        replace hys2 := Lib.hid hys2
        replace ho1 := Lib.hid ho1
        clear hu8
        go_wp2_with fail
        refine c4.out.mono ?_
        rintro e w3 ⟨rfl, hg3, hr3⟩
        have HG3 := Lib.hid (gb_trans (gb_trans HG2.out hg3) (gb_alloc w3 (.cells #[.int .u8 (v : Int)] 5) _))
        have hr4 := Lib.hid (hr3.keep (below_alloc w3 (.cells #[.int .u8 (v : Int)] 5)))
        clear c4
        replace hg3 := Lib.hid hg3
        replace hr3 := Lib.hid hr3
        go_wp2_with fail
        go_roundw
        case rel => exact ⟨(y ++ o1, st3), rfl, hys, hr4, HG3, hM2⟩
        case measure => show 4 - (y ++ o1).size < 4 - y.size; rw [hys2.out]; omega
      · have hM2 := HM.out
        rw [show 4 - y.size = 0 by omega] at hM2
        subst hM2
        have d1 : ¬ (y.size : Int) < 4 := by omega
        replace HM := Lib.hid HM
        go_wp2_with fail
        go_ret2
        exact ⟨rfl, HG2.out, hr.out⟩
/-- the ports, and the reader behind them -/
def rdP (s : ByteArray) (st : Option Nat) : Nat × Nat × Option Nat :=
  if (uns s 2 st).1 = 3 then ((uns s 4 (uns s 2 st).2).1 + 61616, (uns s 4 (uns s 4 (uns s 2 st).2).2).1 + 61616, (uns s 4 (uns s 4 (uns s 2 st).2).2).2)
  else if (uns s 2 st).1 = 1 then ((uns s 16 (uns s 2 st).2).1, (uns s 16 (uns s 2 st).2).1, (uns s 16 (uns s 2 st).2).2)
  else if (uns s 2 st).1 = 2 then ((uns s 8 (uns s 2 st).2).1 + 61440, (uns s 16 (uns s 8 (uns s 2 st).2).2).1, (uns s 16 (uns s 8 (uns s 2 st).2).2).2)
  else ((uns s 16 (uns s 2 st).2).1, (uns s 16 (uns s 16 (uns s 2 st).2).2).1, (uns s 16 (uns s 16 (uns s 2 st).2).2).2)
set_option maxRecDepth 100000 in
set_option maxHeartbeats 8000000 in
theorem readPorts_any (w : World) (B : Nat) (s : ByteArray) (st : Option Nat) (hss : s.size ≤ 100000) (h : RdIs 105 w B s st) :
    Calls Try.prog 79 #[.pointer (some ⟨B, 0, none⟩)] w (AddrPost 105 (.tuple #[.int .i64 ((rdP s st).1 : Int), .int .i64 ((rdP s st).2.1 : Int)]) B s (rdP s st).2.2 w) := by
  have hR : rdP s st = if (uns s 2 st).1 = 3 then ((uns s 4 (uns s 2 st).2).1 + 61616, (uns s 4 (uns s 4 (uns s 2 st).2).2).1 + 61616, (uns s 4 (uns s 4 (uns s 2 st).2).2).2)
    else if (uns s 2 st).1 = 1 then ((uns s 16 (uns s 2 st).2).1, (uns s 16 (uns s 2 st).2).1, (uns s 16 (uns s 2 st).2).2)
    else if (uns s 2 st).1 = 2 then ((uns s 8 (uns s 2 st).2).1 + 61440, (uns s 16 (uns s 8 (uns s 2 st).2).2).1, (uns s 16 (uns s 8 (uns s 2 st).2).2).2)
    else ((uns s 16 (uns s 2 st).2).1, (uns s 16 (uns s 16 (uns s 2 st).2).2).1, (uns s 16 (uns s 16 (uns s 2 st).2).2).2) := rfl
  have c1 := rUns_any 2 B s st w (by omega) (by omega) hss h
  have hq := uns_lt s 2 st
  generalize rdP s st = RR at *
  generalize uns s 2 st = u1 at *
  obtain ⟨q, s1⟩ := u1
  dsimp only at c1 hR hq
  replace c1 := Lib.hid c1
  replace h := Lib.hid h
  by_cases e3 : q = 3
  · subst e3
    rw [if_pos rfl] at hR
    have cc0 := fun W (hr : RdIs 105 W B s s1) => rUns_any 4 B s s1 W (by omega) (by omega) hss hr
    have hl0 := uns_lt s 4 s1
    generalize uns s 4 s1 = v0 at *
    obtain ⟨n0, t0⟩ := v0
    dsimp only at cc0 hl0 hR
    have hb0 : (n0 : Int) ≤ 65535 := by omega
    have cc1 := fun W (hr : RdIs 105 W B s t0) => rUns_any 4 B s t0 W (by omega) (by omega) hss hr
    have hl1 := uns_lt s 4 t0
    generalize uns s 4 t0 = v1 at *
    obtain ⟨n1, t1⟩ := v1
    dsimp only at cc1 hl1 hR
    have hb1 : (n1 : Int) ≤ 65535 := by omega
    subst hR
    replace cc0 := Lib.hid cc0
    clear hl0
    replace cc1 := Lib.hid cc1
    clear hl1
    clear hq
    go_enter Try.func79, Try.ntmps79
    go_wp2_with fail
    refine c1.out.mono ?_
    rintro e w1 ⟨rfl, hg1, hr1⟩
    clear c1
    have x0 := Lib.hid (cc0.out w1 hr1)
    clear cc0
    replace hg1 := Lib.hid hg1
    replace hr1 := Lib.hid hr1
    go_wp2_with fail
    refine x0.out.mono ?_
    rintro e y0 ⟨rfl, hG0, hr0⟩
    clear x0
    have x1 := Lib.hid (cc1.out y0 hr0)
    clear cc1
    replace hG0 := Lib.hid hG0
    replace hr0 := Lib.hid hr0
    go_wp2_with fail
    refine x1.out.mono ?_
    rintro e y1 ⟨rfl, hG1, hr1⟩
    clear x1
    replace hG1 := Lib.hid hG1
    replace hr1 := Lib.hid hr1
    go_wp2_with fail
    go_ret2
    exact ⟨by first | rfl | simp, gb_trans (gb_trans (hg1.out) hG0.out) hG1.out, hr1.out⟩
  · skip
    by_cases e1 : q = 1
    · subst e1
      rw [if_neg (by decide), if_pos rfl] at hR
      clear e3
      have cc0 := fun W (hr : RdIs 105 W B s s1) => rUns_any 16 B s s1 W (by omega) (by omega) hss hr
      have hl0 := uns_lt s 16 s1
      generalize uns s 16 s1 = v0 at *
      obtain ⟨n0, t0⟩ := v0
      dsimp only at cc0 hl0 hR
      have hb0 : (n0 : Int) ≤ 65535 := by omega
      subst hR
      replace cc0 := Lib.hid cc0
      clear hl0
      clear hq
      go_enter Try.func79, Try.ntmps79
      go_wp2_with fail
      refine c1.out.mono ?_
      rintro e w1 ⟨rfl, hg1, hr1⟩
      clear c1
      have x0 := Lib.hid (cc0.out w1 hr1)
      clear cc0
      replace hg1 := Lib.hid hg1
      replace hr1 := Lib.hid hr1
      go_wp2_with fail
      refine x0.out.mono ?_
      rintro e y0 ⟨rfl, hG0, hr0⟩
      clear x0
      replace hG0 := Lib.hid hG0
      replace hr0 := Lib.hid hr0
      go_wp2_with fail
      go_ret2
      exact ⟨by first | rfl | simp, gb_trans (hg1.out) hG0.out, hr0.out⟩
    · skip
      by_cases e2 : q = 2
      · subst e2
        rw [if_neg (by decide), if_neg (by decide), if_pos rfl] at hR
        clear e3
        clear e1
        have cc0 := fun W (hr : RdIs 105 W B s s1) => rUns_any 8 B s s1 W (by omega) (by omega) hss hr
        have hl0 := uns_lt s 8 s1
        generalize uns s 8 s1 = v0 at *
        obtain ⟨n0, t0⟩ := v0
        dsimp only at cc0 hl0 hR
        have hb0 : (n0 : Int) ≤ 65535 := by omega
        have cc1 := fun W (hr : RdIs 105 W B s t0) => rUns_any 16 B s t0 W (by omega) (by omega) hss hr
        have hl1 := uns_lt s 16 t0
        generalize uns s 16 t0 = v1 at *
        obtain ⟨n1, t1⟩ := v1
        dsimp only at cc1 hl1 hR
        have hb1 : (n1 : Int) ≤ 65535 := by omega
        subst hR
        replace cc0 := Lib.hid cc0
        clear hl0
        replace cc1 := Lib.hid cc1
        clear hl1
        clear hq
        go_enter Try.func79, Try.ntmps79
        go_wp2_with fail
        refine c1.out.mono ?_
        rintro e w1 ⟨rfl, hg1, hr1⟩
        clear c1
        have x0 := Lib.hid (cc0.out w1 hr1)
        clear cc0
        replace hg1 := Lib.hid hg1
        replace hr1 := Lib.hid hr1
        go_wp2_with fail
        refine x0.out.mono ?_
        rintro e y0 ⟨rfl, hG0, hr0⟩
        clear x0
        have x1 := Lib.hid (cc1.out y0 hr0)
        clear cc1
        replace hG0 := Lib.hid hG0
        replace hr0 := Lib.hid hr0
        go_wp2_with fail
        refine x1.out.mono ?_
        rintro e y1 ⟨rfl, hG1, hr1⟩
        clear x1
        replace hG1 := Lib.hid hG1
        replace hr1 := Lib.hid hr1
        go_wp2_with fail
        go_ret2
        exact ⟨by first | rfl | simp, gb_trans (gb_trans (hg1.out) hG0.out) hG1.out, hr1.out⟩
      · skip
        rw [if_neg e3, if_neg e1, if_neg e2] at hR
        have d3 : ((q : Int) == 3) = false := by rw [beq_eq_false_iff_ne]; omega
        have d1 : ((q : Int) == 1) = false := by rw [beq_eq_false_iff_ne]; omega
        have d2 : ((q : Int) == 2) = false := by rw [beq_eq_false_iff_ne]; omega
        have cc0 := fun W (hr : RdIs 105 W B s s1) => rUns_any 16 B s s1 W (by omega) (by omega) hss hr
        have hl0 := uns_lt s 16 s1
        generalize uns s 16 s1 = v0 at *
        obtain ⟨n0, t0⟩ := v0
        dsimp only at cc0 hl0 hR
        have hb0 : (n0 : Int) ≤ 65535 := by omega
        have cc1 := fun W (hr : RdIs 105 W B s t0) => rUns_any 16 B s t0 W (by omega) (by omega) hss hr
        have hl1 := uns_lt s 16 t0
        generalize uns s 16 t0 = v1 at *
        obtain ⟨n1, t1⟩ := v1
        dsimp only at cc1 hl1 hR
        have hb1 : (n1 : Int) ≤ 65535 := by omega
        subst hR
        replace cc0 := Lib.hid cc0
        clear hl0
        replace cc1 := Lib.hid cc1
        clear hl1
        replace e3 := Lib.hid e3
        replace e1 := Lib.hid e1
        replace e2 := Lib.hid e2
        clear hq
        go_enter Try.func79, Try.ntmps79
        go_wp2_with fail
        refine c1.out.mono ?_
        rintro e w1 ⟨rfl, hg1, hr1⟩
        clear c1
        have x0 := Lib.hid (cc0.out w1 hr1)
        clear cc0
        replace hg1 := Lib.hid hg1
        replace hr1 := Lib.hid hr1
        go_wp2_with fail
        refine x0.out.mono ?_
        rintro e y0 ⟨rfl, hG0, hr0⟩
        clear x0
        have x1 := Lib.hid (cc1.out y0 hr0)
        clear cc1
        replace hG0 := Lib.hid hG0
        replace hr0 := Lib.hid hr0
        go_wp2_with fail
        refine x1.out.mono ?_
        rintro e y1 ⟨rfl, hG1, hr1⟩
        clear x1
        replace hG1 := Lib.hid hG1
        replace hr1 := Lib.hid hr1
        go_wp2_with fail
        go_ret2
        exact ⟨by first | rfl | simp, gb_trans (gb_trans (hg1.out) hG0.out) hG1.out, hr1.out⟩
end Cp
end Go.Proofs.Ytgdkehnakopnnaa
