/- Package compress reads a header. -/
import Derived.Test.YtgdkehnakopnnaaCpRe
namespace Go.Proofs.Ytgdkehnakopnnaa
open Go Go.RowKit Go.Sort
namespace Cp
open Mm
def rdC (s : ByteArray) (st : Option Nat) : Nat × Option Nat := if (uns s 1 st).1 = 1 then uns s 8 (uns s 1 st).2 else (0, (uns s 1 st).2)
def rdL (s : ByteArray) (st : Option Nat) : Nat × Option Nat :=
  if (uns s 2 st).1 = 0 then uns s 8 (uns s 2 st).2 else ((if (uns s 2 st).1 = 1 then 1 else if (uns s 2 st).1 = 2 then 64 else 255), (uns s 2 st).2)
def rdN (s : ByteArray) (st : Option Nat) : Nat × Option Nat := if (uns s 1 st).1 = 1 then uns s 12 (uns s 1 st).2 else uns s 6 (uns s 1 st).2
def pHdr (s : ByteArray) (ps : List ByteArray) (st : Option Nat) : Hdr × Bool :=
  (⟨(rdC s st).1, (rdL s (rdC s st).2).1, (pAddr s ps (rdL s (rdC s st).2).2).1, (pAddr s ps (pAddr s ps (rdL s (rdC s st).2).2).2.2).1,
    (rdP s (pAddr s ps (pAddr s ps (rdL s (rdC s st).2).2).2.2).2.2).1, (rdP s (pAddr s ps (pAddr s ps (rdL s (rdC s st).2).2).2.2).2.2).2.1,
    (rdN s (rdP s (pAddr s ps (pAddr s ps (rdL s (rdC s st).2).2).2.2).2.2).2.2).1⟩,
   (pAddr s ps (rdL s (rdC s st).2).2).2.1 && (pAddr s ps (pAddr s ps (rdL s (rdC s st).2).2).2.2).2.1 && (rdN s (rdP s (pAddr s ps (pAddr s ps (rdL s (rdC s st).2).2).2.2).2.2).2.2).2.isSome)
def limV (q : Nat) : Int := if q = 0 then -1 else if q = 1 then 1 else if q = 2 then 64 else 255
/-- where read stands: the reader, the header that is filled, the result's cell -/
structure Rp (t : TypeId) (W0 w wx : World) (B : Nat) (s : ByteArray) (bh bR : Nat) (h : Hdr) (st : Option Nat) : Prop where
  rd : RdS t W0 wx B s st
  hd : Blk wx bh (hdrC h) 24
  res : Blk wx bR (hdrC ⟨0, 0, ⟨#[]⟩, ⟨#[]⟩, 0, 0, 0⟩) 24
  gb : w.grownBy wx (some B)
  nh : bh ≠ B
  nR : bR ≠ B
  nn : bR ≠ bh
  lh : w.heap.size ≤ bh
  lR : w.heap.size ≤ bR
  lw : W0.heap.size ≤ w.heap.size
theorem gb_far {a w : World} {g q i : Nat} (h : a.grownBy w (some g)) (hq : a.heap.size ≤ q) (v : Value) : a.grownBy (w.setCell ⟨q, i, none⟩ v) (some g) :=
  ⟨h.os, h.tape, h.output, by simpa [World.setCell] using h.size, fun k hk hne => by
    rw [heap_setCell_other w ⟨q, i, none⟩ k v (fun e => by simp at e; omega)]; exact h.block k hk hne⟩
section
variable {t : TypeId} {W0 w wx w' : World} {B : Nat} {s : ByteArray} {bh bR : Nat} {c l p r n : Int} {a b : ByteArray} {st st' : Option Nat}
theorem Rp.op {h : Hdr} (R : Rp t W0 w wx B s bh bR h st) (hg : wx.grownBy w' (some B)) (hr : RdIs t w' B s st') : Rp t W0 w w' B s bh bR h st' :=
  ⟨R.rd.next hg hr, R.hd.grown hg (fun e => R.nh (by injection e with e; exact e.symm)), R.res.grown hg (fun e => R.nR (by injection e with e; exact e.symm)), gb_trans R.gb hg, R.nh, R.nR, R.nn, R.lh, R.lR, R.lw⟩
theorem Rp.keep {h : Hdr} (R : Rp t W0 w wx B s bh bR h st) (hb : Below wx.heap.size wx w') : Rp t W0 w w' B s bh bR h st := R.op (gb_below hb) (R.rd.rd.keep hb)
theorem Rp.putC {h : Hdr} (R : Rp t W0 w wx B s bh bR h st) (i : Nat) (v : Value) {h' : Hdr} (he : (hdrC h).setIfInBounds i v = hdrC h') : Rp t W0 w (wx.setCell ⟨bh, i, none⟩ v) B s bh bR h' st :=
  ⟨⟨R.rd.below.setCell (by have := R.lh; have := R.lw; show W0.heap.size ≤ bh; omega) _, R.rd.far, R.rd.rd.set (fun e => R.nh e.symm) v⟩,
   by rw [← he]; exact R.hd.set i v, R.res.other (fun e => R.nn e) v, gb_far R.gb R.lh v, R.nh, R.nR, R.nn, R.lh, R.lR, R.lw⟩
end
def put7 (w : World) (q : Nat) (C : Array Value) : World :=
  ((((((w.setCell ⟨q, 0, none⟩ (C.getD 0 undef)).setCell ⟨q, 1, none⟩ (C.getD 1 undef)).setCell ⟨q, 2, none⟩ (C.getD 2 undef)).setCell ⟨q, 3, none⟩ (C.getD 3 undef)).setCell ⟨q, 4, none⟩ (C.getD 4 undef)).setCell ⟨q, 5, none⟩ (C.getD 5 undef)).setCell ⟨q, 6, none⟩ (C.getD 6 undef)
set_option maxRecDepth 100000 in
set_option maxHeartbeats 2000000 in
theorem put7_blk {w : World} {q : Nat} {h : Hdr} {t : TypeId} (hb : Blk w q (hdrC h) t) (h' : Hdr) : Blk (put7 w q (hdrC h')) q (hdrC h') t := by
  obtain ⟨c, l, a, b, p, r, n⟩ := h
  obtain ⟨c', l', a', b', p', r', n'⟩ := h'
  have := ((((((hb.set 0 (.int .i64 c')).set 1 (.int .i64 l')).set 2 (.string a')).set 3 (.string b')).set 4 (.int .i64 p')).set 5 (.int .i64 r')).set 6 (.int .i64 n')
  exact this
theorem put7_gb {a w : World} {g q : Nat} (h : a.grownBy w (some g)) (hq : a.heap.size ≤ q) (C : Array Value) : a.grownBy (put7 w q C) (some g) :=
  gb_far (gb_far (gb_far (gb_far (gb_far (gb_far (gb_far h hq _) hq _) hq _) hq _) hq _) hq _) hq _
set_option maxRecDepth 100000 in
set_option maxHeartbeats 2000000 in
theorem err_cell (B : Nat) (m : Int) (W : World) (h : W.cell? ⟨B, 2, none⟩ = some (.int .i64 m)) : Calls Try.prog 80 #[.pointer (some ⟨B, 0, none⟩)] W fun e w' => e = .returned (.int .i64 m) ∧ W = w' := by
  go_enter Try.func80, Try.ntmps80
  go_wp2_with fail
  go_ret
  exact ⟨rfl, rfl⟩
set_option maxRecDepth 100000 in
set_option maxHeartbeats 16000000 in
theorem read_any (W0 w : World) (B : Nat) (s : ByteArray) (st : Option Nat) (A : Option Addr) (n k : Nat) (ps : List ByteArray) (hs : CtxS W0 A n ps) (hss : s.size ≤ 100000) (hmem : ∀ p ∈ ps, p.size ≤ 4) (h : RdS 105 W0 w B s st) :
    Calls Try.prog 44 #[.slice A n k, .pointer (some ⟨B, 0, none⟩)] w fun e w' => e = .returned (.tuple #[.agg (hdrC (pHdr s ps st).1), .bool (pHdr s ps st).2]) ∧ w.grownBy w' (some B) := by
  have hR : pHdr s ps st = (⟨(rdC s st).1, (rdL s (rdC s st).2).1, (pAddr s ps (rdL s (rdC s st).2).2).1, (pAddr s ps (pAddr s ps (rdL s (rdC s st).2).2).2.2).1,
    (rdP s (pAddr s ps (pAddr s ps (rdL s (rdC s st).2).2).2.2).2.2).1, (rdP s (pAddr s ps (pAddr s ps (rdL s (rdC s st).2).2).2.2).2.2).2.1,
    (rdN s (rdP s (pAddr s ps (pAddr s ps (rdL s (rdC s st).2).2).2.2).2.2).2.2).1⟩,
   (pAddr s ps (rdL s (rdC s st).2).2).2.1 && (pAddr s ps (pAddr s ps (rdL s (rdC s st).2).2).2.2).2.1 && (rdN s (rdP s (pAddr s ps (pAddr s ps (rdL s (rdC s st).2).2).2.2).2.2).2.2).2.isSome) := rfl
  have hC : Hid (rdC s st = if (uns s 1 st).1 = 1 then uns s 8 (uns s 1 st).2 else (0, (uns s 1 st).2)) := rfl
  generalize pHdr s ps st = RR at *
  generalize rdC s st = vC at *
  obtain ⟨c, s1⟩ := vC
  dsimp only at hR
  have hL : Hid (rdL s s1 = if (uns s 2 s1).1 = 0 then uns s 8 (uns s 2 s1).2 else ((if (uns s 2 s1).1 = 1 then 1 else if (uns s 2 s1).1 = 2 then 64 else 255), (uns s 2 s1).2)) := rfl
  generalize rdL s s1 = vL at *
  obtain ⟨l, s2⟩ := vL
  dsimp only at hR
  have cA1 : Hid (∀ wx, RdS 105 W0 wx B s s2 → Calls Try.prog 78 #[.pointer (some ⟨B, 0, none⟩), .slice A n k] wx (AddrPost 105 (.tuple #[.string (pAddr s ps s2).1, .bool (pAddr s ps s2).2.1]) B s (pAddr s ps s2).2.2 wx)) := fun wx h => readAddress_any W0 wx B s s2 A n k ps hs hss hmem h
  generalize pAddr s ps s2 = vA at *
  obtain ⟨a, oa, s3⟩ := vA
  dsimp only at hR cA1
  have cA2 : Hid (∀ wx, RdS 105 W0 wx B s s3 → Calls Try.prog 78 #[.pointer (some ⟨B, 0, none⟩), .slice A n k] wx (AddrPost 105 (.tuple #[.string (pAddr s ps s3).1, .bool (pAddr s ps s3).2.1]) B s (pAddr s ps s3).2.2 wx)) := fun wx h => readAddress_any W0 wx B s s3 A n k ps hs hss hmem h
  generalize pAddr s ps s3 = vB at *
  obtain ⟨b, ob, s4⟩ := vB
  dsimp only at hR cA2
  have cP : Hid (∀ wx, RdIs 105 wx B s s4 → Calls Try.prog 79 #[.pointer (some ⟨B, 0, none⟩)] wx (AddrPost 105 (.tuple #[.int .i64 ((rdP s s4).1 : Int), .int .i64 ((rdP s s4).2.1 : Int)]) B s (rdP s s4).2.2 wx)) := fun wx h => readPorts_any wx B s s4 hss h
  generalize rdP s s4 = vP at *
  obtain ⟨p, r, s5⟩ := vP
  dsimp only at hR cP
  have hN : Hid (rdN s s5 = if (uns s 1 s5).1 = 1 then uns s 12 (uns s 1 s5).2 else uns s 6 (uns s 1 s5).2) := rfl
  generalize rdN s s5 = vN at *
  obtain ⟨n', s6⟩ := vN
  dsimp only at hR
  subst hR
  have hP0 : Rp 105 W0 w ((w.alloc (.cells #[.int .i64 0, .int .i64 0, .string ⟨#[]⟩, .string ⟨#[]⟩, .int .i64 0, .int .i64 0, .int .i64 0] 24)).alloc (.cells #[.int .i64 0, .int .i64 0, .string ⟨#[]⟩, .string ⟨#[]⟩, .int .i64 0, .int .i64 0, .int .i64 0] 24)) B s (w.heap.size + 1) w.heap.size ⟨0, 0, ⟨#[]⟩, ⟨#[]⟩, 0, 0, 0⟩ st := by
    have hB := h.rd.lt
    refine ⟨(h.keep (below_alloc _ _)).keep (below_alloc _ _), ?_, (Blk.new w _ _).alloc _, gb_trans (gb_alloc _ _ _) (gb_alloc _ _ _), by omega, by omega, by omega, by omega, by omega, h.below.size⟩
    have := Blk.new (w.alloc (.cells #[.int .i64 0, .int .i64 0, .string ⟨#[]⟩, .string ⟨#[]⟩, .int .i64 0, .int .i64 0, .int .i64 0] 24)) #[.int .i64 0, .int .i64 0, .string ⟨#[]⟩, .string ⟨#[]⟩, .int .i64 0, .int .i64 0, .int .i64 0] 24
    rw [show (w.alloc (.cells #[.int .i64 0, .int .i64 0, .string ⟨#[]⟩, .string ⟨#[]⟩, .int .i64 0, .int .i64 0, .int .i64 0] 24)).heap.size = w.heap.size + 1 by simp] at this
    exact this
  dsimp only
  replace hs := Lib.hid hs
  replace h := Lib.hid h
  replace hP0 := Lib.hid hP0
  clear hmem
  go_enter Try.func44, Try.ntmps44
  -- the class
  have f0 := rFlg_any B s st _ hss hP0.out.rd.rd
  have hC2 := hC.out
  have cu := fun W (hr : RdIs 105 W B s (uns s 1 st).2) => rUns_any 8 B s (uns s 1 st).2 W (by omega) (by omega) hss hr
  generalize uns s 1 st = u at *
  obtain ⟨f, t1⟩ := u
  dsimp only at f0 hC2 cu
  replace f0 := Lib.hid f0
  replace cu := Lib.hid cu
  go_upto_if 10 with (go_at_call 76; refine f0.out.mono ?_; rintro e w1 ⟨rfl, hg_, hr_⟩; have hP1 := Lib.hid (hP0.out.op hg_ hr_); clear hg_ hr_)
  clear f0 hC
  go_cut [] (fun wx => Hid (Rp 105 W0 w wx B s (w.heap.size + 1) w.heap.size ⟨(c : Int), 0, ⟨#[]⟩, ⟨#[]⟩, 0, 0, 0⟩ s1))
  case first =>
    by_cases hf : f = 1
    · subst hf
      rw [if_pos rfl] at hC2
      rw [← hC2] at cu
      have x0 := Lib.hid (cu.out w1 hP1.out.rd.rd)
      clear cu
      replace hC2 := Lib.hid hC2
      go_wp2_with fail
      refine x0.out.mono ?_
      rintro e w2 ⟨rfl, hg_, hr_⟩
      have hP2 := Lib.hid (hP1.out.op hg_ hr_)
      clear hg_ hr_ x0
      have kf := hP2.out.hd.free 0
      have kk := hP2.out.hd.cell 0
      have hP3 := Lib.hid (hP2.out.putC 0 (.int .i64 (c : Int)) (h' := ⟨(c : Int), 0, ⟨#[]⟩, ⟨#[]⟩, 0, 0, 0⟩) rfl)
      change _ = some (Value.int _ _) at kk
      go_wp2_with fail
      go_meet
      exact hP3
    · rw [if_neg hf] at hC2
      injection hC2 with e1 e2
      subst e1 e2
      have d0 : (f == 1) = false := by rw [beq_eq_false_iff_ne]; exact hf
      rw [d0]
      clear cu
      replace hf := Lib.hid hf
      replace d0 := Lib.hid d0
      go_wp2_with fail
      go_meet
      exact hP1
  case rest =>
    clear hP0 hP1 hC2 cu
    generalize wc = wa at *
    have hP := hcut
    clear hcut
    -- the limit
    have cl := limits_any wa
    have hb_ := below_alloc wa (.cells #[.int .i64 (-1), .int .i64 1, .int .i64 64, .int .i64 255] 3)
    have hP1 := hP.out.keep hb_
    have cq := rUns_any 2 B s s1 _ (by omega) (by omega) hss hP1.rd.rd
    have hLb := Blk.new wa #[.int .i64 (-1), .int .i64 1, .int .i64 64, .int .i64 255] 3
    have hBa := hP.out.rd.rd.lt
    have hL2 := hL.out
    have hq4 := uns_lt s 2 s1
    have cu := fun W (hr : RdIs 105 W B s (uns s 2 s1).2) => rUns_any 8 B s (uns s 2 s1).2 W (by omega) (by omega) hss hr
    generalize uns s 2 s1 = u at *
    obtain ⟨q, t1⟩ := u
    dsimp only at cq hL2 cu hq4
    replace cl := Lib.hid cl
    replace cq := Lib.hid cq
    replace cu := Lib.hid cu
    replace hP1 := Lib.hid hP1
    replace hb_ := Lib.hid hb_
    replace hLb := Lib.hid hLb
    go_wp2_with fail
    refine cl.out.mono ?_
    rintro e w1 ⟨rfl, rfl⟩
    clear cl
    go_wp2_with fail
    refine cq.out.mono ?_
    rintro e w2 ⟨rfl, hg_, hr_⟩
    have hP2 := Lib.hid (hP1.out.op hg_ hr_)
    have hL3 := hLb.out.grown hg_ (fun e => by injection e with e; omega)
    clear cq hLb hg_ hr_
    have kf := hP2.out.hd.free 1
    have kq : w2.cell? ⟨wa.heap.size, q, none⟩ = some (.int .i64 (limV q)) := by
      rw [hL3.cell]
      obtain rfl | rfl | rfl | rfl : q = 0 ∨ q = 1 ∨ q = 2 ∨ q = 3 := by omega
      all_goals rfl
    have kk := hP2.out.hd.cell 1
    change _ = some (Value.int _ _) at kk
    have dq : (q : Int) < 4 := by omega
    have hP3 := Lib.hid (hP2.out.putC 1 (.int .i64 (limV q)) (h' := ⟨(c : Int), (limV q), ⟨#[]⟩, ⟨#[]⟩, 0, 0, 0⟩) rfl)
    have k3 := hP3.out.hd.cell 1
    have hV : Hid (limV q = if q = 0 then -1 else if q = 1 then 1 else if q = 2 then 64 else 255) := rfl
    generalize limV q = V at *
    change _ = some (Value.int _ _) at k3
    replace hL3 := Lib.hid hL3
    go_upto_if 22 with fail
    clear kk kq kf
    go_cut [] (fun wx => Hid (Rp 105 W0 w wx B s (w.heap.size + 1) w.heap.size ⟨(c : Int), (l : Int), ⟨#[]⟩, ⟨#[]⟩, 0, 0, 0⟩ s2))
    case first =>
      by_cases hq0 : q = 0
      · subst hq0
        obtain rfl : V = -1 := hV.out
        rw [if_pos rfl] at hL2
        rw [← hL2] at cu
        have x0 := Lib.hid (cu.out _ hP3.out.rd.rd)
        clear cu
        replace hL2 := Lib.hid hL2
        go_wp2_with fail
        refine x0.out.mono ?_
        rintro e w4 ⟨rfl, hg_, hr_⟩
        have hP4 := Lib.hid (hP3.out.op hg_ hr_)
        clear hg_ hr_ x0 k3
        have kf := hP4.out.hd.free 1
        have kk := hP4.out.hd.cell 1
        have hP5 := Lib.hid (hP4.out.putC 1 (.int .i64 (l : Int)) (h' := ⟨(c : Int), (l : Int), ⟨#[]⟩, ⟨#[]⟩, 0, 0, 0⟩) rfl)
        change _ = some (Value.int _ _) at kk
        go_wp2_with fail
        go_meet
        exact hP5
      · rw [if_neg hq0] at hL2
        have hVp : V = (if q = 1 then 1 else if q = 2 then 64 else 255) := by rw [hV.out, if_neg hq0]
        injection hL2 with e1 e2
        have hVl : V = (l : Int) := by rw [hVp, e1]; split <;> (try split) <;> rfl
        subst e2
        subst hVl
        have d0 : ¬ (l : Int) < 0 := by omega
        clear cu
        replace hq0 := Lib.hid hq0
        replace e1 := Lib.hid e1
        replace hVp := Lib.hid hVp
        go_wp2_with fail
        go_meet
        exact hP3
    case rest =>
      clear hP hP1 hP2 hP3 hL hL2 hV hL3 cu k3 hb_
      generalize wc = wb at *
      have hP := hcut
      clear hcut
      -- the addresses
      have x1 := Lib.hid (cA1.out wb hP.out.rd)
      clear cA1
      go_wp2_with fail
      refine x1.out.mono ?_
      rintro e w3 hq
      obtain ⟨rfl, hg_, hr_⟩ := hq
      have hP1 := Lib.hid (hP.out.op hg_ hr_)
      clear hg_ hr_ x1 hP
      have kf := hP1.out.hd.free 2
      have kk := hP1.out.hd.cell 2
      have hP2 := Lib.hid (hP1.out.putC 2 (.string a) (h' := ⟨(c : Int), (l : Int), a, ⟨#[]⟩, 0, 0, 0⟩) rfl)
      change _ = some (Value.string _) at kk
      have x1 := Lib.hid (cA2.out _ hP2.out.rd)
      clear cA2
      go_wp2_with fail
      refine x1.out.mono ?_
      rintro e w4 hq
      obtain ⟨rfl, hg_, hr_⟩ := hq
      have hP3 := Lib.hid (hP2.out.op hg_ hr_)
      clear hg_ hr_ x1 hP1 hP2 kf kk
      have kf := hP3.out.hd.free 3
      have kk := hP3.out.hd.cell 3
      have hP4 := Lib.hid (hP3.out.putC 3 (.string b) (h' := ⟨(c : Int), (l : Int), a, b, 0, 0, 0⟩) rfl)
      change _ = some (Value.string _) at kk
      -- the ports
      have x1 := Lib.hid (cP.out _ hP4.out.rd.rd)
      clear cP
      go_wp2_with fail
      refine x1.out.mono ?_
      rintro e w5 hq
      obtain ⟨rfl, hg_, hr_⟩ := hq
      have hP5 := Lib.hid (hP4.out.op hg_ hr_)
      clear hg_ hr_ x1 hP3 hP4 kf kk
      have kf := hP5.out.hd.free
      have kk4 := hP5.out.hd.cell 4
      have kk5 := hP5.out.hd.cell 5
      have hP6 := Lib.hid ((hP5.out.putC 4 (.int .i64 (p : Int)) (h' := ⟨(c : Int), (l : Int), a, b, (p : Int), 0, 0⟩) rfl).putC 5 (.int .i64 (r : Int)) (h' := ⟨(c : Int), (l : Int), a, b, (p : Int), (r : Int), 0⟩) rfl)
      change _ = some (Value.int _ _) at kk4 kk5
      -- the length
      have f0 := rFlg_any B s s5 _ hss hP6.out.rd.rd
      have hN2 := hN.out
      have cu := fun W (hr : RdIs 105 W B s (uns s 1 s5).2) => rUns_any 12 B s (uns s 1 s5).2 W (by omega) (by omega) hss hr
      have cv := fun W (hr : RdIs 105 W B s (uns s 1 s5).2) => rUns_any 6 B s (uns s 1 s5).2 W (by omega) (by omega) hss hr
      generalize uns s 1 s5 = u at *
      obtain ⟨f, t2⟩ := u
      dsimp only at f0 hN2 cu cv
      replace f0 := Lib.hid f0
      replace cu := Lib.hid cu
      replace cv := Lib.hid cv
      go_wp2_with fail
      refine f0.out.mono ?_
      rintro e w6 ⟨rfl, hg_, hr_⟩
      have hP7 := Lib.hid (hP6.out.op hg_ hr_)
      clear hg_ hr_ f0 hP5 hP6 kf kk4 kk5 hN
      go_upto_if 48 with fail
      go_cut [] (fun wx => Hid (Rp 105 W0 w wx B s (w.heap.size + 1) w.heap.size ⟨(c : Int), (l : Int), a, b, (p : Int), (r : Int), (n' : Int)⟩ s6))
      case first =>
        by_cases hf : f = 1
        · subst hf
          rw [if_pos rfl] at hN2
          rw [← hN2] at cu
          have x0 := Lib.hid (cu.out _ hP7.out.rd.rd)
          clear cu cv
          replace hN2 := Lib.hid hN2
          go_wp2_with fail
          refine x0.out.mono ?_
          rintro e w7 ⟨rfl, hg_, hr_⟩
          have hP8 := Lib.hid (hP7.out.op hg_ hr_)
          clear hg_ hr_ x0
          have kf := hP8.out.hd.free 6
          have kk := hP8.out.hd.cell 6
          have hP9 := Lib.hid (hP8.out.putC 6 (.int .i64 (n' : Int)) (h' := ⟨(c : Int), (l : Int), a, b, (p : Int), (r : Int), (n' : Int)⟩) rfl)
          change _ = some (Value.int _ _) at kk
          go_wp2_with fail
          go_meet
          exact hP9
        · rw [if_neg hf] at hN2
          rw [← hN2] at cv
          have x0 := Lib.hid (cv.out _ hP7.out.rd.rd)
          have d0 : (f == 1) = false := by rw [beq_eq_false_iff_ne]; exact hf
          rw [d0]
          clear cu cv
          replace hN2 := Lib.hid hN2
          replace hf := Lib.hid hf
          replace d0 := Lib.hid d0
          go_wp2_with fail
          refine x0.out.mono ?_
          rintro e w7 ⟨rfl, hg_, hr_⟩
          have hP8 := Lib.hid (hP7.out.op hg_ hr_)
          clear hg_ hr_ x0
          have kf := hP8.out.hd.free 6
          have kk := hP8.out.hd.cell 6
          have hP9 := Lib.hid (hP8.out.putC 6 (.int .i64 (n' : Int)) (h' := ⟨(c : Int), (l : Int), a, b, (p : Int), (r : Int), (n' : Int)⟩) rfl)
          change _ = some (Value.int _ _) at kk
          go_wp2_with fail
          go_meet
          exact hP9
      case rest =>
        clear hP7 hN2 cu cv
        generalize wc = wd at *
        have hP := hcut
        clear hcut
        obtain ⟨m, hm, k2⟩ : ∃ m : Int, stV s6 m ∧ wd.cell? ⟨B, 2, none⟩ = some (.int .i64 m) := by
          have hr := hP.out.rd.rd
          cases s6 with
          | none => obtain ⟨s', a', e, he, hb⟩ := hr; exact ⟨e, by unfold stV; simp [he], hb.cell 2⟩
          | some a => exact ⟨0, by unfold stV; simp, hr.1.cell 2⟩
        have h0 : wd.cell? ⟨w.heap.size + 1, 0, none⟩ = some (.int .i64 (c : Int)) := hP.out.hd.cell 0
        have h1 : wd.cell? ⟨w.heap.size + 1, 1, none⟩ = some (.int .i64 (l : Int)) := hP.out.hd.cell 1
        have h2 : wd.cell? ⟨w.heap.size + 1, 2, none⟩ = some (.string a) := hP.out.hd.cell 2
        have h3 : wd.cell? ⟨w.heap.size + 1, 3, none⟩ = some (.string b) := hP.out.hd.cell 3
        have h4 : wd.cell? ⟨w.heap.size + 1, 4, none⟩ = some (.int .i64 (p : Int)) := hP.out.hd.cell 4
        have h5 : wd.cell? ⟨w.heap.size + 1, 5, none⟩ = some (.int .i64 (r : Int)) := hP.out.hd.cell 5
        have h6 : wd.cell? ⟨w.heap.size + 1, 6, none⟩ = some (.int .i64 (n' : Int)) := hP.out.hd.cell 6
        have r0 := hP.out.res.cell 0
        have r1 := hP.out.res.cell 1
        have r2 := hP.out.res.cell 2
        have r3 := hP.out.res.cell 3
        have r4 := hP.out.res.cell 4
        have r5 := hP.out.res.cell 5
        have r6 := hP.out.res.cell 6
        change _ = some (Value.int _ _) at r0 r1 r4 r5 r6
        change _ = some (Value.string _) at r2 r3
        have kfr := hP.out.res.free
        have hmB : Hid ((m == 0) = s6.isSome) := by show _ = _; rw [Bool.eq_iff_iff, beq_iff_eq]; exact hm
        replace hm := Lib.hid hm
        have hnn : ¬ w.heap.size = B := hP.out.nR
        cases oa with
        | false =>
          go_wp2_with fail
          go_region
          clear r0 r1 r2 r3 r4 r5 r6 kfr h0 h1 h2 h3 h4 h5 h6 k2
          have hF : Blk (put7 wd w.heap.size (hdrC ⟨(c : Int), (l : Int), a, b, (p : Int), (r : Int), (n' : Int)⟩)).drew w.heap.size (hdrC ⟨(c : Int), (l : Int), a, b, (p : Int), (r : Int), (n' : Int)⟩) 24 := (put7_blk hP.out.res _).drew
          have hG := gb_drew (put7_gb hP.out.gb hP.out.lR (hdrC ⟨(c : Int), (l : Int), a, b, (p : Int), (r : Int), (n' : Int)⟩))
          change Exit.then _ _ _ _ (put7 wd w.heap.size (hdrC ⟨(c : Int), (l : Int), a, b, (p : Int), (r : Int), (n' : Int)⟩)).drew
          generalize (put7 wd w.heap.size (hdrC ⟨(c : Int), (l : Int), a, b, (p : Int), (r : Int), (n' : Int)⟩)).drew = wf at *
          have q0 : wf.cell? ⟨w.heap.size, 0, none⟩ = some (.int .i64 (c : Int)) := hF.cell 0
          have q1 : wf.cell? ⟨w.heap.size, 1, none⟩ = some (.int .i64 (l : Int)) := hF.cell 1
          have q2 : wf.cell? ⟨w.heap.size, 2, none⟩ = some (.string a) := hF.cell 2
          have q3 : wf.cell? ⟨w.heap.size, 3, none⟩ = some (.string b) := hF.cell 3
          have q4 : wf.cell? ⟨w.heap.size, 4, none⟩ = some (.int .i64 (p : Int)) := hF.cell 4
          have q5 : wf.cell? ⟨w.heap.size, 5, none⟩ = some (.int .i64 (r : Int)) := hF.cell 5
          have q6 : wf.cell? ⟨w.heap.size, 6, none⟩ = some (.int .i64 (n' : Int)) := hF.cell 6
          replace hF := Lib.hid hF
          replace hG := Lib.hid hG
          go_wp2_with fail
          refine bodyPost_ret (v := .tuple #[.agg (hdrC ⟨(c : Int), (l : Int), a, b, (p : Int), (r : Int), (n' : Int)⟩), .bool (false)]) (by simp [results, Try.results44, go_sem, hdrC, q0, q1, q2, q3, q4, q5, q6]) rfl ⟨rfl, hG.out⟩
        | true =>
          cases ob with
          | false =>
            go_wp2_with fail
            go_region
            clear r0 r1 r2 r3 r4 r5 r6 kfr h0 h1 h2 h3 h4 h5 h6 k2
            have hF : Blk (put7 wd w.heap.size (hdrC ⟨(c : Int), (l : Int), a, b, (p : Int), (r : Int), (n' : Int)⟩)).drew w.heap.size (hdrC ⟨(c : Int), (l : Int), a, b, (p : Int), (r : Int), (n' : Int)⟩) 24 := (put7_blk hP.out.res _).drew
            have hG := gb_drew (put7_gb hP.out.gb hP.out.lR (hdrC ⟨(c : Int), (l : Int), a, b, (p : Int), (r : Int), (n' : Int)⟩))
            change Exit.then _ _ _ _ (put7 wd w.heap.size (hdrC ⟨(c : Int), (l : Int), a, b, (p : Int), (r : Int), (n' : Int)⟩)).drew
            generalize (put7 wd w.heap.size (hdrC ⟨(c : Int), (l : Int), a, b, (p : Int), (r : Int), (n' : Int)⟩)).drew = wf at *
            have q0 : wf.cell? ⟨w.heap.size, 0, none⟩ = some (.int .i64 (c : Int)) := hF.cell 0
            have q1 : wf.cell? ⟨w.heap.size, 1, none⟩ = some (.int .i64 (l : Int)) := hF.cell 1
            have q2 : wf.cell? ⟨w.heap.size, 2, none⟩ = some (.string a) := hF.cell 2
            have q3 : wf.cell? ⟨w.heap.size, 3, none⟩ = some (.string b) := hF.cell 3
            have q4 : wf.cell? ⟨w.heap.size, 4, none⟩ = some (.int .i64 (p : Int)) := hF.cell 4
            have q5 : wf.cell? ⟨w.heap.size, 5, none⟩ = some (.int .i64 (r : Int)) := hF.cell 5
            have q6 : wf.cell? ⟨w.heap.size, 6, none⟩ = some (.int .i64 (n' : Int)) := hF.cell 6
            replace hF := Lib.hid hF
            replace hG := Lib.hid hG
            go_wp2_with fail
            refine bodyPost_ret (v := .tuple #[.agg (hdrC ⟨(c : Int), (l : Int), a, b, (p : Int), (r : Int), (n' : Int)⟩), .bool (false)]) (by simp [results, Try.results44, go_sem, hdrC, q0, q1, q2, q3, q4, q5, q6]) rfl ⟨rfl, hG.out⟩
          | true =>
            have ce := fun W h => err_cell B m W h
            replace ce := Lib.hid ce
            go_wp2_with fail
            go_region_with (go_at_call 80; refine (ce.out _ (by go_simp)).mono ?_; rintro e w7 ⟨rfl, rfl⟩)
            all_goals
              clear r0 r1 r2 r3 r4 r5 r6 kfr h0 h1 h2 h3 h4 h5 h6 k2
              have hF : Blk (put7 wd w.heap.size (hdrC ⟨(c : Int), (l : Int), a, b, (p : Int), (r : Int), (n' : Int)⟩)).drew w.heap.size (hdrC ⟨(c : Int), (l : Int), a, b, (p : Int), (r : Int), (n' : Int)⟩) 24 := (put7_blk hP.out.res _).drew
              have hG := gb_drew (put7_gb hP.out.gb hP.out.lR (hdrC ⟨(c : Int), (l : Int), a, b, (p : Int), (r : Int), (n' : Int)⟩))
              change Exit.then _ _ _ _ (put7 wd w.heap.size (hdrC ⟨(c : Int), (l : Int), a, b, (p : Int), (r : Int), (n' : Int)⟩)).drew
              generalize (put7 wd w.heap.size (hdrC ⟨(c : Int), (l : Int), a, b, (p : Int), (r : Int), (n' : Int)⟩)).drew = wf at *
              have q0 : wf.cell? ⟨w.heap.size, 0, none⟩ = some (.int .i64 (c : Int)) := hF.cell 0
              have q1 : wf.cell? ⟨w.heap.size, 1, none⟩ = some (.int .i64 (l : Int)) := hF.cell 1
              have q2 : wf.cell? ⟨w.heap.size, 2, none⟩ = some (.string a) := hF.cell 2
              have q3 : wf.cell? ⟨w.heap.size, 3, none⟩ = some (.string b) := hF.cell 3
              have q4 : wf.cell? ⟨w.heap.size, 4, none⟩ = some (.int .i64 (p : Int)) := hF.cell 4
              have q5 : wf.cell? ⟨w.heap.size, 5, none⟩ = some (.int .i64 (r : Int)) := hF.cell 5
              have q6 : wf.cell? ⟨w.heap.size, 6, none⟩ = some (.int .i64 (n' : Int)) := hF.cell 6
              replace hF := Lib.hid hF
              replace hG := Lib.hid hG
              go_wp2_with fail
              refine bodyPost_ret (v := .tuple #[.agg (hdrC ⟨(c : Int), (l : Int), a, b, (p : Int), (r : Int), (n' : Int)⟩), .bool (s6.isSome)]) (by simp [results, Try.results44, go_sem, hdrC, hmB.out, q0, q1, q2, q3, q4, q5, q6]) rfl ⟨rfl, hG.out⟩
end Cp
end Go.Proofs.Ytgdkehnakopnnaa
