/- The reference reads a header: the whole. -/
import Derived.Test.YtgdkehnakopnnaaCpRk
namespace Go.Proofs.Ytgdkehnakopnnaa
open Go Go.RowKit Go.Sort
namespace Cp
open Mm
theorem put7_rd {t : TypeId} {w : World} {B q : Nat} {s : ByteArray} {st : Option Nat} (h : RdIs t w B s st) (hq : B ≠ q) (C : Array Value) : RdIs t (put7 w q C) B s st :=
  ((((((h.set hq _).set hq _).set hq _).set hq _).set hq _).set hq _).set hq _
theorem Rp.cast {t : TypeId} {W0 w wx : World} {B : Nat} {s : ByteArray} {bh bR : Nat} {h h' : Hdr} {st st' : Option Nat} (R : Rp t W0 w wx B s bh bR h st) (e1 : h = h') (e2 : st = st') : Rp t W0 w wx B s bh bR h' st' := by
  subst e1 e2; exact R
set_option maxRecDepth 100000 in
set_option maxHeartbeats 16000000 in
theorem header_any (W0 w : World) (B : Nat) (s : ByteArray) (st : Option Nat) (A : Option Addr) (n k : Nat) (ps : List ByteArray) (hs : CtxS W0 A n ps) (hss : s.size ≤ 100000) (hmem : ∀ p ∈ ps, p.size ≤ 4) (h : RdS 107 W0 w B s st) :
    Calls Try.prog 48 #[.pointer (some ⟨B, 0, none⟩), .slice A n k] w (AddrPost 107 (.agg (hdrC (rHdr s ps st).1)) B s (rHdr s ps st).2 w) := by
  have hR : rHdr s ps st = (⟨(rdC s st).1, (rdL s (rdC s st).2).1, (rAddr s ps (rdL s (rdC s st).2).2).1, (rAddr s ps (rAddr s ps (rdL s (rdC s st).2).2).2).1,
    (rdP s (rAddr s ps (rAddr s ps (rdL s (rdC s st).2).2).2).2).1, (rdP s (rAddr s ps (rAddr s ps (rdL s (rdC s st).2).2).2).2).2.1,
    (rdN s (rdP s (rAddr s ps (rAddr s ps (rdL s (rdC s st).2).2).2).2).2.2).1⟩,
   (rdN s (rdP s (rAddr s ps (rAddr s ps (rdL s (rdC s st).2).2).2).2).2.2).2) := rfl
  have hC : Hid (rdC s st = if (uns s 1 st).1 = 1 then uns s 8 (uns s 1 st).2 else (0, (uns s 1 st).2)) := rfl
  generalize rHdr s ps st = RR at *
  generalize rdC s st = vC at *
  obtain ⟨c, s1⟩ := vC
  dsimp only at hR
  have hL : Hid (rdL s s1 = if (uns s 2 s1).1 = 0 then uns s 8 (uns s 2 s1).2 else ((if (uns s 2 s1).1 = 1 then 1 else if (uns s 2 s1).1 = 2 then 64 else 255), (uns s 2 s1).2)) := rfl
  generalize rdL s s1 = vL at *
  obtain ⟨l, s2⟩ := vL
  dsimp only at hR
  have cA1 : Hid (∀ wx, RdS 107 W0 wx B s s2 → Calls Try.prog 84 #[.pointer (some ⟨B, 0, none⟩), .slice A n k] wx (AddrPost 107 (.string (rAddr s ps s2).1) B s (rAddr s ps s2).2 wx)) := fun wx h => rread_any W0 wx B s s2 A n k ps hs hss hmem h
  generalize rAddr s ps s2 = vA at *
  obtain ⟨a, s3⟩ := vA
  dsimp only at hR cA1
  have cA2 : Hid (∀ wx, RdS 107 W0 wx B s s3 → Calls Try.prog 84 #[.pointer (some ⟨B, 0, none⟩), .slice A n k] wx (AddrPost 107 (.string (rAddr s ps s3).1) B s (rAddr s ps s3).2 wx)) := fun wx h => rread_any W0 wx B s s3 A n k ps hs hss hmem h
  generalize rAddr s ps s3 = vB at *
  obtain ⟨b, s4⟩ := vB
  dsimp only at hR cA2
  have hP' : Hid (rdP s s4 = if (uns s 2 s4).1 = 3 then ((uns s 4 (uns s 2 s4).2).1 + 61616, (uns s 4 (uns s 4 (uns s 2 s4).2).2).1 + 61616, (uns s 4 (uns s 4 (uns s 2 s4).2).2).2)
    else if (uns s 2 s4).1 = 1 then ((uns s 16 (uns s 2 s4).2).1, (uns s 16 (uns s 2 s4).2).1, (uns s 16 (uns s 2 s4).2).2)
    else if (uns s 2 s4).1 = 2 then ((uns s 8 (uns s 2 s4).2).1 + 61440, (uns s 16 (uns s 8 (uns s 2 s4).2).2).1, (uns s 16 (uns s 8 (uns s 2 s4).2).2).2)
    else ((uns s 16 (uns s 2 s4).2).1, (uns s 16 (uns s 16 (uns s 2 s4).2).2).1, (uns s 16 (uns s 16 (uns s 2 s4).2).2).2)) := rfl
  generalize rdP s s4 = vP at *
  obtain ⟨p, r, s5⟩ := vP
  dsimp only at hR hP'
  have hN : Hid (rdN s s5 = if (uns s 1 s5).1 = 1 then uns s 12 (uns s 1 s5).2 else uns s 6 (uns s 1 s5).2) := rfl
  generalize rdN s s5 = vN at *
  obtain ⟨n', s6⟩ := vN
  dsimp only at hR
  subst hR
  have hP0 : Rp 107 W0 w ((w.alloc (.cells #[.int .i64 0, .int .i64 0, .string ⟨#[]⟩, .string ⟨#[]⟩, .int .i64 0, .int .i64 0, .int .i64 0] 24)).alloc (.cells #[.int .i64 0, .int .i64 0, .string ⟨#[]⟩, .string ⟨#[]⟩, .int .i64 0, .int .i64 0, .int .i64 0] 24)) B s (w.heap.size + 1) w.heap.size ⟨0, 0, ⟨#[]⟩, ⟨#[]⟩, 0, 0, 0⟩ st := by
    have hB := h.rd.lt
    refine ⟨(h.keep (below_alloc _ _)).keep (below_alloc _ _), ?_, (Blk.new w _ _).alloc _, gb_trans (gb_alloc _ _ _) (gb_alloc _ _ _), by omega, by omega, by omega, by omega, by omega, h.below.size⟩
    have := Blk.new (w.alloc (.cells #[.int .i64 0, .int .i64 0, .string ⟨#[]⟩, .string ⟨#[]⟩, .int .i64 0, .int .i64 0, .int .i64 0] 24)) #[.int .i64 0, .int .i64 0, .string ⟨#[]⟩, .string ⟨#[]⟩, .int .i64 0, .int .i64 0, .int .i64 0] 24
    rw [show (w.alloc (.cells #[.int .i64 0, .int .i64 0, .string ⟨#[]⟩, .string ⟨#[]⟩, .int .i64 0, .int .i64 0, .int .i64 0] 24)).heap.size = w.heap.size + 1 by simp] at this
    exact this
  dsimp only
  replace hs := Lib.hid hs
  replace h := Lib.hid h
  replace hP0 := Lib.hid hP0
  clear hmem
  go_enter Try.func48, Try.ntmps48
  -- the class
  have f0 := qFlg_any B s st _ hss hP0.out.rd.rd
  have hC2 := hC.out
  have cu := fun W (hr : RdIs 107 W B s (uns s 1 st).2) => qUns_any 8 B s (uns s 1 st).2 W (by omega) (by omega) hss hr
  generalize uns s 1 st = u at *
  obtain ⟨f, t1⟩ := u
  dsimp only at f0 hC2 cu
  replace f0 := Lib.hid f0
  replace cu := Lib.hid cu
  go_upto_if 8 with (go_at_call 82; refine f0.out.mono ?_; rintro e w1 ⟨rfl, hg_, hr_⟩; have hP1 := Lib.hid (hP0.out.op hg_ hr_); clear hg_ hr_)
  clear f0 hC
  go_cut [] (fun wx => Hid (Rp 107 W0 w wx B s (w.heap.size + 1) w.heap.size ⟨(c : Int), 0, ⟨#[]⟩, ⟨#[]⟩, 0, 0, 0⟩ s1))
  case first =>
    by_cases hf : f = 1
    · subst hf
      rw [if_pos rfl] at hC2
      rw [← hC2] at cu
      have x0 := Lib.hid (cu.out w1 hP1.out.rd.rd)
      clear cu
      replace hC2 := Lib.hid hC2
      go_wp2_with fail
      refine x0.out.mono ?_
      rintro e w2 ⟨rfl, hg_, hr_⟩
      have hP2 := Lib.hid (hP1.out.op hg_ hr_)
      clear hg_ hr_ x0
      have kf := hP2.out.hd.free 0
      have kk := hP2.out.hd.cell 0
      have hP3 := Lib.hid (hP2.out.putC 0 (.int .i64 (c : Int)) (h' := ⟨(c : Int), 0, ⟨#[]⟩, ⟨#[]⟩, 0, 0, 0⟩) rfl)
      change _ = some (Value.int _ _) at kk
      go_wp2_with fail
      go_meet
      exact hP3
    · rw [if_neg hf] at hC2
      injection hC2 with e1 e2
      subst e1 e2
      have d0 : (f == 1) = false := by rw [beq_eq_false_iff_ne]; exact hf
      rw [d0]
      clear cu
      replace hf := Lib.hid hf
      replace d0 := Lib.hid d0
      go_wp2_with fail
      go_meet
      exact hP1
  case rest =>
    clear hP0 hP1 hC2 cu
    generalize wc = wa at *
    have hP := hcut
    clear hcut
    -- the limit
    have cq := qUns_any 2 B s s1 _ (by omega) (by omega) hss hP.out.rd.rd
    have hL2 := hL.out
    have hq4 := uns_lt s 2 s1
    have cu := fun W (hr : RdIs 107 W B s (uns s 2 s1).2) => qUns_any 8 B s (uns s 2 s1).2 W (by omega) (by omega) hss hr
    generalize uns s 2 s1 = u at *
    obtain ⟨q, t1⟩ := u
    dsimp only at cq hL2 cu hq4
    replace cq := Lib.hid cq
    replace cu := Lib.hid cu
    go_wp2_with fail
    refine cq.out.mono ?_
    rintro e w2 ⟨rfl, hg_, hr_⟩
    have hP2 := Lib.hid (hP.out.op hg_ hr_)
    clear cq hg_ hr_ hL
    go_upto_block 0 with fail
    go_cut [] (fun wx => Hid (Rp 107 W0 w wx B s (w.heap.size + 1) w.heap.size ⟨(c : Int), (l : Int), ⟨#[]⟩, ⟨#[]⟩, 0, 0, 0⟩ s2))
    case first =>
      have kf := hP2.out.hd.free 1
      have kk := hP2.out.hd.cell 1
      change _ = some (Value.int _ _) at kk
      by_cases hq0 : q = 0
      · subst hq0
        rw [if_pos rfl] at hL2
        rw [← hL2] at cu
        have x0 := Lib.hid (cu.out _ hP2.out.rd.rd)
        clear cu kf kk
        replace hL2 := Lib.hid hL2
        go_wp2_with fail
        refine x0.out.mono ?_
        rintro e w4 ⟨rfl, hg_, hr_⟩
        have hP4 := Lib.hid (hP2.out.op hg_ hr_)
        clear hg_ hr_ x0
        have kf := hP4.out.hd.free 1
        have kk := hP4.out.hd.cell 1
        have hP5 := Lib.hid (hP4.out.putC 1 (.int .i64 (l : Int)) (h' := ⟨(c : Int), (l : Int), ⟨#[]⟩, ⟨#[]⟩, 0, 0, 0⟩) rfl)
        change _ = some (Value.int _ _) at kk
        go_wp2_with fail
        go_meet
        exact hP5
      · rw [if_neg hq0] at hL2
        injection hL2 with e1 e2
        subst e2
        clear cu
        obtain rfl | rfl | rfl : q = 1 ∨ q = 2 ∨ q = 3 := by omega
        all_goals
          first
            | obtain rfl : l = 1 := e1
            | obtain rfl : l = 64 := e1
            | obtain rfl : l = 255 := e1
          first
            | have hP5 := Lib.hid (hP2.out.putC 1 (.int .i64 1) (h' := ⟨(c : Int), ((1 : Nat) : Int), ⟨#[]⟩, ⟨#[]⟩, 0, 0, 0⟩) rfl)
            | have hP5 := Lib.hid (hP2.out.putC 1 (.int .i64 64) (h' := ⟨(c : Int), ((64 : Nat) : Int), ⟨#[]⟩, ⟨#[]⟩, 0, 0, 0⟩) rfl)
            | have hP5 := Lib.hid (hP2.out.putC 1 (.int .i64 255) (h' := ⟨(c : Int), ((255 : Nat) : Int), ⟨#[]⟩, ⟨#[]⟩, 0, 0, 0⟩) rfl)
          go_wp2_with fail
          go_meet
          first
            | exact hP5
            | exact Lib.hid (hP2.out.putC 1 (.int .i64 1) (h' := ⟨(c : Int), ((1 : Nat) : Int), ⟨#[]⟩, ⟨#[]⟩, 0, 0, 0⟩) rfl)
            | exact Lib.hid (hP2.out.putC 1 (.int .i64 64) (h' := ⟨(c : Int), ((64 : Nat) : Int), ⟨#[]⟩, ⟨#[]⟩, 0, 0, 0⟩) rfl)
            | exact Lib.hid (hP2.out.putC 1 (.int .i64 255) (h' := ⟨(c : Int), ((255 : Nat) : Int), ⟨#[]⟩, ⟨#[]⟩, 0, 0, 0⟩) rfl)
    case rest =>
      clear hP hP2 hL2
      generalize wc = wb at *
      have hP := hcut
      clear hcut cu
      -- the addresses
      have x1 := Lib.hid (cA1.out wb hP.out.rd)
      clear cA1
      go_wp2_with fail
      refine x1.out.mono ?_
      rintro e w3 hq
      obtain ⟨rfl, hg_, hr_⟩ := hq
      have hP1 := Lib.hid (hP.out.op hg_ hr_)
      clear hg_ hr_ x1 hP
      have kf := hP1.out.hd.free 2
      have kk := hP1.out.hd.cell 2
      have hP2 := Lib.hid (hP1.out.putC 2 (.string a) (h' := ⟨(c : Int), (l : Int), a, ⟨#[]⟩, 0, 0, 0⟩) rfl)
      change _ = some (Value.string _) at kk
      have x1 := Lib.hid (cA2.out _ hP2.out.rd)
      clear cA2
      go_wp2_with fail
      refine x1.out.mono ?_
      rintro e w4 hq
      obtain ⟨rfl, hg_, hr_⟩ := hq
      have hP3 := Lib.hid (hP2.out.op hg_ hr_)
      clear hg_ hr_ x1 hP1 hP2 kf kk
      have kf := hP3.out.hd.free 3
      have kk := hP3.out.hd.cell 3
      have hP4 := Lib.hid (hP3.out.putC 3 (.string b) (h' := ⟨(c : Int), (l : Int), a, b, 0, 0, 0⟩) rfl)
      change _ = some (Value.string _) at kk
      -- the ports
      have cq := qUns_any 2 B s s4 _ (by omega) (by omega) hss hP4.out.rd.rd
      have hL2 := hP'.out
      have hq4 := uns_lt s 2 s4
      generalize uns s 2 s4 = u at *
      obtain ⟨q, t1⟩ := u
      dsimp only at cq hL2 hq4
      replace cq := Lib.hid cq
      go_wp2_with fail
      refine cq.out.mono ?_
      rintro e w5 ⟨rfl, hg_, hr_⟩
      have hP5 := Lib.hid (hP4.out.op hg_ hr_)
      clear cq hg_ hr_ hP' hP3 hP4 kf kk
      go_upto_block 1 with fail
      go_cut [] (fun wx => Hid (Rp 107 W0 w wx B s (w.heap.size + 1) w.heap.size ⟨(c : Int), (l : Int), a, b, (p : Int), (r : Int), 0⟩ s5))
      case first =>
        by_cases e3 : q = 3
        · subst e3
          rw [if_pos rfl] at hL2
          have cc0 := fun W (hr : RdIs 107 W B s t1) => qUns_any 4 B s t1 W (by omega) (by omega) hss hr
          have hl0 := uns_lt s 4 t1
          generalize uns s 4 t1 = v0 at *
          obtain ⟨n0, y0⟩ := v0
          dsimp only at cc0 hl0 hL2
          have hb0 : (n0 : Int) ≤ 65535 := by omega
          have cc1 := fun W (hr : RdIs 107 W B s y0) => qUns_any 4 B s y0 W (by omega) (by omega) hss hr
          have hl1 := uns_lt s 4 y0
          generalize uns s 4 y0 = v1 at *
          obtain ⟨n1, y1⟩ := v1
          dsimp only at cc1 hl1 hL2
          have hb1 : (n1 : Int) ≤ 65535 := by omega
          injection hL2 with g1 g2
          injection g2 with g2 g3
          replace cc0 := Lib.hid cc0
          clear hl0
          replace cc1 := Lib.hid cc1
          clear hl1
          replace g1 := Lib.hid g1
          replace g2 := Lib.hid g2
          replace g3 := Lib.hid g3
          clear hq4
          have x0 := Lib.hid (cc0.out _ hP5.out.rd.rd)
          go_wp2_with fail
          refine x0.out.mono ?_
          rintro e z0 ⟨rfl, hg_, hr_⟩
          have Q0 := Lib.hid (hP5.out.op hg_ hr_)
          clear hg_ hr_ x0
          have kf := Q0.out.hd.free
          have kk := Q0.out.hd.cell 4
          change _ = some (Value.int _ _) at kk
          have R0 := Lib.hid (Q0.out.putC 4 (.int .i64 (61616 + (n0 : Int))) (h' := ⟨(c : Int), (l : Int), a, b, (61616 + (n0 : Int)), 0, 0⟩) rfl)
          have x1 := Lib.hid (cc1.out _ R0.out.rd.rd)
          go_wp2_with fail
          refine x1.out.mono ?_
          rintro e z1 ⟨rfl, hg_, hr_⟩
          have Q1 := Lib.hid (R0.out.op hg_ hr_)
          clear hg_ hr_ x1 kf kk
          have kf := Q1.out.hd.free
          have kk := Q1.out.hd.cell 5
          change _ = some (Value.int _ _) at kk
          have R1 := Lib.hid (Q1.out.putC 5 (.int .i64 (61616 + (n1 : Int))) (h' := ⟨(c : Int), (l : Int), a, b, (61616 + (n0 : Int)), (61616 + (n1 : Int)), 0⟩) rfl)
          go_wp2_with fail
          go_meet
          exact R1.out.cast (by have e1 := g1.out; have e2 := g2.out; rw [show (p : Int) = (61616 + (n0 : Int)) by omega, show (r : Int) = (61616 + (n1 : Int)) by omega]) g3.out.symm
        · skip
          by_cases e1 : q = 1
          · subst e1
            rw [if_neg (by decide), if_pos rfl] at hL2
            clear e3
            have cc0 := fun W (hr : RdIs 107 W B s t1) => qUns_any 16 B s t1 W (by omega) (by omega) hss hr
            have hl0 := uns_lt s 16 t1
            generalize uns s 16 t1 = v0 at *
            obtain ⟨n0, y0⟩ := v0
            dsimp only at cc0 hl0 hL2
            have hb0 : (n0 : Int) ≤ 65535 := by omega
            injection hL2 with g1 g2
            injection g2 with g2 g3
            replace cc0 := Lib.hid cc0
            clear hl0
            replace g1 := Lib.hid g1
            replace g2 := Lib.hid g2
            replace g3 := Lib.hid g3
            clear hq4
            have x0 := Lib.hid (cc0.out _ hP5.out.rd.rd)
            go_wp2_with fail
            refine x0.out.mono ?_
            rintro e z0 ⟨rfl, hg_, hr_⟩
            have Q0 := Lib.hid (hP5.out.op hg_ hr_)
            clear hg_ hr_ x0
            have kf := Q0.out.hd.free
            have kk := Q0.out.hd.cell 4
            change _ = some (Value.int _ _) at kk
            have R0 := Lib.hid (Q0.out.putC 4 (.int .i64 (n0 : Int)) (h' := ⟨(c : Int), (l : Int), a, b, (n0 : Int), 0, 0⟩) rfl)
            have kk5 := R0.out.hd.cell 5
            have kk5' := Q0.out.hd.cell 5
            change _ = some (Value.int _ _) at kk5 kk5'
            have R1 := Lib.hid (R0.out.putC 5 (.int .i64 (n0 : Int)) (h' := ⟨(c : Int), (l : Int), a, b, (n0 : Int), (n0 : Int), 0⟩) rfl)
            go_wp2_with fail
            go_meet
            exact R1.out.cast (by have e1 := g1.out; have e2 := g2.out; rw [show (p : Int) = (n0 : Int) by omega, show (r : Int) = (n0 : Int) by omega]) g3.out.symm
          · skip
            by_cases e2 : q = 2
            · subst e2
              rw [if_neg (by decide), if_neg (by decide), if_pos rfl] at hL2
              clear e3
              clear e1
              have cc0 := fun W (hr : RdIs 107 W B s t1) => qUns_any 8 B s t1 W (by omega) (by omega) hss hr
              have hl0 := uns_lt s 8 t1
              generalize uns s 8 t1 = v0 at *
              obtain ⟨n0, y0⟩ := v0
              dsimp only at cc0 hl0 hL2
              have hb0 : (n0 : Int) ≤ 65535 := by omega
              have cc1 := fun W (hr : RdIs 107 W B s y0) => qUns_any 16 B s y0 W (by omega) (by omega) hss hr
              have hl1 := uns_lt s 16 y0
              generalize uns s 16 y0 = v1 at *
              obtain ⟨n1, y1⟩ := v1
              dsimp only at cc1 hl1 hL2
              have hb1 : (n1 : Int) ≤ 65535 := by omega
              injection hL2 with g1 g2
              injection g2 with g2 g3
              replace cc0 := Lib.hid cc0
              clear hl0
              replace cc1 := Lib.hid cc1
              clear hl1
              replace g1 := Lib.hid g1
              replace g2 := Lib.hid g2
              replace g3 := Lib.hid g3
              clear hq4
              have x0 := Lib.hid (cc0.out _ hP5.out.rd.rd)
              go_wp2_with fail
              refine x0.out.mono ?_
              rintro e z0 ⟨rfl, hg_, hr_⟩
              have Q0 := Lib.hid (hP5.out.op hg_ hr_)
              clear hg_ hr_ x0
              have kf := Q0.out.hd.free
              have kk := Q0.out.hd.cell 4
              change _ = some (Value.int _ _) at kk
              have R0 := Lib.hid (Q0.out.putC 4 (.int .i64 (61440 + (n0 : Int))) (h' := ⟨(c : Int), (l : Int), a, b, (61440 + (n0 : Int)), 0, 0⟩) rfl)
              have x1 := Lib.hid (cc1.out _ R0.out.rd.rd)
              go_wp2_with fail
              refine x1.out.mono ?_
              rintro e z1 ⟨rfl, hg_, hr_⟩
              have Q1 := Lib.hid (R0.out.op hg_ hr_)
              clear hg_ hr_ x1 kf kk
              have kf := Q1.out.hd.free
              have kk := Q1.out.hd.cell 5
              change _ = some (Value.int _ _) at kk
              have R1 := Lib.hid (Q1.out.putC 5 (.int .i64 (n1 : Int)) (h' := ⟨(c : Int), (l : Int), a, b, (61440 + (n0 : Int)), (n1 : Int), 0⟩) rfl)
              go_wp2_with fail
              go_meet
              exact R1.out.cast (by have e1 := g1.out; have e2 := g2.out; rw [show (p : Int) = (61440 + (n0 : Int)) by omega, show (r : Int) = (n1 : Int) by omega]) g3.out.symm
            · skip
              rw [if_neg e3, if_neg e1, if_neg e2] at hL2
              have d3 : ((q : Int) == 3) = false := by rw [beq_eq_false_iff_ne]; omega
              have d1 : ((q : Int) == 1) = false := by rw [beq_eq_false_iff_ne]; omega
              have d2 : ((q : Int) == 2) = false := by rw [beq_eq_false_iff_ne]; omega
              clear e3 e1 e2
              have cc0 := fun W (hr : RdIs 107 W B s t1) => qUns_any 16 B s t1 W (by omega) (by omega) hss hr
              have hl0 := uns_lt s 16 t1
              generalize uns s 16 t1 = v0 at *
              obtain ⟨n0, y0⟩ := v0
              dsimp only at cc0 hl0 hL2
              have hb0 : (n0 : Int) ≤ 65535 := by omega
              have cc1 := fun W (hr : RdIs 107 W B s y0) => qUns_any 16 B s y0 W (by omega) (by omega) hss hr
              have hl1 := uns_lt s 16 y0
              generalize uns s 16 y0 = v1 at *
              obtain ⟨n1, y1⟩ := v1
              dsimp only at cc1 hl1 hL2
              have hb1 : (n1 : Int) ≤ 65535 := by omega
              injection hL2 with g1 g2
              injection g2 with g2 g3
              replace cc0 := Lib.hid cc0
              clear hl0
              replace cc1 := Lib.hid cc1
              clear hl1
              replace g1 := Lib.hid g1
              replace g2 := Lib.hid g2
              replace g3 := Lib.hid g3
              clear hq4
              have x0 := Lib.hid (cc0.out _ hP5.out.rd.rd)
              go_wp2_with fail
              refine x0.out.mono ?_
              rintro e z0 ⟨rfl, hg_, hr_⟩
              have Q0 := Lib.hid (hP5.out.op hg_ hr_)
              clear hg_ hr_ x0
              have kf := Q0.out.hd.free
              have kk := Q0.out.hd.cell 4
              change _ = some (Value.int _ _) at kk
              have R0 := Lib.hid (Q0.out.putC 4 (.int .i64 (n0 : Int)) (h' := ⟨(c : Int), (l : Int), a, b, (n0 : Int), 0, 0⟩) rfl)
              have x1 := Lib.hid (cc1.out _ R0.out.rd.rd)
              go_wp2_with fail
              refine x1.out.mono ?_
              rintro e z1 ⟨rfl, hg_, hr_⟩
              have Q1 := Lib.hid (R0.out.op hg_ hr_)
              clear hg_ hr_ x1 kf kk
              have kf := Q1.out.hd.free
              have kk := Q1.out.hd.cell 5
              change _ = some (Value.int _ _) at kk
              have R1 := Lib.hid (Q1.out.putC 5 (.int .i64 (n1 : Int)) (h' := ⟨(c : Int), (l : Int), a, b, (n0 : Int), (n1 : Int), 0⟩) rfl)
              go_wp2_with fail
              go_meet
              exact R1.out.cast (by have e1 := g1.out; have e2 := g2.out; rw [show (p : Int) = (n0 : Int) by omega, show (r : Int) = (n1 : Int) by omega]) g3.out.symm
      case rest =>
        clear hP5 hL2
        generalize wc = wd at *
        have hP6 := hcut
        clear hcut
        -- the length
        have f0 := qFlg_any B s s5 _ hss hP6.out.rd.rd
        have hN2 := hN.out
        have cu := fun W (hr : RdIs 107 W B s (uns s 1 s5).2) => qUns_any 12 B s (uns s 1 s5).2 W (by omega) (by omega) hss hr
        have cv := fun W (hr : RdIs 107 W B s (uns s 1 s5).2) => qUns_any 6 B s (uns s 1 s5).2 W (by omega) (by omega) hss hr
        generalize uns s 1 s5 = u at *
        obtain ⟨f, t2⟩ := u
        dsimp only at f0 hN2 cu cv
        replace f0 := Lib.hid f0
        replace cu := Lib.hid cu
        replace cv := Lib.hid cv
        go_wp2_with fail
        refine f0.out.mono ?_
        rintro e w6 ⟨rfl, hg_, hr_⟩
        have hP7 := Lib.hid (hP6.out.op hg_ hr_)
        clear hg_ hr_ f0 hP6 hN
        go_upto_if 70 with fail
        go_cut [] (fun wx => Hid (Rp 107 W0 w wx B s (w.heap.size + 1) w.heap.size ⟨(c : Int), (l : Int), a, b, (p : Int), (r : Int), (n' : Int)⟩ s6))
        case first =>
          by_cases hf : f = 1
          · subst hf
            rw [if_pos rfl] at hN2
            rw [← hN2] at cu
            have x0 := Lib.hid (cu.out _ hP7.out.rd.rd)
            clear cu cv
            replace hN2 := Lib.hid hN2
            go_wp2_with fail
            refine x0.out.mono ?_
            rintro e w7 ⟨rfl, hg_, hr_⟩
            have hP8 := Lib.hid (hP7.out.op hg_ hr_)
            clear hg_ hr_ x0
            have kf := hP8.out.hd.free 6
            have kk := hP8.out.hd.cell 6
            have hP9 := Lib.hid (hP8.out.putC 6 (.int .i64 (n' : Int)) (h' := ⟨(c : Int), (l : Int), a, b, (p : Int), (r : Int), (n' : Int)⟩) rfl)
            change _ = some (Value.int _ _) at kk
            go_wp2_with fail
            go_meet
            exact hP9
          · rw [if_neg hf] at hN2
            rw [← hN2] at cv
            have x0 := Lib.hid (cv.out _ hP7.out.rd.rd)
            have d0 : (f == 1) = false := by rw [beq_eq_false_iff_ne]; exact hf
            rw [d0]
            clear cu cv
            replace hN2 := Lib.hid hN2
            replace hf := Lib.hid hf
            replace d0 := Lib.hid d0
            go_wp2_with fail
            refine x0.out.mono ?_
            rintro e w7 ⟨rfl, hg_, hr_⟩
            have hP8 := Lib.hid (hP7.out.op hg_ hr_)
            clear hg_ hr_ x0
            have kf := hP8.out.hd.free 6
            have kk := hP8.out.hd.cell 6
            have hP9 := Lib.hid (hP8.out.putC 6 (.int .i64 (n' : Int)) (h' := ⟨(c : Int), (l : Int), a, b, (p : Int), (r : Int), (n' : Int)⟩) rfl)
            change _ = some (Value.int _ _) at kk
            go_wp2_with fail
            go_meet
            exact hP9
        case rest =>
          clear hP7 hN2 cu cv
          generalize wc = we at *
          have hP := hcut
          clear hcut
          have h0 : we.cell? ⟨w.heap.size + 1, 0, none⟩ = some (.int .i64 (c : Int)) := hP.out.hd.cell 0
          have h1 : we.cell? ⟨w.heap.size + 1, 1, none⟩ = some (.int .i64 (l : Int)) := hP.out.hd.cell 1
          have h2 : we.cell? ⟨w.heap.size + 1, 2, none⟩ = some (.string a) := hP.out.hd.cell 2
          have h3 : we.cell? ⟨w.heap.size + 1, 3, none⟩ = some (.string b) := hP.out.hd.cell 3
          have h4 : we.cell? ⟨w.heap.size + 1, 4, none⟩ = some (.int .i64 (p : Int)) := hP.out.hd.cell 4
          have h5 : we.cell? ⟨w.heap.size + 1, 5, none⟩ = some (.int .i64 (r : Int)) := hP.out.hd.cell 5
          have h6 : we.cell? ⟨w.heap.size + 1, 6, none⟩ = some (.int .i64 (n' : Int)) := hP.out.hd.cell 6
          have r0 := hP.out.res.cell 0
          have r1 := hP.out.res.cell 1
          have r2 := hP.out.res.cell 2
          have r3 := hP.out.res.cell 3
          have r4 := hP.out.res.cell 4
          have r5 := hP.out.res.cell 5
          have r6 := hP.out.res.cell 6
          change _ = some (Value.int _ _) at r0 r1 r4 r5 r6
          change _ = some (Value.string _) at r2 r3
          have kfr := hP.out.res.free
          have hF : Blk (put7 we w.heap.size (hdrC ⟨(c : Int), (l : Int), a, b, (p : Int), (r : Int), (n' : Int)⟩)) w.heap.size (hdrC ⟨(c : Int), (l : Int), a, b, (p : Int), (r : Int), (n' : Int)⟩) 24 := put7_blk hP.out.res _
          have hG := put7_gb hP.out.gb hP.out.lR (hdrC ⟨(c : Int), (l : Int), a, b, (p : Int), (r : Int), (n' : Int)⟩)
          have hRd : RdIs 107 (put7 we w.heap.size (hdrC ⟨(c : Int), (l : Int), a, b, (p : Int), (r : Int), (n' : Int)⟩)) B s s6 := put7_rd hP.out.rd.rd (fun e => hP.out.nR e.symm) _
          have q0 : (put7 we w.heap.size (hdrC ⟨(c : Int), (l : Int), a, b, (p : Int), (r : Int), (n' : Int)⟩)).cell? ⟨w.heap.size, 0, none⟩ = some (.int .i64 (c : Int)) := hF.cell 0
          have q1 : (put7 we w.heap.size (hdrC ⟨(c : Int), (l : Int), a, b, (p : Int), (r : Int), (n' : Int)⟩)).cell? ⟨w.heap.size, 1, none⟩ = some (.int .i64 (l : Int)) := hF.cell 1
          have q2 : (put7 we w.heap.size (hdrC ⟨(c : Int), (l : Int), a, b, (p : Int), (r : Int), (n' : Int)⟩)).cell? ⟨w.heap.size, 2, none⟩ = some (.string a) := hF.cell 2
          have q3 : (put7 we w.heap.size (hdrC ⟨(c : Int), (l : Int), a, b, (p : Int), (r : Int), (n' : Int)⟩)).cell? ⟨w.heap.size, 3, none⟩ = some (.string b) := hF.cell 3
          have q4 : (put7 we w.heap.size (hdrC ⟨(c : Int), (l : Int), a, b, (p : Int), (r : Int), (n' : Int)⟩)).cell? ⟨w.heap.size, 4, none⟩ = some (.int .i64 (p : Int)) := hF.cell 4
          have q5 : (put7 we w.heap.size (hdrC ⟨(c : Int), (l : Int), a, b, (p : Int), (r : Int), (n' : Int)⟩)).cell? ⟨w.heap.size, 5, none⟩ = some (.int .i64 (r : Int)) := hF.cell 5
          have q6 : (put7 we w.heap.size (hdrC ⟨(c : Int), (l : Int), a, b, (p : Int), (r : Int), (n' : Int)⟩)).cell? ⟨w.heap.size, 6, none⟩ = some (.int .i64 (n' : Int)) := hF.cell 6
          replace hF := Lib.hid hF
          replace hG := Lib.hid hG
          replace hRd := Lib.hid hRd
          replace q0 := Lib.hid q0
          replace q1 := Lib.hid q1
          replace q2 := Lib.hid q2
          replace q3 := Lib.hid q3
          replace q4 := Lib.hid q4
          replace q5 := Lib.hid q5
          replace q6 := Lib.hid q6
          go_wp2_with fail
          refine bodyPost_ret (w := put7 we w.heap.size (hdrC ⟨(c : Int), (l : Int), a, b, (p : Int), (r : Int), (n' : Int)⟩)) (v := .agg (hdrC ⟨(c : Int), (l : Int), a, b, (p : Int), (r : Int), (n' : Int)⟩)) ?_ rfl ⟨rfl, hG.out, hRd.out⟩
          clear r0 r1 r2 r3 r4 r5 r6 kfr h0 h1 h2 h3 h4 h5 h6
          generalize (put7 we w.heap.size (hdrC ⟨(c : Int), (l : Int), a, b, (p : Int), (r : Int), (n' : Int)⟩)) = wf at *
          simp [results, Try.results48, go_sem, hdrC, q0.out, q1.out, q2.out, q3.out, q4.out, q5.out, q6.out]
end Cp
end Go.Proofs.Ytgdkehnakopnnaa
