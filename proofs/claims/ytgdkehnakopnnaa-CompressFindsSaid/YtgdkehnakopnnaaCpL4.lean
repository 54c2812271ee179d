/- CompressWrites, walked. -/
import Derived.Test.YtgdkehnakopnnaaCpL3
namespace Go.Proofs.Ytgdkehnakopnnaa
open Go Go.RowKit Go.Sort
namespace Cp
open Mm
set_option maxRecDepth 100000 in
set_option maxHeartbeats 16000000 in
theorem compressWrites_walk (A : Option Addr) (n c : Nat) (ps : List ByteArray) (cls lim : Int) (src dst : ByteArray) (port rep len : Int) (w : World) (hs : CtxS w A n ps) (i1 : (Lit.int .i64 cls).wf = true) (i2 : (Lit.int .i64 lim).wf = true) (i3 : src.size ≤ maxLen) (i4 : dst.size ≤ maxLen) (i5 : (Lit.int .i64 port).wf = true) (i6 : (Lit.int .i64 rep).wf = true) (i7 : (Lit.int .i64 len).wf = true) :
    Calls Try.prog 4 #[.slice A n c, (.agg #[.int .i64 cls, .int .i64 lim, .string src, .string dst, .int .i64 port, .int .i64 rep, .int .i64 len])] w fun e w' => e = .returned (.bool true) ∧ Below w.heap.size w w' := by
  have hb0 := below_alloc w (.cells #[.int .i64 cls, .int .i64 lim, .string src, .string dst, .int .i64 port, .int .i64 rep, .int .i64 len] 24)
  have hH0 := Blk.new w #[.int .i64 cls, .int .i64 lim, .string src, .string dst, .int .i64 port, .int .i64 rep, .int .i64 len] 24
  have ca := Lib.hid (awake_any (w.alloc (.cells #[.int .i64 cls, .int .i64 lim, .string src, .string dst, .int .i64 port, .int .i64 rep, .int .i64 len] 24)))
  have cf := Lib.hid (fun W (hb : Below w.heap.size w W) => few_any A n c ps W (hs.keep hb))
  have csh := fun W => short_any ⟨cls, lim, src, dst, port, rep, len⟩ W ⟨i64_of_wf i1, i64_of_wf i2, i3, i4, i64_of_wf i5, i64_of_wf i6, i64_of_wf i7⟩
  unfold hdrC at csh
  dsimp only at csh
  have hlen := hs.els.len
  have hfn : few ps = true → n ≤ 12 := fun h => few_n h hlen
  clear i1 i2 i3 i4 i5 i6 i7
  generalize few ps = F at *
  generalize short ⟨cls, lim, src, dst, port, rep, len⟩ = SH at *
  replace hs := Lib.hid hs
  replace hlen := Lib.hid hlen
  replace hb0 := Lib.hid hb0
  replace hH0 := Lib.hid hH0
  replace csh := Lib.hid csh
  go_enter Try.func4, Try.ntmps4
  go_wp2_with fail
  refine ca.out.mono ?_
  rintro e w1 ⟨rfl, hb⟩
  have HB1 := Lib.hid (hb0.out.trans (hb.mono (by simp)))
  have hH1 := Lib.hid (hH0.out.keep hb)
  have cf1 := Lib.hid (cf.out w1 HB1.out)
  clear ca cf hb hb0 hH0
  go_wp2_with fail
  refine cf1.out.mono ?_
  rintro e w2 ⟨rfl, hb⟩
  have HB2 := Lib.hid (bthen HB1.out hb)
  have hH2 := Lib.hid (hH1.out.keep hb)
  clear cf1 HB1 hb hH1
  cases F with
  | false =>
    go_wp2_with fail
    go_ret
    exact ⟨rfl, HB2.out⟩
  | true =>
    have hn := hfn rfl
    clear hfn
    have s2 := Seven.of (h := ⟨cls, lim, src, dst, port, rep, len⟩) hH2.out
    have k0 := s2.c0
    have k1 := s2.c1
    have k2 := s2.c2
    have k3 := s2.c3
    have k4 := s2.c4
    have k5 := s2.c5
    have k6 := s2.c6
    dsimp only at k0 k1 k2 k3 k4 k5 k6
    clear s2
    go_wp2_with fail
    refine (csh.out _).mono ?_
    rintro e w3 ⟨rfl, hb⟩
    have HB3 := Lib.hid (bthen HB2.out hb)
    have hH3 := Lib.hid (hH2.out.keep hb)
    clear k0 k1 k2 k3 k4 k5 k6 csh HB2 hH2 hb
    cases SH with
    | false =>
      go_wp2_with fail
      go_ret
      exact ⟨rfl, HB3.out⟩
    | true =>
      have cF := fun A1 c1 W (hx : CtxS W A1 n ps) => Find_any A1 n c1 ps src W hx
      have cG := fun W (hx : Below w.heap.size w W) => rFind_any A n c ps src W (hs.out.keep hx)
      have cC := fun A1 c1 W (hx : CtxS W A1 n ps) => Compress_any A1 n c1 ps ⟨cls, lim, src, dst, port, rep, len⟩ W hx
      have cQ := fun W (hx : Below w.heap.size w W) => rCompress_any A n c ps ⟨cls, lim, src, dst, port, rep, len⟩ W (hs.out.keep hx)
      have cD := fun A1 c1 W (hx : CtxS W A1 n ps) => Bits_any A1 n c1 ps ⟨cls, lim, src, dst, port, rep, len⟩ W hx
      have cR := fun W (hx : Below w.heap.size w W) => rBits2_any A n c ps ⟨cls, lim, src, dst, port, rep, len⟩ W (hs.out.keep hx)
      have cK := fun W => check_any ⟨cls, lim, src, dst, port, rep, len⟩ W
      have cL := fun W => rcheck_any ⟨cls, lim, src, dst, port, rep, len⟩ W
      have cX := fun A1 c1 W (hx : CtxS W A1 n ps) => contexts_any A1 n c1 ps W hx
      have cY := fun W (hx : Below w.heap.size w W) => rcontexts_any A n c ps W (hs.out.keep hx)
      generalize FindR ps src = fr at *
      generalize CmpR ps ⟨cls, lim, src, dst, port, rep, len⟩ = cr at *
      generalize BitR ps ⟨cls, lim, src, dst, port, rep, len⟩ = br at *
      generalize chk ⟨cls, lim, src, dst, port, rep, len⟩ = kr at *
      generalize ctxE ps = xr at *
      obtain ⟨f1, f2⟩ := fr
      obtain ⟨c1v, c2v⟩ := cr
      obtain ⟨b1, b2⟩ := br
      unfold hdrC at cC cQ cD cR cK cL
      dsimp only at cC cQ cD cR cK cL cF cG
      replace cF := Lib.hid cF
      replace cG := Lib.hid cG
      replace cC := Lib.hid cC
      replace cQ := Lib.hid cQ
      replace cD := Lib.hid cD
      replace cR := Lib.hid cR
      replace cK := Lib.hid cK
      replace cL := Lib.hid cL
      replace cX := Lib.hid cX
      replace cY := Lib.hid cY
      have HCr := Lib.hid (hs.out.keep HB3.out)
      have HX : Hid (∀ w', Below w3.heap.size w3 w' → (Below w3.heap.size w3 w' ∧ (w'.cell? ⟨w.heap.size, 0, none⟩ = some (.int .i64 cls) ∧ w'.cell? ⟨w.heap.size, 1, none⟩ = some (.int .i64 lim) ∧ w'.cell? ⟨w.heap.size, 2, none⟩ = some (.string src) ∧ w'.cell? ⟨w.heap.size, 3, none⟩ = some (.string dst) ∧ w'.cell? ⟨w.heap.size, 4, none⟩ = some (.int .i64 port) ∧ w'.cell? ⟨w.heap.size, 5, none⟩ = some (.int .i64 rep) ∧ w'.cell? ⟨w.heap.size, 6, none⟩ = some (.int .i64 len)))) := fun w' h =>
        have s := Seven.of (h := ⟨cls, lim, src, dst, port, rep, len⟩) (hH3.out.keep h)
        ⟨h, s.c0, s.c1, s.c2, s.c3, s.c4, s.c5, s.c6⟩
      have kz := HX.out _ (Below.refl _ _)
      go_upto_region 5 with fail
      go_cut [5, 6] (fun s8 s9 wx => s8 = .int .i64 f1 ∧ s9 = .bool f2 ∧ Hid (Below w3.heap.size w3 wx))
      case first =>
        go_region_held3 (fun w' => Below w3.heap.size w3 w' ∧ (w'.cell? ⟨w.heap.size, 0, none⟩ = some (.int .i64 cls) ∧ w'.cell? ⟨w.heap.size, 1, none⟩ = some (.int .i64 lim) ∧ w'.cell? ⟨w.heap.size, 2, none⟩ = some (.string src) ∧ w'.cell? ⟨w.heap.size, 3, none⟩ = some (.string dst) ∧ w'.cell? ⟨w.heap.size, 4, none⟩ = some (.int .i64 port) ∧ w'.cell? ⟨w.heap.size, 5, none⟩ = some (.int .i64 rep) ∧ w'.cell? ⟨w.heap.size, 6, none⟩ = some (.int .i64 len)))
          (first
            | exact HX.out _ ((Below.refl _ _).drew)
            | exact HX.out _ (by assumption)
            | exact HX.out _ (bthen (And.left (by assumption)) (by assumption))
            | exact HX.out _ (bthen (by assumption) (by assumption))
            | exact HX.out _ (bthen (And.left (by assumption)) (below_alloc _ _))
            | exact HX.out _ (bthen (by assumption) (below_alloc _ _))
            | (trace_state; fail))
          (first
            | (go_at_call 14; refine (cloneX_any A n c ps _ (HCr.out.keep (And.left (by assumption))) (by omega)).mono ?_; rintro e w1 ⟨A1, c1, rfl, hC1, hO1, hb1⟩; have hC2 := Lib.hid hC1; have hO2 := Lib.hid hO1; clear hC1 hO1; have hb2 : Below w3.heap.size w3 w1 := bthen (And.left (by assumption)) hb1)
            | (go_at_call 15; refine (cF.out A1 c1 _ hC2.out).mono ?_; rintro e w2 ⟨rfl, hb3⟩; have hb4 : Below w3.heap.size w3 w2 := bthen hb2 hb3))
        all_goals
          have hb5 := Lib.hid hb4
          clear hb4 hb3 hb2 hb1
          go_wp2_with fail
          go_meet
          exact ⟨rfl, rfl, hb5⟩
      case rest =>
        obtain ⟨rfl, rfl, HBx⟩ := hcut
        generalize wc = w4 at *
        clear kz HX HCr
        have HBq := Lib.hid (bthen HB3.out HBx.out)
        have hHq := Lib.hid (hH3.out.keep HBx.out)
        clear HBx HB3 hH3
        have sq := Seven.of (h := ⟨cls, lim, src, dst, port, rep, len⟩) hHq.out
        have k0 := sq.c0
        have k1 := sq.c1
        have k2 := sq.c2
        have k3 := sq.c3
        have k4 := sq.c4
        have k5 := sq.c5
        have k6 := sq.c6
        dsimp only at k0 k1 k2 k3 k4 k5 k6
        clear sq
        have cz := Lib.hid (cG.out _ HBq.out)
        go_wp2_with fail
        refine cz.out.mono ?_
        rintro e w5 ⟨rfl, rfl⟩
        have HB5 := HBq
        have hH5 := hHq
        clear k0 k1 k2 k3 k4 k5 k6 cz HBq hHq cF cG
        have HCr := Lib.hid (hs.out.keep HB5.out)
        have HX : Hid (∀ w', Below w4.heap.size w4 w' → (Below w4.heap.size w4 w' ∧ (w'.cell? ⟨w.heap.size, 0, none⟩ = some (.int .i64 cls) ∧ w'.cell? ⟨w.heap.size, 1, none⟩ = some (.int .i64 lim) ∧ w'.cell? ⟨w.heap.size, 2, none⟩ = some (.string src) ∧ w'.cell? ⟨w.heap.size, 3, none⟩ = some (.string dst) ∧ w'.cell? ⟨w.heap.size, 4, none⟩ = some (.int .i64 port) ∧ w'.cell? ⟨w.heap.size, 5, none⟩ = some (.int .i64 rep) ∧ w'.cell? ⟨w.heap.size, 6, none⟩ = some (.int .i64 len)))) := fun w' h =>
          have s := Seven.of (h := ⟨cls, lim, src, dst, port, rep, len⟩) (hH5.out.keep h)
          ⟨h, s.c0, s.c1, s.c2, s.c3, s.c4, s.c5, s.c6⟩
        have kz := HX.out _ (Below.refl _ _)
        go_upto_region 7 with fail
        go_cut [9, 10] (fun s8 s9 wx => s8 = .string c1v ∧ s9 = .int .i64 c2v ∧ Hid (Below w4.heap.size w4 wx))
        case first =>
          go_region_held3 (fun w' => Below w4.heap.size w4 w' ∧ (w'.cell? ⟨w.heap.size, 0, none⟩ = some (.int .i64 cls) ∧ w'.cell? ⟨w.heap.size, 1, none⟩ = some (.int .i64 lim) ∧ w'.cell? ⟨w.heap.size, 2, none⟩ = some (.string src) ∧ w'.cell? ⟨w.heap.size, 3, none⟩ = some (.string dst) ∧ w'.cell? ⟨w.heap.size, 4, none⟩ = some (.int .i64 port) ∧ w'.cell? ⟨w.heap.size, 5, none⟩ = some (.int .i64 rep) ∧ w'.cell? ⟨w.heap.size, 6, none⟩ = some (.int .i64 len)))
            (first
              | exact HX.out _ ((Below.refl _ _).drew)
              | exact HX.out _ (by assumption)
              | exact HX.out _ (bthen (And.left (by assumption)) (by assumption))
              | exact HX.out _ (bthen (by assumption) (by assumption))
              | exact HX.out _ (bthen (And.left (by assumption)) (below_alloc _ _))
              | exact HX.out _ (bthen (by assumption) (below_alloc _ _))
              | (trace_state; fail))
            (first
              | (go_at_call 14; refine (cloneX_any A n c ps _ (HCr.out.keep (And.left (by assumption))) (by omega)).mono ?_; rintro e w1 ⟨A1, c1, rfl, hC1, hO1, hb1⟩; have hC2 := Lib.hid hC1; have hO2 := Lib.hid hO1; clear hC1 hO1; have hb2 : Below w4.heap.size w4 w1 := bthen (And.left (by assumption)) hb1)
              | (go_at_call 17; refine (cC.out A1 c1 _ hC2.out).mono ?_; rintro e w2 ⟨rfl, hb3⟩; have hb4 : Below w4.heap.size w4 w2 := bthen hb2 hb3))
          all_goals
            have hb5 := Lib.hid hb4
            clear hb4 hb3 hb2 hb1
            go_wp2_with fail
            go_meet
            exact ⟨rfl, rfl, hb5⟩
        case rest =>
          obtain ⟨rfl, rfl, HBx⟩ := hcut
          generalize wc = w6 at *
          clear kz HX HCr
          have HBq := Lib.hid (bthen HB5.out HBx.out)
          have hHq := Lib.hid (hH5.out.keep HBx.out)
          clear HBx HB5 hH5
          have sq := Seven.of (h := ⟨cls, lim, src, dst, port, rep, len⟩) hHq.out
          have k0 := sq.c0
          have k1 := sq.c1
          have k2 := sq.c2
          have k3 := sq.c3
          have k4 := sq.c4
          have k5 := sq.c5
          have k6 := sq.c6
          dsimp only at k0 k1 k2 k3 k4 k5 k6
          clear sq
          have cz := Lib.hid (cQ.out _ HBq.out)
          go_wp2_with fail
          refine cz.out.mono ?_
          rintro e w7 ⟨rfl, hb⟩
          have HB7 := Lib.hid (bthen HBq.out hb)
          have hH7 := Lib.hid (hHq.out.keep hb)
          clear k0 k1 k2 k3 k4 k5 k6 cz HBq hHq cC cQ hb
          have HCr := Lib.hid (hs.out.keep HB7.out)
          have HX : Hid (∀ w', Below w7.heap.size w7 w' → (Below w7.heap.size w7 w' ∧ (w'.cell? ⟨w.heap.size, 0, none⟩ = some (.int .i64 cls) ∧ w'.cell? ⟨w.heap.size, 1, none⟩ = some (.int .i64 lim) ∧ w'.cell? ⟨w.heap.size, 2, none⟩ = some (.string src) ∧ w'.cell? ⟨w.heap.size, 3, none⟩ = some (.string dst) ∧ w'.cell? ⟨w.heap.size, 4, none⟩ = some (.int .i64 port) ∧ w'.cell? ⟨w.heap.size, 5, none⟩ = some (.int .i64 rep) ∧ w'.cell? ⟨w.heap.size, 6, none⟩ = some (.int .i64 len)))) := fun w' h =>
            have s := Seven.of (h := ⟨cls, lim, src, dst, port, rep, len⟩) (hH7.out.keep h)
            ⟨h, s.c0, s.c1, s.c2, s.c3, s.c4, s.c5, s.c6⟩
          have kz := HX.out _ (Below.refl _ _)
          go_upto_region 9 with fail
          go_cut [13, 14] (fun s8 s9 wx => s8 = .int .i64 (b1 : Int) ∧ s9 = .int .i64 b2 ∧ Hid (Below w7.heap.size w7 wx))
          case first =>
            go_region_held3 (fun w' => Below w7.heap.size w7 w' ∧ (w'.cell? ⟨w.heap.size, 0, none⟩ = some (.int .i64 cls) ∧ w'.cell? ⟨w.heap.size, 1, none⟩ = some (.int .i64 lim) ∧ w'.cell? ⟨w.heap.size, 2, none⟩ = some (.string src) ∧ w'.cell? ⟨w.heap.size, 3, none⟩ = some (.string dst) ∧ w'.cell? ⟨w.heap.size, 4, none⟩ = some (.int .i64 port) ∧ w'.cell? ⟨w.heap.size, 5, none⟩ = some (.int .i64 rep) ∧ w'.cell? ⟨w.heap.size, 6, none⟩ = some (.int .i64 len)))
              (first
                | exact HX.out _ ((Below.refl _ _).drew)
                | exact HX.out _ (by assumption)
                | exact HX.out _ (bthen (And.left (by assumption)) (by assumption))
                | exact HX.out _ (bthen (by assumption) (by assumption))
                | exact HX.out _ (bthen (And.left (by assumption)) (below_alloc _ _))
                | exact HX.out _ (bthen (by assumption) (below_alloc _ _))
                | (trace_state; fail))
              (first
                | (go_at_call 14; refine (cloneX_any A n c ps _ (HCr.out.keep (And.left (by assumption))) (by omega)).mono ?_; rintro e w1 ⟨A1, c1, rfl, hC1, hO1, hb1⟩; have hC2 := Lib.hid hC1; have hO2 := Lib.hid hO1; clear hC1 hO1; have hb2 : Below w7.heap.size w7 w1 := bthen (And.left (by assumption)) hb1)
                | (go_at_call 13; refine (cD.out A1 c1 _ hC2.out).mono ?_; rintro e w2 ⟨rfl, hb3⟩; have hb4 : Below w7.heap.size w7 w2 := bthen hb2 hb3))
            all_goals
              have hb5 := Lib.hid hb4
              clear hb4 hb3 hb2 hb1
              go_wp2_with fail
              go_meet
              exact ⟨rfl, rfl, hb5⟩
          case rest =>
            obtain ⟨rfl, rfl, HBx⟩ := hcut
            generalize wc = w8 at *
            clear kz HX HCr
            have HBq := Lib.hid (bthen HB7.out HBx.out)
            have hHq := Lib.hid (hH7.out.keep HBx.out)
            clear HBx HB7 hH7
            have sq := Seven.of (h := ⟨cls, lim, src, dst, port, rep, len⟩) hHq.out
            have k0 := sq.c0
            have k1 := sq.c1
            have k2 := sq.c2
            have k3 := sq.c3
            have k4 := sq.c4
            have k5 := sq.c5
            have k6 := sq.c6
            dsimp only at k0 k1 k2 k3 k4 k5 k6
            clear sq
            have cz := Lib.hid (cR.out _ HBq.out)
            go_wp2_with fail
            refine cz.out.mono ?_
            rintro e w9 ⟨rfl, hb⟩
            have HB9 := Lib.hid (bthen HBq.out hb)
            have hH9 := Lib.hid (hHq.out.keep hb)
            clear k0 k1 k2 k3 k4 k5 k6 cz HBq hHq cD cR hb
            have HCr := Lib.hid (hs.out.keep HB9.out)
            have HX : Hid (∀ w', Below w9.heap.size w9 w' → (Below w9.heap.size w9 w' ∧ (w'.cell? ⟨w.heap.size, 0, none⟩ = some (.int .i64 cls) ∧ w'.cell? ⟨w.heap.size, 1, none⟩ = some (.int .i64 lim) ∧ w'.cell? ⟨w.heap.size, 2, none⟩ = some (.string src) ∧ w'.cell? ⟨w.heap.size, 3, none⟩ = some (.string dst) ∧ w'.cell? ⟨w.heap.size, 4, none⟩ = some (.int .i64 port) ∧ w'.cell? ⟨w.heap.size, 5, none⟩ = some (.int .i64 rep) ∧ w'.cell? ⟨w.heap.size, 6, none⟩ = some (.int .i64 len)))) := fun w' h =>
              have s := Seven.of (h := ⟨cls, lim, src, dst, port, rep, len⟩) (hH9.out.keep h)
              ⟨h, s.c0, s.c1, s.c2, s.c3, s.c4, s.c5, s.c6⟩
            have kz := HX.out _ (Below.refl _ _)
            have yV := Lib.hid (fun W (hx : Below w9.heap.size w9 W) => (cloneX_any A n c ps W (HCr.out.keep hx) (by omega)).mono (R' := fun e w' => ∃ A' c', e = .returned (.slice A' n c') ∧ CtxS w' A' n ps ∧ Below w9.heap.size w9 w') fun e w' ⟨A', c', h1, h2, _, h3⟩ => ⟨A', c', h1, h2, bthen hx h3⟩)
            have yK := Lib.hid (fun W (hx : Below w9.heap.size w9 W) => (cK.out W).mono (R' := fun e w' => e = .returned (.int .i64 kr) ∧ Below w9.heap.size w9 w') fun e w' ⟨h1, h2⟩ => ⟨h1, bthen hx h2⟩)
            have yL := Lib.hid (fun W (hx : Below w9.heap.size w9 W) => (cL.out W).mono (R' := fun e w' => e = .returned (.int .i64 kr) ∧ Below w9.heap.size w9 w') fun e w' ⟨h1, h2⟩ => ⟨h1, bthen hx h2⟩)
            have yX := Lib.hid (fun A1 c1 W (hc : CtxS W A1 n ps) (hx : Below w9.heap.size w9 W) => (cX.out A1 c1 W hc).mono (R' := fun e w' => e = .returned (.int .i64 xr) ∧ Below w9.heap.size w9 w') fun e w' ⟨h1, h2⟩ => ⟨h1, bthen hx h2⟩)
            clear cK cL cX
            go_upto_region 11 with fail
            go_region_held3 (fun w' => Below w9.heap.size w9 w' ∧ (w'.cell? ⟨w.heap.size, 0, none⟩ = some (.int .i64 cls) ∧ w'.cell? ⟨w.heap.size, 1, none⟩ = some (.int .i64 lim) ∧ w'.cell? ⟨w.heap.size, 2, none⟩ = some (.string src) ∧ w'.cell? ⟨w.heap.size, 3, none⟩ = some (.string dst) ∧ w'.cell? ⟨w.heap.size, 4, none⟩ = some (.int .i64 port) ∧ w'.cell? ⟨w.heap.size, 5, none⟩ = some (.int .i64 rep) ∧ w'.cell? ⟨w.heap.size, 6, none⟩ = some (.int .i64 len)))
                (first
                  | exact HX.out _ ((Below.refl _ _).drew)
                  | exact HX.out _ (by assumption)
                  | exact HX.out _ (bthen (And.left (by assumption)) (by assumption))
                  | exact HX.out _ (bthen (by assumption) (by assumption))
                  | exact HX.out _ (bthen (And.left (by assumption)) (below_alloc _ _))
                  | exact HX.out _ (bthen (by assumption) (below_alloc _ _))
                  | (trace_state; fail))
                (first
                  | (go_at_call 14; refine (yV.out _ (And.left (by assumption))).mono ?_; rintro e w1 ⟨A1, c1, rfl, hC1, hb1⟩; have hC2 := Lib.hid hC1; clear hC1)
                  | (go_at_call 20; refine (yK.out _ (And.left (by assumption))).mono ?_; rintro e w2 ⟨rfl, hb3⟩)
                  | (go_at_call 21; refine (yL.out _ (And.left (by assumption))).mono ?_; rintro e w2 ⟨rfl, hb3⟩)
                  | (go_at_call 22; refine (yX.out A1 c1 _ hC2.out (And.left (by assumption))).mono ?_; rintro e w2 ⟨rfl, hb3⟩)
                  | (go_at_call 23; refine (cY.out _ (bthen HB9.out (And.left (by assumption)))).mono ?_; rintro e w2 ⟨rfl, rfl⟩))
            all_goals
              have HBf : Hid (Below w9.heap.size w9 _) := And.left (by assumption)
              clear kz
              go_wp2_with fail
              go_ret
              exact ⟨rfl, bthen HB9.out HBf.out⟩
end Cp
end Go.Proofs.Ytgdkehnakopnnaa
