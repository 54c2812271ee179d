/- CompressBack, walked. -/
import Derived.Test.YtgdkehnakopnnaaCpL2
namespace Go.Proofs.Ytgdkehnakopnnaa
open Go Go.RowKit Go.Sort
namespace Cp
open Mm
theorem i64_of_wf {n : Int} (h : (Lit.int .i64 n).wf = true) : I64 n := by
  unfold I64
  unfold Lit.wf at h
  rw [Bool.and_eq_true, decide_eq_true_eq, decide_eq_true_eq] at h
  exact ⟨h.1, h.2⟩
set_option maxRecDepth 100000 in
set_option maxHeartbeats 16000000 in
theorem compressBack_walk (A : Option Addr) (n c : Nat) (ps : List ByteArray) (cls lim : Int) (src dst : ByteArray) (port rep len : Int) (more : ByteArray) (w : World) (hs : CtxS w A n ps) (i1 : (Lit.int .i64 cls).wf = true) (i2 : (Lit.int .i64 lim).wf = true) (i3 : src.size ≤ maxLen) (i4 : dst.size ≤ maxLen) (i5 : (Lit.int .i64 port).wf = true) (i6 : (Lit.int .i64 rep).wf = true) (i7 : (Lit.int .i64 len).wf = true) (i8 : more.size ≤ maxLen) :
    Calls Try.prog 7 #[.slice A n c, (.agg #[.int .i64 cls, .int .i64 lim, .string src, .string dst, .int .i64 port, .int .i64 rep, .int .i64 len]), .string more] w fun e w' => e = .returned (.bool true) ∧ Below w.heap.size w w' := by
  unfold maxLen at i8
  have hmm : (more.size : Int) ≤ 9223372036854775807 := by omega
  have hb0 := below_alloc w (.cells #[.int .i64 cls, .int .i64 lim, .string src, .string dst, .int .i64 port, .int .i64 rep, .int .i64 len] 24)
  have hH0 := Blk.new w #[.int .i64 cls, .int .i64 lim, .string src, .string dst, .int .i64 port, .int .i64 rep, .int .i64 len] 24
  have ca := Lib.hid (awake_any (w.alloc (.cells #[.int .i64 cls, .int .i64 lim, .string src, .string dst, .int .i64 port, .int .i64 rep, .int .i64 len] 24)))
  have cf := Lib.hid (fun W (hb : Below w.heap.size w W) => few_any A n c ps W (hs.keep hb))
  have csh := fun W => short_any ⟨cls, lim, src, dst, port, rep, len⟩ W ⟨i64_of_wf i1, i64_of_wf i2, i3, i4, i64_of_wf i5, i64_of_wf i6, i64_of_wf i7⟩
  unfold hdrC at csh
  dsimp only at csh
  have hlen := hs.els.len
  have hfn : few ps = true → n ≤ 12 := fun h => few_n h hlen
  clear i1 i2 i3 i4 i5 i6 i7
  generalize few ps = F at *
  generalize short ⟨cls, lim, src, dst, port, rep, len⟩ = SH at *
  replace hs := Lib.hid hs
  replace hlen := Lib.hid hlen
  replace hb0 := Lib.hid hb0
  replace hH0 := Lib.hid hH0
  replace csh := Lib.hid csh
  go_enter Try.func7, Try.ntmps7
  go_wp2_with fail
  refine ca.out.mono ?_
  rintro e w1 ⟨rfl, hb⟩
  have HB1 := Lib.hid (hb0.out.trans (hb.mono (by simp)))
  have hH1 := Lib.hid (hH0.out.keep hb)
  have cf1 := Lib.hid (cf.out w1 HB1.out)
  clear ca cf hb hb0 hH0
  go_wp2_with fail
  refine cf1.out.mono ?_
  rintro e w2 ⟨rfl, hb⟩
  have HB2 := Lib.hid (bthen HB1.out hb)
  have hH2 := Lib.hid (hH1.out.keep hb)
  clear cf1 HB1 hb hH1
  cases F with
  | false =>
    go_wp2_with fail
    go_ret
    exact ⟨rfl, HB2.out⟩
  | true =>
    have hn := hfn rfl
    clear hfn
    have s2 := Seven.of (h := ⟨cls, lim, src, dst, port, rep, len⟩) hH2.out
    have k0 := s2.c0
    have k1 := s2.c1
    have k2 := s2.c2
    have k3 := s2.c3
    have k4 := s2.c4
    have k5 := s2.c5
    have k6 := s2.c6
    dsimp only at k0 k1 k2 k3 k4 k5 k6
    clear s2
    go_wp2_with fail
    refine (csh.out _).mono ?_
    rintro e w3 ⟨rfl, hb⟩
    have HB3 := Lib.hid (bthen HB2.out hb)
    have hH3 := Lib.hid (hH2.out.keep hb)
    clear k0 k1 k2 k3 k4 k5 k6 csh HB2 hH2 hb
    cases SH with
    | false =>
      go_wp2_with fail
      go_ret
      exact ⟨rfl, HB3.out⟩
    | true =>
      by_cases h100 : (100 : Int) < (more.size : Int)
      · go_wp2_with fail
        go_ret
        exact ⟨rfl, HB3.out⟩
      · have cC := fun A1 c1 W (hx : CtxS W A1 n ps) => Compress_any A1 n c1 ps ⟨cls, lim, src, dst, port, rep, len⟩ W hx
        have cD := fun A1 c1 W (hx : CtxS W A1 n ps) => Bits_any A1 n c1 ps ⟨cls, lim, src, dst, port, rep, len⟩ W hx
        have hm100 : more.size ≤ 100 := by omega
        cases hfi : fine ps ⟨cls, lim, src, dst, port, rep, len⟩ with
        | false =>
          have hCR : CmpR ps ⟨cls, lim, src, dst, port, rep, len⟩ = (⟨#[]⟩, 1) := by unfold CmpR; rw [hfi]; rfl
          have hBR : BitR ps ⟨cls, lim, src, dst, port, rep, len⟩ = (0, 1) := by unfold BitR; rw [hfi]; rfl
          rw [hCR] at cC
          rw [hBR] at cD
          unfold hdrC at cC cD
          dsimp only at cC cD
          replace cC := Lib.hid cC
          replace cD := Lib.hid cD
          replace hCR := Lib.hid hCR
          replace hBR := Lib.hid hBR
          replace hfi := Lib.hid hfi
          have HCr := Lib.hid (hs.out.keep HB3.out)
          have HX : Hid (∀ w', Below w3.heap.size w3 w' → (Below w3.heap.size w3 w' ∧ (w'.cell? ⟨w.heap.size, 0, none⟩ = some (.int .i64 cls) ∧ w'.cell? ⟨w.heap.size, 1, none⟩ = some (.int .i64 lim) ∧ w'.cell? ⟨w.heap.size, 2, none⟩ = some (.string src) ∧ w'.cell? ⟨w.heap.size, 3, none⟩ = some (.string dst) ∧ w'.cell? ⟨w.heap.size, 4, none⟩ = some (.int .i64 port) ∧ w'.cell? ⟨w.heap.size, 5, none⟩ = some (.int .i64 rep) ∧ w'.cell? ⟨w.heap.size, 6, none⟩ = some (.int .i64 len)))) := fun w' h =>
            have s := Seven.of (h := ⟨cls, lim, src, dst, port, rep, len⟩) (hH3.out.keep h)
            ⟨h, s.c0, s.c1, s.c2, s.c3, s.c4, s.c5, s.c6⟩
          have kz := HX.out _ (Below.refl _ _)
          go_upto_region 5 with fail
          go_cut [7, 8] (fun s8 s9 wx => s8 = .string ⟨#[]⟩ ∧ s9 = .int .i64 1 ∧ Hid (Below w3.heap.size w3 wx))
          case first =>
            go_region_held3 (fun w' => Below w3.heap.size w3 w' ∧ (w'.cell? ⟨w.heap.size, 0, none⟩ = some (.int .i64 cls) ∧ w'.cell? ⟨w.heap.size, 1, none⟩ = some (.int .i64 lim) ∧ w'.cell? ⟨w.heap.size, 2, none⟩ = some (.string src) ∧ w'.cell? ⟨w.heap.size, 3, none⟩ = some (.string dst) ∧ w'.cell? ⟨w.heap.size, 4, none⟩ = some (.int .i64 port) ∧ w'.cell? ⟨w.heap.size, 5, none⟩ = some (.int .i64 rep) ∧ w'.cell? ⟨w.heap.size, 6, none⟩ = some (.int .i64 len)))
              (first
                | exact HX.out _ ((Below.refl _ _).drew)
                | exact HX.out _ (by assumption)
                | exact HX.out _ (bthen (And.left (by assumption)) (by assumption))
                | exact HX.out _ (bthen (by assumption) (by assumption))
                | exact HX.out _ (bthen (And.left (by assumption)) (below_alloc _ _))
                | exact HX.out _ (bthen (by assumption) (below_alloc _ _))
                | (trace_state; fail))
              (first
                | (go_at_call 14; refine (cloneX_any A n c ps _ (HCr.out.keep (And.left (by assumption))) (by omega)).mono ?_; rintro e w1 ⟨A1, c1, rfl, hC1, hO1, hb1⟩; have hC2 := Lib.hid hC1; have hO2 := Lib.hid hO1; clear hC1 hO1; have hb2 : Below w3.heap.size w3 w1 := bthen (And.left (by assumption)) hb1)
                | (go_at_call 17; refine (cC.out A1 c1 _ hC2.out).mono ?_; rintro e w2 ⟨rfl, hb3⟩; have hb4 : Below w3.heap.size w3 w2 := bthen hb2 hb3))
            all_goals
              have hb5 := Lib.hid hb4
              clear hb4 hb3 hb2 hb1
              go_wp2_with fail
              go_meet
              exact ⟨rfl, rfl, hb5⟩
          case rest =>
            obtain ⟨rfl, rfl, HBx⟩ := hcut
            generalize wc = w4 at *
            clear kz HX HCr
            have HB4 := Lib.hid (bthen HB3.out HBx.out)
            have hH4 := Lib.hid (hH3.out.keep HBx.out)
            clear HBx HB3 hH3 cC
            have HCr := Lib.hid (hs.out.keep HB4.out)
            have HX : Hid (∀ w', Below w4.heap.size w4 w' → (Below w4.heap.size w4 w' ∧ (w'.cell? ⟨w.heap.size, 0, none⟩ = some (.int .i64 cls) ∧ w'.cell? ⟨w.heap.size, 1, none⟩ = some (.int .i64 lim) ∧ w'.cell? ⟨w.heap.size, 2, none⟩ = some (.string src) ∧ w'.cell? ⟨w.heap.size, 3, none⟩ = some (.string dst) ∧ w'.cell? ⟨w.heap.size, 4, none⟩ = some (.int .i64 port) ∧ w'.cell? ⟨w.heap.size, 5, none⟩ = some (.int .i64 rep) ∧ w'.cell? ⟨w.heap.size, 6, none⟩ = some (.int .i64 len)))) := fun w' h =>
              have s := Seven.of (h := ⟨cls, lim, src, dst, port, rep, len⟩) (hH4.out.keep h)
              ⟨h, s.c0, s.c1, s.c2, s.c3, s.c4, s.c5, s.c6⟩
            have kz := HX.out _ (Below.refl _ _)
            go_upto_region 6 with fail
            go_cut [9, 10] (fun s8 s9 wx => s8 = .int .i64 0 ∧ s9 = .int .i64 1 ∧ Hid (Below w4.heap.size w4 wx))
            case first =>
              go_region_held3 (fun w' => Below w4.heap.size w4 w' ∧ (w'.cell? ⟨w.heap.size, 0, none⟩ = some (.int .i64 cls) ∧ w'.cell? ⟨w.heap.size, 1, none⟩ = some (.int .i64 lim) ∧ w'.cell? ⟨w.heap.size, 2, none⟩ = some (.string src) ∧ w'.cell? ⟨w.heap.size, 3, none⟩ = some (.string dst) ∧ w'.cell? ⟨w.heap.size, 4, none⟩ = some (.int .i64 port) ∧ w'.cell? ⟨w.heap.size, 5, none⟩ = some (.int .i64 rep) ∧ w'.cell? ⟨w.heap.size, 6, none⟩ = some (.int .i64 len)))
                (first
                  | exact HX.out _ ((Below.refl _ _).drew)
                  | exact HX.out _ (by assumption)
                  | exact HX.out _ (bthen (And.left (by assumption)) (by assumption))
                  | exact HX.out _ (bthen (by assumption) (by assumption))
                  | exact HX.out _ (bthen (And.left (by assumption)) (below_alloc _ _))
                  | exact HX.out _ (bthen (by assumption) (below_alloc _ _))
                  | (trace_state; fail))
                (first
                  | (go_at_call 14; refine (cloneX_any A n c ps _ (HCr.out.keep (And.left (by assumption))) (by omega)).mono ?_; rintro e w1 ⟨A1, c1, rfl, hC1, hO1, hb1⟩; have hC2 := Lib.hid hC1; have hO2 := Lib.hid hO1; clear hC1 hO1; have hb2 : Below w4.heap.size w4 w1 := bthen (And.left (by assumption)) hb1)
                  | (go_at_call 13; refine (cD.out A1 c1 _ hC2.out).mono ?_; rintro e w2 ⟨rfl, hb3⟩; have hb4 : Below w4.heap.size w4 w2 := bthen hb2 hb3))
              all_goals
                have hb5 := Lib.hid hb4
                clear hb4 hb3 hb2 hb1
                go_wp2_with fail
                go_meet
                exact ⟨rfl, rfl, hb5⟩
            case rest =>
              obtain ⟨rfl, rfl, HBx⟩ := hcut
              generalize wc = w5 at *
              clear kz HX HCr
              have HB5 := Lib.hid (bthen HB4.out HBx.out)
              have hH5 := Lib.hid (hH4.out.keep HBx.out)
              clear HBx HB4 hH4 cD
              go_wp2_with fail
              go_ret
              exact ⟨rfl, HB5.out⟩
        | true =>
          have hCR : CmpR ps ⟨cls, lim, src, dst, port, rep, len⟩ = (encS ps ⟨cls, lim, src, dst, port, rep, len⟩, 0) := by unfold CmpR; rw [hfi]; rfl
          have hBR : BitR ps ⟨cls, lim, src, dst, port, rep, len⟩ = ((enc ps ⟨cls, lim, src, dst, port, rep, len⟩).length, 0) := by unfold BitR; rw [hfi]; rfl
          have hov : ctxOk ps = true ∧ valid ⟨cls, lim, src, dst, port, rep, len⟩ = true := by unfold fine at hfi; rwa [Bool.and_eq_true] at hfi
          have hbk := exp_back ps ⟨cls, lim, src, dst, port, rep, len⟩ more hov.1 (valid_good hov.2)
          obtain ⟨hN1, hN2⟩ := enc_bounds ps ⟨cls, lim, src, dst, port, rep, len⟩ hov.1 (valid_good hov.2)
          have hsz := encS_size ps ⟨cls, lim, src, dst, port, rep, len⟩
          rw [hCR] at cC
          rw [hBR] at cD
          unfold nby at hsz
          generalize encS ps ⟨cls, lim, src, dst, port, rep, len⟩ = S at *
          generalize (enc ps ⟨cls, lim, src, dst, port, rep, len⟩).length = N at *
          have cE := fun A1 c1 W (hx : CtxS W A1 n ps) => Expand_any A1 n c1 ps (S ++ more) W hx (by rw [ByteArray.size_append]; omega)
          rw [hbk] at cE
          unfold hdrC at cC cD
          unfold expV hdrC at cE
          dsimp only at cC cD cE
          have dS : ((S.size : Int) == ((N : Int) + 7) / 8) = true := by rw [beq_iff_eq]; omega
          have dN1 : (N : Int) ≤ 132 := by omega
          have dN2 : (21 : Int) ≤ (N : Int) := by omega
          have hSl : (S.size : Int) + (more.size : Int) ≤ 9223372036854775807 := by omega
          have kE := eql_hdr cls lim port rep len src dst
          replace cC := Lib.hid cC
          replace cD := Lib.hid cD
          replace hCR := Lib.hid hCR
          replace hBR := Lib.hid hBR
          replace hfi := Lib.hid hfi
          replace hov := Lib.hid hov
          replace hbk := Lib.hid hbk
          replace hsz := Lib.hid hsz
          replace cE := Lib.hid cE
          replace kE := Lib.hid kE
          replace dS := Lib.hid dS
          clear hN1 hN2
          have HCr := Lib.hid (hs.out.keep HB3.out)
          have HX : Hid (∀ w', Below w3.heap.size w3 w' → (Below w3.heap.size w3 w' ∧ (w'.cell? ⟨w.heap.size, 0, none⟩ = some (.int .i64 cls) ∧ w'.cell? ⟨w.heap.size, 1, none⟩ = some (.int .i64 lim) ∧ w'.cell? ⟨w.heap.size, 2, none⟩ = some (.string src) ∧ w'.cell? ⟨w.heap.size, 3, none⟩ = some (.string dst) ∧ w'.cell? ⟨w.heap.size, 4, none⟩ = some (.int .i64 port) ∧ w'.cell? ⟨w.heap.size, 5, none⟩ = some (.int .i64 rep) ∧ w'.cell? ⟨w.heap.size, 6, none⟩ = some (.int .i64 len)))) := fun w' h =>
            have s := Seven.of (h := ⟨cls, lim, src, dst, port, rep, len⟩) (hH3.out.keep h)
            ⟨h, s.c0, s.c1, s.c2, s.c3, s.c4, s.c5, s.c6⟩
          have kz := HX.out _ (Below.refl _ _)
          go_upto_region 5 with fail
          go_cut [7, 8] (fun s8 s9 wx => s8 = .string S ∧ s9 = .int .i64 0 ∧ Hid (Below w3.heap.size w3 wx))
          case first =>
            go_region_held3 (fun w' => Below w3.heap.size w3 w' ∧ (w'.cell? ⟨w.heap.size, 0, none⟩ = some (.int .i64 cls) ∧ w'.cell? ⟨w.heap.size, 1, none⟩ = some (.int .i64 lim) ∧ w'.cell? ⟨w.heap.size, 2, none⟩ = some (.string src) ∧ w'.cell? ⟨w.heap.size, 3, none⟩ = some (.string dst) ∧ w'.cell? ⟨w.heap.size, 4, none⟩ = some (.int .i64 port) ∧ w'.cell? ⟨w.heap.size, 5, none⟩ = some (.int .i64 rep) ∧ w'.cell? ⟨w.heap.size, 6, none⟩ = some (.int .i64 len)))
              (first
                | exact HX.out _ ((Below.refl _ _).drew)
                | exact HX.out _ (by assumption)
                | exact HX.out _ (bthen (And.left (by assumption)) (by assumption))
                | exact HX.out _ (bthen (by assumption) (by assumption))
                | exact HX.out _ (bthen (And.left (by assumption)) (below_alloc _ _))
                | exact HX.out _ (bthen (by assumption) (below_alloc _ _))
                | (trace_state; fail))
              (first
                | (go_at_call 14; refine (cloneX_any A n c ps _ (HCr.out.keep (And.left (by assumption))) (by omega)).mono ?_; rintro e w1 ⟨A1, c1, rfl, hC1, hO1, hb1⟩; have hC2 := Lib.hid hC1; have hO2 := Lib.hid hO1; clear hC1 hO1; have hb2 : Below w3.heap.size w3 w1 := bthen (And.left (by assumption)) hb1)
                | (go_at_call 17; refine (cC.out A1 c1 _ hC2.out).mono ?_; rintro e w2 ⟨rfl, hb3⟩; have hb4 : Below w3.heap.size w3 w2 := bthen hb2 hb3))
            all_goals
              have hb5 := Lib.hid hb4
              clear hb4 hb3 hb2 hb1
              go_wp2_with fail
              go_meet
              exact ⟨rfl, rfl, hb5⟩
          case rest =>
            obtain ⟨rfl, rfl, HBx⟩ := hcut
            generalize wc = w4 at *
            clear kz HX HCr
            have HB4 := Lib.hid (bthen HB3.out HBx.out)
            have hH4 := Lib.hid (hH3.out.keep HBx.out)
            clear HBx HB3 hH3 cC
            have HCr := Lib.hid (hs.out.keep HB4.out)
            have HX : Hid (∀ w', Below w4.heap.size w4 w' → (Below w4.heap.size w4 w' ∧ (w'.cell? ⟨w.heap.size, 0, none⟩ = some (.int .i64 cls) ∧ w'.cell? ⟨w.heap.size, 1, none⟩ = some (.int .i64 lim) ∧ w'.cell? ⟨w.heap.size, 2, none⟩ = some (.string src) ∧ w'.cell? ⟨w.heap.size, 3, none⟩ = some (.string dst) ∧ w'.cell? ⟨w.heap.size, 4, none⟩ = some (.int .i64 port) ∧ w'.cell? ⟨w.heap.size, 5, none⟩ = some (.int .i64 rep) ∧ w'.cell? ⟨w.heap.size, 6, none⟩ = some (.int .i64 len)))) := fun w' h =>
              have s := Seven.of (h := ⟨cls, lim, src, dst, port, rep, len⟩) (hH4.out.keep h)
              ⟨h, s.c0, s.c1, s.c2, s.c3, s.c4, s.c5, s.c6⟩
            have kz := HX.out _ (Below.refl _ _)
            go_upto_region 6 with fail
            go_cut [9, 10] (fun s8 s9 wx => s8 = .int .i64 (N : Int) ∧ s9 = .int .i64 0 ∧ Hid (Below w4.heap.size w4 wx))
            case first =>
              go_region_held3 (fun w' => Below w4.heap.size w4 w' ∧ (w'.cell? ⟨w.heap.size, 0, none⟩ = some (.int .i64 cls) ∧ w'.cell? ⟨w.heap.size, 1, none⟩ = some (.int .i64 lim) ∧ w'.cell? ⟨w.heap.size, 2, none⟩ = some (.string src) ∧ w'.cell? ⟨w.heap.size, 3, none⟩ = some (.string dst) ∧ w'.cell? ⟨w.heap.size, 4, none⟩ = some (.int .i64 port) ∧ w'.cell? ⟨w.heap.size, 5, none⟩ = some (.int .i64 rep) ∧ w'.cell? ⟨w.heap.size, 6, none⟩ = some (.int .i64 len)))
                (first
                  | exact HX.out _ ((Below.refl _ _).drew)
                  | exact HX.out _ (by assumption)
                  | exact HX.out _ (bthen (And.left (by assumption)) (by assumption))
                  | exact HX.out _ (bthen (by assumption) (by assumption))
                  | exact HX.out _ (bthen (And.left (by assumption)) (below_alloc _ _))
                  | exact HX.out _ (bthen (by assumption) (below_alloc _ _))
                  | (trace_state; fail))
                (first
                  | (go_at_call 14; refine (cloneX_any A n c ps _ (HCr.out.keep (And.left (by assumption))) (by omega)).mono ?_; rintro e w1 ⟨A1, c1, rfl, hC1, hO1, hb1⟩; have hC2 := Lib.hid hC1; have hO2 := Lib.hid hO1; clear hC1 hO1; have hb2 : Below w4.heap.size w4 w1 := bthen (And.left (by assumption)) hb1)
                  | (go_at_call 13; refine (cD.out A1 c1 _ hC2.out).mono ?_; rintro e w2 ⟨rfl, hb3⟩; have hb4 : Below w4.heap.size w4 w2 := bthen hb2 hb3))
              all_goals
                have hb5 := Lib.hid hb4
                clear hb4 hb3 hb2 hb1
                go_wp2_with fail
                go_meet
                exact ⟨rfl, rfl, hb5⟩
            case rest =>
              obtain ⟨rfl, rfl, HBx⟩ := hcut
              generalize wc = w5 at *
              clear kz HX HCr
              have HB5 := Lib.hid (bthen HB4.out HBx.out)
              have hH5 := Lib.hid (hH4.out.keep HBx.out)
              clear HBx HB4 hH4 cD
              have cc := Lib.hid (cloneX_any A n c ps w5 (hs.out.keep HB5.out) (by omega))
              go_wp2_with fail
              refine cc.out.mono ?_
              rintro e w6 hq
              obtain ⟨A0, c0, rfl, hC1, _, hb⟩ := hq
              have HB6 := Lib.hid (bthen HB5.out hb)
              have hH6 := Lib.hid (hH5.out.keep hb)
              have cE1 := Lib.hid (cE.out A0 c0 w6 hC1)
              clear cc HB5 hH5 hb hC1 cE
              go_wp2_with fail
              refine cE1.out.mono ?_
              rintro e w7 ⟨rfl, hb⟩
              have HB7 := Lib.hid (bthen HB6.out hb)
              have hH7 := Lib.hid (hH6.out.keep hb)
              have HB8 := Lib.hid (bthen HB7.out (below_alloc w7 (.cells #[.int .i64 cls, .int .i64 lim, .string src, .string dst, .int .i64 port, .int .i64 rep, .int .i64 len] 24)))
              have s7 := Seven.of (h := ⟨cls, lim, src, dst, port, rep, len⟩) hH7.out
              have k0 := s7.c0
              have k1 := s7.c1
              have k2 := s7.c2
              have k3 := s7.c3
              have k4 := s7.c4
              have k5 := s7.c5
              have k6 := s7.c6
              dsimp only at k0 k1 k2 k3 k4 k5 k6
              have hlt := hH7.out.lt
              have kE2 := kE.out
              have dS2 := dS.out
              clear cE1 HB6 hH6 HB7 hH7 s7
              replace hb := Lib.hid hb
              go_wp2_with fail
              go_ret
              exact ⟨rfl, HB8.out⟩
end Cp
end Go.Proofs.Ytgdkehnakopnnaa
