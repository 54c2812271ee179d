/- CompressStrict, walked. -/
import Derived.Test.YtgdkehnakopnnaaCpL1
namespace Go.Proofs.Ytgdkehnakopnnaa
open Go Go.RowKit Go.Sort
namespace Cp
open Mm
theorem exp_cases (ps : List ByteArray) (d : ByteArray) : (∃ er : Int, er ≠ 0 ∧ ExpP ps d = (hdr0, ⟨#[]⟩, er)) ∨ (∃ h rest, ctxOk ps = true ∧ valid h = true ∧ ExpP ps d = (h, rest, 0) ∧ encS ps h ++ rest = d) := by
  unfold ExpP
  by_cases ho : ctxOk ps = true
  · rw [if_pos ho]
    generalize pHdr d ps (some 0) = P
    by_cases hv : P.2 = true ∧ valid P.1 = true
    · rw [if_pos hv]
      by_cases hp : Lib.hasPrefix d.data.toList (encS ps P.1).data.toList = true
      · rw [if_pos hp]
        refine .inr ⟨_, _, ho, hv.2, rfl, ?_⟩
        apply WideShapes.bytes_inj
        unfold Lib.trimPrefix
        rw [if_pos hp]
        unfold Lib.hasPrefix at hp
        rw [List.isPrefixOf_iff_prefix] at hp
        obtain ⟨t, ht⟩ := hp
        rw [ByteArray.data_append, Array.toList_append]
        show _ ++ List.drop _ _ = _
        rw [← ht, List.drop_left]
      · rw [if_neg hp]; exact .inl ⟨10, by decide, rfl⟩
    · rw [if_neg hv]; exact .inl ⟨10, by decide, rfl⟩
  · rw [if_neg ho]; exact .inl ⟨1, by decide, rfl⟩
set_option maxRecDepth 100000 in
set_option maxHeartbeats 8000000 in
theorem compressStrict_walk (A : Option Addr) (n c : Nat) (ps : List ByteArray) (d : ByteArray) (w : World) (hs : CtxS w A n ps) (hd : d.size ≤ maxLen) :
    Calls Try.prog 8 #[.slice A n c, .string d] w fun e w' => e = .returned (.bool true) ∧ Below w.heap.size w w' := by
  have ca := Lib.hid (awake_any w)
  have cf := Lib.hid (fun W (hb : Below w.heap.size w W) => few_any A n c ps W (hs.keep hb))
  have hlen := hs.els.len
  have hfn : few ps = true → n ≤ 12 := fun h => few_n h hlen
  unfold maxLen at hd
  have hdm : (d.size : Int) ≤ 9223372036854775807 := by omega
  generalize few ps = F at *
  replace hs := Lib.hid hs
  replace hlen := Lib.hid hlen
  go_enter Try.func8, Try.ntmps8
  go_wp2_with fail
  refine ca.out.mono ?_
  rintro e w1 ⟨rfl, hb⟩
  have HB1 := Lib.hid hb
  have cf1 := Lib.hid (cf.out w1 hb)
  clear ca cf hb
  go_wp2_with fail
  refine cf1.out.mono ?_
  rintro e w2 ⟨rfl, hb⟩
  have HB2 := Lib.hid (bthen HB1.out hb)
  clear cf1 HB1 hb
  cases F with
  | false =>
    go_wp2_with fail
    go_ret
    exact ⟨rfl, HB2.out⟩
  | true =>
    have hn := hfn rfl
    clear hfn
    by_cases h100 : (100 : Int) < (d.size : Int)
    · go_wp2_with fail
      go_ret
      exact ⟨rfl, HB2.out⟩
    · have hd1 : d.size ≤ 60000 := by omega
      have cc := Lib.hid (cloneX_any A n c ps w2 (hs.out.keep HB2.out) (by omega))
      go_wp2_with fail
      refine cc.out.mono ?_
      rintro e w3 hq
      obtain ⟨A0, c0, rfl, hC1, _, hb⟩ := hq
      have HB3 := Lib.hid (bthen HB2.out hb)
      have cE := Expand_any A0 n c0 ps d w3 hC1 hd1
      clear cc HB2 hb hC1
      rcases exp_cases ps d with ⟨er, her, hX⟩ | ⟨h, rest, ho, hv, hX, hSd⟩
      · rw [hX] at cE
        unfold expV hdrC hdr0 at cE
        dsimp only at cE
        have dE : (er != 0) = true := by rw [bne_iff_ne]; exact her
        have kE := eql_hdr 0 0 0 0 0 ⟨#[]⟩ ⟨#[]⟩
        replace her := Lib.hid her
        replace hX := Lib.hid hX
        replace cE := Lib.hid cE
        go_wp2_with fail
        refine cE.out.mono ?_
        rintro e w4 ⟨rfl, hb⟩
        have HB4 := Lib.hid (bthen HB3.out hb)
        have HB5 := Lib.hid (bthen HB4.out (below_alloc w4 (.cells #[.int .i64 0, .int .i64 0, .string ⟨#[]⟩, .string ⟨#[]⟩, .int .i64 0, .int .i64 0, .int .i64 0] 24)))
        clear cE HB3 hb HB4
        go_wp2_with fail
        go_ret
        exact ⟨rfl, HB5.out⟩
      · obtain ⟨cls, lim, src, dst, port, rep, len⟩ := h
        rw [hX] at cE
        have hfi : fine ps ⟨cls, lim, src, dst, port, rep, len⟩ = true := by unfold fine; rw [ho, hv]; rfl
        have hCR : CmpR ps ⟨cls, lim, src, dst, port, rep, len⟩ = (encS ps ⟨cls, lim, src, dst, port, rep, len⟩, 0) := by unfold CmpR; rw [hfi]; rfl
        have hck : chk ⟨cls, lim, src, dst, port, rep, len⟩ = 0 := by unfold chk; rw [hv]; rfl
        have cC := fun A1 c1 W (hx : CtxS W A1 n ps) => Compress_any A1 n c1 ps ⟨cls, lim, src, dst, port, rep, len⟩ W hx
        have cK := fun W => check_any ⟨cls, lim, src, dst, port, rep, len⟩ W
        rw [hCR] at cC
        rw [hck] at cK
        generalize encS ps ⟨cls, lim, src, dst, port, rep, len⟩ = S at *
        unfold hdrC at cC cK
        unfold expV hdrC at cE
        dsimp only at cE cC cK
        have hSl : (S.size : Int) + (rest.size : Int) ≤ 9223372036854775807 := by rw [← hSd, ByteArray.size_append] at hd1; omega
        replace hX := Lib.hid hX
        replace cE := Lib.hid cE
        replace cC := Lib.hid cC
        replace cK := Lib.hid cK
        replace hfi := Lib.hid hfi
        replace hCR := Lib.hid hCR
        replace hck := Lib.hid hck
        replace hv := Lib.hid hv
        replace ho := Lib.hid ho
        replace hSd := Lib.hid hSd
        go_wp2_with fail
        refine cE.out.mono ?_
        rintro e w4 ⟨rfl, hb⟩
        have HB4 := Lib.hid (bthen HB3.out hb)
        have HB5 := Lib.hid (bthen HB4.out (below_alloc w4 (.cells #[.int .i64 cls, .int .i64 lim, .string src, .string dst, .int .i64 port, .int .i64 rep, .int .i64 len] 24)))
        have hH5 := Lib.hid (Blk.new w4 #[.int .i64 cls, .int .i64 lim, .string src, .string dst, .int .i64 port, .int .i64 rep, .int .i64 len] 24)
        clear cE HB3 hb HB4
        go_upto_region 8 with fail
        obtain ⟨w5, hw5⟩ : ∃ w5, w5 = w4.alloc (.cells #[.int .i64 cls, .int .i64 lim, .string src, .string dst, .int .i64 port, .int .i64 rep, .int .i64 len] 24) := ⟨_, rfl⟩
        rw [← hw5] at HB5 hH5 ⊢
        have hl5 := hH5.out.lt
        replace hw5 := Lib.hid hw5
        have HCr := Lib.hid (hs.out.keep HB5.out)
        have HX : Hid (∀ w', Below w5.heap.size w5 w' → (Below w5.heap.size w5 w' ∧ (w'.cell? ⟨w4.heap.size, 0, none⟩ = some (.int .i64 cls) ∧ w'.cell? ⟨w4.heap.size, 1, none⟩ = some (.int .i64 lim) ∧ w'.cell? ⟨w4.heap.size, 2, none⟩ = some (.string src) ∧ w'.cell? ⟨w4.heap.size, 3, none⟩ = some (.string dst) ∧ w'.cell? ⟨w4.heap.size, 4, none⟩ = some (.int .i64 port) ∧ w'.cell? ⟨w4.heap.size, 5, none⟩ = some (.int .i64 rep) ∧ w'.cell? ⟨w4.heap.size, 6, none⟩ = some (.int .i64 len)))) := fun w' h =>
          have s := Seven.of (h := ⟨cls, lim, src, dst, port, rep, len⟩) (hH5.out.keep h)
          ⟨h, s.c0, s.c1, s.c2, s.c3, s.c4, s.c5, s.c6⟩
        have kz := HX.out _ (Below.refl _ _)
        go_upto_region 8 with fail
        go_cut [8, 9] (fun s8 s9 wx => s8 = .string S ∧ s9 = .int .i64 0 ∧ Hid (Below w5.heap.size w5 wx))
        case first =>
          go_region_held3 (fun w' => Below w5.heap.size w5 w' ∧ (w'.cell? ⟨w4.heap.size, 0, none⟩ = some (.int .i64 cls) ∧ w'.cell? ⟨w4.heap.size, 1, none⟩ = some (.int .i64 lim) ∧ w'.cell? ⟨w4.heap.size, 2, none⟩ = some (.string src) ∧ w'.cell? ⟨w4.heap.size, 3, none⟩ = some (.string dst) ∧ w'.cell? ⟨w4.heap.size, 4, none⟩ = some (.int .i64 port) ∧ w'.cell? ⟨w4.heap.size, 5, none⟩ = some (.int .i64 rep) ∧ w'.cell? ⟨w4.heap.size, 6, none⟩ = some (.int .i64 len)))
            (first
              | exact HX.out _ ((Below.refl _ _).drew)
              | exact HX.out _ (by assumption)
              | exact HX.out _ (bthen (And.left (by assumption)) (by assumption))
              | exact HX.out _ (bthen (by assumption) (by assumption))
              | exact HX.out _ (bthen (And.left (by assumption)) (below_alloc _ _))
              | exact HX.out _ (bthen (by assumption) (below_alloc _ _))
              | (trace_state; fail))
            (first
              | (go_at_call 14; refine (cloneX_any A n c ps _ (HCr.out.keep (And.left (by assumption))) (by omega)).mono ?_; rintro e w1 ⟨A1, c1, rfl, hC1, hO1, hb1⟩; have hC2 := Lib.hid hC1; have hO2 := Lib.hid hO1; clear hC1 hO1; have hb2 : Below w5.heap.size w5 w1 := bthen (And.left (by assumption)) hb1)
              | (go_at_call 17; refine (cC.out A1 c1 _ hC2.out).mono ?_; rintro e w2 ⟨rfl, hb3⟩; have hb4 : Below w5.heap.size w5 w2 := bthen hb2 hb3))
          all_goals
            have hb5 := Lib.hid hb4
            clear hb4 hb3 hb2 hb1
            go_wp2_with fail
            go_meet
            exact ⟨rfl, rfl, hb5⟩
        case rest =>
          obtain ⟨rfl, rfl, HBx⟩ := hcut
          generalize wc = w6 at *
          clear kz HX HCr
          have HB6 := Lib.hid (bthen HB5.out HBx.out)
          have S6 := Seven.of (h := ⟨cls, lim, src, dst, port, rep, len⟩) (hH5.out.keep HBx.out)
          have k0 := S6.c0
          have k1 := S6.c1
          have k2 := S6.c2
          have k3 := S6.c3
          have k4 := S6.c4
          have k5 := S6.c5
          have k6 := S6.c6
          dsimp only at k0 k1 k2 k3 k4 k5 k6
          clear S6 hH5 HB5
          have hSd2 := hSd.out
          go_wp2_with fail
          refine (cK.out _).mono ?_
          rintro e w7 ⟨rfl, hb⟩
          have HB7 := Lib.hid (bthen HB6.out hb)
          clear k0 k1 k2 k3 k4 k5 k6 cK cC
          replace hb := Lib.hid hb
          go_wp2_with fail
          go_ret
          exact ⟨rfl, HB7.out⟩
end Cp
end Go.Proofs.Ytgdkehnakopnnaa
