/- Compress and Bits, of the program and of the reference. -/
import Derived.Test.YtgdkehnakopnnaaCpWq
namespace Go.Proofs.Ytgdkehnakopnnaa
open Go Go.RowKit Go.Sort
namespace Cp
open Mm
def encS (ps : List ByteArray) (h : Hdr) : ByteArray := strOf (pack (enc ps h))
def fine (ps : List ByteArray) (h : Hdr) : Bool := ctxOk ps && valid h
def CmpR (ps : List ByteArray) (h : Hdr) : ByteArray × Int := if fine ps h then (encS ps h, 0) else (⟨#[]⟩, 1)
def BitR (ps : List ByteArray) (h : Hdr) : Nat × Int := if fine ps h then ((enc ps h).length, 0) else (0, 1)
set_option maxRecDepth 100000 in
set_option maxHeartbeats 8000000 in
theorem Compress_any (A : Option Addr) (n c : Nat) (ps : List ByteArray) (h : Hdr) (w : World) (hs : CtxS w A n ps) :
    Calls Try.prog 17 #[.slice A n c, .agg (hdrC h)] w fun e w' => e = .returned (.tuple #[.string (CmpR ps h).1, .int .i64 (CmpR ps h).2]) ∧ Below w.heap.size w w' := by
  have hR : CmpR ps h = if fine ps h then (encS ps h, 0) else ((⟨#[]⟩ : ByteArray), (1 : Int)) := rfl
  have hb0 := below_alloc w (.cells (hdrC h) 24)
  have hc := contexts_any A n c ps _ (hs.keep hb0)
  have hk0 := (Blk.new w (hdrC h) 24)
  have hw := fun W (hb : Below w.heap.size w W) (h1 : ctxOk ps = true) (h2 : Good h) => write_any A n c ps h W (hs.keep hb) h1 h2
  have hk := fun W => check_any h W
  have hcl : hdrC h = #[.int .i64 h.cls, .int .i64 h.lim, .string h.src, .string h.dst, .int .i64 h.port, .int .i64 h.rep, .int .i64 h.len] := rfl
  have hlen : fine ps h = true → (enc ps h).length ≤ 138 := fun hf => by
    unfold fine at hf
    rw [Bool.and_eq_true] at hf
    exact enc_len ps h (valid_good hf.2) 6
  have hS : Hid (encS ps h = strOf (pack (enc ps h))) := rfl
  generalize encS ps h = S at *
  rw [hR]
  cases ho : ctxOk ps with
  | false =>
    have hf : fine ps h = false := by unfold fine; rw [ho]; rfl
    rw [ctxE_bad ho] at hc
    rw [hf]
    replace hs := Lib.hid hs
    replace hR := Lib.hid hR
    replace hc := Lib.hid hc
    replace hw := Lib.hid hw
    replace hk := Lib.hid hk
    replace ho := Lib.hid ho
    replace hf := Lib.hid hf
    replace hk0 := Lib.hid hk0
    replace hlen := Lib.hid hlen
    replace hb0 := Lib.hid hb0
    simp only [Bool.false_eq_true, if_false]
    rw [hcl] at hc hk0 hb0 ⊢
    clear hcl
    go_enter Try.func17, Try.ntmps17
    go_wp2_with fail
    refine hc.out.mono ?_
    rintro e w1 ⟨rfl, hb⟩
    have HB := Lib.hid (bthen hb0.out hb)
    replace hb := Lib.hid hb
    clear hc
    go_wp2_with fail
    go_ret2
    exact ⟨rfl, HB.out⟩
  | true =>
    rw [ctxE_ok ho] at hc
    cases hv : valid h with
    | false =>
      have hf : fine ps h = false := by unfold fine; rw [ho, hv]; rfl
      have he : chk h = 1 := by unfold chk; rw [hv]; rfl
      rw [hf]
      rw [he] at hk
      replace hs := Lib.hid hs
      replace hR := Lib.hid hR
      replace hc := Lib.hid hc
      replace hw := Lib.hid hw
      replace hk := Lib.hid hk
      replace ho := Lib.hid ho
      replace hf := Lib.hid hf
      replace hk0 := Lib.hid hk0
      replace hv := Lib.hid hv
      replace he := Lib.hid he
      replace hlen := Lib.hid hlen
      replace hb0 := Lib.hid hb0
      simp only [Bool.false_eq_true, if_false]
      rw [hcl] at hc hk hk0 hb0 ⊢
      clear hcl
      go_enter Try.func17, Try.ntmps17
      go_wp2_with fail
      refine hc.out.mono ?_
      rintro e w1 ⟨rfl, hb⟩
      have HB := Lib.hid (bthen hb0.out hb)
      have hq0 := Lib.hid (hk0.out.keep hb)
      have kb := hq0.out.cell
      replace hb := Lib.hid hb
      clear hc
      go_wp2_with fail
      refine (hk.out _).mono ?_
      rintro e w2 ⟨rfl, hb2⟩
      have HB2 := Lib.hid (bthen HB.out hb2)
      clear kb
      replace hb2 := Lib.hid hb2
      go_wp2_with fail
      go_ret2
      exact ⟨rfl, HB2.out⟩
    | true =>
      have hf : fine ps h = true := by unfold fine; rw [ho, hv]; rfl
      have he : chk h = 0 := by unfold chk; rw [hv]; rfl
      have g := valid_good hv
      have hl := hlen hf
      rw [hf]
      rw [he] at hk
      replace hs := Lib.hid hs
      replace hR := Lib.hid hR
      replace hc := Lib.hid hc
      replace hw := Lib.hid hw
      replace hk := Lib.hid hk
      replace ho := Lib.hid ho
      replace hf := Lib.hid hf
      replace hk0 := Lib.hid hk0
      replace hv := Lib.hid hv
      replace he := Lib.hid he
      replace hlen := Lib.hid hlen
      replace g := Lib.hid g
      replace hb0 := Lib.hid hb0
      simp only [if_true]
      rw [hcl] at hc hk hw hk0 hb0 ⊢
      clear hcl
      go_enter Try.func17, Try.ntmps17
      go_wp2_with fail
      refine hc.out.mono ?_
      rintro e w1 ⟨rfl, hb⟩
      have HB := Lib.hid (bthen hb0.out hb)
      have hq0 := Lib.hid (hk0.out.keep hb)
      have kb := hq0.out.cell
      replace hb := Lib.hid hb
      clear hc
      go_wp2_with fail
      refine (hk.out _).mono ?_
      rintro e w2 ⟨rfl, hb2⟩
      have HB2 := Lib.hid (bthen HB.out hb2)
      have kb2 := (hq0.out.keep hb2).cell
      clear kb
      have hw2 := Lib.hid (hw.out w2 HB2.out ho.out g.out)
      replace hb2 := Lib.hid hb2
      go_wp2_with fail
      refine hw2.out.mono ?_
      rintro e w3 hq
      obtain ⟨B, base, rfl, hb3, hB1, hB2, hB3, hW⟩ := hq
      have HB3 := Lib.hid (bthen HB2.out hb3)
      clear kb2 hw2
      have cy := Lib.hid (wbytes_any base B (enc ps h) w3 hW)
      rw [← hS.out] at cy
      replace hb3 := Lib.hid hb3
      replace hW := Lib.hid hW
      go_wp2_with fail
      refine cy.out.mono ?_
      rintro e w4 ⟨rfl, rfl⟩
      have HFIN := HB3
      clear cy
      go_wp2_with fail
      go_ret2
      exact ⟨rfl, HFIN.out⟩
set_option maxRecDepth 100000 in
set_option maxHeartbeats 8000000 in
theorem Bits_any (A : Option Addr) (n c : Nat) (ps : List ByteArray) (h : Hdr) (w : World) (hs : CtxS w A n ps) :
    Calls Try.prog 13 #[.slice A n c, .agg (hdrC h)] w fun e w' => e = .returned (.tuple #[.int .i64 ((BitR ps h).1 : Int), .int .i64 (BitR ps h).2]) ∧ Below w.heap.size w w' := by
  have hR : BitR ps h = if fine ps h then ((enc ps h).length, 0) else ((0 : Nat), (1 : Int)) := rfl
  have hb0 := below_alloc w (.cells (hdrC h) 24)
  have hc := contexts_any A n c ps _ (hs.keep hb0)
  have hk0 := (Blk.new w (hdrC h) 24)
  have hw := fun W (hb : Below w.heap.size w W) (h1 : ctxOk ps = true) (h2 : Good h) => write_any A n c ps h W (hs.keep hb) h1 h2
  have hk := fun W => check_any h W
  have hcl : hdrC h = #[.int .i64 h.cls, .int .i64 h.lim, .string h.src, .string h.dst, .int .i64 h.port, .int .i64 h.rep, .int .i64 h.len] := rfl
  have hlen : fine ps h = true → (enc ps h).length ≤ 138 := fun hf => by
    unfold fine at hf
    rw [Bool.and_eq_true] at hf
    exact enc_len ps h (valid_good hf.2) 6
  rw [hR]
  cases ho : ctxOk ps with
  | false =>
    have hf : fine ps h = false := by unfold fine; rw [ho]; rfl
    rw [ctxE_bad ho] at hc
    rw [hf]
    replace hs := Lib.hid hs
    replace hR := Lib.hid hR
    replace hc := Lib.hid hc
    replace hw := Lib.hid hw
    replace hk := Lib.hid hk
    replace ho := Lib.hid ho
    replace hf := Lib.hid hf
    replace hk0 := Lib.hid hk0
    replace hlen := Lib.hid hlen
    replace hb0 := Lib.hid hb0
    simp only [Bool.false_eq_true, if_false]
    rw [hcl] at hc hk0 hb0 ⊢
    clear hcl
    go_enter Try.func13, Try.ntmps13
    go_wp2_with fail
    refine hc.out.mono ?_
    rintro e w1 ⟨rfl, hb⟩
    have HB := Lib.hid (bthen hb0.out hb)
    replace hb := Lib.hid hb
    clear hc
    go_wp2_with fail
    go_ret2
    exact ⟨rfl, HB.out⟩
  | true =>
    rw [ctxE_ok ho] at hc
    cases hv : valid h with
    | false =>
      have hf : fine ps h = false := by unfold fine; rw [ho, hv]; rfl
      have he : chk h = 1 := by unfold chk; rw [hv]; rfl
      rw [hf]
      rw [he] at hk
      replace hs := Lib.hid hs
      replace hR := Lib.hid hR
      replace hc := Lib.hid hc
      replace hw := Lib.hid hw
      replace hk := Lib.hid hk
      replace ho := Lib.hid ho
      replace hf := Lib.hid hf
      replace hk0 := Lib.hid hk0
      replace hv := Lib.hid hv
      replace he := Lib.hid he
      replace hlen := Lib.hid hlen
      replace hb0 := Lib.hid hb0
      simp only [Bool.false_eq_true, if_false]
      rw [hcl] at hc hk hk0 hb0 ⊢
      clear hcl
      go_enter Try.func13, Try.ntmps13
      go_wp2_with fail
      refine hc.out.mono ?_
      rintro e w1 ⟨rfl, hb⟩
      have HB := Lib.hid (bthen hb0.out hb)
      have hq0 := Lib.hid (hk0.out.keep hb)
      have kb := hq0.out.cell
      replace hb := Lib.hid hb
      clear hc
      go_wp2_with fail
      refine (hk.out _).mono ?_
      rintro e w2 ⟨rfl, hb2⟩
      have HB2 := Lib.hid (bthen HB.out hb2)
      clear kb
      replace hb2 := Lib.hid hb2
      go_wp2_with fail
      go_ret2
      exact ⟨rfl, HB2.out⟩
    | true =>
      have hf : fine ps h = true := by unfold fine; rw [ho, hv]; rfl
      have he : chk h = 0 := by unfold chk; rw [hv]; rfl
      have g := valid_good hv
      have hl := hlen hf
      rw [hf]
      rw [he] at hk
      replace hs := Lib.hid hs
      replace hR := Lib.hid hR
      replace hc := Lib.hid hc
      replace hw := Lib.hid hw
      replace hk := Lib.hid hk
      replace ho := Lib.hid ho
      replace hf := Lib.hid hf
      replace hk0 := Lib.hid hk0
      replace hv := Lib.hid hv
      replace he := Lib.hid he
      replace hlen := Lib.hid hlen
      replace g := Lib.hid g
      replace hb0 := Lib.hid hb0
      simp only [if_true]
      rw [hcl] at hc hk hw hk0 hb0 ⊢
      clear hcl
      go_enter Try.func13, Try.ntmps13
      go_wp2_with fail
      refine hc.out.mono ?_
      rintro e w1 ⟨rfl, hb⟩
      have HB := Lib.hid (bthen hb0.out hb)
      have hq0 := Lib.hid (hk0.out.keep hb)
      have kb := hq0.out.cell
      replace hb := Lib.hid hb
      clear hc
      go_wp2_with fail
      refine (hk.out _).mono ?_
      rintro e w2 ⟨rfl, hb2⟩
      have HB2 := Lib.hid (bthen HB.out hb2)
      have kb2 := (hq0.out.keep hb2).cell
      clear kb
      have hw2 := Lib.hid (hw.out w2 HB2.out ho.out g.out)
      replace hb2 := Lib.hid hb2
      go_wp2_with fail
      refine hw2.out.mono ?_
      rintro e w3 hq
      obtain ⟨B, base, rfl, hb3, hB1, hB2, hB3, hW⟩ := hq
      have HB3 := Lib.hid (bthen HB2.out hb3)
      clear kb2 hw2
      have cy := Lib.hid (wbits_any base B (enc ps h) w3 hW)
      replace hb3 := Lib.hid hb3
      replace hW := Lib.hid hW
      go_wp2_with fail
      refine cy.out.mono ?_
      rintro e w4 ⟨rfl, rfl⟩
      have HFIN := HB3
      clear cy
      go_wp2_with fail
      go_ret2
      exact ⟨rfl, HFIN.out⟩
set_option maxRecDepth 100000 in
set_option maxHeartbeats 8000000 in
theorem rCompress_any (A : Option Addr) (n c : Nat) (ps : List ByteArray) (h : Hdr) (w : World) (hs : CtxS w A n ps) :
    Calls Try.prog 18 #[.slice A n c, .agg (hdrC h)] w fun e w' => e = .returned (.tuple #[.string (CmpR ps h).1, .int .i64 (CmpR ps h).2]) ∧ Below w.heap.size w w' := by
  have hR : CmpR ps h = if fine ps h then (encS ps h, 0) else ((⟨#[]⟩ : ByteArray), (1 : Int)) := rfl
  have hb0 := below_alloc w (.cells (hdrC h) 24)
  have hc := rcontexts_any A n c ps _ (hs.keep hb0)
  have hk0 := (Blk.new w (hdrC h) 24)
  have hw := fun W (hb : Below w.heap.size w W) (h1 : ctxOk ps = true) (h2 : Good h) => rwrite_any A n c ps h W (hs.keep hb) h1 h2
  have hk := fun W => rcheck_any h W
  have hcl : hdrC h = #[.int .i64 h.cls, .int .i64 h.lim, .string h.src, .string h.dst, .int .i64 h.port, .int .i64 h.rep, .int .i64 h.len] := rfl
  have hlen : fine ps h = true → (enc ps h).length ≤ 138 := fun hf => by
    unfold fine at hf
    rw [Bool.and_eq_true] at hf
    exact enc_len ps h (valid_good hf.2) 6
  have hS : Hid (encS ps h = strOf (pack (enc ps h))) := rfl
  generalize encS ps h = S at *
  rw [hR]
  cases ho : ctxOk ps with
  | false =>
    have hf : fine ps h = false := by unfold fine; rw [ho]; rfl
    rw [ctxE_bad ho] at hc
    rw [hf]
    replace hs := Lib.hid hs
    replace hR := Lib.hid hR
    replace hc := Lib.hid hc
    replace hw := Lib.hid hw
    replace hk := Lib.hid hk
    replace ho := Lib.hid ho
    replace hf := Lib.hid hf
    replace hk0 := Lib.hid hk0
    replace hlen := Lib.hid hlen
    replace hb0 := Lib.hid hb0
    simp only [Bool.false_eq_true, if_false]
    rw [hcl] at hc hk0 hb0 ⊢
    clear hcl
    go_enter Try.func18, Try.ntmps18
    go_wp2_with fail
    refine hc.out.mono ?_
    rintro e w1 ⟨rfl, rfl⟩
    have HB := hb0
    clear hc
    go_wp2_with fail
    go_ret2
    exact ⟨rfl, HB.out⟩
  | true =>
    rw [ctxE_ok ho] at hc
    cases hv : valid h with
    | false =>
      have hf : fine ps h = false := by unfold fine; rw [ho, hv]; rfl
      have he : chk h = 1 := by unfold chk; rw [hv]; rfl
      rw [hf]
      rw [he] at hk
      replace hs := Lib.hid hs
      replace hR := Lib.hid hR
      replace hc := Lib.hid hc
      replace hw := Lib.hid hw
      replace hk := Lib.hid hk
      replace ho := Lib.hid ho
      replace hf := Lib.hid hf
      replace hk0 := Lib.hid hk0
      replace hv := Lib.hid hv
      replace he := Lib.hid he
      replace hlen := Lib.hid hlen
      replace hb0 := Lib.hid hb0
      simp only [Bool.false_eq_true, if_false]
      rw [hcl] at hc hk hk0 hb0 ⊢
      clear hcl
      go_enter Try.func18, Try.ntmps18
      go_wp2_with fail
      refine hc.out.mono ?_
      rintro e w1 ⟨rfl, rfl⟩
      have HB := hb0
      have hq0 := hk0
      have kb := hq0.out.cell
      clear hc
      go_wp2_with fail
      refine (hk.out _).mono ?_
      rintro e w2 ⟨rfl, hb2⟩
      have HB2 := Lib.hid (bthen HB.out hb2)
      clear kb
      replace hb2 := Lib.hid hb2
      go_wp2_with fail
      go_ret2
      exact ⟨rfl, HB2.out⟩
    | true =>
      have hf : fine ps h = true := by unfold fine; rw [ho, hv]; rfl
      have he : chk h = 0 := by unfold chk; rw [hv]; rfl
      have g := valid_good hv
      have hl := hlen hf
      rw [hf]
      rw [he] at hk
      replace hs := Lib.hid hs
      replace hR := Lib.hid hR
      replace hc := Lib.hid hc
      replace hw := Lib.hid hw
      replace hk := Lib.hid hk
      replace ho := Lib.hid ho
      replace hf := Lib.hid hf
      replace hk0 := Lib.hid hk0
      replace hv := Lib.hid hv
      replace he := Lib.hid he
      replace hlen := Lib.hid hlen
      replace g := Lib.hid g
      replace hb0 := Lib.hid hb0
      simp only [if_true]
      rw [hcl] at hc hk hw hk0 hb0 ⊢
      clear hcl
      go_enter Try.func18, Try.ntmps18
      go_wp2_with fail
      refine hc.out.mono ?_
      rintro e w1 ⟨rfl, rfl⟩
      have HB := hb0
      have hq0 := hk0
      have kb := hq0.out.cell
      clear hc
      go_wp2_with fail
      refine (hk.out _).mono ?_
      rintro e w2 ⟨rfl, hb2⟩
      have HB2 := Lib.hid (bthen HB.out hb2)
      have kb2 := (hq0.out.keep hb2).cell
      clear kb
      have hw2 := Lib.hid (hw.out w2 HB2.out ho.out g.out)
      replace hb2 := Lib.hid hb2
      go_wp2_with fail
      refine hw2.out.mono ?_
      rintro e w3 hq
      obtain ⟨B, base, rfl, hb3, hB1, hB2, hB3, hW⟩ := hq
      have HB3 := Lib.hid (bthen HB2.out hb3)
      clear kb2 hw2
      have cy := Lib.hid (rBytes_any base B (enc ps h) w3 hW (by omega))
      rw [← hS.out] at cy
      replace hb3 := Lib.hid hb3
      replace hW := Lib.hid hW
      go_wp2_with fail
      refine cy.out.mono ?_
      rintro e w4 ⟨rfl, hb4⟩
      have HFIN := Lib.hid (bthen HB3.out hb4)
      replace hb4 := Lib.hid hb4
      clear cy
      go_wp2_with fail
      go_ret2
      exact ⟨rfl, HFIN.out⟩
set_option maxRecDepth 100000 in
set_option maxHeartbeats 8000000 in
theorem rBits2_any (A : Option Addr) (n c : Nat) (ps : List ByteArray) (h : Hdr) (w : World) (hs : CtxS w A n ps) :
    Calls Try.prog 19 #[.slice A n c, .agg (hdrC h)] w fun e w' => e = .returned (.tuple #[.int .i64 ((BitR ps h).1 : Int), .int .i64 (BitR ps h).2]) ∧ Below w.heap.size w w' := by
  have hR : BitR ps h = if fine ps h then ((enc ps h).length, 0) else ((0 : Nat), (1 : Int)) := rfl
  have hb0 := below_alloc w (.cells (hdrC h) 24)
  have hc := rcontexts_any A n c ps _ (hs.keep hb0)
  have hk0 := (Blk.new w (hdrC h) 24)
  have hw := fun W (hb : Below w.heap.size w W) (h1 : ctxOk ps = true) (h2 : Good h) => rwrite_any A n c ps h W (hs.keep hb) h1 h2
  have hk := fun W => rcheck_any h W
  have hcl : hdrC h = #[.int .i64 h.cls, .int .i64 h.lim, .string h.src, .string h.dst, .int .i64 h.port, .int .i64 h.rep, .int .i64 h.len] := rfl
  have hlen : fine ps h = true → (enc ps h).length ≤ 138 := fun hf => by
    unfold fine at hf
    rw [Bool.and_eq_true] at hf
    exact enc_len ps h (valid_good hf.2) 6
  rw [hR]
  cases ho : ctxOk ps with
  | false =>
    have hf : fine ps h = false := by unfold fine; rw [ho]; rfl
    rw [ctxE_bad ho] at hc
    rw [hf]
    replace hs := Lib.hid hs
    replace hR := Lib.hid hR
    replace hc := Lib.hid hc
    replace hw := Lib.hid hw
    replace hk := Lib.hid hk
    replace ho := Lib.hid ho
    replace hf := Lib.hid hf
    replace hk0 := Lib.hid hk0
    replace hlen := Lib.hid hlen
    replace hb0 := Lib.hid hb0
    simp only [Bool.false_eq_true, if_false]
    rw [hcl] at hc hk0 hb0 ⊢
    clear hcl
    go_enter Try.func19, Try.ntmps19
    go_wp2_with fail
    refine hc.out.mono ?_
    rintro e w1 ⟨rfl, rfl⟩
    have HB := hb0
    clear hc
    go_wp2_with fail
    go_ret2
    exact ⟨rfl, HB.out⟩
  | true =>
    rw [ctxE_ok ho] at hc
    cases hv : valid h with
    | false =>
      have hf : fine ps h = false := by unfold fine; rw [ho, hv]; rfl
      have he : chk h = 1 := by unfold chk; rw [hv]; rfl
      rw [hf]
      rw [he] at hk
      replace hs := Lib.hid hs
      replace hR := Lib.hid hR
      replace hc := Lib.hid hc
      replace hw := Lib.hid hw
      replace hk := Lib.hid hk
      replace ho := Lib.hid ho
      replace hf := Lib.hid hf
      replace hk0 := Lib.hid hk0
      replace hv := Lib.hid hv
      replace he := Lib.hid he
      replace hlen := Lib.hid hlen
      replace hb0 := Lib.hid hb0
      simp only [Bool.false_eq_true, if_false]
      rw [hcl] at hc hk hk0 hb0 ⊢
      clear hcl
      go_enter Try.func19, Try.ntmps19
      go_wp2_with fail
      refine hc.out.mono ?_
      rintro e w1 ⟨rfl, rfl⟩
      have HB := hb0
      have hq0 := hk0
      have kb := hq0.out.cell
      clear hc
      go_wp2_with fail
      refine (hk.out _).mono ?_
      rintro e w2 ⟨rfl, hb2⟩
      have HB2 := Lib.hid (bthen HB.out hb2)
      clear kb
      replace hb2 := Lib.hid hb2
      go_wp2_with fail
      go_ret2
      exact ⟨rfl, HB2.out⟩
    | true =>
      have hf : fine ps h = true := by unfold fine; rw [ho, hv]; rfl
      have he : chk h = 0 := by unfold chk; rw [hv]; rfl
      have g := valid_good hv
      have hl := hlen hf
      rw [hf]
      rw [he] at hk
      replace hs := Lib.hid hs
      replace hR := Lib.hid hR
      replace hc := Lib.hid hc
      replace hw := Lib.hid hw
      replace hk := Lib.hid hk
      replace ho := Lib.hid ho
      replace hf := Lib.hid hf
      replace hk0 := Lib.hid hk0
      replace hv := Lib.hid hv
      replace he := Lib.hid he
      replace hlen := Lib.hid hlen
      replace g := Lib.hid g
      replace hb0 := Lib.hid hb0
      simp only [if_true]
      rw [hcl] at hc hk hw hk0 hb0 ⊢
      clear hcl
      go_enter Try.func19, Try.ntmps19
      go_wp2_with fail
      refine hc.out.mono ?_
      rintro e w1 ⟨rfl, rfl⟩
      have HB := hb0
      have hq0 := hk0
      have kb := hq0.out.cell
      clear hc
      go_wp2_with fail
      refine (hk.out _).mono ?_
      rintro e w2 ⟨rfl, hb2⟩
      have HB2 := Lib.hid (bthen HB.out hb2)
      have kb2 := (hq0.out.keep hb2).cell
      clear kb
      have hw2 := Lib.hid (hw.out w2 HB2.out ho.out g.out)
      replace hb2 := Lib.hid hb2
      go_wp2_with fail
      refine hw2.out.mono ?_
      rintro e w3 hq
      obtain ⟨B, base, rfl, hb3, hB1, hB2, hB3, hW⟩ := hq
      have HB3 := Lib.hid (bthen HB2.out hb3)
      clear kb2 hw2
      have cy := Lib.hid (rBits_any base B (enc ps h) w3 hW)
      replace hb3 := Lib.hid hb3
      replace hW := Lib.hid hW
      go_wp2_with fail
      refine cy.out.mono ?_
      rintro e w4 ⟨rfl, rfl⟩
      have HFIN := HB3
      clear cy
      go_wp2_with fail
      go_ret2
      exact ⟨rfl, HFIN.out⟩
end Cp
end Go.Proofs.Ytgdkehnakopnnaa
