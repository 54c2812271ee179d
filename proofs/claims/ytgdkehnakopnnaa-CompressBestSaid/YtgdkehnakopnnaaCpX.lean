/- Expand, of the program. -/
import Derived.Test.YtgdkehnakopnnaaCpRl
namespace Go.Proofs.Ytgdkehnakopnnaa
open Go Go.RowKit Go.Sort
namespace Cp
open Mm
def hdr0 : Hdr := ⟨0, 0, ⟨#[]⟩, ⟨#[]⟩, 0, 0, 0⟩
def strL (l : List UInt8) : ByteArray := ⟨l.toArray⟩
def ExpP (ps : List ByteArray) (d : ByteArray) : Hdr × ByteArray × Int :=
  if ctxOk ps = true then
    if (pHdr d ps (some 0)).2 = true ∧ valid (pHdr d ps (some 0)).1 = true then
      if Lib.hasPrefix d.data.toList (encS ps (pHdr d ps (some 0)).1).data.toList = true then ((pHdr d ps (some 0)).1, strL (Lib.trimPrefix d.data.toList (encS ps (pHdr d ps (some 0)).1).data.toList), 0)
      else (hdr0, ⟨#[]⟩, 10)
    else (hdr0, ⟨#[]⟩, 10)
  else (hdr0, ⟨#[]⟩, 1)
def expV (x : Hdr × ByteArray × Int) : Value := .tuple #[.agg (hdrC x.1), .string x.2.1, .int .i64 x.2.2]
theorem hdr0C : hdrC hdr0 = #[.int .i64 0, .int .i64 0, .string ⟨#[]⟩, .string ⟨#[]⟩, .int .i64 0, .int .i64 0, .int .i64 0] := rfl
/-- the result's cells, read at the end -/
structure Seven (w : World) (q : Nat) (h : Hdr) : Prop where
  c0 : w.cell? ⟨q, 0, none⟩ = some (.int .i64 h.cls)
  c1 : w.cell? ⟨q, 1, none⟩ = some (.int .i64 h.lim)
  c2 : w.cell? ⟨q, 2, none⟩ = some (.string h.src)
  c3 : w.cell? ⟨q, 3, none⟩ = some (.string h.dst)
  c4 : w.cell? ⟨q, 4, none⟩ = some (.int .i64 h.port)
  c5 : w.cell? ⟨q, 5, none⟩ = some (.int .i64 h.rep)
  c6 : w.cell? ⟨q, 6, none⟩ = some (.int .i64 h.len)
theorem Seven.of {w : World} {q : Nat} {h : Hdr} {t : TypeId} (hb : Blk w q (hdrC h) t) : Seven w q h := ⟨hb.cell 0, hb.cell 1, hb.cell 2, hb.cell 3, hb.cell 4, hb.cell 5, hb.cell 6⟩
theorem put7_below {n q : Nat} {a w : World} (hq : n ≤ q) (h : Below n a w) (C : Array Value) : Below n a (put7 w q C) :=
  ((((((h.setCell hq _).setCell hq _).setCell hq _).setCell hq _).setCell hq _).setCell hq _).setCell hq _
set_option maxRecDepth 100000 in
set_option maxHeartbeats 16000000 in
theorem Expand_any (A : Option Addr) (n c : Nat) (ps : List ByteArray) (d : ByteArray) (w : World) (hs : CtxS w A n ps) (hd : d.size ≤ 60000) :
    Calls Try.prog 24 #[.slice A n c, .string d] w fun e w' => e = .returned (expV (ExpP ps d)) ∧ Below w.heap.size w w' := by
  have hE : ExpP ps d = if ctxOk ps = true then
    (if (pHdr d ps (some 0)).2 = true ∧ valid (pHdr d ps (some 0)).1 = true then
      (if Lib.hasPrefix d.data.toList (encS ps (pHdr d ps (some 0)).1).data.toList = true then ((pHdr d ps (some 0)).1, strL (Lib.trimPrefix d.data.toList (encS ps (pHdr d ps (some 0)).1).data.toList), 0)
      else (hdr0, ⟨#[]⟩, 10))
    else (hdr0, ⟨#[]⟩, 10))
  else (hdr0, ⟨#[]⟩, 1) := rfl
  generalize ExpP ps d = RR at *
  have hb0 := below_alloc w (.cells #[.int .i64 0, .int .i64 0, .string ⟨#[]⟩, .string ⟨#[]⟩, .int .i64 0, .int .i64 0, .int .i64 0] 24)
  have hc := contexts_any A n c ps _ (hs.keep hb0)
  have hq0 := Blk.new w (hdrC hdr0) 24
  have hq1 : Blk (w.alloc (.cells #[.int .i64 0, .int .i64 0, .string ⟨#[]⟩, .string ⟨#[]⟩, .int .i64 0, .int .i64 0, .int .i64 0] 24)) w.heap.size (hdrC hdr0) 24 := hq0
  clear hq0
  have d1 : (d.size : Int) ≤ 65536 := by omega
  cases ho : ctxOk ps with
  | false =>
    rw [ctxE_bad ho] at hc
    rw [ho] at hE
    simp only [Bool.false_eq_true, if_false] at hE
    subst hE
    replace hs := Lib.hid hs
    replace ho := Lib.hid ho
    replace hq1 := Lib.hid hq1
    replace hb0 := Lib.hid hb0
    go_enter Try.func24, Try.ntmps24
    go_wp2_with fail
    refine hc.mono ?_
    rintro e w1 ⟨rfl, hb⟩
    have HB := Lib.hid (bthen hb0.out hb)
    have HQ := Lib.hid (hq1.out.keep hb)
    clear hc hb hq1
    have kr0 := (Seven.of HQ.out).c0
    have kr1 := (Seven.of HQ.out).c1
    have kr2 := (Seven.of HQ.out).c2
    have kr3 := (Seven.of HQ.out).c3
    have kr4 := (Seven.of HQ.out).c4
    have kr5 := (Seven.of HQ.out).c5
    have kr6 := (Seven.of HQ.out).c6
    have kf := HQ.out.free
    have hF := Lib.hid (Seven.of (put7_blk HQ.out (hdr0)))
    have HG := Lib.hid (put7_below (Nat.le_refl _) HB.out (hdrC (hdr0)))
    go_wp2_with fail
    refine bodyPost_ret (w := put7 w1 w.heap.size (hdrC (hdr0))) (v := expV (hdr0, ⟨#[]⟩, 1)) ?_ rfl ⟨rfl, HG.out⟩
    clear kr0 kr1 kr2 kr3 kr4 kr5 kr6 kf HG
    generalize (put7 w1 w.heap.size (hdrC (hdr0))) = wf at *
    simp [expV, results, Try.results24, go_sem, hdrC, hdr0, hF.out.c0, hF.out.c1, hF.out.c2, hF.out.c3, hF.out.c4, hF.out.c5, hF.out.c6]
  | true =>
    rw [ctxE_ok ho] at hc
    rw [ho, if_pos rfl] at hE
    have hmem : ∀ p ∈ ps, p.size ≤ 4 := fun p hp => (ctxOk_mem ho p hp).2
    have cr := fun W B (h : RdS 105 w W B d (some 0)) => read_any w W B d (some 0) A n c ps hs (by omega) hmem h
    have hwr := fun W (hb : Below w.heap.size w W) (g : Good (pHdr d ps (some 0)).1) => write_any A n c ps (pHdr d ps (some 0)).1 W (hs.keep hb) ho g
    have hck := fun W => check_any (pHdr d ps (some 0)).1 W
    have hS : Hid (∀ hh, encS ps hh = strOf (pack (enc ps hh))) := fun _ => rfl
    generalize pHdr d ps (some 0) = PH at *
    obtain ⟨h, ok⟩ := PH
    dsimp only at cr hwr hck hE
    replace hs := Lib.hid hs
    replace ho := Lib.hid ho
    replace hq1 := Lib.hid hq1
    replace hb0 := Lib.hid hb0
    replace hc := Lib.hid hc
    replace cr := Lib.hid cr
    replace hwr := Lib.hid hwr
    replace hck := Lib.hid hck
    replace hmem := Lib.hid hmem
    go_enter Try.func24, Try.ntmps24
    go_wp2_with fail
    refine hc.out.mono ?_
    rintro e w1 ⟨rfl, hb⟩
    have HB := Lib.hid (bthen hb0.out hb)
    have HQ := Lib.hid (hq1.out.keep hb)
    clear hc hb hq1
    have cn := Lib.hid (newReader_any d w1 (by omega))
    go_wp2_with fail
    refine cn.out.mono ?_
    rintro e w2 ⟨rfl, rfl⟩
    clear cn
    have hws := HB.out.size
    have hbq := HQ.out.lt
    have hRS : RdS 105 w (w1.alloc (.cells #[.string d, .int .i64 0, .int .i64 0] 105)) w1.heap.size d (some 0) := ⟨bthen HB.out (below_alloc _ _), hws, RdIs.new _ d w1⟩
    have HB2 := Lib.hid hRS.below
    have HQ2 := Lib.hid (HQ.out.alloc (.cells #[.string d, .int .i64 0, .int .i64 0] 105))
    have cr1 := Lib.hid (cr.out _ _ hRS)
    clear cr hRS
    have hcl : hdrC h = #[.int .i64 h.cls, .int .i64 h.lim, .string h.src, .string h.dst, .int .i64 h.port, .int .i64 h.rep, .int .i64 h.len] := rfl
    rw [hcl] at cr1
    go_wp2_with fail
    refine cr1.out.mono ?_
    rintro e w3 ⟨rfl, hg⟩
    have HB3 := Lib.hid (HB2.out.grown hg HB2.out.size (fun k hk => by injection hk with hk; omega))
    have HQ3 := Lib.hid (HQ2.out.grown hg (fun e => by injection e with e; omega))
    clear cr1 HB HQ HB2 HQ2 hbq
    replace hg := Lib.hid hg
    have HB4 := Lib.hid (bthen HB3.out (below_alloc w3 (.cells (hdrC h) 24)))
    have HQ4 := Lib.hid (HQ3.out.alloc (.cells (hdrC h) 24))
    have HH4 := Lib.hid (Blk.new w3 (hdrC h) 24)
    rw [hcl] at HB4 HQ4 HH4
    clear HB3 HQ3 hws
    cases ok with
    | false =>
      have hE2 : RR = (hdr0, ⟨#[]⟩, 10) := by rw [hE, if_neg (by rintro ⟨h, _⟩; cases h)]
      subst hE2
      clear hE hwr hck
      clear HH4
      replace hcl := Lib.hid hcl
      have kr0 := (Seven.of HQ4.out).c0
      have kr1 := (Seven.of HQ4.out).c1
      have kr2 := (Seven.of HQ4.out).c2
      have kr3 := (Seven.of HQ4.out).c3
      have kr4 := (Seven.of HQ4.out).c4
      have kr5 := (Seven.of HQ4.out).c5
      have kr6 := (Seven.of HQ4.out).c6
      have kf := HQ4.out.free
      have hF := Lib.hid (Seven.of (put7_blk HQ4.out (hdr0)))
      have HG := Lib.hid (put7_below (Nat.le_refl _) HB4.out (hdrC (hdr0)))
      go_wp2_with fail
      refine bodyPost_ret (w := put7 (w3.alloc (.cells #[.int .i64 h.cls, .int .i64 h.lim, .string h.src, .string h.dst, .int .i64 h.port, .int .i64 h.rep, .int .i64 h.len] 24)) w.heap.size (hdrC (hdr0))) (v := expV (hdr0, ⟨#[]⟩, 10)) ?_ rfl ⟨rfl, HG.out⟩
      clear kr0 kr1 kr2 kr3 kr4 kr5 kr6 kf HG
      generalize (put7 (w3.alloc (.cells #[.int .i64 h.cls, .int .i64 h.lim, .string h.src, .string h.dst, .int .i64 h.port, .int .i64 h.rep, .int .i64 h.len] 24)) w.heap.size (hdrC (hdr0))) = wf at *
      simp [expV, results, Try.results24, go_sem, hdrC, hdr0, hF.out.c0, hF.out.c1, hF.out.c2, hF.out.c3, hF.out.c4, hF.out.c5, hF.out.c6]
    | true =>
      have ck := Lib.hid (hck.out (w3.alloc (.cells #[.int .i64 h.cls, .int .i64 h.lim, .string h.src, .string h.dst, .int .i64 h.port, .int .i64 h.rep, .int .i64 h.len] 24)))
      clear hck
      rw [hcl] at ck
      cases hv : valid h with
      | false =>
        have hE2 : RR = (hdr0, ⟨#[]⟩, 10) := by rw [hE, if_neg (by rintro ⟨_, h⟩; rw [hv] at h; cases h)]
        subst hE2
        have he : chk h = 1 := by unfold chk; rw [hv]; rfl
        rw [he] at ck
        clear hE hwr HH4
        replace hcl := Lib.hid hcl
        replace hv := Lib.hid hv
        replace he := Lib.hid he
        go_wp2_with fail
        refine ck.out.mono ?_
        rintro e w5 ⟨rfl, hb⟩
        have HB5 := Lib.hid (bthen HB4.out hb)
        have HQ5 := Lib.hid (HQ4.out.keep hb)
        clear ck hb HB4 HQ4
        have kr0 := (Seven.of HQ5.out).c0
        have kr1 := (Seven.of HQ5.out).c1
        have kr2 := (Seven.of HQ5.out).c2
        have kr3 := (Seven.of HQ5.out).c3
        have kr4 := (Seven.of HQ5.out).c4
        have kr5 := (Seven.of HQ5.out).c5
        have kr6 := (Seven.of HQ5.out).c6
        have kf := HQ5.out.free
        have hF := Lib.hid (Seven.of (put7_blk HQ5.out (hdr0)))
        have HG := Lib.hid (put7_below (Nat.le_refl _) HB5.out (hdrC (hdr0)))
        go_wp2_with fail
        refine bodyPost_ret (w := put7 w5 w.heap.size (hdrC (hdr0))) (v := expV (hdr0, ⟨#[]⟩, 10)) ?_ rfl ⟨rfl, HG.out⟩
        clear kr0 kr1 kr2 kr3 kr4 kr5 kr6 kf HG
        generalize (put7 w5 w.heap.size (hdrC (hdr0))) = wf at *
        simp [expV, results, Try.results24, go_sem, hdrC, hdr0, hF.out.c0, hF.out.c1, hF.out.c2, hF.out.c3, hF.out.c4, hF.out.c5, hF.out.c6]
      | true =>
        have he : chk h = 0 := by unfold chk; rw [hv]; rfl
        have g := valid_good hv
        rw [he] at ck
        rw [if_pos ⟨rfl, hv⟩] at hE
        have hw2 := fun W hb => hwr.out W hb g
        rw [hcl] at hw2
        replace hv := Lib.hid hv
        replace he := Lib.hid he
        replace hw2 := Lib.hid hw2
        replace g := Lib.hid g
        clear hwr
        go_wp2_with fail
        refine ck.out.mono ?_
        rintro e w5 ⟨rfl, hb⟩
        have HB5 := Lib.hid (bthen HB4.out hb)
        have HQ5 := Lib.hid (HQ4.out.keep hb)
        have HH5 := HH4.out.keep hb
        rw [← hcl] at HH5
        clear ck hb HB4 HQ4 HH4
        have hw3 := Lib.hid (hw2.out w5 HB5.out)
        clear hw2
        have k0 := (Seven.of HH5).c0
        have k1 := (Seven.of HH5).c1
        have k2 := (Seven.of HH5).c2
        have k3 := (Seven.of HH5).c3
        have k4 := (Seven.of HH5).c4
        have k5 := (Seven.of HH5).c5
        have k6 := (Seven.of HH5).c6
        replace HH5 := Lib.hid HH5
        go_wp2_with fail
        refine hw3.out.mono ?_
        rintro e w6 hq
        obtain ⟨B, base, rfl, hb, hB1, hB2, hB3, hW⟩ := hq
        have HB6 := Lib.hid (bthen HB5.out hb)
        have HQ6 := Lib.hid (HQ5.out.keep hb)
        have HH6 := HH5.out.keep hb
        have cy := wbytes_any base B (enc ps h) w6 hW
        rw [← hS.out] at cy
        have cx := Lib.hid (Try.strings_CutPrefix d (encS ps h) w6)
        generalize encS ps h = S at *
        replace cy := Lib.hid cy
        clear hw3 k0 k1 k2 k3 k4 k5 k6 HB5 HQ5 HH5 hB1 hB2 hB3
        replace hb := Lib.hid hb
        replace hW := Lib.hid hW
        have k0 := (Seven.of HH6).c0
        have k1 := (Seven.of HH6).c1
        have k2 := (Seven.of HH6).c2
        have k3 := (Seven.of HH6).c3
        have k4 := (Seven.of HH6).c4
        have k5 := (Seven.of HH6).c5
        have k6 := (Seven.of HH6).c6
        replace HH6 := Lib.hid HH6
        go_wp2_with fail
        refine cy.out.mono ?_
        rintro e w7 ⟨rfl, rfl⟩
        clear cy
        generalize hhp : Lib.hasPrefix d.data.toList S.data.toList = hp at *
        have htr : Hid (strL (Lib.trimPrefix d.data.toList S.data.toList) = ⟨(Lib.trimPrefix d.data.toList S.data.toList).toArray⟩) := rfl
        rw [← htr.out] at cx
        generalize strL (Lib.trimPrefix d.data.toList S.data.toList) = TP at *
        go_wp2_with fail
        refine cx.out.mono ?_
        rintro e w7 ⟨rfl, rfl⟩
        clear cx
        replace hhp := Lib.hid hhp
        cases hp with
        | false =>
          have hE2 : RR = (hdr0, ⟨#[]⟩, 10) := by rw [hE, if_neg (by decide)]
          subst hE2
          clear hE
          replace hcl := Lib.hid hcl
          have kr0 := (Seven.of HQ6.out).c0
          have kr1 := (Seven.of HQ6.out).c1
          have kr2 := (Seven.of HQ6.out).c2
          have kr3 := (Seven.of HQ6.out).c3
          have kr4 := (Seven.of HQ6.out).c4
          have kr5 := (Seven.of HQ6.out).c5
          have kr6 := (Seven.of HQ6.out).c6
          have kf := HQ6.out.free
          have hF := Lib.hid (Seven.of (put7_blk HQ6.out (hdr0)))
          have HG := Lib.hid (put7_below (Nat.le_refl _) HB6.out (hdrC (hdr0)))
          go_wp2_with fail
          refine bodyPost_ret (w := put7 w7 w.heap.size (hdrC (hdr0))) (v := expV (hdr0, ⟨#[]⟩, 10)) ?_ rfl ⟨rfl, HG.out⟩
          clear kr0 kr1 kr2 kr3 kr4 kr5 kr6 kf HG
          generalize (put7 w7 w.heap.size (hdrC (hdr0))) = wf at *
          simp [expV, results, Try.results24, go_sem, hdrC, hdr0, hF.out.c0, hF.out.c1, hF.out.c2, hF.out.c3, hF.out.c4, hF.out.c5, hF.out.c6]
        | true =>
          have hE2 : RR = (h, TP, 0) := by rw [hE, if_pos rfl]
          subst hE2
          clear hE
          replace hcl := Lib.hid hcl
          have kr0 := (Seven.of HQ6.out).c0
          have kr1 := (Seven.of HQ6.out).c1
          have kr2 := (Seven.of HQ6.out).c2
          have kr3 := (Seven.of HQ6.out).c3
          have kr4 := (Seven.of HQ6.out).c4
          have kr5 := (Seven.of HQ6.out).c5
          have kr6 := (Seven.of HQ6.out).c6
          have kf := HQ6.out.free
          have hF := Lib.hid (Seven.of (put7_blk HQ6.out (h)))
          have HG := Lib.hid (put7_below (Nat.le_refl _) HB6.out (hdrC (h)))
          go_wp2_with fail
          refine bodyPost_ret (w := put7 w7 w.heap.size (hdrC (h))) (v := expV (h, TP, 0)) ?_ rfl ⟨rfl, HG.out⟩
          clear kr0 kr1 kr2 kr3 kr4 kr5 kr6 kf HG
          generalize (put7 w7 w.heap.size (hdrC (h))) = wf at *
          simp [expV, results, Try.results24, go_sem, hdrC, hF.out.c0, hF.out.c1, hF.out.c2, hF.out.c3, hF.out.c4, hF.out.c5, hF.out.c6]
end Cp
end Go.Proofs.Ytgdkehnakopnnaa
