/- Expand, of the reference. -/
import Derived.Test.YtgdkehnakopnnaaCpX
namespace Go.Proofs.Ytgdkehnakopnnaa
open Go Go.RowKit Go.Sort
namespace Cp
open Mm
def ExpQ (ps : List ByteArray) (d : ByteArray) : Hdr × ByteArray × Int :=
  if ctxOk ps = true then
    if (rHdr d ps (some 0)).2.isSome = true ∧ valid (rHdr d ps (some 0)).1 = true then
      if (encS ps (rHdr d ps (some 0)).1).size ≤ d.size ∧ (d.extract 0 (encS ps (rHdr d ps (some 0)).1).size).toList = (encS ps (rHdr d ps (some 0)).1).toList then ((rHdr d ps (some 0)).1, d.extract (encS ps (rHdr d ps (some 0)).1).size d.size, 0)
      else (hdr0, ⟨#[]⟩, 10)
    else (hdr0, ⟨#[]⟩, 10)
  else (hdr0, ⟨#[]⟩, 1)
set_option maxRecDepth 100000 in
set_option maxHeartbeats 16000000 in
theorem rExpand_any (A : Option Addr) (n c : Nat) (ps : List ByteArray) (d : ByteArray) (w : World) (hs : CtxS w A n ps) (hd : d.size ≤ 60000) :
    Calls Try.prog 25 #[.slice A n c, .string d] w fun e w' => e = .returned (expV (ExpQ ps d)) ∧ Below w.heap.size w w' := by
  have hE : ExpQ ps d = if ctxOk ps = true then
    (if (rHdr d ps (some 0)).2.isSome = true ∧ valid (rHdr d ps (some 0)).1 = true then
      (if (encS ps (rHdr d ps (some 0)).1).size ≤ d.size ∧ (d.extract 0 (encS ps (rHdr d ps (some 0)).1).size).toList = (encS ps (rHdr d ps (some 0)).1).toList then ((rHdr d ps (some 0)).1, d.extract (encS ps (rHdr d ps (some 0)).1).size d.size, 0)
      else (hdr0, ⟨#[]⟩, 10))
    else (hdr0, ⟨#[]⟩, 10))
  else (hdr0, ⟨#[]⟩, 1) := rfl
  generalize ExpQ ps d = RR at *
  have hb0 := below_alloc w (.cells #[.int .i64 0, .int .i64 0, .string ⟨#[]⟩, .string ⟨#[]⟩, .int .i64 0, .int .i64 0, .int .i64 0] 24)
  have hc := rcontexts_any A n c ps _ (hs.keep hb0)
  have hq1 : Blk (w.alloc (.cells #[.int .i64 0, .int .i64 0, .string ⟨#[]⟩, .string ⟨#[]⟩, .int .i64 0, .int .i64 0, .int .i64 0] 24)) w.heap.size (hdrC hdr0) 24 := Blk.new w (hdrC hdr0) 24
  have d1 : (d.size : Int) ≤ 65536 := by omega
  cases ho : ctxOk ps with
  | false =>
    rw [ctxE_bad ho] at hc
    rw [ho] at hE
    simp only [Bool.false_eq_true, if_false] at hE
    subst hE
    replace hs := Lib.hid hs
    replace ho := Lib.hid ho
    replace hq1 := Lib.hid hq1
    replace hb0 := Lib.hid hb0
    go_enter Try.func25, Try.ntmps25
    go_wp2_with fail
    refine hc.mono ?_
    rintro e w1 ⟨rfl, rfl⟩
    clear hc
    clear hq1
    go_wp2_with fail
    exact bodyPost_ret (v := expV (hdr0, ⟨#[]⟩, 1)) (by simp [expV, results, Try.results25, go_sem, hdrC, hdr0]) rfl ⟨rfl, hb0.out⟩
  | true =>
    rw [ctxE_ok ho] at hc
    rw [ho, if_pos rfl] at hE
    have hmem : ∀ p ∈ ps, p.size ≤ 4 := fun p hp => (ctxOk_mem ho p hp).2
    have cr := fun W B (h : RdS 107 w W B d (some 0)) => header_any w W B d (some 0) A n c ps hs (by omega) hmem h
    have hwr := fun W (hb : Below w.heap.size w W) => rCompress_any A n c ps (rHdr d ps (some 0)).1 W (hs.keep hb)
    have hck := fun W => rcheck_any (rHdr d ps (some 0)).1 W
    generalize rHdr d ps (some 0) = PH at *
    obtain ⟨h, st⟩ := PH
    dsimp only at cr hwr hck hE
    replace hs := Lib.hid hs
    replace hq1 := Lib.hid hq1
    replace hb0 := Lib.hid hb0
    replace hc := Lib.hid hc
    replace cr := Lib.hid cr
    replace hwr := Lib.hid hwr
    replace hck := Lib.hid hck
    replace hmem := Lib.hid hmem
    go_enter Try.func25, Try.ntmps25
    go_wp2_with fail
    refine hc.out.mono ?_
    rintro e w1 ⟨rfl, rfl⟩
    clear hc
    have cn := Lib.hid (qNewReader_any d (w.alloc (.cells #[.int .i64 0, .int .i64 0, .string ⟨#[]⟩, .string ⟨#[]⟩, .int .i64 0, .int .i64 0, .int .i64 0] 24)) (by omega))
    go_wp2_with fail
    refine cn.out.mono ?_
    rintro e w2 ⟨rfl, rfl⟩
    clear cn
    have hws := hb0.out.size
    have hbq := hq1.out.lt
    have hRS : RdS 107 w ((w.alloc (.cells #[.int .i64 0, .int .i64 0, .string ⟨#[]⟩, .string ⟨#[]⟩, .int .i64 0, .int .i64 0, .int .i64 0] 24)).alloc (.cells #[.string d, .int .i64 0, .int .i64 0] 107)) (w.alloc (.cells #[.int .i64 0, .int .i64 0, .string ⟨#[]⟩, .string ⟨#[]⟩, .int .i64 0, .int .i64 0, .int .i64 0] 24)).heap.size d (some 0) := ⟨bthen hb0.out (below_alloc _ _), hws, RdIs.new _ d _⟩
    have HB2 := Lib.hid hRS.below
    have HQ2 := Lib.hid (hq1.out.alloc (.cells #[.string d, .int .i64 0, .int .i64 0] 107))
    have cr1 := cr.out _ _ hRS
    have hsz : (w.alloc (.cells #[.int .i64 0, .int .i64 0, .string ⟨#[]⟩, .string ⟨#[]⟩, .int .i64 0, .int .i64 0, .int .i64 0] 24)).heap.size = w.heap.size + 1 := by simp
    rw [hsz] at cr1
    replace cr1 := Lib.hid cr1
    clear cr hRS hws hbq
    have hcl : hdrC h = #[.int .i64 h.cls, .int .i64 h.lim, .string h.src, .string h.dst, .int .i64 h.port, .int .i64 h.rep, .int .i64 h.len] := rfl
    rw [hcl] at cr1
    replace hsz := Lib.hid hsz
    go_wp2_with fail
    refine cr1.out.mono ?_
    rintro e w3 hq
    obtain ⟨rfl, hg, hrd⟩ := hq
    have HB3 := Lib.hid (HB2.out.grown hg HB2.out.size (fun k hk => by injection hk with hk; omega))
    have HQ3 := Lib.hid (HQ2.out.grown hg (fun e => by injection e with e; omega))
    clear cr1 hb0 hq1 HB2 HQ2
    replace hg := Lib.hid hg
    have HB4 := Lib.hid (bthen HB3.out (below_alloc w3 (.cells (hdrC h) 24)))
    have HQ4 := Lib.hid (HQ3.out.alloc (.cells (hdrC h) 24))
    have HH4 := Lib.hid (Blk.new w3 (hdrC h) 24)
    have ce := qErr_any (w.heap.size + 1) d st _ (hrd.keep (below_alloc w3 (.cells (hdrC h) 24)))
    have ck := hck.out (w3.alloc (.cells #[.int .i64 h.cls, .int .i64 h.lim, .string h.src, .string h.dst, .int .i64 h.port, .int .i64 h.rep, .int .i64 h.len] 24))
    rw [hcl] at HB4 HQ4 HH4 ce ck
    clear HB3 HQ3 hrd hck
    replace ce := Lib.hid ce
    replace ck := Lib.hid ck
    go_wp2_with fail
    refine ce.out.mono ?_
    rintro e w4 hq
    obtain ⟨m, rfl, rfl, hm⟩ := hq
    clear ce
    cases hso : st.isSome with
    | false =>
      have hE2 : RR = (hdr0, ⟨#[]⟩, 10) := by rw [hE, if_neg (by rintro ⟨h, _⟩; rw [hso] at h; cases h)]
      subst hE2
      have dm : (m != 0) = true := by
        unfold stV at hm
        rw [bne_iff_ne]
        intro h0
        rw [hm.1 h0] at hso
        cases hso
      clear hE hwr HH4 ck
      replace hcl := Lib.hid hcl
      replace hm := Lib.hid hm
      replace hso := Lib.hid hso
      have kr0 := (Seven.of HQ4.out).c0
      have kr1 := (Seven.of HQ4.out).c1
      have kr2 := (Seven.of HQ4.out).c2
      have kr3 := (Seven.of HQ4.out).c3
      have kr4 := (Seven.of HQ4.out).c4
      have kr5 := (Seven.of HQ4.out).c5
      have kr6 := (Seven.of HQ4.out).c6
      have kf := HQ4.out.free
      have hF := Lib.hid (Seven.of (put7_blk HQ4.out (hdr0)))
      have HG := Lib.hid (put7_below (Nat.le_refl _) HB4.out (hdrC (hdr0)))
      go_wp2_with fail
      refine bodyPost_ret (w := put7 (w3.alloc (.cells #[.int .i64 h.cls, .int .i64 h.lim, .string h.src, .string h.dst, .int .i64 h.port, .int .i64 h.rep, .int .i64 h.len] 24)) w.heap.size (hdrC (hdr0))) (v := expV (hdr0, ⟨#[]⟩, 10)) ?_ rfl ⟨rfl, HG.out⟩
      clear kr0 kr1 kr2 kr3 kr4 kr5 kr6 kf HG
      generalize (put7 (w3.alloc (.cells #[.int .i64 h.cls, .int .i64 h.lim, .string h.src, .string h.dst, .int .i64 h.port, .int .i64 h.rep, .int .i64 h.len] 24)) w.heap.size (hdrC (hdr0))) = wf at *
      simp [expV, results, Try.results25, go_sem, hdrC, hdr0, hF.out.c0, hF.out.c1, hF.out.c2, hF.out.c3, hF.out.c4, hF.out.c5, hF.out.c6]
    | true =>
      obtain rfl : m = 0 := hm.2 hso
      replace hm := Lib.hid hm
      cases hv : valid h with
      | false =>
        have hE2 : RR = (hdr0, ⟨#[]⟩, 10) := by rw [hE, if_neg (by rintro ⟨_, h⟩; rw [hv] at h; cases h)]
        subst hE2
        have he : chk h = 1 := by unfold chk; rw [hv]; rfl
        rw [he] at ck
        clear hE hwr HH4
        replace hcl := Lib.hid hcl
        replace hv := Lib.hid hv
        replace he := Lib.hid he
        replace hso := Lib.hid hso
        go_wp2_with fail
        refine ck.out.mono ?_
        rintro e w5 ⟨rfl, hb⟩
        have HB5 := Lib.hid (bthen HB4.out hb)
        have HQ5 := Lib.hid (HQ4.out.keep hb)
        clear ck hb HB4 HQ4
        have kr0 := (Seven.of HQ5.out).c0
        have kr1 := (Seven.of HQ5.out).c1
        have kr2 := (Seven.of HQ5.out).c2
        have kr3 := (Seven.of HQ5.out).c3
        have kr4 := (Seven.of HQ5.out).c4
        have kr5 := (Seven.of HQ5.out).c5
        have kr6 := (Seven.of HQ5.out).c6
        have kf := HQ5.out.free
        have hF := Lib.hid (Seven.of (put7_blk HQ5.out (hdr0)))
        have HG := Lib.hid (put7_below (Nat.le_refl _) HB5.out (hdrC (hdr0)))
        go_wp2_with fail
        refine bodyPost_ret (w := put7 w5 w.heap.size (hdrC (hdr0))) (v := expV (hdr0, ⟨#[]⟩, 10)) ?_ rfl ⟨rfl, HG.out⟩
        clear kr0 kr1 kr2 kr3 kr4 kr5 kr6 kf HG
        generalize (put7 w5 w.heap.size (hdrC (hdr0))) = wf at *
        simp [expV, results, Try.results25, go_sem, hdrC, hdr0, hF.out.c0, hF.out.c1, hF.out.c2, hF.out.c3, hF.out.c4, hF.out.c5, hF.out.c6]
      | true =>
        have he : chk h = 0 := by unfold chk; rw [hv]; rfl
        rw [he] at ck
        rw [if_pos ⟨hso, hv⟩] at hE
        have hfn : fine ps h = true := by unfold fine; rw [ho, hv]; rfl
        have hCR : CmpR ps h = (encS ps h, 0) := by unfold CmpR; rw [hfn]; rfl
        have hw2 := fun W hb => hwr.out W hb
        rw [hcl, hCR] at hw2
        replace hv := Lib.hid hv
        replace he := Lib.hid he
        replace hw2 := Lib.hid hw2
        replace hfn := Lib.hid hfn
        replace hCR := Lib.hid hCR
        replace hso := Lib.hid hso
        clear hwr
        go_wp2_with fail
        refine ck.out.mono ?_
        rintro e w5 ⟨rfl, hb⟩
        have HB5 := Lib.hid (bthen HB4.out hb)
        have HQ5 := Lib.hid (HQ4.out.keep hb)
        have HH5 := HH4.out.keep hb
        rw [← hcl] at HH5
        clear ck hb HB4 HQ4 HH4
        have hw3 := hw2.out w5 HB5.out
        clear hw2
        generalize encS ps h = S at *
        have k0 := (Seven.of HH5).c0
        have k1 := (Seven.of HH5).c1
        have k2 := (Seven.of HH5).c2
        have k3 := (Seven.of HH5).c3
        have k4 := (Seven.of HH5).c4
        have k5 := (Seven.of HH5).c5
        have k6 := (Seven.of HH5).c6
        replace HH5 := Lib.hid HH5
        replace hw3 := Lib.hid hw3
        go_wp2_with fail
        refine hw3.out.mono ?_
        rintro e w6 ⟨rfl, hb⟩
        have HB6 := Lib.hid (bthen HB5.out hb)
        have HQ6 := Lib.hid (HQ5.out.keep hb)
        have HH6 := HH5.out.keep hb
        clear hw3 k0 k1 k2 k3 k4 k5 k6 HB5 HQ5 HH5
        replace hb := Lib.hid hb
        have k0 := (Seven.of HH6).c0
        have k1 := (Seven.of HH6).c1
        have k2 := (Seven.of HH6).c2
        have k3 := (Seven.of HH6).c3
        have k4 := (Seven.of HH6).c4
        have k5 := (Seven.of HH6).c5
        have k6 := (Seven.of HH6).c6
        have hb6 := HQ6.out.lt
        have hb7 := HH6.lt
        replace HH6 := Lib.hid HH6
        by_cases hsl : S.size ≤ d.size
        · have dl : (S.size : Int) ≤ (d.size : Int) := by omega
          have dN : decide (d.size < S.size) = false := by simp; omega
          by_cases hpf : (d.extract 0 S.size).toList = S.toList
          · have hE2 : RR = (h, d.extract S.size d.size, 0) := by rw [hE, if_pos ⟨hsl, hpf⟩]
            subst hE2
            clear hE
            replace hcl := Lib.hid hcl
            have kr0 := (Seven.of HQ6.out).c0
            have kr1 := (Seven.of HQ6.out).c1
            have kr2 := (Seven.of HQ6.out).c2
            have kr3 := (Seven.of HQ6.out).c3
            have kr4 := (Seven.of HQ6.out).c4
            have kr5 := (Seven.of HQ6.out).c5
            have kr6 := (Seven.of HQ6.out).c6
            have kf := HQ6.out.free
            have hF := Lib.hid (Seven.of (put7_blk HQ6.out h).drew)
            have HG := Lib.hid (put7_below (Nat.le_refl _) HB6.out (hdrC h)).drew
            go_wp2_with fail
            go_region
            all_goals
              go_wp2_with fail
              refine bodyPost_ret (w := (put7 w6 w.heap.size (hdrC h)).drew) (v := expV (h, d.extract S.size d.size, 0)) ?_ rfl ⟨rfl, HG.out⟩
              clear kr0 kr1 kr2 kr3 kr4 kr5 kr6 kf HG k0 k1 k2 k3 k4 k5 k6
              generalize (put7 w6 w.heap.size (hdrC h)).drew = wf at *
              simp [expV, results, Try.results25, go_sem, hdrC, hF.out.c0, hF.out.c1, hF.out.c2, hF.out.c3, hF.out.c4, hF.out.c5, hF.out.c6]
          · have hE2 : RR = (hdr0, ⟨#[]⟩, 10) := by rw [hE, if_neg (by rintro ⟨_, h⟩; exact hpf h)]
            subst hE2
            have dB : ((d.extract 0 S.size).toList == S.toList) = false := by rw [beq_eq_false_iff_ne]; exact hpf
            clear hE k0 k1 k2 k3 k4 k5 k6
            replace hcl := Lib.hid hcl
            replace hpf := Lib.hid hpf
            have kr0 := (Seven.of HQ6.out).c0
            have kr1 := (Seven.of HQ6.out).c1
            have kr2 := (Seven.of HQ6.out).c2
            have kr3 := (Seven.of HQ6.out).c3
            have kr4 := (Seven.of HQ6.out).c4
            have kr5 := (Seven.of HQ6.out).c5
            have kr6 := (Seven.of HQ6.out).c6
            have kf := HQ6.out.free
            have hF := Lib.hid (Seven.of (put7_blk HQ6.out (hdr0)))
            have HG := Lib.hid (put7_below (Nat.le_refl _) HB6.out (hdrC (hdr0)))
            go_wp2_with fail
            refine bodyPost_ret (w := put7 w6 w.heap.size (hdrC (hdr0))) (v := expV (hdr0, ⟨#[]⟩, 10)) ?_ rfl ⟨rfl, HG.out⟩
            clear kr0 kr1 kr2 kr3 kr4 kr5 kr6 kf HG
            generalize (put7 w6 w.heap.size (hdrC (hdr0))) = wf at *
            simp [expV, results, Try.results25, go_sem, hdrC, hdr0, hF.out.c0, hF.out.c1, hF.out.c2, hF.out.c3, hF.out.c4, hF.out.c5, hF.out.c6]
        · have dl : ¬ (S.size : Int) ≤ (d.size : Int) := by omega
          have dN : decide (d.size < S.size) = true := by simp; omega
          have hE2 : RR = (hdr0, ⟨#[]⟩, 10) := by rw [hE, if_neg (by rintro ⟨h, _⟩; exact hsl h)]
          subst hE2
          clear hE k0 k1 k2 k3 k4 k5 k6
          replace hcl := Lib.hid hcl
          have kr0 := (Seven.of HQ6.out).c0
          have kr1 := (Seven.of HQ6.out).c1
          have kr2 := (Seven.of HQ6.out).c2
          have kr3 := (Seven.of HQ6.out).c3
          have kr4 := (Seven.of HQ6.out).c4
          have kr5 := (Seven.of HQ6.out).c5
          have kr6 := (Seven.of HQ6.out).c6
          have kf := HQ6.out.free
          have hF := Lib.hid (Seven.of (put7_blk HQ6.out (hdr0)))
          have HG := Lib.hid (put7_below (Nat.le_refl _) HB6.out (hdrC (hdr0)))
          go_wp2_with fail
          refine bodyPost_ret (w := put7 w6 w.heap.size (hdrC (hdr0))) (v := expV (hdr0, ⟨#[]⟩, 10)) ?_ rfl ⟨rfl, HG.out⟩
          clear kr0 kr1 kr2 kr3 kr4 kr5 kr6 kf HG
          generalize (put7 w6 w.heap.size (hdrC (hdr0))) = wf at *
          simp [expV, results, Try.results25, go_sem, hdrC, hdr0, hF.out.c0, hF.out.c1, hF.out.c2, hF.out.c3, hF.out.c4, hF.out.c5, hF.out.c6]
end Cp
end Go.Proofs.Ytgdkehnakopnnaa
