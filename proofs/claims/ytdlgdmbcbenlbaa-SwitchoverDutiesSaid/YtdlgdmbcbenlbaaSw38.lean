/- Times and Duties: the program's and the reference's. -/
import Derived.Test.YtdlgdmbcbenlbaaSw37
import Derived.Test.YtdlgdmbcbenlbaaSwL3
set_option linter.unusedVariables false
set_option linter.unusedSimpArgs false
namespace Go.Proofs.Ytdlgdmbcbenlbaa
open Go Go.RowKit Go.Sort
namespace Sw
open Mm
theorem timesP_eq {L O : Int} {cs : List Cel} {l : List Chg} (h : Right L O cs l) : ∀ x ∈ l, 0 ≤ x.slot ∧ x.slot ≤ 4096 := fun x hx => by
  obtain ⟨i, hi, rfl⟩ := List.mem_iff_getElem.1 hx
  have := (fault_zero (h.fault i hi)).1
  rwa [List.getD_eq_getElem?_getD, List.getElem?_eq_getElem hi] at this
set_option maxRecDepth 100000 in
set_option maxHeartbeats 4000000 in
theorem rTimes_any (L O : Int) (A : Option Addr) (n cp : Nat) (cs : List Cel) (B : Option Addr) (m cq : Nat) (l : List Chg) (c : Cel) (w : World) (h1 : CelS w A n cs) (h2 : ChgS w B m l) :
    Calls Try.prog 16 #[.agg #[.int .i64 L, .int .i64 O, .slice A n cp], .slice B m cq, .agg #[.int .i64 c.slot, .int .i64 c.offset, .int .i64 c.frm, .int .i64 c.to, .int .i64 c.flow]] w (TimPost (chkN L O cs l) (timesR L O cs l c) w) := by
  have hb2 := ballN (ball w (.cells #[.int .i64 L, .int .i64 O, .slice A n cp] 24)) (.cells #[.int .i64 c.slot, .int .i64 c.offset, .int .i64 c.frm, .int .i64 c.to, .int .i64 c.flow] 34)
  have BX := (Box.new w #[.int .i64 L, .int .i64 O, .slice A n cp] 24).alloc (.cells #[.int .i64 c.slot, .int .i64 c.offset, .int .i64 c.frm, .int .i64 c.to, .int .i64 c.flow] 34)
  have BC := Box.new (w.alloc (.cells #[.int .i64 L, .int .i64 O, .slice A n cp] 24)) #[.int .i64 c.slot, .int .i64 c.offset, .int .i64 c.frm, .int .i64 c.to, .int .i64 c.flow] 34
  rw [size1] at BC
  have cK := rcheck_any L O A n cp cs B m cq l _ (h1.keep hb2) (h2.keep hb2)
  have hT : timesR L O cs l c = if (chkN L O cs l).2 = 0 then timesC cs l c else [] := rfl
  have cT := fun (h0 : (chkN L O cs l).2 = 0) W (k1 : CelS W A n cs) (k2 : ChgS W B m l) => (by
    have := rtimes_any L O A n cp cs B m cq l c W k1 k2 (timesP_eq (right_of h0))
    rwa [rT_eq (right_of h0)] at this : Calls Try.prog 40 #[.agg #[.int .i64 L, .int .i64 O, .slice A n cp], .slice B m cq, .agg #[.int .i64 c.slot, .int .i64 c.offset, .int .i64 c.frm, .int .i64 c.to, .int .i64 c.flow]] W (TimesPost (timesC cs l c) W))
  generalize timesR L O cs l c = T at *
  generalize timesC cs l c = TC at *
  generalize chkN L O cs l = R at *
  obtain ⟨r1, r2⟩ := R
  obtain ⟨c0, c1, c2, c3, c4⟩ := c
  dsimp only at *
  replace h1 := Lib.hid h1
  replace h2 := Lib.hid h2
  replace hb2 := Lib.hid hb2
  replace BX := Lib.hid BX
  replace BC := Lib.hid BC
  replace cK := Lib.hid cK
  replace hT := Lib.hid hT
  replace cT := Lib.hid cT
  have kx := BX.out.at_
  have kb := BC.out.at_
  go_enter Try.func16, Try.ntmps16
  go_wp2_with fail
  refine cK.out.mono ?_
  rintro e w1 ⟨rfl, hb_⟩
  clear kx kb
  replace hb2 := Lib.hid (hb2.out.keep hb_)
  replace BX := Lib.hid (BX.out.keep hb_)
  replace BC := Lib.hid (BC.out.keep hb_)
  clear hb_
  dsimp only
  by_cases h0 : r2 = 0
  · subst h0
    have hT2 : T = TC := by rw [hT.out, if_pos rfl]
    have cT2 := cT.out rfl w1 (h1.out.keep hb2.out) (h2.out.keep hb2.out)
    subst hT2
    have kx := BX.out.at_
    have kb := BC.out.at_
    clear cT hT
    replace cT2 := Lib.hid cT2
    go_wp2_with fail
    refine cT2.out.mono ?_
    rintro e w2 ⟨A', cc, rfl, ho, hb_⟩
    have hb3 := Lib.hid (bthen hb2.out hb_)
    have ho2 := Lib.hid (own_base ho hb2.out.size)
    clear hb_ ho
    go_wp2
    refine bodyPost_ret (v := .tuple #[.slice A' T.length cc, .int .i64 0]) (by simp [results, Try.results16, go_sem]) rfl ⟨A', cc, rfl, ho2.out, hb3.out⟩
  · have hT2 : T = [] := by rw [hT.out, if_neg h0]
    subst hT2
    have d : (r2 != 0) = true := by rw [bne_iff_ne]; exact h0
    clear cT hT
    replace h0 := Lib.hid h0
    go_wp2
    refine bodyPost_ret (v := .tuple #[.slice none 0 0, .int .i64 r2]) (by simp [results, Try.results16, go_sem]) rfl ⟨none, 0, rfl, World.ownsRow_nil _ _ _ _, hb2.out⟩
-- what Duties returns
def okD (L O : Int) (cs : List Cel) (l : List Chg) (node : Int) : Prop := (chkN L O cs l).2 = 0 ∧ 0 ≤ node ∧ node < 32
instance (L O : Int) (cs : List Cel) (l : List Chg) (node : Int) : Decidable (okD L O cs l node) := by unfold okD; infer_instance
def dutR (L O : Int) (cs : List Cel) (l : List Chg) (node : Int) : List Dut := if okD L O cs l node then rDut L cs l node else []
def codR (L O : Int) (cs : List Cel) (l : List Chg) (node : Int) : Int := if okD L O cs l node then 0 else if (chkN L O cs l).2 = 0 then 2 else (chkN L O cs l).2
def DRPost (ds : List Dut) (code : Int) (w : World) (e : Ending) (w' : World) : Prop := ∃ A c, e = .returned (.tuple #[.slice A ds.length c, .int .i64 code]) ∧ DutS w' A ds.length ds ∧ Below w.heap.size w w'
theorem DR_nil {code : Int} {w w' : World} (h : Below w.heap.size w w') : DRPost [] code w (.returned (.tuple #[.slice none 0 0, .int .i64 code])) w' := ⟨none, 0, rfl, Sls.nil, h⟩
set_option maxRecDepth 100000 in
set_option maxHeartbeats 4000000 in
theorem dutR_any (L O : Int) (A : Option Addr) (n cp : Nat) (cs : List Cel) (B : Option Addr) (m cq : Nat) (l : List Chg) (node : Int) (w : World) (h1 : CelS w A n cs) (h2 : ChgS w B m l) (ok1 : ∀ c ∈ cs, c.ok) (ok2 : ∀ x ∈ l, x.cell.ok) :
    Calls Try.prog 17 #[.agg #[.int .i64 L, .int .i64 O, .slice A n cp], .slice B m cq, .int .i64 node] w (DRPost (dutR L O cs l node) (codR L O cs l node) w) := by
  by_cases hok : okD L O cs l node
  · have hR := right_of hok.1
    unfold dutR codR
    rw [if_pos hok, if_pos hok]
    refine (Duties_ok L O A n cp cs B m cq l node w h1 h2 ok1 ok2 hR.chk hR hok.2).mono ?_
    rintro e w' ⟨d', A', c', rfl, hp, hs, ho, hb⟩
    have e := rDut_eq hR hp hs
    subst e
    exact ⟨A', c', rfl, (Sls.of_owns dutE_len ho rfl).2, hb⟩
  · unfold dutR codR
    rw [if_neg hok, if_neg hok]
    have hbw := ball w (.cells #[.int .i64 L, .int .i64 O, .slice A n cp] 24)
    have BX := Box.new w #[.int .i64 L, .int .i64 O, .slice A n cp] 24
    have cK := check_any L O A n cp cs B m cq l _ (h1.keep hbw) (h2.keep hbw) ok1 ok2
    unfold okD at hok
    generalize chkN L O cs l = R at *
    obtain ⟨r1, r2⟩ := R
    dsimp only at *
    have kx := BX.at_
    by_cases h0 : r2 = 0
    · subst h0
      have hn : node < 0 ∨ 32 ≤ node := by
        rcases Int.lt_or_le node 0 with h | h
        · exact .inl h
        · right
          rcases Int.lt_or_le node 32 with h' | h'
          · exact absurd ⟨rfl, h, h'⟩ hok
          · exact h'
      rw [if_pos rfl]
      clear hok
      replace h1 := Lib.hid h1
      replace h2 := Lib.hid h2
      replace ok1 := Lib.hid ok1
      replace ok2 := Lib.hid ok2
      replace hbw := Lib.hid hbw
      replace BX := Lib.hid BX
      replace cK := Lib.hid cK
      rcases hn with hn | hn
      · go_enter Try.func17, Try.ntmps17
        go_wp2_with fail
        refine cK.out.mono ?_
        rintro e w1 ⟨rfl, hb_⟩
        have hB := Lib.hid (bthen hbw.out hb_)
        clear hb_ kx
        dsimp only
        go_wp2
        refine bodyPost_ret (v := .tuple #[.slice none 0 0, .int .i64 2]) (by simp [results, Try.results17, go_sem]) rfl (DR_nil hB.out)
      · have hn0 : 0 ≤ node := by omega
        go_enter Try.func17, Try.ntmps17
        go_wp2_with fail
        refine cK.out.mono ?_
        rintro e w1 ⟨rfl, hb_⟩
        have hB := Lib.hid (bthen hbw.out hb_)
        clear hb_ kx
        dsimp only
        go_wp2
        refine bodyPost_ret (v := .tuple #[.slice none 0 0, .int .i64 2]) (by simp [results, Try.results17, go_sem]) rfl (DR_nil hB.out)
    · rw [if_neg h0]
      have d : (r2 != 0) = true := by rw [bne_iff_ne]; exact h0
      clear hok
      replace h1 := Lib.hid h1
      replace h2 := Lib.hid h2
      replace ok1 := Lib.hid ok1
      replace ok2 := Lib.hid ok2
      replace hbw := Lib.hid hbw
      replace BX := Lib.hid BX
      replace cK := Lib.hid cK
      replace h0 := Lib.hid h0
      go_enter Try.func17, Try.ntmps17
      go_wp2_with fail
      refine cK.out.mono ?_
      rintro e w1 ⟨rfl, hb_⟩
      have hB := Lib.hid (bthen hbw.out hb_)
      clear hb_ kx
      dsimp only
      go_wp2
      refine bodyPost_ret (v := .tuple #[.slice none 0 0, .int .i64 r2]) (by simp [results, Try.results17, go_sem]) rfl (DR_nil hB.out)
end Sw
end Go.Proofs.Ytdlgdmbcbenlbaa
