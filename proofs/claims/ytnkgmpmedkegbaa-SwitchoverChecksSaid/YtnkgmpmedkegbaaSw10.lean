/- Times, last, later, duties. -/
import Derived.Test.YtnkgmpmedkegbaaSw9
namespace Go.Proofs.Ytnkgmpmedkegbaa
open Go Go.RowKit Go.Sort
namespace Sw
open Mm
def TimPost (r : Int × Int) (t : List (Int × Int)) (w : World) (e : Ending) (w' : World) : Prop :=
  ∃ A c, e = .returned (.tuple #[.slice A t.length c, .int .i64 r.2]) ∧ w'.ownsRow w.heap.size 42 2 (.slice A t.length c) t.length (t.flatMap prE) ∧ Below w.heap.size w w'
/-- the times that Times returns -/
def timesR (L O : Int) (cs : List Cel) (l : List Chg) (c : Cel) : List (Int × Int) := if (chkN L O cs l).2 = 0 then timesC cs l c else []
set_option maxRecDepth 100000 in
set_option maxHeartbeats 4000000 in
theorem Times_any (L O : Int) (A : Option Addr) (n cp : Nat) (cs : List Cel) (B : Option Addr) (m cq : Nat) (l : List Chg) (c : Cel) (w : World) (h1 : CelS w A n cs) (h2 : ChgS w B m l) (ok1 : ∀ c ∈ cs, c.ok) (ok2 : ∀ x ∈ l, x.cell.ok)
    (hg : (chkN L O cs l).2 = 0 → Ends cs l c ∧ m ≤ 1024) :
    Calls Try.prog 15 #[.agg #[.int .i64 L, .int .i64 O, .slice A n cp], .slice B m cq, .agg #[.int .i64 c.slot, .int .i64 c.offset, .int .i64 c.frm, .int .i64 c.to, .int .i64 c.flow]] w (TimPost (chkN L O cs l) (timesR L O cs l c) w) := by
  have hb2 := ballN (ball w (.cells #[.int .i64 L, .int .i64 O, .slice A n cp] 24)) (.cells #[.int .i64 c.slot, .int .i64 c.offset, .int .i64 c.frm, .int .i64 c.to, .int .i64 c.flow] 34)
  have BX := (Box.new w #[.int .i64 L, .int .i64 O, .slice A n cp] 24).alloc (.cells #[.int .i64 c.slot, .int .i64 c.offset, .int .i64 c.frm, .int .i64 c.to, .int .i64 c.flow] 34)
  have BC := Box.new (w.alloc (.cells #[.int .i64 L, .int .i64 O, .slice A n cp] 24)) #[.int .i64 c.slot, .int .i64 c.offset, .int .i64 c.frm, .int .i64 c.to, .int .i64 c.flow] 34
  rw [size1] at BC
  have cK := check_any L O A n cp cs B m cq l _ (h1.keep hb2) (h2.keep hb2) ok1 ok2
  have hT : timesR L O cs l c = if (chkN L O cs l).2 = 0 then timesC cs l c else [] := rfl
  have cT := fun (h0 : (chkN L O cs l).2 = 0) W (k1 : CelS W A n cs) (k2 : ChgS W B m l) => times_any L O A n cp cs B m cq l c W k1 k2 (hg h0).1 (hg h0).2
  generalize timesR L O cs l c = T at *
  generalize timesC cs l c = TC at *
  generalize chkN L O cs l = R at *
  obtain ⟨r1, r2⟩ := R
  obtain ⟨c0, c1, c2, c3, c4⟩ := c
  dsimp only at *
  clear hg
  replace h1 := Lib.hid h1
  replace h2 := Lib.hid h2
  replace ok1 := Lib.hid ok1
  replace ok2 := Lib.hid ok2
  replace hb2 := Lib.hid hb2
  replace BX := Lib.hid BX
  replace BC := Lib.hid BC
  replace cK := Lib.hid cK
  replace hT := Lib.hid hT
  replace cT := Lib.hid cT
  have kx := BX.out.at_
  have kb := BC.out.at_
  go_enter Try.func15, Try.ntmps15
  go_wp2_with fail
  refine cK.out.mono ?_
  rintro e w1 ⟨rfl, hb_⟩
  clear kx kb
  replace hb2 := Lib.hid (hb2.out.keep hb_)
  replace BX := Lib.hid (BX.out.keep hb_)
  replace BC := Lib.hid (BC.out.keep hb_)
  clear hb_
  dsimp only
  by_cases h0 : r2 = 0
  · subst h0
    have hT2 : T = TC := by rw [hT.out, if_pos rfl]
    have cT2 := cT.out rfl w1 (h1.out.keep hb2.out) (h2.out.keep hb2.out)
    subst hT2
    have kx := BX.out.at_
    have kb := BC.out.at_
    clear cT hT
    replace cT2 := Lib.hid cT2
    go_wp2_with fail
    refine cT2.out.mono ?_
    rintro e w2 ⟨A', cc, rfl, ho, hb_⟩
    have hb3 := Lib.hid (bthen hb2.out hb_)
    have ho2 := Lib.hid (own_base ho hb2.out.size)
    clear hb_ ho
    go_wp2
    refine bodyPost_ret (v := .tuple #[.slice A' T.length cc, .int .i64 0]) (by simp [results, Try.results15, go_sem]) rfl ⟨A', cc, rfl, ho2.out, hb3.out⟩
  · have hT2 : T = [] := by rw [hT.out, if_neg h0]
    subst hT2
    have d : (r2 != 0) = true := by rw [bne_iff_ne]; exact h0
    clear cT hT
    replace h0 := Lib.hid h0
    go_wp2
    refine bodyPost_ret (v := .tuple #[.slice none 0 0, .int .i64 r2]) (by simp [results, Try.results15, go_sem]) rfl ⟨none, 0, rfl, World.ownsRow_nil _ _ _ _, hb2.out⟩
def lastN (u : Int) : Int := if u = -1 then 9223372036854775807 else u
theorem last_any (u : Int) (w : World) : Calls Try.prog 49 #[.int .i64 u] w fun e w' => e = .returned (.int .i64 (lastN u)) ∧ w = w' := by
  have hR : lastN u = if u = -1 then 9223372036854775807 else u := rfl
  generalize lastN u = R at *
  by_cases h : u = -1
  · rw [if_pos h] at hR
    have d : (u == -1) = true := by rw [h]; rfl
    replace hR := Lib.hid hR
    replace h := Lib.hid h
    go_enter Try.func49, Try.ntmps49
    go_wp2
    go_ret
    exact ⟨by rw [hR.out]; rfl, rfl⟩
  · rw [if_neg h] at hR
    have d : (u == -1) = false := by rw [beq_eq_false_iff_ne]; exact h
    replace hR := Lib.hid hR
    replace h := Lib.hid h
    go_enter Try.func49, Try.ntmps49
    go_wp2
    go_ret
    exact ⟨by rw [hR.out]; rfl, rfl⟩
def laterN (d : Dut) : Int := if d.extra = true then 1 else 0
theorem later_any (d : Dut) (w : World) : Calls Try.prog 50 #[.agg #[.int .i64 d.cell.slot, .int .i64 d.cell.offset, .int .i64 d.cell.frm, .int .i64 d.cell.to, .int .i64 d.cell.flow, .bool d.sends, .bool d.extra, .int .i64 d.first, .int .i64 d.til]] w fun e w' => e = .returned (.int .i64 (laterN d)) ∧ GW w w' := by
  have hR : laterN d = if d.extra = true then 1 else 0 := rfl
  generalize laterN d = R at *
  obtain ⟨⟨c0, c1, c2, c3, c4⟩, s, x, f, u⟩ := d
  dsimp only at *
  have hG := (GW.refl w).alloc (.cells #[.int .i64 c0, .int .i64 c1, .int .i64 c2, .int .i64 c3, .int .i64 c4, .bool s, .bool x, .int .i64 f, .int .i64 u] 45)
  cases x with
  | true =>
    rw [if_pos rfl] at hR
    replace hR := Lib.hid hR
    replace hG := Lib.hid hG
    go_enter Try.func50, Try.ntmps50
    go_wp2
    go_ret
    exact ⟨by rw [hR.out]; rfl, hG.out⟩
  | false =>
    rw [if_neg (by decide)] at hR
    replace hR := Lib.hid hR
    replace hG := Lib.hid hG
    go_enter Try.func50, Try.ntmps50
    go_wp2
    go_ret
    exact ⟨by rw [hR.out]; rfl, hG.out⟩
end Sw
end Go.Proofs.Ytnkgmpmedkegbaa
