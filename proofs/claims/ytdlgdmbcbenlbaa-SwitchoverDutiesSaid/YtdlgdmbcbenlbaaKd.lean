/- duties. -/
import Derived.Test.YtdlgdmbcbenlbaaKa
import Derived.Test.YtdlgdmbcbenlbaaSortK
import Derived.Deep.RegionHeld3
import Derived.Test.YtdlgdmbcbenlbaaKb
import Derived.Shelf.SlSortCmp.NoneTotal
import Derived.Sort.LotA
import Derived.Ground.SlsfProg
import Derived.Lib.SliceRun
import Derived.Laws.Rows
set_option linter.unusedVariables false
set_option linter.unusedSimpArgs false
namespace Go.Proofs.Ytdlgdmbcbenlbaa
open Go Go.RowKit Go.Sort
namespace Sw
open Mm
def dutA (c : Cel) (s x : Bool) (f u : Int) : Dut := ⟨c, s, x, f, u⟩
def dut1 (c : Cel) (L : Int) (t : Int × Int) : List Dut := if t.1 = 0 then [] else [⟨c, false, true, max (t.1 - L) 0, t.1⟩]
def dut2 (c : Cel) (L : Int) (t : Int × Int) : List Dut := if t.2 = -1 then [] else [⟨c, false, true, t.2, t.2 + L⟩]
def dutiesC (c : Cel) (node L : Int) (t : Int × Int) : List Dut := if c.frm = node then [⟨c, true, false, t.1, t.2⟩] else [⟨c, false, false, t.1, t.2⟩] ++ dut1 c L t ++ dut2 c L t
theorem info_dut : (Try.prog.info? 45).map (fun i => (i.zero, i.size, i.bytes)) = some (some (.agg #[.int .i64 0, .int .i64 0, .int .i64 0, .int .i64 0, .int .i64 0, .bool false, .bool false, .int .i64 0, .int .i64 0]), 9, 64) := by kernel_rfl
theorem own_one {α : Type} (enc : α → List Value) (k : Nat) (hk : ∀ x, (enc x).length = k) (w : World) (T : TypeId) (x : α) :
    (w.alloc (.cells (enc x).toArray T)).ownsRow w.heap.size T k (.slice (some ⟨w.heap.size, 0, none⟩) 1 1) 1 ([x].flatMap enc) :=
  ⟨by simp [hk], .inr ⟨w.heap.size, 1, _, rfl, Nat.le_refl _, heap_alloc_new w _, Nat.le_refl _, by decide, by simp [hk], by simp [List.take_of_length_le (Nat.le_of_eq (hk x))]⟩⟩
def DutPost (ds : List Dut) (w : World) (e : Ending) (w' : World) : Prop :=
  ∃ A c, e = .returned (.slice A ds.length c) ∧ w'.ownsRow w.heap.size 45 9 (.slice A ds.length c) ds.length (ds.flatMap dutE) ∧ Below w.heap.size w w'
set_option maxRecDepth 100000 in
set_option maxHeartbeats 4000000 in
theorem duties_any (c : Cel) (node L : Int) (t : Int × Int) (w : World) (hL : 1 ≤ L ∧ L ≤ 512) (h1 : 0 ≤ t.1 ∧ t.1 ≤ 4096) (h2 : -1 ≤ t.2 ∧ t.2 ≤ 4096) :
    Calls Try.prog 44 #[.agg #[.int .i64 c.slot, .int .i64 c.offset, .int .i64 c.frm, .int .i64 c.to, .int .i64 c.flow], .int .i64 node, .int .i64 L, .agg #[.int .i64 t.1, .int .i64 t.2]] w (DutPost (dutiesC c node L t) w) := by
  obtain ⟨i0, hi, hz0, hz1, hz2⟩ := info_parts info_dut
  obtain ⟨t1, t2⟩ := t
  obtain ⟨hL1, hL2⟩ := hL
  obtain ⟨h3, h4⟩ := h1
  obtain ⟨h5, h6⟩ := h2
  dsimp only at *
  have hb2 := ballN (ball w (.cells #[.int .i64 c.slot, .int .i64 c.offset, .int .i64 c.frm, .int .i64 c.to, .int .i64 c.flow] 34)) (.cells #[.int .i64 t1, .int .i64 t2] 42)
  have BC := (Box.new w #[.int .i64 c.slot, .int .i64 c.offset, .int .i64 c.frm, .int .i64 c.to, .int .i64 c.flow] 34).alloc (.cells #[.int .i64 t1, .int .i64 t2] 42)
  have BT := Box.new (w.alloc (.cells #[.int .i64 c.slot, .int .i64 c.offset, .int .i64 c.frm, .int .i64 c.to, .int .i64 c.flow] 34)) #[.int .i64 t1, .int .i64 t2] 42
  rw [size1] at BT
  have hR : dutiesC c node L (t1, t2) = if c.frm = node then [⟨c, true, false, t1, t2⟩] else [⟨c, false, false, t1, t2⟩] ++ dut1 c L (t1, t2) ++ dut2 c L (t1, t2) := rfl
  have hD1 : dut1 c L (t1, t2) = if t1 = 0 then [] else [⟨c, false, true, max (t1 - L) 0, t1⟩] := rfl
  have hD2 : dut2 c L (t1, t2) = if t2 = -1 then [] else [⟨c, false, true, t2, t2 + L⟩] := rfl
  generalize dutiesC c node L (t1, t2) = R at *
  generalize dut1 c L (t1, t2) = D1 at *
  generalize dut2 c L (t1, t2) = D2 at *
  have hw2 : w.heap.size ≤ ((w.alloc (.cells #[.int .i64 c.slot, .int .i64 c.offset, .int .i64 c.frm, .int .i64 c.to, .int .i64 c.flow] 34)).alloc (.cells #[.int .i64 t1, .int .i64 t2] 42)).heap.size := by rw [size1, size1]; omega
  obtain ⟨c0, c1, c2, c3, c4⟩ := c
  dsimp only at *
  replace hi := Lib.hid hi
  replace hz0 := Lib.hid hz0
  replace hz1 := Lib.hid hz1
  replace hz2 := Lib.hid hz2
  replace hb2 := Lib.hid hb2
  replace BC := Lib.hid BC
  replace BT := Lib.hid BT
  replace hR := Lib.hid hR
  replace hD1 := Lib.hid hD1
  replace hD2 := Lib.hid hD2
  have kb := BC.out.at_
  have kt := BT.out.at_
  by_cases hcn : c2 = node
  · have hR2 : Hid (R = [⟨⟨c0, c1, c2, c3, c4⟩, true, false, t1, t2⟩]) := by show _ = _; rw [hR.out, if_pos hcn]
    have d : (c2 == node) = true := by simpa using hcn
    clear hR hD1 hD2
    replace hcn := Lib.hid hcn
    have ho := own_one dutE 9 dutE_len ((w.alloc (.cells #[.int .i64 c0, .int .i64 c1, .int .i64 c2, .int .i64 c3, .int .i64 c4] 34)).alloc (.cells #[.int .i64 t1, .int .i64 t2] 42)) 45 ⟨⟨c0, c1, c2, c3, c4⟩, true, false, t1, t2⟩
    have hb3 := ballN hb2.out (.cells (dutE ⟨⟨c0, c1, c2, c3, c4⟩, true, false, t1, t2⟩).toArray 45)
    rw [size1, size1] at ho
    replace ho := Lib.hid ho
    replace hb3 := Lib.hid hb3
    go_enter Try.func44, Try.ntmps44
    go_wp2
    go_ret
    refine ⟨some ⟨w.heap.size + 1 + 1, 0, none⟩, 1, by rw [hR2.out]; rfl, ?_, hb3.out⟩
    rw [hR2.out]
    exact own_base ho.out (by omega)
  have hR2 : Hid (R = [⟨⟨c0, c1, c2, c3, c4⟩, false, false, t1, t2⟩] ++ D1 ++ D2) := by show _ = _; rw [hR.out, if_neg hcn]
  have d : (c2 == node) = false := by rw [beq_eq_false_iff_ne]; exact hcn
  clear hR
  have ho : (((w.alloc (.cells #[.int .i64 c0, .int .i64 c1, .int .i64 c2, .int .i64 c3, .int .i64 c4] 34)).alloc (.cells #[.int .i64 t1, .int .i64 t2] 42)).alloc (.cells #[.int .i64 c0, .int .i64 c1, .int .i64 c2, .int .i64 c3, .int .i64 c4, .bool false, .bool false, .int .i64 t1, .int .i64 t2] 45)).ownsRow w.heap.size 45 9 (.slice (some ⟨w.heap.size + 1 + 1, 0, none⟩) 1 1) 1 ([(⟨⟨c0, c1, c2, c3, c4⟩, false, false, t1, t2⟩ : Dut)].flatMap dutE) := by
    have h := own_one dutE 9 dutE_len ((w.alloc (.cells #[.int .i64 c0, .int .i64 c1, .int .i64 c2, .int .i64 c3, .int .i64 c4] 34)).alloc (.cells #[.int .i64 t1, .int .i64 t2] 42)) 45 ⟨⟨c0, c1, c2, c3, c4⟩, false, false, t1, t2⟩
    rw [size1, size1] at h
    exact own_base h (by omega)
  have hb3 := ballN hb2.out (.cells #[.int .i64 c0, .int .i64 c1, .int .i64 c2, .int .i64 c3, .int .i64 c4, .bool false, .bool false, .int .i64 t1, .int .i64 t2] 45)
  have BC3 := BC.out.alloc (.cells #[.int .i64 c0, .int .i64 c1, .int .i64 c2, .int .i64 c3, .int .i64 c4, .bool false, .bool false, .int .i64 t1, .int .i64 t2] 45)
  have BT3 := BT.out.alloc (.cells #[.int .i64 c0, .int .i64 c1, .int .i64 c2, .int .i64 c3, .int .i64 c4, .bool false, .bool false, .int .i64 t1, .int .i64 t2] 45)
  replace ho := Lib.hid ho
  replace hb3 := Lib.hid hb3
  replace hcn := Lib.hid hcn
  replace BC3 := Lib.hid BC3
  replace BT3 := Lib.hid BT3
  go_enter Try.func44, Try.ntmps44
  go_upto_region 4 with fail
  clear kb kt
  generalize ((w.alloc (.cells #[.int .i64 c0, .int .i64 c1, .int .i64 c2, .int .i64 c3, .int .i64 c4] 34)).alloc (.cells #[.int .i64 t1, .int .i64 t2] 42)).alloc (.cells #[.int .i64 c0, .int .i64 c1, .int .i64 c2, .int .i64 c3, .int .i64 c4, .bool false, .bool false, .int .i64 t1, .int .i64 t2] 45) = w3 at *
  generalize (⟨⟨c0, c1, c2, c3, c4⟩, false, false, t1, t2⟩ : Dut) = x0 at *
  have kt := BT3.out.at_
  have kb := BC3.out.at_
  go_upto_if 30 with fail
  go_cut [9] (fun s9 wx => ∃ (A : Option Addr) (n cp : Nat), n = ([x0] ++ D1).length ∧ s9 = .slice A n cp ∧ Hid (wx.ownsRow w.heap.size 45 9 (.slice A n cp) n (([x0] ++ D1).flatMap dutE)) ∧ Hid (Below w.heap.size w wx) ∧ Hid (Box wx w.heap.size #[.int .i64 c0, .int .i64 c1, .int .i64 c2, .int .i64 c3, .int .i64 c4]) ∧ Hid (Box wx (w.heap.size + 1) #[.int .i64 t1, .int .i64 t2]))
  case first =>
    by_cases h0 : t1 = 0
    · have hD : Hid (D1 = []) := by show _ = _; rw [hD1.out, if_pos h0]
      have d0 : (t1 != 0) = false := by rw [h0]; rfl
      replace h0 := Lib.hid h0
      go_wp2_with fail
      go_meet
      exact ⟨_, 1, 1, by rw [hD.out]; rfl, rfl, by show World.ownsRow _ _ _ _ _ _ _; rw [hD.out, List.append_nil]; exact ho.out, hb3, BC3, BT3⟩
    · have hD : Hid (D1 = [⟨⟨c0, c1, c2, c3, c4⟩, false, true, max (t1 - L) 0, t1⟩]) := by show _ = _; rw [hD1.out, if_neg h0]
      have d0 : (t1 != 0) = true := by rw [bne_iff_ne]; exact h0
      have HOa := ho.out.alloc (.cells #[.int .i64 c0, .int .i64 c1, .int .i64 c2, .int .i64 c3, .int .i64 c4, .bool false, .bool true, .int .i64 (max (t1 - L) 0), .int .i64 t1] 45)
      have HBa := ballN hb3.out (.cells #[.int .i64 c0, .int .i64 c1, .int .i64 c2, .int .i64 c3, .int .i64 c4, .bool false, .bool true, .int .i64 (max (t1 - L) 0), .int .i64 t1] 45)
      have HBb := ball w3 (.cells #[.int .i64 c0, .int .i64 c1, .int .i64 c2, .int .i64 c3, .int .i64 c4, .bool false, .bool true, .int .i64 (max (t1 - L) 0), .int .i64 t1] 45)
      have hnews := World.news_of_block (Blk.new w3 #[.int .i64 c0, .int .i64 c1, .int .i64 c2, .int .i64 c3, .int .i64 c4, .bool false, .bool true, .int .i64 (max (t1 - L) 0), .int .i64 t1] 45).at_
      have hs3 := hb3.out.size
      have e9 : Hid ([x0].flatMap dutE ++ [.int .i64 c0, .int .i64 c1, .int .i64 c2, .int .i64 c3, .int .i64 c4, .bool false, .bool true, .int .i64 (max (t1 - L) 0), .int .i64 t1] = ([x0] ++ D1).flatMap dutE) := by
        show _ = _
        rw [hD.out, List.flatMap_append]
        simp [dutE]
      have kN : ∀ i, (w3.alloc (.cells #[.int .i64 c0, .int .i64 c1, .int .i64 c2, .int .i64 c3, .int .i64 c4, .bool false, .bool true, .int .i64 (max (t1 - L) 0), .int .i64 t1] 45)).cell? ⟨w.heap.size, i, none⟩ = _ := (BC3.out.alloc _).at_
      generalize [x0].flatMap dutE = XF at *
      replace HOa := Lib.hid HOa
      replace HBa := Lib.hid HBa
      replace HBb := Lib.hid HBb
      replace hnews := Lib.hid hnews
      replace h0 := Lib.hid h0
      replace kN := Lib.hid kN
      go_wp2_with (at_builtin; refine wpList_append_lies _ rfl _ _ _ rfl w.heap.size 45 i0 (.agg #[.int .i64 0, .int .i64 0, .int .i64 0, .int .i64 0, .int .i64 0, .bool false, .bool false, .int .i64 0, .int .i64 0]) 9 64 Try.underlying38 hi.out hz0.out hz1.out hz2.out rfl (by decide) (.slice (some ⟨w.heap.size + 1 + 1, 0, none⟩) 1 1) 1 _ rfl HOa.out ⟨w3.heap.size, 0, none⟩ 1 1 [.int .i64 c0, .int .i64 c1, .int .i64 c2, .int .i64 c3, .int .i64 c4, .bool false, .bool true, .int .i64 (max (t1 - L) 0), .int .i64 t1] rfl rfl ?c1 ?c2 (by decide) ?c3 ?c4 ?c5 (w3.heap.size + 1) ?c6 ?_)
      try case c1 => exact hnews.out
      try case c2 => simp [Value.oneCell']
      try case c3 => unfold maxLen; omega
      try case c4 => omega
      try case c5 => first | omega | (simp; omega)
      try case c6 => first | rfl | simp
      intro g cap w4 hown1 hgrow1 hat1 hlt1
      have HO4 : Hid (w4.ownsRow w.heap.size 45 9 (.slice (some ⟨g, 0, none⟩) 2 cap) 2 (([x0] ++ D1).flatMap dutE)) := by show World.ownsRow _ _ _ _ _ _ _; rw [← e9.out]; exact hown1
      have HB4 := Lib.hid (below_append HBa.out HOa.out hgrow1 (Nat.le_refl _))
      have HC4 := Lib.hid ((BC3.out.alloc (.cells #[.int .i64 c0, .int .i64 c1, .int .i64 c2, .int .i64 c3, .int .i64 c4, .bool false, .bool true, .int .i64 (max (t1 - L) 0), .int .i64 t1] 45)).grownM (M := w.heap.size + 1 + 1) hgrow1 (by omega))
      have HT4 := Lib.hid ((BT3.out.alloc (.cells #[.int .i64 c0, .int .i64 c1, .int .i64 c2, .int .i64 c3, .int .i64 c4, .bool false, .bool true, .int .i64 (max (t1 - L) 0), .int .i64 t1] 45)).grownM (M := w.heap.size + 1 + 1) hgrow1 (by omega))
      clear hown1 hgrow1 hat1 kt kb
      go_wp2_with fail
      go_meet
      exact ⟨_, 2, cap, by rw [hD.out]; rfl, rfl, HO4, HB4, HC4, HT4⟩
  case rest =>
    obtain ⟨A9, n9, c9, hn9, rfl, HO, HB, HC, HT⟩ := hcut
    generalize wc = w4 at *
    clear kt kb
    have kt := HT.out.at_
    have kb := HC.out.at_
    have hd1l : D1.length ≤ 1 := by rw [hD1.out]; split <;> simp
    have hn92 : n9 ≤ 2 := by rw [hn9]; simp; omega
    have hRl : Hid (R = ([x0] ++ D1) ++ D2) := hR2
    generalize hDD : [x0] ++ D1 = DD at *
    replace hn9 := Lib.hid hn9
    replace hDD := Lib.hid hDD
    by_cases h0 : t2 = -1
    · have hD : Hid (R = DD) := by show _ = _; rw [hRl.out, hD2.out, if_pos h0, List.append_nil]
      have d0 : (t2 != -1) = false := by rw [h0]; rfl
      replace h0 := Lib.hid h0
      go_wp2
      go_ret
      exact ⟨A9, c9, by rw [hD.out, ← hn9.out]; rfl, by rw [hD.out, ← hn9.out]; exact HO.out, HB.out⟩
    · have hD : Hid (R = DD ++ [⟨⟨c0, c1, c2, c3, c4⟩, false, true, t2, t2 + L⟩]) := by show _ = _; rw [hRl.out, hD2.out, if_neg h0]
      have d0 : (t2 != -1) = true := by rw [bne_iff_ne]; exact h0
      have HOa := HO.out.alloc (.cells #[.int .i64 c0, .int .i64 c1, .int .i64 c2, .int .i64 c3, .int .i64 c4, .bool false, .bool true, .int .i64 t2, .int .i64 (t2 + L)] 45)
      have HBa := ballN HB.out (.cells #[.int .i64 c0, .int .i64 c1, .int .i64 c2, .int .i64 c3, .int .i64 c4, .bool false, .bool true, .int .i64 t2, .int .i64 (t2 + L)] 45)
      have hnews := World.news_of_block (Blk.new w4 #[.int .i64 c0, .int .i64 c1, .int .i64 c2, .int .i64 c3, .int .i64 c4, .bool false, .bool true, .int .i64 t2, .int .i64 (t2 + L)] 45).at_
      have hs4 := HB.out.size
      have e9 : Hid (DD.flatMap dutE ++ [.int .i64 c0, .int .i64 c1, .int .i64 c2, .int .i64 c3, .int .i64 c4, .bool false, .bool true, .int .i64 t2, .int .i64 (t2 + L)] = R.flatMap dutE) := by
        show _ = _
        rw [hD.out, List.flatMap_append]
        simp [dutE]
      have el : Hid (R.length = n9 + 1) := by show _ = _; rw [hD.out, List.length_append, ← hn9.out]; rfl
      generalize DD.flatMap dutE = XF at *
      replace HOa := Lib.hid HOa
      replace HBa := Lib.hid HBa
      replace hnews := Lib.hid hnews
      replace h0 := Lib.hid h0
      go_wp2_with (at_builtin; refine wpList_append_lies _ rfl _ _ _ rfl w.heap.size 45 i0 (.agg #[.int .i64 0, .int .i64 0, .int .i64 0, .int .i64 0, .int .i64 0, .bool false, .bool false, .int .i64 0, .int .i64 0]) 9 64 Try.underlying38 hi.out hz0.out hz1.out hz2.out rfl (by decide) (.slice A9 n9 c9) n9 _ rfl HOa.out ⟨w4.heap.size, 0, none⟩ 1 1 [.int .i64 c0, .int .i64 c1, .int .i64 c2, .int .i64 c3, .int .i64 c4, .bool false, .bool true, .int .i64 t2, .int .i64 (t2 + L)] rfl rfl ?d1 ?d2 (by decide) ?d3 ?d4 ?d5 (w4.heap.size + 1) ?d6 ?_)
      try case d1 => exact hnews.out
      try case d2 => simp [Value.oneCell']
      try case d3 => unfold maxLen; omega
      try case d4 => omega
      try case d5 => first | omega | (simp; omega)
      try case d6 => first | rfl | simp
      intro g cap w5 hown1 hgrow1 hat1 hlt1
      have HO5 : Hid (w5.ownsRow w.heap.size 45 9 (.slice (some ⟨g, 0, none⟩) (n9 + 1) cap) (n9 + 1) (R.flatMap dutE)) := by show World.ownsRow _ _ _ _ _ _ _; rw [← e9.out]; exact hown1
      have HB5 := Lib.hid (below_append HBa.out HOa.out hgrow1 (Nat.le_refl _))
      clear hown1 hgrow1 hat1 kt kb
      go_wp2
      go_ret
      exact ⟨_, cap, by rw [el.out]; rfl, by rw [el.out]; exact HO5.out, HB5.out⟩
end Sw
end Go.Proofs.Ytdlgdmbcbenlbaa
namespace Go.Proofs.Ytdlgdmbcbenlbaa
open Go Go.RowKit Go.Sort
namespace Sw
open Mm
def cmpD (d e : Dut) : Int := fst0 [cmpC d.cell e.cell, cmpI d.first e.first, cmpI (lastN d.til) (lastN e.til), laterN d - laterN e]
theorem laterN_bd (d : Dut) : 0 ≤ laterN d ∧ laterN d ≤ 1 := by unfold laterN; split <;> omega
set_option maxRecDepth 100000 in
set_option maxHeartbeats 8000000 in
theorem dutCmp_any (d e : Dut) (w : World) :
    Calls Try.prog 46 #[.agg #[.int .i64 d.cell.slot, .int .i64 d.cell.offset, .int .i64 d.cell.frm, .int .i64 d.cell.to, .int .i64 d.cell.flow, .bool d.sends, .bool d.extra, .int .i64 d.first, .int .i64 d.til], .agg #[.int .i64 e.cell.slot, .int .i64 e.cell.offset, .int .i64 e.cell.frm, .int .i64 e.cell.to, .int .i64 e.cell.flow, .bool e.sends, .bool e.extra, .int .i64 e.first, .int .i64 e.til]] w fun r w' => r = .returned (.int .i64 (cmpD d e)) ∧ GW w w' := by
  obtain ⟨⟨a0, a1, a2, a3, a4⟩, a9, ax, af, au⟩ := d
  obtain ⟨⟨b0, b1, b2, b3, b4⟩, b9, bx, bf, bu⟩ := e
  have hR : cmpD ⟨⟨a0, a1, a2, a3, a4⟩, a9, ax, af, au⟩ ⟨⟨b0, b1, b2, b3, b4⟩, b9, bx, bf, bu⟩ = fst0 [cmpC ⟨a0, a1, a2, a3, a4⟩ ⟨b0, b1, b2, b3, b4⟩, cmpI af bf, cmpI (lastN au) (lastN bu), laterN ⟨⟨a0, a1, a2, a3, a4⟩, a9, ax, af, au⟩ - laterN ⟨⟨b0, b1, b2, b3, b4⟩, b9, bx, bf, bu⟩] := rfl
  have c1 := fun W => compare_any ⟨a0, a1, a2, a3, a4⟩ ⟨b0, b1, b2, b3, b4⟩ W
  have c2 := fun x y W => cmp_any x y W
  have c3 := fun u W => last_any u W
  have c4 := fun W => later_any ⟨⟨a0, a1, a2, a3, a4⟩, a9, ax, af, au⟩ W
  have c5 := fun W => later_any ⟨⟨b0, b1, b2, b3, b4⟩, b9, bx, bf, bu⟩ W
  have l1 := laterN_bd ⟨⟨a0, a1, a2, a3, a4⟩, a9, ax, af, au⟩
  have l2 := laterN_bd ⟨⟨b0, b1, b2, b3, b4⟩, b9, bx, bf, bu⟩
  dsimp only at *
  generalize cmpD ⟨⟨a0, a1, a2, a3, a4⟩, a9, ax, af, au⟩ ⟨⟨b0, b1, b2, b3, b4⟩, b9, bx, bf, bu⟩ = R at *
  generalize laterN ⟨⟨a0, a1, a2, a3, a4⟩, a9, ax, af, au⟩ = m1 at *
  generalize laterN ⟨⟨b0, b1, b2, b3, b4⟩, b9, bx, bf, bu⟩ = m2 at *
  generalize cmpC ⟨a0, a1, a2, a3, a4⟩ ⟨b0, b1, b2, b3, b4⟩ = V at *
  generalize cmpI = CI at *
  generalize lastN = LA at *
  have c6 := fun A W (h : IntS W A 4 [V, CI af bf, CI (LA au) (LA bu), m1 - m2]) => first_any A 4 4 _ W h
  rw [← hR] at c6
  have hw1 : IntKind.i64.wrap (m1 - m2) = m1 - m2 := IntWalk.i64_in _ (by omega)
  obtain ⟨l1a, l1b⟩ := l1
  obtain ⟨l2a, l2b⟩ := l2
  have BX := (Box.new w #[.int .i64 a0, .int .i64 a1, .int .i64 a2, .int .i64 a3, .int .i64 a4, .bool a9, .bool ax, .int .i64 af, .int .i64 au] 45).alloc (.cells #[.int .i64 b0, .int .i64 b1, .int .i64 b2, .int .i64 b3, .int .i64 b4, .bool b9, .bool bx, .int .i64 bf, .int .i64 bu] 45)
  have BY := Box.new (w.alloc (.cells #[.int .i64 a0, .int .i64 a1, .int .i64 a2, .int .i64 a3, .int .i64 a4, .bool a9, .bool ax, .int .i64 af, .int .i64 au] 45)) #[.int .i64 b0, .int .i64 b1, .int .i64 b2, .int .i64 b3, .int .i64 b4, .bool b9, .bool bx, .int .i64 bf, .int .i64 bu] 45
  have hG := ((GW.refl w).alloc (.cells #[.int .i64 a0, .int .i64 a1, .int .i64 a2, .int .i64 a3, .int .i64 a4, .bool a9, .bool ax, .int .i64 af, .int .i64 au] 45)).alloc (.cells #[.int .i64 b0, .int .i64 b1, .int .i64 b2, .int .i64 b3, .int .i64 b4, .bool b9, .bool bx, .int .i64 bf, .int .i64 bu] 45)
  rw [size1] at BY
  replace hR := Lib.hid hR
  replace c1 := Lib.hid c1
  replace c2 := Lib.hid c2
  replace c3 := Lib.hid c3
  replace c4 := Lib.hid c4
  replace c5 := Lib.hid c5
  replace c6 := Lib.hid c6
  replace BX := Lib.hid BX
  replace BY := Lib.hid BY
  replace hG := Lib.hid hG
  go_enter Try.func46, Try.ntmps46
  have kx := BX.out.at_
  have ky := BY.out.at_
  go_wp2_with fail
  generalize (w.alloc (.cells #[.int .i64 a0, .int .i64 a1, .int .i64 a2, .int .i64 a3, .int .i64 a4, .bool a9, .bool ax, .int .i64 af, .int .i64 au] 45)).alloc (.cells #[.int .i64 b0, .int .i64 b1, .int .i64 b2, .int .i64 b3, .int .i64 b4, .bool b9, .bool bx, .int .i64 bf, .int .i64 bu] 45) = w1 at *
  have HX : Hid (∀ w', GW w1 w' → (GW w1 w' ∧ (w'.cell? ⟨w.heap.size, 0, none⟩ = some (.int .i64 a0) ∧ w'.cell? ⟨w.heap.size, 1, none⟩ = some (.int .i64 a1) ∧ w'.cell? ⟨w.heap.size, 2, none⟩ = some (.int .i64 a2) ∧ w'.cell? ⟨w.heap.size, 3, none⟩ = some (.int .i64 a3) ∧ w'.cell? ⟨w.heap.size, 4, none⟩ = some (.int .i64 a4) ∧ w'.cell? ⟨w.heap.size, 5, none⟩ = some (.bool a9) ∧ w'.cell? ⟨w.heap.size, 6, none⟩ = some (.bool ax) ∧ w'.cell? ⟨w.heap.size, 7, none⟩ = some (.int .i64 af) ∧ w'.cell? ⟨w.heap.size, 8, none⟩ = some (.int .i64 au)) ∧ (w'.cell? ⟨w.heap.size + 1, 0, none⟩ = some (.int .i64 b0) ∧ w'.cell? ⟨w.heap.size + 1, 1, none⟩ = some (.int .i64 b1) ∧ w'.cell? ⟨w.heap.size + 1, 2, none⟩ = some (.int .i64 b2) ∧ w'.cell? ⟨w.heap.size + 1, 3, none⟩ = some (.int .i64 b3) ∧ w'.cell? ⟨w.heap.size + 1, 4, none⟩ = some (.int .i64 b4) ∧ w'.cell? ⟨w.heap.size + 1, 5, none⟩ = some (.bool b9) ∧ w'.cell? ⟨w.heap.size + 1, 6, none⟩ = some (.bool bx) ∧ w'.cell? ⟨w.heap.size + 1, 7, none⟩ = some (.int .i64 bf) ∧ w'.cell? ⟨w.heap.size + 1, 8, none⟩ = some (.int .i64 bu)))) := fun w' h =>
    ⟨h, ⟨(BX.out.keep h.below).at_ 0, (BX.out.keep h.below).at_ 1, (BX.out.keep h.below).at_ 2, (BX.out.keep h.below).at_ 3, (BX.out.keep h.below).at_ 4, (BX.out.keep h.below).at_ 5, (BX.out.keep h.below).at_ 6, (BX.out.keep h.below).at_ 7, (BX.out.keep h.below).at_ 8⟩, ⟨(BY.out.keep h.below).at_ 0, (BY.out.keep h.below).at_ 1, (BY.out.keep h.below).at_ 2, (BY.out.keep h.below).at_ 3, (BY.out.keep h.below).at_ 4, (BY.out.keep h.below).at_ 5, (BY.out.keep h.below).at_ 6, (BY.out.keep h.below).at_ 7, (BY.out.keep h.below).at_ 8⟩⟩
  have kz := HX.out _ (GW.refl w1)
  clear kx ky
  go_region_held3 (fun w' => GW w1 w' ∧ (w'.cell? ⟨w.heap.size, 0, none⟩ = some (.int .i64 a0) ∧ w'.cell? ⟨w.heap.size, 1, none⟩ = some (.int .i64 a1) ∧ w'.cell? ⟨w.heap.size, 2, none⟩ = some (.int .i64 a2) ∧ w'.cell? ⟨w.heap.size, 3, none⟩ = some (.int .i64 a3) ∧ w'.cell? ⟨w.heap.size, 4, none⟩ = some (.int .i64 a4) ∧ w'.cell? ⟨w.heap.size, 5, none⟩ = some (.bool a9) ∧ w'.cell? ⟨w.heap.size, 6, none⟩ = some (.bool ax) ∧ w'.cell? ⟨w.heap.size, 7, none⟩ = some (.int .i64 af) ∧ w'.cell? ⟨w.heap.size, 8, none⟩ = some (.int .i64 au)) ∧ (w'.cell? ⟨w.heap.size + 1, 0, none⟩ = some (.int .i64 b0) ∧ w'.cell? ⟨w.heap.size + 1, 1, none⟩ = some (.int .i64 b1) ∧ w'.cell? ⟨w.heap.size + 1, 2, none⟩ = some (.int .i64 b2) ∧ w'.cell? ⟨w.heap.size + 1, 3, none⟩ = some (.int .i64 b3) ∧ w'.cell? ⟨w.heap.size + 1, 4, none⟩ = some (.int .i64 b4) ∧ w'.cell? ⟨w.heap.size + 1, 5, none⟩ = some (.bool b9) ∧ w'.cell? ⟨w.heap.size + 1, 6, none⟩ = some (.bool bx) ∧ w'.cell? ⟨w.heap.size + 1, 7, none⟩ = some (.int .i64 bf) ∧ w'.cell? ⟨w.heap.size + 1, 8, none⟩ = some (.int .i64 bu)))
    (first
      | exact HX.out _ ((GW.refl w1).drew)
      | exact HX.out _ (by assumption)
      | exact HX.out _ (And.left (by assumption))
      | exact HX.out _ (GW.trans (And.left (by assumption)) (by assumption))
      | exact HX.out _ (GW.alloc (And.left (by assumption)) _))
    (first
      | (go_at_call 42; refine (c1.out _).mono ?_; rintro r wf ⟨rfl, hgw⟩)
      | (go_at_call 48; refine (c2.out _ _ _).mono ?_; rintro r wf ⟨rfl, rfl⟩)
      | (go_at_call 49; refine (c3.out _ _).mono ?_; rintro r wf ⟨rfl, rfl⟩)
      | (go_at_call 50; refine (c4.out _).mono ?_; rintro r wf ⟨rfl, hgw⟩)
      | (go_at_call 50; refine (c5.out _).mono ?_; rintro r wf ⟨rfl, hgw⟩)
      | (go_at_call 47; refine (c6.out _ _ (ints_box _ 3 [V, CI af bf, CI (LA au) (LA bu), m1 - m2] (by simp [maxLen]))).mono ?_; rintro r wf ⟨rfl, rfl⟩))
  all_goals
    go_wp2
    go_ret
    exact ⟨rfl, hG.out.trans (And.left (by assumption))⟩
end Sw
end Go.Proofs.Ytdlgdmbcbenlbaa
namespace Go.Proofs
open Go.Shelf
def Try.sortc_ren : Go.Shelf.Ren := ⟨fun | 6 => 41 | 15 => 71 | 14 => 70 | 28 => 85 | 29 => 86 | 20 => 77 | 21 => 78 | 22 => 79 | 23 => 80 | 24 => 81 | 25 => 82 | 26 => 83 | 27 => 84 | 46 => 89 | 47 => 90 | 48 => 91 | 49 => 92 | 50 => 93 | 57 => 95 | n => n, fun | 22 => 22 | 24 => 34 | 25 => 71 | 3 => 3 | 39 => 94 | 0 => 0 | 53 => 109 | 55 => 111 | 4 => 4 | 46 => 102 | 45 => 101 | 50 => 106 | 5 => 5 | 9 => 9 | 66 => 114 | 70 => 118 | 76 => 120 | 77 => 121 | n => n, fun | n => n⟩
theorem Try.sortc : Go.Proofs.SlLaysF0.n6 Try.prog Try.sortc_ren := {
  mixed := by kernel_rfl
  f6 := ⟨Try.f41.name, by decide, Try.func41.trans (congrArg some (by kernel_rfl))⟩
  f14 := ⟨Try.f70.name, by decide, Try.func70.trans (congrArg some (by kernel_rfl))⟩
  f15 := Try.func71.trans (congrArg some (by kernel_rfl))
  f20 := ⟨Try.f77.name, by decide, Try.func77.trans (congrArg some (by kernel_rfl))⟩
  f21 := ⟨Try.f78.name, by decide, Try.func78.trans (congrArg some (by kernel_rfl))⟩
  f22 := ⟨Try.f79.name, by decide, Try.func79.trans (congrArg some (by kernel_rfl))⟩
  f23 := ⟨Try.f80.name, by decide, Try.func80.trans (congrArg some (by kernel_rfl))⟩
  f24 := ⟨Try.f81.name, by decide, Try.func81.trans (congrArg some (by kernel_rfl))⟩
  f25 := ⟨Try.f82.name, by decide, Try.func82.trans (congrArg some (by kernel_rfl))⟩
  f26 := ⟨Try.f83.name, by decide, Try.func83.trans (congrArg some (by kernel_rfl))⟩
  f27 := ⟨Try.f84.name, by decide, Try.func84.trans (congrArg some (by kernel_rfl))⟩
  f28 := Try.func85.trans (congrArg some (by kernel_rfl))
  f29 := Try.func86.trans (congrArg some (by kernel_rfl))
  f46 := ⟨Try.f89.name, by decide, Try.func89.trans (congrArg some (by kernel_rfl))⟩
  f47 := Try.func90.trans (congrArg some (by kernel_rfl))
  f48 := Try.func91.trans (congrArg some (by kernel_rfl))
  f49 := ⟨Try.f92.name, by decide, Try.func92.trans (congrArg some (by kernel_rfl))⟩
  f50 := ⟨Try.f93.name, by decide, Try.func93.trans (congrArg some (by kernel_rfl))⟩
  f57 := ⟨Try.f95.name, by decide, Try.func95.trans (congrArg some (by kernel_rfl))⟩
  t0 := Try.underlying0
  a0 := Try.isAgg0
  z0 := Try.sizeOf0
  v0 := Try.zeroValue0
  t3 := Try.underlying3
  a3 := Try.isAgg3
  z3 := Try.sizeOf3
  v3 := Try.zeroValue3
  t4 := Try.underlying4
  a4 := Try.isAgg4
  z4 := Try.sizeOf4
  v4 := Try.zeroValue4
  t5 := Try.underlying5
  a5 := Try.isAgg5
  z5 := Try.sizeOf5
  v5 := Try.zeroValue5
  t9 := Try.underlying9
  a9 := Try.isAgg9
  z9 := Try.sizeOf9
  v9 := Try.zeroValue9
  t22 := Try.underlying22
  a22 := Try.isAgg22
  z22 := Try.sizeOf22
  v22 := Try.zeroValue22
  t25 := Try.underlying71
  a25 := Try.isAgg71
  z25 := Try.sizeOf71
  v25 := Try.zeroValue71
  t39 := Try.underlying94
  a39 := Try.isAgg94
  z39 := Try.sizeOf94
  v39 := Try.zeroValue94
  t45 := Try.underlying101
  a45 := Try.isAgg101
  z45 := Try.sizeOf101
  v45 := Try.zeroValue101
  t46 := Try.underlying102
  a46 := Try.isAgg102
  z46 := Try.sizeOf102
  v46 := Try.zeroValue102
  t50 := Try.underlying106
  a50 := Try.isAgg106
  z50 := Try.sizeOf106
  v50 := Try.zeroValue106
  t53 := Try.underlying109
  a53 := Try.isAgg109
  z53 := Try.sizeOf109
  v53 := Try.zeroValue109
  t55 := Try.underlying111
  a55 := Try.isAgg111
  z55 := Try.sizeOf111
  v55 := Try.zeroValue111
  t66 := Try.underlying114
  a66 := Try.isAgg114
  z66 := Try.sizeOf114
  v66 := Try.zeroValue114
  t70 := Try.underlying118
  a70 := Try.isAgg118
  z70 := Try.sizeOf118
  v70 := Try.zeroValue118
  t76 := Try.underlying120
  a76 := Try.isAgg120
  z76 := Try.sizeOf120
  v76 := Try.zeroValue120
  t77 := Try.underlying121
  a77 := Try.isAgg121
  z77 := Try.sizeOf121
  v77 := Try.zeroValue121 }
def Try.insd_ren : Go.Shelf.Ren := ⟨fun | 20 => 87 | n => n, fun | 24 => 45 | 22 => 38 | 3 => 3 | 25 => 78 | 4 => 4 | 0 => 0 | n => n, fun | n => n⟩
theorem Try.insd : Go.Proofs.SlLaysF0.n20 Try.prog Try.insd_ren := {
  mixed := by kernel_rfl
  f20 := ⟨Try.f87.name, by decide, Try.func87.trans (congrArg some (by kernel_rfl))⟩
  t0 := Try.underlying0
  a0 := Try.isAgg0
  z0 := Try.sizeOf0
  v0 := Try.zeroValue0
  t3 := Try.underlying3
  a3 := Try.isAgg3
  z3 := Try.sizeOf3
  v3 := Try.zeroValue3
  t4 := Try.underlying4
  a4 := Try.isAgg4
  z4 := Try.sizeOf4
  v4 := Try.zeroValue4
  t22 := Try.underlying38
  a22 := Try.isAgg38
  z22 := Try.sizeOf38
  v22 := Try.zeroValue38
  t25 := Try.underlying78
  a25 := Try.isAgg78
  z25 := Try.sizeOf78
  v25 := Try.zeroValue78 }
end Go.Proofs
namespace Go.Proofs.Ytdlgdmbcbenlbaa
open Go Go.RowKit Go.Sort Go.Shelf Go.Lib
namespace Sw
open Mm
def insD (cf : Dut → Dut → Int) (d : List Dut) : List Dut := (Sort.insertionSort (ltOf cf) d.toArray 0 d.length).toList
theorem ins_none (L : SlLaysF0.n20 Try.prog Try.insd_ren) (p : Option Addr) (cap : Nat) (fv : Value) (w : World) :
    Calls Try.prog 87 #[.slice p 0 cap, .int .i64 0, .int .i64 0, fv] w fun e w' => e = .returned (.tuple #[]) ∧ w' = w := by
  have h := AnyF.insertionSortCmpFunc_none (P := Try.prog) (ρ := Try.insd_ren) L p cap fv w
  exact h
/-- what a comparison of duties must do -/
def CmpD (g : Nat) (cb : Array Value) (cf : Dut → Dut → Int) : Prop := ∀ (x y : Dut) (w : World),
  Calls Try.prog g (#[.agg (dutE x).toArray, .agg (dutE y).toArray] ++ cb) w fun e w' => e = .returned (.int .i64 (cf x y)) ∧ GW w w'
theorem cmpLays_of {g : Nat} {cb : Array Value} {cf : Dut → Dut → Int} (h : CmpD g cb cf) (blk size : Nat) (w : World) : CmpLays Try.prog g cb dutE 9 cf blk 0 size w := by
  intro m os dk _ x y
  exact h x y _
set_option maxRecDepth 100000 in
set_option maxHeartbeats 4000000 in
theorem stable_small (g : Nat) (cb : Array Value) (cf : Dut → Dut → Int) (blk cap : Nat) (d : List Dut) (w : World) (eg : ∀ args w, (callFunc g args).run Try.prog w = .ok (.enter g args) w) (hC : CmpLays Try.prog g cb dutE 9 cf blk 0 d.toArray.size w) (hH : HoldsK dutE 9 w blk 0 d.toArray) (hblk : blk < w.heap.size) (hn : d.length < 20) :
    Calls Try.prog 45 #[.slice (some ⟨blk, 0, none⟩) d.length cap, .func (.func g) #[] cb] w fun e w' =>
      e = .returned (.tuple #[]) ∧ ∃ q os, w' = sortWorldK dutE 9 w blk 0 q (insD cf d).toArray os := by
  have hS := AnyQ.insertionSortCmpFunc (P := Try.prog) (ρ := Try.insd_ren) Try.insd 9 Try.isAgg45 Try.sizeOf45 dutE dutE_len dutE_one cf g cb blk 0 cap 0 d.length d.toArray w eg hC hH hblk (Nat.zero_le _) (by simp) (by simp; omega)
  change Calls Try.prog 87 _ _ _ at hS
  rw [List.size_toArray] at hS
  have hcS : Calls Try.prog 72 #[.slice (some ⟨blk, 0, none⟩) d.length cap, .int .i64 (d.length : Int), .func (.func g) #[] cb] w fun e w' =>
      e = .returned (.tuple #[]) ∧ ∃ q os, w' = sortWorldK dutE 9 w blk 0 q (insD cf d).toArray os := by
    generalize hins : sortWorldK dutE 9 w blk 0 = SW at *
    have e1 : (insD cf d).toArray = Sort.insertionSort (ltOf cf) d.toArray 0 d.length := by unfold insD; simp
    rw [← e1] at hS
    generalize (insD cf d).toArray = D at *
    generalize d.length = n at *
    clear hH hC e1 hins
    replace hS := Lib.hid hS
    go_enter Try.func72, Try.ntmps72
    go_wp2
    refine wp_loop_rounds 1 ?_
    rw [rounds_succ]
    go_wp2_with (first | (go_at_call 87; refine (hS.out).mono ?_; rintro e w' ⟨rfl, q, os, rfl⟩))
    refine wp_loop_rounds 1 ?_
    rw [rounds_succ]
    go_wp2
    go_end0
    exact ⟨rfl, q, os, rfl⟩
  generalize hins : sortWorldK dutE 9 w blk 0 = SW at *
  generalize (insD cf d).toArray = D at *
  clear hH hC hS hins
  replace hcS := Lib.hid hcS
  go_enter Try.func45, Try.ntmps45
  go_wp2_with (first | (go_at_call 72; refine (hcS.out).mono ?_; rintro e w' ⟨rfl, q, os, rfl⟩))
  go_end0
  exact ⟨rfl, q, os, rfl⟩
end Sw
end Go.Proofs.Ytdlgdmbcbenlbaa
namespace Go.Proofs.Ytdlgdmbcbenlbaa
open Go Go.RowKit Go.Sort Go.Shelf Go.Lib
namespace Sw
open Mm
def ltC (a b : Cel) : Prop := a.slot < b.slot ∨ (a.slot = b.slot ∧ (a.offset < b.offset ∨ (a.offset = b.offset ∧ (a.frm < b.frm ∨ (a.frm = b.frm ∧ (a.to < b.to ∨ (a.to = b.to ∧ a.flow < b.flow)))))))
theorem cmpI_lt (x y : Int) : (x < y ∧ cmpI x y = -1) ∨ (y < x ∧ cmpI x y = 1) ∨ (x = y ∧ cmpI x y = 0) := by
  unfold cmpI
  by_cases h1 : x < y
  · exact .inl ⟨h1, if_pos h1⟩
  · by_cases h2 : y < x
    · exact .inr (.inl ⟨h2, by rw [if_neg h1, if_pos h2]⟩)
    · exact .inr (.inr ⟨by omega, by rw [if_neg h1, if_neg h2]⟩)
theorem cmpC_cases (a b : Cel) : (ltC a b ∧ cmpC a b = -1) ∨ (ltC b a ∧ cmpC a b = 1) ∨ (a = b ∧ cmpC a b = 0) := by
  obtain ⟨a0, a1, a2, a3, a4⟩ := a
  obtain ⟨b0, b1, b2, b3, b4⟩ := b
  unfold cmpC ltC
  dsimp only
  rcases cmpI_lt a0 b0 with ⟨h0, e0⟩ | ⟨h0, e0⟩ | ⟨rfl, e0⟩
  · exact .inl ⟨by omega, by rw [e0]; rfl⟩
  · exact .inr (.inl ⟨by omega, by rw [e0]; rfl⟩)
  rcases cmpI_lt a1 b1 with ⟨h1, e1⟩ | ⟨h1, e1⟩ | ⟨rfl, e1⟩
  · exact .inl ⟨by omega, by rw [e0, e1]; rfl⟩
  · exact .inr (.inl ⟨by omega, by rw [e0, e1]; rfl⟩)
  rcases cmpI_lt a2 b2 with ⟨h2, e2⟩ | ⟨h2, e2⟩ | ⟨rfl, e2⟩
  · exact .inl ⟨by omega, by rw [e0, e1, e2]; rfl⟩
  · exact .inr (.inl ⟨by omega, by rw [e0, e1, e2]; rfl⟩)
  rcases cmpI_lt a3 b3 with ⟨h3, e3⟩ | ⟨h3, e3⟩ | ⟨rfl, e3⟩
  · exact .inl ⟨by omega, by rw [e0, e1, e2, e3]; rfl⟩
  · exact .inr (.inl ⟨by omega, by rw [e0, e1, e2, e3]; rfl⟩)
  rcases cmpI_lt a4 b4 with ⟨h4, e4⟩ | ⟨h4, e4⟩ | ⟨rfl, e4⟩
  · exact .inl ⟨by omega, by rw [e0, e1, e2, e3, e4]; rfl⟩
  · exact .inr (.inl ⟨by omega, by rw [e0, e1, e2, e3, e4]; rfl⟩)
  · exact .inr (.inr ⟨rfl, by rw [e0, e1, e2, e3, e4]; rfl⟩)
theorem ltC_irrefl (a : Cel) : ¬ ltC a a := by unfold ltC; omega
theorem ltC_trans {a b c : Cel} (h1 : ltC a b) (h2 : ltC b c) : ltC a c := by unfold ltC at *; omega
theorem cmpC_lt (a b : Cel) : cmpC a b < 0 ↔ ltC a b := by
  rcases cmpC_cases a b with ⟨h, e⟩ | ⟨h, e⟩ | ⟨rfl, e⟩
  · rw [e]; exact ⟨fun _ => h, fun _ => by decide⟩
  · rw [e]; exact ⟨fun h2 => absurd h2 (by decide), fun h2 => absurd (ltC_trans h h2) (ltC_irrefl _)⟩
  · rw [e]; exact ⟨fun h2 => absurd h2 (by decide), fun h2 => absurd h2 (ltC_irrefl _)⟩
theorem ltC_tri {a b : Cel} (h1 : ¬ ltC a b) (h2 : ¬ ltC b a) : a = b := by
  rcases cmpC_cases a b with ⟨h, _⟩ | ⟨h, _⟩ | ⟨h, _⟩
  · exact absurd h h1
  · exact absurd h h2
  · exact h
theorem ltOC (x y : Cel) : ltOf cmpC x y = true ↔ ltC x y := by unfold ltOf; rw [decide_eq_true_eq, cmpC_lt]
theorem ltOCf (x y : Cel) : ltOf cmpC x y = false ↔ ¬ ltC x y := by rw [← ltOC, Bool.not_eq_true]
theorem swoC : SWO (ltOf cmpC) where
  irrefl x := by rw [ltOCf]; exact ltC_irrefl x
  trans x y z h1 h2 := by rw [ltOC] at *; exact ltC_trans h1 h2
  ntrans x y z h1 h2 := by
    rw [ltOCf] at *
    intro h
    by_cases e1 : ltC y x
    · exact h2 (ltC_trans e1 h)
    · have := ltC_tri h1 e1
      subst this
      exact h2 h
theorem totC (x y : Cel) (h1 : ltOf cmpC x y = false) (h2 : ltOf cmpC y x = false) : x = y := by rw [ltOCf] at *; exact ltC_tri h1 h2
def sortC (xs : List Cel) : List Cel := xs.mergeSort fun x y => !ltOf cmpC y x
theorem sortC_perm (xs : List Cel) : (sortC xs).Perm xs := List.mergeSort_perm _ _
theorem sortC_sorted (xs : List Cel) : (sortC xs).Pairwise fun a b => ¬ ltC b a := by
  refine (List.pairwise_mergeSort (fun a b c h1 h2 => ?_) (fun a b => ?_) xs).imp fun {a b} h => ?_
  · rw [Bool.not_eq_true', ltOCf] at *
    intro h
    by_cases e1 : ltC a b
    · exact h2 (ltC_trans h e1)
    · have := ltC_tri e1 h1
      subst this
      exact h2 h
  · rw [Bool.or_eq_true, Bool.not_eq_true', Bool.not_eq_true', ltOCf, ltOCf]
    by_cases h : ltC b a
    · exact .inr fun h2 => ltC_irrefl _ (ltC_trans h h2)
    · exact .inl h
  · rw [Bool.not_eq_true', ltOCf] at h; exact h
def SortCPost (A : Option Addr) (c base : Nat) (xs : List Cel) (w : World) (e : Ending) (w' : World) : Prop :=
  e = .returned (.tuple #[]) ∧ w'.ownsRow base 34 5 (.slice A xs.length c) xs.length ((sortC xs).flatMap celE) ∧ ∀ w0 : World, Below w0.heap.size w0 w → w0.heap.size ≤ base → Below w0.heap.size w0 w'
theorem sortC_any (xs : List Cel) (A : Option Addr) (c base : Nat) (w : World) (h : w.ownsRow base 34 5 (.slice A xs.length c) xs.length (xs.flatMap celE)) (hl : xs.length ≤ 5000) :
    Calls Try.prog 41 #[.slice A xs.length c, .func (.func 42) #[] #[]] w (SortCPost A c base xs w) := by
  rcases h.2 with ⟨hv, h0⟩ | ⟨g, cap, cur, hv, hbase, hg, r1, r2, r3, r4⟩
  · have hn := AnyF.slices_SortFunc_none (P := Try.prog) (ρ := Try.sortc_ren) { Try.sortc with } A c (.func (.func 42) #[] #[]) w
    change Calls Try.prog 41 _ _ _ at hn
    rw [h0]
    refine hn.mono ?_
    rintro e w' ⟨rfl, rfl⟩
    have hx : xs = [] := List.length_eq_zero_iff.1 h0
    subst hx
    exact ⟨rfl, by simpa [sortC] using h, fun _ h _ => h⟩
  · injection hv with hA _ hc
    subst hA hc
    have hH := Sk.holdsK_of celE 5 celE_len hg (ss := xs) r4
    have hgl : g < w.heap.size := (Array.getElem?_eq_some_iff.1 hg).1
    have hcmp : CmpLays Try.prog 42 #[] celE 5 cmpC g 0 xs.toArray.size w := by
      intro m os dk _ x y
      exact compare_any x y _
    have hS := AnyQ.slices_SortFunc_total (P := Try.prog) (ρ := Try.sortc_ren) Try.sortc 5 Try.isAgg34 Try.sizeOf34 celE celE_len celE_one cmpC swoC 42 #[] g 0 c xs.toArray w (enters_of Try.func42 (by kernel_rfl) rfl) hcmp hH hgl (by rw [List.size_toArray]; omega) totC
    change Calls Try.prog 41 _ _ _ at hS
    rw [List.size_toArray] at hS
    refine hS.mono ?_
    rintro e w' ⟨rfl, q, os, rfl⟩
    refine ⟨rfl, ?_, fun w0 h0 hb => h0.grown (Sk.grownBy_sortK celE 5 _) h0.size (fun k hk => by cases hk; omega)⟩
    exact Sk.owns_sortK celE 5 celE_len (m := xs.length) (ts := sortC xs) (by unfold sortC; exact List.length_mergeSort _) hbase hg r1 r2 r3
end Sw
end Go.Proofs.Ytdlgdmbcbenlbaa
namespace Go.Proofs.Ytdlgdmbcbenlbaa
open Go Go.RowKit Go.Sort
namespace Sw
open Mm
def turnN (d : Dut) : Int := if d.sends = true then -1 else laterN d
theorem turnN_bd (d : Dut) : -1 ≤ turnN d ∧ turnN d ≤ 1 := by
  have := laterN_bd d
  unfold turnN; split <;> omega
set_option maxRecDepth 100000 in
set_option maxHeartbeats 2000000 in
theorem turn_any (d : Dut) (w : World) : Calls Try.prog 62 #[.agg #[.int .i64 d.cell.slot, .int .i64 d.cell.offset, .int .i64 d.cell.frm, .int .i64 d.cell.to, .int .i64 d.cell.flow, .bool d.sends, .bool d.extra, .int .i64 d.first, .int .i64 d.til]] w fun e w' => e = .returned (.int .i64 (turnN d)) ∧ GW w w' := by
  have hR : turnN d = if d.sends = true then -1 else laterN d := rfl
  have c1 := fun W => later_any d W
  generalize turnN d = R at *
  generalize laterN d = L at *
  obtain ⟨⟨a0, a1, a2, a3, a4⟩, a9, ax, af, au⟩ := d
  dsimp only at *
  have hG := (GW.refl w).alloc (.cells #[.int .i64 a0, .int .i64 a1, .int .i64 a2, .int .i64 a3, .int .i64 a4, .bool a9, .bool ax, .int .i64 af, .int .i64 au] 45)
  have BX := Box.new w #[.int .i64 a0, .int .i64 a1, .int .i64 a2, .int .i64 a3, .int .i64 a4, .bool a9, .bool ax, .int .i64 af, .int .i64 au] 45
  replace c1 := Lib.hid c1
  replace hG := Lib.hid hG
  replace BX := Lib.hid BX
  have kx := BX.out.at_
  cases a9 with
  | true =>
    rw [if_pos rfl] at hR
    replace hR := Lib.hid hR
    go_enter Try.func62, Try.ntmps62
    go_wp2
    go_ret
    exact ⟨by rw [hR.out]; rfl, hG.out⟩
  | false =>
    rw [if_neg (by decide)] at hR
    replace hR := Lib.hid hR
    go_enter Try.func62, Try.ntmps62
    go_wp2_with fail
    refine (c1.out _).mono ?_
    rintro e w2 ⟨rfl, hg2⟩
    have hG2 := Lib.hid (hG.out.trans hg2)
    clear hg2 kx
    go_wp2
    go_ret
    exact ⟨by rw [hR.out]; rfl, hG2.out⟩
set_option maxRecDepth 100000 in
set_option maxHeartbeats 8000000 in
theorem atCmp_any (d e : Dut) (B : Nat) (w : World) (hB : w.cell? ⟨B, 0, none⟩ = some (.func (.func 62) #[] #[])) :
    Calls Try.prog 63 #[.agg #[.int .i64 d.cell.slot, .int .i64 d.cell.offset, .int .i64 d.cell.frm, .int .i64 d.cell.to, .int .i64 d.cell.flow, .bool d.sends, .bool d.extra, .int .i64 d.first, .int .i64 d.til], .agg #[.int .i64 e.cell.slot, .int .i64 e.cell.offset, .int .i64 e.cell.frm, .int .i64 e.cell.to, .int .i64 e.cell.flow, .bool e.sends, .bool e.extra, .int .i64 e.first, .int .i64 e.til], .pointer (some ⟨B, 0, none⟩)] w fun r w' => r = .returned (.int .i64 (turnN d - turnN e)) ∧ GW w w' := by
  have c4 := fun W => turn_any d W
  have c5 := fun W => turn_any e W
  have l1 := turnN_bd d
  have l2 := turnN_bd e
  generalize turnN d = m1 at *
  generalize turnN e = m2 at *
  obtain ⟨⟨a0, a1, a2, a3, a4⟩, a9, ax, af, au⟩ := d
  obtain ⟨⟨b0, b1, b2, b3, b4⟩, b9, bx, bf, bu⟩ := e
  dsimp only at *
  have hw1 : IntKind.i64.wrap (m1 - m2) = m1 - m2 := IntWalk.i64_in _ (by omega)
  obtain ⟨l1a, l1b⟩ := l1
  obtain ⟨l2a, l2b⟩ := l2
  have BX := (Box.new w #[.int .i64 a0, .int .i64 a1, .int .i64 a2, .int .i64 a3, .int .i64 a4, .bool a9, .bool ax, .int .i64 af, .int .i64 au] 45).alloc (.cells #[.int .i64 b0, .int .i64 b1, .int .i64 b2, .int .i64 b3, .int .i64 b4, .bool b9, .bool bx, .int .i64 bf, .int .i64 bu] 45)
  have BY := Box.new (w.alloc (.cells #[.int .i64 a0, .int .i64 a1, .int .i64 a2, .int .i64 a3, .int .i64 a4, .bool a9, .bool ax, .int .i64 af, .int .i64 au] 45)) #[.int .i64 b0, .int .i64 b1, .int .i64 b2, .int .i64 b3, .int .i64 b4, .bool b9, .bool bx, .int .i64 bf, .int .i64 bu] 45
  have hG := ((GW.refl w).alloc (.cells #[.int .i64 a0, .int .i64 a1, .int .i64 a2, .int .i64 a3, .int .i64 a4, .bool a9, .bool ax, .int .i64 af, .int .i64 au] 45)).alloc (.cells #[.int .i64 b0, .int .i64 b1, .int .i64 b2, .int .i64 b3, .int .i64 b4, .bool b9, .bool bx, .int .i64 bf, .int .i64 bu] 45)
  have hB1 := (hG.below.cell (p := ⟨B, 0, none⟩) (World.block_lt_of_cell? w _ hB)).trans hB
  rw [size1] at BY
  replace c4 := Lib.hid c4
  replace c5 := Lib.hid c5
  replace BX := Lib.hid BX
  replace BY := Lib.hid BY
  replace hG := Lib.hid hG
  replace hB := Lib.hid hB
  go_enter Try.func63, Try.ntmps63
  have kx := BX.out.at_
  have ky := BY.out.at_
  go_wp2_with fail
  generalize (w.alloc (.cells #[.int .i64 a0, .int .i64 a1, .int .i64 a2, .int .i64 a3, .int .i64 a4, .bool a9, .bool ax, .int .i64 af, .int .i64 au] 45)).alloc (.cells #[.int .i64 b0, .int .i64 b1, .int .i64 b2, .int .i64 b3, .int .i64 b4, .bool b9, .bool bx, .int .i64 bf, .int .i64 bu] 45) = w1 at *
  have hBk : Hid (∀ w', GW w1 w' → w'.cell? ⟨B, 0, none⟩ = some (.func (.func 62) #[] #[])) := fun w' h => (h.below.cell (p := ⟨B, 0, none⟩) (World.block_lt_of_cell? w1 _ hB1)).trans hB1
  have HX : Hid (∀ w', GW w1 w' → (GW w1 w' ∧ w'.cell? ⟨B, 0, none⟩ = some (.func (.func 62) #[] #[]) ∧ (w'.cell? ⟨w.heap.size, 0, none⟩ = some (.int .i64 a0) ∧ w'.cell? ⟨w.heap.size, 1, none⟩ = some (.int .i64 a1) ∧ w'.cell? ⟨w.heap.size, 2, none⟩ = some (.int .i64 a2) ∧ w'.cell? ⟨w.heap.size, 3, none⟩ = some (.int .i64 a3) ∧ w'.cell? ⟨w.heap.size, 4, none⟩ = some (.int .i64 a4) ∧ w'.cell? ⟨w.heap.size, 5, none⟩ = some (.bool a9) ∧ w'.cell? ⟨w.heap.size, 6, none⟩ = some (.bool ax) ∧ w'.cell? ⟨w.heap.size, 7, none⟩ = some (.int .i64 af) ∧ w'.cell? ⟨w.heap.size, 8, none⟩ = some (.int .i64 au)) ∧ (w'.cell? ⟨w.heap.size + 1, 0, none⟩ = some (.int .i64 b0) ∧ w'.cell? ⟨w.heap.size + 1, 1, none⟩ = some (.int .i64 b1) ∧ w'.cell? ⟨w.heap.size + 1, 2, none⟩ = some (.int .i64 b2) ∧ w'.cell? ⟨w.heap.size + 1, 3, none⟩ = some (.int .i64 b3) ∧ w'.cell? ⟨w.heap.size + 1, 4, none⟩ = some (.int .i64 b4) ∧ w'.cell? ⟨w.heap.size + 1, 5, none⟩ = some (.bool b9) ∧ w'.cell? ⟨w.heap.size + 1, 6, none⟩ = some (.bool bx) ∧ w'.cell? ⟨w.heap.size + 1, 7, none⟩ = some (.int .i64 bf) ∧ w'.cell? ⟨w.heap.size + 1, 8, none⟩ = some (.int .i64 bu)))) := fun w' h =>
    ⟨h, hBk.out w' h, ⟨(BX.out.keep h.below).at_ 0, (BX.out.keep h.below).at_ 1, (BX.out.keep h.below).at_ 2, (BX.out.keep h.below).at_ 3, (BX.out.keep h.below).at_ 4, (BX.out.keep h.below).at_ 5, (BX.out.keep h.below).at_ 6, (BX.out.keep h.below).at_ 7, (BX.out.keep h.below).at_ 8⟩, ⟨(BY.out.keep h.below).at_ 0, (BY.out.keep h.below).at_ 1, (BY.out.keep h.below).at_ 2, (BY.out.keep h.below).at_ 3, (BY.out.keep h.below).at_ 4, (BY.out.keep h.below).at_ 5, (BY.out.keep h.below).at_ 6, (BY.out.keep h.below).at_ 7, (BY.out.keep h.below).at_ 8⟩⟩
  have kz := HX.out _ (GW.refl w1)
  clear kx ky hB1
  go_region_held3 (fun w' => GW w1 w' ∧ w'.cell? ⟨B, 0, none⟩ = some (.func (.func 62) #[] #[]) ∧ (w'.cell? ⟨w.heap.size, 0, none⟩ = some (.int .i64 a0) ∧ w'.cell? ⟨w.heap.size, 1, none⟩ = some (.int .i64 a1) ∧ w'.cell? ⟨w.heap.size, 2, none⟩ = some (.int .i64 a2) ∧ w'.cell? ⟨w.heap.size, 3, none⟩ = some (.int .i64 a3) ∧ w'.cell? ⟨w.heap.size, 4, none⟩ = some (.int .i64 a4) ∧ w'.cell? ⟨w.heap.size, 5, none⟩ = some (.bool a9) ∧ w'.cell? ⟨w.heap.size, 6, none⟩ = some (.bool ax) ∧ w'.cell? ⟨w.heap.size, 7, none⟩ = some (.int .i64 af) ∧ w'.cell? ⟨w.heap.size, 8, none⟩ = some (.int .i64 au)) ∧ (w'.cell? ⟨w.heap.size + 1, 0, none⟩ = some (.int .i64 b0) ∧ w'.cell? ⟨w.heap.size + 1, 1, none⟩ = some (.int .i64 b1) ∧ w'.cell? ⟨w.heap.size + 1, 2, none⟩ = some (.int .i64 b2) ∧ w'.cell? ⟨w.heap.size + 1, 3, none⟩ = some (.int .i64 b3) ∧ w'.cell? ⟨w.heap.size + 1, 4, none⟩ = some (.int .i64 b4) ∧ w'.cell? ⟨w.heap.size + 1, 5, none⟩ = some (.bool b9) ∧ w'.cell? ⟨w.heap.size + 1, 6, none⟩ = some (.bool bx) ∧ w'.cell? ⟨w.heap.size + 1, 7, none⟩ = some (.int .i64 bf) ∧ w'.cell? ⟨w.heap.size + 1, 8, none⟩ = some (.int .i64 bu)))
    (first
      | exact HX.out _ ((GW.refl w1).drew)
      | exact HX.out _ (by assumption)
      | exact HX.out _ (And.left (by assumption))
      | exact HX.out _ (GW.trans (And.left (by assumption)) (by assumption)))
    (first
      | (go_at_call 62; refine (c4.out _).mono ?_; rintro r wf ⟨rfl, hgw⟩)
      | (go_at_call 62; refine (c5.out _).mono ?_; rintro r wf ⟨rfl, hgw⟩))
  all_goals
    go_wp2
    go_ret
    exact ⟨rfl, hG.out.trans (And.left (by assumption))⟩
def untilN (L : Int) (l : List Chg) : Int := if l.length = 0 then 0 else (l.getD (l.length - 1) default).slot + L
set_option maxRecDepth 100000 in
set_option maxHeartbeats 2000000 in
theorem until_any (L : Int) (B : Option Addr) (m cq : Nat) (l : List Chg) (w : World) (h : ChgS w B m l) (hL : 1 ≤ L ∧ L ≤ 512) (hs : ∀ x ∈ l, 0 ≤ x.slot ∧ x.slot ≤ 4096) :
    Calls Try.prog 21 #[.slice B m cq, .int .i64 L] w fun e w' => e = .returned (.int .i64 (untilN L l)) ∧ w = w' := by
  have hlen := h.len
  have hsm := h.small
  unfold maxLen at hsm
  obtain ⟨hL1, hL2⟩ := hL
  have hR : untilN L l = if m = 0 then 0 else (l.getD (m - 1) default).slot + L := by unfold untilN; rw [hlen]
  generalize untilN L l = R at *
  by_cases h0 : m = 0
  · have hR2 : Hid (R = 0) := by show _ = _; rw [hR, if_pos h0]
    have d : ((m : Int) == 0) = true := by rw [h0]; rfl
    clear hR
    replace h := Lib.hid h
    replace hlen := Lib.hid hlen
    replace hs := Lib.hid hs
    replace h0 := Lib.hid h0
    go_enter Try.func21, Try.ntmps21
    go_wp2
    go_ret
    exact ⟨by rw [hR2.out]; rfl, rfl⟩
  · obtain ⟨b, off, rfl⟩ := h.addr (by omega)
    obtain ⟨q0, _⟩ := chg_at h (i := m - 1) (by omega)
    have hx := ok_at hs (k := m - 1) (by omega)
    rw [if_neg h0] at hR
    generalize (l.getD (m - 1) default).slot = x at *
    have d : ((m : Int) == 0) = false := by rw [beq_eq_false_iff_ne]; omega
    have ht1 : ((m : Int) - 1).toNat = m - 1 := by omega
    have r1 : (0 : Int) ≤ (m : Int) - 1 := by omega
    have r2 : (m : Int) - 1 < (m : Int) := by omega
    obtain ⟨hx1, hx2⟩ := hx
    replace h := Lib.hid h
    replace hlen := Lib.hid hlen
    replace hs := Lib.hid hs
    replace h0 := Lib.hid h0
    replace hR := Lib.hid hR
    go_enter Try.func21, Try.ntmps21
    go_wp2
    go_ret
    exact ⟨by rw [hR.out]; rfl, rfl⟩
end Sw
end Go.Proofs.Ytdlgdmbcbenlbaa
namespace Go.Proofs.Ytdlgdmbcbenlbaa
open Go Go.RowKit Go.Sort
namespace Sw
open Mm
theorem info_cel : (Try.prog.info? 34).map (fun i => (i.zero, i.size, i.bytes)) = some (some (.agg #[.int .i64 0, .int .i64 0, .int .i64 0, .int .i64 0, .int .i64 0]), 5, 40) := by kernel_rfl
theorem info_chg : (Try.prog.info? 56).map (fun i => (i.zero, i.size, i.bytes)) = some (some (.agg #[.int .i64 0, .bool false, .int .i64 0, .int .i64 0, .int .i64 0, .int .i64 0, .int .i64 0]), 7, 56) := by kernel_rfl
def ClonePost {α : Type} (enc : α → List Value) (k : Nat) (T : TypeId) (n : Nat) (xs : List α) (w : World) (e : Ending) (w' : World) : Prop := ∃ A' c', e = .returned (.slice A' n c') ∧ w'.ownsRow w.heap.size T k (.slice A' n c') n (xs.flatMap enc) ∧ Below w.heap.size w w'
theorem fm_one {α : Type} {enc : α → List Value} (h1 : ∀ x, ∀ v ∈ enc x, v.oneCell' = true) (xs : List α) : ∀ u ∈ xs.flatMap enc, u.oneCell' = true := fun u hu => by
  obtain ⟨x, _, h⟩ := List.mem_flatMap.1 hu
  exact h1 x u h
set_option maxRecDepth 100000 in
set_option maxHeartbeats 2000000 in
theorem cloneC_any (A : Option Addr) (n c : Nat) (xs : List Cel) (w : World) (hs : CelS w A n xs) (hn : n ≤ 100000) :
    Calls Try.prog 34 #[.slice A n c] w (ClonePost celE 5 34 n xs w) := by
  have heq := fun W => Lib.run_eql_slice_nil (P := Try.prog) W 22 34 A n c 0 0 Try.underlying22
  have hlen := hs.len
  rcases A with _ | a
  · have h0 : n = 0 := by
      rcases Nat.eq_zero_or_pos n with h | h
      · exact h
      · obtain ⟨b, off, e⟩ := hs.addr h; cases e
    subst h0
    have hc : xs = [] := List.length_eq_zero_iff.1 hlen
    subst hc
    replace hs := Lib.hid hs
    replace hlen := Lib.hid hlen
    simp only [Option.isNone_none] at heq
    go_enter Try.func34, Try.ntmps34
    go_wp2
    go_ret
    exact ⟨none, 0, rfl, World.ownsRow_nil _ _ _ _, Below.refl _ _⟩
  · simp only [Option.isNone_some] at heq
    obtain ⟨i0, hi, hz0, hz1, hz2⟩ := info_parts info_cel
    have hm0 := World.ownsRow_made (base := w.heap.size) (e := 34) (size := 5) w #[] 0 (Nat.le_refl _) (by decide) rfl
    have hb0 := ball w (.cells #[] 34)
    have hsk := hs.keep hb0
    have hnews : ∀ j u, (xs.flatMap celE)[j]? = some u → (w.alloc (.cells #[] 34)).cell? (a.add j) = some u := by
      rcases Nat.eq_zero_or_pos n with h | h
      · have hx : xs = [] := List.length_eq_zero_iff.1 (by omega)
        subst hx
        intro j u hu; simp at hu
      · exact hsk.news celE_len h
    have h1 := fm_one celE_one xs
    have hfl : (xs.flatMap celE).length = n * 5 := by rw [Sk.fm_len celE 5 celE_len, hlen]
    replace hi := Lib.hid hi
    replace hz0 := Lib.hid hz0
    replace hz1 := Lib.hid hz1
    replace hz2 := Lib.hid hz2
    replace hs := Lib.hid hs
    replace hlen := Lib.hid hlen
    replace hm0 := Lib.hid hm0
    replace hnews := Lib.hid hnews
    replace h1 := Lib.hid h1
    replace hfl := Lib.hid hfl
    replace hb0 := Lib.hid hb0
    replace hsk := Lib.hid hsk
    go_enter Try.func34, Try.ntmps34
    go_wp2_with (at_builtin; refine wpList_append_own _ rfl _ _ _ rfl w.heap.size 34 i0 (.agg #[.int .i64 0, .int .i64 0, .int .i64 0, .int .i64 0, .int .i64 0]) 5 40 Try.underlying22 hi.out hz0.out hz1.out hz2.out rfl (by decide) (.slice (some ⟨w.heap.size, 0, none⟩) 0 0) 0 [] rfl hm0.out a n c (xs.flatMap celE) rfl hfl.out hnews.out h1.out ?c1 ?c2 ?c3 ?_)
    try case c1 => unfold maxLen; omega
    try case c2 => omega
    try case c3 => simp
    intro v' w1 hown hgrow _
    have hb1 := below_append hb0.out hm0.out hgrow (Nat.le_refl _)
    obtain ⟨A', c', rfl⟩ := own_slice hown
    replace hown := Lib.hid hown
    replace hgrow := Lib.hid hgrow
    replace hb1 := Lib.hid hb1
    go_wp2
    go_ret
    exact ⟨A', c', by first | rfl | simp, hown.out, hb1.out⟩
set_option maxRecDepth 100000 in
set_option maxHeartbeats 2000000 in
theorem cloneG_any (A : Option Addr) (n c : Nat) (xs : List Chg) (w : World) (hs : ChgS w A n xs) (hn : n ≤ 100000) :
    Calls Try.prog 35 #[.slice A n c] w (ClonePost chgE 7 56 n xs w) := by
  have heq := fun W => Lib.run_eql_slice_nil (P := Try.prog) W 25 56 A n c 0 0 Try.underlying25
  have hlen := hs.len
  rcases A with _ | a
  · have h0 : n = 0 := by
      rcases Nat.eq_zero_or_pos n with h | h
      · exact h
      · obtain ⟨b, off, e⟩ := hs.addr h; cases e
    subst h0
    have hc : xs = [] := List.length_eq_zero_iff.1 hlen
    subst hc
    replace hs := Lib.hid hs
    replace hlen := Lib.hid hlen
    simp only [Option.isNone_none] at heq
    go_enter Try.func35, Try.ntmps35
    go_wp2
    go_ret
    exact ⟨none, 0, rfl, World.ownsRow_nil _ _ _ _, Below.refl _ _⟩
  · simp only [Option.isNone_some] at heq
    obtain ⟨i0, hi, hz0, hz1, hz2⟩ := info_parts info_chg
    have hm0 := World.ownsRow_made (base := w.heap.size) (e := 56) (size := 7) w #[] 0 (Nat.le_refl _) (by decide) rfl
    have hb0 := ball w (.cells #[] 56)
    have hsk := hs.keep hb0
    have hnews : ∀ j u, (xs.flatMap chgE)[j]? = some u → (w.alloc (.cells #[] 56)).cell? (a.add j) = some u := by
      rcases Nat.eq_zero_or_pos n with h | h
      · have hx : xs = [] := List.length_eq_zero_iff.1 (by omega)
        subst hx
        intro j u hu; simp at hu
      · exact hsk.news chgE_len h
    have h1 := fm_one chgE_one xs
    have hfl : (xs.flatMap chgE).length = n * 7 := by rw [Sk.fm_len chgE 7 chgE_len, hlen]
    replace hi := Lib.hid hi
    replace hz0 := Lib.hid hz0
    replace hz1 := Lib.hid hz1
    replace hz2 := Lib.hid hz2
    replace hs := Lib.hid hs
    replace hlen := Lib.hid hlen
    replace hm0 := Lib.hid hm0
    replace hnews := Lib.hid hnews
    replace h1 := Lib.hid h1
    replace hfl := Lib.hid hfl
    replace hb0 := Lib.hid hb0
    replace hsk := Lib.hid hsk
    go_enter Try.func35, Try.ntmps35
    go_wp2_with (at_builtin; refine wpList_append_own _ rfl _ _ _ rfl w.heap.size 56 i0 (.agg #[.int .i64 0, .bool false, .int .i64 0, .int .i64 0, .int .i64 0, .int .i64 0, .int .i64 0]) 7 56 Try.underlying25 hi.out hz0.out hz1.out hz2.out rfl (by decide) (.slice (some ⟨w.heap.size, 0, none⟩) 0 0) 0 [] rfl hm0.out a n c (xs.flatMap chgE) rfl hfl.out hnews.out h1.out ?c1 ?c2 ?c3 ?_)
    try case c1 => unfold maxLen; omega
    try case c2 => omega
    try case c3 => simp
    intro v' w1 hown hgrow _
    have hb1 := below_append hb0.out hm0.out hgrow (Nat.le_refl _)
    obtain ⟨A', c', rfl⟩ := own_slice hown
    replace hown := Lib.hid hown
    replace hgrow := Lib.hid hgrow
    replace hb1 := Lib.hid hb1
    go_wp2
    go_ret
    exact ⟨A', c', by first | rfl | simp, hown.out, hb1.out⟩
end Sw
end Go.Proofs.Ytdlgdmbcbenlbaa
namespace Go.Proofs.Ytdlgdmbcbenlbaa
open Go Go.RowKit Go.Sort
namespace Sw
open Mm
theorem neq_or (x y : Int) : ((x != y) = true ∧ x ≠ y) ∨ ((x != y) = false ∧ x = y) := by
  by_cases h : x = y
  · exact .inr ⟨by rw [h]; simp, h⟩
  · exact .inl ⟨by simpa using h, h⟩
set_option maxRecDepth 100000 in
set_option maxHeartbeats 4000000 in
theorem less_any (a b : Cel) (w : World) :
    Calls Try.prog 66 #[.agg #[.int .i64 a.slot, .int .i64 a.offset, .int .i64 a.frm, .int .i64 a.to, .int .i64 a.flow], .agg #[.int .i64 b.slot, .int .i64 b.offset, .int .i64 b.frm, .int .i64 b.to, .int .i64 b.flow]] w fun e w' => e = .returned (.bool (decide (cmpC a b < 0))) ∧ Below w.heap.size w w' := by
  have hb2 := ballN (ball w (.cells #[.int .i64 a.slot, .int .i64 a.offset, .int .i64 a.frm, .int .i64 a.to, .int .i64 a.flow] 34)) (.cells #[.int .i64 b.slot, .int .i64 b.offset, .int .i64 b.frm, .int .i64 b.to, .int .i64 b.flow] 34)
  have BX := (Box.new w #[.int .i64 a.slot, .int .i64 a.offset, .int .i64 a.frm, .int .i64 a.to, .int .i64 a.flow] 34).alloc (.cells #[.int .i64 b.slot, .int .i64 b.offset, .int .i64 b.frm, .int .i64 b.to, .int .i64 b.flow] 34)
  have BY := Box.new (w.alloc (.cells #[.int .i64 a.slot, .int .i64 a.offset, .int .i64 a.frm, .int .i64 a.to, .int .i64 a.flow] 34)) #[.int .i64 b.slot, .int .i64 b.offset, .int .i64 b.frm, .int .i64 b.to, .int .i64 b.flow] 34
  rw [size1] at BY
  have hR : decide (cmpC a b < 0) = true ↔ ltC a b := by rw [decide_eq_true_eq, cmpC_lt]
  generalize decide (cmpC a b < 0) = R at *
  obtain ⟨a0, a1, a2, a3, a4⟩ := a
  obtain ⟨b0, b1, b2, b3, b4⟩ := b
  unfold ltC at hR
  dsimp only at *
  have kx := BX.at_
  have ky := BY.at_
  replace hb2 := Lib.hid hb2
  replace BX := Lib.hid BX
  replace BY := Lib.hid BY
  rcases neq_or a0 b0 with ⟨d0, e0⟩ | ⟨d0, rfl⟩
  · have h : Hid (R = decide (a0 < b0)) := by show _ = _; rw [Bool.eq_iff_iff, hR, decide_eq_true_eq]; omega
    clear hR e0
    go_enter Try.func66, Try.ntmps66
    go_wp2
    go_ret
    exact ⟨by rw [h.out]; rfl, hb2.out⟩
  rcases neq_or a1 b1 with ⟨d1, e1⟩ | ⟨d1, rfl⟩
  · have h : Hid (R = decide (a1 < b1)) := by show _ = _; rw [Bool.eq_iff_iff, hR, decide_eq_true_eq]; omega
    clear hR e1
    go_enter Try.func66, Try.ntmps66
    go_wp2
    go_ret
    exact ⟨by rw [h.out]; rfl, hb2.out⟩
  rcases neq_or a2 b2 with ⟨d2, e2⟩ | ⟨d2, rfl⟩
  · have h : Hid (R = decide (a2 < b2)) := by show _ = _; rw [Bool.eq_iff_iff, hR, decide_eq_true_eq]; omega
    clear hR e2
    go_enter Try.func66, Try.ntmps66
    go_wp2
    go_ret
    exact ⟨by rw [h.out]; rfl, hb2.out⟩
  rcases neq_or a3 b3 with ⟨d3, e3⟩ | ⟨d3, rfl⟩
  · have h : Hid (R = decide (a3 < b3)) := by show _ = _; rw [Bool.eq_iff_iff, hR, decide_eq_true_eq]; omega
    clear hR e3
    go_enter Try.func66, Try.ntmps66
    go_wp2
    go_ret
    exact ⟨by rw [h.out]; rfl, hb2.out⟩
  · have h : Hid (R = decide (a4 < b4)) := by show _ = _; rw [Bool.eq_iff_iff, hR, decide_eq_true_eq]; omega
    clear hR
    go_enter Try.func66, Try.ntmps66
    go_wp2
    go_ret
    exact ⟨by rw [h.out]; rfl, hb2.out⟩
set_option maxRecDepth 100000 in
set_option maxHeartbeats 2000000 in
theorem has_any (A : Option Addr) (n cp : Nat) (cs : List Cel) (c : Cel) (w : World) (h : CelS w A n cs) :
    Calls Try.prog 37 #[.slice A n cp, .agg #[.int .i64 c.slot, .int .i64 c.offset, .int .i64 c.frm, .int .i64 c.to, .int .i64 c.flow]] w fun e w' => e = .returned (.bool (decide (c ∈ cs))) ∧ Below w.heap.size w w' := by
  have hlen := h.len
  have hs := h.small
  unfold maxLen at hs
  have hbw := ball w (.cells #[.int .i64 c.slot, .int .i64 c.offset, .int .i64 c.frm, .int .i64 c.to, .int .i64 c.flow] 34)
  have BC := Box.new w #[.int .i64 c.slot, .int .i64 c.offset, .int .i64 c.frm, .int .i64 c.to, .int .i64 c.flow] 34
  have ke := fun d W => eql_cel d c W
  have hmem : Hid (∀ d, eqC d c = decide (d = c)) := fun _ => rfl
  have hR : Hid (decide (c ∈ cs) = decide (c ∈ cs)) := rfl
  generalize eqC = E at *
  obtain ⟨c0, c1, c2, c3, c4⟩ := c
  dsimp only at *
  replace h := Lib.hid h
  replace hlen := Lib.hid hlen
  replace hbw := Lib.hid hbw
  replace BC := Lib.hid BC
  replace ke := Lib.hid ke
  have kb := BC.out.at_
  go_enter Try.func37, Try.ntmps37
  go_wp2_with fail
  clear kb
  generalize w.alloc (.cells #[.int .i64 c0, .int .i64 c1, .int .i64 c2, .int .i64 c3, .int .i64 c4] 34) = w1 at *
  go_loopw [5] (fun i wr => ∃ k : Nat, k ≤ n ∧ i = .int .i64 k ∧ Hid (∀ d ∈ cs.take k, d ≠ (⟨c0, c1, c2, c3, c4⟩ : Cel)) ∧ Hid (Below w1.heap.size w1 wr)) (fun i _ => n - (intOf i).toNat)
  case atStart => exact ⟨0, by omega, rfl, fun d hd => by simp at hd, Below.refl _ _⟩
  case round =>
    obtain ⟨k, hk, rfl, HP, HB⟩ := hrel
    have hB := bthen hbw.out HB.out
    by_cases hlt : k < n
    · obtain ⟨b, off, rfl⟩ := h.out.addr (by omega)
      have hx := cel_at (h.out.keep hB) hlt
      have hk2 := ke.out (cs.getD k default)
      have htk := take_snoc (xs := cs) (k := k) (by rw [hlen.out]; exact hlt)
      have hin : cs.getD k default ∈ cs := ok_at (P := (· ∈ cs)) (fun _ h => h) (by rw [hlen.out]; exact hlt)
      have hme := hmem.out (cs.getD k default)
      generalize cs.getD k default = x at *
      obtain ⟨x0, x1, x2, x3, x4⟩ := x
      obtain ⟨q0, q1, q2, q3, q4⟩ := hx
      dsimp only at q0 q1 q2 q3 q4 hk2
      have g0 := cell_regrown q0
      have g1 := cell_regrown q1
      have g2 := cell_regrown q2
      have g3 := cell_regrown q3
      have g4 := cell_regrown q4
      have BR := BC.out.keep HB.out
      have gx := BR.grown
      have r1 : (k : Int) < (n : Int) := by omega
      generalize E ⟨x0, x1, x2, x3, x4⟩ ⟨c0, c1, c2, c3, c4⟩ = Q at *
      clear q0 q1 q2 q3 q4
      replace htk := Lib.hid htk
      replace hin := Lib.hid hin
      replace hme := Lib.hid hme
      replace BR := Lib.hid BR
      replace hB := Lib.hid hB
      cases Q with
      | true =>
        have hm : Hid (decide ((⟨c0, c1, c2, c3, c4⟩ : Cel) ∈ cs) = true) := by
          have := hme.out
          rw [eq_comm, decide_eq_true_eq] at this
          show _ = _
          rw [← this]; simpa using hin.out
        go_wp2_with fail
        refine wp_region_quiet_below (by kernel_rfl) (by kernel_rfl) ?_
        repeat (go_big_quiet_step (fail))
        refine wpQuiet_nil ?_
        rintro _ ⟨⟨dq, osq⟩, rfl⟩
        have hb_ := below_regrown wr dq osq
        replace HB := Lib.hid (HB.out.keep hb_)
        generalize grow (redrawn wr dq) osq = w2 at *
        clear hb_
        have hB2 := Lib.hid (bthen hbw.out HB.out)
        go_wp2
        go_ret
        exact ⟨by rw [hm.out]; rfl, hB2.out⟩
      | false =>
        have hP2 : Hid (∀ d ∈ cs.take (k + 1), d ≠ (⟨c0, c1, c2, c3, c4⟩ : Cel)) := fun d hd => by
          rw [htk.out, List.mem_append, List.mem_singleton] at hd
          rcases hd with hd | rfl
          · exact HP.out d hd
          · have := hme.out
            rw [eq_comm, decide_eq_false_iff_not] at this
            exact this
        go_wp2_with fail
        refine wp_region_quiet_below (by kernel_rfl) (by kernel_rfl) ?_
        repeat (go_big_quiet_step (fail))
        refine wpQuiet_nil ?_
        rintro _ ⟨⟨dq, osq⟩, rfl⟩
        have hb_ := below_regrown wr dq osq
        replace HB := Lib.hid (HB.out.keep hb_)
        generalize grow (redrawn wr dq) osq = w2 at *
        clear hb_
        go_wp2
        go_roundw
        case rel => exact ⟨k + 1, by omega, by go_num, hP2, HB⟩
        case measure => simp [intOf]; omega
    · obtain rfl : k = n := by omega
      have hm : Hid (decide ((⟨c0, c1, c2, c3, c4⟩ : Cel) ∈ cs) = false) := by
        have := HP.out
        rw [List.take_of_length_le (by rw [hlen.out]; exact Nat.le_refl _)] at this
        show _ = _
        rw [decide_eq_false_iff_not]
        exact fun h => this _ h rfl
      replace hB := Lib.hid hB
      go_wp2
      go_ret
      exact ⟨by rw [hm.out]; rfl, hB.out⟩
end Sw
end Go.Proofs.Ytdlgdmbcbenlbaa
