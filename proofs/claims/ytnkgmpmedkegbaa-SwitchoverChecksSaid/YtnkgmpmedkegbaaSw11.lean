/- duties. -/
import Derived.Test.YtnkgmpmedkegbaaSw10
import Derived.Test.YtnkgmpmedkegbaaSortK
namespace Go.Proofs.Ytnkgmpmedkegbaa
open Go Go.RowKit Go.Sort
namespace Sw
open Mm
def dutA (c : Cel) (s x : Bool) (f u : Int) : Dut := ⟨c, s, x, f, u⟩
def dut1 (c : Cel) (L : Int) (t : Int × Int) : List Dut := if t.1 = 0 then [] else [⟨c, false, true, max (t.1 - L) 0, t.1⟩]
def dut2 (c : Cel) (L : Int) (t : Int × Int) : List Dut := if t.2 = -1 then [] else [⟨c, false, true, t.2, t.2 + L⟩]
def dutiesC (c : Cel) (node L : Int) (t : Int × Int) : List Dut := if c.frm = node then [⟨c, true, false, t.1, t.2⟩] else [⟨c, false, false, t.1, t.2⟩] ++ dut1 c L t ++ dut2 c L t
theorem info_dut : (Try.prog.info? 45).map (fun i => (i.zero, i.size, i.bytes)) = some (some (.agg #[.int .i64 0, .int .i64 0, .int .i64 0, .int .i64 0, .int .i64 0, .bool false, .bool false, .int .i64 0, .int .i64 0]), 9, 64) := by kernel_rfl
theorem own_one {α : Type} (enc : α → List Value) (k : Nat) (hk : ∀ x, (enc x).length = k) (w : World) (T : TypeId) (x : α) :
    (w.alloc (.cells (enc x).toArray T)).ownsRow w.heap.size T k (.slice (some ⟨w.heap.size, 0, none⟩) 1 1) 1 ([x].flatMap enc) :=
  ⟨by simp [hk], .inr ⟨w.heap.size, 1, _, rfl, Nat.le_refl _, heap_alloc_new w _, Nat.le_refl _, by decide, by simp [hk], by simp [List.take_of_length_le (Nat.le_of_eq (hk x))]⟩⟩
def DutPost (ds : List Dut) (w : World) (e : Ending) (w' : World) : Prop :=
  ∃ A c, e = .returned (.slice A ds.length c) ∧ w'.ownsRow w.heap.size 45 9 (.slice A ds.length c) ds.length (ds.flatMap dutE) ∧ Below w.heap.size w w'
set_option maxRecDepth 100000 in
set_option maxHeartbeats 4000000 in
theorem duties_any (c : Cel) (node L : Int) (t : Int × Int) (w : World) (hL : 1 ≤ L ∧ L ≤ 512) (h1 : 0 ≤ t.1 ∧ t.1 ≤ 4096) (h2 : -1 ≤ t.2 ∧ t.2 ≤ 4096) :
    Calls Try.prog 44 #[.agg #[.int .i64 c.slot, .int .i64 c.offset, .int .i64 c.frm, .int .i64 c.to, .int .i64 c.flow], .int .i64 node, .int .i64 L, .agg #[.int .i64 t.1, .int .i64 t.2]] w (DutPost (dutiesC c node L t) w) := by
  obtain ⟨i0, hi, hz0, hz1, hz2⟩ := info_parts info_dut
  obtain ⟨t1, t2⟩ := t
  obtain ⟨hL1, hL2⟩ := hL
  obtain ⟨h3, h4⟩ := h1
  obtain ⟨h5, h6⟩ := h2
  dsimp only at *
  have hb2 := ballN (ball w (.cells #[.int .i64 c.slot, .int .i64 c.offset, .int .i64 c.frm, .int .i64 c.to, .int .i64 c.flow] 34)) (.cells #[.int .i64 t1, .int .i64 t2] 42)
  have BC := (Box.new w #[.int .i64 c.slot, .int .i64 c.offset, .int .i64 c.frm, .int .i64 c.to, .int .i64 c.flow] 34).alloc (.cells #[.int .i64 t1, .int .i64 t2] 42)
  have BT := Box.new (w.alloc (.cells #[.int .i64 c.slot, .int .i64 c.offset, .int .i64 c.frm, .int .i64 c.to, .int .i64 c.flow] 34)) #[.int .i64 t1, .int .i64 t2] 42
  rw [size1] at BT
  have hR : dutiesC c node L (t1, t2) = if c.frm = node then [⟨c, true, false, t1, t2⟩] else [⟨c, false, false, t1, t2⟩] ++ dut1 c L (t1, t2) ++ dut2 c L (t1, t2) := rfl
  have hD1 : dut1 c L (t1, t2) = if t1 = 0 then [] else [⟨c, false, true, max (t1 - L) 0, t1⟩] := rfl
  have hD2 : dut2 c L (t1, t2) = if t2 = -1 then [] else [⟨c, false, true, t2, t2 + L⟩] := rfl
  generalize dutiesC c node L (t1, t2) = R at *
  generalize dut1 c L (t1, t2) = D1 at *
  generalize dut2 c L (t1, t2) = D2 at *
  have hw2 : w.heap.size ≤ ((w.alloc (.cells #[.int .i64 c.slot, .int .i64 c.offset, .int .i64 c.frm, .int .i64 c.to, .int .i64 c.flow] 34)).alloc (.cells #[.int .i64 t1, .int .i64 t2] 42)).heap.size := by rw [size1, size1]; omega
  obtain ⟨c0, c1, c2, c3, c4⟩ := c
  dsimp only at *
  replace hi := Lib.hid hi
  replace hz0 := Lib.hid hz0
  replace hz1 := Lib.hid hz1
  replace hz2 := Lib.hid hz2
  replace hb2 := Lib.hid hb2
  replace BC := Lib.hid BC
  replace BT := Lib.hid BT
  replace hR := Lib.hid hR
  replace hD1 := Lib.hid hD1
  replace hD2 := Lib.hid hD2
  have kb := BC.out.at_
  have kt := BT.out.at_
  by_cases hcn : c2 = node
  · have hR2 : Hid (R = [⟨⟨c0, c1, c2, c3, c4⟩, true, false, t1, t2⟩]) := by show _ = _; rw [hR.out, if_pos hcn]
    have d : (c2 == node) = true := by simpa using hcn
    clear hR hD1 hD2
    replace hcn := Lib.hid hcn
    have ho := own_one dutE 9 dutE_len ((w.alloc (.cells #[.int .i64 c0, .int .i64 c1, .int .i64 c2, .int .i64 c3, .int .i64 c4] 34)).alloc (.cells #[.int .i64 t1, .int .i64 t2] 42)) 45 ⟨⟨c0, c1, c2, c3, c4⟩, true, false, t1, t2⟩
    have hb3 := ballN hb2.out (.cells (dutE ⟨⟨c0, c1, c2, c3, c4⟩, true, false, t1, t2⟩).toArray 45)
    rw [size1, size1] at ho
    replace ho := Lib.hid ho
    replace hb3 := Lib.hid hb3
    go_enter Try.func44, Try.ntmps44
    go_wp2
    go_ret
    refine ⟨some ⟨w.heap.size + 1 + 1, 0, none⟩, 1, by rw [hR2.out]; rfl, ?_, hb3.out⟩
    rw [hR2.out]
    exact own_base ho.out (by omega)
  have hR2 : Hid (R = [⟨⟨c0, c1, c2, c3, c4⟩, false, false, t1, t2⟩] ++ D1 ++ D2) := by show _ = _; rw [hR.out, if_neg hcn]
  have d : (c2 == node) = false := by rw [beq_eq_false_iff_ne]; exact hcn
  clear hR
  have ho : (((w.alloc (.cells #[.int .i64 c0, .int .i64 c1, .int .i64 c2, .int .i64 c3, .int .i64 c4] 34)).alloc (.cells #[.int .i64 t1, .int .i64 t2] 42)).alloc (.cells #[.int .i64 c0, .int .i64 c1, .int .i64 c2, .int .i64 c3, .int .i64 c4, .bool false, .bool false, .int .i64 t1, .int .i64 t2] 45)).ownsRow w.heap.size 45 9 (.slice (some ⟨w.heap.size + 1 + 1, 0, none⟩) 1 1) 1 ([(⟨⟨c0, c1, c2, c3, c4⟩, false, false, t1, t2⟩ : Dut)].flatMap dutE) := by
    have h := own_one dutE 9 dutE_len ((w.alloc (.cells #[.int .i64 c0, .int .i64 c1, .int .i64 c2, .int .i64 c3, .int .i64 c4] 34)).alloc (.cells #[.int .i64 t1, .int .i64 t2] 42)) 45 ⟨⟨c0, c1, c2, c3, c4⟩, false, false, t1, t2⟩
    rw [size1, size1] at h
    exact own_base h (by omega)
  have hb3 := ballN hb2.out (.cells #[.int .i64 c0, .int .i64 c1, .int .i64 c2, .int .i64 c3, .int .i64 c4, .bool false, .bool false, .int .i64 t1, .int .i64 t2] 45)
  have BC3 := BC.out.alloc (.cells #[.int .i64 c0, .int .i64 c1, .int .i64 c2, .int .i64 c3, .int .i64 c4, .bool false, .bool false, .int .i64 t1, .int .i64 t2] 45)
  have BT3 := BT.out.alloc (.cells #[.int .i64 c0, .int .i64 c1, .int .i64 c2, .int .i64 c3, .int .i64 c4, .bool false, .bool false, .int .i64 t1, .int .i64 t2] 45)
  replace ho := Lib.hid ho
  replace hb3 := Lib.hid hb3
  replace hcn := Lib.hid hcn
  replace BC3 := Lib.hid BC3
  replace BT3 := Lib.hid BT3
  go_enter Try.func44, Try.ntmps44
  go_upto_region 4 with fail
  clear kb kt
  generalize ((w.alloc (.cells #[.int .i64 c0, .int .i64 c1, .int .i64 c2, .int .i64 c3, .int .i64 c4] 34)).alloc (.cells #[.int .i64 t1, .int .i64 t2] 42)).alloc (.cells #[.int .i64 c0, .int .i64 c1, .int .i64 c2, .int .i64 c3, .int .i64 c4, .bool false, .bool false, .int .i64 t1, .int .i64 t2] 45) = w3 at *
  generalize (⟨⟨c0, c1, c2, c3, c4⟩, false, false, t1, t2⟩ : Dut) = x0 at *
  have kt := BT3.out.at_
  have kb := BC3.out.at_
  go_upto_if 30 with fail
  go_cut [9] (fun s9 wx => ∃ (A : Option Addr) (n cp : Nat), n = ([x0] ++ D1).length ∧ s9 = .slice A n cp ∧ Hid (wx.ownsRow w.heap.size 45 9 (.slice A n cp) n (([x0] ++ D1).flatMap dutE)) ∧ Hid (Below w.heap.size w wx) ∧ Hid (Box wx w.heap.size #[.int .i64 c0, .int .i64 c1, .int .i64 c2, .int .i64 c3, .int .i64 c4]) ∧ Hid (Box wx (w.heap.size + 1) #[.int .i64 t1, .int .i64 t2]))
  case first =>
    by_cases h0 : t1 = 0
    · have hD : Hid (D1 = []) := by show _ = _; rw [hD1.out, if_pos h0]
      have d0 : (t1 != 0) = false := by rw [h0]; rfl
      replace h0 := Lib.hid h0
      go_wp2_with fail
      go_meet
      exact ⟨_, 1, 1, by rw [hD.out]; rfl, rfl, by show World.ownsRow _ _ _ _ _ _ _; rw [hD.out, List.append_nil]; exact ho.out, hb3, BC3, BT3⟩
    · have hD : Hid (D1 = [⟨⟨c0, c1, c2, c3, c4⟩, false, true, max (t1 - L) 0, t1⟩]) := by show _ = _; rw [hD1.out, if_neg h0]
      have d0 : (t1 != 0) = true := by rw [bne_iff_ne]; exact h0
      have HOa := ho.out.alloc (.cells #[.int .i64 c0, .int .i64 c1, .int .i64 c2, .int .i64 c3, .int .i64 c4, .bool false, .bool true, .int .i64 (max (t1 - L) 0), .int .i64 t1] 45)
      have HBa := ballN hb3.out (.cells #[.int .i64 c0, .int .i64 c1, .int .i64 c2, .int .i64 c3, .int .i64 c4, .bool false, .bool true, .int .i64 (max (t1 - L) 0), .int .i64 t1] 45)
      have HBb := ball w3 (.cells #[.int .i64 c0, .int .i64 c1, .int .i64 c2, .int .i64 c3, .int .i64 c4, .bool false, .bool true, .int .i64 (max (t1 - L) 0), .int .i64 t1] 45)
      have hnews := World.news_of_block (Blk.new w3 #[.int .i64 c0, .int .i64 c1, .int .i64 c2, .int .i64 c3, .int .i64 c4, .bool false, .bool true, .int .i64 (max (t1 - L) 0), .int .i64 t1] 45).at_
      have hs3 := hb3.out.size
      have e9 : Hid ([x0].flatMap dutE ++ [.int .i64 c0, .int .i64 c1, .int .i64 c2, .int .i64 c3, .int .i64 c4, .bool false, .bool true, .int .i64 (max (t1 - L) 0), .int .i64 t1] = ([x0] ++ D1).flatMap dutE) := by
        show _ = _
        rw [hD.out, List.flatMap_append]
        simp [dutE]
      have kN : ∀ i, (w3.alloc (.cells #[.int .i64 c0, .int .i64 c1, .int .i64 c2, .int .i64 c3, .int .i64 c4, .bool false, .bool true, .int .i64 (max (t1 - L) 0), .int .i64 t1] 45)).cell? ⟨w.heap.size, i, none⟩ = _ := (BC3.out.alloc _).at_
      generalize [x0].flatMap dutE = XF at *
      replace HOa := Lib.hid HOa
      replace HBa := Lib.hid HBa
      replace HBb := Lib.hid HBb
      replace hnews := Lib.hid hnews
      replace h0 := Lib.hid h0
      replace kN := Lib.hid kN
      go_wp2_with (at_builtin; refine wpList_append_lies _ rfl _ _ _ rfl w.heap.size 45 i0 (.agg #[.int .i64 0, .int .i64 0, .int .i64 0, .int .i64 0, .int .i64 0, .bool false, .bool false, .int .i64 0, .int .i64 0]) 9 64 Try.underlying38 hi.out hz0.out hz1.out hz2.out rfl (by decide) (.slice (some ⟨w.heap.size + 1 + 1, 0, none⟩) 1 1) 1 _ rfl HOa.out ⟨w3.heap.size, 0, none⟩ 1 1 [.int .i64 c0, .int .i64 c1, .int .i64 c2, .int .i64 c3, .int .i64 c4, .bool false, .bool true, .int .i64 (max (t1 - L) 0), .int .i64 t1] rfl rfl ?c1 ?c2 (by decide) ?c3 ?c4 ?c5 (w3.heap.size + 1) ?c6 ?_)
      try case c1 => exact hnews.out
      try case c2 => simp [Value.oneCell']
      try case c3 => unfold maxLen; omega
      try case c4 => omega
      try case c5 => first | omega | (simp; omega)
      try case c6 => first | rfl | simp
      intro g cap w4 hown1 hgrow1 hat1 hlt1
      have HO4 : Hid (w4.ownsRow w.heap.size 45 9 (.slice (some ⟨g, 0, none⟩) 2 cap) 2 (([x0] ++ D1).flatMap dutE)) := by show World.ownsRow _ _ _ _ _ _ _; rw [← e9.out]; exact hown1
      have HB4 := Lib.hid (below_append HBa.out HOa.out hgrow1 (Nat.le_refl _))
      have HC4 := Lib.hid ((BC3.out.alloc (.cells #[.int .i64 c0, .int .i64 c1, .int .i64 c2, .int .i64 c3, .int .i64 c4, .bool false, .bool true, .int .i64 (max (t1 - L) 0), .int .i64 t1] 45)).grownM (M := w.heap.size + 1 + 1) hgrow1 (by omega))
      have HT4 := Lib.hid ((BT3.out.alloc (.cells #[.int .i64 c0, .int .i64 c1, .int .i64 c2, .int .i64 c3, .int .i64 c4, .bool false, .bool true, .int .i64 (max (t1 - L) 0), .int .i64 t1] 45)).grownM (M := w.heap.size + 1 + 1) hgrow1 (by omega))
      clear hown1 hgrow1 hat1 kt kb
      go_wp2_with fail
      go_meet
      exact ⟨_, 2, cap, by rw [hD.out]; rfl, rfl, HO4, HB4, HC4, HT4⟩
  case rest =>
    obtain ⟨A9, n9, c9, hn9, rfl, HO, HB, HC, HT⟩ := hcut
    generalize wc = w4 at *
    clear kt kb
    have kt := HT.out.at_
    have kb := HC.out.at_
    have hd1l : D1.length ≤ 1 := by rw [hD1.out]; split <;> simp
    have hn92 : n9 ≤ 2 := by rw [hn9]; simp; omega
    have hRl : Hid (R = ([x0] ++ D1) ++ D2) := hR2
    generalize hDD : [x0] ++ D1 = DD at *
    replace hn9 := Lib.hid hn9
    replace hDD := Lib.hid hDD
    by_cases h0 : t2 = -1
    · have hD : Hid (R = DD) := by show _ = _; rw [hRl.out, hD2.out, if_pos h0, List.append_nil]
      have d0 : (t2 != -1) = false := by rw [h0]; rfl
      replace h0 := Lib.hid h0
      go_wp2
      go_ret
      exact ⟨A9, c9, by rw [hD.out, ← hn9.out]; rfl, by rw [hD.out, ← hn9.out]; exact HO.out, HB.out⟩
    · have hD : Hid (R = DD ++ [⟨⟨c0, c1, c2, c3, c4⟩, false, true, t2, t2 + L⟩]) := by show _ = _; rw [hRl.out, hD2.out, if_neg h0]
      have d0 : (t2 != -1) = true := by rw [bne_iff_ne]; exact h0
      have HOa := HO.out.alloc (.cells #[.int .i64 c0, .int .i64 c1, .int .i64 c2, .int .i64 c3, .int .i64 c4, .bool false, .bool true, .int .i64 t2, .int .i64 (t2 + L)] 45)
      have HBa := ballN HB.out (.cells #[.int .i64 c0, .int .i64 c1, .int .i64 c2, .int .i64 c3, .int .i64 c4, .bool false, .bool true, .int .i64 t2, .int .i64 (t2 + L)] 45)
      have hnews := World.news_of_block (Blk.new w4 #[.int .i64 c0, .int .i64 c1, .int .i64 c2, .int .i64 c3, .int .i64 c4, .bool false, .bool true, .int .i64 t2, .int .i64 (t2 + L)] 45).at_
      have hs4 := HB.out.size
      have e9 : Hid (DD.flatMap dutE ++ [.int .i64 c0, .int .i64 c1, .int .i64 c2, .int .i64 c3, .int .i64 c4, .bool false, .bool true, .int .i64 t2, .int .i64 (t2 + L)] = R.flatMap dutE) := by
        show _ = _
        rw [hD.out, List.flatMap_append]
        simp [dutE]
      have el : Hid (R.length = n9 + 1) := by show _ = _; rw [hD.out, List.length_append, ← hn9.out]; rfl
      generalize DD.flatMap dutE = XF at *
      replace HOa := Lib.hid HOa
      replace HBa := Lib.hid HBa
      replace hnews := Lib.hid hnews
      replace h0 := Lib.hid h0
      go_wp2_with (at_builtin; refine wpList_append_lies _ rfl _ _ _ rfl w.heap.size 45 i0 (.agg #[.int .i64 0, .int .i64 0, .int .i64 0, .int .i64 0, .int .i64 0, .bool false, .bool false, .int .i64 0, .int .i64 0]) 9 64 Try.underlying38 hi.out hz0.out hz1.out hz2.out rfl (by decide) (.slice A9 n9 c9) n9 _ rfl HOa.out ⟨w4.heap.size, 0, none⟩ 1 1 [.int .i64 c0, .int .i64 c1, .int .i64 c2, .int .i64 c3, .int .i64 c4, .bool false, .bool true, .int .i64 t2, .int .i64 (t2 + L)] rfl rfl ?d1 ?d2 (by decide) ?d3 ?d4 ?d5 (w4.heap.size + 1) ?d6 ?_)
      try case d1 => exact hnews.out
      try case d2 => simp [Value.oneCell']
      try case d3 => unfold maxLen; omega
      try case d4 => omega
      try case d5 => first | omega | (simp; omega)
      try case d6 => first | rfl | simp
      intro g cap w5 hown1 hgrow1 hat1 hlt1
      have HO5 : Hid (w5.ownsRow w.heap.size 45 9 (.slice (some ⟨g, 0, none⟩) (n9 + 1) cap) (n9 + 1) (R.flatMap dutE)) := by show World.ownsRow _ _ _ _ _ _ _; rw [← e9.out]; exact hown1
      have HB5 := Lib.hid (below_append HBa.out HOa.out hgrow1 (Nat.le_refl _))
      clear hown1 hgrow1 hat1 kt kb
      go_wp2
      go_ret
      exact ⟨_, cap, by rw [el.out]; rfl, by rw [el.out]; exact HO5.out, HB5.out⟩
end Sw
end Go.Proofs.Ytnkgmpmedkegbaa
