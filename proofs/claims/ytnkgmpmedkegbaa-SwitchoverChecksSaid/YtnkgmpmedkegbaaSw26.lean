/- Duties. -/
import Derived.Test.YtnkgmpmedkegbaaSw25
namespace Go.Proofs.Ytnkgmpmedkegbaa
open Go Go.RowKit Go.Sort Go.Shelf Go.Lib
namespace Sw
open Mm
theorem rows_ne {w : World} {b1 b2 s1 s2 n1 n2 : Nat} {e1 e2 : TypeId} {v1 v2 : Value} {xs1 xs2 : List Value} (h1 : w.ownsRow b1 e1 s1 v1 n1 xs1) (h2 : w.ownsRow b2 e2 s2 v2 n2 xs2) (hne : e1 ≠ e2) : v1.ownBlock = none ∨ v1.ownBlock ≠ v2.ownBlock := by
  rcases h1.2 with ⟨rfl, _⟩ | ⟨g1, c1, cur1, rfl, _, hg1, _⟩
  · exact .inl rfl
  · refine .inr fun e => ?_
    rcases h2.2 with ⟨rfl, _⟩ | ⟨g2, c2, cur2, rfl, _, hg2, _⟩
    · simp [Value.ownBlock] at e
    · simp only [Value.ownBlock, Option.some.injEq] at e
      subst e
      rw [hg1] at hg2
      injection hg2 with hg2
      injection hg2 with _ h
      exact hne h
theorem row_ne_blk {w : World} {b e s n B : Nat} {t : TypeId} {v : Value} {xs : List Value} {C : Array Value} (h : w.ownsRow b e s v n xs) (k : Blk w B C t) (hne : e ≠ t) : v.ownBlock ≠ some B := by
  rcases h.2 with ⟨rfl, _⟩ | ⟨g, c, cur, rfl, _, hg, _⟩
  · simp [Value.ownBlock]
  · intro e2
    simp only [Value.ownBlock, Option.some.injEq] at e2
    subst e2
    rw [k.at_] at hg
    injection hg with hg
    injection hg with _ h
    exact hne h.symm
def DutiesPost (all : List Dut) (w : World) (e : Ending) (w' : World) : Prop := ∃ (d' : List Dut) (A : Option Addr) (c : Nat), e = .returned (.tuple #[.slice A d'.length c, .int .i64 0]) ∧ d'.Perm all ∧ d'.Pairwise (fun x y => ltOf cmpD y x = false) ∧ w'.ownsRow w.heap.size 45 9 (.slice A d'.length c) d'.length (d'.flatMap dutE) ∧ Below w.heap.size w w'
theorem eDu1 : ∀ args w, (callFunc 46 args).run Try.prog w = .ok (.enter 46 args) w := enters_of Try.func46 (by kernel_rfl) rfl
theorem flatMap_take_succ {α β : Type} [Inhabited α] (f : α → List β) (xs : List α) (k : Nat) (h : k < xs.length) : (xs.take (k + 1)).flatMap f = (xs.take k).flatMap f ++ f (xs.getD k default) := by
  rw [take_snoc h, List.flatMap_append]; simp
def CptC (CC : List Cel) (A : Option Addr) (c base : Nat) (w : World) (ob : Option Nat) (e : Ending) (w' : World) : Prop := e = .returned (.slice A CC.length c) ∧ w'.ownsRow base 34 5 (.slice A CC.length c) CC.length (CC.flatMap celE) ∧ w.grownBy w' ob
theorem cmpD_lays (blk size : Nat) (w : World) : CmpLays Try.prog 46 #[] dutE 9 cmpD blk 0 size w := by
  intro m os dk _ x y
  exact dutCmp_any x y _
theorem dutiesC_pos (c : Cel) (node L : Int) (t : Int × Int) : 0 < (dutiesC c node L t).length := by
  unfold dutiesC; split <;> simp
set_option maxRecDepth 100000 in
set_option maxHeartbeats 8000000 in
theorem Duties_ok (L O : Int) (A : Option Addr) (n cp : Nat) (cs : List Cel) (B : Option Addr) (m cq : Nat) (l : List Chg) (node : Int) (w : World) (h1 : CelS w A n cs) (h2 : ChgS w B m l) (ok1 : ∀ c ∈ cs, c.ok) (ok2 : ∀ x ∈ l, x.cell.ok)
    (hk : chkN L O cs l = (-1, 0)) (hR : Right L O cs l) (hnode : 0 ≤ node ∧ node < 32) :
    Calls Try.prog 17 #[.agg #[.int .i64 L, .int .i64 O, .slice A n cp], .slice B m cq, .int .i64 node] w (DutiesPost (allD L cs l node) w) := by
  obtain ⟨i0, hi, hz0, hz1, hz2⟩ := info_parts info_dut
  obtain ⟨j0, hj, hy0, hy1, hy2⟩ := info_parts info_cel
  have hl1 := h1.len
  have hl2 := h2.len
  have hfew := hR.few
  obtain ⟨hL1, hL2, hO1, hO2, hcl⟩ := hR.len
  obtain ⟨hn1, hn2⟩ := hnode
  have BX := Box.new w #[.int .i64 L, .int .i64 O, .slice A n cp] 24
  have hbw := ball w (.cells #[.int .i64 L, .int .i64 O, .slice A n cp] 24)
  have cK := check_any L O A n cp cs B m cq l _ (h1.keep hbw) (h2.keep hbw) ok1 ok2
  rw [hk] at cK
  have cT := fun c W (k1 : CelS W A n cs) (k2 : ChgS W B m l) => times_any L O A n cp cs B m cq l c W k1 k2 (ends_of (hR.okL c)) (by omega)
  have hbd := fun c p (hp : p ∈ timesC cs l c) => hR.bd hp
  have hsz1 := size1 w (.cells #[.int .i64 L, .int .i64 O, .slice A n cp] 24)
  have hC0 : cs ++ (l.take 0).map (fun x => x.cell) = cs := by simp
  have hCs := fun k (hk : k < m) => show cs ++ (l.take (k + 1)).map (fun x => x.cell) = (cs ++ (l.take k).map (fun x => x.cell)) ++ [(l.getD k default).cell] by rw [take_snoc (by omega), List.map_append, List.append_assoc]; rfl
  have hCl := fun k (hk : k ≤ m) => show (cs ++ (l.take k).map (fun x => x.cell)).length ≤ 2000 by rw [List.length_append, List.length_map, List.length_take]; omega
  have hCn : cpL (sortC (cs ++ (l.take m).map (fun x => x.cell))) = cellsC cs l := by unfold cellsC; rw [List.take_of_length_le (by omega)]
  have hcc : (cellsC cs l).length ≤ 2000 := by
    unfold cellsC
    have := cpL_len (sortC (cs ++ l.map fun x => x.cell))
    have e := (sortC_perm (cs ++ l.map fun x => x.cell)).length_eq
    rw [e, List.length_append, List.length_map] at this
    omega
  have hall : allD L cs l node = (cellsC cs l).flatMap (cellD L cs l node) := rfl
  have hpost : ∀ (d' : List Dut) A c w', d'.Perm (allD L cs l node) → d'.Pairwise (fun x y => ltOf cmpD y x = false) → w'.ownsRow w.heap.size 45 9 (.slice A (allD L cs l node).length c) (allD L cs l node).length (d'.flatMap dutE) → Below w.heap.size w w' → DutiesPost (allD L cs l node) w (.returned (.tuple #[.slice A (allD L cs l node).length c, .int .i64 0])) w' := fun d' A c w' h1 h2 h3 h4 => by
    rw [← h1.length_eq] at h3 ⊢
    exact ⟨d', A, c, rfl, h1, h2, h3, h4⟩
  have hG0 : ((cellsC cs l).take 0).flatMap (cellD L cs l node) = [] := rfl
  have hGs := fun k (hk : k < (cellsC cs l).length) => flatMap_take_succ (cellD L cs l node) (cellsC cs l) k hk
  have hGl := fun k (hk : k ≤ (cellsC cs l).length) => Nat.le_trans (flatMap_len (cellD L cs l node) 3075 (fun c => cellD_len L cs l node (by omega) c) ((cellsC cs l).take k)) (by rw [List.length_take]; omega : ((cellsC cs l).take k).length * 3075 ≤ 6150000)
  have hGn : ((cellsC cs l).take (cellsC cs l).length).flatMap (cellD L cs l node) = allD L cs l node := by rw [List.take_length]; rfl
  have hD1 : ∀ c : Cel, c.frm ≠ node ∧ c.to ≠ node → cellD L cs l node c = [] := fun c h => by unfold cellD; rw [if_pos h]
  have hD2 : ∀ c : Cel, ¬ (c.frm ≠ node ∧ c.to ≠ node) → cellD L cs l node c = (timesC cs l c).flatMap (dutiesC c node L) := fun c h => by unfold cellD; rw [if_neg h]
  have hTl : ∀ c : Cel, (timesC cs l c).length ≤ 1025 := fun c => by have := timesC_len cs c l.length l rfl; omega
  generalize allD L cs l node = AD at *
  generalize hGG : (fun k => ((cellsC cs l).take k).flatMap (cellD L cs l node)) = G at *
  have hG0' : G 0 = [] := by rw [← hGG]; exact hG0
  have hGs' : ∀ k, k < (cellsC cs l).length → G (k + 1) = G k ++ cellD L cs l node ((cellsC cs l).getD k default) := fun k hk => by rw [← hGG]; exact hGs k hk
  have hGl' : ∀ k, k ≤ (cellsC cs l).length → (G k).length ≤ 6150000 := fun k hk => by rw [← hGG]; exact hGl k hk
  have hGn' : G (cellsC cs l).length = AD := by rw [← hGG]; exact hGn
  clear hG0 hGs hGl hGn hGG hall
  generalize cellD L cs l node = CD at *
  generalize hCC : (fun k => cs ++ (l.take k).map (fun x => x.cell)) = CF at *
  have hC0' : CF 0 = cs := by rw [← hCC]; exact hC0
  have hCs' : ∀ k, k < m → CF (k + 1) = CF k ++ [(l.getD k default).cell] := fun k hk => by rw [← hCC]; exact hCs k hk
  have hCl' : ∀ k, k ≤ m → (CF k).length ≤ 2000 := fun k hk => by rw [← hCC]; exact hCl k hk
  have hCn' : cpL (sortC (CF m)) = cellsC cs l := by rw [← hCC]; exact hCn
  clear hC0 hCs hCl hCn hCC
  generalize cellsC cs l = CC at *
  generalize hTT : timesC cs l = TF at *
  have hn100 : n ≤ 100000 := by omega
  replace h1 := Lib.hid h1
  replace h2 := Lib.hid h2
  replace hl1 := Lib.hid hl1
  replace hl2 := Lib.hid hl2
  replace BX := Lib.hid BX
  replace hbw := Lib.hid hbw
  replace cK := Lib.hid cK
  replace cT := Lib.hid cT
  replace hbd := Lib.hid hbd
  replace hsz1 := Lib.hid hsz1
  replace hcc := Lib.hid hcc
  replace hpost := Lib.hid hpost
  replace hG0' := Lib.hid hG0'
  replace hGs' := Lib.hid hGs'
  replace hGl' := Lib.hid hGl'
  replace hGn' := Lib.hid hGn'
  replace hC0' := Lib.hid hC0'
  replace hCs' := Lib.hid hCs'
  replace hCl' := Lib.hid hCl'
  replace hCn' := Lib.hid hCn'
  replace hD1 := Lib.hid hD1
  replace hD2 := Lib.hid hD2
  replace hTl := Lib.hid hTl
  replace hi := Lib.hid hi
  replace hz0 := Lib.hid hz0
  replace hz1 := Lib.hid hz1
  replace hz2 := Lib.hid hz2
  replace hj := Lib.hid hj
  replace hy0 := Lib.hid hy0
  replace hy1 := Lib.hid hy1
  replace hy2 := Lib.hid hy2
  replace ok1 := Lib.hid ok1
  replace ok2 := Lib.hid ok2
  replace hk := Lib.hid hk
  replace hR := Lib.hid hR
  replace hTT := Lib.hid hTT
  go_enter Try.func17, Try.ntmps17
  have kx := BX.out.at_
  go_wp2_with fail
  generalize w.alloc (.cells #[.int .i64 L, .int .i64 O, .slice A n cp] 24) = w0 at *
  refine cK.out.mono ?_
  rintro e w1 ⟨rfl, hb_⟩
  have HB1 := Lib.hid hb_
  have kx2 := (BX.out.keep hb_).at_
  clear hb_ kx cK
  have cCl := cloneC_any A n cp cs w1 (h1.out.keep (bthen hbw.out HB1.out)) hn100
  replace cCl := Lib.hid cCl
  go_wp2_with fail
  refine cCl.out.mono ?_
  rintro e w2 ⟨A2, c2, rfl, ho2, hb_⟩
  have HB2 := Lib.hid (bthen HB1.out hb_)
  have HO2 := Lib.hid (own_base ho2 HB1.out.size)
  clear ho2 hb_ kx2 cCl HB1
  have hO20 : Hid (∃ v, v = (.slice A2 n c2 : Value) ∧ w2.ownsRow w0.heap.size 34 5 v (CF 0).length ((CF 0).flatMap celE)) := ⟨_, rfl, by rw [hC0'.out, hl1.out]; exact HO2.out⟩
  clear HO2
  have hl2m : m ≤ 1024 := by rw [← hl2.out]; exact hfew
  go_wp2_with fail
  go_loopw [10, 38] (fun s10 i wr => ∃ (k : Nat) (v : Value), k ≤ m ∧ i = .int .i64 k ∧ v = s10 ∧ Hid (wr.ownsRow w0.heap.size 34 5 v (CF k).length ((CF k).flatMap celE)) ∧ Hid (Below w0.heap.size w0 wr)) (fun _ i _ => m - (intOf i).toNat)
  case atStart =>
    obtain ⟨v, rfl, hv⟩ := hO20.out
    exact ⟨0, _, by omega, rfl, rfl, hv, HB2⟩
  case round =>
    obtain ⟨k, v, hkm, rfl, rfl, HO, HB⟩ := hrel
    clear hO20 HB2
    by_cases hlt : k < m
    · obtain ⟨b, off, rfl⟩ := h2.out.addr (by omega)
      have hx := chg_at (h2.out.keep (bthen hbw.out HB.out)) hlt
      have hcs := hCs'.out k hlt
      have hcl2 := hCl'.out k hkm
      generalize l.getD k default = x at *
      have HN1 : Hid ((CF (k + 1)).length = (CF k).length + 1) := by show _ = _; rw [hcs]; simp
      have HN2 : Hid ((CF (k + 1)).flatMap celE = (CF k).flatMap celE ++ [.int .i64 x.cell.slot, .int .i64 x.cell.offset, .int .i64 x.cell.frm, .int .i64 x.cell.to, .int .i64 x.cell.flow]) := by show _ = _; rw [hcs, List.flatMap_append]; simp [celE]
      clear hcs
      obtain ⟨x0, x1, ⟨y0, y1, y2, y3, y4⟩⟩ := x
      obtain ⟨q0, q1, q2, q3, q4, q5, q6⟩ := hx
      dsimp only at q0 q1 q2 q3 q4 q5 q6 HN2
      have BXx := Box.new wr #[.int .i64 x0, .bool x1, .int .i64 y0, .int .i64 y1, .int .i64 y2, .int .i64 y3, .int .i64 y4] 56
      have HBb := ballN HB.out (.cells #[.int .i64 x0, .bool x1, .int .i64 y0, .int .i64 y1, .int .i64 y2, .int .i64 y3, .int .i64 y4] 56)
      have HOb := HO.out.alloc (.cells #[.int .i64 x0, .bool x1, .int .i64 y0, .int .i64 y1, .int .i64 y2, .int .i64 y3, .int .i64 y4] 56)
      have r1 : (k : Int) < (m : Int) := by omega
      have kx := BXx.at_
      replace BXx := Lib.hid BXx
      replace HBb := Lib.hid HBb
      replace HOb := Lib.hid HOb
      clear HO HB
      go_upto_region 10 with fail
      clear q0 q1 q2 q3 q4 q5 q6 kx
      generalize hB' : wr.heap.size = Bx at *
      generalize wr.alloc (.cells #[.int .i64 x0, .bool x1, .int .i64 y0, .int .i64 y1, .int .i64 y2, .int .i64 y3, .int .i64 y4] 56) = wb at *
      have kx := BXx.out.at_
      have HOa := HOb.out.alloc (.cells #[.int .i64 y0, .int .i64 y1, .int .i64 y2, .int .i64 y3, .int .i64 y4] 34)
      have HBa := ballN HBb.out (.cells #[.int .i64 y0, .int .i64 y1, .int .i64 y2, .int .i64 y3, .int .i64 y4] 34)
      have hnews := World.news_of_block (Blk.new wb #[.int .i64 y0, .int .i64 y1, .int .i64 y2, .int .i64 y3, .int .i64 y4] 34).at_
      have hs3 := HBb.out.size
      generalize (CF k).flatMap celE = XF at *
      generalize (CF k).length = q at *
      replace HOa := Lib.hid HOa
      replace HBa := Lib.hid HBa
      replace hnews := Lib.hid hnews
      replace hB' := Lib.hid hB'
      go_wp2_with (at_builtin; refine wpList_append_lies _ rfl _ _ _ rfl w0.heap.size 34 j0 (.agg #[.int .i64 0, .int .i64 0, .int .i64 0, .int .i64 0, .int .i64 0]) 5 40 Try.underlying22 hj.out hy0.out hy1.out hy2.out rfl (by decide) v q _ rfl HOa.out ⟨wb.heap.size, 0, none⟩ 1 1 [.int .i64 y0, .int .i64 y1, .int .i64 y2, .int .i64 y3, .int .i64 y4] rfl rfl ?c1 ?c2 (by decide) ?c3 ?c4 ?c5 (wb.heap.size + 1) ?c6 ?_)
      try case c1 => exact hnews.out
      try case c2 => simp [Value.oneCell']
      try case c3 => unfold maxLen; omega
      try case c4 => omega
      try case c5 => first | omega | (simp; omega)
      try case c6 => first | rfl | simp
      intro g cap w5 hown1 hgrow1 hat1 hlt1
      have HO5 : Hid (w5.ownsRow w0.heap.size 34 5 (.slice (some ⟨g, 0, none⟩) (q + 1) cap) (CF (k + 1)).length ((CF (k + 1)).flatMap celE)) := by
        show World.ownsRow _ _ _ _ _ _ _
        rw [HN1.out, HN2.out]; exact hown1
      have HB5 := Lib.hid (below_append HBa.out HOa.out hgrow1 (Nat.le_refl _))
      clear hown1 hgrow1 hat1 kx
      go_wp2
      go_roundw
      case rel => exact ⟨k + 1, _, by omega, by go_num, rfl, HO5, HB5⟩
      case measure => simp [intOf]; omega
    · obtain rfl : k = m := by omega
      obtain ⟨A3, c3, rfl⟩ := own_slice HO.out
      have cS := sortC_any (CF k) A3 c3 w0.heap.size wr HO.out (by have := hCl'.out k (Nat.le_refl _); omega)
      have hsl : Hid ((sortC (CF k)).length = (CF k).length) := (sortC_perm (CF k)).length_eq
      have hcl2 := hCl'.out k (Nat.le_refl _)
      have hcn := hCn'.out
      generalize CF k = C0 at *
      replace cS := Lib.hid cS
      replace hcn := Lib.hid hcn
      go_wp2_with fail
      refine cS.out.mono ?_
      rintro e w3 ⟨rfl, ho3, hbb⟩
      have HB3 := Lib.hid (hbb w0 HB.out (Nat.le_refl _))
      have cP := compactC_any A3 C0.length c3 w0.heap.size (sortC C0) w3 ho3 (by omega)
      have hPp : ∀ e w', CptPost celE 34 5 A3 C0.length c3 w0.heap.size (sortC C0) w3 e w' → CptC CC A3 c3 w0.heap.size w3 (Value.slice A3 C0.length c3).ownBlock e w' := fun e w' ⟨mm, e1, e2, e3, e4⟩ => by
        rw [hcn.out] at e2 e3
        subst e2
        exact ⟨e1, e3, e4⟩
      have hbl := Lib.hid ho3.lt
      generalize (Value.slice A3 C0.length c3).ownBlock = ob at *
      generalize CptPost celE 34 5 A3 C0.length c3 w0.heap.size (sortC C0) w3 = PP at *
      generalize sortC C0 = C1 at *
      generalize C0.length = n0 at *
      clear hbb HO HB
      replace cP := Lib.hid cP
      replace ho3 := Lib.hid ho3
      replace hPp := Lib.hid hPp
      go_wp2_with fail
      refine cP.out.mono ?_
      rintro e w4 hpp
      obtain ⟨rfl, ho4, hg4⟩ := hPp.out _ _ hpp
      have HB4 := Lib.hid (HB3.out.grown hg4 HB3.out.size (fun q hq => (hbl.out q hq).1))
      have HC4 := Lib.hid (Sls.of_owns celE_len ho4 rfl).2
      clear hpp ho4 hg4 ho3 HB3 hbl cP hPp
      clear hcn cS
      have hO0 : Hid (∃ v, v = (.slice none 0 0 : Value) ∧ w4.ownsRow w4.heap.size 45 9 v (G 0).length ((G 0).flatMap dutE)) := ⟨_, rfl, by rw [hG0'.out]; exact World.ownsRow_nil _ _ _ _⟩
      obtain ⟨nc, hnc⟩ : ∃ nc, nc = CC.length := ⟨_, rfl⟩
      rw [← hnc] at HC4
      have hnc2 : nc ≤ 2000 := by rw [hnc]; exact hcc.out
      rw [← hnc]
      replace hnc := Lib.hid hnc
      go_wp2_with fail
      go_loopw [13, 53, 72] (fun s13 i _ wr => ∃ (k : Nat) (v : Value), k ≤ nc ∧ i = .int .i64 k ∧ v = s13 ∧ Hid (wr.ownsRow w4.heap.size 45 9 v (G k).length ((G k).flatMap dutE)) ∧ Hid (Below w4.heap.size w4 wr)) (fun _ i _ _ => nc - (intOf i).toNat)
      case atStart =>
        obtain ⟨v, rfl, hv⟩ := hO0.out
        exact ⟨0, _, by omega, rfl, rfl, hv, Below.refl _ _⟩
      case round =>
        obtain ⟨q, v, hqn, rfl, rfl, HO, HB⟩ := hrel
        clear hO0
        have HBw := Lib.hid (bthen HB4.out HB.out)
        have HB0 := Lib.hid (bthen hbw.out HBw.out)
        by_cases hlt : q < nc
        · obtain ⟨b, off, rfl⟩ := HC4.out.addr (by omega)
          have hx := cel_at (HC4.out.keep HB.out) hlt
          have hgs := hGs'.out q (by rw [← hnc.out]; exact hlt)
          have hgl := hGl'.out q (by rw [← hnc.out]; exact hqn)
          have hd1 := hD1.out (CC.getD q default)
          have hd2 := hD2.out (CC.getD q default)
          have hct := cT.out (CC.getD q default)
          have hbdc := hbd.out (CC.getD q default)
          have htl := hTl.out (CC.getD q default)
          generalize hcc' : CC.getD q default = c at *
          have hdu := fun (t : Int × Int) W (h3 : t ∈ TF c) => duties_any c node L t W ⟨hL1, hL2⟩ ⟨(hbdc t h3).1, (hbdc t h3).2.1⟩ ⟨(hbdc t h3).2.2.1, (hbdc t h3).2.2.2.1⟩
          generalize hTc : TF c = T at *
          have hHs := fun j (hj : j < T.length) => flatMap_take_succ (dutiesC c node L) T j hj
          have hHn : (T.take T.length).flatMap (dutiesC c node L) = T.flatMap (dutiesC c node L) := by rw [List.take_length]
          have hHl := fun j (hj : j ≤ T.length) => Nat.le_trans (flatMap_len (dutiesC c node L) 3 (dutiesC_len c node L) (T.take j)) (by rw [List.length_take]; omega : (T.take j).length * 3 ≤ 3075)
          have hdp := dutiesC_pos c node L
          have hdl := dutiesC_len c node L
          generalize hDC : dutiesC c node L = DC at *
          obtain ⟨y0, y1, y2, y3, y4⟩ := c
          obtain ⟨q0, q1, q2, q3, q4⟩ := hx
          dsimp only at q0 q1 q2 q3 q4 hd1 hd2 hct hdu
          have BC := Blk.new wr #[.int .i64 y0, .int .i64 y1, .int .i64 y2, .int .i64 y3, .int .i64 y4] 34
          have HBb := ballN HB.out (.cells #[.int .i64 y0, .int .i64 y1, .int .i64 y2, .int .i64 y3, .int .i64 y4] 34)
          have HOb := HO.out.alloc (.cells #[.int .i64 y0, .int .i64 y1, .int .i64 y2, .int .i64 y3, .int .i64 y4] 34)
          have hbb := ball wr (.cells #[.int .i64 y0, .int .i64 y1, .int .i64 y2, .int .i64 y3, .int .i64 y4] 34)
          have kx := BC.cell
          have kb := ((BX.out.keep HBw.out).keep hbb).at_
          have r1 : (q : Int) < (nc : Int) := by omega
          replace BC := Lib.hid BC
          replace HBb := Lib.hid HBb
          replace HOb := Lib.hid HOb
          replace hct := Lib.hid hct
          replace hdu := Lib.hid hdu
          replace hHs := Lib.hid hHs
          replace hHn := Lib.hid hHn
          replace hHl := Lib.hid hHl
          replace hdp := Lib.hid hdp
          replace hdl := Lib.hid hdl
          replace hDC := Lib.hid hDC
          replace hTc := Lib.hid hTc
          replace hcc' := Lib.hid hcc'
          replace hbdc := Lib.hid hbdc
          replace hgs := Lib.hid hgs
          clear HO hbb
          by_cases hno : y2 ≠ node ∧ y3 ≠ node
          · obtain ⟨c1, c2⟩ := hno
            have hd := hd1 ⟨c1, c2⟩
            have d1 : (y2 != node) = true := by rw [bne_iff_ne]; exact c1
            have d2 : (y3 != node) = true := by rw [bne_iff_ne]; exact c2
            have HO3 : Hid ((wr.alloc (.cells #[.int .i64 y0, .int .i64 y1, .int .i64 y2, .int .i64 y3, .int .i64 y4] 34)).ownsRow w4.heap.size 45 9 v (G (q + 1)).length ((G (q + 1)).flatMap dutE)) := by
              show World.ownsRow _ _ _ _ _ _ _
              rw [hgs.out, hd, List.append_nil]; exact HOb.out
            clear hd1 hd2
            replace hd := Lib.hid hd
            replace c1 := Lib.hid c1
            replace c2 := Lib.hid c2
            go_wp2
            go_roundw
            case rel => exact ⟨q + 1, _, by omega, by go_num, rfl, HO3, HBb⟩
            case measure => simp [intOf]; omega
          · have hd := hd2 hno
            clear hd1 hd2
            replace hd := Lib.hid hd
            go_upto_region 17 with fail
            clear q0 q1 q2 q3 q4
            have HB0b := Lib.hid (ballN HB0.out (.cells #[.int .i64 y0, .int .i64 y1, .int .i64 y2, .int .i64 y3, .int .i64 y4] 34))
            have HBwb := Lib.hid (ballN HBw.out (.cells #[.int .i64 y0, .int .i64 y1, .int .i64 y2, .int .i64 y3, .int .i64 y4] 34))
            generalize hB' : wr.heap.size = Bc at *
            generalize wr.alloc (.cells #[.int .i64 y0, .int .i64 y1, .int .i64 y2, .int .i64 y3, .int .i64 y4] 34) = wb at *
            replace hB' := Lib.hid hB'
            go_cut [66] (fun s66 wx => s66 = .bool false ∧ wx = wb)
            case first =>
              by_cases c1 : y2 = node
              · have d1 : (y2 != node) = false := by rw [bne_eq_false_iff_eq]; exact c1
                replace c1 := Lib.hid c1
                replace hno := Lib.hid hno
                go_wp2_with fail
                go_meet
                exact ⟨rfl, rfl⟩
              · have d1 : (y2 != node) = true := by rw [bne_iff_ne]; exact c1
                have c2 : y3 = node := by
                  rcases Int.lt_trichotomy y3 node with h | h | h
                  · exact absurd ⟨c1, by omega⟩ hno
                  · exact h
                  · exact absurd ⟨c1, by omega⟩ hno
                have d2 : (y3 != node) = false := by rw [bne_eq_false_iff_eq]; exact c2
                replace c1 := Lib.hid c1
                replace c2 := Lib.hid c2
                replace hno := Lib.hid hno
                go_wp2_with fail
                go_meet
                exact ⟨rfl, rfl⟩
            case rest =>
              obtain ⟨rfl, rfl⟩ := hcut
              replace hno := Lib.hid hno
              have ct := hct.out wc (h1.out.keep HB0b.out) (h2.out.keep HB0b.out)
              clear kx kb
              have kx := BC.out.cell
              have kb := (BX.out.keep HBwb.out).at_
              replace ct := Lib.hid ct
              go_wp2_with fail
              refine ct.out.mono ?_
              rintro e w5 ⟨A5, c5, rfl, ho5, hb5⟩
              clear kx kb
              have HO5 : Hid (∃ v', v' = v ∧ w5.ownsRow w4.heap.size 45 9 v' (G q ++ (T.take 0).flatMap DC).length ((G q ++ (T.take 0).flatMap DC).flatMap dutE)) := ⟨v, rfl, by rw [List.take_zero, List.flatMap_nil, List.append_nil]; exact owns_keep HOb.out hb5⟩
              have HB5 := Lib.hid (bthen HBb.out hb5)
              have BC5 := Lib.hid (BC.out.keep hb5)
              have HT5 := Lib.hid ho5
              clear ho5 hb5 HOb HBb BC ct HB0b HBwb
              go_wp2_with fail
              go_loopw [13, 72] (fun s13 i wr2 => ∃ (j : Nat) (v : Value), j ≤ T.length ∧ i = .int .i64 j ∧ v = s13 ∧ Hid (wr2.ownsRow w4.heap.size 45 9 v (G q ++ (T.take j).flatMap DC).length ((G q ++ (T.take j).flatMap DC).flatMap dutE)) ∧ Hid (Below w4.heap.size w4 wr2) ∧ Hid (Blk wr2 Bc #[.int .i64 y0, .int .i64 y1, .int .i64 y2, .int .i64 y3, .int .i64 y4] 34) ∧ Hid (wr2.ownsRow wc.heap.size 42 2 (.slice A5 T.length c5) T.length (T.flatMap prE))) (fun _ i _ => T.length - (intOf i).toNat)
              case atStart =>
                obtain ⟨v', rfl, hv⟩ := HO5.out
                exact ⟨0, _, by omega, rfl, rfl, hv, HB5, BC5, HT5⟩
              case round =>
                clear HO5 HB5 BC5 HT5
                obtain ⟨j, u, hjn, rfl, rfl, HO, HB, BC, HT⟩ := hrel
                by_cases hlj : j < T.length
                · have hP := (Sls.of_owns prE_len HT.out rfl).2
                  obtain ⟨b2, off2, rfl⟩ := hP.addr (by omega)
                  have hx := pr_at hP hlj
                  have hhs := hHs.out j hlj
                  have hhl := hHl.out j hjn
                  have hmem := ok_at (P := (· ∈ T)) (fun _ h => h) hlj
                  have hduj := fun W => hdu.out (T.getD j default) W hmem
                  have hpj := hdp.out (T.getD j default)
                  have hlj3 := hdl.out (T.getD j default)
                  generalize T.getD j default = tj at *
                  have HN1 : Hid ((G q ++ (T.take (j + 1)).flatMap DC).length = (G q ++ (T.take j).flatMap DC).length + (DC tj).length) := by show _ = _; rw [hhs, ← List.append_assoc, List.length_append]
                  have HN2 : Hid ((G q ++ (T.take (j + 1)).flatMap DC).flatMap dutE = (G q ++ (T.take j).flatMap DC).flatMap dutE ++ (DC tj).flatMap dutE) := by show _ = _; rw [hhs, ← List.append_assoc, List.flatMap_append]
                  have hNl : (G q ++ (T.take j).flatMap DC).length ≤ 6153075 := by rw [List.length_append]; omega
                  generalize DC tj = DS at *
                  obtain ⟨t0, t1⟩ := tj
                  obtain ⟨p0, p1⟩ := hx
                  dsimp only at p0 p1 hduj
                  have BT := Box.new wr #[.int .i64 t0, .int .i64 t1] 42
                  have hbb := ball wr (.cells #[.int .i64 t0, .int .i64 t1] 42)
                  have HOb := Lib.hid (HO.out.alloc (.cells #[.int .i64 t0, .int .i64 t1] 42))
                  have HBb := Lib.hid (ballN HB.out (.cells #[.int .i64 t0, .int .i64 t1] 42))
                  have BCb := Lib.hid (BC.out.alloc (.cells #[.int .i64 t0, .int .i64 t1] 42))
                  have HTb := Lib.hid (HT.out.alloc (.cells #[.int .i64 t0, .int .i64 t1] 42))
                  have kt := BT.at_
                  have kc := BCb.out.cell
                  have kb := (BX.out.keep (bthen HB4.out HBb.out)).at_
                  have hd2 := hduj (wr.alloc (.cells #[.int .i64 t0, .int .i64 t1] 42))
                  have r1 : (j : Int) < (T.length : Int) := by omega
                  replace hduj := Lib.hid hduj
                  replace hmem := Lib.hid hmem
                  replace hhs := Lib.hid hhs
                  replace hd2 := Lib.hid hd2
                  replace BT := Lib.hid BT
                  replace hbb := Lib.hid hbb
                  clear HO HB BC HT
                  go_wp2_with fail
                  refine hd2.out.mono ?_
                  rintro e w6 ⟨A6, c6, rfl, ho6, hb6⟩
                  have HO6 := Lib.hid (owns_keep HOb.out hb6)
                  have HB6 := Lib.hid (bthen HBb.out hb6)
                  have BC6 := Lib.hid (BCb.out.keep hb6)
                  have HT6 := Lib.hid (owns_keep HTb.out hb6)
                  have hs6 := HB6.out.size
                  have hfl : (DS.flatMap dutE).length = DS.length * 9 := Sk.fm_len dutE 9 dutE_len DS
                  have hf1 := fm_one dutE_one DS
                  obtain ⟨g6, rfl⟩ : ∃ g6, A6 = some ⟨g6, 0, none⟩ := by
                    rcases ho6.2 with ⟨hv, h0⟩ | ⟨g6, cap6, cur6, hv, _⟩
                    · omega
                    · injection hv with hA _ _; exact ⟨g6, hA⟩
                  have hnews := ho6.cells (g := g6) rfl
                  clear hb6 kt kc kb HOb HBb BCb HTb p0 p1 hP ho6
                  generalize (G q ++ (T.take j).flatMap DC).flatMap dutE = XF at *
                  generalize (G q ++ (T.take j).flatMap DC).length = N at *
                  generalize DS.flatMap dutE = DF at *
                  generalize DS.length = dn at *
                  replace hfl := Lib.hid hfl
                  replace hf1 := Lib.hid hf1
                  replace hnews := Lib.hid hnews
                  replace hd2 := Lib.hid hd2
                  go_wp2_with (at_builtin; refine wpList_append_lies _ rfl _ _ _ rfl w4.heap.size 45 i0 (.agg #[.int .i64 0, .int .i64 0, .int .i64 0, .int .i64 0, .int .i64 0, .bool false, .bool false, .int .i64 0, .int .i64 0]) 9 64 Try.underlying38 hi.out hz0.out hz1.out hz2.out rfl (by decide) u N _ rfl HO6.out ⟨g6, 0, none⟩ dn c6 DF rfl hfl.out ?d1 ?d2 ?d3 ?d4 ?d5 ?d6 w6.heap.size rfl ?_)
                  try case d1 => exact hnews.out
                  try case d2 => exact hf1.out
                  try case d3 => exact hpj
                  try case d4 => unfold maxLen; omega
                  try case d5 => omega
                  try case d6 => exact hs6
                  intro g cap w7 hown1 hgrow1 hat1 hlt1
                  have HO7 : Hid (w7.ownsRow w4.heap.size 45 9 (.slice (some ⟨g, 0, none⟩) (N + dn) cap) (G q ++ (T.take (j + 1)).flatMap DC).length ((G q ++ (T.take (j + 1)).flatMap DC).flatMap dutE)) := by
                    show World.ownsRow _ _ _ _ _ _ _
                    rw [HN1.out, HN2.out]; exact hown1
                  have HB7 := Lib.hid (below_append HB6.out HO6.out hgrow1 (Nat.le_refl _))
                  have BC7 := Lib.hid (BC6.out.grown hgrow1 (row_ne_blk HO6.out BC6.out (by decide)))
                  have HT7 := Lib.hid (HT6.out.kept hgrow1 (rows_ne HT6.out HO6.out (by decide)))
                  clear hown1 hgrow1 hat1 HO6 HB6 BC6 HT6
                  go_wp2
                  go_roundw
                  case rel => exact ⟨j + 1, _, by omega, by go_num, rfl, HO7, HB7, BC7, HT7⟩
                  case measure => simp [intOf]; omega
                · obtain rfl : j = T.length := by omega
                  have HO8 : Hid (wr.ownsRow w4.heap.size 45 9 u (G (q + 1)).length ((G (q + 1)).flatMap dutE)) := by
                    show World.ownsRow _ _ _ _ _ _ _
                    rw [hgs.out, hd.out, ← hHn.out]; exact HO.out
                  clear HO
                  go_wp2
                  go_roundw
                  case rel => exact ⟨q + 1, _, by omega, by go_num, rfl, HO8, HB⟩
                  case measure => simp [intOf]; omega
        · obtain rfl : q = nc := by omega
          obtain ⟨A7, c7, rfl⟩ := own_slice HO.out
          have hHO := HO.out
          have hgn := hGn'.out
          have hgl := hGl'.out q (by rw [← hnc.out]; exact Nat.le_refl _)
          rw [← hnc.out] at hgn
          rw [hgn] at hHO hgl
          have cS := sortStable_any cmpD swoD 46 #[] eDu1 AD A7 c7 w4.heap.size wr hHO (by omega) (fun blk _ _ => cmpD_lays blk _ _)
          rw [hgn]
          replace cS := Lib.hid cS
          replace hgn := Lib.hid hgn
          clear hHO HO
          go_wp2_with fail
          refine cS.out.mono ?_
          rintro e w8 ⟨rfl, d', hp, hpw, ho, hbb⟩
          have hF := hpost.out d' A7 c7 w8 hp hpw (own_base ho (by have := HB4.out.size; have := hsz1.out; omega)) (bthen hbw.out (bthen HB4.out (hbb w4 HB.out (Nat.le_refl _))))
          replace hF := Lib.hid hF
          replace hp := Lib.hid hp
          replace ho := Lib.hid ho
          replace hbb := Lib.hid hbb
          replace hpw := Lib.hid hpw
          go_wp2
          refine bodyPost_ret (v := .tuple #[.slice A7 AD.length c7, .int .i64 0]) (by simp [results, Try.results17, go_sem]) rfl hF.out
end Sw
end Go.Proofs.Ytnkgmpmedkegbaa
