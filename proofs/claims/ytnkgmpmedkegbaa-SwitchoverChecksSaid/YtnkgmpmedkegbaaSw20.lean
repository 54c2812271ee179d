/- hopmeshref52.times. -/
import Derived.Test.YtnkgmpmedkegbaaSw19
namespace Go.Proofs.Ytnkgmpmedkegbaa
open Go Go.RowKit Go.Sort
namespace Sw
open Mm
def closeT (t : List (Int × Int)) (s : Int) : List (Int × Int) := match t.getLast? with
  | none => []
  | some p => t.dropLast ++ [(p.1, s)]
theorem closeT_snoc (t : List (Int × Int)) (p : Int × Int) (s : Int) : closeT (t ++ [p]) s = t ++ [(p.1, s)] := by
  unfold closeT; rw [List.getLast?_concat, List.dropLast_concat]
def stepR (t : List (Int × Int)) (o now : Bool) (s : Int) : List (Int × Int) := if now = true ∧ o = false then t ++ [(s, -1)] else if now = false ∧ o = true then closeT t s else t
def rT (f : Int → Bool) : Nat → List (Int × Int) × Bool
  | 0 => ([], false)
  | k + 1 => (stepR (rT f k).1 (rT f k).2 (f k) k, f k)
theorem rT_open (f : Int → Bool) (k : Nat) : (rT f k).2 = true → ∃ u p, (rT f k).1 = u ++ [p] := by
  induction k with
  | zero => intro h; cases h
  | succ k ih =>
    intro h
    have h' : f k = true := h
    show ∃ u p, stepR (rT f k).1 (rT f k).2 (f k) k = u ++ [p]
    unfold stepR
    rw [h']
    cases ho : (rT f k).2 with
    | false => exact ⟨_, _, by rw [if_pos ⟨rfl, rfl⟩]⟩
    | true =>
      rw [if_neg (by simp), if_neg (by simp)]
      exact ih ho
theorem rT_len (f : Int → Bool) (k : Nat) : (rT f k).1.length ≤ k := by
  induction k with
  | zero => exact Nat.le_refl _
  | succ k ih =>
    show (stepR (rT f k).1 (rT f k).2 (f k) k).length ≤ k + 1
    unfold stepR
    split
    · simp; omega
    · split
      · rcases snoc_cases (rT f k).1 with h | ⟨u, p, h⟩
        · rw [h]; simp [closeT]
        · rw [h] at ih ⊢; rw [closeT_snoc]; simp at ih ⊢; omega
      · omega
def lastN' (l : List Chg) : Int := if l.length = 0 then 0 else (l.getD (l.length - 1) default).slot
set_option maxRecDepth 100000 in
set_option maxHeartbeats 4000000 in
theorem rtimes_any (L O : Int) (A : Option Addr) (n cp : Nat) (cs : List Cel) (B : Option Addr) (m cq : Nat) (l : List Chg) (c : Cel) (w : World) (h1 : CelS w A n cs) (h2 : ChgS w B m l) (hsl : ∀ x ∈ l, 0 ≤ x.slot ∧ x.slot ≤ 4096) :
    Calls Try.prog 40 #[.agg #[.int .i64 L, .int .i64 O, .slice A n cp], .slice B m cq, .agg #[.int .i64 c.slot, .int .i64 c.offset, .int .i64 c.frm, .int .i64 c.to, .int .i64 c.flow]] w (TimesPost (rT (forceN cs l c) ((lastN' l).toNat + 1)).1 w) := by
  obtain ⟨i0, hi, hz0, hz1, hz2⟩ := info_parts info_pr
  have hl2 := h2.len
  have hs2 := h2.small
  unfold maxLen at hs2
  have hb2 := ballN (ball w (.cells #[.int .i64 L, .int .i64 O, .slice A n cp] 24)) (.cells #[.int .i64 c.slot, .int .i64 c.offset, .int .i64 c.frm, .int .i64 c.to, .int .i64 c.flow] 34)
  have BX := (Box.new w #[.int .i64 L, .int .i64 O, .slice A n cp] 24).alloc (.cells #[.int .i64 c.slot, .int .i64 c.offset, .int .i64 c.frm, .int .i64 c.to, .int .i64 c.flow] 34)
  have BC := Box.new (w.alloc (.cells #[.int .i64 L, .int .i64 O, .slice A n cp] 24)) #[.int .i64 c.slot, .int .i64 c.offset, .int .i64 c.frm, .int .i64 c.to, .int .i64 c.flow] 34
  rw [size1] at BC
  have cF := fun x W (k1 : CelS W A n cs) (k2 : ChgS W B m l) => inForce_any L O A n cp cs B m cq l c x W k1 k2
  have hla : ∃ la : Nat, ((m = 0 ∧ la = 0) ∨ (0 < m ∧ (l.getD (m - 1) default).slot = (la : Int))) ∧ la ≤ 4096 ∧ (lastN' l).toNat = la := by
    unfold lastN'
    rw [hl2]
    by_cases h0 : m = 0
    · exact ⟨0, .inl ⟨h0, rfl⟩, by omega, by rw [if_pos h0]; rfl⟩
    · have := ok_at hsl (k := m - 1) (by omega)
      exact ⟨(l.getD (m - 1) default).slot.toNat, .inr ⟨by omega, by omega⟩, by omega, by rw [if_neg h0]⟩
  obtain ⟨la, hla1, hla2, hla3⟩ := hla
  rw [hla3]
  have hro := rT_open (forceN cs l c)
  have hrl := rT_len (forceN cs l c)
  have hrs : ∀ k, rT (forceN cs l c) (k + 1) = (stepR (rT (forceN cs l c) k).1 (rT (forceN cs l c) k).2 (forceN cs l c k) k, forceN cs l c k) := fun _ => rfl
  have hr0 : rT (forceN cs l c) 0 = ([], false) := rfl
  have hq := fun W (h : ChgS W B m l) (h0 : 0 < m) => h.addr h0
  generalize hRR : rT (forceN cs l c) = RT at *
  generalize hFF : forceN cs l c = F at *
  clear hRR hFF hla3
  obtain ⟨c0, c1, c2, c3, c4⟩ := c
  dsimp only at *
  have kx := BX.at_
  have kb := BC.at_
  replace h1 := Lib.hid h1
  replace h2 := Lib.hid h2
  replace hl2 := Lib.hid hl2
  replace hb2 := Lib.hid hb2
  replace BX := Lib.hid BX
  replace BC := Lib.hid BC
  replace cF := Lib.hid cF
  replace hro := Lib.hid hro
  replace hrl := Lib.hid hrl
  replace hrs := Lib.hid hrs
  replace hr0 := Lib.hid hr0
  replace hi := Lib.hid hi
  replace hz0 := Lib.hid hz0
  replace hz1 := Lib.hid hz1
  replace hz2 := Lib.hid hz2
  replace hsl := Lib.hid hsl
  replace hq := Lib.hid hq
  have hw0 : Hid (((w.alloc (.cells #[.int .i64 L, .int .i64 O, .slice A n cp] 24)).alloc (.cells #[.int .i64 c0, .int .i64 c1, .int .i64 c2, .int .i64 c3, .int .i64 c4] 34)).ownsRow w.heap.size 42 2 (.slice none 0 0) 0 ([].flatMap prE)) := World.ownsRow_nil _ _ _ _
  rcases hla1 with ⟨hm0, hl0⟩ | ⟨hm0, hl0⟩
  · have d : decide (0 < (m : Int)) = false := by simp; omega
    have d2 : decide (0 < m) = false := by simp; omega
    subst hl0
    have c := cF.out 0 _ (h1.out.keep hb2.out) (h2.out.keep hb2.out)
    have hst := hrs.out 0
    rw [hr0.out] at hst
    have hT : (RT (0 + 1)).1 = stepR [] false (F 0) 0 := by rw [hst]; rfl
    generalize (RT (0 + 1)).1 = T at *
    generalize F 0 = N at *
    clear hst
    have hbb := hb2.out
    replace hm0 := Lib.hid hm0
    replace hT := Lib.hid hT
    replace c := Lib.hid c
    go_enter Try.func40, Try.ntmps40
    go_wp2_with fail
    generalize (w.alloc (.cells #[.int .i64 L, .int .i64 O, .slice A n cp] 24)).alloc (.cells #[.int .i64 c0, .int .i64 c1, .int .i64 c2, .int .i64 c3, .int .i64 c4] 34) = w1 at *
    cases N with
    | false =>
      have hT2 : T = [] := by rw [hT.out]; rfl
      subst hT2
      replace hbb := Lib.hid hbb
      refine wp_loop_rounds 2 ?_
      rw [rounds_succ]
      go_wp2_with fail
      refine c.out.mono ?_
      rintro e w2 ⟨rfl, hb_⟩
      have hB := Lib.hid (bthen hbb.out hb_)
      clear hb_ kx kb
      go_wp2_with fail
      rw [rounds_succ]
      go_wp2
      go_ret
      exact ⟨none, 0, rfl, World.ownsRow_nil _ _ _ _, hB.out⟩
    | true =>
      have hT2 : T = [((0 : Int), (-1 : Int))] := by rw [hT.out]; rfl
      subst hT2
      replace hbb := Lib.hid hbb
      refine wp_loop_rounds 2 ?_
      rw [rounds_succ]
      go_wp2_with fail
      refine c.out.mono ?_
      rintro e w2 ⟨rfl, hb_⟩
      have hB := bthen hbb.out hb_
      clear hb_ kx kb
      have HOa : (w2.alloc (.cells #[.int .i64 0, .int .i64 (-1)] 42)).ownsRow w.heap.size 42 2 (.slice none 0 0) 0 [] := World.ownsRow_nil _ _ _ _
      have HBa := ballN hB (.cells #[.int .i64 0, .int .i64 (-1)] 42)
      have hnews := World.news_of_block (Blk.new w2 #[.int .i64 0, .int .i64 (-1)] 42).at_
      have hs3 := hB.size
      replace HOa := Lib.hid HOa
      replace HBa := Lib.hid HBa
      replace hnews := Lib.hid hnews
      replace hB := Lib.hid hB
      go_wp2_with (at_builtin; refine wpList_append_lies _ rfl _ _ _ rfl w.heap.size 42 i0 (.agg #[.int .i64 0, .int .i64 0]) 2 16 Try.underlying35 hi.out hz0.out hz1.out hz2.out rfl (by decide) (.slice none 0 0) 0 _ rfl HOa.out ⟨w2.heap.size, 0, none⟩ 1 1 [.int .i64 0, .int .i64 (-1)] rfl rfl ?c1 ?c2 (by decide) ?c3 ?c4 ?c5 (w2.heap.size + 1) ?c6 ?_)
      try case c1 => exact hnews.out
      try case c2 => simp [Value.oneCell']
      try case c3 => unfold maxLen; omega
      try case c4 => omega
      try case c5 => first | omega | (simp; omega)
      try case c6 => first | rfl | simp
      intro g cap w5 hown1 hgrow1 hat1 hlt1
      have HO5 : Hid (w5.ownsRow w.heap.size 42 2 (.slice (some ⟨g, 0, none⟩) 1 cap) 1 ([((0 : Int), (-1 : Int))].flatMap prE)) := hown1
      have HB5 := Lib.hid (below_append HBa.out HOa.out hgrow1 (Nat.le_refl _))
      clear hown1 hgrow1 hat1
      go_wp2_with fail
      rw [rounds_succ]
      go_wp2
      go_ret
      exact ⟨_, cap, rfl, HO5.out, HB5.out⟩
  · obtain ⟨b, off, rfl⟩ := h2.out.addr hm0
    obtain ⟨q0, q1, q2, q3, q4, q5, q6⟩ := chg_at (h2.out.keep hb2.out) (i := m - 1) (by omega)
    rw [hl0] at q0
    clear q1 q2 q3 q4 q5 q6
    have ht1 : ((m : Int) - 1).toNat = m - 1 := by omega
    have r1 : (0 : Int) ≤ (m : Int) - 1 := by omega
    have r2 : (m : Int) - 1 < (m : Int) := by omega
    replace hl0 := Lib.hid hl0
    go_enter Try.func40, Try.ntmps40
    go_wp2_with fail
    clear q0 ht1 r1 r2 kx kb
    generalize (w.alloc (.cells #[.int .i64 L, .int .i64 O, .slice A n cp] 24)).alloc (.cells #[.int .i64 c0, .int .i64 c1, .int .i64 c2, .int .i64 c3, .int .i64 c4] 34) = w1 at *
    have hown0 : Hid (∃ v, v = (.slice none 0 0 : Value) ∧ w1.ownsRow w1.heap.size 42 2 v (RT 0).1.length ((RT 0).1.flatMap prE)) := ⟨_, rfl, by rw [hr0.out]; exact World.ownsRow_nil _ _ _ _⟩
    have ho0 : Hid ((RT 0).2 = false) := by show _ = _; rw [hr0.out]
    go_loopw [8, 9, 10] (fun s8 s9 s10 wr => ∃ (k : Nat) (v : Value) (o : Bool), k ≤ la + 1 ∧ s10 = .int .i64 k ∧ v = s8 ∧ s9 = .bool o ∧ Hid ((RT k).2 = o) ∧ Hid (wr.ownsRow w1.heap.size 42 2 v (RT k).1.length ((RT k).1.flatMap prE)) ∧ Hid (Below w1.heap.size w1 wr)) (fun _ _ s10 _ => la + 1 - (intOf s10).toNat)
    case atStart =>
      refine ⟨0, _, false, by omega, rfl, rfl, rfl, ho0, ?_, Below.refl _ _⟩
      obtain ⟨v, rfl, h⟩ := hown0.out
      exact h
    case round =>
      obtain ⟨k, v, o, hk, rfl, rfl, rfl, HO2, HO, HB⟩ := hrel
      clear hown0 ho0
      have hB := bthen hb2.out HB.out
      by_cases hlt : k ≤ la
      · have kx := (BX.out.keep HB.out).at_
        have kb := (BC.out.keep HB.out).at_
        have c := cF.out (k : Int) wr (h1.out.keep hB) (h2.out.keep hB)
        have hst := hrs.out k
        have hle := hrl.out k
        have hop := hro.out k
        rw [HO2.out] at hst hop
        generalize F (k : Int) = N at *
        have h2' : Hid ((RT (k + 1)).2 = N) := by show _ = _; rw [hst]
        have h1' : (RT (k + 1)).1 = stepR (RT k).1 o N k := by rw [hst]
        generalize hTT : (RT (k + 1)).1 = T' at *
        generalize (RT k).1 = T at *
        replace hTT := Lib.hid hTT
        have r1 : (k : Int) ≤ (la : Int) := by omega
        replace c := Lib.hid c
        replace h1' := Lib.hid h1'
        replace hop := Lib.hid hop
        replace hB := Lib.hid hB
        clear hst
        go_wp2_with fail
        refine c.out.mono ?_
        rintro e w2 ⟨rfl, hb_⟩
        clear kx kb
        have HO3 := Lib.hid (owns_keep HO.out hb_)
        have HB3 := Lib.hid (bthen HB.out hb_)
        have hB3 := Lib.hid (bthen hB.out hb_)
        clear hb_ HO HB
        cases N <;> cases o
        · have hT : Hid (T' = T) := by show _ = _; rw [h1'.out]; rfl
          go_wp2
          go_roundw
          case rel => exact ⟨k + 1, _, false, by omega, by go_num, rfl, rfl, h2', by rw [hTT.out, hT.out]; exact HO3, HB3⟩
          case measure => simp [intOf]; omega
        · obtain ⟨u, p, hup⟩ := hop.out rfl
          subst hup
          obtain ⟨p1, p2⟩ := p
          have hT : Hid (T' = u ++ [(p1, (k : Int))]) := by show _ = _; rw [h1'.out]; unfold stepR; rw [if_neg (by simp), if_pos ⟨rfl, rfl⟩, closeT_snoc]
          rcases HO3.out.2 with ⟨hv, h0⟩ | ⟨g, cap, cur, rfl, hbase, hg, r3, r4, r5, r6⟩
          · simp at h0
          have hc2 := HO3.out.cellAt (u.length * 2 + 1) (by first | (simp; done) | (simp; omega))
          have hc2' : ((u ++ [(p1, p2)]).flatMap prE)[u.length * 2 + 1]? = some (.int .i64 p2) := by
            rw [Sk.fm_get prE 2 prE_len _ u.length 1 (by simp) (by decide)]
            simp [prE]
          rw [hc2'] at hc2
          have hf1 := HO3.out.frozenAt (u.length * 2 + 1)
          have hst := HO3.out.stored (u.length * 2 + 1) (.int .i64 (k : Int))
          rw [set_last] at hst
          have hlu : (u ++ [(p1, p2)]).length = u.length + 1 := by simp
          have hlu2 : (u ++ [(p1, (k : Int))]).length = u.length + 1 := by simp
          have hgl : g < w2.heap.size := (Array.getElem?_eq_some_iff.1 hg).1
          have HO4 : Hid ((w2.setCell ⟨g, u.length * 2 + 1, none⟩ (.int .i64 (k : Int))).ownsRow w1.heap.size 42 2 (.slice (some ⟨g, 0, none⟩) (u.length + 1) cap) (RT (k + 1)).1.length ((RT (k + 1)).1.flatMap prE)) := by
            show World.ownsRow _ _ _ _ _ _ _
            rw [hTT.out, hT.out, hlu2, ← hlu]
            exact hst.1
          have HB4 : Hid (Below w1.heap.size w1 (w2.setCell ⟨g, u.length * 2 + 1, none⟩ (.int .i64 (k : Int)))) := HB3.out.setCell hbase _
          rw [hlu] at hle
          replace hst := Lib.hid hst
          replace hlu := Lib.hid hlu
          replace hlu2 := Lib.hid hlu2
          clear hc2' r6
          have e1 : (((u.length + 1 : Nat) : Int)) - 1 = (u.length : Int) := by omega
          rw [hlu.out] at HO3
          generalize (u ++ [(p1, p2)]).flatMap prE = XF at *
          rw [hlu.out]
          generalize u.length = q at *
          have r7 : (q : Int) < (q : Int) + 1 := by omega
          clear hlu
          go_wp2
          go_roundw
          case rel => exact ⟨k + 1, _, false, by omega, by go_num, rfl, rfl, h2', HO4, HB4⟩
          case measure => simp [intOf]; omega
        · have hT : Hid (T' = T ++ [((k : Int), -1)]) := by show _ = _; rw [h1'.out]; unfold stepR; rw [if_pos ⟨rfl, rfl⟩]
          have HOa := HO3.out.alloc (.cells #[.int .i64 (k : Int), .int .i64 (-1)] 42)
          have HBa := ballN HB3.out (.cells #[.int .i64 (k : Int), .int .i64 (-1)] 42)
          have hnews := World.news_of_block (Blk.new w2 #[.int .i64 (k : Int), .int .i64 (-1)] 42).at_
          have hs3 := HB3.out.size
          have e9 : Hid (T.flatMap prE ++ [.int .i64 (k : Int), .int .i64 (-1)] = T'.flatMap prE) := by
            show _ = _
            rw [hT.out, List.flatMap_append]
            simp [prE]
          have el : Hid (T'.length = T.length + 1) := by show _ = _; rw [hT.out]; simp
          generalize T.flatMap prE = XF at *
          replace HOa := Lib.hid HOa
          replace HBa := Lib.hid HBa
          replace hnews := Lib.hid hnews
          go_wp2_with (at_builtin; refine wpList_append_lies _ rfl _ _ _ rfl w1.heap.size 42 i0 (.agg #[.int .i64 0, .int .i64 0]) 2 16 Try.underlying35 hi.out hz0.out hz1.out hz2.out rfl (by decide) v T.length _ rfl HOa.out ⟨w2.heap.size, 0, none⟩ 1 1 [.int .i64 (k : Int), .int .i64 (-1)] rfl rfl ?d1 ?d2 (by decide) ?d3 ?d4 ?d5 (w2.heap.size + 1) ?d6 ?_)
          try case d1 => exact hnews.out
          try case d2 => simp [Value.oneCell']
          try case d3 => unfold maxLen; omega
          try case d4 => omega
          try case d5 => first | omega | (simp; omega)
          try case d6 => first | rfl | simp
          intro g cap w5 hown1 hgrow1 hat1 hlt1
          have HO5 : Hid (w5.ownsRow w1.heap.size 42 2 (.slice (some ⟨g, 0, none⟩) (T.length + 1) cap) (RT (k + 1)).1.length ((RT (k + 1)).1.flatMap prE)) := by
            show World.ownsRow _ _ _ _ _ _ _
            rw [hTT.out, el.out, ← e9.out]; exact hown1
          have HB5 := Lib.hid (below_append HBa.out HOa.out hgrow1 (Nat.le_refl _))
          clear hown1 hgrow1 hat1
          go_wp2
          go_roundw
          case rel => exact ⟨k + 1, _, true, by omega, by go_num, rfl, rfl, h2', HO5, HB5⟩
          case measure => simp [intOf]; omega
        · have hT : Hid (T' = T) := by show _ = _; rw [h1'.out]; rfl
          go_wp2
          go_roundw
          case rel => exact ⟨k + 1, _, true, by omega, by go_num, rfl, rfl, h2', by rw [hTT.out, hT.out]; exact HO3, HB3⟩
          case measure => simp [intOf]; omega
      · obtain rfl : k = la + 1 := by omega
        obtain ⟨A', cc, rfl⟩ := own_slice HO.out
        have r1 : ¬ (((la + 1 : Nat) : Int) ≤ (la : Int)) := by omega
        generalize (RT (la + 1)).1 = T at *
        replace hB := Lib.hid hB
        go_wp2
        go_ret
        exact ⟨A', cc, rfl, own_base HO.out hb2.out.size, hB.out⟩
end Sw
end Go.Proofs.Ytnkgmpmedkegbaa
