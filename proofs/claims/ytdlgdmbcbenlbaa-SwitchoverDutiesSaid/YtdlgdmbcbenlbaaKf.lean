/- hopmeshref52.InForce. -/
import Derived.Test.YtdlgdmbcbenlbaaKd
set_option linter.unusedVariables false
set_option linter.unusedSimpArgs false
namespace Go.Proofs.Ytdlgdmbcbenlbaa
open Go Go.RowKit Go.Sort
namespace Sw
open Mm
/-- whether a cell is in force in a slot -/
def forceN (cs : List Cel) (l : List Chg) (c : Cel) (x : Int) : Bool := l.foldl (fun b ch => if ch.slot ≤ x ∧ ch.cell = c then ch.add else b) (decide (c ∈ cs))
theorem forceN_snoc (cs : List Cel) (l : List Chg) (c : Cel) (x : Int) (ch : Chg) : forceN cs (l ++ [ch]) c x = if ch.slot ≤ x ∧ ch.cell = c then ch.add else forceN cs l c x := by unfold forceN; rw [List.foldl_append]; rfl
set_option maxRecDepth 100000 in
set_option maxHeartbeats 4000000 in
theorem inForce_any (L O : Int) (A : Option Addr) (n cp : Nat) (cs : List Cel) (B : Option Addr) (m cq : Nat) (l : List Chg) (c : Cel) (x : Int) (w : World) (h1 : CelS w A n cs) (h2 : ChgS w B m l) :
    Calls Try.prog 69 #[.agg #[.int .i64 L, .int .i64 O, .slice A n cp], .slice B m cq, .agg #[.int .i64 c.slot, .int .i64 c.offset, .int .i64 c.frm, .int .i64 c.to, .int .i64 c.flow], .int .i64 x] w fun e w' => e = .returned (.bool (forceN cs l c x)) ∧ Below w.heap.size w w' := by
  have hl2 := h2.len
  have hs2 := h2.small
  unfold maxLen at hs2
  have hb2 := ballN (ball w (.cells #[.int .i64 L, .int .i64 O, .slice A n cp] 24)) (.cells #[.int .i64 c.slot, .int .i64 c.offset, .int .i64 c.frm, .int .i64 c.to, .int .i64 c.flow] 34)
  have BX := (Box.new w #[.int .i64 L, .int .i64 O, .slice A n cp] 24).alloc (.cells #[.int .i64 c.slot, .int .i64 c.offset, .int .i64 c.frm, .int .i64 c.to, .int .i64 c.flow] 34)
  have BC := Box.new (w.alloc (.cells #[.int .i64 L, .int .i64 O, .slice A n cp] 24)) #[.int .i64 c.slot, .int .i64 c.offset, .int .i64 c.frm, .int .i64 c.to, .int .i64 c.flow] 34
  rw [size1] at BC
  have cH := fun W (h : CelS W A n cs) => has_any A n cp cs c W h
  have h0 : forceN cs (l.take 0) c x = decide (c ∈ cs) := rfl
  have hsn := fun k (hk : k < l.length) => forceN_snoc cs (l.take k) c x (l.getD k default)
  have hfin : forceN cs l c x = forceN cs (l.take m) c x := by rw [← hl2, List.take_length]
  have ke := fun d W => eql_cel d c W
  have hEq : Hid (∀ d, eqC d c = decide (d = c)) := fun _ => rfl
  generalize decide (c ∈ cs) = IN at *
  generalize eqC = E at *
  obtain ⟨c0, c1, c2, c3, c4⟩ := c
  dsimp only at *
  replace h1 := Lib.hid h1
  replace h2 := Lib.hid h2
  replace hl2 := Lib.hid hl2
  replace hb2 := Lib.hid hb2
  replace BX := Lib.hid BX
  replace BC := Lib.hid BC
  replace cH := Lib.hid cH
  replace h0 := Lib.hid h0
  replace hsn := Lib.hid hsn
  replace hfin := Lib.hid hfin
  replace ke := Lib.hid ke
  have kx := BX.out.at_
  have kb := BC.out.at_
  go_enter Try.func69, Try.ntmps69
  go_wp2_with fail
  refine (cH.out _ (h1.out.keep hb2.out)).mono ?_
  rintro e w1 ⟨rfl, hb_⟩
  clear kx kb
  replace hb2 := Lib.hid (hb2.out.keep hb_)
  replace BC := Lib.hid (BC.out.keep hb_)
  clear hb_ BX cH
  go_wp2_with fail
  go_loopw [9, 10] (fun o i wr => ∃ (k : Nat) (b : Bool), k ≤ m ∧ i = .int .i64 k ∧ o = .bool b ∧ Hid (forceN cs (l.take k) ⟨c0, c1, c2, c3, c4⟩ x = b) ∧ Hid (Below w1.heap.size w1 wr)) (fun _ i _ => m - (intOf i).toNat)
  case atStart => exact ⟨0, IN, by omega, rfl, rfl, h0.out, Below.refl _ _⟩
  case round =>
    obtain ⟨k, bv, hk, rfl, rfl, HF, HB⟩ := hrel
    have hB := bthen hb2.out HB.out
    by_cases hlt : k < m
    · obtain ⟨b, off, rfl⟩ := h2.out.addr (by omega)
      have hkl : k < l.length := by rw [hl2.out]; exact hlt
      have hx := chg_at (h2.out.keep hB) hlt
      have hs := hsn.out k hkl
      rw [← take_snoc hkl, HF.out] at hs
      have hk2 := ke.out (l.getD k default).cell
      have hme := hEq.out (l.getD k default).cell
      generalize l.getD k default = ch at *
      obtain ⟨xs, xa, x0, x1, x2, x3, x4⟩ := ch
      obtain ⟨q0, q1, q2, q3, q4, q5, q6⟩ := hx
      dsimp only at q0 q1 q2 q3 q4 q5 q6 hk2 hs hme
      have g0 := cell_regrown q0
      have g2 := cell_regrown q2
      have g3 := cell_regrown q3
      have g4 := cell_regrown q4
      have g5 := cell_regrown q5
      have g6 := cell_regrown q6
      have BR := BC.out.keep HB.out
      have gx := BR.grown
      have r1 : (k : Int) < (m : Int) := by omega
      generalize E ⟨x0, x1, x2, x3, x4⟩ ⟨c0, c1, c2, c3, c4⟩ = Q at *
      have hq1 : Hid (∀ W, Below wr.heap.size wr W → W.cell? ⟨b, off + k * 7 + 1, none⟩ = some (.bool xa)) := fun W h => (h.cell (p := ⟨b, off + k * 7 + 1, none⟩) (World.block_lt_of_cell? wr _ q1)).trans q1
      have hK := Lib.hid (Below.refl wr.heap.size wr)
      clear q0 q1 q2 q3 q4 q5 q6
      replace hs := Lib.hid hs
      replace hme := Lib.hid hme
      replace BR := Lib.hid BR
      replace hB := Lib.hid hB
      by_cases hle : xs ≤ x
      · cases Q with
        | true =>
          have hf : Hid (forceN cs (l.take (k + 1)) ⟨c0, c1, c2, c3, c4⟩ x = xa) := by
            have := hme.out
            rw [eq_comm, decide_eq_true_eq] at this
            show _ = _
            rw [hs.out, if_pos ⟨hle, this⟩]
          go_wp2_with fail
          refine wp_region_quiet_below (by kernel_rfl) (by kernel_rfl) ?_
          repeat (go_big_quiet_step (fail))
          refine wpQuiet_nil ?_
          rintro _ ⟨⟨dq, osq⟩, rfl⟩
          have hb_ := below_regrown wr dq osq
          replace HB := Lib.hid (HB.out.keep hb_)
          replace hK := Lib.hid (hK.out.keep hb_)
          generalize grow (redrawn wr dq) osq = w2 at *
          clear hb_
          have q1 := hq1.out w2 hK.out
          go_wp2
          go_roundw
          case rel => exact ⟨k + 1, xa, by omega, by go_num, rfl, hf, HB⟩
          case measure => simp [intOf]; omega
        | false =>
          have hf : Hid (forceN cs (l.take (k + 1)) ⟨c0, c1, c2, c3, c4⟩ x = bv) := by
            have := hme.out
            rw [eq_comm, decide_eq_false_iff_not] at this
            show _ = _
            rw [hs.out, if_neg (fun h => this h.2)]
          go_wp2_with fail
          refine wp_region_quiet_below (by kernel_rfl) (by kernel_rfl) ?_
          repeat (go_big_quiet_step (fail))
          refine wpQuiet_nil ?_
          rintro _ ⟨⟨dq, osq⟩, rfl⟩
          have hb_ := below_regrown wr dq osq
          replace HB := Lib.hid (HB.out.keep hb_)
          generalize grow (redrawn wr dq) osq = w2 at *
          clear hb_
          go_wp2
          go_roundw
          case rel => exact ⟨k + 1, bv, by omega, by go_num, rfl, hf, HB⟩
          case measure => simp [intOf]; omega
      · have hf : Hid (forceN cs (l.take (k + 1)) ⟨c0, c1, c2, c3, c4⟩ x = bv) := by
          show _ = _
          rw [hs.out, if_neg (fun h => hle h.1)]
        have hle2 : decide (xs ≤ x) = false := by simpa using hle
        clear hle
        go_wp2_with fail
        refine wp_region_quiet_below (by kernel_rfl) (by kernel_rfl) ?_
        repeat (go_big_quiet_step (fail))
        refine wpQuiet_nil ?_
        rintro _ ⟨⟨dq, osq⟩, rfl⟩
        have hb_ := below_regrown wr dq osq
        replace HB := Lib.hid (HB.out.keep hb_)
        generalize grow (redrawn wr dq) osq = w2 at *
        clear hb_
        go_wp2
        go_roundw
        case rel => exact ⟨k + 1, bv, by omega, by go_num, rfl, hf, HB⟩
        case measure => simp [intOf]; omega
    · obtain rfl : k = m := by omega
      have hf : Hid (forceN cs l ⟨c0, c1, c2, c3, c4⟩ x = bv) := by show _ = _; rw [hfin.out]; exact HF.out
      replace hB := Lib.hid hB
      go_wp2
      go_ret
      exact ⟨by rw [hf.out]; rfl, hB.out⟩
end Sw
end Go.Proofs.Ytdlgdmbcbenlbaa
namespace Go.Proofs.Ytdlgdmbcbenlbaa
open Go Go.RowKit Go.Sort
namespace Sw
open Mm
def closeT (t : List (Int × Int)) (s : Int) : List (Int × Int) := match t.getLast? with
  | none => []
  | some p => t.dropLast ++ [(p.1, s)]
theorem closeT_snoc (t : List (Int × Int)) (p : Int × Int) (s : Int) : closeT (t ++ [p]) s = t ++ [(p.1, s)] := by
  unfold closeT; rw [List.getLast?_concat, List.dropLast_concat]
def stepR (t : List (Int × Int)) (o now : Bool) (s : Int) : List (Int × Int) := if now = true ∧ o = false then t ++ [(s, -1)] else if now = false ∧ o = true then closeT t s else t
def rT (f : Int → Bool) : Nat → List (Int × Int) × Bool
  | 0 => ([], false)
  | k + 1 => (stepR (rT f k).1 (rT f k).2 (f k) k, f k)
theorem rT_open (f : Int → Bool) (k : Nat) : (rT f k).2 = true → ∃ u p, (rT f k).1 = u ++ [p] := by
  induction k with
  | zero => intro h; cases h
  | succ k ih =>
    intro h
    have h' : f k = true := h
    show ∃ u p, stepR (rT f k).1 (rT f k).2 (f k) k = u ++ [p]
    unfold stepR
    rw [h']
    cases ho : (rT f k).2 with
    | false => exact ⟨_, _, by rw [if_pos ⟨rfl, rfl⟩]⟩
    | true =>
      rw [if_neg (by simp), if_neg (by simp)]
      exact ih ho
theorem rT_len (f : Int → Bool) (k : Nat) : (rT f k).1.length ≤ k := by
  induction k with
  | zero => exact Nat.le_refl _
  | succ k ih =>
    show (stepR (rT f k).1 (rT f k).2 (f k) k).length ≤ k + 1
    unfold stepR
    split
    · simp; omega
    · split
      · rcases snoc_cases (rT f k).1 with h | ⟨u, p, h⟩
        · rw [h]; simp [closeT]
        · rw [h] at ih ⊢; rw [closeT_snoc]; simp at ih ⊢; omega
      · omega
def lastN' (l : List Chg) : Int := if l.length = 0 then 0 else (l.getD (l.length - 1) default).slot
set_option maxRecDepth 100000 in
set_option maxHeartbeats 4000000 in
theorem rtimes_any (L O : Int) (A : Option Addr) (n cp : Nat) (cs : List Cel) (B : Option Addr) (m cq : Nat) (l : List Chg) (c : Cel) (w : World) (h1 : CelS w A n cs) (h2 : ChgS w B m l) (hsl : ∀ x ∈ l, 0 ≤ x.slot ∧ x.slot ≤ 4096) :
    Calls Try.prog 40 #[.agg #[.int .i64 L, .int .i64 O, .slice A n cp], .slice B m cq, .agg #[.int .i64 c.slot, .int .i64 c.offset, .int .i64 c.frm, .int .i64 c.to, .int .i64 c.flow]] w (TimesPost (rT (forceN cs l c) ((lastN' l).toNat + 1)).1 w) := by
  obtain ⟨i0, hi, hz0, hz1, hz2⟩ := info_parts info_pr
  have hl2 := h2.len
  have hs2 := h2.small
  unfold maxLen at hs2
  have hb2 := ballN (ball w (.cells #[.int .i64 L, .int .i64 O, .slice A n cp] 24)) (.cells #[.int .i64 c.slot, .int .i64 c.offset, .int .i64 c.frm, .int .i64 c.to, .int .i64 c.flow] 34)
  have BX := (Box.new w #[.int .i64 L, .int .i64 O, .slice A n cp] 24).alloc (.cells #[.int .i64 c.slot, .int .i64 c.offset, .int .i64 c.frm, .int .i64 c.to, .int .i64 c.flow] 34)
  have BC := Box.new (w.alloc (.cells #[.int .i64 L, .int .i64 O, .slice A n cp] 24)) #[.int .i64 c.slot, .int .i64 c.offset, .int .i64 c.frm, .int .i64 c.to, .int .i64 c.flow] 34
  rw [size1] at BC
  have cF := fun x W (k1 : CelS W A n cs) (k2 : ChgS W B m l) => inForce_any L O A n cp cs B m cq l c x W k1 k2
  have hla : ∃ la : Nat, ((m = 0 ∧ la = 0) ∨ (0 < m ∧ (l.getD (m - 1) default).slot = (la : Int))) ∧ la ≤ 4096 ∧ (lastN' l).toNat = la := by
    unfold lastN'
    rw [hl2]
    by_cases h0 : m = 0
    · exact ⟨0, .inl ⟨h0, rfl⟩, by omega, by rw [if_pos h0]; rfl⟩
    · have := ok_at hsl (k := m - 1) (by omega)
      exact ⟨(l.getD (m - 1) default).slot.toNat, .inr ⟨by omega, by omega⟩, by omega, by rw [if_neg h0]⟩
  obtain ⟨la, hla1, hla2, hla3⟩ := hla
  rw [hla3]
  have hro := rT_open (forceN cs l c)
  have hrl := rT_len (forceN cs l c)
  have hrs : ∀ k, rT (forceN cs l c) (k + 1) = (stepR (rT (forceN cs l c) k).1 (rT (forceN cs l c) k).2 (forceN cs l c k) k, forceN cs l c k) := fun _ => rfl
  have hr0 : rT (forceN cs l c) 0 = ([], false) := rfl
  have hq := fun W (h : ChgS W B m l) (h0 : 0 < m) => h.addr h0
  generalize hRR : rT (forceN cs l c) = RT at *
  generalize hFF : forceN cs l c = F at *
  clear hRR hFF hla3
  obtain ⟨c0, c1, c2, c3, c4⟩ := c
  dsimp only at *
  have kx := BX.at_
  have kb := BC.at_
  replace h1 := Lib.hid h1
  replace h2 := Lib.hid h2
  replace hl2 := Lib.hid hl2
  replace hb2 := Lib.hid hb2
  replace BX := Lib.hid BX
  replace BC := Lib.hid BC
  replace cF := Lib.hid cF
  replace hro := Lib.hid hro
  replace hrl := Lib.hid hrl
  replace hrs := Lib.hid hrs
  replace hr0 := Lib.hid hr0
  replace hi := Lib.hid hi
  replace hz0 := Lib.hid hz0
  replace hz1 := Lib.hid hz1
  replace hz2 := Lib.hid hz2
  replace hsl := Lib.hid hsl
  replace hq := Lib.hid hq
  have hw0 : Hid (((w.alloc (.cells #[.int .i64 L, .int .i64 O, .slice A n cp] 24)).alloc (.cells #[.int .i64 c0, .int .i64 c1, .int .i64 c2, .int .i64 c3, .int .i64 c4] 34)).ownsRow w.heap.size 42 2 (.slice none 0 0) 0 ([].flatMap prE)) := World.ownsRow_nil _ _ _ _
  rcases hla1 with ⟨hm0, hl0⟩ | ⟨hm0, hl0⟩
  · have d : decide (0 < (m : Int)) = false := by simp; omega
    have d2 : decide (0 < m) = false := by simp; omega
    subst hl0
    have c := cF.out 0 _ (h1.out.keep hb2.out) (h2.out.keep hb2.out)
    have hst := hrs.out 0
    rw [hr0.out] at hst
    have hT : (RT (0 + 1)).1 = stepR [] false (F 0) 0 := by rw [hst]; rfl
    generalize (RT (0 + 1)).1 = T at *
    generalize F 0 = N at *
    clear hst
    have hbb := hb2.out
    replace hm0 := Lib.hid hm0
    replace hT := Lib.hid hT
    replace c := Lib.hid c
    go_enter Try.func40, Try.ntmps40
    go_wp2_with fail
    generalize (w.alloc (.cells #[.int .i64 L, .int .i64 O, .slice A n cp] 24)).alloc (.cells #[.int .i64 c0, .int .i64 c1, .int .i64 c2, .int .i64 c3, .int .i64 c4] 34) = w1 at *
    cases N with
    | false =>
      have hT2 : T = [] := by rw [hT.out]; rfl
      subst hT2
      replace hbb := Lib.hid hbb
      refine wp_loop_rounds 2 ?_
      rw [rounds_succ]
      go_wp2_with fail
      refine c.out.mono ?_
      rintro e w2 ⟨rfl, hb_⟩
      have hB := Lib.hid (bthen hbb.out hb_)
      clear hb_ kx kb
      go_wp2_with fail
      rw [rounds_succ]
      go_wp2
      go_ret
      exact ⟨none, 0, rfl, World.ownsRow_nil _ _ _ _, hB.out⟩
    | true =>
      have hT2 : T = [((0 : Int), (-1 : Int))] := by rw [hT.out]; rfl
      subst hT2
      replace hbb := Lib.hid hbb
      refine wp_loop_rounds 2 ?_
      rw [rounds_succ]
      go_wp2_with fail
      refine c.out.mono ?_
      rintro e w2 ⟨rfl, hb_⟩
      have hB := bthen hbb.out hb_
      clear hb_ kx kb
      have HOa : (w2.alloc (.cells #[.int .i64 0, .int .i64 (-1)] 42)).ownsRow w.heap.size 42 2 (.slice none 0 0) 0 [] := World.ownsRow_nil _ _ _ _
      have HBa := ballN hB (.cells #[.int .i64 0, .int .i64 (-1)] 42)
      have hnews := World.news_of_block (Blk.new w2 #[.int .i64 0, .int .i64 (-1)] 42).at_
      have hs3 := hB.size
      replace HOa := Lib.hid HOa
      replace HBa := Lib.hid HBa
      replace hnews := Lib.hid hnews
      replace hB := Lib.hid hB
      go_wp2_with (at_builtin; refine wpList_append_lies _ rfl _ _ _ rfl w.heap.size 42 i0 (.agg #[.int .i64 0, .int .i64 0]) 2 16 Try.underlying35 hi.out hz0.out hz1.out hz2.out rfl (by decide) (.slice none 0 0) 0 _ rfl HOa.out ⟨w2.heap.size, 0, none⟩ 1 1 [.int .i64 0, .int .i64 (-1)] rfl rfl ?c1 ?c2 (by decide) ?c3 ?c4 ?c5 (w2.heap.size + 1) ?c6 ?_)
      try case c1 => exact hnews.out
      try case c2 => simp [Value.oneCell']
      try case c3 => unfold maxLen; omega
      try case c4 => omega
      try case c5 => first | omega | (simp; omega)
      try case c6 => first | rfl | simp
      intro g cap w5 hown1 hgrow1 hat1 hlt1
      have HO5 : Hid (w5.ownsRow w.heap.size 42 2 (.slice (some ⟨g, 0, none⟩) 1 cap) 1 ([((0 : Int), (-1 : Int))].flatMap prE)) := hown1
      have HB5 := Lib.hid (below_append HBa.out HOa.out hgrow1 (Nat.le_refl _))
      clear hown1 hgrow1 hat1
      go_wp2_with fail
      rw [rounds_succ]
      go_wp2
      go_ret
      exact ⟨_, cap, rfl, HO5.out, HB5.out⟩
  · obtain ⟨b, off, rfl⟩ := h2.out.addr hm0
    obtain ⟨q0, q1, q2, q3, q4, q5, q6⟩ := chg_at (h2.out.keep hb2.out) (i := m - 1) (by omega)
    rw [hl0] at q0
    clear q1 q2 q3 q4 q5 q6
    have ht1 : ((m : Int) - 1).toNat = m - 1 := by omega
    have r1 : (0 : Int) ≤ (m : Int) - 1 := by omega
    have r2 : (m : Int) - 1 < (m : Int) := by omega
    replace hl0 := Lib.hid hl0
    go_enter Try.func40, Try.ntmps40
    go_wp2_with fail
    clear q0 ht1 r1 r2 kx kb
    generalize (w.alloc (.cells #[.int .i64 L, .int .i64 O, .slice A n cp] 24)).alloc (.cells #[.int .i64 c0, .int .i64 c1, .int .i64 c2, .int .i64 c3, .int .i64 c4] 34) = w1 at *
    have hown0 : Hid (∃ v, v = (.slice none 0 0 : Value) ∧ w1.ownsRow w1.heap.size 42 2 v (RT 0).1.length ((RT 0).1.flatMap prE)) := ⟨_, rfl, by rw [hr0.out]; exact World.ownsRow_nil _ _ _ _⟩
    have ho0 : Hid ((RT 0).2 = false) := by show _ = _; rw [hr0.out]
    go_loopw [8, 9, 10] (fun s8 s9 s10 wr => ∃ (k : Nat) (v : Value) (o : Bool), k ≤ la + 1 ∧ s10 = .int .i64 k ∧ v = s8 ∧ s9 = .bool o ∧ Hid ((RT k).2 = o) ∧ Hid (wr.ownsRow w1.heap.size 42 2 v (RT k).1.length ((RT k).1.flatMap prE)) ∧ Hid (Below w1.heap.size w1 wr)) (fun _ _ s10 _ => la + 1 - (intOf s10).toNat)
    case atStart =>
      refine ⟨0, _, false, by omega, rfl, rfl, rfl, ho0, ?_, Below.refl _ _⟩
      obtain ⟨v, rfl, h⟩ := hown0.out
      exact h
    case round =>
      obtain ⟨k, v, o, hk, rfl, rfl, rfl, HO2, HO, HB⟩ := hrel
      clear hown0 ho0
      have hB := bthen hb2.out HB.out
      by_cases hlt : k ≤ la
      · have kx := (BX.out.keep HB.out).at_
        have kb := (BC.out.keep HB.out).at_
        have c := cF.out (k : Int) wr (h1.out.keep hB) (h2.out.keep hB)
        have hst := hrs.out k
        have hle := hrl.out k
        have hop := hro.out k
        rw [HO2.out] at hst hop
        generalize F (k : Int) = N at *
        have h2' : Hid ((RT (k + 1)).2 = N) := by show _ = _; rw [hst]
        have h1' : (RT (k + 1)).1 = stepR (RT k).1 o N k := by rw [hst]
        generalize hTT : (RT (k + 1)).1 = T' at *
        generalize (RT k).1 = T at *
        replace hTT := Lib.hid hTT
        have r1 : (k : Int) ≤ (la : Int) := by omega
        replace c := Lib.hid c
        replace h1' := Lib.hid h1'
        replace hop := Lib.hid hop
        replace hB := Lib.hid hB
        clear hst
        go_wp2_with fail
        refine c.out.mono ?_
        rintro e w2 ⟨rfl, hb_⟩
        clear kx kb
        have HO3 := Lib.hid (owns_keep HO.out hb_)
        have HB3 := Lib.hid (bthen HB.out hb_)
        have hB3 := Lib.hid (bthen hB.out hb_)
        clear hb_ HO HB
        cases N <;> cases o
        · have hT : Hid (T' = T) := by show _ = _; rw [h1'.out]; rfl
          go_wp2
          go_roundw
          case rel => exact ⟨k + 1, _, false, by omega, by go_num, rfl, rfl, h2', by rw [hTT.out, hT.out]; exact HO3, HB3⟩
          case measure => simp [intOf]; omega
        · obtain ⟨u, p, hup⟩ := hop.out rfl
          subst hup
          obtain ⟨p1, p2⟩ := p
          have hT : Hid (T' = u ++ [(p1, (k : Int))]) := by show _ = _; rw [h1'.out]; unfold stepR; rw [if_neg (by simp), if_pos ⟨rfl, rfl⟩, closeT_snoc]
          rcases HO3.out.2 with ⟨hv, h0⟩ | ⟨g, cap, cur, rfl, hbase, hg, r3, r4, r5, r6⟩
          · simp at h0
          have hc2 := HO3.out.cellAt (u.length * 2 + 1) (by first | (simp; done) | (simp; omega))
          have hc2' : ((u ++ [(p1, p2)]).flatMap prE)[u.length * 2 + 1]? = some (.int .i64 p2) := by
            rw [Sk.fm_get prE 2 prE_len _ u.length 1 (by simp) (by decide)]
            simp [prE]
          rw [hc2'] at hc2
          have hf1 := HO3.out.frozenAt (u.length * 2 + 1)
          have hst := HO3.out.stored (u.length * 2 + 1) (.int .i64 (k : Int))
          rw [set_last] at hst
          have hlu : (u ++ [(p1, p2)]).length = u.length + 1 := by simp
          have hlu2 : (u ++ [(p1, (k : Int))]).length = u.length + 1 := by simp
          have hgl : g < w2.heap.size := (Array.getElem?_eq_some_iff.1 hg).1
          have HO4 : Hid ((w2.setCell ⟨g, u.length * 2 + 1, none⟩ (.int .i64 (k : Int))).ownsRow w1.heap.size 42 2 (.slice (some ⟨g, 0, none⟩) (u.length + 1) cap) (RT (k + 1)).1.length ((RT (k + 1)).1.flatMap prE)) := by
            show World.ownsRow _ _ _ _ _ _ _
            rw [hTT.out, hT.out, hlu2, ← hlu]
            exact hst.1
          have HB4 : Hid (Below w1.heap.size w1 (w2.setCell ⟨g, u.length * 2 + 1, none⟩ (.int .i64 (k : Int)))) := HB3.out.setCell hbase _
          rw [hlu] at hle
          replace hst := Lib.hid hst
          replace hlu := Lib.hid hlu
          replace hlu2 := Lib.hid hlu2
          clear hc2' r6
          have e1 : (((u.length + 1 : Nat) : Int)) - 1 = (u.length : Int) := by omega
          rw [hlu.out] at HO3
          generalize (u ++ [(p1, p2)]).flatMap prE = XF at *
          rw [hlu.out]
          generalize u.length = q at *
          have r7 : (q : Int) < (q : Int) + 1 := by omega
          clear hlu
          go_wp2
          go_roundw
          case rel => exact ⟨k + 1, _, false, by omega, by go_num, rfl, rfl, h2', HO4, HB4⟩
          case measure => simp [intOf]; omega
        · have hT : Hid (T' = T ++ [((k : Int), -1)]) := by show _ = _; rw [h1'.out]; unfold stepR; rw [if_pos ⟨rfl, rfl⟩]
          have HOa := HO3.out.alloc (.cells #[.int .i64 (k : Int), .int .i64 (-1)] 42)
          have HBa := ballN HB3.out (.cells #[.int .i64 (k : Int), .int .i64 (-1)] 42)
          have hnews := World.news_of_block (Blk.new w2 #[.int .i64 (k : Int), .int .i64 (-1)] 42).at_
          have hs3 := HB3.out.size
          have e9 : Hid (T.flatMap prE ++ [.int .i64 (k : Int), .int .i64 (-1)] = T'.flatMap prE) := by
            show _ = _
            rw [hT.out, List.flatMap_append]
            simp [prE]
          have el : Hid (T'.length = T.length + 1) := by show _ = _; rw [hT.out]; simp
          generalize T.flatMap prE = XF at *
          replace HOa := Lib.hid HOa
          replace HBa := Lib.hid HBa
          replace hnews := Lib.hid hnews
          go_wp2_with (at_builtin; refine wpList_append_lies _ rfl _ _ _ rfl w1.heap.size 42 i0 (.agg #[.int .i64 0, .int .i64 0]) 2 16 Try.underlying35 hi.out hz0.out hz1.out hz2.out rfl (by decide) v T.length _ rfl HOa.out ⟨w2.heap.size, 0, none⟩ 1 1 [.int .i64 (k : Int), .int .i64 (-1)] rfl rfl ?d1 ?d2 (by decide) ?d3 ?d4 ?d5 (w2.heap.size + 1) ?d6 ?_)
          try case d1 => exact hnews.out
          try case d2 => simp [Value.oneCell']
          try case d3 => unfold maxLen; omega
          try case d4 => omega
          try case d5 => first | omega | (simp; omega)
          try case d6 => first | rfl | simp
          intro g cap w5 hown1 hgrow1 hat1 hlt1
          have HO5 : Hid (w5.ownsRow w1.heap.size 42 2 (.slice (some ⟨g, 0, none⟩) (T.length + 1) cap) (RT (k + 1)).1.length ((RT (k + 1)).1.flatMap prE)) := by
            show World.ownsRow _ _ _ _ _ _ _
            rw [hTT.out, el.out, ← e9.out]; exact hown1
          have HB5 := Lib.hid (below_append HBa.out HOa.out hgrow1 (Nat.le_refl _))
          clear hown1 hgrow1 hat1
          go_wp2
          go_roundw
          case rel => exact ⟨k + 1, _, true, by omega, by go_num, rfl, rfl, h2', HO5, HB5⟩
          case measure => simp [intOf]; omega
        · have hT : Hid (T' = T) := by show _ = _; rw [h1'.out]; rfl
          go_wp2
          go_roundw
          case rel => exact ⟨k + 1, _, true, by omega, by go_num, rfl, rfl, h2', by rw [hTT.out, hT.out]; exact HO3, HB3⟩
          case measure => simp [intOf]; omega
      · obtain rfl : k = la + 1 := by omega
        obtain ⟨A', cc, rfl⟩ := own_slice HO.out
        have r1 : ¬ (((la + 1 : Nat) : Int) ≤ (la : Int)) := by omega
        generalize (RT (la + 1)).1 = T at *
        replace hB := Lib.hid hB
        go_wp2
        go_ret
        exact ⟨A', cc, rfl, own_base HO.out hb2.out.size, hB.out⟩
end Sw
end Go.Proofs.Ytdlgdmbcbenlbaa
namespace Go.Proofs.Ytdlgdmbcbenlbaa
open Go Go.RowKit Go.Sort
namespace Sw
/-- f up to k, and as before k behind it -/
def upto (f : Int → Bool) (k : Nat) (x : Int) : Bool := if x < (k : Int) then f x else f ((k : Int) - 1)
theorem rT_inv (f : Int → Bool) (k : Nat) : Inv (rT f (k + 1)).1 (upto f (k + 1)) (k : Int) (f k) := by
  induction k with
  | zero =>
    have h := Inv.start (f 0)
    have e : (rT f 1).1 = if f 0 = true then begT [] 0 else [] := by
      show stepR [] false (f ((0 : Nat) : Int)) 0 = _
      unfold stepR
      cases f ((0 : Nat) : Int) <;> rfl
    rw [e]
    refine h.congr fun x hx => ?_
    unfold upto
    by_cases c : x < ((0 + 1 : Nat) : Int)
    · rw [if_pos c]; congr 1; omega
    · rw [if_neg c]; congr 1
  | succ k ih =>
    have e : (rT f (k + 1 + 1)).1 = stepR (rT f (k + 1)).1 (f k) (f ((k + 1 : Nat) : Int)) ((k + 1 : Nat) : Int) := rfl
    rw [e]
    generalize (rT f (k + 1)).1 = t at *
    have hk : ((k + 1 : Nat) : Int) = (k : Int) + 1 := by omega
    have hsame : ∀ x, upto f (k + 1 + 1) x = upd (upto f (k + 1)) ((k + 1 : Nat) : Int) (f ((k + 1 : Nat) : Int)) x := fun x => by
      unfold upto upd
      by_cases c1 : ((k + 1 : Nat) : Int) ≤ x
      · rw [if_pos c1]
        by_cases c2 : x < ((k + 1 + 1 : Nat) : Int)
        · rw [if_pos c2]; congr 1; omega
        · rw [if_neg c2]; congr 1; omega
      · rw [if_neg c1, if_pos (by omega)]
        show f x = (if x < ((k + 1 : Nat) : Int) then f x else f (((k + 1 : Nat) : Int) - 1))
        rw [if_pos (by omega)]
    cases ho : f (k : Int) <;> cases hn : f ((k + 1 : Nat) : Int)
    · rw [ho] at ih
      refine (ih.later (s' := ((k + 1 : Nat) : Int)) (by omega)).congr fun x hx => ?_
      rw [hsame]
      unfold upd
      by_cases c1 : ((k + 1 : Nat) : Int) ≤ x
      · rw [if_pos c1, hn, ih.const x (by omega)]
      · rw [if_neg c1]
    · rw [ho] at ih
      have h := ih.begin_ (s' := ((k + 1 : Nat) : Int)) (by omega)
      have e2 : stepR t false true ((k + 1 : Nat) : Int) = begT t ((k + 1 : Nat) : Int) := by
        rcases snoc_cases t with rfl | ⟨u, p, rfl⟩
        · rfl
        · have := (ih.le p (by simp)).2
          rw [begT_snoc, if_neg (by omega)]
          unfold stepR
          rw [if_pos ⟨rfl, rfl⟩]
      rw [e2]
      refine h.congr fun x _ => ?_
      rw [hsame, hn]
    · rw [ho] at ih
      have h := ih.end_ (s' := ((k + 1 : Nat) : Int)) (by omega)
      obtain ⟨u, p, rfl, _⟩ := ih.open_
      have e2 : stepR (u ++ [p]) true false ((k + 1 : Nat) : Int) = endT (u ++ [p]) ((k + 1 : Nat) : Int) := by
        have := (ih.le p (by simp)).1
        rw [endT_snoc, if_neg (by omega)]
        unfold stepR
        rw [if_neg (by simp), if_pos ⟨rfl, rfl⟩, closeT_snoc]
      rw [e2]
      refine h.congr fun x _ => ?_
      rw [hsame, hn]
    · rw [ho] at ih
      refine (ih.later (s' := ((k + 1 : Nat) : Int)) (by omega)).congr fun x hx => ?_
      rw [hsame]
      unfold upd
      by_cases c1 : ((k + 1 : Nat) : Int) ≤ x
      · rw [if_pos c1, hn, ih.const x (by omega)]
      · rw [if_neg c1]
end Sw
end Go.Proofs.Ytdlgdmbcbenlbaa
namespace Go.Proofs.Ytdlgdmbcbenlbaa
open Go Go.RowKit Go.Sort
namespace Sw
/-- changes in order, as far as one cell is concerned -/
structure OkL (cs : List Cel) (l : List Chg) (c : Cel) : Prop where
  asc : ∀ k, 0 < k → k < l.length → (l.getD (k - 1) default).slot ≤ (l.getD k default).slot
  pos : ∀ k, k < l.length → 0 ≤ (l.getD k default).slot
  sw : ∀ k, k < l.length → (l.getD k default).cell = c → (l.getD k default).add = !thereN cs (l.take k) c
def curS (l : List Chg) (k : Nat) : Int := if k = 0 then 0 else (l.getD (k - 1) default).slot
theorem timesC_inv {cs : List Cel} {l : List Chg} {c : Cel} (h : OkL cs l c) (k : Nat) (hk : k ≤ l.length) : Inv (timesC cs (l.take k) c) (forceN cs (l.take k) c) (curS l k) (thereN cs (l.take k) c) := by
  induction k with
  | zero =>
    have h0 := Inv.start (decide (c ∈ cs))
    have e : (if decide (c ∈ cs) = true then begT [] 0 else []) = timesC cs (l.take 0) c := by
      show _ = (if c ∈ cs then begT [] 0 else [])
      by_cases hc : c ∈ cs <;> simp [hc]
    rw [e] at h0
    exact h0
  | succ k ih =>
    have hkl : k < l.length := by omega
    have ih' := ih (by omega)
    rw [take_snoc hkl, timesC_snoc, thereN_snoc]
    have hs : curS l k ≤ (l.getD k default).slot := by
      unfold curS
      split
      · exact h.pos k hkl
      · exact h.asc k (by omega) hkl
    have hc : curS l (k + 1) = (l.getD k default).slot := by
      unfold curS; rw [if_neg (by omega), Nat.add_sub_cancel]
    rw [hc]
    have hsw := h.sw k hkl
    have hfs := fun x => forceN_snoc cs (l.take k) c x (l.getD k default)
    generalize l.getD k default = ch at *
    unfold stepT setF
    by_cases e : ch.cell = c
    · rw [if_pos e, if_pos e.symm]
      have ha := hsw e
      cases hadd : ch.add with
      | true =>
        rw [hadd, eq_comm, Bool.not_eq_true'] at ha
        rw [ha] at ih'
        rw [if_pos rfl]
        refine (ih'.begin_ hs).congr fun x _ => ?_
        rw [hfs x, hadd]
        unfold upd
        by_cases c1 : ch.slot ≤ x
        · rw [if_pos ⟨c1, e⟩, if_pos c1]
        · rw [if_neg (fun h => c1 h.1), if_neg c1]
      | false =>
        rw [hadd, eq_comm, Bool.not_eq_false'] at ha
        rw [ha] at ih'
        rw [if_neg (by decide)]
        refine (ih'.end_ hs).congr fun x _ => ?_
        rw [hfs x, hadd]
        unfold upd
        by_cases c1 : ch.slot ≤ x
        · rw [if_pos ⟨c1, e⟩, if_pos c1]
        · rw [if_neg (fun h => c1 h.1), if_neg c1]
    · rw [if_neg e, if_neg (Ne.symm e)]
      refine (ih'.later hs).congr fun x _ => ?_
      rw [hfs x, if_neg (fun h => e h.2)]
theorem ends_of {cs : List Cel} {l : List Chg} {c : Cel} (h : OkL cs l c) : Ends cs l c := fun k hk e ha => by
  have hi := timesC_inv h k (by omega)
  have := h.sw k hk e
  rw [ha, eq_comm, Bool.not_eq_false'] at this
  rw [this] at hi
  obtain ⟨u, p, hu, _⟩ := hi.open_
  exact ⟨u, p, hu⟩
end Sw
end Go.Proofs.Ytdlgdmbcbenlbaa
namespace Go.Proofs.Ytdlgdmbcbenlbaa
open Go Go.RowKit Go.Sort
namespace Sw
theorem firstF_zero {F : Nat → Int} {n : Nat} (h : (firstF F n).2 = 0) : ∀ j, j < n → F j = 0 := by
  unfold firstF at h
  cases hf : (List.range n).find? (fun i => F i != 0) with
  | some i =>
    rw [hf] at h
    have := List.find?_some hf
    simp at this
    exact absurd h this
  | none =>
    intro j hj
    rw [List.find?_eq_none] at hf
    have := hf j (List.mem_range.2 hj)
    simpa using this
structure Right (L O : Int) (cs : List Cel) (l : List Chg) : Prop where
  formed : formedB L O cs = true
  few : l.length ≤ 1024
  fault : ∀ j, j < l.length → faultAt L O cs l j = 0
theorem right_of {L O : Int} {cs : List Cel} {l : List Chg} (h : (chkN L O cs l).2 = 0) : Right L O cs l := by
  unfold chkN at h
  by_cases h1 : formedB L O cs = false
  · rw [if_pos h1] at h; exact absurd h (by decide)
  · rw [if_neg h1] at h
    by_cases h2 : 1024 < l.length
    · rw [if_pos h2] at h; exact absurd h (by decide)
    · rw [if_neg h2] at h
      exact ⟨by simpa using h1, by omega, firstF_zero h⟩
theorem fault_zero {L O : Int} {cs : List Cel} {l : List Chg} {i : Nat} (h : faultAt L O cs l i = 0) :
    (0 ≤ (l.getD i default).slot ∧ (l.getD i default).slot ≤ 4096) ∧ (0 < i → (l.getD (i - 1) default).slot ≤ (l.getD i default).slot) ∧ cellOk L O (l.getD i default).cell = true ∧ (l.getD i default).add = !thereN cs (l.take i) (l.getD i default).cell := by
  unfold faultAt at h
  split at h
  · exact absurd h (by decide)
  · split at h
    · exact absurd h (by decide)
    · split at h
      · exact absurd h (by decide)
      · split at h
        · exact absurd h (by decide)
        · split at h
          · exact absurd h (by decide)
          · rename_i a b c d e
            refine ⟨by omega, fun h0 => by omega, by simpa using c, ?_⟩
            cases h1 : (l.getD i default).add <;> cases h2 : thereN cs (l.take i) (l.getD i default).cell <;> simp_all
theorem Right.okL {L O : Int} {cs : List Cel} {l : List Chg} (h : Right L O cs l) (c : Cel) : OkL cs l c :=
  ⟨fun k h0 hk => (fault_zero (h.fault k hk)).2.1 h0, fun k hk => (fault_zero (h.fault k hk)).1.1, fun k hk e => by
    have := (fault_zero (h.fault k hk)).2.2.2
    rw [e] at this; exact this⟩
end Sw
end Go.Proofs.Ytdlgdmbcbenlbaa
