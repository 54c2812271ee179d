/- Chapter 16: Candidates, both. -/
import Derived.Test.YtkfipbelhlcddaaGreatTxS
set_option linter.unusedVariables false
set_option linter.unusedSimpArgs false
namespace Go.Proofs.YtkfipbelhlcddaaGreat
open Go Go.RowKit Go.Sort Go.Shelf Go.Maps
namespace Tx
open Sw Mm
def candG (t : Tab) (f : List Int) (k : Nat) : List Spt := (List.range k).flatMap (candS t f)
theorem candG_succ (t : Tab) (f : List Int) (k : Nat) : candG t f (k + 1) = candG t f k ++ candS t f k := by
  unfold candG; rw [List.range_succ, List.flatMap_append]; simp
theorem candG_take {t : Tab} {f : List Int} {k n : Nat} (h : (candG t f k).length = n) : ∀ j, (candG t f (k + j)).take n = candG t f k
  | 0 => by rw [Nat.add_zero, List.take_of_length_le (by omega)]
  | j + 1 => by
    have ih := candG_take (t := t) (f := f) (k := k) (n := n) h j
    rw [← Nat.add_assoc, candG_succ, List.take_append_of_le_length, ih]
    have := congrArg List.length ih
    rw [List.length_take] at this
    omega
theorem candN_eq {t : Tab} {f : List Int} {n N k : Nat} (h0 : chkT t = 0) (h1 : maskN f t.length = true) (hN : t.length = N) (hk : k ≤ N) (hl : (candG t f k).length = n ∨ (k = N ∧ (candG t f k).length ≤ n)) : candN t f n = candG t f k := by
  unfold candN
  rw [if_pos ⟨h0, h1⟩, hN, Int.toNat_natCast]
  show (candG t f N).take n = _
  rcases hl with hl | ⟨rfl, hl⟩
  · have := candG_take hl (N - k)
    rwa [show k + (N - k) = N by omega] at this
  · rw [List.take_of_length_le hl]
theorem candN_bad {t : Tab} {f : List Int} {n : Nat} (h : ¬ (chkT t = 0 ∧ maskN f t.length = true)) : candN t f n = [] := by unfold candN; rw [if_neg h]
theorem offN_some {x : Int} {k : Nat} (hk : k < 16) (h : bitN x k = true) (hp : ∀ j : Nat, j < k → bitN x j = false) : offN x = some k := by
  unfold offN
  rw [List.find?_range_eq_some]
  exact ⟨h, List.mem_range.2 hk, fun j hj => by rw [hp j hj]; rfl⟩
theorem offN_none {x : Int} (hp : ∀ j : Nat, j < 16 → bitN x j = false) : offN x = none := by
  unfold offN
  rw [List.find?_eq_none]
  intro j hj
  rw [hp j (List.mem_range.1 hj)]
  simp
theorem bitN_zero (k : Nat) : bitN 0 k = false := by unfold bitN; simp
def CandPost (t : Tab) (f : List Int) (n : Nat) (w : World) (e : Ending) (w' : World) : Prop := ∃ A m c, e = .returned (.slice A m c) ∧ (candN t f n).length = m ∧ w'.ownsRow w.heap.size 78 2 (.slice A m c) m ((candN t f n).flatMap sptE) ∧ Below w.heap.size w w'
set_option maxRecDepth 100000 in
set_option maxHeartbeats 8000000 in
theorem cand_any (t : Tab) (v : TabV) (A : Option Addr) (n c q : Nat) (f : List Int) (w : World) (h : TabIs w v t) (hf : IntS w A n f) (hq : q ≤ 1000) : Calls Tryz.prog 80 #[.agg #[.int .i64 t.node, .int .i64 t.length, .slice v.A v.n v.c], .slice A n c, .int .i64 q] w (CandPost t f q w) := by
  obtain ⟨B, m, c2⟩ := v
  have HM := Lib.hid (Mem.start w)
  have cK := fun W (hb : Below w.heap.size w W) => chkT_any t ⟨B, m, c2⟩ W (h.keep hb)
  have cM := fun W (hb : Below w.heap.size w W) => masked_any A n c f t.length W (hf.keep hb)
  have cU := fun W (k : Nat) (hb : Below w.heap.size w W) => used_any t ⟨B, m, c2⟩ k W (h.keep hb)
  have hmk : maskN f t.length = true → (n : Int) = t.length ∧ ∀ x ∈ f, 0 ≤ x ∧ x < 65536 := fun e => by
    unfold maskN at e
    rw [hf.len] at e
    simp at e
    exact ⟨e.1, e.2⟩
  have hlf := hf.len
  have hsm := hf.small
  unfold maxLen at hsm
  have hbad := fun h => candN_bad (t := t) (f := f) (n := q) h
  have heq := fun N k h0 h1 h2 h3 h4 => candN_eq (t := t) (f := f) (n := q) (N := N) (k := k) h0 h1 h2 h3 h4
  have hS : ∀ k, candS t f k = if usedN t k = true then [] else match offN (f.getD k 0) with
    | some j => [⟨k, j⟩]
    | none => [] := fun k => rfl
  have hsucc := candG_succ t f
  have h0 : candG t f 0 = [] := rfl
  generalize hP : CandPost t f q w = P
  have hPb : candN t f q = [] → ∀ w', Below w.heap.size w w' → P (.returned (.slice none 0 0)) w' := fun e w' hb => by
    rw [← hP]
    exact ⟨none, 0, 0, rfl, by rw [e]; rfl, by rw [e]; exact World.ownsRow_nil _ _ _ _, hb⟩
  have hPo : ∀ xs A1 m1 c1 w', candN t f q = xs → xs.length = m1 → w'.ownsRow w.heap.size 78 2 (.slice A1 m1 c1) m1 (xs.flatMap sptE) → Below w.heap.size w w' → P (.returned (.slice A1 m1 c1)) w' := fun xs A1 m1 c1 w' e hl ho hb => by
    rw [← hP]
    exact ⟨A1, m1, c1, rfl, by rw [e]; exact hl, by rw [e]; exact ho, hb⟩
  clear hP
  generalize maskN f t.length = MK at *
  generalize chkT t = C1 at *
  generalize usedN t = US at *
  generalize candS t f = CS at *
  generalize candG t f = CG at *
  generalize candN t f q = CN at *
  obtain ⟨t0, t1, t2⟩ := t
  dsimp only at *
  replace h := Lib.hid h
  replace cK := Lib.hid cK
  replace cM := Lib.hid cM
  replace cU := Lib.hid cU
  replace hf := Lib.hid hf
  replace hmk := Lib.hid hmk
  replace hlf := Lib.hid hlf
  replace hbad := Lib.hid hbad
  replace heq := Lib.hid heq
  replace hS := Lib.hid hS
  replace hsucc := Lib.hid hsucc
  replace h0 := Lib.hid h0
  replace hPb := Lib.hid hPb
  replace hPo := Lib.hid hPo
  go_enter Tryz.func80, Tryz.ntmps80
  go_upto_region 1 with (refine wpList_boxA HM rfl 29 _ rfl _ rfl ?_; clear HM; intro gt w1 HM hG; clear hG)
  have kt := HM.out.cell 0 rfl
  go_upto_region 4 with (first
    | (go_at_call 73; refine (cK.out _ HM.out.below).mono ?_; rintro e w3 ⟨rfl, hb_⟩; have HM2 := Lib.hid (HM.out.keep hb_); clear HM hb_ kt cK; have HM := HM2; clear HM2; have kt := HM.out.cell 0 rfl)
    | (go_at_call 103; refine (cM.out _ HM.out.below).mono ?_; rintro e w4 ⟨rfl, hb_⟩; have HM2 := Lib.hid (HM.out.keep hb_); clear HM hb_ kt cM; have HM := HM2; clear HM2; have kt := HM.out.cell 0 rfl)
    | fail)
  all_goals try
    (refine hPb.out (hbad.out ?_) _ HM.out.below
     rintro ⟨h1, rfl⟩
     contradiction)
  cases MK
  · contradiction
  simp only [Bool.not_true]
  obtain ⟨hn1, hfb⟩ := hmk.out rfl
  subst hn1
  have heq2 := fun k h3 h4 => heq.out n k (by assumption) (by first | rfl | trivial) (by first | rfl | trivial) h3 h4
  replace heq2 := Lib.hid heq2
  replace hfb := Lib.hid hfb
  clear heq hmk hbad hPb
  have HO : Hid (w4.ownsRow w.heap.size 78 2 (.slice none 0 0) 0 ((CG 0).flatMap sptE)) := by show World.ownsRow _ _ _ _ _ _ _; rw [h0.out]; exact World.ownsRow_nil _ _ _ _
  have hL0 : Hid ((CG 0).length = 0) := by show _ = _; rw [h0.out]; rfl
  go_wp2_with fail
  go_loopw [7, 8, 9, 22, 39] (fun o _ _ i _ wr => ∃ (k m1 : Nat) (A1 : Option Addr) (c1 : Nat), k ≤ n ∧ i = .int .i64 k ∧ o = .slice A1 m1 c1 ∧ m1 ≤ q ∧ Hid ((CG k).length = m1) ∧ Hid (wr.ownsRow w.heap.size 78 2 (.slice A1 m1 c1) m1 ((CG k).flatMap sptE)) ∧ Hid (Mem w wr [(gt, #[.int .i64 t0, .int .i64 n, .slice B m c2], 29)])) (fun _ _ _ i _ _ => n - (intOf i).toNat)
  case atStart => exact ⟨0, 0, none, 0, by omega, rfl, rfl, by omega, hL0, HO, HM⟩
  case round =>
    clear HM HO hL0 kt
    obtain ⟨k, m1, A1, c1, hk, rfl, rfl, hm1, HL, HO, HM⟩ := hrel
    have kt := HM.out.cell 0 rfl
    by_cases hlt : k < n
    · have r1 : (k : Int) < (n : Int) := by omega
      by_cases hfull : q ≤ m1
      · have hP2 := Lib.hid (hPo.out (CG k) A1 m1 c1 wr (heq2.out k (by omega) (.inl (by have := HL.out; omega))) HL.out HO.out HM.out.below)
        have r2 : (q : Int) ≤ (m1 : Int) := by omega
        go_wp2
        exact hP2.out
      · have r2 : (m1 : Int) < (q : Int) := by omega
        obtain ⟨b, off, rfl⟩ := hf.out.addr (by omega)
        have hx := int_at (hf.out.keep HM.out.below) hlt
        have hxb := hfb.out _ (getD_mem (l := f) (i := k) (by rw [hlf.out]; exact hlt))
        have hS2 := hS.out k
        have hs2 := hsucc.out k
        rw [show f.getD k 0 = f.getD k default from rfl] at hS2
        have cU2 := cU.out wr k HM.out.below
        generalize US k = u at *
        generalize hxe : f.getD k default = x at *
        replace hxe := Lib.hid hxe
        replace hS2 := Lib.hid hS2
        replace cU2 := Lib.hid cU2
        replace hs2 := Lib.hid hs2
        go_upto_region 8 with fail
        by_cases hx0 : x = 0
        · have d0 : (x == 0) = true := by simpa using hx0
          have hC : CS k = [] := by
            rw [hS2.out, hx0, offN_none fun j _ => bitN_zero j]; split <;> rfl
          have HL2 : Hid ((CG (k + 1)).length = m1) := by show _ = _; rw [hs2.out, hC, List.append_nil]; exact HL.out
          have HO2 : Hid (wr.ownsRow w.heap.size 78 2 (.slice A1 m1 c1) m1 ((CG (k + 1)).flatMap sptE)) := by show World.ownsRow _ _ _ _ _ _ _; rw [hs2.out, hC, List.append_nil]; exact HO.out
          clear hC
          replace hx0 := Lib.hid hx0
          go_wp2
          go_roundw
          case rel => exact ⟨k + 1, m1, A1, c1, by omega, by go_num, rfl, by omega, HL2, HO2, HM⟩
          case measure => simp [intOf]; omega
        · have d0 : (x == 0) = false := by simpa using hx0
          replace hx0 := Lib.hid hx0
          go_wp2_with fail
          refine cU2.out.mono ?_
          rintro e w5 ⟨rfl, hb_⟩
          replace HO := Lib.hid (owns_keep HO.out hb_)
          clear hx
          have HM2 := Lib.hid (HM.out.keep hb_); clear HM hb_ kt cU2; have HM := HM2; clear HM2; have kt := HM.out.cell 0 rfl
          cases u with
          | true =>
            have hC : CS k = [] := by rw [hS2.out]; rfl
            have HL2 : Hid ((CG (k + 1)).length = m1) := by show _ = _; rw [hs2.out, hC, List.append_nil]; exact HL.out
            have HO2 : Hid (w5.ownsRow w.heap.size 78 2 (.slice A1 m1 c1) m1 ((CG (k + 1)).flatMap sptE)) := by show World.ownsRow _ _ _ _ _ _ _; rw [hs2.out, hC, List.append_nil]; exact HO.out
            clear hC
            go_wp2
            go_roundw
            case rel => exact ⟨k + 1, m1, A1, c1, by omega, by go_num, rfl, by omega, HL2, HO2, HM⟩
            case measure => simp [intOf]; omega
          | false =>
            have hx := int_at (hf.out.keep HM.out.below) hlt
            have hfx : f.getD k default = x := hxe.out
            rw [hfx] at hx
            clear hfx
            go_wp2_with fail
            go_loopw [7, 9, 39] (fun o _ i wi => ∃ j : Nat, j ≤ 16 ∧ i = .int .i64 j ∧ o = .slice A1 m1 c1 ∧ Hid (∀ p : Nat, p < j → bitN x p = false) ∧ wi = w5) (fun _ _ i _ => 16 - (intOf i).toNat)
            case atStart => exact ⟨0, by omega, rfl, rfl, fun p hp => by omega, rfl⟩
            case round =>
              obtain ⟨j, hj, rfl, rfl, HP, rfl⟩ := hrel
              by_cases hlj : j < 16
              · have r3 : (j : Int) < 16 := by omega
                have hbw := bit_walk (q := j) hxb.1 hxb.2
                have hnx : bitN x j = false → ∀ p : Nat, p < j + 1 → bitN x p = false := fun e p hp => by
                  by_cases h : p = j
                  · subst h; exact e
                  · exact HP.out p (by omega)
                have hC : bitN x j = true → CS k = [⟨k, j⟩] := fun e => by
                  rw [hS2.out, offN_some hlj e HP.out]; rfl
                generalize bitN x j = bb at *
                replace hC := Lib.hid hC
                replace hnx := Lib.hid hnx
                cases bb with
                | false =>
                  have hP2 := Lib.hid (hnx.out rfl)
                  go_wp2
                  go_roundw
                  case rel => exact ⟨j + 1, by omega, by go_num, rfl, hP2, by simp⟩
                  case measure => simp [intOf]; omega
                | true =>
                  have hC2 := hC.out rfl
                  have HL2 : Hid ((CG (k + 1)).length = m1 + 1) := by show _ = _; rw [hs2.out, hC2, List.length_append, HL.out]; rfl
                  have HE : Hid (CG (k + 1) = CG k ++ [⟨k, j⟩]) := by show _ = _; rw [hs2.out, hC2]
                  clear hC2 hC hnx
                  go_wp2_with (at_builtin; refine wpList_append_sls eltS _ rfl _ _ rfl w.heap.size (.slice A1 m1 c1) (CG k) rfl (by rw [HL.out]; exact HO.out.alloc _) _ 1 1 [⟨k, j⟩] rfl (Sls.one (Blk.new _ _ _)) (by rw [HL.out]; omega) (by first | exact (ballN HM.out.below _).size | (have := HM.out.below.size; simp; omega)) ?_; intro v1 w6 HO1 HG1 _; obtain ⟨A2, c2', rfl⟩ := own_slice HO1; replace HO1 := Lib.hid HO1; replace HG1 := Lib.hid HG1)
                  have HB0 := HM.out.below
                  have HM2 := Lib.hid ((HM.out.keep (ball wr (.cells #[.int .i64 k, .int .i64 j] 78))).row (HO.out.alloc _) HG1.out (Nat.le_refl _) (apart_of (by rfl)))
                  rw [List.length_append, HL.out] at HO1
                  have HO2 : Hid (w6.ownsRow w.heap.size 78 2 (.slice A2 (m1 + 1) c2') (m1 + 1) ((CG (k + 1)).flatMap sptE)) := by show World.ownsRow _ _ _ _ _ _ _; rw [HE.out]; exact HO1.out
                  go_wp2
                  exact ⟨⟨k + 1, m1 + 1, A2, c2', by omega, by go_num, by rw [HL.out], by omega, HL2, HO2, HM2⟩, by simp [intOf]; omega⟩
              · obtain rfl : j = 16 := by omega
                have hC : CS k = [] := by rw [hS2.out, offN_none HP.out]; rfl
                have HL2 : Hid ((CG (k + 1)).length = m1) := by show _ = _; rw [hs2.out, hC, List.append_nil]; exact HL.out
                have HO2 : Hid (wr.ownsRow w.heap.size 78 2 (.slice A1 m1 c1) m1 ((CG (k + 1)).flatMap sptE)) := by show World.ownsRow _ _ _ _ _ _ _; rw [hs2.out, hC, List.append_nil]; exact HO.out
                clear hC
                go_wp2
                go_roundw
                case rel => exact ⟨k + 1, m1, A1, c1, by omega, by go_num, rfl, by omega, HL2, HO2, HM⟩
                case measure => simp [intOf]; omega
    · obtain rfl : k = n := by omega
      have hP2 := Lib.hid (hPo.out (CG k) A1 m1 c1 wr (heq2.out k (by omega) (.inr ⟨rfl, by have := HL.out; omega⟩)) HL.out HO.out HM.out.below)
      go_wp2
      exact hP2.out
end Tx
end Go.Proofs.YtkfipbelhlcddaaGreat
