/- Chapter 16: Add once more: its table's cells are the call's own: the reference's. -/
import Derived.Test.YtkfipbelhlcddaaGreatMv
import Derived.Test.YtkfipbelhlcddaaGreatMa
import Derived.Test.YtkfipbelhlcddaaGreatMb
import Derived.Test.YtkfipbelhlcddaaGreatMt
import Derived.Test.YtkfipbelhlcddaaGreatMw
set_option linter.unusedVariables false
set_option linter.unusedSimpArgs false
namespace Go.Proofs.YtkfipbelhlcddaaGreat
open Go Go.RowKit Go.Sort Go.Shelf Go.Maps
namespace Tx
open Sw Mm
structure TabOwn (w : World) (v : TabV) (t : Tab) : Prop where
  cells : ∃ b, w.ownsRow b 67 6 (.slice v.A v.n v.c) v.n (t.cells.flatMap tclE)
  lc : t.cells.length = v.n
theorem TabOwn.zero (w : World) : TabOwn w tabV0 tab0 := ⟨⟨0, World.ownsRow_nil _ _ _ _⟩, rfl⟩
theorem TabOwn.is {w : World} {v : TabV} {t : Tab} (h : TabOwn w v t) : TabIs w v t := by
  obtain ⟨⟨b, hb⟩, hl⟩ := h
  exact ⟨(Sls.of_owns tclE_len hb hl).2, own_cap hb⟩
theorem TabOwn.keep {w w' : World} {v : TabV} {t : Tab} (h : TabOwn w v t) (hb : Below w.heap.size w w') : TabOwn w' v t := by
  obtain ⟨⟨b, h1⟩, hl⟩ := h
  exact ⟨⟨b, owns_keep h1 hb⟩, hl⟩
theorem TabOwn.put {w w' : World} {v : TabV} {t : Tab} (h : TabOwn w v t) {B : Nat} {C : Array Value} {ty : TypeId} (hB : Blk w B C ty) (ht : ty ≠ 67) (hg : w.grownBy w' (some B)) : TabOwn w' v t := by
  obtain ⟨⟨b, h1⟩, hl⟩ := h
  exact ⟨⟨b, h1.kept hg (.inr (row_ne_blk h1 hB ht.symm))⟩, hl⟩
def AddOwn (t : Tab) (c : TCl) (w : World) (e : Ending) (w' : World) : Prop := ∃ v, e = .returned (.tuple #[.agg (tabA (addN t c) v), .int .i64 (addC t c)]) ∧ TabOwn w' v (addN t c) ∧ Below w.heap.size w w'
theorem addOwn_bad {t : Tab} {c : TCl} {F : Int} {w w' : World} {e : Ending} (hF : addC t c = F) (h0 : F ≠ 0) (h : e = .returned (.tuple #[.agg #[.int .i64 0, .int .i64 0, .slice none 0 0], .int .i64 F])) (hb : Below w.heap.size w w') : AddOwn t c w e w' := by
  have hN : addN t c = tab0 := by unfold addN; rw [hF, if_neg h0]
  unfold AddOwn
  rw [hN, hF]
  exact ⟨tabV0, h, TabOwn.zero _, hb⟩
theorem addOwn_ok {t : Tab} {c : TCl} {w w' : World} {e : Ending} (hF : addC t c = 0) {v : TabV} (h : e = .returned (.tuple #[.agg #[.int .i64 t.node, .int .i64 t.length, .slice v.A v.n v.c], .int .i64 0])) (hv : ∃ b, w'.ownsRow b 67 6 (.slice v.A v.n v.c) v.n ((putN t.cells c).flatMap tclE)) (hc : (putN t.cells c).length = v.n) (hb : Below w.heap.size w w') : AddOwn t c w e w' := by
  have hN : addN t c = ⟨t.node, t.length, putN t.cells c⟩ := by unfold addN; rw [hF, if_pos rfl]
  unfold AddOwn
  rw [hN, hF]
  exact ⟨v, h, ⟨hv, hc⟩, hb⟩
set_option maxRecDepth 100000 in
set_option maxHeartbeats 4000000 in
theorem radd_own (t : Tab) (v : TabV) (c : TCl) (w : World) (h : TabIs w v t) : Calls Tryz.prog 72 #[.agg #[.int .i64 t.node, .int .i64 t.length, .slice v.A v.n v.c], .agg #[.int .i64 c.slot, .int .i64 c.off, .int .i64 c.kind, .bool c.send, .int .i64 c.peer, .int .i64 c.flow]] w (AddOwn t c w) := by
  have HM := Lib.hid (Mem.start w)
  have cK := fun W (hb : Below w.heap.size w W) => rchkT_any t v W (h.keep hb)
  have cF := fun W => rcell_any t v c W
  have cT := fun W (hb : Below w.heap.size w W) => taken_any v.A v.n v.c t.cells c.slot c.kind W (h.cells.keep hb)
  have cP := fun W hb (hn : v.n ≤ 100000) => put_any v.A v.n v.c t.cells c W (h.cells.keep (w' := W) hb) hn h.cc
  have hl := h.cells.len
  have hsm := h.cells.small
  unfold maxLen at hsm
  have hlen : chkT t = 0 → v.n ≤ 512 := fun e => by have := ((chkT_iff t).1 e).size; omega
  have hF : addC t c = if chkT t ≠ 0 then 1 else if formN c t.node t.length ≠ 0 then formN c t.node t.length else if takenS t.cells c.slot c.kind = true then 16 else if t.cells.length = 512 then 8 else 0 := rfl
  rw [hl] at hF
  have hPb := fun F w' e1 e2 e3 => addOwn_bad (t := t) (c := c) (F := F) (w := w) (w' := w') e1 e2 rfl e3
  have hPo := fun w' (v : TabV) e1 e2 e3 e4 => addOwn_ok (t := t) (c := c) (w := w) (w' := w') (v := v) e1 rfl e2 e3 e4
  generalize AddOwn t c w = P at *
  generalize addC t c = AC at *
  generalize chkT t = C1 at *
  generalize formN c t.node t.length = FO at *
  generalize takenS t.cells c.slot c.kind = TK at *
  obtain ⟨t0, t1, t2⟩ := t
  obtain ⟨c0, c1, c2, c3, c4, c5⟩ := c
  obtain ⟨A, n, cp⟩ := v
  dsimp only at *
  have uM := Tryz.underlying29
  replace h := Lib.hid h
  replace cK := Lib.hid cK
  replace cF := Lib.hid cF
  replace cT := Lib.hid cT
  replace cP := Lib.hid cP
  replace hl := Lib.hid hl
  replace hlen := Lib.hid hlen
  replace hF := Lib.hid hF
  replace hPb := Lib.hid hPb
  replace hPo := Lib.hid hPo
  replace uM := Lib.hid uM
  go_enter Tryz.func72, Tryz.ntmps72
  go_upto_region 1 with (first | (refine wpList_boxA HM rfl 29 _ rfl _ rfl ?_; clear HM; intro gt w1 HM hG; clear hG) | (refine wpList_boxA HM rfl 67 _ rfl _ rfl ?_; clear HM; intro gc w1 HM hG; clear hG) | (refine wpList_allocA HM rfl 29 rfl (by first | exact msgInfo | exact edInfo | exact tabInfo | exact info_tcl | exact info_spt) ?_; clear HM; intro g4 w1 HM hG; clear hG))
  have kt := HM.out.cell 2 rfl
  have kc := HM.out.cell 1 rfl
  go_upto_region 10 with (first
    | (refine wpList_storeM 0 HM rfl _ _ _ rfl _ _ rfl rfl _ (by conv => {lhs; whnf}) (by exact ztab) (by rfl) (Nat.le_of_ble_eq_true (by rfl)) _ (by simp only [setL, List.set, Value.cells]; exact rfl) ?_; clear HM kt kc; intro w4 HM hG4; simp only [List.set] at HM; have kt := HM.out.cell 2 rfl; have kc := HM.out.cell 1 rfl)
    | (go_at_call 87; refine (cK.out _ HM.out.below).mono ?_; rintro e w3 ⟨rfl, hb_⟩; have HM2 := Lib.hid (HM.out.keep hb_); clear HM hb_ kt kc cK; have HM := HM2; clear HM2; have kt := HM.out.cell 2 rfl; have kc := HM.out.cell 1 rfl)
    | (go_at_call 120; refine (cF.out _).mono ?_; rintro e w3 ⟨rfl, hb_⟩; have HM2 := Lib.hid (HM.out.keep hb_); clear HM hb_ kt kc cF; have HM := HM2; clear HM2; have kt := HM.out.cell 2 rfl; have kc := HM.out.cell 1 rfl)
    | (go_at_call 121; refine (cT.out _ HM.out.below).mono ?_; rintro e w_ ⟨rfl, rfl⟩)
    | fail)
  all_goals try
    (try simp only [Exit.inBlock, Exit.then]
     refine bodyPost_ret (results_ct rfl (HM.out.at_ 0 rfl) rfl _ uM.out rfl (by exact ztab)) rfl ?_
     have f1 := hF.out
     try simp only [bne_iff_ne, beq_iff_eq, ne_eq, bne_eq_false_iff_eq] at *
     first
     | exact hPb.out _ _ (f1.trans (by simp [*] : _ = (1 : Int))) (by decide) HM.out.below
     | exact hPb.out _ _ (f1.trans (by simp [*] : _ = (16 : Int))) (by decide) HM.out.below
     | (have e : n = 512 := (by omega); exact hPb.out _ _ (f1.trans (by simp [*] : _ = (8 : Int))) (by decide) HM.out.below)
     | exact hPb.out FO _ (f1.trans (by simp [*])) (by assumption) HM.out.below
     | fail)
  try simp only [bne_iff_ne, beq_iff_eq, ne_eq, bne_eq_false_iff_eq, beq_eq_false_iff_ne] at *
  have hC : Hid (AC = 0) := by
    have f1 := hF.out
    have e : ¬ n = 512 := by omega
    show _ = _; rw [f1]; simp [*]
  have hn : n ≤ 100000 := by have := hlen.out (by first | assumption | rfl); omega
  clear hF hPb hlen
  have HX : Hid (∀ w' C, Mem w w' [(g4, C, 29), (gc, #[.int .i64 c0, .int .i64 c1, .int .i64 c2, .bool c3, .int .i64 c4, .int .i64 c5], 67), (gt, #[.int .i64 t0, .int .i64 t1, .slice A n cp], 29)] → w'.cell? ⟨gt, 0, none⟩ = some (.int .i64 t0) ∧ w'.cell? ⟨gt, 1, none⟩ = some (.int .i64 t1) ∧ w'.cell? ⟨gt, 2, none⟩ = some (.slice A n cp) ∧ w'.cell? ⟨gc, 0, none⟩ = some (.int .i64 c0) ∧ w'.cell? ⟨gc, 1, none⟩ = some (.int .i64 c1) ∧ w'.cell? ⟨gc, 2, none⟩ = some (.int .i64 c2) ∧ w'.cell? ⟨gc, 3, none⟩ = some (.bool c3) ∧ w'.cell? ⟨gc, 4, none⟩ = some (.int .i64 c4) ∧ w'.cell? ⟨gc, 5, none⟩ = some (.int .i64 c5)) := fun w' C hm => ⟨hm.cell 2 rfl 0, hm.cell 2 rfl 1, hm.cell 2 rfl 2, hm.cell 1 rfl 0, hm.cell 1 rfl 1, hm.cell 1 rfl 2, hm.cell 1 rfl 3, hm.cell 1 rfl 4, hm.cell 1 rfl 5⟩
  have hX0 := HX.out _ _ HM.out.drew
  have h4 := Lib.hid (HM.out.at_ 0 rfl)
  clear kt kc
  go_region_held3 (fun w' => w'.cell? ⟨gt, 0, none⟩ = some (.int .i64 t0) ∧ w'.cell? ⟨gt, 1, none⟩ = some (.int .i64 t1) ∧ w'.cell? ⟨gt, 2, none⟩ = some (.slice A n cp) ∧ w'.cell? ⟨gc, 0, none⟩ = some (.int .i64 c0) ∧ w'.cell? ⟨gc, 1, none⟩ = some (.int .i64 c1) ∧ w'.cell? ⟨gc, 2, none⟩ = some (.int .i64 c2) ∧ w'.cell? ⟨gc, 3, none⟩ = some (.bool c3) ∧ w'.cell? ⟨gc, 4, none⟩ = some (.int .i64 c4) ∧ w'.cell? ⟨gc, 5, none⟩ = some (.int .i64 c5))
    (first
      | exact HX.out _ _ HM.out.drew
      | exact HX.out _ _ (HM.out.keep (by assumption))
      | (rw [fold_tab]; exact HX.out _ _ ((HM.out.keep hB5).setc 0 rfl 0 _ _ rfl))
      | fail)
    (first
      | (go_at_call 111; refine (cP.out _ (bthen HM.out.below ((Below.refl _ _).drew)) hn).mono ?_; rintro e w5 ⟨A1, p1, rfl, hO1, hB_⟩; have hB5 : Below w3.heap.size w3 w5 := bthen ((Below.refl _ _).drew) hB_; have hk5 := h4.out.keep hB5; have kc5 := hk5.cell; have kf5 := hk5.free)
      | fail)
  all_goals
    go_wp2_with fail
    try simp only [Exit.inBlock, Exit.then]
    rw [fold_tab]
    have HM5 := (HM.out.keep hB5).setc 0 rfl 0 [.int .i64 t0, .int .i64 t1, .slice A1 (t2.length + 1) p1] _ rfl
    have hO5 := own_setc hO1 hk5 (by decide) 0 [.int .i64 t0, .int .i64 t1, .slice A1 (t2.length + 1) p1]
    refine bodyPost_ret (results_ct rfl (HM5.at_ 0 rfl) rfl _ uM.out rfl (by exact ztab)) rfl ?_
    exact hPo.out _ ⟨A1, t2.length + 1, p1⟩ hC.out ⟨_, hO5⟩ (putN_len _ _) HM5.below
end Tx
end Go.Proofs.YtkfipbelhlcddaaGreat

namespace Go.Proofs.YtkfipbelhlcddaaGreat
open Go Go.RowKit Go.Sort Go.Shelf Go.Maps
namespace Tx
open Sw Mm Pl
def u8E (x : Int) : List Value := [.int .u8 x]
theorem u8E_len (x : Int) : (u8E x).length = 1 := rfl
abbrev U8S := @Sls Int _ u8E 1
theorem u8_at {w : World} {b off n : Nat} {xs : List Int} (h : U8S w (some ⟨b, off, none⟩) n xs) {i : Nat} (hi : i < n) : w.cell? ⟨b, off + i, none⟩ = some (.int .u8 (xs.getD i default)) := by
  have := (h.cells hi).2 0 (by decide)
  rw [show off + i * 1 + 0 = off + i by omega] at this
  exact this
theorem oth_succ {node : Int} {l : List Int} {k : Nat} (h : k < l.length) : othN node (l.take (k + 1)) = othStep (othN node (l.take k)) (l.getD k default) := by
  unfold othN
  rw [take_snoc h, List.foldl_append]
  rfl
def OthPost (node : Int) (l : List Int) (w : World) (r : Ending) (w' : World) : Prop := ∃ v, r = .returned (.agg (tabA (othN node l) v)) ∧ TabOwn w' v (othN node l) ∧ Below w.heap.size w w'
set_option maxRecDepth 100000 in
set_option maxHeartbeats 4000000 in
theorem others_any (node : Int) (A : Option Addr) (n c : Nat) (l : List Int) (w : World) (hl : U8S w A n l) (h8 : ∀ s ∈ l, 0 ≤ s ∧ s ≤ 255) : Calls Tryz.prog 22 #[.int .i64 node, .slice A n c] w (OthPost node l w) := by
  have HM := Lib.hid (Mem.start w)
  have uT := Tryz.underlying29
  have hlen := hl.len
  have hsm := hl.small
  unfold maxLen at hsm
  have cA := fun t v c W (h : TabIs W v t) => radd_own t v c W h
  have hP : ∀ w' v, TabOwn w' v (othN node l) → Below w.heap.size w w' → OthPost node l w (.returned (.agg (tabA (othN node l) v))) w' := fun w' v h1 hb => ⟨v, rfl, h1, hb⟩
  have hsucc := fun k (hk : k < n) => oth_succ (node := node) (l := l) (k := k) (by omega)
  have hb8 := fun k (hk : k < n) => h8 (l.getD k default) (getD_mem (by omega))
  generalize OthPost node l w = P at *
  clear h8
  replace hl := Lib.hid hl
  replace uT := Lib.hid uT
  replace hlen := Lib.hid hlen
  replace cA := Lib.hid cA
  replace hP := Lib.hid hP
  replace hsucc := Lib.hid hsucc
  replace hb8 := Lib.hid hb8
  go_enter Tryz.func22, Tryz.ntmps22
  have mk1 : Unit := ()
  have mk2 : Unit := ()
  go_upto_region 2 with (first
    | (clear mk1; refine wpList_allocN HM rfl 29 rfl tabInfo ?_; clear HM; intro g4 w1 HM hG hN9; clear hG hN9)
    | (clear mk2; refine wpList_allocN HM rfl 29 rfl tabInfo ?_; clear HM; intro g5 w1 HM hG hN9; clear hG hN9)
    | (refine wpList_storeF 0 HM rfl _ _ _ rfl _ rfl rfl _ rfl (by exact ztab) (by rfl) (by rfl) ?_; clear HM; intro w4 HM hG4; simp only [List.set] at HM; clear hG4)
    | fail)
  go_wp2_with fail
  go_loopw [7, 14] (fun s7 i wr => Hid (∃ (k : Nat) (T : Tab) (v : TabV), k ≤ n ∧ i = .int .i64 k ∧ Hid (T = othN node (l.take k)) ∧ Hid (TabOwn wr v T) ∧ Hid (Mem w wr [(g5, #[.int .i64 T.node, .int .i64 T.length, .slice v.A v.n v.c], 29), (g4, #[.int .i64 0, .int .i64 0, .slice none 0 0], 29)]))) (fun _ i _ => n - (intOf i).toNat)
  case atStart => exact Lib.hid ⟨0, ⟨node, 12, []⟩, ⟨none, 0, 0⟩, by omega, rfl, rfl, ⟨⟨0, World.ownsRow_nil _ _ _ _⟩, rfl⟩, HM⟩
  case round =>
    clear HM
    obtain ⟨k, T, v, hk, rfl, hT, hO, HM⟩ := hrel.out
    clear hrel
    by_cases hlt2 : k < n
    · obtain ⟨b, off, rfl⟩ := hl.out.addr (by omega)
      have hx := u8_at (hl.out.keep HM.out.below) hlt2
      have hst := hsucc.out k hlt2
      have h8 := hb8.out k hlt2
      rw [← hT.out] at hst
      generalize l.getD k default = s at *
      have r1 : (k : Int) < (n : Int) := by omega
      have hw1 : IntKind.i64.wrap s = s := IntWalk.i64_in _ (by omega)
      have hm1 : s.tmod 12 = s % 12 := by rw [Int.tmod_eq_emod_of_nonneg (by omega)]
      have hm2 : IntKind.i64.wrap (s % 12) = s % 12 := IntWalk.i64_in _ (by omega)
      have hsp : Hid (othStep T s = if addC T (othC s) = 0 then addN T (othC s) else T) := rfl
      have cA2 := Lib.hid (fun W (h : TabIs W v T) => cA.out T v (othC s) W h)
      change Hid (∀ W, TabIs W v T → Calls Tryz.prog 72 #[.agg #[.int .i64 T.node, .int .i64 T.length, .slice v.A v.n v.c], .agg #[.int .i64 (s % 12), .int .i64 0, .int .i64 1, .bool false, .int .i64 9, .int .i64 1]] W (AddOwn T (othC s) W)) at cA2
      unfold AddOwn at cA2
      generalize hAC : addC T (othC s) = AC at *
      generalize addN T (othC s) = TN at *
      replace hst := Lib.hid hst
      replace hAC := Lib.hid hAC
      clear h8
      go_upto_region 6 with (first
        | (refine wpList_loadG 1 HM (by rfl) _ _ rfl _ rfl rfl _ uT.out rfl (by exact ztab) ?_)
        | (refine wpList_loadG 0 HM (by rfl) _ _ rfl _ rfl rfl _ uT.out rfl (by exact ztab) ?_)
        | (go_at_call 72; refine (cA2.out _ hO.out.is).mono ?_; rintro r w3 ⟨v2, rfl, hO2, hb_⟩; dsimp only [tabA]; clear hx; replace HM := Lib.hid (HM.out.keep hb_); replace hO := Lib.hid (hO.out.keep hb_); replace hO2 := Lib.hid hO2; clear hb_)
        | (refine wpList_allocN HM rfl 29 rfl tabInfo ?_; clear HM; intro g8 w1 HM hG hN9; replace hO := Lib.hid (hO.out.keep hG.out); replace hO2 := Lib.hid (hO2.out.keep hG.out); clear hG hN9)
        | (refine wpList_storeF 0 HM rfl _ _ _ rfl _ rfl rfl _ rfl (by exact ztab) (by rfl) (by rfl) ?_; have hBq := HM.out.at_ 0 rfl; clear HM; intro w4 HM hG4; simp only [List.set] at HM; replace hO := Lib.hid (hO.out.put hBq (by decide) hG4.out); replace hO2 := Lib.hid (hO2.out.put hBq (by decide) hG4.out); clear hBq hG4)
        | fail)
      by_cases h0 : AC = 0
      · subst h0
        have hT2 : Hid (TN = othN node (l.take (k + 1))) := by show _ = _; rw [hst.out, hsp.out, if_pos rfl]
        go_wp2_with (first
          | (refine wpList_loadG 0 HM (by rfl) _ _ rfl _ rfl rfl _ uT.out rfl (by exact ztab) ?_)
          | (refine wpList_storeF 1 HM rfl _ _ _ rfl _ rfl rfl _ rfl (by exact ztab) (by rfl) (by rfl) ?_; have hBq := HM.out.at_ 1 rfl; clear HM; intro w4 HM hG4; simp only [List.set] at HM; replace hO2 := Lib.hid (hO2.out.put hBq (by decide) hG4.out); clear hBq hG4)
          | fail)
        have HM2 := Lib.hid HM.out.tail
        exact ⟨Lib.hid ⟨k + 1, TN, v2, by omega, by go_num, hT2, hO2, HM2⟩, by simp [intOf]; omega⟩
      · have d1 : (AC == 0) = false := by rw [beq_eq_false_iff_ne]; exact h0
        have hT2 : Hid (T = othN node (l.take (k + 1))) := by show _ = _; rw [hst.out, hsp.out, if_neg h0]
        go_wp2_with fail
        have HM2 := Lib.hid HM.out.tail
        exact ⟨Lib.hid ⟨k + 1, T, v, by omega, by go_num, hT2, hO, HM2⟩, by simp [intOf]; omega⟩
    · have hkn : l.take k = l := List.take_of_length_le (by have := hlen.out; omega)
      rw [hkn] at hT
      have hTe := hT.out
      subst hTe
      go_wp2_with (first
        | (refine wpList_loadG 0 HM (by rfl) _ _ rfl _ rfl rfl _ uT.out rfl (by exact ztab) ?_)
        | (refine wpList_storeF 1 HM rfl _ _ _ rfl _ rfl rfl _ rfl (by exact ztab) (by rfl) (by rfl) ?_; have hBq := HM.out.at_ 1 rfl; clear HM; intro w4 HM hG4; simp only [List.set] at HM; replace hO := Lib.hid (hO.out.put hBq (by decide) hG4.out); clear hBq hG4)
        | fail)
      try simp only [Exit.inBlock, Exit.then]
      refine bodyPost_ret (results_c rfl (HM.out.at_ 1 rfl) rfl _ uT.out rfl (by exact ztab)) rfl ?_
      exact hP.out _ _ hO.out HM.out.below
end Tx
end Go.Proofs.YtkfipbelhlcddaaGreat

namespace Go.Proofs.YtkfipbelhlcddaaGreat
open Go Go.RowKit Go.Sort Go.Shelf Go.Maps
namespace Tx
open Sw Mm Pl
theorem eTw : ∀ args w, (callFunc 71 args).run Tryz.prog w = .ok (.enter 71 args) w := enters_of Tryz.func71 (by kernel_rfl) rfl
theorem tw1_any (x : TCl) (c : TCl) (B1 : Nat) (w : World) (h1 : Box w B1 #[.int .i64 c.slot, .int .i64 c.off, .int .i64 c.kind, .bool c.send, .int .i64 c.peer, .int .i64 c.flow]) :
    Calls Tryz.prog 71 (#[.agg #[.int .i64 x.slot, .int .i64 x.off, .int .i64 x.kind, .bool x.send, .int .i64 x.peer, .int .i64 x.flow]] ++ #[.pointer (some ⟨B1, 0, none⟩)]) w fun e w' => e = .returned (.bool (decide (c.slot ≤ x.slot))) ∧ Below w.heap.size w w' := by
  show Calls Tryz.prog 71 #[.agg #[.int .i64 x.slot, .int .i64 x.off, .int .i64 x.kind, .bool x.send, .int .i64 x.peer, .int .i64 x.flow], .pointer (some ⟨B1, 0, none⟩)] w _
  have HM := Lib.hid (Mem.start w)
  obtain ⟨x0, x1, x2, x3, x4, x5⟩ := x
  obtain ⟨s0, s1, s2, s3, s4, s5⟩ := c
  dsimp only at *
  replace h1 := Lib.hid h1
  go_enter Tryz.func71, Tryz.ntmps71
  go_upto_region 1 with (refine wpList_boxA HM rfl _ _ rfl _ rfl ?_; clear HM; intro g w1 HM hG; clear hG)
  have kb := HM.out.cell 0 rfl
  have k1 := (h1.out.keep HM.out.below).at_
  go_wp2
  all_goals
    go_ret
    exact ⟨by first | (simp [*]; done) | (simp [*]; omega) | (simp [*, intB]; done) | (simp [*, intB]; omega) | (simp [*, bne, intB]; done), HM.out.below⟩
theorem two_succ {num : Int} {l : List TCl} {k : Nat} (h : k < l.length) : twoC num (l.take (k + 1)) = twoStep num (twoC num (l.take k)) (l.getD k default) := by
  unfold twoC
  rw [take_snoc h, List.foldl_append]
  rfl
theorem two_len (num : Int) (l : List TCl) : (twoC num l).length ≤ l.length := by
  suffices h : ∀ (l acc : List TCl), (l.foldl (twoStep num) acc).length ≤ acc.length + l.length by
    unfold twoC
    simpa using h l []
  intro l
  induction l with
  | nil => intro acc; simp
  | cons c l ih =>
    intro acc
    rw [List.foldl_cons, List.length_cons]
    refine Nat.le_trans (ih _) ?_
    unfold twoStep
    split
    · omega
    · rw [List.length_append, List.length_singleton]; omega
def TwoPost (num : Int) (l : List TCl) (w : World) (r : Ending) (w' : World) : Prop := ∃ v1 v2, r = .returned (.tuple #[.agg (endA (twoA num l) v1), .agg (endA (twoB num l) v2)]) ∧ EdOwn w' v1 (twoA num l) ∧ EdOwn w' v2 (twoB num l) ∧ Below w.heap.size w w'
theorem results_cc {P : Program} {fn : Func} {s r : Tmp} {ty tz : TypeId} (hr : fn.results = #[.cell s ty, .cell r tz]) {tmps : Array Value} {w : World} {B E : Nat} {C D : Array Value} {t k : TypeId} (hB : Blk w B C t) (hE : Blk w E D k) (hs : tmps.getD s undef = .pointer (some ⟨B, 0, none⟩)) (hs2 : tmps.getD r undef = .pointer (some ⟨E, 0, none⟩))
    (d : TypeDesc) (hu : P.underlying ty = some d) (hd : (match d with | .struct _ | .array _ _ => true | _ => false) = true) (hi : (P.info? ty).map (·.size) = some C.size) (d2 : TypeDesc) (hu2 : P.underlying tz = some d2) (hd2 : (match d2 with | .struct _ | .array _ _ => true | _ => false) = true) (hi2 : (P.info? tz).map (·.size) = some D.size) :
    (results fn tmps).run P w = .ok (.tuple #[.agg C, .agg D]) w := by
  have h1 := run_loadVar_blk hB ty d hu hd hi
  have h2 := run_loadVar_blk hE tz d2 hu2 hd2 hi2
  rw [Array.getD_eq_getD_getElem?] at hs hs2
  simp [results, hr, hs, hs2, asAddr, h1, h2]
/-- two rows of the call's own that share no block -/
def Apt (v1 v2 : Value) : Prop := ∀ g, v1.ownBlock = some g → v2.ownBlock ≠ some g
theorem Apt.symm {v1 v2 : Value} (h : Apt v1 v2) : Apt v2 v1 := fun g e1 e2 => h g e2 e1
theorem Apt.kept {w w' : World} {base s n : Nat} {e : TypeId} {v1 v2 : Value} {xs : List Value} (h : Apt v1 v2) (ho : w.ownsRow base e s v2 n xs) (hg : w.grownBy w' v1.ownBlock) : w'.ownsRow base e s v2 n xs := by
  refine ho.kept hg ?_
  cases hq : v2.ownBlock with
  | none => exact .inl rfl
  | some g => exact .inr fun e => h g e.symm hq
theorem Mem.row2 {a w w' : World} {B1 B2 : Nat} {C1 C2 : Array Value} {t1 t2 : TypeId} {L : List (Nat × Array Value × TypeId)} {base s n : Nat} {e : TypeId} {v : Value} {xs : List Value} (h : Mem a w ((B1, C1, t1) :: (B2, C2, t2) :: L)) (ho : w.ownsRow base e s v n xs) (hg : w.grownBy w' v.ownBlock) (hb : a.heap.size ≤ base) (hn1 : ¬ v.ownBlock = some B1) (hn2 : ¬ v.ownBlock = some B2) (hne : ∀ x ∈ L, e ≠ x.2.2) : Mem a w' ((B1, C1, t1) :: (B2, C2, t2) :: L) :=
  h.grown hg fun g e1 => ⟨Nat.le_trans hb (ho.lt g e1).1, fun x hx e2 => by
    rcases List.mem_cons.1 hx with rfl | hx
    · exact hn1 (by rw [e1]; exact congrArg some e2.symm)
    rcases List.mem_cons.1 hx with rfl | hx
    · exact hn2 (by rw [e1]; exact congrArg some e2.symm)
    · exact row_ne_blk ho (h.blk x (List.mem_cons_of_mem _ (List.mem_cons_of_mem _ hx))) (hne x hx) (by rw [e1, e2])⟩
theorem own_put {w w' : World} {base s n B : Nat} {e t : TypeId} {v : Value} {xs : List Value} {C : Array Value} (ho : w.ownsRow base e s v n xs) (hB : Blk w B C t) (ht : e ≠ t) (hg : w.grownBy w' (some B)) : w'.ownsRow base e s v n xs := ho.kept hg (.inr (row_ne_blk ho hB ht))
theorem own_ne {w : World} {base s n g : Nat} {e : TypeId} {v : Value} {xs : List Value} (ho : w.ownsRow base e s v n xs) (hg : w.heap.size ≤ g) : ¬ v.ownBlock = some g := fun e1 => absurd (ho.lt g e1).2 (Nat.not_lt.2 hg)
theorem own_ne' {w : World} {v v' : Value} {g : Nat} (h : ¬ v.ownBlock = some g) (hg : g < w.heap.size) (hv : v'.ownBlock = v.ownBlock ∨ v'.ownBlock = some w.heap.size) : ¬ v'.ownBlock = some g := fun e => by
  rcases hv with hv | hv
  · exact h (by rw [← hv]; exact e)
  · rw [hv] at e; injection e with e; omega
theorem Apt.app {w : World} {base s n : Nat} {e : TypeId} {v1 v1' v2 : Value} {xs : List Value} (h : Apt v1 v2) (ho : w.ownsRow base e s v2 n xs) (hv : v1'.ownBlock = v1.ownBlock ∨ v1'.ownBlock = some w.heap.size) : Apt v1' v2 := by
  intro g e1 e2
  rcases hv with hv | hv
  · exact h g (by rw [← hv]; exact e1) e2
  · have := (ho.lt g e2).2
    rw [hv] at e1
    injection e1 with e1
    omega
set_option maxRecDepth 100000 in
set_option maxHeartbeats 4000000 in
theorem two_any (num : Int) (A : Option Addr) (n c : Nat) (l : List TCl) (w : World) (hn0 : 0 ≤ num) (hn1 : num ≤ 255) (hl : TclS w A n l) (hn : n ≤ 20) : Calls Tryz.prog 21 #[.int .u8 num, .slice A n c] w (TwoPost num l w) := by
  have HM := Lib.hid (Mem.start w)
  have uE := Tryz.underlying27
  have uT := Tryz.underlying67
  have hlen := hl.len
  have hw1 : IntKind.i64.wrap num = num := IntWalk.i64_in _ (by omega)
  have cF := fun W B1 c A1 n1 c1 xs (h1 : Box W B1 #[.int .i64 c.slot, .int .i64 c.off, .int .i64 c.kind, .bool c.send, .int .i64 c.peer, .int .i64 c.flow]) (hx : TclS W A1 n1 xs) => ctnFnT_any 71 #[.pointer (some ⟨B1, 0, none⟩)] (fun x => decide (c.slot ≤ x.slot)) A1 n1 c1 xs W eTw hx (fun x _ W2 hb2 => tw1_any x c B1 W2 (h1.keep hb2))
  have hP : ∀ w' v1 v2, EdOwn w' v1 (twoA num l) → EdOwn w' v2 (twoB num l) → Below w.heap.size w w' → TwoPost num l w (.returned (.tuple #[.agg (endA (twoA num l) v1), .agg (endA (twoB num l) v2)])) w' := fun w' v1 v2 h1 h2 hb => ⟨v1, v2, rfl, h1, h2, hb⟩
  have hsucc := fun k (hk : k < n) => two_succ (num := num) (l := l) (k := k) (by omega)
  have htl := fun k => Nat.le_trans (two_len num (l.take k)) (List.length_take_le' k l)
  generalize TwoPost num l w = P at *
  replace hl := Lib.hid hl
  replace uE := Lib.hid uE
  replace uT := Lib.hid uT
  replace hlen := Lib.hid hlen
  replace cF := Lib.hid cF
  replace hP := Lib.hid hP
  replace hsucc := Lib.hid hsucc
  replace htl := Lib.hid htl
  go_enter Tryz.func21, Tryz.ntmps21
  have mk1 : Unit := ()
  have mk2 : Unit := ()
  have mk3 : Unit := ()
  have mk4 : Unit := ()
  go_upto_region 2 with (first
    | (clear mk1; refine wpList_allocN HM rfl 27 rfl edInfo ?_; clear HM; intro g4 w1 HM hG hN9; clear hG hN9)
    | (clear mk2; refine wpList_allocN HM rfl 27 rfl edInfo ?_; clear HM; intro g5 w1 HM hG hN9; clear hG hN9)
    | (clear mk3; refine wpList_allocN HM rfl 27 rfl edInfo ?_; clear HM; intro g6 w1 HM hG hN9; clear hG hN9)
    | (clear mk4; refine wpList_allocN HM rfl 27 rfl edInfo ?_; clear HM; intro g7 w1 HM hG hN9; clear hG hN9)
    | (refine wpList_storeF 1 HM rfl _ _ _ rfl _ rfl rfl _ rfl (by exact zend) (by rfl) (by rfl) ?_; clear HM; intro w4 HM hG4; simp only [List.set] at HM; clear hG4)
    | (refine wpList_storeF 0 HM rfl _ _ _ rfl _ rfl rfl _ rfl (by exact zend) (by rfl) (by rfl) ?_; clear HM; intro w4 HM hG4; simp only [List.set] at HM; clear hG4)
    | fail)
  go_wp2_with fail
  go_loopw [19] (fun i wr => Hid (∃ (k : Nat) (A1 : Option Addr) (n1 c1 : Nat) (A2 : Option Addr) (n2 c2 : Nat), k ≤ n ∧ i = .int .i64 k ∧ Hid (wr.ownsRow w.heap.size 67 6 (.slice A1 n1 c1) n1 ((twoC num (l.take k)).flatMap tclE)) ∧ Hid (wr.ownsRow w.heap.size 67 6 (.slice A2 n2 c2) n2 (((twoC num (l.take k)).map (mirr 1)).flatMap tclE)) ∧ Hid (Apt (.slice A1 n1 c1) (.slice A2 n2 c2)) ∧ Hid (Mem w wr [(g7, #[.int .i64 2, .int .i64 1, .int .i64 num, .slice A2 n2 c2, .bool false, .int .i64 0, .int .i64 0, .bool false, .int .i64 0, .int .i64 0, .int .i64 0, .slice none 0 0, .slice none 0 0, .bool false, .int .i64 0, .bool false, .int .i64 0, .int .i64 0, .int .i64 0, .slice none 0 0, .slice none 0 0, .int .i64 0, .bool false, .int .i64 0, .int .i64 0, .int .i64 0, .slice none 0 0, .slice none 0 0], 27), (g6, #[.int .i64 1, .int .i64 2, .int .i64 num, .slice A1 n1 c1, .bool false, .int .i64 0, .int .i64 0, .bool false, .int .i64 0, .int .i64 0, .int .i64 0, .slice none 0 0, .slice none 0 0, .bool false, .int .i64 0, .bool false, .int .i64 0, .int .i64 0, .int .i64 0, .slice none 0 0, .slice none 0 0, .int .i64 0, .bool false, .int .i64 0, .int .i64 0, .int .i64 0, .slice none 0 0, .slice none 0 0], 27), (g5, #[.int .i64 0, .int .i64 0, .int .i64 0, .slice none 0 0, .bool false, .int .i64 0, .int .i64 0, .bool false, .int .i64 0, .int .i64 0, .int .i64 0, .slice none 0 0, .slice none 0 0, .bool false, .int .i64 0, .bool false, .int .i64 0, .int .i64 0, .int .i64 0, .slice none 0 0, .slice none 0 0, .int .i64 0, .bool false, .int .i64 0, .int .i64 0, .int .i64 0, .slice none 0 0, .slice none 0 0], 27), (g4, #[.int .i64 0, .int .i64 0, .int .i64 0, .slice none 0 0, .bool false, .int .i64 0, .int .i64 0, .bool false, .int .i64 0, .int .i64 0, .int .i64 0, .slice none 0 0, .slice none 0 0, .bool false, .int .i64 0, .bool false, .int .i64 0, .int .i64 0, .int .i64 0, .slice none 0 0, .slice none 0 0, .int .i64 0, .bool false, .int .i64 0, .int .i64 0, .int .i64 0, .slice none 0 0, .slice none 0 0], 27)]))) (fun i _ => n - (intOf i).toNat)
  case atStart => exact Lib.hid ⟨0, none, 0, 0, none, 0, 0, by omega, rfl, World.ownsRow_nil _ _ _ _, World.ownsRow_nil _ _ _ _, fun g e => by simp [Value.ownBlock] at e, HM⟩
  case round =>
    clear HM
    obtain ⟨k, A1, n1, c1, A2, n2, c2, hk, rfl, HO1, HO2, HN, HM⟩ := hrel.out
    clear hrel
    by_cases hlt2 : k < n
    · obtain ⟨b, off, rfl⟩ := hl.out.addr (by omega)
      have hx := tcl_at (hl.out.keep HM.out.below) hlt2
      have hst := hsucc.out k hlt2
      have hl1 : (twoC num (l.take k)).length ≤ 20 := by have h1 := htl.out k; have h2 := hlen.out; omega
      have e1 := own_len tclE_len (by decide) HO1.out
      have e2 := own_len tclE_len (by decide) HO2.out
      generalize hT : twoC num (l.take k) = T at *
      generalize hy : l.getD k default = y at *
      replace hy := Lib.hid hy
      obtain ⟨x0, x1, x2, x3, x4, x5⟩ := y
      obtain ⟨q0, q1, q2, q3, q4, q5⟩ := hx
      dsimp only at q0 q1 q2 q3 q4 q5 hst
      have r1 : (k : Int) < (n : Int) := by omega
      replace hst := Lib.hid hst
      replace hT := Lib.hid hT
      have ke := HM.out.cell 1 rfl
      go_upto_region 5 with (first | (refine wpList_allocN HM rfl 67 rfl info_tcl ?_; clear HM; intro gc w1 HM hG hN9) | (refine wpList_storeF 0 HM rfl _ _ _ rfl _ rfl rfl _ rfl (by exact ztcl) (by rfl) (by rfl) ?_; clear HM ke; intro w4 HM hG4; simp only [List.set] at HM; have ke := HM.out.cell 2 rfl))
      have hb_ := hG.out.grown hG4.out hG.out.size (fun k e => by cases e; exact hN9.out)
      have na1 := Lib.hid (own_ne HO1.out hN9.out)
      have na2 := Lib.hid (own_ne HO2.out hN9.out)
      replace HO1 := Lib.hid (owns_keep HO1.out hb_)
      replace HO2 := Lib.hid (owns_keep HO2.out hb_)
      clear q0 q1 q2 q3 q4 q5 hG hG4 hN9 hb_
      have hskip : Hid (∀ w2, twoStep num T ⟨x0, x1, x2, x3, x4, x5⟩ = T → w2.ownsRow w.heap.size 67 6 (.slice A1 n1 c1) n1 (T.flatMap tclE) → w2.ownsRow w.heap.size 67 6 (.slice A2 n2 c2) n2 ((T.map (mirr 1)).flatMap tclE) → Mem w w2 [(g7, #[.int .i64 2, .int .i64 1, .int .i64 num, .slice A2 n2 c2, .bool false, .int .i64 0, .int .i64 0, .bool false, .int .i64 0, .int .i64 0, .int .i64 0, .slice none 0 0, .slice none 0 0, .bool false, .int .i64 0, .bool false, .int .i64 0, .int .i64 0, .int .i64 0, .slice none 0 0, .slice none 0 0, .int .i64 0, .bool false, .int .i64 0, .int .i64 0, .int .i64 0, .slice none 0 0, .slice none 0 0], 27), (g6, #[.int .i64 1, .int .i64 2, .int .i64 num, .slice A1 n1 c1, .bool false, .int .i64 0, .int .i64 0, .bool false, .int .i64 0, .int .i64 0, .int .i64 0, .slice none 0 0, .slice none 0 0, .bool false, .int .i64 0, .bool false, .int .i64 0, .int .i64 0, .int .i64 0, .slice none 0 0, .slice none 0 0, .int .i64 0, .bool false, .int .i64 0, .int .i64 0, .int .i64 0, .slice none 0 0, .slice none 0 0], 27), (g5, #[.int .i64 0, .int .i64 0, .int .i64 0, .slice none 0 0, .bool false, .int .i64 0, .int .i64 0, .bool false, .int .i64 0, .int .i64 0, .int .i64 0, .slice none 0 0, .slice none 0 0, .bool false, .int .i64 0, .bool false, .int .i64 0, .int .i64 0, .int .i64 0, .slice none 0 0, .slice none 0 0, .int .i64 0, .bool false, .int .i64 0, .int .i64 0, .int .i64 0, .slice none 0 0, .slice none 0 0], 27), (g4, #[.int .i64 0, .int .i64 0, .int .i64 0, .slice none 0 0, .bool false, .int .i64 0, .int .i64 0, .bool false, .int .i64 0, .int .i64 0, .int .i64 0, .slice none 0 0, .slice none 0 0, .bool false, .int .i64 0, .bool false, .int .i64 0, .int .i64 0, .int .i64 0, .slice none 0 0, .slice none 0 0, .int .i64 0, .bool false, .int .i64 0, .int .i64 0, .int .i64 0, .slice none 0 0, .slice none 0 0], 27)] → Hid (∃ (k' : Nat) (A1 : Option Addr) (n1 c1 : Nat) (A2 : Option Addr) (n2 c2 : Nat), k' ≤ n ∧ Value.int .i64 ((k : Int) + 1) = .int .i64 k' ∧ Hid (w2.ownsRow w.heap.size 67 6 (.slice A1 n1 c1) n1 ((twoC num (l.take k')).flatMap tclE)) ∧ Hid (w2.ownsRow w.heap.size 67 6 (.slice A2 n2 c2) n2 (((twoC num (l.take k')).map (mirr 1)).flatMap tclE)) ∧ Hid (Apt (.slice A1 n1 c1) (.slice A2 n2 c2)) ∧ Hid (Mem w w2 [(g7, #[.int .i64 2, .int .i64 1, .int .i64 num, .slice A2 n2 c2, .bool false, .int .i64 0, .int .i64 0, .bool false, .int .i64 0, .int .i64 0, .int .i64 0, .slice none 0 0, .slice none 0 0, .bool false, .int .i64 0, .bool false, .int .i64 0, .int .i64 0, .int .i64 0, .slice none 0 0, .slice none 0 0, .int .i64 0, .bool false, .int .i64 0, .int .i64 0, .int .i64 0, .slice none 0 0, .slice none 0 0], 27), (g6, #[.int .i64 1, .int .i64 2, .int .i64 num, .slice A1 n1 c1, .bool false, .int .i64 0, .int .i64 0, .bool false, .int .i64 0, .int .i64 0, .int .i64 0, .slice none 0 0, .slice none 0 0, .bool false, .int .i64 0, .bool false, .int .i64 0, .int .i64 0, .int .i64 0, .slice none 0 0, .slice none 0 0, .int .i64 0, .bool false, .int .i64 0, .int .i64 0, .int .i64 0, .slice none 0 0, .slice none 0 0], 27), (g5, #[.int .i64 0, .int .i64 0, .int .i64 0, .slice none 0 0, .bool false, .int .i64 0, .int .i64 0, .bool false, .int .i64 0, .int .i64 0, .int .i64 0, .slice none 0 0, .slice none 0 0, .bool false, .int .i64 0, .bool false, .int .i64 0, .int .i64 0, .int .i64 0, .slice none 0 0, .slice none 0 0, .int .i64 0, .bool false, .int .i64 0, .int .i64 0, .int .i64 0, .slice none 0 0, .slice none 0 0], 27), (g4, #[.int .i64 0, .int .i64 0, .int .i64 0, .slice none 0 0, .bool false, .int .i64 0, .int .i64 0, .bool false, .int .i64 0, .int .i64 0, .int .i64 0, .slice none 0 0, .slice none 0 0, .bool false, .int .i64 0, .bool false, .int .i64 0, .int .i64 0, .int .i64 0, .slice none 0 0, .slice none 0 0, .int .i64 0, .bool false, .int .i64 0, .int .i64 0, .int .i64 0, .slice none 0 0, .slice none 0 0], 27)]))) := fun w2 hs h1 h2 h3 => Lib.hid ⟨k + 1, A1, n1, c1, A2, n2, c2, by omega, by simp, by show World.ownsRow _ _ _ _ _ _ _; rw [hst.out, hs]; exact h1, by show World.ownsRow _ _ _ _ _ _ _; rw [hst.out, hs]; exact h2, HN, h3⟩
      have kc := HM.out.cell 0 rfl
      by_cases hs : num = 0 ∨ x0 < 0 ∨ 12 ≤ x0 ∨ x1 < 0 ∨ 16 ≤ x1
      · have hss : twoStep num T ⟨x0, x1, x2, x3, x4, x5⟩ = T := by
          unfold twoStep
          rw [if_pos (by rcases hs with h | h | h | h | h <;> simp [h])]
        have hN2 := Lib.hid (hskip.out _ hss HO1.out HO2.out HM.out.tail)
        clear hskip
        have d0 : num = 0 ∨ (num ≠ 0 ∧ (x0 < 0 ∨ (¬ x0 < 0 ∧ (12 ≤ x0 ∨ (¬ 12 ≤ x0 ∧ (x1 < 0 ∨ (¬ x1 < 0 ∧ 16 ≤ x1))))))) := by omega
        clear hs hss
        rcases d0 with h | ⟨h, d0⟩
        · subst h
          go_wp2_with fail
          exact ⟨hN2.out, by simp [intOf]; omega⟩
        have dn : (num == 0) = false := by rw [beq_eq_false_iff_ne]; exact h
        rcases d0 with h1 | ⟨h1, h2 | ⟨h2, h3 | ⟨h3, h4⟩⟩⟩
        all_goals
          go_wp2_with fail
          exact ⟨hN2.out, by simp [intOf]; omega⟩
      · have hn0 : ¬ num = 0 := fun h => hs (.inl h)
        have dn : (num == 0) = false := by rw [beq_eq_false_iff_ne]; exact hn0
        have h1 : ¬ x0 < 0 := by omega
        have h2 : ¬ 12 ≤ x0 := by omega
        have h3 : ¬ x1 < 0 := by omega
        have h4 : ¬ 16 ≤ x1 := by omega
        have hcall := Lib.hid (fun W B1 (h1 : Box W B1 #[.int .i64 x0, .int .i64 x1, .int .i64 x2, .bool x3, .int .i64 x4, .int .i64 x5]) (hx : TclS W A1 n1 T) => cF.out W B1 ⟨x0, x1, x2, x3, x4, x5⟩ A1 n1 c1 T h1 hx)
        have hst2 : Hid (∀ b, (T.any fun x => decide (x0 ≤ x.slot)) = b → twoStep num T ⟨x0, x1, x2, x3, x4, x5⟩ = if b = true then T else T ++ [⟨x0, x1, 2, x3, 2, -1⟩]) := fun b hb => by
          unfold twoStep
          dsimp only
          rw [hb]
          cases b
          · rw [if_neg (by simp; omega), if_neg (by decide)]
          · rw [if_pos (by simp), if_pos rfl]
        dsimp only at hcall
        generalize hAB : (T.any fun x => decide (x0 ≤ x.slot)) = AB at *
        replace hst2 := Lib.hid (hst2.out AB rfl)
        replace hAB := Lib.hid hAB
        clear hs
        cases AB
        case true =>
          have hss := hst2.out
          rw [if_pos rfl] at hss
          have hN2 := Lib.hid (fun W h1 h2 h3 => hskip.out W hss h1 h2 h3)
          clear hskip hst2
          go_wp2_with (first | (go_at_call 70; refine (hcall.out _ _ (HM.out.at_ 0 rfl).box (Sls.of_owns tclE_len HO1.out e1).2).mono ?_; rintro r w5 ⟨rfl, hb_⟩; clear ke kc; replace HO1 := Lib.hid (owns_keep HO1.out hb_); replace HO2 := Lib.hid (owns_keep HO2.out hb_); replace HM := Lib.hid (HM.out.keep hb_); clear hb_) | fail)
          exact ⟨(hN2.out _ HO1.out HO2.out HM.out.tail), by simp [intOf]; omega⟩
        case false =>
          have hss := hst2.out
          rw [if_neg (by decide)] at hss
          have hE1 : Hid (twoC num (l.take (k + 1)) = T ++ [⟨x0, x1, 2, x3, 2, -1⟩]) := hst.out.trans hss
          have hE2 : Hid ((twoC num (l.take (k + 1))).map (mirr 1) = T.map (mirr 1) ++ [⟨x0, x1, 2, !x3, 1, -1⟩]) := by show _ = _; rw [hE1.out, List.map_append]; rfl
          clear hskip hst2 hss hst
          have e3 : (T.map (mirr 1)).length = n2 := e2
          have hn2b : n2 ≤ 20 := by rw [← e3, List.length_map]; exact hl1
          go_upto_region 6 with (first | (go_at_call 70; refine (hcall.out _ _ (HM.out.at_ 0 rfl).box (Sls.of_owns tclE_len HO1.out e1).2).mono ?_; rintro r w5 ⟨rfl, hb_⟩; clear ke kc; replace HO1 := Lib.hid (owns_keep HO1.out hb_); replace HO2 := Lib.hid (owns_keep HO2.out hb_); replace HM := Lib.hid (HM.out.keep hb_); clear hb_) | fail)
          have kc := HM.out.cell 0 rfl
          go_upto_region 7 with (first | (refine wpList_allocN HM rfl 67 rfl info_tcl ?_; clear HM; intro gx w1 HM hG hN9) | (refine wpList_storeF 0 HM rfl _ _ _ rfl _ rfl rfl _ rfl (by exact ztcl) (by rfl) (by rfl) ?_; clear HM kc; intro w4 HM hG4; simp only [List.set] at HM; have kc := HM.out.cell 1 rfl))
          have hb_ := hG.out.grown hG4.out hG.out.size (fun k e => by cases e; exact hN9.out)
          have nx1 := Lib.hid (own_ne HO1.out hN9.out)
          have nx2 := Lib.hid (own_ne HO2.out hN9.out)
          replace HO1 := Lib.hid (owns_keep HO1.out hb_)
          replace HO2 := Lib.hid (owns_keep HO2.out hb_)
          clear hG hG4 hN9 hb_ kc
          have ke := HM.out.cell 3 rfl
          have e4 : T.length = n1 := e1
          go_upto_region 8 with (first
            | (refine wpList_loadG 0 HM (by rfl) _ _ rfl _ rfl rfl _ uT.out rfl (by exact ztcl) ?_)
            | (at_builtin; refine wpList_append_sls eltT _ rfl _ _ rfl w.heap.size (.slice A1 n1 c1) (T) rfl (by rw [e4]; exact HO1.out.alloc _) _ 1 1 [⟨x0, x1, 2, x3, 2, -1⟩] rfl (Sls.one (t := 67) (Blk.new _ _ _)) (by rw [e4]; simp; omega) (by exact (ballN HM.out.below _).size) ?_; intro v1 w6 HOa HGa hVa; rw [List.length_append, e4, List.length_singleton] at HOa; obtain ⟨Aa, ca, rfl⟩ := own_slice HOa; have HNa := Lib.hid (HN.out.app (HO2.out.alloc _) hVa); have nxa := Lib.hid (own_ne' nx1.out ((HM.out.keep (ball _ _)).at_ 0 rfl).lt hVa); replace HM := Lib.hid ((HM.out.keep (ball _ _)).row2 (HO1.out.alloc _) HGa (Nat.le_refl _) nx1.out na1.out (apart_of (by rfl))); replace HO2 := Lib.hid (HN.out.kept (HO2.out.alloc _) HGa); replace HOa := Lib.hid HOa; clear HGa hVa; clear ke; have ke := HM.out.cell 3 rfl)
            | (refine wpList_storeM 3 HM rfl _ _ _ rfl _ _ rfl rfl _ (by conv => {lhs; whnf}) (by exact zslT) (by rfl) (Nat.le_of_ble_eq_true (by rfl)) _ (by simp only [setL, List.set, Value.cells]; exact rfl) ?_; have hBq := HM.out.at_ 3 rfl; clear HM ke; intro w4 HM hG4; simp only [List.set] at HM; replace HOa := Lib.hid (own_put HOa.out hBq (by decide) hG4.out); replace HO2 := Lib.hid (own_put HO2.out hBq (by decide) hG4.out); clear hBq hG4; have ke := HM.out.cell 3 rfl)
            | fail)
          clear ke HO1 HN
          have kc := HM.out.cell 1 rfl
          have kx := HM.out.cell 0 rfl
          go_upto_region 9 with (first
            | (refine wpList_storeM 0 HM rfl _ _ _ rfl _ _ rfl rfl _ (by conv => {lhs; whnf}) (by exact zone_b) (by rfl) (Nat.le_of_ble_eq_true (by rfl)) _ (by simp only [setL, List.set, Value.cells]; exact rfl) ?_; have hBq := HM.out.at_ 0 rfl; clear HM kc kx; intro w4 HM hG4; simp only [List.set] at HM; replace HOa := Lib.hid (HOa.out.kept hG4.out (.inr nxa.out)); replace HO2 := Lib.hid (HO2.out.kept hG4.out (.inr nx2.out)); clear hBq hG4; have kc := HM.out.cell 1 rfl; have kx := HM.out.cell 0 rfl)
            | (refine wpList_storeM 0 HM rfl _ _ _ rfl _ _ rfl rfl _ (by conv => {lhs; whnf}) (by exact zone_i) (by rfl) (Nat.le_of_ble_eq_true (by rfl)) _ (by simp only [setL, List.set, Value.cells]; exact rfl) ?_; have hBq := HM.out.at_ 0 rfl; clear HM kc kx; intro w4 HM hG4; simp only [List.set] at HM; replace HOa := Lib.hid (HOa.out.kept hG4.out (.inr nxa.out)); replace HO2 := Lib.hid (HO2.out.kept hG4.out (.inr nx2.out)); clear hBq hG4; have kc := HM.out.cell 1 rfl; have kx := HM.out.cell 0 rfl)
            | fail)
          clear kc kx
          have ke := HM.out.cell 2 rfl
          go_wp2_with (first
            | (refine wpList_loadG 0 HM (by rfl) _ _ rfl _ rfl rfl _ uT.out rfl (by exact ztcl) ?_)
            | (at_builtin; refine wpList_append_sls eltT _ rfl _ _ rfl w.heap.size (.slice A2 n2 c2) (T.map (mirr 1)) rfl (by rw [e3]; exact HO2.out.alloc _) _ 1 1 [⟨x0, x1, 2, !x3, 1, -1⟩] rfl (Sls.one (t := 67) (Blk.new _ _ _)) (by rw [e3]; simp; omega) (by exact (ballN HM.out.below _).size) ?_; intro v1 w6 HOb HGa hVa; rw [List.length_append, e3, List.length_singleton] at HOb; obtain ⟨Ab, cb, rfl⟩ := own_slice HOb; have HNb := Lib.hid (HNa.out.symm.app (HOa.out.alloc _) hVa); have nxb := Lib.hid (own_ne' nx2.out ((HM.out.keep (ball _ _)).at_ 0 rfl).lt hVa); replace HM := Lib.hid ((HM.out.keep (ball _ _)).row2 (HO2.out.alloc _) HGa (Nat.le_refl _) nx2.out na2.out (apart_of (by rfl))); replace HOa := Lib.hid (HNa.out.symm.kept (HOa.out.alloc _) HGa); replace HOb := Lib.hid HOb; clear HGa hVa; clear ke; have ke := HM.out.cell 2 rfl)
            | (refine wpList_storeM 2 HM rfl _ _ _ rfl _ _ rfl rfl _ (by conv => {lhs; whnf}) (by exact zslT) (by rfl) (Nat.le_of_ble_eq_true (by rfl)) _ (by simp only [setL, List.set, Value.cells]; exact rfl) ?_; have hBq := HM.out.at_ 2 rfl; clear HM ke; intro w4 HM hG4; simp only [List.set] at HM; replace HOa := Lib.hid (own_put HOa.out hBq (by decide) hG4.out); replace HOb := Lib.hid (own_put HOb.out hBq (by decide) hG4.out); clear hBq hG4; have ke := HM.out.cell 2 rfl)
            | fail)
          have HOa2 : Hid (w4.ownsRow w.heap.size 67 6 (.slice Aa (n1 + 1) ca) (n1 + 1) ((twoC num (l.take (k + 1))).flatMap tclE)) := by show World.ownsRow _ _ _ _ _ _ _; rw [hE1.out]; exact HOa.out
          have HOb2 : Hid (w4.ownsRow w.heap.size 67 6 (.slice Ab (n2 + 1) cb) (n2 + 1) (((twoC num (l.take (k + 1))).map (mirr 1)).flatMap tclE)) := by show World.ownsRow _ _ _ _ _ _ _; rw [hE2.out]; exact HOb.out
          have HM2 := Lib.hid HM.out.tail.tail
          have HN3 := Lib.hid HNb.out.symm
          exact ⟨Lib.hid ⟨k + 1, Aa, n1 + 1, ca, Ab, n2 + 1, cb, by omega, by go_num, HOa2, HOb2, HN3, HM2⟩, by simp [intOf]; omega⟩
    · have hkn : l.take k = l := List.take_of_length_le (by have := hlen.out; omega)
      rw [hkn] at HO1 HO2
      have hV1 : Hid (EdOwn wr ⟨A1, n1, c1, msgV0, msgV0, msgV0⟩ (twoA num l)) := ⟨⟨_, HO1.out⟩, own_len tclE_len (by decide) HO1.out, MsgOwn.zero _, MsgOwn.zero _, MsgOwn.zero _⟩
      have hV2 : Hid (EdOwn wr ⟨A2, n2, c2, msgV0, msgV0, msgV0⟩ (twoB num l)) := ⟨⟨_, HO2.out⟩, own_len tclE_len (by decide) HO2.out, MsgOwn.zero _, MsgOwn.zero _, MsgOwn.zero _⟩
      go_upto_region 11 with fail
      have HMd := Lib.hid HM.out.drew
      replace hV1 := Lib.hid (hV1.out.keep ((Below.refl _ _).drew))
      replace hV2 := Lib.hid (hV2.out.keep ((Below.refl _ _).drew))
      clear HM 
      have HM := HMd
      clear HMd
      have HMs := Lib.hid (HM.out.less 3)
      simp only [List.eraseIdx] at HMs
      refine wp_region_plan (fun w' => Mem w w' _) 3 [(0, true), (1, true), (2, false)] (by kernel_rfl) (by kernel_rfl) HMs.out ?_
      refine plTakeL (by rfl) (yields_memw rfl _ _ rfl 1 (fun w_ hSw => hSw) rfl rfl _ uE.out rfl (by exact zend)) ?_
      try simp only [Act.put, List.setIfInBounds_toArray, List.set_cons_zero, List.set_cons_succ, List.getElem_toArray, List.getElem_cons_succ, List.getElem_cons_zero]
      refine plTakeL (by rfl) (yields_memw rfl _ _ rfl 0 (fun w_ hSw => hSw) rfl rfl _ uE.out rfl (by exact zend)) ?_
      try simp only [Act.put, List.setIfInBounds_toArray, List.set_cons_zero, List.set_cons_succ, List.getElem_toArray, List.getElem_cons_succ, List.getElem_cons_zero]
      clear HMs
      refine plStepL rfl rfl fun K hK => ?_
      go_wp2_with (first | (refine wpList_storeF 3 HM rfl _ _ _ rfl _ rfl rfl _ rfl (by exact zend) (by rfl) (by rfl) ?_; have hBq := HM.out.at_ 3 rfl; clear HM; intro w4 HM hG4; simp only [List.set] at HM; replace hV1 := Lib.hid (hV1.out.put hBq (by decide) (by decide) hG4.out); replace hV2 := Lib.hid (hV2.out.put hBq (by decide) (by decide) hG4.out); clear hBq hG4) | fail)
      refine hK.out _ _ (HM.out.less 3) fun hS_ => ?_
      clear hK K hS_
      try simp only [Act.put, List.setIfInBounds_toArray, List.set_cons_zero, List.set_cons_succ, List.getElem_toArray, List.getElem_cons_succ, List.getElem_cons_zero]
      refine plDone ?_
      simp only [List.drop]
      go_wp2_with (first | (refine wpList_storeF 2 HM rfl _ _ _ rfl _ rfl rfl _ rfl (by exact zend) (by rfl) (by rfl) ?_; have hBq := HM.out.at_ 2 rfl; clear HM; intro w4 HM hG4; simp only [List.set] at HM; replace hV1 := Lib.hid (hV1.out.put hBq (by decide) (by decide) hG4.out); replace hV2 := Lib.hid (hV2.out.put hBq (by decide) (by decide) hG4.out); clear hBq hG4) | fail)
      try simp only [Exit.inBlock, Exit.then]
      refine bodyPost_ret (results_cc rfl (HM.out.at_ 3 rfl) (HM.out.at_ 2 rfl) rfl rfl _ uE.out rfl (by exact zend) _ uE.out rfl (by exact zend)) rfl ?_
      exact hP.out _ _ _ hV1.out hV2.out HM.out.below
end Tx
end Go.Proofs.YtkfipbelhlcddaaGreat

namespace Go.Proofs.YtkfipbelhlcddaaGreat
open Go Go.RowKit Go.Sort Go.Lib Go.Shelf Go.Maps
namespace Tx
open Sw Mm
set_option maxRecDepth 100000 in
set_option maxHeartbeats 4000000 in
theorem opp_any (A B : Option Addr) (n cp m cq : Nat) (xs ys : List TCl) (w : World) (h : TclS w A n xs) (h2 : TclS w B m ys) (ho : oppN xs ys = true) :
    Calls Tryz.prog 26 #[.slice A n cp, .slice B m cq] w fun e w' => e = .returned (.bool true) ∧ Below w.heap.size w w' := by
  have hlen := h.len
  have hlen2 := h2.len
  have hs := h.small
  unfold maxLen at hs
  unfold oppN at ho
  rw [Bool.and_eq_true, decide_eq_true_eq] at ho
  obtain ⟨hll, hall⟩ := ho
  obtain rfl : n = m := by omega
  have hk := fun k (hk : k < n) => Sw.all_range hall (k := k) (by omega)
  clear hll hall
  replace h := Lib.hid h
  replace h2 := Lib.hid h2
  replace hlen := Lib.hid hlen
  replace hlen2 := Lib.hid hlen2
  replace hk := Lib.hid hk
  go_enter Tryz.func26, Tryz.ntmps26
  go_wp2_with fail
  go_loopw [5] (fun i wr => ∃ k : Nat, k ≤ n ∧ i = .int .i64 k ∧ Hid (Below w.heap.size w wr)) (fun i _ => n - (intOf i).toNat)
  case atStart => exact ⟨0, by omega, rfl, Below.refl _ _⟩
  case round =>
    obtain ⟨k, hkn, rfl, HB⟩ := hrel
    by_cases hlt : k < n
    · obtain ⟨b, off, rfl⟩ := h.out.addr (by omega)
      obtain ⟨b2, off2, rfl⟩ := h2.out.addr (by omega)
      have hx := tcl_at (h.out.keep HB.out) hlt
      have hy := tcl_at (h2.out.keep HB.out) hlt
      have hq := hk.out k hlt
      generalize xs.getD k default = x at *
      generalize ys.getD k default = y at *
      obtain ⟨x0, x1, x2, x3, x4, x5⟩ := x
      obtain ⟨y0, y1, y2, y3, y4, y5⟩ := y
      obtain ⟨q0, q1, q2, q3, q4, q5⟩ := hx
      obtain ⟨r0, r1, r2, r3, r4, r5⟩ := hy
      dsimp only at q0 r0 q1 r1 q3 r3 hq
      simp only [Bool.and_eq_true, decide_eq_true_eq] at hq
      obtain ⟨rfl, rfl, hne⟩ := hq
      obtain rfl : y3 = !x3 := by cases x3 <;> cases y3 <;> simp_all
      have g0 := cell_regrown q0
      have u0 := cell_regrown r0
      have g1 := cell_regrown q1
      have u1 := cell_regrown r1
      have g3 := cell_regrown q3
      have u3 := cell_regrown r3
      have r1' : (k : Int) < (n : Int) := by omega
      have r0' : (0 : Int) ≤ (k : Int) := by omega
      clear q0 r0 q1 r1 q2 r2 q3 r3 q4 r4 q5 r5 hne
      cases x3
      all_goals
        go_wp2_with fail
        refine wp_region_quiet_below (by kernel_rfl) (by kernel_rfl) ?_
        repeat (go_big_quiet_step (fail))
        refine wpQuiet_nil ?_
        rintro _ ⟨⟨dq, osq⟩, rfl⟩
        have hb_ := below_regrown wr dq osq
        replace HB := Lib.hid (HB.out.keep hb_)
        generalize grow (redrawn wr dq) osq = w2 at *
        clear hb_
        go_wp2
        go_roundw
        case rel => exact ⟨k + 1, by omega, by go_num, HB⟩
        case measure => simp [intOf]; omega
    · obtain rfl : k = n := by omega
      go_wp2
      go_ret
      exact ⟨rfl, HB.out⟩
end Tx
end Go.Proofs.YtkfipbelhlcddaaGreat
