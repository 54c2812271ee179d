/- Chapter 16: Add, the program's. -/
import Derived.Test.YtkfipbelhlcddaaGreatMv
set_option linter.unusedVariables false
set_option linter.unusedSimpArgs false
namespace Go.Proofs.YtkfipbelhlcddaaGreat
open Go Go.RowKit Go.Sort Go.Shelf Go.Maps
namespace Tx
open Sw Mm
theorem bs_taken {ls : List TCl} {x : TCl} {i : Nat} {f : Bool} (ha : AscN ls) (h : BS ls x i f) : f = takenS ls x.slot x.kind := by
  rw [h.found, Bool.eq_iff_iff]
  unfold takenS
  rw [List.any_eq_true]
  simp only [Bool.and_eq_true, decide_eq_true_eq]
  constructor
  · rintro ⟨h1, h2⟩
    exact ⟨_, getD_mem h1, (cmpT_zero _ _).1 h2⟩
  · rintro ⟨y, hy, e1, e2⟩
    obtain ⟨j, hj, rfl⟩ := mem_getD hy
    have hnl : ¬ ltT (ls.getD j default) x := by unfold ltT; omega
    have hij : i ≤ j := Nat.le_of_not_lt fun c => hnl (h.below j c)
    rcases Nat.lt_or_ge i j with c | c
    · have h1 := ha i j c hj
      have h2 := h.above i (Nat.le_refl _) (by omega)
      exact absurd (by unfold ltT at *; omega) h2
    · obtain rfl : i = j := by omega
      exact ⟨hj, (cmpT_zero _ _).2 ⟨e1, e2⟩⟩
set_option maxRecDepth 100000 in
set_option maxHeartbeats 4000000 in
theorem add_any (t : Tab) (v : TabV) (c : TCl) (w : World) (h : TabIs w v t) : Calls Tryz.prog 76 #[.agg #[.int .i64 t.node, .int .i64 t.length, .slice v.A v.n v.c], .agg #[.int .i64 c.slot, .int .i64 c.off, .int .i64 c.kind, .bool c.send, .int .i64 c.peer, .int .i64 c.flow]] w (AddPost t c w) := by
  have HM := Lib.hid (Mem.start w)
  have cK := fun W (hb : Below w.heap.size w W) => chkT_any t v W (h.keep hb)
  have cF := fun W => form_any c t.node t.length W
  have hasc : chkT t = 0 → AscN t.cells := fun e => ascN_of ((chkT_iff t).1 e).asc
  have cB := fun W (hb : Below w.heap.size w W) (ha : AscN t.cells) (hn : v.n ≤ 1000) => search_any v.A v.n v.c t.cells c W (h.cells.keep hb) ha hn
  have hbt := fun (ha : AscN t.cells) i f (hs : BS t.cells c i f) => bs_taken ha hs
  have cC := fun W (hb : Below w.heap.size w W) (hn : v.n ≤ 100000) => cloneT_any v.A v.n v.c t.cells W (h.cells.keep hb) hn
  have cI := fun A1 p1 base i vb W a1 a2 a3 a4 a5 a6 => insert_any A1 v.n p1 base i vb t.cells c W a1 a2 a3 a4 a5 a6
  have hput := putN_at t.cells c
  have hl := h.cells.len
  have hsm := h.cells.small
  unfold maxLen at hsm
  have hlen : chkT t = 0 → v.n ≤ 512 := fun e => by have := ((chkT_iff t).1 e).size; omega
  have hF : addC t c = if chkT t ≠ 0 then 1 else if formN c t.node t.length ≠ 0 then formN c t.node t.length else if takenS t.cells c.slot c.kind = true then 16 else if t.cells.length = 512 then 8 else 0 := rfl
  rw [hl] at hF
  have hPb := fun F w' e1 e2 e3 => addPost_bad (t := t) (c := c) (F := F) (w := w) (w' := w') e1 e2 rfl e3
  have hPo := fun w' (v : TabV) e1 e2 e3 e4 => addPost_ok (t := t) (c := c) (w := w) (w' := w') (v := v) e1 rfl e2 e3 e4
  generalize AddPost t c w = P at *
  generalize addC t c = AC at *
  generalize chkT t = C1 at *
  generalize formN c t.node t.length = FO at *
  generalize takenS t.cells c.slot c.kind = TK at *
  obtain ⟨t0, t1, t2⟩ := t
  obtain ⟨c0, c1, c2, c3, c4, c5⟩ := c
  obtain ⟨A, n, cp⟩ := v
  dsimp only at *
  have uM := Tryz.underlying29
  replace h := Lib.hid h
  replace cK := Lib.hid cK
  replace cF := Lib.hid cF
  replace cB := Lib.hid cB
  replace cC := Lib.hid cC
  replace cI := Lib.hid cI
  replace hasc := Lib.hid hasc
  replace hbt := Lib.hid hbt
  replace hput := Lib.hid hput
  replace hl := Lib.hid hl
  replace hlen := Lib.hid hlen
  replace hF := Lib.hid hF
  replace hPb := Lib.hid hPb
  replace hPo := Lib.hid hPo
  replace uM := Lib.hid uM
  go_enter Tryz.func76, Tryz.ntmps76
  go_upto_region 1 with (first | (refine wpList_boxA HM rfl 29 _ rfl _ rfl ?_; clear HM; intro gt w1 HM hG; clear hG) | (refine wpList_boxA HM rfl 67 _ rfl _ rfl ?_; clear HM; intro gc w1 HM hG; clear hG) | (refine wpList_allocA HM rfl 29 rfl (by first | exact msgInfo | exact edInfo | exact tabInfo | exact info_tcl | exact info_spt) ?_; clear HM; intro g4 w1 HM hG; clear hG))
  have kt := HM.out.cell 2 rfl
  have kc := HM.out.cell 1 rfl
  go_upto_region 6 with (first
    | (refine wpList_storeM 0 HM rfl _ _ _ rfl _ _ rfl rfl _ (by conv => {lhs; whnf}) (by exact ztab) (by rfl) (Nat.le_of_ble_eq_true (by rfl)) _ (by simp only [setL, List.set, Value.cells]; exact rfl) ?_; clear HM kt kc; intro w4 HM hG4; simp only [List.set] at HM; have kt := HM.out.cell 2 rfl; have kc := HM.out.cell 1 rfl)
    | (go_at_call 73; refine (cK.out _ HM.out.below).mono ?_; rintro e w3 ⟨rfl, hb_⟩; have HM2 := Lib.hid (HM.out.keep hb_); clear HM hb_ kt kc cK; have HM := HM2; clear HM2; have kt := HM.out.cell 2 rfl; have kc := HM.out.cell 1 rfl)
    | (go_at_call 123; refine (cF.out _).mono ?_; rintro e w3 ⟨rfl, hb_⟩; have HM2 := Lib.hid (HM.out.keep hb_); clear HM hb_ kt kc cF; have HM := HM2; clear HM2; have kt := HM.out.cell 2 rfl; have kc := HM.out.cell 1 rfl)
    | fail)
  all_goals try
    (try simp only [Exit.inBlock, Exit.then]
     refine bodyPost_ret (results_ct rfl (HM.out.at_ 0 rfl) rfl _ uM.out rfl (by exact ztab)) rfl ?_
     have f1 := hF.out
     try simp only [bne_iff_ne, beq_iff_eq, ne_eq, bne_eq_false_iff_eq] at *
     first
     | exact hPb.out _ _ (f1.trans (by simp [*] : _ = (1 : Int))) (by decide) HM.out.below
     | exact hPb.out FO _ (f1.trans (by simp [*])) (by assumption) HM.out.below
     | fail)
  try simp only [bne_iff_ne, beq_iff_eq, ne_eq, bne_eq_false_iff_eq, beq_eq_false_iff_ne] at *
  have hC1 : Hid (C1 = 0) := by show _ = _; first | assumption | rfl
  have hn5 := hlen.out hC1.out
  have ha := Lib.hid (hasc.out hC1.out)
  have hF2 : Hid (AC = if TK = true then 16 else if n = 512 then 8 else 0) := by
    have f1 := hF.out
    show _ = _; rw [f1]; simp [*]
  clear hF hlen hasc
  go_wp2_with fail
  refine (cB.out _ HM.out.below ha.out (by omega)).mono ?_
  rintro e w3 ⟨i, f, hS, rfl, hb_⟩
  have HM2 := Lib.hid (HM.out.keep hb_); clear HM hb_ kt kc cB; have HM := HM2; clear HM2; have kt := HM.out.cell 2 rfl; have kc := HM.out.cell 1 rfl
  have hft := Lib.hid (hbt.out ha.out i f hS)
  have hi1 := hS.le
  have hi2 := hS.below
  have hi3 := hS.above
  clear hS hbt
  rw [hl.out] at hi1 hi3
  have hput2 : Hid (putN t2 ⟨c0, c1, c2, c3, c4, c5⟩ = t2.take i ++ ⟨c0, c1, c2, c3, c4, c5⟩ :: t2.drop i) := hput.out i (by rw [hl.out]; exact hi1) hi2 (by
    by_cases e : i = n
    · exact .inl (by rw [hl.out]; exact e)
    · exact .inr (hi3 i (Nat.le_refl _) (by omega)))
  clear hi2 hi3 hput
  cases f with
  | true =>
    go_wp2_with (refine wpList_storeM 0 HM rfl _ _ _ rfl _ _ rfl rfl _ (by conv => {lhs; whnf}) (by exact ztab) (by rfl) (Nat.le_of_ble_eq_true (by rfl)) _ (by simp only [setL, List.set, Value.cells]; exact rfl) ?_; clear HM kt kc; intro w4 HM hG4; simp only [List.set] at HM; have kt := HM.out.cell 2 rfl; have kc := HM.out.cell 1 rfl)
    all_goals
      try simp only [Exit.inBlock, Exit.then]
      refine bodyPost_ret (results_ct rfl (HM.out.at_ 0 rfl) rfl _ uM.out rfl (by exact ztab)) rfl ?_
      exact hPb.out 16 _ (hF2.out.trans (by rw [← hft.out]; rfl)) (by decide) HM.out.below
  | false =>
    by_cases hf5 : n = 512
    · subst hf5
      go_wp2_with (refine wpList_storeM 0 HM rfl _ _ _ rfl _ _ rfl rfl _ (by conv => {lhs; whnf}) (by exact ztab) (by rfl) (Nat.le_of_ble_eq_true (by rfl)) _ (by simp only [setL, List.set, Value.cells]; exact rfl) ?_; clear HM kt kc; intro w4 HM hG4; simp only [List.set] at HM; have kt := HM.out.cell 2 rfl; have kc := HM.out.cell 1 rfl)
      all_goals
        try simp only [Exit.inBlock, Exit.then]
        refine bodyPost_ret (results_ct rfl (HM.out.at_ 0 rfl) rfl _ uM.out rfl (by exact ztab)) rfl ?_
        exact hPb.out 8 _ (hF2.out.trans (by rw [← hft.out]; rfl)) (by decide) HM.out.below
    · have d5 : ((n : Int) == 512) = false := by rw [beq_eq_false_iff_ne]; omega
      have hC : Hid (AC = 0) := by show _ = _; rw [hF2.out, ← hft.out]; simp [hf5]
      clear hF2 hPb hft
      replace hf5 := Lib.hid hf5
      go_upto_region 11 with fail
      have ktA := fun o => (HM.out.keep (ball _ o)).cell 2 rfl
      have kcA := fun o => (HM.out.keep (ball _ o)).cell 1 rfl
      go_region_with (first
          | (go_at_call 75; (with_reducible show Calls _ _ _ (World.drew (World.alloc _ _)) _); refine (cC.out _ (bthen HM.out.below (ballN (Below.refl _ _) _).drew) (by omega)).mono ?_; rintro e w5 ⟨A1, p1, rfl, hO1, hB_⟩; have hB5 : Below w3.heap.size w3 w5 := bthen (ballN (Below.refl _ _) _).drew hB_; have hv5 : Blk w5 w3.heap.size _ _ := ((Blk.new _ _ _).drew).keep hB_; have m5 := HM.out.keep hB5; have kt5 := m5.cell 2 rfl; have kc5 := m5.cell 1 rfl)
          | (go_at_call 75; refine (cC.out _ (bthen HM.out.below (Below.refl _ _).drew) (by omega)).mono ?_; rintro e w5 ⟨A1, p1, rfl, hO1, hB_⟩; have hB5 : Below w3.heap.size w3 w5 := bthen (Below.refl _ _).drew hB_; have m5 := HM.out.keep hB5; have kt5 := m5.cell 2 rfl; have kc5 := m5.cell 1 rfl; have kt6 := fun o => (m5.keep (ball _ o)).cell 2 rfl; have kc6 := fun o => (m5.keep (ball _ o)).cell 1 rfl)
          | (go_at_call 127; (with_reducible show Calls _ _ _ (World.alloc _ _) _); refine (cI.out A1 p1 _ i w5.heap.size _ (hO1.alloc _) hi1 (Blk.new _ _ _) (fun e => absurd (hO1.lt _ e).2 (Nat.lt_irrefl _)) (by omega) (Nat.le_trans hB_.size (by simp))).mono ?_; rintro e w6 ⟨A2, p2, rfl, hO2, hG2⟩; have HM6 := Lib.hid ((HM.out.keep (ballN hB5 _)).rowB (hO1.alloc _) hG2 (HM.out.drew).below.size (fun x hx => (HM.out.drew.blk x hx).lt)); have hk6 := Lib.hid (HM6.out.at_ 2 rfl); have kc6 := hk6.out.cell; have kf6 := hk6.out.free)
          | (go_at_call 127; refine (cI.out A1 p1 _ i w3.heap.size _ hO1 hi1 hv5 (fun e => absurd (hO1.lt _ e).1 (by simp)) (by omega) hB_.size).mono ?_; rintro e w6 ⟨A2, p2, rfl, hO2, hG2⟩; have HM6 := Lib.hid ((HM.out.keep hB5).rowB hO1 hG2 (HM.out.keep (ballN (Below.refl _ _) _).drew).below.size (fun x hx => ((HM.out.keep (ballN (Below.refl _ _) _).drew).blk x hx).lt)); have hk6 := Lib.hid (HM6.out.at_ 2 rfl); have kc6 := hk6.out.cell; have kf6 := hk6.out.free)
          | fail)
      all_goals
        have HM7 : Hid (Mem w (w6.setCell ⟨gt, 2, none⟩ (.slice A2 (n + 1) p2)) [(g4, #[.int .i64 0, .int .i64 0, .slice none 0 0], 29), (gc, #[.int .i64 c0, .int .i64 c1, .int .i64 c2, .bool c3, .int .i64 c4, .int .i64 c5], 67), (gt, #[.int .i64 t0, .int .i64 t1, .slice A2 (n + 1) p2], 29)]) := HM6.out.setc 2 rfl 2 [.slice A2 (n + 1) p2] _ rfl
        have hO7 := own_setc hO2 hk6.out (by decide) 2 [.slice A2 (n + 1) p2]
        change World.ownsRow (w6.setCell ⟨gt, 2, none⟩ (.slice A2 (n + 1) p2)) _ _ _ _ _ _ at hO7
        generalize w6.setCell ⟨gt, 2, none⟩ (.slice A2 (n + 1) p2) = w7 at *
        clear HM HM6 hO2 hG2 hk6 kc6 kf6 ktA kcA kt5 kc5 m5
        have HM := HM7
        clear HM7
        have hB4 := Lib.hid (HM.out.at_ 0 rfl)
        rw [← hput2.out] at hO7
        replace hO7 := Lib.hid hO7
        have kt := HM.out.cell 2 rfl
        go_wp2_with (refine wpList_storeM 0 HM rfl _ _ _ rfl _ _ rfl rfl _ (by conv => {lhs; whnf}) (by exact ztab) (by rfl) (Nat.le_of_ble_eq_true (by rfl)) _ (by simp only [setL, List.set, Value.cells]; exact rfl) ?_; clear HM kt; intro w4 HM hG4; simp only [List.set] at HM; have kt := HM.out.cell 2 rfl)
        try simp only [Exit.inBlock, Exit.then]
        refine bodyPost_ret (results_ct rfl (HM.out.at_ 0 rfl) rfl _ uM.out rfl (by exact ztab)) rfl ?_
        have hO8 := hO7.out.kept hG4.out (.inr (row_ne_blk hO7.out hB4.out (by decide)))
        exact hPo.out _ ⟨A2, n + 1, p2⟩ hC.out (Sls.of_owns tclE_len hO8 (by rw [putN_len, hl.out])).2 (own_cap hO8) HM.out.below
end Tx
end Go.Proofs.YtkfipbelhlcddaaGreat
