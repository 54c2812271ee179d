/- Chapter 25: Accept. -/
import Derived.Test.YtkfipbelhlcddaaGreatTxF
set_option linter.unusedVariables false
set_option linter.unusedSimpArgs false
namespace Go.Proofs.YtkfipbelhlcddaaGreat
open Go Go.RowKit Go.Sort Go.Lib Go.Shelf Go.Maps
namespace Tx
open Sw Mm
def AccPost (q : Msg) (count : Int) (l old : List Spt) (w : World) (e : Ending) (w' : World) : Prop := ∃ v, e = .returned (.tuple #[.agg (msgA (accN q count l old) v), .int .i64 (accC q count l old)]) ∧ MsgIs w' v (accN q count l old) ∧ Below w.heap.size w w'
theorem accPost_bad {q : Msg} {count F : Int} {l old : List Spt} {w w' : World} {e : Ending} (hF : accC q count l old = F) (h0 : F ≠ 0) (h : e = .returned (.tuple #[.agg #[.int .i64 0, .bool false, .int .i64 0, .int .i64 0, .int .i64 0, .slice none 0 0, .slice none 0 0], .int .i64 F])) (hb : Below w.heap.size w w') : AccPost q count l old w e w' := by
  have hN : accN q count l old = msg0 := by unfold accN; rw [hF, if_neg h0]
  unfold AccPost
  rw [hN, hF]
  exact ⟨msgV0, h, MsgIs.zero _, hb⟩
theorem accPost_ok {q : Msg} {count : Int} {l old : List Spt} {w w' : World} {e : Ending} (hF : accC q count l old = 0) {v : MsgV} (h : e = .returned (.tuple #[.agg (msgA (accM q count l old) v), .int .i64 0])) (hv : MsgIs w' v (accM q count l old)) (hb : Below w.heap.size w w') : AccPost q count l old w e w' := by
  have hN : accN q count l old = accM q count l old := by unfold accN; rw [hF, if_pos rfl]
  unfold AccPost
  rw [hN, hF]
  exact ⟨v, h, hv, hb⟩
set_option maxRecDepth 100000 in
set_option maxHeartbeats 4000000 in
theorem acc_any (q : Msg) (vq : MsgV) (count : Int) (A B : Option Addr) (n c m d : Nat) (l old : List Spt) (w : World) (h1 : MsgIs w vq q) (hl : SptS w A n l) (ho : SptS w B m old) (hn : n ≤ 100000) (hm : m ≤ 100000) : Calls Tryz.prog 55 #[.agg #[.int .i64 q.kind, .bool q.reply, .int .i64 q.number, .int .i64 q.code, .int .i64 q.count, .slice vq.sA vq.sn vq.sc, .slice vq.oA vq.on vq.oc], .int .i64 count, .slice A n c, .slice B m d] w (AccPost q count l old w) := by
  have HM := ((Mem.start w).alloc #[.int .i64 q.kind, .bool q.reply, .int .i64 q.number, .int .i64 q.code, .int .i64 q.count, .slice vq.sA vq.sn vq.sc, .slice vq.oA vq.on vq.oc] 25).alloc #[.int .i64 0, .bool false, .int .i64 0, .int .i64 0, .int .i64 0, .slice none 0 0, .slice none 0 0] 25
  rw [size1] at HM
  have cQ := chkM_any q vq _ (h1.keep HM.below)
  have cL := fun W hb => cloneS_any A n c l W (hl.keep (w' := W) hb) hn
  have cO := fun W hb => cloneS_any B m d old W (ho.keep (w' := W) hb) hm
  have cA := fun v W hb hv => ans_any q (accM q count l old) vq v W (h1.keep (w' := W) hb) hv
  have hF : accC q count l old = accC q count l old := rfl
  conv at hF => rhs; unfold accC
  generalize hP : AccPost _ _ _ _ _ = P
  generalize chkM q = C1 at *
  generalize ansN q (accM q count l old) = AN at *
  obtain ⟨k0, r0, n0, c0, t0, s0, o0⟩ := q
  dsimp only [accM] at *
  have kq := HM.cell 1 rfl
  have uM := Tryz.underlying25
  replace h1 := Lib.hid h1
  replace HM := Lib.hid HM
  replace cQ := Lib.hid cQ
  replace cL := Lib.hid cL
  replace cO := Lib.hid cO
  replace cA := Lib.hid cA
  replace hF := Lib.hid hF
  replace uM := Lib.hid uM
  replace hP := Lib.hid hP
  replace hl := Lib.hid hl
  replace ho := Lib.hid ho
  go_enter Tryz.func55, Tryz.ntmps55
  go_wp2_with fail
  refine cQ.out.mono ?_
  rintro e w3 ⟨rfl, hb_⟩
  replace HM := Lib.hid (HM.out.keep hb_)
  clear hb_ kq cQ
  have kq := HM.out.cell 1 rfl
  go_upto_region 3 with (refine wpList_storeM 0 HM rfl _ _ _ rfl _ _ rfl rfl _ (by conv => {lhs; whnf}) (by exact zmsg) (by rfl) (Nat.le_of_ble_eq_true (by rfl)) _ (by simp only [setL, List.set, Value.cells]; exact rfl) ?_; clear HM kq; intro w4 HM hG4; simp only [List.set] at HM; have kq := HM.out.cell 1 rfl)
  all_goals try
    (have f1 := hF.out
     try simp only [Exit.inBlock, Exit.then]
     refine bodyPost_ret (results_ct rfl (HM.out.at_ 0 rfl) rfl _ uM.out rfl (by exact zmsg)) rfl ?_
     rw [← hP.out]
     have e1 := f1.trans (by simp [*] : _ = (1 : Int)); exact accPost_bad e1 (by decide) rfl HM.out.below)
  subst_vars
  go_cut [10] (fun s10 wx => ∃ B v, s10 = .pointer (some ⟨B, 0, none⟩) ∧ Hid (Mem w wx [(B, msgA ⟨k0, true, n0, 0, count, l, old⟩ v, 25), (w.heap.size + 1, #[.int .i64 0, .bool false, .int .i64 0, .int .i64 0, .int .i64 0, .slice none 0 0, .slice none 0 0], 25), (w.heap.size, #[.int .i64 k0, .bool false, .int .i64 n0, .int .i64 c0, .int .i64 t0, .slice vq.sA vq.sn vq.sc, .slice vq.oA vq.on vq.oc], 25)]) ∧ Hid (MsgOwn wx v ⟨k0, true, n0, 0, count, l, old⟩))
  case first =>
    have HX : Hid (∀ w', Below w3.heap.size w3 w' → Below w3.heap.size w3 w' ∧ w'.cell? ⟨w.heap.size, 0, none⟩ = some (.int .i64 k0) ∧ w'.cell? ⟨w.heap.size, 2, none⟩ = some (.int .i64 n0)) := fun w' hb' => ⟨hb', (HM.out.keep hb').cell 1 rfl 0, (HM.out.keep hb').cell 1 rfl 2⟩
    clear kq
    go_region_held3 (fun w' => Below w3.heap.size w3 w' ∧ w'.cell? ⟨w.heap.size, 0, none⟩ = some (.int .i64 k0) ∧ w'.cell? ⟨w.heap.size, 2, none⟩ = some (.int .i64 n0))
      ((refine HX.out _ ?_; (repeat (with_reducible (first | assumption | exact Below.refl _ _ | refine Below.drew ?_ | refine ballN ?_ _ | refine Below.setCell ?_ ?_ _ | exact Nat.le_refl _ | exact Below.size (by assumption))))))
      (first
        | (go_at_call 95; (with_reducible show Calls _ _ _ (World.drew (World.alloc _ _)) _); refine (cL.out _ (bthen HM.out.below ((ballN (Below.refl _ _) _).drew))).mono ?_; rintro e w4 ⟨A1, c1, rfl, hO1, hB_⟩; have hB4 : Below w3.heap.size w3 w4 := bthen ((ballN (Below.refl _ _) _).drew) hB_; have hk4 : Blk w4 w3.heap.size _ _ := ((Blk.new _ _ _).drew).keep hB_; have kc4 := hk4.cell; have kf4 := hk4.free; clear hB_)
        | (go_at_call 95; refine (cL.out _ (bthen HM.out.below ((Below.refl _ _).drew))).mono ?_; rintro e w4 ⟨A1, c1, rfl, hO1, hB_⟩; have hB4 : Below w3.heap.size w3 w4 := bthen ((Below.refl _ _).drew) hB_; clear hB_)
        | (go_at_call 95; (with_reducible show Calls _ _ _ (World.alloc _ _) _); refine (cO.out _ (bthen HM.out.below (ballN hB4 _))).mono ?_; rintro e w5 ⟨A2, c2, rfl, hO2, hB_⟩; have hB5 : Below w3.heap.size w3 w5 := bthen (ballN hB4 _) hB_; have hk5 := (Blk.new _ _ _).keep hB_; have kc5 := hk5.cell; have kf5 := hk5.free; have hO3 := owns_keep (w' := w5) hO1 (bthen (ball _ _) hB_); clear hB_)
        | (go_at_call 95; refine (cO.out _ (bthen HM.out.below hB4)).mono ?_; rintro e w5 ⟨A2, c2, rfl, hO2, hB_⟩; have hB5 : Below w3.heap.size w3 w5 := bthen hB4 hB_; have hk5 := hk4.keep hB_; clear kc4 kf4; have kc5 := hk5.cell; have kf5 := hk5.free; have hO3 := owns_keep (w' := w5) hO1 hB_; clear hB_)
        | (go_at_call 95; refine (cO.out _ (bthen HM.out.below hB4)).mono ?_; rintro e w5 ⟨A2, c2, rfl, hO2, hB_⟩; have hB5 : Below w3.heap.size w3 w5 := bthen hB4 hB_; have hO3 := owns_keep (w' := w5) hO1 hB_; clear hB_)
        | fail)
    all_goals
      go_wp2_with fail
      go_meet
      refine ⟨_, ⟨A1, n, c1, A2, m, c2⟩, rfl, ?_⟩
      first
      | (rw [fold_msg (s := l) (o := old)]
         first
         | exact mem_msg (M := ⟨k0, true, n0, 0, count, l, old⟩) (HM.out.add hB5 hk5 (Nat.le_refl _)) rfl hO3 hO2 hl.out.len ho.out.len
         | exact mem_msg (M := ⟨k0, true, n0, 0, count, l, old⟩) (HM.out.add hB5 hk5 hB4.size) rfl hO3 hO2 hl.out.len ho.out.len)
      | exact ⟨(HM.out.keep hB5).alloc _ _, ⟨_, hO3.alloc _⟩, ⟨_, hO2.alloc _⟩, hl.out.len, ho.out.len⟩
  case rest =>
    obtain ⟨B, v, rfl, HM2, hv⟩ := hcut
    clear HM kq
    have HM := HM2
    clear HM2
    have kq := HM.out.cell 2 rfl
    have kb := HM.out.cell 0 rfl
    dsimp only [msgA] at kb
    have cA2 := Lib.hid (cA.out v wc HM.out.below hv.out.is)
    clear cA
    go_wp2_with fail
    refine cA2.out.mono ?_
    rintro e w6 ⟨rfl, hb_⟩
    replace HM := Lib.hid (HM.out.keep hb_)
    replace hv := Lib.hid (hv.out.keep hb_)
    clear hb_ kq kb
    have kb := HM.out.cell 0 rfl
    dsimp only [msgA] at kb
    have hB1 := Lib.hid (HM.out.at_ 1 rfl)
    cases AN
    all_goals
      go_wp2_with (refine wpList_storeM 1 HM rfl _ _ _ rfl _ _ rfl rfl _ (by conv => {lhs; whnf}) (by exact zmsg) (by rfl) (Nat.le_of_ble_eq_true (by rfl)) _ (by simp only [setL, List.set, Value.cells]; exact rfl) ?_; clear HM kb; intro w4 HM hG4; simp only [List.set] at HM; have kb := HM.out.cell 0 rfl)
      have f1 := hF.out
      try simp only [Exit.inBlock, Exit.then]
      refine bodyPost_ret (results_ct rfl (HM.out.at_ 1 rfl) rfl _ uM.out rfl (by exact zmsg)) rfl ?_
      first
      | (have e1 := f1.trans (by simp [*] : _ = (12 : Int)); exact accPost_bad e1 (by decide) rfl HM.out.below)
      | (have e1 := f1.trans (by simp [*] : _ = (0 : Int)); exact accPost_ok (v := v) e1 rfl (hv.out.put hB1.out (by decide) hG4.out).is HM.out.below)
end Tx
end Go.Proofs.YtkfipbelhlcddaaGreat
