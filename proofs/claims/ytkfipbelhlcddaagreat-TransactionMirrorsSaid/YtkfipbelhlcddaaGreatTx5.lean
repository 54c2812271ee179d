/- Chapter 25: a message follows its table. -/
import Derived.Test.YtkfipbelhlcddaaGreatTx4
set_option linter.unusedVariables false
set_option linter.unusedSimpArgs false
namespace Go.Proofs.YtkfipbelhlcddaaGreat
open Go Go.RowKit Go.Sort Go.Lib Go.Shelf Go.Maps
namespace Tx
open Sw Mm
def rowQB (m : Msg) : Bool := if m.kind = 1 then addQB m else if m.kind = 2 then delB m else if m.kind = 3 then relQB m else plainB m
def rowRB (m : Msg) : Bool := if m.kind = 1 then addRB m else if m.kind = 2 then delB m else if m.kind = 3 then relRB m else if m.kind = 4 then cntRB m else if m.kind = 5 then lstRB m else plainB m
theorem eQ (k : Int) : ∀ args w, (callFunc (rowQ k) args).run Tryz.prog w = .ok (.enter (rowQ k) args) w := by
  unfold rowQ
  split
  · exact eaddQ
  · split
    · exact edel
    · split
      · exact erelQ
      · exact eplain
theorem eR (k : Int) : ∀ args w, (callFunc (rowR k) args).run Tryz.prog w = .ok (.enter (rowR k) args) w := by
  unfold rowR
  split
  · exact eaddR
  · split
    · exact edel
    · split
      · exact erelR
      · split
        · exact ecntR
        · split
          · exact elstR
          · exact eplain
theorem rowQ_any (m : Msg) (v : MsgV) (w : World) (h : MsgIs w v m) : Calls Tryz.prog (rowQ m.kind) #[.agg #[.int .i64 m.kind, .bool m.reply, .int .i64 m.number, .int .i64 m.code, .int .i64 m.count, .slice v.sA v.sn v.sc, .slice v.oA v.on v.oc]] w fun e w' => e = .returned (.bool (rowQB m)) ∧ Below w.heap.size w w' := by
  unfold rowQ rowQB
  by_cases h1 : m.kind = 1
  · rw [if_pos h1, if_pos h1]; exact addQ_any m v w h
  rw [if_neg h1, if_neg h1]
  by_cases h2 : m.kind = 2
  · rw [if_pos h2, if_pos h2]; exact del_any m v w h
  rw [if_neg h2, if_neg h2]
  by_cases h3 : m.kind = 3
  · rw [if_pos h3, if_pos h3]; exact relQ_any m v w h
  rw [if_neg h3, if_neg h3]
  exact plain_any m v w h
theorem rowR_any (m : Msg) (v : MsgV) (w : World) (h : MsgIs w v m) : Calls Tryz.prog (rowR m.kind) #[.agg #[.int .i64 m.kind, .bool m.reply, .int .i64 m.number, .int .i64 m.code, .int .i64 m.count, .slice v.sA v.sn v.sc, .slice v.oA v.on v.oc]] w fun e w' => e = .returned (.bool (rowRB m)) ∧ Below w.heap.size w w' := by
  unfold rowR rowRB
  by_cases h1 : m.kind = 1
  · rw [if_pos h1, if_pos h1]; exact addR_any m v w h
  rw [if_neg h1, if_neg h1]
  by_cases h2 : m.kind = 2
  · rw [if_pos h2, if_pos h2]; exact del_any m v w h
  rw [if_neg h2, if_neg h2]
  by_cases h3 : m.kind = 3
  · rw [if_pos h3, if_pos h3]; exact relR_any m v w h
  rw [if_neg h3, if_neg h3]
  by_cases h4 : m.kind = 4
  · rw [if_pos h4, if_pos h4]; exact cntR_any m v w h
  rw [if_neg h4, if_neg h4]
  by_cases h5 : m.kind = 5
  · rw [if_pos h5, if_pos h5]; exact lstR_any m v w h
  rw [if_neg h5, if_neg h5]
  exact plain_any m v w h
def follP (m : Msg) : Bool := if m.reply = false then decide (m.code = 0) && rowQB m else if m.code = 0 then rowRB m else decide (m.count = 0) && (decide ((m.spots.length : Int) = 0) && decide ((m.old.length : Int) = 0))
theorem follP_eq {m : Msg} (hk : 1 ≤ m.kind ∧ m.kind ≤ 6) (hs : m.spots.length ≤ 8) (ho : m.old.length ≤ 8) : follP m = follN m := by
  obtain ⟨k, r, n, c, t, s, o⟩ := m
  dsimp only at hk hs ho
  unfold follP follN rowQB rowRB addQB addRB delB relQB relRB cntRB lstRB plainB
  dsimp only
  generalize s.length = a at *
  generalize o.length = b at *
  have e0 : (decide ((a : Int) = 0)) = decide (a = 0) := by rw [decide_eq_decide]; omega
  have e1 : (decide ((b : Int) = 0)) = decide (b = 0) := by rw [decide_eq_decide]; omega
  have hk2 : k = 1 ∨ k = 2 ∨ k = 3 ∨ k = 4 ∨ k = 5 ∨ k = 6 := by omega
  rw [Bool.eq_iff_iff]
  by_cases hc : c = 0
  · subst hc
    rcases hk2 with rfl | rfl | rfl | rfl | rfl | rfl <;> cases r <;> simp <;> omega
  · cases r
    · simp [hc]
    · simp [hc]
theorem Rows.keep {w w' : World} {b : Nat} (h : Rows w b) (hb : Below w.heap.size w w') : Rows w' b := by
  obtain ⟨D, hO, hm, hD⟩ := h
  exact ⟨D, hO.kept (gb_below (r := none) hb) (by simp), hm, hD⟩
set_option maxRecDepth 100000 in
set_option maxHeartbeats 4000000 in
theorem follows_any (m : Msg) (v : MsgV) (w : World) (h : MsgIs w v m) (hk : 1 ≤ m.kind ∧ m.kind ≤ 6) : Calls Tryz.prog 101 #[.agg #[.int .i64 m.kind, .bool m.reply, .int .i64 m.number, .int .i64 m.code, .int .i64 m.count, .slice v.sA v.sn v.sc, .slice v.oA v.on v.oc]] w fun e w' => e = .returned (.bool (follP m)) ∧ Below w.heap.size w w' := by
  have hb := ball w (.cells #[.int .i64 m.kind, .bool m.reply, .int .i64 m.number, .int .i64 m.code, .int .i64 m.count, .slice v.sA v.sn v.sc, .slice v.oA v.on v.oc] 25)
  have BX := Box.new w #[.int .i64 m.kind, .bool m.reply, .int .i64 m.number, .int .i64 m.code, .int .i64 m.count, .slice v.sA v.sn v.sc, .slice v.oA v.on v.oc] 25
  obtain ⟨s1, s2⟩ := spots_small h
  unfold maxLen at s1 s2
  have cQ := fun W k1 => rowQ_any m v W k1
  have cR := fun W k1 => rowR_any m v W k1
  have ef := eQ m.kind
  have eg := eR m.kind
  have hlk := fun W b (hr : Rows W b) => hr.look hk.1 hk.2
  have hR : follP m = if m.reply = false then decide (m.code = 0) && rowQB m else if m.code = 0 then rowRB m else decide (m.count = 0) && (decide ((m.spots.length : Int) = 0) && decide ((m.old.length : Int) = 0)) := rfl
  rw [h.spots.len, h.old.len] at hR
  generalize follP m = R at *
  generalize rowQ m.kind = f at *
  generalize rowR m.kind = g at *
  generalize rowQB m = Q1 at *
  generalize rowRB m = Q2 at *
  obtain ⟨k0, r0, n0, c0, t0, s0, o0⟩ := m
  dsimp only at *
  replace hb := Lib.hid hb
  replace BX := Lib.hid BX
  replace h := Lib.hid h
  replace cQ := Lib.hid cQ
  replace cR := Lib.hid cR
  replace hlk := Lib.hid hlk
  replace hR := Lib.hid hR
  go_enter Tryz.func101, Tryz.ntmps101
  go_upto_region 1 with fail
  generalize w.alloc (.cells #[.int .i64 k0, .bool r0, .int .i64 n0, .int .i64 c0, .int .i64 t0, .slice v.sA v.sn v.sc, .slice v.oA v.on v.oc] 25) = w1 at *
  go_cut [3] (fun s3 wx => ∃ B, s3 = .pointer (some ⟨B, 0, none⟩) ∧ Hid (Blk wx B #[.func (.func f) #[] #[], .func (.func g) #[] #[]] 125) ∧ Hid (Below w1.heap.size w1 wx))
  case first =>
    have hkk := (BX.out.at_ 0)
    have HX : Hid (∀ w', Below w1.heap.size w1 w' → Below w1.heap.size w1 w' ∧ w'.cell? ⟨w.heap.size, 0, none⟩ = some (.int .i64 k0)) := fun w' hb' => ⟨hb', (BX.out.keep hb').at_ 0⟩
    clear hkk
    go_region_held3 (fun w' => Below w1.heap.size w1 w' ∧ w'.cell? ⟨w.heap.size, 0, none⟩ = some (.int .i64 k0))
      (first
        | exact HX.out _ ((Below.refl _ _).drew)
        | exact HX.out _ (by assumption)
        | exact HX.out _ (bthen ((Below.refl _ _).drew) (by assumption))
        | exact HX.out _ (bthen (And.left (by assumption)) (by assumption))
        | exact HX.out _ (ballN (And.left (by assumption)) _)
        | exact HX.out _ (ballN (by assumption) _)
        | exact HX.out _ (by refine Below.setCell (Below.setCell (by assumption) ?_ _) ?_ _ <;> exact Nat.le_refl _)
        | (trace_state; fail))
      (first
        | (go_at_call 136; refine (rows_any _).mono ?_; rintro e w2 ⟨b, rfl, hr, hbb, hB2⟩; have hB3 : Below w1.heap.size w1 w2 := (by first | exact bthen ((Below.refl _ _).drew) hB2 | exact bthen (ballN ((Below.refl _ _).drew) _) hB2); have hl1 := hlk.out w2 b hr; have hl2 := hlk.out _ b (hr.keep (ball w2 (.cells #[.nilFunc, .nilFunc] 125))); try have hk0 : Blk w2 w1.heap.size #[.nilFunc, .nilFunc] 125 := (Blk.new w1.drew #[.nilFunc, .nilFunc] 125).keep hB2; try have kc0 := hk0.cell; try have kf0 := hk0.free))
    all_goals
      go_wp2_with fail
      go_meet
      first
        | exact ⟨w2.heap.size, rfl, Blk.new w2 _ _, ballN hB3 _⟩
        | exact ⟨w1.heap.size, rfl, by show Blk _ _ _ _; have := (hk0.set 0 (.func (.func f) #[] #[])).set 1 (.func (.func g) #[] #[]); simpa using this, by show Below _ _ _; refine Below.setCell (Below.setCell hB3 ?_ _) ?_ _ <;> exact Nat.le_refl _⟩
  case rest =>
    obtain ⟨B, rfl, BR, HB⟩ := hcut
    have hbw := Lib.hid (bthen hb.out HB.out)
    have kx := (BX.out.keep HB.out).at_
    have kr0 := BR.out.cell 0
    have kr1 := BR.out.cell 1
    have kr0' : wc.cell? ⟨B, 0, none⟩ = some (.func (.func f) #[] #[]) := kr0
    have kr1' : wc.cell? ⟨B, 1, none⟩ = some (.func (.func g) #[] #[]) := kr1
    have cQ2 := cQ.out wc (h.out.keep hbw.out)
    have cR2 := cR.out wc (h.out.keep hbw.out)
    clear kr0 kr1
    replace cQ2 := Lib.hid cQ2
    replace cR2 := Lib.hid cR2
    cases r0 with
    | false =>
      have hr2 := hR.out
      rw [if_pos rfl] at hr2
      by_cases hc : c0 = 0
      · have hr3 : Hid (R = Q1) := by show _ = _; rw [hr2]; simp [hc]
        have d1 : (c0 == 0) = true := by simpa using hc
        clear hr2
        replace hc := Lib.hid hc
        go_wp2_with fail
        refine cQ2.out.mono ?_
        rintro e w3 ⟨rfl, hb_⟩
        have hB := Lib.hid (bthen hbw.out hb_)
        clear hb_ kx kr0' kr1'
        go_wp2
        go_ret
        exact ⟨by rw [hr3.out]; rfl, hB.out⟩
      · have hr3 : Hid (R = false) := by show _ = _; rw [hr2]; simp [hc]
        have d1 : (c0 == 0) = false := by simpa using hc
        clear hr2
        replace hc := Lib.hid hc
        go_wp2
        go_ret
        exact ⟨by rw [hr3.out]; rfl, hbw.out⟩
    | true =>
      have hr2 := hR.out
      rw [if_neg (by simp)] at hr2
      by_cases hc : c0 = 0
      · rw [if_pos hc] at hr2
        have d1 : (c0 == 0) = true := by simpa using hc
        replace hc := Lib.hid hc
        replace hr2 := Lib.hid hr2
        go_wp2_with fail
        refine cR2.out.mono ?_
        rintro e w3 ⟨rfl, hb_⟩
        have hB := Lib.hid (bthen hbw.out hb_)
        clear hb_ kx kr0' kr1'
        go_wp2
        go_ret
        exact ⟨by rw [hr2.out]; rfl, hB.out⟩
      · rw [if_neg hc] at hr2
        have d1 : (c0 == 0) = false := by simpa using hc
        replace hc := Lib.hid hc
        replace hr2 := Lib.hid hr2
        go_wp2
        all_goals
          go_ret
          exact ⟨by rw [hr2.out]; first | (simp [*]; done) | (simp [*]; omega) | (simp [*, intB]; done) | (simp [*, intB]; omega), hbw.out⟩
end Tx
end Go.Proofs.YtkfipbelhlcddaaGreat
