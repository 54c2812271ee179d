/- Chapter 26: asked: the reference's. -/
import Derived.Test.YtfoffooblkofhaaGreatBz
import Derived.Test.YtfoffooblkofhaaGreatBf
import Derived.Test.YtfoffooblkofhaaGreatBo
import Derived.Test.YtfoffooblkofhaaGreatBn
import Derived.Test.YtfoffooblkofhaaGreatCa
set_option linter.unusedVariables false
set_option linter.unusedSimpArgs false
namespace Go.Proofs.YtfoffooblkofhaaGreat
open Go Go.RowKit Go.Sort Go.Shelf Go.Maps
namespace Tx
open Sw Mm Pl
theorem all_hit {α : Type} [Inhabited α] {p : α → Bool} {l : List α} {k : Nat} (hk : k < l.length) (h : p (l.getD k default) = false) : l.all p = false := by
  cases hq : l.all p
  · rfl
  · rw [List.all_eq_true] at hq
    rw [hq _ (getD_mem hk)] at h
    cases h
theorem all_all {α : Type} [Inhabited α] {p : α → Bool} {l : List α} (h : ∀ k, k < l.length → p (l.getD k default) = true) : l.all p = true := by
  rw [List.all_eq_true]
  intro x hx
  obtain ⟨i, hi, rfl⟩ := mem_getD hx
  exact h i hi
def sptFree (e : Ed) (s : Spt) : Bool := e.cells.all fun c => !decide (c.slot = s.slot)
set_option maxRecDepth 100000 in
set_option maxHeartbeats 8000000 in
theorem rasked_any (e : Ed) (v : EdV) (w : World) (h : EdIs w v e) (hn : v.cn ≤ 100000) : Calls Tryz.prog 138 #[.agg (endA e v)] w fun r w' => r = .returned (.bool (rAskedOk e)) ∧ Below w.heap.size w w' := by
  have HM := Lib.hid (Mem.start w)
  have cK := fun W (hb : Below w.heap.size w W) => rchkM_any e.asked v.a W (h.asked.keep hb)
  have cS := fun W (hb : Below w.heap.size w W) => rsends_any e v W (h.keep hb) hn
  unfold SendsPost at cS
  have hR : rAskedOk e = (decide (chkM e.asked = 0) && (!e.asked.reply && (decide (e.asked.number = e.number) && ((e.asked.old.all fun s => decide (s ∈ sendsN e)) && (e.asked.spots.all (sptFree e)))))) := rfl
  have hOhit := fun k (hk : k < v.a.on) (hh : decide (e.asked.old.getD k default ∈ sendsN e) = false) => all_hit (p := fun s => decide (s ∈ sendsN e)) (l := e.asked.old) (k := k) (by rw [h.asked.old.len]; exact hk) hh
  have hOall := fun (hh : ∀ k, k < v.a.on → decide (e.asked.old.getD k default ∈ sendsN e) = true) => all_all (p := fun s => decide (s ∈ sendsN e)) (l := e.asked.old) (fun k hk => hh k (by rw [← h.asked.old.len]; exact hk))
  have hShit := fun k (hk : k < v.a.sn) (hh : sptFree e (e.asked.spots.getD k default) = false) => all_hit (p := sptFree e) (l := e.asked.spots) (k := k) (by rw [h.asked.spots.len]; exact hk) hh
  have hSall := fun (hh : ∀ k, k < v.a.sn → sptFree e (e.asked.spots.getD k default) = true) => all_all (p := sptFree e) (l := e.asked.spots) (fun k hk => hh k (by rw [← h.asked.spots.len]; exact hk))
  have hFhit := fun (s : Spt) i (hi : i < v.cn) (hh : (e.cells.getD i default).slot = s.slot) => (show sptFree e s = false from all_hit (p := fun c : TCl => !decide (c.slot = s.slot)) (l := e.cells) (k := i) (by rw [h.cells.len]; exact hi) (by rw [decide_eq_true hh]; rfl))
  have hFall := fun (s : Spt) (hh : ∀ i, i < v.cn → (e.cells.getD i default).slot ≠ s.slot) => (show sptFree e s = true from all_all (p := fun c : TCl => !decide (c.slot = s.slot)) (l := e.cells) (fun k hk => by rw [decide_eq_false (hh k (by rw [← h.cells.len]; exact hk))]; rfl))
  generalize hP : (fun (r : Ending) w' => r = Ending.returned (.bool (rAskedOk e)) ∧ Below w.heap.size w w') = P
  have hPo : ∀ B w', rAskedOk e = B → Below w.heap.size w w' → P (.returned (.bool B)) w' := fun B w' e1 hb => by rw [← hP]; exact ⟨by rw [e1], hb⟩
  clear hP
  generalize rAskedOk e = R at *
  generalize chkM e.asked = CM at *
  generalize (e.asked.old.all fun s => decide (s ∈ sendsN e)) = OA at *
  generalize (e.asked.spots.all (sptFree e)) = SA at *
  have uM := Tryz.underlying25
  have uE := Tryz.underlying27
  have hs1 := h.asked.old.small
  have hs2 := h.asked.spots.small
  unfold maxLen at hs1 hs2
  replace h := Lib.hid h
  replace cK := Lib.hid cK
  replace cS := Lib.hid cS
  replace hR := Lib.hid hR
  replace hOhit := Lib.hid hOhit
  replace hOall := Lib.hid hOall
  replace hShit := Lib.hid hShit
  replace hSall := Lib.hid hSall
  replace hFhit := Lib.hid hFhit
  replace hFall := Lib.hid hFall
  replace hPo := Lib.hid hPo
  replace uM := Lib.hid uM
  replace uE := Lib.hid uE
  go_enter Tryz.func138, Tryz.ntmps138
  go_upto_region 2 with (first | (refine wpList_boxA HM rfl 27 _ rfl _ rfl ?_; clear HM; intro ge w1 HM hG; clear hG) | (refine wpList_loadP 0 HM (by rfl) _ _ rfl _ 6 rfl rfl (msgA e.asked v.a) (by kernel_rfl) _ uM.out rfl (by exact zmsg) ?_) | (refine wpList_allocA HM rfl 25 rfl (by first | exact msgInfo | exact edInfo | exact tabInfo | exact info_tcl | exact info_spt) ?_; clear HM; intro g3 w1 HM hG; clear hG) | (refine wpList_storeF 0 HM rfl _ _ _ rfl _ rfl rfl _ rfl (by exact zmsg) (by rfl) (by rfl) ?_; clear HM ; intro w4 HM hG4; simp only [List.set] at HM) | fail)
  by_cases hC : CM = 0
  case neg =>
    have d1 : (CM != 0) = true := by rw [bne_iff_ne]; exact hC
    have hR2 : R = false := by rw [hR.out]; simp [hC]
    have hrep : True := trivial
    go_wp2_with (first | go_skip | (go_at_call 53; refine (cK.out _ HM.out.below).mono ?_; rintro r w3 ⟨rfl, hb_⟩; replace HM := Lib.hid (HM.out.keep hb_); clear hb_; have q1 := HM.out.cell 0 rfl 1; change _ = some (Value.bool e.asked.reply) at q1; have q2 := HM.out.cell 0 rfl 2; change _ = some (Value.int .i64 e.asked.number) at q2; have q3 := HM.out.cell 1 rfl 2; change _ = some (Value.int .i64 e.number) at q3; try rw [hrep] at q1) | (refine wpList_loadM 0 HM rfl _ _ rfl _ rfl rfl _ uM.out rfl (by exact zmsg) ?_) | fail)
    exact hPo.out _ _ hR2 HM.out.below
  have d1 : (CM != 0) = false := by rw [bne_eq_false_iff_eq]; exact hC
  have hR2 : Hid (R = (!e.asked.reply && (decide (e.asked.number = e.number) && (OA && SA)))) := by show _ = _; rw [hR.out]; simp [hC]
  clear hR
  cases hrep : e.asked.reply
  case true =>
    have hR3 : R = false := by rw [hR2.out, hrep]; rfl
    go_wp2_with (first | go_skip | (go_at_call 53; refine (cK.out _ HM.out.below).mono ?_; rintro r w3 ⟨rfl, hb_⟩; replace HM := Lib.hid (HM.out.keep hb_); clear hb_; have q1 := HM.out.cell 0 rfl 1; change _ = some (Value.bool e.asked.reply) at q1; have q2 := HM.out.cell 0 rfl 2; change _ = some (Value.int .i64 e.asked.number) at q2; have q3 := HM.out.cell 1 rfl 2; change _ = some (Value.int .i64 e.number) at q3; try rw [hrep] at q1) | (refine wpList_loadM 0 HM rfl _ _ rfl _ rfl rfl _ uM.out rfl (by exact zmsg) ?_) | fail)
    exact hPo.out _ _ hR3 HM.out.below
  by_cases hnm : e.asked.number = e.number
  case neg =>
    have d2 : (e.asked.number != e.number) = true := by rw [bne_iff_ne]; exact hnm
    have hR3 : R = false := by rw [hR2.out]; simp [hnm]
    go_wp2_with (first | go_skip | (go_at_call 53; refine (cK.out _ HM.out.below).mono ?_; rintro r w3 ⟨rfl, hb_⟩; replace HM := Lib.hid (HM.out.keep hb_); clear hb_; have q1 := HM.out.cell 0 rfl 1; change _ = some (Value.bool e.asked.reply) at q1; have q2 := HM.out.cell 0 rfl 2; change _ = some (Value.int .i64 e.asked.number) at q2; have q3 := HM.out.cell 1 rfl 2; change _ = some (Value.int .i64 e.number) at q3; try rw [hrep] at q1) | (refine wpList_loadM 0 HM rfl _ _ rfl _ rfl rfl _ uM.out rfl (by exact zmsg) ?_) | fail)
    exact hPo.out _ _ hR3 HM.out.below
  have d2 : (e.asked.number != e.number) = false := by rw [bne_eq_false_iff_eq]; exact hnm
  have hR3 : Hid (R = (OA && SA)) := by show _ = _; rw [hR2.out, hrep]; simp [hnm]
  clear hR2
  go_upto_region 4 with (first | go_skip | (go_at_call 53; refine (cK.out _ HM.out.below).mono ?_; rintro r w3 ⟨rfl, hb_⟩; replace HM := Lib.hid (HM.out.keep hb_); clear hb_; have q1 := HM.out.cell 0 rfl 1; change _ = some (Value.bool e.asked.reply) at q1; have q2 := HM.out.cell 0 rfl 2; change _ = some (Value.int .i64 e.asked.number) at q2; have q3 := HM.out.cell 1 rfl 2; change _ = some (Value.int .i64 e.number) at q3; try rw [hrep] at q1) | (refine wpList_loadM 0 HM rfl _ _ rfl _ rfl rfl _ uM.out rfl (by exact zmsg) ?_) | fail)
  clear q1 q2 q3 d1 d2
  go_upto_region 5 with (first
    | (go_at_call 114; refine (cS.out _ HM.out.below).mono ?_; rintro r w5 ⟨A1, ns, c1, rfl, hns, hO, hb_⟩; replace HM := Lib.hid (HM.out.keep hb_); replace hO := Lib.hid hO; clear hb_)
    | (refine wpList_loadM 1 HM rfl _ _ rfl _ rfl rfl _ uE.out rfl (by exact zend) ?_)
    | fail)
  have hBO := Lib.hid (fun W (hb : Below w5.heap.size w5 W) => (Sls.of_owns sptE_len (owns_keep hO.out hb) hns).2)
  have HB := Lib.hid (Below.refl w5.heap.size w5)
  replace hns := Lib.hid hns
  clear cK cS hO
  go_wp2_with fail
  go_loopw [5] (fun i wr => Hid (∃ k : Nat, k ≤ v.a.on ∧ i = .int .i64 k ∧ Hid (∀ j, j < k → decide (e.asked.old.getD j default ∈ sendsN e) = true) ∧ Hid (Below w5.heap.size w5 wr) ∧ Hid (Mem w wr [(g3, msgA e.asked v.a, 25), (ge, endA e v, 27)]))) (fun i _ => v.a.on - (intOf i).toNat)
  case atStart => exact Lib.hid ⟨0, by omega, rfl, fun j hj => by omega, HB, HM⟩
  case round =>
    clear HM HB
    obtain ⟨k, hk, rfl, HP, HB, HM⟩ := hrel.out
    clear hrel
    have k36 := HM.out.cell 0 rfl 6
    change _ = some (Value.slice v.a.oA v.a.on v.a.oc) at k36
    by_cases hlt : k < v.a.on
    · obtain ⟨b, off, hcA⟩ := h.out.asked.old.addr (by omega)
      have hx0 := h.out.asked.old.keep HM.out.below
      rw [hcA] at hx0
      have hx := spt_at hx0 hlt
      have hh := hOhit.out k hlt
      have hnx : decide (e.asked.old.getD k default ∈ sendsN e) = true → ∀ j, j < k + 1 → decide (e.asked.old.getD j default ∈ sendsN e) = true := fun h j hj => by
        by_cases e1 : j = k
        · subst e1; exact h
        · exact HP.out j (by omega)
      have cH := fun W hb => rhas_any A1 ns c1 (sendsN e) (e.asked.old.getD k default) W (hBO.out W hb)
      generalize decide (e.asked.old.getD k default ∈ sendsN e) = Q at *
      generalize e.asked.old.getD k default = y at *
      obtain ⟨y0, y1⟩ := y
      obtain ⟨q0, q1⟩ := hx
      dsimp only at q0 q1 cH
      rw [hcA] at k36
      have r1 : (k : Int) < (v.a.on : Int) := by omega
      have r0 : (0 : Int) ≤ (k : Int) := by omega
      clear hx0
      replace hcA := Lib.hid hcA
      replace hh := Lib.hid hh
      replace hnx := Lib.hid hnx
      replace cH := Lib.hid cH
      cases Q
      case false =>
        have hR4 : R = false := by rw [hR3.out, hh.out rfl]; rfl
        go_wp2_with (first | (go_at_call 105; refine (cH.out _ HB.out).mono ?_; rintro r w6 ⟨rfl, hb_⟩; clear k36 q0 q1; replace HM := Lib.hid (HM.out.keep hb_); clear hb_) | fail)
        exact hPo.out _ _ hR4 HM.out.below
      case true =>
        have hP2 := Lib.hid (hnx.out rfl)
        go_wp2_with (first | (go_at_call 105; refine (cH.out _ HB.out).mono ?_; rintro r w6 ⟨rfl, hb_⟩; clear k36 q0 q1; replace HM := Lib.hid (HM.out.keep hb_); replace HB := Lib.hid (bthen HB.out hb_); clear hb_) | fail)
        exact ⟨Lib.hid ⟨k + 1, by omega, by go_num, hP2, HB, HM⟩, by simp [intOf]; omega⟩
    · obtain rfl : k = v.a.on := by omega
      have hR4 : Hid (R = SA) := by show _ = _; rw [hR3.out, hOall.out HP.out]; rfl
      clear HP hR3 hOhit hOall hBO HB
      go_wp2_with fail
      clear k36
      go_loopw [6, 7] (fun i s7 wr => Hid (∃ k : Nat, k ≤ v.a.sn ∧ i = .int .i64 k ∧ Hid (∀ j, j < k → sptFree e (e.asked.spots.getD j default) = true) ∧ Hid (Mem w wr [(g3, msgA e.asked v.a, 25), (ge, endA e v, 27)]))) (fun i _ _ => v.a.sn - (intOf i).toNat)
      case atStart => exact Lib.hid ⟨0, by omega, rfl, fun j hj => by omega, HM⟩
      case round =>
        clear HM
        obtain ⟨k, hk, rfl, HP, HM⟩ := hrel.out
        clear hrel
        have k35 := HM.out.cell 0 rfl 5
        change _ = some (Value.slice v.a.sA v.a.sn v.a.sc) at k35
        have k3 := HM.out.cell 1 rfl 3
        change _ = some (Value.slice v.cA v.cn v.cc) at k3
        by_cases hlt : k < v.a.sn
        · have hh := hShit.out k hlt
          have hnx : sptFree e (e.asked.spots.getD k default) = true → ∀ j, j < k + 1 → sptFree e (e.asked.spots.getD j default) = true := fun h j hj => by
            by_cases e1 : j = k
            · subst e1; exact h
            · exact HP.out j (by omega)
          have hF1 := hFhit.out (e.asked.spots.getD k default)
          have hF2 := hFall.out (e.asked.spots.getD k default)
          obtain ⟨b, off, hcA⟩ := h.out.asked.spots.addr (by omega)
          have hxs := fun W (hb : Below w.heap.size w W) => spt_at (hcA ▸ h.out.asked.spots.keep hb) hlt
          generalize e.asked.spots.getD k default = y at *
          obtain ⟨y0, y1⟩ := y
          dsimp only at hF1 hF2
          have r1 : (k : Int) < (v.a.sn : Int) := by omega
          have r0 : (0 : Int) ≤ (k : Int) := by omega
          replace hh := Lib.hid hh
          replace hnx := Lib.hid hnx
          replace hF1 := Lib.hid hF1
          replace hF2 := Lib.hid hF2
          replace hxs := Lib.hid hxs
          replace hcA := Lib.hid hcA
          replace HP := Lib.hid HP
          go_wp2_with fail
          clear k35 k3
          go_loopw [7] (fun i wr => Hid (∃ j : Nat, j ≤ v.cn ∧ i = .int .i64 j ∧ Hid (∀ i, i < j → (e.cells.getD i default).slot ≠ y0) ∧ Hid (Mem w wr [(g3, msgA e.asked v.a, 25), (ge, endA e v, 27)]))) (fun i _ => v.cn - (intOf i).toNat)
          case atStart => exact Lib.hid ⟨0, by omega, rfl, fun j hj => by omega, HM⟩
          case round =>
            clear HM
            obtain ⟨j, hj, rfl, HQ, HM⟩ := hrel.out
            clear hrel
            have k35 := HM.out.cell 0 rfl 5
            change _ = some (Value.slice v.a.sA v.a.sn v.a.sc) at k35
            have k3 := HM.out.cell 1 rfl 3
            change _ = some (Value.slice v.cA v.cn v.cc) at k3
            by_cases hlt3 : j < v.cn
            · obtain ⟨b2, off2, hcB⟩ := h.out.cells.addr (by omega)
              have hy := (tcl_at (hcB ▸ h.out.cells.keep HM.out.below) hlt3).1
              have hx := (hxs.out _ HM.out.below).1
              have hF3 := hF1.out j hlt3
              rw [hcA.out] at k35
              rw [hcB] at k3
              have hQ2 : (e.cells.getD j default).slot ≠ y0 → ∀ i, i < j + 1 → (e.cells.getD i default).slot ≠ y0 := fun h i hi => by
                by_cases e1 : i = j
                · subst e1; exact h
                · exact HQ.out i (by omega)
              generalize (e.cells.getD j default).slot = z at *
              dsimp only at hx
              have g1 := cell_regrown hy
              have g2 := cell_regrown hx
              have g3' := cell_regrown k35
              have g4 := cell_regrown k3
              have r1' : (j : Int) < (v.cn : Int) := by omega
              have r0' : (0 : Int) ≤ (j : Int) := by omega
              replace hcB := Lib.hid hcB
              replace hQ2 := Lib.hid hQ2
              replace hF3 := Lib.hid hF3
              by_cases hz : z = y0
              · have hR5 : R = false := by rw [hR4.out, hh.out (hF3.out hz)]
                have dz : (z == y0) = true := by rw [beq_iff_eq]; exact hz
                clear hy hx
                go_wp2_with fail
                refine wp_region_quiet_below (by kernel_rfl) (by kernel_rfl) ?_
                repeat (go_big_quiet_step (fail))
                refine wpQuiet_nil ?_
                rintro _ ⟨⟨dq, osq⟩, rfl⟩
                have hb_ := below_regrown wr dq osq
                have HM3 := Lib.hid (HM.out.keep hb_)
                go_wp2_with fail
                exact hPo.out _ _ hR5 HM3.out.below
              · have dz : (z == y0) = false := by rw [beq_eq_false_iff_ne]; exact hz
                have hQ3 := Lib.hid (hQ2.out hz)
                clear hy hx
                go_wp2_with fail
                refine wp_region_quiet_below (by kernel_rfl) (by kernel_rfl) ?_
                repeat (go_big_quiet_step (fail))
                refine wpQuiet_nil ?_
                rintro _ ⟨⟨dq, osq⟩, rfl⟩
                have hb_ := below_regrown wr dq osq
                have HM3 := Lib.hid (HM.out.keep hb_)
                generalize grow (redrawn wr dq) osq = w2 at *
                clear hb_
                go_wp2_with fail
                exact ⟨Lib.hid ⟨j + 1, by omega, by go_num, hQ3, HM3⟩, by simp [intOf]; omega⟩
            · obtain rfl : j = v.cn := by omega
              have hP2 := Lib.hid (hnx.out (hF2.out HQ.out))
              go_wp2_with fail
              exact ⟨Lib.hid ⟨k + 1, by omega, by go_num, hP2, HM⟩, by simp [intOf]; omega⟩
        · obtain rfl : k = v.a.sn := by omega
          have hR5 : R = true := by rw [hR4.out, hSall.out HP.out]
          go_wp2_with fail
          exact hPo.out _ _ hR5 HM.out.below
end Tx
end Go.Proofs.YtfoffooblkofhaaGreat
namespace Go.Proofs.YtfoffooblkofhaaGreat
open Go Go.RowKit Go.Sort Go.Shelf Go.Maps
namespace Tx
open Sw Mm Pl
set_option maxRecDepth 100000 in
set_option maxHeartbeats 4000000 in
theorem rrem_any (e : Ed) (v : EdV) (w : World) (h : EdIs w v e) : Calls Tryz.prog 140 #[.agg (endA e v)] w fun r w' => r = .returned (.bool (rRemOk e)) ∧ Below w.heap.size w w' := by
  have HM := Lib.hid (Mem.start w)
  have cN := fun W => rnext_any e.last.number W
  have cA := fun W (hb : Below w.heap.size w W) => rans_any e.last e.reply v.l v.r W (h.last.keep hb) (h.reply.keep hb)
  rw [ansR_eq] at cA
  have hR : rRemOk e = (ansN e.last e.reply && (decide (e.reply.code = 0) && if e.last.kind = 6 then decide (e.number = 0) else decide (e.number = nextN e.last.number))) := rfl
  generalize hP : (fun (r : Ending) w' => r = Ending.returned (.bool (rRemOk e)) ∧ Below w.heap.size w w') = P
  have hPo : ∀ B w', rRemOk e = B → Below w.heap.size w w' → P (.returned (.bool B)) w' := fun B w' e1 hb => by rw [← hP]; exact ⟨by rw [e1], hb⟩
  clear hP
  generalize rRemOk e = KO at *
  generalize ansN e.last e.reply = AN at *
  generalize nextN e.last.number = NX at *
  have uM := Tryz.underlying25
  replace h := Lib.hid h
  replace cN := Lib.hid cN
  replace cA := Lib.hid cA
  replace hR := Lib.hid hR
  replace hPo := Lib.hid hPo
  replace uM := Lib.hid uM
  go_enter Tryz.func140, Tryz.ntmps140
  go_upto_region 1 with (refine wpList_boxA HM rfl 27 _ rfl _ rfl ?_; clear HM; intro ge w1 HM hG; clear hG)
  have kr := HM.out.cell 0 rfl 24
  change _ = some (Value.int .i64 e.reply.code) at kr
  cases AN
  case false =>
    go_wp2_with (first
      | go_skip
      | (go_at_call 102; refine (cA.out _ HM.out.below).mono ?_; rintro r w3 ⟨rfl, hb_⟩; clear kr; replace HM := Lib.hid (HM.out.keep hb_); clear hb_; have kr := HM.out.cell 0 rfl 24; change _ = some (Value.int .i64 e.reply.code) at kr; have kk := HM.out.cell 0 rfl 14; change _ = some (Value.int .i64 e.last.kind) at kk; have kn := HM.out.cell 0 rfl 2; change _ = some (Value.int .i64 e.number) at kn; have kl := HM.out.cell 0 rfl 16; change _ = some (Value.int .i64 e.last.number) at kl)
      | (refine wpList_loadP 0 HM (by rfl) _ _ rfl _ 14 rfl rfl (msgA e.last v.l) (by kernel_rfl) _ uM.out rfl (by exact zmsg) ?_)
      | (refine wpList_loadP 0 HM (by rfl) _ _ rfl _ 21 rfl rfl (msgA e.reply v.r) (by kernel_rfl) _ uM.out rfl (by exact zmsg) ?_)
      | fail)
    exact hPo.out _ _ hR.out HM.out.below
  by_cases hc : e.reply.code = 0
  case neg =>
    have d1 : (e.reply.code != 0) = true := by rw [bne_iff_ne]; exact hc
    have hR2 : KO = false := by rw [hR.out]; simp [hc]
    go_wp2_with (first
      | go_skip
      | (go_at_call 102; refine (cA.out _ HM.out.below).mono ?_; rintro r w3 ⟨rfl, hb_⟩; clear kr; replace HM := Lib.hid (HM.out.keep hb_); clear hb_; have kr := HM.out.cell 0 rfl 24; change _ = some (Value.int .i64 e.reply.code) at kr; have kk := HM.out.cell 0 rfl 14; change _ = some (Value.int .i64 e.last.kind) at kk; have kn := HM.out.cell 0 rfl 2; change _ = some (Value.int .i64 e.number) at kn; have kl := HM.out.cell 0 rfl 16; change _ = some (Value.int .i64 e.last.number) at kl)
      | (refine wpList_loadP 0 HM (by rfl) _ _ rfl _ 14 rfl rfl (msgA e.last v.l) (by kernel_rfl) _ uM.out rfl (by exact zmsg) ?_)
      | (refine wpList_loadP 0 HM (by rfl) _ _ rfl _ 21 rfl rfl (msgA e.reply v.r) (by kernel_rfl) _ uM.out rfl (by exact zmsg) ?_)
      | fail)
    exact hPo.out _ _ hR2 HM.out.below
  have d1 : (e.reply.code != 0) = false := by rw [bne_eq_false_iff_eq]; exact hc
  have hR2 : Hid (KO = if e.last.kind = 6 then decide (e.number = 0) else decide (e.number = NX)) := by show _ = _; rw [hR.out]; simp [hc]
  clear hR
  by_cases h6 : e.last.kind = 6
  case pos =>
    have d2 : (e.last.kind == 6) = true := by rw [beq_iff_eq]; exact h6
    have hR3 : KO = (e.number == 0) := by rw [hR2.out, if_pos h6, intB]
    go_wp2_with (first
      | go_skip
      | (go_at_call 102; refine (cA.out _ HM.out.below).mono ?_; rintro r w3 ⟨rfl, hb_⟩; clear kr; replace HM := Lib.hid (HM.out.keep hb_); clear hb_; have kr := HM.out.cell 0 rfl 24; change _ = some (Value.int .i64 e.reply.code) at kr; have kk := HM.out.cell 0 rfl 14; change _ = some (Value.int .i64 e.last.kind) at kk; have kn := HM.out.cell 0 rfl 2; change _ = some (Value.int .i64 e.number) at kn; have kl := HM.out.cell 0 rfl 16; change _ = some (Value.int .i64 e.last.number) at kl)
      | (refine wpList_loadP 0 HM (by rfl) _ _ rfl _ 14 rfl rfl (msgA e.last v.l) (by kernel_rfl) _ uM.out rfl (by exact zmsg) ?_)
      | (refine wpList_loadP 0 HM (by rfl) _ _ rfl _ 21 rfl rfl (msgA e.reply v.r) (by kernel_rfl) _ uM.out rfl (by exact zmsg) ?_)
      | fail)
    exact hPo.out _ _ hR3 HM.out.below
  have d2 : (e.last.kind == 6) = false := by rw [beq_eq_false_iff_ne]; exact h6
  have hR3 : Hid (KO = (e.number == NX)) := by show _ = _; rw [hR2.out, if_neg h6, intB]
  clear hR2
  go_upto_region 5 with (first
      | go_skip
      | (go_at_call 102; refine (cA.out _ HM.out.below).mono ?_; rintro r w3 ⟨rfl, hb_⟩; clear kr; replace HM := Lib.hid (HM.out.keep hb_); clear hb_; have kr := HM.out.cell 0 rfl 24; change _ = some (Value.int .i64 e.reply.code) at kr; have kk := HM.out.cell 0 rfl 14; change _ = some (Value.int .i64 e.last.kind) at kk; have kn := HM.out.cell 0 rfl 2; change _ = some (Value.int .i64 e.number) at kn; have kl := HM.out.cell 0 rfl 16; change _ = some (Value.int .i64 e.last.number) at kl)
      | (refine wpList_loadP 0 HM (by rfl) _ _ rfl _ 14 rfl rfl (msgA e.last v.l) (by kernel_rfl) _ uM.out rfl (by exact zmsg) ?_)
      | (refine wpList_loadP 0 HM (by rfl) _ _ rfl _ 21 rfl rfl (msgA e.reply v.r) (by kernel_rfl) _ uM.out rfl (by exact zmsg) ?_)
      | fail)
  have g1 := cell_regrown kn
  have g2 := cell_regrown kl
  have cNu : ∀ d os, Calls Tryz.prog 62 #[.int .i64 e.last.number] (grow (redrawn w3 d) os) fun e w'' => e = .returned (.int .i64 NX) ∧ ∃ p : Regrown, w'' = grow (redrawn w3 p.d) p.os := fun d os => Calls.regrown_of ((cN.out _).mono fun e w' hh => ⟨hh.1, by rw [← hh.2]; exact Below.refl _ _⟩)
  replace cNu := Lib.hid cNu
  refine wp_region_quiet_below (by kernel_rfl) (by kernel_rfl) ?_
  repeat (go_big_quiet_step (exact cNu.out _ _))
  refine wpQuiet_nil ?_
  rintro _ ⟨⟨dq, osq⟩, rfl⟩
  have hb_ := below_regrown w3 dq osq
  have HM3 := Lib.hid (HM.out.keep hb_)
  go_wp2_with fail
  exact hPo.out _ _ hR3.out HM3.out.below
end Tx
end Go.Proofs.YtfoffooblkofhaaGreat
namespace Go.Proofs.YtfoffooblkofhaaGreat
open Go Go.RowKit Go.Sort Go.Shelf Go.Maps
namespace Tx
open Sw Mm Pl
def lisF (l : List Spt) (c : TCl) : Bool := !c.send && decide (place c ∈ l)
end Tx
end Go.Proofs.YtfoffooblkofhaaGreat
namespace Go.Proofs.YtfoffooblkofhaaGreat
open Go Go.RowKit Go.Sort Go.Shelf Go.Maps
namespace Tx
open Sw Mm Pl
end Tx
end Go.Proofs.YtfoffooblkofhaaGreat
namespace Go.Proofs.YtfoffooblkofhaaGreat
open Go Go.RowKit Go.Sort Go.Shelf Go.Maps
namespace Tx
open Sw Mm Pl
def agK (p : Int) (c : TCl) : Bool := decide (c.kind = 2) && decide (c.peer = p)
set_option maxRecDepth 100000 in
set_option maxHeartbeats 16000000 in
theorem rchkE_any (e : Ed) (v : EdV) (w : World) (h : EdIs w v e) : Calls Tryz.prog 96 #[.agg (endA e v)] w fun r w' => r = .returned (.int .i64 (rChkE e)) ∧ Below w.heap.size w w' := by
  have HM := Lib.hid (Mem.start w)
  have cT := fun W (hb : Below w.heap.size w W) => rchkT_any ⟨e.node, 512, e.cells⟩ ⟨v.cA, v.cn, v.cc⟩ W ⟨h.cells.keep hb, h.cc⟩
  have cA := fun (hn : v.cn ≤ 100000) W (hb : Below w.heap.size w W) => rasked_any e v W (h.keep hb) hn
  have cR := fun W (hb : Below w.heap.size w W) => rrem_any e v W (h.keep hb)
  have cZ1 := fun W (hb : Below w.heap.size w W) => rzero_any e.asked v.a W (h.asked.keep hb)
  have cZ2 := fun W (hb : Below w.heap.size w W) => rzero_any e.last v.l W (h.last.keep hb)
  have cZ3 := fun W (hb : Below w.heap.size w W) => rzero_any e.reply v.r W (h.reply.keep hb)
  have hR : rChkE e = if e.node < 0 ∨ 31 < e.node ∨ e.peer < 0 ∨ 31 < e.peer ∨ e.number < 0 ∨ 255 < e.number ∨ e.since < 0 ∨ 1099511627776 < e.since then 2
    else if e.node = e.peer ∨ (e.number = 0 ∧ 0 < e.cells.length) then 1
    else if chkT ⟨e.node, 512, e.cells⟩ ≠ 0 then 1
    else if (e.cells.all (agK e.peer)) = false then 1
    else if (e.opn = true ∧ rAskedOk e = false) ∨ (e.opn = false ∧ (zeroM e.asked = false ∨ e.since ≠ 0)) then 1
    else if (e.known = true ∧ rRemOk e = false) ∨ (e.known = false ∧ (zeroM e.last = false ∨ zeroM e.reply = false)) then 1 else 0 := rfl
  have hlc := h.cells.len
  rw [hlc] at hR
  have hct : chkT ⟨e.node, 512, e.cells⟩ = 0 → v.cn ≤ 100000 := fun h0 => by
    have := ((chkT_iff _).1 h0).size
    dsimp only at this
    omega
  have hAhit := fun k (hk : k < v.cn) (hh : agK e.peer (e.cells.getD k default) = false) => all_hit (p := agK e.peer) (l := e.cells) (k := k) (by rw [hlc]; exact hk) hh
  have hAall := fun (hh : ∀ k, k < v.cn → agK e.peer (e.cells.getD k default) = true) => all_all (p := agK e.peer) (l := e.cells) (fun k hk => hh k (by rw [← hlc]; exact hk))
  generalize hP : (fun (r : Ending) w' => r = Ending.returned (.int .i64 (rChkE e)) ∧ Below w.heap.size w w') = P
  have hPo : ∀ B w', rChkE e = B → Below w.heap.size w w' → P (.returned (.int .i64 B)) w' := fun B w' e1 hb => by rw [← hP]; exact ⟨by rw [e1], hb⟩
  clear hP
  generalize rChkE e = R at *
  generalize chkT ⟨e.node, 512, e.cells⟩ = CT at *
  generalize (e.cells.all (agK e.peer)) = AL at *
  generalize rAskedOk e = AK at *
  generalize rRemOk e = RK at *
  generalize zeroM e.asked = Z1 at *
  generalize zeroM e.last = Z2 at *
  generalize zeroM e.reply = Z3 at *
  have uM := Tryz.underlying25
  have uE := Tryz.underlying27
  have hsm := h.cells.small
  unfold maxLen at hsm
  replace h := Lib.hid h
  replace cT := Lib.hid cT
  replace cA := Lib.hid cA
  replace cR := Lib.hid cR
  replace cZ1 := Lib.hid cZ1
  replace cZ2 := Lib.hid cZ2
  replace cZ3 := Lib.hid cZ3
  replace hR := Lib.hid hR
  replace hlc := Lib.hid hlc
  replace hct := Lib.hid hct
  replace hAhit := Lib.hid hAhit
  replace hAall := Lib.hid hAall
  replace hPo := Lib.hid hPo
  replace uM := Lib.hid uM
  replace uE := Lib.hid uE
  go_enter Tryz.func96, Tryz.ntmps96
  go_upto_region 1 with (refine wpList_boxA HM rfl 27 _ rfl _ rfl ?_; clear HM; intro ge w1 HM hG; clear hG)
  have p0 : World.cell? _ ⟨ge, 0, none⟩ = some (.int .i64 e.node) := HM.out.cell 0 rfl 0
  have p1 : World.cell? _ ⟨ge, 1, none⟩ = some (.int .i64 e.peer) := HM.out.cell 0 rfl 1
  have p2 : World.cell? _ ⟨ge, 2, none⟩ = some (.int .i64 e.number) := HM.out.cell 0 rfl 2
  have p3 : World.cell? _ ⟨ge, 3, none⟩ = some (.slice v.cA v.cn v.cc) := HM.out.cell 0 rfl 3
  have p4 : World.cell? _ ⟨ge, 4, none⟩ = some (.bool e.opn) := HM.out.cell 0 rfl 4
  have p5 : World.cell? _ ⟨ge, 5, none⟩ = some (.int .i64 e.since) := HM.out.cell 0 rfl 5
  have p13 : World.cell? _ ⟨ge, 13, none⟩ = some (.bool e.known) := HM.out.cell 0 rfl 13
  by_cases hr : e.node < 0 ∨ 31 < e.node ∨ e.peer < 0 ∨ 31 < e.peer ∨ e.number < 0 ∨ 255 < e.number ∨ e.since < 0 ∨ 1099511627776 < e.since
  case pos =>
    have hR2 : R = 2 := by rw [hR.out, if_pos hr]
    have hr2 : e.node < 0 ∨ (¬ e.node < 0 ∧ (32 ≤ e.node ∨ (¬ 32 ≤ e.node ∧ (e.peer < 0 ∨ (¬ e.peer < 0 ∧ (32 ≤ e.peer ∨ (¬ 32 ≤ e.peer ∧ (e.number < 0 ∨ (¬ e.number < 0 ∧ (255 < e.number ∨ (¬ 255 < e.number ∧ (e.since < 0 ∨ (¬ e.since < 0 ∧ (1099511627776 < e.since)))))))))))))) := by omega
    clear hr
    rcases hr2 with g0 | ⟨g0, g1 | ⟨g1, g2 | ⟨g2, g3 | ⟨g3, g4 | ⟨g4, g5 | ⟨g5, g6 | ⟨g6, g7⟩⟩⟩⟩⟩⟩⟩
    all_goals
      go_wp2_with fail
      exact hPo.out _ _ hR2 HM.out.below
  have hR1 := Lib.hid (hR.out.trans (if_neg hr))
  clear hR
  obtain ⟨g0, g1, g2, g3, g4, g5, g6, g7⟩ : ¬ e.node < 0 ∧ ¬ 32 ≤ e.node ∧ ¬ e.peer < 0 ∧ ¬ 32 ≤ e.peer ∧ ¬ e.number < 0 ∧ ¬ 255 < e.number ∧ ¬ e.since < 0 ∧ ¬ 1099511627776 < e.since := by omega
  clear hr
  go_upto_region 3 with fail
  clear g0 g1 g2 g3 g4 g5 g6 g7
  by_cases hnp : e.node = e.peer
  case pos =>
    have hR2 : R = 1 := by rw [hR1.out, if_pos (.inl hnp)]
    have d1 : (e.node == e.peer) = true := by rw [beq_iff_eq]; exact hnp
    go_wp2_with fail
    exact hPo.out _ _ hR2 HM.out.below
  have d1 : (e.node == e.peer) = false := by rw [beq_eq_false_iff_ne]; exact hnp
  by_cases hz : e.number = 0 ∧ 0 < v.cn
  case pos =>
    have hR2 : R = 1 := by rw [hR1.out, if_pos (.inr hz)]
    have d2 : (e.number == 0) = true := by rw [beq_iff_eq]; exact hz.1
    have d3 := hz.2
    have d4 : (0 : Int) < (v.cn : Int) := by omega
    go_wp2_with fail
    exact hPo.out _ _ hR2 HM.out.below
  have hR2 := Lib.hid (hR1.out.trans (if_neg (by rintro (hh | hh); exact hnp hh; exact hz hh)))
  clear hR1
  by_cases h0 : e.number = 0
  case pos =>
    have d2 : (e.number == 0) = true := by rw [beq_iff_eq]; exact h0
    have d3 : ¬ (0 : Int) < (v.cn : Int) := by intro hh; exact hz ⟨h0, by omega⟩
    have d4 : decide ((0 : Int) < (v.cn : Int)) = false := decide_eq_false d3
    clear hz
    by_cases hC : CT = 0
    case neg =>
      have hR3 : R = 1 := by rw [hR2.out, if_pos hC]
      have d1 : (CT != 0) = true := by rw [bne_iff_ne]; exact hC
      go_wp2_with (first | go_skip | (go_at_call 97; refine (cT.out _ HM.out.below).mono ?_; rintro r w3 ⟨rfl, hb_⟩; clear p0 p1 p2 p3 p4 p5 p13; replace HM := Lib.hid (HM.out.keep hb_); clear hb_; have p0 : World.cell? _ ⟨ge, 0, none⟩ = some (.int .i64 e.node) := HM.out.cell 0 rfl 0; have p1 : World.cell? _ ⟨ge, 1, none⟩ = some (.int .i64 e.peer) := HM.out.cell 0 rfl 1; have p2 : World.cell? _ ⟨ge, 2, none⟩ = some (.int .i64 e.number) := HM.out.cell 0 rfl 2; have p3 : World.cell? _ ⟨ge, 3, none⟩ = some (.slice v.cA v.cn v.cc) := HM.out.cell 0 rfl 3; have p4 : World.cell? _ ⟨ge, 4, none⟩ = some (.bool e.opn) := HM.out.cell 0 rfl 4; have p5 : World.cell? _ ⟨ge, 5, none⟩ = some (.int .i64 e.since) := HM.out.cell 0 rfl 5; have p13 : World.cell? _ ⟨ge, 13, none⟩ = some (.bool e.known) := HM.out.cell 0 rfl 13) | fail)
      exact hPo.out _ _ hR3 HM.out.below
    have d1 : (CT != 0) = false := by rw [bne_eq_false_iff_eq]; exact hC
    have hR3 := Lib.hid (hR2.out.trans (if_neg (fun hh => hh hC)))
    clear hR2
    have hn := hct.out hC
    clear hct
    go_upto_region 7 with (first | go_skip | (go_at_call 97; refine (cT.out _ HM.out.below).mono ?_; rintro r w3 ⟨rfl, hb_⟩; clear p0 p1 p2 p3 p4 p5 p13; replace HM := Lib.hid (HM.out.keep hb_); clear hb_; have p0 : World.cell? _ ⟨ge, 0, none⟩ = some (.int .i64 e.node) := HM.out.cell 0 rfl 0; have p1 : World.cell? _ ⟨ge, 1, none⟩ = some (.int .i64 e.peer) := HM.out.cell 0 rfl 1; have p2 : World.cell? _ ⟨ge, 2, none⟩ = some (.int .i64 e.number) := HM.out.cell 0 rfl 2; have p3 : World.cell? _ ⟨ge, 3, none⟩ = some (.slice v.cA v.cn v.cc) := HM.out.cell 0 rfl 3; have p4 : World.cell? _ ⟨ge, 4, none⟩ = some (.bool e.opn) := HM.out.cell 0 rfl 4; have p5 : World.cell? _ ⟨ge, 5, none⟩ = some (.int .i64 e.since) := HM.out.cell 0 rfl 5; have p13 : World.cell? _ ⟨ge, 13, none⟩ = some (.bool e.known) := HM.out.cell 0 rfl 13) | fail)
    clear p0 p1 p2 p3 p4 p5 p13 d1 hC
    go_wp2_with fail
    go_loopw [3] (fun i wr => Hid (∃ k : Nat, k ≤ v.cn ∧ i = .int .i64 k ∧ Hid (∀ j, j < k → agK e.peer (e.cells.getD j default) = true) ∧ Hid (Mem w wr [(ge, endA e v, 27)]))) (fun i _ => v.cn - (intOf i).toNat)
    case atStart => exact Lib.hid ⟨0, by omega, rfl, fun j hj => by omega, HM⟩
    case round =>
      clear HM
      obtain ⟨k, hk, rfl, HQ, HM⟩ := hrel.out
      clear hrel
      have p1 : World.cell? _ ⟨ge, 1, none⟩ = some (.int .i64 e.peer) := HM.out.cell 0 rfl 1
      have p3 : World.cell? _ ⟨ge, 3, none⟩ = some (.slice v.cA v.cn v.cc) := HM.out.cell 0 rfl 3
      by_cases hlt : k < v.cn
      · exfalso; omega
      · obtain rfl : k = v.cn := by omega
        have hR4 := Lib.hid (hR3.out.trans (if_neg (by rw [hAall.out HQ.out]; decide)))
        clear hR3 HQ hAhit hAall
        go_upto_region 12 with fail
        clear p1 p3
        have p0 : World.cell? _ ⟨ge, 0, none⟩ = some (.int .i64 e.node) := HM.out.cell 0 rfl 0
        have p1 : World.cell? _ ⟨ge, 1, none⟩ = some (.int .i64 e.peer) := HM.out.cell 0 rfl 1
        have p2 : World.cell? _ ⟨ge, 2, none⟩ = some (.int .i64 e.number) := HM.out.cell 0 rfl 2
        have p3 : World.cell? _ ⟨ge, 3, none⟩ = some (.slice v.cA v.cn v.cc) := HM.out.cell 0 rfl 3
        have p4 : World.cell? _ ⟨ge, 4, none⟩ = some (.bool e.opn) := HM.out.cell 0 rfl 4
        have p5 : World.cell? _ ⟨ge, 5, none⟩ = some (.int .i64 e.since) := HM.out.cell 0 rfl 5
        have p13 : World.cell? _ ⟨ge, 13, none⟩ = some (.bool e.known) := HM.out.cell 0 rfl 13
        clear p0 p1 p2 p3
        cases hop : e.opn
        case true =>
          rw [hop] at p4
          cases AK
          case false =>
            have hR5 : R = 1 := by rw [hR4.out, if_pos (.inl ⟨hop, rfl⟩)]
            go_wp2_with (first | go_skip | (refine wpList_loadG 0 HM (by rfl) _ _ rfl _ rfl rfl _ uE.out rfl (by exact zend) ?_) | (go_at_call 138; refine (cA.out hn _ HM.out.below).mono ?_; rintro r w3 ⟨rfl, hb_⟩; replace p4 := ((HM.out.keep hb_).cell 0 rfl 4).trans ((HM.out.cell 0 rfl 4).symm.trans p4); replace p5 := ((HM.out.keep hb_).cell 0 rfl 5).trans ((HM.out.cell 0 rfl 5).symm.trans p5); replace p13 := ((HM.out.keep hb_).cell 0 rfl 13).trans ((HM.out.cell 0 rfl 13).symm.trans p13); replace HM := Lib.hid (HM.out.keep hb_); clear hb_; dsimp only) | fail)
            exact hPo.out _ _ hR5 HM.out.below
          have hR6 := Lib.hid (hR4.out.trans (if_neg (by rw [hop]; simp)))
          clear hR4
          go_upto_region 14 with (first | go_skip | (refine wpList_loadG 0 HM (by rfl) _ _ rfl _ rfl rfl _ uE.out rfl (by exact zend) ?_) | (go_at_call 138; refine (cA.out hn _ HM.out.below).mono ?_; rintro r w3 ⟨rfl, hb_⟩; replace p4 := ((HM.out.keep hb_).cell 0 rfl 4).trans ((HM.out.cell 0 rfl 4).symm.trans p4); replace p5 := ((HM.out.keep hb_).cell 0 rfl 5).trans ((HM.out.cell 0 rfl 5).symm.trans p5); replace p13 := ((HM.out.keep hb_).cell 0 rfl 13).trans ((HM.out.cell 0 rfl 13).symm.trans p13); replace HM := Lib.hid (HM.out.keep hb_); clear hb_; dsimp only) | fail)
          clear p4 p5
          cases hkn : e.known
          case true =>
            rw [hkn] at p13 hR6
            cases RK
            case false =>
              go_wp2_with (first | go_skip | (refine wpList_loadG 0 HM (by rfl) _ _ rfl _ rfl rfl _ uE.out rfl (by exact zend) ?_) | (go_at_call 140; refine (cR.out _ HM.out.below).mono ?_; rintro r w3 ⟨rfl, hb_⟩; replace p13 := ((HM.out.keep hb_).cell 0 rfl 13).trans ((HM.out.cell 0 rfl 13).symm.trans p13); replace HM := Lib.hid (HM.out.keep hb_); clear hb_; dsimp only) | fail)
              exact hPo.out _ _ (by rw [hR6.out]; simp) HM.out.below
            case true =>
              go_wp2_with (first | go_skip | (refine wpList_loadG 0 HM (by rfl) _ _ rfl _ rfl rfl _ uE.out rfl (by exact zend) ?_) | (go_at_call 140; refine (cR.out _ HM.out.below).mono ?_; rintro r w3 ⟨rfl, hb_⟩; replace p13 := ((HM.out.keep hb_).cell 0 rfl 13).trans ((HM.out.cell 0 rfl 13).symm.trans p13); replace HM := Lib.hid (HM.out.keep hb_); clear hb_; dsimp only) | fail)
              exact hPo.out _ _ (by rw [hR6.out]; simp) HM.out.below
          case false =>
            rw [hkn] at p13 hR6
            cases Z2
            case false =>
              go_wp2_with (first | go_skip | (refine wpList_loadP 0 HM (by rfl) _ _ rfl _ 14 rfl rfl (msgA e.last v.l) (by kernel_rfl) _ uM.out rfl (by exact zmsg) ?_) | (go_at_call 139; refine (cZ2.out _ HM.out.below).mono ?_; rintro r w3 ⟨rfl, hb_⟩; replace p13 := ((HM.out.keep hb_).cell 0 rfl 13).trans ((HM.out.cell 0 rfl 13).symm.trans p13); replace HM := Lib.hid (HM.out.keep hb_); clear hb_; dsimp only) | fail)
              exact hPo.out _ _ (by rw [hR6.out]; simp) HM.out.below
            cases Z3
            case false =>
              have mz : Unit := ()
              go_wp2_with (first | go_skip | (refine wpList_loadP 0 HM (by rfl) _ _ rfl _ 14 rfl rfl (msgA e.last v.l) (by kernel_rfl) _ uM.out rfl (by exact zmsg) ?_) | (refine wpList_loadP 0 HM (by rfl) _ _ rfl _ 21 rfl rfl (msgA e.reply v.r) (by kernel_rfl) _ uM.out rfl (by exact zmsg) ?_) | (clear mz; go_at_call 139; refine (cZ2.out _ HM.out.below).mono ?_; rintro r w3 ⟨rfl, hb_⟩; replace p13 := ((HM.out.keep hb_).cell 0 rfl 13).trans ((HM.out.cell 0 rfl 13).symm.trans p13); replace HM := Lib.hid (HM.out.keep hb_); clear hb_; dsimp only) | (go_at_call 139; refine (cZ3.out _ HM.out.below).mono ?_; rintro r w3 ⟨rfl, hb_⟩; replace p13 := ((HM.out.keep hb_).cell 0 rfl 13).trans ((HM.out.cell 0 rfl 13).symm.trans p13); replace HM := Lib.hid (HM.out.keep hb_); clear hb_; dsimp only) | fail)
              exact hPo.out _ _ (by rw [hR6.out]; simp) HM.out.below
            case true =>
              have mz : Unit := ()
              go_wp2_with (first | go_skip | (refine wpList_loadP 0 HM (by rfl) _ _ rfl _ 14 rfl rfl (msgA e.last v.l) (by kernel_rfl) _ uM.out rfl (by exact zmsg) ?_) | (refine wpList_loadP 0 HM (by rfl) _ _ rfl _ 21 rfl rfl (msgA e.reply v.r) (by kernel_rfl) _ uM.out rfl (by exact zmsg) ?_) | (clear mz; go_at_call 139; refine (cZ2.out _ HM.out.below).mono ?_; rintro r w3 ⟨rfl, hb_⟩; replace p13 := ((HM.out.keep hb_).cell 0 rfl 13).trans ((HM.out.cell 0 rfl 13).symm.trans p13); replace HM := Lib.hid (HM.out.keep hb_); clear hb_; dsimp only) | (go_at_call 139; refine (cZ3.out _ HM.out.below).mono ?_; rintro r w3 ⟨rfl, hb_⟩; replace p13 := ((HM.out.keep hb_).cell 0 rfl 13).trans ((HM.out.cell 0 rfl 13).symm.trans p13); replace HM := Lib.hid (HM.out.keep hb_); clear hb_; dsimp only) | fail)
              exact hPo.out _ _ (by rw [hR6.out]; simp) HM.out.below
        case false =>
          rw [hop] at p4
          cases Z1
          case false =>
            have hR5 : R = 1 := by rw [hR4.out, if_pos (.inr ⟨hop, .inl rfl⟩)]
            go_wp2_with (first | go_skip | (refine wpList_loadP 0 HM (by rfl) _ _ rfl _ 6 rfl rfl (msgA e.asked v.a) (by kernel_rfl) _ uM.out rfl (by exact zmsg) ?_) | (go_at_call 139; refine (cZ1.out _ HM.out.below).mono ?_; rintro r w3 ⟨rfl, hb_⟩; replace p4 := ((HM.out.keep hb_).cell 0 rfl 4).trans ((HM.out.cell 0 rfl 4).symm.trans p4); replace p5 := ((HM.out.keep hb_).cell 0 rfl 5).trans ((HM.out.cell 0 rfl 5).symm.trans p5); replace p13 := ((HM.out.keep hb_).cell 0 rfl 13).trans ((HM.out.cell 0 rfl 13).symm.trans p13); replace HM := Lib.hid (HM.out.keep hb_); clear hb_; dsimp only) | fail)
            exact hPo.out _ _ hR5 HM.out.below
          by_cases hsi : e.since = 0
          case neg =>
            have d2 : (e.since != 0) = true := by rw [bne_iff_ne]; exact hsi
            have hR5 : R = 1 := by rw [hR4.out, if_pos (.inr ⟨hop, .inr hsi⟩)]
            go_wp2_with (first | go_skip | (refine wpList_loadP 0 HM (by rfl) _ _ rfl _ 6 rfl rfl (msgA e.asked v.a) (by kernel_rfl) _ uM.out rfl (by exact zmsg) ?_) | (go_at_call 139; refine (cZ1.out _ HM.out.below).mono ?_; rintro r w3 ⟨rfl, hb_⟩; replace p4 := ((HM.out.keep hb_).cell 0 rfl 4).trans ((HM.out.cell 0 rfl 4).symm.trans p4); replace p5 := ((HM.out.keep hb_).cell 0 rfl 5).trans ((HM.out.cell 0 rfl 5).symm.trans p5); replace p13 := ((HM.out.keep hb_).cell 0 rfl 13).trans ((HM.out.cell 0 rfl 13).symm.trans p13); replace HM := Lib.hid (HM.out.keep hb_); clear hb_; dsimp only) | fail)
            exact hPo.out _ _ hR5 HM.out.below
          have d2 : (e.since != 0) = false := by rw [bne_eq_false_iff_eq]; exact hsi
          have hR6 := Lib.hid (hR4.out.trans (if_neg (by rw [hop, hsi]; simp)))
          clear hR4
          go_upto_region 14 with (first | go_skip | (refine wpList_loadP 0 HM (by rfl) _ _ rfl _ 6 rfl rfl (msgA e.asked v.a) (by kernel_rfl) _ uM.out rfl (by exact zmsg) ?_) | (go_at_call 139; refine (cZ1.out _ HM.out.below).mono ?_; rintro r w3 ⟨rfl, hb_⟩; replace p4 := ((HM.out.keep hb_).cell 0 rfl 4).trans ((HM.out.cell 0 rfl 4).symm.trans p4); replace p5 := ((HM.out.keep hb_).cell 0 rfl 5).trans ((HM.out.cell 0 rfl 5).symm.trans p5); replace p13 := ((HM.out.keep hb_).cell 0 rfl 13).trans ((HM.out.cell 0 rfl 13).symm.trans p13); replace HM := Lib.hid (HM.out.keep hb_); clear hb_; dsimp only) | fail)
          clear d2
          clear p4 p5
          cases hkn : e.known
          case true =>
            rw [hkn] at p13 hR6
            cases RK
            case false =>
              go_wp2_with (first | go_skip | (refine wpList_loadG 0 HM (by rfl) _ _ rfl _ rfl rfl _ uE.out rfl (by exact zend) ?_) | (go_at_call 140; refine (cR.out _ HM.out.below).mono ?_; rintro r w3 ⟨rfl, hb_⟩; replace p13 := ((HM.out.keep hb_).cell 0 rfl 13).trans ((HM.out.cell 0 rfl 13).symm.trans p13); replace HM := Lib.hid (HM.out.keep hb_); clear hb_; dsimp only) | fail)
              exact hPo.out _ _ (by rw [hR6.out]; simp) HM.out.below
            case true =>
              go_wp2_with (first | go_skip | (refine wpList_loadG 0 HM (by rfl) _ _ rfl _ rfl rfl _ uE.out rfl (by exact zend) ?_) | (go_at_call 140; refine (cR.out _ HM.out.below).mono ?_; rintro r w3 ⟨rfl, hb_⟩; replace p13 := ((HM.out.keep hb_).cell 0 rfl 13).trans ((HM.out.cell 0 rfl 13).symm.trans p13); replace HM := Lib.hid (HM.out.keep hb_); clear hb_; dsimp only) | fail)
              exact hPo.out _ _ (by rw [hR6.out]; simp) HM.out.below
          case false =>
            rw [hkn] at p13 hR6
            cases Z2
            case false =>
              go_wp2_with (first | go_skip | (refine wpList_loadP 0 HM (by rfl) _ _ rfl _ 14 rfl rfl (msgA e.last v.l) (by kernel_rfl) _ uM.out rfl (by exact zmsg) ?_) | (go_at_call 139; refine (cZ2.out _ HM.out.below).mono ?_; rintro r w3 ⟨rfl, hb_⟩; replace p13 := ((HM.out.keep hb_).cell 0 rfl 13).trans ((HM.out.cell 0 rfl 13).symm.trans p13); replace HM := Lib.hid (HM.out.keep hb_); clear hb_; dsimp only) | fail)
              exact hPo.out _ _ (by rw [hR6.out]; simp) HM.out.below
            cases Z3
            case false =>
              have mz : Unit := ()
              go_wp2_with (first | go_skip | (refine wpList_loadP 0 HM (by rfl) _ _ rfl _ 14 rfl rfl (msgA e.last v.l) (by kernel_rfl) _ uM.out rfl (by exact zmsg) ?_) | (refine wpList_loadP 0 HM (by rfl) _ _ rfl _ 21 rfl rfl (msgA e.reply v.r) (by kernel_rfl) _ uM.out rfl (by exact zmsg) ?_) | (clear mz; go_at_call 139; refine (cZ2.out _ HM.out.below).mono ?_; rintro r w3 ⟨rfl, hb_⟩; replace p13 := ((HM.out.keep hb_).cell 0 rfl 13).trans ((HM.out.cell 0 rfl 13).symm.trans p13); replace HM := Lib.hid (HM.out.keep hb_); clear hb_; dsimp only) | (go_at_call 139; refine (cZ3.out _ HM.out.below).mono ?_; rintro r w3 ⟨rfl, hb_⟩; replace p13 := ((HM.out.keep hb_).cell 0 rfl 13).trans ((HM.out.cell 0 rfl 13).symm.trans p13); replace HM := Lib.hid (HM.out.keep hb_); clear hb_; dsimp only) | fail)
              exact hPo.out _ _ (by rw [hR6.out]; simp) HM.out.below
            case true =>
              have mz : Unit := ()
              go_wp2_with (first | go_skip | (refine wpList_loadP 0 HM (by rfl) _ _ rfl _ 14 rfl rfl (msgA e.last v.l) (by kernel_rfl) _ uM.out rfl (by exact zmsg) ?_) | (refine wpList_loadP 0 HM (by rfl) _ _ rfl _ 21 rfl rfl (msgA e.reply v.r) (by kernel_rfl) _ uM.out rfl (by exact zmsg) ?_) | (clear mz; go_at_call 139; refine (cZ2.out _ HM.out.below).mono ?_; rintro r w3 ⟨rfl, hb_⟩; replace p13 := ((HM.out.keep hb_).cell 0 rfl 13).trans ((HM.out.cell 0 rfl 13).symm.trans p13); replace HM := Lib.hid (HM.out.keep hb_); clear hb_; dsimp only) | (go_at_call 139; refine (cZ3.out _ HM.out.below).mono ?_; rintro r w3 ⟨rfl, hb_⟩; replace p13 := ((HM.out.keep hb_).cell 0 rfl 13).trans ((HM.out.cell 0 rfl 13).symm.trans p13); replace HM := Lib.hid (HM.out.keep hb_); clear hb_; dsimp only) | fail)
              exact hPo.out _ _ (by rw [hR6.out]; simp) HM.out.below
  case neg =>
    have d2 : (e.number == 0) = false := by rw [beq_eq_false_iff_ne]; exact h0
    clear hz
    by_cases hC : CT = 0
    case neg =>
      have hR3 : R = 1 := by rw [hR2.out, if_pos hC]
      have d1 : (CT != 0) = true := by rw [bne_iff_ne]; exact hC
      go_wp2_with (first | go_skip | (go_at_call 97; refine (cT.out _ HM.out.below).mono ?_; rintro r w3 ⟨rfl, hb_⟩; clear p0 p1 p2 p3 p4 p5 p13; replace HM := Lib.hid (HM.out.keep hb_); clear hb_; have p0 : World.cell? _ ⟨ge, 0, none⟩ = some (.int .i64 e.node) := HM.out.cell 0 rfl 0; have p1 : World.cell? _ ⟨ge, 1, none⟩ = some (.int .i64 e.peer) := HM.out.cell 0 rfl 1; have p2 : World.cell? _ ⟨ge, 2, none⟩ = some (.int .i64 e.number) := HM.out.cell 0 rfl 2; have p3 : World.cell? _ ⟨ge, 3, none⟩ = some (.slice v.cA v.cn v.cc) := HM.out.cell 0 rfl 3; have p4 : World.cell? _ ⟨ge, 4, none⟩ = some (.bool e.opn) := HM.out.cell 0 rfl 4; have p5 : World.cell? _ ⟨ge, 5, none⟩ = some (.int .i64 e.since) := HM.out.cell 0 rfl 5; have p13 : World.cell? _ ⟨ge, 13, none⟩ = some (.bool e.known) := HM.out.cell 0 rfl 13) | fail)
      exact hPo.out _ _ hR3 HM.out.below
    have d1 : (CT != 0) = false := by rw [bne_eq_false_iff_eq]; exact hC
    have hR3 := Lib.hid (hR2.out.trans (if_neg (fun hh => hh hC)))
    clear hR2
    have hn := hct.out hC
    clear hct
    go_upto_region 7 with (first | go_skip | (go_at_call 97; refine (cT.out _ HM.out.below).mono ?_; rintro r w3 ⟨rfl, hb_⟩; clear p0 p1 p2 p3 p4 p5 p13; replace HM := Lib.hid (HM.out.keep hb_); clear hb_; have p0 : World.cell? _ ⟨ge, 0, none⟩ = some (.int .i64 e.node) := HM.out.cell 0 rfl 0; have p1 : World.cell? _ ⟨ge, 1, none⟩ = some (.int .i64 e.peer) := HM.out.cell 0 rfl 1; have p2 : World.cell? _ ⟨ge, 2, none⟩ = some (.int .i64 e.number) := HM.out.cell 0 rfl 2; have p3 : World.cell? _ ⟨ge, 3, none⟩ = some (.slice v.cA v.cn v.cc) := HM.out.cell 0 rfl 3; have p4 : World.cell? _ ⟨ge, 4, none⟩ = some (.bool e.opn) := HM.out.cell 0 rfl 4; have p5 : World.cell? _ ⟨ge, 5, none⟩ = some (.int .i64 e.since) := HM.out.cell 0 rfl 5; have p13 : World.cell? _ ⟨ge, 13, none⟩ = some (.bool e.known) := HM.out.cell 0 rfl 13) | fail)
    clear p0 p1 p2 p3 p4 p5 p13 d1 hC
    go_wp2_with fail
    go_loopw [3] (fun i wr => Hid (∃ k : Nat, k ≤ v.cn ∧ i = .int .i64 k ∧ Hid (∀ j, j < k → agK e.peer (e.cells.getD j default) = true) ∧ Hid (Mem w wr [(ge, endA e v, 27)]))) (fun i _ => v.cn - (intOf i).toNat)
    case atStart => exact Lib.hid ⟨0, by omega, rfl, fun j hj => by omega, HM⟩
    case round =>
      clear HM
      obtain ⟨k, hk, rfl, HQ, HM⟩ := hrel.out
      clear hrel
      have p1 : World.cell? _ ⟨ge, 1, none⟩ = some (.int .i64 e.peer) := HM.out.cell 0 rfl 1
      have p3 : World.cell? _ ⟨ge, 3, none⟩ = some (.slice v.cA v.cn v.cc) := HM.out.cell 0 rfl 3
      by_cases hlt : k < v.cn
      · obtain ⟨b, off, hcA⟩ := h.out.cells.addr (by omega)
        have hx := tcl_at (hcA ▸ h.out.cells.keep HM.out.below) hlt
        have hq3 := hx.2.2.1
        have hq5 := hx.2.2.2.2.1
        have hF := hAhit.out k hlt
        have hQ2 : agK e.peer (e.cells.getD k default) = true → ∀ j, j < k + 1 → agK e.peer (e.cells.getD j default) = true := fun h j hj => by
          by_cases e1 : j = k
          · subst e1; exact h
          · exact HQ.out j (by omega)
        have hag : agK e.peer (e.cells.getD k default) = (decide ((e.cells.getD k default).kind = 2) && decide ((e.cells.getD k default).peer = e.peer)) := rfl
        generalize agK e.peer (e.cells.getD k default) = QA at *
        generalize (e.cells.getD k default).kind = zk at *
        generalize (e.cells.getD k default).peer = zp at *
        rw [hcA] at p3
        clear hx
        have g1 := cell_regrown hq3
        have g2 := cell_regrown hq5
        have g3 := cell_regrown p1
        have g4 := cell_regrown p3
        have r1 : (k : Int) < (v.cn : Int) := by omega
        have r0 : (0 : Int) ≤ (k : Int) := by omega
        replace hcA := Lib.hid hcA
        replace hQ2 := Lib.hid hQ2
        replace hF := Lib.hid hF
        replace hag := Lib.hid hag
        by_cases hk2 : zk = 2
        · have dk : (zk != 2) = false := by rw [bne_eq_false_iff_eq]; exact hk2
          by_cases hp2 : zp = e.peer
          · have dp : (zp != e.peer) = false := by rw [bne_eq_false_iff_eq]; exact hp2
            have hQ3 := Lib.hid (hQ2.out (by rw [hag.out]; simp [hk2, hp2]))
            clear hq3 hq5
            go_wp2_with fail
            refine wp_region_quiet_below (by kernel_rfl) (by kernel_rfl) ?_
            repeat (go_big_quiet_step (fail))
            refine wpQuiet_nil ?_
            rintro _ ⟨⟨dq, osq⟩, rfl⟩
            have hb_ := below_regrown wr dq osq
            have HM3 := Lib.hid (HM.out.keep hb_)
            generalize grow (redrawn wr dq) osq = w2 at *
            clear hb_
            go_wp2_with fail
            exact ⟨Lib.hid ⟨k + 1, by omega, by go_num, hQ3, HM3⟩, by simp [intOf]; omega⟩
          · have dp : (zp != e.peer) = true := by rw [bne_iff_ne]; exact hp2
            have hR5 : R = 1 := by rw [hR3.out, if_pos (hF.out (by rw [hag.out]; simp [hp2]))]
            clear hq3 hq5
            go_wp2_with fail
            refine wp_region_quiet_below (by kernel_rfl) (by kernel_rfl) ?_
            repeat (go_big_quiet_step (fail))
            refine wpQuiet_nil ?_
            rintro _ ⟨⟨dq, osq⟩, rfl⟩
            have hb_ := below_regrown wr dq osq
            have HM3 := Lib.hid (HM.out.keep hb_)
            go_wp2_with fail
            exact hPo.out _ _ hR5 HM3.out.below
        · have dk : (zk != 2) = true := by rw [bne_iff_ne]; exact hk2
          have hR5 : R = 1 := by rw [hR3.out, if_pos (hF.out (by rw [hag.out]; simp [hk2]))]
          clear hq3 hq5
          go_wp2_with fail
          refine wp_region_quiet_below (by kernel_rfl) (by kernel_rfl) ?_
          repeat (go_big_quiet_step (fail))
          refine wpQuiet_nil ?_
          rintro _ ⟨⟨dq, osq⟩, rfl⟩
          have hb_ := below_regrown wr dq osq
          have HM3 := Lib.hid (HM.out.keep hb_)
          go_wp2_with fail
          exact hPo.out _ _ hR5 HM3.out.below
      · obtain rfl : k = v.cn := by omega
        have hR4 := Lib.hid (hR3.out.trans (if_neg (by rw [hAall.out HQ.out]; decide)))
        clear hR3 HQ hAhit hAall
        go_upto_region 12 with fail
        clear p1 p3
        have p0 : World.cell? _ ⟨ge, 0, none⟩ = some (.int .i64 e.node) := HM.out.cell 0 rfl 0
        have p1 : World.cell? _ ⟨ge, 1, none⟩ = some (.int .i64 e.peer) := HM.out.cell 0 rfl 1
        have p2 : World.cell? _ ⟨ge, 2, none⟩ = some (.int .i64 e.number) := HM.out.cell 0 rfl 2
        have p3 : World.cell? _ ⟨ge, 3, none⟩ = some (.slice v.cA v.cn v.cc) := HM.out.cell 0 rfl 3
        have p4 : World.cell? _ ⟨ge, 4, none⟩ = some (.bool e.opn) := HM.out.cell 0 rfl 4
        have p5 : World.cell? _ ⟨ge, 5, none⟩ = some (.int .i64 e.since) := HM.out.cell 0 rfl 5
        have p13 : World.cell? _ ⟨ge, 13, none⟩ = some (.bool e.known) := HM.out.cell 0 rfl 13
        clear p0 p1 p2 p3
        cases hop : e.opn
        case true =>
          rw [hop] at p4
          cases AK
          case false =>
            have hR5 : R = 1 := by rw [hR4.out, if_pos (.inl ⟨hop, rfl⟩)]
            go_wp2_with (first | go_skip | (refine wpList_loadG 0 HM (by rfl) _ _ rfl _ rfl rfl _ uE.out rfl (by exact zend) ?_) | (go_at_call 138; refine (cA.out hn _ HM.out.below).mono ?_; rintro r w3 ⟨rfl, hb_⟩; replace p4 := ((HM.out.keep hb_).cell 0 rfl 4).trans ((HM.out.cell 0 rfl 4).symm.trans p4); replace p5 := ((HM.out.keep hb_).cell 0 rfl 5).trans ((HM.out.cell 0 rfl 5).symm.trans p5); replace p13 := ((HM.out.keep hb_).cell 0 rfl 13).trans ((HM.out.cell 0 rfl 13).symm.trans p13); replace HM := Lib.hid (HM.out.keep hb_); clear hb_; dsimp only) | fail)
            exact hPo.out _ _ hR5 HM.out.below
          have hR6 := Lib.hid (hR4.out.trans (if_neg (by rw [hop]; simp)))
          clear hR4
          go_upto_region 14 with (first | go_skip | (refine wpList_loadG 0 HM (by rfl) _ _ rfl _ rfl rfl _ uE.out rfl (by exact zend) ?_) | (go_at_call 138; refine (cA.out hn _ HM.out.below).mono ?_; rintro r w3 ⟨rfl, hb_⟩; replace p4 := ((HM.out.keep hb_).cell 0 rfl 4).trans ((HM.out.cell 0 rfl 4).symm.trans p4); replace p5 := ((HM.out.keep hb_).cell 0 rfl 5).trans ((HM.out.cell 0 rfl 5).symm.trans p5); replace p13 := ((HM.out.keep hb_).cell 0 rfl 13).trans ((HM.out.cell 0 rfl 13).symm.trans p13); replace HM := Lib.hid (HM.out.keep hb_); clear hb_; dsimp only) | fail)
          clear p4 p5
          cases hkn : e.known
          case true =>
            rw [hkn] at p13 hR6
            cases RK
            case false =>
              go_wp2_with (first | go_skip | (refine wpList_loadG 0 HM (by rfl) _ _ rfl _ rfl rfl _ uE.out rfl (by exact zend) ?_) | (go_at_call 140; refine (cR.out _ HM.out.below).mono ?_; rintro r w3 ⟨rfl, hb_⟩; replace p13 := ((HM.out.keep hb_).cell 0 rfl 13).trans ((HM.out.cell 0 rfl 13).symm.trans p13); replace HM := Lib.hid (HM.out.keep hb_); clear hb_; dsimp only) | fail)
              exact hPo.out _ _ (by rw [hR6.out]; simp) HM.out.below
            case true =>
              go_wp2_with (first | go_skip | (refine wpList_loadG 0 HM (by rfl) _ _ rfl _ rfl rfl _ uE.out rfl (by exact zend) ?_) | (go_at_call 140; refine (cR.out _ HM.out.below).mono ?_; rintro r w3 ⟨rfl, hb_⟩; replace p13 := ((HM.out.keep hb_).cell 0 rfl 13).trans ((HM.out.cell 0 rfl 13).symm.trans p13); replace HM := Lib.hid (HM.out.keep hb_); clear hb_; dsimp only) | fail)
              exact hPo.out _ _ (by rw [hR6.out]; simp) HM.out.below
          case false =>
            rw [hkn] at p13 hR6
            cases Z2
            case false =>
              go_wp2_with (first | go_skip | (refine wpList_loadP 0 HM (by rfl) _ _ rfl _ 14 rfl rfl (msgA e.last v.l) (by kernel_rfl) _ uM.out rfl (by exact zmsg) ?_) | (go_at_call 139; refine (cZ2.out _ HM.out.below).mono ?_; rintro r w3 ⟨rfl, hb_⟩; replace p13 := ((HM.out.keep hb_).cell 0 rfl 13).trans ((HM.out.cell 0 rfl 13).symm.trans p13); replace HM := Lib.hid (HM.out.keep hb_); clear hb_; dsimp only) | fail)
              exact hPo.out _ _ (by rw [hR6.out]; simp) HM.out.below
            cases Z3
            case false =>
              have mz : Unit := ()
              go_wp2_with (first | go_skip | (refine wpList_loadP 0 HM (by rfl) _ _ rfl _ 14 rfl rfl (msgA e.last v.l) (by kernel_rfl) _ uM.out rfl (by exact zmsg) ?_) | (refine wpList_loadP 0 HM (by rfl) _ _ rfl _ 21 rfl rfl (msgA e.reply v.r) (by kernel_rfl) _ uM.out rfl (by exact zmsg) ?_) | (clear mz; go_at_call 139; refine (cZ2.out _ HM.out.below).mono ?_; rintro r w3 ⟨rfl, hb_⟩; replace p13 := ((HM.out.keep hb_).cell 0 rfl 13).trans ((HM.out.cell 0 rfl 13).symm.trans p13); replace HM := Lib.hid (HM.out.keep hb_); clear hb_; dsimp only) | (go_at_call 139; refine (cZ3.out _ HM.out.below).mono ?_; rintro r w3 ⟨rfl, hb_⟩; replace p13 := ((HM.out.keep hb_).cell 0 rfl 13).trans ((HM.out.cell 0 rfl 13).symm.trans p13); replace HM := Lib.hid (HM.out.keep hb_); clear hb_; dsimp only) | fail)
              exact hPo.out _ _ (by rw [hR6.out]; simp) HM.out.below
            case true =>
              have mz : Unit := ()
              go_wp2_with (first | go_skip | (refine wpList_loadP 0 HM (by rfl) _ _ rfl _ 14 rfl rfl (msgA e.last v.l) (by kernel_rfl) _ uM.out rfl (by exact zmsg) ?_) | (refine wpList_loadP 0 HM (by rfl) _ _ rfl _ 21 rfl rfl (msgA e.reply v.r) (by kernel_rfl) _ uM.out rfl (by exact zmsg) ?_) | (clear mz; go_at_call 139; refine (cZ2.out _ HM.out.below).mono ?_; rintro r w3 ⟨rfl, hb_⟩; replace p13 := ((HM.out.keep hb_).cell 0 rfl 13).trans ((HM.out.cell 0 rfl 13).symm.trans p13); replace HM := Lib.hid (HM.out.keep hb_); clear hb_; dsimp only) | (go_at_call 139; refine (cZ3.out _ HM.out.below).mono ?_; rintro r w3 ⟨rfl, hb_⟩; replace p13 := ((HM.out.keep hb_).cell 0 rfl 13).trans ((HM.out.cell 0 rfl 13).symm.trans p13); replace HM := Lib.hid (HM.out.keep hb_); clear hb_; dsimp only) | fail)
              exact hPo.out _ _ (by rw [hR6.out]; simp) HM.out.below
        case false =>
          rw [hop] at p4
          cases Z1
          case false =>
            have hR5 : R = 1 := by rw [hR4.out, if_pos (.inr ⟨hop, .inl rfl⟩)]
            go_wp2_with (first | go_skip | (refine wpList_loadP 0 HM (by rfl) _ _ rfl _ 6 rfl rfl (msgA e.asked v.a) (by kernel_rfl) _ uM.out rfl (by exact zmsg) ?_) | (go_at_call 139; refine (cZ1.out _ HM.out.below).mono ?_; rintro r w3 ⟨rfl, hb_⟩; replace p4 := ((HM.out.keep hb_).cell 0 rfl 4).trans ((HM.out.cell 0 rfl 4).symm.trans p4); replace p5 := ((HM.out.keep hb_).cell 0 rfl 5).trans ((HM.out.cell 0 rfl 5).symm.trans p5); replace p13 := ((HM.out.keep hb_).cell 0 rfl 13).trans ((HM.out.cell 0 rfl 13).symm.trans p13); replace HM := Lib.hid (HM.out.keep hb_); clear hb_; dsimp only) | fail)
            exact hPo.out _ _ hR5 HM.out.below
          by_cases hsi : e.since = 0
          case neg =>
            have d2 : (e.since != 0) = true := by rw [bne_iff_ne]; exact hsi
            have hR5 : R = 1 := by rw [hR4.out, if_pos (.inr ⟨hop, .inr hsi⟩)]
            go_wp2_with (first | go_skip | (refine wpList_loadP 0 HM (by rfl) _ _ rfl _ 6 rfl rfl (msgA e.asked v.a) (by kernel_rfl) _ uM.out rfl (by exact zmsg) ?_) | (go_at_call 139; refine (cZ1.out _ HM.out.below).mono ?_; rintro r w3 ⟨rfl, hb_⟩; replace p4 := ((HM.out.keep hb_).cell 0 rfl 4).trans ((HM.out.cell 0 rfl 4).symm.trans p4); replace p5 := ((HM.out.keep hb_).cell 0 rfl 5).trans ((HM.out.cell 0 rfl 5).symm.trans p5); replace p13 := ((HM.out.keep hb_).cell 0 rfl 13).trans ((HM.out.cell 0 rfl 13).symm.trans p13); replace HM := Lib.hid (HM.out.keep hb_); clear hb_; dsimp only) | fail)
            exact hPo.out _ _ hR5 HM.out.below
          have d2 : (e.since != 0) = false := by rw [bne_eq_false_iff_eq]; exact hsi
          have hR6 := Lib.hid (hR4.out.trans (if_neg (by rw [hop, hsi]; simp)))
          clear hR4
          go_upto_region 14 with (first | go_skip | (refine wpList_loadP 0 HM (by rfl) _ _ rfl _ 6 rfl rfl (msgA e.asked v.a) (by kernel_rfl) _ uM.out rfl (by exact zmsg) ?_) | (go_at_call 139; refine (cZ1.out _ HM.out.below).mono ?_; rintro r w3 ⟨rfl, hb_⟩; replace p4 := ((HM.out.keep hb_).cell 0 rfl 4).trans ((HM.out.cell 0 rfl 4).symm.trans p4); replace p5 := ((HM.out.keep hb_).cell 0 rfl 5).trans ((HM.out.cell 0 rfl 5).symm.trans p5); replace p13 := ((HM.out.keep hb_).cell 0 rfl 13).trans ((HM.out.cell 0 rfl 13).symm.trans p13); replace HM := Lib.hid (HM.out.keep hb_); clear hb_; dsimp only) | fail)
          clear d2
          clear p4 p5
          cases hkn : e.known
          case true =>
            rw [hkn] at p13 hR6
            cases RK
            case false =>
              go_wp2_with (first | go_skip | (refine wpList_loadG 0 HM (by rfl) _ _ rfl _ rfl rfl _ uE.out rfl (by exact zend) ?_) | (go_at_call 140; refine (cR.out _ HM.out.below).mono ?_; rintro r w3 ⟨rfl, hb_⟩; replace p13 := ((HM.out.keep hb_).cell 0 rfl 13).trans ((HM.out.cell 0 rfl 13).symm.trans p13); replace HM := Lib.hid (HM.out.keep hb_); clear hb_; dsimp only) | fail)
              exact hPo.out _ _ (by rw [hR6.out]; simp) HM.out.below
            case true =>
              go_wp2_with (first | go_skip | (refine wpList_loadG 0 HM (by rfl) _ _ rfl _ rfl rfl _ uE.out rfl (by exact zend) ?_) | (go_at_call 140; refine (cR.out _ HM.out.below).mono ?_; rintro r w3 ⟨rfl, hb_⟩; replace p13 := ((HM.out.keep hb_).cell 0 rfl 13).trans ((HM.out.cell 0 rfl 13).symm.trans p13); replace HM := Lib.hid (HM.out.keep hb_); clear hb_; dsimp only) | fail)
              exact hPo.out _ _ (by rw [hR6.out]; simp) HM.out.below
          case false =>
            rw [hkn] at p13 hR6
            cases Z2
            case false =>
              go_wp2_with (first | go_skip | (refine wpList_loadP 0 HM (by rfl) _ _ rfl _ 14 rfl rfl (msgA e.last v.l) (by kernel_rfl) _ uM.out rfl (by exact zmsg) ?_) | (go_at_call 139; refine (cZ2.out _ HM.out.below).mono ?_; rintro r w3 ⟨rfl, hb_⟩; replace p13 := ((HM.out.keep hb_).cell 0 rfl 13).trans ((HM.out.cell 0 rfl 13).symm.trans p13); replace HM := Lib.hid (HM.out.keep hb_); clear hb_; dsimp only) | fail)
              exact hPo.out _ _ (by rw [hR6.out]; simp) HM.out.below
            cases Z3
            case false =>
              have mz : Unit := ()
              go_wp2_with (first | go_skip | (refine wpList_loadP 0 HM (by rfl) _ _ rfl _ 14 rfl rfl (msgA e.last v.l) (by kernel_rfl) _ uM.out rfl (by exact zmsg) ?_) | (refine wpList_loadP 0 HM (by rfl) _ _ rfl _ 21 rfl rfl (msgA e.reply v.r) (by kernel_rfl) _ uM.out rfl (by exact zmsg) ?_) | (clear mz; go_at_call 139; refine (cZ2.out _ HM.out.below).mono ?_; rintro r w3 ⟨rfl, hb_⟩; replace p13 := ((HM.out.keep hb_).cell 0 rfl 13).trans ((HM.out.cell 0 rfl 13).symm.trans p13); replace HM := Lib.hid (HM.out.keep hb_); clear hb_; dsimp only) | (go_at_call 139; refine (cZ3.out _ HM.out.below).mono ?_; rintro r w3 ⟨rfl, hb_⟩; replace p13 := ((HM.out.keep hb_).cell 0 rfl 13).trans ((HM.out.cell 0 rfl 13).symm.trans p13); replace HM := Lib.hid (HM.out.keep hb_); clear hb_; dsimp only) | fail)
              exact hPo.out _ _ (by rw [hR6.out]; simp) HM.out.below
            case true =>
              have mz : Unit := ()
              go_wp2_with (first | go_skip | (refine wpList_loadP 0 HM (by rfl) _ _ rfl _ 14 rfl rfl (msgA e.last v.l) (by kernel_rfl) _ uM.out rfl (by exact zmsg) ?_) | (refine wpList_loadP 0 HM (by rfl) _ _ rfl _ 21 rfl rfl (msgA e.reply v.r) (by kernel_rfl) _ uM.out rfl (by exact zmsg) ?_) | (clear mz; go_at_call 139; refine (cZ2.out _ HM.out.below).mono ?_; rintro r w3 ⟨rfl, hb_⟩; replace p13 := ((HM.out.keep hb_).cell 0 rfl 13).trans ((HM.out.cell 0 rfl 13).symm.trans p13); replace HM := Lib.hid (HM.out.keep hb_); clear hb_; dsimp only) | (go_at_call 139; refine (cZ3.out _ HM.out.below).mono ?_; rintro r w3 ⟨rfl, hb_⟩; replace p13 := ((HM.out.keep hb_).cell 0 rfl 13).trans ((HM.out.cell 0 rfl 13).symm.trans p13); replace HM := Lib.hid (HM.out.keep hb_); clear hb_; dsimp only) | fail)
              exact hPo.out _ _ (by rw [hR6.out]; simp) HM.out.below
end Tx
end Go.Proofs.YtfoffooblkofhaaGreat
