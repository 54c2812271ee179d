/- Chapter 25: Check. -/
import Derived.Test.YtkfipbelhlcddaaGreatTx6
set_option linter.unusedVariables false
set_option linter.unusedSimpArgs false
namespace Go.Proofs.YtkfipbelhlcddaaGreat
open Go Go.RowKit Go.Sort Go.Lib Go.Shelf Go.Maps
namespace Tx
open Sw Mm
set_option maxRecDepth 100000 in
set_option maxHeartbeats 4000000 in
theorem chkM_any (m : Msg) (v : MsgV) (w : World) (h : MsgIs w v m) : Calls Tryz.prog 44 #[.agg #[.int .i64 m.kind, .bool m.reply, .int .i64 m.number, .int .i64 m.code, .int .i64 m.count, .slice v.sA v.sn v.sc, .slice v.oA v.on v.oc]] w fun e w' => e = .returned (.int .i64 (chkM m)) ∧ Below w.heap.size w w' := by
  obtain ⟨k0, r0, n0, c0, t0, s0, o0⟩ := m
  dsimp only
  have hb := ball w (.cells #[.int .i64 k0, .bool r0, .int .i64 n0, .int .i64 c0, .int .i64 t0, .slice v.sA v.sn v.sc, .slice v.oA v.on v.oc] 25)
  have BX := Box.new w #[.int .i64 k0, .bool r0, .int .i64 n0, .int .i64 c0, .int .i64 t0, .slice v.sA v.sn v.sc, .slice v.oA v.on v.oc] 25
  obtain ⟨s1, s2⟩ := spots_small h
  unfold maxLen at s1 s2
  have kx := BX.at_
  have cP := fun A n c l W k => places_any A n c l W k
  have cF : Hid (∀ W (k : MsgIs W v ⟨k0, r0, n0, c0, t0, s0, o0⟩) (hk : 1 ≤ k0 ∧ k0 ≤ 6) (hs : v.sn ≤ 8) (ho : v.on ≤ 8), Calls Tryz.prog 101 #[.agg #[.int .i64 k0, .bool r0, .int .i64 n0, .int .i64 c0, .int .i64 t0, .slice v.sA v.sn v.sc, .slice v.oA v.on v.oc]] W fun e w' => e = .returned (.bool (follN ⟨k0, r0, n0, c0, t0, s0, o0⟩)) ∧ Below W.heap.size W w') := fun W k hk hs ho => by
    have := follows_any ⟨k0, r0, n0, c0, t0, s0, o0⟩ v W k hk
    rwa [follP_eq hk (by show s0.length ≤ 8; rw [h.spots.len]; exact hs) (by show o0.length ≤ 8; rw [h.old.len]; exact ho)] at this
  have hR : chkM ⟨k0, r0, n0, c0, t0, s0, o0⟩ = if k0 < 1 ∨ 6 < k0 then 1 else if n0 < 0 ∨ 255 < n0 ∨ c0 < 0 ∨ 3 < c0 ∨ t0 < 0 ∨ 512 < t0 then 2 else if 8 < s0.length ∨ 8 < o0.length then 8 else if placesN s0 ≠ 0 then placesN s0 else if placesN o0 ≠ 0 then placesN o0 else if follN ⟨k0, r0, n0, c0, t0, s0, o0⟩ = false then 11 else 0 := rfl
  rw [show s0.length = v.sn from h.spots.len, show o0.length = v.on from h.old.len] at hR
  generalize chkM ⟨k0, r0, n0, c0, t0, s0, o0⟩ = R at *
  generalize follN ⟨k0, r0, n0, c0, t0, s0, o0⟩ = F at *
  replace hb := Lib.hid hb
  replace BX := Lib.hid BX
  replace h := Lib.hid h
  go_enter Tryz.func44, Tryz.ntmps44
  go_upto_region 1 with fail
  generalize w.alloc (.cells #[.int .i64 k0, .bool r0, .int .i64 n0, .int .i64 c0, .int .i64 t0, .slice v.sA v.sn v.sc, .slice v.oA v.on v.oc] 25) = w1 at *
  by_cases ck0 : k0 < 1
  · have hRe : Hid (R = 1) := by show _ = _; rw [hR, if_pos (by omega)]
    clear hR
    go_wp2
    go_ret
    exact ⟨by rw [hRe.out]; rfl, hb.out⟩
  have nck0 : 1 ≤ k0 := by omega
  clear ck0
  by_cases ck1 : 6 < k0
  · have hRe : Hid (R = 1) := by show _ = _; rw [hR, if_pos (by omega)]
    clear hR
    go_wp2
    go_ret
    exact ⟨by rw [hRe.out]; rfl, hb.out⟩
  have nck1 : k0 ≤ 6 := by omega
  clear ck1
  rw [if_neg (by omega)] at hR
  by_cases cn0 : n0 < 0
  · have hRe : Hid (R = 2) := by show _ = _; rw [hR, if_pos (by omega)]
    clear hR
    go_wp2
    go_ret
    exact ⟨by rw [hRe.out]; rfl, hb.out⟩
  have ncn0 : 0 ≤ n0 := by omega
  clear cn0
  by_cases cn1 : 255 < n0
  · have hRe : Hid (R = 2) := by show _ = _; rw [hR, if_pos (by omega)]
    clear hR
    go_wp2
    go_ret
    exact ⟨by rw [hRe.out]; rfl, hb.out⟩
  have ncn1 : n0 ≤ 255 := by omega
  clear cn1
  by_cases cn2 : c0 < 0
  · have hRe : Hid (R = 2) := by show _ = _; rw [hR, if_pos (by omega)]
    clear hR
    go_wp2
    go_ret
    exact ⟨by rw [hRe.out]; rfl, hb.out⟩
  have ncn2 : 0 ≤ c0 := by omega
  clear cn2
  by_cases cn3 : 3 < c0
  · have hRe : Hid (R = 2) := by show _ = _; rw [hR, if_pos (by omega)]
    clear hR
    go_wp2
    go_ret
    exact ⟨by rw [hRe.out]; rfl, hb.out⟩
  have ncn3 : c0 ≤ 3 := by omega
  clear cn3
  by_cases cn4 : t0 < 0
  · have hRe : Hid (R = 2) := by show _ = _; rw [hR, if_pos (by omega)]
    clear hR
    go_wp2
    go_ret
    exact ⟨by rw [hRe.out]; rfl, hb.out⟩
  have ncn4 : 0 ≤ t0 := by omega
  clear cn4
  by_cases cn5 : 512 < t0
  · have hRe : Hid (R = 2) := by show _ = _; rw [hR, if_pos (by omega)]
    clear hR
    go_wp2
    go_ret
    exact ⟨by rw [hRe.out]; rfl, hb.out⟩
  have ncn5 : t0 ≤ 512 := by omega
  clear cn5
  rw [if_neg (by omega)] at hR
  by_cases cs0 : 8 < v.sn
  · have hRe : Hid (R = 8) := by show _ = _; rw [hR, if_pos (by omega)]
    clear hR
    go_wp2
    go_ret
    exact ⟨by rw [hRe.out]; rfl, hb.out⟩
  have ncs0 : v.sn ≤ 8 := by omega
  clear cs0
  by_cases cs1 : 8 < v.on
  · have hRe : Hid (R = 8) := by show _ = _; rw [hR, if_pos (by omega)]
    clear hR
    go_wp2
    go_ret
    exact ⟨by rw [hRe.out]; rfl, hb.out⟩
  have ncs1 : v.on ≤ 8 := by omega
  clear cs1
  rw [if_neg (by omega)] at hR
  have cP1 := cP v.sA v.sn v.sc s0 w1 (h.out.keep hb.out).spots
  generalize placesN s0 = P1 at *
  replace cP1 := Lib.hid cP1
  go_wp2_with fail
  refine cP1.out.mono ?_
  rintro e w2 ⟨rfl, hb_⟩
  clear kx cP1
  replace hb := Lib.hid (hb.out.keep hb_)
  replace BX := Lib.hid (BX.out.keep hb_)
  clear hb_
  have kx := BX.out.at_
  by_cases p1 : P1 = 0
  case neg =>
    have d1 : (P1 != 0) = true := by rw [bne_iff_ne]; exact p1
    rw [if_pos p1] at hR
    replace p1 := Lib.hid p1
    replace hR := Lib.hid hR
    go_wp2
    go_ret
    exact ⟨by rw [hR.out]; rfl, hb.out⟩
  rw [if_neg (fun k => k p1)] at hR
  subst p1
  have cP2 := cP v.oA v.on v.oc o0 w2 (h.out.keep hb.out).old
  generalize placesN o0 = P2 at *
  replace cP2 := Lib.hid cP2
  go_wp2_with fail
  refine cP2.out.mono ?_
  rintro e w3 ⟨rfl, hb_⟩
  clear kx cP2
  replace hb := Lib.hid (hb.out.keep hb_)
  replace BX := Lib.hid (BX.out.keep hb_)
  clear hb_
  have kx := BX.out.at_
  by_cases p2 : P2 = 0
  case neg =>
    have d2 : (P2 != 0) = true := by rw [bne_iff_ne]; exact p2
    rw [if_pos p2] at hR
    replace p2 := Lib.hid p2
    replace hR := Lib.hid hR
    go_wp2
    go_ret
    exact ⟨by rw [hR.out]; rfl, hb.out⟩
  rw [if_neg (fun k => k p2)] at hR
  subst p2
  have cF2 := cF.out w3 (h.out.keep hb.out) ⟨nck0, nck1⟩ ncs0 ncs1
  replace cF2 := Lib.hid cF2
  go_wp2_with fail
  refine cF2.out.mono ?_
  rintro e w4 ⟨rfl, hb_⟩
  clear kx cF2
  replace hb := Lib.hid (hb.out.keep hb_)
  clear hb_
  cases F with
  | true =>
    rw [if_neg (by simp)] at hR
    replace hR := Lib.hid hR
    go_wp2
    go_ret
    exact ⟨by rw [hR.out]; rfl, hb.out⟩
  | false =>
    rw [if_pos rfl] at hR
    replace hR := Lib.hid hR
    go_wp2
    go_ret
    exact ⟨by rw [hR.out]; rfl, hb.out⟩
set_option maxRecDepth 100000 in
set_option maxHeartbeats 4000000 in
theorem rchkM_any (m : Msg) (v : MsgV) (w : World) (h : MsgIs w v m) : Calls Tryz.prog 56 #[.agg #[.int .i64 m.kind, .bool m.reply, .int .i64 m.number, .int .i64 m.code, .int .i64 m.count, .slice v.sA v.sn v.sc, .slice v.oA v.on v.oc]] w fun e w' => e = .returned (.int .i64 (chkM m)) ∧ Below w.heap.size w w' := by
  obtain ⟨k0, r0, n0, c0, t0, s0, o0⟩ := m
  dsimp only
  have hb := ball w (.cells #[.int .i64 k0, .bool r0, .int .i64 n0, .int .i64 c0, .int .i64 t0, .slice v.sA v.sn v.sc, .slice v.oA v.on v.oc] 25)
  have BX := Box.new w #[.int .i64 k0, .bool r0, .int .i64 n0, .int .i64 c0, .int .i64 t0, .slice v.sA v.sn v.sc, .slice v.oA v.on v.oc] 25
  obtain ⟨s1, s2⟩ := spots_small h
  unfold maxLen at s1 s2
  have kx := BX.at_
  have cP := fun A n c l W k => rplaces_any A n c l W k
  have cF : Hid (∀ W (k : MsgIs W v ⟨k0, r0, n0, c0, t0, s0, o0⟩) (hk : 1 ≤ k0 ∧ k0 ≤ 6) (hs : v.sn ≤ 8) (ho : v.on ≤ 8), Calls Tryz.prog 108 #[.agg #[.int .i64 k0, .bool r0, .int .i64 n0, .int .i64 c0, .int .i64 t0, .slice v.sA v.sn v.sc, .slice v.oA v.on v.oc]] W fun e w' => e = .returned (.bool (follN ⟨k0, r0, n0, c0, t0, s0, o0⟩)) ∧ Below W.heap.size W w') := fun W k hk hs ho => by
    have := rfollows_any ⟨k0, r0, n0, c0, t0, s0, o0⟩ v W k
    exact this
  have hR : chkM ⟨k0, r0, n0, c0, t0, s0, o0⟩ = if k0 < 1 ∨ 6 < k0 then 1 else if n0 < 0 ∨ 255 < n0 ∨ c0 < 0 ∨ 3 < c0 ∨ t0 < 0 ∨ 512 < t0 then 2 else if 8 < s0.length ∨ 8 < o0.length then 8 else if placesN s0 ≠ 0 then placesN s0 else if placesN o0 ≠ 0 then placesN o0 else if follN ⟨k0, r0, n0, c0, t0, s0, o0⟩ = false then 11 else 0 := rfl
  rw [show s0.length = v.sn from h.spots.len, show o0.length = v.on from h.old.len] at hR
  generalize chkM ⟨k0, r0, n0, c0, t0, s0, o0⟩ = R at *
  generalize follN ⟨k0, r0, n0, c0, t0, s0, o0⟩ = F at *
  replace hb := Lib.hid hb
  replace BX := Lib.hid BX
  replace h := Lib.hid h
  go_enter Tryz.func56, Tryz.ntmps56
  go_upto_region 1 with fail
  generalize w.alloc (.cells #[.int .i64 k0, .bool r0, .int .i64 n0, .int .i64 c0, .int .i64 t0, .slice v.sA v.sn v.sc, .slice v.oA v.on v.oc] 25) = w1 at *
  by_cases ck0 : k0 < 1
  · have hRe : Hid (R = 1) := by show _ = _; rw [hR, if_pos (by omega)]
    clear hR
    go_wp2
    go_ret
    exact ⟨by rw [hRe.out]; rfl, hb.out⟩
  have nck0 : 1 ≤ k0 := by omega
  clear ck0
  by_cases ck1 : 6 < k0
  · have hRe : Hid (R = 1) := by show _ = _; rw [hR, if_pos (by omega)]
    clear hR
    go_wp2
    go_ret
    exact ⟨by rw [hRe.out]; rfl, hb.out⟩
  have nck1 : k0 ≤ 6 := by omega
  clear ck1
  rw [if_neg (by omega)] at hR
  by_cases cn0 : n0 < 0
  · have hRe : Hid (R = 2) := by show _ = _; rw [hR, if_pos (by omega)]
    clear hR
    go_wp2
    go_ret
    exact ⟨by rw [hRe.out]; rfl, hb.out⟩
  have ncn0 : 0 ≤ n0 := by omega
  clear cn0
  by_cases cn1 : 255 < n0
  · have hRe : Hid (R = 2) := by show _ = _; rw [hR, if_pos (by omega)]
    clear hR
    go_wp2
    go_ret
    exact ⟨by rw [hRe.out]; rfl, hb.out⟩
  have ncn1 : n0 ≤ 255 := by omega
  clear cn1
  by_cases cn2 : c0 < 0
  · have hRe : Hid (R = 2) := by show _ = _; rw [hR, if_pos (by omega)]
    clear hR
    go_wp2
    go_ret
    exact ⟨by rw [hRe.out]; rfl, hb.out⟩
  have ncn2 : 0 ≤ c0 := by omega
  clear cn2
  by_cases cn3 : 3 < c0
  · have hRe : Hid (R = 2) := by show _ = _; rw [hR, if_pos (by omega)]
    clear hR
    go_wp2
    go_ret
    exact ⟨by rw [hRe.out]; rfl, hb.out⟩
  have ncn3 : c0 ≤ 3 := by omega
  clear cn3
  by_cases cn4 : t0 < 0
  · have hRe : Hid (R = 2) := by show _ = _; rw [hR, if_pos (by omega)]
    clear hR
    go_wp2
    go_ret
    exact ⟨by rw [hRe.out]; rfl, hb.out⟩
  have ncn4 : 0 ≤ t0 := by omega
  clear cn4
  by_cases cn5 : 512 < t0
  · have hRe : Hid (R = 2) := by show _ = _; rw [hR, if_pos (by omega)]
    clear hR
    go_wp2
    go_ret
    exact ⟨by rw [hRe.out]; rfl, hb.out⟩
  have ncn5 : t0 ≤ 512 := by omega
  clear cn5
  rw [if_neg (by omega)] at hR
  by_cases cs0 : 8 < v.sn
  · have hRe : Hid (R = 8) := by show _ = _; rw [hR, if_pos (by omega)]
    clear hR
    go_wp2
    go_ret
    exact ⟨by rw [hRe.out]; rfl, hb.out⟩
  have ncs0 : v.sn ≤ 8 := by omega
  clear cs0
  by_cases cs1 : 8 < v.on
  · have hRe : Hid (R = 8) := by show _ = _; rw [hR, if_pos (by omega)]
    clear hR
    go_wp2
    go_ret
    exact ⟨by rw [hRe.out]; rfl, hb.out⟩
  have ncs1 : v.on ≤ 8 := by omega
  clear cs1
  rw [if_neg (by omega)] at hR
  have cP1 := cP v.sA v.sn v.sc s0 w1 (h.out.keep hb.out).spots
  generalize placesN s0 = P1 at *
  replace cP1 := Lib.hid cP1
  go_wp2_with fail
  refine cP1.out.mono ?_
  rintro e w2 ⟨rfl, hb_⟩
  clear kx cP1
  replace hb := Lib.hid (hb.out.keep hb_)
  replace BX := Lib.hid (BX.out.keep hb_)
  clear hb_
  have kx := BX.out.at_
  by_cases p1 : P1 = 0
  case neg =>
    have d1 : (P1 != 0) = true := by rw [bne_iff_ne]; exact p1
    rw [if_pos p1] at hR
    replace p1 := Lib.hid p1
    replace hR := Lib.hid hR
    go_wp2
    go_ret
    exact ⟨by rw [hR.out]; rfl, hb.out⟩
  rw [if_neg (fun k => k p1)] at hR
  subst p1
  have cP2 := cP v.oA v.on v.oc o0 w2 (h.out.keep hb.out).old
  generalize placesN o0 = P2 at *
  replace cP2 := Lib.hid cP2
  go_wp2_with fail
  refine cP2.out.mono ?_
  rintro e w3 ⟨rfl, hb_⟩
  clear kx cP2
  replace hb := Lib.hid (hb.out.keep hb_)
  replace BX := Lib.hid (BX.out.keep hb_)
  clear hb_
  have kx := BX.out.at_
  by_cases p2 : P2 = 0
  case neg =>
    have d2 : (P2 != 0) = true := by rw [bne_iff_ne]; exact p2
    rw [if_pos p2] at hR
    replace p2 := Lib.hid p2
    replace hR := Lib.hid hR
    go_wp2
    go_ret
    exact ⟨by rw [hR.out]; rfl, hb.out⟩
  rw [if_neg (fun k => k p2)] at hR
  subst p2
  have cF2 := cF.out w3 (h.out.keep hb.out) ⟨nck0, nck1⟩ ncs0 ncs1
  replace cF2 := Lib.hid cF2
  go_wp2_with fail
  refine cF2.out.mono ?_
  rintro e w4 ⟨rfl, hb_⟩
  clear kx cF2
  replace hb := Lib.hid (hb.out.keep hb_)
  clear hb_
  cases F with
  | true =>
    rw [if_neg (by simp)] at hR
    replace hR := Lib.hid hR
    go_wp2
    go_ret
    exact ⟨by rw [hR.out]; rfl, hb.out⟩
  | false =>
    rw [if_pos rfl] at hR
    replace hR := Lib.hid hR
    go_wp2
    go_ret
    exact ⟨by rw [hR.out]; rfl, hb.out⟩
end Tx
end Go.Proofs.YtkfipbelhlcddaaGreat
