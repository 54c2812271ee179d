/- Package compress writes a header: the rest. -/
import Derived.Test.YtgdkehnakopnnaaCpWr
namespace Go.Proofs.Ytgdkehnakopnnaa
open Go Go.RowKit Go.Sort
namespace Cp
open Mm
section
variable {W0 w : World} {base B bl bh b5 : Nat} {A : Option Addr} {n c : Nat} {h : Hdr} {bs : List Bool}
set_option maxRecDepth 100000 in
set_option maxHeartbeats 8000000 in
theorem write5_any (p : Pc W0 w base B bl bh b5 A n c h bs) (hl : bs.length ≤ 200) (g : Good h) :
    Calls Try.prog 68 #[.pointer (some ⟨b5, 0, none⟩), .pointer (some ⟨bh, 0, none⟩)] w (WsPost W0 base B (bs ++ encP h.port h.rep) w) := by
  have k5 := p.p5.cell 0
  have kh : w.cell? ⟨bh, 4, none⟩ = some (.int .i64 h.port) := p.hd.cell 4
  have kh2 : w.cell? ⟨bh, 5, none⟩ = some (.int .i64 h.rep) := p.hd.cell 5
  have c0 := Lib.hid (writePorts_any W0 w base B bs h.port h.rep p.ws (by omega) g.port g.rep)
  replace p := Lib.hid p
  replace g := Lib.hid g
  go_enter Try.func68, Try.ntmps68
  go_wp2_with fail
  refine c0.out.mono ?_
  rintro e w1 hq
  obtain ⟨rfl, hA1, hS1⟩ := hq
  clear c0 k5 kh kh2
  replace hA1 := Lib.hid hA1
  replace hS1 := Lib.hid hS1
  go_wp2_with fail
  go_end0
  exact ⟨rfl, hA1.out, hS1.out⟩
set_option maxRecDepth 100000 in
set_option maxHeartbeats 4000000 in
theorem limits_any (w : World) : Calls Try.prog 64 #[] w fun e w' => e = .returned (.slice (some ⟨w.heap.size, 0, none⟩) 4 4) ∧ w' = w.alloc (.cells #[.int .i64 (-1), .int .i64 1, .int .i64 64, .int .i64 255] 3) := by
  go_enter Try.func64, Try.ntmps64
  go_wp2_with fail
  go_ret
  exact ⟨rfl, rfl⟩
set_option maxRecDepth 100000 in
set_option maxHeartbeats 4000000 in
theorem index_any (x : Int) (q : Nat) (w : World) (hx : 0 ≤ x) (hb : Blk w q #[.int .i64 (-1), .int .i64 1, .int .i64 64, .int .i64 255] 3) :
    Calls Try.prog 63 #[.slice (some ⟨q, 0, none⟩) 4 4, .int .i64 x] w fun e w' => e = .returned (.int .i64 (limI x)) ∧ w = w' := by
  have k0 : w.cell? ⟨q, 0, none⟩ = some (.int .i64 (-1)) := hb.cell 0
  have k1 : w.cell? ⟨q, 1, none⟩ = some (.int .i64 1) := hb.cell 1
  have k2 : w.cell? ⟨q, 2, none⟩ = some (.int .i64 64) := hb.cell 2
  have k3 : w.cell? ⟨q, 3, none⟩ = some (.int .i64 255) := hb.cell 3
  have hL : Hid (limI x = if x = 1 then 1 else if x = 64 then 2 else if x = 255 then 3 else -1) := rfl
  generalize limI x = L at *
  replace hb := Lib.hid hb
  go_enter Try.func63, Try.ntmps63
  go_wp2_with fail
  go_loop [5, 8] (fun _ i => ∃ k : Nat, k ≤ 4 ∧ i = .int .i64 k ∧ Hid ((1 < k → x ≠ 1) ∧ (2 < k → x ≠ 64) ∧ (3 < k → x ≠ 255))) (fun _ i => 4 - (intOf i).toNat)
  case atStart => exact ⟨0, by omega, rfl, by omega, by omega, by omega⟩
  case round =>
    obtain ⟨k, hk, rfl, hP⟩ := hrel
    match k, hk with
    | 0, _ =>
      have d : (x == -1) = false := by rw [beq_eq_false_iff_ne]; omega
      have hN : Hid ((1 < 0 + 1 → x ≠ 1) ∧ (2 < 0 + 1 → x ≠ 64) ∧ (3 < 0 + 1 → x ≠ 255)) := ⟨by omega, by omega, by omega⟩
      go_wp2_with fail
      go_round
      case rel => exact ⟨1, by omega, rfl, hN⟩
      case measure => simp [intOf]
    | 1, _ =>
      by_cases e : x = 1
      · subst e
        have hL2 := hL.out
        rw [if_pos rfl] at hL2
        subst hL2
        go_wp2_with fail
        go_ret
        exact ⟨rfl, rfl⟩
      · have d : (x == 1) = false := by rw [beq_eq_false_iff_ne]; exact e
        have hN : Hid ((1 < 1 + 1 → x ≠ 1) ∧ (2 < 1 + 1 → x ≠ 64) ∧ (3 < 1 + 1 → x ≠ 255)) := ⟨fun _ => e, by omega, by omega⟩
        replace e := Lib.hid e
        go_wp2_with fail
        go_round
        case rel => exact ⟨2, by omega, rfl, hN⟩
        case measure => simp [intOf]
    | 2, _ =>
      have h1 := hP.out.1 (by omega)
      by_cases e : x = 64
      · subst e
        have hL2 := hL.out
        rw [if_neg (by decide), if_pos rfl] at hL2
        subst hL2
        clear h1
        go_wp2_with fail
        go_ret
        exact ⟨rfl, rfl⟩
      · have d : (x == 64) = false := by rw [beq_eq_false_iff_ne]; exact e
        have hN : Hid ((1 < 2 + 1 → x ≠ 1) ∧ (2 < 2 + 1 → x ≠ 64) ∧ (3 < 2 + 1 → x ≠ 255)) := ⟨fun _ => h1, fun _ => e, by omega⟩
        replace e := Lib.hid e
        replace h1 := Lib.hid h1
        go_wp2_with fail
        go_round
        case rel => exact ⟨3, by omega, rfl, hN⟩
        case measure => simp [intOf]
    | 3, _ =>
      have h1 := hP.out.1 (by omega)
      have h2 := hP.out.2.1 (by omega)
      by_cases e : x = 255
      · subst e
        have hL2 := hL.out
        rw [if_neg (by decide), if_neg (by decide), if_pos rfl] at hL2
        subst hL2
        clear h1 h2
        go_wp2_with fail
        go_ret
        exact ⟨rfl, rfl⟩
      · have d : (x == 255) = false := by rw [beq_eq_false_iff_ne]; exact e
        have hN : Hid ((1 < 3 + 1 → x ≠ 1) ∧ (2 < 3 + 1 → x ≠ 64) ∧ (3 < 3 + 1 → x ≠ 255)) := ⟨fun _ => h1, fun _ => h2, fun _ => e⟩
        replace e := Lib.hid e
        replace h1 := Lib.hid h1
        replace h2 := Lib.hid h2
        go_wp2_with fail
        go_round
        case rel => exact ⟨4, by omega, rfl, hN⟩
        case measure => simp [intOf]
    | 4, _ =>
      have hL2 := hL.out
      rw [if_neg (hP.out.1 (by omega)), if_neg (hP.out.2.1 (by omega)), if_neg (hP.out.2.2 (by omega))] at hL2
      subst hL2
      go_wp2_with fail
      go_ret
      exact ⟨rfl, rfl⟩
theorem Pc.keep {W0 w w' : World} {base B bl bh b5 : Nat} {A : Option Addr} {n c : Nat} {h : Hdr} {bs : List Bool} (p : Pc W0 w base B bl bh b5 A n c h bs) (hb : Below w.heap.size w w') : Pc W0 w' base B bl bh b5 A n c h bs :=
  p.next (.of_below hb p.ws.base_le) (p.ws.keep hb)
set_option maxRecDepth 100000 in
set_option maxHeartbeats 8000000 in
theorem write2_any (p : Pc W0 w base B bl bh b5 A n c h bs) (hl : bs.length ≤ 200) (g : Good h) :
    Calls Try.prog 62 #[.pointer (some ⟨bh, 0, none⟩), .pointer (some ⟨b5, 0, none⟩)] w (WsPost W0 base B (bs ++ encL h.lim) w) := by
  have kh : w.cell? ⟨bh, 1, none⟩ = some (.int .i64 h.lim) := p.hd.cell 1
  have hbl := p.hd.lt
  have hE : Hid (encL h.lim = bitsOf 2 (max (limI h.lim) 0).toNat ++ (if limI h.lim < 0 then bitsOf 8 h.lim.toNat else [])) := rfl
  obtain ⟨C, hC⟩ := Int.eq_ofNat_of_zero_le g.lim.1
  have hCl : C ≤ 255 := by have := g.lim.2; omega
  have hLb : -1 ≤ limI h.lim ∧ limI h.lim ≤ 3 := by unfold limI; split <;> (try split) <;> (try split) <;> omega
  have ci := fun W q hb => index_any h.lim q W g.lim.1 hb
  generalize encL h.lim = E at *
  rw [hC] at kh hE ci hLb
  rw [show ((C : Int)).toNat = C by omega] at hE
  generalize limI (C : Int) = L at *
  replace p := Lib.hid p
  replace hC := Lib.hid hC
  replace ci := Lib.hid ci
  replace g := Lib.hid g
  go_enter Try.func62, Try.ntmps62
  go_upto_region 0 with fail
  go_cut [2] (fun s2 wx => s2 = .int .i64 L ∧ Hid (Below w.heap.size w wx))
  case first =>
    go_region_held3 (fun w' => w'.cell? ⟨bh, 1, none⟩ = some (.int .i64 (C : Int)))
      (first
        | go_keep
        | (trace_state; fail))
      (first
        | (go_at_call 64; refine (limits_any _).mono ?_; rintro e w2 ⟨rfl, rfl⟩)
        | (go_at_call 63; refine (ci.out _ w.heap.size ((Blk.new w _ _).drew)).mono ?_; rintro e w2 ⟨rfl, rfl⟩))
    all_goals
      go_wp2_with fail
      go_meet
      exact ⟨rfl, (below_alloc w _).drew⟩
  case rest =>
    obtain ⟨rfl, HB⟩ := hcut
    generalize wc = wa at *
    have hp := p.out.keep HB.out
    have HA := Lib.hid (Apart.of_below (B := B) HB.out p.out.ws.base_le)
    clear kh hbl
    have k5 := hp.p5.cell 0
    by_cases hL0 : L < 0
    · obtain rfl : L = -1 := by omega
      have hE2 := hE.out
      rw [if_pos (by decide)] at hE2
      have c1 := Lib.hid (ws_uns hp.ws 2 0 (by omega) (by omega) (by omega) (by omega))
      replace hp := Lib.hid hp
      replace hE2 := Lib.hid hE2
      go_wp2_with fail
      refine c1.out.mono ?_
      rintro e w2 ⟨rfl, hA1, hS1⟩
      have hp1 := hp.out.next hA1 hS1
      have kh1 : w2.cell? ⟨bh, 1, none⟩ = some (.int .i64 (C : Int)) := by have := hp1.hd.cell 1; rw [this]; show some (Value.int _ h.lim) = _; rw [hC.out]
      have k51 := hp1.p5.cell 0
      clear c1 k5
      have c2 := Lib.hid (ws_uns hS1 8 C (by omega) (by omega) (by omega) (by simp [bitsOf_length]; omega))
      replace hA1 := Lib.hid hA1
      replace hS1 := Lib.hid hS1
      replace hp1 := Lib.hid hp1
      go_wp2_with fail
      refine c2.out.mono ?_
      rintro e w3 ⟨rfl, hA2, hS2⟩
      clear c2 k51 kh1
      replace hA2 := Lib.hid hA2
      replace hS2 := Lib.hid hS2
      go_wp2_with fail
      go_end0
      exact ⟨rfl, (HA.out.trans hA1.out).trans hA2.out, by rw [hE2.out, ← List.append_assoc]; exact hS2.out⟩
    · obtain ⟨l, rfl⟩ := Int.eq_ofNat_of_zero_le (show 0 ≤ L by omega)
      have hE2 := hE.out
      rw [if_neg hL0, show (max (l : Int) 0).toNat = l by omega, List.append_nil] at hE2
      have c1 := Lib.hid (ws_uns hp.ws 2 l (by omega) (by omega) (by omega) (by omega))
      replace hp := Lib.hid hp
      replace hE2 := Lib.hid hE2
      go_wp2_with fail
      refine c1.out.mono ?_
      rintro e w2 ⟨rfl, hA1, hS1⟩
      clear c1 k5
      replace hA1 := Lib.hid hA1
      replace hS1 := Lib.hid hS1
      go_wp2_with fail
      go_end0
      exact ⟨rfl, HA.out.trans hA1.out, by rw [hE2.out]; exact hS1.out⟩
def fnV (k : Nat) (cs : Array Value) : Value := .func (.func k) #[] cs
def pcs (bl bh b5 : Nat) : Array Value :=
  #[.func (.func 59) #[] #[.pointer (some ⟨b5, 0, none⟩), .pointer (some ⟨bh, 0, none⟩)],
    .func (.func 62) #[] #[.pointer (some ⟨bh, 0, none⟩), .pointer (some ⟨b5, 0, none⟩)],
    .func (.func 65) #[] #[.pointer (some ⟨b5, 0, none⟩), .pointer (some ⟨bl, 0, none⟩), .pointer (some ⟨bh, 0, none⟩)],
    .func (.func 67) #[] #[.pointer (some ⟨b5, 0, none⟩), .pointer (some ⟨bl, 0, none⟩), .pointer (some ⟨bh, 0, none⟩)],
    .func (.func 68) #[] #[.pointer (some ⟨b5, 0, none⟩), .pointer (some ⟨bh, 0, none⟩)],
    .func (.func 70) #[] #[.pointer (some ⟨bh, 0, none⟩), .pointer (some ⟨b5, 0, none⟩)]]
end
theorem WrV.empty {w : World} {base B : Nat} (hb : Blk w B #[.slice none 0 0, .int .i64 0, .int .i64 0] 94) (hB : B < base) : WrV w base B (.slice none 0 0) [] := ⟨hb, World.ownsRow_nil _ _ _ _, hB⟩
/-- a writer that write has made -/
def WritePost (base0 : Nat) (bs : List Bool) (w : World) (e : Ending) (w' : World) : Prop := ∃ B base, e = .returned (.pointer (some ⟨B, 0, none⟩)) ∧ Below w.heap.size w w' ∧ base0 ≤ B ∧ B < base ∧ base ≤ w'.heap.size ∧ WrIs w' base B bs
set_option maxRecDepth 100000 in
set_option maxHeartbeats 8000000 in
theorem write_any (A : Option Addr) (n c : Nat) (ps : List ByteArray) (h : Hdr) (w : World) (hs : CtxS w A n ps) (hok : ctxOk ps = true) (g : Good h) :
    Calls Try.prog 34 #[.slice A n c, .agg (hdrC h)] w (WritePost w.heap.size (enc ps h) w) := by
  have hcl : hdrC h = #[.int .i64 h.cls, .int .i64 h.lim, .string h.src, .string h.dst, .int .i64 h.port, .int .i64 h.rep, .int .i64 h.len] := rfl
  have cN := Lib.hid (newWriter_any ((w.alloc (.cells #[.slice A n c] 22)).alloc (.cells (hdrC h) 24)))
  rw [hcl] at cN
  replace hs := Lib.hid hs
  replace g := Lib.hid g
  replace hok := Lib.hid hok
  rw [hcl]
  go_enter Try.func34, Try.ntmps34
  go_wp2_with fail
  refine cN.out.mono ?_
  rintro e w1 ⟨rfl, rfl⟩
  clear cN
  go_wp2_with fail
  have hP0 : Pc w (((((w.alloc (.cells #[.slice A n c] 22)).alloc (.cells (hdrC h) 24)).alloc (.cells #[.slice none 0 0, .int .i64 0, .int .i64 0] 94)).alloc (.cells #[.pointer (some ⟨w.heap.size + 1 + 1, 0, none⟩)] 54)).alloc (.cells (pcs w.heap.size (w.heap.size + 1) (w.heap.size + 1 + 1 + 1)) 1)) (w.heap.size + 1 + 1 + 1 + 1 + 1) (w.heap.size + 1 + 1) w.heap.size (w.heap.size + 1) (w.heap.size + 1 + 1 + 1) A n c h (encU ps h 0) := by
    rw [show encU ps h 0 = [] from rfl]
    refine ⟨⟨?_, by omega, by omega, by simp, _, WrV.empty ?_ (by omega)⟩, ?_, ?_, ?_, ⟨by omega, by omega⟩, ⟨by omega, by omega⟩, ⟨by omega, by omega⟩⟩
    · exact (((((Below.refl _ _).alloc (Nat.le_refl _) _).alloc (by simp) _).alloc (by simp; omega) _).alloc (by simp; omega) _).alloc (by simp; omega) _
    · have := ((Blk.new ((w.alloc (.cells #[.slice A n c] 22)).alloc (.cells (hdrC h) 24)) #[.slice none 0 0, .int .i64 0, .int .i64 0] 94).alloc (.cells #[.pointer (some ⟨w.heap.size + 1 + 1, 0, none⟩)] 54)).alloc (.cells (pcs w.heap.size (w.heap.size + 1) (w.heap.size + 1 + 1 + 1)) 1)
      simpa using this
    · exact ((((Blk.new w _ _).alloc _).alloc _).alloc _).alloc _
    · have := (((Blk.new (w.alloc (.cells #[.slice A n c] 22)) (hdrC h) 24).alloc (.cells #[.slice none 0 0, .int .i64 0, .int .i64 0] 94)).alloc (.cells #[.pointer (some ⟨w.heap.size + 1 + 1, 0, none⟩)] 54)).alloc (.cells (pcs w.heap.size (w.heap.size + 1) (w.heap.size + 1 + 1 + 1)) 1)
      simpa using this
    · have := (Blk.new (((w.alloc (.cells #[.slice A n c] 22)).alloc (.cells (hdrC h) 24)).alloc (.cells #[.slice none 0 0, .int .i64 0, .int .i64 0] 94)) #[.pointer (some ⟨w.heap.size + 1 + 1, 0, none⟩)] 54).alloc (.cells (pcs w.heap.size (w.heap.size + 1) (w.heap.size + 1 + 1 + 1)) 1)
      simpa using this
  have hQ0 : Blk (((((w.alloc (.cells #[.slice A n c] 22)).alloc (.cells (hdrC h) 24)).alloc (.cells #[.slice none 0 0, .int .i64 0, .int .i64 0] 94)).alloc (.cells #[.pointer (some ⟨w.heap.size + 1 + 1, 0, none⟩)] 54)).alloc (.cells (pcs w.heap.size (w.heap.size + 1) (w.heap.size + 1 + 1 + 1)) 1)) (w.heap.size + 1 + 1 + 1 + 1) (pcs w.heap.size (w.heap.size + 1) (w.heap.size + 1 + 1 + 1)) 1 := by
    have := Blk.new ((((w.alloc (.cells #[.slice A n c] 22)).alloc (.cells (hdrC h) 24)).alloc (.cells #[.slice none 0 0, .int .i64 0, .int .i64 0] 94)).alloc (.cells #[.pointer (some ⟨w.heap.size + 1 + 1, 0, none⟩)] 54)) (pcs w.heap.size (w.heap.size + 1) (w.heap.size + 1 + 1 + 1)) 1
    simpa using this
  replace hP0 := Lib.hid hP0
  replace hQ0 := Lib.hid hQ0
  go_loopw [8, 19] (fun _ i wr => ∃ k : Nat, k ≤ 6 ∧ i = .int .i64 k ∧ Hid (Pc w wr (w.heap.size + 1 + 1 + 1 + 1 + 1) (w.heap.size + 1 + 1) w.heap.size (w.heap.size + 1) (w.heap.size + 1 + 1 + 1) A n c h (encU ps h k)) ∧ Hid (Blk wr (w.heap.size + 1 + 1 + 1 + 1) (pcs w.heap.size (w.heap.size + 1) (w.heap.size + 1 + 1 + 1)) 1)) (fun _ i _ => 6 - (intOf i).toNat)
  case atStart => exact ⟨0, by omega, rfl, hP0, hQ0⟩
  case round =>
    obtain ⟨k, hk, rfl, hP, hQ⟩ := hrel
    have hle := enc_len ps h g.out k
    clear hP0 hQ0 hcl
    match k, hk with
    | 0, _ =>
      have kc := hQ.out.cell 0
      have c1 := Lib.hid (write1_any hP.out (by omega) g.out)
      have hsu : Hid (encU ps h (0 + 1) = encU ps h 0 ++ (encs ps h).getD 0 []) := encU_succ ps h 0 (by omega)
      clear hle
      change wr.cell? _ = some (Value.func _ _ _) at kc
      go_wp2_with fail
      refine c1.out.mono ?_
      rintro e w2 hq
      obtain ⟨rfl, hA, hS⟩ := hq
      have hP2 : Hid (Pc w w2 (w.heap.size + 1 + 1 + 1 + 1 + 1) (w.heap.size + 1 + 1) w.heap.size (w.heap.size + 1) (w.heap.size + 1 + 1 + 1) A n c h (encU ps h (0 + 1))) := by
        show Pc _ _ _ _ _ _ _ _ _ _ _ _
        rw [hsu.out]; exact hP.out.next hA hS
      have hQ2 := Lib.hid (hA.blk hQ.out (by omega) (by omega))
      clear kc c1
      replace hA := Lib.hid hA
      replace hS := Lib.hid hS
      go_wp2_with fail
      go_roundw
      case rel => exact ⟨0 + 1, by omega, rfl, hP2, hQ2⟩
      case measure => simp [intOf]
    | 1, _ =>
      have kc := hQ.out.cell 1
      have c1 := Lib.hid (write2_any hP.out (by omega) g.out)
      have hsu : Hid (encU ps h (1 + 1) = encU ps h 1 ++ (encs ps h).getD 1 []) := encU_succ ps h 1 (by omega)
      clear hle
      change wr.cell? _ = some (Value.func _ _ _) at kc
      go_wp2_with fail
      refine c1.out.mono ?_
      rintro e w2 hq
      obtain ⟨rfl, hA, hS⟩ := hq
      have hP2 : Hid (Pc w w2 (w.heap.size + 1 + 1 + 1 + 1 + 1) (w.heap.size + 1 + 1) w.heap.size (w.heap.size + 1) (w.heap.size + 1 + 1 + 1) A n c h (encU ps h (1 + 1))) := by
        show Pc _ _ _ _ _ _ _ _ _ _ _ _
        rw [hsu.out]; exact hP.out.next hA hS
      have hQ2 := Lib.hid (hA.blk hQ.out (by omega) (by omega))
      clear kc c1
      replace hA := Lib.hid hA
      replace hS := Lib.hid hS
      go_wp2_with fail
      go_roundw
      case rel => exact ⟨1 + 1, by omega, rfl, hP2, hQ2⟩
      case measure => simp [intOf]
    | 2, _ =>
      have kc := hQ.out.cell 2
      have c1 := Lib.hid (write3_any hP.out (by omega) g.out hs.out hok.out)
      have hsu : Hid (encU ps h (2 + 1) = encU ps h 2 ++ (encs ps h).getD 2 []) := encU_succ ps h 2 (by omega)
      clear hle
      change wr.cell? _ = some (Value.func _ _ _) at kc
      go_wp2_with fail
      refine c1.out.mono ?_
      rintro e w2 hq
      obtain ⟨rfl, hA, hS⟩ := hq
      have hP2 : Hid (Pc w w2 (w.heap.size + 1 + 1 + 1 + 1 + 1) (w.heap.size + 1 + 1) w.heap.size (w.heap.size + 1) (w.heap.size + 1 + 1 + 1) A n c h (encU ps h (2 + 1))) := by
        show Pc _ _ _ _ _ _ _ _ _ _ _ _
        rw [hsu.out]; exact hP.out.next hA hS
      have hQ2 := Lib.hid (hA.blk hQ.out (by omega) (by omega))
      clear kc c1
      replace hA := Lib.hid hA
      replace hS := Lib.hid hS
      go_wp2_with fail
      go_roundw
      case rel => exact ⟨2 + 1, by omega, rfl, hP2, hQ2⟩
      case measure => simp [intOf]
    | 3, _ =>
      have kc := hQ.out.cell 3
      have c1 := Lib.hid (write4_any hP.out (by omega) g.out hs.out hok.out)
      have hsu : Hid (encU ps h (3 + 1) = encU ps h 3 ++ (encs ps h).getD 3 []) := encU_succ ps h 3 (by omega)
      clear hle
      change wr.cell? _ = some (Value.func _ _ _) at kc
      go_wp2_with fail
      refine c1.out.mono ?_
      rintro e w2 hq
      obtain ⟨rfl, hA, hS⟩ := hq
      have hP2 : Hid (Pc w w2 (w.heap.size + 1 + 1 + 1 + 1 + 1) (w.heap.size + 1 + 1) w.heap.size (w.heap.size + 1) (w.heap.size + 1 + 1 + 1) A n c h (encU ps h (3 + 1))) := by
        show Pc _ _ _ _ _ _ _ _ _ _ _ _
        rw [hsu.out]; exact hP.out.next hA hS
      have hQ2 := Lib.hid (hA.blk hQ.out (by omega) (by omega))
      clear kc c1
      replace hA := Lib.hid hA
      replace hS := Lib.hid hS
      go_wp2_with fail
      go_roundw
      case rel => exact ⟨3 + 1, by omega, rfl, hP2, hQ2⟩
      case measure => simp [intOf]
    | 4, _ =>
      have kc := hQ.out.cell 4
      have c1 := Lib.hid (write5_any hP.out (by omega) g.out)
      have hsu : Hid (encU ps h (4 + 1) = encU ps h 4 ++ (encs ps h).getD 4 []) := encU_succ ps h 4 (by omega)
      clear hle
      change wr.cell? _ = some (Value.func _ _ _) at kc
      go_wp2_with fail
      refine c1.out.mono ?_
      rintro e w2 hq
      obtain ⟨rfl, hA, hS⟩ := hq
      have hP2 : Hid (Pc w w2 (w.heap.size + 1 + 1 + 1 + 1 + 1) (w.heap.size + 1 + 1) w.heap.size (w.heap.size + 1) (w.heap.size + 1 + 1 + 1) A n c h (encU ps h (4 + 1))) := by
        show Pc _ _ _ _ _ _ _ _ _ _ _ _
        rw [hsu.out]; exact hP.out.next hA hS
      have hQ2 := Lib.hid (hA.blk hQ.out (by omega) (by omega))
      clear kc c1
      replace hA := Lib.hid hA
      replace hS := Lib.hid hS
      go_wp2_with fail
      go_roundw
      case rel => exact ⟨4 + 1, by omega, rfl, hP2, hQ2⟩
      case measure => simp [intOf]
    | 5, _ =>
      have kc := hQ.out.cell 5
      have c1 := Lib.hid (write6_any hP.out (by omega) g.out)
      have hsu : Hid (encU ps h (5 + 1) = encU ps h 5 ++ (encs ps h).getD 5 []) := encU_succ ps h 5 (by omega)
      clear hle
      change wr.cell? _ = some (Value.func _ _ _) at kc
      go_wp2_with fail
      refine c1.out.mono ?_
      rintro e w2 hq
      obtain ⟨rfl, hA, hS⟩ := hq
      have hP2 : Hid (Pc w w2 (w.heap.size + 1 + 1 + 1 + 1 + 1) (w.heap.size + 1 + 1) w.heap.size (w.heap.size + 1) (w.heap.size + 1 + 1 + 1) A n c h (encU ps h (5 + 1))) := by
        show Pc _ _ _ _ _ _ _ _ _ _ _ _
        rw [hsu.out]; exact hP.out.next hA hS
      have hQ2 := Lib.hid (hA.blk hQ.out (by omega) (by omega))
      clear kc c1
      replace hA := Lib.hid hA
      replace hS := Lib.hid hS
      go_wp2_with fail
      go_roundw
      case rel => exact ⟨5 + 1, by omega, rfl, hP2, hQ2⟩
      case measure => simp [intOf]
    | 6, _ =>
      have k5 := hP.out.p5.cell 0
      clear hle
      go_wp2_with fail
      go_ret
      exact ⟨_, _, rfl, hP.out.ws.below, by omega, by omega, hP.out.ws.base_le, hP.out.ws.wr⟩
end Cp
end Go.Proofs.Ytgdkehnakopnnaa
