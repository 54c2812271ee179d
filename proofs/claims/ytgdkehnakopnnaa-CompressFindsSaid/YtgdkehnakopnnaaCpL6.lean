/- CompressFinds, walked. -/
import Derived.Test.YtgdkehnakopnnaaCpL5
namespace Go.Proofs.Ytgdkehnakopnnaa
open Go Go.RowKit Go.Sort
namespace Cp
open Mm
theorem fnd_max (ps : List ByteArray) (a : ByteArray) (k : Nat) : ∀ j, j < k → hasP a (ps.getD j default) = true → 0 ≤ fnd ps a k ∧ (ps.getD j default).size ≤ (ps.getD (fnd ps a k).toNat default).size ∧ ((ps.getD j default).size = (ps.getD (fnd ps a k).toNat default).size → fnd ps a k ≤ (j : Int)) := by
  induction k with
  | zero => intro j hj; omega
  | succ k ih =>
    intro j hj hp
    rw [fnd_succ]
    by_cases hc : hasP a (ps.getD k default) = true ∧ (fnd ps a k < 0 ∨ (ps.getD (fnd ps a k).toNat default).size < (ps.getD k default).size)
    · rw [if_pos hc, show ((k : Int)).toNat = k by omega]
      by_cases e : j = k
      · subst e; exact ⟨by omega, Nat.le_refl _, fun _ => by omega⟩
      · obtain ⟨h1, h2, h3⟩ := ih j (by omega) hp
        rcases hc.2 with h | h
        · omega
        · exact ⟨by omega, by omega, fun h => by omega⟩
    · rw [if_neg hc]
      by_cases e : j = k
      · subst e
        have hn : ¬ (fnd ps a j < 0 ∨ (ps.getD (fnd ps a j).toNat default).size < (ps.getD j default).size) := fun h => hc ⟨hp, h⟩
        have hb := fnd_bd ps a j
        exact ⟨by omega, by omega, fun _ => by omega⟩
      · exact ih j (by omega) hp
set_option maxRecDepth 100000 in
set_option maxHeartbeats 16000000 in
theorem compressFinds_walk (A : Option Addr) (n c : Nat) (ps : List ByteArray) (a : ByteArray) (w : World) (hs : CtxS w A n ps) (hd : a.size ≤ maxLen) :
    Calls Try.prog 5 #[.slice A n c, .string a] w fun e w' => e = .returned (.bool true) ∧ Below w.heap.size w w' := by
  have ca := Lib.hid (awake_any w)
  have cf := Lib.hid (fun W (hb : Below w.heap.size w W) => few_any A n c ps W (hs.keep hb))
  have hlen := hs.els.len
  have hfn : few ps = true → n ≤ 12 := fun h => few_n h hlen
  unfold maxLen at hd
  have hdm : (a.size : Int) ≤ 9223372036854775807 := by omega
  generalize few ps = F at *
  replace hs := Lib.hid hs
  replace hlen := Lib.hid hlen
  go_enter Try.func5, Try.ntmps5
  go_wp2_with fail
  refine ca.out.mono ?_
  rintro e w1 ⟨rfl, hb⟩
  have HB1 := Lib.hid hb
  have cf1 := Lib.hid (cf.out w1 hb)
  clear ca cf hb
  go_wp2_with fail
  refine cf1.out.mono ?_
  rintro e w2 ⟨rfl, hb⟩
  have HB2 := Lib.hid (bthen HB1.out hb)
  clear cf1 HB1 hb
  cases F with
  | false =>
    go_wp2_with fail
    go_ret
    exact ⟨rfl, HB2.out⟩
  | true =>
    have hn := hfn rfl
    clear hfn
    by_cases h20 : (20 : Int) < (a.size : Int)
    · go_wp2_with fail
      go_ret
      exact ⟨rfl, HB2.out⟩
    · have cc := Lib.hid (cloneX_any A n c ps w2 (hs.out.keep HB2.out) (by omega))
      go_wp2_with fail
      refine cc.out.mono ?_
      rintro e w3 hq
      obtain ⟨A1, c1, rfl, hC1, _, hb⟩ := hq
      have HB3 := Lib.hid (bthen HB2.out hb)
      have cF := Find_any A1 n c1 ps a w3 hC1
      clear cc HB2 hb hC1
      have hFR : FindR ps a = if ctxOk ps = true ∧ a.size = 4 then (max (fndA ps a) 0, decide (0 ≤ fndA ps a)) else (0, false) := rfl
      by_cases hg : ctxOk ps = true ∧ a.size = 4
      · rw [if_pos hg] at hFR
        rw [hFR] at cF
        have hmem := ctxOk_mem hg.1
        have h4 : (a.size : Int) = 4 := by omega
        have hE0 := ctxE_ok hg.1
        have hbd : -1 ≤ fndA ps a ∧ fndA ps a < (ps.length : Int) := fnd_bd ps a ps.length
        have hmx := fnd_max ps a ps.length
        have hhs := fnd_has ps a ps.length
        change ∀ j, j < ps.length → _ → 0 ≤ fndA ps a ∧ _ ≤ (ps.getD (fndA ps a).toNat default).size ∧ (_ = (ps.getD (fndA ps a).toNat default).size → fndA ps a ≤ _) at hmx
        change 0 ≤ fndA ps a → hasP a (ps.getD (fndA ps a).toNat default) = true at hhs
        generalize fndA ps a = I at *
        have cX := fun A1 c1 W (hx : CtxS W A1 n ps) => contexts_any A1 n c1 ps W hx
        rw [hE0] at cX
        replace hFR := Lib.hid hFR
        replace cF := Lib.hid cF
        replace hg := Lib.hid hg
        replace hmem := Lib.hid hmem
        replace hE0 := Lib.hid hE0
        replace hmx := Lib.hid hmx
        replace hhs := Lib.hid hhs
        replace cX := Lib.hid cX
        go_wp2_with fail
        refine cF.out.mono ?_
        rintro e w4 ⟨rfl, hb⟩
        have HB4 := Lib.hid (bthen HB3.out hb)
        have cc := Lib.hid (cloneX_any A n c ps w4 (hs.out.keep HB4.out) (by omega))
        clear cF HB3 hb
        go_wp2_with fail
        refine cc.out.mono ?_
        rintro e w5 hq
        obtain ⟨A2, c2, rfl, hC2, _, hb⟩ := hq
        have HB5 := Lib.hid (bthen HB4.out hb)
        have cX1 := Lib.hid (cX.out A2 c2 w5 hC2)
        clear cc HB4 hb hC2 cX
        go_wp2_with fail
        refine cX1.out.mono ?_
        rintro e w6 ⟨rfl, hb⟩
        have HB6 := Lib.hid (bthen HB5.out hb)
        clear cX1 HB5 hb
        have hl := hlen.out
        by_cases hI : 0 ≤ I
        · obtain ⟨F, rfl⟩ := Int.eq_ofNat_of_zero_le hI
          have hFn : F < n := by omega
          have e1 : max (F : Int) 0 = (F : Int) := by omega
          have e2 : decide (0 ≤ (F : Int)) = true := decide_eq_true hI
          rw [show ((F : Int)).toNat = F by omega] at hmx hhs
          have hhsF := hhs.out hI
          replace hhsF := Lib.hid hhsF
          clear hhs hbd
          rw [e1, e2]
          replace e2 := Lib.hid e2
          replace e1 := Lib.hid e1
          go_wp2_with fail
          go_loopw [7, 8, 43] (fun _ _ i wr => ∃ k : Nat, k ≤ n ∧ i = .int .i64 k ∧ Hid (Below w.heap.size w wr)) (fun _ _ i _ => n - (intOf i).toNat)
          case atStart => exact ⟨0, by omega, rfl, HB6⟩
          case round =>
            obtain ⟨k, hk, rfl, HB⟩ := hrel
            by_cases hlt : k < n
            · obtain ⟨b, off, rfl⟩ := hs.out.els.addr (by omega)
              obtain ⟨kc, hxl⟩ := (hs.out.keep HB.out).elem hlt
              obtain ⟨kd, hyl⟩ := (hs.out.keep HB.out).elem hFn
              have hx14 := hmem.out _ (getD_mem (show k < ps.length by omega))
              have hpe := pre_eq a (ps.getD k default)
              have hmk := hmx.out k (by omega)
              have hkF : ps.getD k default = ps.getD F default ∨ k ≠ F := by by_cases e : k = F; exact .inl (by rw [e]); exact .inr e
              have hbl := World.block_lt_of_cell? wr _ kc
              have hhF := hhsF.out
              have hkk : k = F → ps.getD k default = ps.getD F default := fun e => by rw [e]
              generalize ps.getD k default = x at *
              generalize ps.getD F default = y at *
              unfold maxLen at hxl hyl
              have hx1 : ¬ (x.size : Int) < 1 := by omega
              have hx4 : ¬ (4 : Int) < (x.size : Int) := by omega
              have hx5 : (x.size : Int) ≤ (a.size : Int) := by omega
              have hx6 : (x.size : Int) ≤ 4 := by omega
              have hy6 : (y.size : Int) ≤ 9223372036854775807 := by omega
              have r1 : (k : Int) < (n : Int) := by omega
              have r2 : (F : Int) < (n : Int) := by omega
              have HB' := Lib.hid (HB.out.trans ((below_alloc wr (.cells #[.string x] 26)).mono HB.out.size))
              by_cases hp : hasP a x = true
              · obtain ⟨_, m2, m3⟩ := hmk hp
                have hpe2 := hpe.2 hp
                have dB : ((a.extract 0 x.size).toList == x.toList) = true := by rw [beq_iff_eq]; exact hpe2
                have d1 : decide ((F : Int) < 0) = false := by simp
                have d2 : decide (n ≤ F) = false := by simp; omega
                have d3 : decide (y.size < x.size) = false := by simp; omega
                clear hkk hkF hxl hyl
                replace hp := Lib.hid hp
                replace hpe := Lib.hid hpe
                replace hmk := Lib.hid hmk
                replace hhF := Lib.hid hhF
                replace hx14 := Lib.hid hx14
                by_cases hsz : x.size = y.size
                · have d4 : decide (k < F) = false := by simp; have := m3 hsz; omega
                  have d5 : ((x.size : Int) == (y.size : Int)) = true := by rw [beq_iff_eq]; omega
                  replace m2 := Lib.hid m2
                  replace m3 := Lib.hid m3
                  replace hsz := Lib.hid hsz
                  go_wp2_with fail
                  go_quiet (fail)
                  go_wp2_with fail
                  go_quiet (fail)
                  go_wp2_with fail
                  go_roundw
                  case rel => exact ⟨k + 1, by omega, by go_num, Mm.below_drewN HB'.out _⟩
                  case measure => simp [intOf]; omega
                · have d5 : ((x.size : Int) == (y.size : Int)) = false := by rw [beq_eq_false_iff_ne]; omega
                  replace m2 := Lib.hid m2
                  replace m3 := Lib.hid m3
                  replace hsz := Lib.hid hsz
                  go_wp2_with fail
                  go_quiet (fail)
                  go_wp2_with fail
                  go_quiet (fail)
                  go_wp2_with fail
                  go_roundw
                  case rel => exact ⟨k + 1, by omega, by go_num, Mm.below_drewN HB'.out _⟩
                  case measure => simp [intOf]; omega
              · have hpe2 : ¬ (a.extract 0 x.size).toList = x.toList := fun h => hp (hpe.1 h)
                have dB : ((a.extract 0 x.size).toList == x.toList) = false := by rw [beq_eq_false_iff_ne]; exact hpe2
                have hne : k ≠ F := fun e => hp (by rw [hkk e]; exact hhF)
                have dk : ((k : Int) == (F : Int)) = false := by rw [beq_eq_false_iff_ne]; omega
                clear hkk hkF hxl hyl kd
                replace hp := Lib.hid hp
                replace hpe := Lib.hid hpe
                replace hmk := Lib.hid hmk
                replace hhF := Lib.hid hhF
                replace hx14 := Lib.hid hx14
                replace hpe2 := Lib.hid hpe2
                replace hne := Lib.hid hne
                go_wp2_with fail
                go_quiet (fail)
                go_wp2_with fail
                go_roundw
                case rel => exact ⟨k + 1, by omega, by go_num, Mm.below_drewN HB'.out _⟩
                case measure => simp [intOf]; omega
            · obtain rfl : k = n := by omega
              go_wp2_with fail
              go_ret
              exact ⟨rfl, HB.out⟩
        · have e1 : max I 0 = 0 := by omega
          have e2 : decide (0 ≤ I) = false := decide_eq_false hI
          rw [e1, e2]
          replace e2 := Lib.hid e2
          replace e1 := Lib.hid e1
          clear hhs
          go_wp2_with fail
          go_loopw [7, 8, 43] (fun _ _ i wr => ∃ k : Nat, k ≤ n ∧ i = .int .i64 k ∧ Hid (Below w.heap.size w wr)) (fun _ _ i _ => n - (intOf i).toNat)
          case atStart => exact ⟨0, by omega, rfl, HB6⟩
          case round =>
            obtain ⟨k, hk, rfl, HB⟩ := hrel
            by_cases hlt : k < n
            · obtain ⟨b, off, rfl⟩ := hs.out.els.addr (by omega)
              obtain ⟨kc, hxl⟩ := (hs.out.keep HB.out).elem hlt
              have hx14 := hmem.out _ (getD_mem (show k < ps.length by omega))
              have hpe := pre_eq a (ps.getD k default)
              have hp : ¬ hasP a (ps.getD k default) = true := fun h => by have := (hmx.out k (by omega) h).1; omega
              have hbl := World.block_lt_of_cell? wr _ kc
              generalize ps.getD k default = x at *
              unfold maxLen at hxl
              have hx1 : ¬ (x.size : Int) < 1 := by omega
              have hx4 : ¬ (4 : Int) < (x.size : Int) := by omega
              have hx5 : (x.size : Int) ≤ (a.size : Int) := by omega
              have hx6 : (x.size : Int) ≤ 4 := by omega
              have r1 : (k : Int) < (n : Int) := by omega
              have HB' := Lib.hid (HB.out.trans ((below_alloc wr (.cells #[.string x] 26)).mono HB.out.size))
              have hpe2 : ¬ (a.extract 0 x.size).toList = x.toList := fun h => hp (hpe.1 h)
              have dB : ((a.extract 0 x.size).toList == x.toList) = false := by rw [beq_eq_false_iff_ne]; exact hpe2
              clear hxl
              replace hp := Lib.hid hp
              replace hpe := Lib.hid hpe
              replace hx14 := Lib.hid hx14
              replace hpe2 := Lib.hid hpe2
              go_wp2_with fail
              go_quiet (fail)
              go_wp2_with fail
              go_roundw
              case rel => exact ⟨k + 1, by omega, by go_num, Mm.below_drewN HB'.out _⟩
              case measure => simp [intOf]; omega
            · obtain rfl : k = n := by omega
              go_wp2_with fail
              go_ret
              exact ⟨rfl, HB.out⟩
      · rw [if_neg hg] at hFR
        rw [hFR] at cF
        have cX := fun A1 c1 W (hx : CtxS W A1 n ps) => contexts_any A1 n c1 ps W hx
        cases ho : ctxOk ps with
        | false =>
          rw [ctxE_bad ho] at cX
          replace hFR := Lib.hid hFR
          replace cF := Lib.hid cF
          replace hg := Lib.hid hg
          replace cX := Lib.hid cX
          replace ho := Lib.hid ho
          go_wp2_with fail
          refine cF.out.mono ?_
          rintro e w4 ⟨rfl, hb⟩
          have HB4 := Lib.hid (bthen HB3.out hb)
          have cc := Lib.hid (cloneX_any A n c ps w4 (hs.out.keep HB4.out) (by omega))
          clear cF HB3 hb
          go_wp2_with fail
          refine cc.out.mono ?_
          rintro e w5 hq
          obtain ⟨A2, c2, rfl, hC2, _, hb⟩ := hq
          have HB5 := Lib.hid (bthen HB4.out hb)
          have cX1 := Lib.hid (cX.out A2 c2 w5 hC2)
          clear cc HB4 hb hC2 cX
          go_wp2_with fail
          refine cX1.out.mono ?_
          rintro e w6 ⟨rfl, hb⟩
          have HB6 := Lib.hid (bthen HB5.out hb)
          clear cX1 HB5 hb
          go_wp2_with fail
          go_ret
          exact ⟨rfl, HB6.out⟩
        | true =>
          rw [ctxE_ok ho] at cX
          have h4 : ((a.size : Int) != 4) = true := by rw [bne_iff_ne]; intro h; exact hg ⟨ho, by omega⟩
          replace hFR := Lib.hid hFR
          replace cF := Lib.hid cF
          replace hg := Lib.hid hg
          replace cX := Lib.hid cX
          replace ho := Lib.hid ho
          go_wp2_with fail
          refine cF.out.mono ?_
          rintro e w4 ⟨rfl, hb⟩
          have HB4 := Lib.hid (bthen HB3.out hb)
          have cc := Lib.hid (cloneX_any A n c ps w4 (hs.out.keep HB4.out) (by omega))
          clear cF HB3 hb
          go_wp2_with fail
          refine cc.out.mono ?_
          rintro e w5 hq
          obtain ⟨A2, c2, rfl, hC2, _, hb⟩ := hq
          have HB5 := Lib.hid (bthen HB4.out hb)
          have cX1 := Lib.hid (cX.out A2 c2 w5 hC2)
          clear cc HB4 hb hC2 cX
          go_wp2_with fail
          refine cX1.out.mono ?_
          rintro e w6 ⟨rfl, hb⟩
          have HB6 := Lib.hid (bthen HB5.out hb)
          clear cX1 HB5 hb
          go_wp2_with fail
          go_ret
          exact ⟨rfl, HB6.out⟩
end Cp
end Go.Proofs.Ytgdkehnakopnnaa
