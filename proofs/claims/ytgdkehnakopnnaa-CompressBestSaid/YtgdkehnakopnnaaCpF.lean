/- The context of an address: find, Find of both packages. -/
import Derived.Test.YtgdkehnakopnnaaCpH
import Derived.Deep.QuietTactic
import Derived.BigQuiet
import Derived.Deep.Cut
import Derived.Deep.CutBlock
import Derived.Deep.DeepCutAuto
namespace Go.Proofs.Ytgdkehnakopnnaa
open Go Go.RowKit Go.Sort
namespace Cp
open Mm
def hasP (a p : ByteArray) : Bool := Lib.hasPrefix a.data.toList p.data.toList
/-- the context of an address among the first ones, -1 if there is none -/
def fnd (ps : List ByteArray) (a : ByteArray) : Nat → Int
  | 0 => -1
  | k + 1 => if hasP a (ps.getD k default) = true ∧ (fnd ps a k < 0 ∨ (ps.getD (fnd ps a k).toNat default).size < (ps.getD k default).size) then (k : Int) else fnd ps a k
theorem fnd_bd (ps : List ByteArray) (a : ByteArray) (k : Nat) : -1 ≤ fnd ps a k ∧ fnd ps a k < (k : Int) := by
  induction k with
  | zero => simp [fnd]
  | succ k ih => unfold fnd; split <;> omega
def fndA (ps : List ByteArray) (a : ByteArray) : Int := fnd ps a ps.length
set_option maxRecDepth 100000 in
set_option maxHeartbeats 4000000 in
theorem find_any (A : Option Addr) (n c : Nat) (ps : List ByteArray) (a : ByteArray) (w : World) (hs : CtxS w A n ps) :
    Calls Try.prog 36 #[.slice A n c, .string a] w fun e w' => e = .returned (.int .i64 (fndA ps a)) ∧ Below w.heap.size w w' := by
  have hE : Hid (fndA ps a = fnd ps a n) := by show _ = _; unfold fndA; rw [hs.els.len]
  have hm := hs.els.small
  unfold maxLen at hm
  generalize fndA ps a = E at *
  replace hs := Lib.hid hs
  go_enter Try.func36, Try.ntmps36
  go_wp2_with fail
  go_loopw [5, 6, 7, 10] (fun b _ _ i wr => ∃ (k : Nat) (f : Int), k ≤ n ∧ i = .int .i64 k ∧ b = .int .i64 f ∧ Hid (f = fnd ps a k) ∧ Hid (Below w.heap.size w wr)) (fun _ _ _ i _ => n - (intOf i).toNat)
  case atStart => exact ⟨0, -1, by omega, rfl, rfl, rfl, Below.refl _ _⟩
  case round =>
    obtain ⟨k, f, hk, rfl, rfl, HF, HB⟩ := hrel
    by_cases hlt : k < n
    · obtain ⟨b, off, rfl⟩ := hs.out.els.addr (by omega)
      obtain ⟨kc, hxl⟩ := (hs.out.keep HB.out).elem hlt
      have hbd := fnd_bd ps a k
      rw [← HF.out] at hbd
      have hst : fnd ps a (k + 1) = if hasP a (ps.getD k default) = true ∧ (f < 0 ∨ (ps.getD f.toNat default).size < (ps.getD k default).size) then (k : Int) else f := by rw [HF.out]; rfl
      have hb2 := Lib.hid (HB.out.trans ((below_alloc wr (.cells #[.string (ps.getD k default)] 26)).mono HB.out.size))
      have kc2 : 0 ≤ f → wr.cell? ⟨b, off + f.toNat, none⟩ = some (.string (ps.getD f.toNat default)) ∧ (ps.getD f.toNat default).size ≤ maxLen := fun h => (hs.out.keep HB.out).elem (show f.toNat < n by omega)
      have hH := fun W => Try.strings_HasPrefix a (ps.getD k default) W
      unfold hasP at hst
      generalize ps.getD k default = x at *
      unfold maxLen at hxl kc2
      have hx2 : (x.size : Int) ≤ 9223372036854775807 := by omega
      have r1 : (k : Int) < (n : Int) := by omega
      have hbl := World.block_lt_of_cell? wr _ kc
      by_cases hp : Lib.hasPrefix a.data.toList x.data.toList = true
      · rw [hp] at hH
        by_cases hf : f < 0
        · have hst2 : Hid ((k : Int) = fnd ps a (k + 1)) := by show _ = _; rw [hst, if_pos ⟨hp, .inl hf⟩]
          replace hst := Lib.hid hst
          replace HF := Lib.hid HF
          replace hH := Lib.hid hH
          replace hp := Lib.hid hp
          clear kc2
          go_wp2_with fail
          go_quiet ((go_at_call 71; exact Calls.quiet_of_same (hH.out _)))
          go_wp2_with fail
          go_roundw
          case rel => exact ⟨k + 1, k, by omega, by go_num, by first | rfl | go_num, hst2, Mm.below_drewN hb2.out _⟩
          case measure => simp [intOf]; omega
        · obtain ⟨kc3, hyl⟩ := kc2 (by omega)
          obtain ⟨F, rfl⟩ := Int.eq_ofNat_of_zero_le (show 0 ≤ f by omega)
          rw [show ((F : Int)).toNat = F by omega] at kc3 hyl hst
          generalize ps.getD F default = y at *
          have hy2 : (y.size : Int) ≤ 9223372036854775807 := by omega
          have r2 : (F : Int) < (n : Int) := by omega
          have d0 : decide ((F : Int) < 0) = false := by simp
          by_cases hyx : y.size < x.size
          · have hst2 : Hid ((k : Int) = fnd ps a (k + 1)) := by show _ = _; rw [hst, if_pos ⟨hp, .inr hyx⟩]
            have d1 : (y.size : Int) < (x.size : Int) := by omega
            replace hst := Lib.hid hst
            replace HF := Lib.hid HF
            replace hH := Lib.hid hH
            replace hp := Lib.hid hp
            clear kc2
            go_wp2_with fail
            go_quiet ((go_at_call 71; exact Calls.quiet_of_same (hH.out _)))
            go_wp2_with fail
            go_roundw
            case rel => exact ⟨k + 1, k, by omega, by go_num, by first | rfl | go_num, hst2, Mm.below_drewN hb2.out _⟩
            case measure => simp [intOf]; omega
          · have hst2 : Hid ((F : Int) = fnd ps a (k + 1)) := by show _ = _; rw [hst, if_neg (by rintro ⟨_, h | h⟩ <;> omega)]
            have d1 : ¬ (y.size : Int) < (x.size : Int) := by omega
            replace hst := Lib.hid hst
            replace HF := Lib.hid HF
            replace hH := Lib.hid hH
            replace hp := Lib.hid hp
            clear kc2
            go_wp2_with fail
            go_quiet ((go_at_call 71; exact Calls.quiet_of_same (hH.out _)))
            go_wp2_with fail
            go_roundw
            case rel => exact ⟨k + 1, (F : Int), by omega, by go_num, by first | rfl | go_num, hst2, Mm.below_drewN hb2.out _⟩
            case measure => simp [intOf]; omega
      · have hp' : Lib.hasPrefix a.data.toList x.data.toList = false := by simpa using hp
        rw [hp'] at hH
        have hst2 : Hid (f = fnd ps a (k + 1)) := by show _ = _; rw [hst, if_neg (by rintro ⟨h, _⟩; exact hp h)]
        replace hst := Lib.hid hst
        replace HF := Lib.hid HF
        replace hH := Lib.hid hH
        replace hp := Lib.hid hp
        replace hp' := Lib.hid hp'
        clear kc2
        go_wp2_with fail
        go_quiet ((go_at_call 71; exact Calls.quiet_of_same (hH.out _)))
        go_wp2_with fail
        go_roundw
        case rel => exact ⟨k + 1, f, by omega, by go_num, by first | rfl | go_num, hst2, Mm.below_drewN hb2.out _⟩
        case measure => simp [intOf]; omega
    · obtain rfl : k = n := by omega
      have hA : E = f := by rw [hE.out, HF.out]
      subst hA
      go_wp2_with fail
      go_ret
      exact ⟨rfl, HB.out⟩
theorem ctxE_bad {ps : List ByteArray} (h : ctxOk ps = false) : ctxE ps = 1 := by unfold ctxE; rw [h]; rfl
theorem ctxE_ok {ps : List ByteArray} (h : ctxOk ps = true) : ctxE ps = 0 := by unfold ctxE; rw [h]; rfl
theorem ctxOk_len {ps : List ByteArray} (h : ctxOk ps = true) : ps.length ≤ 8 := by unfold ctxOk at h; simp at h; exact h.1
theorem ctxOk_mem {ps : List ByteArray} (h : ctxOk ps = true) : ∀ p ∈ ps, 1 ≤ p.size ∧ p.size ≤ 4 := by
  intro p hp
  unfold ctxOk at h
  rw [Bool.and_eq_true, Bool.not_eq_true', List.any_eq_false] at h
  have := h.2 p hp
  rw [badC_eq] at this
  simp at this
  omega
/-- Find -/
def FindR (ps : List ByteArray) (a : ByteArray) : Int × Bool := if ctxOk ps = true ∧ a.size = 4 then (max (fndA ps a) 0, decide (0 ≤ fndA ps a)) else (0, false)
set_option maxRecDepth 100000 in
set_option maxHeartbeats 4000000 in
theorem Find_any (A : Option Addr) (n c : Nat) (ps : List ByteArray) (a : ByteArray) (w : World) (hs : CtxS w A n ps) :
    Calls Try.prog 15 #[.slice A n c, .string a] w fun e w' => e = .returned (.tuple #[.int .i64 (FindR ps a).1, .bool (FindR ps a).2]) ∧ Below w.heap.size w w' := by
  have hc := Lib.hid (contexts_any A n c ps w hs)
  have hf := Lib.hid (fun W (h : Below w.heap.size w W) => find_any A n c ps a W (hs.keep h))
  have hbd : -1 ≤ fndA ps a ∧ fndA ps a < (ps.length : Int) := fnd_bd ps a ps.length
  have hm := hs.els.small
  have hl := hs.els.len
  unfold maxLen at hm
  have hFR : Hid (FindR ps a = if ctxOk ps = true ∧ a.size = 4 then (max (fndA ps a) 0, decide (0 ≤ fndA ps a)) else (0, false)) := rfl
  generalize FindR ps a = R at *
  generalize fndA ps a = I at *
  cases hok : ctxOk ps with
  | false =>
    rw [ctxE_bad hok] at hc
    have hR : R = (0, false) := by rw [hFR.out, hok]; simp
    subst hR
    replace hs := Lib.hid hs
    replace hok := Lib.hid hok
    replace hl := Lib.hid hl
    go_enter Try.func15, Try.ntmps15
    go_wp2_with fail
    refine hc.out.mono ?_
    rintro e w1 ⟨rfl, hb⟩
    replace hb := Lib.hid hb
    go_wp2_with fail
    go_ret2
    exact ⟨rfl, hb.out⟩
  | true =>
    rw [ctxE_ok hok] at hc
    by_cases h4 : a.size = 4
    · have hR : R = (max I 0, decide (0 ≤ I)) := by rw [hFR.out, if_pos ⟨hok, h4⟩]
      subst hR
      have d : ((a.size : Int) != 4) = false := by rw [bne_eq_false_iff_eq]; omega
      have hI : I ≤ 9223372036854775807 := by omega
      replace hs := Lib.hid hs
      replace hok := Lib.hid hok
      replace hl := Lib.hid hl
      replace h4 := Lib.hid h4
      go_enter Try.func15, Try.ntmps15
      go_wp2_with fail
      refine hc.out.mono ?_
      rintro e w1 ⟨rfl, hb⟩
      have hf2 := Lib.hid (hf.out w1 hb)
      replace hb := Lib.hid hb
      clear hc hf
      go_wp2_with fail
      refine hf2.out.mono ?_
      rintro e w2 ⟨rfl, hb2⟩
      clear hf2
      replace hb2 := Lib.hid hb2
      by_cases hi0 : 0 ≤ I
      · have d1 : ¬ I < 0 := by omega
        go_wp2_with fail
        go_ret2
        exact ⟨by simp [hi0], bthen hb.out hb2.out⟩
      · have d1 : I < 0 := by omega
        go_wp2_with fail
        go_ret2
        exact ⟨by simp, bthen hb.out hb2.out⟩
    · have hR : R = (0, false) := by rw [hFR.out, if_neg (by rintro ⟨_, h⟩; exact h4 h)]
      subst hR
      have d : ((a.size : Int) != 4) = true := by rw [bne_iff_ne]; omega
      replace hs := Lib.hid hs
      replace hok := Lib.hid hok
      replace hl := Lib.hid hl
      replace h4 := Lib.hid h4
      go_enter Try.func15, Try.ntmps15
      go_wp2_with fail
      refine hc.out.mono ?_
      rintro e w1 ⟨rfl, hb⟩
      replace hb := Lib.hid hb
      clear hc hf
      go_wp2_with fail
      go_ret2
      exact ⟨rfl, hb.out⟩
theorem pre_eq (a p : ByteArray) : ((a.extract 0 p.size).toList = p.toList) ↔ hasP a p = true := by
  unfold hasP Lib.hasPrefix
  rw [Lib.toList_data, Lib.toList_data, Lib.extract_data, List.drop_zero, Nat.sub_zero, List.isPrefixOf_iff_prefix]
  have e : p.size = p.data.toList.length := by simp
  rw [e]
  exact ⟨fun h => by rw [← h]; exact List.take_prefix _ _, fun h => (List.prefix_iff_eq_take.1 h).symm⟩
set_option maxRecDepth 100000 in
set_option maxHeartbeats 4000000 in
theorem rFind_any (A : Option Addr) (n c : Nat) (ps : List ByteArray) (a : ByteArray) (w : World) (hs : CtxS w A n ps) :
    Calls Try.prog 16 #[.slice A n c, .string a] w fun e w' => e = .returned (.tuple #[.int .i64 (FindR ps a).1, .bool (FindR ps a).2]) ∧ w = w' := by
  have hc := Lib.hid (rcontexts_any A n c ps w hs)
  have hbd : -1 ≤ fndA ps a ∧ fndA ps a < (ps.length : Int) := fnd_bd ps a ps.length
  have hm := hs.els.small
  have hl := hs.els.len
  unfold maxLen at hm
  have hFR : Hid (FindR ps a = if ctxOk ps = true ∧ a.size = 4 then (max (fndA ps a) 0, decide (0 ≤ fndA ps a)) else (0, false)) := rfl
  have hE : Hid (fndA ps a = fnd ps a n) := by show _ = _; unfold fndA; rw [hl]
  generalize FindR ps a = R at *
  generalize fndA ps a = I at *
  cases hok : ctxOk ps with
  | false =>
    rw [ctxE_bad hok] at hc
    have hR : R = (0, false) := by rw [hFR.out, hok]; simp
    subst hR
    replace hs := Lib.hid hs
    replace hok := Lib.hid hok
    replace hl := Lib.hid hl
    go_enter Try.func16, Try.ntmps16
    go_wp2_with fail
    refine hc.out.mono ?_
    rintro e w1 ⟨rfl, rfl⟩
    go_wp2_with fail
    go_ret2
    exact ⟨rfl, rfl⟩
  | true =>
    rw [ctxE_ok hok] at hc
    by_cases h4 : a.size = 4
    · have hR : R = (max I 0, decide (0 ≤ I)) := by rw [hFR.out, if_pos ⟨hok, h4⟩]
      subst hR
      have d : ((a.size : Int) != 4) = false := by rw [bne_eq_false_iff_eq]; omega
      have d2 : (a.size : Int) = 4 := by omega
      have hI : I ≤ 9223372036854775807 := by omega
      have hmem := ctxOk_mem hok
      replace hs := Lib.hid hs
      replace hok := Lib.hid hok
      replace h4 := Lib.hid h4
      replace hmem := Lib.hid hmem
      go_enter Try.func16, Try.ntmps16
      go_wp2_with fail
      refine hc.out.mono ?_
      rintro e w1 ⟨rfl, rfl⟩
      clear hc
      go_wp2_with fail
      replace d2 := Lib.hid d2
      go_loop [6, 7, 8] (fun b i _ => ∃ (k : Nat) (f : Int), k ≤ n ∧ i = .int .i64 k ∧ b = .int .i64 f ∧ Hid (f = fnd ps a k)) (fun _ i _ => n - (intOf i).toNat)
      case atStart => exact ⟨0, -1, by omega, rfl, rfl, rfl⟩
      case round =>
        obtain ⟨k, f, hk, rfl, rfl, HF⟩ := hrel
        by_cases hlt : k < n
        · obtain ⟨b, off, rfl⟩ := hs.out.els.addr (by omega)
          obtain ⟨kc, hxl⟩ := hs.out.elem hlt
          have hbd := fnd_bd ps a k
          rw [← HF.out] at hbd
          have hst : fnd ps a (k + 1) = if hasP a (ps.getD k default) = true ∧ (f < 0 ∨ (ps.getD f.toNat default).size < (ps.getD k default).size) then (k : Int) else f := by rw [HF.out]; rfl
          have kc2 : 0 ≤ f → w.cell? ⟨b, off + f.toNat, none⟩ = some (.string (ps.getD f.toNat default)) ∧ (ps.getD f.toNat default).size ≤ maxLen := fun h => hs.out.elem (show f.toNat < n by omega)
          have hx4 := (hmem.out _ (getD_mem (show k < ps.length by omega))).2
          have hpe := pre_eq a (ps.getD k default)
          generalize ps.getD k default = x at *
          unfold maxLen at hxl kc2
          have hx2 : (x.size : Int) ≤ 4 := by omega
          have hx3 : (x.size : Int) ≤ (a.size : Int) := by have := h4.out; omega
          have r1 : (k : Int) < (n : Int) := by omega
          by_cases hp : hasP a x = true
          · have hpe2 := hpe.2 hp
            by_cases hf : f < 0
            · have hst2 : Hid ((k : Int) = fnd ps a (k + 1)) := by show _ = _; rw [hst, if_pos ⟨hp, .inl hf⟩]
              replace hp := Lib.hid hp
              clear hpe
              replace hst := Lib.hid hst
              replace HF := Lib.hid HF
              replace hl := Lib.hid hl
              clear kc2 hbd
              go_wp2_with fail
              go_round
              case rel => exact ⟨k + 1, k, by omega, by go_num, by first | rfl | go_num, hst2⟩
              case measure => simp [intOf]; omega
            · obtain ⟨kc3, hyl⟩ := kc2 (by omega)
              obtain ⟨F, rfl⟩ := Int.eq_ofNat_of_zero_le (show 0 ≤ f by omega)
              rw [show ((F : Int)).toNat = F by omega] at kc3 hyl hst
              generalize ps.getD F default = y at *
              have hy2 : (y.size : Int) ≤ 9223372036854775807 := by omega
              have r2 : (F : Int) < (n : Int) := by omega
              have d0 : decide ((F : Int) < 0) = false := by simp
              by_cases hyx : y.size < x.size
              · have hst2 : Hid ((k : Int) = fnd ps a (k + 1)) := by show _ = _; rw [hst, if_pos ⟨hp, .inr hyx⟩]
                have d1 : (y.size : Int) < (x.size : Int) := by omega
                replace hp := Lib.hid hp
                clear hpe
                replace hst := Lib.hid hst
                replace HF := Lib.hid HF
                replace hl := Lib.hid hl
                clear kc2 hbd
                go_wp2_with fail
                go_round
                case rel => exact ⟨k + 1, k, by omega, by go_num, by first | rfl | go_num, hst2⟩
                case measure => simp [intOf]; omega
              · have hst2 : Hid ((F : Int) = fnd ps a (k + 1)) := by show _ = _; rw [hst, if_neg (by rintro ⟨_, h | h⟩ <;> omega)]
                have d1 : ¬ (y.size : Int) < (x.size : Int) := by omega
                replace hp := Lib.hid hp
                clear hpe
                replace hst := Lib.hid hst
                replace HF := Lib.hid HF
                replace hl := Lib.hid hl
                clear kc2 hbd
                go_wp2_with fail
                go_round
                case rel => exact ⟨k + 1, (F : Int), by omega, by go_num, by first | rfl | go_num, hst2⟩
                case measure => simp [intOf]; omega
          · have hpe2 : ¬ (a.extract 0 x.size).toList = x.toList := fun h => hp (hpe.1 h)
            have hst2 : Hid (f = fnd ps a (k + 1)) := by show _ = _; rw [hst, if_neg (by rintro ⟨h, _⟩; exact hp h)]
            replace hp := Lib.hid hp
            clear hpe
            replace hst := Lib.hid hst
            replace HF := Lib.hid HF
            replace hl := Lib.hid hl
            clear kc2 hbd
            go_wp2_with fail
            go_round
            case rel => exact ⟨k + 1, f, by omega, by go_num, by first | rfl | go_num, hst2⟩
            case measure => simp [intOf]; omega
        · obtain rfl : k = n := by omega
          have hA : I = f := by rw [hE.out, HF.out]
          subst hA
          by_cases hi0 : 0 ≤ I
          · have d1 : ¬ I < 0 := by omega
            go_wp2_with fail
            go_ret2
            exact ⟨by simp, rfl⟩
          · have d1 : I < 0 := by omega
            go_wp2_with fail
            go_ret2
            exact ⟨by simp; omega, rfl⟩
    · have hR : R = (0, false) := by rw [hFR.out, if_neg (by rintro ⟨_, h⟩; exact h4 h)]
      subst hR
      have d : ((a.size : Int) != 4) = true := by rw [bne_iff_ne]; omega
      replace hs := Lib.hid hs
      replace hok := Lib.hid hok
      replace hl := Lib.hid hl
      replace h4 := Lib.hid h4
      go_enter Try.func16, Try.ntmps16
      go_wp2_with fail
      refine hc.out.mono ?_
      rintro e w1 ⟨rfl, rfl⟩
      clear hc
      go_wp2_with fail
      go_ret2
      exact ⟨rfl, rfl⟩
end Cp
end Go.Proofs.Ytgdkehnakopnnaa
