/- symMerge with one element behind. -/
import Derived.Test.YtnkgmpmedkegbaaSt5
namespace Go.Proofs.Ytnkgmpmedkegbaa
open Go Go.RowKit Go.Sort Go.Shelf Go.Lib
namespace St
variable {P : Program} {k : Nat} {α : Type} [Inhabited α]
theorem rot_self2 (d : Array α) (m b : Nat) (h : m ≤ b) : Rotated d d m m b := ⟨permIn_refl _ _ _, fun t => by
  have h := rotI_cases m m b t
  have e : rotI m m b t = t := by omega
  rw [e]⟩
theorem rot_right {d dk : Array α} {t m : Nat} (R : Rotated d dk t m (m + 1)) (h0 : 0 < t) (h1 : t ≤ m) (h2 : m < d.size) : Rotated d (swp dk t (t - 1)) (t - 1) m (m + 1) := by
  have hs := R.perm.1
  refine ⟨permIn_trans _ _ _ _ _ (permIn_mono _ _ _ _ _ _ (by omega) (Nat.le_refl _) (by omega) R.perm) (swp_permIn _ _ _ _ _ (by omega) (by omega) (by omega) (by omega) (by omega)), fun q => ?_⟩
  rw [swp_get dk (by omega) (by omega)]
  have I := rotI_cases (t - 1) m (m + 1) q
  by_cases c1 : q = t - 1
  · rw [if_pos c1, R.at_]
    have J := rotI_cases t m (m + 1) t
    congr 1; omega
  · rw [if_neg c1]
    by_cases c2 : q = t
    · rw [if_pos c2, R.at_]
      have J := rotI_cases t m (m + 1) (t - 1)
      congr 1; omega
    · rw [if_neg c2, R.at_]
      have J := rotI_cases t m (m + 1) q
      congr 1; omega
set_option maxHeartbeats 4000000 in
set_option maxRecDepth 1000000 in
theorem symMerge_last (L : StP P k) (enc : α → List Value) (cf : α → α → Int) (hO : SWO (ltOf cf)) (g : Nat) (cb : Array Value) (blk cap a m b : Nat) (d0 d : Array α) (w0 w : World)
    (eg : ∀ args w, (callFunc g args).run P w = .ok (.enter g args) w) (hcmp : CmpLays P g cb enc k cf blk 0 d0.size w0) (R : RowK enc k w0 blk 0 d0) (hs : d0.size = d.size) (S : SWK enc k w0 blk 0 d w) (ham : a + 1 < m) (hmb : b = m + 1) (hb : b ≤ d.size) (hsz : d.size < 2305843009213693952) :
    Calls P 88 #[.slice (some ⟨blk, 0, none⟩) d.size cap, .int .i64 a, .int .i64 m, .int .i64 b, .func (.func g) #[] cb] w (MrgPost enc k w0 blk cf d a m b) := by
  have hq1 : (((m : Int) - (a : Int)) == 1) = false := by rw [beq_eq_false_iff_ne]; omega
  have hq2 : (b : Int) - (m : Int) = 1 := by omega
  have hm1 : b ≤ m + 1 := by omega
  have hm2 : m + 1 ≤ b := by omega
  replace hmb := Lib.hid hmb
  have mixed := L.mixed; have t0 := L.t0; have a0 := L.a0; have z0 := L.z0; have v0 := L.v0; have t3 := L.t3; have a3 := L.a3; have z3 := L.z3; have v3 := L.v3; have t4 := L.t4; have a4 := L.a4; have z4 := L.z4; have v4 := L.v4; have t38 := L.t38; have a38 := L.a38; have z38 := L.z38; have v38 := L.v38; have t78 := L.t78; have a78 := L.a78; have z78 := L.z78; have v78 := L.v78; have t94 := L.t94; have a94 := L.a94; have z94 := L.z94; have v94 := L.v94
  have aE := L.aE
  have zE := L.zE
  have S0 : Aside (SWK enc k w0 blk 0 d w) := S
  have HC : Aside (CmpLays P g cb enc k cf blk 0 d0.size w0) := hcmp
  clear S hcmp
  go_enter L.fSy, Try.ntmps88
  go_wp2
  go_loopw [14, 15] (fun vi vj wr => ∃ (i j : Nat), a ≤ i ∧ i ≤ j ∧ j ≤ m ∧ vi = .int .i64 i ∧ vj = .int .i64 j ∧ Hid (i = a ∨ ltOf cf d[m]! d[i - 1]! = false) ∧ Hid (j = m ∨ ltOf cf d[m]! d[j]! = true) ∧ Aside (SWK enc k w0 blk 0 d wr)) (fun vi vj _ => (intOf vj).toNat - (intOf vi).toNat)
  case atStart => exact ⟨a, m, Nat.le_refl _, by omega, Nat.le_refl _, rfl, rfl, .inl rfl, .inl rfl, S0⟩
  case round =>
    clear S0
    obtain ⟨i, j, hai, hij, hjm, rfl, rfl, F1, F2, S1⟩ := hrel
    by_cases hlt : i < j
    · obtain ⟨h, hh⟩ : ∃ h, h = (i + j) / 2 := ⟨_, rfl⟩
      have hz : ((i : Int) + (j : Int)) / 2 = (h : Int) := by omega
      have r1 : (i : Int) < (j : Int) := by omega
      have hb1 : i ≤ h := by omega
      have hb2 : h < j := by omega
      replace hh := Lib.hid hh
      have F3 : Hid (ltOf cf d[m]! d[h]! = false → (h + 1 = a ∨ ltOf cf d[m]! d[h + 1 - 1]! = false)) := fun hh => .inr (by simpa using hh)
      cases hL : ltOf cf d[m]! d[h]! with
      | false =>
        have ea1 : ((m : Int) : Int).toNat = m := by omega
        have pa1 : (0 : Int) ≤ (m : Int) := by omega
        have ba1 : ((m : Int) : Int) < (d.size : Int) := by omega
        have ra1 : IntKind.i64.wrap ((m : Int)) = (m : Int) := by rw [IntKind.wrap_i64]; omega
        have ec1 : ((h : Int) : Int).toNat = h := by omega
        have pc1 : (0 : Int) ≤ (h : Int) := by omega
        have bc1 : ((h : Int) : Int) < (d.size : Int) := by omega
        have rc1 : IntKind.i64.wrap ((h : Int)) = (h : Int) := by rw [IntKind.wrap_i64]; omega
        obtain ⟨x1, hx1⟩ : ∃ x, x = d[m]! := ⟨_, rfl⟩
        obtain ⟨y1, hy1⟩ : ∃ x, x = d[h]! := ⟨_, rfl⟩
        have la1 := S1.out.ld R (by omega) P (m) (by omega)
        have lb1 := S1.out.ld R (by omega) P (h) (by omega)
        rw [← hx1] at la1
        rw [← hy1] at lb1
        simp only [Nat.zero_add] at la1 lb1
        have hc1 := S1.out.cmp HC.out (by omega) x1 y1
        have hv1 : ¬ cf x1 y1 < 0 := by rw [hx1, hy1]; exact of_decide_eq_false hL
        have hd1 : decide (cf x1 y1 < 0) = false := decide_eq_false hv1
        clear hx1 hy1
        go_wp2_with fail
        go_quiet_grown (first | (go_at_fn g; refine Calls.grown_of (hc1 _ _)))
        have S2 : Aside (SWK enc k w0 blk 0 d (grow (wr.drewN nq) osq)) := S1.out.grown nq osq
        clear la1 lb1 hc1 S1 ea1 pa1 ba1 ra1 ec1 pc1 bc1 rc1
        generalize grow (wr.drewN nq) osq = w2 at S2 ⊢
        clear nq osq
        have F4 := F3.out hL
        replace F4 := Lib.hid F4
        replace hL := Lib.hid hL
        go_wp2
        go_roundw
        case rel => exact ⟨h + 1, j, by omega, by omega, hjm, by go_num, rfl, F4, F2, S2⟩
        case measure => simp [intOf]; omega
      | true =>
        have ea1 : ((m : Int) : Int).toNat = m := by omega
        have pa1 : (0 : Int) ≤ (m : Int) := by omega
        have ba1 : ((m : Int) : Int) < (d.size : Int) := by omega
        have ra1 : IntKind.i64.wrap ((m : Int)) = (m : Int) := by rw [IntKind.wrap_i64]; omega
        have ec1 : ((h : Int) : Int).toNat = h := by omega
        have pc1 : (0 : Int) ≤ (h : Int) := by omega
        have bc1 : ((h : Int) : Int) < (d.size : Int) := by omega
        have rc1 : IntKind.i64.wrap ((h : Int)) = (h : Int) := by rw [IntKind.wrap_i64]; omega
        obtain ⟨x1, hx1⟩ : ∃ x, x = d[m]! := ⟨_, rfl⟩
        obtain ⟨y1, hy1⟩ : ∃ x, x = d[h]! := ⟨_, rfl⟩
        have la1 := S1.out.ld R (by omega) P (m) (by omega)
        have lb1 := S1.out.ld R (by omega) P (h) (by omega)
        rw [← hx1] at la1
        rw [← hy1] at lb1
        simp only [Nat.zero_add] at la1 lb1
        have hc1 := S1.out.cmp HC.out (by omega) x1 y1
        have hv1 : cf x1 y1 < 0 := by rw [hx1, hy1]; exact of_decide_eq_true hL
        have hd1 : decide (cf x1 y1 < 0) = true := decide_eq_true hv1
        clear hx1 hy1
        go_wp2_with fail
        go_quiet_grown (first | (go_at_fn g; refine Calls.grown_of (hc1 _ _)))
        have S2 : Aside (SWK enc k w0 blk 0 d (grow (wr.drewN nq) osq)) := S1.out.grown nq osq
        clear la1 lb1 hc1 S1 ea1 pa1 ba1 ra1 ec1 pc1 bc1 rc1
        generalize grow (wr.drewN nq) osq = w2 at S2 ⊢
        clear nq osq
        have F4 : Hid (h = m ∨ ltOf cf d[m]! d[h]! = true) := .inr hL
        replace hL := Lib.hid hL
        go_wp2
        go_roundw
        case rel => exact ⟨i, h, by omega, by omega, by omega, rfl, rfl, F1, F4, S2⟩
        case measure => simp [intOf]; omega
    · obtain rfl : i = j := by omega
      clear hlt
      have RS : Hid (Rotated d d m m (m + 1)) := rot_self2 d m (m + 1) (by omega)
      go_wp2_with fail
      go_loopw [17] (fun vk wr => ∃ (t : Nat) (dk : Array α), i ≤ t ∧ t ≤ m ∧ vk = .int .i64 t ∧ dk.size = d.size ∧ Hid (Rotated d dk t m (m + 1)) ∧ Aside (SWK enc k w0 blk 0 dk wr)) (fun vk _ => (intOf vk).toNat)
      case atStart => exact ⟨m, d, by omega, Nat.le_refl _, rfl, rfl, RS, S1⟩
      case round =>
        clear S1 RS
        obtain ⟨t, dk, hit, htm, rfl, hds, HR, S1⟩ := hrel
        by_cases hlt : i < t
        · have r1 : (i : Int) < (t : Int) := by omega
          have HR2 := Lib.hid (rot_right HR.out (by omega) htm (by omega))
          have hk1 : Hid ((t : Int) - 1 = ((t - 1 : Nat) : Int)) := by show _ = _; omega
          go_wp2_with fail
          have ea3 : ((t : Int) : Int).toNat = t := by omega
          have pa3 : (0 : Int) ≤ (t : Int) := by omega
          have ba3 : ((t : Int) : Int) < (d.size : Int) := by omega
          have ra3 : IntKind.i64.wrap ((t : Int)) = (t : Int) := by rw [IntKind.wrap_i64]; omega
          have ec3 : ((t : Int) - 1 : Int).toNat = t - 1 := by omega
          have pc3 : (0 : Int) ≤ (t : Int) - 1 := by omega
          have bc3 : ((t : Int) - 1 : Int) < (d.size : Int) := by omega
          have rc3 : IntKind.i64.wrap ((t : Int) - 1) = (t : Int) - 1 := by rw [IntKind.wrap_i64]; omega
          have S2 : Aside (SWK enc k w0 blk 0 (swp dk (t) (t - 1)) ((wr.drew.setCells blk (0 + (t) * k) (enc dk[t - 1]!)).setCells blk (0 + (t - 1) * k) (enc dk[t]!))) := S1.out.swapped R (t) (t - 1) (by omega) (by omega)
          have la3 := S1.out.ld1 R (by omega) P (t) (by omega)
          have lb3 := S1.out.ld1 R (by omega) P (t - 1) (by omega)
          have sa3 := S1.out.st1 R (by omega) P (t) (by omega) dk[t - 1]!
          have sb3 := S1.out.st2 R (by omega) P (t) (t - 1) (by omega) (by omega) dk[t - 1]! dk[t]!
          have na3 : (enc dk[t]!).length = k := R.hk _
          have nb3 : (enc dk[t - 1]!).length = k := R.hk _
          generalize enc dk[t]! = cI3 at S2 la3 sb3 na3
          generalize enc dk[t - 1]! = cJ3 at S2 lb3 sa3 sb3 nb3
          simp only [Nat.zero_add] at la3 lb3 sa3 sb3 S2
          clear S1
          go_big_region_o
          clear la3 lb3 sa3 sb3 na3 nb3 ea3 pa3 ba3 ra3 ec3 pc3 bc3 rc3
          generalize (wr.drew.setCells blk ((t) * k) cJ3).setCells blk ((t - 1) * k) cI3 = w2 at S2 ⊢
          go_wp2
          go_roundw
          case rel => exact ⟨t - 1, _, by omega, by omega, by rw [hk1.out], by rw [size_swp]; exact hds, HR2, S2⟩
          case measure => simp [intOf]; omega
        · have r1 : ¬ (i : Int) < (t : Int) := by omega
          obtain rfl : t = i := by omega
          have hMm : m + 1 = b := by omega
          have HM : Hid (Merged (ltOf cf) d dk a m b) := by
            show Merged _ _ _ _ _ _
            rw [← hMm]
            exact ins_right hO (by omega) hai htm F1.out F2.out HR.out
          replace hMm := Lib.hid hMm
          go_wp2
          go_end0
          exact ⟨rfl, dk, S1.out, HM.out⟩
end St
end Go.Proofs.Ytnkgmpmedkegbaa
