/- conflict.disturbance. -/
import Derived.Test.YthibgpgjioepfaaCfl1
namespace Go.Proofs.Ythibgpgjioepfaa
open Go Go.RowKit Go.Sort
namespace Nt
def endTo (AD : Int → Int) (a b : Int) : Nat → Int
  | 0 => 0
  | 1 => AD a
  | _ => AD a + AD b
theorem endTo_next (AD : Int → Int) (a b : Int) (m : Nat) (h : m < 2) : endTo AD a b (m + 1) = endTo AD a b m + AD (if m = 0 then a else b) := by
  rcases (by omega : m = 0 ∨ m = 1) with rfl | rfl
  · simp [endTo]
  · simp [endTo]
theorem endTo_bd (AD : Int → Int) (h : ∀ a, 0 ≤ AD a ∧ AD a ≤ 68719476736) (a b : Int) (m : Nat) : 0 ≤ endTo AD a b m ∧ endTo AD a b m ≤ 137438953472 := by
  have h1 := h a
  have h2 := h b
  match m with
  | 0 => simp [endTo]
  | 1 => simp only [endTo]; omega
  | _ + 2 => simp only [endTo]; omega
theorem end_cell {w : World} {B : Nat} {a b : Int} (h : Box w B #[.int .i64 a, .int .i64 b]) {m : Nat} (hm : m < 2) : w.cell? ⟨B, m, none⟩ = some (.int .i64 (if m = 0 then a else b)) := by
  rw [h.at_]
  rcases (by omega : m = 0 ∨ m = 1) with rfl | rfl <;> rfl
set_option maxRecDepth 100000 in
set_option maxHeartbeats 2000000 in
theorem dist_any (N : Net) (v : NetV) (A : Option Addr) (n c : Nat) (cs : List Cel) (i : Int) (node : Nat) (w : World) (hN : NetIs w v N) (hs : CelS w A n cs)
    (hsq : Square N) (hpw : ∀ xs ∈ N.power, ∀ x ∈ xs, 0 ≤ x ∧ x ≤ 68719476736) (hnd : (node : Int) < N.nodes) (hn : n ≤ 100000) :
    Calls Try.prog 39 #[.agg #[.int .i64 N.nodes, .slice v.PA v.pn v.pc, .int .i64 N.noise, .int .i64 N.threshold, .slice v.LA v.ln v.lc, .slice v.MA v.mn v.mc], .slice A n c, .int .i64 i, .int .i64 (node : Int)] w
      fun e w' => e = .returned (.int .i64 (dist N cs i (node : Int))) ∧ Below w.heap.size w w' := by
  have HD : Hid (dist N cs i (node : Int) = distTo N cs i (node : Int) n) := by show _ = _; unfold dist; rw [hs.els.len]
  have HT := fun k => distTo_bd hpw cs i (node : Int) k
  have HS : Hid (∀ k, distTo N cs i (node : Int) (k + 1) = distTo N cs i (node : Int) k + (if (k : Int) = i then 0 else distC N (node : Int) (cs.getD k default))) := fun k => rfl
  have HAb := fun a => adds_bd hpw (node : Int) a
  have HA0 : Hid (∀ a, isNode N.nodes a = false → adds N (node : Int) a = 0) := fun a h => by unfold adds; rw [if_neg (by rw [h]; decide)]
  have HA1 : Hid (∀ a, isNode N.nodes a = true → adds N (node : Int) a = powerAt N a (node : Int)) := fun a h => by unfold adds; rw [if_pos h]
  have HDC : Hid (∀ q, distC N (node : Int) q = adds N (node : Int) q.frm + adds N (node : Int) q.to) := fun q => rfl
  replace HT := Lib.hid HT
  replace HAb := Lib.hid HAb
  generalize hTdef : distTo N cs i (node : Int) = T at *
  generalize hAdef : adds N (node : Int) = AD at *
  generalize hDdef : distC N (node : Int) = DC at *
  generalize dist N cs i (node : Int) = D at *
  clear hTdef hAdef hDdef hpw
  have hlen := hs.els.len
  replace hlen := Lib.hid hlen
  obtain ⟨nodes, power, noise, thr, links, margin⟩ := N
  obtain ⟨PA, pn, pc, LA, ln, lc, MA, mn, mc⟩ := v
  dsimp only at *
  have hbw := below_alloc w (.cells #[.int .i64 nodes, .slice PA pn pc, .int .i64 noise, .int .i64 thr, .slice LA ln lc, .slice MA mn mc] 26)
  have BX := Box.new w #[.int .i64 nodes, .slice PA pn pc, .int .i64 noise, .int .i64 thr, .slice LA ln lc, .slice MA mn mc] 26
  replace hN := Lib.hid hN
  replace hs := Lib.hid hs
  replace hsq := Lib.hid hsq
  replace BX := Lib.hid BX
  replace hbw := Lib.hid hbw
  go_enter Try.func39, Try.ntmps39
  go_wp2
  go_loopw [9, 16] (fun s i wr => ∃ k : Nat, k ≤ n ∧ i = .int .i64 k ∧ s = .int .i64 (T k) ∧ Hid (Below w.heap.size w wr) ∧ Hid (Box wr w.heap.size #[.int .i64 nodes, .slice PA pn pc, .int .i64 noise, .int .i64 thr, .slice LA ln lc, .slice MA mn mc])) (fun _ i _ => n - (intOf i).toNat)
  case atStart => exact ⟨0, by omega, rfl, by have := HT.out 0; simp only [Int.natCast_zero, Int.zero_mul] at this; rw [show T 0 = 0 by omega], hbw, BX⟩
  case round =>
    obtain ⟨k, hk, rfl, rfl, HB, HX⟩ := hrel
    clear hbw BX
    by_cases hlt : k < n
    · obtain ⟨b, off, rfl⟩ := hs.out.els.addr (by omega)
      obtain ⟨⟨a0, a1, a2, a3, a4⟩, hq, hm, q0, q1, q2, q3, q4⟩ := (hs.out.keep HB.out).elem hlt
      dsimp only at q0 q1 q2 q3 q4
      have hq' : cs.getD k default = ⟨a0, a1, a2, a3, a4⟩ := by rw [List.getD_eq_getElem?_getD, hq]; rfl
      replace hq := Lib.hid hq
      replace hm := Lib.hid hm
      have HTk := HT.out k
      have HTs := HS.out k
      rw [hq'] at HTs
      replace hq' := Lib.hid hq'
      by_cases hki : ((k : Int) == i) = true
      · have he : T (k + 1) = T k := by rw [HTs, if_pos (by simpa using hki)]; omega
        replace he := Lib.hid he
        replace HTs := Lib.hid HTs
        replace HTk := Lib.hid HTk
        go_wp2
        have HB' := Lib.hid (HB.out.alloc HB.out.size (.cells #[.int .i64 a0, .int .i64 a1, .int .i64 a2, .int .i64 a3, .int .i64 a4] 36))
        have HX' := Lib.hid (HX.out.alloc (.cells #[.int .i64 a0, .int .i64 a1, .int .i64 a2, .int .i64 a3, .int .i64 a4] 36))
        go_roundw
        case rel => exact ⟨k + 1, by omega, by go_num, by rw [he.out], HB', HX'⟩
        case measure => simp [intOf]; omega
      · have hki' : ((k : Int) == i) = false := by simpa using hki
        have he : T (k + 1) = T k + (AD a2 + AD a3) := by rw [HTs, if_neg (by simpa using hki), HDC.out]
        replace he := Lib.hid he
        replace HTs := Lib.hid HTs
        replace hki := Lib.hid hki
        replace HTk := Lib.hid HTk
        go_wp2
        have HB1 := Lib.hid ((HB.out.alloc HB.out.size (.cells #[.int .i64 a0, .int .i64 a1, .int .i64 a2, .int .i64 a3, .int .i64 a4] 36)).alloc (by have := HB.out.size; simp; omega) (.cells #[.int .i64 a2, .int .i64 a3] 3))
        have HX1 := Lib.hid ((HX.out.alloc (.cells #[.int .i64 a0, .int .i64 a1, .int .i64 a2, .int .i64 a3, .int .i64 a4] 36)).alloc (.cells #[.int .i64 a2, .int .i64 a3] 3))
        have HE1 := Box.new (wr.alloc (.cells #[.int .i64 a0, .int .i64 a1, .int .i64 a2, .int .i64 a3, .int .i64 a4] 36)) #[.int .i64 a2, .int .i64 a3] 3
        rw [show (wr.alloc (.cells #[.int .i64 a0, .int .i64 a1, .int .i64 a2, .int .i64 a3, .int .i64 a4] 36)).heap.size = wr.heap.size + 1 by simp] at HE1
        replace HE1 := Lib.hid HE1
        generalize (wr.alloc (.cells #[.int .i64 a0, .int .i64 a1, .int .i64 a2, .int .i64 a3, .int .i64 a4] 36)).alloc (.cells #[.int .i64 a2, .int .i64 a3] 3) = w1 at *
        generalize wr.heap.size + 1 = B2 at *
        clear q0 q1 q2 q3 q4
        generalize T k = Tk at *
        go_loopw [9, 30] (fun s j w2 => ∃ m : Nat, m ≤ 2 ∧ j = .int .i64 m ∧ s = .int .i64 (Tk + endTo AD a2 a3 m) ∧ Hid (Below w.heap.size w w2) ∧ Hid (Box w2 w.heap.size #[.int .i64 nodes, .slice PA pn pc, .int .i64 noise, .int .i64 thr, .slice LA ln lc, .slice MA mn mc]) ∧ Hid (Box w2 B2 #[.int .i64 a2, .int .i64 a3])) (fun _ j _ => 2 - (intOf j).toNat)
        case atStart => exact ⟨0, by omega, rfl, by rw [show endTo AD a2 a3 0 = 0 from rfl, Int.add_zero], HB1, HX1, HE1⟩
        case round =>
          obtain ⟨m, hm2, rfl, rfl, HB2, HX2, HE2⟩ := hrel
          clear HB1 HX1 HE1 HB HX
          by_cases hlm : m < 2
          · obtain ⟨a, ha⟩ : ∃ a, a = (if m = 0 then a2 else a3) := ⟨_, rfl⟩
            have hcell := end_cell HE2.out hlm
            rw [← ha] at hcell
            have hnext := endTo_next AD a2 a3 m hlm
            rw [← ha] at hnext
            replace ha := Lib.hid ha
            have kx := HX2.out.at_
            have hAa := HAb.out a
            have hpre := endTo_bd AD (fun x => (HAb.out x)) a2 a3 m
            have htk := HTk.out
            have hk137 : (k : Int) * 137438953472 ≤ 13743895347200000 := by omega
            replace hnext := Lib.hid hnext
            go_wp2_with fail
            refine (isNode_any nodes a _ _ _ _ _ _).mono ?_
            rintro e w3 ⟨rfl, hb3⟩
            have HB3 := Lib.hid (HB2.out.trans (hb3.mono HB2.out.size))
            have HX3 := Lib.hid (HX2.out.keep hb3)
            have HE3 := Lib.hid (HE2.out.keep hb3)
            clear hb3 kx hcell
            by_cases hia : isNode nodes a = true
            · have hAv := HA1.out a hia
              have hbnd := isNode_yes hia
              rw [hia]
              obtain ⟨f, rfl⟩ := Int.eq_ofNat_of_zero_le hbnd.1
              have hfp : f < pn := by have h1 := hsq.out.rows; have h2 := hN.out.power.len; dsimp only at h1 h2; omega
              obtain ⟨pb, po, rfl⟩ := hN.out.power.addr (by show 0 < pn; omega)
              have N3 := hN.out.keep HB3.out
              obtain ⟨row, RA, rn, rc, hr, hrm, row0, hrow⟩ := N3.power.elem (k := f) (by show f < pn; omega)
              dsimp only at hr hrm row0
              have hrn := hrow.els.len
              have htr : node < rn := by have h1 := hsq.out.cols row hrm; dsimp only at h1; omega
              obtain ⟨rb, ro, rfl⟩ := hrow.els.addr (by omega)
              obtain ⟨p, hp0, _, p0⟩ := hrow.elem (k := node) htr
              have HP : AD (f : Int) = p := by
                rw [hAv]; unfold powerAt; dsimp only
                rw [Int.toNat_natCast, Int.toNat_natCast, List.getD_eq_getElem?_getD, List.getD_eq_getElem?_getD, hr]
                show (row[node]?).getD 0 = p
                rw [hp0]; rfl
              rw [HP] at hAa hnext
              replace HP := Lib.hid HP
              have kx := HX3.out.at_
              clear hAv hp0 hr hrm hrn N3 hia
              replace hrow := Lib.hid hrow
              generalize endTo AD a2 a3 m = E0 at *
              go_wp2
              clear kx row0 p0
              go_roundw
              case rel => exact ⟨m + 1, by omega, by go_num, by rw [hnext.out, Int.add_assoc], HB3, HX3, HE3⟩
              case measure => simp [intOf]; omega
            · have hia' : isNode nodes a = false := by simpa using hia
              have hAv := HA0.out a hia'
              rw [hia']
              have hnx : Hid (endTo AD a2 a3 (m + 1) = endTo AD a2 a3 m) := by show _ = _; rw [hnext.out, hAv]; omega
              clear hAv hia hia'
              generalize endTo AD a2 a3 m = E0 at *
              go_wp2
              go_roundw
              case rel => exact ⟨m + 1, by omega, by go_num, by rw [hnx.out], HB3, HX3, HE3⟩
              case measure => simp [intOf]; omega
          · have e : m = 2 := by omega
            subst e
            have e2 : Hid (Tk + endTo AD a2 a3 2 = Tk + (AD a2 + AD a3)) := rfl
            generalize endTo AD a2 a3 2 = E2 at *
            go_wp2
            go_roundw
            case rel => exact ⟨k + 1, by omega, by go_num, by rw [e2.out, he.out], HB2, HX2⟩
            case measure => simp [intOf]; omega
    · have e : k = n := by omega
      subst e
      go_wp2
      go_ret
      exact ⟨by rw [HD.out]; rfl, HB.out⟩
end Nt
end Go.Proofs.Ythibgpgjioepfaa
