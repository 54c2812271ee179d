/- the law's awake; hopmeshref31.Few. -/
import Derived.Test.YthibgpgjioepfaaLaw1
namespace Go.Proofs.Ythibgpgjioepfaa
open Go Go.RowKit Go.Sort
namespace Nt
open Mm
def awCells : List Cel := [⟨0, 0, 0, 1, 0⟩, ⟨0, 0, 2, 3, 0⟩]
def exV (v : NetV) : Value := .agg #[.int .i64 4, .slice v.PA v.pn v.pc, .int .i64 1, .int .i64 3000, .slice v.LA v.ln v.lc, .slice v.MA v.mn v.mc]
theorem aw1 : distN (exNet 40) awCells 0 1 = 43 := by decide +kernel
theorem aw2 : distN (exNet 2) awCells 0 1 = 5 := by decide +kernel
theorem aw3 : firstN (exNet 40) awCells = some 0 := by decide +kernel
theorem aw4 : goodN (exNet 2) awCells = false := by decide +kernel
theorem aw5 : goodN (exNet 2) [⟨0, 0, 0, 1, 0⟩] = true := by decide +kernel
theorem aw_d40 (v : NetV) (A : Option Addr) (w : World) (hN : NetIs w v (exNet 40)) (hs : CelS w A 2 awCells) :
    Calls Try.prog 13 #[.agg #[.int .i64 4, .slice v.PA v.pn v.pc, .int .i64 1, .int .i64 3000, .slice v.LA v.ln v.lc, .slice v.MA v.mn v.mc], .slice A 2 2, .int .i64 0, .int .i64 1] w fun e w' => e = .returned (.int .i64 43) ∧ Below w.heap.size w w' := by
  have := Disturbance_any (exNet 40) v A 2 2 awCells 0 1 w hN hs (by decide)
  rwa [aw1] at this
theorem aw_d2 (v : NetV) (A : Option Addr) (w : World) (hN : NetIs w v (exNet 2)) (hs : CelS w A 2 awCells) :
    Calls Try.prog 13 #[.agg #[.int .i64 4, .slice v.PA v.pn v.pc, .int .i64 1, .int .i64 3000, .slice v.LA v.ln v.lc, .slice v.MA v.mn v.mc], .slice A 2 2, .int .i64 0, .int .i64 1] w fun e w' => e = .returned (.int .i64 5) ∧ Below w.heap.size w w' := by
  have := Disturbance_any (exNet 2) v A 2 2 awCells 0 1 w hN hs (by decide)
  rwa [aw2] at this
theorem aw_f40 (v : NetV) (A : Option Addr) (w : World) (hN : NetIs w v (exNet 40)) (hs : CelS w A 2 awCells) :
    Calls Try.prog 20 #[.agg #[.int .i64 4, .slice v.PA v.pn v.pc, .int .i64 1, .int .i64 3000, .slice v.LA v.ln v.lc, .slice v.MA v.mn v.mc], .slice A 2 2] w fun e w' => e = .returned (.tuple #[.int .i64 0, .bool true]) ∧ Below w.heap.size w w' := by
  have := First_any (exNet 40) v A 2 2 awCells w hN hs (by decide)
  rw [aw3] at this
  exact this
theorem aw_g2 (v : NetV) (A : Option Addr) (w : World) (hN : NetIs w v (exNet 2)) (hs : CelS w A 2 awCells) :
    Calls Try.prog 17 #[.agg #[.int .i64 4, .slice v.PA v.pn v.pc, .int .i64 1, .int .i64 3000, .slice v.LA v.ln v.lc, .slice v.MA v.mn v.mc], .slice A 2 2] w fun e w' => e = .returned (.bool false) ∧ Below w.heap.size w w' := by
  have := Good_any (exNet 2) v A 2 2 awCells w hN hs (by decide)
  rwa [aw4] at this
theorem aw_g1 (v : NetV) (A : Option Addr) (w : World) (c : Nat) (hN : NetIs w v (exNet 2)) (hs : CelS w A 1 [⟨0, 0, 0, 1, 0⟩]) :
    Calls Try.prog 17 #[.agg #[.int .i64 4, .slice v.PA v.pn v.pc, .int .i64 1, .int .i64 3000, .slice v.LA v.ln v.lc, .slice v.MA v.mn v.mc], .slice A 1 c] w fun e w' => e = .returned (.bool true) ∧ Below w.heap.size w w' := by
  have := Good_any (exNet 2) v A 1 c [⟨0, 0, 0, 1, 0⟩] w hN hs (by decide)
  rwa [aw5] at this
theorem aw_ok (c : Cel) (h : c ∈ awCells) : c.ok := by
  unfold awCells at h
  simp only [List.mem_cons, List.not_mem_nil, or_false] at h
  rcases h with rfl | rfl <;> (unfold Cel.ok I64; dsimp only; omega)
set_option maxRecDepth 100000 in
set_option maxHeartbeats 8000000 in
theorem awake_any (w : World) : Calls Try.prog 11 #[] w fun e w' => e = .returned (.bool true) ∧ Below w.heap.size w w' := by
  have HC0 := two_cells w 36 ⟨0, 0, 0, 1, 0⟩ ⟨0, 0, 2, 3, 0⟩ (aw_ok _ (.head _)) (aw_ok _ (.tail _ (.head _)))
  have hbw := below_alloc w (.cells #[.int .i64 0, .int .i64 0, .int .i64 0, .int .i64 1, .int .i64 0, .int .i64 0, .int .i64 0, .int .i64 2, .int .i64 3, .int .i64 0] 36)
  replace HC0 := Lib.hid HC0
  replace hbw := Lib.hid hbw
  go_enter Try.func11, Try.ntmps11
  go_wp2_with fail
  generalize w.alloc (.cells #[.int .i64 0, .int .i64 0, .int .i64 0, .int .i64 1, .int .i64 0, .int .i64 0, .int .i64 0, .int .i64 2, .int .i64 3, .int .i64 0] 36) = W at *
  have HC : Hid (∀ W', Below W.heap.size W W' → CelS W' (some ⟨w.heap.size, 0, none⟩) 2 awCells) := fun W' h => HC0.out.keep h
  have HC1 : Hid (∀ W', Below W.heap.size W W' → CelS W' (some ⟨w.heap.size, 0, none⟩) 1 [⟨0, 0, 0, 1, 0⟩]) := fun W' h => by
    have k := HC.out W' h
    obtain ⟨b, off, e, h1, h2⟩ := k.els.at_ (by decide)
    refine ⟨⟨rfl, by decide, fun _ => ⟨b, off, e, h1, fun i hi j hj => ?_⟩⟩, fun x hx => k.ok x (by rw [List.mem_singleton] at hx; rw [hx]; exact .head _)⟩
    obtain rfl : i = 0 := by omega
    exact h2 0 (by decide) j hj
  clear HC0
  refine (example_any 40 (by unfold I64; omega) _).mono ?_
  rintro e w1 ⟨v, rfl, hN, hb1⟩
  replace hN := Lib.hid hN
  replace hb1 := Lib.hid hb1
  go_wp2_with fail
  refine (aw_f40 v _ _ hN.out (HC.out _ hb1.out)).mono ?_
  rintro e w2 ⟨rfl, hb2⟩
  replace hb2 := Lib.hid (bthen hb1.out hb2)
  clear hN hb1
  go_wp2_with fail
  have HK : Hid (∀ {W1 W2 : World}, Below W.heap.size W W1 → Below W1.heap.size W1 W2 → Below W.heap.size W W2) := fun h k => bthen h k
  have hb3 := hb2.out
  go_region_held3 (fun w' => Below W.heap.size W w')
    (first
      | exact hb3.drew
      | exact HK.out (by assumption) (by assumption))
    (first
      | (go_at_call 35; refine (example_any _ (by unfold I64; omega) _).mono ?_; rintro e w1 ⟨v1, rfl, hN1, hb1⟩)
      | (go_at_call 13; (first | (refine (aw_d40 _ _ _ (by assumption) (HC.out _ (by assumption))).mono ?_) | (refine (aw_d2 _ _ _ (by assumption) (HC.out _ (by assumption))).mono ?_)); rintro e w1 ⟨rfl, hb1⟩)
      | (go_at_call 17; (first | (with_reducible refine (aw_g2 _ _ _ (by assumption) (HC.out _ (by assumption))).mono ?_) | (with_reducible refine (aw_g1 _ _ _ _ (by assumption) (HC1.out _ (by assumption))).mono ?_)); rintro e w1 ⟨rfl, hb1⟩))
  go_wp2
  go_ret
  exact ⟨rfl, bthen hbw.out (by assumption)⟩
def fewN (N : Net) : Bool := (N.power.all fun xs => decide (xs.length ≤ 40)) && decide (N.power.length ≤ 8) && decide (N.links.length ≤ 60) && decide (N.margin.length ≤ 60)
def RowsShort (power : List (List Int)) (k : Nat) : Prop := ∀ j, j < k → decide (40 < (power.getD j default).length) = false
set_option maxRecDepth 100000 in
set_option maxHeartbeats 2000000 in
theorem few_any (N : Net) (v : NetV) (w : World) (hN : NetIs w v N) :
    Calls Try.prog 12 #[.agg #[.int .i64 N.nodes, .slice v.PA v.pn v.pc, .int .i64 N.noise, .int .i64 N.threshold, .slice v.LA v.ln v.lc, .slice v.MA v.mn v.mc]] w fun e w' => e = .returned (.bool (fewN N)) ∧ Below w.heap.size w w' := by
  have hln := hN.links.els.len
  have hmn := hN.margin.els.len
  have hpn := hN.power.len
  have hps := hN.power.small
  have HF : Hid (fewN N = ((N.power.all fun xs => decide (xs.length ≤ 40)) && decide (v.pn ≤ 8) && decide (v.ln ≤ 60) && decide (v.mn ≤ 60))) := by show _ = _; unfold fewN; rw [hln, hmn, hpn]
  generalize fewN N = F at *
  obtain ⟨nodes, power, noise, thr, links, margin⟩ := N
  obtain ⟨PA, pn, pc, LA, ln, lc, MA, mn, mc⟩ := v
  dsimp only at *
  unfold maxLen at hps
  have hbw := below_alloc w (.cells #[.int .i64 nodes, .slice PA pn pc, .int .i64 noise, .int .i64 thr, .slice LA ln lc, .slice MA mn mc] 26)
  have BX := Box.new w #[.int .i64 nodes, .slice PA pn pc, .int .i64 noise, .int .i64 thr, .slice LA ln lc, .slice MA mn mc] 26
  have kx := BX.at_
  replace hN := Lib.hid hN
  replace BX := Lib.hid BX
  replace hbw := Lib.hid hbw
  replace hln := Lib.hid hln
  replace hmn := Lib.hid hmn
  replace hpn := Lib.hid hpn
  go_enter Try.func12, Try.ntmps12
  go_wp2
  clear kx
  go_loopw [3] (fun i wr => ∃ k : Nat, k ≤ pn ∧ i = .int .i64 k ∧ Hid (RowsShort power k) ∧ wr = w.alloc (.cells #[.int .i64 nodes, .slice PA pn pc, .int .i64 noise, .int .i64 thr, .slice LA ln lc, .slice MA mn mc] 26)) (fun i _ => pn - (intOf i).toNat)
  case atStart => exact ⟨0, by omega, rfl, fun j hj => absurd hj (by omega), rfl⟩
  case round =>
    obtain ⟨k, hk, rfl, HP, rfl⟩ := hrel
    have kx := BX.out.at_
    by_cases hlt : k < pn
    · obtain ⟨b, off, rfl⟩ := hN.out.power.addr (show 0 < pn by omega)
      obtain ⟨xs, RA, rn, rc, he, hm, hc, hx⟩ := hN.out.power.elem (k := k) hlt
      dsimp only at he hm hc
      have hc' := all_below hbw.out (World.block_lt_of_cell? w ⟨b, off + k, none⟩ hc) hc
      have hxl := hx.els.len
      have hg : power.getD k default = xs := by rw [List.getD_eq_getElem?_getD, he]; rfl
      replace hx := Lib.hid hx
      clear hc
      replace he := Lib.hid he
      replace hg := Lib.hid hg
      replace hxl := Lib.hid hxl
      by_cases c1 : 40 < rn
      · have HR : Hid (F = false) := by
          show _ = _
          rw [HF.out]
          have : (power.all fun xs => decide (xs.length ≤ 40)) = false := by
            rw [List.all_eq_false]
            exact ⟨xs, hm, by rw [hxl.out]; simp; omega⟩
          rw [this]; rfl
        go_wp2
        go_ret
        exact ⟨by rw [HR.out]; rfl, hbw.out⟩
      · have HN : Hid (RowsShort power (k + 1)) := fun j hj => by
          by_cases e : j = k
          · rw [e, hg.out, hxl.out]; simpa using c1
          · exact HP.out j (by omega)
        go_wp2
        go_roundw
        case rel => exact ⟨k + 1, by omega, by go_num, HN, trivial⟩
        case measure => simp [intOf]; omega
    · have HA : (power.all fun xs => decide (xs.length ≤ 40)) = true := by
        rw [List.all_eq_true]
        intro x hx
        obtain ⟨j, hj, rfl⟩ := List.mem_iff_getElem.1 hx
        have := HP.out j (by have := hpn.out; omega)
        rw [List.getD_eq_getElem?_getD, List.getElem?_eq_getElem hj] at this
        simp at this
        simpa using this
      have HF2 := HF.out
      rw [HA] at HF2
      replace HF2 : Hid (F = (decide (pn ≤ 8) && decide (ln ≤ 60) && decide (mn ≤ 60))) := by show _ = _; rw [HF2]; simp
      clear HF HA
      by_cases c1 : pn ≤ 8
      · by_cases c2 : ln ≤ 60
        · have HR : Hid (F = decide ((mn : Int) ≤ 60)) := by
            show _ = _; rw [HF2.out, decide_eq_true c1, decide_eq_true c2]
            have : decide (mn ≤ 60) = decide ((mn : Int) ≤ 60) := by rw [decide_eq_decide]; omega
            rw [this]; rfl
          go_wp2
          go_ret
          exact ⟨by rw [HR.out]; rfl, hbw.out⟩
        · have HR : Hid (F = false) := by show _ = _; rw [HF2.out, decide_eq_false c2]; simp
          go_wp2
          go_ret
          exact ⟨by rw [HR.out]; rfl, hbw.out⟩
      · have HR : Hid (F = false) := by show _ = _; rw [HF2.out, decide_eq_false c1]; rfl
        go_wp2
        go_ret
        exact ⟨by rw [HR.out]; rfl, hbw.out⟩
end Nt
end Go.Proofs.Ythibgpgjioepfaa
