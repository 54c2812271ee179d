/- network.Check. -/
import Derived.Test.YthibgpgjioepfaaNetLink
namespace Go.Proofs.Ythibgpgjioepfaa
open Go Go.RowKit Go.Sort
namespace Nt
def badNodes (n : Int) : Bool := decide (n < 2) || decide (32 < n)
def badNoise (noise thr : Int) : Bool := decide (noise < 0) || decide (68719476736 < noise) || decide (thr < 1000) || decide (100000 < thr)
def linkFault (N : Net) : Int := (((List.range N.links.length).map (checkLink N)).find? (fun e => e != 0)).getD 0
def check (N : Net) : Int :=
  if badNodes N.nodes = true then 2 else if (checkPower N != 0) = true then checkPower N else if badNoise N.noise N.threshold = true then 2
  else if 128 < N.links.length then 8 else if ((N.margin.length : Int) != (N.links.length : Int)) = true then 11 else linkFault N
theorem checkPower_zero {N : Net} (h : checkPower N = 0) : Square N ∧ ∀ xs ∈ N.power, ∀ x ∈ xs, 0 ≤ x ∧ x ≤ 68719476736 := by
  unfold checkPower at h
  split at h
  · cases h
  split at h
  · cases h
  split at h
  · cases h
  rename_i h1 h2 h3
  simp only [bne_iff_ne, ne_eq, Decidable.not_not] at h1
  refine ⟨⟨h1, fun xs hx => ?_⟩, fun xs hx x hxx => ?_⟩
  · simp only [List.any_eq_true, not_exists, not_and] at h2
    have := h2 xs hx
    unfold badRow at this
    simpa using this
  · simp only [List.any_eq_true, not_exists, not_and] at h3
    have := h3 xs hx x hxx
    unfold outP at this
    simp at this
    omega
theorem linkFault_hit {N : Net} {k : Nat} (hk : k < N.links.length) (h : ∀ j, j < k → checkLink N j = 0) (hne : checkLink N k ≠ 0) : linkFault N = checkLink N k := by
  unfold linkFault
  have : ((List.range N.links.length).map (checkLink N)).find? (fun e => e != 0) = some (checkLink N k) := by
    rw [List.find?_eq_some_iff_getElem]
    refine ⟨by simpa using hne, k, by simpa using hk, by simp, fun j hj => ?_⟩
    simp [h j hj]
  rw [this]; rfl
theorem linkFault_none {N : Net} (h : ∀ j, j < N.links.length → checkLink N j = 0) : linkFault N = 0 := by
  unfold linkFault
  have : ((List.range N.links.length).map (checkLink N)).find? (fun e => e != 0) = none := by
    rw [List.find?_eq_none]
    intro x hx
    rw [List.mem_map] at hx
    obtain ⟨j, hj, rfl⟩ := hx
    simp [h j (by simpa using hj)]
  rw [this]; rfl
set_option maxRecDepth 100000 in
set_option maxHeartbeats 1000000 in
theorem check_any (N : Net) (v : NetV) (w : World) (hN : NetIs w v N) :
    Calls Try.prog 15 #[.agg #[.int .i64 N.nodes, .slice v.PA v.pn v.pc, .int .i64 N.noise, .int .i64 N.threshold, .slice v.LA v.ln v.lc, .slice v.MA v.mn v.mc]] w
      fun e w' => e = .returned (.int .i64 (check N)) ∧ Below w.heap.size w w' := by
  obtain ⟨nodes, power, noise, thr, links, margin⟩ := N
  obtain ⟨PA, pn, pc, LA, ln, lc, MA, mn, mc⟩ := v
  have hln := hN.links.els.len
  have hmn := hN.margin.els.len
  have hsl := hN.links.els.small
  have hsm := hN.margin.els.small
  dsimp only at hln hmn hsl hsm ⊢
  unfold maxLen at hsl hsm
  replace hN := Lib.hid hN
  by_cases c1 : badNodes nodes = true
  case pos =>
    have HR : Hid (check ⟨nodes, power, noise, thr, links, margin⟩ = 2) := by show _ = _; unfold check; dsimp only; rw [if_pos c1]
    have c1 : nodes < 2 ∨ (¬ nodes < 2 ∧ 32 < nodes) := by unfold badNodes at c1; simp at c1; omega
    rcases c1 with c1 | ⟨c1, c2⟩
    all_goals
      go_enter Try.func15, Try.ntmps15
      go_wp2
      go_ret
      exact ⟨by rw [HR.out]; rfl, below_alloc _ _⟩
  have d1 : ¬ nodes < 2 ∧ ¬ 32 < nodes := by unfold badNodes at c1; simp at c1; omega
  obtain ⟨d1, d2⟩ := d1
  replace c1 := Lib.hid c1
  replace hln := Lib.hid hln
  replace hmn := Lib.hid hmn
  have BX := Box.new w #[.int .i64 nodes, .slice PA pn pc, .int .i64 noise, .int .i64 thr, .slice LA ln lc, .slice MA mn mc] 26
  have hbw := below_alloc w (.cells #[.int .i64 nodes, .slice PA pn pc, .int .i64 noise, .int .i64 thr, .slice LA ln lc, .slice MA mn mc] 26)
  go_enter Try.func15, Try.ntmps15
  have N1 := Lib.hid (hN.out.keep hbw)
  replace BX := Lib.hid BX
  replace hbw := Lib.hid hbw
  go_wp2_with fail
  refine (checkPower_any ⟨nodes, power, noise, thr, links, margin⟩ ⟨PA, pn, pc, LA, ln, lc, MA, mn, mc⟩ _ N1.out).mono ?_
  rintro e w1 ⟨rfl, hb1⟩
  have BX1 := Lib.hid (BX.out.keep hb1)
  have hbw1 := Lib.hid (bthen hbw.out hb1)
  clear hb1 N1 BX hbw
  by_cases c2 : (checkPower ⟨nodes, power, noise, thr, links, margin⟩ != 0) = true
  case pos =>
    have HR : Hid (check ⟨nodes, power, noise, thr, links, margin⟩ = checkPower ⟨nodes, power, noise, thr, links, margin⟩) := by show _ = _; unfold check; dsimp only; rw [if_neg c1.out, if_pos c2]
    generalize checkPower ⟨nodes, power, noise, thr, links, margin⟩ = E at *
    go_wp2
    go_ret
    exact ⟨by rw [HR.out]; rfl, hbw1.out⟩
  have hz : checkPower ⟨nodes, power, noise, thr, links, margin⟩ = 0 := by simpa using c2
  have hsq := (checkPower_zero hz).1
  rw [hz]
  replace c2 := Lib.hid c2
  replace hz := Lib.hid hz
  replace hsq := Lib.hid hsq
  have kx := BX1.out.at_
  by_cases c3 : badNoise noise thr = true
  case pos =>
    have HR : Hid (check ⟨nodes, power, noise, thr, links, margin⟩ = 2) := by show _ = _; unfold check; dsimp only; rw [if_neg c1.out, if_neg c2.out, if_pos c3]
    have c3 : noise < 0 ∨ (¬ noise < 0 ∧ 68719476736 < noise) ∨ (¬ noise < 0 ∧ ¬ 68719476736 < noise ∧ thr < 1000) ∨ (¬ noise < 0 ∧ ¬ 68719476736 < noise ∧ ¬ thr < 1000 ∧ 100000 < thr) := by unfold badNoise at c3; simp at c3; omega
    rcases c3 with c3 | ⟨c3, c4⟩ | ⟨c3, c4, c5⟩ | ⟨c3, c4, c5, c6⟩
    all_goals
      go_wp2
      go_ret
      exact ⟨by rw [HR.out]; rfl, hbw1.out⟩
  have d3 : ¬ noise < 0 ∧ ¬ 68719476736 < noise ∧ ¬ thr < 1000 ∧ ¬ 100000 < thr := by unfold badNoise at c3; simp at c3; omega
  obtain ⟨d3, d4, d5, d6⟩ := d3
  replace c3 := Lib.hid c3
  by_cases c4 : 128 < ln
  case pos =>
    have HR : Hid (check ⟨nodes, power, noise, thr, links, margin⟩ = 8) := by show _ = _; unfold check; dsimp only; rw [if_neg c1.out, if_neg c2.out, if_neg c3.out, if_pos (by rw [hln.out]; exact c4)]
    go_wp2
    go_ret
    exact ⟨by rw [HR.out]; rfl, hbw1.out⟩
  by_cases c5 : ((mn : Int) != (ln : Int)) = true
  case pos =>
    have HR : Hid (check ⟨nodes, power, noise, thr, links, margin⟩ = 11) := by show _ = _; unfold check; dsimp only; rw [if_neg c1.out, if_neg c2.out, if_neg c3.out, if_neg (by rw [hln.out]; exact c4), if_pos (by rw [hln.out, hmn.out]; exact c5)]
    go_wp2
    go_ret
    exact ⟨by rw [HR.out]; rfl, hbw1.out⟩
  have c5' : ((mn : Int) != (ln : Int)) = false := by simpa using c5
  have hml : margin.length = links.length := by rw [hln.out, hmn.out]; simp at c5; omega
  have HR : Hid (check ⟨nodes, power, noise, thr, links, margin⟩ = linkFault ⟨nodes, power, noise, thr, links, margin⟩) := by
    show _ = _; unfold check; dsimp only; rw [if_neg c1.out, if_neg c2.out, if_neg c3.out, if_neg (by rw [hln.out]; exact c4), if_neg (by rw [hln.out, hmn.out]; exact c5)]
  replace hml := Lib.hid hml
  replace c5 := Lib.hid c5
  go_wp2
  clear d1 d2 d3 d4 d5 d6 c5' kx
  go_loopw [54] (fun i wr => ∃ k : Nat, k ≤ ln ∧ i = .int .i64 k ∧ Hid (∀ j, j < k → checkLink ⟨nodes, power, noise, thr, links, margin⟩ j = 0) ∧ Hid (Below w.heap.size w wr) ∧ Hid (Box wr w.heap.size #[.int .i64 nodes, .slice PA pn pc, .int .i64 noise, .int .i64 thr, .slice LA ln lc, .slice MA mn mc])) (fun i _ => ln - (intOf i).toNat)
  case atStart => exact ⟨0, by omega, rfl, fun j hj => absurd hj (by omega), hbw1, BX1⟩
  case round =>
    obtain ⟨k, hk, rfl, HP, HB, HX⟩ := hrel
    clear hbw1 BX1
    by_cases hlt : k < ln
    · have kx := HX.out.at_
      go_wp2_with fail
      refine (checkLink_any ⟨nodes, power, noise, thr, links, margin⟩ ⟨PA, pn, pc, LA, ln, lc, MA, mn, mc⟩ k _ (hN.out.keep HB.out) (by show k < links.length; rw [hln.out]; exact hlt) hml.out hsq.out).mono ?_
      rintro e w2 ⟨rfl, hb2⟩
      have HB2 := Lib.hid (bthen HB.out hb2)
      have HX2 := Lib.hid (HX.out.keep hb2)
      clear hb2 kx
      by_cases c6 : (checkLink ⟨nodes, power, noise, thr, links, margin⟩ k != 0) = true
      · have HF : Hid (linkFault ⟨nodes, power, noise, thr, links, margin⟩ = checkLink ⟨nodes, power, noise, thr, links, margin⟩ k) := linkFault_hit (by show k < links.length; rw [hln.out]; exact hlt) HP.out (by simpa using c6)
        generalize checkLink ⟨nodes, power, noise, thr, links, margin⟩ k = E at *
        go_wp2
        go_ret
        exact ⟨by rw [HR.out, HF.out]; rfl, HB2.out⟩
      · have hz2 : checkLink ⟨nodes, power, noise, thr, links, margin⟩ k = 0 := by simpa using c6
        have HN : Hid (∀ j, j < k + 1 → checkLink ⟨nodes, power, noise, thr, links, margin⟩ j = 0) := fun j hj => by
          by_cases e : j = k
          · subst e; exact hz2
          · exact HP.out j (by omega)
        rw [hz2]
        clear c6 hz2
        go_wp2
        go_roundw
        case rel => exact ⟨k + 1, by omega, by go_num, HN, HB2, HX2⟩
        case measure => simp [intOf]; omega
    · have HF : Hid (linkFault ⟨nodes, power, noise, thr, links, margin⟩ = 0) := linkFault_none (fun j hj => HP.out j (by have := hln.out; dsimp only at hj; omega))
      go_wp2
      go_ret
      exact ⟨by rw [HR.out, HF.out]; rfl, HB.out⟩
end Nt
end Go.Proofs.Ythibgpgjioepfaa
