/- network.Hears, usable, Usable. -/
import Derived.Test.YthibgpgjioepfaaNetUse
namespace Go.Proofs.Ythibgpgjioepfaa
open Go Go.RowKit Go.Sort
namespace Nt
def mostS : Int := 8796093022208
def hearsN (N : Net) (s d : Int) : Bool := decide (check N = 0) && (decide (0 ≤ s) && decide (0 ≤ d)) && (decide (s ≤ mostS) && decide (d ≤ mostS)) && heardB N.threshold N.noise s d
theorem noise_ok {noise thr : Int} (h : badNoise noise thr = false) : (0 ≤ noise ∧ noise ≤ 68719476736) ∧ (1000 ≤ thr ∧ thr ≤ 100000) := by
  unfold badNoise at h; simp at h; omega
set_option maxRecDepth 100000 in
set_option maxHeartbeats 1000000 in
theorem Hears_any (N : Net) (v : NetV) (s d : Int) (w : World) (hN : NetIs w v N) :
    Calls Try.prog 18 #[.agg #[.int .i64 N.nodes, .slice v.PA v.pn v.pc, .int .i64 N.noise, .int .i64 N.threshold, .slice v.LA v.ln v.lc, .slice v.MA v.mn v.mc], .int .i64 s, .int .i64 d] w
      fun e w' => e = .returned (.bool (hearsN N s d)) ∧ Below w.heap.size w w' := by
  have BX := Box.new w #[.int .i64 N.nodes, .slice v.PA v.pn v.pc, .int .i64 N.noise, .int .i64 N.threshold, .slice v.LA v.ln v.lc, .slice v.MA v.mn v.mc] 26
  have hbw := below_alloc w (.cells #[.int .i64 N.nodes, .slice v.PA v.pn v.pc, .int .i64 N.noise, .int .i64 N.threshold, .slice v.LA v.ln v.lc, .slice v.MA v.mn v.mc] 26)
  have HC := check_any N v _ (hN.keep hbw)
  have HK := fun hc : check N = 0 => noise_ok (check_zero hc).2.2.2.1
  have HI : Hid (hearsN N s d = (decide (check N = 0) && (decide (0 ≤ s) && decide (0 ≤ d)) && (decide (s ≤ mostS) && decide (d ≤ mostS)) && heardB N.threshold N.noise s d)) := rfl
  replace HC := Lib.hid HC
  replace HK := Lib.hid HK
  replace hN := Lib.hid hN
  replace BX := Lib.hid BX
  replace hbw := Lib.hid hbw
  generalize check N = C at *
  generalize hearsN N s d = I at *
  obtain ⟨nodes, power, noise, thr, links, margin⟩ := N
  obtain ⟨PA, pn, pc, LA, ln, lc, MA, mn, mc⟩ := v
  dsimp only at *
  go_enter Try.func18, Try.ntmps18
  go_wp2_with fail
  refine HC.out.mono ?_
  rintro e w1 ⟨rfl, hb1⟩
  have BX1 := (BX.out.keep hb1).at_
  have hb2 := Lib.hid (bthen hbw.out hb1)
  clear hb1
  by_cases c : C = 0
  case neg =>
    have HI' : Hid (I = false) := by show _ = _; rw [HI.out]; simp [c]
    have d : (C != 0) = true := by rw [bne_iff_ne]; exact c
    replace c := Lib.hid c
    go_wp2
    go_ret
    exact ⟨by rw [HI'.out]; rfl, hb2.out⟩
  have dz : (C != 0) = false := by rw [c]; rfl
  have HI2 : Hid (I = ((decide (0 ≤ s) && decide (0 ≤ d)) && (decide (s ≤ mostS) && decide (d ≤ mostS)) && heardB thr noise s d)) := by show _ = _; rw [HI.out]; simp [c]
  have HK2 := HK.out c
  replace HK2 := Lib.hid HK2
  replace c := Lib.hid c
  by_cases c1 : min s d < 0
  case pos =>
    have HI' : Hid (I = false) := by
      show _ = _; rw [HI2.out]
      have : ¬ (0 ≤ s ∧ 0 ≤ d) := by omega
      by_cases h : 0 ≤ s
      · have : ¬ 0 ≤ d := by omega
        simp [this]
      · simp [h]
    have d1 : decide (min s d < 0) = true := by simpa using c1
    by_cases h : s ≤ d
    · have h3 : s < 0 := by omega
      clear c1 d1
      go_wp2
      all_goals first | (go_ret; exact ⟨by rw [HI'.out]; rfl, hb2.out⟩) | (exfalso; omega)
    · have h3 : d < 0 := by omega
      clear c1 d1
      go_wp2
      all_goals first | (go_ret; exact ⟨by rw [HI'.out]; rfl, hb2.out⟩) | (exfalso; omega)
  by_cases c2 : 8796093022208 < max s d
  case pos =>
    have HI' : Hid (I = false) := by
      show _ = _; rw [HI2.out]
      by_cases h : s ≤ mostS
      · have : ¬ d ≤ mostS := by unfold mostS at *; omega
        simp [this]
      · simp [h]
    by_cases h : s ≤ d
    · have h3 : 8796093022208 < d := by omega
      have h4 : ¬ s < 0 := by omega
      clear c1 c2
      go_wp2
      all_goals first | (go_ret; exact ⟨by rw [HI'.out]; rfl, hb2.out⟩) | (exfalso; omega)
    · have h3 : 8796093022208 < s := by omega
      have h4 : ¬ d < 0 := by omega
      clear c1 c2
      go_wp2
      all_goals first | (go_ret; exact ⟨by rw [HI'.out]; rfl, hb2.out⟩) | (exfalso; omega)
  have HI' : Hid (I = heardB thr noise s d) := by
    show _ = _; rw [HI2.out]
    have h1 : 0 ≤ s := by omega
    have h2 : 0 ≤ d := by omega
    have h3 : s ≤ mostS := by unfold mostS; omega
    have h4 : d ≤ mostS := by unfold mostS; omega
    simp [h1, h2, h3, h4]
  have s1 : 0 ≤ s := by omega
  have s2 : 0 ≤ d := by omega
  have s3 : s ≤ 8796093022208 := by omega
  have s4 : d ≤ 8796093022208 := by omega
  clear c1 c2
  go_wp2_with fail
  all_goals
    refine (hears_any nodes noise thr s d _ _ _ _ HK2.out.1 (by have := HK2.out.2; omega) ⟨s1, s3⟩ ⟨s2, s4⟩).mono ?_
    rintro e w2 ⟨rfl, hb3⟩
    go_wp2
    go_ret
    exact ⟨by rw [HI'.out]; rfl, bthen hb2.out hb3⟩
theorem getD_mem_or {α : Type} (xs : List α) (i : Nat) (d : α) : xs.getD i d = d ∨ xs.getD i d ∈ xs := by
  rw [List.getD_eq_getElem?_getD]
  cases h : xs[i]? with
  | none => exact .inl rfl
  | some x => exact .inr (List.mem_of_getElem? h)
theorem powerAt_bd {N : Net} (h : ∀ xs ∈ N.power, ∀ x ∈ xs, 0 ≤ x ∧ x ≤ 68719476736) (a b : Int) : 0 ≤ powerAt N a b ∧ powerAt N a b ≤ 68719476736 := by
  unfold powerAt
  rcases getD_mem_or (N.power.getD a.toNat []) b.toNat 0 with e | e
  · rw [e]; omega
  · rcases getD_mem_or N.power a.toNat [] with e2 | e2
    · rw [e2] at e; cases e
    · exact h _ e2 _ e
theorem margin_bd {N : Net} (h : check N = 0) {i : Nat} (hi : i < N.links.length) : 0 ≤ N.margin.getD i 0 ∧ N.margin.getD i 0 ≤ 68719476736 := by
  have hz := check_zero h
  have := (checkLink_zero (hz.2.2.2.2.2.2 i hi)).2.2
  have hp := powerAt_bd hz.2.2.1 (N.links.getD i default).frm (N.links.getD i default).to
  unfold badMargin at this
  simp only [Bool.or_eq_false_iff, decide_eq_false_iff_not] at this
  omega
/-- usable, of a valid network -/
def usableV (N : Net) (i : Nat) : Bool :=
  let b := findL N.links (N.links.getD i default).to (N.links.getD i default).frm
  decide (0 ≤ b) && heardB N.threshold N.noise (N.margin.getD i 0) 0 && heardB N.threshold N.noise (N.margin.getD b.toNat 0) 0
theorem idx_lt {α : Type} (p : α → Bool) (xs : List α) : idx p xs < xs.length ∧ -1 ≤ idx p xs := by
  unfold idx
  cases h : xs.findIdx? p with
  | none => simp only; omega
  | some i =>
    rw [List.findIdx?_eq_some_iff_getElem] at h
    obtain ⟨hi, _⟩ := h
    simp only; omega
end Nt
end Go.Proofs.Ythibgpgjioepfaa
