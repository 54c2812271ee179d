/- slices.BinarySearchFunc over links, network.find, Index, hears, Hears, usable, Usable. -/
import Derived.Test.YthibgpgjioepfaaNetChk
namespace Go.Proofs.Ythibgpgjioepfaa
open Go Go.RowKit Go.Sort
namespace Nt
theorem cmpL_neg (a b : Lnk) : cmpL a b < 0 ↔ a.frm < b.frm ∨ (a.frm = b.frm ∧ a.to < b.to) := by
  unfold cmpL orI cmpI
  by_cases h1 : a.frm < b.frm
  · simp [h1]
  · by_cases h2 : b.frm < a.frm
    · simp [h1, h2]; omega
    · simp only [h1, h2, if_false, if_true]
      by_cases h3 : a.to < b.to
      · simp [h3]; omega
      · by_cases h4 : b.to < a.to
        · simp [h3, h4]
        · simp [h3, h4]
theorem cmpL_zero (a b : Lnk) : cmpL a b = 0 ↔ a.frm = b.frm ∧ a.to = b.to := by
  unfold cmpL orI cmpI
  by_cases h1 : a.frm < b.frm
  · simp [h1]; omega
  · by_cases h2 : b.frm < a.frm
    · simp [h1, h2]; omega
    · simp only [h1, h2, if_false, if_true]
      by_cases h3 : a.to < b.to
      · simp [h3]; omega
      · by_cases h4 : b.to < a.to
        · simp [h3, h4]; omega
        · simp [h3, h4]; omega
def Asc (ls : List Lnk) : Prop := ∀ i j, i < j → j < ls.length → cmpL (ls.getD i default) (ls.getD j default) < 0
theorem asc_of {ls : List Lnk} (h : ∀ i, 0 < i → i < ls.length → cmpL (ls.getD (i - 1) default) (ls.getD i default) < 0) : Asc ls := by
  intro i j hij
  induction j with
  | zero => omega
  | succ j ih =>
    intro hj
    have h1 := h (j + 1) (by omega) hj
    rw [show j + 1 - 1 = j by omega] at h1
    by_cases c : i = j
    · subst c; exact h1
    · have h2 := ih (by omega) (by omega)
      rw [cmpL_neg] at *
      omega
theorem check_zero {N : Net} (h : check N = 0) : badNodes N.nodes = false ∧ Square N ∧ (∀ xs ∈ N.power, ∀ x ∈ xs, 0 ≤ x ∧ x ≤ 68719476736) ∧ badNoise N.noise N.threshold = false ∧ N.links.length ≤ 128 ∧ N.margin.length = N.links.length ∧ ∀ i, i < N.links.length → checkLink N i = 0 := by
  unfold check at h
  split at h
  · cases h
  rename_i h1
  split at h
  · rename_i h2; rw [h] at h2; cases h2
  rename_i h2
  split at h
  · cases h
  rename_i h3
  split at h
  · cases h
  rename_i h4
  split at h
  · cases h
  rename_i h5
  have hz : checkPower N = 0 := by simpa using h2
  obtain ⟨s1, s2⟩ := checkPower_zero hz
  refine ⟨by simpa using h1, s1, s2, by simpa using h3, by omega, ?_, fun i hi => ?_⟩
  · simp at h5; omega
  · refine Decidable.byContradiction fun hne => ?_
    have : linkFault N ≠ 0 := by
      unfold linkFault
      cases hf : ((List.range N.links.length).map (checkLink N)).find? (fun e => e != 0) with
      | none =>
        rw [List.find?_eq_none] at hf
        exact absurd (hf (checkLink N i) (List.mem_map.2 ⟨i, by simpa using hi, rfl⟩)) (by simpa using hne)
      | some x =>
        have := List.find?_some hf
        simpa using this
    exact this h
theorem checkLink_zero {N : Net} {i : Nat} (h : checkLink N i = 0) : badEnds N (N.links.getD i default) = false ∧ badOrder N i = false ∧ badMargin N i = false := by
  unfold checkLink at h
  split at h
  · cases h
  split at h
  · cases h
  split at h
  · cases h
  rename_i h1 h2 h3
  exact ⟨by simpa using h1, by simpa using h2, by simpa using h3⟩
theorem check_asc {N : Net} (h : check N = 0) : Asc N.links := by
  refine asc_of fun i h0 hi => ?_
  have := (checkLink_zero ((check_zero h).2.2.2.2.2.2 i hi)).2.1
  unfold badOrder at this
  simp [h0] at this
  exact this
/-- what a binary search says -/
structure BS (ls : List Lnk) (x : Lnk) (i : Nat) (f : Bool) : Prop where
  le : i ≤ ls.length
  below : ∀ j, j < i → cmpL (ls.getD j default) x < 0
  above : ∀ j, i ≤ j → j < ls.length → 0 ≤ cmpL (ls.getD j default) x
  found : f = (decide (i < ls.length) && decide (cmpL (ls.getD i default) x = 0))
def BSPost (ls : List Lnk) (x : Lnk) (w : World) (e : Ending) (w' : World) : Prop := ∃ i f, BS ls x i f ∧ e = .returned (.tuple #[.int .i64 (i : Int), .bool f]) ∧ Below w.heap.size w w'
theorem mid_lt {i j : Nat} (h : i < j) : i ≤ (i + j) / 2 ∧ (i + j) / 2 < j := by omega
set_option maxRecDepth 100000 in
set_option maxHeartbeats 1000000 in
theorem search_any (A : Option Addr) (n c : Nat) (ls : List Lnk) (x : Lnk) (w : World) (hs : LnkS w A n ls) (ha : Asc ls) (hn : n ≤ 1000) :
    Calls Try.prog 71 #[.slice A n c, .agg #[.int .i64 x.frm, .int .i64 x.to, .int .i64 x.loss], .func (.func 70) #[] #[]] w (BSPost ls x w) := by
  obtain ⟨x0, x1, x2⟩ := x
  dsimp only
  have hln := hs.els.len
  replace hln := Lib.hid hln
  have BX := Box.new w #[.int .i64 x0, .int .i64 x1, .int .i64 x2] 44
  have hbw := below_alloc w (.cells #[.int .i64 x0, .int .i64 x1, .int .i64 x2] 44)
  replace hs := Lib.hid hs
  replace ha := Lib.hid ha
  go_enter Try.func71, Try.ntmps71
  replace BX := Lib.hid BX
  replace hbw := Lib.hid hbw
  go_wp2
  go_loopw [9, 10] (fun i j wr => ∃ i' j' : Nat, i' ≤ j' ∧ j' ≤ n ∧ i = .int .i64 i' ∧ j = .int .i64 j' ∧ Hid (∀ k, k < i' → cmpL (ls.getD k default) ⟨x0, x1, x2⟩ < 0) ∧ Hid (∀ k, j' ≤ k → k < n → 0 ≤ cmpL (ls.getD k default) ⟨x0, x1, x2⟩) ∧ Hid (Below w.heap.size w wr) ∧ Hid (Box wr w.heap.size #[.int .i64 x0, .int .i64 x1, .int .i64 x2])) (fun i j _ => (intOf j).toNat - (intOf i).toNat)
  case atStart => exact ⟨0, n, by omega, by omega, rfl, rfl, fun k hk => absurd hk (by omega), fun k h1 h2 => absurd h2 (by omega), hbw, BX⟩
  case round =>
    obtain ⟨i, j, hij, hjn, rfl, rfl, HL, HG, HB, HX⟩ := hrel
    clear hbw BX
    by_cases hlt : i < j
    · obtain ⟨m, hm⟩ : ∃ m : Nat, m = (i + j) / 2 := ⟨_, rfl⟩
      obtain ⟨hm1, hm2⟩ := mid_lt hlt
      rw [← hm] at hm1 hm2
      have q0 : ((i : Int) + (j : Int)) / 2 = (m : Int) := by omega
      replace hm := Lib.hid hm
      obtain ⟨b, off, rfl⟩ := hs.out.els.addr (by omega)
      have hmn : m < n := by omega
      obtain ⟨⟨e0, e1, e2⟩, hl, hlm, p0, p1, p2⟩ := (hs.out.keep HB.out).elem (k := m) hmn
      dsimp only at p0 p1 p2
      have hl' : ls.getD m default = ⟨e0, e1, e2⟩ := by rw [List.getD_eq_getElem?_getD, hl]; rfl
      replace hl := Lib.hid hl
      replace hlm := Lib.hid hlm
      replace hl' := Lib.hid hl'
      go_wp2_with fail
      clear q0
      have g0 := cell_regrown p0
      have g1 := cell_regrown p1
      have g2 := cell_regrown p2
      have gx := HX.out.grown
      have r1 : (m : Int) < (n : Int) := by omega
      have cs : ∀ d os, Calls Try.prog 70 #[.agg #[.int .i64 e0, .int .i64 e1, .int .i64 e2], .agg #[.int .i64 x0, .int .i64 x1, .int .i64 x2]] (grow (redrawn wr d) os) fun e w'' => e = .returned (.int .i64 (cmpL ⟨e0, e1, e2⟩ ⟨x0, x1, x2⟩)) ∧ ∃ p : Regrown, w'' = grow (redrawn wr p.d) p.os :=
        fun d os => Calls.regrown_of (compare_any ⟨e0, e1, e2⟩ ⟨x0, x1, x2⟩ _)
      replace cs := Lib.hid cs
      clear p0 p1 p2
      refine wp_region_quiet_below (by kernel_rfl) (by kernel_rfl) ?_
      repeat (go_big_quiet_step (exact cs.out _ _))
      refine wpQuiet_nil ?_
      rintro _ ⟨⟨dq, osq⟩, rfl⟩
      have HX2 := Lib.hid (HX.out.keep (below_regrown wr dq osq))
      have HB2 := Lib.hid (bthen HB.out (below_regrown wr dq osq))
      generalize grow (redrawn wr dq) osq = w4 at *
      clear g0 g1 g2 gx r1
      by_cases c : cmpL ⟨e0, e1, e2⟩ ⟨x0, x1, x2⟩ < 0
      · have HL2 : Hid (∀ k, k < m + 1 → cmpL (ls.getD k default) ⟨x0, x1, x2⟩ < 0) := fun k hk => by
          by_cases e : k = m
          · subst e; rw [hl'.out]; exact c
          · have h1 := ha.out k m (by omega) (by have := hln.out; omega)
            rw [hl'.out] at h1
            rw [cmpL_neg] at *
            dsimp only at *
            omega
        go_wp2
        go_roundw
        case rel => exact ⟨m + 1, j, by omega, by omega, by go_num, rfl, HL2, HG, HB2, HX2⟩
        case measure => simp [intOf]; omega
      · have HG2 : Hid (∀ k, m ≤ k → k < n → 0 ≤ cmpL (ls.getD k default) ⟨x0, x1, x2⟩) := fun k h1 h2 => by
          by_cases e : k = m
          · subst e; rw [hl'.out]; omega
          · refine Decidable.byContradiction fun hn => ?_
            have h1 := ha.out m k (by omega) (by have := hln.out; omega)
            rw [hl'.out] at h1
            have h3 : cmpL (ls.getD k default) ⟨x0, x1, x2⟩ < 0 := by omega
            apply c
            rw [cmpL_neg] at *
            dsimp only at *
            omega
        go_wp2
        go_roundw
        case rel => exact ⟨i, m, by omega, by omega, rfl, rfl, HL, HG2, HB2, HX2⟩
        case measure => simp [intOf]; omega
    · have e : j = i := by omega
      subst e
      by_cases hin : j < n
      · obtain ⟨b, off, rfl⟩ := hs.out.els.addr (by omega)
        obtain ⟨⟨e0, e1, e2⟩, hl, hlm, p0, p1, p2⟩ := (hs.out.keep HB.out).elem (k := j) hin
        dsimp only at p0 p1 p2
        have hl' : ls.getD j default = ⟨e0, e1, e2⟩ := by rw [List.getD_eq_getElem?_getD, hl]; rfl
        replace hl := Lib.hid hl
        replace hlm := Lib.hid hlm
        replace hl' := Lib.hid hl'
        go_wp2_with fail
        have g0 := cell_regrown p0
        have g1 := cell_regrown p1
        have g2 := cell_regrown p2
        have gx := HX.out.grown
        have r1 : (j : Int) < (n : Int) := by omega
        have r2 : decide ((j : Int) < (n : Int)) = true := by simpa using r1
        have cs : ∀ d os, Calls Try.prog 70 #[.agg #[.int .i64 e0, .int .i64 e1, .int .i64 e2], .agg #[.int .i64 x0, .int .i64 x1, .int .i64 x2]] (grow (redrawn wr d) os) fun e w'' => e = .returned (.int .i64 (cmpL ⟨e0, e1, e2⟩ ⟨x0, x1, x2⟩)) ∧ ∃ p : Regrown, w'' = grow (redrawn wr p.d) p.os :=
          fun d os => Calls.regrown_of (compare_any ⟨e0, e1, e2⟩ ⟨x0, x1, x2⟩ _)
        replace cs := Lib.hid cs
        clear p0 p1 p2
        refine wp_region_quiet_below (by kernel_rfl) (by kernel_rfl) ?_
        repeat (go_big_quiet_step (exact cs.out _ _))
        refine wpQuiet_nil ?_
        rintro _ ⟨⟨dq, osq⟩, rfl⟩
        have HB2 := Lib.hid (bthen HB.out (below_regrown wr dq osq))
        generalize grow (redrawn wr dq) osq = w4 at *
        clear g0 g1 g2 gx r1 r2
        have HS : Hid (BS ls ⟨x0, x1, x2⟩ j (cmpL ⟨e0, e1, e2⟩ ⟨x0, x1, x2⟩ == 0)) := by
          refine ⟨by have := hln.out; omega, HL.out, fun k h1 h2 => HG.out k h1 (by have := hln.out; omega), ?_⟩
          have : j < ls.length := by have := hln.out; omega
          rw [hl'.out]; simp [this]; rfl
        go_wp2
        refine bodyPost_ret (v := .tuple #[.int .i64 (j : Int), .bool (cmpL ⟨e0, e1, e2⟩ ⟨x0, x1, x2⟩ == 0)]) (by simp [results, Try.results71, go_sem]) rfl ⟨j, _, HS.out, rfl, HB2.out⟩
      · have r2 : decide ((j : Int) < (n : Int)) = false := by rw [decide_eq_false_iff_not]; omega
        have r3 : decide (j < n) = false := by rw [decide_eq_false_iff_not]; omega
        have gx := HX.out.grown
        go_wp2_with fail
        refine wp_region_quiet_below (by kernel_rfl) (by kernel_rfl) ?_
        repeat (go_big_quiet_step (fail))
        refine wpQuiet_nil ?_
        rintro _ ⟨⟨dq, osq⟩, rfl⟩
        have HB2 := Lib.hid (bthen HB.out (below_regrown wr dq osq))
        generalize grow (redrawn wr dq) osq = w4 at *
        clear gx r2 r3
        have HS : Hid (BS ls ⟨x0, x1, x2⟩ j false) := by
          refine ⟨by have := hln.out; omega, HL.out, fun k h1 h2 => HG.out k h1 (by have := hln.out; omega), ?_⟩
          have : ¬ j < ls.length := by have := hln.out; omega
          simp [this]
        go_wp2
        refine bodyPost_ret (v := .tuple #[.int .i64 (j : Int), .bool false]) (by simp [results, Try.results71, go_sem]) rfl ⟨j, _, HS.out, rfl, HB2.out⟩
end Nt
end Go.Proofs.Ythibgpgjioepfaa
