/- network.find, Index, hears, Hears, usable, Usable. -/
import Derived.Test.YthibgpgjioepfaaNetFind
namespace Go.Proofs.Ythibgpgjioepfaa
open Go Go.RowKit Go.Sort
namespace Nt
def findL (ls : List Lnk) (f t : Int) : Int := idx (fun l : Lnk => l.frm == f && l.to == t) ls
theorem findL_of {ls : List Lnk} {f t : Int} {i : Nat} {b : Bool} (ha : Asc ls) (h : BS ls ⟨f, t, 0⟩ i b) : findL ls f t = if b = true then (i : Int) else -1 := by
  have hm : ∀ l : Lnk, (l.frm == f && l.to == t) = true ↔ cmpL l ⟨f, t, 0⟩ = 0 := fun l => by
    rw [cmpL_zero]; simp
  have hf := h.found
  unfold findL
  cases b with
  | true =>
    rw [if_pos rfl]
    have h2 : i < ls.length ∧ cmpL (ls.getD i default) ⟨f, t, 0⟩ = 0 := by
      have := hf.symm; simpa using this
    refine idx_hit (x := ls.getD i default) ?_ ((hm _).2 h2.2) fun j hj => ?_
    · rw [List.getD_eq_getElem?_getD, List.getElem?_eq_getElem h2.1]; rfl
    · have := h.below j hj
      cases hc : (ls.getD j default).frm == f && (ls.getD j default).to == t with
      | false => rfl
      | true => have := (hm _).1 hc; omega
  | false =>
    rw [if_neg (by decide)]
    refine idx_miss (n := ls.length) (Nat.le_refl _) fun j hj => ?_
    cases hc : (ls.getD j default).frm == f && (ls.getD j default).to == t with
    | false => rfl
    | true =>
      have h0 := (hm _).1 hc
      by_cases c : j < i
      · have := h.below j c; omega
      · by_cases e : j = i
        · subst e
          have : (decide (j < ls.length) && decide (cmpL (ls.getD j default) ⟨f, t, 0⟩ = 0)) = true := by rw [decide_eq_true hj, decide_eq_true h0]; rfl
          rw [← hf] at this; cases this
        · have h1 := ha i j (by omega) hj
          have h2 := h.above i (Nat.le_refl _) (by omega)
          have h3 : cmpL (ls.getD i default) ⟨f, t, 0⟩ < 0 := by
            rw [cmpL_zero] at h0
            rw [cmpL_neg] at *
            dsimp only at *
            omega
          omega
set_option maxRecDepth 100000 in
set_option maxHeartbeats 1000000 in
theorem find_any (N : Net) (v : NetV) (f t : Int) (w : World) (hN : NetIs w v N) (ha : Asc N.links) (hn : N.links.length ≤ 1000) :
    Calls Try.prog 45 #[.agg #[.int .i64 N.nodes, .slice v.PA v.pn v.pc, .int .i64 N.noise, .int .i64 N.threshold, .slice v.LA v.ln v.lc, .slice v.MA v.mn v.mc], .int .i64 f, .int .i64 t] w
      fun e w' => e = .returned (.int .i64 (findL N.links f t)) ∧ Below w.heap.size w w' := by
  obtain ⟨nodes, power, noise, thr, links, margin⟩ := N
  obtain ⟨PA, pn, pc, LA, ln, lc, MA, mn, mc⟩ := v
  have hln := hN.links.els.len
  dsimp only at hln hn ha ⊢
  have HS := search_any LA ln lc links ⟨f, t, 0⟩ _ (hN.links.keep (below_alloc w (.cells #[.int .i64 nodes, .slice PA pn pc, .int .i64 noise, .int .i64 thr, .slice LA ln lc, .slice MA mn mc] 26))) ha (by omega)
  replace HS := Lib.hid HS
  replace hN := Lib.hid hN
  replace ha := Lib.hid ha
  replace hln := Lib.hid hln
  go_enter Try.func45, Try.ntmps45
  go_wp2_with fail
  refine HS.out.mono ?_
  rintro e w1 ⟨i, b, hb, rfl, hb1⟩
  have HF := findL_of ha.out hb
  replace hb := Lib.hid hb
  replace hb1 := Lib.hid (box_below hb1)
  cases b with
  | true =>
    rw [if_pos rfl] at HF
    replace HF := Lib.hid HF
    go_wp2
    go_ret
    exact ⟨by rw [HF.out]; rfl, hb1.out⟩
  | false =>
    rw [if_neg (by decide)] at HF
    replace HF := Lib.hid HF
    go_wp2
    go_ret
    exact ⟨by rw [HF.out]; rfl, hb1.out⟩
def indexN (N : Net) (f t : Int) : Int := if check N = 0 then findL N.links f t else -1
set_option maxRecDepth 100000 in
set_option maxHeartbeats 1000000 in
theorem index_any (N : Net) (v : NetV) (f t : Int) (w : World) (hN : NetIs w v N) :
    Calls Try.prog 16 #[.agg #[.int .i64 N.nodes, .slice v.PA v.pn v.pc, .int .i64 N.noise, .int .i64 N.threshold, .slice v.LA v.ln v.lc, .slice v.MA v.mn v.mc], .int .i64 f, .int .i64 t] w
      fun e w' => e = .returned (.int .i64 (indexN N f t)) ∧ Below w.heap.size w w' := by
  have BX := Box.new w #[.int .i64 N.nodes, .slice v.PA v.pn v.pc, .int .i64 N.noise, .int .i64 N.threshold, .slice v.LA v.ln v.lc, .slice v.MA v.mn v.mc] 26
  have hbw := below_alloc w (.cells #[.int .i64 N.nodes, .slice v.PA v.pn v.pc, .int .i64 N.noise, .int .i64 N.threshold, .slice v.LA v.ln v.lc, .slice v.MA v.mn v.mc] 26)
  have HC := check_any N v _ (hN.keep hbw)
  have HF := fun W (h : NetIs W v N) (hc : check N = 0) => find_any N v f t W h (check_asc hc) (by have := (check_zero hc).2.2.2.2.1; omega)
  have HI : Hid (indexN N f t = if check N = 0 then findL N.links f t else -1) := rfl
  replace HC := Lib.hid HC
  replace HF := Lib.hid HF
  replace hN := Lib.hid hN
  replace BX := Lib.hid BX
  replace hbw := Lib.hid hbw
  generalize check N = C at *
  generalize indexN N f t = I at *
  generalize findL N.links f t = FL at *
  obtain ⟨nodes, power, noise, thr, links, margin⟩ := N
  obtain ⟨PA, pn, pc, LA, ln, lc, MA, mn, mc⟩ := v
  dsimp only at *
  go_enter Try.func16, Try.ntmps16
  go_wp2_with fail
  refine HC.out.mono ?_
  rintro e w1 ⟨rfl, hb1⟩
  have BX1 := (BX.out.keep hb1).at_
  have hb2 := Lib.hid (bthen hbw.out hb1)
  have N1 := Lib.hid (hN.out.keep (bthen hbw.out hb1))
  clear hb1
  by_cases c : C = 0
  · have HI' : Hid (I = FL) := by show _ = _; rw [HI.out, if_pos c]
    have d : (C != 0) = false := by rw [c]; rfl
    have HF' := Lib.hid (HF.out _ N1.out c)
    replace c := Lib.hid c
    go_wp2_with fail
    refine HF'.out.mono ?_
    rintro e w2 ⟨rfl, hb3⟩
    go_wp2
    go_ret
    exact ⟨by rw [HI'.out]; rfl, bthen hb2.out hb3⟩
  · have HI' : Hid (I = -1) := by show _ = _; rw [HI.out, if_neg c]
    have d : (C != 0) = true := by rw [bne_iff_ne]; exact c
    replace c := Lib.hid c
    go_wp2
    go_ret
    exact ⟨by rw [HI'.out]; rfl, hb2.out⟩
def heardB (thr noise s d : Int) : Bool := decide (thr * (noise + d) ≤ s * 1000)
theorem prod_fit (thr a : Int) (h1 : 0 ≤ thr) (h2 : thr ≤ 100000) (h3 : 0 ≤ a) (h4 : a ≤ 17592186044416) : 0 ≤ thr * a ∧ thr * a ≤ 1759218604441600000 := by
  constructor
  · exact Int.mul_nonneg h1 h3
  · have := Int.mul_le_mul h2 h4 h3 (by omega)
    omega
set_option maxRecDepth 100000 in
set_option maxHeartbeats 1000000 in
theorem hears_any (nodes noise thr s d : Int) (PA LA MA : Value) (w : World) (hn : 0 ≤ noise ∧ noise ≤ 68719476736) (ht : 0 ≤ thr ∧ thr ≤ 100000) (hs : 0 ≤ s ∧ s ≤ 8796093022208) (hd : 0 ≤ d ∧ d ≤ 8796093022208) :
    Calls Try.prog 46 #[.agg #[.int .i64 nodes, PA, .int .i64 noise, .int .i64 thr, LA, MA], .int .i64 s, .int .i64 d] w
      fun e w' => e = .returned (.bool (heardB thr noise s d)) ∧ Below w.heap.size w w' := by
  have hp := prod_fit thr (noise + d) ht.1 ht.2 (by omega) (by omega)
  have hw : IntKind.i64.wrap (thr * (noise + d)) = thr * (noise + d) := IntWalk.i64_in _ (by omega)
  replace hp := Lib.hid hp
  go_enter Try.func46, Try.ntmps46
  go_wp2
  go_ret
  exact ⟨rfl, below_alloc _ _⟩
end Nt
end Go.Proofs.Ythibgpgjioepfaa
