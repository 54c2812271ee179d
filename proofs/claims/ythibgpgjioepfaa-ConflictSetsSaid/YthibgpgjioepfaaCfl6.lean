/- conflict.First, Good. -/
import Derived.Test.YthibgpgjioepfaaCfl5
namespace Go.Proofs.Ythibgpgjioepfaa
open Go Go.RowKit Go.Sort
namespace Nt
def firstN (N : Net) (cs : List Cel) : Option Nat := if check N = 0 then (List.range cs.length).find? (fun i => faulty N cs i) else none
def firstV : Option Nat → Value
  | some i => .tuple #[.int .i64 (i : Int), .bool true]
  | none => .tuple #[.int .i64 (-1), .bool false]
theorem find_range_hit {p : Nat → Bool} {n k : Nat} (hk : k < n) (hp : p k = true) (h : ∀ j, j < k → p j = false) : (List.range n).find? p = some k := by
  rw [List.find?_eq_some_iff_getElem]
  refine ⟨hp, k, by simpa using hk, by simp, fun j hj => ?_⟩
  simp [h j hj]
theorem find_range_none {p : Nat → Bool} {n : Nat} (h : ∀ j, j < n → p j = false) : (List.range n).find? p = none := by
  rw [List.find?_eq_none]
  intro x hx
  simp [h x (by simpa using hx)]
set_option maxRecDepth 100000 in
set_option maxHeartbeats 2000000 in
theorem First_any (N : Net) (v : NetV) (A : Option Addr) (n c : Nat) (cs : List Cel) (w : World) (hN : NetIs w v N) (hs : CelS w A n cs) (hn : n ≤ 100000) :
    Calls Try.prog 20 #[.agg #[.int .i64 N.nodes, .slice v.PA v.pn v.pc, .int .i64 N.noise, .int .i64 N.threshold, .slice v.LA v.ln v.lc, .slice v.MA v.mn v.mc], .slice A n c] w
      fun e w' => e = .returned (firstV (firstN N cs)) ∧ Below w.heap.size w w' := by
  have BX := Box.new w #[.int .i64 N.nodes, .slice v.PA v.pn v.pc, .int .i64 N.noise, .int .i64 N.threshold, .slice v.LA v.ln v.lc, .slice v.MA v.mn v.mc] 26
  have hbw := below_alloc w (.cells #[.int .i64 N.nodes, .slice v.PA v.pn v.pc, .int .i64 N.noise, .int .i64 N.threshold, .slice v.LA v.ln v.lc, .slice v.MA v.mn v.mc] 26)
  have HC := check_any N v _ (hN.keep hbw)
  have hlen := hs.els.len
  have HI : Hid (firstN N cs = if check N = 0 then (List.range n).find? (fun i => faulty N cs i) else none) := by show _ = _; unfold firstN; rw [hlen]
  have HF := fun W (h1 : NetIs W v N) (h2 : CelS W A n cs) (i : Nat) (h3 : i < n) => faulty_any N v A n c cs i W h1 h2 hn h3
  replace hlen := Lib.hid hlen
  replace HC := Lib.hid HC
  replace HF := Lib.hid HF
  replace hN := Lib.hid hN
  replace hs := Lib.hid hs
  replace BX := Lib.hid BX
  replace hbw := Lib.hid hbw
  generalize check N = C at *
  generalize firstN N cs = I at *
  generalize hFg : faulty N cs = FA at *
  clear hFg
  obtain ⟨nodes, power, noise, thr, links, margin⟩ := N
  obtain ⟨PA, pn, pc, LA, ln, lc, MA, mn, mc⟩ := v
  dsimp only at *
  go_enter Try.func20, Try.ntmps20
  go_wp2_with fail
  refine HC.out.mono ?_
  rintro e w1 ⟨rfl, hb1⟩
  have BX1 := Lib.hid (BX.out.keep hb1)
  have hb2 := Lib.hid (bthen hbw.out hb1)
  clear hb1 BX hbw
  by_cases c0 : C = 0
  case neg =>
    have HI' : Hid (I = none) := by show _ = _; rw [HI.out, if_neg c0]
    have d : (C != 0) = true := by rw [bne_iff_ne]; exact c0
    replace c0 := Lib.hid c0
    go_wp2
    refine bodyPost_ret (v := .tuple #[.int .i64 (-1), .bool false]) (by simp [results, Try.results20, go_sem]) rfl ⟨by rw [HI'.out]; rfl, hb2.out⟩
  have dz : (C != 0) = false := by rw [c0]; rfl
  have HI2 : Hid (I = (List.range n).find? (fun i => FA i)) := by show _ = _; rw [HI.out, if_pos c0]
  replace c0 := Lib.hid c0
  go_wp2
  go_loopw [12] (fun i wr => ∃ k : Nat, k ≤ n ∧ i = .int .i64 k ∧ Hid (∀ j, j < k → FA j = false) ∧ Hid (Below w.heap.size w wr) ∧ Hid (Box wr w.heap.size #[.int .i64 nodes, .slice PA pn pc, .int .i64 noise, .int .i64 thr, .slice LA ln lc, .slice MA mn mc])) (fun i _ => n - (intOf i).toNat)
  case atStart => exact ⟨0, by omega, rfl, fun j hj => absurd hj (by omega), hb2, BX1⟩
  case round =>
    obtain ⟨k, hk, rfl, HP, HB, HX⟩ := hrel
    clear hb2 BX1
    by_cases hlt : k < n
    · have kx := HX.out.at_
      have HFc := Lib.hid (HF.out wr (hN.out.keep HB.out) (hs.out.keep HB.out) k hlt)
      go_wp2_with fail
      refine HFc.out.mono ?_
      rintro e w2 ⟨rfl, hb3⟩
      have HB2 := Lib.hid (bthen HB.out hb3)
      have HX2 := Lib.hid (HX.out.keep hb3)
      clear hb3 kx HFc
      cases hf : FA k with
      | true =>
        have HI' : Hid (I = some k) := by show _ = _; rw [HI2.out]; exact find_range_hit hlt hf HP.out
        replace hf := Lib.hid hf
        go_wp2
        refine bodyPost_ret (v := .tuple #[.int .i64 (k : Int), .bool true]) (by simp [results, Try.results20, go_sem]) rfl ⟨by rw [HI'.out]; rfl, HB2.out⟩
      | false =>
        have HN : Hid (∀ j, j < k + 1 → FA j = false) := fun j hj => by
          by_cases e : j = k
          · subst e; exact hf
          · exact HP.out j (by omega)
        replace hf := Lib.hid hf
        go_wp2
        go_roundw
        case rel => exact ⟨k + 1, by omega, by go_num, HN, HB2, HX2⟩
        case measure => simp [intOf]; omega
    · have e : k = n := by omega
      subst e
      have HI' : Hid (I = none) := by show _ = _; rw [HI2.out]; exact find_range_none HP.out
      go_wp2
      refine bodyPost_ret (v := .tuple #[.int .i64 (-1), .bool false]) (by simp [results, Try.results20, go_sem]) rfl ⟨by rw [HI'.out]; rfl, HB.out⟩
def goodN (N : Net) (cs : List Cel) : Bool := decide (check N = 0) && (firstN N cs).isNone
set_option maxRecDepth 100000 in
set_option maxHeartbeats 2000000 in
theorem Good_any (N : Net) (v : NetV) (A : Option Addr) (n c : Nat) (cs : List Cel) (w : World) (hN : NetIs w v N) (hs : CelS w A n cs) (hn : n ≤ 100000) :
    Calls Try.prog 17 #[.agg #[.int .i64 N.nodes, .slice v.PA v.pn v.pc, .int .i64 N.noise, .int .i64 N.threshold, .slice v.LA v.ln v.lc, .slice v.MA v.mn v.mc], .slice A n c] w
      fun e w' => e = .returned (.bool (goodN N cs)) ∧ Below w.heap.size w w' := by
  have BX := Box.new w #[.int .i64 N.nodes, .slice v.PA v.pn v.pc, .int .i64 N.noise, .int .i64 N.threshold, .slice v.LA v.ln v.lc, .slice v.MA v.mn v.mc] 26
  have hbw := below_alloc w (.cells #[.int .i64 N.nodes, .slice v.PA v.pn v.pc, .int .i64 N.noise, .int .i64 N.threshold, .slice v.LA v.ln v.lc, .slice v.MA v.mn v.mc] 26)
  have HC := fun W (h : NetIs W v N) => check_any N v W h
  have HF := First_any N v A n c cs _ (hN.keep hbw) (hs.keep hbw) hn
  have HI : Hid (goodN N cs = (decide (check N = 0) && (firstN N cs).isNone)) := rfl
  replace HC := Lib.hid HC
  replace HF := Lib.hid HF
  replace hN := Lib.hid hN
  replace hs := Lib.hid hs
  replace BX := Lib.hid BX
  replace hbw := Lib.hid hbw
  generalize check N = C at *
  generalize goodN N cs = I at *
  generalize firstN N cs = FA at *
  obtain ⟨nodes, power, noise, thr, links, margin⟩ := N
  obtain ⟨PA, pn, pc, LA, ln, lc, MA, mn, mc⟩ := v
  dsimp only at *
  go_enter Try.func17, Try.ntmps17
  go_wp2_with fail
  refine HF.out.mono ?_
  rintro e w1 ⟨rfl, hb1⟩
  have BX1 := Lib.hid (BX.out.keep hb1)
  have hb2 := Lib.hid (bthen hbw.out hb1)
  clear hb1 BX hbw
  have HC1 := Lib.hid (HC.out w1 (hN.out.keep hb2.out))
  have kx := BX1.out.at_
  rcases FA with _ | k
  all_goals
    simp only [firstV]
    go_wp2_with fail
    refine HC1.out.mono ?_
    rintro e w2 ⟨rfl, hb3⟩
    have hb4 := Lib.hid (bthen hb2.out hb3)
    clear hb3 kx
    by_cases c0 : C = 0
    · have d : (C == 0) = true := by rw [c0]; rfl
      have HI' := HI.out
      rw [decide_eq_true c0] at HI'
      replace HI' := Lib.hid HI'
      replace c0 := Lib.hid c0
      go_wp2
      go_ret
      exact ⟨by rw [HI'.out]; rfl, hb4.out⟩
    · have d : (C == 0) = false := by rw [beq_eq_false_iff_ne]; exact c0
      have HI' := HI.out
      rw [decide_eq_false c0] at HI'
      replace HI' := Lib.hid HI'
      replace c0 := Lib.hid c0
      go_wp2
      go_ret
      exact ⟨by rw [HI'.out]; rfl, hb4.out⟩
end Nt
end Go.Proofs.Ythibgpgjioepfaa
