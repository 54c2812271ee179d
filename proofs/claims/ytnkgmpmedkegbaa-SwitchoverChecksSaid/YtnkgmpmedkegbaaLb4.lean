/- Contracts of slices' functions at structs (printed by gen_lib.py). -/
import Derived.Test.YtnkgmpmedkegbaaLb2
import Derived.IntWalk
namespace Go.Proofs.Ytnkgmpmedkegbaa
open Go Go.RowKit Go.Sort
namespace Sw
open Mm
def kpL {α : Type} [DecidableEq α] [Inhabited α] (xs : List α) (j : Nat) : Bool := decide (j = 0) || !decide (xs.getD j default = xs.getD (j - 1) default)
/-- consecutive equal elements once, as far as j -/
def cpU {α : Type} [DecidableEq α] [Inhabited α] (xs : List α) (j : Nat) : List α := ((List.range j).filter (kpL xs)).map fun i => xs.getD i default
def cpL {α : Type} [DecidableEq α] [Inhabited α] (xs : List α) : List α := cpU xs xs.length
def CptPost {α : Type} [DecidableEq α] [Inhabited α] (enc : α → List Value) (T : TypeId) (k : Nat) (A : Option Addr) (n c base : Nat) (xs : List α) (w : World) (e : Ending) (w' : World) : Prop :=
  ∃ m, e = .returned (.slice A m c) ∧ m = (cpL xs).length ∧ w'.ownsRow base T k (.slice A m c) m ((cpL xs).flatMap enc) ∧ w.grownBy w' (Value.slice A n c).ownBlock
section
variable {α : Type} [DecidableEq α] [Inhabited α] {xs : List α}
theorem kpL_small {j : Nat} (h : j < 1) : kpL xs j = true := by
  obtain rfl : j = 0 := by omega
  simp [kpL]
theorem kpL_at {j : Nat} (h : 0 < j) : kpL xs j = !decide (xs.getD j default = xs.getD (j - 1) default) := by
  unfold kpL
  rw [decide_eq_false (by omega), Bool.false_or]
omit [DecidableEq α] in
theorem range_getD : ∀ (xs : List α), (List.range xs.length).map (fun i => xs.getD i default) = xs := fun xs => by
  apply List.ext_getElem?
  intro i
  rw [List.getElem?_map]
  by_cases h : i < xs.length
  · rw [List.getElem?_range h]; simp [h]
  · rw [List.getElem?_eq_none (by simpa using h), List.getElem?_eq_none (by omega)]; rfl
theorem cpU_all {j : Nat} (hj : j ≤ xs.length) (h : ∀ q, q < j → kpL xs q = true) : cpU xs j = xs.take j := by
  unfold cpU
  rw [List.filter_eq_self.2 (fun q hq => h q (List.mem_range.1 hq))]
  have := congrArg (List.take j) (range_getD xs)
  rw [← List.map_take, List.take_range, Nat.min_eq_left hj] at this
  exact this
theorem cpL_all {n : Nat} (h : ∀ q, q < n → kpL xs q = true) (hl : xs.length = n) : cpL xs = xs := by
  unfold cpL
  rw [cpU_all (Nat.le_refl _) (by rw [hl]; exact h), List.take_length]
theorem cpU_succ (xs : List α) (j : Nat) (_h : j < xs.length) : cpU xs (j + 1) = cpU xs j ++ (if kpL xs j = true then [xs.getD j default] else []) := by
  unfold cpU
  rw [List.range_succ, List.filter_append, List.map_append]
  cases hk : kpL xs j <;> simp [hk]
theorem cpU_start {m : Nat} (h : ∀ q, q < m → kpL xs q = true) (hm : kpL xs m = false) (hl : m < xs.length) : cpU xs (m + 1) = xs.take m := by
  rw [cpU_succ xs m hl, hm, cpU_all (Nat.le_of_lt hl) h]; simp
end
theorem cp_set {α : Type} [Inhabited α] {xs ys : List α} {m j n : Nat} (hmj : m < j) (hjn : j < n) (hl : ys.length = n) (hq : ∀ q, j ≤ q + 1 → q < n → ys.getD q default = xs.getD q default) (x : α) :
    (ys.set m x).take (m + 1) = ys.take m ++ [x] ∧ (∀ q, j + 1 ≤ q + 1 → q < n → (ys.set m x).getD q default = xs.getD q default) := by
  constructor
  · rw [List.take_succ_eq_append_getElem (by rw [List.length_set]; omega), List.take_set_of_le (Nat.le_refl _), List.getElem_set_self]
  · intro q h1 h2
    rw [← hq q (by omega) h2, List.getD_eq_getElem?_getD, List.getD_eq_getElem?_getD, List.getElem?_set, if_neg (by omega)]
set_option maxRecDepth 100000 in
set_option maxHeartbeats 4000000 in
theorem compactC_any (A : Option Addr) (n c base : Nat) (xs : List Cel) (w : World)
    (ho : w.ownsRow base 34 5 (.slice A n c) n (xs.flatMap celE)) (hn : n ≤ 1000000) :
    Calls Try.prog 43 #[.slice A n c] w (CptPost celE 34 5 A n c base xs w) := by
  have hl : xs.length = n := own_len celE_len (by decide) ho
  have ke := eql_cel
  have kn := neq_cel
  have hE : ∀ a b, eqC a b = decide (a = b) := fun _ _ => rfl
  have hsame : ∀ w', Below w.heap.size w w' → (∀ j, j < n → kpL xs j = true) → CptPost celE 34 5 A n c base xs w (.returned (.slice A n c)) w' := fun w' hb hk => by
    have e : cpL xs = xs := cpL_all hk hl
    exact ⟨n, rfl, by rw [e, hl], by rw [e]; exact owns_keep ho hb, gb_below hb⟩
  generalize eqC = E at *
  replace hl := Lib.hid hl
  replace ke := Lib.hid ke
  replace kn := Lib.hid kn
  replace hE := Lib.hid hE
  replace hsame := Lib.hid hsame
  by_cases h2 : n < 2
  · replace ho := Lib.hid ho
    have hF := Lib.hid (hsame.out w (Below.refl _ _) (fun j hj => kpL_small (by omega)))
    go_enter Try.func43, Try.ntmps43
    go_wp2
    go_ret
    exact hF.out
  rcases ho.2 with ⟨hv, h0⟩ | ⟨g, cap, cur, hv, hbase, hg, r1, r2, r3, r4⟩
  · omega
  injection hv with hA _ hc
  subst hA hc
  clear hg r3 r4
  replace ho := Lib.hid ho
  go_enter Try.func43, Try.ntmps43
  go_wp2_with fail
  go_loopw [3] (fun vk wr => ∃ m : Nat, 1 ≤ m ∧ m ≤ n ∧ vk = .int .i64 m ∧ Hid (∀ j, j < m → kpL xs j = true) ∧ Hid (Below w.heap.size w wr)) (fun vk _ => n - (intOf vk).toNat)
  case atStart => exact ⟨1, by omega, by omega, rfl, fun j hj => kpL_small (by omega), Below.refl _ _⟩
  case round =>
    obtain ⟨m0, hm1, hmn, rfl, HK, HB⟩ := hrel
    by_cases hlt : m0 < n
    · have HO1 := Lib.hid (owns_keep ho.out HB.out)
      have hx := cel_at (Sls.of_owns celE_len HO1.out hl.out).2 hlt
      have hy := cel_at (Sls.of_owns celE_len HO1.out hl.out).2 (show m0 - 1 < n by omega)
      have hkp := kpL_at (xs := xs) (j := m0) (by omega)
      rw [Nat.zero_add] at hx hy
      have he := ke.out (xs.getD m0 default) (xs.getD (m0 - 1) default)
      have hEx := hE.out (xs.getD m0 default) (xs.getD (m0 - 1) default)
      generalize E (xs.getD m0 default) (xs.getD (m0 - 1) default) = B at *
      rw [← hEx] at hkp
      generalize xs.getD m0 default = x at *
      generalize xs.getD (m0 - 1) default = y at *
      obtain ⟨x0, x1, x2, x3, x4⟩ := x
      obtain ⟨y0, y1, y2, y3, y4⟩ := y
      obtain ⟨q0, q1, q2, q3, q4⟩ := hx
      obtain ⟨p0, p1, p2, p3, p4⟩ := hy
      dsimp only at q0 q1 q2 q3 q4 p0 p1 p2 p3 p4 he
      have a0 := cell_regrown q0
      have b0 := cell_regrown p0
      have a1 := cell_regrown q1
      have b1 := cell_regrown p1
      have a2 := cell_regrown q2
      have b2 := cell_regrown p2
      have a3 := cell_regrown q3
      have b3 := cell_regrown p3
      have a4 := cell_regrown q4
      have b4 := cell_regrown p4
      have hcast : (m0 : Int) - 1 = ((m0 - 1 : Nat) : Int) := by omega
      have hw1 : IntKind.i64.wrap ((m0 : Int) - 1) = (m0 : Int) - 1 := IntWalk.i64_in _ (by omega)
      have ht1 : ((m0 : Int) - 1).toNat = m0 - 1 := by omega
      have s1 : (0 : Int) ≤ (m0 : Int) - 1 := by omega
      have s2 : (m0 : Int) - 1 < (n : Int) := by omega
      have s3 : (m0 : Int) < (n : Int) := by omega
      clear q0 q1 q2 q3 q4 p0 p1 p2 p3 p4 hcast
      replace hEx := Lib.hid hEx
      replace hkp := Lib.hid hkp
      go_wp2_with fail
      cases B with
      | false =>
        have hk2 : Hid (∀ j, j < m0 + 1 → kpL xs j = true) := fun j hj => by
          by_cases e : j = m0
          · subst e; rw [hkp.out]; rfl
          · exact HK.out j (by omega)
        refine wp_region_quiet_below (by kernel_rfl) (by kernel_rfl) ?_
        repeat (go_big_quiet_step (fail))
        refine wpQuiet_nil ?_
        rintro _ ⟨⟨dq, osq⟩, rfl⟩
        have hb_ := below_regrown wr dq osq
        replace HB := Lib.hid (HB.out.keep hb_)
        generalize grow (redrawn wr dq) osq = w2 at *
        clear hb_
        go_wp2
        go_roundw
        case rel => exact ⟨m0 + 1, by omega, by omega, by go_num, hk2, HB⟩
        case measure => simp [intOf]; omega
      | true =>
        refine wp_region_quiet_below (by kernel_rfl) (by kernel_rfl) ?_
        repeat (go_big_quiet_step (fail))
        refine wpQuiet_nil ?_
        rintro _ ⟨⟨dq, osq⟩, rfl⟩
        have hb_ := below_regrown wr dq osq
        replace HB := Lib.hid (HB.out.keep hb_)
        generalize grow (redrawn wr dq) osq = w2 at *
        clear hb_
        have HO2 := Lib.hid (owns_keep ho.out HB.out)
        have HG2 := Lib.hid (gb_below (r := some g) HB.out)
        have HD := Lib.hid (cpU_start HK.out (by rw [hkp.out]; rfl) (by rw [hl.out]; exact hlt))
        clear HB HO1 a0 a1 a2 a3 a4 b0 b1 b2 b3 b4 hw1 ht1 s1 s2 s3 he
        have s4 : (m0 : Int) ≤ (n : Int) := by omega
        have s5 : ((n : Int) - (m0 : Int)).toNat = n - m0 := by omega
        go_wp2_with fail
        go_loopw [3, 5] (fun vm vj wr => ∃ (m j : Nat) (ys : List Cel), m0 ≤ m ∧ 1 ≤ j ∧ m < m0 + j ∧ m0 + j ≤ n ∧ vm = .int .i64 m ∧ vj = .int .i64 j ∧ Hid (ys.length = n) ∧ Hid (cpU xs (m0 + j) = ys.take m) ∧ Hid (∀ q, m0 + j ≤ q + 1 → q < n → ys.getD q default = xs.getD q default) ∧ Hid (wr.ownsRow base 34 5 (.slice (some ⟨g, 0, none⟩) n c) n (ys.flatMap celE)) ∧ Hid (w.grownBy wr (some g))) (fun _ vj _ => n - (intOf vj).toNat)
        case atStart => exact ⟨m0, 1, xs, by omega, by omega, by omega, by omega, rfl, rfl, hl, HD, fun _ _ _ => rfl, HO2, HG2⟩
        case round =>
          clear HO2 HG2 HD HK hkp hEx
          obtain ⟨m, j, ys, hm0, hj1, hmj, hjn, rfl, rfl, HL, HD, HQ, HO, HG⟩ := hrel
          by_cases hlt2 : m0 + j < n
          · have hx := cel_at (Sls.of_owns celE_len HO.out HL.out).2 hlt2
            have hy := cel_at (Sls.of_owns celE_len HO.out HL.out).2 (show m0 + j - 1 < n by omega)
            have hkp := kpL_at (xs := xs) (j := m0 + j) (by omega)
            have hds := cpU_succ xs (m0 + j) (by rw [hl.out]; exact hlt2)
            rw [HQ.out _ (by omega) hlt2, Nat.zero_add] at hx
            rw [HQ.out (m0 + j - 1) (by omega) (by omega), Nat.zero_add] at hy
            have he := kn.out (xs.getD (m0 + j) default) (xs.getD (m0 + j - 1) default)
            have hEx := hE.out (xs.getD (m0 + j) default) (xs.getD (m0 + j - 1) default)
            generalize E (xs.getD (m0 + j) default) (xs.getD (m0 + j - 1) default) = B at *
            rw [← hEx] at hkp
            generalize xs.getD (m0 + j) default = x at *
            generalize xs.getD (m0 + j - 1) default = y at *
            have hput := fun (W : World) (h : W.ownsRow base 34 5 (.slice (some ⟨g, 0, none⟩) n c) n (ys.flatMap celE)) => own_put celE_len h HL.out (show m < n by omega) x
            have hset : Hid ((ys.set m x).take (m + 1) = ys.take m ++ [x] ∧ (∀ q, m0 + j + 1 ≤ q + 1 → q < n → (ys.set m x).getD q default = xs.getD q default)) := cp_set (by omega) hlt2 HL.out HQ.out x
            generalize hz : ys.set m x = zs at *
            have hzl : Hid (zs.length = n) := by show _ = _; rw [← hz, List.length_set]; exact HL.out
            obtain ⟨x0, x1, x2, x3, x4⟩ := x
            obtain ⟨y0, y1, y2, y3, y4⟩ := y
            obtain ⟨q0, q1, q2, q3, q4⟩ := hx
            obtain ⟨p0, p1, p2, p3, p4⟩ := hy
            have eo1 : m0 * 5 + j * 5 = (m0 + j) * 5 := by omega
            have eo2 : m0 * 5 + (j - 1) * 5 = (m0 + j - 1) * 5 := by omega
            rw [← eo1] at q0 q1 q2 q3 q4
            rw [← eo2] at p0 p1 p2 p3 p4
            dsimp only at q0 q1 q2 q3 q4 p0 p1 p2 p3 p4 he hput
            have a0 := cell_regrown q0
            have b0 := cell_regrown p0
            have a1 := cell_regrown q1
            have b1 := cell_regrown p1
            have a2 := cell_regrown q2
            have b2 := cell_regrown p2
            have a3 := cell_regrown q3
            have b3 := cell_regrown p3
            have a4 := cell_regrown q4
            have b4 := cell_regrown p4
            have hcast : (j : Int) - 1 = ((j - 1 : Nat) : Int) := by omega
            have hw1 : IntKind.i64.wrap ((j : Int) - 1) = (j : Int) - 1 := IntWalk.i64_in _ (by omega)
            have ht1 : ((j : Int) - 1).toNat = j - 1 := by omega
            have s1 : (0 : Int) ≤ (j : Int) - 1 := by omega
            have s2 : (j : Int) - 1 < ((n - m0 : Nat) : Int) := by omega
            have s3 : (j : Int) < ((n - m0 : Nat) : Int) := by omega
            have s6 : j < n - m0 := by omega
            clear q0 q1 q2 q3 q4 p0 p1 p2 p3 p4 hcast eo1 eo2
            replace hEx := Lib.hid hEx
            replace hkp := Lib.hid hkp
            replace hds := Lib.hid hds
            replace hz := Lib.hid hz
            replace hput := Lib.hid hput
            go_wp2_with fail
            refine wp_region_quiet_below (by kernel_rfl) (by kernel_rfl) ?_
            repeat (go_big_quiet_step (fail))
            refine wpQuiet_nil ?_
            rintro _ ⟨⟨dq, osq⟩, rfl⟩
            have hb_ := below_regrown wr dq osq
            have HO3 := Lib.hid (owns_keep HO.out hb_)
            have HG3 := Lib.hid (gb_trans HG.out (gb_below (r := some g) hb_))
            replace a0 := a0 dq osq
            replace a1 := a1 dq osq
            replace a2 := a2 dq osq
            replace a3 := a3 dq osq
            replace a4 := a4 dq osq
            generalize grow (redrawn wr dq) osq = w2 at *
            clear hb_ HO HG b0 b1 b2 b3 b4 hw1 ht1 s1 s2 he
            have hjz : m0 + (j + 1) = m0 + j + 1 := by omega
            cases B with
            | true =>
              have HD2 : Hid (cpU xs (m0 + (j + 1)) = ys.take m) := by show _ = _; rw [hjz, hds.out, hkp.out, HD.out]; simp
              have HQ2 : Hid (∀ q, m0 + (j + 1) ≤ q + 1 → q < n → ys.getD q default = xs.getD q default) := fun q h1 h2 => HQ.out q (by omega) h2
              clear a0 a1 a2 a3 a4 hjz
              go_wp2
              go_roundw
              case rel => exact ⟨m, j + 1, ys, hm0, by omega, by omega, by omega, rfl, by go_num, HL, HD2, HQ2, HO3, HG3⟩
              case measure => simp [intOf]; omega
            | false =>
              have HP := hput.out w2 HO3.out
              have HO4 : Hid ((((((w2.setCell ⟨g, m * 5, none⟩ (.int .i64 x0)).setCell ⟨g, m * 5 + 1, none⟩ (.int .i64 x1)).setCell ⟨g, m * 5 + 2, none⟩ (.int .i64 x2)).setCell ⟨g, m * 5 + 3, none⟩ (.int .i64 x3)).setCell ⟨g, m * 5 + 4, none⟩ (.int .i64 x4)).ownsRow base 34 5 (.slice (some ⟨g, 0, none⟩) n c) n (zs.flatMap celE)) := HP.1
              have HG4 : Hid (w.grownBy (((((w2.setCell ⟨g, m * 5, none⟩ (.int .i64 x0)).setCell ⟨g, m * 5 + 1, none⟩ (.int .i64 x1)).setCell ⟨g, m * 5 + 2, none⟩ (.int .i64 x2)).setCell ⟨g, m * 5 + 3, none⟩ (.int .i64 x3)).setCell ⟨g, m * 5 + 4, none⟩ (.int .i64 x4)) (some g)) := gb_trans HG3.out HP.2
              have HD2 : Hid (cpU xs (m0 + (j + 1)) = zs.take (m + 1)) := by show _ = _; rw [hjz, hds.out, hkp.out, HD.out, hset.out.1]; simp
              have HQ2 : Hid (∀ q, m0 + (j + 1) ≤ q + 1 → q < n → zs.getD q default = xs.getD q default) := fun q h1 h2 => hset.out.2 q (by omega) h2
              have hf := fun q => HO3.out.frozenAt q
              obtain ⟨v0, z0⟩ := own_some HO3.out (a := m * 5) (by omega)
              obtain ⟨v1, z1⟩ := own_some HO3.out (a := m * 5 + 1) (by omega)
              obtain ⟨v2, z2⟩ := own_some HO3.out (a := m * 5 + 2) (by omega)
              obtain ⟨v3, z3⟩ := own_some HO3.out (a := m * 5 + 3) (by omega)
              obtain ⟨v4, z4⟩ := own_some HO3.out (a := m * 5 + 4) (by omega)
              clear HP hjz
              have s7 : (m : Int) < (n : Int) := by omega
              go_wp2
              go_roundw
              case rel => exact ⟨m + 1, j + 1, zs, by omega, by omega, by omega, by omega, by go_num, by go_num, hzl, HD2, HQ2, HO4, HG4⟩
              case measure => simp [intOf]; omega
          · have hjn2 : m0 + j = n := by omega
            rw [hjn2] at hmj HD
            have hcl := fun ty c => run_clear_own (P := Try.prog) HO.out hmj 22 ty _ Try.underlying22 Try.zeroValue34 rfl (by simp [Value.cells, Value.oneCell']) c
            have hoc := own_clear celE_len HO.out (Nat.le_of_lt hmj) (Builtin.zeroCells (Value.agg #[.int .i64 0, .int .i64 0, .int .i64 0, .int .i64 0, .int .i64 0]).cells (n - m)).toList
            generalize hww : wr.setCells g (m * 5) (Builtin.zeroCells (Value.agg #[.int .i64 0, .int .i64 0, .int .i64 0, .int .i64 0, .int .i64 0]).cells (n - m)).toList = wz at *
            have HD2 : Hid (CptPost celE 34 5 (some ⟨g, 0, none⟩) n c base xs w (.returned (.slice (some ⟨g, 0, none⟩) m c)) wz) := by
              have e1 : cpL xs = ys.take m := by
                rw [← HD.out]; unfold cpL; rw [hl.out]
              refine ⟨m, rfl, by rw [e1, List.length_take, HL.out]; omega, by rw [e1]; exact hoc.1, gb_trans HG.out hoc.2⟩
            have s7 : (m : Int) ≤ (n : Int) := by omega
            have s8 : ((n : Int) - (m : Int)).toNat = n - m := by omega
            have s9 : ¬ (j : Int) < ((n - m0 : Nat) : Int) := by omega
            have s10 : ¬ j < n - m0 := by omega
            replace hww := Lib.hid hww
            replace hoc := Lib.hid hoc
            replace hjn2 := Lib.hid hjn2
            go_wp2
            go_ret
            exact HD2.out
    · obtain rfl : m0 = n := by omega
      have hF := Lib.hid (hsame.out wr HB.out HK.out)
      go_wp2
      go_ret
      exact hF.out
end Sw
end Go.Proofs.Ytnkgmpmedkegbaa
