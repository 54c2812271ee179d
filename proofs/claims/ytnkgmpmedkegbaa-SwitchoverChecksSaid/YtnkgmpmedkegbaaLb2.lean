/- Contracts of slices' functions at structs (printed by gen_lib.py). -/
import Derived.Test.YtnkgmpmedkegbaaLb1
namespace Go.Proofs.Ytnkgmpmedkegbaa
open Go Go.RowKit Go.Sort
namespace Sw
open Mm
set_option maxRecDepth 100000 in
set_option maxHeartbeats 4000000 in
theorem delFnC_any (f : Nat) (cb : Array Value) (p : Cel → Bool) (A : Option Addr) (n c base : Nat) (xs : List Cel) (w : World) (ef : ∀ args w, (callFunc f args).run Try.prog w = .ok (.enter f args) w)
    (ho : w.ownsRow base 34 5 (.slice A n c) n (xs.flatMap celE)) (hn : n ≤ 1000000)
    (hp : ∀ x ∈ xs, ∀ W, w.grownBy W (Value.slice A n c).ownBlock → Calls Try.prog f (#[.agg #[.int .i64 x.slot, .int .i64 x.offset, .int .i64 x.frm, .int .i64 x.to, .int .i64 x.flow]] ++ cb) W fun e w' => e = .returned (.bool (p x)) ∧ Below W.heap.size W w') :
    Calls Try.prog 59 #[.slice A n c, .func (.func f) #[] cb] w (DelPost celE 34 5 p A n c base xs w) := by
  have hl : xs.length = n := own_len celE_len (by decide) ho
  have hs := (Sls.of_owns celE_len ho hl).2
  have hi := idxFnC_any f cb p A n c xs w ef hs (fun x hx W hb => hp x hx W (gb_below hb))
  replace hs := Lib.hid hs
  replace hi := Lib.hid hi
  replace hl := Lib.hid hl
  rcases ho.2 with ⟨hv, h0⟩ | ⟨g, cap, cur, hv, hbase, hg, r1, r2, r3, r4⟩
  · injection hv with hA _ hc
    subst hA hc h0
    have hx : xs = [] := List.length_eq_zero_iff.1 hl.out
    subst hx
    have hF : Hid (∀ w', Below w.heap.size w w' → DelPost celE 34 5 p none 0 0 base [] w (.returned (.slice none 0 0)) w') := fun w' hb => ⟨0, rfl, rfl, owns_keep ho hb, gb_below hb⟩
    clear ho hp hn
    go_enter Try.func59, Try.ntmps59
    go_wp2_with fail
    refine hi.out.mono ?_
    rintro e w2 ⟨i, rfl, hI, hb_⟩
    obtain rfl : i = -1 := by
      rcases hI with ⟨_, _, h, _⟩ | ⟨h, _⟩
      · exact absurd h (by simp)
      · exact h
    replace hI := Lib.hid hI
    replace hb_ := Lib.hid hb_
    go_wp2
    go_ret
    exact hF.out _ hb_.out
  · injection hv with hA _ hc
    subst hA hc
    clear hg r3 r4
    replace ho := Lib.hid ho
    replace hp := Lib.hid hp
    go_enter Try.func59, Try.ntmps59
    go_wp2_with fail
    refine hi.out.mono ?_
    rintro e w1 ⟨i, rfl, hI, hb_⟩
    have HB1 := Lib.hid (gb_below (r := some g) hb_)
    have HO1 := Lib.hid (owns_keep ho.out hb_)
    clear hb_
    rcases hI with ⟨m0, rfl, hm1, hm2, hm3⟩ | ⟨rfl, hno⟩
    · rw [hl.out] at hm1
      have HD : Hid (delU p xs (m0 + 1) = xs.take m0) := delU_start hm2 hm3 (by rw [hl.out]; exact hm1)
      replace hm2 := Lib.hid hm2
      replace hm3 := Lib.hid hm3
      have r5 : ((m0 : Int) == -1) = false := by rw [beq_eq_false_iff_ne]; omega
      go_wp2_with fail
      go_loopw [5, 6] (fun vi vj wr => ∃ (m j : Nat) (ys : List Cel), m < j ∧ j ≤ n ∧ vi = .int .i64 m ∧ vj = .int .i64 j ∧ Hid (ys.length = n) ∧ Hid (delU p xs j = ys.take m) ∧ Hid (∀ q, j ≤ q → q < n → ys.getD q default = xs.getD q default) ∧ Hid (wr.ownsRow base 34 5 (.slice (some ⟨g, 0, none⟩) n c) n (ys.flatMap celE)) ∧ Hid (w.grownBy wr (some g))) (fun _ vj _ => n - (intOf vj).toNat)
      case atStart => exact ⟨m0, m0 + 1, xs, by omega, by omega, rfl, by go_num, hl, HD, fun _ _ _ => rfl, HO1, HB1⟩
      case round =>
        clear HO1 HB1 HD
        obtain ⟨m, j, ys, hmj, hjn, rfl, rfl, HL, HD, HQ, HO, HG⟩ := hrel
        by_cases hlt : j < n
        · have hx := cel_at (Sls.of_owns celE_len HO.out HL.out).2 hlt
          have hq := HQ.out j (Nat.le_refl _) hlt
          have hds := delU_succ p xs j (by rw [hl.out]; exact hlt)
          rw [hq, Nat.zero_add] at hx
          have hmem := ok_at (P := (· ∈ xs)) (fun _ h => h) (k := j) (by rw [hl.out]; exact hlt)
          have hc := fun W (hW : w.grownBy W (some g)) => hp.out _ hmem W hW
          generalize xs.getD j default = x at *
          have hput := fun (W : World) (h : W.ownsRow base 34 5 (.slice (some ⟨g, 0, none⟩) n c) n (ys.flatMap celE)) => own_put celE_len h HL.out (show m < n by omega) x
          generalize p x = px at *
          have hset : Hid ((ys.set m x).take (m + 1) = ys.take m ++ [x] ∧ (∀ q, j + 1 ≤ q → q < n → (ys.set m x).getD q default = xs.getD q default)) := del_set hmj hlt HL.out HQ.out x
          generalize hz : ys.set m x = zs at *
          have hzl : Hid (zs.length = n) := by show _ = _; rw [← hz, List.length_set]; exact HL.out
          obtain ⟨x0, x1, x2, x3, x4⟩ := x
          obtain ⟨q0, q1, q2, q3, q4⟩ := hx
          dsimp only at q0 q1 q2 q3 q4 hc hput
          have hbx := ballN (Below.refl wr.heap.size wr) (.cells #[.int .i64 x0, .int .i64 x1, .int .i64 x2, .int .i64 x3, .int .i64 x4] 34)
          have BX := Box.new wr #[.int .i64 x0, .int .i64 x1, .int .i64 x2, .int .i64 x3, .int .i64 x4] 34
          have hc2 := hc (wr.alloc (.cells #[.int .i64 x0, .int .i64 x1, .int .i64 x2, .int .i64 x3, .int .i64 x4] 34)) (gb_trans HG.out (gb_below hbx))
          have HO2 := Lib.hid (owns_keep HO.out hbx)
          have HG2 := Lib.hid (gb_trans HG.out (gb_below (r := some g) hbx))
          have r6 : (j : Int) < (n : Int) := by omega
          have kx := BX.at_
          replace hq := Lib.hid hq
          replace hds := Lib.hid hds
          replace hz := Lib.hid hz
          replace hmem := Lib.hid hmem
          replace hc := Lib.hid hc
          replace hput := Lib.hid hput
          replace hc2 := Lib.hid hc2
          replace hbx := Lib.hid hbx
          replace BX := Lib.hid BX
          go_wp2_with fail
          refine hc2.out.mono ?_
          rintro e wr2 ⟨rfl, hb_⟩
          clear q0 q1 q2 q3 q4 kx
          have HO3 := Lib.hid (owns_keep HO2.out hb_)
          have HG3 := Lib.hid (gb_trans HG2.out (gb_below (r := some g) hb_))
          have kx := (BX.out.keep hb_).at_
          clear hb_ HO2 HG2 HO HG
          cases px with
          | true =>
            have HD2 : Hid (delU p xs (j + 1) = ys.take m) := by show _ = _; rw [hds.out, HD.out]; simp
            have HQ2 : Hid (∀ q, j + 1 ≤ q → q < n → ys.getD q default = xs.getD q default) := fun q h1 h2 => HQ.out q (by omega) h2
            go_wp2
            go_roundw
            case rel => exact ⟨m, j + 1, ys, by omega, by omega, rfl, by go_num, HL, HD2, HQ2, HO3, HG3⟩
            case measure => simp [intOf]; omega
          | false =>
            have HP := hput.out wr2 HO3.out
            have HO4 : Hid ((((((wr2.setCell ⟨g, m * 5, none⟩ (.int .i64 x0)).setCell ⟨g, m * 5 + 1, none⟩ (.int .i64 x1)).setCell ⟨g, m * 5 + 2, none⟩ (.int .i64 x2)).setCell ⟨g, m * 5 + 3, none⟩ (.int .i64 x3)).setCell ⟨g, m * 5 + 4, none⟩ (.int .i64 x4)).ownsRow base 34 5 (.slice (some ⟨g, 0, none⟩) n c) n (zs.flatMap celE)) := HP.1
            have HG4 : Hid (w.grownBy (((((wr2.setCell ⟨g, m * 5, none⟩ (.int .i64 x0)).setCell ⟨g, m * 5 + 1, none⟩ (.int .i64 x1)).setCell ⟨g, m * 5 + 2, none⟩ (.int .i64 x2)).setCell ⟨g, m * 5 + 3, none⟩ (.int .i64 x3)).setCell ⟨g, m * 5 + 4, none⟩ (.int .i64 x4)) (some g)) := gb_trans HG3.out HP.2
            have HD2 : Hid (delU p xs (j + 1) = zs.take (m + 1)) := by show _ = _; rw [hds.out, HD.out, hset.out.1]; simp
            have HQ2 := Lib.hid hset.out.2
            have hf := fun q => HO3.out.frozenAt q
            obtain ⟨v0, s0⟩ := own_some HO3.out (a := m * 5) (by omega)
            obtain ⟨v1, s1⟩ := own_some HO3.out (a := m * 5 + 1) (by omega)
            obtain ⟨v2, s2⟩ := own_some HO3.out (a := m * 5 + 2) (by omega)
            obtain ⟨v3, s3⟩ := own_some HO3.out (a := m * 5 + 3) (by omega)
            obtain ⟨v4, s4⟩ := own_some HO3.out (a := m * 5 + 4) (by omega)
            clear HP
            have r7 : (m : Int) < (n : Int) := by omega
            go_wp2
            go_roundw
            case rel => exact ⟨m + 1, j + 1, zs, by omega, by omega, by go_num, by go_num, hzl, HD2, HQ2, HO4, HG4⟩
            case measure => simp [intOf]; omega
        · obtain rfl : j = n := by omega
          have hcl := fun ty c => run_clear_own (P := Try.prog) HO.out hmj 22 ty _ Try.underlying22 Try.zeroValue34 rfl (by simp [Value.cells, Value.oneCell']) c
          have hoc := own_clear celE_len HO.out (Nat.le_of_lt hmj) (Builtin.zeroCells (Value.agg #[.int .i64 0, .int .i64 0, .int .i64 0, .int .i64 0, .int .i64 0]).cells (j - m)).toList
          generalize hww : wr.setCells g (m * 5) (Builtin.zeroCells (Value.agg #[.int .i64 0, .int .i64 0, .int .i64 0, .int .i64 0, .int .i64 0]).cells (j - m)).toList = wz at *
          have HD2 : Hid (DelPost celE 34 5 p (some ⟨g, 0, none⟩) j c base xs w (.returned (.slice (some ⟨g, 0, none⟩) m c)) wz) := by
            have e1 : xs.filter (fun x => !p x) = ys.take m := by
              rw [← HD.out]; unfold delU; rw [List.take_of_length_le (by rw [hl.out]; exact Nat.le_refl _)]
            refine ⟨m, rfl, by rw [e1, List.length_take, HL.out]; omega, by rw [e1]; exact hoc.1, gb_trans HG.out hoc.2⟩
          have r7 : (m : Int) ≤ (j : Int) := by omega
          have r8 : ((j : Int) - (m : Int)).toNat = j - m := by omega
          replace hww := Lib.hid hww
          replace hoc := Lib.hid hoc
          go_wp2
          go_ret
          exact HD2.out
    · have hF : Hid (DelPost celE 34 5 p (some ⟨g, 0, none⟩) n c base xs w (.returned (.slice (some ⟨g, 0, none⟩) n c)) w1) := by
        have e1 : xs.filter (fun x => !p x) = xs := by
          rw [List.filter_eq_self]
          intro x hx
          obtain ⟨q, hq, rfl⟩ := List.mem_iff_getElem.1 hx
          have := hno q hq
          rw [List.getD_eq_getElem?_getD, List.getElem?_eq_getElem hq] at this
          simp at this
          simp [this]
        exact ⟨n, rfl, by rw [e1, hl.out], by rw [e1]; exact HO1.out, HB1.out⟩
      replace hno := Lib.hid hno
      go_wp2
      go_ret
      exact hF.out
end Sw
end Go.Proofs.Ytnkgmpmedkegbaa
