/- the walk of ConflictAlone. -/
import Derived.Test.YthibgpgjioepfaaLaw3
import Derived.Test.YthibgpgjioepfaaAlone
namespace Go.Proofs.Ythibgpgjioepfaa
open Go Go.RowKit Go.Sort
namespace Nt
open Mm
theorem nil_cells (w : World) : CelS w none 0 [] := ⟨⟨rfl, by decide, fun h => absurd h (by omega)⟩, fun x hx => by cases hx⟩
theorem one_cell (w : World) (t : TypeId) (a : Cel) (ha : a.ok) :
    CelS (w.alloc (.cells #[.int .i64 a.slot, .int .i64 a.offset, .int .i64 a.frm, .int .i64 a.to, .int .i64 a.flow] t)) (some ⟨w.heap.size, 0, none⟩) 1 [a] := by
  have BX := Box.new w #[.int .i64 a.slot, .int .i64 a.offset, .int .i64 a.frm, .int .i64 a.to, .int .i64 a.flow] t
  refine ⟨⟨rfl, by decide, fun _ => ⟨w.heap.size, 0, rfl, BX.lt, fun i hi j hj => ?_⟩⟩, fun x hx => by rw [List.mem_singleton] at hx; rw [hx]; exact ha⟩
  rw [BX.at_]
  obtain rfl : i = 0 := by omega
  match j, hj with
  | 0, _ | 1, _ | 2, _ | 3, _ | 4, _ => rfl
set_option maxRecDepth 100000 in
set_option maxHeartbeats 8000000 in
theorem ConflictAlone_any (N : Net) (v : NetV) (q : Cel) (w : World) (hN : NetIs w v N) (hq : q.ok) :
    Calls Try.prog 7 #[.agg #[.int .i64 N.nodes, .slice v.PA v.pn v.pc, .int .i64 N.noise, .int .i64 N.threshold, .slice v.LA v.ln v.lc, .slice v.MA v.mn v.mc], .agg #[.int .i64 q.slot, .int .i64 q.offset, .int .i64 q.frm, .int .i64 q.to, .int .i64 q.flow]] w fun e w' => e = .returned (.bool true) ∧ Below w.heap.size w w' := by
  have HF := fun W (h : NetIs W v N) => few_any N v W h
  have HC := fun W (h : NetIs W v N) => check_any N v W h
  have HI := fun W (h : NetIs W v N) => index_any N v q.frm q.to W h
  have HU := fun W (h : NetIs W v N) => Usable_any N v (indexN N q.frm q.to) W h
  have HG := fun W A (h : NetIs W v N) (h2 : CelS W A 1 [q]) => Good_any N v A 1 1 [q] W h h2 (by decide)
  have HZ := fun W (h : NetIs W v N) => Good_any N v none 0 0 [] W h (nil_cells W) (by decide)
  have HT := fun W (h : NetIs W v N) => Together_any N v ⟨q.frm, q.to, 0⟩ ⟨q.frm, q.to, 0⟩ W h ⟨hq.2.2.1, hq.2.2.2.1, i64_zero⟩ ⟨hq.2.2.1, hq.2.2.2.1, i64_zero⟩
  rw [twice_bad] at HT
  have L1 := fun (h : check N = 0) => alone_good h q
  have L2 := fun (h : check N = 0) => none_good h
  have LU : usableN N (indexN N q.frm q.to) = true → 0 ≤ indexN N q.frm q.to := fun h => (usable_ends h).2.1.1
  generalize fewN N = F at *
  generalize check N = C at *
  generalize usableN N (indexN N q.frm q.to) = U at *
  generalize indexN N q.frm q.to = I at *
  generalize goodN N [q] = G at *
  generalize goodN N [] = Z at *
  obtain ⟨nodes, power, noise, thr, links, margin⟩ := N
  obtain ⟨PA, pn, pc, LA, ln, lc, MA, mn, mc⟩ := v
  obtain ⟨q0, q1, q2, q3, q4⟩ := q
  dsimp only at *
  have hbw := (below_alloc w (.cells #[.int .i64 nodes, .slice PA pn pc, .int .i64 noise, .int .i64 thr, .slice LA ln lc, .slice MA mn mc] 26)).alloc (by simp) (.cells #[.int .i64 q0, .int .i64 q1, .int .i64 q2, .int .i64 q3, .int .i64 q4] 36)
  have BX := (Box.new w #[.int .i64 nodes, .slice PA pn pc, .int .i64 noise, .int .i64 thr, .slice LA ln lc, .slice MA mn mc] 26).alloc (.cells #[.int .i64 q0, .int .i64 q1, .int .i64 q2, .int .i64 q3, .int .i64 q4] 36)
  have BQ := Box.new (w.alloc (.cells #[.int .i64 nodes, .slice PA pn pc, .int .i64 noise, .int .i64 thr, .slice LA ln lc, .slice MA mn mc] 26)) #[.int .i64 q0, .int .i64 q1, .int .i64 q2, .int .i64 q3, .int .i64 q4] 36
  rw [show (w.alloc (.cells #[.int .i64 nodes, .slice PA pn pc, .int .i64 noise, .int .i64 thr, .slice LA ln lc, .slice MA mn mc] 26)).heap.size = w.heap.size + 1 by simp] at BQ
  replace HF := Lib.hid HF
  replace HC := Lib.hid HC
  replace HI := Lib.hid HI
  replace HU := Lib.hid HU
  replace HG := Lib.hid HG
  replace HZ := Lib.hid HZ
  replace HT := Lib.hid HT
  replace L1 := Lib.hid L1
  replace L2 := Lib.hid L2
  replace LU := Lib.hid LU
  replace hN := Lib.hid hN
  replace hq := Lib.hid hq
  replace BX := Lib.hid BX
  replace BQ := Lib.hid BQ
  replace hbw := Lib.hid hbw
  go_enter Try.func7, Try.ntmps7
  go_wp2_with fail
  generalize (w.alloc (.cells #[.int .i64 nodes, .slice PA pn pc, .int .i64 noise, .int .i64 thr, .slice LA ln lc, .slice MA mn mc] 26)).alloc (.cells #[.int .i64 q0, .int .i64 q1, .int .i64 q2, .int .i64 q3, .int .i64 q4] 36) = w0 at *
  refine (awake_any _).mono ?_
  rintro e w1 ⟨rfl, hb⟩
  replace BX := Lib.hid (BX.out.keep hb)
  replace BQ := Lib.hid (BQ.out.keep hb)
  replace hbw := Lib.hid (hbw.out.keep hb)
  clear hb
  have kx := BX.out.at_
  have c1 := Lib.hid (HF.out _ (hN.out.keep hbw.out))
  go_wp2_with fail
  refine c1.out.mono ?_
  rintro e w2 ⟨rfl, hb⟩
  clear kx c1
  replace BX := Lib.hid (BX.out.keep hb)
  replace BQ := Lib.hid (BQ.out.keep hb)
  replace hbw := Lib.hid (hbw.out.keep hb)
  clear hb
  cases F with
  | false =>
    go_wp2
    go_ret
    exact ⟨rfl, hbw.out⟩
  | true =>
  have kx := BX.out.at_
  have c1 := Lib.hid (HC.out _ (hN.out.keep hbw.out))
  go_wp2_with fail
  refine c1.out.mono ?_
  rintro e w3 ⟨rfl, hb⟩
  clear kx c1
  replace BX := Lib.hid (BX.out.keep hb)
  replace BQ := Lib.hid (BQ.out.keep hb)
  replace hbw := Lib.hid (hbw.out.keep hb)
  clear hb
  by_cases c0 : C = 0
  case neg =>
    have d : (C != 0) = true := by rw [bne_iff_ne]; exact c0
    replace c0 := Lib.hid c0
    go_wp2
    go_ret
    exact ⟨rfl, hbw.out⟩
  have d : (C != 0) = false := by rw [c0]; rfl
  have l1 := Lib.hid (L1.out c0)
  have l2 := Lib.hid (L2.out c0)
  replace c0 := Lib.hid c0
  have kx := BX.out.at_
  have kq := BQ.out.at_
  have c1 := Lib.hid (HI.out _ (hN.out.keep hbw.out))
  go_wp2_with fail
  refine c1.out.mono ?_
  rintro e w4 ⟨rfl, hb⟩
  clear kx kq c1
  replace BX := Lib.hid (BX.out.keep hb)
  replace BQ := Lib.hid (BQ.out.keep hb)
  replace hbw := Lib.hid (hbw.out.keep hb)
  clear hb
  have kx := BX.out.at_
  have kq := BQ.out.at_
  have kb1 := BX.out.lt
  have kb2 := BQ.out.lt
  have BL := (Box.new w4 #[.int .i64 q2, .int .i64 q3, .int .i64 0] 44).alloc (.cells #[.int .i64 q0, .int .i64 q1, .int .i64 q2, .int .i64 q3, .int .i64 q4] 36)
  have BX5 := (BX.out.alloc (.cells #[.int .i64 q2, .int .i64 q3, .int .i64 0] 44)).alloc (.cells #[.int .i64 q0, .int .i64 q1, .int .i64 q2, .int .i64 q3, .int .i64 q4] 36)
  have HC1 := one_cell (w4.alloc (.cells #[.int .i64 q2, .int .i64 q3, .int .i64 0] 44)) 36 ⟨q0, q1, q2, q3, q4⟩ hq.out
  rw [show (w4.alloc (.cells #[.int .i64 q2, .int .i64 q3, .int .i64 0] 44)).heap.size = w4.heap.size + 1 by simp] at HC1
  have hb5 := (hbw.out.alloc hbw.out.size (.cells #[.int .i64 q2, .int .i64 q3, .int .i64 0] 44)).alloc (by have := hbw.out.size; simp; omega) (.cells #[.int .i64 q0, .int .i64 q1, .int .i64 q2, .int .i64 q3, .int .i64 q4] 36)
  have c1 := Lib.hid (HG.out _ _ (hN.out.keep hb5) HC1)
  replace BL := Lib.hid BL
  replace BX5 := Lib.hid BX5
  replace HC1 := Lib.hid HC1
  replace hb5 := Lib.hid hb5
  go_wp2_with fail
  refine c1.out.mono ?_
  rintro e w6 ⟨rfl, hb⟩
  clear kx kq kb1 kb2 c1 HC1 BX hbw BQ
  replace BX5 := Lib.hid (BX5.out.keep hb)
  replace BL := Lib.hid (BL.out.keep hb)
  replace hb5 := Lib.hid (hb5.out.keep hb)
  clear hb
  have kx := BX5.out.at_
  have kl := BL.out.at_
  have c1 := Lib.hid (HU.out _ (hN.out.keep hb5.out))
  have c2 := fun W (hb : Below w6.heap.size w6 W) => HT.out W (hN.out.keep (hb5.out.keep hb))
  have c3 := fun W (hb : Below w6.heap.size w6 W) => HZ.out W (hN.out.keep (hb5.out.keep hb))
  replace c2 := Lib.hid c2
  replace c3 := Lib.hid c3
  by_cases hi : 0 ≤ I
  · go_wp2_with fail
    refine c1.out.mono ?_
    rintro e w7 ⟨rfl, hb⟩
    have t1 := Lib.hid (c2.out _ hb)
    clear kx kl c1
    replace BX5 := Lib.hid (BX5.out.keep hb)
    replace BL := Lib.hid (BL.out.keep hb)
    replace hb5 := Lib.hid (hb5.out.keep hb)
    have hb67 := Lib.hid hb
    clear hb
    have kx := BX5.out.at_
    have kl := BL.out.at_
    rw [l1.out]
    go_wp2_with fail
    refine t1.out.mono ?_
    rintro e w8 ⟨rfl, hb⟩
    have t2 := Lib.hid (c3.out _ (hb67.out.keep hb))
    clear kx kl t1
    replace BX5 := Lib.hid (BX5.out.keep hb)
    replace BL := Lib.hid (BL.out.keep hb)
    replace hb5 := Lib.hid (hb5.out.keep hb)
    clear hb
    have kx := BX5.out.at_
    go_wp2_with fail
    refine t2.out.mono ?_
    rintro e w9 ⟨rfl, hb⟩
    rw [l2.out]
    go_wp2
    go_ret
    exact ⟨rfl, hb5.out.keep hb⟩
  · have hu : U = false := by
      cases hU : U with
      | false => rfl
      | true => exact absurd (LU.out hU) hi
    have t1 := Lib.hid (c2.out _ (Below.refl _ _))
    rw [l1.out, hu]
    replace hu := Lib.hid hu
    go_wp2_with fail
    refine t1.out.mono ?_
    rintro e w8 ⟨rfl, hb⟩
    have t2 := Lib.hid (c3.out _ hb)
    clear kx kl t1
    replace BX5 := Lib.hid (BX5.out.keep hb)
    replace BL := Lib.hid (BL.out.keep hb)
    replace hb5 := Lib.hid (hb5.out.keep hb)
    clear hb
    have kx := BX5.out.at_
    go_wp2_with fail
    refine t2.out.mono ?_
    rintro e w9 ⟨rfl, hb⟩
    rw [l2.out]
    go_wp2
    go_ret
    exact ⟨rfl, hb5.out.keep hb⟩
theorem conflictAlone_walk (nodes : Int) (PA : Option Addr) (pn pc : Nat) (power : List (List Int)) (noise thr : Int) (LA : Option Addr) (ln lc : Nat) (links : List Lnk) (MA : Option Addr) (mn mc : Nat) (margin : List Int) (q0 q1 q2 q3 q4 : Int) (w : World)
    (h1 : (Lit.int .i64 nodes).wf = true) (h2 : RowS w PA pn power) (h3 : (Lit.int .i64 noise).wf = true) (h4 : (Lit.int .i64 thr).wf = true) (h5 : LnkS w LA ln links) (h6 : IntS w MA mn margin)
    (k0 : (Lit.int .i64 q0).wf = true) (k1 : (Lit.int .i64 q1).wf = true) (k2 : (Lit.int .i64 q2).wf = true) (k3 : (Lit.int .i64 q3).wf = true) (k4 : (Lit.int .i64 q4).wf = true) :
    Calls Try.prog 7 #[.agg #[.int .i64 nodes, .slice PA pn pc, .int .i64 noise, .int .i64 thr, .slice LA ln lc, .slice MA mn mc], .agg #[.int .i64 q0, .int .i64 q1, .int .i64 q2, .int .i64 q3, .int .i64 q4]] w fun e w' => e = .returned (.bool true) ∧ Below w.heap.size w w' :=
  ConflictAlone_any ⟨nodes, power, noise, thr, links, margin⟩ ⟨PA, pn, pc, LA, ln, lc, MA, mn, mc⟩ ⟨q0, q1, q2, q3, q4⟩ w (netIs_of h1 h2 h3 h4 h5 h6) ⟨Op.i64_wf k0, Op.i64_wf k1, Op.i64_wf k2, Op.i64_wf k3, Op.i64_wf k4⟩
end Nt
end Go.Proofs.Ythibgpgjioepfaa
