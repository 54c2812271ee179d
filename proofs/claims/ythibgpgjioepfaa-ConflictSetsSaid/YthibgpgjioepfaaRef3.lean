/- hopmeshref31.Check, Find, Good. -/
import Derived.Test.YthibgpgjioepfaaRef2
namespace Go.Proofs.Ythibgpgjioepfaa
open Go Go.RowKit Go.Sort
namespace Nt
theorem inB_nodes (n : Int) : inB n 2 32 = !badNodes n := by
  unfold inB badNodes
  by_cases a : n < 2 <;> by_cases b : 32 < n <;> simp [a, b] <;> omega
theorem badNoise_inB (noise thr : Int) : badNoise noise thr = (!inB noise 0 68719476736 || !inB thr 1000 100000) := by
  unfold badNoise inB
  by_cases a : noise < 0 <;> by_cases b : 68719476736 < noise <;> by_cases c : thr < 1000 <;> by_cases d : 100000 < thr <;> simp [a, b, c, d] <;> omega
set_option maxRecDepth 100000 in
set_option maxHeartbeats 4000000 in
theorem rcheck_any (N : Net) (v : NetV) (w : World) (hN : NetIs w v N) :
    Calls Try.prog 40 #[.agg #[.int .i64 N.nodes, .slice v.PA v.pn v.pc, .int .i64 N.noise, .int .i64 N.threshold, .slice v.LA v.ln v.lc, .slice v.MA v.mn v.mc]] w
      fun e w' => e = .returned (.int .i64 (check N)) ∧ Below w.heap.size w w' := by
  have HT := fun W (h : NetIs W v N) => table_any N v W h
  have HL := fun W (h : NetIs W v N) (i : Nat) (hi : i < N.links.length) (hm : N.margin.length = N.links.length) (hsq : Square N) (hnd : 2 ≤ N.nodes ∧ N.nodes ≤ 32) => rlink_any N v i W h hi hm hsq hnd
  have HZ := fun (h : checkPower N = 0) => (checkPower_zero h).1
  have HI : Hid (check N = if badNodes N.nodes = true then 2 else if (checkPower N != 0) = true then checkPower N else if badNoise N.noise N.threshold = true then 2
    else if 128 < N.links.length then 8 else if ((N.margin.length : Int) != (N.links.length : Int)) = true then 11 else linkFault N) := rfl
  have HHit := fun k hk h hne => linkFault_hit (N := N) (k := k) hk h hne
  have HNone := fun h => linkFault_none (N := N) h
  have hln := hN.links.els.len
  have hmn := hN.margin.els.len
  have hsl := hN.links.els.small
  have hsm := hN.margin.els.small
  unfold maxLen at hsl hsm
  generalize check N = C at *
  generalize checkPower N = CP at *
  generalize linkFault N = LF at *
  generalize hCL : checkLink N = CL at *
  clear hCL
  have NK := hN.keep (below_alloc w (.cells #[.int .i64 N.nodes, .slice v.PA v.pn v.pc, .int .i64 N.noise, .int .i64 N.threshold, .slice v.LA v.ln v.lc, .slice v.MA v.mn v.mc] 26))
  replace HT := Lib.hid HT
  replace HL := Lib.hid HL
  replace HZ := Lib.hid HZ
  replace HI := Lib.hid HI
  replace HHit := Lib.hid HHit
  replace HNone := Lib.hid HNone
  generalize hsqg : Square N = SQ at *
  clear hsqg
  obtain ⟨nodes, power, noise, thr, links, margin⟩ := N
  obtain ⟨PA, pn, pc, LA, ln, lc, MA, mn, mc⟩ := v
  dsimp only at *
  have BX := Box.new w #[.int .i64 nodes, .slice PA pn pc, .int .i64 noise, .int .i64 thr, .slice LA ln lc, .slice MA mn mc] 26
  have hbw := below_alloc w (.cells #[.int .i64 nodes, .slice PA pn pc, .int .i64 noise, .int .i64 thr, .slice LA ln lc, .slice MA mn mc] 26)
  have kx := BX.at_
  replace hN := Lib.hid hN
  replace NK := Lib.hid NK
  replace BX := Lib.hid BX
  replace hbw := Lib.hid hbw
  replace hln := Lib.hid hln
  replace hmn := Lib.hid hmn
  go_enter Try.func40, Try.ntmps40
  go_wp2_with fail
  refine (in_same nodes 2 32 _).mono ?_
  rintro e w_ ⟨rfl, rfl⟩
  rw [inB_nodes]
  cases c1 : badNodes nodes with
  | true =>
    have HR : Hid (C = 2) := by show _ = _; rw [HI.out, if_pos c1]
    replace c1 := Lib.hid c1
    go_wp2
    go_ret
    exact ⟨by rw [HR.out]; rfl, hbw.out⟩
  | false =>
  have d1 : 2 ≤ nodes ∧ nodes ≤ 32 := by unfold badNodes at c1; simp at c1; omega
  have HI2 : Hid (C = if (CP != 0) = true then CP else if badNoise noise thr = true then 2
    else if 128 < links.length then 8 else if ((margin.length : Int) != (links.length : Int)) = true then 11 else LF) := by show _ = _; rw [HI.out, if_neg (by rw [c1]; decide)]
  replace c1 := Lib.hid c1
  replace d1 := Lib.hid d1
  clear HI
  go_wp2_with fail
  refine (HT.out _ NK.out).mono ?_
  rintro e w1 ⟨rfl, hb⟩
  clear kx NK
  replace BX := Lib.hid (BX.out.keep hb)
  replace hbw := Lib.hid (hbw.out.keep hb)
  clear hb
  have kx := BX.out.at_
  cases c2 : (CP != 0) with
  | true =>
    have HR : Hid (C = CP) := by show _ = _; rw [HI2.out, if_pos c2]
    go_wp2
    go_ret
    exact ⟨by rw [HR.out]; rfl, hbw.out⟩
  | false =>
  have hz : CP = 0 := by simpa using c2
  have HSQ := Lib.hid (HZ.out hz)
  have HI3 : Hid (C = if badNoise noise thr = true then 2
    else if 128 < links.length then 8 else if ((margin.length : Int) != (links.length : Int)) = true then 11 else LF) := by show _ = _; rw [HI2.out, if_neg (by rw [c2]; decide)]
  clear HI2
  subst hz
  clear c2
  go_wp2_with fail
  refine (in_same noise 0 68719476736 _).mono ?_
  rintro e w_ ⟨rfl, rfl⟩
  cases c3 : inB noise 0 68719476736 with
  | false =>
    have HR : Hid (C = 2) := by show _ = _; rw [HI3.out, if_pos (by rw [badNoise_inB, c3]; rfl)]
    replace c3 := Lib.hid c3
    go_wp2
    go_ret
    exact ⟨by rw [HR.out]; rfl, hbw.out⟩
  | true =>
  go_wp2_with fail
  refine (in_same thr 1000 100000 _).mono ?_
  rintro e w_ ⟨rfl, rfl⟩
  cases c4 : inB thr 1000 100000 with
  | false =>
    have HR : Hid (C = 2) := by show _ = _; rw [HI3.out, if_pos (by rw [badNoise_inB, c3, c4]; rfl)]
    replace c3 := Lib.hid c3
    replace c4 := Lib.hid c4
    go_wp2
    go_ret
    exact ⟨by rw [HR.out]; rfl, hbw.out⟩
  | true =>
  have HI4 : Hid (C = if 128 < links.length then 8 else if ((margin.length : Int) != (links.length : Int)) = true then 11 else LF) := by show _ = _; rw [HI3.out, if_neg (by rw [badNoise_inB, c3, c4]; decide)]
  replace c3 := Lib.hid c3
  replace c4 := Lib.hid c4
  clear HI3
  by_cases c5 : 128 < ln
  · have HR : Hid (C = 8) := by show _ = _; rw [HI4.out, if_pos (by rw [hln.out]; exact c5)]
    go_wp2
    go_ret
    exact ⟨by rw [HR.out]; rfl, hbw.out⟩
  cases c6 : ((mn : Int) != (ln : Int)) with
  | true =>
    have HR : Hid (C = 11) := by show _ = _; rw [HI4.out, if_neg (by rw [hln.out]; exact c5), if_pos (by rw [hln.out, hmn.out]; exact c6)]
    go_wp2
    go_ret
    exact ⟨by rw [HR.out]; rfl, hbw.out⟩
  | false =>
  have hml : margin.length = links.length := by rw [hln.out, hmn.out]; simp at c6; omega
  have HI5 : Hid (C = LF) := by show _ = _; rw [HI4.out, if_neg (by rw [hln.out]; exact c5), if_neg (by rw [hln.out, hmn.out, c6]; decide)]
  clear HI4
  replace hml := Lib.hid hml
  go_wp2
  clear c6 kx
  go_loopw [3, 4] (fun _ i wr => ∃ k : Nat, k ≤ ln ∧ i = .int .i64 k ∧ Hid (∀ j, j < k → CL j = 0) ∧ Hid (Below w.heap.size w wr) ∧ Hid (Box wr w.heap.size #[.int .i64 nodes, .slice PA pn pc, .int .i64 noise, .int .i64 thr, .slice LA ln lc, .slice MA mn mc])) (fun _ i _ => ln - (intOf i).toNat)
  case atStart => exact ⟨0, by omega, rfl, fun j hj => absurd hj (by omega), hbw, BX⟩
  case round =>
    obtain ⟨k, hk, rfl, HP, HB, HX⟩ := hrel
    clear hbw BX
    have kx := HX.out.at_
    by_cases hlt : k < ln
    · have HLc := Lib.hid (HL.out wr (hN.out.keep HB.out) k (by rw [hln.out]; exact hlt) hml.out HSQ.out d1.out)
      go_wp2_with fail
      refine HLc.out.mono ?_
      rintro e w2 ⟨rfl, hb⟩
      clear kx HLc
      replace HX := Lib.hid (HX.out.keep hb)
      replace HB := Lib.hid (HB.out.keep hb)
      clear hb
      cases c6 : (CL k != 0) with
      | true =>
        have HF : Hid (LF = CL k) := HHit.out k (by rw [hln.out]; exact hlt) HP.out (by simpa using c6)
        generalize CL k = E at *
        go_wp2
        go_ret
        exact ⟨by rw [HI5.out, HF.out]; rfl, HB.out⟩
      | false =>
        have hz2 : CL k = 0 := by simpa using c6
        have HN : Hid (∀ j, j < k + 1 → CL j = 0) := fun j hj => by
          by_cases e : j = k
          · subst e; exact hz2
          · exact HP.out j (by omega)
        rw [hz2]
        clear c6 hz2
        go_wp2
        go_roundw
        case rel => exact ⟨k + 1, by omega, by go_num, HN, HB, HX⟩
        case measure => simp [intOf]; omega
    · have HF : Hid (LF = 0) := HNone.out (fun j hj => HP.out j (by have := hln.out; omega))
      go_wp2
      go_ret
      exact ⟨by rw [HI5.out, HF.out]; rfl, HB.out⟩
def linkP (f t : Int) (l : Lnk) : Bool := l.frm == f && l.to == t
def NoLink (ls : List Lnk) (f t : Int) (k : Nat) : Prop := ∀ j, j < k → linkP f t (ls.getD j default) = false
set_option maxRecDepth 100000 in
set_option maxHeartbeats 2000000 in
theorem rfind_any (N : Net) (v : NetV) (f t : Int) (w : World) (hN : NetIs w v N) :
    Calls Try.prog 77 #[.agg #[.int .i64 N.nodes, .slice v.PA v.pn v.pc, .int .i64 N.noise, .int .i64 N.threshold, .slice v.LA v.ln v.lc, .slice v.MA v.mn v.mc], .int .i64 f, .int .i64 t] w
      fun e w' => e = .returned (.int .i64 (findL N.links f t)) ∧ Below w.heap.size w w' := by
  obtain ⟨nodes, power, noise, thr, links, margin⟩ := N
  obtain ⟨PA, pn, pc, LA, ln, lc, MA, mn, mc⟩ := v
  have hln := hN.links.els.len
  have hsl := hN.links.els.small
  dsimp only at hsl hln ⊢
  unfold maxLen at hsl
  have BX := Box.new w #[.int .i64 nodes, .slice PA pn pc, .int .i64 noise, .int .i64 thr, .slice LA ln lc, .slice MA mn mc] 26
  have hbw := below_alloc w (.cells #[.int .i64 nodes, .slice PA pn pc, .int .i64 noise, .int .i64 thr, .slice LA ln lc, .slice MA mn mc] 26)
  have kx := BX.at_
  replace hN := Lib.hid hN
  replace BX := Lib.hid BX
  replace hbw := Lib.hid hbw
  replace hln := Lib.hid hln
  go_enter Try.func77, Try.ntmps77
  go_wp2
  clear kx
  go_loopw [7] (fun i wr => ∃ k : Nat, k ≤ ln ∧ i = .int .i64 k ∧ Hid (NoLink links f t k) ∧ Hid (Below w.heap.size w wr) ∧ Hid (Box wr w.heap.size #[.int .i64 nodes, .slice PA pn pc, .int .i64 noise, .int .i64 thr, .slice LA ln lc, .slice MA mn mc])) (fun i _ => ln - (intOf i).toNat)
  case atStart => exact ⟨0, by omega, rfl, fun j hj => absurd hj (by omega), hbw, BX⟩
  case round =>
    obtain ⟨k, hk, rfl, HP, HB, HX⟩ := hrel
    clear hbw BX
    have kx := HX.out.at_
    by_cases hlt : k < ln
    · obtain ⟨b, off, rfl⟩ := hN.out.links.els.addr (show 0 < ln by omega)
      obtain ⟨⟨lf, lt, loss⟩, he, hm, l0, l1, l2⟩ := (hN.out.keep HB.out).links.elem (k := k) hlt
      dsimp only at he hm l0 l1 l2
      have hg : links.getD k default = ⟨lf, lt, loss⟩ := by rw [List.getD_eq_getElem?_getD, he]; rfl
      replace he := Lib.hid he
      replace hm := Lib.hid hm
      replace hg := Lib.hid hg
      clear l2
      cases c1 : (lf == f) with
      | false =>
        have HN : Hid (NoLink links f t (k + 1)) := all_upto (p := linkP f t) HP.out (by rw [hg.out]; show (lf == f && lt == t) = false; rw [c1]; rfl)
        go_wp2
        go_roundw
        case rel => exact ⟨k + 1, by omega, by go_num, HN, HB, HX⟩
        case measure => simp [intOf]; omega
      | true =>
        cases c2 : (lt == t) with
        | false =>
          have HN : Hid (NoLink links f t (k + 1)) := all_upto (p := linkP f t) HP.out (by rw [hg.out]; show (lf == f && lt == t) = false; rw [c2]; simp)
          go_wp2
          go_roundw
          case rel => exact ⟨k + 1, by omega, by go_num, HN, HB, HX⟩
          case measure => simp [intOf]; omega
        | true =>
          have HR : Hid (findL links f t = k) := idx_hit he.out (by show (lf == f && lt == t) = true; rw [c1, c2]; rfl) HP.out
          go_wp2
          go_ret
          exact ⟨by rw [HR.out]; rfl, HB.out⟩
    · have HR : Hid (findL links f t = -1) := idx_miss (by have := hln.out; omega) HP.out
      go_wp2
      go_ret
      exact ⟨by rw [HR.out]; rfl, HB.out⟩
def goodR (N : Net) (f t : Int) : Bool :=
  decide (0 ≤ findL N.links f t) && decide (0 ≤ findL N.links t f) && heardB N.threshold N.noise (N.margin.getD (findL N.links f t).toNat 0) 0 && heardB N.threshold N.noise (N.margin.getD (findL N.links t f).toNat 0) 0
end Nt
end Go.Proofs.Ythibgpgjioepfaa
