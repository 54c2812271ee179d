/- the walk of ConflictQuiet. -/
import Derived.Test.YthibgpgjioepfaaLaw3
import Derived.Test.YthibgpgjioepfaaCopy2
import Derived.Test.YthibgpgjioepfaaQuiet
namespace Go.Proofs.Ythibgpgjioepfaa
open Go Go.RowKit Go.Sort
namespace Nt
open Mm
theorem flat_set (xs : List Int) (j : Nat) (x : Int) : flat 1 intV (xs.set j x) = (flat 1 intV xs).set j (.int .i64 x) := by
  induction xs generalizing j with
  | nil => rfl
  | cons y ys ih =>
    cases j with
    | zero => simp [flat, intV]
    | succ j => simp [flat, ih]
theorem owns_put {w : World} {base g n cap j : Nat} {xs : List Int} {x : Int} (h : w.ownsRow base 3 1 (Value.slice (some ⟨g, 0, none⟩) n cap) n (flat 1 intV xs)) : (w.setCell ⟨g, j, none⟩ (.int .i64 x)).ownsRow base 3 1 (Value.slice (some ⟨g, 0, none⟩) n cap) n (flat 1 intV (xs.set j x)) := by
  refine ⟨by rw [flat_length, List.length_set, ← flat_length 1 intV]; exact h.1, ?_⟩
  rcases h.2 with ⟨hv, _⟩ | ⟨g', cap', cur, hv, hb, hg, hnc, hm, hs, ht⟩
  · cases hv
  · cases hv
    refine .inr ⟨g, cap, cur.setIfInBounds j (.int .i64 x), rfl, hb, heap_setCell_same w g j cur _ _ hg, hnc, hm, by simpa using hs, ?_⟩
    rw [flat_set, ← ht, Array.toList_setIfInBounds, List.take_set]
theorem OwnRs.put {w : World} {base : Nat} {vP : Value} {hs : List Value} {rows : List (List Int)} {a j g n c : Nat} {x : Int} (h : OwnRs w base vP hs rows) (ha : hs[a]? = some (Value.slice (some ⟨g, 0, none⟩) n c)) :
    OwnRs (w.setCell ⟨g, j, none⟩ (.int .i64 x)) base vP hs (rows.set a ((rows.getD a []).set j x)) := by
  have hg : w.grownBy (w.setCell ⟨g, j, none⟩ (.int .i64 x)) (some g) := gb_set (gb_refl w _) _
  have hal : a < rows.length := by rw [← h.len]; exact (List.getElem?_eq_some_iff.1 ha).1
  have hvp : vP.ownBlock ≠ some g := by
    obtain ⟨g', cap', e, _, hne⟩ := h.row a hal
    rw [ha] at e
    injection e with e
    injection e with e1
    injection e1 with e1
    injection e1 with e1
    subst e1
    exact hne
  refine ⟨by rw [List.length_set]; exact h.len, h.outer.kept hg (.inr hvp), fun i hi => ?_, h.apart⟩
  rw [List.length_set] at hi
  obtain ⟨g', cap', e, ho, hne⟩ := h.row i hi
  by_cases ei : i = a
  · subst ei
    rw [ha] at e
    injection e with e
    injection e with e1 e2 e3
    injection e1 with e1
    injection e1 with e1
    subst e1 e2 e3
    have hgd : (rows.set i ((rows.getD i []).set j x)).getD i [] = (rows.getD i []).set j x := by
      rw [List.getD_eq_getElem?_getD (l := rows.set i _), List.getElem?_set_self hal]; rfl
    rw [hgd, List.length_set]
    exact ⟨g, c, ha, owns_put ho, hne⟩
  · have hgd : (rows.set a ((rows.getD a []).set j x)).getD i [] = rows.getD i [] := by
      rw [List.getD_eq_getElem?_getD (l := rows.set a _), List.getElem?_set_ne (fun h => ei h.symm), ← List.getD_eq_getElem?_getD]
    rw [hgd]
    refine ⟨g', cap', e, ho.kept hg (.inr (fun hr => ?_)), hne⟩
    have : g' = g := by simpa [Value.ownBlock] using hr
    subst this
    exact h.apart i a g' _ _ _ _ ei e ha
theorem OwnRs.cell {w : World} {base : Nat} {A : Option Addr} {n c : Nat} {hs : List Value} {rows : List (List Int)} (h : OwnRs w base (.slice A n c) hs rows) {a : Nat} (ha : a < rows.length) :
    ∃ g0 g cap, A = some ⟨g0, 0, none⟩ ∧ n = rows.length ∧ base ≤ g ∧ hs[a]? = some (Value.slice (some ⟨g, 0, none⟩) (rows.getD a []).length cap) ∧ w.cell? ⟨g0, a, none⟩ = some (Value.slice (some ⟨g, 0, none⟩) (rows.getD a []).length cap) ∧
      ∀ j, j < (rows.getD a []).length → w.cell? ⟨g, j, none⟩ = some (.int .i64 ((rows.getD a []).getD j 0)) ∧ w.frozen? ⟨g, j, none⟩ = false := by
  obtain ⟨g, cap, e, ho, _⟩ := h.row a ha
  have hl := h.len
  rcases h.outer.2 with ⟨_, h0⟩ | ⟨g0, cap0, cur0, hv, hb0, hg0, hn0, hm0, hs0, ht0⟩
  · omega
  · injection hv with e1 e2 e3
    rcases ho.2 with ⟨hv', _⟩ | ⟨g1, cap1, cur1, hv', hb1, hg1, hn1, hm1, hs1, ht1⟩
    · cases hv'
    · cases hv'
      refine ⟨g0, g, cap, e1, by omega, hb1, e, ?_, fun j hj => ?_⟩
      · rw [cell_of_row w g0 a cur0 _ _ hg0]
        have := congrArg (fun l : List Value => l[a]?) ht0
        rw [e, List.getElem?_take, if_pos (by omega)] at this
        simpa using this
      · rw [cell_of_row w g j cur1 _ _ hg1, frozen_of_row w g j cur1 _ hg1]
        have := congrArg (fun l : List Value => l[j]?) ht1
        have hf := flat_at 1 intV (rows.getD a []) j 0 hj (by decide)
        rw [show j * 1 + 0 = j by omega] at hf
        rw [hf, List.getElem?_take, if_pos (by omega)] at this
        refine ⟨?_, rfl⟩
        simpa [intV] using this
theorem good_check {N : Net} {cs : List Cel} (hg : goodN N cs = true) : check N = 0 := by
  unfold goodN at hg
  simp only [Bool.and_eq_true, decide_eq_true_eq] at hg
  exact hg.1
/-- what holds at the head of a round of the law -/
structure QtR (w w3 wr : World) (Bm : Nat) (CN CM : Array Value) (vL vM vP : Value) (hs : List Value) (links : List Lnk) (margin : List Int) (rows : List (List Int)) : Prop where
  below : Below w.heap.size w wr
  net : Box wr w.heap.size CN
  mbox : Blk wr Bm CM 26
  own : OwnRs wr w3.heap.size vP hs rows
  ownL : wr.ownsRow w3.heap.size 44 3 vL links.length (flat 3 lnkV links)
  ownM : wr.ownsRow w3.heap.size 3 1 vM margin.length (flat 1 intV margin)
  apart : ∀ (i g n c : Nat), hs[i]? = some (Value.slice (some ⟨g, 0, none⟩) n c) → vL.ownBlock ≠ some g ∧ vM.ownBlock ≠ some g ∧ Bm ≠ g
  lo : w.heap.size < w3.heap.size
theorem OwnRs.keep {w w' : World} {base : Nat} {vP : Value} {hs : List Value} {rows : List (List Int)} (h : OwnRs w base vP hs rows) (hb : Below w.heap.size w w') : OwnRs w' base vP hs rows :=
  h.kept (r := none) ⟨hb.os, hb.tape, hb.output, hb.size, fun i hi _ => hb.block i hi⟩ (by cases vP.ownBlock <;> simp) (fun g hg => by cases hg)
theorem QtR.keep {w w3 wr w' : World} {Bm : Nat} {CN CM : Array Value} {vL vM vP : Value} {hs : List Value} {links : List Lnk} {margin : List Int} {rows : List (List Int)} (h : QtR w w3 wr Bm CN CM vL vM vP hs links margin rows) (hb : Below wr.heap.size wr w') :
    QtR w w3 w' Bm CN CM vL vM vP hs links margin rows :=
  ⟨h.below.keep hb, h.net.keep hb, h.mbox.keep hb, h.own.keep hb, owns_keep h.ownL hb, owns_keep h.ownM hb, h.apart, h.lo⟩
theorem QtR.put {w w3 wr : World} {Bm : Nat} {CN CM : Array Value} {vL vM vP : Value} {hs : List Value} {links : List Lnk} {margin : List Int} {rows : List (List Int)} (h : QtR w w3 wr Bm CN CM vL vM vP hs links margin rows)
    {a j g n c : Nat} {x : Int} (ha : hs[a]? = some (Value.slice (some ⟨g, 0, none⟩) n c)) (hgb : w3.heap.size ≤ g) :
    QtR w w3 (wr.setCell ⟨g, j, none⟩ (.int .i64 x)) Bm CN CM vL vM vP hs links margin (rows.set a ((rows.getD a []).set j x)) := by
  have hg : wr.grownBy (wr.setCell ⟨g, j, none⟩ (.int .i64 x)) (some g) := gb_set (gb_refl wr _) _
  obtain ⟨a1, a2, a3⟩ := h.apart a g n c ha
  have hlo := h.lo
  refine ⟨h.below.setCell (by simp; omega) _, ⟨Nat.lt_of_lt_of_le h.net.lt hg.size, fun i => ?_⟩, h.mbox.other (by simpa using a3) _, h.own.put ha, h.ownL.kept hg (.inr a1), h.ownM.kept hg (.inr a2), h.apart, h.lo⟩
  rw [World.cell?_of_block (w := wr) (hg.block _ h.net.lt (fun e => by injection e with e; have e2 : w.heap.size = g := e; omega))]
  exact h.net.at_ i
set_option maxRecDepth 100000 in
set_option maxHeartbeats 16000000 in
theorem ConflictQuiet_any (N : Net) (v : NetV) (A : Option Addr) (n c : Nat) (cs : List Cel) (qn qt qp : Int) (k1 : 0 ≤ qn ∧ qn < 65536) (k2 : 0 ≤ qt ∧ qt < 65536) (k3 : 0 ≤ qp ∧ qp < 65536) (w : World) (hN : NetIs w v N) (hs : CelS w A n cs) :
    Calls Try.prog 5 #[.agg #[.int .i64 N.nodes, .slice v.PA v.pn v.pc, .int .i64 N.noise, .int .i64 N.threshold, .slice v.LA v.ln v.lc, .slice v.MA v.mn v.mc], .slice A n c, .int .u16 qn, .int .u16 qt, .int .u16 qp] w fun e w' => e = .returned (.bool true) ∧ Below w.heap.size w w' := by
  have HF := fun W (h : NetIs W v N) => few_any N v W h
  have HG := fun W (h : NetIs W v N) (h2 : CelS W A n cs) hn => Good_any N v A n c cs W h h2 hn
  have HI := fun W (h : NetIs W v N) a b => index_any N v a b W h
  have HCp := fun (hc : check N = 0) W (h : NetIs W v N) => copy_any N v W h (check_zero hc).2.1 (by have := (check_zero hc).1; unfold badNodes at this; simp at this; omega) (by have := (check_zero hc).2.2.2.2.1; omega) (by have := (check_zero hc).2.2.2.2.1; have := (check_zero hc).2.2.2.2.2.1; omega)
  have LC := fun (h : goodN N cs = true) => good_check h
  have LB : check N = 0 → (2 ≤ N.nodes ∧ N.nodes ≤ 32) ∧ ((0 ≤ N.noise ∧ N.noise ≤ 68719476736) ∧ (1000 ≤ N.threshold ∧ N.threshold ≤ 100000)) ∧ (N.power.length : Int) = N.nodes ∧ ∀ a, a < N.power.length → ((N.power.getD a []).length : Int) = N.nodes ∧ ∀ x ∈ N.power.getD a [], 0 ≤ x ∧ x ≤ 68719476736 := fun hc => by
    obtain ⟨c1, c2, c3, c4, _⟩ := check_zero hc
    refine ⟨by unfold badNodes at c1; simp at c1; omega, noise_ok c4, c2.rows, fun a ha => ?_⟩
    have hm : N.power.getD a [] ∈ N.power := by rw [List.getD_eq_getElem?_getD, List.getElem?_eq_getElem ha]; exact List.getElem_mem ha
    exact ⟨c2.cols _ hm, c3 _ hm⟩
  have LQ := fun (hg : goodN N cs = true) a ha no th hn ht k => quiet_good (quieter_mk (good_check hg) (a := a) ha (noise := no) (thr := th) hn ht k) hg
  have LR := fun (hc : check N = 0) a (ha : a < N.power.length) k => fun x hx => rowTo_mem (N := N) (a := (a : Int)) (xs := N.power.getD a []) (by
    have hm : N.power.getD a [] ∈ N.power := by rw [List.getD_eq_getElem?_getD, List.getElem?_eq_getElem ha]; exact List.getElem_mem ha
    exact (check_zero hc).2.2.1 _ hm) k x hx
  have hlen := hs.els.len
  have hns := hs.els.small
  unfold maxLen at hns
  generalize hFW : fewN N = F at *
  generalize hGG : goodN N cs = G at *
  generalize hCC : check N = C at *
  replace HF := Lib.hid HF
  replace HG := Lib.hid HG
  replace HI := Lib.hid HI
  replace HCp := Lib.hid HCp
  replace LC := Lib.hid LC
  replace LB := Lib.hid LB
  replace LQ := Lib.hid LQ
  replace LR := Lib.hid LR
  replace hFW := Lib.hid hFW
  replace hGG := Lib.hid hGG
  replace hCC := Lib.hid hCC
  replace hlen := Lib.hid hlen
  have hpn := hN.power.len
  obtain ⟨PA, pn, pc, LA, ln, lc, MA, mn, mc⟩ := v
  obtain ⟨nodes, power, noise, thr, links, margin⟩ := N
  dsimp only at *
  have hbw := below_alloc w (.cells #[.int .i64 nodes, .slice PA pn pc, .int .i64 noise, .int .i64 thr, .slice LA ln lc, .slice MA mn mc] 26)
  have BX := Box.new w #[.int .i64 nodes, .slice PA pn pc, .int .i64 noise, .int .i64 thr, .slice LA ln lc, .slice MA mn mc] 26
  replace hN := Lib.hid hN
  replace hs := Lib.hid hs
  replace BX := Lib.hid BX
  replace hbw := Lib.hid hbw
  replace hpn := Lib.hid hpn
  go_enter Try.func5, Try.ntmps5
  go_wp2_with fail
  refine (awake_any _).mono ?_
  rintro e w1 ⟨rfl, hb_⟩
  replace BX := Lib.hid (BX.out.keep hb_)
  replace hbw := Lib.hid (hbw.out.keep hb_)
  clear hb_
  have kx := BX.out.at_
  have c1 := Lib.hid (HF.out _ (hN.out.keep hbw.out))
  go_wp2_with fail
  refine c1.out.mono ?_
  rintro e w2 ⟨rfl, hb_⟩
  clear kx c1
  replace BX := Lib.hid (BX.out.keep hb_)
  replace hbw := Lib.hid (hbw.out.keep hb_)
  clear hb_
  cases F with
  | false =>
    go_wp2
    go_ret
    exact ⟨rfl, hbw.out⟩
  | true =>
  by_cases hn10 : 10 < n
  · go_wp2
    go_ret
    exact ⟨rfl, hbw.out⟩
  have hn : n ≤ 100000 := by omega
  have kx := BX.out.at_
  have c1 := Lib.hid (HG.out _ (hN.out.keep hbw.out) (hs.out.keep hbw.out) hn)
  go_wp2_with fail
  refine c1.out.mono ?_
  rintro e w3 ⟨rfl, hb_⟩
  clear kx c1
  replace BX := Lib.hid (BX.out.keep hb_)
  replace hbw := Lib.hid (hbw.out.keep hb_)
  clear hb_
  cases G with
  | false =>
    go_wp2
    go_ret
    exact ⟨rfl, hbw.out⟩
  | true =>
  have hC := LC.out rfl
  have hl3 := BX.out.lt
  obtain ⟨⟨b1, b2⟩, ⟨⟨b3, b4⟩, b5, b6⟩, b7, b8⟩ := LB.out hC
  have kx := BX.out.at_
  have c1 := Lib.hid (HCp.out hC _ (hN.out.keep hbw.out))
  replace b7 := Lib.hid b7
  replace b8 := Lib.hid b8
  replace hC := Lib.hid hC
  go_wp2_with fail
  refine c1.out.mono ?_
  rintro e w4 ⟨vL, vM, vP, hs2, rfl, HE⟩
  obtain ⟨AL, cL, rfl⟩ := owns_slice HE.ownL
  obtain ⟨AM, cM, rfl⟩ := owns_slice HE.ownM
  obtain ⟨AP, cP, rfl⟩ := owns_slice HE.own.outer
  have hh2 : hs2.length = pn := by rw [HE.own.len]; exact hpn.out
  obtain rfl : pn = hs2.length := hh2.symm
  replace BX := Lib.hid (BX.out.keep HE.below)
  replace hbw := Lib.hid (hbw.out.keep HE.below)
  clear kx c1
  have kx := BX.out.at_
  have hl4 := BX.out.lt
  have j1 := k1.1
  have j2 := k1.2
  have j3 := k2.1
  have j4 := k2.2
  have j5 := k3.1
  have j6 := k3.2
  go_upto_region 8 with fail
  have hno : 0 ≤ (if qn % 8 < noise then noise - qn % 8 else 0) ∧ (if qn % 8 < noise then noise - qn % 8 else 0) ≤ noise := by split <;> omega
  have hth : 1000 ≤ (if 1000 < thr - qt % 2000 then thr - qt % 2000 else 1000) ∧ (if 1000 < thr - qt % 2000 then thr - qt % 2000 else 1000) ≤ thr := by split <;> omega
  generalize (if qn % 8 < noise then noise - qn % 8 else 0) = no at *
  generalize (if 1000 < thr - qt % 2000 then thr - qt % 2000 else 1000) = th at *
  have hpl : hs2.length = power.length := hpn.out.symm
  have hpz : 0 < hs2.length := by have := b7.out; omega
  obtain ⟨a, ha⟩ : ∃ a : Nat, qp % (hs2.length : Int) = (a : Int) := Int.eq_ofNat_of_zero_le (Int.emod_nonneg _ (by omega))
  have hh32 : hs2.length ≤ 32 := by have := b7.out; omega
  have hal : a < hs2.length := by have := Int.emod_lt_of_pos qp (show (0 : Int) < (hs2.length : Int) by omega); omega
  have hap : a < power.length := by omega
  have hsz34 := HE.below.size
  have hlo3 : w.heap.size < w3.heap.size := hl3
  have HQ : QtR w w3 (w4.alloc (.cells #[.int .i64 nodes, .slice AP hs2.length cP, .int .i64 no, .int .i64 th, .slice AL links.length cL, .slice AM margin.length cM] 26)) w4.heap.size #[.int .i64 nodes, .slice PA hs2.length pc, .int .i64 noise, .int .i64 thr, .slice LA ln lc, .slice MA mn mc] #[.int .i64 nodes, .slice AP hs2.length cP, .int .i64 no, .int .i64 th, .slice AL links.length cL, .slice AM margin.length cM] (.slice AL links.length cL) (.slice AM margin.length cM) (.slice AP hs2.length cP) hs2 links margin (power.set a (rowTo ⟨nodes, power, noise, thr, links, margin⟩ (a : Int) (power.getD a []) 0)) := by
    have e : power.set a (rowTo ⟨nodes, power, noise, thr, links, margin⟩ (a : Int) (power.getD a []) 0) = power := by
      show power.set a (power.getD a []) = power
      rw [List.getD_eq_getElem?_getD, List.getElem?_eq_getElem hap]
      exact List.set_getElem_self hap
    rw [e]
    refine ⟨hbw.out.alloc hbw.out.size _, BX.out.alloc _, Blk.new _ _ _, HE.own.alloc _, HE.ownL.alloc _, HE.ownM.alloc _, fun i g n c hi => ?_, hlo3⟩
    have h2 := HE.apart i g n c hi
    refine ⟨h2.1, h2.2, fun e => ?_⟩
    have hil : i < power.length := by rw [hpn.out]; exact (List.getElem?_eq_some_iff.1 hi).1
    obtain ⟨g', cap', e1, ho, _⟩ := HE.own.row i hil
    rw [hi] at e1
    injection e1 with e1
    injection e1 with e1
    injection e1 with e1
    injection e1 with e1
    subst e1
    have := (ho.lt g rfl).2
    omega
  have hl0 : ((hs2.length : Int) == 0) = false := by rw [beq_eq_false_iff_ne]; omega
  have hrl : (power.getD a []).length = hs2.length := by have := (b8.out a hap).1; have := b7.out; omega
  have hR0 := fun k => rowTo_len ⟨nodes, power, noise, thr, links, margin⟩ (a : Int) (power.getD a []) k
  generalize hRT : rowTo ⟨nodes, power, noise, thr, links, margin⟩ (a : Int) (power.getD a []) = RT at *
  have hset : ∀ xs : List Int, (power.set a xs).getD a [] = xs := fun xs => by rw [List.getD_eq_getElem?_getD, List.getElem?_set_self hap]; rfl
  have hsl : ∀ xs : List Int, (power.set a xs).length = power.length := fun xs => by simp
  obtain ⟨g0, g, cap, rfl, hx_, hgb, hsa, hc0, hcj⟩ := HQ.own.cell (a := a) (by rw [hsl]; exact hap)
  clear hx_
  rw [hset, hR0, hrl] at hsa hc0
  have hgz : g0 < w4.heap.size := HE.own.outer.lt g0 rfl |>.2
  replace HQ := Lib.hid HQ
  replace HE := Lib.hid HE
  replace hpl := Lib.hid hpl
  replace hap := Lib.hid hap
  replace hrl := Lib.hid hrl
  replace hR0 := Lib.hid hR0
  replace hRT := Lib.hid hRT
  replace hset := Lib.hid hset
  replace hsl := Lib.hid hsl
  replace hsa := Lib.hid hsa
  clear hcj BX hbw kx hl4 HCp
  generalize w4.alloc (.cells #[.int .i64 nodes, .slice (some ⟨g0, 0, none⟩) hs2.length cP, .int .i64 no, .int .i64 th, .slice AL links.length cL, .slice AM margin.length cM] 26) = w5 at *
  generalize w4.heap.size = Bm at *
  have km := HQ.out.mbox.cell
  go_upto_region 11 with fail
  rw [ha]
  clear ha
  have hrs : Hid (∀ wr rows, QtR w w3 wr Bm #[.int .i64 nodes, .slice PA hs2.length pc, .int .i64 noise, .int .i64 thr, .slice LA ln lc, .slice MA mn mc] #[.int .i64 nodes, .slice (some ⟨g0, 0, none⟩) hs2.length cP, .int .i64 no, .int .i64 th, .slice AL links.length cL, .slice AM margin.length cM] (.slice AL links.length cL) (.slice AM margin.length cM) (.slice (some ⟨g0, 0, none⟩) hs2.length cP) hs2 links margin rows → rows.length = power.length → (rows.getD a []).length = hs2.length →
      wr.cell? ⟨g0, a, none⟩ = some (Value.slice (some ⟨g, 0, none⟩) hs2.length cap) ∧ ∀ j, j < hs2.length → wr.cell? ⟨g, j, none⟩ = some (.int .i64 ((rows.getD a []).getD j 0)) ∧ wr.frozen? ⟨g, j, none⟩ = false) := by
    intro wr rows hq h1 h2
    obtain ⟨g0', g', cap', e0, _, _, es, ec, ej⟩ := hq.own.cell (a := a) (by rw [h1]; exact hap.out)
    injection e0 with e0
    injection e0 with e0
    subst e0
    rw [hsa.out] at es
    injection es with es
    injection es with es1 es2 es3
    injection es1 with es1
    injection es1 with es1
    subst es1 es3
    rw [h2] at ec ej
    exact ⟨ec, ej⟩
  go_wp2_with fail
  go_loopw [13, 64] (fun _ i wr => ∃ k : Nat, k ≤ hs2.length ∧ i = .int .i64 k ∧ Hid (QtR w w3 wr Bm #[.int .i64 nodes, .slice PA hs2.length pc, .int .i64 noise, .int .i64 thr, .slice LA ln lc, .slice MA mn mc] #[.int .i64 nodes, .slice (some ⟨g0, 0, none⟩) hs2.length cP, .int .i64 no, .int .i64 th, .slice AL links.length cL, .slice AM margin.length cM] (.slice AL links.length cL) (.slice AM margin.length cM) (.slice (some ⟨g0, 0, none⟩) hs2.length cP) hs2 links margin (power.set a (RT k)))) (fun _ i _ => hs2.length - (intOf i).toNat)
  case atStart => exact ⟨0, by omega, rfl, HQ⟩
  case round =>
    obtain ⟨k, hk, rfl, HR⟩ := hrel
    clear HQ km hc0
    have kx := HR.out.net.at_
    by_cases hlt : k < hs2.length
    · have c1 := Lib.hid (HI.out _ (hN.out.keep HR.out.below) (a : Int) (k : Int))
      go_wp2_with fail
      refine c1.out.mono ?_
      rintro e w6 ⟨rfl, hb_⟩
      clear kx c1
      replace HR := Lib.hid (HR.out.keep hb_)
      clear hb_
      have hRk : RT (k + 1) = if indexN ⟨nodes, power, noise, thr, links, margin⟩ (a : Int) (k : Int) < 0 then (RT k).set k ((RT k).getD k 0 / 2) else RT k := by rw [← hRT.out]; rfl
      generalize indexN ⟨nodes, power, noise, thr, links, margin⟩ (a : Int) (k : Int) = IX at *
      by_cases hix : IX < 0
      · rw [if_pos hix] at hRk
        obtain ⟨d0, dj⟩ := hrs.out w6 _ HR.out (hsl.out _) (by rw [hset.out, hR0.out, hrl.out])
        obtain ⟨d1, d2⟩ := dj k hlt
        rw [hset.out] at d1
        have hxk : 0 ≤ (RT k).getD k 0 := by
          rcases getD_mem_or (RT k) k 0 with e | e
          · rw [e]; omega
          · rw [← hRT.out] at e ⊢; exact (LR.out hC.out a hap.out k _ e).1
        have hxu : (RT k).getD k 0 ≤ 68719476736 := by
          rcases getD_mem_or (RT k) k 0 with e | e
          · rw [e]; omega
          · rw [← hRT.out] at e ⊢; exact (LR.out hC.out a hap.out k _ e).2
        have HP := HR.out.put (j := k) (x := (RT k).getD k 0 / 2) hsa.out hgb
        have eset : (power.set a (RT k)).set a (((power.set a (RT k)).getD a []).set k ((RT k).getD k 0 / 2)) = power.set a (RT (k + 1)) := by rw [hset.out, List.set_set, hRk]
        rw [eset] at HP
        have km : w6.cell? ⟨Bm, 1, none⟩ = some (.slice (some ⟨g0, 0, none⟩) hs2.length cP) := HR.out.mbox.cell 1
        generalize (RT k).getD k 0 = x at *
        replace HP := Lib.hid HP
        replace eset := Lib.hid eset
        replace hRk := Lib.hid hRk
        replace dj := Lib.hid dj
        go_wp2
        go_roundw
        case rel => exact ⟨k + 1, by omega, by go_num, HP⟩
        case measure => simp [intOf]; omega
      · rw [if_neg hix] at hRk
        have HP : Hid (QtR w w3 w6 Bm #[.int .i64 nodes, .slice PA hs2.length pc, .int .i64 noise, .int .i64 thr, .slice LA ln lc, .slice MA mn mc] #[.int .i64 nodes, .slice (some ⟨g0, 0, none⟩) hs2.length cP, .int .i64 no, .int .i64 th, .slice AL links.length cL, .slice AM margin.length cM] (.slice AL links.length cL) (.slice AM margin.length cM) (.slice (some ⟨g0, 0, none⟩) hs2.length cP) hs2 links margin (power.set a (RT (k + 1)))) := by
          show QtR _ _ _ _ _ _ _ _ _ _ _ _ _
          rw [hRk]; exact HR.out
        replace hRk := Lib.hid hRk
        go_wp2
        go_roundw
        case rel => exact ⟨k + 1, by omega, by go_num, HP⟩
        case measure => simp [intOf]; omega
    · obtain rfl : k = hs2.length := by omega
      have HQG := LQ.out trivial a hap.out no th hno hth hs2.length
      rw [hRT.out] at HQG
      have hNM : NetIs wr ⟨some ⟨g0, 0, none⟩, hs2.length, cP, AL, links.length, cL, AM, margin.length, cM⟩ ⟨nodes, power.set a (RT hs2.length), no, th, links, margin⟩ := by
        refine ⟨?_, (lnkS_of_owns HR.out.ownL (hN.out.links.ok)).2, (intS_of_owns HR.out.ownM (hN.out.margin.ok)).2, by show I64 nodes; unfold I64; omega, by show I64 no; unfold I64; omega, by show I64 th; unfold I64; omega⟩
        have := rowS_of_ownRs HR.out.own (fun xs hx x hxx => by
          rcases List.mem_or_eq_of_mem_set hx with h | h
          · have h9 := hN.out.power
            obtain ⟨i, hi, rfl⟩ := List.mem_iff_getElem.1 h
            obtain ⟨_, _, _, _, h2⟩ := h9.at_ (by show 0 < hs2.length; omega)
            obtain ⟨_, _, _, _, h4⟩ := h2 i (by show i < hs2.length; rw [hpl.out]; exact hi)
            have e : power.getD i [] = power[i] := by rw [List.getD_eq_getElem?_getD, List.getElem?_eq_getElem hi]; rfl
            dsimp only at h4
            rw [e] at h4
            exact h4.ok x hxx
          · rw [h, ← hRT.out] at hxx
            have := LR.out hC.out a hap.out hs2.length x hxx
            unfold I64; omega)
        rw [hsl.out, ← hpl.out] at this
        exact this
      have cg := Good_any ⟨nodes, power.set a (RT hs2.length), no, th, links, margin⟩ ⟨some ⟨g0, 0, none⟩, hs2.length, cP, AL, links.length, cL, AM, margin.length, cM⟩ A n c cs wr hNM (hs.out.keep HR.out.below) hn
      rw [HQG] at cg
      dsimp only at cg
      have km := HR.out.mbox.cell
      have hB := HR.out.below
      replace cg := Lib.hid cg
      replace hNM := Lib.hid hNM
      replace HQG := Lib.hid HQG
      replace hB := Lib.hid hB
      go_wp2_with fail
      refine cg.out.mono ?_
      rintro e w7 ⟨rfl, hb_⟩
      go_wp2
      go_ret
      exact ⟨rfl, hB.out.keep hb_⟩
theorem conflictQuiet_walk (nodes : Int) (PA : Option Addr) (pn pc : Nat) (power : List (List Int)) (noise thr : Int) (LA : Option Addr) (ln lc : Nat) (links : List Lnk) (MA : Option Addr) (mn mc : Nat) (margin : List Int) (A : Option Addr) (n c : Nat) (cs : List Cel) (qn qt qp : Int) (w : World)
    (h1 : (Lit.int .i64 nodes).wf = true) (h2 : RowS w PA pn power) (h3 : (Lit.int .i64 noise).wf = true) (h4 : (Lit.int .i64 thr).wf = true) (h5 : LnkS w LA ln links) (h6 : IntS w MA mn margin) (h7 : CelS w A n cs) (h8 : (Lit.int .u16 qn).wf = true) (h9 : (Lit.int .u16 qt).wf = true) (h10 : (Lit.int .u16 qp).wf = true) :
    Calls Try.prog 5 #[.agg #[.int .i64 nodes, .slice PA pn pc, .int .i64 noise, .int .i64 thr, .slice LA ln lc, .slice MA mn mc], .slice A n c, .int .u16 qn, .int .u16 qt, .int .u16 qp] w fun e w' => e = .returned (.bool true) ∧ Below w.heap.size w w' :=
  have key : ∀ q : Int, (Lit.int .u16 q).wf = true → 0 ≤ q ∧ q < 65536 := fun q h => by
    unfold Lit.wf at h
    rw [Bool.and_eq_true, decide_eq_true_eq, decide_eq_true_eq] at h
    have e1 : IntKind.u16.min = 0 := rfl
    have e2 : IntKind.u16.max = 65535 := rfl
    omega
  ConflictQuiet_any ⟨nodes, power, noise, thr, links, margin⟩ ⟨PA, pn, pc, LA, ln, lc, MA, mn, mc⟩ A n c cs qn qt qp (key _ h8) (key _ h9) (key _ h10) w (netIs_of h1 h2 h3 h4 h5 h6) h7
end Nt
end Go.Proofs.Ythibgpgjioepfaa
