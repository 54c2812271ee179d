/- the walk of ConflictParts. -/
import Derived.Test.YthibgpgjioepfaaLaw3
import Derived.Test.YthibgpgjioepfaaRev
import Derived.Deep.Cut
namespace Go.Proofs.Ythibgpgjioepfaa
open Go Go.RowKit Go.Sort
namespace Nt
open Mm
set_option maxHeartbeats 1000000 in
theorem reverse_nil (c : Nat) (w : World) :
    Calls Try.prog 27 #[.slice none 0 c] w fun e w' => e = .returned (.tuple #[]) ∧ w = w' := by
  go_enter Try.func27, Try.ntmps27
  go_wp2
  refine wp_loop_rounds 1 ?_
  rw [rounds_succ]
  go_wp2
  go_end0
  exact ⟨rfl, rfl⟩
/-- a clone, turned round -/
theorem reverseO_any (A : Option Addr) (n c : Nat) (cs : List Cel) (w0 w : World) (h : w.ownsRow w0.heap.size 36 5 (.slice A n c) n (flat 5 cellV cs)) (hb : Below w0.heap.size w0 w) (ok : ∀ x ∈ cs, x.ok) (hn : n ≤ 1000) :
    Calls Try.prog 27 #[.slice A n c] w fun e w' => e = .returned (.tuple #[]) ∧ CelS w' A n cs.reverse ∧ Below w0.heap.size w0 w' := by
  have hl : cs.length = n := (owns_read (by decide) h).1
  rcases A with _ | ⟨g, o, s⟩
  · have h0 : n = 0 := by
      rcases h.2 with ⟨_, h0⟩ | ⟨g, cap, cur, hv, _⟩
      · exact h0
      · cases hv
    subst h0
    have hc : cs = [] := List.length_eq_zero_iff.1 hl
    subst hc
    refine (reverse_nil c w).mono ?_
    rintro e w' ⟨rfl, rfl⟩
    exact ⟨rfl, ⟨⟨rfl, by decide, fun h => absurd h (by omega)⟩, fun x hx => by cases hx⟩, hb⟩
  · have hgo : o = 0 ∧ s = none := by
      rcases h.2 with ⟨hv, _⟩ | ⟨g', cap, cur, hv, _⟩
      · cases hv
      · cases hv; exact ⟨rfl, rfl⟩
    obtain ⟨rfl, rfl⟩ := hgo
    obtain ⟨hnc, hbg, C, hR⟩ := revR_of_owns h
    refine (reverseC_any g c n cs C w hR hn hnc).mono ?_
    rintro e w' ⟨rfl, hg, D, hD⟩
    exact ⟨rfl, celS_of_rev hD hl (by unfold maxLen; omega) ok, hb.grown hg hb.size (fun k hk => by injection hk with hk; omega)⟩
theorem first_none {N : Net} {cs : List Cel} (h : goodN N cs = true) : firstN N cs = none := by
  unfold goodN at h
  simp only [Bool.and_eq_true, decide_eq_true_eq, Option.isNone_iff_eq_none] at h
  exact h.2
def pickK (keep : Int) (k : Nat) : Bool := bits BinOp.and IntKind.u16 (keep / 2 ^ k) 1 == 1
theorem place_len (p : Nat → Bool) (k : Nat) : (placeOf p k).length ≤ k := by
  induction k with
  | zero => exact Nat.le_refl _
  | succ k ih =>
    simp only [placeOf, List.length_append]
    split <;> simp <;> omega
set_option maxRecDepth 100000 in
set_option maxHeartbeats 16000000 in
theorem ConflictParts_any (N : Net) (v : NetV) (A : Option Addr) (n c : Nat) (cs : List Cel) (keep : Int) (hkp : 0 ≤ keep ∧ keep < 65536) (w : World) (hN : NetIs w v N) (hs : CelS w A n cs) (hnc : n ≤ c) :
    Calls Try.prog 8 #[.agg #[.int .i64 N.nodes, .slice v.PA v.pn v.pc, .int .i64 N.noise, .int .i64 N.threshold, .slice v.LA v.ln v.lc, .slice v.MA v.mn v.mc], .slice A n c, .int .u16 keep] w fun e w' => e = .returned (.bool true) ∧ Below w.heap.size w w' := by
  have hlen := hs.els.len
  have HF := fun W (h : NetIs W v N) => few_any N v W h
  have HG := fun W (h : NetIs W v N) (h2 : CelS W A n cs) hn => Good_any N v A n c cs W h h2 hn
  have HGr := fun W (h : NetIs W v N) A' c' (h2 : CelS W A' n cs.reverse) hn => Good_any N v A' n c' cs.reverse W h h2 hn
  rw [good_reverse] at HGr
  have HGs := fun W (h : NetIs W v N) A' n' c' ds (h2 : CelS W A' n' ds) hn => Good_any N v A' n' c' ds W h h2 hn
  have HFs := fun W (h : NetIs W v N) A' n' c' ds (h2 : CelS W A' n' ds) hn => First_any N v A' n' c' ds W h h2 hn
  have HT := fun W (h : NetIs W v N) a b ha hb => Together_any N v a b W h ha hb
  have LT := fun (hg : goodN N cs = true) (i j : Nat) (hi : i < cs.length) (hj : j < cs.length) (hij : i ≠ j) => together_of_good hg hi hj hij
  have LP := fun (hg : goodN N cs = true) (p : Nat → Bool) => emb_good (emb_picked p cs) hg
  have LF := fun ds (h : goodN N ds = true) => first_none h
  rw [hlen] at LT LP
  generalize fewN N = F at *
  generalize goodN N = G at *
  generalize togetherN N = T at *
  generalize firstN N = FI at *
  have hns := hs.els.small
  unfold maxLen at hns
  obtain ⟨nodes, power, noise, thr, links, margin⟩ := N
  obtain ⟨PA, pn, pc, LA, ln, lc, MA, mn, mc⟩ := v
  dsimp only at *
  have hbw := below_alloc w (.cells #[.int .i64 nodes, .slice PA pn pc, .int .i64 noise, .int .i64 thr, .slice LA ln lc, .slice MA mn mc] 26)
  have BX := Box.new w #[.int .i64 nodes, .slice PA pn pc, .int .i64 noise, .int .i64 thr, .slice LA ln lc, .slice MA mn mc] 26
  replace HF := Lib.hid HF
  replace HG := Lib.hid HG
  replace HGr := Lib.hid HGr
  replace HGs := Lib.hid HGs
  replace HFs := Lib.hid HFs
  replace HT := Lib.hid HT
  replace LT := Lib.hid LT
  replace LP := Lib.hid LP
  replace LF := Lib.hid LF
  replace hN := Lib.hid hN
  replace hs := Lib.hid hs
  replace BX := Lib.hid BX
  replace hbw := Lib.hid hbw
  replace hlen := Lib.hid hlen
  go_enter Try.func8, Try.ntmps8
  go_wp2_with fail
  refine (awake_any _).mono ?_
  rintro e w1 ⟨rfl, hb_⟩
  replace BX := Lib.hid (BX.out.keep hb_)
  replace hbw := Lib.hid (hbw.out.keep hb_)
  clear hb_
  have kx := BX.out.at_
  have c1 := Lib.hid (HF.out _ (hN.out.keep hbw.out))
  go_wp2_with fail
  refine c1.out.mono ?_
  rintro e w2 ⟨rfl, hb_⟩
  clear kx c1
  replace BX := Lib.hid (BX.out.keep hb_)
  replace hbw := Lib.hid (hbw.out.keep hb_)
  clear hb_
  cases F with
  | false =>
    go_wp2
    go_ret
    exact ⟨rfl, hbw.out⟩
  | true =>
  by_cases hn10 : 10 < n
  · go_wp2
    go_ret
    exact ⟨rfl, hbw.out⟩
  have hn : n ≤ 100000 := by omega
  have c1 := Lib.hid (cloneC_any A n c cs w2 (hs.out.keep hbw.out) (by omega))
  go_wp2_with fail
  refine c1.out.mono ?_
  rintro e w3 ⟨A', c', rfl, hown, hb23⟩
  clear c1
  have c1 := Lib.hid (reverseO_any A' n c' cs w2 w3 hown hb23 hs.out.ok (by omega))
  clear hown hb23
  go_wp2_with fail
  refine c1.out.mono ?_
  rintro e w4 ⟨rfl, hrev, hb_⟩
  clear c1
  replace BX := Lib.hid (BX.out.keep hb_)
  replace hbw := Lib.hid (hbw.out.keep hb_)
  clear hb_
  have kx := BX.out.at_
  have c1 := Lib.hid (HG.out _ (hN.out.keep hbw.out) (hs.out.keep hbw.out) hn)
  replace hrev := Lib.hid hrev
  go_wp2_with fail
  refine c1.out.mono ?_
  rintro e w5 ⟨rfl, hb_⟩
  clear c1 kx
  replace BX := Lib.hid (BX.out.keep hb_)
  replace hbw := Lib.hid (hbw.out.keep hb_)
  replace hrev := Lib.hid (hrev.out.keep hb_)
  clear hb_
  have kx := BX.out.at_
  have c1 := Lib.hid (HGr.out _ (hN.out.keep hbw.out) A' c' hrev.out hn)
  go_wp2_with fail
  refine c1.out.mono ?_
  rintro e w6 ⟨rfl, hb_⟩
  clear c1 kx hrev
  replace BX := Lib.hid (BX.out.keep hb_)
  replace hbw := Lib.hid (hbw.out.keep hb_)
  clear hb_
  cases hg : G cs with
  | false =>
    replace hg := Lib.hid hg
    go_wp2
    go_ret
    exact ⟨rfl, hbw.out⟩
  | true =>
  have lt := Lib.hid (LT.out hg)
  have lp := Lib.hid (LP.out hg)
  replace hg := Lib.hid hg
  go_wp2
  obtain ⟨i0, hi, hz0, hz1, hz2⟩ := info_parts info_cell
  replace hi := Lib.hid hi
  replace hz0 := Lib.hid hz0
  replace hz1 := Lib.hid hz1
  replace hz2 := Lib.hid hz2
  have HO0 : Hid (w6.ownsRow w6.heap.size 36 5 (.slice none 0 0) (picked (pickK keep) cs 0).length (flat 5 cellV (picked (pickK keep) cs 0))) := World.ownsRow_nil _ _ _ _
  go_loopw [9, 42] (fun o i wr => ∃ (k : Nat) (vS : Value), k ≤ n ∧ i = .int .i64 k ∧ vS = o ∧ Hid (wr.ownsRow w6.heap.size 36 5 vS (picked (pickK keep) cs k).length (flat 5 cellV (picked (pickK keep) cs k))) ∧ Hid (Below w6.heap.size w6 wr)) (fun _ i _ => n - (intOf i).toNat)
  case atStart => exact ⟨0, _, by omega, rfl, rfl, HO0, Below.refl _ _⟩
  case round =>
    obtain ⟨k, vS, hk, rfl, rfl, HO, HB⟩ := hrel
    clear HO0
    have hB0 := Lib.hid (hbw.out.keep HB.out)
    have hsz6 := HB.out.size
    by_cases hlt : k < n
    · obtain ⟨b, off, rfl⟩ := hs.out.els.addr (by omega)
      obtain ⟨⟨a0, a1, f, t, a4⟩, hq, hm, q0, q1, q2, q3, q4⟩ := (hs.out.keep hB0.out).elem hlt
      dsimp only at q0 q1 q2 q3 q4
      have hk1 := hkp.1
      have hk2 := hkp.2
      have hq' : cs.getD k default = ⟨a0, a1, f, t, a4⟩ := by rw [List.getD_eq_getElem?_getD, hq]; rfl
      have hpl : (picked (pickK keep) cs k).length ≤ k := by
        rw [picked_map, List.length_map]; exact place_len _ _
      have hps : picked (pickK keep) cs (k + 1) = picked (pickK keep) cs k ++ (if pickK keep k = true then [⟨a0, a1, f, t, a4⟩] else []) := by rw [← hq']; rfl
      generalize hP2 : picked (pickK keep) cs (k + 1) = PL2 at *
      generalize picked (pickK keep) cs k = PL at *
      have HOa := (HO.out.alloc (.cells #[.int .i64 a0, .int .i64 a1, .int .i64 f, .int .i64 t, .int .i64 a4] 36)).alloc (.cells #[.int .i64 a0, .int .i64 a1, .int .i64 f, .int .i64 t, .int .i64 a4] 36)
      have HBa := HB.out.alloc HB.out.size (.cells #[.int .i64 a0, .int .i64 a1, .int .i64 f, .int .i64 t, .int .i64 a4] 36)
      have HOb := HO.out.alloc (.cells #[.int .i64 a0, .int .i64 a1, .int .i64 f, .int .i64 t, .int .i64 a4] 36)
      have HQa := Box.new wr #[.int .i64 a0, .int .i64 a1, .int .i64 f, .int .i64 t, .int .i64 a4] 36
      have hnews := World.news_of_block (Blk.new (wr.alloc (.cells #[.int .i64 a0, .int .i64 a1, .int .i64 f, .int .i64 t, .int .i64 a4] 36)) #[.int .i64 a0, .int .i64 a1, .int .i64 f, .int .i64 t, .int .i64 a4] 36).at_
      have hpk : pickK keep k = (bits BinOp.and IntKind.u16 (keep / 2 ^ k) 1 == 1) := rfl
      replace hP2 := Lib.hid hP2
      replace hq := Lib.hid hq
      replace hm := Lib.hid hm
      replace hq' := Lib.hid hq'
      replace hps := Lib.hid hps
      replace HOa := Lib.hid HOa
      replace HBa := Lib.hid HBa
      replace HOb := Lib.hid HOb
      replace HQa := Lib.hid HQa
      replace hnews := Lib.hid hnews
      cases hp : (bits BinOp.and IntKind.u16 (keep / 2 ^ k) 1 == 1)
      case' false =>
        rw [hp] at hpk
        have hps2 := hps.out
        rw [hpk, if_neg (by decide), List.append_nil] at hps2
        have HO2 : Hid ((wr.alloc (.cells #[.int .i64 a0, .int .i64 a1, .int .i64 f, .int .i64 t, .int .i64 a4] 36)).ownsRow w6.heap.size 36 5 vS PL2.length (flat 5 cellV PL2)) := by show World.ownsRow _ _ _ _ _ _ _; rw [hps2]; exact HOb.out
        replace hpk := Lib.hid hpk
        replace hps2 := Lib.hid hps2
        go_upto_region 18 with fail
        generalize wr.alloc (.cells #[.int .i64 a0, .int .i64 a1, .int .i64 f, .int .i64 t, .int .i64 a4] 36) = wo at *
        have HB2 := HBa
        have HQ2 := HQa
        have hz2' : Hid True := trivial
        generalize vS = vS2 at *
        clear HO HOa HOb hnews
      case' true =>
        rw [hp] at hpk
        have hps2 := hps.out
        rw [hpk, if_pos rfl] at hps2
        replace hpk := Lib.hid hpk
        replace hps2 := Lib.hid hps2
        go_upto_region 18 with (at_builtin; refine wpList_append_lies _ rfl _ _ _ rfl w6.heap.size 36 i0 (.agg #[.int .i64 0, .int .i64 0, .int .i64 0, .int .i64 0, .int .i64 0]) 5 40 Try.underlying27 hi.out hz0.out hz1.out hz2.out rfl (by decide) vS PL.length (flat 5 cellV PL) rfl HOa.out ⟨wr.heap.size + 1, 0, none⟩ 1 1 [.int .i64 a0, .int .i64 a1, .int .i64 f, .int .i64 t, .int .i64 a4] rfl rfl ?c1 ?c2 (by decide) ?c3 ?c4 ?c5 (wr.heap.size + 1 + 1) ?c6 ?_)
        try case c1 => exact hnews.out
        try case c2 => exact ⟨rfl, rfl, rfl, rfl, rfl⟩
        try case c3 => unfold maxLen; omega
        try case c4 => omega
        try case c5 => omega
        try case c6 => simp
        intro g cap wo hown1 hgrow1 hat1 hlt1
        have HO2 : Hid (wo.ownsRow w6.heap.size 36 5 (.slice (some ⟨g, 0, none⟩) (PL.length + 1) cap) PL2.length (flat 5 cellV PL2)) := by
          show World.ownsRow _ _ _ _ _ _ _
          rw [hps2.out, flat_append, List.length_append]; exact hown1
        have HB2 := Lib.hid (below_append (HBa.out.alloc HBa.out.size (.cells #[.int .i64 a0, .int .i64 a1, .int .i64 f, .int .i64 t, .int .i64 a4] 36)) HOa.out hgrow1 (Nat.le_refl _))
        have HQ2 : Hid (Box wo wr.heap.size #[.int .i64 a0, .int .i64 a1, .int .i64 f, .int .i64 t, .int .i64 a4]) := by
          show Box _ _ _
          have hk0 : wr.heap.size < ((wr.alloc (.cells #[.int .i64 a0, .int .i64 a1, .int .i64 f, .int .i64 t, .int .i64 a4] 36)).alloc (.cells #[.int .i64 a0, .int .i64 a1, .int .i64 f, .int .i64 t, .int .i64 a4] 36)).heap.size := by simp; omega
          refine ⟨Nat.lt_of_lt_of_le hk0 hgrow1.size, fun i => ?_⟩
          rw [World.cell?_of_block (w := (wr.alloc (.cells #[.int .i64 a0, .int .i64 a1, .int .i64 f, .int .i64 t, .int .i64 a4] 36)).alloc (.cells #[.int .i64 a0, .int .i64 a1, .int .i64 f, .int .i64 t, .int .i64 a4] 36)) (hgrow1.block wr.heap.size hk0 (fun e => by have := (HO.out.lt _ e.symm).2; omega))]
          exact (HQa.out.alloc _).at_ i
        have hz2' : Hid True := trivial
        clear hown1 hgrow1 hat1 HO HOa HOb hnews HBa HQa
        generalize (Value.slice (some ⟨g, 0, none⟩) (PL.length + 1) cap) = vS2 at *
      all_goals
        clear q0 q1 q2 q3 q4 hz2'
        have hB2 := Lib.hid (hbw.out.keep HB2.out)
        have hkc : k ≤ c := by omega
        have HI0 : Hid (Below wo.heap.size wo wo) := Below.refl _ _
        go_wp2
        go_loopw [13, 60] (fun _ i wr2 => ∃ m : Nat, m ≤ k ∧ i = .int .i64 m ∧ Hid (Below wo.heap.size wo wr2)) (fun _ i _ => k - (intOf i).toNat)
        case atStart => exact ⟨0, by omega, rfl, HI0⟩
        case round =>
          obtain ⟨m, hm2, rfl, HI⟩ := hrel
          clear HI0
          by_cases hlt2 : m < k
          · obtain ⟨⟨d0, d1, df, dt, d4⟩, hd, hdm, p0, p1, p2, p3, p4⟩ := (hs.out.keep (hB2.out.keep HI.out)).elem (k := m) (by omega)
            dsimp only at p0 p1 p2 p3 p4
            have hd' : cs.getD m default = ⟨d0, d1, df, dt, d4⟩ := by rw [List.getD_eq_getElem?_getD, hd]; rfl
            have htt := lt.out k m (by omega) (by omega) (by omega)
            rw [hq'.out, hd'] at htt
            dsimp only at htt
            have ok1 := hs.out.ok _ hm.out
            have ok2 := hs.out.ok _ hdm
            have HB3 := (hB2.out.keep HI.out).alloc (hB2.out.keep HI.out).size (.cells #[.int .i64 d0, .int .i64 d1, .int .i64 df, .int .i64 dt, .int .i64 d4] 36)
            have BX3 := (BX.out.keep (HB2.out.keep HI.out)).alloc (.cells #[.int .i64 d0, .int .i64 d1, .int .i64 df, .int .i64 dt, .int .i64 d4] 36)
            have BQ3 := (HQ2.out.keep HI.out).alloc (.cells #[.int .i64 d0, .int .i64 d1, .int .i64 df, .int .i64 dt, .int .i64 d4] 36)
            have BD3 := Box.new wr #[.int .i64 d0, .int .i64 d1, .int .i64 df, .int .i64 dt, .int .i64 d4] 36
            have HI3 := HI.out.alloc HI.out.size (.cells #[.int .i64 d0, .int .i64 d1, .int .i64 df, .int .i64 dt, .int .i64 d4] 36)
            have ct := HT.out _ (hN.out.keep HB3) ⟨f, t, 0⟩ ⟨df, dt, 0⟩ ⟨ok1.2.2.1, ok1.2.2.2.1, i64_zero⟩ ⟨ok2.2.2.1, ok2.2.2.2.1, i64_zero⟩
            rw [htt] at ct
            dsimp only at ct
            have kx3 := (BX.out.keep (HB2.out.keep HI.out)).at_
            have kq3 := (HQ2.out.keep HI.out).at_
            have l1 := (BX.out.keep (HB2.out.keep HI.out)).lt
            have l2 := (HQ2.out.keep HI.out).lt
            replace hd := Lib.hid hd
            replace hdm := Lib.hid hdm
            replace hd' := Lib.hid hd'
            replace htt := Lib.hid htt
            replace ok1 := Lib.hid ok1
            replace ok2 := Lib.hid ok2
            replace HB3 := Lib.hid HB3
            replace BX3 := Lib.hid BX3
            replace BQ3 := Lib.hid BQ3
            replace BD3 := Lib.hid BD3
            replace HI3 := Lib.hid HI3
            replace ct := Lib.hid ct
            go_wp2_with fail
            refine ct.out.mono ?_
            rintro e w8 ⟨rfl, hb_⟩
            have HI4 := Lib.hid (HI3.out.keep hb_)
            clear hb_ ct HB3 BX3 BQ3 BD3 HI3 p0 p1 p2 p3 p4 kx3 kq3 l1 l2
            go_wp2
            go_roundw
            case rel => exact ⟨m + 1, by omega, by go_num, HI4⟩
            case measure => simp [intOf]; omega
          · obtain rfl : m = k := by omega
            have HO3 := Lib.hid (owns_keep HO2.out HI.out)
            have HB4 := Lib.hid (HB2.out.keep HI.out)
            go_wp2
            go_roundw
            case rel => exact ⟨m + 1, _, by omega, by go_num, rfl, by rw [hP2.out]; exact HO3, HB4⟩
            case measure => simp [intOf]; omega
    · obtain rfl : k = n := by omega
      have hgood := lp.out (pickK keep)
      have hpl : (picked (pickK keep) cs k).length ≤ k := by
        rw [picked_map, List.length_map]; exact place_len _ _
      have hok : ∀ x : Cel, x ∈ picked (pickK keep) cs k → x.ok := fun x hx => by
        rw [picked_map] at hx
        obtain ⟨i, hi, rfl⟩ := List.mem_map.1 hx
        have := place_mem hi
        refine hs.out.ok _ ?_
        rw [List.getD_eq_getElem?_getD, List.getElem?_eq_getElem (by have := hlen.out; omega)]
        exact List.getElem_mem _
      have hfn := LF.out _ hgood
      generalize picked (pickK keep) cs k = PL at *
      obtain ⟨A2, c2, rfl⟩ := owns_slice HO.out
      have hcs := (celS_of_owns HO.out hok).2
      have cF := HFs.out wr (hN.out.keep hB0.out) A2 _ c2 _ hcs (by omega)
      have cG := fun W (h : Below wr.heap.size wr W) => HGs.out W (hN.out.keep (hB0.out.keep h)) A2 _ c2 _ (hcs.keep h) (by omega)
      rw [hfn] at cF
      rw [hgood] at cG
      simp only [firstV] at cF
      have BXr := BX.out.keep HB.out
      have kx := BXr.at_
      have hz := hsz6
      replace hgood := Lib.hid hgood
      replace hok := Lib.hid hok
      replace hfn := Lib.hid hfn
      replace hcs := Lib.hid hcs
      replace cF := Lib.hid cF
      replace cG := Lib.hid cG
      replace BXr := Lib.hid BXr
      go_wp2_with fail
      refine cF.out.mono ?_
      rintro e w8 ⟨rfl, hb_⟩
      have cG2 := Lib.hid (cG.out _ hb_)
      have kx2 := (BXr.out.keep hb_).at_
      have hB9 := Lib.hid (hB0.out.keep hb_)
      clear kx hb_ cG cF
      go_wp2_with fail
      refine cG2.out.mono ?_
      rintro e w9 ⟨rfl, hb_⟩
      go_wp2
      go_ret
      exact ⟨rfl, hB9.out.keep hb_⟩
theorem conflictParts_walk (nodes : Int) (PA : Option Addr) (pn pc : Nat) (power : List (List Int)) (noise thr : Int) (LA : Option Addr) (ln lc : Nat) (links : List Lnk) (MA : Option Addr) (mn mc : Nat) (margin : List Int) (A : Option Addr) (n c : Nat) (cs : List Cel) (keep : Int) (w : World)
    (h1 : (Lit.int .i64 nodes).wf = true) (h2 : RowS w PA pn power) (h3 : (Lit.int .i64 noise).wf = true) (h4 : (Lit.int .i64 thr).wf = true) (h5 : LnkS w LA ln links) (h6 : IntS w MA mn margin) (h7 : CelS w A n cs ∧ n ≤ c) (h8 : (Lit.int .u16 keep).wf = true) :
    Calls Try.prog 8 #[.agg #[.int .i64 nodes, .slice PA pn pc, .int .i64 noise, .int .i64 thr, .slice LA ln lc, .slice MA mn mc], .slice A n c, .int .u16 keep] w fun e w' => e = .returned (.bool true) ∧ Below w.heap.size w w' :=
  ConflictParts_any ⟨nodes, power, noise, thr, links, margin⟩ ⟨PA, pn, pc, LA, ln, lc, MA, mn, mc⟩ A n c cs keep (by
    unfold Lit.wf at h8
    rw [Bool.and_eq_true, decide_eq_true_eq, decide_eq_true_eq] at h8
    have e1 : IntKind.u16.min = 0 := rfl
    have e2 : IntKind.u16.max = 65535 := rfl
    omega) w (netIs_of h1 h2 h3 h4 h5 h6) h7.1 h7.2
end Nt
end Go.Proofs.Ythibgpgjioepfaa
