/- the walk of ConflictHears. -/
import Derived.Test.YthibgpgjioepfaaLaw3
import Derived.Test.YthibgpgjioepfaaHears
import Derived.Laws.MakeOwn
import Derived.Deep.RegionHeld3
namespace Go.Proofs.Ythibgpgjioepfaa
open Go Go.RowKit Go.Sort
namespace Nt
open Mm
theorem info_bool : (Try.prog.info? 4).map (fun i => (i.zero, i.size, i.bytes)) = some (some (.bool false), 1, 1) := by kernel_rfl
theorem make_bools (n : Nat) (hn : n ≤ 1000) (w : World) : (Instr.makeSlice 34 (.int .i64 (n : Int)) (.int .i64 (n : Int))).run Try.prog w = .ok (.slice (some ⟨w.heap.size, 0, none⟩) n n) (w.alloc (.cells (madeCells #[.bool false] n) 4)) := by
  obtain ⟨i, hi, hz0, hz1, hz2⟩ := info_parts info_bool
  have hr := run_make (P := Try.prog) w 34 4 i (.bool false) Try.underlying34 hi hz0 .i64 .i64 (n : Int) (n : Int) (by omega) (by omega) (by rw [hz2]; omega) (by omega)
  simp only [Int.toNat_natCast, hz1, Nat.mul_one] at hr
  exact hr
theorem madeCells_at (v : Value) (n i : Nat) (h : i < n) : (madeCells #[v] n)[i]? = some v := by
  unfold madeCells
  simp [h, Nat.mod_one]
/-- the marks of the nodes that were seen -/
def SeenIs (C : Array Value) (n : Nat) (f : Nat → Bool) : Prop := C.size = n ∧ ∀ j, j < n → C[j]? = some (.bool (f j))
theorem SeenIs.set2 {C : Array Value} {n : Nat} {f : Nat → Bool} (h : SeenIs C n f) (a b : Nat) : SeenIs ((C.setIfInBounds a (.bool true)).setIfInBounds b (.bool true)) n (fun j => f j || a == j || b == j) := by
  refine ⟨by simp [h.1], fun j hj => ?_⟩
  rw [Array.getElem?_setIfInBounds, Array.getElem?_setIfInBounds]
  by_cases e1 : b = j
  · subst e1; simp [h.1, hj]
  · rw [if_neg e1]
    by_cases e2 : a = j
    · subst e2; simp [h.1, hj]
    · have f1 : (a == j) = false := by simpa using e2
      have f2 : (b == j) = false := by simpa using e1
      rw [if_neg e2, h.2 j hj]; dsimp only; rw [f1, f2]; simp
theorem seenB_next {cs : List Cel} {k : Nat} {c : Cel} (h : cs[k]? = some c) (x : Int) : seenB cs (k + 1) x = (seenB cs k x || c.frm == x || c.to == x) := by
  unfold seenB
  rw [List.take_add_one, h, List.any_append]
  simp [Bool.or_assoc]
theorem ways5 (a b c d : Bool) : (a = false) ∨ (a = true ∧ b = true) ∨ (a = true ∧ b = false ∧ c = true) ∨ (a = true ∧ b = false ∧ c = false ∧ d = false) ∨ (a = true ∧ b = false ∧ c = false ∧ d = true) := by
  cases a <;> cases b <;> cases c <;> cases d <;> simp
/-- what holds at the head of a round -/
structure HrR (w2 wr : World) (cs : List Cel) (nn k : Nat) (C : Array Value) : Prop where
  below : Below w2.heap.size w2 wr
  blk : Blk wr w2.heap.size C 4
  seen : SeenIs C nn (fun j => seenB cs k (j : Int))
theorem HrR.keep {w2 wr w' : World} {cs : List Cel} {nn k : Nat} {C : Array Value} (h : HrR w2 wr cs nn k C) (hb : Below wr.heap.size wr w') : HrR w2 w' cs nn k C :=
  ⟨h.below.keep hb, h.blk.keep hb, h.seen⟩
theorem HrR.drew {w2 wr : World} {cs : List Cel} {nn k : Nat} {C : Array Value} (h : HrR w2 wr cs nn k C) : HrR w2 wr.drew cs nn k C := ⟨h.below.drew, h.blk.drew, h.seen⟩
theorem HrR.store {w2 wr : World} {cs : List Cel} {nn k : Nat} {C : Array Value} (h : HrR w2 wr cs nn k C) {c : Cel} {a b : Nat} (hc : cs[k]? = some c) (ha : c.frm = (a : Int)) (hb : c.to = (b : Int)) :
    HrR w2 ((wr.setCell ⟨w2.heap.size, a, none⟩ (.bool true)).setCell ⟨w2.heap.size, b, none⟩ (.bool true)) cs nn (k + 1) ((C.setIfInBounds a (.bool true)).setIfInBounds b (.bool true)) := by
  refine ⟨(h.below.setCell (Nat.le_refl _) _).setCell (Nat.le_refl _) _, (h.blk.set a _).set b _, ?_⟩
  have := h.seen.set2 a b
  have e : (fun j : Nat => seenB cs (k + 1) (j : Int)) = (fun j : Nat => seenB cs k (j : Int) || a == j || b == j) := by
    funext j
    rw [seenB_next hc, ha, hb]
    have e1 : ((a : Int) == (j : Int)) = (a == j) := by rw [Bool.eq_iff_iff]; simp only [beq_iff_eq]; omega
    have e2 : ((b : Int) == (j : Int)) = (b == j) := by rw [Bool.eq_iff_iff]; simp only [beq_iff_eq]; omega
    rw [e1, e2]
  rw [e]
  exact this
set_option maxRecDepth 100000 in
set_option maxHeartbeats 16000000 in
theorem ConflictHears_any (N : Net) (v : NetV) (A : Option Addr) (n c : Nat) (cs : List Cel) (w : World) (hN : NetIs w v N) (hs : CelS w A n cs) :
    Calls Try.prog 4 #[.agg #[.int .i64 N.nodes, .slice v.PA v.pn v.pc, .int .i64 N.noise, .int .i64 N.threshold, .slice v.LA v.ln v.lc, .slice v.MA v.mn v.mc], .slice A n c] w fun e w' => e = .returned (.bool true) ∧ Below w.heap.size w w' := by
  have hlen := hs.els.len
  have HF := fun W (h : NetIs W v N) => few_any N v W h
  have HC := fun W (h : NetIs W v N) => check_any N v W h
  have HG := fun W (h : NetIs W v N) (h2 : CelS W A n cs) hn => Good_any N v A n c cs W h h2 hn
  have HI := fun W (h : NetIs W v N) a b => index_any N v a b W h
  have HD := fun W (h : NetIs W v N) (h2 : CelS W A n cs) hn (i : Nat) nd => Disturbance_any N v A n c cs (i : Int) nd W h h2 hn
  have HH := fun W (h : NetIs W v N) s d => Hears_any N v s d W h
  have LW := fun (hc : check N = 0) (hl : LinkedTo N cs cs.length) => want_good hc hl
  have LU := fun (hc : check N = 0) (k : Nat) (hk : k < cs.length) h => unlinked_bad hc hk h
  have LE := fun (hc : check N = 0) (f t : Int) (h : 0 ≤ indexN N f t) => index_ends hc h
  have LN : check N = 0 → 2 ≤ N.nodes ∧ N.nodes ≤ 32 := fun hc => by
    have := (check_zero hc).1
    unfold badNodes at this
    simp at this
    omega
  have LM : check N = 0 → N.margin.length = N.links.length := fun hc => (check_zero hc).2.2.2.2.2.1
  have W0 : Hid (wantTo N cs 0 = true) := rfl
  have WS : Hid (∀ k, wantTo N cs (k + 1) = (wantTo N cs k && !seenB cs k (cs.getD k default).frm && !seenB cs k (cs.getD k default).to && heardC N cs k (indexN N (cs.getD k default).frm (cs.getD k default).to) (cs.getD k default).to && heardC N cs k (indexN N (cs.getD k default).to (cs.getD k default).frm) (cs.getD k default).frm)) := fun k => rfl
  have HCe : Hid (∀ i (k : Nat) nd, heardC N cs i (k : Int) nd = hearsN N (N.margin.getD k 0) (distN N cs (i : Int) nd)) := fun i k nd => rfl
  generalize fewN N = F at *
  generalize hck : check N = C at *
  rw [hlen] at LW LU
  generalize goodN N cs = G at *
  generalize hWT : wantTo N cs = WT at *
  generalize hHC : heardC N cs = HCC at *
  generalize hHN : hearsN N = HNN at *
  generalize hDN : distN N cs = DN at *
  generalize hLK : LinkedTo N cs = LK at *
  have LK0 : Hid (LK 0) := by show LK 0; rw [← hLK]; exact fun i hi => absurd hi (by omega)
  have LKS : Hid (∀ k, LK k → 0 ≤ indexN N (cs.getD k default).frm (cs.getD k default).to → 0 ≤ indexN N (cs.getD k default).to (cs.getD k default).frm → LK (k + 1)) := by
    show ∀ k, _
    intro k
    rw [← hLK]
    intro h h1 h2 i hi
    by_cases e : i = k
    · subst e; exact ⟨h1, h2⟩
    · exact h i (by omega)
  generalize hIX : indexN N = IX at *
  clear hck hWT hHC hHN hDN hLK hIX
  obtain ⟨nodes, power, noise, thr, links, margin⟩ := N
  obtain ⟨PA, pn, pc, LA, ln, lc, MA, mn, mc⟩ := v
  dsimp only at *
  have hmn := hN.margin.els.len
  dsimp only at hmn
  have hbw := below_alloc w (.cells #[.int .i64 nodes, .slice PA pn pc, .int .i64 noise, .int .i64 thr, .slice LA ln lc, .slice MA mn mc] 26)
  have BX := Box.new w #[.int .i64 nodes, .slice PA pn pc, .int .i64 noise, .int .i64 thr, .slice LA ln lc, .slice MA mn mc] 26
  have hns := hs.els.small
  unfold maxLen at hns
  replace HF := Lib.hid HF
  replace HC := Lib.hid HC
  replace HG := Lib.hid HG
  replace HI := Lib.hid HI
  replace HD := Lib.hid HD
  replace HH := Lib.hid HH
  replace LW := Lib.hid LW
  replace LU := Lib.hid LU
  replace LE := Lib.hid LE
  replace LN := Lib.hid LN
  replace LM := Lib.hid LM
  replace hN := Lib.hid hN
  replace hs := Lib.hid hs
  replace BX := Lib.hid BX
  replace hbw := Lib.hid hbw
  replace hlen := Lib.hid hlen
  replace hmn := Lib.hid hmn
  go_enter Try.func4, Try.ntmps4
  go_wp2_with fail
  refine (awake_any _).mono ?_
  rintro e w1 ⟨rfl, hb_⟩
  replace BX := Lib.hid (BX.out.keep hb_)
  replace hbw := Lib.hid (hbw.out.keep hb_)
  clear hb_
  have kx := BX.out.at_
  have c1 := Lib.hid (HF.out _ (hN.out.keep hbw.out))
  go_wp2_with fail
  refine c1.out.mono ?_
  rintro e w2 ⟨rfl, hb_⟩
  clear kx c1
  replace BX := Lib.hid (BX.out.keep hb_)
  replace hbw := Lib.hid (hbw.out.keep hb_)
  clear hb_
  cases F with
  | false =>
    go_wp2
    go_ret
    exact ⟨rfl, hbw.out⟩
  | true =>
  have kx := BX.out.at_
  have c1 := Lib.hid (HC.out _ (hN.out.keep hbw.out))
  go_wp2_with fail
  refine c1.out.mono ?_
  rintro e w3 ⟨rfl, hb_⟩
  clear kx c1
  replace BX := Lib.hid (BX.out.keep hb_)
  replace hbw := Lib.hid (hbw.out.keep hb_)
  clear hb_
  by_cases c0 : C = 0
  case neg =>
    have d : (C != 0) = true := by rw [bne_iff_ne]; exact c0
    replace c0 := Lib.hid c0
    go_wp2
    go_ret
    exact ⟨rfl, hbw.out⟩
  have d : (C != 0) = false := by rw [c0]; rfl
  obtain ⟨hn1, hn2⟩ := LN.out c0
  have lw := Lib.hid (LW.out c0)
  have lu := Lib.hid (LU.out c0)
  have le := Lib.hid (LE.out c0)
  have lm := LM.out c0
  replace c0 := Lib.hid c0
  clear LW LU LE LN LM
  by_cases hn4 : 4 < n
  · go_wp2
    go_ret
    exact ⟨rfl, hbw.out⟩
  have hn : n ≤ 100000 := by omega
  obtain ⟨nn, rfl⟩ := Int.eq_ofNat_of_zero_le (show 0 ≤ nodes by omega)
  have hmk := make_bools nn (by omega)
  have kx := BX.out.at_
  go_wp2_with fail
  clear kx d
  have HR0 : Hid (HrR w3 (w3.alloc (.cells (madeCells #[.bool false] nn) 4)) cs nn 0 (madeCells #[.bool false] nn)) := ⟨below_alloc _ _, Blk.new _ _ _, by unfold madeCells; simp, fun j hj => by rw [madeCells_at _ _ _ hj]; rfl⟩
  go_loopw [5, 31] (fun wt i wr => ∃ (k : Nat) (D : Array Value), k ≤ n ∧ i = .int .i64 k ∧ wt = .bool (WT k) ∧ Hid (LK k) ∧ Hid (HrR w3 wr cs nn k D)) (fun _ i _ => n - (intOf i).toNat)
  case atStart => exact ⟨0, _, by omega, rfl, by rw [W0.out], LK0, HR0⟩
  case round =>
    obtain ⟨k, D, hk, rfl, rfl, HL, HR⟩ := hrel
    clear HR0
    have hB0 := Lib.hid (hbw.out.keep HR.out.below)
    by_cases hlt : k < n
    · obtain ⟨b, off, rfl⟩ := hs.out.els.addr (by omega)
      obtain ⟨⟨a0, a1, f, t, a4⟩, hq, hm, q0, q1, q2, q3, q4⟩ := (hs.out.keep hB0.out).elem hlt
      dsimp only at q0 q1 q2 q3 q4
      have hq' : cs.getD k default = ⟨a0, a1, f, t, a4⟩ := by rw [List.getD_eq_getElem?_getD, hq]; rfl
      have ws := WS.out k
      have lks := LKS.out k HL.out
      have luk := lu.out k hlt
      rw [hq'] at ws lks luk
      dsimp only at ws lks luk
      replace hq := Lib.hid hq
      replace hm := Lib.hid hm
      replace hq' := Lib.hid hq'
      have HRa := Lib.hid (HR.out.keep (below_alloc wr (.cells #[.int .i64 a0, .int .i64 a1, .int .i64 f, .int .i64 t, .int .i64 a4] 36)))
      have BQ := Lib.hid (Box.new wr #[.int .i64 a0, .int .i64 a1, .int .i64 f, .int .i64 t, .int .i64 a4] 36)
      go_wp2_with fail
      generalize wr.alloc (.cells #[.int .i64 a0, .int .i64 a1, .int .i64 f, .int .i64 t, .int .i64 a4] 36) = wa at *
      have hSQ : w3.heap.size < wr.heap.size := HR.out.blk.lt
      generalize wr.heap.size = Q at *
      clear q0 q1 q2 q3 q4 HR hB0
      have hBa := Lib.hid (hbw.out.keep HRa.out.below)
      have gx := (BX.out.keep HRa.out.below).grown
      have gq := BQ.out.grown
      have y1 := fun W (h : Below wa.heap.size wa W) => HI.out W (hN.out.keep (hBa.out.keep h)) f t
      have y2 := fun W (h : Below wa.heap.size wa W) => HI.out W (hN.out.keep (hBa.out.keep h)) t f
      have le1 := le.out f t
      have le2 := le.out t f
      generalize hI1 : IX f t = I1 at *
      generalize hI2 : IX t f = I2 at *
      replace y1 := Lib.hid y1
      replace y2 := Lib.hid y2
      replace ws := Lib.hid ws
      replace lks := Lib.hid lks
      replace luk := Lib.hid luk
      replace le1 := Lib.hid le1
      replace le2 := Lib.hid le2
      replace hI1 := Lib.hid hI1
      replace hI2 := Lib.hid hI2
      have x1 : ∀ d os, Calls Try.prog 16 #[.agg #[.int .i64 (nn : Int), .slice PA pn pc, .int .i64 noise, .int .i64 thr, .slice LA ln lc, .slice MA mn mc], .int .i64 f, .int .i64 t] (grow (redrawn wa d) os) fun e w'' => e = .returned (.int .i64 I1) ∧ ∃ p : Regrown, w'' = grow (redrawn wa p.d) p.os :=
        fun d os => Calls.regrown_of (y1.out _ (below_regrown wa d os))
      replace x1 := Lib.hid x1
      have x2 : ∀ d os, Calls Try.prog 16 #[.agg #[.int .i64 (nn : Int), .slice PA pn pc, .int .i64 noise, .int .i64 thr, .slice LA ln lc, .slice MA mn mc], .int .i64 t, .int .i64 f] (grow (redrawn wa d) os) fun e w'' => e = .returned (.int .i64 I2) ∧ ∃ p : Regrown, w'' = grow (redrawn wa p.d) p.os :=
        fun d os => Calls.regrown_of (y2.out _ (below_regrown wa d os))
      replace x2 := Lib.hid x2
      refine wp_region_quiet_below (by kernel_rfl) (by kernel_rfl) ?_
      repeat (go_big_quiet_step (first | (with_reducible exact x1.out _ _) | (with_reducible exact x2.out _ _)))
      refine wpQuiet_nil ?_
      rintro _ ⟨⟨dq, osq⟩, rfl⟩
      have hb_ := below_regrown wa dq osq
      replace HRa := Lib.hid (HRa.out.keep hb_)
      replace BQ := Lib.hid (BQ.out.keep hb_)
      replace hBa := Lib.hid (hBa.out.keep hb_)
      generalize grow (redrawn wa dq) osq = wb at *
      clear hb_
      clear gx gq x1 x2 y1 y2
      have BXb := Lib.hid (BX.out.keep HRa.out.below)
      have kx := BXb.out.at_
      have kq := BQ.out.at_
      by_cases i1 : I1 < 0
      · have hg := luk.out (.inl i1)
        have cg := Lib.hid (HG.out _ (hN.out.keep hBa.out) (hs.out.keep hBa.out) hn)
        replace hg := Lib.hid hg
        go_wp2_with fail
        refine cg.out.mono ?_
        rintro e wc ⟨rfl, hb_⟩
        rw [hg.out]
        go_wp2
        go_ret
        exact ⟨rfl, hBa.out.keep hb_⟩
      by_cases i2 : I2 < 0
      · have hg := luk.out (.inr i2)
        have cg := Lib.hid (HG.out _ (hN.out.keep hBa.out) (hs.out.keep hBa.out) hn)
        replace hg := Lib.hid hg
        go_wp2_with fail
        refine cg.out.mono ?_
        rintro e wc ⟨rfl, hb_⟩
        rw [hg.out]
        go_wp2
        go_ret
        exact ⟨rfl, hBa.out.keep hb_⟩
      obtain ⟨v1, v2, v3, v4⟩ := le1.out (by omega)
      obtain ⟨v5, _, _, _⟩ := le2.out (by omega)
      have LK2 := Lib.hid (lks.out (by omega) (by omega))
      have n1 := isNode_yes v2
      have n2 := isNode_yes v3
      obtain ⟨k1, rfl⟩ := Int.eq_ofNat_of_zero_le (show 0 ≤ I1 by omega)
      obtain ⟨k2, rfl⟩ := Int.eq_ofNat_of_zero_le (show 0 ≤ I2 by omega)
      obtain ⟨f, rfl⟩ := Int.eq_ofNat_of_zero_le n1.1
      obtain ⟨t, rfl⟩ := Int.eq_ofNat_of_zero_le n2.1
      have hf : f < nn := by omega
      have ht : t < nn := by omega
      have hft : f ≠ t := fun e => v4 (by rw [e])
      have hkm1 : k1 < mn := by have := hmn.out; omega
      have hkm2 : k2 < mn := by have := hmn.out; omega
      clear v1 v2 v3 v4 v5 n1 n2 i1 i2 luk lks le1 le2
      obtain ⟨mb, mo, rfl⟩ := hN.out.margin.els.addr (show 0 < mn by omega)
      obtain ⟨m1, hm1, _, p1⟩ := (hN.out.keep hBa.out).margin.elem (k := k1) hkm1
      obtain ⟨m2, hm2, _, p2⟩ := (hN.out.keep hBa.out).margin.elem (k := k2) hkm2
      dsimp only at hm1 hm2 p1 p2
      have hm1' : margin.getD k1 0 = m1 := by rw [List.getD_eq_getElem?_getD, hm1]; rfl
      have hm2' : margin.getD k2 0 = m2 := by rw [List.getD_eq_getElem?_getD, hm2]; rfl
      have e1 := HCe.out k k1 (t : Int)
      have e2 := HCe.out k k2 (f : Int)
      rw [hm1'] at e1
      rw [hm2'] at e2
      have ws1 := ws.out
      rw [e1, e2] at ws1
      clear ws e1 e2 hm1 hm2 hm1' hm2'
      have s1 := (HRa.out.blk.cell f).trans (HRa.out.seen.2 f hf)
      have s2 := (HRa.out.blk.cell t).trans (HRa.out.seen.2 t ht)
      dsimp only at s1 s2
      have x1 := fun W (h : Below wb.heap.size wb W) => HD.out W (hN.out.keep (hBa.out.keep h)) (hs.out.keep (hBa.out.keep h)) hn k (t : Int)
      have x2 := fun W (h : Below wb.heap.size wb W) => HD.out W (hN.out.keep (hBa.out.keep h)) (hs.out.keep (hBa.out.keep h)) hn k (f : Int)
      have x3 := fun W (h : Below wb.heap.size wb W) => HH.out W (hN.out.keep (hBa.out.keep h)) m1 (DN (k : Int) (t : Int))
      have x4 := fun W (h : Below wb.heap.size wb W) => HH.out W (hN.out.keep (hBa.out.keep h)) m2 (DN (k : Int) (f : Int))
      generalize hD1 : DN (k : Int) (t : Int) = D1 at *
      generalize hD2 : DN (k : Int) (f : Int) = D2 at *
      generalize hH1 : HNN m1 D1 = H1 at *
      generalize hH2 : HNN m2 D2 = H2 at *
      generalize hSF : seenB cs k (f : Int) = SF at *
      generalize hST : seenB cs k (t : Int) = ST at *
      generalize hWk : WT k = Wk at *
      replace hD1 := Lib.hid hD1
      replace hD2 := Lib.hid hD2
      replace hH1 := Lib.hid hH1
      replace hH2 := Lib.hid hH2
      replace hSF := Lib.hid hSF
      replace hST := Lib.hid hST
      replace hWk := Lib.hid hWk
      replace x1 := Lib.hid x1
      replace x2 := Lib.hid x2
      replace x3 := Lib.hid x3
      replace x4 := Lib.hid x4
      replace ws1 := Lib.hid ws1
      go_wp2_with fail
      clear kx kq
      have gx := (BX.out.keep HRa.out.below).grown
      have gq := BQ.out.grown
      have g1 := cell_regrown p1
      have g2 := cell_regrown p2
      have g3 := cell_regrown s1
      have g4 := cell_regrown s2
      clear p1 p2 s1 s2
      have r1 : (k1 : Int) < (mn : Int) := by omega
      have r2 : (k2 : Int) < (mn : Int) := by omega
      have r3 : (f : Int) < (nn : Int) := by omega
      have r4 : (t : Int) < (nn : Int) := by omega
      have z1 : ∀ d os, Calls Try.prog 13 #[.agg #[.int .i64 (nn : Int), .slice PA pn pc, .int .i64 noise, .int .i64 thr, .slice LA ln lc, .slice (some ⟨mb, mo, none⟩) mn mc], .slice (some ⟨b, off, none⟩) n c, .int .i64 (k : Int), .int .i64 (t : Int)] (grow (redrawn wb d) os) fun e w'' => e = .returned (.int .i64 D1) ∧ ∃ p : Regrown, w'' = grow (redrawn wb p.d) p.os :=
        fun d os => Calls.regrown_of (x1.out _ (below_regrown wb d os))
      replace z1 := Lib.hid z1
      have z2 : ∀ d os, Calls Try.prog 13 #[.agg #[.int .i64 (nn : Int), .slice PA pn pc, .int .i64 noise, .int .i64 thr, .slice LA ln lc, .slice (some ⟨mb, mo, none⟩) mn mc], .slice (some ⟨b, off, none⟩) n c, .int .i64 (k : Int), .int .i64 (f : Int)] (grow (redrawn wb d) os) fun e w'' => e = .returned (.int .i64 D2) ∧ ∃ p : Regrown, w'' = grow (redrawn wb p.d) p.os :=
        fun d os => Calls.regrown_of (x2.out _ (below_regrown wb d os))
      replace z2 := Lib.hid z2
      have z3 : ∀ d os, Calls Try.prog 18 #[.agg #[.int .i64 (nn : Int), .slice PA pn pc, .int .i64 noise, .int .i64 thr, .slice LA ln lc, .slice (some ⟨mb, mo, none⟩) mn mc], .int .i64 m1, .int .i64 D1] (grow (redrawn wb d) os) fun e w'' => e = .returned (.bool H1) ∧ ∃ p : Regrown, w'' = grow (redrawn wb p.d) p.os :=
        fun d os => Calls.regrown_of (x3.out _ (below_regrown wb d os))
      replace z3 := Lib.hid z3
      have z4 : ∀ d os, Calls Try.prog 18 #[.agg #[.int .i64 (nn : Int), .slice PA pn pc, .int .i64 noise, .int .i64 thr, .slice LA ln lc, .slice (some ⟨mb, mo, none⟩) mn mc], .int .i64 m2, .int .i64 D2] (grow (redrawn wb d) os) fun e w'' => e = .returned (.bool H2) ∧ ∃ p : Regrown, w'' = grow (redrawn wb p.d) p.os :=
        fun d os => Calls.regrown_of (x4.out _ (below_regrown wb d os))
      replace z4 := Lib.hid z4
      rcases ways5 Wk SF ST H1 with rfl | ⟨rfl, rfl⟩ | ⟨rfl, rfl, rfl⟩ | ⟨rfl, rfl, rfl, rfl⟩ | ⟨rfl, rfl, rfl, rfl⟩
      all_goals
        refine wp_region_quiet_below (by kernel_rfl) (by kernel_rfl) ?_
        repeat (go_big_quiet_step (first | (with_reducible exact z1.out _ _) | (with_reducible exact z2.out _ _) | (with_reducible exact z3.out _ _) | (with_reducible exact z4.out _ _)))
        refine wpQuiet_nil ?_
        rintro _ ⟨⟨dq, osq⟩, rfl⟩
        have hb_ := below_regrown wb dq osq
        replace HRa := Lib.hid (HRa.out.keep hb_)
        replace BQ := Lib.hid (BQ.out.keep hb_)
        generalize grow (redrawn wb dq) osq = wc at *
        clear hb_
        clear gx gq g1 g2 g3 g4 z1 z2 z3 z4 x1 x2 x3 x4 hBa BXb
        go_wp2_with fail
        have k1' := (HRa.out.blk.cell f).trans (HRa.out.seen.2 f hf)
        have k2' := (HRa.out.blk.cell t).trans (HRa.out.seen.2 t ht)
        have k3' := HRa.out.blk.free f
        have k4' := HRa.out.blk.free t
        have k5' : wc.cell? ⟨Q, 2, none⟩ = some (.int .i64 (f : Int)) := BQ.out.at_ 2
        have k6' : wc.cell? ⟨Q, 3, none⟩ = some (.int .i64 (t : Int)) := BQ.out.at_ 3
        have HRn := Lib.hid (HRa.out.store hq.out rfl rfl).drew
        have hsz : w3.heap.size < wc.heap.size := HRa.out.blk.lt
        have hqz : Q < wc.heap.size := BQ.out.lt
        have hne : w3.heap.size ≠ Q := by omega
        have hne2 : Q ≠ w3.heap.size := by omega
        dsimp only at k1' k2'
        go_region_held3 (fun w' => w'.cell? ⟨Q, 2, none⟩ = some (.int .i64 (f : Int)) ∧ w'.cell? ⟨Q, 3, none⟩ = some (.int .i64 (t : Int))) (go_keep) (fail)
        clear k1' k2' k3' k4' k5' k6' hsz hqz hne hne2
        go_wp2
        go_roundw
        case rel => exact ⟨k + 1, _, by omega, by go_num, by rw [ws1.out]; simp, LK2, HRn⟩
        case measure => simp [intOf]; omega
    · obtain rfl : k = n := by omega
      have hgw := lw.out HL.out
      have kx := (BX.out.keep HR.out.below).at_
      have cg := Lib.hid (HG.out _ (hN.out.keep hB0.out) (hs.out.keep hB0.out) hn)
      replace hgw := Lib.hid hgw
      go_wp2_with fail
      refine cg.out.mono ?_
      rintro e wc ⟨rfl, hb_⟩
      rw [hgw.out]
      go_wp2
      go_ret
      exact ⟨by simp, hB0.out.keep hb_⟩
theorem conflictHears_walk (nodes : Int) (PA : Option Addr) (pn pc : Nat) (power : List (List Int)) (noise thr : Int) (LA : Option Addr) (ln lc : Nat) (links : List Lnk) (MA : Option Addr) (mn mc : Nat) (margin : List Int) (A : Option Addr) (n c : Nat) (cs : List Cel) (w : World)
    (h1 : (Lit.int .i64 nodes).wf = true) (h2 : RowS w PA pn power) (h3 : (Lit.int .i64 noise).wf = true) (h4 : (Lit.int .i64 thr).wf = true) (h5 : LnkS w LA ln links) (h6 : IntS w MA mn margin) (h7 : CelS w A n cs) :
    Calls Try.prog 4 #[.agg #[.int .i64 nodes, .slice PA pn pc, .int .i64 noise, .int .i64 thr, .slice LA ln lc, .slice MA mn mc], .slice A n c] w fun e w' => e = .returned (.bool true) ∧ Below w.heap.size w w' :=
  ConflictHears_any ⟨nodes, power, noise, thr, links, margin⟩ ⟨PA, pn, pc, LA, ln, lc, MA, mn, mc⟩ A n c cs w (netIs_of h1 h2 h3 h4 h5 h6) h7
end Nt
end Go.Proofs.Ythibgpgjioepfaa
