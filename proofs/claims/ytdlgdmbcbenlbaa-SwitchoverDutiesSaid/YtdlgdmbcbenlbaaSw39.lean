/- The reference's Duties. -/
import Derived.Test.YtdlgdmbcbenlbaaSw38
set_option linter.unusedVariables false
set_option linter.unusedSimpArgs false
namespace Go.Proofs.Ytdlgdmbcbenlbaa
open Go Go.RowKit Go.Sort Go.Lib
namespace Sw
open Mm
/-- what the reference has of a cell behind some of its times -/
def ownK (c : Cel) (node L : Int) (T : List (Int × Int)) : List Dut := if c.frm ≠ node ∧ c.to ≠ node then [] else (T.flatMap (dutiesC c node L)).foldl insD' []
theorem ownK_snoc (c : Cel) (node L : Int) (T : List (Int × Int)) (t : Int × Int) : ownK c node L (T ++ [t]) = if c.frm ≠ node ∧ c.to ≠ node then ownK c node L T else (dutiesC c node L t).foldl insD' (ownK c node L T) := by
  unfold ownK
  split
  · rfl
  · rw [List.flatMap_append, List.foldl_append]; simp
theorem foldD_len : ∀ (ds acc : List Dut), (ds.foldl insD' acc).length = acc.length + ds.length
  | [], _ => rfl
  | d :: ds, acc => by
    rw [List.foldl_cons, foldD_len ds, List.length_cons]
    have : (insD' acc d).length = acc.length + 1 := by rw [show (insD' acc d).length = (d :: acc).length from (insBy_perm _ _ _).length_eq]; rfl
    omega
theorem ownK_len (c : Cel) (node L : Int) (T : List (Int × Int)) : (ownK c node L T).length ≤ T.length * 3 := by
  unfold ownK
  split
  · simp
  · rw [foldD_len]
    have := flatMap_len (dutiesC c node L) 3 (dutiesC_len c node L) T
    simpa using this
theorem ownD_K (L : Int) (cs : List Cel) (l : List Chg) (node : Int) (c : Cel) : ownD (cellD L cs l node c) = ownK c node L (timesC cs l c) := by
  unfold ownD ownK cellD
  split <;> rfl
theorem insD_len (l : List Dut) (d : Dut) : (insD' l d).length = l.length + 1 := (insBy_perm _ _ _).length_eq
set_option maxRecDepth 100000 in
set_option maxHeartbeats 16000000 in
theorem rdutR_any (L O : Int) (A : Option Addr) (n cp : Nat) (cs : List Cel) (B : Option Addr) (m cq : Nat) (l : List Chg) (node : Int) (w : World) (h1 : CelS w A n cs) (h2 : ChgS w B m l) :
    Calls Try.prog 18 #[.agg #[.int .i64 L, .int .i64 O, .slice A n cp], .slice B m cq, .int .i64 node] w (DRPost (dutR L O cs l node) (codR L O cs l node) w) := by
  have hbw := ball w (.cells #[.int .i64 L, .int .i64 O, .slice A n cp] 24)
  have BX := Box.new w #[.int .i64 L, .int .i64 O, .slice A n cp] 24
  have cK := rcheck_any L O A n cp cs B m cq l _ (h1.keep hbw) (h2.keep hbw)
  by_cases hok : okD L O cs l node
  case neg =>
    unfold dutR codR
    rw [if_neg hok, if_neg hok]
    unfold okD at hok
    generalize chkN L O cs l = R at *
    obtain ⟨r1, r2⟩ := R
    dsimp only at *
    have kx := BX.at_
    by_cases h0 : r2 = 0
    · subst h0
      have hn : node < 0 ∨ 32 ≤ node := by
        rcases Int.lt_or_le node 0 with h | h
        · exact .inl h
        · right
          rcases Int.lt_or_le node 32 with h' | h'
          · exact absurd ⟨rfl, h, h'⟩ hok
          · exact h'
      rw [if_pos rfl]
      clear hok
      replace h1 := Lib.hid h1
      replace h2 := Lib.hid h2
      replace hbw := Lib.hid hbw
      replace BX := Lib.hid BX
      replace cK := Lib.hid cK
      rcases hn with hn | hn
      · go_enter Try.func18, Try.ntmps18
        go_wp2_with fail
        refine cK.out.mono ?_
        rintro e w1 ⟨rfl, hb_⟩
        have hB := Lib.hid (bthen hbw.out hb_)
        clear hb_ kx
        dsimp only
        go_wp2
        refine bodyPost_ret (v := .tuple #[.slice none 0 0, .int .i64 2]) (by simp [results, Try.results18, go_sem]) rfl (DR_nil hB.out)
      · have hn0 : 0 ≤ node := by omega
        go_enter Try.func18, Try.ntmps18
        go_wp2_with fail
        refine cK.out.mono ?_
        rintro e w1 ⟨rfl, hb_⟩
        have hB := Lib.hid (bthen hbw.out hb_)
        clear hb_ kx
        dsimp only
        go_wp2
        refine bodyPost_ret (v := .tuple #[.slice none 0 0, .int .i64 2]) (by simp [results, Try.results18, go_sem]) rfl (DR_nil hB.out)
    · rw [if_neg h0]
      have d : (r2 != 0) = true := by rw [bne_iff_ne]; exact h0
      clear hok
      replace h1 := Lib.hid h1
      replace h2 := Lib.hid h2
      replace hbw := Lib.hid hbw
      replace BX := Lib.hid BX
      replace cK := Lib.hid cK
      replace h0 := Lib.hid h0
      go_enter Try.func18, Try.ntmps18
      go_wp2_with fail
      refine cK.out.mono ?_
      rintro e w1 ⟨rfl, hb_⟩
      have hB := Lib.hid (bthen hbw.out hb_)
      clear hb_ kx
      dsimp only
      go_wp2
      refine bodyPost_ret (v := .tuple #[.slice none 0 0, .int .i64 r2]) (by simp [results, Try.results18, go_sem]) rfl (DR_nil hB.out)
  have hR := right_of hok.1
  have hnode := hok.2
  unfold dutR codR
  rw [if_pos hok, if_pos hok]
  clear hok
  rw [hR.chk] at cK
  obtain ⟨hn1, hn2⟩ := hnode
  have hl1 := h1.len
  have hl2 := h2.len
  obtain ⟨hL1, hL2, hO1, hO2, hcl⟩ := hR.len
  have hfew := hR.few
  have cC := fun W (k1 : CelS W A n cs) (k2 : ChgS W B m l) => (by
    have := rcells_any L O A n cp cs B m cq l W k1 k2 (by omega) (by omega) hR.formed
    rwa [rcells_eq hR] at this : Calls Try.prog 51 #[.agg #[.int .i64 L, .int .i64 O, .slice A n cp], .slice B m cq] W (InPost (cellsC cs l) W))
  have cT := fun c W (k1 : CelS W A n cs) (k2 : ChgS W B m l) => (by
    have := rtimes_any L O A n cp cs B m cq l c W k1 k2 (timesP_eq hR)
    rwa [rT_eq hR] at this : Calls Try.prog 40 #[.agg #[.int .i64 L, .int .i64 O, .slice A n cp], .slice B m cq, .agg #[.int .i64 c.slot, .int .i64 c.offset, .int .i64 c.frm, .int .i64 c.to, .int .i64 c.flow]] W (TimesPost (timesC cs l c) W))
  have cI := fun (A : Option Addr) n c (xs : List Dut) d W (h : DutS W A n xs) hn hc => insert_any A n c xs d W h hn hc
  have hbd := fun c t (ht : t ∈ timesC cs l c) => hR.bd ht
  have hTl := fun c => timesC_len cs c l.length l rfl
  have hne := fun k (hk : k < (cellsC cs l).length) => (cell_ne hR (ok_at (P := (· ∈ cellsC cs l)) (fun _ h => h) hk)).1
  have hcc : (cellsC cs l).length ≤ 2000 := by
    have : (cellsC cs l).length ≤ cs.length + l.length := by
      unfold cellsC
      refine Nat.le_trans (cpL_len _) ?_
      rw [(sortC_perm _).length_eq]; simp
    omega
  have hG0 : ((cellsC cs l).take 0).flatMap (fun c => ownK c node L (timesC cs l c)) = [] := rfl
  have hGs := fun k (hk : k < (cellsC cs l).length) => flatMap_take_succ (fun c => ownK c node L (timesC cs l c)) (cellsC cs l) k hk
  have hGn : ((cellsC cs l).take (cellsC cs l).length).flatMap (fun c => ownK c node L (timesC cs l c)) = rDut L cs l node := by
    rw [List.take_length]; unfold rDut
    congr 1; funext c; exact (ownD_K L cs l node c).symm
  have hGl := fun k (hk : k ≤ (cellsC cs l).length) => (by
    have h3 := flatMap_len (fun c => ownK c node L (timesC cs l c)) 3075 (fun c => by have := ownK_len c node L (timesC cs l c); have := hTl c; omega) ((cellsC cs l).take k)
    rw [List.length_take] at h3
    exact Nat.le_trans h3 (Nat.le_trans (Nat.mul_le_mul_right _ (by omega : min k (cellsC cs l).length ≤ 2000)) (by decide)) : (((cellsC cs l).take k).flatMap (fun c => ownK c node L (timesC cs l c))).length ≤ 6150000)
  generalize rDut L cs l node = RD at *
  generalize hTF : timesC cs l = TF at *
  generalize hCC : cellsC cs l = CC at *
  generalize hGG : (fun k => (CC.take k).flatMap (fun c => ownK c node L (TF c))) = G at *
  have hG0' : G 0 = [] := by rw [← hGG]; exact hG0
  have hGs' : ∀ k, k < CC.length → G (k + 1) = G k ++ ownK (CC.getD k default) node L (TF (CC.getD k default)) := by rw [← hGG]; exact hGs
  have hGn' : G CC.length = RD := by rw [← hGG]; exact hGn
  have hGl' : ∀ k, k ≤ CC.length → (G k).length ≤ 6150000 := by rw [← hGG]; exact hGl
  clear hG0 hGs hGn hGl hGG
  have kx := BX.at_
  replace h1 := Lib.hid h1
  replace h2 := Lib.hid h2
  replace hbw := Lib.hid hbw
  replace BX := Lib.hid BX
  replace cK := Lib.hid cK
  replace hR := Lib.hid hR
  replace hl1 := Lib.hid hl1
  replace hl2 := Lib.hid hl2
  replace cC := Lib.hid cC
  replace cT := Lib.hid cT
  replace cI := Lib.hid cI
  replace hbd := Lib.hid hbd
  replace hTl := Lib.hid hTl
  replace hne := Lib.hid hne
  replace hG0' := Lib.hid hG0'
  replace hGs' := Lib.hid hGs'
  replace hGn' := Lib.hid hGn'
  replace hGl' := Lib.hid hGl'
  replace hTF := Lib.hid hTF
  replace hCC := Lib.hid hCC
  go_enter Try.func18, Try.ntmps18
  go_wp2_with fail
  refine cK.out.mono ?_
  rintro e w1 ⟨rfl, hb_⟩
  clear kx cK
  replace BX := Lib.hid (BX.out.keep hb_)
  have hB1 := Lib.hid (bthen hbw.out hb_)
  clear hb_ hbw
  dsimp only
  have cC2 := cC.out w1 (h1.out.keep hB1.out) (h2.out.keep hB1.out)
  have kx := BX.out.at_
  replace cC2 := Lib.hid cC2
  go_wp2_with fail
  refine cC2.out.mono ?_
  rintro e w2 ⟨A2, c2, rfl, h3, hb_⟩
  clear kx cC2 cC
  replace BX := Lib.hid (BX.out.keep hb_)
  have hB2 := Lib.hid (bthen hB1.out hb_)
  clear hb_ hB1
  generalize hnc : CC.length = nc at *
  have hO0 : Hid (∃ v, v = (.slice none 0 0 : Value) ∧ w2.ownsRow w2.heap.size 45 9 v (G 0).length ((G 0).flatMap dutE)) := ⟨_, rfl, by rw [hG0'.out]; exact World.ownsRow_nil _ _ _ _⟩
  replace h3 := Lib.hid h3
  replace hnc := Lib.hid hnc
  go_wp2_with fail
  go_loopw [10, 12, 13, 14, 15, 16, 17, 18] (fun s10 i _ _ _ _ _ _ wr => ∃ (k : Nat) (v : Value), k ≤ nc ∧ i = .int .i64 k ∧ v = s10 ∧ Hid (wr.ownsRow w2.heap.size 45 9 v (G k).length ((G k).flatMap dutE)) ∧ Hid (Below w2.heap.size w2 wr)) (fun _ i _ _ _ _ _ _ _ => nc - (intOf i).toNat)
  case atStart =>
    obtain ⟨v, rfl, hv⟩ := hO0.out
    exact ⟨0, _, by omega, rfl, rfl, hv, Below.refl _ _⟩
  case round =>
    clear hO0
    obtain ⟨q, v, hqn, rfl, rfl, HO, HB⟩ := hrel
    have HBw := Lib.hid (bthen hB2.out HB.out)
    by_cases hlt : q < nc
    · obtain ⟨b, off, rfl⟩ := h3.out.addr (by omega)
      have hx := cel_at (h3.out.keep HB.out) hlt
      have hgs := hGs'.out q hlt
      have hgl := hGl'.out q hqn
      have hct := cT.out (CC.getD q default)
      have hbdc := hbd.out (CC.getD q default)
      have htl := hTl.out (CC.getD q default)
      have hnec := hne.out q hlt
      generalize hcc' : CC.getD q default = c at *
      generalize hTc : TF c = T at *
      have hK0 : ownK c node L (T.take 0) = [] := by unfold ownK; split <;> rfl
      have hKs := fun j (hj : j < T.length) => (by rw [take_snoc hj, ownK_snoc] : ownK c node L (T.take (j + 1)) = if c.frm ≠ node ∧ c.to ≠ node then ownK c node L (T.take j) else (dutiesC c node L (T.getD j default)).foldl insD' (ownK c node L (T.take j)))
      have hKn : ownK c node L (T.take T.length) = ownK c node L T := by rw [List.take_length]
      have hKl := fun j => (by
        have := ownK_len c node L (T.take j)
        rw [List.length_take] at this
        have h2 : min j T.length * 3 ≤ 3075 := by omega
        omega : (ownK c node L (T.take j)).length ≤ 3075)
      generalize hKK : (fun j => ownK c node L (T.take j)) = K at *
      have hK0' : K 0 = [] := by rw [← hKK]; exact hK0
      have hKs' : ∀ j, j < T.length → K (j + 1) = if c.frm ≠ node ∧ c.to ≠ node then K j else (dutiesC c node L (T.getD j default)).foldl insD' (K j) := by rw [← hKK]; exact hKs
      have hKn' : K T.length = ownK c node L T := by rw [← hKK]; exact hKn
      have hKl' : ∀ j, (K j).length ≤ 3075 := by rw [← hKK]; exact hKl
      rw [← hKn'] at hgs
      clear hK0 hKs hKn hKl hKK hKn'
      obtain ⟨y0, y1, y2, y3, y4⟩ := c
      obtain ⟨q0, q1, q2, q3, q4⟩ := hx
      dsimp only at q0 q1 q2 q3 q4 hct hnec hKs'
      have BC := Box.new wr #[.int .i64 y0, .int .i64 y1, .int .i64 y2, .int .i64 y3, .int .i64 y4] 34
      have HBb := ballN HB.out (.cells #[.int .i64 y0, .int .i64 y1, .int .i64 y2, .int .i64 y3, .int .i64 y4] 34)
      have HBwb := ballN HBw.out (.cells #[.int .i64 y0, .int .i64 y1, .int .i64 y2, .int .i64 y3, .int .i64 y4] 34)
      have HOb := HO.out.alloc (.cells #[.int .i64 y0, .int .i64 y1, .int .i64 y2, .int .i64 y3, .int .i64 y4] 34)
      have kc := BC.at_
      have kb := ((BX.out.keep HB.out).alloc (.cells #[.int .i64 y0, .int .i64 y1, .int .i64 y2, .int .i64 y3, .int .i64 y4] 34)).at_
      have r1 : (q : Int) < (nc : Int) := by omega
      have ct := hct _ (h1.out.keep HBwb) (h2.out.keep HBwb)
      replace BC := Lib.hid BC
      replace HBb := Lib.hid HBb
      replace HBwb := Lib.hid HBwb
      replace HOb := Lib.hid HOb
      replace hct := Lib.hid hct
      replace hgs := Lib.hid hgs
      replace hbdc := Lib.hid hbdc
      replace htl := Lib.hid htl
      replace hK0' := Lib.hid hK0'
      replace hKs' := Lib.hid hKs'
      replace hKl' := Lib.hid hKl'
      replace hTc := Lib.hid hTc
      replace hcc' := Lib.hid hcc'
      replace ct := Lib.hid ct
      go_wp2_with fail
      generalize hB' : wr.heap.size = Bc at *
      replace hB' := Lib.hid hB'
      refine ct.out.mono ?_
      rintro e w5 ⟨A5, c5, rfl, ho5, hb5⟩
      clear kc kb ct q0 q1 q2 q3 q4
      have HB5 := Lib.hid (bthen HBb.out hb5)
      have HBw5 := Lib.hid (bthen HBwb.out hb5)
      have BC5 := Lib.hid (BC.out.keep hb5)
      have HO5 := Lib.hid (owns_keep HOb.out hb5)
      have HT5 := Lib.hid (Sls.of_owns prE_len ho5 rfl).2
      have HK0 : Hid (∃ A c, (.slice A (K 0).length c : Value) = .slice none 0 0 ∧ (K 0).length ≤ c ∧ DutS w5 A (K 0).length (K 0)) := ⟨none, 0, by rw [hK0'.out]; rfl, by rw [hK0'.out]; exact Nat.le_refl _, by rw [hK0'.out]; exact Sls.nil⟩
      clear ho5 hb5 HBb HBwb HOb BC HO HB HBw
      generalize hTn : T.length = tn at *
      have htn2 : tn ≤ 1025 := by have := htl.out; omega
      replace hTn := Lib.hid hTn
      go_wp2_with fail
      go_loopw [14, 16, 17, 18] (fun s14 i _ _ wr => ∃ (j : Nat) (A : Option Addr) (c : Nat), j ≤ tn ∧ i = .int .i64 j ∧ .slice A (K j).length c = s14 ∧ Hid ((K j).length ≤ c) ∧ Hid (DutS wr A (K j).length (K j)) ∧ Hid (Below w5.heap.size w5 wr)) (fun _ i _ _ _ => tn - (intOf i).toNat)
      case atStart =>
        obtain ⟨A, c, e, h1, h2⟩ := HK0.out
        exact ⟨0, A, c, by omega, rfl, e, h1, h2, Below.refl _ _⟩
      case round =>
        clear HK0
        obtain ⟨j, Ak, ck, hj, rfl, rfl, hck, hSk, HC⟩ := hrel
        have HCw := Lib.hid (bthen HBw5.out HC.out)
        have hkl := hKl'.out j
        by_cases hlj : j < tn
        · obtain ⟨b2, off2, rfl⟩ := HT5.out.addr (by omega)
          obtain ⟨p0, p1⟩ := pr_at (HT5.out.keep HC.out) hlj
          have hks := hKs'.out j hlj
          have hbt := hbdc.out _ (ok_at (P := (· ∈ T)) (fun _ h => h) (by rw [hTn.out]; exact hlj))
          generalize T.getD j default = t at *
          obtain ⟨t0, t1⟩ := t
          dsimp only at p0 p1 hbt
          obtain ⟨b1', b2', b3', b4', b5'⟩ := hbt
          have g0 := cell_regrown p0
          have g1 := cell_regrown p1
          have r2 : (j : Int) < (tn : Int) := by omega
          have hSC : Hid (DutS wr Ak (K j).length (K j) ∧ Below w5.heap.size w5 wr) := ⟨hSk.out, HC.out⟩
          clear p0 p1
          replace hks := Lib.hid hks
          go_wp2_with fail
          refine wp_region_quiet_below (by kernel_rfl) (by kernel_rfl) ?_
          repeat (go_big_quiet_step (fail))
          refine wpQuiet_nil ?_
          rintro _ ⟨⟨dq, osq⟩, rfl⟩
          have hb_ := below_regrown wr dq osq
          replace HC := Lib.hid (HC.out.keep hb_)
          replace hSk := Lib.hid (hSk.out.keep hb_)
          generalize grow (redrawn wr dq) osq = w6 at *
          clear hb_
          clear hSC g0 g1
          have kc := (BC5.out.keep HC.out).at_
          have kb := (BX.out.keep (bthen HB5.out HC.out)).at_
          generalize K j = X0 at *
          generalize hXe : K (j + 1) = XN at *
          replace hXe := Lib.hid hXe
          by_cases a1 : y2 = node
          · have d1 : (y2 == node) = true := by simpa using a1
            have a2 : ¬ y3 = node := fun e => hnec (by omega)
            have d2 : (y3 == node) = false := by simpa using a2
            have hXN : XN = insD' X0 ⟨⟨y0, y1, y2, y3, y4⟩, true, false, t0, t1⟩ := by
              have := hks.out
              rw [if_neg (fun k => k.1 a1)] at this
              unfold dutiesC at this
              rw [if_pos a1] at this
              exact this
            have ci := cI.out Ak X0.length ck X0 ⟨⟨y0, y1, y2, y3, y4⟩, true, false, t0, t1⟩ w6 hSk.out (by omega) hck.out
            rw [← hXN] at ci
            dsimp only at ci
            replace ci := Lib.hid ci
            replace hXN := Lib.hid hXN
            replace a1 := Lib.hid a1
            replace a2 := Lib.hid a2
            go_wp2_with fail
            refine ci.out.mono ?_
            rintro e w7 ⟨A7, c7, rfl, h7, hc7, hb_⟩
            have HC7 := Lib.hid (bthen HC.out hb_)
            have kc := (BC5.out.keep HC7.out).at_
            clear ci hb_ kb
            replace h7 := Lib.hid h7
            replace hc7 := Lib.hid hc7
            go_wp2
            go_roundw
            case rel => exact ⟨j + 1, A7, c7, by omega, by go_num, by rw [hXe.out], by rw [hXe.out]; exact hc7, by rw [hXe.out]; exact h7, HC7⟩
            case measure => simp [intOf]; omega
          have d1 : (y2 == node) = false := by simpa using a1
          by_cases a2 : y3 = node
          · have d2 : (y3 == node) = true := by simpa using a2
            have hXN : XN = (dut2 ⟨y0, y1, y2, y3, y4⟩ L (t0, t1)).foldl insD' ((dut1 ⟨y0, y1, y2, y3, y4⟩ L (t0, t1)).foldl insD' (insD' X0 ⟨⟨y0, y1, y2, y3, y4⟩, false, false, t0, t1⟩)) := by
              have := hks.out
              rw [if_neg (fun k => k.2 a2)] at this
              unfold dutiesC at this
              rw [if_neg a1, List.foldl_append, List.foldl_append] at this
              exact this
            have hl1 : (insD' X0 ⟨⟨y0, y1, y2, y3, y4⟩, false, false, t0, t1⟩).length ≤ 3076 := by rw [insD_len]; omega
            have ci := cI.out Ak X0.length ck X0 ⟨⟨y0, y1, y2, y3, y4⟩, false, false, t0, t1⟩ w6 hSk.out (by omega) hck.out
            generalize insD' X0 ⟨⟨y0, y1, y2, y3, y4⟩, false, false, t0, t1⟩ = X1 at *
            dsimp only at ci
            unfold dut1 dut2 at hXN
            dsimp only at hXN
            replace ci := Lib.hid ci
            replace hXN := Lib.hid hXN
            replace a1 := Lib.hid a1
            replace a2 := Lib.hid a2
            go_upto_region 21 with fail
            go_wp2_with fail
            refine ci.out.mono ?_
            rintro e w7 ⟨A7, c7, rfl, h7, hc7, hb_⟩
            have HC7 := Lib.hid (bthen HC.out hb_)
            clear ci hb_ kb kc
            have kc := (BC5.out.keep HC7.out).at_
            have kb := (BX.out.keep (bthen HB5.out HC7.out)).at_
            have hmx : max 0 (t0 - L) = max (t0 - L) 0 := Int.max_comm _ _
            have hmb : 0 ≤ max (t0 - L) 0 ∧ max (t0 - L) 0 ≤ 4096 := by omega
            obtain ⟨hmb1, hmb2⟩ := hmb
            generalize max (t0 - L) 0 = M at *
            by_cases e0 : t0 = 0
            · have f0 : decide (0 < t0) = false := by simp; omega
              have hXN2 := hXN.out
              rw [if_pos e0] at hXN2
              have hXN3 : XN = (if t1 = -1 then [] else [⟨⟨y0, y1, y2, y3, y4⟩, false, true, t1, t1 + L⟩]).foldl insD' X1 := hXN2
              clear hXN2
              replace h7 := Lib.hid h7
              replace hc7 := Lib.hid hc7
              replace hmx := Lib.hid hmx
              by_cases e1 : t1 = -1
              · have f1 : decide (0 ≤ t1) = false := by simp; omega
                rw [if_pos e1] at hXN3
                have hXN4 : XN = X1 := hXN3
                clear hXN3
                subst hXN4
                replace e0 := Lib.hid e0
                replace e1 := Lib.hid e1
                go_wp2
                go_roundw
                case rel => exact ⟨j + 1, A7, c7, by omega, by go_num, by rw [hXe.out], by rw [hXe.out]; exact hc7, by rw [hXe.out]; exact h7, HC7⟩
                case measure => simp [intOf]; omega
              · have f1 : 0 ≤ t1 := by omega
                rw [if_neg e1] at hXN3
                have hXN4 : XN = insD' X1 ⟨⟨y0, y1, y2, y3, y4⟩, false, true, t1, t1 + L⟩ := hXN3
                have ci := cI.out A7 X1.length c7 X1 ⟨⟨y0, y1, y2, y3, y4⟩, false, true, t1, t1 + L⟩ w7 h7.out (by omega) hc7.out
                rw [← hXN4] at ci
                dsimp only at ci
                replace ci := Lib.hid ci
                replace e0 := Lib.hid e0
                replace e1 := Lib.hid e1
                replace hXN4 := Lib.hid hXN4
                replace hXN3 := Lib.hid hXN3
                go_wp2_with fail
                refine ci.out.mono ?_
                rintro e w8 ⟨A8, c8, rfl, h8, hc8, hb_⟩
                have HC8 := Lib.hid (bthen HC7.out hb_)
                clear ci hb_ kb kc
                replace h8 := Lib.hid h8
                replace hc8 := Lib.hid hc8
                go_wp2
                go_roundw
                case rel => exact ⟨j + 1, A8, c8, by omega, by go_num, by rw [hXe.out], by rw [hXe.out]; exact hc8, by rw [hXe.out]; exact h8, HC8⟩
                case measure => simp [intOf]; omega
            · have f0 : 0 < t0 := by omega
              have hXN2 := hXN.out
              rw [if_neg e0] at hXN2
              have hXN3 : XN = (if t1 = -1 then [] else [⟨⟨y0, y1, y2, y3, y4⟩, false, true, t1, t1 + L⟩]).foldl insD' (insD' X1 ⟨⟨y0, y1, y2, y3, y4⟩, false, true, M, t0⟩) := hXN2
              clear hXN2
              have hl2 : (insD' X1 ⟨⟨y0, y1, y2, y3, y4⟩, false, true, M, t0⟩).length ≤ 3077 := by rw [insD_len]; omega
              have ci := cI.out A7 X1.length c7 X1 ⟨⟨y0, y1, y2, y3, y4⟩, false, true, M, t0⟩ w7 h7 (by omega) hc7
              generalize insD' X1 ⟨⟨y0, y1, y2, y3, y4⟩, false, true, M, t0⟩ = X2 at *
              dsimp only at ci
              replace h7 := Lib.hid h7
              replace hc7 := Lib.hid hc7
              replace ci := Lib.hid ci
              replace e0 := Lib.hid e0
              replace hXN3 := Lib.hid hXN3
              go_wp2_with fail
              refine ci.out.mono ?_
              rintro e w8 ⟨A8, c8, rfl, h8, hc8, hb_⟩
              have HC8 := Lib.hid (bthen HC7.out hb_)
              clear ci hb_ kb kc
              have kc := (BC5.out.keep HC8.out).at_
              have kb := (BX.out.keep (bthen HB5.out HC8.out)).at_
              by_cases e1 : t1 = -1
              · have f1 : decide (0 ≤ t1) = false := by simp; omega
                have hXN3 := hXN3.out
                rw [if_pos e1] at hXN3
                have hXN4 : XN = X2 := hXN3
                clear hXN3
                subst hXN4
                replace e1 := Lib.hid e1
                replace h8 := Lib.hid h8
                replace hc8 := Lib.hid hc8
                go_wp2
                go_roundw
                case rel => exact ⟨j + 1, A8, c8, by omega, by go_num, by rw [hXe.out], by rw [hXe.out]; exact hc8, by rw [hXe.out]; exact h8, HC8⟩
                case measure => simp [intOf]; omega
              · have f1 : 0 ≤ t1 := by omega
                have hXN3 := hXN3.out
                rw [if_neg e1] at hXN3
                have hXN4 : XN = insD' X2 ⟨⟨y0, y1, y2, y3, y4⟩, false, true, t1, t1 + L⟩ := hXN3
                have ci := cI.out A8 X2.length c8 X2 ⟨⟨y0, y1, y2, y3, y4⟩, false, true, t1, t1 + L⟩ w8 h8 (by omega) hc8
                rw [← hXN4] at ci
                dsimp only at ci
                replace ci := Lib.hid ci
                replace e1 := Lib.hid e1
                replace hXN4 := Lib.hid hXN4
                replace hXN3 := Lib.hid hXN3
                replace h8 := Lib.hid h8
                replace hc8 := Lib.hid hc8
                go_wp2_with fail
                refine ci.out.mono ?_
                rintro e w9 ⟨A9, c9, rfl, h9, hc9, hb_⟩
                have HC9 := Lib.hid (bthen HC8.out hb_)
                clear ci hb_ kb kc
                replace h9 := Lib.hid h9
                replace hc9 := Lib.hid hc9
                go_wp2
                go_roundw
                case rel => exact ⟨j + 1, A9, c9, by omega, by go_num, by rw [hXe.out], by rw [hXe.out]; exact hc9, by rw [hXe.out]; exact h9, HC9⟩
                case measure => simp [intOf]; omega
          · have d2 : (y3 == node) = false := by simpa using a2
            have hXN : XN = X0 := by
              have := hks.out
              rw [if_pos ⟨a1, a2⟩] at this
              exact this
            subst hXN
            replace a1 := Lib.hid a1
            replace a2 := Lib.hid a2
            go_wp2
            go_roundw
            case rel => exact ⟨j + 1, Ak, ck, by omega, by go_num, by rw [hXe.out], by rw [hXe.out]; exact hck, by rw [hXe.out]; exact hSk, HC⟩
            case measure => simp [intOf]; omega
        · obtain rfl : j = tn := by omega
          have hkt := hTn.out
          have HO6 := Lib.hid (owns_keep HO5.out HC.out)
          have HB6 := Lib.hid (bthen HB5.out HC.out)
          have hs6 := HB6.out.size
          generalize K j = X0 at *
          replace hkt := Lib.hid hkt
          go_wp2_with (at_builtin; refine wpList_append_sls eltD _ rfl _ _ rfl w2.heap.size v (G q) rfl HO6.out Ak X0.length ck X0 rfl hSk.out ?c1 ?c2 ?_)
          try case c1 => omega
          try case c2 => exact hs6
          intro v7 w7 ho7 hg7 hb7
          have ho8 : Hid (w7.ownsRow w2.heap.size 45 9 v7 (G (q + 1)).length ((G (q + 1)).flatMap dutE)) := by
            show World.ownsRow _ _ _ _ _ _ _
            rw [hgs.out, List.length_append, List.flatMap_append]; simpa using ho7
          have HB7 := Lib.hid (Below.grownM HB6.out hg7 hs6 (fun k hk => (HO6.out.lt k hk).1))
          clear hg7 hb7 ho7
          go_wp2
          go_roundw
          case rel => exact ⟨q + 1, v7, by omega, by go_num, rfl, ho8, HB7⟩
          case measure => simp [intOf]; omega
    · obtain rfl : q = nc := by omega
      have hgn := hGn'.out
      have hHO := HO.out
      rw [hgn] at hHO
      obtain ⟨A7, c7, rfl⟩ := own_slice hHO
      have hD := Lib.hid (Sls.of_owns dutE_len hHO rfl).2
      clear hHO HO hgn
      go_wp2
      refine bodyPost_ret (v := .tuple #[.slice A7 RD.length c7, .int .i64 0]) (by simp [results, Try.results18, go_sem]) rfl ⟨A7, c7, rfl, hD.out, HBw.out⟩
end Sw
end Go.Proofs.Ytdlgdmbcbenlbaa
