/- conflict.faulty. -/
import Derived.Test.YthibgpgjioepfaaCfl4
namespace Go.Proofs.Ythibgpgjioepfaa
open Go Go.RowKit Go.Sort
namespace Nt
/-- another cell that has a node in common -/
def shares (cs : List Cel) (i : Nat) : Nat → Bool
  | 0 => false
  | k + 1 => shares cs i k || (decide (k ≠ i) && touches (cs.getD i default) (cs.getD k default))
def heardAt (N : Net) (cs : List Cel) (i : Nat) (k node : Int) : Bool := hearsN N (N.margin.getD k.toNat 0) (dist N cs i node)
/-- a cell's fault, of a valid network -/
def faulty (N : Net) (cs : List Cel) (i : Nat) : Bool :=
  let q := cs.getD i default
  if usableN N (indexN N q.frm q.to) = false then true
  else if shares cs i cs.length = true then true
  else !(heardAt N cs i (indexN N q.frm q.to) q.to) || !(heardAt N cs i (indexN N q.to q.frm) q.frm)
theorem shares_mono {cs : List Cel} {i k m : Nat} (h : shares cs i k = true) (hkm : k ≤ m) : shares cs i m = true := by
  induction m with
  | zero => have : k = 0 := by omega
            subst this; exact h
  | succ m ih =>
    by_cases e : k = m + 1
    · subst e; exact h
    · simp only [shares]; rw [ih (by omega)]; rfl
theorem findL_at {ls : List Lnk} {f t : Int} {k : Nat} (h : findL ls f t = (k : Int)) : k < ls.length ∧ (ls.getD k default).frm = f ∧ (ls.getD k default).to = t := by
  unfold findL idx at h
  cases hf : ls.findIdx? (fun l : Lnk => l.frm == f && l.to == t) with
  | none => rw [hf] at h; simp only at h; omega
  | some j =>
    rw [hf] at h
    simp only at h
    have : j = k := by omega
    subst this
    rw [List.findIdx?_eq_some_iff_getElem] at hf
    obtain ⟨hj, hp, _⟩ := hf
    rw [List.getD_eq_getElem?_getD, List.getElem?_eq_getElem hj]
    simp at hp
    exact ⟨hj, hp.1, hp.2⟩
theorem usable_ends {N : Net} {f t : Int} (h : usableN N (indexN N f t) = true) : check N = 0 ∧ (0 ≤ indexN N f t ∧ indexN N f t < N.links.length) ∧ (0 ≤ indexN N t f ∧ indexN N t f < N.links.length) ∧ isNode N.nodes f = true ∧ isNode N.nodes t = true := by
  unfold usableN at h
  simp only [Bool.and_eq_true, decide_eq_true_eq] at h
  obtain ⟨⟨⟨hc, h0⟩, h1⟩, h2⟩ := h
  have hi : ∀ a b, indexN N a b = findL N.links a b := fun a b => by unfold indexN; rw [if_pos hc]
  rw [hi] at h0 h1 h2 ⊢
  rw [hi]
  obtain ⟨k, hk⟩ := Int.eq_ofNat_of_zero_le h0
  obtain ⟨hkl, hf, ht⟩ := findL_at hk
  rw [hk, Int.toNat_natCast] at h2
  unfold usableV at h2
  dsimp only at h2
  rw [hf, ht] at h2
  simp only [Bool.and_eq_true, decide_eq_true_eq] at h2
  have hb := idx_lt (fun l : Lnk => l.frm == t && l.to == f) N.links
  have hz := (checkLink_zero ((check_zero hc).2.2.2.2.2.2 k hkl)).1
  unfold badEnds at hz
  simp only [Bool.or_eq_false_iff, Bool.not_eq_false'] at hz
  rw [hf, ht] at hz
  exact ⟨hc, ⟨h0, h1⟩, ⟨h2.1.1, hb.1⟩, hz.1.1.1.1, hz.1.1.1.2⟩
set_option maxRecDepth 100000 in
set_option maxHeartbeats 4000000 in
theorem faulty_any (N : Net) (v : NetV) (A : Option Addr) (n c : Nat) (cs : List Cel) (i : Nat) (w : World) (hN : NetIs w v N) (hs : CelS w A n cs) (hn : n ≤ 100000) (hi : i < n) :
    Calls Try.prog 47 #[.agg #[.int .i64 N.nodes, .slice v.PA v.pn v.pc, .int .i64 N.noise, .int .i64 N.threshold, .slice v.LA v.ln v.lc, .slice v.MA v.mn v.mc], .slice A n c, .int .i64 (i : Int)] w
      fun e w' => e = .returned (.bool (faulty N cs i)) ∧ Below w.heap.size w w' := by
  obtain ⟨cb, co, rfl⟩ := hs.els.addr (by omega)
  obtain ⟨⟨s0, s1, s2, s3, s4⟩, hq, hqm, q0, q1, q2, q3, q4⟩ := hs.elem hi
  dsimp only at q0 q1 q2 q3 q4
  have hq' : cs.getD i default = ⟨s0, s1, s2, s3, s4⟩ := by rw [List.getD_eq_getElem?_getD, hq]; rfl
  have hlen := hs.els.len
  have HF : Hid (faulty N cs i = if usableN N (indexN N s2 s3) = false then true else if shares cs i n = true then true else (!(heardAt N cs i (indexN N s2 s3) s3) || !(heardAt N cs i (indexN N s3 s2) s2))) := by
    show _ = _; unfold faulty; dsimp only; rw [hq', hlen]
  have HIx := fun W (h : NetIs W v N) (a b : Int) => index_any N v a b W h
  have HUs := fun W (h : NetIs W v N) => Usable_any N v (indexN N s2 s3) W h
  have HE := fun h => usable_ends (N := N) (f := s2) (t := s3) h
  have HH := fun W (h : NetIs W v N) (h' : CelS W (some ⟨cb, co, none⟩) n cs) (hc : check N = 0) (k nd : Nat) hk hnd B0 B1 B2 hB0 hB1 hB2 => heard_any N v (some ⟨cb, co, none⟩) n c cs (i : Int) k nd B0 B1 B2 W h h' hn hc hk hnd hB0 hB1 hB2
  have HHA : Hid (∀ (k nd : Nat), hearsN N (N.margin.getD k 0) (dist N cs i (nd : Int)) = heardAt N cs i (k : Int) (nd : Int)) := fun k nd => rfl
  generalize usableN N (indexN N s2 s3) = U at *
  generalize heardAt N cs i = HA at *
  generalize hI1 : indexN N s2 s3 = I1 at *
  generalize hI2 : indexN N s3 s2 = I2 at *
  generalize faulty N cs i = FF at *
  generalize hearsN N = HN at *
  generalize hdd : dist N cs i = D at *
  clear hdd
  replace HIx := Lib.hid HIx
  replace HUs := Lib.hid HUs
  replace HE := Lib.hid HE
  replace HH := Lib.hid HH
  replace hI1 := Lib.hid hI1
  replace hI2 := Lib.hid hI2
  replace hq := Lib.hid hq
  replace hqm := Lib.hid hqm
  replace hq' := Lib.hid hq'
  replace hlen := Lib.hid hlen
  have hlt := (hs.els.cell (by omega)).1
  obtain ⟨nodes, power, noise, thr, links, margin⟩ := N
  obtain ⟨PA, pn, pc, LA, ln, lc, MA, mn, mc⟩ := v
  dsimp only at *
  have BX : Box ((((w.alloc (.cells #[.int .i64 nodes, .slice PA pn pc, .int .i64 noise, .int .i64 thr, .slice LA ln lc, .slice MA mn mc] 26)).alloc (.cells #[.slice (some ⟨cb, co, none⟩) n c] 27)).alloc (.cells #[.int .i64 (i : Int)] 3)).alloc (.cells #[.int .i64 s0, .int .i64 s1, .int .i64 s2, .int .i64 s3, .int .i64 s4] 36)) w.heap.size #[.int .i64 nodes, .slice PA pn pc, .int .i64 noise, .int .i64 thr, .slice LA ln lc, .slice MA mn mc] := ((((Box.new w #[.int .i64 nodes, .slice PA pn pc, .int .i64 noise, .int .i64 thr, .slice LA ln lc, .slice MA mn mc] 26).alloc _).alloc _).alloc _)
  have BS_ : Box ((((w.alloc (.cells #[.int .i64 nodes, .slice PA pn pc, .int .i64 noise, .int .i64 thr, .slice LA ln lc, .slice MA mn mc] 26)).alloc (.cells #[.slice (some ⟨cb, co, none⟩) n c] 27)).alloc (.cells #[.int .i64 (i : Int)] 3)).alloc (.cells #[.int .i64 s0, .int .i64 s1, .int .i64 s2, .int .i64 s3, .int .i64 s4] 36)) (w.heap.size + 1) #[.slice (some ⟨cb, co, none⟩) n c] := by
    have := ((Box.new (w.alloc (.cells #[.int .i64 nodes, .slice PA pn pc, .int .i64 noise, .int .i64 thr, .slice LA ln lc, .slice MA mn mc] 26)) #[.slice (some ⟨cb, co, none⟩) n c] 27).alloc (.cells #[.int .i64 (i : Int)] 3)).alloc (.cells #[.int .i64 s0, .int .i64 s1, .int .i64 s2, .int .i64 s3, .int .i64 s4] 36)
    simpa using this
  have BI : Box ((((w.alloc (.cells #[.int .i64 nodes, .slice PA pn pc, .int .i64 noise, .int .i64 thr, .slice LA ln lc, .slice MA mn mc] 26)).alloc (.cells #[.slice (some ⟨cb, co, none⟩) n c] 27)).alloc (.cells #[.int .i64 (i : Int)] 3)).alloc (.cells #[.int .i64 s0, .int .i64 s1, .int .i64 s2, .int .i64 s3, .int .i64 s4] 36)) (w.heap.size + 2) #[.int .i64 (i : Int)] := by
    have := (Box.new ((w.alloc (.cells #[.int .i64 nodes, .slice PA pn pc, .int .i64 noise, .int .i64 thr, .slice LA ln lc, .slice MA mn mc] 26)).alloc (.cells #[.slice (some ⟨cb, co, none⟩) n c] 27)) #[.int .i64 (i : Int)] 3).alloc (.cells #[.int .i64 s0, .int .i64 s1, .int .i64 s2, .int .i64 s3, .int .i64 s4] 36)
    simpa using this
  have BC : Box ((((w.alloc (.cells #[.int .i64 nodes, .slice PA pn pc, .int .i64 noise, .int .i64 thr, .slice LA ln lc, .slice MA mn mc] 26)).alloc (.cells #[.slice (some ⟨cb, co, none⟩) n c] 27)).alloc (.cells #[.int .i64 (i : Int)] 3)).alloc (.cells #[.int .i64 s0, .int .i64 s1, .int .i64 s2, .int .i64 s3, .int .i64 s4] 36)) (w.heap.size + 3) #[.int .i64 s0, .int .i64 s1, .int .i64 s2, .int .i64 s3, .int .i64 s4] := by
    have := (Box.new (((w.alloc (.cells #[.int .i64 nodes, .slice PA pn pc, .int .i64 noise, .int .i64 thr, .slice LA ln lc, .slice MA mn mc] 26)).alloc (.cells #[.slice (some ⟨cb, co, none⟩) n c] 27)).alloc (.cells #[.int .i64 (i : Int)] 3)) #[.int .i64 s0, .int .i64 s1, .int .i64 s2, .int .i64 s3, .int .i64 s4] 36)
    simpa using this
  have hbw : Below w.heap.size w ((((w.alloc (.cells #[.int .i64 nodes, .slice PA pn pc, .int .i64 noise, .int .i64 thr, .slice LA ln lc, .slice MA mn mc] 26)).alloc (.cells #[.slice (some ⟨cb, co, none⟩) n c] 27)).alloc (.cells #[.int .i64 (i : Int)] 3)).alloc (.cells #[.int .i64 s0, .int .i64 s1, .int .i64 s2, .int .i64 s3, .int .i64 s4] 36)) := (((below_alloc _ _).alloc (by simp) _).alloc (by simp; omega) _).alloc (by simp; omega) _
  replace BX := Lib.hid BX
  replace BS_ := Lib.hid BS_
  replace BI := Lib.hid BI
  replace BC := Lib.hid BC
  replace hbw := Lib.hid hbw
  replace hN := Lib.hid hN
  replace hs := Lib.hid hs
  go_enter Try.func47, Try.ntmps47
  have hl1 : cb < w.heap.size + 1 := by omega
  have hl2 : cb < w.heap.size + 2 := by omega
  have hl3 : cb < w.heap.size + 1 + 1 := by omega
  go_wp2_with fail
  generalize (((w.alloc (.cells #[.int .i64 nodes, .slice PA pn pc, .int .i64 noise, .int .i64 thr, .slice LA ln lc, .slice MA mn mc] 26)).alloc (.cells #[.slice (some ⟨cb, co, none⟩) n c] 27)).alloc (.cells #[.int .i64 (i : Int)] 3)).alloc (.cells #[.int .i64 s0, .int .i64 s1, .int .i64 s2, .int .i64 s3, .int .i64 s4] 36) = w1 at *
  clear q0 q1 q2 q3 q4 hl1 hl2 hl3
  have N1 := Lib.hid (hN.out.keep hbw.out)
  have cs1 : ∀ d os, Calls Try.prog 16 #[.agg #[.int .i64 nodes, .slice PA pn pc, .int .i64 noise, .int .i64 thr, .slice LA ln lc, .slice MA mn mc], .int .i64 s2, .int .i64 s3] (grow (redrawn w1 d) os) fun e w'' => e = .returned (.int .i64 I1) ∧ ∃ p : Regrown, w'' = grow (redrawn w1 p.d) p.os :=
    fun d os => Calls.regrown_of (by have := HIx.out _ (N1.out.keep (below_regrown w1 d os)) s2 s3; rwa [hI1.out] at this)
  have cs2 : ∀ d os, Calls Try.prog 16 #[.agg #[.int .i64 nodes, .slice PA pn pc, .int .i64 noise, .int .i64 thr, .slice LA ln lc, .slice MA mn mc], .int .i64 s3, .int .i64 s2] (grow (redrawn w1 d) os) fun e w'' => e = .returned (.int .i64 I2) ∧ ∃ p : Regrown, w'' = grow (redrawn w1 p.d) p.os :=
    fun d os => Calls.regrown_of (by have := HIx.out _ (N1.out.keep (below_regrown w1 d os)) s3 s2; rwa [hI2.out] at this)
  replace cs1 := Lib.hid cs1
  replace cs2 := Lib.hid cs2
  have gx := BX.out.grown
  have gc := BC.out.grown
  refine wp_region_quiet_below (by kernel_rfl) (by kernel_rfl) ?_
  repeat (go_big_quiet_step (first | (with_reducible exact cs1.out _ _) | (with_reducible exact cs2.out _ _)))
  refine wpQuiet_nil ?_
  rintro _ ⟨⟨dq, osq⟩, rfl⟩
  have BX2 := Lib.hid (BX.out.keep (below_regrown w1 dq osq))
  have BS2 := Lib.hid (BS_.out.keep (below_regrown w1 dq osq))
  have BI2 := Lib.hid (BI.out.keep (below_regrown w1 dq osq))
  have BC2 := Lib.hid (BC.out.keep (below_regrown w1 dq osq))
  have hbw2 := Lib.hid (bthen hbw.out (below_regrown w1 dq osq))
  generalize grow (redrawn w1 dq) osq = w2 at *
  clear gx gc cs1 cs2 N1 BX BS_ BI BC hbw
  have kx := BX2.out.at_
  have HUs2 := Lib.hid (HUs.out w2 (hN.out.keep hbw2.out))
  go_wp2_with fail
  refine HUs2.out.mono ?_
  rintro e w3 ⟨rfl, hb3⟩
  have BX3 := Lib.hid (BX2.out.keep hb3)
  have BS3 := Lib.hid (BS2.out.keep hb3)
  have BI3 := Lib.hid (BI2.out.keep hb3)
  have BC3 := Lib.hid (BC2.out.keep hb3)
  have hbw3 := Lib.hid (bthen hbw2.out hb3)
  clear hb3 kx HUs2 BX2 BS2 BI2 BC2 hbw2
  cases hU : U with
  | false =>
    have HR : Hid (FF = true) := by show _ = _; rw [HF.out, if_pos hU]
    replace hU := Lib.hid hU
    go_wp2
    go_ret
    exact ⟨by rw [HR.out]; rfl, hbw3.out⟩
  | true =>
    have HF2 : Hid (FF = if shares cs i n = true then true else (!HA I1 s3 || !HA I2 s2)) := by show _ = _; rw [HF.out, if_neg (by rw [hU]; decide)]
    have HEE := HE.out hU
    replace hU := Lib.hid hU
    replace HEE := Lib.hid HEE
    clear HF
    have ks := BS3.out.at_
    go_wp2
    clear ks
    go_loopw [35] (fun k wr => ∃ k' : Nat, k' ≤ n ∧ k = .int .i64 k' ∧ Hid (shares cs i k' = false) ∧ Hid (Below w.heap.size w wr) ∧ Hid (Box wr w.heap.size #[.int .i64 nodes, .slice PA pn pc, .int .i64 noise, .int .i64 thr, .slice LA ln lc, .slice MA mn mc]) ∧ Hid (Box wr (w.heap.size + 1) #[.slice (some ⟨cb, co, none⟩) n c]) ∧ Hid (Box wr (w.heap.size + 2) #[.int .i64 (i : Int)]) ∧ Hid (Box wr (w.heap.size + 3) #[.int .i64 s0, .int .i64 s1, .int .i64 s2, .int .i64 s3, .int .i64 s4])) (fun k _ => n - (intOf k).toNat)
    case atStart => exact ⟨0, by omega, rfl, rfl, hbw3, BX3, BS3, BI3, BC3⟩
    case round =>
      obtain ⟨k, hk, rfl, HP, HB, HX, HS, HI, HC⟩ := hrel
      clear hbw3 BX3 BS3 BI3 BC3
      by_cases hlt2 : k < n
      · obtain ⟨⟨t0, t1, t2, t3, t4⟩, hq2, hqm2, p0, p1, p2, p3, p4⟩ := (hs.out.keep HB.out).elem hlt2
        dsimp only at p0 p1 p2 p3 p4
        have hq2' : cs.getD k default = ⟨t0, t1, t2, t3, t4⟩ := by rw [List.getD_eq_getElem?_getD, hq2]; rfl
        have hsh : shares cs i (k + 1) = (shares cs i k || (decide (k ≠ i) && touches ⟨s0, s1, s2, s3, s4⟩ ⟨t0, t1, t2, t3, t4⟩)) := by rw [← hq', ← hq2']; rfl
        rw [HP.out] at hsh
        replace hq2 := Lib.hid hq2
        replace hqm2 := Lib.hid hqm2
        replace hq2' := Lib.hid hq2'
        have ki := HI.out.at_
        have kc := HC.out.at_
        have HB1 := Lib.hid (HB.out.alloc HB.out.size (.cells #[.int .i64 t0, .int .i64 t1, .int .i64 t2, .int .i64 t3, .int .i64 t4] 36))
        have HX1 := Lib.hid (HX.out.alloc (.cells #[.int .i64 t0, .int .i64 t1, .int .i64 t2, .int .i64 t3, .int .i64 t4] 36))
        have HS1 := Lib.hid (HS.out.alloc (.cells #[.int .i64 t0, .int .i64 t1, .int .i64 t2, .int .i64 t3, .int .i64 t4] 36))
        have HI1' := Lib.hid (HI.out.alloc (.cells #[.int .i64 t0, .int .i64 t1, .int .i64 t2, .int .i64 t3, .int .i64 t4] 36))
        have HC1 := Lib.hid (HC.out.alloc (.cells #[.int .i64 t0, .int .i64 t1, .int .i64 t2, .int .i64 t3, .int .i64 t4] 36))
        have hl4 := HI.out.lt
        have hl5 := HC.out.lt
        by_cases hki : ((k : Int) != (i : Int)) = true
        · have hki2 : decide (k ≠ i) = true := by simp at hki; simp; omega
          rw [hki2] at hsh
          replace hki2 := Lib.hid hki2
          replace hsh := Lib.hid hsh
          go_wp2_with fail
          refine (touches_any ⟨s0, s1, s2, s3, s4⟩ ⟨t0, t1, t2, t3, t4⟩ _).mono ?_
          rintro e w5 ⟨rfl, hb5⟩
          have HB2 := Lib.hid (bthen HB1.out hb5)
          have HX2 := Lib.hid (HX1.out.keep hb5)
          have HS2 := Lib.hid (HS1.out.keep hb5)
          have HI2 := Lib.hid (HI1'.out.keep hb5)
          have HC2 := Lib.hid (HC1.out.keep hb5)
          clear hb5 HB1 HX1 HS1 HI1' HC1 ki kc p0 p1 p2 p3 p4
          have hsh2 := hsh.out
          cases hT : touches ⟨s0, s1, s2, s3, s4⟩ ⟨t0, t1, t2, t3, t4⟩ with
          | true =>
            have HR : Hid (FF = true) := by
              show _ = _; rw [HF2.out, if_pos (shares_mono (k := k + 1) (by rw [hsh2, hT]; rfl) (by omega))]
            replace hT := Lib.hid hT
            replace hsh2 := Lib.hid hsh2
            go_wp2
            go_ret
            exact ⟨by rw [HR.out]; rfl, HB2.out⟩
          | false =>
            have HP2 : Hid (shares cs i (k + 1) = false) := by show _ = _; rw [hsh2, hT]; rfl
            replace hT := Lib.hid hT
            replace hsh2 := Lib.hid hsh2
            go_wp2
            go_roundw
            case rel => exact ⟨k + 1, by omega, by go_num, HP2, HB2, HX2, HS2, HI2, HC2⟩
            case measure => simp [intOf]; omega
        · have hki' : ((k : Int) != (i : Int)) = false := by simpa using hki
          have hki2 : decide (k ≠ i) = false := by simp at hki; simp; omega
          rw [hki2] at hsh
          have HP2 : Hid (shares cs i (k + 1) = false) := by show _ = _; rw [hsh]; rfl
          replace hki := Lib.hid hki
          replace hki2 := Lib.hid hki2
          replace hsh := Lib.hid hsh
          go_wp2
          go_roundw
          case rel => exact ⟨k + 1, by omega, by go_num, HP2, HB1, HX1, HS1, HI1', HC1⟩
          case measure => simp [intOf]; omega
      · have e : k = n := by omega
        subst e
        have HF3 : Hid (FF = (!HA I1 s3 || !HA I2 s2)) := by show _ = _; rw [HF2.out, if_neg (by rw [HP.out]; decide)]
        obtain ⟨hck, ⟨hi1, hi2⟩, ⟨hi3, hi4⟩, hn1, hn2⟩ := HEE.out
        have hn1 := isNode_yes hn1
        have hn2 := isNode_yes hn2
        obtain ⟨k1, rfl⟩ := Int.eq_ofNat_of_zero_le hi1
        obtain ⟨k2, rfl⟩ := Int.eq_ofNat_of_zero_le hi3
        obtain ⟨f2, rfl⟩ := Int.eq_ofNat_of_zero_le hn1.1
        obtain ⟨f3, rfl⟩ := Int.eq_ofNat_of_zero_le hn2.1
        have hkl1 : k1 < links.length := by omega
        have hkl2 : k2 < links.length := by omega
        have H1 := Lib.hid (HH.out wr (hN.out.keep HB.out) (hs.out.keep HB.out) hck k1 f3 hkl1 hn2.2 _ _ _ HX.out HS.out HI.out)
        rw [HHA.out] at H1
        have kc := HC.out.at_
        go_wp2_with fail
        refine H1.out.mono ?_
        rintro e w5 ⟨rfl, hb5⟩
        have HC2 := (HC.out.keep hb5).at_
        have hB5 := Lib.hid (bthen HB.out hb5)
        have H2 := Lib.hid (HH.out w5 (hN.out.keep hB5.out) (hs.out.keep hB5.out) hck k2 f2 hkl2 hn1.2 _ _ _ (HX.out.keep hb5) (HS.out.keep hb5) (HI.out.keep hb5))
        rw [HHA.out] at H2
        clear hb5 kc
        replace hck := Lib.hid hck
        cases hA1 : HA (k1 : Int) (f3 : Int) with
        | false =>
          have HR : Hid (FF = true) := by show _ = _; rw [HF3.out, hA1]; rfl
          replace hA1 := Lib.hid hA1
          go_wp2
          go_ret
          exact ⟨by rw [HR.out]; rfl, hB5.out⟩
        | true =>
          have HR : Hid (FF = !HA (k2 : Int) (f2 : Int)) := by show _ = _; rw [HF3.out, hA1]; rfl
          replace hA1 := Lib.hid hA1
          go_wp2_with fail
          refine H2.out.mono ?_
          rintro e w6 ⟨rfl, hb6⟩
          go_wp2
          go_ret
          exact ⟨by rw [HR.out]; rfl, bthen hB5.out hb6⟩
end Nt
end Go.Proofs.Ythibgpgjioepfaa
