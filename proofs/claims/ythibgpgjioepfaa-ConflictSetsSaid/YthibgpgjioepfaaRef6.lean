/- hopmeshref34.Fault. -/
import Derived.Test.YthibgpgjioepfaaRef5
import Derived.Test.YthibgpgjioepfaaAlone
namespace Go.Proofs.Ythibgpgjioepfaa
open Go Go.RowKit Go.Sort
namespace Nt
theorem goodR_usable {N : Net} (hc : check N = 0) (f t : Int) : goodR N f t = usableN N (indexN N f t) := by
  have hi : indexN N f t = findL N.links f t := by unfold indexN; rw [if_pos hc]
  rw [hi]
  have hl := findL_lt N.links f t
  unfold goodR usableN
  by_cases h0 : 0 ≤ findL N.links f t
  · obtain ⟨k, hk⟩ := Int.eq_ofNat_of_zero_le h0
    obtain ⟨hkl, hf, ht⟩ := findL_at hk
    rw [hk, Int.toNat_natCast]
    unfold usableV
    dsimp only
    rw [hf, ht]
    have : decide ((k : Int) < (N.links.length : Int)) = true := by simpa using hkl
    rw [this]
    simp [hc]
  · simp [h0]
theorem touches_swap (a b : Cel) : touches a b = (b.frm == a.frm || b.frm == a.to || b.to == a.frm || b.to == a.to) := by
  unfold touches
  rw [show (b.frm == a.frm) = (a.frm == b.frm) from Bool.eq_iff_iff.2 (by simp only [beq_iff_eq]; exact eq_comm), show (b.frm == a.to) = (a.to == b.frm) from Bool.eq_iff_iff.2 (by simp only [beq_iff_eq]; exact eq_comm), show (b.to == a.frm) = (a.frm == b.to) from Bool.eq_iff_iff.2 (by simp only [beq_iff_eq]; exact eq_comm), show (b.to == a.to) = (a.to == b.to) from Bool.eq_iff_iff.2 (by simp only [beq_iff_eq]; exact eq_comm)]
  cases (a.frm == b.frm) <;> cases (a.frm == b.to) <;> cases (a.to == b.frm) <;> cases (a.to == b.to) <;> rfl
theorem four (p q r s : Bool) : (p = true ∧ (p || q || r || s) = true) ∨ (p = false ∧ q = true ∧ (p || q || r || s) = true) ∨ (p = false ∧ q = false ∧ r = true ∧ (p || q || r || s) = true) ∨ (p = false ∧ q = false ∧ r = false ∧ s = true ∧ (p || q || r || s) = true) ∨ (p = false ∧ q = false ∧ r = false ∧ s = false ∧ (p || q || r || s) = false) := by
  cases p <;> cases q <;> cases r <;> cases s <;> simp
theorem dist_bd {N : Net} (h : ∀ xs ∈ N.power, ∀ x ∈ xs, 0 ≤ x ∧ x ≤ 68719476736) (cs : List Cel) (i node : Int) (hn : cs.length ≤ 60) : 0 ≤ dist N cs i node ∧ dist N cs i node ≤ 8796093022208 := by
  unfold dist
  have := distTo_bd h cs i node cs.length
  omega
theorem hears_heard {N : Net} (hc : check N = 0) {s d : Int} (hs : 0 ≤ s ∧ s ≤ 68719476736) (hd : 0 ≤ d ∧ d ≤ 8796093022208) : hearsN N s d = heardB N.threshold N.noise s d := by
  unfold hearsN
  have h1 : s ≤ mostS := by unfold mostS; omega
  have h2 : d ≤ mostS := by unfold mostS; omega
  simp [hc, hs.1, hd.1, h1, h2]
theorem CelS.at2 {w : World} {b off n : Nat} {xs : List Cel} (h : CelS w (some ⟨b, off, none⟩) n xs) {k : Nat} (hk : k < n) {c : Cel} (hx : xs[k]? = some c) :
    w.cell? ⟨b, off + k * 5 + 2, none⟩ = some (.int .i64 c.frm) ∧ w.cell? ⟨b, off + k * 5 + 3, none⟩ = some (.int .i64 c.to) := by
  obtain ⟨d, h1, _, _, _, h2, h3, _⟩ := h.elem hk
  rw [hx] at h1
  injection h1 with h1
  subst h1
  exact ⟨h2, h3⟩
set_option maxRecDepth 100000 in
set_option maxHeartbeats 16000000 in
theorem rFault_any (N : Net) (v : NetV) (A : Option Addr) (n c : Nat) (cs : List Cel) (i : Nat) (w : World) (hN : NetIs w v N) (hs : CelS w A n cs) (hn : n ≤ 60) (hi : i < n) (hc : check N = 0) :
    Calls Try.prog 48 #[.agg #[.int .i64 N.nodes, .slice v.PA v.pn v.pc, .int .i64 N.noise, .int .i64 N.threshold, .slice v.LA v.ln v.lc, .slice v.MA v.mn v.mc], .slice A n c, .int .i64 (i : Int)] w
      fun e w' => e = .returned (.bool (faulty N cs i)) ∧ Below w.heap.size w w' := by
  obtain ⟨cb, co, rfl⟩ := hs.els.addr (by omega)
  obtain ⟨⟨s0, s1, s2, s3, s4⟩, hq, hqm, q0, q1, q2, q3, q4⟩ := hs.elem hi
  dsimp only at q0 q1 q2 q3 q4
  have hq' : cs.getD i default = ⟨s0, s1, s2, s3, s4⟩ := by rw [List.getD_eq_getElem?_getD, hq]; rfl
  have hlen := hs.els.len
  have hcb := (hs.els.cell (by omega)).1
  have hpw := (check_zero hc).2.2.1
  have HFF : Hid (faulty N cs i = if usableN N (indexN N s2 s3) = false then true else if shares cs i n = true then true else (!(heardAt N cs i (indexN N s2 s3) s3) || !(heardAt N cs i (indexN N s3 s2) s2))) := by
    show _ = _; unfold faulty; dsimp only; rw [hq', hlen]
  have HGo := fun W (h : NetIs W v N) => rgood_any N v s2 s3 W h hc
  rw [goodR_usable hc] at HGo
  have HE := fun h => usable_ends (N := N) (f := s2) (t := s3) h
  have HFi := fun W (h : NetIs W v N) a b => rfind_any N v a b W h
  have HIx : Hid (∀ a b, findL N.links a b = indexN N a b) := fun a b => by unfold indexN; rw [if_pos hc]
  have HPo := fun W (h : NetIs W v N) a b => power_any N v a b W h (check_zero hc).2.1
  have HPv : Hid (∀ a b, isNode N.nodes b = true → powR N a b = adds N b a) := fun a b h => by unfold powR; rw [if_pos h]
  have HAb := fun b a => adds_bd hpw b a
  have hno := noise_ok (check_zero hc).2.2.2.1
  have HHe := fun s d W hs hd => rheard_any N.nodes N.noise N.threshold s d (.slice v.PA v.pn v.pc) (.slice v.LA v.ln v.lc) (.slice v.MA v.mn v.mc) W hno.1 (by have := hno.2; omega) hs hd
  have HMb := fun b (hb : b < N.links.length) => margin_bd hc hb
  have HHa : Hid (∀ (k : Nat) (node : Int), k < N.links.length → heardAt N cs i (k : Int) node = heardB N.threshold N.noise (N.margin.getD k 0) (distTo N cs (i : Int) node n)) := fun k node hk => by
    show hearsN N (N.margin.getD k 0) (dist N cs (i : Int) node) = _
    rw [hears_heard hc (margin_bd hc hk) (dist_bd hpw cs i node (by omega)), show dist N cs (i : Int) node = distTo N cs (i : Int) node n by unfold dist; rw [hlen]]
  have HTb := fun node k => distTo_bd hpw cs (i : Int) node k
  have HTs : Hid (∀ node k, distTo N cs (i : Int) node (k + 1) = distTo N cs (i : Int) node k + (if (k : Int) = (i : Int) then 0 else distC N node (cs.getD k default))) := fun node k => rfl
  have HT0 : Hid (∀ node, distTo N cs (i : Int) node 0 = 0) := fun node => rfl
  have HDC : Hid (∀ node q, distC N node q = adds N node q.frm + adds N node q.to) := fun node q => rfl
  have hml := (check_zero hc).2.2.2.2.2.1
  have hmn := hN.margin.els.len
  generalize usableN N (indexN N s2 s3) = U at *
  generalize heardAt N cs i = HA at *
  generalize hix : indexN N = IX at *
  generalize faulty N cs i = FF at *
  generalize hT : distTo N cs (i : Int) = T at *
  generalize hDC : distC N = DC at *
  generalize hPR : powR N = PR at *
  generalize hAD : adds N = AD at *
  clear hix hT hDC hPR hAD hpw hno
  replace HGo := Lib.hid HGo
  replace HE := Lib.hid HE
  replace HFi := Lib.hid HFi
  replace HPo := Lib.hid HPo
  replace HAb := Lib.hid HAb
  replace HHe := Lib.hid HHe
  replace HMb := Lib.hid HMb
  replace HTb := Lib.hid HTb
  replace hq := Lib.hid hq
  replace hqm := Lib.hid hqm
  replace hq' := Lib.hid hq'
  replace hlen := Lib.hid hlen
  replace hml := Lib.hid hml
  replace hmn := Lib.hid hmn
  replace hc := Lib.hid hc
  obtain ⟨nodes, power, noise, thr, links, margin⟩ := N
  obtain ⟨PA, pn, pc, LA, ln, lc, MA, mn, mc⟩ := v
  dsimp only at *
  have BX := (Box.new w #[.int .i64 nodes, .slice PA pn pc, .int .i64 noise, .int .i64 thr, .slice LA ln lc, .slice MA mn mc] 26).alloc (.cells #[.int .i64 s0, .int .i64 s1, .int .i64 s2, .int .i64 s3, .int .i64 s4] 36)
  have BC := Box.new (w.alloc (.cells #[.int .i64 nodes, .slice PA pn pc, .int .i64 noise, .int .i64 thr, .slice LA ln lc, .slice MA mn mc] 26)) #[.int .i64 s0, .int .i64 s1, .int .i64 s2, .int .i64 s3, .int .i64 s4] 36
  rw [show (w.alloc (.cells #[.int .i64 nodes, .slice PA pn pc, .int .i64 noise, .int .i64 thr, .slice LA ln lc, .slice MA mn mc] 26)).heap.size = w.heap.size + 1 by simp] at BC
  have hbw := (below_alloc w (.cells #[.int .i64 nodes, .slice PA pn pc, .int .i64 noise, .int .i64 thr, .slice LA ln lc, .slice MA mn mc] 26)).alloc (by simp) (.cells #[.int .i64 s0, .int .i64 s1, .int .i64 s2, .int .i64 s3, .int .i64 s4] 36)
  replace BX := Lib.hid BX
  replace BC := Lib.hid BC
  replace hbw := Lib.hid hbw
  replace hN := Lib.hid hN
  replace hs := Lib.hid hs
  have hl1 : cb < w.heap.size + 1 := by omega
  go_enter Try.func48, Try.ntmps48
  go_wp2_with fail
  generalize (w.alloc (.cells #[.int .i64 nodes, .slice PA pn pc, .int .i64 noise, .int .i64 thr, .slice LA ln lc, .slice MA mn mc] 26)).alloc (.cells #[.int .i64 s0, .int .i64 s1, .int .i64 s2, .int .i64 s3, .int .i64 s4] 36) = w0 at *
  clear q0 q1 q2 q3 q4 hl1 hcb
  have kx := BX.out.at_
  have kc := BC.out.at_
  have c1 := Lib.hid (HGo.out _ (hN.out.keep hbw.out))
  refine c1.out.mono ?_
  rintro e w1 ⟨rfl, hb⟩
  clear kx kc c1
  replace BX := Lib.hid (BX.out.keep hb)
  replace BC := Lib.hid (BC.out.keep hb)
  replace hbw := Lib.hid (hbw.out.keep hb)
  clear hb
  cases hU : U with
  | false =>
    have HR : Hid (FF = true) := by show _ = _; rw [HFF.out, if_pos hU]
    replace hU := Lib.hid hU
    go_wp2
    go_ret
    exact ⟨by rw [HR.out]; rfl, hbw.out⟩
  | true =>
  obtain ⟨hck, ⟨hi1, hi2⟩, ⟨hi3, hi4⟩, hn1, hn2⟩ := HE.out hU
  have HF2 : Hid (FF = if shares cs i n = true then true else (!HA (IX s2 s3) s3 || !HA (IX s3 s2) s2)) := by show _ = _; rw [HFF.out, if_neg (by rw [hU]; decide)]
  clear HFF HE
  replace hU := Lib.hid hU
  replace hck := Lib.hid hck
  replace hn1 := Lib.hid hn1
  replace hn2 := Lib.hid hn2
  go_wp2
  go_loopw [8, 9, 10] (fun t f k wr => ∃ k' : Nat, k' ≤ n ∧ k = .int .i64 k' ∧ t = .int .i64 (T s3 k') ∧ f = .int .i64 (T s2 k') ∧ Hid (shares cs i k' = false) ∧ Hid (Below w1.heap.size w1 wr)) (fun _ _ k _ => n - (intOf k).toNat)
  case atStart => exact ⟨0, by omega, rfl, by rw [HT0.out], by rw [HT0.out], rfl, Below.refl _ _⟩
  case round =>
    obtain ⟨k, hk, rfl, rfl, rfl, HP, HB⟩ := hrel
    have HX := Lib.hid (BX.out.keep HB.out)
    have HC := Lib.hid (BC.out.keep HB.out)
    have hB0 := Lib.hid (hbw.out.keep HB.out)
    have bt1 := HTb.out s3 k
    have bt2 := HTb.out s2 k
    by_cases hlt : k < n
    · obtain ⟨⟨t0, t1, t2, t3, t4⟩, hq2, hqm2, p0, p1, p2, p3, p4⟩ := (hs.out.keep hB0.out).elem hlt
      dsimp only at p0 p1 p2 p3 p4
      have hq2' : cs.getD k default = ⟨t0, t1, t2, t3, t4⟩ := by rw [List.getD_eq_getElem?_getD, hq2]; rfl
      have hsh : shares cs i (k + 1) = (shares cs i k || (decide (k ≠ i) && touches ⟨s0, s1, s2, s3, s4⟩ ⟨t0, t1, t2, t3, t4⟩)) := by rw [← hq'.out, ← hq2']; rfl
      rw [HP.out, touches_swap] at hsh
      dsimp only at hsh
      have ht1 := HTs.out s3 k
      have ht2 := HTs.out s2 k
      rw [hq2'] at ht1 ht2
      replace hq2 := Lib.hid hq2
      replace hqm2 := Lib.hid hqm2
      replace hq2' := Lib.hid hq2'
      by_cases hki : ((k : Int) != (i : Int)) = true
      · have hki2 : decide (k ≠ i) = true := by simp at hki; simp; omega
        have hki3 : ¬ (k : Int) = (i : Int) := by simpa using hki
        rw [hki2, Bool.false_or, Bool.true_and] at hsh
        rw [if_neg hki3, HDC.out] at ht1 ht2
        dsimp only at ht1 ht2
        replace hki2 := Lib.hid hki2
        replace hki3 := Lib.hid hki3
        replace hsh := Lib.hid hsh
        replace ht1 := Lib.hid ht1
        replace ht2 := Lib.hid ht2
        go_wp2_with fail
        have g2 := cell_regrown p2
        have g3 := cell_regrown p3
        have gx := HX.out.grown
        have gc := HC.out.grown
        have r1 : (k : Int) < (n : Int) := by omega
        clear p0 p1 p2 p3 p4
        rcases four (t2 == s2) (t2 == s3) (t3 == s2) (t3 == s3) with ⟨f1, h5⟩ | ⟨f1, f2, h5⟩ | ⟨f1, f2, f3, h5⟩ | ⟨f1, f2, f3, f4, h5⟩ | ⟨f1, f2, f3, f4, h5⟩
        all_goals
          replace h5 := Lib.hid h5
          refine wp_region_quiet_below (by kernel_rfl) (by kernel_rfl) ?_
          repeat (go_big_quiet_step (fail))
          refine wpQuiet_nil ?_
          rintro _ ⟨⟨dq, osq⟩, rfl⟩
          have hb_ := below_regrown wr dq osq
          replace HX := Lib.hid (HX.out.keep hb_)
          replace HC := Lib.hid (HC.out.keep hb_)
          replace hB0 := Lib.hid (hB0.out.keep hb_)
          replace HB := Lib.hid (HB.out.keep hb_)
          generalize grow (redrawn wr dq) osq = w2 at *
          clear hb_
          try (have HR : Hid (FF = true) := (by show _ = _; rw [HF2.out, if_pos (shares_mono (k := k + 1) (by rw [hsh.out]; exact (show _ = true from h5.out)) (by omega))]); go_wp2; go_ret; exact ⟨by rw [HR.out]; rfl, hB0.out⟩)
        have HP2 : Hid (shares cs i (k + 1) = false) := by show _ = _; rw [hsh.out]; exact h5.out
        clear f1 f2 f3 f4
        have b1 := HAb.out s3 t2
        have b2 := HAb.out s3 t3
        have b3 := HAb.out s2 t2
        have b4 := HAb.out s2 t3
        have v1 := HPv.out t2 s3 hn2.out
        have v2 := HPv.out t3 s3 hn2.out
        have v3 := HPv.out t2 s2 hn1.out
        have v4 := HPv.out t3 s2 hn1.out
        have x1 := fun W (h : Below w2.heap.size w2 W) => HPo.out W (hN.out.keep (hB0.out.keep h)) t2 s3
        have x2 := fun W (h : Below w2.heap.size w2 W) => HPo.out W (hN.out.keep (hB0.out.keep h)) t3 s3
        have x3 := fun W (h : Below w2.heap.size w2 W) => HPo.out W (hN.out.keep (hB0.out.keep h)) t2 s2
        have x4 := fun W (h : Below w2.heap.size w2 W) => HPo.out W (hN.out.keep (hB0.out.keep h)) t3 s2
        rw [v1] at x1
        rw [v2] at x2
        rw [v3] at x3
        rw [v4] at x4
        have hk137 : (k : Int) * 137438953472 ≤ 8246337208320 := by omega
        have e1 : Hid (T s3 (k + 1) = T s3 k + AD s3 t2 + AD s3 t3) := by show _ = _; rw [ht1.out]; omega
        have e2 : Hid (T s2 (k + 1) = T s2 k + AD s2 t2 + AD s2 t3) := by show _ = _; rw [ht2.out]; omega
        clear v1 v2 ht1 ht2
        generalize AD s3 t2 = a1 at *
        generalize AD s3 t3 = a2 at *
        generalize AD s2 t2 = a3 at *
        generalize AD s2 t3 = a4 at *
        generalize T s3 k = T1 at *
        generalize T s2 k = T2 at *
        replace x1 := Lib.hid x1
        replace x2 := Lib.hid x2
        replace v3 := Lib.hid v3
        replace v4 := Lib.hid v4
        clear x3 x4
        clear g2 g3 gx gc
        obtain ⟨p2, p3⟩ := (hs.out.keep hB0.out).at2 hlt hq2.out
        dsimp only at p2 p3
        have g2 := cell_regrown p2
        have g3 := cell_regrown p3
        clear p2 p3
        have gx := HX.out.grown
        have gc := HC.out.grown
        have y1 : ∀ d os, Calls Try.prog 75 #[.agg #[.int .i64 nodes, .slice PA pn pc, .int .i64 noise, .int .i64 thr, .slice LA ln lc, .slice MA mn mc], .int .i64 t2, .int .i64 s3] (grow (redrawn w2 d) os) fun e w'' => e = .returned (.int .i64 a1) ∧ ∃ p : Regrown, w'' = grow (redrawn w2 p.d) p.os :=
          fun d os => Calls.regrown_of (x1.out _ (below_regrown w2 d os))
        replace y1 := Lib.hid y1
        have y2 : ∀ d os, Calls Try.prog 75 #[.agg #[.int .i64 nodes, .slice PA pn pc, .int .i64 noise, .int .i64 thr, .slice LA ln lc, .slice MA mn mc], .int .i64 t3, .int .i64 s3] (grow (redrawn w2 d) os) fun e w'' => e = .returned (.int .i64 a2) ∧ ∃ p : Regrown, w'' = grow (redrawn w2 p.d) p.os :=
          fun d os => Calls.regrown_of (x2.out _ (below_regrown w2 d os))
        replace y2 := Lib.hid y2
        have z1 : IntKind.i64.wrap (T1 + a1) = T1 + a1 := IntWalk.i64_in _ (by omega)
        have z2 : IntKind.i64.wrap (T1 + a1 + a2) = T1 + a1 + a2 := IntWalk.i64_in _ (by omega)
        go_wp2_with fail
        refine wp_region_quiet_below (by kernel_rfl) (by kernel_rfl) ?_
        repeat (go_big_quiet_step (first | (with_reducible exact y1.out _ _) | (with_reducible exact y2.out _ _)))
        refine wpQuiet_nil ?_
        rintro _ ⟨⟨dq, osq⟩, rfl⟩
        have hb_ := below_regrown w2 dq osq
        replace HX := Lib.hid (HX.out.keep hb_)
        replace HC := Lib.hid (HC.out.keep hb_)
        replace hB0 := Lib.hid (hB0.out.keep hb_)
        replace HB := Lib.hid (HB.out.keep hb_)
        generalize grow (redrawn w2 dq) osq = w3 at *
        clear hb_
        clear g2 g3 gx gc y1 y2 z1
        obtain ⟨p2, p3⟩ := (hs.out.keep hB0.out).at2 hlt hq2.out
        dsimp only at p2 p3
        have g2 := cell_regrown p2
        have g3 := cell_regrown p3
        clear p2 p3
        have gx := HX.out.grown
        have gc := HC.out.grown
        have x3' := fun W (h : Below w3.heap.size w3 W) => HPo.out W (hN.out.keep (hB0.out.keep h)) t2 s2
        have x4' := fun W (h : Below w3.heap.size w3 W) => HPo.out W (hN.out.keep (hB0.out.keep h)) t3 s2
        rw [v3.out] at x3'
        rw [v4.out] at x4'
        replace x3' := Lib.hid x3'
        replace x4' := Lib.hid x4'
        have y1 : ∀ d os, Calls Try.prog 75 #[.agg #[.int .i64 nodes, .slice PA pn pc, .int .i64 noise, .int .i64 thr, .slice LA ln lc, .slice MA mn mc], .int .i64 t2, .int .i64 s2] (grow (redrawn w3 d) os) fun e w'' => e = .returned (.int .i64 a3) ∧ ∃ p : Regrown, w'' = grow (redrawn w3 p.d) p.os :=
          fun d os => Calls.regrown_of (x3'.out _ (below_regrown w3 d os))
        replace y1 := Lib.hid y1
        have y2 : ∀ d os, Calls Try.prog 75 #[.agg #[.int .i64 nodes, .slice PA pn pc, .int .i64 noise, .int .i64 thr, .slice LA ln lc, .slice MA mn mc], .int .i64 t3, .int .i64 s2] (grow (redrawn w3 d) os) fun e w'' => e = .returned (.int .i64 a4) ∧ ∃ p : Regrown, w'' = grow (redrawn w3 p.d) p.os :=
          fun d os => Calls.regrown_of (x4'.out _ (below_regrown w3 d os))
        replace y2 := Lib.hid y2
        have z1 : IntKind.i64.wrap (T2 + a3) = T2 + a3 := IntWalk.i64_in _ (by omega)
        have z2' : IntKind.i64.wrap (T2 + a3 + a4) = T2 + a3 + a4 := IntWalk.i64_in _ (by omega)
        go_wp2_with fail
        refine wp_region_quiet_below (by kernel_rfl) (by kernel_rfl) ?_
        repeat (go_big_quiet_step (first | (with_reducible exact y1.out _ _) | (with_reducible exact y2.out _ _)))
        refine wpQuiet_nil ?_
        rintro _ ⟨⟨dq, osq⟩, rfl⟩
        have hb_ := below_regrown w3 dq osq
        replace HX := Lib.hid (HX.out.keep hb_)
        replace HC := Lib.hid (HC.out.keep hb_)
        replace hB0 := Lib.hid (hB0.out.keep hb_)
        replace HB := Lib.hid (HB.out.keep hb_)
        generalize grow (redrawn w3 dq) osq = w4 at *
        clear hb_
        clear g2 g3 gx gc y1 y2 z1 z2'
        go_wp2
        go_roundw
        case rel => exact ⟨k + 1, by omega, by go_num, by rw [e1.out], by rw [e2.out], HP2, HB⟩
        case measure => simp [intOf]; omega
      · have hki' : ((k : Int) != (i : Int)) = false := by simpa using hki
        have hki2 : decide (k ≠ i) = false := by simp at hki; simp; omega
        have hki3 : (k : Int) = (i : Int) := by simpa using hki
        rw [hki2] at hsh
        rw [if_pos hki3, Int.add_zero] at ht1 ht2
        have HP2 : Hid (shares cs i (k + 1) = false) := by show _ = _; rw [hsh]; rfl
        replace hki := Lib.hid hki
        replace hki2 := Lib.hid hki2
        replace hki3 := Lib.hid hki3
        replace hsh := Lib.hid hsh
        replace ht1 := Lib.hid ht1
        replace ht2 := Lib.hid ht2
        go_wp2
        go_roundw
        case rel => exact ⟨k + 1, by omega, by go_num, by rw [ht1.out], by rw [ht2.out], HP2, HB⟩
        case measure => simp [intOf]; omega
    · obtain rfl : k = n := by omega
      have HF3 : Hid (FF = (!HA (IX s2 s3) s3 || !HA (IX s3 s2) s2)) := by show _ = _; rw [HF2.out, if_neg (by rw [HP.out]; decide)]
      have y1 := fun W (h : Below wr.heap.size wr W) => HFi.out W (hN.out.keep (hB0.out.keep h)) s2 s3
      have y2 := fun W (h : Below wr.heap.size wr W) => HFi.out W (hN.out.keep (hB0.out.keep h)) s3 s2
      rw [HIx.out] at y1 y2
      generalize IX s2 s3 = I1 at *
      generalize IX s3 s2 = I2 at *
      obtain ⟨k1, rfl⟩ := Int.eq_ofNat_of_zero_le hi1
      obtain ⟨k2, rfl⟩ := Int.eq_ofNat_of_zero_le hi3
      have hkl1 : k1 < links.length := by omega
      have hkl2 : k2 < links.length := by omega
      have hkm1 : k1 < mn := by have := hml.out; have := hmn.out; omega
      have hkm2 : k2 < mn := by have := hml.out; have := hmn.out; omega
      have h1 := HHa.out k1 s3 hkl1
      have h2 := HHa.out k2 s2 hkl2
      have m1b := HMb.out k1 hkl1
      have m2b := HMb.out k2 hkl2
      obtain ⟨mb, mo, rfl⟩ := hN.out.margin.els.addr (show 0 < mn by omega)
      obtain ⟨m1, hm1, _, d1⟩ := (hN.out.keep hB0.out).margin.elem (k := k1) hkm1
      obtain ⟨m2, hm2, _, d2⟩ := (hN.out.keep hB0.out).margin.elem (k := k2) hkm2
      dsimp only at hm1 hm2 d1 d2
      have hm1' : margin.getD k1 0 = m1 := by rw [List.getD_eq_getElem?_getD, hm1]; rfl
      have hm2' : margin.getD k2 0 = m2 := by rw [List.getD_eq_getElem?_getD, hm2]; rfl
      rw [hm1'] at m1b h1
      rw [hm2'] at m2b h2
      have HF4 : Hid (FF = (!heardB thr noise m1 (T s3 k) || !heardB thr noise m2 (T s2 k))) := by show _ = _; rw [HF3.out, h1, h2]
      have hk137 : (k : Int) * 137438953472 ≤ 8246337208320 := by omega
      have z1 := fun W => HHe.out m1 (T s3 k) W (by omega) (by omega)
      have z2 := fun W => HHe.out m2 (T s2 k) W (by omega) (by omega)
      clear h1 h2 hm1 hm2 hm1' hm2' HF3
      generalize T s3 k = T1 at *
      generalize T s2 k = T2 at *
      generalize hb1 : heardB thr noise m1 T1 = B1 at *
      generalize hb2 : heardB thr noise m2 T2 = B2 at *
      replace y1 := Lib.hid y1
      replace y2 := Lib.hid y2
      replace z1 := Lib.hid z1
      replace z2 := Lib.hid z2
      replace hb1 := Lib.hid hb1
      replace hb2 := Lib.hid hb2
      clear m1b m2b bt1 bt2
      have g1 := cell_regrown d1
      have g2 := cell_regrown d2
      clear d1 d2
      have r1 : (k1 : Int) < (mn : Int) := by omega
      have r2 : (k2 : Int) < (mn : Int) := by omega
      have gx := HX.out.grown
      have gc := HC.out.grown
      have u1 : ∀ d os, Calls Try.prog 77 #[.agg #[.int .i64 nodes, .slice PA pn pc, .int .i64 noise, .int .i64 thr, .slice LA ln lc, .slice (some ⟨mb, mo, none⟩) mn mc], .int .i64 s2, .int .i64 s3] (grow (redrawn wr d) os) fun e w'' => e = .returned (.int .i64 (k1 : Int)) ∧ ∃ p : Regrown, w'' = grow (redrawn wr p.d) p.os :=
        fun d os => Calls.regrown_of (y1.out _ (below_regrown wr d os))
      replace u1 := Lib.hid u1
      have u2 : ∀ d os, Calls Try.prog 77 #[.agg #[.int .i64 nodes, .slice PA pn pc, .int .i64 noise, .int .i64 thr, .slice LA ln lc, .slice (some ⟨mb, mo, none⟩) mn mc], .int .i64 s3, .int .i64 s2] (grow (redrawn wr d) os) fun e w'' => e = .returned (.int .i64 (k2 : Int)) ∧ ∃ p : Regrown, w'' = grow (redrawn wr p.d) p.os :=
        fun d os => Calls.regrown_of (y2.out _ (below_regrown wr d os))
      replace u2 := Lib.hid u2
      have u3 : ∀ d os, Calls Try.prog 76 #[.agg #[.int .i64 nodes, .slice PA pn pc, .int .i64 noise, .int .i64 thr, .slice LA ln lc, .slice (some ⟨mb, mo, none⟩) mn mc], .int .i64 m1, .int .i64 T1] (grow (redrawn wr d) os) fun e w'' => e = .returned (.bool B1) ∧ ∃ p : Regrown, w'' = grow (redrawn wr p.d) p.os :=
        fun d os => Calls.regrown_of (z1.out _)
      replace u3 := Lib.hid u3
      have u4 : ∀ d os, Calls Try.prog 76 #[.agg #[.int .i64 nodes, .slice PA pn pc, .int .i64 noise, .int .i64 thr, .slice LA ln lc, .slice (some ⟨mb, mo, none⟩) mn mc], .int .i64 m2, .int .i64 T2] (grow (redrawn wr d) os) fun e w'' => e = .returned (.bool B2) ∧ ∃ p : Regrown, w'' = grow (redrawn wr p.d) p.os :=
        fun d os => Calls.regrown_of (z2.out _)
      replace u4 := Lib.hid u4
      clear z1 z2 y1 y2 hb1 hb2
      cases B1 with
      | false =>
        have HR : Hid (FF = true) := by show _ = _; rw [HF4.out]; rfl
        go_wp2_with fail
        refine wp_region_quiet_below (by kernel_rfl) (by kernel_rfl) ?_
        repeat (go_big_quiet_step (first | (with_reducible exact u1.out _ _) | (with_reducible exact u3.out _ _)))
        refine wpQuiet_nil ?_
        rintro _ ⟨⟨dq, osq⟩, rfl⟩
        have hb_ := below_regrown wr dq osq
        replace hB0 := Lib.hid (hB0.out.keep hb_)
        generalize grow (redrawn wr dq) osq = w4 at *
        clear hb_
        clear gx gc g1 g2
        go_wp2
        go_ret
        exact ⟨by rw [HR.out]; rfl, hB0.out⟩
      | true =>
        have HR : Hid (FF = !B2) := by show _ = _; rw [HF4.out]; rfl
        go_wp2_with fail
        refine wp_region_quiet_below (by kernel_rfl) (by kernel_rfl) ?_
        repeat (go_big_quiet_step (first | (with_reducible exact u1.out _ _) | (with_reducible exact u2.out _ _) | (with_reducible exact u3.out _ _) | (with_reducible exact u4.out _ _)))
        refine wpQuiet_nil ?_
        rintro _ ⟨⟨dq, osq⟩, rfl⟩
        have hb_ := below_regrown wr dq osq
        replace hB0 := Lib.hid (hB0.out.keep hb_)
        generalize grow (redrawn wr dq) osq = w4 at *
        clear hb_
        clear gx gc g1 g2
        go_wp2
        go_ret
        exact ⟨by rw [HR.out]; rfl, hB0.out⟩
end Nt
end Go.Proofs.Ythibgpgjioepfaa
