/- The reference: cells. -/
import Derived.Test.YtdlgdmbcbenlbaaSw36
set_option linter.unusedVariables false
set_option linter.unusedSimpArgs false
namespace Go.Proofs.Ytdlgdmbcbenlbaa
open Go Go.RowKit Go.Sort
namespace Sw
open Mm
set_option maxRecDepth 100000 in
set_option maxHeartbeats 8000000 in
theorem rcells_any (L O : Int) (A : Option Addr) (n cp : Nat) (cs : List Cel) (B : Option Addr) (m cq : Nat) (l : List Chg) (w : World) (h1 : CelS w A n cs) (h2 : ChgS w B m l) (hn : n ≤ 5000) (hm : m ≤ 5000) (hF : formedB L O cs = true) :
    Calls Try.prog 51 #[.agg #[.int .i64 L, .int .i64 O, .slice A n cp], .slice B m cq] w (InPost (rcells cs l) w) := by
  have hl1 := h1.len
  have hl2 := h2.len
  have hbw := ball w (.cells #[.int .i64 L, .int .i64 O, .slice A n cp] 24)
  have BX := Box.new w #[.int .i64 L, .int .i64 O, .slice A n cp] 24
  have hF0 : rcells cs (l.take 0) = cs := rfl
  have hFs := fun k (hk : k < l.length) => (by rw [take_snoc hk]; unfold rcells; rw [List.foldl_append]; rfl : rcells cs (l.take (k + 1)) = stepRC (rcells cs (l.take k)) (l.getD k default).cell)
  have hFl := fun k (hk : k ≤ l.length) => (by
    have := (rcells_ok (l.take k) (formed_lt hF)).2.2
    rw [List.length_take] at this
    exact Nat.le_trans this (by omega) : (rcells cs (l.take k)).length ≤ 10000)
  have hFn : rcells cs (l.take l.length) = rcells cs l := by rw [List.take_length]
  have cH := fun A n c xs x W (h : CelS W A n xs) => has_any A n c xs x W h
  have cL := fun a b W => lessL_any a b W
  generalize rcells cs l = R at *
  generalize hFF : (fun k => rcells cs (l.take k)) = F at *
  have hF0' : F 0 = cs := by rw [← hFF]; exact hF0
  have hFs' : ∀ k, k < l.length → F (k + 1) = stepRC (F k) (l.getD k default).cell := by rw [← hFF]; exact hFs
  have hFl' : ∀ k, k ≤ l.length → (F k).length ≤ 10000 := by rw [← hFF]; exact hFl
  have hFn' : F l.length = R := by rw [← hFF]; exact hFn
  clear hF0 hFs hFl hFn hFF hF
  rw [hl2] at hFn'
  have kx := BX.at_
  replace h1 := Lib.hid h1
  replace h2 := Lib.hid h2
  replace hl1 := Lib.hid hl1
  replace hl2 := Lib.hid hl2
  replace hbw := Lib.hid hbw
  replace BX := Lib.hid BX
  replace hF0' := Lib.hid hF0'
  replace hFs' := Lib.hid hFs'
  replace hFl' := Lib.hid hFl'
  replace hFn' := Lib.hid hFn'
  replace cH := Lib.hid cH
  replace cL := Lib.hid cL
  go_enter Try.func51, Try.ntmps51
  go_wp2_with (at_builtin; refine wpList_append_sls eltC _ rfl _ _ rfl (w.heap.size + 1) (.slice (some ⟨w.heap.size + 1, 0, none⟩) 0 0) [] rfl ?c1 A n cp cs rfl ?c2 ?c3 ?c4 ?_)
  try case c1 =>
    have := own_empty celE (k := 5) (w.alloc (.cells #[.int .i64 L, .int .i64 O, .slice A n cp] 24)) 34 (base := w.heap.size + 1) (by rw [size1]; exact Nat.le_refl _)
    rwa [size1] at this
  try case c2 => exact h1.out.keep (bthen hbw.out (ball _ _))
  try case c3 => simp; omega
  try case c4 => simp
  intro v3 w3 ho3 hg3 hb3
  have HB3 := Lib.hid (Below.grownM (M := (w.alloc (.cells #[.int .i64 L, .int .i64 O, .slice A n cp] 24)).heap.size) (ball (w.alloc (.cells #[.int .i64 L, .int .i64 O, .slice A n cp] 24)) _) hg3 (by simp) (fun q hq => by simp [Value.ownBlock] at hq; simp; omega))
  clear kx
  generalize w.alloc (.cells #[.int .i64 L, .int .i64 O, .slice A n cp] 24) = w1 at *

  obtain ⟨A3, c3, rfl⟩ := own_slice ho3
  have hC3 := own_cap ho3
  have hS3 := Lib.hid (Sls.of_owns celE_len ho3 rfl).2
  rw [← hF0'.out] at hC3 hS3
  rw [← hF0'.out]
  have hS30 : Hid (∃ A c, (.slice A (F 0).length c : Value) = .slice A3 (F 0).length c3 ∧ (F 0).length ≤ c ∧ CelS w3 A (F 0).length (F 0)) := ⟨A3, c3, rfl, hC3, hS3.out⟩
  clear ho3 hg3 hb3 hS3 hC3
  go_wp2_with fail
  go_loopw [5, 6, 8] (fun s5 i _ wr => ∃ (k : Nat) (A : Option Addr) (c : Nat), k ≤ m ∧ i = .int .i64 k ∧ s5 = .slice A (F k).length c ∧ Hid ((F k).length ≤ c) ∧ Hid (CelS wr A (F k).length (F k)) ∧ Hid (Below w1.heap.size w1 wr)) (fun _ i _ _ => m - (intOf i).toNat)
  case atStart =>
    obtain ⟨A, c, e, h1, h2⟩ := hS30.out
    exact ⟨0, A, c, by omega, rfl, e.symm, h1, h2, HB3⟩
  case round =>
    clear hS30 HB3
    obtain ⟨i, Ao, co, hi, rfl, rfl, hCo, HS, HB⟩ := hrel
    have HBw := Lib.hid (bthen hbw.out HB.out)
    by_cases hlt : i < m
    · obtain ⟨b, off, rfl⟩ := h2.out.addr (by omega)
      have hx := chg_at (h2.out.keep HBw.out) hlt
      have hfs := hFs'.out i (by rw [hl2.out]; exact hlt)
      have hfl := hFl'.out i (by rw [hl2.out]; exact hi)
      generalize l.getD i default = ch at *
      obtain ⟨ys, ya, c0, c1, c2, c3, c4⟩ := ch
      obtain ⟨q0, q1, q2, q3, q4, q5, q6⟩ := hx
      dsimp only at q2 q3 q4 q5 q6 hfs
      have BC := Box.new wr #[.int .i64 c0, .int .i64 c1, .int .i64 c2, .int .i64 c3, .int .i64 c4] 34
      have HBb := ballN HB.out (.cells #[.int .i64 c0, .int .i64 c1, .int .i64 c2, .int .i64 c3, .int .i64 c4] 34)
      have HSb := HS.out.keep (ball wr (.cells #[.int .i64 c0, .int .i64 c1, .int .i64 c2, .int .i64 c3, .int .i64 c4] 34))
      have kc := BC.at_
      have r1 : (i : Int) < (m : Int) := by omega
      have cH2 := cH.out Ao (F i).length co (F i) ⟨c0, c1, c2, c3, c4⟩ _ HSb
      obtain ⟨IN, hIN⟩ : ∃ IN, IN = decide ((⟨c0, c1, c2, c3, c4⟩ : Cel) ∈ F i) := ⟨_, rfl⟩
      rw [← hIN] at cH2
      replace BC := Lib.hid BC
      replace HBb := Lib.hid HBb
      replace HSb := Lib.hid HSb
      replace cH2 := Lib.hid cH2
      replace hIN := Lib.hid hIN
      replace hfs := Lib.hid hfs
      go_wp2_with fail
      refine cH2.out.mono ?_
      rintro e w4 ⟨rfl, hb_⟩
      clear kc cH2 q0 q1 q2 q3 q4 q5 q6 HB HS
      have HC := Lib.hid (bthen HBb.out hb_)
      have HS4 := Lib.hid (HSb.out.keep hb_)
      have BC4 := Lib.hid (BC.out.keep hb_)
      generalize hBc : wr.heap.size = Bc at *
      clear hb_ HBb HSb BC
      replace hBc := Lib.hid hBc
      cases IN with
      | true =>
        have hE : Hid (F (i + 1) = F i) := by
          show _ = _
          have hm : (⟨c0, c1, c2, c3, c4⟩ : Cel) ∈ F i := by have := hIN.out; rw [eq_comm, decide_eq_true_eq] at this; exact this
          rw [hfs.out]; unfold stepRC; rw [if_pos hm]
        go_wp2
        go_roundw
        case rel => exact ⟨i + 1, Ao, co, by omega, by go_num, by rw [hE.out], by show _ ≤ _; rw [hE.out]; exact hCo.out, by show Sls _ _ _ _ _ _; rw [hE.out]; exact HS4.out, HC⟩
        case measure => simp [intOf]; omega
      | false =>
        have hE : F (i + 1) = insBy (lessB ⟨c0, c1, c2, c3, c4⟩) (F i) ⟨c0, c1, c2, c3, c4⟩ := by
          have hm : ¬ (⟨c0, c1, c2, c3, c4⟩ : Cel) ∈ F i := by have := hIN.out; rw [eq_comm, decide_eq_false_iff_not] at this; exact this
          rw [hfs.out]; unfold stepRC; rw [if_neg hm]
        have hcut := fun k (h1 : k ≤ (F i).length) h2 h3 => cut_at (p := lessB ⟨c0, c1, c2, c3, c4⟩) (l := F i) (i := k) h1 h2 h3 ⟨c0, c1, c2, c3, c4⟩
        rw [← hE] at hcut
        have hlen : Hid ((F i).length = (F i).length) := rfl
        generalize hxs : F i = xs at *
        generalize hnn : xs.length = nn at *
        have hcL := fun j W => cL.out (xs.getD j default) ⟨c0, c1, c2, c3, c4⟩ W
        have hcL2 : Hid (∀ j W, Calls Try.prog 66 #[.agg #[.int .i64 (xs.getD j default).slot, .int .i64 (xs.getD j default).offset, .int .i64 (xs.getD j default).frm, .int .i64 (xs.getD j default).to, .int .i64 (xs.getD j default).flow], .agg #[.int .i64 c0, .int .i64 c1, .int .i64 c2, .int .i64 c3, .int .i64 c4]] W fun e w' => e = .returned (.bool (lessB ⟨c0, c1, c2, c3, c4⟩ (xs.getD j default))) ∧ Below W.heap.size W w') := hcL
        clear hcL hfs
        replace hE := Lib.hid hE
        replace hcut := Lib.hid hcut
        replace hxs := Lib.hid hxs
        replace hnn := Lib.hid hnn
        go_wp2_with fail
        go_loopw [8] (fun s8 wr => ∃ k : Nat, k ≤ nn ∧ s8 = .int .i64 k ∧ Hid (∀ j, j < k → lessB ⟨c0, c1, c2, c3, c4⟩ (xs.getD j default) = true) ∧ Hid (Below w4.heap.size w4 wr)) (fun s8 _ => nn - (intOf s8).toNat)
        case atStart => exact ⟨0, by omega, rfl, fun j hj => by omega, Below.refl _ _⟩
        case round =>
          obtain ⟨k, hk, rfl, HP, HI⟩ := hrel
          have HC1 := Lib.hid (bthen HC.out HI.out)
          by_cases hkn : k < nn
          · obtain ⟨b2, off2, rfl⟩ := HS4.out.addr (by omega)
            have hx := cel_at (HS4.out.keep HI.out) hkn
            have hb2 := hcL2.out k
            obtain ⟨BB, hBe⟩ : ∃ BB, BB = lessB ⟨c0, c1, c2, c3, c4⟩ (xs.getD k default) := ⟨_, rfl⟩
            rw [← hBe] at hb2
            generalize hy : xs.getD k default = y at *
            obtain ⟨y0, y1, y2, y3, y4⟩ := y
            obtain ⟨q0, q1, q2, q3, q4⟩ := hx
            dsimp only at q0 q1 q2 q3 q4 hb2
            have r2 : (k : Int) < (nn : Int) := by omega
            have gx := (BC4.out.keep HI.out).grown
            have g0 := cell_regrown q0
            have g1 := cell_regrown q1
            have g2 := cell_regrown q2
            have g3 := cell_regrown q3
            have g4 := cell_regrown q4
            clear q0 q1 q2 q3 q4
            have cl : ∀ d os, Calls Try.prog 66 #[.agg #[.int .i64 y0, .int .i64 y1, .int .i64 y2, .int .i64 y3, .int .i64 y4], .agg #[.int .i64 c0, .int .i64 c1, .int .i64 c2, .int .i64 c3, .int .i64 c4]] (grow (redrawn wr d) os) fun e w'' => e = .returned (.bool BB) ∧ ∃ p : Regrown, w'' = grow (redrawn wr p.d) p.os :=
              fun d os => Calls.regrown_of (hb2 _)
            replace cl := Lib.hid cl
            replace hb2 := Lib.hid hb2
            replace hBe := Lib.hid hBe
            replace hy := Lib.hid hy
            cases BB with
            | true =>
              have hP2 : Hid (∀ j, j < k + 1 → lessB ⟨c0, c1, c2, c3, c4⟩ (xs.getD j default) = true) := fun j hj => by
                by_cases e : j = k
                · subst e; rw [hy.out, ← hBe.out]
                · exact HP.out j (by omega)
              go_wp2_with fail
              refine wp_region_quiet_below (by kernel_rfl) (by kernel_rfl) ?_
              repeat (go_big_quiet_step (exact cl.out _ _))
              refine wpQuiet_nil ?_
              rintro _ ⟨⟨dq, osq⟩, rfl⟩
              have hb_ := below_regrown wr dq osq
              replace HI := Lib.hid (HI.out.keep hb_)
              generalize grow (redrawn wr dq) osq = w2 at *
              clear hb_
              go_wp2
              go_roundw
              case rel => exact ⟨k + 1, by omega, by go_num, hP2, HI⟩
              case measure => simp [intOf]; omega
            | false =>
              have hY := hcut.out k hk HP.out (.inr (by rw [hy.out, ← hBe.out]))
              go_wp2_with fail
              refine wp_region_quiet_below (by kernel_rfl) (by kernel_rfl) ?_
              repeat (go_big_quiet_step (exact cl.out _ _))
              refine wpQuiet_nil ?_
              rintro _ ⟨⟨dq, osq⟩, rfl⟩
              have hb_ := below_regrown wr dq osq
              replace HI := Lib.hid (HI.out.keep hb_)
              generalize grow (redrawn wr dq) osq = w2 at *
              clear hb_
              have hS := HS4.out.keep HI.out
              have hS1 := hS.take hk
              have hS2 := hS.drop hk
              have hco := hCo.out
              have hkc : ¬ co = k := by omega
              have hc0 : ¬ co = 0 := by omega
              have hkc2 : k ≤ co := by omega
              have BX2 := Lib.hid (BC4.out.keep HI.out)
              have HCb := HC
              clear gx g0 g1 g2 g3 g4 cl
              replace hY := Lib.hid hY
              replace hS := Lib.hid hS
              replace hS1 := Lib.hid hS1
              replace hS2 := Lib.hid hS2
              replace hco := Lib.hid hco
              go_upto_region 10 with fail
              have HX : Hid (∀ w', Below w2.heap.size w2 w' → Below w2.heap.size w2 w' ∧ (w'.cell? ⟨Bc, 0, none⟩ = some (.int .i64 c0) ∧ w'.cell? ⟨Bc, 1, none⟩ = some (.int .i64 c1) ∧ w'.cell? ⟨Bc, 2, none⟩ = some (.int .i64 c2) ∧ w'.cell? ⟨Bc, 3, none⟩ = some (.int .i64 c3) ∧ w'.cell? ⟨Bc, 4, none⟩ = some (.int .i64 c4))) := fun w' h => ⟨h, by
                have hbx := (BX2.out.keep h).at_
                exact ⟨hbx 0, hbx 1, hbx 2, hbx 3, hbx 4⟩⟩
              go_region_held3 (fun w' => Below w2.heap.size w2 w' ∧ (w'.cell? ⟨Bc, 0, none⟩ = some (.int .i64 c0) ∧ w'.cell? ⟨Bc, 1, none⟩ = some (.int .i64 c1) ∧ w'.cell? ⟨Bc, 2, none⟩ = some (.int .i64 c2) ∧ w'.cell? ⟨Bc, 3, none⟩ = some (.int .i64 c3) ∧ w'.cell? ⟨Bc, 4, none⟩ = some (.int .i64 c4)))
                (first
                  | exact HX.out _ ((Below.refl _ _).drew)
                  | exact HX.out _ (by assumption)
                  | exact HX.out _ (ballN (And.left (by assumption)) _)
                  | exact HX.out _ (ballN (by assumption) _)
                  | (trace_state; fail))
                (first
                  | (refine step_append_sls eltC _ (by rfl) _ _ (by rfl) w2.heap.size (.slice (some ⟨w2.heap.size, 0, none⟩) 0 0) [] (by rfl) (own_empty celE w2.drew 34 (Nat.le_refl _)) _ k _ (xs.take k) (by rfl) (hS1.out.keep (ballN ((Below.refl _ _).drew) _)) (by first | (simp; done) | (simp; omega)) (by simp) ?_; intro v3 w3 ho3 hg3 hb3; have HB3 : Below w2.heap.size w2 w3 := Below.grownM (M := w2.heap.size) (ballN ((Below.refl _ _).drew) _) hg3 (by simp) (fun q hq => by simp [Value.ownBlock] at hq; omega))
                  | (refine step_append_sls eltC _ (by rfl) _ _ (by rfl) w2.heap.size (.slice (some ⟨w2.heap.size, 0, none⟩) 0 0) [] (by rfl) ((own_empty celE w2.drew 34 (Nat.le_refl _)).alloc (.cells #[.int .i64 c0, .int .i64 c1, .int .i64 c2, .int .i64 c3, .int .i64 c4] 34)) _ k _ (xs.take k) (by rfl) (hS1.out.keep (ballN (ballN ((Below.refl _ _).drew) _) _)) (by first | (simp; done) | (simp; omega)) (by first | (simp; done) | (simp; omega)) ?_; intro v3 w3 ho3 hg3 hb3; have HB3 : Below w2.heap.size w2 w3 := Below.grownM (M := w2.heap.size) (ballN (ballN ((Below.refl _ _).drew) _) _) hg3 (by first | (simp; done) | (simp; omega)) (fun q hq => by simp [Value.ownBlock] at hq; omega); have hD3 := (Blk.new (w2.drew.alloc (.cells #[] 34)) #[.int .i64 c0, .int .i64 c1, .int .i64 c2, .int .i64 c3, .int .i64 c4] 34).grown hg3 (by simp [Value.ownBlock]); rw [size1] at hD3)
                  | (refine step_append_sls eltC _ (by rfl) _ _ (by rfl) w2.heap.size (.slice (some ⟨w2.heap.size + 1, 0, none⟩) 0 0) [] (by rfl) (by have := own_empty celE (k := 5) (w2.drew.alloc (.cells #[.int .i64 c0, .int .i64 c1, .int .i64 c2, .int .i64 c3, .int .i64 c4] 34)) 34 (base := w2.heap.size) (by simp); rwa [size1] at this) _ k _ (xs.take k) (by rfl) (hS1.out.keep (ballN (ballN ((Below.refl _ _).drew) _) _)) (by first | (simp; done) | (simp; omega)) (by first | (simp; done) | (simp; omega)) ?_; intro v3 w3 ho3 hg3 hb3; have HB3 : Below w2.heap.size w2 w3 := Below.grownM (M := w2.heap.size) (ballN (ballN ((Below.refl _ _).drew) _) _) hg3 (by first | (simp; done) | (simp; omega)) (fun q hq => by simp [Value.ownBlock] at hq; omega); have hD3 := ((Blk.new w2.drew #[.int .i64 c0, .int .i64 c1, .int .i64 c2, .int .i64 c3, .int .i64 c4] 34).alloc (.cells #[] 34)).grown hg3 (by simp [Value.ownBlock]))
                  | (refine step_append_sls eltC _ (by rfl) _ _ (by rfl) w2.heap.size v3 _ (by rfl) (ho3.alloc _) _ 1 _ [⟨c0, c1, c2, c3, c4⟩] (by rfl) (Sls.one (t := 34) (Blk.new w3 #[.int .i64 c0, .int .i64 c1, .int .i64 c2, .int .i64 c3, .int .i64 c4] 34)) (by first | (simp; done) | (simp; omega)) (by have := HB3.size; first | (simp; done) | (simp; omega)) ?_; intro v4 w4 ho4 hg4 hb4; have HB4 : Below w2.heap.size w2 w4 := Below.grownM (M := w2.heap.size) (ballN HB3 _) hg4 (by have := HB3.size; first | (simp; done) | (simp; omega)) (fun q hq => (ho3.lt q hq).1))
                  | (refine step_append_sls eltC _ (by rfl) _ _ (by rfl) w2.heap.size v3 _ (by rfl) ho3 _ 1 _ [⟨c0, c1, c2, c3, c4⟩] (by rfl) (Sls.one (t := 34) hD3) (by first | (simp; done) | (simp; omega)) HB3.size ?_; intro v4 w4 ho4 hg4 hb4; have HB4 : Below w2.heap.size w2 w4 := Below.grownM (M := w2.heap.size) HB3 hg4 HB3.size (fun q hq => (ho3.lt q hq).1))
                  | (refine step_append_sls eltC _ (by rfl) _ _ (by rfl) w2.heap.size v4 _ (by rfl) ho4 _ (nn - k) _ (xs.drop k) (by rfl) (hS2.out.keep HB4) (by first | (simp; done) | (simp; omega)) HB4.size ?_; intro v5 w5 ho5 hg5 hb5; have HB5 : Below w2.heap.size w2 w5 := Below.grownM (M := w2.heap.size) HB4 hg5 HB4.size (fun q hq => (ho4.lt q hq).1)))
              all_goals
                have e : ([] ++ (xs.take k) ++ [⟨c0, c1, c2, c3, c4⟩] ++ (xs.drop k) : List Cel) = F (i + 1) := by rw [hY.out]; simp
                rw [e] at ho5
                obtain ⟨A5, c5, rfl⟩ := own_slice ho5
                have hD5 := (Sls.of_owns celE_len ho5 rfl).2
                have hC5 := own_cap ho5
                have HB9 := Lib.hid (bthen HCb.out (bthen HI.out HB5))
                replace hD5 := Lib.hid hD5
                replace hC5 := Lib.hid hC5
                clear ho3 ho4 ho5 hg3 hg4 hg5 hb3 hb4 hb5 HB3 HB4 HB5 e
                go_wp2
                go_roundw
                case rel => exact ⟨i + 1, A5, c5, by omega, by go_num, rfl, hC5, hD5, HB9⟩
                case measure => simp [intOf]; omega
          · obtain rfl : k = nn := by omega
            have hY := hcut.out k (Nat.le_refl _) HP.out (.inl rfl)
            rw [List.take_of_length_le (by rw [hnn.out]; exact Nat.le_refl _), List.drop_of_length_le (by rw [hnn.out]; exact Nat.le_refl _)] at hY
            have HCb := HC
            rcases Nat.eq_zero_or_pos k with hk0 | hk0
            · subst hk0
              have hx0 : xs = [] := List.length_eq_zero_iff.1 hnn.out
              rw [hx0] at hY
              replace hY := Lib.hid hY
              replace hx0 := Lib.hid hx0
              go_wp2_with fail
              refine wp_region_quiet_below (by kernel_rfl) (by kernel_rfl) ?_
              repeat (go_big_quiet_step (fail))
              refine wpQuiet_nil ?_
              rintro _ ⟨⟨dq, osq⟩, rfl⟩
              have hb_ := below_regrown wr dq osq
              replace HI := Lib.hid (HI.out.keep hb_)
              generalize grow (redrawn wr dq) osq = w2 at *
              clear hb_
              have BX2 := Lib.hid (BC4.out.keep HI.out)
              go_upto_region 10 with fail
              have HX : Hid (∀ w', Below w2.heap.size w2 w' → Below w2.heap.size w2 w' ∧ (w'.cell? ⟨Bc, 0, none⟩ = some (.int .i64 c0) ∧ w'.cell? ⟨Bc, 1, none⟩ = some (.int .i64 c1) ∧ w'.cell? ⟨Bc, 2, none⟩ = some (.int .i64 c2) ∧ w'.cell? ⟨Bc, 3, none⟩ = some (.int .i64 c3) ∧ w'.cell? ⟨Bc, 4, none⟩ = some (.int .i64 c4))) := fun w' h => ⟨h, by
                have hbx := (BX2.out.keep h).at_
                exact ⟨hbx 0, hbx 1, hbx 2, hbx 3, hbx 4⟩⟩
              go_region_held3 (fun w' => Below w2.heap.size w2 w' ∧ (w'.cell? ⟨Bc, 0, none⟩ = some (.int .i64 c0) ∧ w'.cell? ⟨Bc, 1, none⟩ = some (.int .i64 c1) ∧ w'.cell? ⟨Bc, 2, none⟩ = some (.int .i64 c2) ∧ w'.cell? ⟨Bc, 3, none⟩ = some (.int .i64 c3) ∧ w'.cell? ⟨Bc, 4, none⟩ = some (.int .i64 c4)))
                (first
                  | exact HX.out _ ((Below.refl _ _).drew)
                  | exact HX.out _ (by assumption)
                  | exact HX.out _ (ballN (And.left (by assumption)) _)
                  | exact HX.out _ (ballN (by assumption) _)
                  | (trace_state; fail))
                (first
                  | (refine step_append_sls eltC _ (by rfl) _ _ (by rfl) w2.heap.size (.slice (some ⟨w2.heap.size, 0, none⟩) 0 0) [] (by rfl) (own_empty celE w2.drew 34 (Nat.le_refl _)) _ 0 _ ([]) (by rfl) (Sls.empty _) (by first | (simp; done) | (simp; omega)) (by simp) ?_; intro v3 w3 ho3 hg3 hb3; have HB3 : Below w2.heap.size w2 w3 := Below.grownM (M := w2.heap.size) (ballN ((Below.refl _ _).drew) _) hg3 (by simp) (fun q hq => by simp [Value.ownBlock] at hq; omega))
                  | (refine step_append_sls eltC _ (by rfl) _ _ (by rfl) w2.heap.size (.slice (some ⟨w2.heap.size, 0, none⟩) 0 0) [] (by rfl) ((own_empty celE w2.drew 34 (Nat.le_refl _)).alloc (.cells #[.int .i64 c0, .int .i64 c1, .int .i64 c2, .int .i64 c3, .int .i64 c4] 34)) _ 0 _ ([]) (by rfl) (Sls.empty _) (by first | (simp; done) | (simp; omega)) (by first | (simp; done) | (simp; omega)) ?_; intro v3 w3 ho3 hg3 hb3; have HB3 : Below w2.heap.size w2 w3 := Below.grownM (M := w2.heap.size) (ballN (ballN ((Below.refl _ _).drew) _) _) hg3 (by first | (simp; done) | (simp; omega)) (fun q hq => by simp [Value.ownBlock] at hq; omega); have hD3 := (Blk.new (w2.drew.alloc (.cells #[] 34)) #[.int .i64 c0, .int .i64 c1, .int .i64 c2, .int .i64 c3, .int .i64 c4] 34).grown hg3 (by simp [Value.ownBlock]); rw [size1] at hD3)
                  | (refine step_append_sls eltC _ (by rfl) _ _ (by rfl) w2.heap.size (.slice (some ⟨w2.heap.size + 1, 0, none⟩) 0 0) [] (by rfl) (by have := own_empty celE (k := 5) (w2.drew.alloc (.cells #[.int .i64 c0, .int .i64 c1, .int .i64 c2, .int .i64 c3, .int .i64 c4] 34)) 34 (base := w2.heap.size) (by simp); rwa [size1] at this) _ 0 _ ([]) (by rfl) (Sls.empty _) (by first | (simp; done) | (simp; omega)) (by first | (simp; done) | (simp; omega)) ?_; intro v3 w3 ho3 hg3 hb3; have HB3 : Below w2.heap.size w2 w3 := Below.grownM (M := w2.heap.size) (ballN (ballN ((Below.refl _ _).drew) _) _) hg3 (by first | (simp; done) | (simp; omega)) (fun q hq => by simp [Value.ownBlock] at hq; omega); have hD3 := ((Blk.new w2.drew #[.int .i64 c0, .int .i64 c1, .int .i64 c2, .int .i64 c3, .int .i64 c4] 34).alloc (.cells #[] 34)).grown hg3 (by simp [Value.ownBlock]))
                  | (refine step_append_sls eltC _ (by rfl) _ _ (by rfl) w2.heap.size v3 _ (by rfl) (ho3.alloc _) _ 1 _ [⟨c0, c1, c2, c3, c4⟩] (by rfl) (Sls.one (t := 34) (Blk.new w3 #[.int .i64 c0, .int .i64 c1, .int .i64 c2, .int .i64 c3, .int .i64 c4] 34)) (by first | (simp; done) | (simp; omega)) (by have := HB3.size; first | (simp; done) | (simp; omega)) ?_; intro v4 w4 ho4 hg4 hb4; have HB4 : Below w2.heap.size w2 w4 := Below.grownM (M := w2.heap.size) (ballN HB3 _) hg4 (by have := HB3.size; first | (simp; done) | (simp; omega)) (fun q hq => (ho3.lt q hq).1))
                  | (refine step_append_sls eltC _ (by rfl) _ _ (by rfl) w2.heap.size v3 _ (by rfl) ho3 _ 1 _ [⟨c0, c1, c2, c3, c4⟩] (by rfl) (Sls.one (t := 34) hD3) (by first | (simp; done) | (simp; omega)) HB3.size ?_; intro v4 w4 ho4 hg4 hb4; have HB4 : Below w2.heap.size w2 w4 := Below.grownM (M := w2.heap.size) HB3 hg4 HB3.size (fun q hq => (ho3.lt q hq).1))
                  | (refine step_append_sls eltC _ (by rfl) _ _ (by rfl) w2.heap.size v4 _ (by rfl) ho4 _ 0 _ ([]) (by rfl) (Sls.empty _) (by first | (simp; done) | (simp; omega)) HB4.size ?_; intro v5 w5 ho5 hg5 hb5; have HB5 : Below w2.heap.size w2 w5 := Below.grownM (M := w2.heap.size) HB4 hg5 HB4.size (fun q hq => (ho4.lt q hq).1)))
              all_goals
                have e : ([] ++ ([]) ++ [⟨c0, c1, c2, c3, c4⟩] ++ ([]) : List Cel) = F (i + 1) := by rw [hY.out]; simp
                rw [e] at ho5
                obtain ⟨A5, c5, rfl⟩ := own_slice ho5
                have hD5 := (Sls.of_owns celE_len ho5 rfl).2
                have hC5 := own_cap ho5
                have HB9 := Lib.hid (bthen HCb.out (bthen HI.out HB5))
                replace hD5 := Lib.hid hD5
                replace hC5 := Lib.hid hC5
                clear ho3 ho4 ho5 hg3 hg4 hg5 hb3 hb4 hb5 HB3 HB4 HB5 e
                go_wp2
                go_roundw
                case rel => exact ⟨i + 1, A5, c5, by omega, by go_num, rfl, hC5, hD5, HB9⟩
                case measure => simp [intOf]; omega
            · obtain ⟨b2, off2, rfl⟩ := HS4.out.addr hk0
              have hco := hCo.out
              have hc0 : ¬ co = 0 := by omega
              have hxl : xs.length ≤ 100000 := by rw [hnn.out]; omega
              replace hY := Lib.hid hY
              go_wp2_with fail
              refine wp_region_quiet_below (by kernel_rfl) (by kernel_rfl) ?_
              repeat (go_big_quiet_step (fail))
              refine wpQuiet_nil ?_
              rintro _ ⟨⟨dq, osq⟩, rfl⟩
              have hb_ := below_regrown wr dq osq
              replace HI := Lib.hid (HI.out.keep hb_)
              generalize grow (redrawn wr dq) osq = w2 at *
              clear hb_
              have hS1 := Lib.hid (HS4.out.keep HI.out)
              have BX2 := Lib.hid (BC4.out.keep HI.out)
              go_upto_region 10 with fail
              by_cases hck : co = k
              · subst hck
                have HX : Hid (∀ w', Below w2.heap.size w2 w' → Below w2.heap.size w2 w' ∧ (w'.cell? ⟨Bc, 0, none⟩ = some (.int .i64 c0) ∧ w'.cell? ⟨Bc, 1, none⟩ = some (.int .i64 c1) ∧ w'.cell? ⟨Bc, 2, none⟩ = some (.int .i64 c2) ∧ w'.cell? ⟨Bc, 3, none⟩ = some (.int .i64 c3) ∧ w'.cell? ⟨Bc, 4, none⟩ = some (.int .i64 c4))) := fun w' h => ⟨h, by
                  have hbx := (BX2.out.keep h).at_
                  exact ⟨hbx 0, hbx 1, hbx 2, hbx 3, hbx 4⟩⟩
                go_region_held3 (fun w' => Below w2.heap.size w2 w' ∧ (w'.cell? ⟨Bc, 0, none⟩ = some (.int .i64 c0) ∧ w'.cell? ⟨Bc, 1, none⟩ = some (.int .i64 c1) ∧ w'.cell? ⟨Bc, 2, none⟩ = some (.int .i64 c2) ∧ w'.cell? ⟨Bc, 3, none⟩ = some (.int .i64 c3) ∧ w'.cell? ⟨Bc, 4, none⟩ = some (.int .i64 c4)))
                  (first
                    | exact HX.out _ ((Below.refl _ _).drew)
                    | exact HX.out _ (by assumption)
                    | exact HX.out _ (ballN (And.left (by assumption)) _)
                    | exact HX.out _ (ballN (by assumption) _)
                    | (trace_state; fail))
                  (first
                    | (refine step_append_sls eltC _ (by rfl) _ _ (by rfl) w2.heap.size (.slice (some ⟨w2.heap.size, 0, none⟩) 0 0) [] (by rfl) (own_empty celE w2.drew 34 (Nat.le_refl _)) _ co _ (xs) (by rfl) (hS1.out.keep (ballN ((Below.refl _ _).drew) _)) (by first | (simp; done) | (simp; omega)) (by simp) ?_; intro v3 w3 ho3 hg3 hb3; have HB3 : Below w2.heap.size w2 w3 := Below.grownM (M := w2.heap.size) (ballN ((Below.refl _ _).drew) _) hg3 (by simp) (fun q hq => by simp [Value.ownBlock] at hq; omega))
                    | (refine step_append_sls eltC _ (by rfl) _ _ (by rfl) w2.heap.size (.slice (some ⟨w2.heap.size, 0, none⟩) 0 0) [] (by rfl) ((own_empty celE w2.drew 34 (Nat.le_refl _)).alloc (.cells #[.int .i64 c0, .int .i64 c1, .int .i64 c2, .int .i64 c3, .int .i64 c4] 34)) _ co _ (xs) (by rfl) (hS1.out.keep (ballN (ballN ((Below.refl _ _).drew) _) _)) (by first | (simp; done) | (simp; omega)) (by first | (simp; done) | (simp; omega)) ?_; intro v3 w3 ho3 hg3 hb3; have HB3 : Below w2.heap.size w2 w3 := Below.grownM (M := w2.heap.size) (ballN (ballN ((Below.refl _ _).drew) _) _) hg3 (by first | (simp; done) | (simp; omega)) (fun q hq => by simp [Value.ownBlock] at hq; omega); have hD3 := (Blk.new (w2.drew.alloc (.cells #[] 34)) #[.int .i64 c0, .int .i64 c1, .int .i64 c2, .int .i64 c3, .int .i64 c4] 34).grown hg3 (by simp [Value.ownBlock]); rw [size1] at hD3)
                    | (refine step_append_sls eltC _ (by rfl) _ _ (by rfl) w2.heap.size (.slice (some ⟨w2.heap.size + 1, 0, none⟩) 0 0) [] (by rfl) (by have := own_empty celE (k := 5) (w2.drew.alloc (.cells #[.int .i64 c0, .int .i64 c1, .int .i64 c2, .int .i64 c3, .int .i64 c4] 34)) 34 (base := w2.heap.size) (by simp); rwa [size1] at this) _ co _ (xs) (by rfl) (hS1.out.keep (ballN (ballN ((Below.refl _ _).drew) _) _)) (by first | (simp; done) | (simp; omega)) (by first | (simp; done) | (simp; omega)) ?_; intro v3 w3 ho3 hg3 hb3; have HB3 : Below w2.heap.size w2 w3 := Below.grownM (M := w2.heap.size) (ballN (ballN ((Below.refl _ _).drew) _) _) hg3 (by first | (simp; done) | (simp; omega)) (fun q hq => by simp [Value.ownBlock] at hq; omega); have hD3 := ((Blk.new w2.drew #[.int .i64 c0, .int .i64 c1, .int .i64 c2, .int .i64 c3, .int .i64 c4] 34).alloc (.cells #[] 34)).grown hg3 (by simp [Value.ownBlock]))
                    | (refine step_append_sls eltC _ (by rfl) _ _ (by rfl) w2.heap.size v3 _ (by rfl) (ho3.alloc _) _ 1 _ [⟨c0, c1, c2, c3, c4⟩] (by rfl) (Sls.one (t := 34) (Blk.new w3 #[.int .i64 c0, .int .i64 c1, .int .i64 c2, .int .i64 c3, .int .i64 c4] 34)) (by first | (simp; done) | (simp; omega)) (by have := HB3.size; first | (simp; done) | (simp; omega)) ?_; intro v4 w4 ho4 hg4 hb4; have HB4 : Below w2.heap.size w2 w4 := Below.grownM (M := w2.heap.size) (ballN HB3 _) hg4 (by have := HB3.size; first | (simp; done) | (simp; omega)) (fun q hq => (ho3.lt q hq).1))
                    | (refine step_append_sls eltC _ (by rfl) _ _ (by rfl) w2.heap.size v3 _ (by rfl) ho3 _ 1 _ [⟨c0, c1, c2, c3, c4⟩] (by rfl) (Sls.one (t := 34) hD3) (by first | (simp; done) | (simp; omega)) HB3.size ?_; intro v4 w4 ho4 hg4 hb4; have HB4 : Below w2.heap.size w2 w4 := Below.grownM (M := w2.heap.size) HB3 hg4 HB3.size (fun q hq => (ho3.lt q hq).1))
                    | (refine step_append_sls eltC _ (by rfl) _ _ (by rfl) w2.heap.size v4 _ (by rfl) ho4 _ 0 _ ([]) (by rfl) (Sls.empty _) (by first | (simp; done) | (simp; omega)) HB4.size ?_; intro v5 w5 ho5 hg5 hb5; have HB5 : Below w2.heap.size w2 w5 := Below.grownM (M := w2.heap.size) HB4 hg5 HB4.size (fun q hq => (ho4.lt q hq).1)))
                all_goals
                  have e : ([] ++ (xs) ++ [⟨c0, c1, c2, c3, c4⟩] ++ ([]) : List Cel) = F (i + 1) := by rw [hY.out]; simp
                  rw [e] at ho5
                  obtain ⟨A5, c5, rfl⟩ := own_slice ho5
                  have hD5 := (Sls.of_owns celE_len ho5 rfl).2
                  have hC5 := own_cap ho5
                  have HB9 := Lib.hid (bthen HCb.out (bthen HI.out HB5))
                  replace hD5 := Lib.hid hD5
                  replace hC5 := Lib.hid hC5
                  clear ho3 ho4 ho5 hg3 hg4 hg5 hb3 hb4 hb5 HB3 HB4 HB5 e
                  go_wp2
                  go_roundw
                  case rel => exact ⟨i + 1, A5, c5, by omega, by go_num, rfl, hC5, hD5, HB9⟩
                  case measure => simp [intOf]; omega
              · have hkc2 : k ≤ co := hco
                have HX : Hid (∀ w', Below w2.heap.size w2 w' → Below w2.heap.size w2 w' ∧ (w'.cell? ⟨Bc, 0, none⟩ = some (.int .i64 c0) ∧ w'.cell? ⟨Bc, 1, none⟩ = some (.int .i64 c1) ∧ w'.cell? ⟨Bc, 2, none⟩ = some (.int .i64 c2) ∧ w'.cell? ⟨Bc, 3, none⟩ = some (.int .i64 c3) ∧ w'.cell? ⟨Bc, 4, none⟩ = some (.int .i64 c4))) := fun w' h => ⟨h, by
                  have hbx := (BX2.out.keep h).at_
                  exact ⟨hbx 0, hbx 1, hbx 2, hbx 3, hbx 4⟩⟩
                go_region_held3 (fun w' => Below w2.heap.size w2 w' ∧ (w'.cell? ⟨Bc, 0, none⟩ = some (.int .i64 c0) ∧ w'.cell? ⟨Bc, 1, none⟩ = some (.int .i64 c1) ∧ w'.cell? ⟨Bc, 2, none⟩ = some (.int .i64 c2) ∧ w'.cell? ⟨Bc, 3, none⟩ = some (.int .i64 c3) ∧ w'.cell? ⟨Bc, 4, none⟩ = some (.int .i64 c4)))
                  (first
                    | exact HX.out _ ((Below.refl _ _).drew)
                    | exact HX.out _ (by assumption)
                    | exact HX.out _ (ballN (And.left (by assumption)) _)
                    | exact HX.out _ (ballN (by assumption) _)
                    | (trace_state; fail))
                  (first
                    | (refine step_append_sls eltC _ (by rfl) _ _ (by rfl) w2.heap.size (.slice (some ⟨w2.heap.size, 0, none⟩) 0 0) [] (by rfl) (own_empty celE w2.drew 34 (Nat.le_refl _)) _ k _ (xs) (by rfl) (hS1.out.keep (ballN ((Below.refl _ _).drew) _)) (by first | (simp; done) | (simp; omega)) (by simp) ?_; intro v3 w3 ho3 hg3 hb3; have HB3 : Below w2.heap.size w2 w3 := Below.grownM (M := w2.heap.size) (ballN ((Below.refl _ _).drew) _) hg3 (by simp) (fun q hq => by simp [Value.ownBlock] at hq; omega))
                    | (refine step_append_sls eltC _ (by rfl) _ _ (by rfl) w2.heap.size (.slice (some ⟨w2.heap.size, 0, none⟩) 0 0) [] (by rfl) ((own_empty celE w2.drew 34 (Nat.le_refl _)).alloc (.cells #[.int .i64 c0, .int .i64 c1, .int .i64 c2, .int .i64 c3, .int .i64 c4] 34)) _ k _ (xs) (by rfl) (hS1.out.keep (ballN (ballN ((Below.refl _ _).drew) _) _)) (by first | (simp; done) | (simp; omega)) (by first | (simp; done) | (simp; omega)) ?_; intro v3 w3 ho3 hg3 hb3; have HB3 : Below w2.heap.size w2 w3 := Below.grownM (M := w2.heap.size) (ballN (ballN ((Below.refl _ _).drew) _) _) hg3 (by first | (simp; done) | (simp; omega)) (fun q hq => by simp [Value.ownBlock] at hq; omega); have hD3 := (Blk.new (w2.drew.alloc (.cells #[] 34)) #[.int .i64 c0, .int .i64 c1, .int .i64 c2, .int .i64 c3, .int .i64 c4] 34).grown hg3 (by simp [Value.ownBlock]); rw [size1] at hD3)
                    | (refine step_append_sls eltC _ (by rfl) _ _ (by rfl) w2.heap.size (.slice (some ⟨w2.heap.size + 1, 0, none⟩) 0 0) [] (by rfl) (by have := own_empty celE (k := 5) (w2.drew.alloc (.cells #[.int .i64 c0, .int .i64 c1, .int .i64 c2, .int .i64 c3, .int .i64 c4] 34)) 34 (base := w2.heap.size) (by simp); rwa [size1] at this) _ k _ (xs) (by rfl) (hS1.out.keep (ballN (ballN ((Below.refl _ _).drew) _) _)) (by first | (simp; done) | (simp; omega)) (by first | (simp; done) | (simp; omega)) ?_; intro v3 w3 ho3 hg3 hb3; have HB3 : Below w2.heap.size w2 w3 := Below.grownM (M := w2.heap.size) (ballN (ballN ((Below.refl _ _).drew) _) _) hg3 (by first | (simp; done) | (simp; omega)) (fun q hq => by simp [Value.ownBlock] at hq; omega); have hD3 := ((Blk.new w2.drew #[.int .i64 c0, .int .i64 c1, .int .i64 c2, .int .i64 c3, .int .i64 c4] 34).alloc (.cells #[] 34)).grown hg3 (by simp [Value.ownBlock]))
                    | (refine step_append_sls eltC _ (by rfl) _ _ (by rfl) w2.heap.size v3 _ (by rfl) (ho3.alloc _) _ 1 _ [⟨c0, c1, c2, c3, c4⟩] (by rfl) (Sls.one (t := 34) (Blk.new w3 #[.int .i64 c0, .int .i64 c1, .int .i64 c2, .int .i64 c3, .int .i64 c4] 34)) (by first | (simp; done) | (simp; omega)) (by have := HB3.size; first | (simp; done) | (simp; omega)) ?_; intro v4 w4 ho4 hg4 hb4; have HB4 : Below w2.heap.size w2 w4 := Below.grownM (M := w2.heap.size) (ballN HB3 _) hg4 (by have := HB3.size; first | (simp; done) | (simp; omega)) (fun q hq => (ho3.lt q hq).1))
                    | (refine step_append_sls eltC _ (by rfl) _ _ (by rfl) w2.heap.size v3 _ (by rfl) ho3 _ 1 _ [⟨c0, c1, c2, c3, c4⟩] (by rfl) (Sls.one (t := 34) hD3) (by first | (simp; done) | (simp; omega)) HB3.size ?_; intro v4 w4 ho4 hg4 hb4; have HB4 : Below w2.heap.size w2 w4 := Below.grownM (M := w2.heap.size) HB3 hg4 HB3.size (fun q hq => (ho3.lt q hq).1))
                    | (refine step_append_sls eltC _ (by rfl) _ _ (by rfl) w2.heap.size v4 _ (by rfl) ho4 _ 0 _ ([]) (by rfl) (Sls.empty _) (by first | (simp; done) | (simp; omega)) HB4.size ?_; intro v5 w5 ho5 hg5 hb5; have HB5 : Below w2.heap.size w2 w5 := Below.grownM (M := w2.heap.size) HB4 hg5 HB4.size (fun q hq => (ho4.lt q hq).1)))
                all_goals
                  have e : ([] ++ (xs) ++ [⟨c0, c1, c2, c3, c4⟩] ++ ([]) : List Cel) = F (i + 1) := by rw [hY.out]; simp
                  rw [e] at ho5
                  obtain ⟨A5, c5, rfl⟩ := own_slice ho5
                  have hD5 := (Sls.of_owns celE_len ho5 rfl).2
                  have hC5 := own_cap ho5
                  have HB9 := Lib.hid (bthen HCb.out (bthen HI.out HB5))
                  replace hD5 := Lib.hid hD5
                  replace hC5 := Lib.hid hC5
                  clear ho3 ho4 ho5 hg3 hg4 hg5 hb3 hb4 hb5 HB3 HB4 HB5 e
                  go_wp2
                  go_roundw
                  case rel => exact ⟨i + 1, A5, c5, by omega, by go_num, rfl, hC5, hD5, HB9⟩
                  case measure => simp [intOf]; omega
    · obtain rfl : i = m := by omega
      rw [hFn'.out] at HS
      have hF : Hid (InPost R w (.returned (.slice Ao R.length co)) wr) := ⟨Ao, co, rfl, HS.out, HBw.out⟩
      rw [hFn'.out]
      go_wp2
      go_ret
      exact hF.out
end Sw
end Go.Proofs.Ytdlgdmbcbenlbaa
