/- symMerge. -/
import Derived.Test.YtdlgdmbcbenlbaaKb
import Derived.Deep.Cut
import Derived.Deep.CutBlock
import Derived.Deep.DeepCutAuto
set_option linter.unusedVariables false
set_option linter.unusedSimpArgs false
namespace Go.Proofs.Ytdlgdmbcbenlbaa
open Go Go.RowKit Go.Sort Go.Shelf Go.Lib
namespace St
variable {P : Program} {k : Nat} {α : Type} [Inhabited α]
/-- symMerge's contract, as far as N elements -/
def SymC (P : Program) (k : Nat) (enc : α → List Value) (cf : α → α → Int) (g : Nat) (cb : Array Value) (blk cap : Nat) (d0 : Array α) (w0 : World) (N : Nat) : Prop :=
  ∀ (a m b : Nat) (d : Array α) (w : World), b - a ≤ N → d0.size = d.size → SWK enc k w0 blk 0 d w → a < m → m < b → b ≤ d.size → d.size < 2305843009213693952 →
    Calls P 88 #[.slice (some ⟨blk, 0, none⟩) d.size cap, .int .i64 a, .int .i64 m, .int .i64 b, .func (.func g) #[] cb] w (MrgPost enc k w0 blk cf d a m b)
theorem merged_skip {lt : α → α → Bool} (d : Array α) {a m b : Nat} (h : a = m ∨ m = b) : Merged lt d d a m b := ⟨permIn_refl _ _ _, fun h1 h2 => by
  rcases h with rfl | rfl
  · exact h2
  · exact h1⟩
def SrPost (enc : α → List Value) (k : Nat) (w0 : World) (blk : Nat) (d : Array α) (Q : Array α → Prop) (w' : World) : Prop := ∃ d', d'.size = d.size ∧ Q d' ∧ SWK enc k w0 blk 0 d' w'
set_option maxHeartbeats 8000000 in
set_option maxRecDepth 1000000 in
theorem symMerge_step (L : StP P k) (enc : α → List Value) (cf : α → α → Int) (hO : SWO (ltOf cf)) (g : Nat) (cb : Array Value) (blk cap : Nat) (d0 : Array α) (w0 : World)
    (eg : ∀ args w, (callFunc g args).run P w = .ok (.enter g args) w) (hcmp : CmpLays P g cb enc k cf blk 0 d0.size w0) (R : RowK enc k w0 blk 0 d0) (N : Nat) (IH : SymC P k enc cf g cb blk cap d0 w0 N)
    (a m b : Nat) (d : Array α) (w : World) (hN : b - a ≤ N + 1) (hs : d0.size = d.size) (S : SWK enc k w0 blk 0 d w) (ham : a + 1 < m) (hmb : m + 1 < b) (hb : b ≤ d.size) (hsz : d.size < 2305843009213693952) :
    Calls P 88 #[.slice (some ⟨blk, 0, none⟩) d.size cap, .int .i64 a, .int .i64 m, .int .i64 b, .func (.func g) #[] cb] w (MrgPost enc k w0 blk cf d a m b) := by
  have hq1 : (((m : Int) - (a : Int)) == 1) = false := by rw [beq_eq_false_iff_ne]; omega
  have hq2 : (((b : Int) - (m : Int)) == 1) = false := by rw [beq_eq_false_iff_ne]; omega
  have eSy : ∀ args w, (callFunc 88 args).run P w = .ok (.enter 88 args) w := enters_of L.fSy (by kernel_rfl) rfl
  have eRo : ∀ args w, (callFunc 94 args).run P w = .ok (.enter 94 args) w := enters_of L.fRo (by kernel_rfl) rfl
  have cRo := fun (x y z : Nat) W (h : SWK enc k w0 blk 0 d W) (h1 : x < y) (h2 : y < z) (h3 : z ≤ d.size) => rotate_any L enc g cb blk cap x y z d0 d w0 W R hs h h1 h2 h3 (by omega)
  have cSy := fun (x y z : Nat) (dk : Array α) W (hz : dk.size = d.size) (h0 : z - x ≤ N) (h : SWK enc k w0 blk 0 dk W) (h1 : x < y) (h2 : y < z) (h3 : z ≤ dk.size) => IH x y z dk W h0 (by omega) h h1 h2 h3 (by omega)
  obtain ⟨mid, hmid⟩ : ∃ mid, mid = (a + b) / 2 := ⟨_, rfl⟩
  have hzm : ((a : Int) + (b : Int)) / 2 = (mid : Int) := by omega
  have hma : a + 1 ≤ mid := by omega
  have hmb2 : mid + 1 ≤ b := by omega
  have hml : mid + mid ≤ a + b := by omega
  have hmr : a + b ≤ mid + mid + 1 := by omega
  replace IH := Lib.hid IH
  replace cRo := Lib.hid cRo
  replace cSy := Lib.hid cSy
  replace hmid := Lib.hid hmid
  have mixed := L.mixed; have t0 := L.t0; have a0 := L.a0; have z0 := L.z0; have v0 := L.v0; have t3 := L.t3; have a3 := L.a3; have z3 := L.z3; have v3 := L.v3; have t4 := L.t4; have a4 := L.a4; have z4 := L.z4; have v4 := L.v4; have t38 := L.t38; have a38 := L.a38; have z38 := L.z38; have v38 := L.v38; have t78 := L.t78; have a78 := L.a78; have z78 := L.z78; have v78 := L.v78; have t94 := L.t94; have a94 := L.a94; have z94 := L.z94; have v94 := L.v94
  have aE := L.aE
  have zE := L.zE
  have S0 : Aside (SWK enc k w0 blk 0 d w) := S
  have HC : Aside (CmpLays P g cb enc k cf blk 0 d0.size w0) := hcmp
  clear S hcmp
  have hways : (mid < m) ∨ (m ≤ mid) := by omega
  have h0 : ∃ s0 r0 : Nat, (mid < m ∧ s0 = mid + m - b ∧ r0 = mid) ∨ (m ≤ mid ∧ s0 = a ∧ r0 = m) := by
    rcases hways with h | h
    · exact ⟨_, _, .inl ⟨h, rfl, rfl⟩⟩
    · exact ⟨_, _, .inr ⟨h, rfl, rfl⟩⟩
  obtain ⟨s0, r0, h0⟩ := h0
  have hs0 : a ≤ s0 := by omega
  have hr0 : r0 ≤ m := by omega
  have hr1 : r0 ≤ mid := by omega
  have hsr : s0 ≤ r0 := by omega
  have hsb : mid + m ≤ s0 + b := by omega
  have hway2 : (mid < m ∧ decide (mid < m) = true ∧ Hid ((mid : Int) + (m : Int) - (b : Int) = (s0 : Int)) ∧ Hid ((mid : Int) = (r0 : Int))) ∨ (m ≤ mid ∧ decide (mid < m) = false ∧ Hid ((a : Int) = (s0 : Int)) ∧ Hid ((m : Int) = (r0 : Int))) := by
    rcases h0 with ⟨h, h1, h2⟩ | ⟨h, h1, h2⟩
    · exact .inl ⟨h, by simpa using h, (show _ = _ by omega), (show _ = _ by omega)⟩
    · exact .inr ⟨h, by simp; omega, (show _ = _ by omega), (show _ = _ by omega)⟩
  replace h0 := Lib.hid h0
  clear hways
  go_enter L.fSy, Try.ntmps88
  go_upto_if 140 with fail
  go_cut [20, 21] (fun vs vr wx => vs = .int .i64 s0 ∧ vr = .int .i64 r0 ∧ wx = w)
  case first => as_aux_lemma =>
    rcases hway2 with ⟨hw, hwd, k1, k2⟩ | ⟨hw, hwd, k1, k2⟩
    all_goals
      go_wp2_with fail
      go_meet
      exact ⟨by rw [k1.out], by rw [k2.out], rfl⟩
  case rest => as_aux_lemma =>
    obtain ⟨rfl, rfl, rfl⟩ := hcut
    clear hway2
    go_wp2_with fail
    go_loopw [20, 21] (fun vs vr wr => ∃ s r : Nat, s0 ≤ s ∧ s ≤ r ∧ r ≤ r0 ∧ vs = .int .i64 s ∧ vr = .int .i64 r ∧ Hid (s = s0 ∨ ltOf cf d[mid + m - s]! d[s - 1]! = false) ∧ Hid (r = r0 ∨ ltOf cf d[mid + m - r - 1]! d[r]! = true) ∧ Aside (SWK enc k w0 blk 0 d wr)) (fun vs vr _ => (intOf vr).toNat - (intOf vs).toNat)
    case atStart => exact ⟨s0, r0, Nat.le_refl _, by omega, Nat.le_refl _, rfl, rfl, .inl rfl, .inl rfl, S0⟩
    case round =>
      clear S0
      obtain ⟨s, r, hss, hsr2, hrr, rfl, rfl, F1, F2, S1⟩ := hrel
      by_cases hlt : s < r
      · obtain ⟨c, hh⟩ : ∃ c, c = (s + r) / 2 := ⟨_, rfl⟩
        have hz : ((s : Int) + (r : Int)) / 2 = (c : Int) := by omega
        have r1 : (s : Int) < (r : Int) := by omega
        have hb1 : s ≤ c := by omega
        have hb2 : c < r := by omega
        replace hh := Lib.hid hh
        obtain ⟨q, hq⟩ : ∃ q, q = mid + m - 1 - c := ⟨_, rfl⟩
        have F3 : Hid (ltOf cf d[q]! d[c]! = false → (c + 1 = s0 ∨ ltOf cf d[mid + m - (c + 1)]! d[c + 1 - 1]! = false)) := fun hh => .inr (by rw [show mid + m - (c + 1) = q by omega, Nat.add_sub_cancel]; exact hh)
        have F5 : Hid (ltOf cf d[q]! d[c]! = true → (c = r0 ∨ ltOf cf d[mid + m - c - 1]! d[c]! = true)) := fun hh => .inr (by rw [show mid + m - c - 1 = q by omega]; exact hh)
        have hqz : (mid : Int) + (m : Int) - 1 - (c : Int) = (q : Int) := by omega
        have hqw : IntKind.i64.wrap ((mid : Int) + (m : Int) - 1 - (c : Int)) = (q : Int) := by rw [IntKind.wrap_i64]; omega
        have hqd : q < d.size := by omega
        replace hq := Lib.hid hq
        cases hL : ltOf cf d[q]! d[c]! with
        | false =>
          have ea1 : ((q : Int) : Int).toNat = q := by omega
          have pa1 : (0 : Int) ≤ (q : Int) := by omega
          have ba1 : ((q : Int) : Int) < (d.size : Int) := by omega
          have ra1 : IntKind.i64.wrap ((q : Int)) = (q : Int) := by rw [IntKind.wrap_i64]; omega
          have ec1 : ((c : Int) : Int).toNat = c := by omega
          have pc1 : (0 : Int) ≤ (c : Int) := by omega
          have bc1 : ((c : Int) : Int) < (d.size : Int) := by omega
          have rc1 : IntKind.i64.wrap ((c : Int)) = (c : Int) := by rw [IntKind.wrap_i64]; omega
          obtain ⟨x1, hx1⟩ : ∃ x, x = d[q]! := ⟨_, rfl⟩
          obtain ⟨y1, hy1⟩ : ∃ x, x = d[c]! := ⟨_, rfl⟩
          have la1 := S1.out.ld R (by omega) P (q) (by omega)
          have lb1 := S1.out.ld R (by omega) P (c) (by omega)
          rw [← hx1] at la1
          rw [← hy1] at lb1
          simp only [Nat.zero_add] at la1 lb1
          have hc1 := S1.out.cmp HC.out (by omega) x1 y1
          have hv1 : ¬ cf x1 y1 < 0 := by rw [hx1, hy1]; exact of_decide_eq_false hL
          have hd1 : decide (cf x1 y1 < 0) = false := decide_eq_false hv1
          clear hx1 hy1
          go_wp2_with fail
          go_quiet_grown (first | (go_at_fn g; refine Calls.grown_of (hc1 _ _)))
          have S2 : Aside (SWK enc k w0 blk 0 d (grow (wr.drewN nq) osq)) := S1.out.grown nq osq
          clear la1 lb1 hc1 S1 ea1 pa1 ba1 ra1 ec1 pc1 bc1 rc1
          generalize grow (wr.drewN nq) osq = w2 at S2 ⊢
          clear nq osq
          have F4 := F3.out hL
          replace F4 := Lib.hid F4
          replace hL := Lib.hid hL
          clear hqw
          go_wp2
          go_roundw
          case rel => exact ⟨c + 1, r, by omega, by omega, hrr, by go_num, rfl, F4, F2, S2⟩
          case measure => simp [intOf]; omega
        | true =>
          have ea1 : ((q : Int) : Int).toNat = q := by omega
          have pa1 : (0 : Int) ≤ (q : Int) := by omega
          have ba1 : ((q : Int) : Int) < (d.size : Int) := by omega
          have ra1 : IntKind.i64.wrap ((q : Int)) = (q : Int) := by rw [IntKind.wrap_i64]; omega
          have ec1 : ((c : Int) : Int).toNat = c := by omega
          have pc1 : (0 : Int) ≤ (c : Int) := by omega
          have bc1 : ((c : Int) : Int) < (d.size : Int) := by omega
          have rc1 : IntKind.i64.wrap ((c : Int)) = (c : Int) := by rw [IntKind.wrap_i64]; omega
          obtain ⟨x1, hx1⟩ : ∃ x, x = d[q]! := ⟨_, rfl⟩
          obtain ⟨y1, hy1⟩ : ∃ x, x = d[c]! := ⟨_, rfl⟩
          have la1 := S1.out.ld R (by omega) P (q) (by omega)
          have lb1 := S1.out.ld R (by omega) P (c) (by omega)
          rw [← hx1] at la1
          rw [← hy1] at lb1
          simp only [Nat.zero_add] at la1 lb1
          have hc1 := S1.out.cmp HC.out (by omega) x1 y1
          have hv1 : cf x1 y1 < 0 := by rw [hx1, hy1]; exact of_decide_eq_true hL
          have hd1 : decide (cf x1 y1 < 0) = true := decide_eq_true hv1
          clear hx1 hy1
          go_wp2_with fail
          go_quiet_grown (first | (go_at_fn g; refine Calls.grown_of (hc1 _ _)))
          have S2 : Aside (SWK enc k w0 blk 0 d (grow (wr.drewN nq) osq)) := S1.out.grown nq osq
          clear la1 lb1 hc1 S1 ea1 pa1 ba1 ra1 ec1 pc1 bc1 rc1
          generalize grow (wr.drewN nq) osq = w2 at S2 ⊢
          clear nq osq
          have F4 := F5.out hL
          replace F4 := Lib.hid F4
          replace hL := Lib.hid hL
          clear hqw
          go_wp2
          go_roundw
          case rel => exact ⟨s, c, hss, by omega, by omega, rfl, rfl, F1, F4, S2⟩
          case measure => simp [intOf]; omega
      · obtain rfl : s = r := by omega
        clear hlt
        obtain ⟨e, hee⟩ : ∃ e, e = mid + m - s := ⟨_, rfl⟩
        have hez : (mid : Int) + (m : Int) - (s : Int) = (e : Int) := by omega
        have hme : m ≤ e := by omega
        have heb : e ≤ b := by omega
        have hmide : mid ≤ e := by omega
        have hsm : s ≤ m := by omega
        have hsmid : s ≤ mid := by omega
        have hmid2 : Hid (s + (e - m) = mid) := by show _ = _; omega
        have SP : Hid (SortedIn (ltOf cf) a m d → SortedIn (ltOf cf) m b d → Split (ltOf cf) d a s m e b) := fun q1 q2 => by
          rw [hee]
          exact split_of hO (by omega) (by omega) hmid.out r0 s0 h0.out hss hrr (by rw [← hee]; rw [hee]; exact F1.out) F2.out q1 q2
        obtain ⟨B1, hB1⟩ : ∃ B : Bool, B = (decide (s < m) && decide (m < e)) := ⟨_, rfl⟩
        obtain ⟨B2, hB2⟩ : ∃ B : Bool, B = (decide (a < s) && decide (s < mid)) := ⟨_, rfl⟩
        obtain ⟨B3, hB3⟩ : ∃ B : Bool, B = (decide (mid < e) && decide (e < b)) := ⟨_, rfl⟩
        have has : a ≤ s := by omega
        replace hee := Lib.hid hee
        replace hB1 := Lib.hid hB1
        replace hB2 := Lib.hid hB2
        replace hB3 := Lib.hid hB3
        clear F1 F2
        go_upto_region 39 with fail
        go_cut [185] (fun sx wx => sx = .bool B1 ∧ wx = wr)
        case first => as_aux_lemma =>
          by_cases g1 : s < m
          · by_cases g2 : m < e
            · have hb : Hid (B1 = true) := by show _ = _; rw [hB1.out]; simp [g1, g2]
              go_wp2_with fail
              go_meet
              exact ⟨by rw [hb.out], rfl⟩
            · have hb : Hid (B1 = false) := by show _ = _; rw [hB1.out]; simp [g2]
              have gd : decide (m < e) = false := by simpa using g2
              go_wp2_with fail
              go_meet
              exact ⟨by rw [hb.out], rfl⟩
          · have hb : Hid (B1 = false) := by show _ = _; rw [hB1.out]; simp [g1]
            have gd : decide (s < m) = false := by simpa using g1
            go_wp2_with fail
            go_meet
            exact ⟨by rw [hb.out], rfl⟩
        case rest => as_aux_lemma =>
          obtain ⟨e_, ew⟩ := hcut
          subst e_
          subst ew
          generalize wc = wr at *
          go_upto_if 185 with fail
          go_cut [] (fun wx => SrPost enc k w0 blk d (fun d1 => Rotated d d1 s m e) wx)
          case first => as_aux_lemma =>
            cases B1 with
            | true =>
              have g := hB1.out
              rw [eq_comm, Bool.and_eq_true, decide_eq_true_eq, decide_eq_true_eq] at g
              have c := cRo.out s m e wr S1.out g.1 g.2 (by omega)
              replace c := Lib.hid c
              replace g := Lib.hid g
              go_wp2_with fail
              refine c.out.mono ?_
              rintro e_ w2 ⟨rfl, d1, S2, R2⟩
              have SS : Hid (SrPost enc k w0 blk d (fun d1 => Rotated d d1 s m e) w2) := ⟨d1, R2.perm.1, R2, S2⟩
              clear S2 R2
              go_wp2_with fail
              go_meet
              exact SS.out
            | false =>
              have g := hB1.out
              have SS : Hid (SrPost enc k w0 blk d (fun d1 => Rotated d d1 s m e) wr) := ⟨d, rfl, by
                rw [eq_comm, Bool.and_eq_false_iff, decide_eq_false_iff_not, decide_eq_false_iff_not] at g
                rcases g with g | g
                · have : s = m := by omega
                  rw [this]; exact rot_self2 d m e hme
                · have : e = m := by omega
                  rw [this]; exact rot_self d s m, S1.out⟩
              replace g := Lib.hid g
              go_wp2_with fail
              go_meet
              exact SS.out
          case rest => as_aux_lemma =>
            obtain ⟨d1, hz1, R1, S1'⟩ := hcut
            have S2 : Aside (SWK enc k w0 blk 0 d1 wc) := S1'
            clear S1' S1
            generalize wc = wr at *
            replace R1 := Lib.hid R1
            go_upto_region 41 with fail
            go_cut [199] (fun sx wx => sx = .bool B2 ∧ wx = wr)
            case first => as_aux_lemma =>
              by_cases g1 : a < s
              · by_cases g2 : s < mid
                · have hb : Hid (B2 = true) := by show _ = _; rw [hB2.out]; simp [g1, g2]
                  go_wp2_with fail
                  go_meet
                  exact ⟨by rw [hb.out], rfl⟩
                · have hb : Hid (B2 = false) := by show _ = _; rw [hB2.out]; simp [g2]
                  have gd : decide (s < mid) = false := by simpa using g2
                  go_wp2_with fail
                  go_meet
                  exact ⟨by rw [hb.out], rfl⟩
              · have hb : Hid (B2 = false) := by show _ = _; rw [hB2.out]; simp [g1]
                have gd : decide (a < s) = false := by simpa using g1
                go_wp2_with fail
                go_meet
                exact ⟨by rw [hb.out], rfl⟩
            case rest => as_aux_lemma =>
              obtain ⟨e_, ew⟩ := hcut
              subst e_
              subst ew
              generalize wc = wr at *
              go_upto_if 199 with fail
              go_cut [] (fun wx => SrPost enc k w0 blk d (fun d' => Merged (ltOf cf) d1 d' a s mid) wx)
              case first => as_aux_lemma =>
                cases B2 with
                | true =>
                  have g := hB2.out
                  rw [eq_comm, Bool.and_eq_true, decide_eq_true_eq, decide_eq_true_eq] at g
                  have c := cSy.out a s mid d1 wr hz1 (by omega) S2.out g.1 g.2 (by omega)
                  rw [hz1] at c
                  replace c := Lib.hid c
                  replace g := Lib.hid g
                  go_wp2_with fail
                  refine c.out.mono ?_
                  rintro e_ w2 ⟨rfl, dn, Sn, Mn⟩
                  have SS : Hid (SrPost enc k w0 blk d (fun d' => Merged (ltOf cf) d1 d' a s mid) w2) := ⟨dn, by rw [Mn.1.1, hz1], Mn, Sn⟩
                  clear Sn Mn
                  go_wp2_with fail
                  go_meet
                  exact SS.out
                | false =>
                  have g := hB2.out
                  have SS : Hid (SrPost enc k w0 blk d (fun d' => Merged (ltOf cf) d1 d' a s mid) wr) := ⟨d1, hz1, merged_skip d1 (by
                    rw [eq_comm, Bool.and_eq_false_iff, decide_eq_false_iff_not, decide_eq_false_iff_not] at g
                    omega), S2.out⟩
                  replace g := Lib.hid g
                  go_wp2_with fail
                  go_meet
                  exact SS.out
              case rest => as_aux_lemma =>
                obtain ⟨d2, hz2, M2, S3'⟩ := hcut
                have S3 : Aside (SWK enc k w0 blk 0 d2 wc) := S3'
                clear S3' S2
                generalize wc = wr at *
                replace M2 := Lib.hid M2
                go_upto_region 43 with fail
                go_cut [213] (fun sx wx => sx = .bool B3 ∧ wx = wr)
                case first => as_aux_lemma =>
                  by_cases g1 : mid < e
                  · by_cases g2 : e < b
                    · have hb : Hid (B3 = true) := by show _ = _; rw [hB3.out]; simp [g1, g2]
                      go_wp2_with fail
                      go_meet
                      exact ⟨by rw [hb.out], rfl⟩
                    · have hb : Hid (B3 = false) := by show _ = _; rw [hB3.out]; simp [g2]
                      have gd : decide (e < b) = false := by simpa using g2
                      go_wp2_with fail
                      go_meet
                      exact ⟨by rw [hb.out], rfl⟩
                  · have hb : Hid (B3 = false) := by show _ = _; rw [hB3.out]; simp [g1]
                    have gd : decide (mid < e) = false := by simpa using g1
                    go_wp2_with fail
                    go_meet
                    exact ⟨by rw [hb.out], rfl⟩
                case rest => as_aux_lemma =>
                  obtain ⟨e_, ew⟩ := hcut
                  subst e_
                  subst ew
                  generalize wc = wr at *
                  cases B3 with
                  | true =>
                    have g := hB3.out
                    rw [eq_comm, Bool.and_eq_true, decide_eq_true_eq, decide_eq_true_eq] at g
                    have c := cSy.out mid e b d2 wr hz2 (by omega) S3.out g.1 g.2 (by omega)
                    rw [hz2] at c
                    replace c := Lib.hid c
                    replace g := Lib.hid g
                    go_wp2_with fail
                    refine c.out.mono ?_
                    rintro e_ w2 ⟨rfl, d3, Sn, M3⟩
                    have HM : Hid (Merged (ltOf cf) d d3 a m b) := merged_of hb has hsm hme heb SP.out R1.out (by rw [hmid2.out]; exact M2.out) (by rw [hmid2.out]; exact M3)
                    have S4 : Aside (SWK enc k w0 blk 0 d3 w2) := Sn
                    clear Sn M3
                    go_wp2
                    go_end0
                    exact ⟨rfl, d3, S4.out, HM.out⟩
                  | false =>
                    have g := hB3.out
                    have M3 : Merged (ltOf cf) d2 d2 mid e b := merged_skip d2 (by
                      rw [eq_comm, Bool.and_eq_false_iff, decide_eq_false_iff_not, decide_eq_false_iff_not] at g
                      omega)
                    have HM : Hid (Merged (ltOf cf) d d2 a m b) := merged_of hb has hsm hme heb SP.out R1.out (by rw [hmid2.out]; exact M2.out) (by rw [hmid2.out]; exact M3)
                    replace g := Lib.hid g
                    replace M3 := Lib.hid M3
                    go_wp2
                    go_end0
                    exact ⟨rfl, d2, S3.out, HM.out⟩
end St
end Go.Proofs.Ytdlgdmbcbenlbaa
namespace Go.Proofs.Ytdlgdmbcbenlbaa
open Go Go.RowKit Go.Sort Go.Shelf Go.Lib
namespace St
variable {P : Program} {k : Nat} {α : Type} [Inhabited α]
theorem symC_all (L : StP P k) (enc : α → List Value) (cf : α → α → Int) (hO : SWO (ltOf cf)) (g : Nat) (cb : Array Value) (blk cap : Nat) (d0 : Array α) (w0 : World)
    (eg : ∀ args w, (callFunc g args).run P w = .ok (.enter g args) w) (hcmp : CmpLays P g cb enc k cf blk 0 d0.size w0) (R : RowK enc k w0 blk 0 d0) : ∀ N, SymC P k enc cf g cb blk cap d0 w0 N := by
  intro N
  induction N with
  | zero => intro a m b d w hN _ _ h1 h2; omega
  | succ N ih =>
    intro a m b d w hN hs S ham hmb hb hsz
    by_cases c1 : m = a + 1
    · exact symMerge_one L enc cf hO g cb blk cap a m b d0 d w0 w eg hcmp R hs S c1 hmb hb hsz
    · by_cases c2 : b = m + 1
      · exact symMerge_last L enc cf hO g cb blk cap a m b d0 d w0 w eg hcmp R hs S (by omega) c2 hb hsz
      · exact symMerge_step L enc cf hO g cb blk cap d0 w0 eg hcmp R N ih a m b d w hN hs S (by omega) (by omega) hb hsz
theorem dvd_step {s p x : Nat} (h1 : s ∣ p) (h2 : s ∣ x) (h : p < x) : p + s ≤ x := by
  have := Nat.le_of_dvd (by omega) (Nat.dvd_sub h2 h1)
  omega
def RunsTo (lt : α → α → Bool) (s x : Nat) (d : Array α) : Prop := ∀ p, s ∣ p → p + s ≤ x → SortedIn lt p (p + s) d
def Runs (lt : α → α → Bool) (s n : Nat) (d : Array α) : Prop := ∀ p, s ∣ p → SortedIn lt p (min (p + s) n) d
structure Part2 (lt : α → α → Bool) (s x n : Nat) (d : Array α) : Prop where
  lo : ∀ p, 2 * s ∣ p → p + 2 * s ≤ x → SortedIn lt p (p + 2 * s) d
  hi : ∀ p, s ∣ p → x ≤ p → SortedIn lt p (min (p + s) n) d
theorem RunsTo.next {lt : α → α → Bool} {s x : Nat} {d d' : Array α} (h : RunsTo lt s x d) (hx : s ∣ x) (hp : PermIn x (x + s) d d') (hs : SortedIn lt x (x + s) d') : RunsTo lt s (x + s) d' := by
  intro p hd hle
  by_cases c : p < x
  · exact sorted_out hp (.inl (dvd_step hd hx c)) (h p hd (dvd_step hd hx c))
  · obtain rfl : p = x := by omega
    exact hs
theorem RunsTo.all {lt : α → α → Bool} {s x n : Nat} {d d' : Array α} (h : RunsTo lt s x d) (hx : s ∣ x) (hn : n < x + s) (hp : PermIn x n d d') (hs : SortedIn lt x n d') (hxn : x ≤ n) : Runs lt s n d' := by
  intro p hd
  by_cases c : p < x
  · have h1 := dvd_step hd hx c
    rw [show min (p + s) n = p + s by omega]
    exact sorted_out hp (.inl h1) (h p hd h1)
  · by_cases c2 : p = x
    · subst c2
      rw [show min (p + s) n = n by omega]; exact hs
    · have h1 := dvd_step hx hd (by omega)
      intro i j h2 h3 h4
      omega
theorem Runs.part {lt : α → α → Bool} {s n : Nat} {d : Array α} (h : Runs lt s n d) (h0 : 0 < s) : Part2 lt s 0 n d := ⟨fun p _ h => by omega, fun p hd _ => h p hd⟩
theorem dvd_two {s x : Nat} (h : 2 * s ∣ x) : s ∣ x := Nat.dvd_trans (Nat.dvd_mul_left s 2) h
theorem Part2.next {lt : α → α → Bool} {s x n : Nat} {d d' : Array α} (h : Part2 lt s x n d) (h0 : 0 < s) (hx : 2 * s ∣ x) (hn : x + 2 * s ≤ n) (hm : Merged lt d d' x (x + s) (x + 2 * s)) : Part2 lt s (x + 2 * s) n d' := by
  obtain ⟨hp, hm⟩ := hm
  have hsx := dvd_two hx
  have h1 := h.hi x hsx (Nat.le_refl _)
  have h2 := h.hi (x + s) (Nat.dvd_add hsx (Nat.dvd_refl s)) (by omega)
  rw [show min (x + s) n = x + s by omega] at h1
  rw [show min (x + s + s) n = x + 2 * s by omega] at h2
  refine ⟨fun p hd hle => ?_, fun p hd hle => sorted_out hp (.inr hle) (h.hi p hd (by omega))⟩
  by_cases c : p < x
  · have h3 := dvd_step hd hx c
    exact sorted_out hp (.inl h3) (h.lo p hd h3)
  · obtain rfl : p = x := by omega
    exact hm h1 h2
theorem Part2.all {lt : α → α → Bool} {s x n : Nat} {d d' : Array α} (h : Part2 lt s x n d) (hx : 2 * s ∣ x) (hxn : x ≤ n) (hn : n < x + 2 * s) (hp : PermIn x n d d') (hs : SortedIn lt x n d') : Runs lt (2 * s) n d' := by
  intro p hd
  by_cases c : p < x
  · have h3 := dvd_step hd hx c
    rw [show min (p + 2 * s) n = p + 2 * s by omega]
    exact sorted_out hp (.inl h3) (h.lo p hd h3)
  · by_cases c2 : p = x
    · subst c2
      rw [show min (p + 2 * s) n = n by omega]; exact hs
    · have h1 := dvd_step hx hd (by omega)
      intro i j h2 h3 h4
      omega
theorem Part2.last {lt : α → α → Bool} {s x n : Nat} {d d' : Array α} (h : Part2 lt s x n d) (h0 : 0 < s) (hx : 2 * s ∣ x) (hn : n < x + 2 * s) (hxs : x + s < n) (hm : Merged lt d d' x (x + s) n) : Runs lt (2 * s) n d' := by
  have hsx := dvd_two hx
  have h1 := h.hi x hsx (Nat.le_refl _)
  have h2 := h.hi (x + s) (Nat.dvd_add hsx (Nat.dvd_refl s)) (by omega)
  rw [show min (x + s) n = x + s by omega] at h1
  rw [show min (x + s + s) n = n by omega] at h2
  exact h.all hx (by omega) hn hm.1 (hm.2 h1 h2)
theorem Part2.none {lt : α → α → Bool} {s x n : Nat} {d : Array α} (h : Part2 lt s x n d) (h0 : 0 < s) (hx : 2 * s ∣ x) (hxn : x ≤ n) (hn : n ≤ x + s) : Runs lt (2 * s) n d := by
  have h1 := h.hi x (dvd_two hx) (Nat.le_refl _)
  rw [show min (x + s) n = n by omega] at h1
  exact h.all hx hxn (by omega) (permIn_refl _ _ _) h1
theorem Runs.whole {lt : α → α → Bool} {s n : Nat} {d : Array α} (h : Runs lt s n d) (hn : n ≤ s) : SortedIn lt 0 n d := by
  have := h 0 (Nat.dvd_zero s)
  rw [show min (0 + s) n = n by omega] at this
  exact this
def InsPost (enc : α → List Value) (k : Nat) (w0 : World) (blk : Nat) (cf : α → α → Int) (d : Array α) (a b : Nat) (e : Ending) (w' : World) : Prop := e = .returned (.tuple #[]) ∧ ∃ d', SWK enc k w0 blk 0 d' w' ∧ PermIn a b d d' ∧ SortedIn (ltOf cf) a b d'
set_option maxHeartbeats 8000000 in
set_option maxRecDepth 1000000 in
theorem stable_any (L : StP P k) (enc : α → List Value) (cf : α → α → Int) (hO : SWO (ltOf cf)) (g : Nat) (cb : Array Value) (blk cap : Nat) (d0 : Array α) (w0 : World)
    (eg : ∀ args w, (callFunc g args).run P w = .ok (.enter g args) w) (hcmp : CmpLays P g cb enc k cf blk 0 d0.size w0) (R : RowK enc k w0 blk 0 d0)
    (eIn : ∀ args w, (callFunc 87 args).run P w = .ok (.enter 87 args) w)
    (hIns : ∀ (a b : Nat) (d : Array α) (w : World), d.size = d0.size → SWK enc k w0 blk 0 d w → a ≤ b → b ≤ d.size → Calls P 87 #[.slice (some ⟨blk, 0, none⟩) d0.size cap, .int .i64 a, .int .i64 b, .func (.func g) #[] cb] w (InsPost enc k w0 blk cf d a b))
    (hsz : d0.size < 1152921504606846976) :
    Calls P 72 #[.slice (some ⟨blk, 0, none⟩) d0.size cap, .int .i64 (d0.size : Int), .func (.func g) #[] cb] w0 (InsPost enc k w0 blk cf d0 0 d0.size) := by
  have S0 : Aside (SWK enc k w0 blk 0 d0 w0) := SWK.start R.hH
  have cSy := fun (x y z : Nat) (dk : Array α) W (hz : dk.size = d0.size) (h : SWK enc k w0 blk 0 dk W) (h1 : x < y) (h2 : y < z) (h3 : z ≤ d0.size) => symC_all L enc cf hO g cb blk cap d0 w0 eg hcmp R (z - x) x y z dk W (Nat.le_refl _) hz.symm h h1 h2 (by omega) (by omega)
  have eSy : ∀ args w, (callFunc 88 args).run P w = .ok (.enter 88 args) w := enters_of L.fSy (by kernel_rfl) rfl
  obtain ⟨n, hn⟩ : ∃ n, n = d0.size := ⟨_, rfl⟩
  rw [← hn] at hIns hsz
  rw [← hn]
  have HF : Hid (∀ d' W, SWK enc k w0 blk 0 d' W → PermIn 0 n d0 d' → SortedIn (ltOf cf) 0 n d' → InsPost enc k w0 blk cf d0 0 n (.returned (.tuple #[])) W) := fun d' W h1 h2 h3 => ⟨rfl, d', h1, h2, h3⟩
  have HP : Hid (∀ (x z : Nat) (dk d' : Array α), z ≤ n → PermIn 0 n d0 dk → PermIn x z dk d' → PermIn 0 n d0 d' ∧ d'.size = d0.size) := fun x z dk d' hz h1 h2 => ⟨permIn_trans _ _ _ _ _ h1 (permIn_mono _ _ _ _ _ _ (Nat.zero_le _) hz (by rw [h1.1, ← hn]; exact Nat.le_refl _) h2), by rw [h2.1, h1.1]⟩
  have mixed := L.mixed; have t0 := L.t0; have a0 := L.a0; have z0 := L.z0; have v0 := L.v0; have t3 := L.t3; have a3 := L.a3; have z3 := L.z3; have v3 := L.v3; have t4 := L.t4; have a4 := L.a4; have z4 := L.z4; have v4 := L.v4; have t38 := L.t38; have a38 := L.a38; have z38 := L.z38; have v38 := L.v38; have t78 := L.t78; have a78 := L.a78; have z78 := L.z78; have v78 := L.v78
  have PR0 : Hid (PermIn 0 n d0 d0) := permIn_refl _ _ _
  clear hcmp hO
  replace hIns := Lib.hid hIns
  replace cSy := Lib.hid cSy
  replace hn := Lib.hid hn
  go_enter L.fSt, Try.ntmps72
  go_wp2_with fail
  go_loopw [7, 8] (fun va vb wr => ∃ (x : Nat) (dk : Array α), x ≤ n ∧ va = .int .i64 x ∧ vb = .int .i64 ((x : Int) + 20) ∧ Hid (20 ∣ x) ∧ Hid (dk.size = d0.size) ∧ Hid (PermIn 0 n d0 dk) ∧ Hid (RunsTo (ltOf cf) 20 x dk) ∧ Aside (SWK enc k w0 blk 0 dk wr)) (fun va _ _ => n - (intOf va).toNat)
  case atStart => exact ⟨0, d0, by omega, rfl, rfl, Nat.dvd_zero _, rfl, PR0, fun p _ h => by omega, S0⟩
  case round =>
    clear S0 PR0
    obtain ⟨x, dk, hxn, rfl, rfl, HD, HS, HPm, HR, S1⟩ := hrel
    by_cases hlt : x + 20 ≤ n
    · have hlt2 : (x : Int) + 20 ≤ (n : Int) := by omega
      have c := hIns.out x (x + 20) dk wr (HS.out.trans hn.out.symm) S1.out (by omega) (by rw [HS.out, ← hn.out]; exact hlt)
      rw [show ((x + 20 : Nat) : Int) = (x : Int) + 20 by omega] at c
      replace c := Lib.hid c
      go_wp2_with fail
      refine c.out.mono ?_
      rintro e w2 ⟨rfl, d', S2, P2, Q2⟩
      have S3 : Aside (SWK enc k w0 blk 0 d' w2) := S2
      obtain ⟨P3, z3'⟩ := HP.out x (x + 20) dk d' hlt HPm.out P2
      have R3 := Lib.hid (HR.out.next HD.out P2 Q2)
      have D3 : Hid (20 ∣ x + 20) := Nat.dvd_add HD.out (Nat.dvd_refl 20)
      clear S2 P2 Q2 S1 HR HPm HS HD
      replace P3 := Lib.hid P3
      replace z3' := Lib.hid z3'
      go_wp2
      go_roundw
      case rel => exact ⟨x + 20, d', hlt, by go_num, by go_num, D3, z3', P3, R3, S3⟩
      case measure => simp [intOf]; omega
    · have hlt2 : ¬ ((x : Int) + 20 ≤ (n : Int)) := by omega
      have c := hIns.out x n dk wr (HS.out.trans hn.out.symm) S1.out hxn (by rw [HS.out, ← hn.out]; exact Nat.le_refl _)
      replace c := Lib.hid c
      go_wp2_with fail
      refine c.out.mono ?_
      rintro e w2 ⟨rfl, d', S2, P2, Q2⟩
      have S3 : Aside (SWK enc k w0 blk 0 d' w2) := S2
      obtain ⟨P3, z3'⟩ := HP.out x n dk d' (Nat.le_refl _) HPm.out P2
      have R3 := Lib.hid (HR.out.all HD.out (by omega) P2 Q2 hxn)
      clear S2 P2 Q2 S1 HR HPm HS HD hlt hlt2
      replace P3 := Lib.hid P3
      replace z3' := Lib.hid z3'
      go_wp2_with fail
      go_loopw [6, 7, 8] (fun vs _ _ wr => ∃ (s : Nat) (dk : Array α), 20 ≤ s ∧ s ≤ 2305843009213693952 ∧ vs = .int .i64 s ∧ Hid (dk.size = d0.size) ∧ Hid (PermIn 0 n d0 dk) ∧ Hid (Runs (ltOf cf) s n dk) ∧ Aside (SWK enc k w0 blk 0 dk wr)) (fun vs _ _ _ => n - (intOf vs).toNat)
      case atStart => exact ⟨20, d', by omega, by omega, rfl, z3', P3, R3, S3⟩
      case round =>
        clear S3 P3 R3 z3'
        obtain ⟨s, dk, hs1, hs2, rfl, HS, HPm, HR, S1⟩ := hrel
        by_cases hlt : s < n
        · have r1 : (s : Int) < (n : Int) := by omega
          have Q0 := Lib.hid (HR.out.part (by omega))
          clear HR
          go_wp2_with fail
          go_loopw [7, 8] (fun va vb wr => ∃ (x : Nat) (dk : Array α), x ≤ n ∧ va = .int .i64 x ∧ vb = .int .i64 ((x : Int) + 2 * (s : Int)) ∧ Hid (2 * s ∣ x) ∧ Hid (dk.size = d0.size) ∧ Hid (PermIn 0 n d0 dk) ∧ Hid (Part2 (ltOf cf) s x n dk) ∧ Aside (SWK enc k w0 blk 0 dk wr)) (fun va _ _ => n - (intOf va).toNat)
          case atStart => exact ⟨0, dk, by omega, rfl, by simp, Nat.dvd_zero _, HS, HPm, Q0, S1⟩
          case round =>
            clear Q0 HS HPm S1
            obtain ⟨y, dj, hyn, rfl, rfl, HD, HS, HPm, HR, S1⟩ := hrel
            by_cases hle : y + 2 * s ≤ n
            · have r2 : (y : Int) + 2 * (s : Int) ≤ (n : Int) := by omega
              have c := cSy.out y (y + s) (y + 2 * s) dj wr HS.out S1.out (by omega) (by omega) (by have := hn.out; omega)
              rw [HS.out, ← hn.out, show ((y + s : Nat) : Int) = (y : Int) + (s : Int) by omega, show ((y + 2 * s : Nat) : Int) = (y : Int) + 2 * (s : Int) by omega] at c
              replace c := Lib.hid c
              go_wp2_with fail
              refine c.out.mono ?_
              rintro e w2 ⟨rfl, d', S2, M2⟩
              have S3 : Aside (SWK enc k w0 blk 0 d' w2) := S2
              obtain ⟨P3, z3'⟩ := HP.out y (y + 2 * s) dj d' hle HPm.out M2.1
              have R3 := Lib.hid (HR.out.next (by omega) HD.out hle M2)
              have D3 : Hid (2 * s ∣ y + 2 * s) := Nat.dvd_add HD.out (Nat.dvd_refl _)
              clear S2 M2 S1 HR HPm HS HD
              replace P3 := Lib.hid P3
              replace z3' := Lib.hid z3'
              go_wp2
              go_roundw
              case rel => exact ⟨y + 2 * s, d', hle, by go_num, by go_num, D3, z3', P3, R3, S3⟩
              case measure => simp [intOf]; omega
            · have r2 : ¬ ((y : Int) + 2 * (s : Int) ≤ (n : Int)) := by omega
              by_cases hm : y + s < n
              · have r3 : (y : Int) + (s : Int) < (n : Int) := by omega
                have c := cSy.out y (y + s) n dj wr HS.out S1.out (by omega) (by omega) (by have := hn.out; omega)
                rw [HS.out, ← hn.out, show ((y + s : Nat) : Int) = (y : Int) + (s : Int) by omega] at c
                replace c := Lib.hid c
                go_wp2_with fail
                refine c.out.mono ?_
                rintro e w2 ⟨rfl, d', S2, M2⟩
                have S3 : Aside (SWK enc k w0 blk 0 d' w2) := S2
                obtain ⟨P3, z3'⟩ := HP.out y n dj d' (Nat.le_refl _) HPm.out M2.1
                have R3 := Lib.hid (HR.out.last (by omega) HD.out (by omega) hm M2)
                clear S2 M2 S1 HR HPm HS HD
                replace P3 := Lib.hid P3
                replace z3' := Lib.hid z3'
                go_wp2
                go_roundw
                case rel => exact ⟨2 * s, d', by omega, by omega, by go_num, z3', P3, R3, S3⟩
                case measure => simp [intOf]; omega
              · have r3 : ¬ ((y : Int) + (s : Int) < (n : Int)) := by omega
                have R3 := Lib.hid (HR.out.none (by omega) HD.out hyn (by omega))
                clear HR HD
                go_wp2
                go_roundw
                case rel => exact ⟨2 * s, dj, by omega, by omega, by go_num, HS, HPm, R3, S1⟩
                case measure => simp [intOf]; omega
        · have r1 : ¬ ((s : Int) < (n : Int)) := by omega
          have hw := Lib.hid (HR.out.whole (by omega))
          clear HR
          go_wp2
          go_end0
          exact HF.out _ _ S1.out HPm.out hw.out
end St
end Go.Proofs.Ytdlgdmbcbenlbaa
