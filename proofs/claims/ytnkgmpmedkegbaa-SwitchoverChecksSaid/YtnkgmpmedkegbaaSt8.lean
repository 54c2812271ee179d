/- symMerge at all sizes; the stable sort. -/
import Derived.Test.YtnkgmpmedkegbaaSt7
namespace Go.Proofs.Ytnkgmpmedkegbaa
open Go Go.RowKit Go.Sort Go.Shelf Go.Lib
namespace St
variable {P : Program} {k : Nat} {α : Type} [Inhabited α]
theorem symC_all (L : StP P k) (enc : α → List Value) (cf : α → α → Int) (hO : SWO (ltOf cf)) (g : Nat) (cb : Array Value) (blk cap : Nat) (d0 : Array α) (w0 : World)
    (eg : ∀ args w, (callFunc g args).run P w = .ok (.enter g args) w) (hcmp : CmpLays P g cb enc k cf blk 0 d0.size w0) (R : RowK enc k w0 blk 0 d0) : ∀ N, SymC P k enc cf g cb blk cap d0 w0 N := by
  intro N
  induction N with
  | zero => intro a m b d w hN _ _ h1 h2; omega
  | succ N ih =>
    intro a m b d w hN hs S ham hmb hb hsz
    by_cases c1 : m = a + 1
    · exact symMerge_one L enc cf hO g cb blk cap a m b d0 d w0 w eg hcmp R hs S c1 hmb hb hsz
    · by_cases c2 : b = m + 1
      · exact symMerge_last L enc cf hO g cb blk cap a m b d0 d w0 w eg hcmp R hs S (by omega) c2 hb hsz
      · exact symMerge_step L enc cf hO g cb blk cap d0 w0 eg hcmp R N ih a m b d w hN hs S (by omega) (by omega) hb hsz
theorem dvd_step {s p x : Nat} (h1 : s ∣ p) (h2 : s ∣ x) (h : p < x) : p + s ≤ x := by
  have := Nat.le_of_dvd (by omega) (Nat.dvd_sub h2 h1)
  omega
def RunsTo (lt : α → α → Bool) (s x : Nat) (d : Array α) : Prop := ∀ p, s ∣ p → p + s ≤ x → SortedIn lt p (p + s) d
def Runs (lt : α → α → Bool) (s n : Nat) (d : Array α) : Prop := ∀ p, s ∣ p → SortedIn lt p (min (p + s) n) d
structure Part2 (lt : α → α → Bool) (s x n : Nat) (d : Array α) : Prop where
  lo : ∀ p, 2 * s ∣ p → p + 2 * s ≤ x → SortedIn lt p (p + 2 * s) d
  hi : ∀ p, s ∣ p → x ≤ p → SortedIn lt p (min (p + s) n) d
theorem RunsTo.next {lt : α → α → Bool} {s x : Nat} {d d' : Array α} (h : RunsTo lt s x d) (hx : s ∣ x) (hp : PermIn x (x + s) d d') (hs : SortedIn lt x (x + s) d') : RunsTo lt s (x + s) d' := by
  intro p hd hle
  by_cases c : p < x
  · exact sorted_out hp (.inl (dvd_step hd hx c)) (h p hd (dvd_step hd hx c))
  · obtain rfl : p = x := by omega
    exact hs
theorem RunsTo.all {lt : α → α → Bool} {s x n : Nat} {d d' : Array α} (h : RunsTo lt s x d) (hx : s ∣ x) (hn : n < x + s) (hp : PermIn x n d d') (hs : SortedIn lt x n d') (hxn : x ≤ n) : Runs lt s n d' := by
  intro p hd
  by_cases c : p < x
  · have h1 := dvd_step hd hx c
    rw [show min (p + s) n = p + s by omega]
    exact sorted_out hp (.inl h1) (h p hd h1)
  · by_cases c2 : p = x
    · subst c2
      rw [show min (p + s) n = n by omega]; exact hs
    · have h1 := dvd_step hx hd (by omega)
      intro i j h2 h3 h4
      omega
theorem Runs.part {lt : α → α → Bool} {s n : Nat} {d : Array α} (h : Runs lt s n d) (h0 : 0 < s) : Part2 lt s 0 n d := ⟨fun p _ h => by omega, fun p hd _ => h p hd⟩
theorem dvd_two {s x : Nat} (h : 2 * s ∣ x) : s ∣ x := Nat.dvd_trans (Nat.dvd_mul_left s 2) h
theorem Part2.next {lt : α → α → Bool} {s x n : Nat} {d d' : Array α} (h : Part2 lt s x n d) (h0 : 0 < s) (hx : 2 * s ∣ x) (hn : x + 2 * s ≤ n) (hm : Merged lt d d' x (x + s) (x + 2 * s)) : Part2 lt s (x + 2 * s) n d' := by
  obtain ⟨hp, hm⟩ := hm
  have hsx := dvd_two hx
  have h1 := h.hi x hsx (Nat.le_refl _)
  have h2 := h.hi (x + s) (Nat.dvd_add hsx (Nat.dvd_refl s)) (by omega)
  rw [show min (x + s) n = x + s by omega] at h1
  rw [show min (x + s + s) n = x + 2 * s by omega] at h2
  refine ⟨fun p hd hle => ?_, fun p hd hle => sorted_out hp (.inr hle) (h.hi p hd (by omega))⟩
  by_cases c : p < x
  · have h3 := dvd_step hd hx c
    exact sorted_out hp (.inl h3) (h.lo p hd h3)
  · obtain rfl : p = x := by omega
    exact hm h1 h2
theorem Part2.all {lt : α → α → Bool} {s x n : Nat} {d d' : Array α} (h : Part2 lt s x n d) (hx : 2 * s ∣ x) (hxn : x ≤ n) (hn : n < x + 2 * s) (hp : PermIn x n d d') (hs : SortedIn lt x n d') : Runs lt (2 * s) n d' := by
  intro p hd
  by_cases c : p < x
  · have h3 := dvd_step hd hx c
    rw [show min (p + 2 * s) n = p + 2 * s by omega]
    exact sorted_out hp (.inl h3) (h.lo p hd h3)
  · by_cases c2 : p = x
    · subst c2
      rw [show min (p + 2 * s) n = n by omega]; exact hs
    · have h1 := dvd_step hx hd (by omega)
      intro i j h2 h3 h4
      omega
theorem Part2.last {lt : α → α → Bool} {s x n : Nat} {d d' : Array α} (h : Part2 lt s x n d) (h0 : 0 < s) (hx : 2 * s ∣ x) (hn : n < x + 2 * s) (hxs : x + s < n) (hm : Merged lt d d' x (x + s) n) : Runs lt (2 * s) n d' := by
  have hsx := dvd_two hx
  have h1 := h.hi x hsx (Nat.le_refl _)
  have h2 := h.hi (x + s) (Nat.dvd_add hsx (Nat.dvd_refl s)) (by omega)
  rw [show min (x + s) n = x + s by omega] at h1
  rw [show min (x + s + s) n = n by omega] at h2
  exact h.all hx (by omega) hn hm.1 (hm.2 h1 h2)
theorem Part2.none {lt : α → α → Bool} {s x n : Nat} {d : Array α} (h : Part2 lt s x n d) (h0 : 0 < s) (hx : 2 * s ∣ x) (hxn : x ≤ n) (hn : n ≤ x + s) : Runs lt (2 * s) n d := by
  have h1 := h.hi x (dvd_two hx) (Nat.le_refl _)
  rw [show min (x + s) n = n by omega] at h1
  exact h.all hx hxn (by omega) (permIn_refl _ _ _) h1
theorem Runs.whole {lt : α → α → Bool} {s n : Nat} {d : Array α} (h : Runs lt s n d) (hn : n ≤ s) : SortedIn lt 0 n d := by
  have := h 0 (Nat.dvd_zero s)
  rw [show min (0 + s) n = n by omega] at this
  exact this
def InsPost (enc : α → List Value) (k : Nat) (w0 : World) (blk : Nat) (cf : α → α → Int) (d : Array α) (a b : Nat) (e : Ending) (w' : World) : Prop := e = .returned (.tuple #[]) ∧ ∃ d', SWK enc k w0 blk 0 d' w' ∧ PermIn a b d d' ∧ SortedIn (ltOf cf) a b d'
set_option maxHeartbeats 8000000 in
set_option maxRecDepth 1000000 in
theorem stable_any (L : StP P k) (enc : α → List Value) (cf : α → α → Int) (hO : SWO (ltOf cf)) (g : Nat) (cb : Array Value) (blk cap : Nat) (d0 : Array α) (w0 : World)
    (eg : ∀ args w, (callFunc g args).run P w = .ok (.enter g args) w) (hcmp : CmpLays P g cb enc k cf blk 0 d0.size w0) (R : RowK enc k w0 blk 0 d0)
    (eIn : ∀ args w, (callFunc 87 args).run P w = .ok (.enter 87 args) w)
    (hIns : ∀ (a b : Nat) (d : Array α) (w : World), d.size = d0.size → SWK enc k w0 blk 0 d w → a ≤ b → b ≤ d.size → Calls P 87 #[.slice (some ⟨blk, 0, none⟩) d0.size cap, .int .i64 a, .int .i64 b, .func (.func g) #[] cb] w (InsPost enc k w0 blk cf d a b))
    (hsz : d0.size < 1152921504606846976) :
    Calls P 72 #[.slice (some ⟨blk, 0, none⟩) d0.size cap, .int .i64 (d0.size : Int), .func (.func g) #[] cb] w0 (InsPost enc k w0 blk cf d0 0 d0.size) := by
  have S0 : Aside (SWK enc k w0 blk 0 d0 w0) := SWK.start R.hH
  have cSy := fun (x y z : Nat) (dk : Array α) W (hz : dk.size = d0.size) (h : SWK enc k w0 blk 0 dk W) (h1 : x < y) (h2 : y < z) (h3 : z ≤ d0.size) => symC_all L enc cf hO g cb blk cap d0 w0 eg hcmp R (z - x) x y z dk W (Nat.le_refl _) hz.symm h h1 h2 (by omega) (by omega)
  have eSy : ∀ args w, (callFunc 88 args).run P w = .ok (.enter 88 args) w := enters_of L.fSy (by kernel_rfl) rfl
  obtain ⟨n, hn⟩ : ∃ n, n = d0.size := ⟨_, rfl⟩
  rw [← hn] at hIns hsz
  rw [← hn]
  have HF : Hid (∀ d' W, SWK enc k w0 blk 0 d' W → PermIn 0 n d0 d' → SortedIn (ltOf cf) 0 n d' → InsPost enc k w0 blk cf d0 0 n (.returned (.tuple #[])) W) := fun d' W h1 h2 h3 => ⟨rfl, d', h1, h2, h3⟩
  have HP : Hid (∀ (x z : Nat) (dk d' : Array α), z ≤ n → PermIn 0 n d0 dk → PermIn x z dk d' → PermIn 0 n d0 d' ∧ d'.size = d0.size) := fun x z dk d' hz h1 h2 => ⟨permIn_trans _ _ _ _ _ h1 (permIn_mono _ _ _ _ _ _ (Nat.zero_le _) hz (by rw [h1.1, ← hn]; exact Nat.le_refl _) h2), by rw [h2.1, h1.1]⟩
  have mixed := L.mixed; have t0 := L.t0; have a0 := L.a0; have z0 := L.z0; have v0 := L.v0; have t3 := L.t3; have a3 := L.a3; have z3 := L.z3; have v3 := L.v3; have t4 := L.t4; have a4 := L.a4; have z4 := L.z4; have v4 := L.v4; have t38 := L.t38; have a38 := L.a38; have z38 := L.z38; have v38 := L.v38; have t78 := L.t78; have a78 := L.a78; have z78 := L.z78; have v78 := L.v78
  have PR0 : Hid (PermIn 0 n d0 d0) := permIn_refl _ _ _
  clear hcmp hO
  replace hIns := Lib.hid hIns
  replace cSy := Lib.hid cSy
  replace hn := Lib.hid hn
  go_enter L.fSt, Try.ntmps72
  go_wp2_with fail
  go_loopw [7, 8] (fun va vb wr => ∃ (x : Nat) (dk : Array α), x ≤ n ∧ va = .int .i64 x ∧ vb = .int .i64 ((x : Int) + 20) ∧ Hid (20 ∣ x) ∧ Hid (dk.size = d0.size) ∧ Hid (PermIn 0 n d0 dk) ∧ Hid (RunsTo (ltOf cf) 20 x dk) ∧ Aside (SWK enc k w0 blk 0 dk wr)) (fun va _ _ => n - (intOf va).toNat)
  case atStart => exact ⟨0, d0, by omega, rfl, rfl, Nat.dvd_zero _, rfl, PR0, fun p _ h => by omega, S0⟩
  case round =>
    clear S0 PR0
    obtain ⟨x, dk, hxn, rfl, rfl, HD, HS, HPm, HR, S1⟩ := hrel
    by_cases hlt : x + 20 ≤ n
    · have hlt2 : (x : Int) + 20 ≤ (n : Int) := by omega
      have c := hIns.out x (x + 20) dk wr (HS.out.trans hn.out.symm) S1.out (by omega) (by rw [HS.out, ← hn.out]; exact hlt)
      rw [show ((x + 20 : Nat) : Int) = (x : Int) + 20 by omega] at c
      replace c := Lib.hid c
      go_wp2_with fail
      refine c.out.mono ?_
      rintro e w2 ⟨rfl, d', S2, P2, Q2⟩
      have S3 : Aside (SWK enc k w0 blk 0 d' w2) := S2
      obtain ⟨P3, z3'⟩ := HP.out x (x + 20) dk d' hlt HPm.out P2
      have R3 := Lib.hid (HR.out.next HD.out P2 Q2)
      have D3 : Hid (20 ∣ x + 20) := Nat.dvd_add HD.out (Nat.dvd_refl 20)
      clear S2 P2 Q2 S1 HR HPm HS HD
      replace P3 := Lib.hid P3
      replace z3' := Lib.hid z3'
      go_wp2
      go_roundw
      case rel => exact ⟨x + 20, d', hlt, by go_num, by go_num, D3, z3', P3, R3, S3⟩
      case measure => simp [intOf]; omega
    · have hlt2 : ¬ ((x : Int) + 20 ≤ (n : Int)) := by omega
      have c := hIns.out x n dk wr (HS.out.trans hn.out.symm) S1.out hxn (by rw [HS.out, ← hn.out]; exact Nat.le_refl _)
      replace c := Lib.hid c
      go_wp2_with fail
      refine c.out.mono ?_
      rintro e w2 ⟨rfl, d', S2, P2, Q2⟩
      have S3 : Aside (SWK enc k w0 blk 0 d' w2) := S2
      obtain ⟨P3, z3'⟩ := HP.out x n dk d' (Nat.le_refl _) HPm.out P2
      have R3 := Lib.hid (HR.out.all HD.out (by omega) P2 Q2 hxn)
      clear S2 P2 Q2 S1 HR HPm HS HD hlt hlt2
      replace P3 := Lib.hid P3
      replace z3' := Lib.hid z3'
      go_wp2_with fail
      go_loopw [6, 7, 8] (fun vs _ _ wr => ∃ (s : Nat) (dk : Array α), 20 ≤ s ∧ s ≤ 2305843009213693952 ∧ vs = .int .i64 s ∧ Hid (dk.size = d0.size) ∧ Hid (PermIn 0 n d0 dk) ∧ Hid (Runs (ltOf cf) s n dk) ∧ Aside (SWK enc k w0 blk 0 dk wr)) (fun vs _ _ _ => n - (intOf vs).toNat)
      case atStart => exact ⟨20, d', by omega, by omega, rfl, z3', P3, R3, S3⟩
      case round =>
        clear S3 P3 R3 z3'
        obtain ⟨s, dk, hs1, hs2, rfl, HS, HPm, HR, S1⟩ := hrel
        by_cases hlt : s < n
        · have r1 : (s : Int) < (n : Int) := by omega
          have Q0 := Lib.hid (HR.out.part (by omega))
          clear HR
          go_wp2_with fail
          go_loopw [7, 8] (fun va vb wr => ∃ (x : Nat) (dk : Array α), x ≤ n ∧ va = .int .i64 x ∧ vb = .int .i64 ((x : Int) + 2 * (s : Int)) ∧ Hid (2 * s ∣ x) ∧ Hid (dk.size = d0.size) ∧ Hid (PermIn 0 n d0 dk) ∧ Hid (Part2 (ltOf cf) s x n dk) ∧ Aside (SWK enc k w0 blk 0 dk wr)) (fun va _ _ => n - (intOf va).toNat)
          case atStart => exact ⟨0, dk, by omega, rfl, by simp, Nat.dvd_zero _, HS, HPm, Q0, S1⟩
          case round =>
            clear Q0 HS HPm S1
            obtain ⟨y, dj, hyn, rfl, rfl, HD, HS, HPm, HR, S1⟩ := hrel
            by_cases hle : y + 2 * s ≤ n
            · have r2 : (y : Int) + 2 * (s : Int) ≤ (n : Int) := by omega
              have c := cSy.out y (y + s) (y + 2 * s) dj wr HS.out S1.out (by omega) (by omega) (by have := hn.out; omega)
              rw [HS.out, ← hn.out, show ((y + s : Nat) : Int) = (y : Int) + (s : Int) by omega, show ((y + 2 * s : Nat) : Int) = (y : Int) + 2 * (s : Int) by omega] at c
              replace c := Lib.hid c
              go_wp2_with fail
              refine c.out.mono ?_
              rintro e w2 ⟨rfl, d', S2, M2⟩
              have S3 : Aside (SWK enc k w0 blk 0 d' w2) := S2
              obtain ⟨P3, z3'⟩ := HP.out y (y + 2 * s) dj d' hle HPm.out M2.1
              have R3 := Lib.hid (HR.out.next (by omega) HD.out hle M2)
              have D3 : Hid (2 * s ∣ y + 2 * s) := Nat.dvd_add HD.out (Nat.dvd_refl _)
              clear S2 M2 S1 HR HPm HS HD
              replace P3 := Lib.hid P3
              replace z3' := Lib.hid z3'
              go_wp2
              go_roundw
              case rel => exact ⟨y + 2 * s, d', hle, by go_num, by go_num, D3, z3', P3, R3, S3⟩
              case measure => simp [intOf]; omega
            · have r2 : ¬ ((y : Int) + 2 * (s : Int) ≤ (n : Int)) := by omega
              by_cases hm : y + s < n
              · have r3 : (y : Int) + (s : Int) < (n : Int) := by omega
                have c := cSy.out y (y + s) n dj wr HS.out S1.out (by omega) (by omega) (by have := hn.out; omega)
                rw [HS.out, ← hn.out, show ((y + s : Nat) : Int) = (y : Int) + (s : Int) by omega] at c
                replace c := Lib.hid c
                go_wp2_with fail
                refine c.out.mono ?_
                rintro e w2 ⟨rfl, d', S2, M2⟩
                have S3 : Aside (SWK enc k w0 blk 0 d' w2) := S2
                obtain ⟨P3, z3'⟩ := HP.out y n dj d' (Nat.le_refl _) HPm.out M2.1
                have R3 := Lib.hid (HR.out.last (by omega) HD.out (by omega) hm M2)
                clear S2 M2 S1 HR HPm HS HD
                replace P3 := Lib.hid P3
                replace z3' := Lib.hid z3'
                go_wp2
                go_roundw
                case rel => exact ⟨2 * s, d', by omega, by omega, by go_num, z3', P3, R3, S3⟩
                case measure => simp [intOf]; omega
              · have r3 : ¬ ((y : Int) + (s : Int) < (n : Int)) := by omega
                have R3 := Lib.hid (HR.out.none (by omega) HD.out hyn (by omega))
                clear HR HD
                go_wp2
                go_roundw
                case rel => exact ⟨2 * s, dj, by omega, by omega, by go_num, HS, HPm, R3, S1⟩
                case measure => simp [intOf]; omega
        · have r1 : ¬ ((s : Int) < (n : Int)) := by omega
          have hw := Lib.hid (HR.out.whole (by omega))
          clear HR
          go_wp2
          go_end0
          exact HF.out _ _ S1.out HPm.out hw.out
end St
end Go.Proofs.Ytnkgmpmedkegbaa
