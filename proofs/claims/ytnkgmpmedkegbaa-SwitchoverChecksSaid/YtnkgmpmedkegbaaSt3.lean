/- rotate. -/
import Derived.Test.YtnkgmpmedkegbaaSt2
namespace Go.Proofs.Ytnkgmpmedkegbaa
open Go Go.RowKit Go.Sort Go.Shelf Go.Lib
namespace St
variable {P : Program} {k : Nat} {α : Type} [Inhabited α]
/-- d' is d with [a, m) and [m, b) exchanged -/
structure Rotated (d d' : Array α) (a m b : Nat) : Prop where
  perm : PermIn a b d d'
  at_ : ∀ t, d'[t]! = d[rotI a m b t]!
def RotPost (enc : α → List Value) (k : Nat) (w0 : World) (blk : Nat) (d : Array α) (a m b : Nat) (e : Ending) (w' : World) : Prop := e = .returned (.tuple #[]) ∧ ∃ d', SWK enc k w0 blk 0 d' w' ∧ Rotated d d' a m b
set_option maxHeartbeats 4000000 in
set_option maxRecDepth 1000000 in
theorem rotate_any (L : StP P k) (enc : α → List Value) (g : Nat) (cb : Array Value) (blk cap a m b : Nat) (d0 d : Array α) (w0 w : World)
    (R : RowK enc k w0 blk 0 d0) (hs : d0.size = d.size) (S : SWK enc k w0 blk 0 d w) (ham : a < m) (hmb : m < b) (hb : b ≤ d.size) (hsz : d.size < 4611686018427387904) :
    Calls P 94 #[.slice (some ⟨blk, 0, none⟩) d.size cap, .int .i64 a, .int .i64 m, .int .i64 b, .func (.func g) #[] cb] w (RotPost enc k w0 blk d a m b) := by
  have mixed := L.mixed; have t0 := L.t0; have a0 := L.a0; have z0 := L.z0; have v0 := L.v0; have t3 := L.t3; have a3 := L.a3; have z3 := L.z3; have v3 := L.v3; have t4 := L.t4; have a4 := L.a4; have z4 := L.z4; have v4 := L.v4; have t38 := L.t38; have a38 := L.a38; have z38 := L.z38; have v38 := L.v38; have t78 := L.t78; have a78 := L.a78; have z78 := L.z78; have v78 := L.v78
  have eSw : ∀ args w, (callFunc 96 args).run P w = .ok (.enter 96 args) w := enters_of L.fSw (by kernel_rfl) rfl
  have S0 : Aside (SWK enc k w0 blk 0 d w) := S
  have cS := fun (dk : Array α) (h1 : dk.size = d.size) W (h : SWK enc k w0 blk 0 dk W) x y n (h2 : x + n ≤ y) (h3 : y + n ≤ dk.size) => swapRange_any L enc g cb blk cap x y n d0 dk w0 W R (by omega) h h2 h3 (by omega)
  clear S
  replace cS := Lib.hid cS
  go_enter L.fRo, Try.ntmps94
  go_wp2
  go_loopw [10, 11] (fun vi vj wr => ∃ (i j : Nat) (dk : Array α), 0 < i ∧ 0 < j ∧ i ≤ m - a ∧ j ≤ b - m ∧ vi = .int .i64 i ∧ vj = .int .i64 j ∧ dk.size = d.size ∧ Hid (PermIn a b d dk) ∧ Hid (∀ t, dk[rotI (m - i) m (m + j) t]! = d[rotI a m b t]!) ∧ Aside (SWK enc k w0 blk 0 dk wr)) (fun vi vj _ => (intOf vi).toNat + (intOf vj).toNat)
  case atStart =>
    have e1 : ((m : Int) - (a : Int)) = ((m - a : Nat) : Int) := by omega
    have e2 : ((b : Int) - (m : Int)) = ((b - m : Nat) : Int) := by omega
    refine ⟨m - a, b - m, d, by omega, by omega, Nat.le_refl _, Nat.le_refl _, by rw [e1], by rw [e2], rfl, permIn_refl _ _ _, fun t => ?_, S0⟩
    rw [show m - (m - a) = a by omega, show m + (b - m) = b by omega]
  case round =>
    clear S0
    obtain ⟨i, j, dk, hi, hj, him, hjm, rfl, rfl, hds, HP, HT, S1⟩ := hrel
    have e1 : (m : Int) - (i : Int) = ((m - i : Nat) : Int) := by omega
    have e2 : (m : Int) + (j : Int) - (i : Int) = ((m + j - i : Nat) : Int) := by omega
    rcases Nat.lt_trichotomy i j with hlt | heq | hgt
    · have c := cS.out dk hds wr S1.out (m - i) (m + j - i) i (by omega) (by omega)
      rw [hds] at c
      have hne : ((i : Int) != (j : Int)) = true := by rw [bne_iff_ne]; omega
      have hP2 : Hid (PermIn a b d (swapR dk (m - i) (m + j - i) i)) := permIn_trans _ _ _ _ _ HP.out (swapR_perm dk _ _ _ _ _ (by omega) (by omega) (by omega) (by omega))
      have hT2 : Hid (∀ t, (swapR dk (m - i) (m + j - i) i)[rotI (m - i) m (m + (j - i)) t]! = d[rotI a m b t]!) := fun t => by
        rw [swapR_get _ _ _ _ (by omega) (by omega), rot_lt m i j t hlt (by omega)]; exact HT.out t
      have e3 : (j : Int) - (i : Int) = ((j - i : Nat) : Int) := by omega
      rw [← e1, ← e2] at c
      replace c := Lib.hid c
      replace e1 := Lib.hid e1
      replace e2 := Lib.hid e2
      replace e3 := Lib.hid e3
      go_wp2_with fail
      refine c.out.mono ?_
      rintro e w2 ⟨rfl, S2⟩
      have S3 : Aside (SWK enc k w0 blk 0 (swapR dk (m - i) (m + j - i) i) w2) := S2
      clear S2
      go_wp2
      go_roundw
      case rel => exact ⟨i, j - i, _, hi, by omega, him, by omega, rfl, by rw [← e3.out], by rw [swapR_size]; exact hds, hP2, hT2, S3⟩
      case measure => simp [intOf]; omega
    · subst heq
      have c := cS.out dk hds wr S1.out (m - i) m i (by omega) (by omega)
      rw [hds] at c
      have hP2 : Hid (PermIn a b d (swapR dk (m - i) m i)) := permIn_trans _ _ _ _ _ HP.out (swapR_perm dk _ _ _ _ _ (by omega) (by omega) (by omega) (by omega))
      have hT2 : Hid (∀ t, (swapR dk (m - i) m i)[t]! = d[rotI a m b t]!) := fun t => by
        rw [swapR_get _ _ _ _ (by omega) (by omega), rot_eq m i t (by omega)]; exact HT.out t
      rw [← e1] at c
      replace c := Lib.hid c
      replace e1 := Lib.hid e1
      replace e2 := Lib.hid e2
      go_wp2_with fail
      refine c.out.mono ?_
      rintro e w2 ⟨rfl, S2⟩
      have S3 : Aside (SWK enc k w0 blk 0 (swapR dk (m - i) m i) w2) := S2
      clear S2
      go_wp2
      go_end0
      exact ⟨rfl, _, S3.out, hP2.out, hT2.out⟩
    · have c := cS.out dk hds wr S1.out (m - i) m j (by omega) (by omega)
      rw [hds] at c
      have hne : ((i : Int) != (j : Int)) = true := by rw [bne_iff_ne]; omega
      have hP2 : Hid (PermIn a b d (swapR dk (m - i) m j)) := permIn_trans _ _ _ _ _ HP.out (swapR_perm dk _ _ _ _ _ (by omega) (by omega) (by omega) (by omega))
      have hT2 : Hid (∀ t, (swapR dk (m - i) m j)[rotI (m - (i - j)) m (m + j) t]! = d[rotI a m b t]!) := fun t => by
        rw [swapR_get _ _ _ _ (by omega) (by omega), rot_gt m i j t hgt (by omega)]; exact HT.out t
      have e3 : (i : Int) - (j : Int) = ((i - j : Nat) : Int) := by omega
      rw [← e1] at c
      replace c := Lib.hid c
      replace e1 := Lib.hid e1
      replace e2 := Lib.hid e2
      replace e3 := Lib.hid e3
      go_wp2_with fail
      refine c.out.mono ?_
      rintro e w2 ⟨rfl, S2⟩
      have S3 : Aside (SWK enc k w0 blk 0 (swapR dk (m - i) m j) w2) := S2
      clear S2
      go_wp2
      go_roundw
      case rel => exact ⟨i - j, j, _, by omega, hj, by omega, hjm, by rw [← e3.out], rfl, by rw [swapR_size]; exact hds, hP2, hT2, S3⟩
      case measure => simp [intOf]; omega
end St
end Go.Proofs.Ytnkgmpmedkegbaa
