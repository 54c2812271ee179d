/- Plain laws of the stable sort: exchanges of ranges, rotations, merging. -/
import Derived.Sort.LotA
import Derived.Test.YtdlgdmbcbenlbaaKa
import Derived.Shelf.SlSortCmp.ReverseRangeK
set_option linter.unusedVariables false
set_option linter.unusedSimpArgs false
namespace Go.Proofs.Ytdlgdmbcbenlbaa
open Go Go.Sort
namespace St
variable {α : Type} [Inhabited α]
def swI (a b n t : Nat) : Nat := if a ≤ t ∧ t < a + n then t - a + b else if b ≤ t ∧ t < b + n then t - b + a else t
def swapR (d : Array α) (a b : Nat) : Nat → Array α
  | 0 => d
  | n + 1 => swp (swapR d a b n) (a + n) (b + n)
theorem swapR_size (d : Array α) (a b n : Nat) : (swapR d a b n).size = d.size := by
  induction n with
  | zero => rfl
  | succ n ih => simp only [swapR, size_swp, ih]
theorem swapR_get (d : Array α) (a b n : Nat) (h1 : a + n ≤ b) (h2 : b + n ≤ d.size) (t : Nat) : (swapR d a b n)[t]! = d[swI a b n t]! := by
  induction n generalizing t with
  | zero =>
    unfold swI
    rw [if_neg (by omega), if_neg (by omega)]; rfl
  | succ n ih =>
    have ih' := ih (by omega) (by omega)
    simp only [swapR]
    rw [swp_get _ (by rw [swapR_size]; omega) (by rw [swapR_size]; omega)]
    by_cases e1 : t = b + n
    · rw [if_pos e1, ih']
      unfold swI
      rw [if_neg (by omega), if_neg (by omega), if_neg (by omega), if_pos (by omega), e1]
      congr 1; omega
    · rw [if_neg e1]
      by_cases e2 : t = a + n
      · rw [if_pos e2, ih']
        unfold swI
        rw [if_neg (by omega), if_neg (by omega), if_pos (by omega), e2]
        congr 1; omega
      · rw [if_neg e2, ih']
        unfold swI
        by_cases c1 : a ≤ t ∧ t < a + n
        · rw [if_pos c1, if_pos (by omega)]
        · by_cases c2 : b ≤ t ∧ t < b + n
          · rw [if_neg c1, if_pos c2, if_neg (by omega), if_pos (by omega)]
          · rw [if_neg c1, if_neg c2, if_neg (by omega), if_neg (by omega)]
theorem swapR_perm (d : Array α) (a b n lo hi : Nat) (h0 : lo ≤ a) (h1 : a + n ≤ b) (h2 : b + n ≤ hi) (h3 : hi ≤ d.size) : PermIn lo hi d (swapR d a b n) := by
  induction n with
  | zero => exact permIn_refl _ _ _
  | succ n ih =>
    simp only [swapR]
    exact permIn_trans _ _ _ _ _ (ih (by omega) (by omega)) (swp_permIn _ _ _ _ _ (by omega) (by omega) (by omega) (by omega) (by rw [swapR_size]; exact h3))
def rotI (a m b t : Nat) : Nat := if a ≤ t ∧ t < a + (b - m) then t + (m - a) else if a + (b - m) ≤ t ∧ t < b then t - (b - m) else t
theorem rotI_cases (a m b t : Nat) : (a ≤ t ∧ t < a + (b - m) ∧ rotI a m b t = t + (m - a)) ∨ (a + (b - m) ≤ t ∧ t < b ∧ rotI a m b t = t - (b - m)) ∨ (¬ (a ≤ t ∧ t < a + (b - m)) ∧ ¬ (a + (b - m) ≤ t ∧ t < b) ∧ rotI a m b t = t) := by
  unfold rotI
  by_cases h1 : a ≤ t ∧ t < a + (b - m)
  · rw [if_pos h1]; exact .inl ⟨h1.1, h1.2, rfl⟩
  · rw [if_neg h1]
    by_cases h2 : a + (b - m) ≤ t ∧ t < b
    · rw [if_pos h2]; exact .inr (.inl ⟨h2.1, h2.2, rfl⟩)
    · rw [if_neg h2]; exact .inr (.inr ⟨h1, h2, rfl⟩)
theorem swI_cases (a b n t : Nat) : (a ≤ t ∧ t < a + n ∧ swI a b n t = t - a + b) ∨ (¬ (a ≤ t ∧ t < a + n) ∧ b ≤ t ∧ t < b + n ∧ swI a b n t = t - b + a) ∨ (¬ (a ≤ t ∧ t < a + n) ∧ ¬ (b ≤ t ∧ t < b + n) ∧ swI a b n t = t) := by
  unfold swI
  by_cases h1 : a ≤ t ∧ t < a + n
  · rw [if_pos h1]; exact .inl ⟨h1.1, h1.2, rfl⟩
  · rw [if_neg h1]
    by_cases h2 : b ≤ t ∧ t < b + n
    · rw [if_pos h2]; exact .inr (.inl ⟨h1, h2.1, h2.2, rfl⟩)
    · rw [if_neg h2]; exact .inr (.inr ⟨h1, h2, rfl⟩)
theorem rot_gt (m i j t : Nat) (h : j < i) (hm : i ≤ m) : swI (m - i) m j (rotI (m - (i - j)) m (m + j) t) = rotI (m - i) m (m + j) t := by
  have h1 := rotI_cases (m - (i - j)) m (m + j) t
  have h2 := rotI_cases (m - i) m (m + j) t
  generalize rotI (m - (i - j)) m (m + j) t = x at *
  have h3 := swI_cases (m - i) m j x
  omega
theorem rot_lt (m i j t : Nat) (h : i < j) (hm : i ≤ m) : swI (m - i) (m + j - i) i (rotI (m - i) m (m + (j - i)) t) = rotI (m - i) m (m + j) t := by
  have h1 := rotI_cases (m - i) m (m + (j - i)) t
  have h2 := rotI_cases (m - i) m (m + j) t
  generalize rotI (m - i) m (m + (j - i)) t = x at *
  have h3 := swI_cases (m - i) (m + j - i) i x
  omega
theorem rot_eq (m i t : Nat) (hm : i ≤ m) : swI (m - i) m i t = rotI (m - i) m (m + i) t := by
  have h1 := rotI_cases (m - i) m (m + i) t
  have h2 := swI_cases (m - i) m i t
  omega
/-- one ascending range out of two: what is wanted of symMerge -/
def Merged (lt : α → α → Bool) (d d' : Array α) (a m b : Nat) : Prop := PermIn a b d d' ∧ (SortedIn lt a m d → SortedIn lt m b d → SortedIn lt a b d')
end St
end Go.Proofs.Ytdlgdmbcbenlbaa
namespace Go.Proofs.Ytdlgdmbcbenlbaa
open Go Go.RowKit Go.Sort Go.Shelf Go.Lib
namespace St
/-- what is asked of the program -/
structure StP (P : Program) (k : Nat) : Prop where
  mixed : P.follows Departure.mixedOrders = true
  t0 : P.underlying 0 = some (TypeDesc.tuple #[])
  a0 : ∀ w, (isAgg 0).run P w = .ok false w
  z0 : ∀ w, (Go.sizeOf 0).run P w = .ok 1 w
  v0 : ∀ w, (zeroValue 0).run P w = .ok (Value.tuple #[]) w
  t3 : P.underlying 3 = some (TypeDesc.int IntKind.i64)
  a3 : ∀ w, (isAgg 3).run P w = .ok false w
  z3 : ∀ w, (Go.sizeOf 3).run P w = .ok 1 w
  v3 : ∀ w, (zeroValue 3).run P w = .ok (Value.int IntKind.i64 0) w
  t4 : P.underlying 4 = some TypeDesc.bool
  a4 : ∀ w, (isAgg 4).run P w = .ok false w
  z4 : ∀ w, (Go.sizeOf 4).run P w = .ok 1 w
  v4 : ∀ w, (zeroValue 4).run P w = .ok (Value.bool false) w
  t38 : P.underlying 38 = some (TypeDesc.slice 45)
  a38 : ∀ w, (isAgg 38).run P w = .ok false w
  z38 : ∀ w, (Go.sizeOf 38).run P w = .ok 1 w
  v38 : ∀ w, (zeroValue 38).run P w = .ok (Value.slice none 0 0) w
  t78 : P.underlying 78 = some (TypeDesc.func #[45, 45] #[3] false)
  a78 : ∀ w, (isAgg 78).run P w = .ok false w
  z78 : ∀ w, (Go.sizeOf 78).run P w = .ok 1 w
  v78 : ∀ w, (zeroValue 78).run P w = .ok (Value.nilFunc) w
  t94 : P.underlying 94 = some (TypeDesc.int IntKind.u64)
  a94 : ∀ w, (isAgg 94).run P w = .ok false w
  z94 : ∀ w, (Go.sizeOf 94).run P w = .ok 1 w
  v94 : ∀ w, (zeroValue 94).run P w = .ok (Value.int IntKind.u64 0) w
  aE : ∀ w, (isAgg 45).run P w = .ok true w
  zE : ∀ w, (Go.sizeOf 45).run P w = .ok k w
  fSw : P.funcs[96]? = some Try.f96
  fRo : P.funcs[94]? = some Try.f94
  fSy : P.funcs[88]? = some Try.f88
  fSt : P.funcs[72]? = some Try.f72
variable {P : Program} {k : Nat} {α : Type} [Inhabited α]
set_option maxHeartbeats 4000000 in
set_option maxRecDepth 1000000 in
theorem swapRange_any (L : StP P k) (enc : α → List Value) (g : Nat) (cb : Array Value) (blk cap a b n : Nat) (d0 d : Array α) (w0 w : World)
    (R : RowK enc k w0 blk 0 d0) (hs : d0.size = d.size) (S : SWK enc k w0 blk 0 d w) (hab : a + n ≤ b) (hb : b + n ≤ d.size) (hsz : d.size < 4611686018427387904) :
    Calls P 96 #[.slice (some ⟨blk, 0, none⟩) d.size cap, .int .i64 a, .int .i64 b, .int .i64 n, .func (.func g) #[] cb] w fun e w' => e = .returned (.tuple #[]) ∧ SWK enc k w0 blk 0 (swapR d a b n) w' := by
  have mixed := L.mixed; have t0 := L.t0; have a0 := L.a0; have z0 := L.z0; have v0 := L.v0; have t3 := L.t3; have a3 := L.a3; have z3 := L.z3; have v3 := L.v3; have t4 := L.t4; have a4 := L.a4; have z4 := L.z4; have v4 := L.v4; have t38 := L.t38; have a38 := L.a38; have z38 := L.z38; have v38 := L.v38; have t78 := L.t78; have a78 := L.a78; have z78 := L.z78; have v78 := L.v78
  have aE := L.aE
  have zE := L.zE
  have S0 : Aside (SWK enc k w0 blk 0 d w) := S
  clear S
  go_enter L.fSw, Try.ntmps96
  go_wp2
  go_loopw [10] (fun i wr => ∃ (t : Nat) (dk : Array α), t ≤ n ∧ i = .int .i64 t ∧ Hid (dk = swapR d a b t) ∧ Aside (SWK enc k w0 blk 0 dk wr)) (fun i _ => n - (intOf i).toNat)
  case atStart => exact ⟨0, d, by omega, rfl, rfl, S0⟩
  case round =>
    clear S0
    obtain ⟨t, dk, hk, rfl, hdk, S1⟩ := hrel
    have hds : dk.size = d.size := by rw [hdk.out, swapR_size]
    by_cases hlt : t < n
    · have r1 : (t : Int) < (n : Int) := by omega
      go_wp2_with fail
      have ea : ((a : Int) + (t : Int)).toNat = a + t := by omega
      have pa : (0 : Int) ≤ (a : Int) + (t : Int) := by omega
      have ba : (a : Int) + (t : Int) < (d.size : Int) := by omega
      have ra : IntKind.i64.wrap ((a : Int) + (t : Int)) = (a : Int) + (t : Int) := by rw [IntKind.wrap_i64]; omega
      have ec : ((b : Int) + (t : Int)).toNat = b + t := by omega
      have pc : (0 : Int) ≤ (b : Int) + (t : Int) := by omega
      have bc : (b : Int) + (t : Int) < (d.size : Int) := by omega
      have rc : IntKind.i64.wrap ((b : Int) + (t : Int)) = (b : Int) + (t : Int) := by rw [IntKind.wrap_i64]; omega
      have S2 : Aside (SWK enc k w0 blk 0 (swp dk (a + t) (b + t)) ((wr.drew.setCells blk (0 + (a + t) * k) (enc dk[b + t]!)).setCells blk (0 + (b + t) * k) (enc dk[a + t]!))) := S1.out.swapped R (a + t) (b + t) (by omega) (by omega)
      have la := S1.out.ld1 R (by omega) P (a + t) (by omega)
      have lb := S1.out.ld1 R (by omega) P (b + t) (by omega)
      have sa := S1.out.st1 R (by omega) P (a + t) (by omega) dk[b + t]!
      have sb := S1.out.st2 R (by omega) P (a + t) (b + t) (by omega) (by omega) dk[b + t]! dk[a + t]!
      have na : (enc dk[a + t]!).length = k := R.hk _
      have nb : (enc dk[b + t]!).length = k := R.hk _
      have hd2 : Hid (swp dk (a + t) (b + t) = swapR d a b (t + 1)) := by show _ = _; rw [hdk.out]; rfl
      generalize enc dk[a + t]! = cI at S2 la sb na
      generalize enc dk[b + t]! = cJ at S2 lb sa sb nb
      simp only [Nat.zero_add] at la lb sa sb S2
      clear S1
      go_big_region_o
      clear la lb sa sb
      generalize (wr.drew.setCells blk ((a + t) * k) cJ).setCells blk ((b + t) * k) cI = w2 at S2 ⊢
      go_wp2
      go_roundw
      case rel => exact ⟨t + 1, _, by omega, by go_num, hd2, S2⟩
      case measure => simp [intOf]; omega
    · obtain rfl : t = n := by omega
      go_wp2
      go_end0
      exact ⟨rfl, hdk.out ▸ S1.out⟩
end St
end Go.Proofs.Ytdlgdmbcbenlbaa
namespace Go.Proofs.Ytdlgdmbcbenlbaa
open Go Go.RowKit Go.Sort Go.Shelf Go.Lib
namespace St
variable {P : Program} {k : Nat} {α : Type} [Inhabited α]
/-- d' is d with [a, m) and [m, b) exchanged -/
structure Rotated (d d' : Array α) (a m b : Nat) : Prop where
  perm : PermIn a b d d'
  at_ : ∀ t, d'[t]! = d[rotI a m b t]!
def RotPost (enc : α → List Value) (k : Nat) (w0 : World) (blk : Nat) (d : Array α) (a m b : Nat) (e : Ending) (w' : World) : Prop := e = .returned (.tuple #[]) ∧ ∃ d', SWK enc k w0 blk 0 d' w' ∧ Rotated d d' a m b
set_option maxHeartbeats 4000000 in
set_option maxRecDepth 1000000 in
theorem rotate_any (L : StP P k) (enc : α → List Value) (g : Nat) (cb : Array Value) (blk cap a m b : Nat) (d0 d : Array α) (w0 w : World)
    (R : RowK enc k w0 blk 0 d0) (hs : d0.size = d.size) (S : SWK enc k w0 blk 0 d w) (ham : a < m) (hmb : m < b) (hb : b ≤ d.size) (hsz : d.size < 4611686018427387904) :
    Calls P 94 #[.slice (some ⟨blk, 0, none⟩) d.size cap, .int .i64 a, .int .i64 m, .int .i64 b, .func (.func g) #[] cb] w (RotPost enc k w0 blk d a m b) := by
  have mixed := L.mixed; have t0 := L.t0; have a0 := L.a0; have z0 := L.z0; have v0 := L.v0; have t3 := L.t3; have a3 := L.a3; have z3 := L.z3; have v3 := L.v3; have t4 := L.t4; have a4 := L.a4; have z4 := L.z4; have v4 := L.v4; have t38 := L.t38; have a38 := L.a38; have z38 := L.z38; have v38 := L.v38; have t78 := L.t78; have a78 := L.a78; have z78 := L.z78; have v78 := L.v78
  have eSw : ∀ args w, (callFunc 96 args).run P w = .ok (.enter 96 args) w := enters_of L.fSw (by kernel_rfl) rfl
  have S0 : Aside (SWK enc k w0 blk 0 d w) := S
  have cS := fun (dk : Array α) (h1 : dk.size = d.size) W (h : SWK enc k w0 blk 0 dk W) x y n (h2 : x + n ≤ y) (h3 : y + n ≤ dk.size) => swapRange_any L enc g cb blk cap x y n d0 dk w0 W R (by omega) h h2 h3 (by omega)
  clear S
  replace cS := Lib.hid cS
  go_enter L.fRo, Try.ntmps94
  go_wp2
  go_loopw [10, 11] (fun vi vj wr => ∃ (i j : Nat) (dk : Array α), 0 < i ∧ 0 < j ∧ i ≤ m - a ∧ j ≤ b - m ∧ vi = .int .i64 i ∧ vj = .int .i64 j ∧ dk.size = d.size ∧ Hid (PermIn a b d dk) ∧ Hid (∀ t, dk[rotI (m - i) m (m + j) t]! = d[rotI a m b t]!) ∧ Aside (SWK enc k w0 blk 0 dk wr)) (fun vi vj _ => (intOf vi).toNat + (intOf vj).toNat)
  case atStart =>
    have e1 : ((m : Int) - (a : Int)) = ((m - a : Nat) : Int) := by omega
    have e2 : ((b : Int) - (m : Int)) = ((b - m : Nat) : Int) := by omega
    refine ⟨m - a, b - m, d, by omega, by omega, Nat.le_refl _, Nat.le_refl _, by rw [e1], by rw [e2], rfl, permIn_refl _ _ _, fun t => ?_, S0⟩
    rw [show m - (m - a) = a by omega, show m + (b - m) = b by omega]
  case round =>
    clear S0
    obtain ⟨i, j, dk, hi, hj, him, hjm, rfl, rfl, hds, HP, HT, S1⟩ := hrel
    have e1 : (m : Int) - (i : Int) = ((m - i : Nat) : Int) := by omega
    have e2 : (m : Int) + (j : Int) - (i : Int) = ((m + j - i : Nat) : Int) := by omega
    rcases Nat.lt_trichotomy i j with hlt | heq | hgt
    · have c := cS.out dk hds wr S1.out (m - i) (m + j - i) i (by omega) (by omega)
      rw [hds] at c
      have hne : ((i : Int) != (j : Int)) = true := by rw [bne_iff_ne]; omega
      have hP2 : Hid (PermIn a b d (swapR dk (m - i) (m + j - i) i)) := permIn_trans _ _ _ _ _ HP.out (swapR_perm dk _ _ _ _ _ (by omega) (by omega) (by omega) (by omega))
      have hT2 : Hid (∀ t, (swapR dk (m - i) (m + j - i) i)[rotI (m - i) m (m + (j - i)) t]! = d[rotI a m b t]!) := fun t => by
        rw [swapR_get _ _ _ _ (by omega) (by omega), rot_lt m i j t hlt (by omega)]; exact HT.out t
      have e3 : (j : Int) - (i : Int) = ((j - i : Nat) : Int) := by omega
      rw [← e1, ← e2] at c
      replace c := Lib.hid c
      replace e1 := Lib.hid e1
      replace e2 := Lib.hid e2
      replace e3 := Lib.hid e3
      go_wp2_with fail
      refine c.out.mono ?_
      rintro e w2 ⟨rfl, S2⟩
      have S3 : Aside (SWK enc k w0 blk 0 (swapR dk (m - i) (m + j - i) i) w2) := S2
      clear S2
      go_wp2
      go_roundw
      case rel => exact ⟨i, j - i, _, hi, by omega, him, by omega, rfl, by rw [← e3.out], by rw [swapR_size]; exact hds, hP2, hT2, S3⟩
      case measure => simp [intOf]; omega
    · subst heq
      have c := cS.out dk hds wr S1.out (m - i) m i (by omega) (by omega)
      rw [hds] at c
      have hP2 : Hid (PermIn a b d (swapR dk (m - i) m i)) := permIn_trans _ _ _ _ _ HP.out (swapR_perm dk _ _ _ _ _ (by omega) (by omega) (by omega) (by omega))
      have hT2 : Hid (∀ t, (swapR dk (m - i) m i)[t]! = d[rotI a m b t]!) := fun t => by
        rw [swapR_get _ _ _ _ (by omega) (by omega), rot_eq m i t (by omega)]; exact HT.out t
      rw [← e1] at c
      replace c := Lib.hid c
      replace e1 := Lib.hid e1
      replace e2 := Lib.hid e2
      go_wp2_with fail
      refine c.out.mono ?_
      rintro e w2 ⟨rfl, S2⟩
      have S3 : Aside (SWK enc k w0 blk 0 (swapR dk (m - i) m i) w2) := S2
      clear S2
      go_wp2
      go_end0
      exact ⟨rfl, _, S3.out, hP2.out, hT2.out⟩
    · have c := cS.out dk hds wr S1.out (m - i) m j (by omega) (by omega)
      rw [hds] at c
      have hne : ((i : Int) != (j : Int)) = true := by rw [bne_iff_ne]; omega
      have hP2 : Hid (PermIn a b d (swapR dk (m - i) m j)) := permIn_trans _ _ _ _ _ HP.out (swapR_perm dk _ _ _ _ _ (by omega) (by omega) (by omega) (by omega))
      have hT2 : Hid (∀ t, (swapR dk (m - i) m j)[rotI (m - (i - j)) m (m + j) t]! = d[rotI a m b t]!) := fun t => by
        rw [swapR_get _ _ _ _ (by omega) (by omega), rot_gt m i j t hgt (by omega)]; exact HT.out t
      have e3 : (i : Int) - (j : Int) = ((i - j : Nat) : Int) := by omega
      rw [← e1] at c
      replace c := Lib.hid c
      replace e1 := Lib.hid e1
      replace e2 := Lib.hid e2
      replace e3 := Lib.hid e3
      go_wp2_with fail
      refine c.out.mono ?_
      rintro e w2 ⟨rfl, S2⟩
      have S3 : Aside (SWK enc k w0 blk 0 (swapR dk (m - i) m j) w2) := S2
      clear S2
      go_wp2
      go_roundw
      case rel => exact ⟨i - j, j, _, by omega, hj, by omega, hjm, by rw [← e3.out], rfl, by rw [swapR_size]; exact hds, hP2, hT2, S3⟩
      case measure => simp [intOf]; omega
end St
end Go.Proofs.Ytdlgdmbcbenlbaa
namespace Go.Proofs.Ytdlgdmbcbenlbaa
open Go Go.RowKit Go.Sort Go.Shelf Go.Lib
namespace St
variable {α : Type} [Inhabited α] {lt : α → α → Bool}
omit [Inhabited α] in
theorem le_trans3 (hO : SWO lt) {x y z : α} (h1 : lt y x = false) (h2 : lt z y = false) : lt z x = false := hO.ntrans z y x h2 h1
omit [Inhabited α] in
theorem le_of_lt (hO : SWO lt) {x y : α} (h : lt x y = true) : lt y x = false := by
  cases h2 : lt y x with
  | false => rfl
  | true => have := hO.trans x y x h h2; rw [hO.irrefl] at this; exact this.symm
theorem sorted_le {d : Array α} {a b p q : Nat} (hO : SWO lt) (h : SortedIn lt a b d) (hp : a ≤ p) (hpq : p ≤ q) (hq : q < b) : lt d[q]! d[p]! = false := by
  rcases Nat.lt_or_ge p q with h1 | h1
  · exact h p q hp h1 hq
  · obtain rfl : p = q := by omega
    exact hO.irrefl _
/-- behind a rotation of [s, m) and [m, e) -/
structure Split (lt : α → α → Bool) (d : Array α) (a s m e b : Nat) : Prop where
  has : a ≤ s
  hsm : s ≤ m
  hme : m ≤ e
  heb : e ≤ b
  s1 : SortedIn lt a m d
  s2 : SortedIn lt m b d
  xy : ∀ x y, m ≤ x → x < e → s ≤ y → y < m → lt d[y]! d[x]! = false
  lz : ∀ x z, a ≤ x → x < s → e ≤ z → z < b → lt d[z]! d[x]! = false
theorem Split.runs {d d' : Array α} {a s m e b : Nat} (H : Split lt d a s m e b) (R : Rotated d d' s m e) :
    SortedIn lt a s d' ∧ SortedIn lt s (s + (e - m)) d' ∧ SortedIn lt (s + (e - m)) e d' ∧ SortedIn lt e b d' ∧ ∀ p q, a ≤ p → p < s + (e - m) → s + (e - m) ≤ q → q < b → lt d'[q]! d'[p]! = false := by
  obtain ⟨has, hsm, hme, heb, s1, s2, xy, lz⟩ := H
  have I := fun t => rotI_cases s m e t
  refine ⟨fun p q h1 h2 h3 => ?_, fun p q h1 h2 h3 => ?_, fun p q h1 h2 h3 => ?_, fun p q h1 h2 h3 => ?_, fun p q h1 h2 h3 h4 => ?_⟩
  · rw [R.at_, R.at_]
    have e1 : rotI s m e p = p := by have := I p; omega
    have e2 : rotI s m e q = q := by have := I q; omega
    rw [e1, e2]
    exact s1 p q h1 h2 (by omega)
  · rw [R.at_, R.at_]
    have e1 : rotI s m e p = p + (m - s) := by have := I p; omega
    have e2 : rotI s m e q = q + (m - s) := by have := I q; omega
    rw [e1, e2]
    exact s2 _ _ (by omega) (by omega) (by omega)
  · rw [R.at_, R.at_]
    have e1 : rotI s m e p = p - (e - m) := by have := I p; omega
    have e2 : rotI s m e q = q - (e - m) := by have := I q; omega
    rw [e1, e2]
    exact s1 _ _ (by omega) (by omega) (by omega)
  · rw [R.at_, R.at_]
    have e1 : rotI s m e p = p := by have := I p; omega
    have e2 : rotI s m e q = q := by have := I q; omega
    rw [e1, e2]
    exact s2 p q (by omega) h2 h3
  · rw [R.at_, R.at_]
    by_cases c1 : p < s
    · have e1 : rotI s m e p = p := by have := I p; omega
      rw [e1]
      by_cases c2 : q < e
      · have e2 : rotI s m e q = q - (e - m) := by have := I q; omega
        rw [e2]
        exact s1 p _ h1 (by omega) (by omega)
      · have e2 : rotI s m e q = q := by have := I q; omega
        rw [e2]
        exact lz p q h1 c1 (by omega) h4
    · have e1 : rotI s m e p = p + (m - s) := by have := I p; omega
      rw [e1]
      by_cases c2 : q < e
      · have e2 : rotI s m e q = q - (e - m) := by have := I q; omega
        rw [e2]
        exact xy _ _ (by omega) (by omega) (by omega) (by omega)
      · have e2 : rotI s m e q = q := by have := I q; omega
        rw [e2]
        exact s2 _ q (by omega) (by omega) h4
/-- both halves sorted, and the left one not above the right one -/
theorem halves_sorted {d : Array α} {a c b : Nat} (h1 : SortedIn lt a c d) (h2 : SortedIn lt c b d) (h : ∀ p q, a ≤ p → p < c → c ≤ q → q < b → lt d[q]! d[p]! = false) : SortedIn lt a b d := by
  intro p q hp hpq hq
  by_cases c1 : q < c
  · exact h1 p q hp hpq c1
  · by_cases c2 : p < c
    · exact h p q hp c2 (by omega) hq
    · exact h2 p q (by omega) hpq hq
theorem perm_val {d d' : Array α} {a b : Nat} (h : PermIn a b d d') (hb : b ≤ d.size) {q : Nat} (h1 : a ≤ q) (h2 : q < b) : ∃ q', a ≤ q' ∧ q' < b ∧ d'[q]! = d[q']! := by
  obtain ⟨hs, _, hp⟩ := h
  have hm : d'[q]! ∈ (d'.extract a b).toList := by
    rw [getElem!_pos d' q (by omega)]
    rw [Array.mem_toList_iff, Array.mem_iff_getElem]
    refine ⟨q - a, by simp; omega, ?_⟩
    simp only [Array.getElem_extract]
    congr 1; omega
  have hm2 := hp.mem_iff.1 hm
  rw [Array.mem_toList_iff, Array.mem_iff_getElem] at hm2
  obtain ⟨i, hi, he⟩ := hm2
  simp at hi
  simp only [Array.getElem_extract] at he
  refine ⟨a + i, by omega, by omega, ?_⟩
  rw [getElem!_pos d (a + i) (by omega), he]
theorem sorted_out {d d' : Array α} {a b x y : Nat} (h : PermIn a b d d') (ho : y ≤ a ∨ b ≤ x) (hs : SortedIn lt x y d) : SortedIn lt x y d' := by
  intro p q h1 h2 h3
  rw [h.2.1 p (by omega), h.2.1 q (by omega)]
  exact hs p q h1 h2 h3
/-- the whole of symMerge behind its rotation -/
theorem merged_of {d d1 d2 d3 : Array α} {a s m e b : Nat} (hb : b ≤ d.size) (has : a ≤ s) (hsm : s ≤ m) (hme : m ≤ e) (heb : e ≤ b)
    (H : SortedIn lt a m d → SortedIn lt m b d → Split lt d a s m e b) (R : Rotated d d1 s m e)
    (M1 : Merged lt d1 d2 a s (s + (e - m))) (M2 : Merged lt d2 d3 (s + (e - m)) e b) : Merged lt d d3 a m b := by
  have hc : s + (e - m) ≤ e := by omega
  have p1 : PermIn a b d d1 := permIn_mono _ _ _ _ _ _ has heb (by first | exact hb | omega) R.perm
  have z1 : d1.size = d.size := p1.1
  have p2 : PermIn a b d1 d2 := permIn_mono _ _ _ _ _ _ (Nat.le_refl _) (by omega) (by omega) M1.1
  have z2 : d2.size = d1.size := p2.1
  have p3 : PermIn a b d2 d3 := permIn_mono _ _ _ _ _ _ (by omega) (Nat.le_refl _) (by omega) M2.1
  refine ⟨permIn_trans _ _ _ _ _ (permIn_trans _ _ _ _ _ p1 p2) p3, fun h1 h2 => ?_⟩
  obtain ⟨r1, r2, r3, r4, r5⟩ := (H h1 h2).runs R
  have q1 := M1.2 r1 r2
  have q2 := M2.2 (sorted_out M1.1 (.inr (Nat.le_refl _)) r3) (sorted_out M1.1 (.inr hc) r4)
  refine halves_sorted (sorted_out M2.1 (.inl (Nat.le_refl _)) q1) q2 fun p q hp hpc hcq hq => ?_
  rw [M2.1.2.1 p (.inl hpc)]
  obtain ⟨q', k1, k2, k3⟩ := perm_val M2.1 (by omega) hcq hq
  rw [k3, M1.1.2.1 q' (.inr k1)]
  obtain ⟨p', k4, k5, k6⟩ := perm_val M1.1 (by omega) hp hpc
  rw [k6]
  exact r5 p' q' k4 k5 k1 k2
/-- one element ahead of a run -/
theorem ins_left (hO : SWO lt) {d d1 : Array α} {a i b : Nat} (hb : b ≤ d.size) (h1 : a + 1 ≤ i) (h2 : i ≤ b) (f1 : i = a + 1 ∨ lt d[i - 1]! d[a]! = true) (f2 : i = b ∨ lt d[i]! d[a]! = false) (R : Rotated d d1 a (a + 1) i) : Merged lt d d1 a (a + 1) b := by
  refine ⟨permIn_mono _ _ _ _ _ _ (Nat.le_refl _) h2 hb R.perm, fun s1 s2 => ?_⟩
  have H : Split lt d a a (a + 1) i b := ⟨Nat.le_refl _, by omega, h1, h2, s1, s2, fun x y g1 g2 g3 g4 => by
    obtain rfl : y = a := by omega
    rcases f1 with f1 | f1
    · omega
    · exact le_trans3 hO (sorted_le hO s2 g1 (show x ≤ i - 1 by omega) (by omega)) (le_of_lt hO f1), fun x z g1 g2 => by omega⟩
  obtain ⟨_, r2, r3, r4, r5⟩ := H.runs R
  refine halves_sorted r2 (fun p q g1 g2 g3 => ?_) r5
  by_cases c1 : q < i
  · exact r3 p q g1 g2 c1
  · by_cases c2 : i ≤ p
    · exact r4 p q c2 g2 g3
    · have I := fun t => rotI_cases a (a + 1) i t
      rw [R.at_, R.at_]
      have e1 : rotI a (a + 1) i p = a := by have := I p; omega
      have e2 : rotI a (a + 1) i q = q := by have := I q; omega
      rw [e1, e2]
      rcases f2 with f2 | f2
      · omega
      · exact le_trans3 hO f2 (sorted_le hO s2 h1 (by omega) g3)
/-- one element behind a run -/
theorem ins_right (hO : SWO lt) {d d1 : Array α} {a i m : Nat} (hb : m + 1 ≤ d.size) (h1 : a ≤ i) (h2 : i ≤ m) (f1 : i = a ∨ lt d[m]! d[i - 1]! = false) (f2 : i = m ∨ lt d[m]! d[i]! = true) (R : Rotated d d1 i m (m + 1)) : Merged lt d d1 a m (m + 1) := by
  refine ⟨permIn_mono _ _ _ _ _ _ h1 (Nat.le_refl _) hb R.perm, fun s1 s2 => ?_⟩
  have H : Split lt d a i m (m + 1) (m + 1) := ⟨h1, h2, by omega, Nat.le_refl _, s1, s2, fun x y g1 g2 g3 g4 => by
    obtain rfl : x = m := by omega
    rcases f2 with f2 | f2
    · omega
    · exact le_trans3 hO (le_of_lt hO f2) (sorted_le hO s1 h1 g3 g4), fun x z g1 g2 g3 g4 => by omega⟩
  obtain ⟨r1, r2, r3, _, r5⟩ := H.runs R
  refine halves_sorted (fun p q g1 g2 g3 => ?_) r3 r5
  by_cases c1 : q < i
  · exact r1 p q g1 g2 c1
  · by_cases c2 : i ≤ p
    · exact r2 p q c2 g2 g3
    · have I := fun t => rotI_cases i m (m + 1) t
      rw [R.at_, R.at_]
      have e1 : rotI i m (m + 1) p = p := by have := I p; omega
      have e2 : rotI i m (m + 1) q = m := by have := I q; omega
      rw [e1, e2]
      rcases f1 with f1 | f1
      · omega
      · exact le_trans3 hO (sorted_le hO s1 g1 (show p ≤ i - 1 by omega) (by omega)) f1
/-- what the search of symMerge has found -/
theorem split_of (hO : SWO lt) {d : Array α} {a m b mid s : Nat} (hm1 : a < m) (hm2 : m < b) (hmid : mid = (a + b) / 2) (r0 s0 : Nat) (h0 : (mid < m ∧ s0 = mid + m - b ∧ r0 = mid) ∨ (m ≤ mid ∧ s0 = a ∧ r0 = m)) (hs1 : s0 ≤ s) (hs2 : s ≤ r0)
    (f1 : s = s0 ∨ lt d[mid + m - s]! d[s - 1]! = false) (f2 : s = r0 ∨ lt d[mid + m - s - 1]! d[s]! = true) (s1 : SortedIn lt a m d) (s2 : SortedIn lt m b d) : Split lt d a s m (mid + m - s) b := by
  refine ⟨by omega, by omega, by omega, by omega, s1, s2, fun x y g1 g2 g3 g4 => ?_, fun x z g1 g2 g3 g4 => ?_⟩
  · rcases f2 with f2 | f2
    · omega
    · exact le_trans3 hO (le_trans3 hO (sorted_le hO s2 g1 (show x ≤ mid + m - s - 1 by omega) (by omega)) (le_of_lt hO f2)) (sorted_le hO s1 (by omega) g3 g4)
  · rcases f1 with f1 | f1
    · omega
    · exact le_trans3 hO (le_trans3 hO (sorted_le hO s1 g1 (show x ≤ s - 1 by omega) (by omega)) f1) (sorted_le hO s2 (by omega) g3 g4)
end St
end Go.Proofs.Ytdlgdmbcbenlbaa
namespace Go.Proofs.Ytdlgdmbcbenlbaa
open Go Go.RowKit Go.Sort Go.Shelf Go.Lib
namespace St
variable {P : Program} {k : Nat} {α : Type} [Inhabited α]
def MrgPost (enc : α → List Value) (k : Nat) (w0 : World) (blk : Nat) (cf : α → α → Int) (d : Array α) (a m b : Nat) (e : Ending) (w' : World) : Prop := e = .returned (.tuple #[]) ∧ ∃ d', SWK enc k w0 blk 0 d' w' ∧ Merged (ltOf cf) d d' a m b
theorem rot_self (d : Array α) (a m : Nat) : Rotated d d a m m := ⟨permIn_refl _ _ _, fun t => by
  have h := rotI_cases a m m t
  have e : rotI a m m t = t := by omega
  rw [e]⟩
theorem rot_left {d dk : Array α} {a t : Nat} (R : Rotated d dk a (a + 1) (t + 1)) (h1 : a ≤ t) (h2 : t + 1 < d.size) : Rotated d (swp dk t (t + 1)) a (a + 1) (t + 2) := by
  have hs := R.perm.1
  refine ⟨permIn_trans _ _ _ _ _ (permIn_mono _ _ _ _ _ _ (Nat.le_refl _) (by omega) (by omega) R.perm) (swp_permIn _ _ _ _ _ h1 (by omega) (by omega) (by omega) (by omega)), fun q => ?_⟩
  rw [swp_get dk (by omega) (by omega)]
  have I := rotI_cases a (a + 1) (t + 2) q
  by_cases c1 : q = t + 1
  · rw [if_pos c1, R.at_]
    have J := rotI_cases a (a + 1) (t + 1) t
    congr 1; omega
  · rw [if_neg c1]
    by_cases c2 : q = t
    · rw [if_pos c2, R.at_]
      have J := rotI_cases a (a + 1) (t + 1) (t + 1)
      congr 1; omega
    · rw [if_neg c2, R.at_]
      have J := rotI_cases a (a + 1) (t + 1) q
      congr 1; omega
set_option maxHeartbeats 4000000 in
set_option maxRecDepth 1000000 in
theorem symMerge_one (L : StP P k) (enc : α → List Value) (cf : α → α → Int) (hO : SWO (ltOf cf)) (g : Nat) (cb : Array Value) (blk cap a m b : Nat) (d0 d : Array α) (w0 w : World)
    (eg : ∀ args w, (callFunc g args).run P w = .ok (.enter g args) w) (hcmp : CmpLays P g cb enc k cf blk 0 d0.size w0) (R : RowK enc k w0 blk 0 d0) (hs : d0.size = d.size) (S : SWK enc k w0 blk 0 d w) (hm : m = a + 1) (hmb : m < b) (hb : b ≤ d.size) (hsz : d.size < 2305843009213693952) :
    Calls P 88 #[.slice (some ⟨blk, 0, none⟩) d.size cap, .int .i64 a, .int .i64 m, .int .i64 b, .func (.func g) #[] cb] w (MrgPost enc k w0 blk cf d a m b) := by
  have hq : (m : Int) - (a : Int) = 1 := by omega
  have hm1 : a + 1 ≤ m := by omega
  have hm2 : m ≤ a + 1 := by omega
  replace hm := Lib.hid hm
  have mixed := L.mixed; have t0 := L.t0; have a0 := L.a0; have z0 := L.z0; have v0 := L.v0; have t3 := L.t3; have a3 := L.a3; have z3 := L.z3; have v3 := L.v3; have t4 := L.t4; have a4 := L.a4; have z4 := L.z4; have v4 := L.v4; have t38 := L.t38; have a38 := L.a38; have z38 := L.z38; have v38 := L.v38; have t78 := L.t78; have a78 := L.a78; have z78 := L.z78; have v78 := L.v78; have t94 := L.t94; have a94 := L.a94; have z94 := L.z94; have v94 := L.v94
  have aE := L.aE
  have zE := L.zE
  have S0 : Aside (SWK enc k w0 blk 0 d w) := S
  have HC : Aside (CmpLays P g cb enc k cf blk 0 d0.size w0) := hcmp
  clear S hcmp
  go_enter L.fSy, Try.ntmps88
  go_wp2
  go_loopw [10, 11] (fun vi vj wr => ∃ (i j : Nat), m ≤ i ∧ i ≤ j ∧ j ≤ b ∧ vi = .int .i64 i ∧ vj = .int .i64 j ∧ Hid (i = m ∨ ltOf cf d[i - 1]! d[a]! = true) ∧ Hid (j = b ∨ ltOf cf d[j]! d[a]! = false) ∧ Aside (SWK enc k w0 blk 0 d wr)) (fun vi vj _ => (intOf vj).toNat - (intOf vi).toNat)
  case atStart => exact ⟨m, b, Nat.le_refl _, by omega, Nat.le_refl _, rfl, rfl, .inl rfl, .inl rfl, S0⟩
  case round =>
    clear S0
    obtain ⟨i, j, hai, hij, hjb, rfl, rfl, F1, F2, S1⟩ := hrel
    by_cases hlt : i < j
    · obtain ⟨h, hh⟩ : ∃ h, h = (i + j) / 2 := ⟨_, rfl⟩
      have hz : ((i : Int) + (j : Int)) / 2 = (h : Int) := by omega
      have r1 : (i : Int) < (j : Int) := by omega
      have hb1 : i ≤ h := by omega
      have hb2 : h < j := by omega
      replace hh := Lib.hid hh
      have F3 : Hid (ltOf cf d[h]! d[a]! = true → (h + 1 = m ∨ ltOf cf d[h + 1 - 1]! d[a]! = true)) := fun hh => .inr (by simpa using hh)
      cases hL : ltOf cf d[h]! d[a]! with
      | true =>
        have ea1 : ((h : Int) : Int).toNat = h := by omega
        have pa1 : (0 : Int) ≤ (h : Int) := by omega
        have ba1 : ((h : Int) : Int) < (d.size : Int) := by omega
        have ra1 : IntKind.i64.wrap ((h : Int)) = (h : Int) := by rw [IntKind.wrap_i64]; omega
        have ec1 : ((a : Int) : Int).toNat = a := by omega
        have pc1 : (0 : Int) ≤ (a : Int) := by omega
        have bc1 : ((a : Int) : Int) < (d.size : Int) := by omega
        have rc1 : IntKind.i64.wrap ((a : Int)) = (a : Int) := by rw [IntKind.wrap_i64]; omega
        obtain ⟨x1, hx1⟩ : ∃ x, x = d[h]! := ⟨_, rfl⟩
        obtain ⟨y1, hy1⟩ : ∃ x, x = d[a]! := ⟨_, rfl⟩
        have la1 := S1.out.ld R (by omega) P (h) (by omega)
        have lb1 := S1.out.ld R (by omega) P (a) (by omega)
        rw [← hx1] at la1
        rw [← hy1] at lb1
        simp only [Nat.zero_add] at la1 lb1
        have hc1 := S1.out.cmp HC.out (by omega) x1 y1
        have hv1 : cf x1 y1 < 0 := by rw [hx1, hy1]; exact of_decide_eq_true hL
        have hd1 : decide (cf x1 y1 < 0) = true := decide_eq_true hv1
        clear hx1 hy1
        go_wp2_with fail
        go_quiet_grown (first | (go_at_fn g; refine Calls.grown_of (hc1 _ _)))
        have S2 : Aside (SWK enc k w0 blk 0 d (grow (wr.drewN nq) osq)) := S1.out.grown nq osq
        clear la1 lb1 hc1 S1 ea1 pa1 ba1 ra1 ec1 pc1 bc1 rc1
        generalize grow (wr.drewN nq) osq = w2 at S2 ⊢
        clear nq osq
        have F4 := F3.out hL
        replace F4 := Lib.hid F4
        replace hL := Lib.hid hL
        go_wp2
        go_roundw
        case rel => exact ⟨h + 1, j, by omega, by omega, hjb, by go_num, rfl, F4, F2, S2⟩
        case measure => simp [intOf]; omega
      | false =>
        have ea1 : ((h : Int) : Int).toNat = h := by omega
        have pa1 : (0 : Int) ≤ (h : Int) := by omega
        have ba1 : ((h : Int) : Int) < (d.size : Int) := by omega
        have ra1 : IntKind.i64.wrap ((h : Int)) = (h : Int) := by rw [IntKind.wrap_i64]; omega
        have ec1 : ((a : Int) : Int).toNat = a := by omega
        have pc1 : (0 : Int) ≤ (a : Int) := by omega
        have bc1 : ((a : Int) : Int) < (d.size : Int) := by omega
        have rc1 : IntKind.i64.wrap ((a : Int)) = (a : Int) := by rw [IntKind.wrap_i64]; omega
        obtain ⟨x1, hx1⟩ : ∃ x, x = d[h]! := ⟨_, rfl⟩
        obtain ⟨y1, hy1⟩ : ∃ x, x = d[a]! := ⟨_, rfl⟩
        have la1 := S1.out.ld R (by omega) P (h) (by omega)
        have lb1 := S1.out.ld R (by omega) P (a) (by omega)
        rw [← hx1] at la1
        rw [← hy1] at lb1
        simp only [Nat.zero_add] at la1 lb1
        have hc1 := S1.out.cmp HC.out (by omega) x1 y1
        have hv1 : ¬ cf x1 y1 < 0 := by rw [hx1, hy1]; exact of_decide_eq_false hL
        have hd1 : decide (cf x1 y1 < 0) = false := decide_eq_false hv1
        clear hx1 hy1
        go_wp2_with fail
        go_quiet_grown (first | (go_at_fn g; refine Calls.grown_of (hc1 _ _)))
        have S2 : Aside (SWK enc k w0 blk 0 d (grow (wr.drewN nq) osq)) := S1.out.grown nq osq
        clear la1 lb1 hc1 S1 ea1 pa1 ba1 ra1 ec1 pc1 bc1 rc1
        generalize grow (wr.drewN nq) osq = w2 at S2 ⊢
        clear nq osq
        have F4 : Hid (h = b ∨ ltOf cf d[h]! d[a]! = false) := .inr hL
        replace hL := Lib.hid hL
        go_wp2
        go_roundw
        case rel => exact ⟨i, h, by omega, by omega, by omega, rfl, rfl, F1, F4, S2⟩
        case measure => simp [intOf]; omega
    · obtain rfl : i = j := by omega
      clear hlt
      have hi1 : (i : Int) - 1 = ((i - 1 : Nat) : Int) := by omega
      have RS : Hid (Rotated d d a (a + 1) (a + 1)) := rot_self d a (a + 1)
      replace hi1 := Lib.hid hi1
      go_wp2_with fail
      go_loopw [13] (fun vk wr => ∃ (t : Nat) (dk : Array α), a ≤ t ∧ t ≤ i - 1 ∧ vk = .int .i64 t ∧ dk.size = d.size ∧ Hid (Rotated d dk a (a + 1) (t + 1)) ∧ Aside (SWK enc k w0 blk 0 dk wr)) (fun vk _ => i - (intOf vk).toNat)
      case atStart => exact ⟨a, d, Nat.le_refl _, by omega, rfl, rfl, RS, S1⟩
      case round =>
        clear S1 RS
        obtain ⟨t, dk, hat, hti, rfl, hds, HR, S1⟩ := hrel
        by_cases hlt : t < i - 1
        · have r1 : (t : Int) < (i : Int) - 1 := by omega
          have HR2 := Lib.hid (rot_left HR.out hat (by omega))
          go_wp2_with fail
          have ea3 : ((t : Int) : Int).toNat = t := by omega
          have pa3 : (0 : Int) ≤ (t : Int) := by omega
          have ba3 : ((t : Int) : Int) < (d.size : Int) := by omega
          have ra3 : IntKind.i64.wrap ((t : Int)) = (t : Int) := by rw [IntKind.wrap_i64]; omega
          have ec3 : ((t : Int) + 1 : Int).toNat = t + 1 := by omega
          have pc3 : (0 : Int) ≤ (t : Int) + 1 := by omega
          have bc3 : ((t : Int) + 1 : Int) < (d.size : Int) := by omega
          have rc3 : IntKind.i64.wrap ((t : Int) + 1) = (t : Int) + 1 := by rw [IntKind.wrap_i64]; omega
          have S2 : Aside (SWK enc k w0 blk 0 (swp dk (t) (t + 1)) ((wr.drew.setCells blk (0 + (t) * k) (enc dk[t + 1]!)).setCells blk (0 + (t + 1) * k) (enc dk[t]!))) := S1.out.swapped R (t) (t + 1) (by omega) (by omega)
          have la3 := S1.out.ld1 R (by omega) P (t) (by omega)
          have lb3 := S1.out.ld1 R (by omega) P (t + 1) (by omega)
          have sa3 := S1.out.st1 R (by omega) P (t) (by omega) dk[t + 1]!
          have sb3 := S1.out.st2 R (by omega) P (t) (t + 1) (by omega) (by omega) dk[t + 1]! dk[t]!
          have na3 : (enc dk[t]!).length = k := R.hk _
          have nb3 : (enc dk[t + 1]!).length = k := R.hk _
          generalize enc dk[t]! = cI3 at S2 la3 sb3 na3
          generalize enc dk[t + 1]! = cJ3 at S2 lb3 sa3 sb3 nb3
          simp only [Nat.zero_add] at la3 lb3 sa3 sb3 S2
          clear S1
          go_big_region_o
          clear la3 lb3 sa3 sb3 na3 nb3 ea3 pa3 ba3 ra3 ec3 pc3 bc3 rc3
          generalize (wr.drew.setCells blk ((t) * k) cJ3).setCells blk ((t + 1) * k) cI3 = w2 at S2 ⊢
          go_wp2
          go_roundw
          case rel => exact ⟨t + 1, _, by omega, by omega, by go_num, by rw [size_swp]; exact hds, HR2, S2⟩
          case measure => simp [intOf]; omega
        · have r1 : ¬ (t : Int) < (i : Int) - 1 := by omega
          have e1 : t + 1 = i := by omega
          rw [e1] at HR
          have hMm : a + 1 = m := by omega
          have HM : Hid (Merged (ltOf cf) d dk a m b) := by
            show Merged _ _ _ _ _ _
            rw [← hMm]
            exact ins_left hO hb (by omega) hjb (by rw [hMm]; exact F1.out) F2.out HR.out
          replace e1 := Lib.hid e1
          replace hMm := Lib.hid hMm
          go_wp2
          go_end0
          exact ⟨rfl, dk, S1.out, HM.out⟩
end St
end Go.Proofs.Ytdlgdmbcbenlbaa
namespace Go.Proofs.Ytdlgdmbcbenlbaa
open Go Go.RowKit Go.Sort Go.Shelf Go.Lib
namespace St
variable {P : Program} {k : Nat} {α : Type} [Inhabited α]
theorem rot_self2 (d : Array α) (m b : Nat) (h : m ≤ b) : Rotated d d m m b := ⟨permIn_refl _ _ _, fun t => by
  have h := rotI_cases m m b t
  have e : rotI m m b t = t := by omega
  rw [e]⟩
theorem rot_right {d dk : Array α} {t m : Nat} (R : Rotated d dk t m (m + 1)) (h0 : 0 < t) (h1 : t ≤ m) (h2 : m < d.size) : Rotated d (swp dk t (t - 1)) (t - 1) m (m + 1) := by
  have hs := R.perm.1
  refine ⟨permIn_trans _ _ _ _ _ (permIn_mono _ _ _ _ _ _ (by omega) (Nat.le_refl _) (by omega) R.perm) (swp_permIn _ _ _ _ _ (by omega) (by omega) (by omega) (by omega) (by omega)), fun q => ?_⟩
  rw [swp_get dk (by omega) (by omega)]
  have I := rotI_cases (t - 1) m (m + 1) q
  by_cases c1 : q = t - 1
  · rw [if_pos c1, R.at_]
    have J := rotI_cases t m (m + 1) t
    congr 1; omega
  · rw [if_neg c1]
    by_cases c2 : q = t
    · rw [if_pos c2, R.at_]
      have J := rotI_cases t m (m + 1) (t - 1)
      congr 1; omega
    · rw [if_neg c2, R.at_]
      have J := rotI_cases t m (m + 1) q
      congr 1; omega
set_option maxHeartbeats 4000000 in
set_option maxRecDepth 1000000 in
theorem symMerge_last (L : StP P k) (enc : α → List Value) (cf : α → α → Int) (hO : SWO (ltOf cf)) (g : Nat) (cb : Array Value) (blk cap a m b : Nat) (d0 d : Array α) (w0 w : World)
    (eg : ∀ args w, (callFunc g args).run P w = .ok (.enter g args) w) (hcmp : CmpLays P g cb enc k cf blk 0 d0.size w0) (R : RowK enc k w0 blk 0 d0) (hs : d0.size = d.size) (S : SWK enc k w0 blk 0 d w) (ham : a + 1 < m) (hmb : b = m + 1) (hb : b ≤ d.size) (hsz : d.size < 2305843009213693952) :
    Calls P 88 #[.slice (some ⟨blk, 0, none⟩) d.size cap, .int .i64 a, .int .i64 m, .int .i64 b, .func (.func g) #[] cb] w (MrgPost enc k w0 blk cf d a m b) := by
  have hq1 : (((m : Int) - (a : Int)) == 1) = false := by rw [beq_eq_false_iff_ne]; omega
  have hq2 : (b : Int) - (m : Int) = 1 := by omega
  have hm1 : b ≤ m + 1 := by omega
  have hm2 : m + 1 ≤ b := by omega
  replace hmb := Lib.hid hmb
  have mixed := L.mixed; have t0 := L.t0; have a0 := L.a0; have z0 := L.z0; have v0 := L.v0; have t3 := L.t3; have a3 := L.a3; have z3 := L.z3; have v3 := L.v3; have t4 := L.t4; have a4 := L.a4; have z4 := L.z4; have v4 := L.v4; have t38 := L.t38; have a38 := L.a38; have z38 := L.z38; have v38 := L.v38; have t78 := L.t78; have a78 := L.a78; have z78 := L.z78; have v78 := L.v78; have t94 := L.t94; have a94 := L.a94; have z94 := L.z94; have v94 := L.v94
  have aE := L.aE
  have zE := L.zE
  have S0 : Aside (SWK enc k w0 blk 0 d w) := S
  have HC : Aside (CmpLays P g cb enc k cf blk 0 d0.size w0) := hcmp
  clear S hcmp
  go_enter L.fSy, Try.ntmps88
  go_wp2
  go_loopw [14, 15] (fun vi vj wr => ∃ (i j : Nat), a ≤ i ∧ i ≤ j ∧ j ≤ m ∧ vi = .int .i64 i ∧ vj = .int .i64 j ∧ Hid (i = a ∨ ltOf cf d[m]! d[i - 1]! = false) ∧ Hid (j = m ∨ ltOf cf d[m]! d[j]! = true) ∧ Aside (SWK enc k w0 blk 0 d wr)) (fun vi vj _ => (intOf vj).toNat - (intOf vi).toNat)
  case atStart => exact ⟨a, m, Nat.le_refl _, by omega, Nat.le_refl _, rfl, rfl, .inl rfl, .inl rfl, S0⟩
  case round =>
    clear S0
    obtain ⟨i, j, hai, hij, hjm, rfl, rfl, F1, F2, S1⟩ := hrel
    by_cases hlt : i < j
    · obtain ⟨h, hh⟩ : ∃ h, h = (i + j) / 2 := ⟨_, rfl⟩
      have hz : ((i : Int) + (j : Int)) / 2 = (h : Int) := by omega
      have r1 : (i : Int) < (j : Int) := by omega
      have hb1 : i ≤ h := by omega
      have hb2 : h < j := by omega
      replace hh := Lib.hid hh
      have F3 : Hid (ltOf cf d[m]! d[h]! = false → (h + 1 = a ∨ ltOf cf d[m]! d[h + 1 - 1]! = false)) := fun hh => .inr (by simpa using hh)
      cases hL : ltOf cf d[m]! d[h]! with
      | false =>
        have ea1 : ((m : Int) : Int).toNat = m := by omega
        have pa1 : (0 : Int) ≤ (m : Int) := by omega
        have ba1 : ((m : Int) : Int) < (d.size : Int) := by omega
        have ra1 : IntKind.i64.wrap ((m : Int)) = (m : Int) := by rw [IntKind.wrap_i64]; omega
        have ec1 : ((h : Int) : Int).toNat = h := by omega
        have pc1 : (0 : Int) ≤ (h : Int) := by omega
        have bc1 : ((h : Int) : Int) < (d.size : Int) := by omega
        have rc1 : IntKind.i64.wrap ((h : Int)) = (h : Int) := by rw [IntKind.wrap_i64]; omega
        obtain ⟨x1, hx1⟩ : ∃ x, x = d[m]! := ⟨_, rfl⟩
        obtain ⟨y1, hy1⟩ : ∃ x, x = d[h]! := ⟨_, rfl⟩
        have la1 := S1.out.ld R (by omega) P (m) (by omega)
        have lb1 := S1.out.ld R (by omega) P (h) (by omega)
        rw [← hx1] at la1
        rw [← hy1] at lb1
        simp only [Nat.zero_add] at la1 lb1
        have hc1 := S1.out.cmp HC.out (by omega) x1 y1
        have hv1 : ¬ cf x1 y1 < 0 := by rw [hx1, hy1]; exact of_decide_eq_false hL
        have hd1 : decide (cf x1 y1 < 0) = false := decide_eq_false hv1
        clear hx1 hy1
        go_wp2_with fail
        go_quiet_grown (first | (go_at_fn g; refine Calls.grown_of (hc1 _ _)))
        have S2 : Aside (SWK enc k w0 blk 0 d (grow (wr.drewN nq) osq)) := S1.out.grown nq osq
        clear la1 lb1 hc1 S1 ea1 pa1 ba1 ra1 ec1 pc1 bc1 rc1
        generalize grow (wr.drewN nq) osq = w2 at S2 ⊢
        clear nq osq
        have F4 := F3.out hL
        replace F4 := Lib.hid F4
        replace hL := Lib.hid hL
        go_wp2
        go_roundw
        case rel => exact ⟨h + 1, j, by omega, by omega, hjm, by go_num, rfl, F4, F2, S2⟩
        case measure => simp [intOf]; omega
      | true =>
        have ea1 : ((m : Int) : Int).toNat = m := by omega
        have pa1 : (0 : Int) ≤ (m : Int) := by omega
        have ba1 : ((m : Int) : Int) < (d.size : Int) := by omega
        have ra1 : IntKind.i64.wrap ((m : Int)) = (m : Int) := by rw [IntKind.wrap_i64]; omega
        have ec1 : ((h : Int) : Int).toNat = h := by omega
        have pc1 : (0 : Int) ≤ (h : Int) := by omega
        have bc1 : ((h : Int) : Int) < (d.size : Int) := by omega
        have rc1 : IntKind.i64.wrap ((h : Int)) = (h : Int) := by rw [IntKind.wrap_i64]; omega
        obtain ⟨x1, hx1⟩ : ∃ x, x = d[m]! := ⟨_, rfl⟩
        obtain ⟨y1, hy1⟩ : ∃ x, x = d[h]! := ⟨_, rfl⟩
        have la1 := S1.out.ld R (by omega) P (m) (by omega)
        have lb1 := S1.out.ld R (by omega) P (h) (by omega)
        rw [← hx1] at la1
        rw [← hy1] at lb1
        simp only [Nat.zero_add] at la1 lb1
        have hc1 := S1.out.cmp HC.out (by omega) x1 y1
        have hv1 : cf x1 y1 < 0 := by rw [hx1, hy1]; exact of_decide_eq_true hL
        have hd1 : decide (cf x1 y1 < 0) = true := decide_eq_true hv1
        clear hx1 hy1
        go_wp2_with fail
        go_quiet_grown (first | (go_at_fn g; refine Calls.grown_of (hc1 _ _)))
        have S2 : Aside (SWK enc k w0 blk 0 d (grow (wr.drewN nq) osq)) := S1.out.grown nq osq
        clear la1 lb1 hc1 S1 ea1 pa1 ba1 ra1 ec1 pc1 bc1 rc1
        generalize grow (wr.drewN nq) osq = w2 at S2 ⊢
        clear nq osq
        have F4 : Hid (h = m ∨ ltOf cf d[m]! d[h]! = true) := .inr hL
        replace hL := Lib.hid hL
        go_wp2
        go_roundw
        case rel => exact ⟨i, h, by omega, by omega, by omega, rfl, rfl, F1, F4, S2⟩
        case measure => simp [intOf]; omega
    · obtain rfl : i = j := by omega
      clear hlt
      have RS : Hid (Rotated d d m m (m + 1)) := rot_self2 d m (m + 1) (by omega)
      go_wp2_with fail
      go_loopw [17] (fun vk wr => ∃ (t : Nat) (dk : Array α), i ≤ t ∧ t ≤ m ∧ vk = .int .i64 t ∧ dk.size = d.size ∧ Hid (Rotated d dk t m (m + 1)) ∧ Aside (SWK enc k w0 blk 0 dk wr)) (fun vk _ => (intOf vk).toNat)
      case atStart => exact ⟨m, d, by omega, Nat.le_refl _, rfl, rfl, RS, S1⟩
      case round =>
        clear S1 RS
        obtain ⟨t, dk, hit, htm, rfl, hds, HR, S1⟩ := hrel
        by_cases hlt : i < t
        · have r1 : (i : Int) < (t : Int) := by omega
          have HR2 := Lib.hid (rot_right HR.out (by omega) htm (by omega))
          have hk1 : Hid ((t : Int) - 1 = ((t - 1 : Nat) : Int)) := by show _ = _; omega
          go_wp2_with fail
          have ea3 : ((t : Int) : Int).toNat = t := by omega
          have pa3 : (0 : Int) ≤ (t : Int) := by omega
          have ba3 : ((t : Int) : Int) < (d.size : Int) := by omega
          have ra3 : IntKind.i64.wrap ((t : Int)) = (t : Int) := by rw [IntKind.wrap_i64]; omega
          have ec3 : ((t : Int) - 1 : Int).toNat = t - 1 := by omega
          have pc3 : (0 : Int) ≤ (t : Int) - 1 := by omega
          have bc3 : ((t : Int) - 1 : Int) < (d.size : Int) := by omega
          have rc3 : IntKind.i64.wrap ((t : Int) - 1) = (t : Int) - 1 := by rw [IntKind.wrap_i64]; omega
          have S2 : Aside (SWK enc k w0 blk 0 (swp dk (t) (t - 1)) ((wr.drew.setCells blk (0 + (t) * k) (enc dk[t - 1]!)).setCells blk (0 + (t - 1) * k) (enc dk[t]!))) := S1.out.swapped R (t) (t - 1) (by omega) (by omega)
          have la3 := S1.out.ld1 R (by omega) P (t) (by omega)
          have lb3 := S1.out.ld1 R (by omega) P (t - 1) (by omega)
          have sa3 := S1.out.st1 R (by omega) P (t) (by omega) dk[t - 1]!
          have sb3 := S1.out.st2 R (by omega) P (t) (t - 1) (by omega) (by omega) dk[t - 1]! dk[t]!
          have na3 : (enc dk[t]!).length = k := R.hk _
          have nb3 : (enc dk[t - 1]!).length = k := R.hk _
          generalize enc dk[t]! = cI3 at S2 la3 sb3 na3
          generalize enc dk[t - 1]! = cJ3 at S2 lb3 sa3 sb3 nb3
          simp only [Nat.zero_add] at la3 lb3 sa3 sb3 S2
          clear S1
          go_big_region_o
          clear la3 lb3 sa3 sb3 na3 nb3 ea3 pa3 ba3 ra3 ec3 pc3 bc3 rc3
          generalize (wr.drew.setCells blk ((t) * k) cJ3).setCells blk ((t - 1) * k) cI3 = w2 at S2 ⊢
          go_wp2
          go_roundw
          case rel => exact ⟨t - 1, _, by omega, by omega, by rw [hk1.out], by rw [size_swp]; exact hds, HR2, S2⟩
          case measure => simp [intOf]; omega
        · have r1 : ¬ (i : Int) < (t : Int) := by omega
          obtain rfl : t = i := by omega
          have hMm : m + 1 = b := by omega
          have HM : Hid (Merged (ltOf cf) d dk a m b) := by
            show Merged _ _ _ _ _ _
            rw [← hMm]
            exact ins_right hO (by omega) hai htm F1.out F2.out HR.out
          replace hMm := Lib.hid hMm
          go_wp2
          go_end0
          exact ⟨rfl, dk, S1.out, HM.out⟩
end St
end Go.Proofs.Ytdlgdmbcbenlbaa
