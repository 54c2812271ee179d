/- swapRange, rotate, at a program of which only these functions and types are known: elements of k cells. -/
import Derived.Test.YtnkgmpmedkegbaaSt1
import Derived.Test.YtnkgmpmedkegbaaSwB
import Derived.Shelf.SlSortCmp.ReverseRangeK
namespace Go.Proofs.Ytnkgmpmedkegbaa
open Go Go.RowKit Go.Sort Go.Shelf Go.Lib
namespace St
/-- what is asked of the program -/
structure StP (P : Program) (k : Nat) : Prop where
  mixed : P.follows Departure.mixedOrders = true
  t0 : P.underlying 0 = some (TypeDesc.tuple #[])
  a0 : ∀ w, (isAgg 0).run P w = .ok false w
  z0 : ∀ w, (Go.sizeOf 0).run P w = .ok 1 w
  v0 : ∀ w, (zeroValue 0).run P w = .ok (Value.tuple #[]) w
  t3 : P.underlying 3 = some (TypeDesc.int IntKind.i64)
  a3 : ∀ w, (isAgg 3).run P w = .ok false w
  z3 : ∀ w, (Go.sizeOf 3).run P w = .ok 1 w
  v3 : ∀ w, (zeroValue 3).run P w = .ok (Value.int IntKind.i64 0) w
  t4 : P.underlying 4 = some TypeDesc.bool
  a4 : ∀ w, (isAgg 4).run P w = .ok false w
  z4 : ∀ w, (Go.sizeOf 4).run P w = .ok 1 w
  v4 : ∀ w, (zeroValue 4).run P w = .ok (Value.bool false) w
  t38 : P.underlying 38 = some (TypeDesc.slice 45)
  a38 : ∀ w, (isAgg 38).run P w = .ok false w
  z38 : ∀ w, (Go.sizeOf 38).run P w = .ok 1 w
  v38 : ∀ w, (zeroValue 38).run P w = .ok (Value.slice none 0 0) w
  t78 : P.underlying 78 = some (TypeDesc.func #[45, 45] #[3] false)
  a78 : ∀ w, (isAgg 78).run P w = .ok false w
  z78 : ∀ w, (Go.sizeOf 78).run P w = .ok 1 w
  v78 : ∀ w, (zeroValue 78).run P w = .ok (Value.nilFunc) w
  t94 : P.underlying 94 = some (TypeDesc.int IntKind.u64)
  a94 : ∀ w, (isAgg 94).run P w = .ok false w
  z94 : ∀ w, (Go.sizeOf 94).run P w = .ok 1 w
  v94 : ∀ w, (zeroValue 94).run P w = .ok (Value.int IntKind.u64 0) w
  aE : ∀ w, (isAgg 45).run P w = .ok true w
  zE : ∀ w, (Go.sizeOf 45).run P w = .ok k w
  fSw : P.funcs[96]? = some Try.f96
  fRo : P.funcs[94]? = some Try.f94
  fSy : P.funcs[88]? = some Try.f88
  fSt : P.funcs[72]? = some Try.f72
variable {P : Program} {k : Nat} {α : Type} [Inhabited α]
set_option maxHeartbeats 4000000 in
set_option maxRecDepth 1000000 in
theorem swapRange_any (L : StP P k) (enc : α → List Value) (g : Nat) (cb : Array Value) (blk cap a b n : Nat) (d0 d : Array α) (w0 w : World)
    (R : RowK enc k w0 blk 0 d0) (hs : d0.size = d.size) (S : SWK enc k w0 blk 0 d w) (hab : a + n ≤ b) (hb : b + n ≤ d.size) (hsz : d.size < 4611686018427387904) :
    Calls P 96 #[.slice (some ⟨blk, 0, none⟩) d.size cap, .int .i64 a, .int .i64 b, .int .i64 n, .func (.func g) #[] cb] w fun e w' => e = .returned (.tuple #[]) ∧ SWK enc k w0 blk 0 (swapR d a b n) w' := by
  have mixed := L.mixed; have t0 := L.t0; have a0 := L.a0; have z0 := L.z0; have v0 := L.v0; have t3 := L.t3; have a3 := L.a3; have z3 := L.z3; have v3 := L.v3; have t4 := L.t4; have a4 := L.a4; have z4 := L.z4; have v4 := L.v4; have t38 := L.t38; have a38 := L.a38; have z38 := L.z38; have v38 := L.v38; have t78 := L.t78; have a78 := L.a78; have z78 := L.z78; have v78 := L.v78
  have aE := L.aE
  have zE := L.zE
  have S0 : Aside (SWK enc k w0 blk 0 d w) := S
  clear S
  go_enter L.fSw, Try.ntmps96
  go_wp2
  go_loopw [10] (fun i wr => ∃ (t : Nat) (dk : Array α), t ≤ n ∧ i = .int .i64 t ∧ Hid (dk = swapR d a b t) ∧ Aside (SWK enc k w0 blk 0 dk wr)) (fun i _ => n - (intOf i).toNat)
  case atStart => exact ⟨0, d, by omega, rfl, rfl, S0⟩
  case round =>
    clear S0
    obtain ⟨t, dk, hk, rfl, hdk, S1⟩ := hrel
    have hds : dk.size = d.size := by rw [hdk.out, swapR_size]
    by_cases hlt : t < n
    · have r1 : (t : Int) < (n : Int) := by omega
      go_wp2_with fail
      have ea : ((a : Int) + (t : Int)).toNat = a + t := by omega
      have pa : (0 : Int) ≤ (a : Int) + (t : Int) := by omega
      have ba : (a : Int) + (t : Int) < (d.size : Int) := by omega
      have ra : IntKind.i64.wrap ((a : Int) + (t : Int)) = (a : Int) + (t : Int) := by rw [IntKind.wrap_i64]; omega
      have ec : ((b : Int) + (t : Int)).toNat = b + t := by omega
      have pc : (0 : Int) ≤ (b : Int) + (t : Int) := by omega
      have bc : (b : Int) + (t : Int) < (d.size : Int) := by omega
      have rc : IntKind.i64.wrap ((b : Int) + (t : Int)) = (b : Int) + (t : Int) := by rw [IntKind.wrap_i64]; omega
      have S2 : Aside (SWK enc k w0 blk 0 (swp dk (a + t) (b + t)) ((wr.drew.setCells blk (0 + (a + t) * k) (enc dk[b + t]!)).setCells blk (0 + (b + t) * k) (enc dk[a + t]!))) := S1.out.swapped R (a + t) (b + t) (by omega) (by omega)
      have la := S1.out.ld1 R (by omega) P (a + t) (by omega)
      have lb := S1.out.ld1 R (by omega) P (b + t) (by omega)
      have sa := S1.out.st1 R (by omega) P (a + t) (by omega) dk[b + t]!
      have sb := S1.out.st2 R (by omega) P (a + t) (b + t) (by omega) (by omega) dk[b + t]! dk[a + t]!
      have na : (enc dk[a + t]!).length = k := R.hk _
      have nb : (enc dk[b + t]!).length = k := R.hk _
      have hd2 : Hid (swp dk (a + t) (b + t) = swapR d a b (t + 1)) := by show _ = _; rw [hdk.out]; rfl
      generalize enc dk[a + t]! = cI at S2 la sb na
      generalize enc dk[b + t]! = cJ at S2 lb sa sb nb
      simp only [Nat.zero_add] at la lb sa sb S2
      clear S1
      go_big_region_o
      clear la lb sa sb
      generalize (wr.drew.setCells blk ((a + t) * k) cJ).setCells blk ((b + t) * k) cI = w2 at S2 ⊢
      go_wp2
      go_roundw
      case rel => exact ⟨t + 1, _, by omega, by go_num, hd2, S2⟩
      case measure => simp [intOf]; omega
    · obtain rfl : t = n := by omega
      go_wp2
      go_end0
      exact ⟨rfl, hdk.out ▸ S1.out⟩
end St
end Go.Proofs.Ytnkgmpmedkegbaa
