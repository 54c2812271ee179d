/- The law's awake. -/
import Derived.Test.YtnkgmpmedkegbaaLb5
namespace Go.Proofs.Ytnkgmpmedkegbaa
open Go Go.RowKit Go.Sort
namespace Sw
open Mm
def awA : Cel := ⟨1, 0, 2, 0, 0⟩
def awL : List Chg := [⟨10, false, awA⟩, ⟨20, true, awA⟩]
def awD : List Dut := [⟨awA, false, false, 0, 10⟩, ⟨awA, false, true, 10, 14⟩, ⟨awA, false, true, 16, 20⟩, ⟨awA, false, false, 20, -1⟩]
theorem aw_chk : chkN 4 1 [awA] awL = (-1, 0) := by decide +kernel
theorem aw_right : Right 4 1 [awA] awL := right_of (by rw [aw_chk])
theorem aw_times : timesR 4 1 [awA] awL awA = [(0, 10), (20, -1)] := by decide +kernel
theorem aw_ok : awA.ok := by unfold Cel.ok I64 awA; dsimp only; decide
theorem aw_ok1 : ∀ c ∈ [awA], c.ok := fun c h => by rw [List.mem_singleton] at h; rw [h]; exact aw_ok
theorem aw_ok2 : ∀ x ∈ awL, x.cell.ok := fun x h => by
  unfold awL at h
  simp only [List.mem_cons, List.not_mem_nil, or_false] at h
  rcases h with rfl | rfl <;> exact aw_ok
theorem aw_cells : cellsC [awA] awL = [awA] := by
  unfold cellsC
  have h := sortC_perm ([awA] ++ awL.map fun x => x.cell)
  have e : [awA] ++ awL.map (fun x => x.cell) = List.replicate 3 awA := rfl
  rw [e] at h ⊢
  rw [List.perm_replicate.1 h]
  decide +kernel
theorem aw_all : (allD 4 [awA] awL 0).Perm awD := by
  unfold allD
  rw [aw_cells]
  decide +kernel
theorem lastN_inj {a b : Int} (h : lastN a = lastN b) (ha : a ≤ 100000) (hb : b ≤ 100000) : a = b := by
  unfold lastN at h
  split at h <;> split at h <;> omega
theorem sorted_one {d e : List Dut} (hp : d.Perm e) (h1 : d.Pairwise fun x y => ltOf cmpD y x = false) (h2 : e.Pairwise fun x y => ltOf cmpD y x = false) (hb : ∀ x ∈ e, x.til ≤ 100000) (hs : ∀ x ∈ e, ∀ y ∈ e, x.cell = y.cell → x.extra = y.extra → x.sends = y.sends) : d = e := by
  refine List.Perm.eq_of_pairwise (fun a b ha hb' h3 h4 => ?_) h1 h2 hp
  have ha' := hp.mem_iff.1 ha
  obtain ⟨e1, e2, e3, e4⟩ := keyD h4 h3
  have e5 := lastN_inj e3 (hb a ha') (hb b hb')
  have e6 := hs a ha' b hb' e1 e4
  obtain ⟨ac, an, ax, af, au⟩ := a
  obtain ⟨bc, bn, bx, bf, bu⟩ := b
  dsimp only at *
  rw [e1, e2, e4, e5, e6]
theorem aw_sorted : awD.Pairwise fun x y => ltOf cmpD y x = false := by decide +kernel
theorem aw_d {d : List Dut} (hp : d.Perm (allD 4 [awA] awL 0)) (h1 : d.Pairwise fun x y => ltOf cmpD y x = false) : d = awD :=
  sorted_one (hp.trans aw_all) h1 aw_sorted (by decide +kernel) (by decide +kernel)
theorem aw_at13 : awD.filter (onB 4 13) = [⟨awA, false, true, 10, 14⟩] := by decide +kernel
theorem aw_at14 : awD.filter (onB 4 14) = [] := by decide +kernel
/-- what the example's calls return -/
def AwTimes (w : World) (e : Ending) (w' : World) : Prop := ∃ A c, e = .returned (.tuple #[.slice A 2 c, .int .i64 0]) ∧ PrS w' A 2 [(0, 10), (20, -1)] ∧ Below w.heap.size w w'
theorem aw_Times (A B : Option Addr) (cp cq : Nat) (w : World) (h1 : CelS w A 1 [awA]) (h2 : ChgS w B 2 awL) :
    Calls Try.prog 15 #[.agg #[.int .i64 4, .int .i64 1, .slice A 1 cp], .slice B 2 cq, .agg #[.int .i64 1, .int .i64 0, .int .i64 2, .int .i64 0, .int .i64 0]] w (AwTimes w) := by
  have h := Times_any 4 1 A 1 cp [awA] B 2 cq awL awA w h1 h2 aw_ok1 aw_ok2 (fun _ => ⟨ends_of (aw_right.okL awA), by decide⟩)
  rw [aw_times, aw_chk] at h
  refine h.mono ?_
  rintro e w' ⟨A', c, rfl, ho, hb⟩
  exact ⟨A', c, rfl, (Sls.of_owns prE_len ho rfl).2, hb⟩
def AwDuties (w : World) (e : Ending) (w' : World) : Prop := ∃ g c, e = .returned (.tuple #[.slice (some ⟨g, 0, none⟩) 4 c, .int .i64 0]) ∧ DutS w' (some ⟨g, 0, none⟩) 4 awD ∧ Below w.heap.size w w'
theorem aw_Duties (A B : Option Addr) (cp cq : Nat) (w : World) (h1 : CelS w A 1 [awA]) (h2 : ChgS w B 2 awL) :
    Calls Try.prog 17 #[.agg #[.int .i64 4, .int .i64 1, .slice A 1 cp], .slice B 2 cq, .int .i64 0] w (AwDuties w) := by
  have h := Duties_ok 4 1 A 1 cp [awA] B 2 cq awL 0 w h1 h2 aw_ok1 aw_ok2 aw_chk aw_right ⟨by decide, by decide⟩
  refine h.mono ?_
  rintro e w' ⟨d', A', c, rfl, hp, hs, ho, hb⟩
  obtain rfl := aw_d hp hs
  rcases ho.2 with ⟨_, h0⟩ | ⟨g, cap, cur, hv, _⟩
  · exact absurd h0 (by decide)
  · injection hv with hA _ _
    subst hA
    exact ⟨g, c, rfl, (Sls.of_owns dutE_len ho rfl).2, hb⟩
def AwAt13 (w : World) (e : Ending) (w' : World) : Prop := ∃ g c, e = .returned (.tuple #[.slice (some ⟨g, 0, none⟩) 1 c, .int .i64 0]) ∧ DutS w' (some ⟨g, 0, none⟩) 1 [⟨awA, false, true, 10, 14⟩] ∧ Below w.heap.size w w'
theorem aw_At13 (A : Option Addr) (c : Nat) (w : World) (h : DutS w A 4 awD) : Calls Try.prog 29 #[.slice A 4 c, .int .i64 4, .int .i64 13] w (AwAt13 w) := by
  have h := at_any 4 13 A 4 c awD w h ⟨by decide, by decide⟩ (by decide) (by decide)
  rw [aw_at13] at h
  refine h.mono ?_
  rintro e w' ⟨d', A', c, rfl, hp, ho, hb⟩
  obtain rfl := List.perm_singleton.1 hp
  rcases ho.2 with ⟨_, h0⟩ | ⟨g, cap, cur, hv, _⟩
  · exact absurd h0 (by decide)
  · injection hv with hA _ _
    subst hA
    exact ⟨g, c, rfl, (Sls.of_owns dutE_len ho rfl).2, hb⟩
def AwAt14 (w : World) (e : Ending) (w' : World) : Prop := ∃ A c, e = .returned (.tuple #[.slice A 0 c, .int .i64 0]) ∧ Below w.heap.size w w'
theorem aw_At14 (A : Option Addr) (c : Nat) (w : World) (h : DutS w A 4 awD) : Calls Try.prog 29 #[.slice A 4 c, .int .i64 4, .int .i64 14] w (AwAt14 w) := by
  have h := at_any 4 14 A 4 c awD w h ⟨by decide, by decide⟩ (by decide) (by decide)
  rw [aw_at14] at h
  refine h.mono ?_
  rintro e w' ⟨d', A', c, rfl, hp, ho, hb⟩
  obtain rfl := List.perm_nil.1 hp
  exact ⟨A', c, rfl, hb⟩
theorem aw_until (B : Option Addr) (cq : Nat) (w : World) (h : ChgS w B 2 awL) : Calls Try.prog 21 #[.slice B 2 cq, .int .i64 4] w fun e w' => e = .returned (.int .i64 24) ∧ w = w' := by
  have h := until_any 4 B 2 cq awL w h ⟨by decide, by decide⟩ (by decide +kernel)
  have e : untilN 4 awL = 24 := by decide +kernel
  rw [e] at h
  exact h
theorem aw_eq (A : Option Addr) (c1 : Nat) (w : World) (g c2 : Nat) (h1 : PrS w A 2 [(0, 10), (20, -1)]) (h2 : PrS w (some ⟨g, 0, none⟩) 2 [(0, 10), (20, -1)]) : Calls Try.prog 19 #[.slice A 2 c1, .slice (some ⟨g, 0, none⟩) 2 c2] w fun e w' => e = .returned (.bool true) ∧ Below w.heap.size w w' :=
  equalP_any A _ 2 2 c1 c2 _ _ w h1 h2
theorem sls_box {α : Type} [Inhabited α] (enc : α → List Value) (k : Nat) (hk : ∀ x, (enc x).length = k) (w : World) (t : TypeId) (xs : List α) (hs : xs.length ≤ maxLen) : Sls enc k (w.alloc (.cells (xs.flatMap enc).toArray t)) (some ⟨w.heap.size, 0, none⟩) xs.length xs :=
  ⟨rfl, hs, fun _ => ⟨w.heap.size, 0, rfl, by simp, fun i hi j hj => by
    rw [(Blk.new w _ t).cell, Nat.zero_add, ← Sk.fm_get enc k hk xs i j hi hj]
    simp⟩⟩
end Sw
end Go.Proofs.Ytnkgmpmedkegbaa
