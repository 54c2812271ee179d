/- The table of half bytes: the closure that fills it, the array that is handed back. -/
import Derived.Test.YtlefbpopemkkaaaCrcWalks2
namespace Go.Proofs.Ytlefbpopemkkaaa
open Go Go.RowKit
namespace Crc
def tabN (h : Nat) : W := tab (BitVec.ofNat 16 h)
theorem z_half (h : Nat) (hh : h < 16) : z ((BitVec.ofNat 16 h) <<< 12) = (h : Int) * 4096 := by
  rw [← z_mul4096, z_lit h (by omega), wrap16]; omega
set_option maxHeartbeats 400000 in
theorem fill_any (h : Nat) (hh : h < 16) (b : Nat) (v0 : Value) (w : World) (hc : w.cell? ⟨b, h, none⟩ = some v0) (hf : w.frozen? ⟨b, h, none⟩ = false) :
    Calls Try.prog 30 #[.int .i64 h, .pointer (some ⟨b, 0, none⟩)] w fun e w' => e = .returned (.tuple #[]) ∧ w' = w.setCell ⟨b, h, none⟩ (.int .u16 (z (tabN h))) := by
  have HZ := Lib.hid (z_half h hh)
  go_enter Try.func30, Try.ntmps30
  go_wp2
  go_loop [3, 7] (fun a i => ∃ k : Nat, k ≤ 4 ∧ i = .int .i64 k ∧ a = .int .u16 (z (Tn k ((BitVec.ofNat 16 h) <<< 12)))) (fun _ i => 4 - (intOf i).toNat)
  case atStart => exact ⟨0, by omega, rfl, by rw [show Tn 0 ((BitVec.ofNat 16 h) <<< 12) = (BitVec.ofNat 16 h) <<< 12 from rfl, HZ.out]⟩
  case round =>
    obtain ⟨k, hk, rfl, rfl⟩ := hrel
    by_cases hlt : k < 4
    · go_wp2_with ((with_reducible refine (times_any _ _).mono ?_); rintro e w' ⟨rfl, rfl⟩)
      go_round
      case rel => exact ⟨k + 1, by omega, by go_num, rfl⟩
      case measure => simp [intOf]; omega
    · have e : k = 4 := by omega
      subst e
      go_wp2
      go_end0
      exact ⟨rfl, rfl⟩
def tabs (k : Nat) : Array Value := ((List.range 16).map (fun i => Value.int .u16 (if i < k then z (tabN i) else 0))).toArray
theorem tabs_get (k i : Nat) (h : i < 16) : (tabs k)[i]? = some (Value.int .u16 (if i < k then z (tabN i) else 0)) := by
  unfold tabs
  simp [h]
theorem tabs_size (k : Nat) : (tabs k).size = 16 := by unfold tabs; simp
theorem tabs_set (k : Nat) (h : k < 16) : (tabs k).setIfInBounds k (.int .u16 (z (tabN k))) = tabs (k + 1) := by
  apply Array.ext_getElem?
  intro i
  by_cases hi : i < 16
  · rw [Array.getElem?_setIfInBounds, tabs_get _ _ hi, tabs_get _ _ hi, tabs_size]
    by_cases e : k = i
    · subst e; simp [h]
    · rw [if_neg e]; congr 3
      by_cases e2 : i < k
      · simp [e2]; omega
      · simp [e2]; omega
  · rw [Array.getElem?_eq_none (by simp [tabs_size]; omega), Array.getElem?_eq_none (by simp [tabs_size]; omega)]
theorem tabs_zero : tabs 0 = #[.int .u16 0, .int .u16 0, .int .u16 0, .int .u16 0, .int .u16 0, .int .u16 0, .int .u16 0, .int .u16 0, .int .u16 0, .int .u16 0, .int .u16 0, .int .u16 0, .int .u16 0, .int .u16 0, .int .u16 0, .int .u16 0] := by
  unfold tabs; simp [List.range, List.range.loop]
theorem tabs_all : tabs 16 = #[.int .u16 (z (tabN 0)), .int .u16 (z (tabN 1)), .int .u16 (z (tabN 2)), .int .u16 (z (tabN 3)), .int .u16 (z (tabN 4)), .int .u16 (z (tabN 5)), .int .u16 (z (tabN 6)), .int .u16 (z (tabN 7)), .int .u16 (z (tabN 8)), .int .u16 (z (tabN 9)), .int .u16 (z (tabN 10)), .int .u16 (z (tabN 11)), .int .u16 (z (tabN 12)), .int .u16 (z (tabN 13)), .int .u16 (z (tabN 14)), .int .u16 (z (tabN 15))] := by
  unfold tabs; simp [List.range, List.range.loop]
set_option maxHeartbeats 400000 in
theorem rem_any (w : World) :
    Calls Try.prog 29 #[] w fun e w' => e = .returned (.agg (tabs 16)) ∧ Below w.heap.size w w' := by
  go_enter Try.func29, Try.ntmps29
  go_wp2
  go_loopw [5] (fun i wr => ∃ k : Nat, k ≤ 16 ∧ i = .int .i64 k ∧ wr = (w.alloc (.cells (tabs 0) 54)).alloc (.cells (tabs k) 54)) (fun i _ => 16 - (intOf i).toNat)
  case atStart => exact ⟨0, by omega, rfl, by rw [tabs_zero]⟩
  case round =>
    obtain ⟨k, hk, rfl, rfl⟩ := hrel
    by_cases hlt : k < 16
    · have hg := tabs_get k k hlt
      have hset := Lib.hid (tabs_set k hlt)
      go_wp2_with fail
      refine (fill_any k hlt _ _ _ (by rw [World.cell?_alloc_at _ _ _ _ (by simp)]; exact hg) (World.frozen?_alloc_at _ _ _ _ (by simp))).mono ?_
      rintro e w' ⟨rfl, rfl⟩
      rw [World.setCell_alloc_at _ _ _ _ _ (show w.heap.size + 1 = (w.alloc (Obj.cells (tabs 0) 54)).heap.size by simp), hset.out]
      clear hg hset
      go_wp2
      go_roundw
      case rel => exact ⟨k + 1, by omega, by go_num, rfl⟩
      case measure => simp [intOf]; omega
    · have e : k = 16 := by omega
      subst e
      rw [tabs_all, tabs_zero]
      go_wp2_with fail
      refine bodyPost_ret (v := .agg #[.int .u16 (z (tabN 0)), .int .u16 (z (tabN 1)), .int .u16 (z (tabN 2)), .int .u16 (z (tabN 3)), .int .u16 (z (tabN 4)), .int .u16 (z (tabN 5)), .int .u16 (z (tabN 6)), .int .u16 (z (tabN 7)), .int .u16 (z (tabN 8)), .int .u16 (z (tabN 9)), .int .u16 (z (tabN 10)), .int .u16 (z (tabN 11)), .int .u16 (z (tabN 12)), .int .u16 (z (tabN 13)), .int .u16 (z (tabN 14)), .int .u16 (z (tabN 15))]) (by simp [results, Try.results29, go_sem]) rfl ⟨by rw [tabs_all], ?_⟩
      exact ((Below.refl _ _).alloc (Nat.le_refl _) _).alloc (by simp) _
end Crc
end Go.Proofs.Ytlefbpopemkkaaa
