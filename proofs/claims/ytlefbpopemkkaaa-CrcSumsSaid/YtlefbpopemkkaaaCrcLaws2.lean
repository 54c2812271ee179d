/- The laws' walks: CrcSums. -/
import Derived.Test.YtlefbpopemkkaaaCrcLaws1
namespace Go.Proofs.Ytlefbpopemkkaaa
open Go Go.RowKit Go.Sort
open Crc
set_option maxRecDepth 100000 in
set_option maxHeartbeats 2000000 in
theorem crcSums_walk (d : ByteArray) (a b n : Int) (hd : d.size ≤ maxLen) (ha : (Lit.int .u16 a).wf = true) (hb : (Lit.int .u16 b).wf = true) (hn : (Lit.int .i64 n).wf = true) (w : World) :
    Calls Try.prog 7 #[.string d, .agg #[.int .u16 a, .int .u16 b, .int .i64 n]] w fun e w' => e = .returned (.bool true) ∧ Below w.heap.size w w' := by
  obtain ⟨x, rfl⟩ := z_of a ha
  obtain ⟨y, rfl⟩ := z_of b hb
  have hn := (i64_of n hn).2
  have Hd := Lib.hid hd
  have Hn := Lib.hid hn
  unfold maxLen at hd
  clear ha hb hn
  by_cases h : d.size ≤ 300
  · go_enter Try.func7, Try.ntmps7
    go_wp2_with fail
    refine (awake_any _).mono ?_
    rintro e w1 ⟨rfl, hb1⟩
    have e0 : w1.cell? ⟨w.heap.size, 0, none⟩ = some (.int .u16 (z x)) := by rw [hb1.cell (by simp)]; simp
    have e1 : w1.cell? ⟨w.heap.size, 1, none⟩ = some (.int .u16 (z y)) := by rw [hb1.cell (by simp)]; simp
    have e2 : w1.cell? ⟨w.heap.size, 2, none⟩ = some (.int .i64 n) := by rw [hb1.cell (by simp)]; simp
    have hbw : Below w.heap.size w w1 := ((Below.refl _ _).alloc (Nat.le_refl _) _).trans (hb1.mono (by simp))
    clear hb1
    have HB := Lib.hid hbw
    clear hbw
    go_wp2
    have k0 := cell_regrown e0
    have k1 := cell_regrown e1
    have k2 := cell_regrown e2
    clear e0 e1 e2
    refine wp_region_quiet_below (by kernel_rfl) (by kernel_rfl) ?_
    repeat (first
      | go_big_quiet_step (first
        | exact Calls.regrown_of (sum_any _ _ Hd.out)
        | exact Calls.regrown_of ((rsum_any _ _ Hd.out).mono (by rintro e w' ⟨rfl, rfl⟩; exact ⟨rfl, Below.refl _ _⟩))
        | exact Calls.regrown_of (update_any _ _ _ Hd.out)
        | exact Calls.regrown_of ((rupdate_any _ _ _ Hd.out).mono (by rintro e w' ⟨rfl, rfl⟩; exact ⟨rfl, Below.refl _ _⟩))
        | exact Calls.regrown_of ((combine_any _ _ _ _ Hn.out).mono (by rintro e w' ⟨rfl, rfl⟩; exact ⟨rfl, Below.refl _ _⟩))
        | exact Calls.regrown_of ((rcombine_any _ _ _ _ Hn.out).mono (by rintro e w' ⟨rfl, rfl⟩; exact ⟨rfl, Below.refl _ _⟩))))
    refine wpQuiet_nil ?_
    rintro _ ⟨⟨dq, osq⟩, rfl⟩
    clear k0 k1 k2
    go_wp2
    go_ret
    exact ⟨rfl, bthen HB.out (below_regrown w1 dq osq)⟩
  · go_enter Try.func7, Try.ntmps7
    go_wp2_with fail
    refine (awake_any _).mono ?_
    rintro e w1 ⟨rfl, hb1⟩
    go_wp2
    go_ret
    exact ⟨rfl, ((Below.refl _ _).alloc (Nat.le_refl _) _).trans (hb1.mono (by simp))⟩
end Go.Proofs.Ytlefbpopemkkaaa
