/- cmp.Compare, cmp.Or, network.compare. -/
import Derived.Test.YthibgpgjioepfaaNetCheck
import Derived.StillTailTactics
namespace Go.Proofs.Ythibgpgjioepfaa
open Go Go.RowKit Go.Sort
namespace Nt
def cmpI (x y : Int) : Int := if x < y then -1 else if y < x then 1 else 0
set_option maxHeartbeats 400000 in
theorem cmp_any (x y : Int) (w : World) : Calls Try.prog 81 #[.int .i64 x, .int .i64 y] w fun e w' => e = .returned (.int .i64 (cmpI x y)) ∧ w' = w := by
  have key : (x < y ∧ cmpI x y = -1) ∨ (y < x ∧ cmpI x y = 1) ∨ (x = y ∧ cmpI x y = 0) := by
    unfold cmpI
    rcases Int.lt_trichotomy x y with h | h | h
    · exact .inl ⟨h, if_pos h⟩
    · exact .inr (.inr ⟨h, by rw [if_neg (by omega), if_neg (by omega)]⟩)
    · exact .inr (.inl ⟨h, by rw [if_neg (by omega), if_pos h]⟩)
  rcases key with ⟨h, e⟩ | ⟨h, e⟩ | ⟨rfl, e⟩
  all_goals
    replace e := Lib.hid e
    go_enter Try.func81, Try.ntmps81
    go_wp2
    go_ret
    exact ⟨by rw [e.out]; rfl, rfl⟩
def orI (x y : Int) : Int := if x = 0 then y else x
set_option maxHeartbeats 400000 in
theorem or_any (x y : Int) (b : Nat) (w : World) (h0 : w.cell? ⟨b, 0, none⟩ = some (.int .i64 x)) (h1 : w.cell? ⟨b, 1, none⟩ = some (.int .i64 y)) :
    Calls Try.prog 84 #[.slice (some ⟨b, 0, none⟩) 2 2] w fun e w' => e = .returned (.int .i64 (orI x y)) ∧ w = w' := by
  by_cases hx : x = 0
  · have e : Hid (orI x y = y) := if_pos hx
    have hx' : (x != 0) = false := by rw [hx]; rfl
    replace hx := Lib.hid hx
    by_cases hy : y = 0
    · have hy' : (y != 0) = false := by rw [hy]; rfl
      replace hy := Lib.hid hy
      go_enter Try.func84, Try.ntmps84
      go_wp2
      refine wp_loop_rounds 3 ?_
      rw [rounds_succ]
      go_wp2
      rw [rounds_succ]
      go_wp2
      rw [rounds_succ]
      go_wp2
      go_ret
      exact ⟨by rw [e.out, hy.out]; rfl, rfl⟩
    · have hy' : (y != 0) = true := by rw [bne_iff_ne]; exact hy
      replace hy := Lib.hid hy
      go_enter Try.func84, Try.ntmps84
      go_wp2
      refine wp_loop_rounds 3 ?_
      rw [rounds_succ]
      go_wp2
      rw [rounds_succ]
      go_wp2
      go_ret
      exact ⟨by rw [e.out]; rfl, rfl⟩
  · have e : Hid (orI x y = x) := if_neg hx
    have hx' : (x != 0) = true := by rw [bne_iff_ne]; exact hx
    replace hx := Lib.hid hx
    go_enter Try.func84, Try.ntmps84
    go_wp2
    refine wp_loop_rounds 3 ?_
    rw [rounds_succ]
    go_wp2
    go_ret
    exact ⟨by rw [e.out]; rfl, rfl⟩
theorem wp_still_tail {P : Program} {id : Nat} {Q : Exit → Act → World → Prop} {a : Act} {w : World} {l : List Oper} (n : Nat) (hm : P.follows .mixedOrders = true) (hB : Region.lexTailB .any l.toArray n = true)
    (h : wpStill P l.toArray w.drew (fun a' => wpList P l.toArray Q (l.drop n) a' w.drew) (l.take n) a) : (Code.region id l.toArray true).wp P Q a w :=
  wp_region_still_tail n hm hB h
def cmpL (a b : Lnk) : Int := orI (cmpI a.frm b.frm) (cmpI a.to b.to)
set_option maxRecDepth 100000 in
set_option maxHeartbeats 1000000 in
theorem compare_any (a b : Lnk) (w : World) :
    Calls Try.prog 70 #[.agg #[.int .i64 a.frm, .int .i64 a.to, .int .i64 a.loss], .agg #[.int .i64 b.frm, .int .i64 b.to, .int .i64 b.loss]] w
      fun e w' => e = .returned (.int .i64 (cmpL a b)) ∧ Below w.heap.size w w' := by
  obtain ⟨a0, a1, a2⟩ := a
  obtain ⟨b0, b1, b2⟩ := b
  go_enter Try.func70, Try.ntmps70
  go_wp2
  have HA := ((Box.new w #[.int .i64 a0, .int .i64 a1, .int .i64 a2] 44).alloc (.cells #[.int .i64 b0, .int .i64 b1, .int .i64 b2] 44))
  have HB := Box.new (w.alloc (.cells #[.int .i64 a0, .int .i64 a1, .int .i64 a2] 44)) #[.int .i64 b0, .int .i64 b1, .int .i64 b2] 44
  have hbw : Below w.heap.size w ((w.alloc (.cells #[.int .i64 a0, .int .i64 a1, .int .i64 a2] 44)).alloc (.cells #[.int .i64 b0, .int .i64 b1, .int .i64 b2] 44)) := (below_alloc _ _).alloc (by simp) _
  rw [show (w.alloc (.cells #[.int .i64 a0, .int .i64 a1, .int .i64 a2] 44)).heap.size = w.heap.size + 1 by simp] at HB
  generalize (w.alloc (.cells #[.int .i64 a0, .int .i64 a1, .int .i64 a2] 44)).alloc (.cells #[.int .i64 b0, .int .i64 b1, .int .i64 b2] 44) = w1 at *
  have ka := HA.at_
  have kb := HB.at_
  replace hbw := Lib.hid hbw
  replace HA := Lib.hid HA
  replace HB := Lib.hid HB
  refine wp_still_tail 10 (by kernel_rfl) (by kernel_rfl) ?_
  simp only [List.take_succ_cons, List.take_zero, List.drop_succ_cons, List.drop_zero]
  repeat (first | still_step | still_call (cmp_any _ _ _))
  refine wpStill_nil ?_
  go_wp2_with fail
  refine (or_any (cmpI a0 b0) (cmpI a1 b1) _ _ (by simp) (by simp)).mono ?_
  rintro e w2 ⟨rfl, rfl⟩
  go_wp2
  go_ret
  exact ⟨rfl, (hbw.out.alloc hbw.out.size _).drew⟩
end Nt
end Go.Proofs.Ythibgpgjioepfaa
