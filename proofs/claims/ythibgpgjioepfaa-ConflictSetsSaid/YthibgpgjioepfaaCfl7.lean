/- conflict.cell, Together; the reference's in, node, Heard. -/
import Derived.Test.YthibgpgjioepfaaCfl6
namespace Go.Proofs.Ythibgpgjioepfaa
open Go Go.RowKit Go.Sort
namespace Nt
def inB (n lo hi : Int) : Bool := decide (lo ≤ n) && decide (n ≤ hi)
set_option maxHeartbeats 400000 in
theorem in_any (n lo hi : Int) (w : World) : Calls Try.prog 61 #[.int .i64 n, .int .i64 lo, .int .i64 hi] w fun e w' => e = .returned (.bool (inB n lo hi)) ∧ w' = w := by
  by_cases h : lo ≤ n
  · have H : Hid (inB n lo hi = decide (n ≤ hi)) := by show _ = _; unfold inB; simp [h]
    go_enter Try.func61, Try.ntmps61
    go_wp2
    go_ret
    exact ⟨by rw [H.out]; rfl, rfl⟩
  · have H : Hid (inB n lo hi = false) := by show _ = _; unfold inB; simp [h]
    go_enter Try.func61, Try.ntmps61
    go_wp2
    go_ret
    exact ⟨by rw [H.out]; rfl, rfl⟩
set_option maxHeartbeats 400000 in
theorem rnode_any (N a : Int) (p q r s t : Value) (w : World) :
    Calls Try.prog 41 #[.agg #[.int .i64 N, p, q, r, s, t], .int .i64 a] w fun e w' => e = .returned (.bool (isNode N a)) ∧ Below w.heap.size w w' := by
  by_cases h : 0 ≤ a
  · have H : Hid (isNode N a = decide (a < N)) := by show _ = _; unfold isNode; simp [h]
    go_enter Try.func41, Try.ntmps41
    go_wp2
    go_ret
    exact ⟨by rw [H.out]; rfl, below_alloc _ _⟩
  · have H : Hid (isNode N a = false) := by show _ = _; unfold isNode; simp [h]
    go_enter Try.func41, Try.ntmps41
    go_wp2
    go_ret
    exact ⟨by rw [H.out]; rfl, below_alloc _ _⟩
set_option maxRecDepth 100000 in
set_option maxHeartbeats 1000000 in
theorem rheard_any (nodes noise thr s d : Int) (PA LA MA : Value) (w : World) (hn : 0 ≤ noise ∧ noise ≤ 68719476736) (ht : 0 ≤ thr ∧ thr ≤ 100000) (hs : 0 ≤ s ∧ s ≤ 8796093022208) (hd : 0 ≤ d ∧ d ≤ 8796093022208) :
    Calls Try.prog 76 #[.agg #[.int .i64 nodes, PA, .int .i64 noise, .int .i64 thr, LA, MA], .int .i64 s, .int .i64 d] w
      fun e w' => e = .returned (.bool (heardB thr noise s d)) ∧ Below w.heap.size w w' := by
  have hp := prod_fit thr (noise + d) ht.1 ht.2 (by omega) (by omega)
  have hw : IntKind.i64.wrap (thr * (noise + d)) = thr * (noise + d) := IntWalk.i64_in _ (by omega)
  replace hp := Lib.hid hp
  go_enter Try.func76, Try.ntmps76
  go_wp2
  go_ret
  exact ⟨rfl, below_alloc _ _⟩
set_option maxRecDepth 100000 in
set_option maxHeartbeats 1000000 in
theorem cell_any (f t l : Int) (w : World) :
    Calls Try.prog 49 #[.agg #[.int .i64 f, .int .i64 t, .int .i64 l]] w fun e w' => e = .returned (.agg #[.int .i64 0, .int .i64 0, .int .i64 f, .int .i64 t, .int .i64 0]) ∧ Below w.heap.size w w' := by
  go_enter Try.func49, Try.ntmps49
  go_wp2
  refine bodyPost_ret (v := .agg #[.int .i64 0, .int .i64 0, .int .i64 f, .int .i64 t, .int .i64 0]) (by simp [results, Try.results49, go_sem]) rfl ⟨rfl, ?_⟩
  exact (below_alloc _ _).alloc (by simp) _
end Nt
end Go.Proofs.Ythibgpgjioepfaa
