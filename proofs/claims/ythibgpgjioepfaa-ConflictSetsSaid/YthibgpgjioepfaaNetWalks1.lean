/- Walks: conflict.isNode, disturbance, Disturbance; slices' functions over cells. -/
import Derived.Test.YthibgpgjioepfaaNetBase
namespace Go.Proofs.Ythibgpgjioepfaa
open Go Go.RowKit Go.Sort
namespace Nt
set_option maxHeartbeats 400000 in
theorem isNode_any (N a : Int) (p q r s t : Value) (w : World) :
    Calls Try.prog 37 #[.agg #[.int .i64 N, p, q, r, s, t], .int .i64 a] w fun e w' => e = .returned (.bool (isNode N a)) ∧ Below w.heap.size w w' := by
  by_cases h : 0 ≤ a
  · have H : Hid (isNode N a = decide (a < N)) := by show _ = _; unfold isNode; simp [h]
    go_enter Try.func37, Try.ntmps37
    go_wp2
    go_ret
    exact ⟨by rw [H.out]; rfl, below_alloc _ _⟩
  · have H : Hid (isNode N a = false) := by show _ = _; unfold isNode; simp [h]
    go_enter Try.func37, Try.ntmps37
    go_wp2
    go_ret
    exact ⟨by rw [H.out]; rfl, below_alloc _ _⟩
def celV (c : Cel) : Value := .agg #[.int .i64 c.slot, .int .i64 c.offset, .int .i64 c.frm, .int .i64 c.to, .int .i64 c.flow]
def noneC (n : Int) (c : Cel) : Bool := !isNode n c.frm || !isNode n c.to
set_option maxHeartbeats 400000 in
theorem noneC_any (N : Int) (p q r s t : Value) (c : Cel) (B : Nat) (w : World) (hB : Box w B #[.int .i64 N, p, q, r, s, t]) :
    Calls Try.prog 36 #[.agg #[.int .i64 c.slot, .int .i64 c.offset, .int .i64 c.frm, .int .i64 c.to, .int .i64 c.flow], .pointer (some ⟨B, 0, none⟩)] w fun e w' => e = .returned (.bool (noneC N c)) ∧ Below w.heap.size w w' := by
  have hc := hB.at_
  have hlt := hB.lt
  replace hB := Lib.hid hB
  obtain ⟨c0, c1, c2, c3, c4⟩ := c
  go_enter Try.func36, Try.ntmps36
  go_wp2_with fail
  refine (isNode_any _ _ _ _ _ _ _ _).mono ?_
  rintro e w1 ⟨rfl, hb1⟩
  clear hc
  have hB1 := ((hB.out.alloc _).keep hb1).at_
  have hB2 := ((Box.new w _ _).keep hb1).at_
  replace hb1 := Lib.hid (box_below hb1)
  by_cases h : isNode N c2 = true
  · have H : Hid (noneC N ⟨c0, c1, c2, c3, c4⟩ = !isNode N c3) := by show _ = _; unfold noneC; simp only; rw [h]; rfl
    go_wp2_with fail
    refine (isNode_any _ _ _ _ _ _ _ _).mono ?_
    rintro e w2 ⟨rfl, hb2⟩
    go_wp2
    go_ret
    exact ⟨by rw [H.out]; rfl, bthen hb1.out hb2⟩
  · have h : isNode N c2 = false := by simpa using h
    have H : Hid (noneC N ⟨c0, c1, c2, c3, c4⟩ = true) := by show _ = _; unfold noneC; simp only; rw [h]; rfl
    go_wp2
    go_ret
    exact ⟨by rw [H.out]; rfl, hb1.out⟩
end Nt
end Go.Proofs.Ythibgpgjioepfaa
