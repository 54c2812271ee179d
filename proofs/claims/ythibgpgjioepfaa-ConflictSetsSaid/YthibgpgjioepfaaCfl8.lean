/- conflict.Together. -/
import Derived.Test.YthibgpgjioepfaaCfl7
import Derived.Deep.RegionHeld3
namespace Go.Proofs.Ythibgpgjioepfaa
open Go Go.RowKit Go.Sort
namespace Nt
def cellOf (l : Lnk) : Cel := ⟨0, 0, l.frm, l.to, 0⟩
theorem i64_zero : I64 0 := by unfold I64; omega
def togetherN (N : Net) (a b : Lnk) : Bool := goodN N [cellOf a, cellOf b]
theorem two_cells (w : World) (t : TypeId) (a b : Cel) (ha : a.ok) (hb : b.ok) :
    CelS (w.alloc (.cells #[.int .i64 a.slot, .int .i64 a.offset, .int .i64 a.frm, .int .i64 a.to, .int .i64 a.flow, .int .i64 b.slot, .int .i64 b.offset, .int .i64 b.frm, .int .i64 b.to, .int .i64 b.flow] t)) (some ⟨w.heap.size, 0, none⟩) 2 [a, b] := by
  have BX := Box.new w #[.int .i64 a.slot, .int .i64 a.offset, .int .i64 a.frm, .int .i64 a.to, .int .i64 a.flow, .int .i64 b.slot, .int .i64 b.offset, .int .i64 b.frm, .int .i64 b.to, .int .i64 b.flow] t
  refine ⟨⟨rfl, by decide, fun _ => ⟨w.heap.size, 0, rfl, BX.lt, fun i hi j hj => ?_⟩⟩, ?_⟩
  · rw [BX.at_]
    match i, hi, j, hj with
    | 0, _, 0, _ | 0, _, 1, _ | 0, _, 2, _ | 0, _, 3, _ | 0, _, 4, _ => rfl
    | 1, _, 0, _ | 1, _, 1, _ | 1, _, 2, _ | 1, _, 3, _ | 1, _, 4, _ => rfl
  · intro x hx
    rcases List.mem_cons.1 hx with rfl | hx
    · exact ha
    · rcases List.mem_cons.1 hx with rfl | hx
      · exact hb
      · cases hx
def Cs12 (n noise thr a1 a2 a3 b1 b2 b3 : Int) (p l m : Value) (B1 B2 B3 : Nat) (w' : World) : Prop :=
  (w'.cell? ⟨B1, 0, none⟩ = some (.int .i64 n) ∧ w'.cell? ⟨B1, 1, none⟩ = some p ∧ w'.cell? ⟨B1, 2, none⟩ = some (.int .i64 noise) ∧ w'.cell? ⟨B1, 3, none⟩ = some (.int .i64 thr) ∧ w'.cell? ⟨B1, 4, none⟩ = some l ∧ w'.cell? ⟨B1, 5, none⟩ = some m) ∧
  (w'.cell? ⟨B2, 0, none⟩ = some (.int .i64 a1) ∧ w'.cell? ⟨B2, 1, none⟩ = some (.int .i64 a2) ∧ w'.cell? ⟨B2, 2, none⟩ = some (.int .i64 a3)) ∧
  (w'.cell? ⟨B3, 0, none⟩ = some (.int .i64 b1) ∧ w'.cell? ⟨B3, 1, none⟩ = some (.int .i64 b2) ∧ w'.cell? ⟨B3, 2, none⟩ = some (.int .i64 b3))
theorem cs12 {n noise thr a1 a2 a3 b1 b2 b3 : Int} {p l m : Value} {B1 B2 B3 : Nat} {w : World} (h1 : Box w B1 #[.int .i64 n, p, .int .i64 noise, .int .i64 thr, l, m]) (h2 : Box w B2 #[.int .i64 a1, .int .i64 a2, .int .i64 a3]) (h3 : Box w B3 #[.int .i64 b1, .int .i64 b2, .int .i64 b3]) {w' : World} (hb : Below w.heap.size w w') :
    Below w.heap.size w w' ∧ Cs12 n noise thr a1 a2 a3 b1 b2 b3 p l m B1 B2 B3 w' :=
  have k1 := h1.keep hb
  have k2 := h2.keep hb
  have k3 := h3.keep hb
  ⟨hb, ⟨k1.at_ 0, k1.at_ 1, k1.at_ 2, k1.at_ 3, k1.at_ 4, k1.at_ 5⟩, ⟨k2.at_ 0, k2.at_ 1, k2.at_ 2⟩, ⟨k3.at_ 0, k3.at_ 1, k3.at_ 2⟩⟩
set_option maxRecDepth 100000 in
set_option maxHeartbeats 4000000 in
theorem Together_any (N : Net) (v : NetV) (a b : Lnk) (w : World) (hN : NetIs w v N) (ha : a.ok) (hb : b.ok) :
    Calls Try.prog 23 #[.agg #[.int .i64 N.nodes, .slice v.PA v.pn v.pc, .int .i64 N.noise, .int .i64 N.threshold, .slice v.LA v.ln v.lc, .slice v.MA v.mn v.mc], .agg #[.int .i64 a.frm, .int .i64 a.to, .int .i64 a.loss], .agg #[.int .i64 b.frm, .int .i64 b.to, .int .i64 b.loss]] w
      fun e w' => e = .returned (.bool (togetherN N a b)) ∧ Below w.heap.size w w' := by
  have X1 : Box (((w.alloc (.cells #[.int .i64 N.nodes, .slice v.PA v.pn v.pc, .int .i64 N.noise, .int .i64 N.threshold, .slice v.LA v.ln v.lc, .slice v.MA v.mn v.mc] 26)).alloc (.cells #[.int .i64 a.frm, .int .i64 a.to, .int .i64 a.loss] 44)).alloc (.cells #[.int .i64 b.frm, .int .i64 b.to, .int .i64 b.loss] 44)) w.heap.size #[.int .i64 N.nodes, .slice v.PA v.pn v.pc, .int .i64 N.noise, .int .i64 N.threshold, .slice v.LA v.ln v.lc, .slice v.MA v.mn v.mc] := ((Box.new w _ _).alloc _).alloc _
  have X2 : Box (((w.alloc (.cells #[.int .i64 N.nodes, .slice v.PA v.pn v.pc, .int .i64 N.noise, .int .i64 N.threshold, .slice v.LA v.ln v.lc, .slice v.MA v.mn v.mc] 26)).alloc (.cells #[.int .i64 a.frm, .int .i64 a.to, .int .i64 a.loss] 44)).alloc (.cells #[.int .i64 b.frm, .int .i64 b.to, .int .i64 b.loss] 44)) (w.heap.size + 1) #[.int .i64 a.frm, .int .i64 a.to, .int .i64 a.loss] := by
    have h := (Box.new (w.alloc (.cells #[.int .i64 N.nodes, .slice v.PA v.pn v.pc, .int .i64 N.noise, .int .i64 N.threshold, .slice v.LA v.ln v.lc, .slice v.MA v.mn v.mc] 26)) #[.int .i64 a.frm, .int .i64 a.to, .int .i64 a.loss] 44).alloc (.cells #[.int .i64 b.frm, .int .i64 b.to, .int .i64 b.loss] 44)
    simpa using h
  have X3 : Box (((w.alloc (.cells #[.int .i64 N.nodes, .slice v.PA v.pn v.pc, .int .i64 N.noise, .int .i64 N.threshold, .slice v.LA v.ln v.lc, .slice v.MA v.mn v.mc] 26)).alloc (.cells #[.int .i64 a.frm, .int .i64 a.to, .int .i64 a.loss] 44)).alloc (.cells #[.int .i64 b.frm, .int .i64 b.to, .int .i64 b.loss] 44)) (w.heap.size + 1 + 1) #[.int .i64 b.frm, .int .i64 b.to, .int .i64 b.loss] := by
    have h := Box.new ((w.alloc (.cells #[.int .i64 N.nodes, .slice v.PA v.pn v.pc, .int .i64 N.noise, .int .i64 N.threshold, .slice v.LA v.ln v.lc, .slice v.MA v.mn v.mc] 26)).alloc (.cells #[.int .i64 a.frm, .int .i64 a.to, .int .i64 a.loss] 44)) #[.int .i64 b.frm, .int .i64 b.to, .int .i64 b.loss] 44
    simpa using h
  have hb0 : Below w.heap.size w (((w.alloc (.cells #[.int .i64 N.nodes, .slice v.PA v.pn v.pc, .int .i64 N.noise, .int .i64 N.threshold, .slice v.LA v.ln v.lc, .slice v.MA v.mn v.mc] 26)).alloc (.cells #[.int .i64 a.frm, .int .i64 a.to, .int .i64 a.loss] 44)).alloc (.cells #[.int .i64 b.frm, .int .i64 b.to, .int .i64 b.loss] 44)) := ((below_alloc w _).alloc (by simp) _).alloc (by simp; omega) _
  have hN3 := hN.keep hb0
  have HK := fun W' (h : Below _ _ W') => cs12 X1 X2 X3 h
  have ca : (cellOf a).ok := ⟨i64_zero, i64_zero, ha.1, ha.2.1, i64_zero⟩
  have cb : (cellOf b).ok := ⟨i64_zero, i64_zero, hb.1, hb.2.1, i64_zero⟩
  replace HK := Lib.hid HK
  replace hN := Lib.hid hN
  replace hN3 := Lib.hid hN3
  replace hb0 := Lib.hid hb0
  replace ca := Lib.hid ca
  replace cb := Lib.hid cb
  clear X1 X2 X3
  go_enter Try.func23, Try.ntmps23
  go_wp2_with fail
  generalize (((w.alloc (.cells #[.int .i64 N.nodes, .slice v.PA v.pn v.pc, .int .i64 N.noise, .int .i64 N.threshold, .slice v.LA v.ln v.lc, .slice v.MA v.mn v.mc] 26)).alloc (.cells #[.int .i64 a.frm, .int .i64 a.to, .int .i64 a.loss] 44)).alloc (.cells #[.int .i64 b.frm, .int .i64 b.to, .int .i64 b.loss] 44)) = W3 at *
  have HK0 := HK.out _ (Below.refl _ _)
  unfold Cs12 at HK0
  go_region_held3 (fun w' => Below W3.heap.size W3 w' ∧ (w'.cell? ⟨w.heap.size, 0, none⟩ = some (.int .i64 N.nodes) ∧ w'.cell? ⟨w.heap.size, 1, none⟩ = some (.slice v.PA v.pn v.pc) ∧ w'.cell? ⟨w.heap.size, 2, none⟩ = some (.int .i64 N.noise) ∧ w'.cell? ⟨w.heap.size, 3, none⟩ = some (.int .i64 N.threshold) ∧ w'.cell? ⟨w.heap.size, 4, none⟩ = some (.slice v.LA v.ln v.lc) ∧ w'.cell? ⟨w.heap.size, 5, none⟩ = some (.slice v.MA v.mn v.mc)) ∧ (w'.cell? ⟨w.heap.size + 1, 0, none⟩ = some (.int .i64 a.frm) ∧ w'.cell? ⟨w.heap.size + 1, 1, none⟩ = some (.int .i64 a.to) ∧ w'.cell? ⟨w.heap.size + 1, 2, none⟩ = some (.int .i64 a.loss)) ∧ (w'.cell? ⟨w.heap.size + 1 + 1, 0, none⟩ = some (.int .i64 b.frm) ∧ w'.cell? ⟨w.heap.size + 1 + 1, 1, none⟩ = some (.int .i64 b.to) ∧ w'.cell? ⟨w.heap.size + 1 + 1, 2, none⟩ = some (.int .i64 b.loss)))
    (first
      | exact HK.out _ ((Below.refl _ _).drew)
      | exact HK.out _ (bthen (And.left (by assumption)) (by assumption))
      | exact HK.out _ (bthen (by assumption) (by assumption))
      | exact HK.out _ (bthen (And.left (by assumption)) (below_alloc _ _))
      | exact HK.out _ (bthen (by assumption) (below_alloc _ _))
      | (trace_state; fail))
    (first
      | (go_at_call 49; refine (cell_any _ _ _ _).mono ?_; rintro e w1 ⟨rfl, hb1⟩)
      | (go_at_call 17; refine (Good_any N v _ 2 2 [cellOf a, cellOf b] _ (hN3.out.keep (And.left (by assumption))) (two_cells _ _ (cellOf a) (cellOf b) ca.out cb.out) (by decide)).mono ?_; rintro e w1 ⟨rfl, hb1⟩))
  go_wp2
  go_ret
  have hz : Below W3.heap.size W3 w1 := And.left (by assumption)
  exact ⟨rfl, bthen hb0.out hz⟩
end Nt
end Go.Proofs.Ythibgpgjioepfaa
