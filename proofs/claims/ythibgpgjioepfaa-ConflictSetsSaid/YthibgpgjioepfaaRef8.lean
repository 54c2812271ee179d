/- hopmeshref34.Together; the walk of ConflictFaults. -/
import Derived.Test.YthibgpgjioepfaaRef7
import Derived.Test.YthibgpgjioepfaaLaw4
namespace Go.Proofs.Ythibgpgjioepfaa
open Go Go.RowKit Go.Sort
namespace Nt
open Mm
theorem two_links (w : World) (t : TypeId) (a b : Lnk) (ha : a.ok) (hb : b.ok) :
    LnkS (w.alloc (.cells #[.int .i64 a.frm, .int .i64 a.to, .int .i64 a.loss, .int .i64 b.frm, .int .i64 b.to, .int .i64 b.loss] t)) (some ⟨w.heap.size, 0, none⟩) 2 [a, b] := by
  have BX := Box.new w #[.int .i64 a.frm, .int .i64 a.to, .int .i64 a.loss, .int .i64 b.frm, .int .i64 b.to, .int .i64 b.loss] t
  refine ⟨⟨rfl, by decide, fun _ => ⟨w.heap.size, 0, rfl, BX.lt, fun i hi j hj => ?_⟩⟩, ?_⟩
  · rw [BX.at_]
    match i, hi, j, hj with
    | 0, _, 0, _ | 0, _, 1, _ | 0, _, 2, _ => rfl
    | 1, _, 0, _ | 1, _, 1, _ | 1, _, 2, _ => rfl
  · intro x hx
    rcases List.mem_cons.1 hx with rfl | hx
    · exact ha
    · rcases List.mem_cons.1 hx with rfl | hx
      · exact hb
      · cases hx
set_option maxRecDepth 100000 in
set_option maxHeartbeats 4000000 in
theorem rTogether_any (N : Net) (v : NetV) (a b : Lnk) (w : World) (hN : NetIs w v N) (ha : a.ok) (hb : b.ok) :
    Calls Try.prog 24 #[.agg #[.int .i64 N.nodes, .slice v.PA v.pn v.pc, .int .i64 N.noise, .int .i64 N.threshold, .slice v.LA v.ln v.lc, .slice v.MA v.mn v.mc], .agg #[.int .i64 a.frm, .int .i64 a.to, .int .i64 a.loss], .agg #[.int .i64 b.frm, .int .i64 b.to, .int .i64 b.loss]] w
      fun e w' => e = .returned (.bool (togetherN N a b)) ∧ Below w.heap.size w w' := by
  have X1 : Box (((w.alloc (.cells #[.int .i64 N.nodes, .slice v.PA v.pn v.pc, .int .i64 N.noise, .int .i64 N.threshold, .slice v.LA v.ln v.lc, .slice v.MA v.mn v.mc] 26)).alloc (.cells #[.int .i64 a.frm, .int .i64 a.to, .int .i64 a.loss] 44)).alloc (.cells #[.int .i64 b.frm, .int .i64 b.to, .int .i64 b.loss] 44)) w.heap.size #[.int .i64 N.nodes, .slice v.PA v.pn v.pc, .int .i64 N.noise, .int .i64 N.threshold, .slice v.LA v.ln v.lc, .slice v.MA v.mn v.mc] := ((Box.new w _ _).alloc _).alloc _
  have X2 : Box (((w.alloc (.cells #[.int .i64 N.nodes, .slice v.PA v.pn v.pc, .int .i64 N.noise, .int .i64 N.threshold, .slice v.LA v.ln v.lc, .slice v.MA v.mn v.mc] 26)).alloc (.cells #[.int .i64 a.frm, .int .i64 a.to, .int .i64 a.loss] 44)).alloc (.cells #[.int .i64 b.frm, .int .i64 b.to, .int .i64 b.loss] 44)) (w.heap.size + 1) #[.int .i64 a.frm, .int .i64 a.to, .int .i64 a.loss] := by
    have h := (Box.new (w.alloc (.cells #[.int .i64 N.nodes, .slice v.PA v.pn v.pc, .int .i64 N.noise, .int .i64 N.threshold, .slice v.LA v.ln v.lc, .slice v.MA v.mn v.mc] 26)) #[.int .i64 a.frm, .int .i64 a.to, .int .i64 a.loss] 44).alloc (.cells #[.int .i64 b.frm, .int .i64 b.to, .int .i64 b.loss] 44)
    simpa using h
  have X3 : Box (((w.alloc (.cells #[.int .i64 N.nodes, .slice v.PA v.pn v.pc, .int .i64 N.noise, .int .i64 N.threshold, .slice v.LA v.ln v.lc, .slice v.MA v.mn v.mc] 26)).alloc (.cells #[.int .i64 a.frm, .int .i64 a.to, .int .i64 a.loss] 44)).alloc (.cells #[.int .i64 b.frm, .int .i64 b.to, .int .i64 b.loss] 44)) (w.heap.size + 1 + 1) #[.int .i64 b.frm, .int .i64 b.to, .int .i64 b.loss] := by
    have h := Box.new ((w.alloc (.cells #[.int .i64 N.nodes, .slice v.PA v.pn v.pc, .int .i64 N.noise, .int .i64 N.threshold, .slice v.LA v.ln v.lc, .slice v.MA v.mn v.mc] 26)).alloc (.cells #[.int .i64 a.frm, .int .i64 a.to, .int .i64 a.loss] 44)) #[.int .i64 b.frm, .int .i64 b.to, .int .i64 b.loss] 44
    simpa using h
  have hb0 : Below w.heap.size w (((w.alloc (.cells #[.int .i64 N.nodes, .slice v.PA v.pn v.pc, .int .i64 N.noise, .int .i64 N.threshold, .slice v.LA v.ln v.lc, .slice v.MA v.mn v.mc] 26)).alloc (.cells #[.int .i64 a.frm, .int .i64 a.to, .int .i64 a.loss] 44)).alloc (.cells #[.int .i64 b.frm, .int .i64 b.to, .int .i64 b.loss] 44)) := ((below_alloc w _).alloc (by simp) _).alloc (by simp; omega) _
  have hN3 := hN.keep hb0
  have HK := fun W' (h : Below _ _ W') => cs12 X1 X2 X3 h
  replace HK := Lib.hid HK
  replace hN := Lib.hid hN
  replace hN3 := Lib.hid hN3
  replace hb0 := Lib.hid hb0
  clear X1 X2 X3
  have HCe := fun W A (h : LnkS W A 2 [a, b]) => rCells_any A 2 2 [a, b] W h (by decide)
  replace HCe := Lib.hid HCe
  replace ha := Lib.hid ha
  replace hb := Lib.hid hb
  go_enter Try.func24, Try.ntmps24
  go_wp2_with fail
  generalize (((w.alloc (.cells #[.int .i64 N.nodes, .slice v.PA v.pn v.pc, .int .i64 N.noise, .int .i64 N.threshold, .slice v.LA v.ln v.lc, .slice v.MA v.mn v.mc] 26)).alloc (.cells #[.int .i64 a.frm, .int .i64 a.to, .int .i64 a.loss] 44)).alloc (.cells #[.int .i64 b.frm, .int .i64 b.to, .int .i64 b.loss] 44)) = W3 at *
  have HK0 := HK.out _ (Below.refl _ _)
  unfold Cs12 at HK0
  go_region_held3 (fun w' => Below W3.heap.size W3 w' ∧ (w'.cell? ⟨w.heap.size, 0, none⟩ = some (.int .i64 N.nodes) ∧ w'.cell? ⟨w.heap.size, 1, none⟩ = some (.slice v.PA v.pn v.pc) ∧ w'.cell? ⟨w.heap.size, 2, none⟩ = some (.int .i64 N.noise) ∧ w'.cell? ⟨w.heap.size, 3, none⟩ = some (.int .i64 N.threshold) ∧ w'.cell? ⟨w.heap.size, 4, none⟩ = some (.slice v.LA v.ln v.lc) ∧ w'.cell? ⟨w.heap.size, 5, none⟩ = some (.slice v.MA v.mn v.mc)) ∧ (w'.cell? ⟨w.heap.size + 1, 0, none⟩ = some (.int .i64 a.frm) ∧ w'.cell? ⟨w.heap.size + 1, 1, none⟩ = some (.int .i64 a.to) ∧ w'.cell? ⟨w.heap.size + 1, 2, none⟩ = some (.int .i64 a.loss)) ∧ (w'.cell? ⟨w.heap.size + 1 + 1, 0, none⟩ = some (.int .i64 b.frm) ∧ w'.cell? ⟨w.heap.size + 1 + 1, 1, none⟩ = some (.int .i64 b.to) ∧ w'.cell? ⟨w.heap.size + 1 + 1, 2, none⟩ = some (.int .i64 b.loss)))
    (first
      | exact HK.out _ ((Below.refl _ _).drew)
      | exact HK.out _ (bthen (And.left (by assumption)) (by assumption))
      | exact HK.out _ (bthen (by assumption) (by assumption))
      | exact HK.out _ (bthen (And.left (by assumption)) (below_alloc _ _))
      | exact HK.out _ (bthen (by assumption) (below_alloc _ _)))
    (first
      | (go_at_call 50; refine (HCe.out _ _ ((two_links W3 44 a b ha.out hb.out).keep ((Below.refl _ _).drew))).mono ?_; rintro e w1 ⟨A1, c1, rfl, hcs, hb1⟩)
      | (go_at_call 22; refine (rGood_any N v _ 2 _ [cellOf a, cellOf b] _ (hN3.out.keep (And.left (by assumption))) (by assumption) (by decide)).mono ?_; rintro e w1 ⟨rfl, hb1⟩))
  go_wp2
  go_ret
  have hz : Below W3.heap.size W3 w1 := And.left (by assumption)
  exact ⟨rfl, bthen hb0.out hz⟩
end Nt
end Go.Proofs.Ythibgpgjioepfaa
