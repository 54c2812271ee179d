/- Maps whose keys are cells. -/
import Derived.Test.YtnkgmpmedkegbaaSw4
import Derived.DeepKeys4
import Derived.Maps.Own
import Derived.Maps.Keyed
import Derived.Maps.Views
namespace Go.Proofs.Ytnkgmpmedkegbaa
open Go Go.RowKit Go.Sort Go.Maps Go.WideMaps
namespace Sw
open Mm
theorem wideC : (match Try.prog.underlying 34 with | some (.array _ _) | some (.struct _) => true | _ => false) = true := by rw [Try.underlying34]
theorem laidC : laidOutB Try.prog = true := by kernel_rfl
theorem rowC : (34 : TypeId) < Try.prog.types.size := of_decide_eq_true (by kernel_rfl)
set_option maxRecDepth 100000 in
theorem lawC : Keyed Try.prog 34 := Keyed.of_law (deep_law_laid laidC (m := 2) (by omega) rowC (by kernel_rfl) wideC)
def I64 (x : Int) : Prop := (Lit.int .i64 x).wf = true
def Cel.ok (c : Cel) : Prop := I64 c.slot ∧ I64 c.offset ∧ I64 c.frm ∧ I64 c.to ∧ I64 c.flow
def keyC (c : Cel) : Lit := .string (keyBytes [.int .i64 c.slot, .int .i64 c.offset, .int .i64 c.frm, .int .i64 c.to, .int .i64 c.flow])
set_option maxRecDepth 100000 in
theorem key_cel (c : Cel) (h : c.ok) : keyOf Try.prog 34 (.agg #[.int .i64 c.slot, .int .i64 c.offset, .int .i64 c.frm, .int .i64 c.to, .int .i64 c.flow]) = some (keyC c) := by
  obtain ⟨h0, h1, h2, h3, h4⟩ := h
  unfold I64 at *
  have kt : Try.prog.keyType 34 = true := by kernel_rfl
  have hc : Try.prog.cellsOf 34 = 5 := by kernel_rfl
  have hf : (Value.agg #[.int .i64 c.slot, .int .i64 c.offset, .int .i64 c.frm, .int .i64 c.to, .int .i64 c.flow]).formed Try.prog 34 = true := by simp [Value.formed, Try.underlying34, hc]
  have hn : ∃ m, Try.prog.types.size + 1 = m + 2 := ⟨Try.prog.types.size - 1, by have : 1 ≤ Try.prog.types.size := of_decide_eq_true (by kernel_rfl); omega⟩
  obtain ⟨m, hm⟩ := hn
  have hi : Try.prog.cellsOf 3 = 1 := by kernel_rfl
  unfold keyOf
  rw [Try.underlying34]
  simp only [kt, hf, Bool.and_self, if_true, hm]
  simp [Program.keyLits, Try.underlying34, Try.underlying3, hc, hi, Value.cells, h0, h1, h2, h3, h4, keyC]
set_option maxRecDepth 100000 in
theorem keyC_inj {c d : Cel} (hc : c.ok) (hd : d.ok) (h : keyC c = keyC d) : c = d := by
  have h1 := key_cel c hc
  rw [h] at h1
  have h2 := lawC.inj h1 (key_cel d hd)
  obtain ⟨c0, c1, c2, c3, c4⟩ := c
  obtain ⟨d0, d1, d2, d3, d4⟩ := d
  injection h2 with h2
  simp at h2
  obtain ⟨e0, e1, e2, e3, e4⟩ := h2
  rw [e0, e1, e2, e3, e4]
/-- the datum says of each cell what f says -/
structure HasD (D : DataW Unit) (f : Cel → Bool) : Prop where
  isMap : IsMap D
  at_ : ∀ c : Cel, c.ok → D.atKey (keyC c) (.lit (.bool false)) = .lit (.bool (f c))
set_option maxRecDepth 100000 in
theorem HasD.empty : HasD (.map []) (fun _ => false) := ⟨isMap_empty, fun _ _ => rfl⟩
def setF (f : Cel → Bool) (c : Cel) (b : Bool) (x : Cel) : Bool := if x = c then b else f x
set_option maxRecDepth 100000 in
theorem HasD.put {D : DataW Unit} {f : Cel → Bool} (h : HasD D f) {c : Cel} (hc : c.ok) (b : Bool) : HasD (D.put (keyC c) (.lit (.bool b))) (setF f c b) :=
  ⟨h.isMap.put _ _, fun x hx => by
    unfold setF
    by_cases e : x = c
    · subst e
      rw [atKey_put_same h.isMap (lawC.key (key_cel x hx)), if_pos rfl]
    · rw [atKey_put_other (fun e2 => e (keyC_inj hx hc e2)), h.at_ x hx, if_neg e]⟩
/-- a map of cells that the call has made -/
def OwnC (w : World) (b n : Nat) (f : Cel → Bool) : Prop := ∃ D, w.ownsMap Try.prog 34 (plainElem Try.prog 4) b n D ∧ HasD D f
theorem zeroB (w : World) : (zeroValue 4).run Try.prog w = .ok (.bool false) w := by kernel_rfl
set_option maxRecDepth 100000 in
theorem boolE (b : Bool) : plainElem (H := Unit) Try.prog 4 (.bool b) = some (.lit (.bool b), []) := by unfold plainElem; rw [Try.underlying4]
set_option maxRecDepth 100000 in
theorem boolE_inv {v : Value} {zz : DataW Unit × List MemPlace} (h : plainElem Try.prog 4 v = some zz) : ∃ b, v = .bool b ∧ zz = (.lit (.bool b), []) := by
  unfold plainElem at h
  rw [Try.underlying4] at h
  cases v <;> simp at h
  exact ⟨_, rfl, h.symm⟩
set_option maxRecDepth 100000 in
theorem OwnC.look {w : World} {b n : Nat} {f : Cel → Bool} (h : OwnC w b n f) (c : Cel) (hc : c.ok) : (Instr.lookup 65 (.map (some b)) (.agg #[.int .i64 c.slot, .int .i64 c.offset, .int .i64 c.frm, .int .i64 c.to, .int .i64 c.flow]) false).run Try.prog w = .ok (.bool (f c)) w := by
  obtain ⟨D, hO, hD⟩ := h
  obtain ⟨v, ps, hrun, hv⟩ := hO.lookup lawC Try.underlying65 (zeroB w) (boolE false) (key_cel c hc)
  obtain ⟨x, rfl, hx⟩ := boolE_inv hv
  rw [hD.at_ c hc] at hx
  simp at hx
  rw [hrun, hx.1]
set_option maxRecDepth 100000 in
theorem OwnC.upd {w : World} {b n : Nat} {f : Cel → Bool} (h : OwnC w b n f) (hn : n < maxLen) (c : Cel) (hc : c.ok) (x : Bool) :
    ∃ w', (Instr.mapUpdate 65 (.map (some b)) (.agg #[.int .i64 c.slot, .int .i64 c.offset, .int .i64 c.frm, .int .i64 c.to, .int .i64 c.flow]) (.bool x)).run Try.prog w = .ok () w' ∧ OwnC w' b (n + 1) (setF f c x) ∧ w.grownBy w' (some b) := by
  obtain ⟨D, hO, hD⟩ := h
  obtain ⟨w', hrun, hO2, hg⟩ := hO.update lawC Try.underlying65 hn (key_cel c hc) (boolE x)
  exact ⟨w', hrun, ⟨_, hO2, hD.put hc x⟩, hg⟩
theorem OwnC.keep {w w' : World} {b n : Nat} {f : Cel → Bool} (h : OwnC w b n f) (hb : Below w.heap.size w w') : OwnC w' b n f := by
  obtain ⟨D, hO, hD⟩ := h
  exact ⟨D, hO.kept (row := none) ⟨hb.os, hb.tape, hb.output, hb.size, fun i hi _ => hb.block i hi⟩ (by simp), hD⟩
theorem OwnC.made (w : World) : OwnC (w.alloc (.map #[] 0)) w.heap.size 0 (fun _ => false) := ⟨_, World.ownsMap_made _ _ _ _, HasD.empty⟩
theorem OwnC.lt {w : World} {b n : Nat} {f : Cel → Bool} (h : OwnC w b n f) : b < w.heap.size := by obtain ⟨D, hO, _⟩ := h; exact hO.lt
end Sw
end Go.Proofs.Ytnkgmpmedkegbaa
