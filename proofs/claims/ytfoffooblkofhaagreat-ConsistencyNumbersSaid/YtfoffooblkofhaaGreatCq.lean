/- Plans: operations that are guarded. -/
import Derived.Test.YtfoffooblkofhaaGreatDq
set_option linter.unusedVariables false
set_option linter.unusedSimpArgs false
namespace Go.Proofs.YtfoffooblkofhaaGreat.Pl
open Go
section
variable {P : Program} {Q : Exit → Act → World → Prop} {S : World → Prop}
theorem plPureG {l : List Oper} {L : Act → World → Prop} {i : Nat} {p : List (Nat × Bool)} {o : Oper} {v : Value} {a : Act} {w : World} (ho : l[i]? = some o) (hw : Region.wanted o (yielded l.toArray a.tmps) = true) (hy : ∀ w, S w → (execOp a.eval o).run P w = .ok (.value v) w) (h : wpPl P l.toArray Q S L p (a.put o.dst v) w) : wpPl P l.toArray Q S L ((i, true) :: p) a w := plTakeL ho (.inl ⟨hw, hy⟩) h
theorem plSkipG {l : List Oper} {L : Act → World → Prop} {i : Nat} {p : List (Nat × Bool)} {o : Oper} {a : Act} {w : World} (ho : l[i]? = some o) (hw : Region.wanted o (yielded l.toArray a.tmps) = false) (h : wpPl P l.toArray Q S L p (a.put o.dst undef) w) : wpPl P l.toArray Q S L ((i, true) :: p) a w := plTakeL ho (.inr ⟨hw, rfl⟩) h
theorem plStepG {l : List Oper} {L : Act → World → Prop} {i : Nat} {p : List (Nat × Bool)} {o : Oper} {a : Act} {w : World} (ho : l[i]? = some o) (hw : Region.wanted o (yielded l.toArray a.tmps) = true) (h : ∀ K : Act → World → Prop, Shut (∀ a' w', S w' → (S w' → wpPl P l.toArray Q S L p a' w') → K a' w') → wpList P l.toArray (Exit.then K Q) [o] a w) : wpPl P l.toArray Q S L ((i, false) :: p) a w := by
  have h1 := h _ (fun a' w' h1 h2 => And.intro h1 (h2 h1))
  show wpOp P l.toArray Q i _ a w
  unfold wpOp
  have hx : l.toArray[i]? = some o := by simpa using ho
  simp only [hx, hw, if_true]
  simp only [wpList, hw, if_true] at h1
  rcases h1 with h1 | ⟨h1, h2⟩
  · refine .inl ?_
    unfold Oper.wp at *
    generalize (execOp a.eval o).run P w = r at *
    cases r with
    | ok x w' => cases x <;> exact h1
    | halt x w' => cases x <;> exact h1
  · obtain ⟨a', w', h2⟩ := h2
    exact .inr ⟨h1, a', w', h2⟩
end
end Go.Proofs.YtfoffooblkofhaaGreat.Pl
namespace Go.Proofs.YtfoffooblkofhaaGreat
open Go Go.RowKit Go.Sort Go.Lib
namespace Tx
open Sw Mm Pl
section
variable {P : Program} {ops : Array Oper} {Q : Exit → Act → World → Prop} {S : World → Prop}
/-- a load of a whole block that is known, the load guarded or not -/
theorem yields_memG {o : Oper} {a : Act} {a0 : World} {L : List (Nat × Array Value × TypeId)} (hw : Region.wanted o (yielded ops a.tmps) = true) (ty : TypeId) (x : Operand) (ho : o.op = .load ty x) (i : Nat) {B : Nat} {C : Array Value} {t : TypeId} (hS : ∀ w, S w → Mem a0 w L) (hL : L[i]? = some (B, C, t)) (hx : a.eval x = .pointer (some ⟨B, 0, none⟩))
    (d : TypeDesc) (hu : P.underlying ty = some d) (hd : d.isRow = true) (hi : (P.info? ty).map (·.size) = some C.size) : YieldsIf P ops S o (.agg C) a :=
  yieldsIf_load_mid hw ty x ho B 0 hx C.toList d (fun w hs => (hS w hs).range i hL 0 C (by simp)) hu hd (by rw [hi]; simp)
/-- a load of one cell of a block that is known whole, the load guarded or not -/
theorem yields_celG {o : Oper} {a : Act} {a0 : World} {L : List (Nat × Array Value × TypeId)} (hw : Region.wanted o (yielded ops a.tmps) = true) (ty : TypeId) (x : Operand) (ho : o.op = .load ty x) (i : Nat) {B : Nat} {C : Array Value} {t : TypeId} (hS : ∀ w, S w → Mem a0 w L) (hL : L[i]? = some (B, C, t)) (k : Nat) (hx : a.eval x = .pointer (some ⟨B, k, none⟩)) (v : Value) (hv : C[k]? = some v)
    (d : TypeDesc) (hu : P.underlying ty = some d) (hd : (match d with | .struct _ | .array _ _ => true | _ => false) = false) : YieldsIf P ops S o v a :=
  .inl ⟨hw, fun w hs => by
    have h1 := ((hS w hs).cell i hL k).trans hv
    simp [execOp, ho, hx, Instr.loadAt, Instr.sureAddr, loadVar, run_isAgg_plain hu hd, run_load, h1]⟩
/-- a load of one cell of a block that is known whole, guarded or not -/
theorem wpList_loadC {rest : List Oper} {op : Oper} {a : Act} {w : World} (i : Nat) {a0 : World} {L : List (Nat × Array Value × TypeId)} (hM : Hid (Mem a0 w L)) (hw : Region.wanted op (yielded ops a.tmps) = true) (ty : TypeId) (x : Operand) (ho : op.op = .load ty x) {B : Nat} {C : Array Value} {t : TypeId} (hL : L[i]? = some (B, C, t)) (k : Nat) (hx : a.eval x = .pointer (some ⟨B, k, none⟩)) (v : Value) (hv : C[k]? = some v)
    (d : TypeDesc) (hu : P.underlying ty = some d) (hd : (match d with | .struct _ | .array _ _ => true | _ => false) = false) (h : wpList P ops Q rest (a.put op.dst v) w) : wpList P ops Q (op :: rest) a w :=
  wpList_pureX hw (by
    have h1 := (hM.out.cell i hL k).trans hv
    simp [execOp, ho, hx, Instr.loadAt, Instr.sureAddr, loadVar, run_isAgg_plain hu hd, run_load, h1]) h
end
end Tx
end Go.Proofs.YtfoffooblkofhaaGreat
