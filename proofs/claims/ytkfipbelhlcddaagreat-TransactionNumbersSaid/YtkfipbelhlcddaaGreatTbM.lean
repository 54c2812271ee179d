/- Chapter 26: the map of the numbers seen. -/
import Derived.Test.YtkfipbelhlcddaaGreatTaV
import Derived.Maps.Own
import Derived.Maps.OwnOps
import Derived.Maps.OwnSet
import Derived.Maps.Views
set_option linter.unusedVariables false
set_option linter.unusedSimpArgs false
namespace Go.Proofs.YtkfipbelhlcddaaGreat
open Go Go.RowKit Go.Sort Go.Maps
namespace Tx
open Sw Mm
def natsTo : Nat → List Nat
  | 0 => []
  | k + 1 => (k + 1) :: natsTo k
theorem natsTo_mem : ∀ {k j : Nat}, j ∈ natsTo k ↔ 1 ≤ j ∧ j ≤ k
  | 0, j => by simp [natsTo]; omega
  | k + 1, j => by
    rw [natsTo, List.mem_cons, natsTo_mem]; omega
theorem natsTo_nodup : ∀ k, (natsTo k).Nodup
  | 0 => List.nodup_nil
  | k + 1 => by
    rw [natsTo, List.nodup_cons, natsTo_mem]
    exact ⟨by omega, natsTo_nodup k⟩
theorem natsTo_len : ∀ k, (natsTo k).length = k
  | 0 => rfl
  | k + 1 => by rw [natsTo, List.length_cons, natsTo_len k]
/-- the map of the numbers seen -/
def keyL (k : Nat) : Lit := .int .i64 (k : Int)
def SeenD : List Nat → DataW Unit
  | [] => .map []
  | k :: ks => (SeenD ks).put (keyL k) (.lit (.bool true))
theorem keyL_isKey (k : Nat) : WideAt.IsKeyLit (keyL k) := trivial
theorem keyL_ne {j k : Nat} (h : j ≠ k) : keyL j ≠ keyL k := by
  unfold keyL; intro e; injection e with _ e; omega
theorem SeenD_isMap : ∀ ks, Maps.IsMap (SeenD ks)
  | [] => Maps.isMap_empty
  | _ :: ks => (SeenD_isMap ks).put _ _
theorem SeenD_tidy : ∀ ks, Maps.Tidy (SeenD ks)
  | [] => Maps.tidy_empty
  | k :: ks => (SeenD_tidy ks).put (keyL_isKey k) _
theorem SeenD_at : ∀ (ks : List Nat), ∀ k, (SeenD ks).atKey (keyL k) (.lit (.bool false)) = .lit (.bool (decide (k ∈ ks)))
  | [], k => by simp [SeenD, DataW.atKey]
  | j :: ks, k => by
    by_cases c : k = j
    · subst c
      simp only [SeenD]
      rw [Maps.atKey_put_same (SeenD_isMap ks) (keyL_isKey k)]
      simp
    · simp only [SeenD]
      rw [Maps.atKey_put_other (keyL_ne c), SeenD_at ks k]
      simp [c]
theorem SeenD_has : ∀ (ks : List Nat), ∀ k, Maps.has (SeenD ks) (keyL k) = decide (k ∈ ks)
  | [], k => by simp [SeenD, Maps.has]
  | j :: ks, k => by
    by_cases c : k = j
    · subst c
      simp only [SeenD]
      rw [Maps.has_put_same (SeenD_isMap ks) (keyL_isKey k)]
      simp
    · simp only [SeenD]
      rw [Maps.has_put_other (keyL_ne c), SeenD_has ks k]
      simp [c]
theorem SeenD_size : ∀ (ks : List Nat), ks.Nodup → Maps.size (SeenD ks) = ks.length
  | [], _ => rfl
  | k :: ks, hn => by
    have hn' := List.nodup_cons.1 hn
    simp only [SeenD]
    rw [Maps.size_put (SeenD_tidy ks), SeenD_has ks, if_neg (by simp [hn'.1]), SeenD_size ks hn'.2]
    rfl
/-- 'm[k]' at bools -/
theorem plainElem_bool_inv {H : Type} {P : Program} {e : TypeId} (he : P.underlying e = some .bool) {v : Value} {zz : DataW H × List MemPlace} (h : plainElem P e v = some zz) : ∃ b, v = .bool b ∧ zz = (.lit (.bool b), []) := by
  unfold plainElem at h
  rw [he] at h
  cases v <;> simp at h
  exact ⟨_, rfl, h.symm⟩
theorem wpList_lookup_own_bool {H : Type} {P : Program} (w : World) {ops : Array Oper} {rest : List Oper} {o : Oper} {a : Act} {Q : Exit → Act → World → Prop}
    (hg : o.guard = none) (m x : Operand) (t : TypeId) (hop : o.op = Op.lookup t m x false)
    (k e : TypeId) (K : Maps.Keyed P k) (ht : P.underlying t = some (.map k e)) (he : P.underlying e = some .bool) (hz : (zeroValue e).run P w = .ok (.bool false) w) (b n : Nat) (D : DataW H)
    (hm : a.eval m = .map (some b)) (hown : w.ownsMap P k (plainElem P e) b n D) (key : Value) (kl : Lit) (hx : a.eval x = key) (hkey : keyOf P k key = some kl)
    (hK : ∀ c : Bool, D.atKey kl (.lit (.bool false)) = .lit (.bool c) → wpList P ops Q rest (a.put o.dst (.bool c)) w) :
    wpList P ops Q (o :: rest) a w := by
  refine wpList_plain hg fun K' hK' => ?_
  obtain ⟨v, ps, hrun, hv⟩ := hown.lookup K ht hz (plainElem_bool he false) hkey
  obtain ⟨c, rfl, hc⟩ := plainElem_bool_inv he hv
  simp only [Prod.mk.injEq] at hc
  unfold Oper.wp
  simp [execOp, hop, hm, hx, hrun, Result.andThen]
  exact hK' _ _ (hK c hc.1)
theorem own_below {H : Type} {w w' : World} {P : Program} {k : TypeId} {R : Value → Option (DataW H × List MemPlace)} {b n : Nat} {D : DataW H} (h : w.ownsMap P k R b n D) (hb : Below w.heap.size w w') : w'.ownsMap P k R b n D :=
  h.kept (row := none) ⟨hb.os, hb.tape, hb.output, hb.size, fun i hi _ => hb.block i hi⟩ (by simp)
theorem next_nat {k : Nat} (h : k < 255) : nextN (k : Int) = ((k + 1 : Nat) : Int) := by
  unfold nextN
  rw [if_neg (by omega), if_neg (by omega)]
  omega
/-- a guarded lookup -/
theorem wpList_lookupG {H : Type} {P : Program} (w : World) {ops : Array Oper} {rest : List Oper} {o : Oper} {a : Act} {Q : Exit → Act → World → Prop}
    (hw : Region.wanted o (yielded ops a.tmps) = true) (m x : Operand) (t : TypeId) (hop : o.op = Op.lookup t m x false)
    (k e : TypeId) (K : Maps.Keyed P k) (ht : P.underlying t = some (.map k e)) (he : P.underlying e = some .bool) (hz : (zeroValue e).run P w = .ok (.bool false) w) (b n : Nat) (D : DataW H)
    (hm : a.eval m = .map (some b)) (hown : w.ownsMap P k (plainElem P e) b n D) (key : Value) (kl : Lit) (hx : a.eval x = key) (hkey : keyOf P k key = some kl)
    (hK : ∀ c : Bool, D.atKey kl (.lit (.bool false)) = .lit (.bool c) → wpList P ops Q rest (a.put o.dst (.bool c)) w) :
    wpList P ops Q (o :: rest) a w :=
  wpList_step fun K' hK' => by
    rw [if_pos hw]
    obtain ⟨v, ps, hrun, hv⟩ := hown.lookup K ht hz (plainElem_bool he false) hkey
    obtain ⟨c, rfl, hc⟩ := plainElem_bool_inv he hv
    simp only [Prod.mk.injEq] at hc
    unfold Oper.wp
    simp [execOp, hop, hm, hx, hrun, Result.andThen]
    exact hK' _ _ (hK c hc.1)
theorem seen_put {w : World} {b k : Nat} (h : w.ownsMap Tryz.prog 3 (plainElem Tryz.prog 4) b k (SeenD (natsTo k))) (hk : k < 255) : ∃ w', (Instr.mapUpdate 55 (.map (some b)) (.int .i64 ((k + 1 : Nat) : Int)) (.bool true)).run Tryz.prog w = .ok () w' ∧ w'.ownsMap Tryz.prog 3 (plainElem Tryz.prog 4) b (k + 1) (SeenD (natsTo (k + 1))) ∧ w.grownBy w' (some b) :=
  h.update lawI Tryz.underlying55 (by unfold maxLen; omega) (keyI ((k + 1 : Nat) : Int) (by omega)) (plainElem_bool Tryz.underlying4 true)
theorem seen_at (k : Nat) : (SeenD (natsTo k)).atKey (.int .i64 ((k + 1 : Nat) : Int)) (.lit (.bool false)) = .lit (.bool false) := by
  have := SeenD_at (natsTo k) (k + 1)
  rw [decide_eq_false (by rw [natsTo_mem]; omega)] at this
  exact this
end Tx
end Go.Proofs.YtkfipbelhlcddaaGreat
