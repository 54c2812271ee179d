/- Append of a list that is read to a row of the call's own, whatever their lengths. -/
import Derived.Test.YtdlgdmbcbenlbaaKa
import Derived.Maps.AppendAt
import Derived.Deep.RegionLaw
set_option linter.unusedVariables false
set_option linter.unusedSimpArgs false
namespace Go.Proofs.Ytdlgdmbcbenlbaa
open Go Go.RowKit
namespace Sw
open Mm
/-- the static facts of a slice type t of elements T -/
structure Elt (P : Program) {α : Type} (enc : α → List Value) (k : Nat) (t T : TypeId) : Prop where
  len : ∀ x, (enc x).length = k
  pos : 0 < k
  one : ∀ x, ∀ v ∈ enc x, v.oneCell' = true
  under : P.underlying t = some (.slice T)
  info : ∃ i z, P.info? T = some i ∧ i.zero = some z ∧ i.size = k ∧ i.bytes ≤ 1024 ∧ z.cells.size = k
theorem run_append_nil {P : Program} {w : World} {t T ty : TypeId} {i : TypeInfo} (ht : P.underlying t = some (.slice T)) (hi : P.info? T = some i) (v : Value) (c : Nat) (hv : v = .slice none 0 0 ∨ ∃ g n cap, v = .slice (some ⟨g, 0, none⟩) n cap ∧ n ≤ cap) :
    (Builtin.append_ #[t, t] ty #[v, .slice none 0 c]).run P w = .ok v w := by
  rcases hv with rfl | ⟨g, n, cap, rfl, hnc⟩
  · simp [Builtin.append_, run_underlying ht, sizeOf, typeInfo, hi, Builtin.lenOf, Builtin.firstCells]
  · simp [Builtin.append_, run_underlying ht, sizeOf, typeInfo, hi, Builtin.lenOf, Builtin.firstCells, hnc, storeCells]
theorem run_append_sls {P : Program} {α : Type} [Inhabited α] {enc : α → List Value} {k : Nat} {t T : TypeId} (E : Elt P enc k t T) (ty : TypeId) (w : World) (base : Nat) (v : Value) (xs : List α) (hown : w.ownsRow base T k v xs.length (xs.flatMap enc))
    (A : Option Addr) (m c : Nat) (ys : List α) (hs : Sls enc k w A m ys) (h63 : xs.length + m ≤ 1000000000) (hbase : base ≤ w.heap.size) :
    ∃ v' w', (Builtin.append_ #[t, t] ty #[v, .slice A m c]).run P w = .ok v' w' ∧ w'.ownsRow base T k v' (xs ++ ys).length ((xs ++ ys).flatMap enc) ∧ w.grownBy w' v.ownBlock ∧ (v'.ownBlock = v.ownBlock ∨ v'.ownBlock = some w.heap.size) := by
  obtain ⟨i, z, hi, hz, hsz, hby, hzs⟩ := E.info
  have hbb : (xs.length + m) * i.bytes ≤ 140737488355328 := Nat.le_trans (Nat.mul_le_mul h63 hby) (by decide)
  have hml : xs.length + m ≤ maxLen := by unfold maxLen; omega
  have hl : (ys.flatMap enc).length = m * k := by rw [Sk.fm_len enc k E.len, hs.len]
  have h1 : ∀ u ∈ ys.flatMap enc, u.oneCell' = true := fun u hu => by
    rw [List.mem_flatMap] at hu
    obtain ⟨x, _, hx⟩ := hu
    exact E.one x u hx
  have key : ∀ ad, A = some ad → (∀ j u, (ys.flatMap enc)[j]? = some u → w.cell? (ad.add j) = some u) → ∃ v' w', (Builtin.append_ #[t, t] ty #[v, .slice A m c]).run P w = .ok v' w' ∧ w'.ownsRow base T k v' (xs ++ ys).length ((xs ++ ys).flatMap enc) ∧ w.grownBy w' v.ownBlock ∧ (v'.ownBlock = v.ownBlock ∨ v'.ownBlock = some w.heap.size) := by
    rintro ad rfl hn
    obtain ⟨v', w', hr, h2, h3, _, h5⟩ := run_append_own_at (P := P) w base t ty T i z k i.bytes E.under hi hz hsz rfl hzs E.pos v xs.length _ hown ad m c _ hl hn h1 hml hbb hbase
    refine ⟨v', w', hr, ?_, h3, h5⟩
    rw [List.length_append, List.flatMap_append, hs.len]
    exact h2
  rcases Nat.eq_zero_or_pos m with rfl | hm
  · have hy : ys = [] := List.length_eq_zero_iff.1 hs.len
    rcases A with _ | ad
    · refine ⟨v, w, run_append_nil E.under hi v c ?_, by rw [hy, List.append_nil]; exact hown, ⟨rfl, rfl, rfl, Nat.le_refl _, fun _ _ _ => rfl⟩, .inl rfl⟩
      rcases hown.2 with ⟨hv, _⟩ | ⟨g, cap, cur, hv, _, _, r1, _⟩
      · exact .inl hv
      · exact .inr ⟨g, _, cap, hv, r1⟩
    · exact key ad rfl (fun j u hu => by rw [hy] at hu; cases hu)
  · obtain ⟨b, off, rfl, _⟩ := hs.at_ hm
    exact key _ rfl (hs.news E.len hm)
section
variable {P : Program} {α : Type} [Inhabited α] {enc : α → List Value} {k : Nat} {t T : TypeId}
theorem wp_append_sls {o : Oper} {a : Act} {K : Act → World → Prop} {Q : Exit → Act → World → Prop} (E : Elt P enc k t T) (w : World) (s x : Operand) (ho : o.op = .call { callee := .builtin .append, args := #[s, x], argTypes := #[t, t] })
    (base : Nat) (v : Value) (xs : List α) (hv : a.eval s = v) (hown : w.ownsRow base T k v xs.length (xs.flatMap enc))
    (A : Option Addr) (m c : Nat) (ys : List α) (hx : a.eval x = .slice A m c) (hs : Sls enc k w A m ys) (h63 : xs.length + m ≤ 1000000000) (hbase : base ≤ w.heap.size)
    (h : ∀ v' w', w'.ownsRow base T k v' (xs ++ ys).length ((xs ++ ys).flatMap enc) → w.grownBy w' v.ownBlock → (v'.ownBlock = v.ownBlock ∨ v'.ownBlock = some w.heap.size) → K (a.put o.dst v') w') : o.wp P a w K Q := by
  obtain ⟨v', w', hr, h2, h3, h4⟩ := run_append_sls E o.type w base v xs hown A m c ys hs h63 hbase
  unfold Oper.wp execOp
  simp only [ho, resolve, invoke, builtin, Sem.run_bind, Sem.run_pure, Result.andThen_ok, List.map_toArray, List.map_cons, List.map_nil, hv, hx, hr]
  exact h v' w' h2 h3 h4
theorem wpList_append_sls {ops : Array Oper} {rest : List Oper} {o : Oper} {a : Act} {Q : Exit → Act → World → Prop} (E : Elt P enc k t T) (w : World) (hgd : o.guard = none) (s x : Operand) (ho : o.op = .call { callee := .builtin .append, args := #[s, x], argTypes := #[t, t] })
    (base : Nat) (v : Value) (xs : List α) (hv : a.eval s = v) (hown : w.ownsRow base T k v xs.length (xs.flatMap enc))
    (A : Option Addr) (m c : Nat) (ys : List α) (hx : a.eval x = .slice A m c) (hs : Sls enc k w A m ys) (h63 : xs.length + m ≤ 1000000000) (hbase : base ≤ w.heap.size)
    (h : ∀ v' w', w'.ownsRow base T k v' (xs ++ ys).length ((xs ++ ys).flatMap enc) → w.grownBy w' v.ownBlock → (v'.ownBlock = v.ownBlock ∨ v'.ownBlock = some w.heap.size) → wpList P ops Q rest (a.put o.dst v') w') : wpList P ops Q (o :: rest) a w :=
  wpList_plain hgd fun _ hK => wp_append_sls E w s x ho base v xs hv hown A m c ys hx hs h63 hbase fun v' w' h2 h3 h4 => hK _ _ (h v' w' h2 h3 h4)
theorem step_append_sls {ops : Array Oper} {o : Oper} {a : Act} {K : Act → World → Prop} {Q : Exit → Act → World → Prop} {F : Prop} (E : Elt P enc k t T) (w : World) (hgd : o.guard = none) (s x : Operand) (ho : o.op = .call { callee := .builtin .append, args := #[s, x], argTypes := #[t, t] })
    (base : Nat) (v : Value) (xs : List α) (hv : a.eval s = v) (hown : w.ownsRow base T k v xs.length (xs.flatMap enc))
    (A : Option Addr) (m c : Nat) (ys : List α) (hx : a.eval x = .slice A m c) (hs : Sls enc k w A m ys) (h63 : xs.length + m ≤ 1000000000) (hbase : base ≤ w.heap.size)
    (h : ∀ v' w', w'.ownsRow base T k v' (xs ++ ys).length ((xs ++ ys).flatMap enc) → w.grownBy w' v.ownBlock → (v'.ownBlock = v.ownBlock ∨ v'.ownBlock = some w.heap.size) → K (a.put o.dst v') w') :
    if Region.wanted o (yielded ops a.tmps) = true then Oper.wp P o a w K Q else F := by
  have hw : Region.wanted o (yielded ops a.tmps) = true := by simp [Region.wanted, hgd]
  rw [if_pos hw]
  exact wp_append_sls E w s x ho base v xs hv hown A m c ys hx hs h63 hbase h
end
/-- an empty slice that the call has built -/
theorem own_empty {α : Type} (enc : α → List Value) {k : Nat} (w : World) (T : TypeId) {base : Nat} (hb : base ≤ w.heap.size) : (w.alloc (.cells #[] T)).ownsRow base T k (.slice (some ⟨w.heap.size, 0, none⟩) 0 0) ([] : List α).length (([] : List α).flatMap enc) :=
  ⟨by simp, .inr ⟨w.heap.size, 0, #[], rfl, hb, heap_alloc_new w _, by simp, by simp, by simp, by simp⟩⟩
theorem Sls.one {α : Type} [Inhabited α] {enc : α → List Value} {k : Nat} {w : World} {B : Nat} {x : α} {t : TypeId} (h : Blk w B (enc x).toArray t) : Sls enc k w (some ⟨B, 0, none⟩) 1 [x] where
  len := rfl
  small := by unfold maxLen; omega
  at_ := fun _ => ⟨B, 0, rfl, h.lt, fun i hi j hj => by
    obtain rfl : i = 0 := by omega
    have := h.cell j
    simpa using this⟩
theorem Sls.drop {α : Type} [Inhabited α] {enc : α → List Value} {k : Nat} {w : World} {b off n : Nat} {xs : List α} (h : Sls enc k w (some ⟨b, off, none⟩) n xs) {m : Nat} (hm : m ≤ n) : Sls enc k w (some ⟨b, off + m * k, none⟩) (n - m) (xs.drop m) where
  len := by rw [List.length_drop, h.len]
  small := Nat.le_trans (Nat.sub_le _ _) h.small
  at_ := fun h0 => by
    obtain ⟨b', off', e, hb, hc⟩ := h.at_ (by omega)
    injection e with e
    injection e with e1 e2
    subst e1
    subst e2
    refine ⟨b, _, rfl, hb, fun i hi j hj => ?_⟩
    have := hc (m + i) (by omega) j hj
    rw [show off + m * k + i * k + j = off + (m + i) * k + j by rw [Nat.add_mul]; omega, this]
    simp [List.getD_eq_getElem?_getD]
theorem Sls.empty {α : Type} [Inhabited α] {enc : α → List Value} {k : Nat} {w : World} (A : Option Addr) : Sls enc k w A 0 ([] : List α) := ⟨rfl, by unfold maxLen; omega, fun h => by omega⟩
theorem own_cap {w : World} {base : Nat} {e : TypeId} {size n : Nat} {A : Option Addr} {m c : Nat} {xs : List Value} (h : w.ownsRow base e size (.slice A m c) n xs) : n ≤ c := by
  rcases h.2 with ⟨hv, h0⟩ | ⟨g, cap, cur, hv, _, _, r1, _⟩
  · injection hv with _ _ e; omega
  · injection hv with _ _ e; omega
theorem Sls.none_zero {α : Type} [Inhabited α] {enc : α → List Value} {k : Nat} {w : World} {n : Nat} {xs : List α} (h : Sls enc k w none n xs) : n = 0 := by
  rcases Nat.eq_zero_or_pos n with h0 | h0
  · exact h0
  · obtain ⟨b, off, e, _⟩ := h.at_ h0; cases e
end Sw
end Go.Proofs.Ytdlgdmbcbenlbaa
