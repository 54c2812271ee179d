/- Chapter 52: slices of structs in memory, boxes, worlds that have only grown. -/
import Derived.Test.YtnkgmpmedkegbaaChecked
import Derived.Test.YtnkgmpmedkegbaaSw1
import Derived.Test.YtnkgmpmedkegbaaSkFm
namespace Go.Proofs.Ytnkgmpmedkegbaa
open Go Go.RowKit Go.Sort
namespace Sw
open Mm
/-- a slice whose elements are rows of k cells -/
structure Sls {α : Type} [Inhabited α] (enc : α → List Value) (k : Nat) (w : World) (A : Option Addr) (n : Nat) (xs : List α) : Prop where
  len : xs.length = n
  small : n ≤ maxLen
  at_ : 0 < n → ∃ b off, A = some ⟨b, off, none⟩ ∧ b < w.heap.size ∧ ∀ i, i < n → ∀ j, j < k → w.cell? ⟨b, off + i * k + j, none⟩ = (enc (xs.getD i default))[j]?
section
variable {α : Type} [Inhabited α] {enc : α → List Value} {k : Nat} {w w' : World} {A : Option Addr} {n : Nat} {xs : List α}
theorem Sls.keep (h : Sls enc k w A n xs) (hb : Below w.heap.size w w') : Sls enc k w' A n xs :=
  ⟨h.len, h.small, fun hn => by
    obtain ⟨b, off, e, hlt, hc⟩ := h.at_ hn
    exact ⟨b, off, e, Nat.lt_of_lt_of_le hlt hb.size, fun i hi j hj => by rw [hb.cell (p := ⟨b, off + i * k + j, none⟩) hlt]; exact hc i hi j hj⟩⟩
theorem Sls.under (h : Sls enc k w A n xs) {m : Nat} (hb : Below m w w') (hm : w.heap.size ≤ m) : Sls enc k w' A n xs := h.keep (hb.mono hm)
theorem Sls.nil : Sls enc k w none 0 ([] : List α) := ⟨rfl, by decide, fun h => absurd h (by omega)⟩
theorem Sls.addr (h : Sls enc k w A n xs) (hn : 0 < n) : ∃ b off, A = some ⟨b, off, none⟩ := by obtain ⟨b, off, e, _⟩ := h.at_ hn; exact ⟨b, off, e⟩
theorem Sls.cells {b off : Nat} (h : Sls enc k w (some ⟨b, off, none⟩) n xs) {i : Nat} (hi : i < n) : b < w.heap.size ∧ ∀ j, j < k → w.cell? ⟨b, off + i * k + j, none⟩ = (enc (xs.getD i default))[j]? := by
  obtain ⟨b', off', e, hlt, hc⟩ := h.at_ (by omega)
  injection e with e
  injection e with e1 e2
  subst e1 e2
  exact ⟨hlt, hc i hi⟩
theorem Sls.take (h : Sls enc k w A n xs) {m : Nat} (hm : m ≤ n) : Sls enc k w A m (xs.take m) :=
  ⟨by rw [List.length_take, h.len]; omega, Nat.le_trans hm h.small, fun h0 => by
    obtain ⟨b, off, e, hlt, hc⟩ := h.at_ (by omega)
    refine ⟨b, off, e, hlt, fun i hi j hj => ?_⟩
    have : (xs.take m).getD i default = xs.getD i default := by rw [List.getD_eq_getElem?_getD, List.getD_eq_getElem?_getD, List.getElem?_take, if_pos hi]
    rw [this]
    exact hc i (by omega) j hj⟩
theorem Sls.of_owns (hk : ∀ x, (enc x).length = k) {base n0 c : Nat} {e : TypeId} (h : w.ownsRow base e k (.slice A n c) n0 (xs.flatMap enc)) (hl : xs.length = n0) : n = n0 ∧ Sls enc k w A n xs := by
  rcases h.2 with ⟨hv, hz⟩ | ⟨g, cap, cur, hv, hb, hg, hn, hm, hs, ht⟩
  · injection hv with h1 h2 h3
    subst h1 h2
    exact ⟨hz.symm, ⟨by omega, by decide, fun h => absurd h (by omega)⟩⟩
  · injection hv with h1 h2 h3
    subst h1 h2 h3
    refine ⟨rfl, ⟨hl, by omega, fun _ => ⟨g, 0, rfl, (Array.getElem?_eq_some_iff.1 hg).1, fun i hi j hj => ?_⟩⟩⟩
    rw [← Sk.fm_get enc k hk xs i j (by omega) hj]
    have hlt : i * k + j < (xs.flatMap enc).length := by
      rw [Sk.fm_len enc k hk, hl]
      have : (i + 1) * k ≤ n * k := Nat.mul_le_mul_right k hi
      rw [Nat.add_mul] at this; omega
    have := h.cells (g := g) rfl (i * k + j) _ (List.getElem?_eq_getElem hlt)
    have hadd : (⟨g, 0, none⟩ : Addr).add (i * k + j) = ⟨g, i * k + j, none⟩ := by unfold Addr.add; split <;> simp_all
    rw [hadd] at this
    rw [List.getElem?_eq_getElem hlt, Nat.zero_add]
    exact this
/-- the cells of a source of an append -/
theorem Sls.news (hk : ∀ x, (enc x).length = k) {a : Addr} (h : Sls enc k w (some a) n xs) (h0 : 0 < n) : ∀ j u, (xs.flatMap enc)[j]? = some u → w.cell? (a.add j) = some u := by
  intro j u hu
  obtain ⟨b, off, e, hlt, hc⟩ := h.at_ h0
  injection e with e
  subst e
  have hj : j < (xs.flatMap enc).length := (List.getElem?_eq_some_iff.1 hu).1
  rw [Sk.fm_len enc k hk, h.len] at hj
  have k0 : 0 < k := by rcases Nat.eq_zero_or_pos k with h | h; · subst h; simp at hj
                        · exact h
  have h1 : j / k < n := by rw [Nat.div_lt_iff_lt_mul k0]; exact hj
  have h2 : j % k < k := Nat.mod_lt _ k0
  have h3 := Sk.fm_get enc k hk xs (j / k) (j % k) (by rw [h.len]; exact h1) h2
  rw [Nat.mul_comm, Nat.div_add_mod] at h3
  have h4 := hc (j / k) h1 (j % k) h2
  have h5 : j / k * k + j % k = j := by rw [Nat.mul_comm, Nat.div_add_mod]
  have hadd : (⟨b, off, none⟩ : Addr).add j = ⟨b, off + j / k * k + j % k, none⟩ := by
    rw [Nat.add_assoc, h5]
    unfold Addr.add
    split
    · rename_i e; subst e; rfl
    · rfl
  rw [hadd, h4, ← h3]; exact hu
end
/-- a boxed struct that is only read -/
structure Box (w : World) (B : Nat) (C : Array Value) : Prop where
  lt : B < w.heap.size
  at_ : ∀ i, w.cell? ⟨B, i, none⟩ = C[i]?
theorem Box.new (w : World) (C : Array Value) (t : TypeId) : Box (w.alloc (.cells C t)) w.heap.size C := ⟨by simp, fun i => (Blk.new w C t).cell i⟩
theorem Box.keep {w w' : World} {B : Nat} {C : Array Value} (h : Box w B C) (hb : Below w.heap.size w w') : Box w' B C := ⟨Nat.lt_of_lt_of_le h.lt hb.size, fun i => by rw [hb.cell (p := ⟨B, i, none⟩) h.lt]; exact h.at_ i⟩
theorem Box.alloc {w : World} {B : Nat} {C : Array Value} (h : Box w B C) (o : Obj) : Box (w.alloc o) B C := h.keep ((Below.refl _ _).alloc (Nat.le_refl _) _)
theorem Box.of_blk {w : World} {B : Nat} {C : Array Value} {t : TypeId} (h : Blk w B C t) : Box w B C := ⟨h.lt, h.cell⟩
theorem size1 (w : World) (o : Obj) : (w.alloc o).heap.size = w.heap.size + 1 := by simp
theorem ball (w : World) (o : Obj) : Below w.heap.size w (w.alloc o) := (Below.refl _ _).alloc (Nat.le_refl _) _
theorem ballN {a w : World} (h : Below a.heap.size a w) (o : Obj) : Below a.heap.size a (w.alloc o) := h.alloc h.size o
theorem bthen {a w w' : World} (h : Below a.heap.size a w) (k : Below w.heap.size w w') : Below a.heap.size a w' := h.trans (k.mono h.size)
theorem cell_regrown {w : World} {p : Addr} {v : Value} (h : w.cell? p = some v) : ∀ d os, (grow (redrawn w d) os).cell? p = some v := fun d os => (below_regrown w d os).cell (World.block_lt_of_cell? w p h) |>.trans h
theorem Box.grown {w : World} {B : Nat} {C : Array Value} (h : Box w B C) : ∀ d os i, (grow (redrawn w d) os).cell? ⟨B, i, none⟩ = C[i]? := fun d os => (h.keep (below_regrown w d os)).at_
/-- worlds that have drawn, and laid blocks -/
def GW (w w' : World) : Prop := ∃ q os, w' = grow (w.drewN q) os
theorem GW.refl (w : World) : GW w w := ⟨0, #[], by simp [grow]; rfl⟩
theorem GW.drew {w w' : World} (h : GW w w') : GW w w'.drew := by
  obtain ⟨q, os, rfl⟩ := h
  exact ⟨q + 1, os, rfl⟩
theorem GW.alloc {w w' : World} (h : GW w w') (o : Obj) : GW w (w'.alloc o) := by
  obtain ⟨q, os, rfl⟩ := h
  exact ⟨q, os ++ #[o], by rw [alloc_eq_grow, grow_grow]⟩
theorem GW.trans {w w' w'' : World} (h : GW w w') (k : GW w' w'') : GW w w'' := by
  obtain ⟨q, os, rfl⟩ := h
  obtain ⟨q', os', rfl⟩ := k
  refine ⟨q + q', os ++ os', ?_⟩
  rw [← grow_grow]
  have e : (w.drewN q).drewN q' = w.drewN (q + q') := by simp [World.drewN, Nat.add_assoc]
  rw [← e]
  rfl
theorem GW.below {w w' : World} (h : GW w w') : Below w.heap.size w w' := by
  obtain ⟨q, os, rfl⟩ := h
  exact below_regrown w (w.drawn + q) os
end Sw
end Go.Proofs.Ytnkgmpmedkegbaa
