/- A map of nodes whose elements are slices. -/
import Derived.Test.YtdlgdmbcbenlbaaSwL4
import Derived.Maps.RangeWalk
set_option linter.unusedVariables false
set_option linter.unusedSimpArgs false
namespace Go.Proofs.Ytdlgdmbcbenlbaa
open Go Go.RowKit Go.Sort Go.Maps
namespace Sw
open Mm
def codeS : Value → DataW Unit
  | .slice none n c => .agg [.lit (.int .i64 n), .lit (.int .i64 c)]
  | .slice (some ⟨b, off, none⟩) n c => .agg [.lit (.int .i64 b), .lit (.int .i64 off), .lit (.int .i64 n), .lit (.int .i64 c)]
  | _ => .lit (.bool false)
def rdS : Value → Option (DataW Unit × List MemPlace)
  | .slice none n c => some (codeS (.slice none n c), [])
  | .slice (some ⟨b, off, none⟩) n c => some (codeS (.slice (some ⟨b, off, none⟩) n c), [])
  | _ => none
def Hdr (v : Value) : Prop := (∃ n c, v = .slice none n c) ∨ ∃ b off n c, v = .slice (some ⟨b, off, none⟩) n c
theorem rdS_hdr {v : Value} (h : Hdr v) : rdS v = some (codeS v, []) := by
  rcases h with ⟨n, c, rfl⟩ | ⟨b, off, n, c, rfl⟩ <;> rfl
theorem rdS_inv {v : Value} {y : DataW Unit × List MemPlace} (h : rdS v = some y) : Hdr v ∧ y = (codeS v, []) := by
  unfold rdS at h
  split at h
  · cases h; exact ⟨.inl ⟨_, _, rfl⟩, rfl⟩
  · cases h; exact ⟨.inr ⟨_, _, _, _, rfl⟩, rfl⟩
  · cases h
theorem codeS_inj {v u : Value} (hv : Hdr v) (hu : Hdr u) (h : codeS v = codeS u) : v = u := by
  rcases hv with ⟨n, c, rfl⟩ | ⟨b, off, n, c, rfl⟩ <;> rcases hu with ⟨n', c', rfl⟩ | ⟨b', off', n', c', rfl⟩
  · simp only [codeS, DataW.agg.injEq, List.cons.injEq, DataW.lit.injEq, Lit.int.injEq, and_true, true_and] at h
    obtain ⟨h1, h2⟩ := h
    rw [Int.ofNat_inj.1 h1, Int.ofNat_inj.1 h2]
  · simp [codeS] at h
  · simp [codeS] at h
  · simp only [codeS, DataW.agg.injEq, List.cons.injEq, DataW.lit.injEq, Lit.int.injEq, and_true, true_and] at h
    obtain ⟨h1, h2, h3, h4⟩ := h
    rw [Int.ofNat_inj.1 h1, Int.ofNat_inj.1 h2, Int.ofNat_inj.1 h3, Int.ofNat_inj.1 h4]
/-- the map has just these nodes; P holds of each one's slice -/
structure HasN (D : DataW Unit) (P : Int → Value → Prop) (ns : List Int) : Prop where
  isMap : IsMap D
  has_ : ∀ kl, Maps.has D kl = true ↔ ∃ n ∈ ns, kl = .int .i64 n
  at_ : ∀ n ∈ ns, ∃ v, Hdr v ∧ P n v ∧ ∀ zd, D.atKey (.int .i64 n) zd = codeS v
theorem HasN.empty (P : Int → Value → Prop) : HasN (.map []) P [] := ⟨isMap_empty, fun kl => by simp [has_eq], fun n h => by cases h⟩
theorem HasN.mono {D : DataW Unit} {P Q : Int → Value → Prop} {ns : List Int} (h : HasN D P ns) (hPQ : ∀ n v, P n v → Q n v) : HasN D Q ns :=
  ⟨h.isMap, h.has_, fun n hn => by obtain ⟨v, h1, h2, h3⟩ := h.at_ n hn; exact ⟨v, h1, hPQ n v h2, h3⟩⟩
theorem isKeyInt (n : Int) : WideAt.IsKeyLit (.int .i64 n) := by simp [WideAt.IsKeyLit]
theorem HasN.put {D : DataW Unit} {P : Int → Value → Prop} {ns : List Int} (h : HasN D P ns) {n : Int} (hn : n ∉ ns) {v : Value} (hv : Hdr v) (hp : P n v) : HasN (D.put (.int .i64 n) (codeS v)) P (ns ++ [n]) where
  isMap := h.isMap.put _ _
  has_ := fun kl => by
    by_cases e : kl = .int .i64 n
    · subst e
      rw [has_put_same h.isMap (isKeyInt n)]
      simp
    · rw [has_put_other e, h.has_]
      constructor
      · rintro ⟨m, hm, rfl⟩; exact ⟨m, List.mem_append_left _ hm, rfl⟩
      · rintro ⟨m, hm, rfl⟩
        rw [List.mem_append, List.mem_singleton] at hm
        rcases hm with hm | rfl
        · exact ⟨m, hm, rfl⟩
        · exact absurd rfl e
  at_ := fun m hm => by
    rw [List.mem_append, List.mem_singleton] at hm
    by_cases e : m = n
    · subst e
      exact ⟨v, hv, hp, fun zd => atKey_put_same h.isMap (isKeyInt m) _ zd⟩
    · rcases hm with hm | hm
      · obtain ⟨u, h1, h2, h3⟩ := h.at_ m hm
        refine ⟨u, h1, h2, fun zd => ?_⟩
        rw [atKey_put_other (fun k => e (by injection k)), h3]
      · exact absurd hm e
theorem Sls.grownMap {α : Type} [Inhabited α] {enc : α → List Value} {k : Nat} (hk : ∀ x, (enc x).length = k) (h0 : 0 < k) {w w' : World} {A : Option Addr} {n : Nat} {xs : List α} (h : Sls enc k w A n xs) {M : Nat} (hg : w.grownBy w' (some M)) (hM : ∀ off, w.cell? ⟨M, off, none⟩ = none) : Sls enc k w' A n xs where
  len := h.len
  small := h.small
  at_ := fun hn => by
    obtain ⟨b, off, e, hb, hc⟩ := h.at_ hn
    have hne : some b ≠ some M := fun e => by
      injection e with e
      subst e
      have h1 := hc 0 hn 0 h0
      rw [hM] at h1
      rw [List.getElem?_eq_getElem (by rw [hk]; exact h0)] at h1
      cases h1
    refine ⟨b, off, e, Nat.lt_of_lt_of_le hb hg.size, fun i hi j hj => ?_⟩
    rw [← hc i hi j hj]
    exact hg.cell_far ⟨b, _, none⟩ hb hne
-- what the loops count
def cntS (L : Int) (cs : List Cel) (l : List Chg) (x n : Int) : Nat := (inF L cs l x).countP fun c => decide (c.frm = n)
def cntT (L : Int) (cs : List Cel) (l : List Chg) (x n : Int) : Nat := (inF L cs l x).countP fun c => decide (c.to = n)
/-- what is left of a map's nodes, in a range over it -/
structure Left (left : Lit → Bool) (rem : List Int) : Prop where
  nodup : rem.Nodup
  iff : ∀ kl, left kl = true ↔ ∃ n ∈ rem, kl = .int .i64 n
theorem Left.start {D : DataW Unit} {P : Int → Value → Prop} {ns : List Int} (h : HasN D P ns) (hn : ns.Nodup) : Left (Maps.has D) ns := ⟨hn, h.has_⟩
theorem Left.step {left : Lit → Bool} {rem : List Int} (h : Left left rem) {n : Int} (hn : left (.int .i64 n) = true) : n ∈ rem ∧ Left (fun z => left z && !z.sameKey (.int .i64 n)) (rem.erase n) := by
  obtain ⟨m, hm, e⟩ := (h.iff _).1 hn
  have e : n = m := by injection e
  subst e
  refine ⟨hm, h.nodup.erase _, fun kl => ?_⟩
  rw [Bool.and_eq_true, h.iff]
  constructor
  · rintro ⟨⟨m, hm, rfl⟩, h2⟩
    refine ⟨m, ?_, rfl⟩
    rw [h.nodup.mem_erase_iff]
    refine ⟨fun e => ?_, hm⟩
    subst e
    rw [WideAt.sameKey_self (isKeyInt m)] at h2
    cases h2
  · rintro ⟨m, hm, rfl⟩
    rw [h.nodup.mem_erase_iff] at hm
    refine ⟨⟨m, hm.2, rfl⟩, ?_⟩
    rw [sameKey_ne (fun e => hm.1 (by injection e))]; rfl
theorem Left.done {left : Lit → Bool} {rem : List Int} (h : Left left rem) (hn : ∀ kl, left kl = false) : rem = [] := by
  cases rem with
  | nil => rfl
  | cons n r =>
    have := (h.iff (.int .i64 n)).2 ⟨n, List.mem_cons_self .., rfl⟩
    rw [hn] at this
    cases this
theorem sum_erase {rem : List Int} {n : Int} (hn : n ∈ rem) (f : Int → Nat) : (rem.map f).sum = f n + ((rem.erase n).map f).sum := by
  have := (List.perm_cons_erase hn).map f
  rw [this.sum_nat]; simp
end Sw
end Go.Proofs.Ytdlgdmbcbenlbaa
