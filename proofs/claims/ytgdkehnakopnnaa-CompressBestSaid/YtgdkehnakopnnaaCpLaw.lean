/- Both readers agree; what was written is read again. -/
import Derived.Test.YtgdkehnakopnnaaCpY
namespace Go.Proofs.Ytgdkehnakopnnaa
open Go Go.RowKit Go.Sort
namespace Cp
open Mm
theorem uns_none (s : ByteArray) (k : Nat) : uns s k none = (0, none) := rfl
theorem moreB_none (s : ByteArray) : ∀ (k : Nat) (y : ByteArray), (moreB s k (y, none)).2 = none
  | 0, _ => rfl
  | k + 1, y => moreB_none s k (y ++ one 0)
theorem moreR_none (s : ByteArray) : ∀ (k : Nat) (y : ByteArray), moreR s k (y, none) = (y, none)
  | 0, _ => rfl
  | _ + 1, _ => rfl
theorem more_rel (s : ByteArray) : ∀ (k : Nat) (x : ByteArray × Option Nat), ((moreB s k x).2.isSome = true → moreR s k x = moreB s k x) ∧ ((moreB s k x).2.isSome = false → (moreR s k x).2 = none)
  | 0, x => ⟨fun _ => rfl, fun h => by
      have h' : x.2.isSome = false := h
      show x.2 = none
      cases hx : x.2 with
      | none => rfl
      | some a => rw [hx] at h'; cases h'⟩
  | k + 1, (y, none) => ⟨fun h => (by rw [moreB_none] at h; cases h), fun _ => rfl⟩
  | k + 1, (y, some a) => more_rel s k (stepB s (y, some a))
theorem addr_rel (s : ByteArray) (ps : List ByteArray) (st : Option Nat) :
    ((pAddr s ps st).2.1 = true → (pAddr s ps st).2.2.isSome = true → rAddr s ps st = ((pAddr s ps st).1, (pAddr s ps st).2.2)) ∧
    (((pAddr s ps st).2.1 = false ∨ (pAddr s ps st).2.2.isSome = false) → (rAddr s ps st).2 = none) := by
  unfold pAddr rAddr
  by_cases h1 : (uns s 1 st).1 = 1
  · rw [if_pos h1, if_pos h1]
    by_cases h2 : ps.length ≤ (uns s 3 (uns s 1 st).2).1
    · rw [if_pos h2, if_pos h2]
      exact ⟨fun h => (by cases h), fun _ => rfl⟩
    · rw [if_neg h2, if_neg h2]
      dsimp only
      have := more_rel s (4 - (ps.getD (uns s 3 (uns s 1 st).2).1 default).size) (ps.getD (uns s 3 (uns s 1 st).2).1 default, (uns s 3 (uns s 1 st).2).2)
      exact ⟨fun _ h => this.1 h, fun h => this.2 (by rcases h with h | h; cases h; exact h)⟩
  · rw [if_neg h1, if_neg h1]
    dsimp only
    have := more_rel s 4 (⟨#[]⟩, (uns s 1 st).2)
    exact ⟨fun _ h => this.1 h, fun h => this.2 (by rcases h with h | h; cases h; exact h)⟩
theorem rAddr_none (s : ByteArray) (ps : List ByteArray) : (rAddr s ps none).2 = none := by
  unfold rAddr
  rw [uns_none, if_neg (by decide), moreR_none]
theorem rdP_none (s : ByteArray) : (rdP s none).2.2 = none := by unfold rdP; simp [uns_none]
theorem rdN_none (s : ByteArray) : (rdN s none).2 = none := by unfold rdN; simp [uns_none]
theorem hdr_rel (s : ByteArray) (ps : List ByteArray) (st : Option Nat) :
    ((pHdr s ps st).2 = true → (rHdr s ps st).2.isSome = true ∧ (rHdr s ps st).1 = (pHdr s ps st).1) ∧ ((pHdr s ps st).2 = false → (rHdr s ps st).2 = none) := by
  unfold pHdr rHdr
  dsimp only
  generalize rdC s st = C
  generalize rdL s C.2 = L
  have ha := addr_rel s ps L.2
  generalize pAddr s ps L.2 = a at *
  generalize rAddr s ps L.2 = ra at *
  cases h1 : a.2.1 with
  | false =>
    have e := ha.2 (.inl h1)
    rw [e, rAddr_none, rdP_none, rdN_none]
    exact ⟨fun h => (by simp at h), fun _ => rfl⟩
  | true =>
    cases h2 : a.2.2.isSome with
    | false =>
      have e := ha.2 (.inr h2)
      have ea : a.2.2 = none := by cases h : a.2.2 with
        | none => rfl
        | some x => rw [h] at h2; cases h2
      rw [e, rAddr_none, rdP_none, rdN_none, ea]
      refine ⟨fun h => ?_, fun _ => rfl⟩
      have hb := addr_rel s ps none
      rw [rAddr_none] at hb
      have : (pAddr s ps none).2.2 = none := by
        unfold pAddr
        rw [uns_none, if_neg (by decide)]
        exact moreB_none s 4 ⟨#[]⟩
      rw [this, rdP_none, rdN_none] at h
      simp at h
    | true =>
      have e := ha.1 h1 h2
      rw [e]
      dsimp only
      have hb := addr_rel s ps a.2.2
      generalize pAddr s ps a.2.2 = b at *
      generalize rAddr s ps a.2.2 = rb at *
      cases h3 : b.2.1 with
      | false =>
        have e := hb.2 (.inl h3)
        rw [e, rdP_none, rdN_none]
        exact ⟨fun h => (by simp at h), fun _ => rfl⟩
      | true =>
        cases h4 : b.2.2.isSome with
        | false =>
          have e := hb.2 (.inr h4)
          have eb : b.2.2 = none := by cases h : b.2.2 with
            | none => rfl
            | some x => rw [h] at h4; cases h4
          rw [e, rdP_none, rdN_none, eb, rdP_none, rdN_none]
          exact ⟨fun h => (by simp at h), fun _ => rfl⟩
        | true =>
          have e := hb.1 h3 h4
          rw [e]
          dsimp only
          refine ⟨fun h => ⟨by simpa using h, rfl⟩, fun h => ?_⟩
          cases hx : (rdN s (rdP s b.2.2).2.2).2 with
          | none => rfl
          | some x => rw [hx] at h; simp at h
theorem prefix_iff (d S : ByteArray) : Lib.hasPrefix d.data.toList S.data.toList = true ↔ (S.size ≤ d.size ∧ (d.extract 0 S.size).toList = S.toList) := by
  have h := pre_eq d S
  unfold hasP at h
  rw [← h]
  refine ⟨fun e => ⟨?_, e⟩, fun e => e.2⟩
  rw [Lib.toList_data, Lib.toList_data, Lib.extract_data] at e
  have := congrArg List.length e
  simp at this
  omega
theorem trim_eq (d S : ByteArray) (h : Lib.hasPrefix d.data.toList S.data.toList = true) : strL (Lib.trimPrefix d.data.toList S.data.toList) = d.extract S.size d.size := by
  unfold Lib.trimPrefix
  rw [if_pos h]
  have : (d.extract S.size d.size).data.toList = d.data.toList.drop S.size := by
    rw [Lib.extract_data, List.take_of_length_le (by rw [List.length_drop]; simp)]
  have e : S.data.toList.length = S.size := by simp
  rw [e, ← this]
  rfl
theorem exp_eq (ps : List ByteArray) (d : ByteArray) : ExpQ ps d = ExpP ps d := by
  unfold ExpP ExpQ
  by_cases ho : ctxOk ps = true
  · rw [if_pos ho, if_pos ho]
    have hr := hdr_rel d ps (some 0)
    cases h : (pHdr d ps (some 0)).2 with
    | true =>
      obtain ⟨e1, e2⟩ := hr.1 h
      rw [e2, e1]
      by_cases hv : valid (pHdr d ps (some 0)).1 = true
      · simp only [hv, and_self, if_true]
        by_cases hp : Lib.hasPrefix d.data.toList (encS ps (pHdr d ps (some 0)).1).data.toList = true
        · rw [if_pos hp, if_pos ((prefix_iff _ _).1 hp), trim_eq _ _ hp]
        · rw [if_neg hp, if_neg (fun h => hp ((prefix_iff _ _).2 h))]
      · rw [if_neg (fun h => hv h.2), if_neg (fun h => hv h.2)]
    | false =>
      rw [hr.2 h, if_neg (by rintro ⟨h, _⟩; cases h), if_neg (by rintro ⟨h, _⟩; cases h)]
  · rw [if_neg ho, if_neg ho]
end Cp
end Go.Proofs.Ytgdkehnakopnnaa
