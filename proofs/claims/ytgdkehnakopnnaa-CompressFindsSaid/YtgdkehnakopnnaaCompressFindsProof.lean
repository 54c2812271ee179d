/- CompressFinds: for every input the law returns true, and each argument reads afterwards as before. No condition beyond the given row's. -/
import Derived.Test.YtgdkehnakopnnaaCpL6
import Derived.Test.YtgdkehnakopnnaaCpOpen
import Derived.Test.YtgdkehnakopnnaaFrame
namespace Go.Proofs.Ytgdkehnakopnnaa
open Go Go.ChangeShapes Go.WideShapes Go.ChangeAt Go.RowKit Cp
set_option linter.unusedVariables false in
set_option maxRecDepth 100000 in
theorem compressFinds_lifted (os : Os) (started : os.Started) (H : Type) (enc : TypeId × Value → H) :
    ReturnsInHanded {} Try.checked os 5 .any (Rows.compressFindsSpec.pre6 enc Try.prog Try.f5 Rows.compressFindsRow.domain false) (Rows.compressFindsSpec.post enc Try.prog Try.f5 false true false false) := by
  refine returnsInHanded_of_change (C := Try.checked) (show ownKnob Try.prog.godebug = none by kernel_rfl) started (by kernel_rfl) Try.func5
    (ChangeSpec.witness6 (enc := enc) (C := Try.checked) false ⟨#[], #[.slice none 0 0, .string ByteArray.empty], []⟩ 8 (by kernel_rfl) (by kernel_rfl) (by kernel_rfl) (by kernel_rfl)) ?_
  intro W base args ds gs before hval0 hW hcnd _
  have hval : ∀ (j : Nat) t v, Try.f5.params[j]? = some t → args[j]? = some v → Value.okWide Try.prog W .any base t v := hval0
  have hW' := hW
  obtain ⟨p, q, hA0, hV, rfl, hfz, hnd⟩ := hW
  have hA : DataW.TrodAll enc Try.prog W 0 (fun _ => true) true Try.f5.params.toList args.toList ds p := hA0
  rw [Try.params5] at hA hval
  obtain ⟨v0, vs0, d0, ds0, p0, q0, hargs, rfl, rfl, h0, r0⟩ := trodAll_cons hA
  obtain ⟨v1, vs1, d1, ds1, p1, q1, rfl, rfl, rfl, h1, r1⟩ := trodAll_cons r0
  obtain ⟨rfl, rfl, rfl⟩ := trodAll_nil r1
  obtain rfl : args = #[v0, v1] := by cases args; simp_all
  obtain ⟨rfl, rfl⟩ := trodVars_none hV
  clear hA0 hval0 hcnd hA hfz hnd hV
  obtain ⟨fu0, hf0⟩ := h0
  obtain ⟨qa0, qn0, qc0, rfl⟩ := okWide_slice Try.underlying22 (hval 0 22 v0 rfl rfl)
  replace hf0 : DataW.trod enc Try.prog W 0 (fun _ => true) true fu0 22 [.slice qa0 qn0 qc0] = some (d0, p0) := hf0
  obtain ⟨xs1, wf2⟩ := Cp.open_ctx hf0
  obtain ⟨fu1, hf1⟩ := h1
  obtain ⟨u1, rfl⟩ := okWide_string Try.underlying9 (hval 1 9 v1 rfl rfl)
  replace hf1 : DataW.trod enc Try.prog W 0 (fun _ => true) true fu1 9 [.string u1] = some (d1, p1) := hf1
  have wf3 : u1.size ≤ maxLen := by obtain ⟨n, e, h⟩ := Frame.trod_string' Try.underlying9 hf1; cases e; exact h
  refine (compressFinds_walk qa0 qn0 qc0 xs1 u1 W wf2 wf3).mono fun e W' ⟨he, hb⟩ => ?_
  subst he
  exact ⟨_, rfl, Frame.law_post (tb := 4) (by kernel_rfl) (by
    rw [Try.params5]
    intro t ht
    simp only [List.mem_cons, List.not_mem_nil, or_false] at ht
    rcases ht with rfl | rfl <;> exact ⟨by kernel_rfl, of_decide_eq_true (by kernel_rfl)⟩) rfl hW' rfl Try.underlying4 rfl hb⟩
theorem compressFinds_over : Rows.compressFindsRow.holds Try.pinned (OpenSpec.ofChange Rows.compressFindsSpec) :=
  OpenClaim.holds_of_wide 5 Try.f5 rfl rfl rfl rfl rfl rfl rfl ⟨rfl, rfl, rfl, rfl, rfl⟩ rfl rfl rfl rfl rfl (by kernel_rfl) Try.func5 (by kernel_rfl)
    (of_decide_eq_true (by kernel_rfl)) (by unfold Func.isWrapper; first | (rw [if_pos (by decide +kernel)]; kernel_rfl) | (rw [if_neg (by decide +kernel)]; exact ⟨rfl, rfl⟩))
    (fun os started H enc _ => compressFinds_lifted os started H enc)
/-- THE STATEMENT -/
theorem compressFinds_holds : Rows.CompressFindsSaid := compressFinds_over
#print axioms compressFinds_holds
end Go.Proofs.Ytgdkehnakopnnaa
