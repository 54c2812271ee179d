/- CrcProtects: for every input the law returns true, and each argument reads afterwards as before. No condition beyond the given row's. -/
import Derived.Test.YtlefbpopemkkaaaCrcLaws5
import Derived.Test.YtlefbpopemkkaaaFrame
namespace Go.Proofs.Ytlefbpopemkkaaa
open Go Go.ChangeShapes Go.WideShapes Go.ChangeAt Go.RowKit
set_option linter.unusedVariables false in
set_option maxRecDepth 100000 in
theorem crcProtects_lifted (os : Os) (started : os.Started) (H : Type) (enc : TypeId × Value → H) :
    ReturnsInHanded {} Try.checked os 9 .any (Rows.crcProtectsSpec.pre6 enc Try.prog Try.f9 Rows.crcProtectsRow.domain false) (Rows.crcProtectsSpec.post enc Try.prog Try.f9 false true false false) := by
  refine returnsInHanded_of_change (C := Try.checked) (show ownKnob Try.prog.godebug = none by kernel_rfl) started (by kernel_rfl) Try.func9
    (ChangeSpec.witness6 (enc := enc) (C := Try.checked) false ⟨#[], #[.string ByteArray.empty], []⟩ 8 (by kernel_rfl) (by kernel_rfl) (by kernel_rfl) (by kernel_rfl)) ?_
  intro W base args ds gs before hval0 hW hcnd _
  have hval : ∀ (j : Nat) t v, Try.f9.params[j]? = some t → args[j]? = some v → Value.okWide Try.prog W .any base t v := hval0
  have hW' := hW
  obtain ⟨p, q, hA0, hV, rfl, hfz, hnd⟩ := hW
  have hA : DataW.TrodAll enc Try.prog W 0 (fun _ => true) true Try.f9.params.toList args.toList ds p := hA0
  rw [Try.params9] at hA hval
  obtain ⟨v0, vs0, d0, ds0, p0, q0, hargs, rfl, rfl, h0, r0⟩ := trodAll_cons hA
  obtain ⟨rfl, rfl, rfl⟩ := trodAll_nil r0
  obtain rfl : args = #[v0] := by cases args; simp_all
  obtain ⟨rfl, rfl⟩ := trodVars_none hV
  clear hA0 hval0 hcnd hA hfz hnd hV
  obtain ⟨fu0, hf0⟩ := h0
  obtain ⟨u0, rfl⟩ := okWide_string Try.underlying9 (hval 0 9 v0 rfl rfl)
  replace hf0 : DataW.trod enc Try.prog W 0 (fun _ => true) true fu0 9 [.string u0] = some (d0, p0) := hf0
  have wf1 : u0.size ≤ maxLen := by obtain ⟨n, e, h⟩ := Frame.trod_string' Try.underlying9 hf0; cases e; exact h
  refine (crcProtects_walk u0 wf1 W).mono fun e W' ⟨he, hb⟩ => ?_
  subst he
  exact ⟨_, rfl, Frame.law_post (tb := 4) (by kernel_rfl) (by
    rw [Try.params9]
    intro t ht
    simp only [List.mem_cons, List.not_mem_nil, or_false] at ht
    rcases ht with rfl <;> exact ⟨by kernel_rfl, of_decide_eq_true (by kernel_rfl)⟩) rfl hW' rfl Try.underlying4 rfl hb⟩
theorem crcProtects_over : Rows.crcProtectsRow.holds Try.pinned (OpenSpec.ofChange Rows.crcProtectsSpec) :=
  OpenClaim.holds_of_wide 9 Try.f9 rfl rfl rfl rfl rfl rfl rfl ⟨rfl, rfl, rfl, rfl, rfl⟩ rfl rfl rfl rfl rfl (by kernel_rfl) Try.func9 (by kernel_rfl)
    (of_decide_eq_true (by kernel_rfl)) (by unfold Func.isWrapper; first | (rw [if_pos (by decide +kernel)]; kernel_rfl) | (rw [if_neg (by decide +kernel)]; exact ⟨rfl, rfl⟩))
    (fun os started H enc _ => crcProtects_lifted os started H enc)
/-- THE STATEMENT -/
theorem crcProtects_holds : Rows.CrcProtectsSaid := crcProtects_over
#print axioms crcProtects_holds
end Go.Proofs.Ytlefbpopemkkaaa
