/- CompressBest: for every input the law returns true, and each argument reads afterwards as before. No condition beyond the given row's. -/
import Derived.Test.YtgdkehnakopnnaaCpL7
import Derived.Test.YtgdkehnakopnnaaCpOpen
import Derived.Test.YtgdkehnakopnnaaFrame
namespace Go.Proofs.Ytgdkehnakopnnaa
open Go Go.ChangeShapes Go.WideShapes Go.ChangeAt Go.RowKit Cp
set_option linter.unusedVariables false in
set_option maxRecDepth 100000 in
theorem compressBest_lifted (os : Os) (started : os.Started) (H : Type) (enc : TypeId × Value → H) :
    ReturnsInHanded {} Try.checked os 9 .any (Rows.compressBestSpec.pre6 enc Try.prog Try.f9 Rows.compressBestRow.domain false) (Rows.compressBestSpec.post enc Try.prog Try.f9 false true false false) := by
  refine returnsInHanded_of_change (C := Try.checked) (show ownKnob Try.prog.godebug = none by kernel_rfl) started (by kernel_rfl) Try.func9
    (ChangeSpec.witness6 (enc := enc) (C := Try.checked) false ⟨#[], #[.slice none 0 0, .int .i64 0], []⟩ 8 (by kernel_rfl) (by kernel_rfl) (by kernel_rfl) (by kernel_rfl)) ?_
  intro W base args ds gs before hval0 hW hcnd _
  have hval : ∀ (j : Nat) t v, Try.f9.params[j]? = some t → args[j]? = some v → Value.okWide Try.prog W .any base t v := hval0
  have hW' := hW
  obtain ⟨p, q, hA0, hV, rfl, hfz, hnd⟩ := hW
  have hA : DataW.TrodAll enc Try.prog W 0 (fun _ => true) true Try.f9.params.toList args.toList ds p := hA0
  rw [Try.params9] at hA hval
  obtain ⟨v0, vs0, d0, ds0, p0, q0, hargs, rfl, rfl, h0, r0⟩ := trodAll_cons hA
  obtain ⟨v1, vs1, d1, ds1, p1, q1, rfl, rfl, rfl, h1, r1⟩ := trodAll_cons r0
  obtain ⟨rfl, rfl, rfl⟩ := trodAll_nil r1
  obtain rfl : args = #[v0, v1] := by cases args; simp_all
  obtain ⟨rfl, rfl⟩ := trodVars_none hV
  clear hA0 hval0 hcnd hA hfz hnd hV
  obtain ⟨fu0, hf0⟩ := h0
  obtain ⟨qa0, qn0, qc0, rfl⟩ := okWide_slice Try.underlying46 (hval 0 46 v0 rfl rfl)
  replace hf0 : DataW.trod enc Try.prog W 0 (fun _ => true) true fu0 46 [.slice qa0 qn0 qc0] = some (d0, p0) := hf0
  obtain ⟨xs1, wf2⟩ := Cp.open_hdr hf0
  obtain ⟨fu1, hf1⟩ := h1
  obtain ⟨u1, rfl⟩ := okWide_int Try.underlying3 (hval 1 3 v1 rfl rfl)
  replace hf1 : DataW.trod enc Try.prog W 0 (fun _ => true) true fu1 3 [.int .i64 u1] = some (d1, p1) := hf1
  have wf3 : (Lit.int .i64 u1).wf = true := by obtain ⟨n, e, h⟩ := Frame.trod_int' Try.underlying3 hf1; cases e; exact h
  refine (compressBest_walk qa0 qn0 qc0 xs1 u1 W wf2 wf3).mono fun e W' ⟨he, hb⟩ => ?_
  subst he
  exact ⟨_, rfl, Frame.law_post (tb := 4) (by kernel_rfl) (by
    rw [Try.params9]
    intro t ht
    simp only [List.mem_cons, List.not_mem_nil, or_false] at ht
    rcases ht with rfl | rfl <;> exact ⟨by kernel_rfl, of_decide_eq_true (by kernel_rfl)⟩) rfl hW' rfl Try.underlying4 rfl hb⟩
theorem compressBest_over : Rows.compressBestRow.holds Try.pinned (OpenSpec.ofChange Rows.compressBestSpec) :=
  OpenClaim.holds_of_wide 9 Try.f9 rfl rfl rfl rfl rfl rfl rfl ⟨rfl, rfl, rfl, rfl, rfl⟩ rfl rfl rfl rfl rfl (by kernel_rfl) Try.func9 (by kernel_rfl)
    (of_decide_eq_true (by kernel_rfl)) (by unfold Func.isWrapper; first | (rw [if_pos (by decide +kernel)]; kernel_rfl) | (rw [if_neg (by decide +kernel)]; exact ⟨rfl, rfl⟩))
    (fun os started H enc _ => compressBest_lifted os started H enc)
/-- THE STATEMENT -/
theorem compressBest_holds : Rows.CompressBestSaid := compressBest_over
#print axioms compressBest_holds
end Go.Proofs.Ytgdkehnakopnnaa
