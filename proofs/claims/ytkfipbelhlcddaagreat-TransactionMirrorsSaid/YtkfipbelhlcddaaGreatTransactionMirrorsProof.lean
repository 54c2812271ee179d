/- TransactionMirrors: for every input the law returns true, and each argument reads afterwards as before. No condition beyond the given row's. -/
import Derived.Test.YtkfipbelhlcddaaGreatTbVm
import Derived.Test.YtkfipbelhlcddaaGreatMo
import Derived.Test.YtkfipbelhlcddaaGreatFrame
namespace Go.Proofs.YtkfipbelhlcddaaGreat
open Go Go.ChangeShapes Go.WideShapes Go.ChangeAt Go.RowKit Tx
set_option linter.unusedVariables false in
set_option maxRecDepth 100000 in
theorem transactionMirrors_lifted (os : Os) (started : os.Started) (H : Type) (enc : TypeId × Value → H) :
    ReturnsInHanded {} Tryz.checked os 5 .any (Rows.transactionMirrorsSpec.pre6 enc Tryz.prog Tryz.f5 Rows.transactionMirrorsRow.domain false) (Rows.transactionMirrorsSpec.post enc Tryz.prog Tryz.f5 false true false false) := by
  refine returnsInHanded_of_change (C := Tryz.checked) (show ownKnob Tryz.prog.godebug = none by kernel_rfl) started (by kernel_rfl) Tryz.func5
    (ChangeSpec.witness6 (enc := enc) (C := Tryz.checked) false ⟨#[], #[.int .u8 0, .slice none 0 0, .slice none 0 0, .slice none 0 0, .slice none 0 0, .int .u8 0, .int .u8 0], []⟩ 8 (by kernel_rfl) (by kernel_rfl) (by kernel_rfl) (by kernel_rfl)) ?_
  intro W base args ds gs before hval0 hW hcnd _
  have hval : ∀ (j : Nat) t v, Tryz.f5.params[j]? = some t → args[j]? = some v → Value.okWide Tryz.prog W .any base t v := hval0
  have hW' := hW
  obtain ⟨p, q, hA0, hV, rfl, hfz, hnd⟩ := hW
  have hA : DataW.TrodAll enc Tryz.prog W 0 (fun _ => true) true Tryz.f5.params.toList args.toList ds p := hA0
  rw [Tryz.params5] at hA hval
  obtain ⟨v0, vs0, d0, ds0, p0, q0, hargs, rfl, rfl, h0, r0⟩ := trodAll_cons hA
  obtain ⟨v1, vs1, d1, ds1, p1, q1, rfl, rfl, rfl, h1, r1⟩ := trodAll_cons r0
  obtain ⟨v2, vs2, d2, ds2, p2, q2, rfl, rfl, rfl, h2, r2⟩ := trodAll_cons r1
  obtain ⟨v3, vs3, d3, ds3, p3, q3, rfl, rfl, rfl, h3, r3⟩ := trodAll_cons r2
  obtain ⟨v4, vs4, d4, ds4, p4, q4, rfl, rfl, rfl, h4, r4⟩ := trodAll_cons r3
  obtain ⟨v5, vs5, d5, ds5, p5, q5, rfl, rfl, rfl, h5, r5⟩ := trodAll_cons r4
  obtain ⟨v6, vs6, d6, ds6, p6, q6, rfl, rfl, rfl, h6, r6⟩ := trodAll_cons r5
  obtain ⟨rfl, rfl, rfl⟩ := trodAll_nil r6
  obtain rfl : args = #[v0, v1, v2, v3, v4, v5, v6] := by cases args; simp_all
  obtain ⟨rfl, rfl⟩ := trodVars_none hV
  clear hA0 hval0 hcnd hA hfz hnd hV
  obtain ⟨fu0, hf0⟩ := h0
  obtain ⟨u0, rfl⟩ := okWide_int Tryz.underlying5 (hval 0 5 v0 rfl rfl)
  replace hf0 : DataW.trod enc Tryz.prog W 0 (fun _ => true) true fu0 5 [.int .u8 u0] = some (d0, p0) := hf0
  have wf1 : (Lit.int .u8 u0).wf = true := by obtain ⟨n, e, h⟩ := Frame.trod_int' Tryz.underlying5 hf0; cases e; exact h
  obtain ⟨fu1, hf1⟩ := h1
  obtain ⟨qa1, qn1, qc1, rfl⟩ := okWide_slice Tryz.underlying22 (hval 1 22 v1 rfl rfl)
  replace hf1 : DataW.trod enc Tryz.prog W 0 (fun _ => true) true fu1 22 [.slice qa1 qn1 qc1] = some (d1, p1) := hf1
  obtain ⟨xs2, wf3⟩ := open_tcls hf1
  obtain ⟨fu2, hf2⟩ := h2
  obtain ⟨qa2, qn2, qc2, rfl⟩ := okWide_slice Tryz.underlying45 (hval 2 45 v2 rfl rfl)
  replace hf2 : DataW.trod enc Tryz.prog W 0 (fun _ => true) true fu2 45 [.slice qa2 qn2 qc2] = some (d2, p2) := hf2
  obtain ⟨xs4, wf5⟩ := open_u8s hf2
  obtain ⟨fu3, hf3⟩ := h3
  obtain ⟨qa3, qn3, qc3, rfl⟩ := okWide_slice Tryz.underlying45 (hval 3 45 v3 rfl rfl)
  replace hf3 : DataW.trod enc Tryz.prog W 0 (fun _ => true) true fu3 45 [.slice qa3 qn3 qc3] = some (d3, p3) := hf3
  obtain ⟨xs6, wf7⟩ := open_u8s hf3
  obtain ⟨fu4, hf4⟩ := h4
  obtain ⟨qa4, qn4, qc4, rfl⟩ := okWide_slice Tryz.underlying31 (hval 4 31 v4 rfl rfl)
  replace hf4 : DataW.trod enc Tryz.prog W 0 (fun _ => true) true fu4 31 [.slice qa4 qn4 qc4] = some (d4, p4) := hf4
  obtain ⟨xs8, wf9⟩ := open_ints hf4
  obtain ⟨fu5, hf5⟩ := h5
  obtain ⟨u5, rfl⟩ := okWide_int Tryz.underlying5 (hval 5 5 v5 rfl rfl)
  replace hf5 : DataW.trod enc Tryz.prog W 0 (fun _ => true) true fu5 5 [.int .u8 u5] = some (d5, p5) := hf5
  have wf10 : (Lit.int .u8 u5).wf = true := by obtain ⟨n, e, h⟩ := Frame.trod_int' Tryz.underlying5 hf5; cases e; exact h
  obtain ⟨fu6, hf6⟩ := h6
  obtain ⟨u6, rfl⟩ := okWide_int Tryz.underlying5 (hval 6 5 v6 rfl rfl)
  replace hf6 : DataW.trod enc Tryz.prog W 0 (fun _ => true) true fu6 5 [.int .u8 u6] = some (d6, p6) := hf6
  have wf11 : (Lit.int .u8 u6).wf = true := by obtain ⟨n, e, h⟩ := Frame.trod_int' Tryz.underlying5 hf6; cases e; exact h
  refine (transactionMirrors_walk u0 qa1 qn1 qc1 xs2 qa2 qn2 qc2 xs4 qa3 qn3 qc3 xs6 qa4 qn4 qc4 xs8 u5 u6 W wf1 wf3 wf5 wf7 wf9 wf10 wf11).mono fun e W' ⟨he, hb⟩ => ?_
  subst he
  exact ⟨_, rfl, Frame.law_post (tb := 4) (by kernel_rfl) (by
    rw [Tryz.params5]
    intro t ht
    simp only [List.mem_cons, List.not_mem_nil, or_false] at ht
    rcases ht with rfl | rfl | rfl | rfl | rfl | rfl | rfl <;> exact ⟨by kernel_rfl, of_decide_eq_true (by kernel_rfl)⟩) rfl hW' rfl Tryz.underlying4 rfl hb⟩
theorem transactionMirrors_over : Rows.transactionMirrorsRow.holds Tryz.pinned (OpenSpec.ofChange Rows.transactionMirrorsSpec) :=
  OpenClaim.holds_of_wide 5 Tryz.f5 rfl rfl rfl rfl rfl rfl rfl ⟨rfl, rfl, rfl, rfl, rfl⟩ rfl rfl rfl rfl rfl (by kernel_rfl) Tryz.func5 (by kernel_rfl)
    (of_decide_eq_true (by kernel_rfl)) (by unfold Func.isWrapper; first | (rw [if_pos (by decide +kernel)]; kernel_rfl) | (rw [if_neg (by decide +kernel)]; exact ⟨rfl, rfl⟩))
    (fun os started H enc _ => transactionMirrors_lifted os started H enc)
/-- THE STATEMENT -/
theorem transactionMirrors_holds : Rows.TransactionMirrorsSaid := transactionMirrors_over
#print axioms transactionMirrors_holds
end Go.Proofs.YtkfipbelhlcddaaGreat
