/- CrcFinds: for every input the law returns true, and each argument reads afterwards as before. No condition beyond the given row's. -/
import Derived.Test.YtlefbpopemkkaaaCrcOpen
import Derived.Test.YtlefbpopemkkaaaFrame
namespace Go.Proofs.Ytlefbpopemkkaaa
open Go Go.ChangeShapes Go.WideShapes Go.ChangeAt Go.RowKit
set_option linter.unusedVariables false in
set_option maxRecDepth 100000 in
theorem crcFinds_lifted (os : Os) (started : os.Started) (H : Type) (enc : TypeId × Value → H) :
    ReturnsInHanded {} Try.checked os 10 .any (Rows.crcFindsSpec.pre6 enc Try.prog Try.f10 Rows.crcFindsRow.domain false) (Rows.crcFindsSpec.post enc Try.prog Try.f10 false true false false) := by
  refine returnsInHanded_of_change (C := Try.checked) (show ownKnob Try.prog.godebug = none by kernel_rfl) started (by kernel_rfl) Try.func10
    (ChangeSpec.witness6 (enc := enc) (C := Try.checked) false ⟨#[], #[.string ByteArray.empty, (.agg #[.int .u16 0, .int .u16 0]), .slice none 0 0], []⟩ 8 (by kernel_rfl) (by kernel_rfl) (by kernel_rfl) (by kernel_rfl)) ?_
  intro W base args ds gs before hval0 hW hcnd _
  have hval : ∀ (j : Nat) t v, Try.f10.params[j]? = some t → args[j]? = some v → Value.okWide Try.prog W .any base t v := hval0
  have hW' := hW
  obtain ⟨p, q, hA0, hV, rfl, hfz, hnd⟩ := hW
  have hA : DataW.TrodAll enc Try.prog W 0 (fun _ => true) true Try.f10.params.toList args.toList ds p := hA0
  rw [Try.params10] at hA hval
  obtain ⟨v0, vs0, d0, ds0, p0, q0, hargs, rfl, rfl, h0, r0⟩ := trodAll_cons hA
  obtain ⟨v1, vs1, d1, ds1, p1, q1, rfl, rfl, rfl, h1, r1⟩ := trodAll_cons r0
  obtain ⟨v2, vs2, d2, ds2, p2, q2, rfl, rfl, rfl, h2, r2⟩ := trodAll_cons r1
  obtain ⟨rfl, rfl, rfl⟩ := trodAll_nil r2
  obtain rfl : args = #[v0, v1, v2] := by cases args; simp_all
  obtain ⟨rfl, rfl⟩ := trodVars_none hV
  clear hA0 hval0 hcnd hA hfz hnd hV
  obtain ⟨fu0, hf0⟩ := h0
  obtain ⟨u0, rfl⟩ := okWide_string Try.underlying9 (hval 0 9 v0 rfl rfl)
  replace hf0 : DataW.trod enc Try.prog W 0 (fun _ => true) true fu0 9 [.string u0] = some (d0, p0) := hf0
  have wf1 : u0.size ≤ maxLen := by obtain ⟨n, e, h⟩ := Frame.trod_string' Try.underlying9 hf0; cases e; exact h
  obtain ⟨fu1, hf1⟩ := h1
  obtain ⟨cs1, rfl⟩ := Frame.okWide_agg (hval 1 47 v1 rfl rfl) (.inr ⟨_, _, Try.underlying47⟩)
  replace hf1 : DataW.trod enc Try.prog W 0 (fun _ => true) true fu1 47 cs1.toList = some (d1, p1) := hf1
  have len1 : cs1.toList.length = 2 := (Frame.trod_array' Try.underlying47 hf1).1.trans (by kernel_rfl)
  obtain ⟨c1_0, c1_1, ecs1⟩ := Frame.list2 len1
  obtain rfl : cs1 = #[c1_0, c1_1] := by rw [← Array.toArray_toList (xs := cs1), ecs1]
  replace hf1 : DataW.trod enc Try.prog W 0 (fun _ => true) true fu1 47 [c1_0, c1_1] = some (d1, p1) := hf1
  obtain ⟨hl2, hf3⟩ := Frame.trod_array' Try.underlying47 hf1
  obtain ⟨m4, y5, g6⟩ := hf3 0 (by omega)
  replace g6 : DataW.trod enc Try.prog W 0 (fun _ => true) true m4 22 (([c1_0, _].drop (0 * Try.prog.cellsOf 22)).take (Try.prog.cellsOf 22)) = some y5 := g6
  rw [show Try.prog.cellsOf 22 = 1 from by kernel_rfl] at g6
  replace g6 : DataW.trod enc Try.prog W 0 (fun _ => true) true m4 22 [c1_0] = some y5 := g6
  obtain ⟨n9, e7, wf8⟩ := Frame.trod_int' Try.underlying22 g6
  obtain rfl : c1_0 = .int .u16 n9 := by injection e7
  obtain ⟨m10, y11, g12⟩ := hf3 1 (by omega)
  replace g12 : DataW.trod enc Try.prog W 0 (fun _ => true) true m10 22 (([_, c1_1].drop (1 * Try.prog.cellsOf 22)).take (Try.prog.cellsOf 22)) = some y11 := g12
  rw [show Try.prog.cellsOf 22 = 1 from by kernel_rfl] at g12
  replace g12 : DataW.trod enc Try.prog W 0 (fun _ => true) true m10 22 [c1_1] = some y11 := g12
  obtain ⟨n15, e13, wf14⟩ := Frame.trod_int' Try.underlying22 g12
  obtain rfl : c1_1 = .int .u16 n15 := by injection e13
  obtain ⟨fu2, hf2⟩ := h2
  obtain ⟨qa2, qn2, qc2, rfl⟩ := okWide_slice Try.underlying48 (hval 2 48 v2 rfl rfl)
  replace hf2 : DataW.trod enc Try.prog W 0 (fun _ => true) true fu2 48 [.slice qa2 qn2 qc2] = some (d2, p2) := hf2
  obtain ⟨xs16, wf17⟩ := Crc.open_u16s hf2
  refine (crcFinds_walk u0 n9 n15 qa2 qn2 qc2 xs16 W wf1 wf8 wf14 wf17).mono fun e W' ⟨he, hb⟩ => ?_
  subst he
  exact ⟨_, rfl, Frame.law_post (tb := 4) (by kernel_rfl) (by
    rw [Try.params10]
    intro t ht
    simp only [List.mem_cons, List.not_mem_nil, or_false] at ht
    rcases ht with rfl | rfl | rfl <;> exact ⟨by kernel_rfl, of_decide_eq_true (by kernel_rfl)⟩) rfl hW' rfl Try.underlying4 rfl hb⟩
theorem crcFinds_over : Rows.crcFindsRow.holds Try.pinned (OpenSpec.ofChange Rows.crcFindsSpec) :=
  OpenClaim.holds_of_wide 10 Try.f10 rfl rfl rfl rfl rfl rfl rfl ⟨rfl, rfl, rfl, rfl, rfl⟩ rfl rfl rfl rfl rfl (by kernel_rfl) Try.func10 (by kernel_rfl)
    (of_decide_eq_true (by kernel_rfl)) (by unfold Func.isWrapper; first | (rw [if_pos (by decide +kernel)]; kernel_rfl) | (rw [if_neg (by decide +kernel)]; exact ⟨rfl, rfl⟩))
    (fun os started H enc _ => crcFinds_lifted os started H enc)
/-- THE STATEMENT -/
theorem crcFinds_holds : Rows.CrcFindsSaid := crcFinds_over
#print axioms crcFinds_holds
end Go.Proofs.Ytlefbpopemkkaaa
