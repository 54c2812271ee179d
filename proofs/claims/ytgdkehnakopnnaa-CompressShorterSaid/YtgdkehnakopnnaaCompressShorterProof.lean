/- CompressShorter: for every input the law returns true, and each argument reads afterwards as before. No condition beyond the given row's. -/
import Derived.Test.YtgdkehnakopnnaaCpL5
import Derived.Test.YtgdkehnakopnnaaCpOpen
import Derived.Test.YtgdkehnakopnnaaFrame
namespace Go.Proofs.Ytgdkehnakopnnaa
open Go Go.ChangeShapes Go.WideShapes Go.ChangeAt Go.RowKit Cp
set_option linter.unusedVariables false in
set_option maxRecDepth 100000 in
theorem compressShorter_lifted (os : Os) (started : os.Started) (H : Type) (enc : TypeId × Value → H) :
    ReturnsInHanded {} Try.checked os 3 .any (Rows.compressShorterSpec.pre6 enc Try.prog Try.f3 Rows.compressShorterRow.domain false) (Rows.compressShorterSpec.post enc Try.prog Try.f3 false true false false) := by
  refine returnsInHanded_of_change (C := Try.checked) (show ownKnob Try.prog.godebug = none by kernel_rfl) started (by kernel_rfl) Try.func3
    (ChangeSpec.witness6 (enc := enc) (C := Try.checked) false ⟨#[], #[.slice none 0 0, (.agg #[.int .i64 0, .int .i64 0, .string ByteArray.empty, .string ByteArray.empty, .int .i64 0, .int .i64 0, .int .i64 0]), (.agg #[.string ByteArray.empty])], []⟩ 8 (by kernel_rfl) (by kernel_rfl) (by kernel_rfl) (by kernel_rfl)) ?_
  intro W base args ds gs before hval0 hW hcnd _
  have hval : ∀ (j : Nat) t v, Try.f3.params[j]? = some t → args[j]? = some v → Value.okWide Try.prog W .any base t v := hval0
  have hW' := hW
  obtain ⟨p, q, hA0, hV, rfl, hfz, hnd⟩ := hW
  have hA : DataW.TrodAll enc Try.prog W 0 (fun _ => true) true Try.f3.params.toList args.toList ds p := hA0
  rw [Try.params3] at hA hval
  obtain ⟨v0, vs0, d0, ds0, p0, q0, hargs, rfl, rfl, h0, r0⟩ := trodAll_cons hA
  obtain ⟨v1, vs1, d1, ds1, p1, q1, rfl, rfl, rfl, h1, r1⟩ := trodAll_cons r0
  obtain ⟨v2, vs2, d2, ds2, p2, q2, rfl, rfl, rfl, h2, r2⟩ := trodAll_cons r1
  obtain ⟨rfl, rfl, rfl⟩ := trodAll_nil r2
  obtain rfl : args = #[v0, v1, v2] := by cases args; simp_all
  obtain ⟨rfl, rfl⟩ := trodVars_none hV
  clear hA0 hval0 hcnd hA hfz hnd hV
  obtain ⟨fu0, hf0⟩ := h0
  obtain ⟨qa0, qn0, qc0, rfl⟩ := okWide_slice Try.underlying22 (hval 0 22 v0 rfl rfl)
  replace hf0 : DataW.trod enc Try.prog W 0 (fun _ => true) true fu0 22 [.slice qa0 qn0 qc0] = some (d0, p0) := hf0
  obtain ⟨xs1, wf2⟩ := Cp.open_ctx hf0
  obtain ⟨fu1, hf1⟩ := h1
  obtain ⟨cs1, rfl⟩ := Frame.okWide_agg (hval 1 24 v1 rfl rfl) (.inl ⟨_, Try.underlying24⟩)
  replace hf1 : DataW.trod enc Try.prog W 0 (fun _ => true) true fu1 24 cs1.toList = some (d1, p1) := hf1
  have len1 : cs1.toList.length = 7 := (Frame.trod_struct' Try.underlying24 hf1).1.trans (by kernel_rfl)
  obtain ⟨c1_0, c1_1, c1_2, c1_3, c1_4, c1_5, c1_6, ecs1⟩ := Frame.list7 len1
  obtain rfl : cs1 = #[c1_0, c1_1, c1_2, c1_3, c1_4, c1_5, c1_6] := by rw [← Array.toArray_toList (xs := cs1), ecs1]
  replace hf1 : DataW.trod enc Try.prog W 0 (fun _ => true) true fu1 24 [c1_0, c1_1, c1_2, c1_3, c1_4, c1_5, c1_6] = some (d1, p1) := hf1
  obtain ⟨hl3, hf4⟩ := Frame.trod_struct' Try.underlying24 hf1
  obtain ⟨m5, y6, g7⟩ := hf4 0 _ rfl
  replace g7 : DataW.trod enc Try.prog W 0 (fun _ => true) true m5 3 (([c1_0, _, _, _, _, _, _].drop 0).take (Try.prog.cellsOf 3)) = some y6 := g7
  rw [show Try.prog.cellsOf 3 = 1 from by kernel_rfl] at g7
  replace g7 : DataW.trod enc Try.prog W 0 (fun _ => true) true m5 3 [c1_0] = some y6 := g7
  obtain ⟨n10, e8, wf9⟩ := Frame.trod_int' Try.underlying3 g7
  obtain rfl : c1_0 = .int .i64 n10 := by injection e8
  obtain ⟨m11, y12, g13⟩ := hf4 1 _ rfl
  replace g13 : DataW.trod enc Try.prog W 0 (fun _ => true) true m11 3 (([_, c1_1, _, _, _, _, _].drop 1).take (Try.prog.cellsOf 3)) = some y12 := g13
  rw [show Try.prog.cellsOf 3 = 1 from by kernel_rfl] at g13
  replace g13 : DataW.trod enc Try.prog W 0 (fun _ => true) true m11 3 [c1_1] = some y12 := g13
  obtain ⟨n16, e14, wf15⟩ := Frame.trod_int' Try.underlying3 g13
  obtain rfl : c1_1 = .int .i64 n16 := by injection e14
  obtain ⟨m17, y18, g19⟩ := hf4 2 _ rfl
  replace g19 : DataW.trod enc Try.prog W 0 (fun _ => true) true m17 9 (([_, _, c1_2, _, _, _, _].drop 2).take (Try.prog.cellsOf 9)) = some y18 := g19
  rw [show Try.prog.cellsOf 9 = 1 from by kernel_rfl] at g19
  replace g19 : DataW.trod enc Try.prog W 0 (fun _ => true) true m17 9 [c1_2] = some y18 := g19
  obtain ⟨s22, e20, wf21⟩ := Frame.trod_string' Try.underlying9 g19
  obtain rfl : c1_2 = .string s22 := by injection e20
  obtain ⟨m23, y24, g25⟩ := hf4 3 _ rfl
  replace g25 : DataW.trod enc Try.prog W 0 (fun _ => true) true m23 9 (([_, _, _, c1_3, _, _, _].drop 3).take (Try.prog.cellsOf 9)) = some y24 := g25
  rw [show Try.prog.cellsOf 9 = 1 from by kernel_rfl] at g25
  replace g25 : DataW.trod enc Try.prog W 0 (fun _ => true) true m23 9 [c1_3] = some y24 := g25
  obtain ⟨s28, e26, wf27⟩ := Frame.trod_string' Try.underlying9 g25
  obtain rfl : c1_3 = .string s28 := by injection e26
  obtain ⟨m29, y30, g31⟩ := hf4 4 _ rfl
  replace g31 : DataW.trod enc Try.prog W 0 (fun _ => true) true m29 3 (([_, _, _, _, c1_4, _, _].drop 4).take (Try.prog.cellsOf 3)) = some y30 := g31
  rw [show Try.prog.cellsOf 3 = 1 from by kernel_rfl] at g31
  replace g31 : DataW.trod enc Try.prog W 0 (fun _ => true) true m29 3 [c1_4] = some y30 := g31
  obtain ⟨n34, e32, wf33⟩ := Frame.trod_int' Try.underlying3 g31
  obtain rfl : c1_4 = .int .i64 n34 := by injection e32
  obtain ⟨m35, y36, g37⟩ := hf4 5 _ rfl
  replace g37 : DataW.trod enc Try.prog W 0 (fun _ => true) true m35 3 (([_, _, _, _, _, c1_5, _].drop 5).take (Try.prog.cellsOf 3)) = some y36 := g37
  rw [show Try.prog.cellsOf 3 = 1 from by kernel_rfl] at g37
  replace g37 : DataW.trod enc Try.prog W 0 (fun _ => true) true m35 3 [c1_5] = some y36 := g37
  obtain ⟨n40, e38, wf39⟩ := Frame.trod_int' Try.underlying3 g37
  obtain rfl : c1_5 = .int .i64 n40 := by injection e38
  obtain ⟨m41, y42, g43⟩ := hf4 6 _ rfl
  replace g43 : DataW.trod enc Try.prog W 0 (fun _ => true) true m41 3 (([_, _, _, _, _, _, c1_6].drop 6).take (Try.prog.cellsOf 3)) = some y42 := g43
  rw [show Try.prog.cellsOf 3 = 1 from by kernel_rfl] at g43
  replace g43 : DataW.trod enc Try.prog W 0 (fun _ => true) true m41 3 [c1_6] = some y42 := g43
  obtain ⟨n46, e44, wf45⟩ := Frame.trod_int' Try.underlying3 g43
  obtain rfl : c1_6 = .int .i64 n46 := by injection e44
  obtain ⟨fu2, hf2⟩ := h2
  obtain ⟨cs2, rfl⟩ := Frame.okWide_agg (hval 2 26 v2 rfl rfl) (.inl ⟨_, Try.underlying26⟩)
  replace hf2 : DataW.trod enc Try.prog W 0 (fun _ => true) true fu2 26 cs2.toList = some (d2, p2) := hf2
  have len2 : cs2.toList.length = 1 := (Frame.trod_struct' Try.underlying26 hf2).1.trans (by kernel_rfl)
  obtain ⟨c2_0, ecs2⟩ := Frame.list1 len2
  obtain rfl : cs2 = #[c2_0] := by rw [← Array.toArray_toList (xs := cs2), ecs2]
  replace hf2 : DataW.trod enc Try.prog W 0 (fun _ => true) true fu2 26 [c2_0] = some (d2, p2) := hf2
  obtain ⟨hl47, hf48⟩ := Frame.trod_struct' Try.underlying26 hf2
  obtain ⟨m49, y50, g51⟩ := hf48 0 _ rfl
  replace g51 : DataW.trod enc Try.prog W 0 (fun _ => true) true m49 9 (([c2_0].drop 0).take (Try.prog.cellsOf 9)) = some y50 := g51
  rw [show Try.prog.cellsOf 9 = 1 from by kernel_rfl] at g51
  replace g51 : DataW.trod enc Try.prog W 0 (fun _ => true) true m49 9 [c2_0] = some y50 := g51
  obtain ⟨s54, e52, wf53⟩ := Frame.trod_string' Try.underlying9 g51
  obtain rfl : c2_0 = .string s54 := by injection e52
  refine (compressShorter_walk qa0 qn0 qc0 xs1 n10 n16 s22 s28 n34 n40 n46 s54 W wf2 wf9 wf15 wf21 wf27 wf33 wf39 wf45 wf53).mono fun e W' ⟨he, hb⟩ => ?_
  subst he
  exact ⟨_, rfl, Frame.law_post (tb := 4) (by kernel_rfl) (by
    rw [Try.params3]
    intro t ht
    simp only [List.mem_cons, List.not_mem_nil, or_false] at ht
    rcases ht with rfl | rfl | rfl <;> exact ⟨by kernel_rfl, of_decide_eq_true (by kernel_rfl)⟩) rfl hW' rfl Try.underlying4 rfl hb⟩
theorem compressShorter_over : Rows.compressShorterRow.holds Try.pinned (OpenSpec.ofChange Rows.compressShorterSpec) :=
  OpenClaim.holds_of_wide 3 Try.f3 rfl rfl rfl rfl rfl rfl rfl ⟨rfl, rfl, rfl, rfl, rfl⟩ rfl rfl rfl rfl rfl (by kernel_rfl) Try.func3 (by kernel_rfl)
    (of_decide_eq_true (by kernel_rfl)) (by unfold Func.isWrapper; first | (rw [if_pos (by decide +kernel)]; kernel_rfl) | (rw [if_neg (by decide +kernel)]; exact ⟨rfl, rfl⟩))
    (fun os started H enc _ => compressShorter_lifted os started H enc)
/-- THE STATEMENT -/
theorem compressShorter_holds : Rows.CompressShorterSaid := compressShorter_over
#print axioms compressShorter_holds
end Go.Proofs.Ytgdkehnakopnnaa
