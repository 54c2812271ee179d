/- SwitchoverDuties: for every input the law returns true, and each argument reads afterwards as before. No condition beyond the given row's. -/
import Derived.Test.YtdlgdmbcbenlbaaSwL7
import Derived.Test.YtdlgdmbcbenlbaaSwOpen
import Derived.Test.YtdlgdmbcbenlbaaFrame
namespace Go.Proofs.Ytdlgdmbcbenlbaa
open Go Go.ChangeShapes Go.WideShapes Go.ChangeAt Go.RowKit Sw
set_option linter.unusedVariables false in
set_option maxRecDepth 100000 in
theorem switchoverDuties_lifted (os : Os) (started : os.Started) (H : Type) (enc : TypeId × Value → H) :
    ReturnsInHanded {} Try.checked os 4 .any (Rows.switchoverDutiesSpec.pre6 enc Try.prog Try.f4 Rows.switchoverDutiesRow.domain false) (Rows.switchoverDutiesSpec.post enc Try.prog Try.f4 false true false false) := by
  refine returnsInHanded_of_change (C := Try.checked) (show ownKnob Try.prog.godebug = none by kernel_rfl) started (by kernel_rfl) Try.func4
    (ChangeSpec.witness6 (enc := enc) (C := Try.checked) false ⟨#[], #[(.agg #[.int .i64 0, .int .i64 0, .slice none 0 0]), .slice none 0 0, (.agg #[.int .i64 0, .int .i64 0, .int .i64 0, .int .i64 0, .int .i64 0]), .int .i64 0], []⟩ 8 (by kernel_rfl) (by kernel_rfl) (by kernel_rfl) (by kernel_rfl)) ?_
  intro W base args ds gs before hval0 hW hcnd _
  have hval : ∀ (j : Nat) t v, Try.f4.params[j]? = some t → args[j]? = some v → Value.okWide Try.prog W .any base t v := hval0
  have hW' := hW
  obtain ⟨p, q, hA0, hV, rfl, hfz, hnd⟩ := hW
  have hA : DataW.TrodAll enc Try.prog W 0 (fun _ => true) true Try.f4.params.toList args.toList ds p := hA0
  rw [Try.params4] at hA hval
  obtain ⟨v0, vs0, d0, ds0, p0, q0, hargs, rfl, rfl, h0, r0⟩ := trodAll_cons hA
  obtain ⟨v1, vs1, d1, ds1, p1, q1, rfl, rfl, rfl, h1, r1⟩ := trodAll_cons r0
  obtain ⟨v2, vs2, d2, ds2, p2, q2, rfl, rfl, rfl, h2, r2⟩ := trodAll_cons r1
  obtain ⟨v3, vs3, d3, ds3, p3, q3, rfl, rfl, rfl, h3, r3⟩ := trodAll_cons r2
  obtain ⟨rfl, rfl, rfl⟩ := trodAll_nil r3
  obtain rfl : args = #[v0, v1, v2, v3] := by cases args; simp_all
  obtain ⟨rfl, rfl⟩ := trodVars_none hV
  clear hA0 hval0 hcnd hA hfz hnd hV
  obtain ⟨fu0, hf0⟩ := h0
  obtain ⟨cs0, rfl⟩ := Frame.okWide_agg (hval 0 24 v0 rfl rfl) (.inl ⟨_, Try.underlying24⟩)
  replace hf0 : DataW.trod enc Try.prog W 0 (fun _ => true) true fu0 24 cs0.toList = some (d0, p0) := hf0
  have len0 : cs0.toList.length = 3 := (Frame.trod_struct' Try.underlying24 hf0).1.trans (by kernel_rfl)
  obtain ⟨c0_0, c0_1, c0_2, ecs0⟩ := Frame.list3 len0
  obtain rfl : cs0 = #[c0_0, c0_1, c0_2] := by rw [← Array.toArray_toList (xs := cs0), ecs0]
  replace hf0 : DataW.trod enc Try.prog W 0 (fun _ => true) true fu0 24 [c0_0, c0_1, c0_2] = some (d0, p0) := hf0
  obtain ⟨hl1, hf2⟩ := Frame.trod_struct' Try.underlying24 hf0
  obtain ⟨m3, y4, g5⟩ := hf2 0 _ rfl
  replace g5 : DataW.trod enc Try.prog W 0 (fun _ => true) true m3 3 (([c0_0, _, _].drop 0).take (Try.prog.cellsOf 3)) = some y4 := g5
  rw [show Try.prog.cellsOf 3 = 1 from by kernel_rfl] at g5
  replace g5 : DataW.trod enc Try.prog W 0 (fun _ => true) true m3 3 [c0_0] = some y4 := g5
  obtain ⟨n8, e6, wf7⟩ := Frame.trod_int' Try.underlying3 g5
  obtain rfl : c0_0 = .int .i64 n8 := by injection e6
  obtain ⟨m9, y10, g11⟩ := hf2 1 _ rfl
  replace g11 : DataW.trod enc Try.prog W 0 (fun _ => true) true m9 3 (([_, c0_1, _].drop 1).take (Try.prog.cellsOf 3)) = some y10 := g11
  rw [show Try.prog.cellsOf 3 = 1 from by kernel_rfl] at g11
  replace g11 : DataW.trod enc Try.prog W 0 (fun _ => true) true m9 3 [c0_1] = some y10 := g11
  obtain ⟨n14, e12, wf13⟩ := Frame.trod_int' Try.underlying3 g11
  obtain rfl : c0_1 = .int .i64 n14 := by injection e12
  obtain ⟨m15, y16, g17⟩ := hf2 2 _ rfl
  replace g17 : DataW.trod enc Try.prog W 0 (fun _ => true) true m15 22 (([_, _, c0_2].drop 2).take (Try.prog.cellsOf 22)) = some y16 := g17
  rw [show Try.prog.cellsOf 22 = 1 from by kernel_rfl] at g17
  replace g17 : DataW.trod enc Try.prog W 0 (fun _ => true) true m15 22 [c0_2] = some y16 := g17
  obtain ⟨A20, n21, c22, e18, _⟩ := Frame.trod_slice' Try.underlying22 g17
  obtain rfl : c0_2 = .slice A20 n21 c22 := by injection e18
  obtain ⟨xs23, wf19⟩ := Sw.open_cells g17
  obtain ⟨fu1, hf1⟩ := h1
  obtain ⟨qa1, qn1, qc1, rfl⟩ := okWide_slice Try.underlying25 (hval 1 25 v1 rfl rfl)
  replace hf1 : DataW.trod enc Try.prog W 0 (fun _ => true) true fu1 25 [.slice qa1 qn1 qc1] = some (d1, p1) := hf1
  obtain ⟨xs24, wf25⟩ := Sw.open_chgs hf1
  obtain ⟨fu2, hf2⟩ := h2
  obtain ⟨cs2, rfl⟩ := Frame.okWide_agg (hval 2 34 v2 rfl rfl) (.inl ⟨_, Try.underlying34⟩)
  replace hf2 : DataW.trod enc Try.prog W 0 (fun _ => true) true fu2 34 cs2.toList = some (d2, p2) := hf2
  have len2 : cs2.toList.length = 5 := (Frame.trod_struct' Try.underlying34 hf2).1.trans (by kernel_rfl)
  obtain ⟨c2_0, c2_1, c2_2, c2_3, c2_4, ecs2⟩ := Frame.list5 len2
  obtain rfl : cs2 = #[c2_0, c2_1, c2_2, c2_3, c2_4] := by rw [← Array.toArray_toList (xs := cs2), ecs2]
  replace hf2 : DataW.trod enc Try.prog W 0 (fun _ => true) true fu2 34 [c2_0, c2_1, c2_2, c2_3, c2_4] = some (d2, p2) := hf2
  obtain ⟨hl26, hf27⟩ := Frame.trod_struct' Try.underlying34 hf2
  obtain ⟨m28, y29, g30⟩ := hf27 0 _ rfl
  replace g30 : DataW.trod enc Try.prog W 0 (fun _ => true) true m28 3 (([c2_0, _, _, _, _].drop 0).take (Try.prog.cellsOf 3)) = some y29 := g30
  rw [show Try.prog.cellsOf 3 = 1 from by kernel_rfl] at g30
  replace g30 : DataW.trod enc Try.prog W 0 (fun _ => true) true m28 3 [c2_0] = some y29 := g30
  obtain ⟨n33, e31, wf32⟩ := Frame.trod_int' Try.underlying3 g30
  obtain rfl : c2_0 = .int .i64 n33 := by injection e31
  obtain ⟨m34, y35, g36⟩ := hf27 1 _ rfl
  replace g36 : DataW.trod enc Try.prog W 0 (fun _ => true) true m34 3 (([_, c2_1, _, _, _].drop 1).take (Try.prog.cellsOf 3)) = some y35 := g36
  rw [show Try.prog.cellsOf 3 = 1 from by kernel_rfl] at g36
  replace g36 : DataW.trod enc Try.prog W 0 (fun _ => true) true m34 3 [c2_1] = some y35 := g36
  obtain ⟨n39, e37, wf38⟩ := Frame.trod_int' Try.underlying3 g36
  obtain rfl : c2_1 = .int .i64 n39 := by injection e37
  obtain ⟨m40, y41, g42⟩ := hf27 2 _ rfl
  replace g42 : DataW.trod enc Try.prog W 0 (fun _ => true) true m40 3 (([_, _, c2_2, _, _].drop 2).take (Try.prog.cellsOf 3)) = some y41 := g42
  rw [show Try.prog.cellsOf 3 = 1 from by kernel_rfl] at g42
  replace g42 : DataW.trod enc Try.prog W 0 (fun _ => true) true m40 3 [c2_2] = some y41 := g42
  obtain ⟨n45, e43, wf44⟩ := Frame.trod_int' Try.underlying3 g42
  obtain rfl : c2_2 = .int .i64 n45 := by injection e43
  obtain ⟨m46, y47, g48⟩ := hf27 3 _ rfl
  replace g48 : DataW.trod enc Try.prog W 0 (fun _ => true) true m46 3 (([_, _, _, c2_3, _].drop 3).take (Try.prog.cellsOf 3)) = some y47 := g48
  rw [show Try.prog.cellsOf 3 = 1 from by kernel_rfl] at g48
  replace g48 : DataW.trod enc Try.prog W 0 (fun _ => true) true m46 3 [c2_3] = some y47 := g48
  obtain ⟨n51, e49, wf50⟩ := Frame.trod_int' Try.underlying3 g48
  obtain rfl : c2_3 = .int .i64 n51 := by injection e49
  obtain ⟨m52, y53, g54⟩ := hf27 4 _ rfl
  replace g54 : DataW.trod enc Try.prog W 0 (fun _ => true) true m52 3 (([_, _, _, _, c2_4].drop 4).take (Try.prog.cellsOf 3)) = some y53 := g54
  rw [show Try.prog.cellsOf 3 = 1 from by kernel_rfl] at g54
  replace g54 : DataW.trod enc Try.prog W 0 (fun _ => true) true m52 3 [c2_4] = some y53 := g54
  obtain ⟨n57, e55, wf56⟩ := Frame.trod_int' Try.underlying3 g54
  obtain rfl : c2_4 = .int .i64 n57 := by injection e55
  obtain ⟨fu3, hf3⟩ := h3
  obtain ⟨u3, rfl⟩ := okWide_int Try.underlying3 (hval 3 3 v3 rfl rfl)
  replace hf3 : DataW.trod enc Try.prog W 0 (fun _ => true) true fu3 3 [.int .i64 u3] = some (d3, p3) := hf3
  have wf58 : (Lit.int .i64 u3).wf = true := by obtain ⟨n, e, h⟩ := Frame.trod_int' Try.underlying3 hf3; cases e; exact h
  refine (switchoverDuties_walk n8 n14 A20 n21 c22 xs23 qa1 qn1 qc1 xs24 n33 n39 n45 n51 n57 u3 W wf7 wf13 wf19 wf25 wf32 wf38 wf44 wf50 wf56 wf58).mono fun e W' ⟨he, hb⟩ => ?_
  subst he
  exact ⟨_, rfl, Frame.law_post (tb := 4) (by kernel_rfl) (by
    rw [Try.params4]
    intro t ht
    simp only [List.mem_cons, List.not_mem_nil, or_false] at ht
    rcases ht with rfl | rfl | rfl | rfl <;> exact ⟨by kernel_rfl, of_decide_eq_true (by kernel_rfl)⟩) rfl hW' rfl Try.underlying4 rfl hb⟩
theorem switchoverDuties_over : Rows.switchoverDutiesRow.holds Try.pinned (OpenSpec.ofChange Rows.switchoverDutiesSpec) :=
  OpenClaim.holds_of_wide 4 Try.f4 rfl rfl rfl rfl rfl rfl rfl ⟨rfl, rfl, rfl, rfl, rfl⟩ rfl rfl rfl rfl rfl (by kernel_rfl) Try.func4 (by kernel_rfl)
    (of_decide_eq_true (by kernel_rfl)) (by unfold Func.isWrapper; first | (rw [if_pos (by decide +kernel)]; kernel_rfl) | (rw [if_neg (by decide +kernel)]; exact ⟨rfl, rfl⟩))
    (fun os started H enc _ => switchoverDuties_lifted os started H enc)
/-- THE STATEMENT -/
theorem switchoverDuties_holds : Rows.SwitchoverDutiesSaid := switchoverDuties_over
#print axioms switchoverDuties_holds
end Go.Proofs.Ytdlgdmbcbenlbaa
