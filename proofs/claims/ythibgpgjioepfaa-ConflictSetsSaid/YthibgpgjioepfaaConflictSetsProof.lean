/- ConflictSets: for every input the law returns true, and each argument reads afterwards as before. No condition beyond the given row's. -/
import Derived.Test.YthibgpgjioepfaaSetB
import Derived.Test.YthibgpgjioepfaaOpenN
import Derived.Test.YthibgpgjioepfaaFrame
namespace Go.Proofs.Ythibgpgjioepfaa
open Go Go.ChangeShapes Go.WideShapes Go.ChangeAt Go.RowKit Nt
set_option linter.unusedVariables false in
set_option maxRecDepth 100000 in
theorem conflictSets_lifted (os : Os) (started : os.Started) (H : Type) (enc : TypeId × Value → H) :
    ReturnsInHanded {} Try.checked os 10 .any (Rows.conflictSetsSpec.pre6 enc Try.prog Try.f10 Rows.conflictSetsRow.domain false) (Rows.conflictSetsSpec.post enc Try.prog Try.f10 false true false false) := by
  refine returnsInHanded_of_change (C := Try.checked) (show ownKnob Try.prog.godebug = none by kernel_rfl) started (by kernel_rfl) Try.func10
    (ChangeSpec.witness6 (enc := enc) (C := Try.checked) false ⟨#[], #[(.agg #[.int .i64 0, .slice none 0 0, .int .i64 0, .int .i64 0, .slice none 0 0, .slice none 0 0]), .slice none 0 0], []⟩ 8 (by kernel_rfl) (by kernel_rfl) (by kernel_rfl) (by kernel_rfl)) ?_
  intro W base args ds gs before hval0 hW hcnd _
  have hval : ∀ (j : Nat) t v, Try.f10.params[j]? = some t → args[j]? = some v → Value.okWide Try.prog W .any base t v := hval0
  have hW' := hW
  obtain ⟨p, q, hA0, hV, rfl, hfz, hnd⟩ := hW
  have hA : DataW.TrodAll enc Try.prog W 0 (fun _ => true) true Try.f10.params.toList args.toList ds p := hA0
  rw [Try.params10] at hA hval
  obtain ⟨v0, vs0, d0, ds0, p0, q0, hargs, rfl, rfl, h0, r0⟩ := trodAll_cons hA
  obtain ⟨v1, vs1, d1, ds1, p1, q1, rfl, rfl, rfl, h1, r1⟩ := trodAll_cons r0
  obtain ⟨rfl, rfl, rfl⟩ := trodAll_nil r1
  obtain rfl : args = #[v0, v1] := by cases args; simp_all
  obtain ⟨rfl, rfl⟩ := trodVars_none hV
  clear hA0 hval0 hcnd hA hfz hnd hV
  obtain ⟨fu0, hf0⟩ := h0
  obtain ⟨cs0, rfl⟩ := Frame.okWide_agg (hval 0 26 v0 rfl rfl) (.inl ⟨_, Try.underlying26⟩)
  replace hf0 : DataW.trod enc Try.prog W 0 (fun _ => true) true fu0 26 cs0.toList = some (d0, p0) := hf0
  have len0 : cs0.toList.length = 6 := (Frame.trod_struct' Try.underlying26 hf0).1.trans (by kernel_rfl)
  obtain ⟨c0_0, c0_1, c0_2, c0_3, c0_4, c0_5, ecs0⟩ := Frame.list6 len0
  obtain rfl : cs0 = #[c0_0, c0_1, c0_2, c0_3, c0_4, c0_5] := by rw [← Array.toArray_toList (xs := cs0), ecs0]
  replace hf0 : DataW.trod enc Try.prog W 0 (fun _ => true) true fu0 26 [c0_0, c0_1, c0_2, c0_3, c0_4, c0_5] = some (d0, p0) := hf0
  obtain ⟨hl1, hf2⟩ := Frame.trod_struct' Try.underlying26 hf0
  obtain ⟨m3, y4, g5⟩ := hf2 0 _ rfl
  replace g5 : DataW.trod enc Try.prog W 0 (fun _ => true) true m3 3 (([c0_0, _, _, _, _, _].drop 0).take (Try.prog.cellsOf 3)) = some y4 := g5
  rw [show Try.prog.cellsOf 3 = 1 from by kernel_rfl] at g5
  replace g5 : DataW.trod enc Try.prog W 0 (fun _ => true) true m3 3 [c0_0] = some y4 := g5
  obtain ⟨n8, e6, wf7⟩ := Frame.trod_int' Try.underlying3 g5
  obtain rfl : c0_0 = .int .i64 n8 := by injection e6
  obtain ⟨m9, y10, g11⟩ := hf2 1 _ rfl
  replace g11 : DataW.trod enc Try.prog W 0 (fun _ => true) true m9 22 (([_, c0_1, _, _, _, _].drop 1).take (Try.prog.cellsOf 22)) = some y10 := g11
  rw [show Try.prog.cellsOf 22 = 1 from by kernel_rfl] at g11
  replace g11 : DataW.trod enc Try.prog W 0 (fun _ => true) true m9 22 [c0_1] = some y10 := g11
  obtain ⟨A14, n15, c16, e12, _⟩ := Frame.trod_slice' Try.underlying22 g11
  obtain rfl : c0_1 = .slice A14 n15 c16 := by injection e12
  obtain ⟨xs17, wf13⟩ := Op.open_rows g11
  obtain ⟨m18, y19, g20⟩ := hf2 2 _ rfl
  replace g20 : DataW.trod enc Try.prog W 0 (fun _ => true) true m18 3 (([_, _, c0_2, _, _, _].drop 2).take (Try.prog.cellsOf 3)) = some y19 := g20
  rw [show Try.prog.cellsOf 3 = 1 from by kernel_rfl] at g20
  replace g20 : DataW.trod enc Try.prog W 0 (fun _ => true) true m18 3 [c0_2] = some y19 := g20
  obtain ⟨n23, e21, wf22⟩ := Frame.trod_int' Try.underlying3 g20
  obtain rfl : c0_2 = .int .i64 n23 := by injection e21
  obtain ⟨m24, y25, g26⟩ := hf2 3 _ rfl
  replace g26 : DataW.trod enc Try.prog W 0 (fun _ => true) true m24 3 (([_, _, _, c0_3, _, _].drop 3).take (Try.prog.cellsOf 3)) = some y25 := g26
  rw [show Try.prog.cellsOf 3 = 1 from by kernel_rfl] at g26
  replace g26 : DataW.trod enc Try.prog W 0 (fun _ => true) true m24 3 [c0_3] = some y25 := g26
  obtain ⟨n29, e27, wf28⟩ := Frame.trod_int' Try.underlying3 g26
  obtain rfl : c0_3 = .int .i64 n29 := by injection e27
  obtain ⟨m30, y31, g32⟩ := hf2 4 _ rfl
  replace g32 : DataW.trod enc Try.prog W 0 (fun _ => true) true m30 23 (([_, _, _, _, c0_4, _].drop 4).take (Try.prog.cellsOf 23)) = some y31 := g32
  rw [show Try.prog.cellsOf 23 = 1 from by kernel_rfl] at g32
  replace g32 : DataW.trod enc Try.prog W 0 (fun _ => true) true m30 23 [c0_4] = some y31 := g32
  obtain ⟨A35, n36, c37, e33, _⟩ := Frame.trod_slice' Try.underlying23 g32
  obtain rfl : c0_4 = .slice A35 n36 c37 := by injection e33
  obtain ⟨xs38, wf34⟩ := Op.open_links2 g32
  obtain ⟨m39, y40, g41⟩ := hf2 5 _ rfl
  replace g41 : DataW.trod enc Try.prog W 0 (fun _ => true) true m39 24 (([_, _, _, _, _, c0_5].drop 5).take (Try.prog.cellsOf 24)) = some y40 := g41
  rw [show Try.prog.cellsOf 24 = 1 from by kernel_rfl] at g41
  replace g41 : DataW.trod enc Try.prog W 0 (fun _ => true) true m39 24 [c0_5] = some y40 := g41
  obtain ⟨A44, n45, c46, e42, _⟩ := Frame.trod_slice' Try.underlying24 g41
  obtain rfl : c0_5 = .slice A44 n45 c46 := by injection e42
  obtain ⟨xs47, wf43⟩ := Op.open_ints g41
  obtain ⟨fu1, hf1⟩ := h1
  obtain ⟨qa1, qn1, qc1, rfl⟩ := okWide_slice Try.underlying23 (hval 1 23 v1 rfl rfl)
  replace hf1 : DataW.trod enc Try.prog W 0 (fun _ => true) true fu1 23 [.slice qa1 qn1 qc1] = some (d1, p1) := hf1
  obtain ⟨xs48, wf49⟩ := Op.open_links2 hf1
  refine (conflictSets_walk n8 A14 n15 c16 xs17 n23 n29 A35 n36 c37 xs38 A44 n45 c46 xs47 qa1 qn1 qc1 xs48 W wf7 wf13 wf22 wf28 wf34 wf43 wf49).mono fun e W' ⟨he, hb⟩ => ?_
  subst he
  exact ⟨_, rfl, Frame.law_post (tb := 4) (by kernel_rfl) (by
    rw [Try.params10]
    intro t ht
    simp only [List.mem_cons, List.not_mem_nil, or_false] at ht
    rcases ht with rfl | rfl <;> exact ⟨by kernel_rfl, of_decide_eq_true (by kernel_rfl)⟩) rfl hW' rfl Try.underlying4 rfl hb⟩
theorem conflictSets_over : Rows.conflictSetsRow.holds Try.pinned (OpenSpec.ofChange Rows.conflictSetsSpec) :=
  OpenClaim.holds_of_wide 10 Try.f10 rfl rfl rfl rfl rfl rfl rfl ⟨rfl, rfl, rfl, rfl, rfl⟩ rfl rfl rfl rfl rfl (by kernel_rfl) Try.func10 (by kernel_rfl)
    (of_decide_eq_true (by kernel_rfl)) (by unfold Func.isWrapper; first | (rw [if_pos (by decide +kernel)]; kernel_rfl) | (rw [if_neg (by decide +kernel)]; exact ⟨rfl, rfl⟩))
    (fun os started H enc _ => conflictSets_lifted os started H enc)
/-- THE STATEMENT -/
theorem conflictSets_holds : Rows.ConflictSetsSaid := conflictSets_over
#print axioms conflictSets_holds
end Go.Proofs.Ythibgpgjioepfaa
