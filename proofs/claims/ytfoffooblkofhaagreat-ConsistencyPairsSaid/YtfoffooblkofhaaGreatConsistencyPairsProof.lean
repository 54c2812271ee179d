/- ConsistencyPairs: for every input the law returns true, and each argument reads afterwards as before. No condition beyond the given row's. -/
import Derived.Test.YtfoffooblkofhaaGreatLvP
import Derived.Test.YtfoffooblkofhaaGreatCo
import Derived.Test.YtfoffooblkofhaaGreatFrame
namespace Go.Proofs.YtfoffooblkofhaaGreat
open Go Go.ChangeShapes Go.WideShapes Go.ChangeAt Go.RowKit Tx
set_option linter.unusedVariables false in
set_option maxRecDepth 100000 in
theorem consistencyPairs_lifted (os : Os) (started : os.Started) (H : Type) (enc : TypeId × Value → H) :
    ReturnsInHanded {} Tryz.checked os 4 .any (Rows.consistencyPairsSpec.pre6 enc Tryz.prog Tryz.f4 Rows.consistencyPairsRow.domain false) (Rows.consistencyPairsSpec.post enc Tryz.prog Tryz.f4 false true false false) := by
  refine returnsInHanded_of_change (C := Tryz.checked) (show ownKnob Tryz.prog.godebug = none by kernel_rfl) started (by kernel_rfl) Tryz.func4
    (ChangeSpec.witness6 (enc := enc) (C := Tryz.checked) false ⟨#[], #[(.agg #[.int .i64 0, .int .i64 0, .int .i64 0, .slice none 0 0, .bool false, .int .i64 0, .int .i64 0, .bool false, .int .i64 0, .int .i64 0, .int .i64 0, .slice none 0 0, .slice none 0 0, .bool false, .int .i64 0, .bool false, .int .i64 0, .int .i64 0, .int .i64 0, .slice none 0 0, .slice none 0 0, .int .i64 0, .bool false, .int .i64 0, .int .i64 0, .int .i64 0, .slice none 0 0, .slice none 0 0]), (.agg #[.int .i64 0, .int .i64 0, .int .i64 0, .slice none 0 0, .bool false, .int .i64 0, .int .i64 0, .bool false, .int .i64 0, .int .i64 0, .int .i64 0, .slice none 0 0, .slice none 0 0, .bool false, .int .i64 0, .bool false, .int .i64 0, .int .i64 0, .int .i64 0, .slice none 0 0, .slice none 0 0, .int .i64 0, .bool false, .int .i64 0, .int .i64 0, .int .i64 0, .slice none 0 0, .slice none 0 0])], []⟩ 8 (by kernel_rfl) (by kernel_rfl) (by kernel_rfl) (by kernel_rfl)) ?_
  intro W base args ds gs before hval0 hW hcnd _
  have hval : ∀ (j : Nat) t v, Tryz.f4.params[j]? = some t → args[j]? = some v → Value.okWide Tryz.prog W .any base t v := hval0
  have hW' := hW
  obtain ⟨p, q, hA0, hV, rfl, hfz, hnd⟩ := hW
  have hA : DataW.TrodAll enc Tryz.prog W 0 (fun _ => true) true Tryz.f4.params.toList args.toList ds p := hA0
  rw [Tryz.params4] at hA hval
  obtain ⟨v0, vs0, d0, ds0, p0, q0, hargs, rfl, rfl, h0, r0⟩ := trodAll_cons hA
  obtain ⟨v1, vs1, d1, ds1, p1, q1, rfl, rfl, rfl, h1, r1⟩ := trodAll_cons r0
  obtain ⟨rfl, rfl, rfl⟩ := trodAll_nil r1
  obtain rfl : args = #[v0, v1] := by cases args; simp_all
  obtain ⟨rfl, rfl⟩ := trodVars_none hV
  clear hA0 hval0 hcnd hA hfz hnd hV
  obtain ⟨fu0, hf0⟩ := h0
  obtain ⟨cs0, rfl⟩ := Frame.okWide_agg (hval 0 27 v0 rfl rfl) (.inl ⟨_, Tryz.underlying27⟩)
  replace hf0 : DataW.trod enc Tryz.prog W 0 (fun _ => true) true fu0 27 cs0.toList = some (d0, p0) := hf0
  have len0 : cs0.toList.length = 28 := (Frame.trod_struct' Tryz.underlying27 hf0).1.trans (by kernel_rfl)
  obtain ⟨c0_0, c0_1, c0_2, c0_3, c0_4, c0_5, c0_6, c0_7, c0_8, c0_9, c0_10, c0_11, c0_12, c0_13, c0_14, c0_15, c0_16, c0_17, c0_18, c0_19, c0_20, c0_21, c0_22, c0_23, c0_24, c0_25, c0_26, c0_27, ecs0⟩ := Frame.list28 len0
  obtain rfl : cs0 = #[c0_0, c0_1, c0_2, c0_3, c0_4, c0_5, c0_6, c0_7, c0_8, c0_9, c0_10, c0_11, c0_12, c0_13, c0_14, c0_15, c0_16, c0_17, c0_18, c0_19, c0_20, c0_21, c0_22, c0_23, c0_24, c0_25, c0_26, c0_27] := by rw [← Array.toArray_toList (xs := cs0), ecs0]
  replace hf0 : DataW.trod enc Tryz.prog W 0 (fun _ => true) true fu0 27 [c0_0, c0_1, c0_2, c0_3, c0_4, c0_5, c0_6, c0_7, c0_8, c0_9, c0_10, c0_11, c0_12, c0_13, c0_14, c0_15, c0_16, c0_17, c0_18, c0_19, c0_20, c0_21, c0_22, c0_23, c0_24, c0_25, c0_26, c0_27] = some (d0, p0) := hf0
  obtain ⟨hl1, hf2⟩ := Frame.trod_struct' Tryz.underlying27 hf0
  obtain ⟨m3, y4, g5⟩ := hf2 0 _ rfl
  replace g5 : DataW.trod enc Tryz.prog W 0 (fun _ => true) true m3 3 (([c0_0, _, _, _, _, _, _, _, _, _, _, _, _, _, _, _, _, _, _, _, _, _, _, _, _, _, _, _].drop 0).take (Tryz.prog.cellsOf 3)) = some y4 := g5
  rw [show Tryz.prog.cellsOf 3 = 1 from by kernel_rfl] at g5
  replace g5 : DataW.trod enc Tryz.prog W 0 (fun _ => true) true m3 3 [c0_0] = some y4 := g5
  obtain ⟨n8, e6, wf7⟩ := Frame.trod_int' Tryz.underlying3 g5
  obtain rfl : c0_0 = .int .i64 n8 := by injection e6
  obtain ⟨m9, y10, g11⟩ := hf2 1 _ rfl
  replace g11 : DataW.trod enc Tryz.prog W 0 (fun _ => true) true m9 3 (([_, c0_1, _, _, _, _, _, _, _, _, _, _, _, _, _, _, _, _, _, _, _, _, _, _, _, _, _, _].drop 1).take (Tryz.prog.cellsOf 3)) = some y10 := g11
  rw [show Tryz.prog.cellsOf 3 = 1 from by kernel_rfl] at g11
  replace g11 : DataW.trod enc Tryz.prog W 0 (fun _ => true) true m9 3 [c0_1] = some y10 := g11
  obtain ⟨n14, e12, wf13⟩ := Frame.trod_int' Tryz.underlying3 g11
  obtain rfl : c0_1 = .int .i64 n14 := by injection e12
  obtain ⟨m15, y16, g17⟩ := hf2 2 _ rfl
  replace g17 : DataW.trod enc Tryz.prog W 0 (fun _ => true) true m15 3 (([_, _, c0_2, _, _, _, _, _, _, _, _, _, _, _, _, _, _, _, _, _, _, _, _, _, _, _, _, _].drop 2).take (Tryz.prog.cellsOf 3)) = some y16 := g17
  rw [show Tryz.prog.cellsOf 3 = 1 from by kernel_rfl] at g17
  replace g17 : DataW.trod enc Tryz.prog W 0 (fun _ => true) true m15 3 [c0_2] = some y16 := g17
  obtain ⟨n20, e18, wf19⟩ := Frame.trod_int' Tryz.underlying3 g17
  obtain rfl : c0_2 = .int .i64 n20 := by injection e18
  obtain ⟨m21, y22, g23⟩ := hf2 3 _ rfl
  replace g23 : DataW.trod enc Tryz.prog W 0 (fun _ => true) true m21 22 (([_, _, _, c0_3, _, _, _, _, _, _, _, _, _, _, _, _, _, _, _, _, _, _, _, _, _, _, _, _].drop 3).take (Tryz.prog.cellsOf 22)) = some y22 := g23
  rw [show Tryz.prog.cellsOf 22 = 1 from by kernel_rfl] at g23
  replace g23 : DataW.trod enc Tryz.prog W 0 (fun _ => true) true m21 22 [c0_3] = some y22 := g23
  obtain ⟨A26, n27, c28, e24, _⟩ := Frame.trod_slice' Tryz.underlying22 g23
  obtain rfl : c0_3 = .slice A26 n27 c28 := by injection e24
  obtain ⟨xs29, wf25⟩ := open_tcls g23
  obtain ⟨m30, y31, g32⟩ := hf2 4 _ rfl
  replace g32 : DataW.trod enc Tryz.prog W 0 (fun _ => true) true m30 4 (([_, _, _, _, c0_4, _, _, _, _, _, _, _, _, _, _, _, _, _, _, _, _, _, _, _, _, _, _, _].drop 4).take (Tryz.prog.cellsOf 4)) = some y31 := g32
  rw [show Tryz.prog.cellsOf 4 = 1 from by kernel_rfl] at g32
  replace g32 : DataW.trod enc Tryz.prog W 0 (fun _ => true) true m30 4 [c0_4] = some y31 := g32
  obtain ⟨b35, e33⟩ := Frame.trod_bool' Tryz.underlying4 g32
  obtain rfl : c0_4 = .bool b35 := by injection e33
  obtain ⟨m36, y37, g38⟩ := hf2 5 _ rfl
  replace g38 : DataW.trod enc Tryz.prog W 0 (fun _ => true) true m36 3 (([_, _, _, _, _, c0_5, _, _, _, _, _, _, _, _, _, _, _, _, _, _, _, _, _, _, _, _, _, _].drop 5).take (Tryz.prog.cellsOf 3)) = some y37 := g38
  rw [show Tryz.prog.cellsOf 3 = 1 from by kernel_rfl] at g38
  replace g38 : DataW.trod enc Tryz.prog W 0 (fun _ => true) true m36 3 [c0_5] = some y37 := g38
  obtain ⟨n41, e39, wf40⟩ := Frame.trod_int' Tryz.underlying3 g38
  obtain rfl : c0_5 = .int .i64 n41 := by injection e39
  obtain ⟨m42, y43, g44⟩ := hf2 6 _ rfl
  replace g44 : DataW.trod enc Tryz.prog W 0 (fun _ => true) true m42 25 (([_, _, _, _, _, _, c0_6, c0_7, c0_8, c0_9, c0_10, c0_11, c0_12, _, _, _, _, _, _, _, _, _, _, _, _, _, _, _].drop 6).take (Tryz.prog.cellsOf 25)) = some y43 := g44
  rw [show Tryz.prog.cellsOf 25 = 7 from by kernel_rfl] at g44
  replace g44 : DataW.trod enc Tryz.prog W 0 (fun _ => true) true m42 25 [c0_6, c0_7, c0_8, c0_9, c0_10, c0_11, c0_12] = some y43 := g44
  obtain ⟨hl45, hf46⟩ := Frame.trod_struct' Tryz.underlying25 g44
  obtain ⟨m47, y48, g49⟩ := hf46 0 _ rfl
  replace g49 : DataW.trod enc Tryz.prog W 0 (fun _ => true) true m47 3 (([c0_6, _, _, _, _, _, _].drop 0).take (Tryz.prog.cellsOf 3)) = some y48 := g49
  rw [show Tryz.prog.cellsOf 3 = 1 from by kernel_rfl] at g49
  replace g49 : DataW.trod enc Tryz.prog W 0 (fun _ => true) true m47 3 [c0_6] = some y48 := g49
  obtain ⟨n52, e50, wf51⟩ := Frame.trod_int' Tryz.underlying3 g49
  obtain rfl : c0_6 = .int .i64 n52 := by injection e50
  obtain ⟨m53, y54, g55⟩ := hf46 1 _ rfl
  replace g55 : DataW.trod enc Tryz.prog W 0 (fun _ => true) true m53 4 (([_, c0_7, _, _, _, _, _].drop 1).take (Tryz.prog.cellsOf 4)) = some y54 := g55
  rw [show Tryz.prog.cellsOf 4 = 1 from by kernel_rfl] at g55
  replace g55 : DataW.trod enc Tryz.prog W 0 (fun _ => true) true m53 4 [c0_7] = some y54 := g55
  obtain ⟨b58, e56⟩ := Frame.trod_bool' Tryz.underlying4 g55
  obtain rfl : c0_7 = .bool b58 := by injection e56
  obtain ⟨m59, y60, g61⟩ := hf46 2 _ rfl
  replace g61 : DataW.trod enc Tryz.prog W 0 (fun _ => true) true m59 3 (([_, _, c0_8, _, _, _, _].drop 2).take (Tryz.prog.cellsOf 3)) = some y60 := g61
  rw [show Tryz.prog.cellsOf 3 = 1 from by kernel_rfl] at g61
  replace g61 : DataW.trod enc Tryz.prog W 0 (fun _ => true) true m59 3 [c0_8] = some y60 := g61
  obtain ⟨n64, e62, wf63⟩ := Frame.trod_int' Tryz.underlying3 g61
  obtain rfl : c0_8 = .int .i64 n64 := by injection e62
  obtain ⟨m65, y66, g67⟩ := hf46 3 _ rfl
  replace g67 : DataW.trod enc Tryz.prog W 0 (fun _ => true) true m65 3 (([_, _, _, c0_9, _, _, _].drop 3).take (Tryz.prog.cellsOf 3)) = some y66 := g67
  rw [show Tryz.prog.cellsOf 3 = 1 from by kernel_rfl] at g67
  replace g67 : DataW.trod enc Tryz.prog W 0 (fun _ => true) true m65 3 [c0_9] = some y66 := g67
  obtain ⟨n70, e68, wf69⟩ := Frame.trod_int' Tryz.underlying3 g67
  obtain rfl : c0_9 = .int .i64 n70 := by injection e68
  obtain ⟨m71, y72, g73⟩ := hf46 4 _ rfl
  replace g73 : DataW.trod enc Tryz.prog W 0 (fun _ => true) true m71 3 (([_, _, _, _, c0_10, _, _].drop 4).take (Tryz.prog.cellsOf 3)) = some y72 := g73
  rw [show Tryz.prog.cellsOf 3 = 1 from by kernel_rfl] at g73
  replace g73 : DataW.trod enc Tryz.prog W 0 (fun _ => true) true m71 3 [c0_10] = some y72 := g73
  obtain ⟨n76, e74, wf75⟩ := Frame.trod_int' Tryz.underlying3 g73
  obtain rfl : c0_10 = .int .i64 n76 := by injection e74
  obtain ⟨m77, y78, g79⟩ := hf46 5 _ rfl
  replace g79 : DataW.trod enc Tryz.prog W 0 (fun _ => true) true m77 23 (([_, _, _, _, _, c0_11, _].drop 5).take (Tryz.prog.cellsOf 23)) = some y78 := g79
  rw [show Tryz.prog.cellsOf 23 = 1 from by kernel_rfl] at g79
  replace g79 : DataW.trod enc Tryz.prog W 0 (fun _ => true) true m77 23 [c0_11] = some y78 := g79
  obtain ⟨A82, n83, c84, e80, _⟩ := Frame.trod_slice' Tryz.underlying23 g79
  obtain rfl : c0_11 = .slice A82 n83 c84 := by injection e80
  obtain ⟨xs85, wf81⟩ := open_spts g79
  obtain ⟨m86, y87, g88⟩ := hf46 6 _ rfl
  replace g88 : DataW.trod enc Tryz.prog W 0 (fun _ => true) true m86 23 (([_, _, _, _, _, _, c0_12].drop 6).take (Tryz.prog.cellsOf 23)) = some y87 := g88
  rw [show Tryz.prog.cellsOf 23 = 1 from by kernel_rfl] at g88
  replace g88 : DataW.trod enc Tryz.prog W 0 (fun _ => true) true m86 23 [c0_12] = some y87 := g88
  obtain ⟨A91, n92, c93, e89, _⟩ := Frame.trod_slice' Tryz.underlying23 g88
  obtain rfl : c0_12 = .slice A91 n92 c93 := by injection e89
  obtain ⟨xs94, wf90⟩ := open_spts g88
  obtain ⟨m95, y96, g97⟩ := hf2 7 _ rfl
  replace g97 : DataW.trod enc Tryz.prog W 0 (fun _ => true) true m95 4 (([_, _, _, _, _, _, _, _, _, _, _, _, _, c0_13, _, _, _, _, _, _, _, _, _, _, _, _, _, _].drop 13).take (Tryz.prog.cellsOf 4)) = some y96 := g97
  rw [show Tryz.prog.cellsOf 4 = 1 from by kernel_rfl] at g97
  replace g97 : DataW.trod enc Tryz.prog W 0 (fun _ => true) true m95 4 [c0_13] = some y96 := g97
  obtain ⟨b100, e98⟩ := Frame.trod_bool' Tryz.underlying4 g97
  obtain rfl : c0_13 = .bool b100 := by injection e98
  obtain ⟨m101, y102, g103⟩ := hf2 8 _ rfl
  replace g103 : DataW.trod enc Tryz.prog W 0 (fun _ => true) true m101 25 (([_, _, _, _, _, _, _, _, _, _, _, _, _, _, c0_14, c0_15, c0_16, c0_17, c0_18, c0_19, c0_20, _, _, _, _, _, _, _].drop 14).take (Tryz.prog.cellsOf 25)) = some y102 := g103
  rw [show Tryz.prog.cellsOf 25 = 7 from by kernel_rfl] at g103
  replace g103 : DataW.trod enc Tryz.prog W 0 (fun _ => true) true m101 25 [c0_14, c0_15, c0_16, c0_17, c0_18, c0_19, c0_20] = some y102 := g103
  obtain ⟨hl104, hf105⟩ := Frame.trod_struct' Tryz.underlying25 g103
  obtain ⟨m106, y107, g108⟩ := hf105 0 _ rfl
  replace g108 : DataW.trod enc Tryz.prog W 0 (fun _ => true) true m106 3 (([c0_14, _, _, _, _, _, _].drop 0).take (Tryz.prog.cellsOf 3)) = some y107 := g108
  rw [show Tryz.prog.cellsOf 3 = 1 from by kernel_rfl] at g108
  replace g108 : DataW.trod enc Tryz.prog W 0 (fun _ => true) true m106 3 [c0_14] = some y107 := g108
  obtain ⟨n111, e109, wf110⟩ := Frame.trod_int' Tryz.underlying3 g108
  obtain rfl : c0_14 = .int .i64 n111 := by injection e109
  obtain ⟨m112, y113, g114⟩ := hf105 1 _ rfl
  replace g114 : DataW.trod enc Tryz.prog W 0 (fun _ => true) true m112 4 (([_, c0_15, _, _, _, _, _].drop 1).take (Tryz.prog.cellsOf 4)) = some y113 := g114
  rw [show Tryz.prog.cellsOf 4 = 1 from by kernel_rfl] at g114
  replace g114 : DataW.trod enc Tryz.prog W 0 (fun _ => true) true m112 4 [c0_15] = some y113 := g114
  obtain ⟨b117, e115⟩ := Frame.trod_bool' Tryz.underlying4 g114
  obtain rfl : c0_15 = .bool b117 := by injection e115
  obtain ⟨m118, y119, g120⟩ := hf105 2 _ rfl
  replace g120 : DataW.trod enc Tryz.prog W 0 (fun _ => true) true m118 3 (([_, _, c0_16, _, _, _, _].drop 2).take (Tryz.prog.cellsOf 3)) = some y119 := g120
  rw [show Tryz.prog.cellsOf 3 = 1 from by kernel_rfl] at g120
  replace g120 : DataW.trod enc Tryz.prog W 0 (fun _ => true) true m118 3 [c0_16] = some y119 := g120
  obtain ⟨n123, e121, wf122⟩ := Frame.trod_int' Tryz.underlying3 g120
  obtain rfl : c0_16 = .int .i64 n123 := by injection e121
  obtain ⟨m124, y125, g126⟩ := hf105 3 _ rfl
  replace g126 : DataW.trod enc Tryz.prog W 0 (fun _ => true) true m124 3 (([_, _, _, c0_17, _, _, _].drop 3).take (Tryz.prog.cellsOf 3)) = some y125 := g126
  rw [show Tryz.prog.cellsOf 3 = 1 from by kernel_rfl] at g126
  replace g126 : DataW.trod enc Tryz.prog W 0 (fun _ => true) true m124 3 [c0_17] = some y125 := g126
  obtain ⟨n129, e127, wf128⟩ := Frame.trod_int' Tryz.underlying3 g126
  obtain rfl : c0_17 = .int .i64 n129 := by injection e127
  obtain ⟨m130, y131, g132⟩ := hf105 4 _ rfl
  replace g132 : DataW.trod enc Tryz.prog W 0 (fun _ => true) true m130 3 (([_, _, _, _, c0_18, _, _].drop 4).take (Tryz.prog.cellsOf 3)) = some y131 := g132
  rw [show Tryz.prog.cellsOf 3 = 1 from by kernel_rfl] at g132
  replace g132 : DataW.trod enc Tryz.prog W 0 (fun _ => true) true m130 3 [c0_18] = some y131 := g132
  obtain ⟨n135, e133, wf134⟩ := Frame.trod_int' Tryz.underlying3 g132
  obtain rfl : c0_18 = .int .i64 n135 := by injection e133
  obtain ⟨m136, y137, g138⟩ := hf105 5 _ rfl
  replace g138 : DataW.trod enc Tryz.prog W 0 (fun _ => true) true m136 23 (([_, _, _, _, _, c0_19, _].drop 5).take (Tryz.prog.cellsOf 23)) = some y137 := g138
  rw [show Tryz.prog.cellsOf 23 = 1 from by kernel_rfl] at g138
  replace g138 : DataW.trod enc Tryz.prog W 0 (fun _ => true) true m136 23 [c0_19] = some y137 := g138
  obtain ⟨A141, n142, c143, e139, _⟩ := Frame.trod_slice' Tryz.underlying23 g138
  obtain rfl : c0_19 = .slice A141 n142 c143 := by injection e139
  obtain ⟨xs144, wf140⟩ := open_spts g138
  obtain ⟨m145, y146, g147⟩ := hf105 6 _ rfl
  replace g147 : DataW.trod enc Tryz.prog W 0 (fun _ => true) true m145 23 (([_, _, _, _, _, _, c0_20].drop 6).take (Tryz.prog.cellsOf 23)) = some y146 := g147
  rw [show Tryz.prog.cellsOf 23 = 1 from by kernel_rfl] at g147
  replace g147 : DataW.trod enc Tryz.prog W 0 (fun _ => true) true m145 23 [c0_20] = some y146 := g147
  obtain ⟨A150, n151, c152, e148, _⟩ := Frame.trod_slice' Tryz.underlying23 g147
  obtain rfl : c0_20 = .slice A150 n151 c152 := by injection e148
  obtain ⟨xs153, wf149⟩ := open_spts g147
  obtain ⟨m154, y155, g156⟩ := hf2 9 _ rfl
  replace g156 : DataW.trod enc Tryz.prog W 0 (fun _ => true) true m154 25 (([_, _, _, _, _, _, _, _, _, _, _, _, _, _, _, _, _, _, _, _, _, c0_21, c0_22, c0_23, c0_24, c0_25, c0_26, c0_27].drop 21).take (Tryz.prog.cellsOf 25)) = some y155 := g156
  rw [show Tryz.prog.cellsOf 25 = 7 from by kernel_rfl] at g156
  replace g156 : DataW.trod enc Tryz.prog W 0 (fun _ => true) true m154 25 [c0_21, c0_22, c0_23, c0_24, c0_25, c0_26, c0_27] = some y155 := g156
  obtain ⟨hl157, hf158⟩ := Frame.trod_struct' Tryz.underlying25 g156
  obtain ⟨m159, y160, g161⟩ := hf158 0 _ rfl
  replace g161 : DataW.trod enc Tryz.prog W 0 (fun _ => true) true m159 3 (([c0_21, _, _, _, _, _, _].drop 0).take (Tryz.prog.cellsOf 3)) = some y160 := g161
  rw [show Tryz.prog.cellsOf 3 = 1 from by kernel_rfl] at g161
  replace g161 : DataW.trod enc Tryz.prog W 0 (fun _ => true) true m159 3 [c0_21] = some y160 := g161
  obtain ⟨n164, e162, wf163⟩ := Frame.trod_int' Tryz.underlying3 g161
  obtain rfl : c0_21 = .int .i64 n164 := by injection e162
  obtain ⟨m165, y166, g167⟩ := hf158 1 _ rfl
  replace g167 : DataW.trod enc Tryz.prog W 0 (fun _ => true) true m165 4 (([_, c0_22, _, _, _, _, _].drop 1).take (Tryz.prog.cellsOf 4)) = some y166 := g167
  rw [show Tryz.prog.cellsOf 4 = 1 from by kernel_rfl] at g167
  replace g167 : DataW.trod enc Tryz.prog W 0 (fun _ => true) true m165 4 [c0_22] = some y166 := g167
  obtain ⟨b170, e168⟩ := Frame.trod_bool' Tryz.underlying4 g167
  obtain rfl : c0_22 = .bool b170 := by injection e168
  obtain ⟨m171, y172, g173⟩ := hf158 2 _ rfl
  replace g173 : DataW.trod enc Tryz.prog W 0 (fun _ => true) true m171 3 (([_, _, c0_23, _, _, _, _].drop 2).take (Tryz.prog.cellsOf 3)) = some y172 := g173
  rw [show Tryz.prog.cellsOf 3 = 1 from by kernel_rfl] at g173
  replace g173 : DataW.trod enc Tryz.prog W 0 (fun _ => true) true m171 3 [c0_23] = some y172 := g173
  obtain ⟨n176, e174, wf175⟩ := Frame.trod_int' Tryz.underlying3 g173
  obtain rfl : c0_23 = .int .i64 n176 := by injection e174
  obtain ⟨m177, y178, g179⟩ := hf158 3 _ rfl
  replace g179 : DataW.trod enc Tryz.prog W 0 (fun _ => true) true m177 3 (([_, _, _, c0_24, _, _, _].drop 3).take (Tryz.prog.cellsOf 3)) = some y178 := g179
  rw [show Tryz.prog.cellsOf 3 = 1 from by kernel_rfl] at g179
  replace g179 : DataW.trod enc Tryz.prog W 0 (fun _ => true) true m177 3 [c0_24] = some y178 := g179
  obtain ⟨n182, e180, wf181⟩ := Frame.trod_int' Tryz.underlying3 g179
  obtain rfl : c0_24 = .int .i64 n182 := by injection e180
  obtain ⟨m183, y184, g185⟩ := hf158 4 _ rfl
  replace g185 : DataW.trod enc Tryz.prog W 0 (fun _ => true) true m183 3 (([_, _, _, _, c0_25, _, _].drop 4).take (Tryz.prog.cellsOf 3)) = some y184 := g185
  rw [show Tryz.prog.cellsOf 3 = 1 from by kernel_rfl] at g185
  replace g185 : DataW.trod enc Tryz.prog W 0 (fun _ => true) true m183 3 [c0_25] = some y184 := g185
  obtain ⟨n188, e186, wf187⟩ := Frame.trod_int' Tryz.underlying3 g185
  obtain rfl : c0_25 = .int .i64 n188 := by injection e186
  obtain ⟨m189, y190, g191⟩ := hf158 5 _ rfl
  replace g191 : DataW.trod enc Tryz.prog W 0 (fun _ => true) true m189 23 (([_, _, _, _, _, c0_26, _].drop 5).take (Tryz.prog.cellsOf 23)) = some y190 := g191
  rw [show Tryz.prog.cellsOf 23 = 1 from by kernel_rfl] at g191
  replace g191 : DataW.trod enc Tryz.prog W 0 (fun _ => true) true m189 23 [c0_26] = some y190 := g191
  obtain ⟨A194, n195, c196, e192, _⟩ := Frame.trod_slice' Tryz.underlying23 g191
  obtain rfl : c0_26 = .slice A194 n195 c196 := by injection e192
  obtain ⟨xs197, wf193⟩ := open_spts g191
  obtain ⟨m198, y199, g200⟩ := hf158 6 _ rfl
  replace g200 : DataW.trod enc Tryz.prog W 0 (fun _ => true) true m198 23 (([_, _, _, _, _, _, c0_27].drop 6).take (Tryz.prog.cellsOf 23)) = some y199 := g200
  rw [show Tryz.prog.cellsOf 23 = 1 from by kernel_rfl] at g200
  replace g200 : DataW.trod enc Tryz.prog W 0 (fun _ => true) true m198 23 [c0_27] = some y199 := g200
  obtain ⟨A203, n204, c205, e201, _⟩ := Frame.trod_slice' Tryz.underlying23 g200
  obtain rfl : c0_27 = .slice A203 n204 c205 := by injection e201
  obtain ⟨xs206, wf202⟩ := open_spts g200
  obtain ⟨fu1, hf1⟩ := h1
  obtain ⟨cs1, rfl⟩ := Frame.okWide_agg (hval 1 27 v1 rfl rfl) (.inl ⟨_, Tryz.underlying27⟩)
  replace hf1 : DataW.trod enc Tryz.prog W 0 (fun _ => true) true fu1 27 cs1.toList = some (d1, p1) := hf1
  have len1 : cs1.toList.length = 28 := (Frame.trod_struct' Tryz.underlying27 hf1).1.trans (by kernel_rfl)
  obtain ⟨c1_0, c1_1, c1_2, c1_3, c1_4, c1_5, c1_6, c1_7, c1_8, c1_9, c1_10, c1_11, c1_12, c1_13, c1_14, c1_15, c1_16, c1_17, c1_18, c1_19, c1_20, c1_21, c1_22, c1_23, c1_24, c1_25, c1_26, c1_27, ecs1⟩ := Frame.list28 len1
  obtain rfl : cs1 = #[c1_0, c1_1, c1_2, c1_3, c1_4, c1_5, c1_6, c1_7, c1_8, c1_9, c1_10, c1_11, c1_12, c1_13, c1_14, c1_15, c1_16, c1_17, c1_18, c1_19, c1_20, c1_21, c1_22, c1_23, c1_24, c1_25, c1_26, c1_27] := by rw [← Array.toArray_toList (xs := cs1), ecs1]
  replace hf1 : DataW.trod enc Tryz.prog W 0 (fun _ => true) true fu1 27 [c1_0, c1_1, c1_2, c1_3, c1_4, c1_5, c1_6, c1_7, c1_8, c1_9, c1_10, c1_11, c1_12, c1_13, c1_14, c1_15, c1_16, c1_17, c1_18, c1_19, c1_20, c1_21, c1_22, c1_23, c1_24, c1_25, c1_26, c1_27] = some (d1, p1) := hf1
  obtain ⟨hl207, hf208⟩ := Frame.trod_struct' Tryz.underlying27 hf1
  obtain ⟨m209, y210, g211⟩ := hf208 0 _ rfl
  replace g211 : DataW.trod enc Tryz.prog W 0 (fun _ => true) true m209 3 (([c1_0, _, _, _, _, _, _, _, _, _, _, _, _, _, _, _, _, _, _, _, _, _, _, _, _, _, _, _].drop 0).take (Tryz.prog.cellsOf 3)) = some y210 := g211
  rw [show Tryz.prog.cellsOf 3 = 1 from by kernel_rfl] at g211
  replace g211 : DataW.trod enc Tryz.prog W 0 (fun _ => true) true m209 3 [c1_0] = some y210 := g211
  obtain ⟨n214, e212, wf213⟩ := Frame.trod_int' Tryz.underlying3 g211
  obtain rfl : c1_0 = .int .i64 n214 := by injection e212
  obtain ⟨m215, y216, g217⟩ := hf208 1 _ rfl
  replace g217 : DataW.trod enc Tryz.prog W 0 (fun _ => true) true m215 3 (([_, c1_1, _, _, _, _, _, _, _, _, _, _, _, _, _, _, _, _, _, _, _, _, _, _, _, _, _, _].drop 1).take (Tryz.prog.cellsOf 3)) = some y216 := g217
  rw [show Tryz.prog.cellsOf 3 = 1 from by kernel_rfl] at g217
  replace g217 : DataW.trod enc Tryz.prog W 0 (fun _ => true) true m215 3 [c1_1] = some y216 := g217
  obtain ⟨n220, e218, wf219⟩ := Frame.trod_int' Tryz.underlying3 g217
  obtain rfl : c1_1 = .int .i64 n220 := by injection e218
  obtain ⟨m221, y222, g223⟩ := hf208 2 _ rfl
  replace g223 : DataW.trod enc Tryz.prog W 0 (fun _ => true) true m221 3 (([_, _, c1_2, _, _, _, _, _, _, _, _, _, _, _, _, _, _, _, _, _, _, _, _, _, _, _, _, _].drop 2).take (Tryz.prog.cellsOf 3)) = some y222 := g223
  rw [show Tryz.prog.cellsOf 3 = 1 from by kernel_rfl] at g223
  replace g223 : DataW.trod enc Tryz.prog W 0 (fun _ => true) true m221 3 [c1_2] = some y222 := g223
  obtain ⟨n226, e224, wf225⟩ := Frame.trod_int' Tryz.underlying3 g223
  obtain rfl : c1_2 = .int .i64 n226 := by injection e224
  obtain ⟨m227, y228, g229⟩ := hf208 3 _ rfl
  replace g229 : DataW.trod enc Tryz.prog W 0 (fun _ => true) true m227 22 (([_, _, _, c1_3, _, _, _, _, _, _, _, _, _, _, _, _, _, _, _, _, _, _, _, _, _, _, _, _].drop 3).take (Tryz.prog.cellsOf 22)) = some y228 := g229
  rw [show Tryz.prog.cellsOf 22 = 1 from by kernel_rfl] at g229
  replace g229 : DataW.trod enc Tryz.prog W 0 (fun _ => true) true m227 22 [c1_3] = some y228 := g229
  obtain ⟨A232, n233, c234, e230, _⟩ := Frame.trod_slice' Tryz.underlying22 g229
  obtain rfl : c1_3 = .slice A232 n233 c234 := by injection e230
  obtain ⟨xs235, wf231⟩ := open_tcls g229
  obtain ⟨m236, y237, g238⟩ := hf208 4 _ rfl
  replace g238 : DataW.trod enc Tryz.prog W 0 (fun _ => true) true m236 4 (([_, _, _, _, c1_4, _, _, _, _, _, _, _, _, _, _, _, _, _, _, _, _, _, _, _, _, _, _, _].drop 4).take (Tryz.prog.cellsOf 4)) = some y237 := g238
  rw [show Tryz.prog.cellsOf 4 = 1 from by kernel_rfl] at g238
  replace g238 : DataW.trod enc Tryz.prog W 0 (fun _ => true) true m236 4 [c1_4] = some y237 := g238
  obtain ⟨b241, e239⟩ := Frame.trod_bool' Tryz.underlying4 g238
  obtain rfl : c1_4 = .bool b241 := by injection e239
  obtain ⟨m242, y243, g244⟩ := hf208 5 _ rfl
  replace g244 : DataW.trod enc Tryz.prog W 0 (fun _ => true) true m242 3 (([_, _, _, _, _, c1_5, _, _, _, _, _, _, _, _, _, _, _, _, _, _, _, _, _, _, _, _, _, _].drop 5).take (Tryz.prog.cellsOf 3)) = some y243 := g244
  rw [show Tryz.prog.cellsOf 3 = 1 from by kernel_rfl] at g244
  replace g244 : DataW.trod enc Tryz.prog W 0 (fun _ => true) true m242 3 [c1_5] = some y243 := g244
  obtain ⟨n247, e245, wf246⟩ := Frame.trod_int' Tryz.underlying3 g244
  obtain rfl : c1_5 = .int .i64 n247 := by injection e245
  obtain ⟨m248, y249, g250⟩ := hf208 6 _ rfl
  replace g250 : DataW.trod enc Tryz.prog W 0 (fun _ => true) true m248 25 (([_, _, _, _, _, _, c1_6, c1_7, c1_8, c1_9, c1_10, c1_11, c1_12, _, _, _, _, _, _, _, _, _, _, _, _, _, _, _].drop 6).take (Tryz.prog.cellsOf 25)) = some y249 := g250
  rw [show Tryz.prog.cellsOf 25 = 7 from by kernel_rfl] at g250
  replace g250 : DataW.trod enc Tryz.prog W 0 (fun _ => true) true m248 25 [c1_6, c1_7, c1_8, c1_9, c1_10, c1_11, c1_12] = some y249 := g250
  obtain ⟨hl251, hf252⟩ := Frame.trod_struct' Tryz.underlying25 g250
  obtain ⟨m253, y254, g255⟩ := hf252 0 _ rfl
  replace g255 : DataW.trod enc Tryz.prog W 0 (fun _ => true) true m253 3 (([c1_6, _, _, _, _, _, _].drop 0).take (Tryz.prog.cellsOf 3)) = some y254 := g255
  rw [show Tryz.prog.cellsOf 3 = 1 from by kernel_rfl] at g255
  replace g255 : DataW.trod enc Tryz.prog W 0 (fun _ => true) true m253 3 [c1_6] = some y254 := g255
  obtain ⟨n258, e256, wf257⟩ := Frame.trod_int' Tryz.underlying3 g255
  obtain rfl : c1_6 = .int .i64 n258 := by injection e256
  obtain ⟨m259, y260, g261⟩ := hf252 1 _ rfl
  replace g261 : DataW.trod enc Tryz.prog W 0 (fun _ => true) true m259 4 (([_, c1_7, _, _, _, _, _].drop 1).take (Tryz.prog.cellsOf 4)) = some y260 := g261
  rw [show Tryz.prog.cellsOf 4 = 1 from by kernel_rfl] at g261
  replace g261 : DataW.trod enc Tryz.prog W 0 (fun _ => true) true m259 4 [c1_7] = some y260 := g261
  obtain ⟨b264, e262⟩ := Frame.trod_bool' Tryz.underlying4 g261
  obtain rfl : c1_7 = .bool b264 := by injection e262
  obtain ⟨m265, y266, g267⟩ := hf252 2 _ rfl
  replace g267 : DataW.trod enc Tryz.prog W 0 (fun _ => true) true m265 3 (([_, _, c1_8, _, _, _, _].drop 2).take (Tryz.prog.cellsOf 3)) = some y266 := g267
  rw [show Tryz.prog.cellsOf 3 = 1 from by kernel_rfl] at g267
  replace g267 : DataW.trod enc Tryz.prog W 0 (fun _ => true) true m265 3 [c1_8] = some y266 := g267
  obtain ⟨n270, e268, wf269⟩ := Frame.trod_int' Tryz.underlying3 g267
  obtain rfl : c1_8 = .int .i64 n270 := by injection e268
  obtain ⟨m271, y272, g273⟩ := hf252 3 _ rfl
  replace g273 : DataW.trod enc Tryz.prog W 0 (fun _ => true) true m271 3 (([_, _, _, c1_9, _, _, _].drop 3).take (Tryz.prog.cellsOf 3)) = some y272 := g273
  rw [show Tryz.prog.cellsOf 3 = 1 from by kernel_rfl] at g273
  replace g273 : DataW.trod enc Tryz.prog W 0 (fun _ => true) true m271 3 [c1_9] = some y272 := g273
  obtain ⟨n276, e274, wf275⟩ := Frame.trod_int' Tryz.underlying3 g273
  obtain rfl : c1_9 = .int .i64 n276 := by injection e274
  obtain ⟨m277, y278, g279⟩ := hf252 4 _ rfl
  replace g279 : DataW.trod enc Tryz.prog W 0 (fun _ => true) true m277 3 (([_, _, _, _, c1_10, _, _].drop 4).take (Tryz.prog.cellsOf 3)) = some y278 := g279
  rw [show Tryz.prog.cellsOf 3 = 1 from by kernel_rfl] at g279
  replace g279 : DataW.trod enc Tryz.prog W 0 (fun _ => true) true m277 3 [c1_10] = some y278 := g279
  obtain ⟨n282, e280, wf281⟩ := Frame.trod_int' Tryz.underlying3 g279
  obtain rfl : c1_10 = .int .i64 n282 := by injection e280
  obtain ⟨m283, y284, g285⟩ := hf252 5 _ rfl
  replace g285 : DataW.trod enc Tryz.prog W 0 (fun _ => true) true m283 23 (([_, _, _, _, _, c1_11, _].drop 5).take (Tryz.prog.cellsOf 23)) = some y284 := g285
  rw [show Tryz.prog.cellsOf 23 = 1 from by kernel_rfl] at g285
  replace g285 : DataW.trod enc Tryz.prog W 0 (fun _ => true) true m283 23 [c1_11] = some y284 := g285
  obtain ⟨A288, n289, c290, e286, _⟩ := Frame.trod_slice' Tryz.underlying23 g285
  obtain rfl : c1_11 = .slice A288 n289 c290 := by injection e286
  obtain ⟨xs291, wf287⟩ := open_spts g285
  obtain ⟨m292, y293, g294⟩ := hf252 6 _ rfl
  replace g294 : DataW.trod enc Tryz.prog W 0 (fun _ => true) true m292 23 (([_, _, _, _, _, _, c1_12].drop 6).take (Tryz.prog.cellsOf 23)) = some y293 := g294
  rw [show Tryz.prog.cellsOf 23 = 1 from by kernel_rfl] at g294
  replace g294 : DataW.trod enc Tryz.prog W 0 (fun _ => true) true m292 23 [c1_12] = some y293 := g294
  obtain ⟨A297, n298, c299, e295, _⟩ := Frame.trod_slice' Tryz.underlying23 g294
  obtain rfl : c1_12 = .slice A297 n298 c299 := by injection e295
  obtain ⟨xs300, wf296⟩ := open_spts g294
  obtain ⟨m301, y302, g303⟩ := hf208 7 _ rfl
  replace g303 : DataW.trod enc Tryz.prog W 0 (fun _ => true) true m301 4 (([_, _, _, _, _, _, _, _, _, _, _, _, _, c1_13, _, _, _, _, _, _, _, _, _, _, _, _, _, _].drop 13).take (Tryz.prog.cellsOf 4)) = some y302 := g303
  rw [show Tryz.prog.cellsOf 4 = 1 from by kernel_rfl] at g303
  replace g303 : DataW.trod enc Tryz.prog W 0 (fun _ => true) true m301 4 [c1_13] = some y302 := g303
  obtain ⟨b306, e304⟩ := Frame.trod_bool' Tryz.underlying4 g303
  obtain rfl : c1_13 = .bool b306 := by injection e304
  obtain ⟨m307, y308, g309⟩ := hf208 8 _ rfl
  replace g309 : DataW.trod enc Tryz.prog W 0 (fun _ => true) true m307 25 (([_, _, _, _, _, _, _, _, _, _, _, _, _, _, c1_14, c1_15, c1_16, c1_17, c1_18, c1_19, c1_20, _, _, _, _, _, _, _].drop 14).take (Tryz.prog.cellsOf 25)) = some y308 := g309
  rw [show Tryz.prog.cellsOf 25 = 7 from by kernel_rfl] at g309
  replace g309 : DataW.trod enc Tryz.prog W 0 (fun _ => true) true m307 25 [c1_14, c1_15, c1_16, c1_17, c1_18, c1_19, c1_20] = some y308 := g309
  obtain ⟨hl310, hf311⟩ := Frame.trod_struct' Tryz.underlying25 g309
  obtain ⟨m312, y313, g314⟩ := hf311 0 _ rfl
  replace g314 : DataW.trod enc Tryz.prog W 0 (fun _ => true) true m312 3 (([c1_14, _, _, _, _, _, _].drop 0).take (Tryz.prog.cellsOf 3)) = some y313 := g314
  rw [show Tryz.prog.cellsOf 3 = 1 from by kernel_rfl] at g314
  replace g314 : DataW.trod enc Tryz.prog W 0 (fun _ => true) true m312 3 [c1_14] = some y313 := g314
  obtain ⟨n317, e315, wf316⟩ := Frame.trod_int' Tryz.underlying3 g314
  obtain rfl : c1_14 = .int .i64 n317 := by injection e315
  obtain ⟨m318, y319, g320⟩ := hf311 1 _ rfl
  replace g320 : DataW.trod enc Tryz.prog W 0 (fun _ => true) true m318 4 (([_, c1_15, _, _, _, _, _].drop 1).take (Tryz.prog.cellsOf 4)) = some y319 := g320
  rw [show Tryz.prog.cellsOf 4 = 1 from by kernel_rfl] at g320
  replace g320 : DataW.trod enc Tryz.prog W 0 (fun _ => true) true m318 4 [c1_15] = some y319 := g320
  obtain ⟨b323, e321⟩ := Frame.trod_bool' Tryz.underlying4 g320
  obtain rfl : c1_15 = .bool b323 := by injection e321
  obtain ⟨m324, y325, g326⟩ := hf311 2 _ rfl
  replace g326 : DataW.trod enc Tryz.prog W 0 (fun _ => true) true m324 3 (([_, _, c1_16, _, _, _, _].drop 2).take (Tryz.prog.cellsOf 3)) = some y325 := g326
  rw [show Tryz.prog.cellsOf 3 = 1 from by kernel_rfl] at g326
  replace g326 : DataW.trod enc Tryz.prog W 0 (fun _ => true) true m324 3 [c1_16] = some y325 := g326
  obtain ⟨n329, e327, wf328⟩ := Frame.trod_int' Tryz.underlying3 g326
  obtain rfl : c1_16 = .int .i64 n329 := by injection e327
  obtain ⟨m330, y331, g332⟩ := hf311 3 _ rfl
  replace g332 : DataW.trod enc Tryz.prog W 0 (fun _ => true) true m330 3 (([_, _, _, c1_17, _, _, _].drop 3).take (Tryz.prog.cellsOf 3)) = some y331 := g332
  rw [show Tryz.prog.cellsOf 3 = 1 from by kernel_rfl] at g332
  replace g332 : DataW.trod enc Tryz.prog W 0 (fun _ => true) true m330 3 [c1_17] = some y331 := g332
  obtain ⟨n335, e333, wf334⟩ := Frame.trod_int' Tryz.underlying3 g332
  obtain rfl : c1_17 = .int .i64 n335 := by injection e333
  obtain ⟨m336, y337, g338⟩ := hf311 4 _ rfl
  replace g338 : DataW.trod enc Tryz.prog W 0 (fun _ => true) true m336 3 (([_, _, _, _, c1_18, _, _].drop 4).take (Tryz.prog.cellsOf 3)) = some y337 := g338
  rw [show Tryz.prog.cellsOf 3 = 1 from by kernel_rfl] at g338
  replace g338 : DataW.trod enc Tryz.prog W 0 (fun _ => true) true m336 3 [c1_18] = some y337 := g338
  obtain ⟨n341, e339, wf340⟩ := Frame.trod_int' Tryz.underlying3 g338
  obtain rfl : c1_18 = .int .i64 n341 := by injection e339
  obtain ⟨m342, y343, g344⟩ := hf311 5 _ rfl
  replace g344 : DataW.trod enc Tryz.prog W 0 (fun _ => true) true m342 23 (([_, _, _, _, _, c1_19, _].drop 5).take (Tryz.prog.cellsOf 23)) = some y343 := g344
  rw [show Tryz.prog.cellsOf 23 = 1 from by kernel_rfl] at g344
  replace g344 : DataW.trod enc Tryz.prog W 0 (fun _ => true) true m342 23 [c1_19] = some y343 := g344
  obtain ⟨A347, n348, c349, e345, _⟩ := Frame.trod_slice' Tryz.underlying23 g344
  obtain rfl : c1_19 = .slice A347 n348 c349 := by injection e345
  obtain ⟨xs350, wf346⟩ := open_spts g344
  obtain ⟨m351, y352, g353⟩ := hf311 6 _ rfl
  replace g353 : DataW.trod enc Tryz.prog W 0 (fun _ => true) true m351 23 (([_, _, _, _, _, _, c1_20].drop 6).take (Tryz.prog.cellsOf 23)) = some y352 := g353
  rw [show Tryz.prog.cellsOf 23 = 1 from by kernel_rfl] at g353
  replace g353 : DataW.trod enc Tryz.prog W 0 (fun _ => true) true m351 23 [c1_20] = some y352 := g353
  obtain ⟨A356, n357, c358, e354, _⟩ := Frame.trod_slice' Tryz.underlying23 g353
  obtain rfl : c1_20 = .slice A356 n357 c358 := by injection e354
  obtain ⟨xs359, wf355⟩ := open_spts g353
  obtain ⟨m360, y361, g362⟩ := hf208 9 _ rfl
  replace g362 : DataW.trod enc Tryz.prog W 0 (fun _ => true) true m360 25 (([_, _, _, _, _, _, _, _, _, _, _, _, _, _, _, _, _, _, _, _, _, c1_21, c1_22, c1_23, c1_24, c1_25, c1_26, c1_27].drop 21).take (Tryz.prog.cellsOf 25)) = some y361 := g362
  rw [show Tryz.prog.cellsOf 25 = 7 from by kernel_rfl] at g362
  replace g362 : DataW.trod enc Tryz.prog W 0 (fun _ => true) true m360 25 [c1_21, c1_22, c1_23, c1_24, c1_25, c1_26, c1_27] = some y361 := g362
  obtain ⟨hl363, hf364⟩ := Frame.trod_struct' Tryz.underlying25 g362
  obtain ⟨m365, y366, g367⟩ := hf364 0 _ rfl
  replace g367 : DataW.trod enc Tryz.prog W 0 (fun _ => true) true m365 3 (([c1_21, _, _, _, _, _, _].drop 0).take (Tryz.prog.cellsOf 3)) = some y366 := g367
  rw [show Tryz.prog.cellsOf 3 = 1 from by kernel_rfl] at g367
  replace g367 : DataW.trod enc Tryz.prog W 0 (fun _ => true) true m365 3 [c1_21] = some y366 := g367
  obtain ⟨n370, e368, wf369⟩ := Frame.trod_int' Tryz.underlying3 g367
  obtain rfl : c1_21 = .int .i64 n370 := by injection e368
  obtain ⟨m371, y372, g373⟩ := hf364 1 _ rfl
  replace g373 : DataW.trod enc Tryz.prog W 0 (fun _ => true) true m371 4 (([_, c1_22, _, _, _, _, _].drop 1).take (Tryz.prog.cellsOf 4)) = some y372 := g373
  rw [show Tryz.prog.cellsOf 4 = 1 from by kernel_rfl] at g373
  replace g373 : DataW.trod enc Tryz.prog W 0 (fun _ => true) true m371 4 [c1_22] = some y372 := g373
  obtain ⟨b376, e374⟩ := Frame.trod_bool' Tryz.underlying4 g373
  obtain rfl : c1_22 = .bool b376 := by injection e374
  obtain ⟨m377, y378, g379⟩ := hf364 2 _ rfl
  replace g379 : DataW.trod enc Tryz.prog W 0 (fun _ => true) true m377 3 (([_, _, c1_23, _, _, _, _].drop 2).take (Tryz.prog.cellsOf 3)) = some y378 := g379
  rw [show Tryz.prog.cellsOf 3 = 1 from by kernel_rfl] at g379
  replace g379 : DataW.trod enc Tryz.prog W 0 (fun _ => true) true m377 3 [c1_23] = some y378 := g379
  obtain ⟨n382, e380, wf381⟩ := Frame.trod_int' Tryz.underlying3 g379
  obtain rfl : c1_23 = .int .i64 n382 := by injection e380
  obtain ⟨m383, y384, g385⟩ := hf364 3 _ rfl
  replace g385 : DataW.trod enc Tryz.prog W 0 (fun _ => true) true m383 3 (([_, _, _, c1_24, _, _, _].drop 3).take (Tryz.prog.cellsOf 3)) = some y384 := g385
  rw [show Tryz.prog.cellsOf 3 = 1 from by kernel_rfl] at g385
  replace g385 : DataW.trod enc Tryz.prog W 0 (fun _ => true) true m383 3 [c1_24] = some y384 := g385
  obtain ⟨n388, e386, wf387⟩ := Frame.trod_int' Tryz.underlying3 g385
  obtain rfl : c1_24 = .int .i64 n388 := by injection e386
  obtain ⟨m389, y390, g391⟩ := hf364 4 _ rfl
  replace g391 : DataW.trod enc Tryz.prog W 0 (fun _ => true) true m389 3 (([_, _, _, _, c1_25, _, _].drop 4).take (Tryz.prog.cellsOf 3)) = some y390 := g391
  rw [show Tryz.prog.cellsOf 3 = 1 from by kernel_rfl] at g391
  replace g391 : DataW.trod enc Tryz.prog W 0 (fun _ => true) true m389 3 [c1_25] = some y390 := g391
  obtain ⟨n394, e392, wf393⟩ := Frame.trod_int' Tryz.underlying3 g391
  obtain rfl : c1_25 = .int .i64 n394 := by injection e392
  obtain ⟨m395, y396, g397⟩ := hf364 5 _ rfl
  replace g397 : DataW.trod enc Tryz.prog W 0 (fun _ => true) true m395 23 (([_, _, _, _, _, c1_26, _].drop 5).take (Tryz.prog.cellsOf 23)) = some y396 := g397
  rw [show Tryz.prog.cellsOf 23 = 1 from by kernel_rfl] at g397
  replace g397 : DataW.trod enc Tryz.prog W 0 (fun _ => true) true m395 23 [c1_26] = some y396 := g397
  obtain ⟨A400, n401, c402, e398, _⟩ := Frame.trod_slice' Tryz.underlying23 g397
  obtain rfl : c1_26 = .slice A400 n401 c402 := by injection e398
  obtain ⟨xs403, wf399⟩ := open_spts g397
  obtain ⟨m404, y405, g406⟩ := hf364 6 _ rfl
  replace g406 : DataW.trod enc Tryz.prog W 0 (fun _ => true) true m404 23 (([_, _, _, _, _, _, c1_27].drop 6).take (Tryz.prog.cellsOf 23)) = some y405 := g406
  rw [show Tryz.prog.cellsOf 23 = 1 from by kernel_rfl] at g406
  replace g406 : DataW.trod enc Tryz.prog W 0 (fun _ => true) true m404 23 [c1_27] = some y405 := g406
  obtain ⟨A409, n410, c411, e407, _⟩ := Frame.trod_slice' Tryz.underlying23 g406
  obtain rfl : c1_27 = .slice A409 n410 c411 := by injection e407
  obtain ⟨xs412, wf408⟩ := open_spts g406
  refine (consistencyPairs_walk n8 n14 n20 A26 n27 c28 xs29 b35 n41 n52 b58 n64 n70 n76 A82 n83 c84 xs85 A91 n92 c93 xs94 b100 n111 b117 n123 n129 n135 A141 n142 c143 xs144 A150 n151 c152 xs153 n164 b170 n176 n182 n188 A194 n195 c196 xs197 A203 n204 c205 xs206 n214 n220 n226 A232 n233 c234 xs235 b241 n247 n258 b264 n270 n276 n282 A288 n289 c290 xs291 A297 n298 c299 xs300 b306 n317 b323 n329 n335 n341 A347 n348 c349 xs350 A356 n357 c358 xs359 n370 b376 n382 n388 n394 A400 n401 c402 xs403 A409 n410 c411 xs412 W wf7 wf13 wf19 wf25 wf40 wf51 wf63 wf69 wf75 wf81 wf90 wf110 wf122 wf128 wf134 wf140 wf149 wf163 wf175 wf181 wf187 wf193 wf202 wf213 wf219 wf225 wf231 wf246 wf257 wf269 wf275 wf281 wf287 wf296 wf316 wf328 wf334 wf340 wf346 wf355 wf369 wf381 wf387 wf393 wf399 wf408).mono fun e W' ⟨he, hb⟩ => ?_
  subst he
  exact ⟨_, rfl, Frame.law_post (tb := 4) (by kernel_rfl) (by
    rw [Tryz.params4]
    intro t ht
    simp only [List.mem_cons, List.not_mem_nil, or_false] at ht
    rcases ht with rfl | rfl <;> exact ⟨by kernel_rfl, of_decide_eq_true (by kernel_rfl)⟩) rfl hW' rfl Tryz.underlying4 rfl hb⟩
theorem consistencyPairs_over : Rows.consistencyPairsRow.holds Tryz.pinned (OpenSpec.ofChange Rows.consistencyPairsSpec) :=
  OpenClaim.holds_of_wide 4 Tryz.f4 rfl rfl rfl rfl rfl rfl rfl ⟨rfl, rfl, rfl, rfl, rfl⟩ rfl rfl rfl rfl rfl (by kernel_rfl) Tryz.func4 (by kernel_rfl)
    (of_decide_eq_true (by kernel_rfl)) (by unfold Func.isWrapper; first | (rw [if_pos (by decide +kernel)]; kernel_rfl) | (rw [if_neg (by decide +kernel)]; exact ⟨rfl, rfl⟩))
    (fun os started H enc _ => consistencyPairs_lifted os started H enc)
/-- THE STATEMENT -/
theorem consistencyPairs_holds : Rows.ConsistencyPairsSaid := consistencyPairs_over
#print axioms consistencyPairs_holds
end Go.Proofs.YtfoffooblkofhaaGreat
