/- TransactionAsks: for every input the law returns true, and each argument reads afterwards as before. No condition beyond the given row's. -/
import Derived.Test.YtkfipbelhlcddaaGreatLwA
import Derived.Test.YtkfipbelhlcddaaGreatMo
import Derived.Test.YtkfipbelhlcddaaGreatFrame
namespace Go.Proofs.YtkfipbelhlcddaaGreat
open Go Go.ChangeShapes Go.WideShapes Go.ChangeAt Go.RowKit Tx
set_option linter.unusedVariables false in
set_option maxRecDepth 100000 in
theorem transactionAsks_lifted (os : Os) (started : os.Started) (H : Type) (enc : TypeId × Value → H) :
    ReturnsInHanded {} Tryz.checked os 10 .any (Rows.transactionAsksSpec.pre6 enc Tryz.prog Tryz.f10 Rows.transactionAsksRow.domain false) (Rows.transactionAsksSpec.post enc Tryz.prog Tryz.f10 false true false false) := by
  refine returnsInHanded_of_change (C := Tryz.checked) (show ownKnob Tryz.prog.godebug = none by kernel_rfl) started (by kernel_rfl) Tryz.func10
    (ChangeSpec.witness6 (enc := enc) (C := Tryz.checked) false ⟨#[], #[(.agg #[.int .i64 0, .int .i64 0, .int .i64 0, .slice none 0 0, .bool false, .int .i64 0, .int .i64 0, .bool false, .int .i64 0, .int .i64 0, .int .i64 0, .slice none 0 0, .slice none 0 0, .bool false, .int .i64 0, .bool false, .int .i64 0, .int .i64 0, .int .i64 0, .slice none 0 0, .slice none 0 0, .int .i64 0, .bool false, .int .i64 0, .int .i64 0, .int .i64 0, .slice none 0 0, .slice none 0 0]), (.agg #[.int .i64 0, .int .i64 0, .slice none 0 0]), .slice none 0 0, .int .i64 0, .int .i64 0, .int .i64 0, .slice none 0 0], []⟩ 8 (by kernel_rfl) (by kernel_rfl) (by kernel_rfl) (by kernel_rfl)) ?_
  intro W base args ds gs before hval0 hW hcnd _
  have hval : ∀ (j : Nat) t v, Tryz.f10.params[j]? = some t → args[j]? = some v → Value.okWide Tryz.prog W .any base t v := hval0
  have hW' := hW
  obtain ⟨p, q, hA0, hV, rfl, hfz, hnd⟩ := hW
  have hA : DataW.TrodAll enc Tryz.prog W 0 (fun _ => true) true Tryz.f10.params.toList args.toList ds p := hA0
  rw [Tryz.params10] at hA hval
  obtain ⟨v0, vs0, d0, ds0, p0, q0, hargs, rfl, rfl, h0, r0⟩ := trodAll_cons hA
  obtain ⟨v1, vs1, d1, ds1, p1, q1, rfl, rfl, rfl, h1, r1⟩ := trodAll_cons r0
  obtain ⟨v2, vs2, d2, ds2, p2, q2, rfl, rfl, rfl, h2, r2⟩ := trodAll_cons r1
  obtain ⟨v3, vs3, d3, ds3, p3, q3, rfl, rfl, rfl, h3, r3⟩ := trodAll_cons r2
  obtain ⟨v4, vs4, d4, ds4, p4, q4, rfl, rfl, rfl, h4, r4⟩ := trodAll_cons r3
  obtain ⟨v5, vs5, d5, ds5, p5, q5, rfl, rfl, rfl, h5, r5⟩ := trodAll_cons r4
  obtain ⟨v6, vs6, d6, ds6, p6, q6, rfl, rfl, rfl, h6, r6⟩ := trodAll_cons r5
  obtain ⟨rfl, rfl, rfl⟩ := trodAll_nil r6
  obtain rfl : args = #[v0, v1, v2, v3, v4, v5, v6] := by cases args; simp_all
  obtain ⟨rfl, rfl⟩ := trodVars_none hV
  clear hA0 hval0 hcnd hA hfz hnd hV
  obtain ⟨fu0, hf0⟩ := h0
  obtain ⟨cs0, rfl⟩ := Frame.okWide_agg (hval 0 27 v0 rfl rfl) (.inl ⟨_, Tryz.underlying27⟩)
  replace hf0 : DataW.trod enc Tryz.prog W 0 (fun _ => true) true fu0 27 cs0.toList = some (d0, p0) := hf0
  have len0 : cs0.toList.length = 28 := (Frame.trod_struct' Tryz.underlying27 hf0).1.trans (by kernel_rfl)
  obtain ⟨c0_0, c0_1, c0_2, c0_3, c0_4, c0_5, c0_6, c0_7, c0_8, c0_9, c0_10, c0_11, c0_12, c0_13, c0_14, c0_15, c0_16, c0_17, c0_18, c0_19, c0_20, c0_21, c0_22, c0_23, c0_24, c0_25, c0_26, c0_27, ecs0⟩ := Frame.list28 len0
  obtain rfl : cs0 = #[c0_0, c0_1, c0_2, c0_3, c0_4, c0_5, c0_6, c0_7, c0_8, c0_9, c0_10, c0_11, c0_12, c0_13, c0_14, c0_15, c0_16, c0_17, c0_18, c0_19, c0_20, c0_21, c0_22, c0_23, c0_24, c0_25, c0_26, c0_27] := by rw [← Array.toArray_toList (xs := cs0), ecs0]
  replace hf0 : DataW.trod enc Tryz.prog W 0 (fun _ => true) true fu0 27 [c0_0, c0_1, c0_2, c0_3, c0_4, c0_5, c0_6, c0_7, c0_8, c0_9, c0_10, c0_11, c0_12, c0_13, c0_14, c0_15, c0_16, c0_17, c0_18, c0_19, c0_20, c0_21, c0_22, c0_23, c0_24, c0_25, c0_26, c0_27] = some (d0, p0) := hf0
  obtain ⟨hl1, hf2⟩ := Frame.trod_struct' Tryz.underlying27 hf0
  obtain ⟨m3, y4, g5⟩ := hf2 0 _ rfl
  replace g5 : DataW.trod enc Tryz.prog W 0 (fun _ => true) true m3 3 (([c0_0, _, _, _, _, _, _, _, _, _, _, _, _, _, _, _, _, _, _, _, _, _, _, _, _, _, _, _].drop 0).take (Tryz.prog.cellsOf 3)) = some y4 := g5
  rw [show Tryz.prog.cellsOf 3 = 1 from by kernel_rfl] at g5
  replace g5 : DataW.trod enc Tryz.prog W 0 (fun _ => true) true m3 3 [c0_0] = some y4 := g5
  obtain ⟨n8, e6, wf7⟩ := Frame.trod_int' Tryz.underlying3 g5
  obtain rfl : c0_0 = .int .i64 n8 := by injection e6
  obtain ⟨m9, y10, g11⟩ := hf2 1 _ rfl
  replace g11 : DataW.trod enc Tryz.prog W 0 (fun _ => true) true m9 3 (([_, c0_1, _, _, _, _, _, _, _, _, _, _, _, _, _, _, _, _, _, _, _, _, _, _, _, _, _, _].drop 1).take (Tryz.prog.cellsOf 3)) = some y10 := g11
  rw [show Tryz.prog.cellsOf 3 = 1 from by kernel_rfl] at g11
  replace g11 : DataW.trod enc Tryz.prog W 0 (fun _ => true) true m9 3 [c0_1] = some y10 := g11
  obtain ⟨n14, e12, wf13⟩ := Frame.trod_int' Tryz.underlying3 g11
  obtain rfl : c0_1 = .int .i64 n14 := by injection e12
  obtain ⟨m15, y16, g17⟩ := hf2 2 _ rfl
  replace g17 : DataW.trod enc Tryz.prog W 0 (fun _ => true) true m15 3 (([_, _, c0_2, _, _, _, _, _, _, _, _, _, _, _, _, _, _, _, _, _, _, _, _, _, _, _, _, _].drop 2).take (Tryz.prog.cellsOf 3)) = some y16 := g17
  rw [show Tryz.prog.cellsOf 3 = 1 from by kernel_rfl] at g17
  replace g17 : DataW.trod enc Tryz.prog W 0 (fun _ => true) true m15 3 [c0_2] = some y16 := g17
  obtain ⟨n20, e18, wf19⟩ := Frame.trod_int' Tryz.underlying3 g17
  obtain rfl : c0_2 = .int .i64 n20 := by injection e18
  obtain ⟨m21, y22, g23⟩ := hf2 3 _ rfl
  replace g23 : DataW.trod enc Tryz.prog W 0 (fun _ => true) true m21 22 (([_, _, _, c0_3, _, _, _, _, _, _, _, _, _, _, _, _, _, _, _, _, _, _, _, _, _, _, _, _].drop 3).take (Tryz.prog.cellsOf 22)) = some y22 := g23
  rw [show Tryz.prog.cellsOf 22 = 1 from by kernel_rfl] at g23
  replace g23 : DataW.trod enc Tryz.prog W 0 (fun _ => true) true m21 22 [c0_3] = some y22 := g23
  obtain ⟨A26, n27, c28, e24, _⟩ := Frame.trod_slice' Tryz.underlying22 g23
  obtain rfl : c0_3 = .slice A26 n27 c28 := by injection e24
  obtain ⟨xs29, wf25⟩ := open_tcls g23
  obtain ⟨m30, y31, g32⟩ := hf2 4 _ rfl
  replace g32 : DataW.trod enc Tryz.prog W 0 (fun _ => true) true m30 4 (([_, _, _, _, c0_4, _, _, _, _, _, _, _, _, _, _, _, _, _, _, _, _, _, _, _, _, _, _, _].drop 4).take (Tryz.prog.cellsOf 4)) = some y31 := g32
  rw [show Tryz.prog.cellsOf 4 = 1 from by kernel_rfl] at g32
  replace g32 : DataW.trod enc Tryz.prog W 0 (fun _ => true) true m30 4 [c0_4] = some y31 := g32
  obtain ⟨b35, e33⟩ := Frame.trod_bool' Tryz.underlying4 g32
  obtain rfl : c0_4 = .bool b35 := by injection e33
  obtain ⟨m36, y37, g38⟩ := hf2 5 _ rfl
  replace g38 : DataW.trod enc Tryz.prog W 0 (fun _ => true) true m36 3 (([_, _, _, _, _, c0_5, _, _, _, _, _, _, _, _, _, _, _, _, _, _, _, _, _, _, _, _, _, _].drop 5).take (Tryz.prog.cellsOf 3)) = some y37 := g38
  rw [show Tryz.prog.cellsOf 3 = 1 from by kernel_rfl] at g38
  replace g38 : DataW.trod enc Tryz.prog W 0 (fun _ => true) true m36 3 [c0_5] = some y37 := g38
  obtain ⟨n41, e39, wf40⟩ := Frame.trod_int' Tryz.underlying3 g38
  obtain rfl : c0_5 = .int .i64 n41 := by injection e39
  obtain ⟨m42, y43, g44⟩ := hf2 6 _ rfl
  replace g44 : DataW.trod enc Tryz.prog W 0 (fun _ => true) true m42 25 (([_, _, _, _, _, _, c0_6, c0_7, c0_8, c0_9, c0_10, c0_11, c0_12, _, _, _, _, _, _, _, _, _, _, _, _, _, _, _].drop 6).take (Tryz.prog.cellsOf 25)) = some y43 := g44
  rw [show Tryz.prog.cellsOf 25 = 7 from by kernel_rfl] at g44
  replace g44 : DataW.trod enc Tryz.prog W 0 (fun _ => true) true m42 25 [c0_6, c0_7, c0_8, c0_9, c0_10, c0_11, c0_12] = some y43 := g44
  obtain ⟨hl45, hf46⟩ := Frame.trod_struct' Tryz.underlying25 g44
  obtain ⟨m47, y48, g49⟩ := hf46 0 _ rfl
  replace g49 : DataW.trod enc Tryz.prog W 0 (fun _ => true) true m47 3 (([c0_6, _, _, _, _, _, _].drop 0).take (Tryz.prog.cellsOf 3)) = some y48 := g49
  rw [show Tryz.prog.cellsOf 3 = 1 from by kernel_rfl] at g49
  replace g49 : DataW.trod enc Tryz.prog W 0 (fun _ => true) true m47 3 [c0_6] = some y48 := g49
  obtain ⟨n52, e50, wf51⟩ := Frame.trod_int' Tryz.underlying3 g49
  obtain rfl : c0_6 = .int .i64 n52 := by injection e50
  obtain ⟨m53, y54, g55⟩ := hf46 1 _ rfl
  replace g55 : DataW.trod enc Tryz.prog W 0 (fun _ => true) true m53 4 (([_, c0_7, _, _, _, _, _].drop 1).take (Tryz.prog.cellsOf 4)) = some y54 := g55
  rw [show Tryz.prog.cellsOf 4 = 1 from by kernel_rfl] at g55
  replace g55 : DataW.trod enc Tryz.prog W 0 (fun _ => true) true m53 4 [c0_7] = some y54 := g55
  obtain ⟨b58, e56⟩ := Frame.trod_bool' Tryz.underlying4 g55
  obtain rfl : c0_7 = .bool b58 := by injection e56
  obtain ⟨m59, y60, g61⟩ := hf46 2 _ rfl
  replace g61 : DataW.trod enc Tryz.prog W 0 (fun _ => true) true m59 3 (([_, _, c0_8, _, _, _, _].drop 2).take (Tryz.prog.cellsOf 3)) = some y60 := g61
  rw [show Tryz.prog.cellsOf 3 = 1 from by kernel_rfl] at g61
  replace g61 : DataW.trod enc Tryz.prog W 0 (fun _ => true) true m59 3 [c0_8] = some y60 := g61
  obtain ⟨n64, e62, wf63⟩ := Frame.trod_int' Tryz.underlying3 g61
  obtain rfl : c0_8 = .int .i64 n64 := by injection e62
  obtain ⟨m65, y66, g67⟩ := hf46 3 _ rfl
  replace g67 : DataW.trod enc Tryz.prog W 0 (fun _ => true) true m65 3 (([_, _, _, c0_9, _, _, _].drop 3).take (Tryz.prog.cellsOf 3)) = some y66 := g67
  rw [show Tryz.prog.cellsOf 3 = 1 from by kernel_rfl] at g67
  replace g67 : DataW.trod enc Tryz.prog W 0 (fun _ => true) true m65 3 [c0_9] = some y66 := g67
  obtain ⟨n70, e68, wf69⟩ := Frame.trod_int' Tryz.underlying3 g67
  obtain rfl : c0_9 = .int .i64 n70 := by injection e68
  obtain ⟨m71, y72, g73⟩ := hf46 4 _ rfl
  replace g73 : DataW.trod enc Tryz.prog W 0 (fun _ => true) true m71 3 (([_, _, _, _, c0_10, _, _].drop 4).take (Tryz.prog.cellsOf 3)) = some y72 := g73
  rw [show Tryz.prog.cellsOf 3 = 1 from by kernel_rfl] at g73
  replace g73 : DataW.trod enc Tryz.prog W 0 (fun _ => true) true m71 3 [c0_10] = some y72 := g73
  obtain ⟨n76, e74, wf75⟩ := Frame.trod_int' Tryz.underlying3 g73
  obtain rfl : c0_10 = .int .i64 n76 := by injection e74
  obtain ⟨m77, y78, g79⟩ := hf46 5 _ rfl
  replace g79 : DataW.trod enc Tryz.prog W 0 (fun _ => true) true m77 23 (([_, _, _, _, _, c0_11, _].drop 5).take (Tryz.prog.cellsOf 23)) = some y78 := g79
  rw [show Tryz.prog.cellsOf 23 = 1 from by kernel_rfl] at g79
  replace g79 : DataW.trod enc Tryz.prog W 0 (fun _ => true) true m77 23 [c0_11] = some y78 := g79
  obtain ⟨A82, n83, c84, e80, _⟩ := Frame.trod_slice' Tryz.underlying23 g79
  obtain rfl : c0_11 = .slice A82 n83 c84 := by injection e80
  obtain ⟨xs85, wf81⟩ := open_spts g79
  obtain ⟨m86, y87, g88⟩ := hf46 6 _ rfl
  replace g88 : DataW.trod enc Tryz.prog W 0 (fun _ => true) true m86 23 (([_, _, _, _, _, _, c0_12].drop 6).take (Tryz.prog.cellsOf 23)) = some y87 := g88
  rw [show Tryz.prog.cellsOf 23 = 1 from by kernel_rfl] at g88
  replace g88 : DataW.trod enc Tryz.prog W 0 (fun _ => true) true m86 23 [c0_12] = some y87 := g88
  obtain ⟨A91, n92, c93, e89, _⟩ := Frame.trod_slice' Tryz.underlying23 g88
  obtain rfl : c0_12 = .slice A91 n92 c93 := by injection e89
  obtain ⟨xs94, wf90⟩ := open_spts g88
  obtain ⟨m95, y96, g97⟩ := hf2 7 _ rfl
  replace g97 : DataW.trod enc Tryz.prog W 0 (fun _ => true) true m95 4 (([_, _, _, _, _, _, _, _, _, _, _, _, _, c0_13, _, _, _, _, _, _, _, _, _, _, _, _, _, _].drop 13).take (Tryz.prog.cellsOf 4)) = some y96 := g97
  rw [show Tryz.prog.cellsOf 4 = 1 from by kernel_rfl] at g97
  replace g97 : DataW.trod enc Tryz.prog W 0 (fun _ => true) true m95 4 [c0_13] = some y96 := g97
  obtain ⟨b100, e98⟩ := Frame.trod_bool' Tryz.underlying4 g97
  obtain rfl : c0_13 = .bool b100 := by injection e98
  obtain ⟨m101, y102, g103⟩ := hf2 8 _ rfl
  replace g103 : DataW.trod enc Tryz.prog W 0 (fun _ => true) true m101 25 (([_, _, _, _, _, _, _, _, _, _, _, _, _, _, c0_14, c0_15, c0_16, c0_17, c0_18, c0_19, c0_20, _, _, _, _, _, _, _].drop 14).take (Tryz.prog.cellsOf 25)) = some y102 := g103
  rw [show Tryz.prog.cellsOf 25 = 7 from by kernel_rfl] at g103
  replace g103 : DataW.trod enc Tryz.prog W 0 (fun _ => true) true m101 25 [c0_14, c0_15, c0_16, c0_17, c0_18, c0_19, c0_20] = some y102 := g103
  obtain ⟨hl104, hf105⟩ := Frame.trod_struct' Tryz.underlying25 g103
  obtain ⟨m106, y107, g108⟩ := hf105 0 _ rfl
  replace g108 : DataW.trod enc Tryz.prog W 0 (fun _ => true) true m106 3 (([c0_14, _, _, _, _, _, _].drop 0).take (Tryz.prog.cellsOf 3)) = some y107 := g108
  rw [show Tryz.prog.cellsOf 3 = 1 from by kernel_rfl] at g108
  replace g108 : DataW.trod enc Tryz.prog W 0 (fun _ => true) true m106 3 [c0_14] = some y107 := g108
  obtain ⟨n111, e109, wf110⟩ := Frame.trod_int' Tryz.underlying3 g108
  obtain rfl : c0_14 = .int .i64 n111 := by injection e109
  obtain ⟨m112, y113, g114⟩ := hf105 1 _ rfl
  replace g114 : DataW.trod enc Tryz.prog W 0 (fun _ => true) true m112 4 (([_, c0_15, _, _, _, _, _].drop 1).take (Tryz.prog.cellsOf 4)) = some y113 := g114
  rw [show Tryz.prog.cellsOf 4 = 1 from by kernel_rfl] at g114
  replace g114 : DataW.trod enc Tryz.prog W 0 (fun _ => true) true m112 4 [c0_15] = some y113 := g114
  obtain ⟨b117, e115⟩ := Frame.trod_bool' Tryz.underlying4 g114
  obtain rfl : c0_15 = .bool b117 := by injection e115
  obtain ⟨m118, y119, g120⟩ := hf105 2 _ rfl
  replace g120 : DataW.trod enc Tryz.prog W 0 (fun _ => true) true m118 3 (([_, _, c0_16, _, _, _, _].drop 2).take (Tryz.prog.cellsOf 3)) = some y119 := g120
  rw [show Tryz.prog.cellsOf 3 = 1 from by kernel_rfl] at g120
  replace g120 : DataW.trod enc Tryz.prog W 0 (fun _ => true) true m118 3 [c0_16] = some y119 := g120
  obtain ⟨n123, e121, wf122⟩ := Frame.trod_int' Tryz.underlying3 g120
  obtain rfl : c0_16 = .int .i64 n123 := by injection e121
  obtain ⟨m124, y125, g126⟩ := hf105 3 _ rfl
  replace g126 : DataW.trod enc Tryz.prog W 0 (fun _ => true) true m124 3 (([_, _, _, c0_17, _, _, _].drop 3).take (Tryz.prog.cellsOf 3)) = some y125 := g126
  rw [show Tryz.prog.cellsOf 3 = 1 from by kernel_rfl] at g126
  replace g126 : DataW.trod enc Tryz.prog W 0 (fun _ => true) true m124 3 [c0_17] = some y125 := g126
  obtain ⟨n129, e127, wf128⟩ := Frame.trod_int' Tryz.underlying3 g126
  obtain rfl : c0_17 = .int .i64 n129 := by injection e127
  obtain ⟨m130, y131, g132⟩ := hf105 4 _ rfl
  replace g132 : DataW.trod enc Tryz.prog W 0 (fun _ => true) true m130 3 (([_, _, _, _, c0_18, _, _].drop 4).take (Tryz.prog.cellsOf 3)) = some y131 := g132
  rw [show Tryz.prog.cellsOf 3 = 1 from by kernel_rfl] at g132
  replace g132 : DataW.trod enc Tryz.prog W 0 (fun _ => true) true m130 3 [c0_18] = some y131 := g132
  obtain ⟨n135, e133, wf134⟩ := Frame.trod_int' Tryz.underlying3 g132
  obtain rfl : c0_18 = .int .i64 n135 := by injection e133
  obtain ⟨m136, y137, g138⟩ := hf105 5 _ rfl
  replace g138 : DataW.trod enc Tryz.prog W 0 (fun _ => true) true m136 23 (([_, _, _, _, _, c0_19, _].drop 5).take (Tryz.prog.cellsOf 23)) = some y137 := g138
  rw [show Tryz.prog.cellsOf 23 = 1 from by kernel_rfl] at g138
  replace g138 : DataW.trod enc Tryz.prog W 0 (fun _ => true) true m136 23 [c0_19] = some y137 := g138
  obtain ⟨A141, n142, c143, e139, _⟩ := Frame.trod_slice' Tryz.underlying23 g138
  obtain rfl : c0_19 = .slice A141 n142 c143 := by injection e139
  obtain ⟨xs144, wf140⟩ := open_spts g138
  obtain ⟨m145, y146, g147⟩ := hf105 6 _ rfl
  replace g147 : DataW.trod enc Tryz.prog W 0 (fun _ => true) true m145 23 (([_, _, _, _, _, _, c0_20].drop 6).take (Tryz.prog.cellsOf 23)) = some y146 := g147
  rw [show Tryz.prog.cellsOf 23 = 1 from by kernel_rfl] at g147
  replace g147 : DataW.trod enc Tryz.prog W 0 (fun _ => true) true m145 23 [c0_20] = some y146 := g147
  obtain ⟨A150, n151, c152, e148, _⟩ := Frame.trod_slice' Tryz.underlying23 g147
  obtain rfl : c0_20 = .slice A150 n151 c152 := by injection e148
  obtain ⟨xs153, wf149⟩ := open_spts g147
  obtain ⟨m154, y155, g156⟩ := hf2 9 _ rfl
  replace g156 : DataW.trod enc Tryz.prog W 0 (fun _ => true) true m154 25 (([_, _, _, _, _, _, _, _, _, _, _, _, _, _, _, _, _, _, _, _, _, c0_21, c0_22, c0_23, c0_24, c0_25, c0_26, c0_27].drop 21).take (Tryz.prog.cellsOf 25)) = some y155 := g156
  rw [show Tryz.prog.cellsOf 25 = 7 from by kernel_rfl] at g156
  replace g156 : DataW.trod enc Tryz.prog W 0 (fun _ => true) true m154 25 [c0_21, c0_22, c0_23, c0_24, c0_25, c0_26, c0_27] = some y155 := g156
  obtain ⟨hl157, hf158⟩ := Frame.trod_struct' Tryz.underlying25 g156
  obtain ⟨m159, y160, g161⟩ := hf158 0 _ rfl
  replace g161 : DataW.trod enc Tryz.prog W 0 (fun _ => true) true m159 3 (([c0_21, _, _, _, _, _, _].drop 0).take (Tryz.prog.cellsOf 3)) = some y160 := g161
  rw [show Tryz.prog.cellsOf 3 = 1 from by kernel_rfl] at g161
  replace g161 : DataW.trod enc Tryz.prog W 0 (fun _ => true) true m159 3 [c0_21] = some y160 := g161
  obtain ⟨n164, e162, wf163⟩ := Frame.trod_int' Tryz.underlying3 g161
  obtain rfl : c0_21 = .int .i64 n164 := by injection e162
  obtain ⟨m165, y166, g167⟩ := hf158 1 _ rfl
  replace g167 : DataW.trod enc Tryz.prog W 0 (fun _ => true) true m165 4 (([_, c0_22, _, _, _, _, _].drop 1).take (Tryz.prog.cellsOf 4)) = some y166 := g167
  rw [show Tryz.prog.cellsOf 4 = 1 from by kernel_rfl] at g167
  replace g167 : DataW.trod enc Tryz.prog W 0 (fun _ => true) true m165 4 [c0_22] = some y166 := g167
  obtain ⟨b170, e168⟩ := Frame.trod_bool' Tryz.underlying4 g167
  obtain rfl : c0_22 = .bool b170 := by injection e168
  obtain ⟨m171, y172, g173⟩ := hf158 2 _ rfl
  replace g173 : DataW.trod enc Tryz.prog W 0 (fun _ => true) true m171 3 (([_, _, c0_23, _, _, _, _].drop 2).take (Tryz.prog.cellsOf 3)) = some y172 := g173
  rw [show Tryz.prog.cellsOf 3 = 1 from by kernel_rfl] at g173
  replace g173 : DataW.trod enc Tryz.prog W 0 (fun _ => true) true m171 3 [c0_23] = some y172 := g173
  obtain ⟨n176, e174, wf175⟩ := Frame.trod_int' Tryz.underlying3 g173
  obtain rfl : c0_23 = .int .i64 n176 := by injection e174
  obtain ⟨m177, y178, g179⟩ := hf158 3 _ rfl
  replace g179 : DataW.trod enc Tryz.prog W 0 (fun _ => true) true m177 3 (([_, _, _, c0_24, _, _, _].drop 3).take (Tryz.prog.cellsOf 3)) = some y178 := g179
  rw [show Tryz.prog.cellsOf 3 = 1 from by kernel_rfl] at g179
  replace g179 : DataW.trod enc Tryz.prog W 0 (fun _ => true) true m177 3 [c0_24] = some y178 := g179
  obtain ⟨n182, e180, wf181⟩ := Frame.trod_int' Tryz.underlying3 g179
  obtain rfl : c0_24 = .int .i64 n182 := by injection e180
  obtain ⟨m183, y184, g185⟩ := hf158 4 _ rfl
  replace g185 : DataW.trod enc Tryz.prog W 0 (fun _ => true) true m183 3 (([_, _, _, _, c0_25, _, _].drop 4).take (Tryz.prog.cellsOf 3)) = some y184 := g185
  rw [show Tryz.prog.cellsOf 3 = 1 from by kernel_rfl] at g185
  replace g185 : DataW.trod enc Tryz.prog W 0 (fun _ => true) true m183 3 [c0_25] = some y184 := g185
  obtain ⟨n188, e186, wf187⟩ := Frame.trod_int' Tryz.underlying3 g185
  obtain rfl : c0_25 = .int .i64 n188 := by injection e186
  obtain ⟨m189, y190, g191⟩ := hf158 5 _ rfl
  replace g191 : DataW.trod enc Tryz.prog W 0 (fun _ => true) true m189 23 (([_, _, _, _, _, c0_26, _].drop 5).take (Tryz.prog.cellsOf 23)) = some y190 := g191
  rw [show Tryz.prog.cellsOf 23 = 1 from by kernel_rfl] at g191
  replace g191 : DataW.trod enc Tryz.prog W 0 (fun _ => true) true m189 23 [c0_26] = some y190 := g191
  obtain ⟨A194, n195, c196, e192, _⟩ := Frame.trod_slice' Tryz.underlying23 g191
  obtain rfl : c0_26 = .slice A194 n195 c196 := by injection e192
  obtain ⟨xs197, wf193⟩ := open_spts g191
  obtain ⟨m198, y199, g200⟩ := hf158 6 _ rfl
  replace g200 : DataW.trod enc Tryz.prog W 0 (fun _ => true) true m198 23 (([_, _, _, _, _, _, c0_27].drop 6).take (Tryz.prog.cellsOf 23)) = some y199 := g200
  rw [show Tryz.prog.cellsOf 23 = 1 from by kernel_rfl] at g200
  replace g200 : DataW.trod enc Tryz.prog W 0 (fun _ => true) true m198 23 [c0_27] = some y199 := g200
  obtain ⟨A203, n204, c205, e201, _⟩ := Frame.trod_slice' Tryz.underlying23 g200
  obtain rfl : c0_27 = .slice A203 n204 c205 := by injection e201
  obtain ⟨xs206, wf202⟩ := open_spts g200
  obtain ⟨fu1, hf1⟩ := h1
  obtain ⟨cs1, rfl⟩ := Frame.okWide_agg (hval 1 29 v1 rfl rfl) (.inl ⟨_, Tryz.underlying29⟩)
  replace hf1 : DataW.trod enc Tryz.prog W 0 (fun _ => true) true fu1 29 cs1.toList = some (d1, p1) := hf1
  have len1 : cs1.toList.length = 3 := (Frame.trod_struct' Tryz.underlying29 hf1).1.trans (by kernel_rfl)
  obtain ⟨c1_0, c1_1, c1_2, ecs1⟩ := Frame.list3 len1
  obtain rfl : cs1 = #[c1_0, c1_1, c1_2] := by rw [← Array.toArray_toList (xs := cs1), ecs1]
  replace hf1 : DataW.trod enc Tryz.prog W 0 (fun _ => true) true fu1 29 [c1_0, c1_1, c1_2] = some (d1, p1) := hf1
  obtain ⟨hl207, hf208⟩ := Frame.trod_struct' Tryz.underlying29 hf1
  obtain ⟨m209, y210, g211⟩ := hf208 0 _ rfl
  replace g211 : DataW.trod enc Tryz.prog W 0 (fun _ => true) true m209 3 (([c1_0, _, _].drop 0).take (Tryz.prog.cellsOf 3)) = some y210 := g211
  rw [show Tryz.prog.cellsOf 3 = 1 from by kernel_rfl] at g211
  replace g211 : DataW.trod enc Tryz.prog W 0 (fun _ => true) true m209 3 [c1_0] = some y210 := g211
  obtain ⟨n214, e212, wf213⟩ := Frame.trod_int' Tryz.underlying3 g211
  obtain rfl : c1_0 = .int .i64 n214 := by injection e212
  obtain ⟨m215, y216, g217⟩ := hf208 1 _ rfl
  replace g217 : DataW.trod enc Tryz.prog W 0 (fun _ => true) true m215 3 (([_, c1_1, _].drop 1).take (Tryz.prog.cellsOf 3)) = some y216 := g217
  rw [show Tryz.prog.cellsOf 3 = 1 from by kernel_rfl] at g217
  replace g217 : DataW.trod enc Tryz.prog W 0 (fun _ => true) true m215 3 [c1_1] = some y216 := g217
  obtain ⟨n220, e218, wf219⟩ := Frame.trod_int' Tryz.underlying3 g217
  obtain rfl : c1_1 = .int .i64 n220 := by injection e218
  obtain ⟨m221, y222, g223⟩ := hf208 2 _ rfl
  replace g223 : DataW.trod enc Tryz.prog W 0 (fun _ => true) true m221 22 (([_, _, c1_2].drop 2).take (Tryz.prog.cellsOf 22)) = some y222 := g223
  rw [show Tryz.prog.cellsOf 22 = 1 from by kernel_rfl] at g223
  replace g223 : DataW.trod enc Tryz.prog W 0 (fun _ => true) true m221 22 [c1_2] = some y222 := g223
  obtain ⟨A226, n227, c228, e224, _⟩ := Frame.trod_slice' Tryz.underlying22 g223
  obtain rfl : c1_2 = .slice A226 n227 c228 := by injection e224
  obtain ⟨xs229, wf225⟩ := open_tcls g223
  obtain ⟨fu2, hf2⟩ := h2
  obtain ⟨qa2, qn2, qc2, rfl⟩ := okWide_slice Tryz.underlying31 (hval 2 31 v2 rfl rfl)
  replace hf2 : DataW.trod enc Tryz.prog W 0 (fun _ => true) true fu2 31 [.slice qa2 qn2 qc2] = some (d2, p2) := hf2
  obtain ⟨xs230, wf231⟩ := open_ints hf2
  obtain ⟨fu3, hf3⟩ := h3
  obtain ⟨u3, rfl⟩ := okWide_int Tryz.underlying3 (hval 3 3 v3 rfl rfl)
  replace hf3 : DataW.trod enc Tryz.prog W 0 (fun _ => true) true fu3 3 [.int .i64 u3] = some (d3, p3) := hf3
  have wf232 : (Lit.int .i64 u3).wf = true := by obtain ⟨n, e, h⟩ := Frame.trod_int' Tryz.underlying3 hf3; cases e; exact h
  obtain ⟨fu4, hf4⟩ := h4
  obtain ⟨u4, rfl⟩ := okWide_int Tryz.underlying3 (hval 4 3 v4 rfl rfl)
  replace hf4 : DataW.trod enc Tryz.prog W 0 (fun _ => true) true fu4 3 [.int .i64 u4] = some (d4, p4) := hf4
  have wf233 : (Lit.int .i64 u4).wf = true := by obtain ⟨n, e, h⟩ := Frame.trod_int' Tryz.underlying3 hf4; cases e; exact h
  obtain ⟨fu5, hf5⟩ := h5
  obtain ⟨u5, rfl⟩ := okWide_int Tryz.underlying3 (hval 5 3 v5 rfl rfl)
  replace hf5 : DataW.trod enc Tryz.prog W 0 (fun _ => true) true fu5 3 [.int .i64 u5] = some (d5, p5) := hf5
  have wf234 : (Lit.int .i64 u5).wf = true := by obtain ⟨n, e, h⟩ := Frame.trod_int' Tryz.underlying3 hf5; cases e; exact h
  obtain ⟨fu6, hf6⟩ := h6
  obtain ⟨qa6, qn6, qc6, rfl⟩ := okWide_slice Tryz.underlying23 (hval 6 23 v6 rfl rfl)
  replace hf6 : DataW.trod enc Tryz.prog W 0 (fun _ => true) true fu6 23 [.slice qa6 qn6 qc6] = some (d6, p6) := hf6
  obtain ⟨xs235, wf236⟩ := open_spts hf6
  refine (transactionAsks_walk n8 n14 n20 A26 n27 c28 xs29 b35 n41 n52 b58 n64 n70 n76 A82 n83 c84 xs85 A91 n92 c93 xs94 b100 n111 b117 n123 n129 n135 A141 n142 c143 xs144 A150 n151 c152 xs153 n164 b170 n176 n182 n188 A194 n195 c196 xs197 A203 n204 c205 xs206 n214 n220 A226 n227 c228 xs229 qa2 qn2 qc2 xs230 u3 u4 u5 qa6 qn6 qc6 xs235 W wf7 wf13 wf19 wf25 wf40 wf51 wf63 wf69 wf75 wf81 wf90 wf110 wf122 wf128 wf134 wf140 wf149 wf163 wf175 wf181 wf187 wf193 wf202 wf213 wf219 wf225 wf231 wf232 wf233 wf234 wf236).mono fun e W' ⟨he, hb⟩ => ?_
  subst he
  exact ⟨_, rfl, Frame.law_post (tb := 4) (by kernel_rfl) (by
    rw [Tryz.params10]
    intro t ht
    simp only [List.mem_cons, List.not_mem_nil, or_false] at ht
    rcases ht with rfl | rfl | rfl | rfl | rfl | rfl | rfl <;> exact ⟨by kernel_rfl, of_decide_eq_true (by kernel_rfl)⟩) rfl hW' rfl Tryz.underlying4 rfl hb⟩
theorem transactionAsks_over : Rows.transactionAsksRow.holds Tryz.pinned (OpenSpec.ofChange Rows.transactionAsksSpec) :=
  OpenClaim.holds_of_wide 10 Tryz.f10 rfl rfl rfl rfl rfl rfl rfl ⟨rfl, rfl, rfl, rfl, rfl⟩ rfl rfl rfl rfl rfl (by kernel_rfl) Tryz.func10 (by kernel_rfl)
    (of_decide_eq_true (by kernel_rfl)) (by unfold Func.isWrapper; first | (rw [if_pos (by decide +kernel)]; kernel_rfl) | (rw [if_neg (by decide +kernel)]; exact ⟨rfl, rfl⟩))
    (fun os started H enc _ => transactionAsks_lifted os started H enc)
/-- THE STATEMENT -/
theorem transactionAsks_holds : Rows.TransactionAsksSaid := transactionAsks_over
#print axioms transactionAsks_holds
end Go.Proofs.YtkfipbelhlcddaaGreat
