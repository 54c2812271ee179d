/- TransactionReceives: for every input the law returns true, and each argument reads afterwards as before. No condition beyond the given row's. -/
import Derived.Test.YtggpaahhgchloaaGreatLvR
import Derived.Test.YtggpaahhgchloaaGreatCo
import Derived.Test.YtggpaahhgchloaaGreatFrame
set_option maxRecDepth 100000
namespace Go.Proofs.YtggpaahhgchloaaGreat
open Go Go.ChangeShapes Go.WideShapes Go.ChangeAt Go.RowKit Tx
set_option linter.unusedVariables false in
theorem transactionReceives_lifted(os:Os)(started:os.Started)(H:Type)(enc:TypeId×Value→H):
 ReturnsInHanded {} Tryz.checked os 3 .any (Rows.transactionReceivesSpec.pre6 enc Tryz.prog Tryz.f3 Rows.transactionReceivesRow.domain false) (Rows.transactionReceivesSpec.post enc Tryz.prog Tryz.f3 false true false false):=by
 refine returnsInHanded_of_change (C:=Tryz.checked) (show ownKnob Tryz.prog.godebug=none by kernel_rfl) started (by kernel_rfl) Tryz.func3
  (ChangeSpec.witness6 (enc:=enc) (C:=Tryz.checked) false ⟨#[],#[(.agg #[.int .i64 0,.int .i64 0,.int .i64 0,.slice none 0 0,.bool false,.int .i64 0,.int .i64 0,.bool false,.int .i64 0,.int .i64 0,.int .i64 0,.slice none 0 0,.slice none 0 0,.bool false,.int .i64 0,.bool false,.int .i64 0,.int .i64 0,.int .i64 0,.slice none 0 0,.slice none 0 0,.int .i64 0,.bool false,.int .i64 0,.int .i64 0,.int .i64 0,.slice none 0 0,.slice none 0 0]),(.agg #[.int .i64 0,.int .i64 0,.slice none 0 0]),.slice none 0 0,(.agg #[.int .i64 0,.bool false,.int .i64 0,.int .i64 0,.int .i64 0,.slice none 0 0,.slice none 0 0])],[]⟩ 8 (by kernel_rfl) (by kernel_rfl) (by kernel_rfl) (by kernel_rfl)) ?_
 intro W base args ds gs before hval0 hW hcnd _
 have hval:∀(j:Nat) t v,Tryz.f3.params[j]? =some t→args[j]? =some v→Value.okWide Tryz.prog W .any base t v:=hval0
 have hW':=hW
 obtain⟨p,q,hA0,hV,rfl,hfz,hnd⟩:=hW
 have hA:DataW.TrodAll enc Tryz.prog W 0 (fun _=>true) true Tryz.f3.params.toList args.toList ds p:=hA0
 rw[Tryz.params3]at hA hval
 obtain⟨v0,vs0,d0,ds0,p0,q0,hargs,rfl,rfl,h0,r0⟩:=trodAll_cons hA
 obtain⟨v1,vs1,d1,ds1,p1,q1,rfl,rfl,rfl,h1,r1⟩:=trodAll_cons r0
 obtain⟨v2,vs2,d2,ds2,p2,q2,rfl,rfl,rfl,h2,r2⟩:=trodAll_cons r1
 obtain⟨v3,vs3,d3,ds3,p3,q3,rfl,rfl,rfl,h3,r3⟩:=trodAll_cons r2
 obtain⟨rfl,rfl,rfl⟩:=trodAll_nil r3
 obtain rfl:args=#[v0,v1,v2,v3]:=by cases args;simp_all
 obtain⟨rfl,rfl⟩:=trodVars_none hV
 clear hA0 hval0 hcnd hA hfz hnd hV
 obtain⟨fu0,hf0⟩:=h0
 obtain⟨cs0,rfl⟩:=Frame.okWide_agg (hval 0 27 v0 rfl rfl) (.inl ⟨_,Tryz.underlying27⟩)
 replace hf0:DataW.trod enc Tryz.prog W 0 (fun _=>true) true fu0 27 cs0.toList=some (d0,p0):=hf0
 have len0:cs0.toList.length=28:=(Frame.trod_struct' Tryz.underlying27 hf0).1.trans (by kernel_rfl)
 obtain⟨c0_0,c0_1,c0_2,c0_3,c0_4,c0_5,c0_6,c0_7,c0_8,c0_9,c0_10,c0_11,c0_12,c0_13,c0_14,c0_15,c0_16,c0_17,c0_18,c0_19,c0_20,c0_21,c0_22,c0_23,c0_24,c0_25,c0_26,c0_27,ecs0⟩:=Frame.list28 len0
 obtain rfl:cs0=#[c0_0,c0_1,c0_2,c0_3,c0_4,c0_5,c0_6,c0_7,c0_8,c0_9,c0_10,c0_11,c0_12,c0_13,c0_14,c0_15,c0_16,c0_17,c0_18,c0_19,c0_20,c0_21,c0_22,c0_23,c0_24,c0_25,c0_26,c0_27]:=by rw[←Array.toArray_toList (xs:=cs0),ecs0]
 replace hf0:DataW.trod enc Tryz.prog W 0 (fun _=>true) true fu0 27 [c0_0,c0_1,c0_2,c0_3,c0_4,c0_5,c0_6,c0_7,c0_8,c0_9,c0_10,c0_11,c0_12,c0_13,c0_14,c0_15,c0_16,c0_17,c0_18,c0_19,c0_20,c0_21,c0_22,c0_23,c0_24,c0_25,c0_26,c0_27]=some (d0,p0):=hf0
 obtain⟨hl1,hf2⟩:=Frame.trod_struct' Tryz.underlying27 hf0
 obtain⟨m3,y4,g5⟩:=hf2 0 _ rfl
 obtain⟨n8,wf7,e6⟩:=Op.at_int Tryz.underlying3 (by kernel_rfl) g5
 obtain rfl:c0_0= .int .i64 n8:=Option.some.inj e6
 obtain⟨m9,y10,g11⟩:=hf2 1 _ rfl
 obtain⟨n14,wf13,e12⟩:=Op.at_int Tryz.underlying3 (by kernel_rfl) g11
 obtain rfl:c0_1= .int .i64 n14:=Option.some.inj e12
 obtain⟨m15,y16,g17⟩:=hf2 2 _ rfl
 obtain⟨n20,wf19,e18⟩:=Op.at_int Tryz.underlying3 (by kernel_rfl) g17
 obtain rfl:c0_2= .int .i64 n20:=Option.some.inj e18
 obtain⟨m21,y22,g23⟩:=hf2 3 _ rfl
 replace g23:DataW.trod enc Tryz.prog W 0 (fun _=>true) true m21 22 (([_,_,_,c0_3,_,_,_,_,_,_,_,_,_,_,_,_,_,_,_,_,_,_,_,_,_,_,_,_].drop 3).take (Tryz.prog.cellsOf 22))=some y22:=g23
 rw[show Tryz.prog.cellsOf 22=1 from by kernel_rfl]at g23
 replace g23:DataW.trod enc Tryz.prog W 0 (fun _=>true) true m21 22 [c0_3]=some y22:=g23
 obtain⟨A26,n27,c28,e24,_⟩:=Frame.trod_slice' Tryz.underlying22 g23
 obtain rfl:c0_3= .slice A26 n27 c28:=by injection e24
 obtain⟨xs29,wf25⟩:=open_tcls g23
 obtain⟨m30,y31,g32⟩:=hf2 4 _ rfl
 obtain⟨b35,e33⟩:=Op.at_bool Tryz.underlying4 (by kernel_rfl) g32
 obtain rfl:c0_4= .bool b35:=Option.some.inj e33
 obtain⟨m36,y37,g38⟩:=hf2 5 _ rfl
 obtain⟨n41,wf40,e39⟩:=Op.at_int Tryz.underlying3 (by kernel_rfl) g38
 obtain rfl:c0_5= .int .i64 n41:=Option.some.inj e39
 obtain⟨m42,y43,g44⟩:=hf2 6 _ rfl
 replace g44:DataW.trod enc Tryz.prog W 0 (fun _=>true) true m42 25 (([_,_,_,_,_,_,c0_6,c0_7,c0_8,c0_9,c0_10,c0_11,c0_12,_,_,_,_,_,_,_,_,_,_,_,_,_,_,_].drop 6).take (Tryz.prog.cellsOf 25))=some y43:=g44
 rw[show Tryz.prog.cellsOf 25=7 from by kernel_rfl]at g44
 replace g44:DataW.trod enc Tryz.prog W 0 (fun _=>true) true m42 25 [c0_6,c0_7,c0_8,c0_9,c0_10,c0_11,c0_12]=some y43:=g44
 obtain⟨hl45,hf46⟩:=Frame.trod_struct' Tryz.underlying25 g44
 obtain⟨m47,y48,g49⟩:=hf46 0 _ rfl
 obtain⟨n52,wf51,e50⟩:=Op.at_int Tryz.underlying3 (by kernel_rfl) g49
 obtain rfl:c0_6= .int .i64 n52:=Option.some.inj e50
 obtain⟨m53,y54,g55⟩:=hf46 1 _ rfl
 obtain⟨b58,e56⟩:=Op.at_bool Tryz.underlying4 (by kernel_rfl) g55
 obtain rfl:c0_7= .bool b58:=Option.some.inj e56
 obtain⟨m59,y60,g61⟩:=hf46 2 _ rfl
 obtain⟨n64,wf63,e62⟩:=Op.at_int Tryz.underlying3 (by kernel_rfl) g61
 obtain rfl:c0_8= .int .i64 n64:=Option.some.inj e62
 obtain⟨m65,y66,g67⟩:=hf46 3 _ rfl
 obtain⟨n70,wf69,e68⟩:=Op.at_int Tryz.underlying3 (by kernel_rfl) g67
 obtain rfl:c0_9= .int .i64 n70:=Option.some.inj e68
 obtain⟨m71,y72,g73⟩:=hf46 4 _ rfl
 obtain⟨n76,wf75,e74⟩:=Op.at_int Tryz.underlying3 (by kernel_rfl) g73
 obtain rfl:c0_10= .int .i64 n76:=Option.some.inj e74
 obtain⟨m77,y78,g79⟩:=hf46 5 _ rfl
 replace g79:DataW.trod enc Tryz.prog W 0 (fun _=>true) true m77 23 (([_,_,_,_,_,c0_11,_].drop 5).take (Tryz.prog.cellsOf 23))=some y78:=g79
 rw[show Tryz.prog.cellsOf 23=1 from by kernel_rfl]at g79
 replace g79:DataW.trod enc Tryz.prog W 0 (fun _=>true) true m77 23 [c0_11]=some y78:=g79
 obtain⟨A82,n83,c84,e80,_⟩:=Frame.trod_slice' Tryz.underlying23 g79
 obtain rfl:c0_11= .slice A82 n83 c84:=by injection e80
 obtain⟨xs85,wf81⟩:=open_spts g79
 obtain⟨m86,y87,g88⟩:=hf46 6 _ rfl
 replace g88:DataW.trod enc Tryz.prog W 0 (fun _=>true) true m86 23 (([_,_,_,_,_,_,c0_12].drop 6).take (Tryz.prog.cellsOf 23))=some y87:=g88
 rw[show Tryz.prog.cellsOf 23=1 from by kernel_rfl]at g88
 replace g88:DataW.trod enc Tryz.prog W 0 (fun _=>true) true m86 23 [c0_12]=some y87:=g88
 obtain⟨A91,n92,c93,e89,_⟩:=Frame.trod_slice' Tryz.underlying23 g88
 obtain rfl:c0_12= .slice A91 n92 c93:=by injection e89
 obtain⟨xs94,wf90⟩:=open_spts g88
 obtain⟨m95,y96,g97⟩:=hf2 7 _ rfl
 obtain⟨b100,e98⟩:=Op.at_bool Tryz.underlying4 (by kernel_rfl) g97
 obtain rfl:c0_13= .bool b100:=Option.some.inj e98
 obtain⟨m101,y102,g103⟩:=hf2 8 _ rfl
 replace g103:DataW.trod enc Tryz.prog W 0 (fun _=>true) true m101 25 (([_,_,_,_,_,_,_,_,_,_,_,_,_,_,c0_14,c0_15,c0_16,c0_17,c0_18,c0_19,c0_20,_,_,_,_,_,_,_].drop 14).take (Tryz.prog.cellsOf 25))=some y102:=g103
 rw[show Tryz.prog.cellsOf 25=7 from by kernel_rfl]at g103
 replace g103:DataW.trod enc Tryz.prog W 0 (fun _=>true) true m101 25 [c0_14,c0_15,c0_16,c0_17,c0_18,c0_19,c0_20]=some y102:=g103
 obtain⟨hl104,hf105⟩:=Frame.trod_struct' Tryz.underlying25 g103
 obtain⟨m106,y107,g108⟩:=hf105 0 _ rfl
 obtain⟨n111,wf110,e109⟩:=Op.at_int Tryz.underlying3 (by kernel_rfl) g108
 obtain rfl:c0_14= .int .i64 n111:=Option.some.inj e109
 obtain⟨m112,y113,g114⟩:=hf105 1 _ rfl
 obtain⟨b117,e115⟩:=Op.at_bool Tryz.underlying4 (by kernel_rfl) g114
 obtain rfl:c0_15= .bool b117:=Option.some.inj e115
 obtain⟨m118,y119,g120⟩:=hf105 2 _ rfl
 obtain⟨n123,wf122,e121⟩:=Op.at_int Tryz.underlying3 (by kernel_rfl) g120
 obtain rfl:c0_16= .int .i64 n123:=Option.some.inj e121
 obtain⟨m124,y125,g126⟩:=hf105 3 _ rfl
 obtain⟨n129,wf128,e127⟩:=Op.at_int Tryz.underlying3 (by kernel_rfl) g126
 obtain rfl:c0_17= .int .i64 n129:=Option.some.inj e127
 obtain⟨m130,y131,g132⟩:=hf105 4 _ rfl
 obtain⟨n135,wf134,e133⟩:=Op.at_int Tryz.underlying3 (by kernel_rfl) g132
 obtain rfl:c0_18= .int .i64 n135:=Option.some.inj e133
 obtain⟨m136,y137,g138⟩:=hf105 5 _ rfl
 replace g138:DataW.trod enc Tryz.prog W 0 (fun _=>true) true m136 23 (([_,_,_,_,_,c0_19,_].drop 5).take (Tryz.prog.cellsOf 23))=some y137:=g138
 rw[show Tryz.prog.cellsOf 23=1 from by kernel_rfl]at g138
 replace g138:DataW.trod enc Tryz.prog W 0 (fun _=>true) true m136 23 [c0_19]=some y137:=g138
 obtain⟨A141,n142,c143,e139,_⟩:=Frame.trod_slice' Tryz.underlying23 g138
 obtain rfl:c0_19= .slice A141 n142 c143:=by injection e139
 obtain⟨xs144,wf140⟩:=open_spts g138
 obtain⟨m145,y146,g147⟩:=hf105 6 _ rfl
 replace g147:DataW.trod enc Tryz.prog W 0 (fun _=>true) true m145 23 (([_,_,_,_,_,_,c0_20].drop 6).take (Tryz.prog.cellsOf 23))=some y146:=g147
 rw[show Tryz.prog.cellsOf 23=1 from by kernel_rfl]at g147
 replace g147:DataW.trod enc Tryz.prog W 0 (fun _=>true) true m145 23 [c0_20]=some y146:=g147
 obtain⟨A150,n151,c152,e148,_⟩:=Frame.trod_slice' Tryz.underlying23 g147
 obtain rfl:c0_20= .slice A150 n151 c152:=by injection e148
 obtain⟨xs153,wf149⟩:=open_spts g147
 obtain⟨m154,y155,g156⟩:=hf2 9 _ rfl
 replace g156:DataW.trod enc Tryz.prog W 0 (fun _=>true) true m154 25 (([_,_,_,_,_,_,_,_,_,_,_,_,_,_,_,_,_,_,_,_,_,c0_21,c0_22,c0_23,c0_24,c0_25,c0_26,c0_27].drop 21).take (Tryz.prog.cellsOf 25))=some y155:=g156
 rw[show Tryz.prog.cellsOf 25=7 from by kernel_rfl]at g156
 replace g156:DataW.trod enc Tryz.prog W 0 (fun _=>true) true m154 25 [c0_21,c0_22,c0_23,c0_24,c0_25,c0_26,c0_27]=some y155:=g156
 obtain⟨hl157,hf158⟩:=Frame.trod_struct' Tryz.underlying25 g156
 obtain⟨m159,y160,g161⟩:=hf158 0 _ rfl
 obtain⟨n164,wf163,e162⟩:=Op.at_int Tryz.underlying3 (by kernel_rfl) g161
 obtain rfl:c0_21= .int .i64 n164:=Option.some.inj e162
 obtain⟨m165,y166,g167⟩:=hf158 1 _ rfl
 obtain⟨b170,e168⟩:=Op.at_bool Tryz.underlying4 (by kernel_rfl) g167
 obtain rfl:c0_22= .bool b170:=Option.some.inj e168
 obtain⟨m171,y172,g173⟩:=hf158 2 _ rfl
 obtain⟨n176,wf175,e174⟩:=Op.at_int Tryz.underlying3 (by kernel_rfl) g173
 obtain rfl:c0_23= .int .i64 n176:=Option.some.inj e174
 obtain⟨m177,y178,g179⟩:=hf158 3 _ rfl
 obtain⟨n182,wf181,e180⟩:=Op.at_int Tryz.underlying3 (by kernel_rfl) g179
 obtain rfl:c0_24= .int .i64 n182:=Option.some.inj e180
 obtain⟨m183,y184,g185⟩:=hf158 4 _ rfl
 obtain⟨n188,wf187,e186⟩:=Op.at_int Tryz.underlying3 (by kernel_rfl) g185
 obtain rfl:c0_25= .int .i64 n188:=Option.some.inj e186
 obtain⟨m189,y190,g191⟩:=hf158 5 _ rfl
 replace g191:DataW.trod enc Tryz.prog W 0 (fun _=>true) true m189 23 (([_,_,_,_,_,c0_26,_].drop 5).take (Tryz.prog.cellsOf 23))=some y190:=g191
 rw[show Tryz.prog.cellsOf 23=1 from by kernel_rfl]at g191
 replace g191:DataW.trod enc Tryz.prog W 0 (fun _=>true) true m189 23 [c0_26]=some y190:=g191
 obtain⟨A194,n195,c196,e192,_⟩:=Frame.trod_slice' Tryz.underlying23 g191
 obtain rfl:c0_26= .slice A194 n195 c196:=by injection e192
 obtain⟨xs197,wf193⟩:=open_spts g191
 obtain⟨m198,y199,g200⟩:=hf158 6 _ rfl
 replace g200:DataW.trod enc Tryz.prog W 0 (fun _=>true) true m198 23 (([_,_,_,_,_,_,c0_27].drop 6).take (Tryz.prog.cellsOf 23))=some y199:=g200
 rw[show Tryz.prog.cellsOf 23=1 from by kernel_rfl]at g200
 replace g200:DataW.trod enc Tryz.prog W 0 (fun _=>true) true m198 23 [c0_27]=some y199:=g200
 obtain⟨A203,n204,c205,e201,_⟩:=Frame.trod_slice' Tryz.underlying23 g200
 obtain rfl:c0_27= .slice A203 n204 c205:=by injection e201
 obtain⟨xs206,wf202⟩:=open_spts g200
 obtain⟨fu1,hf1⟩:=h1
 obtain⟨cs1,rfl⟩:=Frame.okWide_agg (hval 1 29 v1 rfl rfl) (.inl ⟨_,Tryz.underlying29⟩)
 replace hf1:DataW.trod enc Tryz.prog W 0 (fun _=>true) true fu1 29 cs1.toList=some (d1,p1):=hf1
 have len1:cs1.toList.length=3:=(Frame.trod_struct' Tryz.underlying29 hf1).1.trans (by kernel_rfl)
 obtain⟨c1_0,c1_1,c1_2,ecs1⟩:=Frame.list3 len1
 obtain rfl:cs1=#[c1_0,c1_1,c1_2]:=by rw[←Array.toArray_toList (xs:=cs1),ecs1]
 replace hf1:DataW.trod enc Tryz.prog W 0 (fun _=>true) true fu1 29 [c1_0,c1_1,c1_2]=some (d1,p1):=hf1
 obtain⟨hl207,hf208⟩:=Frame.trod_struct' Tryz.underlying29 hf1
 obtain⟨m209,y210,g211⟩:=hf208 0 _ rfl
 obtain⟨n214,wf213,e212⟩:=Op.at_int Tryz.underlying3 (by kernel_rfl) g211
 obtain rfl:c1_0= .int .i64 n214:=Option.some.inj e212
 obtain⟨m215,y216,g217⟩:=hf208 1 _ rfl
 obtain⟨n220,wf219,e218⟩:=Op.at_int Tryz.underlying3 (by kernel_rfl) g217
 obtain rfl:c1_1= .int .i64 n220:=Option.some.inj e218
 obtain⟨m221,y222,g223⟩:=hf208 2 _ rfl
 replace g223:DataW.trod enc Tryz.prog W 0 (fun _=>true) true m221 22 (([_,_,c1_2].drop 2).take (Tryz.prog.cellsOf 22))=some y222:=g223
 rw[show Tryz.prog.cellsOf 22=1 from by kernel_rfl]at g223
 replace g223:DataW.trod enc Tryz.prog W 0 (fun _=>true) true m221 22 [c1_2]=some y222:=g223
 obtain⟨A226,n227,c228,e224,_⟩:=Frame.trod_slice' Tryz.underlying22 g223
 obtain rfl:c1_2= .slice A226 n227 c228:=by injection e224
 obtain⟨xs229,wf225⟩:=open_tcls g223
 obtain⟨fu2,hf2⟩:=h2
 obtain⟨qa2,qn2,qc2,rfl⟩:=okWide_slice Tryz.underlying31 (hval 2 31 v2 rfl rfl)
 replace hf2:DataW.trod enc Tryz.prog W 0 (fun _=>true) true fu2 31 [.slice qa2 qn2 qc2]=some (d2,p2):=hf2
 obtain⟨xs230,wf231⟩:=open_ints hf2
 obtain⟨fu3,hf3⟩:=h3
 obtain⟨cs3,rfl⟩:=Frame.okWide_agg (hval 3 25 v3 rfl rfl) (.inl ⟨_,Tryz.underlying25⟩)
 replace hf3:DataW.trod enc Tryz.prog W 0 (fun _=>true) true fu3 25 cs3.toList=some (d3,p3):=hf3
 have len3:cs3.toList.length=7:=(Frame.trod_struct' Tryz.underlying25 hf3).1.trans (by kernel_rfl)
 obtain⟨c3_0,c3_1,c3_2,c3_3,c3_4,c3_5,c3_6,ecs3⟩:=Frame.list7 len3
 obtain rfl:cs3=#[c3_0,c3_1,c3_2,c3_3,c3_4,c3_5,c3_6]:=by rw[←Array.toArray_toList (xs:=cs3),ecs3]
 replace hf3:DataW.trod enc Tryz.prog W 0 (fun _=>true) true fu3 25 [c3_0,c3_1,c3_2,c3_3,c3_4,c3_5,c3_6]=some (d3,p3):=hf3
 obtain⟨hl232,hf233⟩:=Frame.trod_struct' Tryz.underlying25 hf3
 obtain⟨m234,y235,g236⟩:=hf233 0 _ rfl
 obtain⟨n239,wf238,e237⟩:=Op.at_int Tryz.underlying3 (by kernel_rfl) g236
 obtain rfl:c3_0= .int .i64 n239:=Option.some.inj e237
 obtain⟨m240,y241,g242⟩:=hf233 1 _ rfl
 obtain⟨b245,e243⟩:=Op.at_bool Tryz.underlying4 (by kernel_rfl) g242
 obtain rfl:c3_1= .bool b245:=Option.some.inj e243
 obtain⟨m246,y247,g248⟩:=hf233 2 _ rfl
 obtain⟨n251,wf250,e249⟩:=Op.at_int Tryz.underlying3 (by kernel_rfl) g248
 obtain rfl:c3_2= .int .i64 n251:=Option.some.inj e249
 obtain⟨m252,y253,g254⟩:=hf233 3 _ rfl
 obtain⟨n257,wf256,e255⟩:=Op.at_int Tryz.underlying3 (by kernel_rfl) g254
 obtain rfl:c3_3= .int .i64 n257:=Option.some.inj e255
 obtain⟨m258,y259,g260⟩:=hf233 4 _ rfl
 obtain⟨n263,wf262,e261⟩:=Op.at_int Tryz.underlying3 (by kernel_rfl) g260
 obtain rfl:c3_4= .int .i64 n263:=Option.some.inj e261
 obtain⟨m264,y265,g266⟩:=hf233 5 _ rfl
 replace g266:DataW.trod enc Tryz.prog W 0 (fun _=>true) true m264 23 (([_,_,_,_,_,c3_5,_].drop 5).take (Tryz.prog.cellsOf 23))=some y265:=g266
 rw[show Tryz.prog.cellsOf 23=1 from by kernel_rfl]at g266
 replace g266:DataW.trod enc Tryz.prog W 0 (fun _=>true) true m264 23 [c3_5]=some y265:=g266
 obtain⟨A269,n270,c271,e267,_⟩:=Frame.trod_slice' Tryz.underlying23 g266
 obtain rfl:c3_5= .slice A269 n270 c271:=by injection e267
 obtain⟨xs272,wf268⟩:=open_spts g266
 obtain⟨m273,y274,g275⟩:=hf233 6 _ rfl
 replace g275:DataW.trod enc Tryz.prog W 0 (fun _=>true) true m273 23 (([_,_,_,_,_,_,c3_6].drop 6).take (Tryz.prog.cellsOf 23))=some y274:=g275
 rw[show Tryz.prog.cellsOf 23=1 from by kernel_rfl]at g275
 replace g275:DataW.trod enc Tryz.prog W 0 (fun _=>true) true m273 23 [c3_6]=some y274:=g275
 obtain⟨A278,n279,c280,e276,_⟩:=Frame.trod_slice' Tryz.underlying23 g275
 obtain rfl:c3_6= .slice A278 n279 c280:=by injection e276
 obtain⟨xs281,wf277⟩:=open_spts g275
 refine(transactionReceives_walk n8 n14 n20 A26 n27 c28 xs29 b35 n41 n52 b58 n64 n70 n76 A82 n83 c84 xs85 A91 n92 c93 xs94 b100 n111 b117 n123 n129 n135 A141 n142 c143 xs144 A150 n151 c152 xs153 n164 b170 n176 n182 n188 A194 n195 c196 xs197 A203 n204 c205 xs206 n214 n220 A226 n227 c228 xs229 qa2 qn2 qc2 xs230 n239 b245 n251 n257 n263 A269 n270 c271 xs272 A278 n279 c280 xs281 W wf7 wf13 wf19 wf25 wf40 wf51 wf63 wf69 wf75 wf81 wf90 wf110 wf122 wf128 wf134 wf140 wf149 wf163 wf175 wf181 wf187 wf193 wf202 wf213 wf219 wf225 wf231 wf238 wf250 wf256 wf262 wf268 wf277).mono fun e W' ⟨he,hb⟩=> ?_
 subst he
 exact⟨_,rfl,Frame.law_post (tb:=4) (by kernel_rfl) (by
  rw[Tryz.params3]
  intro t ht
  simp only[List.mem_cons,List.not_mem_nil,or_false]at ht
  rcases ht with rfl|rfl|rfl|rfl<;>exact⟨by kernel_rfl,of_decide_eq_true (by kernel_rfl)⟩) rfl hW' rfl Tryz.underlying4 rfl hb⟩
theorem transactionReceives_over:Rows.transactionReceivesRow.holds Tryz.pinned (OpenSpec.ofChange Rows.transactionReceivesSpec):=
 OpenClaim.holds_of_wide 3 Tryz.f3 rfl rfl rfl rfl rfl rfl rfl ⟨rfl,rfl,rfl,rfl,rfl⟩ rfl rfl rfl rfl rfl (by kernel_rfl) Tryz.func3 (by kernel_rfl)
  (of_decide_eq_true (by kernel_rfl)) (by unfold Func.isWrapper;first|(rw[if_pos (by decide+kernel)];kernel_rfl)|(rw[if_neg (by decide+kernel)];exact⟨rfl,rfl⟩))
  (fun os started H enc _=>transactionReceives_lifted os started H enc)
theorem transactionReceives_holds:Rows.TransactionReceivesSaid:=transactionReceives_over
#print axioms transactionReceives_holds
end Go.Proofs.YtggpaahhgchloaaGreat
