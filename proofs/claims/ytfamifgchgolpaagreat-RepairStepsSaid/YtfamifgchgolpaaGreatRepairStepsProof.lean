/- RepairSteps: for every input the law returns true, and each argument reads afterwards as before. No condition beyond the given row's. -/
import Derived.Test.YtfamifgchgolpaaGreatLwS
import Derived.Test.YtfamifgchgolpaaGreatOz
set_option maxRecDepth 100000
namespace Go.Proofs.YtfamifgchgolpaaGreat
open Go Go.ChangeShapes Go.WideShapes Go.ChangeAt Go.RowKit Tx
set_option linter.unusedVariables false in
theorem repairSteps_lifted(os:Os)(started:os.Started)(H:Type)(enc:TypeId×Value→H):
 ReturnsInHanded {} Tryz.checked os 6 .any (Rows.repairStepsSpec.pre6 enc Tryz.prog Tryz.f6 Rows.repairStepsRow.domain false) (Rows.repairStepsSpec.post enc Tryz.prog Tryz.f6 false true false false):=by
 refine returnsInHanded_of_change (C:=Tryz.checked) (show ownKnob Tryz.prog.godebug=none by kernel_rfl) started (by kernel_rfl) Tryz.func6
  (ChangeSpec.witness6 (enc:=enc) (C:=Tryz.checked) false ⟨#[],#[(.agg #[.int .i64 0,.int .i64 0,.int .i64 0,.slice none 0 0,.bool false,.int .i64 0,.int .i64 0,.bool false,.int .i64 0,.int .i64 0,.int .i64 0,.slice none 0 0,.slice none 0 0,.bool false,.int .i64 0,.bool false,.int .i64 0,.int .i64 0,.int .i64 0,.slice none 0 0,.slice none 0 0,.int .i64 0,.bool false,.int .i64 0,.int .i64 0,.int .i64 0,.slice none 0 0,.slice none 0 0,.int .i64 0,.int .i64 0,.int .i64 0,.slice none 0 0,.bool false,.int .i64 0,.int .i64 0,.bool false,.int .i64 0,.int .i64 0,.int .i64 0,.slice none 0 0,.slice none 0 0,.bool false,.int .i64 0,.bool false,.int .i64 0,.int .i64 0,.int .i64 0,.slice none 0 0,.slice none 0 0,.int .i64 0,.bool false,.int .i64 0,.int .i64 0,.int .i64 0,.slice none 0 0,.slice none 0 0,.int .i64 0,.int .i64 0,.slice none 0 0,.int .i64 0,.int .i64 0,.slice none 0 0,.slice none 0 0,.int .i64 0,.int .i64 0,.bool false,.bool false]),(.agg #[.bool false,.int .i64 0,.int .i64 0,.bool false,.bool false,.bool false,.bool false])],[]⟩ 8 (by kernel_rfl) (by kernel_rfl) (by kernel_rfl) (by kernel_rfl)) ?_
 intro W base args ds gs before hval0 hW hcnd _
 have hval:∀(j:Nat) t v,Tryz.f6.params[j]? =some t→args[j]? =some v→Value.okWide Tryz.prog W .any base t v:=hval0
 have hW':=hW
 obtain⟨p,q,hA0,hV,rfl,hfz,hnd⟩:=hW
 have hA:DataW.TrodAll enc Tryz.prog W 0 (fun _=>true) true Tryz.f6.params.toList args.toList ds p:=hA0
 rw[Tryz.params6]at hA hval
 obtain⟨v0,vs0,d0,ds0,p0,q0,hargs,rfl,rfl,h0,r0⟩:=trodAll_cons hA
 obtain⟨v1,vs1,d1,ds1,p1,q1,rfl,rfl,rfl,h1,r1⟩:=trodAll_cons r0
 obtain⟨rfl,rfl,rfl⟩:=trodAll_nil r1
 obtain rfl:args=#[v0,v1]:=by cases args;simp_all
 obtain⟨rfl,rfl⟩:=trodVars_none hV
 clear hA0 hval0 hcnd hA hfz hnd hV
 obtain⟨fu0,hf0⟩:=h0
 obtain⟨cs0,rfl⟩:=Frame.okWide_agg (hval 0 70 v0 rfl rfl) (.inl ⟨_,Tryz.underlying70⟩)
 replace hf0:DataW.trod enc Tryz.prog W 0 (fun _=>true) true fu0 70 cs0.toList=some (d0,p0):=hf0
 have len0:cs0.toList.length=67:=(Frame.trod_struct' Tryz.underlying70 hf0).1.trans (by kernel_rfl)
 obtain⟨c0_0,c0_1,c0_2,c0_3,c0_4,c0_5,c0_6,c0_7,c0_8,c0_9,c0_10,c0_11,c0_12,c0_13,c0_14,c0_15,c0_16,c0_17,c0_18,c0_19,c0_20,c0_21,c0_22,c0_23,c0_24,c0_25,c0_26,c0_27,c0_28,c0_29,c0_30,c0_31,c0_32,c0_33,c0_34,c0_35,c0_36,c0_37,c0_38,c0_39,c0_40,c0_41,c0_42,c0_43,c0_44,c0_45,c0_46,c0_47,c0_48,c0_49,c0_50,c0_51,c0_52,c0_53,c0_54,c0_55,c0_56,c0_57,c0_58,c0_59,c0_60,c0_61,c0_62,c0_63,c0_64,c0_65,c0_66,ecs0⟩:=Frame.list67 len0
 obtain rfl:cs0=#[c0_0,c0_1,c0_2,c0_3,c0_4,c0_5,c0_6,c0_7,c0_8,c0_9,c0_10,c0_11,c0_12,c0_13,c0_14,c0_15,c0_16,c0_17,c0_18,c0_19,c0_20,c0_21,c0_22,c0_23,c0_24,c0_25,c0_26,c0_27,c0_28,c0_29,c0_30,c0_31,c0_32,c0_33,c0_34,c0_35,c0_36,c0_37,c0_38,c0_39,c0_40,c0_41,c0_42,c0_43,c0_44,c0_45,c0_46,c0_47,c0_48,c0_49,c0_50,c0_51,c0_52,c0_53,c0_54,c0_55,c0_56,c0_57,c0_58,c0_59,c0_60,c0_61,c0_62,c0_63,c0_64,c0_65,c0_66]:=by rw[←Array.toArray_toList (xs:=cs0),ecs0]
 replace hf0:DataW.trod enc Tryz.prog W 0 (fun _=>true) true fu0 70 [c0_0,c0_1,c0_2,c0_3,c0_4,c0_5,c0_6,c0_7,c0_8,c0_9,c0_10,c0_11,c0_12,c0_13,c0_14,c0_15,c0_16,c0_17,c0_18,c0_19,c0_20,c0_21,c0_22,c0_23,c0_24,c0_25,c0_26,c0_27,c0_28,c0_29,c0_30,c0_31,c0_32,c0_33,c0_34,c0_35,c0_36,c0_37,c0_38,c0_39,c0_40,c0_41,c0_42,c0_43,c0_44,c0_45,c0_46,c0_47,c0_48,c0_49,c0_50,c0_51,c0_52,c0_53,c0_54,c0_55,c0_56,c0_57,c0_58,c0_59,c0_60,c0_61,c0_62,c0_63,c0_64,c0_65,c0_66]=some (d0,p0):=hf0
 obtain⟨hl1,hf2⟩:=Frame.trod_struct' Tryz.underlying70 hf0
 obtain⟨m3,y4,g5⟩:=hf2 0 _ rfl
 replace g5:DataW.trod enc Tryz.prog W 0 (fun _=>true) true m3 32 (([c0_0,c0_1,c0_2,c0_3,c0_4,c0_5,c0_6,c0_7,c0_8,c0_9,c0_10,c0_11,c0_12,c0_13,c0_14,c0_15,c0_16,c0_17,c0_18,c0_19,c0_20,c0_21,c0_22,c0_23,c0_24,c0_25,c0_26,c0_27,_,_,_,_,_,_,_,_,_,_,_,_,_,_,_,_,_,_,_,_,_,_,_,_,_,_,_,_,_,_,_,_,_,_,_,_,_,_,_].drop 0).take (Tryz.prog.cellsOf 32))=some y4:=g5
 rw[show Tryz.prog.cellsOf 32=28 from by kernel_rfl]at g5
 replace g5:DataW.trod enc Tryz.prog W 0 (fun _=>true) true m3 32 [c0_0,c0_1,c0_2,c0_3,c0_4,c0_5,c0_6,c0_7,c0_8,c0_9,c0_10,c0_11,c0_12,c0_13,c0_14,c0_15,c0_16,c0_17,c0_18,c0_19,c0_20,c0_21,c0_22,c0_23,c0_24,c0_25,c0_26,c0_27]=some y4:=g5
 obtain⟨hl6,hf7⟩:=Frame.trod_struct' Tryz.underlying32 g5
 obtain⟨m8,y9,g10⟩:=hf7 0 _ rfl
 obtain⟨n13,wf12,e11⟩:=Op.at_int Tryz.underlying3 (by kernel_rfl) g10
 obtain rfl:c0_0= .int .i64 n13:=Option.some.inj e11
 obtain⟨m14,y15,g16⟩:=hf7 1 _ rfl
 obtain⟨n19,wf18,e17⟩:=Op.at_int Tryz.underlying3 (by kernel_rfl) g16
 obtain rfl:c0_1= .int .i64 n19:=Option.some.inj e17
 obtain⟨m20,y21,g22⟩:=hf7 2 _ rfl
 obtain⟨n25,wf24,e23⟩:=Op.at_int Tryz.underlying3 (by kernel_rfl) g22
 obtain rfl:c0_2= .int .i64 n25:=Option.some.inj e23
 obtain⟨m26,y27,g28⟩:=hf7 3 _ rfl
 replace g28:DataW.trod enc Tryz.prog W 0 (fun _=>true) true m26 27 (([_,_,_,c0_3,_,_,_,_,_,_,_,_,_,_,_,_,_,_,_,_,_,_,_,_,_,_,_,_].drop 3).take (Tryz.prog.cellsOf 27))=some y27:=g28
 rw[show Tryz.prog.cellsOf 27=1 from by kernel_rfl]at g28
 replace g28:DataW.trod enc Tryz.prog W 0 (fun _=>true) true m26 27 [c0_3]=some y27:=g28
 obtain⟨A31,n32,c33,e29,_⟩:=Frame.trod_slice' Tryz.underlying27 g28
 obtain rfl:c0_3= .slice A31 n32 c33:=by injection e29
 obtain⟨xs34,wf30⟩:=open_tcls g28
 obtain⟨m35,y36,g37⟩:=hf7 4 _ rfl
 obtain⟨b40,e38⟩:=Op.at_bool Tryz.underlying4 (by kernel_rfl) g37
 obtain rfl:c0_4= .bool b40:=Option.some.inj e38
 obtain⟨m41,y42,g43⟩:=hf7 5 _ rfl
 obtain⟨n46,wf45,e44⟩:=Op.at_int Tryz.underlying3 (by kernel_rfl) g43
 obtain rfl:c0_5= .int .i64 n46:=Option.some.inj e44
 obtain⟨m47,y48,g49⟩:=hf7 6 _ rfl
 replace g49:DataW.trod enc Tryz.prog W 0 (fun _=>true) true m47 30 (([_,_,_,_,_,_,c0_6,c0_7,c0_8,c0_9,c0_10,c0_11,c0_12,_,_,_,_,_,_,_,_,_,_,_,_,_,_,_].drop 6).take (Tryz.prog.cellsOf 30))=some y48:=g49
 rw[show Tryz.prog.cellsOf 30=7 from by kernel_rfl]at g49
 replace g49:DataW.trod enc Tryz.prog W 0 (fun _=>true) true m47 30 [c0_6,c0_7,c0_8,c0_9,c0_10,c0_11,c0_12]=some y48:=g49
 obtain⟨hl50,hf51⟩:=Frame.trod_struct' Tryz.underlying30 g49
 obtain⟨m52,y53,g54⟩:=hf51 0 _ rfl
 obtain⟨n57,wf56,e55⟩:=Op.at_int Tryz.underlying3 (by kernel_rfl) g54
 obtain rfl:c0_6= .int .i64 n57:=Option.some.inj e55
 obtain⟨m58,y59,g60⟩:=hf51 1 _ rfl
 obtain⟨b63,e61⟩:=Op.at_bool Tryz.underlying4 (by kernel_rfl) g60
 obtain rfl:c0_7= .bool b63:=Option.some.inj e61
 obtain⟨m64,y65,g66⟩:=hf51 2 _ rfl
 obtain⟨n69,wf68,e67⟩:=Op.at_int Tryz.underlying3 (by kernel_rfl) g66
 obtain rfl:c0_8= .int .i64 n69:=Option.some.inj e67
 obtain⟨m70,y71,g72⟩:=hf51 3 _ rfl
 obtain⟨n75,wf74,e73⟩:=Op.at_int Tryz.underlying3 (by kernel_rfl) g72
 obtain rfl:c0_9= .int .i64 n75:=Option.some.inj e73
 obtain⟨m76,y77,g78⟩:=hf51 4 _ rfl
 obtain⟨n81,wf80,e79⟩:=Op.at_int Tryz.underlying3 (by kernel_rfl) g78
 obtain rfl:c0_10= .int .i64 n81:=Option.some.inj e79
 obtain⟨m82,y83,g84⟩:=hf51 5 _ rfl
 replace g84:DataW.trod enc Tryz.prog W 0 (fun _=>true) true m82 28 (([_,_,_,_,_,c0_11,_].drop 5).take (Tryz.prog.cellsOf 28))=some y83:=g84
 rw[show Tryz.prog.cellsOf 28=1 from by kernel_rfl]at g84
 replace g84:DataW.trod enc Tryz.prog W 0 (fun _=>true) true m82 28 [c0_11]=some y83:=g84
 obtain⟨A87,n88,c89,e85,_⟩:=Frame.trod_slice' Tryz.underlying28 g84
 obtain rfl:c0_11= .slice A87 n88 c89:=by injection e85
 obtain⟨xs90,wf86⟩:=open_spts g84
 obtain⟨m91,y92,g93⟩:=hf51 6 _ rfl
 replace g93:DataW.trod enc Tryz.prog W 0 (fun _=>true) true m91 28 (([_,_,_,_,_,_,c0_12].drop 6).take (Tryz.prog.cellsOf 28))=some y92:=g93
 rw[show Tryz.prog.cellsOf 28=1 from by kernel_rfl]at g93
 replace g93:DataW.trod enc Tryz.prog W 0 (fun _=>true) true m91 28 [c0_12]=some y92:=g93
 obtain⟨A96,n97,c98,e94,_⟩:=Frame.trod_slice' Tryz.underlying28 g93
 obtain rfl:c0_12= .slice A96 n97 c98:=by injection e94
 obtain⟨xs99,wf95⟩:=open_spts g93
 obtain⟨m100,y101,g102⟩:=hf7 7 _ rfl
 obtain⟨b105,e103⟩:=Op.at_bool Tryz.underlying4 (by kernel_rfl) g102
 obtain rfl:c0_13= .bool b105:=Option.some.inj e103
 obtain⟨m106,y107,g108⟩:=hf7 8 _ rfl
 replace g108:DataW.trod enc Tryz.prog W 0 (fun _=>true) true m106 30 (([_,_,_,_,_,_,_,_,_,_,_,_,_,_,c0_14,c0_15,c0_16,c0_17,c0_18,c0_19,c0_20,_,_,_,_,_,_,_].drop 14).take (Tryz.prog.cellsOf 30))=some y107:=g108
 rw[show Tryz.prog.cellsOf 30=7 from by kernel_rfl]at g108
 replace g108:DataW.trod enc Tryz.prog W 0 (fun _=>true) true m106 30 [c0_14,c0_15,c0_16,c0_17,c0_18,c0_19,c0_20]=some y107:=g108
 obtain⟨hl109,hf110⟩:=Frame.trod_struct' Tryz.underlying30 g108
 obtain⟨m111,y112,g113⟩:=hf110 0 _ rfl
 obtain⟨n116,wf115,e114⟩:=Op.at_int Tryz.underlying3 (by kernel_rfl) g113
 obtain rfl:c0_14= .int .i64 n116:=Option.some.inj e114
 obtain⟨m117,y118,g119⟩:=hf110 1 _ rfl
 obtain⟨b122,e120⟩:=Op.at_bool Tryz.underlying4 (by kernel_rfl) g119
 obtain rfl:c0_15= .bool b122:=Option.some.inj e120
 obtain⟨m123,y124,g125⟩:=hf110 2 _ rfl
 obtain⟨n128,wf127,e126⟩:=Op.at_int Tryz.underlying3 (by kernel_rfl) g125
 obtain rfl:c0_16= .int .i64 n128:=Option.some.inj e126
 obtain⟨m129,y130,g131⟩:=hf110 3 _ rfl
 obtain⟨n134,wf133,e132⟩:=Op.at_int Tryz.underlying3 (by kernel_rfl) g131
 obtain rfl:c0_17= .int .i64 n134:=Option.some.inj e132
 obtain⟨m135,y136,g137⟩:=hf110 4 _ rfl
 obtain⟨n140,wf139,e138⟩:=Op.at_int Tryz.underlying3 (by kernel_rfl) g137
 obtain rfl:c0_18= .int .i64 n140:=Option.some.inj e138
 obtain⟨m141,y142,g143⟩:=hf110 5 _ rfl
 replace g143:DataW.trod enc Tryz.prog W 0 (fun _=>true) true m141 28 (([_,_,_,_,_,c0_19,_].drop 5).take (Tryz.prog.cellsOf 28))=some y142:=g143
 rw[show Tryz.prog.cellsOf 28=1 from by kernel_rfl]at g143
 replace g143:DataW.trod enc Tryz.prog W 0 (fun _=>true) true m141 28 [c0_19]=some y142:=g143
 obtain⟨A146,n147,c148,e144,_⟩:=Frame.trod_slice' Tryz.underlying28 g143
 obtain rfl:c0_19= .slice A146 n147 c148:=by injection e144
 obtain⟨xs149,wf145⟩:=open_spts g143
 obtain⟨m150,y151,g152⟩:=hf110 6 _ rfl
 replace g152:DataW.trod enc Tryz.prog W 0 (fun _=>true) true m150 28 (([_,_,_,_,_,_,c0_20].drop 6).take (Tryz.prog.cellsOf 28))=some y151:=g152
 rw[show Tryz.prog.cellsOf 28=1 from by kernel_rfl]at g152
 replace g152:DataW.trod enc Tryz.prog W 0 (fun _=>true) true m150 28 [c0_20]=some y151:=g152
 obtain⟨A155,n156,c157,e153,_⟩:=Frame.trod_slice' Tryz.underlying28 g152
 obtain rfl:c0_20= .slice A155 n156 c157:=by injection e153
 obtain⟨xs158,wf154⟩:=open_spts g152
 obtain⟨m159,y160,g161⟩:=hf7 9 _ rfl
 replace g161:DataW.trod enc Tryz.prog W 0 (fun _=>true) true m159 30 (([_,_,_,_,_,_,_,_,_,_,_,_,_,_,_,_,_,_,_,_,_,c0_21,c0_22,c0_23,c0_24,c0_25,c0_26,c0_27].drop 21).take (Tryz.prog.cellsOf 30))=some y160:=g161
 rw[show Tryz.prog.cellsOf 30=7 from by kernel_rfl]at g161
 replace g161:DataW.trod enc Tryz.prog W 0 (fun _=>true) true m159 30 [c0_21,c0_22,c0_23,c0_24,c0_25,c0_26,c0_27]=some y160:=g161
 obtain⟨hl162,hf163⟩:=Frame.trod_struct' Tryz.underlying30 g161
 obtain⟨m164,y165,g166⟩:=hf163 0 _ rfl
 obtain⟨n169,wf168,e167⟩:=Op.at_int Tryz.underlying3 (by kernel_rfl) g166
 obtain rfl:c0_21= .int .i64 n169:=Option.some.inj e167
 obtain⟨m170,y171,g172⟩:=hf163 1 _ rfl
 obtain⟨b175,e173⟩:=Op.at_bool Tryz.underlying4 (by kernel_rfl) g172
 obtain rfl:c0_22= .bool b175:=Option.some.inj e173
 obtain⟨m176,y177,g178⟩:=hf163 2 _ rfl
 obtain⟨n181,wf180,e179⟩:=Op.at_int Tryz.underlying3 (by kernel_rfl) g178
 obtain rfl:c0_23= .int .i64 n181:=Option.some.inj e179
 obtain⟨m182,y183,g184⟩:=hf163 3 _ rfl
 obtain⟨n187,wf186,e185⟩:=Op.at_int Tryz.underlying3 (by kernel_rfl) g184
 obtain rfl:c0_24= .int .i64 n187:=Option.some.inj e185
 obtain⟨m188,y189,g190⟩:=hf163 4 _ rfl
 obtain⟨n193,wf192,e191⟩:=Op.at_int Tryz.underlying3 (by kernel_rfl) g190
 obtain rfl:c0_25= .int .i64 n193:=Option.some.inj e191
 obtain⟨m194,y195,g196⟩:=hf163 5 _ rfl
 replace g196:DataW.trod enc Tryz.prog W 0 (fun _=>true) true m194 28 (([_,_,_,_,_,c0_26,_].drop 5).take (Tryz.prog.cellsOf 28))=some y195:=g196
 rw[show Tryz.prog.cellsOf 28=1 from by kernel_rfl]at g196
 replace g196:DataW.trod enc Tryz.prog W 0 (fun _=>true) true m194 28 [c0_26]=some y195:=g196
 obtain⟨A199,n200,c201,e197,_⟩:=Frame.trod_slice' Tryz.underlying28 g196
 obtain rfl:c0_26= .slice A199 n200 c201:=by injection e197
 obtain⟨xs202,wf198⟩:=open_spts g196
 obtain⟨m203,y204,g205⟩:=hf163 6 _ rfl
 replace g205:DataW.trod enc Tryz.prog W 0 (fun _=>true) true m203 28 (([_,_,_,_,_,_,c0_27].drop 6).take (Tryz.prog.cellsOf 28))=some y204:=g205
 rw[show Tryz.prog.cellsOf 28=1 from by kernel_rfl]at g205
 replace g205:DataW.trod enc Tryz.prog W 0 (fun _=>true) true m203 28 [c0_27]=some y204:=g205
 obtain⟨A208,n209,c210,e206,_⟩:=Frame.trod_slice' Tryz.underlying28 g205
 obtain rfl:c0_27= .slice A208 n209 c210:=by injection e206
 obtain⟨xs211,wf207⟩:=open_spts g205
 obtain⟨m212,y213,g214⟩:=hf2 1 _ rfl
 replace g214:DataW.trod enc Tryz.prog W 0 (fun _=>true) true m212 32 (([_,_,_,_,_,_,_,_,_,_,_,_,_,_,_,_,_,_,_,_,_,_,_,_,_,_,_,_,c0_28,c0_29,c0_30,c0_31,c0_32,c0_33,c0_34,c0_35,c0_36,c0_37,c0_38,c0_39,c0_40,c0_41,c0_42,c0_43,c0_44,c0_45,c0_46,c0_47,c0_48,c0_49,c0_50,c0_51,c0_52,c0_53,c0_54,c0_55,_,_,_,_,_,_,_,_,_,_,_].drop 28).take (Tryz.prog.cellsOf 32))=some y213:=g214
 rw[show Tryz.prog.cellsOf 32=28 from by kernel_rfl]at g214
 replace g214:DataW.trod enc Tryz.prog W 0 (fun _=>true) true m212 32 [c0_28,c0_29,c0_30,c0_31,c0_32,c0_33,c0_34,c0_35,c0_36,c0_37,c0_38,c0_39,c0_40,c0_41,c0_42,c0_43,c0_44,c0_45,c0_46,c0_47,c0_48,c0_49,c0_50,c0_51,c0_52,c0_53,c0_54,c0_55]=some y213:=g214
 obtain⟨hl215,hf216⟩:=Frame.trod_struct' Tryz.underlying32 g214
 obtain⟨m217,y218,g219⟩:=hf216 0 _ rfl
 obtain⟨n222,wf221,e220⟩:=Op.at_int Tryz.underlying3 (by kernel_rfl) g219
 obtain rfl:c0_28= .int .i64 n222:=Option.some.inj e220
 obtain⟨m223,y224,g225⟩:=hf216 1 _ rfl
 obtain⟨n228,wf227,e226⟩:=Op.at_int Tryz.underlying3 (by kernel_rfl) g225
 obtain rfl:c0_29= .int .i64 n228:=Option.some.inj e226
 obtain⟨m229,y230,g231⟩:=hf216 2 _ rfl
 obtain⟨n234,wf233,e232⟩:=Op.at_int Tryz.underlying3 (by kernel_rfl) g231
 obtain rfl:c0_30= .int .i64 n234:=Option.some.inj e232
 obtain⟨m235,y236,g237⟩:=hf216 3 _ rfl
 replace g237:DataW.trod enc Tryz.prog W 0 (fun _=>true) true m235 27 (([_,_,_,c0_31,_,_,_,_,_,_,_,_,_,_,_,_,_,_,_,_,_,_,_,_,_,_,_,_].drop 3).take (Tryz.prog.cellsOf 27))=some y236:=g237
 rw[show Tryz.prog.cellsOf 27=1 from by kernel_rfl]at g237
 replace g237:DataW.trod enc Tryz.prog W 0 (fun _=>true) true m235 27 [c0_31]=some y236:=g237
 obtain⟨A240,n241,c242,e238,_⟩:=Frame.trod_slice' Tryz.underlying27 g237
 obtain rfl:c0_31= .slice A240 n241 c242:=by injection e238
 obtain⟨xs243,wf239⟩:=open_tcls g237
 obtain⟨m244,y245,g246⟩:=hf216 4 _ rfl
 obtain⟨b249,e247⟩:=Op.at_bool Tryz.underlying4 (by kernel_rfl) g246
 obtain rfl:c0_32= .bool b249:=Option.some.inj e247
 obtain⟨m250,y251,g252⟩:=hf216 5 _ rfl
 obtain⟨n255,wf254,e253⟩:=Op.at_int Tryz.underlying3 (by kernel_rfl) g252
 obtain rfl:c0_33= .int .i64 n255:=Option.some.inj e253
 obtain⟨m256,y257,g258⟩:=hf216 6 _ rfl
 replace g258:DataW.trod enc Tryz.prog W 0 (fun _=>true) true m256 30 (([_,_,_,_,_,_,c0_34,c0_35,c0_36,c0_37,c0_38,c0_39,c0_40,_,_,_,_,_,_,_,_,_,_,_,_,_,_,_].drop 6).take (Tryz.prog.cellsOf 30))=some y257:=g258
 rw[show Tryz.prog.cellsOf 30=7 from by kernel_rfl]at g258
 replace g258:DataW.trod enc Tryz.prog W 0 (fun _=>true) true m256 30 [c0_34,c0_35,c0_36,c0_37,c0_38,c0_39,c0_40]=some y257:=g258
 obtain⟨hl259,hf260⟩:=Frame.trod_struct' Tryz.underlying30 g258
 obtain⟨m261,y262,g263⟩:=hf260 0 _ rfl
 obtain⟨n266,wf265,e264⟩:=Op.at_int Tryz.underlying3 (by kernel_rfl) g263
 obtain rfl:c0_34= .int .i64 n266:=Option.some.inj e264
 obtain⟨m267,y268,g269⟩:=hf260 1 _ rfl
 obtain⟨b272,e270⟩:=Op.at_bool Tryz.underlying4 (by kernel_rfl) g269
 obtain rfl:c0_35= .bool b272:=Option.some.inj e270
 obtain⟨m273,y274,g275⟩:=hf260 2 _ rfl
 obtain⟨n278,wf277,e276⟩:=Op.at_int Tryz.underlying3 (by kernel_rfl) g275
 obtain rfl:c0_36= .int .i64 n278:=Option.some.inj e276
 obtain⟨m279,y280,g281⟩:=hf260 3 _ rfl
 obtain⟨n284,wf283,e282⟩:=Op.at_int Tryz.underlying3 (by kernel_rfl) g281
 obtain rfl:c0_37= .int .i64 n284:=Option.some.inj e282
 obtain⟨m285,y286,g287⟩:=hf260 4 _ rfl
 obtain⟨n290,wf289,e288⟩:=Op.at_int Tryz.underlying3 (by kernel_rfl) g287
 obtain rfl:c0_38= .int .i64 n290:=Option.some.inj e288
 obtain⟨m291,y292,g293⟩:=hf260 5 _ rfl
 replace g293:DataW.trod enc Tryz.prog W 0 (fun _=>true) true m291 28 (([_,_,_,_,_,c0_39,_].drop 5).take (Tryz.prog.cellsOf 28))=some y292:=g293
 rw[show Tryz.prog.cellsOf 28=1 from by kernel_rfl]at g293
 replace g293:DataW.trod enc Tryz.prog W 0 (fun _=>true) true m291 28 [c0_39]=some y292:=g293
 obtain⟨A296,n297,c298,e294,_⟩:=Frame.trod_slice' Tryz.underlying28 g293
 obtain rfl:c0_39= .slice A296 n297 c298:=by injection e294
 obtain⟨xs299,wf295⟩:=open_spts g293
 obtain⟨m300,y301,g302⟩:=hf260 6 _ rfl
 replace g302:DataW.trod enc Tryz.prog W 0 (fun _=>true) true m300 28 (([_,_,_,_,_,_,c0_40].drop 6).take (Tryz.prog.cellsOf 28))=some y301:=g302
 rw[show Tryz.prog.cellsOf 28=1 from by kernel_rfl]at g302
 replace g302:DataW.trod enc Tryz.prog W 0 (fun _=>true) true m300 28 [c0_40]=some y301:=g302
 obtain⟨A305,n306,c307,e303,_⟩:=Frame.trod_slice' Tryz.underlying28 g302
 obtain rfl:c0_40= .slice A305 n306 c307:=by injection e303
 obtain⟨xs308,wf304⟩:=open_spts g302
 obtain⟨m309,y310,g311⟩:=hf216 7 _ rfl
 obtain⟨b314,e312⟩:=Op.at_bool Tryz.underlying4 (by kernel_rfl) g311
 obtain rfl:c0_41= .bool b314:=Option.some.inj e312
 obtain⟨m315,y316,g317⟩:=hf216 8 _ rfl
 replace g317:DataW.trod enc Tryz.prog W 0 (fun _=>true) true m315 30 (([_,_,_,_,_,_,_,_,_,_,_,_,_,_,c0_42,c0_43,c0_44,c0_45,c0_46,c0_47,c0_48,_,_,_,_,_,_,_].drop 14).take (Tryz.prog.cellsOf 30))=some y316:=g317
 rw[show Tryz.prog.cellsOf 30=7 from by kernel_rfl]at g317
 replace g317:DataW.trod enc Tryz.prog W 0 (fun _=>true) true m315 30 [c0_42,c0_43,c0_44,c0_45,c0_46,c0_47,c0_48]=some y316:=g317
 obtain⟨hl318,hf319⟩:=Frame.trod_struct' Tryz.underlying30 g317
 obtain⟨m320,y321,g322⟩:=hf319 0 _ rfl
 obtain⟨n325,wf324,e323⟩:=Op.at_int Tryz.underlying3 (by kernel_rfl) g322
 obtain rfl:c0_42= .int .i64 n325:=Option.some.inj e323
 obtain⟨m326,y327,g328⟩:=hf319 1 _ rfl
 obtain⟨b331,e329⟩:=Op.at_bool Tryz.underlying4 (by kernel_rfl) g328
 obtain rfl:c0_43= .bool b331:=Option.some.inj e329
 obtain⟨m332,y333,g334⟩:=hf319 2 _ rfl
 obtain⟨n337,wf336,e335⟩:=Op.at_int Tryz.underlying3 (by kernel_rfl) g334
 obtain rfl:c0_44= .int .i64 n337:=Option.some.inj e335
 obtain⟨m338,y339,g340⟩:=hf319 3 _ rfl
 obtain⟨n343,wf342,e341⟩:=Op.at_int Tryz.underlying3 (by kernel_rfl) g340
 obtain rfl:c0_45= .int .i64 n343:=Option.some.inj e341
 obtain⟨m344,y345,g346⟩:=hf319 4 _ rfl
 obtain⟨n349,wf348,e347⟩:=Op.at_int Tryz.underlying3 (by kernel_rfl) g346
 obtain rfl:c0_46= .int .i64 n349:=Option.some.inj e347
 obtain⟨m350,y351,g352⟩:=hf319 5 _ rfl
 replace g352:DataW.trod enc Tryz.prog W 0 (fun _=>true) true m350 28 (([_,_,_,_,_,c0_47,_].drop 5).take (Tryz.prog.cellsOf 28))=some y351:=g352
 rw[show Tryz.prog.cellsOf 28=1 from by kernel_rfl]at g352
 replace g352:DataW.trod enc Tryz.prog W 0 (fun _=>true) true m350 28 [c0_47]=some y351:=g352
 obtain⟨A355,n356,c357,e353,_⟩:=Frame.trod_slice' Tryz.underlying28 g352
 obtain rfl:c0_47= .slice A355 n356 c357:=by injection e353
 obtain⟨xs358,wf354⟩:=open_spts g352
 obtain⟨m359,y360,g361⟩:=hf319 6 _ rfl
 replace g361:DataW.trod enc Tryz.prog W 0 (fun _=>true) true m359 28 (([_,_,_,_,_,_,c0_48].drop 6).take (Tryz.prog.cellsOf 28))=some y360:=g361
 rw[show Tryz.prog.cellsOf 28=1 from by kernel_rfl]at g361
 replace g361:DataW.trod enc Tryz.prog W 0 (fun _=>true) true m359 28 [c0_48]=some y360:=g361
 obtain⟨A364,n365,c366,e362,_⟩:=Frame.trod_slice' Tryz.underlying28 g361
 obtain rfl:c0_48= .slice A364 n365 c366:=by injection e362
 obtain⟨xs367,wf363⟩:=open_spts g361
 obtain⟨m368,y369,g370⟩:=hf216 9 _ rfl
 replace g370:DataW.trod enc Tryz.prog W 0 (fun _=>true) true m368 30 (([_,_,_,_,_,_,_,_,_,_,_,_,_,_,_,_,_,_,_,_,_,c0_49,c0_50,c0_51,c0_52,c0_53,c0_54,c0_55].drop 21).take (Tryz.prog.cellsOf 30))=some y369:=g370
 rw[show Tryz.prog.cellsOf 30=7 from by kernel_rfl]at g370
 replace g370:DataW.trod enc Tryz.prog W 0 (fun _=>true) true m368 30 [c0_49,c0_50,c0_51,c0_52,c0_53,c0_54,c0_55]=some y369:=g370
 obtain⟨hl371,hf372⟩:=Frame.trod_struct' Tryz.underlying30 g370
 obtain⟨m373,y374,g375⟩:=hf372 0 _ rfl
 obtain⟨n378,wf377,e376⟩:=Op.at_int Tryz.underlying3 (by kernel_rfl) g375
 obtain rfl:c0_49= .int .i64 n378:=Option.some.inj e376
 obtain⟨m379,y380,g381⟩:=hf372 1 _ rfl
 obtain⟨b384,e382⟩:=Op.at_bool Tryz.underlying4 (by kernel_rfl) g381
 obtain rfl:c0_50= .bool b384:=Option.some.inj e382
 obtain⟨m385,y386,g387⟩:=hf372 2 _ rfl
 obtain⟨n390,wf389,e388⟩:=Op.at_int Tryz.underlying3 (by kernel_rfl) g387
 obtain rfl:c0_51= .int .i64 n390:=Option.some.inj e388
 obtain⟨m391,y392,g393⟩:=hf372 3 _ rfl
 obtain⟨n396,wf395,e394⟩:=Op.at_int Tryz.underlying3 (by kernel_rfl) g393
 obtain rfl:c0_52= .int .i64 n396:=Option.some.inj e394
 obtain⟨m397,y398,g399⟩:=hf372 4 _ rfl
 obtain⟨n402,wf401,e400⟩:=Op.at_int Tryz.underlying3 (by kernel_rfl) g399
 obtain rfl:c0_53= .int .i64 n402:=Option.some.inj e400
 obtain⟨m403,y404,g405⟩:=hf372 5 _ rfl
 replace g405:DataW.trod enc Tryz.prog W 0 (fun _=>true) true m403 28 (([_,_,_,_,_,c0_54,_].drop 5).take (Tryz.prog.cellsOf 28))=some y404:=g405
 rw[show Tryz.prog.cellsOf 28=1 from by kernel_rfl]at g405
 replace g405:DataW.trod enc Tryz.prog W 0 (fun _=>true) true m403 28 [c0_54]=some y404:=g405
 obtain⟨A408,n409,c410,e406,_⟩:=Frame.trod_slice' Tryz.underlying28 g405
 obtain rfl:c0_54= .slice A408 n409 c410:=by injection e406
 obtain⟨xs411,wf407⟩:=open_spts g405
 obtain⟨m412,y413,g414⟩:=hf372 6 _ rfl
 replace g414:DataW.trod enc Tryz.prog W 0 (fun _=>true) true m412 28 (([_,_,_,_,_,_,c0_55].drop 6).take (Tryz.prog.cellsOf 28))=some y413:=g414
 rw[show Tryz.prog.cellsOf 28=1 from by kernel_rfl]at g414
 replace g414:DataW.trod enc Tryz.prog W 0 (fun _=>true) true m412 28 [c0_55]=some y413:=g414
 obtain⟨A417,n418,c419,e415,_⟩:=Frame.trod_slice' Tryz.underlying28 g414
 obtain rfl:c0_55= .slice A417 n418 c419:=by injection e415
 obtain⟨xs420,wf416⟩:=open_spts g414
 obtain⟨m421,y422,g423⟩:=hf2 2 _ rfl
 replace g423:DataW.trod enc Tryz.prog W 0 (fun _=>true) true m421 37 (([_,_,_,_,_,_,_,_,_,_,_,_,_,_,_,_,_,_,_,_,_,_,_,_,_,_,_,_,_,_,_,_,_,_,_,_,_,_,_,_,_,_,_,_,_,_,_,_,_,_,_,_,_,_,_,_,c0_56,c0_57,c0_58,_,_,_,_,_,_,_,_].drop 56).take (Tryz.prog.cellsOf 37))=some y422:=g423
 rw[show Tryz.prog.cellsOf 37=3 from by kernel_rfl]at g423
 replace g423:DataW.trod enc Tryz.prog W 0 (fun _=>true) true m421 37 [c0_56,c0_57,c0_58]=some y422:=g423
 obtain⟨hl424,hf425⟩:=Frame.trod_struct' Tryz.underlying37 g423
 obtain⟨m426,y427,g428⟩:=hf425 0 _ rfl
 obtain⟨n431,wf430,e429⟩:=Op.at_int Tryz.underlying3 (by kernel_rfl) g428
 obtain rfl:c0_56= .int .i64 n431:=Option.some.inj e429
 obtain⟨m432,y433,g434⟩:=hf425 1 _ rfl
 obtain⟨n437,wf436,e435⟩:=Op.at_int Tryz.underlying3 (by kernel_rfl) g434
 obtain rfl:c0_57= .int .i64 n437:=Option.some.inj e435
 obtain⟨m438,y439,g440⟩:=hf425 2 _ rfl
 replace g440:DataW.trod enc Tryz.prog W 0 (fun _=>true) true m438 27 (([_,_,c0_58].drop 2).take (Tryz.prog.cellsOf 27))=some y439:=g440
 rw[show Tryz.prog.cellsOf 27=1 from by kernel_rfl]at g440
 replace g440:DataW.trod enc Tryz.prog W 0 (fun _=>true) true m438 27 [c0_58]=some y439:=g440
 obtain⟨A443,n444,c445,e441,_⟩:=Frame.trod_slice' Tryz.underlying27 g440
 obtain rfl:c0_58= .slice A443 n444 c445:=by injection e441
 obtain⟨xs446,wf442⟩:=open_tcls g440
 obtain⟨m447,y448,g449⟩:=hf2 3 _ rfl
 replace g449:DataW.trod enc Tryz.prog W 0 (fun _=>true) true m447 37 (([_,_,_,_,_,_,_,_,_,_,_,_,_,_,_,_,_,_,_,_,_,_,_,_,_,_,_,_,_,_,_,_,_,_,_,_,_,_,_,_,_,_,_,_,_,_,_,_,_,_,_,_,_,_,_,_,_,_,_,c0_59,c0_60,c0_61,_,_,_,_,_].drop 59).take (Tryz.prog.cellsOf 37))=some y448:=g449
 rw[show Tryz.prog.cellsOf 37=3 from by kernel_rfl]at g449
 replace g449:DataW.trod enc Tryz.prog W 0 (fun _=>true) true m447 37 [c0_59,c0_60,c0_61]=some y448:=g449
 obtain⟨hl450,hf451⟩:=Frame.trod_struct' Tryz.underlying37 g449
 obtain⟨m452,y453,g454⟩:=hf451 0 _ rfl
 obtain⟨n457,wf456,e455⟩:=Op.at_int Tryz.underlying3 (by kernel_rfl) g454
 obtain rfl:c0_59= .int .i64 n457:=Option.some.inj e455
 obtain⟨m458,y459,g460⟩:=hf451 1 _ rfl
 obtain⟨n463,wf462,e461⟩:=Op.at_int Tryz.underlying3 (by kernel_rfl) g460
 obtain rfl:c0_60= .int .i64 n463:=Option.some.inj e461
 obtain⟨m464,y465,g466⟩:=hf451 2 _ rfl
 replace g466:DataW.trod enc Tryz.prog W 0 (fun _=>true) true m464 27 (([_,_,c0_61].drop 2).take (Tryz.prog.cellsOf 27))=some y465:=g466
 rw[show Tryz.prog.cellsOf 27=1 from by kernel_rfl]at g466
 replace g466:DataW.trod enc Tryz.prog W 0 (fun _=>true) true m464 27 [c0_61]=some y465:=g466
 obtain⟨A469,n470,c471,e467,_⟩:=Frame.trod_slice' Tryz.underlying27 g466
 obtain rfl:c0_61= .slice A469 n470 c471:=by injection e467
 obtain⟨xs472,wf468⟩:=open_tcls g466
 obtain⟨m473,y474,g475⟩:=hf2 4 _ rfl
 replace g475:DataW.trod enc Tryz.prog W 0 (fun _=>true) true m473 24 (([_,_,_,_,_,_,_,_,_,_,_,_,_,_,_,_,_,_,_,_,_,_,_,_,_,_,_,_,_,_,_,_,_,_,_,_,_,_,_,_,_,_,_,_,_,_,_,_,_,_,_,_,_,_,_,_,_,_,_,_,_,_,c0_62,_,_,_,_].drop 62).take (Tryz.prog.cellsOf 24))=some y474:=g475
 rw[show Tryz.prog.cellsOf 24=1 from by kernel_rfl]at g475
 replace g475:DataW.trod enc Tryz.prog W 0 (fun _=>true) true m473 24 [c0_62]=some y474:=g475
 obtain⟨A478,n479,c480,e476,_⟩:=Frame.trod_slice' Tryz.underlying24 g475
 obtain rfl:c0_62= .slice A478 n479 c480:=by injection e476
 obtain⟨xs481,wf477⟩:=open_ints g475
 obtain⟨m482,y483,g484⟩:=hf2 5 _ rfl
 obtain⟨n487,wf486,e485⟩:=Op.at_int Tryz.underlying3 (by kernel_rfl) g484
 obtain rfl:c0_63= .int .i64 n487:=Option.some.inj e485
 obtain⟨m488,y489,g490⟩:=hf2 6 _ rfl
 obtain⟨n493,wf492,e491⟩:=Op.at_int Tryz.underlying3 (by kernel_rfl) g490
 obtain rfl:c0_64= .int .i64 n493:=Option.some.inj e491
 obtain⟨m494,y495,g496⟩:=hf2 7 _ rfl
 obtain⟨b499,e497⟩:=Op.at_bool Tryz.underlying4 (by kernel_rfl) g496
 obtain rfl:c0_65= .bool b499:=Option.some.inj e497
 obtain⟨m500,y501,g502⟩:=hf2 8 _ rfl
 obtain⟨b505,e503⟩:=Op.at_bool Tryz.underlying4 (by kernel_rfl) g502
 obtain rfl:c0_66= .bool b505:=Option.some.inj e503
 obtain⟨fu1,hf1⟩:=h1
 obtain⟨cs1,rfl⟩:=Frame.okWide_agg (hval 1 42 v1 rfl rfl) (.inl ⟨_,Tryz.underlying42⟩)
 replace hf1:DataW.trod enc Tryz.prog W 0 (fun _=>true) true fu1 42 cs1.toList=some (d1,p1):=hf1
 have len1:cs1.toList.length=7:=(Frame.trod_struct' Tryz.underlying42 hf1).1.trans (by kernel_rfl)
 obtain⟨c1_0,c1_1,c1_2,c1_3,c1_4,c1_5,c1_6,ecs1⟩:=Frame.list7 len1
 obtain rfl:cs1=#[c1_0,c1_1,c1_2,c1_3,c1_4,c1_5,c1_6]:=by rw[←Array.toArray_toList (xs:=cs1),ecs1]
 replace hf1:DataW.trod enc Tryz.prog W 0 (fun _=>true) true fu1 42 [c1_0,c1_1,c1_2,c1_3,c1_4,c1_5,c1_6]=some (d1,p1):=hf1
 obtain⟨hl506,hf507⟩:=Frame.trod_struct' Tryz.underlying42 hf1
 obtain⟨m508,y509,g510⟩:=hf507 0 _ rfl
 obtain⟨b513,e511⟩:=Op.at_bool Tryz.underlying4 (by kernel_rfl) g510
 obtain rfl:c1_0= .bool b513:=Option.some.inj e511
 obtain⟨m514,y515,g516⟩:=hf507 1 _ rfl
 obtain⟨n519,wf518,e517⟩:=Op.at_int Tryz.underlying3 (by kernel_rfl) g516
 obtain rfl:c1_1= .int .i64 n519:=Option.some.inj e517
 obtain⟨m520,y521,g522⟩:=hf507 2 _ rfl
 obtain⟨n525,wf524,e523⟩:=Op.at_int Tryz.underlying3 (by kernel_rfl) g522
 obtain rfl:c1_2= .int .i64 n525:=Option.some.inj e523
 obtain⟨m526,y527,g528⟩:=hf507 3 _ rfl
 replace g528:DataW.trod enc Tryz.prog W 0 (fun _=>true) true m526 40 (([_,_,_,c1_3,c1_4,c1_5,c1_6].drop 3).take (Tryz.prog.cellsOf 40))=some y527:=g528
 rw[show Tryz.prog.cellsOf 40=4 from by kernel_rfl]at g528
 replace g528:DataW.trod enc Tryz.prog W 0 (fun _=>true) true m526 40 [c1_3,c1_4,c1_5,c1_6]=some y527:=g528
 obtain⟨hl529,hf530⟩:=Frame.trod_struct' Tryz.underlying40 g528
 obtain⟨m531,y532,g533⟩:=hf530 0 _ rfl
 obtain⟨b536,e534⟩:=Op.at_bool Tryz.underlying4 (by kernel_rfl) g533
 obtain rfl:c1_3= .bool b536:=Option.some.inj e534
 obtain⟨m537,y538,g539⟩:=hf530 1 _ rfl
 obtain⟨b542,e540⟩:=Op.at_bool Tryz.underlying4 (by kernel_rfl) g539
 obtain rfl:c1_4= .bool b542:=Option.some.inj e540
 obtain⟨m543,y544,g545⟩:=hf530 2 _ rfl
 obtain⟨b548,e546⟩:=Op.at_bool Tryz.underlying4 (by kernel_rfl) g545
 obtain rfl:c1_5= .bool b548:=Option.some.inj e546
 obtain⟨m549,y550,g551⟩:=hf530 3 _ rfl
 obtain⟨b554,e552⟩:=Op.at_bool Tryz.underlying4 (by kernel_rfl) g551
 obtain rfl:c1_6= .bool b554:=Option.some.inj e552
 refine(repairSteps_walk n13 n19 n25 A31 n32 c33 xs34 b40 n46 n57 b63 n69 n75 n81 A87 n88 c89 xs90 A96 n97 c98 xs99 b105 n116 b122 n128 n134 n140 A146 n147 c148 xs149 A155 n156 c157 xs158 n169 b175 n181 n187 n193 A199 n200 c201 xs202 A208 n209 c210 xs211 n222 n228 n234 A240 n241 c242 xs243 b249 n255 n266 b272 n278 n284 n290 A296 n297 c298 xs299 A305 n306 c307 xs308 b314 n325 b331 n337 n343 n349 A355 n356 c357 xs358 A364 n365 c366 xs367 n378 b384 n390 n396 n402 A408 n409 c410 xs411 A417 n418 c419 xs420 n431 n437 A443 n444 c445 xs446 n457 n463 A469 n470 c471 xs472 A478 n479 c480 xs481 n487 n493 b499 b505 b513 n519 n525 b536 b542 b548 b554 W wf12 wf18 wf24 wf30 wf45 wf56 wf68 wf74 wf80 wf86 wf95 wf115 wf127 wf133 wf139 wf145 wf154 wf168 wf180 wf186 wf192 wf198 wf207 wf221 wf227 wf233 wf239 wf254 wf265 wf277 wf283 wf289 wf295 wf304 wf324 wf336 wf342 wf348 wf354 wf363 wf377 wf389 wf395 wf401 wf407 wf416 wf430 wf436 wf442 wf456 wf462 wf468 wf477 wf486 wf492 wf518 wf524).mono fun e W' ⟨he,hb⟩=> ?_
 subst he
 exact⟨_,rfl,Frame.law_post (tb:=4) (by kernel_rfl) (by
  rw[Tryz.params6]
  intro t ht
  simp only[List.mem_cons,List.not_mem_nil,or_false]at ht
  rcases ht with rfl|rfl<;>exact⟨by kernel_rfl,of_decide_eq_true (by kernel_rfl)⟩) rfl hW' rfl Tryz.underlying4 rfl hb⟩
theorem repairSteps_over:Rows.repairStepsRow.holds Tryz.pinned (OpenSpec.ofChange Rows.repairStepsSpec):=
 OpenClaim.holds_of_wide 6 Tryz.f6 rfl rfl rfl rfl rfl rfl rfl ⟨rfl,rfl,rfl,rfl,rfl⟩ rfl rfl rfl rfl rfl (by kernel_rfl) Tryz.func6 (by kernel_rfl)
  (of_decide_eq_true (by kernel_rfl)) (by unfold Func.isWrapper;first|(rw[if_pos (by decide+kernel)];kernel_rfl)|(rw[if_neg (by decide+kernel)];exact⟨rfl,rfl⟩))
  (fun os started H enc _=>repairSteps_lifted os started H enc)
theorem repairSteps_holds:Rows.RepairStepsSaid:=repairSteps_over
#print axioms repairSteps_holds
end Go.Proofs.YtfamifgchgolpaaGreat
