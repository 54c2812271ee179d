/- RepairNothingLost: for every input the law returns true, and each argument reads afterwards as before. No condition beyond the given row's. -/
import Derived.Test.YtggpaahhgchloaaGreatWn
import Derived.Test.YtggpaahhgchloaaGreatOz
import Derived.Test.YtggpaahhgchloaaGreatFrame
import Derived.SizedLaws
set_option maxRecDepth 100000
namespace Go.Proofs.YtggpaahhgchloaaGreat
open Go Go.ChangeShapes Go.WideShapes Go.ChangeAt Go.RowKit Tx
set_option linter.unusedVariables false in
theorem repairNothingLost_lifted(os:Os)(started:os.Started)(H:Type)(enc:TypeId×Value→H):
 ReturnsInHanded {} Tryz.checked os 10 .any (Rows.repairNothingLostSpec.pre6 enc Tryz.prog Tryz.f10 Rows.repairNothingLostRow.domain false) (Rows.repairNothingLostSpec.post enc Tryz.prog Tryz.f10 false true false false):=by
 refine returnsInHanded_of_change_sized (C:=Tryz.checked) (show ownKnob Tryz.prog.godebug=none by kernel_rfl) started (by kernel_rfl) Tryz.func10
  (ChangeSpec.witness6 (enc:=enc) (C:=Tryz.checked) false ⟨#[],#[(.agg #[.int .i64 0,.int .i64 0,.slice none 0 0]),(.agg #[.int .i64 0,.int .i64 0,.slice none 0 0]),.slice none 0 0,.int .u8 0,.slice none 0 0],[]⟩ 8 (by kernel_rfl) (by kernel_rfl) (by kernel_rfl) (by kernel_rfl)) ?_
 intro W base args ds gs before hval0 hW hcnd hsz _
 have hval:∀(j:Nat) t v,Tryz.f10.params[j]? =some t→args[j]? =some v→Value.okWide Tryz.prog W .any base t v:=hval0
 have hW':=hW
 obtain⟨p,q,hA0,hV,rfl,hfz,hnd⟩:=hW
 have hA:DataW.TrodAll enc Tryz.prog W 0 (fun _=>true) true Tryz.f10.params.toList args.toList ds p:=hA0
 rw[Tryz.params10]at hA hval hsz
 obtain⟨v0,vs0,d0,ds0,p0,q0,hargs,rfl,rfl,h0,r0⟩:=trodAll_cons hA
 obtain⟨v1,vs1,d1,ds1,p1,q1,rfl,rfl,rfl,h1,r1⟩:=trodAll_cons r0
 obtain⟨v2,vs2,d2,ds2,p2,q2,rfl,rfl,rfl,h2,r2⟩:=trodAll_cons r1
 obtain⟨v3,vs3,d3,ds3,p3,q3,rfl,rfl,rfl,h3,r3⟩:=trodAll_cons r2
 obtain⟨v4,vs4,d4,ds4,p4,q4,rfl,rfl,rfl,h4,r4⟩:=trodAll_cons r3
 obtain⟨rfl,rfl,rfl⟩:=trodAll_nil r4
 obtain rfl:args=#[v0,v1,v2,v3,v4]:=by cases args;simp_all
 obtain⟨rfl,rfl⟩:=trodVars_none hV
 clear hA0 hval0 hcnd hA hfz hnd hV
 obtain⟨fu0,hf0⟩:=h0
 obtain⟨cs0,rfl⟩:=Frame.okWide_agg (hval 0 29 v0 rfl rfl) (.inl ⟨_,Tryz.underlying29⟩)
 replace hf0:DataW.trod enc Tryz.prog W 0 (fun _=>true) true fu0 29 cs0.toList=some (d0,p0):=hf0
 have len0:cs0.toList.length=3:=(Frame.trod_struct' Tryz.underlying29 hf0).1.trans (by kernel_rfl)
 obtain⟨c0_0,c0_1,c0_2,ecs0⟩:=Frame.list3 len0
 obtain rfl:cs0=#[c0_0,c0_1,c0_2]:=by rw[←Array.toArray_toList (xs:=cs0),ecs0]
 replace hf0:DataW.trod enc Tryz.prog W 0 (fun _=>true) true fu0 29 [c0_0,c0_1,c0_2]=some (d0,p0):=hf0
 obtain⟨hl1,hf2⟩:=Frame.trod_struct' Tryz.underlying29 hf0
 obtain⟨m3,y4,g5⟩:=hf2 0 _ rfl
 obtain⟨n8,wf7,e6⟩:=Op.at_int Tryz.underlying3 (by kernel_rfl) g5
 obtain rfl:c0_0= .int .i64 n8:=Option.some.inj e6
 obtain⟨m9,y10,g11⟩:=hf2 1 _ rfl
 obtain⟨n14,wf13,e12⟩:=Op.at_int Tryz.underlying3 (by kernel_rfl) g11
 obtain rfl:c0_1= .int .i64 n14:=Option.some.inj e12
 obtain⟨m15,y16,g17⟩:=hf2 2 _ rfl
 replace g17:DataW.trod enc Tryz.prog W 0 (fun _=>true) true m15 22 (([_,_,c0_2].drop 2).take (Tryz.prog.cellsOf 22))=some y16:=g17
 rw[show Tryz.prog.cellsOf 22=1 from by kernel_rfl]at g17
 replace g17:DataW.trod enc Tryz.prog W 0 (fun _=>true) true m15 22 [c0_2]=some y16:=g17
 obtain⟨A20,n21,c22,e18,_⟩:=Frame.trod_slice' Tryz.underlying22 g17
 obtain rfl:c0_2= .slice A20 n21 c22:=by injection e18
 obtain⟨xs23,wf19⟩:=open_tcls g17
 obtain⟨fu1,hf1⟩:=h1
 obtain⟨cs1,rfl⟩:=Frame.okWide_agg (hval 1 29 v1 rfl rfl) (.inl ⟨_,Tryz.underlying29⟩)
 replace hf1:DataW.trod enc Tryz.prog W 0 (fun _=>true) true fu1 29 cs1.toList=some (d1,p1):=hf1
 have len1:cs1.toList.length=3:=(Frame.trod_struct' Tryz.underlying29 hf1).1.trans (by kernel_rfl)
 obtain⟨c1_0,c1_1,c1_2,ecs1⟩:=Frame.list3 len1
 obtain rfl:cs1=#[c1_0,c1_1,c1_2]:=by rw[←Array.toArray_toList (xs:=cs1),ecs1]
 replace hf1:DataW.trod enc Tryz.prog W 0 (fun _=>true) true fu1 29 [c1_0,c1_1,c1_2]=some (d1,p1):=hf1
 obtain⟨hl24,hf25⟩:=Frame.trod_struct' Tryz.underlying29 hf1
 obtain⟨m26,y27,g28⟩:=hf25 0 _ rfl
 obtain⟨n31,wf30,e29⟩:=Op.at_int Tryz.underlying3 (by kernel_rfl) g28
 obtain rfl:c1_0= .int .i64 n31:=Option.some.inj e29
 obtain⟨m32,y33,g34⟩:=hf25 1 _ rfl
 obtain⟨n37,wf36,e35⟩:=Op.at_int Tryz.underlying3 (by kernel_rfl) g34
 obtain rfl:c1_1= .int .i64 n37:=Option.some.inj e35
 obtain⟨m38,y39,g40⟩:=hf25 2 _ rfl
 replace g40:DataW.trod enc Tryz.prog W 0 (fun _=>true) true m38 22 (([_,_,c1_2].drop 2).take (Tryz.prog.cellsOf 22))=some y39:=g40
 rw[show Tryz.prog.cellsOf 22=1 from by kernel_rfl]at g40
 replace g40:DataW.trod enc Tryz.prog W 0 (fun _=>true) true m38 22 [c1_2]=some y39:=g40
 obtain⟨A43,n44,c45,e41,_⟩:=Frame.trod_slice' Tryz.underlying22 g40
 obtain rfl:c1_2= .slice A43 n44 c45:=by injection e41
 obtain⟨xs46,wf42⟩:=open_tcls g40
 obtain⟨fu2,hf2⟩:=h2
 obtain⟨qa2,qn2,qc2,rfl⟩:=okWide_slice Tryz.underlying31 (hval 2 31 v2 rfl rfl)
 replace hf2:DataW.trod enc Tryz.prog W 0 (fun _=>true) true fu2 31 [.slice qa2 qn2 qc2]=some (d2,p2):=hf2
 have hsz2:qn2≤17592186044416:=by
  rcases Deep.open_slice Tryz.underlying31 hf2 with⟨e1,_⟩|⟨a,len,cap,m,n,D,Pl,e1,_,hl,hm,hmm,hx,_⟩
  ·injection e1 with e1 _
   injection e1 with _ e2 _
   omega
  ·injection e1 with e1 _
   injection e1 with _ e2 _
   subst e2
   obtain⟨rfl,_⟩:=Prod.mk.inj hx
   have hq:=sized_slice hsz (j:=2) (t:=31) (e:=3) rfl rfl Tryz.underlying31
   rw[show Tryz.checked.prog.bytesOf 3=8 from by kernel_rfl]at hq
   simp only[List.length_map,List.length_range]at hq
   unfold reachBytes at hq
   omega
 obtain⟨xs47,wf48⟩:=open_ints hf2
 obtain⟨fu3,hf3⟩:=h3
 obtain⟨u3,rfl⟩:=okWide_int Tryz.underlying5 (hval 3 5 v3 rfl rfl)
 replace hf3:DataW.trod enc Tryz.prog W 0 (fun _=>true) true fu3 5 [.int .u8 u3]=some (d3,p3):=hf3
 have wf49:(Lit.int .u8 u3).wf=true:=by obtain⟨n,e,h⟩:=Frame.trod_int' Tryz.underlying5 hf3;cases e;exact h
 obtain⟨fu4,hf4⟩:=h4
 obtain⟨qa4,qn4,qc4,rfl⟩:=okWide_slice Tryz.underlying50 (hval 4 50 v4 rfl rfl)
 replace hf4:DataW.trod enc Tryz.prog W 0 (fun _=>true) true fu4 50 [.slice qa4 qn4 qc4]=some (d4,p4):=hf4
 obtain⟨xs50,wf51⟩:=open_wishes hf4
 refine(repairNothingLost_walk n8 n14 A20 n21 c22 xs23 n31 n37 A43 n44 c45 xs46 qa2 qn2 qc2 xs47 u3 qa4 qn4 qc4 xs50 W wf7 wf13 wf19 wf30 wf36 wf42 wf48 wf49 wf51 hsz2).mono fun e W' ⟨he,hb⟩=> ?_
 subst he
 exact⟨_,rfl,Frame.law_post (tb:=4) (by kernel_rfl) (by
  rw[Tryz.params10]
  intro t ht
  simp only[List.mem_cons,List.not_mem_nil,or_false]at ht
  rcases ht with rfl|rfl|rfl|rfl|rfl<;>exact⟨by kernel_rfl,of_decide_eq_true (by kernel_rfl)⟩) rfl hW' rfl Tryz.underlying4 rfl hb⟩
theorem repairNothingLost_over:Rows.repairNothingLostRow.holds Tryz.pinned (OpenSpec.ofChange Rows.repairNothingLostSpec):=
 OpenClaim.holds_of_wide 10 Tryz.f10 rfl rfl rfl rfl rfl rfl rfl ⟨rfl,rfl,rfl,rfl,rfl⟩ rfl rfl rfl rfl rfl (by kernel_rfl) Tryz.func10 (by kernel_rfl)
  (of_decide_eq_true (by kernel_rfl)) (by unfold Func.isWrapper;first|(rw[if_pos (by decide+kernel)];kernel_rfl)|(rw[if_neg (by decide+kernel)];exact⟨rfl,rfl⟩))
  (fun os started H enc _=>repairNothingLost_lifted os started H enc)
theorem repairNothingLost_holds:Rows.RepairNothingLostSaid:=repairNothingLost_over
#print axioms repairNothingLost_holds
end Go.Proofs.YtggpaahhgchloaaGreat
