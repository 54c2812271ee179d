/- Chapter 28: Clear, Frame, Step: the reference's. -/
import Derived.Test.YtfamifgchgolpaaGreatUa
set_option linter.unusedVariables false
set_option linter.unusedSimpArgs false
set_option maxRecDepth 100000
set_option maxHeartbeats 16000000
namespace Go.Proofs.YtfamifgchgolpaaGreat
open Go Go.RowKit Go.Sort Go.Shelf Go.Maps
namespace Tx
open Sw Mm Pl
theorem snInfo:(Tryz.prog.info? 144).map (fun i=>(i.zero,i.size,i.bytes))=some (some (.agg #[.bool false,.bool false]),2,2):=by kernel_rfl
theorem zsn:(Tryz.prog.info? 144).map (·.size)=some 2:=by kernel_rfl
theorem who_some(b o:Bool):b=decide (whoN b o≠0)∧(b=true→o=decide (whoN b o=2)):=by cases b<;>cases o<;>decide
theorem exch1_frame(c:Cpl)(k n:Int)(x:Fate):(exch1 c k n x).1.frame=c.frame:=by unfold exch1;split<;>rfl
structure ActIs(c:Cpl)(w:Wsh)(C:Cpl)(b o:Bool):Prop where
 act:actN c w=(C,whoN b o)
 frame:C.frame=c.frame
theorem act_wa {c:Cpl} {w:Wsh} {C:Cpl} {b:Bool}(h:c.wa=true)(hX:exch1 (clrC c false) 6 0 w.fate=(C,b)):ActIs c w C b false:=by
 refine⟨?_,?_⟩
 ·unfold actN;rw[if_pos h];unfold exchN;rw[if_neg (by decide),hX]
 ·have:=exch1_frame (clrC c false) 6 0 w.fate;rw[hX]at this;exact this
theorem act_wb {c:Cpl} {w:Wsh} {C:Cpl} {b:Bool}(h:c.wa=false)(h2:c.wb=true)(hX:exch1 (turnC (clrC c true)) 6 0 w.fate=(C,b)):ActIs c w (turnC C) b true:=by
 refine⟨?_,?_⟩
 ·unfold actN;rw[if_neg (by rw[h];decide),if_pos h2];unfold exchN;rw[if_pos rfl,hX]
 ·have:=exch1_frame (turnC (clrC c true)) 6 0 w.fate;rw[hX]at this;exact this
theorem act_fr {c:Cpl} {w:Wsh} {C:Cpl} {b:Bool}(h:c.wa=false)(h2:c.wb=false)(h3:c.frame.tmod c.period=0)(hX:exch1 c 4 0 w.fate=(C,b)):ActIs c w C b false:=by
 refine⟨?_,?_⟩
 ·unfold actN;rw[if_neg (by rw[h];decide),if_neg (by rw[h2];decide),if_pos h3];unfold exchN;rw[if_neg (by decide),hX]
 ·have:=exch1_frame c 4 0 w.fate;rw[hX]at this;exact this
theorem act_no {c:Cpl} {w:Wsh}(h:c.wa=false)(h2:c.wb=false)(h3:c.frame.tmod c.period≠0)(h4:w.kind=0):ActIs c w c false false:=by
 refine⟨?_,rfl⟩
 unfold actN;rw[if_neg (by rw[h];decide),if_neg (by rw[h2];decide),if_neg h3,if_pos h4];rfl
theorem act_ot {c:Cpl} {w:Wsh} {C:Cpl} {b:Bool}(h:c.wa=false)(h2:c.wb=false)(h3:c.frame.tmod c.period≠0)(h4:w.kind≠0)(h5:w.other=true)(hX:exch1 (turnC c) w.kind w.count w.fate=(C,b)):ActIs c w (turnC C) b true:=by
 refine⟨?_,?_⟩
 ·unfold actN;rw[if_neg (by rw[h];decide),if_neg (by rw[h2];decide),if_neg h3,if_neg h4,h5];unfold exchN;rw[if_pos rfl,hX]
 ·have:=exch1_frame (turnC c) w.kind w.count w.fate;rw[hX]at this;exact this
theorem act_me {c:Cpl} {w:Wsh} {C:Cpl} {b:Bool}(h:c.wa=false)(h2:c.wb=false)(h3:c.frame.tmod c.period≠0)(h4:w.kind≠0)(h5:w.other=false)(hX:exch1 c w.kind w.count w.fate=(C,b)):ActIs c w C b false:=by
 refine⟨?_,?_⟩
 ·unfold actN;rw[if_neg (by rw[h];decide),if_neg (by rw[h2];decide),if_neg h3,if_neg h4,h5];unfold exchN;rw[if_neg (by decide),hX]
 ·have:=exch1_frame c w.kind w.count w.fate;rw[hX]at this;exact this
theorem OwnC.own {v0 v1 v:EdV} {e0 e1 e:Ed} {w:World}(h:OwnC v1 e1 v e w)(h1:EdOwn w v1 e1):OwnC v0 e0 v e w:=h.elim .inl (fun⟨q1,q2⟩=> .inl (by rw[q1,q2];exact h1))
def RFrPost(c:Cpl)(v:CplV)(C:Cpl)(who:Int)(w:World)(r:Ending)(w':World):Prop:=∃va vb s o,r= .returned (.tuple #[.agg (cplA C ⟨va,vb,v.l,v.r,v.A,v.nf,v.cf⟩),.agg #[.bool s,.bool o]])∧s=decide (who≠0)∧(s=true→o=decide (who=2))∧OwnC v.a c.a va C.a w'∧OwnC v.b c.b vb C.b w'∧Below w.heap.size w w'
theorem rclear2_any(e:Ed)(v:EdV)(w:World)(h:EdIs w v e)(h0:chkE e=0):Calls Tryz.prog 174 #[.agg (endA e v)] w (EndOwn (startE e.node e.peer) 0 w):=by
 have I:=Zh (Mem.start w)
 obtain⟨F0,q_,J⟩:∃F:World→Prop,Stb F∧Hid (F w):=⟨_,Stb.true,trivial⟩
 have uE:=Tryz.underlying32
 have uT:=Tryz.underlying37
 have uM:=Tryz.underlying30
 have cC:=fun W (hb:Below w.heap.size w W)=>rchkE_any e v W (h.keep hb)
 rw[rChkE_eq,h0]at cC
 clear uT uM
 refine zh3 ?_ h cC uE;clear h cC uE;intro h cC uE
 go_enter Tryz.func174,Tryz.ntmps174
 have mk1:Unit:=()
 have mk2:Unit:=()
 go_upto_region 1 with(first|go_skip|(clear mk1;refine q_.b I J 32 ?_;clear I J;intro ge w1 I J)|(clear mk2;refine q_.a I J edInfo ?_;clear I J;intro g2 w1 I J)|fail)
 have p0:=Zc I 1 0 (.int .i64 e.node)
 have p1:=Zc I 1 1 (.int .i64 e.peer)
 have mk3:Unit:=()
 go_wp2_with(first|go_skip|(refine lG 1 I uE.out ?_)|(go_at_call 164;clear mk3;refine(cC _ I.below).mono ?_;rintro r w3 ⟨rfl,p_⟩;replace p0:=Zk I p_ 1 0 p0;replace p1:=Zk I p_ 1 1 p1;replace I:=Zm I p_;replace J:=q_.z J p_;clear p_;dsimp only)|(refine q_.s 0 I J ?_;clear I J p0 p1;intro w4 I J;simp only[List.set]at I)|fail)
 try simp only[Exit.inBlock,Exit.then]
 refine rT I 0 uE.out ?_
 exact⟨edV0,rfl,EdOwn.startE _ _ _,I.below⟩
theorem rframe_any(c:Cpl)(v:CplV)(x:Wsh)(w:World)(h:CplIs w v c)(hk:CplOk c)(f0:0≤c.frame)(f1:c.frame≤2305843009213693952):Calls Tryz.prog 100 #[.agg (cplA c v),.agg (wshA x)] w (RFrPost c v (stepN c x).1 (stepN c x).2 w):=by
 have I:=Zh (Mem.start w)
 obtain⟨F0,q_,J⟩:∃F:World→Prop,Stc F∧Hid (F w):=⟨_,Stc.true,trivial⟩
 have uC:=Tryz.underlying70
 have uW:=Tryz.underlying42
 have uY:=Tryz.underlying40
 have uN:=Tryz.underlying144
 have uE:=Tryz.underlying32
 have hp1:=hk.p1
 have hp2:=hk.p2
 have hca:chkE c.a=0:=(chkE_iff _).2 hk.idle.fa.ed
 have hcb:chkE c.b=0:=(chkE_iff _).2 hk.idle.fb.ed
 have cK:=fun C V k n X W (q:CplIs W V C) (qk:CplOk C)=>rask28_any C V k n X W q qk
 unfold RAskPost at cK
 have cT:=fun C V W=>rturned_any C V W
 have cL:=fun e v W (q:EdIs W v e) (h0:chkE e=0)=>rclear2_any e v W q h0
 unfold EndOwn at cL
 have hIs:=fun W (hb:Below w.heap.size w W)=>h.keep hb
 obtain⟨ea,eb,tl,tr,f,per,frm,wa,wb⟩:=c
 obtain⟨va,vb,vl,vr,A,nf,cf⟩:=v
 obtain⟨xo,xk,xc,xf⟩:=x
 generalize hP:RFrPost ⟨ea,eb,tl,tr,f,per,frm,wa,wb⟩ ⟨va,vb,vl,vr,A,nf,cf⟩ (stepN ⟨ea,eb,tl,tr,f,per,frm,wa,wb⟩ ⟨xo,xk,xc,xf⟩).1 (stepN ⟨ea,eb,tl,tr,f,per,frm,wa,wb⟩ ⟨xo,xk,xc,xf⟩).2 w=P
 have hPo:∀C b o o2 v1 v2 W,ActIs ⟨ea,eb,tl,tr,f,per,frm,wa,wb⟩ ⟨xo,xk,xc,xf⟩ C b o→(b=true→o2=o)→OwnC va ea v1 C.a W→OwnC vb eb v2 C.b W→Below w.heap.size w W→P (.returned (.tuple #[.agg (cplA (tickC C) ⟨v1,v2,vl,vr,A,nf,cf⟩),.agg #[.bool b,.bool o2]])) W:=fun C b o o2 v1 v2 W hA ho z1 z2 hb=>by
  rw[←hP,show stepN ⟨ea,eb,tl,tr,f,per,frm,wa,wb⟩ ⟨xo,xk,xc,xf⟩=(tickC C,whoN b o)from by unfold stepN;rw[hA.act]]
  exact⟨v1,v2,b,o2,rfl,(who_some b o).1,fun e=>(ho e).trans ((who_some b o).2 e),z1,z2,hb⟩
 clear hP h
 have d0:(per==0)=false:=by rw[beq_eq_false_iff_ne];dsimp only at hp1;omega
 have d0':¬per=0:=by dsimp only at hp1;omega
 have w8:IntKind.i64.wrap (frm.tmod per)=frm.tmod per:=IntWalk.i64_in _ (by dsimp only at hp1 hp2 f0;have:=Int.tmod_lt_of_pos frm (by omega:0<per);have:=Int.tmod_nonneg per f0;omega)
 have w9:IntKind.i64.wrap (frm+1)=frm+1:=IntWalk.i64_in _ (by dsimp only at f0 f1;omega)
 clear hp1 hp2
 refine zh12 ?_ hk hca hcb cK cT cL hIs hPo f0 f1 w9 uC;clear hk hca hcb cK cT cL hIs hPo f0 f1 w9 uC;intro hk hca hcb cK cT cL hIs hPo f0 f1 w9 uC
 refine zh4 ?_ uW uY uN uE;clear uW uY uN uE;intro uW uY uN uE
 go_enter Tryz.func100,Tryz.ntmps100
 have mk1:Unit:=()
 have mk2:Unit:=()
 have mk3:Unit:=()
 have mk4:Unit:=()
 go_upto_region 1 with(first|go_skip|(clear mk1;refine q_.b I J 70 ?_;clear I J;intro g2 w1 I J)|(clear mk2;refine q_.b I J 42 ?_;clear I J;intro g3 w1 I J)|(clear mk3;refine q_.a I J cpInfo ?_;clear I J;intro g4 w1 I J)|(clear mk4;refine q_.a I J snInfo ?_;clear I J;intro g5 w1 I J)|fail)
 have mk5:Unit:=()
 go_upto_block 0 with(first|go_skip|(refine lG 3 I uC.out ?_)|(clear mk5;refine q_.a I J cpInfo ?_;clear I J;intro g6 w1 I J)|(refine q_.s 0 I J ?_;clear I J;intro w4 I J;simp only[List.set]at I)|fail)
 try go_frame
 go_cut[7,8] (fun s o wx=>∃(C:Cpl) (b o1 o2:Bool) (v1 v2:EdV),s= .bool b∧o= .bool o2∧Hid (ActIs ⟨ea,eb,tl,tr,f,per,frm,wa,wb⟩ ⟨xo,xk,xc,xf⟩ C b o1)∧Hid (b=true→o2=o1)∧Hid (OwnC va ea v1 C.a wx)∧Hid (OwnC vb eb v2 C.b wx)∧Hid (Mem w wx [(g6,cplA C ⟨v1,v2,vl,vr,A,nf,cf⟩,70),(g5,#[.bool false,.bool false],144),(g4,cplA cpl0 cplV0,70),(g3,wshA ⟨xo,xk,xc,xf⟩,42),(g2,cplA ⟨ea,eb,tl,tr,f,per,frm,wa,wb⟩ ⟨va,vb,vl,vr,A,nf,cf⟩,70)]))
 case first=>
  clear w9 hPo f0 f1
  have p7:=Zc I 4 65 (.bool wa)
  cases wa
  case' true=>
   go_upto_region 3 with fail
   clear p7
   have mk6:Unit:=()
   go_upto_region 4 with(first|go_skip|(refine lP 4 I 0 (endA ea va) uE.out ?_)|(go_at_call 174;clear mk6;refine(cL ea va _ (hIs _ I.below).a hca.out).mono ?_;rintro r w3 ⟨v1,rfl,hE5,p_⟩;replace I:=Zm I p_;replace J:=q_.z J p_;clear p_;refine sC q_ J (Stc.ed v1 _) hE5 ?_;clear q_ J hE5;intro F1 q_ J hU gE;clear hU;dsimp only)|(refine q_.m 0 I J 0 (cplA ⟨startE ea.node ea.peer,eb,tl,tr,f,per,frm,true,wb⟩ ⟨v1,vb,vl,vr,A,nf,cf⟩) ?_;clear I J;intro w4 I J;simp only[List.set]at I)|fail)
   have cK1:=fun W (hb:Below w.heap.size w W) (q:EdOwn W v1 (startE ea.node ea.peer))=>cK.out ⟨startE ea.node ea.peer,eb,tl,tr,f,per,frm,true,wb⟩ ⟨v1,vb,vl,vr,A,nf,cf⟩ 6 0 xf W (⟨q.is,(hIs _ hb).b,(hIs _ hb).l,(hIs _ hb).r,(hIs _ hb).f,(hIs _ hb).fc⟩) (hk.clr false)
   obtain⟨⟨C9,b9⟩,hX⟩:∃q,exch1 ⟨startE ea.node ea.peer,eb,tl,tr,f,per,frm,true,wb⟩ 6 0 xf=q:=⟨_,rfl⟩
   rw[hX]at cK1
   replace hX:=Zh hX
   dsimp only at cK1
   change∀W,_→_→Calls _ _ #[.agg (cplA ⟨startE ea.node ea.peer,eb,tl,tr,f,per,frm,true,wb⟩ ⟨v1,vb,vl,vr,A,nf,cf⟩),.int .i64 6,.int .i64 0,.agg #[.bool xf.request,.bool xf.reply,.bool xf.requestAck,.bool xf.replyAck]] _ _ at cK1
   replace cK1:=Zh cK1
   have mk7:Unit:=()
   go_wp2_with(first|go_skip|(refine lG 0 I uC.out ?_)|(refine lP 3 I 3 (#[.bool xf.request,.bool xf.reply,.bool xf.requestAck,.bool xf.replyAck]) uY.out ?_)|(go_at_call 175;clear mk7;refine(cK1 _ I.below (gE _ J)).mono ?_;rintro r w3 ⟨v2,v3,rfl,hA5,hB5,p_⟩;replace I:=Zm I p_;replace J:=q_.z J p_;clear p_;refine sC q_ J (Stc.ownC _ _ v2 _) hA5 ?_;clear q_ J hA5;intro F2 q_ J hU gA;replace gE:=Zu gE hU;clear hU;refine sC q_ J (Stc.ownC _ _ v3 _) hB5 ?_;clear q_ J hB5;intro F3 q_ J hU gB;replace gE:=Zu gE hU;replace gA:=Zu gA hU;clear hU;dsimp only)|(refine q_.s 0 I J ?_;clear I J;intro w4 I J;simp only[List.set]at I)|fail)
   go_meet
   exact⟨C9,b9,false,false,v2,v3,rfl,rfl,Zh (act_wa rfl hX.out),Zh (fun _=>rfl),Zh ((gA _ J).own (gE _ J)),Zh (gB _ J),I⟩
  have p8:=Zc I 4 66 (.bool wb)
  cases wb
  case' true=>
   go_upto_region 6 with fail
   clear p7 p8
   have mk6:Unit:=()
   go_upto_region 7 with(first|go_skip|(refine lP 4 I 28 (endA eb vb) uE.out ?_)|(go_at_call 174;clear mk6;refine(cL eb vb _ (hIs _ I.below).b hcb.out).mono ?_;rintro r w3 ⟨v1,rfl,hE5,p_⟩;replace I:=Zm I p_;replace J:=q_.z J p_;clear p_;refine sC q_ J (Stc.ed v1 _) hE5 ?_;clear q_ J hE5;intro F1 q_ J hU gE;clear hU;dsimp only)|(refine q_.m 0 I J 28 (cplA ⟨ea,startE eb.node eb.peer,tl,tr,f,per,frm,false,true⟩ ⟨va,v1,vl,vr,A,nf,cf⟩) ?_;clear I J;intro w4 I J;simp only[List.set]at I)|fail)
   have cK1:=fun W (hb:Below w.heap.size w W) (q:EdOwn W v1 (startE eb.node eb.peer))=>cK.out (turnC ⟨ea,startE eb.node eb.peer,tl,tr,f,per,frm,false,true⟩) ⟨v1,va,vr,vl,A,nf,cf⟩ 6 0 xf W (⟨q.is,(hIs _ hb).a,(hIs _ hb).r,(hIs _ hb).l,(hIs _ hb).f,(hIs _ hb).fc⟩) ((hk.clr true).turn)
   obtain⟨⟨C9,b9⟩,hX⟩:∃q,exch1 (turnC ⟨ea,startE eb.node eb.peer,tl,tr,f,per,frm,false,true⟩) 6 0 xf=q:=⟨_,rfl⟩
   rw[hX]at cK1
   replace hX:=Zh hX
   dsimp only[turnC]at cK1
   have cT1:=fun W=>cT.out ⟨ea,startE eb.node eb.peer,tl,tr,f,per,frm,false,true⟩ ⟨va,v1,vl,vr,A,nf,cf⟩ W
   dsimp only[turnC]at cT1
   replace cK1:=Zh cK1
   replace cT1:=Zh cT1
   replace J:=Zh (q_.keep J ((Below.refl _ _).drew))
   replace I:=Zh (I.keep ((Below.refl _ _).drew))
   have HMs:=Zh I.out
   refine wp_region_two (fun w'=>Mem _ w' _) 8 [(0,2),(2,1),(3,2),(1,0),(4,0),(5,1),(6,1),(7,1),(8,0),(9,1)] (by kernel_rfl) (by kernel_rfl) HMs.out ?_
   clear HMs
   generalize World.drew _=wd at*
   repeat(refine p2Q ?_;try go_frame)
   refine p2Take (by rfl) (yw 0 uC.out) ?_
   try go_frame
   repeat(refine p2Q ?_;try go_frame)
   refine p2Take (by rfl) (ym 3 (#[.bool xf.request,.bool xf.reply,.bool xf.requestAck,.bool xf.replyAck]) uY.out) ?_
   try go_frame
   repeat(refine p2Q ?_;try go_frame)
   refine p2Step rfl rfl fun K hK=> ?_
   go_wp2_with(first|(go_at_call 176;refine(cT1 _).mono ?_;rintro r w3 ⟨rfl,p_⟩)|fail)
   refine hK _ _ (fun _=>I.keep p_) fun hS_=> ?_
   clear hK K hS_
   try go_frame
   replace I:=Zm I p_
   replace J:=q_.z J p_
   clear p_
   repeat(refine p2Q ?_;try go_frame)
   refine p2Step rfl rfl fun K hK=> ?_
   go_wp2_with(first|(go_at_call 175;refine(cK1 _ I.below (gE _ J)).mono ?_;rintro r w3 ⟨v2,v3,rfl,hA5,hB5,p_⟩)|fail)
   refine hK _ _ (fun _=>I.keep p_) fun hS_=> ?_
   clear hK K hS_
   try go_frame
   replace I:=Zm I p_
   replace J:=q_.z J p_
   clear p_
   refine sC q_ J (Stc.ownC _ _ v2 _) hA5 ?_
   clear q_ J hA5
   intro F2 q_ J hU gA
   replace gE:=Zu gE hU
   clear hU
   refine sC q_ J (Stc.ownC _ _ v3 _) hB5 ?_
   clear q_ J hB5
   intro F3 q_ J hU gB
   replace gE:=Zu gE hU
   replace gA:=Zu gA hU
   clear hU
   repeat(refine p2Q ?_;try go_frame)
   refine p2Step rfl rfl fun K hK=> ?_
   go_wp2_with(first|(refine q_.s 0 I J ?_;clear I J;intro w4 I J;simp only[List.set]at I)|fail)
   refine hK _ _ (fun h=>absurd h (by decide)) fun hS_=> ?_
   clear hK K hS_
   try go_frame
   repeat(refine p2Q ?_;try go_frame)
   refine p2Done ?_
   go_upto_region 8 with fail
   have mk7:Unit:=()
   go_wp2_with(first|go_skip|(refine lG 0 I uC.out ?_)|(go_at_call 176;clear mk7;refine q_.k I J (cT C9 ⟨v2,v3,vr,vl,A,nf,cf⟩ _) ?_;clear I J;intro w3 I J;dsimp only)|(refine q_.s 0 I J ?_;clear I J;intro w4 I J;simp only[List.set]at I)|fail)
   go_meet
   exact⟨turnC C9,b9,true,true,v3,v2,rfl,rfl,Zh (act_wb rfl rfl hX.out),Zh (fun _=>rfl),Zh (gB _ J),Zh ((gA _ J).own (gE _ J)),I⟩
  go_upto_region 9 with fail
  clear p7 p8
  have p5:=Zc I 4 64 (.int .i64 frm)
  have p6:=Zc I 4 63 (.int .i64 per)
  by_cases e2:frm.tmod per=0
  case' pos=>
   have d2:(frm.tmod per==0)=true:=by rw[beq_iff_eq];exact e2
   replace e2:=Zh e2
   go_upto_region 10 with fail
   clear p5 p6 d2
   have cK1:=fun W (hb:Below w.heap.size w W)=>cK.out ⟨ea,eb,tl,tr,f,per,frm,false,false⟩ ⟨va,vb,vl,vr,A,nf,cf⟩ 4 0 xf W (hIs _ hb) (hk.out)
   obtain⟨⟨C9,b9⟩,hX⟩:∃q,exch1 ⟨ea,eb,tl,tr,f,per,frm,false,false⟩ 4 0 xf=q:=⟨_,rfl⟩
   rw[hX]at cK1
   replace hX:=Zh hX
   dsimp only at cK1
   change∀W,_→Calls _ _ #[.agg (cplA ⟨ea,eb,tl,tr,f,per,frm,false,false⟩ ⟨va,vb,vl,vr,A,nf,cf⟩),.int .i64 4,.int .i64 0,.agg #[.bool xf.request,.bool xf.reply,.bool xf.requestAck,.bool xf.replyAck]] _ _ at cK1
   replace cK1:=Zh cK1
   have mk6:Unit:=()
   go_wp2_with(first|go_skip|(refine lG 4 I uC.out ?_)|(refine lP 3 I 3 (#[.bool xf.request,.bool xf.reply,.bool xf.requestAck,.bool xf.replyAck]) uY.out ?_)|(go_at_call 175;clear mk6;refine(cK1 _ I.below).mono ?_;rintro r w3 ⟨v2,v3,rfl,hA5,hB5,p_⟩;replace I:=Zm I p_;replace J:=q_.z J p_;clear p_;refine sC q_ J (Stc.ownC _ _ v2 _) hA5 ?_;clear q_ J hA5;intro F1 q_ J hU gA;clear hU;refine sC q_ J (Stc.ownC _ _ v3 _) hB5 ?_;clear q_ J hB5;intro F2 q_ J hU gB;replace gA:=Zu gA hU;clear hU;dsimp only)|(refine q_.s 0 I J ?_;clear I J;intro w4 I J;simp only[List.set]at I)|fail)
   go_meet
   exact⟨C9,b9,false,false,v2,v3,rfl,rfl,Zh (act_fr rfl rfl e2.out hX.out),Zh (fun _=>rfl),Zh (gA _ J),Zh (gB _ J),I⟩
  have d2:(frm.tmod per==0)=false:=by rw[beq_eq_false_iff_ne];exact e2
  replace e2:=Zh e2
  go_upto_region 11 with fail
  clear p5 p6 d2 d0 d0' w8
  have q1:=Zc I 3 1 (.int .i64 xk)
  have q0:=Zc I 3 0 (.bool xo)
  by_cases e3:xk=0
  case' pos=>
   have d3:(xk !=0)=false:=by rw[bne_eq_false_iff_eq];exact e3
   replace e3:=Zh e3
   go_wp2_with fail
   go_meet
   exact⟨_,false,false,false,va,vb,rfl,rfl,Zh (act_no rfl rfl e2.out e3.out),Zh (fun _=>rfl),Zh (.inr ⟨rfl,rfl⟩),Zh (.inr ⟨rfl,rfl⟩),I⟩
  have d3:(xk !=0)=true:=by rw[bne_iff_ne];exact e3
  replace e3:=Zh e3
  cases xo
  case' true=>
   go_upto_region 12 with fail
   clear q1 q0 d3
   have cK1:=fun W (hb:Below w.heap.size w W)=>cK.out (turnC ⟨ea,eb,tl,tr,f,per,frm,false,false⟩) ⟨vb,va,vr,vl,A,nf,cf⟩ xk xc xf W (⟨(hIs _ hb).b,(hIs _ hb).a,(hIs _ hb).r,(hIs _ hb).l,(hIs _ hb).f,(hIs _ hb).fc⟩) (hk.turn)
   obtain⟨⟨C9,b9⟩,hX⟩:∃q,exch1 (turnC ⟨ea,eb,tl,tr,f,per,frm,false,false⟩) xk xc xf=q:=⟨_,rfl⟩
   rw[hX]at cK1
   replace hX:=Zh hX
   dsimp only[turnC]at cK1
   have cT1:=fun W=>cT.out ⟨ea,eb,tl,tr,f,per,frm,false,false⟩ ⟨va,vb,vl,vr,A,nf,cf⟩ W
   dsimp only[turnC]at cT1
   replace cK1:=Zh cK1
   replace cT1:=Zh cT1
   replace J:=Zh (q_.keep J ((Below.refl _ _).drew))
   replace I:=Zh (I.keep ((Below.refl _ _).drew))
   have HMs:=Zh I.out
   refine wp_region_two (fun w'=>Mem _ w' _) 12 [(0,2),(2,1),(3,2),(4,1),(5,2),(6,1),(7,2),(1,0),(8,0),(9,1),(10,1),(11,1),(12,0),(13,1)] (by kernel_rfl) (by kernel_rfl) HMs.out ?_
   clear HMs
   generalize World.drew _=wd at*
   repeat(refine p2Q ?_;try go_frame)
   refine p2Take (by rfl) (yw 4 uC.out) ?_
   try go_frame
   repeat(refine p2Q ?_;try go_frame)
   refine p2Take (by rfl) (yc 3 1 (.int .i64 xk) Tryz.underlying3) ?_
   try go_frame
   repeat(refine p2Q ?_;try go_frame)
   refine p2Take (by rfl) (yc 3 2 (.int .i64 xc) Tryz.underlying3) ?_
   try go_frame
   repeat(refine p2Q ?_;try go_frame)
   refine p2Take (by rfl) (ym 3 (#[.bool xf.request,.bool xf.reply,.bool xf.requestAck,.bool xf.replyAck]) uY.out) ?_
   try go_frame
   repeat(refine p2Q ?_;try go_frame)
   refine p2Step rfl rfl fun K hK=> ?_
   go_wp2_with(first|(go_at_call 176;refine(cT1 _).mono ?_;rintro r w3 ⟨rfl,p_⟩)|fail)
   refine hK _ _ (fun _=>I.keep p_) fun hS_=> ?_
   clear hK K hS_
   try go_frame
   replace I:=Zm I p_
   replace J:=q_.z J p_
   clear p_
   repeat(refine p2Q ?_;try go_frame)
   refine p2Step rfl rfl fun K hK=> ?_
   go_wp2_with(first|(go_at_call 175;refine(cK1 _ I.below).mono ?_;rintro r w3 ⟨v2,v3,rfl,hA5,hB5,p_⟩)|fail)
   refine hK _ _ (fun _=>I.keep p_) fun hS_=> ?_
   clear hK K hS_
   try go_frame
   replace I:=Zm I p_
   replace J:=q_.z J p_
   clear p_
   refine sC q_ J (Stc.ownC _ _ v2 _) hA5 ?_
   clear q_ J hA5
   intro F1 q_ J hU gA
   clear hU
   refine sC q_ J (Stc.ownC _ _ v3 _) hB5 ?_
   clear q_ J hB5
   intro F2 q_ J hU gB
   replace gA:=Zu gA hU
   clear hU
   repeat(refine p2Q ?_;try go_frame)
   refine p2Step rfl rfl fun K hK=> ?_
   go_wp2_with(first|(refine q_.s 0 I J ?_;clear I J;intro w4 I J;simp only[List.set]at I)|fail)
   refine hK _ _ (fun h=>absurd h (by decide)) fun hS_=> ?_
   clear hK K hS_
   try go_frame
   repeat(refine p2Q ?_;try go_frame)
   refine p2Done ?_
   go_upto_region 13 with fail
   have mk6:Unit:=()
   go_wp2_with(first|go_skip|(refine lG 0 I uC.out ?_)|(go_at_call 176;clear mk6;refine q_.k I J (cT C9 ⟨v2,v3,vr,vl,A,nf,cf⟩ _) ?_;clear I J;intro w3 I J;dsimp only)|(refine q_.s 0 I J ?_;clear I J;intro w4 I J;simp only[List.set]at I)|fail)
   go_meet
   exact⟨turnC C9,b9,true,true,v3,v2,rfl,rfl,Zh (act_ot rfl rfl e2.out e3.out rfl hX.out),Zh (fun _=>rfl),Zh (gB _ J),Zh (gA _ J),I⟩
  go_upto_region 15 with fail
  clear q1 q0 d3
  have cK1:=fun W (hb:Below w.heap.size w W)=>cK.out ⟨ea,eb,tl,tr,f,per,frm,false,false⟩ ⟨va,vb,vl,vr,A,nf,cf⟩ xk xc xf W (hIs _ hb) (hk.out)
  obtain⟨⟨C9,b9⟩,hX⟩:∃q,exch1 ⟨ea,eb,tl,tr,f,per,frm,false,false⟩ xk xc xf=q:=⟨_,rfl⟩
  rw[hX]at cK1
  replace hX:=Zh hX
  dsimp only at cK1
  change∀W,_→Calls _ _ #[.agg (cplA ⟨ea,eb,tl,tr,f,per,frm,false,false⟩ ⟨va,vb,vl,vr,A,nf,cf⟩),.int .i64 xk,.int .i64 xc,.agg #[.bool xf.request,.bool xf.reply,.bool xf.requestAck,.bool xf.replyAck]] _ _ at cK1
  replace cK1:=Zh cK1
  have q1:=Zc I 3 1 (.int .i64 xk)
  have q2:=Zc I 3 2 (.int .i64 xc)
  have mk6:Unit:=()
  go_wp2_with(first|go_skip|(refine lG 4 I uC.out ?_)|(refine lP 3 I 3 (#[.bool xf.request,.bool xf.reply,.bool xf.requestAck,.bool xf.replyAck]) uY.out ?_)|(go_at_call 175;clear mk6;refine(cK1 _ I.below).mono ?_;rintro r w3 ⟨v2,v3,rfl,hA5,hB5,p_⟩;clear q1 q2;replace I:=Zm I p_;replace J:=q_.z J p_;clear p_;refine sC q_ J (Stc.ownC _ _ v2 _) hA5 ?_;clear q_ J hA5;intro F1 q_ J hU gA;clear hU;refine sC q_ J (Stc.ownC _ _ v3 _) hB5 ?_;clear q_ J hB5;intro F2 q_ J hU gB;replace gA:=Zu gA hU;clear hU;dsimp only)|(refine q_.s 0 I J ?_;clear I J;intro w4 I J;simp only[List.set]at I)|fail)
  go_meet
  exact⟨C9,b9,false,false,v2,v3,rfl,rfl,Zh (act_me rfl rfl e2.out e3.out rfl hX.out),Zh (fun _=>rfl),Zh (gA _ J),Zh (gB _ J),I⟩
 case rest=>
  clear I J q_ cK cT cL hca hcb d0 d0' w8
  obtain⟨C,b,o1,o2,v1,v2,rfl,rfl,hAc,hO,hA,hB,I⟩:=hcut
  obtain⟨F19,q_,J,gA,gB⟩:∃F:World→Prop,Stc F∧Hid (F _)∧Hid (∀W,F W→OwnC va ea v1 C.a W)∧Hid (∀W,F W→OwnC vb eb v2 C.b W):=⟨_,(Stc.ownC va ea v1 C.a).and (Stc.ownC vb eb v2 C.b),⟨hA.out,hB.out⟩,fun _ h=>h.1,fun _ h=>h.2⟩
  clear hA hB
  have hfr:C.frame=frm:=hAc.frame
  replace w9:=w9.out
  rw[←hfr]at w9
  clear hfr
  have p6:=Zc I 0 64 (.int .i64 C.frame)
  go_upto_region 17 with(first|go_skip|(refine q_.m 0 I J 64 (cplA (tickC C) ⟨v1,v2,vl,vr,A,nf,cf⟩) ?_;clear I J p6;intro w4 I J;simp only[List.set]at I)|fail)
  go_wp2_with(first|go_skip|(refine lG 0 I uC.out ?_)|(refine q_.s 2 I J ?_;clear I J;intro w4 I J;simp only[List.set]at I)|(refine q_.s 1 I J ?_;clear I J;intro w4 I J;simp only[List.set]at I)|fail)
  try simp only[Exit.inBlock,Exit.then]
  refine bodyPost_ret (results_cc rfl (I.at_ 2 rfl) (I.at_ 1 rfl) rfl rfl _ uC.out rfl (by exact zcp) _ uN.out rfl (by exact zsn)) rfl ?_
  exact hPo.out C b o1 o2 v1 v2 _ hAc.out hO.out (gA _ J) (gB _ J) I.below
def RstC(c:Cpl)(v:CplV)(C:Cpl)(V:CplV):Prop:=(V.l=v.l∧V.r=v.r∧V.A=v.A∧V.nf=v.nf∧V.cf=v.cf∧C.left=c.left∧C.right=c.right∧C.free=c.free)∨(C=cpl0∧V=cplV0)
theorem RstC.is {c C:Cpl} {v V:CplV} {w0 w:World}(hr:RstC c v C V)(h:CplIs w0 v c)(hb:Below w0.heap.size w0 w)(h1:OwnC v.a c.a V.a C.a w)(h2:OwnC v.b c.b V.b C.b w):CplIs w V C:=by
 rcases hr with⟨e1,e2,e3,e4,e5,e6,e7,e8⟩|⟨rfl,rfl⟩
 ·exact⟨h1.is (h.keep hb).a,h2.is (h.keep hb).b,by rw[e1,e6];exact(h.keep hb).l,by rw[e2,e7];exact(h.keep hb).r,by rw[e3,e4,e8];exact(h.keep hb).f,by rw[e4,e5];exact h.fc⟩
 ·exact CplIs.zero w
end Tx
end Go.Proofs.YtfamifgchgolpaaGreat
