/- Chapter 28: turned, ask: the reference's. -/
import Derived.Test.YtfamifgchgolpaaGreatSf
import Derived.Test.YtfamifgchgolpaaGreatCt
import Derived.Test.YtfamifgchgolpaaGreatUn
set_option linter.unusedVariables false
set_option linter.unusedSimpArgs false
set_option maxRecDepth 100000
set_option maxHeartbeats 16000000
namespace Go.Proofs.YtfamifgchgolpaaGreat
open Go Go.RowKit Go.Sort Go.Shelf Go.Maps
namespace Tx
open Sw Mm Pl
theorem RunIs.one_num {a b:Ed} {ta tb:Tab} {f:List Int} {k n:Int} {m:Msg} {y:Ed} {r:Msg} {z:Ed}(h:RunIs a b ta tb f k n m y r z)(J:FullOk tb b)(hr:r.code=1):a.number≠b.number:=by
 have h1:=h.rcv
 have hn:=h.num
 cases h1 with
 |clear h6=>cases hr
 |again h6 hk hm=>rw[(known_is J.ed hk).2.1]at hr;cases hr
 |number h6 hk hn2=>rw[hn]at hn2;exact hn2
 |cells h6 hk hn2=>cases hr
 |yes h6 hk hn2 n s o hw=>cases hr
theorem RunIs.six_code {a b:Ed} {ta tb:Tab} {f:List Int} {k n:Int} {m:Msg} {y:Ed} {r:Msg} {z:Ed}(h:RunIs a b ta tb f k n m y r z)(hk:k=6):r.code=0:=by
 have h1:=h.rcv
 have h6:m.kind=6:=h.kind.trans hk
 cases h1 with
 |clear _=>rfl
 |again q _ _=>exact absurd h6 q
 |number q _ _=>exact absurd h6 q
 |cells q _ _=>exact absurd h6 q
 |yes q _ _ _ _ _ _=>exact absurd h6 q
theorem Stc.ownC(vb:EdV)(b:Ed)(v:EdV)(e:Ed):Stc (OwnC vb b v e):=(Stb.ownC vb b v e).c
theorem worN_six(w:Bool)(c:Int):worN w c 6=false:=by unfold worN;simp
theorem worN_one(w:Bool) {c k:Int}(hc:c=1)(hk:k≠6):worN w c k=true:=by unfold worN;simp[hc,hk]
theorem worN_oth(w:Bool) {c k:Int}(hc:c≠1)(hk:k≠6):worN w c k=w:=by unfold worN;simp[hc,hk]
theorem exN_run {a b:Ed} {ta tb:Tab} {f:List Int} {kind count:Int} {x:Fate}(h:Idle a b ta tb):exC a b ta tb f kind count=askC a ta f kind count 0∧(askC a ta f kind count 0=0→exN a b ta tb f kind count x=runN a b ta tb f kind count x):=by
 have h1:exC a b ta tb f kind count=askC a ta f kind count 0:=by unfold exC;rw[if_neg (by rw[idleC_iff.2 h];simp)]
 exact⟨h1,fun h0=>by unfold exN;rw[if_pos (h1.trans h0)]⟩
def RAskPost(c:Cpl)(v:CplV)(C:Cpl)(b:Bool)(w:World)(r:Ending)(w':World):Prop:=∃va vb,r= .returned (.tuple #[.agg (cplA C ⟨va,vb,v.l,v.r,v.A,v.nf,v.cf⟩),.bool b])∧OwnC v.a c.a va C.a w'∧OwnC v.b c.b vb C.b w'∧Below w.heap.size w w'
theorem rturned_any(c:Cpl)(v:CplV)(w:World):Calls Tryz.prog 176 #[.agg (cplA c v)] w fun r w'=>r= .returned (.agg (cplA (turnC c) ⟨v.b,v.a,v.r,v.l,v.A,v.nf,v.cf⟩))∧Below w.heap.size w w':=by
 have I:=Zh (Mem.start w)
 obtain⟨F0,q_,J⟩:∃F:World→Prop,Stc F∧Hid (F w):=⟨_,Stc.true,trivial⟩
 have uC:=Tryz.underlying70
 have uE:=Tryz.underlying32
 have uT:=Tryz.underlying37
 obtain⟨ea,eb,tl,tr,f,per,frm,wa,wb⟩:=c
 obtain⟨va,vb,vl,vr,A,nf,cf⟩:=v
 refine zh3 ?_ uC uE uT;clear uC uE uT;intro uC uE uT
 go_enter Tryz.func176,Tryz.ntmps176
 have mk1:Unit:=()
 have mk2:Unit:=()
 go_upto_region 1 with(first|go_skip|(clear mk1;refine q_.b I J 70 ?_;clear I J;intro gc w1 I J)|(clear mk2;refine q_.a I J cpInfo ?_;clear I J;intro g2 w1 I J)|fail)
 have p65:=Zc I 1 65 (.bool wa)
 have p66:=Zc I 1 66 (.bool wb)
 go_upto_region 2 with(first|go_skip|(refine lP 1 I 28 (endA eb vb) uE.out ?_)|(refine lP 1 I 0 (endA ea va) uE.out ?_)|(refine lP 1 I 59 (tabA tr vr) uT.out ?_)|(refine lP 1 I 56 (tabA tl vl) uT.out ?_)|(refine q_.m 1 I J 0 (cplA ⟨eb,eb,tl,tr,f,per,frm,wa,wb⟩ ⟨vb,vb,vl,vr,A,nf,cf⟩) ?_;clear I J p65 p66;intro w4 I J;simp only[List.set]at I)|(refine q_.m 1 I J 28 (cplA ⟨eb,ea,tl,tr,f,per,frm,wa,wb⟩ ⟨vb,va,vl,vr,A,nf,cf⟩) ?_;clear I J;intro w4 I J;simp only[List.set]at I)|(refine q_.m 1 I J 56 (cplA ⟨eb,ea,tr,tr,f,per,frm,wa,wb⟩ ⟨vb,va,vr,vr,A,nf,cf⟩) ?_;clear I J;intro w4 I J;simp only[List.set]at I)|(refine q_.m 1 I J 59 (cplA ⟨eb,ea,tr,tl,f,per,frm,wa,wb⟩ ⟨vb,va,vr,vl,A,nf,cf⟩) ?_;clear I J;intro w4 I J;simp only[List.set]at I)|(refine q_.m 1 I J 65 (cplA ⟨eb,ea,tr,tl,f,per,frm,wb,wb⟩ ⟨vb,va,vr,vl,A,nf,cf⟩) ?_;clear I J;intro w4 I J;simp only[List.set]at I)|(refine q_.m 1 I J 66 (cplA ⟨eb,ea,tr,tl,f,per,frm,wb,wa⟩ ⟨vb,va,vr,vl,A,nf,cf⟩) ?_;clear I J;intro w4 I J;simp only[List.set]at I)|fail)
 go_wp2_with(first|go_skip|(refine lG 1 I uC.out ?_)|(refine q_.s 0 I J ?_;clear I J;intro w4 I J;simp only[List.set]at I)|fail)
 try simp only[Exit.inBlock,Exit.then]
 refine rC I 0 uC.out ?_
 exact⟨rfl,I.below⟩
theorem rask28_any(c:Cpl)(v:CplV)(k n:Int)(x:Fate)(w:World)(h:CplIs w v c)(hk:CplOk c):Calls Tryz.prog 175 #[.agg (cplA c v),.int .i64 k,.int .i64 n,.agg (fateA x)] w (RAskPost c v (exch1 c k n x).1 (exch1 c k n x).2 w):=by
 have I:=Zh (Mem.start w)
 obtain⟨F0,q_,J⟩:∃F:World→Prop,Stc F∧Hid (F w):=⟨_,Stc.true,trivial⟩
 have uC:=Tryz.underlying70
 have uE:=Tryz.underlying32
 have uT:=Tryz.underlying37
 have uM:=Tryz.underlying30
 have uY:=Tryz.underlying40
 obtain⟨ea,eb,tl,tr,f,per,frm,wa,wb⟩:=c
 obtain⟨va,vb,vl,vr,A,nf,cf⟩:=v
 obtain⟨x0,x1,x2,x3⟩:=x
 have cA:=fun W (hb:Below w.heap.size w W)=>rask_any ea tl va vl A nf cf f k n 0 W (h.a.keep hb) (h.l.keep hb) (h.f.keep hb)
 unfold TriOwn at cA
 have cR:=fun m vm W (hb:Below w.heap.size w W) (hm:MsgIs W vm m)=>rreceive_any eb tr f m vb vr vm A nf cf W (h.b.keep hb) (h.r.keep hb) (h.f.keep hb) hm
 unfold TriOwn at cR
 have cX:=fun W (hb:Below w.heap.size w W)=>rexch_any ea eb tl tr f k n ⟨x0,x1,x2,x3⟩ va vb vl vr A nf cf W (h.a.keep hb) (h.b.keep hb) (h.l.keep hb) (h.r.keep hb) (h.f.keep hb)
 unfold RExPost at cX
 change∀W,_→Calls _ _ #[_,_,_,_,_,_,_,.agg (fateA ⟨x0,x1,x2,x3⟩)] _ _ at cX
 obtain⟨hXC,hXN⟩:=exN_run (f:=f) (kind:=k) (count:=n) (x:=⟨x0,x1,x2,x3⟩) hk.idle
 dsimp only at hXC hXN
 rw[hXC]at cX
 clear hXC
 generalize hP:RAskPost ⟨ea,eb,tl,tr,f,per,frm,wa,wb⟩ ⟨va,vb,vl,vr,A,nf,cf⟩ (exch1 ⟨ea,eb,tl,tr,f,per,frm,wa,wb⟩ k n ⟨x0,x1,x2,x3⟩).1 (exch1 ⟨ea,eb,tl,tr,f,per,frm,wa,wb⟩ k n ⟨x0,x1,x2,x3⟩).2 w=P
 have hPb:∀W,askC ea tl f k n 0≠0→Below w.heap.size w W→P (.returned (.tuple #[.agg (cplA ⟨ea,eb,tl,tr,f,per,frm,wa,wb⟩ ⟨va,vb,vl,vr,A,nf,cf⟩),.bool false])) W:=fun W h0 hb=>by
  rw[←hP,show exch1 ⟨ea,eb,tl,tr,f,per,frm,wa,wb⟩ k n ⟨x0,x1,x2,x3⟩=(⟨ea,eb,tl,tr,f,per,frm,wa,wb⟩,false)from by unfold exch1;rw[if_neg h0]]
  exact⟨va,vb,rfl,.inr ⟨rfl,rfl⟩,.inr ⟨rfl,rfl⟩,hb⟩
 have hPo:∀E1 E2 p q v1 v2 W,askC ea tl f k n 0=0→askedC ⟨ea,eb,tl,tr,f,per,frm,wa,wb⟩ k n ⟨x0,x1,x2,x3⟩=⟨E1,E2,tl,tr,f,per,frm,p,q⟩→EdOwn W v1 E1→OwnC vb eb v2 E2 W→Below w.heap.size w W→P (.returned (.tuple #[.agg (cplA ⟨E1,E2,tl,tr,f,per,frm,p,q⟩ ⟨v1,v2,vl,vr,A,nf,cf⟩),.bool true])) W:=fun E1 E2 p q v1 v2 W h0 e z1 z2 hb=>by
  rw[←hP,show exch1 ⟨ea,eb,tl,tr,f,per,frm,wa,wb⟩ k n ⟨x0,x1,x2,x3⟩=(⟨E1,E2,tl,tr,f,per,frm,p,q⟩,true)from by unfold exch1;rw[if_pos h0,e]]
  exact⟨v1,v2,rfl,.inl z1,z2,hb⟩
 clear hP
 have hRun:askC ea tl f k n 0=0→∃y r z,recv eb tr f (askN ea tl f k n 0)=(y,r)∧recvC eb tr (askN ea tl f k n 0)=0∧(r.code=1→ea.number≠eb.number)∧(k=6→r.code=0)∧runN ea eb tl tr f k n ⟨x0,x1,x2,x3⟩=(if x0=true then(ea,eb,-1)else if x1=true then(ea,y,-1)else(z,y,r.code))∧askedC ⟨ea,eb,tl,tr,f,per,frm,wa,wb⟩ k n ⟨x0,x1,x2,x3⟩=(if x0=true then⟨ea,eb,tl,tr,f,per,frm,wa,wb⟩else if x1=true then⟨ea,y,tl,tr,f,per,frm,wa,worN wb r.code k⟩else⟨z,y,tl,tr,f,per,frm,worN wa r.code k,worN wb r.code k⟩):=fun h0=>by
  obtain⟨m,y,r,z,hR⟩:=cpl_run hk h0
  have hR1:=hR.run ⟨x0,x1,x2,x3⟩
  have hR2:=hR.asked ⟨x0,x1,x2,x3⟩
  have h1:=hR.one_num hk.idle.fb
  have h2:=hR.six_code
  have e2:=hR.e2
  have e3:=hR.one
  have e4:=hR.c1
  dsimp only at e2 e3 e4 h1 hR1 hR2
  rw[e2]
  exact⟨y,r,z,e3,e4,h1,h2,hR1,hR2⟩
 generalize askedC ⟨ea,eb,tl,tr,f,per,frm,wa,wb⟩ k n ⟨x0,x1,x2,x3⟩=KC at*
 generalize exN ea eb tl tr f k n ⟨x0,x1,x2,x3⟩=XN at*
 generalize runN ea eb tl tr f k n ⟨x0,x1,x2,x3⟩=RN at*
 generalize askC ea tl f k n 0=AC at*
 generalize askE ea tl f k n 0=AE at*
 generalize askN ea tl f k n 0=AM at*
 obtain⟨E1,E2,cd⟩:=XN
 dsimp only at cX
 clear hk
 refine zh12 ?_ h cA cX cR hPb hPo hRun hXN uC uE uT uM;clear h cA cX cR hPb hPo hRun hXN uC uE uT uM;intro h cA cX cR hPb hPo hRun hXN uC uE uT uM
 replace uY:=Zh uY
 go_enter Tryz.func175,Tryz.ntmps175
 have mk1:Unit:=()
 have mk2:Unit:=()
 have mk3:Unit:=()
 go_upto_region 1 with(first|go_skip|(clear mk1;refine q_.b I J 70 ?_;clear I J;intro gc w1 I J)|(clear mk2;refine q_.b I J 40 ?_;clear I J;intro gx w1 I J)|(clear mk3;refine q_.a I J cpInfo ?_;clear I J;intro g8 w1 I J)|fail)
 have p2:=Zc I 2 2 (.int .i64 ea.number)
 have p30:=Zc I 2 30 (.int .i64 eb.number)
 obtain⟨D,hD⟩:∃D,(ea.number !=eb.number)=D:=⟨_,rfl⟩
 go_upto_region 3 with fail
 clear p2 p30
 replace hD:=Zh hD
 have p62:=Zc I 2 62 (.slice A nf cf)
 have mk4:Unit:=()
 have mk5:Unit:=()
 have mk6:Unit:=()
 go_upto_region 4 with(first|go_skip|(refine lP 2 I 0 (endA ea va) uE.out ?_)|(refine lP 2 I 56 (tabA tl vl) uT.out ?_)|(go_at_call 90;clear mk4;refine(cA _ I.below).mono ?_;rintro r w3 ⟨vo,vm,rfl,hO5,hM5,p_⟩;clear p62;clear hO5;replace I:=Zm I p_;replace J:=q_.z J p_;clear p_;refine sC q_ J (Stc.sub vm _) hM5 ?_;clear q_ J hM5;intro F1 q_ J hU gM;clear hU;dsimp only)|(clear mk5;refine q_.a I J edInfo ?_;clear I J;intro g12 w1 I J)|(clear mk6;refine q_.a I J msgInfo ?_;clear I J;intro g13 w1 I J)|(refine q_.s 1 I J ?_;clear I J;intro w4 I J;simp only[List.set]at I)|(refine q_.s 0 I J ?_;clear I J;intro w4 I J;simp only[List.set]at I)|fail)
 by_cases e0:AC=0
 case neg=>
  have d0:(AC==0)=false:=by rw[beq_eq_false_iff_ne];exact e0
  have d1:(AC !=0)=true:=by rw[bne_iff_ne];exact e0
  have hPc:=Zh (fun W=>hPb.out W e0)
  clear hPb hPo hRun hXN cR gM
  replace e0:=Zh e0
  go_upto_region 7 with fail
  have p62:=Zc I 4 62 (.slice A nf cf)
  have mk7:Unit:=()
  have mk8:Unit:=()
  have mk9:Unit:=()
  go_upto_region 8 with(first|go_skip|(refine lP 4 I 0 (endA ea va) uE.out ?_)|(refine lP 4 I 28 (endA eb vb) uE.out ?_)|(refine lP 4 I 56 (tabA tl vl) uT.out ?_)|(refine lP 4 I 59 (tabA tr vr) uT.out ?_)|(refine lG 3 I uY.out ?_)|(go_at_call 25;clear mk7;refine(cX _ I.below).mono ?_;rintro r w3 ⟨v1,v2,rfl,hE5,hO5,p_⟩;clear p62;replace I:=Zm I p_;replace J:=q_.z J p_;clear p_;refine sC q_ J (Stc.ed v1 _) hE5 ?_;clear q_ J hE5;intro F2 q_ J hU gA;clear hU;refine sC q_ J (Stc.ownC _ _ v2 _) hO5 ?_;clear q_ J hO5;intro F3 q_ J hU gB;replace gA:=Zu gA hU;clear hU;dsimp only)|(clear mk8;refine q_.a I J edInfo ?_;clear I J;intro g18 w1 I J)|(clear mk9;refine q_.a I J edInfo ?_;clear I J;intro g19 w1 I J)|(refine q_.s 1 I J ?_;clear I J;intro w4 I J;simp only[List.set]at I)|(refine q_.s 0 I J ?_;clear I J;intro w4 I J;simp only[List.set]at I)|fail)
  go_wp2_with(first|go_skip|(refine lG 6 I uC.out ?_)|(refine q_.s 4 I J ?_;clear I J;intro w4 I J;simp only[List.set]at I)|fail)
  try simp only[Exit.inBlock,Exit.then]
  refine rT I 4 uC.out ?_
  exact hPc.out _ I.below
 subst e0
 obtain⟨y,r,z,e3,e4,h1n,h6c,hRn,hRa⟩:=hRun.out rfl
 replace hXN:=Zh ((hXN rfl).trans hRn)
 have hPc:=Zh (fun E1 E2 p q v1 v2 W=>hPo.out E1 E2 p q v1 v2 W rfl)
 have cR2:=fun vm=>cR.out AM vm
 rw[e3,e4]at cR2
 clear cR hRun hRn e3 e4 hPb hPo
 refine zh4 ?_ cR2 hRa h1n h6c;clear cR2 hRa h1n h6c;intro cR2 hRa h1n h6c
 go_upto_region 5 with fail
 have p62:=Zc I 4 62 (.slice A nf cf)
 have mk7:Unit:=()
 have mk8:Unit:=()
 have mk9:Unit:=()
 go_upto_region 6 with(first|go_skip|(refine lP 4 I 28 (endA eb vb) uE.out ?_)|(refine lP 4 I 59 (tabA tr vr) uT.out ?_)|(refine lG 0 I uM.out ?_)|(go_at_call 92;clear mk7;refine(cR2 vm _ I.below (gM _ J).is).mono ?_;rintro r w3 ⟨vy,vrr,rfl,hE5,hM5,p_⟩;clear p62;clear hE5 hM5;replace I:=Zm I p_;replace J:=q_.z J p_;clear p_;dsimp only)|(clear mk8;refine q_.a I J edInfo ?_;clear I J;intro g15 w1 I J)|(clear mk9;refine q_.a I J msgInfo ?_;clear I J;intro g16 w1 I J)|(refine q_.s 1 I J ?_;clear I J;intro w4 I J;simp only[List.set]at I)|(refine q_.s 0 I J ?_;clear I J;intro w4 I J;simp only[List.set]at I)|fail)
 have p3:=Zc I 0 3 (.int .i64 r.code)
 obtain⟨G,hG⟩:∃G,(r.code !=1)=G:=⟨_,rfl⟩
 go_upto_region 7 with fail
 clear p3 cR2
 replace hG:=Zh hG
 have p62:=Zc I 6 62 (.slice A nf cf)
 have mk10:Unit:=()
 have mk11:Unit:=()
 have mk12:Unit:=()
 go_upto_region 8 with(first|go_skip|(refine lP 6 I 0 (endA ea va) uE.out ?_)|(refine lP 6 I 28 (endA eb vb) uE.out ?_)|(refine lP 6 I 56 (tabA tl vl) uT.out ?_)|(refine lP 6 I 59 (tabA tr vr) uT.out ?_)|(refine lG 5 I uY.out ?_)|(go_at_call 25;clear mk10;refine(cX _ I.below).mono ?_;rintro r w3 ⟨v1,v2,rfl,hE5,hO5,p_⟩;clear p62;replace I:=Zm I p_;replace J:=q_.z J p_;clear p_;refine sC q_ J (Stc.ed v1 _) hE5 ?_;clear q_ J hE5;intro F2 q_ J hU gA;replace gM:=Zu gM hU;clear hU;refine sC q_ J (Stc.ownC _ _ v2 _) hO5 ?_;clear q_ J hO5;intro F3 q_ J hU gB;replace gM:=Zu gM hU;replace gA:=Zu gA hU;clear hU;dsimp only)|(clear mk11;refine q_.a I J edInfo ?_;clear I J;intro g18 w1 I J)|(clear mk12;refine q_.a I J edInfo ?_;clear I J;intro g19 w1 I J)|(refine q_.s 1 I J ?_;clear I J;intro w4 I J;simp only[List.set]at I)|(refine q_.s 0 I J ?_;clear I J;intro w4 I J;simp only[List.set]at I)|fail)
 go_upto_region 10 with fail
 replace J:=Zh (q_.keep J ((Below.refl _ _).drew))
 replace I:=Zh (I.keep ((Below.refl _ _).drew))
 have HMs:=Zh I.out
 replace HMs:=Zh (HMs.less 8)
 simp only[List.eraseIdx]at HMs
 refine wp_region_plan (fun w'=>Mem _ w' _) 4 [(0,true),(1,true),(2,true),(3,false)] (by kernel_rfl) (by kernel_rfl) HMs.out ?_
 generalize World.drew _=wd at*
 refine plTakeL (by rfl) (yw 1 uE.out) ?_
 try go_frame
 refine plTakeL (by rfl) (yw 0 uE.out) ?_
 try go_frame
 repeat(first|(refine plPure rfl rfl (by intro w_ hSw;go_simp;first|done|exact rfl) ?_;try go_frame))
 clear HMs
 refine plStepL rfl rfl fun K hK=> ?_
 go_wp2_with(first|(refine q_.m 8 I J 0 (cplA ⟨E1,eb,tl,tr,f,per,frm,wa,wb⟩ ⟨v1,vb,vl,vr,A,nf,cf⟩) ?_;clear I J;intro w4 I J;simp only[List.set]at I)|fail)
 refine hK _ _ ((I.less 8)) fun hS_=> ?_
 clear hK K hS_
 try go_frame
 refine plDone ?_
 simp only[List.drop]
 go_upto_region 11 with(first|go_skip|(refine q_.m 8 I J 28 (cplA ⟨E1,E2,tl,tr,f,per,frm,wa,wb⟩ ⟨v1,v2,vl,vr,A,nf,cf⟩) ?_;clear I J;intro w4 I J;simp only[List.set]at I)|fail)
 cases x0
 case' true=>
  have hX9:=hXN.out
  rw[if_pos rfl]at hX9
  injection hX9 with q1 q2;injection q2 with q2 hcd
  have hK:=Zh (hRa.trans (if_pos rfl))
  rw[←q1,←q2]at hK
  clear q1 q2 hRa hXN h1n h6c hG hD
  have d2:(cd==1)=false:=by rw[hcd];rfl
  have d3:(cd==0)=false:=by rw[hcd];rfl
  clear hcd
  by_cases k6:k=6
  case pos=>
   have d4:(k==6)=true:=by rw[beq_iff_eq];exact k6
   replace k6:=Zh k6
   have y0:=Zc I 7 0 (.bool true)
   go_wp2_with(first|go_skip|(refine lG 8 I uC.out ?_)|(refine q_.s 6 I J ?_;clear I J y0;intro w4 I J;simp only[List.set]at I)|fail)
   try simp only[Exit.inBlock,Exit.then]
   refine rT I 6 uC.out ?_
   exact hPc.out E1 E2 wa wb v1 v2 _ hK.out (gA _ J) (gB _ J) I.below
  have d4:(k==6)=false:=by rw[beq_eq_false_iff_ne];exact k6
  replace k6:=Zh k6
  have y0:=Zc I 7 0 (.bool true)
  go_wp2_with(first|go_skip|(refine lG 8 I uC.out ?_)|(refine q_.s 6 I J ?_;clear I J y0;intro w4 I J;simp only[List.set]at I)|fail)
  try simp only[Exit.inBlock,Exit.then]
  refine rT I 6 uC.out ?_
  exact hPc.out E1 E2 wa wb v1 v2 _ hK.out (gA _ J) (gB _ J) I.below
 cases x1
 case' true=>
  have hX9:=hXN.out
  rw[if_neg (by decide),if_pos rfl]at hX9
  injection hX9 with q1 q2;injection q2 with q2 hcd
  have hK:=Zh (hRa.trans ((if_neg (by decide)).trans (if_pos rfl)))
  rw[←q1,←q2]at hK
  clear q1 q2 hRa hXN
  by_cases r1:r.code=1
  case pos=>
   have k6:k≠6:=fun e=>by have:=h6c.out e;omega
   obtain rfl:D=true:=by rw[←hD.out,bne_iff_ne];exact h1n.out r1
   obtain rfl:G=false:=by rw[←hG.out,r1];rfl
   have w1:=worN_one wb r1 k6
   have w2:=worN_one wa r1 k6
   have d4:(k==6)=false:=by rw[beq_eq_false_iff_ne];exact k6
   have d2:(cd==1)=false:=by rw[hcd];rfl
   rw[w1]at hK
   clear w1 w2 r1 hcd hG hD h1n h6c
   replace k6:=Zh k6
   have y0:=Zc I 7 0 (.bool false)
   go_wp2_with(first|go_skip|(refine q_.m 8 I J 66 (cplA ⟨E1,E2,tl,tr,f,per,frm,wa,true⟩ ⟨v1,v2,vl,vr,A,nf,cf⟩) ?_;clear I J y0;intro w4 I J;simp only[List.set]at I;have y0:=Zc I 7 0 (.bool false))|(refine lG 8 I uC.out ?_)|(refine q_.s 6 I J ?_;clear I J y0;intro w4 I J;simp only[List.set]at I)|fail)
   try simp only[Exit.inBlock,Exit.then]
   refine rT I 6 uC.out ?_
   exact hPc.out E1 E2 wa true v1 v2 _ hK.out (gA _ J) (gB _ J) I.below
  obtain rfl:G=true:=by rw[←hG.out,bne_iff_ne];exact r1
  have d2:(cd==1)=false:=by rw[hcd];rfl
  by_cases k6:k=6
  case pos=>
   have r0:=h6c.out k6
   rw[k6,worN_six wb r.code]at hK
   have d3:(cd==0)=false:=by rw[hcd];rfl
   have d4:(k==6)=true:=by rw[beq_iff_eq];exact k6
   clear r0 r1 hcd hG hD h1n h6c
   replace k6:=Zh k6
   cases D
   all_goals
    have y0:=Zc I 7 0 (.bool false)
    go_wp2_with(first|go_skip|(refine q_.m 8 I J 66 (cplA ⟨E1,E2,tl,tr,f,per,frm,wa,false⟩ ⟨v1,v2,vl,vr,A,nf,cf⟩) ?_;clear I J y0;intro w4 I J;simp only[List.set]at I;have y0:=Zc I 7 0 (.bool false))|(refine lG 8 I uC.out ?_)|(refine q_.s 6 I J ?_;clear I J y0;intro w4 I J;simp only[List.set]at I)|fail)
    try simp only[Exit.inBlock,Exit.then]
    refine rT I 6 uC.out ?_
    exact hPc.out E1 E2 wa false v1 v2 _ hK.out (gA _ J) (gB _ J) I.below
  rw[worN_oth wb r1 k6]at hK
  have d4:(k==6)=false:=by rw[beq_eq_false_iff_ne];exact k6
  clear r1 hcd hG hD h1n h6c
  replace k6:=Zh k6
  cases D
  all_goals
   have y0:=Zc I 7 0 (.bool false)
   go_wp2_with(first|go_skip|(refine lG 8 I uC.out ?_)|(refine q_.s 6 I J ?_;clear I J y0;intro w4 I J;simp only[List.set]at I)|fail)
   try simp only[Exit.inBlock,Exit.then]
   refine rT I 6 uC.out ?_
   exact hPc.out E1 E2 wa wb v1 v2 _ hK.out (gA _ J) (gB _ J) I.below
 have hX9:=hXN.out
 rw[if_neg (by decide),if_neg (by decide)]at hX9
 injection hX9 with q1 q2;injection q2 with q2 hcd
 have hK:=Zh (hRa.trans ((if_neg (by decide)).trans (if_neg (by decide))))
 rw[←q1,←q2]at hK
 clear q1 q2 hRa hXN
 by_cases r1:r.code=1
 case pos=>
  have k6:k≠6:=fun e=>by have:=h6c.out e;omega
  obtain rfl:D=true:=by rw[←hD.out,bne_iff_ne];exact h1n.out r1
  obtain rfl:G=false:=by rw[←hG.out,r1];rfl
  have w1:=worN_one wb r1 k6
  have w2:=worN_one wa r1 k6
  have d4:(k==6)=false:=by rw[beq_eq_false_iff_ne];exact k6
  have d2:(cd==1)=true:=by rw[hcd,r1];rfl
  rw[w1,w2]at hK
  clear w1 w2 r1 hcd hG hD h1n h6c
  replace k6:=Zh k6
  have y0:=Zc I 7 0 (.bool false)
  go_wp2_with(first|go_skip|(refine q_.m 8 I J 65 (cplA ⟨E1,E2,tl,tr,f,per,frm,true,wb⟩ ⟨v1,v2,vl,vr,A,nf,cf⟩) ?_;clear I J y0;intro w4 I J;simp only[List.set]at I;have y0:=Zc I 7 0 (.bool false))|(refine q_.m 8 I J 66 (cplA ⟨E1,E2,tl,tr,f,per,frm,true,true⟩ ⟨v1,v2,vl,vr,A,nf,cf⟩) ?_;clear I J y0;intro w4 I J;simp only[List.set]at I;have y0:=Zc I 7 0 (.bool false))|(refine lG 8 I uC.out ?_)|(refine q_.s 6 I J ?_;clear I J y0;intro w4 I J;simp only[List.set]at I)|fail)
  try simp only[Exit.inBlock,Exit.then]
  refine rT I 6 uC.out ?_
  exact hPc.out E1 E2 true true v1 v2 _ hK.out (gA _ J) (gB _ J) I.below
 obtain rfl:G=true:=by rw[←hG.out,bne_iff_ne];exact r1
 have d2:(cd==1)=false:=by rw[hcd];rw[beq_eq_false_iff_ne];exact r1
 by_cases k6:k=6
 case pos=>
  have r0:=h6c.out k6
  rw[k6,worN_six wb r.code,worN_six wa r.code]at hK
  have d3:(cd==0)=true:=by rw[hcd,r0];rfl
  have d4:(k==6)=true:=by rw[beq_iff_eq];exact k6
  clear r0 r1 hcd hG hD h1n h6c
  replace k6:=Zh k6
  cases D
  all_goals
   have y0:=Zc I 7 0 (.bool false)
   go_wp2_with(first|go_skip|(refine q_.m 8 I J 65 (cplA ⟨E1,E2,tl,tr,f,per,frm,false,wb⟩ ⟨v1,v2,vl,vr,A,nf,cf⟩) ?_;clear I J y0;intro w4 I J;simp only[List.set]at I;have y0:=Zc I 7 0 (.bool false))|(refine q_.m 8 I J 66 (cplA ⟨E1,E2,tl,tr,f,per,frm,false,false⟩ ⟨v1,v2,vl,vr,A,nf,cf⟩) ?_;clear I J y0;intro w4 I J;simp only[List.set]at I;have y0:=Zc I 7 0 (.bool false))|(refine lG 8 I uC.out ?_)|(refine q_.s 6 I J ?_;clear I J y0;intro w4 I J;simp only[List.set]at I)|fail)
   try simp only[Exit.inBlock,Exit.then]
   refine rT I 6 uC.out ?_
   exact hPc.out E1 E2 false false v1 v2 _ hK.out (gA _ J) (gB _ J) I.below
 rw[worN_oth wb r1 k6,worN_oth wa r1 k6]at hK
 have d4:(k==6)=false:=by rw[beq_eq_false_iff_ne];exact k6
 clear r1 hcd hG hD h1n h6c
 replace k6:=Zh k6
 cases D
 all_goals
  have y0:=Zc I 7 0 (.bool false)
  go_wp2_with(first|go_skip|(refine lG 8 I uC.out ?_)|(refine q_.s 6 I J ?_;clear I J y0;intro w4 I J;simp only[List.set]at I)|fail)
  try simp only[Exit.inBlock,Exit.then]
  refine rT I 6 uC.out ?_
  exact hPc.out E1 E2 wa wb v1 v2 _ hK.out (gA _ J) (gB _ J) I.below
end Tx
end Go.Proofs.YtfamifgchgolpaaGreat
