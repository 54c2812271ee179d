/- Chapter 28: exchange, the second end asking: the program's. -/
import Derived.Test.YtfamifgchgolpaaGreatSf
set_option linter.unusedVariables false
set_option linter.unusedSimpArgs false
set_option maxRecDepth 100000
set_option maxHeartbeats 16000000
namespace Go.Proofs.YtfamifgchgolpaaGreat
open Go Go.RowKit Go.Sort Go.Shelf Go.Maps
namespace Tx
open Sw Mm Pl
theorem exch1_any(ea eb:Ed)(tl tr:Tab)(f:List Int)(per frm:Int)(wa wb:Bool)(va vb:EdV)(vl vr:TabV)(A:Option Addr)(nf cf:Nat)(k n:Int)(x:Fate)(B:Nat)(a0 w:World)(L:List (Nat×Array Value×TypeId))(h0:Mem a0 w ((B,cplA ⟨ea,eb,tl,tr,f,per,frm,wa,wb⟩ ⟨va,vb,vl,vr,A,nf,cf⟩,70)::L))(hS:CplT a0 ⟨va,vb,vl,vr,A,nf,cf⟩ ⟨ea,eb,tl,tr,f,per,frm,wa,wb⟩ w)(hok:askC eb tr f k n 0=0→∃m y r z,RunIs eb ea tr tl f k n m y r z):Calls Tryz.prog 171 #[.pointer (some ⟨B,0,none⟩),.bool true,.int .i64 k,.int .i64 n,.agg (fateA x)] w (ExcPost a0 B L ⟨ea,eb,tl,tr,f,per,frm,wa,wb⟩ ⟨va,vb,vl,vr,A,nf,cf⟩ true k n x):=by
 have I:=Zh h0
 clear h0
 obtain⟨rq,rp,ra,rk⟩:=x
 have uE:=Tryz.underlying32
 have uT:=Tryz.underlying37
 have uM:=Tryz.underlying30
 have uP:=Tryz.underlying196
 have uB:=Tryz.underlying197
 have uQ:=Tryz.underlying199
 have uF:=Tryz.underlying24
 have uY:=Tryz.underlying40
 have hmf:∀(fn:Fn) (first cap:Array Value) (w:World),(Instr.makeFunc fn first cap).run Tryz.prog w= .ok (.func fn first cap) w:=fun _ _ _ _=>rfl
 obtain⟨F0,q_,J,gA,gB,gQ⟩:∃F:World→Prop,Stc F∧Hid (F w)∧Hid (∀W,F W→EdO a0 va ea W)∧Hid (∀W,F W→EdO a0 vb eb W)∧Hid (∀W,F W→RstO a0 vl vr A nf cf tl tr f W):=⟨_,((Stc.edO a0 va ea).and (Stc.edO a0 vb eb)).and (Stc.rstO a0 vl vr A nf cf tl tr f),⟨⟨hS.a,hS.b⟩,hS.q⟩,fun _ h=>h.1.1,fun _ h=>h.1.2,fun _ h=>h.2⟩
 clear hS
 have cP:=fun W L hM F q_ J=>parties_any ea eb tl tr f per frm wa wb va vb vl vr A nf cf true B a0 W L F hM q_ J
 unfold PtyPost ptyN at cP
 have cAs:=fun W (hb:Below a0.heap.size a0 W) (q:EdO a0 vb eb W) (qr:RstO a0 vl vr A nf cf tl tr f W)=>ask_any eb tr vb vr A nf cf f k n 0 W (q.is hb) (qr.tr hb) (qr.f.is hb).1
 unfold TriOwn at cAs
 have cR1:=fun vm W (hb:Below a0.heap.size a0 W) (q:EdO a0 va ea W) m (q2:MsgIs W vm m) (qr:RstO a0 vl vr A nf cf tl tr f W)=>receive_any ea tl f m va vl vm A nf cf W (q.is hb) (qr.tl hb) (qr.f.is hb).1 q2
 have cR2:=fun y vy vm W (hb:Below a0.heap.size a0 W) (q:EdIs W vy y) m (q2:MsgIs W vm m) (qr:RstO a0 vl vr A nf cf tl tr f W)=>receive_any y tl f m vy vl vm A nf cf W q (qr.tl hb) (qr.f.is hb).1 q2
 unfold TriOwn at cR1 cR2
 have hx0:=fun(h:askC eb tr f k n 0≠0)=>exchT_no (c:=⟨ea,eb,tl,tr,f,per,frm,wa,wb⟩) (k:=k) (n:=n) (x:=⟨rq,rp,ra,rk⟩) h
 have hx1:=fun m y r z (h0:askC eb tr f k n 0=0) (h:RunIs eb ea tr tl f k n m y r z)=>exchT_yes (c:=⟨ea,eb,tl,tr,f,per,frm,wa,wb⟩) (k:=k) (n:=n) h0 h ⟨rq,rp,ra,rk⟩
 generalize hP:ExcPost a0 B L ⟨ea,eb,tl,tr,f,per,frm,wa,wb⟩ ⟨va,vb,vl,vr,A,nf,cf⟩ true k n ⟨rq,rp,ra,rk⟩=P
 have hPo:∀c' bb va' vb' W,exchN ⟨ea,eb,tl,tr,f,per,frm,wa,wb⟩ true k n ⟨rq,rp,ra,rk⟩=(c',bb)→Mem a0 W ((B,cplA c' ⟨va',vb',vl,vr,A,nf,cf⟩,70)::L)→EdO a0 va' c'.a W→EdO a0 vb' c'.b W→RstO a0 vl vr A nf cf tl tr f W→(c'.left=tl∧c'.right=tr∧c'.free=f)→P (.returned (.bool bb)) W:=fun c' bb va' vb' W e q1 q2 q3 q4 ⟨l1,l2,l3⟩=>by
  rw[←hP]
  unfold ExcPost
  rw[e]
  exact⟨va',vb',rfl,q1,q2,q3,by rw[l1,l2,l3];exact q4⟩
 clear hP
 generalize exchN ⟨ea,eb,tl,tr,f,per,frm,wa,wb⟩ true k n ⟨rq,rp,ra,rk⟩=XR at*
 generalize hO:askE eb tr f k n 0=O at*
 generalize hm:askN eb tr f k n 0=m at*
 generalize hC:askC eb tr f k n 0=C at*
 refine zh12 ?_ cP cAs cR1 cR2 hx0 hx1 hPo hO hm hC hok uE;clear cP cAs cR1 cR2 hx0 hx1 hPo hO hm hC hok uE;intro cP cAs cR1 cR2 hx0 hx1 hPo hO hm hC hok uE
 refine zh7 ?_ uT uM uP uB uQ uF uY;clear uT uM uP uB uQ uF uY;intro uT uM uP uB uQ uF uY
 go_enter_defers Tryz.func171,Tryz.ntmps171
 go_upto_region 1 with(first|go_skip|(refine q_.b I J 40 ?_;clear I J;intro gy w1 I J)|fail)
 replace I:=Zh I.swap2
 have mk1:Unit:=()
 have mk2:Unit:=()
 go_upto_region 2 with(first|go_skip|(go_at_call 169;refine(cP _ _ I.out _ q_ J).mono ?_;rintro r w3 ⟨rfl,q1,q2⟩;clear I J;have I:=Zh q1;have J:=Zh q2;clear q1 q2;simp only[Bool.not_true,Bool.not_false,if_true,Bool.false_eq_true,if_false])|(clear mk1;refine q_.a I J paInfo ?_;clear I J;intro pa w1 I J)|(clear mk2;refine q_.a I J paInfo ?_;clear I J;intro pb w1 I J)|(refine q_.s 1 I J ?_;clear I J;intro w4 I J;simp only[List.set]at I)|(refine q_.s 0 I J ?_;clear I J;intro w4 I J;simp only[List.set]at I)|fail)
 try go_frame
 go_cut[13,14,15]from 23 to 39 (fun s13 s14 s15 wx=>∃ge gm vo vm,s13= .pointer (some ⟨ge,0,none⟩)∧s14= .pointer (some ⟨gm,0,none⟩)∧s15= .int .i64 C∧Hid (Mem a0 wx ((ge,endA O vo,32)::(gm,msgA m vm,30)::(pb,ptyA B 0 65 tl vl,199)::(pa,ptyA B 28 66 tr vr,199)::(B,cplA ⟨ea,eb,tl,tr,f,per,frm,wa,wb⟩ ⟨va,vb,vl,vr,A,nf,cf⟩,70)::(gy,fateA ⟨rq,rp,ra,rk⟩,40)::L))∧Hid (EdO a0 va ea wx∧EdO a0 vb eb wx∧RstO a0 vl vr A nf cf tl tr f wx)∧Hid (EdOwn wx vo O)∧Hid (MsgSub wx vm m))
 case first=>
  replace J:=Zh (q_.keep J ((Below.refl _ _).drew))
  replace I:=Zh (I.keep ((Below.refl _ _).drew))
  have HMs:=Zh I.out
  refine wp_region_pt (fun w'=>Mem _ w' _) 21 (.take 0 (.take 1 (.take 2 (.take 3 (.take 4 (.take 5 (.take 6 (.take 7 (.take 8 (.take 9 (.take 10 (.take 11 (.three 12 (.take 13 (.take 14 (.take 15 (.take 16 (.fork 17 (.only 18 (.only 19 (.only 20 .done))) 18 (.only 17 (.only 19 (.only 20 .done)))))))) 17 (.fork 12 (.take 13 (.take 14 (.take 15 (.take 16 (.only 18 (.only 19 (.only 20 .done))))))) 18 (.only 12 (.take 13 (.take 14 (.take 15 (.take 16 (.only 19 (.only 20 .done)))))))) 18 (.fork 12 (.take 13 (.take 14 (.take 15 (.take 16 (.only 17 (.only 19 (.only 20 .done))))))) 17 (.only 12 (.take 13 (.take 14 (.take 15 (.take 16 (.only 19 (.only 20 .done))))))))))))))))))))) (by kernel_rfl) (by kernel_rfl) HMs.out ?_
  clear HMs
  generalize World.drew _=wd at*
  iterate 1 (refine ptPure rfl rfl (by intro w_ hSw;clear hSw;go_simp;first|done|exact rfl) ?_;try go_frame)
  refine ptTake (by rfl) (yc 1 0 (.pointer (some ⟨B,28,none⟩)) uP.out) ?_
  try go_frame
  iterate 1 (refine ptPure rfl rfl (by intro w_ hSw;clear hSw;go_simp;first|done|exact rfl) ?_;try go_frame)
  refine ptTake (by rfl) (ym 2 (endA eb vb) uE.out) ?_
  try go_frame
  iterate 1 (refine ptPure rfl rfl (by intro w_ hSw;clear hSw;go_simp;first|done|exact rfl) ?_;try go_frame)
  refine ptTake (by rfl) (ym 1 (tabA tr vr) uT.out) ?_
  try go_frame
  iterate 3 (refine ptPure rfl rfl (by intro w_ hSw;clear hSw;go_simp;first|done|exact rfl) ?_;try go_frame)
  refine ptTake (by rfl) (yc 2 62 (.slice A nf cf) uF.out) ?_
  try go_frame
  iterate 2 (refine ptPure rfl rfl (by intro w_ hSw;clear hSw;go_simp;first|done|exact rfl) ?_;try go_frame)
  refine ptThree rfl rfl rfl rfl rfl rfl (fun K hK=> ?_) (fun K hK=> ?_) (fun K hK=> ?_)
  all_goals
   repeat' (first
    |(refine ptFork rfl rfl rfl rfl (fun K hK=> ?_) (fun K hK=> ?_))
    |(refine ptOnly rfl rfl fun K hK=> ?_)
    |(refine ptPure rfl rfl (by intro w_ hSw;clear hSw;go_simp;first|done|exact rfl) ?_;try go_frame)
    |(go_wp2_with(first|(go_at_call 11;refine(cAs _ I.below (gB _ J) (gQ _ J)).mono ?_;rintro r w3 ⟨vo,vm,rfl,hE,hM,p_⟩;replace I:=Zm I p_;replace J:=q_.z J p_;clear p_;obtain⟨F1,hFs2,hF2,hU,hNw⟩:=stc_add q_ J (Stc.ed vo _) hE;clear q_ J;replace gA:=Zu gA hU;replace gB:=Zu gB hU;replace gQ:=Zu gQ hU;have gE:=Zh hNw;clear hNw hU hE;have q_:=hFs2;have J:=hF2;clear hFs2 hF2;obtain⟨F1,hFs2,hF2,hU,hNw⟩:=stc_add q_ J (Stc.sub vm _) hM;clear q_ J;replace gA:=Zu gA hU;replace gB:=Zu gB hU;replace gQ:=Zu gQ hU;replace gE:=Zu gE hU;have gM:=Zh hNw;clear hNw hU hM;have q_:=hFs2;have J:=hF2;clear hFs2 hF2)|(refine q_.a I J edInfo ?_;clear I J;intro ge w1 I J)|(refine q_.a I J msgInfo ?_;clear I J;intro gm w1 I J)|(refine q_.s 0 I J ?_;clear I J;intro w4 I J;simp only[List.set]at I)|(refine q_.s 1 I J ?_;clear I J;intro w4 I J;simp only[List.set]at I)|(refine q_.s 0 I J ?_;clear I J;intro w4 I J;simp only[List.set]at I)|(refine q_.s 1 I J ?_;clear I J;intro w4 I J;simp only[List.set]at I)|fail);refine hK _ _ (by first|exact I.tail.tail|exact I.tail|exact I.out) fun hS_=> ?_;clear hK K hS_;try go_frame))
  all_goals
   refine ptDone ?_
   simp only[List.drop]
   go_wp2_with(first|go_skip|fail)
   go_meet
   exact⟨ge,gm,vo,vm,rfl,rfl,rfl,by first|exact I|exact Zh I.swap2,⟨gA _ J,gB.out _ J,gQ.out _ J⟩,gE.out _ J,gM.out _ J⟩
 case rest=>
  clear I J q_ gA gB gQ F0 cAs cP
  obtain⟨ge,gm,vo,vm,rfl,rfl,rfl,I,h1,h2,h3⟩:=hcut
  obtain⟨F0,q_,J,gA,gB,gQ,gE,gM⟩:∃F:World→Prop,Stc F∧Hid (F _)∧Hid (∀W,F W→EdO a0 va ea W)∧Hid (∀W,F W→EdO a0 vb eb W)∧Hid (∀W,F W→RstO a0 vl vr A nf cf tl tr f W)∧Hid (∀W,F W→EdOwn W vo O)∧Hid (∀W,F W→MsgSub W vm m):=⟨_,((Stc.edO a0 va ea).and ((Stc.edO a0 vb eb).and (Stc.rstO a0 vl vr A nf cf tl tr f))).and ((Stc.ed vo O).and (Stc.sub vm m)),⟨h1.out,h2.out,h3.out⟩,fun _ h=>h.1.1,fun _ h=>h.1.2.1,fun _ h=>h.1.2.2,fun _ h=>h.2.1,fun _ h=>h.2.2⟩
  clear h1 h2 h3
  by_cases e0:C=0
  case neg=>
   have d1:(C !=0)=true:=by rw[bne_iff_ne];exact e0
   have hXR:=Zh (hx0 e0)
   replace e0:=Zh e0
   go_wp2_with fail
   try simp only[Exit.inBlock,Exit.then]
   refine⟨_,results_tmp rfl _ _ _,?_⟩
   exact hPo.out _ _ va vb _ hXR.out (I.sub (by repeat(first|exact List.Sublist.refl _|apply List.Sublist.cons_cons|apply List.Sublist.cons))) (gA _ J) (gB _ J) (gQ _ J) ⟨rfl,rfl,rfl⟩
  subst e0
  obtain⟨m',y,r,z,hR⟩:=hok.out rfl
  have hXR:=Zh (hx1 m' y r z rfl hR)
  obtain rfl:m'=m:=hR.e2.symm.trans hm.out
  have hO2:O=openE eb m' 0:=hO.symm.trans hR.e1
  have hX1:=hR.exp1
  rw[←hO2]at hX1
  have hX2:=hR.exp2
  have hFi:=hR.fin
  rw[←hO2]at hFi
  have hFc:=hR.c2
  rw[←hO2]at hFc
  have cR1':=fun vm W hb q q2 qr=>cR1.out vm W hb q m' q2 qr
  have cR2':=fun vy vm W hb q q2 qr=>cR2.out y vy vm W hb q m' q2 qr
  rw[hR.one]at cR1'
  rw[hR.again]at cR2'
  have cFi:=fun vo vr W (q:EdIs W vo O) (q2:MsgIs W vr r)=>finish_any O r vo vr W q q2
  unfold EndOwn at cFi
  rw[hFi,hFc]at cFi
  dsimp only at cR1' cR2'
  generalize recvC ea tl m'=RC1 at*
  generalize recvC y tl m'=RC2 at*
  clear hR cR1 cR2 hx0 hx1 hO hm hC hok hO2 hFi hFc
  have cD1:=fun ve y vy wx wy W hM F q_ J hE=>exDef1_any O y tl tr f per frm wx wy ve vy vl vr A nf cf B pa a0 W L F hM q_ J hE
  have cD2:=fun ve y vy wx wy W hM F q_ J hE=>exDef1_any z y tl tr f per frm wx wy ve vy vl vr A nf cf B pa a0 W L F hM q_ J hE
  rw[hX1]at cD1
  rw[hX2]at cD2
  clear hX1 hX2
  replace cR1':=Zh cR1'
  replace cR2':=Zh cR2'
  refine zh3 ?_ cFi cD1 cD2;clear cFi cD1 cD2;intro cFi cD1 cD2
  go_upto_region 6 with fail
  have pp:=Zc I 3 0 (.pointer (some ⟨B,28,none⟩))
  go_upto_region 7 with(first|go_skip|(refine lG 0 I uE.out ?_)|(refine q_.m 4 I J 28 (cplA ⟨ea,O,tl,tr,f,per,frm,wa,wb⟩ ⟨va,vo,vl,vr,A,nf,cf⟩) ?_;clear I J;intro w4 I J;simp only[List.set]at I)|fail)
  clear pp
  have pq:=Zc I 5 0 (.bool rq)
  cases rq
  case true=>
   go_wp2_with fail
   try simp only[Exit.inBlock,Exit.then]
   refine leaves_cons (f:=213) (args:=#[.pointer (some ⟨pa,0,none⟩)]) (by simp) (by simp[go_sem]) ?_
   refine(cD1 vo ea _ wb wa _ (I.sub (by repeat(first|exact List.Sublist.refl _|apply List.Sublist.cons_cons|apply List.Sublist.cons))) _ q_ J (gE _ J)).mono ?_
   rintro e u' w9 ⟨rfl,rfl,vx,q1,q2,q3⟩
   refine⟨_,results_tmp rfl _ _ _,?_⟩
   exact hPo.out _ _ va vx _ hXR.out (q1.tail) (gA _ q2) (EdO.of_own q3) (gQ _ q2) ⟨rfl,rfl,rfl⟩
  have mk3:Unit:=()
  go_upto_region 10 with(first|go_skip|(clear mk3;refine q_.a I J msgInfo ?_;clear I J;intro gr w1 I J)|fail)
  clear pq
  obtain⟨W9,hW9⟩:∃b:Bool,worN wa r.code k=b:=⟨_,rfl⟩
  rw[hW9]at hXR
  obtain⟨W5,hW5⟩:∃b:Bool,worN wb r.code k=b:=⟨_,rfl⟩
  rw[hW5]at hXR
  have hW8:worN W9 r.code k=W9:=by rw[←hW9];unfold worN;generalize decide (r.code=1)=x;generalize decide (k=6)=y;cases wa<;>cases x<;>cases y<;>rfl
  refine zh4 ?_ hXR hW9 hW8 hW5;clear hXR hW9 hW8 hW5;intro hXR hW9 hW8 hW5
  go_upto_block 0 with fail
  try go_frame
  go_cut[]from 49 to 89 (fun wx=>∃vy vq,Hid (Mem a0 wx ((gr,msgA r vq,30)::(ge,endA O vo,32)::(gm,msgA m' vm,30)::(pb,ptyA B 0 65 tl vl,199)::(pa,ptyA B 28 66 tr vr,199)::(B,cplA ⟨y,O,tl,tr,f,per,frm,W9,wb⟩ ⟨vy,vo,vl,vr,A,nf,cf⟩,70)::(gy,fateA ⟨false,rp,ra,rk⟩,40)::L))∧Hid (EdOwn wx vo O∧MsgSub wx vm m'∧EdOwn wx vy y∧MsgSub wx vq r∧RstO a0 vl vr A nf cf tl tr f wx))
  case first=>
   have q1:=Zh (gE _ J)
   have q2:=Zh (gM _ J)
   have q3:=Zh (gA _ J)
   have q4:=Zh (gQ _ J)
   clear q_ J gA gB gQ gE gM F0
   go_wp2_with fail
   go_loopw[49] (fun i wr=>Hid ((i= .int .i64 0∧Mem a0 wr ((gr,msgA msg0 msgV0,30)::(ge,endA O vo,32)::(gm,msgA m' vm,30)::(pb,ptyA B 0 65 tl vl,199)::(pa,ptyA B 28 66 tr vr,199)::(B,cplA ⟨ea,O,tl,tr,f,per,frm,wa,wb⟩ ⟨va,vo,vl,vr,A,nf,cf⟩,70)::(gy,fateA ⟨false,rp,ra,rk⟩,40)::L)∧EdOwn wr vo O∧MsgSub wr vm m'∧EdO a0 va ea wr∧RstO a0 vl vr A nf cf tl tr f wr)∨((i= .int .i64 1∨i= .int .i64 2)∧ra=true∧∃vy vq,Mem a0 wr ((gr,msgA r vq,30)::(ge,endA O vo,32)::(gm,msgA m' vm,30)::(pb,ptyA B 0 65 tl vl,199)::(pa,ptyA B 28 66 tr vr,199)::(B,cplA ⟨y,O,tl,tr,f,per,frm,W9,wb⟩ ⟨vy,vo,vl,vr,A,nf,cf⟩,70)::(gy,fateA ⟨false,rp,ra,rk⟩,40)::L)∧EdOwn wr vo O∧MsgSub wr vm m'∧EdOwn wr vy y∧MsgSub wr vq r∧RstO a0 vl vr A nf cf tl tr f wr))) (fun i _=>2-(intOf i).toNat)
   case atStart=>exact Zh (.inl ⟨rfl,I.out,q1.out,q2.out,q3.out,q4.out⟩)
   case round=>
    clear I q1 q2 q3 q4
    rcases hrel.out with⟨rfl,I,q1,q2,q3,q4⟩|⟨rfl|rfl,rfl,vy,vq,I,q1,q2,q3,q4,q5⟩
    ·obtain⟨F1,q_,J,gE,gM,gYY,gQ⟩:∃F:World→Prop,Stc F∧Hid (F _)∧Hid (∀W,F W→EdOwn W vo O)∧Hid (∀W,F W→MsgSub W vm m')∧Hid (∀W,F W→EdO a0 va ea W)∧Hid (∀W,F W→RstO a0 vl vr A nf cf tl tr f W):=⟨_,((Stc.ed vo O).and (Stc.sub vm m')).and ((Stc.edO a0 va ea).and (Stc.rstO a0 vl vr A nf cf tl tr f)),⟨⟨q1,q2⟩,q3,q4⟩,fun _ h=>h.1.1,fun _ h=>h.1.2,fun _ h=>h.2.1,fun _ h=>h.2.2⟩
     clear q1 q2 q3 q4 hrel
     replace I:=Zh I
     go_upto_region 12 with fail
     replace J:=Zh (q_.keep J ((Below.refl _ _).drew))
     replace I:=Zh (I.keep ((Below.refl _ _).drew))
     have HMs:=Zh I.out
     refine wp_region_two (fun w'=>Mem _ w' _) 19 [(0,1),(1,2),(2,1),(3,2),(4,1),(5,2),(6,1),(7,2),(8,1),(9,1),(10,1),(11,2),(12,2),(13,0),(14,1),(15,1),(16,1),(17,1),(18,1),(19,0),(20,0)] (by kernel_rfl) (by kernel_rfl) HMs.out ?_
     clear HMs
     generalize World.drew _=wd at*
     repeat(refine p2Q ?_;try go_frame)
     refine p2Take (by rfl) (yc 3 0 (.pointer (some ⟨B,0,none⟩)) uP.out) ?_
     try go_frame
     repeat(refine p2Q ?_;try go_frame)
     refine p2Take (by rfl) (yc 3 0 (.pointer (some ⟨B,0,none⟩)) uP.out) ?_
     try go_frame
     repeat(refine p2Q ?_;try go_frame)
     refine p2Take (by rfl) (ym 5 (endA ea va) uE.out) ?_
     try go_frame
     repeat(refine p2Q ?_;try go_frame)
     refine p2Take (by rfl) (ym 3 (tabA tl vl) uT.out) ?_
     try go_frame
     repeat(refine p2Q ?_;try go_frame)
     refine p2Take (by rfl) (yc 5 62 (.slice A nf cf) Tryz.underlying24) ?_
     try go_frame
     repeat(refine p2Q ?_;try go_frame)
     refine p2Take (by rfl) (ym 2 (msgA m' vm) uM.out) ?_
     try go_frame
     repeat(refine p2Q ?_;try go_frame)
     refine p2Step rfl rfl fun K hK=> ?_
     go_wp2_with(first|(go_at_call 15;refine(cR1' _ _ I.below (gYY _ J) (gM _ J).is (gQ _ J)).mono ?_;rintro r w3 ⟨vy,vq,rfl,hE,hR,p_⟩)|fail)
     refine hK _ _ (fun _=>I.keep p_) fun hS_=> ?_
     clear hK K hS_
     try go_frame
     replace I:=Zm I p_
     replace J:=q_.z J p_
     clear p_
     refine sC q_ J (Stc.ed vy _) hE ?_
     clear q_ J hE
     intro F1 q_ J hU gN
     replace gE:=Zu gE hU
     replace gM:=Zu gM hU
     replace gYY:=Zu gYY hU
     replace gQ:=Zu gQ hU
     clear hU
     refine sC q_ J (Stc.sub vq _) hR ?_
     clear q_ J hR
     intro F2 q_ J hU gR
     replace gE:=Zu gE hU
     replace gM:=Zu gM hU
     replace gYY:=Zu gYY hU
     replace gQ:=Zu gQ hU
     replace gN:=Zu gN hU
     clear hU
     repeat(refine p2Q ?_;try go_frame)
     refine p2Step rfl rfl fun K hK=> ?_
     go_wp2_with(first|(refine q_.m 5 I J 0 (cplA ⟨y,O,tl,tr,f,per,frm,wa,wb⟩ ⟨vy,vo,vl,vr,A,nf,cf⟩) ?_;clear I J;intro w4 I J;simp only[List.set]at I)|fail)
     refine hK _ _ (fun h=>absurd h (by decide)) fun hS_=> ?_
     clear hK K hS_
     try go_frame
     repeat(refine p2Q ?_;try go_frame)
     refine p2Step rfl rfl fun K hK=> ?_
     go_wp2_with(first|(refine q_.m 0 I J 0 (msgA r vq) ?_;clear I J;intro w4 I J;simp only[List.set]at I)|fail)
     refine hK _ _ (fun h=>absurd h (by decide)) fun hS_=> ?_
     clear hK K hS_
     try go_frame
     refine p2Done ?_
     go_upto_region 13 with fail
     try go_frame
     go_cut[]from 70 to 85 (fun wx=>Hid (Mem a0 wx ((gr,msgA r vq,30)::(ge,endA O vo,32)::(gm,msgA m' vm,30)::(pb,ptyA B 0 65 tl vl,199)::(pa,ptyA B 28 66 tr vr,199)::(B,cplA ⟨y,O,tl,tr,f,per,frm,W9,wb⟩ ⟨vy,vo,vl,vr,A,nf,cf⟩,70)::(gy,fateA ⟨false,rp,ra,rk⟩,40)::L))∧Hid (EdOwn wx vo O∧MsgSub wx vm m'∧EdOwn wx vy y∧MsgSub wx vq r∧RstO a0 vl vr A nf cf tl tr f wx))
     case first=>
      cases wa<;>by_cases e1:r.code=1<;>by_cases e2:k=6
      all_goals
       have hh:=hW9.out
       unfold worN at hh
       first|rw[decide_eq_true e1]at hh|rw[decide_eq_false e1]at hh
       first|rw[decide_eq_true e2]at hh|rw[decide_eq_false e2]at hh
       first
       |(have d1:(r.code==1)=true:=by rw[beq_iff_eq];exact e1)
       |(have d1:(r.code==1)=false:=by rw[beq_eq_false_iff_ne];exact e1)
       first
       |(have d2:(k !=6)=true:=by rw[bne_iff_ne];exact e2)
       |(have d2:(k !=6)=false:=by rw[bne_eq_false_iff_eq];exact e2)
       replace e1:=Zh e1
       replace e2:=Zh e2
       replace J:=Zh (q_.keep J ((Below.refl _ _).drew))
       replace I:=Zh (I.keep ((Below.refl _ _).drew))
       have HMs:=Zh I.out
       refine wp_region_plan (fun w'=>Mem _ w' _) 15 [(0,true),(1,true),(2,true),(3,true),(4,true),(5,true),(6,true),(7,true),(8,true),(9,true),(10,true),(11,true),(12,true),(13,true),(14,true)] (by kernel_rfl) (by kernel_rfl) HMs.out ?_
       generalize World.drew _=wd at*
       refine plPure rfl rfl (by intro w_ hSw;go_simp;first|done|exact rfl) ?_
       try go_frame
       refine plTakeL (by rfl) (yc 3 4 (.pointer (some ⟨B,65,none⟩)) uB.out) ?_
       try go_frame
       refine plPure rfl rfl (by intro w_ hSw;go_simp;first|done|exact rfl) ?_
       try go_frame
       refine plTakeL (by rfl) (yc 3 4 (.pointer (some ⟨B,65,none⟩)) uB.out) ?_
       try go_frame
       refine plPure rfl rfl (by intro w_ hSw;go_simp;first|done|exact rfl) ?_
       try go_frame
       repeat(first|(refine plTakeL rfl (yields_celG rfl _ _ rfl 0 (fun w_ hSw=>hSw) rfl _ rfl _ rfl _ (by first|exact Tryz.underlying3|exact Tryz.underlying4|exact Tryz.underlying28|exact Tryz.underlying27) (by rfl)) ?_;try go_frame)|(refine plTakeL rfl (yields_celG rfl _ _ rfl 5 (fun w_ hSw=>hSw) rfl _ rfl _ rfl _ (by first|exact Tryz.underlying3|exact Tryz.underlying4|exact Tryz.underlying28|exact Tryz.underlying27) (by rfl)) ?_;try go_frame)|(refine plPureG rfl rfl (by intro w_ hSw;go_simp;first|done|exact rfl) ?_;try go_frame)|(refine plSkipG rfl rfl ?_;try go_frame))
       refine plDone ?_
       simp only[List.drop]
       go_wp2_with(first|go_skip|(refine wpList_storeM 5 I rfl _ _ _ rfl _ 65 rfl rfl _ (by conv=> {lhs;whnf}) (by exact zbool) (by kernel_rfl) (Nat.le_of_ble_eq_true (by kernel_rfl)) (cplA ⟨y,O,tl,tr,f,per,frm,W9,wb⟩ ⟨vy,vo,vl,vr,A,nf,cf⟩) (by rw[←hh];kernel_rfl) ?_;have hBq:=I.at_ 5 rfl;clear I;intro w4 I hG4;simp only[List.set]at I;replace J:=q_.p J hBq hG4;clear hBq hG4)|fail)
       go_meet
       exact⟨I,gE.out _ J,gM.out _ J,gN.out _ J,gR.out _ J,gQ.out _ J⟩
     case rest=>
      clear I J q_
      obtain⟨I,q0⟩:=hcut
      obtain⟨q1,q2,q3,q4,q5⟩:=q0.out
      clear q0
      have pra:=Zc I 6 2 (.bool ra)
      cases ra
      case false=>
       go_wp2_with fail
       go_meet
       exact⟨vy,vq,I,q1,q2,q3,q4,q5⟩
      case true=>
       go_wp2_with fail
       go_roundw
       case rel=>exact Zh (.inr ⟨.inl rfl,trivial,vy,vq,I.out,q1,q2,q3,q4,q5⟩)
       case measure=>simp[intOf]
    ·obtain⟨vy0,rfl⟩:∃v,v=vy:=⟨_,rfl⟩
     obtain⟨F1,q_,J,gE,gM,gYY,gQ⟩:∃F:World→Prop,Stc F∧Hid (F _)∧Hid (∀W,F W→EdOwn W vo O)∧Hid (∀W,F W→MsgSub W vm m')∧Hid (∀W,F W→EdOwn W vy0 y)∧Hid (∀W,F W→RstO a0 vl vr A nf cf tl tr f W):=⟨_,((Stc.ed vo O).and (Stc.sub vm m')).and ((Stc.ed vy0 y).and (Stc.rstO a0 vl vr A nf cf tl tr f)),⟨⟨q1,q2⟩,q3,q5⟩,fun _ h=>h.1.1,fun _ h=>h.1.2,fun _ h=>h.2.1,fun _ h=>h.2.2⟩
     clear q1 q2 q3 q4 q5 hrel
     replace I:=Zh I
     go_upto_region 12 with fail
     replace J:=Zh (q_.keep J ((Below.refl _ _).drew))
     replace I:=Zh (I.keep ((Below.refl _ _).drew))
     have HMs:=Zh I.out
     refine wp_region_two (fun w'=>Mem _ w' _) 19 [(0,1),(1,2),(2,1),(3,2),(4,1),(5,2),(6,1),(7,2),(8,1),(9,1),(10,1),(11,2),(12,2),(13,0),(14,1),(15,1),(16,1),(17,1),(18,1),(19,0),(20,0)] (by kernel_rfl) (by kernel_rfl) HMs.out ?_
     clear HMs
     generalize World.drew _=wd at*
     repeat(refine p2Q ?_;try go_frame)
     refine p2Take (by rfl) (yc 3 0 (.pointer (some ⟨B,0,none⟩)) uP.out) ?_
     try go_frame
     repeat(refine p2Q ?_;try go_frame)
     refine p2Take (by rfl) (yc 3 0 (.pointer (some ⟨B,0,none⟩)) uP.out) ?_
     try go_frame
     repeat(refine p2Q ?_;try go_frame)
     refine p2Take (by rfl) (ym 5 (endA y vy0) uE.out) ?_
     try go_frame
     repeat(refine p2Q ?_;try go_frame)
     refine p2Take (by rfl) (ym 3 (tabA tl vl) uT.out) ?_
     try go_frame
     repeat(refine p2Q ?_;try go_frame)
     refine p2Take (by rfl) (yc 5 62 (.slice A nf cf) Tryz.underlying24) ?_
     try go_frame
     repeat(refine p2Q ?_;try go_frame)
     refine p2Take (by rfl) (ym 2 (msgA m' vm) uM.out) ?_
     try go_frame
     repeat(refine p2Q ?_;try go_frame)
     refine p2Step rfl rfl fun K hK=> ?_
     go_wp2_with(first|(go_at_call 15;refine(cR2' _ _ _ I.below (gYY _ J).is (gM _ J).is (gQ _ J)).mono ?_;rintro r w3 ⟨vy,vq,rfl,hE,hR,p_⟩)|fail)
     refine hK _ _ (fun _=>I.keep p_) fun hS_=> ?_
     clear hK K hS_
     try go_frame
     replace I:=Zm I p_
     replace J:=q_.z J p_
     clear p_
     refine sC q_ J (Stc.ed vy _) hE ?_
     clear q_ J hE
     intro F1 q_ J hU gN
     replace gE:=Zu gE hU
     replace gM:=Zu gM hU
     replace gYY:=Zu gYY hU
     replace gQ:=Zu gQ hU
     clear hU
     refine sC q_ J (Stc.sub vq _) hR ?_
     clear q_ J hR
     intro F2 q_ J hU gR
     replace gE:=Zu gE hU
     replace gM:=Zu gM hU
     replace gYY:=Zu gYY hU
     replace gQ:=Zu gQ hU
     replace gN:=Zu gN hU
     clear hU
     repeat(refine p2Q ?_;try go_frame)
     refine p2Step rfl rfl fun K hK=> ?_
     go_wp2_with(first|(refine q_.m 5 I J 0 (cplA ⟨y,O,tl,tr,f,per,frm,W9,wb⟩ ⟨vy,vo,vl,vr,A,nf,cf⟩) ?_;clear I J;intro w4 I J;simp only[List.set]at I)|fail)
     refine hK _ _ (fun h=>absurd h (by decide)) fun hS_=> ?_
     clear hK K hS_
     try go_frame
     repeat(refine p2Q ?_;try go_frame)
     refine p2Step rfl rfl fun K hK=> ?_
     go_wp2_with(first|(refine q_.m 0 I J 0 (msgA r vq) ?_;clear I J;intro w4 I J;simp only[List.set]at I)|fail)
     refine hK _ _ (fun h=>absurd h (by decide)) fun hS_=> ?_
     clear hK K hS_
     try go_frame
     refine p2Done ?_
     obtain⟨W7,hW7⟩:∃b:Bool,worN W9 r.code k=b:=⟨_,rfl⟩
     replace hW7:=Zh hW7
     go_upto_region 13 with fail
     try go_frame
     go_cut[]from 70 to 85 (fun wx=>Hid (Mem a0 wx ((gr,msgA r vq,30)::(ge,endA O vo,32)::(gm,msgA m' vm,30)::(pb,ptyA B 0 65 tl vl,199)::(pa,ptyA B 28 66 tr vr,199)::(B,cplA ⟨y,O,tl,tr,f,per,frm,W7,wb⟩ ⟨vy,vo,vl,vr,A,nf,cf⟩,70)::(gy,fateA ⟨false,rp,true,rk⟩,40)::L))∧Hid (EdOwn wx vo O∧MsgSub wx vm m'∧EdOwn wx vy y∧MsgSub wx vq r∧RstO a0 vl vr A nf cf tl tr f wx))
     case first=>
      cases W9<;>by_cases e1:r.code=1<;>by_cases e2:k=6
      all_goals
       have hh:=hW7.out
       unfold worN at hh
       first|rw[decide_eq_true e1]at hh|rw[decide_eq_false e1]at hh
       first|rw[decide_eq_true e2]at hh|rw[decide_eq_false e2]at hh
       first
       |(have d1:(r.code==1)=true:=by rw[beq_iff_eq];exact e1)
       |(have d1:(r.code==1)=false:=by rw[beq_eq_false_iff_ne];exact e1)
       first
       |(have d2:(k !=6)=true:=by rw[bne_iff_ne];exact e2)
       |(have d2:(k !=6)=false:=by rw[bne_eq_false_iff_eq];exact e2)
       replace e1:=Zh e1
       replace e2:=Zh e2
       replace J:=Zh (q_.keep J ((Below.refl _ _).drew))
       replace I:=Zh (I.keep ((Below.refl _ _).drew))
       have HMs:=Zh I.out
       refine wp_region_plan (fun w'=>Mem _ w' _) 15 [(0,true),(1,true),(2,true),(3,true),(4,true),(5,true),(6,true),(7,true),(8,true),(9,true),(10,true),(11,true),(12,true),(13,true),(14,true)] (by kernel_rfl) (by kernel_rfl) HMs.out ?_
       generalize World.drew _=wd at*
       refine plPure rfl rfl (by intro w_ hSw;go_simp;first|done|exact rfl) ?_
       try go_frame
       refine plTakeL (by rfl) (yc 3 4 (.pointer (some ⟨B,65,none⟩)) uB.out) ?_
       try go_frame
       refine plPure rfl rfl (by intro w_ hSw;go_simp;first|done|exact rfl) ?_
       try go_frame
       refine plTakeL (by rfl) (yc 3 4 (.pointer (some ⟨B,65,none⟩)) uB.out) ?_
       try go_frame
       refine plPure rfl rfl (by intro w_ hSw;go_simp;first|done|exact rfl) ?_
       try go_frame
       repeat(first|(refine plTakeL rfl (yields_celG rfl _ _ rfl 0 (fun w_ hSw=>hSw) rfl _ rfl _ rfl _ (by first|exact Tryz.underlying3|exact Tryz.underlying4|exact Tryz.underlying28|exact Tryz.underlying27) (by rfl)) ?_;try go_frame)|(refine plTakeL rfl (yields_celG rfl _ _ rfl 5 (fun w_ hSw=>hSw) rfl _ rfl _ rfl _ (by first|exact Tryz.underlying3|exact Tryz.underlying4|exact Tryz.underlying28|exact Tryz.underlying27) (by rfl)) ?_;try go_frame)|(refine plPureG rfl rfl (by intro w_ hSw;go_simp;first|done|exact rfl) ?_;try go_frame)|(refine plSkipG rfl rfl ?_;try go_frame))
       refine plDone ?_
       simp only[List.drop]
       go_wp2_with(first|go_skip|(refine wpList_storeM 5 I rfl _ _ _ rfl _ 65 rfl rfl _ (by conv=> {lhs;whnf}) (by exact zbool) (by kernel_rfl) (Nat.le_of_ble_eq_true (by kernel_rfl)) (cplA ⟨y,O,tl,tr,f,per,frm,W7,wb⟩ ⟨vy,vo,vl,vr,A,nf,cf⟩) (by rw[←hh];kernel_rfl) ?_;have hBq:=I.at_ 5 rfl;clear I;intro w4 I hG4;simp only[List.set]at I;replace J:=q_.p J hBq hG4;clear hBq hG4)|fail)
       go_meet
       exact⟨I,gE.out _ J,gM.out _ J,gN.out _ J,gR.out _ J,gQ.out _ J⟩
     case rest=>
      clear I J q_
      obtain⟨I,q0⟩:=hcut
      obtain⟨q1,q2,q3,q4,q5⟩:=q0.out
      clear q0
      obtain rfl:W7=W9:=hW7.symm.trans hW8.out
      have pra:=Zc I 6 2 (.bool true)
      go_wp2_with fail
      go_roundw
      case rel=>exact Zh (.inr ⟨.inr rfl,trivial,vy,vq,I.out,q1,q2,q3,q4,q5⟩)
      case measure=>simp[intOf]
    ·go_wp2_with fail
     go_meet
     exact⟨vy,vq,Zh I,q1,q2,q3,q4,q5⟩
  case rest=>
   clear I J q_ gA gB gQ gE gM F0
   obtain⟨vy,vq,I,q0⟩:=hcut
   obtain⟨F0,q_,J,gE,gM,gN,gR,gQ⟩:∃F:World→Prop,Stc F∧Hid (F _)∧Hid (∀W,F W→EdOwn W vo O)∧Hid (∀W,F W→MsgSub W vm m')∧Hid (∀W,F W→EdOwn W vy y)∧Hid (∀W,F W→MsgSub W vq r)∧Hid (∀W,F W→RstO a0 vl vr A nf cf tl tr f W):=⟨_,((Stc.ed vo O).and (Stc.sub vm m')).and ((Stc.ed vy y).and ((Stc.sub vq r).and (Stc.rstO a0 vl vr A nf cf tl tr f))),⟨⟨q0.1,q0.2.1⟩,q0.2.2⟩,fun _ h=>h.1.1,fun _ h=>h.1.2,fun _ h=>h.2.1,fun _ h=>h.2.2.1,fun _ h=>h.2.2.2⟩
   clear q0
   have prp:=Zc I 6 1 (.bool rp)
   cases rp
   case true=>
    go_wp2_with fail
    try simp only[Exit.inBlock,Exit.then]
    refine leaves_cons (f:=213) (args:=#[.pointer (some ⟨pa,0,none⟩)]) (by simp) (by simp[go_sem]) ?_
    refine(cD1 vo y _ wb W9 _ (I.sub (by repeat(first|exact List.Sublist.refl _|apply List.Sublist.cons_cons|apply List.Sublist.cons))) _ q_ J (gE _ J)).mono ?_
    rintro e u' w9 ⟨rfl,rfl,vx,q1,q2,q3⟩
    refine⟨_,results_tmp rfl _ _ _,?_⟩
    exact hPo.out _ _ vy vx _ hXR.out (q1.tail) (EdO.of_own (gN _ q2)) (EdO.of_own q3) (gQ _ q2) ⟨rfl,rfl,rfl⟩
   go_upto_region 18 with fail
   clear prp
   replace J:=Zh (q_.keep J ((Below.refl _ _).drew))
   replace I:=Zh (I.keep ((Below.refl _ _).drew))
   have HMs:=Zh I.out
   refine wp_region_two (fun w'=>Mem _ w' _) 12 [(0,1),(1,2),(2,1),(3,2),(4,1),(5,2),(6,2),(7,0),(8,1),(9,1),(10,1),(11,1),(12,0)] (by kernel_rfl) (by kernel_rfl) HMs.out ?_
   clear HMs
   generalize World.drew _=wd at*
   repeat(refine p2Q ?_;try go_frame)
   refine p2Take (by rfl) (yc 4 0 (.pointer (some ⟨B,28,none⟩)) uP.out) ?_
   try go_frame
   repeat(refine p2Q ?_;try go_frame)
   refine p2Take (by rfl) (yc 4 0 (.pointer (some ⟨B,28,none⟩)) uP.out) ?_
   try go_frame
   repeat(refine p2Q ?_;try go_frame)
   refine p2Take (by rfl) (ym 5 (endA O vo) uE.out) ?_
   try go_frame
   repeat(refine p2Q ?_;try go_frame)
   refine p2Take (by rfl) (ym 0 (msgA r vq) uM.out) ?_
   try go_frame
   repeat(refine p2Q ?_;try go_frame)
   refine p2Step rfl rfl fun K hK=> ?_
   go_wp2_with(first|(go_at_call 17;refine(cFi _ _ _ (gE _ J).is (gR _ J).is).mono ?_;rintro r w3 ⟨vz,rfl,hE,p_⟩)|fail)
   refine hK _ _ (fun _=>I.keep p_) fun hS_=> ?_
   clear hK K hS_
   try go_frame
   replace I:=Zm I p_
   replace J:=q_.z J p_
   clear p_
   refine sC q_ J (Stc.ed vz _) hE ?_
   clear q_ J hE
   intro F1 q_ J hU gZ
   replace gE:=Zu gE hU
   replace gM:=Zu gM hU
   replace gN:=Zu gN hU
   replace gR:=Zu gR hU
   replace gQ:=Zu gQ hU
   clear hU
   repeat(refine p2Q ?_;try go_frame)
   refine p2Step rfl rfl fun K hK=> ?_
   go_wp2_with(first|(refine q_.m 5 I J 28 (cplA ⟨y,z,tl,tr,f,per,frm,W9,wb⟩ ⟨vy,vz,vl,vr,A,nf,cf⟩) ?_;clear I J;intro w4 I J;simp only[List.set]at I)|fail)
   refine hK _ _ (fun h=>absurd h (by decide)) fun hS_=> ?_
   clear hK K hS_
   try go_frame
   refine p2Done ?_
   go_upto_region 19 with fail
   try go_frame
   go_cut[]from 104 to 119 (fun wx=>Hid (Mem a0 wx ((gr,msgA r vq,30)::(ge,endA O vo,32)::(gm,msgA m' vm,30)::(pb,ptyA B 0 65 tl vl,199)::(pa,ptyA B 28 66 tr vr,199)::(B,cplA ⟨y,z,tl,tr,f,per,frm,W9,W5⟩ ⟨vy,vz,vl,vr,A,nf,cf⟩,70)::(gy,fateA ⟨false,false,ra,rk⟩,40)::L))∧Hid (EdOwn wx vz z∧MsgSub wx vm m'∧EdOwn wx vy y∧MsgSub wx vq r∧RstO a0 vl vr A nf cf tl tr f wx))
   case first=>
    cases wb<;>by_cases e1:r.code=1<;>by_cases e2:k=6
    all_goals
     have hh:=hW5.out
     unfold worN at hh
     first|rw[decide_eq_true e1]at hh|rw[decide_eq_false e1]at hh
     first|rw[decide_eq_true e2]at hh|rw[decide_eq_false e2]at hh
     first
     |(have d1:(r.code==1)=true:=by rw[beq_iff_eq];exact e1)
     |(have d1:(r.code==1)=false:=by rw[beq_eq_false_iff_ne];exact e1)
     first
     |(have d2:(k !=6)=true:=by rw[bne_iff_ne];exact e2)
     |(have d2:(k !=6)=false:=by rw[bne_eq_false_iff_eq];exact e2)
     replace e1:=Zh e1
     replace e2:=Zh e2
     replace J:=Zh (q_.keep J ((Below.refl _ _).drew))
     replace I:=Zh (I.keep ((Below.refl _ _).drew))
     have HMs:=Zh I.out
     refine wp_region_plan (fun w'=>Mem _ w' _) 15 [(0,true),(1,true),(2,true),(3,true),(4,true),(5,true),(6,true),(7,true),(8,true),(9,true),(10,true),(11,true),(12,true),(13,true),(14,true)] (by kernel_rfl) (by kernel_rfl) HMs.out ?_
     generalize World.drew _=wd at*
     refine plPure rfl rfl (by intro w_ hSw;go_simp;first|done|exact rfl) ?_
     try go_frame
     refine plTakeL (by rfl) (yc 4 4 (.pointer (some ⟨B,66,none⟩)) uB.out) ?_
     try go_frame
     refine plPure rfl rfl (by intro w_ hSw;go_simp;first|done|exact rfl) ?_
     try go_frame
     refine plTakeL (by rfl) (yc 4 4 (.pointer (some ⟨B,66,none⟩)) uB.out) ?_
     try go_frame
     refine plPure rfl rfl (by intro w_ hSw;go_simp;first|done|exact rfl) ?_
     try go_frame
     repeat(first|(refine plTakeL rfl (yields_celG rfl _ _ rfl 0 (fun w_ hSw=>hSw) rfl _ rfl _ rfl _ (by first|exact Tryz.underlying3|exact Tryz.underlying4|exact Tryz.underlying28|exact Tryz.underlying27) (by rfl)) ?_;try go_frame)|(refine plTakeL rfl (yields_celG rfl _ _ rfl 5 (fun w_ hSw=>hSw) rfl _ rfl _ rfl _ (by first|exact Tryz.underlying3|exact Tryz.underlying4|exact Tryz.underlying28|exact Tryz.underlying27) (by rfl)) ?_;try go_frame)|(refine plPureG rfl rfl (by intro w_ hSw;go_simp;first|done|exact rfl) ?_;try go_frame)|(refine plSkipG rfl rfl ?_;try go_frame))
     refine plDone ?_
     simp only[List.drop]
     go_wp2_with(first|go_skip|(refine wpList_storeM 5 I rfl _ _ _ rfl _ 66 rfl rfl _ (by conv=> {lhs;whnf}) (by exact zbool) (by kernel_rfl) (Nat.le_of_ble_eq_true (by kernel_rfl)) (cplA ⟨y,z,tl,tr,f,per,frm,W9,W5⟩ ⟨vy,vz,vl,vr,A,nf,cf⟩) (by rw[←hh];kernel_rfl) ?_;have hBq:=I.at_ 5 rfl;clear I;intro w4 I hG4;simp only[List.set]at I;replace J:=q_.p J hBq hG4;clear hBq hG4)|fail)
     go_meet
     exact⟨I,gZ.out _ J,gM.out _ J,gN.out _ J,gR.out _ J,gQ.out _ J⟩
   case rest=>
    clear I J q_
    obtain⟨I,q0⟩:=hcut
    obtain⟨q1,q2,q3,q4,q5⟩:=q0.out
    clear q0
    obtain⟨F0,q_,J,gZ,gN,gQ⟩:∃F:World→Prop,Stc F∧Hid (F _)∧Hid (∀W,F W→EdOwn W vz z)∧Hid (∀W,F W→EdOwn W vy y)∧Hid (∀W,F W→RstO a0 vl vr A nf cf tl tr f W):=⟨_,(Stc.ed vz z).and ((Stc.ed vy y).and (Stc.rstO a0 vl vr A nf cf tl tr f)),⟨q1,q3,q5⟩,fun _ h=>h.1,fun _ h=>h.2.1,fun _ h=>h.2.2⟩
    clear q1 q2 q3 q4 q5
    go_wp2_with fail
    try simp only[Exit.inBlock,Exit.then]
    refine leaves_cons (f:=213) (args:=#[.pointer (some ⟨pa,0,none⟩)]) (by simp) (by simp[go_sem]) ?_
    refine(cD2 vz y _ W5 W9 _ (I.sub (by repeat(first|exact List.Sublist.refl _|apply List.Sublist.cons_cons|apply List.Sublist.cons))) _ q_ J (gZ _ J)).mono ?_
    rintro e u' w9 ⟨rfl,rfl,vx,q1,q2,q3⟩
    refine⟨_,results_tmp rfl _ _ _,?_⟩
    exact hPo.out _ _ vy vx _ hXR.out (q1.tail) (EdO.of_own (gN _ q2)) (EdO.of_own q3) (gQ _ q2) ⟨rfl,rfl,rfl⟩
end Tx
end Go.Proofs.YtfamifgchgolpaaGreat
