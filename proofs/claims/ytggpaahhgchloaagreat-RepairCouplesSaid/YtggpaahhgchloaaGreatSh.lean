/- Chapter 28: exchange, the second end asking: the program's. -/
import Derived.Test.YtggpaahhgchloaaGreatSf
set_option linter.unusedVariables false
set_option linter.unusedSimpArgs false
set_option maxRecDepth 100000
set_option maxHeartbeats 16000000
namespace Go.Proofs.YtggpaahhgchloaaGreat
open Go Go.RowKit Go.Sort Go.Shelf Go.Maps
namespace Tx
open Sw Mm Pl
theorem exch1_any(ea eb:Ed)(tl tr:Tab)(f:List Int)(per frm:Int)(wa wb:Bool)(va vb:EdV)(vl vr:TabV)(A:Option Addr)(nf cf:Nat)(k n:Int)(x:Fate)(B:Nat)(a0 w:World)(L:List (Nat×Array Value×TypeId))(h0:Mem a0 w ((B,cplA ⟨ea,eb,tl,tr,f,per,frm,wa,wb⟩ ⟨va,vb,vl,vr,A,nf,cf⟩,57)::L))(hS:CplT a0 ⟨va,vb,vl,vr,A,nf,cf⟩ ⟨ea,eb,tl,tr,f,per,frm,wa,wb⟩ w)(hok:askC eb tr f k n 0=0→∃m y r z,RunIs eb ea tr tl f k n m y r z):Calls Tryz.prog 148 #[.pointer (some ⟨B,0,none⟩),.bool true,.int .i64 k,.int .i64 n,.agg (fateA x)] w (ExcPost a0 B L ⟨ea,eb,tl,tr,f,per,frm,wa,wb⟩ ⟨va,vb,vl,vr,A,nf,cf⟩ true k n x):=by
 have HM:=Zh h0
 clear h0
 obtain⟨rq,rp,ra,rk⟩:=x
 have uE:=Tryz.underlying27
 have uT:=Tryz.underlying29
 have uM:=Tryz.underlying25
 have uP:=Tryz.underlying161
 have uB:=Tryz.underlying162
 have uQ:=Tryz.underlying164
 have uF:=Tryz.underlying31
 have uY:=Tryz.underlying45
 have hmf:∀(fn:Fn) (first cap:Array Value) (w:World),(Instr.makeFunc fn first cap).run Tryz.prog w= .ok (.func fn first cap) w:=fun _ _ _ _=>rfl
 obtain⟨F0,hFs,hF,gA,gB,gQ⟩:∃F:World→Prop,Stc F∧Hid (F w)∧Hid (∀W,F W→EdO a0 va ea W)∧Hid (∀W,F W→EdO a0 vb eb W)∧Hid (∀W,F W→RstO a0 vl vr A nf cf tl tr f W):=⟨_,((Stc.edO a0 va ea).and (Stc.edO a0 vb eb)).and (Stc.rstO a0 vl vr A nf cf tl tr f),⟨⟨hS.a,hS.b⟩,hS.q⟩,fun _ h=>h.1.1,fun _ h=>h.1.2,fun _ h=>h.2⟩
 clear hS
 have cP:=fun W L hM F hFs hF=>parties_any ea eb tl tr f per frm wa wb va vb vl vr A nf cf true B a0 W L F hM hFs hF
 unfold PtyPost ptyN at cP
 have cAs:=fun W (hb:Below a0.heap.size a0 W) (q:EdO a0 vb eb W) (qr:RstO a0 vl vr A nf cf tl tr f W)=>ask_any eb tr vb vr A nf cf f k n 0 W (q.is hb) (qr.tr hb) (qr.f.is hb).1
 unfold TriOwn at cAs
 have cR1:=fun vm W (hb:Below a0.heap.size a0 W) (q:EdO a0 va ea W) m (q2:MsgIs W vm m) (qr:RstO a0 vl vr A nf cf tl tr f W)=>receive_any ea tl f m va vl vm A nf cf W (q.is hb) (qr.tl hb) (qr.f.is hb).1 q2
 have cR2:=fun y vy vm W (hb:Below a0.heap.size a0 W) (q:EdIs W vy y) m (q2:MsgIs W vm m) (qr:RstO a0 vl vr A nf cf tl tr f W)=>receive_any y tl f m vy vl vm A nf cf W q (qr.tl hb) (qr.f.is hb).1 q2
 unfold TriOwn at cR1 cR2
 have hx0:=fun(h:askC eb tr f k n 0≠0)=>exchT_no (c:=⟨ea,eb,tl,tr,f,per,frm,wa,wb⟩) (k:=k) (n:=n) (x:=⟨rq,rp,ra,rk⟩) h
 have hx1:=fun m y r z (h0:askC eb tr f k n 0=0) (h:RunIs eb ea tr tl f k n m y r z)=>exchT_yes (c:=⟨ea,eb,tl,tr,f,per,frm,wa,wb⟩) (k:=k) (n:=n) h0 h ⟨rq,rp,ra,rk⟩
 generalize hP:ExcPost a0 B L ⟨ea,eb,tl,tr,f,per,frm,wa,wb⟩ ⟨va,vb,vl,vr,A,nf,cf⟩ true k n ⟨rq,rp,ra,rk⟩=P
 have hPo:∀c' bb va' vb' W,exchN ⟨ea,eb,tl,tr,f,per,frm,wa,wb⟩ true k n ⟨rq,rp,ra,rk⟩=(c',bb)→Mem a0 W ((B,cplA c' ⟨va',vb',vl,vr,A,nf,cf⟩,57)::L)→EdO a0 va' c'.a W→EdO a0 vb' c'.b W→RstO a0 vl vr A nf cf tl tr f W→(c'.left=tl∧c'.right=tr∧c'.free=f)→P (.returned (.bool bb)) W:=fun c' bb va' vb' W e q1 q2 q3 q4 ⟨l1,l2,l3⟩=>by
  rw[←hP]
  unfold ExcPost
  rw[e]
  exact⟨va',vb',rfl,q1,q2,q3,by rw[l1,l2,l3];exact q4⟩
 clear hP
 generalize exchN ⟨ea,eb,tl,tr,f,per,frm,wa,wb⟩ true k n ⟨rq,rp,ra,rk⟩=XR at*
 generalize hO:askE eb tr f k n 0=O at*
 generalize hm:askN eb tr f k n 0=m at*
 generalize hC:askC eb tr f k n 0=C at*
 replace cP:=Zh cP
 replace cAs:=Zh cAs
 replace cR1:=Zh cR1
 replace cR2:=Zh cR2
 replace hx0:=Zh hx0
 replace hx1:=Zh hx1
 replace hPo:=Zh hPo
 replace hO:=Zh hO
 replace hm:=Zh hm
 replace hC:=Zh hC
 replace hok:=Zh hok
 replace uE:=Zh uE
 replace uT:=Zh uT
 replace uM:=Zh uM
 replace uP:=Zh uP
 replace uB:=Zh uB
 replace uQ:=Zh uQ
 replace uF:=Zh uF
 replace uY:=Zh uY
 go_enter_defers Tryz.func148,Tryz.ntmps148
 go_upto_region 1 with(first|go_skip|(refine wpList_boxA HM rfl 45 _ rfl _ rfl ?_;clear HM;intro gy w1 HM hG;replace hF:=Zh (hFs.keep hF.out hG.out);clear hG)|fail)
 replace HM:=Zh HM.out.swap2
 have mk1:Unit:=()
 have mk2:Unit:=()
 go_upto_region 2 with(first|go_skip|(go_at_call 146;refine(cP.out _ _ HM.out _ hFs hF).mono ?_;rintro r w3 ⟨rfl,q1,q2⟩;clear HM hF;have HM:=Zh q1;have hF:=Zh q2;clear q1 q2;simp only[Bool.not_true,Bool.not_false,if_true,Bool.false_eq_true,if_false])|(clear mk1;refine wpList_allocN HM rfl 164 rfl paInfo ?_;clear HM;intro pa w1 HM hG hN9;replace hF:=Zh (hFs.keep hF.out hG.out);clear hG hN9)|(clear mk2;refine wpList_allocN HM rfl 164 rfl paInfo ?_;clear HM;intro pb w1 HM hG hN9;replace hF:=Zh (hFs.keep hF.out hG.out);clear hG hN9)|(refine wpList_storeF 1 HM rfl _ _ _ rfl _ rfl rfl _ rfl (by exact zpa) (by rfl) (by rfl) ?_;have hBq:=HM.out.at_ 1 rfl;clear HM;intro w4 HM hG4;simp only[List.set]at HM;replace hF:=Zh (hFs.put hF.out hBq (by decide) (by decide) (by decide) hG4.out);clear hBq hG4)|(refine wpList_storeF 0 HM rfl _ _ _ rfl _ rfl rfl _ rfl (by exact zpa) (by rfl) (by rfl) ?_;have hBq:=HM.out.at_ 0 rfl;clear HM;intro w4 HM hG4;simp only[List.set]at HM;replace hF:=Zh (hFs.put hF.out hBq (by decide) (by decide) (by decide) hG4.out);clear hBq hG4)|fail)
 try go_frame
 go_cut[13,14,15]from 23 to 39 (fun s13 s14 s15 wx=>∃ge gm vo vm,s13= .pointer (some ⟨ge,0,none⟩)∧s14= .pointer (some ⟨gm,0,none⟩)∧s15= .int .i64 C∧Hid (Mem a0 wx ((ge,endA O vo,27)::(gm,msgA m vm,25)::(pb,ptyA B 0 65 tl vl,164)::(pa,ptyA B 28 66 tr vr,164)::(B,cplA ⟨ea,eb,tl,tr,f,per,frm,wa,wb⟩ ⟨va,vb,vl,vr,A,nf,cf⟩,57)::(gy,fateA ⟨rq,rp,ra,rk⟩,45)::L))∧Hid (EdO a0 va ea wx∧EdO a0 vb eb wx∧RstO a0 vl vr A nf cf tl tr f wx)∧Hid (EdOwn wx vo O)∧Hid (MsgSub wx vm m))
 case first=>
  replace hF:=Zh (hFs.keep hF.out ((Below.refl _ _).drew))
  replace HM:=Zh (HM.out.keep ((Below.refl _ _).drew))
  have HMs:=Zh HM.out
  refine wp_region_pt (fun w'=>Mem _ w' _) 21 (.take 0 (.take 1 (.take 2 (.take 3 (.take 4 (.take 5 (.take 6 (.take 7 (.take 8 (.take 9 (.take 10 (.take 11 (.three 12 (.take 13 (.take 14 (.take 15 (.take 16 (.fork 17 (.only 18 (.only 19 (.only 20 .done))) 18 (.only 17 (.only 19 (.only 20 .done)))))))) 17 (.fork 12 (.take 13 (.take 14 (.take 15 (.take 16 (.only 18 (.only 19 (.only 20 .done))))))) 18 (.only 12 (.take 13 (.take 14 (.take 15 (.take 16 (.only 19 (.only 20 .done)))))))) 18 (.fork 12 (.take 13 (.take 14 (.take 15 (.take 16 (.only 17 (.only 19 (.only 20 .done))))))) 17 (.only 12 (.take 13 (.take 14 (.take 15 (.take 16 (.only 19 (.only 20 .done))))))))))))))))))))) (by kernel_rfl) (by kernel_rfl) HMs.out ?_
  clear HMs
  generalize World.drew _=wd at*
  iterate 1 (refine ptPure rfl rfl (by intro w_ hSw;clear hSw;go_simp;first|done|exact rfl) ?_;try go_frame)
  refine ptTake (by rfl) (yields_memc rfl _ _ rfl 1 (fun w_ hSw=>hSw) rfl 0 rfl (.pointer (some ⟨B,28,none⟩)) (by rfl) _ uP.out (by rfl)) ?_
  try go_frame
  iterate 1 (refine ptPure rfl rfl (by intro w_ hSw;clear hSw;go_simp;first|done|exact rfl) ?_;try go_frame)
  refine ptTake (by rfl) (yields_mem (by rfl) _ _ (by rfl) 2 (fun w_ hSw=>hSw) (by rfl) _ (by rfl) (endA eb vb) (by kernel_rfl) _ uE.out (by rfl) (by exact zend)) ?_
  try go_frame
  iterate 1 (refine ptPure rfl rfl (by intro w_ hSw;clear hSw;go_simp;first|done|exact rfl) ?_;try go_frame)
  refine ptTake (by rfl) (yields_mem (by rfl) _ _ (by rfl) 1 (fun w_ hSw=>hSw) (by rfl) _ (by rfl) (tabA tr vr) (by kernel_rfl) _ uT.out (by rfl) (by exact ztab)) ?_
  try go_frame
  iterate 3 (refine ptPure rfl rfl (by intro w_ hSw;clear hSw;go_simp;first|done|exact rfl) ?_;try go_frame)
  refine ptTake (by rfl) (yields_memc rfl _ _ rfl 2 (fun w_ hSw=>hSw) rfl 62 rfl (.slice A nf cf) (by rfl) _ uF.out (by rfl)) ?_
  try go_frame
  iterate 2 (refine ptPure rfl rfl (by intro w_ hSw;clear hSw;go_simp;first|done|exact rfl) ?_;try go_frame)
  refine ptThree rfl rfl rfl rfl rfl rfl (fun K hK=> ?_) (fun K hK=> ?_) (fun K hK=> ?_)
  all_goals
   repeat' (first
    |(refine ptFork rfl rfl rfl rfl (fun K hK=> ?_) (fun K hK=> ?_))
    |(refine ptOnly rfl rfl fun K hK=> ?_)
    |(refine ptPure rfl rfl (by intro w_ hSw;clear hSw;go_simp;first|done|exact rfl) ?_;try go_frame)
    |(go_wp2_with(first|(go_at_call 47;refine(cAs.out _ HM.out.below (gB.out _ hF.out) (gQ.out _ hF.out)).mono ?_;rintro r w3 ⟨vo,vm,rfl,hE,hM,hb_⟩;replace HM:=Zh (HM.out.keep hb_);replace hF:=Zh (hFs.keep hF.out hb_);clear hb_;obtain⟨F1,hFs2,hF2,hU,hNw⟩:=stc_add hFs hF (Stc.ed vo _) hE;clear hFs hF;replace gA:=Zh (fun W h=>gA.out W (hU W h));replace gB:=Zh (fun W h=>gB.out W (hU W h));replace gQ:=Zh (fun W h=>gQ.out W (hU W h));have gE:=Zh hNw;clear hNw hU hE;have hFs:=hFs2;have hF:=hF2;clear hFs2 hF2;obtain⟨F1,hFs2,hF2,hU,hNw⟩:=stc_add hFs hF (Stc.sub vm _) hM;clear hFs hF;replace gA:=Zh (fun W h=>gA.out W (hU W h));replace gB:=Zh (fun W h=>gB.out W (hU W h));replace gQ:=Zh (fun W h=>gQ.out W (hU W h));replace gE:=Zh (fun W h=>gE.out W (hU W h));have gM:=Zh hNw;clear hNw hU hM;have hFs:=hFs2;have hF:=hF2;clear hFs2 hF2)|(refine wpList_allocN HM rfl 27 rfl edInfo ?_;clear HM;intro ge w1 HM hG hN9;replace hF:=Zh (hFs.keep hF.out hG.out);clear hG hN9)|(refine wpList_allocN HM rfl 25 rfl msgInfo ?_;clear HM;intro gm w1 HM hG hN9;replace hF:=Zh (hFs.keep hF.out hG.out);clear hG hN9)|(refine wpList_storeF 0 HM rfl _ _ _ rfl _ rfl rfl _ rfl (by exact zend) (by rfl) (by rfl) ?_;have hBq:=HM.out.at_ 0 rfl;clear HM;intro w4 HM hG4;simp only[List.set]at HM;replace hF:=Zh (hFs.put hF.out hBq (by decide) (by decide) (by decide) hG4.out);clear hBq hG4)|(refine wpList_storeF 1 HM rfl _ _ _ rfl _ rfl rfl _ rfl (by exact zend) (by rfl) (by rfl) ?_;have hBq:=HM.out.at_ 1 rfl;clear HM;intro w4 HM hG4;simp only[List.set]at HM;replace hF:=Zh (hFs.put hF.out hBq (by decide) (by decide) (by decide) hG4.out);clear hBq hG4)|(refine wpList_storeF 0 HM rfl _ _ _ rfl _ rfl rfl _ rfl (by exact zmsg) (by rfl) (by rfl) ?_;have hBq:=HM.out.at_ 0 rfl;clear HM;intro w4 HM hG4;simp only[List.set]at HM;replace hF:=Zh (hFs.put hF.out hBq (by decide) (by decide) (by decide) hG4.out);clear hBq hG4)|(refine wpList_storeF 1 HM rfl _ _ _ rfl _ rfl rfl _ rfl (by exact zmsg) (by rfl) (by rfl) ?_;have hBq:=HM.out.at_ 1 rfl;clear HM;intro w4 HM hG4;simp only[List.set]at HM;replace hF:=Zh (hFs.put hF.out hBq (by decide) (by decide) (by decide) hG4.out);clear hBq hG4)|fail);refine hK.out _ _ (by first|exact HM.out.tail.tail|exact HM.out.tail|exact HM.out) fun hS_=> ?_;clear hK K hS_;try go_frame))
  all_goals
   refine ptDone ?_
   simp only[List.drop]
   go_wp2_with(first|go_skip|fail)
   go_meet
   exact⟨ge,gm,vo,vm,rfl,rfl,rfl,by first|exact HM|exact Zh HM.out.swap2,⟨gA.out _ hF.out,gB.out _ hF.out,gQ.out _ hF.out⟩,gE.out _ hF.out,gM.out _ hF.out⟩
 case rest=>
  clear HM hF hFs gA gB gQ F0 cAs cP
  obtain⟨ge,gm,vo,vm,rfl,rfl,rfl,HM,h1,h2,h3⟩:=hcut
  obtain⟨F0,hFs,hF,gA,gB,gQ,gE,gM⟩:∃F:World→Prop,Stc F∧Hid (F _)∧Hid (∀W,F W→EdO a0 va ea W)∧Hid (∀W,F W→EdO a0 vb eb W)∧Hid (∀W,F W→RstO a0 vl vr A nf cf tl tr f W)∧Hid (∀W,F W→EdOwn W vo O)∧Hid (∀W,F W→MsgSub W vm m):=⟨_,((Stc.edO a0 va ea).and ((Stc.edO a0 vb eb).and (Stc.rstO a0 vl vr A nf cf tl tr f))).and ((Stc.ed vo O).and (Stc.sub vm m)),⟨h1.out,h2.out,h3.out⟩,fun _ h=>h.1.1,fun _ h=>h.1.2.1,fun _ h=>h.1.2.2,fun _ h=>h.2.1,fun _ h=>h.2.2⟩
  clear h1 h2 h3
  by_cases e0:C=0
  case neg=>
   have d1:(C !=0)=true:=by rw[bne_iff_ne];exact e0
   have hXR:=Zh (hx0.out e0)
   replace e0:=Zh e0
   go_wp2_with fail
   try simp only[Exit.inBlock,Exit.then]
   refine⟨_,results_tmp rfl _ _ _,?_⟩
   exact hPo.out _ _ va vb _ hXR.out (HM.out.sub (by repeat(first|exact List.Sublist.refl _|apply List.Sublist.cons_cons|apply List.Sublist.cons))) (gA.out _ hF.out) (gB.out _ hF.out) (gQ.out _ hF.out) ⟨rfl,rfl,rfl⟩
  subst e0
  obtain⟨m',y,r,z,hR⟩:=hok.out rfl
  have hXR:=Zh (hx1.out m' y r z rfl hR)
  obtain rfl:m'=m:=hR.e2.symm.trans hm.out
  have hO2:O=openE eb m' 0:=hO.out.symm.trans hR.e1
  have hX1:=hR.exp1
  rw[←hO2]at hX1
  have hX2:=hR.exp2
  have hFi:=hR.fin
  rw[←hO2]at hFi
  have hFc:=hR.c2
  rw[←hO2]at hFc
  have cR1':=fun vm W hb q q2 qr=>cR1.out vm W hb q m' q2 qr
  have cR2':=fun vy vm W hb q q2 qr=>cR2.out y vy vm W hb q m' q2 qr
  rw[hR.one]at cR1'
  rw[hR.again]at cR2'
  have cFi:=fun vo vr W (q:EdIs W vo O) (q2:MsgIs W vr r)=>finish_any O r vo vr W q q2
  unfold EndOwn at cFi
  rw[hFi,hFc]at cFi
  dsimp only at cR1' cR2'
  generalize recvC ea tl m'=RC1 at*
  generalize recvC y tl m'=RC2 at*
  clear hR cR1 cR2 hx0 hx1 hO hm hC hok hO2 hFi hFc
  have cD1:=fun ve y vy wx wy W hM F hFs hF hE=>exDef1_any O y tl tr f per frm wx wy ve vy vl vr A nf cf B pa a0 W L F hM hFs hF hE
  have cD2:=fun ve y vy wx wy W hM F hFs hF hE=>exDef1_any z y tl tr f per frm wx wy ve vy vl vr A nf cf B pa a0 W L F hM hFs hF hE
  rw[hX1]at cD1
  rw[hX2]at cD2
  clear hX1 hX2
  replace cR1':=Zh cR1'
  replace cR2':=Zh cR2'
  replace cFi:=Zh cFi
  replace cD1:=Zh cD1
  replace cD2:=Zh cD2
  go_upto_region 6 with fail
  have pp:World.cell? _ ⟨pa,0,none⟩=some (.pointer (some ⟨B,28,none⟩)):=HM.out.cell 3 rfl 0
  go_upto_region 7 with(first|go_skip|(refine wpList_loadG 0 HM (by rfl) _ _ rfl _ rfl rfl _ uE.out rfl (by exact zend) ?_)|(refine wpList_storeM 4 HM rfl _ _ _ rfl _ 28 rfl rfl _ (by conv=> {lhs;whnf}) (by exact zend) (by kernel_rfl) (Nat.le_of_ble_eq_true (by kernel_rfl)) (cplA ⟨ea,O,tl,tr,f,per,frm,wa,wb⟩ ⟨va,vo,vl,vr,A,nf,cf⟩) (by kernel_rfl) ?_;have hBq:=HM.out.at_ 4 rfl;clear HM;intro w4 HM hG4;simp only[List.set]at HM;replace hF:=Zh (hFs.put hF.out hBq (by decide) (by decide) (by decide) hG4.out);clear hBq hG4)|fail)
  clear pp
  have pq:World.cell? _ ⟨gy,0,none⟩=some (.bool rq):=HM.out.cell 5 rfl 0
  cases rq
  case true=>
   go_wp2_with fail
   try simp only[Exit.inBlock,Exit.then]
   refine leaves_cons (f:=187) (args:=#[.pointer (some ⟨pa,0,none⟩)]) (by simp) (by simp[go_sem]) ?_
   refine(cD1.out vo ea _ wb wa _ (HM.out.sub (by repeat(first|exact List.Sublist.refl _|apply List.Sublist.cons_cons|apply List.Sublist.cons))) _ hFs hF (gE.out _ hF.out)).mono ?_
   rintro e u' w9 ⟨rfl,rfl,vx,q1,q2,q3⟩
   refine⟨_,results_tmp rfl _ _ _,?_⟩
   exact hPo.out _ _ va vx _ hXR.out (q1.tail) (gA.out _ q2) (EdO.of_own q3) (gQ.out _ q2) ⟨rfl,rfl,rfl⟩
  have mk3:Unit:=()
  go_upto_region 10 with(first|go_skip|(clear mk3;refine wpList_allocN HM rfl 25 rfl msgInfo ?_;clear HM;intro gr w1 HM hG hN9;replace hF:=Zh (hFs.keep hF.out hG.out);clear hG hN9)|fail)
  clear pq
  obtain⟨W9,hW9⟩:∃b:Bool,worN wa r.code k=b:=⟨_,rfl⟩
  rw[hW9]at hXR
  obtain⟨W5,hW5⟩:∃b:Bool,worN wb r.code k=b:=⟨_,rfl⟩
  rw[hW5]at hXR
  have hW8:worN W9 r.code k=W9:=by rw[←hW9];unfold worN;generalize decide (r.code=1)=x;generalize decide (k=6)=y;cases wa<;>cases x<;>cases y<;>rfl
  replace hXR:=Zh hXR
  replace hW9:=Zh hW9
  replace hW8:=Zh hW8
  replace hW5:=Zh hW5
  go_upto_block 0 with fail
  try go_frame
  go_cut[]from 49 to 89 (fun wx=>∃vy vq,Hid (Mem a0 wx ((gr,msgA r vq,25)::(ge,endA O vo,27)::(gm,msgA m' vm,25)::(pb,ptyA B 0 65 tl vl,164)::(pa,ptyA B 28 66 tr vr,164)::(B,cplA ⟨y,O,tl,tr,f,per,frm,W9,wb⟩ ⟨vy,vo,vl,vr,A,nf,cf⟩,57)::(gy,fateA ⟨false,rp,ra,rk⟩,45)::L))∧Hid (EdOwn wx vo O∧MsgSub wx vm m'∧EdOwn wx vy y∧MsgSub wx vq r∧RstO a0 vl vr A nf cf tl tr f wx))
  case first=>
   have q1:=Zh (gE.out _ hF.out)
   have q2:=Zh (gM.out _ hF.out)
   have q3:=Zh (gA.out _ hF.out)
   have q4:=Zh (gQ.out _ hF.out)
   clear hFs hF gA gB gQ gE gM F0
   go_wp2_with fail
   go_loopw[49] (fun i wr=>Hid ((i= .int .i64 0∧Mem a0 wr ((gr,msgA msg0 msgV0,25)::(ge,endA O vo,27)::(gm,msgA m' vm,25)::(pb,ptyA B 0 65 tl vl,164)::(pa,ptyA B 28 66 tr vr,164)::(B,cplA ⟨ea,O,tl,tr,f,per,frm,wa,wb⟩ ⟨va,vo,vl,vr,A,nf,cf⟩,57)::(gy,fateA ⟨false,rp,ra,rk⟩,45)::L)∧EdOwn wr vo O∧MsgSub wr vm m'∧EdO a0 va ea wr∧RstO a0 vl vr A nf cf tl tr f wr)∨((i= .int .i64 1∨i= .int .i64 2)∧ra=true∧∃vy vq,Mem a0 wr ((gr,msgA r vq,25)::(ge,endA O vo,27)::(gm,msgA m' vm,25)::(pb,ptyA B 0 65 tl vl,164)::(pa,ptyA B 28 66 tr vr,164)::(B,cplA ⟨y,O,tl,tr,f,per,frm,W9,wb⟩ ⟨vy,vo,vl,vr,A,nf,cf⟩,57)::(gy,fateA ⟨false,rp,ra,rk⟩,45)::L)∧EdOwn wr vo O∧MsgSub wr vm m'∧EdOwn wr vy y∧MsgSub wr vq r∧RstO a0 vl vr A nf cf tl tr f wr))) (fun i _=>2-(intOf i).toNat)
   case atStart=>exact Zh (.inl ⟨rfl,HM.out,q1.out,q2.out,q3.out,q4.out⟩)
   case round=>
    clear HM q1 q2 q3 q4
    rcases hrel.out with⟨rfl,HM,q1,q2,q3,q4⟩|⟨rfl|rfl,rfl,vy,vq,HM,q1,q2,q3,q4,q5⟩
    ·obtain⟨F1,hFs,hF,gE,gM,gYY,gQ⟩:∃F:World→Prop,Stc F∧Hid (F _)∧Hid (∀W,F W→EdOwn W vo O)∧Hid (∀W,F W→MsgSub W vm m')∧Hid (∀W,F W→EdO a0 va ea W)∧Hid (∀W,F W→RstO a0 vl vr A nf cf tl tr f W):=⟨_,((Stc.ed vo O).and (Stc.sub vm m')).and ((Stc.edO a0 va ea).and (Stc.rstO a0 vl vr A nf cf tl tr f)),⟨⟨q1,q2⟩,q3,q4⟩,fun _ h=>h.1.1,fun _ h=>h.1.2,fun _ h=>h.2.1,fun _ h=>h.2.2⟩
     clear q1 q2 q3 q4 hrel
     replace HM:=Zh HM
     go_upto_region 12 with fail
     replace hF:=Zh (hFs.keep hF.out ((Below.refl _ _).drew))
     replace HM:=Zh (HM.out.keep ((Below.refl _ _).drew))
     have HMs:=Zh HM.out
     refine wp_region_two (fun w'=>Mem _ w' _) 19 [(0,1),(1,2),(2,1),(3,2),(4,1),(5,2),(6,1),(7,2),(8,1),(9,1),(10,1),(11,2),(12,2),(13,0),(14,1),(15,1),(16,1),(17,1),(18,1),(19,0),(20,0)] (by kernel_rfl) (by kernel_rfl) HMs.out ?_
     clear HMs
     generalize World.drew _=wd at*
     repeat(refine p2Pure rfl rfl (by intro w_ hSw;clear hSw;go_simp;first|done|exact rfl) ?_;try go_frame)
     refine p2Take (by rfl) (yields_memc rfl _ _ rfl 3 (fun w_ hSw=>hSw) rfl 0 rfl (.pointer (some ⟨B,0,none⟩)) (by rfl) _ uP.out (by rfl)) ?_
     try go_frame
     repeat(refine p2Pure rfl rfl (by intro w_ hSw;clear hSw;go_simp;first|done|exact rfl) ?_;try go_frame)
     refine p2Take (by rfl) (yields_memc rfl _ _ rfl 3 (fun w_ hSw=>hSw) rfl 0 rfl (.pointer (some ⟨B,0,none⟩)) (by rfl) _ uP.out (by rfl)) ?_
     try go_frame
     repeat(refine p2Pure rfl rfl (by intro w_ hSw;clear hSw;go_simp;first|done|exact rfl) ?_;try go_frame)
     refine p2Take (by rfl) (yields_mem (by rfl) _ _ (by rfl) 5 (fun w_ hSw=>hSw) (by rfl) _ (by rfl) (endA ea va) (by kernel_rfl) _ uE.out (by rfl) (by exact zend)) ?_
     try go_frame
     repeat(refine p2Pure rfl rfl (by intro w_ hSw;clear hSw;go_simp;first|done|exact rfl) ?_;try go_frame)
     refine p2Take (by rfl) (yields_mem (by rfl) _ _ (by rfl) 3 (fun w_ hSw=>hSw) (by rfl) _ (by rfl) (tabA tl vl) (by kernel_rfl) _ uT.out (by rfl) (by exact ztab)) ?_
     try go_frame
     repeat(refine p2Pure rfl rfl (by intro w_ hSw;clear hSw;go_simp;first|done|exact rfl) ?_;try go_frame)
     refine p2Take (by rfl) (yields_memc rfl _ _ rfl 5 (fun w_ hSw=>hSw) rfl 62 rfl (.slice A nf cf) (by rfl) _ Tryz.underlying31 (by rfl)) ?_
     try go_frame
     repeat(refine p2Pure rfl rfl (by intro w_ hSw;clear hSw;go_simp;first|done|exact rfl) ?_;try go_frame)
     refine p2Take (by rfl) (yields_mem (by rfl) _ _ (by rfl) 2 (fun w_ hSw=>hSw) (by rfl) _ (by rfl) (msgA m' vm) (by kernel_rfl) _ uM.out (by rfl) (by exact zmsg)) ?_
     try go_frame
     repeat(refine p2Pure rfl rfl (by intro w_ hSw;clear hSw;go_simp;first|done|exact rfl) ?_;try go_frame)
     refine p2Step rfl rfl fun K hK=> ?_
     go_wp2_with(first|(go_at_call 15;refine(cR1'.out _ _ HM.out.below (gYY.out _ hF.out) (gM.out _ hF.out).is (gQ.out _ hF.out)).mono ?_;rintro r w3 ⟨vy,vq,rfl,hE,hR,hb_⟩)|fail)
     refine hK.out _ _ (fun _=>HM.out.keep hb_) fun hS_=> ?_
     clear hK K hS_
     try go_frame
     replace HM:=Zh (HM.out.keep hb_)
     replace hF:=Zh (hFs.keep hF.out hb_)
     clear hb_
     obtain⟨F1,hFs2,hF2,hU,hNw⟩:=stc_add hFs hF (Stc.ed vy _) hE
     clear hFs hF
     replace gE:=Zh (fun W h=>gE.out W (hU W h))
     replace gM:=Zh (fun W h=>gM.out W (hU W h))
     replace gYY:=Zh (fun W h=>gYY.out W (hU W h))
     replace gQ:=Zh (fun W h=>gQ.out W (hU W h))
     have gN:=Zh hNw
     clear hNw hU hE
     have hFs:=hFs2
     have hF:=hF2
     clear hFs2 hF2
     obtain⟨F2,hFs2,hF2,hU,hNw⟩:=stc_add hFs hF (Stc.sub vq _) hR
     clear hFs hF
     replace gE:=Zh (fun W h=>gE.out W (hU W h))
     replace gM:=Zh (fun W h=>gM.out W (hU W h))
     replace gYY:=Zh (fun W h=>gYY.out W (hU W h))
     replace gQ:=Zh (fun W h=>gQ.out W (hU W h))
     replace gN:=Zh (fun W h=>gN.out W (hU W h))
     have gR:=Zh hNw
     clear hNw hU hR
     have hFs:=hFs2
     have hF:=hF2
     clear hFs2 hF2
     repeat(refine p2Pure rfl rfl (by intro w_ hSw;clear hSw;go_simp;first|done|exact rfl) ?_;try go_frame)
     refine p2Step rfl rfl fun K hK=> ?_
     go_wp2_with(first|(refine wpList_storeM 5 HM rfl _ _ _ rfl _ 0 rfl rfl _ (by conv=> {lhs;whnf}) (by exact zend) (by kernel_rfl) (Nat.le_of_ble_eq_true (by kernel_rfl)) (cplA ⟨y,O,tl,tr,f,per,frm,wa,wb⟩ ⟨vy,vo,vl,vr,A,nf,cf⟩) (by kernel_rfl) ?_;have hBq:=HM.out.at_ 5 rfl;clear HM;intro w4 HM hG4;simp only[List.set]at HM;replace hF:=Zh (hFs.put hF.out hBq (by decide) (by decide) (by decide) hG4.out);clear hBq hG4)|fail)
     refine hK.out _ _ (fun h=>absurd h (by decide)) fun hS_=> ?_
     clear hK K hS_
     try go_frame
     repeat(refine p2Pure rfl rfl (by intro w_ hSw;clear hSw;go_simp;first|done|exact rfl) ?_;try go_frame)
     refine p2Step rfl rfl fun K hK=> ?_
     go_wp2_with(first|(refine wpList_storeM 0 HM rfl _ _ _ rfl _ 0 rfl rfl _ (by conv=> {lhs;whnf}) (by exact zmsg) (by kernel_rfl) (Nat.le_of_ble_eq_true (by kernel_rfl)) (msgA r vq) (by kernel_rfl) ?_;have hBq:=HM.out.at_ 0 rfl;clear HM;intro w4 HM hG4;simp only[List.set]at HM;replace hF:=Zh (hFs.put hF.out hBq (by decide) (by decide) (by decide) hG4.out);clear hBq hG4)|fail)
     refine hK.out _ _ (fun h=>absurd h (by decide)) fun hS_=> ?_
     clear hK K hS_
     try go_frame
     refine p2Done ?_
     go_upto_region 13 with fail
     try go_frame
     go_cut[]from 70 to 85 (fun wx=>Hid (Mem a0 wx ((gr,msgA r vq,25)::(ge,endA O vo,27)::(gm,msgA m' vm,25)::(pb,ptyA B 0 65 tl vl,164)::(pa,ptyA B 28 66 tr vr,164)::(B,cplA ⟨y,O,tl,tr,f,per,frm,W9,wb⟩ ⟨vy,vo,vl,vr,A,nf,cf⟩,57)::(gy,fateA ⟨false,rp,ra,rk⟩,45)::L))∧Hid (EdOwn wx vo O∧MsgSub wx vm m'∧EdOwn wx vy y∧MsgSub wx vq r∧RstO a0 vl vr A nf cf tl tr f wx))
     case first=>
      cases wa<;>by_cases e1:r.code=1<;>by_cases e2:k=6
      all_goals
       have hh:=hW9.out
       unfold worN at hh
       first|rw[decide_eq_true e1]at hh|rw[decide_eq_false e1]at hh
       first|rw[decide_eq_true e2]at hh|rw[decide_eq_false e2]at hh
       first
       |(have d1:(r.code==1)=true:=by rw[beq_iff_eq];exact e1)
       |(have d1:(r.code==1)=false:=by rw[beq_eq_false_iff_ne];exact e1)
       first
       |(have d2:(k !=6)=true:=by rw[bne_iff_ne];exact e2)
       |(have d2:(k !=6)=false:=by rw[bne_eq_false_iff_eq];exact e2)
       replace e1:=Zh e1
       replace e2:=Zh e2
       replace hF:=Zh (hFs.keep hF.out ((Below.refl _ _).drew))
       replace HM:=Zh (HM.out.keep ((Below.refl _ _).drew))
       have HMs:=Zh HM.out
       refine wp_region_plan (fun w'=>Mem _ w' _) 15 [(0,true),(1,true),(2,true),(3,true),(4,true),(5,true),(6,true),(7,true),(8,true),(9,true),(10,true),(11,true),(12,true),(13,true),(14,true)] (by kernel_rfl) (by kernel_rfl) HMs.out ?_
       generalize World.drew _=wd at*
       refine plPure rfl rfl (by intro w_ hSw;go_simp;first|done|exact rfl) ?_
       try go_frame
       refine plTakeL (by rfl) (yields_memc rfl _ _ rfl 3 (fun w_ hSw=>hSw) rfl 4 rfl (.pointer (some ⟨B,65,none⟩)) (by rfl) _ uB.out (by rfl)) ?_
       try go_frame
       refine plPure rfl rfl (by intro w_ hSw;go_simp;first|done|exact rfl) ?_
       try go_frame
       refine plTakeL (by rfl) (yields_memc rfl _ _ rfl 3 (fun w_ hSw=>hSw) rfl 4 rfl (.pointer (some ⟨B,65,none⟩)) (by rfl) _ uB.out (by rfl)) ?_
       try go_frame
       refine plPure rfl rfl (by intro w_ hSw;go_simp;first|done|exact rfl) ?_
       try go_frame
       repeat(first|(refine plTakeL rfl (yields_celG rfl _ _ rfl 0 (fun w_ hSw=>hSw) rfl _ rfl _ rfl _ (by first|exact Tryz.underlying3|exact Tryz.underlying4|exact Tryz.underlying23|exact Tryz.underlying22) (by rfl)) ?_;try go_frame)|(refine plTakeL rfl (yields_celG rfl _ _ rfl 5 (fun w_ hSw=>hSw) rfl _ rfl _ rfl _ (by first|exact Tryz.underlying3|exact Tryz.underlying4|exact Tryz.underlying23|exact Tryz.underlying22) (by rfl)) ?_;try go_frame)|(refine plPureG rfl rfl (by intro w_ hSw;go_simp;first|done|exact rfl) ?_;try go_frame)|(refine plSkipG rfl rfl ?_;try go_frame))
       refine plDone ?_
       simp only[List.drop]
       go_wp2_with(first|go_skip|(refine wpList_storeM 5 HM rfl _ _ _ rfl _ 65 rfl rfl _ (by conv=> {lhs;whnf}) (by exact zbool) (by kernel_rfl) (Nat.le_of_ble_eq_true (by kernel_rfl)) (cplA ⟨y,O,tl,tr,f,per,frm,W9,wb⟩ ⟨vy,vo,vl,vr,A,nf,cf⟩) (by rw[←hh];kernel_rfl) ?_;have hBq:=HM.out.at_ 5 rfl;clear HM;intro w4 HM hG4;simp only[List.set]at HM;replace hF:=Zh (hFs.put hF.out hBq (by decide) (by decide) (by decide) hG4.out);clear hBq hG4)|fail)
       go_meet
       exact⟨HM,gE.out _ hF.out,gM.out _ hF.out,gN.out _ hF.out,gR.out _ hF.out,gQ.out _ hF.out⟩
     case rest=>
      clear HM hF hFs
      obtain⟨HM,q0⟩:=hcut
      obtain⟨q1,q2,q3,q4,q5⟩:=q0.out
      clear q0
      have pra:World.cell? _ ⟨gy,2,none⟩=some (.bool ra):=HM.out.cell 6 rfl 2
      cases ra
      case false=>
       go_wp2_with fail
       go_meet
       exact⟨vy,vq,HM,q1,q2,q3,q4,q5⟩
      case true=>
       go_wp2_with fail
       go_roundw
       case rel=>exact Zh (.inr ⟨.inl rfl,trivial,vy,vq,HM.out,q1,q2,q3,q4,q5⟩)
       case measure=>simp[intOf]
    ·obtain⟨vy0,rfl⟩:∃v,v=vy:=⟨_,rfl⟩
     obtain⟨F1,hFs,hF,gE,gM,gYY,gQ⟩:∃F:World→Prop,Stc F∧Hid (F _)∧Hid (∀W,F W→EdOwn W vo O)∧Hid (∀W,F W→MsgSub W vm m')∧Hid (∀W,F W→EdOwn W vy0 y)∧Hid (∀W,F W→RstO a0 vl vr A nf cf tl tr f W):=⟨_,((Stc.ed vo O).and (Stc.sub vm m')).and ((Stc.ed vy0 y).and (Stc.rstO a0 vl vr A nf cf tl tr f)),⟨⟨q1,q2⟩,q3,q5⟩,fun _ h=>h.1.1,fun _ h=>h.1.2,fun _ h=>h.2.1,fun _ h=>h.2.2⟩
     clear q1 q2 q3 q4 q5 hrel
     replace HM:=Zh HM
     go_upto_region 12 with fail
     replace hF:=Zh (hFs.keep hF.out ((Below.refl _ _).drew))
     replace HM:=Zh (HM.out.keep ((Below.refl _ _).drew))
     have HMs:=Zh HM.out
     refine wp_region_two (fun w'=>Mem _ w' _) 19 [(0,1),(1,2),(2,1),(3,2),(4,1),(5,2),(6,1),(7,2),(8,1),(9,1),(10,1),(11,2),(12,2),(13,0),(14,1),(15,1),(16,1),(17,1),(18,1),(19,0),(20,0)] (by kernel_rfl) (by kernel_rfl) HMs.out ?_
     clear HMs
     generalize World.drew _=wd at*
     repeat(refine p2Pure rfl rfl (by intro w_ hSw;clear hSw;go_simp;first|done|exact rfl) ?_;try go_frame)
     refine p2Take (by rfl) (yields_memc rfl _ _ rfl 3 (fun w_ hSw=>hSw) rfl 0 rfl (.pointer (some ⟨B,0,none⟩)) (by rfl) _ uP.out (by rfl)) ?_
     try go_frame
     repeat(refine p2Pure rfl rfl (by intro w_ hSw;clear hSw;go_simp;first|done|exact rfl) ?_;try go_frame)
     refine p2Take (by rfl) (yields_memc rfl _ _ rfl 3 (fun w_ hSw=>hSw) rfl 0 rfl (.pointer (some ⟨B,0,none⟩)) (by rfl) _ uP.out (by rfl)) ?_
     try go_frame
     repeat(refine p2Pure rfl rfl (by intro w_ hSw;clear hSw;go_simp;first|done|exact rfl) ?_;try go_frame)
     refine p2Take (by rfl) (yields_mem (by rfl) _ _ (by rfl) 5 (fun w_ hSw=>hSw) (by rfl) _ (by rfl) (endA y vy0) (by kernel_rfl) _ uE.out (by rfl) (by exact zend)) ?_
     try go_frame
     repeat(refine p2Pure rfl rfl (by intro w_ hSw;clear hSw;go_simp;first|done|exact rfl) ?_;try go_frame)
     refine p2Take (by rfl) (yields_mem (by rfl) _ _ (by rfl) 3 (fun w_ hSw=>hSw) (by rfl) _ (by rfl) (tabA tl vl) (by kernel_rfl) _ uT.out (by rfl) (by exact ztab)) ?_
     try go_frame
     repeat(refine p2Pure rfl rfl (by intro w_ hSw;clear hSw;go_simp;first|done|exact rfl) ?_;try go_frame)
     refine p2Take (by rfl) (yields_memc rfl _ _ rfl 5 (fun w_ hSw=>hSw) rfl 62 rfl (.slice A nf cf) (by rfl) _ Tryz.underlying31 (by rfl)) ?_
     try go_frame
     repeat(refine p2Pure rfl rfl (by intro w_ hSw;clear hSw;go_simp;first|done|exact rfl) ?_;try go_frame)
     refine p2Take (by rfl) (yields_mem (by rfl) _ _ (by rfl) 2 (fun w_ hSw=>hSw) (by rfl) _ (by rfl) (msgA m' vm) (by kernel_rfl) _ uM.out (by rfl) (by exact zmsg)) ?_
     try go_frame
     repeat(refine p2Pure rfl rfl (by intro w_ hSw;clear hSw;go_simp;first|done|exact rfl) ?_;try go_frame)
     refine p2Step rfl rfl fun K hK=> ?_
     go_wp2_with(first|(go_at_call 15;refine(cR2'.out _ _ _ HM.out.below (gYY.out _ hF.out).is (gM.out _ hF.out).is (gQ.out _ hF.out)).mono ?_;rintro r w3 ⟨vy,vq,rfl,hE,hR,hb_⟩)|fail)
     refine hK.out _ _ (fun _=>HM.out.keep hb_) fun hS_=> ?_
     clear hK K hS_
     try go_frame
     replace HM:=Zh (HM.out.keep hb_)
     replace hF:=Zh (hFs.keep hF.out hb_)
     clear hb_
     obtain⟨F1,hFs2,hF2,hU,hNw⟩:=stc_add hFs hF (Stc.ed vy _) hE
     clear hFs hF
     replace gE:=Zh (fun W h=>gE.out W (hU W h))
     replace gM:=Zh (fun W h=>gM.out W (hU W h))
     replace gYY:=Zh (fun W h=>gYY.out W (hU W h))
     replace gQ:=Zh (fun W h=>gQ.out W (hU W h))
     have gN:=Zh hNw
     clear hNw hU hE
     have hFs:=hFs2
     have hF:=hF2
     clear hFs2 hF2
     obtain⟨F2,hFs2,hF2,hU,hNw⟩:=stc_add hFs hF (Stc.sub vq _) hR
     clear hFs hF
     replace gE:=Zh (fun W h=>gE.out W (hU W h))
     replace gM:=Zh (fun W h=>gM.out W (hU W h))
     replace gYY:=Zh (fun W h=>gYY.out W (hU W h))
     replace gQ:=Zh (fun W h=>gQ.out W (hU W h))
     replace gN:=Zh (fun W h=>gN.out W (hU W h))
     have gR:=Zh hNw
     clear hNw hU hR
     have hFs:=hFs2
     have hF:=hF2
     clear hFs2 hF2
     repeat(refine p2Pure rfl rfl (by intro w_ hSw;clear hSw;go_simp;first|done|exact rfl) ?_;try go_frame)
     refine p2Step rfl rfl fun K hK=> ?_
     go_wp2_with(first|(refine wpList_storeM 5 HM rfl _ _ _ rfl _ 0 rfl rfl _ (by conv=> {lhs;whnf}) (by exact zend) (by kernel_rfl) (Nat.le_of_ble_eq_true (by kernel_rfl)) (cplA ⟨y,O,tl,tr,f,per,frm,W9,wb⟩ ⟨vy,vo,vl,vr,A,nf,cf⟩) (by kernel_rfl) ?_;have hBq:=HM.out.at_ 5 rfl;clear HM;intro w4 HM hG4;simp only[List.set]at HM;replace hF:=Zh (hFs.put hF.out hBq (by decide) (by decide) (by decide) hG4.out);clear hBq hG4)|fail)
     refine hK.out _ _ (fun h=>absurd h (by decide)) fun hS_=> ?_
     clear hK K hS_
     try go_frame
     repeat(refine p2Pure rfl rfl (by intro w_ hSw;clear hSw;go_simp;first|done|exact rfl) ?_;try go_frame)
     refine p2Step rfl rfl fun K hK=> ?_
     go_wp2_with(first|(refine wpList_storeM 0 HM rfl _ _ _ rfl _ 0 rfl rfl _ (by conv=> {lhs;whnf}) (by exact zmsg) (by kernel_rfl) (Nat.le_of_ble_eq_true (by kernel_rfl)) (msgA r vq) (by kernel_rfl) ?_;have hBq:=HM.out.at_ 0 rfl;clear HM;intro w4 HM hG4;simp only[List.set]at HM;replace hF:=Zh (hFs.put hF.out hBq (by decide) (by decide) (by decide) hG4.out);clear hBq hG4)|fail)
     refine hK.out _ _ (fun h=>absurd h (by decide)) fun hS_=> ?_
     clear hK K hS_
     try go_frame
     refine p2Done ?_
     obtain⟨W7,hW7⟩:∃b:Bool,worN W9 r.code k=b:=⟨_,rfl⟩
     replace hW7:=Zh hW7
     go_upto_region 13 with fail
     try go_frame
     go_cut[]from 70 to 85 (fun wx=>Hid (Mem a0 wx ((gr,msgA r vq,25)::(ge,endA O vo,27)::(gm,msgA m' vm,25)::(pb,ptyA B 0 65 tl vl,164)::(pa,ptyA B 28 66 tr vr,164)::(B,cplA ⟨y,O,tl,tr,f,per,frm,W7,wb⟩ ⟨vy,vo,vl,vr,A,nf,cf⟩,57)::(gy,fateA ⟨false,rp,true,rk⟩,45)::L))∧Hid (EdOwn wx vo O∧MsgSub wx vm m'∧EdOwn wx vy y∧MsgSub wx vq r∧RstO a0 vl vr A nf cf tl tr f wx))
     case first=>
      cases W9<;>by_cases e1:r.code=1<;>by_cases e2:k=6
      all_goals
       have hh:=hW7.out
       unfold worN at hh
       first|rw[decide_eq_true e1]at hh|rw[decide_eq_false e1]at hh
       first|rw[decide_eq_true e2]at hh|rw[decide_eq_false e2]at hh
       first
       |(have d1:(r.code==1)=true:=by rw[beq_iff_eq];exact e1)
       |(have d1:(r.code==1)=false:=by rw[beq_eq_false_iff_ne];exact e1)
       first
       |(have d2:(k !=6)=true:=by rw[bne_iff_ne];exact e2)
       |(have d2:(k !=6)=false:=by rw[bne_eq_false_iff_eq];exact e2)
       replace e1:=Zh e1
       replace e2:=Zh e2
       replace hF:=Zh (hFs.keep hF.out ((Below.refl _ _).drew))
       replace HM:=Zh (HM.out.keep ((Below.refl _ _).drew))
       have HMs:=Zh HM.out
       refine wp_region_plan (fun w'=>Mem _ w' _) 15 [(0,true),(1,true),(2,true),(3,true),(4,true),(5,true),(6,true),(7,true),(8,true),(9,true),(10,true),(11,true),(12,true),(13,true),(14,true)] (by kernel_rfl) (by kernel_rfl) HMs.out ?_
       generalize World.drew _=wd at*
       refine plPure rfl rfl (by intro w_ hSw;go_simp;first|done|exact rfl) ?_
       try go_frame
       refine plTakeL (by rfl) (yields_memc rfl _ _ rfl 3 (fun w_ hSw=>hSw) rfl 4 rfl (.pointer (some ⟨B,65,none⟩)) (by rfl) _ uB.out (by rfl)) ?_
       try go_frame
       refine plPure rfl rfl (by intro w_ hSw;go_simp;first|done|exact rfl) ?_
       try go_frame
       refine plTakeL (by rfl) (yields_memc rfl _ _ rfl 3 (fun w_ hSw=>hSw) rfl 4 rfl (.pointer (some ⟨B,65,none⟩)) (by rfl) _ uB.out (by rfl)) ?_
       try go_frame
       refine plPure rfl rfl (by intro w_ hSw;go_simp;first|done|exact rfl) ?_
       try go_frame
       repeat(first|(refine plTakeL rfl (yields_celG rfl _ _ rfl 0 (fun w_ hSw=>hSw) rfl _ rfl _ rfl _ (by first|exact Tryz.underlying3|exact Tryz.underlying4|exact Tryz.underlying23|exact Tryz.underlying22) (by rfl)) ?_;try go_frame)|(refine plTakeL rfl (yields_celG rfl _ _ rfl 5 (fun w_ hSw=>hSw) rfl _ rfl _ rfl _ (by first|exact Tryz.underlying3|exact Tryz.underlying4|exact Tryz.underlying23|exact Tryz.underlying22) (by rfl)) ?_;try go_frame)|(refine plPureG rfl rfl (by intro w_ hSw;go_simp;first|done|exact rfl) ?_;try go_frame)|(refine plSkipG rfl rfl ?_;try go_frame))
       refine plDone ?_
       simp only[List.drop]
       go_wp2_with(first|go_skip|(refine wpList_storeM 5 HM rfl _ _ _ rfl _ 65 rfl rfl _ (by conv=> {lhs;whnf}) (by exact zbool) (by kernel_rfl) (Nat.le_of_ble_eq_true (by kernel_rfl)) (cplA ⟨y,O,tl,tr,f,per,frm,W7,wb⟩ ⟨vy,vo,vl,vr,A,nf,cf⟩) (by rw[←hh];kernel_rfl) ?_;have hBq:=HM.out.at_ 5 rfl;clear HM;intro w4 HM hG4;simp only[List.set]at HM;replace hF:=Zh (hFs.put hF.out hBq (by decide) (by decide) (by decide) hG4.out);clear hBq hG4)|fail)
       go_meet
       exact⟨HM,gE.out _ hF.out,gM.out _ hF.out,gN.out _ hF.out,gR.out _ hF.out,gQ.out _ hF.out⟩
     case rest=>
      clear HM hF hFs
      obtain⟨HM,q0⟩:=hcut
      obtain⟨q1,q2,q3,q4,q5⟩:=q0.out
      clear q0
      obtain rfl:W7=W9:=hW7.out.symm.trans hW8.out
      have pra:World.cell? _ ⟨gy,2,none⟩=some (.bool true):=HM.out.cell 6 rfl 2
      go_wp2_with fail
      go_roundw
      case rel=>exact Zh (.inr ⟨.inr rfl,trivial,vy,vq,HM.out,q1,q2,q3,q4,q5⟩)
      case measure=>simp[intOf]
    ·go_wp2_with fail
     go_meet
     exact⟨vy,vq,Zh HM,q1,q2,q3,q4,q5⟩
  case rest=>
   clear HM hF hFs gA gB gQ gE gM F0
   obtain⟨vy,vq,HM,q0⟩:=hcut
   obtain⟨F0,hFs,hF,gE,gM,gN,gR,gQ⟩:∃F:World→Prop,Stc F∧Hid (F _)∧Hid (∀W,F W→EdOwn W vo O)∧Hid (∀W,F W→MsgSub W vm m')∧Hid (∀W,F W→EdOwn W vy y)∧Hid (∀W,F W→MsgSub W vq r)∧Hid (∀W,F W→RstO a0 vl vr A nf cf tl tr f W):=⟨_,((Stc.ed vo O).and (Stc.sub vm m')).and ((Stc.ed vy y).and ((Stc.sub vq r).and (Stc.rstO a0 vl vr A nf cf tl tr f))),⟨⟨q0.out.1,q0.out.2.1⟩,q0.out.2.2⟩,fun _ h=>h.1.1,fun _ h=>h.1.2,fun _ h=>h.2.1,fun _ h=>h.2.2.1,fun _ h=>h.2.2.2⟩
   clear q0
   have prp:World.cell? _ ⟨gy,1,none⟩=some (.bool rp):=HM.out.cell 6 rfl 1
   cases rp
   case true=>
    go_wp2_with fail
    try simp only[Exit.inBlock,Exit.then]
    refine leaves_cons (f:=187) (args:=#[.pointer (some ⟨pa,0,none⟩)]) (by simp) (by simp[go_sem]) ?_
    refine(cD1.out vo y _ wb W9 _ (HM.out.sub (by repeat(first|exact List.Sublist.refl _|apply List.Sublist.cons_cons|apply List.Sublist.cons))) _ hFs hF (gE.out _ hF.out)).mono ?_
    rintro e u' w9 ⟨rfl,rfl,vx,q1,q2,q3⟩
    refine⟨_,results_tmp rfl _ _ _,?_⟩
    exact hPo.out _ _ vy vx _ hXR.out (q1.tail) (EdO.of_own (gN.out _ q2)) (EdO.of_own q3) (gQ.out _ q2) ⟨rfl,rfl,rfl⟩
   go_upto_region 18 with fail
   clear prp
   replace hF:=Zh (hFs.keep hF.out ((Below.refl _ _).drew))
   replace HM:=Zh (HM.out.keep ((Below.refl _ _).drew))
   have HMs:=Zh HM.out
   refine wp_region_two (fun w'=>Mem _ w' _) 12 [(0,1),(1,2),(2,1),(3,2),(4,1),(5,2),(6,2),(7,0),(8,1),(9,1),(10,1),(11,1),(12,0)] (by kernel_rfl) (by kernel_rfl) HMs.out ?_
   clear HMs
   generalize World.drew _=wd at*
   repeat(refine p2Pure rfl rfl (by intro w_ hSw;clear hSw;go_simp;first|done|exact rfl) ?_;try go_frame)
   refine p2Take (by rfl) (yields_memc rfl _ _ rfl 4 (fun w_ hSw=>hSw) rfl 0 rfl (.pointer (some ⟨B,28,none⟩)) (by rfl) _ uP.out (by rfl)) ?_
   try go_frame
   repeat(refine p2Pure rfl rfl (by intro w_ hSw;clear hSw;go_simp;first|done|exact rfl) ?_;try go_frame)
   refine p2Take (by rfl) (yields_memc rfl _ _ rfl 4 (fun w_ hSw=>hSw) rfl 0 rfl (.pointer (some ⟨B,28,none⟩)) (by rfl) _ uP.out (by rfl)) ?_
   try go_frame
   repeat(refine p2Pure rfl rfl (by intro w_ hSw;clear hSw;go_simp;first|done|exact rfl) ?_;try go_frame)
   refine p2Take (by rfl) (yields_mem (by rfl) _ _ (by rfl) 5 (fun w_ hSw=>hSw) (by rfl) _ (by rfl) (endA O vo) (by kernel_rfl) _ uE.out (by rfl) (by exact zend)) ?_
   try go_frame
   repeat(refine p2Pure rfl rfl (by intro w_ hSw;clear hSw;go_simp;first|done|exact rfl) ?_;try go_frame)
   refine p2Take (by rfl) (yields_mem (by rfl) _ _ (by rfl) 0 (fun w_ hSw=>hSw) (by rfl) _ (by rfl) (msgA r vq) (by kernel_rfl) _ uM.out (by rfl) (by exact zmsg)) ?_
   try go_frame
   repeat(refine p2Pure rfl rfl (by intro w_ hSw;clear hSw;go_simp;first|done|exact rfl) ?_;try go_frame)
   refine p2Step rfl rfl fun K hK=> ?_
   go_wp2_with(first|(go_at_call 48;refine(cFi.out _ _ _ (gE.out _ hF.out).is (gR.out _ hF.out).is).mono ?_;rintro r w3 ⟨vz,rfl,hE,hb_⟩)|fail)
   refine hK.out _ _ (fun _=>HM.out.keep hb_) fun hS_=> ?_
   clear hK K hS_
   try go_frame
   replace HM:=Zh (HM.out.keep hb_)
   replace hF:=Zh (hFs.keep hF.out hb_)
   clear hb_
   obtain⟨F1,hFs2,hF2,hU,hNw⟩:=stc_add hFs hF (Stc.ed vz _) hE
   clear hFs hF
   replace gE:=Zh (fun W h=>gE.out W (hU W h))
   replace gM:=Zh (fun W h=>gM.out W (hU W h))
   replace gN:=Zh (fun W h=>gN.out W (hU W h))
   replace gR:=Zh (fun W h=>gR.out W (hU W h))
   replace gQ:=Zh (fun W h=>gQ.out W (hU W h))
   have gZ:=Zh hNw
   clear hNw hU hE
   have hFs:=hFs2
   have hF:=hF2
   clear hFs2 hF2
   repeat(refine p2Pure rfl rfl (by intro w_ hSw;clear hSw;go_simp;first|done|exact rfl) ?_;try go_frame)
   refine p2Step rfl rfl fun K hK=> ?_
   go_wp2_with(first|(refine wpList_storeM 5 HM rfl _ _ _ rfl _ 28 rfl rfl _ (by conv=> {lhs;whnf}) (by exact zend) (by kernel_rfl) (Nat.le_of_ble_eq_true (by kernel_rfl)) (cplA ⟨y,z,tl,tr,f,per,frm,W9,wb⟩ ⟨vy,vz,vl,vr,A,nf,cf⟩) (by kernel_rfl) ?_;have hBq:=HM.out.at_ 5 rfl;clear HM;intro w4 HM hG4;simp only[List.set]at HM;replace hF:=Zh (hFs.put hF.out hBq (by decide) (by decide) (by decide) hG4.out);clear hBq hG4)|fail)
   refine hK.out _ _ (fun h=>absurd h (by decide)) fun hS_=> ?_
   clear hK K hS_
   try go_frame
   refine p2Done ?_
   go_upto_region 19 with fail
   try go_frame
   go_cut[]from 104 to 119 (fun wx=>Hid (Mem a0 wx ((gr,msgA r vq,25)::(ge,endA O vo,27)::(gm,msgA m' vm,25)::(pb,ptyA B 0 65 tl vl,164)::(pa,ptyA B 28 66 tr vr,164)::(B,cplA ⟨y,z,tl,tr,f,per,frm,W9,W5⟩ ⟨vy,vz,vl,vr,A,nf,cf⟩,57)::(gy,fateA ⟨false,false,ra,rk⟩,45)::L))∧Hid (EdOwn wx vz z∧MsgSub wx vm m'∧EdOwn wx vy y∧MsgSub wx vq r∧RstO a0 vl vr A nf cf tl tr f wx))
   case first=>
    cases wb<;>by_cases e1:r.code=1<;>by_cases e2:k=6
    all_goals
     have hh:=hW5.out
     unfold worN at hh
     first|rw[decide_eq_true e1]at hh|rw[decide_eq_false e1]at hh
     first|rw[decide_eq_true e2]at hh|rw[decide_eq_false e2]at hh
     first
     |(have d1:(r.code==1)=true:=by rw[beq_iff_eq];exact e1)
     |(have d1:(r.code==1)=false:=by rw[beq_eq_false_iff_ne];exact e1)
     first
     |(have d2:(k !=6)=true:=by rw[bne_iff_ne];exact e2)
     |(have d2:(k !=6)=false:=by rw[bne_eq_false_iff_eq];exact e2)
     replace e1:=Zh e1
     replace e2:=Zh e2
     replace hF:=Zh (hFs.keep hF.out ((Below.refl _ _).drew))
     replace HM:=Zh (HM.out.keep ((Below.refl _ _).drew))
     have HMs:=Zh HM.out
     refine wp_region_plan (fun w'=>Mem _ w' _) 15 [(0,true),(1,true),(2,true),(3,true),(4,true),(5,true),(6,true),(7,true),(8,true),(9,true),(10,true),(11,true),(12,true),(13,true),(14,true)] (by kernel_rfl) (by kernel_rfl) HMs.out ?_
     generalize World.drew _=wd at*
     refine plPure rfl rfl (by intro w_ hSw;go_simp;first|done|exact rfl) ?_
     try go_frame
     refine plTakeL (by rfl) (yields_memc rfl _ _ rfl 4 (fun w_ hSw=>hSw) rfl 4 rfl (.pointer (some ⟨B,66,none⟩)) (by rfl) _ uB.out (by rfl)) ?_
     try go_frame
     refine plPure rfl rfl (by intro w_ hSw;go_simp;first|done|exact rfl) ?_
     try go_frame
     refine plTakeL (by rfl) (yields_memc rfl _ _ rfl 4 (fun w_ hSw=>hSw) rfl 4 rfl (.pointer (some ⟨B,66,none⟩)) (by rfl) _ uB.out (by rfl)) ?_
     try go_frame
     refine plPure rfl rfl (by intro w_ hSw;go_simp;first|done|exact rfl) ?_
     try go_frame
     repeat(first|(refine plTakeL rfl (yields_celG rfl _ _ rfl 0 (fun w_ hSw=>hSw) rfl _ rfl _ rfl _ (by first|exact Tryz.underlying3|exact Tryz.underlying4|exact Tryz.underlying23|exact Tryz.underlying22) (by rfl)) ?_;try go_frame)|(refine plTakeL rfl (yields_celG rfl _ _ rfl 5 (fun w_ hSw=>hSw) rfl _ rfl _ rfl _ (by first|exact Tryz.underlying3|exact Tryz.underlying4|exact Tryz.underlying23|exact Tryz.underlying22) (by rfl)) ?_;try go_frame)|(refine plPureG rfl rfl (by intro w_ hSw;go_simp;first|done|exact rfl) ?_;try go_frame)|(refine plSkipG rfl rfl ?_;try go_frame))
     refine plDone ?_
     simp only[List.drop]
     go_wp2_with(first|go_skip|(refine wpList_storeM 5 HM rfl _ _ _ rfl _ 66 rfl rfl _ (by conv=> {lhs;whnf}) (by exact zbool) (by kernel_rfl) (Nat.le_of_ble_eq_true (by kernel_rfl)) (cplA ⟨y,z,tl,tr,f,per,frm,W9,W5⟩ ⟨vy,vz,vl,vr,A,nf,cf⟩) (by rw[←hh];kernel_rfl) ?_;have hBq:=HM.out.at_ 5 rfl;clear HM;intro w4 HM hG4;simp only[List.set]at HM;replace hF:=Zh (hFs.put hF.out hBq (by decide) (by decide) (by decide) hG4.out);clear hBq hG4)|fail)
     go_meet
     exact⟨HM,gZ.out _ hF.out,gM.out _ hF.out,gN.out _ hF.out,gR.out _ hF.out,gQ.out _ hF.out⟩
   case rest=>
    clear HM hF hFs
    obtain⟨HM,q0⟩:=hcut
    obtain⟨q1,q2,q3,q4,q5⟩:=q0.out
    clear q0
    obtain⟨F0,hFs,hF,gZ,gN,gQ⟩:∃F:World→Prop,Stc F∧Hid (F _)∧Hid (∀W,F W→EdOwn W vz z)∧Hid (∀W,F W→EdOwn W vy y)∧Hid (∀W,F W→RstO a0 vl vr A nf cf tl tr f W):=⟨_,(Stc.ed vz z).and ((Stc.ed vy y).and (Stc.rstO a0 vl vr A nf cf tl tr f)),⟨q1,q3,q5⟩,fun _ h=>h.1,fun _ h=>h.2.1,fun _ h=>h.2.2⟩
    clear q1 q2 q3 q4 q5
    go_wp2_with fail
    try simp only[Exit.inBlock,Exit.then]
    refine leaves_cons (f:=187) (args:=#[.pointer (some ⟨pa,0,none⟩)]) (by simp) (by simp[go_sem]) ?_
    refine(cD2.out vz y _ W5 W9 _ (HM.out.sub (by repeat(first|exact List.Sublist.refl _|apply List.Sublist.cons_cons|apply List.Sublist.cons))) _ hFs hF (gZ.out _ hF.out)).mono ?_
    rintro e u' w9 ⟨rfl,rfl,vx,q1,q2,q3⟩
    refine⟨_,results_tmp rfl _ _ _,?_⟩
    exact hPo.out _ _ vy vx _ hXR.out (q1.tail) (EdO.of_own (gN.out _ q2)) (EdO.of_own q3) (gQ.out _ q2) ⟨rfl,rfl,rfl⟩
end Tx
end Go.Proofs.YtggpaahhgchloaaGreat
