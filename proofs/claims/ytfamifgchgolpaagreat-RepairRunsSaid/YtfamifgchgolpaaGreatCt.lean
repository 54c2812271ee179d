/- Chapter 27: Exchange: the reference's. -/
import Derived.Test.YtfamifgchgolpaaGreatCs
import Derived.Test.YtfamifgchgolpaaGreatVg
import Derived.Test.YtfamifgchgolpaaGreatVz
set_option linter.unusedVariables false
set_option linter.unusedSimpArgs false
set_option maxRecDepth 100000
set_option maxHeartbeats 16000000
namespace Go.Proofs.YtfamifgchgolpaaGreat
open Go Go.RowKit Go.Sort Go.Shelf Go.Maps
namespace Tx
open Sw Mm Pl
theorem zfaR:(Tryz.prog.info? 40).map (·.size)=some 4:=by kernel_rfl
theorem results_4 {P:Program} {fn:Func} {s r u u2:Tmp} {ty tz:TypeId}(hr:fn.results=#[.cell s ty,.cell r tz,.tmp u,.tmp u2]) {tmps:Array Value} {w:World} {B E:Nat} {C D:Array Value} {t k:TypeId}(hB:Blk w B C t)(hE:Blk w E D k)(hs:tmps.getD s undef= .pointer (some ⟨B,0,none⟩))(hs2:tmps.getD r undef= .pointer (some ⟨E,0,none⟩))
 (d:TypeDesc) (hu:P.underlying ty=some d) (hd:(match d with| .struct _| .array _ _=>true|_=>false)=true) (hi:(P.info? ty).map (·.size)=some C.size) (d2:TypeDesc) (hu2:P.underlying tz=some d2) (hd2:(match d2 with| .struct _| .array _ _=>true|_=>false)=true) (hi2:(P.info? tz).map (·.size)=some D.size):
 (results fn tmps).run P w= .ok (.tuple #[.agg C,.agg D,tmps.getD u undef,tmps.getD u2 undef]) w:=by
 have h1:=run_loadVar_blk hB ty d hu hd hi
 have h2:=run_loadVar_blk hE tz d2 hu2 hd2 hi2
 rw[Array.getD_eq_getD_getElem?]at hs hs2
 simp[results,hr,hs,hs2,asAddr,h1,h2]
def OwnC(vb:EdV)(b:Ed)(v:EdV)(e:Ed)(w:World):Prop:=EdOwn w v e∨(v=vb∧e=b)
theorem OwnC.is {w:World} {vb v:EdV} {b e:Ed}(h:OwnC vb b v e w)(hb:EdIs w vb b):EdIs w v e:=h.elim (·.is) (fun⟨h1,h2⟩=>by rw[h1,h2];exact hb)
theorem Stb.ownC(vb:EdV)(b:Ed)(v:EdV)(e:Ed):Stb (OwnC vb b v e):=⟨fun h hb=>h.imp (·.keep hb) id,fun h hB h1 h2 hg=>h.imp (·.put hB h1 h2 hg) id⟩
theorem EdOwn.clos {w:World} {v:EdV} {e:Ed}(h:EdOwn w v e):EdOwn w { v with a:=msgV0} (closE e):=⟨h.cells,h.lc,MsgOwn.zero _,h.last,h.reply⟩
def RExPost(vb:EdV)(b:Ed)(E1 E2:Ed)(code err:Int)(w:World)(r:Ending)(w':World):Prop:=∃v1 v2,r= .returned (.tuple #[.agg (endA E1 v1),.agg (endA E2 v2),.int .i64 code,.int .i64 err])∧EdOwn w' v1 E1∧OwnC vb b v2 E2 w'∧Below w.heap.size w w'
theorem rexpired_any(e:Ed)(v:EdV)(w:World):Calls Tryz.prog 91 #[.agg (endA e v)] w fun r w'=>r= .returned (.agg (endA (closE e) { v with a:=msgV0}))∧Below w.heap.size w w':=by
 have I:=Zh (Mem.start w)
 obtain⟨F0,q_,J⟩:∃F:World→Prop,Stb F∧Hid (F w):=⟨_,Stb.true,trivial⟩
 have uE:=Tryz.underlying32
 have uT:=Tryz.underlying37
 have uM:=Tryz.underlying30
 clear uT
 replace uE:=Zh uE
 replace uM:=Zh uM
 go_enter Tryz.func91,Tryz.ntmps91
 have mk1:Unit:=()
 have mk2:Unit:=()
 go_upto_region 1 with(first|go_skip|(clear mk1;refine q_.b I J 32 ?_;clear I J;intro ge w1 I J)|(clear mk2;refine q_.a I J edInfo ?_;clear I J;intro g2 w1 I J)|fail)
 go_wp2_with(first|go_skip|(refine q_.m 1 I J 4 (endA { e with opn:=false} v) ?_;clear I J;intro w4 I J;simp only[List.set]at I)|(refine q_.m 1 I J 5 (endA { e with opn:=false,since:=0} v) ?_;clear I J;intro w4 I J;simp only[List.set]at I)|(refine q_.m 1 I J 6 (endA (closE e) { v with a:=msgV0}) ?_;clear I J;intro w4 I J;simp only[List.set]at I)|(refine lG 1 I uE.out ?_)|(refine q_.s 0 I J ?_;clear I J;intro w4 I J;simp only[List.set]at I)|fail)
 try simp only[Exit.inBlock,Exit.then]
 refine rC I 0 uE.out ?_
 exact⟨rfl,I.below⟩
theorem rexch_any(a b:Ed)(ta tb:Tab)(f:List Int)(kind count:Int)(x:Fate)(va vb:EdV)(vta vtb:TabV)(A:Option Addr)(nf cf:Nat)(w:World)(h1:EdIs w va a)(h2:EdIs w vb b)(t1:TabIs w vta ta)(t2:TabIs w vtb tb)(hf:IntS w A nf f):Calls Tryz.prog 25 #[.agg (endA a va),.agg (endA b vb),.agg (tabA ta vta),.agg (tabA tb vtb),.slice A nf cf,.int .i64 kind,.int .i64 count,.agg #[.bool x.request,.bool x.reply,.bool x.requestAck,.bool x.replyAck]] w (RExPost vb b (exN a b ta tb f kind count x).1 (exN a b ta tb f kind count x).2.1 (exN a b ta tb f kind count x).2.2 (exC a b ta tb f kind count) w):=by
 have I:=Zh (Mem.start w)
 obtain⟨F0,q_,J⟩:∃F:World→Prop,Stb F∧Hid (F w):=⟨_,Stb.true,trivial⟩
 have uE:=Tryz.underlying32
 have uT:=Tryz.underlying37
 have uM:=Tryz.underlying30
 have hEx:exC a b ta tb f kind count=if idleC a b ta tb≠0 then idleC a b ta tb else askC a ta f kind count 0:=rfl
 have hId:idleC a b ta tb=if idleB a b ta tb=false then 1 else if a.opn=true∨b.opn=true then 12 else 0:=rfl
 have cP:=fun W (hb:Below w.heap.size w W)=>pairR_any a b ta tb va vb vta vtb W (h1.keep hb) (h2.keep hb) (t1.keep hb) (t2.keep hb)
 have cA:=fun W (hb:Below w.heap.size w W)=>rask_any a ta va vta A nf cf f kind count 0 W (h1.keep hb) (t1.keep hb) (hf.keep hb)
 unfold TriOwn at cA
 have cE:=fun e v W=>rexpired_any e v W
 have cR:=fun y vy m vm W (hb:Below w.heap.size w W) (hy:EdIs W vy y) (hm:MsgIs W vm m)=>rreceive_any y tb f m vy vtb vm A nf cf W hy (t2.keep hb) (hf.keep hb) hm
 unfold TriOwn at cR
 have cF:=fun y vy m vm W (hy:EdIs W vy y) (hm:MsgIs W vm m)=>rfinish_any y m vy vm W hy hm
 unfold EndOwn at cF
 have hbi:=fun W (hb:Below w.heap.size w W)=>h2.keep hb
 have hbz:∀W,OwnC vb b vb b W:=fun W=> .inr ⟨rfl,rfl⟩
 generalize hP:RExPost vb b (exN a b ta tb f kind count x).1 (exN a b ta tb f kind count x).2.1 (exN a b ta tb f kind count x).2.2 (exC a b ta tb f kind count) w=P
 have hPb:∀c W,exC a b ta tb f kind count=c→c≠0→Below w.heap.size w W→P (.returned (.tuple #[.agg (Kz 28),.agg (Kz 28),.int .i64 0,.int .i64 c])) W:=fun c W e1 e2 hb=>by
  rw[←hP,show exN a b ta tb f kind count x=(ed0,ed0,0)from by unfold exN;rw[if_neg (by rw[e1];exact e2)],e1]
  exact⟨edV0,edV0,rfl,EdOwn.zero _,.inl (EdOwn.zero _),hb⟩
 have hPo:∀E1 E2 code v1 v2 W,exC a b ta tb f kind count=0→runN a b ta tb f kind count x=(E1,E2,code)→EdOwn W v1 E1→OwnC vb b v2 E2 W→Below w.heap.size w W→P (.returned (.tuple #[.agg (endA E1 v1),.agg (endA E2 v2),.int .i64 code,.int .i64 0])) W:=fun E1 E2 code v1 v2 W e1 e2 z1 z2 hb=>by
  rw[←hP,show exN a b ta tb f kind count x=(E1,E2,code)from by unfold exN;rw[if_pos e1,e2],e1]
  exact⟨v1,v2,rfl,z1,z2,hb⟩
 clear hP
 have hRun:runN a b ta tb f kind count x=if x.request=true then(closE (askE a ta f kind count 0),b,-1)else if x.reply=true then(closE (askE a ta f kind count 0),(gotN b tb f (askN a ta f kind count 0) x).1,-1)else(finN (askE a ta f kind count 0) (gotN b tb f (askN a ta f kind count 0) x).2,(gotN b tb f (askN a ta f kind count 0) x).1,(gotN b tb f (askN a ta f kind count 0) x).2.code):=rfl
 have hGo:∀m,gotN b tb f m x=if x.requestAck=true then recv (recv b tb f m).1 tb f m else recv b tb f m:=fun _=>rfl
 obtain⟨x0,x1,x2,x3⟩:=x
 dsimp only at hRun hGo
 generalize runN a b ta tb f kind count ⟨x0,x1,x2,x3⟩=RN at*
 generalize exC a b ta tb f kind count=EC at*
 generalize idleC a b ta tb=IC at*
 generalize idleB a b ta tb=B1 at*
 generalize askC a ta f kind count 0=AC at*
 generalize askE a ta f kind count 0=AE at*
 generalize askN a ta f kind count 0=AM at*
 generalize hGe:gotN b tb f AM ⟨x0,x1,x2,x3⟩=GT at*
 have hG2:=hGe.symm.trans (hGo AM)
 clear hGo hGe
 refine zh12 ?_ cP cA cE cR cF hPb hPo hEx hId hRun hbi hbz;clear cP cA cE cR cF hPb hPo hEx hId hRun hbi hbz;intro cP cA cE cR cF hPb hPo hEx hId hRun hbi hbz
 refine zh4 ?_ hG2 uE uT uM;clear hG2 uE uT uM;intro hG2 uE uT uM
 clear h1 h2 t1 t2 hf
 go_enter Tryz.func25,Tryz.ntmps25
 have uY:=Tryz.underlying40
 replace uY:=Zh uY
 have mk1:Unit:=()
 have mk2:Unit:=()
 have mk3:Unit:=()
 have mk4:Unit:=()
 have mk5:Unit:=()
 have mk6:Unit:=()
 have mk7:Unit:=()
 go_upto_region 1 with(first|go_skip|(clear mk1;refine q_.b I J 32 ?_;clear I J;intro ga w1 I J)|(clear mk2;refine q_.b I J 32 ?_;clear I J;intro gb w1 I J)|(clear mk3;refine q_.b I J 37 ?_;clear I J;intro gta w1 I J)|(clear mk4;refine q_.b I J 37 ?_;clear I J;intro gtb w1 I J)|(clear mk5;refine q_.b I J 40 ?_;clear I J;intro gx w1 I J)|(clear mk6;refine q_.a I J edInfo ?_;clear I J;intro g16 w1 I J)|(clear mk7;refine q_.a I J edInfo ?_;clear I J;intro g17 w1 I J)|fail)
 cases B1
 case false=>
  have hA1:EC=1:=by rw[hEx.out,hId.out];rfl
  replace hA1:=Zh hA1
  have mk8:Unit:=()
  go_wp2_with(first|go_skip|(refine lG 6 I uE.out ?_)|(refine lG 5 I uE.out ?_)|(refine lG 4 I uT.out ?_)|(refine lG 3 I uT.out ?_)|(go_at_call 89;clear mk8;refine q_.k I J (cP _ I.below) ?_;clear I J;intro w3 I J;dsimp only)|(refine q_.s 1 I J ?_;clear I J;intro w4 I J;simp only[List.set]at I)|(refine q_.s 0 I J ?_;clear I J;intro w4 I J;simp only[List.set]at I)|fail)
  try simp only[Exit.inBlock,Exit.then]
  refine bodyPost_ret (results_4 rfl (I.at_ 1 rfl) (I.at_ 0 rfl) rfl rfl _ uE.out rfl (by exact zend) _ uE.out rfl (by exact zend)) rfl ?_
  exact hPb.out 1 _ hA1.out (by decide) I.below
 have mk8:Unit:=()
 go_upto_region 3 with(first|go_skip|(refine lG 6 I uE.out ?_)|(refine lG 5 I uE.out ?_)|(refine lG 4 I uT.out ?_)|(refine lG 3 I uT.out ?_)|(go_at_call 89;clear mk8;refine q_.k I J (cP _ I.below) ?_;clear I J;intro w3 I J;dsimp only)|fail)
 have p4:=Zc I 6 4 (.bool a.opn)
 have q4:=Zc I 5 4 (.bool b.opn)
 cases oa:a.opn
 case true=>
  rw[oa]at p4
  have hI1:IC=12:=by rw[hId.out,if_neg (by decide),if_pos (by simp[oa])]
  have hA1:EC=12:=by rw[hEx.out,hI1,if_pos (by decide)]
  replace hA1:=Zh hA1
  clear hEx hId
  go_wp2_with(first|go_skip|(refine q_.s 1 I J ?_;clear I J p4 q4;intro w4 I J;simp only[List.set]at I)|(refine q_.s 0 I J ?_;clear I J;intro w4 I J;simp only[List.set]at I)|fail)
  try simp only[Exit.inBlock,Exit.then]
  refine bodyPost_ret (results_4 rfl (I.at_ 1 rfl) (I.at_ 0 rfl) rfl rfl _ uE.out rfl (by exact zend) _ uE.out rfl (by exact zend)) rfl ?_
  exact hPb.out 12 _ hA1.out (by decide) I.below
 rw[oa]at p4
 cases ob:b.opn
 case true=>
  rw[ob]at q4
  have hI1:IC=12:=by rw[hId.out,if_neg (by decide),if_pos (by simp[ob])]
  have hA1:EC=12:=by rw[hEx.out,hI1,if_pos (by decide)]
  replace hA1:=Zh hA1
  clear hEx hId
  go_wp2_with(first|go_skip|(refine q_.s 1 I J ?_;clear I J p4 q4;intro w4 I J;simp only[List.set]at I)|(refine q_.s 0 I J ?_;clear I J;intro w4 I J;simp only[List.set]at I)|fail)
  try simp only[Exit.inBlock,Exit.then]
  refine bodyPost_ret (results_4 rfl (I.at_ 1 rfl) (I.at_ 0 rfl) rfl rfl _ uE.out rfl (by exact zend) _ uE.out rfl (by exact zend)) rfl ?_
  exact hPb.out 12 _ hA1.out (by decide) I.below
 rw[ob]at q4
 have hI1:IC=0:=by rw[hId.out,if_neg (by decide),if_neg (by simp[oa,ob])]
 have hE0:EC=AC:=by rw[hEx.out,hI1,if_neg (by decide)]
 clear hI1
 clear hEx hId
 subst hE0
 go_upto_region 5 with fail
 clear p4 q4
 have mk9:Unit:=()
 have mk10:Unit:=()
 have mk11:Unit:=()
 go_upto_region 6 with(first|go_skip|(refine lG 6 I uE.out ?_)|(refine lG 4 I uT.out ?_)|(go_at_call 90;clear mk9;refine(cA _ I.below).mono ?_;rintro r w3 ⟨vo,vm,rfl,hO5,hM5,p_⟩;replace I:=Zm I p_;replace J:=q_.z J p_;clear p_;refine sA q_ J (Stb.ed vo _) hO5 ?_;clear q_ J hO5;intro F1 q_ J hU gO;clear hU;refine sA q_ J (Stb.sub vm _) hM5 ?_;clear q_ J hM5;intro F2 q_ J hU gM;replace gO:=Zu gO hU;clear hU;dsimp only)|(clear mk10;refine q_.a I J edInfo ?_;clear I J;intro g20 w1 I J)|(clear mk11;refine q_.a I J msgInfo ?_;clear I J;intro g21 w1 I J)|(refine q_.s 1 I J ?_;clear I J;intro w4 I J;simp only[List.set]at I)|(refine q_.s 0 I J ?_;clear I J;intro w4 I J;simp only[List.set]at I)|fail)
 by_cases e1:EC=0
 case neg=>
  have d1:(EC !=0)=true:=by rw[bne_iff_ne];exact e1
  have hP2:=Zh (fun W=>hPb.out EC W rfl e1)
  replace e1:=Zh e1
  go_wp2_with(first|go_skip|(refine q_.s 3 I J ?_;clear I J;intro w4 I J;simp only[List.set]at I)|(refine q_.s 2 I J ?_;clear I J;intro w4 I J;simp only[List.set]at I)|fail)
  try simp only[Exit.inBlock,Exit.then]
  refine bodyPost_ret (results_4 rfl (I.at_ 3 rfl) (I.at_ 2 rfl) rfl rfl _ uE.out rfl (by exact zend) _ uE.out rfl (by exact zend)) rfl ?_
  exact hP2.out _ I.below
 have d1:(EC !=0)=false:=by rw[bne_eq_false_iff_eq];exact e1
 have hPr:=Zh (fun E1 E2 code v1 v2 W=>hPo.out E1 E2 code v1 v2 W e1)
 clear hPb hPo
 replace e1:=Zh e1
 go_upto_region 8 with fail
 clear d1
 have r0:=Zc I 4 0 (.bool x0)
 cases x0
 case true=>
  have hR2:=Zh (hRun.trans (if_pos rfl))
  go_upto_region 9 with fail
  clear r0
  replace J:=Zh (q_.keep J ((Below.refl _ _).drew))
  replace I:=Zh (I.keep ((Below.refl _ _).drew))
  have HMs:=Zh I.out
  replace HMs:=Zh (HMs.less 3)
  simp only[List.eraseIdx]at HMs
  refine wp_region_plan (fun w'=>Mem _ w' _) 4 [(0,true),(2,true),(1,false),(3,false)] (by kernel_rfl) (by kernel_rfl) HMs.out ?_
  generalize World.drew _=wd at*
  refine plTakeL (by rfl) (yw 1 uE.out) ?_
  try go_frame
  refine plTakeL (by rfl) (yw 6 uE.out) ?_
  try go_frame
  refine plStepL rfl rfl fun K hK=> ?_
  go_wp2_with(first|(go_at_call 91;refine(cE _ _ _).mono ?_;rintro r w3 ⟨rfl,p_⟩;dsimp only)|fail)
  refine hK _ _ (HMs.keep p_) fun hS_=> ?_
  clear hK K hS_
  try go_frame
  replace I:=Zm I p_
  replace J:=q_.z J p_
  clear p_ HMs
  refine plStepL rfl rfl fun K hK=> ?_
  go_wp2_with(first|(refine q_.s 3 I J ?_;clear I J;intro w4 I J;simp only[List.set]at I)|fail)
  refine hK _ _ ((I.less 3)) fun hS_=> ?_
  clear hK K hS_
  try go_frame
  refine plDone ?_
  simp only[List.drop]
  go_wp2_with(first|go_skip|(refine q_.s 2 I J ?_;clear I J;intro w4 I J;simp only[List.set]at I)|fail)
  try simp only[Exit.inBlock,Exit.then]
  refine bodyPost_ret (results_4 rfl (I.at_ 3 rfl) (I.at_ 2 rfl) rfl rfl _ uE.out rfl (by exact zend) _ uE.out rfl (by exact zend)) rfl ?_
  exact hPr.out _ _ _ _ _ _ hR2.out (gO _ J).clos (hbz _) I.below
 replace hRun:=Zh (hRun.trans (if_neg (by decide)))
 go_upto_region 10 with fail
 clear r0
 obtain⟨Y1,R1,hY1⟩:∃Y R,recv b tb f AM=(Y,R):=⟨_,_,rfl⟩
 obtain⟨C1,hC1⟩:∃C,recvC b tb AM=C:=⟨_,rfl⟩
 have cR1:=Zh (fun W hb hm=>cR.out b vb AM vm W hb (hbi W hb) hm)
 rw[hY1,hC1]at cR1
 rw[hY1]at hG2
 clear hC1
 have mk12:Unit:=()
 have mk13:Unit:=()
 go_upto_region 11 with(first|go_skip|(refine lG 7 I uE.out ?_)|(refine lG 5 I uT.out ?_)|(refine lG 0 I uM.out ?_)|(go_at_call 92;clear mk12;refine(cR1 _ I.below (gM _ J).is).mono ?_;rintro r w3 ⟨vy,vr,rfl,hE,hM5,p_⟩;replace I:=Zm I p_;replace J:=q_.z J p_;clear p_;refine sA q_ J (Stb.ed vy _) hE ?_;clear q_ J hE;intro F3 q_ J hU gY;replace gO:=Zu gO hU;replace gM:=Zu gM hU;clear hU;refine sA q_ J (Stb.sub vr _) hM5 ?_;clear q_ J hM5;intro F4 q_ J hU gR;replace gO:=Zu gO hU;replace gM:=Zu gM hU;replace gY:=Zu gY hU;clear hU;dsimp only)|(clear mk13;refine q_.a I J msgInfo ?_;clear I J;intro g23 w1 I J)|(refine q_.s 8 I J ?_;clear I J;intro w4 I J;simp only[List.set]at I)|(refine q_.s 0 I J ?_;clear I J;intro w4 I J;simp only[List.set]at I)|fail)
 clear cR1 hY1
 have r2:=Zc I 5 2 (.bool x2)
 go_upto_if 71 with fail
 try go_frame
 go_cut[] (fun wx=>∃(Y:Ed) (R:Msg) (vY:EdV) (vR:MsgV),GT=(Y,R)∧Hid (EdOwn wx vY Y)∧Hid (MsgSub wx vR R)∧Hid (EdOwn wx vo AE)∧Hid (Mem w wx [(g23,msgA R vR,30),(g21,msgA AM vm,30),(g20,endA AE vo,32),(g17,(Kz 28),32),(g16,(Kz 28),32),(gx,#[.bool false,.bool x1,.bool x2,.bool x3],40),(gtb,tabA tb vtb,37),(gta,tabA ta vta,37),(gb,endA Y vY,32),(ga,endA a va,32)]))
 case first=>
  cases x2
  case false=>
   have hG3:=hG2.out
   clear r2
   go_wp2_with fail
   go_meet
   exact⟨Y1,R1,vy,vr,hG3,Zh (gY _ J),Zh (gR _ J),Zh (gO _ J),I⟩
  have hG3:=hG2.out
  rw[if_pos rfl]at hG3
  dsimp only at hG3
  obtain⟨Y2,R2,hY2⟩:∃Y R,recv Y1 tb f AM=(Y,R):=⟨_,_,rfl⟩
  obtain⟨C2,hC2⟩:∃C,recvC Y1 tb AM=C:=⟨_,rfl⟩
  have cR1:=Zh (fun W hb hy hm=>cR.out Y1 vy AM vm W hb hy hm)
  rw[hY2,hC2]at cR1
  rw[hY2]at hG3
  clear hC2 hY2
  replace hG3:=Zh hG3
  go_upto_region 12 with fail
  clear r2
  have mk14:Unit:=()
  go_wp2_with(first|go_skip|(refine lG 8 I uE.out ?_)|(refine lG 6 I uT.out ?_)|(refine lG 1 I uM.out ?_)|(go_at_call 92;clear mk14;refine(cR1 _ I.below (gY _ J).is (gM _ J).is).mono ?_;rintro r w3 ⟨vy2,vr2,rfl,hE,hM5,p_⟩;replace I:=Zm I p_;replace J:=q_.z J p_;clear p_;refine sA q_ J (Stb.ed vy2 _) hE ?_;clear q_ J hE;intro F5 q_ J hU gY2;replace gO:=Zu gO hU;replace gM:=Zu gM hU;replace gY:=Zu gY hU;replace gR:=Zu gR hU;clear hU;refine sA q_ J (Stb.sub vr2 _) hM5 ?_;clear q_ J hM5;intro F6 q_ J hU gR2;replace gO:=Zu gO hU;replace gM:=Zu gM hU;replace gY:=Zu gY hU;replace gR:=Zu gR hU;replace gY2:=Zu gY2 hU;clear hU;dsimp only)|(refine q_.s 8 I J ?_;clear I J;intro w4 I J;simp only[List.set]at I)|(refine q_.s 0 I J ?_;clear I J;intro w4 I J;simp only[List.set]at I)|fail)
  go_meet
  exact⟨Y2,R2,vy2,vr2,hG3.out,Zh (gY2 _ J),Zh (gR2 _ J),Zh (gO _ J),I⟩
 case rest=>
  clear I J q_ gO gM gY gR hG2 cR hbi r2
  obtain⟨Y,R,vY,vR,hG,hy,hr,ho,I⟩:=hcut
  obtain⟨F19,q_,J,gO,gY,gR⟩:∃F:World→Prop,Stb F∧Hid (F _)∧Hid (∀W,F W→EdOwn W vo AE)∧Hid (∀W,F W→EdOwn W vY Y)∧Hid (∀W,F W→MsgSub W vR R):=⟨_,(Stb.ed vo AE).and ((Stb.ed vY Y).and (Stb.sub vR R)),Zh ⟨ho.out,hy.out,hr.out⟩,Zh fun _ h=>h.1,Zh fun _ h=>h.2.1,Zh fun _ h=>h.2.2⟩
  clear ho hy hr
  subst hG
  replace hRun:=Zh hRun.out
  have r1:=Zc I 5 1 (.bool x1)
  cases x1
  case true=>
   have hR2:=Zh (hRun.trans (if_pos rfl))
   go_upto_region 14 with fail
   clear r1
   replace J:=Zh (q_.keep J ((Below.refl _ _).drew))
   replace I:=Zh (I.keep ((Below.refl _ _).drew))
   have HMs:=Zh I.out
   replace HMs:=Zh (HMs.less 4)
   simp only[List.eraseIdx]at HMs
   refine wp_region_plan (fun w'=>Mem _ w' _) 4 [(0,true),(2,true),(1,false),(3,false)] (by kernel_rfl) (by kernel_rfl) HMs.out ?_
   generalize World.drew _=wd at*
   refine plTakeL (by rfl) (yw 2 uE.out) ?_
   try go_frame
   refine plTakeL (by rfl) (yw 7 uE.out) ?_
   try go_frame
   refine plStepL rfl rfl fun K hK=> ?_
   go_wp2_with(first|(go_at_call 91;refine(cE _ _ _).mono ?_;rintro r w3 ⟨rfl,p_⟩;dsimp only)|fail)
   refine hK _ _ (HMs.keep p_) fun hS_=> ?_
   clear hK K hS_
   try go_frame
   replace I:=Zm I p_
   replace J:=q_.z J p_
   clear p_ HMs
   refine plStepL rfl rfl fun K hK=> ?_
   go_wp2_with(first|(refine q_.s 4 I J ?_;clear I J;intro w4 I J;simp only[List.set]at I)|fail)
   refine hK _ _ ((I.less 4)) fun hS_=> ?_
   clear hK K hS_
   try go_frame
   refine plDone ?_
   simp only[List.drop]
   go_wp2_with(first|go_skip|(refine q_.s 3 I J ?_;clear I J;intro w4 I J;simp only[List.set]at I)|fail)
   try simp only[Exit.inBlock,Exit.then]
   refine bodyPost_ret (results_4 rfl (I.at_ 4 rfl) (I.at_ 3 rfl) rfl rfl _ uE.out rfl (by exact zend) _ uE.out rfl (by exact zend)) rfl ?_
   exact hPr.out _ _ _ _ _ _ hR2.out (gO _ J).clos (.inl (gY _ J)) I.below
  replace hRun:=Zh (hRun.trans (if_neg (by decide)))
  go_upto_region 15 with fail
  clear r1 cE
  obtain⟨Z,hZ⟩:∃Z,finN AE R=Z:=⟨_,rfl⟩
  have cF1:=Zh (fun W hx hm=>cF.out AE vo R vR W hx hm)
  rw[hZ]at cF1
  replace hRun:Hid (RN=(Z,Y,R.code)):=by rw[←hZ];exact hRun.out
  clear hZ cF
  have mk14:Unit:=()
  go_upto_region 16 with(first|go_skip|(refine lG 2 I uE.out ?_)|(refine lG 0 I uM.out ?_)|(go_at_call 93;clear mk14;refine(cF1 _ (gO _ J).is (gR _ J).is).mono ?_;rintro r w3 ⟨vz,rfl,hE,p_⟩;replace I:=Zm I p_;replace J:=q_.z J p_;clear p_;refine sA q_ J (Stb.ed vz _) hE ?_;clear q_ J hE;intro F21 q_ J hU gZ;replace gO:=Zu gO hU;replace gY:=Zu gY hU;replace gR:=Zu gR hU;clear hU;dsimp only)|(refine q_.s 9 I J ?_;clear I J;intro w4 I J;simp only[List.set]at I)|fail)
  replace J:=Zh (q_.keep J ((Below.refl _ _).drew))
  replace I:=Zh (I.keep ((Below.refl _ _).drew))
  have HMs:=Zh I.out
  replace HMs:=Zh (HMs.less 4)
  replace HMs:=Zh (HMs.less 3)
  simp only[List.eraseIdx]at HMs
  refine wp_region_plan (fun w'=>Mem _ w' _) 6 [(0,true),(1,true),(2,true),(3,true),(4,false),(5,false)] (by kernel_rfl) (by kernel_rfl) HMs.out ?_
  generalize World.drew _=wd at*
  refine plTakeL (by rfl) (yw 7 uE.out) ?_
  try go_frame
  refine plTakeL (by rfl) (yw 6 uE.out) ?_
  try go_frame
  repeat(first|(refine plPure rfl rfl (by intro w_ hSw;go_simp;first|done|exact rfl) ?_;try go_frame))
  refine plTakeL (by rfl) (yc 0 3 (.int .i64 R.code) Tryz.underlying3) ?_
  try go_frame
  repeat(first|(refine plPure rfl rfl (by intro w_ hSw;go_simp;first|done|exact rfl) ?_;try go_frame))
  clear HMs
  refine plStepL rfl rfl fun K hK=> ?_
  go_wp2_with(first|(refine q_.s 4 I J ?_;clear I J;intro w4 I J;simp only[List.set]at I)|fail)
  refine hK _ _ (((I.less 4).less 3)) fun hS_=> ?_
  clear hK K hS_
  try go_frame
  refine plStepL rfl rfl fun K hK=> ?_
  go_wp2_with(first|(refine q_.s 3 I J ?_;clear I J;intro w4 I J;simp only[List.set]at I)|fail)
  refine hK _ _ (((I.less 4).less 3)) fun hS_=> ?_
  clear hK K hS_
  try go_frame
  refine plDone ?_
  simp only[List.drop]
  go_wp2_with fail
  try simp only[Exit.inBlock,Exit.then]
  refine bodyPost_ret (results_4 rfl (I.at_ 4 rfl) (I.at_ 3 rfl) rfl rfl _ uE.out rfl (by exact zend) _ uE.out rfl (by exact zend)) rfl ?_
  exact hPr.out _ _ _ _ _ _ hRun.out (gZ _ J) (.inl (gY _ J)) I.below
end Tx
end Go.Proofs.YtfamifgchgolpaaGreat
