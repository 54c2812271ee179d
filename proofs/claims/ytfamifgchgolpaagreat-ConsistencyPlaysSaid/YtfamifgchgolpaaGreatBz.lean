/- Chapter 26: copies of messages and ends: the reference's. -/
import Derived.Test.YtfamifgchgolpaaGreatBq
set_option linter.unusedVariables false
set_option linter.unusedSimpArgs false
set_option maxRecDepth 100000
set_option maxHeartbeats 8000000
namespace Go.Proofs.YtfamifgchgolpaaGreat
open Go Go.RowKit Go.Sort Go.Shelf Go.Maps
namespace Tx
open Sw Mm Pl
theorem app_below {w w6:World} {t:TypeId}(hg:(w.alloc (.cells #[] t)).grownBy w6 (Value.slice (some ⟨w.heap.size,0,none⟩) 0 0).ownBlock):Below w.heap.size w w6:=
 Below.grownM (ball w _) hg (by simp) (fun q hq=>by simp[Value.ownBlock]at hq;omega)
def MsgPost(m:Msg)(w:World)(r:Ending)(w':World):Prop:=∃v',r= .returned (.agg (msgA m v'))∧MsgOwn w' v' m∧Below w.heap.size w w'
theorem rmessage_any(m:Msg)(v:MsgV)(w:World)(h:MsgIs w v m)(hs:v.sn≤100000∧v.on≤100000):Calls Tryz.prog 155 #[.agg #[.int .i64 m.kind,.bool m.reply,.int .i64 m.number,.int .i64 m.code,.int .i64 m.count,.slice v.sA v.sn v.sc,.slice v.oA v.on v.oc]] w (MsgPost m w):=by
 have HM:=Zh (Mem.start w)
 have hS:=h.spots
 have hO:=h.old
 have lS:=h.spots.len
 have lO:=h.old.len
 have uM:=Tryz.underlying30
 generalize hP:MsgPost m w=P
 replace hS:=Zh hS
 replace hO:=Zh hO
 replace lS:=Zh lS
 replace lO:=Zh lO
 replace uM:=Zh uM
 replace hP:=Zh hP
 clear h
 go_enter Tryz.func155,Tryz.ntmps155
 go_upto_region 1 with(first|(refine bA HM 30 ?_;clear HM;intro g w1 HM hG;clear hG)|(refine wpList_allocA HM rfl 30 rfl (by first|exact msgInfo|exact edInfo|exact tabInfo|exact info_tcl|exact info_spt) ?_;clear HM;intro g2 w1 HM hG;clear hG))
 have ke:=HM.out.cell 1 rfl
 have keA:=fun o=>(HM.out.keep (ball _ o)).cell 1 rfl
 go_upto_region 2 with(first
  |(at_builtin;refine wpList_append_sls eltS _ rfl _ _ rfl w.heap.size (.slice (some ⟨_,0,none⟩) 0 0) [] rfl (own_empty sptE _ 97 HM.out.below.size) _ v.sn v.sc m.spots rfl (hS.out.keep (ballN HM.out.below _)) (by simp;omega) (ballN HM.out.below _).size ?_;intro v1 w6 HO1 HG1 _;rw[List.nil_append,lS.out]at HO1;obtain⟨A2,c2,rfl⟩:=own_slice HO1;have hb_:=app_below HG1;clear HG1;have HM2:=Zm HM hb_;clear HM hb_ ke;have HM:=HM2;clear HM2;have ke:=HM.out.cell 1 rfl;have hBq:=Zh (HM.out.at_ 1 rfl))
  |(refine wpList_storeM 1 HM rfl _ _ _ rfl _ _ rfl rfl _ (by conv=> {lhs;whnf}) (by exact zslS) (by rfl) (Nat.le_of_ble_eq_true (by rfl)) _ (by simp only[setL,List.set,Value.cells];exact rfl) ?_;clear HM ke;intro w4 HM hG4;simp only[List.set]at HM;have ke:=HM.out.cell 1 rfl)
  |fail)
 replace HO1:=Zh (HO1.kept hG4.out (.inr (row_ne_blk HO1 hBq.out (by decide))))
 clear hG4 hBq keA
 have keA:=fun o=>(HM.out.keep (ball _ o)).cell 1 rfl
 go_upto_region 3 with(first
  |(at_builtin;refine wpList_append_sls eltS _ rfl _ _ rfl w.heap.size (.slice (some ⟨_,0,none⟩) 0 0) [] rfl (own_empty sptE _ 97 HM.out.below.size) _ v.on v.oc m.old rfl (hO.out.keep (ballN HM.out.below _)) (by simp;omega) (ballN HM.out.below _).size ?_;intro v1 w6 HO2 HG1 _;rw[List.nil_append,lO.out]at HO2;obtain⟨A3,c3,rfl⟩:=own_slice HO2;have hb_:=app_below HG1;clear HG1;replace HO1:=Zh (owns_keep HO1.out hb_);have HM2:=Zm HM hb_;clear HM hb_ ke;have HM:=HM2;clear HM2;have ke:=HM.out.cell 1 rfl;have hBq:=Zh (HM.out.at_ 1 rfl))
  |(refine wpList_storeM 1 HM rfl _ _ _ rfl _ _ rfl rfl _ (by conv=> {lhs;whnf}) (by exact zslS) (by rfl) (Nat.le_of_ble_eq_true (by rfl)) _ (by simp only[setL,List.set,Value.cells];exact rfl) ?_;clear HM ke;intro w4 HM hG4;simp only[List.set]at HM;have ke:=HM.out.cell 1 rfl)
  |fail)
 have hMO:Hid (MsgOwn w4 ⟨A2,v.sn,c2,A3,v.on,c3⟩ m):=⟨⟨_,HO1.out.kept hG4.out (.inr (row_ne_blk HO1.out hBq.out (by decide)))⟩,⟨_,HO2.kept hG4.out (.inr (row_ne_blk HO2 hBq.out (by decide)))⟩,lS.out,lO.out⟩
 clear HO1 HO2 hG4 hBq
 have hB0:=Zh (HM.out.at_ 0 rfl)
 go_wp2_with(first|(refine lM 1 HM uM.out ?_)|(refine sF 0 HM ?_;clear HM ke;intro w4 HM hG4;simp only[List.set]at HM;have ke:=HM.out.cell 1 rfl)|fail)
 try simp only[Exit.inBlock,Exit.then]
 refine bodyPost_ret (results_c rfl (HM.out.at_ 0 rfl) rfl _ uM.out rfl (by exact zmsg)) rfl ?_
 rw[←hP.out]
 exact⟨_,rfl,hMO.out.put hB0.out (by decide) hG4.out,HM.out.below⟩
theorem rcopied_any(e:Ed)(v:EdV)(w:World)(h:EdIs w v e)(hs:Small v):Calls Tryz.prog 154 #[.agg #[.int .i64 e.node,.int .i64 e.peer,.int .i64 e.number,.slice v.cA v.cn v.cc,.bool e.opn,.int .i64 e.since,.int .i64 e.asked.kind,.bool e.asked.reply,.int .i64 e.asked.number,.int .i64 e.asked.code,.int .i64 e.asked.count,.slice v.a.sA v.a.sn v.a.sc,.slice v.a.oA v.a.on v.a.oc,.bool e.known,.int .i64 e.last.kind,.bool e.last.reply,.int .i64 e.last.number,.int .i64 e.last.code,.int .i64 e.last.count,.slice v.l.sA v.l.sn v.l.sc,.slice v.l.oA v.l.on v.l.oc,.int .i64 e.reply.kind,.bool e.reply.reply,.int .i64 e.reply.number,.int .i64 e.reply.code,.int .i64 e.reply.count,.slice v.r.sA v.r.sn v.r.sc,.slice v.r.oA v.r.on v.r.oc]] w (ClonePostE e w):=by
 have HM:=Zh (Mem.start w)
 have hC:=h.cells
 have lC:=h.cells.len
 have cA:=fun W (hb:Below w.heap.size w W)=>rmessage_any e.asked v.a W (h.asked.keep hb) hs.a
 have cL:=fun W (hb:Below w.heap.size w W)=>rmessage_any e.last v.l W (h.last.keep hb) hs.l
 have cR:=fun W (hb:Below w.heap.size w W)=>rmessage_any e.reply v.r W (h.reply.keep hb) hs.r
 have hcn:=hs.c
 have uE:=Tryz.underlying32
 have uM:=Tryz.underlying30
 generalize hP:ClonePostE e w=P
 replace hC:=Zh hC
 replace lC:=Zh lC
 replace cA:=Zh cA
 replace cL:=Zh cL
 replace cR:=Zh cR
 replace uE:=Zh uE
 replace uM:=Zh uM
 replace hP:=Zh hP
 clear h hs
 go_enter Tryz.func154,Tryz.ntmps154
 go_upto_region 1 with(first|(refine bA HM 32 ?_;clear HM;intro g w1 HM hG;clear hG)|(refine wpList_allocA HM rfl 32 rfl (by first|exact msgInfo|exact edInfo|exact tabInfo|exact info_tcl|exact info_spt) ?_;clear HM;intro g2 w1 HM hG;clear hG))
 have ke:=HM.out.cell 1 rfl
 have keA:=fun o=>(HM.out.keep (ball _ o)).cell 1 rfl
 go_upto_region 2 with(first
  |(at_builtin;refine wpList_append_sls eltT _ rfl _ _ rfl w.heap.size (.slice (some ⟨_,0,none⟩) 0 0) [] rfl (own_empty tclE _ 85 HM.out.below.size) _ v.cn v.cc e.cells rfl (hC.out.keep (ballN HM.out.below _)) (by simp;omega) (ballN HM.out.below _).size ?_;intro v1 w6 HO1 HG1 _;rw[List.nil_append,lC.out]at HO1;obtain⟨A2,c2,rfl⟩:=own_slice HO1;have hb_:=app_below HG1;clear HG1;have HM2:=Zm HM hb_;clear HM hb_ ke;have HM:=HM2;clear HM2;have ke:=HM.out.cell 1 rfl;have hBq:=Zh (HM.out.at_ 1 rfl))
  |(refine wpList_storeM 1 HM rfl _ _ _ rfl _ _ rfl rfl _ (by conv=> {lhs;whnf}) (by exact zslT) (by rfl) (Nat.le_of_ble_eq_true (by rfl)) _ (by simp only[setL,List.set,Value.cells];exact rfl) ?_;clear HM ke;intro w4 HM hG4;simp only[List.set]at HM;have ke:=HM.out.cell 1 rfl)
  |fail)
 replace HO1:=Zh (HO1.kept hG4.out (.inr (row_ne_blk HO1 hBq.out (by decide))))
 clear hG4 hBq hC keA
 have hS1:Hid (Mem w w4.drew [(g2,#[.int .i64 0,.int .i64 0,.int .i64 0,.slice none 0 0,.bool false,.int .i64 0,.int .i64 0,.bool false,.int .i64 0,.int .i64 0,.int .i64 0,.slice none 0 0,.slice none 0 0,.bool false,.int .i64 0,.bool false,.int .i64 0,.int .i64 0,.int .i64 0,.slice none 0 0,.slice none 0 0,.int .i64 0,.bool false,.int .i64 0,.int .i64 0,.int .i64 0,.slice none 0 0,.slice none 0 0],32),(g,#[.int .i64 e.node,.int .i64 e.peer,.int .i64 e.number,.slice A2 v.cn c2,.bool e.opn,.int .i64 e.since,.int .i64 e.asked.kind,.bool e.asked.reply,.int .i64 e.asked.number,.int .i64 e.asked.code,.int .i64 e.asked.count,.slice v.a.sA v.a.sn v.a.sc,.slice v.a.oA v.a.on v.a.oc,.bool e.known,.int .i64 e.last.kind,.bool e.last.reply,.int .i64 e.last.number,.int .i64 e.last.code,.int .i64 e.last.count,.slice v.l.sA v.l.sn v.l.sc,.slice v.l.oA v.l.on v.l.oc,.int .i64 e.reply.kind,.bool e.reply.reply,.int .i64 e.reply.number,.int .i64 e.reply.code,.int .i64 e.reply.count,.slice v.r.sA v.r.sn v.r.sc,.slice v.r.oA v.r.on v.r.oc],32)]):=HM.out.drew
 refine wp_region_plan (fun w'=>Mem w w' [(g2,#[.int .i64 0,.int .i64 0,.int .i64 0,.slice none 0 0,.bool false,.int .i64 0,.int .i64 0,.bool false,.int .i64 0,.int .i64 0,.int .i64 0,.slice none 0 0,.slice none 0 0,.bool false,.int .i64 0,.bool false,.int .i64 0,.int .i64 0,.int .i64 0,.slice none 0 0,.slice none 0 0,.int .i64 0,.bool false,.int .i64 0,.int .i64 0,.int .i64 0,.slice none 0 0,.slice none 0 0],32),(g,#[.int .i64 e.node,.int .i64 e.peer,.int .i64 e.number,.slice A2 v.cn c2,.bool e.opn,.int .i64 e.since,.int .i64 e.asked.kind,.bool e.asked.reply,.int .i64 e.asked.number,.int .i64 e.asked.code,.int .i64 e.asked.count,.slice v.a.sA v.a.sn v.a.sc,.slice v.a.oA v.a.on v.a.oc,.bool e.known,.int .i64 e.last.kind,.bool e.last.reply,.int .i64 e.last.number,.int .i64 e.last.code,.int .i64 e.last.count,.slice v.l.sA v.l.sn v.l.sc,.slice v.l.oA v.l.on v.l.oc,.int .i64 e.reply.kind,.bool e.reply.reply,.int .i64 e.reply.number,.int .i64 e.reply.code,.int .i64 e.reply.count,.slice v.r.sA v.r.sn v.r.sc,.slice v.r.oA v.r.on v.r.oc],32)]) 10 [(0,true),(1,true),(3,true),(4,true),(6,true),(7,true),(2,false),(9,true),(5,false),(8,false)] (by kernel_rfl) (by kernel_rfl) hS1.out ?_
 refine plPure rfl rfl (by intro w_ hSw;go_simp;first|done|exact rfl) ?_
 try go_frame
 refine plTakeL (by rfl) (yields_mem (by rfl) _ _ (by rfl) 1 (fun w_ hSw=>hSw) (by rfl) _ (by rfl) #[.int .i64 e.asked.kind,.bool e.asked.reply,.int .i64 e.asked.number,.int .i64 e.asked.code,.int .i64 e.asked.count,.slice v.a.sA v.a.sn v.a.sc,.slice v.a.oA v.a.on v.a.oc] (by rfl) _ uM.out (by rfl) (by exact zmsg)) ?_
 try go_frame
 refine plPure rfl rfl (by intro w_ hSw;go_simp;first|done|exact rfl) ?_
 try go_frame
 refine plTakeL (by rfl) (yields_mem (by rfl) _ _ (by rfl) 1 (fun w_ hSw=>hSw) (by rfl) _ (by rfl) #[.int .i64 e.last.kind,.bool e.last.reply,.int .i64 e.last.number,.int .i64 e.last.code,.int .i64 e.last.count,.slice v.l.sA v.l.sn v.l.sc,.slice v.l.oA v.l.on v.l.oc] (by rfl) _ uM.out (by rfl) (by exact zmsg)) ?_
 try go_frame
 refine plPure rfl rfl (by intro w_ hSw;go_simp;first|done|exact rfl) ?_
 try go_frame
 refine plTakeL (by rfl) (yields_mem (by rfl) _ _ (by rfl) 1 (fun w_ hSw=>hSw) (by rfl) _ (by rfl) #[.int .i64 e.reply.kind,.bool e.reply.reply,.int .i64 e.reply.number,.int .i64 e.reply.code,.int .i64 e.reply.count,.slice v.r.sA v.r.sn v.r.sc,.slice v.r.oA v.r.on v.r.oc] (by rfl) _ uM.out (by rfl) (by exact zmsg)) ?_
 try go_frame
 refine plStepL rfl rfl fun K hK=> ?_
 go_wp2_with(first|(go_at_call 155;refine(cA.out _ hS1.out.below).mono ?_;rintro r w5 ⟨va,rfl,hA,hb_⟩;dsimp only[msgA])|fail)
 refine hK.out _ _ (hS1.out.keep hb_) fun hS_=> ?_
 clear hK K hS_
 try go_frame
 replace hA:=Zh hA
 replace HO1:=Zh (owns_keep HO1.out ((bthen (Below.refl _ _).drew hb_)))
 replace hS1:=Zh (hS1.out.keep hb_)
 clear hb_ HM ke
 refine plPure rfl rfl (by intro w_ hSw;go_simp;first|done|exact rfl) ?_
 try go_frame
 refine plStepL rfl rfl fun K hK=> ?_
 go_wp2_with(first|(go_at_call 155;refine(cL.out _ hS1.out.below).mono ?_;rintro r w6 ⟨vl,rfl,hL,hb_⟩;dsimp only[msgA])|fail)
 refine hK.out _ _ (hS1.out.keep hb_) fun hS_=> ?_
 clear hK K hS_
 try go_frame
 replace hL:=Zh hL
 replace HO1:=Zh (owns_keep HO1.out hb_)
 replace hS1:=Zh (hS1.out.keep hb_)
 replace hA:=Zh (hA.out.keep hb_)
 clear hb_
 refine plStepL rfl rfl fun K hK=> ?_
 go_wp2_with(first|(go_at_call 155;refine(cR.out _ hS1.out.below).mono ?_;rintro r w7 ⟨vr,rfl,hR,hb_⟩;dsimp only[msgA])|fail)
 refine hK.out _ _ (hS1.out.keep hb_) fun hS_=> ?_
 clear hK K hS_
 try go_frame
 replace hR:=Zh hR
 replace HO1:=Zh (owns_keep HO1.out hb_)
 replace hS1:=Zh (hS1.out.keep hb_)
 replace hA:=Zh (hA.out.keep hb_)
 replace hL:=Zh (hL.out.keep hb_)
 clear hb_
 refine plDone ?_
 simp only[List.drop]
 have hE:Hid (EdOwn w7 ⟨A2,v.cn,c2,va,vl,vr⟩ e):=⟨⟨_,HO1.out⟩,lC.out,hA.out,hL.out,hR.out⟩
 have HM:=hS1
 clear hS1 HO1 hA hL hR
 have ke:=HM.out.cell 1 rfl
 go_wp2_with(first
  |(refine wpList_storeM 1 HM rfl _ _ _ rfl _ _ rfl rfl _ (by conv=> {lhs;whnf}) (by exact zmsg) (by rfl) (Nat.le_of_ble_eq_true (by rfl)) _ (by simp only[setL,List.set,Value.cells];exact rfl) ?_;have hBq:=HM.out.at_ 1 rfl;clear HM ke;intro w4 HM hG4;simp only[List.set]at HM;replace hE:=Zh (hE.out.put hBq (by decide) (by decide) hG4.out);clear hBq;have ke:=HM.out.cell 1 rfl)
  |(refine lM 1 HM uE.out ?_)
  |(refine sF 0 HM ?_;have hBq:=HM.out.at_ 0 rfl;clear HM ke;intro w4 HM hG4;simp only[List.set]at HM;replace hE:=Zh (hE.out.put hBq (by decide) (by decide) hG4.out);clear hBq;have ke:=HM.out.cell 1 rfl)
  |fail)
 try simp only[Exit.inBlock,Exit.then]
 refine bodyPost_ret (results_c rfl (HM.out.at_ 0 rfl) rfl _ uE.out rfl (by exact zend)) rfl ?_
 rw[←hP.out]
 exact⟨_,rfl,hE.out,HM.out.below⟩
theorem rzero_any(m:Msg)(v:MsgV)(w:World)(h:MsgIs w v m):Calls Tryz.prog 210 #[.agg #[.int .i64 m.kind,.bool m.reply,.int .i64 m.number,.int .i64 m.code,.int .i64 m.count,.slice v.sA v.sn v.sc,.slice v.oA v.on v.oc]] w fun r w'=>r= .returned (.bool (zeroM m))∧Below w.heap.size w w':=by
 have HM:=Zh (Mem.start w)
 have cS:=fun W (hb:Below w.heap.size w W)=>sameM_any m msg0 v msgV0 W (h.keep hb) (MsgIs.zero W)
 change∀W,Below w.heap.size w W→Calls _ _ #[_,.agg #[.int .i64 0,.bool false,.int .i64 0,.int .i64 0,.int .i64 0,.slice none 0 0,.slice none 0 0]] _ _ at cS
 have uM:=Tryz.underlying30
 have hZ:decide (m=msg0)=zeroM m:=rfl
 rw[hZ]at cS
 generalize zeroM m=Z at*
 replace cS:=Zh cS
 replace uM:=Zh uM
 go_enter Tryz.func210,Tryz.ntmps210
 go_upto_region 1 with(refine bA HM 30 ?_;clear HM;intro g w1 HM hG;clear hG)
 have ke:=HM.out.cell 0 rfl
 go_wp2_with(first
  |(refine lM 0 HM uM.out ?_)
  |(go_at_call 14;refine(cS.out _ HM.out.below).mono ?_;rintro r w3 ⟨rfl,hb_⟩;have HM2:=Zm HM hb_;clear HM hb_ ke cS;have HM:=HM2;clear HM2;have ke:=HM.out.cell 0 rfl)
  |fail)
 go_ret
 exact⟨rfl,HM.out.below⟩
def fewE(e:Ed):Bool:=decide ((e.cells.length:Int)≤40)&&(fewM e.asked&&(fewM e.last&&fewM e.reply))
theorem fewE_any(e:Ed)(v:EdV)(w:World)(h:EdIs w v e):Calls Tryz.prog 85 #[.agg #[.int .i64 e.node,.int .i64 e.peer,.int .i64 e.number,.slice v.cA v.cn v.cc,.bool e.opn,.int .i64 e.since,.int .i64 e.asked.kind,.bool e.asked.reply,.int .i64 e.asked.number,.int .i64 e.asked.code,.int .i64 e.asked.count,.slice v.a.sA v.a.sn v.a.sc,.slice v.a.oA v.a.on v.a.oc,.bool e.known,.int .i64 e.last.kind,.bool e.last.reply,.int .i64 e.last.number,.int .i64 e.last.code,.int .i64 e.last.count,.slice v.l.sA v.l.sn v.l.sc,.slice v.l.oA v.l.on v.l.oc,.int .i64 e.reply.kind,.bool e.reply.reply,.int .i64 e.reply.number,.int .i64 e.reply.code,.int .i64 e.reply.count,.slice v.r.sA v.r.sn v.r.sc,.slice v.r.oA v.r.on v.r.oc]] w fun r w'=>r= .returned (.bool (fewE e))∧Below w.heap.size w w':=by
 have HM:=Zh (Mem.start w)
 have hR:fewE e=(decide ((e.cells.length:Int)≤40)&&(fewM e.asked&&(fewM e.last&&fewM e.reply))):=rfl
 rw[h.cells.len]at hR
 have cA:=fun W (hb:Below w.heap.size w W)=>fewM_any e.asked v.a W (h.asked.keep hb)
 have cL:=fun W (hb:Below w.heap.size w W)=>fewM_any e.last v.l W (h.last.keep hb)
 have cR:=fun W (hb:Below w.heap.size w W)=>fewM_any e.reply v.r W (h.reply.keep hb)
 generalize hP:(fun(r:Ending) w'=>r=Ending.returned (.bool (fewE e))∧Below w.heap.size w w')=P
 have hPo:∀B w',fewE e=B→Below w.heap.size w w'→P (.returned (.bool B)) w':=fun B w' e1 hb=>by rw[←hP];exact⟨by rw[e1],hb⟩
 clear hP
 generalize fewE e=R at*
 generalize fewM e.asked=D2 at*
 generalize fewM e.last=D3 at*
 generalize fewM e.reply=D4 at*
 have uM:=Tryz.underlying30
 replace cA:=Zh cA
 replace cL:=Zh cL
 replace cR:=Zh cR
 replace h:=Zh h
 replace hR:=Zh hR
 replace hPo:=Zh hPo
 replace uM:=Zh uM
 go_enter Tryz.func85,Tryz.ntmps85
 go_upto_region 1 with(refine bA HM _ ?_;clear HM;intro g w1 HM hG;clear hG)
 have ka:=HM.out.cell 0 rfl
 go_wp2_with(first
  |(refine lP 0 HM 6 (#[.int .i64 e.asked.kind,.bool e.asked.reply,.int .i64 e.asked.number,.int .i64 e.asked.code,.int .i64 e.asked.count,.slice v.a.sA v.a.sn v.a.sc,.slice v.a.oA v.a.on v.a.oc]) uM.out ?_)
  |(refine lP 0 HM 14 (#[.int .i64 e.last.kind,.bool e.last.reply,.int .i64 e.last.number,.int .i64 e.last.code,.int .i64 e.last.count,.slice v.l.sA v.l.sn v.l.sc,.slice v.l.oA v.l.on v.l.oc]) uM.out ?_)
  |(refine lP 0 HM 21 (#[.int .i64 e.reply.kind,.bool e.reply.reply,.int .i64 e.reply.number,.int .i64 e.reply.code,.int .i64 e.reply.count,.slice v.r.sA v.r.sn v.r.sc,.slice v.r.oA v.r.on v.r.oc]) uM.out ?_)
  |(go_at_call 143;refine(cA.out _ HM.out.below).mono ?_;rintro e w3 ⟨rfl,hb_⟩;have HM2:=Zm HM hb_;clear HM hb_ ka cA;have HM:=HM2;clear HM2;have ka:=HM.out.cell 0 rfl)
  |(go_at_call 143;refine(cL.out _ HM.out.below).mono ?_;rintro e w3 ⟨rfl,hb_⟩;have HM2:=Zm HM hb_;clear HM hb_ ka cL;have HM:=HM2;clear HM2;have ka:=HM.out.cell 0 rfl)
  |(go_at_call 143;refine(cR.out _ HM.out.below).mono ?_;rintro e w3 ⟨rfl,hb_⟩;have HM2:=Zm HM hb_;clear HM hb_ ka cR;have HM:=HM2;clear HM2;have ka:=HM.out.cell 0 rfl)
  |fail)
 all_goals
  refine hPo.out _ _ ?_ HM.out.below
  rw[hR.out]
  first|first|(simp[*];done)|(simp[*];omega)|(simp[*,intB];done)|(simp[*,intB];omega)|(simp[*,bne,intB];done)|(trace_state;fail)
end Tx
end Go.Proofs.YtfamifgchgolpaaGreat
