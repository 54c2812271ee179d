/- Chapter 26: copies of messages and ends: the reference's. -/
import Derived.Test.YtfamifgchgolpaaGreatBq
set_option linter.unusedVariables false
set_option linter.unusedSimpArgs false
set_option maxRecDepth 100000
set_option maxHeartbeats 8000000
namespace Go.Proofs.YtfamifgchgolpaaGreat
open Go Go.RowKit Go.Sort Go.Shelf Go.Maps
namespace Tx
open Sw Mm Pl
theorem app_below {w w6:World} {t:TypeId}(hg:(w.alloc (.cells #[] t)).grownBy w6 (Value.slice (some ⟨w.heap.size,0,none⟩) 0 0).ownBlock):Below w.heap.size w w6:=
 Below.grownM (ball w _) hg (by simp) (fun q hq=>by simp[Value.ownBlock]at hq;omega)
def MsgPost(m:Msg)(w:World)(r:Ending)(w':World):Prop:=∃v',r= .returned (.agg (msgA m v'))∧MsgOwn w' v' m∧Below w.heap.size w w'
theorem rmessage_any(m:Msg)(v:MsgV)(w:World)(h:MsgIs w v m)(hs:v.sn≤100000∧v.on≤100000):Calls Tryz.prog 155 #[.agg (Km m v)] w (MsgPost m w):=by
 have I:=Zh (Mem.start w)
 have hS:=h.spots
 have hO:=h.old
 have lS:=h.spots.len
 have lO:=h.old.len
 have uM:=Tryz.underlying30
 generalize hP:MsgPost m w=P
 refine zh6 ?_ hS hO lS lO uM hP;clear hS hO lS lO uM hP;intro hS hO lS lO uM hP
 clear h
 go_enter Tryz.func155,Tryz.ntmps155
 go_upto_region 1 with(first|(refine bA I 30 ?_;clear I;intro g w1 I hG;clear hG)|(refine wpList_allocA I rfl 30 rfl (by first|exact msgInfo|exact edInfo|exact tabInfo|exact info_tcl|exact info_spt) ?_;clear I;intro g2 w1 I hG;clear hG))
 have ke:=I.cell 1 rfl
 have keA:=fun o=>(I.keep (ball _ o)).cell 1 rfl
 go_upto_region 2 with(first
  |(at_builtin;refine wpList_append_sls eltS _ rfl _ _ rfl w.heap.size (.slice (some ⟨_,0,none⟩) 0 0) [] rfl (own_empty sptE _ 97 I.below.size) _ v.sn v.sc m.spots rfl (hS.keep (ballN I.below _)) (by simp;omega) (ballN I.below _).size ?_;intro v1 w6 HO1 HG1 _;rw[List.nil_append,lS.out]at HO1;obtain⟨A2,c2,rfl⟩:=own_slice HO1;have p_:=app_below HG1;clear HG1;have HM2:=Zm I p_;clear I p_ ke;have I:=HM2;clear HM2;have ke:=I.cell 1 rfl;have hBq:=Zh (I.at_ 1 rfl))
  |(refine sN 1 I ?_;clear I ke;intro w4 I hG4;simp only[List.set]at I;have ke:=I.cell 1 rfl)
  |fail)
 replace HO1:=Zh (HO1.kept hG4.out (.inr (row_ne_blk HO1 hBq.out (by decide))))
 clear hG4 hBq keA
 have keA:=fun o=>(I.keep (ball _ o)).cell 1 rfl
 go_upto_region 3 with(first
  |(at_builtin;refine wpList_append_sls eltS _ rfl _ _ rfl w.heap.size (.slice (some ⟨_,0,none⟩) 0 0) [] rfl (own_empty sptE _ 97 I.below.size) _ v.on v.oc m.old rfl (hO.keep (ballN I.below _)) (by simp;omega) (ballN I.below _).size ?_;intro v1 w6 HO2 HG1 _;rw[List.nil_append,lO.out]at HO2;obtain⟨A3,c3,rfl⟩:=own_slice HO2;have p_:=app_below HG1;clear HG1;replace HO1:=Zh (owns_keep HO1.out p_);have HM2:=Zm I p_;clear I p_ ke;have I:=HM2;clear HM2;have ke:=I.cell 1 rfl;have hBq:=Zh (I.at_ 1 rfl))
  |(refine sN 1 I ?_;clear I ke;intro w4 I hG4;simp only[List.set]at I;have ke:=I.cell 1 rfl)
  |fail)
 have hMO:Hid (MsgOwn w4 ⟨A2,v.sn,c2,A3,v.on,c3⟩ m):=⟨⟨_,HO1.kept hG4.out (.inr (row_ne_blk HO1.out hBq.out (by decide)))⟩,⟨_,HO2.kept hG4.out (.inr (row_ne_blk HO2 hBq.out (by decide)))⟩,lS.out,lO.out⟩
 clear HO1 HO2 hG4 hBq
 have hB0:=Zh (I.at_ 0 rfl)
 go_wp2_with(first|(refine lM 1 I uM.out ?_)|(refine sF 0 I ?_;clear I ke;intro w4 I hG4;simp only[List.set]at I;have ke:=I.cell 1 rfl)|fail)
 try simp only[Exit.inBlock,Exit.then]
 refine rC I 0 uM.out ?_
 rw[←hP.out]
 exact⟨_,rfl,hMO.put hB0.out (by decide) hG4.out,I.below⟩
theorem rcopied_any(e:Ed)(v:EdV)(w:World)(h:EdIs w v e)(hs:Small v):Calls Tryz.prog 154 #[.agg (Ke e v)] w (ClonePostE e w):=by
 have I:=Zh (Mem.start w)
 have hC:=h.cells
 have lC:=h.cells.len
 have cA:=fun W (hb:Below w.heap.size w W)=>rmessage_any e.asked v.a W (h.asked.keep hb) hs.a
 have cL:=fun W (hb:Below w.heap.size w W)=>rmessage_any e.last v.l W (h.last.keep hb) hs.l
 have cR:=fun W (hb:Below w.heap.size w W)=>rmessage_any e.reply v.r W (h.reply.keep hb) hs.r
 have hcn:=hs.c
 have uE:=Tryz.underlying32
 have uM:=Tryz.underlying30
 generalize hP:ClonePostE e w=P
 refine zh8 ?_ hC lC cA cL cR uE uM hP;clear hC lC cA cL cR uE uM hP;intro hC lC cA cL cR uE uM hP
 clear h hs
 go_enter Tryz.func154,Tryz.ntmps154
 go_upto_region 1 with(first|(refine bA I 32 ?_;clear I;intro g w1 I hG;clear hG)|(refine wpList_allocA I rfl 32 rfl (by first|exact msgInfo|exact edInfo|exact tabInfo|exact info_tcl|exact info_spt) ?_;clear I;intro g2 w1 I hG;clear hG))
 have ke:=I.cell 1 rfl
 have keA:=fun o=>(I.keep (ball _ o)).cell 1 rfl
 go_upto_region 2 with(first
  |(at_builtin;refine wpList_append_sls eltT _ rfl _ _ rfl w.heap.size (.slice (some ⟨_,0,none⟩) 0 0) [] rfl (own_empty tclE _ 85 I.below.size) _ v.cn v.cc e.cells rfl (hC.keep (ballN I.below _)) (by simp;omega) (ballN I.below _).size ?_;intro v1 w6 HO1 HG1 _;rw[List.nil_append,lC.out]at HO1;obtain⟨A2,c2,rfl⟩:=own_slice HO1;have p_:=app_below HG1;clear HG1;have HM2:=Zm I p_;clear I p_ ke;have I:=HM2;clear HM2;have ke:=I.cell 1 rfl;have hBq:=Zh (I.at_ 1 rfl))
  |(refine sN 1 I ?_;clear I ke;intro w4 I hG4;simp only[List.set]at I;have ke:=I.cell 1 rfl)
  |fail)
 replace HO1:=Zh (HO1.kept hG4.out (.inr (row_ne_blk HO1 hBq.out (by decide))))
 clear hG4 hBq hC keA
 have hS1:Hid (Mem w w4.drew [(g2,(Kz 28),32),(g,#[.int .i64 e.node,.int .i64 e.peer,.int .i64 e.number,.slice A2 v.cn c2,.bool e.opn,.int .i64 e.since,.int .i64 e.asked.kind,.bool e.asked.reply,.int .i64 e.asked.number,.int .i64 e.asked.code,.int .i64 e.asked.count,.slice v.a.sA v.a.sn v.a.sc,.slice v.a.oA v.a.on v.a.oc,.bool e.known,.int .i64 e.last.kind,.bool e.last.reply,.int .i64 e.last.number,.int .i64 e.last.code,.int .i64 e.last.count,.slice v.l.sA v.l.sn v.l.sc,.slice v.l.oA v.l.on v.l.oc,.int .i64 e.reply.kind,.bool e.reply.reply,.int .i64 e.reply.number,.int .i64 e.reply.code,.int .i64 e.reply.count,.slice v.r.sA v.r.sn v.r.sc,.slice v.r.oA v.r.on v.r.oc],32)]):=I.drew
 refine wp_region_plan (fun w'=>Mem w w' [(g2,(Kz 28),32),(g,#[.int .i64 e.node,.int .i64 e.peer,.int .i64 e.number,.slice A2 v.cn c2,.bool e.opn,.int .i64 e.since,.int .i64 e.asked.kind,.bool e.asked.reply,.int .i64 e.asked.number,.int .i64 e.asked.code,.int .i64 e.asked.count,.slice v.a.sA v.a.sn v.a.sc,.slice v.a.oA v.a.on v.a.oc,.bool e.known,.int .i64 e.last.kind,.bool e.last.reply,.int .i64 e.last.number,.int .i64 e.last.code,.int .i64 e.last.count,.slice v.l.sA v.l.sn v.l.sc,.slice v.l.oA v.l.on v.l.oc,.int .i64 e.reply.kind,.bool e.reply.reply,.int .i64 e.reply.number,.int .i64 e.reply.code,.int .i64 e.reply.count,.slice v.r.sA v.r.sn v.r.sc,.slice v.r.oA v.r.on v.r.oc],32)]) 10 [(0,true),(1,true),(3,true),(4,true),(6,true),(7,true),(2,false),(9,true),(5,false),(8,false)] (by kernel_rfl) (by kernel_rfl) hS1.out ?_
 refine plPure rfl rfl (by intro w_ hSw;go_simp;first|done|exact rfl) ?_
 try go_frame
 refine plTakeL (by rfl) (yields_mem (by rfl) _ _ (by rfl) 1 (fun w_ hSw=>hSw) (by rfl) _ (by rfl) (Km e.asked v.a) (by rfl) _ uM.out (by rfl) (by exact zmsg)) ?_
 try go_frame
 refine plPure rfl rfl (by intro w_ hSw;go_simp;first|done|exact rfl) ?_
 try go_frame
 refine plTakeL (by rfl) (yields_mem (by rfl) _ _ (by rfl) 1 (fun w_ hSw=>hSw) (by rfl) _ (by rfl) (Km e.last v.l) (by rfl) _ uM.out (by rfl) (by exact zmsg)) ?_
 try go_frame
 refine plPure rfl rfl (by intro w_ hSw;go_simp;first|done|exact rfl) ?_
 try go_frame
 refine plTakeL (by rfl) (yields_mem (by rfl) _ _ (by rfl) 1 (fun w_ hSw=>hSw) (by rfl) _ (by rfl) (Km e.reply v.r) (by rfl) _ uM.out (by rfl) (by exact zmsg)) ?_
 try go_frame
 refine plStepL rfl rfl fun K hK=> ?_
 go_wp2_with(first|(go_at_call 155;refine(cA _ hS1.below).mono ?_;rintro r w5 ⟨va,rfl,hA,p_⟩;dsimp only[msgA])|fail)
 refine hK _ _ (hS1.keep p_) fun hS_=> ?_
 clear hK K hS_
 try go_frame
 replace hA:=Zh hA
 replace HO1:=Zh (owns_keep HO1.out ((bthen (Below.refl _ _).drew p_)))
 replace hS1:=Zh (hS1.keep p_)
 clear p_ I ke
 refine plPure rfl rfl (by intro w_ hSw;go_simp;first|done|exact rfl) ?_
 try go_frame
 refine plStepL rfl rfl fun K hK=> ?_
 go_wp2_with(first|(go_at_call 155;refine(cL _ hS1.below).mono ?_;rintro r w6 ⟨vl,rfl,hL,p_⟩;dsimp only[msgA])|fail)
 refine hK _ _ (hS1.keep p_) fun hS_=> ?_
 clear hK K hS_
 try go_frame
 replace hL:=Zh hL
 replace HO1:=Zh (owns_keep HO1.out p_)
 replace hS1:=Zh (hS1.keep p_)
 replace hA:=Zh (hA.keep p_)
 clear p_
 refine plStepL rfl rfl fun K hK=> ?_
 go_wp2_with(first|(go_at_call 155;refine(cR _ hS1.below).mono ?_;rintro r w7 ⟨vr,rfl,hR,p_⟩;dsimp only[msgA])|fail)
 refine hK _ _ (hS1.keep p_) fun hS_=> ?_
 clear hK K hS_
 try go_frame
 replace hR:=Zh hR
 replace HO1:=Zh (owns_keep HO1.out p_)
 replace hS1:=Zh (hS1.keep p_)
 replace hA:=Zh (hA.keep p_)
 replace hL:=Zh (hL.keep p_)
 clear p_
 refine plDone ?_
 simp only[List.drop]
 have hE:Hid (EdOwn w7 ⟨A2,v.cn,c2,va,vl,vr⟩ e):=⟨⟨_,HO1.out⟩,lC.out,hA.out,hL.out,hR.out⟩
 have I:=hS1
 clear hS1 HO1 hA hL hR
 have ke:=I.cell 1 rfl
 go_wp2_with(first
  |(refine sN 1 I ?_;have hBq:=I.at_ 1 rfl;clear I ke;intro w4 I hG4;simp only[List.set]at I;replace hE:=Zh (hE.put hBq (by decide) (by decide) hG4.out);clear hBq;have ke:=I.cell 1 rfl)
  |(refine lM 1 I uE.out ?_)
  |(refine sF 0 I ?_;have hBq:=I.at_ 0 rfl;clear I ke;intro w4 I hG4;simp only[List.set]at I;replace hE:=Zh (hE.put hBq (by decide) (by decide) hG4.out);clear hBq;have ke:=I.cell 1 rfl)
  |fail)
 try simp only[Exit.inBlock,Exit.then]
 refine rC I 0 uE.out ?_
 rw[←hP.out]
 exact⟨_,rfl,hE.out,I.below⟩
theorem rzero_any(m:Msg)(v:MsgV)(w:World)(h:MsgIs w v m):Calls Tryz.prog 210 #[.agg (Km m v)] w fun r w'=>r= .returned (.bool (zeroM m))∧Below w.heap.size w w':=by
 have I:=Zh (Mem.start w)
 have cS:=fun W (hb:Below w.heap.size w W)=>sameM_any m msg0 v msgV0 W (h.keep hb) (MsgIs.zero W)
 change∀W,Below w.heap.size w W→Calls _ _ #[_,.agg (Kz 7)] _ _ at cS
 have uM:=Tryz.underlying30
 have hZ:decide (m=msg0)=zeroM m:=rfl
 rw[hZ]at cS
 generalize zeroM m=Z at*
 replace cS:=Zh cS
 replace uM:=Zh uM
 go_enter Tryz.func210,Tryz.ntmps210
 go_upto_region 1 with(refine bA I 30 ?_;clear I;intro g w1 I hG;clear hG)
 have ke:=I.cell 0 rfl
 go_wp2_with(first
  |(refine lM 0 I uM.out ?_)
  |(go_at_call 14;refine(cS _ I.below).mono ?_;rintro r w3 ⟨rfl,p_⟩;have HM2:=Zm I p_;clear I p_ ke cS;have I:=HM2;clear HM2;have ke:=I.cell 0 rfl)
  |fail)
 go_ret
 exact⟨rfl,I.below⟩
def fewE(e:Ed):Bool:=decide ((e.cells.length:Int)≤40)&&(fewM e.asked&&(fewM e.last&&fewM e.reply))
theorem fewE_any(e:Ed)(v:EdV)(w:World)(h:EdIs w v e):Calls Tryz.prog 85 #[.agg (Ke e v)] w fun r w'=>r= .returned (.bool (fewE e))∧Below w.heap.size w w':=by
 have I:=Zh (Mem.start w)
 have hR:fewE e=(decide ((e.cells.length:Int)≤40)&&(fewM e.asked&&(fewM e.last&&fewM e.reply))):=rfl
 rw[h.cells.len]at hR
 have cA:=fun W (hb:Below w.heap.size w W)=>fewM_any e.asked v.a W (h.asked.keep hb)
 have cL:=fun W (hb:Below w.heap.size w W)=>fewM_any e.last v.l W (h.last.keep hb)
 have cR:=fun W (hb:Below w.heap.size w W)=>fewM_any e.reply v.r W (h.reply.keep hb)
 generalize hP:(fun(r:Ending) w'=>r=Ending.returned (.bool (fewE e))∧Below w.heap.size w w')=P
 have hPo:∀B w',fewE e=B→Below w.heap.size w w'→P (.returned (.bool B)) w':=fun B w' e1 hb=>by rw[←hP];exact⟨by rw[e1],hb⟩
 clear hP
 generalize fewE e=R at*
 generalize fewM e.asked=D2 at*
 generalize fewM e.last=D3 at*
 generalize fewM e.reply=D4 at*
 have uM:=Tryz.underlying30
 refine zh7 ?_ cA cL cR h hR hPo uM;clear cA cL cR h hR hPo uM;intro cA cL cR h hR hPo uM
 go_enter Tryz.func85,Tryz.ntmps85
 go_upto_region 1 with(refine bA I _ ?_;clear I;intro g w1 I hG;clear hG)
 have ka:=I.cell 0 rfl
 go_wp2_with(first
  |(refine lP 0 I 6 ((Km e.asked v.a)) uM.out ?_)
  |(refine lP 0 I 14 ((Km e.last v.l)) uM.out ?_)
  |(refine lP 0 I 21 ((Km e.reply v.r)) uM.out ?_)
  |(go_at_call 143;refine(cA _ I.below).mono ?_;rintro e w3 ⟨rfl,p_⟩;have HM2:=Zm I p_;clear I p_ ka cA;have I:=HM2;clear HM2;have ka:=I.cell 0 rfl)
  |(go_at_call 143;refine(cL _ I.below).mono ?_;rintro e w3 ⟨rfl,p_⟩;have HM2:=Zm I p_;clear I p_ ka cL;have I:=HM2;clear HM2;have ka:=I.cell 0 rfl)
  |(go_at_call 143;refine(cR _ I.below).mono ?_;rintro e w3 ⟨rfl,p_⟩;have HM2:=Zm I p_;clear I p_ ka cR;have I:=HM2;clear HM2;have ka:=I.cell 0 rfl)
  |fail)
 all_goals
  refine hPo _ _ ?_ I.below
  rw[hR.out]
  first|first|(simp[*];done)|(simp[*];omega)|(simp[*,intB];done)|(simp[*,intB];omega)|(simp[*,bne,intB];done)|(trace_state;fail)
end Tx
end Go.Proofs.YtfamifgchgolpaaGreat
