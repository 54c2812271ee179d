/- Chapter 27: check: the program's. -/
import Derived.Test.YtfamifgchgolpaaGreatCw
import Derived.Test.YtfamifgchgolpaaGreatVq
import Derived.Test.YtfamifgchgolpaaGreatCx
set_option linter.unusedVariables false
set_option linter.unusedSimpArgs false
set_option maxRecDepth 100000
set_option maxHeartbeats 8000000
namespace Go.Proofs.YtfamifgchgolpaaGreat
open Go Go.RowKit Go.Sort Go.Shelf Go.Maps
namespace Tx
open Sw Mm Pl
theorem wpList_makes {P:Program} {ops:Array Oper} {rest:List Oper} {op:Oper} {a:Act} {w a0:World} {L:List (Nat×Array Value×TypeId)} {Q:Exit→Act→World→Prop}(hM:Hid (Mem a0 w L))(hgd:op.guard=none)(C:Array Value)(t:TypeId)(v:Nat→Value)(hr:(execOp a.eval op).run P w= .ok (.value (v w.heap.size)) (w.alloc (.cells C t)))
 (h:∀g w',Hid (Mem a0 w' ((g,C,t)::L))→Hid (Below w.heap.size w w')→wpList P ops Q rest (a.put op.dst (v g)) w'):wpList P ops Q (op::rest) a w:=
 wpList_plain hgd fun K hK=>by
  simp only[Oper.wp,hr,Oper.upon]
  exact hK _ _ (h _ _ (hM.out.alloc C t) (ball w _))
def sidesA(a:Ed)(va:EdV)(ta:Tab)(vta:TabV)(b:Ed)(vb:EdV)(tb:Tab)(vtb:TabV):Array Value:=#[.int .i64 a.node,.int .i64 a.peer,.int .i64 a.number,.slice va.cA va.cn va.cc,.bool a.opn,.int .i64 a.since,.int .i64 a.asked.kind,.bool a.asked.reply,.int .i64 a.asked.number,.int .i64 a.asked.code,.int .i64 a.asked.count,.slice va.a.sA va.a.sn va.a.sc,.slice va.a.oA va.a.on va.a.oc,.bool a.known,.int .i64 a.last.kind,.bool a.last.reply,.int .i64 a.last.number,.int .i64 a.last.code,.int .i64 a.last.count,.slice va.l.sA va.l.sn va.l.sc,.slice va.l.oA va.l.on va.l.oc,.int .i64 a.reply.kind,.bool a.reply.reply,.int .i64 a.reply.number,.int .i64 a.reply.code,.int .i64 a.reply.count,.slice va.r.sA va.r.sn va.r.sc,.slice va.r.oA va.r.on va.r.oc,.int .i64 ta.node,.int .i64 ta.length,.slice vta.A vta.n vta.c,.int .i64 b.node,.int .i64 b.peer,.int .i64 b.number,.slice vb.cA vb.cn vb.cc,.bool b.opn,.int .i64 b.since,.int .i64 b.asked.kind,.bool b.asked.reply,.int .i64 b.asked.number,.int .i64 b.asked.code,.int .i64 b.asked.count,.slice vb.a.sA vb.a.sn vb.a.sc,.slice vb.a.oA vb.a.on vb.a.oc,.bool b.known,.int .i64 b.last.kind,.bool b.last.reply,.int .i64 b.last.number,.int .i64 b.last.code,.int .i64 b.last.count,.slice vb.l.sA vb.l.sn vb.l.sc,.slice vb.l.oA vb.l.on vb.l.oc,.int .i64 b.reply.kind,.bool b.reply.reply,.int .i64 b.reply.number,.int .i64 b.reply.code,.int .i64 b.reply.count,.slice vb.r.sA vb.r.sn vb.r.sc,.slice vb.r.oA vb.r.on vb.r.oc,.int .i64 tb.node,.int .i64 tb.length,.slice vtb.A vtb.n vtb.c]
theorem full_chkT {t:Tab} {e:Ed}(h:chkT t≠0):fullC t e≠0:=by
 unfold fullC
 rw[if_pos (.inr (.inl h))]
 decide
theorem results_cctt {P:Program} {fn:Func} {s r u u2:Tmp} {ty tz:TypeId}(hr:fn.results=#[.cell s ty,.cell r tz,.tmp u,.tmp u2]) {tmps:Array Value} {w:World} {B E:Nat} {C D:Array Value} {t k:TypeId}(hB:Blk w B C t)(hE:Blk w E D k)(hs:tmps.getD s undef= .pointer (some ⟨B,0,none⟩))(hs2:tmps.getD r undef= .pointer (some ⟨E,0,none⟩))
 (d:TypeDesc) (hu:P.underlying ty=some d) (hd:(match d with| .struct _| .array _ _=>true|_=>false)=true) (hi:(P.info? ty).map (·.size)=some C.size) (d2:TypeDesc) (hu2:P.underlying tz=some d2) (hd2:(match d2 with| .struct _| .array _ _=>true|_=>false)=true) (hi2:(P.info? tz).map (·.size)=some D.size):
 (results fn tmps).run P w= .ok (.tuple #[.agg C,.agg D,tmps.getD u undef,tmps.getD u2 undef]) w:=by
 have h1:=run_loadVar_blk hB ty d hu hd hi
 have h2:=run_loadVar_blk hE tz d2 hu2 hd2 hi2
 rw[Array.getD_eq_getD_getElem?]at hs hs2
 simp[results,hr,hs,hs2,asAddr,h1,h2]
theorem check_any(a b:Ed)(ta tb:Tab)(va vb:EdV)(vta vtb:TabV)(w:World)(h1:EdIs w va a)(h2:EdIs w vb b)(t1:TabIs w vta ta)(t2:TabIs w vtb tb):Calls Tryz.prog 87 #[.agg (sideA a va ta vta),.agg (sideA b vb tb vtb)] w fun r w'=>r= .returned (.int .i64 (idleC a b ta tb))∧Below w.heap.size w w':=by
 have HM:=Zh (Mem.start w)
 obtain⟨F0,hFs,hF⟩:∃F:World→Prop,Stb F∧Hid (F w):=⟨_,Stb.true,trivial⟩
 have uE:=Tryz.underlying32
 have uT:=Tryz.underlying37
 have uM:=Tryz.underlying30
 have uS:=Tryz.underlying128
 have hR:idleC a b ta tb=if(pairB a b&&(decide (ta.length=tb.length)&&(decide (fullC ta a=0)&&decide (fullC tb b=0))))=false then 1 else if a.opn=true∨b.opn=true then 12 else 0:=rfl
 have cP:=fun W (hb:Below w.heap.size w W)=>paired_any a b va vb W (h1.keep hb) (h2.keep hb)
 have cK:=fun W (hb:Below w.heap.size w W)=>chkT_any ta vta W (t1.keep hb)
 have cL:=fun W (hb:Below w.heap.size w W)=>chkT_any tb vtb W (t2.keep hb)
 have cF:=fun W (hb:Below w.heap.size w W)=>full_any ta a vta va W (t1.keep hb) (h1.keep hb)
 have cG:=fun W (hb:Below w.heap.size w W)=>full_any tb b vtb vb W (t2.keep hb) (h2.keep hb)
 unfold FullPost at cF cG
 have hk1:=full_chkT (t:=ta) (e:=a)
 have hk2:=full_chkT (t:=tb) (e:=b)
 generalize idleC a b ta tb=R at*
 generalize pairB a b=PB at*
 generalize fullC ta a=F1 at*
 generalize fullC tb b=F2 at*
 generalize fullN ta a=U1 at*
 generalize fullN tb b=U2 at*
 generalize chkT ta=C1 at*
 generalize chkT tb=C2 at*
 replace cP:=Zh cP
 replace cK:=Zh cK
 replace cL:=Zh cL
 replace cF:=Zh cF
 replace cG:=Zh cG
 replace hk1:=Zh hk1
 replace hk2:=Zh hk2
 replace h1:=Zh h1
 replace h2:=Zh h2
 replace t1:=Zh t1
 replace t2:=Zh t2
 replace uE:=Zh uE
 replace uT:=Zh uT
 replace uM:=Zh uM
 replace uS:=Zh uS
 go_enter Tryz.func87,Tryz.ntmps87
 have mk1:Unit:=()
 have mk2:Unit:=()
 go_upto_region 1 with(first|go_skip|(clear mk1;refine hFs.b HM hF 128 ?_;clear HM hF;intro ga w1 HM hF)|(clear mk2;refine hFs.b HM hF 128 ?_;clear HM hF;intro gb w1 HM hF)|fail)
 have p29:=Zc HM 1 29 (.int .i64 ta.length)
 have q29:=Zc HM 0 29 (.int .i64 tb.length)
 cases PB
 case false=>
  have hh:R=1:=hR.trans (if_pos (by simp[]))
  subst hh
  replace hR:=Zh hR
  have mk3:Unit:=()
  have mk4:Unit:=()
  have mk5:Unit:=()
  go_wp2_with(first|go_skip|(refine lP 1 HM 0 (endA a va) uE.out ?_)|(refine lP 0 HM 0 (endA b vb) uE.out ?_)|(refine lP 1 HM 28 (tabA ta vta) uT.out ?_)|(refine lP 0 HM 28 (tabA tb vtb) uT.out ?_)|(go_at_call 108;clear mk3;refine(cP.out _ HM.out.below).mono ?_;rintro r w3 ⟨rfl,hb_⟩;replace p29:=Zk HM hb_ 1 29 p29;replace q29:=Zk HM hb_ 0 29 q29;replace HM:=Zm HM hb_;replace hF:=hFs.z hF hb_;clear hb_;dsimp only)|(go_at_call 20;clear mk4;refine(cK.out _ HM.out.below).mono ?_;rintro r w3 ⟨rfl,hb_⟩;replace p29:=Zk HM hb_ 1 29 p29;replace q29:=Zk HM hb_ 0 29 q29;replace HM:=Zm HM hb_;replace hF:=hFs.z hF hb_;clear hb_;dsimp only)|(go_at_call 20;clear mk5;refine(cL.out _ HM.out.below).mono ?_;rintro r w3 ⟨rfl,hb_⟩;replace p29:=Zk HM hb_ 1 29 p29;replace q29:=Zk HM hb_ 0 29 q29;replace HM:=Zm HM hb_;replace hF:=hFs.z hF hb_;clear hb_;dsimp only)|fail)
  try simp only[Exit.inBlock,Exit.then]
  go_ret
  exact⟨by first|rfl|trivial,HM.out.below⟩
 by_cases e1:C1=0
 case neg=>
  have d1:(C1 !=0)=true:=by rw[bne_iff_ne];exact e1
  have e8:=hk1.out e1
  have hh:R=1:=hR.trans (if_pos (by simp[e8]))
  subst hh
  replace hR:=Zh hR
  replace e1:=Zh e1
  replace e8:=Zh e8
  have mk3:Unit:=()
  have mk4:Unit:=()
  have mk5:Unit:=()
  go_wp2_with(first|go_skip|(refine lP 1 HM 0 (endA a va) uE.out ?_)|(refine lP 0 HM 0 (endA b vb) uE.out ?_)|(refine lP 1 HM 28 (tabA ta vta) uT.out ?_)|(refine lP 0 HM 28 (tabA tb vtb) uT.out ?_)|(go_at_call 108;clear mk3;refine(cP.out _ HM.out.below).mono ?_;rintro r w3 ⟨rfl,hb_⟩;replace p29:=Zk HM hb_ 1 29 p29;replace q29:=Zk HM hb_ 0 29 q29;replace HM:=Zm HM hb_;replace hF:=hFs.z hF hb_;clear hb_;dsimp only)|(go_at_call 20;clear mk4;refine(cK.out _ HM.out.below).mono ?_;rintro r w3 ⟨rfl,hb_⟩;replace p29:=Zk HM hb_ 1 29 p29;replace q29:=Zk HM hb_ 0 29 q29;replace HM:=Zm HM hb_;replace hF:=hFs.z hF hb_;clear hb_;dsimp only)|(go_at_call 20;clear mk5;refine(cL.out _ HM.out.below).mono ?_;rintro r w3 ⟨rfl,hb_⟩;replace p29:=Zk HM hb_ 1 29 p29;replace q29:=Zk HM hb_ 0 29 q29;replace HM:=Zm HM hb_;replace hF:=hFs.z hF hb_;clear hb_;dsimp only)|fail)
  try simp only[Exit.inBlock,Exit.then]
  go_ret
  exact⟨by first|rfl|trivial,HM.out.below⟩
 have d1:(C1 !=0)=false:=by rw[bne_eq_false_iff_eq];exact e1
 by_cases e2:C2=0
 case neg=>
  have d2:(C2 !=0)=true:=by rw[bne_iff_ne];exact e2
  have e8:=hk2.out e2
  have hh:R=1:=hR.trans (if_pos (by simp[e8]))
  subst hh
  replace hR:=Zh hR
  replace e1:=Zh e1
  replace e2:=Zh e2
  replace e8:=Zh e8
  have mk3:Unit:=()
  have mk4:Unit:=()
  have mk5:Unit:=()
  go_wp2_with(first|go_skip|(refine lP 1 HM 0 (endA a va) uE.out ?_)|(refine lP 0 HM 0 (endA b vb) uE.out ?_)|(refine lP 1 HM 28 (tabA ta vta) uT.out ?_)|(refine lP 0 HM 28 (tabA tb vtb) uT.out ?_)|(go_at_call 108;clear mk3;refine(cP.out _ HM.out.below).mono ?_;rintro r w3 ⟨rfl,hb_⟩;replace p29:=Zk HM hb_ 1 29 p29;replace q29:=Zk HM hb_ 0 29 q29;replace HM:=Zm HM hb_;replace hF:=hFs.z hF hb_;clear hb_;dsimp only)|(go_at_call 20;clear mk4;refine(cK.out _ HM.out.below).mono ?_;rintro r w3 ⟨rfl,hb_⟩;replace p29:=Zk HM hb_ 1 29 p29;replace q29:=Zk HM hb_ 0 29 q29;replace HM:=Zm HM hb_;replace hF:=hFs.z hF hb_;clear hb_;dsimp only)|(go_at_call 20;clear mk5;refine(cL.out _ HM.out.below).mono ?_;rintro r w3 ⟨rfl,hb_⟩;replace p29:=Zk HM hb_ 1 29 p29;replace q29:=Zk HM hb_ 0 29 q29;replace HM:=Zm HM hb_;replace hF:=hFs.z hF hb_;clear hb_;dsimp only)|fail)
  try simp only[Exit.inBlock,Exit.then]
  go_ret
  exact⟨by first|rfl|trivial,HM.out.below⟩
 have d2:(C2 !=0)=false:=by rw[bne_eq_false_iff_eq];exact e2
 by_cases e3:ta.length=tb.length
 case neg=>
  have d3:(ta.length !=tb.length)=true:=by rw[bne_iff_ne];exact e3
  have hh:R=1:=hR.trans (if_pos (by simp[e3]))
  subst hh
  replace hR:=Zh hR
  replace e1:=Zh e1
  replace e2:=Zh e2
  replace e3:=Zh e3
  have mk3:Unit:=()
  have mk4:Unit:=()
  have mk5:Unit:=()
  go_wp2_with(first|go_skip|(refine lP 1 HM 0 (endA a va) uE.out ?_)|(refine lP 0 HM 0 (endA b vb) uE.out ?_)|(refine lP 1 HM 28 (tabA ta vta) uT.out ?_)|(refine lP 0 HM 28 (tabA tb vtb) uT.out ?_)|(go_at_call 108;clear mk3;refine(cP.out _ HM.out.below).mono ?_;rintro r w3 ⟨rfl,hb_⟩;replace p29:=Zk HM hb_ 1 29 p29;replace q29:=Zk HM hb_ 0 29 q29;replace HM:=Zm HM hb_;replace hF:=hFs.z hF hb_;clear hb_;dsimp only)|(go_at_call 20;clear mk4;refine(cK.out _ HM.out.below).mono ?_;rintro r w3 ⟨rfl,hb_⟩;replace p29:=Zk HM hb_ 1 29 p29;replace q29:=Zk HM hb_ 0 29 q29;replace HM:=Zm HM hb_;replace hF:=hFs.z hF hb_;clear hb_;dsimp only)|(go_at_call 20;clear mk5;refine(cL.out _ HM.out.below).mono ?_;rintro r w3 ⟨rfl,hb_⟩;replace p29:=Zk HM hb_ 1 29 p29;replace q29:=Zk HM hb_ 0 29 q29;replace HM:=Zm HM hb_;replace hF:=hFs.z hF hb_;clear hb_;dsimp only)|fail)
  try simp only[Exit.inBlock,Exit.then]
  go_ret
  exact⟨by first|rfl|trivial,HM.out.below⟩
 have d3:(ta.length !=tb.length)=false:=by rw[bne_eq_false_iff_eq];exact e3
 have e0x:=Zh (decide_eq_true e3)
 replace hR:=Zh hR
 replace e1:=Zh e1
 replace e2:=Zh e2
 replace e3:=Zh e3
 have mk3:Unit:=()
 have mk4:Unit:=()
 have mk5:Unit:=()
 go_upto_region 3 with(first|go_skip|(refine lP 1 HM 0 (endA a va) uE.out ?_)|(refine lP 0 HM 0 (endA b vb) uE.out ?_)|(refine lP 1 HM 28 (tabA ta vta) uT.out ?_)|(refine lP 0 HM 28 (tabA tb vtb) uT.out ?_)|(go_at_call 108;clear mk3;refine(cP.out _ HM.out.below).mono ?_;rintro r w3 ⟨rfl,hb_⟩;replace p29:=Zk HM hb_ 1 29 p29;replace q29:=Zk HM hb_ 0 29 q29;replace HM:=Zm HM hb_;replace hF:=hFs.z hF hb_;clear hb_;dsimp only)|(go_at_call 20;clear mk4;refine(cK.out _ HM.out.below).mono ?_;rintro r w3 ⟨rfl,hb_⟩;replace p29:=Zk HM hb_ 1 29 p29;replace q29:=Zk HM hb_ 0 29 q29;replace HM:=Zm HM hb_;replace hF:=hFs.z hF hb_;clear hb_;dsimp only)|(go_at_call 20;clear mk5;refine(cL.out _ HM.out.below).mono ?_;rintro r w3 ⟨rfl,hb_⟩;replace p29:=Zk HM hb_ 1 29 p29;replace q29:=Zk HM hb_ 0 29 q29;replace HM:=Zm HM hb_;replace hF:=hFs.z hF hb_;clear hb_;dsimp only)|fail)
 clear p29 q29 d1 d2 d3 cP cK cL hk1 hk2
 refine wp_region_lit ?_
 refine lM 1 HM uS.out ?_
 try go_frame
 refine lM 0 HM uS.out ?_
 try go_frame
 refine wpList_makes HM rfl (sidesA a va ta vta b vb tb vtb) 128 (fun g=> .slice (some ⟨g,0,none⟩) 2 2) (by kernel_rfl) ?_
 clear HM
 intro pb w5 HM hG
 replace hF:=hFs.y hF hG
 clear hG
 try go_frame
 go_wp2_with fail
 go_loopw[6,7,8,40] (fun _ _ _ i wr=>Hid ((i= .int .i64 0∧Mem w wr [(pb,sidesA a va ta vta b vb tb vtb,128),(gb,sideA b vb tb vtb,128),(ga,sideA a va ta vta,128)])∨(i= .int .i64 1∧F1=0∧Mem w wr [(pb,sidesA a va ta vta b vb tb vtb,128),(gb,sideA b vb tb vtb,128),(ga,sideA a va ta vta,128)])∨(i= .int .i64 2∧F1=0∧F2=0∧Mem w wr [(pb,sidesA a va ta vta b vb tb vtb,128),(gb,sideA b vb tb vtb,128),(ga,sideA a va ta vta,128)]))) (fun _ _ _ i _=>2-(intOf i).toNat)
 case atStart=>exact Zh (.inl ⟨rfl,HM.out⟩)
 case round=>
  clear HM hF hFs
  rcases hrel.out with⟨rfl,HM⟩|⟨rfl,e1,HM⟩|⟨rfl,e1,e2,HM⟩
  ·clear hrel
   replace HM:=Zh HM
   obtain⟨F0,hFs,hF⟩:∃F:World→Prop,Stb F∧Hid (F wr):=⟨_,Stb.true,trivial⟩
   have mk6:Unit:=()
   go_upto_region 6 with(first|go_skip|(refine lP 0 HM 0 (sideA a va ta vta) uS.out ?_)|(clear mk6;refine hFs.a HM hF sdInfo ?_;clear HM hF;intro g6 w1 HM hF)|(refine hFs.s 0 HM hF ?_;clear HM hF;intro w4 HM hF;simp only[List.set]at HM)|fail)
   have mk7:Unit:=()
   have mk8:Unit:=()
   go_upto_region 7 with(first|go_skip|(refine lP 0 HM 28 (tabA ta vta) uT.out ?_)|(refine lP 0 HM 0 (endA a va) uE.out ?_)|(go_at_call 19;clear mk7;refine(cF.out _ HM.out.below).mono ?_;rintro r w3 ⟨v9,rfl,hT9,hb_⟩;replace HM:=Zm HM hb_;replace hF:=hFs.z hF hb_;clear hb_;dsimp only)|(clear mk8;refine hFs.a HM hF tabInfo ?_;clear HM hF;intro g7 w1 HM hF)|(refine hFs.s 0 HM hF ?_;clear HM hF;intro w4 HM hF;simp only[List.set]at HM)|fail)
   clear hT9
   by_cases e9:F1=0
   case neg=>
    have d9:(F1 !=0)=true:=by rw[bne_iff_ne];exact e9
    have hh:R=1:=hR.out.trans (if_pos (by simp[e9]))
    subst hh
    replace e9:=Zh e9
    go_wp2_with fail
    try simp only[Exit.inBlock,Exit.then]
    go_ret
    exact⟨by first|rfl|trivial,HM.out.below⟩
   have d9:(F1 !=0)=false:=by rw[bne_eq_false_iff_eq];exact e9
   replace e9:=Zh e9
   go_wp2_with fail
   exact⟨Zh (.inr (.inl ⟨by first|trivial|go_num,e9.out,HM.out.sub (by repeat(first|exact List.Sublist.refl _|apply List.Sublist.cons_cons|apply List.Sublist.cons))⟩)),by simp[intOf]⟩
  ·clear hrel
   replace HM:=Zh HM
   replace e1:=Zh e1
   obtain⟨F0,hFs,hF⟩:∃F:World→Prop,Stb F∧Hid (F wr):=⟨_,Stb.true,trivial⟩
   have mk6:Unit:=()
   go_upto_region 6 with(first|go_skip|(refine lP 0 HM 31 (sideA b vb tb vtb) uS.out ?_)|(clear mk6;refine hFs.a HM hF sdInfo ?_;clear HM hF;intro g6 w1 HM hF)|(refine hFs.s 0 HM hF ?_;clear HM hF;intro w4 HM hF;simp only[List.set]at HM)|fail)
   have mk7:Unit:=()
   have mk8:Unit:=()
   go_upto_region 7 with(first|go_skip|(refine lP 0 HM 28 (tabA tb vtb) uT.out ?_)|(refine lP 0 HM 0 (endA b vb) uE.out ?_)|(go_at_call 19;clear mk7;refine(cG.out _ HM.out.below).mono ?_;rintro r w3 ⟨v9,rfl,hT9,hb_⟩;replace HM:=Zm HM hb_;replace hF:=hFs.z hF hb_;clear hb_;dsimp only)|(clear mk8;refine hFs.a HM hF tabInfo ?_;clear HM hF;intro g7 w1 HM hF)|(refine hFs.s 0 HM hF ?_;clear HM hF;intro w4 HM hF;simp only[List.set]at HM)|fail)
   clear hT9
   by_cases e9:F2=0
   case neg=>
    have d9:(F2 !=0)=true:=by rw[bne_iff_ne];exact e9
    have hh:R=1:=hR.out.trans (if_pos (by simp[e9]))
    subst hh
    replace e9:=Zh e9
    go_wp2_with fail
    try simp only[Exit.inBlock,Exit.then]
    go_ret
    exact⟨by first|rfl|trivial,HM.out.below⟩
   have d9:(F2 !=0)=false:=by rw[bne_eq_false_iff_eq];exact e9
   replace e9:=Zh e9
   go_wp2_with fail
   exact⟨Zh (.inr (.inr ⟨by first|trivial|go_num,e1.out,e9.out,HM.out.sub (by repeat(first|exact List.Sublist.refl _|apply List.Sublist.cons_cons|apply List.Sublist.cons))⟩)),by simp[intOf]⟩
  ·clear hrel
   replace HM:=Zh HM
   obtain⟨F0,hFs,hF⟩:∃F:World→Prop,Stb F∧Hid (F wr):=⟨_,Stb.true,trivial⟩
   have p4:=Zc HM 2 4 (.bool a.opn)
   have q4:=Zc HM 1 4 (.bool b.opn)
   replace hR:=Zh (hR.out.trans (if_neg (by rw[e1,e2,e0x.out];decide)))
   replace e1:=Zh e1
   replace e2:=Zh e2
   generalize a.opn=oa at*
   generalize b.opn=ob at*
   cases oa
   ·cases ob
    ·have hh:R=0:=hR.out.trans (if_neg (by decide))
     subst hh
     go_wp2_with fail
     try simp only[Exit.inBlock,Exit.then]
     go_ret
     exact⟨by first|rfl|trivial,HM.out.below⟩
    ·have hh:R=12:=hR.out.trans (if_pos (.inr rfl))
     subst hh
     go_wp2_with fail
     try simp only[Exit.inBlock,Exit.then]
     go_ret
     exact⟨by first|rfl|trivial,HM.out.below⟩
   ·have hh:R=12:=hR.out.trans (if_pos (.inl rfl))
    subst hh
    go_wp2_with fail
    try simp only[Exit.inBlock,Exit.then]
    go_ret
    exact⟨by first|rfl|trivial,HM.out.below⟩
end Tx
end Go.Proofs.YtfamifgchgolpaaGreat
