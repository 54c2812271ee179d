/- Chapter 27: Exchange: the program's. -/
import Derived.Test.YtfamifgchgolpaaGreatEx
import Derived.Test.YtfamifgchgolpaaGreatEc
set_option linter.unusedVariables false
set_option linter.unusedSimpArgs false
set_option maxRecDepth 100000
set_option maxHeartbeats 8000000
namespace Go.Proofs.YtfamifgchgolpaaGreat
open Go Go.RowKit Go.Sort Go.Shelf Go.Maps
namespace Tx
open Sw Mm Pl
theorem Mem.swap2 {a w:World} {p q:Nat×Array Value×TypeId} {L:List (Nat×Array Value×TypeId)}(h:Mem a w (p::q::L)):Mem a w (q::p::L):=by
 have hp:(q::p::L).Perm (p::q::L):=List.Perm.swap _ _ _
 exact⟨h.below,fun e he=>h.blk e (hp.subset he),((hp.map _).nodup_iff).2 h.nodup,fun e he=>h.ge e (hp.subset he)⟩
theorem Stb.runD(a b:Ed)(ta tb:Tab)(f:List Int)(kind count:Int)(x:Fate)(vta vtb:TabV)(vb:EdV)(d:Xd)(v:Xv):Stb (RunD a b ta tb f kind count x vta vtb vb d v):=
 ⟨fun h hb=>⟨h.xa,h.xb,h.xcode,h.xta,h.xtb,h.xvta,h.xvtb,h.xoa.keep hb,h.xob.imp (·.keep hb) id⟩,fun h hB h1 h2 hg=>⟨h.xa,h.xb,h.xcode,h.xta,h.xtb,h.xvta,h.xvtb,h.xoa.put hB h1 h2 hg,h.xob.imp (·.put hB h1 h2 hg) id⟩⟩
def ExPost(E1 E2:Ed)(code err:Int)(vb:EdV)(b:Ed)(w:World)(r:Ending)(w':World):Prop:=∃v1 v2,r= .returned (.tuple #[.agg (endA E1 v1),.agg (endA E2 v2),.int .i64 code,.int .i64 err])∧EdOwn w' v1 E1∧OwnB vb b v2 E2 w'∧Below w.heap.size w w'
theorem exchange_any(a b:Ed)(ta tb:Tab)(f:List Int)(kind count:Int)(x:Fate)(va vb:EdV)(vta vtb:TabV)(A:Option Addr)(nf cf:Nat)(w:World)(h1:EdIs w va a)(h2:EdIs w vb b)(t1:TabIs w vta ta)(t2:TabIs w vtb tb)(hf:IntS w A nf f):Calls Tryz.prog 24 #[.agg (endA a va),.agg (endA b vb),.agg (tabA ta vta),.agg (tabA tb vtb),.slice A nf cf,.int .i64 kind,.int .i64 count,.agg (fateA x)] w (ExPost (exN a b ta tb f kind count x).1 (exN a b ta tb f kind count x).2.1 (exN a b ta tb f kind count x).2.2 (exC a b ta tb f kind count) vb b w):=by
 have HM:=Zh (Mem.start w)
 obtain⟨F0,hFs,hF⟩:∃F:World→Prop,Stb F∧Hid (F w):=⟨_,Stb.true,trivial⟩
 have uE:=Tryz.underlying32
 have uT:=Tryz.underlying37
 have uM:=Tryz.underlying30
 have uS:=Tryz.underlying128
 have uX:=Tryz.underlying134
 have uY:=Tryz.underlying40
 have hC:exC a b ta tb f kind count=if idleC a b ta tb≠0 then idleC a b ta tb else askC a ta f kind count 0:=rfl
 have hN:exN a b ta tb f kind count x=if exC a b ta tb f kind count=0 then runN a b ta tb f kind count x else(ed0,ed0,0):=rfl
 have cK:=fun W (hb:Below w.heap.size w W)=>check_any a b ta tb va vb vta vtb W (h1.keep hb) (h2.keep hb) (t1.keep hb) (t2.keep hb)
 have cR:=fun W (hb:Below w.heap.size w W)=>run_any a b ta tb f kind count x va vb vta vtb A nf cf W (h1.keep hb) (h2.keep hb) (t1.keep hb) (t2.keep hb) (hf.keep hb)
 have cR0:askC a ta f kind count 0≠0→∀W,Below w.heap.size w W→Calls Tryz.prog 88 #[.agg (sideA a va ta vta),.agg (sideA b vb tb vtb),.slice A nf cf,.int .i64 kind,.int .i64 count,.agg (fateA x)] W fun r w'=>r= .returned (.tuple #[.pointer none,.int .i64 (askC a ta f kind count 0)])∧Below W.heap.size W w':=fun h W hb=>(cR W hb).mono fun r w' h'=>by
  rcases h' with⟨_,h2,h3⟩|⟨h1,_⟩
  ·exact⟨h2,h3⟩
  ·exact absurd h1 h
 have cR1:askC a ta f kind count 0=0→∀W,Below w.heap.size w W→Calls Tryz.prog 88 #[.agg (sideA a va ta vta),.agg (sideA b vb tb vtb),.slice A nf cf,.int .i64 kind,.int .i64 count,.agg (fateA x)] W fun r w'=>∃(gx:Nat) (d:Xd) (v:Xv),r= .returned (.tuple #[.pointer (some ⟨gx,0,none⟩),.int .i64 0])∧Mem W w' [(gx,exA d v,134)]∧RunD a b ta tb f kind count x vta vtb vb d v w':=fun h W hb=>(cR W hb).mono fun r w' h'=>by
  rcases h' with⟨h1,_⟩|⟨_,h2⟩
  ·exact absurd h h1
  ·exact h2
 clear cR
 generalize hP:ExPost (exN a b ta tb f kind count x).1 (exN a b ta tb f kind count x).2.1 (exN a b ta tb f kind count x).2.2 (exC a b ta tb f kind count) vb b w=P
 have hPb:∀c W,exC a b ta tb f kind count=c→c≠0→Below w.heap.size w W→P (.returned (.tuple #[.agg #[.int .i64 0,.int .i64 0,.int .i64 0,.slice none 0 0,.bool false,.int .i64 0,.int .i64 0,.bool false,.int .i64 0,.int .i64 0,.int .i64 0,.slice none 0 0,.slice none 0 0,.bool false,.int .i64 0,.bool false,.int .i64 0,.int .i64 0,.int .i64 0,.slice none 0 0,.slice none 0 0,.int .i64 0,.bool false,.int .i64 0,.int .i64 0,.int .i64 0,.slice none 0 0,.slice none 0 0],.agg #[.int .i64 0,.int .i64 0,.int .i64 0,.slice none 0 0,.bool false,.int .i64 0,.int .i64 0,.bool false,.int .i64 0,.int .i64 0,.int .i64 0,.slice none 0 0,.slice none 0 0,.bool false,.int .i64 0,.bool false,.int .i64 0,.int .i64 0,.int .i64 0,.slice none 0 0,.slice none 0 0,.int .i64 0,.bool false,.int .i64 0,.int .i64 0,.int .i64 0,.slice none 0 0,.slice none 0 0],.int .i64 0,.int .i64 c])) W:=fun c W e hc hb=>by
  rw[←hP,hN,e,if_neg hc]
  exact⟨edV0,edV0,rfl,EdOwn.startE W 0 0,.inl (EdOwn.startE W 0 0),hb⟩
 have hPo:∀d v W,exC a b ta tb f kind count=0→RunD a b ta tb f kind count x vta vtb vb d v W→Below w.heap.size w W→P (.returned (.tuple #[.agg (endA d.a v.a),.agg (endA d.b v.b),.int .i64 d.code,.int .i64 0])) W:=fun d v W e hD hb=>by
  rw[←hP,hN,e,if_pos rfl,←hD.xa,←hD.xb,←hD.xcode]
  exact⟨v.a,v.b,rfl,hD.xoa,hD.xob,hb⟩
 clear hP hN
 generalize exC a b ta tb f kind count=XC at*
 generalize idleC a b ta tb=IC at*
 generalize askC a ta f kind count 0=AC at*
 replace cK:=Zh cK
 replace cR0:=Zh cR0
 replace cR1:=Zh cR1
 replace hC:=Zh hC
 replace hPb:=Zh hPb
 replace hPo:=Zh hPo
 replace h1:=Zh h1
 replace h2:=Zh h2
 replace t1:=Zh t1
 replace t2:=Zh t2
 replace hf:=Zh hf
 replace uE:=Zh uE
 replace uT:=Zh uT
 replace uM:=Zh uM
 replace uS:=Zh uS
 replace uX:=Zh uX
 replace uY:=Zh uY
 go_enter Tryz.func24,Tryz.ntmps24
 have mk1:Unit:=()
 have mk2:Unit:=()
 have mk3:Unit:=()
 have mk4:Unit:=()
 have mk5:Unit:=()
 have mk6:Unit:=()
 have mk7:Unit:=()
 go_upto_region 1 with(first|go_skip|(clear mk1;refine hFs.b HM hF 32 ?_;clear HM hF;intro ga w1 HM hF)|(clear mk2;refine hFs.b HM hF 32 ?_;clear HM hF;intro gb w1 HM hF)|(clear mk3;refine hFs.b HM hF 37 ?_;clear HM hF;intro gta w1 HM hF)|(clear mk4;refine hFs.b HM hF 37 ?_;clear HM hF;intro gtb w1 HM hF)|(clear mk5;refine hFs.b HM hF 40 ?_;clear HM hF;intro gy w1 HM hF)|(clear mk6;refine hFs.a HM hF edInfo ?_;clear HM hF;intro g16 w1 HM hF)|(clear mk7;refine hFs.a HM hF edInfo ?_;clear HM hF;intro g17 w1 HM hF)|fail)
 replace hF:=Zh (hFs.keep hF.out ((Below.refl _ _).drew))
 replace HM:=Zh (HM.out.keep ((Below.refl _ _).drew))
 have HMs:=Zh HM.out
 refine wp_region_pt (fun w'=>Mem _ w' _) 9 (.take 0 (.take 1 (.take 2 (.take 3 (.take 4 (.take 5 (.fork 6 (.only 7 (.only 8 .done)) 7 (.only 6 (.only 8 .done))))))))) (by kernel_rfl) (by kernel_rfl) HMs.out ?_
 clear HMs
 generalize World.drew _=wd at*
 refine ptTake (by rfl) (yields_memw rfl _ _ rfl 6 (fun w_ hSw=>hSw) rfl rfl _ uE.out rfl (by exact zend)) ?_
 try go_frame
 refine ptTake (by rfl) (yields_memw rfl _ _ rfl 4 (fun w_ hSw=>hSw) rfl rfl _ uT.out rfl (by exact ztab)) ?_
 try go_frame
 refine ptPure (v:= .agg (sideA a va ta vta)) rfl rfl (fun w_ _=>by kernel_rfl) ?_
 try go_frame
 refine ptTake (by rfl) (yields_memw rfl _ _ rfl 5 (fun w_ hSw=>hSw) rfl rfl _ uE.out rfl (by exact zend)) ?_
 try go_frame
 refine ptTake (by rfl) (yields_memw rfl _ _ rfl 3 (fun w_ hSw=>hSw) rfl rfl _ uT.out rfl (by exact ztab)) ?_
 try go_frame
 refine ptPure (v:= .agg (sideA b vb tb vtb)) rfl rfl (fun w_ _=>by kernel_rfl) ?_
 try go_frame
 refine ptFork rfl rfl rfl rfl (fun K hK=> ?f1) (fun K hK=> ?f2)
 case' f1=>
  go_wp2_with(first|(refine hFs.a HM hF sdInfo ?_;clear HM hF;intro g20 w1 HM hF)|fail)
  refine hK.out _ _ HM.out.tail fun hS_=> ?_
  clear hK K hS_
  try go_frame
  refine ptOnly rfl rfl fun K hK=> ?_
  go_wp2_with(first|(refine hFs.a HM hF sdInfo ?_;clear HM hF;intro g21 w1 HM hF)|fail)
  refine hK.out _ _ (HM.out.tail.tail) fun hS_=> ?_
  clear hK K hS_
  try go_frame
  refine ptOnly rfl rfl fun K hK=> ?_
  go_wp2_with(first|(refine hFs.s 1 HM hF ?_;clear HM hF;intro w4 HM hF;simp only[List.set]at HM)|fail)
  refine hK.out _ _ (HM.out.tail.tail) fun hS_=> ?_
  clear hK K hS_
  try go_frame
  refine ptDone ?_
  simp only[List.drop]
  replace HM:=Zh HM.out.swap2
 case' f2=>
  go_wp2_with(first|(refine hFs.a HM hF sdInfo ?_;clear HM hF;intro g21 w1 HM hF)|fail)
  refine hK.out _ _ HM.out.tail fun hS_=> ?_
  clear hK K hS_
  try go_frame
  refine ptOnly rfl rfl fun K hK=> ?_
  go_wp2_with(first|(refine hFs.a HM hF sdInfo ?_;clear HM hF;intro g20 w1 HM hF)|fail)
  refine hK.out _ _ (HM.out.tail.tail) fun hS_=> ?_
  clear hK K hS_
  try go_frame
  refine ptOnly rfl rfl fun K hK=> ?_
  go_wp2_with(first|(refine hFs.s 0 HM hF ?_;clear HM hF;intro w4 HM hF;simp only[List.set]at HM)|fail)
  refine hK.out _ _ (HM.out.tail.tail) fun hS_=> ?_
  clear hK K hS_
  try go_frame
  refine ptDone ?_
  simp only[List.drop]
 all_goals
  go_upto_region 2 with(first|go_skip|(refine hFs.s 1 HM hF ?_;clear HM hF;intro w4 HM hF;simp only[List.set]at HM)|fail)
  have mk8:Unit:=()
  go_upto_region 3 with(first|go_skip|(refine lG 0 HM uS.out ?_)|(refine lG 1 HM uS.out ?_)|(go_at_call 87;clear mk8;refine hFs.k HM hF (cK.out _ HM.out.below) ?_;clear HM hF;intro w3 HM hF;dsimp only)|fail)
  by_cases e1:IC=0
  case neg=>
   have d1:(IC !=0)=true:=by rw[bne_iff_ne];exact e1
   have hX1:=Zh (hC.out.trans (if_pos e1))
   replace e1:=Zh e1
   go_wp2_with(first|go_skip|(refine hFs.s 3 HM hF ?_;clear HM hF;intro w4 HM hF;simp only[List.set]at HM)|(refine hFs.s 2 HM hF ?_;clear HM hF;intro w4 HM hF;simp only[List.set]at HM)|fail)
   try simp only[Exit.inBlock,Exit.then]
   refine bodyPost_ret (results_cctt rfl (HM.out.at_ 3 rfl) (HM.out.at_ 2 rfl) rfl rfl _ uE.out rfl (by exact zend) _ uE.out rfl (by exact zend)) rfl ?_
   exact hPb.out _ _ hX1.out e1.out HM.out.below
  subst e1
  replace hC:=Zh (hC.out.trans (if_neg (fun h=>h rfl)))
  go_upto_region 5 with fail
  by_cases e2:AC=0
  case neg=>
   have d1:(AC !=0)=true:=by rw[bne_iff_ne];exact e2
   have cR2:=Zh (cR0.out e2)
   replace e2:=Zh e2
   have mk9:Unit:=()
   go_wp2_with(first|go_skip|(refine lG 0 HM uS.out ?_)|(refine lG 1 HM uS.out ?_)|(refine lG 4 HM uY.out ?_)|(go_at_call 88;clear mk9;refine hFs.k HM hF (cR2.out _ HM.out.below) ?_;clear HM hF;intro w3 HM hF;dsimp only)|(refine hFs.s 3 HM hF ?_;clear HM hF;intro w4 HM hF;simp only[List.set]at HM)|(refine hFs.s 2 HM hF ?_;clear HM hF;intro w4 HM hF;simp only[List.set]at HM)|fail)
   try simp only[Exit.inBlock,Exit.then]
   refine bodyPost_ret (results_cctt rfl (HM.out.at_ 3 rfl) (HM.out.at_ 2 rfl) rfl rfl _ uE.out rfl (by exact zend) _ uE.out rfl (by exact zend)) rfl ?_
   exact hPb.out _ _ hC.out e2.out HM.out.below
  have cR2:=Zh (cR1.out e2)
  subst e2
  clear cR0 cR1
  have mk9:Unit:=()
  go_upto_region 6 with(first|go_skip|(refine lG 0 HM uS.out ?_)|(refine lG 1 HM uS.out ?_)|(refine lG 4 HM uY.out ?_)|(go_at_call 88;clear mk9;refine(cR2.out _ HM.out.below).mono ?_;rintro r w3 ⟨gx,d,v,rfl,hM7,hD⟩;have hb_:=hM7.below;have hge:=hM7.ge _ (List.mem_cons_self ..);replace HM:=Zh (HM.out.add hb_ (hM7.at_ 0 rfl) hge);replace hF:=hFs.z hF hb_;clear hM7 hb_ hge;replace hD:=Zh hD;dsimp only)|fail)
  obtain⟨F9,hFs2,hF2,hU,hNw⟩:=stb_add hFs hF (Stb.runD _ _ _ _ _ _ _ _ _ _ _ d v) hD.out
  clear hFs hF hU hD
  have gD:=Zh hNw
  clear hNw
  have hFs:=hFs2
  have hF:=hF2
  clear hFs2 hF2
  go_upto_region 8 with fail
  replace hF:=Zh (hFs.keep hF.out ((Below.refl _ _).drew))
  replace HM:=Zh (HM.out.keep ((Below.refl _ _).drew))
  have HMs:=Zh HM.out
  replace HMs:=Zh (HMs.out.less 4)
  replace HMs:=Zh (HMs.out.less 3)
  simp only[List.eraseIdx]at HMs
  refine wp_region_plan (fun w'=>Mem _ w' _) 16 [(0,true),(1,true),(2,true),(3,true),(4,true),(5,true),(6,true),(7,true),(8,true),(9,true),(10,true),(11,true),(12,true),(13,true),(14,false),(15,false)] (by kernel_rfl) (by kernel_rfl) HMs.out ?_
  generalize World.drew _=wd at*
  repeat(first|(refine plPure rfl rfl (by intro w_ hSw;go_simp;first|done|exact rfl) ?_;try go_frame))
  refine plTakeL (by rfl) (yields_mem (by rfl) _ _ (by rfl) 0 (fun w_ hSw=>hSw) (by rfl) _ (by rfl) (endA d.a v.a) (by kernel_rfl) _ uE.out (by rfl) (by exact zend)) ?_
  try go_frame
  repeat(first|(refine plPure rfl rfl (by intro w_ hSw;go_simp;first|done|exact rfl) ?_;try go_frame))
  refine plTakeL (by rfl) (yields_mem (by rfl) _ _ (by rfl) 0 (fun w_ hSw=>hSw) (by rfl) _ (by rfl) (endA d.b v.b) (by kernel_rfl) _ uE.out (by rfl) (by exact zend)) ?_
  try go_frame
  repeat(first|(refine plPure rfl rfl (by intro w_ hSw;go_simp;first|done|exact rfl) ?_;try go_frame))
  refine plTakeL (by rfl) (yields_memc rfl _ _ rfl 0 (fun w_ hSw=>hSw) rfl 81 rfl (.int .i64 d.code) (by rfl) _ Tryz.underlying3 (by rfl)) ?_
  try go_frame
  repeat(first|(refine plPure rfl rfl (by intro w_ hSw;go_simp;first|done|exact rfl) ?_;try go_frame))
  clear HMs
  refine plStepL rfl rfl fun K hK=> ?_
  go_wp2_with(first|(refine hFs.s 4 HM hF ?_;clear HM hF;intro w4 HM hF;simp only[List.set]at HM)|fail)
  refine hK.out _ _ ((HM.out.less 4).less 3) fun hS_=> ?_
  clear hK K hS_
  try go_frame
  repeat(first|(refine plPure rfl rfl (by intro w_ hSw;go_simp;first|done|exact rfl) ?_;try go_frame))
  refine plStepL rfl rfl fun K hK=> ?_
  go_wp2_with(first|(refine hFs.s 3 HM hF ?_;clear HM hF;intro w4 HM hF;simp only[List.set]at HM)|fail)
  refine hK.out _ _ ((HM.out.less 4).less 3) fun hS_=> ?_
  clear hK K hS_
  try go_frame
  repeat(first|(refine plPure rfl rfl (by intro w_ hSw;go_simp;first|done|exact rfl) ?_;try go_frame))
  refine plDone ?_
  simp only[List.drop]
  go_wp2_with fail
  try simp only[Exit.inBlock,Exit.then]
  refine bodyPost_ret (results_cctt rfl (HM.out.at_ 4 rfl) (HM.out.at_ 3 rfl) rfl rfl _ uE.out rfl (by exact zend) _ uE.out rfl (by exact zend)) rfl ?_
  exact hPo.out d v _ hC.out (gD.out _ hF.out) HM.out.below
end Tx
end Go.Proofs.YtfamifgchgolpaaGreat
