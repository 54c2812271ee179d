/- Chapter 27: Play: the reference's. -/
import Derived.Test.YtfamifgchgolpaaGreatCt
import Derived.Test.YtfamifgchgolpaaGreatEp
import Derived.Test.YtfamifgchgolpaaGreatVy
set_option linter.unusedVariables false
set_option linter.unusedSimpArgs false
set_option maxRecDepth 100000
set_option maxHeartbeats 16000000
namespace Go.Proofs.YtfamifgchgolpaaGreat
open Go Go.RowKit Go.Sort Go.Shelf Go.Maps
namespace Tx
open Sw Mm Pl
def RPlPost(E1 E2:Ed)(out:List Bool)(err:Int)(w:World)(r:Ending)(w':World):Prop:=∃v1 v2 A n c,r= .returned (.tuple #[.agg (endA E1 v1),.agg (endA E2 v2),.slice A n c,.int .i64 err])∧EdW w v1 E1 w'∧EdW w v2 E2 w'∧(∃b,w'.ownsRow b 4 1 (.slice A n c) n (out.flatMap boolE))∧out.length=n∧Below w.heap.size w w'
theorem OwnC.w {w w':World} {vb v:EdV} {b e:Ed}(h:OwnC vb b v e w')(hb:EdW w vb b w'):EdW w v e w':=h.elim .inl (fun⟨h1,h2⟩=>by rw[h1,h2];exact hb)
theorem exN_run {a b:Ed} {ta tb:Tab} {f:List Int} {kind count:Int} {x:Fate}(h:Idle a b ta tb):exC a b ta tb f kind count=askC a ta f kind count 0∧(askC a ta f kind count 0=0→exN a b ta tb f kind count x=runN a b ta tb f kind count x):=by
 have h1:exC a b ta tb f kind count=askC a ta f kind count 0:=by unfold exC;rw[if_neg (by rw[idleC_iff.2 h];simp)]
 exact⟨h1,fun h0=>by unfold exN;rw[if_pos (h1.trans h0)]⟩
theorem rplay_any(a b:Ed)(ta tb:Tab)(f:List Int)(l:List Wsh)(va vb:EdV)(vta vtb:TabV)(A Al:Option Addr)(nf cf n cl:Nat)(w:World)(h1:EdIs w va a)(h2:EdIs w vb b)(t1:TabIs w vta ta)(t2:TabIs w vtb tb)(hf:IntS w A nf f)(hl:WshS w Al n l)(hsmall:idleC a b ta tb=0→Small2 ta∧Small2 tb):Calls Tryz.prog 27 #[.agg (endA a va),.agg (endA b vb),.agg (tabA ta vta),.agg (tabA tb vtb),.slice A nf cf,.slice Al n cl] w (RPlPost (playE a b ta tb f l).1 (playE a b ta tb f l).2 (playB a b ta tb f l) (playC a b ta tb l) w):=by
 have HM:=Zh (Mem.start w)
 obtain⟨F0,hFs,hF⟩:∃F:World→Prop,Stb F∧Hid (F w):=⟨_,Stb.true,trivial⟩
 have uE:=Tryz.underlying32
 have uT:=Tryz.underlying37
 have uM:=Tryz.underlying30
 have uY:=Tryz.underlying40
 have uW:=Tryz.underlying42
 have hlen:=hl.len
 have hsm:=hl.small
 unfold maxLen at hsm
 have hC:playC a b ta tb l=if idleC a b ta tb≠0 then idleC a b ta tb else if 4096<l.length then 8 else 0:=rfl
 rw[hlen]at hC
 have hId:idleC a b ta tb=if idleB a b ta tb=false then 1 else if a.opn=true∨b.opn=true then 12 else 0:=rfl
 have cP:=fun W (hb:Below w.heap.size w W)=>pairR_any a b ta tb va vb vta vtb W (h1.keep hb) (h2.keep hb) (t1.keep hb) (t2.keep hb)
 generalize hP:RPlPost (playE a b ta tb f l).1 (playE a b ta tb f l).2 (playB a b ta tb f l) (playC a b ta tb l) w=P
 have hPb:∀c W,playC a b ta tb l=c→c≠0→Below w.heap.size w W→P (.returned (.tuple #[.agg #[.int .i64 0,.int .i64 0,.int .i64 0,.slice none 0 0,.bool false,.int .i64 0,.int .i64 0,.bool false,.int .i64 0,.int .i64 0,.int .i64 0,.slice none 0 0,.slice none 0 0,.bool false,.int .i64 0,.bool false,.int .i64 0,.int .i64 0,.int .i64 0,.slice none 0 0,.slice none 0 0,.int .i64 0,.bool false,.int .i64 0,.int .i64 0,.int .i64 0,.slice none 0 0,.slice none 0 0],.agg #[.int .i64 0,.int .i64 0,.int .i64 0,.slice none 0 0,.bool false,.int .i64 0,.int .i64 0,.bool false,.int .i64 0,.int .i64 0,.int .i64 0,.slice none 0 0,.slice none 0 0,.bool false,.int .i64 0,.bool false,.int .i64 0,.int .i64 0,.int .i64 0,.slice none 0 0,.slice none 0 0,.int .i64 0,.bool false,.int .i64 0,.int .i64 0,.int .i64 0,.slice none 0 0,.slice none 0 0],.slice none 0 0,.int .i64 c])) W:=fun c W e hc hb=>by
  rw[←hP,show playE a b ta tb f l=(ed0,ed0)from by unfold playE;rw[if_neg (by rw[e];exact hc)],show playB a b ta tb f l= []from by unfold playB;rw[if_neg (by rw[e];exact hc)],e]
  exact⟨edV0,edV0,none,0,0,rfl,.inl (EdOwn.zero _),.inl (EdOwn.zero _),⟨0,World.ownsRow_nil _ _ _ _⟩,rfl,hb⟩
 have hPo:∀x y vx vy A9 n9 c9 b9 bs W,playC a b ta tb l=0→wishesN ta tb f l a b=(x,y)→boolsN ta tb f l a b=bs→EdW w vx x W→EdW w vy y W→W.ownsRow b9 4 1 (.slice A9 n9 c9) n9 (bs.flatMap boolE)→bs.length=n9→Below w.heap.size w W→P (.returned (.tuple #[.agg (endA x vx),.agg (endA y vy),.slice A9 n9 c9,.int .i64 0])) W:=fun x y vx vy A9 n9 c9 b9 bs W e e1 e2 q1 q2 q3 q4 hb=>by
  rw[←hP,show playE a b ta tb f l=(x,y)from by unfold playE;rw[if_pos e,e1],show playB a b ta tb f l=bs from by unfold playB;rw[if_pos e,e2],e]
  exact⟨vx,vy,A9,n9,c9,rfl,q1,q2,⟨b9,q3⟩,q4,hb⟩
 clear hP
 have hIx:idleC a b ta tb=0→∀k x y,wishesN ta tb f (l.take k) a b=(x,y)→Idle x y ta tb:=fun h k x y e=>by
  obtain⟨q1,q2⟩:=hsmall h
  have hI:=(wishes_keep (f:=f) q1 q2 (l.take k) (idleC_iff.1 h)).1
  rw[e]at hI
  exact hI
 clear hsmall
 generalize playC a b ta tb l=XC at*
 generalize idleC a b ta tb=IC at*
 generalize idleB a b ta tb=B1 at*
 replace cP:=Zh cP
 replace hC:=Zh hC
 replace hId:=Zh hId
 replace hPb:=Zh hPb
 replace hPo:=Zh hPo
 replace hIx:=Zh hIx
 replace h1:=Zh h1
 replace h2:=Zh h2
 replace t1:=Zh t1
 replace t2:=Zh t2
 replace hf:=Zh hf
 replace hl:=Zh hl
 replace hlen:=Zh hlen
 replace uE:=Zh uE
 replace uT:=Zh uT
 replace uM:=Zh uM
 replace uY:=Zh uY
 replace uW:=Zh uW
 go_enter Tryz.func27,Tryz.ntmps27
 have mk1:Unit:=()
 have mk2:Unit:=()
 have mk3:Unit:=()
 have mk4:Unit:=()
 have mk5:Unit:=()
 have mk6:Unit:=()
 go_upto_region 1 with(first|go_skip|(clear mk1;refine hFs.b HM hF 32 ?_;clear HM hF;intro ga w1 HM hF)|(clear mk2;refine hFs.b HM hF 32 ?_;clear HM hF;intro gb w1 HM hF)|(clear mk3;refine hFs.b HM hF 37 ?_;clear HM hF;intro gta w1 HM hF)|(clear mk4;refine hFs.b HM hF 37 ?_;clear HM hF;intro gtb w1 HM hF)|(clear mk5;refine hFs.a HM hF edInfo ?_;clear HM hF;intro g12 w1 HM hF)|(clear mk6;refine hFs.a HM hF edInfo ?_;clear HM hF;intro g13 w1 HM hF)|fail)
 cases B1
 case false=>
  have hI1:IC=1:=by rw[hId.out];rfl
  have hX1:=Zh (hC.out.trans (by rw[hI1,if_pos (by decide)]))
  clear hI1
  have mk7:Unit:=()
  go_wp2_with(first|go_skip|(refine lG 5 HM uE.out ?_)|(refine lG 4 HM uE.out ?_)|(refine lG 3 HM uT.out ?_)|(refine lG 2 HM uT.out ?_)|(go_at_call 89;clear mk7;refine hFs.k HM hF (cP.out _ HM.out.below) ?_;clear HM hF;intro w3 HM hF;dsimp only)|(refine hFs.s 1 HM hF ?_;clear HM hF;intro w4 HM hF;simp only[List.set]at HM)|(refine hFs.s 0 HM hF ?_;clear HM hF;intro w4 HM hF;simp only[List.set]at HM)|fail)
  try simp only[Exit.inBlock,Exit.then]
  refine bodyPost_ret (results_cctt rfl (HM.out.at_ 1 rfl) (HM.out.at_ 0 rfl) rfl rfl _ uE.out rfl (by exact zend) _ uE.out rfl (by exact zend)) rfl ?_
  exact hPb.out 1 _ hX1.out (by decide) HM.out.below
 have mk7:Unit:=()
 go_upto_region 3 with(first|go_skip|(refine lG 5 HM uE.out ?_)|(refine lG 4 HM uE.out ?_)|(refine lG 3 HM uT.out ?_)|(refine lG 2 HM uT.out ?_)|(go_at_call 89;clear mk7;refine hFs.k HM hF (cP.out _ HM.out.below) ?_;clear HM hF;intro w3 HM hF;dsimp only)|fail)
 have p4:=Zc HM 5 4 (.bool a.opn)
 have q4:=Zc HM 4 4 (.bool b.opn)
 cases oa:a.opn
 case true=>
  rw[oa]at p4
  have hI1:IC=12:=by rw[hId.out,if_neg (by decide),if_pos (by simp[oa])]
  have hX1:=Zh (hC.out.trans (by rw[hI1,if_pos (by decide)]))
  clear hI1 hId hC
  go_wp2_with(first|go_skip|(refine hFs.s 1 HM hF ?_;clear HM hF p4 q4;intro w4 HM hF;simp only[List.set]at HM)|(refine hFs.s 0 HM hF ?_;clear HM hF;intro w4 HM hF;simp only[List.set]at HM)|fail)
  try simp only[Exit.inBlock,Exit.then]
  refine bodyPost_ret (results_cctt rfl (HM.out.at_ 1 rfl) (HM.out.at_ 0 rfl) rfl rfl _ uE.out rfl (by exact zend) _ uE.out rfl (by exact zend)) rfl ?_
  exact hPb.out 12 _ hX1.out (by decide) HM.out.below
 rw[oa]at p4
 cases ob:b.opn
 case true=>
  rw[ob]at q4
  have hI1:IC=12:=by rw[hId.out,if_neg (by decide),if_pos (by simp[ob])]
  have hX1:=Zh (hC.out.trans (by rw[hI1,if_pos (by decide)]))
  clear hI1 hId hC
  go_wp2_with(first|go_skip|(refine hFs.s 1 HM hF ?_;clear HM hF p4 q4;intro w4 HM hF;simp only[List.set]at HM)|(refine hFs.s 0 HM hF ?_;clear HM hF;intro w4 HM hF;simp only[List.set]at HM)|fail)
  try simp only[Exit.inBlock,Exit.then]
  refine bodyPost_ret (results_cctt rfl (HM.out.at_ 1 rfl) (HM.out.at_ 0 rfl) rfl rfl _ uE.out rfl (by exact zend) _ uE.out rfl (by exact zend)) rfl ?_
  exact hPb.out 12 _ hX1.out (by decide) HM.out.below
 rw[ob]at q4
 have hI1:IC=0:=by rw[hId.out,if_neg (by decide),if_neg (by simp[oa,ob])]
 subst hI1
 replace hC:=Zh (hC.out.trans (if_neg (fun h=>h rfl)))
 replace hIx:=Zh (hIx.out rfl)
 clear hId cP
 go_upto_region 5 with fail
 clear p4 q4
 by_cases e2:(4096:Int)<(n:Int)
 case pos=>
  have hX1:=Zh (hC.out.trans (if_pos (by omega)))
  have e3:4096<n:=by omega
  go_wp2_with(first|go_skip|(refine hFs.s 1 HM hF ?_;clear HM hF;intro w4 HM hF;simp only[List.set]at HM)|(refine hFs.s 0 HM hF ?_;clear HM hF;intro w4 HM hF;simp only[List.set]at HM)|fail)
  try simp only[Exit.inBlock,Exit.then]
  refine bodyPost_ret (results_cctt rfl (HM.out.at_ 1 rfl) (HM.out.at_ 0 rfl) rfl rfl _ uE.out rfl (by exact zend) _ uE.out rfl (by exact zend)) rfl ?_
  exact hPb.out 8 _ hX1.out (by decide) HM.out.below
 replace hC:=Zh (hC.out.trans (if_neg (by omega)))
 have e3:¬4096<n:=by omega
 have hn4:n≤4096:=by omega
 go_upto_region 9 with fail
 clear e3 e2
 have hn5:n≤4096:=hn4
 replace hn5:=Zh hn5
 clear hn4
 go_loopw[16,17,18,19,20,21,22,23,24,25,26] (fun o i _ _ _ _ _ _ _ _ _ wr=>Hid (∃(k:Nat) (a1 b1:Ed) (va1 vb1:EdV) (Ao:Option Addr) (co:Nat),k≤n∧i= .int .i64 k∧o= .slice Ao k co∧Hid (wishesN ta tb f (l.take k) a b=(a1,b1))∧Hid ((boolsN ta tb f (l.take k) a b).length=k)∧Hid (wr.ownsRow w.heap.size 4 1 (.slice Ao k co) k ((boolsN ta tb f (l.take k) a b).flatMap boolE))∧Hid (Mem w wr [(g13,#[.int .i64 0,.int .i64 0,.int .i64 0,.slice none 0 0,.bool false,.int .i64 0,.int .i64 0,.bool false,.int .i64 0,.int .i64 0,.int .i64 0,.slice none 0 0,.slice none 0 0,.bool false,.int .i64 0,.bool false,.int .i64 0,.int .i64 0,.int .i64 0,.slice none 0 0,.slice none 0 0,.int .i64 0,.bool false,.int .i64 0,.int .i64 0,.int .i64 0,.slice none 0 0,.slice none 0 0],32),(g12,#[.int .i64 0,.int .i64 0,.int .i64 0,.slice none 0 0,.bool false,.int .i64 0,.int .i64 0,.bool false,.int .i64 0,.int .i64 0,.int .i64 0,.slice none 0 0,.slice none 0 0,.bool false,.int .i64 0,.bool false,.int .i64 0,.int .i64 0,.int .i64 0,.slice none 0 0,.slice none 0 0,.int .i64 0,.bool false,.int .i64 0,.int .i64 0,.int .i64 0,.slice none 0 0,.slice none 0 0],32),(gtb,tabA tb vtb,37),(gta,tabA ta vta,37),(gb,endA b1 vb1,32),(ga,endA a1 va1,32)])∧Hid (EdW w va1 a1 wr)∧Hid (EdW w vb1 b1 wr))) (fun _ i _ _ _ _ _ _ _ _ _ _=>n-(intOf i).toNat)
 case atStart=>exact Zh ⟨0,a,b,va,vb,none,0,by omega,rfl,rfl,rfl,rfl,World.ownsRow_nil _ _ _ _,HM,.inr h1.out,.inr h2.out⟩
 case round=>
  clear HM hF hFs
  obtain⟨k,a1,b1,va1,vb1,Ao,co,hk,rfl,rfl,hW,hBl,HO,HM,hA1,hB1⟩:=hrel.out
  clear hrel
  obtain⟨F0,hFs,hF,gA,gB⟩:∃F:World→Prop,Stb F∧Hid (F wr)∧Hid (∀W,F W→EdW w va1 a1 W)∧Hid (∀W,F W→EdW w vb1 b1 W):=⟨_,(Stb.edW w va1 a1).and (Stb.edW w vb1 b1),⟨hA1.out,hB1.out⟩,fun _ h=>h.1,fun _ h=>h.2⟩
  clear hA1 hB1
  by_cases hlt:k<n
  ·have hkl:k<l.length:=by rw[hlen.out];exact hlt
   obtain⟨bq,off,rfl⟩:=hl.out.addr (by omega)
   have hrg:=Zh (fun(W:World) (hb:Below w.heap.size w W)=>wsh_range (hl.out.keep hb) hlt)
   have hId1:=hIx.out k _ _ hW.out
   have hW2:wishesN ta tb f (l.take (k+1)) a b=wishN ta tb f a1 b1 (l.getD k default):=by rw[take_wsh hkl,wishes_snoc,hW.out]
   have hB2:boolsN ta tb f (l.take (k+1)) a b=boolsN ta tb f (l.take k) a b++ [consB (wishesN ta tb f (l.take (k+1)) a b).1 (wishesN ta tb f (l.take (k+1)) a b).2]:=by rw[take_wsh hkl,bools_snoc]
   rw[hW2]at hB2
   generalize boolsN ta tb f (l.take k) a b=bs at*
   generalize l.getD k default=x at*
   clear hW hkl
   have r1:(k:Int)<(n:Int):=by omega
   have r0:(0:Int)≤(k:Int):=by omega
   obtain⟨xo,xk,xc,xf⟩:=x
   replace hW2:=Zh hW2
   replace hB2:=Zh hB2
   replace hId1:=Zh hId1
   have mk8:Unit:=()
   go_upto_region 12 with(first|go_skip|(refine wpList_load_mid rfl 42 _ rfl bq (off+k*7) rfl (wshE ⟨xo,xk,xc,xf⟩) _ (hrg.out _ HM.out.below) uW.out rfl (by exact zws) ?_)|(clear mk8;refine aN HM wsInfo ?_;clear HM;intro g18 w1 HM hG hN9;replace hF:=hFs.y hF hG;replace HO:=Zh (owns_keep HO.out hG.out);clear hG hN9)|(refine sF 0 HM ?_;have hBq:=HM.out.at_ 0 rfl;clear HM;intro w4 HM hG4;simp only[List.set]at HM;replace hF:=hFs.p hF hBq hG4;replace HO:=Zh (HO.out.kept hG4.out (.inr (row_ne_blk HO.out hBq (by decide))));clear hBq hG4)|fail)
   clear hrg r1 r0
   have p0:=Zc HM 0 0 (.bool xo)
   cases xo
   case' false=>
    go_upto_region 16 with fail
    clear p0
    have cR:=fun W (hb:Below w.heap.size w W) (q1:EdIs W va1 a1) (q2:EdIs W vb1 b1)=>rexch_any a1 b1 ta tb f xk xc xf va1 vb1 vta vtb A nf cf W q1 q2 (t1.out.keep hb) (t2.out.keep hb) (hf.out.keep hb)
    unfold RExPost at cR
    obtain⟨hx1,hx2⟩:=exN_run (f:=f) (kind:=xk) (count:=xc) (x:=xf) hId1.out
    have hwn:wishN ta tb f a1 b1 ⟨false,xk,xc,xf⟩=if askC a1 ta f xk xc 0=0 then((runN a1 b1 ta tb f xk xc xf).1,(runN a1 b1 ta tb f xk xc xf).2.1)else(a1,b1):=rfl
    rw[hx1]at cR
    generalize exN a1 b1 ta tb f xk xc xf=XN at*
    generalize runN a1 b1 ta tb f xk xc xf=RN at*
    generalize askC a1 ta f xk xc 0=AC at*
    obtain⟨E1,E2,cd⟩:=XN
    dsimp only at cR
    clear hx1
    replace cR:=Zh cR
    replace hwn:=Zh hwn
    replace hx2:=Zh hx2
    have p1:=Zc HM 0 1 (.int .i64 xk)
    have p2:=Zc HM 0 2 (.int .i64 xc)
    have mk9:Unit:=()
    have mk10:Unit:=()
    have mk11:Unit:=()
    go_upto_region 17 with(first|go_skip|(refine lG 6 HM uE.out ?_)|(refine lG 5 HM uE.out ?_)|(refine lG 4 HM uT.out ?_)|(refine lG 3 HM uT.out ?_)|(refine lP 0 HM 3 (#[.bool xf.request,.bool xf.reply,.bool xf.requestAck,.bool xf.replyAck]) uY.out ?_)|(go_at_call 25;clear mk9;refine(cR.out _ HM.out.below ((gA.out _ hF.out).is HM.out.below) ((gB.out _ hF.out).is HM.out.below)).mono ?_;rintro r w3 ⟨v1,v2,rfl,hE5,hO5,hb_⟩;clear p1 p2;replace HM:=Zm HM hb_;replace hF:=hFs.z hF hb_;replace HO:=Zh (owns_keep HO.out hb_);clear hb_;refine sA hFs hF (Stb.ed v1 _) hE5 ?_;clear hFs hF hE5;intro F1 hFs hF hU gX;replace gA:=Zu gA hU;replace gB:=Zu gB hU;clear hU;refine sA hFs hF (Stb.ownC _ _ v2 _) hO5 ?_;clear hFs hF hO5;intro F2 hFs hF hU gY;replace gA:=Zu gA hU;replace gB:=Zu gB hU;replace gX:=Zu gX hU;clear hU;dsimp only)|(clear mk10;refine aN HM edInfo ?_;clear HM;intro g23 w1 HM hG hN9;replace hF:=hFs.y hF hG;replace HO:=Zh (owns_keep HO.out hG.out);clear hG hN9)|(clear mk11;refine aN HM edInfo ?_;clear HM;intro g24 w1 HM hG hN9;replace hF:=hFs.y hF hG;replace HO:=Zh (owns_keep HO.out hG.out);clear hG hN9)|(refine sF 1 HM ?_;have hBq:=HM.out.at_ 1 rfl;clear HM;intro w4 HM hG4;simp only[List.set]at HM;replace hF:=hFs.p hF hBq hG4;replace HO:=Zh (HO.out.kept hG4.out (.inr (row_ne_blk HO.out hBq (by decide))));clear hBq hG4)|(refine sF 0 HM ?_;have hBq:=HM.out.at_ 0 rfl;clear HM;intro w4 HM hG4;simp only[List.set]at HM;replace hF:=hFs.p hF hBq hG4;replace HO:=Zh (HO.out.kept hG4.out (.inr (row_ne_blk HO.out hBq (by decide))));clear hBq hG4)|fail)
    by_cases e5:AC=0
    case' neg=>
     have d5:(AC==0)=false:=by rw[beq_eq_false_iff_ne];exact e5
     have hh1:=Zh (hwn.out.trans (if_neg e5))
     replace e5:=Zh e5
     go_upto_region 19 with fail
     obtain⟨a2,b2,va2,vb2,hF1,HM1,hw1⟩:∃(a2 b2:Ed) (va2 vb2:EdV),Hid (EdW w va2 a2 _∧EdW w vb2 b2 _)∧Hid (Mem w _ [(g13,#[.int .i64 0,.int .i64 0,.int .i64 0,.slice none 0 0,.bool false,.int .i64 0,.int .i64 0,.bool false,.int .i64 0,.int .i64 0,.int .i64 0,.slice none 0 0,.slice none 0 0,.bool false,.int .i64 0,.bool false,.int .i64 0,.int .i64 0,.int .i64 0,.slice none 0 0,.slice none 0 0,.int .i64 0,.bool false,.int .i64 0,.int .i64 0,.int .i64 0,.slice none 0 0,.slice none 0 0],32),(g12,#[.int .i64 0,.int .i64 0,.int .i64 0,.slice none 0 0,.bool false,.int .i64 0,.int .i64 0,.bool false,.int .i64 0,.int .i64 0,.int .i64 0,.slice none 0 0,.slice none 0 0,.bool false,.int .i64 0,.bool false,.int .i64 0,.int .i64 0,.int .i64 0,.slice none 0 0,.slice none 0 0,.int .i64 0,.bool false,.int .i64 0,.int .i64 0,.int .i64 0,.slice none 0 0,.slice none 0 0],32),(gtb,tabA tb vtb,37),(gta,tabA ta vta,37),(gb,endA b2 vb2,32),(ga,endA a2 va2,32)])∧Hid (wishN ta tb f a1 b1 ⟨false,xk,xc,xf⟩=(a2,b2)):=⟨a1,b1,va1,vb1,⟨gA.out _ hF.out,gB.out _ hF.out⟩,HM.out.sub (by repeat(first|exact List.Sublist.refl _|apply List.Sublist.cons_cons|apply List.Sublist.cons)),hh1.out⟩
     clear hh1 e5 d5 cR HM
    case' pos=>
     have d5:(AC==0)=true:=by rw[beq_iff_eq];exact e5
     have hh1:Hid (wishN ta tb f a1 b1 ⟨false,xk,xc,xf⟩=(E1,E2)):=Zh (by rw[hwn.out,if_pos e5,←hx2.out e5])
     replace e5:=Zh e5
     clear hwn hx2
     go_upto_region 18 with fail
     replace hF:=Zh (hFs.keep hF.out ((Below.refl _ _).drew))
     replace HM:=Zh (HM.out.keep ((Below.refl _ _).drew))
     replace HO:=Zh (owns_keep HO.out ((Below.refl _ _).drew))
     have HMs:=Zh HM.out
     replace HMs:=Zh (HMs.out.less 8)
     replace HMs:=Zh (HMs.out.less 7)
     simp only[List.eraseIdx]at HMs
     refine wp_region_plan (fun w'=>Mem _ w' _) 3 [(0,true),(1,true),(2,false)] (by kernel_rfl) (by kernel_rfl) HMs.out ?_
     generalize World.drew _=wd at*
     refine plTakeL (by rfl) (yields_memw rfl _ _ rfl 1 (fun w_ hSw=>hSw) rfl rfl _ uE.out rfl (by exact zend)) ?_
     try go_frame
     refine plTakeL (by rfl) (yields_memw rfl _ _ rfl 0 (fun w_ hSw=>hSw) rfl rfl _ uE.out rfl (by exact zend)) ?_
     try go_frame
     clear HMs
     refine plStepL rfl rfl fun K hK=> ?_
     go_wp2_with(first|(refine sF 8 HM ?_;have hBq:=HM.out.at_ 8 rfl;clear HM;intro w4 HM hG4;simp only[List.set]at HM;replace hF:=hFs.p hF hBq hG4;replace HO:=Zh (HO.out.kept hG4.out (.inr (row_ne_blk HO.out hBq (by decide))));clear hBq hG4)|fail)
     refine hK.out _ _ ((HM.out.less 8).less 7) fun hS_=> ?_
     clear hK K hS_
     try go_frame
     refine plDone ?_
     simp only[List.drop]
     go_upto_region 19 with(first|go_skip|(refine sF 7 HM ?_;have hBq:=HM.out.at_ 7 rfl;clear HM;intro w4 HM hG4;simp only[List.set]at HM;replace hF:=hFs.p hF hBq hG4;replace HO:=Zh (HO.out.kept hG4.out (.inr (row_ne_blk HO.out hBq (by decide))));clear hBq hG4)|fail)
     obtain⟨a2,b2,va2,vb2,hF1,HM1,hw1⟩:∃(a2 b2:Ed) (va2 vb2:EdV),Hid (EdW w va2 a2 _∧EdW w vb2 b2 _)∧Hid (Mem w _ [(g13,#[.int .i64 0,.int .i64 0,.int .i64 0,.slice none 0 0,.bool false,.int .i64 0,.int .i64 0,.bool false,.int .i64 0,.int .i64 0,.int .i64 0,.slice none 0 0,.slice none 0 0,.bool false,.int .i64 0,.bool false,.int .i64 0,.int .i64 0,.int .i64 0,.slice none 0 0,.slice none 0 0,.int .i64 0,.bool false,.int .i64 0,.int .i64 0,.int .i64 0,.slice none 0 0,.slice none 0 0],32),(g12,#[.int .i64 0,.int .i64 0,.int .i64 0,.slice none 0 0,.bool false,.int .i64 0,.int .i64 0,.bool false,.int .i64 0,.int .i64 0,.int .i64 0,.slice none 0 0,.slice none 0 0,.bool false,.int .i64 0,.bool false,.int .i64 0,.int .i64 0,.int .i64 0,.slice none 0 0,.slice none 0 0,.int .i64 0,.bool false,.int .i64 0,.int .i64 0,.int .i64 0,.slice none 0 0,.slice none 0 0],32),(gtb,tabA tb vtb,37),(gta,tabA ta vta,37),(gb,endA b2 vb2,32),(ga,endA a2 va2,32)])∧Hid (wishN ta tb f a1 b1 ⟨false,xk,xc,xf⟩=(a2,b2)):=⟨E1,E2,v1,v2,⟨(.inl (gX.out _ hF.out)),((gY.out _ hF.out).w (gB.out _ hF.out))⟩,HM.out.sub (by repeat(first|exact List.Sublist.refl _|apply List.Sublist.cons_cons|apply List.Sublist.cons)),hh1.out⟩
     clear hh1 e5 d5 cR HM
   case' true=>
    go_upto_region 13 with fail
    clear p0
    have cR:=fun W (hb:Below w.heap.size w W) (q1:EdIs W vb1 b1) (q2:EdIs W va1 a1)=>rexch_any b1 a1 tb ta f xk xc xf vb1 va1 vtb vta A nf cf W q1 q2 (t2.out.keep hb) (t1.out.keep hb) (hf.out.keep hb)
    unfold RExPost at cR
    obtain⟨hx1,hx2⟩:=exN_run (f:=f) (kind:=xk) (count:=xc) (x:=xf) hId1.out.swap
    have hwn:wishN ta tb f a1 b1 ⟨true,xk,xc,xf⟩=if askC b1 tb f xk xc 0=0 then((runN b1 a1 tb ta f xk xc xf).2.1,(runN b1 a1 tb ta f xk xc xf).1)else(a1,b1):=rfl
    rw[hx1]at cR
    generalize exN b1 a1 tb ta f xk xc xf=XN at*
    generalize runN b1 a1 tb ta f xk xc xf=RN at*
    generalize askC b1 tb f xk xc 0=AC at*
    obtain⟨E1,E2,cd⟩:=XN
    dsimp only at cR
    clear hx1
    replace cR:=Zh cR
    replace hwn:=Zh hwn
    replace hx2:=Zh hx2
    have p1:=Zc HM 0 1 (.int .i64 xk)
    have p2:=Zc HM 0 2 (.int .i64 xc)
    have mk9:Unit:=()
    have mk10:Unit:=()
    have mk11:Unit:=()
    go_upto_region 14 with(first|go_skip|(refine lG 5 HM uE.out ?_)|(refine lG 6 HM uE.out ?_)|(refine lG 3 HM uT.out ?_)|(refine lG 4 HM uT.out ?_)|(refine lP 0 HM 3 (#[.bool xf.request,.bool xf.reply,.bool xf.requestAck,.bool xf.replyAck]) uY.out ?_)|(go_at_call 25;clear mk9;refine(cR.out _ HM.out.below ((gB.out _ hF.out).is HM.out.below) ((gA.out _ hF.out).is HM.out.below)).mono ?_;rintro r w3 ⟨v1,v2,rfl,hE5,hO5,hb_⟩;clear p1 p2;replace HM:=Zm HM hb_;replace hF:=hFs.z hF hb_;replace HO:=Zh (owns_keep HO.out hb_);clear hb_;refine sA hFs hF (Stb.ed v1 _) hE5 ?_;clear hFs hF hE5;intro F1 hFs hF hU gX;replace gA:=Zu gA hU;replace gB:=Zu gB hU;clear hU;refine sA hFs hF (Stb.ownC _ _ v2 _) hO5 ?_;clear hFs hF hO5;intro F2 hFs hF hU gY;replace gA:=Zu gA hU;replace gB:=Zu gB hU;replace gX:=Zu gX hU;clear hU;dsimp only)|(clear mk10;refine aN HM edInfo ?_;clear HM;intro g19 w1 HM hG hN9;replace hF:=hFs.y hF hG;replace HO:=Zh (owns_keep HO.out hG.out);clear hG hN9)|(clear mk11;refine aN HM edInfo ?_;clear HM;intro g20 w1 HM hG hN9;replace hF:=hFs.y hF hG;replace HO:=Zh (owns_keep HO.out hG.out);clear hG hN9)|(refine sF 1 HM ?_;have hBq:=HM.out.at_ 1 rfl;clear HM;intro w4 HM hG4;simp only[List.set]at HM;replace hF:=hFs.p hF hBq hG4;replace HO:=Zh (HO.out.kept hG4.out (.inr (row_ne_blk HO.out hBq (by decide))));clear hBq hG4)|(refine sF 0 HM ?_;have hBq:=HM.out.at_ 0 rfl;clear HM;intro w4 HM hG4;simp only[List.set]at HM;replace hF:=hFs.p hF hBq hG4;replace HO:=Zh (HO.out.kept hG4.out (.inr (row_ne_blk HO.out hBq (by decide))));clear hBq hG4)|fail)
    by_cases e5:AC=0
    case' neg=>
     have d5:(AC==0)=false:=by rw[beq_eq_false_iff_ne];exact e5
     have hh1:=Zh (hwn.out.trans (if_neg e5))
     replace e5:=Zh e5
     go_upto_region 19 with fail
     obtain⟨a2,b2,va2,vb2,hF1,HM1,hw1⟩:∃(a2 b2:Ed) (va2 vb2:EdV),Hid (EdW w va2 a2 _∧EdW w vb2 b2 _)∧Hid (Mem w _ [(g13,#[.int .i64 0,.int .i64 0,.int .i64 0,.slice none 0 0,.bool false,.int .i64 0,.int .i64 0,.bool false,.int .i64 0,.int .i64 0,.int .i64 0,.slice none 0 0,.slice none 0 0,.bool false,.int .i64 0,.bool false,.int .i64 0,.int .i64 0,.int .i64 0,.slice none 0 0,.slice none 0 0,.int .i64 0,.bool false,.int .i64 0,.int .i64 0,.int .i64 0,.slice none 0 0,.slice none 0 0],32),(g12,#[.int .i64 0,.int .i64 0,.int .i64 0,.slice none 0 0,.bool false,.int .i64 0,.int .i64 0,.bool false,.int .i64 0,.int .i64 0,.int .i64 0,.slice none 0 0,.slice none 0 0,.bool false,.int .i64 0,.bool false,.int .i64 0,.int .i64 0,.int .i64 0,.slice none 0 0,.slice none 0 0,.int .i64 0,.bool false,.int .i64 0,.int .i64 0,.int .i64 0,.slice none 0 0,.slice none 0 0],32),(gtb,tabA tb vtb,37),(gta,tabA ta vta,37),(gb,endA b2 vb2,32),(ga,endA a2 va2,32)])∧Hid (wishN ta tb f a1 b1 ⟨true,xk,xc,xf⟩=(a2,b2)):=⟨a1,b1,va1,vb1,⟨gA.out _ hF.out,gB.out _ hF.out⟩,HM.out.sub (by repeat(first|exact List.Sublist.refl _|apply List.Sublist.cons_cons|apply List.Sublist.cons)),hh1.out⟩
     clear hh1 e5 d5 cR HM
    case' pos=>
     have d5:(AC==0)=true:=by rw[beq_iff_eq];exact e5
     have hh1:Hid (wishN ta tb f a1 b1 ⟨true,xk,xc,xf⟩=(E2,E1)):=Zh (by rw[hwn.out,if_pos e5,←hx2.out e5])
     replace e5:=Zh e5
     clear hwn hx2
     go_upto_region 15 with fail
     replace hF:=Zh (hFs.keep hF.out ((Below.refl _ _).drew))
     replace HM:=Zh (HM.out.keep ((Below.refl _ _).drew))
     replace HO:=Zh (owns_keep HO.out ((Below.refl _ _).drew))
     have HMs:=Zh HM.out
     replace HMs:=Zh (HMs.out.less 8)
     replace HMs:=Zh (HMs.out.less 7)
     simp only[List.eraseIdx]at HMs
     refine wp_region_plan (fun w'=>Mem _ w' _) 3 [(0,true),(1,true),(2,false)] (by kernel_rfl) (by kernel_rfl) HMs.out ?_
     generalize World.drew _=wd at*
     refine plTakeL (by rfl) (yields_memw rfl _ _ rfl 0 (fun w_ hSw=>hSw) rfl rfl _ uE.out rfl (by exact zend)) ?_
     try go_frame
     refine plTakeL (by rfl) (yields_memw rfl _ _ rfl 1 (fun w_ hSw=>hSw) rfl rfl _ uE.out rfl (by exact zend)) ?_
     try go_frame
     clear HMs
     refine plStepL rfl rfl fun K hK=> ?_
     go_wp2_with(first|(refine sF 8 HM ?_;have hBq:=HM.out.at_ 8 rfl;clear HM;intro w4 HM hG4;simp only[List.set]at HM;replace hF:=hFs.p hF hBq hG4;replace HO:=Zh (HO.out.kept hG4.out (.inr (row_ne_blk HO.out hBq (by decide))));clear hBq hG4)|fail)
     refine hK.out _ _ ((HM.out.less 8).less 7) fun hS_=> ?_
     clear hK K hS_
     try go_frame
     refine plDone ?_
     simp only[List.drop]
     go_upto_region 19 with(first|go_skip|(refine sF 7 HM ?_;have hBq:=HM.out.at_ 7 rfl;clear HM;intro w4 HM hG4;simp only[List.set]at HM;replace hF:=hFs.p hF hBq hG4;replace HO:=Zh (HO.out.kept hG4.out (.inr (row_ne_blk HO.out hBq (by decide))));clear hBq hG4)|fail)
     obtain⟨a2,b2,va2,vb2,hF1,HM1,hw1⟩:∃(a2 b2:Ed) (va2 vb2:EdV),Hid (EdW w va2 a2 _∧EdW w vb2 b2 _)∧Hid (Mem w _ [(g13,#[.int .i64 0,.int .i64 0,.int .i64 0,.slice none 0 0,.bool false,.int .i64 0,.int .i64 0,.bool false,.int .i64 0,.int .i64 0,.int .i64 0,.slice none 0 0,.slice none 0 0,.bool false,.int .i64 0,.bool false,.int .i64 0,.int .i64 0,.int .i64 0,.slice none 0 0,.slice none 0 0,.int .i64 0,.bool false,.int .i64 0,.int .i64 0,.int .i64 0,.slice none 0 0,.slice none 0 0],32),(g12,#[.int .i64 0,.int .i64 0,.int .i64 0,.slice none 0 0,.bool false,.int .i64 0,.int .i64 0,.bool false,.int .i64 0,.int .i64 0,.int .i64 0,.slice none 0 0,.slice none 0 0,.bool false,.int .i64 0,.bool false,.int .i64 0,.int .i64 0,.int .i64 0,.slice none 0 0,.slice none 0 0,.int .i64 0,.bool false,.int .i64 0,.int .i64 0,.int .i64 0,.slice none 0 0,.slice none 0 0],32),(gtb,tabA tb vtb,37),(gta,tabA ta vta,37),(gb,endA b2 vb2,32),(ga,endA a2 va2,32)])∧Hid (wishN ta tb f a1 b1 ⟨true,xk,xc,xf⟩=(a2,b2)):=⟨E2,E1,v2,v1,⟨((gY.out _ hF.out).w (gA.out _ hF.out)),(.inl (gX.out _ hF.out))⟩,HM.out.sub (by repeat(first|exact List.Sublist.refl _|apply List.Sublist.cons_cons|apply List.Sublist.cons)),hh1.out⟩
     clear hh1 e5 d5 cR HM
   all_goals
    have hbs:=Zh (hB2.out.trans (by rw[hw1.out]))
    have hws:=Zh (hW2.out.trans hw1.out)
    clear hB2 hW2 hw1
    try clear gX gY
    clear hF hFs gA gB
    obtain⟨F9,hFs,hF,gA,gB⟩:∃F:World→Prop,Stb F∧Hid (F _)∧Hid (∀W,F W→EdW w va2 a2 W)∧Hid (∀W,F W→EdW w vb2 b2 W):=⟨_,(Stb.edW w va2 a2).and (Stb.edW w vb2 b2),hF1.out,fun _ h=>h.1,fun _ h=>h.2⟩
    have HM:=HM1
    clear HM1 hF1
    have cC:=fun W (hb:Below w.heap.size w W) (q1:EdW w va2 a2 W) (q2:EdW w vb2 b2 W)=>consR_any a2 b2 va2 vb2 W (q1.is hb) (q2.is hb)
    dsimp only at hbs
    generalize consB a2 b2=cb at*
    replace cC:=Zh cC
    have mk9:Unit:=()
    go_wp2_with(first|go_skip|(refine lG 5 HM uE.out ?_)|(refine lG 4 HM uE.out ?_)|(go_at_call 94;clear mk9;refine(cC.out _ HM.out.below (gA.out _ hF.out) (gB.out _ hF.out)).mono ?_;rintro r w3 ⟨rfl,hb_⟩;replace HM:=Zm HM hb_;replace hF:=hFs.z hF hb_;replace HO:=Zh (owns_keep HO.out hb_);clear hb_;dsimp only)|(at_builtin;refine wpList_append_sls eltB _ rfl _ _ rfl w.heap.size (.slice Ao k co) bs rfl (by rw[hBl.out];exact HO.out.alloc _) _ 1 1 [cb] rfl (Sls.one (t:=4) (Blk.new _ _ _)) (by rw[hBl.out];have:=hn5.out;omega) (by exact(ballN HM.out.below _).size) ?_;intro v9 w7 HO1 HG1 _;rw[List.length_append,hBl.out,List.length_singleton]at HO1;obtain⟨A6,c6,rfl⟩:=own_slice HO1;have HR:=HO.out.alloc (.cells #[.bool cb] 4);replace HM:=Zh ((HM.out.keep (ball _ _)).row HR HG1 (Nat.le_refl _) (apart_of rfl));replace hF:=Zh (hFs.row (hFs.keep hF.out (ball _ _)) HR (by decide) (by decide) HG1);replace HO1:=Zh HO1;clear HR HG1 HO)|fail)
    rw[←hbs.out]at HO1
    exact⟨Zh ⟨k+1,a2,b2,va2,vb2,A6,c6,by omega,by go_num,rfl,hws,Zh (by rw[hbs.out,List.length_append,hBl.out];rfl),HO1,HM,gA.out _ hF.out,gB.out _ hF.out⟩,by simp[intOf];omega⟩
  ·obtain rfl:k=n:=by omega
   have htk:l.take k=l:=List.take_of_length_le (by rw[hlen.out];exact Nat.le_refl _)
   rw[htk]at hW hBl HO
   clear htk hlt hk
   go_upto_region 20 with fail
   replace hF:=Zh (hFs.keep hF.out ((Below.refl _ _).drew))
   replace HM:=Zh (HM.out.keep ((Below.refl _ _).drew))
   replace HO:=Zh (owns_keep HO.out ((Below.refl _ _).drew))
   have HMs:=Zh HM.out
   replace HMs:=Zh (HMs.out.less 1)
   replace HMs:=Zh (HMs.out.less 0)
   simp only[List.eraseIdx]at HMs
   refine wp_region_plan (fun w'=>Mem _ w' _) 5 [(0,true),(1,true),(2,true),(3,false),(4,false)] (by kernel_rfl) (by kernel_rfl) HMs.out ?_
   generalize World.drew _=wd at*
   repeat(first|(refine plPure rfl rfl (by intro w_ hSw;go_simp;first|done|exact rfl) ?_;try go_frame))
   refine plTakeL (by rfl) (yields_memw rfl _ _ rfl 3 (fun w_ hSw=>hSw) rfl rfl _ uE.out rfl (by exact zend)) ?_
   try go_frame
   repeat(first|(refine plPure rfl rfl (by intro w_ hSw;go_simp;first|done|exact rfl) ?_;try go_frame))
   refine plTakeL (by rfl) (yields_memw rfl _ _ rfl 2 (fun w_ hSw=>hSw) rfl rfl _ uE.out rfl (by exact zend)) ?_
   try go_frame
   repeat(first|(refine plPure rfl rfl (by intro w_ hSw;go_simp;first|done|exact rfl) ?_;try go_frame))
   clear HMs
   refine plStepL rfl rfl fun K hK=> ?_
   go_wp2_with(first|(refine sF 1 HM ?_;have hBq:=HM.out.at_ 1 rfl;clear HM;intro w4 HM hG4;simp only[List.set]at HM;replace hF:=hFs.p hF hBq hG4;replace HO:=Zh (HO.out.kept hG4.out (.inr (row_ne_blk HO.out hBq (by decide))));clear hBq hG4)|fail)
   refine hK.out _ _ ((HM.out.less 1).less 0) fun hS_=> ?_
   clear hK K hS_
   try go_frame
   repeat(first|(refine plPure rfl rfl (by intro w_ hSw;go_simp;first|done|exact rfl) ?_;try go_frame))
   refine plStepL rfl rfl fun K hK=> ?_
   go_wp2_with(first|(refine sF 0 HM ?_;have hBq:=HM.out.at_ 0 rfl;clear HM;intro w4 HM hG4;simp only[List.set]at HM;replace hF:=hFs.p hF hBq hG4;replace HO:=Zh (HO.out.kept hG4.out (.inr (row_ne_blk HO.out hBq (by decide))));clear hBq hG4)|fail)
   refine hK.out _ _ ((HM.out.less 1).less 0) fun hS_=> ?_
   clear hK K hS_
   try go_frame
   repeat(first|(refine plPure rfl rfl (by intro w_ hSw;go_simp;first|done|exact rfl) ?_;try go_frame))
   refine plDone ?_
   simp only[List.drop]
   go_wp2_with fail
   try simp only[Exit.inBlock,Exit.then]
   refine bodyPost_ret (results_cctt rfl (HM.out.at_ 1 rfl) (HM.out.at_ 0 rfl) rfl rfl _ uE.out rfl (by exact zend) _ uE.out rfl (by exact zend)) rfl ?_
   exact hPo.out a1 b1 va1 vb1 Ao k co _ _ _ hC.out hW.out rfl (gA.out _ hF.out) (gB.out _ hF.out) HO.out hBl.out HM.out.below
end Tx
end Go.Proofs.YtfamifgchgolpaaGreat
