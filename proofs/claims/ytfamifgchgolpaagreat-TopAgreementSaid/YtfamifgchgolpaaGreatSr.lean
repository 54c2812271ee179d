/- Chapter 28: the example's facts. -/
import Derived.Test.YtfamifgchgolpaaGreatSq
import Derived.Test.YtfamifgchgolpaaGreatCx
set_option linter.unusedVariables false
set_option linter.unusedSimpArgs false
set_option maxRecDepth 100000
set_option maxHeartbeats 16000000
namespace Go.Proofs.YtfamifgchgolpaaGreat
open Go Go.RowKit Go.Sort Go.Shelf Go.Maps
namespace Tx
open Sw Mm Pl
def aw0:Cpl:=freshC ⟨1,4,[]⟩ ⟨2,4,[]⟩ [1,1,1,1] 4
def aw28L:List Wsh:= [⟨false,0,0,⟨false,false,false,false⟩⟩,⟨false,1,1,⟨false,true,false,false⟩⟩,⟨false,0,0,⟨false,false,false,false⟩⟩,⟨false,0,0,⟨false,false,false,false⟩⟩,⟨false,0,0,⟨false,false,false,false⟩⟩,⟨false,0,0,⟨false,false,false,false⟩⟩,⟨false,0,0,⟨false,false,false,false⟩⟩]
def aw28B:List Bool:= [true,false,false,false,false,true,true]
def aw28D:Cpl:=runCN aw0 aw28L
theorem aw28_facts:newCC ⟨1,4,[]⟩ ⟨2,4,[]⟩ [1,1,1,1] 4=0∧newCN ⟨1,4,[]⟩ ⟨2,4,[]⟩ [1,1,1,1] 4=aw0∧runC aw0 aw28L=0∧runCB aw0 aw28L=aw28B∧aw28D.frame=7∧aw28D.b.cells.length=0∧longN aw28B=4∧boundC 4 1=0∧boundN 4 1=18:=by decide+kernel
theorem aw28_free {w:World} {B:Nat} {t:TypeId}(h:Blk w B #[.int .i64 1,.int .i64 1,.int .i64 1,.int .i64 1] t):IntS w (some ⟨B,0,none⟩) 4 [1,1,1,1]where
 len:=rfl
 small:=by unfold maxLen;omega
 at_:=fun _=>⟨B,0,rfl,h.lt,fun i hi j hj=>by
  obtain rfl:j=0:=by omega
  rw[show 0+i*1+0=i by omega,h.cell]
  rcases(by omega:i=0∨i=1∨i=2∨i=3)with rfl|rfl|rfl|rfl<;>rfl⟩
theorem aw28_wish {w:World} {B:Nat} {t:TypeId}(h:Blk w B #[.bool false,.int .i64 0,.int .i64 0,.bool false,.bool false,.bool false,.bool false,.bool false,.int .i64 1,.int .i64 1,.bool false,.bool true,.bool false,.bool false,.bool false,.int .i64 0,.int .i64 0,.bool false,.bool false,.bool false,.bool false,.bool false,.int .i64 0,.int .i64 0,.bool false,.bool false,.bool false,.bool false,.bool false,.int .i64 0,.int .i64 0,.bool false,.bool false,.bool false,.bool false,.bool false,.int .i64 0,.int .i64 0,.bool false,.bool false,.bool false,.bool false,.bool false,.int .i64 0,.int .i64 0,.bool false,.bool false,.bool false,.bool false] t):WshS w (some ⟨B,0,none⟩) 7 aw28L where
 len:=rfl
 small:=by unfold maxLen;omega
 at_:=fun _=>⟨B,0,rfl,h.lt,fun i hi j hj=>by
  rw[h.cell]
  rcases(by omega:i=0∨i=1∨i=2∨i=3∨i=4∨i=5∨i=6)with rfl|rfl|rfl|rfl|rfl|rfl|rfl<;>rcases(by omega:j=0∨j=1∨j=2∨j=3∨j=4∨j=5∨j=6)with rfl|rfl|rfl|rfl|rfl|rfl|rfl<;>rfl⟩
theorem aw28_bools {w:World} {B:Nat} {t:TypeId}(h:Blk w B #[.bool true,.bool false,.bool false,.bool false,.bool false,.bool true,.bool true] t):Sls boolE 1 w (some ⟨B,0,none⟩) 7 aw28B where
 len:=rfl
 small:=by unfold maxLen;omega
 at_:=fun _=>⟨B,0,rfl,h.lt,fun i hi j hj=>by
  rw[h.cell]
  obtain rfl:j=0:=by omega
  rcases(by omega:i=0∨i=1∨i=2∨i=3∨i=4∨i=5∨i=6)with rfl|rfl|rfl|rfl|rfl|rfl|rfl<;>rfl⟩
def RunCPost(c:Cpl)(bs:List Bool)(e:Int)(w:World)(r:Ending)(w':World):Prop:=∃v A n cp b,r= .returned (.tuple #[.agg (cplA c v),.slice A n cp,.int .i64 e])∧CplOwn w' v c∧w'.ownsRow b 4 1 (.slice A n cp) n (bs.flatMap boolE)∧bs.length=n∧Below w.heap.size w w'
theorem CplOwn.zero(w:World):CplOwn w cplV0 cpl0:=⟨EdOwn.zero w,EdOwn.zero w,⟨⟨0,World.ownsRow_nil _ _ _ _⟩,rfl⟩,⟨⟨0,World.ownsRow_nil _ _ _ _⟩,rfl⟩,⟨⟨0,World.ownsRow_nil _ _ _ _⟩,rfl⟩⟩
theorem Stc.row {F:World→Prop}(q_:Stc F) {w w':World}(J:F w) {base s n:Nat} {e:TypeId} {v:Value} {xs:List Value}(ho:w.ownsRow base e s v n xs)(h1:e≠97)(h2:e≠85)(h3:e≠3)(hg:w.grownBy w' v.ownBlock):F w':=by
 rcases ho.2 with⟨rfl,_⟩|⟨g,c,cur,rfl,_,hg2,_⟩
 ·exact q_.keep J ((Below.refl w.heap.size w).grown hg (Nat.le_refl _) (fun k e=>by simp[Value.ownBlock]at e))
 ·exact q_.put J (B:=g) ⟨hg2⟩ h1 h2 h3 hg
theorem take_wsh {l:List Wsh} {k:Nat}(h:k<l.length):l.take (k+1)=l.take k++ [l.getD k default]:=by
 rw[List.take_succ_eq_append_getElem h,List.getD_eq_getElem?_getD,List.getElem?_eq_getElem h];rfl
theorem results_ctt {P:Program} {fn:Func} {s u q:Tmp} {ty:TypeId}(hr:fn.results=#[.cell s ty,.tmp u,.tmp q]) {tmps:Array Value} {w:World} {B:Nat} {C:Array Value} {t:TypeId}(hB:Blk w B C t)(hs:tmps.getD s undef= .pointer (some ⟨B,0,none⟩))(d:TypeDesc)(hu:P.underlying ty=some d)(hd:(match d with| .struct _| .array _ _=>true|_=>false)=true)(hi:(P.info? ty).map (·.size)=some C.size):
 (results fn tmps).run P w= .ok (.tuple #[.agg C,tmps.getD u undef,tmps.getD q undef]) w:=by
 have:=run_loadVar_blk hB ty d hu hd hi
 rw[Array.getD_eq_getD_getElem?]at hs
 simp[results,hr,hs,asAddr,this]
theorem startR_any(c:Cpl)(v:CplV)(l:List Wsh)(A:Option Addr)(n cl:Nat)(w:World)(h:CplIs w v c)(hl:WshS w A n l):Calls Tryz.prog 102 #[.agg (cplA c v),.slice A n cl] w fun r w'=>r= .returned (.int .i64 (runC c l))∧Below w.heap.size w w':=by
 have I:=Zh (Mem.start w)
 obtain⟨F0,q_,J⟩:∃F:World→Prop,Stb F∧Hid (F w):=⟨_,Stb.true,trivial⟩
 have uE:=Tryz.underlying32
 have uT:=Tryz.underlying37
 have uM:=Tryz.underlying30
 have uC:=Tryz.underlying70
 have hlen:=hl.len
 have hs:=hl.small
 unfold maxLen at hs
 have hR:runC c l=if chkCp c≠0 then 1 else if 4096<n then 8 else 0:=by unfold runC;rw[hlen]
 have cK:=fun W (hb:Below w.heap.size w W)=>chkCp_any c v W (h.keep hb)
 generalize runC c l=R at*
 generalize chkCp c=C1 at*
 refine zh8 ?_ cK h hl hR uE uT uM uC;clear cK h hl hR uE uT uM uC;intro cK h hl hR uE uT uM uC
 go_enter Tryz.func102,Tryz.ntmps102
 have mk1:Unit:=()
 go_upto_region 1 with(first|go_skip|(clear mk1;refine q_.b I J 70 ?_;clear I J;intro gc w1 I J)|fail)
 by_cases e1:C1=0
 case neg=>
  have d1:(C1 !=0)=true:=by rw[bne_iff_ne];exact e1
  have hh:R=1:=by rw[hR.out,if_pos e1]
  subst hh
  replace e1:=Zh e1
  have mk2:Unit:=()
  go_wp2_with(first|go_skip|(refine lG 0 I uC.out ?_)|(go_at_call 97;clear mk2;refine q_.k I J (cK _ I.below) ?_;clear I J;intro w3 I J;dsimp only)|fail)
  try simp only[Exit.inBlock,Exit.then]
  go_ret
  exact⟨by first|rfl|trivial,I.below⟩
 have d1:(C1 !=0)=false:=by rw[bne_eq_false_iff_eq];exact e1
 have hR2:=Zh (hR.trans (if_neg (fun h=>h e1)))
 clear hR
 replace e1:=Zh e1
 by_cases e2:4096<n
 case pos=>
  have hh:R=8:=by rw[hR2.out,if_pos e2]
  subst hh
  have e3:(4096:Int)<(n:Int):=by omega
  replace e2:=Zh e2
  have mk2:Unit:=()
  go_wp2_with(first|go_skip|(refine lG 0 I uC.out ?_)|(go_at_call 97;clear mk2;refine q_.k I J (cK _ I.below) ?_;clear I J;intro w3 I J;dsimp only)|fail)
  try simp only[Exit.inBlock,Exit.then]
  go_ret
  exact⟨by first|rfl|trivial,I.below⟩
 case neg=>
  have hh:R=0:=by rw[hR2.out,if_neg e2]
  subst hh
  have e3:¬(4096:Int)<(n:Int):=by omega
  replace e2:=Zh e2
  have mk2:Unit:=()
  go_wp2_with(first|go_skip|(refine lG 0 I uC.out ?_)|(go_at_call 97;clear mk2;refine q_.k I J (cK _ I.below) ?_;clear I J;intro w3 I J;dsimp only)|fail)
  try simp only[Exit.inBlock,Exit.then]
  go_ret
  exact⟨by first|rfl|trivial,I.below⟩
theorem runP_any(c:Cpl)(v:CplV)(l:List Wsh)(Al:Option Addr)(n cl:Nat)(w:World)(h:CplIs w v c)(hl:WshS w Al n l)(hn:v.nf≤1048576)(hsm:chkCp c=0→Small2 c.left∧Small2 c.right):Calls Tryz.prog 34 #[.agg (cplA c v),.slice Al n cl] w (RunCPost (runCN c l) (runCB c l) (runC c l) w):=by
 have I:=Zh (Mem.start w)
 obtain⟨F0,q_,J⟩:∃F:World→Prop,Stc F∧Hid (F w):=⟨_,Stc.true,trivial⟩
 have uE:=Tryz.underlying32
 have uC:=Tryz.underlying70
 have uW:=Tryz.underlying42
 have hlen:=hl.len
 have hs:=hl.small
 unfold maxLen at hs
 have cK:=fun W (hb:Below w.heap.size w W)=>startR_any c v l Al n cl W (h.keep hb) (hl.keep hb)
 have cC:=fun W (hb:Below w.heap.size w W) (q:CplLen c)=>cloneP_any c v W (h.keep hb) q
 have hfl:=h.f.len
 generalize hP:RunCPost (runCN c l) (runCB c l) (runC c l) w=P
 have hPb:∀e W,runC c l=e→e≠0→Below w.heap.size w W→P (.returned (.tuple #[.agg (cplA cpl0 cplV0),.slice none 0 0,.int .i64 e])) W:=fun e W e1 h1 hb=>by
  rw[←hP]
  unfold RunCPost runCN runCB
  rw[e1,if_neg h1,if_neg h1]
  exact⟨cplV0,none,0,0,0,rfl,CplOwn.zero _,World.ownsRow_nil _ _ _ _,rfl,hb⟩
 have hPo:∀d bs vd A9 n9 c9 b9 W,runC c l=0→stepsN l c=d→stepsB l c=bs→CplOwn W vd d→W.ownsRow b9 4 1 (.slice A9 n9 c9) n9 (bs.flatMap boolE)→bs.length=n9→Below w.heap.size w W→P (.returned (.tuple #[.agg (cplA d vd),.slice A9 n9 c9,.int .i64 0])) W:=fun d bs vd A9 n9 c9 b9 W e e1 e2 q1 q2 q3 hb=>by
  rw[←hP]
  unfold RunCPost runCN runCB
  rw[e,if_pos rfl,if_pos rfl,e1,e2]
  exact⟨vd,A9,n9,c9,b9,rfl,q1,q2,q3,hb⟩
 clear hP
 have hok:runC c l=0→chkCp c=0∧n≤4096:=fun e=>by
  unfold runC at e
  split at e
  ·cases e
  rename_i h1
  split at e
  ·cases e
  ·exact⟨Decidable.not_not.1 h1,by omega⟩
 generalize hRC:runC c l=RC at*
 refine zh11 ?_ cK cC hPb hPo hok hl hlen h uE uC uW;clear cK cC hPb hPo hok hl hlen h uE uC uW;intro cK cC hPb hPo hok hl hlen h uE uC uW
 go_enter Tryz.func34,Tryz.ntmps34
 have mk1:Unit:=()
 have mk2:Unit:=()
 go_upto_region 1 with(first|go_skip|(clear mk1;refine q_.b I J 70 ?_;clear I J;intro gc w1 I J)|(clear mk2;refine q_.a I J cpInfo ?_;clear I J;intro g4 w1 I J)|fail)
 have mk3:Unit:=()
 by_cases e1:RC=0
 case neg=>
  have d1:(RC !=0)=true:=by rw[bne_iff_ne];exact e1
  replace e1:=Zh e1
  go_wp2_with(first|go_skip|(refine lG 1 I uC.out ?_)|(go_at_call 102;clear mk3;refine q_.k I J (cK _ I.below) ?_;clear I J;intro w3 I J;dsimp only)|(refine q_.s 0 I J ?_;clear I J;intro w4 I J;simp only[List.set]at I)|fail)
  try simp only[Exit.inBlock,Exit.then]
  refine bodyPost_ret (results_ctt rfl (I.at_ 0 rfl) rfl _ uC.out rfl (by exact zcp)) rfl ?_
  exact hPb.out _ _ rfl e1.out I.below
 subst e1
 obtain⟨hchk,hn4⟩:=hok.out rfl
 obtain⟨⟨p1,p2,f0,f1⟩,hI⟩:=chkCp_iff.1 hchk
 obtain⟨sl,sr⟩:=hsm hchk
 have hk:CplOk c:=⟨hI,sl,sr,p1,p2⟩
 have hLen:=Zh (cplLen_of hI (by rw[hfl];omega))
 clear hPb hok hchk p1 p2 hI sl sr
 refine zh4 ?_ hk hRC f0 f1;clear hk hRC f0 f1;intro hk hRC f0 f1
 go_upto_region 4 with(first|go_skip|(refine lG 1 I uC.out ?_)|(go_at_call 102;clear mk3;refine q_.k I J (cK _ I.below) ?_;clear I J;intro w3 I J;dsimp only)|fail)
 have mk4:Unit:=()
 go_upto_region 5 with(first|go_skip|(refine lG 1 I uC.out ?_)|(go_at_call 103;refine(cC _ I.below hLen.out).mono ?_;rintro r w3 ⟨v2,rfl,⟨hO,_⟩,p_⟩;replace I:=Zm I p_;replace J:=q_.z J p_;clear p_;replace hO:=Zh hO;dsimp only)|(clear mk4;refine aN I cpInfo ?_;clear I;intro g8 w1 I hG hN9;replace J:=q_.y J hG;replace hO:=Zh ((Stc.cplOwn ..).keep hO.out hG.out);clear hG hN9)|(refine sF 0 I ?_;have hBq:=I.at_ 0 rfl;clear I;intro w4 I hG4;simp only[List.set]at I;replace J:=q_.p J hBq hG4;replace hO:=Zh ((Stc.cplOwn ..).put hO.out hBq (by decide) (by decide) (by decide) hG4.out);clear hBq hG4)|fail)
 replace I:Hid (Mem w _ [(g8,cplA c v2,70),(g4,cplA cpl0 cplV0,70)]):=Zh (I.sub (by repeat(first|exact List.Sublist.refl _|apply List.Sublist.cons_cons|apply List.Sublist.cons)))
 clear J q_ F0 cC
 go_wp2_with fail
 go_loopw[9,11,23] (fun o _ i wr=>Hid (∃(q:Nat) (d:Cpl) (vd:CplV) (Ao:Option Addr) (co:Nat),q≤n∧i= .int .i64 q∧o= .slice Ao q co∧Hid (stepsN (l.take q) c=d)∧Hid ((stepsB (l.take q) c).length=q)∧Hid (wr.ownsRow w.heap.size 4 1 (.slice Ao q co) q ((stepsB (l.take q) c).flatMap boolE))∧Hid (Mem w wr [(g8,cplA d vd,70),(g4,cplA cpl0 cplV0,70)])∧CplOwn wr vd d)) (fun _ _ i _=>n-(intOf i).toNat)
 case atStart=>exact Zh ⟨0,c,v2,none,0,by omega,rfl,rfl,rfl,rfl,World.ownsRow_nil _ _ _ _,I,hO.out⟩
 case round=>
  clear I hO
  obtain⟨q,d,vd,Ao,co,hq,rfl,rfl,hD,hBl,HO,I,hO⟩:=hrel.out
  clear hrel
  by_cases hlt:q<n
  ·have hql:q<l.length:=by rw[hlen.out];exact hlt
   obtain⟨bq,off,rfl⟩:=hl.addr (by omega)
   have hrg:=Zh (fun(W:World) (hb:Below w.heap.size w W)=>wsh_range (hl.keep hb) hlt)
   have hD2:stepsN (l.take (q+1)) c=(stepN d (l.getD q default)).1:=by rw[take_wsh hql,steps_snoc,hD.out]
   have hB2:stepsB (l.take (q+1)) c=stepsB (l.take q) c++ [consC (stepsN (l.take (q+1)) c)]:=by rw[take_wsh hql,stepsB_snoc]
   rw[hD2]at hB2
   have hkd:CplOk d:=by rw[←hD.out];exact CplOk.steps _ hk.out
   have hst:=still_steps (l.take q) c
   rw[hD.out,List.length_take,hlen.out]at hst
   have hfd0:0≤d.frame:=by rw[hst.frame];have:=f0.out;omega
   have hfd1:d.frame≤2305843009213693952:=by rw[hst.frame];have:=f1.out;omega
   have hnd:vd.nf≤1048576:=by rw[←hO.f.2,hst.free,hfl];exact hn
   generalize stepsB (l.take q) c=bs at*
   generalize l.getD q default=x at*
   have cS:=fun W (q:CplIs W vd d)=>stepP_any d vd x W q hkd hnd hfd0 hfd1
   unfold StepPost at cS
   have hd2:=(hkd.step x)
   generalize(stepN d x).2=N9 at*
   generalize(stepN d x).1=d2 at*
   clear hD hql hst hfd0 hfd1 hnd hkd
   have r1:(q:Int)<(n:Int):=by omega
   have r0:(0:Int)≤(q:Int):=by omega
   obtain⟨xo,xk,xc,xf⟩:=x
   obtain⟨F0,q_,J,gO⟩:∃F:World→Prop,Stc F∧Hid (F _)∧Hid (∀W,F W→CplOwn W vd d):=⟨_,Stc.cplOwn vd d,hO,fun _ h=>h⟩
   clear hO
   refine zh4 ?_ hD2 hB2 cS hd2;clear hD2 hB2 cS hd2;intro hD2 hB2 cS hd2
   have mk5:Unit:=()
   go_upto_region 9 with(first|go_skip|(refine wpList_load_mid rfl 42 _ rfl bq (off+q*7) rfl (wshE ⟨xo,xk,xc,xf⟩) _ (hrg _ I.below) uW.out rfl (by exact zws) ?_)|(clear mk5;refine aN I wsInfo ?_;clear I;intro g11 w1 I hG hN9;replace J:=q_.y J hG;replace HO:=Zh (owns_keep HO.out hG.out);clear hG hN9)|(refine sF 0 I ?_;have hBq:=I.at_ 0 rfl;clear I;intro w4 I hG4;simp only[List.set]at I;replace J:=q_.p J hBq hG4;replace HO:=Zh (HO.kept hG4.out (.inr (row_ne_blk HO.out hBq (by decide))));clear hBq hG4)|fail)
   go_upto_region 10 with(first|go_skip|(refine lG 0 I uW.out ?_)|(refine lG 1 I uC.out ?_)|(go_at_call 98;refine(cS _ (gO _ J).is).mono ?_;rintro r w3 ⟨v3,rfl,⟨hO3,_⟩,p_⟩;replace I:=Zm I p_;replace HO:=Zh (owns_keep HO.out p_);clear J q_ gO F0 p_;replace hO3:=Zh hO3;dsimp only)|(refine sF 1 I ?_;have hBq:=I.at_ 1 rfl;clear I;intro w4 I hG4;simp only[List.set]at I;replace hO3:=Zh ((Stc.cplOwn ..).put hO3.out hBq (by decide) (by decide) (by decide) hG4.out);replace HO:=Zh (HO.kept hG4.out (.inr (row_ne_blk HO.out hBq (by decide))));clear hBq hG4)|fail)
   have cO:=fun W (q1:EdIs W v3.a d2.a) (q2:EdIs W v3.b d2.b)=>consP_any d2.a d2.b v3.a v3.b W q1 q2
   have hcb:consC d2=consB d2.a d2.b:=rfl
   rw[hcb]at hB2
   generalize consB d2.a d2.b=cb at*
   clear hcb
   replace cO:=Zh cO
   obtain⟨F0,q_,J,gO⟩:∃F:World→Prop,Stc F∧Hid (F _)∧Hid (∀W,F W→CplOwn W v3 d2):=⟨_,Stc.cplOwn v3 d2,hO3.out,fun _ h=>h⟩
   clear hO3
   go_wp2_with(first|go_skip|(refine lP 1 I 0 (endA d2.a v3.a) uE.out ?_)|(refine lP 1 I 28 (endA d2.b v3.b) uE.out ?_)|(go_at_call 39;refine(cO _ (gO _ J).is.a (gO _ J).is.b).mono ?_;rintro r w3 ⟨rfl,p_⟩;replace I:=Zm I p_;replace J:=q_.z J p_;replace HO:=Zh (owns_keep HO.out p_);clear p_)|(at_builtin;refine wpList_append_sls eltB _ rfl _ _ rfl w.heap.size (.slice Ao q co) bs rfl (by rw[hBl.out];exact HO.alloc _) _ 1 1 [cb] rfl (Sls.one (t:=4) (Blk.new _ _ _)) (by rw[hBl.out];omega) (by exact(ballN I.below _).size) ?_;intro v9 w7 HO1 HG1 _;rw[List.length_append,hBl.out,List.length_singleton]at HO1;obtain⟨A6,c6,rfl⟩:=own_slice HO1;have HR:=HO.alloc (.cells #[.bool cb] 4);replace I:=Zh ((I.keep (ball _ _)).row HR HG1 (Nat.le_refl _) (apart_of rfl));replace J:=Zh (q_.row (q_.keep J (ball _ _)) HR (by decide) (by decide) (by decide) HG1);replace HO1:=Zh HO1;clear HR HG1 HO)|fail)
   rw[←hB2.out]at HO1
   exact⟨Zh ⟨q+1,d2,v3,A6,c6,by omega,by go_num,rfl,hD2,Zh (by rw[hB2.out,List.length_append,hBl.out];rfl),HO1,Zh (I.sub (by repeat(first|exact List.Sublist.refl _|apply List.Sublist.cons_cons|apply List.Sublist.cons))),gO.out _ J⟩,by simp[intOf];omega⟩
  ·obtain rfl:q=n:=by omega
   have hx:l.take q=l:=List.take_of_length_le (by rw[hlen.out];exact Nat.le_refl _)
   rw[hx]at hD hBl HO
   go_wp2_with(first|go_skip|(refine lG 0 I uC.out ?_)|(refine sF 1 I ?_;have hBq:=I.at_ 1 rfl;clear I;intro w4 I hG4;simp only[List.set]at I;replace hO:=(Stc.cplOwn ..).put hO hBq (by decide) (by decide) (by decide) hG4.out;replace HO:=Zh (HO.kept hG4.out (.inr (row_ne_blk HO.out hBq (by decide))));clear hBq hG4)|fail)
   try simp only[Exit.inBlock,Exit.then]
   refine bodyPost_ret (results_ctt rfl (I.at_ 1 rfl) rfl _ uC.out rfl (by exact zcp)) rfl ?_
   exact hPo.out _ _ _ _ _ _ _ _ (by first|rfl|trivial) hD.out rfl hO HO.out hBl.out I.below
def StpPost(c:Cpl)(e:Int)(w:World)(r:Ending)(w':World):Prop:=∃v,r= .returned (.tuple #[.agg (cplA c v),.int .i64 e])∧CplOwn w' v c∧Below w.heap.size w w'
theorem StepP_any(c:Cpl)(v:CplV)(x:Wsh)(w:World)(h:CplIs w v c)(hn:v.nf≤1048576)(hsm:chkCp c=0→Small2 c.left∧Small2 c.right):Calls Tryz.prog 31 #[.agg (cplA c v),.agg (wshA x)] w (StpPost (stpN c x) (stpC c) w):=by
 have I:=Zh (Mem.start w)
 obtain⟨F0,q_,J⟩:∃F:World→Prop,Stc F∧Hid (F w):=⟨_,Stc.true,trivial⟩
 have uC:=Tryz.underlying70
 have uW:=Tryz.underlying42
 have cK:=fun W (hb:Below w.heap.size w W)=>chkCp_any c v W (h.keep hb)
 have cS:=fun W (hb:Below w.heap.size w W) (hk:CplOk c) (f0:0≤c.frame) (f1:c.frame≤2305843009213693952)=>stepP_any c v x W (h.keep hb) hk hn f0 f1
 unfold StepPost at cS
 generalize hP:StpPost (stpN c x) (stpC c) w=P
 have hPb:∀W,chkCp c≠0→Below w.heap.size w W→P (.returned (.tuple #[.agg (cplA cpl0 cplV0),.int .i64 1])) W:=fun W e hb=>by
  rw[←hP]
  unfold StpPost stpN stpC
  rw[if_neg e,if_neg e]
  exact⟨cplV0,rfl,CplOwn.zero _,hb⟩
 have hPo:∀vd W,chkCp c=0→CplOwn W vd (stepN c x).1→Below w.heap.size w W→P (.returned (.tuple #[.agg (cplA (stepN c x).1 vd),.int .i64 0])) W:=fun vd W e q hb=>by
  rw[←hP]
  unfold StpPost stpN stpC
  rw[if_pos e,if_pos e]
  exact⟨vd,rfl,q,hb⟩
 clear hP
 have hok:chkCp c=0→CplOk c∧0≤c.frame∧c.frame≤2305843009213693952:=fun e=>by
  obtain⟨⟨p1,p2,f0,f1⟩,hI⟩:=chkCp_iff.1 e
  obtain⟨sl,sr⟩:=hsm e
  exact⟨⟨hI,sl,sr,p1,p2⟩,f0,by omega⟩
 generalize(stepN c x).2=N9 at*
 generalize(stepN c x).1=D9 at*
 generalize chkCp c=C1 at*
 refine zh7 ?_ cK cS hPb hPo hok uC uW;clear cK cS hPb hPo hok uC uW;intro cK cS hPb hPo hok uC uW
 go_enter Tryz.func31,Tryz.ntmps31
 have mk1:Unit:=()
 have mk2:Unit:=()
 have mk3:Unit:=()
 go_upto_region 1 with(first|go_skip|(clear mk1;refine q_.b I J 70 ?_;clear I J;intro gc w1 I J)|(clear mk2;refine q_.b I J 42 ?_;clear I J;intro gw w1 I J)|(clear mk3;refine q_.a I J cpInfo ?_;clear I J;intro g4 w1 I J)|fail)
 have mk4:Unit:=()
 by_cases e1:C1=0
 case neg=>
  have d1:(C1 !=0)=true:=by rw[bne_iff_ne];exact e1
  have hh:=Zh (fun W=>hPb.out W e1)
  replace e1:=Zh e1
  go_wp2_with(first|go_skip|(refine lG 2 I uC.out ?_)|(go_at_call 97;clear mk4;refine q_.k I J (cK _ I.below) ?_;clear I J;intro w3 I J;dsimp only)|(refine q_.s 0 I J ?_;clear I J;intro w4 I J;simp only[List.set]at I)|fail)
  try simp only[Exit.inBlock,Exit.then]
  refine rT I 0 uC.out ?_
  exact hh.out _ I.below
 subst e1
 obtain⟨hk,f0,f1⟩:=hok.out rfl
 have cT:=Zh (fun W hb=>cS.out W hb hk f0 f1)
 clear hPb cS hok f0 f1
 replace hk:=Zh hk
 go_upto_region 3 with(first|go_skip|(refine lG 2 I uC.out ?_)|(go_at_call 97;clear mk4;refine q_.k I J (cK _ I.below) ?_;clear I J;intro w3 I J;dsimp only)|fail)
 have mk5:Unit:=()
 go_upto_region 4 with(first|go_skip|(refine lG 2 I uC.out ?_)|(refine lG 1 I uW.out ?_)|(go_at_call 98;refine(cT _ I.below).mono ?_;rintro r w3 ⟨v3,rfl,⟨hO,_⟩,p_⟩;replace I:=Zm I p_;replace J:=q_.z J p_;replace hO:=Zh hO;clear p_;dsimp only)|(clear mk5;refine aN I cpInfo ?_;clear I;intro g6 w1 I hG hN9;replace J:=q_.y J hG;replace hO:=Zh ((Stc.cplOwn ..).keep hO.out hG.out);clear hG hN9)|(refine sF 0 I ?_;have hBq:=I.at_ 0 rfl;clear I;intro w4 I hG4;simp only[List.set]at I;replace J:=q_.p J hBq hG4;replace hO:=Zh ((Stc.cplOwn ..).put hO.out hBq (by decide) (by decide) (by decide) hG4.out);clear hBq hG4)|fail)
 go_wp2_with(first|go_skip|(refine lG 0 I uC.out ?_)|(refine sF 1 I ?_;have hBq:=I.at_ 1 rfl;clear I;intro w4 I hG4;simp only[List.set]at I;replace J:=q_.p J hBq hG4;replace hO:=Zh ((Stc.cplOwn ..).put hO.out hBq (by decide) (by decide) (by decide) hG4.out);clear hBq hG4)|fail)
 try simp only[Exit.inBlock,Exit.then]
 refine rT I 1 uC.out ?_
 exact hPo.out _ _ (by first|rfl|trivial) hO.out I.below
theorem awake28_any(w:World):Calls Tryz.prog 29 #[] w fun r w'=>r= .returned (.bool true)∧Below w.heap.size w w':=by
 have I:=Zh (Mem.start w)
 obtain⟨F0,q_,J⟩:∃F:World→Prop,Stc F∧Hid (F w):=⟨_,Stc.true,trivial⟩
 have uC:=Tryz.underlying70
 have uW:=Tryz.underlying42
 obtain⟨f1,f2,f3,f4,f5,f6,f7,f8,f9⟩:=aw28_facts
 have cN:=fun A W (hf:IntS W A 4 [1,1,1,1])=>newP_any ⟨1,4,[]⟩ ⟨2,4,[]⟩ [1,1,1,1] 4 tabV0 tabV0 A 4 4 W ⟨Sls.nil,Nat.le_refl _⟩ ⟨Sls.nil,Nat.le_refl _⟩ hf (by decide) (by decide)
 unfold NewPost at cN
 rw[f1,f2]at cN
 have hsm:chkCp aw0=0→Small2 aw0.left∧Small2 aw0.right:=fun _=>⟨⟨by decide,by decide⟩,⟨by decide,by decide⟩⟩
 have cR:=fun v A W (h:CplIs W v aw0) (hl:WshS W A 7 aw28L) (hn:v.nf≤1048576)=>runP_any aw0 v aw28L A 7 7 W h hl hn hsm
 unfold RunCPost at cR
 rw[f3,f4]at cR
 change∀v A W,_→_→_→Calls _ _ _ _ (fun r w'=>∃v A n cp b,r= .returned (.tuple #[.agg (cplA aw28D v),.slice A n cp,.int .i64 0])∧CplOwn w' v aw28D∧_∧_∧_)at cR
 have cB:=fun W=>bound_any 4 1 W
 rw[f8,f9]at cB
 have cQ:=fun A1 n1 c1 A2 W (h1:Sls boolE 1 W A1 n1 aw28B) (h2:Sls boolE 1 W A2 7 aw28B)=>eqBool_any A1 A2 n1 c1 7 7 aw28B aw28B W h1 h2
 rw[decide_eq_true (rfl:aw28B=aw28B)]at cQ
 have cL:=fun A n cp W (h:Sls boolE 1 W A n aw28B)=>longest_any A n cp aw28B W h (by rw[←h.len];decide)
 rw[f7]at cL
 have hfl:aw0.free.length=4:=rfl
 clear f1 f2 f3 f4 f7 f8 f9 hsm
 generalize aw28D=d at*
 refine zh9 ?_ cN cR cB cQ cL f5 f6 uC uW;clear cN cR cB cQ cL f5 f6 uC uW;intro cN cR cB cQ cL f5 f6 uC uW
 go_enter Tryz.func29,Tryz.ntmps29
 go_upto_region 2 with(first|go_skip|(go_at_call 38;refine(cN _ _ (aw28_free (Blk.new _ _ _))).mono ?_;rintro r w3 ⟨v1,rfl,hC,p_⟩;replace I:=Zh ((I.keep (ball _ _)).keep p_);replace hC:=Zh hC;have HB:=Zh (Below.refl w3.heap.size w3);clear J q_ F0 p_;dsimp only)|(refine aN I cpInfo ?_;clear I;intro g1 w1 I hG hN9;have hf_g1:=Zh (Nat.le_trans HB.size hN9.out);replace HB:=Zh (bthen HB.out hG.out);clear hG hN9)|(refine sF 0 I ?_;clear I;intro w4 I hG4;simp only[List.set]at I;replace HB:=Zh (HB.grown hG4.out HB.size (fun k e=>by cases e;exact hf_g1.out));clear hG4)|fail)
 go_upto_region 3 with(first|go_skip|(refine aN I wsInfo ?_;clear I;intro g3 w1 I hG hN9;have hf_g3:=Zh (Nat.le_trans HB.size hN9.out);replace HB:=Zh (bthen HB.out hG.out);clear hG hN9)|(refine sF 0 I ?_;clear I;intro w4 I hG4;simp only[List.set]at I;replace HB:=Zh (HB.grown hG4.out HB.size (fun k e=>by cases e;exact hf_g3.out));clear hG4)|fail)
 have hnf:Hid (v1.nf≤1048576):=by show v1.nf≤1048576;rw[←hC.out.f.len];decide
 go_upto_region 4 with(first|go_skip|(refine lG 1 I uC.out ?_)|(refine lG 0 I uW.out ?_)|(go_at_call 34;refine(cR _ _ _ (hC.keep (bthen HB.out (ball _ _))) (aw28_wish (Blk.new _ _ _)) hnf.out).mono ?_;rintro r w3 ⟨v3,A5,n5,c5,b5,rfl,hO,HO,hl5,p_⟩;replace I:=Zh ((I.keep (ball _ _)).keep p_);replace hO:=Zh hO;replace HO:=Zh HO;replace hl5:=Zh hl5;clear hC HB p_;dsimp only)|(refine sF 1 I ?_;have hBq:=I.at_ 1 rfl;clear I;intro w4 I hG4;simp only[List.set]at I;replace hO:=Zh ((Stc.cplOwn ..).put hO.out hBq (by decide) (by decide) (by decide) hG4.out);replace HO:=Zh (HO.kept hG4.out (.inr (row_ne_blk HO.out hBq (by decide))));clear hBq hG4)|fail)
 go_upto_region 5 with(first|go_skip|(go_at_call 95;refine(cB _).mono ?_;rintro r w_ ⟨rfl,rfl⟩)|fail)
 have hcn:v3.b.cn=0:=by rw[←hO.out.b.lc];exact f6.out
 have p64:World.cell? _ ⟨g1,64,none⟩=some (.int .i64 7):=(I.cell 1 rfl 64).trans (by rw[←f5.out];rfl)
 have p31:World.cell? _ ⟨g1,31,none⟩=some (.slice v3.b.cA 0 v3.b.cc):=(I.cell 1 rfl 31).trans (by rw[←hcn];rfl)
 go_wp2_with(first|go_skip|(go_at_call 28;refine(cQ _ _ _ _ _ ((Sls.of_owns boolE_len (owns_keep HO.out (ball _ _)) hl5.out).2) (aw28_bools (Blk.new _ _ _))).mono ?_;rintro r w3 ⟨rfl,p_⟩;clear p64 p31;replace I:=Zh ((I.keep (ball _ _)).keep p_);replace HO:=Zh (owns_keep (owns_keep HO.out (ball _ _)) p_);clear p_;have p64:World.cell? _ ⟨g1,64,none⟩=some (.int .i64 7):=(I.cell 1 rfl 64).trans (by rw[←f5.out];rfl);have p31:World.cell? _ ⟨g1,31,none⟩=some (.slice v3.b.cA 0 v3.b.cc):=(I.cell 1 rfl 31).trans (by rw[←hcn];rfl);dsimp only)|(go_at_call 96;refine(cL _ _ _ _ ((Sls.of_owns boolE_len HO.out hl5.out).2)).mono ?_;rintro r w3 ⟨rfl,p_⟩;clear p64 p31;replace I:=Zm I p_;clear p_;dsimp only)|fail)
 try simp only[Exit.inBlock,Exit.then]
 go_ret
 exact⟨by first|rfl|trivial,I.below⟩
end Tx
end Go.Proofs.YtfamifgchgolpaaGreat
