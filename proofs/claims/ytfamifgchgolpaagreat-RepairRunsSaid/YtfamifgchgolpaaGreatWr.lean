/- Chapter 28: Run: the reference's. -/
import Derived.Test.YtfamifgchgolpaaGreatUb
import Derived.Test.YtfamifgchgolpaaGreatVy
import Derived.Test.YtfamifgchgolpaaGreatSr
import Derived.Maps.AppendAt
set_option linter.unusedVariables false
set_option linter.unusedSimpArgs false
set_option maxRecDepth 100000
set_option maxHeartbeats 16000000
namespace Go.Proofs.YtfamifgchgolpaaGreat
open Go Go.RowKit Go.Sort Go.Shelf Go.Maps
namespace Tx
open Sw Mm Pl
theorem OwnC.trans {v0 v1 v:EdV} {e0 e1 e:Ed} {w:World}(h:OwnC v1 e1 v e w)(h1:OwnC v0 e0 v1 e1 w):OwnC v0 e0 v e w:=h.elim .inl (fun⟨q1,q2⟩=>by rw[q1,q2];exact h1)
theorem cpl_on {c d:Cpl} {v:CplV} {w0 w:World} {va vb:EdV} {n:Int}(h:CplIs w0 v c)(hs:Stills c d n)(hb:Below w0.heap.size w0 w)(h1:OwnC v.a c.a va d.a w)(h2:OwnC v.b c.b vb d.b w):CplIs w ⟨va,vb,v.l,v.r,v.A,v.nf,v.cf⟩ d:=⟨h1.is (h.keep hb).a,h2.is (h.keep hb).b,by rw[hs.left];exact(h.keep hb).l,by rw[hs.right];exact(h.keep hb).r,by rw[hs.free];exact(h.keep hb).f,h.fc⟩
def RRunPost(c:Cpl)(v:CplV)(C:Cpl)(bs:List Bool)(e:Int)(w:World)(r:Ending)(w':World):Prop:=∃V A n cp b,r= .returned (.tuple #[.agg (cplA C V),.slice A n cp,.int .i64 e])∧OwnC v.a c.a V.a C.a w'∧OwnC v.b c.b V.b C.b w'∧RstC c v C V∧w'.ownsRow b 4 1 (.slice A n cp) n (bs.flatMap boolE)∧bs.length=n∧Below w.heap.size w w'
theorem rrun_any(c:Cpl)(v:CplV)(l:List Wsh)(Al:Option Addr)(n cl:Nat)(w:World)(h:CplIs w v c)(hl:WshS w Al n l)(hsm:chkCp c=0→Small2 c.left∧Small2 c.right):Calls Tryz.prog 35 #[.agg (cplA c v),.slice Al n cl] w (RRunPost c v (runCN c l) (runCB c l) (runC c l) w):=by
 have I:=Zh (Mem.start w)
 obtain⟨F0,q_,J⟩:∃F:World→Prop,Stc F∧Hid (F w):=⟨_,Stc.true,trivial⟩
 have uE:=Tryz.underlying32
 have uC:=Tryz.underlying70
 have uW:=Tryz.underlying42
 have uN:=Tryz.underlying144
 have hlen:=hl.len
 have hs:=hl.small
 unfold maxLen at hs
 have cK:=fun W (hb:Below w.heap.size w W)=>rchkCp_any c v W (h.keep hb)
 have hR:runC c l=if chkCp c≠0 then 1 else if 4096<l.length then 8 else 0:=rfl
 rw[hlen]at hR
 generalize hP:RRunPost c v (runCN c l) (runCB c l) (runC c l) w=P
 have hPb:∀e W,runC c l=e→e≠0→Below w.heap.size w W→P (.returned (.tuple #[.agg (cplA cpl0 cplV0),.slice none 0 0,.int .i64 e])) W:=fun e W e1 h1 hb=>by
  rw[←hP]
  unfold RRunPost runCN runCB
  rw[e1,if_neg h1,if_neg h1]
  exact⟨cplV0,none,0,0,0,rfl,.inl (EdOwn.zero _),.inl (EdOwn.zero _),.inr ⟨rfl,rfl⟩,World.ownsRow_nil _ _ _ _,rfl,hb⟩
 have hPo:∀d bs va1 vb1 A9 n9 c9 b9 W,runC c l=0→stepsN l c=d→stepsB l c=bs→OwnC v.a c.a va1 d.a W→OwnC v.b c.b vb1 d.b W→W.ownsRow b9 4 1 (.slice A9 n9 c9) n9 (bs.flatMap boolE)→bs.length=n9→Below w.heap.size w W→P (.returned (.tuple #[.agg (cplA d ⟨va1,vb1,v.l,v.r,v.A,v.nf,v.cf⟩),.slice A9 n9 c9,.int .i64 0])) W:=fun d bs va1 vb1 A9 n9 c9 b9 W e e1 e2 q1 q2 q3 q4 hb=>by
  rw[←hP]
  unfold RRunPost runCN runCB
  rw[e,if_pos rfl,if_pos rfl,e1,e2]
  have hst:=still_steps l c
  rw[e1]at hst
  exact⟨_,A9,n9,c9,b9,rfl,q1,q2,.inl ⟨rfl,rfl,rfl,rfl,rfl,hst.left,hst.right,hst.free⟩,q3,q4,hb⟩
 clear hP
 generalize hRC:runC c l=RC at*
 have hok:chkCp c=0→CplOk c∧0≤c.frame∧c.frame≤1099511627776:=fun e=>by
  obtain⟨⟨p1,p2,f0,f1⟩,hI⟩:=chkCp_iff.1 e
  obtain⟨sl,sr⟩:=hsm e
  exact⟨⟨hI,sl,sr,p1,p2⟩,f0,f1⟩
 generalize chkCp c=C1 at*
 refine zh12 ?_ cK hPb hPo hok hR hRC hl hlen h uE uC uW;clear cK hPb hPo hok hR hRC hl hlen h uE uC uW;intro cK hPb hPo hok hR hRC hl hlen h uE uC uW
 replace uN:=Zh uN
 go_enter Tryz.func35,Tryz.ntmps35
 have mk1:Unit:=()
 have mk2:Unit:=()
 go_upto_region 1 with(first|go_skip|(clear mk1;refine q_.b I J 70 ?_;clear I J;intro g2 w1 I J)|(clear mk2;refine q_.a I J cpInfo ?_;clear I J;intro g4 w1 I J)|fail)
 have mk3:Unit:=()
 by_cases e1:C1=0
 case neg=>
  have d1:(C1 !=0)=true:=by rw[bne_iff_ne];exact e1
  have e2:RC=1:=hR.trans (if_pos e1)
  clear hR hok
  subst e2
  have hPc:=Zh (fun W=>hPb.out 1 W rfl (by decide))
  replace e1:=Zh e1
  go_wp2_with(first|go_skip|(refine lG 1 I uC.out ?_)|(go_at_call 99;clear mk3;refine q_.k I J (cK _ I.below) ?_;clear I J;intro w3 I J;dsimp only)|(refine q_.s 0 I J ?_;clear I J;intro w4 I J;simp only[List.set]at I)|fail)
  try simp only[Exit.inBlock,Exit.then]
  refine bodyPost_ret (results_ctt rfl (I.at_ 0 rfl) rfl _ uC.out rfl (by exact zcp)) rfl ?_
  exact hPc.out _ I.below
 subst e1
 obtain⟨hk,f0,f1⟩:=hok.out rfl
 clear hok
 replace hR:=Zh (hR.trans (if_neg (fun h=>h rfl)))
 refine zh3 ?_ hk f0 f1;clear hk f0 f1;intro hk f0 f1
 go_upto_region 3 with(first|go_skip|(refine lG 1 I uC.out ?_)|(go_at_call 99;clear mk3;refine q_.k I J (cK _ I.below) ?_;clear I J;intro w3 I J;dsimp only)|fail)
 by_cases e2:(4096:Int)<(n:Int)
 case pos=>
  have e3:RC=8:=hR.trans (if_pos (by omega))
  clear hR
  subst e3
  have hPc:=Zh (fun W=>hPb.out 8 W rfl (by decide))
  go_wp2_with(first|go_skip|(refine q_.s 0 I J ?_;clear I J;intro w4 I J;simp only[List.set]at I)|fail)
  try simp only[Exit.inBlock,Exit.then]
  refine bodyPost_ret (results_ctt rfl (I.at_ 0 rfl) rfl _ uC.out rfl (by exact zcp)) rfl ?_
  exact hPc.out _ I.below
 have e3:RC=0:=hR.trans (if_neg (by omega))
 clear hR hPb
 subst e3
 have hn4:n≤4096:=by omega
 go_upto_region 7 with fail
 clear e2
 go_loopw[7,8] (fun o i wr=>Hid (∃(q:Nat) (d:Cpl) (va1 vb1:EdV) (Ao:Option Addr) (co:Nat),q≤n∧i= .int .i64 q∧o= .slice Ao q co∧Hid (stepsN (l.take q) c=d)∧Hid ((stepsB (l.take q) c).length=q)∧Hid (wr.ownsRow w.heap.size 4 1 (.slice Ao q co) q ((stepsB (l.take q) c).flatMap boolE))∧Hid (Mem w wr [(g4,cplA cpl0 cplV0,70),(g2,cplA d ⟨va1,vb1,v.l,v.r,v.A,v.nf,v.cf⟩,70)])∧Hid (OwnC v.a c.a va1 d.a wr)∧Hid (OwnC v.b c.b vb1 d.b wr))) (fun _ i _=>n-(intOf i).toNat)
 case atStart=>exact Zh ⟨0,c,v.a,v.b,none,0,by omega,rfl,rfl,rfl,rfl,World.ownsRow_nil _ _ _ _,I,.inr ⟨rfl,rfl⟩,.inr ⟨rfl,rfl⟩⟩
 case round=>
  clear I J q_ F0
  obtain⟨q,d,va1,vb1,Ao,co,hq,rfl,rfl,hD,hBl,HO,I,hA,hB⟩:=hrel.out
  clear hrel
  obtain⟨F0,q_,J,gA,gB⟩:∃F:World→Prop,Stc F∧Hid (F _)∧Hid (∀W,F W→OwnC v.a c.a va1 d.a W)∧Hid (∀W,F W→OwnC v.b c.b vb1 d.b W):=⟨_,(Stc.ownC v.a c.a va1 d.a).and (Stc.ownC v.b c.b vb1 d.b),⟨hA.out,hB.out⟩,fun _ h=>h.1,fun _ h=>h.2⟩
  clear hA hB
  by_cases hlt:q<n
  ·have hql:q<l.length:=by rw[hlen.out];exact hlt
   obtain⟨bq,off,rfl⟩:=hl.addr (by omega)
   have hrg:=Zh (fun(W:World) (hb:Below w.heap.size w W)=>wsh_range (hl.keep hb) hlt)
   have hkd:CplOk d:=by rw[←hD.out];exact CplOk.steps _ hk.out
   have hst:=still_steps (l.take q) c
   rw[hD.out,List.length_take,hlen.out]at hst
   have hfd0:0≤d.frame:=by rw[hst.frame];have:=f0.out;omega
   have hfd1:d.frame≤2305843009213693952:=by rw[hst.frame];have:=f1.out;omega
   have hD2:stepsN (l.take (q+1)) c=(stepN d (l.getD q default)).1:=by rw[take_wsh hql,steps_snoc,hD.out]
   have hB2:stepsB (l.take (q+1)) c=stepsB (l.take q) c++ [consC (stepsN (l.take (q+1)) c)]:=by rw[take_wsh hql,stepsB_snoc]
   rw[hD2]at hB2
   generalize stepsB (l.take q) c=bs at*
   generalize l.getD q default=x at*
   have cS:=fun W (hb:Below w.heap.size w W) (q1:OwnC v.a c.a va1 d.a W) (q2:OwnC v.b c.b vb1 d.b W)=>rframe_any d ⟨va1,vb1,v.l,v.r,v.A,v.nf,v.cf⟩ x W (cpl_on h.out hst hb q1 q2) hkd hfd0 hfd1
   unfold RFrPost at cS
   have hst2:=still_steps (l.take (q+1)) c
   rw[hD2]at hst2
   generalize(stepN d x).2=N9 at*
   generalize(stepN d x).1=d2 at*
   dsimp only at cS
   clear hD hql hst hfd0 hfd1 hkd
   have r1:(q:Int)<(n:Int):=by omega
   have r0:(0:Int)≤(q:Int):=by omega
   obtain⟨xo,xk,xc,xf⟩:=x
   refine zh4 ?_ hD2 hB2 cS hst2;clear hD2 hB2 cS hst2;intro hD2 hB2 cS hst2
   go_upto_region 9 with fail
   replace J:=Zh (q_.keep J ((Below.refl _ _).drew))
   replace I:=Zh (I.keep ((Below.refl _ _).drew))
   replace HO:=Zh (owns_keep HO.out ((Below.refl _ _).drew))
   have HMs:=Zh I.out
   refine wp_region_two (fun w'=>Mem _ w' _) 9 [(0,2),(1,1),(2,1),(3,1),(4,2),(5,0),(6,1),(7,1),(8,1),(9,0)] (by kernel_rfl) (by kernel_rfl) HMs.out ?_
   clear HMs
   generalize World.drew _=wd at*
   repeat(refine p2Q ?_;try go_frame)
   refine p2Take (by rfl) (yw 1 uC.out) ?_
   try go_frame
   repeat(refine p2Q ?_;try go_frame)
   refine p2Take (by rfl) (yieldsIf_load_mid (by rfl) 42 _ rfl bq (off+q*7) rfl (wshE ⟨xo,xk,xc,xf⟩) _ (fun w_ hSw=>hrg.out w_ hSw.below) uW.out rfl (by exact zws)) ?_
   try go_frame
   repeat(refine p2Q ?_;try go_frame)
   refine p2Step rfl rfl fun K hK=> ?_
   go_wp2_with(first|(go_at_call 100;refine(cS _ I.below (gA _ J) (gB _ J)).mono ?_;rintro r w3 ⟨va2,vb2,s9,o9,rfl,hs9,ho9,hA5,hB5,p_⟩)|fail)
   refine hK _ _ (fun _=>I.keep p_) fun hS_=> ?_
   clear hK K hS_
   try go_frame
   clear hs9 ho9
   replace I:=Zm I p_
   replace HO:=Zh (owns_keep HO.out p_)
   replace hA5:=hA5.trans (gA _ (q_.keep J p_))
   replace hB5:=hB5.trans (gB _ (q_.keep J p_))
   clear q_ J p_ gA gB F0
   obtain⟨F0,q_,J,gA,gB⟩:∃F:World→Prop,Stc F∧Hid (F _)∧Hid (∀W,F W→OwnC v.a c.a va2 d2.a W)∧Hid (∀W,F W→OwnC v.b c.b vb2 d2.b W):=⟨_,(Stc.ownC v.a c.a va2 d2.a).and (Stc.ownC v.b c.b vb2 d2.b),⟨hA5,hB5⟩,fun _ h=>h.1,fun _ h=>h.2⟩
   clear hA5 hB5
   repeat(refine p2Q ?_;try go_frame)
   refine p2Step rfl rfl fun K hK=> ?_
   go_wp2_with(first|(refine sF 1 I ?_;have hBq:=I.at_ 1 rfl;clear I;intro w4 I hG4;simp only[List.set]at I;replace J:=q_.p J hBq hG4;replace HO:=Zh (HO.kept hG4.out (.inr (row_ne_blk HO.out hBq (by decide))));clear hBq hG4)|fail)
   refine hK _ _ (fun h=>absurd h (by decide)) fun hS_=> ?_
   clear hK K hS_
   try go_frame
   repeat(refine p2Q ?_;try go_frame)
   refine p2Done ?_
   have cO:=fun W (hb:Below w.heap.size w W) (q1:OwnC v.a c.a va2 d2.a W) (q2:OwnC v.b c.b vb2 d2.b W)=>consR_any d2.a d2.b va2 vb2 W (q1.is (h.keep hb).a) (q2.is (h.keep hb).b)
   have hcb:consC d2=consB d2.a d2.b:=rfl
   replace hB2:=Zh (hB2.trans (by rw[hcb]))
   clear hcb
   generalize consB d2.a d2.b=cb at*
   replace cO:=Zh cO
   go_wp2_with(first|go_skip|(refine lP 1 I 0 (endA d2.a va2) uE.out ?_)|(refine lP 1 I 28 (endA d2.b vb2) uE.out ?_)|(go_at_call 94;refine(cO _ I.below (gA _ J) (gB _ J)).mono ?_;rintro r w3 ⟨rfl,p_⟩;replace I:=Zm I p_;replace J:=q_.z J p_;replace HO:=Zh (owns_keep HO.out p_);clear p_)|(at_builtin;refine wpList_append_sls eltB _ rfl _ _ rfl w.heap.size (.slice Ao q co) bs rfl (by rw[hBl.out];exact HO.alloc _) _ 1 1 [cb] rfl (Sls.one (t:=4) (Blk.new _ _ _)) (by rw[hBl.out];omega) (by exact(ballN I.below _).size) ?_;intro v9 w7 HO1 HG1 _;rw[List.length_append,hBl.out,List.length_singleton]at HO1;obtain⟨A6,c6,rfl⟩:=own_slice HO1;have HR:=HO.alloc (.cells #[.bool cb] 4);replace I:=Zh ((I.keep (ball _ _)).row HR HG1 (Nat.le_refl _) (apart_of rfl));replace J:=Zh (q_.row (q_.keep J (ball _ _)) HR (by decide) (by decide) (by decide) HG1);replace HO1:=Zh HO1;clear HR HG1 HO)|fail)
   rw[←hB2.out]at HO1
   exact⟨Zh ⟨q+1,d2,va2,vb2,A6,c6,by omega,by go_num,rfl,hD2,Zh (by rw[hB2.out,List.length_append,hBl.out];rfl),HO1,I,gA.out _ J,gB.out _ J⟩,by simp[intOf];omega⟩
  ·obtain rfl:q=n:=by omega
   have hx:l.take q=l:=List.take_of_length_le (by rw[hlen.out];exact Nat.le_refl _)
   rw[hx]at hD hBl HO
   clear hx
   go_wp2_with(first|go_skip|(refine lG 1 I uC.out ?_)|(refine sF 0 I ?_;have hBq:=I.at_ 0 rfl;clear I;intro w4 I hG4;simp only[List.set]at I;replace J:=q_.p J hBq hG4;replace HO:=Zh (HO.kept hG4.out (.inr (row_ne_blk HO.out hBq (by decide))));clear hBq hG4)|fail)
   try simp only[Exit.inBlock,Exit.then]
   refine bodyPost_ret (results_ctt rfl (I.at_ 0 rfl) rfl _ uC.out rfl (by exact zcp)) rfl ?_
   exact hPo.out d _ va1 vb1 _ _ _ _ _ (by first|rfl|trivial) hD.out rfl (gA _ J) (gB _ J) HO.out hBl.out I.below
theorem arInfo:(Tryz.prog.info? 152).map (fun i=>(i.zero,i.size,i.bytes))=some (some (.agg #[.int .i64 0,.int .i64 0]),2,16):=by kernel_rfl
theorem who3(c:Cpl)(x:Wsh):(stepN c x).2=0∨(stepN c x).2=1∨(stepN c x).2=2:=by
 unfold stepN actN whoN
 dsimp only
 repeat' split
 all_goals simp
structure LosIn(s:Los)(q:Int):Prop where
 a0:0≤s.n1
 a1:s.n1≤s.m1
 a2:s.m1≤q
 b0:0≤s.n2
 b1:s.n2≤s.m2
 b2:s.m2≤q
theorem rowN_in {n:Int}(b:Bool)(h:0≤n):0≤rowN n b∧rowN n b≤n+1:=by unfold rowN;split<;>omega
theorem losN_one {s:Los} {q:Int}(x:Fate)(h:LosIn s q):losN s 1 x=⟨rowN s.n1 x.request,max s.m1 (rowN s.n1 x.request),if x.request=true then s.n2 else rowN s.n2 x.reply,max s.m2 (if x.request=true then s.n2 else rowN s.n2 x.reply)⟩:=by
 have h1:=h.b1
 unfold losN
 rw[if_neg (by decide),if_pos rfl]
 cases hx:x.request
 ·simp[rowN]
 ·simp[rowN];omega
theorem losN_two {s:Los} {q:Int}(x:Fate)(h:LosIn s q):losN s 2 x=⟨if x.request=true then s.n1 else rowN s.n1 x.reply,max s.m1 (if x.request=true then s.n1 else rowN s.n1 x.reply),rowN s.n2 x.request,max s.m2 (rowN s.n2 x.request)⟩:=by
 have h1:=h.a1
 unfold losN
 rw[if_neg (by decide),if_neg (by decide)]
 cases hx:x.request
 ·simp[rowN]
 ·simp[rowN];omega
theorem LosIn.next {s:Los} {q:Int}(h:LosIn s q)(c:Cpl)(w:Wsh):LosIn (losN s (stepN c w).2 w.fate) (q+1):=by
 have a0:=h.a0
 have a1:=h.a1
 have a2:=h.a2
 have b0:=h.b0
 have b1:=h.b1
 have b2:=h.b2
 have r1:=rowN_in w.fate.request h.a0
 have r2:=rowN_in w.fate.request h.b0
 have r3:=rowN_in w.fate.reply h.a0
 have r4:=rowN_in w.fate.reply h.b0
 rcases who3 c w with e|e|e<;>rw[e]
 ·exact⟨a0,a1,by show s.m1≤q+1;omega,b0,b1,by show s.m2≤q+1;omega⟩
 ·rw[losN_one _ h]
  split<;>exact⟨by dsimp only;omega,by dsimp only;omega,by dsimp only;omega,by dsimp only;omega,by dsimp only;omega,by dsimp only;omega⟩
 ·rw[losN_two _ h]
  split<;>exact⟨by dsimp only;omega,by dsimp only;omega,by dsimp only;omega,by dsimp only;omega,by dsimp only;omega,by dsimp only;omega⟩
theorem losIn_all(c:Cpl):∀(l:List Wsh) (d:Cpl) (s:Los) (q:Int),LosIn s q→LosIn (lossN l d s) (q+l.length)
 | [],_,s,q,h=>by simpa[lossN]using h
 |w::l,d,s,q,h=>by
  have:=losIn_all c l (stepN d w).1 _ _ (h.next d w)
  rw[List.length_cons];push_cast
  rw[show q+((l.length:Int)+1)=q+1+l.length by omega]
  exact this
def RLoPost(s:Los)(e:Int)(w:World)(r:Ending)(w':World):Prop:=r= .returned (.tuple #[.int .i64 s.m1,.int .i64 s.m2,.int .i64 e])∧Below w.heap.size w w'
theorem rlosses_any(c:Cpl)(v:CplV)(l:List Wsh)(Al:Option Addr)(n cl:Nat)(w:World)(h:CplIs w v c)(hl:WshS w Al n l)(hsm:chkCp c=0→Small2 c.left∧Small2 c.right):Calls Tryz.prog 37 #[.agg (cplA c v),.slice Al n cl] w (RLoPost (lossC c l) (runC c l) w):=by
 have I:=Zh (Mem.start w)
 obtain⟨F0,q_,J⟩:∃F:World→Prop,Stc F∧Hid (F w):=⟨_,Stc.true,trivial⟩
 have uE:=Tryz.underlying32
 have uC:=Tryz.underlying70
 have uW:=Tryz.underlying42
 have uN:=Tryz.underlying144
 have hlen:=hl.len
 have hs:=hl.small
 unfold maxLen at hs
 have cK:=fun W (hb:Below w.heap.size w W)=>rchkCp_any c v W (h.keep hb)
 have hR:runC c l=if chkCp c≠0 then 1 else if 4096<l.length then 8 else 0:=rfl
 rw[hlen]at hR
 have uA:=Tryz.underlying152
 generalize hP:RLoPost (lossC c l) (runC c l) w=P
 have hPb:∀e W,runC c l=e→e≠0→Below w.heap.size w W→P (.returned (.tuple #[.int .i64 0,.int .i64 0,.int .i64 e])) W:=fun e W e1 h1 hb=>by
  rw[←hP,show lossC c l=⟨0,0,0,0⟩from by unfold lossC;rw[if_neg (by rw[e1];exact h1)],e1]
  exact⟨rfl,hb⟩
 have hPo:∀s W,runC c l=0→lossN l c ⟨0,0,0,0⟩=s→Below w.heap.size w W→P (.returned (.tuple #[.int .i64 s.m1,.int .i64 s.m2,.int .i64 0])) W:=fun s W e e1 hb=>by
  rw[←hP,show lossC c l=s from by unfold lossC;rw[if_pos e,e1],e]
  exact⟨rfl,hb⟩
 clear hP
 generalize hRC:runC c l=RC at*
 have hok:chkCp c=0→CplOk c∧0≤c.frame∧c.frame≤1099511627776:=fun e=>by
  obtain⟨⟨p1,p2,f0,f1⟩,hI⟩:=chkCp_iff.1 e
  obtain⟨sl,sr⟩:=hsm e
  exact⟨⟨hI,sl,sr,p1,p2⟩,f0,f1⟩
 generalize chkCp c=C1 at*
 refine zh12 ?_ cK hPb hPo hok hR hRC hl hlen h uE uC uW;clear cK hPb hPo hok hR hRC hl hlen h uE uC uW;intro cK hPb hPo hok hR hRC hl hlen h uE uC uW
 replace uN:=Zh uN
 go_enter Tryz.func37,Tryz.ntmps37
 replace uA:=Zh uA
 have mk1:Unit:=()
 go_upto_region 1 with(first|go_skip|(clear mk1;refine q_.b I J 70 ?_;clear I J;intro g2 w1 I J)|fail)
 have mk2:Unit:=()
 by_cases e1:C1=0
 case neg=>
  have d1:(C1 !=0)=true:=by rw[bne_iff_ne];exact e1
  have e2:RC=1:=hR.trans (if_pos e1)
  clear hR hok
  subst e2
  have hPc:=Zh (fun W=>hPb.out 1 W rfl (by decide))
  replace e1:=Zh e1
  go_wp2_with(first|go_skip|(refine lG 0 I uC.out ?_)|(go_at_call 99;clear mk2;refine q_.k I J (cK _ I.below) ?_;clear I J;intro w3 I J;dsimp only)|fail)
  try simp only[Exit.inBlock,Exit.then]
  refine bodyPost_ret (v:= .tuple #[.int .i64 0,.int .i64 0,.int .i64 1]) (by simp[results,Tryz.results37,go_sem]) rfl (hPc _ I.below)
 subst e1
 obtain⟨hk,f0,f1⟩:=hok.out rfl
 clear hok
 replace hR:=Zh (hR.trans (if_neg (fun h=>h rfl)))
 refine zh3 ?_ hk f0 f1;clear hk f0 f1;intro hk f0 f1
 go_upto_region 3 with(first|go_skip|(refine lG 0 I uC.out ?_)|(go_at_call 99;clear mk2;refine q_.k I J (cK _ I.below) ?_;clear I J;intro w3 I J;dsimp only)|fail)
 by_cases e2:(4096:Int)<(n:Int)
 case pos=>
  have e3:RC=8:=hR.trans (if_pos (by omega))
  clear hR
  subst e3
  have hPc:=Zh (fun W=>hPb.out 8 W rfl (by decide))
  go_wp2_with fail
  try simp only[Exit.inBlock,Exit.then]
  refine bodyPost_ret (v:= .tuple #[.int .i64 0,.int .i64 0,.int .i64 8]) (by simp[results,Tryz.results37,go_sem]) rfl (hPc _ I.below)
 have e3:RC=0:=hR.trans (if_neg (by omega))
 clear hR hPb
 subst e3
 have hn4:n≤4096:=by omega
 have mk3:Unit:=()
 have mk4:Unit:=()
 go_upto_region 7 with(first|go_skip|(clear mk3;refine q_.a I J arInfo ?_;clear I J;intro g7 w1 I J)|(clear mk4;refine q_.a I J arInfo ?_;clear I J;intro g8 w1 I J)|(refine q_.s 1 I J ?_;clear I J;intro w4 I J;simp only[List.set]at I)|(refine q_.s 0 I J ?_;clear I J;intro w4 I J;simp only[List.set]at I)|fail)
 clear e2
 go_loopw[9,10,11,12,13] (fun i _ _ _ _ wr=>Hid (∃(q:Nat) (d:Cpl) (s:Los) (va1 vb1:EdV),q≤n∧i= .int .i64 q∧Hid (stepsN (l.take q) c=d)∧Hid (lossN (l.take q) c ⟨0,0,0,0⟩=s)∧Hid (Mem w wr [(g8,#[.int .i64 s.m1,.int .i64 s.m2],152),(g7,#[.int .i64 s.n1,.int .i64 s.n2],152),(g2,cplA d ⟨va1,vb1,v.l,v.r,v.A,v.nf,v.cf⟩,70)])∧Hid (OwnC v.a c.a va1 d.a wr)∧Hid (OwnC v.b c.b vb1 d.b wr))) (fun i _ _ _ _ _=>n-(intOf i).toNat)
 case atStart=>exact Zh ⟨0,c,⟨0,0,0,0⟩,v.a,v.b,by omega,rfl,rfl,rfl,I,.inr ⟨rfl,rfl⟩,.inr ⟨rfl,rfl⟩⟩
 case round=>
  clear I J q_ F0
  obtain⟨q,d,s,va1,vb1,hq,rfl,hD,hS,I,hA,hB⟩:=hrel.out
  clear hrel
  obtain⟨F0,q_,J,gA,gB⟩:∃F:World→Prop,Stc F∧Hid (F _)∧Hid (∀W,F W→OwnC v.a c.a va1 d.a W)∧Hid (∀W,F W→OwnC v.b c.b vb1 d.b W):=⟨_,(Stc.ownC v.a c.a va1 d.a).and (Stc.ownC v.b c.b vb1 d.b),⟨hA.out,hB.out⟩,fun _ h=>h.1,fun _ h=>h.2⟩
  clear hA hB
  by_cases hlt:q<n
  ·have hql:q<l.length:=by rw[hlen.out];exact hlt
   obtain⟨bq,off,rfl⟩:=hl.addr (by omega)
   have hrg:=Zh (fun(W:World) (hb:Below w.heap.size w W)=>wsh_range (hl.keep hb) hlt)
   have hkd:CplOk d:=by rw[←hD.out];exact CplOk.steps _ hk.out
   have hst:=still_steps (l.take q) c
   rw[hD.out,List.length_take,hlen.out]at hst
   have hfd0:0≤d.frame:=by rw[hst.frame];have:=f0.out;omega
   have hfd1:d.frame≤2305843009213693952:=by rw[hst.frame];have:=f1.out;omega
   have hD2:stepsN (l.take (q+1)) c=(stepN d (l.getD q default)).1:=by rw[take_wsh hql,steps_snoc,hD.out]
   have hS2:lossN (l.take (q+1)) c ⟨0,0,0,0⟩=losN s (stepN d (l.getD q default)).2 (l.getD q default).fate:=by rw[take_wsh hql,loss_snoc,hD.out,hS.out]
   have hin:LosIn s q:=by
    have:=losIn_all c (l.take q) c ⟨0,0,0,0⟩ 0 ⟨by decide,by decide,by decide,by decide,by decide,by decide⟩
    rw[hS.out,List.length_take,hlen.out,Nat.min_eq_left hq,Int.zero_add]at this
    exact this
   generalize l.getD q default=x at*
   have hw:=who3 d x
   have cS:=fun W (hb:Below w.heap.size w W) (q1:OwnC v.a c.a va1 d.a W) (q2:OwnC v.b c.b vb1 d.b W)=>rframe_any d ⟨va1,vb1,v.l,v.r,v.A,v.nf,v.cf⟩ x W (cpl_on h.out hst hb q1 q2) hkd hfd0 hfd1
   unfold RFrPost at cS
   generalize(stepN d x).2=N9 at*
   generalize(stepN d x).1=d2 at*
   dsimp only at cS
   clear hD hS hql hst hfd0 hfd1 hkd
   have r1:(q:Int)<(n:Int):=by omega
   have r0:(0:Int)≤(q:Int):=by omega
   obtain⟨xo,xk,xc,xf⟩:=x
   dsimp only at hS2
   refine zh5 ?_ hD2 hS2 cS hw hin;clear hD2 hS2 cS hw hin;intro hD2 hS2 cS hw hin
   go_upto_region 9 with fail
   try go_frame
   go_cut[10,11]from 28 to 37 (fun s10 s11 wx=>∃g10 g11 va2 vb2 s9 o9,s10= .pointer (some ⟨g10,0,none⟩)∧s11= .pointer (some ⟨g11,0,none⟩)∧Hid (s9=decide (N9≠0))∧Hid (s9=true→o9=decide (N9=2))∧Hid (OwnC v.a c.a va2 d2.a wx)∧Hid (OwnC v.b c.b vb2 d2.b wx)∧Hid (Mem w wx [(g11,#[.bool s9,.bool o9],144),(g10,cplA d2 ⟨va2,vb2,v.l,v.r,v.A,v.nf,v.cf⟩,70),(g8,#[.int .i64 s.m1,.int .i64 s.m2],152),(g7,#[.int .i64 s.n1,.int .i64 s.n2],152),(g2,cplA d ⟨va1,vb1,v.l,v.r,v.A,v.nf,v.cf⟩,70)]))
   case first=>
    replace J:=Zh (q_.keep J ((Below.refl _ _).drew))
    replace I:=Zh (I.keep ((Below.refl _ _).drew))
    have HMs:=Zh I.out
    refine wp_region_pt (fun w'=>Mem _ w' _) 12 (.take 0 (.take 1 (.take 2 (.take 3 (.take 4 (.three 5 (.take 6 (.take 7 (.take 8 (.fork 9 (.only 10 (.only 11 .done)) 10 (.only 9 (.only 11 .done)))))) 9 (.fork 5 (.take 6 (.take 7 (.take 8 (.only 10 (.only 11 .done))))) 10 (.only 5 (.take 6 (.take 7 (.take 8 (.only 11 .done)))))) 10 (.fork 5 (.take 6 (.take 7 (.take 8 (.only 9 (.only 11 .done))))) 9 (.only 5 (.take 6 (.take 7 (.take 8 (.only 11 .done)))))))))))) (by kernel_rfl) (by kernel_rfl) HMs.out ?_
    clear HMs
    generalize World.drew _=wd at*
    refine ptTake (by rfl) (yw 2 uC.out) ?_
    try go_frame
    iterate 3 (refine ptPure rfl rfl (by intro w_ hSw;clear hSw;go_simp;first|done|exact rfl) ?_;try go_frame)
    refine ptTake (by rfl) (yieldsIf_load_mid (by rfl) 42 _ rfl bq (off+q*7) rfl (wshE ⟨xo,xk,xc,xf⟩) _ (fun w_ hSw=>hrg.out w_ hSw.below) uW.out rfl (by exact zws)) ?_
    try go_frame
    refine ptThree rfl rfl rfl rfl rfl rfl (fun K hK=> ?_) (fun K hK=> ?_) (fun K hK=> ?_)
    all_goals
     repeat' (first
      |(refine ptFork rfl rfl rfl rfl (fun K hK=> ?_) (fun K hK=> ?_))
      |(refine ptOnly rfl rfl fun K hK=> ?_)
      |(refine ptPure rfl rfl (by intro w_ hSw;clear hSw;go_simp;first|done|exact rfl) ?_;try go_frame)
      |(go_wp2_with(first|(go_at_call 100;refine(cS _ I.below (gA _ J) (gB _ J)).mono ?_;rintro r w3 ⟨va2,vb2,s9,o9,rfl,hs9,ho9,hA5,hB5,p_⟩;replace I:=Zm I p_;replace hA5:=hA5.trans (gA _ (q_.keep J p_));replace hB5:=hB5.trans (gB _ (q_.keep J p_));replace J:=q_.z J p_;clear p_;obtain⟨F2,hFs2,hF2,gC,gD⟩:∃F:World→Prop,Stc F∧Hid (F w3)∧Hid (∀W,F W→OwnC v.a c.a va2 d2.a W)∧Hid (∀W,F W→OwnC v.b c.b vb2 d2.b W):=⟨_,(Stc.ownC v.a c.a va2 d2.a).and (Stc.ownC v.b c.b vb2 d2.b),⟨hA5,hB5⟩,fun _ h=>h.1,fun _ h=>h.2⟩;clear hA5 hB5 q_ J gA gB;have q_:=hFs2;have J:=hF2;clear hFs2 hF2;replace hs9:=Zh hs9;replace ho9:=Zh ho9)|(refine q_.a I J cpInfo ?_;clear I J;intro g10 w1 I J)|(refine q_.a I J snInfo ?_;clear I J;intro g11 w1 I J)|(refine q_.s 0 I J ?_;clear I J;intro w4 I J;simp only[List.set]at I)|(refine q_.s 1 I J ?_;clear I J;intro w4 I J;simp only[List.set]at I)|(refine q_.s 0 I J ?_;clear I J;intro w4 I J;simp only[List.set]at I)|(refine q_.s 1 I J ?_;clear I J;intro w4 I J;simp only[List.set]at I)|fail);refine hK _ _ (by first|exact I.tail.tail|exact I.tail|exact I.out) fun hS_=> ?_;clear hK K hS_;try go_frame))
    all_goals
     refine ptDone ?_
     simp only[List.drop]
     go_wp2_with(first|go_skip|(refine q_.s 0 I J ?_;clear I J;intro w4 I J;simp only[List.set]at I)|(refine q_.s 1 I J ?_;clear I J;intro w4 I J;simp only[List.set]at I)|fail)
     go_meet
     exact⟨g10,g11,va2,vb2,s9,o9,rfl,rfl,hs9,ho9,gC.out _ J,gD.out _ J,by first|exact I|exact Zh I.swap2⟩
   case rest=>
    clear I J q_ gA gB F0 cS
    obtain⟨g10,g11,va2,vb2,s9,o9,rfl,rfl,hs9,ho9,hA,hB,I⟩:=hcut
    obtain⟨F0,q_,J,gA,gB⟩:∃F:World→Prop,Stc F∧Hid (F _)∧Hid (∀W,F W→OwnC v.a c.a va2 d2.a W)∧Hid (∀W,F W→OwnC v.b c.b vb2 d2.b W):=⟨_,(Stc.ownC v.a c.a va2 d2.a).and (Stc.ownC v.b c.b vb2 d2.b),⟨hA.out,hB.out⟩,fun _ h=>h.1,fun _ h=>h.2⟩
    clear hA hB
    go_upto_region 11 with(first|go_skip|(refine lG 1 I uC.out ?_)|(refine q_.s 4 I J ?_;clear I J;intro w4 I J;simp only[List.set]at I)|fail)
    obtain⟨n1,m1,n2,m2⟩:=s
    obtain⟨y1,y2,y3,y4⟩:=xf
    rcases hw.out with rfl|rfl|rfl
    ·obtain rfl:s9=false:=hs9.trans (by decide)
     have p0:=Zc I 0 0 (.bool false)
     clear hs9 ho9 hw hin
     go_wp2_with fail
     exact⟨Zh ⟨q+1,d2,⟨n1,m1,n2,m2⟩,va2,vb2,by omega,by go_num,hD2,Zh (hS2.out),Zh (I.sub (by repeat(first|exact List.Sublist.refl _|apply List.Sublist.cons_cons|apply List.Sublist.cons))),gA.out _ J,gB.out _ J⟩,by simp[intOf];omega⟩
    ·obtain rfl:s9=true:=hs9.trans (by decide)
     have p0:=Zc I 0 0 (.bool true)
     obtain rfl:o9=false:=(ho9 rfl).trans (by decide)
     clear hs9 ho9 hw
     have p1:=Zc I 0 1 (.bool false)
     have hL:=losN_one ⟨y1,y2,y3,y4⟩ hin.out
     dsimp only at hL
     have i0:=hin.a0
     have i1:=hin.a1
     have i2:=hin.a2
     have i3:=hin.b0
     have i4:=hin.b1
     have i5:=hin.b2
     dsimp only at i0 i1 i2 i3 i4 i5
     have cl1:=fun W=>rlost_any n1 y1 W (by omega) (by omega)
     have cl2:=fun W=>rlost_any n2 y2 W (by omega) (by omega)
     clear i0 i1 i2 i3 i4 i5
     generalize rowN n1 y1=Nf at*
     generalize rowN n2 y2=Nt at*
     refine zh4 ?_ cl1 cl2 hL hin;clear cl1 cl2 hL hin;intro cl1 cl2 hL hin
     go_upto_region 15 with fail
     clear p0 p1
     replace J:=Zh (q_.keep J ((Below.refl _ _).drew))
     replace I:=Zh (I.keep ((Below.refl _ _).drew))
     have HMs:=Zh I.out
     refine wp_region_plan (fun w'=>Mem _ w' _) 11 [(0,true),(1,true),(2,true),(3,true),(4,true),(5,true),(6,true),(7,true),(8,true),(9,true),(10,false)] (by kernel_rfl) (by kernel_rfl) HMs.out ?_
     clear HMs
     generalize World.drew _=wd at*
     repeat(first|(refine plPure rfl rfl (by intro w_ hSw;go_simp;first|done|exact rfl) ?_;try go_frame))
     refine plTakeL (by rfl) (yc 3 0 (.int .i64 n1) Tryz.underlying3) ?_
     try go_frame
     repeat(first|(refine plPure rfl rfl (by intro w_ hSw;go_simp;first|done|exact rfl) ?_;try go_frame))
     refine plTakeL (by rfl) (yields_cell rfl _ _ rfl ⟨bq,off+q*7+3,none⟩ rfl (.bool y1) (fun w_ hSw=>hrg.out w_ hSw.below 3 _ rfl) _ Tryz.underlying4 (by rfl)) ?_
     try go_frame
     repeat(first|(refine plPure rfl rfl (by intro w_ hSw;go_simp;first|done|exact rfl) ?_;try go_frame))
     refine plStepL rfl rfl fun K hK=> ?_
     go_wp2_with(first|(go_at_call 105;refine(cl1 _).mono ?_;rintro r w_ ⟨rfl,rfl⟩)|fail)
     refine hK _ _ (I.out) fun hS_=> ?_
     clear hK K hS_
     try go_frame
     refine plDone ?_
     simp only[List.drop]
     go_upto_region 16 with(first|go_skip|(refine q_.m 3 I J 0 (#[.int .i64 Nf,.int .i64 n2]) ?_;clear I J;intro w4 I J;simp only[List.set]at I)|fail)
     have pr:World.cell? _ ⟨bq,off+q*7+3,none⟩=some (.bool y1):=hrg.out _ I.below 3 _ rfl
     cases y1
     case' true=>
      go_upto_region 18 with fail
      clear pr
      obtain⟨R,hR⟩:∃R,R=n2:=⟨_,rfl⟩
      have hL2:=Zh (hL.trans (by rw[if_pos rfl,←hR]))
      rw[←hR]at I
      clear hL hR
     case' false=>
      go_upto_region 17 with fail
      clear pr
      replace J:=Zh (q_.keep J ((Below.refl _ _).drew))
      replace I:=Zh (I.keep ((Below.refl _ _).drew))
      have HMs:=Zh I.out
      refine wp_region_plan (fun w'=>Mem _ w' _) 11 [(0,true),(1,true),(2,true),(3,true),(4,true),(5,true),(6,true),(7,true),(8,true),(9,true),(10,false)] (by kernel_rfl) (by kernel_rfl) HMs.out ?_
      clear HMs
      generalize World.drew _=wd at*
      repeat(first|(refine plPure rfl rfl (by intro w_ hSw;go_simp;first|done|exact rfl) ?_;try go_frame))
      refine plTakeL (by rfl) (yc 3 1 (.int .i64 n2) Tryz.underlying3) ?_
      try go_frame
      repeat(first|(refine plPure rfl rfl (by intro w_ hSw;go_simp;first|done|exact rfl) ?_;try go_frame))
      refine plTakeL (by rfl) (yields_cell rfl _ _ rfl ⟨bq,off+q*7+4,none⟩ rfl (.bool y2) (fun w_ hSw=>hrg.out w_ hSw.below 4 _ rfl) _ Tryz.underlying4 (by rfl)) ?_
      try go_frame
      repeat(first|(refine plPure rfl rfl (by intro w_ hSw;go_simp;first|done|exact rfl) ?_;try go_frame))
      refine plStepL rfl rfl fun K hK=> ?_
      go_wp2_with(first|(go_at_call 105;refine(cl2 _).mono ?_;rintro r w_ ⟨rfl,rfl⟩)|fail)
      refine hK _ _ (I.out) fun hS_=> ?_
      clear hK K hS_
      try go_frame
      refine plDone ?_
      simp only[List.drop]
      go_upto_region 18 with(first|go_skip|(refine q_.m 3 I J 1 (#[.int .i64 Nf,.int .i64 Nt]) ?_;clear I J;intro w4 I J;simp only[List.set]at I)|fail)
      have hL2:=Zh (hL.trans (by rw[if_neg (by decide)]))
      obtain⟨R,hR⟩:∃R,R=Nt:=⟨_,rfl⟩
      rw[←hR]at I hL2
      clear hL hR
     all_goals
      clear hin cl1 cl2
      try go_frame
      have k0:=Zc I 2 0 (.int .i64 m1)
      have k1:=Zc I 2 1 (.int .i64 m2)
      have k2:=Zc I 3 0 (.int .i64 Nf)
      have k3:=Zc I 3 1 (.int .i64 R)
      have z0:=(I.at_ 2 rfl).free
      go_region
      have hg9:=(blk_setCells [.int .i64 (max m1 Nf),.int .i64 (max m2 R)] _ 0 _ (I.at_ 2 rfl)).2
      have hF9:=Zh (q_.keep (q_.put J (I.at_ 2 rfl) (by decide) (by decide) (by decide) hg9) ((Below.refl _ _).drew))
      have HM9:=Zh (I.setc 2 rfl 0 [.int .i64 (max m1 Nf),.int .i64 (max m2 R)] #[.int .i64 (max m1 Nf),.int .i64 (max m2 R)] (by rfl)).drew
      clear I J hg9 k0 k1 k2 k3 z0
      have I:=HM9
      have J:=hF9
      clear HM9 hF9
      simp only[List.set]at I
      go_wp2_with fail
      exact⟨Zh ⟨q+1,d2,⟨Nf,max m1 Nf,R,max m2 R⟩,va2,vb2,by omega,by go_num,hD2,Zh (hS2.trans hL2.out),Zh (I.sub (by repeat(first|exact List.Sublist.refl _|apply List.Sublist.cons_cons|apply List.Sublist.cons))),gA.out _ J,gB.out _ J⟩,by simp[intOf];omega⟩
    ·obtain rfl:s9=true:=hs9.trans (by decide)
     have p0:=Zc I 0 0 (.bool true)
     obtain rfl:o9=true:=(ho9 rfl).trans (by decide)
     clear hs9 ho9 hw
     have p1:=Zc I 0 1 (.bool true)
     have hL:=losN_two ⟨y1,y2,y3,y4⟩ hin.out
     dsimp only at hL
     have i0:=hin.a0
     have i1:=hin.a1
     have i2:=hin.a2
     have i3:=hin.b0
     have i4:=hin.b1
     have i5:=hin.b2
     dsimp only at i0 i1 i2 i3 i4 i5
     have cl1:=fun W=>rlost_any n2 y1 W (by omega) (by omega)
     have cl2:=fun W=>rlost_any n1 y2 W (by omega) (by omega)
     clear i0 i1 i2 i3 i4 i5
     generalize rowN n2 y1=Nf at*
     generalize rowN n1 y2=Nt at*
     refine zh4 ?_ cl1 cl2 hL hin;clear cl1 cl2 hL hin;intro cl1 cl2 hL hin
     go_upto_region 15 with fail
     clear p0 p1
     replace J:=Zh (q_.keep J ((Below.refl _ _).drew))
     replace I:=Zh (I.keep ((Below.refl _ _).drew))
     have HMs:=Zh I.out
     refine wp_region_plan (fun w'=>Mem _ w' _) 11 [(0,true),(1,true),(2,true),(3,true),(4,true),(5,true),(6,true),(7,true),(8,true),(9,true),(10,false)] (by kernel_rfl) (by kernel_rfl) HMs.out ?_
     clear HMs
     generalize World.drew _=wd at*
     repeat(first|(refine plPure rfl rfl (by intro w_ hSw;go_simp;first|done|exact rfl) ?_;try go_frame))
     refine plTakeL (by rfl) (yc 3 1 (.int .i64 n2) Tryz.underlying3) ?_
     try go_frame
     repeat(first|(refine plPure rfl rfl (by intro w_ hSw;go_simp;first|done|exact rfl) ?_;try go_frame))
     refine plTakeL (by rfl) (yields_cell rfl _ _ rfl ⟨bq,off+q*7+3,none⟩ rfl (.bool y1) (fun w_ hSw=>hrg.out w_ hSw.below 3 _ rfl) _ Tryz.underlying4 (by rfl)) ?_
     try go_frame
     repeat(first|(refine plPure rfl rfl (by intro w_ hSw;go_simp;first|done|exact rfl) ?_;try go_frame))
     refine plStepL rfl rfl fun K hK=> ?_
     go_wp2_with(first|(go_at_call 105;refine(cl1 _).mono ?_;rintro r w_ ⟨rfl,rfl⟩)|fail)
     refine hK _ _ (I.out) fun hS_=> ?_
     clear hK K hS_
     try go_frame
     refine plDone ?_
     simp only[List.drop]
     go_upto_region 16 with(first|go_skip|(refine q_.m 3 I J 1 (#[.int .i64 n1,.int .i64 Nf]) ?_;clear I J;intro w4 I J;simp only[List.set]at I)|fail)
     have pr:World.cell? _ ⟨bq,off+q*7+3,none⟩=some (.bool y1):=hrg.out _ I.below 3 _ rfl
     cases y1
     case' true=>
      go_upto_region 18 with fail
      clear pr
      obtain⟨R,hR⟩:∃R,R=n1:=⟨_,rfl⟩
      have hL2:=Zh (hL.trans (by rw[if_pos rfl,←hR]))
      rw[←hR]at I
      clear hL hR
     case' false=>
      go_upto_region 17 with fail
      clear pr
      replace J:=Zh (q_.keep J ((Below.refl _ _).drew))
      replace I:=Zh (I.keep ((Below.refl _ _).drew))
      have HMs:=Zh I.out
      refine wp_region_plan (fun w'=>Mem _ w' _) 11 [(0,true),(1,true),(2,true),(3,true),(4,true),(5,true),(6,true),(7,true),(8,true),(9,true),(10,false)] (by kernel_rfl) (by kernel_rfl) HMs.out ?_
      clear HMs
      generalize World.drew _=wd at*
      repeat(first|(refine plPure rfl rfl (by intro w_ hSw;go_simp;first|done|exact rfl) ?_;try go_frame))
      refine plTakeL (by rfl) (yc 3 0 (.int .i64 n1) Tryz.underlying3) ?_
      try go_frame
      repeat(first|(refine plPure rfl rfl (by intro w_ hSw;go_simp;first|done|exact rfl) ?_;try go_frame))
      refine plTakeL (by rfl) (yields_cell rfl _ _ rfl ⟨bq,off+q*7+4,none⟩ rfl (.bool y2) (fun w_ hSw=>hrg.out w_ hSw.below 4 _ rfl) _ Tryz.underlying4 (by rfl)) ?_
      try go_frame
      repeat(first|(refine plPure rfl rfl (by intro w_ hSw;go_simp;first|done|exact rfl) ?_;try go_frame))
      refine plStepL rfl rfl fun K hK=> ?_
      go_wp2_with(first|(go_at_call 105;refine(cl2 _).mono ?_;rintro r w_ ⟨rfl,rfl⟩)|fail)
      refine hK _ _ (I.out) fun hS_=> ?_
      clear hK K hS_
      try go_frame
      refine plDone ?_
      simp only[List.drop]
      go_upto_region 18 with(first|go_skip|(refine q_.m 3 I J 0 (#[.int .i64 Nt,.int .i64 Nf]) ?_;clear I J;intro w4 I J;simp only[List.set]at I)|fail)
      have hL2:=Zh (hL.trans (by rw[if_neg (by decide)]))
      obtain⟨R,hR⟩:∃R,R=Nt:=⟨_,rfl⟩
      rw[←hR]at I hL2
      clear hL hR
     all_goals
      clear hin cl1 cl2
      try go_frame
      have k0:=Zc I 2 0 (.int .i64 m1)
      have k1:=Zc I 2 1 (.int .i64 m2)
      have k2:=Zc I 3 0 (.int .i64 R)
      have k3:=Zc I 3 1 (.int .i64 Nf)
      have z0:=(I.at_ 2 rfl).free
      go_region
      have hg9:=(blk_setCells [.int .i64 (max m1 R),.int .i64 (max m2 Nf)] _ 0 _ (I.at_ 2 rfl)).2
      have hF9:=Zh (q_.keep (q_.put J (I.at_ 2 rfl) (by decide) (by decide) (by decide) hg9) ((Below.refl _ _).drew))
      have HM9:=Zh (I.setc 2 rfl 0 [.int .i64 (max m1 R),.int .i64 (max m2 Nf)] #[.int .i64 (max m1 R),.int .i64 (max m2 Nf)] (by rfl)).drew
      clear I J hg9 k0 k1 k2 k3 z0
      have I:=HM9
      have J:=hF9
      clear HM9 hF9
      simp only[List.set]at I
      go_wp2_with fail
      exact⟨Zh ⟨q+1,d2,⟨R,max m1 R,Nf,max m2 Nf⟩,va2,vb2,by omega,by go_num,hD2,Zh (hS2.trans hL2.out),Zh (I.sub (by repeat(first|exact List.Sublist.refl _|apply List.Sublist.cons_cons|apply List.Sublist.cons))),gA.out _ J,gB.out _ J⟩,by simp[intOf];omega⟩
  ·obtain rfl:q=n:=by omega
   have hx:l.take q=l:=List.take_of_length_le (by rw[hlen.out];exact Nat.le_refl _)
   rw[hx]at hS
   clear hx
   have hPq:=Zh (fun s W=>hPo.out s W (by first|rfl|trivial))
   go_upto_region 19 with fail
   replace J:=Zh (q_.keep J ((Below.refl _ _).drew))
   replace I:=Zh (I.keep ((Below.refl _ _).drew))
   have HMs:=Zh I.out
   refine wp_region_plan (fun w'=>Mem _ w' _) 5 [(0,true),(1,true),(2,true),(3,true),(4,true)] (by kernel_rfl) (by kernel_rfl) HMs.out ?_
   clear HMs
   generalize World.drew _=wd at*
   repeat(first|(refine plPure rfl rfl (by intro w_ hSw;go_simp;first|done|exact rfl) ?_;try go_frame))
   refine plTakeL (by rfl) (yc 0 0 (.int .i64 s.m1) Tryz.underlying3) ?_
   try go_frame
   repeat(first|(refine plPure rfl rfl (by intro w_ hSw;go_simp;first|done|exact rfl) ?_;try go_frame))
   refine plTakeL (by rfl) (yc 0 1 (.int .i64 s.m2) Tryz.underlying3) ?_
   try go_frame
   repeat(first|(refine plPure rfl rfl (by intro w_ hSw;go_simp;first|done|exact rfl) ?_;try go_frame))
   refine plDone ?_
   simp only[List.drop]
   go_wp2_with fail
   try simp only[Exit.inBlock,Exit.then]
   refine bodyPost_ret (v:= .tuple #[.int .i64 s.m1,.int .i64 s.m2,.int .i64 0]) (by simp[results,Tryz.results37,go_sem]) rfl (hPq s _ hS.out I.below)
def AwayC(v:CplV)(bs:List Nat):Prop:=∀a,v.A=some a→a.block∉bs
theorem away_of {a w:World} {L:List (Nat×Array Value×TypeId)} {v:CplV} {bs:List Nat}(hM:Mem a w L)(hN:FreeNew w v)(hs:∀b∈bs,∃e∈L,e.1=b):AwayC v bs:=fun x hx hb=>by
 obtain⟨e,he,e1⟩:=hs _ hb
 have h1:=hN x hx
 have h2:=(Array.getElem?_eq_some_iff.1 (hM.blk e he).at_).1
 rw[e1]at h2
 omega
theorem CplOwn.putI {w w':World} {v:CplV} {c:Cpl} {B:Nat} {C:Array Value} {bs:List Nat}(h:CplOwn w v c)(hB:Blk w B C 3)(hA:AwayC v bs)(hm:B∈bs)(hg:w.grownBy w' (some B)):CplOwn w' v c:=by
 refine⟨h.a.put hB (by decide) (by decide) hg,h.b.put hB (by decide) (by decide) hg,(Stb.tclOwn ..).put h.l hB (by decide) (by decide) hg,(Stb.tclOwn ..).put h.r hB (by decide) (by decide) hg,?_⟩
 obtain⟨⟨b,hf⟩,hl⟩:=h.f
 refine⟨⟨b,hf.kept hg (.inr ?_)⟩,hl⟩
 intro e
 rcases hv:v.A with _|a
 ·rw[hv]at e;cases e
 ·rw[hv]at e
  injection e with e
  exact hA a hv (e▸hm)
theorem row1g_any(lost:Bool)(now most:Int)(B1 B2:Nat)(w:World)(h1:Blk w B1 #[.int .i64 now] 3)(h2:Blk w B2 #[.int .i64 most] 3)(hne:B1≠B2)(n0:0≤now)(n1:now≤4611686018427387904):Calls Tryz.prog 177 #[.bool lost,.pointer (some ⟨B1,0,none⟩),.pointer (some ⟨B2,0,none⟩)] w fun r w'=>r= .returned (.int .i64 (max most (rowN now lost)))∧∃w1,w.grownBy w1 (some B1)∧w1.grownBy w' (some B2)∧Blk w1 B1 #[.int .i64 (rowN now lost)] 3∧Blk w' B2 #[.int .i64 (max most (rowN now lost))] 3:=by
 have I:Hid (Mem { w with heap:=#[]} w [(B1,#[.int .i64 now],3),(B2,#[.int .i64 most],3)]):=Zh ⟨⟨rfl,rfl,rfl,Nat.zero_le _,fun k hk=>absurd hk (Nat.not_lt_zero k)⟩,fun e he=>by
  rcases List.mem_cons.1 he with rfl|he
  ·exact h1
  ·obtain rfl:=List.mem_singleton.1 he
   exact h2,by simp[hne],fun e _=>Nat.zero_le _⟩
 generalize({ w with heap:=#[]}:World)=a0 at I
 have HA:=Zh (World.grownBy.refl w (some B1))
 have uI:=Tryz.underlying3
 have hw1:IntKind.i64.wrap (now+1)=now+1:=IntWalk.i64_in _ (by omega)
 clear h1 h2
 replace uI:=Zh uI
 replace hne:=Zh hne
 cases lost
 all_goals
  go_enter Tryz.func177,Tryz.ntmps177
  have p1:=I.cell 0 rfl
  have p2:=I.cell 1 rfl
  go_wp2_with(first|(refine sN 0 I ?_;clear I p1 p2;intro w4 I hG4;simp only[List.set]at I;have p1:=I.cell 0 rfl;have p2:=I.cell 1 rfl;replace HA:=Zh (HA.trans hG4.out);clear hG4)|(refine sN 1 I ?_;have hB1:=I.at_ 0 rfl;clear I p1 p2;intro w4 I hG4;simp only[List.set]at I;have p1:=I.cell 0 rfl;have p2:=I.cell 1 rfl;have HB:=Zh hG4.out;clear hG4)|fail)
 all_goals
  try go_ret
  exact⟨by simp[rowN],_,HA.out,HB.out,by first|exact hB1|simpa[rowN]using hB1,by first|exact I.at_ 1 rfl|simpa[rowN]using I.at_ 1 rfl⟩
theorem losses_any(c:Cpl)(v:CplV)(l:List Wsh)(Al:Option Addr)(n cl:Nat)(w:World)(h:CplIs w v c)(hl:WshS w Al n l)(hn:v.nf≤1048576)(hsm:chkCp c=0→Small2 c.left∧Small2 c.right):Calls Tryz.prog 36 #[.agg (cplA c v),.slice Al n cl] w (RLoPost (lossC c l) (runC c l) w):=by
 have I:=Zh (Mem.start w)
 have uC:=Tryz.underlying70
 have uW:=Tryz.underlying42
 have uF:=Tryz.underlying149
 have hlen:=hl.len
 have hs:=hl.small
 unfold maxLen at hs
 have cK:=fun W (hb:Below w.heap.size w W)=>startR_any c v l Al n cl W (h.keep hb) (hl.keep hb)
 have hfl:=h.f.len
 generalize hP:RLoPost (lossC c l) (runC c l) w=P
 have hPb:∀e W,runC c l=e→e≠0→Below w.heap.size w W→P (.returned (.tuple #[.int .i64 0,.int .i64 0,.int .i64 e])) W:=fun e W e1 h1 hb=>by
  rw[←hP,show lossC c l=⟨0,0,0,0⟩from by unfold lossC;rw[if_neg (by rw[e1];exact h1)],e1]
  exact⟨rfl,hb⟩
 have hPo:∀s W,runC c l=0→lossN l c ⟨0,0,0,0⟩=s→Below w.heap.size w W→P (.returned (.tuple #[.int .i64 s.m1,.int .i64 s.m2,.int .i64 0])) W:=fun s W e e1 hb=>by
  rw[←hP,show lossC c l=s from by unfold lossC;rw[if_pos e,e1],e]
  exact⟨rfl,hb⟩
 clear hP
 have hok:runC c l=0→chkCp c=0∧n≤4096:=fun e=>by
  unfold runC at e
  split at e
  ·cases e
  rename_i h1
  split at e
  ·cases e
  ·exact⟨Decidable.not_not.1 h1,by omega⟩
 generalize hRC:runC c l=RC at*
 refine zh11 ?_ cK hPb hPo hok hl hlen h uC uW uF hRC;clear cK hPb hPo hok hl hlen h uC uW uF hRC;intro cK hPb hPo hok hl hlen h uC uW uF hRC
 go_enter Tryz.func36,Tryz.ntmps36
 have mk1:Unit:=()
 go_upto_region 1 with(first|go_skip|(clear mk1;refine bA I 70 ?_;clear I;intro gc w1 I hG;clear hG)|fail)
 by_cases e1:RC=0
 case neg=>
  have d1:(RC !=0)=true:=by rw[bne_iff_ne];exact e1
  have hPc:=Zh (fun W=>hPb.out RC W rfl e1)
  replace e1:=Zh e1
  go_wp2_with(first|go_skip|(refine lG 0 I uC.out ?_)|(go_at_call 102;refine(cK _ I.below).mono ?_;rintro r w3 ⟨rfl,p_⟩;replace I:=Zm I p_;clear p_;dsimp only)|fail)
  try simp only[Exit.inBlock,Exit.then]
  refine bodyPost_ret (v:= .tuple #[.int .i64 0,.int .i64 0,.int .i64 RC]) (by simp[results,Tryz.results36,go_sem]) rfl (hPc _ I.below)
 subst e1
 obtain⟨hchk,hn4⟩:=hok.out rfl
 obtain⟨⟨p1,p2,f0,f1⟩,hI⟩:=chkCp_iff.1 hchk
 obtain⟨sl,sr⟩:=hsm hchk
 have hk:CplOk c:=⟨hI,sl,sr,p1,p2⟩
 clear hPb hok hchk p1 p2 hI sl sr hsm
 refine zh3 ?_ hk f0 f1;clear hk f0 f1;intro hk f0 f1
 go_upto_region 4 with(first|go_skip|(refine lG 0 I uC.out ?_)|(go_at_call 102;refine(cK _ I.below).mono ?_;rintro r w3 ⟨rfl,p_⟩;replace I:=Zm I p_;clear p_;dsimp only)|fail)
 have mk2:Unit:=()
 go_upto_region 5 with(first|(clear mk2;go_at_call 104;refine(row_any _).mono ?_;rintro r w4 ⟨B1,B2,rfl,HR⟩;replace I:=Zh (I.join HR);clear HR)|(go_at_call 104;refine(row_any _).mono ?_;rintro r w5 ⟨B3,B4,rfl,HR⟩;replace I:=Zh (I.join HR);clear HR)|fail)
 have HM5:=Zh (I.alloc #[.func (.func 177) #[] #[.pointer (some ⟨B1,0,none⟩),.pointer (some ⟨B2,0,none⟩)],.func (.func 177) #[] #[.pointer (some ⟨B3,0,none⟩),.pointer (some ⟨B4,0,none⟩)]] 149)
 clear I
 obtain⟨gs,hgs⟩:∃pb,pb=w5.heap.size:=⟨_,rfl⟩
 rw[←hgs]at HM5 ⊢
 clear hgs
 generalize w5.alloc (.cells #[.func (.func 177) #[] #[.pointer (some ⟨B1,0,none⟩),.pointer (some ⟨B2,0,none⟩)],.func (.func 177) #[] #[.pointer (some ⟨B3,0,none⟩),.pointer (some ⟨B4,0,none⟩)]] 149)=w6 at*
 have I:=HM5
 clear HM5
 go_upto_region 6 with fail
 have HM5:=Zh (I.alloc #[.int .i64 0,.int .i64 0] 3)
 clear I
 obtain⟨gm,hgm⟩:∃pb,pb=w6.heap.size:=⟨_,rfl⟩
 rw[←hgm]at HM5 ⊢
 clear hgm
 generalize w6.alloc (.cells #[.int .i64 0,.int .i64 0] 3)=w7 at*
 have I:=HM5
 clear HM5
 replace I:Hid (Mem w _ [(gm,#[.int .i64 (⟨0,0,0,0⟩:Los).m1,.int .i64 (⟨0,0,0,0⟩:Los).m2],3),(gs,#[.func (.func 177) #[] #[.pointer (some ⟨B1,0,none⟩),.pointer (some ⟨B2,0,none⟩)],.func (.func 177) #[] #[.pointer (some ⟨B3,0,none⟩),.pointer (some ⟨B4,0,none⟩)]],149),(B3,#[.int .i64 (⟨0,0,0,0⟩:Los).n2],3),(B4,#[.int .i64 (⟨0,0,0,0⟩:Los).m2],3),(B1,#[.int .i64 (⟨0,0,0,0⟩:Los).n1],3),(B2,#[.int .i64 (⟨0,0,0,0⟩:Los).m1],3),(gc,cplA c v,70)]):=I
 clear cK
 go_wp2_with fail
 go_loopw[11,12,13,26] (fun _ _ _ i wr=>Hid (∃(q:Nat) (d:Cpl) (vd:CplV) (s:Los),q≤n∧i= .int .i64 q∧Hid (stepsN (l.take q) c=d)∧Hid (lossN (l.take q) c ⟨0,0,0,0⟩=s)∧Hid (Mem w wr [(gm,#[.int .i64 s.m1,.int .i64 s.m2],3),(gs,#[.func (.func 177) #[] #[.pointer (some ⟨B1,0,none⟩),.pointer (some ⟨B2,0,none⟩)],.func (.func 177) #[] #[.pointer (some ⟨B3,0,none⟩),.pointer (some ⟨B4,0,none⟩)]],149),(B3,#[.int .i64 s.n2],3),(B4,#[.int .i64 s.m2],3),(B1,#[.int .i64 s.n1],3),(B2,#[.int .i64 s.m1],3),(gc,cplA d vd,70)])∧Hid ((q=0∧d=c∧vd=v)∨(CplOwn wr vd d∧AwayC vd [gm,B1,B2,B3,B4])))) (fun _ _ _ i _=>n-(intOf i).toNat)
 case atStart=>exact Zh ⟨0,c,v,⟨0,0,0,0⟩,by omega,rfl,rfl,rfl,I,Zh (.inl ⟨rfl,rfl,rfl⟩)⟩
 case round=>
  clear I
  obtain⟨q,d,vd,s,hq,rfl,hD,hS,I,hO⟩:=hrel.out
  clear hrel
  by_cases hlt:q<n
  ·have hql:q<l.length:=by rw[hlen.out];exact hlt
   obtain⟨bq,off,rfl⟩:=hl.addr (by omega)
   have hrg:=Zh (fun(W:World) (hb:Below w.heap.size w W)=>wsh_range (hl.keep hb) hlt)
   have hD2:stepsN (l.take (q+1)) c=(stepN d (l.getD q default)).1:=by rw[take_wsh hql,steps_snoc,hD.out]
   have hS2:lossN (l.take (q+1)) c ⟨0,0,0,0⟩=losN s (stepN d (l.getD q default)).2 (l.getD q default).fate:=by rw[take_wsh hql,loss_snoc,hD.out,hS.out]
   have hin:LosIn s q:=by
    have:=losIn_all c (l.take q) c ⟨0,0,0,0⟩ 0 ⟨by decide,by decide,by decide,by decide,by decide,by decide⟩
    rw[hS.out,List.length_take,hlen.out,Nat.min_eq_left hq,Int.zero_add]at this
    exact this
   have hkd:CplOk d:=by rw[←hD.out];exact CplOk.steps _ hk.out
   have hst:=still_steps (l.take q) c
   rw[hD.out,List.length_take,hlen.out]at hst
   have hfd0:0≤d.frame:=by rw[hst.frame];have:=f0.out;omega
   have hfd1:d.frame≤2305843009213693952:=by rw[hst.frame];have:=f1.out;omega
   obtain⟨F0,q_,J,gO⟩:∃F:World→Prop,Stc F∧Hid (F wr)∧Hid (∀W,Below w.heap.size w W→F W→CplIs W vd d):=by
    rcases hO.out with⟨_,rfl,rfl⟩|hO
    ·exact⟨_,Stc.true,Zh trivial,Zh fun W hb _=>h.keep hb⟩
    ·exact⟨_,Stc.cplOwn vd d,Zh hO.1,Zh fun W _ h=>h.is⟩
   have hnd:vd.nf≤1048576:=by rw[←((gO.out _ I.out.below J.out).f.len),hst.free,hfl];exact hn
   have hnu:=I.nodup
   simp only[List.map_cons,List.map_nil,List.nodup_cons,List.mem_cons,List.not_mem_nil,or_false,not_or]at hnu
   have hne2:Hid (B1≠B2):=Zh hnu.2.2.2.2.1.1
   have hne4:Hid (B3≠B4):=Zh hnu.2.2.1.1
   generalize l.getD q default=x at*
   have hw:=who3 d x
   have cS:=fun W (q:CplIs W vd d)=>stepP_any d vd x W q hkd hnd hfd0 hfd1
   unfold StepPost at cS
   generalize(stepN d x).2=N9 at*
   generalize(stepN d x).1=d2 at*
   clear hD hS hql hst hfd0 hfd1 hnd hkd hO hnu
   have r1:(q:Int)<(n:Int):=by omega
   have r0:(0:Int)≤(q:Int):=by omega
   obtain⟨xo,xk,xc,⟨y1,y2,y3,y4⟩⟩:=x
   dsimp only at hS2
   obtain⟨n1,m1,n2,m2⟩:=s
   refine zh5 ?_ hD2 hS2 cS hw hin;clear hD2 hS2 cS hw hin;intro hD2 hS2 cS hw hin
   have mk5:Unit:=()
   go_upto_region 9 with(first|go_skip|(refine wpList_load_mid rfl 42 _ rfl bq (off+q*7) rfl (wshE ⟨xo,xk,xc,⟨y1,y2,y3,y4⟩⟩) _ (hrg _ I.below) uW.out rfl (by exact zws) ?_)|(clear mk5;refine q_.a I J wsInfo ?_;clear I J;intro g11 w1 I J)|(refine q_.s 0 I J ?_;clear I J;intro w4 I J;simp only[List.set]at I)|fail)
   go_upto_region 11 with(first|go_skip|(refine lG 0 I uW.out ?_)|(refine lG 7 I uC.out ?_)|(go_at_call 98;refine(cS _ (gO _ I.below J)).mono ?_;rintro r w3 ⟨v3,rfl,⟨hO3,hN⟩,p_⟩;have hAw:Hid (AwayC v3 [gm,B1,B2,B3,B4]):=Zh (away_of I.out hN (by simp));replace I:=Zm I p_;clear J q_ gO F0 p_ hN;replace hO3:=Zh hO3;dsimp only)|(refine sF 7 I ?_;have hBq:=I.at_ 7 rfl;clear I;intro w4 I hG4;simp only[List.set]at I;replace hO3:=Zh ((Stc.cplOwn ..).put hO3.out hBq (by decide) (by decide) (by decide) hG4.out);clear hBq hG4)|fail)
   clear cS
   rcases hw.out with rfl|rfl|rfl
   ·go_wp2_with fail
    exact⟨Zh ⟨q+1,d2,v3,⟨n1,m1,n2,m2⟩,by omega,by go_num,hD2,Zh (hS2.out),Zh (I.sub (by repeat(first|exact List.Sublist.refl _|apply List.Sublist.cons_cons|apply List.Sublist.cons))),Zh (.inr ⟨hO3.out,hAw.out⟩)⟩,by simp[intOf];omega⟩
   ·have hL:=losN_one ⟨y1,y2,y3,y4⟩ hin.out
    have i0:=hin.a0
    have i1:=hin.a1
    have i2:=hin.a2
    have i3:=hin.b0
    have i4:=hin.b1
    have i5:=hin.b2
    dsimp only at hL i0 i1 i2 i3 i4 i5
    have cl1:=fun W (hb1:Blk W B1 #[.int .i64 n1] 3) (hb2:Blk W B2 #[.int .i64 m1] 3)=>row1g_any y1 n1 m1 B1 B2 W hb1 hb2 hne2.out (by omega) (by omega)
    have cl2:=fun W (hb1:Blk W B3 #[.int .i64 n2] 3) (hb2:Blk W B4 #[.int .i64 m2] 3)=>row1g_any y2 n2 m2 B3 B4 W hb1 hb2 hne4.out (by omega) (by omega)
    have hmt:max m2 n2=m2:=by omega
    clear i0 i1 i2 i3 i4 i5
    generalize rowN n1 y1=Nf at*
    generalize rowN n2 y2=Nt at*
    generalize hMf:max m1 Nf=Mf at*
    refine zh5 ?_ cl1 cl2 hL hmt hMf;clear cl1 cl2 hL hmt hMf;intro cl1 cl2 hL hmt hMf
    clear hin
    go_upto_region 13 with fail
    replace hO3:=Zh ((Stc.cplOwn ..).keep hO3.out ((Below.refl _ _).drew))
    replace I:=Zh (I.keep ((Below.refl _ _).drew))
    have HMs:Hid (Mem w _ [(g11,wshA ⟨xo,xk,xc,⟨y1,y2,y3,y4⟩⟩,42),(gs,#[.func (.func 177) #[] #[.pointer (some ⟨B1,0,none⟩),.pointer (some ⟨B2,0,none⟩)],.func (.func 177) #[] #[.pointer (some ⟨B3,0,none⟩),.pointer (some ⟨B4,0,none⟩)]],149)]):=Zh (I.sub (by repeat(first|exact List.Sublist.refl _|apply List.Sublist.cons_cons|apply List.Sublist.cons)))
    refine wp_region_plan (fun w'=>Mem _ w' _) 10 [(0,true),(1,true),(2,true),(3,true),(4,true),(5,true),(6,true),(7,true),(8,true),(9,false)] (by kernel_rfl) (by kernel_rfl) HMs.out ?_
    clear HMs
    generalize World.drew _=wd at*
    repeat(refine plPure rfl rfl (by intro w_ hSw;go_simp;first|done|exact rfl) ?_;try go_frame)
    refine plTakeL (by rfl) (yc 1 0 (.func (.func 177) #[] #[.pointer (some ⟨B1,0,none⟩),.pointer (some ⟨B2,0,none⟩)]) uF.out) ?_
    try go_frame
    repeat(refine plPure rfl rfl (by intro w_ hSw;go_simp;first|done|exact rfl) ?_;try go_frame)
    refine plTakeL (by rfl) (yc 0 3 (.bool y1) Tryz.underlying4) ?_
    try go_frame
    refine plStepL rfl rfl fun K hK=> ?_
    have hb1:=I.at_ 5 rfl
    go_wp2_with(first|(go_at_call 177;refine(cl1 _ hb1 (I.at_ 6 rfl)).mono ?_;rintro r w9 ⟨rfl,w8,g1,g2,b1,b2⟩)|fail)
    replace I:=Zh (I.put 5 rfl g1 b1)
    simp only[List.set]at I
    have hb2:=I.at_ 6 rfl
    replace I:=Zh (I.put 6 rfl g2 b2)
    simp only[List.set]at I
    replace hO3:=Zh ((hO3.putI hb1 hAw.out (by simp) g1).putI hb2 hAw.out (by simp) g2)
    clear hb1 hb2 g1 g2 b1 b2
    refine hK _ _ (I.sub (by repeat(first|exact List.Sublist.refl _|apply List.Sublist.cons_cons|apply List.Sublist.cons))) fun hS_=> ?_
    clear hK K hS_
    try go_frame
    refine plDone ?_
    simp only[List.drop]
    go_upto_region 14 with(first|(have hBq:=I.at_ 1 rfl;refine sM 1 I 0 (#[.int .i64 Mf,.int .i64 m2]) ?_;clear I;intro w10 I hG4;simp only[List.set]at I;replace hO3:=Zh (hO3.putI hBq hAw.out (by simp) hG4.out);clear hBq hG4)|fail)
    have pr:=Zc I 0 3 (.bool y1)
    cases y1
    case' true=>
     go_wp2_with fail
     exact⟨Zh ⟨q+1,d2,v3,⟨Nf,Mf,n2,m2⟩,by omega,by go_num,hD2,Zh (hS2.trans (hL.trans (by rw[if_pos rfl,hmt.out]))),Zh (I.sub (by repeat(first|exact List.Sublist.refl _|apply List.Sublist.cons_cons|apply List.Sublist.cons))),Zh (.inr ⟨hO3.out,hAw.out⟩)⟩,by simp[intOf];omega⟩
    go_upto_region 15 with fail
    clear pr
    have hL2:=hL.out
    rw[if_neg (by decide)]at hL2
    have cl3:=cl2.out
    clear cl2 hL hmt
    generalize max m2 Nt=Mt at*
    replace hL2:=Zh hL2
    replace cl3:=Zh cl3
    replace hO3:=Zh ((Stc.cplOwn ..).keep hO3.out ((Below.refl _ _).drew))
    replace I:=Zh (I.keep ((Below.refl _ _).drew))
    have HMs:Hid (Mem w _ [(g11,wshA ⟨xo,xk,xc,⟨false,y2,y3,y4⟩⟩,42),(gs,#[.func (.func 177) #[] #[.pointer (some ⟨B1,0,none⟩),.pointer (some ⟨B2,0,none⟩)],.func (.func 177) #[] #[.pointer (some ⟨B3,0,none⟩),.pointer (some ⟨B4,0,none⟩)]],149)]):=Zh (I.sub (by repeat(first|exact List.Sublist.refl _|apply List.Sublist.cons_cons|apply List.Sublist.cons)))
    refine wp_region_plan (fun w'=>Mem _ w' _) 12 [(0,true),(1,true),(2,true),(3,true),(4,true),(5,true),(6,true),(7,true),(8,true),(9,true),(10,true),(11,false)] (by kernel_rfl) (by kernel_rfl) HMs.out ?_
    clear HMs
    generalize World.drew _=wd at*
    repeat(refine plPure rfl rfl (by intro w_ hSw;go_simp;first|done|exact rfl) ?_;try go_frame)
    refine plTakeL (by rfl) (yc 1 1 (.func (.func 177) #[] #[.pointer (some ⟨B3,0,none⟩),.pointer (some ⟨B4,0,none⟩)]) uF.out) ?_
    try go_frame
    repeat(refine plPure rfl rfl (by intro w_ hSw;go_simp;first|done|exact rfl) ?_;try go_frame)
    refine plTakeL (by rfl) (yc 0 4 (.bool y2) Tryz.underlying4) ?_
    try go_frame
    refine plStepL rfl rfl fun K hK=> ?_
    have hb1:=I.at_ 3 rfl
    go_wp2_with(first|(go_at_call 177;refine(cl3 _ hb1 (I.at_ 4 rfl)).mono ?_;rintro r w9 ⟨rfl,w8,g1,g2,b1,b2⟩)|fail)
    replace I:=Zh (I.put 3 rfl g1 b1)
    simp only[List.set]at I
    have hb2:=I.at_ 4 rfl
    replace I:=Zh (I.put 4 rfl g2 b2)
    simp only[List.set]at I
    replace hO3:=Zh ((hO3.putI hb1 hAw.out (by simp) g1).putI hb2 hAw.out (by simp) g2)
    clear hb1 hb2 g1 g2 b1 b2
    refine hK _ _ (I.sub (by repeat(first|exact List.Sublist.refl _|apply List.Sublist.cons_cons|apply List.Sublist.cons))) fun hS_=> ?_
    clear hK K hS_
    try go_frame
    refine plDone ?_
    simp only[List.drop]
    go_wp2_with(first|(have hBq:=I.at_ 1 rfl;refine sM 1 I 1 (#[.int .i64 Mf,.int .i64 Mt]) ?_;clear I;intro w10 I hG4;simp only[List.set]at I;replace hO3:=Zh (hO3.putI hBq hAw.out (by simp) hG4.out);clear hBq hG4)|fail)
    exact⟨Zh ⟨q+1,d2,v3,⟨Nf,Mf,Nt,Mt⟩,by omega,by go_num,hD2,Zh (hS2.trans hL2.out),Zh (I.sub (by repeat(first|exact List.Sublist.refl _|apply List.Sublist.cons_cons|apply List.Sublist.cons))),Zh (.inr ⟨hO3.out,hAw.out⟩)⟩,by simp[intOf];omega⟩
   ·have hL:=losN_two ⟨y1,y2,y3,y4⟩ hin.out
    have i0:=hin.a0
    have i1:=hin.a1
    have i2:=hin.a2
    have i3:=hin.b0
    have i4:=hin.b1
    have i5:=hin.b2
    dsimp only at hL i0 i1 i2 i3 i4 i5
    have cl1:=fun W (hb1:Blk W B3 #[.int .i64 n2] 3) (hb2:Blk W B4 #[.int .i64 m2] 3)=>row1g_any y1 n2 m2 B3 B4 W hb1 hb2 hne4.out (by omega) (by omega)
    have cl2:=fun W (hb1:Blk W B1 #[.int .i64 n1] 3) (hb2:Blk W B2 #[.int .i64 m1] 3)=>row1g_any y2 n1 m1 B1 B2 W hb1 hb2 hne2.out (by omega) (by omega)
    have hmt:max m1 n1=m1:=by omega
    clear i0 i1 i2 i3 i4 i5
    generalize rowN n2 y1=Nf at*
    generalize rowN n1 y2=Nt at*
    generalize hMf:max m2 Nf=Mf at*
    refine zh5 ?_ cl1 cl2 hL hmt hMf;clear cl1 cl2 hL hmt hMf;intro cl1 cl2 hL hmt hMf
    clear hin
    go_upto_region 13 with fail
    replace hO3:=Zh ((Stc.cplOwn ..).keep hO3.out ((Below.refl _ _).drew))
    replace I:=Zh (I.keep ((Below.refl _ _).drew))
    have HMs:Hid (Mem w _ [(g11,wshA ⟨xo,xk,xc,⟨y1,y2,y3,y4⟩⟩,42),(gs,#[.func (.func 177) #[] #[.pointer (some ⟨B1,0,none⟩),.pointer (some ⟨B2,0,none⟩)],.func (.func 177) #[] #[.pointer (some ⟨B3,0,none⟩),.pointer (some ⟨B4,0,none⟩)]],149)]):=Zh (I.sub (by repeat(first|exact List.Sublist.refl _|apply List.Sublist.cons_cons|apply List.Sublist.cons)))
    refine wp_region_plan (fun w'=>Mem _ w' _) 10 [(0,true),(1,true),(2,true),(3,true),(4,true),(5,true),(6,true),(7,true),(8,true),(9,false)] (by kernel_rfl) (by kernel_rfl) HMs.out ?_
    clear HMs
    generalize World.drew _=wd at*
    repeat(refine plPure rfl rfl (by intro w_ hSw;go_simp;first|done|exact rfl) ?_;try go_frame)
    refine plTakeL (by rfl) (yc 1 1 (.func (.func 177) #[] #[.pointer (some ⟨B3,0,none⟩),.pointer (some ⟨B4,0,none⟩)]) uF.out) ?_
    try go_frame
    repeat(refine plPure rfl rfl (by intro w_ hSw;go_simp;first|done|exact rfl) ?_;try go_frame)
    refine plTakeL (by rfl) (yc 0 3 (.bool y1) Tryz.underlying4) ?_
    try go_frame
    refine plStepL rfl rfl fun K hK=> ?_
    have hb1:=I.at_ 3 rfl
    go_wp2_with(first|(go_at_call 177;refine(cl1 _ hb1 (I.at_ 4 rfl)).mono ?_;rintro r w9 ⟨rfl,w8,g1,g2,b1,b2⟩)|fail)
    replace I:=Zh (I.put 3 rfl g1 b1)
    simp only[List.set]at I
    have hb2:=I.at_ 4 rfl
    replace I:=Zh (I.put 4 rfl g2 b2)
    simp only[List.set]at I
    replace hO3:=Zh ((hO3.putI hb1 hAw.out (by simp) g1).putI hb2 hAw.out (by simp) g2)
    clear hb1 hb2 g1 g2 b1 b2
    refine hK _ _ (I.sub (by repeat(first|exact List.Sublist.refl _|apply List.Sublist.cons_cons|apply List.Sublist.cons))) fun hS_=> ?_
    clear hK K hS_
    try go_frame
    refine plDone ?_
    simp only[List.drop]
    go_upto_region 14 with(first|(have hBq:=I.at_ 1 rfl;refine sM 1 I 1 (#[.int .i64 m1,.int .i64 Mf]) ?_;clear I;intro w10 I hG4;simp only[List.set]at I;replace hO3:=Zh (hO3.putI hBq hAw.out (by simp) hG4.out);clear hBq hG4)|fail)
    have pr:=Zc I 0 3 (.bool y1)
    cases y1
    case' true=>
     go_wp2_with fail
     exact⟨Zh ⟨q+1,d2,v3,⟨n1,m1,Nf,Mf⟩,by omega,by go_num,hD2,Zh (hS2.trans (hL.trans (by rw[if_pos rfl,hmt.out]))),Zh (I.sub (by repeat(first|exact List.Sublist.refl _|apply List.Sublist.cons_cons|apply List.Sublist.cons))),Zh (.inr ⟨hO3.out,hAw.out⟩)⟩,by simp[intOf];omega⟩
    go_upto_region 15 with fail
    clear pr
    have hL2:=hL.out
    rw[if_neg (by decide)]at hL2
    have cl3:=cl2.out
    clear cl2 hL hmt
    generalize max m1 Nt=Mt at*
    replace hL2:=Zh hL2
    replace cl3:=Zh cl3
    replace hO3:=Zh ((Stc.cplOwn ..).keep hO3.out ((Below.refl _ _).drew))
    replace I:=Zh (I.keep ((Below.refl _ _).drew))
    have HMs:Hid (Mem w _ [(g11,wshA ⟨xo,xk,xc,⟨false,y2,y3,y4⟩⟩,42),(gs,#[.func (.func 177) #[] #[.pointer (some ⟨B1,0,none⟩),.pointer (some ⟨B2,0,none⟩)],.func (.func 177) #[] #[.pointer (some ⟨B3,0,none⟩),.pointer (some ⟨B4,0,none⟩)]],149)]):=Zh (I.sub (by repeat(first|exact List.Sublist.refl _|apply List.Sublist.cons_cons|apply List.Sublist.cons)))
    refine wp_region_plan (fun w'=>Mem _ w' _) 12 [(0,true),(1,true),(2,true),(3,true),(4,true),(5,true),(6,true),(7,true),(8,true),(9,true),(10,true),(11,false)] (by kernel_rfl) (by kernel_rfl) HMs.out ?_
    clear HMs
    generalize World.drew _=wd at*
    repeat(refine plPure rfl rfl (by intro w_ hSw;go_simp;first|done|exact rfl) ?_;try go_frame)
    refine plTakeL (by rfl) (yc 1 0 (.func (.func 177) #[] #[.pointer (some ⟨B1,0,none⟩),.pointer (some ⟨B2,0,none⟩)]) uF.out) ?_
    try go_frame
    repeat(refine plPure rfl rfl (by intro w_ hSw;go_simp;first|done|exact rfl) ?_;try go_frame)
    refine plTakeL (by rfl) (yc 0 4 (.bool y2) Tryz.underlying4) ?_
    try go_frame
    refine plStepL rfl rfl fun K hK=> ?_
    have hb1:=I.at_ 5 rfl
    go_wp2_with(first|(go_at_call 177;refine(cl3 _ hb1 (I.at_ 6 rfl)).mono ?_;rintro r w9 ⟨rfl,w8,g1,g2,b1,b2⟩)|fail)
    replace I:=Zh (I.put 5 rfl g1 b1)
    simp only[List.set]at I
    have hb2:=I.at_ 6 rfl
    replace I:=Zh (I.put 6 rfl g2 b2)
    simp only[List.set]at I
    replace hO3:=Zh ((hO3.putI hb1 hAw.out (by simp) g1).putI hb2 hAw.out (by simp) g2)
    clear hb1 hb2 g1 g2 b1 b2
    refine hK _ _ (I.sub (by repeat(first|exact List.Sublist.refl _|apply List.Sublist.cons_cons|apply List.Sublist.cons))) fun hS_=> ?_
    clear hK K hS_
    try go_frame
    refine plDone ?_
    simp only[List.drop]
    go_wp2_with(first|(have hBq:=I.at_ 1 rfl;refine sM 1 I 0 (#[.int .i64 Mt,.int .i64 Mf]) ?_;clear I;intro w10 I hG4;simp only[List.set]at I;replace hO3:=Zh (hO3.putI hBq hAw.out (by simp) hG4.out);clear hBq hG4)|fail)
    exact⟨Zh ⟨q+1,d2,v3,⟨Nt,Mt,Nf,Mf⟩,by omega,by go_num,hD2,Zh (hS2.trans hL2.out),Zh (I.sub (by repeat(first|exact List.Sublist.refl _|apply List.Sublist.cons_cons|apply List.Sublist.cons))),Zh (.inr ⟨hO3.out,hAw.out⟩)⟩,by simp[intOf];omega⟩
  ·obtain rfl:q=n:=by omega
   have hx:l.take q=l:=List.take_of_length_le (by rw[hlen.out];exact Nat.le_refl _)
   rw[hx]at hS
   have hPq:=Zh (fun s W=>hPo.out s W (by first|rfl|trivial))
   clear hx
   go_upto_region 17 with fail
   replace I:=Zh (I.keep ((Below.refl _ _).drew))
   have HMs:=Zh I.out
   refine wp_region_plan (fun w'=>Mem _ w' _) 7 [(0,true),(1,true),(2,true),(3,true),(4,true),(5,true),(6,true)] (by kernel_rfl) (by kernel_rfl) HMs.out ?_
   clear HMs
   generalize World.drew _=wd at*
   repeat(first|(refine plPure rfl rfl (by intro w_ hSw;go_simp;first|done|exact rfl) ?_;try go_frame)|(refine plTakeL (by rfl) (yields_memc rfl _ _ rfl 0 (fun w_ hSw=>hSw) rfl _ rfl _ rfl _ (by first|exact Tryz.underlying3|exact Tryz.underlying4|exact Tryz.underlying28|exact Tryz.underlying27) (by rfl)) ?_;try go_frame))
   refine plDone ?_
   simp only[List.drop]
   go_wp2_with fail
   try simp only[Exit.inBlock,Exit.then]
   refine bodyPost_ret (v:= .tuple #[.int .i64 s.m1,.int .i64 s.m2,.int .i64 0]) (by simp[results,Tryz.results36,go_sem]) rfl (hPq s _ hS.out I.below)
theorem few_small2 {t:Tab}(h:fewT t=true)(hT:TabOk t):Small2 t:=by
 unfold fewT fewC at h
 simp only[Bool.and_eq_true,Bool.or_eq_true,decide_eq_true_eq]at h
 have h1:=hT.size
 have h2:=hT.len
 exact⟨by omega,by omega⟩
theorem few_cp {c:Cpl} {nf:Nat}(h:fewCp c nf=true):nf≤1048576∧(chkCp c=0→Small2 c.left∧Small2 c.right):=by
 unfold fewCp at h
 simp only[Bool.and_eq_true,decide_eq_true_eq]at h
 obtain⟨_,_,h1,h2,h3⟩:=h
 exact⟨by omega,fun e=>⟨few_small2 h1 (chkCp_iff.1 e).2.fa.tab,few_small2 h2 (chkCp_iff.1 e).2.fb.tab⟩⟩
theorem lawRuns_any(c:Cpl)(l:List Wsh)(v:CplV)(Al:Option Addr)(n cl:Nat)(w:World)(h:CplIs w v c)(hl:WshS w Al n l):Calls Tryz.prog 7 #[.agg (cplA c v),.slice Al n cl] w fun r w'=>r= .returned (.bool true)∧Below w.heap.size w w':=by
 have I:=Zh (Mem.start w)
 obtain⟨F0,q_,J⟩:∃F:World→Prop,Stc F∧Hid (F w):=⟨_,Stc.true,trivial⟩
 have uC:=Tryz.underlying70
 have hlen:=hl.len
 have hsm:=hl.small
 unfold maxLen at hsm
 have cAw:=fun W=>awake28_any W
 have cFw:=fun W (hb:Below w.heap.size w W)=>fewCp_any c v W (h.keep hb)
 have cS:=fun hn hs W (hb:Below w.heap.size w W)=>runP_any c v l Al n cl W (h.keep hb) (hl.keep hb) hn hs
 unfold RunCPost at cS
 have cR:=fun hs W (hb:Below w.heap.size w W)=>rrun_any c v l Al n cl W (h.keep hb) (hl.keep hb) hs
 unfold RRunPost at cR
 have cL:=fun hn hs W (hb:Below w.heap.size w W)=>losses_any c v l Al n cl W (h.keep hb) (hl.keep hb) hn hs
 have cM:=fun hs W (hb:Below w.heap.size w W)=>rlosses_any c v l Al n cl W (h.keep hb) (hl.keep hb) hs
 unfold RLoPost at cL cM
 have cQ:=fun d vd ve W (h1:CplIs W vd d) (h2:CplIs W ve d)=>sameC_any d d vd ve W h1 h2
 have cE:=fun A5 A6 n5 c5 n6 c6 xs W (q1:Sls boolE 1 W A5 n5 xs) (q2:Sls boolE 1 W A6 n6 xs)=>eqBool_any A5 A6 n5 c5 n6 c6 xs xs W q1 q2
 simp only[eq_self,decide_true]at cQ cE
 have hfew:=fun(e:fewCp c v.nf=true)=>few_cp e
 generalize runCN c l=N9 at*
 generalize runCB c l=bs at*
 generalize runC c l=E9 at*
 generalize lossC c l=S9 at*
 generalize fewCp c v.nf=B1 at*
 refine zh12 ?_ h cAw cFw cS cR cL cM cQ cE hfew hl hlen;clear h cAw cFw cS cR cL cM cQ cE hfew hl hlen;intro h cAw cFw cS cR cL cM cQ cE hfew hl hlen
 replace uC:=Zh uC
 go_enter Tryz.func7,Tryz.ntmps7
 have mk1:Unit:=()
 go_upto_region 1 with(first|go_skip|(clear mk1;refine q_.b I J 70 ?_;clear I J;intro gc w1 I J)|fail)
 have mk2:Unit:=()
 go_upto_region 3 with(first|go_skip|(go_at_call 29;clear mk2;refine q_.k I J (cAw _) ?_;clear I J;intro w3 I J;dsimp only)|fail)
 have mk3:Unit:=()
 cases B1
 case false=>
  go_wp2_with(first|go_skip|(refine lG 0 I uC.out ?_)|(go_at_call 30;clear mk3;refine q_.k I J (cFw _ I.below) ?_;clear I J;intro w3 I J;dsimp only)|fail)
  try simp only[Exit.inBlock,Exit.then]
  go_ret
  exact⟨by first|rfl|trivial,I.below⟩
 obtain⟨hn,hs⟩:=hfew.out rfl
 have cS2:=Zh (cS hn hs)
 have cR2:=Zh (cR hs)
 have cL2:=Zh (cL hn hs)
 have cM2:=Zh (cM hs)
 clear hfew cS cR cL cM hn hs
 by_cases c1:(60:Int)<(n:Int)
 case' pos=>
  have c2:decide ((60:Int)<(n:Int))=true:=decide_eq_true c1
  by_cases c3:(n:Int)≤4096
  case pos=>
   have c4:decide ((n:Int)≤4096)=true:=decide_eq_true c3
   go_wp2_with(first|go_skip|(refine lG 0 I uC.out ?_)|(go_at_call 30;clear mk3;refine q_.k I J (cFw _ I.below) ?_;clear I J;intro w3 I J;dsimp only)|fail)
   try simp only[Exit.inBlock,Exit.then]
   go_ret
   exact⟨by first|rfl|trivial,I.below⟩
  have c4:decide ((n:Int)≤4096)=false:=decide_eq_false c3
  by_cases c5:(4100:Int)<(n:Int)
  case pos=>
   have c6:decide ((4100:Int)<(n:Int))=true:=decide_eq_true c5
   go_wp2_with(first|go_skip|(refine lG 0 I uC.out ?_)|(go_at_call 30;clear mk3;refine q_.k I J (cFw _ I.below) ?_;clear I J;intro w3 I J;dsimp only)|fail)
   try simp only[Exit.inBlock,Exit.then]
   go_ret
   exact⟨by first|rfl|trivial,I.below⟩
  have c6:decide ((4100:Int)<(n:Int))=false:=decide_eq_false c5
  go_upto_region 5 with(first|go_skip|(refine lG 0 I uC.out ?_)|(go_at_call 30;clear mk3;refine q_.k I J (cFw _ I.below) ?_;clear I J;intro w3 I J;dsimp only)|fail)
  clear c1 c2 c3 c4 c5 c6
 case' neg=>
  have c2:decide ((60:Int)<(n:Int))=false:=decide_eq_false c1
  have c5:¬(4100:Int)<(n:Int):=by omega
  have c6:decide ((4100:Int)<(n:Int))=false:=decide_eq_false c5
  go_upto_region 5 with(first|go_skip|(refine lG 0 I uC.out ?_)|(go_at_call 30;clear mk3;refine q_.k I J (cFw _ I.below) ?_;clear I J;intro w3 I J;dsimp only)|fail)
  clear c1 c2 c5 c6
 all_goals
  clear cFw cAw
  have mk4:Unit:=()
  have mk5:Unit:=()
  go_upto_region 6 with(first|go_skip|(refine lG 0 I uC.out ?_)|(go_at_call 34;clear mk4;refine(cS2 _ I.below).mono ?_;rintro r w3 ⟨v1,A5,n5,c5,b5,rfl,hC5,HO,hn5,p_⟩;replace HO:=Zh HO;replace hn5:=Zh hn5;replace I:=Zm I p_;replace J:=q_.z J p_;clear p_;refine sC q_ J (Stc.cplOwn v1 _) hC5 ?_;clear q_ J hC5;intro F1 q_ J hU gC;clear hU;dsimp only)|(clear mk5;refine aN I cpInfo ?_;clear I;intro g5 w1 I hG hN9;replace J:=q_.y J hG;replace HO:=Zh (owns_keep HO.out hG.out);clear hG hN9)|(refine sF 0 I ?_;have hBq:=I.at_ 0 rfl;clear I;intro w4 I hG4;simp only[List.set]at I;replace J:=q_.p J hBq hG4;replace HO:=Zh (HO.kept hG4.out (.inr (row_ne_blk HO.out hBq (by decide))));clear hBq hG4)|fail)
  have mk6:Unit:=()
  have mk7:Unit:=()
  go_upto_region 7 with(first|go_skip|(refine lG 1 I uC.out ?_)|(go_at_call 35;clear mk6;refine(cR2 _ I.below).mono ?_;rintro r w3 ⟨v2,A6,n6,c6,b6,rfl,hA5,hB5,hr,HO2,hn6,p_⟩;replace hr:=Zh hr;replace HO2:=Zh HO2;replace hn6:=Zh hn6;replace I:=Zm I p_;replace J:=q_.z J p_;replace HO:=Zh (owns_keep HO.out p_);clear p_;refine sC q_ J (Stc.ownC _ _ _ _) hA5 ?_;clear q_ J hA5;intro F2 q_ J hU gA;replace gC:=Zu gC hU;clear hU;refine sC q_ J (Stc.ownC _ _ _ _) hB5 ?_;clear q_ J hB5;intro F3 q_ J hU gB;replace gC:=Zu gC hU;replace gA:=Zu gA hU;clear hU;dsimp only)|(clear mk7;refine aN I cpInfo ?_;clear I;intro g8 w1 I hG hN9;replace J:=q_.y J hG;replace HO:=Zh (owns_keep HO.out hG.out);replace HO2:=Zh (owns_keep HO2.out hG.out);clear hG hN9)|(refine sF 0 I ?_;have hBq:=I.at_ 0 rfl;clear I;intro w4 I hG4;simp only[List.set]at I;replace J:=q_.p J hBq hG4;replace HO:=Zh (HO.kept hG4.out (.inr (row_ne_blk HO.out hBq (by decide))));replace HO2:=Zh (HO2.kept hG4.out (.inr (row_ne_blk HO2.out hBq (by decide))));clear hBq hG4)|fail)
  have mk8:Unit:=()
  go_upto_region 8 with(first|go_skip|(refine lG 2 I uC.out ?_)|(go_at_call 36;clear mk8;refine(cL2 _ I.below).mono ?_;rintro r w3 ⟨rfl,p_⟩;replace I:=Zm I p_;replace J:=q_.z J p_;replace HO:=Zh (owns_keep HO.out p_);replace HO2:=Zh (owns_keep HO2.out p_);clear p_;dsimp only)|fail)
  have mk9:Unit:=()
  go_upto_region 9 with(first|go_skip|(refine lG 2 I uC.out ?_)|(go_at_call 37;clear mk9;refine(cM2 _ I.below).mono ?_;rintro r w3 ⟨rfl,p_⟩;replace I:=Zm I p_;replace J:=q_.z J p_;replace HO:=Zh (owns_keep HO.out p_);replace HO2:=Zh (owns_keep HO2.out p_);clear p_;dsimp only)|fail)
  have mk10:Unit:=()
  have mk11:Unit:=()
  go_wp2_with(first|go_skip|(refine lG 1 I uC.out ?_)|(refine lG 0 I uC.out ?_)|(go_at_call 28;clear mk10;refine q_.k I J (cE A5 A6 n5 c5 n6 c6 bs _ (Sls.of_owns boolE_len HO.out hn5.out).2 (Sls.of_owns boolE_len HO2.out hn6.out).2) ?_;clear I J;intro w3 I J;dsimp only)|(go_at_call 33;clear mk11;refine q_.k I J (cQ N9 v1 v2 _ (gC _ J).is (hr.is h.out I.below (gA _ J) (gB _ J))) ?_;clear I J;intro w3 I J;dsimp only)|fail)
  try simp only[Exit.inBlock,Exit.then]
  go_ret
  exact⟨by first|rfl|trivial,I.below⟩
end Tx
end Go.Proofs.YtfamifgchgolpaaGreat
