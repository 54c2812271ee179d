/- Chapter 28: parties, a deferred end of an exchange: the program's. -/
import Derived.Defers
import Derived.Maps.RangeWalk
import Derived.Test.YtfamifgchgolpaaGreatSb
import Derived.Test.YtfamifgchgolpaaGreatVq
import Derived.Test.YtfamifgchgolpaaGreatCb
set_option linter.unusedVariables false
set_option linter.unusedSimpArgs false
set_option maxRecDepth 100000
set_option maxHeartbeats 8000000
namespace Go.Proofs.YtfamifgchgolpaaGreat
open Go Go.RowKit Go.Sort Go.Shelf Go.Maps
namespace Tx
open Sw Mm Pl
def ptyA(B off woff:Nat)(t:Tab)(vt:TabV):Array Value:=#[.pointer (some ⟨B,off,none⟩),.int .i64 t.node,.int .i64 t.length,.slice vt.A vt.n vt.c,.pointer (some ⟨B,woff,none⟩)]
def ptyN(B:Nat)(o:Bool)(tl:Tab)(vl:TabV)(tr:Tab)(vr:TabV):Array Value:=if o=true then ptyA B 28 66 tr vr else ptyA B 0 65 tl vl
theorem paInfo:(Tryz.prog.info? 199).map (fun i=>(i.zero,i.size,i.bytes))=some (some (.agg #[.pointer none,.int .i64 0,.int .i64 0,.slice none 0 0,.pointer none]),5,56):=by kernel_rfl
theorem zpa:(Tryz.prog.info? 199).map (·.size)=some 5:=by kernel_rfl
theorem faInfo:(Tryz.prog.info? 40).map (fun i=>(i.zero,i.size,i.bytes))=some (some (.agg #[.bool false,.bool false,.bool false,.bool false]),4,4):=by kernel_rfl
theorem zbool:(Tryz.prog.info? 4).map (·.size)=some 1:=by kernel_rfl
theorem results_cc {P:Program} {fn:Func} {s r:Tmp} {ty tz:TypeId}(hr:fn.results=#[.cell s ty,.cell r tz]) {tmps:Array Value} {w:World} {B E:Nat} {C D:Array Value} {t k:TypeId}(hB:Blk w B C t)(hE:Blk w E D k)(hs:tmps.getD s undef= .pointer (some ⟨B,0,none⟩))(hs2:tmps.getD r undef= .pointer (some ⟨E,0,none⟩))
 (d:TypeDesc) (hu:P.underlying ty=some d) (hd:(match d with| .struct _| .array _ _=>true|_=>false)=true) (hi:(P.info? ty).map (·.size)=some C.size) (d2:TypeDesc) (hu2:P.underlying tz=some d2) (hd2:(match d2 with| .struct _| .array _ _=>true|_=>false)=true) (hi2:(P.info? tz).map (·.size)=some D.size):
 (results fn tmps).run P w= .ok (.tuple #[.agg C,.agg D]) w:=by
 have h1:=run_loadVar_blk hB ty d hu hd hi
 have h2:=run_loadVar_blk hE tz d2 hu2 hd2 hi2
 rw[Array.getD_eq_getD_getElem?]at hs hs2
 simp[results,hr,hs,hs2,asAddr,h1,h2]
def PtyPost(a0:World)(F:World→Prop)(B:Nat)(L:List (Nat×Array Value×TypeId))(c:Cpl)(v:CplV)(o:Bool)(r:Ending)(w':World):Prop:=r= .returned (.tuple #[.agg (ptyN B o c.left v.l c.right v.r),.agg (ptyN B (!o) c.left v.l c.right v.r)])∧Mem a0 w' ((B,cplA c v,70)::L)∧F w'
theorem parties_any(ea eb:Ed)(tl tr:Tab)(f:List Int)(per frm:Int)(wa wb:Bool)(va vb:EdV)(vl vr:TabV)(A:Option Addr)(nf cf:Nat)(o:Bool)(B:Nat)(a0 w:World)(L:List (Nat×Array Value×TypeId))(F:World→Prop)(h0:Mem a0 w ((B,cplA ⟨ea,eb,tl,tr,f,per,frm,wa,wb⟩ ⟨va,vb,vl,vr,A,nf,cf⟩,70)::L))(q_:Stc F)(J:Hid (F w)):Calls Tryz.prog 169 #[.pointer (some ⟨B,0,none⟩),.bool o] w (PtyPost a0 F B L ⟨ea,eb,tl,tr,f,per,frm,wa,wb⟩ ⟨va,vb,vl,vr,A,nf,cf⟩ o):=by
 have I:=Zh h0
 clear h0
 have uT:=Tryz.underlying37
 have uP:=Tryz.underlying199
 replace uT:=Zh uT
 replace uP:=Zh uP
 generalize hP:PtyPost a0 F B L ⟨ea,eb,tl,tr,f,per,frm,wa,wb⟩ ⟨va,vb,vl,vr,A,nf,cf⟩ o=P
 have hPo:∀W,Mem a0 W ((B,cplA ⟨ea,eb,tl,tr,f,per,frm,wa,wb⟩ ⟨va,vb,vl,vr,A,nf,cf⟩,70)::L)→F W→P (.returned (.tuple #[.agg (ptyN B o tl vl tr vr),.agg (ptyN B (!o) tl vl tr vr)])) W:=fun W h1 h2=>by rw[←hP];exact⟨rfl,h1,h2⟩
 clear hP
 replace hPo:=Zh hPo
 go_enter Tryz.func169,Tryz.ntmps169
 have mk1:Unit:=()
 have mk2:Unit:=()
 go_upto_region 1 with(first|go_skip|(clear mk1;refine q_.a I J paInfo ?_;clear I J;intro r1 w1 I J)|(clear mk2;refine q_.a I J paInfo ?_;clear I J;intro r2 w1 I J)|fail)
 replace J:=Zh (q_.keep J ((Below.refl _ _).drew))
 replace I:=Zh (I.keep ((Below.refl _ _).drew))
 have HMs:=Zh I.out
 refine wp_region_pt (fun w'=>Mem _ w' _) 25 (.take 0 (.take 1 (.take 2 (.take 3 (.take 4 (.take 5 (.take 6 (.take 7 (.take 8 (.take 9 (.take 10 (.take 11 (.take 12 (.take 13 (.take 14 (.take 15 (.take 16 (.take 17 (.take 18 (.take 19 (.take 20 (.take 21 (.fork 22 (.only 23 (.only 24 .done)) 23 (.only 22 (.only 24 .done))))))))))))))))))))))))) (by kernel_rfl) (by kernel_rfl) HMs.out ?_
 clear HMs
 generalize World.drew _=wd at*
 iterate 6 (refine ptPure rfl rfl (by intro w_ hSw;clear hSw;go_simp;first|done|exact rfl) ?_;try go_frame)
 refine ptTake (by rfl) (ym 2 (tabA tl vl) uT.out) ?_
 try go_frame
 iterate 3 (refine ptPure rfl rfl (by intro w_ hSw;clear hSw;go_simp;first|done|exact rfl) ?_;try go_frame)
 refine ptPure (v:= .agg (ptyA B 0 65 tl vl)) rfl rfl (fun w_ _=>by kernel_rfl) ?_
 try go_frame
 iterate 6 (refine ptPure rfl rfl (by intro w_ hSw;clear hSw;go_simp;first|done|exact rfl) ?_;try go_frame)
 refine ptTake (by rfl) (ym 2 (tabA tr vr) uT.out) ?_
 try go_frame
 iterate 3 (refine ptPure rfl rfl (by intro w_ hSw;clear hSw;go_simp;first|done|exact rfl) ?_;try go_frame)
 refine ptPure (v:= .agg (ptyA B 28 66 tr vr)) rfl rfl (fun w_ _=>by kernel_rfl) ?_
 try go_frame
 refine ptFork rfl rfl rfl rfl (fun K hK=> ?f1) (fun K hK=> ?f2)
 case' f1=>
  go_wp2_with(first|(refine q_.a I J paInfo ?_;clear I J;intro p6 w1 I J)|fail)
  refine hK _ _ I.tail fun hS_=> ?_
  clear hK K hS_
  try go_frame
  refine ptOnly rfl rfl fun K hK=> ?_
  go_wp2_with(first|(refine q_.a I J paInfo ?_;clear I J;intro p7 w1 I J)|fail)
  refine hK _ _ (I.tail.tail) fun hS_=> ?_
  clear hK K hS_
  try go_frame
  refine ptOnly rfl rfl fun K hK=> ?_
  go_wp2_with(first|(refine q_.s 1 I J ?_;clear I J;intro w4 I J;simp only[List.set]at I)|fail)
  refine hK _ _ (I.tail.tail) fun hS_=> ?_
  clear hK K hS_
  try go_frame
  refine ptDone ?_
  simp only[List.drop]
 case' f2=>
  go_wp2_with(first|(refine q_.a I J paInfo ?_;clear I J;intro p7 w1 I J)|fail)
  refine hK _ _ I.tail fun hS_=> ?_
  clear hK K hS_
  try go_frame
  refine ptOnly rfl rfl fun K hK=> ?_
  go_wp2_with(first|(refine q_.a I J paInfo ?_;clear I J;intro p6 w1 I J)|fail)
  refine hK _ _ (I.tail.tail) fun hS_=> ?_
  clear hK K hS_
  try go_frame
  refine ptOnly rfl rfl fun K hK=> ?_
  go_wp2_with(first|(refine q_.s 0 I J ?_;clear I J;intro w4 I J;simp only[List.set]at I)|fail)
  refine hK _ _ (I.tail.tail) fun hS_=> ?_
  clear hK K hS_
  try go_frame
  refine ptDone ?_
  simp only[List.drop]
  replace I:=Zh I.swap2
 all_goals
  go_upto_region 2 with(first|go_skip|(refine q_.s 0 I J ?_;clear I J;intro w4 I J;simp only[List.set]at I)|fail)
  cases o
  case' true=>
   go_upto_region 3 with fail
   replace J:=Zh (q_.keep J ((Below.refl _ _).drew))
   replace I:=Zh (I.keep ((Below.refl _ _).drew))
   have HMs:=Zh I.out
   replace HMs:=Zh (HMs.less 3)
   simp only[List.eraseIdx]at HMs
   refine wp_region_pt (fun w'=>Mem _ w' _) 3 (.take 0 (.take 1 (.only 2 .done))) (by kernel_rfl) (by kernel_rfl) HMs.out ?_
   clear HMs
   generalize World.drew _=wd2 at*
   refine ptTake (by rfl) (yw 0 uP.out) ?_
   try go_frame
   refine ptTake (by rfl) (yw 1 uP.out) ?_
   try go_frame
   refine ptOnly rfl rfl fun K hK=> ?_
   go_wp2_with(first|(refine q_.s 3 I J ?_;clear I J;intro w4 I J;simp only[List.set]at I)|fail)
   refine hK _ _ (I.less 3) fun hS_=> ?_
   clear hK K hS_
   try go_frame
   refine ptDone ?_
   simp only[List.drop]
   go_wp2_with(first|go_skip|(refine q_.s 2 I J ?_;clear I J;intro w4 I J;simp only[List.set]at I)|fail)
  case' false=>
   go_upto_region 4 with fail
   replace J:=Zh (q_.keep J ((Below.refl _ _).drew))
   replace I:=Zh (I.keep ((Below.refl _ _).drew))
   have HMs:=Zh I.out
   replace HMs:=Zh (HMs.less 3)
   simp only[List.eraseIdx]at HMs
   refine wp_region_pt (fun w'=>Mem _ w' _) 3 (.take 0 (.take 1 (.only 2 .done))) (by kernel_rfl) (by kernel_rfl) HMs.out ?_
   clear HMs
   generalize World.drew _=wd2 at*
   refine ptTake (by rfl) (yw 1 uP.out) ?_
   try go_frame
   refine ptTake (by rfl) (yw 0 uP.out) ?_
   try go_frame
   refine ptOnly rfl rfl fun K hK=> ?_
   go_wp2_with(first|(refine q_.s 3 I J ?_;clear I J;intro w4 I J;simp only[List.set]at I)|fail)
   refine hK _ _ (I.less 3) fun hS_=> ?_
   clear hK K hS_
   try go_frame
   refine ptDone ?_
   simp only[List.drop]
   go_wp2_with(first|go_skip|(refine q_.s 2 I J ?_;clear I J;intro w4 I J;simp only[List.set]at I)|fail)
  all_goals
   try simp only[Exit.inBlock,Exit.then]
   refine bodyPost_ret (results_cc rfl (I.at_ 3 rfl) (I.at_ 2 rfl) rfl rfl _ uP.out rfl (by exact zpa) _ uP.out rfl (by exact zpa)) rfl ?_
   exact hPo.out _ I.tail.tail.tail.tail J
theorem exDef0_any(E y:Ed)(tl tr:Tab)(f:List Int)(per frm:Int)(wx wy:Bool)(ve vy:EdV)(vl vr:TabV)(A:Option Addr)(nf cf:Nat)(B ga:Nat)(a0 w:World)(L:List (Nat×Array Value×TypeId))(F:World→Prop)(h0:Mem a0 w ((ga,ptyA B 0 65 tl vl,199)::(B,cplA ⟨E,y,tl,tr,f,per,frm,wx,wy⟩ ⟨ve,vy,vl,vr,A,nf,cf⟩,70)::L))(q_:Stc F)(J:Hid (F w))(hE:EdOwn w ve E):
 CallsD Tryz.prog 213 #[.pointer (some ⟨ga,0,none⟩)] .returning w fun e u' w'=>u'= .returning∧e= .returned (.tuple #[])∧∃vx,Mem a0 w' ((ga,ptyA B 0 65 tl vl,199)::(B,cplA ⟨expN E 0 0,y,tl,tr,f,per,frm,wx,wy⟩ ⟨vx,vy,vl,vr,A,nf,cf⟩,70)::L)∧F w'∧EdOwn w' vx (expN E 0 0):=by
 have I:=Zh h0
 clear h0
 have uE:=Tryz.underlying32
 have uP:=Tryz.underlying196
 have cX:=fun W (hE:EdOwn W ve E)=>expire_own E ve 0 0 W hE (by decide) (by decide)
 unfold ExpOwn at cX
 generalize expN E 0 0=X at*
 generalize expB E 0 0=XB at*
 obtain⟨F1,hFs2,hF2,hU,hNw⟩:=stc_add q_ J (Stc.ed ve E) hE
 have gF:=Zh hU
 have gE:=Zh hNw
 clear q_ J hU hNw hE
 have q_:=hFs2
 have J:=hF2
 clear hFs2 hF2
 refine zh3 ?_ cX uE uP;clear cX uE uP;intro cX uE uP
 go_enter_d Tryz.func213,Tryz.ntmps213
 go_upto_region 0 with fail
 replace J:=Zh (q_.keep J ((Below.refl _ _).drew))
 replace I:=Zh (I.keep ((Below.refl _ _).drew))
 have HMs:=Zh I.out
 refine wp_region_two (fun w'=>Mem _ w' _) 11 [(0,1),(1,2),(2,1),(3,2),(4,1),(5,2),(6,0),(7,1),(8,1),(9,1),(10,1),(11,0)] (by kernel_rfl) (by kernel_rfl) HMs.out ?_
 clear HMs
 generalize World.drew _=wd at*
 repeat(refine p2Q ?_;try go_frame)
 refine p2Take (by rfl) (yc 0 0 (.pointer (some ⟨B,0,none⟩)) uP.out) ?_
 try go_frame
 repeat(refine p2Q ?_;try go_frame)
 refine p2Take (by rfl) (yc 0 0 (.pointer (some ⟨B,0,none⟩)) uP.out) ?_
 try go_frame
 repeat(refine p2Q ?_;try go_frame)
 refine p2Take (by rfl) (ym 1 (endA E ve) uE.out) ?_
 try go_frame
 repeat(refine p2Q ?_;try go_frame)
 refine p2Step rfl rfl fun K hK=> ?_
 go_wp2_with(first|(go_at_call 201;refine(cX _ (gE _ J)).mono ?_;rintro r w3 ⟨vx,rfl,hX,p_⟩)|fail)
 refine hK _ _ (fun _=>I.keep p_) fun hS_=> ?_
 clear hK K hS_
 try go_frame
 replace I:=Zm I p_
 replace J:=q_.z J p_
 clear p_ cX
 refine sC q_ J (Stc.ed vx _) hX ?_
 clear q_ J hX
 intro F2 q_ J hU gN
 replace gF:=Zu gF hU
 replace gE:=Zu gE hU
 clear hU
 repeat(refine p2Q ?_;try go_frame)
 refine p2Step rfl rfl fun K hK=> ?_
 go_wp2_with(first|(refine q_.m 1 I J 0 (cplA ⟨X,y,tl,tr,f,per,frm,wx,wy⟩ ⟨vx,vy,vl,vr,A,nf,cf⟩) ?_;clear I J;intro w4 I J;simp only[List.set]at I)|fail)
 refine hK _ _ (fun h=>absurd h (by decide)) fun hS_=> ?_
 clear hK K hS_
 try go_frame
 refine p2Done ?_
 go_wp2_with fail
 try simp only[Exit.inBlock,Exit.then]
 go_end0
 exact⟨rfl,vx,I.out,gF.out _ J,gN.out _ J⟩
theorem exDef1_any(E y:Ed)(tl tr:Tab)(f:List Int)(per frm:Int)(wx wy:Bool)(ve vy:EdV)(vl vr:TabV)(A:Option Addr)(nf cf:Nat)(B ga:Nat)(a0 w:World)(L:List (Nat×Array Value×TypeId))(F:World→Prop)(h0:Mem a0 w ((ga,ptyA B 28 66 tr vr,199)::(B,cplA ⟨y,E,tl,tr,f,per,frm,wy,wx⟩ ⟨vy,ve,vl,vr,A,nf,cf⟩,70)::L))(q_:Stc F)(J:Hid (F w))(hE:EdOwn w ve E):
 CallsD Tryz.prog 213 #[.pointer (some ⟨ga,0,none⟩)] .returning w fun e u' w'=>u'= .returning∧e= .returned (.tuple #[])∧∃vx,Mem a0 w' ((ga,ptyA B 28 66 tr vr,199)::(B,cplA ⟨y,expN E 0 0,tl,tr,f,per,frm,wy,wx⟩ ⟨vy,vx,vl,vr,A,nf,cf⟩,70)::L)∧F w'∧EdOwn w' vx (expN E 0 0):=by
 have I:=Zh h0
 clear h0
 have uE:=Tryz.underlying32
 have uP:=Tryz.underlying196
 have cX:=fun W (hE:EdOwn W ve E)=>expire_own E ve 0 0 W hE (by decide) (by decide)
 unfold ExpOwn at cX
 generalize expN E 0 0=X at*
 generalize expB E 0 0=XB at*
 obtain⟨F1,hFs2,hF2,hU,hNw⟩:=stc_add q_ J (Stc.ed ve E) hE
 have gF:=Zh hU
 have gE:=Zh hNw
 clear q_ J hU hNw hE
 have q_:=hFs2
 have J:=hF2
 clear hFs2 hF2
 refine zh3 ?_ cX uE uP;clear cX uE uP;intro cX uE uP
 go_enter_d Tryz.func213,Tryz.ntmps213
 go_upto_region 0 with fail
 replace J:=Zh (q_.keep J ((Below.refl _ _).drew))
 replace I:=Zh (I.keep ((Below.refl _ _).drew))
 have HMs:=Zh I.out
 refine wp_region_two (fun w'=>Mem _ w' _) 11 [(0,1),(1,2),(2,1),(3,2),(4,1),(5,2),(6,0),(7,1),(8,1),(9,1),(10,1),(11,0)] (by kernel_rfl) (by kernel_rfl) HMs.out ?_
 clear HMs
 generalize World.drew _=wd at*
 repeat(refine p2Q ?_;try go_frame)
 refine p2Take (by rfl) (yc 0 0 (.pointer (some ⟨B,28,none⟩)) uP.out) ?_
 try go_frame
 repeat(refine p2Q ?_;try go_frame)
 refine p2Take (by rfl) (yc 0 0 (.pointer (some ⟨B,28,none⟩)) uP.out) ?_
 try go_frame
 repeat(refine p2Q ?_;try go_frame)
 refine p2Take (by rfl) (ym 1 (endA E ve) uE.out) ?_
 try go_frame
 repeat(refine p2Q ?_;try go_frame)
 refine p2Step rfl rfl fun K hK=> ?_
 go_wp2_with(first|(go_at_call 201;refine(cX _ (gE _ J)).mono ?_;rintro r w3 ⟨vx,rfl,hX,p_⟩)|fail)
 refine hK _ _ (fun _=>I.keep p_) fun hS_=> ?_
 clear hK K hS_
 try go_frame
 replace I:=Zm I p_
 replace J:=q_.z J p_
 clear p_ cX
 refine sC q_ J (Stc.ed vx _) hX ?_
 clear q_ J hX
 intro F2 q_ J hU gN
 replace gF:=Zu gF hU
 replace gE:=Zu gE hU
 clear hU
 repeat(refine p2Q ?_;try go_frame)
 refine p2Step rfl rfl fun K hK=> ?_
 go_wp2_with(first|(refine q_.m 1 I J 28 (cplA ⟨y,X,tl,tr,f,per,frm,wy,wx⟩ ⟨vy,vx,vl,vr,A,nf,cf⟩) ?_;clear I J;intro w4 I J;simp only[List.set]at I)|fail)
 refine hK _ _ (fun h=>absurd h (by decide)) fun hS_=> ?_
 clear hK K hS_
 try go_frame
 refine p2Done ?_
 go_wp2_with fail
 try simp only[Exit.inBlock,Exit.then]
 go_end0
 exact⟨rfl,vx,I.out,gF.out _ J,gN.out _ J⟩
def ExcPost(a0:World)(B:Nat)(L:List (Nat×Array Value×TypeId))(c:Cpl)(v:CplV)(o:Bool)(k n:Int)(x:Fate)(r:Ending)(w':World):Prop:=∃va vb,r= .returned (.bool (exchN c o k n x).2)∧Mem a0 w' ((B,cplA (exchN c o k n x).1 { v with a:=va,b:=vb},70)::L)∧CplT a0 { v with a:=va,b:=vb} (exchN c o k n x).1 w'
theorem exchF_no {c:Cpl} {k n:Int} {x:Fate}(h:askC c.a c.left c.free k n 0≠0):exchN c false k n x=(c,false):=by
 unfold exchN exch1
 rw[if_neg (by decide),if_neg h]
theorem exchT_no {c:Cpl} {k n:Int} {x:Fate}(h:askC c.b c.right c.free k n 0≠0):exchN c true k n x=(c,false):=by
 have h':askC (turnC c).a (turnC c).left (turnC c).free k n 0≠0:=h
 unfold exchN exch1
 rw[if_pos rfl,if_neg h']
 rfl
theorem exchF_yes {c:Cpl} {k n:Int} {m:Msg} {y:Ed} {r:Msg} {z:Ed}(h0:askC c.a c.left c.free k n 0=0)(h:RunIs c.a c.b c.left c.right c.free k n m y r z)(x:Fate):exchN c false k n x=(if x.request=true then c else if x.reply=true then { c with b:=y,wb:=worN c.wb r.code k}else { c with a:=z,b:=y,wa:=worN c.wa r.code k,wb:=worN c.wb r.code k},true):=by
 unfold exchN exch1
 rw[if_neg (by decide),if_pos h0,h.asked]
theorem exchT_yes {c:Cpl} {k n:Int} {m:Msg} {y:Ed} {r:Msg} {z:Ed}(h0:askC c.b c.right c.free k n 0=0)(h:RunIs c.b c.a c.right c.left c.free k n m y r z)(x:Fate):exchN c true k n x=(if x.request=true then c else if x.reply=true then { c with a:=y,wa:=worN c.wa r.code k}else { c with b:=z,a:=y,wb:=worN c.wb r.code k,wa:=worN c.wa r.code k},true):=by
 have h':RunIs (turnC c).a (turnC c).b (turnC c).left (turnC c).right (turnC c).free k n m y r z:=h
 have h1:askC (turnC c).a (turnC c).left (turnC c).free k n 0=0:=h0
 unfold exchN exch1
 rw[if_pos rfl,if_pos h1,h'.asked]
 obtain⟨x1,x2,x3,x4⟩:=x
 cases x1<;>cases x2<;>rfl
theorem RunIs.again {a b:Ed} {ta tb:Tab} {f:List Int} {k n:Int} {m:Msg} {y:Ed} {r:Msg} {z:Ed}(h:RunIs a b ta tb f k n m y r z):recv y tb f m=(y,r):=by
 have:=h.got ⟨false,false,true,false⟩
 unfold gotN at this
 rw[if_pos rfl,h.one]at this
 exact this
theorem RunIs.exp1 {a b:Ed} {ta tb:Tab} {f:List Int} {k n:Int} {m:Msg} {y:Ed} {r:Msg} {z:Ed}(h:RunIs a b ta tb f k n m y r z):expN (openE a m 0) 0 0=a:=by
 unfold expN
 rw[if_pos h.exp,h.back]
theorem RunIs.exp2 {a b:Ed} {ta tb:Tab} {f:List Int} {k n:Int} {m:Msg} {y:Ed} {r:Msg} {z:Ed}(h:RunIs a b ta tb f k n m y r z):expN z 0 0=z:=by
 unfold expN expB
 rw[h.oz,if_neg (by simp)]
end Tx
end Go.Proofs.YtfamifgchgolpaaGreat
