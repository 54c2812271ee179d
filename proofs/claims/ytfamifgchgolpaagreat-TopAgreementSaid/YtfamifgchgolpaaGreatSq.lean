/- Chapter 28: the acts of a slotframe: the program's. -/
import Derived.Test.YtfamifgchgolpaaGreatSg
import Derived.Test.YtfamifgchgolpaaGreatSh
import Derived.Test.YtfamifgchgolpaaGreatSi
set_option linter.unusedVariables false
set_option linter.unusedSimpArgs false
set_option maxRecDepth 100000
set_option maxHeartbeats 16000000
namespace Go.Proofs.YtfamifgchgolpaaGreat
open Go Go.RowKit Go.Sort Go.Shelf Go.Maps
namespace Tx
open Sw Mm Pl
theorem Mem.front2 {a w:World} {p q r:Nat×Array Value×TypeId} {L:List (Nat×Array Value×TypeId)}(h:Mem a w (p::q::r::L)):Mem a w (r::p::q::L):=by
 have hp:(r::p::q::L).Perm (p::q::r::L):=(List.perm_middle (l₁:= [p,q]) (l₂:=L) (a:=r)).symm
 exact⟨h.below,fun e he=>h.blk e (hp.subset he),((hp.map _).nodup_iff).2 h.nodup,fun e he=>h.ge e (hp.subset he)⟩
def ActPost(a0:World)(B:Nat)(L:List (Nat×Array Value×TypeId))(c:Cpl)(b:Bool)(vl vr:TabV)(A:Option Addr)(nf cf:Nat)(r:Ending)(w':World):Prop:=∃va vb,r= .returned (.bool b)∧Mem a0 w' ((B,cplA c ⟨va,vb,vl,vr,A,nf,cf⟩,70)::L)∧CplT a0 ⟨va,vb,vl,vr,A,nf,cf⟩ c w'
theorem exch_ok(c:Cpl)(v:CplV)(o:Bool)(k n:Int)(x:Fate)(B:Nat)(a0 w:World)(L:List (Nat×Array Value×TypeId))(h0:Mem a0 w ((B,cplA c v,70)::L))(hS:CplT a0 v c w)(hk:CplOk c):Calls Tryz.prog 171 #[.pointer (some ⟨B,0,none⟩),.bool o,.int .i64 k,.int .i64 n,.agg (fateA x)] w (ActPost a0 B L (exchN c o k n x).1 (exchN c o k n x).2 v.l v.r v.A v.nf v.cf):=by
 obtain⟨ea,eb,tl,tr,f,per,frm,wa,wb⟩:=c
 obtain⟨va,vb,vl,vr,A,nf,cf⟩:=v
 cases o
 ·exact exch0_any ea eb tl tr f per frm wa wb va vb vl vr A nf cf k n x B a0 w L h0 hS (fun h=>cpl_run hk h)
 ·exact exch1_any ea eb tl tr f per frm wa wb va vb vl vr A nf cf k n x B a0 w L h0 hS (fun h=>cpl_run hk.turn h)
theorem zwsF:(Tryz.prog.info? 40).map (·.size)=some 4:=zfa
theorem boInfo:(Tryz.prog.info? 4).map (fun i=>(i.zero,i.size,i.bytes))=some (some (.bool false),1,1):=info_bool
theorem stepc_any(o:Bool)(gc gw:Nat)(w:World):Calls Tryz.prog 167 #[.bool o,.pointer (some ⟨gc,0,none⟩),.pointer (some ⟨gw,0,none⟩)] w fun r w'=>∃gb,r= .returned (.func (.func 168) #[] #[.pointer (some ⟨gc,0,none⟩),.pointer (some ⟨gb,0,none⟩),.pointer (some ⟨gw,0,none⟩)])∧Mem w w' [(gb,#[.bool o],4)]:=by
 have I:=Zh (Mem.start w)
 have hmf:∀(fn:Fn) (first cap:Array Value) (w:World),(Instr.makeFunc fn first cap).run Tryz.prog w= .ok (.func fn first cap) w:=fun _ _ _ _=>rfl
 go_enter Tryz.func167,Tryz.ntmps167
 go_wp2_with(first|go_skip|(refine wpList_boxM I rfl 4 _ rfl (.bool o) rfl ?_;clear I;intro gb w1 I hG;clear hG;simp only[Value.cells]at I)|fail)
 try simp only[Exit.inBlock,Exit.then]
 go_ret
 exact⟨gb,rfl,I.out⟩
theorem step2_any(ea eb:Ed)(tl tr:Tab)(f:List Int)(per frm:Int)(wa wb:Bool)(va vb:EdV)(vl vr:TabV)(A:Option Addr)(nf cf:Nat)(x:Wsh)(gc gw:Nat)(a0 w:World)(L:List (Nat×Array Value×TypeId))(h0:Mem a0 w ((gc,cplA ⟨ea,eb,tl,tr,f,per,frm,wa,wb⟩ ⟨va,vb,vl,vr,A,nf,cf⟩,70)::(gw,wshA x,42)::L))(hS:CplT a0 ⟨va,vb,vl,vr,A,nf,cf⟩ ⟨ea,eb,tl,tr,f,per,frm,wa,wb⟩ w)(hk:CplOk ⟨ea,eb,tl,tr,f,per,frm,wa,wb⟩):Calls Tryz.prog 172 #[.pointer (some ⟨gc,0,none⟩),.pointer (some ⟨gw,0,none⟩)] w (ActPost a0 gc ((gw,wshA x,42)::L) (exchN ⟨ea,eb,tl,tr,f,per,frm,wa,wb⟩ false 4 0 x.fate).1 (exchN ⟨ea,eb,tl,tr,f,per,frm,wa,wb⟩ false 4 0 x.fate).2 vl vr A nf cf):=by
 have I:=Zh h0
 clear h0
 obtain⟨F0,q_,J,gS⟩:∃F:World→Prop,Stc F∧Hid (F w)∧Hid (∀W,F W→CplT a0 ⟨va,vb,vl,vr,A,nf,cf⟩ ⟨ea,eb,tl,tr,f,per,frm,wa,wb⟩ W):=⟨_,Stc.cplT a0 ⟨va,vb,vl,vr,A,nf,cf⟩ ⟨ea,eb,tl,tr,f,per,frm,wa,wb⟩,hS,fun _ h=>h⟩
 clear hS
 have uE:=Tryz.underlying32
 have uT:=Tryz.underlying37
 have uP:=Tryz.underlying196
 have uQ:=Tryz.underlying199
 have uY:=Tryz.underlying40
 have uB:=Tryz.underlying4
 have cE:=fun W h q=>exch_ok ⟨ea,eb,tl,tr,f,per,frm,wa,wb⟩ ⟨va,vb,vl,vr,A,nf,cf⟩ false 4 0 x.fate gc a0 W ((gw,wshA x,42)::L) h q hk
 unfold ActPost at cE
 generalize hP:ActPost a0 gc ((gw,wshA x,42)::L) (exchN ⟨ea,eb,tl,tr,f,per,frm,wa,wb⟩ false 4 0 x.fate).1 (exchN ⟨ea,eb,tl,tr,f,per,frm,wa,wb⟩ false 4 0 x.fate).2 vl vr A nf cf=P
 have hPo:∀va' vb' W,Mem a0 W ((gc,cplA (exchN ⟨ea,eb,tl,tr,f,per,frm,wa,wb⟩ false 4 0 x.fate).1 ⟨va',vb',vl,vr,A,nf,cf⟩,70)::(gw,wshA x,42)::L)→CplT a0 ⟨va',vb',vl,vr,A,nf,cf⟩ (exchN ⟨ea,eb,tl,tr,f,per,frm,wa,wb⟩ false 4 0 x.fate).1 W→P (.returned (.bool (exchN ⟨ea,eb,tl,tr,f,per,frm,wa,wb⟩ false 4 0 x.fate).2)) W:=fun va' vb' W h1 h2=>by rw[←hP];exact⟨va',vb',rfl,h1,h2⟩
 clear hP
 generalize exchN ⟨ea,eb,tl,tr,f,per,frm,wa,wb⟩ false 4 0 x.fate=XR at*
 obtain⟨C9,b9⟩:=XR
 dsimp only at cE hPo
 refine zh8 ?_ cE hPo uE uT uP uQ uY uB;clear cE hPo uE uT uP uQ uY uB;intro cE hPo uE uT uP uQ uY uB
 go_enter Tryz.func172,Tryz.ntmps172
 go_wp2_with(first|go_skip|(refine lP 1 I 3 (fateA x.fate) uY.out ?_)|(go_at_call 171;refine(cE _ I.out (gS _ J)).mono ?_;rintro r w9 ⟨va',vb',rfl,q1,q2⟩)|fail)
 go_wp2_with fail
 exact hPo.out va' vb' _ q1 q2
theorem step3_any(ea eb:Ed)(tl tr:Tab)(f:List Int)(per frm:Int)(wa wb:Bool)(va vb:EdV)(vl vr:TabV)(A:Option Addr)(nf cf:Nat)(x:Wsh)(gc gw:Nat)(a0 w:World)(L:List (Nat×Array Value×TypeId))(h0:Mem a0 w ((gc,cplA ⟨ea,eb,tl,tr,f,per,frm,wa,wb⟩ ⟨va,vb,vl,vr,A,nf,cf⟩,70)::(gw,wshA x,42)::L))(hS:CplT a0 ⟨va,vb,vl,vr,A,nf,cf⟩ ⟨ea,eb,tl,tr,f,per,frm,wa,wb⟩ w)(hk:CplOk ⟨ea,eb,tl,tr,f,per,frm,wa,wb⟩):Calls Tryz.prog 173 #[.pointer (some ⟨gc,0,none⟩),.pointer (some ⟨gw,0,none⟩)] w (ActPost a0 gc ((gw,wshA x,42)::L) (exchN ⟨ea,eb,tl,tr,f,per,frm,wa,wb⟩ x.other x.kind x.count x.fate).1 (exchN ⟨ea,eb,tl,tr,f,per,frm,wa,wb⟩ x.other x.kind x.count x.fate).2 vl vr A nf cf):=by
 have I:=Zh h0
 clear h0
 obtain⟨F0,q_,J,gS⟩:∃F:World→Prop,Stc F∧Hid (F w)∧Hid (∀W,F W→CplT a0 ⟨va,vb,vl,vr,A,nf,cf⟩ ⟨ea,eb,tl,tr,f,per,frm,wa,wb⟩ W):=⟨_,Stc.cplT a0 ⟨va,vb,vl,vr,A,nf,cf⟩ ⟨ea,eb,tl,tr,f,per,frm,wa,wb⟩,hS,fun _ h=>h⟩
 clear hS
 have uE:=Tryz.underlying32
 have uT:=Tryz.underlying37
 have uP:=Tryz.underlying196
 have uQ:=Tryz.underlying199
 have uY:=Tryz.underlying40
 have uB:=Tryz.underlying4
 have cE:=fun W h q=>exch_ok ⟨ea,eb,tl,tr,f,per,frm,wa,wb⟩ ⟨va,vb,vl,vr,A,nf,cf⟩ x.other x.kind x.count x.fate gc a0 W ((gw,wshA x,42)::L) h q hk
 unfold ActPost at cE
 generalize hP:ActPost a0 gc ((gw,wshA x,42)::L) (exchN ⟨ea,eb,tl,tr,f,per,frm,wa,wb⟩ x.other x.kind x.count x.fate).1 (exchN ⟨ea,eb,tl,tr,f,per,frm,wa,wb⟩ x.other x.kind x.count x.fate).2 vl vr A nf cf=P
 have hPo:∀va' vb' W,Mem a0 W ((gc,cplA (exchN ⟨ea,eb,tl,tr,f,per,frm,wa,wb⟩ x.other x.kind x.count x.fate).1 ⟨va',vb',vl,vr,A,nf,cf⟩,70)::(gw,wshA x,42)::L)→CplT a0 ⟨va',vb',vl,vr,A,nf,cf⟩ (exchN ⟨ea,eb,tl,tr,f,per,frm,wa,wb⟩ x.other x.kind x.count x.fate).1 W→P (.returned (.bool (exchN ⟨ea,eb,tl,tr,f,per,frm,wa,wb⟩ x.other x.kind x.count x.fate).2)) W:=fun va' vb' W h1 h2=>by rw[←hP];exact⟨va',vb',rfl,h1,h2⟩
 clear hP
 generalize exchN ⟨ea,eb,tl,tr,f,per,frm,wa,wb⟩ x.other x.kind x.count x.fate=XR at*
 obtain⟨C9,b9⟩:=XR
 dsimp only at cE hPo
 refine zh8 ?_ cE hPo uE uT uP uQ uY uB;clear cE hPo uE uT uP uQ uY uB;intro cE hPo uE uT uP uQ uY uB
 go_enter Tryz.func173,Tryz.ntmps173
 have p0:=Zc I 1 0 (.bool x.other)
 have p1:=Zc I 1 1 (.int .i64 x.kind)
 have p2:=Zc I 1 2 (.int .i64 x.count)
 go_wp2_with(first|go_skip|(refine lP 1 I 3 (fateA x.fate) uY.out ?_)|(go_at_call 171;refine(cE _ I.out (gS _ J)).mono ?_;rintro r w9 ⟨va',vb',rfl,q1,q2⟩)|fail)
 go_wp2_with fail
 exact hPo.out va' vb' _ q1 q2
theorem clr0_any(ea eb:Ed)(tl tr:Tab)(f:List Int)(per frm:Int)(wa wb:Bool)(va vb:EdV)(vl vr:TabV)(A:Option Addr)(nf cf:Nat)(x:Wsh)(gc gw gb:Nat)(a0 w:World)(L:List (Nat×Array Value×TypeId))(h0:Mem a0 w ((gc,cplA ⟨ea,eb,tl,tr,f,per,frm,wa,wb⟩ ⟨va,vb,vl,vr,A,nf,cf⟩,70)::(gw,wshA x,42)::(gb,#[.bool false],4)::L))(hS:CplT a0 ⟨va,vb,vl,vr,A,nf,cf⟩ ⟨ea,eb,tl,tr,f,per,frm,wa,wb⟩ w)(hk:CplOk ⟨ea,eb,tl,tr,f,per,frm,wa,wb⟩):Calls Tryz.prog 168 #[.pointer (some ⟨gc,0,none⟩),.pointer (some ⟨gb,0,none⟩),.pointer (some ⟨gw,0,none⟩)] w (ActPost a0 gc ((gw,wshA x,42)::(gb,#[.bool false],4)::L) (exchN (clrC ⟨ea,eb,tl,tr,f,per,frm,wa,wb⟩ false) false 6 0 x.fate).1 (exchN (clrC ⟨ea,eb,tl,tr,f,per,frm,wa,wb⟩ false) false 6 0 x.fate).2 vl vr A nf cf):=by
 have I:=Zh h0
 clear h0
 obtain⟨F0,q_,J,gS⟩:∃F:World→Prop,Stc F∧Hid (F w)∧Hid (∀W,F W→CplT a0 ⟨va,vb,vl,vr,A,nf,cf⟩ ⟨ea,eb,tl,tr,f,per,frm,wa,wb⟩ W):=⟨_,Stc.cplT a0 ⟨va,vb,vl,vr,A,nf,cf⟩ ⟨ea,eb,tl,tr,f,per,frm,wa,wb⟩,hS,fun _ h=>h⟩
 clear hS
 have uE:=Tryz.underlying32
 have uT:=Tryz.underlying37
 have uP:=Tryz.underlying196
 have uQ:=Tryz.underlying199
 have uY:=Tryz.underlying40
 have uB:=Tryz.underlying4
 have hchk:chkE ea=0:=(chkE_iff _).2 hk.idle.fa.ed
 have hk2:CplOk ⟨startE ea.node ea.peer,eb,tl,tr,f,per,frm,wa,wb⟩:=hk.clr false
 have cP:=fun W L hM F q_ J=>parties_any ea eb tl tr f per frm wa wb va vb vl vr A nf cf false gc a0 W L F hM q_ J
 unfold PtyPost ptyN at cP
 have cZ:=fun W (q:EdIs W va ea)=>clear_own2 ea va W q hchk
 unfold EndOwn at cZ
 have cE:=fun vz W L h q=>exch_ok ⟨startE ea.node ea.peer,eb,tl,tr,f,per,frm,wa,wb⟩ ⟨vz,vb,vl,vr,A,nf,cf⟩ false 6 0 x.fate gc a0 W L h q hk2
 unfold ActPost at cE
 generalize hP:ActPost a0 gc ((gw,wshA x,42)::(gb,#[.bool false],4)::L) (exchN (clrC ⟨ea,eb,tl,tr,f,per,frm,wa,wb⟩ false) false 6 0 x.fate).1 (exchN (clrC ⟨ea,eb,tl,tr,f,per,frm,wa,wb⟩ false) false 6 0 x.fate).2 vl vr A nf cf=P
 have hPo:∀va' vb' W,Mem a0 W ((gc,cplA (exchN ⟨startE ea.node ea.peer,eb,tl,tr,f,per,frm,wa,wb⟩ false 6 0 x.fate).1 ⟨va',vb',vl,vr,A,nf,cf⟩,70)::(gw,wshA x,42)::(gb,#[.bool false],4)::L)→CplT a0 ⟨va',vb',vl,vr,A,nf,cf⟩ (exchN ⟨startE ea.node ea.peer,eb,tl,tr,f,per,frm,wa,wb⟩ false 6 0 x.fate).1 W→P (.returned (.bool (exchN ⟨startE ea.node ea.peer,eb,tl,tr,f,per,frm,wa,wb⟩ false 6 0 x.fate).2)) W:=fun va' vb' W h1 h2=>by rw[←hP];exact⟨va',vb',rfl,h1,h2⟩
 clear hP
 generalize exchN ⟨startE ea.node ea.peer,eb,tl,tr,f,per,frm,wa,wb⟩ false 6 0 x.fate=XR at*
 obtain⟨C9,b9⟩:=XR
 dsimp only at cE hPo
 refine zh10 ?_ cP cZ cE hPo uE uT uP uQ uY uB;clear cP cZ cE hPo uE uT uP uQ uY uB;intro cP cZ cE hPo uE uT uP uQ uY uB
 go_enter Tryz.func168,Tryz.ntmps168
 have pb0:=Zc I 2 0 (.bool false)
 have mk1:Unit:=()
 have mk2:Unit:=()
 go_upto_region 2 with(first|go_skip|(go_at_call 169;refine(cP _ _ I.out _ q_ J).mono ?_;rintro r w3 ⟨rfl,q1,q2⟩;clear I J pb0;have I:=Zh q1;have J:=Zh q2;clear q1 q2;simp only[Bool.not_true,Bool.not_false,if_true,Bool.false_eq_true,if_false])|(clear mk1;refine q_.a I J paInfo ?_;clear I J;intro pa w1 I J)|(clear mk2;refine q_.a I J paInfo ?_;clear I J;intro pb w1 I J)|(refine q_.s 1 I J ?_;clear I J;intro w4 I J;simp only[List.set]at I)|(refine q_.s 0 I J ?_;clear I J;intro w4 I J;simp only[List.set]at I)|fail)
 replace J:=Zh (q_.keep J ((Below.refl _ _).drew))
 replace I:=Zh (I.keep ((Below.refl _ _).drew))
 have HMs:=Zh I.out
 refine wp_region_two (fun w'=>Mem _ w' _) 11 [(0,1),(1,2),(2,1),(3,2),(4,1),(5,2),(6,0),(7,1),(8,1),(9,1),(10,1),(11,0)] (by kernel_rfl) (by kernel_rfl) HMs.out ?_
 clear HMs
 generalize World.drew _=wd at*
 repeat(refine p2Q ?_;try go_frame)
 refine p2Take (by rfl) (yc 1 0 (.pointer (some ⟨gc,0,none⟩)) uP.out) ?_
 try go_frame
 repeat(refine p2Q ?_;try go_frame)
 refine p2Take (by rfl) (yc 1 0 (.pointer (some ⟨gc,0,none⟩)) uP.out) ?_
 try go_frame
 repeat(refine p2Q ?_;try go_frame)
 refine p2Take (by rfl) (ym 2 (endA ea va) uE.out) ?_
 try go_frame
 repeat(refine p2Q ?_;try go_frame)
 refine p2Step rfl rfl fun K hK=> ?_
 go_wp2_with(first|(go_at_call 170;refine(cZ _ ((gS _ J).a.is I.below)).mono ?_;rintro r w3 ⟨vz,rfl,hZ,p_⟩)|fail)
 refine hK _ _ (fun _=>I.keep p_) fun hS_=> ?_
 clear hK K hS_
 try go_frame
 replace I:=Zm I p_
 replace J:=q_.z J p_
 clear p_
 refine sC q_ J (Stc.ed vz _) hZ ?_
 clear q_ J hZ
 intro F1 q_ J hU gZ
 replace gS:=Zu gS hU
 clear hU
 repeat(refine p2Q ?_;try go_frame)
 refine p2Step rfl rfl fun K hK=> ?_
 go_wp2_with(first|(refine q_.m 2 I J 0 (cplA ⟨startE ea.node ea.peer,eb,tl,tr,f,per,frm,wa,wb⟩ ⟨vz,vb,vl,vr,A,nf,cf⟩) ?_;clear I J;intro w4 I J;simp only[List.set]at I)|fail)
 refine hK _ _ (fun h=>absurd h (by decide)) fun hS_=> ?_
 clear hK K hS_
 try go_frame
 refine p2Done ?_
 replace I:=Zh I.front2
 go_upto_region 3 with fail
 have pb0:=Zc I 4 0 (.bool false)
 go_wp2_with(first|go_skip|(refine lP 3 I 3 (fateA x.fate) uY.out ?_)|(go_at_call 171;refine(cE vz _ _ I.out ⟨EdO.of_own (gZ _ J),(gS _ J).b,(gS _ J).q⟩).mono ?_;rintro r w9 ⟨va',vb',rfl,q1,q2⟩)|fail)
 go_wp2_with fail
 exact hPo.out va' vb' _ (q1.sub (by repeat(first|exact List.Sublist.refl _|apply List.Sublist.cons_cons|apply List.Sublist.cons))) q2
theorem clr1_any(ea eb:Ed)(tl tr:Tab)(f:List Int)(per frm:Int)(wa wb:Bool)(va vb:EdV)(vl vr:TabV)(A:Option Addr)(nf cf:Nat)(x:Wsh)(gc gw gb:Nat)(a0 w:World)(L:List (Nat×Array Value×TypeId))(h0:Mem a0 w ((gc,cplA ⟨ea,eb,tl,tr,f,per,frm,wa,wb⟩ ⟨va,vb,vl,vr,A,nf,cf⟩,70)::(gw,wshA x,42)::(gb,#[.bool true],4)::L))(hS:CplT a0 ⟨va,vb,vl,vr,A,nf,cf⟩ ⟨ea,eb,tl,tr,f,per,frm,wa,wb⟩ w)(hk:CplOk ⟨ea,eb,tl,tr,f,per,frm,wa,wb⟩):Calls Tryz.prog 168 #[.pointer (some ⟨gc,0,none⟩),.pointer (some ⟨gb,0,none⟩),.pointer (some ⟨gw,0,none⟩)] w (ActPost a0 gc ((gw,wshA x,42)::(gb,#[.bool true],4)::L) (exchN (clrC ⟨ea,eb,tl,tr,f,per,frm,wa,wb⟩ true) true 6 0 x.fate).1 (exchN (clrC ⟨ea,eb,tl,tr,f,per,frm,wa,wb⟩ true) true 6 0 x.fate).2 vl vr A nf cf):=by
 have I:=Zh h0
 clear h0
 obtain⟨F0,q_,J,gS⟩:∃F:World→Prop,Stc F∧Hid (F w)∧Hid (∀W,F W→CplT a0 ⟨va,vb,vl,vr,A,nf,cf⟩ ⟨ea,eb,tl,tr,f,per,frm,wa,wb⟩ W):=⟨_,Stc.cplT a0 ⟨va,vb,vl,vr,A,nf,cf⟩ ⟨ea,eb,tl,tr,f,per,frm,wa,wb⟩,hS,fun _ h=>h⟩
 clear hS
 have uE:=Tryz.underlying32
 have uT:=Tryz.underlying37
 have uP:=Tryz.underlying196
 have uQ:=Tryz.underlying199
 have uY:=Tryz.underlying40
 have uB:=Tryz.underlying4
 have hchk:chkE eb=0:=(chkE_iff _).2 hk.idle.fb.ed
 have hk2:CplOk ⟨ea,startE eb.node eb.peer,tl,tr,f,per,frm,wa,wb⟩:=hk.clr true
 have cP:=fun W L hM F q_ J=>parties_any ea eb tl tr f per frm wa wb va vb vl vr A nf cf true gc a0 W L F hM q_ J
 unfold PtyPost ptyN at cP
 have cZ:=fun W (q:EdIs W vb eb)=>clear_own2 eb vb W q hchk
 unfold EndOwn at cZ
 have cE:=fun vz W L h q=>exch_ok ⟨ea,startE eb.node eb.peer,tl,tr,f,per,frm,wa,wb⟩ ⟨va,vz,vl,vr,A,nf,cf⟩ true 6 0 x.fate gc a0 W L h q hk2
 unfold ActPost at cE
 generalize hP:ActPost a0 gc ((gw,wshA x,42)::(gb,#[.bool true],4)::L) (exchN (clrC ⟨ea,eb,tl,tr,f,per,frm,wa,wb⟩ true) true 6 0 x.fate).1 (exchN (clrC ⟨ea,eb,tl,tr,f,per,frm,wa,wb⟩ true) true 6 0 x.fate).2 vl vr A nf cf=P
 have hPo:∀va' vb' W,Mem a0 W ((gc,cplA (exchN ⟨ea,startE eb.node eb.peer,tl,tr,f,per,frm,wa,wb⟩ true 6 0 x.fate).1 ⟨va',vb',vl,vr,A,nf,cf⟩,70)::(gw,wshA x,42)::(gb,#[.bool true],4)::L)→CplT a0 ⟨va',vb',vl,vr,A,nf,cf⟩ (exchN ⟨ea,startE eb.node eb.peer,tl,tr,f,per,frm,wa,wb⟩ true 6 0 x.fate).1 W→P (.returned (.bool (exchN ⟨ea,startE eb.node eb.peer,tl,tr,f,per,frm,wa,wb⟩ true 6 0 x.fate).2)) W:=fun va' vb' W h1 h2=>by rw[←hP];exact⟨va',vb',rfl,h1,h2⟩
 clear hP
 generalize exchN ⟨ea,startE eb.node eb.peer,tl,tr,f,per,frm,wa,wb⟩ true 6 0 x.fate=XR at*
 obtain⟨C9,b9⟩:=XR
 dsimp only at cE hPo
 refine zh10 ?_ cP cZ cE hPo uE uT uP uQ uY uB;clear cP cZ cE hPo uE uT uP uQ uY uB;intro cP cZ cE hPo uE uT uP uQ uY uB
 go_enter Tryz.func168,Tryz.ntmps168
 have pb0:=Zc I 2 0 (.bool true)
 have mk1:Unit:=()
 have mk2:Unit:=()
 go_upto_region 2 with(first|go_skip|(go_at_call 169;refine(cP _ _ I.out _ q_ J).mono ?_;rintro r w3 ⟨rfl,q1,q2⟩;clear I J pb0;have I:=Zh q1;have J:=Zh q2;clear q1 q2;simp only[Bool.not_true,Bool.not_false,if_true,Bool.false_eq_true,if_false])|(clear mk1;refine q_.a I J paInfo ?_;clear I J;intro pa w1 I J)|(clear mk2;refine q_.a I J paInfo ?_;clear I J;intro pb w1 I J)|(refine q_.s 1 I J ?_;clear I J;intro w4 I J;simp only[List.set]at I)|(refine q_.s 0 I J ?_;clear I J;intro w4 I J;simp only[List.set]at I)|fail)
 replace J:=Zh (q_.keep J ((Below.refl _ _).drew))
 replace I:=Zh (I.keep ((Below.refl _ _).drew))
 have HMs:=Zh I.out
 refine wp_region_two (fun w'=>Mem _ w' _) 11 [(0,1),(1,2),(2,1),(3,2),(4,1),(5,2),(6,0),(7,1),(8,1),(9,1),(10,1),(11,0)] (by kernel_rfl) (by kernel_rfl) HMs.out ?_
 clear HMs
 generalize World.drew _=wd at*
 repeat(refine p2Q ?_;try go_frame)
 refine p2Take (by rfl) (yc 1 0 (.pointer (some ⟨gc,28,none⟩)) uP.out) ?_
 try go_frame
 repeat(refine p2Q ?_;try go_frame)
 refine p2Take (by rfl) (yc 1 0 (.pointer (some ⟨gc,28,none⟩)) uP.out) ?_
 try go_frame
 repeat(refine p2Q ?_;try go_frame)
 refine p2Take (by rfl) (ym 2 (endA eb vb) uE.out) ?_
 try go_frame
 repeat(refine p2Q ?_;try go_frame)
 refine p2Step rfl rfl fun K hK=> ?_
 go_wp2_with(first|(go_at_call 170;refine(cZ _ ((gS _ J).b.is I.below)).mono ?_;rintro r w3 ⟨vz,rfl,hZ,p_⟩)|fail)
 refine hK _ _ (fun _=>I.keep p_) fun hS_=> ?_
 clear hK K hS_
 try go_frame
 replace I:=Zm I p_
 replace J:=q_.z J p_
 clear p_
 refine sC q_ J (Stc.ed vz _) hZ ?_
 clear q_ J hZ
 intro F1 q_ J hU gZ
 replace gS:=Zu gS hU
 clear hU
 repeat(refine p2Q ?_;try go_frame)
 refine p2Step rfl rfl fun K hK=> ?_
 go_wp2_with(first|(refine q_.m 2 I J 28 (cplA ⟨ea,startE eb.node eb.peer,tl,tr,f,per,frm,wa,wb⟩ ⟨va,vz,vl,vr,A,nf,cf⟩) ?_;clear I J;intro w4 I J;simp only[List.set]at I)|fail)
 refine hK _ _ (fun h=>absurd h (by decide)) fun hS_=> ?_
 clear hK K hS_
 try go_frame
 refine p2Done ?_
 replace I:=Zh I.front2
 go_upto_region 3 with fail
 have pb0:=Zc I 4 0 (.bool true)
 go_wp2_with(first|go_skip|(refine lP 3 I 3 (fateA x.fate) uY.out ?_)|(go_at_call 171;refine(cE vz _ _ I.out ⟨(gS _ J).a,EdO.of_own (gZ _ J),(gS _ J).q⟩).mono ?_;rintro r w9 ⟨va',vb',rfl,q1,q2⟩)|fail)
 go_wp2_with fail
 exact hPo.out va' vb' _ (q1.sub (by repeat(first|exact List.Sublist.refl _|apply List.Sublist.cons_cons|apply List.Sublist.cons))) q2
theorem zch:(Tryz.prog.info? 207).map (·.size)=some 2:=by kernel_rfl
theorem chInfo:(Tryz.prog.info? 207).map (fun i=>(i.zero,i.size,i.bytes))=some (some (.agg #[.bool false,.nilFunc]),2,16):=by kernel_rfl
theorem Mem.rev {a w:World} {L:List (Nat×Array Value×TypeId)}(h:Mem a w L):Mem a w L.reverse:=by
 have hp:L.reverse.Perm L:=List.reverse_perm L
 exact⟨h.below,fun e he=>h.blk e (hp.subset he),((hp.map _).nodup_iff).2 h.nodup,fun e he=>h.ge e (hp.subset he)⟩
theorem Mem.swap34 {a w:World} {p q r s:Nat×Array Value×TypeId} {L:List (Nat×Array Value×TypeId)}(h:Mem a w (p::q::r::s::L)):Mem a w (p::q::s::r::L):=by
 have hp:(p::q::s::r::L).Perm (p::q::r::s::L):=((List.Perm.swap _ _ _).cons _).cons _
 exact⟨h.below,fun e he=>h.blk e (hp.subset he),((hp.map _).nodup_iff).2 h.nodup,fun e he=>h.ge e (hp.subset he)⟩
theorem Mem.swap45 {a w:World} {p q r s t:Nat×Array Value×TypeId} {L:List (Nat×Array Value×TypeId)}(h:Mem a w (p::q::r::s::t::L)):Mem a w (p::q::r::t::s::L):=by
 have hp:(p::q::r::t::s::L).Perm (p::q::r::s::t::L):=(((List.Perm.swap _ _ _).cons _).cons _).cons _
 exact⟨h.below,fun e he=>h.blk e (hp.subset he),((hp.map _).nodup_iff).2 h.nodup,fun e he=>h.ge e (hp.subset he)⟩
def StepPost(c:Cpl)(n:Int)(w:World)(r:Ending)(w':World):Prop:=∃v,r= .returned (.tuple #[.agg (cplA c v),.int .i64 n])∧(CplOwn w' v c∧FreeNew w v)∧Below w.heap.size w w'
theorem stepP_any(c:Cpl)(v:CplV)(x:Wsh)(w:World)(h:CplIs w v c)(hk:CplOk c)(hn:v.nf≤1048576)(f0:0≤c.frame)(f1:c.frame≤2305843009213693952):Calls Tryz.prog 98 #[.agg (cplA c v),.agg (wshA x)] w (StepPost (stepN c x).1 (stepN c x).2 w):=by
 have I:=Zh (Mem.start w)
 obtain⟨F0,q_,J⟩:∃F:World→Prop,Stc F∧Hid (F w):=⟨_,Stc.true,trivial⟩
 have uC:=Tryz.underlying70
 have uW:=Tryz.underlying42
 have uY:=Tryz.underlying40
 have uH:=Tryz.underlying207
 have hmf:∀(fn:Fn) (first cap:Array Value) (w:World),(Instr.makeFunc fn first cap).run Tryz.prog w= .ok (.func fn first cap) w:=fun _ _ _ _=>rfl
 have hLen:=cplLen_of hk.idle (by rw[h.f.len];omega)
 have hp1:=hk.p1
 have hp2:=hk.p2
 obtain⟨ea,eb,tl,tr,f,per,frm,wa,wb⟩:=c
 obtain⟨xo,xk,xc,xf⟩:=x
 obtain⟨⟨C9,N9⟩,hAct⟩:∃q,actN ⟨ea,eb,tl,tr,f,per,frm,wa,wb⟩ ⟨xo,xk,xc,xf⟩=q:=⟨_,rfl⟩
 have hSt:stepN ⟨ea,eb,tl,tr,f,per,frm,wa,wb⟩ ⟨xo,xk,xc,xf⟩=(tickC C9,N9):=by unfold stepN;rw[hAct]
 have hstl:=still_act ⟨ea,eb,tl,tr,f,per,frm,wa,wb⟩ ⟨xo,xk,xc,xf⟩
 rw[hAct]at hstl
 rw[hSt]
 clear hSt
 dsimp only at hp1 hp2 f0 f1
 have cC:=fun W (hb:Below w.heap.size w W)=>cloneP_any ⟨ea,eb,tl,tr,f,per,frm,wa,wb⟩ v W (h.keep hb) hLen
 have cS:=fun o gc gw W=>stepc_any o gc gw W
 have d0:(per==0)=false:=by rw[beq_eq_false_iff_ne];omega
 have d0':¬per=0:=by omega
 refine zh12 ?_ f0 f1 cC cS h hLen uC uW uY uH hAct hstl;clear f0 f1 cC cS h hLen uC uW uY uH hAct hstl;intro f0 f1 cC cS h hLen uC uW uY uH hAct hstl
 go_enter Tryz.func98,Tryz.ntmps98
 have mk1:Unit:=()
 have mk2:Unit:=()
 have mk3:Unit:=()
 go_upto_region 1 with(first|go_skip|(clear mk1;refine q_.b I J 70 ?_;clear I J;intro gc w1 I J)|(clear mk2;refine q_.b I J 42 ?_;clear I J;intro gw w1 I J)|(clear mk3;refine q_.a I J cpInfo ?_;clear I J;intro g4 w1 I J)|fail)
 go_upto_region 2 with(first|go_skip|(refine lG 2 I uC.out ?_)|(go_at_call 103;refine(cC _ I.below).mono ?_;rintro r w3 ⟨v2,rfl,⟨hO,hN⟩,p_⟩;have hNf:Hid (FreeNew w v2):=Zh (fun a e=>Nat.le_trans I.below.size (hN a e));clear hN;replace I:=Zm I p_;replace J:=q_.z J p_;clear p_;replace hO:=Zh hO;dsimp only)|(refine sF 2 I ?_;have hBq:=I.at_ 2 rfl;clear I;intro w4 I hG4;simp only[List.set]at I;replace hO:=Zh ((Stc.cplOwn ..).put hO.out hBq (by decide) (by decide) (by decide) hG4.out);clear J hBq hG4)|fail)
 clear q_ F0 cC
 obtain⟨va,vb,vl,vr,A,nf,cf⟩:=v2
 obtain⟨F0,q_,J,gS⟩:∃F:World→Prop,Stc F∧Hid (F _)∧Hid (∀W,F W→CplT w ⟨va,vb,vl,vr,A,nf,cf⟩ ⟨ea,eb,tl,tr,f,per,frm,wa,wb⟩ W):=⟨_,Stc.cplT w ⟨va,vb,vl,vr,A,nf,cf⟩ ⟨ea,eb,tl,tr,f,per,frm,wa,wb⟩,hO.t w,fun _ h=>h⟩
 clear hO
 go_upto_region 4 with fail
 replace J:=Zh (q_.keep J ((Below.refl _ _).drew))
 replace I:=Zh (I.keep ((Below.refl _ _).drew))
 have HMs:=Zh I.out
 refine wp_region_two (fun w'=>Mem _ w' _) 26 [(0,1),(1,2),(2,1),(5,1),(6,2),(7,1),(10,1),(11,2),(12,1),(13,2),(14,1),(15,1),(16,1),(17,1),(18,1),(19,2),(20,1),(21,1),(22,1),(25,1),(3,0),(4,1),(8,0),(9,1),(23,0),(24,1)] (by kernel_rfl) (by kernel_rfl) HMs.out ?_
 clear HMs
 generalize World.drew _=wd at*
 repeat(refine p2Q ?_;try go_frame)
 refine p2Take (by rfl) (yc 2 65 (.bool wa) Tryz.underlying4) ?_
 try go_frame
 repeat(refine p2Q ?_;try go_frame)
 refine p2Take (by rfl) (yc 2 66 (.bool wb) Tryz.underlying4) ?_
 try go_frame
 repeat(refine p2Q ?_;try go_frame)
 refine p2Take (by rfl) (yc 2 64 (.int .i64 frm) Tryz.underlying3) ?_
 try go_frame
 repeat(refine p2Q ?_;try go_frame)
 refine p2Take (by rfl) (yc 2 63 (.int .i64 per) Tryz.underlying3) ?_
 try go_frame
 repeat(refine p2Q ?_;try go_frame)
 refine p2Take (by rfl) (yc 1 1 (.int .i64 xk) Tryz.underlying3) ?_
 try go_frame
 repeat(refine p2Q ?_;try go_frame)
 refine p2Step rfl rfl fun K hK=> ?_
 go_wp2_with(first|(go_at_call 167;refine(cS false gc gw _).mono ?_;rintro r w3 ⟨b0,rfl,hM7⟩;have p_:=hM7.below)|fail)
 refine hK _ _ (fun _=>(I.keep p_)) fun hS_=> ?_
 clear hK K hS_
 try go_frame
 have hge:=hM7.ge _ (List.mem_cons_self ..)
 replace I:=Zh (I.add p_ (hM7.at_ 0 rfl) hge)
 replace J:=q_.z J p_
 clear p_ hge hM7
 repeat(refine p2Q ?_;try go_frame)
 refine p2Step rfl rfl fun K hK=> ?_
 go_wp2_with(first|(go_at_call 167;refine(cS true gc gw _).mono ?_;rintro r w3 ⟨b1,rfl,hM7⟩;have p_:=hM7.below)|fail)
 refine hK _ _ (fun _=>(I.keep p_).tail) fun hS_=> ?_
 clear hK K hS_
 try go_frame
 have hge:=hM7.ge _ (List.mem_cons_self ..)
 replace I:=Zh (I.add p_ (hM7.at_ 0 rfl) hge)
 replace J:=q_.z J p_
 clear p_ hge hM7
 repeat(refine p2Q ?_;try go_frame)
 obtain⟨wz,hwz⟩:∃W,W=w3:=⟨_,rfl⟩
 have HM5:=Zh (I.alloc (#[.bool wa,.func (.func 168) #[] #[.pointer (some ⟨gc,0,none⟩),.pointer (some ⟨b0,0,none⟩),.pointer (some ⟨gw,0,none⟩)],.bool wb,.func (.func 168) #[] #[.pointer (some ⟨gc,0,none⟩),.pointer (some ⟨b1,0,none⟩),.pointer (some ⟨gw,0,none⟩)],.bool (frm.tmod per==0),.func (.func 172) #[] #[.pointer (some ⟨gc,0,none⟩),.pointer (some ⟨gw,0,none⟩)],.bool (xk !=0),.func (.func 173) #[] #[.pointer (some ⟨gc,0,none⟩),.pointer (some ⟨gw,0,none⟩)]]) 207)
 have hF5:=Zh (q_.keep J (ball _ (.cells (#[.bool wa,.func (.func 168) #[] #[.pointer (some ⟨gc,0,none⟩),.pointer (some ⟨b0,0,none⟩),.pointer (some ⟨gw,0,none⟩)],.bool wb,.func (.func 168) #[] #[.pointer (some ⟨gc,0,none⟩),.pointer (some ⟨b1,0,none⟩),.pointer (some ⟨gw,0,none⟩)],.bool (frm.tmod per==0),.func (.func 172) #[] #[.pointer (some ⟨gc,0,none⟩),.pointer (some ⟨gw,0,none⟩)],.bool (xk !=0),.func (.func 173) #[] #[.pointer (some ⟨gc,0,none⟩),.pointer (some ⟨gw,0,none⟩)]]) 207)))
 refine p2Step rfl rfl fun K hK=> ?_
 go_wp2_with(first|fail|fail)
 refine hK _ _ (fun _=>(I.keep (ball _ _)).tail.tail) fun hS_=> ?_
 clear hK K hS_
 try go_frame
 repeat(refine p2Q ?_;try go_frame)
 refine p2Done ?_
 obtain⟨pb,hpb⟩:∃pb,pb=w3.heap.size:=⟨_,rfl⟩
 rw[←hpb]at HM5 ⊢
 clear I J hpb hwz wz
 generalize w3.alloc (.cells (#[.bool wa,.func (.func 168) #[] #[.pointer (some ⟨gc,0,none⟩),.pointer (some ⟨b0,0,none⟩),.pointer (some ⟨gw,0,none⟩)],.bool wb,.func (.func 168) #[] #[.pointer (some ⟨gc,0,none⟩),.pointer (some ⟨b1,0,none⟩),.pointer (some ⟨gw,0,none⟩)],.bool (frm.tmod per==0),.func (.func 172) #[] #[.pointer (some ⟨gc,0,none⟩),.pointer (some ⟨gw,0,none⟩)],.bool (xk !=0),.func (.func 173) #[] #[.pointer (some ⟨gc,0,none⟩),.pointer (some ⟨gw,0,none⟩)]]) 207)=w5 at*
 have I:=HM5
 have J:=hF5
 clear HM5 hF5
 replace I:Hid (Mem w _ [(gc,cplA ⟨ea,eb,tl,tr,f,per,frm,wa,wb⟩ ⟨va,vb,vl,vr,A,nf,cf⟩,70),(gw,wshA ⟨xo,xk,xc,xf⟩,42),(g4,cplA cpl0 cplV0,70),(b0,#[.bool false],4),(b1,#[.bool true],4),(pb,#[.bool wa,.func (.func 168) #[] #[.pointer (some ⟨gc,0,none⟩),.pointer (some ⟨b0,0,none⟩),.pointer (some ⟨gw,0,none⟩)],.bool wb,.func (.func 168) #[] #[.pointer (some ⟨gc,0,none⟩),.pointer (some ⟨b1,0,none⟩),.pointer (some ⟨gw,0,none⟩)],.bool (frm.tmod per==0),.func (.func 172) #[] #[.pointer (some ⟨gc,0,none⟩),.pointer (some ⟨gw,0,none⟩)],.bool (xk !=0),.func (.func 173) #[] #[.pointer (some ⟨gc,0,none⟩),.pointer (some ⟨gw,0,none⟩)]],207)]):=Zh I.rev
 go_upto_block 0 with fail
 try go_frame
 go_cut[7,8,9]from 38 to 59 (fun s7 _ _ wx=>∃va' vb',s7= .int .i64 N9∧Hid (Mem w wx [(gc,cplA C9 ⟨va',vb',vl,vr,A,nf,cf⟩,70),(gw,wshA ⟨xo,xk,xc,xf⟩,42),(g4,cplA cpl0 cplV0,70)])∧Hid (CplT w ⟨va',vb',vl,vr,A,nf,cf⟩ C9 wx))
 case first=>
  have gS0:=Zh (gS _ J)
  clear J q_ gS F0
  go_wp2_with fail
  go_loopw[7,8,9,38] (fun s7 _ _ i wr=>Hid (∃q:Nat,q≤4∧i= .int .i64 q∧s7= .int .i64 0∧Mem w wr [(gc,cplA ⟨ea,eb,tl,tr,f,per,frm,wa,wb⟩ ⟨va,vb,vl,vr,A,nf,cf⟩,70),(gw,wshA ⟨xo,xk,xc,xf⟩,42),(g4,cplA cpl0 cplV0,70),(b0,#[.bool false],4),(b1,#[.bool true],4),(pb,#[.bool wa,.func (.func 168) #[] #[.pointer (some ⟨gc,0,none⟩),.pointer (some ⟨b0,0,none⟩),.pointer (some ⟨gw,0,none⟩)],.bool wb,.func (.func 168) #[] #[.pointer (some ⟨gc,0,none⟩),.pointer (some ⟨b1,0,none⟩),.pointer (some ⟨gw,0,none⟩)],.bool (frm.tmod per==0),.func (.func 172) #[] #[.pointer (some ⟨gc,0,none⟩),.pointer (some ⟨gw,0,none⟩)],.bool (xk !=0),.func (.func 173) #[] #[.pointer (some ⟨gc,0,none⟩),.pointer (some ⟨gw,0,none⟩)]],207)]∧CplT w ⟨va,vb,vl,vr,A,nf,cf⟩ ⟨ea,eb,tl,tr,f,per,frm,wa,wb⟩ wr∧Hid (0<q→wa=false)∧Hid (1<q→wb=false)∧Hid (2<q→frm.tmod per≠0)∧Hid (3<q→xk=0))) (fun _ _ _ i _=>4-(intOf i).toNat)
  case atStart=>exact Zh ⟨0,by omega,rfl,rfl,I.out,gS0.out,Zh (fun h=>absurd h (by omega)),Zh (fun h=>absurd h (by omega)),Zh (fun h=>absurd h (by omega)),Zh (fun h=>absurd h (by omega))⟩
  case round=>
   clear I gS0
   obtain⟨q,hq,rfl,rfl,I,gS0,z0,z1,z2,z3⟩:=hrel.out
   clear hrel
   replace I:=Zh I
   obtain⟨F0,q_,J,gS⟩:∃F:World→Prop,Stc F∧Hid (F wr)∧Hid (∀W,F W→CplT w ⟨va,vb,vl,vr,A,nf,cf⟩ ⟨ea,eb,tl,tr,f,per,frm,wa,wb⟩ W):=⟨_,Stc.cplT w ⟨va,vb,vl,vr,A,nf,cf⟩ ⟨ea,eb,tl,tr,f,per,frm,wa,wb⟩,gS0,fun _ h=>h⟩
   clear gS0
   rcases(by omega:q=0∨q=1∨q=2∨q=3∨q=4)with rfl|rfl|rfl|rfl|rfl
   ·skip
    go_upto_region 7 with(first|go_skip|(refine lP 5 I 0 (#[.bool wa,.func (.func 168) #[] #[.pointer (some ⟨gc,0,none⟩),.pointer (some ⟨b0,0,none⟩),.pointer (some ⟨gw,0,none⟩)]]) uH.out ?_)|(refine q_.a I J chInfo ?_;clear I J;intro g9 w1 I J)|(refine q_.s 0 I J ?_;clear I J;intro w4 I J;simp only[List.set]at I)|fail)
    have q0:=Zc I 0 0 (.bool wa)
    have q1:=Zc I 0 1 (.func (.func 168) #[] #[.pointer (some ⟨gc,0,none⟩),.pointer (some ⟨b0,0,none⟩),.pointer (some ⟨gw,0,none⟩)])
    cases wa
    case false=>
     clear q1
     go_wp2_with fail
     go_roundw
     case rel=>exact Zh ⟨1,by omega,by go_num,rfl,I.tail,gS.out _ J,Zh (fun _=>by first|rfl|trivial),Zh (fun h=>absurd h (by omega)),Zh (fun h=>absurd h (by omega)),Zh (fun h=>absurd h (by omega))⟩
     case measure=>simp[intOf]
    skip
    obtain⟨⟨C8,b8⟩,h8⟩:∃q,exchN (clrC ⟨ea,eb,tl,tr,f,per,frm,true,wb⟩ false) false 6 0 xf=q:=⟨_,rfl⟩
    have cK:=fun W h q=>clr0_any ea eb tl tr f per frm true wb va vb vl vr A nf cf ⟨xo,xk,xc,xf⟩ gc gw b0 w W [(g4,cplA cpl0 cplV0,70),(b1,#[.bool true],4),(pb,#[.bool true,.func (.func 168) #[] #[.pointer (some ⟨gc,0,none⟩),.pointer (some ⟨b0,0,none⟩),.pointer (some ⟨gw,0,none⟩)],.bool wb,.func (.func 168) #[] #[.pointer (some ⟨gc,0,none⟩),.pointer (some ⟨b1,0,none⟩),.pointer (some ⟨gw,0,none⟩)],.bool (frm.tmod per==0),.func (.func 172) #[] #[.pointer (some ⟨gc,0,none⟩),.pointer (some ⟨gw,0,none⟩)],.bool (xk !=0),.func (.func 173) #[] #[.pointer (some ⟨gc,0,none⟩),.pointer (some ⟨gw,0,none⟩)]],207)] h q hk
    unfold ActPost at cK
    dsimp only at cK
    rw[h8]at cK
    have hA2:=hAct.out
    unfold actN at hA2
    dsimp only at hA2
    rw[if_pos rfl,h8]at hA2
    obtain⟨rfl,rfl⟩:=Prod.mk.inj hA2
    clear hA2 h8
    replace cK:=Zh cK
    cases b8
    all_goals
     go_wp2_with(first|go_skip|(go_at_call 168;refine(cK _ I.tail.swap34 (gS _ J)).mono ?_;rintro r w9 ⟨va',vb',rfl,m1,m2⟩;replace m2:=Zh m2;have pw:World.cell? _ ⟨gw,0,none⟩=some (.bool _):=m1.cell 1 rfl 0;replace m1:=Zh m1;clear I J)|fail)
     go_meet
     exact⟨va',vb',rfl,Zh (m1.sub (by repeat(first|exact List.Sublist.refl _|apply List.Sublist.cons_cons|apply List.Sublist.cons))),m2⟩
   ·skip
    go_upto_region 7 with(first|go_skip|(refine lP 5 I 2 (#[.bool wb,.func (.func 168) #[] #[.pointer (some ⟨gc,0,none⟩),.pointer (some ⟨b1,0,none⟩),.pointer (some ⟨gw,0,none⟩)]]) uH.out ?_)|(refine q_.a I J chInfo ?_;clear I J;intro g9 w1 I J)|(refine q_.s 0 I J ?_;clear I J;intro w4 I J;simp only[List.set]at I)|fail)
    have q0:=Zc I 0 0 (.bool wb)
    have q1:=Zc I 0 1 (.func (.func 168) #[] #[.pointer (some ⟨gc,0,none⟩),.pointer (some ⟨b1,0,none⟩),.pointer (some ⟨gw,0,none⟩)])
    cases wb
    case false=>
     clear q1
     go_wp2_with fail
     go_roundw
     case rel=>exact Zh ⟨2,by omega,by go_num,rfl,I.tail,gS.out _ J,Zh (fun _=>z0.out (by omega)),Zh (fun _=>by first|rfl|trivial),Zh (fun h=>absurd h (by omega)),Zh (fun h=>absurd h (by omega))⟩
     case measure=>simp[intOf]
    skip
    obtain⟨⟨C8,b8⟩,h8⟩:∃q,exchN (clrC ⟨ea,eb,tl,tr,f,per,frm,wa,true⟩ true) true 6 0 xf=q:=⟨_,rfl⟩
    have cK:=fun W h q=>clr1_any ea eb tl tr f per frm wa true va vb vl vr A nf cf ⟨xo,xk,xc,xf⟩ gc gw b1 w W [(g4,cplA cpl0 cplV0,70),(b0,#[.bool false],4),(pb,#[.bool wa,.func (.func 168) #[] #[.pointer (some ⟨gc,0,none⟩),.pointer (some ⟨b0,0,none⟩),.pointer (some ⟨gw,0,none⟩)],.bool true,.func (.func 168) #[] #[.pointer (some ⟨gc,0,none⟩),.pointer (some ⟨b1,0,none⟩),.pointer (some ⟨gw,0,none⟩)],.bool (frm.tmod per==0),.func (.func 172) #[] #[.pointer (some ⟨gc,0,none⟩),.pointer (some ⟨gw,0,none⟩)],.bool (xk !=0),.func (.func 173) #[] #[.pointer (some ⟨gc,0,none⟩),.pointer (some ⟨gw,0,none⟩)]],207)] h q hk
    unfold ActPost at cK
    dsimp only at cK
    rw[h8]at cK
    have hA2:=hAct.out
    unfold actN at hA2
    dsimp only at hA2
    rw[if_neg (by rw[z0.out (by omega)];decide),if_pos rfl,h8]at hA2
    obtain⟨rfl,rfl⟩:=Prod.mk.inj hA2
    clear hA2 h8
    replace cK:=Zh cK
    cases b8
    all_goals
     go_wp2_with(first|go_skip|(go_at_call 168;refine(cK _ I.tail.swap45.swap34 (gS _ J)).mono ?_;rintro r w9 ⟨va',vb',rfl,m1,m2⟩;replace m2:=Zh m2;have pw:World.cell? _ ⟨gw,0,none⟩=some (.bool _):=m1.cell 1 rfl 0;replace m1:=Zh m1;clear I J)|fail)
     go_meet
     exact⟨va',vb',rfl,Zh (m1.sub (by repeat(first|exact List.Sublist.refl _|apply List.Sublist.cons_cons|apply List.Sublist.cons))),m2⟩
   ·skip
    go_upto_region 7 with(first|go_skip|(refine lP 5 I 4 (#[.bool (frm.tmod per==0),.func (.func 172) #[] #[.pointer (some ⟨gc,0,none⟩),.pointer (some ⟨gw,0,none⟩)]]) uH.out ?_)|(refine q_.a I J chInfo ?_;clear I J;intro g9 w1 I J)|(refine q_.s 0 I J ?_;clear I J;intro w4 I J;simp only[List.set]at I)|fail)
    have q0:=Zc I 0 0 (.bool (frm.tmod per==0))
    have q1:=Zc I 0 1 (.func (.func 172) #[] #[.pointer (some ⟨gc,0,none⟩),.pointer (some ⟨gw,0,none⟩)])
    by_cases e2:frm.tmod per=0
    case neg=>
     have d2:(frm.tmod per==0)=false:=by rw[beq_eq_false_iff_ne];exact e2
     rw[d2]at q0
     clear d2
     replace e2:=Zh e2
     clear q1
     go_wp2_with fail
     go_roundw
     case rel=>exact Zh ⟨3,by omega,by go_num,rfl,I.tail,gS.out _ J,Zh (fun _=>z0.out (by omega)),Zh (fun _=>z1.out (by omega)),Zh (fun _=>e2.out),Zh (fun h=>absurd h (by omega))⟩
     case measure=>simp[intOf]
    have d2:(frm.tmod per==0)=true:=by rw[beq_iff_eq];exact e2
    rw[d2]at q0
    clear d2
    replace e2:=Zh e2
    obtain⟨⟨C8,b8⟩,h8⟩:∃q,exchN ⟨ea,eb,tl,tr,f,per,frm,wa,wb⟩ false 4 0 xf=q:=⟨_,rfl⟩
    have cK:=fun W h q=>step2_any ea eb tl tr f per frm wa wb va vb vl vr A nf cf ⟨xo,xk,xc,xf⟩ gc gw w W [(g4,cplA cpl0 cplV0,70),(b0,#[.bool false],4),(b1,#[.bool true],4),(pb,#[.bool wa,.func (.func 168) #[] #[.pointer (some ⟨gc,0,none⟩),.pointer (some ⟨b0,0,none⟩),.pointer (some ⟨gw,0,none⟩)],.bool wb,.func (.func 168) #[] #[.pointer (some ⟨gc,0,none⟩),.pointer (some ⟨b1,0,none⟩),.pointer (some ⟨gw,0,none⟩)],.bool (frm.tmod per==0),.func (.func 172) #[] #[.pointer (some ⟨gc,0,none⟩),.pointer (some ⟨gw,0,none⟩)],.bool (xk !=0),.func (.func 173) #[] #[.pointer (some ⟨gc,0,none⟩),.pointer (some ⟨gw,0,none⟩)]],207)] h q hk
    unfold ActPost at cK
    dsimp only at cK
    rw[h8]at cK
    have hA2:=hAct.out
    unfold actN at hA2
    dsimp only at hA2
    rw[if_neg (by show¬wa=true;rw[z0.out (by omega)];decide),if_neg (by show¬wb=true;rw[z1.out (by omega)];decide),if_pos (show frm.tmod per=0 from e2.out),h8]at hA2
    obtain⟨rfl,rfl⟩:=Prod.mk.inj hA2
    clear hA2 h8
    replace cK:=Zh cK
    cases b8
    all_goals
     go_wp2_with(first|go_skip|(go_at_call 172;refine(cK _ I.tail (gS _ J)).mono ?_;rintro r w9 ⟨va',vb',rfl,m1,m2⟩;replace m2:=Zh m2;have pw:World.cell? _ ⟨gw,0,none⟩=some (.bool _):=m1.cell 1 rfl 0;replace m1:=Zh m1;clear I J)|fail)
     go_meet
     exact⟨va',vb',rfl,Zh (m1.sub (by repeat(first|exact List.Sublist.refl _|apply List.Sublist.cons_cons|apply List.Sublist.cons))),m2⟩
   ·skip
    go_upto_region 7 with(first|go_skip|(refine lP 5 I 6 (#[.bool (xk !=0),.func (.func 173) #[] #[.pointer (some ⟨gc,0,none⟩),.pointer (some ⟨gw,0,none⟩)]]) uH.out ?_)|(refine q_.a I J chInfo ?_;clear I J;intro g9 w1 I J)|(refine q_.s 0 I J ?_;clear I J;intro w4 I J;simp only[List.set]at I)|fail)
    have q0:=Zc I 0 0 (.bool (xk !=0))
    have q1:=Zc I 0 1 (.func (.func 173) #[] #[.pointer (some ⟨gc,0,none⟩),.pointer (some ⟨gw,0,none⟩)])
    by_cases e3:xk=0
    case pos=>
     have d3:(xk !=0)=false:=by rw[bne_eq_false_iff_eq];exact e3
     rw[d3]at q0
     clear d3
     replace e3:=Zh e3
     clear q1
     go_wp2_with fail
     go_roundw
     case rel=>exact Zh ⟨4,by omega,by go_num,rfl,I.tail,gS.out _ J,Zh (fun _=>z0.out (by omega)),Zh (fun _=>z1.out (by omega)),Zh (fun _=>z2.out (by omega)),Zh (fun _=>e3.out)⟩
     case measure=>simp[intOf]
    have d3:(xk !=0)=true:=by rw[bne_iff_ne];exact e3
    rw[d3]at q0
    clear d3
    replace e3:=Zh e3
    obtain⟨⟨C8,b8⟩,h8⟩:∃q,exchN ⟨ea,eb,tl,tr,f,per,frm,wa,wb⟩ xo xk xc xf=q:=⟨_,rfl⟩
    have cK:=fun W h q=>step3_any ea eb tl tr f per frm wa wb va vb vl vr A nf cf ⟨xo,xk,xc,xf⟩ gc gw w W [(g4,cplA cpl0 cplV0,70),(b0,#[.bool false],4),(b1,#[.bool true],4),(pb,#[.bool wa,.func (.func 168) #[] #[.pointer (some ⟨gc,0,none⟩),.pointer (some ⟨b0,0,none⟩),.pointer (some ⟨gw,0,none⟩)],.bool wb,.func (.func 168) #[] #[.pointer (some ⟨gc,0,none⟩),.pointer (some ⟨b1,0,none⟩),.pointer (some ⟨gw,0,none⟩)],.bool (frm.tmod per==0),.func (.func 172) #[] #[.pointer (some ⟨gc,0,none⟩),.pointer (some ⟨gw,0,none⟩)],.bool (xk !=0),.func (.func 173) #[] #[.pointer (some ⟨gc,0,none⟩),.pointer (some ⟨gw,0,none⟩)]],207)] h q hk
    unfold ActPost at cK
    dsimp only at cK
    rw[h8]at cK
    have hA2:=hAct.out
    unfold actN at hA2
    dsimp only at hA2
    rw[if_neg (by show¬wa=true;rw[z0.out (by omega)];decide),if_neg (by show¬wb=true;rw[z1.out (by omega)];decide),if_neg (show¬frm.tmod per=0 from z2.out (by omega)),if_neg e3.out,h8]at hA2
    obtain⟨rfl,rfl⟩:=Prod.mk.inj hA2
    clear hA2 h8
    replace cK:=Zh cK
    cases b8<;>cases xo
    all_goals
     go_wp2_with(first|go_skip|(go_at_call 173;refine(cK _ I.tail (gS _ J)).mono ?_;rintro r w9 ⟨va',vb',rfl,m1,m2⟩;replace m2:=Zh m2;have pw:World.cell? _ ⟨gw,0,none⟩=some (.bool _):=m1.cell 1 rfl 0;replace m1:=Zh m1;clear I J)|fail)
     go_meet
     exact⟨va',vb',rfl,Zh (m1.sub (by repeat(first|exact List.Sublist.refl _|apply List.Sublist.cons_cons|apply List.Sublist.cons))),m2⟩
   ·have hA2:=hAct.out
    unfold actN at hA2
    dsimp only at hA2
    rw[if_neg (by show¬wa=true;rw[z0.out (by omega)];decide),if_neg (by show¬wb=true;rw[z1.out (by omega)];decide),if_neg (show¬frm.tmod per=0 from z2.out (by omega)),if_pos (z3.out (by omega))]at hA2
    obtain⟨rfl,rfl⟩:=Prod.mk.inj hA2
    go_wp2_with fail
    go_meet
    exact⟨va,vb,rfl,Zh (I.sub (by repeat(first|exact List.Sublist.refl _|apply List.Sublist.cons_cons|apply List.Sublist.cons))),Zh (gS _ J)⟩
 case rest=>
  clear I J q_ gS F0
  obtain⟨va',vb',rfl,I,hS⟩:=hcut
  obtain⟨F0,q_,J,gS⟩:∃F:World→Prop,Stc F∧Hid (F _)∧Hid (∀W,F W→CplT w ⟨va',vb',vl,vr,A,nf,cf⟩ C9 W):=⟨_,Stc.cplT w ⟨va',vb',vl,vr,A,nf,cf⟩ C9,hS.out,fun _ h=>h⟩
  clear hS
  obtain⟨s1,s2,s3,s4,s5⟩:=hstl.out
  have e9:C9.frame=frm:=s5
  have w9:IntKind.i64.wrap (C9.frame+1)=C9.frame+1:=IntWalk.i64_in _ (by have:=f0.out;have:=f1.out;omega)
  clear s1 s2 s3 s4 s5 e9
  have p64:=Zc I 0 64 (.int .i64 C9.frame)
  go_upto_region 14 with(first|go_skip|(refine q_.m 0 I J 64 (cplA (tickC C9) ⟨va',vb',vl,vr,A,nf,cf⟩) ?_;clear I J p64;intro w4 I J;simp only[List.set]at I)|fail)
  go_wp2_with(first|go_skip|(refine lG 0 I uC.out ?_)|(refine q_.s 2 I J ?_;clear I J;intro w4 I J;simp only[List.set]at I)|fail)
  try simp only[Exit.inBlock,Exit.then]
  refine rT I 2 uC.out ?_
  have hS:=gS.out _ J
  exact⟨_,rfl,⟨(show CplT w ⟨va',vb',vl,vr,A,nf,cf⟩ (tickC C9) _ from⟨hS.a,hS.b,hS.q⟩).own,hNf.out⟩,I.below⟩
end Tx
end Go.Proofs.YtfamifgchgolpaaGreat
