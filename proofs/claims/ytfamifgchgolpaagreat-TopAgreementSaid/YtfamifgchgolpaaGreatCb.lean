/- Chapter 26: Receive: the program's. -/
import Derived.Test.YtfamifgchgolpaaGreatBy
set_option linter.unusedVariables false
set_option linter.unusedSimpArgs false
set_option maxRecDepth 100000
set_option maxHeartbeats 16000000
namespace Go.Proofs.YtfamifgchgolpaaGreat
open Go Go.RowKit Go.Sort Go.Shelf Go.Maps
namespace Tx
open Sw Mm Pl
theorem Mem.join {a w w':World} {L L':List (Nat×Array Value×TypeId)}(h:Mem a w L)(k:Mem w w' L'):Mem a w' (L'++L)where
 below:=bthen h.below k.below
 blk:=fun e he=>by
  rcases List.mem_append.1 he with he|he
  ·exact k.blk e he
  ·exact(h.blk e he).keep k.below
 nodup:=by
  rw[List.map_append,List.nodup_append]
  refine⟨k.nodup,h.nodup,fun x hx y hy e=> ?_⟩
  obtain⟨p,hp,rfl⟩:=List.mem_map.1 hx
  obtain⟨q,hq,rfl⟩:=List.mem_map.1 hy
  have h1:=k.ge p hp
  have h2:=(h.blk q hq).lt
  omega
 ge:=fun e he=>by
  rcases List.mem_append.1 he with he|he
  ·exact Nat.le_trans h.below.size (k.ge e he)
  ·exact h.ge e he
theorem run_field_row {P:Program} {w:World} {ty:TypeId} {C:Array Value} {k:Nat} {fs:Array Go.Field}(hu:P.underlying ty=some (.struct fs)) {x:Go.Field}(hx:fs[k]? =some x) {d:TypeDesc}(hd:P.underlying x.type=some d)(hr:d.isRow=true) {D:Array Value}(hi:(P.info? x.type).map (·.size)=some D.size)(hD:C.extract x.offset (x.offset+D.size)=D):
 (Instr.field ty (.agg C) k).run P w= .ok (.agg D) w:=by
 have hagg:(isAgg x.type).run P w= .ok true w:=by
  unfold isAgg
  rw[Sem.run_bind,run_underlying hd w]
  cases d<;>simp_all
 cases hq:P.info? x.type with
 |none=>simp[hq]at hi
 |some i=>
  have hs:i.size=D.size:=by simpa[hq]using hi
  simp[Instr.field,Sem.run_bind,run_underlying hu,hx,asAgg,part,hagg,sizeOf,typeInfo,hq,hs,hD]
theorem wpList_fieldA {P:Program} {ops:Array Oper} {rest:List Oper} {op:Oper} {a:Act} {w:World} {Q:Exit→Act→World→Prop}(hgd:op.guard=none)(ty:TypeId)(x:Operand)(k:Nat)(ho:op.op= .field ty x k)(C:Array Value)(hx:a.eval x= .agg C)(D:Array Value)
 (hrun:∀w,(Instr.field ty (.agg C) k).run P w= .ok (.agg D) w) (h:wpList P ops Q rest (a.put op.dst (.agg D)) w):wpList P ops Q (op::rest) a w:=by
 refine wpList_plain hgd fun K hK=> ?_
 unfold Oper.wp execOp
 simp only[ho,hx,hrun,Sem.run_bind,Sem.run_pure,Result.andThen_ok]
 exact hK _ _ h
theorem endA_asked(e:Ed)(v:EdV)(w:World):(Instr.field 32 (.agg (endA e v)) 6).run Tryz.prog w= .ok (.agg (msgA e.asked v.a)) w:=run_field_row Tryz.underlying32 rfl Tryz.underlying30 rfl (by exact zmsg) (by kernel_rfl)
theorem endA_reply(e:Ed)(v:EdV)(w:World):(Instr.field 32 (.agg (endA e v)) 9).run Tryz.prog w= .ok (.agg (msgA e.reply v.r)) w:=run_field_row Tryz.underlying32 rfl Tryz.underlying30 rfl (by exact zmsg) (by kernel_rfl)
theorem Mem.row1 {a w w':World} {B:Nat} {C:Array Value} {t:TypeId} {L:List (Nat×Array Value×TypeId)} {base s n:Nat} {e:TypeId} {v:Value} {xs:List Value}(h:Mem a w ((B,C,t)::L))(ho:w.ownsRow base e s v n xs)(hg:w.grownBy w' v.ownBlock)(hb:a.heap.size≤base)(hn:¬v.ownBlock=some B)(hne:∀x∈L,e≠x.2.2):Mem a w' ((B,C,t)::L):=
 h.grown hg fun g e1=>⟨Nat.le_trans hb (ho.lt g e1).1,fun x hx e2=>by
  rcases List.mem_cons.1 hx with rfl|hx
  ·exact hn (by rw[e1];exact congrArg some e2.symm)
  ·exact row_ne_blk ho (h.blk x (List.mem_cons_of_mem _ hx)) (hne x hx) (by rw[e1,e2])⟩
theorem refN_sub(w:World)(q:Msg)(c:Int):MsgSub w msgV0 (refN q c):=by
 unfold refN
 split
 ·exact⟨SubS.nil w,SubS.nil w,Nat.le_refl _,Nat.le_refl _⟩
 ·exact MsgSub.zero w
theorem run_op_field {P:Program} {a:Act} {o:Oper} {ty:TypeId} {x:Operand} {k:Nat} {C D:Array Value} {w:World}(ho:o.op= .field ty x k)(hx:a.eval x= .agg C)(hr:(Instr.field ty (.agg C) k).run P w= .ok (.agg D) w):(execOp a.eval o).run P w= .ok (.value (.agg D)) w:=by
 unfold execOp
 simp only[ho,hx,hr,Sem.run_bind,Sem.run_pure,Result.andThen_ok]
theorem AnsS.putT {w w':World} {v:AnsV} {x:Ans}(h:AnsS w v x) {B:Nat} {C:Array Value} {t:TypeId}(hB:Blk w B C t)(h1:t≠97)(h2:t≠85)(hg:w.grownBy w' (some B)):AnsS w' v x:=⟨h.e.put hB h1 h2 hg,h.m.put hB h1 hg,h.us.put hB h1 hg,h.spots.put hB h1 hg,h.moved.put hB h1 hg⟩
theorem accN_len {q:Msg} {n:Int} {l o:List Spt}(hl:l.length≤8)(ho:o.length≤8):(accN q n l o).spots.length≤8∧(accN q n l o).old.length≤8:=by
 unfold accN
 split
 ·exact⟨hl,ho⟩
 ·exact⟨by decide,by decide⟩
theorem MsgOwn.sub {w:World} {v:MsgV} {m:Msg}(h:MsgOwn w v m):MsgSub w v m:=by
 obtain⟨⟨b1,h1⟩,⟨b2,h2⟩,l1,l2⟩:=h
 exact⟨SubS.of_own h1,SubS.of_own h2,own_cap h1,own_cap h2⟩
theorem recv_bad {e:Ed} {t:Tab} {f:List Int} {m:Msg} {c:Int}(h:recvC e t m=c)(h0:c≠0):(recv e t f m).1=ed0∧(recv e t f m).2=msg0:=by
 unfold recv;rw[if_pos (by rw[h];exact h0)];exact⟨rfl,rfl⟩
theorem EdIs.asks {w:World} {m:Msg} {vm:MsgV}(h:MsgIs w vm m):EdIs w ⟨none,0,0,vm,msgV0,msgV0⟩ ⟨0,0,0,[],false,0,m,false,msg0,msg0⟩:=⟨Sls.nil,Nat.le_refl _,h,MsgIs.zero w,MsgIs.zero w⟩
theorem receive_any(e:Ed)(t:Tab)(f:List Int)(m:Msg)(v:EdV)(vt:TabV)(vm:MsgV)(A:Option Addr)(nf cf:Nat)(w:World)(h:EdIs w v e)(ht:TabIs w vt t)(hf:IntS w A nf f)(hm:MsgIs w vm m):Calls Tryz.prog 15 #[.agg (Ke e v),.agg (Kt t vt),.slice A nf cf,.agg (Km m vm)] w (TriOwn (recv e t f m).1 (recv e t f m).2 (recvC e t m) w):=by
 have I:=Zh (Mem.start w)
 have cF:∀W,Below w.heap.size w W→Calls Tryz.prog 19 #[.agg (Kt t vt),.agg (Ke e v)] W fun r w'=>∃v,r= .returned (.tuple #[.agg (tabA (fullN t e) v),.int .i64 (fullC t e)])∧TabIs w' v (fullN t e)∧Below W.heap.size W w':=fun W hb=>full_any t e vt v W (ht.keep hb) (h.keep hb)
 have cK:=fun W (hb:Below w.heap.size w W)=>chkM_any m vm W (hm.keep hb)
 have hA:recvC e t m=if fullC t e≠0 then fullC t e else if chkM m≠0∨m.reply=true then 11 else 0:=rfl
 have hFok:fullC t e=0→FullOk t e:=fun h=>(fullC_iff t e).1 h
 have hPb:∀c w',recvC e t m=c→c≠0→Below w.heap.size w w'→TriOwn (recv e t f m).1 (recv e t f m).2 (recvC e t m) w (.returned (.tuple #[.agg (Kz 28),.agg (Kz 7),.int .i64 c])) w':=fun c w' e1 e2 hb=>triOwn_bad (recv_bad e1 e2).1 (recv_bad e1 e2).2 e1 hb
 have hPo:∀w' E M ve vm,recvC e t m=0→recv e t f m=(E,M)→EdOwn w' ve E→MsgSub w' vm M→Below w.heap.size w w'→TriOwn (recv e t f m).1 (recv e t f m).2 (recvC e t m) w (.returned (.tuple #[.agg (endA E ve),.agg (msgA M vm),.int .i64 0])) w':=fun w' E M ve vm e1 e2 hE hM hb=>by
  rw[e1,e2]
  exact⟨ve,vm,rfl,hE,hM,hb⟩
 have hRd:∀J:fullC t e=0,chkM m=0→m.reply=false→recv e t f m=if m.kind=6 then(clearE e m,accN m 0 [] [])
  else if e.known=true∧m=e.last then(e,e.reply)
  else if e.opn=true then(e,refN m 3)
  else if m.number≠e.number then(e,refN m 1)
  else match wantN e t f m with
   |none=>(e,refN m 2)
   |some (n,s,o)=>(recvE e n s o m,accN m n s o):=fun h1 h2 h3=>recv_def ((fullC_iff t e).1 h1) h2 h3
 generalize TriOwn (recv e t f m).1 (recv e t f m).2 (recvC e t m) w=P at*
 generalize recvC e t m=RC at*
 generalize hFe:fullC t e=F at*
 generalize hKe:chkM m=CM at*
 replace hFe:=Zh hFe
 replace hKe:=Zh hKe
 have uE:=Tryz.underlying32
 have uT:=Tryz.underlying37
 have uM:=Tryz.underlying30
 refine zh12 ?_ cF cK hA hFok hPb hPo hRd uE uT uM h ht;clear cF cK hA hFok hPb hPo hRd uE uT uM h ht;intro cF cK hA hFok hPb hPo hRd uE uT uM h ht
 replace hf:=Zh hf
 replace hm:=Zh hm
 go_enter Tryz.func15,Tryz.ntmps15
 go_upto_region 1 with(first|(refine bA I 32 ?_;clear I;intro g4 w1 I hG;clear hG)|(refine bA I 37 ?_;clear I;intro g5 w1 I hG;clear hG)|(refine bA I 30 ?_;clear I;intro g7 w1 I hG;clear hG)|(refine wpList_allocA I rfl 32 rfl (by first|exact msgInfo|exact edInfo|exact tabInfo|exact info_tcl|exact info_spt) ?_;clear I;intro g8 w1 I hG;clear hG)|(refine wpList_allocA I rfl 30 rfl (by first|exact msgInfo|exact edInfo|exact tabInfo|exact info_tcl|exact info_spt) ?_;clear I;intro g9 w1 I hG;clear hG))
 have k4:=I.cell 4 rfl
 have k7:=I.cell 2 rfl
 go_upto_region 2 with(first
  |(refine lM 4 I uE.out ?_)
  |(refine lM 3 I uT.out ?_)
  |(go_at_call 19;refine(cF _ I.below).mono ?_;rintro r w3 ⟨vf,rfl,hTf,p_⟩;dsimp only[tabA];replace hTf:=Zh hTf;have HM2:=Zm I p_;clear I p_ k4 k7 cF;have I:=HM2;clear HM2;have k4:=I.cell 4 rfl;have k7:=I.cell 2 rfl)
  |(refine aN I tabInfo ?_;clear I k4 k7;intro g11 w1 I hG hN9;have k4:=I.cell 5 rfl;have k7:=I.cell 3 rfl)
  |(refine sF 0 I ?_;clear I k4 k7;intro w4 I hG4;simp only[List.set]at I;have k4:=I.cell 5 rfl;have k7:=I.cell 3 rfl)
  |fail)
 replace hTf:=Zh (hTf.keep (hG.grown hG4.out hG.size (fun k e=>by cases e;exact hN9.out)))
 clear hG hG4 hN9
 by_cases J:F=0
 case neg=>
  have hA1:=Zh (hA.trans (if_pos J))
  have d1:(F !=0)=true:=by rw[bne_iff_ne];exact J
  go_wp2_with(first
   |(refine sF 2 I ?_;clear I;intro w4 I hG4;simp only[List.set]at I)
   |(refine sF 1 I ?_;clear I;intro w4 I hG4;simp only[List.set]at I)
   |fail)
  try simp only[Exit.inBlock,Exit.then]
  refine rU I 2 1 uE.out uM.out ?_
  exact hPb.out F _ hA1.out J I.below
 subst J
 replace hA:=Zh (hA.trans (if_neg (fun h=>h rfl)))
 have hFo:=Zh (hFok rfl)
 clear hFok
 by_cases hC:CM=0
 case neg=>
  have hA1:=Zh (hA.trans (if_pos (.inl hC)))
  have d1:(CM !=0)=true:=by rw[bne_iff_ne];exact hC
  go_wp2_with(first
   |(go_at_call 47;refine(cK _ I.below).mono ?_;rintro r w3 ⟨rfl,p_⟩;replace hTf:=Zh (hTf.keep p_);have HM2:=Zm I p_;clear I p_ k4 k7 cK;have I:=HM2;clear HM2;have k4:=I.cell 5 rfl;have k7:=I.cell 3 rfl)
   |(refine lM 3 I uM.out ?_)
   |(refine sF 2 I ?_;clear I;intro w4 I hG4;simp only[List.set]at I)
   |(refine sF 1 I ?_;clear I;intro w4 I hG4;simp only[List.set]at I)
   |fail)
  try simp only[Exit.inBlock,Exit.then]
  refine rU I 2 1 uE.out uM.out ?_
  exact hPb.out 11 _ hA1.out (by decide) I.below
 subst hC
 obtain⟨K,r0,n0,c0,q0,sp,ol⟩:=m
 dsimp only at*
 cases r0
 case true=>
  have hA1:=Zh (hA.trans (if_pos (.inr rfl)))
  go_wp2_with(first
   |(go_at_call 47;refine(cK _ I.below).mono ?_;rintro r w3 ⟨rfl,p_⟩;replace hTf:=Zh (hTf.keep p_);have HM2:=Zm I p_;clear I p_ k4 k7 cK;have I:=HM2;clear HM2;have k4:=I.cell 5 rfl;have k7:=I.cell 3 rfl)
   |(refine lM 3 I uM.out ?_)
   |(refine sF 2 I ?_;clear I;intro w4 I hG4;simp only[List.set]at I)
   |(refine sF 1 I ?_;clear I;intro w4 I hG4;simp only[List.set]at I)
   |fail)
  try simp only[Exit.inBlock,Exit.then]
  refine rU I 2 1 uE.out uM.out ?_
  exact hPb.out 11 _ hA1.out (by decide) I.below
 replace hA:=Zh (hA.trans (if_neg (by rintro(h|h);exact h rfl;cases h)))
 replace hRd:=Zh (hRd rfl rfl rfl)
 have hMo:=Zh ((chkM_iff _).1 hKe.out)
 have hsm:=Zh (small_of h.out ((chkE_iff e).2 hFo.ed))
 go_upto_region 7 with(first
  |(go_at_call 47;refine(cK _ I.below).mono ?_;rintro r w3 ⟨rfl,p_⟩;replace hTf:=Zh (hTf.keep p_);have HM2:=Zm I p_;clear I p_ k4 k7 cK;have I:=HM2;clear HM2;have k4:=I.cell 5 rfl;have k7:=I.cell 3 rfl)
  |(refine lM 3 I uM.out ?_)
  |fail)
 have hUs:=Zh (us_ok hFo.out f ⟨K,false,n0,c0,q0,sp,ol⟩)
 have hlk:=hMo.kind1
 have hlk6:=hMo.kind
 dsimp only at hlk hlk6
 have hvs:vm.sn≤8∧vm.on≤8:=⟨by have h1:=hMo.ls;have h2:=hm.spots.len;dsimp only at h1 h2;omega,by have h1:=hMo.lo;have h2:=hm.old.len;dsimp only at h1 h2;omega⟩
 clear k4 k7
 have HMd:=Zh I.drew
 replace hTf:=Zh (hTf.keep ((Below.refl _ _).drew))
 clear I
 have I:=HMd
 clear HMd
 refine wp_region_plan (fun w'=>Mem w w' _) 4 [(0,true),(2,true),(3,true),(1,false)] (by kernel_rfl) (by kernel_rfl) I.out ?_
 generalize w3.drew=wB at*
 have HM0:=I
 have hBw:=Zh I.below
 clear I
 have hv:=Zh (h.keep hBw.out)
 have hmB:=Zh (hm.keep hBw.out)
 have cC:=Zh (fun W (hb:Below wB.heap.size wB W)=>clone_any e v W (hv.keep hb) hsm.c hsm.a hsm.l hsm.r)
 have cM:=Zh (fun W (hb:Below wB.heap.size wB W)=>clone_any ⟨0,0,0,[],false,0,⟨K,false,n0,c0,q0,sp,ol⟩,false,msg0,msg0⟩ ⟨none,0,0,vm,msgV0,msgV0⟩ W (EdIs.asks (hmB.keep hb)) (by dsimp only;omega) ⟨by dsimp only;omega,by dsimp only;omega⟩ ⟨by dsimp only[msgV0];omega,by dsimp only[msgV0];omega⟩ ⟨by dsimp only[msgV0];omega,by dsimp only[msgV0];omega⟩)
 have I:=Zh (Mem.start wB)
 refine plTakeL (by rfl) (yw 5 uE.out) ?_
 try go_frame
 refine plTakeL (by rfl) (yw 3 uM.out) ?_
 try go_frame
 repeat(first|(refine plPure rfl rfl (by intro w_ hSw;go_simp;first|done|exact rfl) ?_;try go_frame))
 refine plStepL rfl rfl fun K hK=> ?_
 go_wp2_with(first|(go_at_call 60;refine(cC _ (Below.refl _ _)).mono ?_;rintro r w5 ⟨v1,rfl,hE,p_⟩;dsimp only[endA];replace hE:=Zh hE)|fail)
 refine hK _ _ (HM0.keep p_) fun hS_=> ?_
 clear hK K hS_
 try go_frame
 replace I:=Zm I p_
 clear p_
 refine plDone ?_
 simp only[List.drop]
 go_upto_block 0 with(first
  |(go_at_call 60;refine(cM _ I.below).mono ?_;rintro r w6 ⟨v2,rfl,hE2,p_⟩;dsimp only[endA];replace hE2:=Zh hE2;replace hE:=Zh (hE.keep p_);replace I:=Zm I p_;clear p_)
  |(refine wpList_fieldA rfl _ _ _ rfl _ rfl _ (fun w_=>endA_asked ⟨0,0,0,[],false,0,⟨K,false,n0,c0,q0,sp,ol⟩,false,msg0,msg0⟩ v2 w_) ?_;dsimp only[msgA])
  |(refine bA I 110 ?_;clear I;intro ga w7 I hG;replace hE:=Zh (hE.keep hG.out);replace hE2:=Zh (hE2.keep hG.out);clear hG)
  |fail)
 have hS:Hid (AnsS w7 ⟨v1,v2.a,none,0,0,none,0,0,none,0,0⟩ (ans0 e ⟨K,false,n0,c0,q0,sp,ol⟩ [])):=⟨hE.out,hE2.asked,PreS.nil _,PreS.nil _,PreS.nil _⟩
 have hga:=Zh (I.ge _ (List.mem_cons_self ..))
 have HB1:=Zh I.below
 have HMj:=Zh (HM0.join I.out)
 simp only[List.cons_append,List.nil_append]at HMj
 clear I hE2
 have I:=HMj
 clear HMj
 have k4:=I.cell 6 rfl
 have k7:=I.cell 4 rfl
 have cAc:Hid (∀cnt A1 n1 c1 l1 B1 m1 d1 o1 W,Below w.heap.size w W→SptS W A1 n1 l1→SptS W B1 m1 o1→n1≤100000→m1≤100000→Calls Tryz.prog 69 #[.agg #[.int .i64 K,.bool false,.int .i64 n0,.int .i64 c0,.int .i64 q0,.slice vm.sA vm.sn vm.sc,.slice vm.oA vm.on vm.oc],.int .i64 cnt,.slice A1 n1 c1,.slice B1 m1 d1] W fun r w'=>∃v,r= .returned (.tuple #[.agg (msgA (accN ⟨K,false,n0,c0,q0,sp,ol⟩ cnt l1 o1) v),.int .i64 (accC ⟨K,false,n0,c0,q0,sp,ol⟩ cnt l1 o1)])∧MsgOwn w' v (accN ⟨K,false,n0,c0,q0,sp,ol⟩ cnt l1 o1)∧Below W.heap.size W w'):=fun cnt A1 n1 c1 l1 B1 m1 d1 o1 W hb h1 h2 h3 h4=>accO_any ⟨K,false,n0,c0,q0,sp,ol⟩ vm cnt A1 B1 n1 c1 m1 d1 l1 o1 W (hm.keep hb) h1 h2 h3 h4
 have cQ:=Zh (fun E vE W (hE:EdIs W vE E) (hs:Small vE)=>clone_any E vE W hE hs.c hs.a hs.l hs.r)
 by_cases c6:K=6
 case pos=>
  have d6:(K==6)=true:=by rw[beq_iff_eq];exact c6
  have hfin:Hid (recv e t f ⟨K,false,n0,c0,q0,sp,ol⟩=(clearE e ⟨K,false,n0,c0,q0,sp,ol⟩,accN ⟨K,false,n0,c0,q0,sp,ol⟩ 0 [] [])):=by show _= _;rw[hRd.out,if_pos c6]
  go_upto_region 27 with(first
   |(refine sN 0 I ?_;have hBq:=I.at_ 0 rfl;clear I;intro w4 I hG4;simp only[List.set]at I;replace hS:=Zh (hS.put hBq hG4.out);clear hBq)
   |fail)
  obtain⟨x,hx⟩:∃x:Ans,x=⟨startE e.node e.peer,⟨K,false,n0,c0,q0,sp,ol⟩,[],0,[],[]⟩:=⟨_,rfl⟩
  obtain⟨V,hV⟩:∃V:AnsV,V=⟨edV0,v2.a,none,0,0,none,0,0,none,0,0⟩:=⟨_,rfl⟩
  have HM2:Hid (Mem w w4 ((ga,ansA x V,110):: [(g11,(Kt (fullN t e) vf),37),(g9,(Kz 7),30),(g8,(Kz 28),32),(g7,#[.int .i64 K,.bool false,.int .i64 n0,.int .i64 c0,.int .i64 q0,.slice vm.sA vm.sn vm.sc,.slice vm.oA vm.on vm.oc],30),(g5,(Kt t vt),37),(g4,(Ke e v),32)])):=by subst hx hV;exact I
  have hS2:Hid (AnsS w4 V x):=by subst hx hV;exact⟨⟨⟨0,World.ownsRow_nil _ _ _ _⟩,rfl,MsgOwn.zero _,MsgOwn.zero _,MsgOwn.zero _⟩,hS.m,PreS.nil _,PreS.nil _,PreS.nil _⟩
  have hsz:V.sn≤8∧V.on≤8:=by subst hV;exact⟨by dsimp only;omega,by dsimp only;omega⟩
  have hxm8:Hid (x.m.spots.length≤8∧x.m.old.length≤8):=by subst hx;exact⟨hMo.ls,hMo.lo⟩
  obtain⟨hsz1,hszo⟩:=hsz
  have hsz2:V.e.cn≤100000∧V.e.a.sn≤100000∧V.e.a.on≤100000:=by subst hV;exact⟨by dsimp only[edV0,msgV0];omega,by dsimp only[edV0,msgV0];omega,by dsimp only[edV0,msgV0];omega⟩
  have hxf:Hid (recv e t f ⟨K,false,n0,c0,q0,sp,ol⟩=({ x.e with known:=true,last:=x.m,reply:=accN ⟨K,false,n0,c0,q0,sp,ol⟩ x.count x.spots x.moved},accN ⟨K,false,n0,c0,q0,sp,ol⟩ x.count x.spots x.moved)):=by subst hx;exact hfin.out
  clear I hS hfin hx hV hRd hE cC cM c6 k4 k7
  have I:=HM2
  have hS:=hS2
  clear HM2 hS2
  unfold ansA at I
  have hR8:=Zh (accN_len (q:=⟨K,false,n0,c0,q0,sp,ol⟩) (n:=x.count) (l:=x.spots) (o:=x.moved) (by have h1:=hS.spots.is.len;omega) (by have h1:=hS.moved.is.len;omega))
  have cAx:=Zh (cAc x.count V.sA V.sn V.sc x.spots V.oA V.on V.oc x.moved)
  generalize hRMe:accN ⟨K,false,n0,c0,q0,sp,ol⟩ x.count x.spots x.moved=RM at*
  replace hRMe:=Zh hRMe
  clear cAc
  have HMd:=Zh I.drew
  replace hS:=Zh (hS.keep ((Below.refl _ _).drew))
  clear I
  have I:=HMd
  clear HMd
  refine wp_region_pt (fun w'=>Mem w w' _) 19 (.take 0 (.take 1 (.take 2 (.take 3 (.take 4 (.take 5 (.take 6 (.take 7 (.take 8 (.take 9 (.take 10 (.take 11 (.take 12 (.fork 13 (.take 14 (.take 15 (.take 16 (.only 17 (.only 18 .done))))) 17 (.only 13 (.take 14 (.take 15 (.take 16 (.only 18 .done))))))))))))))))))) (by kernel_rfl) (by kernel_rfl) I.out ?_
  refine ptTake (by rfl) (yw 4 uM.out) ?_
  try go_frame
  repeat(first|(refine ptPure rfl rfl (by intro w_ hSw;go_simp;first|done|exact rfl) ?_;try go_frame)|(refine ptTake (by rfl) (yields_memc rfl _ _ rfl 0 (fun w_ hSw=>hSw) rfl _ rfl _ rfl _ (by first|exact Tryz.underlying3|exact Tryz.underlying4|exact Tryz.underlying28|exact Tryz.underlying27) (by rfl)) ?_;try go_frame))
  refine ptFork rfl rfl rfl rfl (fun K hK=> ?_) (fun K hK=> ?_)
  ·go_wp2_with(first|(go_at_call 69;refine(cAx _ I.below hS.spots.is hS.moved.is (by omega) (by omega)).mono ?_;rintro r w9 ⟨vr,rfl,hRM,p_⟩;dsimp only[msgA];replace hRM:=Zh hRM)|fail)
   refine hK _ _ (I.keep p_) fun hS_=> ?_
   clear hK K hS_
   try go_frame
   replace I:=Zm I p_
   replace hS:=Zh (hS.keep p_)
   clear p_
   repeat(first|(refine ptPure rfl rfl (by intro w_ hSw;go_simp;first|done|exact rfl) ?_;try go_frame))
   refine ptOnly rfl rfl fun K hK=> ?_
   go_wp2_with(first|(refine aN I msgInfo ?_;clear I;intro g19 w10 I hG hN9)|fail)
   refine hK _ _ (I.tail) fun hS_=> ?_
   clear hK K hS_
   try go_frame
   refine ptOnly rfl rfl fun K hK=> ?_
   go_wp2_with(first|(refine sF 0 I ?_;clear I;intro w4 I hG4;simp only[List.set]at I)|fail)
   refine hK _ _ (I.tail) fun hS_=> ?_
   clear hK K hS_
   try go_frame
   have hb2:=hG.grown hG4.out hG.size (fun k e=>by cases e;exact hN9.out)
   replace hS:=Zh (hS.keep hb2)
   replace hRM:=Zh (hRM.keep hb2)
   clear hG hG4 hN9 hb2
   refine ptDone ?_
   simp only[List.drop]
   go_upto_region 28 with fail
   have HMd:=Zh I.drew
   replace hS:=Zh (hS.keep ((Below.refl _ _).drew))
   replace hRM:=Zh (hRM.keep ((Below.refl _ _).drew))
   clear I
   have I:=HMd
   clear HMd
   refine wp_region_pt (fun w'=>Mem w w' ((g19,(Km RM vr),30):: [(g11,(Kt (fullN t e) vf),37),(g9,(Kz 7),30),(g8,(Kz 28),32),(g7,#[.int .i64 K,.bool false,.int .i64 n0,.int .i64 c0,.int .i64 q0,.slice vm.sA vm.sn vm.sc,.slice vm.oA vm.on vm.oc],30),(g5,(Kt t vt),37),(g4,(Ke e v),32)])∧w'.rangeAt ga 28 (#[.int .i64 x.m.kind,.bool x.m.reply,.int .i64 x.m.number,.int .i64 x.m.code,.int .i64 x.m.count,.slice V.m.sA V.m.sn V.m.sc,.slice V.m.oA V.m.on V.m.oc]).toList) 16 (.take 0 (.take 1 (.take 2 (.take 3 (.take 4 (.take 5 (.take 6 (.take 7 (.take 8 (.take 9 (.take 10 (.only 11 (.take 12 (.take 13 (.take 14 (.only 15 .done)))))))))))))))) (by kernel_rfl) (by kernel_rfl) ⟨I.less 1,I.range 1 rfl 28 (Km x.m V.m) (by rfl)⟩ ?_
   repeat(first|(refine ptPure rfl rfl (by intro w_ hSw;go_simp;first|done|exact rfl) ?_;try go_frame))
   refine ptTake (by rfl) (yields_part rfl _ _ rfl ga 28 rfl _ _ (fun w_ hSw=>by exact hSw.2) uM.out rfl (by exact zmsg)) ?_
   try go_frame
   refine ptTake (by rfl) (yields_memw rfl _ _ rfl 0 (fun w_ hSw=>by exact hSw.1) rfl rfl _ uM.out rfl (by exact zmsg)) ?_
   try go_frame
   repeat(first|(refine ptPure rfl rfl (by intro w_ hSw;go_simp;first|done|exact rfl) ?_;try go_frame))
   refine ptOnly rfl rfl fun K hK=> ?_
   go_wp2_with(first|(have hBm:=Zh (I.at_ 1 rfl);(refine sN 1 I ?_;have hBq:=I.at_ 1 rfl;clear I;intro w4 I hG4;simp only[List.set]at I;replace hS:=Zh (hS.put hBq hG4.out);clear hBq);replace hRM:=Zh (hRM.put hBm.out (by decide) hG4.out);clear hBm)|fail)
   refine hK _ _ (⟨I.less 1,I.range 1 rfl 28 (Km x.m V.m) (by rfl)⟩) fun hS_=> ?_
   clear hK K hS_
   try go_frame
   repeat(first|(refine ptPure rfl rfl (by intro w_ hSw;go_simp;first|done|exact rfl) ?_;try go_frame))
   refine ptOnly rfl rfl fun K hK=> ?_
   go_wp2_with(first|(have hBm:=Zh (I.at_ 1 rfl);(refine sN 1 I ?_;have hBq:=I.at_ 1 rfl;clear I;intro w4 I hG4;simp only[List.set]at I;replace hS:=Zh (hS.put hBq hG4.out);clear hBq);replace hRM:=Zh (hRM.put hBm.out (by decide) hG4.out);clear hBm)|fail)
   refine hK _ _ (⟨I.less 1,I.range 1 rfl 28 (Km x.m V.m) (by rfl)⟩) fun hS_=> ?_
   clear hK K hS_
   try go_frame
   refine ptDone ?_
   simp only[List.drop]
   go_upto_region 29 with(first|(have hBm:=Zh (I.at_ 1 rfl);(refine sN 1 I ?_;have hBq:=I.at_ 1 rfl;clear I;intro w4 I hG4;simp only[List.set]at I;replace hS:=Zh (hS.put hBq hG4.out);clear hBq);replace hRM:=Zh (hRM.put hBm.out (by decide) hG4.out);clear hBm)|fail)
   have hEx:Hid (EdOwn w4 { V.e with l:=V.m,r:=vr} { x.e with known:=true,last:=x.m,reply:=RM}):=⟨hS.e.cells,hS.e.lc,hS.e.asked,hS.m,hRM.out⟩
   have hsx:Hid (Small { V.e with l:=V.m,r:=vr}):=⟨hsz2.1,hsz2.2,by have h1:=hS.m.ls;have h2:=hS.m.lo;have h3:=hxm8.out;exact⟨by dsimp only;omega,by dsimp only;omega⟩,by have h1:=hRM.ls;have h2:=hRM.lo;have h3:=hR8.out;exact⟨by dsimp only;omega,by dsimp only;omega⟩⟩
   clear hS
   have HMd:=Zh I.drew
   replace hEx:=Zh (hEx.keep ((Below.refl _ _).drew))
   replace hRM:=Zh (hRM.keep ((Below.refl _ _).drew))
   clear I
   have I:=HMd
   clear HMd
   have HMs:=Zh (I.less 4)
   simp only[List.eraseIdx]at HMs
   refine wp_region_pt (fun w'=>Mem w w' _) 7 (.take 0 (.take 1 (.take 2 (.take 3 (.take 5 (.only 4 (.only 6 .done))))))) (by kernel_rfl) (by kernel_rfl) HMs.out ?_
   repeat(first|(refine ptPure rfl rfl (by intro w_ hSw;go_simp;first|done|exact rfl) ?_;try go_frame))
   refine ptTake (by rfl) (yields_mem (by rfl) _ _ (by rfl) 1 (fun w_ hSw=>hSw) (by rfl) _ (by rfl) (endA { x.e with known:=true,last:=x.m,reply:=RM} { V.e with l:=V.m,r:=vr}) (ansA_end ⟨{ x.e with known:=true,last:=x.m,reply:=RM},x.m,x.us,x.count,x.spots,x.moved⟩ ⟨{ V.e with l:=V.m,r:=vr},V.m,V.uA,V.un,V.uc,V.sA,V.sn,V.sc,V.oA,V.on,V.oc⟩) _ uE.out (by rfl) (by exact zend)) ?_
   try go_frame
   refine ptTake (by rfl) (yw 0 uM.out) ?_
   try go_frame
   refine ptOnly rfl rfl fun K hK=> ?_
   go_wp2_with(first|(go_at_call 60;refine(cQ { x.e with known:=true,last:=x.m,reply:=RM} { V.e with l:=V.m,r:=vr} _ hEx.is hsx.out).mono ?_;rintro r w12 ⟨v3,rfl,hE,p_⟩;dsimp only[endA];replace hE:=Zh hE)|fail)
   refine hK _ _ (HMs.keep p_) fun hS_=> ?_
   clear hK K hS_
   try go_frame
   replace I:=Zm I p_
   replace hRM:=Zh (hRM.keep p_)
   clear p_ HMs hEx
   refine ptOnly rfl rfl fun K hK=> ?_
   go_wp2_with(first|(have hBm:=Zh (I.at_ 4 rfl);(refine sF 4 I ?_;have hBq:=I.at_ 4 rfl;clear I;intro w4 I hG4;simp only[List.set]at I;replace hE:=Zh (hE.put hBq (by decide) (by decide) hG4.out);clear hBq);replace hRM:=Zh (hRM.put hBm.out (by decide) hG4.out);clear hBm)|fail)
   refine hK _ _ (I.less 4) fun hS_=> ?_
   clear hK K hS_
   try go_frame
   refine ptDone ?_
   simp only[List.drop]
   go_wp2_with(first|(have hBm:=Zh (I.at_ 3 rfl);(refine sF 3 I ?_;have hBq:=I.at_ 3 rfl;clear I;intro w4 I hG4;simp only[List.set]at I;replace hE:=Zh (hE.put hBq (by decide) (by decide) hG4.out);clear hBq);replace hRM:=Zh (hRM.put hBm.out (by decide) hG4.out);clear hBm)|fail)
   try simp only[Exit.inBlock,Exit.then]
   refine rU I 4 3 uE.out uM.out ?_
   exact hPo.out _ _ _ _ _ hA.out hxf.out hE.out hRM.sub I.below
  ·go_wp2_with(first|(refine aN I msgInfo ?_;clear I;intro g19 w10 I hG hN9)|fail)
   refine hK _ _ I.tail fun hS_=> ?_
   clear hK K hS_
   try go_frame
   replace hS:=Zh (hS.keep hG.out)
   clear hG hN9
   refine ptOnly rfl rfl fun K hK=> ?_
   go_wp2_with(first|(go_at_call 69;refine(cAx _ I.below hS.spots.is hS.moved.is (by omega) (by omega)).mono ?_;rintro r w9 ⟨vr,rfl,hRM,p_⟩;dsimp only[msgA];replace hRM:=Zh hRM)|fail)
   refine hK _ _ (I.tail.keep p_) fun hS_=> ?_
   clear hK K hS_
   try go_frame
   replace I:=Zm I p_
   replace hS:=Zh (hS.keep p_)
   clear p_
   repeat(first|(refine ptPure rfl rfl (by intro w_ hSw;go_simp;first|done|exact rfl) ?_;try go_frame))
   refine ptOnly rfl rfl fun K hK=> ?_
   go_wp2_with(first|(have hBm:=Zh (I.at_ 0 rfl);(refine sF 0 I ?_;clear I;intro w4 I hG4;simp only[List.set]at I);replace hS:=Zh (hS.putT hBm.out (by decide) (by decide) hG4.out);replace hRM:=Zh (hRM.put hBm.out (by decide) hG4.out);clear hBm)|fail)
   refine hK _ _ (I.tail) fun hS_=> ?_
   clear hK K hS_
   try go_frame
   refine ptDone ?_
   simp only[List.drop]
   go_upto_region 28 with fail
   have HMd:=Zh I.drew
   replace hS:=Zh (hS.keep ((Below.refl _ _).drew))
   replace hRM:=Zh (hRM.keep ((Below.refl _ _).drew))
   clear I
   have I:=HMd
   clear HMd
   refine wp_region_pt (fun w'=>Mem w w' ((g19,(Km RM vr),30):: [(g11,(Kt (fullN t e) vf),37),(g9,(Kz 7),30),(g8,(Kz 28),32),(g7,#[.int .i64 K,.bool false,.int .i64 n0,.int .i64 c0,.int .i64 q0,.slice vm.sA vm.sn vm.sc,.slice vm.oA vm.on vm.oc],30),(g5,(Kt t vt),37),(g4,(Ke e v),32)])∧w'.rangeAt ga 28 (#[.int .i64 x.m.kind,.bool x.m.reply,.int .i64 x.m.number,.int .i64 x.m.code,.int .i64 x.m.count,.slice V.m.sA V.m.sn V.m.sc,.slice V.m.oA V.m.on V.m.oc]).toList) 16 (.take 0 (.take 1 (.take 2 (.take 3 (.take 4 (.take 5 (.take 6 (.take 7 (.take 8 (.take 9 (.take 10 (.only 11 (.take 12 (.take 13 (.take 14 (.only 15 .done)))))))))))))))) (by kernel_rfl) (by kernel_rfl) ⟨I.less 1,I.range 1 rfl 28 (Km x.m V.m) (by rfl)⟩ ?_
   repeat(first|(refine ptPure rfl rfl (by intro w_ hSw;go_simp;first|done|exact rfl) ?_;try go_frame))
   refine ptTake (by rfl) (yields_part rfl _ _ rfl ga 28 rfl _ _ (fun w_ hSw=>by exact hSw.2) uM.out rfl (by exact zmsg)) ?_
   try go_frame
   refine ptTake (by rfl) (yields_memw rfl _ _ rfl 0 (fun w_ hSw=>by exact hSw.1) rfl rfl _ uM.out rfl (by exact zmsg)) ?_
   try go_frame
   repeat(first|(refine ptPure rfl rfl (by intro w_ hSw;go_simp;first|done|exact rfl) ?_;try go_frame))
   refine ptOnly rfl rfl fun K hK=> ?_
   go_wp2_with(first|(have hBm:=Zh (I.at_ 1 rfl);(refine sN 1 I ?_;have hBq:=I.at_ 1 rfl;clear I;intro w4 I hG4;simp only[List.set]at I;replace hS:=Zh (hS.put hBq hG4.out);clear hBq);replace hRM:=Zh (hRM.put hBm.out (by decide) hG4.out);clear hBm)|fail)
   refine hK _ _ (⟨I.less 1,I.range 1 rfl 28 (Km x.m V.m) (by rfl)⟩) fun hS_=> ?_
   clear hK K hS_
   try go_frame
   repeat(first|(refine ptPure rfl rfl (by intro w_ hSw;go_simp;first|done|exact rfl) ?_;try go_frame))
   refine ptOnly rfl rfl fun K hK=> ?_
   go_wp2_with(first|(have hBm:=Zh (I.at_ 1 rfl);(refine sN 1 I ?_;have hBq:=I.at_ 1 rfl;clear I;intro w4 I hG4;simp only[List.set]at I;replace hS:=Zh (hS.put hBq hG4.out);clear hBq);replace hRM:=Zh (hRM.put hBm.out (by decide) hG4.out);clear hBm)|fail)
   refine hK _ _ (⟨I.less 1,I.range 1 rfl 28 (Km x.m V.m) (by rfl)⟩) fun hS_=> ?_
   clear hK K hS_
   try go_frame
   refine ptDone ?_
   simp only[List.drop]
   go_upto_region 29 with(first|(have hBm:=Zh (I.at_ 1 rfl);(refine sN 1 I ?_;have hBq:=I.at_ 1 rfl;clear I;intro w4 I hG4;simp only[List.set]at I;replace hS:=Zh (hS.put hBq hG4.out);clear hBq);replace hRM:=Zh (hRM.put hBm.out (by decide) hG4.out);clear hBm)|fail)
   have hEx:Hid (EdOwn w4 { V.e with l:=V.m,r:=vr} { x.e with known:=true,last:=x.m,reply:=RM}):=⟨hS.e.cells,hS.e.lc,hS.e.asked,hS.m,hRM.out⟩
   have hsx:Hid (Small { V.e with l:=V.m,r:=vr}):=⟨hsz2.1,hsz2.2,by have h1:=hS.m.ls;have h2:=hS.m.lo;have h3:=hxm8.out;exact⟨by dsimp only;omega,by dsimp only;omega⟩,by have h1:=hRM.ls;have h2:=hRM.lo;have h3:=hR8.out;exact⟨by dsimp only;omega,by dsimp only;omega⟩⟩
   clear hS
   have HMd:=Zh I.drew
   replace hEx:=Zh (hEx.keep ((Below.refl _ _).drew))
   replace hRM:=Zh (hRM.keep ((Below.refl _ _).drew))
   clear I
   have I:=HMd
   clear HMd
   have HMs:=Zh (I.less 4)
   simp only[List.eraseIdx]at HMs
   refine wp_region_pt (fun w'=>Mem w w' _) 7 (.take 0 (.take 1 (.take 2 (.take 3 (.take 5 (.only 4 (.only 6 .done))))))) (by kernel_rfl) (by kernel_rfl) HMs.out ?_
   repeat(first|(refine ptPure rfl rfl (by intro w_ hSw;go_simp;first|done|exact rfl) ?_;try go_frame))
   refine ptTake (by rfl) (yields_mem (by rfl) _ _ (by rfl) 1 (fun w_ hSw=>hSw) (by rfl) _ (by rfl) (endA { x.e with known:=true,last:=x.m,reply:=RM} { V.e with l:=V.m,r:=vr}) (ansA_end ⟨{ x.e with known:=true,last:=x.m,reply:=RM},x.m,x.us,x.count,x.spots,x.moved⟩ ⟨{ V.e with l:=V.m,r:=vr},V.m,V.uA,V.un,V.uc,V.sA,V.sn,V.sc,V.oA,V.on,V.oc⟩) _ uE.out (by rfl) (by exact zend)) ?_
   try go_frame
   refine ptTake (by rfl) (yw 0 uM.out) ?_
   try go_frame
   refine ptOnly rfl rfl fun K hK=> ?_
   go_wp2_with(first|(go_at_call 60;refine(cQ { x.e with known:=true,last:=x.m,reply:=RM} { V.e with l:=V.m,r:=vr} _ hEx.is hsx.out).mono ?_;rintro r w12 ⟨v3,rfl,hE,p_⟩;dsimp only[endA];replace hE:=Zh hE)|fail)
   refine hK _ _ (HMs.keep p_) fun hS_=> ?_
   clear hK K hS_
   try go_frame
   replace I:=Zm I p_
   replace hRM:=Zh (hRM.keep p_)
   clear p_ HMs hEx
   refine ptOnly rfl rfl fun K hK=> ?_
   go_wp2_with(first|(have hBm:=Zh (I.at_ 4 rfl);(refine sF 4 I ?_;have hBq:=I.at_ 4 rfl;clear I;intro w4 I hG4;simp only[List.set]at I;replace hE:=Zh (hE.put hBq (by decide) (by decide) hG4.out);clear hBq);replace hRM:=Zh (hRM.put hBm.out (by decide) hG4.out);clear hBm)|fail)
   refine hK _ _ (I.less 4) fun hS_=> ?_
   clear hK K hS_
   try go_frame
   refine ptDone ?_
   simp only[List.drop]
   go_wp2_with(first|(have hBm:=Zh (I.at_ 3 rfl);(refine sF 3 I ?_;have hBq:=I.at_ 3 rfl;clear I;intro w4 I hG4;simp only[List.set]at I;replace hE:=Zh (hE.put hBq (by decide) (by decide) hG4.out);clear hBq);replace hRM:=Zh (hRM.put hBm.out (by decide) hG4.out);clear hBm)|fail)
   try simp only[Exit.inBlock,Exit.then]
   refine rU I 4 3 uE.out uM.out ?_
   exact hPo.out _ _ _ _ _ hA.out hxf.out hE.out hRM.sub I.below
 have d6:(K==6)=false:=by rw[beq_eq_false_iff_ne];exact c6
 replace hRd:=Zh (hRd.trans (if_neg c6))
 have cC2:=Zh (fun W (hb:Below w.heap.size w W)=>clone_any e v W (h.keep hb) hsm.c hsm.a hsm.l hsm.r)
 have cEq:=Zh (fun W (hb:Below w.heap.size w W)=>equalM_any ⟨K,false,n0,c0,q0,sp,ol⟩ e.last vm v.l W (hm.keep hb) (h.last.keep hb))
 have cRf:=Zh (fun c W (hb:Below w.heap.size w W) (h7:Box W g7 _) (h4:Box W g4 _)=>refuse_any e v ⟨K,false,n0,c0,q0,sp,ol⟩ vm c g7 g4 W (h.keep hb) hsm.out (hm.keep hb) h7 h4)
 clear cC cM hE
 have hMS:=Zh (meth_says (e:=e) (t:=t) (f:=f) (m:=⟨K,false,n0,c0,q0,sp,ol⟩) hMo.out c6)
 replace c6:=Zh c6
 generalize hEQ:decide (⟨K,false,n0,c0,q0,sp,ol⟩=e.last)=EQ at*
 replace hEQ:=Zh hEQ
 obtain⟨en,ep,eu,cl,eo,es,ea,ek,el,er⟩:=e
 dsimp only at*
 go_upto_region 20 with fail
 go_cut[105] (fun s wx=>s= .bool (ek&&EQ)∧Hid (Mem w wx ((ga,#[.int .i64 en,.int .i64 ep,.int .i64 eu,.slice v1.cA v1.cn v1.cc,.bool eo,.int .i64 es,.int .i64 ea.kind,.bool ea.reply,.int .i64 ea.number,.int .i64 ea.code,.int .i64 ea.count,.slice v1.a.sA v1.a.sn v1.a.sc,.slice v1.a.oA v1.a.on v1.a.oc,.bool ek,.int .i64 el.kind,.bool el.reply,.int .i64 el.number,.int .i64 el.code,.int .i64 el.count,.slice v1.l.sA v1.l.sn v1.l.sc,.slice v1.l.oA v1.l.on v1.l.oc,.int .i64 er.kind,.bool er.reply,.int .i64 er.number,.int .i64 er.code,.int .i64 er.count,.slice v1.r.sA v1.r.sn v1.r.sc,.slice v1.r.oA v1.r.on v1.r.oc,.int .i64 K,.bool false,.int .i64 n0,.int .i64 c0,.int .i64 q0,.slice v2.a.sA v2.a.sn v2.a.sc,.slice v2.a.oA v2.a.on v2.a.oc,.slice none 0 0,.int .i64 0,.slice none 0 0,.slice none 0 0],110):: [(g11,(Kt (fullN t ⟨en,ep,eu,cl,eo,es,ea,ek,el,er⟩) vf),37),(g9,(Kz 7),30),(g8,(Kz 28),32),(g7,#[.int .i64 K,.bool false,.int .i64 n0,.int .i64 c0,.int .i64 q0,.slice vm.sA vm.sn vm.sc,.slice vm.oA vm.on vm.oc],30),(g5,(Kt t vt),37),(g4,#[.int .i64 en,.int .i64 ep,.int .i64 eu,.slice v.cA v.cn v.cc,.bool eo,.int .i64 es,.int .i64 ea.kind,.bool ea.reply,.int .i64 ea.number,.int .i64 ea.code,.int .i64 ea.count,.slice v.a.sA v.a.sn v.a.sc,.slice v.a.oA v.a.on v.a.oc,.bool ek,.int .i64 el.kind,.bool el.reply,.int .i64 el.number,.int .i64 el.code,.int .i64 el.count,.slice v.l.sA v.l.sn v.l.sc,.slice v.l.oA v.l.on v.l.oc,.int .i64 er.kind,.bool er.reply,.int .i64 er.number,.int .i64 er.code,.int .i64 er.count,.slice v.r.sA v.r.sn v.r.sc,.slice v.r.oA v.r.on v.r.oc],32)]))∧Hid (AnsS wx ⟨v1,v2.a,none,0,0,none,0,0,none,0,0⟩ (ans0 ⟨en,ep,eu,cl,eo,es,ea,ek,el,er⟩ ⟨K,false,n0,c0,q0,sp,ol⟩ []))∧Hid (Below wB.heap.size wB wx))
 case first=>
  cases ek
  all_goals
   go_wp2_with(first
    |(refine wpList_loadP 4 I (by rfl) _ _ rfl _ _ rfl rfl #[.int .i64 K,.bool false,.int .i64 n0,.int .i64 c0,.int .i64 q0,.slice vm.sA vm.sn vm.sc,.slice vm.oA vm.on vm.oc] (by rfl) _ uM.out rfl (by exact zmsg) ?_)
    |(refine wpList_loadP 6 I (by rfl) _ _ rfl _ _ rfl rfl (Km el v.l) (by rfl) _ uM.out rfl (by exact zmsg) ?_)
    |(go_at_call 61;refine(cEq _ I.below).mono ?_;rintro r w8 ⟨rfl,p_⟩;replace hS:=Zh (hS.keep p_);replace HB1:=Zh (bthen HB1.out p_);have HM2:=Zm I p_;clear I p_ k4 k7 cEq;have I:=HM2;clear HM2;have k4:=I.cell 6 rfl;have k7:=I.cell 4 rfl)
    |fail)
   go_meet
   exact⟨rfl,I,hS,HB1⟩
 case rest=>
  clear I hS HB1 k4 k7 cEq
  obtain⟨rfl,I,hS,HB1⟩:=hcut
  have k4:=I.cell 6 rfl
  have k7:=I.cell 4 rfl
  by_cases hB:ek=true∧EQ=true
  case pos=>
   obtain⟨rfl,rfl⟩:=hB
   have hlast:=of_decide_eq_true hEQ.out
   have hfin:Hid (recv ⟨en,ep,eu,cl,eo,es,ea,true,el,er⟩ t f ⟨K,false,n0,c0,q0,sp,ol⟩=(⟨en,ep,eu,cl,eo,es,ea,true,el,er⟩,er)):=by show _= _;rw[hRd.out,if_pos ⟨rfl,hlast⟩]
   clear hRd hlast
   go_upto_region 22 with(first
    |(refine lM 6 I uE.out ?_)
    |(go_at_call 60;refine(cC2 _ I.below).mono ?_;rintro r w8 ⟨v3,rfl,hE,p_⟩;dsimp only[endA];replace hE:=Zh hE;have HM2:=Zm I p_;clear I p_ k4 k7 hS HB1;have I:=HM2;clear HM2;have k4:=I.cell 6 rfl;have k7:=I.cell 4 rfl)
    |(refine aN I edInfo ?_;clear I k4 k7;intro g15 w9 I hG hN9;replace hE:=Zh (hE.keep hG.out);clear hG hN9)
    |(refine sF 0 I ?_;have hBq:=I.at_ 0 rfl;clear I;intro w4 I hG4;simp only[List.set]at I;replace hE:=Zh (hE.put hBq (by decide) (by decide) hG4.out);clear hBq)
    |fail)
   have HMd:=Zh I.drew
   replace hE:=Zh (hE.keep ((Below.refl _ _).drew))
   clear I
   have I:=HMd
   clear HMd
   have HMs:=Zh (I.less 4)
   simp only[List.eraseIdx]at HMs
   refine wp_region_plan (fun w'=>Mem w w' _) 5 [(0,true),(1,true),(2,false),(3,true),(4,false)] (by kernel_rfl) (by kernel_rfl) HMs.out ?_
   refine plTakeL (by rfl) (yw 0 uE.out) ?_
   try go_frame
   refine plTakeL (by rfl) (yw 6 uE.out) ?_
   try go_frame
   refine plStepL rfl rfl fun K hK=> ?_
   go_wp2_with(first|(go_at_call 60;refine(cC2 _ I.below).mono ?_;rintro r w10 ⟨v4,rfl,hE4,p_⟩;dsimp only[endA];replace hE4:=Zh hE4)|fail)
   refine hK _ _ (HMs.keep p_) fun hS_=> ?_
   clear hK K hS_
   try go_frame
   replace I:=Zm I p_
   replace hE:=Zh (hE.keep p_)
   clear p_ HMs
   refine plTakeL (by rfl) (.inl ⟨by rfl,fun w_ _=>run_op_field rfl rfl (endA_reply ⟨en,ep,eu,cl,eo,es,ea,true,el,er⟩ v4 w_)⟩) ?_
   try simp only[Act.put,List.setIfInBounds_toArray,List.set_cons_zero,List.set_cons_succ]
   refine plStepL rfl rfl fun K hK=> ?_
   go_wp2_with(first|(have hBm:=Zh (I.at_ 4 rfl);(refine sF 4 I ?_;have hBq:=I.at_ 4 rfl;clear I;intro w4 I hG4;simp only[List.set]at I;replace hE:=Zh (hE.put hBq (by decide) (by decide) hG4.out);clear hBq);replace hE4:=Zh (hE4.put hBm.out (by decide) (by decide) hG4.out);clear hBm)|fail)
   refine hK _ _ (I.less 4) fun hS_=> ?_
   clear hK K hS_
   try go_frame
   refine plDone ?_
   simp only[List.drop]
   dsimp only[msgA]
   go_wp2_with(first|(have hBm:=Zh (I.at_ 3 rfl);(refine sF 3 I ?_;have hBq:=I.at_ 3 rfl;clear I;intro w4 I hG4;simp only[List.set]at I;replace hE:=Zh (hE.put hBq (by decide) (by decide) hG4.out);clear hBq);replace hE4:=Zh (hE4.put hBm.out (by decide) (by decide) hG4.out);clear hBm)|fail)
   try simp only[Exit.inBlock,Exit.then]
   refine rU I 4 3 uE.out uM.out ?_
   exact hPo.out _ _ _ _ _ hA.out hfin.out hE.out hE4.reply.sub I.below
  have hneg:¬(ek=true∧(⟨K,false,n0,c0,q0,sp,ol⟩:Msg)=el):=fun hh=>hB ⟨hh.1,by rw[←hEQ.out];exact decide_eq_true hh.2⟩
  replace hRd:=Zh (hRd.trans (if_neg hneg))
  have hBf:(ek&&EQ)=false:=by cases ek<;>cases EQ<;>simp_all
  clear hneg hB hEQ cC2
  rw[hBf]
  cases eo
  case true=>
   have hfin:=Zh (hRd.trans (if_pos rfl))
   clear hRd
   go_wp2_with(first
    |(go_at_call 58;refine(cRf 3 _ I.below (I.at_ 4 rfl).box (I.at_ 6 rfl).box).mono ?_;rintro r w8 ⟨v9,rfl,hE,p_⟩;dsimp only[endA,msgA,msgV0];replace hE:=Zh hE;have HM2:=Zm I p_;clear I p_ k4 k7 hS HB1;have I:=HM2;clear HM2;have k4:=I.cell 6 rfl;have k7:=I.cell 4 rfl)
    |(refine sF 3 I ?_;have hBq:=I.at_ 3 rfl;clear I;intro w4 I hG4;simp only[List.set]at I;replace hE:=Zh (hE.put hBq (by decide) (by decide) hG4.out);clear hBq)
    |(refine sF 2 I ?_;have hBq:=I.at_ 2 rfl;clear I;intro w4 I hG4;simp only[List.set]at I;replace hE:=Zh (hE.put hBq (by decide) (by decide) hG4.out);clear hBq)
    |fail)
   try simp only[Exit.inBlock,Exit.then]
   refine rU I 3 2 uE.out uM.out ?_
   exact hPo.out _ _ _ _ _ hA.out hfin.out hE.out (refN_sub _ _ _) I.below
  replace hRd:=Zh (hRd.trans (if_neg (by decide)))
  by_cases hnu:n0=eu
  case neg=>
   have hfin:=Zh (hRd.trans (if_pos hnu))
   have dn:(n0 !=eu)=true:=by rw[bne_iff_ne];exact hnu
   clear hRd
   go_wp2_with(first
    |(go_at_call 58;refine(cRf 1 _ I.below (I.at_ 4 rfl).box (I.at_ 6 rfl).box).mono ?_;rintro r w8 ⟨v9,rfl,hE,p_⟩;dsimp only[endA,msgA,msgV0];replace hE:=Zh hE;have HM2:=Zm I p_;clear I p_ k4 k7 hS HB1;have I:=HM2;clear HM2;have k4:=I.cell 6 rfl;have k7:=I.cell 4 rfl)
    |(refine sF 3 I ?_;have hBq:=I.at_ 3 rfl;clear I;intro w4 I hG4;simp only[List.set]at I;replace hE:=Zh (hE.put hBq (by decide) (by decide) hG4.out);clear hBq)
    |(refine sF 2 I ?_;have hBq:=I.at_ 2 rfl;clear I;intro w4 I hG4;simp only[List.set]at I;replace hE:=Zh (hE.put hBq (by decide) (by decide) hG4.out);clear hBq)
    |fail)
   try simp only[Exit.inBlock,Exit.then]
   refine rU I 3 2 uE.out uM.out ?_
   exact hPo.out _ _ _ _ _ hA.out hfin.out hE.out (refN_sub _ _ _) I.below
  have dn:(n0 !=eu)=false:=by rw[bne_eq_false_iff_eq];exact hnu
  replace hRd:=Zh (hRd.trans (if_neg (fun h=>h hnu)))
  replace hnu:=Zh hnu
  generalize hFU:fullN t ⟨en,ep,eu,cl,false,es,ea,ek,el,er⟩=FU at*
  replace hFU:=Zh hFU
  have uS:=Zh Tryz.underlying97
  have hspl:=hm.spots.len
  dsimp only at hspl
  have cFi:=Zh (fun s W (hb:Below wB.heap.size wB W)=>fits_any FU vf A nf cf f s W (hTf.keep hb) (hf.keep (bthen hBw.out hb)))
  have hsuc:=Zh (fun k (hk:k<vm.sn)=>Sw.filter_take_succ (fitsN FU f) sp k (by omega))
  have hful:=Zh (fun k=>(show((sp.take k).filter (fitsN FU f)).length≤8 from by
   have h1:=List.length_filter_le (fitsN FU f) (sp.take k)
   have h2:=List.length_take_le' k sp
   have h3:=hMo.ls
   dsimp only at h3
   omega))
  generalize hwC:wc=wC at*
  clear hwC
  have hgw:=Zh (gb_refl wC (some ga))
  have hBC:=Zh (I.at_ 0 rfl)
  have hSC:=Zh (fun W (hg:wC.grownBy W (some ga))=>hS.put hBC.out hg)
  have HBC:=Zh (fun W (hg:wC.grownBy W (some ga))=>HB1.grown hg HB1.size (fun k e=>by cases e;exact hga.out))
  have hws:=Zh I.below.size
  go_wp2_with fail
  go_loopw[17,53] (fun _ i wr=>Hid (∃(k n2:Nat) (A2:Option Addr) (c2:Nat),k≤vm.sn∧i= .int .i64 k∧Hid (((sp.take k).filter (fitsN FU f)).length=n2)∧Hid (wC.grownBy wr (some ga))∧Hid (wr.ownsRow wC.heap.size 97 2 (.slice A2 n2 c2) n2 (((sp.take k).filter (fitsN FU f)).flatMap sptE))∧Hid (Mem w wr ((ga,#[.int .i64 en,.int .i64 ep,.int .i64 eu,.slice v1.cA v1.cn v1.cc,.bool false,.int .i64 es,.int .i64 ea.kind,.bool ea.reply,.int .i64 ea.number,.int .i64 ea.code,.int .i64 ea.count,.slice v1.a.sA v1.a.sn v1.a.sc,.slice v1.a.oA v1.a.on v1.a.oc,.bool ek,.int .i64 el.kind,.bool el.reply,.int .i64 el.number,.int .i64 el.code,.int .i64 el.count,.slice v1.l.sA v1.l.sn v1.l.sc,.slice v1.l.oA v1.l.on v1.l.oc,.int .i64 er.kind,.bool er.reply,.int .i64 er.number,.int .i64 er.code,.int .i64 er.count,.slice v1.r.sA v1.r.sn v1.r.sc,.slice v1.r.oA v1.r.on v1.r.oc,.int .i64 K,.bool false,.int .i64 n0,.int .i64 c0,.int .i64 q0,.slice v2.a.sA v2.a.sn v2.a.sc,.slice v2.a.oA v2.a.on v2.a.oc,.slice A2 n2 c2,.int .i64 0,.slice none 0 0,.slice none 0 0],110):: [(g11,(Kt FU vf),37),(g9,(Kz 7),30),(g8,(Kz 28),32),(g7,#[.int .i64 K,.bool false,.int .i64 n0,.int .i64 c0,.int .i64 q0,.slice vm.sA vm.sn vm.sc,.slice vm.oA vm.on vm.oc],30),(g5,(Kt t vt),37),(g4,#[.int .i64 en,.int .i64 ep,.int .i64 eu,.slice v.cA v.cn v.cc,.bool false,.int .i64 es,.int .i64 ea.kind,.bool ea.reply,.int .i64 ea.number,.int .i64 ea.code,.int .i64 ea.count,.slice v.a.sA v.a.sn v.a.sc,.slice v.a.oA v.a.on v.a.oc,.bool ek,.int .i64 el.kind,.bool el.reply,.int .i64 el.number,.int .i64 el.code,.int .i64 el.count,.slice v.l.sA v.l.sn v.l.sc,.slice v.l.oA v.l.on v.l.oc,.int .i64 er.kind,.bool er.reply,.int .i64 er.number,.int .i64 er.code,.int .i64 er.count,.slice v.r.sA v.r.sn v.r.sc,.slice v.r.oA v.r.on v.r.oc],32)])))) (fun _ i _=>vm.sn-(intOf i).toNat)
  case atStart=>exact Zh ⟨0,0,none,0,by omega,rfl,rfl,hgw,World.ownsRow_nil _ _ _ _,I⟩
  case round=>
   clear I hgw k4 k7 hS HB1
   obtain⟨k,n2,A2,c2,hk,rfl,HL,hgw,HO,I⟩:=hrel.out
   clear hrel
   have k7:=I.cell 4 rfl
   have k4:=I.cell 6 rfl
   by_cases hlt2:k<vm.sn
   ·have hx0:=hm.spots.keep I.below
    dsimp only at hx0
    obtain⟨b,off,hvA⟩:=hx0.addr (show 0<vm.sn by omega)
    rw[hvA]at hx0
    have hx:=spt_at hx0 hlt2
    have hst:=hsuc.out k hlt2
    have hmm:=hful.out k
    rw[HL.out]at hmm
    have cFs:=cFi.out (sp.getD k default)
    generalize sp.getD k default=y at*
    obtain⟨x0,x1⟩:=y
    obtain⟨q0',q1'⟩:=hx
    dsimp only at q0' q1' hst cFs
    have k75:=k7 5
    change _=some (Value.slice vm.sA vm.sn vm.sc)at k75
    have r1:(k:Int)<(vm.sn:Int):=by omega
    clear hx0
    simp only[hvA]at k75 I ⊢
    clear k7 k4
    have k7:=I.cell 4 rfl
    generalize hFt:fitsN FU f ⟨x0,x1⟩=FT at*
    refine zh4 ?_ hst cFs hFt hvA;clear hst cFs hFt hvA;intro hst cFs hFt hvA
    cases FT
    case false=>
     have hE0:(sp.take (k+1)).filter (fitsN FU f)=(sp.take k).filter (fitsN FU f):=by rw[hst.out,if_neg (by decide),List.append_nil]
     go_wp2_with(first
      |(refine aN I info_spt ?_;clear I k7;intro g17 w1 I hG hN9;have k7:=I.cell 5 rfl)
      |((refine sF 0 I ?_;clear I k7;intro w4 I hG4;simp only[List.set]at I;have k7:=I.cell 5 rfl);have p_:=hG.grown hG4.out hG.size (fun k e=>by cases e;exact hN9.out);replace HO:=Zh (owns_keep HO.out p_);replace hgw:=Zh (gbt hgw.out (gbb p_));have HB:=Zh (HBC _ hgw.out);clear hG hG4 hN9 p_)
      |(refine lM 2 I uT.out ?_)
      |(refine lM 0 I uS.out ?_)
      |(go_at_call 62;refine(cFs _ HB.out).mono ?_;rintro r w5 ⟨rfl,p_⟩;replace HO:=Zh (owns_keep HO.out p_);replace hgw:=Zh (gbt hgw.out (gbb p_));clear HB;have HM2:=Zm I p_;clear I p_ k7;have I:=HM2;clear HM2;have k7:=I.cell 5 rfl)
      |fail)
     have HL2:Hid (((sp.take (k+1)).filter (fitsN FU f)).length=n2):=by show _= _;rw[hE0];exact HL.out
     have HO2:Hid (w5.ownsRow wC.heap.size 97 2 (.slice A2 n2 c2) n2 (((sp.take (k+1)).filter (fitsN FU f)).flatMap sptE)):=by show World.ownsRow _ _ _ _ _ _ _;rw[hE0];exact HO.out
     have HM2:=Zh I.tail
     refine⟨Zh ⟨k+1,n2,A2,c2,by omega,by go_num,HL2,hgw,HO2,HM2⟩,?_⟩
     simp[intOf];omega
    case true=>
     have hE0:(sp.take (k+1)).filter (fitsN FU f)=(sp.take k).filter (fitsN FU f)++ [(⟨x0,x1⟩:Spt)]:=by rw[hst.out,if_pos rfl]
     replace hE0:=Zh hE0
     go_upto_region 12 with(first
      |(refine aN I info_spt ?_;clear I k7;intro g17 w1 I hG hN9;have k7:=I.cell 5 rfl)
      |(have hne:Hid (¬(Value.slice A2 n2 c2).ownBlock=some g17):=(fun e=>absurd (HO.lt g17 e).2 (Nat.not_lt.2 hN9.out));(refine sF 0 I ?_;clear I k7;intro w4 I hG4;simp only[List.set]at I;have k7:=I.cell 5 rfl);have p_:=hG.grown hG4.out hG.size (fun k e=>by cases e;exact hN9.out);replace HO:=Zh (owns_keep HO.out p_);replace hgw:=Zh (gbt hgw.out (gbb p_));have HB:=Zh (HBC _ hgw.out);clear hG hG4 hN9 p_)
      |(refine lM 2 I uT.out ?_)
      |(refine lM 0 I uS.out ?_)
      |(go_at_call 62;refine(cFs _ HB.out).mono ?_;rintro r w5 ⟨rfl,p_⟩;replace HO:=Zh (owns_keep HO.out p_);replace hgw:=Zh (gbt hgw.out (gbb p_));clear HB;have HM2:=Zm I p_;clear I p_ k7;have I:=HM2;clear HM2;have k7:=I.cell 5 rfl)
      |fail)
     have HMd:=Zh I.drew
     clear I
     have I:=HMd
     clear HMd
     replace HO:=Zh (owns_keep HO.out ((Below.refl _ _).drew))
     replace hgw:=Zh (show wC.grownBy w5.drew (some ga)from gbt hgw.out (gbb (Below.refl _ _).drew))
     clear k7
     have HMs:=Zh I.out
     refine wp_region_plan (fun w'=>Mem _ w' _) 8 [(0,true),(1,true),(2,true),(3,true),(4,true),(5,true),(6,false),(7,false)] (by kernel_rfl) (by kernel_rfl) HMs.out ?_
     generalize w5.drew=wD at*
     repeat(first|(refine plPure rfl rfl (by intro w_ hSw;go_simp;first|done|exact rfl) ?_;try go_frame)|(refine plTakeL (by rfl) (yields_memc rfl _ _ rfl 1 (fun w_ hSw=>hSw) rfl _ rfl _ rfl _ (by first|exact Tryz.underlying3|exact Tryz.underlying4|exact Tryz.underlying28|exact Tryz.underlying27) (by rfl)) ?_;try go_frame))
     refine plTakeL (by rfl) (yw 0 uS.out) ?_
     try go_frame
     refine plStepL rfl rfl fun K hK=> ?_
     go_wp2_with(first|fail|fail)
     refine hK _ _ (HMs.keep (ball _ _)) fun hS_=> ?_
     clear hK K hS_
     try go_frame
     refine plStepL rfl rfl fun K hK=> ?_
     go_wp2_with(first|(at_builtin;refine wpList_append_sls eltS _ rfl _ _ rfl wC.heap.size (.slice A2 n2 c2) ((sp.take k).filter (fitsN FU f)) rfl (by rw[HL.out];exact HO.alloc _) _ 1 1 [⟨x0,x1⟩] rfl (Sls.one (Blk.new _ _ _)) (by rw[HL.out];simp;omega) (by have:=hgw.size;exact Nat.le_trans this (ball _ _).size) ?_;intro v1' w6 HO1 HG1 _;rw[List.length_append,HL.out,List.length_singleton]at HO1;obtain⟨A3,c3,rfl⟩:=own_slice HO1;replace HO1:=Zh HO1)|fail)
     refine hK _ _ ((HMs.keep (ball _ _)).row1 (HO.alloc _) HG1 hws.out hne.out (apart_of (by rfl))) fun hS_=> ?_
     clear hK K hS_
     try go_frame
     have hHO:=fun q e=>(HO.lt q e).1
     replace hgw:=Zh (gb_new (gbt hgw.out (gbb (ball _ _))) HG1 hHO)
     replace I:=Zh ((I.keep (ball _ _)).row1 (HO.alloc _) HG1 hws.out hne.out (apart_of (by rfl)))
     clear HG1 hHO HO HMs
     refine plDone ?_
     simp only[List.drop]
     go_wp2_with(first|(have hBq:=I.at_ 1 rfl;(refine sN 1 I ?_;clear I;intro w4 I hG4;simp only[List.set]at I);have HO2:=Zh (HO1.kept hG4.out (.inr (row_ne_blk HO1.out hBq (by decide))));clear hBq)|fail)
     rw[←hE0.out]at HO2
     have HL2:Hid (((sp.take (k+1)).filter (fitsN FU f)).length=n2+1):=by show _= _;rw[hE0.out,List.length_append,HL.out];rfl
     have hgw2:=Zh (gbt hgw.out hG4.out)
     have HM2:=Zh I.tail
     refine⟨Zh ⟨k+1,n2+1,A3,c3,by omega,by go_num,HL2,hgw2,HO2,HM2⟩,?_⟩
     simp[intOf];omega
   ·have hkn:sp.take k=sp:=List.take_of_length_le (by omega)
    rw[hkn]at HL HO
    have hS0:=Zh (hSC _ hgw.out)
    have hS:Hid (AnsS wr ⟨v1,v2.a,A2,n2,c2,none,0,0,none,0,0⟩ (ans0 ⟨en,ep,eu,cl,false,es,ea,ek,el,er⟩ ⟨K,false,n0,c0,q0,sp,ol⟩ (sp.filter (fitsN FU f)))):=⟨hS0.e,hS0.m,PreS.of_own HO.out,PreS.nil _,PreS.nil _⟩
    clear hS0 HO hSC HBC hBC hsuc hful cFi hgw HL
    have cMe:Hid (∀W,Mem w W ((ga,ansA (ans0 ⟨en,ep,eu,cl,false,es,ea,ek,el,er⟩ ⟨K,false,n0,c0,q0,sp,ol⟩ (sp.filter (fitsN FU f))) ⟨v1,v2.a,A2,n2,c2,none,0,0,none,0,0⟩,110):: [(g11,(Kt FU vf),37),(g9,(Kz 7),30),(g8,(Kz 28),32),(g7,#[.int .i64 K,.bool false,.int .i64 n0,.int .i64 c0,.int .i64 q0,.slice vm.sA vm.sn vm.sc,.slice vm.oA vm.on vm.oc],30),(g5,(Kt t vt),37),(g4,#[.int .i64 en,.int .i64 ep,.int .i64 eu,.slice v.cA v.cn v.cc,.bool false,.int .i64 es,.int .i64 ea.kind,.bool ea.reply,.int .i64 ea.number,.int .i64 ea.code,.int .i64 ea.count,.slice v.a.sA v.a.sn v.a.sc,.slice v.a.oA v.a.on v.a.oc,.bool ek,.int .i64 el.kind,.bool el.reply,.int .i64 el.number,.int .i64 el.code,.int .i64 el.count,.slice v.l.sA v.l.sn v.l.sc,.slice v.l.oA v.l.on v.l.oc,.int .i64 er.kind,.bool er.reply,.int .i64 er.number,.int .i64 er.code,.int .i64 er.count,.slice v.r.sA v.r.sn v.r.sc,.slice v.r.oA v.r.on v.r.oc],32)])→AnsS W ⟨v1,v2.a,A2,n2,c2,none,0,0,none,0,0⟩ (ans0 ⟨en,ep,eu,cl,false,es,ea,ek,el,er⟩ ⟨K,false,n0,c0,q0,sp,ol⟩ (sp.filter (fitsN FU f)))→Calls Tryz.prog (methF K) #[.pointer (some ⟨ga,0,none⟩)] W (MethPost w [(g11,(Kt FU vf),37),(g9,(Kz 7),30),(g8,(Kz 28),32),(g7,#[.int .i64 K,.bool false,.int .i64 n0,.int .i64 c0,.int .i64 q0,.slice vm.sA vm.sn vm.sc,.slice vm.oA vm.on vm.oc],30),(g5,(Kt t vt),37),(g4,#[.int .i64 en,.int .i64 ep,.int .i64 eu,.slice v.cA v.cn v.cc,.bool false,.int .i64 es,.int .i64 ea.kind,.bool ea.reply,.int .i64 ea.number,.int .i64 ea.code,.int .i64 ea.count,.slice v.a.sA v.a.sn v.a.sc,.slice v.a.oA v.a.on v.a.oc,.bool ek,.int .i64 el.kind,.bool el.reply,.int .i64 el.number,.int .i64 el.code,.int .i64 el.count,.slice v.l.sA v.l.sn v.l.sc,.slice v.l.oA v.l.on v.l.oc,.int .i64 er.kind,.bool er.reply,.int .i64 er.number,.int .i64 er.code,.int .i64 er.count,.slice v.r.sA v.r.sn v.r.sc,.slice v.r.oA v.r.on v.r.oc],32)] ga (methA K (ans0 ⟨en,ep,eu,cl,false,es,ea,ek,el,er⟩ ⟨K,false,n0,c0,q0,sp,ol⟩ (sp.filter (fitsN FU f)))))):=fun W h0 hS=>meth_any ⟨en,ep,eu,cl,false,es,ea,ek,el,er⟩ ⟨K,false,n0,c0,q0,sp,ol⟩ (sp.filter (fitsN FU f)) ⟨v1,v2.a,A2,n2,c2,none,0,0,none,0,0⟩ hFo.ed hMo.out rfl hUs.out ga w W [(g11,(Kt FU vf),37),(g9,(Kz 7),30),(g8,(Kz 28),32),(g7,#[.int .i64 K,.bool false,.int .i64 n0,.int .i64 c0,.int .i64 q0,.slice vm.sA vm.sn vm.sc,.slice vm.oA vm.on vm.oc],30),(g5,(Kt t vt),37),(g4,#[.int .i64 en,.int .i64 ep,.int .i64 eu,.slice v.cA v.cn v.cc,.bool false,.int .i64 es,.int .i64 ea.kind,.bool ea.reply,.int .i64 ea.number,.int .i64 ea.code,.int .i64 ea.count,.slice v.a.sA v.a.sn v.a.sc,.slice v.a.oA v.a.on v.a.oc,.bool ek,.int .i64 el.kind,.bool el.reply,.int .i64 el.number,.int .i64 el.code,.int .i64 el.count,.slice v.l.sA v.l.sn v.l.sc,.slice v.l.oA v.l.on v.l.oc,.int .i64 er.kind,.bool er.reply,.int .i64 er.number,.int .i64 er.code,.int .i64 er.count,.slice v.r.sA v.r.sn v.r.sc,.slice v.r.oA v.r.on v.r.oc],32)] h0 hS ⟨rfl,rfl,rfl⟩ (apart_of (by rfl))
    have hM2:Hid (MethSays ⟨en,ep,eu,cl,false,es,ea,ek,el,er⟩ t f ⟨K,false,n0,c0,q0,sp,ol⟩ (methA K (ans0 ⟨en,ep,eu,cl,false,es,ea,ek,el,er⟩ ⟨K,false,n0,c0,q0,sp,ol⟩ (sp.filter (fitsN FU f))))):=hMS.out
    generalize methA K (ans0 ⟨en,ep,eu,cl,false,es,ea,ek,el,er⟩ ⟨K,false,n0,c0,q0,sp,ol⟩ (sp.filter (fitsN FU f)))=F at cMe hM2
    clear hMS
    obtain⟨y,ok⟩:=F
    go_upto_region 14 with fail
    obtain⟨u1,u2,u3,u4,u5,hu1,hu2,hu3,hu4,hu5,hlk5,hb5⟩:=meths_map wr K ⟨hlk,by have:=c6.out;omega⟩
    clear k4 k7
    replace I:=Zh (I.keep hb5)
    replace hS:=Zh (hS.keep hb5)
    clear hb5
    have k4:=I.cell 6 rfl
    have k7:=I.cell 4 rfl
    have eM:=eMeth K
    have hmk:= @run_makeMap Tryz.prog
    go_upto_region 15 with fail
    clear hu1 hu2 hu3 hu4 hu5 hlk5
    go_wp2_with fail
    refine(cMe _ I.out hS.out).mono ?_
    clear I hS k4 k7 cMe
    rintro r w6 ⟨V,rfl,I,hS⟩
    replace I:=Zh I
    replace hS:=Zh hS
    have k4:=I.cell 6 rfl
    have k7:=I.cell 4 rfl
    dsimp only at I hS
    cases ok
    case false=>
     have hfin:=Zh (meth_none hRd.out hM2.out)
     clear hRd hM2
     go_wp2_with(first
      |(go_at_call 58;refine(cRf 2 _ I.below (I.at_ 4 rfl).box (I.at_ 6 rfl).box).mono ?_;rintro r w8 ⟨v9,rfl,hE,p_⟩;dsimp only[endA,msgA,msgV0];replace hE:=Zh hE;have HM2:=Zm I p_;clear I p_ k4 k7 hS;have I:=HM2;clear HM2;have k4:=I.cell 6 rfl;have k7:=I.cell 4 rfl)
      |(refine sF 3 I ?_;have hBq:=I.at_ 3 rfl;clear I;intro w4 I hG4;simp only[List.set]at I;replace hE:=Zh (hE.put hBq (by decide) (by decide) hG4.out);clear hBq)
      |(refine sF 2 I ?_;have hBq:=I.at_ 2 rfl;clear I;intro w4 I hG4;simp only[List.set]at I;replace hE:=Zh (hE.put hBq (by decide) (by decide) hG4.out);clear hBq)
      |fail)
     try simp only[Exit.inBlock,Exit.then]
     refine rU I 3 2 uE.out uM.out ?_
     exact hPo.out _ _ _ _ _ hA.out hfin.out hE.out (refN_sub _ _ _) I.below
    case true=>
     have hFt:=Zh (meth_fit hFo.out hKe.out rfl c6.out hRd.out hM2.out)
     clear hRd hM2 cRf
     unfold ansA at I
     have cNx:=Zh (fun W=>next_any eu W)
     go_upto_region 27 with(first
      |(go_at_call 68;refine(cNx _).mono ?_;rintro r w_ ⟨rfl,rfl⟩)
      |(refine sN 0 I ?_;have hBq:=I.at_ 0 rfl;clear I;intro w4 I hG4;simp only[List.set]at I;replace hS:=Zh (hS.put hBq hG4.out);clear hBq)
      |fail)
     clear cNx
     obtain⟨x,hx⟩:∃x:Ans,x=numA2 y (nextN eu):=⟨_,rfl⟩
     have HM2:Hid (Mem w w4 ((ga,ansA x V,110):: [(g11,(Kt FU vf),37),(g9,(Kz 7),30),(g8,(Kz 28),32),(g7,#[.int .i64 K,.bool false,.int .i64 n0,.int .i64 c0,.int .i64 q0,.slice vm.sA vm.sn vm.sc,.slice vm.oA vm.on vm.oc],30),(g5,(Kt t vt),37),(g4,#[.int .i64 en,.int .i64 ep,.int .i64 eu,.slice v.cA v.cn v.cc,.bool false,.int .i64 es,.int .i64 ea.kind,.bool ea.reply,.int .i64 ea.number,.int .i64 ea.code,.int .i64 ea.count,.slice v.a.sA v.a.sn v.a.sc,.slice v.a.oA v.a.on v.a.oc,.bool ek,.int .i64 el.kind,.bool el.reply,.int .i64 el.number,.int .i64 el.code,.int .i64 el.count,.slice v.l.sA v.l.sn v.l.sc,.slice v.l.oA v.l.on v.l.oc,.int .i64 er.kind,.bool er.reply,.int .i64 er.number,.int .i64 er.code,.int .i64 er.count,.slice v.r.sA v.r.sn v.r.sc,.slice v.r.oA v.r.on v.r.oc],32)])):=by subst hx;exact I
     have hS2:Hid (AnsS w4 V x):=by subst hx;exact⟨⟨hS.e.cells,hS.e.lc,hS.e.asked,hS.e.last,hS.e.reply⟩,hS.m,hS.us,hS.spots,hS.moved⟩
     have hxm8:Hid (x.m.spots.length≤8∧x.m.old.length≤8):=by subst hx;have:=hFt.msg;show y.m.spots.length≤8∧y.m.old.length≤8;rw[this];exact⟨hMo.ls,hMo.lo⟩
     have hsz1:V.sn≤8:=by have h1:=hS.spots.is.len;have h2:=hFt.ls;omega
     have hszo:V.on≤8:=by have h1:=hS.moved.is.len;have h2:=hFt.lo;omega
     have hsz2:V.e.cn≤100000∧V.e.a.sn≤100000∧V.e.a.on≤100000:=by
      have h1:=hS.e.lc
      have h2:=hFt.lc
      have h3:=hS.e.asked.ls
      have h4:=hS.e.asked.lo
      have h5:=hFo.ed.len.2.1
      have h6:=hFt.asked
      rw[h6]at h3 h4
      dsimp only at h5 h3 h4
      exact⟨by omega,by omega,by omega⟩
     have hxf:Hid (recv ⟨en,ep,eu,cl,false,es,ea,ek,el,er⟩ t f ⟨K,false,n0,c0,q0,sp,ol⟩=({ x.e with known:=true,last:=x.m,reply:=accN ⟨K,false,n0,c0,q0,sp,ol⟩ x.count x.spots x.moved},accN ⟨K,false,n0,c0,q0,sp,ol⟩ x.count x.spots x.moved)):=by subst hx;exact hFt.out.out
     clear I hS hFt hx k4 k7
     have I:=HM2
     have hS:=hS2
     clear HM2 hS2
     unfold ansA at I
     have hR8:=Zh (accN_len (q:=⟨K,false,n0,c0,q0,sp,ol⟩) (n:=x.count) (l:=x.spots) (o:=x.moved) (by have h1:=hS.spots.is.len;omega) (by have h1:=hS.moved.is.len;omega))
     have cAx:=Zh (cAc x.count V.sA V.sn V.sc x.spots V.oA V.on V.oc x.moved)
     generalize hRMe:accN ⟨K,false,n0,c0,q0,sp,ol⟩ x.count x.spots x.moved=RM at*
     replace hRMe:=Zh hRMe
     clear cAc
     have HMd:=Zh I.drew
     replace hS:=Zh (hS.keep ((Below.refl _ _).drew))
     clear I
     have I:=HMd
     clear HMd
     refine wp_region_pt (fun w'=>Mem w w' _) 19 (.take 0 (.take 1 (.take 2 (.take 3 (.take 4 (.take 5 (.take 6 (.take 7 (.take 8 (.take 9 (.take 10 (.take 11 (.take 12 (.fork 13 (.take 14 (.take 15 (.take 16 (.only 17 (.only 18 .done))))) 17 (.only 13 (.take 14 (.take 15 (.take 16 (.only 18 .done))))))))))))))))))) (by kernel_rfl) (by kernel_rfl) I.out ?_
     refine ptTake (by rfl) (yw 4 uM.out) ?_
     try go_frame
     repeat(first|(refine ptPure rfl rfl (by intro w_ hSw;go_simp;first|done|exact rfl) ?_;try go_frame)|(refine ptTake (by rfl) (yields_memc rfl _ _ rfl 0 (fun w_ hSw=>hSw) rfl _ rfl _ rfl _ (by first|exact Tryz.underlying3|exact Tryz.underlying4|exact Tryz.underlying28|exact Tryz.underlying27) (by rfl)) ?_;try go_frame))
     refine ptFork rfl rfl rfl rfl (fun K hK=> ?_) (fun K hK=> ?_)
     ·go_wp2_with(first|(go_at_call 69;refine(cAx _ I.below hS.spots.is hS.moved.is (by omega) (by omega)).mono ?_;rintro r w9 ⟨vr,rfl,hRM,p_⟩;dsimp only[msgA];replace hRM:=Zh hRM)|fail)
      refine hK _ _ (I.keep p_) fun hS_=> ?_
      clear hK K hS_
      try go_frame
      replace I:=Zm I p_
      replace hS:=Zh (hS.keep p_)
      clear p_
      repeat(first|(refine ptPure rfl rfl (by intro w_ hSw;go_simp;first|done|exact rfl) ?_;try go_frame))
      refine ptOnly rfl rfl fun K hK=> ?_
      go_wp2_with(first|(refine aN I msgInfo ?_;clear I;intro g19 w10 I hG hN9)|fail)
      refine hK _ _ (I.tail) fun hS_=> ?_
      clear hK K hS_
      try go_frame
      refine ptOnly rfl rfl fun K hK=> ?_
      go_wp2_with(first|(refine sF 0 I ?_;clear I;intro w4 I hG4;simp only[List.set]at I)|fail)
      refine hK _ _ (I.tail) fun hS_=> ?_
      clear hK K hS_
      try go_frame
      have hb2:=hG.grown hG4.out hG.size (fun k e=>by cases e;exact hN9.out)
      replace hS:=Zh (hS.keep hb2)
      replace hRM:=Zh (hRM.keep hb2)
      clear hG hG4 hN9 hb2
      refine ptDone ?_
      simp only[List.drop]
      go_upto_region 28 with fail
      have HMd:=Zh I.drew
      replace hS:=Zh (hS.keep ((Below.refl _ _).drew))
      replace hRM:=Zh (hRM.keep ((Below.refl _ _).drew))
      clear I
      have I:=HMd
      clear HMd
      refine wp_region_pt (fun w'=>Mem w w' ((g19,(Km RM vr),30):: [(g11,(Kt FU vf),37),(g9,(Kz 7),30),(g8,(Kz 28),32),(g7,#[.int .i64 K,.bool false,.int .i64 n0,.int .i64 c0,.int .i64 q0,.slice vm.sA vm.sn vm.sc,.slice vm.oA vm.on vm.oc],30),(g5,(Kt t vt),37),(g4,#[.int .i64 en,.int .i64 ep,.int .i64 eu,.slice v.cA v.cn v.cc,.bool false,.int .i64 es,.int .i64 ea.kind,.bool ea.reply,.int .i64 ea.number,.int .i64 ea.code,.int .i64 ea.count,.slice v.a.sA v.a.sn v.a.sc,.slice v.a.oA v.a.on v.a.oc,.bool ek,.int .i64 el.kind,.bool el.reply,.int .i64 el.number,.int .i64 el.code,.int .i64 el.count,.slice v.l.sA v.l.sn v.l.sc,.slice v.l.oA v.l.on v.l.oc,.int .i64 er.kind,.bool er.reply,.int .i64 er.number,.int .i64 er.code,.int .i64 er.count,.slice v.r.sA v.r.sn v.r.sc,.slice v.r.oA v.r.on v.r.oc],32)])∧w'.rangeAt ga 28 (#[.int .i64 x.m.kind,.bool x.m.reply,.int .i64 x.m.number,.int .i64 x.m.code,.int .i64 x.m.count,.slice V.m.sA V.m.sn V.m.sc,.slice V.m.oA V.m.on V.m.oc]).toList) 16 (.take 0 (.take 1 (.take 2 (.take 3 (.take 4 (.take 5 (.take 6 (.take 7 (.take 8 (.take 9 (.take 10 (.only 11 (.take 12 (.take 13 (.take 14 (.only 15 .done)))))))))))))))) (by kernel_rfl) (by kernel_rfl) ⟨I.less 1,I.range 1 rfl 28 (Km x.m V.m) (by rfl)⟩ ?_
      repeat(first|(refine ptPure rfl rfl (by intro w_ hSw;go_simp;first|done|exact rfl) ?_;try go_frame))
      refine ptTake (by rfl) (yields_part rfl _ _ rfl ga 28 rfl _ _ (fun w_ hSw=>by exact hSw.2) uM.out rfl (by exact zmsg)) ?_
      try go_frame
      refine ptTake (by rfl) (yields_memw rfl _ _ rfl 0 (fun w_ hSw=>by exact hSw.1) rfl rfl _ uM.out rfl (by exact zmsg)) ?_
      try go_frame
      repeat(first|(refine ptPure rfl rfl (by intro w_ hSw;go_simp;first|done|exact rfl) ?_;try go_frame))
      refine ptOnly rfl rfl fun K hK=> ?_
      go_wp2_with(first|(have hBm:=Zh (I.at_ 1 rfl);(refine sN 1 I ?_;have hBq:=I.at_ 1 rfl;clear I;intro w4 I hG4;simp only[List.set]at I;replace hS:=Zh (hS.put hBq hG4.out);clear hBq);replace hRM:=Zh (hRM.put hBm.out (by decide) hG4.out);clear hBm)|fail)
      refine hK _ _ (⟨I.less 1,I.range 1 rfl 28 (Km x.m V.m) (by rfl)⟩) fun hS_=> ?_
      clear hK K hS_
      try go_frame
      repeat(first|(refine ptPure rfl rfl (by intro w_ hSw;go_simp;first|done|exact rfl) ?_;try go_frame))
      refine ptOnly rfl rfl fun K hK=> ?_
      go_wp2_with(first|(have hBm:=Zh (I.at_ 1 rfl);(refine sN 1 I ?_;have hBq:=I.at_ 1 rfl;clear I;intro w4 I hG4;simp only[List.set]at I;replace hS:=Zh (hS.put hBq hG4.out);clear hBq);replace hRM:=Zh (hRM.put hBm.out (by decide) hG4.out);clear hBm)|fail)
      refine hK _ _ (⟨I.less 1,I.range 1 rfl 28 (Km x.m V.m) (by rfl)⟩) fun hS_=> ?_
      clear hK K hS_
      try go_frame
      refine ptDone ?_
      simp only[List.drop]
      go_upto_region 29 with(first|(have hBm:=Zh (I.at_ 1 rfl);(refine sN 1 I ?_;have hBq:=I.at_ 1 rfl;clear I;intro w4 I hG4;simp only[List.set]at I;replace hS:=Zh (hS.put hBq hG4.out);clear hBq);replace hRM:=Zh (hRM.put hBm.out (by decide) hG4.out);clear hBm)|fail)
      have hEx:Hid (EdOwn w4 { V.e with l:=V.m,r:=vr} { x.e with known:=true,last:=x.m,reply:=RM}):=⟨hS.e.cells,hS.e.lc,hS.e.asked,hS.m,hRM.out⟩
      have hsx:Hid (Small { V.e with l:=V.m,r:=vr}):=⟨hsz2.1,hsz2.2,by have h1:=hS.m.ls;have h2:=hS.m.lo;have h3:=hxm8.out;exact⟨by dsimp only;omega,by dsimp only;omega⟩,by have h1:=hRM.ls;have h2:=hRM.lo;have h3:=hR8.out;exact⟨by dsimp only;omega,by dsimp only;omega⟩⟩
      clear hS
      have HMd:=Zh I.drew
      replace hEx:=Zh (hEx.keep ((Below.refl _ _).drew))
      replace hRM:=Zh (hRM.keep ((Below.refl _ _).drew))
      clear I
      have I:=HMd
      clear HMd
      have HMs:=Zh (I.less 4)
      simp only[List.eraseIdx]at HMs
      refine wp_region_pt (fun w'=>Mem w w' _) 7 (.take 0 (.take 1 (.take 2 (.take 3 (.take 5 (.only 4 (.only 6 .done))))))) (by kernel_rfl) (by kernel_rfl) HMs.out ?_
      repeat(first|(refine ptPure rfl rfl (by intro w_ hSw;go_simp;first|done|exact rfl) ?_;try go_frame))
      refine ptTake (by rfl) (yields_mem (by rfl) _ _ (by rfl) 1 (fun w_ hSw=>hSw) (by rfl) _ (by rfl) (endA { x.e with known:=true,last:=x.m,reply:=RM} { V.e with l:=V.m,r:=vr}) (ansA_end ⟨{ x.e with known:=true,last:=x.m,reply:=RM},x.m,x.us,x.count,x.spots,x.moved⟩ ⟨{ V.e with l:=V.m,r:=vr},V.m,V.uA,V.un,V.uc,V.sA,V.sn,V.sc,V.oA,V.on,V.oc⟩) _ uE.out (by rfl) (by exact zend)) ?_
      try go_frame
      refine ptTake (by rfl) (yw 0 uM.out) ?_
      try go_frame
      refine ptOnly rfl rfl fun K hK=> ?_
      go_wp2_with(first|(go_at_call 60;refine(cQ { x.e with known:=true,last:=x.m,reply:=RM} { V.e with l:=V.m,r:=vr} _ hEx.is hsx.out).mono ?_;rintro r w12 ⟨v3,rfl,hE,p_⟩;dsimp only[endA];replace hE:=Zh hE)|fail)
      refine hK _ _ (HMs.keep p_) fun hS_=> ?_
      clear hK K hS_
      try go_frame
      replace I:=Zm I p_
      replace hRM:=Zh (hRM.keep p_)
      clear p_ HMs hEx
      refine ptOnly rfl rfl fun K hK=> ?_
      go_wp2_with(first|(have hBm:=Zh (I.at_ 4 rfl);(refine sF 4 I ?_;have hBq:=I.at_ 4 rfl;clear I;intro w4 I hG4;simp only[List.set]at I;replace hE:=Zh (hE.put hBq (by decide) (by decide) hG4.out);clear hBq);replace hRM:=Zh (hRM.put hBm.out (by decide) hG4.out);clear hBm)|fail)
      refine hK _ _ (I.less 4) fun hS_=> ?_
      clear hK K hS_
      try go_frame
      refine ptDone ?_
      simp only[List.drop]
      go_wp2_with(first|(have hBm:=Zh (I.at_ 3 rfl);(refine sF 3 I ?_;have hBq:=I.at_ 3 rfl;clear I;intro w4 I hG4;simp only[List.set]at I;replace hE:=Zh (hE.put hBq (by decide) (by decide) hG4.out);clear hBq);replace hRM:=Zh (hRM.put hBm.out (by decide) hG4.out);clear hBm)|fail)
      try simp only[Exit.inBlock,Exit.then]
      refine rU I 4 3 uE.out uM.out ?_
      exact hPo.out _ _ _ _ _ hA.out hxf.out hE.out hRM.sub I.below
     ·go_wp2_with(first|(refine aN I msgInfo ?_;clear I;intro g19 w10 I hG hN9)|fail)
      refine hK _ _ I.tail fun hS_=> ?_
      clear hK K hS_
      try go_frame
      replace hS:=Zh (hS.keep hG.out)
      clear hG hN9
      refine ptOnly rfl rfl fun K hK=> ?_
      go_wp2_with(first|(go_at_call 69;refine(cAx _ I.below hS.spots.is hS.moved.is (by omega) (by omega)).mono ?_;rintro r w9 ⟨vr,rfl,hRM,p_⟩;dsimp only[msgA];replace hRM:=Zh hRM)|fail)
      refine hK _ _ (I.tail.keep p_) fun hS_=> ?_
      clear hK K hS_
      try go_frame
      replace I:=Zm I p_
      replace hS:=Zh (hS.keep p_)
      clear p_
      repeat(first|(refine ptPure rfl rfl (by intro w_ hSw;go_simp;first|done|exact rfl) ?_;try go_frame))
      refine ptOnly rfl rfl fun K hK=> ?_
      go_wp2_with(first|(have hBm:=Zh (I.at_ 0 rfl);(refine sF 0 I ?_;clear I;intro w4 I hG4;simp only[List.set]at I);replace hS:=Zh (hS.putT hBm.out (by decide) (by decide) hG4.out);replace hRM:=Zh (hRM.put hBm.out (by decide) hG4.out);clear hBm)|fail)
      refine hK _ _ (I.tail) fun hS_=> ?_
      clear hK K hS_
      try go_frame
      refine ptDone ?_
      simp only[List.drop]
      go_upto_region 28 with fail
      have HMd:=Zh I.drew
      replace hS:=Zh (hS.keep ((Below.refl _ _).drew))
      replace hRM:=Zh (hRM.keep ((Below.refl _ _).drew))
      clear I
      have I:=HMd
      clear HMd
      refine wp_region_pt (fun w'=>Mem w w' ((g19,(Km RM vr),30):: [(g11,(Kt FU vf),37),(g9,(Kz 7),30),(g8,(Kz 28),32),(g7,#[.int .i64 K,.bool false,.int .i64 n0,.int .i64 c0,.int .i64 q0,.slice vm.sA vm.sn vm.sc,.slice vm.oA vm.on vm.oc],30),(g5,(Kt t vt),37),(g4,#[.int .i64 en,.int .i64 ep,.int .i64 eu,.slice v.cA v.cn v.cc,.bool false,.int .i64 es,.int .i64 ea.kind,.bool ea.reply,.int .i64 ea.number,.int .i64 ea.code,.int .i64 ea.count,.slice v.a.sA v.a.sn v.a.sc,.slice v.a.oA v.a.on v.a.oc,.bool ek,.int .i64 el.kind,.bool el.reply,.int .i64 el.number,.int .i64 el.code,.int .i64 el.count,.slice v.l.sA v.l.sn v.l.sc,.slice v.l.oA v.l.on v.l.oc,.int .i64 er.kind,.bool er.reply,.int .i64 er.number,.int .i64 er.code,.int .i64 er.count,.slice v.r.sA v.r.sn v.r.sc,.slice v.r.oA v.r.on v.r.oc],32)])∧w'.rangeAt ga 28 (#[.int .i64 x.m.kind,.bool x.m.reply,.int .i64 x.m.number,.int .i64 x.m.code,.int .i64 x.m.count,.slice V.m.sA V.m.sn V.m.sc,.slice V.m.oA V.m.on V.m.oc]).toList) 16 (.take 0 (.take 1 (.take 2 (.take 3 (.take 4 (.take 5 (.take 6 (.take 7 (.take 8 (.take 9 (.take 10 (.only 11 (.take 12 (.take 13 (.take 14 (.only 15 .done)))))))))))))))) (by kernel_rfl) (by kernel_rfl) ⟨I.less 1,I.range 1 rfl 28 (Km x.m V.m) (by rfl)⟩ ?_
      repeat(first|(refine ptPure rfl rfl (by intro w_ hSw;go_simp;first|done|exact rfl) ?_;try go_frame))
      refine ptTake (by rfl) (yields_part rfl _ _ rfl ga 28 rfl _ _ (fun w_ hSw=>by exact hSw.2) uM.out rfl (by exact zmsg)) ?_
      try go_frame
      refine ptTake (by rfl) (yields_memw rfl _ _ rfl 0 (fun w_ hSw=>by exact hSw.1) rfl rfl _ uM.out rfl (by exact zmsg)) ?_
      try go_frame
      repeat(first|(refine ptPure rfl rfl (by intro w_ hSw;go_simp;first|done|exact rfl) ?_;try go_frame))
      refine ptOnly rfl rfl fun K hK=> ?_
      go_wp2_with(first|(have hBm:=Zh (I.at_ 1 rfl);(refine sN 1 I ?_;have hBq:=I.at_ 1 rfl;clear I;intro w4 I hG4;simp only[List.set]at I;replace hS:=Zh (hS.put hBq hG4.out);clear hBq);replace hRM:=Zh (hRM.put hBm.out (by decide) hG4.out);clear hBm)|fail)
      refine hK _ _ (⟨I.less 1,I.range 1 rfl 28 (Km x.m V.m) (by rfl)⟩) fun hS_=> ?_
      clear hK K hS_
      try go_frame
      repeat(first|(refine ptPure rfl rfl (by intro w_ hSw;go_simp;first|done|exact rfl) ?_;try go_frame))
      refine ptOnly rfl rfl fun K hK=> ?_
      go_wp2_with(first|(have hBm:=Zh (I.at_ 1 rfl);(refine sN 1 I ?_;have hBq:=I.at_ 1 rfl;clear I;intro w4 I hG4;simp only[List.set]at I;replace hS:=Zh (hS.put hBq hG4.out);clear hBq);replace hRM:=Zh (hRM.put hBm.out (by decide) hG4.out);clear hBm)|fail)
      refine hK _ _ (⟨I.less 1,I.range 1 rfl 28 (Km x.m V.m) (by rfl)⟩) fun hS_=> ?_
      clear hK K hS_
      try go_frame
      refine ptDone ?_
      simp only[List.drop]
      go_upto_region 29 with(first|(have hBm:=Zh (I.at_ 1 rfl);(refine sN 1 I ?_;have hBq:=I.at_ 1 rfl;clear I;intro w4 I hG4;simp only[List.set]at I;replace hS:=Zh (hS.put hBq hG4.out);clear hBq);replace hRM:=Zh (hRM.put hBm.out (by decide) hG4.out);clear hBm)|fail)
      have hEx:Hid (EdOwn w4 { V.e with l:=V.m,r:=vr} { x.e with known:=true,last:=x.m,reply:=RM}):=⟨hS.e.cells,hS.e.lc,hS.e.asked,hS.m,hRM.out⟩
      have hsx:Hid (Small { V.e with l:=V.m,r:=vr}):=⟨hsz2.1,hsz2.2,by have h1:=hS.m.ls;have h2:=hS.m.lo;have h3:=hxm8.out;exact⟨by dsimp only;omega,by dsimp only;omega⟩,by have h1:=hRM.ls;have h2:=hRM.lo;have h3:=hR8.out;exact⟨by dsimp only;omega,by dsimp only;omega⟩⟩
      clear hS
      have HMd:=Zh I.drew
      replace hEx:=Zh (hEx.keep ((Below.refl _ _).drew))
      replace hRM:=Zh (hRM.keep ((Below.refl _ _).drew))
      clear I
      have I:=HMd
      clear HMd
      have HMs:=Zh (I.less 4)
      simp only[List.eraseIdx]at HMs
      refine wp_region_pt (fun w'=>Mem w w' _) 7 (.take 0 (.take 1 (.take 2 (.take 3 (.take 5 (.only 4 (.only 6 .done))))))) (by kernel_rfl) (by kernel_rfl) HMs.out ?_
      repeat(first|(refine ptPure rfl rfl (by intro w_ hSw;go_simp;first|done|exact rfl) ?_;try go_frame))
      refine ptTake (by rfl) (yields_mem (by rfl) _ _ (by rfl) 1 (fun w_ hSw=>hSw) (by rfl) _ (by rfl) (endA { x.e with known:=true,last:=x.m,reply:=RM} { V.e with l:=V.m,r:=vr}) (ansA_end ⟨{ x.e with known:=true,last:=x.m,reply:=RM},x.m,x.us,x.count,x.spots,x.moved⟩ ⟨{ V.e with l:=V.m,r:=vr},V.m,V.uA,V.un,V.uc,V.sA,V.sn,V.sc,V.oA,V.on,V.oc⟩) _ uE.out (by rfl) (by exact zend)) ?_
      try go_frame
      refine ptTake (by rfl) (yw 0 uM.out) ?_
      try go_frame
      refine ptOnly rfl rfl fun K hK=> ?_
      go_wp2_with(first|(go_at_call 60;refine(cQ { x.e with known:=true,last:=x.m,reply:=RM} { V.e with l:=V.m,r:=vr} _ hEx.is hsx.out).mono ?_;rintro r w12 ⟨v3,rfl,hE,p_⟩;dsimp only[endA];replace hE:=Zh hE)|fail)
      refine hK _ _ (HMs.keep p_) fun hS_=> ?_
      clear hK K hS_
      try go_frame
      replace I:=Zm I p_
      replace hRM:=Zh (hRM.keep p_)
      clear p_ HMs hEx
      refine ptOnly rfl rfl fun K hK=> ?_
      go_wp2_with(first|(have hBm:=Zh (I.at_ 4 rfl);(refine sF 4 I ?_;have hBq:=I.at_ 4 rfl;clear I;intro w4 I hG4;simp only[List.set]at I;replace hE:=Zh (hE.put hBq (by decide) (by decide) hG4.out);clear hBq);replace hRM:=Zh (hRM.put hBm.out (by decide) hG4.out);clear hBm)|fail)
      refine hK _ _ (I.less 4) fun hS_=> ?_
      clear hK K hS_
      try go_frame
      refine ptDone ?_
      simp only[List.drop]
      go_wp2_with(first|(have hBm:=Zh (I.at_ 3 rfl);(refine sF 3 I ?_;have hBq:=I.at_ 3 rfl;clear I;intro w4 I hG4;simp only[List.set]at I;replace hE:=Zh (hE.put hBq (by decide) (by decide) hG4.out);clear hBq);replace hRM:=Zh (hRM.put hBm.out (by decide) hG4.out);clear hBm)|fail)
      try simp only[Exit.inBlock,Exit.then]
      refine rU I 4 3 uE.out uM.out ?_
      exact hPo.out _ _ _ _ _ hA.out hxf.out hE.out hRM.sub I.below
end Tx
end Go.Proofs.YtfamifgchgolpaaGreat
