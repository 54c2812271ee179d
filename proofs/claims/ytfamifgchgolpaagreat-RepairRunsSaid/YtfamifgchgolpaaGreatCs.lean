/- Chapter 26: Receive: the reference's. -/
import Derived.Test.YtfamifgchgolpaaGreatVi
import Derived.Test.YtfamifgchgolpaaGreatVf
import Derived.Test.YtfamifgchgolpaaGreatCh
import Derived.Test.YtfamifgchgolpaaGreatCb
set_option linter.unusedVariables false
set_option linter.unusedSimpArgs false
set_option maxRecDepth 100000
set_option maxHeartbeats 16000000
namespace Go.Proofs.YtfamifgchgolpaaGreat
open Go Go.RowKit Go.Sort Go.Shelf Go.Maps
namespace Tx
open Sw Mm Pl
theorem lis_has {e:Ed} {l:List Spt}(h:lisN e l=true) {s:Spt}(hs:s∈l):hasN e s false=true:=by
 unfold lisN at h
 exact List.all_eq_true.1 h s hs
theorem msg_code {m:Msg}(h:MsgOk m)(hr:m.reply=false):m.code=0:=by
 have hf:=h.foll
 unfold follN at hf
 split at hf
 ·cases hf
 rename_i h1
 exact Decidable.byContradiction fun h2=>h1 ⟨hr,h2⟩
theorem MsgSub.ofN(w:World)(m:Msg)(c:Int):MsgSub w msgV0 (refN m c):=by
 unfold refN
 split
 ·exact⟨SubS.nil w,SubS.nil w,Nat.le_refl _,Nat.le_refl _⟩
 ·exact MsgSub.zero w
theorem Stb.spo(A:Option Addr)(n:Nat)(xs:List Spt):Stb (fun W=>SubS W A n xs):=⟨fun x hb=>x.keep hb,fun x hB h1 _ hg=>x.put hB h1 hg⟩
def SptY(w0:World)(A:Option Addr)(n:Nat)(l:List Spt)(W:World):Prop:=SubS W A n l∨SptS w0 A n l
theorem SptY.is {w0 W:World} {A:Option Addr} {n:Nat} {l:List Spt}(h:SptY w0 A n l W)(hb:Below w0.heap.size w0 W):SptS W A n l:=h.elim (·.is) (·.keep hb)
theorem Stb.sptY(w0:World)(A:Option Addr)(n:Nat)(l:List Spt):Stb (SptY w0 A n l):=⟨fun h hb=>h.imp (·.keep hb) id,fun h hB h1 _ hg=>h.imp (·.put hB h1 hg) id⟩
structure SwiOk(e:Ed)(t:Tab)(f:List Int)(m:Msg)(n:Int)(S sp ol:List Spt):Prop where
 want:wantN e t f m=some (n,S,ol)
 spE:sp=if m.kind=5 then []else S
 has:∀s∈ol,hasN e s false=true
 l1:sp.length≤8
 l2:ol.length≤8
 five:m.kind=5→n=e.cells.length∧S=(e.cells.take 8).map place
theorem rreceive_any(e:Ed)(t:Tab)(f:List Int)(m:Msg)(v:EdV)(vt:TabV)(vm:MsgV)(A:Option Addr)(nf cf:Nat)(w:World)(h:EdIs w v e)(ht:TabIs w vt t)(hf:IntS w A nf f)(hm:MsgIs w vm m):Calls Tryz.prog 92 #[.agg (endA e v),.agg (tabA t vt),.slice A nf cf,.agg (msgA m vm)] w (TriOwn (recv e t f m).1 (recv e t f m).2 (recvC e t m) w):=by
 have I:=Zh (Mem.start w)
 obtain⟨F0,q_,J⟩:∃F:World→Prop,Stb F∧Hid (F w):=⟨_,Stb.true,trivial⟩
 have uE:=Tryz.underlying32
 have uT:=Tryz.underlying37
 have uM:=Tryz.underlying30
 have cF:=fun W (hb:Below w.heap.size w W)=>rfull_any t e vt v W (ht.keep hb) (h.keep hb)
 unfold FullPost at cF
 have cK:=fun W (hb:Below w.heap.size w W)=>rchkM_any m vm W (hm.keep hb)
 change∀W,_→Calls _ _ #[.agg (msgA m vm)] _ _ at cK
 have cL:=fun W (hb:Below w.heap.size w W) (hs:Small v)=>rcopied_any e v W (h.keep hb) hs
 unfold ClonePostE at cL
 have cS:=fun W (hb:Below w.heap.size w W)=>sameM_any e.last m v.l vm W (h.last.keep hb) (hm.keep hb)
 change∀W,_→Calls _ _ #[.agg (msgA e.last v.l),.agg (msgA m vm)] _ _ at cS
 have cMs:=fun W (hb:Below w.heap.size w W) (hs:Small v)=>rmessage_any e.reply v.r W (h.reply.keep hb) hs.r
 unfold MsgPost at cMs
 have cR:=fun c vx W (hb:Below w.heap.size w W)=>rrefuse_any e vx m vm c W (hm.keep hb)
 unfold RefusePost at cR
 have cN:=fun W=>rnext_any e.number W
 have cA:=fun n A1 B1 n1 c1 m1 d1 l1 l2 W (hb:Below w.heap.size w W) h1 h2 hn hm1=>raccO_any m vm n A1 B1 n1 c1 m1 d1 l1 l2 W (hm.keep hb) h1 h2 hn hm1
 unfold AccOwn at cA
 have cKn:=fun E vE R vR W (hb:Below w.heap.size w W) (hR:MsgIs W vR R) s1 s2=>rknown_any E vE m R vm vR W (hm.keep hb) hR s1 s2
 unfold KnownPost at cKn
 have cU:=fun u vu q W (hb:Below w.heap.size w W) (hu:TabIs W vu u) hn hq=>rusable_any u vu A vm.sA nf cf vm.sn vm.sc f m.spots q W hu (hf.keep hb) (hm.spots.keep hb) hn hq
 unfold UsePost at cU
 have cLi:=fun W (hb:Below w.heap.size w W)=>rlistens_any e v vm.oA vm.on vm.oc m.old W (h.keep hb) (hm.old.keep hb)
 have cMv:=fun A1 n1 c1 ol B1 m1 d1 sp W (hb:Below w.heap.size w W) ho hs hcn hm1=>rmoved_any e v A1 B1 n1 c1 m1 d1 ol sp false W (h.keep hb) ho hs hcn hm1
 unfold MovPost at cMv
 have hA:recvC e t m=if fullC t e≠0 then fullC t e else if chkM m≠0∨m.reply=true then 11 else 0:=rfl
 have hPb:∀c w',recvC e t m=c→c≠0→Below w.heap.size w w'→TriOwn (recv e t f m).1 (recv e t f m).2 (recvC e t m) w (.returned (.tuple #[.agg (Kz 28),.agg (Kz 7),.int .i64 c])) w':=fun c w' e1 e2 hb=>triOwn_bad (by rw[recv_not (by rw[e1];exact e2)]) (by rw[recv_not (by rw[e1];exact e2)]) e1 hb
 have hPo:∀w' E M ve vr,recvC e t m=0→recv e t f m=(E,M)→EdOwn w' ve E→MsgSub w' vr M→Below w.heap.size w w'→TriOwn (recv e t f m).1 (recv e t f m).2 (recvC e t m) w (.returned (.tuple #[.agg (endA E ve),.agg (msgA M vr),.int .i64 0])) w':=fun w' E M ve vr e1 e2 hE hM hb=>by
  rw[e1,e2]
  exact⟨ve,vr,rfl,hE,hM,hb⟩
 have hrd:recvC e t m=0→FullOk t e∧chkM m=0∧m.reply=false:=fun h=>recvC_iff.1 h
 have hol:=h.cells.len
 have hml:=hm.old.len
 have hms:=hm.spots.len
 have hoc:=hm.oc
 have hsm:=fun(J:fullC t e=0)=>small_of h ((chkE_iff e).2 ((fullC_iff t e).1 J).ed)
 have hsz:∀(vR:MsgV) (R:Msg) W,MsgOwn W vR R→R.spots.length≤100000→R.old.length≤100000→vR.sn≤100000∧vR.on≤100000:=fun vR R W h1 h2 h3=>⟨by rw[←h1.ls];exact h2,by rw[←h1.lo];exact h3⟩
 have hmn:=fun(W:World) (hb:Below w.heap.size w W)=>hm.keep hb
 have hhn:=fun(W:World) (hb:Below w.heap.size w W)=>h.keep hb
 generalize hP:TriOwn (recv e t f m).1 (recv e t f m).2 (recvC e t m) w=P at*
 clear hP
 have hsp:fullC t e=0→fullN t e=fullN t e:=fun _=>rfl
 clear hsp
 refine zh12 ?_ cF cK cL cS cMs cR cN cA cKn cU cLi cMv;clear cF cK cL cS cMs cR cN cA cKn cU cLi cMv;intro cF cK cL cS cMs cR cN cA cKn cU cLi cMv
 refine zh12 ?_ hA hPb hPo hrd hol hml hms hoc hsm hsz hmn hhn;clear hA hPb hPo hrd hol hml hms hoc hsm hsz hmn hhn;intro hA hPb hPo hrd hol hml hms hoc hsm hsz hmn hhn
 refine zh3 ?_ uE uT uM;clear uE uT uM;intro uE uT uM
 clear h ht hf hm
 have mkz:Unit:=()
 go_enter Tryz.func92,Tryz.ntmps92
 have mk1:Unit:=()
 have mk2:Unit:=()
 go_upto_region 1 with(first|go_skip|(refine q_.b I J 32 ?_;clear I J;intro ge w1 I J)|(refine q_.b I J 37 ?_;clear I J;intro gt w1 I J)|(refine q_.b I J 30 ?_;clear I J;intro gm w1 I J)|(clear mk1;refine q_.a I J edInfo ?_;clear I J;intro g8 w1 I J)|(clear mk2;refine q_.a I J msgInfo ?_;clear I J;intro g9 w1 I J)|fail)
 have mk3:Unit:=()
 have mk4:Unit:=()
 go_upto_region 2 with(first|go_skip|(refine lG 3 I uT.out ?_)|(refine lG 4 I uE.out ?_)|(go_at_call 151;clear mk3;refine(cF _ I.below).mono ?_;rintro r wf ⟨vf,rfl,hTf,p_⟩;replace I:=Zm I p_;replace J:=q_.z J p_;replace hTf:=Zh hTf;have HB:=Zh (Below.refl wf.heap.size wf);clear p_;dsimp only)|(clear mk4;refine aN I tabInfo ?_;clear I;intro g11 w1 I hG hN9;replace J:=q_.y J hG;have hf_g11:=Nat.le_trans HB.size hN9.out;replace HB:=Zh (bthen HB.out hG.out);clear hG hN9)|(refine sF 0 I ?_;have hBq:=I.at_ 0 rfl;clear I;intro w4 I hG4;simp only[List.set]at I;replace J:=q_.p J hBq hG4;replace HB:=Zh (HB.grown hG4.out HB.size (fun k e=>by cases e;exact hf_g11));clear hBq hG4)|fail)
 generalize hFc:fullC t e=FC at*
 replace hFc:=Zh hFc
 generalize hFu:fullN t e=FU at*
 replace hFu:=Zh hFu
 by_cases h0:FC=0
 case neg=>
  have hA1:=Zh (hA.trans (if_pos h0))
  have d1:(FC !=0)=true:=by rw[bne_iff_ne];exact h0
  have hP2:=Zh (fun w'=>hPb.out FC w' hA1.out h0)
  go_wp2_with(first|go_skip|(refine q_.s 2 I J ?_;clear I J;intro w4 I J;simp only[List.set]at I)|(refine q_.s 1 I J ?_;clear I J;intro w4 I J;simp only[List.set]at I)|fail)
  try simp only[Exit.inBlock,Exit.then]
  refine rU I 2 1 uE.out uM.out ?_
  exact hP2.out _ I.below
 subst h0
 replace hA:=Zh (hA.trans (if_neg (fun h=>h rfl)))
 have hsm2:=Zh (hsm rfl)
 clear hsm
 go_upto_region 4 with fail
 have q1:=Zc I 3 1 (.bool m.reply)
 generalize hKc:chkM m=KC at*
 replace hKc:=Zh hKc
 by_cases hk0:KC=0
 case neg=>
  have hA1:=Zh (hA.trans (if_pos (.inl hk0)))
  have d1:(KC !=0)=true:=by rw[bne_iff_ne];exact hk0
  clear q1
  have mk5:Unit:=()
  go_wp2_with(first|go_skip|(refine lG 3 I uM.out ?_)|(go_at_call 156;clear mk5;refine q_.k I J (cK _ I.below) ?_;clear I J;intro w3 I J;dsimp only)|(refine q_.s 2 I J ?_;clear I J;intro w4 I J;simp only[List.set]at I)|(refine q_.s 1 I J ?_;clear I J;intro w4 I J;simp only[List.set]at I)|fail)
  try simp only[Exit.inBlock,Exit.then]
  refine rU I 2 1 uE.out uM.out ?_
  exact hPb.out 11 _ hA1.out (by decide) I.below
 have d1:(KC !=0)=false:=by rw[bne_eq_false_iff_eq];exact hk0
 cases hrp:m.reply
 case true=>
  rw[hrp]at q1
  have hA1:=Zh (hA.trans (if_pos (.inr hrp)))
  have mk5:Unit:=()
  go_wp2_with(first|go_skip|(refine lG 3 I uM.out ?_)|(go_at_call 156;clear mk5;refine(cK _ I.below).mono ?_;rintro r w3 ⟨rfl,p_⟩;replace q1:=Zk I p_ 3 1 q1;replace I:=Zm I p_;replace J:=q_.z J p_;clear p_;dsimp only)|(refine q_.s 2 I J ?_;clear I J;intro w4 I J;simp only[List.set]at I)|(refine q_.s 1 I J ?_;clear I J;intro w4 I J;simp only[List.set]at I)|fail)
  try simp only[Exit.inBlock,Exit.then]
  refine rU I 2 1 uE.out uM.out ?_
  exact hPb.out 11 _ hA1.out (by decide) I.below
 rw[hrp]at q1
 have hA0:=Zh (hA.trans (if_neg (by rw[hrp];simp[hk0])))
 obtain⟨hFo,hKo,_⟩:=hrd.out hA0.out
 have hKo2:=hKc.trans hKo
 have hMk:=Zh ((chkM_iff m).1 hKo2)
 have hrv:=Zh (recv_def (f:=f) hFo hKo2 hrp)
 replace hFo:=Zh hFo
 clear hKo hKo2 hrd hA
 have mk5:Unit:=()
 go_upto_region 6 with(first|go_skip|(refine lG 3 I uM.out ?_)|(go_at_call 156;clear mk5;refine(cK _ I.below).mono ?_;rintro r w3 ⟨rfl,p_⟩;replace q1:=Zk I p_ 3 1 q1;replace I:=Zm I p_;replace J:=q_.z J p_;replace HB:=Zh (bthen HB.out p_);clear p_;dsimp only)|fail)
 clear q1 d1 cK cF
 have mk6:Unit:=()
 have mk7:Unit:=()
 go_upto_region 7 with(first|go_skip|(refine lG 5 I uE.out ?_)|(go_at_call 154;clear mk6;refine(cL _ I.below hsm2.out).mono ?_;rintro r w3 ⟨v1,rfl,hE,p_⟩;replace I:=Zm I p_;replace J:=q_.z J p_;replace HB:=Zh (bthen HB.out p_);clear p_;refine sA q_ J (Stb.ed v1 _) hE ?_;clear q_ J hE;intro F1 q_ J hU gE;clear hU;dsimp only)|(clear mk7;refine aN I edInfo ?_;clear I;intro g13 w1 I hG hN9;replace J:=q_.y J hG;have hf_g13:=Nat.le_trans HB.size hN9.out;replace HB:=Zh (bthen HB.out hG.out);clear hG hN9)|(refine sF 0 I ?_;have hBq:=I.at_ 0 rfl;clear I;intro w4 I hG4;simp only[List.set]at I;replace J:=q_.p J hBq hG4;replace HB:=Zh (HB.grown hG4.out HB.size (fun k e=>by cases e;exact hf_g13));clear hBq hG4)|fail)
 clear cL
 have q0:=Zc I 4 0 (.int .i64 m.kind)
 have hcn9:Hid (v.cn≤90000):=by have:=hFo.ed.len.1;rw[hol.out]at this;show _≤_;omega
 have hm8:Hid (vm.sn≤100000∧vm.on≤100000):=⟨by have:=hMk.ls;rw[hms.out]at this;omega,by have:=hMk.lo;rw[hml.out]at this;omega⟩
 have hk6or:m.kind=6∨¬m.kind=6:=Decidable.em _
 rcases hk6or with hk6|hk6
 case inl=>as_aux_lemma=>
  have d6:(m.kind==6)=true:=by rw[beq_iff_eq];exact hk6
  rw[if_pos hk6]at hrv
  have cA0:=Zh (fun W (hb:Below w.heap.size w W)=>cA.out 0 none none 0 0 0 0 [] [] W hb Sls.nil Sls.nil (by omega) (by omega))
  have hln:=accN_len (q:=m) (n:=0) (l:= []) (o:= []) (by simp) (by simp)
  generalize hR0:accN m 0 [] []=R0 at*
  replace hR0:=Zh hR0
  have mk8:Unit:=()
  have mk9:Unit:=()
  go_upto_region 9 with(first|go_skip|(refine lG 4 I uM.out ?_)|(go_at_call 157;clear mk8;refine(cA0 _ I.below).mono ?_;rintro r w3 ⟨va,rfl,hR5,p_⟩;clear q0;replace I:=Zm I p_;replace J:=q_.z J p_;clear p_;refine sA q_ J (Stb.msg va _) hR5 ?_;clear q_ J hR5;intro F2 q_ J hU gR;replace gE:=Zu gE hU;clear hU;dsimp only)|(clear mk9;refine q_.a I J msgInfo ?_;clear I J;intro g14 w1 I J)|(refine q_.s 0 I J ?_;clear I J;intro w4 I J;simp only[List.set]at I)|fail)
  have p0:=Zc I 7 0 (.int .i64 e.node)
  have p1:=Zc I 7 1 (.int .i64 e.peer)
  have mk10:Unit:=()
  go_wp2_with(first|go_skip|(refine lG 5 I uM.out ?_)|(refine lG 0 I uM.out ?_)|(go_at_call 158;clear mk10;refine(cKn (startE e.node e.peer) edV0 R0 va _ I.below (gR _ J).is hm8.out (hsz va R0 _ (gR _ J) (by omega) (by omega))).mono ?_;rintro r w3 ⟨vl,vr,vb,rfl,hL5,hR6,hB5,p_⟩;clear p0 p1;replace I:=Zm I p_;replace J:=q_.z J p_;clear p_;refine sA q_ J (Stb.msg vl _) hL5 ?_;clear q_ J hL5;intro F3 q_ J hU gL;replace gE:=Zu gE hU;replace gR:=Zu gR hU;clear hU;refine sA q_ J (Stb.msg vr _) hR6 ?_;clear q_ J hR6;intro F4 q_ J hU gR2;replace gE:=Zu gE hU;replace gR:=Zu gR hU;replace gL:=Zu gL hU;clear hU;refine sA q_ J (Stb.msg vb _) hB5 ?_;clear q_ J hB5;intro F5 q_ J hU gB;replace gE:=Zu gE hU;replace gR:=Zu gR hU;replace gL:=Zu gL hU;replace gR2:=Zu gR2 hU;clear hU;dsimp only)|(refine q_.s 4 I J ?_;clear I J;intro w4 I J;simp only[List.set]at I)|(refine q_.s 3 I J ?_;clear I J;intro w4 I J;simp only[List.set]at I)|fail)
  try simp only[Exit.inBlock,Exit.then]
  refine rU I 4 3 uE.out uM.out ?_
  exact hPo.out _ _ _ _ _ hA0.out (hrv.trans (by rw[←hR0.out];rfl)) ⟨⟨0,World.ownsRow_nil _ _ _ _⟩,rfl,MsgOwn.zero _,gL.out _ J,gR2.out _ J⟩ (gB _ J).sub I.below
 have d6:(m.kind==6)=false:=by rw[beq_eq_false_iff_ne];exact hk6
 replace hrv:=Zh (hrv.trans (if_neg hk6))
 go_upto_region 10 with fail
 clear q0 d6
 have p13:=Zc I 6 13 (.bool e.known)
 obtain⟨KB,hkn⟩:∃b,e.known=b:=⟨_,rfl⟩
 rw[hkn]at p13
 replace hkn:=Zh hkn
 generalize hEQ:decide (e.last=m)=EQ at*
 replace hEQ:=Zh hEQ
 go_cut[70] (fun s wx=>∃Q,s= .bool Q∧Hid (Q=true↔KB=true∧EQ=true)∧Hid (Mem w wx [(g13,endA e v1,32),(g11,tabA FU vf,37),(g9,(Kz 7),30),(g8,(Kz 28),32),(gm,msgA m vm,30),(gt,tabA t vt,37),(ge,endA e v,32)])∧Hid (F1 wx)∧Hid (Below wf.heap.size wf wx))
 case first=>as_aux_lemma=>
  cases KB
  all_goals
   have mk8:Unit:=()
   go_wp2_with(first|go_skip|(refine lP 6 I 14 (msgA e.last v.l) uM.out ?_)|(refine lG 4 I uM.out ?_)|(go_at_call 14;clear mk8;refine(cS _ I.below).mono ?_;rintro r w3 ⟨rfl,p_⟩;clear p13;replace I:=Zm I p_;replace J:=q_.z J p_;replace HB:=Zh (bthen HB.out p_);clear p_;dsimp only)|fail)
   go_meet
   exact⟨_,rfl,Zh (by simp),I,J,HB⟩
 case rest=>as_aux_lemma=>
  clear I J HB p13 cS
  obtain⟨Q,rfl,hQ,I,J,HB⟩:=hcut
  cases Q
  case true=>
   obtain⟨hq1,hq2⟩:=hQ.1 rfl
   have hem:m=e.last:=(of_decide_eq_true (hEQ.trans hq2)).symm
   have hrv2:=Zh (hrv.trans (if_pos ⟨hkn.trans hq1,hem⟩))
   clear hq1 hq2 hem hrv
   go_upto_region 11 with fail
   replace J:=Zh (q_.keep J ((Below.refl _ _).drew))
   replace I:=Zh (I.keep ((Below.refl _ _).drew))
   have HMs:=Zh I.out
   refine wp_region_plan (fun w'=>Mem _ w' _) 4 [(0,true),(1,true),(2,true),(3,false)] (by kernel_rfl) (by kernel_rfl) HMs.out ?_
   generalize World.drew _=wd at*
   refine plTakeL (by rfl) (yw 0 uE.out) ?_
   try go_frame
   repeat(first|(refine plPure rfl rfl (by intro w_ hSw;go_simp;first|done|exact rfl) ?_;try go_frame))
   refine plTakeL (by rfl) (ym 6 (msgA e.reply v.r) uM.out) ?_
   try go_frame
   refine plStepL rfl rfl fun K hK=> ?_
   go_wp2_with(first|(go_at_call 155;refine(cMs _ I.below hsm2.out).mono ?_;rintro r w3 ⟨vb,rfl,hA5,p_⟩)|fail)
   refine hK _ _ (HMs.keep p_) fun hS_=> ?_
   clear hK K hS_
   try go_frame
   replace I:=Zm I p_
   replace J:=q_.z J p_
   clear p_ HMs
   obtain⟨F5,hFs2,hF2,hU,hNw⟩:=stb_add q_ J (Stb.msg vb _) hA5
   clear q_ J
   replace gE:=Zu gE hU
   have gB:=Zh hNw
   clear hNw hU
   have q_:=hFs2
   have J:=hF2
   clear hFs2 hF2 hA5
   refine plDone ?_
   simp only[List.drop]
   go_wp2_with(first|go_skip|(refine q_.s 3 I J ?_;clear I J;intro w4 I J;simp only[List.set]at I)|(refine q_.s 2 I J ?_;clear I J;intro w4 I J;simp only[List.set]at I)|fail)
   try simp only[Exit.inBlock,Exit.then]
   refine rU I 3 2 uE.out uM.out ?_
   exact hPo.out _ _ _ _ _ hA0.out hrv2.out (gE _ J) (gB _ J).sub I.below
  replace hrv:=Zh (hrv.trans (if_neg (fun hh=>by have:=hQ.2 ⟨hkn.symm.trans hh.1,hEQ.symm.trans (decide_eq_true hh.2.symm)⟩;cases this)))
  clear hQ hEQ hkn cMs
  go_upto_region 12 with fail
  have p4:=Zc I 6 4 (.bool e.opn)
  cases hop:e.opn
  case true=>
   rw[hop]at p4
   have mk8:Unit:=()
   go_wp2_with(first|go_skip|(refine lG 0 I uE.out ?_)|(refine lG 4 I uM.out ?_)|(go_at_call 159;clear mk8;refine q_.k I J (cR 3 v1 _ I.below) ?_;clear I J;intro w3 I J;dsimp only)|(refine q_.s 3 I J ?_;clear I J;intro w4 I J;simp only[List.set]at I)|(refine q_.s 2 I J ?_;clear I J;intro w4 I J;simp only[List.set]at I)|fail)
   try simp only[Exit.inBlock,Exit.then]
   refine rU I 3 2 uE.out uM.out ?_
   exact hPo.out _ _ _ _ _ hA0.out (hrv.trans (if_pos hop)) (gE _ J) (MsgSub.ofN _ _ _) I.below
  rw[hop]at p4
  replace hrv:=Zh (hrv.trans (if_neg (by rw[hop];decide)))
  go_upto_region 14 with fail
  clear p4
  replace hop:=Zh hop
  have p2:=Zc I 6 2 (.int .i64 e.number)
  have q2:=Zc I 4 2 (.int .i64 m.number)
  by_cases hnu:m.number=e.number
  case neg=>
   have dn:(m.number !=e.number)=true:=by rw[bne_iff_ne];exact hnu
   have mk8:Unit:=()
   go_wp2_with(first|go_skip|(refine lG 0 I uE.out ?_)|(refine lG 4 I uM.out ?_)|(go_at_call 159;clear mk8;refine q_.k I J (cR 1 v1 _ I.below) ?_;clear I J;intro w3 I J;dsimp only)|(refine q_.s 3 I J ?_;clear I J;intro w4 I J;simp only[List.set]at I)|(refine q_.s 2 I J ?_;clear I J;intro w4 I J;simp only[List.set]at I)|fail)
   try simp only[Exit.inBlock,Exit.then]
   refine rU I 3 2 uE.out uM.out ?_
   exact hPo.out _ _ _ _ _ hA0.out (hrv.trans (if_pos hnu)) (gE _ J) (MsgSub.ofN _ _ _) I.below
  have dn:(m.number !=e.number)=false:=by rw[bne_eq_false_iff_eq];exact hnu
  replace hrv:=Zh (hrv.trans (if_neg (fun hh=>hh hnu)))
  replace hnu:=Zh hnu
  go_upto_region 16 with fail
  clear p2 q2 dn
  have q0:=Zc I 4 0 (.int .i64 m.kind)
  have p3:=Zc I 6 3 (.slice v.cA v.cn v.cc)
  go_upto_block 0 with fail
  have hkk:m.kind=1∨m.kind=2∨m.kind=3∨m.kind=4∨m.kind=5:=by have:=hMk.kind1;have:=hMk.kind;omega
  replace hkk:=Zh hkk
  replace hk6:=Zh hk6
  try go_frame
  go_cut[16,17,18,99,135] (fun s16 s17 s18 _ _ wx=>∃(n:Int) (S sp ol:List Spt) (A1 A2:Option Addr) (c1 c2:Nat),s18= .int .i64 n∧s16= .slice A1 sp.length c1∧s17= .slice A2 ol.length c2∧Hid (SwiOk e t f m n S sp ol)∧Hid (m.kind=5→A1=none∧c1=0)∧Hid (SptY w A1 sp.length sp wx)∧Hid (SptY w A2 ol.length ol wx)∧Hid (EdOwn wx v1 e)∧Hid (Mem w wx [(g13,endA e v1,32),(g11,tabA FU vf,37),(g9,(Kz 7),30),(g8,(Kz 28),32),(gm,msgA m vm,30),(gt,tabA t vt,37),(ge,endA e v,32)]))
  case first=>as_aux_lemma=>
   rcases hkk.out with hk1|hk1|hk1|hk1|hk1
   ·as_aux_lemma=>
    have b1:(m.kind==1)=true:=by rw[hk1];rfl
    have b3:(m.kind==3)=false:=by rw[hk1];rfl
    have b2:(m.kind==2)=false:=by rw[hk1];rfl
    replace hk1:=Zh hk1
    clear hkk
    obtain⟨q,hq⟩:∃q:Nat,m.count=(q:Int):=⟨m.count.toNat,by have:=hMk.count0;omega⟩
    have hq5:q≤512:=by have:=hMk.count;omega
    have q4:=Zc I 4 4 (.int .i64 m.count)
    rw[hq]at q4
    replace hq:=Zh hq
    have q5:=Zc I 4 5 (.slice vm.sA vm.sn vm.sc)
    have hsn8:vm.sn≤8:=by have:=hMk.ls;rw[hms.out]at this;exact this
    have hon8:vm.on≤8:=by have:=hMk.lo;rw[hml.out]at this;exact this
    have hU8:((m.spots.filter (fitsN FU f)).take q).length≤8:=by
     have h1:=List.length_take_le q (m.spots.filter (fitsN FU f))
     have h2:=List.length_take_le' q (m.spots.filter (fitsN FU f))
     have h3:=List.length_filter_le (fitsN FU f) m.spots
     have:=hMk.ls
     omega
    go_upto_region 21 with fail
    try clear q0 p3
    have mk8:Unit:=()
    go_upto_region 22 with(first|go_skip|(refine lG 1 I uT.out ?_)|(go_at_call 160;clear mk8;refine(cU FU vf q _ I.below (hTf.keep HB.out) (by omega) (by omega)).mono ?_;rintro r w3 ⟨Au,nu,cu,rfl,hUl,hUo,p_⟩;clear q4 q5;have hU5:=SubS.of_own hUo;have hUc:=own_cap hUo;replace hUl:=Zh hUl;clear hUo;replace I:=Zm I p_;replace J:=q_.z J p_;replace HB:=Zh (bthen HB.out p_);clear p_;refine sA q_ J (Stb.spo Au nu _) hU5 ?_;clear q_ J hU5;intro F2 q_ J hU gU;replace gE:=Zu gE hU;clear hU;dsimp only)|fail)
    clear HB hTf
    generalize hUe:(m.spots.filter (fitsN FU f)).take q=U at*
    have hUe2:(useN (fullN t e) f m).take m.count.toNat=U:=by rw[hFu.out,hq.out];exact hUe
    replace hUe2:=Zh hUe2
    clear hUe
    have hnu8:nu≤8:=by rw[←hUl.out];exact hU8
    have q6:=Zc I 4 6 (.slice vm.oA vm.on vm.oc)
    by_cases hn0:nu=0
    case pos=>
     have dz:((nu:Int)==0)=true:=by rw[hn0];rfl
     have hw0:wantN e t f m=none:=by
      unfold wantN
      rw[hUe2.out]
      simp[hk1.out,hUl.out,hn0]
     replace hn0:=Zh hn0
     clear q6
     have mk9:Unit:=()
     go_wp2_with(first|go_skip|(refine lG 0 I uE.out ?_)|(refine lG 4 I uM.out ?_)|(go_at_call 159;clear mk9;refine q_.k I J (cR 2 v1 _ I.below) ?_;clear I J;intro w3 I J;dsimp only)|(refine q_.s 3 I J ?_;clear I J;intro w4 I J;simp only[List.set]at I)|(refine q_.s 2 I J ?_;clear I J;intro w4 I J;simp only[List.set]at I)|fail)
     try simp only[Exit.inBlock,Exit.then]
     refine rU I 3 2 uE.out uM.out ?_
     exact hPo.out _ _ _ _ _ hA0.out (hrv.trans (by rw[hw0])) (gE _ J) (MsgSub.ofN _ _ _) I.below
    have dz:((nu:Int)==0)=false:=by rw[beq_eq_false_iff_ne];omega
    have hLe:=Zh (lisR_eq (e:=e) (l:=m.old) hFo.ed.cells.asc hMk.oasc)
    generalize hLr:lisR e m.old=LR at*
    replace hLr:=Zh hLr
    have hold0:m.old= []:=by
     have hf:=hMk.foll
     unfold follN at hf
     rw[if_neg (by rw[hrp];simp[msg_code hMk.out hrp]),if_neg (by rw[msg_code hMk.out hrp];simp),if_pos hk1.out]at hf
     simp only[Bool.and_eq_true,decide_eq_true_eq]at hf
     exact List.eq_nil_of_length_eq_zero hf.1
    have hLt:LR=true:=by rw[hLe.out];unfold lisN;rw[hold0];rfl
    subst hLt
    replace hold0:=Zh hold0
    have mk9:Unit:=()
    go_upto_region 24 with(first|go_skip|(refine lG 6 I uE.out ?_)|(go_at_call 161;clear mk9;refine(cLi _ I.below).mono ?_;rintro r w3 ⟨rfl,p_⟩;replace q6:=Zk I p_ 4 6 q6;replace I:=Zm I p_;replace J:=q_.z J p_;clear p_;dsimp only)|fail)
    have q0:=Zc I 4 0 (.int .i64 m.kind)
    go_wp2_with fail
    go_meet
    exact⟨(nu:Int),U,U,[],Au,none,cu,0,rfl,by rw[hUl.out],rfl,Zh ⟨by
     unfold wantN;rw[hUe2.out];simp[hk1.out,hUl.out,hn0],by rw[if_neg (by rw[hk1.out];decide)],by simp,hU8,by simp,fun h=>absurd (hk1.symm.trans h) (by decide)⟩,Zh (fun h=>absurd (hk1.symm.trans h) (by decide)),Zh (.inl (by rw[hUl.out];exact gU.out _ J)),Zh (.inr Sls.nil),Zh (gE _ J),I⟩
   ·as_aux_lemma=>
    have b1:(m.kind==1)=false:=by rw[hk1];rfl
    have b3:(m.kind==3)=false:=by rw[hk1];rfl
    have b2:(m.kind==2)=true:=by rw[hk1];rfl
    replace hk1:=Zh hk1
    clear hkk
    clear HB hTf
    have q6:=Zc I 4 6 (.slice vm.oA vm.on vm.oc)
    have hon8:vm.on≤8:=by have:=hMk.lo;rw[hml.out]at this;exact this
    have hLe:=Zh (lisR_eq (e:=e) (l:=m.old) hFo.ed.cells.asc hMk.oasc)
    generalize hLr:lisR e m.old=LR at*
    replace hLr:=Zh hLr
    go_upto_region 28 with fail
    try clear q0 p3
    cases LR
    case false=>
     have hw0:wantN e t f m=none:=by
      unfold wantN
      simp[hk1.out,←hLe.out]
     have mk8:Unit:=()
     have mk9:Unit:=()
     go_wp2_with(first|go_skip|(refine lG 6 I uE.out ?_)|(go_at_call 161;clear mk9;refine(cLi _ I.below).mono ?_;rintro r w3 ⟨rfl,p_⟩;clear q6;replace I:=Zm I p_;replace J:=q_.z J p_;clear p_;dsimp only)|(refine lG 0 I uE.out ?_)|(refine lG 4 I uM.out ?_)|(go_at_call 159;clear mk8;refine q_.k I J (cR 2 v1 _ I.below) ?_;clear I J;intro w3 I J;dsimp only)|(refine q_.s 3 I J ?_;clear I J;intro w4 I J;simp only[List.set]at I)|(refine q_.s 2 I J ?_;clear I J;intro w4 I J;simp only[List.set]at I)|fail)
     try simp only[Exit.inBlock,Exit.then]
     refine rU I 3 2 uE.out uM.out ?_
     exact hPo.out _ _ _ _ _ hA0.out (hrv.trans (by rw[hw0])) (gE _ J) (MsgSub.ofN _ _ _) I.below
    have mk8:Unit:=()
    go_upto_region 30 with(first|go_skip|(refine lG 6 I uE.out ?_)|(go_at_call 161;clear mk8;refine(cLi _ I.below).mono ?_;rintro r w3 ⟨rfl,p_⟩;clear q6;replace I:=Zm I p_;replace J:=q_.z J p_;clear p_;dsimp only)|fail)
    replace J:=Zh (q_.keep J ((Below.refl _ _).drew))
    replace I:=Zh (I.keep ((Below.refl _ _).drew))
    have HMs:=Zh I.out
    refine wp_region_plan (fun w'=>Mem _ w' _) 5 [(0,true),(1,true),(2,true),(3,true),(4,true)] (by kernel_rfl) (by kernel_rfl) HMs.out ?_
    generalize World.drew _=wd at*
    repeat(first|(refine plPure rfl rfl (by intro w_ hSw;go_simp;first|done|exact rfl) ?_;try go_frame))
    refine plTakeL (by rfl) (yc 4 6 (.slice vm.oA vm.on vm.oc) Tryz.underlying28) ?_
    try go_frame
    repeat(first|(refine plPure rfl rfl (by intro w_ hSw;go_simp;first|done|exact rfl) ?_;try go_frame))
    refine plTakeL (by rfl) (yc 4 4 (.int .i64 m.count) Tryz.underlying3) ?_
    try go_frame
    repeat(first|(refine plPure rfl rfl (by intro w_ hSw;go_simp;first|done|exact rfl) ?_;try go_frame))
    clear HMs
    refine plDone ?_
    simp only[List.drop]
    go_wp2_with fail
    go_meet
    exact⟨m.count,[],[],m.old,none,vm.oA,0,vm.oc,rfl,rfl,by rw[hml.out],Zh ⟨by
     unfold wantN;simp[hk1.out,←hLe.out],by rw[if_neg (by rw[hk1.out];decide)],fun s hs=>lis_has (by rw[←hLe.out]) hs,by simp,hMk.lo,fun h=>absurd (hk1.symm.trans h) (by decide)⟩,Zh (fun h=>absurd (hk1.symm.trans h) (by decide)),Zh (.inr Sls.nil),Zh (.inr (by rw[hml.out];exact(hmn _ (Below.refl _ _)).old)),Zh (gE _ J),I⟩
   ·as_aux_lemma=>
    have b1:(m.kind==1)=false:=by rw[hk1];rfl
    have b3:(m.kind==3)=true:=by rw[hk1];rfl
    have b2:(m.kind==2)=false:=by rw[hk1];rfl
    replace hk1:=Zh hk1
    clear hkk
    obtain⟨q,hq⟩:∃q:Nat,m.count=(q:Int):=⟨m.count.toNat,by have:=hMk.count0;omega⟩
    have hq5:q≤512:=by have:=hMk.count;omega
    have q4:=Zc I 4 4 (.int .i64 m.count)
    rw[hq]at q4
    replace hq:=Zh hq
    have q5:=Zc I 4 5 (.slice vm.sA vm.sn vm.sc)
    have hsn8:vm.sn≤8:=by have:=hMk.ls;rw[hms.out]at this;exact this
    have hon8:vm.on≤8:=by have:=hMk.lo;rw[hml.out]at this;exact this
    have hU8:((m.spots.filter (fitsN FU f)).take q).length≤8:=by
     have h1:=List.length_take_le q (m.spots.filter (fitsN FU f))
     have h2:=List.length_take_le' q (m.spots.filter (fitsN FU f))
     have h3:=List.length_filter_le (fitsN FU f) m.spots
     have:=hMk.ls
     omega
    go_upto_region 21 with fail
    try clear q0 p3
    have mk8:Unit:=()
    go_upto_region 22 with(first|go_skip|(refine lG 1 I uT.out ?_)|(go_at_call 160;clear mk8;refine(cU FU vf q _ I.below (hTf.keep HB.out) (by omega) (by omega)).mono ?_;rintro r w3 ⟨Au,nu,cu,rfl,hUl,hUo,p_⟩;clear q4 q5;have hU5:=SubS.of_own hUo;have hUc:=own_cap hUo;replace hUl:=Zh hUl;clear hUo;replace I:=Zm I p_;replace J:=q_.z J p_;replace HB:=Zh (bthen HB.out p_);clear p_;refine sA q_ J (Stb.spo Au nu _) hU5 ?_;clear q_ J hU5;intro F2 q_ J hU gU;replace gE:=Zu gE hU;clear hU;dsimp only)|fail)
    clear HB hTf
    generalize hUe:(m.spots.filter (fitsN FU f)).take q=U at*
    have hUe2:(useN (fullN t e) f m).take m.count.toNat=U:=by rw[hFu.out,hq.out];exact hUe
    replace hUe2:=Zh hUe2
    clear hUe
    have hnu8:nu≤8:=by rw[←hUl.out];exact hU8
    have q6:=Zc I 4 6 (.slice vm.oA vm.on vm.oc)
    by_cases hn0:nu=0
    case pos=>
     have dz:((nu:Int)==0)=true:=by rw[hn0];rfl
     have hw0:wantN e t f m=none:=by
      unfold wantN
      rw[hUe2.out]
      simp[hk1.out,hUl.out,hn0]
     replace hn0:=Zh hn0
     clear q6
     have mk9:Unit:=()
     go_wp2_with(first|go_skip|(refine lG 0 I uE.out ?_)|(refine lG 4 I uM.out ?_)|(go_at_call 159;clear mk9;refine q_.k I J (cR 2 v1 _ I.below) ?_;clear I J;intro w3 I J;dsimp only)|(refine q_.s 3 I J ?_;clear I J;intro w4 I J;simp only[List.set]at I)|(refine q_.s 2 I J ?_;clear I J;intro w4 I J;simp only[List.set]at I)|fail)
     try simp only[Exit.inBlock,Exit.then]
     refine rU I 3 2 uE.out uM.out ?_
     exact hPo.out _ _ _ _ _ hA0.out (hrv.trans (by rw[hw0])) (gE _ J) (MsgSub.ofN _ _ _) I.below
    have dz:((nu:Int)==0)=false:=by rw[beq_eq_false_iff_ne];omega
    have hLe:=Zh (lisR_eq (e:=e) (l:=m.old) hFo.ed.cells.asc hMk.oasc)
    generalize hLr:lisR e m.old=LR at*
    replace hLr:=Zh hLr
    cases LR
    case false=>
     have hw0:wantN e t f m=none:=by
      unfold wantN
      simp[hk1.out,←hLe.out]
     have mk9:Unit:=()
     have mk10:Unit:=()
     go_wp2_with(first|go_skip|(refine lG 6 I uE.out ?_)|(go_at_call 161;clear mk10;refine(cLi _ I.below).mono ?_;rintro r w3 ⟨rfl,p_⟩;replace q6:=Zk I p_ 4 6 q6;replace I:=Zm I p_;replace J:=q_.z J p_;clear p_;dsimp only)|(refine lG 0 I uE.out ?_)|(refine lG 4 I uM.out ?_)|(go_at_call 159;clear mk9;refine(cR 2 v1 _ I.below).mono ?_;rintro r w3 ⟨rfl,p_⟩;clear q6;replace I:=Zm I p_;replace J:=q_.z J p_;clear p_;dsimp only)|(refine q_.s 3 I J ?_;clear I J;intro w4 I J;simp only[List.set]at I)|(refine q_.s 2 I J ?_;clear I J;intro w4 I J;simp only[List.set]at I)|fail)
     try simp only[Exit.inBlock,Exit.then]
     refine rU I 3 2 uE.out uM.out ?_
     exact hPo.out _ _ _ _ _ hA0.out (hrv.trans (by rw[hw0])) (gE _ J) (MsgSub.ofN _ _ _) I.below
    have hfo:m.count=(m.old.length:Int):=by
     have hf:=hMk.foll
     unfold follN at hf
     rw[if_neg (by rw[hrp];simp[msg_code hMk.out hrp]),if_neg (by rw[msg_code hMk.out hrp];simp),if_neg (by rw[hk1.out];decide),if_neg (by rw[hk1.out];decide),if_pos hk1.out]at hf
     simp only[Bool.and_eq_true,decide_eq_true_eq]at hf
     exact hf.2.1
    have hnq:nu≤q:=by rw[←hUl.out,←hUe2.out];have:=List.length_take_le m.count.toNat (useN (fullN t e) f m);have:=hq.out;omega
    have hnon:nu≤vm.on:=by have:=hq.out;have:=hml.out;omega
    have hnoc:nu≤vm.oc:=by have:=hoc.out;omega
    have hl8o:(m.old.take nu).length≤8:=by have:=List.length_take_le nu m.old;omega
    replace hfo:=Zh hfo
    have mk9:Unit:=()
    go_upto_region 24 with(first|go_skip|(refine lG 6 I uE.out ?_)|(go_at_call 161;clear mk9;refine(cLi _ I.below).mono ?_;rintro r w3 ⟨rfl,p_⟩;replace q6:=Zk I p_ 4 6 q6;replace I:=Zm I p_;replace J:=q_.z J p_;clear p_;dsimp only)|fail)
    have q0:=Zc I 4 0 (.int .i64 m.kind)
    go_wp2_with fail
    go_meet
    exact⟨(nu:Int),U,U,m.old.take nu,Au,vm.oA,cu,vm.oc,rfl,by rw[hUl.out],by rw[List.length_take,Nat.min_eq_left (by rw[hml.out];exact hnon)],Zh ⟨by
     unfold wantN;rw[hUe2.out];simp[hk1.out,hUl.out,hn0,←hLe.out],by rw[if_neg (by rw[hk1.out];decide)],fun s hs=>lis_has (by rw[←hLe.out]) (List.mem_of_mem_take hs),hU8,hl8o,fun h=>absurd (hk1.symm.trans h) (by decide)⟩,Zh (fun h=>absurd (hk1.symm.trans h) (by decide)),Zh (.inl (by rw[hUl.out];exact gU.out _ J)),Zh (.inr (by rw[List.length_take,Nat.min_eq_left (by rw[hml.out];exact hnon)];exact(hmn _ (Below.refl _ _)).old.take hnon)),Zh (gE _ J),I⟩
   ·as_aux_lemma=>
    have b1:(m.kind==1)=false:=by rw[hk1];rfl
    have b3:(m.kind==3)=false:=by rw[hk1];rfl
    have b2:(m.kind==2)=false:=by rw[hk1];rfl
    replace hk1:=Zh hk1
    clear hkk
    clear HB hTf
    go_wp2_with fail
    go_meet
    exact⟨(v.cn:Int),[],[],[],none,none,0,0,rfl,rfl,rfl,Zh ⟨by
     unfold wantN;simp[hk1.out,hol.out],by rw[if_neg (by rw[hk1.out];decide)],by simp,by simp,by simp,fun h=>absurd (hk1.symm.trans h) (by decide)⟩,Zh (fun h=>absurd (hk1.symm.trans h) (by decide)),Zh (.inr Sls.nil),Zh (.inr Sls.nil),Zh (gE _ J),I⟩
   ·as_aux_lemma=>
    have b1:(m.kind==1)=false:=by rw[hk1];rfl
    have b3:(m.kind==3)=false:=by rw[hk1];rfl
    have b2:(m.kind==2)=false:=by rw[hk1];rfl
    replace hk1:=Zh hk1
    clear hkk
    clear HB hTf
    go_wp2_with fail
    go_meet
    exact⟨(v.cn:Int),(e.cells.take 8).map place,[],[],none,none,0,0,rfl,rfl,rfl,Zh ⟨by
     unfold wantN;simp[hk1.out,hol.out],by rw[if_pos hk1.out],by simp,by simp,by simp,fun _=>⟨by rw[hol.out],rfl⟩⟩,Zh (fun _=>⟨rfl,rfl⟩),Zh (.inr Sls.nil),Zh (.inr Sls.nil),Zh (gE _ J),I⟩
  case rest=>as_aux_lemma=>
   clear I J q_ gE HB hTf q0 p3 cU cLi cR hkk
   obtain⟨n,S,sp,ol,A1,A2,c1,c2,rfl,rfl,rfl,hSw,hnil,hs1,hs2,hE,I⟩:=hcut
   obtain⟨F19,q_,J,gE,gS,gO⟩:∃F:World→Prop,Stb F∧Hid (F _)∧Hid (∀W,F W→EdOwn W v1 e)∧Hid (∀W,F W→SptY w A1 sp.length sp W)∧Hid (∀W,F W→SptY w A2 ol.length ol W):=⟨_,(Stb.ed v1 e).and ((Stb.sptY _ _ _ _).and (Stb.sptY _ _ _ _)),Zh ⟨hE.out,hs1.out,hs2.out⟩,Zh fun _ h=>h.1,Zh fun _ h=>h.2.1,Zh fun _ h=>h.2.2⟩
   clear hE hs1 hs2
   have hrw:=Zh (hrv.trans (by rw[hSw.out.want]))
   dsimp only at hrw
   clear hrv
   have hmv:movR e ol sp false=chgN e ol sp false:=movR_eq hFo.ed.cells.asc hSw.has
   generalize hMLe:movR e ol sp false=ML at*
   replace hMLe:=Zh hMLe
   replace hmv:=Zh hmv
   have hl8s:sp.length≤8:=hSw.l1
   have hl8o:ol.length≤8:=hSw.l2
   have hl8S:S.length≤8:=by
    by_cases h5:m.kind=5
    ·rw[(hSw.out.five h5).2,List.length_map];exact List.length_take_le _ _
    ·have:=hSw.spE;rw[if_neg h5]at this;rw[←this];exact hl8s
   have mk8:Unit:=()
   go_upto_region 32 with(first|go_skip|(refine lG 6 I uE.out ?_)|(go_at_call 162;clear mk8;refine(cMv A2 ol.length c2 ol A1 sp.length c1 sp _ I.below ((gO _ J).is I.below) ((gS _ J).is I.below) hcn9.out (by omega)).mono ?_;rintro r w3 ⟨A3,n3,c3,b3,rfl,hL2,hO2,p_⟩;rw[hMLe.out]at hL2 hO2;have hE5:EdOwn w3 { v1 with cA:=A3,cn:=n3,cc:=c3} { e with cells:=ML}:=⟨⟨b3,hO2⟩,hL2,(gE _ (q_.keep J p_)).asked,(gE _ (q_.keep J p_)).last,(gE _ (q_.keep J p_)).reply⟩;clear hO2 hL2;replace I:=Zm I p_;replace J:=q_.z J p_;clear p_;refine sA q_ J (Stb.ed { v1 with cA:=A3,cn:=n3,cc:=c3} { e with cells:=ML}) hE5 ?_;clear q_ J hE5;intro F21 q_ J hU gM;replace gE:=Zu gE hU;replace gS:=Zu gS hU;replace gO:=Zu gO hU;clear hU;dsimp only)|(refine q_.m 0 I J 3 (endA { e with cells:=ML} { v1 with cA:=A3,cn:=n3,cc:=c3}) ?_;clear I J;intro w4 I J;simp only[List.set]at I)|fail)
   have q0:=Zc I 4 0 (.int .i64 m.kind)
   go_upto_if 159 with fail
   try go_frame
   go_cut[16,19] (fun s16 _ wx=>∃A5 c5,s16= .slice A5 S.length c5∧Hid (SptY w A5 S.length S wx)∧Hid (Mem w wx [(g13,endA { e with cells:=ML} { v1 with cA:=A3,cn:=n3,cc:=c3},32),(g11,tabA FU vf,37),(g9,(Kz 7),30),(g8,(Kz 28),32),(gm,msgA m vm,30),(gt,tabA t vt,37),(ge,endA e v,32)])∧Hid (F21 wx))
   case first=>as_aux_lemma=>
    by_cases hk5:m.kind=5
    case neg=>
     have d5:(m.kind==5)=false:=by rw[beq_eq_false_iff_ne];exact hk5
     have hsp:sp=S:=by have:=hSw.spE;rwa[if_neg hk5]at this
     clear hl8s
     replace hsp:=Zh hsp
     replace hk5:=Zh hk5
     go_wp2_with fail
     go_meet
     exact⟨A1,c1,by rw[hsp.out],Zh (by have:=gS.out _ J;rw[hsp.out]at this;exact this),I,J⟩
    have d5:(m.kind==5)=true:=by rw[beq_iff_eq];exact hk5
    clear hl8s
    obtain⟨rfl,rfl⟩:=hnil.out hk5
    have hsp:sp= []:=by have:=hSw.spE;rwa[if_pos hk5]at this
    subst hsp
    have hS5:=(hSw.five hk5).2
    replace hS5:=Zh hS5
    replace hk5:=Zh hk5
    obtain⟨w9,hw9⟩:∃W,W=w4:=⟨_,rfl⟩
    rw[←hw9]at I J ⊢
    clear hw9
    go_wp2_with fail
    have HM4:=I
    have hF4:=J
    have hlk:∀j,j≤v.cn→((e.cells.take j).map place).length=j:=fun j hj=>by rw[List.length_map,List.length_take,hol.out];omega
    have hsu:∀j,j<v.cn→(e.cells.take (j+1)).map place=(e.cells.take j).map place++ [place (e.cells.getD j default)]:=fun j hj=>take_place (by rw[hol.out];exact hj)
    have hex:∀j A5 c5 W,j≤v.cn→j≤8→(j=8∨j=v.cn)→W.ownsRow w9.heap.size 97 2 (.slice A5 j c5) j (((e.cells.take j).map place).flatMap sptE)→S.length=j∧SptY w A5 S.length S W:=fun j A5 c5 W h1 h2 h3 h4=>by
     have htk:e.cells.take j=e.cells.take 8:=by
      rcases h3 with rfl|rfl
      ·rfl
      ·rw[List.take_of_length_le (by rw[hol.out];exact Nat.le_refl _),List.take_of_length_le (by rw[hol.out];exact h2)]
     have hl:=hlk j h1
     rw[htk,←hS5.out]at h4 hl
     rw[hl]
     exact⟨rfl,.inl (SubS.of_own h4)⟩
    refine zh3 ?_ hlk hsu hex;clear hlk hsu hex;intro hlk hsu hex
    go_loopw[16,19] (fun s i wr=>Hid (∃(j:Nat) (A5:Option Addr) (c5:Nat),j≤v.cn∧j≤8∧i= .int .i64 j∧s= .slice A5 j c5∧Hid (wr.ownsRow w9.heap.size 97 2 (.slice A5 j c5) j (((e.cells.take j).map place).flatMap sptE))∧Hid (Below w9.heap.size w9 wr))) (fun _ i _=>v.cn-(intOf i).toNat)
    case atStart=>exact Zh ⟨0,none,0,by omega,by omega,rfl,rfl,World.ownsRow_nil _ _ _ _,Below.refl _ _⟩
    case round=>
     clear I J
     obtain⟨j,A5,c5,hj,hj8,rfl,rfl,HO,HB0⟩:=hrel.out
     clear hrel
     have I:=Zh (HM4.keep HB0.out)
     have J:=Zh (q_.keep hF4.out HB0.out)
     have p3:=Zc I 6 3 (.slice v.cA v.cn v.cc)
     have hlj:=hlk.out j hj
     by_cases hlt:j<v.cn
     ·have r1:(j:Int)<(v.cn:Int):=by omega
      by_cases h8:j<8
      ·have r2:(j:Int)<8:=by omega
       have r0:(0:Int)≤(j:Int):=by omega
       obtain⟨b,off,hcA⟩:=(hhn _ I.below).cells.addr (by omega)
       have hxs:=Zh (fun W (hb:Below w.heap.size w W)=>tcl_at (hcA▸(hhn W hb).cells) hlt)
       have hst:=hsu.out j hlt
       generalize e.cells.getD j default=x at*
       obtain⟨x0,x1,x2,x3,x4,x5⟩:=x
       replace hst:(e.cells.take (j+1)).map place=(e.cells.take j).map place++ [(⟨x0,x1⟩:Spt)]:=hst
       replace hcA:=Zh hcA
       replace hst:=Zh hst
       go_upto_region 36 with(first|go_skip|fail)
       clear p3
       replace HO:=Zh (owns_keep HO.out ((Below.refl _ _).drew))
       replace HB0:=Zh (bthen HB0.out ((Below.refl _ _).drew))
       replace I:=Zh (I.keep ((Below.refl _ _).drew))
       have HMs:=Zh I.out
       refine wp_region_plan (fun w'=>Mem _ w' _) 15 [(0,true),(1,true),(2,true),(3,true),(4,true),(5,true),(6,true),(7,true),(8,true),(9,true),(10,true),(11,true),(12,true),(13,true),(14,false)] (by kernel_rfl) (by kernel_rfl) HMs.out ?_
       generalize World.drew _=wd at*
       repeat(first|(refine plPure rfl rfl (by intro w_ hSw;go_simp;first|done|exact rfl) ?_;try go_frame))
       refine plTakeL (by rfl) (yields_memc rfl _ _ rfl 6 (fun w_ hSw=>hSw) rfl 3 rfl (.slice (some ⟨b,off,none⟩) v.cn v.cc) (by rw[←hcA.out];rfl) _ Tryz.underlying27 (by rfl)) ?_
       try go_frame
       repeat(first|(refine plPure rfl rfl (by intro w_ hSw;go_simp;first|done|exact rfl) ?_;try go_frame))
       refine plTakeL (by rfl) (yields_cell rfl _ _ rfl ⟨b,off+j*6,none⟩ rfl (.int .i64 x0) (fun w_ hSw=>by exact(hxs _ hSw.below).1) _ Tryz.underlying3 (by rfl)) ?_
       try go_frame
       repeat(first|(refine plPure rfl rfl (by intro w_ hSw;go_simp;first|done|exact rfl) ?_;try go_frame))
       refine plTakeL (by rfl) (yields_memc rfl _ _ rfl 6 (fun w_ hSw=>hSw) rfl 3 rfl (.slice (some ⟨b,off,none⟩) v.cn v.cc) (by rw[←hcA.out];rfl) _ Tryz.underlying27 (by rfl)) ?_
       try go_frame
       repeat(first|(refine plPure rfl rfl (by intro w_ hSw;go_simp;first|done|exact rfl) ?_;try go_frame))
       refine plTakeL (by rfl) (yields_cell rfl _ _ rfl ⟨b,off+j*6+1,none⟩ rfl (.int .i64 x1) (fun w_ hSw=>by exact(hxs _ hSw.below).2.1) _ Tryz.underlying3 (by rfl)) ?_
       try go_frame
       repeat(first|(refine plPure rfl rfl (by intro w_ hSw;go_simp;first|done|exact rfl) ?_;try go_frame))
       refine plStepL rfl rfl fun K hK=> ?_
       go_wp2_with(first|fail|fail)
       refine hK _ _ (HMs.keep (ball _ _)) fun hS_=> ?_
       clear hK K hS_
       try go_frame
       clear HMs
       refine plDone ?_
       simp only[List.drop]
       go_wp2_with(first|(at_builtin;refine wpList_append_sls eltS _ rfl _ _ rfl w9.heap.size (.slice A5 j c5) ((e.cells.take j).map place) rfl (by rw[hlj];exact HO.alloc _) _ 1 1 [⟨x0,x1⟩] rfl (Sls.one (t:=97) (Blk.new _ _ _)) (by rw[hlj];simp;omega) (by exact(ballN HB0.out _).size) ?_;intro v9 w7 HO1 HG1 _;rw[List.length_append,hlj,List.length_singleton]at HO1;obtain⟨A6,c6,rfl⟩:=own_slice HO1;replace HO1:=Zh HO1;have HB7:=Zh (Below.grownM (ballN HB0.out _) HG1 (ballN HB0.out _).size (fun g e1=>(HO.lt g e1).1));clear HG1)|fail)
       rw[←hst.out]at HO1
       exact⟨Zh ⟨j+1,A6,c6,by omega,by omega,by go_num,rfl,HO1,HB7⟩,by simp[intOf];omega⟩
      ·have hj8':j=8:=by omega
       have r2:¬(j:Int)<8:=by omega
       obtain⟨x1,x2⟩:=hex.out j A5 c5 _ hj hj8 (.inl hj8') HO.out
       replace hj8':=Zh hj8'
       go_wp2_with(first|go_skip|fail)
       go_meet
       exact⟨A5,c5,by rw[x1],Zh x2,I,J⟩
     ·have hjn:j=v.cn:=by omega
      have r1:¬(j:Int)<(v.cn:Int):=by omega
      obtain⟨x1,x2⟩:=hex.out j A5 c5 _ hj hj8 (.inr hjn) HO.out
      replace hjn:=Zh hjn
      go_wp2_with(first|go_skip|(refine wpList_skip rfl ?_;simp only[Act.put,List.setIfInBounds_toArray,List.set_cons_zero,List.set_cons_succ])|fail)
      go_meet
      exact⟨A5,c5,by rw[x1],Zh x2,I,J⟩
   case rest=>as_aux_lemma=>
    clear I J q0
    obtain⟨A5,c5,rfl,hs5,I,J⟩:=hcut
    clear gS
    obtain⟨F22,hFs2,hF2,hU,hNw⟩:=stb_add q_ J (Stb.sptY w A5 S.length S) hs5.out
    clear q_ J hs5
    replace gE:=Zu gE hU
    replace gO:=Zu gO hU
    replace gM:=Zu gM hU
    have gS:=Zh hNw
    clear hNw hU
    have q_:=hFs2
    have J:=hF2
    clear hFs2 hF2
    have p2:=Zc I 6 2 (.int .i64 e.number)
    go_upto_region 38 with(first|go_skip|(go_at_call 163;refine(cN _).mono ?_;rintro r w_ ⟨rfl,rfl⟩;clear p2;dsimp only)|(refine q_.m 0 I J 2 (endA { e with cells:=ML,number:=nextN e.number} { v1 with cA:=A3,cn:=n3,cc:=c3}) ?_;clear I J;intro w4 I J;simp only[List.set]at I)|fail)
    have hln:=accN_len (q:=m) (n:=n) (l:=S) (o:=ol) hl8S hl8o
    generalize hR0:accN m n S ol=R0 at*
    replace hR0:=Zh hR0
    have mk9:Unit:=()
    have mk10:Unit:=()
    go_upto_region 39 with(first|go_skip|(refine lG 4 I uM.out ?_)|(go_at_call 157;clear mk9;refine(cA n A5 A2 S.length c5 ol.length c2 S ol _ I.below ((gS _ J).is I.below) ((gO _ J).is I.below) (by omega) (by omega)).mono ?_;rintro r w3 ⟨va,hr5,hR5,p_⟩;rw[hR0.out]at hr5 hR5;subst hr5;replace I:=Zm I p_;replace J:=q_.z J p_;clear p_;refine sA q_ J (Stb.msg va _) hR5 ?_;clear q_ J hR5;intro F23 q_ J hU gR;replace gE:=Zu gE hU;replace gO:=Zu gO hU;replace gM:=Zu gM hU;replace gS:=Zu gS hU;clear hU;dsimp only)|(clear mk10;refine q_.a I J msgInfo ?_;clear I J;intro g20 w1 I J)|(refine q_.s 0 I J ?_;clear I J;intro w4 I J;simp only[List.set]at I)|fail)
    have mk11:Unit:=()
    go_wp2_with(first|go_skip|(refine lG 1 I uE.out ?_)|(refine lG 5 I uM.out ?_)|(refine lG 0 I uM.out ?_)|(go_at_call 158;clear mk11;refine(cKn { e with cells:=ML,number:=nextN e.number} { v1 with cA:=A3,cn:=n3,cc:=c3} R0 va _ I.below (gR _ J).is hm8.out (hsz va R0 _ (gR _ J) (by omega) (by omega))).mono ?_;rintro r w3 ⟨vl,vr,vb,rfl,hL5,hR6,hB5,p_⟩;replace I:=Zm I p_;replace J:=q_.z J p_;clear p_;refine sA q_ J (Stb.msg vl _) hL5 ?_;clear q_ J hL5;intro F24 q_ J hU gL;replace gE:=Zu gE hU;replace gO:=Zu gO hU;replace gM:=Zu gM hU;replace gS:=Zu gS hU;replace gR:=Zu gR hU;clear hU;refine sA q_ J (Stb.msg vr _) hR6 ?_;clear q_ J hR6;intro F25 q_ J hU gR2;replace gE:=Zu gE hU;replace gO:=Zu gO hU;replace gM:=Zu gM hU;replace gS:=Zu gS hU;replace gR:=Zu gR hU;replace gL:=Zu gL hU;clear hU;refine sA q_ J (Stb.msg vb _) hB5 ?_;clear q_ J hB5;intro F26 q_ J hU gB;replace gE:=Zu gE hU;replace gO:=Zu gO hU;replace gM:=Zu gM hU;replace gS:=Zu gS hU;replace gR:=Zu gR hU;replace gL:=Zu gL hU;replace gR2:=Zu gR2 hU;clear hU;dsimp only)|(refine q_.s 4 I J ?_;clear I J;intro w4 I J;simp only[List.set]at I)|(refine q_.s 3 I J ?_;clear I J;intro w4 I J;simp only[List.set]at I)|fail)
    try simp only[Exit.inBlock,Exit.then]
    refine rU I 4 3 uE.out uM.out ?_
    exact hPo.out _ _ _ _ _ hA0.out (hrw.trans (by unfold recvE;rw[hR0.out,←hSw.out.spE,←hmv.out])) ⟨(gM _ J).cells,(gM _ J).lc,(gM _ J).asked,gL.out _ J,gR2.out _ J⟩ (gB _ J).sub I.below
end Tx
end Go.Proofs.YtfamifgchgolpaaGreat
