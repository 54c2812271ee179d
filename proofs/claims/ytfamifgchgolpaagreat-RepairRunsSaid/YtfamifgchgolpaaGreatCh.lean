/- Plans with forks of any breadth. -/
import Derived.Test.YtfamifgchgolpaaGreatCa
set_option linter.unusedVariables false
set_option linter.unusedSimpArgs false
set_option maxRecDepth 100000
set_option maxHeartbeats 16000000
namespace Go.Proofs.YtfamifgchgolpaaGreat.Pl
open Go
inductive PV where
 |done
 |take (i:Nat) (p:PV)
 |any (is:List Nat) (f:Nat→PV)
def pvB(md:Region.Mode)(ops:Array Oper)(n g:Nat):Nat→PV→Array Bool→Bool
 |0,.done,listed=>Region.seqB md ops g n listed
 |d+1,.take i p,listed=>(Region.ready md ops listed).contains i&&Region.free md ops listed i&&decide (i<n)&&pvB md ops n g d p (listed.setIfInBounds i true)
 |d+1,.any is f,listed=>decide (Region.ready md ops listed=is)&& !is.isEmpty&&is.all fun i=>decide (i<n)&&pvB md ops n g d (f i) (listed.setIfInBounds i true)
 |_,_,_=>false
section
variable {P:Program} {ops:Array Oper} {Q:Exit→Act→World→Prop} {md:Region.Mode} {S:World→Prop}
def wpPv(P:Program)(ops:Array Oper)(Q:Exit→Act→World→Prop)(S:World→Prop)(L:Act→World→Prop):Nat→PV→Act→World→Prop
 |0,_,a,w=>L a w
 |d+1,.take i p,a,w=>∃o v,ops[i]? =some o∧YieldsIf P ops S o v a∧wpPv P ops Q S L d p (a.put o.dst v) w
 |d+1,.any is f,a,w=>∀i∈is,wpOp P ops Q i (fun a' w'=>S w'∧wpPv P ops Q S L d (f i) a' w') a w
 |_+1,.done,_,_=>False
theorem wpHd_pv {n g:Nat} {Lq:Act→World→Prop}(hsel:Region.noSelect ops=true)(hQ:∀c a d v w,Q (.panic c) (Act.put a d v) w→Q (.panic c) a w)(hs:Region.sinkB md ops n=true)(hc:Region.chainB md ops n=true)(hn:n<ops.size):
 ∀(d:Nat) (p:PV) (listed:Array Bool) (a:Act) (w:World),HeadInv md ops n listed→pvB md ops n g d p listed=true→S w→wpPv P ops Q S Lq d p a w→
 wpHd P md ops Q S n (fun listed' a' w'=>Region.seqB md ops g n listed'=true∧Lq a' w') d listed a w
 |0,.done,listed,a,w,_,hB,_,h=>⟨hB,h⟩
 |0,.take _ _,_,_,_,_,hB,_,_=>by simp[pvB]at hB
 |0,.any _ _,_,_,_,_,hB,_,_=>by simp[pvB]at hB
 |d+1,.done,_,_,_,_,hB,_,_=>by simp[pvB]at hB
 |d+1,.take i p,listed,a,w,inv,hB,hS,h=>by
  simp only[pvB,Bool.and_eq_true,decide_eq_true_eq]at hB
  obtain⟨⟨⟨hr,hf⟩,hin⟩,hB'⟩:=hB
  obtain⟨o,v,ho,hy,hK⟩:=h
  have hr':i∈Region.ready md ops listed:=by simpa using hr
  exact wpHd_first ho (Region.noSelect_spec hsel) (fun c a w=>hQ c a _ _ w) hs hc hn hin (fun listed' a' w' hL=>seqB_ready hL.1) d listed a w inv (Region.free_spec ho hf) hr' hy hS
   (wpHd_pv hsel hQ hs hc hn d p _ _ w (inv.set hr' hin) hB' hS hK)
 |d+1,.any is f,listed,a,w,inv,hB,hS,h=>by
  simp only[pvB,Bool.and_eq_true,decide_eq_true_eq,Bool.not_eq_true',List.all_eq_true]at hB
  obtain⟨⟨hr,he⟩,hall⟩:=hB
  refine⟨by rw[hr];intro h0;rw[h0]at he;simp at he,fun j hj=> ?_⟩
  have hj':j∈is:=by rw[←hr];exact hj
  obtain⟨hjn,hB2⟩:=hall j hj'
  exact⟨hjn,wpOp_mono (fun a' w' h'=>⟨h'.1,wpHd_pv hsel hQ hs hc hn d (f j) _ a' w' (inv.set hj hjn) hB2 h'.1 h'.2⟩) (h j hj')⟩
def pvOk(ops:Array Oper)(n:Nat)(p:PV):Bool:=
 Region.noSelect ops&&decide (n<ops.size)&&Region.sinkB .any ops n&&Region.chainB .any ops n&&pvB .any ops n (ops.size-n) n p (Array.replicate ops.size false)
theorem wp_region_pv {id:Nat} {a:Act} {w:World} {l:List Oper}(S:World→Prop)(n:Nat)(p:PV)(hm:P.follows .mixedOrders=true)(hB:pvOk l.toArray n p=true)(hS:S w.drew)
 (h:wpPv P l.toArray (calm Q) S (fun a' w'=>wpList P l.toArray (Exit.then (fun a w=>Q .normal a w) (fun _ _ _=>False)) (l.drop n) a' w') n p a w.drew):(Code.region id l.toArray true).wp P Q a w:=by
 refine Code.wp_mono calm_imp ?_
 simp only[pvOk,Bool.and_eq_true,decide_eq_true_eq]at hB
 obtain⟨⟨⟨⟨hsel,hn⟩,hs⟩,hc⟩,hp⟩:=hB
 have hdl:(l.drop n).length=l.toArray.size-n:=by simp
 have inv0:HeadInv .any l.toArray n (Array.replicate l.toArray.size false):=
  ⟨by simp,fun j oj _ hl=>(by rw[getD_replicate_false]at hl;cases hl),fun t _ ht=>getD_in (by simpa using ht) (getD_replicate_false _ _)⟩
 have H:=wpHd_pv (md:= .any) (Q:=calm Q) (g:=l.toArray.size-n) hsel (fun _ _ _ _ _ h=>h) hs hc hn n p _ a w.drew inv0 hp hS h
 refine wp_region_any hm ?_
 have:=wpAny_of_hd (Q:=calm Q) (g:=l.toArray.size-n) (fun listed a' w' hL=>by
  have:=wpAny_of_seq (md:= .any) (Q':=calm Q) (l.drop n) n listed a' w' (fun j=>by simp[List.getElem?_drop]) (by rw[hdl];exact hL.1) hL.2
  rwa[hdl]at this) _ _ _ _ H
 rw[show n+(l.toArray.size-n)=l.toArray.size by omega]at this
 exact this
theorem pvTake {l:List Oper} {L:Act→World→Prop} {d i:Nat} {p:PV} {o:Oper} {v:Value} {a:Act} {w:World}(ho:l[i]? =some o)(hy:YieldsIf P l.toArray S o v a)(h:wpPv P l.toArray Q S L d p (a.put o.dst v) w):wpPv P l.toArray Q S L (d+1) (.take i p) a w:=⟨o,v,by simpa using ho,hy,h⟩
theorem pvPure {l:List Oper} {L:Act→World→Prop} {d i:Nat} {p:PV} {o:Oper} {v:Value} {a:Act} {w:World}(ho:l[i]? =some o)(hg:o.guard=none)(hy:∀w,S w→(execOp a.eval o).run P w= .ok (.value v) w)(h:wpPv P l.toArray Q S L d p (a.put o.dst v) w):wpPv P l.toArray Q S L (d+1) (.take i p) a w:=pvTake ho (.inl ⟨by simp[Region.wanted,hg],hy⟩) h
theorem pvAny1 {l:List Oper} {L:Act→World→Prop} {d i:Nat} {f:Nat→PV} {p:PV} {oi:Oper} {a:Act} {w:World}(hp:f i=p)(ho:l[i]? =some oi)(hg:oi.guard=none)
 (h:∀K:Act→World→Prop,Shut (∀a' w',S w'→(S w'→wpPv P l.toArray Q S L d p a' w')→K a' w')→wpList P l.toArray (Exit.then K Q) [oi] a w):wpPv P l.toArray Q S L (d+1) (.any [i] f) a w:=fun k hk=>by
 obtain rfl:k=i:=by simpa using hk
 rw[hp]
 exact ptOp (by simpa using ho) hg h
theorem pvAny2 {l:List Oper} {L:Act→World→Prop} {d i j:Nat} {f:Nat→PV} {p q:PV} {oi oj:Oper} {a:Act} {w:World}(hp:f i=p)(hq:f j=q)(ho:l[i]? =some oi)(hg:oi.guard=none)(ho2:l[j]? =some oj)(hg2:oj.guard=none)
 (h:∀K:Act→World→Prop,Shut (∀a' w',S w'→(S w'→wpPv P l.toArray Q S L d p a' w')→K a' w')→wpList P l.toArray (Exit.then K Q) [oi] a w)
 (h2:∀K:Act→World→Prop,Shut (∀a' w',S w'→(S w'→wpPv P l.toArray Q S L d q a' w')→K a' w')→wpList P l.toArray (Exit.then K Q) [oj] a w):wpPv P l.toArray Q S L (d+1) (.any [i,j] f) a w:=fun k hk=>by
 rcases(by simpa using hk:k=i∨k=j)with rfl|rfl
 ·rw[hp];exact ptOp (by simpa using ho) hg h
 ·rw[hq];exact ptOp (by simpa using ho2) hg2 h2
theorem pvAny3 {l:List Oper} {L:Act→World→Prop} {d i j k:Nat} {f:Nat→PV} {p q r:PV} {oi oj ok:Oper} {a:Act} {w:World}(hp:f i=p)(hq:f j=q)(hr:f k=r)(ho:l[i]? =some oi)(hg:oi.guard=none)(ho2:l[j]? =some oj)(hg2:oj.guard=none)(ho3:l[k]? =some ok)(hg3:ok.guard=none)
 (h:∀K:Act→World→Prop,Shut (∀a' w',S w'→(S w'→wpPv P l.toArray Q S L d p a' w')→K a' w')→wpList P l.toArray (Exit.then K Q) [oi] a w)
 (h2:∀K:Act→World→Prop,Shut (∀a' w',S w'→(S w'→wpPv P l.toArray Q S L d q a' w')→K a' w')→wpList P l.toArray (Exit.then K Q) [oj] a w)
 (h3:∀K:Act→World→Prop,Shut (∀a' w',S w'→(S w'→wpPv P l.toArray Q S L d r a' w')→K a' w')→wpList P l.toArray (Exit.then K Q) [ok] a w):wpPv P l.toArray Q S L (d+1) (.any [i,j,k] f) a w:=fun x hx=>by
 rcases(by simpa using hx:x=i∨x=j∨x=k)with rfl|rfl|rfl
 ·rw[hp];exact ptOp (by simpa using ho) hg h
 ·rw[hq];exact ptOp (by simpa using ho2) hg2 h2
 ·rw[hr];exact ptOp (by simpa using ho3) hg3 h3
theorem pvDone {L:Act→World→Prop} {p:PV} {a:Act} {w:World}(h:L a w):wpPv P ops Q S L 0 p a w:=h
end
end Go.Proofs.YtfamifgchgolpaaGreat.Pl
namespace Go.Proofs.YtfamifgchgolpaaGreat
open Go Go.RowKit Go.Sort Go.Lib
namespace Tx
open Sw Mm Pl
theorem wpList_empty {ops:Array Oper} {rest:List Oper} {op:Oper} {a:Act} {w:World} {Q:Exit→Act→World→Prop} {a0:World} {L:List (Nat×Array Value×TypeId)}(hM:Hid (Mem a0 w L))(hgd:op.guard=none)(ho:op.op= .buildSlice 28 0 #[])
 (h:∀g w',Hid (Mem a0 w' ((g,#[],97)::L))→Hid (Below w.heap.size w w')→Hid (w.heap.size≤g)→wpList Tryz.prog ops Q rest (a.put op.dst (.slice (some ⟨g,0,none⟩) 0 0)) w'):wpList Tryz.prog ops Q (op::rest) a w:=by
 refine wpList_plain hgd fun K hK=> ?_
 have hr:(execOp a.eval op).run Tryz.prog w= .ok (.value (.slice (some ⟨w.heap.size,0,none⟩) 0 0)) (w.alloc (.cells #[] 97)):=by
  simp only[execOp,ho]
  go_simp
 simp only[Oper.wp,hr,Oper.upon]
 exact hK _ _ (h _ _ (hM.alloc #[] 97) (ball w _) (Nat.le_refl _))
theorem own_blk {w:World} {g base:Nat} {T:TypeId} {k:Nat}(h:Blk w g #[] T)(hb:base≤g):w.ownsRow base T k (.slice (some ⟨g,0,none⟩) 0 0) 0 []:=
 ⟨by simp,.inr ⟨g,0,#[],rfl,hb,h.at_,by simp,by simp,by simp,by simp⟩⟩
end Tx
end Go.Proofs.YtfamifgchgolpaaGreat
namespace Go.Proofs.YtfamifgchgolpaaGreat
open Go Go.RowKit Go.Sort Go.Shelf Go.Maps
namespace Tx
open Sw Mm Pl
def KnownPost(e:Ed)(v:EdV)(m r:Msg)(w:World)(x:Ending)(w':World):Prop:=∃v1 v2 vb,x= .returned (.tuple #[.agg (endA { e with known:=true,last:=m,reply:=r} { v with l:=v1,r:=v2}),.agg (msgA r vb),.int .i64 0])∧MsgOwn w' v1 m∧MsgOwn w' v2 r∧MsgOwn w' vb r∧Below w.heap.size w w'
theorem rknown_any(e:Ed)(v:EdV)(m r:Msg)(vm vr:MsgV)(w:World)(hm:MsgIs w vm m)(hr:MsgIs w vr r)(sm:vm.sn≤100000∧vm.on≤100000)(sr:vr.sn≤100000∧vr.on≤100000):Calls Tryz.prog 158 #[.agg (endA e v),.agg (msgA m vm),.agg (msgA r vr)] w (KnownPost e v m r w):=by
 have I:=Zh (Mem.start w)
 have cMm:=fun W (hb:Below w.heap.size w W)=>rmessage_any m vm W (hm.keep hb) sm
 have cMr:=fun W (hb:Below w.heap.size w W)=>rmessage_any r vr W (hr.keep hb) sr
 unfold MsgPost at cMm cMr
 have hPo:∀w' v1 v2 vb,MsgOwn w' v1 m→MsgOwn w' v2 r→MsgOwn w' vb r→Below w.heap.size w w'→KnownPost e v m r w (.returned (.tuple #[.agg (endA { e with known:=true,last:=m,reply:=r} { v with l:=v1,r:=v2}),.agg (msgA r vb),.int .i64 0])) w':=fun w' v1 v2 vb h1 h2 h3 hb=>⟨v1,v2,vb,rfl,h1,h2,h3,hb⟩
 generalize KnownPost e v m r w=P at*
 have uE:=Tryz.underlying32
 have uM:=Tryz.underlying30
 refine zh5 ?_ cMm cMr hPo uE uM;clear cMm cMr hPo uE uM;intro cMm cMr hPo uE uM
 clear hm hr
 obtain⟨F0,q_,J⟩:∃F:World→Prop,Stb F∧Hid (F w):=⟨_,Stb.true,trivial⟩
 go_enter Tryz.func158,Tryz.ntmps158
 have mka:Unit:=()
 go_upto_region 1 with(first|(refine q_.b I J 32 ?_;clear I J;intro g3 w1 I J)|(clear mka;refine q_.b I J 30 ?_;clear I J;intro g4 w1 I J)|(refine q_.b I J 30 ?_;clear I J;intro g5 w1 I J)|(refine q_.a I J edInfo ?_;clear I J;intro g6 w1 I J)|(refine q_.a I J msgInfo ?_;clear I J;intro g7 w1 I J)|fail)
 replace J:=Zh (q_.keep J ((Below.refl _ _).drew))
 replace I:=Zh (I.keep ((Below.refl _ _).drew))
 have HMs:=Zh I.out
 refine wp_region_plan (fun w'=>Mem _ w' _) 5 [(0,true),(2,true),(4,true),(1,false),(3,false)] (by kernel_rfl) (by kernel_rfl) HMs.out ?_
 generalize World.drew _=wd at*
 refine plTakeL (by rfl) (yw 3 uM.out) ?_
 try go_frame
 refine plTakeL (by rfl) (yw 2 uM.out) ?_
 try go_frame
 repeat(first|(refine plPure rfl rfl (by intro w_ hSw;go_simp;first|done|exact rfl) ?_;try go_frame))
 refine plStepL rfl rfl fun K hK=> ?_
 go_wp2_with(first|(go_at_call 155;refine(cMm _ I.below).mono ?_;rintro r w3 ⟨v1,rfl,hA5,p_⟩)|fail)
 refine hK _ _ (HMs.keep p_) fun hS_=> ?_
 clear hK K hS_
 try go_frame
 replace I:=Zm I p_
 replace HMs:=Zh (HMs.keep p_)
 replace J:=q_.z J p_
 clear p_
 obtain⟨F1,hFs2,hF2,hU,hNw⟩:=stb_add q_ J (Stb.msg v1 _) hA5
 clear q_ J
 have gA:=Zh hNw
 clear hNw hU
 have q_:=hFs2
 have J:=hF2
 clear hFs2 hF2 hA5
 refine plStepL rfl rfl fun K hK=> ?_
 go_wp2_with(first|(go_at_call 155;refine(cMr _ I.below).mono ?_;rintro r w3 ⟨v2,rfl,hA5,p_⟩)|fail)
 refine hK _ _ (HMs.keep p_) fun hS_=> ?_
 clear hK K hS_
 try go_frame
 replace I:=Zm I p_
 replace HMs:=Zh (HMs.keep p_)
 replace J:=q_.z J p_
 clear p_
 obtain⟨F2,hFs2,hF2,hU,hNw⟩:=stb_add q_ J (Stb.msg v2 _) hA5
 clear q_ J
 replace gA:=Zu gA hU
 have gB:=Zh hNw
 clear hNw hU
 have q_:=hFs2
 have J:=hF2
 clear hFs2 hF2 hA5
 clear HMs
 refine plDone ?_
 simp only[List.drop]
 go_upto_region 2 with(first|go_skip|(refine q_.m 4 I J 13 (endA { e with known:=true} v) ?_;clear I J;intro w4 I J;simp only[List.set]at I)|(refine q_.m 4 I J 14 (endA { e with known:=true,last:=m} { v with l:=v1}) ?_;clear I J;intro w4 I J;simp only[List.set]at I)|(refine q_.m 4 I J 21 (endA { e with known:=true,last:=m,reply:=r} { v with l:=v1,r:=v2}) ?_;clear I J;intro w4 I J;simp only[List.set]at I)|fail)
 replace J:=Zh (q_.keep J ((Below.refl _ _).drew))
 replace I:=Zh (I.keep ((Below.refl _ _).drew))
 have HMs:=Zh I.out
 refine wp_region_plan (fun w'=>Mem _ w' _) 3 [(0,true),(1,true),(2,false)] (by kernel_rfl) (by kernel_rfl) HMs.out ?_
 generalize World.drew _=wd2 at*
 refine plTakeL (by rfl) (yw 4 uE.out) ?_
 try go_frame
 refine plTakeL (by rfl) (yw 2 uM.out) ?_
 try go_frame
 refine plStepL rfl rfl fun K hK=> ?_
 go_wp2_with(first|(go_at_call 155;refine(cMr _ I.below).mono ?_;rintro r w3 ⟨vb,rfl,hA5,p_⟩)|fail)
 refine hK _ _ (HMs.keep p_) fun hS_=> ?_
 clear hK K hS_
 try go_frame
 replace I:=Zm I p_
 replace HMs:=Zh (HMs.keep p_)
 replace J:=q_.z J p_
 clear p_
 obtain⟨F3,hFs2,hF2,hU,hNw⟩:=stb_add q_ J (Stb.msg vb _) hA5
 clear q_ J
 replace gA:=Zu gA hU
 replace gB:=Zu gB hU
 have gC:=Zh hNw
 clear hNw hU
 have q_:=hFs2
 have J:=hF2
 clear hFs2 hF2 hA5
 clear HMs
 refine plDone ?_
 simp only[List.drop]
 go_wp2_with(first|go_skip|(refine q_.s 1 I J ?_;clear I J;intro w4 I J;simp only[List.set]at I)|(refine q_.s 0 I J ?_;clear I J;intro w4 I J;simp only[List.set]at I)|fail)
 try simp only[Exit.inBlock,Exit.then]
 refine rU I 1 0 uE.out uM.out ?_
 exact hPo.out _ _ _ _ (gA _ J) (gB _ J) (gC _ J) I.below
def RefusePost(e:Ed)(v:EdV)(m:Msg)(c:Int)(w:World)(x:Ending)(w':World):Prop:=x= .returned (.tuple #[.agg (endA e v),.agg (msgA (refN m c) msgV0),.int .i64 0])∧Below w.heap.size w w'
theorem rrefuse_any(e:Ed)(v:EdV)(m:Msg)(vm:MsgV)(c:Int)(w:World)(hm:MsgIs w vm m):Calls Tryz.prog 159 #[.agg (endA e v),.agg (msgA m vm),.int .i64 c] w (RefusePost e v m c w):=by
 have I:=Zh (Mem.start w)
 have cR:=fun W (hb:Below w.heap.size w W)=>rref_any m vm c W (hm.keep hb)
 unfold RefPost at cR
 have hPo:∀w',Below w.heap.size w w'→RefusePost e v m c w (.returned (.tuple #[.agg (endA e v),.agg (msgA (refN m c) msgV0),.int .i64 0])) w':=fun w' hb=>⟨rfl,hb⟩
 generalize RefusePost e v m c w=P at*
 generalize refN m c=RN at*
 generalize refC m c=RC at*
 have uE:=Tryz.underlying32
 have uM:=Tryz.underlying30
 refine zh4 ?_ cR hPo uE uM;clear cR hPo uE uM;intro cR hPo uE uM
 clear hm
 have mka:Unit:=()
 go_enter Tryz.func159,Tryz.ntmps159
 go_upto_region 1 with(first|(refine bA I 32 ?_;clear I;intro g3 w1 I hG;clear hG)|(refine bA I 30 ?_;clear I;intro g4 w1 I hG;clear hG)|(refine wpList_allocA I rfl 32 rfl (by first|exact msgInfo|exact edInfo|exact tabInfo|exact info_tcl|exact info_spt) ?_;clear I;intro g6 w1 I hG;clear hG)|(refine wpList_allocA I rfl 30 rfl (by first|exact msgInfo|exact edInfo|exact tabInfo|exact info_tcl|exact info_spt) ?_;clear I;intro g7 w1 I hG;clear hG)|fail)
 go_upto_region 2 with(first|(refine lM 2 I uM.out ?_)|(go_at_call 207;refine(cR _ I.below).mono ?_;rintro r w3 ⟨rfl,p_⟩;replace I:=Zm I p_;clear p_)|(clear mka;refine wpList_allocA I rfl 30 rfl msgInfo ?_;clear I;intro g9 w1 I hG;clear hG)|(refine sF 0 I ?_;clear I;intro w4 I hG4;simp only[List.set]at I)|fail)
 replace I:=Zh (I.keep ((Below.refl _ _).drew))
 have HMs:=Zh I.out
 replace HMs:=Zh (HMs.less 2)
 simp only[List.eraseIdx]at HMs
 refine wp_region_plan (fun w'=>Mem _ w' _) 3 [(0,true),(1,true),(2,false)] (by kernel_rfl) (by kernel_rfl) HMs.out ?_
 generalize World.drew _=wd at*
 refine plTakeL (by rfl) (yw 3 uE.out) ?_
 try go_frame
 refine plTakeL (by rfl) (yw 0 uM.out) ?_
 try go_frame
 clear HMs
 refine plStepL rfl rfl fun K hK=> ?_
 go_wp2_with(first|(refine sF 2 I ?_;clear I;intro w4 I hG4;simp only[List.set]at I)|fail)
 refine hK _ _ (I.less 2) fun hS_=> ?_
 clear hK K hS_
 try go_frame
 refine plDone ?_
 simp only[List.drop]
 go_wp2_with(first|(refine sF 1 I ?_;clear I;intro w4 I hG4;simp only[List.set]at I)|fail)
 try simp only[Exit.inBlock,Exit.then]
 refine rU I 2 1 uE.out uM.out ?_
 exact hPo.out _ I.below
theorem Mem.geAt {a w:World} {L:List (Nat×Array Value×TypeId)}(h:Mem a w L)(i:Nat) {B:Nat} {C:Array Value} {t:TypeId}(hL:L[i]? =some (B,C,t)):a.heap.size≤B:=h.ge _ (List.mem_of_getElem? hL)
theorem Mem.apart {a w:World} {L:List (Nat×Array Value×TypeId)}(h:Mem a w L)(i j:Nat) {B B2:Nat} {C C2:Array Value} {t t2:TypeId}(hL:L[i]? =some (B,C,t))(hL2:L[j]? =some (B2,C2,t2))(hij:i≠j):B≠B2:=fun e=>by
 obtain⟨hi,ei⟩:=List.getElem?_eq_some_iff.1 hL
 obtain⟨hj,ej⟩:=List.getElem?_eq_some_iff.1 hL2
 have hn:=h.nodup
 rw[List.nodup_iff_pairwise_ne,List.pairwise_iff_getElem]at hn
 have e2:(L.map (·.1))[i]'(by rw[List.length_map];exact hi)=(L.map (·.1))[j]'(by rw[List.length_map];exact hj):=by
  rw[List.getElem_map,List.getElem_map,ei,ej];exact e
 rcases Nat.lt_or_gt_of_ne hij with hlt|hlt
 ·exact hn i j (by rw[List.length_map];exact hi) (by rw[List.length_map];exact hj) hlt e2
 ·exact hn j i (by rw[List.length_map];exact hj) (by rw[List.length_map];exact hi) hlt e2.symm
theorem Mem.dropG {a w w':World} {L:List (Nat×Array Value×TypeId)}(h:Mem a w L)(i:Nat) {B:Nat} {C:Array Value} {t:TypeId}(hL:L[i]? =some (B,C,t)) {r:Option Nat}(hg:w.grownBy w' r)(hr:r=some B:=by rfl):Mem a w' (L.eraseIdx i):=by
 subst hr
 refine(h.less i).grown hg fun g e=> ?_
 injection e with e
 subst e
 refine⟨h.geAt i hL,fun x hx=> ?_⟩
 obtain⟨j,hj,hji,ej⟩:=List.mem_eraseIdx_iff_getElem.1 hx
 obtain⟨x1,x2,x3⟩:=x
 exact h.apart j i (List.getElem?_eq_some_iff.2 ⟨hj,ej⟩) hL hji
theorem Mem.sb {a w:World} {L L':List (Nat×Array Value×TypeId)}(h:Mem a w L)(hs:L'.Sublist L:=by repeat(first|exact List.Sublist.refl _|apply List.Sublist.cons)):Mem a w L':=h.sub hs
theorem app1 {ops:Array Oper} {rest:List Oper} {op:Oper} {a:Act} {w:World} {Q:Exit→Act→World→Prop} {a0:World} {L:List (Nat×Array Value×TypeId)}(i:Nat)(hM:Hid (Mem a0 w L)) {A:Option Addr} {m c:Nat} {l:List Spt}(hs:SptS w A m l)(hm:m≤1000000) {g:Nat} {s x:Operand} {T:TypeId}
 (h:∀A' c' w',Hid (w'.ownsRow a0.heap.size 97 2 (.slice A' m c') m (l.flatMap sptE))→Hid (Mem a0 w' (L.eraseIdx i))→Hid (w.grownBy w' (some g))→wpList Tryz.prog ops Q rest (a.put op.dst (.slice A' m c')) w')
 (hT:T=28:=by rfl) (hgd:op.guard=none:=by rfl) (ho:op.op= .call { callee:= .builtin .append,args:=#[s,x],argTypes:=#[T,T]}:=by rfl) (hv:a.eval s= .slice (some ⟨g,0,none⟩) 0 0:=by rfl) (hx:a.eval x= .slice A m c:=by rfl) (hL:L[i]? =some (g,#[],97):=by rfl):wpList Tryz.prog ops Q (op::rest) a w:=by
 subst hT
 refine wpList_append_sls eltS _ hgd _ _ ho a0.heap.size (.slice (some ⟨g,0,none⟩) 0 0) [] hv (own_blk (hM.at_ i hL) (hM.geAt i hL)) A m c l hx hs (by simp;omega) hM.below.size ?_
 intro v1 w6 HO HG _
 rw[List.nil_append,hs.len]at HO
 obtain⟨A2,c2,rfl⟩:=own_slice HO
 exact h A2 c2 w6 HO (hM.dropG i hL HG) HG
theorem raccO_any(q:Msg)(vq:MsgV)(count:Int)(A B:Option Addr)(n c m d:Nat)(l old:List Spt)(w:World)(h1:MsgIs w vq q)(hl:SptS w A n l)(ho:SptS w B m old)(hn:n≤100000)(hm:m≤100000):Calls Tryz.prog 157 #[.agg (msgA q vq),.int .i64 count,.slice A n c,.slice B m d] w (AccOwn q count l old w):=by
 have I:=Zh (Mem.start w)
 have cQ:=fun W (hb:Below w.heap.size w W)=>rchkM_any q vq W (h1.keep hb)
 have cA:=fun v W (hb:Below w.heap.size w W) hv=>rans_any q (accM q count l old) vq v W (h1.keep hb) hv
 rw[ansR_eq]at cA
 have J:accC q count l old=if chkM q≠0∨q.reply=true then 1 else if ansN q (accM q count l old)=false then 12 else 0:=rfl
 have hPb:∀F w',accC q count l old=F→F≠0→Below w.heap.size w w'→AccOwn q count l old w (.returned (.tuple #[.agg (Kz 7),.int .i64 F])) w':=fun F w' e1 e2 hb=>accOwn_bad e1 e2 rfl hb
 have hPo:∀v w',accC q count l old=0→MsgOwn w' v (accM q count l old)→Below w.heap.size w w'→AccOwn q count l old w (.returned (.tuple #[.agg (msgA (accM q count l old) v),.int .i64 0])) w':=fun v w' e1 hv hb=>accOwn_ok e1 rfl hv hb
 have ll:=hl.len
 have lo:=ho.len
 generalize AccOwn q count l old w=P at*
 generalize accC q count l old=F at*
 generalize chkM q=C1 at*
 generalize ansN q (accM q count l old)=AN at*
 unfold accM at*
 have uM:=Tryz.underlying30
 refine zh10 ?_ cQ cA J hPb hPo uM hl ho ll lo;clear cQ cA J hPb hPo uM hl ho ll lo;intro cQ cA J hPb hPo uM hl ho ll lo
 clear h1
 go_enter Tryz.func157,Tryz.ntmps157
 go_upto_region 1 with(first|(refine bA I 30 ?_;clear I;intro g4 w1 I hG;clear hG)|(refine wpList_allocA I rfl 30 rfl (by first|exact msgInfo|exact edInfo|exact tabInfo|exact info_tcl|exact info_spt) ?_;clear I;intro g8 w1 I hG;clear hG)|fail)
 have p1:=Zc I 1 1 (.bool q.reply)
 by_cases hC:C1=0
 case neg=>
  have hF1:=Zh (J.trans (if_pos (.inl hC)))
  have d1:(C1 !=0)=true:=by rw[bne_iff_ne];exact hC
  go_wp2_with(first|go_skip|(refine lM 1 I uM.out ?_)|(refine sF 0 I ?_;clear I;intro w4 I hG4;simp only[List.set]at I)|(go_at_call 156;refine(cQ _ I.below).mono ?_;rintro r w3 ⟨rfl,p_⟩;clear p1;replace I:=Zm I p_;clear p_;dsimp only)|fail)
  try simp only[Exit.inBlock,Exit.then]
  refine rT I 0 uM.out ?_
  exact hPb.out 1 _ hF1.out (by decide) I.below
 have d1:(C1 !=0)=false:=by rw[bne_eq_false_iff_eq];exact hC
 cases hrp:q.reply
 case true=>
  rw[hrp]at p1
  have hF1:=Zh (J.trans (if_pos (.inr hrp)))
  go_wp2_with(first|go_skip|(refine lM 1 I uM.out ?_)|(refine sF 0 I ?_;clear I;intro w4 I hG4;simp only[List.set]at I)|(go_at_call 156;refine(cQ _ I.below).mono ?_;rintro r w3 ⟨rfl,p_⟩;replace p1:=Zk I p_ 1 1 p1;replace I:=Zm I p_;clear p_;dsimp only)|fail)
  try simp only[Exit.inBlock,Exit.then]
  refine rT I 0 uM.out ?_
  exact hPb.out 1 _ hF1.out (by decide) I.below
 rw[hrp]at p1
 have hF1:=Zh (J.trans (if_neg (by rw[hrp];simp[hC])))
 clear J
 go_upto_region 3 with(first|go_skip|(refine lM 1 I uM.out ?_)|(go_at_call 156;refine(cQ _ I.below).mono ?_;rintro r w3 ⟨rfl,p_⟩;replace p1:=Zk I p_ 1 1 p1;replace I:=Zm I p_;clear p_;dsimp only)|fail)
 clear p1 d1 cQ
 go_cut[10] (fun s10 wx=>∃B v,s10= .pointer (some ⟨B,0,none⟩)∧Hid (Mem w wx [(B,msgA ⟨q.kind,true,q.number,0,count,l,old⟩ v,30),(g8,(Kz 7),30),(g4,msgA q vq,30)])∧Hid (MsgOwn wx v ⟨q.kind,true,q.number,0,count,l,old⟩))
 case first=>
  replace I:=Zh (I.keep ((Below.refl _ _).drew))
  refine wp_region_pv (fun w'=>Mem w w' _) 13 (.take 0 (.take 1 (.take 2 (.take 3 (.take 4 (.take 6 (.take 9 (.any [5,8,12] fun i=>if i=5 then(.any [7,8,12] fun i=>if i=7 then(.any [8,12] fun i=>if i=8 then(.any [10,12] fun i=>if i=10 then(.take 11 (.any [12] fun _=> .done))else(.any [10] fun _=>(.take 11 .done)))else(.any [8] fun _=>(.any [10] fun _=>(.take 11 .done))))else if i=8 then(.any [7,12] fun i=>if i=7 then(.any [10,12] fun i=>if i=10 then(.take 11 (.any [12] fun _=> .done))else(.any [10] fun _=>(.take 11 .done)))else(.any [7] fun _=>(.any [10] fun _=>(.take 11 .done))))else(.any [7,8] fun i=>if i=7 then(.any [8] fun _=>(.any [10] fun _=>(.take 11 .done)))else(.any [7] fun _=>(.any [10] fun _=>(.take 11 .done)))))else if i=8 then(.any [5,12] fun i=>if i=5 then(.any [7,12] fun i=>if i=7 then(.any [10,12] fun i=>if i=10 then(.take 11 (.any [12] fun _=> .done))else(.any [10] fun _=>(.take 11 .done)))else(.any [7] fun _=>(.any [10] fun _=>(.take 11 .done))))else(.any [5] fun _=>(.any [7] fun _=>(.any [10] fun _=>(.take 11 .done)))))else(.any [5,8] fun i=>if i=5 then(.any [7,8] fun i=>if i=7 then(.any [8] fun _=>(.any [10] fun _=>(.take 11 .done)))else(.any [7] fun _=>(.any [10] fun _=>(.take 11 .done))))else(.any [5] fun _=>(.any [7] fun _=>(.any [10] fun _=>(.take 11 .done))))))))))))) (by kernel_rfl) (by kernel_rfl) I.out ?_
  generalize World.drew _=wd at*
  refine pvPure rfl rfl (by intro w_ hSw;go_simp;first|done|exact rfl) ?_
  try go_frame
  refine pvTake (by rfl) (yc 1 0 (.int .i64 q.kind) Tryz.underlying3) ?_
  try go_frame
  refine pvPure rfl rfl (by intro w_ hSw;go_simp;first|done|exact rfl) ?_
  try go_frame
  refine pvTake (by rfl) (yc 1 2 (.int .i64 q.number) Tryz.underlying3) ?_
  try go_frame
  refine pvPure rfl rfl (by intro w_ hSw;go_simp;first|done|exact rfl) ?_
  try go_frame
  refine pvPure rfl rfl (by intro w_ hSw;go_simp;first|done|exact rfl) ?_
  try go_frame
  refine pvPure rfl rfl (by intro w_ hSw;go_simp;first|done|exact rfl) ?_
  try go_frame
  refine pvAny3 rfl rfl rfl rfl rfl rfl rfl rfl rfl (fun K hK=> ?_) (fun K hK=> ?_) (fun K hK=> ?_)
  focus go_wp2_with(refine wpList_empty I rfl rfl ?_;clear I;intro ga w1 I hG hN;clear hG hN)
  refine hK _ _ I.sb fun hS_=> ?_
  clear hK K hS_
  try go_frame
  refine pvAny3 rfl rfl rfl rfl rfl rfl rfl rfl rfl (fun K hK=> ?_) (fun K hK=> ?_) (fun K hK=> ?_)
  focus go_wp2_with(at_builtin;refine app1 0 I (hl.keep I.below) (by omega) ?_;clear I;intro A2 c2 w6 HO1 I HG1;clear HG1;simp only[List.eraseIdx]at I)
  refine hK _ _ I.sb fun hS_=> ?_
  clear hK K hS_
  try go_frame
  refine pvAny2 rfl rfl rfl rfl rfl rfl (fun K hK=> ?_) (fun K hK=> ?_)
  focus go_wp2_with(refine wpList_empty I rfl rfl ?_;clear I;intro gb w1 I hG hN;have hne:=Zh (show(Value.slice A2 n c2).ownBlock≠some gb from fun e1=>Nat.lt_irrefl _ (Nat.lt_of_lt_of_le (HO1.lt _ e1).2 hN.out));replace HO1:=Zh (owns_keep HO1.out hG.out);clear hG hN)
  refine hK _ _ I.sb fun hS_=> ?_
  clear hK K hS_
  try go_frame
  refine pvAny2 rfl rfl rfl rfl rfl rfl (fun K hK=> ?_) (fun K hK=> ?_)
  focus go_wp2_with(at_builtin;refine app1 0 I (ho.keep I.below) (by omega) ?_;clear I;intro A3 c3 w6 HO2 I HG1;replace HO1:=Zh (HO1.kept HG1.out (.inr hne.out));clear HG1;simp only[List.eraseIdx]at I)
  refine hK _ _ I.sb fun hS_=> ?_
  clear hK K hS_
  try go_frame
  refine pvPure rfl rfl (by intro w_ hSw;go_simp;first|done|exact rfl) ?_
  try go_frame
  refine pvAny1 rfl rfl rfl (fun K hK=> ?_)
  focus go_wp2_with(refine aN I msgInfo ?_;clear I;intro gm w1 I hG hN;replace HO1:=Zh (owns_keep HO1.out hG.out);replace HO2:=Zh (owns_keep HO2.out hG.out);clear hG hN)
  refine hK _ _ I.sb fun hS_=> ?_
  clear hK K hS_
  try go_frame
  rotate_left
  focus go_wp2_with(refine aN I msgInfo ?_;clear I;intro gm w1 I hG hN;replace HO1:=Zh (owns_keep HO1.out hG.out);clear hG hN)
  refine hK _ _ I.sb fun hS_=> ?_
  clear hK K hS_
  try go_frame
  refine pvAny1 rfl rfl rfl (fun K hK=> ?_)
  focus go_wp2_with(at_builtin;refine app1 1 I (ho.keep I.below) (by omega) ?_;clear I;intro A3 c3 w6 HO2 I HG1;replace HO1:=Zh (HO1.kept HG1.out (.inr hne.out));clear HG1;simp only[List.eraseIdx]at I)
  refine hK _ _ I.sb fun hS_=> ?_
  clear hK K hS_
  try go_frame
  refine pvPure rfl rfl (by intro w_ hSw;go_simp;first|done|exact rfl) ?_
  try go_frame
  rotate_left
  focus go_wp2_with(refine aN I msgInfo ?_;clear I;intro gm w1 I hG hN;replace HO1:=Zh (owns_keep HO1.out hG.out);clear hG hN)
  refine hK _ _ I.sb fun hS_=> ?_
  clear hK K hS_
  try go_frame
  refine pvAny1 rfl rfl rfl (fun K hK=> ?_)
  focus go_wp2_with(refine wpList_empty I rfl rfl ?_;clear I;intro gb w1 I hG hN;have hne:=Zh (show(Value.slice A2 n c2).ownBlock≠some gb from fun e1=>Nat.lt_irrefl _ (Nat.lt_of_lt_of_le (HO1.lt _ e1).2 hN.out));replace HO1:=Zh (owns_keep HO1.out hG.out);clear hG hN)
  refine hK _ _ I.sb fun hS_=> ?_
  clear hK K hS_
  try go_frame
  refine pvAny1 rfl rfl rfl (fun K hK=> ?_)
  focus go_wp2_with(at_builtin;refine app1 0 I (ho.keep I.below) (by omega) ?_;clear I;intro A3 c3 w6 HO2 I HG1;replace HO1:=Zh (HO1.kept HG1.out (.inr hne.out));clear HG1;simp only[List.eraseIdx]at I)
  refine hK _ _ I.sb fun hS_=> ?_
  clear hK K hS_
  try go_frame
  refine pvPure rfl rfl (by intro w_ hSw;go_simp;first|done|exact rfl) ?_
  try go_frame
  rotate_left
  focus go_wp2_with(refine wpList_empty I rfl rfl ?_;clear I;intro gb w1 I hG hN;clear hG hN)
  refine hK _ _ I.sb fun hS_=> ?_
  clear hK K hS_
  try go_frame
  refine pvAny2 rfl rfl rfl rfl rfl rfl (fun K hK=> ?_) (fun K hK=> ?_)
  focus go_wp2_with(first|(at_builtin;refine wpList_append_sls eltS _ rfl _ _ rfl w.heap.size (.slice (some ⟨ga,0,none⟩) 0 0) [] rfl (own_blk (I.at_ 1 rfl) (I.geAt 1 rfl)) _ n c l rfl (hl.keep I.below) (by simp;omega) I.below.size ?_;intro v1 w6 HO1 HG1 hB1;rw[List.nil_append,ll.out]at HO1;obtain⟨A2,c2,rfl⟩:=own_slice HO1;have hne:=Zh (show(Value.slice A2 n c2).ownBlock≠some gb from fun e1=>by rcases hB1 with hB1|hB1;exact I.apart 1 0 rfl rfl (by decide) (by rw[hB1]at e1;exact(Option.some.inj e1));exact Nat.lt_irrefl _ (by have h9:=(I.at_ 0 rfl).lt;rw[hB1]at e1;rw[←Option.some.inj e1]at h9;exact h9));replace HO1:=Zh HO1;have HM2:=Zh (I.dropG 1 rfl HG1);clear I HG1 hB1;have I:=HM2;clear HM2;simp only[List.eraseIdx]at I)|fail)
  refine hK _ _ I.sb fun hS_=> ?_
  clear hK K hS_
  try go_frame
  refine pvAny2 rfl rfl rfl rfl rfl rfl (fun K hK=> ?_) (fun K hK=> ?_)
  focus go_wp2_with(at_builtin;refine app1 0 I (ho.keep I.below) (by omega) ?_;clear I;intro A3 c3 w6 HO2 I HG1;replace HO1:=Zh (HO1.kept HG1.out (.inr hne.out));clear HG1;simp only[List.eraseIdx]at I)
  refine hK _ _ I.sb fun hS_=> ?_
  clear hK K hS_
  try go_frame
  refine pvPure rfl rfl (by intro w_ hSw;go_simp;first|done|exact rfl) ?_
  try go_frame
  refine pvAny1 rfl rfl rfl (fun K hK=> ?_)
  focus go_wp2_with(refine aN I msgInfo ?_;clear I;intro gm w1 I hG hN;replace HO1:=Zh (owns_keep HO1.out hG.out);replace HO2:=Zh (owns_keep HO2.out hG.out);clear hG hN)
  refine hK _ _ I.sb fun hS_=> ?_
  clear hK K hS_
  try go_frame
  rotate_left
  focus go_wp2_with(refine aN I msgInfo ?_;clear I;intro gm w1 I hG hN;replace HO1:=Zh (owns_keep HO1.out hG.out);clear hG hN)
  refine hK _ _ I.sb fun hS_=> ?_
  clear hK K hS_
  try go_frame
  refine pvAny1 rfl rfl rfl (fun K hK=> ?_)
  focus go_wp2_with(at_builtin;refine app1 1 I (ho.keep I.below) (by omega) ?_;clear I;intro A3 c3 w6 HO2 I HG1;replace HO1:=Zh (HO1.kept HG1.out (.inr hne.out));clear HG1;simp only[List.eraseIdx]at I)
  refine hK _ _ I.sb fun hS_=> ?_
  clear hK K hS_
  try go_frame
  refine pvPure rfl rfl (by intro w_ hSw;go_simp;first|done|exact rfl) ?_
  try go_frame
  rotate_left
  focus go_wp2_with(refine aN I msgInfo ?_;clear I;intro gm w1 I hG hN;clear hG hN)
  refine hK _ _ I.sb fun hS_=> ?_
  clear hK K hS_
  try go_frame
  refine pvAny1 rfl rfl rfl (fun K hK=> ?_)
  focus go_wp2_with(first|(at_builtin;refine wpList_append_sls eltS _ rfl _ _ rfl w.heap.size (.slice (some ⟨ga,0,none⟩) 0 0) [] rfl (own_blk (I.at_ 2 rfl) (I.geAt 2 rfl)) _ n c l rfl (hl.keep I.below) (by simp;omega) I.below.size ?_;intro v1 w6 HO1 HG1 hB1;rw[List.nil_append,ll.out]at HO1;obtain⟨A2,c2,rfl⟩:=own_slice HO1;have hne:=Zh (show(Value.slice A2 n c2).ownBlock≠some gb from fun e1=>by rcases hB1 with hB1|hB1;exact I.apart 2 1 rfl rfl (by decide) (by rw[hB1]at e1;exact(Option.some.inj e1));exact Nat.lt_irrefl _ (by have h9:=(I.at_ 1 rfl).lt;rw[hB1]at e1;rw[←Option.some.inj e1]at h9;exact h9));replace HO1:=Zh HO1;have HM2:=Zh (I.dropG 2 rfl HG1);clear I HG1 hB1;have I:=HM2;clear HM2;simp only[List.eraseIdx]at I)|fail)
  refine hK _ _ I.sb fun hS_=> ?_
  clear hK K hS_
  try go_frame
  refine pvAny1 rfl rfl rfl (fun K hK=> ?_)
  focus go_wp2_with(at_builtin;refine app1 1 I (ho.keep I.below) (by omega) ?_;clear I;intro A3 c3 w6 HO2 I HG1;replace HO1:=Zh (HO1.kept HG1.out (.inr hne.out));clear HG1;simp only[List.eraseIdx]at I)
  refine hK _ _ I.sb fun hS_=> ?_
  clear hK K hS_
  try go_frame
  refine pvPure rfl rfl (by intro w_ hSw;go_simp;first|done|exact rfl) ?_
  try go_frame
  rotate_left
  focus go_wp2_with(refine aN I msgInfo ?_;clear I;intro gm w1 I hG hN;clear hG hN)
  refine hK _ _ I.sb fun hS_=> ?_
  clear hK K hS_
  try go_frame
  refine pvAny2 rfl rfl rfl rfl rfl rfl (fun K hK=> ?_) (fun K hK=> ?_)
  focus go_wp2_with(at_builtin;refine app1 1 I (hl.keep I.below) (by omega) ?_;clear I;intro A2 c2 w6 HO1 I HG1;clear HG1;simp only[List.eraseIdx]at I)
  refine hK _ _ I.sb fun hS_=> ?_
  clear hK K hS_
  try go_frame
  refine pvAny1 rfl rfl rfl (fun K hK=> ?_)
  focus go_wp2_with(refine wpList_empty I rfl rfl ?_;clear I;intro gb w1 I hG hN;have hne:=Zh (show(Value.slice A2 n c2).ownBlock≠some gb from fun e1=>Nat.lt_irrefl _ (Nat.lt_of_lt_of_le (HO1.lt _ e1).2 hN.out));replace HO1:=Zh (owns_keep HO1.out hG.out);clear hG hN)
  refine hK _ _ I.sb fun hS_=> ?_
  clear hK K hS_
  try go_frame
  refine pvAny1 rfl rfl rfl (fun K hK=> ?_)
  focus go_wp2_with(at_builtin;refine app1 0 I (ho.keep I.below) (by omega) ?_;clear I;intro A3 c3 w6 HO2 I HG1;replace HO1:=Zh (HO1.kept HG1.out (.inr hne.out));clear HG1;simp only[List.eraseIdx]at I)
  refine hK _ _ I.sb fun hS_=> ?_
  clear hK K hS_
  try go_frame
  refine pvPure rfl rfl (by intro w_ hSw;go_simp;first|done|exact rfl) ?_
  try go_frame
  rotate_left
  focus go_wp2_with(refine wpList_empty I rfl rfl ?_;clear I;intro gb w1 I hG hN;clear hG hN)
  refine hK _ _ I.sb fun hS_=> ?_
  clear hK K hS_
  try go_frame
  refine pvAny1 rfl rfl rfl (fun K hK=> ?_)
  focus go_wp2_with(first|(at_builtin;refine wpList_append_sls eltS _ rfl _ _ rfl w.heap.size (.slice (some ⟨ga,0,none⟩) 0 0) [] rfl (own_blk (I.at_ 2 rfl) (I.geAt 2 rfl)) _ n c l rfl (hl.keep I.below) (by simp;omega) I.below.size ?_;intro v1 w6 HO1 HG1 hB1;rw[List.nil_append,ll.out]at HO1;obtain⟨A2,c2,rfl⟩:=own_slice HO1;have hne:=Zh (show(Value.slice A2 n c2).ownBlock≠some gb from fun e1=>by rcases hB1 with hB1|hB1;exact I.apart 2 0 rfl rfl (by decide) (by rw[hB1]at e1;exact(Option.some.inj e1));exact Nat.lt_irrefl _ (by have h9:=(I.at_ 0 rfl).lt;rw[hB1]at e1;rw[←Option.some.inj e1]at h9;exact h9));replace HO1:=Zh HO1;have HM2:=Zh (I.dropG 2 rfl HG1);clear I HG1 hB1;have I:=HM2;clear HM2;simp only[List.eraseIdx]at I)|fail)
  refine hK _ _ I.sb fun hS_=> ?_
  clear hK K hS_
  try go_frame
  refine pvAny1 rfl rfl rfl (fun K hK=> ?_)
  focus go_wp2_with(at_builtin;refine app1 0 I (ho.keep I.below) (by omega) ?_;clear I;intro A3 c3 w6 HO2 I HG1;replace HO1:=Zh (HO1.kept HG1.out (.inr hne.out));clear HG1;simp only[List.eraseIdx]at I)
  refine hK _ _ I.sb fun hS_=> ?_
  clear hK K hS_
  try go_frame
  refine pvPure rfl rfl (by intro w_ hSw;go_simp;first|done|exact rfl) ?_
  try go_frame
  rotate_left
  focus go_wp2_with(refine wpList_empty I rfl rfl ?_;clear I;intro gb w1 I hG hN;clear hG hN)
  refine hK _ _ I.sb fun hS_=> ?_
  clear hK K hS_
  try go_frame
  refine pvAny2 rfl rfl rfl rfl rfl rfl (fun K hK=> ?_) (fun K hK=> ?_)
  focus go_wp2_with(refine wpList_empty I rfl rfl ?_;clear I;intro ga w1 I hG hN;clear hG hN)
  refine hK _ _ I.sb fun hS_=> ?_
  clear hK K hS_
  try go_frame
  refine pvAny2 rfl rfl rfl rfl rfl rfl (fun K hK=> ?_) (fun K hK=> ?_)
  focus go_wp2_with(first|(at_builtin;refine wpList_append_sls eltS _ rfl _ _ rfl w.heap.size (.slice (some ⟨ga,0,none⟩) 0 0) [] rfl (own_blk (I.at_ 0 rfl) (I.geAt 0 rfl)) _ n c l rfl (hl.keep I.below) (by simp;omega) I.below.size ?_;intro v1 w6 HO1 HG1 hB1;rw[List.nil_append,ll.out]at HO1;obtain⟨A2,c2,rfl⟩:=own_slice HO1;have hne:=Zh (show(Value.slice A2 n c2).ownBlock≠some gb from fun e1=>by rcases hB1 with hB1|hB1;exact I.apart 0 1 rfl rfl (by decide) (by rw[hB1]at e1;exact(Option.some.inj e1));exact Nat.lt_irrefl _ (by have h9:=(I.at_ 1 rfl).lt;rw[hB1]at e1;rw[←Option.some.inj e1]at h9;exact h9));replace HO1:=Zh HO1;have HM2:=Zh (I.dropG 0 rfl HG1);clear I HG1 hB1;have I:=HM2;clear HM2;simp only[List.eraseIdx]at I)|fail)
  refine hK _ _ I.sb fun hS_=> ?_
  clear hK K hS_
  try go_frame
  refine pvAny2 rfl rfl rfl rfl rfl rfl (fun K hK=> ?_) (fun K hK=> ?_)
  focus go_wp2_with(at_builtin;refine app1 0 I (ho.keep I.below) (by omega) ?_;clear I;intro A3 c3 w6 HO2 I HG1;replace HO1:=Zh (HO1.kept HG1.out (.inr hne.out));clear HG1;simp only[List.eraseIdx]at I)
  refine hK _ _ I.sb fun hS_=> ?_
  clear hK K hS_
  try go_frame
  refine pvPure rfl rfl (by intro w_ hSw;go_simp;first|done|exact rfl) ?_
  try go_frame
  refine pvAny1 rfl rfl rfl (fun K hK=> ?_)
  focus go_wp2_with(refine aN I msgInfo ?_;clear I;intro gm w1 I hG hN;replace HO1:=Zh (owns_keep HO1.out hG.out);replace HO2:=Zh (owns_keep HO2.out hG.out);clear hG hN)
  refine hK _ _ I.sb fun hS_=> ?_
  clear hK K hS_
  try go_frame
  rotate_left
  focus go_wp2_with(refine aN I msgInfo ?_;clear I;intro gm w1 I hG hN;replace HO1:=Zh (owns_keep HO1.out hG.out);clear hG hN)
  refine hK _ _ I.sb fun hS_=> ?_
  clear hK K hS_
  try go_frame
  refine pvAny1 rfl rfl rfl (fun K hK=> ?_)
  focus go_wp2_with(at_builtin;refine app1 1 I (ho.keep I.below) (by omega) ?_;clear I;intro A3 c3 w6 HO2 I HG1;replace HO1:=Zh (HO1.kept HG1.out (.inr hne.out));clear HG1;simp only[List.eraseIdx]at I)
  refine hK _ _ I.sb fun hS_=> ?_
  clear hK K hS_
  try go_frame
  refine pvPure rfl rfl (by intro w_ hSw;go_simp;first|done|exact rfl) ?_
  try go_frame
  rotate_left
  focus go_wp2_with(refine aN I msgInfo ?_;clear I;intro gm w1 I hG hN;clear hG hN)
  refine hK _ _ I.sb fun hS_=> ?_
  clear hK K hS_
  try go_frame
  refine pvAny1 rfl rfl rfl (fun K hK=> ?_)
  focus go_wp2_with(first|(at_builtin;refine wpList_append_sls eltS _ rfl _ _ rfl w.heap.size (.slice (some ⟨ga,0,none⟩) 0 0) [] rfl (own_blk (I.at_ 1 rfl) (I.geAt 1 rfl)) _ n c l rfl (hl.keep I.below) (by simp;omega) I.below.size ?_;intro v1 w6 HO1 HG1 hB1;rw[List.nil_append,ll.out]at HO1;obtain⟨A2,c2,rfl⟩:=own_slice HO1;have hne:=Zh (show(Value.slice A2 n c2).ownBlock≠some gb from fun e1=>by rcases hB1 with hB1|hB1;exact I.apart 1 2 rfl rfl (by decide) (by rw[hB1]at e1;exact(Option.some.inj e1));exact Nat.lt_irrefl _ (by have h9:=(I.at_ 2 rfl).lt;rw[hB1]at e1;rw[←Option.some.inj e1]at h9;exact h9));replace HO1:=Zh HO1;have HM2:=Zh (I.dropG 1 rfl HG1);clear I HG1 hB1;have I:=HM2;clear HM2;simp only[List.eraseIdx]at I)|fail)
  refine hK _ _ I.sb fun hS_=> ?_
  clear hK K hS_
  try go_frame
  refine pvAny1 rfl rfl rfl (fun K hK=> ?_)
  focus go_wp2_with(at_builtin;refine app1 1 I (ho.keep I.below) (by omega) ?_;clear I;intro A3 c3 w6 HO2 I HG1;replace HO1:=Zh (HO1.kept HG1.out (.inr hne.out));clear HG1;simp only[List.eraseIdx]at I)
  refine hK _ _ I.sb fun hS_=> ?_
  clear hK K hS_
  try go_frame
  refine pvPure rfl rfl (by intro w_ hSw;go_simp;first|done|exact rfl) ?_
  try go_frame
  rotate_left
  focus go_wp2_with(refine aN I msgInfo ?_;clear I;intro gm w1 I hG hN;clear hG hN)
  refine hK _ _ I.sb fun hS_=> ?_
  clear hK K hS_
  try go_frame
  refine pvAny1 rfl rfl rfl (fun K hK=> ?_)
  focus go_wp2_with(refine wpList_empty I rfl rfl ?_;clear I;intro ga w1 I hG hN;clear hG hN)
  refine hK _ _ I.sb fun hS_=> ?_
  clear hK K hS_
  try go_frame
  refine pvAny1 rfl rfl rfl (fun K hK=> ?_)
  focus go_wp2_with(first|(at_builtin;refine wpList_append_sls eltS _ rfl _ _ rfl w.heap.size (.slice (some ⟨ga,0,none⟩) 0 0) [] rfl (own_blk (I.at_ 0 rfl) (I.geAt 0 rfl)) _ n c l rfl (hl.keep I.below) (by simp;omega) I.below.size ?_;intro v1 w6 HO1 HG1 hB1;rw[List.nil_append,ll.out]at HO1;obtain⟨A2,c2,rfl⟩:=own_slice HO1;have hne:=Zh (show(Value.slice A2 n c2).ownBlock≠some gb from fun e1=>by rcases hB1 with hB1|hB1;exact I.apart 0 2 rfl rfl (by decide) (by rw[hB1]at e1;exact(Option.some.inj e1));exact Nat.lt_irrefl _ (by have h9:=(I.at_ 2 rfl).lt;rw[hB1]at e1;rw[←Option.some.inj e1]at h9;exact h9));replace HO1:=Zh HO1;have HM2:=Zh (I.dropG 0 rfl HG1);clear I HG1 hB1;have I:=HM2;clear HM2;simp only[List.eraseIdx]at I)|fail)
  refine hK _ _ I.sb fun hS_=> ?_
  clear hK K hS_
  try go_frame
  refine pvAny1 rfl rfl rfl (fun K hK=> ?_)
  focus go_wp2_with(at_builtin;refine app1 1 I (ho.keep I.below) (by omega) ?_;clear I;intro A3 c3 w6 HO2 I HG1;replace HO1:=Zh (HO1.kept HG1.out (.inr hne.out));clear HG1;simp only[List.eraseIdx]at I)
  refine hK _ _ I.sb fun hS_=> ?_
  clear hK K hS_
  try go_frame
  refine pvPure rfl rfl (by intro w_ hSw;go_simp;first|done|exact rfl) ?_
  try go_frame
  rotate_left
  focus go_wp2_with(refine aN I msgInfo ?_;clear I;intro gm w1 I hG hN;clear hG hN)
  refine hK _ _ I.sb fun hS_=> ?_
  clear hK K hS_
  try go_frame
  refine pvAny2 rfl rfl rfl rfl rfl rfl (fun K hK=> ?_) (fun K hK=> ?_)
  focus go_wp2_with(refine wpList_empty I rfl rfl ?_;clear I;intro ga w1 I hG hN;clear hG hN)
  refine hK _ _ I.sb fun hS_=> ?_
  clear hK K hS_
  try go_frame
  refine pvAny2 rfl rfl rfl rfl rfl rfl (fun K hK=> ?_) (fun K hK=> ?_)
  focus go_wp2_with(at_builtin;refine app1 0 I (hl.keep I.below) (by omega) ?_;clear I;intro A2 c2 w6 HO1 I HG1;clear HG1;simp only[List.eraseIdx]at I)
  refine hK _ _ I.sb fun hS_=> ?_
  clear hK K hS_
  try go_frame
  refine pvAny1 rfl rfl rfl (fun K hK=> ?_)
  focus go_wp2_with(refine wpList_empty I rfl rfl ?_;clear I;intro gb w1 I hG hN;have hne:=Zh (show(Value.slice A2 n c2).ownBlock≠some gb from fun e1=>Nat.lt_irrefl _ (Nat.lt_of_lt_of_le (HO1.lt _ e1).2 hN.out));replace HO1:=Zh (owns_keep HO1.out hG.out);clear hG hN)
  refine hK _ _ I.sb fun hS_=> ?_
  clear hK K hS_
  try go_frame
  refine pvAny1 rfl rfl rfl (fun K hK=> ?_)
  focus go_wp2_with(at_builtin;refine app1 0 I (ho.keep I.below) (by omega) ?_;clear I;intro A3 c3 w6 HO2 I HG1;replace HO1:=Zh (HO1.kept HG1.out (.inr hne.out));clear HG1;simp only[List.eraseIdx]at I)
  refine hK _ _ I.sb fun hS_=> ?_
  clear hK K hS_
  try go_frame
  refine pvPure rfl rfl (by intro w_ hSw;go_simp;first|done|exact rfl) ?_
  try go_frame
  rotate_left
  focus go_wp2_with(refine wpList_empty I rfl rfl ?_;clear I;intro gb w1 I hG hN;clear hG hN)
  refine hK _ _ I.sb fun hS_=> ?_
  clear hK K hS_
  try go_frame
  refine pvAny1 rfl rfl rfl (fun K hK=> ?_)
  focus go_wp2_with(first|(at_builtin;refine wpList_append_sls eltS _ rfl _ _ rfl w.heap.size (.slice (some ⟨ga,0,none⟩) 0 0) [] rfl (own_blk (I.at_ 1 rfl) (I.geAt 1 rfl)) _ n c l rfl (hl.keep I.below) (by simp;omega) I.below.size ?_;intro v1 w6 HO1 HG1 hB1;rw[List.nil_append,ll.out]at HO1;obtain⟨A2,c2,rfl⟩:=own_slice HO1;have hne:=Zh (show(Value.slice A2 n c2).ownBlock≠some gb from fun e1=>by rcases hB1 with hB1|hB1;exact I.apart 1 0 rfl rfl (by decide) (by rw[hB1]at e1;exact(Option.some.inj e1));exact Nat.lt_irrefl _ (by have h9:=(I.at_ 0 rfl).lt;rw[hB1]at e1;rw[←Option.some.inj e1]at h9;exact h9));replace HO1:=Zh HO1;have HM2:=Zh (I.dropG 1 rfl HG1);clear I HG1 hB1;have I:=HM2;clear HM2;simp only[List.eraseIdx]at I)|fail)
  refine hK _ _ I.sb fun hS_=> ?_
  clear hK K hS_
  try go_frame
  refine pvAny1 rfl rfl rfl (fun K hK=> ?_)
  focus go_wp2_with(at_builtin;refine app1 0 I (ho.keep I.below) (by omega) ?_;clear I;intro A3 c3 w6 HO2 I HG1;replace HO1:=Zh (HO1.kept HG1.out (.inr hne.out));clear HG1;simp only[List.eraseIdx]at I)
  refine hK _ _ I.sb fun hS_=> ?_
  clear hK K hS_
  try go_frame
  refine pvPure rfl rfl (by intro w_ hSw;go_simp;first|done|exact rfl) ?_
  try go_frame
  rotate_left
  focus go_wp2_with(refine wpList_empty I rfl rfl ?_;clear I;intro gb w1 I hG hN;clear hG hN)
  refine hK _ _ I.sb fun hS_=> ?_
  clear hK K hS_
  try go_frame
  refine pvAny1 rfl rfl rfl (fun K hK=> ?_)
  focus go_wp2_with(refine wpList_empty I rfl rfl ?_;clear I;intro ga w1 I hG hN;clear hG hN)
  refine hK _ _ I.sb fun hS_=> ?_
  clear hK K hS_
  try go_frame
  refine pvAny1 rfl rfl rfl (fun K hK=> ?_)
  focus go_wp2_with(first|(at_builtin;refine wpList_append_sls eltS _ rfl _ _ rfl w.heap.size (.slice (some ⟨ga,0,none⟩) 0 0) [] rfl (own_blk (I.at_ 0 rfl) (I.geAt 0 rfl)) _ n c l rfl (hl.keep I.below) (by simp;omega) I.below.size ?_;intro v1 w6 HO1 HG1 hB1;rw[List.nil_append,ll.out]at HO1;obtain⟨A2,c2,rfl⟩:=own_slice HO1;have hne:=Zh (show(Value.slice A2 n c2).ownBlock≠some gb from fun e1=>by rcases hB1 with hB1|hB1;exact I.apart 0 1 rfl rfl (by decide) (by rw[hB1]at e1;exact(Option.some.inj e1));exact Nat.lt_irrefl _ (by have h9:=(I.at_ 1 rfl).lt;rw[hB1]at e1;rw[←Option.some.inj e1]at h9;exact h9));replace HO1:=Zh HO1;have HM2:=Zh (I.dropG 0 rfl HG1);clear I HG1 hB1;have I:=HM2;clear HM2;simp only[List.eraseIdx]at I)|fail)
  refine hK _ _ I.sb fun hS_=> ?_
  clear hK K hS_
  try go_frame
  refine pvAny1 rfl rfl rfl (fun K hK=> ?_)
  focus go_wp2_with(at_builtin;refine app1 0 I (ho.keep I.below) (by omega) ?_;clear I;intro A3 c3 w6 HO2 I HG1;replace HO1:=Zh (HO1.kept HG1.out (.inr hne.out));clear HG1;simp only[List.eraseIdx]at I)
  refine hK _ _ I.sb fun hS_=> ?_
  clear hK K hS_
  try go_frame
  refine pvPure rfl rfl (by intro w_ hSw;go_simp;first|done|exact rfl) ?_
  try go_frame
  all_goals
   refine pvDone ?_
   simp only[List.drop]
   have hBm:=Zh (I.at_ 0 rfl)
   go_wp2_with(first|(refine sF 0 I ?_;clear I;intro w4 I hG4;simp only[List.set]at I)|fail)
   go_meet
   exact⟨gm,⟨A2,n,c2,A3,m,c3⟩,rfl,I,⟨⟨_,HO1.kept hG4.out (.inr (row_ne_blk HO1.out hBm.out (by decide)))⟩,⟨_,HO2.kept hG4.out (.inr (row_ne_blk HO2.out hBm.out (by decide)))⟩,ll.out,lo.out⟩⟩
 case rest=>
  obtain⟨B,v,rfl,HM2,hv⟩:=hcut
  clear I
  have I:=HM2
  clear HM2
  have cA2:=Zh (cA v _ I.below hv.is)
  clear cA
  cases AN
  case false=>
   have hF2:=Zh (hF1.trans (if_pos rfl))
   go_wp2_with(first|(refine lM 2 I uM.out ?_)|(refine lM 0 I uM.out ?_)|(refine sF 1 I ?_;clear I;intro w4 I hG4;simp only[List.set]at I)|(go_at_call 165;refine cA2.mono ?_;rintro r w3 ⟨rfl,p_⟩;replace I:=Zm I p_;clear p_;dsimp only)|fail)
   try simp only[Exit.inBlock,Exit.then]
   refine rT I 1 uM.out ?_
   exact hPb.out 12 _ hF2.out (by decide) I.below
  have hF2:=Zh (hF1.trans (if_neg (by decide)))
  go_wp2_with(first|(refine lM 2 I uM.out ?_)|(refine lM 0 I uM.out ?_)|(have hBm:=Zh (I.at_ 1 rfl);(refine sF 1 I ?_;clear I;intro w4 I hG4;simp only[List.set]at I);replace hv:=Zh (hv.put hBm.out (by decide) hG4.out);clear hBm)|(go_at_call 165;refine cA2.mono ?_;rintro r w3 ⟨rfl,p_⟩;replace I:=Zm I p_;replace hv:=Zh (hv.keep p_);clear p_;dsimp only)|fail)
  try simp only[Exit.inBlock,Exit.then]
  refine rT I 1 uM.out ?_
  exact hPo.out _ _ hF2.out hv.out I.below
end Tx
end Go.Proofs.YtfamifgchgolpaaGreat
