/- Chapter 26: an answer, and its methods: the program's. -/
import Derived.Test.YtfamifgchgolpaaGreatBp
set_option linter.unusedVariables false
set_option linter.unusedSimpArgs false
set_option maxRecDepth 100000
set_option maxHeartbeats 2000000
namespace Go.Proofs.YtfamifgchgolpaaGreat
open Go Go.RowKit Go.Sort Go.Shelf Go.Maps
namespace Tx
open Sw Mm Pl
structure Ans where
 e:Ed
 m:Msg
 us:List Spt
 count:Int
 spots:List Spt
 moved:List Spt
structure AnsV where
 e:EdV
 m:MsgV
 uA:Option Addr
 un:Nat
 uc:Nat
 sA:Option Addr
 sn:Nat
 sc:Nat
 oA:Option Addr
 on:Nat
 oc:Nat
def ansA(x:Ans)(v:AnsV):Array Value:=#[.int .i64 x.e.node,.int .i64 x.e.peer,.int .i64 x.e.number,.slice v.e.cA v.e.cn v.e.cc,.bool x.e.opn,.int .i64 x.e.since,.int .i64 x.e.asked.kind,.bool x.e.asked.reply,.int .i64 x.e.asked.number,.int .i64 x.e.asked.code,.int .i64 x.e.asked.count,.slice v.e.a.sA v.e.a.sn v.e.a.sc,.slice v.e.a.oA v.e.a.on v.e.a.oc,.bool x.e.known,.int .i64 x.e.last.kind,.bool x.e.last.reply,.int .i64 x.e.last.number,.int .i64 x.e.last.code,.int .i64 x.e.last.count,.slice v.e.l.sA v.e.l.sn v.e.l.sc,.slice v.e.l.oA v.e.l.on v.e.l.oc,.int .i64 x.e.reply.kind,.bool x.e.reply.reply,.int .i64 x.e.reply.number,.int .i64 x.e.reply.code,.int .i64 x.e.reply.count,.slice v.e.r.sA v.e.r.sn v.e.r.sc,.slice v.e.r.oA v.e.r.on v.e.r.oc,.int .i64 x.m.kind,.bool x.m.reply,.int .i64 x.m.number,.int .i64 x.m.code,.int .i64 x.m.count,.slice v.m.sA v.m.sn v.m.sc,.slice v.m.oA v.m.on v.m.oc,.slice v.uA v.un v.uc,.int .i64 x.count,.slice v.sA v.sn v.sc,.slice v.oA v.on v.oc]
structure PreS(w:World)(A:Option Addr)(n c:Nat)(xs:List Spt):Prop where
 row:∃(b m:Nat) (ys:List Spt),w.ownsRow b 97 2 (.slice A m c) m (ys.flatMap sptE)∧ys.length=m∧n≤m∧xs=ys.take n
theorem PreS.keep {w w':World} {A:Option Addr} {n c:Nat} {xs:List Spt}(h:PreS w A n c xs)(hb:Below w.heap.size w w'):PreS w' A n c xs:=by
 obtain⟨b,m,ys,h1,h2⟩:=h.row
 exact⟨b,m,ys,owns_keep h1 hb,h2⟩
theorem PreS.put {w w':World} {A:Option Addr} {n c:Nat} {xs:List Spt}(h:PreS w A n c xs) {B:Nat} {C:Array Value} {t:TypeId}(hB:Blk w B C t)(ht:t≠97)(hg:w.grownBy w' (some B)):PreS w' A n c xs:=by
 obtain⟨b,m,ys,h1,h2⟩:=h.row
 exact⟨b,m,ys,h1.kept hg (.inr (row_ne_blk h1 hB ht.symm)),h2⟩
theorem PreS.is {w:World} {A:Option Addr} {n c:Nat} {xs:List Spt}(h:PreS w A n c xs):SptS w A n xs:=by
 obtain⟨b,m,ys,h1,h2,h3,rfl⟩:=h.row
 exact((Sls.of_owns sptE_len h1 h2).2).take h3
theorem PreS.cap {w:World} {A:Option Addr} {n c:Nat} {xs:List Spt}(h:PreS w A n c xs):n≤c:=by
 obtain⟨b,m,ys,h1,h2,h3,rfl⟩:=h.row
 have:=own_cap h1
 omega
theorem PreS.take {w:World} {A:Option Addr} {n c k:Nat} {xs:List Spt}(h:PreS w A n c xs)(hk:k≤n):PreS w A k c (xs.take k):=by
 obtain⟨b,m,ys,h1,h2,h3,rfl⟩:=h.row
 exact⟨b,m,ys,h1,h2,by omega,by rw[List.take_take,Nat.min_eq_left hk]⟩
theorem PreS.of_own {w:World} {A:Option Addr} {n c b:Nat} {xs:List Spt}(h:w.ownsRow b 97 2 (.slice A n c) n (xs.flatMap sptE)):PreS w A n c xs:=by
 have hl:=own_len sptE_len (by decide) h
 exact⟨b,n,xs,h,hl,Nat.le_refl _,by rw[List.take_of_length_le (by omega)]⟩
theorem PreS.nil(w:World):PreS w none 0 0 []:=PreS.of_own (b:=0) (World.ownsRow_nil _ _ _ _)
structure AnsS(w:World)(v:AnsV)(x:Ans):Prop where
 e:EdOwn w v.e x.e
 m:MsgOwn w v.m x.m
 us:PreS w v.uA v.un v.uc x.us
 spots:PreS w v.sA v.sn v.sc x.spots
 moved:PreS w v.oA v.on v.oc x.moved
theorem AnsS.keep {w w':World} {v:AnsV} {x:Ans}(h:AnsS w v x)(hb:Below w.heap.size w w'):AnsS w' v x:=⟨h.e.keep hb,h.m.keep hb,h.us.keep hb,h.spots.keep hb,h.moved.keep hb⟩
theorem AnsS.put {w w':World} {v:AnsV} {x:Ans}(h:AnsS w v x) {B:Nat} {C:Array Value}(hB:Blk w B C 110)(hg:w.grownBy w' (some B)):AnsS w' v x:=⟨h.e.put hB (by decide) (by decide) hg,h.m.put hB (by decide) hg,h.us.put hB (by decide) hg,h.spots.put hB (by decide) hg,h.moved.put hB (by decide) hg⟩
theorem MsgOwn.pre_old {w:World} {v:MsgV} {m:Msg}(h:MsgOwn w v m):PreS w v.oA v.on v.oc m.old:=by
 obtain⟨b,hb⟩:=h.old
 exact PreS.of_own hb
theorem EdOwn.cellsOf {w:World} {v:EdV} {e:Ed}(h:EdOwn w v e) {L:List TCl} {A:Option Addr} {n c b:Nat}(hL:w.ownsRow b 85 6 (.slice A n c) n (L.flatMap tclE)):EdOwn w { v with cA:=A,cn:=n,cc:=c} { e with cells:=L}:=
 ⟨⟨b,hL⟩,own_len tclE_len (by decide) hL,h.asked,h.last,h.reply⟩
def addA(x:Ans):Ans×Bool:=({ x with count:=min x.m.count x.us.length,spots:=x.us.take (min x.m.count x.us.length).toNat,e:= { x.e with cells:=chgN x.e [] (x.us.take (min x.m.count x.us.length).toNat) false}},decide (0<min x.m.count (x.us.length:Int)))
def remA(x:Ans):Ans×Bool:=if lisN x.e x.m.old=true then({ x with count:=x.m.count,moved:=x.m.old,e:= { x.e with cells:=chgN x.e x.m.old [] false}},true)else(x,false)
def movA(x:Ans):Ans×Bool:=if lisN x.e x.m.old=true∧min x.m.count (x.us.length:Int)≠0 then({ x with count:=min x.m.count x.us.length,spots:=x.us.take (min x.m.count x.us.length).toNat,moved:=x.m.old.take (min x.m.count x.us.length).toNat,e:= { x.e with cells:=chgN x.e (x.m.old.take (min x.m.count x.us.length).toNat) (x.us.take (min x.m.count x.us.length).toNat) false}},true)else(x,false)
def numA(x:Ans):Ans×Bool:=({ x with count:=x.e.cells.length},true)
def lstA(x:Ans):Ans×Bool:=({ x with count:=x.e.cells.length,spots:=(x.e.cells.take 8).map place},true)
def MethPost(a0:World)(L:List (Nat×Array Value×TypeId))(g:Nat)(F:Ans×Bool)(r:Ending)(w':World):Prop:=∃V,r= .returned (.bool F.2)∧Mem a0 w' ((g,ansA F.1 V,110)::L)∧AnsS w' V F.1
theorem eLi1:∀args w,(callFunc 188 args).run Tryz.prog w= .ok (.enter 188 args) w:=enters_of Tryz.func188 (by kernel_rfl) rfl
theorem ansA_end(x:Ans)(v:AnsV):(ansA x v).extract 0 (0+(endA x.e v.e).size)=endA x.e v.e:=by kernel_rfl
theorem Box.range {w:World} {B:Nat} {C:Array Value}(h:Box w B C)(k:Nat)(D:Array Value)(hD:C.extract k (k+D.size)=D):w.rangeAt B k D.toList:=fun j v hv=>by
 rw[h.at_]
 rw[←hD,Array.getElem?_toList]at hv
 obtain⟨h1,h2⟩:=Array.getElem?_eq_some_iff.1 hv
 rw[Array.size_extract]at h1
 rw[Array.getElem_extract]at h2
 exact Array.getElem?_eq_some_iff.2 ⟨by omega,h2⟩
theorem li1_any(x:Ans)(v:AnsV)(s:Spt)(g B1:Nat)(w:World)(hE:EdIs w v.e x.e)(h1:Box w B1 #[.pointer (some ⟨g,0,none⟩)])(h2:Box w g (ansA x v)):
 Calls Tryz.prog 188 (#[.agg #[.int .i64 s.slot,.int .i64 s.off]]++ #[.pointer (some ⟨B1,0,none⟩)]) w fun e w'=>e= .returned (.bool (!hasN x.e s false))∧Below w.heap.size w w':=by
 show Calls Tryz.prog 188 #[.agg #[.int .i64 s.slot,.int .i64 s.off],.pointer (some ⟨B1,0,none⟩)] w _
 have I:=Zh (Mem.start w)
 have cH:=fun W (hb:Below w.heap.size w W)=>has_any x.e v.e s false W (hE.keep hb)
 have hR2:=fun w' (hb:Below w.heap.size w w')=>Box.range (h2.keep hb) 0 (endA x.e v.e) (ansA_end x v)
 unfold endA at hR2
 generalize hasN x.e s false=R at*
 have uE:=Tryz.underlying32
 have uS:=Tryz.underlying97
 have uP:=Tryz.underlying108
 refine zh7 ?_ cH uE uS uP h1 h2 hR2;clear cH uE uS uP h1 h2 hR2;intro cH uE uS uP h1 h2 hR2
 go_enter Tryz.func188,Tryz.ntmps188
 go_upto_region 1 with(refine bA I 97 ?_;clear I;intro gs w1 I hG;clear hG)
 have HMd:=Zh I.drew
 clear I
 have I:=HMd
 clear HMd
 have HMs:=Zh I.out
 refine wp_region_plan (fun w'=>Mem _ w' _) 5 [(0,true),(1,true),(2,true),(3,true),(4,true)] (by kernel_rfl) (by kernel_rfl) HMs.out ?_
 refine plTakeL (by rfl) (yields_cell rfl _ _ rfl ⟨B1,0,none⟩ rfl (.pointer (some ⟨g,0,none⟩)) (fun w_ hSw=>by exact(h1.keep hSw.below).at_ 0) _ uP.out (by rfl)) ?_
 try go_frame
 repeat(first|(refine plPure rfl rfl (by intro w_ hSw;go_simp;first|done|exact rfl) ?_;try go_frame))
 refine plTakeL (by rfl) (yields_part rfl _ _ rfl g 0 rfl _ _ (fun w_ hSw=>hR2.out w_ hSw.below) uE.out rfl (by exact zend)) ?_
 try simp only[Act.put,List.setIfInBounds_toArray,List.set_cons_zero,List.set_cons_succ]
 refine plTakeL (by rfl) (yw 0 uS.out) ?_
 try go_frame
 refine plDone ?_
 simp only[List.drop]
 go_wp2_with(first|(go_at_call 189;refine(cH _ I.below).mono ?_;rintro r w3 ⟨rfl,p_⟩;replace I:=Zm I p_;clear p_)|fail)
 go_ret
 exact⟨rfl,I.below⟩
theorem listens_any(x:Ans)(v:AnsV)(g:Nat)(w:World)(hE:EdIs w v.e x.e)(hm:SptS w v.m.oA v.m.on x.m.old)(h2:Box w g (ansA x v)):Calls Tryz.prog 127 #[.pointer (some ⟨g,0,none⟩)] w fun e w'=>e= .returned (.bool (lisN x.e x.m.old))∧Below w.heap.size w w':=by
 have I:=Zh (Mem.start w)
 have cF:=fun W B1 (hb:Below w.heap.size w W) (h1:Box W B1 #[.pointer (some ⟨g,0,none⟩)])=>ctnFnS_any 188 #[.pointer (some ⟨B1,0,none⟩)] (fun s=> !hasN x.e s false) v.m.oA v.m.on v.m.oc x.m.old W eLi1 (hm.keep hb) (fun s _ W2 hb2=>li1_any x v s g B1 W2 (hE.keep (bthen hb hb2)) (h1.keep hb2) (h2.keep (bthen hb hb2)))
 have hR:lisN x.e x.m.old= !(x.m.old.any fun s=> !hasN x.e s false):=by unfold lisN;rw[List.all_eq_not_any_not]
 rw[hR]
 generalize(x.m.old.any fun s=> !hasN x.e s false)=R at*
 have ka:=fun W (hb:Below w.heap.size w W)=>(h2.keep hb).at_ 34
 change∀W,_→_=some (Value.slice v.m.oA v.m.on v.m.oc)at ka
 refine zh5 ?_ hE hm h2 cF ka;clear hE hm h2 cF ka;intro hE hm h2 cF ka
 clear hR
 go_enter Tryz.func127,Tryz.ntmps127
 go_upto_region 1 with(refine wpList_boxM I rfl 108 _ rfl (.pointer (some ⟨g,0,none⟩)) rfl ?_;clear I;intro gb w1 I hG;clear hG;simp only[Value.cells]at I)
 have kb:=I.cell 0 rfl
 have k34:=ka.out _ I.below
 go_wp2_with(first|(go_at_call 136;refine(cF _ _ I.below (I.at_ 0 rfl).box).mono ?_;rintro r w3 ⟨rfl,p_⟩;clear kb k34;replace I:=Zm I p_;clear p_)|fail)
 go_ret
 exact⟨rfl,I.below⟩
theorem ansAdd_any(x:Ans)(v:AnsV)(g q:Nat)(a0 w:World)(L:List (Nat×Array Value×TypeId))(h0:Mem a0 w ((g,ansA x v,110)::L))(hS:AnsS w v x)(hq:min x.m.count (x.us.length:Int)=q)(hok:ChgOk x.e [] (x.us.take q))(hbd:∀c∈keptN x.e []++newsN x.e (x.us.take q) false,0≤c.slot∧c.slot≤511)(hcn:v.e.cn≤100000)(hun:v.un≤100000):Calls Tryz.prog 63 #[.pointer (some ⟨g,0,none⟩)] w (MethPost a0 L g (addA x)):=by
 have I:=Zh h0
 unfold ansA at I
 have hul:=hS.us.is.len
 have hR:addA x=({ x with count:=(q:Int),spots:=x.us.take q,e:= { x.e with cells:=chgN x.e [] (x.us.take q) false}},decide (0<q)):=by unfold addA;rw[hq];simp
 rw[hul]at hq
 have hqn:q≤v.un:=by omega
 have hmn:(if x.m.count≤(v.un:Int)then x.m.count else(v.un:Int))=q:=by rw[←hq];rfl
 have cC:=fun v1 W (hE:EdIs W v1 x.e) (hU:SptS W v.uA q (x.us.take q)) (hcn:v1.cn≤100000)=>change_any x.e v1 [] (x.us.take q) none v.uA 0 0 q v.uc false W hE Sls.nil hU hcn (by omega) hok hbd
 have uE:=Tryz.underlying32
 have uI:=Tryz.underlying3
 have uS:=Tryz.underlying28
 generalize hP:MethPost a0 L g (addA x)=P
 clear h0 hok hbd
 refine zh8 ?_ hS cC uE uI uS hP hR hmn;clear hS cC uE uI uS hP hR hmn;intro hS cC uE uI uS hP hR hmn
 go_enter Tryz.func63,Tryz.ntmps63
 go_upto_region 1 with fail
 have HMd:=Zh I.drew
 replace hS:=Zh (hS.keep ((Below.refl _ _).drew))
 clear I
 have I:=HMd
 clear HMd
 have HMs:=Zh I.out
 refine wp_region_plan (fun w'=>Mem _ w' _) 12 [(0,true),(1,true),(2,true),(3,true),(4,true),(5,true),(6,true),(7,true),(8,true),(9,true),(10,true),(11,true)] (by kernel_rfl) (by kernel_rfl) HMs.out ?_
 repeat(first|(refine plPure rfl rfl (by intro w_ hSw;go_simp;first|done|exact rfl) ?_;try go_frame)|(refine plTakeL (by rfl) (yields_memc rfl _ _ rfl 0 (fun w_ hSw=>hSw) rfl _ rfl _ rfl _ (by first|exact Tryz.underlying3|exact Tryz.underlying4|exact Tryz.underlying28|exact Tryz.underlying27) (by rfl)) ?_;try go_frame))
 refine plDone ?_
 simp only[List.drop]
 clear HMs
 have hqc:=hS.us.cap
 have hqc2:q≤v.uc:=by omega
 go_upto_region 2 with(first|(refine sN 0 I ?_;have hBq:=I.at_ 0 rfl;clear I;intro w4 I hG4;simp only[List.set]at I;replace hS:=Zh (hS.put hBq hG4.out);clear hBq)|fail)
 have HMd:=Zh I.drew
 replace hS:=Zh (hS.keep ((Below.refl _ _).drew))
 clear I
 have I:=HMd
 clear HMd
 have HMs:=Zh I.out
 refine wp_region_plan (fun w'=>Mem _ w' _) 10 [(0,true),(1,true),(2,true),(3,true),(4,true),(5,true),(6,true),(7,true),(8,true),(9,true)] (by kernel_rfl) (by kernel_rfl) HMs.out ?_
 repeat(first|(refine plPure rfl rfl (by intro w_ hSw;go_simp;first|done|exact rfl) ?_;try go_frame)|(refine plTakeL (by rfl) (yields_memc rfl _ _ rfl 0 (fun w_ hSw=>hSw) rfl _ rfl _ rfl _ (by first|exact Tryz.underlying3|exact Tryz.underlying4|exact Tryz.underlying28|exact Tryz.underlying27) (by rfl)) ?_;try go_frame))
 refine plDone ?_
 simp only[List.drop]
 clear HMs
 go_upto_region 3 with(first|(refine sN 0 I ?_;have hBq:=I.at_ 0 rfl;clear I;intro w4 I hG4;simp only[List.set]at I;replace hS:=Zh (hS.put hBq hG4.out);clear hBq)|fail)
 have HMd:=Zh I.drew
 replace hS:=Zh (hS.keep ((Below.refl _ _).drew))
 clear I
 have I:=HMd
 clear HMd
 have HMs:=Zh I.out
 refine wp_region_plan (fun w'=>Mem _ w' _) 10 [(0,true),(1,true),(2,true),(3,true),(4,true),(5,true),(6,true),(7,true),(8,true),(9,false)] (by kernel_rfl) (by kernel_rfl) HMs.out ?_
 repeat(first|(refine plPure rfl rfl (by intro w_ hSw;go_simp;first|done|exact rfl) ?_;try go_frame)|(refine plTakeL (by rfl) (yields_memc rfl _ _ rfl 0 (fun w_ hSw=>hSw) rfl _ rfl _ rfl _ (by first|exact Tryz.underlying3|exact Tryz.underlying4|exact Tryz.underlying28|exact Tryz.underlying27) (by rfl)) ?_;try go_frame))
 refine plTakeL (by rfl) (yields_mem (by rfl) _ _ (by rfl) 0 (fun w_ hSw=>hSw) (by rfl) _ (by rfl) (endA x.e v.e) (ansA_end ⟨x.e,x.m,x.us,q,x.us.take q,x.moved⟩ ⟨v.e,v.m,v.uA,v.un,v.uc,v.uA,q,v.uc,v.oA,v.on,v.oc⟩) _ uE.out (by rfl) (by exact zend)) ?_
 try go_frame
 repeat(first|(refine plPure rfl rfl (by intro w_ hSw;go_simp;first|done|exact rfl) ?_;try go_frame)|(refine plTakeL (by rfl) (yields_memc rfl _ _ rfl 0 (fun w_ hSw=>hSw) rfl _ rfl _ rfl _ (by first|exact Tryz.underlying3|exact Tryz.underlying4|exact Tryz.underlying28|exact Tryz.underlying27) (by rfl)) ?_;try go_frame))
 refine plStepL rfl rfl fun K hK=> ?_
 go_wp2_with(first|(go_at_call 73;refine(cC v.e _ hS.e.is (hS.us.take hqn).is hcn).mono ?_;rintro r w5 ⟨A1,n1,c1,rfl,hl1,hO1,p_⟩;dsimp only[endA])|fail)
 refine hK _ _ (HMs.keep p_) fun hS_=> ?_
 clear hK K hS_
 try go_frame
 have hE5:=Zh ((hS.e.keep p_).cellsOf hO1)
 replace I:=Zm I p_
 replace hS:=Zh (hS.keep p_)
 have hS5:Hid (AnsS w5 ⟨{ v.e with cA:=A1,cn:=n1,cc:=c1},v.m,v.uA,v.un,v.uc,v.uA,q,v.uc,v.oA,v.on,v.oc⟩ ⟨{ x.e with cells:=chgN x.e [] (x.us.take q) false},x.m,x.us,q,x.us.take q,x.moved⟩):=⟨hE5.out,hS.m,hS.us,hS.us.take hqn,hS.moved⟩
 clear p_ hO1 hl1 hE5 hS HMs cC
 have hS:=hS5
 clear hS5
 have ka:=I.cell 0 rfl
 refine plDone ?_
 simp only[List.drop]
 go_wp2_with(first|(refine sN 0 I ?_;have hBq:=I.at_ 0 rfl;clear I ka;intro w4 I hG4;simp only[List.set]at I;replace hS:=Zh (hS.put hBq hG4.out);clear hBq;have ka:=I.cell 0 rfl)|fail)
 rw[←hP.out,hR.out]
 exact⟨⟨{ v.e with cA:=A1,cn:=n1,cc:=c1},v.m,v.uA,v.un,v.uc,v.uA,q,v.uc,v.oA,v.on,v.oc⟩,rfl,I.out,hS.out⟩
theorem ansRem_any(x:Ans)(v:AnsV)(g:Nat)(a0 w:World)(L:List (Nat×Array Value×TypeId))(h0:Mem a0 w ((g,ansA x v,110)::L))(hS:AnsS w v x)(hok:ChgOk x.e x.m.old [])(hbd:∀c∈keptN x.e x.m.old++newsN x.e [] false,0≤c.slot∧c.slot≤511)(hcn:v.e.cn≤100000):Calls Tryz.prog 64 #[.pointer (some ⟨g,0,none⟩)] w (MethPost a0 L g (remA x)):=by
 have I:=Zh h0
 unfold ansA at I
 have cL:=listens_any x v g w hS.e.is hS.m.is.old (h0.at_ 0 rfl).box
 have hR:remA x=if lisN x.e x.m.old=true then({ x with count:=x.m.count,moved:=x.m.old,e:= { x.e with cells:=chgN x.e x.m.old [] false}},true)else(x,false):=rfl
 have cC:=fun v1 W (hE:EdIs W v1 x.e) (hU:SptS W v.m.oA v.m.on x.m.old) (hcn:v1.cn≤100000)=>change_any x.e v1 x.m.old [] v.m.oA none v.m.on v.m.oc 0 0 false W hE hU Sls.nil hcn (by omega) hok hbd
 have uE:=Tryz.underlying32
 generalize hP:MethPost a0 L g (remA x)=P
 generalize lisN x.e x.m.old=LI at*
 have uI:=Tryz.underlying3
 have uS:=Tryz.underlying28
 clear h0 hok hbd
 refine zh8 ?_ hS cC cL uE hP hR uI uS;clear hS cC cL uE hP hR uI uS;intro hS cC cL uE hP hR uI uS
 cases LI
 case false=>
  go_enter Tryz.func64,Tryz.ntmps64
  go_wp2_with(first|(go_at_call 127;refine cL.mono ?_;rintro r w3 ⟨rfl,p_⟩;replace I:=Zm I p_;replace hS:=Zh (hS.keep p_);clear p_ cL)|fail)
  rw[←hP.out,hR.out]
  exact⟨v,rfl,I.out,hS.out⟩
 case true=>
  go_enter Tryz.func64,Tryz.ntmps64
  go_upto_region 3 with(first|(go_at_call 127;refine cL.mono ?_;rintro r w3 ⟨rfl,p_⟩;replace I:=Zm I p_;replace hS:=Zh (hS.keep p_);clear p_ cL)|fail)
  have HMd:=Zh I.drew
  replace hS:=Zh (hS.keep ((Below.refl _ _).drew))
  clear I
  have I:=HMd
  clear HMd
  have ka:=I.cell 0 rfl
  refine wp_region_plan (fun w'=>Mem a0 w' L∧w'.cell? ⟨g,32,none⟩=some (.int .i64 x.m.count)∧w'.cell? ⟨g,34,none⟩=some (.slice v.m.oA v.m.on v.m.oc)) 15 [(0,true),(1,true),(2,true),(3,true),(4,true),(5,true),(6,true),(7,true),(8,true),(9,true),(10,true),(11,true),(12,true),(13,true),(14,false)] (by kernel_rfl) (by kernel_rfl) ⟨I.tail,ka 32,ka 34⟩ ?_
  repeat(first|(refine plPure rfl rfl (by intro w_ hSw;go_simp;first|done|exact rfl) ?_;try go_frame))
  refine plStepL rfl rfl fun K hK=> ?_
  go_wp2_with(first|(refine sN 0 I ?_;have hBq:=I.at_ 0 rfl;clear I ka;intro w4 I hG4;simp only[List.set]at I;replace hS:=Zh (hS.put hBq hG4.out);clear hBq;have ka:=I.cell 0 rfl)|fail)
  refine hK _ _ (⟨I.tail,ka 32,ka 34⟩) fun hS_=> ?_
  clear hK K hS_
  try go_frame
  refine plDone ?_
  simp only[List.drop]
  go_upto_region 4 with(first|(refine sN 0 I ?_;have hBq:=I.at_ 0 rfl;clear I ka;intro w4 I hG4;simp only[List.set]at I;replace hS:=Zh (hS.put hBq hG4.out);clear hBq;have ka:=I.cell 0 rfl)|fail)
  clear ka
  have HMd:=Zh I.drew
  replace hS:=Zh (hS.keep ((Below.refl _ _).drew))
  clear I
  have I:=HMd
  clear HMd
  have HMs:=Zh I.out
  refine wp_region_plan (fun w'=>Mem _ w' _) 11 [(0,true),(1,true),(2,true),(3,true),(4,true),(5,true),(6,true),(7,true),(8,true),(9,true),(10,false)] (by kernel_rfl) (by kernel_rfl) HMs.out ?_
  repeat(first|(refine plPure rfl rfl (by intro w_ hSw;go_simp;first|done|exact rfl) ?_;try go_frame)|(refine plTakeL (by rfl) (yields_memc rfl _ _ rfl 0 (fun w_ hSw=>hSw) rfl _ rfl _ rfl _ (by first|exact Tryz.underlying3|exact Tryz.underlying4|exact Tryz.underlying28|exact Tryz.underlying27) (by rfl)) ?_;try go_frame))
  refine plTakeL (by rfl) (yields_mem (by rfl) _ _ (by rfl) 0 (fun w_ hSw=>hSw) (by rfl) _ (by rfl) (endA x.e v.e) (ansA_end ⟨x.e,x.m,x.us,x.m.count,x.spots,x.m.old⟩ ⟨v.e,v.m,v.uA,v.un,v.uc,v.sA,v.sn,v.sc,v.m.oA,v.m.on,v.m.oc⟩) _ uE.out (by rfl) (by exact zend)) ?_
  try go_frame
  repeat(first|(refine plPure rfl rfl (by intro w_ hSw;go_simp;first|done|exact rfl) ?_;try go_frame)|(refine plTakeL (by rfl) (yields_memc rfl _ _ rfl 0 (fun w_ hSw=>hSw) rfl _ rfl _ rfl _ (by first|exact Tryz.underlying3|exact Tryz.underlying4|exact Tryz.underlying28|exact Tryz.underlying27) (by rfl)) ?_;try go_frame))
  refine plStepL rfl rfl fun K hK=> ?_
  go_wp2_with(first|(go_at_call 73;refine(cC v.e _ hS.e.is hS.m.is.old hcn).mono ?_;rintro r w5 ⟨A1,n1,c1,rfl,hl1,hO1,p_⟩;dsimp only[endA])|fail)
  refine hK _ _ (HMs.keep p_) fun hS_=> ?_
  clear hK K hS_
  try go_frame
  have hE5:=Zh ((hS.e.keep p_).cellsOf hO1)
  replace I:=Zm I p_
  replace hS:=Zh (hS.keep p_)
  have hS5:Hid (AnsS w5 ⟨{ v.e with cA:=A1,cn:=n1,cc:=c1},v.m,v.uA,v.un,v.uc,v.sA,v.sn,v.sc,v.m.oA,v.m.on,v.m.oc⟩ ⟨{ x.e with cells:=chgN x.e x.m.old [] false},x.m,x.us,x.m.count,x.spots,x.m.old⟩):=⟨hE5.out,hS.m,hS.us,hS.spots,hS.m.pre_old⟩
  clear p_ hO1 hl1 hE5 hS HMs cC
  have hS:=hS5
  clear hS5
  refine plDone ?_
  simp only[List.drop]
  go_wp2_with(first|(refine sN 0 I ?_;have hBq:=I.at_ 0 rfl;clear I;intro w4 I hG4;simp only[List.set]at I;replace hS:=Zh (hS.put hBq hG4.out);clear hBq)|fail)
  rw[←hP.out,hR.out]
  exact⟨⟨{ v.e with cA:=A1,cn:=n1,cc:=c1},v.m,v.uA,v.un,v.uc,v.sA,v.sn,v.sc,v.m.oA,v.m.on,v.m.oc⟩,rfl,I.out,hS.out⟩
theorem ansMov_any(x:Ans)(v:AnsV)(g q:Nat)(a0 w:World)(L:List (Nat×Array Value×TypeId))(h0:Mem a0 w ((g,ansA x v,110)::L))(hS:AnsS w v x)(hq:min x.m.count (x.us.length:Int)=q)(hqo:q≤v.m.on)(hok:ChgOk x.e (x.m.old.take q) (x.us.take q))(hbd:∀c∈keptN x.e (x.m.old.take q)++newsN x.e (x.us.take q) false,0≤c.slot∧c.slot≤511)(hcn:v.e.cn≤100000)(hun:v.un≤100000):Calls Tryz.prog 65 #[.pointer (some ⟨g,0,none⟩)] w (MethPost a0 L g (movA x)):=by
 have I:=Zh h0
 unfold ansA at I
 have hul:=hS.us.is.len
 have hR:movA x=if lisN x.e x.m.old=true∧(q:Int)≠0 then({ x with count:=(q:Int),spots:=x.us.take q,moved:=x.m.old.take q,e:= { x.e with cells:=chgN x.e (x.m.old.take q) (x.us.take q) false}},true)else(x,false):=by unfold movA;rw[hq];rfl
 rw[hul]at hq
 have hqn:q≤v.un:=by omega
 have cL:=fun W (hS:AnsS W v x) (hB:Box W g (ansA x v))=>listens_any x v g W hS.e.is hS.m.is.old hB
 have cC:=fun v1 W (hE:EdIs W v1 x.e) (hO:SptS W v.m.oA q (x.m.old.take q)) (hU:SptS W v.uA q (x.us.take q)) (hcn:v1.cn≤100000)=>change_any x.e v1 (x.m.old.take q) (x.us.take q) v.m.oA v.uA q v.m.oc q v.uc false W hE hO hU hcn (by omega) hok hbd
 have uE:=Tryz.underlying32
 have uI:=Tryz.underlying3
 have uS:=Tryz.underlying28
 have hqc:q≤v.uc:=by have:=hS.us.cap;omega
 have hqc2:q≤v.m.oc:=by have:=hS.m.is.oc;omega
 generalize hP:MethPost a0 L g (movA x)=P
 generalize lisN x.e x.m.old=LI at*
 clear h0 hok hbd
 refine zh8 ?_ hS cC cL uE uI uS hP hR;clear hS cC cL uE uI uS hP hR;intro hS cC cL uE uI uS hP hR
 go_enter Tryz.func65,Tryz.ntmps65
 go_upto_region 1 with fail
 have HMd:=Zh I.drew
 replace hS:=Zh (hS.keep ((Below.refl _ _).drew))
 clear I
 have I:=HMd
 clear HMd
 have HMs:=Zh I.out
 refine wp_region_plan (fun w'=>Mem _ w' _) 10 [(0,true),(1,true),(2,true),(3,true),(4,true),(5,true),(6,true),(7,true),(8,true),(9,true)] (by kernel_rfl) (by kernel_rfl) HMs.out ?_
 repeat(first|(refine plPure rfl rfl (by intro w_ hSw;go_simp;first|done|exact rfl) ?_;try go_frame)|(refine plTakeL (by rfl) (yields_memc rfl _ _ rfl 0 (fun w_ hSw=>hSw) rfl _ rfl _ rfl _ (by first|exact Tryz.underlying3|exact Tryz.underlying4|exact Tryz.underlying28|exact Tryz.underlying27) (by rfl)) ?_;try go_frame))
 refine plDone ?_
 simp only[List.drop]
 clear HMs
 by_cases hc:LI=true∧(q:Int)≠0
 case neg=>
  rw[if_neg hc]at hR
  have hx2:LI=false∨(LI=true∧q=0):=by
   cases LI
   ·exact .inl rfl
   ·exact .inr ⟨rfl,by
     have:¬(q:Int)≠0:=fun h=>hc ⟨rfl,h⟩
     omega⟩
  clear hc
  rcases hx2 with rfl|⟨rfl,rfl⟩
  all_goals
   go_wp2_with(first|(go_at_call 127;refine(cL _ hS.out (I.at_ 0 rfl).box).mono ?_;rintro r w3 ⟨rfl,p_⟩;replace I:=Zm I p_;replace hS:=Zh (hS.keep p_);clear p_ cL)|fail)
   rw[←hP.out,hR.out]
   exact⟨v,rfl,I.out,hS.out⟩
 case pos=>
  rw[if_pos hc]at hR
  obtain⟨rfl,hq0⟩:=hc
  have d0:((q:Int)==0)=false:=by rw[beq_eq_false_iff_ne];exact hq0
  go_upto_region 4 with(first|(go_at_call 127;refine(cL _ hS.out (I.at_ 0 rfl).box).mono ?_;rintro r w3 ⟨rfl,p_⟩;replace I:=Zm I p_;replace hS:=Zh (hS.keep p_);clear p_ cL)|fail)
  have HMd:=Zh I.drew
  replace hS:=Zh (hS.keep ((Below.refl _ _).drew))
  clear I
  have I:=HMd
  clear HMd
  have ka:=I.cell 0 rfl
  refine wp_region_plan (fun w'=>Mem a0 w' L∧w'.cell? ⟨g,35,none⟩=some (.slice v.uA v.un v.uc)∧w'.cell? ⟨g,34,none⟩=some (.slice v.m.oA v.m.on v.m.oc)) 23 [(0,true),(1,true),(2,true),(3,true),(4,true),(5,true),(6,true),(7,true),(8,true),(9,true),(10,true),(11,true),(12,true),(13,true),(14,true),(15,true),(16,true),(17,true),(18,true),(19,false),(20,true),(21,true),(22,false)] (by kernel_rfl) (by kernel_rfl) ⟨I.tail,ka 35,ka 34⟩ ?_
  repeat(first|(refine plPure rfl rfl (by intro w_ hSw;go_simp;first|done|exact rfl) ?_;try go_frame))
  refine plStepL rfl rfl fun K hK=> ?_
  go_wp2_with(first|(refine sN 0 I ?_;have hBq:=I.at_ 0 rfl;clear I ka;intro w4 I hG4;simp only[List.set]at I;replace hS:=Zh (hS.put hBq hG4.out);clear hBq;have ka:=I.cell 0 rfl)|fail)
  refine hK _ _ (⟨I.tail,ka 35,ka 34⟩) fun hS_=> ?_
  clear hK K hS_
  try go_frame
  repeat(first|(refine plPure rfl rfl (by intro w_ hSw;go_simp;first|done|exact rfl) ?_;try go_frame))
  refine plStepL rfl rfl fun K hK=> ?_
  go_wp2_with(first|(refine sN 0 I ?_;have hBq:=I.at_ 0 rfl;clear I ka;intro w4 I hG4;simp only[List.set]at I;replace hS:=Zh (hS.put hBq hG4.out);clear hBq;have ka:=I.cell 0 rfl)|fail)
  refine hK _ _ (⟨I.tail,ka 35,ka 34⟩) fun hS_=> ?_
  clear hK K hS_
  try go_frame
  refine plDone ?_
  simp only[List.drop]
  go_upto_region 5 with(first|(refine sN 0 I ?_;have hBq:=I.at_ 0 rfl;clear I ka;intro w4 I hG4;simp only[List.set]at I;replace hS:=Zh (hS.put hBq hG4.out);clear hBq;have ka:=I.cell 0 rfl)|fail)
  clear ka
  have HMd:=Zh I.drew
  replace hS:=Zh (hS.keep ((Below.refl _ _).drew))
  clear I
  have I:=HMd
  clear HMd
  have HMs:=Zh I.out
  refine wp_region_plan (fun w'=>Mem _ w' _) 14 [(0,true),(1,true),(2,true),(3,true),(4,true),(5,true),(6,true),(7,true),(8,true),(9,true),(10,true),(11,true),(12,true),(13,false)] (by kernel_rfl) (by kernel_rfl) HMs.out ?_
  repeat(first|(refine plPure rfl rfl (by intro w_ hSw;go_simp;first|done|exact rfl) ?_;try go_frame)|(refine plTakeL (by rfl) (yields_memc rfl _ _ rfl 0 (fun w_ hSw=>hSw) rfl _ rfl _ rfl _ (by first|exact Tryz.underlying3|exact Tryz.underlying4|exact Tryz.underlying28|exact Tryz.underlying27) (by rfl)) ?_;try go_frame))
  refine plTakeL (by rfl) (yields_mem (by rfl) _ _ (by rfl) 0 (fun w_ hSw=>hSw) (by rfl) _ (by rfl) (endA x.e v.e) (ansA_end ⟨x.e,x.m,x.us,q,x.us.take q,x.m.old.take q⟩ ⟨v.e,v.m,v.uA,v.un,v.uc,v.uA,q,v.uc,v.m.oA,q,v.m.oc⟩) _ uE.out (by rfl) (by exact zend)) ?_
  try go_frame
  repeat(first|(refine plPure rfl rfl (by intro w_ hSw;go_simp;first|done|exact rfl) ?_;try go_frame)|(refine plTakeL (by rfl) (yields_memc rfl _ _ rfl 0 (fun w_ hSw=>hSw) rfl _ rfl _ rfl _ (by first|exact Tryz.underlying3|exact Tryz.underlying4|exact Tryz.underlying28|exact Tryz.underlying27) (by rfl)) ?_;try go_frame))
  refine plStepL rfl rfl fun K hK=> ?_
  go_wp2_with(first|(go_at_call 73;refine(cC v.e _ hS.e.is (hS.m.pre_old.take hqo).is (hS.us.take hqn).is hcn).mono ?_;rintro r w5 ⟨A1,n1,c1,rfl,hl1,hO1,p_⟩;dsimp only[endA])|fail)
  refine hK _ _ (HMs.keep p_) fun hS_=> ?_
  clear hK K hS_
  try go_frame
  have hE5:=Zh ((hS.e.keep p_).cellsOf hO1)
  replace I:=Zm I p_
  replace hS:=Zh (hS.keep p_)
  have hS5:Hid (AnsS w5 ⟨{ v.e with cA:=A1,cn:=n1,cc:=c1},v.m,v.uA,v.un,v.uc,v.uA,q,v.uc,v.m.oA,q,v.m.oc⟩ ⟨{ x.e with cells:=chgN x.e (x.m.old.take q) (x.us.take q) false},x.m,x.us,q,x.us.take q,x.m.old.take q⟩):=⟨hE5.out,hS.m,hS.us,hS.us.take hqn,hS.m.pre_old.take hqo⟩
  clear p_ hO1 hl1 hE5 hS HMs cC
  have hS:=hS5
  clear hS5
  refine plDone ?_
  simp only[List.drop]
  go_wp2_with(first|(refine sN 0 I ?_;have hBq:=I.at_ 0 rfl;clear I;intro w4 I hG4;simp only[List.set]at I;replace hS:=Zh (hS.put hBq hG4.out);clear hBq)|fail)
  rw[←hP.out,hR.out]
  exact⟨⟨{ v.e with cA:=A1,cn:=n1,cc:=c1},v.m,v.uA,v.un,v.uc,v.uA,q,v.uc,v.m.oA,q,v.m.oc⟩,rfl,I.out,hS.out⟩
end Tx
end Go.Proofs.YtfamifgchgolpaaGreat
