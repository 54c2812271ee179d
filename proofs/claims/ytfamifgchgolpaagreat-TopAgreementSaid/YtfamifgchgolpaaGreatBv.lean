/- Chapter 26, plain: what Ask leaves is right. -/
import Derived.Test.YtfamifgchgolpaaGreatBu
set_option linter.unusedVariables false
set_option linter.unusedSimpArgs false
namespace Go.Proofs.YtfamifgchgolpaaGreat
namespace Tx
theorem offN_lt {n:Int} {k:Nat}(h:offN n=some k):k<16:=by
 unfold offN at h
 have:=List.mem_of_find?_eq_some h
 simpa using this
theorem candS_mem {t:Tab} {f:List Int} {slot:Nat} {s:Spt}(h:s∈candS t f slot):s.slot=slot∧0≤s.off∧s.off<16∧usedN t slot=false:=by
 unfold candS at h
 split at h
 ·cases h
 rename_i hu
 split at h
 ·rename_i k hk
  rw[List.mem_singleton]at h
  subst h
  have:=offN_lt hk
  exact⟨rfl,by dsimp only;omega,by dsimp only;omega,by simpa using hu⟩
 ·cases h
theorem candS_asc(t:Tab)(f:List Int)(slot:Nat):Asc (candS t f slot):=by
 unfold candS
 split
 ·exact List.Pairwise.nil
 split
 ·exact List.pairwise_singleton _ _
 ·exact List.Pairwise.nil
theorem used_free {t:Tab} {slot:Int}(h:usedN t slot=false):∀c∈t.cells,c.slot≠slot:=by
 unfold usedN at h
 rw[List.any_eq_false]at h
 intro c hc
 have:=h c hc
 simpa using this
structure CandOk(t:Tab)(l:List Spt):Prop where
 asc:Asc l
 slot0:∀s∈l,0≤s.slot
 slot:∀s∈l,s.slot<t.length
 off0:∀s∈l,0≤s.off
 off:∀s∈l,s.off<16
 free:∀s∈l,∀c∈t.cells,c.slot≠s.slot
theorem cand_ok(t:Tab)(f:List Int)(n:Nat):CandOk t (candN t f n)∧(candN t f n).length≤n:=by
 unfold candN
 split
 ·refine⟨?_,by rw[List.length_take];omega⟩
  have key:∀s∈((List.range t.length.toNat).flatMap (candS t f)).take n,0≤s.slot∧s.slot<t.length∧0≤s.off∧s.off<16∧∀c∈t.cells,c.slot≠s.slot:=by
   intro s hs
   have h1:=List.mem_of_mem_take hs
   rw[List.mem_flatMap]at h1
   obtain⟨i,hi,h2⟩:=h1
   obtain⟨a,b,c,d⟩:=candS_mem h2
   rw[List.mem_range]at hi
   exact⟨by omega,by omega,b,c,fun x hx=>by rw[a];exact used_free d x hx⟩
  refine⟨?_,fun s hs=>(key s hs).1,fun s hs=>(key s hs).2.1,fun s hs=>(key s hs).2.2.1,fun s hs=>(key s hs).2.2.2.1,fun s hs=>(key s hs).2.2.2.2⟩
  refine Asc.sub ?_ (List.take_sublist _ _)
  unfold Asc
  rw[List.pairwise_flatMap]
  refine⟨fun a _=>candS_asc t f a,?_⟩
  exact(List.pairwise_lt_range).imp fun {a b} h x hx y hy=>by
   have h1:=(candS_mem hx).1
   have h2:=(candS_mem hy).1
   omega
 ·exact⟨⟨Asc.nil,by simp,by simp,by simp,by simp,by simp⟩,by simp⟩
theorem sends_ok {e:Ed}(h:CellsOk e):Asc (sendsN e)∧(∀s∈sendsN e,SptOk s):=by
 refine⟨?_,fun s hs=> ?_⟩
 ·unfold sendsN Asc
  rw[List.pairwise_map]
  exact List.Pairwise.filter _ h.asc
 ·unfold sendsN at hs
  obtain⟨c,hc,rfl⟩:=List.mem_map.1 hs
  have:=h.each c (List.mem_filter.1 hc).1
  have h1:=this.slot0
  have h2:=this.slot
  have h3:=this.off0
  have h4:=this.off
  exact⟨h1,by show c.slot<512;omega,h3,by show c.off<16;omega⟩
theorem open_ok {e:Ed} {m:Msg} {slot:Int}(hE:EdOk e)(hm:MsgOk m)(hr:m.reply=false)(hn:m.number=e.number)(ho:∀s∈m.old,hasN e s true=true)(hs:∀s∈m.spots,∀c∈e.cells,c.slot≠s.slot)(h0:0≤slot)(h1:slot≤1099511627776):EdOk (openE e m slot):=by
 refine⟨hE.node0,hE.node,hE.peer0,hE.peer,hE.num0,hE.num,h0,h1,hE.ne,⟨hE.cells.each,hE.cells.asc,hE.cells.num⟩,?_,hE.known⟩
 unfold askedOk openE
 dsimp only
 rw[if_neg (by decide),(chkM_iff m).2 hm,hr,hn]
 simp only[decide_true,Bool.not_false,Bool.true_and,Bool.and_eq_true,List.all_eq_true,Bool.not_eq_true',List.any_eq_false,decide_eq_true_eq]
 exact⟨fun s h=>ho s h,fun s h c hc=>hs s h c hc⟩
theorem full_open {t:Tab} {e:Ed} {m:Msg} {slot:Int}(J:FullOk t e)(h:EdOk (openE e m slot)):FullOk t (openE e m slot):=⟨h,J.tab,J.node,J.btw,J.inn,J.free,J.size⟩
structure AskIs(e:Ed)(t:Tab)(f:List Int)(kind count slot:Int):Prop where
 kind1:1≤kind
 kind6:kind≤6
 slot0:0≤slot
 slotM:slot≤1099511627776
 counts:countsN kind count=true
 shut:e.opn=false
 cand:kind=1∨kind=3→count≤((candN (fullN t e) f 8).length:Int)
 sends:kind=2∨kind=3→count≤((sendsN e).length:Int)
theorem askC_iff {e:Ed} {t:Tab} {f:List Int} {kind count slot:Int}(J:FullOk t e):askC e t f kind count slot=0↔AskIs e t f kind count slot:=by
 unfold askC
 rw[if_neg (by rw[(fullC_iff t e).2 J];simp)]
 constructor
 ·intro h
  split at h
  ·cases h
  split at h
  ·cases h
  split at h
  ·cases h
  split at h
  ·cases h
  rename_i h1 h2 h3 h4
  refine⟨by omega,by omega,by omega,by omega,?_,by simpa using h2,fun k=>by omega,fun k=>by omega⟩
  cases hc:countsN kind count
  ·exact absurd (.inr (.inr (.inr (.inr hc)))) h1
  ·rfl
 ·rintro⟨a,b,c,d,e1,g,h,k⟩
  rw[if_neg (by rw[e1];simp;omega),if_neg (by rw[g];simp),if_neg (by rintro⟨x,y⟩;have:=h x;omega),if_neg (by rintro⟨x,y⟩;have:=k x;omega)]
theorem full_cells {t:Tab} {e:Ed}(J:FullOk t e):∀c∈e.cells,c∈(fullN t e).cells:=fun c hc=>by
 obtain⟨u,hu⟩:=full_is J
 rw[hu.eq]
 exact hu.perm.mem_iff.2 (List.mem_append_left _ hc)
theorem full_length {t:Tab} {e:Ed}(J:FullOk t e):(fullN t e).length=t.length:=by
 obtain⟨u,hu⟩:=full_is J
 rw[hu.eq,hu.length]
theorem cand_sok {t:Tab} {e:Ed}(J:FullOk t e)(f:List Int)(n:Nat):∀s∈candN (fullN t e) f n,SptOk s∧s.slot<t.length∧(∀c∈e.cells,c.slot≠s.slot)∧∀c∈t.cells,c.slot≠s.slot:=by
 intro s hs
 have h:=(cand_ok (fullN t e) f n).1
 have h1:=h.slot s hs
 have hl:=J.tab.len
 rw[full_length J]at h1
 refine⟨⟨h.slot0 s hs,by omega,h.off0 s hs,h.off s hs⟩,h1,fun c hc=>h.free s hs c (full_cells J c hc),fun c hc=>h.free s hs c ?_⟩
 obtain⟨u,hu⟩:=full_is J
 rw[hu.eq]
 exact hu.perm.mem_iff.2 (List.mem_append_right _ hc)
theorem ask_msg {e:Ed} {t:Tab} {f:List Int} {kind count slot:Int}(J:FullOk t e)(h:AskIs e t f kind count slot):MsgOk (askM e t f kind count)∧(∀s∈(askM e t f kind count).old,hasN e s true=true)∧(∀s∈(askM e t f kind count).spots,∀c∈e.cells,c.slot≠s.slot):=by
 have hE:=J.ed
 obtain⟨c1,c2⟩:=cand_ok (fullN t e) f 8
 obtain⟨s1,s2⟩:=sends_ok hE.cells
 have cs:=cand_sok J f 8
 have k1:=h.kind1
 have k6:=h.kind6
 have hcn:=h.counts
 have hca:=h.cand
 have hse:=h.sends
 unfold countsN at hcn
 unfold askM
 generalize candN (fullN t e) f 8=C at*
 have hms:∀s∈sendsN e,hasN e s true=true:=fun s hs=>mem_sends.1 hs
 generalize sendsN e=S at*
 have hnum0:=hE.num0
 have hnum:=hE.num
 have d:=List.drop_sublist (S.length-count.toNat) S
 have tk:=List.take_sublist count.toNat S
 rcases(by omega:kind=1∨kind=2∨kind=3∨kind=4∨kind=5∨kind=6)with rfl|rfl|rfl|rfl|rfl|rfl
 all_goals simp only[show(1:Int)≤3 by decide,show(2:Int)≤3 by decide,show(3:Int)≤3 by decide,show¬(4:Int)≤3 by decide,show¬(5:Int)≤3 by decide,show¬(6:Int)≤3 by decide,if_true,if_false,Bool.and_eq_true,decide_eq_true_eq]at hcn
 all_goals simp only[Int.reduceEq,or_true,true_or,or_false,false_or,or_self,if_true,if_false,reduceIte]
 ·have h1:=hca (.inl rfl)
  refine⟨⟨by dsimp only;decide,by dsimp only;decide,hnum0,hnum,by dsimp only;decide,by dsimp only;decide,by dsimp only;omega,by dsimp only;omega,?_,by simp,?_,?_,by simp[Asc],by simp,?_⟩,by simp,?_⟩
  ·simpa using c2
  ·simpa using c1.asc
  ·simpa using fun s hs=>(cs s hs).1
  ·have:count=(C.length:Int)∨count<(C.length:Int):=by omega
   simp[follN,hcn.1,hcn.2,this]
  ·simpa using fun s hs=>(cs s hs).2.2.1
 ·have h1:=hse (.inl rfl)
  have hl:(S.drop (S.length-count.toNat)).length=count.toNat:=by rw[List.length_drop];omega
  refine⟨⟨by dsimp only;decide,by dsimp only;decide,hnum0,hnum,by dsimp only;decide,by dsimp only;decide,by dsimp only;omega,by dsimp only;omega,by simp,?_,by simp[Asc],by simp,?_,?_,?_⟩,?_,by simp⟩
  ·show(S.drop (S.length-count.toNat)).length≤8
   omega
  ·exact s1.sub d
  ·exact fun s hs=>s2 s (d.subset hs)
  ·have e1:((S.drop (S.length-count.toNat)).length:Int)=count:=by rw[hl];omega
   have e2:1≤(S.drop (S.length-count.toNat)).length:=by omega
   show follN _=true
   unfold follN
   dsimp only
   rw[if_neg (by simp),if_neg (by simp),if_neg (by decide),if_pos rfl]
   simp only[Bool.and_eq_true,decide_eq_true_eq]
   exact⟨rfl,e2,e1.symm⟩
  ·exact fun s hs=>hms s (d.subset hs)
 ·have h1:=hse (.inr rfl)
  have h2:=hca (.inr rfl)
  have hl:(S.take count.toNat).length=count.toNat:=by rw[List.length_take];omega
  refine⟨⟨by dsimp only;decide,by dsimp only;decide,hnum0,hnum,by dsimp only;decide,by dsimp only;decide,by dsimp only;omega,by dsimp only;omega,c2,?_,c1.asc,fun s hs=>(cs s hs).1,?_,?_,?_⟩,?_,fun s hs=>(cs s hs).2.2.1⟩
  ·show(S.take count.toNat).length≤8
   omega
  ·exact s1.sub tk
  ·exact fun s hs=>s2 s (tk.subset hs)
  ·have e1:((S.take count.toNat).length:Int)=count:=by rw[hl];omega
   have e2:1≤(S.take count.toNat).length:=by omega
   have e3:C.length=(S.take count.toNat).length∨(S.take count.toNat).length<C.length:=by omega
   show follN _=true
   unfold follN
   dsimp only
   rw[if_neg (by simp),if_neg (by simp),if_neg (by decide),if_neg (by decide),if_pos rfl]
   simp only[Bool.and_eq_true,Bool.or_eq_true,decide_eq_true_eq,Bool.not_false,true_and]
   exact⟨e2,e1.symm,e3⟩
  ·exact fun s hs=>hms s (tk.subset hs)
 ·subst hcn
  exact⟨⟨by dsimp only;decide,by dsimp only;decide,hnum0,hnum,by dsimp only;decide,by dsimp only;decide,by dsimp only;decide,by dsimp only;decide,by simp,by simp,by simp[Asc],by simp,by simp[Asc],by simp,by simp[follN]⟩,by simp,by simp⟩
 ·subst hcn
  exact⟨⟨by dsimp only;decide,by dsimp only;decide,hnum0,hnum,by dsimp only;decide,by dsimp only;decide,by dsimp only;decide,by dsimp only;decide,by simp,by simp,by simp[Asc],by simp,by simp[Asc],by simp,by simp[follN];decide⟩,by simp,by simp⟩
 ·subst hcn
  exact⟨⟨by dsimp only;decide,by dsimp only;decide,hnum0,hnum,by dsimp only;decide,by dsimp only;decide,by dsimp only;decide,by dsimp only;decide,by simp,by simp,by simp[Asc],by simp,by simp[Asc],by simp,by simp[follN]⟩,by simp,by simp⟩
theorem ask_full {e:Ed} {t:Tab} {f:List Int} {kind count slot:Int}(J:FullOk t e)(h:AskIs e t f kind count slot):FullOk t (openE e (askM e t f kind count) slot):=by
 obtain⟨h1,h2,h3⟩:=ask_msg J h
 exact full_open J (open_ok J.ed h1 rfl rfl h2 h3 h.slot0 h.slotM)
theorem shut_is {e:Ed}(h:EdOk e)(ho:e.opn=false):e.asked=msg0∧e.since=0:=by
 have:=h.asked
 unfold askedOk at this
 rw[if_pos ho,Bool.and_eq_true,decide_eq_true_eq]at this
 exact⟨by simpa[zeroM]using this.1,this.2⟩
theorem close_open {e:Ed}(h:EdOk e)(ho:e.opn=false)(m:Msg)(slot:Int):closE (openE e m slot)=e:=by
 obtain⟨h1,h2⟩:=shut_is h ho
 obtain⟨a,b,c,d,o,s,q,k,l,r⟩:=e
 dsimp only at ho h1 h2
 subst ho h1 h2
 rfl
theorem close_ok {e:Ed}(h:EdOk e):EdOk (closE e):=⟨h.node0,h.node,h.peer0,h.peer,h.num0,h.num,Int.le_refl _,by show(0:Int)≤1099511627776;decide,h.ne,⟨h.cells.each,h.cells.asc,h.cells.num⟩,rfl,h.known⟩
theorem full_close {t:Tab} {e:Ed}(h:FullOk t e):FullOk t (closE e):=⟨close_ok h.ed,h.tab,h.node,h.btw,h.inn,h.free,h.size⟩
def aftE(e:Ed)(L:List TCl):Ed:= { closE e with known:=false,last:=msg0,reply:=msg0,number:=nextN e.number,cells:=L}
def finL(e:Ed)(m:Msg):List TCl:=if m.kind=1∨m.kind=3 then chgN e m.old m.spots true else if m.kind=2 then chgN e m.old [] true else e.cells
theorem finE_def {e:Ed} {m:Msg}(hc:m.code=0)(h6:m.kind≠6):finE e m=aftE e (finL e m):=by
 unfold finE
 rw[if_neg (by rw[hc];simp),if_neg h6]
 rfl
theorem aft_ok {e:Ed} {L:List TCl}(h:EdOk e)(ha:AscT L)(hc:∀c∈L,CellOk e.peer c):EdOk (aftE e L):=by
 have hn:=next_bd h.num0 h.num
 exact⟨h.node0,h.node,h.peer0,h.peer,by show 0≤nextN _;omega,hn.2,Int.le_refl _,by show(0:Int)≤1099511627776;decide,h.ne,⟨hc,ha,.inl (by show nextN _≠0;omega)⟩,rfl,rfl⟩
theorem fin_clear {t:Tab} {e:Ed} {m:Msg}(J:FullOk t e)(hc:m.code=0)(h6:m.kind=6):FullOk t (finE e m):=by
 have hE:=J.ed
 have e1:finE e m= { closE e with known:=false,last:=msg0,reply:=msg0,cells:= [],number:=0}:=by
  unfold finE
  rw[if_neg (by rw[hc];simp),if_pos h6]
 rw[e1]
 have hx:EdOk { closE e with known:=false,last:=msg0,reply:=msg0,cells:= [],number:=0}:=⟨hE.node0,hE.node,hE.peer0,hE.peer,Int.le_refl _,by show(0:Int)≤255;decide,Int.le_refl _,by show(0:Int)≤1099511627776;decide,hE.ne,⟨fun c hc=>(by cases hc),List.Pairwise.nil,.inr rfl⟩,rfl,rfl⟩
 exact⟨hx,J.tab,J.node,J.btw,fun c hc=>(by cases hc),fun c hc=>(by cases hc),by have:=J.tab.size;show _+0≤512;omega⟩
theorem finish_ok {t:Tab} {e:Ed} {m:Msg}(J:FullOk t e)(hR:Room t e)(ho:e.opn=true)(ha:ansN e.asked m=true)(hs:∀s∈e.asked.spots,s.slot<t.length∧∀c∈t.cells,c.slot≠s.slot):FullOk t (finE e m):=by
 have hE:=J.ed
 by_cases hc:m.code=0
 case neg=>
  have:finE e m=closE e:=by unfold finE;rw[if_pos hc]
  rw[this]
  exact full_close J
 by_cases h6:m.kind=6
 ·exact fin_clear J hc h6
 rw[finE_def hc h6]
 obtain⟨_,hm,_,_,e1,_,h3⟩:=ans_ok ha
 have h4:=h3 hc
 have h5:=asked_ok hE ho
 unfold finL
 by_cases hk:m.kind=1∨m.kind=3
 ·rw[if_pos hk]
  have hsub:amongN m.spots e.asked.spots=true:=by
   rcases hk with hk|hk
   ·exact(h4.1 (by omega)).2
   ·exact(h4.2.1 (by omega)).2.1
  have hw:∀y∈m.spots,y.slot<t.length∧(∀c∈e.cells,c.slot≠y.slot)∧∀c∈t.cells,c.slot≠y.slot:=fun y hy=>by
   have:=among_mem hsub y hy
   exact⟨(hs y this).1,h5.2.2.2.2 y this,(hs y this).2⟩
  obtain⟨k1,k2,k3,k4⟩:=chg_cells (b:=true) (old:=m.old) hE.cells hm.sasc hm.sok (fun y hy=>(hw y hy).2.1)
  exact chg_full J hR (aft_ok hE k1.asc k2) rfl rfl rfl hm.ls hm.sasc hm.sok hw
 ·rw[if_neg hk]
  by_cases h2:m.kind=2
  ·rw[if_pos h2]
   obtain⟨k1,k2,k3,k4⟩:=chg_cells (b:=true) (old:=m.old) (sp:= []) hE.cells Asc.nil (by simp) (by simp)
   exact chg_full J hR (aft_ok hE k1.asc k2) rfl rfl rfl (by simp) Asc.nil (by simp) (by simp)
  ·rw[if_neg h2]
   exact⟨aft_ok hE hE.cells.asc hE.cells.each,J.tab,J.node,J.btw,J.inn,J.free,J.size⟩
def mirr(p:Int)(c:TCl):TCl:=⟨c.slot,c.off,c.kind,!c.send,p,c.flow⟩
theorem putN_mirr(p:Int)(c:TCl):∀l,putN (l.map (mirr p)) (mirr p c)=(putN l c).map (mirr p)
 | []=>rfl
 |x::l=>by
  rw[List.map_cons,putN_cons,putN_cons,putN_mirr p c l]
  by_cases h:ltT x c
  ·rw[if_pos h,if_pos (show ltT (mirr p x) (mirr p c)from h),List.map_cons]
  ·rw[if_neg h,if_neg (show¬ltT (mirr p x) (mirr p c)from h),List.map_cons,List.map_cons]
theorem putAll_mirr(p:Int):∀(m l:List TCl),(m.map (mirr p)).foldl putN (l.map (mirr p))=(m.foldl putN l).map (mirr p)
 | [],_=>rfl
 |c::m,l=>by
  rw[List.map_cons,List.foldl_cons,List.foldl_cons,putN_mirr,putAll_mirr p m]
theorem chg_mirr {a b:Ed} {p:Int}(h:b.cells=a.cells.map (mirr p))(hp:b.peer=p)(ha:∀c∈a.cells,True)(o s:List Spt)(send:Bool):chgN b o s (!send)=(chgN a o s send).map (mirr p):=by
 rw[chg_def,chg_def,←putAll_mirr]
 congr 1
 ·unfold keptN
  rw[h,List.filter_map]
  rfl
 ·unfold newsN
  rw[List.map_map]
  refine List.map_congr_left fun x _=> ?_
  show newC b (!send) x=mirr p (newC a send x)
  unfold newC mirr
  rw[hp]
def oppN(a b:List TCl):Bool:=decide (a.length=b.length)&&(List.range a.length).all fun i=>decide ((a.getD i default).slot=(b.getD i default).slot)&&(decide ((a.getD i default).off=(b.getD i default).off)&&decide ((a.getD i default).send≠(b.getD i default).send))
theorem opp_mirr(p:Int)(l:List TCl):oppN l (l.map (mirr p))=true:=by
 unfold oppN
 rw[Bool.and_eq_true,decide_eq_true_eq,List.length_map]
 refine⟨rfl,Sw.all_range_true fun i hi=> ?_⟩
 have e1:(l.map (mirr p)).getD i default=mirr p (l.getD i default):=by
  rw[List.getD_eq_getElem?_getD,List.getD_eq_getElem?_getD,List.getElem?_map,List.getElem?_eq_getElem hi];rfl
 rw[e1]
 simp[mirr]
theorem kept_len {e:Ed} {o:List Spt} {b:Bool}(h:AscT e.cells)(ho:∀s∈o,hasN e s b=true)(hn:Asc o):(keptN e o).length+o.length=e.cells.length:=by
 have h1:((e.cells.filter fun c=>decide (place c∈o)).map place).Perm o:=by
  refine(List.perm_ext_iff_of_nodup ?_ hn.nodup).2 fun x=> ?_
  ·refine List.Pairwise.imp (R:=fun a b:Spt=>a.slot<b.slot) (fun {a b} h e=>by subst e;exact absurd h (Int.lt_irrefl _)) ?_
   rw[List.pairwise_map]
   exact List.Pairwise.filter _ h
  ·constructor
   ·intro hx
    obtain⟨c,hc,rfl⟩:=List.mem_map.1 hx
    exact of_decide_eq_true (List.mem_filter.1 hc).2
   ·intro hx
    obtain⟨c,hc,h2,_⟩:=hasN_iff.1 (ho x hx)
    exact List.mem_map.2 ⟨c,List.mem_filter.2 ⟨hc,by rw[h2];exact decide_eq_true hx⟩,h2⟩
 have h2:=h1.length_eq
 rw[List.length_map]at h2
 have h3:=List.length_eq_countP_add_countP (fun c=>decide (place c∈o)) (l:=e.cells)
 rw[List.countP_eq_length_filter,List.countP_eq_length_filter]at h3
 have h4:(keptN e o).length=(e.cells.filter fun a=>decide ¬(decide (place a∈o)=true)).length:=by
  unfold keptN
  congr 1
  refine List.filter_congr fun c _=> ?_
  simp
 omega
theorem chg_len {e:Ed} {o s:List Spt} {b c:Bool}(h:AscT e.cells)(ho:∀x∈o,hasN e x c=true)(hn:Asc o):(chgN e o s b).length+o.length=e.cells.length+s.length:=by
 rw[(chg_perm e o s b).length_eq,List.length_append]
 have:=kept_len h ho hn
 unfold newsN
 rw[List.length_map]
 omega
def wantL(k:Int)(L:Nat)(c:Int):Int:=if k=1 then L+c else if k=2 then L-c else if k=6 then 0 else L
theorem acc_want {e:Ed} {t:Tab} {f:List Int} {m:Msg} {n:Int} {s o:List Spt}(J:FullOk t e)(h:chkM m=0)(hr:m.reply=false)(h6:m.kind≠6)(hw:wantN e t f m=some (n,s,o)):accN m n s o=accM m n s o:=by
 have W:=want_ok J h hr h6 hw
 exact(acc_ok (acc_answers h hr W.acc) h hr).2
structure MirOk(ta tb:Tab)(a b:Ed)(k:Int)(m:Msg)(y z:Ed)(r:Msg):Prop where
 ans:ansN m r=true
 fully:FullOk tb y
 fullz:FullOk ta z
 shut:z.opn=false
 no:r.code≠0→y=b∧z=a
 yes:(r.code=0→z.number=y.number)∧(r.code=0→(z.cells.length:Int)=wantL k a.cells.length r.count)∧(r.code=0→oppN z.cells y.cells=true)
theorem foll2 {m:Msg}(hm:MsgOk m)(hr:m.reply=false)(h3:m.kind=2):m.count=m.old.length:=by
 have hf:=hm.foll
 unfold follN at hf
 split at hf
 ·cases hf
 rename_i h1
 have hcode:m.code=0:=Decidable.byContradiction fun h2=>h1 ⟨hr,h2⟩
 rw[if_neg (by rw[hcode];simp),if_neg (by omega)]at hf
 simp only[Bool.and_eq_true,decide_eq_true_eq]at hf
 exact hf.2.2
theorem fin_shut(e:Ed)(m:Msg):(finE e m).opn=false:=by
 unfold finE
 split
 ·rfl
 split<;>rfl
theorem mir_ok {ta tb:Tab} {a b:Ed} {p:Int} {f:List Int} {k n:Int}(hA:FullOk ta a)(hB:FullOk tb b)(rA:Room ta a)(rB:Room tb b)(hc:b.cells=a.cells.map (mirr p))(hp:b.peer=p)(hn:b.number=a.number)(hk:b.known=false)(hbo:b.opn=false)(hao:a.opn=false)(hI:AskIs a ta f k n 0):
 MirOk ta tb a b k (askM a ta f k n) (recv b tb f (askM a ta f k n)).1 (finE (openE a (askM a ta f k n) 0) (recv b tb f (askM a ta f k n)).2) (recv b tb f (askM a ta f k n)).2:=by
 obtain⟨hm,hold,hspo⟩:=ask_msg hA hI
 have hx:=ask_full hA hI
 have hr:(askM a ta f k n).reply=false:=rfl
 have hkm:(askM a ta f k n).kind=k:=rfl
 have hnum:(askM a ta f k n).number=a.number:=rfl
 have hcand:∀s∈(askM a ta f k n).spots,s.slot<ta.length∧∀c∈ta.cells,c.slot≠s.slot:=by
  intro s hs
  have hs2:s∈(if k=1∨k=3 then candN (fullN ta a) f 8 else []):=hs
  split at hs2
  ·have:=cand_sok hA f 8 s hs2
   exact⟨this.2.1,this.2.2.2⟩
  ·cases hs2
 generalize askM a ta f k n=m at*
 have hchk:=(chkM_iff m).2 hm
 have R:=recv_ok (f:=f) hB rB hchk hr
 have hd:=recv_def (f:=f) hB hchk hr
 have hz:=finish_ok (m:=(recv b tb f m).2) hx rA rfl R.ans hcand
 refine⟨R.ans,R.full,hz,fin_shut _ _,fun h=>⟨R.refused h,?_⟩,?_⟩
 ·unfold finE
  rw[if_pos h]
  exact close_open hA.ed hao m 0
 by_cases h6:m.kind=6
 ·have hy:recv b tb f m=(clearE b m,accN m 0 [] []):=by rw[hd,if_pos h6]
  have hac:=(acc_ok (acc_answers hchk hr (clear_acc h6)) hchk hr).2
  rw[hac]at hy
  rw[hy]
  have hz2:finE (openE a m 0) (accM m 0 [] [])= { closE (openE a m 0)with known:=false,last:=msg0,reply:=msg0,cells:= [],number:=0}:=by
   unfold finE
   rw[if_neg (by simp[accM]),if_pos (show(accM m 0 [] []).kind=6 from h6)]
  rw[hz2]
  refine⟨fun _=>rfl,fun _=> ?_,fun _=>rfl⟩
  unfold wantL
  rw[if_neg (by omega),if_neg (by omega),if_pos (by omega)]
  rfl
 ·rw[if_neg h6,if_neg (by rw[hk];simp),if_neg (by rw[hbo];simp),if_neg (by rw[hnum,hn];simp)]at hd
  cases hw:wantN b tb f m with
  |none=>
   rw[hw]at hd
   rw[hd]
   have:(refN m 2).code≠0:=by rw[refN_eq hchk hr (by decide) (by decide)];show(2:Int)≠0;decide
   exact⟨fun h=>absurd h this,fun h=>absurd h this,fun h=>absurd h this⟩
  |some q=>
   obtain⟨n',s,o⟩:=q
   rw[hw]at hd
   dsimp only at hd
   rw[acc_want hB hchk hr h6 hw]at hd
   have W:=want_ok hB hchk hr h6 hw
   rw[hd]
   dsimp only
   have hfd:finE (openE a m 0) (accM m n' s o)=aftE (openE a m 0) (finL (openE a m 0) (accM m n' s o)):=finE_def rfl h6
   rw[hfd]
   have hmr:=fun s2=>chg_mirr (a:=a) (b:=b) (p:=p) hc hp (fun _ _=>trivial) o s2 true
   have hy2:(recvE b n' s o m).cells=chgN b o (if m.kind=5 then []else s) false:=rfl
   have key:∀s2,(if m.kind=5 then []else s)=s2→finL (openE a m 0) (accM m n' s o)=chgN a o s2 true→(∀x∈o,hasN a x true=true)→((o.length:Int)-s2.length=a.cells.length-wantL k a.cells.length n')→((accM m n' s o).code=0→(aftE (openE a m 0) (finL (openE a m 0) (accM m n' s o))).number=(recvE b n' s o m).number)∧((accM m n' s o).code=0→((aftE (openE a m 0) (finL (openE a m 0) (accM m n' s o))).cells.length:Int)=wantL k a.cells.length (accM m n' s o).count)∧((accM m n' s o).code=0→oppN (aftE (openE a m 0) (finL (openE a m 0) (accM m n' s o))).cells (recvE b n' s o m).cells=true):=by
    intro s2 e1 e2 e3 e4
    rw[e2]
    refine⟨fun _=> ?_,fun _=> ?_,fun _=> ?_⟩
    ·show nextN a.number=nextN b.number
     rw[hn]
    ·show((chgN a o s2 true).length:Int)=wantL k a.cells.length n'
     have:=chg_len (b:=true) (s:=s2) hA.ed.cells.asc e3 W.acc.oasc
     omega
    ·rw[hy2,e1]
     show oppN (chgN a o s2 true) (chgN b o s2 (!true))=true
     rw[hmr]
     exact opp_mirr _ _
   have k1:=hm.kind1
   have k6:=hm.kind
   have hck:(accM m n' s o).kind=m.kind:=rfl
   rcases(by omega:m.kind=1∨m.kind=2∨m.kind=3∨m.kind=4∨m.kind=5)with e|e|e|e|e
   ·obtain⟨q1,q2,q3,q4,q5⟩:=W.acc.k1 e
    refine key s (by rw[if_neg (by omega)]) ?_ (by rw[q3];simp) ?_
    ·unfold finL;rw[if_pos (by rw[hck];exact .inl e)];rfl
    ·unfold wantL;rw[if_pos (by omega),q3];simp;omega
   ·obtain⟨q1,q2,q3⟩:=W.acc.k2 e
    refine key [] (by rw[if_neg (by omega),q1]) ?_ (by rw[q2];exact hold) ?_
    ·unfold finL;rw[if_neg (by rw[hck];omega),if_pos (by rw[hck];exact e)];rfl
    ·have:=foll2 hm hr e
     unfold wantL;rw[if_neg (by omega),if_pos (by omega),q2];simp;omega
   ·obtain⟨q1,q2,q3,q4,q5,q6⟩:=W.acc.k3 e
    refine key s (by rw[if_neg (by omega)]) ?_ (fun x hx=>hold x (q6 x hx)) ?_
    ·unfold finL;rw[if_pos (by rw[hck];exact .inr e)];rfl
    ·unfold wantL;rw[if_neg (by omega),if_neg (by omega),if_neg (by omega)];omega
   ·obtain⟨q1,q2⟩:=W.acc.k4 e
    refine key [] (by rw[if_neg (by omega),q1]) ?_ (by rw[q2];simp) ?_
    ·unfold finL;rw[if_neg (by rw[hck];omega),if_neg (by rw[hck];omega),q2,chg_none];rfl
    ·unfold wantL;rw[if_neg (by omega),if_neg (by omega),if_neg (by omega),q2];simp
   ·obtain⟨q1,q2⟩:=W.acc.k5 e
    refine key [] (by rw[if_pos e]) ?_ (by rw[q1];simp) ?_
    ·unfold finL;rw[if_neg (by rw[hck];omega),if_neg (by rw[hck];omega),q1,chg_none];rfl
    ·unfold wantL;rw[if_neg (by omega),if_neg (by omega),if_neg (by omega),q1];simp
theorem recvC_iff' {e:Ed} {t:Tab} {m:Msg}:recvC e t m=0↔FullOk t e∧chkM m=0∧m.reply=false:=by
 unfold recvC
 rw[←fullC_iff]
 constructor
 ·intro h
  split at h
  ·exact absurd h (by assumption)
  rename_i h1
  split at h
  ·cases h
  rename_i h2
  simp only[not_or,Decidable.not_not,Bool.not_eq_true]at h1 h2
  exact⟨h1,h2.1,h2.2⟩
 ·rintro⟨a,b,c⟩
  rw[if_neg (by rw[a];simp),if_neg (by rw[b,c];simp)]
theorem askE_eq {t:Tab} {e:Ed} {f:List Int} {k n s:Int}(h:askC e t f k n s=0):askE e t f k n s=openE e (askM e t f k n) s∧askN e t f k n s=askM e t f k n:=by
 unfold askE askN
 rw[if_pos h,if_pos h]
 exact⟨rfl,rfl⟩
structure MirLaw(ta tb:Tab)(a b:Ed)(f:List Int)(k n:Int)(m:Msg)(x y z:Ed)(r:Msg):Prop where
 e1:askE a ta f k n 0=x
 e2:askN a ta f k n 0=m
 c1:recvC b tb m=0
 e3:recv b tb f m=(y,r)
 c2:finC x r=0
 e4:finN x r=z
 cy:chkE y=0
 cz:chkE z=0
 zo:z.opn=false
 xn:x.number=a.number
 f1:fullC ta z=0
 f2:fullC tb y=0
 no:r.code≠0→y=b∧z=a
 yes:(r.code=0→z.number=y.number)∧(r.code=0→(z.cells.length:Int)=wantL k a.cells.length r.count)∧(r.code=0→oppN z.cells y.cells=true)
 r0:0≤r.count
 r1:r.count≤512
theorem mir_law {ta tb:Tab} {a b:Ed} {p:Int} {f:List Int} {k n:Int}(hA:FullOk ta a)(hB:FullOk tb b)(rA:Room ta a)(rB:Room tb b)(hc:b.cells=a.cells.map (mirr p))(hp:b.peer=p)(hn:b.number=a.number)(hk:b.known=false)(hbo:b.opn=false)(hao:a.opn=false)(h:askC a ta f k n 0=0):∃m x y z r,MirLaw ta tb a b f k n m x y z r:=by
 have hI:=(askC_iff hA).1 h
 have O:=mir_ok (f:=f) hA hB rA rB hc hp hn hk hbo hao hI
 obtain⟨hm,_,_⟩:=ask_msg hA hI
 have hX:=ask_full hA hI
 obtain⟨e1,e2⟩:=askE_eq h
 obtain⟨_,hr,_⟩:=ans_ok O.ans
 have hc2:finC (openE a (askM a ta f k n) 0) (recv b tb f (askM a ta f k n)).2=0:=by
  unfold finC
  rw[if_neg (by rw[(chkE_iff _).2 hX.ed];simp),if_neg (by show¬(true=false);decide),if_neg (by show¬(ansN (askM a ta f k n) _=false);rw[O.ans];simp)]
 exact⟨_,_,_,_,_,⟨e1,e2,recvC_iff'.2 ⟨hB,(chkM_iff _).2 hm,rfl⟩,rfl,hc2,finN_ok hc2,(chkE_iff _).2 O.fully.ed,(chkE_iff _).2 O.fullz.ed,O.shut,rfl,(fullC_iff _ _).2 O.fullz,(fullC_iff _ _).2 O.fully,O.no,O.yes,hr.count0,hr.count⟩⟩
end Tx
end Go.Proofs.YtfamifgchgolpaaGreat
