/- Chapter 27, plain: what the functions compute, and what stands behind an exchange. -/
import Derived.Test.YtfamifgchgolpaaGreatBv
set_option linter.unusedVariables false
set_option linter.unusedSimpArgs false
namespace Go.Proofs.YtfamifgchgolpaaGreat
namespace Tx
structure Fate where
 request:Bool
 reply:Bool
 requestAck:Bool
 replyAck:Bool
deriving DecidableEq,Inhabited
structure Wsh where
 other:Bool
 kind:Int
 count:Int
 fate:Fate
deriving DecidableEq,Inhabited
def pairB(a b:Ed):Bool:=decide (chkE a=0)&&(decide (chkE b=0)&&(decide (a.node=b.peer)&&decide (a.peer=b.node)))
def consB(a b:Ed):Bool:=pairB a b&&(decide (a.number=b.number)&&oppN a.cells b.cells)
def detB(a b:Ed):Bool:=pairB a b&& !decide (a.number=b.number)
def idleB(a b:Ed)(ta tb:Tab):Bool:=pairB a b&&(decide (ta.length=tb.length)&&(decide (fullC ta a=0)&&decide (fullC tb b=0)))
def idleC(a b:Ed)(ta tb:Tab):Int:=if idleB a b ta tb=false then 1 else if a.opn=true∨b.opn=true then 12 else 0
def gotN(b:Ed)(tb:Tab)(f:List Int)(m:Msg)(x:Fate):Ed×Msg:=if x.requestAck=true then recv (recv b tb f m).1 tb f m else recv b tb f m
def runN(a b:Ed)(ta tb:Tab)(f:List Int)(kind count:Int)(x:Fate):Ed×Ed×Int:=
 if x.request=true then(closE (askE a ta f kind count 0),b,-1)
 else if x.reply=true then(closE (askE a ta f kind count 0),(gotN b tb f (askN a ta f kind count 0) x).1,-1)
 else(finN (askE a ta f kind count 0) (gotN b tb f (askN a ta f kind count 0) x).2,(gotN b tb f (askN a ta f kind count 0) x).1,(gotN b tb f (askN a ta f kind count 0) x).2.code)
def exC(a b:Ed)(ta tb:Tab)(f:List Int)(kind count:Int):Int:=if idleC a b ta tb≠0 then idleC a b ta tb else askC a ta f kind count 0
def exN(a b:Ed)(ta tb:Tab)(f:List Int)(kind count:Int)(x:Fate):Ed×Ed×Int:=if exC a b ta tb f kind count=0 then runN a b ta tb f kind count x else(ed0,ed0,0)
def wishN(ta tb:Tab)(f:List Int)(a b:Ed)(w:Wsh):Ed×Ed:=
 if w.other=true then(if askC b tb f w.kind w.count 0=0 then((runN b a tb ta f w.kind w.count w.fate).2.1,(runN b a tb ta f w.kind w.count w.fate).1)else(a,b))
 else(if askC a ta f w.kind w.count 0=0 then((runN a b ta tb f w.kind w.count w.fate).1,(runN a b ta tb f w.kind w.count w.fate).2.1)else(a,b))
def wishesN(ta tb:Tab)(f:List Int):List Wsh→Ed→Ed→Ed×Ed
 | [],a,b=>(a,b)
 |w::l,a,b=>wishesN ta tb f l (wishN ta tb f a b w).1 (wishN ta tb f a b w).2
def boolsN(ta tb:Tab)(f:List Int):List Wsh→Ed→Ed→List Bool
 | [],_,_=> []
 |w::l,a,b=>consB (wishN ta tb f a b w).1 (wishN ta tb f a b w).2::boolsN ta tb f l (wishN ta tb f a b w).1 (wishN ta tb f a b w).2
def playC(a b:Ed)(ta tb:Tab)(l:List Wsh):Int:=if idleC a b ta tb≠0 then idleC a b ta tb else if 4096<l.length then 8 else 0
theorem wishes_snoc(ta tb:Tab)(f:List Int):∀(l:List Wsh) (w:Wsh) (a b:Ed),wishesN ta tb f (l++ [w]) a b=wishN ta tb f (wishesN ta tb f l a b).1 (wishesN ta tb f l a b).2 w
 | [],_,_,_=>rfl
 |x::l,w,a,b=>by
  rw[List.cons_append]
  exact wishes_snoc ta tb f l w _ _
theorem bools_snoc(ta tb:Tab)(f:List Int):∀(l:List Wsh) (w:Wsh) (a b:Ed),boolsN ta tb f (l++ [w]) a b=boolsN ta tb f l a b++ [consB (wishesN ta tb f (l++ [w]) a b).1 (wishesN ta tb f (l++ [w]) a b).2]
 | [],_,_,_=>rfl
 |x::l,w,a,b=>by
  rw[List.cons_append]
  show _::boolsN ta tb f (l++ [w]) _ _= _::(_++ _)
  rw[bools_snoc ta tb f l w]
  rfl
theorem bools_len(ta tb:Tab)(f:List Int):∀(l:List Wsh) (a b:Ed),(boolsN ta tb f l a b).length=l.length
 | [],_,_=>rfl
 |x::l,a,b=>by
  show(boolsN ta tb f l _ _).length+1=l.length+1
  rw[bools_len ta tb f l]
structure Idle(a b:Ed)(ta tb:Tab):Prop where
 fa:FullOk ta a
 fb:FullOk tb b
 ab:a.node=b.peer
 ba:a.peer=b.node
 len:ta.length=tb.length
 oa:a.opn=false
 ob:b.opn=false
theorem pairB_iff {a b:Ed}:pairB a b=true↔EdOk a∧EdOk b∧a.node=b.peer∧a.peer=b.node:=by
 unfold pairB
 simp only[Bool.and_eq_true,decide_eq_true_eq,chkE_iff]
theorem idleB_iff {a b:Ed} {ta tb:Tab}:idleB a b ta tb=true↔FullOk ta a∧FullOk tb b∧a.node=b.peer∧a.peer=b.node∧ta.length=tb.length:=by
 unfold idleB
 simp only[Bool.and_eq_true,decide_eq_true_eq,fullC_iff,pairB_iff]
 constructor
 ·rintro⟨⟨_,_,a1,a2⟩,a3,a4,a5⟩;exact⟨a4,a5,a1,a2,a3⟩
 ·rintro⟨a4,a5,a1,a2,a3⟩;exact⟨⟨a4.ed,a5.ed,a1,a2⟩,a3,a4,a5⟩
theorem idleC_iff {a b:Ed} {ta tb:Tab}:idleC a b ta tb=0↔Idle a b ta tb:=by
 unfold idleC
 constructor
 ·intro h
  split at h
  ·cases h
  split at h
  ·cases h
  rename_i h1 h2
  rw[Bool.not_eq_false]at h1
  obtain⟨a1,a2,a3,a4,a5⟩:=idleB_iff.1 h1
  rw[not_or,Bool.not_eq_true,Bool.not_eq_true]at h2
  exact⟨a1,a2,a3,a4,a5,h2.1,h2.2⟩
 ·rintro⟨a1,a2,a3,a4,a5,a6,a7⟩
  rw[if_neg (by rw[idleB_iff.2 ⟨a1,a2,a3,a4,a5⟩];simp),if_neg (by rw[a6,a7];simp)]
theorem Idle.swap {a b:Ed} {ta tb:Tab}(h:Idle a b ta tb):Idle b a tb ta:=⟨h.fb,h.fa,h.ba.symm,h.ab.symm,h.len.symm,h.ob,h.oa⟩
theorem Idle.pair {a b:Ed} {ta tb:Tab}(h:Idle a b ta tb):pairB a b=true:=pairB_iff.2 ⟨h.fa.ed,h.fb.ed,h.ab,h.ba⟩
inductive RecvIs (b:Ed) (tb:Tab) (f:List Int) (m:Msg):Ed→Msg→Prop where
 |clear (h6:m.kind=6):RecvIs b tb f m (clearE b m) (accM m 0 [] [])
 |again (h6:m.kind≠6) (hk:b.known=true) (hm:m=b.last):RecvIs b tb f m b b.reply
 |number (h6:m.kind≠6) (hk:¬(b.known=true∧m=b.last)) (hn:m.number≠b.number):RecvIs b tb f m b ⟨m.kind,true,m.number,1,0,[],[]⟩
 |cells (h6:m.kind≠6) (hk:¬(b.known=true∧m=b.last)) (hn:m.number=b.number):RecvIs b tb f m b ⟨m.kind,true,m.number,2,0,[],[]⟩
 |yes (h6:m.kind≠6) (hk:¬(b.known=true∧m=b.last)) (hn:m.number=b.number) (n:Int) (s o:List Spt) (hw:wantN b tb f m=some (n,s,o)):RecvIs b tb f m (recvE b n s o m) (accM m n s o)
theorem recv_is {b:Ed} {tb:Tab} {f:List Int} {m:Msg}(J:FullOk tb b)(h:chkM m=0)(hr:m.reply=false)(ho:b.opn=false):RecvIs b tb f m (recv b tb f m).1 (recv b tb f m).2:=by
 have hd:=recv_def (f:=f) J h hr
 by_cases h6:m.kind=6
 ·rw[hd,if_pos h6,(acc_ok (acc_answers h hr (clear_acc h6)) h hr).2]
  exact .clear h6
 rw[if_neg h6]at hd
 by_cases hk:b.known=true∧m=b.last
 ·rw[hd,if_pos hk]
  exact .again h6 hk.1 hk.2
 rw[if_neg hk,if_neg (by rw[ho];simp)]at hd
 by_cases hn:m.number≠b.number
 ·rw[hd,if_pos hn,refN_eq h hr (by decide) (by decide)]
  exact .number h6 hk hn
 rw[if_neg hn]at hd
 rw[Decidable.not_not]at hn
 cases hw:wantN b tb f m with
 |none=>
  rw[hw]at hd
  rw[hd]
  dsimp only
  rw[refN_eq h hr (by decide) (by decide)]
  exact .cells h6 hk hn
 |some q=>
  obtain⟨n,s,o⟩:=q
  rw[hw]at hd
  rw[hd]
  dsimp only
  rw[acc_want J h hr h6 hw]
  exact .yes h6 hk hn n s o hw
theorem RecvIs.fix {b:Ed} {tb:Tab} {f:List Int} {m:Msg} {y:Ed} {r:Msg}(h:RecvIs b tb f m y r)(ho:b.opn=false):y.opn=false∧y.node=b.node∧y.peer=b.peer:=by
 cases h with
 |clear _=>exact⟨rfl,rfl,rfl⟩
 |again _ _ _=>exact⟨ho,rfl,rfl⟩
 |number _ _ _=>exact⟨ho,rfl,rfl⟩
 |cells _ _ _=>exact⟨ho,rfl,rfl⟩
 |yes _ _ _ n s o _=>exact⟨ho,rfl,rfl⟩
theorem next_ne(n:Int):nextN n≠n:=by unfold nextN;split;omega;split<;>omega
theorem known_is {b:Ed}(h:EdOk b)(hk:b.known=true):ansN b.last b.reply=true∧b.reply.code=0∧(b.last.kind=6→b.number=0)∧(b.last.kind≠6→b.number=nextN b.last.number):=by
 have hkn:=h.known
 unfold knownOk at hkn
 rw[if_neg (by rw[hk];simp)]at hkn
 simp only[Bool.and_eq_true,decide_eq_true_eq]at hkn
 obtain⟨h1,h2,h3⟩:=hkn
 exact⟨h1,h2,fun e=>by rw[h3,if_pos e],fun e=>by rw[h3,if_neg e]⟩
structure RunIs(a b:Ed)(ta tb:Tab)(f:List Int)(k n:Int)(m:Msg)(y:Ed)(r:Msg)(z:Ed):Prop where
 e1:askE a ta f k n 0=openE a m 0
 e2:askN a ta f k n 0=m
 kind:m.kind=k
 num:m.number=a.number
 hm:MsgOk m
 hr:m.reply=false
 c1:recvC b tb m=0
 got:∀x:Fate,gotN b tb f m x=(y,r)
 one:recv b tb f m=(y,r)
 rcv:RecvIs b tb f m y r
 ans:ansN m r=true
 back:closE (openE a m 0)=a
 exp:expB (openE a m 0) 0 0=true
 fin:finN (openE a m 0) r=z
 finE_:finE (openE a m 0) r=z
 c2:finC (openE a m 0) r=0
 fy:FullOk tb y
 fz:FullOk ta z
 fo:FullOk ta (openE a m 0)
 oy:y.opn=false
 oz:z.opn=false
 ny:y.node=b.node∧y.peer=b.peer
 nz:z.node=a.node∧z.peer=a.peer
theorem fin_ids(e:Ed)(m:Msg):(finE e m).node=e.node∧(finE e m).peer=e.peer:=by
 unfold finE
 split
 ·exact⟨rfl,rfl⟩
 split<;>exact⟨rfl,rfl⟩
theorem run_is {a b:Ed} {ta tb:Tab} {f:List Int} {k n:Int}(h:Idle a b ta tb)(rA:Room ta a)(rB:Room tb b)(h0:askC a ta f k n 0=0):∃m y r z,RunIs a b ta tb f k n m y r z:=by
 have hI:=(askC_iff h.fa).1 h0
 obtain⟨hm,_,_⟩:=ask_msg h.fa hI
 have hX:=ask_full h.fa hI
 obtain⟨e1,e2⟩:=askE_eq h0
 have hcand:∀s∈(askM a ta f k n).spots,s.slot<ta.length∧∀c∈ta.cells,c.slot≠s.slot:=by
  intro s hs
  have hs2:s∈(if k=1∨k=3 then candN (fullN ta a) f 8 else []):=hs
  split at hs2
  ·have:=cand_sok h.fa f 8 s hs2
   exact⟨this.2.1,this.2.2.2⟩
  ·cases hs2
 have hr:(askM a ta f k n).reply=false:=rfl
 have hkm:(askM a ta f k n).kind=k:=rfl
 have hnum:(askM a ta f k n).number=a.number:=rfl
 generalize askM a ta f k n=m at*
 have hchk:=(chkM_iff m).2 hm
 have R:=recv_ok (f:=f) h.fb rB hchk hr
 have hi:=recv_is (f:=f) h.fb hchk hr h.ob
 have hz:=finish_ok (m:=(recv b tb f m).2) hX rA rfl R.ans hcand
 have hc2:finC (openE a m 0) (recv b tb f m).2=0:=by
  unfold finC
  rw[if_neg (by rw[(chkE_iff _).2 hX.ed];simp),if_neg (by show¬(true=false);decide),if_neg (by show¬(ansN m _=false);rw[R.ans];simp)]
 have hx:expB (openE a m 0) 0 0=true:=by
  unfold expB
  rw[(chkE_iff _).2 hX.ed]
  show(decide ((0:Int)=0)&&(true&&(decide ((0:Int)≤0)&&decide ((0:Int)≤0-0))))=true
  decide
 have hfx:=hi.fix h.ob
 refine⟨m,(recv b tb f m).1,(recv b tb f m).2,finE (openE a m 0) (recv b tb f m).2,⟨e1,e2,hkm,hnum,hm,hr,recvC_iff'.2 ⟨h.fb,hchk,hr⟩,fun x=> ?_,rfl,hi,R.ans,close_open h.fa.ed h.oa m 0,hx,finN_ok hc2,rfl,hc2,R.full,hz,hX,hfx.1,fin_shut _ _,hfx.2,fin_ids _ _⟩⟩
 unfold gotN
 split
 ·exact R.again
 ·rfl
theorem RunIs.run {a b:Ed} {ta tb:Tab} {f:List Int} {k n:Int} {m:Msg} {y:Ed} {r:Msg} {z:Ed}(h:RunIs a b ta tb f k n m y r z)(x:Fate):runN a b ta tb f k n x=if x.request=true then(a,b,-1)else if x.reply=true then(a,y,-1)else(z,y,r.code):=by
 unfold runN
 rw[h.e1,h.e2,h.got,h.back,h.fin]
theorem RunIs.idle {a b:Ed} {ta tb:Tab} {f:List Int} {k n:Int} {m:Msg} {y:Ed} {r:Msg} {z:Ed}(h:RunIs a b ta tb f k n m y r z)(hi:Idle a b ta tb)(x:Fate):Idle (runN a b ta tb f k n x).1 (runN a b ta tb f k n x).2.1 ta tb:=by
 rw[h.run]
 split
 ·exact hi
 split
 ·exact⟨hi.fa,h.fy,by rw[h.ny.2];exact hi.ab,by rw[h.ny.1];exact hi.ba,hi.len,hi.oa,h.oy⟩
 ·exact⟨h.fz,h.fy,by rw[h.ny.2,h.nz.1];exact hi.ab,by rw[h.ny.1,h.nz.2];exact hi.ba,hi.len,h.oz,h.oy⟩
theorem opp_map {p:Int} {a b:List TCl}(h:oppN a b=true)(hb:∀c∈b,c.kind=2∧c.flow= -1∧c.peer=p)(ha:∀c∈a,c.kind=2∧c.flow= -1):b=a.map (mirr p):=by
 unfold oppN at h
 rw[Bool.and_eq_true,decide_eq_true_eq]at h
 obtain⟨hl,h⟩:=h
 refine List.ext_getElem (by rw[List.length_map];exact hl.symm) fun i h1 h2=> ?_
 rw[List.length_map]at h2
 have h3:=Sw.all_range h h2
 simp only[Bool.and_eq_true,decide_eq_true_eq]at h3
 have e1:a.getD i default=a[i]:=by rw[List.getD_eq_getElem?_getD,List.getElem?_eq_getElem h2];rfl
 have e2:b.getD i default=b[i]:=by rw[List.getD_eq_getElem?_getD,List.getElem?_eq_getElem h1];rfl
 rw[e1,e2]at h3
 rw[List.getElem_map]
 obtain⟨q1,q2,q3⟩:=hb _ (List.getElem_mem h1)
 obtain⟨p1,p2⟩:=ha _ (List.getElem_mem h2)
 generalize a[i]=x at*
 generalize b[i]=z at*
 obtain⟨x1,x2,x3,x4,x5,x6⟩:=x
 obtain⟨z1,z2,z3,z4,z5,z6⟩:=z
 dsimp only at*
 unfold mirr
 dsimp only
 obtain⟨s1,s2,s3⟩:=h3
 subst q1 q2 q3 p1 p2 s1 s2
 congr 1
 cases x4<;>cases z4<;>simp_all
theorem opp_cells {a b:Ed}(ha:EdOk a)(hb:EdOk b)(h:oppN a.cells b.cells=true):b.cells=a.cells.map (mirr b.peer):=opp_map h (fun c hc=>⟨(hb.cells.each c hc).kind,(hb.cells.each c hc).flow,(hb.cells.each c hc).peer⟩) (fun c hc=>⟨(ha.cells.each c hc).kind,(ha.cells.each c hc).flow⟩)
theorem opp_comm {a b:List TCl}(h:oppN a b=true):oppN b a=true:=by
 unfold oppN at*
 rw[Bool.and_eq_true,decide_eq_true_eq]at*
 refine⟨h.1.symm,Sw.all_range_true fun i hi=> ?_⟩
 have h3:=Sw.all_range h.2 (by rw[h.1];exact hi)
 simp only[Bool.and_eq_true,decide_eq_true_eq]at*
 exact⟨h3.1.symm,h3.2.1.symm,fun e=>h3.2.2 e.symm⟩
theorem acc_opp {a b:Ed} {p:Int} {tb:Tab} {f:List Int} {m:Msg} {n':Int} {s o:List Spt}(hB:FullOk tb b)(hc:b.cells=a.cells.map (mirr p))(hp:b.peer=p)(hm:MsgOk m)(hr:m.reply=false)(h6:m.kind≠6)(hw:wantN b tb f m=some (n',s,o)):oppN (finL a (accM m n' s o)) (recvE b n' s o m).cells=true:=by
 have hchk:=(chkM_iff m).2 hm
 have W:=want_ok hB hchk hr h6 hw
 have hmr:=fun s2=>chg_mirr (a:=a) (b:=b) (p:=p) hc hp (fun _ _=>trivial) o s2 true
 have hy2:(recvE b n' s o m).cells=chgN b o (if m.kind=5 then []else s) false:=rfl
 have key:∀s2,(if m.kind=5 then []else s)=s2→finL a (accM m n' s o)=chgN a o s2 true→oppN (finL a (accM m n' s o)) (recvE b n' s o m).cells=true:=by
  intro s2 e1 e2
  rw[e2,hy2,e1]
  show oppN (chgN a o s2 true) (chgN b o s2 (!true))=true
  rw[hmr]
  exact opp_mirr _ _
 have k1:=hm.kind1
 have k6:=hm.kind
 have hck:(accM m n' s o).kind=m.kind:=rfl
 rcases(by omega:m.kind=1∨m.kind=2∨m.kind=3∨m.kind=4∨m.kind=5)with e|e|e|e|e
 ·refine key s (by rw[if_neg (by omega)]) ?_
  unfold finL;rw[if_pos (by rw[hck];exact .inl e)];rfl
 ·obtain⟨q1,q2,q3⟩:=W.acc.k2 e
  refine key [] (by rw[if_neg (by omega),q1]) ?_
  unfold finL;rw[if_neg (by rw[hck];omega),if_pos (by rw[hck];exact e)];rfl
 ·refine key s (by rw[if_neg (by omega)]) ?_
  unfold finL;rw[if_pos (by rw[hck];exact .inr e)];rfl
 ·obtain⟨q1,q2⟩:=W.acc.k4 e
  refine key [] (by rw[if_neg (by omega),q1]) ?_
  unfold finL;rw[if_neg (by rw[hck];omega),if_neg (by rw[hck];omega),q2,chg_none]
 ·obtain⟨q1,q2⟩:=W.acc.k5 e
  refine key [] (by rw[if_pos e]) ?_
  unfold finL;rw[if_neg (by rw[hck];omega),if_neg (by rw[hck];omega),q1,chg_none]
theorem fin_aft {a:Ed} {m r:Msg}(hc:r.code=0)(h6:r.kind≠6):finE (openE a m 0) r=aftE (openE a m 0) (finL a r):=finE_def hc h6
theorem fin_no {a:Ed} {m r:Msg}(hc:r.code≠0)(hb:closE (openE a m 0)=a):finE (openE a m 0) r=a:=by
 unfold finE
 rw[if_pos hc]
 exact hb
theorem fin_clr {a:Ed} {m r:Msg}(hc:r.code=0)(h6:r.kind=6):(finE (openE a m 0) r).number=0∧(finE (openE a m 0) r).cells= []∧(finE (openE a m 0) r).known=false:=by
 unfold finE
 rw[if_neg (by rw[hc];simp),if_pos h6]
 exact⟨rfl,rfl,rfl⟩
structure Losses(a b:Ed)(m:Msg)(y:Ed)(r:Msg)(z:Ed):Prop where
 reply:consB a y=decide (y.number=b.number)
 c1:r.code≠1
 c3:r.code≠3
 both:consB z y=true
theorem nil_of {e:Ed}(h:EdOk e)(h0:e.number=0):e.cells= []:=by
 rcases h.cells.num with h1|h1
 ·exact absurd h0 h1
 ·exact h1
theorem losses_ok {a b:Ed} {ta tb:Tab} {f:List Int} {k n:Int} {m:Msg} {y:Ed} {r:Msg} {z:Ed}(hi:Idle a b ta tb)(h:RunIs a b ta tb f k n m y r z)(hc:consB a b=true):Losses a b m y r z:=by
 unfold consB at hc
 simp only[Bool.and_eq_true,decide_eq_true_eq]at hc
 obtain⟨_,hn,ho⟩:=hc
 have pay:pairB a y=true:=pairB_iff.2 ⟨hi.fa.ed,h.fy.ed,by rw[h.ny.2];exact hi.ab,by rw[h.ny.1];exact hi.ba⟩
 have pzy:pairB z y=true:=pairB_iff.2 ⟨h.fz.ed,h.fy.ed,by rw[h.ny.2,h.nz.1];exact hi.ab,by rw[h.ny.1,h.nz.2];exact hi.ba⟩
 have hnum:=h.num
 have hm:=h.hm
 have hr:=h.hr
 have hfin:=h.finE_
 have hback:=h.back
 have hrec:=h.rcv
 have hfy:=h.fy
 clear h
 cases hrec with
 |clear h6=>
  obtain⟨q1,q2,q3⟩:=fin_clr (a:=a) (m:=m) (r:=accM m 0 [] []) rfl h6
  rw[hfin]at q1 q2 q3
  refine⟨?_,by show(0:Int)≠1;decide,by show(0:Int)≠3;decide,?_⟩
  ·unfold consB
   rw[pay,Bool.true_and]
   show(decide (a.number=0)&&oppN a.cells [])=decide ((0:Int)=b.number)
   by_cases h0:a.number=0
   ·rw[nil_of hi.fa.ed h0,←hn,h0];rfl
   ·rw[decide_eq_false h0,←hn,decide_eq_false (fun e=>h0 e.symm)];rfl
  ·unfold consB
   rw[pzy,q1,q2];rfl
 |again h6 hk hm2=>
  obtain⟨_,_,_,k4⟩:=known_is hi.fb.ed hk
  have:=k4 (by rw[←hm2];exact h6)
  rw[←hm2,hnum,hn]at this
  exact absurd this.symm (next_ne _)
 |number h6 hk hx=>exact absurd (by rw[hnum,hn]) hx
 |cells h6 hk hx=>
  have e1:=fin_no (a:=a) (m:=m) (r:=⟨m.kind,true,m.number,2,0,[],[]⟩) (by show(2:Int)≠0;decide) hback
  rw[hfin]at e1
  subst e1
  refine⟨?_,by show(2:Int)≠1;decide,by show(2:Int)≠3;decide,?_⟩
  ·unfold consB
   rw[pay,hn,ho];simp
  ·unfold consB
   rw[pay,hn,ho];simp
 |yes h6 hk hx n' s o hw=>
  have hyn:(recvE b n' s o m).number=nextN b.number:=rfl
  have hop:=acc_opp hi.fb (opp_cells hi.fa.ed hi.fb.ed ho) rfl hm hr h6 hw
  have hfd:=fin_aft (a:=a) (m:=m) (r:=accM m n' s o) rfl h6
  rw[hfin]at hfd
  refine⟨?_,by show(0:Int)≠1;decide,by show(0:Int)≠3;decide,?_⟩
  ·unfold consB
   rw[hyn,←hn,decide_eq_false (fun e=>next_ne _ e.symm),decide_eq_false (next_ne _)]
   simp
  ·unfold consB
   rw[pzy,hyn,←hn,hfd,Bool.true_and]
   show(decide (nextN a.number=nextN a.number)&&oppN (finL a (accM m n' s o)) (recvE b n' s o m).cells)=true
   rw[hop]
   simp
structure Detects(a b:Ed)(m:Msg)(y:Ed)(r:Msg)(z:Ed):Prop where
 same:y=b
 code:r.code≠1→b.known=true∧b.last.number=a.number
 no:r.code=1→z=a
theorem detects_ok {a b:Ed} {ta tb:Tab} {f:List Int} {k n:Int} {m:Msg} {y:Ed} {r:Msg} {z:Ed}(h:RunIs a b ta tb f k n m y r z)(hd:a.number≠b.number)(h6:k≠6):Detects a b m y r z:=by
 have hnum:=h.num
 have hkind:=h.kind
 have hfin:=h.finE_
 have hback:=h.back
 have hrec:=h.rcv
 clear h
 cases hrec with
 |clear e6=>exact absurd (hkind.symm.trans e6) h6
 |again _ hk hm2=>
  refine⟨rfl,fun _=>⟨hk,by rw[←hm2];exact hnum⟩,fun e=> ?_⟩
  rw[←hfin]
  exact fin_no (by rw[e];decide) hback
 |number _ hk hx=>
  refine⟨rfl,fun e=>absurd rfl e,fun e=> ?_⟩
  rw[←hfin]
  exact fin_no (by rw[e];decide) hback
 |cells _ hk hx=>exact absurd (hnum.symm.trans hx) hd
 |yes _ hk hx n' s o hw=>exact absurd (hnum.symm.trans hx) hd
structure Clears(a:Ed)(y:Ed)(r:Msg)(z:Ed):Prop where
 c0:r.code=0
 yn:y.number=0
 yc:y.cells= []
 zn:z.number=0
 zc:z.cells= []
 both:consB z y=true
theorem clears_ok {a b:Ed} {ta tb:Tab} {f:List Int} {n:Int} {m:Msg} {y:Ed} {r:Msg} {z:Ed}(hi:Idle a b ta tb)(h:RunIs a b ta tb f 6 n m y r z):Clears a y r z:=by
 have pzy:pairB z y=true:=pairB_iff.2 ⟨h.fz.ed,h.fy.ed,by rw[h.ny.2,h.nz.1];exact hi.ab,by rw[h.ny.1,h.nz.2];exact hi.ba⟩
 have hkind:=h.kind
 have hfin:=h.finE_
 have hrec:=h.rcv
 clear h
 cases hrec with
 |clear e6=>
  obtain⟨q1,q2,q3⟩:=fin_clr (a:=a) (m:=m) (r:=accM m 0 [] []) rfl e6
  rw[hfin]at q1 q2 q3
  refine⟨rfl,rfl,rfl,q1,q2,?_⟩
  unfold consB
  rw[pzy,q1,q2];rfl
 |again e6 _ _=>exact absurd hkind e6
 |number e6 _ _=>exact absurd hkind e6
 |cells e6 _ _=>exact absurd hkind e6
 |yes e6 _ _ _ _ _ _=>exact absurd hkind e6
theorem clear_ask {a:Ed} {ta:Tab} {f:List Int}(J:FullOk ta a)(ho:a.opn=false):askC a ta f 6 0 0=0:=(askC_iff J).2 ⟨by decide,by decide,by decide,by decide,rfl,ho,fun h=>by omega,fun h=>by omega⟩
def Half(a b:Ed):Prop:=b.known=true→b.last.kind≠6→b.last.number=a.number→oppN (finL a b.reply) b.cells=true
def Zero(a b:Ed):Prop:=b.known=true→b.last.kind≠6→b.last.number=0→oppN (finL { a with cells:= []} b.reply) b.cells=true
structure Inv(a b:Ed):Prop where
 same:a.number=b.number→oppN a.cells b.cells=true
 hab:Half a b
 hba:Half b a
 zab:Zero a b
 zba:Zero b a
theorem Inv.swap {a b:Ed}(h:Inv a b):Inv b a:=⟨fun e=>opp_comm (h.same e.symm),h.hba,h.hab,h.zba,h.zab⟩
theorem finL_peer {a b:Ed}(r:Msg)(hp:a.peer=b.peer):finL { a with cells:= []} r=finL { b with cells:= []} r:=by
 unfold finL chgN newC
 dsimp only
 rw[hp]
theorem finL_same {a b:Ed}(r:Msg)(hp:a.peer=b.peer)(hc:a.cells=b.cells):finL a r=finL b r:=by
 unfold finL chgN newC
 rw[hp,hc]
theorem Zero.peer {a b c:Ed}(h:Zero a c)(hp:a.peer=b.peer):Zero b c:=fun h1 h2 h3=>by
 rw[←finL_peer _ hp]
 exact h h1 h2 h3
theorem next_next {n:Int}(h0:0≤n)(h:n≤255):nextN (nextN n)≠n:=by
 unfold nextN
 repeat' split
 all_goals omega
theorem Inv.run {a b:Ed} {ta tb:Tab} {f:List Int} {k n:Int} {m:Msg} {y:Ed} {r:Msg} {z:Ed}(hv:Inv a b)(hi:Idle a b ta tb)(h:RunIs a b ta tb f k n m y r z):Inv a y∧Inv z y:=by
 have hnum:=h.num
 have hm:=h.hm
 have hr:=h.hr
 have hfin:=h.finE_
 have hback:=h.back
 have hrec:=h.rcv
 have hzp:=h.nz.2
 clear h
 cases hrec with
 |clear h6=>
  obtain⟨q1,q2,q3⟩:=fin_clr (a:=a) (m:=m) (r:=accM m 0 [] []) rfl h6
  rw[hfin]at q1 q2 q3
  refine⟨⟨fun e=> ?_,fun _ e=>absurd h6 e,fun e1 e2 e3=> ?_,fun _ e=>absurd h6 e,?_⟩,⟨fun _=> ?_,fun _ e=>absurd h6 e,fun e1=> ?_,fun _ e=>absurd h6 e,fun e1=> ?_⟩⟩
  ·rw[nil_of hi.fa.ed (show a.number=0 from e)];rfl
  ·have e9:finL (clearE b m) a.reply=finL { b with cells:= []} a.reply:=finL_same _ rfl rfl
   rw[e9]
   exact hv.zba e1 e2 (show a.last.number=0 from e3)
  ·exact hv.zba.peer rfl
  ·rw[q2];rfl
  ·rw[q3]at e1;cases e1
  ·rw[q3]at e1;cases e1
 |again h6 hk hm2=>
  refine⟨hv,?_⟩
  obtain⟨k1,k2,_,k4⟩:=known_is hi.fb.ed hk
  have hbn:=k4 (by rw[←hm2];exact h6)
  rw[←hm2,hnum]at hbn
  have h62:b.reply.kind≠6:=by
   obtain⟨_,_,_,_,e5,_⟩:=ans_ok k1
   rw[←e5,←hm2];exact h6
  have hfd:=fin_aft (a:=a) (m:=m) k2 h62
  rw[hfin]at hfd
  have hzn:z.number=nextN a.number:=by rw[hfd];rfl
  have hzc:z.cells=finL a b.reply:=by rw[hfd];rfl
  have hzk:z.known=false:=by rw[hfd];rfl
  have hop:=hv.hab hk (by rw[←hm2];exact h6) (by rw[←hm2];exact hnum)
  refine⟨fun _=>by rw[hzc];exact hop,fun _ _ e3=> ?_,fun e1=> ?_,hv.zab.peer hzp.symm,fun e1=> ?_⟩
  ·rw[←hm2,hnum,hzn]at e3
   exact absurd e3.symm (next_ne _)
  ·rw[hzk]at e1;cases e1
  ·rw[hzk]at e1;cases e1
 |number h6 hk hx=>
  have e1:=fin_no (a:=a) (m:=m) (r:=⟨m.kind,true,m.number,1,0,[],[]⟩) (by show(1:Int)≠0;decide) hback
  rw[hfin]at e1
  subst e1
  exact⟨hv,hv⟩
 |cells h6 hk hx=>
  have e1:=fin_no (a:=a) (m:=m) (r:=⟨m.kind,true,m.number,2,0,[],[]⟩) (by show(2:Int)≠0;decide) hback
  rw[hfin]at e1
  subst e1
  exact⟨hv,hv⟩
 |yes h6 hk hx n' s o hw=>
  have hn:a.number=b.number:=hnum.symm.trans hx
  have hyn:(recvE b n' s o m).number=nextN a.number:=by rw[hn];rfl
  have hop:=acc_opp hi.fb (opp_cells hi.fa.ed hi.fb.ed (hv.same hn)) rfl hm hr h6 hw
  have hrep:(recvE b n' s o m).reply=accM m n' s o:=acc_want hi.fb ((chkM_iff m).2 hm) hr h6 hw
  have hfd:=fin_aft (a:=a) (m:=m) (r:=accM m n' s o) rfl h6
  rw[hfin]at hfd
  have hzn:z.number=nextN a.number:=by rw[hfd];rfl
  have hzc:z.cells=finL a (accM m n' s o):=by rw[hfd];rfl
  have hzk:z.known=false:=by rw[hfd];rfl
  have h0:=hi.fa.ed.num0
  have h1:=hi.fa.ed.num
  have zay:Zero a (recvE b n' s o m):=fun _ _ e3=>by
   have e4:a.number=0:=by rw[←hnum];exact e3
   have e9:finL { a with cells:= []} (recvE b n' s o m).reply=finL a (recvE b n' s o m).reply:=finL_same _ rfl (nil_of hi.fa.ed e4).symm
   rw[e9,hrep]
   exact hop
  refine⟨⟨fun e=> ?_,fun _ _ _=> ?_,fun e1 e2 e3=> ?_,zay,hv.zba.peer rfl⟩,⟨fun _=> ?_,fun _ _ e3=> ?_,fun e1=> ?_,zay.peer hzp.symm,fun e1=> ?_⟩⟩
  ·rw[hyn]at e;exact absurd e.symm (next_ne _)
  ·rw[hrep];exact hop
  ·obtain⟨_,_,_,k4⟩:=known_is hi.fa.ed e1
   have e4:=k4 e2
   rw[e3,hyn]at e4
   exact absurd e4.symm (next_next h0 h1)
  ·rw[hzc];exact hop
  ·have e4:m.number=z.number:=e3
   rw[hnum,hzn]at e4
   exact absurd e4.symm (next_ne _)
  ·rw[hzk]at e1;cases e1
  ·rw[hzk]at e1;cases e1
def Small2(t:Tab):Prop:=t.length≤64∧t.cells.length≤40
theorem asc_len64 {l:List TCl} {L:Int}(h:AscT l)(hb:∀c∈l,0≤c.slot∧c.slot<L):∀n:Nat,L=n→l.length≤n:=by
 intro n hn
 have:∀(l:List TCl) (k:Int),AscT l→(∀c∈l,k≤c.slot∧c.slot<L)→k≤L→k+l.length≤L:=by
  intro l
  induction l with
  |nil=>intro k _ _ hk;simpa using hk
  |cons c l ih=>
   intro k h hb _
   unfold AscT at h
   rw[List.pairwise_cons]at h
   have h1:=hb c (List.mem_cons_self ..)
   have:=ih (c.slot+1) h.2 (fun x hx=>⟨by have:=h.1 x hx;omega,(hb x (List.mem_cons_of_mem _ hx)).2⟩) (by omega)
   rw[List.length_cons];push_cast;omega
 have:=this l 0 h hb (by omega)
 omega
theorem room_small {t:Tab} {e:Ed}(hs:Small2 t)(J:FullOk t e):Room t e:=by
 have h1:=asc_len64 J.ed.cells.asc (fun c hc=>⟨(J.ed.cells.each c hc).slot0,J.inn c hc⟩) t.length.toNat (by have:=J.tab.len1;omega)
 obtain⟨h2,h3⟩:=hs
 unfold Room
 omega
theorem wish_keeps {ta tb:Tab} {f:List Int} {a b:Ed}(sa:Small2 ta)(sb:Small2 tb)(h:Idle a b ta tb)(w:Wsh):Idle (wishN ta tb f a b w).1 (wishN ta tb f a b w).2 ta tb∧(Inv a b→Inv (wishN ta tb f a b w).1 (wishN ta tb f a b w).2):=by
 have rA:=room_small sa h.fa
 have rB:=room_small sb h.fb
 unfold wishN
 split
 ·split
  ·rename_i h0
   obtain⟨m,y,r,z,hR⟩:=run_is h.swap rB rA h0
   refine⟨(hR.idle h.swap w.fate).swap,fun hv=> ?_⟩
   obtain⟨v1,v2⟩:=hv.swap.run h.swap hR
   rw[hR.run]
   split
   ·exact hv
   split
   ·exact v1.swap
   ·exact v2.swap
  ·exact⟨h,id⟩
 ·split
  ·rename_i h0
   obtain⟨m,y,r,z,hR⟩:=run_is h rA rB h0
   refine⟨hR.idle h w.fate,fun hv=> ?_⟩
   obtain⟨v1,v2⟩:=hv.run h hR
   rw[hR.run]
   split
   ·exact hv
   split
   ·exact v1
   ·exact v2
  ·exact⟨h,id⟩
theorem wishes_keep {ta tb:Tab} {f:List Int}(sa:Small2 ta)(sb:Small2 tb):∀(l:List Wsh) {a b:Ed},Idle a b ta tb→Idle (wishesN ta tb f l a b).1 (wishesN ta tb f l a b).2 ta tb∧(Inv a b→Inv (wishesN ta tb f l a b).1 (wishesN ta tb f l a b).2)
 | [],_,_,h=>⟨h,id⟩
 |w::l,a,b,h=>by
  obtain⟨h1,h2⟩:=wish_keeps sa sb (f:=f) h w
  obtain⟨h3,h4⟩:=wishes_keep sa sb (f:=f) l h1
  exact⟨h3,fun hv=>h4 (h2 hv)⟩
theorem inv_cons {a b:Ed} {ta tb:Tab}(hv:Inv a b)(hi:Idle a b ta tb):consB a b=decide (a.number=b.number):=by
 unfold consB
 rw[hi.pair,Bool.true_and]
 by_cases e:a.number=b.number
 ·rw[decide_eq_true e,hv.same e];rfl
 ·rw[decide_eq_false e];rfl
theorem inv_det {a b:Ed} {ta tb:Tab}(hi:Idle a b ta tb):detB a b= !decide (a.number=b.number):=by
 unfold detB
 rw[hi.pair,Bool.true_and]
theorem inv_start(n p:Int)(q s:Int):Inv (startE n p) (startE q s):=⟨fun _=>rfl,fun h=>(by cases h),fun h=>(by cases h),fun h=>(by cases h),fun h=>(by cases h)⟩
end Tx
end Go.Proofs.YtfamifgchgolpaaGreat
