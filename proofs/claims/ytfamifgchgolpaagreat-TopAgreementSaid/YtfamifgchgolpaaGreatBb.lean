/- Chapter 26: the data, and what the functions compute. -/
import Derived.Test.YtfamifgchgolpaaGreatBa
import Derived.Deep.Cut
import Derived.Deep.DeepCutAuto
import Derived.Deep.CutBlock
import Derived.Deep.RegionHeld3
import Derived.BigQuiet
import Derived.IntWalk
import Derived.Laws.EntriesVeiled
import Derived.Laws.StructEq
import Derived.Deep.MidRow
set_option linter.unusedVariables false
set_option linter.unusedSimpArgs false
namespace Go.Proofs.YtfamifgchgolpaaGreat
open Go Go.RowKit
namespace Tx
structure Spt where
 slot:Int
 off:Int
deriving DecidableEq,Inhabited
structure TCl where
 slot:Int
 off:Int
 kind:Int
 send:Bool
 peer:Int
 flow:Int
deriving DecidableEq,Inhabited
structure Msg where
 kind:Int
 reply:Bool
 number:Int
 code:Int
 count:Int
 spots:List Spt
 old:List Spt
deriving DecidableEq,Inhabited
structure Tab where
 node:Int
 length:Int
 cells:List TCl
deriving DecidableEq,Inhabited
structure Ed where
 node:Int
 peer:Int
 number:Int
 cells:List TCl
 opn:Bool
 since:Int
 asked:Msg
 known:Bool
 last:Msg
 reply:Msg
deriving DecidableEq,Inhabited
def msg0:Msg:=⟨0,false,0,0,0,[],[]⟩
def tab0:Tab:=⟨0,0,[]⟩
def ed0:Ed:=⟨0,0,0,[],false,0,msg0,false,msg0,msg0⟩
def fstF(F:Nat→Int)(n:Nat):Int:=match(List.range n).find? (fun i=>F i !=0)with
 |some i=>F i
 |none=>0
def faultP(l:List Spt)(i:Nat):Int:=
 if(l.getD i default).slot<0∨512≤(l.getD i default).slot∨(l.getD i default).off<0∨16≤(l.getD i default).off then 2
 else if 0<i∧(l.getD i default).slot≤(l.getD (i-1) default).slot then 5 else 0
def placesN(l:List Spt):Int:=fstF (faultP l) l.length
def follN(m:Msg):Bool:=
 if m.reply=false∧m.code≠0 then false
 else if m.code≠0 then decide (m.count=0)&&(decide (m.spots.length=0)&&decide (m.old.length=0))
 else if m.kind=1 then decide (m.old.length=0)&&(decide (1≤m.count)&&(decide (m.count≤8)&&(decide (m.count=m.spots.length)||(!m.reply&&decide (m.count<m.spots.length)))))
 else if m.kind=2 then decide (m.spots.length=0)&&(decide (1≤m.old.length)&&decide (m.count=m.old.length))
 else if m.kind=3 then decide (1≤m.old.length)&&(decide (m.count=m.old.length)&&(decide (m.spots.length=m.old.length)||(!m.reply&&decide (m.old.length<m.spots.length))))
 else if m.kind=4 then decide (m.spots.length=0)&&(decide (m.old.length=0)&&(m.reply||decide (m.count=0)))
 else if m.kind=5 then decide (m.old.length=0)&&((m.reply||decide (m.count=0))&&decide ((m.spots.length:Int)=min 8 m.count))
 else decide (m.spots.length=0)&&(decide (m.old.length=0)&&decide (m.count=0))
def chkM(m:Msg):Int:=
 if m.kind<1∨6<m.kind then 1
 else if m.number<0∨255<m.number∨m.code<0∨3<m.code∨m.count<0∨512<m.count then 2
 else if 8<m.spots.length∨8<m.old.length then 8
 else if placesN m.spots≠0 then placesN m.spots
 else if placesN m.old≠0 then placesN m.old
 else if follN m=false then 11 else 0
def amongN(l all:List Spt):Bool:=l.all fun s=>decide (s∈all)
def ansN(q r:Msg):Bool:=
 if chkM q≠0∨chkM r≠0∨q.reply=true∨r.reply=false∨q.kind≠r.kind∨q.number≠r.number then false
 else if r.code≠0 then true
 else if q.kind=1 then decide (r.count≤q.count)&&amongN r.spots q.spots
 else if q.kind=3 then decide (r.count≤q.count)&&(amongN r.spots q.spots&&amongN r.old q.old)
 else if q.kind=2 then decide (r.old=q.old)else true
def accM(q:Msg)(count:Int)(l old:List Spt):Msg:=⟨q.kind,true,q.number,0,count,l,old⟩
def accC(q:Msg)(count:Int)(l old:List Spt):Int:=if chkM q≠0∨q.reply=true then 1 else if ansN q (accM q count l old)=false then 12 else 0
def accN(q:Msg)(count:Int)(l old:List Spt):Msg:=if accC q count l old=0 then accM q count l old else msg0
def refC(q:Msg)(code:Int):Int:=if chkM q≠0∨q.reply=true then 1 else if code<1∨3<code then 2 else 0
def refN(q:Msg)(code:Int):Msg:=if refC q code=0 then⟨q.kind,true,q.number,code,0,[],[]⟩else msg0
def formN(c:TCl)(self length:Int):Int:=
 if c.kind<1∨3<c.kind then 1
 else if(c.kind≠1∧c.flow≠ -1)∨(c.kind=3∧(c.peer≠ -1∨c.send=true))then 1
 else if c.slot<0∨length≤c.slot∨c.off<0∨16≤c.off then 2
 else if(c.kind≠3∧(c.peer<0∨32≤c.peer∨c.peer=self))∨(c.kind=1∧c.flow<0)then 2 else 0
def ltT(a b:TCl):Prop:=a.slot<b.slot∨(a.slot=b.slot∧a.kind<b.kind)
instance(a b:TCl):Decidable (ltT a b):=by unfold ltT;infer_instance
def faultT(t:Tab)(i:Nat):Int:=
 if formN (t.cells.getD i default) t.node t.length≠0 then formN (t.cells.getD i default) t.node t.length
 else if 0<i∧¬ltT (t.cells.getD (i-1) default) (t.cells.getD i default)then 5 else 0
def chkT(t:Tab):Int:=
 if t.node<0∨32≤t.node∨t.length<1∨512<t.length then 2 else if 512<t.cells.length then 8 else fstF (faultT t) t.cells.length
def takenN(l:List TCl)(c:TCl):Bool:=l.any fun x=>decide (x.slot=c.slot)&&decide (x.kind=c.kind)
def putN(l:List TCl)(c:TCl):List TCl:=l.takeWhile (fun x=>decide (ltT x c))++c::l.dropWhile (fun x=>decide (ltT x c))
def addC(t:Tab)(c:TCl):Int:=if chkT t≠0 then 1 else if formN c t.node t.length≠0 then formN c t.node t.length else if takenN t.cells c=true then 16 else if t.cells.length=512 then 8 else 0
def addN(t:Tab)(c:TCl):Tab:=if addC t c=0 then⟨t.node,t.length,putN t.cells c⟩else tab0
def maskN(f:List Int)(length:Int):Bool:=decide ((f.length:Int)=length)&&f.all fun n=>decide (0≤n)&&decide (n<65536)
def usedN(t:Tab)(slot:Int):Bool:=t.cells.any fun c=>decide (c.slot=slot)
def bitN(n k:Int):Bool:=decide (n/2 ^ k.toNat %2=1)
def fitsN(t:Tab)(f:List Int)(s:Spt):Bool:=
 decide (chkT t=0)&&(maskN f t.length&&(decide (0≤s.slot)&&(decide (s.slot<t.length)&&(decide (0≤s.off)&&(decide (s.off<16)&&(bitN (f.getD s.slot.toNat 0) s.off&& !usedN t s.slot))))))
def offN(n:Int):Option Nat:=(List.range 16).find? fun k=>bitN n k
def candS(t:Tab)(f:List Int)(slot:Nat):List Spt:=if usedN t slot=true then []else match offN (f.getD slot 0)with
 |some k=> [⟨slot,k⟩]
 |none=> []
def candN(t:Tab)(f:List Int)(n:Nat):List Spt:=if chkT t=0∧maskN f t.length=true then((List.range t.length.toNat).flatMap (candS t f)).take n else []
def betwN(t:Tab)(peer:Int):List TCl:=if chkT t=0 then t.cells.filter fun c=>decide (c.kind=2)&&decide (c.peer=peer)else []
def nextN(n:Int):Int:=if n<0∨255<n then 0 else if n=255 then 1 else n+1
def zeroM(m:Msg):Bool:=decide (m=msg0)
def place(c:TCl):Spt:=⟨c.slot,c.off⟩
def cellOk(e:Ed)(i:Nat):Bool:=
 decide ((e.cells.getD i default).kind=2)&&(decide ((e.cells.getD i default).peer=e.peer)&&(decide ((e.cells.getD i default).flow= -1)&&(decide (0≤(e.cells.getD i default).slot)&&(decide ((e.cells.getD i default).slot≤511)&&(decide (0≤(e.cells.getD i default).off)&&(decide ((e.cells.getD i default).off≤15)&&(decide (i=0)||decide ((e.cells.getD (i-1) default).slot<(e.cells.getD i default).slot))))))))
def cellsOk(e:Ed):Bool:=(List.range e.cells.length).all (cellOk e)&&(decide (e.number≠0)||decide (e.cells.length=0))
def hasN(e:Ed)(s:Spt)(send:Bool):Bool:=e.cells.any fun c=>decide (c.slot=s.slot)&&(decide (c.off=s.off)&&decide (c.send=send))
def askedOk(e:Ed):Bool:=
 if e.opn=false then zeroM e.asked&&decide (e.since=0)
 else decide (chkM e.asked=0)&&(!e.asked.reply&&(decide (e.asked.number=e.number)&&((e.asked.old.all fun s=>hasN e s true)&&(e.asked.spots.all fun s=> !(e.cells.any fun c=>decide (c.slot=s.slot))))))
def knownOk(e:Ed):Bool:=
 if e.known=false then zeroM e.last&&zeroM e.reply
 else ansN e.last e.reply&&(decide (e.reply.code=0)&&decide (e.number=if e.last.kind=6 then 0 else nextN e.last.number))
def chkE(e:Ed):Int:=
 if e.node<0∨31<e.node∨e.peer<0∨31<e.peer∨e.number<0∨255<e.number∨e.since<0∨1099511627776<e.since then 2
 else if e.node=e.peer∨cellsOk e=false∨askedOk e=false∨knownOk e=false then 1 else 0
def startE(node peer:Int):Ed:=⟨node,peer,0,[],false,0,msg0,false,msg0,msg0⟩
def startC(node peer:Int):Int:=if node<0∨31<node∨peer<0∨31<peer∨node=peer then 2 else 0
def startN(node peer:Int):Ed:=if startC node peer=0 then startE node peer else ed0
def addsN(t:Tab):List TCl→Option Tab
 | []=>some t
 |c::l=>if addC t c=0 then addsN (addN t c) l else none
def fullC(t:Tab)(e:Ed):Int:=
 if chkE e≠0∨chkT t≠0∨t.node≠e.node∨(betwN t e.peer).length≠0 then 1 else if addsN t e.cells=none then 16 else 0
def fullN(t:Tab)(e:Ed):Tab:=if fullC t e=0 then(addsN t e.cells).getD tab0 else tab0
def sendsN(e:Ed):List Spt:=(e.cells.filter fun c=>c.send).map place
def countsN(kind count:Int):Bool:=if kind≤3 then decide (1≤count)&&decide (count≤8)else decide (count=0)
def askM(e:Ed)(t:Tab)(f:List Int)(kind count:Int):Msg:=
 ⟨kind,false,e.number,0,count,if kind=1∨kind=3 then candN (fullN t e) f 8 else [],if kind=2 then(sendsN e).drop ((sendsN e).length-count.toNat)else if kind=3 then(sendsN e).take count.toNat else []⟩
def askC(e:Ed)(t:Tab)(f:List Int)(kind count slot:Int):Int:=
 if fullC t e≠0 then fullC t e
 else if kind<1∨6<kind∨slot<0∨1099511627776<slot∨countsN kind count=false then 2
 else if e.opn=true then 12
 else if(kind=1∨kind=3)∧((candN (fullN t e) f 8).length:Int)<count then 14
 else if(kind=2∨kind=3)∧((sendsN e).length:Int)<count then 14 else 0
def openE(e:Ed)(m:Msg)(slot:Int):Ed:= { e with opn:=true,since:=slot,asked:=m}
def askE(e:Ed)(t:Tab)(f:List Int)(kind count slot:Int):Ed:=if askC e t f kind count slot=0 then openE e (askM e t f kind count) slot else ed0
def askN(e:Ed)(t:Tab)(f:List Int)(kind count slot:Int):Msg:=if askC e t f kind count slot=0 then askM e t f kind count else msg0
def newC(e:Ed)(send:Bool)(s:Spt):TCl:=⟨s.slot,s.off,2,send,e.peer,-1⟩
def chgN(e:Ed)(old spots:List Spt)(send:Bool):List TCl:=(spots.map (newC e send)).foldl putN (e.cells.filter fun c=> !decide (place c∈old))
def lisN(e:Ed)(l:List Spt):Bool:=l.all fun s=>hasN e s false
def useN(t:Tab)(f:List Int)(m:Msg):List Spt:=m.spots.filter (fitsN t f)
def recvE(e:Ed)(count:Int)(spots old:List Spt)(m:Msg):Ed:=
 { e with cells:=chgN e old (if m.kind=5 then []else spots) false,number:=nextN e.number,known:=true,last:=m,reply:=accN m count spots old}
def clearE(e:Ed)(m:Msg):Ed:= { startE e.node e.peer with known:=true,last:=m,reply:=accN m 0 [] []}
def wantN(e:Ed)(t:Tab)(f:List Int)(m:Msg):Option (Int×List Spt×List Spt):=
 let u:=(useN (fullN t e) f m).take m.count.toNat
 if m.kind=1 then(if u.length=0 then none else some (u.length,u,[]))
 else if m.kind=2 then(if lisN e m.old=false then none else some (m.count,[],m.old))
 else if m.kind=3 then(if lisN e m.old=false∨u.length=0 then none else some (u.length,u,m.old.take u.length))
 else if m.kind=4 then some (e.cells.length,[],[])
 else some (e.cells.length,(e.cells.take 8).map place,[])
def recvC(e:Ed)(t:Tab)(m:Msg):Int:=if fullC t e≠0 then fullC t e else if chkM m≠0∨m.reply=true then 11 else 0
def recv(e:Ed)(t:Tab)(f:List Int)(m:Msg):Ed×Msg:=
 if recvC e t m≠0 then(ed0,msg0)
 else if m.kind=6 then(clearE e m,accN m 0 [] [])
 else if e.known=true∧m=e.last then(e,e.reply)
 else if e.opn=true then(e,refN m 3)
 else if m.number≠e.number then(e,refN m 1)
 else match wantN e t f m with
  |none=>(e,refN m 2)
  |some (n,s,o)=>(recvE e n s o m,accN m n s o)
def closE(e:Ed):Ed:= { e with opn:=false,since:=0,asked:=msg0}
def finC(e:Ed)(m:Msg):Int:=if chkE e≠0 then 1 else if e.opn=false then 12 else if ansN e.asked m=false then 11 else 0
def finE(e:Ed)(m:Msg):Ed:=
 if m.code≠0 then closE e
 else if m.kind=6 then { closE e with known:=false,last:=msg0,reply:=msg0,cells:= [],number:=0}
 else { closE e with known:=false,last:=msg0,reply:=msg0,number:=nextN e.number,cells:=if m.kind=1∨m.kind=3 then chgN e m.old m.spots true else if m.kind=2 then chgN e m.old [] true else e.cells}
def finN(e:Ed)(m:Msg):Ed:=if finC e m=0 then finE e m else ed0
def expB(e:Ed)(slot wait:Int):Bool:=decide (chkE e=0)&&(e.opn&&(decide (0≤slot)&&decide (wait≤slot-e.since)))
def expN(e:Ed)(slot wait:Int):Ed:=if expB e slot wait=true then closE e else e
open Go.Sort Go.Lib
open Sw Mm
theorem natB0(n:Nat):((n:Int)==0)=decide (n=0):=by rw[Bool.eq_iff_iff];simp
theorem intB(n m:Int):(n==m)=decide (n=m):=by rw[Bool.eq_iff_iff];simp
def intE(x:Int):List Value:= [.int .i64 x]
def sptE(s:Spt):List Value:= [.int .i64 s.slot,.int .i64 s.off]
def tclE(c:TCl):List Value:= [.int .i64 c.slot,.int .i64 c.off,.int .i64 c.kind,.bool c.send,.int .i64 c.peer,.int .i64 c.flow]
theorem sptE_len(x:Spt):(sptE x).length=2:=rfl
theorem tclE_len(x:TCl):(tclE x).length=6:=rfl
theorem sptE_one(x:Spt):∀v∈sptE x,v.oneCell'=true:=by simp[sptE,Value.oneCell']
theorem tclE_one(x:TCl):∀v∈tclE x,v.oneCell'=true:=by simp[tclE,Value.oneCell']
abbrev IntS:= @Sls Int _ intE 1
abbrev SptS:= @Sls Spt _ sptE 2
abbrev TclS:= @Sls TCl _ tclE 6
theorem int_at {w:World} {b off n:Nat} {xs:List Int}(h:IntS w (some ⟨b,off,none⟩) n xs) {i:Nat}(hi:i<n):w.cell? ⟨b,off+i,none⟩=some (.int .i64 (xs.getD i default)):=by
 have:=(h.cells hi).2 0 (by decide)
 rw[show off+i*1+0=off+i by omega]at this
 exact this
def SptAt(w:World)(b o:Nat)(s:Spt):Prop:=w.cell? ⟨b,o,none⟩=some (.int .i64 s.slot)∧w.cell? ⟨b,o+1,none⟩=some (.int .i64 s.off)
theorem spt_at {w:World} {b off n:Nat} {xs:List Spt}(h:SptS w (some ⟨b,off,none⟩) n xs) {i:Nat}(hi:i<n):SptAt w b (off+i*2) (xs.getD i default):=
 ⟨(h.cells hi).2 0 (by decide),(h.cells hi).2 1 (by decide)⟩
def TclAt(w:World)(b o:Nat)(c:TCl):Prop:=w.cell? ⟨b,o,none⟩=some (.int .i64 c.slot)∧w.cell? ⟨b,o+1,none⟩=some (.int .i64 c.off)∧w.cell? ⟨b,o+2,none⟩=some (.int .i64 c.kind)∧w.cell? ⟨b,o+3,none⟩=some (.bool c.send)∧w.cell? ⟨b,o+4,none⟩=some (.int .i64 c.peer)∧w.cell? ⟨b,o+5,none⟩=some (.int .i64 c.flow)
theorem tcl_at {w:World} {b off n:Nat} {xs:List TCl}(h:TclS w (some ⟨b,off,none⟩) n xs) {i:Nat}(hi:i<n):TclAt w b (off+i*6) (xs.getD i default):=
 ⟨(h.cells hi).2 0 (by decide),(h.cells hi).2 1 (by decide),(h.cells hi).2 2 (by decide),(h.cells hi).2 3 (by decide),(h.cells hi).2 4 (by decide),(h.cells hi).2 5 (by decide)⟩
structure MsgV where
 sA:Option Addr
 sn:Nat
 sc:Nat
 oA:Option Addr
 on:Nat
 oc:Nat
deriving Inhabited
structure MsgIs(w:World)(v:MsgV)(m:Msg):Prop where
 spots:SptS w v.sA v.sn m.spots
 old:SptS w v.oA v.on m.old
 sc:v.sn≤v.sc
 oc:v.on≤v.oc
theorem MsgIs.keep {w w':World} {v:MsgV} {m:Msg}(h:MsgIs w v m)(hb:Below w.heap.size w w'):MsgIs w' v m:=⟨h.spots.keep hb,h.old.keep hb,h.sc,h.oc⟩
def msgV0:MsgV:=⟨none,0,0,none,0,0⟩
theorem MsgIs.zero(w:World):MsgIs w msgV0 msg0:=⟨Sls.nil,Sls.nil,Nat.le_refl _,Nat.le_refl _⟩
structure EdV where
 cA:Option Addr
 cn:Nat
 cc:Nat
 a:MsgV
 l:MsgV
 r:MsgV
deriving Inhabited
structure EdIs(w:World)(v:EdV)(e:Ed):Prop where
 cells:TclS w v.cA v.cn e.cells
 cc:v.cn≤v.cc
 asked:MsgIs w v.a e.asked
 last:MsgIs w v.l e.last
 reply:MsgIs w v.r e.reply
theorem EdIs.keep {w w':World} {v:EdV} {e:Ed}(h:EdIs w v e)(hb:Below w.heap.size w w'):EdIs w' v e:=⟨h.cells.keep hb,h.cc,h.asked.keep hb,h.last.keep hb,h.reply.keep hb⟩
def edV0:EdV:=⟨none,0,0,msgV0,msgV0,msgV0⟩
theorem EdIs.zero(w:World):EdIs w edV0 ed0:=⟨Sls.nil,Nat.le_refl _,MsgIs.zero w,MsgIs.zero w,MsgIs.zero w⟩
structure TabV where
 A:Option Addr
 n:Nat
 c:Nat
deriving Inhabited
structure TabIs(w:World)(v:TabV)(t:Tab):Prop where
 cells:TclS w v.A v.n t.cells
 cc:v.n≤v.c
theorem TabIs.keep {w w':World} {v:TabV} {t:Tab}(h:TabIs w v t)(hb:Below w.heap.size w w'):TabIs w' v t:=⟨h.cells.keep hb,h.cc⟩
def tabV0:TabV:=⟨none,0,0⟩
theorem TabIs.zero(w:World):TabIs w tabV0 tab0:=⟨Sls.nil,Nat.le_refl _⟩
theorem info_spt:(Tryz.prog.info? 97).map (fun i=>(i.zero,i.size,i.bytes))=some (some (.agg #[.int .i64 0,.int .i64 0]),2,16):=by kernel_rfl
theorem info_tcl:(Tryz.prog.info? 85).map (fun i=>(i.zero,i.size,i.bytes))=some (some (.agg #[.int .i64 0,.int .i64 0,.int .i64 0,.bool false,.int .i64 0,.int .i64 0]),6,48):=by kernel_rfl
theorem eltS:Elt Tryz.prog sptE 2 28 97:=⟨sptE_len,by decide,sptE_one,Tryz.underlying28,by
 obtain⟨i,h1,h2,h3,h4⟩:=info_parts info_spt
 exact⟨i,_,h1,h2,h3,by omega,rfl⟩⟩
theorem eltT:Elt Tryz.prog tclE 6 27 85:=⟨tclE_len,by decide,tclE_one,Tryz.underlying27,by
 obtain⟨i,h1,h2,h3,h4⟩:=info_parts info_tcl
 exact⟨i,_,h1,h2,h3,by omega,rfl⟩⟩
def eqS(a b:Spt):Bool:=decide (a=b)
theorem eqS_split(a b:Spt):eqS a b=(a.slot==b.slot&&a.off==b.off):=by
 unfold eqS
 obtain⟨a0,a1⟩:=a
 obtain⟨b0,b1⟩:=b
 rw[Bool.eq_iff_iff]
 simp
theorem equal_spt(a b:Spt)(W:World):(Op.equalIn 10000 97 (.agg #[.int .i64 a.slot,.int .i64 a.off]) (.agg #[.int .i64 b.slot,.int .i64 b.off])).run Tryz.prog W= .ok (eqS a b) W:=by
 have u3:=Tryz.underlying3
 have a3:=Tryz.isAgg3
 have z3:=Tryz.sizeOf3
 have hS:Tryz.prog.underlying 97=some (.struct (Tryz.prog.fieldsOf 97)):=by kernel_rfl
 have hp:Tryz.prog.stoodInHeld 97=false:=by kernel_rfl
 rw[eqS_split,show(10000:Nat)=9999+1 from rfl,run_equalIn_agg W 9999 97 _ _ hS hp]
 simp only[Program.fieldsOf,Tryz.underlying97]
 go_simp
 by_cases h0:a.slot=b.slot
 ·by_cases h1:a.off=b.off<;>simp[h0,h1]
 ·simp[h0]
theorem eql_spt(a b:Spt)(W:World):(binOp .eql 97 (.agg #[.int .i64 a.slot,.int .i64 a.off]) (.agg #[.int .i64 b.slot,.int .i64 b.off])).run Tryz.prog W= .ok (.bool (eqS a b)) W:=by
 rw[run_eql_struct,equal_spt];rfl
theorem neq_spt(a b:Spt)(W:World):(binOp .neq 97 (.agg #[.int .i64 a.slot,.int .i64 a.off]) (.agg #[.int .i64 b.slot,.int .i64 b.off])).run Tryz.prog W= .ok (.bool (!eqS a b)) W:=by
 rw[run_neq_struct,equal_spt];rfl
def eqT(a b:TCl):Bool:=decide (a=b)
theorem eqT_split(a b:TCl):eqT a b=(a.slot==b.slot&&(a.off==b.off&&(a.kind==b.kind&&(a.send==b.send&&(a.peer==b.peer&&a.flow==b.flow))))):=by
 unfold eqT
 obtain⟨a0,a1,a2,a3,a4,a5⟩:=a
 obtain⟨b0,b1,b2,b3,b4,b5⟩:=b
 rw[Bool.eq_iff_iff]
 simp
theorem equal_tcl(a b:TCl)(W:World):(Op.equalIn 10000 85 (.agg #[.int .i64 a.slot,.int .i64 a.off,.int .i64 a.kind,.bool a.send,.int .i64 a.peer,.int .i64 a.flow]) (.agg #[.int .i64 b.slot,.int .i64 b.off,.int .i64 b.kind,.bool b.send,.int .i64 b.peer,.int .i64 b.flow])).run Tryz.prog W= .ok (eqT a b) W:=by
 have u3:=Tryz.underlying3
 have a3:=Tryz.isAgg3
 have z3:=Tryz.sizeOf3
 have u4:=Tryz.underlying4
 have a4:=Tryz.isAgg4
 have z4:=Tryz.sizeOf4
 have hS:Tryz.prog.underlying 85=some (.struct (Tryz.prog.fieldsOf 85)):=by kernel_rfl
 have hp:Tryz.prog.stoodInHeld 85=false:=by kernel_rfl
 rw[eqT_split,show(10000:Nat)=9999+1 from rfl,run_equalIn_agg W 9999 85 _ _ hS hp]
 simp only[Program.fieldsOf,Tryz.underlying85]
 go_simp
 by_cases h0:a.slot=b.slot
 ·by_cases h1:a.off=b.off
  ·by_cases h2:a.kind=b.kind
   ·by_cases h3:a.send=b.send
    ·by_cases h4:a.peer=b.peer
     ·by_cases h5:a.flow=b.flow<;>simp[h0,h1,h2,h3,h4,h5]
     ·simp[h0,h1,h2,h3,h4]
    ·simp[h0,h1,h2,h3]
   ·simp[h0,h1,h2]
  ·simp[h0,h1]
 ·simp[h0]
theorem neq_tcl(a b:TCl)(W:World):(binOp .neq 85 (.agg #[.int .i64 a.slot,.int .i64 a.off,.int .i64 a.kind,.bool a.send,.int .i64 a.peer,.int .i64 a.flow]) (.agg #[.int .i64 b.slot,.int .i64 b.off,.int .i64 b.kind,.bool b.send,.int .i64 b.peer,.int .i64 b.flow])).run Tryz.prog W= .ok (.bool (!eqT a b)) W:=by
 rw[run_neq_struct,equal_tcl];rfl
def msgA(m:Msg)(v:MsgV):Array Value:=#[.int .i64 m.kind,.bool m.reply,.int .i64 m.number,.int .i64 m.code,.int .i64 m.count,.slice v.sA v.sn v.sc,.slice v.oA v.on v.oc]
def tclA(c:TCl):Array Value:=#[.int .i64 c.slot,.int .i64 c.off,.int .i64 c.kind,.bool c.send,.int .i64 c.peer,.int .i64 c.flow]
def sptA(c:Spt):Array Value:=#[.int .i64 c.slot,.int .i64 c.off]
def tabA(t:Tab)(v:TabV):Array Value:=#[.int .i64 t.node,.int .i64 t.length,.slice v.A v.n v.c]
def endA(e:Ed)(v:EdV):Array Value:=#[.int .i64 e.node,.int .i64 e.peer,.int .i64 e.number,.slice v.cA v.cn v.cc,.bool e.opn,.int .i64 e.since,.int .i64 e.asked.kind,.bool e.asked.reply,.int .i64 e.asked.number,.int .i64 e.asked.code,.int .i64 e.asked.count,.slice v.a.sA v.a.sn v.a.sc,.slice v.a.oA v.a.on v.a.oc,.bool e.known,.int .i64 e.last.kind,.bool e.last.reply,.int .i64 e.last.number,.int .i64 e.last.code,.int .i64 e.last.count,.slice v.l.sA v.l.sn v.l.sc,.slice v.l.oA v.l.on v.l.oc,.int .i64 e.reply.kind,.bool e.reply.reply,.int .i64 e.reply.number,.int .i64 e.reply.code,.int .i64 e.reply.count,.slice v.r.sA v.r.sn v.r.sc,.slice v.r.oA v.r.on v.r.oc]
structure KM(m:Msg)(v:MsgV)
structure KE(e:Ed)(v:EdV)
structure KT(t:Tab)(v:TabV)
structure KN(n:Nat)
def Km(m:Msg)(v:MsgV):KM m v:=⟨⟩
def Ke(e:Ed)(v:EdV):KE e v:=⟨⟩
def Kt(t:Tab)(v:TabV):KT t v:=⟨⟩
def Kz(n:Nat):KN n:=⟨⟩
instance {m:Msg} {v:MsgV}:CoeOut (KM m v) (Array Value):=⟨fun _=>#[.int .i64 m.kind,.bool m.reply,.int .i64 m.number,.int .i64 m.code,.int .i64 m.count,.slice v.sA v.sn v.sc,.slice v.oA v.on v.oc]⟩
instance {e:Ed} {v:EdV}:CoeOut (KE e v) (Array Value):=⟨fun _=>#[.int .i64 e.node,.int .i64 e.peer,.int .i64 e.number,.slice v.cA v.cn v.cc,.bool e.opn,.int .i64 e.since,.int .i64 e.asked.kind,.bool e.asked.reply,.int .i64 e.asked.number,.int .i64 e.asked.code,.int .i64 e.asked.count,.slice v.a.sA v.a.sn v.a.sc,.slice v.a.oA v.a.on v.a.oc,.bool e.known,.int .i64 e.last.kind,.bool e.last.reply,.int .i64 e.last.number,.int .i64 e.last.code,.int .i64 e.last.count,.slice v.l.sA v.l.sn v.l.sc,.slice v.l.oA v.l.on v.l.oc,.int .i64 e.reply.kind,.bool e.reply.reply,.int .i64 e.reply.number,.int .i64 e.reply.code,.int .i64 e.reply.count,.slice v.r.sA v.r.sn v.r.sc,.slice v.r.oA v.r.on v.r.oc]⟩
instance {t:Tab} {v:TabV}:CoeOut (KT t v) (Array Value):=⟨fun _=>#[.int .i64 t.node,.int .i64 t.length,.slice v.A v.n v.c]⟩
instance:CoeOut (KN 7) (Array Value):=⟨fun _=>#[.int .i64 0,.bool false,.int .i64 0,.int .i64 0,.int .i64 0,.slice none 0 0,.slice none 0 0]⟩
instance:CoeOut (KN 28) (Array Value):=⟨fun _=>#[.int .i64 0,.int .i64 0,.int .i64 0,.slice none 0 0,.bool false,.int .i64 0,.int .i64 0,.bool false,.int .i64 0,.int .i64 0,.int .i64 0,.slice none 0 0,.slice none 0 0,.bool false,.int .i64 0,.bool false,.int .i64 0,.int .i64 0,.int .i64 0,.slice none 0 0,.slice none 0 0,.int .i64 0,.bool false,.int .i64 0,.int .i64 0,.int .i64 0,.slice none 0 0,.slice none 0 0]⟩
structure Mem(a w:World)(L:List (Nat×Array Value×TypeId)):Prop where
 below:Below a.heap.size a w
 blk:∀e∈L,Blk w e.1 e.2.1 e.2.2
 nodup:(L.map (·.1)).Nodup
 ge:∀e∈L,a.heap.size≤e.1
theorem Mem.start(a:World):Mem a a []:=⟨Below.refl _ _,by simp,by simp,by simp⟩
theorem Mem.of {a w:World}(h:Below a.heap.size a w):Mem a w []:=⟨h,by simp,by simp,by simp⟩
theorem Mem.alloc {a w:World} {L:List (Nat×Array Value×TypeId)}(h:Mem a w L)(C:Array Value)(t:TypeId):Mem a (w.alloc (.cells C t)) ((w.heap.size,C,t)::L)where
 below:=ballN h.below _
 blk:=fun e he=>by
  rcases List.mem_cons.1 he with rfl|he
  ·exact Blk.new w C t
  ·exact(h.blk e he).alloc _
 nodup:=by
  rw[List.map_cons,List.nodup_cons]
  refine⟨fun hm=> ?_,h.nodup⟩
  obtain⟨e,he,e1⟩:=List.mem_map.1 hm
  have:=(h.blk e he).lt
  rw[e1]at this
  exact absurd this (Nat.lt_irrefl _)
 ge:=fun e he=>by
  rcases List.mem_cons.1 he with rfl|he
  ·exact h.below.size
  ·exact h.ge e he
theorem Mem.keep {a w w':World} {L:List (Nat×Array Value×TypeId)}(h:Mem a w L)(hb:Below w.heap.size w w'):Mem a w' L:=⟨bthen h.below hb,fun e he=>(h.blk e he).keep hb,h.nodup,h.ge⟩
theorem Mem.drew {a w:World} {L:List (Nat×Array Value×TypeId)}(h:Mem a w L):Mem a w.drew L:=h.keep ((Below.refl _ _).drew)
theorem Mem.at_ {a w:World} {L:List (Nat×Array Value×TypeId)}(h:Mem a w L)(i:Nat) {B:Nat} {C:Array Value} {t:TypeId}(hL:L[i]? =some (B,C,t)):Blk w B C t:=h.blk _ (List.mem_of_getElem? hL)
theorem Mem.cell {a w:World} {L:List (Nat×Array Value×TypeId)}(h:Mem a w L)(i:Nat) {B:Nat} {C:Array Value} {t:TypeId}(hL:L[i]? =some (B,C,t)):∀j,w.cell? ⟨B,j,none⟩=C[j]? :=(h.at_ i hL).cell
theorem Mem.tail {a w:World} {e:Nat×Array Value×TypeId} {L:List (Nat×Array Value×TypeId)}(h:Mem a w (e::L)):Mem a w L:=⟨h.below,fun x hx=>h.blk x (List.mem_cons_of_mem _ hx),(List.nodup_cons.1 h.nodup).2,fun x hx=>h.ge x (List.mem_cons_of_mem _ hx)⟩
theorem Mem.put {a w w':World} {L:List (Nat×Array Value×TypeId)}(h:Mem a w L)(i:Nat) {B:Nat} {C:Array Value} {t:TypeId}(hL:L[i]? =some (B,C,t))(hg:w.grownBy w' (some B)) {C':Array Value}(hB:Blk w' B C' t):Mem a w' (L.set i (B,C',t)):=by
 have hi:i<L.length:=(List.getElem?_eq_some_iff.1 hL).1
 have hgi:L[i]=(B,C,t):=(List.getElem?_eq_some_iff.1 hL).2
 have hm:(L.set i (B,C',t)).map (·.1)=L.map (·.1):=by
  apply List.ext_getElem?
  intro j
  rw[List.getElem?_map,List.getElem?_map]
  by_cases e:i=j
  ·subst e;rw[List.getElem?_set_self hi,hL];rfl
  ·rw[List.getElem?_set_ne e]
 refine⟨h.below.grown hg h.below.size (fun k hk=>by cases hk;exact h.ge _ (List.mem_of_getElem? hL)),fun e he=> ?_,by rw[hm];exact h.nodup,fun e he=> ?_⟩
 ·obtain⟨j,hj,ej⟩:=List.mem_iff_getElem.1 he
  rw[List.length_set]at hj
  rw[List.getElem_set]at ej
  split at ej
  ·subst ej;exact hB
  ·rename_i hne
   subst ej
   refine(h.blk _ (List.getElem_mem hj)).grown hg fun e1=> ?_
   injection e1 with e1
   have hn:=h.nodup
   rw[List.nodup_iff_pairwise_ne,List.pairwise_iff_getElem]at hn
   have e2:(L.map (·.1))[i]'(by rw[List.length_map];exact hi)=(L.map (·.1))[j]'(by rw[List.length_map];exact hj):=by
    rw[List.getElem_map,List.getElem_map,hgi];exact e1
   rcases Nat.lt_or_gt_of_ne hne with hlt|hlt
   ·exact hn i j (by rw[List.length_map];exact hi) (by rw[List.length_map];exact hj) hlt e2
   ·exact hn j i (by rw[List.length_map];exact hj) (by rw[List.length_map];exact hi) hlt e2.symm
 ·obtain⟨j,hj,ej⟩:=List.mem_iff_getElem.1 he
  rw[List.length_set]at hj
  rw[List.getElem_set]at ej
  split at ej
  ·subst ej;exact h.ge (B,C,t) (List.mem_of_getElem? hL)
  ·subst ej;exact h.ge _ (List.getElem_mem hj)
theorem Mem.grown {a w w':World} {L:List (Nat×Array Value×TypeId)}(h:Mem a w L) {r:Option Nat}(hg:w.grownBy w' r)(hr:∀g,r=some g→a.heap.size≤g∧∀e∈L,e.1≠g):Mem a w' L:=
 ⟨h.below.grown hg h.below.size (fun g hg=>(hr g hg).1),fun e he=>(h.blk e he).grown hg (fun e1=>by
  have:=(hr e.1 e1).2 e he
  exact this rfl),h.nodup,h.ge⟩
theorem Mem.row {a w w':World} {L:List (Nat×Array Value×TypeId)}(h:Mem a w L) {base s n:Nat} {e:TypeId} {v:Value} {xs:List Value}(ho:w.ownsRow base e s v n xs)(hg:w.grownBy w' v.ownBlock)(hb:a.heap.size≤base)(hne:∀x∈L,e≠x.2.2):Mem a w' L:=
 h.grown hg fun g e1=>⟨Nat.le_trans hb (ho.lt g e1).1,fun x hx e2=>row_ne_blk ho (h.blk x hx) (hne x hx) (by rw[e1,e2])⟩
theorem blk_setCells {B:Nat} {t:TypeId}:∀(vs:List Value) (C:Array Value) (o:Nat) (w:World),Blk w B C t→Blk (w.setCells B o vs) B (setL C.toList o vs).toArray t∧w.grownBy (w.setCells B o vs) (some B)
 | [],_,_,_,h=>⟨h,gb_refl _ _⟩
 |v::vs,C,o,w,h=>by
  have h1:=h.set o v
  have h2:=blk_setCells vs _ (o+1) _ h1
  refine⟨?_,gb_trans (gb_set1 w B o v) h2.2⟩
  have:=h2.1
  rw[Array.toList_setIfInBounds]at this
  exact this
theorem Mem.setc {a w:World} {L:List (Nat×Array Value×TypeId)}(h:Mem a w L)(i:Nat) {B:Nat} {C:Array Value} {t:TypeId}(hL:L[i]? =some (B,C,t))(o:Nat)(vs:List Value)(C':Array Value)(hC:(setL C.toList o vs).toArray=C'):Mem a (w.setCells B o vs) (L.set i (B,C',t)):=by
 subst hC
 have h2:=blk_setCells vs C o w (h.at_ i hL)
 exact h.put i hL h2.2 h2.1
theorem Mem.add {a w w':World} {L:List (Nat×Array Value×TypeId)}(h:Mem a w L)(hb:Below w.heap.size w w') {B:Nat} {C:Array Value} {t:TypeId}(hB:Blk w' B C t)(hge:w.heap.size≤B):Mem a w' ((B,C,t)::L)where
 below:=bthen h.below hb
 blk:=fun e he=>by
  rcases List.mem_cons.1 he with rfl|he
  ·exact hB
  ·exact(h.blk e he).keep hb
 nodup:=by
  rw[List.map_cons,List.nodup_cons]
  refine⟨fun hm=> ?_,h.nodup⟩
  obtain⟨e,he,e1⟩:=List.mem_map.1 hm
  have:=(h.blk e he).lt
  rw[e1]at this
  exact absurd hge (Nat.not_le.2 this)
 ge:=fun e he=>by
  rcases List.mem_cons.1 he with rfl|he
  ·exact Nat.le_trans h.below.size hge
  ·exact h.ge e he
theorem setL_full {xs vs:List Value}(h:xs.length=vs.length):setL xs 0 vs=vs:=by
 apply List.ext_getElem?
 intro t
 rw[setL_get]
 by_cases ht:t<vs.length
 ·rw[if_pos ⟨Nat.zero_le _,by omega,by omega⟩,Nat.sub_zero]
 ·rw[if_neg (by omega),List.getElem?_eq_none (by omega),List.getElem?_eq_none (by omega)]
theorem Mem.full {a w:World} {L:List (Nat×Array Value×TypeId)} {B:Nat} {C:Array Value} {t:TypeId}(h:Mem a w ((B,C,t)::L))(C':Array Value)(hs:C.size=C'.size):Mem a (w.setCells B 0 C'.toList) ((B,C',t)::L):=
 h.setc 0 rfl 0 C'.toList C' (by rw[setL_full (by simpa using hs)])
theorem own_setc {w:World} {base s n B:Nat} {e t:TypeId} {v:Value} {xs:List Value} {C:Array Value}(h:w.ownsRow base e s v n xs)(hB:Blk w B C t)(hne:e≠t)(o:Nat)(vs:List Value):(w.setCells B o vs).ownsRow base e s v n xs:=
 h.kept (blk_setCells vs C o w hB).2 (.inr (row_ne_blk h hB hne))
theorem MsgIs.of_owns {w:World} {b1 b2 n m c d:Nat} {A B:Option Addr} {M:Msg}(h1:w.ownsRow b1 97 2 (.slice A n c) n (M.spots.flatMap sptE))(h2:w.ownsRow b2 97 2 (.slice B m d) m (M.old.flatMap sptE))(l1:M.spots.length=n)(l2:M.old.length=m):MsgIs w ⟨A,n,c,B,m,d⟩ M:=
 ⟨(Sls.of_owns sptE_len h1 l1).2,(Sls.of_owns sptE_len h2 l2).2,own_cap h1,own_cap h2⟩
theorem fold_msg(w:World)(B:Nat)(k x c t:Int)(r:Bool)(s o:List Spt)(A E:Option Addr)(n1 c1 n2 c2:Nat):
 (((((((w.setCell ⟨B,0,none⟩ (.int .i64 k)).setCell ⟨B,1,none⟩ (.bool r)).setCell ⟨B,2,none⟩ (.int .i64 x)).setCell ⟨B,3,none⟩ (.int .i64 c)).setCell ⟨B,4,none⟩ (.int .i64 t)).setCell ⟨B,5,none⟩ (.slice A n1 c1)).setCell ⟨B,6,none⟩ (.slice E n2 c2))=w.setCells B 0 (msgA ⟨k,r,x,c,t,s,o⟩ ⟨A,n1,c1,E,n2,c2⟩).toList:=rfl
structure MsgOwn(w:World)(v:MsgV)(M:Msg):Prop where
 spots:∃b,w.ownsRow b 97 2 (.slice v.sA v.sn v.sc) v.sn (M.spots.flatMap sptE)
 old:∃b,w.ownsRow b 97 2 (.slice v.oA v.on v.oc) v.on (M.old.flatMap sptE)
 ls:M.spots.length=v.sn
 lo:M.old.length=v.on
theorem MsgOwn.is {w:World} {v:MsgV} {M:Msg}(h:MsgOwn w v M):MsgIs w v M:=by
 obtain⟨⟨b1,h1⟩,⟨b2,h2⟩,l1,l2⟩:=h
 exact MsgIs.of_owns h1 h2 l1 l2
theorem MsgOwn.keep {w w':World} {v:MsgV} {M:Msg}(h:MsgOwn w v M)(hb:Below w.heap.size w w'):MsgOwn w' v M:=by
 obtain⟨⟨b1,h1⟩,⟨b2,h2⟩,l1,l2⟩:=h
 exact⟨⟨b1,owns_keep h1 hb⟩,⟨b2,owns_keep h2 hb⟩,l1,l2⟩
theorem MsgOwn.put {w w':World} {v:MsgV} {M:Msg}(h:MsgOwn w v M) {B:Nat} {C:Array Value} {t:TypeId}(hB:Blk w B C t)(ht:t≠97)(hg:w.grownBy w' (some B)):MsgOwn w' v M:=by
 obtain⟨⟨b1,h1⟩,⟨b2,h2⟩,l1,l2⟩:=h
 exact⟨⟨b1,h1.kept hg (.inr (row_ne_blk h1 hB ht.symm))⟩,⟨b2,h2.kept hg (.inr (row_ne_blk h2 hB ht.symm))⟩,l1,l2⟩
theorem mem_msg {a w:World} {L:List (Nat×Array Value×TypeId)} {B b1 b2 n m c d:Nat} {C:Array Value} {A E:Option Addr} {M:Msg}(h:Mem a w ((B,C,30)::L))(hs:C.size=7)(h1:w.ownsRow b1 97 2 (.slice A n c) n (M.spots.flatMap sptE))(h2:w.ownsRow b2 97 2 (.slice E m d) m (M.old.flatMap sptE))(l1:M.spots.length=n)(l2:M.old.length=m):
 Mem a (w.setCells B 0 (msgA M ⟨A,n,c,E,m,d⟩).toList) ((B,msgA M ⟨A,n,c,E,m,d⟩,30)::L)∧MsgOwn (w.setCells B 0 (msgA M ⟨A,n,c,E,m,d⟩).toList) ⟨A,n,c,E,m,d⟩ M:=by
 have hB:=h.at_ 0 rfl
 exact⟨h.full _ hs,⟨_,own_setc h1 hB (by decide) _ _⟩,⟨_,own_setc h2 hB (by decide) _ _⟩,l1,l2⟩
section
variable {P:Program}
theorem run_storeAt_blk {w:World} {B:Nat} {C:Array Value} {t:TypeId}(hB:Blk w B C t)(o:Nat)(ty:TypeId)(v:Value)(hs:o+v.cells.size≤C.size)(hi:(P.info? ty).map (·.size)=some v.cells.size)(h1:v.cells.toList.all (·.oneCell')=true):
 (Instr.storeAt ty (.pointer (some ⟨B,o,none⟩)) v).run P w= .ok () (w.setCells B o v.cells.toList):=by
 have:=run_storeCells_cells (P:=P) B o v.cells.toList 0 w (fun j hj=>by
  rw[hB.cell,Array.length_toList]at*
  rw[Array.getElem?_eq_getElem (by omega)];rfl) (fun j hj=>hB.free _)
  (fun u hu=>(List.all_eq_true.1 h1) u hu)
 cases hq:P.info? ty with
 |none=>simp[hq]at hi
 |some i=>
  have hs:v.cells.size=i.size:=by simp[hq]at hi;omega
  simp only[Nat.add_zero]at this
  simp[Instr.storeAt,Instr.sureAddr,storeVar,sizeOf,typeInfo,hq,hs,this]
theorem wp_storeM {op:Oper} {a:Act} {w:World} {K:Act→World→Prop} {Q:Exit→Act→World→Prop}(i:Nat) {a0:World} {L:List (Nat×Array Value×TypeId)}(hM:Hid (Mem a0 w L))(ty:TypeId)(x y:Operand)(ho:op.op= .store ty x y)
 (B o:Nat) (hx:a.eval x= .pointer (some ⟨B,o,none⟩)) {C:Array Value} {t:TypeId} (hL:L[i]? =some (B,C,t)) (v:Value) (hy:a.eval y=v)
 (hi:(P.info? ty).map (·.size)=some v.cells.size) (h1:v.cells.toList.all (·.oneCell')=true) (hs:o+v.cells.size≤C.size) (C':Array Value) (hC:(setL C.toList o v.cells.toList).toArray=C')
 (h:∀w',Hid (Mem a0 w' (L.set i (B,C',t)))→Hid (w.grownBy w' (some B))→K (a.put op.dst undef) w'):op.wp P a w K Q:=by
 subst hC
 have hB:=hM.out.at_ i hL
 have h2:=blk_setCells v.cells.toList C o w hB
 unfold Oper.wp execOp
 simp only[ho,hx,hy,Sem.run_bind,Sem.run_pure,Result.andThen_ok,run_storeAt_blk hB o ty v hs hi h1]
 exact h _ (hM.out.put i hL h2.2 h2.1) h2.2
theorem wpList_storeM {ops:Array Oper} {rest:List Oper} {op:Oper} {a:Act} {w:World} {Q:Exit→Act→World→Prop}(i:Nat) {a0:World} {L:List (Nat×Array Value×TypeId)}(hM:Hid (Mem a0 w L))(hgd:op.guard=none)(ty:TypeId)(x y:Operand)(ho:op.op= .store ty x y)
 (B o:Nat) (hx:a.eval x= .pointer (some ⟨B,o,none⟩)) {C:Array Value} {t:TypeId} (hL:L[i]? =some (B,C,t)) (v:Value) (hy:a.eval y=v)
 (hi:(P.info? ty).map (·.size)=some v.cells.size) (h1:v.cells.toList.all (·.oneCell')=true) (hs:o+v.cells.size≤C.size) (C':Array Value) (hC:(setL C.toList o v.cells.toList).toArray=C')
 (h:∀w',Hid (Mem a0 w' (L.set i (B,C',t)))→Hid (w.grownBy w' (some B))→wpList P ops Q rest (a.put op.dst undef) w'):wpList P ops Q (op::rest) a w:=
 wpList_plain hgd fun _ hK=>wp_storeM i hM ty x y ho B o hx hL v hy hi h1 hs C' hC fun w' h1 h2=>hK _ _ (h w' h1 h2)
theorem sM {P:Program} {ops:Array Oper} {rest:List Oper} {op:Oper} {a:Act} {w:World} {Q:Exit→Act→World→Prop} {a0:World} {L:List (Nat×Array Value×TypeId)}(i:Nat)(hM:Hid (Mem a0 w L))(o:Nat)(C':Array Value) {ty:TypeId} {x y:Operand} {B:Nat} {C:Array Value} {t:TypeId} {v:Value}
 (h:∀w',Hid (Mem a0 w' (L.set i (B,C',t)))→Hid (w.grownBy w' (some B))→wpList P ops Q rest (a.put op.dst undef) w') (hgd:op.guard=none:=by rfl) (ho:op.op= .store ty x y:=by rfl) (hx:a.eval x= .pointer (some ⟨B,o,none⟩):=by rfl) (hL:L[i]? =some (B,C,t):=by rfl)
 (hy:a.eval y=v:=by conv=> {lhs;whnf}) (hi:(P.info? ty).map (·.size)=some v.cells.size:=by kernel_rfl) (h1:v.cells.toList.all (·.oneCell')=true:=by kernel_rfl) (hs:o+v.cells.size≤C.size:=by exact Nat.le_of_ble_eq_true (by kernel_rfl)) (hC:(setL C.toList o v.cells.toList).toArray=C':=by kernel_rfl):wpList P ops Q (op::rest) a w:=
 wpList_storeM i hM hgd ty x y ho B o hx hL v hy hi h1 hs C' hC h
theorem sN {P:Program} {ops:Array Oper} {rest:List Oper} {op:Oper} {a:Act} {w:World} {Q:Exit→Act→World→Prop} {a0:World} {L:List (Nat×Array Value×TypeId)}(i:Nat)(hM:Hid (Mem a0 w L)) {o:Nat} {C':Array Value} {ty:TypeId} {x y:Operand} {B:Nat} {C:Array Value} {t:TypeId} {v:Value}
 (h:∀w',Hid (Mem a0 w' (L.set i (B,C',t)))→Hid (w.grownBy w' (some B))→wpList P ops Q rest (a.put op.dst undef) w') (hgd:op.guard=none:=by rfl) (ho:op.op= .store ty x y:=by rfl) (hx:a.eval x= .pointer (some ⟨B,o,none⟩):=by rfl) (hL:L[i]? =some (B,C,t):=by rfl)
 (hy:a.eval y=v:=by conv=> {lhs;whnf}) (hi:(P.info? ty).map (·.size)=some v.cells.size:=by kernel_rfl) (h1:v.cells.toList.all (·.oneCell')=true:=by rfl) (hs:o+v.cells.size≤C.size:=by exact Nat.le_of_ble_eq_true (by rfl)) (hC:(setL C.toList o v.cells.toList).toArray=C':=by simp only[setL,List.set,Value.cells];exact rfl):wpList P ops Q (op::rest) a w:=
 wpList_storeM i hM hgd ty x y ho B o hx hL v hy hi h1 hs C' hC h
theorem Zm {a w w':World} {L:List (Nat×Array Value×TypeId)}(h:Hid (Mem a w L))(hb:Below w.heap.size w w'):Hid (Mem a w' L):=h.out.keep hb
theorem Zk {a w w':World} {L:List (Nat×Array Value×TypeId)}(h:Hid (Mem a w L))(hb:Below w.heap.size w w')(i j:Nat) {B:Nat} {o:Option Value}(p:w.cell? ⟨B,j,none⟩=o) {C:Array Value} {t:TypeId}(hL:L[i]? =some (B,C,t):=by rfl):w'.cell? ⟨B,j,none⟩=o:=((h.out.keep hb).cell i hL j).trans ((h.out.cell i hL j).symm.trans p)
theorem Zc {a w:World} {L:List (Nat×Array Value×TypeId)}(h:Hid (Mem a w L))(i j:Nat)(v:Value) {B:Nat} {C:Array Value} {t:TypeId}(hL:L[i]? =some (B,C,t):=by rfl)(hv:C[j]? =some v:=by exact rfl):w.cell? ⟨B,j,none⟩=some v:=(h.out.cell i hL j).trans hv
theorem run_loadVar_blk {w:World} {B:Nat} {C:Array Value} {t:TypeId}(hB:Blk w B C t)(ty:TypeId)(d:TypeDesc)(hu:P.underlying ty=some d)(hd:(match d with| .struct _| .array _ _=>true|_=>false)=true)(hi:(P.info? ty).map (·.size)=some C.size):
 (loadVar ty ⟨B,0,none⟩).run P w= .ok (.agg C) w:=run_loadVar_row w B t ty C (0,0) d hB.at_ hu hd hi
theorem wpList_loadM {ops:Array Oper} {rest:List Oper} {op:Oper} {a:Act} {w:World} {Q:Exit→Act→World→Prop}(i:Nat) {a0:World} {L:List (Nat×Array Value×TypeId)}(hM:Hid (Mem a0 w L))(hgd:op.guard=none)(ty:TypeId)(x:Operand)(ho:op.op= .load ty x)
 (B:Nat) (hx:a.eval x= .pointer (some ⟨B,0,none⟩)) {C:Array Value} {t:TypeId} (hL:L[i]? =some (B,C,t)) (d:TypeDesc) (hu:P.underlying ty=some d) (hd:(match d with| .struct _| .array _ _=>true|_=>false)=true)
 (hi:(P.info? ty).map (·.size)=some C.size)
 (h:wpList P ops Q rest (a.put op.dst (.agg C)) w):wpList P ops Q (op::rest) a w:=
 wpList_load_row hgd ty x ho B hx t C (0,0) d (hM.out.at_ i hL).at_ hu hd hi h
theorem lM {P:Program} {ops:Array Oper} {rest:List Oper} {op:Oper} {a:Act} {w:World} {Q:Exit→Act→World→Prop} {a0:World} {L:List (Nat×Array Value×TypeId)}(i:Nat)(hM:Hid (Mem a0 w L)) {ty:TypeId} {d:TypeDesc}(hu:P.underlying ty=some d) {x:Operand} {B:Nat} {C:Array Value} {t:TypeId}
 (h:wpList P ops Q rest (a.put op.dst (.agg C)) w) (hgd:op.guard=none:=by rfl) (ho:op.op= .load ty x:=by rfl) (hx:a.eval x= .pointer (some ⟨B,0,none⟩):=by rfl) (hL:L[i]? =some (B,C,t):=by rfl)
 (hd:d.isRow=true:=by rfl) (hi:(P.info? ty).map (·.size)=some C.size:=by kernel_rfl):wpList P ops Q (op::rest) a w:=
 wpList_loadM i hM hgd ty x ho B hx hL d hu (by cases d<;>first|rfl|cases hd) hi h
theorem wpList_boxM {ops:Array Oper} {rest:List Oper} {op:Oper} {a:Act} {w:World} {Q:Exit→Act→World→Prop} {a0:World} {L:List (Nat×Array Value×TypeId)}(hM:Hid (Mem a0 w L))(hgd:op.guard=none)(ty:TypeId)(x:Operand)(ho:op.op= .box ty x)
 (v:Value) (hx:a.eval x=v) (h:∀g w',Hid (Mem a0 w' ((g,v.cells,ty)::L))→Hid (Below w.heap.size w w')→wpList P ops Q rest (a.put op.dst (.pointer (some ⟨g,0,none⟩))) w'):wpList P ops Q (op::rest) a w:=by
 refine wpList_plain hgd fun K hK=> ?_
 unfold Oper.wp execOp
 simp only[ho,hx,Instr.box,newVar,newRow,newObj,Sem.run_bind,Sem.run_pure]
 exact hK _ _ (h _ _ (hM.out.alloc v.cells ty) (ball w _))
theorem wp_allocM {op:Oper} {a:Act} {w:World} {K:Act→World→Prop} {Q:Exit→Act→World→Prop} {a0:World} {L:List (Nat×Array Value×TypeId)}(hM:Hid (Mem a0 w L))(ty:TypeId)(ho:op.op= .alloc ty)
 {z:Value} {k b:Nat} (hz:(P.info? ty).map (fun i=>(i.zero,i.size,i.bytes))=some (some z,k,b)) (h:∀g w',Hid (Mem a0 w' ((g,z.cells,ty)::L))→Hid (Below w.heap.size w w')→K (a.put op.dst (.pointer (some ⟨g,0,none⟩))) w'):op.wp P a w K Q:=by
 obtain⟨i,h1,h2,_,_⟩:=info_parts hz
 unfold Oper.wp execOp
 have hr:(Instr.alloc ty true (.tuple #[])).run P w= .ok (.pointer (some ⟨w.heap.size,0,none⟩)) (w.alloc (.cells z.cells ty)):=by
  simp[Instr.alloc,zeroValue,typeInfo,newVar,newRow,newObj,h1,h2]
  rfl
 simp only[ho,Sem.run_bind,hr,Sem.run_pure,Result.andThen_ok]
 exact h _ _ (hM.out.alloc z.cells ty) (ball w _)
theorem wpList_allocM {ops:Array Oper} {rest:List Oper} {op:Oper} {a:Act} {w:World} {Q:Exit→Act→World→Prop} {a0:World} {L:List (Nat×Array Value×TypeId)}(hM:Hid (Mem a0 w L))(hgd:op.guard=none)(ty:TypeId)(ho:op.op= .alloc ty)
 {z:Value} {k b:Nat} (hz:(P.info? ty).map (fun i=>(i.zero,i.size,i.bytes))=some (some z,k,b)) (h:∀g w',Hid (Mem a0 w' ((g,z.cells,ty)::L))→Hid (Below w.heap.size w w')→wpList P ops Q rest (a.put op.dst (.pointer (some ⟨g,0,none⟩))) w'):wpList P ops Q (op::rest) a w:=
 wpList_plain hgd fun _ hK=>wp_allocM hM ty ho hz fun g w' h1 h2=>hK _ _ (h g w' h1 h2)
theorem step_of {ops:Array Oper} {op:Oper} {a:Act} {w:World} {K:Act→World→Prop} {Q:Exit→Act→World→Prop} {F:Prop}(hgd:op.guard=none)(h:op.wp P a w K Q):if Region.wanted op (yielded ops a.tmps)=true then Oper.wp P op a w K Q else F:=by
 have hw:Region.wanted op (yielded ops a.tmps)=true:=by simp[Region.wanted,hgd]
 rw[if_pos hw]
 exact h
theorem wpList_boxA {ops:Array Oper} {rest:List Oper} {op:Oper} {a:Act} {w:World} {Q:Exit→Act→World→Prop} {a0:World} {L:List (Nat×Array Value×TypeId)}(hM:Hid (Mem a0 w L))(hgd:op.guard=none)(ty:TypeId)(x:Operand)(ho:op.op= .box ty x)
 (C:Array Value) (hx:a.eval x= .agg C) (h:∀g w',Hid (Mem a0 w' ((g,C,ty)::L))→Hid (Below w.heap.size w w')→wpList P ops Q rest (a.put op.dst (.pointer (some ⟨g,0,none⟩))) w'):wpList P ops Q (op::rest) a w:=
 wpList_boxM hM hgd ty x ho (.agg C) hx h
theorem bA {P:Program} {ops:Array Oper} {rest:List Oper} {op:Oper} {a:Act} {w:World} {Q:Exit→Act→World→Prop} {a0:World} {L:List (Nat×Array Value×TypeId)}(hM:Hid (Mem a0 w L))(ty:TypeId) {x:Operand} {C:Array Value}(h:∀g w',Hid (Mem a0 w' ((g,C,ty)::L))→Hid (Below w.heap.size w w')→wpList P ops Q rest (a.put op.dst (.pointer (some ⟨g,0,none⟩))) w')
 (hgd:op.guard=none:=by rfl) (ho:op.op= .box ty x:=by rfl) (hx:a.eval x= .agg C:=by rfl):wpList P ops Q (op::rest) a w:=
 wpList_boxA hM hgd ty x ho C hx h
theorem wpList_allocA {ops:Array Oper} {rest:List Oper} {op:Oper} {a:Act} {w:World} {Q:Exit→Act→World→Prop} {a0:World} {L:List (Nat×Array Value×TypeId)}(hM:Hid (Mem a0 w L))(hgd:op.guard=none)(ty:TypeId)(ho:op.op= .alloc ty)
 {Z:Array Value} {k b:Nat} (hz:(P.info? ty).map (fun i=>(i.zero,i.size,i.bytes))=some (some (.agg Z),k,b)) (h:∀g w',Hid (Mem a0 w' ((g,Z,ty)::L))→Hid (Below w.heap.size w w')→wpList P ops Q rest (a.put op.dst (.pointer (some ⟨g,0,none⟩))) w'):wpList P ops Q (op::rest) a w:=
 wpList_allocM hM hgd ty ho hz h
theorem results_c {fn:Func} {s:Tmp} {ty:TypeId}(hr:fn.results=#[.cell s ty]) {tmps:Array Value} {w:World} {B:Nat} {C:Array Value} {t:TypeId}(hB:Blk w B C t)(hs:tmps.getD s undef= .pointer (some ⟨B,0,none⟩))(d:TypeDesc)(hu:P.underlying ty=some d)(hd:(match d with| .struct _| .array _ _=>true|_=>false)=true)(hi:(P.info? ty).map (·.size)=some C.size):
 (results fn tmps).run P w= .ok (.agg C) w:=by
 have:=run_loadVar_blk hB ty d hu hd hi
 rw[Array.getD_eq_getD_getElem?]at hs
 simp[results,hr,hs,asAddr,this]
theorem results_ct {fn:Func} {s u:Tmp} {ty:TypeId}(hr:fn.results=#[.cell s ty,.tmp u]) {tmps:Array Value} {w:World} {B:Nat} {C:Array Value} {t:TypeId}(hB:Blk w B C t)(hs:tmps.getD s undef= .pointer (some ⟨B,0,none⟩))(d:TypeDesc)(hu:P.underlying ty=some d)(hd:(match d with| .struct _| .array _ _=>true|_=>false)=true)(hi:(P.info? ty).map (·.size)=some C.size):
 (results fn tmps).run P w= .ok (.tuple #[.agg C,tmps.getD u undef]) w:=by
 have:=run_loadVar_blk hB ty d hu hd hi
 rw[Array.getD_eq_getD_getElem?]at hs
 simp[results,hr,hs,asAddr,this]
theorem results_cct {fn:Func} {s r u:Tmp} {ty tz:TypeId}(hr:fn.results=#[.cell s ty,.cell r tz,.tmp u]) {tmps:Array Value} {w:World} {B E:Nat} {C D:Array Value} {t k:TypeId}(hB:Blk w B C t)(hE:Blk w E D k)(hs:tmps.getD s undef= .pointer (some ⟨B,0,none⟩))(hs2:tmps.getD r undef= .pointer (some ⟨E,0,none⟩))
 (d:TypeDesc) (hu:P.underlying ty=some d) (hd:(match d with| .struct _| .array _ _=>true|_=>false)=true) (hi:(P.info? ty).map (·.size)=some C.size) (d2:TypeDesc) (hu2:P.underlying tz=some d2) (hd2:(match d2 with| .struct _| .array _ _=>true|_=>false)=true) (hi2:(P.info? tz).map (·.size)=some D.size):
 (results fn tmps).run P w= .ok (.tuple #[.agg C,.agg D,tmps.getD u undef]) w:=by
 have h1:=run_loadVar_blk hB ty d hu hd hi
 have h2:=run_loadVar_blk hE tz d2 hu2 hd2 hi2
 rw[Array.getD_eq_getD_getElem?]at hs hs2
 simp[results,hr,hs,hs2,asAddr,h1,h2]
theorem rC {P:Program} {fn:Func} {R:Ending→World→Prop} {a:Act} {w a0:World} {L:List (Nat×Array Value×TypeId)} {s:Tmp} {ty:TypeId} {d:TypeDesc} {B:Nat} {C:Array Value} {t:TypeId}(hM:Hid (Mem a0 w L))(i:Nat)(hu:P.underlying ty=some d)(h:R (.returned (.agg C)) w)(hr:fn.results=#[.cell s ty]:=by rfl)(hL:L[i]? =some (B,C,t):=by rfl)(hs:a.tmps.getD s undef= .pointer (some ⟨B,0,none⟩):=by rfl)(hd:d.isRow=true:=by rfl)(hi:(P.info? ty).map (·.size)=some C.size:=by kernel_rfl)(hf:a.defers= []:=by rfl):bodyPost P fn R .ret a w:=
 bodyPost_ret (results_c hr (hM.out.at_ i hL) hs d hu (by cases d<;>first|rfl|cases hd) hi) hf h
theorem rT {P:Program} {fn:Func} {R:Ending→World→Prop} {a:Act} {w a0:World} {L:List (Nat×Array Value×TypeId)} {s u:Tmp} {ty:TypeId} {d:TypeDesc} {B:Nat} {C:Array Value} {t:TypeId}(hM:Hid (Mem a0 w L))(i:Nat)(hu:P.underlying ty=some d)(h:R (.returned (.tuple #[.agg C,a.tmps.getD u undef])) w)(hr:fn.results=#[.cell s ty,.tmp u]:=by rfl)(hL:L[i]? =some (B,C,t):=by rfl)(hs:a.tmps.getD s undef= .pointer (some ⟨B,0,none⟩):=by rfl)(hd:d.isRow=true:=by rfl)(hi:(P.info? ty).map (·.size)=some C.size:=by kernel_rfl)(hf:a.defers= []:=by rfl):bodyPost P fn R .ret a w:=
 bodyPost_ret (results_ct hr (hM.out.at_ i hL) hs d hu (by cases d<;>first|rfl|cases hd) hi) hf h
theorem rU {P:Program} {fn:Func} {R:Ending→World→Prop} {a:Act} {w a0:World} {L:List (Nat×Array Value×TypeId)} {s r u:Tmp} {ty tz:TypeId} {d d2:TypeDesc} {B E:Nat} {C D:Array Value} {t k:TypeId}(hM:Hid (Mem a0 w L))(i j:Nat)(hu:P.underlying ty=some d)(hu2:P.underlying tz=some d2)(h:R (.returned (.tuple #[.agg C,.agg D,a.tmps.getD u undef])) w)(hr:fn.results=#[.cell s ty,.cell r tz,.tmp u]:=by rfl)(hL:L[i]? =some (B,C,t):=by rfl)(hK:L[j]? =some (E,D,k):=by rfl)(hs:a.tmps.getD s undef= .pointer (some ⟨B,0,none⟩):=by rfl)(hs2:a.tmps.getD r undef= .pointer (some ⟨E,0,none⟩):=by rfl)(hd:d.isRow=true:=by rfl)(hi:(P.info? ty).map (·.size)=some C.size:=by kernel_rfl)(hd2:d2.isRow=true:=by rfl)(hi2:(P.info? tz).map (·.size)=some D.size:=by kernel_rfl)(hf:a.defers= []:=by rfl):bodyPost P fn R .ret a w:=
 bodyPost_ret (results_cct hr (hM.out.at_ i hL) (hM.out.at_ j hK) hs hs2 d hu (by cases d<;>first|rfl|cases hd) hi d2 hu2 (by cases d2<;>first|rfl|cases hd2) hi2) hf h
end
theorem msgInfo:(Tryz.prog.info? 30).map (fun i=>(i.zero,i.size,i.bytes))=some (some (.agg #[.int .i64 0,.bool false,.int .i64 0,.int .i64 0,.int .i64 0,.slice none 0 0,.slice none 0 0]),7,88):=by kernel_rfl
theorem edInfo:(Tryz.prog.info? 32).map (fun i=>(i.zero,i.size,i.bytes))=some (some (.agg #[.int .i64 0,.int .i64 0,.int .i64 0,.slice none 0 0,.bool false,.int .i64 0,.int .i64 0,.bool false,.int .i64 0,.int .i64 0,.int .i64 0,.slice none 0 0,.slice none 0 0,.bool false,.int .i64 0,.bool false,.int .i64 0,.int .i64 0,.int .i64 0,.slice none 0 0,.slice none 0 0,.int .i64 0,.bool false,.int .i64 0,.int .i64 0,.int .i64 0,.slice none 0 0,.slice none 0 0]),28,336):=by kernel_rfl
theorem tabInfo:(Tryz.prog.info? 37).map (fun i=>(i.zero,i.size,i.bytes))=some (some (.agg #[.int .i64 0,.int .i64 0,.slice none 0 0]),3,40):=by kernel_rfl
theorem zmsg:(Tryz.prog.info? 30).map (·.size)=some 7:=by kernel_rfl
theorem zend:(Tryz.prog.info? 32).map (·.size)=some 28:=by kernel_rfl
theorem ztab:(Tryz.prog.info? 37).map (·.size)=some 3:=by kernel_rfl
theorem ztcl:(Tryz.prog.info? 85).map (·.size)=some 6:=by kernel_rfl
theorem zspt:(Tryz.prog.info? 97).map (·.size)=some 2:=by kernel_rfl
end Tx
end Go.Proofs.YtfamifgchgolpaaGreat
