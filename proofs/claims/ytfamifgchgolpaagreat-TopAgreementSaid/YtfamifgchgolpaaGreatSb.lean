/- Chapter 28, plain: two ends that keep house, slotframe by slotframe. -/
import Derived.Test.YtfamifgchgolpaaGreatCy
import Derived.Test.YtfamifgchgolpaaGreatCa
set_option linter.unusedVariables false
set_option linter.unusedSimpArgs false
set_option maxRecDepth 100000
set_option maxHeartbeats 8000000
namespace Go.Proofs.YtfamifgchgolpaaGreat
namespace Tx
structure Cpl where
 a:Ed
 b:Ed
 left:Tab
 right:Tab
 free:List Int
 period:Int
 frame:Int
 wa:Bool
 wb:Bool
deriving DecidableEq,Inhabited
def cpl0:Cpl:=⟨ed0,ed0,tab0,tab0,[],0,0,false,false⟩
def pairC(c:Cpl):Bool:=decide (idleC c.a c.b c.left c.right=0)
def chkCp(c:Cpl):Int:=if c.period<1∨4096<c.period∨c.frame<0∨1099511627776<c.frame then 2 else if pairC c=false then 1 else 0
def freshC(left right:Tab)(f:List Int)(period:Int):Cpl:=⟨startE left.node right.node,startE right.node left.node,left,right,f,period,0,false,false⟩
def newCC(left right:Tab)(f:List Int)(period:Int):Int:=if period<1∨4096<period then 2 else if pairC (freshC left right f period)=false then 1 else 0
def newCN(left right:Tab)(f:List Int)(period:Int):Cpl:=if newCC left right f period=0 then freshC left right f period else cpl0
def boundC(period losses:Int):Int:=if period<1∨4096<period∨losses<0∨7<losses then 2 else 0
def boundN(period losses:Int):Int:=if boundC period losses=0 then(losses+1)*(losses+1)*period+losses+1 else 0
def rowN(now:Int)(lost:Bool):Int:=if lost=true then now+1 else 0
def rowsN:List Bool→Int×Int→Int×Int
 | [],s=>s
 |x::l,s=>rowsN l (rowN s.1 (!x),max s.2 (rowN s.1 (!x)))
def longN(l:List Bool):Int:=(rowsN l (0,0)).2
theorem rows_snoc:∀(l:List Bool) (x:Bool) (s:Int×Int),rowsN (l++ [x]) s=(rowN (rowsN l s).1 (!x),max (rowsN l s).2 (rowN (rowsN l s).1 (!x)))
 | [],_,_=>rfl
 |y::l,x,s=>by
  rw[List.cons_append]
  exact rows_snoc l x _
theorem rows_bd:∀(l:List Bool) (s:Int×Int) (k:Int),0≤s.1→s.1≤k→0≤s.2→s.2≤k→0≤(rowsN l s).1∧(rowsN l s).1≤k+l.length∧0≤(rowsN l s).2∧(rowsN l s).2≤k+l.length
 | [],s,k,h1,h2,h3,h4=>by simpa[rowsN]using⟨h1,h2,h3,h4⟩
 |x::l,s,k,h1,h2,h3,h4=>by
  have h5:0≤rowN s.1 (!x)∧rowN s.1 (!x)≤k+1:=by unfold rowN;split<;>omega
  have:=rows_bd l (rowN s.1 (!x),max s.2 (rowN s.1 (!x))) (k+1) h5.1 h5.2 (by dsimp only;omega) (by dsimp only;omega)
  rw[List.length_cons]
  push_cast
  show 0≤(rowsN l _).1∧(rowsN l _).1≤_∧0≤(rowsN l _).2∧(rowsN l _).2≤_
  omega
def turnC(c:Cpl):Cpl:= { c with a:=c.b,b:=c.a,left:=c.right,right:=c.left,wa:=c.wb,wb:=c.wa}
def worN(w:Bool)(code k:Int):Bool:=(w||decide (code=1))&& !decide (k=6)
def askedC(c:Cpl)(k n:Int)(x:Fate):Cpl:=
 { c with
   a:=(runN c.a c.b c.left c.right c.free k n x).1
   b:=(runN c.a c.b c.left c.right c.free k n x).2.1
   wa:=if x.request=true∨x.reply=true then c.wa else worN c.wa (gotN c.b c.right c.free (askN c.a c.left c.free k n 0) x).2.code k
   wb:=if x.request=true then c.wb else worN c.wb (gotN c.b c.right c.free (askN c.a c.left c.free k n 0) x).2.code k}
def exch1(c:Cpl)(k n:Int)(x:Fate):Cpl×Bool:=if askC c.a c.left c.free k n 0=0 then(askedC c k n x,true)else(c,false)
def exchN(c:Cpl)(o:Bool)(k n:Int)(x:Fate):Cpl×Bool:=if o=true then(turnC (exch1 (turnC c) k n x).1,(exch1 (turnC c) k n x).2)else exch1 c k n x
def clrC(c:Cpl)(o:Bool):Cpl:=if o=true then { c with b:=startE c.b.node c.b.peer}else { c with a:=startE c.a.node c.a.peer}
def whoN(ok:Bool)(o:Bool):Int:=if ok=true then(if o=true then 2 else 1)else 0
def actN(c:Cpl)(w:Wsh):Cpl×Int:=
 if c.wa=true then((exchN (clrC c false) false 6 0 w.fate).1,whoN (exchN (clrC c false) false 6 0 w.fate).2 false)
 else if c.wb=true then((exchN (clrC c true) true 6 0 w.fate).1,whoN (exchN (clrC c true) true 6 0 w.fate).2 true)
 else if c.frame.tmod c.period=0 then((exchN c false 4 0 w.fate).1,whoN (exchN c false 4 0 w.fate).2 false)
 else if w.kind=0 then(c,0)
 else((exchN c w.other w.kind w.count w.fate).1,whoN (exchN c w.other w.kind w.count w.fate).2 w.other)
def tickC(c:Cpl):Cpl:= { c with frame:=c.frame+1}
def stepN(c:Cpl)(w:Wsh):Cpl×Int:=(tickC (actN c w).1,(actN c w).2)
def stepsN:List Wsh→Cpl→Cpl
 | [],c=>c
 |w::l,c=>stepsN l (stepN c w).1
def consC(c:Cpl):Bool:=consB c.a c.b
def stepsB:List Wsh→Cpl→List Bool
 | [],_=> []
 |w::l,c=>consC (stepN c w).1::stepsB l (stepN c w).1
theorem steps_snoc:∀(l:List Wsh) (w:Wsh) (c:Cpl),stepsN (l++ [w]) c=(stepN (stepsN l c) w).1
 | [],_,_=>rfl
 |x::l,w,c=>by
  rw[List.cons_append]
  exact steps_snoc l w _
theorem stepsB_snoc:∀(l:List Wsh) (w:Wsh) (c:Cpl),stepsB (l++ [w]) c=stepsB l c++ [consC (stepsN (l++ [w]) c)]
 | [],_,_=>rfl
 |x::l,w,c=>by
  rw[List.cons_append]
  show _::stepsB (l++ [w]) _= _::(_++ _)
  rw[stepsB_snoc l w]
  rfl
theorem stepsB_len:∀(l:List Wsh) (c:Cpl),(stepsB l c).length=l.length
 | [],_=>rfl
 |x::l,c=>by
  show(stepsB l _).length+1=l.length+1
  rw[stepsB_len l]
def stpC(c:Cpl):Int:=if chkCp c=0 then 0 else 1
def stpN(c:Cpl)(w:Wsh):Cpl:=if chkCp c=0 then(stepN c w).1 else cpl0
def runC(c:Cpl)(l:List Wsh):Int:=if chkCp c≠0 then 1 else if 4096<l.length then 8 else 0
def runCN(c:Cpl)(l:List Wsh):Cpl:=if runC c l=0 then stepsN l c else cpl0
def runCB(c:Cpl)(l:List Wsh):List Bool:=if runC c l=0 then stepsB l c else []
structure Los where
 n1:Int
 m1:Int
 n2:Int
 m2:Int
deriving DecidableEq
def losN(s:Los)(who:Int)(x:Fate):Los:=
 if who=0 then s
 else if who=1 then
  (if x.request=true then⟨s.n1+1,max s.m1 (s.n1+1),s.n2,s.m2⟩else⟨0,max s.m1 0,rowN s.n2 x.reply,max s.m2 (rowN s.n2 x.reply)⟩)
 else(if x.request=true then⟨s.n1,s.m1,s.n2+1,max s.m2 (s.n2+1)⟩else⟨rowN s.n1 x.reply,max s.m1 (rowN s.n1 x.reply),0,max s.m2 0⟩)
def lossN:List Wsh→Cpl→Los→Los
 | [],_,s=>s
 |w::l,c,s=>lossN l (stepN c w).1 (losN s (stepN c w).2 w.fate)
theorem loss_snoc:∀(l:List Wsh) (w:Wsh) (c:Cpl) (s:Los),lossN (l++ [w]) c s=losN (lossN l c s) (stepN (stepsN l c) w).2 w.fate
 | [],_,_,_=>rfl
 |x::l,w,c,s=>by
  rw[List.cons_append]
  exact loss_snoc l w _ _
def lossC(c:Cpl)(l:List Wsh):Los:=if runC c l=0 then lossN l c ⟨0,0,0,0⟩else⟨0,0,0,0⟩
structure CplOk(c:Cpl):Prop where
 idle:Idle c.a c.b c.left c.right
 sl:Small2 c.left
 sr:Small2 c.right
 p1:1≤c.period
 p2:c.period≤4096
theorem CplOk.turn {c:Cpl}(h:CplOk c):CplOk (turnC c):=⟨h.idle.swap,h.sr,h.sl,h.p1,h.p2⟩
theorem CplOk.ra {c:Cpl}(h:CplOk c):Room c.left c.a:=room_small h.sl h.idle.fa
theorem CplOk.rb {c:Cpl}(h:CplOk c):Room c.right c.b:=room_small h.sr h.idle.fb
theorem cpl_run {c:Cpl} {k n:Int}(h:CplOk c)(h0:askC c.a c.left c.free k n 0=0):∃m y r z,RunIs c.a c.b c.left c.right c.free k n m y r z:=run_is h.idle h.ra h.rb h0
theorem RunIs.asked {c:Cpl} {k n:Int} {m:Msg} {y:Ed} {r:Msg} {z:Ed}(h:RunIs c.a c.b c.left c.right c.free k n m y r z)(x:Fate):askedC c k n x=if x.request=true then c else if x.reply=true then { c with b:=y,wb:=worN c.wb r.code k}else { c with a:=z,b:=y,wa:=worN c.wa r.code k,wb:=worN c.wb r.code k}:=by
 unfold askedC
 rw[h.run,h.e2,h.got]
 obtain⟨x1,x2,x3,x4⟩:=x
 cases x1<;>cases x2<;>rfl
theorem CplOk.asked {c:Cpl} {k n:Int}(h:CplOk c)(h0:askC c.a c.left c.free k n 0=0)(x:Fate):CplOk (askedC c k n x):=by
 obtain⟨m,y,r,z,hR⟩:=cpl_run h h0
 exact⟨hR.idle h.idle x,h.sl,h.sr,h.p1,h.p2⟩
theorem CplOk.exch1 {c:Cpl}(h:CplOk c)(k n:Int)(x:Fate):CplOk (exch1 c k n x).1:=by
 unfold Tx.exch1
 split
 ·exact h.asked (by assumption) x
 ·exact h
theorem CplOk.exch {c:Cpl}(h:CplOk c)(o:Bool)(k n:Int)(x:Fate):CplOk (exchN c o k n x).1:=by
 unfold exchN
 split
 ·exact(h.turn.exch1 k n x).turn
 ·exact h.exch1 k n x
theorem full_start {t:Tab} {e:Ed}(J:FullOk t e):FullOk t (startE e.node e.peer):=by
 have hE:=J.ed
 have hx:EdOk (startE e.node e.peer):=⟨hE.node0,hE.node,hE.peer0,hE.peer,Int.le_refl _,by show(0:Int)≤255;decide,Int.le_refl _,by show(0:Int)≤1099511627776;decide,hE.ne,⟨fun c hc=>(by cases hc),List.Pairwise.nil,.inr rfl⟩,rfl,rfl⟩
 exact⟨hx,J.tab,J.node,J.btw,fun c hc=>(by cases hc),fun c hc=>(by cases hc),by have:=J.tab.size;show _+0≤512;omega⟩
theorem CplOk.clr {c:Cpl}(h:CplOk c)(o:Bool):CplOk (clrC c o):=by
 have hi:=h.idle
 unfold clrC
 split
 ·exact⟨⟨hi.fa,full_start hi.fb,hi.ab,hi.ba,hi.len,hi.oa,rfl⟩,h.sl,h.sr,h.p1,h.p2⟩
 ·exact⟨⟨full_start hi.fa,hi.fb,hi.ab,hi.ba,hi.len,rfl,hi.ob⟩,h.sl,h.sr,h.p1,h.p2⟩
theorem CplOk.act {c:Cpl}(h:CplOk c)(w:Wsh):CplOk (actN c w).1:=by
 unfold actN
 split
 ·exact(h.clr false).exch false 6 0 w.fate
 split
 ·exact(h.clr true).exch true 6 0 w.fate
 split
 ·exact h.exch false 4 0 w.fate
 split
 ·exact h
 ·exact h.exch w.other w.kind w.count w.fate
theorem CplOk.step {c:Cpl}(h:CplOk c)(w:Wsh):CplOk (stepN c w).1:=by
 have:=h.act w
 exact⟨this.idle,this.sl,this.sr,this.p1,this.p2⟩
theorem CplOk.steps:∀(l:List Wsh) {c:Cpl},CplOk c→CplOk (stepsN l c)
 | [],_,h=>h
 |w::l,_,h=>CplOk.steps l (h.step w)
structure Still(c d:Cpl):Prop where
 left:d.left=c.left
 right:d.right=c.right
 free:d.free=c.free
 period:d.period=c.period
 frame:d.frame=c.frame
theorem still_exch(c:Cpl)(o:Bool)(k n:Int)(x:Fate):Still c (exchN c o k n x).1:=by
 unfold exchN exch1 askedC turnC
 repeat' split
 all_goals exact⟨rfl,rfl,rfl,rfl,rfl⟩
theorem Still.clr {c d:Cpl} {o:Bool}(h:Still (clrC c o) d):Still c d:=by
 obtain⟨h1,h2,h3,h4,h5⟩:=h
 unfold clrC at*
 split at h1<;>split at h2<;>split at h3<;>split at h4<;>split at h5<;>first|exact⟨h1,h2,h3,h4,h5⟩|contradiction
theorem still_act(c:Cpl)(w:Wsh):Still c (actN c w).1:=by
 unfold actN
 split
 ·exact(still_exch _ _ _ _ _).clr
 split
 ·exact(still_exch _ _ _ _ _).clr
 split
 ·exact still_exch _ _ _ _ _
 split
 ·exact⟨rfl,rfl,rfl,rfl,rfl⟩
 ·exact still_exch _ _ _ _ _
structure Stills(c d:Cpl)(n:Int):Prop where
 left:d.left=c.left
 right:d.right=c.right
 free:d.free=c.free
 period:d.period=c.period
 frame:d.frame=c.frame+n
theorem still_step(c:Cpl)(w:Wsh):Stills c (stepN c w).1 1:=by
 obtain⟨h1,h2,h3,h4,h5⟩:=still_act c w
 exact⟨h1,h2,h3,h4,by show(actN c w).1.frame+1= _;rw[h5]⟩
theorem still_steps:∀(l:List Wsh) (c:Cpl),Stills c (stepsN l c) l.length
 | [],c=>⟨rfl,rfl,rfl,rfl,by show c.frame=c.frame+0;omega⟩
 |w::l,c=>by
  have h:=still_step c w
  have k:=still_steps l (stepN c w).1
  exact⟨k.left.trans h.left,k.right.trans h.right,k.free.trans h.free,k.period.trans h.period,by rw[List.length_cons];push_cast;have:=k.frame;rw[h.frame]at this;show(stepsN l _).frame= _;omega⟩
theorem chkCp_iff {c:Cpl}:chkCp c=0↔(1≤c.period∧c.period≤4096∧0≤c.frame∧c.frame≤1099511627776)∧Idle c.a c.b c.left c.right:=by
 unfold chkCp pairC
 rw[←idleC_iff]
 constructor
 ·intro h
  split at h
  ·cases h
  split at h
  ·cases h
  rename_i h1 h2
  rw[decide_eq_false_iff_not,Decidable.not_not]at h2
  exact⟨by omega,h2⟩
 ·rintro⟨h1,h2⟩
  rw[if_neg (by omega),if_neg (by rw[h2];decide)]
theorem newCC_iff {left right:Tab} {f:List Int} {p:Int}:newCC left right f p=0↔(1≤p∧p≤4096)∧Idle (startE left.node right.node) (startE right.node left.node) left right:=by
 unfold newCC pairC
 rw[←idleC_iff]
 constructor
 ·intro h
  split at h
  ·cases h
  split at h
  ·cases h
  rename_i h1 h2
  rw[decide_eq_false_iff_not,Decidable.not_not]at h2
  exact⟨by omega,h2⟩
 ·rintro⟨h1,h2⟩
  have h3:decide (idleC (freshC left right f p).a (freshC left right f p).b (freshC left right f p).left (freshC left right f p).right=0)=true:=decide_eq_true h2
  rw[if_neg (by omega),h3];rfl
theorem pairC_eq2(c:Cpl):pairC c=(idleB c.a c.b c.left c.right&&(!c.a.opn&& !c.b.opn)):=by
 rw[Bool.eq_iff_iff]
 simp only[pairC,decide_eq_true_eq,Bool.and_eq_true,Bool.not_eq_true',idleC_iff,idleB_iff]
 exact⟨fun⟨a1,a2,a3,a4,a5,a6,a7⟩=>⟨⟨a1,a2,a3,a4,a5⟩,a6,a7⟩,fun⟨⟨a1,a2,a3,a4,a5⟩,a6,a7⟩=>⟨a1,a2,a3,a4,a5,a6,a7⟩⟩
structure Calm(c:Cpl):Prop where
 ok:CplOk c
 cons:consB c.a c.b=true
 wa:c.wa=false
 wb:c.wb=false
theorem cons_swap {a b:Ed}(h:consB a b=true):consB b a=true:=by
 unfold consB pairB at*
 simp only[Bool.and_eq_true,decide_eq_true_eq]at*
 obtain⟨⟨h1,h2,h3,h4⟩,h5,h6⟩:=h
 exact⟨⟨h2,h1,h4.symm,h3.symm⟩,h5.symm,opp_comm h6⟩
theorem Calm.turn {c:Cpl}(h:Calm c):Calm (turnC c):=⟨h.ok.turn,cons_swap h.cons,h.wb,h.wa⟩
theorem worN_no {w:Bool} {code k:Int}(hw:w=false)(hc:code≠1):worN w code k=false:=by
 unfold worN
 rw[hw,decide_eq_false hc];rfl
theorem Calm.exch1 {c:Cpl}(h:Calm c)(k n:Int)(x:Fate)(x1:x.request=false)(x2:x.reply=false):Calm (exch1 c k n x).1:=by
 unfold Tx.exch1
 split
 ·rename_i h0
  have ho:=h.ok.asked h0 x
  obtain⟨m,y,r,z,hR⟩:=cpl_run h.ok h0
  have hL:=losses_ok h.ok.idle hR h.cons
  have e:=hR.asked x
  rw[if_neg (by rw[x1];simp),if_neg (by rw[x2];simp)]at e
  dsimp only
  rw[e]at ho ⊢
  exact⟨ho,hL.both,worN_no h.wa hL.c1,worN_no h.wb hL.c1⟩
 ·exact h
theorem Calm.exch {c:Cpl}(h:Calm c)(o:Bool)(k n:Int)(x:Fate)(x1:x.request=false)(x2:x.reply=false):Calm (exchN c o k n x).1:=by
 unfold exchN
 split
 ·exact(h.turn.exch1 k n x x1 x2).turn
 ·exact h.exch1 k n x x1 x2
theorem Calm.step {c:Cpl}(h:Calm c)(w:Wsh)(x1:w.fate.request=false)(x2:w.fate.reply=false):Calm (stepN c w).1:=by
 have key:Calm (actN c w).1:=by
  unfold actN
  rw[if_neg (by rw[h.wa];simp),if_neg (by rw[h.wb];simp)]
  split
  ·exact h.exch false 4 0 w.fate x1 x2
  split
  ·exact h
  ·exact h.exch w.other w.kind w.count w.fate x1 x2
 exact⟨⟨key.ok.idle,key.ok.sl,key.ok.sr,key.ok.p1,key.ok.p2⟩,key.cons,key.wa,key.wb⟩
def Kept(l:List Wsh):Prop:=∀w∈l,w.fate.request=false∧w.fate.reply=false
theorem Calm.steps:∀(l:List Wsh) {c:Cpl},Kept l→Calm c→Calm (stepsN l c)
 | [],_,_,h=>h
 |w::l,_,hk,h=>Calm.steps l (fun x hx=>hk x (List.mem_cons_of_mem _ hx)) (h.step w (hk w (List.mem_cons_self ..)).1 (hk w (List.mem_cons_self ..)).2)
theorem Calm.bools:∀(l:List Wsh) {c:Cpl},Kept l→Calm c→∀x∈stepsB l c,x=true
 | [],_,_,_,x,hx=>by cases hx
 |w::l,c,hk,h,x,hx=>by
  have h1:=h.step w (hk w (List.mem_cons_self ..)).1 (hk w (List.mem_cons_self ..)).2
  rcases List.mem_cons.1 hx with rfl|hx
  ·exact h1.cons
  ·exact Calm.bools l (fun y hy=>hk y (List.mem_cons_of_mem _ hy)) h1 x hx
theorem losN_zero(who:Int)(x:Fate)(x1:x.request=false)(x2:x.reply=false):losN ⟨0,0,0,0⟩ who x=⟨0,0,0,0⟩:=by
 unfold losN rowN
 rw[x1,x2]
 split
 ·rfl
 split<;>rfl
theorem loss_zero:∀(l:List Wsh) (c:Cpl),Kept l→lossN l c ⟨0,0,0,0⟩=⟨0,0,0,0⟩
 | [],_,_=>rfl
 |w::l,c,hk=>by
  show lossN l _ (losN _ _ _)= _
  rw[losN_zero _ _ (hk w (List.mem_cons_self ..)).1 (hk w (List.mem_cons_self ..)).2]
  exact loss_zero l _ (fun x hx=>hk x (List.mem_cons_of_mem _ hx))
theorem calm_fresh {left right:Tab} {f:List Int} {p:Int}(h:newCC left right f p=0)(sl:Small2 left)(sr:Small2 right):Calm (freshC left right f p):=by
 obtain⟨⟨h1,h2⟩,hi⟩:=newCC_iff.1 h
 exact⟨⟨hi,sl,sr,h1,h2⟩,by show consB (startE _ _) (startE _ _)=true;unfold consB;rw[hi.pair];rfl,rfl,rfl⟩
structure NothLaw(c d:Cpl)(l:List Wsh)(x:List Bool):Prop where
 run:runC c l=0
 end_ : runCN c l = d
 bools:runCB c l=x
 loss:lossC c l=⟨0,0,0,0⟩
 all:∀b∈x,b=true
 len:x.length=l.length
 wa:d.wa=false
 wb:d.wb=false
 frame:d.frame=l.length
theorem noth_law {left right:Tab} {f:List Int} {p:Int} {l:List Wsh}(h:newCC left right f p=0)(sl:Small2 left)(sr:Small2 right)(hl:l.length≤60)(hk:Kept l):∃d x,NothLaw (freshC left right f p) d l x:=by
 have hc:=calm_fresh (f:=f) h sl sr
 have h1:chkCp (freshC left right f p)=0:=chkCp_iff.2 ⟨⟨hc.ok.p1,hc.ok.p2,Int.le_refl _,by show(0:Int)≤1099511627776;decide⟩,hc.ok.idle⟩
 have h2:runC (freshC left right f p) l=0:=by
  unfold runC
  rw[if_neg (by rw[h1];simp),if_neg (by omega)]
 have h3:=hc.steps l hk
 refine⟨stepsN l (freshC left right f p),stepsB l (freshC left right f p),⟨h2,by unfold runCN;rw[if_pos h2],by unfold runCB;rw[if_pos h2],by unfold lossC;rw[if_pos h2,loss_zero l _ hk],hc.bools l hk,stepsB_len _ _,h3.wa,h3.wb,?_⟩⟩
 have:=(still_steps l (freshC left right f p)).frame
 rw[this]
 show(0:Int)+ _= _
 omega
structure QuietLaw(c:Cpl)(w w0:Wsh)(d:Cpl)(e:Cpl):Prop where
 c1:stpC c=0
 e1:stpN c w=d
 e2:stpN c w0=e
 calm:consB c.a c.b=true→consB d.a d.b=true∧d.wa=false∧d.wb=false
 same:c.frame.tmod c.period≠0→e=tickC c
theorem quiet_law {c:Cpl} {w:Wsh}(h:chkCp c=0)(sl:Small2 c.left)(sr:Small2 c.right)(wa:c.wa=false)(wb:c.wb=false)(x1:w.fate.request=false)(x2:w.fate.reply=false):∃d e,QuietLaw c w { w with kind:=0} d e:=by
 obtain⟨⟨h1,h2,_,_⟩,hi⟩:=chkCp_iff.1 h
 refine⟨(stepN c w).1,(stepN c { w with kind:=0}).1,⟨by unfold stpC;rw[if_pos h],by unfold stpN;rw[if_pos h],by unfold stpN;rw[if_pos h],fun hc=> ?_,fun hp=> ?_⟩⟩
 ·have:=(Calm.mk ⟨hi,sl,sr,h1,h2⟩ hc wa wb).step w x1 x2
  exact⟨this.cons,this.wa,this.wb⟩
 ·show tickC (actN c _).1= _
  unfold actN
  rw[if_neg (by rw[wa];simp),if_neg (by rw[wb];simp),if_neg hp,if_pos rfl]
open Go Go.RowKit Go.Sort Go.Shelf Go.Maps
open Sw Mm Pl
theorem Mem.swap2 {a w:World} {p q:Nat×Array Value×TypeId} {L:List (Nat×Array Value×TypeId)}(h:Mem a w (p::q::L)):Mem a w (q::p::L):=by
 have hp:(q::p::L).Perm (p::q::L):=List.Perm.swap _ _ _
 exact⟨h.below,fun e he=>h.blk e (hp.subset he),((hp.map _).nodup_iff).2 h.nodup,fun e he=>h.ge e (hp.subset he)⟩
structure CplV where
 a:EdV
 b:EdV
 l:TabV
 r:TabV
 A:Option Addr
 nf:Nat
 cf:Nat
deriving Inhabited
def cplV0:CplV:=⟨edV0,edV0,tabV0,tabV0,none,0,0⟩
def cplA(c:Cpl)(v:CplV):Array Value:=#[.int .i64 c.a.node,.int .i64 c.a.peer,.int .i64 c.a.number,.slice v.a.cA v.a.cn v.a.cc,.bool c.a.opn,.int .i64 c.a.since,.int .i64 c.a.asked.kind,.bool c.a.asked.reply,.int .i64 c.a.asked.number,.int .i64 c.a.asked.code,.int .i64 c.a.asked.count,.slice v.a.a.sA v.a.a.sn v.a.a.sc,.slice v.a.a.oA v.a.a.on v.a.a.oc,.bool c.a.known,.int .i64 c.a.last.kind,.bool c.a.last.reply,.int .i64 c.a.last.number,.int .i64 c.a.last.code,.int .i64 c.a.last.count,.slice v.a.l.sA v.a.l.sn v.a.l.sc,.slice v.a.l.oA v.a.l.on v.a.l.oc,.int .i64 c.a.reply.kind,.bool c.a.reply.reply,.int .i64 c.a.reply.number,.int .i64 c.a.reply.code,.int .i64 c.a.reply.count,.slice v.a.r.sA v.a.r.sn v.a.r.sc,.slice v.a.r.oA v.a.r.on v.a.r.oc,.int .i64 c.b.node,.int .i64 c.b.peer,.int .i64 c.b.number,.slice v.b.cA v.b.cn v.b.cc,.bool c.b.opn,.int .i64 c.b.since,.int .i64 c.b.asked.kind,.bool c.b.asked.reply,.int .i64 c.b.asked.number,.int .i64 c.b.asked.code,.int .i64 c.b.asked.count,.slice v.b.a.sA v.b.a.sn v.b.a.sc,.slice v.b.a.oA v.b.a.on v.b.a.oc,.bool c.b.known,.int .i64 c.b.last.kind,.bool c.b.last.reply,.int .i64 c.b.last.number,.int .i64 c.b.last.code,.int .i64 c.b.last.count,.slice v.b.l.sA v.b.l.sn v.b.l.sc,.slice v.b.l.oA v.b.l.on v.b.l.oc,.int .i64 c.b.reply.kind,.bool c.b.reply.reply,.int .i64 c.b.reply.number,.int .i64 c.b.reply.code,.int .i64 c.b.reply.count,.slice v.b.r.sA v.b.r.sn v.b.r.sc,.slice v.b.r.oA v.b.r.on v.b.r.oc,.int .i64 c.left.node,.int .i64 c.left.length,.slice v.l.A v.l.n v.l.c,.int .i64 c.right.node,.int .i64 c.right.length,.slice v.r.A v.r.n v.r.c,.slice v.A v.nf v.cf,.int .i64 c.period,.int .i64 c.frame,.bool c.wa,.bool c.wb]
theorem cpInfo:(Tryz.prog.info? 70).map (fun i=>(i.zero,i.size,i.bytes))=some (some (.agg (cplA cpl0 cplV0)),67,800):=by kernel_rfl
theorem zcp:(Tryz.prog.info? 70).map (·.size)=some 67:=by kernel_rfl
theorem zfa:(Tryz.prog.info? 40).map (·.size)=some 4:=by kernel_rfl
def fateA(x:Fate):Array Value:=#[.bool x.request,.bool x.reply,.bool x.requestAck,.bool x.replyAck]
def wshE(x:Wsh):List Value:= [.bool x.other,.int .i64 x.kind,.int .i64 x.count,.bool x.fate.request,.bool x.fate.reply,.bool x.fate.requestAck,.bool x.fate.replyAck]
theorem wshE_len(x:Wsh):(wshE x).length=7:=rfl
def wshA(x:Wsh):Array Value:=#[.bool x.other,.int .i64 x.kind,.int .i64 x.count,.bool x.fate.request,.bool x.fate.reply,.bool x.fate.requestAck,.bool x.fate.replyAck]
abbrev WshS:= @Sls Wsh _ wshE 7
theorem wsInfo:(Tryz.prog.info? 42).map (fun i=>(i.zero,i.size,i.bytes))=some (some (.agg #[.bool false,.int .i64 0,.int .i64 0,.bool false,.bool false,.bool false,.bool false]),7,32):=by kernel_rfl
theorem zws:(Tryz.prog.info? 42).map (·.size)=some 7:=by kernel_rfl
theorem wsh_range {w:World} {b off n:Nat} {xs:List Wsh}(h:WshS w (some ⟨b,off,none⟩) n xs) {i:Nat}(hi:i<n):w.rangeAt b (off+i*7) (wshE (xs.getD i default)):=fun j v hv=>by
 have hj:j<7:=by
  have:=(List.getElem?_eq_some_iff.1 hv).1
  rwa[wshE_len]at this
 rw[(h.cells hi).2 j hj,hv]
structure CplIs(w:World)(v:CplV)(c:Cpl):Prop where
 a:EdIs w v.a c.a
 b:EdIs w v.b c.b
 l:TabIs w v.l c.left
 r:TabIs w v.r c.right
 f:IntS w v.A v.nf c.free
 fc:v.nf≤v.cf
theorem CplIs.keep {w w':World} {v:CplV} {c:Cpl}(h:CplIs w v c)(hb:Below w.heap.size w w'):CplIs w' v c:=⟨h.a.keep hb,h.b.keep hb,h.l.keep hb,h.r.keep hb,h.f.keep hb,h.fc⟩
theorem CplIs.zero(w:World):CplIs w cplV0 cpl0:=⟨EdIs.zero w,EdIs.zero w,TabIs.zero w,TabIs.zero w,Sls.nil,Nat.le_refl _⟩
def MsgY(w0:World)(v:MsgV)(m:Msg)(w:World):Prop:=MsgOwn w v m∨MsgIs w0 v m
theorem MsgY.is {w0 w:World} {v:MsgV} {m:Msg}(h:MsgY w0 v m w)(hb:Below w0.heap.size w0 w):MsgIs w v m:=h.elim (·.is) (·.keep hb)
theorem Stb.msgY(w0:World)(v:MsgV)(m:Msg):Stb (MsgY w0 v m):=⟨fun h hb=>h.imp (·.keep hb) id,fun h hB h1 _ hg=>h.imp (·.put hB h1 hg) id⟩
def TclOwn(A:Option Addr)(n c:Nat)(xs:List TCl)(w:World):Prop:=(∃b,w.ownsRow b 85 6 (.slice A n c) n (xs.flatMap tclE))∧xs.length=n
def TclY(w0:World)(A:Option Addr)(n c:Nat)(xs:List TCl)(w:World):Prop:=TclOwn A n c xs w∨(TclS w0 A n xs∧n≤c)
theorem TclY.is {w0 w:World} {A:Option Addr} {n c:Nat} {xs:List TCl}(h:TclY w0 A n c xs w)(hb:Below w0.heap.size w0 w):TclS w A n xs∧n≤c:=by
 rcases h with⟨⟨b,h⟩,hl⟩|⟨h,h2⟩
 ·exact⟨(Sls.of_owns tclE_len h hl).2,own_cap h⟩
 ·exact⟨h.keep hb,h2⟩
theorem Stb.tclY(w0:World)(A:Option Addr)(n c:Nat)(xs:List TCl):Stb (TclY w0 A n c xs):=⟨fun h hb=>h.imp (fun⟨⟨b,h⟩,hl⟩=>⟨⟨b,owns_keep h hb⟩,hl⟩) id,fun h hB _ h2 hg=>h.imp (fun⟨⟨b,h⟩,hl⟩=>⟨⟨b,h.kept hg (.inr (row_ne_blk h hB h2.symm))⟩,hl⟩) id⟩
structure EdY(w0:World)(v:EdV)(e:Ed)(w:World):Prop where
 cells:TclY w0 v.cA v.cn v.cc e.cells w
 asked:MsgY w0 v.a e.asked w
 last:MsgY w0 v.l e.last w
 reply:MsgY w0 v.r e.reply w
theorem EdY.is {w0 w:World} {v:EdV} {e:Ed}(h:EdY w0 v e w)(hb:Below w0.heap.size w0 w):EdIs w v e:=⟨(h.cells.is hb).1,(h.cells.is hb).2,h.asked.is hb,h.last.is hb,h.reply.is hb⟩
theorem Stb.edY(w0:World)(v:EdV)(e:Ed):Stb (EdY w0 v e):=⟨fun h hb=>⟨(Stb.tclY ..).keep h.cells hb,(Stb.msgY ..).keep h.asked hb,(Stb.msgY ..).keep h.last hb,(Stb.msgY ..).keep h.reply hb⟩,fun h hB h1 h2 hg=>⟨(Stb.tclY ..).put h.cells hB h1 h2 hg,(Stb.msgY ..).put h.asked hB h1 h2 hg,(Stb.msgY ..).put h.last hB h1 h2 hg,(Stb.msgY ..).put h.reply hB h1 h2 hg⟩⟩
theorem EdY.of_own {w0 w:World} {v:EdV} {e:Ed}(h:EdOwn w v e):EdY w0 v e w:=⟨.inl ⟨h.cells,h.lc⟩,.inl h.asked,.inl h.last,.inl h.reply⟩
theorem EdY.of_is {w0:World} {v:EdV} {e:Ed}(h:EdIs w0 v e)(w:World):EdY w0 v e w:=⟨.inr ⟨h.cells,h.cc⟩,.inr h.asked,.inr h.last,.inr h.reply⟩
structure Stc(F:World→Prop):Prop where
 keep:∀ {w w':World},F w→Below w.heap.size w w'→F w'
 put:∀ {w w':World} {B:Nat} {C:Array Value} {t:TypeId},F w→Blk w B C t→t≠97→t≠85→t≠3→w.grownBy w' (some B)→F w'
theorem Stb.c {F:World→Prop}(h:Stb F):Stc F:=⟨fun x hb=>h.keep x hb,fun x hB h1 h2 _ hg=>h.put x hB h1 h2 hg⟩
theorem Stc.true:Stc (fun _=>True):=Stb.true.c
theorem Stc.and {F G:World→Prop}(h:Stc F)(k:Stc G):Stc (fun w=>F w∧G w):=⟨fun x hb=>⟨h.keep x.1 hb,k.keep x.2 hb⟩,fun x hB h1 h2 h3 hg=>⟨h.put x.1 hB h1 h2 h3 hg,k.put x.2 hB h1 h2 h3 hg⟩⟩
theorem Stc.ed(v:EdV)(e:Ed):Stc (fun w=>EdOwn w v e):=(Stb.ed v e).c
theorem Stc.sub(v:MsgV)(m:Msg):Stc (fun w=>MsgSub w v m):=(Stb.sub v m).c
theorem Stc.edY(w0:World)(v:EdV)(e:Ed):Stc (EdY w0 v e):=(Stb.edY w0 v e).c
theorem Stc.tclY(w0:World)(A:Option Addr)(n c:Nat)(xs:List TCl):Stc (TclY w0 A n c xs):=(Stb.tclY w0 A n c xs).c
theorem stc_add {F G:World→Prop} {w:World}(q_:Stc F)(J:Hid (F w))(hGs:Stc G)(hG:G w):∃F':World→Prop,Stc F'∧Hid (F' w)∧(∀W,F' W→F W)∧(∀W,F' W→G W):=
 ⟨_,q_.and hGs,⟨J,hG⟩,fun _ h=>h.1,fun _ h=>h.2⟩
theorem Stc.z {F:World→Prop}(q_:Stc F) {w w':World}(J:Hid (F w))(hb:Below w.heap.size w w'):Hid (F w'):=q_.keep J hb
theorem Stc.y {F:World→Prop}(q_:Stc F) {w w':World}(J:Hid (F w))(hb:Hid (Below w.heap.size w w')):Hid (F w'):=q_.keep J hb.out
theorem Stc.p {F:World→Prop}(q_:Stc F) {w w':World}(J:Hid (F w)) {B:Nat} {C:Array Value} {t:TypeId}(hB:Blk w B C t)(hg:Hid (w.grownBy w' (some B)))(d1:t≠97:=by decide)(d2:t≠85:=by decide)(d3:t≠3:=by decide):Hid (F w'):=q_.put J hB d1 d2 d3 hg.out
theorem Stc.k {F:World→Prop}(q_:Stc F) {P:Program} {f:FuncId} {args:Array Value} {w a0:World} {Q:Ending→World→Prop} {L:List (Nat×Array Value×TypeId)}(hM:Hid (Mem a0 w L))(J:Hid (F w)) {R:Ending}(h:Calls P f args w (fun r w'=>r=R∧Below w.heap.size w w'))(k:∀w',Hid (Mem a0 w' L)→Hid (F w')→Q R w'):Calls P f args w Q:=h.mono (by rintro r w' ⟨rfl,hb⟩;exact k w' (hM.keep hb) (q_.keep J hb))
theorem Stc.b {F:World→Prop}(q_:Stc F) {P:Program} {ops:Array Oper} {rest:List Oper} {op:Oper} {a:Act} {w:World} {Q:Exit→Act→World→Prop} {a0:World} {L:List (Nat×Array Value×TypeId)}(hM:Hid (Mem a0 w L))(J:Hid (F w))(ty:TypeId) {x:Operand} {C:Array Value}(h:∀g w',Hid (Mem a0 w' ((g,C,ty)::L))→Hid (F w')→wpList P ops Q rest (a.put op.dst (.pointer (some ⟨g,0,none⟩))) w')
 (hgd:op.guard=none:=by rfl) (ho:op.op= .box ty x:=by rfl) (hx:a.eval x= .agg C:=by rfl):wpList P ops Q (op::rest) a w:=bA hM ty (fun g w' q1 q2=>h g w' q1 (q_.keep J q2.out)) hgd ho hx
theorem Stc.a {F:World→Prop}(q_:Stc F) {P:Program} {ops:Array Oper} {rest:List Oper} {op:Oper} {a:Act} {w:World} {Q:Exit→Act→World→Prop} {a0:World} {L:List (Nat×Array Value×TypeId)}(hM:Hid (Mem a0 w L))(J:Hid (F w)) {ty:TypeId} {Z:Array Value} {k b:Nat}(hz:(P.info? ty).map (fun i=>(i.zero,i.size,i.bytes))=some (some (.agg Z),k,b))
 (h:∀g w',Hid (Mem a0 w' ((g,Z,ty)::L))→Hid (F w')→wpList P ops Q rest (a.put op.dst (.pointer (some ⟨g,0,none⟩))) w') (hgd:op.guard=none:=by rfl) (ho:op.op= .alloc ty:=by rfl):wpList P ops Q (op::rest) a w:=aN hM hz (fun g w' q1 q2 _=>h g w' q1 (q_.keep J q2.out)) hgd ho
theorem Stc.s {F:World→Prop}(q_:Stc F) {P:Program} {ops:Array Oper} {rest:List Oper} {op:Oper} {a:Act} {w:World} {Q:Exit→Act→World→Prop} {a0:World} {L:List (Nat×Array Value×TypeId)}(i:Nat)(hM:Hid (Mem a0 w L))(J:Hid (F w)) {ty:TypeId} {x y:Operand} {B:Nat} {C:Array Value} {t:TypeId} {V:Array Value}
 (h:∀w',Hid (Mem a0 w' (L.set i (B,V,t)))→Hid (F w')→wpList P ops Q rest (a.put op.dst undef) w') (hgd:op.guard=none:=by rfl) (ho:op.op= .store ty x y:=by rfl) (hx:a.eval x= .pointer (some ⟨B,0,none⟩):=by rfl) (hL:L[i]? =some (B,C,t):=by rfl) (d1:t≠97:=by decide) (d2:t≠85:=by decide) (d3:t≠3:=by decide) (hy:a.eval y= .agg V:=by rfl)
 (hi:(P.info? ty).map (·.size)=some V.size:=by kernel_rfl) (h1:V.toList.all (·.oneCell')=Bool.true:=by rfl) (hs:C.size=V.size:=by rfl):wpList P ops Q (op::rest) a w:=sF i hM (fun w' q1 q2=>h w' q1 (q_.put J (hM.at_ i hL) d1 d2 d3 q2.out)) hgd ho hx hL hy hi h1 hs
theorem Stc.m {F:World→Prop}(q_:Stc F) {P:Program} {ops:Array Oper} {rest:List Oper} {op:Oper} {a:Act} {w:World} {Q:Exit→Act→World→Prop} {a0:World} {L:List (Nat×Array Value×TypeId)}(i:Nat)(hM:Hid (Mem a0 w L))(J:Hid (F w))(o:Nat)(C':Array Value) {ty:TypeId} {x y:Operand} {B:Nat} {C:Array Value} {t:TypeId} {v:Value}
 (h:∀w',Hid (Mem a0 w' (L.set i (B,C',t)))→Hid (F w')→wpList P ops Q rest (a.put op.dst undef) w') (hgd:op.guard=none:=by rfl) (ho:op.op= .store ty x y:=by rfl) (hx:a.eval x= .pointer (some ⟨B,o,none⟩):=by rfl) (hL:L[i]? =some (B,C,t):=by rfl) (d1:t≠97:=by decide) (d2:t≠85:=by decide) (d3:t≠3:=by decide)
 (hy:a.eval y=v:=by conv=> {lhs;whnf}) (hi:(P.info? ty).map (·.size)=some v.cells.size:=by kernel_rfl) (h1:v.cells.toList.all (·.oneCell')=Bool.true:=by kernel_rfl) (hs:o+v.cells.size≤C.size:=by exact Nat.le_of_ble_eq_true (by kernel_rfl)) (hC:(setL C.toList o v.cells.toList).toArray=C':=by kernel_rfl):wpList P ops Q (op::rest) a w:=sM i hM o C' (fun w' q1 q2=>h w' q1 (q_.put J (hM.at_ i hL) d1 d2 d3 q2.out)) hgd ho hx hL hy hi h1 hs hC
theorem sC {F G:World→Prop} {w:World} {p:Prop}(q_:Stc F)(J:Hid (F w))(hGs:Stc G)(hG:G w)(k:∀F':World→Prop,Stc F'→Hid (F' w)→(∀W,F' W→F W)→Hid (∀W,F' W→G W)→p):p:=k _ (q_.and hGs) ⟨J,hG⟩ (fun _ h=>h.1) (Zh fun _ h=>h.2)
def IntOwn(A:Option Addr)(n c:Nat)(xs:List Int)(w:World):Prop:=(∃b,w.ownsRow b 3 1 (.slice A n c) n (xs.flatMap intE))∧xs.length=n
def IntY(w0:World)(A:Option Addr)(n c:Nat)(xs:List Int)(w:World):Prop:=IntOwn A n c xs w∨(IntS w0 A n xs∧n≤c)
theorem IntY.is {w0 w:World} {A:Option Addr} {n c:Nat} {xs:List Int}(h:IntY w0 A n c xs w)(hb:Below w0.heap.size w0 w):IntS w A n xs∧n≤c:=by
 rcases h with⟨⟨b,h⟩,hl⟩|⟨h,h2⟩
 ·exact⟨(Sls.of_owns (enc:=intE) (k:=1) (fun _=>rfl) h hl).2,own_cap h⟩
 ·exact⟨h.keep hb,h2⟩
theorem Stc.intY(w0:World)(A:Option Addr)(n c:Nat)(xs:List Int):Stc (IntY w0 A n c xs):=⟨fun h hb=>h.imp (fun⟨⟨b,h⟩,hl⟩=>⟨⟨b,owns_keep h hb⟩,hl⟩) id,fun h hB _ _ h3 hg=>h.imp (fun⟨⟨b,h⟩,hl⟩=>⟨⟨b,h.kept hg (.inr (row_ne_blk h hB h3.symm))⟩,hl⟩) id⟩
structure RstY(w0:World)(vl vr:TabV)(A:Option Addr)(nf cf:Nat)(tl tr:Tab)(f:List Int)(w:World):Prop where
 l:TclY w0 vl.A vl.n vl.c tl.cells w
 r:TclY w0 vr.A vr.n vr.c tr.cells w
 f:IntY w0 A nf cf f w
theorem Stc.rstY(w0:World)(vl vr:TabV)(A:Option Addr)(nf cf:Nat)(tl tr:Tab)(f:List Int):Stc (RstY w0 vl vr A nf cf tl tr f):=⟨fun h hb=>⟨(Stc.tclY ..).keep h.l hb,(Stc.tclY ..).keep h.r hb,(Stc.intY ..).keep h.f hb⟩,fun h hB h1 h2 h3 hg=>⟨(Stc.tclY ..).put h.l hB h1 h2 h3 hg,(Stc.tclY ..).put h.r hB h1 h2 h3 hg,(Stc.intY ..).put h.f hB h1 h2 h3 hg⟩⟩
theorem RstY.tl {w0 w:World} {vl vr:TabV} {A:Option Addr} {nf cf:Nat} {tl tr:Tab} {f:List Int}(h:RstY w0 vl vr A nf cf tl tr f w)(hb:Below w0.heap.size w0 w):TabIs w vl tl:=⟨(h.l.is hb).1,(h.l.is hb).2⟩
theorem RstY.tr {w0 w:World} {vl vr:TabV} {A:Option Addr} {nf cf:Nat} {tl tr:Tab} {f:List Int}(h:RstY w0 vl vr A nf cf tl tr f w)(hb:Below w0.heap.size w0 w):TabIs w vr tr:=⟨(h.r.is hb).1,(h.r.is hb).2⟩
structure CplS(w0:World)(v:CplV)(c:Cpl)(w:World):Prop where
 a:EdY w0 v.a c.a w
 b:EdY w0 v.b c.b w
 q:RstY w0 v.l v.r v.A v.nf v.cf c.left c.right c.free w
theorem Stc.cplS(w0:World)(v:CplV)(c:Cpl):Stc (CplS w0 v c):=⟨fun h hb=>⟨(Stc.edY ..).keep h.a hb,(Stc.edY ..).keep h.b hb,(Stc.rstY ..).keep h.q hb⟩,fun h hB h1 h2 h3 hg=>⟨(Stc.edY ..).put h.a hB h1 h2 h3 hg,(Stc.edY ..).put h.b hB h1 h2 h3 hg,(Stc.rstY ..).put h.q hB h1 h2 h3 hg⟩⟩
theorem CplS.is {w0 w:World} {v:CplV} {c:Cpl}(h:CplS w0 v c w)(hb:Below w0.heap.size w0 w):CplIs w v c:=⟨h.a.is hb,h.b.is hb,h.q.tl hb,h.q.tr hb,(h.q.f.is hb).1,(h.q.f.is hb).2⟩
theorem CplS.of_is {w0:World} {v:CplV} {c:Cpl}(h:CplIs w0 v c)(w:World):CplS w0 v c w:=⟨EdY.of_is h.a w,EdY.of_is h.b w,.inr ⟨h.l.cells,h.l.cc⟩,.inr ⟨h.r.cells,h.r.cc⟩,.inr ⟨h.f,h.fc⟩⟩
structure CplOwn(w:World)(v:CplV)(c:Cpl):Prop where
 a:EdOwn w v.a c.a
 b:EdOwn w v.b c.b
 l:TclOwn v.l.A v.l.n v.l.c c.left.cells w
 r:TclOwn v.r.A v.r.n v.r.c c.right.cells w
 f:IntOwn v.A v.nf v.cf c.free w
theorem CplOwn.s {w:World} {v:CplV} {c:Cpl}(h:CplOwn w v c)(w0:World):CplS w0 v c w:=⟨EdY.of_own h.a,EdY.of_own h.b,.inl h.l,.inl h.r,.inl h.f⟩
theorem Stc.tclOwn(A:Option Addr)(n c:Nat)(xs:List TCl):Stc (TclOwn A n c xs):=⟨fun⟨⟨b,h⟩,hl⟩ hb=>⟨⟨b,owns_keep h hb⟩,hl⟩,fun⟨⟨b,h⟩,hl⟩ hB _ h2 _ hg=>⟨⟨b,h.kept hg (.inr (row_ne_blk h hB h2.symm))⟩,hl⟩⟩
theorem Stc.intOwn(A:Option Addr)(n c:Nat)(xs:List Int):Stc (IntOwn A n c xs):=⟨fun⟨⟨b,h⟩,hl⟩ hb=>⟨⟨b,owns_keep h hb⟩,hl⟩,fun⟨⟨b,h⟩,hl⟩ hB _ _ h3 hg=>⟨⟨b,h.kept hg (.inr (row_ne_blk h hB h3.symm))⟩,hl⟩⟩
theorem Stc.cplOwn(v:CplV)(c:Cpl):Stc (fun w=>CplOwn w v c):=⟨fun h hb=>⟨h.a.keep hb,h.b.keep hb,(Stc.tclOwn ..).keep h.l hb,(Stc.tclOwn ..).keep h.r hb,(Stc.intOwn ..).keep h.f hb⟩,fun h hB h1 h2 h3 hg=>⟨h.a.put hB h1 h2 hg,h.b.put hB h1 h2 hg,(Stc.tclOwn ..).put h.l hB h1 h2 h3 hg,(Stc.tclOwn ..).put h.r hB h1 h2 h3 hg,(Stc.intOwn ..).put h.f hB h1 h2 h3 hg⟩⟩
structure CplSm(v:CplV):Prop where
 a:Small v.a
 b:Small v.b
 l:v.l.n≤1048576
 r:v.r.n≤1048576
 f:v.nf≤1048576
theorem cpl_sm {w:World} {v:CplV} {c:Cpl}(h:CplIs w v c)(hi:Idle c.a c.b c.left c.right)(hf:v.nf≤1048576):CplSm v:=by
 have h1:=hi.fa.tab.size
 have h2:=hi.fb.tab.size
 rw[h.l.cells.len]at h1
 rw[h.r.cells.len]at h2
 exact⟨small_of h.a ((chkE_iff _).2 hi.fa.ed),small_of h.b ((chkE_iff _).2 hi.fb.ed),by omega,by omega,hf⟩
structure CplY(w0:World)(v:CplV)(c:Cpl)(w:World):Prop where
 a:EdY w0 v.a c.a w
 b:EdY w0 v.b c.b w
 l:TclY w0 v.l.A v.l.n v.l.c c.left.cells w
 r:TclY w0 v.r.A v.r.n v.r.c c.right.cells w
theorem Stb.cplY(w0:World)(v:CplV)(c:Cpl):Stb (CplY w0 v c):=⟨fun h hb=>⟨(Stb.edY ..).keep h.a hb,(Stb.edY ..).keep h.b hb,(Stb.tclY ..).keep h.l hb,(Stb.tclY ..).keep h.r hb⟩,fun h hB h1 h2 hg=>⟨(Stb.edY ..).put h.a hB h1 h2 hg,(Stb.edY ..).put h.b hB h1 h2 hg,(Stb.tclY ..).put h.l hB h1 h2 hg,(Stb.tclY ..).put h.r hB h1 h2 hg⟩⟩
theorem CplY.of_is {w0:World} {v:CplV} {c:Cpl}(h:CplIs w0 v c)(w:World):CplY w0 v c w:=⟨EdY.of_is h.a w,EdY.of_is h.b w,.inr ⟨h.l.cells,h.l.cc⟩,.inr ⟨h.r.cells,h.r.cc⟩⟩
theorem CplY.is {w0 w:World} {v:CplV} {c:Cpl}(h:CplY w0 v c w)(hb:Below w0.heap.size w0 w)(hf:IntS w v.A v.nf c.free)(hc:v.nf≤v.cf):CplIs w v c:=⟨h.a.is hb,h.b.is hb,⟨(h.l.is hb).1,(h.l.is hb).2⟩,⟨(h.r.is hb).1,(h.r.is hb).2⟩,hf,hc⟩
def boolE(b:Bool):List Value:= [.bool b]
theorem boolE_len(b:Bool):(boolE b).length=1:=rfl
theorem info_bool:(Tryz.prog.info? 4).map (fun i=>(i.zero,i.size,i.bytes))=some (some (.bool false),1,1):=by kernel_rfl
theorem eltB:Elt Tryz.prog boolE 1 64 4:=⟨boolE_len,by decide,fun x v hv=>by
 simp only[boolE,List.mem_singleton]at hv
 subst hv
 rfl,Tryz.underlying64,by
 obtain⟨i,h1,h2,h3,h4⟩:=info_parts info_bool
 exact⟨i,_,h1,h2,h3,by omega,rfl⟩⟩
theorem bool_at {w:World} {b off n:Nat} {xs:List Bool}(h:Sls boolE 1 w (some ⟨b,off,none⟩) n xs) {i:Nat}(hi:i<n):w.cell? ⟨b,off+i,none⟩=some (.bool (xs.getD i default)):=by
 have:=(h.cells hi).2 0 (by omega)
 rw[show off+i*1+0=off+i by omega]at this
 rw[this];rfl
theorem ext_getD {xs ys:List Bool}(hl:xs.length=ys.length)(h:∀i,i<xs.length→xs.getD i default=ys.getD i default):xs=ys:=by
 refine List.ext_getElem hl fun i h1 h2=> ?_
 have:=h i h1
 rwa[List.getD_eq_getElem?_getD,List.getD_eq_getElem?_getD,List.getElem?_eq_getElem h1,List.getElem?_eq_getElem h2]at this
theorem eqBool_any(A B:Option Addr)(n cp m cq:Nat)(xs ys:List Bool)(w:World)(h:Sls boolE 1 w A n xs)(h2:Sls boolE 1 w B m ys):
 Calls Tryz.prog 28 #[.slice A n cp,.slice B m cq] w fun e w'=>e= .returned (.bool (decide (xs=ys)))∧Below w.heap.size w w':=by
 have hlen:=h.len
 have hlen2:=h2.len
 have hs:=h.small
 have hs2:=h2.small
 unfold maxLen at hs hs2
 by_cases hnm:n=m
 case neg=>
  have hR:decide (xs=ys)=false:=decide_eq_false (fun e=>hnm (by rw[←hlen,←hlen2,e]))
  have d1:((n:Int) !=(m:Int))=true:=by rw[bne_iff_ne];omega
  rw[hR]
  refine zh4 ?_ h h2 hlen hlen2;clear h h2 hlen hlen2;intro h h2 hlen hlen2
  go_enter Tryz.func28,Tryz.ntmps28
  go_wp2_with fail
  go_ret
  exact⟨rfl,Below.refl _ _⟩
 subst hnm
 have hno:=fun k (hk:k<n) (hh:xs.getD k default≠ys.getD k default)=>(decide_eq_false (fun e=>hh (by rw[e])):decide (xs=ys)=false)
 have hyes:=fun(hh:∀i,i<n→xs.getD i default=ys.getD i default)=>(decide_eq_true (ext_getD (by omega) (fun i hi=>hh i (by omega))):decide (xs=ys)=true)
 generalize decide (xs=ys)=R at*
 refine zh6 ?_ h h2 hlen hlen2 hno hyes;clear h h2 hlen hlen2 hno hyes;intro h h2 hlen hlen2 hno hyes
 go_enter Tryz.func28,Tryz.ntmps28
 go_wp2_with fail
 go_loopw[5,13] (fun _ i wr=>∃k:Nat,k≤n∧i= .int .i64 k∧Hid (∀j,j<k→xs.getD j default=ys.getD j default)∧Hid (Below w.heap.size w wr)) (fun _ i _=>n-(intOf i).toNat)
 case atStart=>exact⟨0,by omega,rfl,fun j hj=>absurd hj (by omega),Below.refl _ _⟩
 case round=>
  obtain⟨k,hkn,rfl,HP,HB⟩:=hrel
  by_cases hlt:k<n
  ·obtain⟨b,off,rfl⟩:=h.addr (by omega)
   obtain⟨b2,off2,rfl⟩:=h2.addr (by omega)
   have q0:=bool_at (h.keep HB.out) hlt
   have r0:=bool_at (h2.keep HB.out) hlt
   have hf:=hno.out k hlt
   have hnx:xs.getD k default=ys.getD k default→∀j,j<k+1→xs.getD j default=ys.getD j default:=fun h j hj=>by
    by_cases e:j=k
    ·subst e;exact h
    ·exact HP.out j (by omega)
   generalize xs.getD k default=x at*
   generalize ys.getD k default=y at*
   have g0:=cell_regrown q0
   have u0:=cell_regrown r0
   have r1':(k:Int)<(n:Int):=by omega
   have r0':(0:Int)≤(k:Int):=by omega
   clear q0 r0
   replace hf:=Zh hf
   replace hnx:=Zh hnx
   by_cases t0:x=y
   case neg=>
    have d0:(x==y)=false:=by rw[beq_eq_false_iff_ne];exact t0
    have hh:=hf.out t0
    subst hh
    replace t0:=Zh t0
    go_upto_region 6 with fail
    refine wp_region_quiet_below (by kernel_rfl) (by kernel_rfl) ?_
    repeat(go_big_quiet_step(fail))
    refine wpQuiet_nil ?_
    rintro _ ⟨⟨dq,osq⟩,rfl⟩
    have p_:=below_regrown wr dq osq
    replace HB:=Zh (HB.keep p_)
    generalize grow (redrawn wr dq) osq=w2 at*
    clear p_
    go_wp2
    go_ret
    exact⟨rfl,HB.out⟩
   have d0:(x==y)=true:=by rw[beq_iff_eq];exact t0
   have hh:=Zh (hnx t0)
   replace t0:=Zh t0
   go_upto_region 6 with fail
   refine wp_region_quiet_below (by kernel_rfl) (by kernel_rfl) ?_
   repeat(go_big_quiet_step(fail))
   refine wpQuiet_nil ?_
   rintro _ ⟨⟨dq,osq⟩,rfl⟩
   have p_:=below_regrown wr dq osq
   replace HB:=Zh (HB.keep p_)
   generalize grow (redrawn wr dq) osq=w2 at*
   clear p_
   go_wp2
   go_roundw
   case rel=>exact⟨k+1,by omega,by go_num,hh,HB⟩
   case measure=>simp[intOf];omega
  ·obtain rfl:k=n:=by omega
   have hR:=hyes.out HP.out
   subst hR
   go_wp2
   go_ret
   exact⟨rfl,HB.out⟩
theorem Stb.row {F:World→Prop}(q_:Stb F) {w w':World}(J:F w) {base s n:Nat} {e:TypeId} {v:Value} {xs:List Value}(ho:w.ownsRow base e s v n xs)(h1:e≠97)(h2:e≠85)(hg:w.grownBy w' v.ownBlock):F w':=by
 rcases ho.2 with⟨rfl,_⟩|⟨g,c,cur,rfl,_,hg2,_⟩
 ·exact q_.keep J ((Below.refl w.heap.size w).grown hg (Nat.le_refl _) (fun k e=>by simp[Value.ownBlock]at e))
 ·exact q_.put J (B:=g) ⟨hg2⟩ h1 h2 hg
theorem intInfo:(Tryz.prog.info? 3).map (fun i=>(i.zero,i.size,i.bytes))=some (some (.int .i64 0),1,8):=by kernel_rfl
theorem zint:(Tryz.prog.info? 3).map (·.size)=some 1:=by kernel_rfl
def withR(n lo hi:Int):Bool:=decide (lo≤n)&&decide (n≤hi)
theorem rwith_any(n lo hi:Int)(w:World):Calls Tryz.prog 106 #[.int .i64 n,.int .i64 lo,.int .i64 hi] w fun e w'=>e= .returned (.bool (withR n lo hi))∧w=w':=by
 unfold withR
 go_enter Tryz.func106,Tryz.ntmps106
 go_wp2
 all_goals
  go_ret
  exact⟨by first|(simp[*];done)|(simp[*];omega),rfl⟩
theorem bound_arith {p l:Int}(p1:1≤p)(p2:p≤4096)(l0:0≤l)(l7:l≤7):∃q r,(l+1)*(l+1)=q∧q*p=r∧1≤q∧q≤64∧0≤r∧r≤262144:=by
 refine⟨_,_,rfl,rfl,?_⟩
 rcases(by omega:l=0∨l=1∨l=2∨l=3∨l=4∨l=5∨l=6∨l=7)with rfl|rfl|rfl|rfl|rfl|rfl|rfl|rfl<;>omega
theorem bound_any(p l:Int)(w:World):Calls Tryz.prog 95 #[.int .i64 p,.int .i64 l] w fun e w'=>e= .returned (.tuple #[.int .i64 (boundN p l),.int .i64 (boundC p l)])∧w=w':=by
 have hN:boundN p l=if boundC p l=0 then(l+1)*(l+1)*p+l+1 else 0:=rfl
 have hC:boundC p l=if p<1∨4096<p∨l<0∨7<l then 2 else 0:=rfl
 generalize boundN p l=N at*
 generalize boundC p l=C at*
 have c1:=fun W=>rwith_any p 1 4096 W
 have c2:=fun W=>rwith_any l 0 7 W
 unfold withR at c1 c2
 by_cases h:p<1∨4096<p∨l<0∨7<l
 case pos=>
  rw[if_pos h]at hC
  subst hC
  rw[if_neg (by decide)]at hN
  subst hN
  by_cases h1:1≤p∧p≤4096
  case pos=>
   have e1:(decide (1≤p)&&decide (p≤4096))=true:=by simp[h1]
   have e2:(decide (0≤l)&&decide (l≤7))=false:=by rw[Bool.and_eq_false_iff,decide_eq_false_iff_not,decide_eq_false_iff_not];omega
   rw[e1]at c1
   rw[e2]at c2
   clear e1 e2 h h1
   replace c1:=Zh c1
   replace c2:=Zh c2
   go_enter Tryz.func95,Tryz.ntmps95
   have mk1:Unit:=()
   go_wp2_with(first|(go_at_call 106;clear mk1;refine(c1 _).mono ?_;rintro e w_ ⟨rfl,rfl⟩)|(go_at_call 106;refine(c2 _).mono ?_;rintro e w_ ⟨rfl,rfl⟩)|fail)
   refine bodyPost_ret (v:= .tuple #[.int .i64 0,.int .i64 2]) (by simp[results,Tryz.results95,go_sem]) rfl ⟨rfl,rfl⟩
  have e1:(decide (1≤p)&&decide (p≤4096))=false:=by rw[Bool.and_eq_false_iff,decide_eq_false_iff_not,decide_eq_false_iff_not];omega
  rw[e1]at c1
  clear e1 h h1
  replace c1:=Zh c1
  replace c2:=Zh c2
  go_enter Tryz.func95,Tryz.ntmps95
  go_wp2_with(first|go_skip|(go_at_call 106;refine(c1 _).mono ?_;rintro e w_ ⟨rfl,rfl⟩)|fail)
  refine bodyPost_ret (v:= .tuple #[.int .i64 0,.int .i64 2]) (by simp[results,Tryz.results95,go_sem]) rfl ⟨rfl,rfl⟩
 rw[if_neg h]at hC
 subst hC
 rw[if_pos rfl]at hN
 obtain⟨q,r,hq,hr,q1,q2,r1,r2⟩:=bound_arith (p:=p) (l:=l) (by omega) (by omega) (by omega) (by omega)
 have e1:(decide (1≤p)&&decide (p≤4096))=true:=by rw[Bool.and_eq_true,decide_eq_true_eq,decide_eq_true_eq];omega
 have e2:(decide (0≤l)&&decide (l≤7))=true:=by rw[Bool.and_eq_true,decide_eq_true_eq,decide_eq_true_eq];omega
 rw[e1]at c1
 rw[e2]at c2
 clear e1 e2
 have w1:IntKind.i64.wrap (l+1)=l+1:=IntWalk.i64_in _ (by omega)
 have w2:IntKind.i64.wrap ((l+1)*(l+1))=q:=by rw[hq];exact IntWalk.i64_in _ (by omega)
 have w3:IntKind.i64.wrap (q*p)=r:=by rw[hr];exact IntWalk.i64_in _ (by omega)
 have w4:IntKind.i64.wrap (r+l)=r+l:=IntWalk.i64_in _ (by omega)
 have w5:IntKind.i64.wrap (r+l+1)=r+l+1:=IntWalk.i64_in _ (by omega)
 have hv:N=r+l+1:=by rw[hN,hq,hr]
 subst hv
 clear hN hq hr q1 q2 r1 r2
 clear h
 replace c1:=Zh c1
 replace c2:=Zh c2
 go_enter Tryz.func95,Tryz.ntmps95
 have mk1:Unit:=()
 go_wp2_with(first|(go_at_call 106;clear mk1;refine(c1 _).mono ?_;rintro e w_ ⟨rfl,rfl⟩)|(go_at_call 106;refine(c2 _).mono ?_;rintro e w_ ⟨rfl,rfl⟩)|fail)
 refine bodyPost_ret (v:= .tuple #[.int .i64 (r+l+1),.int .i64 0]) (by simp[results,Tryz.results95,go_sem]) rfl ⟨rfl,rfl⟩
def Row1Post(a0:World)(L:List (Nat×Array Value×TypeId))(B1 B2:Nat)(now most:Int)(lost:Bool)(r:Ending)(w':World):Prop:=r= .returned (.int .i64 (max most (rowN now lost)))∧Mem a0 w' ((B1,#[.int .i64 (rowN now lost)],3)::(B2,#[.int .i64 (max most (rowN now lost))],3)::L)
theorem row1_any(lost:Bool)(now most:Int)(B1 B2:Nat)(a0 w:World)(L:List (Nat×Array Value×TypeId))(h0:Mem a0 w ((B1,#[.int .i64 now],3)::(B2,#[.int .i64 most],3)::L))(n0:0≤now)(n1:now≤4611686018427387904):Calls Tryz.prog 177 #[.bool lost,.pointer (some ⟨B1,0,none⟩),.pointer (some ⟨B2,0,none⟩)] w (Row1Post a0 L B1 B2 now most lost):=by
 have I:=Zh h0
 clear h0
 have uI:=Tryz.underlying3
 have hw1:IntKind.i64.wrap (now+1)=now+1:=IntWalk.i64_in _ (by omega)
 generalize hP:Row1Post a0 L B1 B2 now most lost=P
 have hPo:∀W x y,x=rowN now lost→y=max most x→Mem a0 W ((B1,#[.int .i64 x],3)::(B2,#[.int .i64 y],3)::L)→P (.returned (.int .i64 y)) W:=fun W x y e1 e2 h=>by rw[←hP];subst e2;subst e1;exact⟨rfl,h⟩
 clear hP
 replace hPo:=Zh hPo
 replace uI:=Zh uI
 cases lost
 all_goals
  go_enter Tryz.func177,Tryz.ntmps177
  have p1:=I.cell 0 rfl
  have p2:=I.cell 1 rfl
  go_wp2_with(first|(refine sN 0 I ?_;clear I p1 p2;intro w4 I hG4;simp only[List.set]at I;have p1:=I.cell 0 rfl;have p2:=I.cell 1 rfl)|(refine sN 1 I ?_;clear I p1 p2;intro w4 I hG4;simp only[List.set]at I;have p1:=I.cell 0 rfl;have p2:=I.cell 1 rfl)|fail)
 all_goals
  exact hPo.out _ _ _ (by simp[rowN]) rfl I.out
theorem row_any(w:World):Calls Tryz.prog 104 #[] w fun r w'=>∃B1 B2,r= .returned (.func (.func 177) #[] #[.pointer (some ⟨B1,0,none⟩),.pointer (some ⟨B2,0,none⟩)])∧Mem w w' [(B1,#[.int .i64 0],3),(B2,#[.int .i64 0],3)]:=by
 have I:=Zh (Mem.start w)
 have uI:=Tryz.underlying3
 go_enter Tryz.func104,Tryz.ntmps104
 have mk1:Unit:=()
 have mk2:Unit:=()
 go_wp2_with(first|go_skip|(clear mk1;refine wpList_allocM I rfl 3 rfl intInfo ?_;clear I;intro g1 w1 I hG;clear hG;simp only[Value.cells]at I)|(clear mk2;refine wpList_allocM I rfl 3 rfl intInfo ?_;clear I;intro g2 w1 I hG;clear hG;simp only[Value.cells]at I)|(refine sM 1 I 0 (#[.int .i64 0]) ?_;clear I;intro w4 I hG4;clear hG4;simp only[List.set]at I)|(refine sM 0 I 0 (#[.int .i64 0]) ?_;clear I;intro w4 I hG4;clear hG4;simp only[List.set]at I)|fail)
 try simp only[Exit.inBlock,Exit.then]
 go_ret
 exact⟨g1,g2,rfl,I.swap2⟩
theorem longest_any(A:Option Addr)(n cp:Nat)(xs:List Bool)(w:World)(h:Sls boolE 1 w A n xs)(hn:n≤100000):Calls Tryz.prog 96 #[.slice A n cp] w fun e w'=>e= .returned (.int .i64 (longN xs))∧Below w.heap.size w w':=by
 have hlen:=h.len
 have hs:=h.small
 unfold maxLen at hs
 have hN:longN xs=(rowsN xs (0,0)).2:=rfl
 generalize longN xs=N at*
 refine zh3 ?_ h hlen hN;clear h hlen hN;intro h hlen hN
 go_enter Tryz.func96,Tryz.ntmps96
 go_wp2_with(first|(go_at_call 104;refine(row_any _).mono ?_;rintro r w1 ⟨B1,B2,rfl,I⟩;replace I:=Zh I)|fail)
 go_loopw[3,10] (fun m i wr=>Hid (∃k:Nat,k≤n∧i= .int .i64 k∧m= .int .i64 (rowsN (xs.take k) (0,0)).2∧Hid (Mem w wr [(B1,#[.int .i64 (rowsN (xs.take k) (0,0)).1],3),(B2,#[.int .i64 (rowsN (xs.take k) (0,0)).2],3)]))) (fun _ i _=>n-(intOf i).toNat)
 case atStart=>exact Zh ⟨0,by omega,rfl,rfl,I⟩
 case round=>
  clear I
  obtain⟨k,hk,rfl,rfl,I⟩:=hrel.out
  clear hrel
  by_cases hlt:k<n
  ·obtain⟨b,off,rfl⟩:=h.addr (by omega)
   have q0:=bool_at (h.keep I.below) hlt
   have hT:xs.take (k+1)=xs.take k++ [xs.getD k default]:=by rw[List.take_succ_eq_append_getElem (by rw[hlen.out];exact hlt),List.getD_eq_getElem?_getD,List.getElem?_eq_getElem (by rw[hlen.out];exact hlt)];rfl
   have hB:=rows_bd (xs.take k) (0,0) 0 (by decide) (by decide) (by decide) (by decide)
   rw[List.length_take,hlen.out]at hB
   have hS:=rows_snoc (xs.take k) (xs.getD k default) (0,0)
   rw[←hT]at hS
   clear hT
   generalize xs.getD k default=x at*
   generalize rowsN (xs.take k) (0,0)=s at*
   obtain⟨now,most⟩:=s
   dsimp only at*
   have r1:(k:Int)<(n:Int):=by omega
   have r0:(0:Int)≤(k:Int):=by omega
   have c1:=fun W hM=>row1_any (!x) now most B1 B2 w W [] hM (by omega) (by omega)
   unfold Row1Post at c1
   generalize rowN now (!x)=now2 at*
   generalize max most now2=most2 at*
   clear hB
   replace c1:=Zh c1
   replace hS:=Zh hS
   go_wp2_with(first|(go_at_call 177;refine(c1 _ I.out).mono ?_;rintro r w3 ⟨rfl,HM3⟩;clear I;have I:=Zh HM3;clear HM3)|fail)
   have hS1:=congrArg Prod.fst hS.out
   have hS2:=congrArg Prod.snd hS.out
   dsimp only at hS1 hS2
   go_roundw
   case rel=>exact Zh ⟨k+1,by omega,by go_num,by rw[hS2],by rw[hS1,hS2];exact I⟩
   case measure=>simp[intOf];omega
  ·obtain rfl:k=n:=by omega
   have hx:xs.take k=xs:=List.take_of_length_le (by rw[hlen.out];exact Nat.le_refl _)
   rw[hx]at I
   have hN2:=hN.out
   try rw[hx]at I
   try rw[hx]
   go_wp2
   go_ret
   exact⟨by rw[hN2];rfl,I.below⟩
theorem clear_own2(e:Ed)(v:EdV)(w:World)(h:EdIs w v e)(h0:chkE e=0):Calls Tryz.prog 170 #[.agg (Ke e v)] w (EndOwn (startE e.node e.peer) 0 w):=by
 have I:=Zh (Mem.start w)
 have cC:=fun W (hb:Below w.heap.size w W)=>chkE_any e v W (h.keep hb)
 rw[h0]at cC
 have hPo:∀w',Below w.heap.size w w'→EndOwn (startE e.node e.peer) 0 w (.returned (.tuple #[.agg (endA (startE e.node e.peer) edV0),.int .i64 0])) w':=fun w' hb=>⟨edV0,rfl,EdOwn.startE _ _ _,hb⟩
 generalize EndOwn (startE e.node e.peer) 0 w=P at*
 have uE:=Tryz.underlying32
 refine zh4 ?_ h cC hPo uE;clear h cC hPo uE;intro h cC hPo uE
 clear h0
 go_enter Tryz.func170,Tryz.ntmps170
 go_upto_region 1 with(first|(refine bA I 32 ?_;clear I;intro ge w1 I hG;clear hG)|(refine wpList_allocA I rfl 32 rfl (by first|exact msgInfo|exact edInfo|exact tabInfo|exact info_tcl|exact info_spt) ?_;clear I;intro g2 w1 I hG;clear hG))
 have ke:=I.cell 1 rfl
 go_wp2_with(first
  |(refine lM 1 I uE.out ?_)
  |(refine sF 0 I ?_;clear I ke;intro w4 I hG4;simp only[List.set]at I;have ke:=I.cell 1 rfl)
  |(go_at_call 71;refine(cC _ I.below).mono ?_;rintro r w3 ⟨rfl,p_⟩;have HM2:=Zm I p_;clear I p_ ke cC;have I:=HM2;clear HM2;have ke:=I.cell 1 rfl)
  |fail)
 try simp only[Exit.inBlock,Exit.then]
 refine rT I 0 uE.out ?_
 exact hPo.out _ I.below
def EdO(_:World)(v:EdV)(e:Ed)(w:World):Prop:=EdOwn w v e
theorem EdO.is {w0 w:World} {v:EdV} {e:Ed}(h:EdO w0 v e w)(_:Below w0.heap.size w0 w):EdIs w v e:=EdOwn.is h
theorem EdO.of_own {w0 w:World} {v:EdV} {e:Ed}(h:EdOwn w v e):EdO w0 v e w:=h
theorem Stc.edO(w0:World)(v:EdV)(e:Ed):Stc (EdO w0 v e):=Stc.ed v e
theorem TclOwn.is {A:Option Addr} {n c:Nat} {xs:List TCl} {w:World}(h:TclOwn A n c xs w):TclS w A n xs∧n≤c:=by
 obtain⟨⟨b,h⟩,hl⟩:=h
 exact⟨(Sls.of_owns tclE_len h hl).2,own_cap h⟩
def IntO(_:World)(A:Option Addr)(n c:Nat)(xs:List Int)(w:World):Prop:=IntOwn A n c xs w
theorem IntO.is {w0 w:World} {A:Option Addr} {n c:Nat} {xs:List Int}(h:IntO w0 A n c xs w)(_:Below w0.heap.size w0 w):IntS w A n xs∧n≤c:=by
 obtain⟨⟨b,h⟩,hl⟩:=h
 exact⟨(Sls.of_owns (enc:=intE) (k:=1) (fun _=>rfl) h hl).2,own_cap h⟩
structure RstO(w0:World)(vl vr:TabV)(A:Option Addr)(nf cf:Nat)(tl tr:Tab)(f:List Int)(w:World):Prop where
 l:TclOwn vl.A vl.n vl.c tl.cells w
 r:TclOwn vr.A vr.n vr.c tr.cells w
 f:IntO w0 A nf cf f w
theorem Stc.rstO(w0:World)(vl vr:TabV)(A:Option Addr)(nf cf:Nat)(tl tr:Tab)(f:List Int):Stc (RstO w0 vl vr A nf cf tl tr f):=⟨fun h hb=>⟨(Stc.tclOwn ..).keep h.l hb,(Stc.tclOwn ..).keep h.r hb,(Stc.intOwn ..).keep h.f hb⟩,fun h hB h1 h2 h3 hg=>⟨(Stc.tclOwn ..).put h.l hB h1 h2 h3 hg,(Stc.tclOwn ..).put h.r hB h1 h2 h3 hg,(Stc.intOwn ..).put h.f hB h1 h2 h3 hg⟩⟩
theorem RstO.tl {w0 w:World} {vl vr:TabV} {A:Option Addr} {nf cf:Nat} {tl tr:Tab} {f:List Int}(h:RstO w0 vl vr A nf cf tl tr f w)(_:Below w0.heap.size w0 w):TabIs w vl tl:=⟨h.l.is.1,h.l.is.2⟩
theorem RstO.tr {w0 w:World} {vl vr:TabV} {A:Option Addr} {nf cf:Nat} {tl tr:Tab} {f:List Int}(h:RstO w0 vl vr A nf cf tl tr f w)(_:Below w0.heap.size w0 w):TabIs w vr tr:=⟨h.r.is.1,h.r.is.2⟩
structure CplT(w0:World)(v:CplV)(c:Cpl)(w:World):Prop where
 a:EdO w0 v.a c.a w
 b:EdO w0 v.b c.b w
 q:RstO w0 v.l v.r v.A v.nf v.cf c.left c.right c.free w
theorem Stc.cplT(w0:World)(v:CplV)(c:Cpl):Stc (CplT w0 v c):=⟨fun h hb=>⟨(Stc.edO ..).keep h.a hb,(Stc.edO ..).keep h.b hb,(Stc.rstO ..).keep h.q hb⟩,fun h hB h1 h2 h3 hg=>⟨(Stc.edO ..).put h.a hB h1 h2 h3 hg,(Stc.edO ..).put h.b hB h1 h2 h3 hg,(Stc.rstO ..).put h.q hB h1 h2 h3 hg⟩⟩
theorem CplOwn.t {w:World} {v:CplV} {c:Cpl}(h:CplOwn w v c)(w0:World):CplT w0 v c w:=⟨h.a,h.b,h.l,h.r,h.f⟩
theorem CplT.own {w0 w:World} {v:CplV} {c:Cpl}(h:CplT w0 v c w):CplOwn w v c:=⟨h.a,h.b,h.q.l,h.q.r,h.q.f⟩
theorem CplOwn.is {w:World} {v:CplV} {c:Cpl}(h:CplOwn w v c):CplIs w v c:=(h.s w).is (Below.refl _ _)
end Tx
end Go.Proofs.YtfamifgchgolpaaGreat
