/- Chapter 26: facts that stand while the call's own structs are made and written. -/
import Derived.Test.YtfamifgchgolpaaGreatBy
import Derived.Test.YtfamifgchgolpaaGreatBz
import Derived.Test.YtfamifgchgolpaaGreatBv
set_option linter.unusedVariables false
set_option linter.unusedSimpArgs false
set_option maxRecDepth 100000
set_option maxHeartbeats 4000000
namespace Go.Proofs.YtfamifgchgolpaaGreat
open Go Go.RowKit Go.Sort Go.Shelf Go.Maps
namespace Tx
open Sw Mm Pl
structure Stb(F:World→Prop):Prop where
 keep:∀ {w w':World},F w→Below w.heap.size w w'→F w'
 put:∀ {w w':World} {B:Nat} {C:Array Value} {t:TypeId},F w→Blk w B C t→t≠97→t≠85→w.grownBy w' (some B)→F w'
theorem Stb.true:Stb (fun _=>True):=⟨fun _ _=>trivial,fun _ _ _ _ _=>trivial⟩
theorem Stb.and {F G:World→Prop}(h:Stb F)(k:Stb G):Stb (fun w=>F w∧G w):=⟨fun x hb=>⟨h.keep x.1 hb,k.keep x.2 hb⟩,fun x hB h1 h2 hg=>⟨h.put x.1 hB h1 h2 hg,k.put x.2 hB h1 h2 hg⟩⟩
theorem Stb.ed(v:EdV)(e:Ed):Stb (fun w=>EdOwn w v e):=⟨fun x hb=>x.keep hb,fun x hB h1 h2 hg=>x.put hB h1 h2 hg⟩
theorem Stb.msg(v:MsgV)(m:Msg):Stb (fun w=>MsgOwn w v m):=⟨fun x hb=>x.keep hb,fun x hB h1 _ hg=>x.put hB h1 hg⟩
theorem Stb.tab(v:TabV)(t:Tab):Stb (fun w=>TabOwn w v t):=⟨fun x hb=>x.keep hb,fun x hB _ h2 hg=>x.put hB h2 hg⟩
theorem Stb.sub(v:MsgV)(m:Msg):Stb (fun w=>MsgSub w v m):=⟨fun x hb=>x.keep hb,fun x hB h1 _ hg=>x.put hB h1 hg⟩
theorem stb_add {F G:World→Prop} {w:World}(q_:Stb F)(J:Hid (F w))(hGs:Stb G)(hG:G w):∃F':World→Prop,Stb F'∧Hid (F' w)∧(∀W,F' W→F W)∧(∀W,F' W→G W):=
 ⟨fun W=>F W∧G W,q_.and hGs,⟨J,hG⟩,fun _ h=>h.1,fun _ h=>h.2⟩
theorem Zu {F F' X:World→Prop}(g:Hid (∀W,F W→X W))(h:∀W,F' W→F W):Hid (∀W,F' W→X W):=fun W q=>g.out W (h W q)
theorem Stb.z {F:World→Prop}(q_:Stb F) {w w':World}(J:Hid (F w))(hb:Below w.heap.size w w'):Hid (F w'):=q_.keep J hb
theorem Stb.y {F:World→Prop}(q_:Stb F) {w w':World}(J:Hid (F w))(hb:Hid (Below w.heap.size w w')):Hid (F w'):=q_.keep J hb.out
theorem Stb.p {F:World→Prop}(q_:Stb F) {w w':World}(J:Hid (F w)) {B:Nat} {C:Array Value} {t:TypeId}(hB:Blk w B C t)(hg:Hid (w.grownBy w' (some B)))(d1:t≠97:=by decide)(d2:t≠85:=by decide):Hid (F w'):=q_.put J hB d1 d2 hg.out
theorem Stb.k {F:World→Prop}(q_:Stb F) {P:Program} {f:FuncId} {args:Array Value} {w a0:World} {Q:Ending→World→Prop} {L:List (Nat×Array Value×TypeId)}(hM:Hid (Mem a0 w L))(J:Hid (F w)) {R:Ending}(h:Calls P f args w (fun r w'=>r=R∧Below w.heap.size w w'))(k:∀w',Hid (Mem a0 w' L)→Hid (F w')→Q R w'):Calls P f args w Q:=h.mono (by rintro r w' ⟨rfl,hb⟩;exact k w' (hM.keep hb) (q_.keep J hb))
theorem Stb.b {F:World→Prop}(q_:Stb F) {P:Program} {ops:Array Oper} {rest:List Oper} {op:Oper} {a:Act} {w:World} {Q:Exit→Act→World→Prop} {a0:World} {L:List (Nat×Array Value×TypeId)}(hM:Hid (Mem a0 w L))(J:Hid (F w))(ty:TypeId) {x:Operand} {C:Array Value}(h:∀g w',Hid (Mem a0 w' ((g,C,ty)::L))→Hid (F w')→wpList P ops Q rest (a.put op.dst (.pointer (some ⟨g,0,none⟩))) w')
 (hgd:op.guard=none:=by rfl) (ho:op.op= .box ty x:=by rfl) (hx:a.eval x= .agg C:=by rfl):wpList P ops Q (op::rest) a w:=bA hM ty (fun g w' q1 q2=>h g w' q1 (q_.keep J q2.out)) hgd ho hx
theorem Stb.a {F:World→Prop}(q_:Stb F) {P:Program} {ops:Array Oper} {rest:List Oper} {op:Oper} {a:Act} {w:World} {Q:Exit→Act→World→Prop} {a0:World} {L:List (Nat×Array Value×TypeId)}(hM:Hid (Mem a0 w L))(J:Hid (F w)) {ty:TypeId} {Z:Array Value} {k b:Nat}(hz:(P.info? ty).map (fun i=>(i.zero,i.size,i.bytes))=some (some (.agg Z),k,b))
 (h:∀g w',Hid (Mem a0 w' ((g,Z,ty)::L))→Hid (F w')→wpList P ops Q rest (a.put op.dst (.pointer (some ⟨g,0,none⟩))) w') (hgd:op.guard=none:=by rfl) (ho:op.op= .alloc ty:=by rfl):wpList P ops Q (op::rest) a w:=aN hM hz (fun g w' q1 q2 _=>h g w' q1 (q_.keep J q2.out)) hgd ho
theorem Stb.s {F:World→Prop}(q_:Stb F) {P:Program} {ops:Array Oper} {rest:List Oper} {op:Oper} {a:Act} {w:World} {Q:Exit→Act→World→Prop} {a0:World} {L:List (Nat×Array Value×TypeId)}(i:Nat)(hM:Hid (Mem a0 w L))(J:Hid (F w)) {ty:TypeId} {x y:Operand} {B:Nat} {C:Array Value} {t:TypeId} {V:Array Value}
 (h:∀w',Hid (Mem a0 w' (L.set i (B,V,t)))→Hid (F w')→wpList P ops Q rest (a.put op.dst undef) w') (hgd:op.guard=none:=by rfl) (ho:op.op= .store ty x y:=by rfl) (hx:a.eval x= .pointer (some ⟨B,0,none⟩):=by rfl) (hL:L[i]? =some (B,C,t):=by rfl) (d1:t≠97:=by decide) (d2:t≠85:=by decide) (hy:a.eval y= .agg V:=by rfl)
 (hi:(P.info? ty).map (·.size)=some V.size:=by kernel_rfl) (h1:V.toList.all (·.oneCell')=Bool.true:=by rfl) (hs:C.size=V.size:=by rfl):wpList P ops Q (op::rest) a w:=sF i hM (fun w' q1 q2=>h w' q1 (q_.put J (hM.at_ i hL) d1 d2 q2.out)) hgd ho hx hL hy hi h1 hs
theorem Stb.m {F:World→Prop}(q_:Stb F) {P:Program} {ops:Array Oper} {rest:List Oper} {op:Oper} {a:Act} {w:World} {Q:Exit→Act→World→Prop} {a0:World} {L:List (Nat×Array Value×TypeId)}(i:Nat)(hM:Hid (Mem a0 w L))(J:Hid (F w))(o:Nat)(C':Array Value) {ty:TypeId} {x y:Operand} {B:Nat} {C:Array Value} {t:TypeId} {v:Value}
 (h:∀w',Hid (Mem a0 w' (L.set i (B,C',t)))→Hid (F w')→wpList P ops Q rest (a.put op.dst undef) w') (hgd:op.guard=none:=by rfl) (ho:op.op= .store ty x y:=by rfl) (hx:a.eval x= .pointer (some ⟨B,o,none⟩):=by rfl) (hL:L[i]? =some (B,C,t):=by rfl) (d1:t≠97:=by decide) (d2:t≠85:=by decide)
 (hy:a.eval y=v:=by conv=> {lhs;whnf}) (hi:(P.info? ty).map (·.size)=some v.cells.size:=by kernel_rfl) (h1:v.cells.toList.all (·.oneCell')=Bool.true:=by kernel_rfl) (hs:o+v.cells.size≤C.size:=by exact Nat.le_of_ble_eq_true (by kernel_rfl)) (hC:(setL C.toList o v.cells.toList).toArray=C':=by kernel_rfl):wpList P ops Q (op::rest) a w:=sM i hM o C' (fun w' q1 q2=>h w' q1 (q_.put J (hM.at_ i hL) d1 d2 q2.out)) hgd ho hx hL hy hi h1 hs hC
theorem sA {F G:World→Prop} {w:World} {p:Prop}(q_:Stb F)(J:Hid (F w))(hGs:Stb G)(hG:G w)(k:∀F':World→Prop,Stb F'→Hid (F' w)→(∀W,F' W→F W)→Hid (∀W,F' W→G W)→p):p:=k _ (q_.and hGs) ⟨J,hG⟩ (fun _ h=>h.1) (Zh fun _ h=>h.2)
theorem few_room {e:Ed} {t:Tab}(h1:fewE e=true)(h2:fewT t=true)(J:FullOk t e):Room t e:=by
 unfold fewE at h1
 unfold fewT fewC at h2
 simp only[Bool.and_eq_true,Bool.or_eq_true,decide_eq_true_eq]at h1 h2
 have:=J.tab.size
 unfold Room
 omega
theorem recvC_iff {e:Ed} {t:Tab} {m:Msg}:recvC e t m=0↔FullOk t e∧chkM m=0∧m.reply=false:=by
 unfold recvC
 rw[←fullC_iff]
 constructor
 ·intro h
  split at h
  ·exact absurd h (by assumption)
  rename_i h1
  split at h
  ·cases h
  rename_i h2
  simp only[not_or,Decidable.not_not,Bool.not_eq_true]at h1 h2
  exact⟨h1,h2.1,h2.2⟩
 ·rintro⟨a,b,c⟩
  rw[if_neg (by rw[a];simp),if_neg (by rw[b,c];simp)]
theorem recv_not {e:Ed} {t:Tab} {f:List Int} {m:Msg}(h:recvC e t m≠0):recv e t f m=(ed0,msg0):=by
 unfold recv
 rw[if_pos h]
theorem EdOwn.startE(w:World)(node peer:Int):EdOwn w edV0 (startE node peer):=⟨⟨0,World.ownsRow_nil _ _ _ _⟩,rfl,MsgOwn.zero w,MsgOwn.zero w,MsgOwn.zero w⟩
def ExpOwn(E:Ed)(c:Bool)(w:World)(r:Ending)(w':World):Prop:=∃v,r= .returned (.tuple #[.agg (endA E v),.bool c])∧EdOwn w' v E∧Below w.heap.size w w'
theorem start_own(node peer:Int)(w:World):Calls Tryz.prog 9 #[.int .i64 node,.int .i64 peer] w (EndOwn (startN node peer) (startC node peer) w):=by
 have I:=Zh (Mem.start w)
 have cW:=fun n m W=>within_any n m W
 have hR:=startC_w node peer
 have hPb:∀w',startC node peer=2→Below w.heap.size w w'→EndOwn (startN node peer) (startC node peer) w (.returned (.tuple #[.agg (endA ed0 edV0),.int .i64 2])) w':=fun w' e1 hb=>by
  unfold EndOwn startN;rw[e1,if_neg (by decide)];exact⟨edV0,rfl,EdOwn.zero _,hb⟩
 have hPo:∀w',startC node peer=0→Below w.heap.size w w'→EndOwn (startN node peer) (startC node peer) w (.returned (.tuple #[.agg (endA (startE node peer) edV0),.int .i64 0])) w':=fun w' e1 hb=>by
  unfold EndOwn startN;rw[e1,if_pos rfl];exact⟨edV0,rfl,EdOwn.startE _ _ _,hb⟩
 generalize EndOwn (startN node peer) (startC node peer) w=P at*
 generalize startC node peer=R at*
 have uE:=Tryz.underlying32
 refine zh5 ?_ cW hR hPb hPo uE;clear cW hR hPb hPo uE;intro cW hR hPb hPo uE
 go_enter Tryz.func9,Tryz.ntmps9
 go_upto_region 1 with(refine wpList_allocA I rfl 32 rfl (by first|exact msgInfo|exact edInfo|exact tabInfo|exact info_tcl|exact info_spt) ?_;clear I;intro g2 w1 I hG;clear hG)
 have ke:=I.cell 0 rfl
 go_wp2_with(first
  |(refine sF 0 I ?_;clear I ke;intro w4 I hG4;simp only[List.set]at I;have ke:=I.cell 0 rfl)
  |(go_at_call 40;refine(cW _ _ _).mono ?_;rintro r w_ ⟨rfl,rfl⟩)
  |fail)
 all_goals
  try simp only[Exit.inBlock,Exit.then]
  refine rT I 0 uE.out ?_
  try simp only[bne_iff_ne,beq_iff_eq,ne_eq,bne_eq_false_iff_eq,beq_eq_false_iff_ne,Bool.not_eq_true',Bool.not_eq_false']at*
  first
  |exact hPb.out _ (by rw[hR.out];simp[*];done) I.below
  |exact hPo.out _ (by rw[hR.out];simp[*];done) I.below
  |(trace_state;fail)
theorem expire_own(e:Ed)(v:EdV)(slot wait:Int)(w:World)(h0:EdOwn w v e)(hsl: -(2 ^ 63:Int)≤slot)(hsl2:slot<2 ^ 63):Calls Tryz.prog 201 #[.agg (Ke e v),.int .i64 slot,.int .i64 wait] w (ExpOwn (expN e slot wait) (expB e slot wait) w):=by
 have I:=Zh (Mem.start w)
 have h:=h0.is
 have cC:=fun W (hb:Below w.heap.size w W)=>chkE_any e v W (h.keep hb)
 have cL:=fun W (hb:Below w.heap.size w W) (hk:chkE e=0)=>closed_any e v W (h.keep hb) (small_of h hk)
 have hR:=expB_w e slot wait
 have hr:chkE e=0→0≤e.since∧e.since≤1099511627776:=fun h=>⟨((chkE_iff e).1 h).since0,((chkE_iff e).1 h).since⟩
 have hPb:∀w',expB e slot wait=false→Below w.heap.size w w'→ExpOwn (expN e slot wait) (expB e slot wait) w (.returned (.tuple #[.agg (endA e v),.bool false])) w':=fun w' e1 hb=>by
  unfold ExpOwn expN;rw[e1];exact⟨v,rfl,h0.keep hb,hb⟩
 have hPo:∀w' v',expB e slot wait=true→EdOwn w' v' (closE e)→Below w.heap.size w w'→ExpOwn (expN e slot wait) (expB e slot wait) w (.returned (.tuple #[.agg (endA (closE e) v'),.bool true])) w':=fun w' v' e1 hE hb=>by
  unfold ExpOwn expN;rw[e1];exact⟨v',rfl,hE,hb⟩
 generalize ExpOwn (expN e slot wait) (expB e slot wait) w=P at*
 generalize expB e slot wait=R at*
 generalize chkE e=C at*
 have uE:=Tryz.underlying32
 obtain⟨e0,e1,e2,e3,eo,e5,ea,ek,el,er⟩:=e
 dsimp only at*
 clear h0
 refine zh8 ?_ h cC cL hR hr hPb hPo uE;clear h cC cL hR hr hPb hPo uE;intro h cC cL hR hr hPb hPo uE
 go_enter Tryz.func201,Tryz.ntmps201
 go_upto_region 1 with(first|(refine bA I 32 ?_;clear I;intro ge w1 I hG;clear hG)|(refine wpList_allocA I rfl 32 rfl (by first|exact msgInfo|exact edInfo|exact tabInfo|exact info_tcl|exact info_spt) ?_;clear I;intro g2 w1 I hG;clear hG))
 have ke:=I.cell 1 rfl
 by_cases hC:C=0
 case neg=>
  have hR2:Hid (R=false):=by show _= _;rw[hR.out];simp[hC]
  have d1:(C !=0)=true:=by rw[bne_iff_ne];exact hC
  go_wp2_with(first
   |(refine lM 1 I uE.out ?_)
   |(refine sF 0 I ?_;clear I ke;intro w4 I hG4;simp only[List.set]at I;have ke:=I.cell 1 rfl)
   |(go_at_call 71;refine(cC _ I.below).mono ?_;rintro r w3 ⟨rfl,p_⟩;have HM2:=Zm I p_;clear I p_ ke cC;have I:=HM2;clear HM2;have ke:=I.cell 1 rfl)
   |fail)
  try simp only[Exit.inBlock,Exit.then]
  refine rT I 0 uE.out ?_
  exact hPb.out _ hR2.out I.below
 obtain⟨s0,s1⟩:=hr.out hC
 have hcL:=Zh fun W hb=>cL.out W hb hC
 clear cL hr
 rw[hC]at cC hR
 have hR2:Hid (R=(eo&&(!decide (slot<0)&& !decide (slot-e5<wait)))):=by show _= _;rw[hR.out];simp
 clear hR
 cases eo
 all_goals
  by_cases hs:slot<0
 all_goals
  have d2:decide (slot<0)=decide (slot<0):=rfl
  first|rw[decide_eq_true hs]at hR2|rw[decide_eq_false hs]at hR2
 all_goals try have hw1:IntKind.i64.wrap (slot-e5)=slot-e5:=IntWalk.i64_in _ (by omega)
 all_goals
  clear d2
  go_wp2_with(first
   |(refine lM 1 I uE.out ?_)
   |(refine sF 0 I ?_;have hBq:=I.at_ 0 rfl;clear I ke;intro w4 I hG4;simp only[List.set]at I;replace hE:=Zh (hE.put hBq (by decide) (by decide) hG4.out);clear hBq;have ke:=I.cell 1 rfl)
   |(refine sF 0 I ?_;clear I ke;intro w4 I hG4;simp only[List.set]at I;have ke:=I.cell 1 rfl)
   |(go_at_call 71;refine(cC _ I.below).mono ?_;rintro r w3 ⟨rfl,p_⟩;have HM2:=Zm I p_;clear I p_ ke cC;have I:=HM2;clear HM2;have ke:=I.cell 1 rfl)
   |(go_at_call 72;refine(hcL _ I.below).mono ?_;rintro r w3 ⟨v',rfl,hE,p_⟩;dsimp only[endA];replace hE:=Zh hE;have HM2:=Zm I p_;clear I p_ ke hcL;have I:=HM2;clear HM2;have ke:=I.cell 1 rfl)
   |fail)
 all_goals
  try simp only[Exit.inBlock,Exit.then]
  refine rT I 0 uE.out ?_
  try simp only[bne_iff_ne,beq_iff_eq,ne_eq,bne_eq_false_iff_eq,beq_eq_false_iff_ne,Bool.not_eq_true',Bool.not_eq_false']at*
  first
  |exact hPb.out _ (by rw[hR2.out];first|(simp[*];done)|(simp;omega)) I.below
  |exact hPo.out _ _ (by rw[hR2.out];simp[*];done) hE.out I.below
  |(trace_state;fail)
def Apt(v1 v2:Value):Prop:=∀g,v1.ownBlock=some g→v2.ownBlock≠some g
theorem Apt.symm {v1 v2:Value}(h:Apt v1 v2):Apt v2 v1:=fun g e1 e2=>h g e2 e1
theorem Apt.kept {w w':World} {base s n:Nat} {e:TypeId} {v1 v2:Value} {xs:List Value}(h:Apt v1 v2)(ho:w.ownsRow base e s v2 n xs)(hg:w.grownBy w' v1.ownBlock):w'.ownsRow base e s v2 n xs:=by
 refine ho.kept hg ?_
 cases hq:v2.ownBlock with
 |none=>exact .inl rfl
 |some g=>exact .inr fun e=>h g e.symm hq
theorem own_put {w w':World} {base s n B:Nat} {e t:TypeId} {v:Value} {xs:List Value} {C:Array Value}(ho:w.ownsRow base e s v n xs)(hB:Blk w B C t)(ht:e≠t)(hg:w.grownBy w' (some B)):w'.ownsRow base e s v n xs:=ho.kept hg (.inr (row_ne_blk ho hB ht))
theorem Apt.app {w:World} {base s n:Nat} {e:TypeId} {v1 v1' v2:Value} {xs:List Value}(h:Apt v1 v2)(ho:w.ownsRow base e s v2 n xs)(hv:v1'.ownBlock=v1.ownBlock∨v1'.ownBlock=some w.heap.size):Apt v1' v2:=by
 intro g e1 e2
 rcases hv with hv|hv
 ·exact h g (by rw[←hv];exact e1) e2
 ·have:=(ho.lt g e2).2
  rw[hv]at e1
  injection e1 with e1
  omega
open Go.Lib
theorem opp_any(A B:Option Addr)(n cp m cq:Nat)(xs ys:List TCl)(w:World)(h:TclS w A n xs)(h2:TclS w B m ys)(ho:oppN xs ys=true):
 Calls Tryz.prog 166 #[.slice A n cp,.slice B m cq] w fun e w'=>e= .returned (.bool true)∧Below w.heap.size w w':=by
 have hlen:=h.len
 have hlen2:=h2.len
 have hs:=h.small
 unfold maxLen at hs
 unfold oppN at ho
 rw[Bool.and_eq_true,decide_eq_true_eq]at ho
 obtain⟨hll,hall⟩:=ho
 obtain rfl:n=m:=by omega
 have hk:=fun k (hk:k<n)=>Sw.all_range hall (k:=k) (by omega)
 clear hll hall
 refine zh5 ?_ h h2 hlen hlen2 hk;clear h h2 hlen hlen2 hk;intro h h2 hlen hlen2 hk
 go_enter Tryz.func166,Tryz.ntmps166
 go_wp2_with fail
 go_loopw[5] (fun i wr=>∃k:Nat,k≤n∧i= .int .i64 k∧Hid (Below w.heap.size w wr)) (fun i _=>n-(intOf i).toNat)
 case atStart=>exact⟨0,by omega,rfl,Below.refl _ _⟩
 case round=>
  obtain⟨k,hkn,rfl,HB⟩:=hrel
  by_cases hlt:k<n
  ·obtain⟨b,off,rfl⟩:=h.addr (by omega)
   obtain⟨b2,off2,rfl⟩:=h2.addr (by omega)
   have hx:=tcl_at (h.keep HB.out) hlt
   have hy:=tcl_at (h2.keep HB.out) hlt
   have hq:=hk.out k hlt
   generalize xs.getD k default=x at*
   generalize ys.getD k default=y at*
   obtain⟨x0,x1,x2,x3,x4,x5⟩:=x
   obtain⟨y0,y1,y2,y3,y4,y5⟩:=y
   obtain⟨q0,q1,q2,q3,q4,q5⟩:=hx
   obtain⟨r0,r1,r2,r3,r4,r5⟩:=hy
   dsimp only at q0 r0 q1 r1 q3 r3 hq
   simp only[Bool.and_eq_true,decide_eq_true_eq]at hq
   obtain⟨rfl,rfl,hne⟩:=hq
   obtain rfl:y3= !x3:=by cases x3<;>cases y3<;>simp_all
   have g0:=cell_regrown q0
   have u0:=cell_regrown r0
   have g1:=cell_regrown q1
   have u1:=cell_regrown r1
   have g3:=cell_regrown q3
   have u3:=cell_regrown r3
   have r1':(k:Int)<(n:Int):=by omega
   have r0':(0:Int)≤(k:Int):=by omega
   clear q0 r0 q1 r1 q2 r2 q3 r3 q4 r4 q5 r5 hne
   cases x3
   all_goals
    go_wp2_with fail
    refine wp_region_quiet_below (by kernel_rfl) (by kernel_rfl) ?_
    repeat(go_big_quiet_step(fail))
    refine wpQuiet_nil ?_
    rintro _ ⟨⟨dq,osq⟩,rfl⟩
    have p_:=below_regrown wr dq osq
    replace HB:=Zh (HB.keep p_)
    generalize grow (redrawn wr dq) osq=w2 at*
    clear p_
    go_wp2
    go_roundw
    case rel=>exact⟨k+1,by omega,by go_num,HB⟩
    case measure=>simp[intOf];omega
  ·obtain rfl:k=n:=by omega
   go_wp2
   go_ret
   exact⟨rfl,HB.out⟩
end Tx
end Go.Proofs.YtfamifgchgolpaaGreat
