/- Chapter 27: Consistent, Detects: the program's. -/
import Derived.Test.YtfamifgchgolpaaGreatCy
import Derived.Test.YtfamifgchgolpaaGreatCa
set_option linter.unusedVariables false
set_option linter.unusedSimpArgs false
set_option maxRecDepth 100000
set_option maxHeartbeats 4000000
namespace Go.Proofs.YtfamifgchgolpaaGreat
open Go Go.RowKit Go.Sort Go.Shelf Go.Maps
namespace Tx
open Sw Mm Pl
def oppC(x y:TCl):Bool:=decide (x.slot=y.slot)&&(decide (x.off=y.off)&&decide (x.send≠y.send))
theorem oppN_ne {a b:List TCl}(h:a.length≠b.length):oppN a b=false:=by
 unfold oppN
 rw[decide_eq_false h];rfl
theorem oppN_no {a b:List TCl} {i:Nat}(hi:i<a.length)(h:oppC (a.getD i default) (b.getD i default)=false):oppN a b=false:=by
 unfold oppN
 rw[Bool.and_eq_false_iff]
 refine .inr ?_
 rw[List.all_eq_false]
 exact⟨i,List.mem_range.2 hi,by unfold oppC at h;rw[h];simp⟩
theorem oppN_yes {a b:List TCl}(hl:a.length=b.length)(h:∀i,i<a.length→oppC (a.getD i default) (b.getD i default)=true):oppN a b=true:=by
 unfold oppN
 rw[decide_eq_true hl,Bool.true_and]
 exact Sw.all_range_true fun i hi=>h i hi
theorem eCo:∀args w,(callFunc 109 args).run Tryz.prog w= .ok (.enter 109 args) w:=enters_of Tryz.func109 (by kernel_rfl) rfl
theorem oppFn_any(x y:TCl)(w:World):Calls Tryz.prog 109 (#[.agg #[.int .i64 x.slot,.int .i64 x.off,.int .i64 x.kind,.bool x.send,.int .i64 x.peer,.int .i64 x.flow],.agg #[.int .i64 y.slot,.int .i64 y.off,.int .i64 y.kind,.bool y.send,.int .i64 y.peer,.int .i64 y.flow]]++ #[]) w fun e w'=>e= .returned (.bool (oppC x y))∧Below w.heap.size w w':=by
 show Calls Tryz.prog 109 #[.agg #[.int .i64 x.slot,.int .i64 x.off,.int .i64 x.kind,.bool x.send,.int .i64 x.peer,.int .i64 x.flow],.agg #[.int .i64 y.slot,.int .i64 y.off,.int .i64 y.kind,.bool y.send,.int .i64 y.peer,.int .i64 y.flow]] w _
 have I:=Zh (Mem.start w)
 unfold oppC
 obtain⟨x0,x1,x2,x3,x4,x5⟩:=x
 obtain⟨y0,y1,y2,y3,y4,y5⟩:=y
 dsimp only at*
 go_enter Tryz.func109,Tryz.ntmps109
 go_upto_region 1 with(first|(refine bA I 85 ?_;clear I;intro gx w1 I hG;clear hG)|fail)
 have ka:=I.cell 1 rfl
 have kb:=I.cell 0 rfl
 cases x3<;>cases y3
 all_goals
  go_wp2
  all_goals
   go_ret
   exact⟨by first|(simp[*];done)|(simp[*];omega)|(simp[*,intB];done)|(simp[*,intB];omega)|(simp[*,bne,intB];done),I.below⟩
theorem eqFnT_any(f:Nat)(cb:Array Value)(p:TCl→TCl→Bool)(A B:Option Addr)(n cp m cq:Nat)(xs ys:List TCl)(w:World)(ef:∀args w,(callFunc f args).run Tryz.prog w= .ok (.enter f args) w)(h:TclS w A n xs)(h2:TclS w B m ys)
 (hp:∀x y W,Calls Tryz.prog f (#[.agg #[.int .i64 x.slot,.int .i64 x.off,.int .i64 x.kind,.bool x.send,.int .i64 x.peer,.int .i64 x.flow],.agg #[.int .i64 y.slot,.int .i64 y.off,.int .i64 y.kind,.bool y.send,.int .i64 y.peer,.int .i64 y.flow]]++cb) W fun e w'=>e= .returned (.bool (p x y))∧Below W.heap.size W w') (R:Bool) (hne:n≠m→R=false) (hno:∀k,k<n→p (xs.getD k default) (ys.getD k default)=false→R=false) (hyes:n=m→(∀k,k<n→p (xs.getD k default) (ys.getD k default)=true)→R=true):
 Calls Tryz.prog 82 #[.slice A n cp,.slice B m cq,.func (.func f) #[] cb] w fun e w'=>e= .returned (.bool R)∧Below w.heap.size w w':=by
 have hs:=h.small
 have hs2:=h2.small
 unfold maxLen at hs hs2
 have uC:=Tryz.underlying85
 by_cases hnm:n=m
 case neg=>
  have hR:=hne hnm
  have d1:((n:Int) !=(m:Int))=true:=by rw[bne_iff_ne];omega
  subst hR
  refine zh7 ?_ h h2 hp hne hno hyes uC;clear h h2 hp hne hno hyes uC;intro h h2 hp hne hno hyes uC
  go_enter Tryz.func82,Tryz.ntmps82
  go_wp2_with fail
  go_ret
  exact⟨rfl,Below.refl _ _⟩
 have hyes2:=hyes hnm
 subst hnm
 clear hne hyes
 refine zh6 ?_ h h2 hp hno hyes2 uC;clear h h2 hp hno hyes2 uC;intro h h2 hp hno hyes2 uC
 go_enter Tryz.func82,Tryz.ntmps82
 go_wp2_with fail
 go_loopw[7,8,9,17] (fun _ _ _ i wr=>∃k:Nat,k≤n∧i= .int .i64 k∧Hid (∀j,j<k→p (xs.getD j default) (ys.getD j default)=true)∧Hid (Below w.heap.size w wr)) (fun _ _ _ i _=>n-(intOf i).toNat)
 case atStart=>exact⟨0,by omega,rfl,fun j hj=>absurd hj (by omega),Below.refl _ _⟩
 case round=>
  obtain⟨k,hk,rfl,HP,HB⟩:=hrel
  by_cases hlt:k<n
  ·obtain⟨b,off,rfl⟩:=h.addr (by omega)
   obtain⟨b2,off2,rfl⟩:=h2.addr (by omega)
   have I:=Zh (Mem.of HB.out)
   have hxW:=fun(W:World) (hb:Below w.heap.size w W)=>tcl_at (h.keep hb) hlt
   have hyW:=fun(W:World) (hb:Below w.heap.size w W)=>tcl_at (h2.keep hb) hlt
   have hc:=fun W=>hp.out (xs.getD k default) (ys.getD k default) W
   have hf:=hno.out k hlt
   have hnx:p (xs.getD k default) (ys.getD k default)=true→∀j,j<k+1→p (xs.getD j default) (ys.getD j default)=true:=fun h j hj=>by
    by_cases e:j=k
    ·subst e;exact h
    ·exact HP.out j (by omega)
   clear HB
   generalize xs.getD k default=x at*
   generalize ys.getD k default=y at*
   generalize p x y=pxy at*
   obtain⟨x0,x1,x2,x3,x4,x5⟩:=x
   obtain⟨y0,y1,y2,y3,y4,y5⟩:=y
   dsimp only at hxW hyW hc
   have r1:(k:Int)<(n:Int):=by omega
   have r0:(0:Int)≤(k:Int):=by omega
   refine zh5 ?_ hxW hyW hc hf hnx;clear hxW hyW hc hf hnx;intro hxW hyW hc hf hnx
   obtain⟨q0,q1,q2,q3,q4,q5⟩:=hxW.out _ I.below
   go_upto_region 6 with(first|(refine wpList_allocA I rfl 85 rfl (by first|exact msgInfo|exact edInfo|exact tabInfo|exact info_tcl|exact info_spt) ?_;clear I;intro g8 w1 I hG;clear hG)|(refine sF 0 I ?_;clear I;intro w4 I hG4;simp only[List.set]at I)|fail)
   clear q0 q1 q2 q3 q4 q5
   obtain⟨q0,q1,q2,q3,q4,q5⟩:=hyW.out _ I.below
   go_upto_region 7 with(first|(refine wpList_allocA I rfl 85 rfl (by first|exact msgInfo|exact edInfo|exact tabInfo|exact info_tcl|exact info_spt) ?_;clear I;intro g9 w1 I hG;clear hG)|(refine sF 0 I ?_;clear I;intro w4 I hG4;simp only[List.set]at I)|fail)
   clear q0 q1 q2 q3 q4 q5
   go_wp2_with(first|(refine lM 1 I uC.out ?_)|(refine lM 0 I uC.out ?_)|fail)
   refine(hc _).mono ?_
   rintro e w5 ⟨rfl,p_⟩
   have HB:=Zh (bthen I.below p_)
   clear p_ I
   cases pxy with
   |false=>
    have hh:=hf.out rfl
    subst hh
    go_wp2
    go_ret
    exact⟨rfl,HB.out⟩
   |true=>
    have hh:=Zh (hnx rfl)
    go_wp2
    go_roundw
    case rel=>exact⟨k+1,by omega,by go_num,hh,HB⟩
    case measure=>simp[intOf];omega
  ·obtain rfl:k=n:=by omega
   have hR:=hyes2.out HP.out
   subst hR
   go_wp2
   go_ret
   exact⟨rfl,HB.out⟩
theorem eqFnO_any(A B:Option Addr)(n cp m cq:Nat)(xs ys:List TCl)(w:World)(h:TclS w A n xs)(h2:TclS w B m ys):Calls Tryz.prog 82 #[.slice A n cp,.slice B m cq,.func (.func 109) #[] #[]] w fun e w'=>e= .returned (.bool (oppN xs ys))∧Below w.heap.size w w':=by
 have l1:=h.len
 have l2:=h2.len
 exact eqFnT_any 109 #[] oppC A B n cp m cq xs ys w eCo h h2 oppFn_any _ (fun e=>oppN_ne (by omega)) (fun k hk e=>oppN_no (by omega) e) (fun e hh=>oppN_yes (by omega) (fun i hi=>hh i (by omega)))
theorem paired_any(a b:Ed)(va vb:EdV)(w:World)(h1:EdIs w va a)(h2:EdIs w vb b):Calls Tryz.prog 108 #[.agg (endA a va),.agg (endA b vb)] w fun r w'=>r= .returned (.bool (pairB a b))∧Below w.heap.size w w':=by
 have I:=Zh (Mem.start w)
 obtain⟨F0,q_,J⟩:∃F:World→Prop,Stb F∧Hid (F w):=⟨_,Stb.true,trivial⟩
 have uE:=Tryz.underlying32
 have uT:=Tryz.underlying37
 have uM:=Tryz.underlying30
 have hR:pairB a b=(decide (chkE a=0)&&(decide (chkE b=0)&&(decide (a.node=b.peer)&&decide (a.peer=b.node)))):=rfl
 have cA:=fun W (hb:Below w.heap.size w W)=>chkE_any a va W (h1.keep hb)
 have cB:=fun W (hb:Below w.heap.size w W)=>chkE_any b vb W (h2.keep hb)
 generalize pairB a b=R at*
 generalize chkE a=C1 at*
 generalize chkE b=C2 at*
 refine zh8 ?_ cA cB h1 h2 hR uE uT uM;clear cA cB h1 h2 hR uE uT uM;intro cA cB h1 h2 hR uE uT uM
 go_enter Tryz.func108,Tryz.ntmps108
 have mk1:Unit:=()
 have mk2:Unit:=()
 go_upto_region 1 with(first|go_skip|(clear mk1;refine q_.b I J 32 ?_;clear I J;intro ga w1 I J)|(clear mk2;refine q_.b I J 32 ?_;clear I J;intro gb w1 I J)|fail)
 have p0:=Zc I 1 0 (.int .i64 a.node)
 have p1:=Zc I 1 1 (.int .i64 a.peer)
 have q0:=Zc I 0 0 (.int .i64 b.node)
 have q1:=Zc I 0 1 (.int .i64 b.peer)
 have mkz:Unit:=()
 by_cases e1:C1=0
 case neg=>
  have d1:(C1==0)=false:=by rw[beq_eq_false_iff_ne];exact e1
  have hh:R=false:=by rw[hR.out];simp[e1]
  subst hh
  replace e1:=Zh e1
  have mk3:Unit:=()
  have mk4:Unit:=()
  go_wp2_with(first|go_skip|(refine lG 1 I uE.out ?_)|(refine lG 0 I uE.out ?_)|(go_at_call 71;clear mk3;refine(cA _ I.below).mono ?_;rintro r w3 ⟨rfl,p_⟩;replace p0:=Zk I p_ 1 0 p0;replace p1:=Zk I p_ 1 1 p1;replace q0:=Zk I p_ 0 0 q0;replace q1:=Zk I p_ 0 1 q1;replace I:=Zm I p_;replace J:=q_.z J p_;clear p_;dsimp only)|(go_at_call 71;clear mk4;refine(cB _ I.below).mono ?_;rintro r w3 ⟨rfl,p_⟩;replace p0:=Zk I p_ 1 0 p0;replace p1:=Zk I p_ 1 1 p1;replace q0:=Zk I p_ 0 0 q0;replace q1:=Zk I p_ 0 1 q1;replace I:=Zm I p_;replace J:=q_.z J p_;clear p_;dsimp only)|fail)
  try simp only[Exit.inBlock,Exit.then]
  go_ret
  exact⟨by first|rfl|trivial,I.below⟩
 have d1:(C1==0)=true:=by rw[beq_iff_eq];exact e1
 by_cases e2:C2=0
 case neg=>
  have d2:(C2==0)=false:=by rw[beq_eq_false_iff_ne];exact e2
  have hh:R=false:=by rw[hR.out];simp[e2]
  subst hh
  replace e1:=Zh e1
  replace e2:=Zh e2
  have mk3:Unit:=()
  have mk4:Unit:=()
  go_wp2_with(first|go_skip|(refine lG 1 I uE.out ?_)|(refine lG 0 I uE.out ?_)|(go_at_call 71;clear mk3;refine(cA _ I.below).mono ?_;rintro r w3 ⟨rfl,p_⟩;replace p0:=Zk I p_ 1 0 p0;replace p1:=Zk I p_ 1 1 p1;replace q0:=Zk I p_ 0 0 q0;replace q1:=Zk I p_ 0 1 q1;replace I:=Zm I p_;replace J:=q_.z J p_;clear p_;dsimp only)|(go_at_call 71;clear mk4;refine(cB _ I.below).mono ?_;rintro r w3 ⟨rfl,p_⟩;replace p0:=Zk I p_ 1 0 p0;replace p1:=Zk I p_ 1 1 p1;replace q0:=Zk I p_ 0 0 q0;replace q1:=Zk I p_ 0 1 q1;replace I:=Zm I p_;replace J:=q_.z J p_;clear p_;dsimp only)|fail)
  try simp only[Exit.inBlock,Exit.then]
  go_ret
  exact⟨by first|rfl|trivial,I.below⟩
 have d2:(C2==0)=true:=by rw[beq_iff_eq];exact e2
 by_cases e3:a.node=b.peer
 case neg=>
  have d3:(a.node==b.peer)=false:=by rw[beq_eq_false_iff_ne];exact e3
  have hh:R=false:=by rw[hR.out];simp[e3]
  subst hh
  refine zh3 ?_ e1 e2 e3;clear e1 e2 e3;intro e1 e2 e3
  have mk3:Unit:=()
  have mk4:Unit:=()
  go_wp2_with(first|go_skip|(refine lG 1 I uE.out ?_)|(refine lG 0 I uE.out ?_)|(go_at_call 71;clear mk3;refine(cA _ I.below).mono ?_;rintro r w3 ⟨rfl,p_⟩;replace p0:=Zk I p_ 1 0 p0;replace p1:=Zk I p_ 1 1 p1;replace q0:=Zk I p_ 0 0 q0;replace q1:=Zk I p_ 0 1 q1;replace I:=Zm I p_;replace J:=q_.z J p_;clear p_;dsimp only)|(go_at_call 71;clear mk4;refine(cB _ I.below).mono ?_;rintro r w3 ⟨rfl,p_⟩;replace p0:=Zk I p_ 1 0 p0;replace p1:=Zk I p_ 1 1 p1;replace q0:=Zk I p_ 0 0 q0;replace q1:=Zk I p_ 0 1 q1;replace I:=Zm I p_;replace J:=q_.z J p_;clear p_;dsimp only)|fail)
  try simp only[Exit.inBlock,Exit.then]
  go_ret
  exact⟨by first|rfl|trivial,I.below⟩
 have d3:(a.node==b.peer)=true:=by rw[beq_iff_eq];exact e3
 by_cases e4:a.peer=b.node
 case neg=>
  have d4:(a.peer==b.node)=false:=by rw[beq_eq_false_iff_ne];exact e4
  have hh:R=false:=by rw[hR.out];simp[e4]
  subst hh
  refine zh4 ?_ e1 e2 e3 e4;clear e1 e2 e3 e4;intro e1 e2 e3 e4
  have mk3:Unit:=()
  have mk4:Unit:=()
  go_wp2_with(first|go_skip|(refine lG 1 I uE.out ?_)|(refine lG 0 I uE.out ?_)|(go_at_call 71;clear mk3;refine(cA _ I.below).mono ?_;rintro r w3 ⟨rfl,p_⟩;replace p0:=Zk I p_ 1 0 p0;replace p1:=Zk I p_ 1 1 p1;replace q0:=Zk I p_ 0 0 q0;replace q1:=Zk I p_ 0 1 q1;replace I:=Zm I p_;replace J:=q_.z J p_;clear p_;dsimp only)|(go_at_call 71;clear mk4;refine(cB _ I.below).mono ?_;rintro r w3 ⟨rfl,p_⟩;replace p0:=Zk I p_ 1 0 p0;replace p1:=Zk I p_ 1 1 p1;replace q0:=Zk I p_ 0 0 q0;replace q1:=Zk I p_ 0 1 q1;replace I:=Zm I p_;replace J:=q_.z J p_;clear p_;dsimp only)|fail)
  try simp only[Exit.inBlock,Exit.then]
  go_ret
  exact⟨by first|rfl|trivial,I.below⟩
 have d4:(a.peer==b.node)=true:=by rw[beq_iff_eq];exact e4
 have hh:R=true:=by rw[hR.out];simp[e1,e2,e3,e4]
 subst hh
 refine zh4 ?_ e1 e2 e3 e4;clear e1 e2 e3 e4;intro e1 e2 e3 e4
 have mk3:Unit:=()
 have mk4:Unit:=()
 go_wp2_with(first|go_skip|(refine lG 1 I uE.out ?_)|(refine lG 0 I uE.out ?_)|(go_at_call 71;clear mk3;refine(cA _ I.below).mono ?_;rintro r w3 ⟨rfl,p_⟩;replace p0:=Zk I p_ 1 0 p0;replace p1:=Zk I p_ 1 1 p1;replace q0:=Zk I p_ 0 0 q0;replace q1:=Zk I p_ 0 1 q1;replace I:=Zm I p_;replace J:=q_.z J p_;clear p_;dsimp only)|(go_at_call 71;clear mk4;refine(cB _ I.below).mono ?_;rintro r w3 ⟨rfl,p_⟩;replace p0:=Zk I p_ 1 0 p0;replace p1:=Zk I p_ 1 1 p1;replace q0:=Zk I p_ 0 0 q0;replace q1:=Zk I p_ 0 1 q1;replace I:=Zm I p_;replace J:=q_.z J p_;clear p_;dsimp only)|fail)
 try simp only[Exit.inBlock,Exit.then]
 go_ret
 exact⟨by first|rfl|trivial,I.below⟩
theorem consP_any(a b:Ed)(va vb:EdV)(w:World)(h1:EdIs w va a)(h2:EdIs w vb b):Calls Tryz.prog 39 #[.agg (endA a va),.agg (endA b vb)] w fun r w'=>r= .returned (.bool (consB a b))∧Below w.heap.size w w':=by
 have I:=Zh (Mem.start w)
 obtain⟨F0,q_,J⟩:∃F:World→Prop,Stb F∧Hid (F w):=⟨_,Stb.true,trivial⟩
 have uE:=Tryz.underlying32
 have uT:=Tryz.underlying37
 have uM:=Tryz.underlying30
 have hR:consB a b=(pairB a b&&(decide (a.number=b.number)&&oppN a.cells b.cells)):=rfl
 have cP:=fun W (hb:Below w.heap.size w W)=>paired_any a b va vb W (h1.keep hb) (h2.keep hb)
 have cO:=fun W (hb:Below w.heap.size w W)=>eqFnO_any va.cA vb.cA va.cn va.cc vb.cn vb.cc a.cells b.cells W (h1.cells.keep hb) (h2.cells.keep hb)
 generalize oppN a.cells b.cells=OB at*
 generalize consB a b=R at*
 generalize pairB a b=PB at*
 refine zh8 ?_ cP h1 h2 hR uE uT uM cO;clear cP h1 h2 hR uE uT uM cO;intro cP h1 h2 hR uE uT uM cO
 go_enter Tryz.func39,Tryz.ntmps39
 have mk1:Unit:=()
 have mk2:Unit:=()
 go_upto_region 1 with(first|go_skip|(clear mk1;refine q_.b I J 32 ?_;clear I J;intro ga w1 I J)|(clear mk2;refine q_.b I J 32 ?_;clear I J;intro gb w1 I J)|fail)
 have p2:=Zc I 1 2 (.int .i64 a.number)
 have q2:=Zc I 0 2 (.int .i64 b.number)
 have p3:=Zc I 1 3 (.slice va.cA va.cn va.cc)
 have q3:=Zc I 0 3 (.slice vb.cA vb.cn vb.cc)
 cases PB
 case false=>
  have hh:R=false:=by rw[hR.out];simp[]
  subst hh
  have mk3:Unit:=()
  have mk4:Unit:=()
  go_wp2_with(first|go_skip|(refine lG 1 I uE.out ?_)|(refine lG 0 I uE.out ?_)|(go_at_call 108;clear mk3;refine(cP _ I.below).mono ?_;rintro r w3 ⟨rfl,p_⟩;replace p2:=Zk I p_ 1 2 p2;replace q2:=Zk I p_ 0 2 q2;replace p3:=Zk I p_ 1 3 p3;replace q3:=Zk I p_ 0 3 q3;replace I:=Zm I p_;replace J:=q_.z J p_;clear p_;dsimp only)|(go_at_call 82;clear mk4;refine(cO _ I.below).mono ?_;rintro r w3 ⟨rfl,p_⟩;clear p2 q2 p3 q3;replace I:=Zm I p_;replace J:=q_.z J p_;clear p_;dsimp only)|fail)
  try simp only[Exit.inBlock,Exit.then]
  go_ret
  exact⟨by first|rfl|trivial,I.below⟩
 by_cases e2:a.number=b.number
 case neg=>
  have d2:(a.number==b.number)=false:=by rw[beq_eq_false_iff_ne];exact e2
  have hh:R=false:=by rw[hR.out];simp[e2]
  subst hh
  replace e2:=Zh e2
  have mk3:Unit:=()
  have mk4:Unit:=()
  go_wp2_with(first|go_skip|(refine lG 1 I uE.out ?_)|(refine lG 0 I uE.out ?_)|(go_at_call 108;clear mk3;refine(cP _ I.below).mono ?_;rintro r w3 ⟨rfl,p_⟩;replace p2:=Zk I p_ 1 2 p2;replace q2:=Zk I p_ 0 2 q2;replace p3:=Zk I p_ 1 3 p3;replace q3:=Zk I p_ 0 3 q3;replace I:=Zm I p_;replace J:=q_.z J p_;clear p_;dsimp only)|(go_at_call 82;clear mk4;refine(cO _ I.below).mono ?_;rintro r w3 ⟨rfl,p_⟩;clear p2 q2 p3 q3;replace I:=Zm I p_;replace J:=q_.z J p_;clear p_;dsimp only)|fail)
  try simp only[Exit.inBlock,Exit.then]
  go_ret
  exact⟨by first|rfl|trivial,I.below⟩
 have d2:(a.number==b.number)=true:=by rw[beq_iff_eq];exact e2
 have hh:R=OB:=by rw[hR.out];simp[e2]
 subst hh
 replace e2:=Zh e2
 have mk3:Unit:=()
 have mk4:Unit:=()
 go_wp2_with(first|go_skip|(refine lG 1 I uE.out ?_)|(refine lG 0 I uE.out ?_)|(go_at_call 108;clear mk3;refine(cP _ I.below).mono ?_;rintro r w3 ⟨rfl,p_⟩;replace p2:=Zk I p_ 1 2 p2;replace q2:=Zk I p_ 0 2 q2;replace p3:=Zk I p_ 1 3 p3;replace q3:=Zk I p_ 0 3 q3;replace I:=Zm I p_;replace J:=q_.z J p_;clear p_;dsimp only)|(go_at_call 82;clear mk4;refine(cO _ I.below).mono ?_;rintro r w3 ⟨rfl,p_⟩;clear p2 q2 p3 q3;replace I:=Zm I p_;replace J:=q_.z J p_;clear p_;dsimp only)|fail)
 try simp only[Exit.inBlock,Exit.then]
 go_ret
 exact⟨by first|rfl|trivial,I.below⟩
end Tx
end Go.Proofs.YtfamifgchgolpaaGreat
