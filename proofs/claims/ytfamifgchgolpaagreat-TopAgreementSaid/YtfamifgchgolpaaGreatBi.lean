/- Chapters 16, 25: small functions of the references. -/
import Derived.Test.YtfamifgchgolpaaGreatBh
import Derived.StillTailTactics
set_option linter.unusedVariables false
set_option linter.unusedSimpArgs false
set_option maxRecDepth 100000
set_option maxHeartbeats 4000000
namespace Go.Proofs.YtfamifgchgolpaaGreat
open Go Go.RowKit Go.Sort Go.Lib Go.Shelf Go.Maps
namespace Tx
open Sw Mm
theorem ltT_split(a b:TCl):decide (ltT a b)=(decide (a.slot<b.slot)||(decide (a.slot=b.slot)&&decide (a.kind<b.kind))):=by
 rw[Bool.eq_iff_iff,decide_eq_true_iff]
 unfold ltT
 simp
theorem less_any(a b:TCl)(w:World):Calls Tryz.prog 178 #[.agg #[.int .i64 a.slot,.int .i64 a.off,.int .i64 a.kind,.bool a.send,.int .i64 a.peer,.int .i64 a.flow],.agg #[.int .i64 b.slot,.int .i64 b.off,.int .i64 b.kind,.bool b.send,.int .i64 b.peer,.int .i64 b.flow]] w fun e w'=>e= .returned (.bool (decide (ltT a b)))∧Below w.heap.size w w':=by
 have I:=Zh (Mem.start w)
 have hR:=ltT_split a b
 generalize decide (ltT a b)=R at*
 obtain⟨a0,a1,a2,a3,a4,a5⟩:=a
 obtain⟨b0,b1,b2,b3,b4,b5⟩:=b
 dsimp only at*
 subst hR
 go_enter Tryz.func178,Tryz.ntmps178
 go_upto_region 1 with(refine bA I _ ?_;clear I;intro g w1 I hG;clear hG)
 have kb:=I.cell 0 rfl
 have ka:=I.cell 1 rfl
 go_wp2
 all_goals
  go_ret
  exact⟨by first|(simp[*];done)|(simp[*];omega)|(simp[*,intB];done)|(simp[*,intB];omega)|(simp[*,bne,intB];done),I.below⟩
theorem sameT_any(A B:Option Addr)(n cp m cq:Nat)(xs ys:List TCl)(w:World)(h:TclS w A n xs)(h2:TclS w B m ys):
 Calls Tryz.prog 70 #[.slice A n cp,.slice B m cq] w fun e w'=>e= .returned (.bool (decide (xs=ys)))∧Below w.heap.size w w':=by
 have hlen:=h.len
 have hlen2:=h2.len
 have hs:=h.small
 unfold maxLen at hs
 have hne:n≠m→decide (xs=ys)=false:=fun e=>decide_eq_false fun h=>e (by rw[←hlen,←hlen2,h])
 have hhit:∀k,eqT (xs.getD k default) (ys.getD k default)=false→decide (xs=ys)=false:=fun k e=>decide_eq_false fun h=>by
  rw[h]at e;unfold eqT at e;simp at e
 have hall:n=m→(∀k,k<n→eqT (xs.getD k default) (ys.getD k default)=true)→decide (xs=ys)=true:=fun e h=>decide_eq_true (list_eq_getD hlen (by omega) fun j hj=>by
  have:=h j hj;unfold eqT at this;simpa using this)
 generalize decide (xs=ys)=R at*
 have ke:=fun a b W=>neq_tcl a b W
 generalize eqT=E at*
 refine zh8 ?_ h h2 hlen hlen2 hne hhit hall ke;clear h h2 hlen hlen2 hne hhit hall ke;intro h h2 hlen hlen2 hne hhit hall ke
 go_enter Tryz.func70,Tryz.ntmps70
 by_cases hnm:n=m
 case neg=>
  have d1:((n:Int) !=(m:Int))=true:=by rw[bne_iff_ne];omega
  have hR:=Zh (hne hnm)
  go_wp2
  all_goals
   go_ret
   exact⟨by rw[hR.out];rfl,Below.refl _ _⟩
 subst hnm
 go_wp2_with fail
 go_loopw[5] (fun i wr=>∃k:Nat,k≤n∧i= .int .i64 k∧Hid (∀j,j<k→E (xs.getD j default) (ys.getD j default)=true)∧Hid (Below w.heap.size w wr)) (fun i _=>n-(intOf i).toNat)
 case atStart=>exact⟨0,by omega,rfl,fun j hj=>by omega,Below.refl _ _⟩
 case round=>
  obtain⟨k,hk,rfl,HP,HB⟩:=hrel
  by_cases hlt:k<n
  ·obtain⟨b,off,rfl⟩:=h.addr (by omega)
   obtain⟨b2,off2,rfl⟩:=h2.addr (by omega)
   have hx:=tcl_at (h.keep HB.out) hlt
   have hy:=tcl_at (h2.keep HB.out) hlt
   have kx:=ke.out (xs.getD k default) (ys.getD k default)
   have hh:=hhit.out k
   have hnx:E (xs.getD k default) (ys.getD k default)=true→∀j,j<k+1→E (xs.getD j default) (ys.getD j default)=true:=fun h j hj=>by
    by_cases e:j=k
    ·subst e;exact h
    ·exact HP.out j (by omega)
   generalize E (xs.getD k default) (ys.getD k default)=Q at*
   generalize xs.getD k default=x at*
   generalize ys.getD k default=y at*
   obtain⟨x0,x1,x2,x3,x4,x5⟩:=x
   obtain⟨y0,y1,y2,y3,y4,y5⟩:=y
   obtain⟨q0,q1,q2,q3,q4,q5⟩:=hx
   obtain⟨r0,r1,r2,r3,r4,r5⟩:=hy
   dsimp only at q0 r0 q1 r1 q2 r2 q3 r3 q4 r4 q5 r5 kx
   have g0:=cell_regrown q0
   have u0:=cell_regrown r0
   have g1:=cell_regrown q1
   have u1:=cell_regrown r1
   have g2:=cell_regrown q2
   have u2:=cell_regrown r2
   have g3:=cell_regrown q3
   have u3:=cell_regrown r3
   have g4:=cell_regrown q4
   have u4:=cell_regrown r4
   have g5:=cell_regrown q5
   have u5:=cell_regrown r5
   have r1:(k:Int)<(n:Int):=by omega
   clear q0 r0 q1 r1 q2 r2 q3 r3 q4 r4 q5 r5
   replace hh:=Zh hh
   replace hnx:=Zh hnx
   cases Q with
   |false=>
    have hR:=Zh (hh rfl)
    go_wp2_with fail
    refine wp_region_quiet_below (by kernel_rfl) (by kernel_rfl) ?_
    repeat(go_big_quiet_step(fail))
    refine wpQuiet_nil ?_
    rintro _ ⟨⟨dq,osq⟩,rfl⟩
    have p_:=below_regrown wr dq osq
    replace HB:=Zh (HB.keep p_)
    generalize grow (redrawn wr dq) osq=w2 at*
    clear p_
    go_wp2
    go_ret
    exact⟨by rw[hR.out];rfl,HB.out⟩
   |true=>
    have hP2:=Zh (hnx rfl)
    go_wp2_with fail
    refine wp_region_quiet_below (by kernel_rfl) (by kernel_rfl) ?_
    repeat(go_big_quiet_step(fail))
    refine wpQuiet_nil ?_
    rintro _ ⟨⟨dq,osq⟩,rfl⟩
    have p_:=below_regrown wr dq osq
    replace HB:=Zh (HB.keep p_)
    generalize grow (redrawn wr dq) osq=w2 at*
    clear p_
    go_wp2
    go_roundw
    case rel=>exact⟨k+1,by omega,by go_num,hP2,HB⟩
    case measure=>simp[intOf];omega
  ·obtain rfl:k=n:=by omega
   have hR:=Zh (hall (by first|rfl|trivial) HP.out)
   go_wp2
   go_ret
   exact⟨by rw[hR.out];rfl,HB.out⟩
theorem upTo_any(A B:Option Addr)(n cp m cq:Nat)(xs ys:List Spt)(w:World)(h:SptS w A n xs)(h2:SptS w B m ys)(hnm:n=m):
 Calls Tryz.prog 125 #[.slice A n cp,.slice B m cq] w fun e w'=>e= .returned (.bool (decide (xs=ys)))∧Below w.heap.size w w':=by
 have hlen:=h.len
 have hlen2:=h2.len
 have hs:=h.small
 unfold maxLen at hs
 have hne:n≠m→decide (xs=ys)=false:=fun e=>decide_eq_false fun h=>e (by rw[←hlen,←hlen2,h])
 have hhit:∀k,eqS (xs.getD k default) (ys.getD k default)=false→decide (xs=ys)=false:=fun k e=>decide_eq_false fun h=>by
  rw[h]at e;unfold eqS at e;simp at e
 have hall:n=m→(∀k,k<n→eqS (xs.getD k default) (ys.getD k default)=true)→decide (xs=ys)=true:=fun e h=>decide_eq_true (list_eq_getD hlen (by omega) fun j hj=>by
  have:=h j hj;unfold eqS at this;simpa using this)
 generalize decide (xs=ys)=R at*
 have ke:=fun a b W=>neq_spt a b W
 generalize eqS=E at*
 refine zh8 ?_ h h2 hlen hlen2 hne hhit hall ke;clear h h2 hlen hlen2 hne hhit hall ke;intro h h2 hlen hlen2 hne hhit hall ke
 go_enter Tryz.func125,Tryz.ntmps125
 subst hnm
 go_wp2_with fail
 go_loopw[5] (fun i wr=>∃k:Nat,k≤n∧i= .int .i64 k∧Hid (∀j,j<k→E (xs.getD j default) (ys.getD j default)=true)∧Hid (Below w.heap.size w wr)) (fun i _=>n-(intOf i).toNat)
 case atStart=>exact⟨0,by omega,rfl,fun j hj=>by omega,Below.refl _ _⟩
 case round=>
  obtain⟨k,hk,rfl,HP,HB⟩:=hrel
  by_cases hlt:k<n
  ·obtain⟨b,off,rfl⟩:=h.addr (by omega)
   obtain⟨b2,off2,rfl⟩:=h2.addr (by omega)
   have hx:=spt_at (h.keep HB.out) hlt
   have hy:=spt_at (h2.keep HB.out) hlt
   have kx:=ke.out (xs.getD k default) (ys.getD k default)
   have hh:=hhit.out k
   have hnx:E (xs.getD k default) (ys.getD k default)=true→∀j,j<k+1→E (xs.getD j default) (ys.getD j default)=true:=fun h j hj=>by
    by_cases e:j=k
    ·subst e;exact h
    ·exact HP.out j (by omega)
   generalize E (xs.getD k default) (ys.getD k default)=Q at*
   generalize xs.getD k default=x at*
   generalize ys.getD k default=y at*
   obtain⟨x0,x1⟩:=x
   obtain⟨y0,y1⟩:=y
   obtain⟨q0,q1⟩:=hx
   obtain⟨r0,r1⟩:=hy
   dsimp only at q0 r0 q1 r1 kx
   have g0:=cell_regrown q0
   have u0:=cell_regrown r0
   have g1:=cell_regrown q1
   have u1:=cell_regrown r1
   have r1:(k:Int)<(n:Int):=by omega
   clear q0 r0 q1 r1
   replace hh:=Zh hh
   replace hnx:=Zh hnx
   cases Q with
   |false=>
    have hR:=Zh (hh rfl)
    go_wp2_with fail
    refine wp_region_quiet_below (by kernel_rfl) (by kernel_rfl) ?_
    repeat(go_big_quiet_step(fail))
    refine wpQuiet_nil ?_
    rintro _ ⟨⟨dq,osq⟩,rfl⟩
    have p_:=below_regrown wr dq osq
    replace HB:=Zh (HB.keep p_)
    generalize grow (redrawn wr dq) osq=w2 at*
    clear p_
    go_wp2
    go_ret
    exact⟨by rw[hR.out];rfl,HB.out⟩
   |true=>
    have hP2:=Zh (hnx rfl)
    go_wp2_with fail
    refine wp_region_quiet_below (by kernel_rfl) (by kernel_rfl) ?_
    repeat(go_big_quiet_step(fail))
    refine wpQuiet_nil ?_
    rintro _ ⟨⟨dq,osq⟩,rfl⟩
    have p_:=below_regrown wr dq osq
    replace HB:=Zh (HB.keep p_)
    generalize grow (redrawn wr dq) osq=w2 at*
    clear p_
    go_wp2
    go_roundw
    case rel=>exact⟨k+1,by omega,by go_num,hP2,HB⟩
    case measure=>simp[intOf];omega
  ·obtain rfl:k=n:=by omega
   have hR:=Zh (hall (by first|rfl|trivial) HP.out)
   go_wp2
   go_ret
   exact⟨by rw[hR.out];rfl,HB.out⟩
theorem sameS_any(A B:Option Addr)(n cp m cq:Nat)(xs ys:List Spt)(w:World)(h:SptS w A n xs)(h2:SptS w B m ys):
 Calls Tryz.prog 57 #[.slice A n cp,.slice B m cq] w fun e w'=>e= .returned (.bool (decide (xs=ys)))∧Below w.heap.size w w':=by
 have hne:n≠m→decide (xs=ys)=false:=fun e=>decide_eq_false fun k=>e (by rw[←h.len,←h2.len,k])
 have cU:=fun e=>upTo_any A B n cp m cq xs ys w h h2 e
 generalize decide (xs=ys)=R at*
 by_cases hnm:n=m
 ·have cU2:=cU hnm
  subst hnm
  refine zh5 ?_ h h2 hne cU cU2;clear h h2 hne cU cU2;intro h h2 hne cU cU2
  go_enter Tryz.func57,Tryz.ntmps57
  go_wp2_with fail
  refine cU2.mono ?_
  rintro e w1 ⟨rfl,p_⟩
  replace p_:=Zh p_
  go_wp2
  go_ret
  exact⟨rfl,p_.out⟩
 ·have d1:((n:Int)==(m:Int))=false:=by rw[beq_eq_false_iff_ne];omega
  have hR:=Zh (hne hnm)
  refine zh4 ?_ h h2 hne cU;clear h h2 hne cU;intro h h2 hne cU
  go_enter Tryz.func57,Tryz.ntmps57
  go_wp2
  go_ret
  exact⟨by rw[hR.out];rfl,Below.refl _ _⟩
theorem sameM_split(a b:Msg):decide (a=b)=(a.kind==b.kind&&(a.reply==b.reply&&(a.number==b.number&&(a.code==b.code&&(a.count==b.count&&(decide (a.spots=b.spots)&&decide (a.old=b.old))))))):=by
 obtain⟨a0,a1,a2,a3,a4,a5,a6⟩:=a
 obtain⟨b0,b1,b2,b3,b4,b5,b6⟩:=b
 rw[Bool.eq_iff_iff]
 simp
theorem sameM_any(a b:Msg)(va vb:MsgV)(w:World)(h1:MsgIs w va a)(h2:MsgIs w vb b):Calls Tryz.prog 14 #[.agg (Km a va),.agg (Km b vb)] w fun e w'=>e= .returned (.bool (decide (a=b)))∧Below w.heap.size w w':=by
 have I:=Zh (Mem.start w)
 have hR:=sameM_split a b
 have cS:=fun W (hb:Below w.heap.size w W)=>sameS_any va.sA vb.sA va.sn va.sc vb.sn vb.sc a.spots b.spots W (h1.spots.keep hb) (h2.spots.keep hb)
 have cO:=fun W (hb:Below w.heap.size w W)=>sameS_any va.oA vb.oA va.on va.oc vb.on vb.oc a.old b.old W (h1.old.keep hb) (h2.old.keep hb)
 generalize decide (a=b)=R at*
 generalize decide (a.spots=b.spots)=D1 at*
 generalize decide (a.old=b.old)=D2 at*
 obtain⟨k0,r0,n0,c0,t0,s0,o0⟩:=a
 obtain⟨k1,r1,n1,c1,t1,s1,o1⟩:=b
 dsimp only at*
 refine zh5 ?_ cS cO h1 h2 hR;clear cS cO h1 h2 hR;intro cS cO h1 h2 hR
 go_enter Tryz.func14,Tryz.ntmps14
 go_upto_region 1 with(refine bA I _ ?_;clear I;intro g w1 I hG;clear hG)
 have kb:=I.cell 0 rfl
 have ka:=I.cell 1 rfl
 go_wp2_with(first
  |(go_at_call 57;refine(cS _ I.below).mono ?_;rintro e w3 ⟨rfl,p_⟩;have HM2:=Zm I p_;clear I p_ ka kb cS;have I:=HM2;clear HM2;have ka:=I.cell 1 rfl;have kb:=I.cell 0 rfl)
  |(go_at_call 57;refine(cO _ I.below).mono ?_;rintro e w4 ⟨rfl,p_⟩;have HM2:=Zm I p_;clear I p_ ka kb cO;have I:=HM2;clear HM2;have ka:=I.cell 1 rfl;have kb:=I.cell 0 rfl)
  |fail)
 all_goals
  go_ret
  exact⟨by rw[hR.out];first|(simp[*];done)|(simp[*];omega)|(simp[*,intB];done)|(simp[*,intB];omega)|(simp[*,bne,intB];done),I.below⟩
theorem equalM_any(a b:Msg)(va vb:MsgV)(w:World)(h1:MsgIs w va a)(h2:MsgIs w vb b):Calls Tryz.prog 61 #[.agg (Km a va),.agg (Km b vb)] w fun e w'=>e= .returned (.bool (decide (a=b)))∧Below w.heap.size w w':=by
 have I:=Zh (Mem.start w)
 have hR:=sameM_split a b
 have cS:=fun W (hb:Below w.heap.size w W)=>equalS_any va.sA vb.sA va.sn vb.sn va.sc vb.sc a.spots b.spots W (h1.spots.keep hb) (h2.spots.keep hb)
 have cO:=fun W (hb:Below w.heap.size w W)=>equalS_any va.oA vb.oA va.on vb.on va.oc vb.oc a.old b.old W (h1.old.keep hb) (h2.old.keep hb)
 generalize decide (a=b)=R at*
 generalize decide (a.spots=b.spots)=D1 at*
 generalize decide (a.old=b.old)=D2 at*
 obtain⟨k0,r0,n0,c0,t0,s0,o0⟩:=a
 obtain⟨k1,r1,n1,c1,t1,s1,o1⟩:=b
 dsimp only at*
 refine zh5 ?_ cS cO h1 h2 hR;clear cS cO h1 h2 hR;intro cS cO h1 h2 hR
 go_enter Tryz.func61,Tryz.ntmps61
 go_upto_region 1 with(refine bA I _ ?_;clear I;intro g w1 I hG;clear hG)
 have kb:=I.cell 0 rfl
 have ka:=I.cell 1 rfl
 go_wp2_with(first
  |(go_at_call 75;refine(cS _ I.below).mono ?_;rintro e w3 ⟨rfl,p_⟩;have HM2:=Zm I p_;clear I p_ ka kb cS;have I:=HM2;clear HM2;have ka:=I.cell 1 rfl;have kb:=I.cell 0 rfl)
  |(go_at_call 75;refine(cO _ I.below).mono ?_;rintro e w4 ⟨rfl,p_⟩;have HM2:=Zm I p_;clear I p_ ka kb cO;have I:=HM2;clear HM2;have ka:=I.cell 1 rfl;have kb:=I.cell 0 rfl)
  |fail)
 all_goals
  go_ret
  exact⟨by rw[hR.out];first|(simp[*];done)|(simp[*];omega)|(simp[*,intB];done)|(simp[*,intB];omega)|(simp[*,bne,intB];done),I.below⟩
def fewM(m:Msg):Bool:=decide ((m.spots.length:Int)≤12)&&decide ((m.old.length:Int)≤12)
theorem fewM_any(m:Msg)(v:MsgV)(w:World)(h:MsgIs w v m):Calls Tryz.prog 143 #[.agg (Km m v)] w fun e w'=>e= .returned (.bool (fewM m))∧Below w.heap.size w w':=by
 have I:=(Mem.start w).alloc (Km m v) 30
 have kx:=I.cell 0 rfl
 unfold fewM
 rw[h.spots.len,h.old.len]
 replace I:=Zh I
 replace h:=Zh h
 go_enter Tryz.func143,Tryz.ntmps143
 go_wp2
 all_goals
  go_ret
  exact⟨by first|(simp[*];done)|(simp[*];omega)|(simp[*,intB];done)|(simp[*,intB];omega)|(simp[*,bne,intB];done),I.below⟩
def cmpI(x y:Int):Int:=if x<y then -1 else if y<x then 1 else 0
theorem cmp_any(x y:Int)(w:World):Calls Tryz.prog 142 #[.int .i64 x,.int .i64 y] w fun e w'=>e= .returned (.int .i64 (cmpI x y))∧w'=w:=by
 have key:(x<y∧cmpI x y= -1)∨(y<x∧cmpI x y=1)∨(x=y∧cmpI x y=0):=by
  unfold cmpI
  rcases Int.lt_trichotomy x y with h|h|h
  ·exact .inl ⟨h,if_pos h⟩
  ·exact .inr (.inr ⟨h,by rw[if_neg (by omega),if_neg (by omega)]⟩)
  ·exact .inr (.inl ⟨h,by rw[if_neg (by omega),if_pos h]⟩)
 rcases key with⟨h,e⟩|⟨h,e⟩|⟨rfl,e⟩
 all_goals
  replace e:=Zh e
  go_enter Tryz.func142,Tryz.ntmps142
  go_wp2
  go_ret
  exact⟨by rw[e.out];rfl,rfl⟩
def orI(x y:Int):Int:=if x=0 then y else x
theorem or_any(x y:Int)(b:Nat)(w:World)(h0:w.cell? ⟨b,0,none⟩=some (.int .i64 x))(h1:w.cell? ⟨b,1,none⟩=some (.int .i64 y)):
 Calls Tryz.prog 141 #[.slice (some ⟨b,0,none⟩) 2 2] w fun e w'=>e= .returned (.int .i64 (orI x y))∧w=w':=by
 by_cases hx:x=0
 ·have e:Hid (orI x y=y):=if_pos hx
  have hx':(x !=0)=false:=by rw[hx];rfl
  replace hx:=Zh hx
  by_cases hy:y=0
  ·have hy':(y !=0)=false:=by rw[hy];rfl
   replace hy:=Zh hy
   go_enter Tryz.func141,Tryz.ntmps141
   go_wp2
   refine wp_loop_rounds 3 ?_
   rw[rounds_succ]
   go_wp2
   rw[rounds_succ]
   go_wp2
   rw[rounds_succ]
   go_wp2
   go_ret
   exact⟨by rw[e.out,hy.out];rfl,rfl⟩
  ·have hy':(y !=0)=true:=by rw[bne_iff_ne];exact hy
   replace hy:=Zh hy
   go_enter Tryz.func141,Tryz.ntmps141
   go_wp2
   refine wp_loop_rounds 3 ?_
   rw[rounds_succ]
   go_wp2
   rw[rounds_succ]
   go_wp2
   go_ret
   exact⟨by rw[e.out];rfl,rfl⟩
 ·have e:Hid (orI x y=x):=if_neg hx
  have hx':(x !=0)=true:=by rw[bne_iff_ne];exact hx
  replace hx:=Zh hx
  go_enter Tryz.func141,Tryz.ntmps141
  go_wp2
  refine wp_loop_rounds 3 ?_
  rw[rounds_succ]
  go_wp2
  go_ret
  exact⟨by rw[e.out];rfl,rfl⟩
theorem wp_still_tail {P:Program} {id:Nat} {Q:Exit→Act→World→Prop} {a:Act} {w:World} {l:List Oper}(n:Nat)(hm:P.follows .mixedOrders=true)(hB:Region.lexTailB .any l.toArray n=true)
 (h:wpStill P l.toArray w.drew (fun a'=>wpList P l.toArray Q (l.drop n) a' w.drew) (l.take n) a):(Code.region id l.toArray true).wp P Q a w:=
 wp_region_still_tail n hm hB h
def cmpT(a b:TCl):Int:=orI (cmpI a.slot b.slot) (cmpI a.kind b.kind)
theorem cmpT_any(a b:TCl)(w:World):Calls Tryz.prog 81 #[.agg #[.int .i64 a.slot,.int .i64 a.off,.int .i64 a.kind,.bool a.send,.int .i64 a.peer,.int .i64 a.flow],.agg #[.int .i64 b.slot,.int .i64 b.off,.int .i64 b.kind,.bool b.send,.int .i64 b.peer,.int .i64 b.flow]] w fun e w'=>e= .returned (.int .i64 (cmpT a b))∧Below w.heap.size w w':=by
 have I:=Zh (Mem.start w)
 obtain⟨a0,a1,a2,a3,a4,a5⟩:=a
 obtain⟨b0,b1,b2,b3,b4,b5⟩:=b
 dsimp only at*
 go_enter Tryz.func81,Tryz.ntmps81
 go_upto_region 1 with(refine bA I _ ?_;clear I;intro g w1 I hG;clear hG)
 have kb:=I.cell 0 rfl
 have ka:=I.cell 1 rfl
 refine wp_still_tail 10 (by kernel_rfl) (by kernel_rfl) ?_
 simp only[List.take_succ_cons,List.take_zero,List.drop_succ_cons,List.drop_zero]
 repeat(first|still_step|still_call (cmp_any _ _ _))
 refine wpStill_nil ?_
 go_wp2_with fail
 refine(or_any (cmpI a0 b0) (cmpI a2 b2) _ _ (by simp) (by simp)).mono ?_
 rintro e w2 ⟨rfl,rfl⟩
 go_wp2
 go_ret
 exact⟨rfl,(ballN I.below _).drew⟩
theorem cmpT_neg(a b:TCl):cmpT a b<0↔ltT a b:=by
 unfold cmpT orI cmpI ltT
 by_cases h1:a.slot<b.slot
 ·simp[h1]
 ·by_cases h2:b.slot<a.slot
  ·simp[h1,h2];omega
  ·simp only[h1,h2,if_false,if_true]
   by_cases h3:a.kind<b.kind
   ·simp[h3];omega
   ·by_cases h4:b.kind<a.kind
    ·simp[h3,h4]
    ·simp[h3,h4]
theorem cmpT_zero(a b:TCl):cmpT a b=0↔a.slot=b.slot∧a.kind=b.kind:=by
 unfold cmpT orI cmpI
 by_cases h1:a.slot<b.slot
 ·simp[h1];omega
 ·by_cases h2:b.slot<a.slot
  ·simp[h1,h2];omega
  ·simp only[h1,h2,if_false,if_true]
   by_cases h3:a.kind<b.kind
   ·simp[h3];omega
   ·by_cases h4:b.kind<a.kind
    ·simp[h3,h4];omega
    ·simp[h3,h4];omega
theorem form_any(c:TCl)(self len:Int)(w:World):Calls Tryz.prog 80 #[.agg #[.int .i64 c.slot,.int .i64 c.off,.int .i64 c.kind,.bool c.send,.int .i64 c.peer,.int .i64 c.flow],.int .i64 self,.int .i64 len] w fun e w'=>e= .returned (.int .i64 (formN c self len))∧Below w.heap.size w w':=by
 have I:=Zh (Mem.start w)
 have hR:formN c self len=formN c self len:=rfl
 conv at hR=>rhs;unfold formN
 generalize formN c self len=R at*
 have cN:=fun n W=>node_any n W
 have hW:withB c.peer 31=true↔0≤c.peer∧c.peer≤31:=by unfold withB;simp
 obtain⟨c0,c1,c2,c3,c4,c5⟩:=c
 dsimp only at*
 replace cN:=cN c4
 generalize withB c4 31=W31 at*
 have hk:c2=1∨c2=2∨c2=3∨(c2≠1∧c2≠2∧c2≠3):=by omega
 replace cN:=Zh cN
 rcases hk with rfl|rfl|rfl|⟨n1,n2,n3⟩
 case inr.inr.inr=>
  have d1:(c2==1)=false:=by simpa using n1
  have d2:(c2 !=2)=true:=by simpa using n2
  have d3:(c2==3)=false:=by simpa using n3
  rw[if_pos (by omega)]at hR
  refine zh5 ?_ hR n1 n2 n3 hW;clear hR n1 n2 n3 hW;intro hR n1 n2 n3 hW
  go_enter Tryz.func80,Tryz.ntmps80
  go_upto_region 1 with(refine bA I _ ?_;clear I;intro g w1 I hG;clear hG)
  have kb:=I.cell 0 rfl
  go_wp2
  go_ret
  exact⟨by rw[hR.out];rfl,I.below⟩
 all_goals
  cases c3<;>cases W31
  all_goals
   simp at hR hW
   replace hR:=Zh hR
   replace hW:=Zh hW
   go_enter Tryz.func80,Tryz.ntmps80
   go_upto_region 1 with(refine bA I _ ?_;clear I;intro g w1 I hG;clear hG)
   have kb:=I.cell 0 rfl
   go_wp2_with(first|(go_at_call 79;refine(cN _).mono ?_;rintro e w_ ⟨rfl,rfl⟩)|fail)
   all_goals
    have hR2:=hR.out
    have hW2:=hW.out
    go_ret
    refine⟨?_,I.below⟩
    rw[hR2]
    repeat' split
    all_goals first|rfl|(exfalso;omega)|(simp only[beq_iff_eq,bne_iff_ne,beq_eq_false_iff_ne,bne_eq_false_iff_eq,Bool.not_eq_true,ne_eq,decide_eq_true_eq,decide_eq_false_iff_not,Bool.not_eq_eq_eq_not,Bool.not_true,Bool.not_false]at*;exfalso;omega)
theorem eMk:∀args w,(callFunc 180 args).run Tryz.prog w= .ok (.enter 180 args) w:=enters_of Tryz.func180 (by kernel_rfl) rfl
def mkB(x:Int):Bool:=decide (x<0)||decide (65536≤x)
theorem mk1_any(x:Int)(w:World):Calls Tryz.prog 180 (#[.int .i64 x]++ #[]) w fun e w'=>e= .returned (.bool (mkB x))∧Below w.heap.size w w':=by
 show Calls Tryz.prog 180 #[.int .i64 x] w _
 unfold mkB
 go_enter Tryz.func180,Tryz.ntmps180
 go_wp2
 all_goals
  go_ret
  exact⟨by first|(simp[*];done)|(simp[*];omega)|(simp[*,intB];done)|(simp[*,intB];omega)|(simp[*,bne,intB];done),Below.refl _ _⟩
theorem maskN_split(f:List Int)(len:Int):maskN f len=(decide ((f.length:Int)=len)&& !f.any mkB):=by
 have e:(fun n:Int=>decide (0≤n)&&decide (n<65536))=fun x=> !mkB x:=funext fun x=>by
  unfold mkB;rw[Bool.eq_iff_iff];simp
 unfold maskN
 rw[e,List.all_eq_not_any_not]
 simp
theorem masked_any(A:Option Addr)(n c:Nat)(f:List Int)(len:Int)(w:World)(h:IntS w A n f):Calls Tryz.prog 114 #[.slice A n c,.int .i64 len] w fun e w'=>e= .returned (.bool (maskN f len))∧Below w.heap.size w w':=by
 have cF:=ctnFnI_any 180 #[] mkB A n c f w eMk h (fun x _ W _=>mk1_any x W)
 rw[maskN_split,h.len]
 generalize f.any mkB=R at*
 have hs:=h.small
 unfold maxLen at hs
 replace h:=Zh h
 replace cF:=Zh cF
 go_enter Tryz.func114,Tryz.ntmps114
 by_cases hl:(n:Int)=len
 ·subst hl
  go_wp2_with fail
  refine cF.mono ?_
  rintro e w1 ⟨rfl,p_⟩
  replace p_:=Zh p_
  go_wp2
  all_goals
   go_ret
   exact⟨by first|(simp[*];done)|(simp[*];omega)|(simp[*,intB];done)|(simp[*,intB];omega)|(simp[*,bne,intB];done),p_.out⟩
 ·have d:((n:Int)==len)=false:=by simpa using hl
  go_wp2
  all_goals
   go_ret
   exact⟨by first|(simp[*];done)|(simp[*];omega)|(simp[*,intB];done)|(simp[*,intB];omega)|(simp[*,bne,intB];done),Below.refl _ _⟩
theorem eUs:∀args w,(callFunc 182 args).run Tryz.prog w= .ok (.enter 182 args) w:=enters_of Tryz.func182 (by kernel_rfl) rfl
theorem us1_any(x:TCl)(slot:Int)(B1:Nat)(w:World)(h1:Box w B1 #[.int .i64 slot]):
 Calls Tryz.prog 182 (#[.agg #[.int .i64 x.slot,.int .i64 x.off,.int .i64 x.kind,.bool x.send,.int .i64 x.peer,.int .i64 x.flow]]++ #[.pointer (some ⟨B1,0,none⟩)]) w fun e w'=>e= .returned (.bool (decide (x.slot=slot)))∧Below w.heap.size w w':=by
 show Calls Tryz.prog 182 #[.agg #[.int .i64 x.slot,.int .i64 x.off,.int .i64 x.kind,.bool x.send,.int .i64 x.peer,.int .i64 x.flow],.pointer (some ⟨B1,0,none⟩)] w _
 have I:=Zh (Mem.start w)
 obtain⟨x0,x1,x2,x3,x4,x5⟩:=x
 dsimp only at*
 replace h1:=Zh h1
 go_enter Tryz.func182,Tryz.ntmps182
 go_upto_region 1 with(refine bA I _ ?_;clear I;intro g w1 I hG;clear hG)
 have kb:=I.cell 0 rfl
 have k1:=(h1.keep I.below).at_
 go_wp2
 all_goals
  go_ret
  exact⟨by first|(simp[*];done)|(simp[*];omega)|(simp[*,intB];done)|(simp[*,intB];omega)|(simp[*,bne,intB];done),I.below⟩
theorem used_any(t:Tab)(v:TabV)(slot:Int)(w:World)(h:TabIs w v t):Calls Tryz.prog 115 #[.agg (Kt t v),.int .i64 slot] w fun e w'=>e= .returned (.bool (usedN t slot))∧Below w.heap.size w w':=by
 have I:=Zh (Mem.start w)
 have cF:=fun W B1 (hb:Below w.heap.size w W) (h1:Box W B1 #[.int .i64 slot])=>ctnFnT_any 182 #[.pointer (some ⟨B1,0,none⟩)] (fun x=>decide (x.slot=slot)) v.A v.n v.c t.cells W eUs (h.cells.keep hb) (fun x _ W2 hb2=>us1_any x slot B1 W2 (h1.keep hb2))
 have hR:usedN t slot=t.cells.any (fun x=>decide (x.slot=slot)):=rfl
 generalize t.cells.any (fun x=>decide (x.slot=slot))=R at*
 refine zh3 ?_ h cF hR;clear h cF hR;intro h cF hR
 go_enter Tryz.func115,Tryz.ntmps115
 go_upto_region 1 with(first|(refine bA I _ ?_;clear I;intro g w1 I hG;clear hG)|(refine wpList_boxM I rfl _ _ rfl (.int .i64 slot) rfl ?_;clear I;intro g w1 I hG;clear hG))
 have kb:=I.cell 1 rfl
 go_wp2_with fail
 refine(cF _ _ I.below (I.at_ 0 rfl).box).mono ?_
 rintro e w3 ⟨rfl,p_⟩
 have HM2:=Zm I p_;clear I p_ kb cF;have I:=HM2;clear HM2;have kb:=I.cell 1 rfl
 go_wp2
 go_ret
 exact⟨by rw[hR.out];rfl,I.below⟩
theorem rcell_any(t:Tab)(v:TabV)(c:TCl)(w:World):Calls Tryz.prog 111 #[.agg (Kt t v),.agg #[.int .i64 c.slot,.int .i64 c.off,.int .i64 c.kind,.bool c.send,.int .i64 c.peer,.int .i64 c.flow]] w fun e w'=>e= .returned (.int .i64 (formN c t.node t.length))∧Below w.heap.size w w':=by
 have I:=Zh (Mem.start w)
 have hR:formN c t.node t.length=formN c t.node t.length:=rfl
 conv at hR=>rhs;unfold formN
 generalize formN c t.node t.length=R at*
 obtain⟨self,len,cs⟩:=t
 obtain⟨c0,c1,c2,c3,c4,c5⟩:=c
 dsimp only at*
 have hk:c2=1∨c2=2∨c2=3∨(c2≠1∧c2≠2∧c2≠3):=by omega
 rcases hk with rfl|rfl|rfl|⟨n1,n2,n3⟩
 case inr.inr.inr=>
  rw[if_pos (by omega)]at hR
  by_cases n4:c2<1
  ·replace hR:=Zh hR
   refine zh3 ?_ n1 n2 n3;clear n1 n2 n3;intro n1 n2 n3
   go_enter Tryz.func111,Tryz.ntmps111
   go_upto_region 1 with(refine bA I _ ?_;clear I;intro g w1 I hG;clear hG)
   have kb:=I.cell 0 rfl
   have ka:=I.cell 1 rfl
   go_wp2
   go_ret
   exact⟨by rw[hR.out];rfl,I.below⟩
  ·have n5:3<c2:=by omega
   have n6:1≤c2:=by omega
   refine zh5 ?_ hR n1 n2 n3 n4;clear hR n1 n2 n3 n4;intro hR n1 n2 n3 n4
   go_enter Tryz.func111,Tryz.ntmps111
   go_upto_region 1 with(refine bA I _ ?_;clear I;intro g w1 I hG;clear hG)
   have kb:=I.cell 0 rfl
   have ka:=I.cell 1 rfl
   go_wp2
   go_ret
   exact⟨by rw[hR.out];rfl,I.below⟩
 all_goals
  cases c3
  all_goals
   simp at hR
   replace hR:=Zh hR
   go_enter Tryz.func111,Tryz.ntmps111
   go_upto_region 1 with(refine bA I _ ?_;clear I;intro g w1 I hG;clear hG)
   have kb:=I.cell 0 rfl
   have ka:=I.cell 1 rfl
   go_wp2
   all_goals
    have hR2:=hR.out
    go_ret
    refine⟨?_,I.below⟩
    rw[hR2]
    repeat' split
    all_goals first|rfl|(exfalso;omega)|(simp only[beq_iff_eq,bne_iff_ne,beq_eq_false_iff_ne,bne_eq_false_iff_eq,Bool.not_eq_true,ne_eq,decide_eq_true_eq,decide_eq_false_iff_not,Bool.not_eq_eq_eq_not,Bool.not_true,Bool.not_false]at*;exfalso;omega)
theorem chkT_any(t:Tab)(v:TabV)(w:World)(h:TabIs w v t):Calls Tryz.prog 20 #[.agg (Kt t v)] w fun e w'=>e= .returned (.int .i64 (chkT t))∧Below w.heap.size w w':=by
 obtain⟨A,n,c⟩:=v
 have I:=Zh (Mem.start w)
 have hc:=h.cells
 dsimp only at hc
 have hlen:=hc.len
 have hs:=hc.small
 unfold maxLen at hs
 have hR:chkT t=if t.node<0∨32≤t.node∨t.length<1∨512<t.length then 2 else if 512<t.cells.length then 8 else fstF (faultT t) t.cells.length:=rfl
 have J:∀k,faultT t k=if formN (t.cells.getD k default) t.node t.length≠0 then formN (t.cells.getD k default) t.node t.length else if 0<k∧¬ltT (t.cells.getD (k-1) default) (t.cells.getD k default)then 5 else 0:=fun _=>rfl
 have hit:=fun k (hk:k<n) (h1:faultT t k≠0) h2=>(fstF_hit hk h1 h2:fstF (faultT t) n=faultT t k)
 have non:=fun(hp:∀j,j<n→faultT t j=0)=>(fstF_none hp:fstF (faultT t) n=0)
 rw[hlen]at hR
 generalize fstF (faultT t) n=R1 at*
 generalize chkT t=R at*
 generalize faultT t=F at*
 have cF:=fun c W=>form_any c t.node t.length W
 have cN:=node_any t.node
 have hWt:withB t.node 31=true→0≤t.node∧t.node≤31:=by unfold withB;simp
 have hWf:¬withB t.node 31=true→t.node<0∨31<t.node:=by unfold withB;simp;omega
 generalize withB t.node 31=W31 at*
 obtain⟨n0,l0,cs⟩:=t
 dsimp only at*
 refine zh11 ?_ hc hlen J hit non cF cN h hR hWt hWf;clear hc hlen J hit non cF cN h hR hWt hWf;intro hc hlen J hit non cF cN h hR hWt hWf
 go_enter Tryz.func20,Tryz.ntmps20
 go_upto_region 1 with(refine bA I _ ?_;clear I;intro g w1 I hG;clear hG)
 have kt:=I.cell 0 rfl
 go_upto_region 5 with(first|(go_at_call 79;refine(cN _).mono ?_;rintro e w_ ⟨rfl,rfl⟩)|fail)
 all_goals try
  (go_ret
   refine⟨?_,I.below⟩
   rw[hR.out]
   first
   |(have a:=hWf.out (by assumption);rw[if_pos (by omega)];(try rfl);done)
   |(have a:=hWt.out (by assumption);rw[if_pos (by omega)];(try rfl);done)
   |(have a:=hWt.out (by assumption);rw[if_neg (by omega),if_pos (by omega)];(try rfl);done))
 have a:=hWt.out (by assumption)
 have hR1:Hid (R=R1):=by show _= _;rw[hR.out,if_neg (by omega),if_neg (by omega)]
 clear hR hWt hWf
 go_wp2_with fail
 go_loopw[3,4,5,27] (fun _ _ _ i wr=>∃k:Nat,k≤n∧i= .int .i64 k∧Hid (∀j,j<k→F j=0)∧Hid (Mem w wr [(g,#[.int .i64 n0,.int .i64 l0,.slice A n c],37)])) (fun _ _ _ i _=>n-(intOf i).toNat)
 case atStart=>exact⟨0,by omega,rfl,fun j hj=>by omega,I⟩
 case round=>
  clear I
  obtain⟨k,hk,rfl,HP,I⟩:=hrel
  clear kt
  have kt:=I.cell 0 rfl
  by_cases hlt:k<n
  ·obtain⟨b,off,rfl⟩:=hc.addr (by omega)
   have hx:=tcl_at (hc.keep I.below) hlt
   have hy:=fun W (hb:Below w.heap.size w W) (h0:0<k)=>tcl_at (hc.keep hb) (i:=k-1) (by omega)
   have hF2:=J.out k
   have hit2:=fun h1=>hit.out k hlt h1 HP.out
   have nz:=fun(h:F k=0)=>next_zero h HP.out
   have cF2:=cF.out (cs.getD k default)
   have cV:=fun W=>cmpT_any (cs.getD (k-1) default) (cs.getD k default) W
   have hV:=cmpT_neg (cs.getD (k-1) default) (cs.getD k default)
   generalize cmpT (cs.getD (k-1) default) (cs.getD k default)=V at*
   generalize formN (cs.getD k default) n0 l0=FO at*
   generalize cs.getD (k-1) default=y at*
   generalize cs.getD k default=x at*
   generalize F k=f at*
   obtain⟨x0,x1,x2,x3,x4,x5⟩:=x
   obtain⟨y0,y1,y2,y3,y4,y5⟩:=y
   obtain⟨q0,q1,q2,q3,q4,q5⟩:=hx
   dsimp only at q0 q1 q2 q3 q4 q5 hy cF2 cV
   have r1:(k:Int)<(n:Int):=by omega
   refine zh7 ?_ hy hF2 hit2 nz cF2 cV hV;clear hy hF2 hit2 nz cF2 cV hV;intro hy hF2 hit2 nz cF2 cV hV
   go_upto_region 8 with(first|(refine wpList_allocA I rfl _ rfl (by first|exact msgInfo|exact edInfo|exact tabInfo|exact info_tcl|exact info_spt) ?_;clear I;intro g w1 I hG;clear hG)|(refine sN 0 I ?_;clear I kt;intro w4 I hG4;simp only[List.set]at I;have kt:=I.cell 1 rfl))
   have kc:=I.cell 0 rfl
   clear q0 q1 q2 q3 q4 q5
   go_wp2_with fail
   refine(cF2 _).mono ?_
   rintro e w3 ⟨rfl,p_⟩
   replace I:=Zm I p_
   clear p_ kc kt
   by_cases hf:FO=0
   case neg=>
    have hRe:Hid (R=FO):=by
     have e1:f=FO:=by rw[hF2.out,if_pos hf]
     show _= _;rw[hR1.out,hit2.out (by rw[e1];exact hf),e1]
    have d1:(FO !=0)=true:=by rw[bne_iff_ne];exact hf
    replace hf:=Zh hf
    go_wp2
    go_ret
    exact⟨by rw[hRe.out];rfl,I.below⟩
   subst hf
   have hF3:=hF2.out
   rw[if_neg (fun h=>h rfl)]at hF3
   clear hF2
   have kc:=(I.at_ 0 rfl).box.grown
   have kt:=(I.at_ 1 rfl).box.grown
   by_cases k0:k=0
   ·subst k0
    have hz:f=0:=by rw[hF3,if_neg (by omega)]
    have hP2:=Zh (nz hz)
    have d1:decide (0<(0:Nat))=false:=by simp
    clear hit2 hF3 nz hy hz
    go_upto_region 11 with fail
    go_wp2_with fail
    refine wp_region_quiet_below (by kernel_rfl) (by kernel_rfl) ?_
    repeat(go_big_quiet_step(fail))
    refine wpQuiet_nil ?_
    rintro _ ⟨⟨dq,osq⟩,rfl⟩
    have p_:=below_regrown w3 dq osq
    replace I:=Zm I p_
    generalize grow (redrawn w3 dq) osq=w4 at*
    clear p_
    have HM2:=Zh I.tail
    go_wp2
    go_roundw
    case rel=>exact⟨0+1,by omega,by go_num,hP2,HM2⟩
    case measure=>simp[intOf];omega
   ·have k1:0<k:=by omega
    have k2:(0:Int)<(k:Int):=by omega
    obtain⟨p0,p1,p2,p3,p4,p5⟩:=hy.out w3 I.below k1
    have g0:=cell_regrown p0
    have g1:=cell_regrown p1
    have g2:=cell_regrown p2
    have g3:=cell_regrown p3
    have g4:=cell_regrown p4
    have g5:=cell_regrown p5
    have hw1:IntKind.i64.wrap ((k:Int)-1)=(k:Int)-1:=IntWalk.i64_in _ (by omega)
    have ht1:((k:Int)-1).toNat=k-1:=by omega
    have t1:(0:Int)≤(k:Int)-1:=by omega
    have t2:(k:Int)-1<(n:Int):=by omega
    clear p0 p1 p2 p3 p4 p5 hy
    have cs:∀d os,Calls Tryz.prog 81 #[.agg #[.int .i64 y0,.int .i64 y1,.int .i64 y2,.bool y3,.int .i64 y4,.int .i64 y5],.agg #[.int .i64 x0,.int .i64 x1,.int .i64 x2,.bool x3,.int .i64 x4,.int .i64 x5]] (grow (redrawn w3 d) os) fun e w''=>e= .returned (.int .i64 V)∧∃p:Regrown,w''=grow (redrawn w3 p.d) p.os:=
     fun d os=>Calls.regrown_of (cV _)
    replace cs:=Zh cs
    by_cases hv:V<0
    ·have hz:f=0:=by rw[hF3,if_neg (by have:=hV.out.1 hv;simp[this])]
     have hP2:=Zh (nz hz)
     clear hit2 hF3 nz hz cV hV
     go_upto_region 11 with fail
     go_wp2_with fail
     refine wp_region_quiet_below (by kernel_rfl) (by kernel_rfl) ?_
     repeat(go_big_quiet_step(exact cs.out _ _))
     refine wpQuiet_nil ?_
     rintro _ ⟨⟨dq,osq⟩,rfl⟩
     have p_:=below_regrown w3 dq osq
     replace I:=Zm I p_
     generalize grow (redrawn w3 dq) osq=w4 at*
     clear p_
     have HM2:=Zh I.tail
     go_wp2
     go_roundw
     case rel=>exact⟨k+1,by omega,by go_num,hP2,HM2⟩
     case measure=>simp[intOf];omega
    ·have hz:f=5:=by rw[hF3,if_pos ⟨k1,fun h=>hv (hV.out.2 h)⟩]
     have hRe:Hid (R=5):=by show _= _;rw[hR1.out,hit2.out (by rw[hz];decide),hz]
     have hv2:0≤V:=by omega
     clear hit2 hF3 nz hz cV hV
     go_upto_region 11 with fail
     go_wp2_with fail
     refine wp_region_quiet_below (by kernel_rfl) (by kernel_rfl) ?_
     repeat(go_big_quiet_step(exact cs.out _ _))
     refine wpQuiet_nil ?_
     rintro _ ⟨⟨dq,osq⟩,rfl⟩
     have p_:=below_regrown w3 dq osq
     replace I:=Zm I p_
     generalize grow (redrawn w3 dq) osq=w4 at*
     clear p_
     go_wp2
     go_ret
     exact⟨by rw[hRe.out];rfl,I.below⟩
  ·obtain rfl:k=n:=by omega
   have hRe:Hid (R=0):=by show _= _;rw[hR1.out,non.out HP.out]
   go_wp2
   go_ret
   exact⟨by rw[hRe.out];rfl,I.below⟩
theorem rchkT_any(t:Tab)(v:TabV)(w:World)(h:TabIs w v t):Calls Tryz.prog 110 #[.agg (Kt t v)] w fun e w'=>e= .returned (.int .i64 (chkT t))∧Below w.heap.size w w':=by
 obtain⟨A,n,c⟩:=v
 have I:=Zh (Mem.start w)
 have hc:=h.cells
 dsimp only at hc
 have hlen:=hc.len
 have hs:=hc.small
 unfold maxLen at hs
 have hR:chkT t=if t.node<0∨32≤t.node∨t.length<1∨512<t.length then 2 else if 512<t.cells.length then 8 else fstF (faultT t) t.cells.length:=rfl
 have J:∀k,faultT t k=if formN (t.cells.getD k default) t.node t.length≠0 then formN (t.cells.getD k default) t.node t.length else if 0<k∧¬ltT (t.cells.getD (k-1) default) (t.cells.getD k default)then 5 else 0:=fun _=>rfl
 have hit:=fun k (hk:k<n) (h1:faultT t k≠0) h2=>(fstF_hit hk h1 h2:fstF (faultT t) n=faultT t k)
 have non:=fun(hp:∀j,j<n→faultT t j=0)=>(fstF_none hp:fstF (faultT t) n=0)
 rw[hlen]at hR
 generalize fstF (faultT t) n=R1 at*
 generalize chkT t=R at*
 generalize faultT t=F at*
 have cF:=fun x W=>rcell_any t ⟨A,n,c⟩ x W
 obtain⟨n0,l0,cs⟩:=t
 dsimp only at*
 refine zh8 ?_ hc hlen J hit non cF h hR;clear hc hlen J hit non cF h hR;intro hc hlen J hit non cF h hR
 go_enter Tryz.func110,Tryz.ntmps110
 go_upto_region 1 with(refine bA I _ ?_;clear I;intro g w1 I hG;clear hG)
 have kt:=I.cell 0 rfl
 go_upto_region 5 with fail
 all_goals try
  (go_ret
   refine⟨?_,I.below⟩
   rw[hR.out]
   first
   |(rw[if_pos (by omega)];(try rfl);done)
   |(rw[if_neg (by omega),if_pos (by omega)];(try rfl);done))
 have hR1:Hid (R=R1):=by show _= _;rw[hR.out,if_neg (by omega),if_neg (by omega)]
 clear hR
 go_wp2_with fail
 go_loopw[3,4] (fun i _ wr=>∃k:Nat,k≤n∧i= .int .i64 k∧Hid (∀j,j<k→F j=0)∧Hid (Mem w wr [(g,#[.int .i64 n0,.int .i64 l0,.slice A n c],37)])) (fun i _ _=>n-(intOf i).toNat)
 case atStart=>exact⟨0,by omega,rfl,fun j hj=>by omega,I⟩
 case round=>
  clear I
  obtain⟨k,hk,rfl,HP,I⟩:=hrel
  clear kt
  have kt:=I.cell 0 rfl
  by_cases hlt:k<n
  ·obtain⟨b,off,rfl⟩:=hc.addr (by omega)
   have hx:=tcl_at (hc.keep I.below) hlt
   have hy:=fun W (hb:Below w.heap.size w W) (h0:0<k)=>tcl_at (hc.keep hb) (i:=k-1) (by omega)
   have hF2:=J.out k
   have hit2:=fun h1=>hit.out k hlt h1 HP.out
   have nz:=fun(h:F k=0)=>next_zero h HP.out
   have cF2:=cF.out (cs.getD k default)
   have cV:=fun W=>less_any (cs.getD (k-1) default) (cs.getD k default) W
   have hV:decide (ltT (cs.getD (k-1) default) (cs.getD k default))=true↔ltT (cs.getD (k-1) default) (cs.getD k default):=decide_eq_true_iff
   generalize decide (ltT (cs.getD (k-1) default) (cs.getD k default))=V at*
   generalize formN (cs.getD k default) n0 l0=FO at*
   generalize cs.getD (k-1) default=y at*
   generalize hxe:cs.getD k default=x at*
   replace hxe:=Zh hxe
   generalize F k=f at*
   obtain⟨x0,x1,x2,x3,x4,x5⟩:=x
   obtain⟨y0,y1,y2,y3,y4,y5⟩:=y
   obtain⟨q0,q1,q2,q3,q4,q5⟩:=hx
   dsimp only at q0 q1 q2 q3 q4 q5 hy cF2 cV
   have r1:(k:Int)<(n:Int):=by omega
   refine zh7 ?_ hy hF2 hit2 nz cF2 cV hV;clear hy hF2 hit2 nz cF2 cV hV;intro hy hF2 hit2 nz cF2 cV hV
   go_upto_region 8 with fail
   have g0:=cell_regrown q0
   have g1:=cell_regrown q1
   have g2:=cell_regrown q2
   have g3:=cell_regrown q3
   have g4:=cell_regrown q4
   have g5:=cell_regrown q5
   have gt:=(I.at_ 0 rfl).box.grown
   clear q0 q1 q2 q3 q4 q5 kt
   have cs1:∀d os,Calls Tryz.prog 111 #[.agg #[.int .i64 n0,.int .i64 l0,.slice (some ⟨b,off,none⟩) n c],.agg #[.int .i64 x0,.int .i64 x1,.int .i64 x2,.bool x3,.int .i64 x4,.int .i64 x5]] (grow (redrawn wr d) os) fun e w''=>e= .returned (.int .i64 FO)∧∃p:Regrown,w''=grow (redrawn wr p.d) p.os:=
    fun d os=>Calls.regrown_of (cF2 _)
   replace cs1:=Zh cs1
   go_wp2_with fail
   refine wp_region_quiet_below (by kernel_rfl) (by kernel_rfl) ?_
   repeat(go_big_quiet_step(exact cs1.out _ _))
   refine wpQuiet_nil ?_
   rintro _ ⟨⟨dq,osq⟩,rfl⟩
   have p_:=below_regrown wr dq osq
   replace I:=Zm I p_
   generalize grow (redrawn wr dq) osq=w3 at*
   clear p_
   clear g0 g1 g2 g3 g4 g5 gt cs1 cF2
   have hx2:=tcl_at (hc.keep I.below) hlt
   rw[hxe.out]at hx2
   obtain⟨q0,q1,q2,q3,q4,q5⟩:=hx2
   dsimp only at q0 q1 q2 q3 q4 q5
   have e0:=cell_regrown q0
   have e1:=cell_regrown q1
   have e2:=cell_regrown q2
   have e3:=cell_regrown q3
   have e4:=cell_regrown q4
   have e5:=cell_regrown q5
   clear q0 q1 q2 q3 q4 q5
   by_cases hf:FO=0
   case neg=>
    have hRe:Hid (R=FO):=by
     have e1:f=FO:=by rw[hF2.out,if_pos hf]
     show _= _;rw[hR1.out,hit2.out (by rw[e1];exact hf),e1]
    have d1:(FO !=0)=true:=by rw[bne_iff_ne];exact hf
    replace hf:=Zh hf
    go_wp2
    go_ret
    exact⟨by rw[hRe.out];rfl,I.below⟩
   subst hf
   have hF3:=hF2.out
   rw[if_neg (fun h=>h rfl)]at hF3
   clear hF2
   have kt:=(I.at_ 0 rfl).box.grown
   by_cases k0:k=0
   ·subst k0
    have hz:f=0:=by rw[hF3,if_neg (by omega)]
    have hP2:=Zh (nz hz)
    have d1:decide (0<(0:Nat))=false:=by simp
    clear hit2 hF3 nz hy hz
    go_upto_region 11 with fail
    go_wp2_with fail
    refine wp_region_quiet_below (by kernel_rfl) (by kernel_rfl) ?_
    repeat(go_big_quiet_step(fail))
    refine wpQuiet_nil ?_
    rintro _ ⟨⟨dq,osq⟩,rfl⟩
    have p_:=below_regrown w3 dq osq
    replace I:=Zm I p_
    generalize grow (redrawn w3 dq) osq=w4 at*
    clear p_
    have HM2:=I
    go_wp2
    go_roundw
    case rel=>exact⟨0+1,by omega,by go_num,hP2,HM2⟩
    case measure=>simp[intOf];omega
   ·have k1:0<k:=by omega
    have k2:(0:Int)<(k:Int):=by omega
    obtain⟨p0,p1,p2,p3,p4,p5⟩:=hy.out w3 I.below k1
    have g0:=cell_regrown p0
    have g1:=cell_regrown p1
    have g2:=cell_regrown p2
    have g3:=cell_regrown p3
    have g4:=cell_regrown p4
    have g5:=cell_regrown p5
    have hw1:IntKind.i64.wrap ((k:Int)-1)=(k:Int)-1:=IntWalk.i64_in _ (by omega)
    have ht1:((k:Int)-1).toNat=k-1:=by omega
    have t1:(0:Int)≤(k:Int)-1:=by omega
    have t2:(k:Int)-1<(n:Int):=by omega
    clear p0 p1 p2 p3 p4 p5 hy
    have cs:∀d os,Calls Tryz.prog 178 #[.agg #[.int .i64 y0,.int .i64 y1,.int .i64 y2,.bool y3,.int .i64 y4,.int .i64 y5],.agg #[.int .i64 x0,.int .i64 x1,.int .i64 x2,.bool x3,.int .i64 x4,.int .i64 x5]] (grow (redrawn w3 d) os) fun e w''=>e= .returned (.bool V)∧∃p:Regrown,w''=grow (redrawn w3 p.d) p.os:=
     fun d os=>Calls.regrown_of (cV _)
    replace cs:=Zh cs
    cases V with
    |true=>
     have hz:f=0:=by rw[hF3,if_neg (by have:=hV.out.1 rfl;simp[this])]
     have hP2:=Zh (nz hz)
     clear hit2 hF3 nz hz cV hV
     go_upto_region 11 with fail
     go_wp2_with fail
     refine wp_region_quiet_below (by kernel_rfl) (by kernel_rfl) ?_
     repeat(go_big_quiet_step(exact cs.out _ _))
     refine wpQuiet_nil ?_
     rintro _ ⟨⟨dq,osq⟩,rfl⟩
     have p_:=below_regrown w3 dq osq
     replace I:=Zm I p_
     generalize grow (redrawn w3 dq) osq=w4 at*
     clear p_
     go_wp2
     go_roundw
     case rel=>exact⟨k+1,by omega,by go_num,hP2,I⟩
     case measure=>simp[intOf];omega
    |false=>
     have hz:f=5:=by rw[hF3,if_pos ⟨k1,fun h=>by have:=hV.out.2 h;cases this⟩]
     have hRe:Hid (R=5):=by show _= _;rw[hR1.out,hit2.out (by rw[hz];decide),hz]
     clear hit2 hF3 nz hz cV hV
     go_upto_region 11 with fail
     go_wp2_with fail
     refine wp_region_quiet_below (by kernel_rfl) (by kernel_rfl) ?_
     repeat(go_big_quiet_step(exact cs.out _ _))
     refine wpQuiet_nil ?_
     rintro _ ⟨⟨dq,osq⟩,rfl⟩
     have p_:=below_regrown w3 dq osq
     replace I:=Zm I p_
     generalize grow (redrawn w3 dq) osq=w4 at*
     clear p_
     go_wp2
     go_ret
     exact⟨by rw[hRe.out];rfl,I.below⟩
  ·obtain rfl:k=n:=by omega
   have hRe:Hid (R=0):=by show _= _;rw[hR1.out,non.out HP.out]
   go_wp2
   go_ret
   exact⟨by rw[hRe.out];rfl,I.below⟩
end Tx
end Go.Proofs.YtfamifgchgolpaaGreat
