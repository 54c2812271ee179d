/- Chapter 28: pair, Check: the program's. -/
import Derived.Test.YtfamifgchgolpaaGreatSb
set_option linter.unusedVariables false
set_option linter.unusedSimpArgs false
set_option maxRecDepth 100000
set_option maxHeartbeats 64000000
namespace Go.Proofs.YtfamifgchgolpaaGreat
open Go Go.RowKit Go.Sort Go.Shelf Go.Maps
namespace Tx
open Sw Mm Pl
theorem pairC_eq(c:Cpl):pairC c=(decide (chkE c.a=0)&&(decide (chkE c.b=0)&&(decide (c.a.node=c.b.peer)&&(decide (c.a.peer=c.b.node)&&(!c.a.opn&&(!c.b.opn&&(decide (fullC c.left c.a=0)&&(decide (fullC c.right c.b=0)&&decide (c.left.length=c.right.length))))))))):=by
 rw[Bool.eq_iff_iff]
 simp only[pairC,decide_eq_true_eq,Bool.and_eq_true,Bool.not_eq_true',idleC_iff,chkE_iff,fullC_iff]
 exact⟨fun⟨a1,a2,a3,a4,a5,a6,a7⟩=>⟨a1.ed,a2.ed,a3,a4,a6,a7,a1,a2,a5⟩,fun⟨_,_,a3,a4,a6,a7,a1,a2,a5⟩=>⟨a1,a2,a3,a4,a5,a6,a7⟩⟩
theorem pairP_any(c:Cpl)(v:CplV)(w:World)(h:CplIs w v c):Calls Tryz.prog 107 #[.agg (cplA c v)] w fun r w'=>r= .returned (.bool (pairC c))∧Below w.heap.size w w':=by
 have I:=Zh (Mem.start w)
 obtain⟨F0,q_,J⟩:∃F:World→Prop,Stb F∧Hid (F w):=⟨_,Stb.true,trivial⟩
 have uE:=Tryz.underlying32
 have uT:=Tryz.underlying37
 have uM:=Tryz.underlying30
 have uC:=Tryz.underlying70
 have hR:=pairC_eq c
 have hT:=fun(h:fullC c.left c.a=0)=>(chkT_iff _).2 ((fullC_iff _ _).1 h).tab
 have cA:=fun W (hb:Below w.heap.size w W)=>chkE_any c.a v.a W (h.a.keep hb)
 have cB:=fun W (hb:Below w.heap.size w W)=>chkE_any c.b v.b W (h.b.keep hb)
 have cF:=fun W (hb:Below w.heap.size w W)=>full_any c.left c.a v.l v.a W (h.l.keep hb) (h.a.keep hb)
 have cG:=fun W (hb:Below w.heap.size w W)=>full_any c.right c.b v.r v.b W (h.r.keep hb) (h.b.keep hb)
 have cK:=fun W (hb:Below w.heap.size w W)=>chkT_any c.left v.l W (h.l.keep hb)
 unfold FullPost at cF cG
 generalize pairC c=R at*
 generalize chkE c.a=C1 at*
 generalize chkE c.b=C2 at*
 generalize fullC c.left c.a=C3 at*
 generalize fullC c.right c.b=C4 at*
 generalize fullN c.left c.a=FU1 at*
 generalize fullN c.right c.b=FU2 at*
 generalize chkT c.left=C5 at*
 obtain⟨Q,hQ⟩:∃Q:Bool,(decide (C1=0)&&(decide (C2=0)&&(decide (c.a.node=c.b.peer)&&(decide (c.a.peer=c.b.node)&&(!c.a.opn&& !c.b.opn)))))=Q:=⟨_,rfl⟩
 have hR2:R=(Q&&(decide (C3=0)&&(decide (C4=0)&&decide (c.left.length=c.right.length)))):=by rw[hR,←hQ];simp only[Bool.and_assoc]
 clear hR
 have hR:=hR2
 clear hR2
 refine zh12 ?_ cA cB cF cG cK h hR hT uE uT uM uC;clear cA cB cF cG cK h hR hT uE uT uM uC;intro cA cB cF cG cK h hR hT uE uT uM uC
 replace hQ:=Zh hQ
 go_enter Tryz.func107,Tryz.ntmps107
 have mk1:Unit:=()
 go_upto_region 1 with(first|go_skip|(clear mk1;refine q_.b I J 70 ?_;clear I J;intro gc w1 I J)|fail)
 have p0:=Zc I 0 0 (.int .i64 c.a.node)
 have p1:=Zc I 0 1 (.int .i64 c.a.peer)
 have q0:=Zc I 0 28 (.int .i64 c.b.node)
 have q1:=Zc I 0 29 (.int .i64 c.b.peer)
 have p4:=Zc I 0 4 (.bool c.a.opn)
 have q4:=Zc I 0 32 (.bool c.b.opn)
 go_cut[44] (fun s wx=>s= .bool (!Q)∧Hid (Mem w wx [(gc,cplA c v,70)]))
 case first=>
  by_cases e1:C1=0
  case' neg=>
   have d1:(C1 !=0)=true:=by rw[bne_iff_ne];exact e1
   have hq:Q=false:=by rw[←hQ.out];simp only[decide_eq_false e1,Bool.true_and,Bool.false_and,Bool.and_true,Bool.and_false,Bool.not_false,Bool.not_true]
   replace e1:=Zh e1
  case' pos=>
   have d1:(C1 !=0)=false:=by rw[bne_eq_false_iff_eq];exact e1
   by_cases e2:C2=0
   case' neg=>
    have d2:(C2 !=0)=true:=by rw[bne_iff_ne];exact e2
    have hq:Q=false:=by rw[←hQ.out];simp only[decide_eq_true e1,decide_eq_false e2,Bool.true_and,Bool.false_and,Bool.and_true,Bool.and_false,Bool.not_false,Bool.not_true]
    replace e1:=Zh e1
    replace e2:=Zh e2
   case' pos=>
    have d2:(C2 !=0)=false:=by rw[bne_eq_false_iff_eq];exact e2
    by_cases e3:c.a.node=c.b.peer
    case' neg=>
     have d3:(c.a.node !=c.b.peer)=true:=by rw[bne_iff_ne];exact e3
     have hq:Q=false:=by rw[←hQ.out];simp only[decide_eq_true e1,decide_eq_true e2,decide_eq_false e3,Bool.true_and,Bool.false_and,Bool.and_true,Bool.and_false,Bool.not_false,Bool.not_true]
     refine zh3 ?_ e1 e2 e3;clear e1 e2 e3;intro e1 e2 e3
    case' pos=>
     have d3:(c.a.node !=c.b.peer)=false:=by rw[bne_eq_false_iff_eq];exact e3
     by_cases e4:c.a.peer=c.b.node
     case' neg=>
      have d4:(c.a.peer !=c.b.node)=true:=by rw[bne_iff_ne];exact e4
      have hq:Q=false:=by rw[←hQ.out];simp only[decide_eq_true e1,decide_eq_true e2,decide_eq_true e3,decide_eq_false e4,Bool.true_and,Bool.false_and,Bool.and_true,Bool.and_false,Bool.not_false,Bool.not_true]
      refine zh4 ?_ e1 e2 e3 e4;clear e1 e2 e3 e4;intro e1 e2 e3 e4
     case' pos=>
      have d4:(c.a.peer !=c.b.node)=false:=by rw[bne_eq_false_iff_eq];exact e4
      by_cases e5:c.a.opn=false
      case' neg=>
       replace e5:c.a.opn=true:=by simpa using e5
       rw[e5]at p4
       have hq:Q=false:=by rw[←hQ.out];simp only[decide_eq_true e1,decide_eq_true e2,decide_eq_true e3,decide_eq_true e4,e5,Bool.true_and,Bool.false_and,Bool.and_true,Bool.and_false,Bool.not_false,Bool.not_true]
       refine zh5 ?_ e1 e2 e3 e4 e5;clear e1 e2 e3 e4 e5;intro e1 e2 e3 e4 e5
      case' pos=>
       rw[e5]at p4
       by_cases e6:c.b.opn=false
       case' neg=>
        replace e6:c.b.opn=true:=by simpa using e6
        rw[e6]at q4
        have hq:Q=false:=by rw[←hQ.out];simp only[decide_eq_true e1,decide_eq_true e2,decide_eq_true e3,decide_eq_true e4,e5,e6,Bool.true_and,Bool.false_and,Bool.and_true,Bool.and_false,Bool.not_false,Bool.not_true]
        refine zh6 ?_ e1 e2 e3 e4 e5 e6;clear e1 e2 e3 e4 e5 e6;intro e1 e2 e3 e4 e5 e6
       case' pos=>
        rw[e6]at q4
        have hq:Q=true:=by rw[←hQ.out];simp only[decide_eq_true e1,decide_eq_true e2,decide_eq_true e3,decide_eq_true e4,e5,e6,Bool.true_and,Bool.false_and,Bool.and_true,Bool.and_false,Bool.not_false,Bool.not_true]
        refine zh6 ?_ e1 e2 e3 e4 e5 e6;clear e1 e2 e3 e4 e5 e6;intro e1 e2 e3 e4 e5 e6
  all_goals
   replace hq:=Zh hq
   have mk2:Unit:=()
   have mk3:Unit:=()
   go_wp2_with(first|go_skip|(refine lP 0 I 0 (endA c.a v.a) uE.out ?_)|(refine lP 0 I 28 (endA c.b v.b) uE.out ?_)|(go_at_call 71;clear mk2;refine(cA _ I.below).mono ?_;rintro r w3 ⟨rfl,p_⟩;replace p0:=Zk I p_ 0 0 p0;replace p1:=Zk I p_ 0 1 p1;replace q0:=Zk I p_ 0 28 q0;replace q1:=Zk I p_ 0 29 q1;replace p4:=Zk I p_ 0 4 p4;replace q4:=Zk I p_ 0 32 q4;replace I:=Zm I p_;replace J:=q_.z J p_;clear p_;dsimp only)|(go_at_call 71;clear mk3;refine(cB _ I.below).mono ?_;rintro r w3 ⟨rfl,p_⟩;replace p0:=Zk I p_ 0 0 p0;replace p1:=Zk I p_ 0 1 p1;replace q0:=Zk I p_ 0 28 q0;replace q1:=Zk I p_ 0 29 q1;replace p4:=Zk I p_ 0 4 p4;replace q4:=Zk I p_ 0 32 q4;replace I:=Zm I p_;replace J:=q_.z J p_;clear p_;dsimp only)|fail)
   go_meet
   exact⟨by rw[hq.out];rfl,I⟩
 case rest=>
  clear I J q_ F0 p0 p1 q0 q1 p4 q4 cA cB
  obtain⟨rfl,I⟩:=hcut
  obtain⟨F0,q_,J⟩:∃F:World→Prop,Stb F∧Hid (F wc):=⟨_,Stb.true,trivial⟩
  clear hQ
  cases Q
  case false=>
   have hh:R=false:=by rw[hR.out];rfl
   subst hh
   go_wp2_with fail
   try simp only[Exit.inBlock,Exit.then]
   go_ret
   exact⟨by first|rfl|trivial,I.below⟩
  go_upto_region 3 with fail
  have mk2:Unit:=()
  have mk3:Unit:=()
  go_upto_region 4 with(first|go_skip|(refine lP 0 I 56 (tabA c.left v.l) uT.out ?_)|(refine lP 0 I 0 (endA c.a v.a) uE.out ?_)|(go_at_call 19;clear mk2;refine(cF _ I.below).mono ?_;rintro r w3 ⟨v1,rfl,hT1,p_⟩;replace I:=Zm I p_;replace J:=q_.z J p_;clear p_;dsimp only)|(clear mk3;refine q_.a I J tabInfo ?_;clear I J;intro g9 w1 I J)|(refine q_.s 0 I J ?_;clear I J;intro w4 I J;simp only[List.set]at I)|fail)
  clear hT1 cF
  have mk4:Unit:=()
  have mk5:Unit:=()
  go_upto_region 5 with(first|go_skip|(refine lP 1 I 59 (tabA c.right v.r) uT.out ?_)|(refine lP 1 I 28 (endA c.b v.b) uE.out ?_)|(go_at_call 19;clear mk4;refine(cG _ I.below).mono ?_;rintro r w3 ⟨v2,rfl,hT2,p_⟩;replace I:=Zm I p_;replace J:=q_.z J p_;clear p_;dsimp only)|(clear mk5;refine q_.a I J tabInfo ?_;clear I J;intro g11 w1 I J)|(refine q_.s 0 I J ?_;clear I J;intro w4 I J;simp only[List.set]at I)|fail)
  clear hT2 cG
  have l0:=Zc I 2 57 (.int .i64 c.left.length)
  have l1:=Zc I 2 60 (.int .i64 c.right.length)
  by_cases e5:C3=0
  case neg=>
   have d5:(C3==0)=false:=by rw[beq_eq_false_iff_ne];exact e5
   have hh:R=false:=by rw[hR.out];simp[e5]
   subst hh
   replace e5:=Zh e5
   go_wp2_with fail
   try simp only[Exit.inBlock,Exit.then]
   go_ret
   exact⟨by first|rfl|trivial,I.below⟩
  have d5:(C3==0)=true:=by rw[beq_iff_eq];exact e5
  have e9:=hT.out e5
  clear hT
  have d9:(C5==0)=true:=by rw[beq_iff_eq];exact e9
  by_cases e6:C4=0
  case' neg=>
   have d6:(C4==0)=false:=by rw[beq_eq_false_iff_ne];exact e6
   have hh:R=false:=by rw[hR.out];simp[e6]
   subst hh
   replace e6:=Zh e6
  case' pos=>
   have d6:(C4==0)=true:=by rw[beq_iff_eq];exact e6
   by_cases e7:c.left.length=c.right.length
   case' neg=>
    have d7:(c.left.length==c.right.length)=false:=by rw[beq_eq_false_iff_ne];exact e7
    have hh:R=false:=by rw[hR.out];simp[e7]
    subst hh
    replace e6:=Zh e6
    replace e7:=Zh e7
   case' pos=>
    have d7:(c.left.length==c.right.length)=true:=by rw[beq_iff_eq];exact e7
    have hh:R=true:=by rw[hR.out];simp[e5,e6,e7]
    subst hh
    replace e6:=Zh e6
    replace e7:=Zh e7
  all_goals
   replace e5:=Zh e5
   replace e9:=Zh e9
   have mk6:Unit:=()
   go_wp2_with(first|go_skip|(refine lP 2 I 56 (tabA c.left v.l) uT.out ?_)|(go_at_call 20;clear mk6;refine(cK _ I.below).mono ?_;rintro r w3 ⟨rfl,p_⟩;replace l0:=Zk I p_ 2 57 l0;replace l1:=Zk I p_ 2 60 l1;replace I:=Zm I p_;replace J:=q_.z J p_;clear p_;dsimp only)|fail)
   try simp only[Exit.inBlock,Exit.then]
   go_ret
   exact⟨by first|rfl|trivial,I.below⟩
theorem chkCp_any(c:Cpl)(v:CplV)(w:World)(h:CplIs w v c):Calls Tryz.prog 97 #[.agg (cplA c v)] w fun r w'=>r= .returned (.int .i64 (chkCp c))∧Below w.heap.size w w':=by
 have I:=Zh (Mem.start w)
 obtain⟨F0,q_,J⟩:∃F:World→Prop,Stb F∧Hid (F w):=⟨_,Stb.true,trivial⟩
 have uE:=Tryz.underlying32
 have uT:=Tryz.underlying37
 have uM:=Tryz.underlying30
 have uC:=Tryz.underlying70
 have hR:chkCp c=if(withR c.period 1 4096&&withR c.frame 0 1099511627776)=true then(if pairC c=false then 1 else 0)else 2:=by
  unfold chkCp withR
  by_cases hq:c.period<1∨4096<c.period∨c.frame<0∨1099511627776<c.frame
  ·have h1:¬((decide (1≤c.period)&&decide (c.period≤4096))&&(decide (0≤c.frame)&&decide (c.frame≤1099511627776)))=true:=by
    simp only[Bool.and_eq_true,decide_eq_true_eq]
    omega
   rw[if_pos hq,if_neg h1]
  ·have h1:((decide (1≤c.period)&&decide (c.period≤4096))&&(decide (0≤c.frame)&&decide (c.frame≤1099511627776)))=true:=by
    simp only[Bool.and_eq_true,decide_eq_true_eq]
    omega
   rw[if_neg hq,if_pos h1]
 have c1:=fun W=>rwith_any c.period 1 4096 W
 have c2:=fun W=>rwith_any c.frame 0 1099511627776 W
 have cP:=fun W (hb:Below w.heap.size w W)=>pairP_any c v W (h.keep hb)
 generalize chkCp c=R at*
 generalize withR c.period 1 4096=B1 at*
 generalize withR c.frame 0 1099511627776=B2 at*
 generalize pairC c=B3 at*
 refine zh9 ?_ cP h c1 c2 hR uE uT uM uC;clear cP h c1 c2 hR uE uT uM uC;intro cP h c1 c2 hR uE uT uM uC
 go_enter Tryz.func97,Tryz.ntmps97
 have mk1:Unit:=()
 go_upto_region 1 with(first|go_skip|(clear mk1;refine q_.b I J 70 ?_;clear I J;intro gc w1 I J)|fail)
 have p0:=Zc I 0 63 (.int .i64 c.period)
 have p1:=Zc I 0 64 (.int .i64 c.frame)
 cases B1
 case' false=>
  have hh:R=2:=by rw[hR.out];simp
  subst hh
 case' true=>
  cases B2
  case' false=>
   have hh:R=2:=by rw[hR.out];simp
   subst hh
  case' true=>
   cases B3
   case' false=>
    have hh:R=1:=by rw[hR.out];simp
    subst hh
   case' true=>
    have hh:R=0:=by rw[hR.out];simp
    subst hh
 all_goals
  have mk2:Unit:=()
  have mk3:Unit:=()
  have mk4:Unit:=()
  go_wp2_with(first|go_skip|(refine lG 0 I uC.out ?_)|(go_at_call 106;clear mk2;refine(c1 _).mono ?_;rintro e w_ ⟨rfl,rfl⟩)|(go_at_call 106;clear mk3;refine(c2 _).mono ?_;rintro e w_ ⟨rfl,rfl⟩)|(go_at_call 107;clear mk4;refine q_.k I J (cP _ I.below) ?_;clear I J;intro w3 I J;dsimp only)|fail)
  try simp only[Exit.inBlock,Exit.then]
  go_ret
  exact⟨by first|rfl|trivial,I.below⟩
end Tx
end Go.Proofs.YtfamifgchgolpaaGreat
