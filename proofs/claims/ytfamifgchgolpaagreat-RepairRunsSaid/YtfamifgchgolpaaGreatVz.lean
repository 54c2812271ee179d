/- Chapter 27: Consistent, Detects, Pair: the reference's. -/
import Derived.Test.YtfamifgchgolpaaGreatCx
import Derived.Test.YtfamifgchgolpaaGreatVe
set_option linter.unusedVariables false
set_option linter.unusedSimpArgs false
set_option maxRecDepth 100000
set_option maxHeartbeats 4000000
namespace Go.Proofs.YtfamifgchgolpaaGreat
open Go Go.RowKit Go.Sort Go.Shelf Go.Maps
namespace Tx
open Sw Mm Pl
theorem ends_any(a b:Ed)(va vb:EdV)(w:World)(h1:EdIs w va a)(h2:EdIs w vb b):Calls Tryz.prog 150 #[.agg (endA a va),.agg (endA b vb)] w fun r w'=>r= .returned (.bool (pairB a b))∧Below w.heap.size w w':=by
 have I:=Zh (Mem.start w)
 obtain⟨F0,q_,J⟩:∃F:World→Prop,Stb F∧Hid (F w):=⟨_,Stb.true,trivial⟩
 have uE:=Tryz.underlying32
 have uT:=Tryz.underlying37
 have uM:=Tryz.underlying30
 have hR:pairB a b=(decide (chkE a=0)&&(decide (chkE b=0)&&(decide (a.node=b.peer)&&decide (a.peer=b.node)))):=rfl
 have cA:=fun W (hb:Below w.heap.size w W)=>rchkE_any a va W (h1.keep hb)
 have cB:=fun W (hb:Below w.heap.size w W)=>rchkE_any b vb W (h2.keep hb)
 rw[rChkE_eq]at cA cB
 generalize pairB a b=R at*
 generalize chkE a=C1 at*
 generalize chkE b=C2 at*
 refine zh8 ?_ cA cB h1 h2 hR uE uT uM;clear cA cB h1 h2 hR uE uT uM;intro cA cB h1 h2 hR uE uT uM
 go_enter Tryz.func150,Tryz.ntmps150
 have mk1:Unit:=()
 have mk2:Unit:=()
 go_upto_region 1 with(first|go_skip|(clear mk1;refine q_.b I J 32 ?_;clear I J;intro ga w1 I J)|(clear mk2;refine q_.b I J 32 ?_;clear I J;intro gb w1 I J)|fail)
 have p0:=Zc I 1 0 (.int .i64 a.node)
 have p1:=Zc I 1 1 (.int .i64 a.peer)
 have q0:=Zc I 0 0 (.int .i64 b.node)
 have q1:=Zc I 0 1 (.int .i64 b.peer)
 have mkz:Unit:=()
 by_cases e1:C1=0
 case neg=>
  have d1:(C1==0)=false:=by rw[beq_eq_false_iff_ne];exact e1
  have hh:R=false:=by rw[hR.out];simp[e1]
  subst hh
  replace e1:=Zh e1
  have mk3:Unit:=()
  have mk4:Unit:=()
  go_wp2_with(first|go_skip|(refine lG 1 I uE.out ?_)|(refine lG 0 I uE.out ?_)|(go_at_call 164;clear mk3;refine(cA _ I.below).mono ?_;rintro r w3 ⟨rfl,p_⟩;replace p0:=Zk I p_ 1 0 p0;replace p1:=Zk I p_ 1 1 p1;replace q0:=Zk I p_ 0 0 q0;replace q1:=Zk I p_ 0 1 q1;replace I:=Zm I p_;replace J:=q_.z J p_;clear p_;dsimp only)|(go_at_call 164;clear mk4;refine(cB _ I.below).mono ?_;rintro r w3 ⟨rfl,p_⟩;replace p0:=Zk I p_ 1 0 p0;replace p1:=Zk I p_ 1 1 p1;replace q0:=Zk I p_ 0 0 q0;replace q1:=Zk I p_ 0 1 q1;replace I:=Zm I p_;replace J:=q_.z J p_;clear p_;dsimp only)|fail)
  try simp only[Exit.inBlock,Exit.then]
  go_ret
  exact⟨by first|rfl|trivial,I.below⟩
 have d1:(C1==0)=true:=by rw[beq_iff_eq];exact e1
 by_cases e2:C2=0
 case neg=>
  have d2:(C2==0)=false:=by rw[beq_eq_false_iff_ne];exact e2
  have hh:R=false:=by rw[hR.out];simp[e2]
  subst hh
  replace e1:=Zh e1
  replace e2:=Zh e2
  have mk3:Unit:=()
  have mk4:Unit:=()
  go_wp2_with(first|go_skip|(refine lG 1 I uE.out ?_)|(refine lG 0 I uE.out ?_)|(go_at_call 164;clear mk3;refine(cA _ I.below).mono ?_;rintro r w3 ⟨rfl,p_⟩;replace p0:=Zk I p_ 1 0 p0;replace p1:=Zk I p_ 1 1 p1;replace q0:=Zk I p_ 0 0 q0;replace q1:=Zk I p_ 0 1 q1;replace I:=Zm I p_;replace J:=q_.z J p_;clear p_;dsimp only)|(go_at_call 164;clear mk4;refine(cB _ I.below).mono ?_;rintro r w3 ⟨rfl,p_⟩;replace p0:=Zk I p_ 1 0 p0;replace p1:=Zk I p_ 1 1 p1;replace q0:=Zk I p_ 0 0 q0;replace q1:=Zk I p_ 0 1 q1;replace I:=Zm I p_;replace J:=q_.z J p_;clear p_;dsimp only)|fail)
  try simp only[Exit.inBlock,Exit.then]
  go_ret
  exact⟨by first|rfl|trivial,I.below⟩
 have d2:(C2==0)=true:=by rw[beq_iff_eq];exact e2
 by_cases e3:a.node=b.peer
 case neg=>
  have d3:(a.node==b.peer)=false:=by rw[beq_eq_false_iff_ne];exact e3
  have hh:R=false:=by rw[hR.out];simp[e3]
  subst hh
  refine zh3 ?_ e1 e2 e3;clear e1 e2 e3;intro e1 e2 e3
  have mk3:Unit:=()
  have mk4:Unit:=()
  go_wp2_with(first|go_skip|(refine lG 1 I uE.out ?_)|(refine lG 0 I uE.out ?_)|(go_at_call 164;clear mk3;refine(cA _ I.below).mono ?_;rintro r w3 ⟨rfl,p_⟩;replace p0:=Zk I p_ 1 0 p0;replace p1:=Zk I p_ 1 1 p1;replace q0:=Zk I p_ 0 0 q0;replace q1:=Zk I p_ 0 1 q1;replace I:=Zm I p_;replace J:=q_.z J p_;clear p_;dsimp only)|(go_at_call 164;clear mk4;refine(cB _ I.below).mono ?_;rintro r w3 ⟨rfl,p_⟩;replace p0:=Zk I p_ 1 0 p0;replace p1:=Zk I p_ 1 1 p1;replace q0:=Zk I p_ 0 0 q0;replace q1:=Zk I p_ 0 1 q1;replace I:=Zm I p_;replace J:=q_.z J p_;clear p_;dsimp only)|fail)
  try simp only[Exit.inBlock,Exit.then]
  go_ret
  exact⟨by first|rfl|trivial,I.below⟩
 have d3:(a.node==b.peer)=true:=by rw[beq_iff_eq];exact e3
 by_cases e4:a.peer=b.node
 case neg=>
  have d4:(a.peer==b.node)=false:=by rw[beq_eq_false_iff_ne];exact e4
  have hh:R=false:=by rw[hR.out];simp[e4]
  subst hh
  refine zh4 ?_ e1 e2 e3 e4;clear e1 e2 e3 e4;intro e1 e2 e3 e4
  have mk3:Unit:=()
  have mk4:Unit:=()
  go_wp2_with(first|go_skip|(refine lG 1 I uE.out ?_)|(refine lG 0 I uE.out ?_)|(go_at_call 164;clear mk3;refine(cA _ I.below).mono ?_;rintro r w3 ⟨rfl,p_⟩;replace p0:=Zk I p_ 1 0 p0;replace p1:=Zk I p_ 1 1 p1;replace q0:=Zk I p_ 0 0 q0;replace q1:=Zk I p_ 0 1 q1;replace I:=Zm I p_;replace J:=q_.z J p_;clear p_;dsimp only)|(go_at_call 164;clear mk4;refine(cB _ I.below).mono ?_;rintro r w3 ⟨rfl,p_⟩;replace p0:=Zk I p_ 1 0 p0;replace p1:=Zk I p_ 1 1 p1;replace q0:=Zk I p_ 0 0 q0;replace q1:=Zk I p_ 0 1 q1;replace I:=Zm I p_;replace J:=q_.z J p_;clear p_;dsimp only)|fail)
  try simp only[Exit.inBlock,Exit.then]
  go_ret
  exact⟨by first|rfl|trivial,I.below⟩
 have d4:(a.peer==b.node)=true:=by rw[beq_iff_eq];exact e4
 have hh:R=true:=by rw[hR.out];simp[e1,e2,e3,e4]
 subst hh
 refine zh4 ?_ e1 e2 e3 e4;clear e1 e2 e3 e4;intro e1 e2 e3 e4
 have mk3:Unit:=()
 have mk4:Unit:=()
 go_wp2_with(first|go_skip|(refine lG 1 I uE.out ?_)|(refine lG 0 I uE.out ?_)|(go_at_call 164;clear mk3;refine(cA _ I.below).mono ?_;rintro r w3 ⟨rfl,p_⟩;replace p0:=Zk I p_ 1 0 p0;replace p1:=Zk I p_ 1 1 p1;replace q0:=Zk I p_ 0 0 q0;replace q1:=Zk I p_ 0 1 q1;replace I:=Zm I p_;replace J:=q_.z J p_;clear p_;dsimp only)|(go_at_call 164;clear mk4;refine(cB _ I.below).mono ?_;rintro r w3 ⟨rfl,p_⟩;replace p0:=Zk I p_ 1 0 p0;replace p1:=Zk I p_ 1 1 p1;replace q0:=Zk I p_ 0 0 q0;replace q1:=Zk I p_ 0 1 q1;replace I:=Zm I p_;replace J:=q_.z J p_;clear p_;dsimp only)|fail)
 try simp only[Exit.inBlock,Exit.then]
 go_ret
 exact⟨by first|rfl|trivial,I.below⟩
theorem pairR_any(a b:Ed)(ta tb:Tab)(va vb:EdV)(vta vtb:TabV)(w:World)(h1:EdIs w va a)(h2:EdIs w vb b)(t1:TabIs w vta ta)(t2:TabIs w vtb tb):Calls Tryz.prog 89 #[.agg (endA a va),.agg (endA b vb),.agg (tabA ta vta),.agg (tabA tb vtb)] w fun r w'=>r= .returned (.bool (idleB a b ta tb))∧Below w.heap.size w w':=by
 have I:=Zh (Mem.start w)
 obtain⟨F0,q_,J⟩:∃F:World→Prop,Stb F∧Hid (F w):=⟨_,Stb.true,trivial⟩
 have uE:=Tryz.underlying32
 have uT:=Tryz.underlying37
 have uM:=Tryz.underlying30
 have hR:idleB a b ta tb=(pairB a b&&(decide (ta.length=tb.length)&&(decide (fullC ta a=0)&&decide (fullC tb b=0)))):=rfl
 have cP:=fun W (hb:Below w.heap.size w W)=>ends_any a b va vb W (h1.keep hb) (h2.keep hb)
 have cF:=fun W (hb:Below w.heap.size w W)=>rfull_any ta a vta va W (t1.keep hb) (h1.keep hb)
 have cG:=fun W (hb:Below w.heap.size w W)=>rfull_any tb b vtb vb W (t2.keep hb) (h2.keep hb)
 unfold FullPost at cF cG
 generalize idleB a b ta tb=R at*
 generalize pairB a b=PB at*
 generalize fullC ta a=C1 at*
 generalize fullC tb b=C2 at*
 generalize fullN ta a=FU1 at*
 generalize fullN tb b=FU2 at*
 refine zh11 ?_ cP cF cG h1 h2 t1 t2 hR uE uT uM;clear cP cF cG h1 h2 t1 t2 hR uE uT uM;intro cP cF cG h1 h2 t1 t2 hR uE uT uM
 go_enter Tryz.func89,Tryz.ntmps89
 have mk1:Unit:=()
 have mk2:Unit:=()
 have mk3:Unit:=()
 have mk4:Unit:=()
 go_upto_region 1 with(first|go_skip|(clear mk1;refine q_.b I J 32 ?_;clear I J;intro ga w1 I J)|(clear mk2;refine q_.b I J 32 ?_;clear I J;intro gb w1 I J)|(clear mk3;refine q_.b I J 37 ?_;clear I J;intro ta_ w1 I J)|(clear mk4;refine q_.b I J 37 ?_;clear I J;intro tb_ w1 I J)|fail)
 have p1:=Zc I 1 1 (.int .i64 ta.length)
 have q1:=Zc I 0 1 (.int .i64 tb.length)
 cases PB
 case false=>
  have hh:R=false:=by rw[hR.out];simp[]
  subst hh
  have mk5:Unit:=()
  go_wp2_with(first|go_skip|(refine lG 3 I uE.out ?_)|(refine lG 2 I uE.out ?_)|(go_at_call 150;clear mk5;refine(cP _ I.below).mono ?_;rintro r w3 ⟨rfl,p_⟩;replace p1:=Zk I p_ 1 1 p1;replace q1:=Zk I p_ 0 1 q1;replace I:=Zm I p_;replace J:=q_.z J p_;clear p_;dsimp only)|fail)
  try simp only[Exit.inBlock,Exit.then]
  go_ret
  exact⟨by first|rfl|trivial,I.below⟩
 by_cases e2:ta.length=tb.length
 case neg=>
  have d2:(ta.length !=tb.length)=true:=by rw[bne_iff_ne];exact e2
  have hh:R=false:=by rw[hR.out];simp[e2]
  subst hh
  replace e2:=Zh e2
  have mk5:Unit:=()
  go_wp2_with(first|go_skip|(refine lG 3 I uE.out ?_)|(refine lG 2 I uE.out ?_)|(go_at_call 150;clear mk5;refine(cP _ I.below).mono ?_;rintro r w3 ⟨rfl,p_⟩;replace p1:=Zk I p_ 1 1 p1;replace q1:=Zk I p_ 0 1 q1;replace I:=Zm I p_;replace J:=q_.z J p_;clear p_;dsimp only)|fail)
  try simp only[Exit.inBlock,Exit.then]
  go_ret
  exact⟨by first|rfl|trivial,I.below⟩
 have d2:(ta.length !=tb.length)=false:=by rw[bne_eq_false_iff_eq];exact e2
 have mk5:Unit:=()
 go_upto_region 3 with(first|go_skip|(refine lG 3 I uE.out ?_)|(refine lG 2 I uE.out ?_)|(go_at_call 150;clear mk5;refine(cP _ I.below).mono ?_;rintro r w3 ⟨rfl,p_⟩;replace p1:=Zk I p_ 1 1 p1;replace q1:=Zk I p_ 0 1 q1;replace I:=Zm I p_;replace J:=q_.z J p_;clear p_;dsimp only)|fail)
 clear p1 q1 cP
 have mk6:Unit:=()
 have mk7:Unit:=()
 go_upto_region 4 with(first|go_skip|(refine lG 1 I uT.out ?_)|(refine lG 3 I uE.out ?_)|(go_at_call 151;clear mk6;refine(cF _ I.below).mono ?_;rintro r w3 ⟨v1,rfl,hT1,p_⟩;replace I:=Zm I p_;replace J:=q_.z J p_;clear p_;dsimp only)|(clear mk7;refine q_.a I J tabInfo ?_;clear I J;intro g9 w1 I J)|(refine q_.s 0 I J ?_;clear I J;intro w4 I J;simp only[List.set]at I)|fail)
 clear hT1 cF
 have mk8:Unit:=()
 have mk9:Unit:=()
 go_upto_region 5 with(first|go_skip|(refine lG 1 I uT.out ?_)|(refine lG 3 I uE.out ?_)|(go_at_call 151;clear mk8;refine(cG _ I.below).mono ?_;rintro r w3 ⟨v2,rfl,hT2,p_⟩;replace I:=Zm I p_;replace J:=q_.z J p_;clear p_;dsimp only)|(clear mk9;refine q_.a I J tabInfo ?_;clear I J;intro g11 w1 I J)|(refine q_.s 0 I J ?_;clear I J;intro w4 I J;simp only[List.set]at I)|fail)
 clear hT2 cG
 by_cases e3:C1=0
 case neg=>
  have d3:(C1==0)=false:=by rw[beq_eq_false_iff_ne];exact e3
  have hh:R=false:=by rw[hR.out];simp[e3]
  subst hh
  replace e2:=Zh e2
  replace e3:=Zh e3
  go_wp2_with fail
  try simp only[Exit.inBlock,Exit.then]
  go_ret
  exact⟨by first|rfl|trivial,I.below⟩
 have d3:(C1==0)=true:=by rw[beq_iff_eq];exact e3
 by_cases e4:C2=0
 case neg=>
  have d4:(C2==0)=false:=by rw[beq_eq_false_iff_ne];exact e4
  have hh:R=false:=by rw[hR.out];simp[e4]
  subst hh
  refine zh3 ?_ e2 e3 e4;clear e2 e3 e4;intro e2 e3 e4
  go_wp2_with fail
  try simp only[Exit.inBlock,Exit.then]
  go_ret
  exact⟨by first|rfl|trivial,I.below⟩
 have d4:(C2==0)=true:=by rw[beq_iff_eq];exact e4
 have hh:R=true:=by rw[hR.out];simp[e2,e3,e4]
 subst hh
 refine zh3 ?_ e2 e3 e4;clear e2 e3 e4;intro e2 e3 e4
 go_wp2_with fail
 try simp only[Exit.inBlock,Exit.then]
 go_ret
 exact⟨by first|rfl|trivial,I.below⟩
end Tx
end Go.Proofs.YtfamifgchgolpaaGreat
