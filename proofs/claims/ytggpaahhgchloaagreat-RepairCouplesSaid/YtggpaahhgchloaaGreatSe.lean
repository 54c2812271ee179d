/- Chapter 28: pair, Check: the program's. -/
import Derived.Test.YtggpaahhgchloaaGreatSb
import Derived.Test.YtggpaahhgchloaaGreatBo
set_option linter.unusedVariables false
set_option linter.unusedSimpArgs false
set_option maxRecDepth 100000
set_option maxHeartbeats 64000000
namespace Go.Proofs.YtggpaahhgchloaaGreat
open Go Go.RowKit Go.Sort Go.Shelf Go.Maps
namespace Tx
open Sw Mm Pl
theorem pairC_eq(c:Cpl):pairC c=(decide (chkE c.a=0)&&(decide (chkE c.b=0)&&(decide (c.a.node=c.b.peer)&&(decide (c.a.peer=c.b.node)&&(!c.a.opn&&(!c.b.opn&&(decide (fullC c.left c.a=0)&&(decide (fullC c.right c.b=0)&&decide (c.left.length=c.right.length))))))))):=by
 rw[Bool.eq_iff_iff]
 simp only[pairC,decide_eq_true_eq,Bool.and_eq_true,Bool.not_eq_true',idleC_iff,chkE_iff,fullC_iff]
 exact⟨fun⟨a1,a2,a3,a4,a5,a6,a7⟩=>⟨a1.ed,a2.ed,a3,a4,a6,a7,a1,a2,a5⟩,fun⟨_,_,a3,a4,a6,a7,a1,a2,a5⟩=>⟨a1,a2,a3,a4,a5,a6,a7⟩⟩
theorem pairP_any(c:Cpl)(v:CplV)(w:World)(h:CplIs w v c):Calls Tryz.prog 88 #[.agg (cplA c v)] w fun r w'=>r= .returned (.bool (pairC c))∧Below w.heap.size w w':=by
 have HM:=Zh (Mem.start w)
 obtain⟨F0,hFs,hF⟩:∃F:World→Prop,Stb F∧Hid (F w):=⟨_,Stb.true,trivial⟩
 have uE:=Tryz.underlying27
 have uT:=Tryz.underlying29
 have uM:=Tryz.underlying25
 have uC:=Tryz.underlying57
 have hR:=pairC_eq c
 have hT:=fun(h:fullC c.left c.a=0)=>(chkT_iff _).2 ((fullC_iff _ _).1 h).tab
 have cA:=fun W (hb:Below w.heap.size w W)=>chkE_any c.a v.a W (h.a.keep hb)
 have cB:=fun W (hb:Below w.heap.size w W)=>chkE_any c.b v.b W (h.b.keep hb)
 have cF:=fun W (hb:Below w.heap.size w W)=>full_any c.left c.a v.l v.a W (h.l.keep hb) (h.a.keep hb)
 have cG:=fun W (hb:Below w.heap.size w W)=>full_any c.right c.b v.r v.b W (h.r.keep hb) (h.b.keep hb)
 have cK:=fun W (hb:Below w.heap.size w W)=>chkT_any c.left v.l W (h.l.keep hb)
 unfold FullPost at cF cG
 generalize pairC c=R at*
 generalize chkE c.a=C1 at*
 generalize chkE c.b=C2 at*
 generalize fullC c.left c.a=C3 at*
 generalize fullC c.right c.b=C4 at*
 generalize fullN c.left c.a=FU1 at*
 generalize fullN c.right c.b=FU2 at*
 generalize chkT c.left=C5 at*
 obtain⟨Q,hQ⟩:∃Q:Bool,(decide (C1=0)&&(decide (C2=0)&&(decide (c.a.node=c.b.peer)&&(decide (c.a.peer=c.b.node)&&(!c.a.opn&& !c.b.opn)))))=Q:=⟨_,rfl⟩
 have hR2:R=(Q&&(decide (C3=0)&&(decide (C4=0)&&decide (c.left.length=c.right.length)))):=by rw[hR,←hQ];simp only[Bool.and_assoc]
 clear hR
 have hR:=hR2
 clear hR2
 replace cA:=Zh cA
 replace cB:=Zh cB
 replace cF:=Zh cF
 replace cG:=Zh cG
 replace cK:=Zh cK
 replace h:=Zh h
 replace hR:=Zh hR
 replace hT:=Zh hT
 replace uE:=Zh uE
 replace uT:=Zh uT
 replace uM:=Zh uM
 replace uC:=Zh uC
 replace hQ:=Zh hQ
 go_enter Tryz.func88,Tryz.ntmps88
 have mk1:Unit:=()
 go_upto_region 1 with(first|go_skip|(clear mk1;refine wpList_boxA HM rfl 57 _ rfl _ rfl ?_;clear HM;intro gc w1 HM hG;replace hF:=Zh (hFs.keep hF.out hG.out);clear hG)|fail)
 have p0:World.cell? _ ⟨gc,0,none⟩=some (.int .i64 c.a.node):=HM.out.cell 0 rfl 0
 have p1:World.cell? _ ⟨gc,1,none⟩=some (.int .i64 c.a.peer):=HM.out.cell 0 rfl 1
 have q0:World.cell? _ ⟨gc,28,none⟩=some (.int .i64 c.b.node):=HM.out.cell 0 rfl 28
 have q1:World.cell? _ ⟨gc,29,none⟩=some (.int .i64 c.b.peer):=HM.out.cell 0 rfl 29
 have p4:World.cell? _ ⟨gc,4,none⟩=some (.bool c.a.opn):=HM.out.cell 0 rfl 4
 have q4:World.cell? _ ⟨gc,32,none⟩=some (.bool c.b.opn):=HM.out.cell 0 rfl 32
 go_cut[44] (fun s wx=>s= .bool (!Q)∧Hid (Mem w wx [(gc,cplA c v,57)]))
 case first=>
  by_cases e1:C1=0
  case' neg=>
   have d1:(C1 !=0)=true:=by rw[bne_iff_ne];exact e1
   have hq:Q=false:=by rw[←hQ.out];simp only[decide_eq_false e1,Bool.true_and,Bool.false_and,Bool.and_true,Bool.and_false,Bool.not_false,Bool.not_true]
   replace e1:=Zh e1
  case' pos=>
   have d1:(C1 !=0)=false:=by rw[bne_eq_false_iff_eq];exact e1
   by_cases e2:C2=0
   case' neg=>
    have d2:(C2 !=0)=true:=by rw[bne_iff_ne];exact e2
    have hq:Q=false:=by rw[←hQ.out];simp only[decide_eq_true e1,decide_eq_false e2,Bool.true_and,Bool.false_and,Bool.and_true,Bool.and_false,Bool.not_false,Bool.not_true]
    replace e1:=Zh e1
    replace e2:=Zh e2
   case' pos=>
    have d2:(C2 !=0)=false:=by rw[bne_eq_false_iff_eq];exact e2
    by_cases e3:c.a.node=c.b.peer
    case' neg=>
     have d3:(c.a.node !=c.b.peer)=true:=by rw[bne_iff_ne];exact e3
     have hq:Q=false:=by rw[←hQ.out];simp only[decide_eq_true e1,decide_eq_true e2,decide_eq_false e3,Bool.true_and,Bool.false_and,Bool.and_true,Bool.and_false,Bool.not_false,Bool.not_true]
     replace e1:=Zh e1
     replace e2:=Zh e2
     replace e3:=Zh e3
    case' pos=>
     have d3:(c.a.node !=c.b.peer)=false:=by rw[bne_eq_false_iff_eq];exact e3
     by_cases e4:c.a.peer=c.b.node
     case' neg=>
      have d4:(c.a.peer !=c.b.node)=true:=by rw[bne_iff_ne];exact e4
      have hq:Q=false:=by rw[←hQ.out];simp only[decide_eq_true e1,decide_eq_true e2,decide_eq_true e3,decide_eq_false e4,Bool.true_and,Bool.false_and,Bool.and_true,Bool.and_false,Bool.not_false,Bool.not_true]
      replace e1:=Zh e1
      replace e2:=Zh e2
      replace e3:=Zh e3
      replace e4:=Zh e4
     case' pos=>
      have d4:(c.a.peer !=c.b.node)=false:=by rw[bne_eq_false_iff_eq];exact e4
      by_cases e5:c.a.opn=false
      case' neg=>
       replace e5:c.a.opn=true:=by simpa using e5
       rw[e5]at p4
       have hq:Q=false:=by rw[←hQ.out];simp only[decide_eq_true e1,decide_eq_true e2,decide_eq_true e3,decide_eq_true e4,e5,Bool.true_and,Bool.false_and,Bool.and_true,Bool.and_false,Bool.not_false,Bool.not_true]
       replace e1:=Zh e1
       replace e2:=Zh e2
       replace e3:=Zh e3
       replace e4:=Zh e4
       replace e5:=Zh e5
      case' pos=>
       rw[e5]at p4
       by_cases e6:c.b.opn=false
       case' neg=>
        replace e6:c.b.opn=true:=by simpa using e6
        rw[e6]at q4
        have hq:Q=false:=by rw[←hQ.out];simp only[decide_eq_true e1,decide_eq_true e2,decide_eq_true e3,decide_eq_true e4,e5,e6,Bool.true_and,Bool.false_and,Bool.and_true,Bool.and_false,Bool.not_false,Bool.not_true]
        replace e1:=Zh e1
        replace e2:=Zh e2
        replace e3:=Zh e3
        replace e4:=Zh e4
        replace e5:=Zh e5
        replace e6:=Zh e6
       case' pos=>
        rw[e6]at q4
        have hq:Q=true:=by rw[←hQ.out];simp only[decide_eq_true e1,decide_eq_true e2,decide_eq_true e3,decide_eq_true e4,e5,e6,Bool.true_and,Bool.false_and,Bool.and_true,Bool.and_false,Bool.not_false,Bool.not_true]
        replace e1:=Zh e1
        replace e2:=Zh e2
        replace e3:=Zh e3
        replace e4:=Zh e4
        replace e5:=Zh e5
        replace e6:=Zh e6
  all_goals
   replace hq:=Zh hq
   have mk2:Unit:=()
   have mk3:Unit:=()
   go_wp2_with(first|go_skip|(refine wpList_loadP 0 HM (by rfl) _ _ rfl _ 0 rfl rfl (endA c.a v.a) (by kernel_rfl) _ uE.out rfl (by exact zend) ?_)|(refine wpList_loadP 0 HM (by rfl) _ _ rfl _ 28 rfl rfl (endA c.b v.b) (by kernel_rfl) _ uE.out rfl (by exact zend) ?_)|(go_at_call 106;clear mk2;refine(cA.out _ HM.out.below).mono ?_;rintro r w3 ⟨rfl,hb_⟩;replace p0:=((HM.out.keep hb_).cell 0 rfl 0).trans ((HM.out.cell 0 rfl 0).symm.trans p0);replace p1:=((HM.out.keep hb_).cell 0 rfl 1).trans ((HM.out.cell 0 rfl 1).symm.trans p1);replace q0:=((HM.out.keep hb_).cell 0 rfl 28).trans ((HM.out.cell 0 rfl 28).symm.trans q0);replace q1:=((HM.out.keep hb_).cell 0 rfl 29).trans ((HM.out.cell 0 rfl 29).symm.trans q1);replace p4:=((HM.out.keep hb_).cell 0 rfl 4).trans ((HM.out.cell 0 rfl 4).symm.trans p4);replace q4:=((HM.out.keep hb_).cell 0 rfl 32).trans ((HM.out.cell 0 rfl 32).symm.trans q4);replace HM:=Zh (HM.out.keep hb_);replace hF:=Zh (hFs.keep hF.out hb_);clear hb_;dsimp only)|(go_at_call 106;clear mk3;refine(cB.out _ HM.out.below).mono ?_;rintro r w3 ⟨rfl,hb_⟩;replace p0:=((HM.out.keep hb_).cell 0 rfl 0).trans ((HM.out.cell 0 rfl 0).symm.trans p0);replace p1:=((HM.out.keep hb_).cell 0 rfl 1).trans ((HM.out.cell 0 rfl 1).symm.trans p1);replace q0:=((HM.out.keep hb_).cell 0 rfl 28).trans ((HM.out.cell 0 rfl 28).symm.trans q0);replace q1:=((HM.out.keep hb_).cell 0 rfl 29).trans ((HM.out.cell 0 rfl 29).symm.trans q1);replace p4:=((HM.out.keep hb_).cell 0 rfl 4).trans ((HM.out.cell 0 rfl 4).symm.trans p4);replace q4:=((HM.out.keep hb_).cell 0 rfl 32).trans ((HM.out.cell 0 rfl 32).symm.trans q4);replace HM:=Zh (HM.out.keep hb_);replace hF:=Zh (hFs.keep hF.out hb_);clear hb_;dsimp only)|fail)
   go_meet
   exact⟨by rw[hq.out];rfl,HM⟩
 case rest=>
  clear HM hF hFs F0 p0 p1 q0 q1 p4 q4 cA cB
  obtain⟨rfl,HM⟩:=hcut
  obtain⟨F0,hFs,hF⟩:∃F:World→Prop,Stb F∧Hid (F wc):=⟨_,Stb.true,trivial⟩
  clear hQ
  cases Q
  case false=>
   have hh:R=false:=by rw[hR.out];rfl
   subst hh
   go_wp2_with fail
   try simp only[Exit.inBlock,Exit.then]
   go_ret
   exact⟨by first|rfl|trivial,HM.out.below⟩
  go_upto_region 3 with fail
  have mk2:Unit:=()
  have mk3:Unit:=()
  go_upto_region 4 with(first|go_skip|(refine wpList_loadP 0 HM (by rfl) _ _ rfl _ 56 rfl rfl (tabA c.left v.l) (by kernel_rfl) _ uT.out rfl (by exact ztab) ?_)|(refine wpList_loadP 0 HM (by rfl) _ _ rfl _ 0 rfl rfl (endA c.a v.a) (by kernel_rfl) _ uE.out rfl (by exact zend) ?_)|(go_at_call 51;clear mk2;refine(cF.out _ HM.out.below).mono ?_;rintro r w3 ⟨v1,rfl,hT1,hb_⟩;replace HM:=Zh (HM.out.keep hb_);replace hF:=Zh (hFs.keep hF.out hb_);clear hb_;dsimp only)|(clear mk3;refine wpList_allocN HM rfl 29 rfl tabInfo ?_;clear HM;intro g9 w1 HM hG hN9;replace hF:=Zh (hFs.keep hF.out hG.out);clear hG hN9)|(refine wpList_storeF 0 HM rfl _ _ _ rfl _ rfl rfl _ rfl (by exact ztab) (by rfl) (by rfl) ?_;have hBq:=HM.out.at_ 0 rfl;clear HM;intro w4 HM hG4;simp only[List.set]at HM;replace hF:=Zh (hFs.put hF.out hBq (by decide) (by decide) hG4.out);clear hBq hG4)|fail)
  clear hT1 cF
  have mk4:Unit:=()
  have mk5:Unit:=()
  go_upto_region 5 with(first|go_skip|(refine wpList_loadP 1 HM (by rfl) _ _ rfl _ 59 rfl rfl (tabA c.right v.r) (by kernel_rfl) _ uT.out rfl (by exact ztab) ?_)|(refine wpList_loadP 1 HM (by rfl) _ _ rfl _ 28 rfl rfl (endA c.b v.b) (by kernel_rfl) _ uE.out rfl (by exact zend) ?_)|(go_at_call 51;clear mk4;refine(cG.out _ HM.out.below).mono ?_;rintro r w3 ⟨v2,rfl,hT2,hb_⟩;replace HM:=Zh (HM.out.keep hb_);replace hF:=Zh (hFs.keep hF.out hb_);clear hb_;dsimp only)|(clear mk5;refine wpList_allocN HM rfl 29 rfl tabInfo ?_;clear HM;intro g11 w1 HM hG hN9;replace hF:=Zh (hFs.keep hF.out hG.out);clear hG hN9)|(refine wpList_storeF 0 HM rfl _ _ _ rfl _ rfl rfl _ rfl (by exact ztab) (by rfl) (by rfl) ?_;have hBq:=HM.out.at_ 0 rfl;clear HM;intro w4 HM hG4;simp only[List.set]at HM;replace hF:=Zh (hFs.put hF.out hBq (by decide) (by decide) hG4.out);clear hBq hG4)|fail)
  clear hT2 cG
  have l0:World.cell? _ ⟨gc,57,none⟩=some (.int .i64 c.left.length):=HM.out.cell 2 rfl 57
  have l1:World.cell? _ ⟨gc,60,none⟩=some (.int .i64 c.right.length):=HM.out.cell 2 rfl 60
  by_cases e5:C3=0
  case neg=>
   have d5:(C3==0)=false:=by rw[beq_eq_false_iff_ne];exact e5
   have hh:R=false:=by rw[hR.out];simp[e5]
   subst hh
   replace e5:=Zh e5
   go_wp2_with fail
   try simp only[Exit.inBlock,Exit.then]
   go_ret
   exact⟨by first|rfl|trivial,HM.out.below⟩
  have d5:(C3==0)=true:=by rw[beq_iff_eq];exact e5
  have e9:=hT.out e5
  clear hT
  have d9:(C5==0)=true:=by rw[beq_iff_eq];exact e9
  by_cases e6:C4=0
  case' neg=>
   have d6:(C4==0)=false:=by rw[beq_eq_false_iff_ne];exact e6
   have hh:R=false:=by rw[hR.out];simp[e6]
   subst hh
   replace e6:=Zh e6
  case' pos=>
   have d6:(C4==0)=true:=by rw[beq_iff_eq];exact e6
   by_cases e7:c.left.length=c.right.length
   case' neg=>
    have d7:(c.left.length==c.right.length)=false:=by rw[beq_eq_false_iff_ne];exact e7
    have hh:R=false:=by rw[hR.out];simp[e7]
    subst hh
    replace e6:=Zh e6
    replace e7:=Zh e7
   case' pos=>
    have d7:(c.left.length==c.right.length)=true:=by rw[beq_iff_eq];exact e7
    have hh:R=true:=by rw[hR.out];simp[e5,e6,e7]
    subst hh
    replace e6:=Zh e6
    replace e7:=Zh e7
  all_goals
   replace e5:=Zh e5
   replace e9:=Zh e9
   have mk6:Unit:=()
   go_wp2_with(first|go_skip|(refine wpList_loadP 2 HM (by rfl) _ _ rfl _ 56 rfl rfl (tabA c.left v.l) (by kernel_rfl) _ uT.out rfl (by exact ztab) ?_)|(go_at_call 110;clear mk6;refine(cK.out _ HM.out.below).mono ?_;rintro r w3 ⟨rfl,hb_⟩;replace l0:=((HM.out.keep hb_).cell 2 rfl 57).trans ((HM.out.cell 2 rfl 57).symm.trans l0);replace l1:=((HM.out.keep hb_).cell 2 rfl 60).trans ((HM.out.cell 2 rfl 60).symm.trans l1);replace HM:=Zh (HM.out.keep hb_);replace hF:=Zh (hFs.keep hF.out hb_);clear hb_;dsimp only)|fail)
   try simp only[Exit.inBlock,Exit.then]
   go_ret
   exact⟨by first|rfl|trivial,HM.out.below⟩
theorem chkCp_any(c:Cpl)(v:CplV)(w:World)(h:CplIs w v c):Calls Tryz.prog 32 #[.agg (cplA c v)] w fun r w'=>r= .returned (.int .i64 (chkCp c))∧Below w.heap.size w w':=by
 have HM:=Zh (Mem.start w)
 obtain⟨F0,hFs,hF⟩:∃F:World→Prop,Stb F∧Hid (F w):=⟨_,Stb.true,trivial⟩
 have uE:=Tryz.underlying27
 have uT:=Tryz.underlying29
 have uM:=Tryz.underlying25
 have uC:=Tryz.underlying57
 have hR:chkCp c=if(withR c.period 1 4096&&withR c.frame 0 1099511627776)=true then(if pairC c=false then 1 else 0)else 2:=by
  unfold chkCp withR
  by_cases hq:c.period<1∨4096<c.period∨c.frame<0∨1099511627776<c.frame
  ·have h1:¬((decide (1≤c.period)&&decide (c.period≤4096))&&(decide (0≤c.frame)&&decide (c.frame≤1099511627776)))=true:=by
    simp only[Bool.and_eq_true,decide_eq_true_eq]
    omega
   rw[if_pos hq,if_neg h1]
  ·have h1:((decide (1≤c.period)&&decide (c.period≤4096))&&(decide (0≤c.frame)&&decide (c.frame≤1099511627776)))=true:=by
    simp only[Bool.and_eq_true,decide_eq_true_eq]
    omega
   rw[if_neg hq,if_pos h1]
 have c1:=fun W=>rwith_any c.period 1 4096 W
 have c2:=fun W=>rwith_any c.frame 0 1099511627776 W
 have cP:=fun W (hb:Below w.heap.size w W)=>pairP_any c v W (h.keep hb)
 generalize chkCp c=R at*
 generalize withR c.period 1 4096=B1 at*
 generalize withR c.frame 0 1099511627776=B2 at*
 generalize pairC c=B3 at*
 replace cP:=Zh cP
 replace h:=Zh h
 replace c1:=Zh c1
 replace c2:=Zh c2
 replace hR:=Zh hR
 replace uE:=Zh uE
 replace uT:=Zh uT
 replace uM:=Zh uM
 replace uC:=Zh uC
 go_enter Tryz.func32,Tryz.ntmps32
 have mk1:Unit:=()
 go_upto_region 1 with(first|go_skip|(clear mk1;refine wpList_boxA HM rfl 57 _ rfl _ rfl ?_;clear HM;intro gc w1 HM hG;replace hF:=Zh (hFs.keep hF.out hG.out);clear hG)|fail)
 have p0:World.cell? _ ⟨gc,63,none⟩=some (.int .i64 c.period):=HM.out.cell 0 rfl 63
 have p1:World.cell? _ ⟨gc,64,none⟩=some (.int .i64 c.frame):=HM.out.cell 0 rfl 64
 cases B1
 case' false=>
  have hh:R=2:=by rw[hR.out];simp
  subst hh
 case' true=>
  cases B2
  case' false=>
   have hh:R=2:=by rw[hR.out];simp
   subst hh
  case' true=>
   cases B3
   case' false=>
    have hh:R=1:=by rw[hR.out];simp
    subst hh
   case' true=>
    have hh:R=0:=by rw[hR.out];simp
    subst hh
 all_goals
  have mk2:Unit:=()
  have mk3:Unit:=()
  have mk4:Unit:=()
  go_wp2_with(first|go_skip|(refine wpList_loadG 0 HM (by rfl) _ _ rfl _ rfl rfl _ uC.out rfl (by exact zcp) ?_)|(go_at_call 87;clear mk2;refine(c1.out _).mono ?_;rintro e w_ ⟨rfl,rfl⟩)|(go_at_call 87;clear mk3;refine(c2.out _).mono ?_;rintro e w_ ⟨rfl,rfl⟩)|(go_at_call 88;clear mk4;refine(cP.out _ HM.out.below).mono ?_;rintro r w3 ⟨rfl,hb_⟩;replace HM:=Zh (HM.out.keep hb_);replace hF:=Zh (hFs.keep hF.out hb_);clear hb_;dsimp only)|fail)
  try simp only[Exit.inBlock,Exit.then]
  go_ret
  exact⟨by first|rfl|trivial,HM.out.below⟩
end Tx
end Go.Proofs.YtggpaahhgchloaaGreat
