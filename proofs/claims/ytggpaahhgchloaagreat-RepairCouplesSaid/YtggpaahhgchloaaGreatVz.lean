/- Chapter 27: Consistent, Detects, Pair: the reference's. -/
import Derived.Test.YtggpaahhgchloaaGreatCx
import Derived.Test.YtggpaahhgchloaaGreatVe
set_option linter.unusedVariables false
set_option linter.unusedSimpArgs false
set_option maxRecDepth 100000
set_option maxHeartbeats 4000000
namespace Go.Proofs.YtggpaahhgchloaaGreat
open Go Go.RowKit Go.Sort Go.Shelf Go.Maps
namespace Tx
open Sw Mm Pl
theorem ends_any(a b:Ed)(va vb:EdV)(w:World)(h1:EdIs w va a)(h2:EdIs w vb b):Calls Tryz.prog 96 #[.agg (endA a va),.agg (endA b vb)] w fun r w'=>r= .returned (.bool (pairB a b))∧Below w.heap.size w w':=by
 have HM:=Zh (Mem.start w)
 obtain⟨F0,hFs,hF⟩:∃F:World→Prop,Stb F∧Hid (F w):=⟨_,Stb.true,trivial⟩
 have uE:=Tryz.underlying27
 have uT:=Tryz.underlying29
 have uM:=Tryz.underlying25
 have hR:pairB a b=(decide (chkE a=0)&&(decide (chkE b=0)&&(decide (a.node=b.peer)&&decide (a.peer=b.node)))):=rfl
 have cA:=fun W (hb:Below w.heap.size w W)=>rchkE_any a va W (h1.keep hb)
 have cB:=fun W (hb:Below w.heap.size w W)=>rchkE_any b vb W (h2.keep hb)
 rw[rChkE_eq]at cA cB
 generalize pairB a b=R at*
 generalize chkE a=C1 at*
 generalize chkE b=C2 at*
 replace cA:=Zh cA
 replace cB:=Zh cB
 replace h1:=Zh h1
 replace h2:=Zh h2
 replace hR:=Zh hR
 replace uE:=Zh uE
 replace uT:=Zh uT
 replace uM:=Zh uM
 go_enter Tryz.func96,Tryz.ntmps96
 have mk1:Unit:=()
 have mk2:Unit:=()
 go_upto_region 1 with(first|go_skip|(clear mk1;refine wpList_boxA HM rfl 27 _ rfl _ rfl ?_;clear HM;intro ga w1 HM hG;replace hF:=Zh (hFs.keep hF.out hG.out);clear hG)|(clear mk2;refine wpList_boxA HM rfl 27 _ rfl _ rfl ?_;clear HM;intro gb w1 HM hG;replace hF:=Zh (hFs.keep hF.out hG.out);clear hG)|fail)
 have p0:World.cell? _ ⟨ga,0,none⟩=some (.int .i64 a.node):=HM.out.cell 1 rfl 0
 have p1:World.cell? _ ⟨ga,1,none⟩=some (.int .i64 a.peer):=HM.out.cell 1 rfl 1
 have q0:World.cell? _ ⟨gb,0,none⟩=some (.int .i64 b.node):=HM.out.cell 0 rfl 0
 have q1:World.cell? _ ⟨gb,1,none⟩=some (.int .i64 b.peer):=HM.out.cell 0 rfl 1
 have mkz:Unit:=()
 by_cases e1:C1=0
 case neg=>
  have d1:(C1==0)=false:=by rw[beq_eq_false_iff_ne];exact e1
  have hh:R=false:=by rw[hR.out];simp[e1]
  subst hh
  replace e1:=Zh e1
  have mk3:Unit:=()
  have mk4:Unit:=()
  go_wp2_with(first|go_skip|(refine wpList_loadG 1 HM (by rfl) _ _ rfl _ rfl rfl _ uE.out rfl (by exact zend) ?_)|(refine wpList_loadG 0 HM (by rfl) _ _ rfl _ rfl rfl _ uE.out rfl (by exact zend) ?_)|(go_at_call 121;clear mk3;refine(cA.out _ HM.out.below).mono ?_;rintro r w3 ⟨rfl,hb_⟩;replace p0:=((HM.out.keep hb_).cell 1 rfl 0).trans ((HM.out.cell 1 rfl 0).symm.trans p0);replace p1:=((HM.out.keep hb_).cell 1 rfl 1).trans ((HM.out.cell 1 rfl 1).symm.trans p1);replace q0:=((HM.out.keep hb_).cell 0 rfl 0).trans ((HM.out.cell 0 rfl 0).symm.trans q0);replace q1:=((HM.out.keep hb_).cell 0 rfl 1).trans ((HM.out.cell 0 rfl 1).symm.trans q1);replace HM:=Zh (HM.out.keep hb_);replace hF:=Zh (hFs.keep hF.out hb_);clear hb_;dsimp only)|(go_at_call 121;clear mk4;refine(cB.out _ HM.out.below).mono ?_;rintro r w3 ⟨rfl,hb_⟩;replace p0:=((HM.out.keep hb_).cell 1 rfl 0).trans ((HM.out.cell 1 rfl 0).symm.trans p0);replace p1:=((HM.out.keep hb_).cell 1 rfl 1).trans ((HM.out.cell 1 rfl 1).symm.trans p1);replace q0:=((HM.out.keep hb_).cell 0 rfl 0).trans ((HM.out.cell 0 rfl 0).symm.trans q0);replace q1:=((HM.out.keep hb_).cell 0 rfl 1).trans ((HM.out.cell 0 rfl 1).symm.trans q1);replace HM:=Zh (HM.out.keep hb_);replace hF:=Zh (hFs.keep hF.out hb_);clear hb_;dsimp only)|fail)
  try simp only[Exit.inBlock,Exit.then]
  go_ret
  exact⟨by first|rfl|trivial,HM.out.below⟩
 have d1:(C1==0)=true:=by rw[beq_iff_eq];exact e1
 by_cases e2:C2=0
 case neg=>
  have d2:(C2==0)=false:=by rw[beq_eq_false_iff_ne];exact e2
  have hh:R=false:=by rw[hR.out];simp[e2]
  subst hh
  replace e1:=Zh e1
  replace e2:=Zh e2
  have mk3:Unit:=()
  have mk4:Unit:=()
  go_wp2_with(first|go_skip|(refine wpList_loadG 1 HM (by rfl) _ _ rfl _ rfl rfl _ uE.out rfl (by exact zend) ?_)|(refine wpList_loadG 0 HM (by rfl) _ _ rfl _ rfl rfl _ uE.out rfl (by exact zend) ?_)|(go_at_call 121;clear mk3;refine(cA.out _ HM.out.below).mono ?_;rintro r w3 ⟨rfl,hb_⟩;replace p0:=((HM.out.keep hb_).cell 1 rfl 0).trans ((HM.out.cell 1 rfl 0).symm.trans p0);replace p1:=((HM.out.keep hb_).cell 1 rfl 1).trans ((HM.out.cell 1 rfl 1).symm.trans p1);replace q0:=((HM.out.keep hb_).cell 0 rfl 0).trans ((HM.out.cell 0 rfl 0).symm.trans q0);replace q1:=((HM.out.keep hb_).cell 0 rfl 1).trans ((HM.out.cell 0 rfl 1).symm.trans q1);replace HM:=Zh (HM.out.keep hb_);replace hF:=Zh (hFs.keep hF.out hb_);clear hb_;dsimp only)|(go_at_call 121;clear mk4;refine(cB.out _ HM.out.below).mono ?_;rintro r w3 ⟨rfl,hb_⟩;replace p0:=((HM.out.keep hb_).cell 1 rfl 0).trans ((HM.out.cell 1 rfl 0).symm.trans p0);replace p1:=((HM.out.keep hb_).cell 1 rfl 1).trans ((HM.out.cell 1 rfl 1).symm.trans p1);replace q0:=((HM.out.keep hb_).cell 0 rfl 0).trans ((HM.out.cell 0 rfl 0).symm.trans q0);replace q1:=((HM.out.keep hb_).cell 0 rfl 1).trans ((HM.out.cell 0 rfl 1).symm.trans q1);replace HM:=Zh (HM.out.keep hb_);replace hF:=Zh (hFs.keep hF.out hb_);clear hb_;dsimp only)|fail)
  try simp only[Exit.inBlock,Exit.then]
  go_ret
  exact⟨by first|rfl|trivial,HM.out.below⟩
 have d2:(C2==0)=true:=by rw[beq_iff_eq];exact e2
 by_cases e3:a.node=b.peer
 case neg=>
  have d3:(a.node==b.peer)=false:=by rw[beq_eq_false_iff_ne];exact e3
  have hh:R=false:=by rw[hR.out];simp[e3]
  subst hh
  replace e1:=Zh e1
  replace e2:=Zh e2
  replace e3:=Zh e3
  have mk3:Unit:=()
  have mk4:Unit:=()
  go_wp2_with(first|go_skip|(refine wpList_loadG 1 HM (by rfl) _ _ rfl _ rfl rfl _ uE.out rfl (by exact zend) ?_)|(refine wpList_loadG 0 HM (by rfl) _ _ rfl _ rfl rfl _ uE.out rfl (by exact zend) ?_)|(go_at_call 121;clear mk3;refine(cA.out _ HM.out.below).mono ?_;rintro r w3 ⟨rfl,hb_⟩;replace p0:=((HM.out.keep hb_).cell 1 rfl 0).trans ((HM.out.cell 1 rfl 0).symm.trans p0);replace p1:=((HM.out.keep hb_).cell 1 rfl 1).trans ((HM.out.cell 1 rfl 1).symm.trans p1);replace q0:=((HM.out.keep hb_).cell 0 rfl 0).trans ((HM.out.cell 0 rfl 0).symm.trans q0);replace q1:=((HM.out.keep hb_).cell 0 rfl 1).trans ((HM.out.cell 0 rfl 1).symm.trans q1);replace HM:=Zh (HM.out.keep hb_);replace hF:=Zh (hFs.keep hF.out hb_);clear hb_;dsimp only)|(go_at_call 121;clear mk4;refine(cB.out _ HM.out.below).mono ?_;rintro r w3 ⟨rfl,hb_⟩;replace p0:=((HM.out.keep hb_).cell 1 rfl 0).trans ((HM.out.cell 1 rfl 0).symm.trans p0);replace p1:=((HM.out.keep hb_).cell 1 rfl 1).trans ((HM.out.cell 1 rfl 1).symm.trans p1);replace q0:=((HM.out.keep hb_).cell 0 rfl 0).trans ((HM.out.cell 0 rfl 0).symm.trans q0);replace q1:=((HM.out.keep hb_).cell 0 rfl 1).trans ((HM.out.cell 0 rfl 1).symm.trans q1);replace HM:=Zh (HM.out.keep hb_);replace hF:=Zh (hFs.keep hF.out hb_);clear hb_;dsimp only)|fail)
  try simp only[Exit.inBlock,Exit.then]
  go_ret
  exact⟨by first|rfl|trivial,HM.out.below⟩
 have d3:(a.node==b.peer)=true:=by rw[beq_iff_eq];exact e3
 by_cases e4:a.peer=b.node
 case neg=>
  have d4:(a.peer==b.node)=false:=by rw[beq_eq_false_iff_ne];exact e4
  have hh:R=false:=by rw[hR.out];simp[e4]
  subst hh
  replace e1:=Zh e1
  replace e2:=Zh e2
  replace e3:=Zh e3
  replace e4:=Zh e4
  have mk3:Unit:=()
  have mk4:Unit:=()
  go_wp2_with(first|go_skip|(refine wpList_loadG 1 HM (by rfl) _ _ rfl _ rfl rfl _ uE.out rfl (by exact zend) ?_)|(refine wpList_loadG 0 HM (by rfl) _ _ rfl _ rfl rfl _ uE.out rfl (by exact zend) ?_)|(go_at_call 121;clear mk3;refine(cA.out _ HM.out.below).mono ?_;rintro r w3 ⟨rfl,hb_⟩;replace p0:=((HM.out.keep hb_).cell 1 rfl 0).trans ((HM.out.cell 1 rfl 0).symm.trans p0);replace p1:=((HM.out.keep hb_).cell 1 rfl 1).trans ((HM.out.cell 1 rfl 1).symm.trans p1);replace q0:=((HM.out.keep hb_).cell 0 rfl 0).trans ((HM.out.cell 0 rfl 0).symm.trans q0);replace q1:=((HM.out.keep hb_).cell 0 rfl 1).trans ((HM.out.cell 0 rfl 1).symm.trans q1);replace HM:=Zh (HM.out.keep hb_);replace hF:=Zh (hFs.keep hF.out hb_);clear hb_;dsimp only)|(go_at_call 121;clear mk4;refine(cB.out _ HM.out.below).mono ?_;rintro r w3 ⟨rfl,hb_⟩;replace p0:=((HM.out.keep hb_).cell 1 rfl 0).trans ((HM.out.cell 1 rfl 0).symm.trans p0);replace p1:=((HM.out.keep hb_).cell 1 rfl 1).trans ((HM.out.cell 1 rfl 1).symm.trans p1);replace q0:=((HM.out.keep hb_).cell 0 rfl 0).trans ((HM.out.cell 0 rfl 0).symm.trans q0);replace q1:=((HM.out.keep hb_).cell 0 rfl 1).trans ((HM.out.cell 0 rfl 1).symm.trans q1);replace HM:=Zh (HM.out.keep hb_);replace hF:=Zh (hFs.keep hF.out hb_);clear hb_;dsimp only)|fail)
  try simp only[Exit.inBlock,Exit.then]
  go_ret
  exact⟨by first|rfl|trivial,HM.out.below⟩
 have d4:(a.peer==b.node)=true:=by rw[beq_iff_eq];exact e4
 have hh:R=true:=by rw[hR.out];simp[e1,e2,e3,e4]
 subst hh
 replace e1:=Zh e1
 replace e2:=Zh e2
 replace e3:=Zh e3
 replace e4:=Zh e4
 have mk3:Unit:=()
 have mk4:Unit:=()
 go_wp2_with(first|go_skip|(refine wpList_loadG 1 HM (by rfl) _ _ rfl _ rfl rfl _ uE.out rfl (by exact zend) ?_)|(refine wpList_loadG 0 HM (by rfl) _ _ rfl _ rfl rfl _ uE.out rfl (by exact zend) ?_)|(go_at_call 121;clear mk3;refine(cA.out _ HM.out.below).mono ?_;rintro r w3 ⟨rfl,hb_⟩;replace p0:=((HM.out.keep hb_).cell 1 rfl 0).trans ((HM.out.cell 1 rfl 0).symm.trans p0);replace p1:=((HM.out.keep hb_).cell 1 rfl 1).trans ((HM.out.cell 1 rfl 1).symm.trans p1);replace q0:=((HM.out.keep hb_).cell 0 rfl 0).trans ((HM.out.cell 0 rfl 0).symm.trans q0);replace q1:=((HM.out.keep hb_).cell 0 rfl 1).trans ((HM.out.cell 0 rfl 1).symm.trans q1);replace HM:=Zh (HM.out.keep hb_);replace hF:=Zh (hFs.keep hF.out hb_);clear hb_;dsimp only)|(go_at_call 121;clear mk4;refine(cB.out _ HM.out.below).mono ?_;rintro r w3 ⟨rfl,hb_⟩;replace p0:=((HM.out.keep hb_).cell 1 rfl 0).trans ((HM.out.cell 1 rfl 0).symm.trans p0);replace p1:=((HM.out.keep hb_).cell 1 rfl 1).trans ((HM.out.cell 1 rfl 1).symm.trans p1);replace q0:=((HM.out.keep hb_).cell 0 rfl 0).trans ((HM.out.cell 0 rfl 0).symm.trans q0);replace q1:=((HM.out.keep hb_).cell 0 rfl 1).trans ((HM.out.cell 0 rfl 1).symm.trans q1);replace HM:=Zh (HM.out.keep hb_);replace hF:=Zh (hFs.keep hF.out hb_);clear hb_;dsimp only)|fail)
 try simp only[Exit.inBlock,Exit.then]
 go_ret
 exact⟨by first|rfl|trivial,HM.out.below⟩
theorem pairR_any(a b:Ed)(ta tb:Tab)(va vb:EdV)(vta vtb:TabV)(w:World)(h1:EdIs w va a)(h2:EdIs w vb b)(t1:TabIs w vta ta)(t2:TabIs w vtb tb):Calls Tryz.prog 82 #[.agg (endA a va),.agg (endA b vb),.agg (tabA ta vta),.agg (tabA tb vtb)] w fun r w'=>r= .returned (.bool (idleB a b ta tb))∧Below w.heap.size w w':=by
 have HM:=Zh (Mem.start w)
 obtain⟨F0,hFs,hF⟩:∃F:World→Prop,Stb F∧Hid (F w):=⟨_,Stb.true,trivial⟩
 have uE:=Tryz.underlying27
 have uT:=Tryz.underlying29
 have uM:=Tryz.underlying25
 have hR:idleB a b ta tb=(pairB a b&&(decide (ta.length=tb.length)&&(decide (fullC ta a=0)&&decide (fullC tb b=0)))):=rfl
 have cP:=fun W (hb:Below w.heap.size w W)=>ends_any a b va vb W (h1.keep hb) (h2.keep hb)
 have cF:=fun W (hb:Below w.heap.size w W)=>rfull_any ta a vta va W (t1.keep hb) (h1.keep hb)
 have cG:=fun W (hb:Below w.heap.size w W)=>rfull_any tb b vtb vb W (t2.keep hb) (h2.keep hb)
 unfold FullPost at cF cG
 generalize idleB a b ta tb=R at*
 generalize pairB a b=PB at*
 generalize fullC ta a=C1 at*
 generalize fullC tb b=C2 at*
 generalize fullN ta a=FU1 at*
 generalize fullN tb b=FU2 at*
 replace cP:=Zh cP
 replace cF:=Zh cF
 replace cG:=Zh cG
 replace h1:=Zh h1
 replace h2:=Zh h2
 replace t1:=Zh t1
 replace t2:=Zh t2
 replace hR:=Zh hR
 replace uE:=Zh uE
 replace uT:=Zh uT
 replace uM:=Zh uM
 go_enter Tryz.func82,Tryz.ntmps82
 have mk1:Unit:=()
 have mk2:Unit:=()
 have mk3:Unit:=()
 have mk4:Unit:=()
 go_upto_region 1 with(first|go_skip|(clear mk1;refine wpList_boxA HM rfl 27 _ rfl _ rfl ?_;clear HM;intro ga w1 HM hG;replace hF:=Zh (hFs.keep hF.out hG.out);clear hG)|(clear mk2;refine wpList_boxA HM rfl 27 _ rfl _ rfl ?_;clear HM;intro gb w1 HM hG;replace hF:=Zh (hFs.keep hF.out hG.out);clear hG)|(clear mk3;refine wpList_boxA HM rfl 29 _ rfl _ rfl ?_;clear HM;intro ta_ w1 HM hG;replace hF:=Zh (hFs.keep hF.out hG.out);clear hG)|(clear mk4;refine wpList_boxA HM rfl 29 _ rfl _ rfl ?_;clear HM;intro tb_ w1 HM hG;replace hF:=Zh (hFs.keep hF.out hG.out);clear hG)|fail)
 have p1:World.cell? _ ⟨ta_,1,none⟩=some (.int .i64 ta.length):=HM.out.cell 1 rfl 1
 have q1:World.cell? _ ⟨tb_,1,none⟩=some (.int .i64 tb.length):=HM.out.cell 0 rfl 1
 cases PB
 case false=>
  have hh:R=false:=by rw[hR.out];simp[]
  subst hh
  have mk5:Unit:=()
  go_wp2_with(first|go_skip|(refine wpList_loadG 3 HM (by rfl) _ _ rfl _ rfl rfl _ uE.out rfl (by exact zend) ?_)|(refine wpList_loadG 2 HM (by rfl) _ _ rfl _ rfl rfl _ uE.out rfl (by exact zend) ?_)|(go_at_call 96;clear mk5;refine(cP.out _ HM.out.below).mono ?_;rintro r w3 ⟨rfl,hb_⟩;replace p1:=((HM.out.keep hb_).cell 1 rfl 1).trans ((HM.out.cell 1 rfl 1).symm.trans p1);replace q1:=((HM.out.keep hb_).cell 0 rfl 1).trans ((HM.out.cell 0 rfl 1).symm.trans q1);replace HM:=Zh (HM.out.keep hb_);replace hF:=Zh (hFs.keep hF.out hb_);clear hb_;dsimp only)|fail)
  try simp only[Exit.inBlock,Exit.then]
  go_ret
  exact⟨by first|rfl|trivial,HM.out.below⟩
 by_cases e2:ta.length=tb.length
 case neg=>
  have d2:(ta.length !=tb.length)=true:=by rw[bne_iff_ne];exact e2
  have hh:R=false:=by rw[hR.out];simp[e2]
  subst hh
  replace e2:=Zh e2
  have mk5:Unit:=()
  go_wp2_with(first|go_skip|(refine wpList_loadG 3 HM (by rfl) _ _ rfl _ rfl rfl _ uE.out rfl (by exact zend) ?_)|(refine wpList_loadG 2 HM (by rfl) _ _ rfl _ rfl rfl _ uE.out rfl (by exact zend) ?_)|(go_at_call 96;clear mk5;refine(cP.out _ HM.out.below).mono ?_;rintro r w3 ⟨rfl,hb_⟩;replace p1:=((HM.out.keep hb_).cell 1 rfl 1).trans ((HM.out.cell 1 rfl 1).symm.trans p1);replace q1:=((HM.out.keep hb_).cell 0 rfl 1).trans ((HM.out.cell 0 rfl 1).symm.trans q1);replace HM:=Zh (HM.out.keep hb_);replace hF:=Zh (hFs.keep hF.out hb_);clear hb_;dsimp only)|fail)
  try simp only[Exit.inBlock,Exit.then]
  go_ret
  exact⟨by first|rfl|trivial,HM.out.below⟩
 have d2:(ta.length !=tb.length)=false:=by rw[bne_eq_false_iff_eq];exact e2
 have mk5:Unit:=()
 go_upto_region 3 with(first|go_skip|(refine wpList_loadG 3 HM (by rfl) _ _ rfl _ rfl rfl _ uE.out rfl (by exact zend) ?_)|(refine wpList_loadG 2 HM (by rfl) _ _ rfl _ rfl rfl _ uE.out rfl (by exact zend) ?_)|(go_at_call 96;clear mk5;refine(cP.out _ HM.out.below).mono ?_;rintro r w3 ⟨rfl,hb_⟩;replace p1:=((HM.out.keep hb_).cell 1 rfl 1).trans ((HM.out.cell 1 rfl 1).symm.trans p1);replace q1:=((HM.out.keep hb_).cell 0 rfl 1).trans ((HM.out.cell 0 rfl 1).symm.trans q1);replace HM:=Zh (HM.out.keep hb_);replace hF:=Zh (hFs.keep hF.out hb_);clear hb_;dsimp only)|fail)
 clear p1 q1 cP
 have mk6:Unit:=()
 have mk7:Unit:=()
 go_upto_region 4 with(first|go_skip|(refine wpList_loadG 1 HM (by rfl) _ _ rfl _ rfl rfl _ uT.out rfl (by exact ztab) ?_)|(refine wpList_loadG 3 HM (by rfl) _ _ rfl _ rfl rfl _ uE.out rfl (by exact zend) ?_)|(go_at_call 65;clear mk6;refine(cF.out _ HM.out.below).mono ?_;rintro r w3 ⟨v1,rfl,hT1,hb_⟩;replace HM:=Zh (HM.out.keep hb_);replace hF:=Zh (hFs.keep hF.out hb_);clear hb_;dsimp only)|(clear mk7;refine wpList_allocN HM rfl 29 rfl tabInfo ?_;clear HM;intro g9 w1 HM hG hN9;replace hF:=Zh (hFs.keep hF.out hG.out);clear hG hN9)|(refine wpList_storeF 0 HM rfl _ _ _ rfl _ rfl rfl _ rfl (by exact ztab) (by rfl) (by rfl) ?_;have hBq:=HM.out.at_ 0 rfl;clear HM;intro w4 HM hG4;simp only[List.set]at HM;replace hF:=Zh (hFs.put hF.out hBq (by decide) (by decide) hG4.out);clear hBq hG4)|fail)
 clear hT1 cF
 have mk8:Unit:=()
 have mk9:Unit:=()
 go_upto_region 5 with(first|go_skip|(refine wpList_loadG 1 HM (by rfl) _ _ rfl _ rfl rfl _ uT.out rfl (by exact ztab) ?_)|(refine wpList_loadG 3 HM (by rfl) _ _ rfl _ rfl rfl _ uE.out rfl (by exact zend) ?_)|(go_at_call 65;clear mk8;refine(cG.out _ HM.out.below).mono ?_;rintro r w3 ⟨v2,rfl,hT2,hb_⟩;replace HM:=Zh (HM.out.keep hb_);replace hF:=Zh (hFs.keep hF.out hb_);clear hb_;dsimp only)|(clear mk9;refine wpList_allocN HM rfl 29 rfl tabInfo ?_;clear HM;intro g11 w1 HM hG hN9;replace hF:=Zh (hFs.keep hF.out hG.out);clear hG hN9)|(refine wpList_storeF 0 HM rfl _ _ _ rfl _ rfl rfl _ rfl (by exact ztab) (by rfl) (by rfl) ?_;have hBq:=HM.out.at_ 0 rfl;clear HM;intro w4 HM hG4;simp only[List.set]at HM;replace hF:=Zh (hFs.put hF.out hBq (by decide) (by decide) hG4.out);clear hBq hG4)|fail)
 clear hT2 cG
 by_cases e3:C1=0
 case neg=>
  have d3:(C1==0)=false:=by rw[beq_eq_false_iff_ne];exact e3
  have hh:R=false:=by rw[hR.out];simp[e3]
  subst hh
  replace e2:=Zh e2
  replace e3:=Zh e3
  go_wp2_with fail
  try simp only[Exit.inBlock,Exit.then]
  go_ret
  exact⟨by first|rfl|trivial,HM.out.below⟩
 have d3:(C1==0)=true:=by rw[beq_iff_eq];exact e3
 by_cases e4:C2=0
 case neg=>
  have d4:(C2==0)=false:=by rw[beq_eq_false_iff_ne];exact e4
  have hh:R=false:=by rw[hR.out];simp[e4]
  subst hh
  replace e2:=Zh e2
  replace e3:=Zh e3
  replace e4:=Zh e4
  go_wp2_with fail
  try simp only[Exit.inBlock,Exit.then]
  go_ret
  exact⟨by first|rfl|trivial,HM.out.below⟩
 have d4:(C2==0)=true:=by rw[beq_iff_eq];exact e4
 have hh:R=true:=by rw[hR.out];simp[e2,e3,e4]
 subst hh
 replace e2:=Zh e2
 replace e3:=Zh e3
 replace e4:=Zh e4
 go_wp2_with fail
 try simp only[Exit.inBlock,Exit.then]
 go_ret
 exact⟨by first|rfl|trivial,HM.out.below⟩
end Tx
end Go.Proofs.YtggpaahhgchloaaGreat
