/- Chapter 28: the law Steps. -/
import Derived.Test.YtfamifgchgolpaaGreatSr
import Derived.Test.YtfamifgchgolpaaGreatUb
set_option linter.unusedVariables false
set_option linter.unusedSimpArgs false
set_option maxRecDepth 100000
set_option maxHeartbeats 16000000
namespace Go.Proofs.YtfamifgchgolpaaGreat
open Go Go.RowKit Go.Sort Go.Shelf Go.Maps
namespace Tx
open Sw Mm Pl
theorem few_small2 {t:Tab}(h:fewT t=true)(hT:TabOk t):Small2 t:=by
 unfold fewT fewC at h
 simp only[Bool.and_eq_true,Bool.or_eq_true,decide_eq_true_eq]at h
 have h1:=hT.size
 have h2:=hT.len
 exact⟨by omega,by omega⟩
theorem few_cp {c:Cpl} {nf:Nat}(h:fewCp c nf=true):nf≤1048576∧(chkCp c=0→Small2 c.left∧Small2 c.right):=by
 unfold fewCp at h
 simp only[Bool.and_eq_true,decide_eq_true_eq]at h
 obtain⟨_,_,h1,h2,h3⟩:=h
 exact⟨by omega,fun e=>⟨few_small2 h1 (chkCp_iff.1 e).2.fa.tab,few_small2 h2 (chkCp_iff.1 e).2.fb.tab⟩⟩
theorem lawSteps_any(c:Cpl)(x:Wsh)(v:CplV)(w:World)(h:CplIs w v c):Calls Tryz.prog 6 #[.agg (cplA c v),.agg (wshA x)] w fun r w'=>r= .returned (.bool true)∧Below w.heap.size w w':=by
 have I:=Zh (Mem.start w)
 obtain⟨F0,q_,J⟩:∃F:World→Prop,Stc F∧Hid (F w):=⟨_,Stc.true,trivial⟩
 have uC:=Tryz.underlying70
 have uW:=Tryz.underlying42
 have cAw:=fun W=>awake28_any W
 have cFw:=fun W (hb:Below w.heap.size w W)=>fewCp_any c v W (h.keep hb)
 have cS:=fun hn hs W (hb:Below w.heap.size w W)=>StepP_any c v x W (h.keep hb) hn hs
 unfold StpPost at cS
 have cR:=fun hs W (hb:Below w.heap.size w W)=>rStep_any c v x W (h.keep hb) hs
 unfold RStPost at cR
 have cQ:=fun d vd ve W (h1:CplIs W vd d) (h2:CplIs W ve d)=>sameC_any d d vd ve W h1 h2
 simp only[eq_self,decide_true]at cQ
 have hfew:=fun(e:fewCp c v.nf=true)=>few_cp e
 generalize stpN c x=N9 at*
 generalize stpC c=E9 at*
 generalize fewCp c v.nf=B1 at*
 refine zh9 ?_ h cAw cFw cS cR cQ hfew uC uW;clear h cAw cFw cS cR cQ hfew uC uW;intro h cAw cFw cS cR cQ hfew uC uW
 go_enter Tryz.func6,Tryz.ntmps6
 have mk1:Unit:=()
 have mk2:Unit:=()
 go_upto_region 1 with(first|go_skip|(clear mk1;refine q_.b I J 70 ?_;clear I J;intro gc w1 I J)|(clear mk2;refine q_.b I J 42 ?_;clear I J;intro gw w1 I J)|fail)
 have mk3:Unit:=()
 go_upto_region 3 with(first|go_skip|(go_at_call 29;clear mk3;refine q_.k I J (cAw _) ?_;clear I J;intro w3 I J;dsimp only)|fail)
 cases B1
 case false=>
  have mk4:Unit:=()
  go_wp2_with(first|go_skip|(refine lG 1 I uC.out ?_)|(go_at_call 30;clear mk4;refine q_.k I J (cFw _ I.below) ?_;clear I J;intro w3 I J;dsimp only)|fail)
  try simp only[Exit.inBlock,Exit.then]
  go_ret
  exact⟨by first|rfl|trivial,I.below⟩
 obtain⟨hn,hs⟩:=hfew.out rfl
 have cS2:=Zh (cS hn hs)
 have cR2:=Zh (cR hs)
 clear hfew cS cR hn hs
 have mk4:Unit:=()
 go_upto_region 5 with(first|go_skip|(refine lG 1 I uC.out ?_)|(go_at_call 30;clear mk4;refine q_.k I J (cFw _ I.below) ?_;clear I J;intro w3 I J;dsimp only)|fail)
 clear cFw cAw
 have mk5:Unit:=()
 have mk6:Unit:=()
 go_upto_region 6 with(first|go_skip|(refine lG 1 I uC.out ?_)|(refine lG 0 I uW.out ?_)|(go_at_call 31;clear mk5;refine(cS2 _ I.below).mono ?_;rintro r w3 ⟨v1,rfl,hC5,p_⟩;replace I:=Zm I p_;replace J:=q_.z J p_;clear p_;refine sC q_ J (Stc.cplOwn v1 _) hC5 ?_;clear q_ J hC5;intro F1 q_ J hU gC;clear hU;dsimp only)|(clear mk6;refine q_.a I J cpInfo ?_;clear I J;intro g5 w1 I J)|(refine q_.s 0 I J ?_;clear I J;intro w4 I J;simp only[List.set]at I)|fail)
 have mk7:Unit:=()
 have mk8:Unit:=()
 go_upto_region 7 with(first|go_skip|(refine lG 2 I uC.out ?_)|(refine lG 1 I uW.out ?_)|(go_at_call 32;clear mk7;refine(cR2 _ I.below).mono ?_;rintro r w3 ⟨v2,rfl,hA5,hB5,hr,p_⟩;replace hr:=Zh hr;replace I:=Zm I p_;replace J:=q_.z J p_;clear p_;refine sC q_ J (Stc.ownC _ _ _ _) hA5 ?_;clear q_ J hA5;intro F2 q_ J hU gA;replace gC:=Zu gC hU;clear hU;refine sC q_ J (Stc.ownC _ _ _ _) hB5 ?_;clear q_ J hB5;intro F3 q_ J hU gB;replace gC:=Zu gC hU;replace gA:=Zu gA hU;clear hU;dsimp only)|(clear mk8;refine q_.a I J cpInfo ?_;clear I J;intro g7 w1 I J)|(refine q_.s 0 I J ?_;clear I J;intro w4 I J;simp only[List.set]at I)|fail)
 have mk9:Unit:=()
 go_wp2_with(first|go_skip|(refine lG 1 I uC.out ?_)|(refine lG 0 I uC.out ?_)|(go_at_call 33;clear mk9;refine q_.k I J (cQ N9 v1 v2 _ (gC _ J).is (hr.is h.out I.below (gA _ J) (gB _ J))) ?_;clear I J;intro w3 I J;dsimp only)|fail)
 try simp only[Exit.inBlock,Exit.then]
 go_ret
 exact⟨by first|rfl|trivial,I.below⟩
end Tx
end Go.Proofs.YtfamifgchgolpaaGreat
