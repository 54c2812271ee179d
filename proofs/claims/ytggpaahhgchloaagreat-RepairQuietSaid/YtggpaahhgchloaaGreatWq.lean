/- Chapter 28: the law Quiet. -/
import Derived.Test.YtggpaahhgchloaaGreatSr
import Derived.Test.YtggpaahhgchloaaGreatSm
import Derived.Test.YtggpaahhgchloaaGreatVy
set_option linter.unusedVariables false
set_option linter.unusedSimpArgs false
set_option maxRecDepth 100000
set_option maxHeartbeats 16000000
namespace Go.Proofs.YtggpaahhgchloaaGreat
open Go Go.RowKit Go.Sort Go.Shelf Go.Maps
namespace Tx
open Sw Mm Pl
theorem few_small2 {t:Tab}(h:fewT t=true)(hT:TabOk t):Small2 t:=by
 unfold fewT fewC at h
 simp only[Bool.and_eq_true,Bool.or_eq_true,decide_eq_true_eq]at h
 have h1:=hT.size
 have h2:=hT.len
 exact⟨by omega,by omega⟩
theorem few_cp {c:Cpl} {nf:Nat}(h:fewCp c nf=true):nf≤1048576∧(chkCp c=0→Small2 c.left∧Small2 c.right):=by
 unfold fewCp at h
 simp only[Bool.and_eq_true,decide_eq_true_eq]at h
 obtain⟨_,_,h1,h2,h3⟩:=h
 exact⟨by omega,fun e=>⟨few_small2 h1 (chkCp_iff.1 e).2.fa.tab,few_small2 h2 (chkCp_iff.1 e).2.fb.tab⟩⟩
theorem lawQuiet_any(c:Cpl)(x:Wsh)(v:CplV)(w:World)(h:CplIs w v c):Calls Tryz.prog 8 #[.agg (cplA c v),.agg (wshA x)] w fun r w'=>r= .returned (.bool true)∧Below w.heap.size w w':=by
 have HM:=Zh (Mem.start w)
 obtain⟨F0,hFs,hF⟩:∃F:World→Prop,Stc F∧Hid (F w):=⟨_,Stc.true,trivial⟩
 have uC:=Tryz.underlying57
 have uW:=Tryz.underlying68
 have uE:=Tryz.underlying27
 obtain⟨xo,xk,xn,f1,f2,f3,f4⟩:=x
 have cAw:=fun W=>awake28_any W
 have cFw:=fun W (hb:Below w.heap.size w W)=>fewCp_any c v W (h.keep hb)
 have cK:=fun W (hb:Below w.heap.size w W)=>chkCp_any c v W (h.keep hb)
 have cS:=fun y W (hb:Below w.heap.size w W) hn hsm=>StepP_any c v y W (h.keep hb) hn hsm
 unfold StpPost at cS
 have cC:=fun W (hb:Below w.heap.size w W)=>consR_any c.a c.b v.a v.b W (h.a.keep hb) (h.b.keep hb)
 have cD:=fun d vd W (hx:CplIs W vd d)=>consR_any d.a d.b vd.a vd.b W hx.a hx.b
 have cQ:=fun d e vd ve W h1 h2=>sameC_any d e vd ve W h1 h2
 have hfew:=fun(e:fewCp c v.nf=true)=>few_cp e
 have hL:=fun(e:chkCp c=0) (sl:Small2 c.left) (sr:Small2 c.right) (wa:c.wa=false) (wb:c.wb=false)=>quiet_law (w:=⟨xo,xk,xn,⟨false,false,f3,f4⟩⟩) e sl sr wa wb rfl rfl
 have hpr:=fun(e:chkCp c=0)=>(chkCp_iff.1 e).1
 have hT:=fun W (hb:Below w.heap.size w W)=>(show CplIs W v (tickC c)from⟨(h.keep hb).a,(h.keep hb).b,(h.keep hb).l,(h.keep hb).r,(h.keep hb).f,h.fc⟩)
 generalize chkCp c=C1 at*
 generalize fewCp c v.nf=B1 at*
 replace h:=Zh h
 replace cAw:=Zh cAw
 replace cFw:=Zh cFw
 replace cK:=Zh cK
 replace cS:=Zh cS
 replace cC:=Zh cC
 replace cD:=Zh cD
 replace cQ:=Zh cQ
 replace hfew:=Zh hfew
 replace hL:=Zh hL
 replace hpr:=Zh hpr
 replace hT:=Zh hT
 replace uC:=Zh uC
 replace uW:=Zh uW
 replace uE:=Zh uE
 go_enter Tryz.func8,Tryz.ntmps8
 have mk1:Unit:=()
 have mk2:Unit:=()
 go_upto_region 1 with(first|go_skip|(clear mk1;refine wpList_boxA HM rfl 57 _ rfl _ rfl ?_;clear HM;intro gc w1 HM hG;replace hF:=Zh (hFs.keep hF.out hG.out);clear hG)|(clear mk2;refine wpList_boxA HM rfl 68 _ rfl _ rfl ?_;clear HM;intro gw w1 HM hG;replace hF:=Zh (hFs.keep hF.out hG.out);clear hG)|fail)
 have mk3:Unit:=()
 go_upto_region 3 with(first|go_skip|(go_at_call 26;clear mk3;refine(cAw.out _).mono ?_;rintro r w3 ⟨rfl,hb_⟩;replace HM:=Zh (HM.out.keep hb_);replace hF:=Zh (hFs.keep hF.out hb_);clear hb_;dsimp only)|fail)
 have p65:World.cell? _ ⟨gc,65,none⟩=some (.bool c.wa):=HM.out.cell 1 rfl 65
 have p66:World.cell? _ ⟨gc,66,none⟩=some (.bool c.wb):=HM.out.cell 1 rfl 66
 cases B1
 case false=>
  have mk4:Unit:=()
  have mk5:Unit:=()
  go_wp2_with(first|go_skip|(refine wpList_loadG 1 HM (by rfl) _ _ rfl _ rfl rfl _ uC.out rfl (by exact zcp) ?_)|(go_at_call 27;clear mk4;refine(cFw.out _ HM.out.below).mono ?_;rintro r w3 ⟨rfl,hb_⟩;replace p65:=((HM.out.keep hb_).cell 1 rfl 65).trans ((HM.out.cell 1 rfl 65).symm.trans p65);replace p66:=((HM.out.keep hb_).cell 1 rfl 66).trans ((HM.out.cell 1 rfl 66).symm.trans p66);replace HM:=Zh (HM.out.keep hb_);replace hF:=Zh (hFs.keep hF.out hb_);clear hb_;dsimp only)|(go_at_call 32;clear mk5;refine(cK.out _ HM.out.below).mono ?_;rintro r w3 ⟨rfl,hb_⟩;replace p65:=((HM.out.keep hb_).cell 1 rfl 65).trans ((HM.out.cell 1 rfl 65).symm.trans p65);replace p66:=((HM.out.keep hb_).cell 1 rfl 66).trans ((HM.out.cell 1 rfl 66).symm.trans p66);replace HM:=Zh (HM.out.keep hb_);replace hF:=Zh (hFs.keep hF.out hb_);clear hb_;dsimp only)|fail)
  try simp only[Exit.inBlock,Exit.then]
  go_ret
  exact⟨by first|rfl|trivial,HM.out.below⟩
 obtain⟨hn,hsm⟩:=hfew.out rfl
 clear hfew
 by_cases e1:C1=0
 case neg=>
  have d1:(C1 !=0)=true:=by rw[bne_iff_ne];exact e1
  replace e1:=Zh e1
  replace hn:=Zh hn
  replace hsm:=Zh hsm
  have mk4:Unit:=()
  have mk5:Unit:=()
  go_wp2_with(first|go_skip|(refine wpList_loadG 1 HM (by rfl) _ _ rfl _ rfl rfl _ uC.out rfl (by exact zcp) ?_)|(go_at_call 27;clear mk4;refine(cFw.out _ HM.out.below).mono ?_;rintro r w3 ⟨rfl,hb_⟩;replace p65:=((HM.out.keep hb_).cell 1 rfl 65).trans ((HM.out.cell 1 rfl 65).symm.trans p65);replace p66:=((HM.out.keep hb_).cell 1 rfl 66).trans ((HM.out.cell 1 rfl 66).symm.trans p66);replace HM:=Zh (HM.out.keep hb_);replace hF:=Zh (hFs.keep hF.out hb_);clear hb_;dsimp only)|(go_at_call 32;clear mk5;refine(cK.out _ HM.out.below).mono ?_;rintro r w3 ⟨rfl,hb_⟩;replace p65:=((HM.out.keep hb_).cell 1 rfl 65).trans ((HM.out.cell 1 rfl 65).symm.trans p65);replace p66:=((HM.out.keep hb_).cell 1 rfl 66).trans ((HM.out.cell 1 rfl 66).symm.trans p66);replace HM:=Zh (HM.out.keep hb_);replace hF:=Zh (hFs.keep hF.out hb_);clear hb_;dsimp only)|fail)
  try simp only[Exit.inBlock,Exit.then]
  go_ret
  exact⟨by first|rfl|trivial,HM.out.below⟩
 subst e1
 obtain⟨sl,sr⟩:=hsm rfl
 have hL2:=Zh (hL.out rfl sl sr)
 obtain⟨q1,q2,q3,q4⟩:=hpr.out rfl
 clear hL hpr sl sr
 replace hn:=Zh hn
 replace hsm:=Zh hsm
 replace q1:=Zh q1
 replace q2:=Zh q2
 replace q3:=Zh q3
 replace q4:=Zh q4
 cases hwa:c.wa
 case true=>
  rw[hwa]at p65
  clear hL2
  have mk4:Unit:=()
  have mk5:Unit:=()
  go_wp2_with(first|go_skip|(refine wpList_loadG 1 HM (by rfl) _ _ rfl _ rfl rfl _ uC.out rfl (by exact zcp) ?_)|(go_at_call 27;clear mk4;refine(cFw.out _ HM.out.below).mono ?_;rintro r w3 ⟨rfl,hb_⟩;replace p65:=((HM.out.keep hb_).cell 1 rfl 65).trans ((HM.out.cell 1 rfl 65).symm.trans p65);replace p66:=((HM.out.keep hb_).cell 1 rfl 66).trans ((HM.out.cell 1 rfl 66).symm.trans p66);replace HM:=Zh (HM.out.keep hb_);replace hF:=Zh (hFs.keep hF.out hb_);clear hb_;dsimp only)|(go_at_call 32;clear mk5;refine(cK.out _ HM.out.below).mono ?_;rintro r w3 ⟨rfl,hb_⟩;replace p65:=((HM.out.keep hb_).cell 1 rfl 65).trans ((HM.out.cell 1 rfl 65).symm.trans p65);replace p66:=((HM.out.keep hb_).cell 1 rfl 66).trans ((HM.out.cell 1 rfl 66).symm.trans p66);replace HM:=Zh (HM.out.keep hb_);replace hF:=Zh (hFs.keep hF.out hb_);clear hb_;dsimp only)|fail)
  try simp only[Exit.inBlock,Exit.then]
  go_ret
  exact⟨by first|rfl|trivial,HM.out.below⟩
 rw[hwa]at p65
 cases hwb:c.wb
 case true=>
  rw[hwb]at p66
  clear hL2
  have mk4:Unit:=()
  have mk5:Unit:=()
  go_wp2_with(first|go_skip|(refine wpList_loadG 1 HM (by rfl) _ _ rfl _ rfl rfl _ uC.out rfl (by exact zcp) ?_)|(go_at_call 27;clear mk4;refine(cFw.out _ HM.out.below).mono ?_;rintro r w3 ⟨rfl,hb_⟩;replace p65:=((HM.out.keep hb_).cell 1 rfl 65).trans ((HM.out.cell 1 rfl 65).symm.trans p65);replace p66:=((HM.out.keep hb_).cell 1 rfl 66).trans ((HM.out.cell 1 rfl 66).symm.trans p66);replace HM:=Zh (HM.out.keep hb_);replace hF:=Zh (hFs.keep hF.out hb_);clear hb_;dsimp only)|(go_at_call 32;clear mk5;refine(cK.out _ HM.out.below).mono ?_;rintro r w3 ⟨rfl,hb_⟩;replace p65:=((HM.out.keep hb_).cell 1 rfl 65).trans ((HM.out.cell 1 rfl 65).symm.trans p65);replace p66:=((HM.out.keep hb_).cell 1 rfl 66).trans ((HM.out.cell 1 rfl 66).symm.trans p66);replace HM:=Zh (HM.out.keep hb_);replace hF:=Zh (hFs.keep hF.out hb_);clear hb_;dsimp only)|fail)
  try simp only[Exit.inBlock,Exit.then]
  go_ret
  exact⟨by first|rfl|trivial,HM.out.below⟩
 rw[hwb]at p66
 have mk4:Unit:=()
 have mk5:Unit:=()
 go_upto_region 5 with(first|go_skip|(refine wpList_loadG 1 HM (by rfl) _ _ rfl _ rfl rfl _ uC.out rfl (by exact zcp) ?_)|(go_at_call 27;clear mk4;refine(cFw.out _ HM.out.below).mono ?_;rintro r w3 ⟨rfl,hb_⟩;replace p65:=((HM.out.keep hb_).cell 1 rfl 65).trans ((HM.out.cell 1 rfl 65).symm.trans p65);replace p66:=((HM.out.keep hb_).cell 1 rfl 66).trans ((HM.out.cell 1 rfl 66).symm.trans p66);replace HM:=Zh (HM.out.keep hb_);replace hF:=Zh (hFs.keep hF.out hb_);clear hb_;dsimp only)|(go_at_call 32;clear mk5;refine(cK.out _ HM.out.below).mono ?_;rintro r w3 ⟨rfl,hb_⟩;replace p65:=((HM.out.keep hb_).cell 1 rfl 65).trans ((HM.out.cell 1 rfl 65).symm.trans p65);replace p66:=((HM.out.keep hb_).cell 1 rfl 66).trans ((HM.out.cell 1 rfl 66).symm.trans p66);replace HM:=Zh (HM.out.keep hb_);replace hF:=Zh (hFs.keep hF.out hb_);clear hb_;dsimp only)|fail)
 clear p65 p66 cFw cK cAw
 obtain⟨d,e,hq⟩:=hL2.out hwa hwb
 clear hL2
 replace hwa:=Zh hwa
 replace hwb:=Zh hwb
 obtain⟨l1,l2,l3,l4,l5⟩:=hq
 have cS1:=Zh (fun W hb=>cS.out ⟨xo,xk,xn,⟨false,false,f3,f4⟩⟩ W hb hn.out hsm.out)
 have cS2:=Zh (fun W hb=>cS.out ⟨xo,0,xn,⟨false,false,f3,f4⟩⟩ W hb hn.out hsm.out)
 rw[l1,l2]at cS1
 rw[l1,l3]at cS2
 clear cS l1 l2 l3
 replace l4:=Zh l4
 replace l5:=Zh l5
 go_upto_region 6 with(first|go_skip|(refine wpList_storeM 0 HM rfl _ _ _ rfl _ 3 rfl rfl _ (by conv=> {lhs;whnf}) (by exact zone_b) (by kernel_rfl) (Nat.le_of_ble_eq_true (by kernel_rfl)) (wshA ⟨xo,xk,xn,⟨false,f2,f3,f4⟩⟩) (by kernel_rfl) ?_;have hBq:=HM.out.at_ 0 rfl;clear HM;intro w4 HM hG4;simp only[List.set]at HM;replace hF:=Zh (hFs.put hF.out hBq (by decide) (by decide) (by decide) hG4.out);clear hBq hG4)|(refine wpList_storeM 0 HM rfl _ _ _ rfl _ 4 rfl rfl _ (by conv=> {lhs;whnf}) (by exact zone_b) (by kernel_rfl) (Nat.le_of_ble_eq_true (by kernel_rfl)) (wshA ⟨xo,xk,xn,⟨false,false,f3,f4⟩⟩) (by kernel_rfl) ?_;have hBq:=HM.out.at_ 0 rfl;clear HM;intro w4 HM hG4;simp only[List.set]at HM;replace hF:=Zh (hFs.put hF.out hBq (by decide) (by decide) (by decide) hG4.out);clear hBq hG4)|fail)
 have mk6:Unit:=()
 go_upto_region 7 with(first|go_skip|(refine wpList_loadG 1 HM (by rfl) _ _ rfl _ rfl rfl _ uC.out rfl (by exact zcp) ?_)|(refine wpList_loadG 0 HM (by rfl) _ _ rfl _ rfl rfl _ uW.out rfl (by exact zws) ?_)|(go_at_call 37;refine(cS1.out _ HM.out.below).mono ?_;rintro r w3 ⟨v3,rfl,hO,hb_⟩;replace HM:=Zh (HM.out.keep hb_);replace hF:=Zh (hFs.keep hF.out hb_);replace hO:=Zh hO;clear hb_;dsimp only)|(clear mk6;refine wpList_allocN HM rfl 57 rfl cpInfo ?_;clear HM;intro gn w1 HM hG hN9;replace hF:=Zh (hFs.keep hF.out hG.out);replace hO:=Zh ((Stc.cplOwn ..).keep hO.out hG.out);clear hG hN9)|(refine wpList_storeF 0 HM rfl _ _ _ rfl _ rfl rfl _ rfl (by exact zcp) (by rfl) (by rfl) ?_;have hBq:=HM.out.at_ 0 rfl;clear HM;intro w4 HM hG4;simp only[List.set]at HM;replace hF:=Zh (hFs.put hF.out hBq (by decide) (by decide) (by decide) hG4.out);replace hO:=Zh ((Stc.cplOwn ..).put hO.out hBq (by decide) (by decide) (by decide) hG4.out);clear hBq hG4)|fail)
 go_upto_region 9 with fail
 have cC2:=Zh (fun W hb=>cC.out W hb)
 clear cC
 generalize hCC:consB c.a c.b=CC at*
 replace hCC:=Zh hCC
 cases CC
 case' false=>
  have mk7:Unit:=()
  go_upto_region 11 with(first|go_skip|(refine wpList_loadP 2 HM (by rfl) _ _ rfl _ 0 rfl rfl (endA c.a v.a) (by kernel_rfl) _ uE.out rfl (by exact zend) ?_)|(refine wpList_loadP 2 HM (by rfl) _ _ rfl _ 28 rfl rfl (endA c.b v.b) (by kernel_rfl) _ uE.out rfl (by exact zend) ?_)|(go_at_call 39;clear mk7;refine(cC2.out _ HM.out.below).mono ?_;rintro r w3 ⟨rfl,hb_⟩;replace HM:=Zh (HM.out.keep hb_);replace hO:=Zh ((Stc.cplOwn ..).keep hO.out hb_);replace hF:=Zh (hFs.keep hF.out hb_);clear hb_;dsimp only)|fail)
 case' true=>
  obtain⟨m1,m2,m3⟩:=l4.out rfl
  have cD2:=Zh (fun W hx=>cD.out d v3 W hx)
  rw[m1]at cD2
  clear m1
  have mk7:Unit:=()
  have mk8:Unit:=()
  have p65:World.cell? _ ⟨gn,65,none⟩=some (.bool d.wa):=HM.out.cell 0 rfl 65
  have p66:World.cell? _ ⟨gn,66,none⟩=some (.bool d.wb):=HM.out.cell 0 rfl 66
  rw[m2]at p65
  rw[m3]at p66
  clear m2 m3
  go_upto_region 11 with(first|go_skip|(refine wpList_loadP 2 HM (by rfl) _ _ rfl _ 0 rfl rfl (endA c.a v.a) (by kernel_rfl) _ uE.out rfl (by exact zend) ?_)|(refine wpList_loadP 2 HM (by rfl) _ _ rfl _ 28 rfl rfl (endA c.b v.b) (by kernel_rfl) _ uE.out rfl (by exact zend) ?_)|(refine wpList_loadP 0 HM (by rfl) _ _ rfl _ 0 rfl rfl (endA d.a v3.a) (by kernel_rfl) _ uE.out rfl (by exact zend) ?_)|(refine wpList_loadP 0 HM (by rfl) _ _ rfl _ 28 rfl rfl (endA d.b v3.b) (by kernel_rfl) _ uE.out rfl (by exact zend) ?_)|(go_at_call 39;clear mk7;refine(cC2.out _ HM.out.below).mono ?_;rintro r w3 ⟨rfl,hb_⟩;replace p65:=((HM.out.keep hb_).cell 0 rfl 65).trans ((HM.out.cell 0 rfl 65).symm.trans p65);replace p66:=((HM.out.keep hb_).cell 0 rfl 66).trans ((HM.out.cell 0 rfl 66).symm.trans p66);replace HM:=Zh (HM.out.keep hb_);replace hO:=Zh ((Stc.cplOwn ..).keep hO.out hb_);replace hF:=Zh (hFs.keep hF.out hb_);clear hb_;dsimp only)|(go_at_call 39;clear mk8;refine(cD2.out _ (hO.out.s w|>.is HM.out.below)).mono ?_;rintro r w3 ⟨rfl,hb_⟩;replace p65:=((HM.out.keep hb_).cell 0 rfl 65).trans ((HM.out.cell 0 rfl 65).symm.trans p65);replace p66:=((HM.out.keep hb_).cell 0 rfl 66).trans ((HM.out.cell 0 rfl 66).symm.trans p66);replace HM:=Zh (HM.out.keep hb_);replace hO:=Zh ((Stc.cplOwn ..).keep hO.out hb_);replace hF:=Zh (hFs.keep hF.out hb_);clear hb_;dsimp only)|fail)
  clear p65 p66 cD2
 all_goals
  clear cC2 cD hCC l4
  go_upto_region 12 with(first|go_skip|(refine wpList_storeM 1 HM rfl _ _ _ rfl _ 1 rfl rfl _ (by conv=> {lhs;whnf}) (by exact zone_i) (by kernel_rfl) (Nat.le_of_ble_eq_true (by kernel_rfl)) (wshA ⟨xo,0,xn,⟨false,false,f3,f4⟩⟩) (by kernel_rfl) ?_;have hBq:=HM.out.at_ 1 rfl;clear HM;intro w4 HM hG4;simp only[List.set]at HM;replace hF:=Zh (hFs.put hF.out hBq (by decide) (by decide) (by decide) hG4.out);replace hO:=Zh ((Stc.cplOwn ..).put hO.out hBq (by decide) (by decide) (by decide) hG4.out);clear hBq hG4)|fail)
  clear hO
  go_upto_region 13 with(first|go_skip|(refine wpList_loadG 2 HM (by rfl) _ _ rfl _ rfl rfl _ uC.out rfl (by exact zcp) ?_)|(refine wpList_loadG 1 HM (by rfl) _ _ rfl _ rfl rfl _ uW.out rfl (by exact zws) ?_)|(go_at_call 37;refine(cS2.out _ HM.out.below).mono ?_;rintro r w3 ⟨v4,rfl,hO,hb_⟩;replace HM:=Zh (HM.out.keep hb_);replace hF:=Zh (hFs.keep hF.out hb_);replace hO:=Zh hO;clear hb_;dsimp only)|(refine wpList_storeF 0 HM rfl _ _ _ rfl _ rfl rfl _ rfl (by exact zcp) (by rfl) (by rfl) ?_;have hBq:=HM.out.at_ 0 rfl;clear HM;intro w4 HM hG4;simp only[List.set]at HM;replace hF:=Zh (hFs.put hF.out hBq (by decide) (by decide) (by decide) hG4.out);replace hO:=Zh ((Stc.cplOwn ..).put hO.out hBq (by decide) (by decide) (by decide) hG4.out);clear hBq hG4)|fail)
  have mk7:Unit:=()
  go_upto_region 14 with(first|go_skip|(refine wpList_loadG 2 HM (by rfl) _ _ rfl _ rfl rfl _ uC.out rfl (by exact zcp) ?_)|(clear mk7;refine wpList_allocN HM rfl 57 rfl cpInfo ?_;clear HM;intro gx w1 HM hG hN9;replace hF:=Zh (hFs.keep hF.out hG.out);replace hO:=Zh ((Stc.cplOwn ..).keep hO.out hG.out);clear hG hN9)|(refine wpList_storeF 0 HM rfl _ _ _ rfl _ rfl rfl _ rfl (by exact zcp) (by rfl) (by rfl) ?_;have hBq:=HM.out.at_ 0 rfl;clear HM;intro w4 HM hG4;simp only[List.set]at HM;replace hF:=Zh (hFs.put hF.out hBq (by decide) (by decide) (by decide) hG4.out);replace hO:=Zh ((Stc.cplOwn ..).put hO.out hBq (by decide) (by decide) (by decide) hG4.out);clear hBq hG4)|fail)
  have w9:IntKind.i64.wrap (c.frame+1)=c.frame+1:=IntWalk.i64_in _ (by have:=q3.out;have:=q4.out;omega)
  have p64:World.cell? _ ⟨gx,64,none⟩=some (.int .i64 c.frame):=HM.out.cell 0 rfl 64
  go_upto_region 15 with(first|go_skip|(refine wpList_storeM 0 HM rfl _ _ _ rfl _ 64 rfl rfl _ (by conv=> {lhs;whnf}) (by exact zint) (by kernel_rfl) (Nat.le_of_ble_eq_true (by kernel_rfl)) (cplA (tickC c) v) (by kernel_rfl) ?_;have hBq:=HM.out.at_ 0 rfl;clear HM;intro w4 HM hG4;simp only[List.set]at HM;replace hF:=Zh (hFs.put hF.out hBq (by decide) (by decide) (by decide) hG4.out);replace hO:=Zh ((Stc.cplOwn ..).put hO.out hBq (by decide) (by decide) (by decide) hG4.out);clear hBq hG4)|fail)
  clear w9
  obtain⟨Q,hQ⟩:∃Q,c.frame.tmod c.period=Q:=⟨_,rfl⟩
  have d0:(c.period==0)=false:=by rw[beq_eq_false_iff_ne];have:=q1.out;omega
  have d0':¬c.period=0:=by have:=q1.out;omega
  have w8:IntKind.i64.wrap Q=Q:=by rw[←hQ];exact IntWalk.i64_in _ (by have:=q1.out;have:=q2.out;have:=Int.tmod_lt_of_pos c.frame (by omega:0<c.period);have:=Int.tmod_nonneg c.period q3.out;omega)
  clear p64
  have p64:World.cell? _ ⟨gc,64,none⟩=some (.int .i64 c.frame):=HM.out.cell 3 rfl 64
  have p63:World.cell? _ ⟨gc,63,none⟩=some (.int .i64 c.period):=HM.out.cell 3 rfl 63
  by_cases hz:Q=0
  case pos=>
   have d1:(Q==0)=true:=by rw[beq_iff_eq];exact hz
   clear l5
   replace hz:=Zh hz
   go_wp2_with fail
   try simp only[Exit.inBlock,Exit.then]
   go_ret
   exact⟨by first|rfl|trivial,HM.out.below⟩
  have d1:(Q==0)=false:=by rw[beq_eq_false_iff_ne];exact hz
  have he:=l5.out (by rw[hQ];exact hz)
  clear l5
  replace hz:=Zh hz
  have cQ2:=Zh (fun W h1 h2=>cQ.out e (tickC c) v4 v W h1 h2)
  rw[decide_eq_true he]at cQ2
  replace he:=Zh he
  have mk8:Unit:=()
  go_wp2_with(first|go_skip|(refine wpList_loadG 1 HM (by rfl) _ _ rfl _ rfl rfl _ uC.out rfl (by exact zcp) ?_)|(refine wpList_loadG 0 HM (by rfl) _ _ rfl _ rfl rfl _ uC.out rfl (by exact zcp) ?_)|(go_at_call 34;clear mk8;refine(cQ2.out _ (hO.out.s w|>.is HM.out.below) (hT.out _ HM.out.below)).mono ?_;rintro r w3 ⟨rfl,hb_⟩;replace HM:=Zh (HM.out.keep hb_);replace hF:=Zh (hFs.keep hF.out hb_);clear hb_;dsimp only)|fail)
  try simp only[Exit.inBlock,Exit.then]
  go_ret
  exact⟨by first|rfl|trivial,HM.out.below⟩
theorem repairQuiet_walk(x1:Int)(x3:Int)(x5:Int)(A7:Option Addr)(n8 c9:Nat)(l10:List TCl)(b12:Bool)(x13:Int)(x15:Int)(b17:Bool)(x18:Int)(x20:Int)(x22:Int)(A24:Option Addr)(n25 c26:Nat)(l27:List Spt)(A29:Option Addr)(n30 c31:Nat)(l32:List Spt)(b34:Bool)(x35:Int)(b37:Bool)(x38:Int)(x40:Int)(x42:Int)(A44:Option Addr)(n45 c46:Nat)(l47:List Spt)(A49:Option Addr)(n50 c51:Nat)(l52:List Spt)(x54:Int)(b56:Bool)(x57:Int)(x59:Int)(x61:Int)(A63:Option Addr)(n64 c65:Nat)(l66:List Spt)(A68:Option Addr)(n69 c70:Nat)(l71:List Spt)(x73:Int)(x75:Int)(x77:Int)(A79:Option Addr)(n80 c81:Nat)(l82:List TCl)(b84:Bool)(x85:Int)(x87:Int)(b89:Bool)(x90:Int)(x92:Int)(x94:Int)(A96:Option Addr)(n97 c98:Nat)(l99:List Spt)(A101:Option Addr)(n102 c103:Nat)(l104:List Spt)(b106:Bool)(x107:Int)(b109:Bool)(x110:Int)(x112:Int)(x114:Int)(A116:Option Addr)(n117 c118:Nat)(l119:List Spt)(A121:Option Addr)(n122 c123:Nat)(l124:List Spt)(x126:Int)(b128:Bool)(x129:Int)(x131:Int)(x133:Int)(A135:Option Addr)(n136 c137:Nat)(l138:List Spt)(A140:Option Addr)(n141 c142:Nat)(l143:List Spt)(x145:Int)(x147:Int)(A149:Option Addr)(n150 c151:Nat)(l152:List TCl)(x154:Int)(x156:Int)(A158:Option Addr)(n159 c160:Nat)(l161:List TCl)(A163:Option Addr)(n164 c165:Nat)(l166:List Int)(x168:Int)(x170:Int)(b172:Bool)(b173:Bool)(b174:Bool)(x175:Int)(x177:Int)(b179:Bool)(b180:Bool)(b181:Bool)(b182:Bool)(W:World)(h2:(Lit.int .i64 x1).wf=true)(h4:(Lit.int .i64 x3).wf=true)(h6:(Lit.int .i64 x5).wf=true)(h11:TclS W A7 n8 l10∧n8≤c9)(h14:(Lit.int .i64 x13).wf=true)(h16:(Lit.int .i64 x15).wf=true)(h19:(Lit.int .i64 x18).wf=true)(h21:(Lit.int .i64 x20).wf=true)(h23:(Lit.int .i64 x22).wf=true)(h28:SptS W A24 n25 l27∧n25≤c26)(h33:SptS W A29 n30 l32∧n30≤c31)(h36:(Lit.int .i64 x35).wf=true)(h39:(Lit.int .i64 x38).wf=true)(h41:(Lit.int .i64 x40).wf=true)(h43:(Lit.int .i64 x42).wf=true)(h48:SptS W A44 n45 l47∧n45≤c46)(h53:SptS W A49 n50 l52∧n50≤c51)(h55:(Lit.int .i64 x54).wf=true)(h58:(Lit.int .i64 x57).wf=true)(h60:(Lit.int .i64 x59).wf=true)(h62:(Lit.int .i64 x61).wf=true)(h67:SptS W A63 n64 l66∧n64≤c65)(h72:SptS W A68 n69 l71∧n69≤c70)(h74:(Lit.int .i64 x73).wf=true)(h76:(Lit.int .i64 x75).wf=true)(h78:(Lit.int .i64 x77).wf=true)(h83:TclS W A79 n80 l82∧n80≤c81)(h86:(Lit.int .i64 x85).wf=true)(h88:(Lit.int .i64 x87).wf=true)(h91:(Lit.int .i64 x90).wf=true)(h93:(Lit.int .i64 x92).wf=true)(h95:(Lit.int .i64 x94).wf=true)(h100:SptS W A96 n97 l99∧n97≤c98)(h105:SptS W A101 n102 l104∧n102≤c103)(h108:(Lit.int .i64 x107).wf=true)(h111:(Lit.int .i64 x110).wf=true)(h113:(Lit.int .i64 x112).wf=true)(h115:(Lit.int .i64 x114).wf=true)(h120:SptS W A116 n117 l119∧n117≤c118)(h125:SptS W A121 n122 l124∧n122≤c123)(h127:(Lit.int .i64 x126).wf=true)(h130:(Lit.int .i64 x129).wf=true)(h132:(Lit.int .i64 x131).wf=true)(h134:(Lit.int .i64 x133).wf=true)(h139:SptS W A135 n136 l138∧n136≤c137)(h144:SptS W A140 n141 l143∧n141≤c142)(h146:(Lit.int .i64 x145).wf=true)(h148:(Lit.int .i64 x147).wf=true)(h153:TclS W A149 n150 l152∧n150≤c151)(h155:(Lit.int .i64 x154).wf=true)(h157:(Lit.int .i64 x156).wf=true)(h162:TclS W A158 n159 l161∧n159≤c160)(h167:IntS W A163 n164 l166∧n164≤c165)(h169:(Lit.int .i64 x168).wf=true)(h171:(Lit.int .i64 x170).wf=true)(h176:(Lit.int .i64 x175).wf=true)(h178:(Lit.int .i64 x177).wf=true):Calls Tryz.prog 8 #[.agg #[.int .i64 x1,.int .i64 x3,.int .i64 x5,.slice A7 n8 c9,.bool b12,.int .i64 x13,.int .i64 x15,.bool b17,.int .i64 x18,.int .i64 x20,.int .i64 x22,.slice A24 n25 c26,.slice A29 n30 c31,.bool b34,.int .i64 x35,.bool b37,.int .i64 x38,.int .i64 x40,.int .i64 x42,.slice A44 n45 c46,.slice A49 n50 c51,.int .i64 x54,.bool b56,.int .i64 x57,.int .i64 x59,.int .i64 x61,.slice A63 n64 c65,.slice A68 n69 c70,.int .i64 x73,.int .i64 x75,.int .i64 x77,.slice A79 n80 c81,.bool b84,.int .i64 x85,.int .i64 x87,.bool b89,.int .i64 x90,.int .i64 x92,.int .i64 x94,.slice A96 n97 c98,.slice A101 n102 c103,.bool b106,.int .i64 x107,.bool b109,.int .i64 x110,.int .i64 x112,.int .i64 x114,.slice A116 n117 c118,.slice A121 n122 c123,.int .i64 x126,.bool b128,.int .i64 x129,.int .i64 x131,.int .i64 x133,.slice A135 n136 c137,.slice A140 n141 c142,.int .i64 x145,.int .i64 x147,.slice A149 n150 c151,.int .i64 x154,.int .i64 x156,.slice A158 n159 c160,.slice A163 n164 c165,.int .i64 x168,.int .i64 x170,.bool b172,.bool b173],.agg #[.bool b174,.int .i64 x175,.int .i64 x177,.bool b179,.bool b180,.bool b181,.bool b182]] W fun e w'=>e= .returned (.bool true)∧Below W.heap.size W w':=
 lawQuiet_any ⟨⟨x1,x3,x5,l10,b12,x13,⟨x15,b17,x18,x20,x22,l27,l32⟩,b34,⟨x35,b37,x38,x40,x42,l47,l52⟩,⟨x54,b56,x57,x59,x61,l66,l71⟩⟩,⟨x73,x75,x77,l82,b84,x85,⟨x87,b89,x90,x92,x94,l99,l104⟩,b106,⟨x107,b109,x110,x112,x114,l119,l124⟩,⟨x126,b128,x129,x131,x133,l138,l143⟩⟩,⟨x145,x147,l152⟩,⟨x154,x156,l161⟩,l166,x168,x170,b172,b173⟩ ⟨b174,x175,x177,⟨b179,b180,b181,b182⟩⟩ ⟨⟨A7,n8,c9,⟨A24,n25,c26,A29,n30,c31⟩,⟨A44,n45,c46,A49,n50,c51⟩,⟨A63,n64,c65,A68,n69,c70⟩⟩,⟨A79,n80,c81,⟨A96,n97,c98,A101,n102,c103⟩,⟨A116,n117,c118,A121,n122,c123⟩,⟨A135,n136,c137,A140,n141,c142⟩⟩,⟨A149,n150,c151⟩,⟨A158,n159,c160⟩,A163,n164,c165⟩ W ⟨⟨h11.1,h11.2,⟨h28.1,h33.1,h28.2,h33.2⟩,⟨h48.1,h53.1,h48.2,h53.2⟩,⟨h67.1,h72.1,h67.2,h72.2⟩⟩,⟨h83.1,h83.2,⟨h100.1,h105.1,h100.2,h105.2⟩,⟨h120.1,h125.1,h120.2,h125.2⟩,⟨h139.1,h144.1,h139.2,h144.2⟩⟩,⟨h153.1,h153.2⟩,⟨h162.1,h162.2⟩,h167.1,h167.2⟩
end Tx
end Go.Proofs.YtggpaahhgchloaaGreat
