/- Chapter 27: the law Exchanges. -/
import Derived.Test.YtfamifgchgolpaaGreatEr
import Derived.Test.YtfamifgchgolpaaGreatEs
import Derived.Test.YtfamifgchgolpaaGreatCt
import Derived.Test.YtfamifgchgolpaaGreatCc
set_option linter.unusedVariables false
set_option linter.unusedSimpArgs false
set_option maxRecDepth 100000
set_option maxHeartbeats 16000000
namespace Go.Proofs.YtfamifgchgolpaaGreat
open Go Go.RowKit Go.Sort Go.Shelf Go.Maps
namespace Tx
open Sw Mm Pl
theorem lawExchanges_any(a b:Ed)(ta tb:Tab)(f:List Int)(kind count:Int)(rq rp ra rk:Bool)(va vb:EdV)(vta vtb:TabV)(A:Option Addr)(nf cf:Nat)(w:World)(h1:EdIs w va a)(h2:EdIs w vb b)(t1:TabIs w vta ta)(t2:TabIs w vtb tb)(hf:IntS w A nf f):Calls Tryz.prog 4 #[.agg (cplA a va b vb ta vta tb vtb A nf cf),.int .i64 kind,.int .i64 count,.agg (fateA ⟨rq,rp,ra,rk⟩)] w fun r w'=>r= .returned (.bool true)∧Below w.heap.size w w':=by
 have HM:=Zh (Mem.start w)
 obtain⟨F0,hFs,hF⟩:∃F:World→Prop,Stb F∧Hid (F w):=⟨_,Stb.true,trivial⟩
 have uE:=Tryz.underlying32
 have uT:=Tryz.underlying37
 have uM:=Tryz.underlying30
 have cAw:=fun W=>awake27_any W
 have uC:=Tryz.underlying59
 have uY:=Tryz.underlying40
 have cFw:=fun W (hb:Below w.heap.size w W)=>few27_any a b ta tb va vb vta vtb A nf cf W (h1.keep hb) (h2.keep hb) (t1.keep hb) (t2.keep hb)
 have hIa:=fun W (hb:Below w.heap.size w W)=>h1.keep hb
 have hIb:=fun W (hb:Below w.heap.size w W)=>h2.keep hb
 have cX:=fun W (hb:Below w.heap.size w W)=>exchange_any a b ta tb f kind count ⟨rq,rp,ra,rk⟩ va vb vta vtb A nf cf W (h1.keep hb) (h2.keep hb) (t1.keep hb) (t2.keep hb) (hf.keep hb)
 have cY:=fun W (hb:Below w.heap.size w W)=>rexch_any a b ta tb f kind count ⟨rq,rp,ra,rk⟩ va vb vta vtb A nf cf W (h1.keep hb) (h2.keep hb) (t1.keep hb) (t2.keep hb) (hf.keep hb)
 unfold ExPost at cX
 unfold RExPost at cY
 change∀W,_→Calls _ _ #[_,_,_,_,_,_,_,.agg (fateA ⟨rq,rp,ra,rk⟩)] _ _ at cY
 have cSS:=fun x vx vy W (q1:EdIs W vx x) (q2:EdIs W vy x)=>sameE_any x x vx vy W q1 q2
 simp only[eq_self,decide_true]at cSS
 generalize exN a b ta tb f kind count ⟨rq,rp,ra,rk⟩=XN at*
 generalize exC a b ta tb f kind count=XC at*
 generalize few27 a b ta tb nf=FW at*
 obtain⟨A1,B1,cd⟩:=XN
 dsimp only at cX cY
 replace cAw:=Zh cAw
 replace cFw:=Zh cFw
 replace hIa:=Zh hIa
 replace hIb:=Zh hIb
 replace cX:=Zh cX
 replace cY:=Zh cY
 replace cSS:=Zh cSS
 replace uC:=Zh uC
 replace uY:=Zh uY
 replace h1:=Zh h1
 replace h2:=Zh h2
 replace t1:=Zh t1
 replace t2:=Zh t2
 replace hf:=Zh hf
 replace uE:=Zh uE
 replace uT:=Zh uT
 replace uM:=Zh uM
 go_enter Tryz.func4,Tryz.ntmps4
 have mk1:Unit:=()
 have mk2:Unit:=()
 go_upto_region 1 with(first|go_skip|(clear mk1;refine hFs.b HM hF 59 ?_;clear HM hF;intro gc w1 HM hF)|(clear mk2;refine hFs.b HM hF 40 ?_;clear HM hF;intro gy w1 HM hF)|fail)
 have mk3:Unit:=()
 go_upto_region 3 with(first|go_skip|(go_at_call 22;clear mk3;refine hFs.k HM hF (cAw.out _) ?_;clear HM hF;intro w3 HM hF;dsimp only)|fail)
 have mk4:Unit:=()
 cases FW
 case false=>
  go_wp2_with(first|go_skip|(refine lG 1 HM uC.out ?_)|(go_at_call 23;clear mk4;refine hFs.k HM hF (cFw.out _ HM.out.below) ?_;clear HM hF;intro w3 HM hF;dsimp only)|fail)
  try simp only[Exit.inBlock,Exit.then]
  go_ret
  exact⟨by first|rfl|trivial,HM.out.below⟩
 go_upto_region 5 with(first|go_skip|(refine lG 1 HM uC.out ?_)|(go_at_call 23;clear mk4;refine hFs.k HM hF (cFw.out _ HM.out.below) ?_;clear HM hF;intro w3 HM hF;dsimp only)|fail)
 clear cFw cAw
 have p62:=Zc HM 1 62 (.slice A nf cf)
 have mk5:Unit:=()
 have mk6:Unit:=()
 have mk7:Unit:=()
 go_upto_region 6 with(first|go_skip|(refine lP 1 HM 0 (endA a va) uE.out ?_)|(refine lP 1 HM 28 (endA b vb) uE.out ?_)|(refine lP 1 HM 56 (tabA ta vta) uT.out ?_)|(refine lP 1 HM 59 (tabA tb vtb) uT.out ?_)|(refine lG 0 HM uY.out ?_)|(go_at_call 24;clear mk5;refine(cX.out _ HM.out.below).mono ?_;rintro r w3 ⟨v1,v2,rfl,hE,hO5,hb_⟩;clear p62;replace HM:=Zm HM hb_;replace hF:=hFs.z hF hb_;clear hb_;refine sA hFs hF (Stb.ed v1 _) hE ?_;clear hFs hF hE;intro F1 hFs hF hU gA;clear hU;refine sA hFs hF (Stb.ownB _ _ v2 _) hO5 ?_;clear hFs hF hO5;intro F2 hFs hF hU gB;replace gA:=Zu gA hU;clear hU;dsimp only)|(clear mk6;refine hFs.a HM hF edInfo ?_;clear HM hF;intro g9 w1 HM hF)|(clear mk7;refine hFs.a HM hF edInfo ?_;clear HM hF;intro g10 w1 HM hF)|(refine hFs.s 1 HM hF ?_;clear HM hF;intro w4 HM hF;simp only[List.set]at HM)|(refine hFs.s 0 HM hF ?_;clear HM hF;intro w4 HM hF;simp only[List.set]at HM)|fail)
 have p62:=Zc HM 3 62 (.slice A nf cf)
 have mk8:Unit:=()
 have mk9:Unit:=()
 have mk10:Unit:=()
 go_upto_region 7 with(first|go_skip|(refine lP 3 HM 0 (endA a va) uE.out ?_)|(refine lP 3 HM 28 (endA b vb) uE.out ?_)|(refine lP 3 HM 56 (tabA ta vta) uT.out ?_)|(refine lP 3 HM 59 (tabA tb vtb) uT.out ?_)|(refine lG 2 HM uY.out ?_)|(go_at_call 25;clear mk8;refine(cY.out _ HM.out.below).mono ?_;rintro r w3 ⟨v3,v4,rfl,hE,hO5,hb_⟩;clear p62;replace HM:=Zm HM hb_;replace hF:=hFs.z hF hb_;clear hb_;refine sA hFs hF (Stb.ed v3 _) hE ?_;clear hFs hF hE;intro F3 hFs hF hU gC;replace gA:=Zu gA hU;replace gB:=Zu gB hU;clear hU;refine sA hFs hF (Stb.ownC _ _ v4 _) hO5 ?_;clear hFs hF hO5;intro F4 hFs hF hU gD;replace gA:=Zu gA hU;replace gB:=Zu gB hU;replace gC:=Zu gC hU;clear hU;dsimp only)|(clear mk9;refine hFs.a HM hF edInfo ?_;clear HM hF;intro g13 w1 HM hF)|(clear mk10;refine hFs.a HM hF edInfo ?_;clear HM hF;intro g14 w1 HM hF)|(refine hFs.s 1 HM hF ?_;clear HM hF;intro w4 HM hF;simp only[List.set]at HM)|(refine hFs.s 0 HM hF ?_;clear HM hF;intro w4 HM hF;simp only[List.set]at HM)|fail)
 have mk11:Unit:=()
 have mk12:Unit:=()
 go_wp2_with(first|go_skip|(refine lG 3 HM uE.out ?_)|(refine lG 1 HM uE.out ?_)|(refine lG 2 HM uE.out ?_)|(refine lG 0 HM uE.out ?_)|(go_at_call 16;clear mk11;refine hFs.k HM hF (cSS.out A1 v1 v3 _ (gA.out _ hF.out).is (gC.out _ hF.out).is) ?_;clear HM hF;intro w3 HM hF;dsimp only)|(go_at_call 16;clear mk12;refine hFs.k HM hF (cSS.out B1 v2 v4 _ ((gB.out _ hF.out).is (hIb.out _ HM.out.below)) ((gD.out _ hF.out).is (hIb.out _ HM.out.below))) ?_;clear HM hF;intro w3 HM hF;dsimp only)|fail)
 try simp only[Exit.inBlock,Exit.then]
 go_ret
 exact⟨by first|rfl|trivial,HM.out.below⟩
end Tx
end Go.Proofs.YtfamifgchgolpaaGreat
