/- Chapter 27: Detects: both. -/
import Derived.Test.YtfamifgchgolpaaGreatCx
set_option linter.unusedVariables false
set_option linter.unusedSimpArgs false
set_option maxRecDepth 100000
set_option maxHeartbeats 4000000
namespace Go.Proofs.YtfamifgchgolpaaGreat
open Go Go.RowKit Go.Sort Go.Shelf Go.Maps
namespace Tx
open Sw Mm Pl
theorem detP_any(a b:Ed)(va vb:EdV)(w:World)(h1:EdIs w va a)(h2:EdIs w vb b):Calls Tryz.prog 84 #[.agg (endA a va),.agg (endA b vb)] w fun r w'=>r= .returned (.bool (detB a b))∧Below w.heap.size w w':=by
 have HM:=Zh (Mem.start w)
 obtain⟨F0,hFs,hF⟩:∃F:World→Prop,Stb F∧Hid (F w):=⟨_,Stb.true,trivial⟩
 have uE:=Tryz.underlying32
 have uT:=Tryz.underlying37
 have uM:=Tryz.underlying30
 have hR:detB a b=(pairB a b&& !decide (a.number=b.number)):=rfl
 have cP:=fun W (hb:Below w.heap.size w W)=>paired_any a b va vb W (h1.keep hb) (h2.keep hb)
 generalize detB a b=R at*
 generalize pairB a b=PB at*
 replace cP:=Zh cP
 replace h1:=Zh h1
 replace h2:=Zh h2
 replace hR:=Zh hR
 replace uE:=Zh uE
 replace uT:=Zh uT
 replace uM:=Zh uM
 go_enter Tryz.func84,Tryz.ntmps84
 have mk1:Unit:=()
 have mk2:Unit:=()
 go_upto_region 1 with(first|go_skip|(clear mk1;refine hFs.b HM hF 32 ?_;clear HM hF;intro ga w1 HM hF)|(clear mk2;refine hFs.b HM hF 32 ?_;clear HM hF;intro gb w1 HM hF)|fail)
 have p2:=Zc HM 1 2 (.int .i64 a.number)
 have q2:=Zc HM 0 2 (.int .i64 b.number)
 cases PB
 case false=>
  have hh:R=false:=by rw[hR.out];simp[]
  subst hh
  have mk3:Unit:=()
  go_wp2_with(first|go_skip|(refine lG 1 HM uE.out ?_)|(refine lG 0 HM uE.out ?_)|(go_at_call 108;clear mk3;refine(cP.out _ HM.out.below).mono ?_;rintro r w3 ⟨rfl,hb_⟩;replace p2:=Zk HM hb_ 1 2 p2;replace q2:=Zk HM hb_ 0 2 q2;replace HM:=Zm HM hb_;replace hF:=hFs.z hF hb_;clear hb_;dsimp only)|fail)
  try simp only[Exit.inBlock,Exit.then]
  go_ret
  exact⟨by first|rfl|trivial,HM.out.below⟩
 by_cases e2:a.number=b.number
 case pos=>
  have d2:(a.number !=b.number)=false:=by rw[bne_eq_false_iff_eq];exact e2
  have hh:R=false:=by rw[hR.out];simp[e2]
  subst hh
  replace e2:=Zh e2
  have mk3:Unit:=()
  go_wp2_with(first|go_skip|(refine lG 1 HM uE.out ?_)|(refine lG 0 HM uE.out ?_)|(go_at_call 108;clear mk3;refine(cP.out _ HM.out.below).mono ?_;rintro r w3 ⟨rfl,hb_⟩;replace p2:=Zk HM hb_ 1 2 p2;replace q2:=Zk HM hb_ 0 2 q2;replace HM:=Zm HM hb_;replace hF:=hFs.z hF hb_;clear hb_;dsimp only)|fail)
  try simp only[Exit.inBlock,Exit.then]
  go_ret
  exact⟨by first|rfl|trivial,HM.out.below⟩
 have d2:(a.number !=b.number)=true:=by rw[bne_iff_ne];exact e2
 have hh:R=true:=by rw[hR.out];simp[e2]
 subst hh
 replace e2:=Zh e2
 have mk3:Unit:=()
 go_wp2_with(first|go_skip|(refine lG 1 HM uE.out ?_)|(refine lG 0 HM uE.out ?_)|(go_at_call 108;clear mk3;refine(cP.out _ HM.out.below).mono ?_;rintro r w3 ⟨rfl,hb_⟩;replace p2:=Zk HM hb_ 1 2 p2;replace q2:=Zk HM hb_ 0 2 q2;replace HM:=Zm HM hb_;replace hF:=hFs.z hF hb_;clear hb_;dsimp only)|fail)
 try simp only[Exit.inBlock,Exit.then]
 go_ret
 exact⟨by first|rfl|trivial,HM.out.below⟩
end Tx
end Go.Proofs.YtfamifgchgolpaaGreat
