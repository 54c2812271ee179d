/- Chapter 27: few, and the example. -/
import Derived.Test.YtfamifgchgolpaaGreatEq
import Derived.Test.YtfamifgchgolpaaGreatBk
import Derived.Test.YtfamifgchgolpaaGreatBz
set_option linter.unusedVariables false
set_option linter.unusedSimpArgs false
set_option maxRecDepth 100000
set_option maxHeartbeats 8000000
namespace Go.Proofs.YtfamifgchgolpaaGreat
open Go Go.RowKit Go.Sort Go.Shelf Go.Maps
namespace Tx
open Sw Mm Pl
def cplA(a:Ed)(va:EdV)(b:Ed)(vb:EdV)(ta:Tab)(vta:TabV)(tb:Tab)(vtb:TabV)(A:Option Addr)(nf cf:Nat):Array Value:=#[.int .i64 a.node,.int .i64 a.peer,.int .i64 a.number,.slice va.cA va.cn va.cc,.bool a.opn,.int .i64 a.since,.int .i64 a.asked.kind,.bool a.asked.reply,.int .i64 a.asked.number,.int .i64 a.asked.code,.int .i64 a.asked.count,.slice va.a.sA va.a.sn va.a.sc,.slice va.a.oA va.a.on va.a.oc,.bool a.known,.int .i64 a.last.kind,.bool a.last.reply,.int .i64 a.last.number,.int .i64 a.last.code,.int .i64 a.last.count,.slice va.l.sA va.l.sn va.l.sc,.slice va.l.oA va.l.on va.l.oc,.int .i64 a.reply.kind,.bool a.reply.reply,.int .i64 a.reply.number,.int .i64 a.reply.code,.int .i64 a.reply.count,.slice va.r.sA va.r.sn va.r.sc,.slice va.r.oA va.r.on va.r.oc,.int .i64 b.node,.int .i64 b.peer,.int .i64 b.number,.slice vb.cA vb.cn vb.cc,.bool b.opn,.int .i64 b.since,.int .i64 b.asked.kind,.bool b.asked.reply,.int .i64 b.asked.number,.int .i64 b.asked.code,.int .i64 b.asked.count,.slice vb.a.sA vb.a.sn vb.a.sc,.slice vb.a.oA vb.a.on vb.a.oc,.bool b.known,.int .i64 b.last.kind,.bool b.last.reply,.int .i64 b.last.number,.int .i64 b.last.code,.int .i64 b.last.count,.slice vb.l.sA vb.l.sn vb.l.sc,.slice vb.l.oA vb.l.on vb.l.oc,.int .i64 b.reply.kind,.bool b.reply.reply,.int .i64 b.reply.number,.int .i64 b.reply.code,.int .i64 b.reply.count,.slice vb.r.sA vb.r.sn vb.r.sc,.slice vb.r.oA vb.r.on vb.r.oc,.int .i64 ta.node,.int .i64 ta.length,.slice vta.A vta.n vta.c,.int .i64 tb.node,.int .i64 tb.length,.slice vtb.A vtb.n vtb.c,.slice A nf cf]
theorem zcp:(Tryz.prog.info? 59).map (·.size)=some 63:=by kernel_rfl
def few27(a b:Ed)(ta tb:Tab)(nf:Nat):Bool:=fewE a&&(fewE b&&(fewT ta&&(fewT tb&&decide (nf≤600))))
theorem few27_any(a b:Ed)(ta tb:Tab)(va vb:EdV)(vta vtb:TabV)(A:Option Addr)(nf cf:Nat)(w:World)(h1:EdIs w va a)(h2:EdIs w vb b)(t1:TabIs w vta ta)(t2:TabIs w vtb tb):Calls Tryz.prog 23 #[.agg (cplA a va b vb ta vta tb vtb A nf cf)] w fun r w'=>r= .returned (.bool (few27 a b ta tb nf))∧Below w.heap.size w w':=by
 have HM:=Zh (Mem.start w)
 obtain⟨F0,hFs,hF⟩:∃F:World→Prop,Stb F∧Hid (F w):=⟨_,Stb.true,trivial⟩
 have uE:=Tryz.underlying32
 have uT:=Tryz.underlying37
 have uM:=Tryz.underlying30
 have hR:few27 a b ta tb nf=(fewE a&&(fewE b&&(fewT ta&&(fewT tb&&decide (nf≤600))))):=rfl
 have cA:=fun W (hb:Below w.heap.size w W)=>fewE_any a va W (h1.keep hb)
 have cB:=fun W (hb:Below w.heap.size w W)=>fewE_any b vb W (h2.keep hb)
 have cC:=fun W (hb:Below w.heap.size w W)=>fewT_any ta vta W (t1.keep hb)
 have cD:=fun W (hb:Below w.heap.size w W)=>fewT_any tb vtb W (t2.keep hb)
 generalize few27 a b ta tb nf=R at*
 generalize fewE a=B1 at*
 generalize fewE b=B2 at*
 generalize fewT ta=B3 at*
 generalize fewT tb=B4 at*
 replace cA:=Zh cA
 replace cB:=Zh cB
 replace cC:=Zh cC
 replace cD:=Zh cD
 replace h1:=Zh h1
 replace h2:=Zh h2
 replace t1:=Zh t1
 replace t2:=Zh t2
 replace uE:=Zh uE
 replace uT:=Zh uT
 replace uM:=Zh uM
 go_enter Tryz.func23,Tryz.ntmps23
 have mk1:Unit:=()
 go_upto_region 1 with(first|go_skip|(clear mk1;refine hFs.b HM hF 59 ?_;clear HM hF;intro gc w1 HM hF)|fail)
 have p62:=Zc HM 0 62 (.slice A nf cf)
 cases B1
 case false=>
  have hh:R=false:=by rw[hR];simp[]
  subst hh
  replace hR:=Zh hR
  have mk2:Unit:=()
  have mk3:Unit:=()
  have mk4:Unit:=()
  have mk5:Unit:=()
  go_wp2_with(first|go_skip|(refine lP 0 HM 0 (endA a va) uE.out ?_)|(refine lP 0 HM 28 (endA b vb) uE.out ?_)|(refine lP 0 HM 56 (tabA ta vta) uT.out ?_)|(refine lP 0 HM 59 (tabA tb vtb) uT.out ?_)|(go_at_call 85;clear mk2;refine(cA.out _ HM.out.below).mono ?_;rintro r w3 ⟨rfl,hb_⟩;replace p62:=Zk HM hb_ 0 62 p62;replace HM:=Zm HM hb_;replace hF:=hFs.z hF hb_;clear hb_;dsimp only)|(go_at_call 85;clear mk3;refine(cB.out _ HM.out.below).mono ?_;rintro r w3 ⟨rfl,hb_⟩;replace p62:=Zk HM hb_ 0 62 p62;replace HM:=Zm HM hb_;replace hF:=hFs.z hF hb_;clear hb_;dsimp only)|(go_at_call 86;clear mk4;refine(cC.out _ HM.out.below).mono ?_;rintro r w3 ⟨rfl,hb_⟩;replace p62:=Zk HM hb_ 0 62 p62;replace HM:=Zm HM hb_;replace hF:=hFs.z hF hb_;clear hb_;dsimp only)|(go_at_call 86;clear mk5;refine(cD.out _ HM.out.below).mono ?_;rintro r w3 ⟨rfl,hb_⟩;replace p62:=Zk HM hb_ 0 62 p62;replace HM:=Zm HM hb_;replace hF:=hFs.z hF hb_;clear hb_;dsimp only)|fail)
  try simp only[Exit.inBlock,Exit.then]
  go_ret
  exact⟨by first|rfl|trivial,HM.out.below⟩
 cases B2
 case false=>
  have hh:R=false:=by rw[hR];simp[]
  subst hh
  replace hR:=Zh hR
  have mk2:Unit:=()
  have mk3:Unit:=()
  have mk4:Unit:=()
  have mk5:Unit:=()
  go_wp2_with(first|go_skip|(refine lP 0 HM 0 (endA a va) uE.out ?_)|(refine lP 0 HM 28 (endA b vb) uE.out ?_)|(refine lP 0 HM 56 (tabA ta vta) uT.out ?_)|(refine lP 0 HM 59 (tabA tb vtb) uT.out ?_)|(go_at_call 85;clear mk2;refine(cA.out _ HM.out.below).mono ?_;rintro r w3 ⟨rfl,hb_⟩;replace p62:=Zk HM hb_ 0 62 p62;replace HM:=Zm HM hb_;replace hF:=hFs.z hF hb_;clear hb_;dsimp only)|(go_at_call 85;clear mk3;refine(cB.out _ HM.out.below).mono ?_;rintro r w3 ⟨rfl,hb_⟩;replace p62:=Zk HM hb_ 0 62 p62;replace HM:=Zm HM hb_;replace hF:=hFs.z hF hb_;clear hb_;dsimp only)|(go_at_call 86;clear mk4;refine(cC.out _ HM.out.below).mono ?_;rintro r w3 ⟨rfl,hb_⟩;replace p62:=Zk HM hb_ 0 62 p62;replace HM:=Zm HM hb_;replace hF:=hFs.z hF hb_;clear hb_;dsimp only)|(go_at_call 86;clear mk5;refine(cD.out _ HM.out.below).mono ?_;rintro r w3 ⟨rfl,hb_⟩;replace p62:=Zk HM hb_ 0 62 p62;replace HM:=Zm HM hb_;replace hF:=hFs.z hF hb_;clear hb_;dsimp only)|fail)
  try simp only[Exit.inBlock,Exit.then]
  go_ret
  exact⟨by first|rfl|trivial,HM.out.below⟩
 cases B3
 case false=>
  have hh:R=false:=by rw[hR];simp[]
  subst hh
  replace hR:=Zh hR
  have mk2:Unit:=()
  have mk3:Unit:=()
  have mk4:Unit:=()
  have mk5:Unit:=()
  go_wp2_with(first|go_skip|(refine lP 0 HM 0 (endA a va) uE.out ?_)|(refine lP 0 HM 28 (endA b vb) uE.out ?_)|(refine lP 0 HM 56 (tabA ta vta) uT.out ?_)|(refine lP 0 HM 59 (tabA tb vtb) uT.out ?_)|(go_at_call 85;clear mk2;refine(cA.out _ HM.out.below).mono ?_;rintro r w3 ⟨rfl,hb_⟩;replace p62:=Zk HM hb_ 0 62 p62;replace HM:=Zm HM hb_;replace hF:=hFs.z hF hb_;clear hb_;dsimp only)|(go_at_call 85;clear mk3;refine(cB.out _ HM.out.below).mono ?_;rintro r w3 ⟨rfl,hb_⟩;replace p62:=Zk HM hb_ 0 62 p62;replace HM:=Zm HM hb_;replace hF:=hFs.z hF hb_;clear hb_;dsimp only)|(go_at_call 86;clear mk4;refine(cC.out _ HM.out.below).mono ?_;rintro r w3 ⟨rfl,hb_⟩;replace p62:=Zk HM hb_ 0 62 p62;replace HM:=Zm HM hb_;replace hF:=hFs.z hF hb_;clear hb_;dsimp only)|(go_at_call 86;clear mk5;refine(cD.out _ HM.out.below).mono ?_;rintro r w3 ⟨rfl,hb_⟩;replace p62:=Zk HM hb_ 0 62 p62;replace HM:=Zm HM hb_;replace hF:=hFs.z hF hb_;clear hb_;dsimp only)|fail)
  try simp only[Exit.inBlock,Exit.then]
  go_ret
  exact⟨by first|rfl|trivial,HM.out.below⟩
 cases B4
 case false=>
  have hh:R=false:=by rw[hR];simp[]
  subst hh
  replace hR:=Zh hR
  have mk2:Unit:=()
  have mk3:Unit:=()
  have mk4:Unit:=()
  have mk5:Unit:=()
  go_wp2_with(first|go_skip|(refine lP 0 HM 0 (endA a va) uE.out ?_)|(refine lP 0 HM 28 (endA b vb) uE.out ?_)|(refine lP 0 HM 56 (tabA ta vta) uT.out ?_)|(refine lP 0 HM 59 (tabA tb vtb) uT.out ?_)|(go_at_call 85;clear mk2;refine(cA.out _ HM.out.below).mono ?_;rintro r w3 ⟨rfl,hb_⟩;replace p62:=Zk HM hb_ 0 62 p62;replace HM:=Zm HM hb_;replace hF:=hFs.z hF hb_;clear hb_;dsimp only)|(go_at_call 85;clear mk3;refine(cB.out _ HM.out.below).mono ?_;rintro r w3 ⟨rfl,hb_⟩;replace p62:=Zk HM hb_ 0 62 p62;replace HM:=Zm HM hb_;replace hF:=hFs.z hF hb_;clear hb_;dsimp only)|(go_at_call 86;clear mk4;refine(cC.out _ HM.out.below).mono ?_;rintro r w3 ⟨rfl,hb_⟩;replace p62:=Zk HM hb_ 0 62 p62;replace HM:=Zm HM hb_;replace hF:=hFs.z hF hb_;clear hb_;dsimp only)|(go_at_call 86;clear mk5;refine(cD.out _ HM.out.below).mono ?_;rintro r w3 ⟨rfl,hb_⟩;replace p62:=Zk HM hb_ 0 62 p62;replace HM:=Zm HM hb_;replace hF:=hFs.z hF hb_;clear hb_;dsimp only)|fail)
  try simp only[Exit.inBlock,Exit.then]
  go_ret
  exact⟨by first|rfl|trivial,HM.out.below⟩
 by_cases e5:nf≤600
 case neg=>
  have d5:decide ((nf:Int)≤600)=false:=decide_eq_false (by omega)
  have hh:R=false:=by rw[hR];simp[e5]
  subst hh
  replace hR:=Zh hR
  replace e5:=Zh e5
  have mk2:Unit:=()
  have mk3:Unit:=()
  have mk4:Unit:=()
  have mk5:Unit:=()
  go_wp2_with(first|go_skip|(refine lP 0 HM 0 (endA a va) uE.out ?_)|(refine lP 0 HM 28 (endA b vb) uE.out ?_)|(refine lP 0 HM 56 (tabA ta vta) uT.out ?_)|(refine lP 0 HM 59 (tabA tb vtb) uT.out ?_)|(go_at_call 85;clear mk2;refine(cA.out _ HM.out.below).mono ?_;rintro r w3 ⟨rfl,hb_⟩;replace p62:=Zk HM hb_ 0 62 p62;replace HM:=Zm HM hb_;replace hF:=hFs.z hF hb_;clear hb_;dsimp only)|(go_at_call 85;clear mk3;refine(cB.out _ HM.out.below).mono ?_;rintro r w3 ⟨rfl,hb_⟩;replace p62:=Zk HM hb_ 0 62 p62;replace HM:=Zm HM hb_;replace hF:=hFs.z hF hb_;clear hb_;dsimp only)|(go_at_call 86;clear mk4;refine(cC.out _ HM.out.below).mono ?_;rintro r w3 ⟨rfl,hb_⟩;replace p62:=Zk HM hb_ 0 62 p62;replace HM:=Zm HM hb_;replace hF:=hFs.z hF hb_;clear hb_;dsimp only)|(go_at_call 86;clear mk5;refine(cD.out _ HM.out.below).mono ?_;rintro r w3 ⟨rfl,hb_⟩;replace p62:=Zk HM hb_ 0 62 p62;replace HM:=Zm HM hb_;replace hF:=hFs.z hF hb_;clear hb_;dsimp only)|fail)
  try simp only[Exit.inBlock,Exit.then]
  go_ret
  exact⟨by first|rfl|trivial,HM.out.below⟩
 have d5:decide ((nf:Int)≤600)=true:=decide_eq_true (by omega)
 have hh:R=true:=by rw[hR];simp[e5]
 subst hh
 replace hR:=Zh hR
 replace e5:=Zh e5
 have mk2:Unit:=()
 have mk3:Unit:=()
 have mk4:Unit:=()
 have mk5:Unit:=()
 go_wp2_with(first|go_skip|(refine lP 0 HM 0 (endA a va) uE.out ?_)|(refine lP 0 HM 28 (endA b vb) uE.out ?_)|(refine lP 0 HM 56 (tabA ta vta) uT.out ?_)|(refine lP 0 HM 59 (tabA tb vtb) uT.out ?_)|(go_at_call 85;clear mk2;refine(cA.out _ HM.out.below).mono ?_;rintro r w3 ⟨rfl,hb_⟩;replace p62:=Zk HM hb_ 0 62 p62;replace HM:=Zm HM hb_;replace hF:=hFs.z hF hb_;clear hb_;dsimp only)|(go_at_call 85;clear mk3;refine(cB.out _ HM.out.below).mono ?_;rintro r w3 ⟨rfl,hb_⟩;replace p62:=Zk HM hb_ 0 62 p62;replace HM:=Zm HM hb_;replace hF:=hFs.z hF hb_;clear hb_;dsimp only)|(go_at_call 86;clear mk4;refine(cC.out _ HM.out.below).mono ?_;rintro r w3 ⟨rfl,hb_⟩;replace p62:=Zk HM hb_ 0 62 p62;replace HM:=Zm HM hb_;replace hF:=hFs.z hF hb_;clear hb_;dsimp only)|(go_at_call 86;clear mk5;refine(cD.out _ HM.out.below).mono ?_;rintro r w3 ⟨rfl,hb_⟩;replace p62:=Zk HM hb_ 0 62 p62;replace HM:=Zm HM hb_;replace hF:=hFs.z hF hb_;clear hb_;dsimp only)|fail)
 try simp only[Exit.inBlock,Exit.then]
 go_ret
 exact⟨by first|rfl|trivial,HM.out.below⟩
end Tx
end Go.Proofs.YtfamifgchgolpaaGreat
