/- Chapter 26: Same of ends: the reference's. -/
import Derived.Test.YtfamifgchgolpaaGreatBz
set_option linter.unusedVariables false
set_option linter.unusedSimpArgs false
set_option maxRecDepth 100000
set_option maxHeartbeats 8000000
namespace Go.Proofs.YtfamifgchgolpaaGreat
open Go Go.RowKit Go.Sort Go.Shelf Go.Maps
namespace Tx
open Sw Mm Pl
theorem sameE_split(a b:Ed):decide (a=b)=(a.node==b.node&&(a.peer==b.peer&&(a.number==b.number&&(decide (a.cells=b.cells)&&(a.opn==b.opn&&(a.since==b.since&&(decide (a.asked=b.asked)&&(a.known==b.known&&(decide (a.last=b.last)&&decide (a.reply=b.reply)))))))))):=by
 obtain⟨a0,a1,a2,a3,a4,a5,a6,a7,a8,a9⟩:=a
 obtain⟨b0,b1,b2,b3,b4,b5,b6,b7,b8,b9⟩:=b
 rw[Bool.eq_iff_iff]
 simp
theorem sameE_any(a b:Ed)(va vb:EdV)(w:World)(h1:EdIs w va a)(h2:EdIs w vb b):Calls Tryz.prog 16 #[.agg (Ke a va),.agg (Ke b vb)] w fun r w'=>r= .returned (.bool (decide (a=b)))∧Below w.heap.size w w':=by
 have I:=Zh (Mem.start w)
 have hR:=sameE_split a b
 have cC:=fun W (hb:Below w.heap.size w W)=>sameT_any va.cA vb.cA va.cn va.cc vb.cn vb.cc a.cells b.cells W (h1.cells.keep hb) (h2.cells.keep hb)
 have cA:=fun W (hb:Below w.heap.size w W)=>sameM_any a.asked b.asked va.a vb.a W (h1.asked.keep hb) (h2.asked.keep hb)
 have cL:=fun W (hb:Below w.heap.size w W)=>sameM_any a.last b.last va.l vb.l W (h1.last.keep hb) (h2.last.keep hb)
 have cR:=fun W (hb:Below w.heap.size w W)=>sameM_any a.reply b.reply va.r vb.r W (h1.reply.keep hb) (h2.reply.keep hb)
 generalize hP:(fun(r:Ending) w'=>r=Ending.returned (.bool (decide (a=b)))∧Below w.heap.size w w')=P
 have hPo:∀B w',decide (a=b)=B→Below w.heap.size w w'→P (.returned (.bool B)) w':=fun B w' e1 hb=>by rw[←hP];exact⟨by rw[e1],hb⟩
 clear hP
 generalize decide (a=b)=R at*
 generalize decide (a.cells=b.cells)=D1 at*
 generalize decide (a.asked=b.asked)=D2 at*
 generalize decide (a.last=b.last)=D3 at*
 generalize decide (a.reply=b.reply)=D4 at*
 have uM:=Tryz.underlying30
 refine zh9 ?_ cC cA cL cR h1 h2 hR hPo uM;clear cC cA cL cR h1 h2 hR hPo uM;intro cC cA cL cR h1 h2 hR hPo uM
 go_enter Tryz.func16,Tryz.ntmps16
 have mka:Unit:=()
 go_upto_region 1 with(first|(clear mka;refine bA I 32 ?_;clear I;intro ga w1 I hG;clear hG)|(refine bA I 32 ?_;clear I;intro gb w1 I hG;clear hG))
 generalize Value.agg (Ke a va)=V0
 generalize Value.agg (Ke b vb)=V1
 have kan0:=Zc I 1 0 (.int .i64 a.node)
 have kan1:=Zc I 1 1 (.int .i64 a.peer)
 have kan2:=Zc I 1 2 (.int .i64 a.number)
 have kan3:=Zc I 1 3 (.slice va.cA va.cn va.cc)
 have kan4:=Zc I 1 4 (.bool a.opn)
 have kan5:=Zc I 1 5 (.int .i64 a.since)
 have kan7:=Zc I 1 13 (.bool a.known)
 have kbn0:=Zc I 0 0 (.int .i64 b.node)
 have kbn1:=Zc I 0 1 (.int .i64 b.peer)
 have kbn2:=Zc I 0 2 (.int .i64 b.number)
 have kbn3:=Zc I 0 3 (.slice vb.cA vb.cn vb.cc)
 have kbn4:=Zc I 0 4 (.bool b.opn)
 have kbn5:=Zc I 0 5 (.int .i64 b.since)
 have kbn7:=Zc I 0 13 (.bool b.known)
 by_cases h_node:(a.node==b.node)=true
 case neg=>
  rw[Bool.not_eq_true]at h_node
  rw[h_node]at hR
  change Hid (R=false)at hR
  go_wp2_with fail
  exact hPo.out _ _ hR.out I.below
 rw[h_node]at hR
 by_cases h_peer:(a.peer==b.peer)=true
 case neg=>
  rw[Bool.not_eq_true]at h_peer
  rw[h_peer]at hR
  change Hid (R=false)at hR
  go_wp2_with fail
  exact hPo.out _ _ hR.out I.below
 rw[h_peer]at hR
 by_cases h_number:(a.number==b.number)=true
 case neg=>
  rw[Bool.not_eq_true]at h_number
  rw[h_number]at hR
  change Hid (R=false)at hR
  go_wp2_with fail
  exact hPo.out _ _ hR.out I.below
 rw[h_number]at hR
 cases D1
 case false=>
  change Hid (R=false)at hR
  go_wp2_with(first
   |go_skip
   |(go_at_call 70;refine(cC _ I.below).mono ?_;rintro e w3 ⟨rfl,p_⟩;have HM2:=Zm I p_;clear I p_ kan0 kan1 kan2 kan3 kan4 kan5 kan7 kbn0 kbn1 kbn2 kbn3 kbn4 kbn5 kbn7 cC;have I:=HM2;clear HM2;have kan0:=Zc I 1 0 (.int .i64 a.node);have kan1:=Zc I 1 1 (.int .i64 a.peer);have kan2:=Zc I 1 2 (.int .i64 a.number);have kan3:=Zc I 1 3 (.slice va.cA va.cn va.cc);have kan4:=Zc I 1 4 (.bool a.opn);have kan5:=Zc I 1 5 (.int .i64 a.since);have kan7:=Zc I 1 13 (.bool a.known);have kbn0:=Zc I 0 0 (.int .i64 b.node);have kbn1:=Zc I 0 1 (.int .i64 b.peer);have kbn2:=Zc I 0 2 (.int .i64 b.number);have kbn3:=Zc I 0 3 (.slice vb.cA vb.cn vb.cc);have kbn4:=Zc I 0 4 (.bool b.opn);have kbn5:=Zc I 0 5 (.int .i64 b.since);have kbn7:=Zc I 0 13 (.bool b.known))
   |fail)
  exact hPo.out _ _ hR.out I.below
 by_cases h_opn:(a.opn==b.opn)=true
 case neg=>
  rw[Bool.not_eq_true]at h_opn
  rw[h_opn]at hR
  change Hid (R=false)at hR
  go_wp2_with(first
   |go_skip
   |(go_at_call 70;refine(cC _ I.below).mono ?_;rintro e w3 ⟨rfl,p_⟩;have HM2:=Zm I p_;clear I p_ kan0 kan1 kan2 kan3 kan4 kan5 kan7 kbn0 kbn1 kbn2 kbn3 kbn4 kbn5 kbn7 cC;have I:=HM2;clear HM2;have kan0:=Zc I 1 0 (.int .i64 a.node);have kan1:=Zc I 1 1 (.int .i64 a.peer);have kan2:=Zc I 1 2 (.int .i64 a.number);have kan3:=Zc I 1 3 (.slice va.cA va.cn va.cc);have kan4:=Zc I 1 4 (.bool a.opn);have kan5:=Zc I 1 5 (.int .i64 a.since);have kan7:=Zc I 1 13 (.bool a.known);have kbn0:=Zc I 0 0 (.int .i64 b.node);have kbn1:=Zc I 0 1 (.int .i64 b.peer);have kbn2:=Zc I 0 2 (.int .i64 b.number);have kbn3:=Zc I 0 3 (.slice vb.cA vb.cn vb.cc);have kbn4:=Zc I 0 4 (.bool b.opn);have kbn5:=Zc I 0 5 (.int .i64 b.since);have kbn7:=Zc I 0 13 (.bool b.known))
   |fail)
  exact hPo.out _ _ hR.out I.below
 rw[h_opn]at hR
 by_cases h_since:(a.since==b.since)=true
 case neg=>
  rw[Bool.not_eq_true]at h_since
  rw[h_since]at hR
  change Hid (R=false)at hR
  go_wp2_with(first
   |go_skip
   |(go_at_call 70;refine(cC _ I.below).mono ?_;rintro e w3 ⟨rfl,p_⟩;have HM2:=Zm I p_;clear I p_ kan0 kan1 kan2 kan3 kan4 kan5 kan7 kbn0 kbn1 kbn2 kbn3 kbn4 kbn5 kbn7 cC;have I:=HM2;clear HM2;have kan0:=Zc I 1 0 (.int .i64 a.node);have kan1:=Zc I 1 1 (.int .i64 a.peer);have kan2:=Zc I 1 2 (.int .i64 a.number);have kan3:=Zc I 1 3 (.slice va.cA va.cn va.cc);have kan4:=Zc I 1 4 (.bool a.opn);have kan5:=Zc I 1 5 (.int .i64 a.since);have kan7:=Zc I 1 13 (.bool a.known);have kbn0:=Zc I 0 0 (.int .i64 b.node);have kbn1:=Zc I 0 1 (.int .i64 b.peer);have kbn2:=Zc I 0 2 (.int .i64 b.number);have kbn3:=Zc I 0 3 (.slice vb.cA vb.cn vb.cc);have kbn4:=Zc I 0 4 (.bool b.opn);have kbn5:=Zc I 0 5 (.int .i64 b.since);have kbn7:=Zc I 0 13 (.bool b.known))
   |fail)
  exact hPo.out _ _ hR.out I.below
 rw[h_since]at hR
 cases D2
 case false=>
  change Hid (R=false)at hR
  go_wp2_with(first
   |go_skip
   |(go_at_call 70;refine(cC _ I.below).mono ?_;rintro e w3 ⟨rfl,p_⟩;have HM2:=Zm I p_;clear I p_ kan0 kan1 kan2 kan3 kan4 kan5 kan7 kbn0 kbn1 kbn2 kbn3 kbn4 kbn5 kbn7 cC;have I:=HM2;clear HM2;have kan0:=Zc I 1 0 (.int .i64 a.node);have kan1:=Zc I 1 1 (.int .i64 a.peer);have kan2:=Zc I 1 2 (.int .i64 a.number);have kan3:=Zc I 1 3 (.slice va.cA va.cn va.cc);have kan4:=Zc I 1 4 (.bool a.opn);have kan5:=Zc I 1 5 (.int .i64 a.since);have kan7:=Zc I 1 13 (.bool a.known);have kbn0:=Zc I 0 0 (.int .i64 b.node);have kbn1:=Zc I 0 1 (.int .i64 b.peer);have kbn2:=Zc I 0 2 (.int .i64 b.number);have kbn3:=Zc I 0 3 (.slice vb.cA vb.cn vb.cc);have kbn4:=Zc I 0 4 (.bool b.opn);have kbn5:=Zc I 0 5 (.int .i64 b.since);have kbn7:=Zc I 0 13 (.bool b.known))
   |(refine lP 1 I 6 ((Km a.asked va.a)) uM.out ?_)
   |(refine lP 0 I 6 ((Km b.asked vb.a)) uM.out ?_)
   |(go_at_call 14;refine(cA _ I.below).mono ?_;rintro e w3 ⟨rfl,p_⟩;have HM2:=Zm I p_;clear I p_ kan0 kan1 kan2 kan3 kan4 kan5 kan7 kbn0 kbn1 kbn2 kbn3 kbn4 kbn5 kbn7 cA;have I:=HM2;clear HM2;have kan0:=Zc I 1 0 (.int .i64 a.node);have kan1:=Zc I 1 1 (.int .i64 a.peer);have kan2:=Zc I 1 2 (.int .i64 a.number);have kan3:=Zc I 1 3 (.slice va.cA va.cn va.cc);have kan4:=Zc I 1 4 (.bool a.opn);have kan5:=Zc I 1 5 (.int .i64 a.since);have kan7:=Zc I 1 13 (.bool a.known);have kbn0:=Zc I 0 0 (.int .i64 b.node);have kbn1:=Zc I 0 1 (.int .i64 b.peer);have kbn2:=Zc I 0 2 (.int .i64 b.number);have kbn3:=Zc I 0 3 (.slice vb.cA vb.cn vb.cc);have kbn4:=Zc I 0 4 (.bool b.opn);have kbn5:=Zc I 0 5 (.int .i64 b.since);have kbn7:=Zc I 0 13 (.bool b.known))
   |fail)
  exact hPo.out _ _ hR.out I.below
 by_cases h_known:(a.known==b.known)=true
 case neg=>
  rw[Bool.not_eq_true]at h_known
  rw[h_known]at hR
  change Hid (R=false)at hR
  go_wp2_with(first
   |go_skip
   |(go_at_call 70;refine(cC _ I.below).mono ?_;rintro e w3 ⟨rfl,p_⟩;have HM2:=Zm I p_;clear I p_ kan0 kan1 kan2 kan3 kan4 kan5 kan7 kbn0 kbn1 kbn2 kbn3 kbn4 kbn5 kbn7 cC;have I:=HM2;clear HM2;have kan0:=Zc I 1 0 (.int .i64 a.node);have kan1:=Zc I 1 1 (.int .i64 a.peer);have kan2:=Zc I 1 2 (.int .i64 a.number);have kan3:=Zc I 1 3 (.slice va.cA va.cn va.cc);have kan4:=Zc I 1 4 (.bool a.opn);have kan5:=Zc I 1 5 (.int .i64 a.since);have kan7:=Zc I 1 13 (.bool a.known);have kbn0:=Zc I 0 0 (.int .i64 b.node);have kbn1:=Zc I 0 1 (.int .i64 b.peer);have kbn2:=Zc I 0 2 (.int .i64 b.number);have kbn3:=Zc I 0 3 (.slice vb.cA vb.cn vb.cc);have kbn4:=Zc I 0 4 (.bool b.opn);have kbn5:=Zc I 0 5 (.int .i64 b.since);have kbn7:=Zc I 0 13 (.bool b.known))
   |(refine lP 1 I 6 ((Km a.asked va.a)) uM.out ?_)
   |(refine lP 0 I 6 ((Km b.asked vb.a)) uM.out ?_)
   |(go_at_call 14;refine(cA _ I.below).mono ?_;rintro e w3 ⟨rfl,p_⟩;have HM2:=Zm I p_;clear I p_ kan0 kan1 kan2 kan3 kan4 kan5 kan7 kbn0 kbn1 kbn2 kbn3 kbn4 kbn5 kbn7 cA;have I:=HM2;clear HM2;have kan0:=Zc I 1 0 (.int .i64 a.node);have kan1:=Zc I 1 1 (.int .i64 a.peer);have kan2:=Zc I 1 2 (.int .i64 a.number);have kan3:=Zc I 1 3 (.slice va.cA va.cn va.cc);have kan4:=Zc I 1 4 (.bool a.opn);have kan5:=Zc I 1 5 (.int .i64 a.since);have kan7:=Zc I 1 13 (.bool a.known);have kbn0:=Zc I 0 0 (.int .i64 b.node);have kbn1:=Zc I 0 1 (.int .i64 b.peer);have kbn2:=Zc I 0 2 (.int .i64 b.number);have kbn3:=Zc I 0 3 (.slice vb.cA vb.cn vb.cc);have kbn4:=Zc I 0 4 (.bool b.opn);have kbn5:=Zc I 0 5 (.int .i64 b.since);have kbn7:=Zc I 0 13 (.bool b.known))
   |fail)
  exact hPo.out _ _ hR.out I.below
 rw[h_known]at hR
 cases D3
 case false=>
  change Hid (R=false)at hR
  go_wp2_with(first
   |go_skip
   |(go_at_call 70;refine(cC _ I.below).mono ?_;rintro e w3 ⟨rfl,p_⟩;have HM2:=Zm I p_;clear I p_ kan0 kan1 kan2 kan3 kan4 kan5 kan7 kbn0 kbn1 kbn2 kbn3 kbn4 kbn5 kbn7 cC;have I:=HM2;clear HM2;have kan0:=Zc I 1 0 (.int .i64 a.node);have kan1:=Zc I 1 1 (.int .i64 a.peer);have kan2:=Zc I 1 2 (.int .i64 a.number);have kan3:=Zc I 1 3 (.slice va.cA va.cn va.cc);have kan4:=Zc I 1 4 (.bool a.opn);have kan5:=Zc I 1 5 (.int .i64 a.since);have kan7:=Zc I 1 13 (.bool a.known);have kbn0:=Zc I 0 0 (.int .i64 b.node);have kbn1:=Zc I 0 1 (.int .i64 b.peer);have kbn2:=Zc I 0 2 (.int .i64 b.number);have kbn3:=Zc I 0 3 (.slice vb.cA vb.cn vb.cc);have kbn4:=Zc I 0 4 (.bool b.opn);have kbn5:=Zc I 0 5 (.int .i64 b.since);have kbn7:=Zc I 0 13 (.bool b.known))
   |(refine lP 1 I 6 ((Km a.asked va.a)) uM.out ?_)
   |(refine lP 0 I 6 ((Km b.asked vb.a)) uM.out ?_)
   |(refine lP 1 I 14 ((Km a.last va.l)) uM.out ?_)
   |(refine lP 0 I 14 ((Km b.last vb.l)) uM.out ?_)
   |(go_at_call 14;refine(cA _ I.below).mono ?_;rintro e w3 ⟨rfl,p_⟩;have HM2:=Zm I p_;clear I p_ kan0 kan1 kan2 kan3 kan4 kan5 kan7 kbn0 kbn1 kbn2 kbn3 kbn4 kbn5 kbn7 cA;have I:=HM2;clear HM2;have kan0:=Zc I 1 0 (.int .i64 a.node);have kan1:=Zc I 1 1 (.int .i64 a.peer);have kan2:=Zc I 1 2 (.int .i64 a.number);have kan3:=Zc I 1 3 (.slice va.cA va.cn va.cc);have kan4:=Zc I 1 4 (.bool a.opn);have kan5:=Zc I 1 5 (.int .i64 a.since);have kan7:=Zc I 1 13 (.bool a.known);have kbn0:=Zc I 0 0 (.int .i64 b.node);have kbn1:=Zc I 0 1 (.int .i64 b.peer);have kbn2:=Zc I 0 2 (.int .i64 b.number);have kbn3:=Zc I 0 3 (.slice vb.cA vb.cn vb.cc);have kbn4:=Zc I 0 4 (.bool b.opn);have kbn5:=Zc I 0 5 (.int .i64 b.since);have kbn7:=Zc I 0 13 (.bool b.known))
   |(go_at_call 14;refine(cL _ I.below).mono ?_;rintro e w3 ⟨rfl,p_⟩;have HM2:=Zm I p_;clear I p_ kan0 kan1 kan2 kan3 kan4 kan5 kan7 kbn0 kbn1 kbn2 kbn3 kbn4 kbn5 kbn7 cL;have I:=HM2;clear HM2;have kan0:=Zc I 1 0 (.int .i64 a.node);have kan1:=Zc I 1 1 (.int .i64 a.peer);have kan2:=Zc I 1 2 (.int .i64 a.number);have kan3:=Zc I 1 3 (.slice va.cA va.cn va.cc);have kan4:=Zc I 1 4 (.bool a.opn);have kan5:=Zc I 1 5 (.int .i64 a.since);have kan7:=Zc I 1 13 (.bool a.known);have kbn0:=Zc I 0 0 (.int .i64 b.node);have kbn1:=Zc I 0 1 (.int .i64 b.peer);have kbn2:=Zc I 0 2 (.int .i64 b.number);have kbn3:=Zc I 0 3 (.slice vb.cA vb.cn vb.cc);have kbn4:=Zc I 0 4 (.bool b.opn);have kbn5:=Zc I 0 5 (.int .i64 b.since);have kbn7:=Zc I 0 13 (.bool b.known))
   |fail)
  exact hPo.out _ _ hR.out I.below
 go_wp2_with(first
  |go_skip
  |(go_at_call 70;refine(cC _ I.below).mono ?_;rintro e w3 ⟨rfl,p_⟩;have HM2:=Zm I p_;clear I p_ kan0 kan1 kan2 kan3 kan4 kan5 kan7 kbn0 kbn1 kbn2 kbn3 kbn4 kbn5 kbn7 cC;have I:=HM2;clear HM2;have kan0:=Zc I 1 0 (.int .i64 a.node);have kan1:=Zc I 1 1 (.int .i64 a.peer);have kan2:=Zc I 1 2 (.int .i64 a.number);have kan3:=Zc I 1 3 (.slice va.cA va.cn va.cc);have kan4:=Zc I 1 4 (.bool a.opn);have kan5:=Zc I 1 5 (.int .i64 a.since);have kan7:=Zc I 1 13 (.bool a.known);have kbn0:=Zc I 0 0 (.int .i64 b.node);have kbn1:=Zc I 0 1 (.int .i64 b.peer);have kbn2:=Zc I 0 2 (.int .i64 b.number);have kbn3:=Zc I 0 3 (.slice vb.cA vb.cn vb.cc);have kbn4:=Zc I 0 4 (.bool b.opn);have kbn5:=Zc I 0 5 (.int .i64 b.since);have kbn7:=Zc I 0 13 (.bool b.known))
  |(refine lP 1 I 6 ((Km a.asked va.a)) uM.out ?_)
  |(refine lP 0 I 6 ((Km b.asked vb.a)) uM.out ?_)
  |(refine lP 1 I 14 ((Km a.last va.l)) uM.out ?_)
  |(refine lP 0 I 14 ((Km b.last vb.l)) uM.out ?_)
  |(refine lP 1 I 21 ((Km a.reply va.r)) uM.out ?_)
  |(refine lP 0 I 21 ((Km b.reply vb.r)) uM.out ?_)
  |(go_at_call 14;refine(cA _ I.below).mono ?_;rintro e w3 ⟨rfl,p_⟩;have HM2:=Zm I p_;clear I p_ kan0 kan1 kan2 kan3 kan4 kan5 kan7 kbn0 kbn1 kbn2 kbn3 kbn4 kbn5 kbn7 cA;have I:=HM2;clear HM2;have kan0:=Zc I 1 0 (.int .i64 a.node);have kan1:=Zc I 1 1 (.int .i64 a.peer);have kan2:=Zc I 1 2 (.int .i64 a.number);have kan3:=Zc I 1 3 (.slice va.cA va.cn va.cc);have kan4:=Zc I 1 4 (.bool a.opn);have kan5:=Zc I 1 5 (.int .i64 a.since);have kan7:=Zc I 1 13 (.bool a.known);have kbn0:=Zc I 0 0 (.int .i64 b.node);have kbn1:=Zc I 0 1 (.int .i64 b.peer);have kbn2:=Zc I 0 2 (.int .i64 b.number);have kbn3:=Zc I 0 3 (.slice vb.cA vb.cn vb.cc);have kbn4:=Zc I 0 4 (.bool b.opn);have kbn5:=Zc I 0 5 (.int .i64 b.since);have kbn7:=Zc I 0 13 (.bool b.known))
  |(go_at_call 14;refine(cL _ I.below).mono ?_;rintro e w3 ⟨rfl,p_⟩;have HM2:=Zm I p_;clear I p_ kan0 kan1 kan2 kan3 kan4 kan5 kan7 kbn0 kbn1 kbn2 kbn3 kbn4 kbn5 kbn7 cL;have I:=HM2;clear HM2;have kan0:=Zc I 1 0 (.int .i64 a.node);have kan1:=Zc I 1 1 (.int .i64 a.peer);have kan2:=Zc I 1 2 (.int .i64 a.number);have kan3:=Zc I 1 3 (.slice va.cA va.cn va.cc);have kan4:=Zc I 1 4 (.bool a.opn);have kan5:=Zc I 1 5 (.int .i64 a.since);have kan7:=Zc I 1 13 (.bool a.known);have kbn0:=Zc I 0 0 (.int .i64 b.node);have kbn1:=Zc I 0 1 (.int .i64 b.peer);have kbn2:=Zc I 0 2 (.int .i64 b.number);have kbn3:=Zc I 0 3 (.slice vb.cA vb.cn vb.cc);have kbn4:=Zc I 0 4 (.bool b.opn);have kbn5:=Zc I 0 5 (.int .i64 b.since);have kbn7:=Zc I 0 13 (.bool b.known))
  |(go_at_call 14;refine(cR _ I.below).mono ?_;rintro e w3 ⟨rfl,p_⟩;have HM2:=Zm I p_;clear I p_ kan0 kan1 kan2 kan3 kan4 kan5 kan7 kbn0 kbn1 kbn2 kbn3 kbn4 kbn5 kbn7 cR;have I:=HM2;clear HM2;have kan0:=Zc I 1 0 (.int .i64 a.node);have kan1:=Zc I 1 1 (.int .i64 a.peer);have kan2:=Zc I 1 2 (.int .i64 a.number);have kan3:=Zc I 1 3 (.slice va.cA va.cn va.cc);have kan4:=Zc I 1 4 (.bool a.opn);have kan5:=Zc I 1 5 (.int .i64 a.since);have kan7:=Zc I 1 13 (.bool a.known);have kbn0:=Zc I 0 0 (.int .i64 b.node);have kbn1:=Zc I 0 1 (.int .i64 b.peer);have kbn2:=Zc I 0 2 (.int .i64 b.number);have kbn3:=Zc I 0 3 (.slice vb.cA vb.cn vb.cc);have kbn4:=Zc I 0 4 (.bool b.opn);have kbn5:=Zc I 0 5 (.int .i64 b.since);have kbn7:=Zc I 0 13 (.bool b.known))
  |fail)
 exact hPo.out _ _ hR.out I.below
end Tx
end Go.Proofs.YtfamifgchgolpaaGreat
