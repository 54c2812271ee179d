/- Chapter 27: the law Plays. -/
import Derived.Test.YtfamifgchgolpaaGreatEr
import Derived.Test.YtfamifgchgolpaaGreatEs
import Derived.Test.YtfamifgchgolpaaGreatCu
import Derived.Test.YtfamifgchgolpaaGreatCc
import Derived.Test.YtfamifgchgolpaaGreatEq
set_option linter.unusedVariables false
set_option linter.unusedSimpArgs false
set_option maxRecDepth 100000
set_option maxHeartbeats 16000000
namespace Go.Proofs.YtfamifgchgolpaaGreat
open Go Go.RowKit Go.Sort Go.Shelf Go.Maps
namespace Tx
open Sw Mm Pl
theorem few_small3 {t:Tab}(h:fewT t=true)(hT:TabOk t):Small2 t:=by
 unfold fewT fewC at h
 simp only[Bool.and_eq_true,Bool.or_eq_true,decide_eq_true_eq]at h
 have h1:=hT.size
 have h2:=hT.len
 exact⟨by omega,by omega⟩
theorem few27_small {a b:Ed} {ta tb:Tab} {nf:Nat}(h:few27 a b ta tb nf=true)(h0:idleC a b ta tb=0):Small2 ta∧Small2 tb:=by
 unfold few27 at h
 simp only[Bool.and_eq_true]at h
 have hI:=idleC_iff.1 h0
 exact⟨few_small3 h.2.2.1 hI.fa.tab,few_small3 h.2.2.2.1 hI.fb.tab⟩
theorem EdX.up {w0 w1 w:World} {v:EdV} {e:Ed}(h:EdX w0 v e w)(hb:Below w0.heap.size w0 w1):EdX w1 v e w:=⟨h.cells,h.lc,h.asked.imp id (·.keep hb),h.last.imp id (·.keep hb),h.reply.imp id (·.keep hb)⟩
theorem lawPlays_any(a b:Ed)(ta tb:Tab)(f:List Int)(l:List Wsh)(va vb:EdV)(vta vtb:TabV)(A Al:Option Addr)(nf cf n cl:Nat)(w:World)(h1:EdIs w va a)(h2:EdIs w vb b)(t1:TabIs w vta ta)(t2:TabIs w vtb tb)(hf:IntS w A nf f)(hl:WshS w Al n l):Calls Tryz.prog 5 #[.agg (cplA a va b vb ta vta tb vtb A nf cf),.slice Al n cl] w fun r w'=>r= .returned (.bool true)∧Below w.heap.size w w':=by
 have HM:=Zh (Mem.start w)
 obtain⟨F0,hFs,hF⟩:∃F:World→Prop,Stb F∧Hid (F w):=⟨_,Stb.true,trivial⟩
 have uE:=Tryz.underlying32
 have uT:=Tryz.underlying37
 have uM:=Tryz.underlying30
 have hlen:=hl.len
 have hsm:=hl.small
 unfold maxLen at hsm
 have cAw:=fun W=>awake27_any W
 have uC:=Tryz.underlying59
 have cFw:=fun W (hb:Below w.heap.size w W)=>few27_any a b ta tb va vb vta vtb A nf cf W (h1.keep hb) (h2.keep hb) (t1.keep hb) (t2.keep hb)
 have hIa:=fun W (hb:Below w.heap.size w W)=>h1.keep hb
 have hIb:=fun W (hb:Below w.heap.size w W)=>h2.keep hb
 have hSm:=few27_small (a:=a) (b:=b) (ta:=ta) (tb:=tb) (nf:=nf)
 have cP:=fun(hs:idleC a b ta tb=0→Small2 ta∧Small2 tb) W (hb:Below w.heap.size w W)=>play_any a b ta tb f l va vb vta vtb A Al nf cf n cl W (h1.keep hb) (h2.keep hb) (t1.keep hb) (t2.keep hb) (hf.keep hb) (hl.keep hb) hs
 have cR:=fun(hs:idleC a b ta tb=0→Small2 ta∧Small2 tb) W (hb:Below w.heap.size w W)=>rplay_any a b ta tb f l va vb vta vtb A Al nf cf n cl W (h1.keep hb) (h2.keep hb) (t1.keep hb) (t2.keep hb) (hf.keep hb) (hl.keep hb) hs
 unfold PlPost at cP
 unfold RPlPost at cR
 have cSS:=fun x vx vy W (q1:EdIs W vx x) (q2:EdIs W vy x)=>sameE_any x x vx vy W q1 q2
 have cE:=fun A5 A6 n5 c5 n6 c6 xs W (q1:Sls boolE 1 W A5 n5 xs) (q2:Sls boolE 1 W A6 n6 xs)=>eqBool_any A5 A6 n5 c5 n6 c6 xs xs W q1 q2
 simp only[eq_self,decide_true]at cSS cE
 generalize playE a b ta tb f l=XY at*
 generalize playB a b ta tb f l=bs at*
 generalize playC a b ta tb l=PC at*
 generalize few27 a b ta tb nf=FW at*
 obtain⟨X,Y⟩:=XY
 dsimp only at cP cR
 replace cAw:=Zh cAw
 replace cFw:=Zh cFw
 replace hIa:=Zh hIa
 replace hIb:=Zh hIb
 replace cP:=Zh cP
 replace cR:=Zh cR
 replace cSS:=Zh cSS
 replace cE:=Zh cE
 replace hSm:=Zh hSm
 replace uC:=Zh uC
 replace h1:=Zh h1
 replace h2:=Zh h2
 replace t1:=Zh t1
 replace t2:=Zh t2
 replace hf:=Zh hf
 replace hl:=Zh hl
 replace hlen:=Zh hlen
 replace uE:=Zh uE
 replace uT:=Zh uT
 replace uM:=Zh uM
 go_enter Tryz.func5,Tryz.ntmps5
 have mk1:Unit:=()
 go_upto_region 1 with(first|go_skip|(clear mk1;refine hFs.b HM hF 59 ?_;clear HM hF;intro gc w1 HM hF)|fail)
 have mk2:Unit:=()
 go_upto_region 3 with(first|go_skip|(go_at_call 22;clear mk2;refine hFs.k HM hF (cAw.out _) ?_;clear HM hF;intro w3 HM hF;dsimp only)|fail)
 have mk3:Unit:=()
 cases FW
 case false=>
  go_wp2_with(first|go_skip|(refine lG 0 HM uC.out ?_)|(go_at_call 23;clear mk3;refine hFs.k HM hF (cFw.out _ HM.out.below) ?_;clear HM hF;intro w3 HM hF;dsimp only)|fail)
  try simp only[Exit.inBlock,Exit.then]
  go_ret
  exact⟨by first|rfl|trivial,HM.out.below⟩
 have cP2:=Zh (cP.out (hSm.out rfl))
 have cR2:=Zh (cR.out (hSm.out rfl))
 clear hSm cP cR
 by_cases c1:(30:Int)<(n:Int)
 case' pos=>
  have c2:decide ((30:Int)<(n:Int))=true:=decide_eq_true c1
  by_cases c3:(n:Int)≤4096
  case pos=>
   have c4:decide ((n:Int)≤4096)=true:=decide_eq_true c3
   go_wp2_with(first|go_skip|(refine lG 0 HM uC.out ?_)|(go_at_call 23;clear mk3;refine hFs.k HM hF (cFw.out _ HM.out.below) ?_;clear HM hF;intro w3 HM hF;dsimp only)|fail)
   try simp only[Exit.inBlock,Exit.then]
   go_ret
   exact⟨by first|rfl|trivial,HM.out.below⟩
  have c4:decide ((n:Int)≤4096)=false:=decide_eq_false c3
  by_cases c5:(4100:Int)<(n:Int)
  case pos=>
   have c6:decide ((4100:Int)<(n:Int))=true:=decide_eq_true c5
   go_wp2_with(first|go_skip|(refine lG 0 HM uC.out ?_)|(go_at_call 23;clear mk3;refine hFs.k HM hF (cFw.out _ HM.out.below) ?_;clear HM hF;intro w3 HM hF;dsimp only)|fail)
   try simp only[Exit.inBlock,Exit.then]
   go_ret
   exact⟨by first|rfl|trivial,HM.out.below⟩
  have c6:decide ((4100:Int)<(n:Int))=false:=decide_eq_false c5
  go_upto_region 5 with(first|go_skip|(refine lG 0 HM uC.out ?_)|(go_at_call 23;clear mk3;refine hFs.k HM hF (cFw.out _ HM.out.below) ?_;clear HM hF;intro w3 HM hF;dsimp only)|fail)
  clear c1 c2 c3 c4 c5 c6
 case' neg=>
  have c2:decide ((30:Int)<(n:Int))=false:=decide_eq_false c1
  have c5:¬(4100:Int)<(n:Int):=by omega
  have c6:decide ((4100:Int)<(n:Int))=false:=decide_eq_false c5
  go_upto_region 5 with(first|go_skip|(refine lG 0 HM uC.out ?_)|(go_at_call 23;clear mk3;refine hFs.k HM hF (cFw.out _ HM.out.below) ?_;clear HM hF;intro w3 HM hF;dsimp only)|fail)
  clear c1 c2 c5 c6
 all_goals
  clear cFw cAw
  have p62:=Zc HM 0 62 (.slice A nf cf)
  have mk4:Unit:=()
  have mk5:Unit:=()
  have mk6:Unit:=()
  go_upto_region 6 with(first|go_skip|(refine lP 0 HM 0 (endA a va) uE.out ?_)|(refine lP 0 HM 28 (endA b vb) uE.out ?_)|(refine lP 0 HM 56 (tabA ta vta) uT.out ?_)|(refine lP 0 HM 59 (tabA tb vtb) uT.out ?_)|(go_at_call 26;clear mk4;refine(cP2.out _ HM.out.below).mono ?_;rintro r w3 ⟨v3,v4,A5,n5,c5,rfl,hX5,hY5,⟨bO,HO⟩,hn5,hb_⟩;clear p62;have HB:=Zh hb_;replace HM:=Zm HM hb_;replace HO:=Zh HO;replace hn5:=Zh hn5;clear hF hFs;obtain⟨F8,hFs,hF,gX,gY⟩:∃F:World→Prop,Stb F∧Hid (F w3)∧Hid (∀W,F W→EdX _ v3 X W)∧Hid (∀W,F W→EdX _ v4 Y W):=⟨_,(Stb.edX _ v3 X).and (Stb.edX _ v4 Y),⟨hX5,hY5⟩,fun _ h=>h.1,fun _ h=>h.2⟩;clear hX5 hY5 hb_;dsimp only)|(clear mk5;refine aN HM edInfo ?_;clear HM;intro g5 w1 HM hG hN9;replace hF:=hFs.y hF hG;replace HO:=Zh (owns_keep HO.out hG.out);have hf_g5:=Nat.le_trans HB.out.size hN9.out;replace HB:=Zh (bthen HB.out hG.out);clear hG hN9)|(clear mk6;refine aN HM edInfo ?_;clear HM;intro g6 w1 HM hG hN9;replace hF:=hFs.y hF hG;replace HO:=Zh (owns_keep HO.out hG.out);have hf_g6:=Nat.le_trans HB.out.size hN9.out;replace HB:=Zh (bthen HB.out hG.out);clear hG hN9)|(refine sF 1 HM ?_;have hBq:=HM.out.at_ 1 rfl;clear HM;intro w4 HM hG4;simp only[List.set]at HM;replace hF:=hFs.p hF hBq hG4;replace HB:=Zh (HB.out.grown hG4.out HB.out.size (fun k e=>by cases e;exact hf_g5));replace HO:=Zh (HO.out.kept hG4.out (.inr (row_ne_blk HO.out hBq (by decide))));clear hBq hG4)|(refine sF 0 HM ?_;have hBq:=HM.out.at_ 0 rfl;clear HM;intro w4 HM hG4;simp only[List.set]at HM;replace hF:=hFs.p hF hBq hG4;replace HB:=Zh (HB.out.grown hG4.out HB.out.size (fun k e=>by cases e;exact hf_g6));replace HO:=Zh (HO.out.kept hG4.out (.inr (row_ne_blk HO.out hBq (by decide))));clear hBq hG4)|fail)
  have p62:=Zc HM 2 62 (.slice A nf cf)
  have mk7:Unit:=()
  have mk8:Unit:=()
  have mk9:Unit:=()
  go_upto_region 7 with(first|go_skip|(refine lP 2 HM 0 (endA a va) uE.out ?_)|(refine lP 2 HM 28 (endA b vb) uE.out ?_)|(refine lP 2 HM 56 (tabA ta vta) uT.out ?_)|(refine lP 2 HM 59 (tabA tb vtb) uT.out ?_)|(go_at_call 27;clear mk7;refine(cR2.out _ HM.out.below).mono ?_;rintro r w3 ⟨v5,v6,A6,n6,c6,rfl,hX6,hY6,⟨bP,HO2⟩,hn6,hb_⟩;clear p62;have hx3:=(gX.out _ hF.out).up HB.out;have hy3:=(gY.out _ hF.out).up HB.out;clear HB;have HB:=Zh hb_;replace HM:=Zm HM hb_;replace HO:=Zh (owns_keep HO.out hb_);replace HO2:=Zh HO2;replace hn6:=Zh hn6;clear hF hFs gX gY;obtain⟨F9,hFs,hF,gX,gY,gU,gV⟩:∃F:World→Prop,Stb F∧Hid (F w3)∧Hid (∀W,F W→EdX _ v3 X W)∧Hid (∀W,F W→EdX _ v4 Y W)∧Hid (∀W,F W→EdW _ v5 X W)∧Hid (∀W,F W→EdW _ v6 Y W):=⟨_,(Stb.edX _ v3 X).and ((Stb.edX _ v4 Y).and ((Stb.edW _ v5 X).and (Stb.edW _ v6 Y))),⟨(Stb.edX _ v3 X).keep hx3 hb_,(Stb.edX _ v4 Y).keep hy3 hb_,hX6,hY6⟩,fun _ h=>h.1,fun _ h=>h.2.1,fun _ h=>h.2.2.1,fun _ h=>h.2.2.2⟩;clear hX6 hY6 hx3 hy3 hb_;dsimp only)|(clear mk8;refine aN HM edInfo ?_;clear HM;intro g9 w1 HM hG hN9;replace hF:=hFs.y hF hG;replace HO:=Zh (owns_keep HO.out hG.out);replace HO2:=Zh (owns_keep HO2.out hG.out);have hf_g9:=Nat.le_trans HB.out.size hN9.out;replace HB:=Zh (bthen HB.out hG.out);clear hG hN9)|(clear mk9;refine aN HM edInfo ?_;clear HM;intro g10 w1 HM hG hN9;replace hF:=hFs.y hF hG;replace HO:=Zh (owns_keep HO.out hG.out);replace HO2:=Zh (owns_keep HO2.out hG.out);have hf_g10:=Nat.le_trans HB.out.size hN9.out;replace HB:=Zh (bthen HB.out hG.out);clear hG hN9)|(refine sF 1 HM ?_;have hBq:=HM.out.at_ 1 rfl;clear HM;intro w4 HM hG4;simp only[List.set]at HM;replace hF:=hFs.p hF hBq hG4;replace HB:=Zh (HB.out.grown hG4.out HB.out.size (fun k e=>by cases e;exact hf_g9));replace HO:=Zh (HO.out.kept hG4.out (.inr (row_ne_blk HO.out hBq (by decide))));replace HO2:=Zh (HO2.out.kept hG4.out (.inr (row_ne_blk HO2.out hBq (by decide))));clear hBq hG4)|(refine sF 0 HM ?_;have hBq:=HM.out.at_ 0 rfl;clear HM;intro w4 HM hG4;simp only[List.set]at HM;replace hF:=hFs.p hF hBq hG4;replace HB:=Zh (HB.out.grown hG4.out HB.out.size (fun k e=>by cases e;exact hf_g10));replace HO:=Zh (HO.out.kept hG4.out (.inr (row_ne_blk HO.out hBq (by decide))));replace HO2:=Zh (HO2.out.kept hG4.out (.inr (row_ne_blk HO2.out hBq (by decide))));clear hBq hG4)|fail)
  have mk10:Unit:=()
  have mk11:Unit:=()
  have mk12:Unit:=()
  go_wp2_with(first|go_skip|(refine lG 3 HM uE.out ?_)|(refine lG 1 HM uE.out ?_)|(refine lG 2 HM uE.out ?_)|(refine lG 0 HM uE.out ?_)|(go_at_call 28;clear mk10;refine(cE.out A5 A6 n5 c5 n6 c6 bs _ (Sls.of_owns boolE_len HO.out hn5.out).2 (Sls.of_owns boolE_len HO2.out hn6.out).2).mono ?_;rintro r w3 ⟨rfl,hb_⟩;replace HM:=Zm HM hb_;replace hF:=hFs.z hF hb_;replace HB:=Zh (bthen HB.out hb_);clear hb_;dsimp only)|(go_at_call 16;clear mk11;refine(cSS.out X v3 v5 _ ((gX.out _ hF.out).is HB.out) ((gU.out _ hF.out).is HB.out)).mono ?_;rintro r w3 ⟨rfl,hb_⟩;replace HM:=Zm HM hb_;replace hF:=hFs.z hF hb_;replace HB:=Zh (bthen HB.out hb_);clear hb_;dsimp only)|(go_at_call 16;clear mk12;refine(cSS.out Y v4 v6 _ ((gY.out _ hF.out).is HB.out) ((gV.out _ hF.out).is HB.out)).mono ?_;rintro r w3 ⟨rfl,hb_⟩;replace HM:=Zm HM hb_;replace hF:=hFs.z hF hb_;replace HB:=Zh (bthen HB.out hb_);clear hb_;dsimp only)|fail)
  try simp only[Exit.inBlock,Exit.then]
  go_ret
  exact⟨by first|rfl|trivial,HM.out.below⟩
end Tx
end Go.Proofs.YtfamifgchgolpaaGreat
