/- Chapter 27: the example. -/
import Derived.Test.YtfamifgchgolpaaGreatDp
import Derived.Test.YtfamifgchgolpaaGreatEq
set_option linter.unusedVariables false
set_option linter.unusedSimpArgs false
set_option maxRecDepth 100000
set_option maxHeartbeats 8000000
namespace Go.Proofs.YtfamifgchgolpaaGreat
open Go Go.RowKit Go.Sort Go.Shelf Go.Maps
namespace Tx
open Sw Mm Pl
theorem OwnB.is {w:World} {vb v:EdV} {b e:Ed}(h:OwnB vb b v e w)(h2:EdIs w vb b):EdIs w v e:=by
 rcases h with h|⟨rfl,rfl⟩
 ·exact h.is
 ·exact h2
theorem awake27_any(w:World):Calls Tryz.prog 22 #[] w fun r w'=>r= .returned (.bool true)∧Below w.heap.size w w':=by
 have HM:=Zh (Mem.start w)
 obtain⟨F0,hFs,hF⟩:∃F:World→Prop,Stb F∧Hid (F w):=⟨_,Stb.true,trivial⟩
 have uE:=Tryz.underlying32
 have uT:=Tryz.underlying37
 have uM:=Tryz.underlying30
 obtain⟨f1,f2,f3,f4,f5,f6,f7,f8,f9,f10⟩:=aw27_facts
 have cEx:=fun A W (hf:IntS W A 4 [1,1,1,1])=>exchange_any (startE 1 2) (startE 2 1) ⟨1,4,[]⟩ ⟨2,4,[]⟩ [1,1,1,1] 1 1 ⟨false,true,false,false⟩ edV0 edV0 tabV0 tabV0 A 4 4 W (EdOwn.startE W 1 2).is (EdOwn.startE W 2 1).is ⟨Sls.nil,Nat.le_refl _⟩ ⟨Sls.nil,Nat.le_refl _⟩ hf
 rw[f1,f2]at cEx
 change∀A W,_→Calls _ _ _ _ (ExPost awA awB (-1) 0 edV0 (startE 2 1) W)at cEx
 have cPl:=fun v1 v2 A Al W (h1:EdIs W v1 awA) (h2:EdIs W v2 awB) (hf:IntS W A 4 [1,1,1,1]) (hl:WshS W Al 2 awL)=>play_any awA awB ⟨1,4,[]⟩ ⟨2,4,[]⟩ [1,1,1,1] awL v1 v2 tabV0 tabV0 A Al 4 4 2 2 W h1 h2 ⟨Sls.nil,Nat.le_refl _⟩ ⟨Sls.nil,Nat.le_refl _⟩ hf hl (fun _=>⟨⟨by decide,by decide⟩,⟨by decide,by decide⟩⟩)
 rw[f7,f8]at cPl
 change∀v1 v2 A Al W,_→_→_→_→Calls _ _ _ _ (PlPost awX awY [false,true] 0 W)at cPl
 have cC:=fun v1 v2 W (h1:EdIs W v1 awA) (h2:EdIs W v2 awB)=>consP_any awA awB v1 v2 W h1 h2
 rw[f5]at cC
 have cD:=fun v1 v2 W (h1:EdIs W v1 awA) (h2:EdIs W v2 awB)=>detP_any awA awB v1 v2 W h1 h2
 rw[f6]at cD
 have cQ:=fun A B n c d W (h1:Sls boolE 1 W A n [false,true]) (h2:Sls boolE 1 W B 2 [false,true])=>eqBool_any A B n c 2 d [false,true] [false,true] W h1 h2
 rw[show decide ([false,true]= [false,true])=true from rfl]at cQ
 generalize awA=xA at*
 generalize awB=xB at*
 generalize awX=xX at*
 generalize awY=xY at*
 clear f1 f2 f5 f6 f7 f8
 replace cEx:=Zh cEx
 replace cPl:=Zh cPl
 replace cC:=Zh cC
 replace cD:=Zh cD
 replace cQ:=Zh cQ
 replace uE:=Zh uE
 replace uT:=Zh uT
 replace uM:=Zh uM
 replace f3:=Zh f3
 replace f4:=Zh f4
 replace f9:=Zh f9
 replace f10:=Zh f10
 go_enter Tryz.func22,Tryz.ntmps22
 have mk1:Unit:=()
 have mk2:Unit:=()
 go_upto_region 2 with(first|go_skip|(clear mk1;refine hFs.a HM hF edInfo ?_;clear HM hF;intro g1 w1 HM hF)|(clear mk2;refine hFs.a HM hF edInfo ?_;clear HM hF;intro g2 w1 HM hF)|(refine hFs.s 1 HM hF ?_;clear HM hF;intro w4 HM hF;simp only[List.set]at HM)|(refine hFs.s 0 HM hF ?_;clear HM hF;intro w4 HM hF;simp only[List.set]at HM)|fail)
 have HM9:Hid (Mem w _ [(g2,endA (startE 2 1) edV0,32),(g1,endA (startE 1 2) edV0,32)]):=HM
 clear HM
 have HM:=HM9
 clear HM9
 have mk3:Unit:=()
 have mk4:Unit:=()
 go_upto_region 3 with(first|go_skip|(clear mk3;refine hFs.a HM hF tabInfo ?_;clear HM hF;intro g3 w1 HM hF)|(clear mk4;refine hFs.a HM hF tabInfo ?_;clear HM hF;intro g4 w1 HM hF)|(refine hFs.s 1 HM hF ?_;clear HM hF;intro w4 HM hF;simp only[List.set]at HM)|(refine hFs.s 0 HM hF ?_;clear HM hF;intro w4 HM hF;simp only[List.set]at HM)|fail)
 have HM9:Hid (Mem w _ [(g4,tabA ⟨2,4,[]⟩ tabV0,37),(g3,tabA ⟨1,4,[]⟩ tabV0,37),(g2,endA (startE 2 1) edV0,32),(g1,endA (startE 1 2) edV0,32)]):=HM
 clear HM
 have HM:=HM9
 clear HM9
 go_upto_region 4 with fail
 have HM2:=Zh (HM.out.alloc #[.int .i64 1,.int .i64 1,.int .i64 1,.int .i64 1] 3)
 replace hF:=Zh (hFs.keep hF.out (ball _ (.cells #[.int .i64 1,.int .i64 1,.int .i64 1,.int .i64 1] 3)))
 clear HM
 have HM:=HM2
 clear HM2
 generalize w4.alloc (.cells #[.int .i64 1,.int .i64 1,.int .i64 1,.int .i64 1] 3)=w5 at*
 generalize w4.heap.size=gf at*
 have mk5:Unit:=()
 go_upto_region 5 with(first|go_skip|(refine lG 4 HM uE.out ?_)|(refine lG 3 HM uE.out ?_)|(refine lG 2 HM uT.out ?_)|(refine lG 1 HM uT.out ?_)|(go_at_call 24;clear mk5;refine(cEx.out _ _ (aw27_free (HM.out.at_ 0 rfl))).mono ?_;rintro r w3 ⟨v1,v2,rfl,hE,hO5,hb_⟩;replace HM:=Zm HM hb_;replace hF:=hFs.z hF hb_;clear hb_;refine sA hFs hF (Stb.ed v1 _) hE ?_;clear hFs hF hE;intro F1 hFs hF hU gA;clear hU;refine sA hFs hF (Stb.ownB _ _ v2 _) hO5 ?_;clear hFs hF hO5;intro F2 hFs hF hU gB;replace gA:=Zu gA hU;clear hU;dsimp only)|(refine hFs.s 4 HM hF ?_;clear HM hF;intro w4 HM hF;simp only[List.set]at HM)|(refine hFs.s 3 HM hF ?_;clear HM hF;intro w4 HM hF;simp only[List.set]at HM)|fail)
 have hn1:=(gA.out _ hF.out).is.cells.len
 have hn2:=((gB.out _ hF.out).is (EdOwn.startE _ 2 1).is).cells.len
 have p3:=Zc HM 4 3 (.slice v1.cA v1.cn v1.cc)
 have q3:=Zc HM 3 3 (.slice v2.cA v2.cn v2.cc)
 rw[←hn1,f3.out]at p3
 rw[←hn2,f4.out]at q3
 clear hn1 hn2
 have mk6:Unit:=()
 have mk7:Unit:=()
 go_upto_region 7 with(first|go_skip|(refine lG 4 HM uE.out ?_)|(refine lG 3 HM uE.out ?_)|(go_at_call 39;clear mk6;refine(cC.out _ _ _ (gA.out _ hF.out).is ((gB.out _ hF.out).is (EdOwn.startE _ 2 1).is)).mono ?_;rintro r w3 ⟨rfl,hb_⟩;clear p3 q3;replace HM:=Zm HM hb_;replace hF:=hFs.z hF hb_;clear hb_;dsimp only)|(go_at_call 84;clear mk7;refine hFs.k HM hF (cD.out _ _ _ (gA.out _ hF.out).is ((gB.out _ hF.out).is (EdOwn.startE _ 2 1).is)) ?_;clear HM hF;intro w3 HM hF;dsimp only)|fail)
 try clear p3
 try clear q3
 have mk8:Unit:=()
 go_upto_region 8 with(first|go_skip|(refine lG 4 HM uE.out ?_)|(refine lG 3 HM uE.out ?_)|(refine lG 2 HM uT.out ?_)|(refine lG 1 HM uT.out ?_)|(go_at_call 26;clear mk8;refine(cPl.out _ _ _ _ _ ((gA.out _ (hFs.keep hF.out (ball _ _))).is) ((gB.out _ (hFs.keep hF.out (ball _ _))).is (EdOwn.startE _ 2 1).is) (aw27_free ((HM.out.keep (ball _ _)).at_ 0 rfl)) (aw27_wish (Blk.new _ _ _))).mono ?_;rintro r w3 ⟨v3,v4,A5,n5,c5,rfl,hX5,hY5,⟨bO,HO⟩,hn5,hb_⟩;replace HM:=Zh ((HM.out.keep (ball _ _)).keep hb_);have hZ:=Zh (bthen HM.out.below (Below.refl _ _));replace HO:=Zh HO;replace hn5:=Zh hn5;have hb9:=HM.out.below;clear hF hFs gA gB;obtain⟨F8,hFs,hF,gX,gY⟩:∃F:World→Prop,Stb F∧Hid (F w3)∧Hid (∀W,F W→EdX _ v3 xX W)∧Hid (∀W,F W→EdX _ v4 xY W):=⟨_,(Stb.edX _ v3 xX).and (Stb.edX _ v4 xY),⟨hX5,hY5⟩,fun _ h=>h.1,fun _ h=>h.2⟩;clear hX5 hY5 hb_ hZ hb9;dsimp only)|(refine sF 4 HM ?_;have hBq:=HM.out.at_ 4 rfl;clear HM;intro w4 HM hG4;simp only[List.set]at HM;replace hF:=hFs.p hF hBq hG4;replace HO:=Zh (HO.out.kept hG4.out (.inr (row_ne_blk HO.out hBq (by decide))));clear hBq hG4)|(refine sF 3 HM ?_;have hBq:=HM.out.at_ 3 rfl;clear HM;intro w4 HM hG4;simp only[List.set]at HM;replace hF:=hFs.p hF hBq hG4;replace HO:=Zh (HO.out.kept hG4.out (.inr (row_ne_blk HO.out hBq (by decide))));clear hBq hG4)|fail)
 have hn1:=(gX.out _ hF.out).lc
 have hn2:=(gY.out _ hF.out).lc
 have p3:=Zc HM 4 3 (.slice v3.cA v3.cn v3.cc)
 have q3:=Zc HM 3 3 (.slice v4.cA v4.cn v4.cc)
 rw[←hn1,f9.out]at p3
 rw[←hn2,f10.out]at q3
 clear hn1 hn2
 have mk9:Unit:=()
 go_wp2_with(first|go_skip|(go_at_call 28;clear mk9;refine(cQ.out _ _ _ _ _ _ ((Sls.of_owns boolE_len (owns_keep HO.out (ball _ _)) hn5.out).2) (aw27_bools (Blk.new _ _ _))).mono ?_;rintro r w3 ⟨rfl,hb_⟩;clear p3 q3;replace HM:=Zh ((HM.out.keep (ball _ _)).keep hb_);have p3:=Zc HM 4 3 (.slice v3.cA v3.cn v3.cc);have q3:=Zc HM 3 3 (.slice v4.cA v4.cn v4.cc);rw[←(gX.out _ hF.out).lc,f9.out]at p3;rw[←(gY.out _ hF.out).lc,f10.out]at q3;clear hb_ hF hFs gX gY HO;dsimp only)|fail)
 try simp only[Exit.inBlock,Exit.then]
 go_ret
 exact⟨by first|rfl|trivial,HM.out.below⟩
end Tx
end Go.Proofs.YtfamifgchgolpaaGreat
