/- The law Receives. -/
import Derived.Test.YtggpaahhgchloaaGreatDw
import Derived.Test.YtggpaahhgchloaaGreatCs
import Derived.Test.YtggpaahhgchloaaGreatCb
import Derived.Test.YtggpaahhgchloaaGreatCc
set_option linter.unusedVariables false
set_option linter.unusedSimpArgs false
set_option maxRecDepth 100000
set_option maxHeartbeats 16000000
namespace Go.Proofs.YtggpaahhgchloaaGreat
open Go Go.RowKit Go.Sort Go.Shelf Go.Maps
namespace Tx
open Sw Mm Pl
theorem receives_any(e:Ed)(t:Tab)(f:List Int)(m:Msg)(v:EdV)(vt:TabV)(vm:MsgV)(A:Option Addr)(nf cf:Nat)(w:World)(h:EdIs w v e)(ht:TabIs w vt t)(hf:IntS w A nf f)(hm:MsgIs w vm m):Calls Tryz.prog 3 #[.agg (endA e v),.agg (tabA t vt),.slice A nf cf,.agg (msgA m vm)] w fun r w'=>r= .returned (.bool true)∧Below w.heap.size w w':=by
 have HM:=Zh (Mem.start w)
 obtain⟨F0,hFs,hF⟩:∃F:World→Prop,Stb F∧Hid (F w):=⟨_,Stb.true,trivial⟩
 have uE:=Tryz.underlying27
 have uT:=Tryz.underlying29
 have uM:=Tryz.underlying25
 have cAw:=fun W=>awake_any W
 have cFe:=fun W (hb:Below w.heap.size w W)=>fewE_any e v W (h.keep hb)
 have cFt:=fun W (hb:Below w.heap.size w W)=>fewT_any t vt W (ht.keep hb)
 have cFm:=fun W (hb:Below w.heap.size w W)=>fewM_any m vm W (hm.keep hb)
 have cV:=fun W (hb:Below w.heap.size w W)=>receive_any e t f m v vt vm A nf cf W (h.keep hb) (ht.keep hb) (hf.keep hb) (hm.keep hb)
 have cVr:=fun W (hb:Below w.heap.size w W)=>rreceive_any e t f m v vt vm A nf cf W (h.keep hb) (ht.keep hb) (hf.keep hb) (hm.keep hb)
 change∀W,_→Calls _ _ #[.agg (endA e v)] _ _ at cFe
 change∀W,_→Calls _ _ #[.agg (tabA t vt)] _ _ at cFt
 change∀W,_→Calls _ _ #[.agg (msgA m vm)] _ _ at cFm
 change∀W,_→Calls _ _ #[.agg (endA e v),.agg (tabA t vt),_,.agg (msgA m vm)] _ _ at cV
 have cE:=fun a va vb W (h1:EdIs W va a) (h2:EdIs W vb a)=>sameE_any a a va vb W h1 h2
 simp only[eq_self,decide_true]at cE
 have cM:=fun a va vb W (h1:MsgIs W va a) (h2:MsgIs W vb a)=>sameM_any a a va vb W h1 h2
 simp only[eq_self,decide_true]at cM
 unfold TriOwn at cV cVr
 generalize fewE e=B1 at*
 generalize fewT t=B2 at*
 generalize fewM m=B3 at*
 generalize recv e t f m=RR at*
 generalize recvC e t m=RC at*
 obtain⟨RE,RM⟩:=RR
 dsimp only at cV cVr
 replace cAw:=Zh cAw
 replace cFe:=Zh cFe
 replace cFt:=Zh cFt
 replace cFm:=Zh cFm
 replace cV:=Zh cV
 replace cVr:=Zh cVr
 replace cE:=Zh cE
 replace cM:=Zh cM
 replace uE:=Zh uE
 replace uM:=Zh uM
 replace uT:=Zh uT
 clear h ht hf hm
 go_enter Tryz.func3,Tryz.ntmps3
 go_upto_region 1 with(first|go_skip|(refine wpList_boxA HM rfl 27 _ rfl _ rfl ?_;clear HM;intro g4 w1 HM hG;replace hF:=Zh (hFs.keep hF.out hG.out);clear hG)|(refine wpList_boxA HM rfl 29 _ rfl _ rfl ?_;clear HM;intro g5 w1 HM hG;replace hF:=Zh (hFs.keep hF.out hG.out);clear hG)|(refine wpList_boxA HM rfl 25 _ rfl _ rfl ?_;clear HM;intro g7 w1 HM hG;replace hF:=Zh (hFs.keep hF.out hG.out);clear hG)|fail)
 have mk1:Unit:=()
 go_upto_region 3 with(first|go_skip|(go_at_call 11;clear mk1;refine(cAw.out _).mono ?_;rintro r w3 ⟨rfl,hb_⟩;replace HM:=Zh (HM.out.keep hb_);replace hF:=Zh (hFs.keep hF.out hb_);clear hb_;dsimp only)|fail)
 have mk2:Unit:=()
 have mk3:Unit:=()
 have mk4:Unit:=()
 cases B1
 case false=>
  go_wp2_with(first|go_skip|(refine wpList_loadG 2 HM (by rfl) _ _ rfl _ rfl rfl _ uE.out rfl (by exact zend) ?_)|(refine wpList_loadG 1 HM (by rfl) _ _ rfl _ rfl rfl _ uT.out rfl (by exact ztab) ?_)|(refine wpList_loadG 0 HM (by rfl) _ _ rfl _ rfl rfl _ uM.out rfl (by exact zmsg) ?_)|(go_at_call 12;clear mk2;refine(cFe.out _ HM.out.below).mono ?_;rintro r w3 ⟨rfl,hb_⟩;replace HM:=Zh (HM.out.keep hb_);replace hF:=Zh (hFs.keep hF.out hb_);clear hb_;dsimp only)|(go_at_call 13;clear mk3;refine(cFt.out _ HM.out.below).mono ?_;rintro r w3 ⟨rfl,hb_⟩;replace HM:=Zh (HM.out.keep hb_);replace hF:=Zh (hFs.keep hF.out hb_);clear hb_;dsimp only)|(go_at_call 14;clear mk4;refine(cFm.out _ HM.out.below).mono ?_;rintro r w3 ⟨rfl,hb_⟩;replace HM:=Zh (HM.out.keep hb_);replace hF:=Zh (hFs.keep hF.out hb_);clear hb_;dsimp only)|fail)
  try simp only[Exit.inBlock,Exit.then]
  go_ret
  exact⟨by first|rfl|trivial,HM.out.below⟩
 cases B2
 case false=>
  go_wp2_with(first|go_skip|(refine wpList_loadG 2 HM (by rfl) _ _ rfl _ rfl rfl _ uE.out rfl (by exact zend) ?_)|(refine wpList_loadG 1 HM (by rfl) _ _ rfl _ rfl rfl _ uT.out rfl (by exact ztab) ?_)|(refine wpList_loadG 0 HM (by rfl) _ _ rfl _ rfl rfl _ uM.out rfl (by exact zmsg) ?_)|(go_at_call 12;clear mk2;refine(cFe.out _ HM.out.below).mono ?_;rintro r w3 ⟨rfl,hb_⟩;replace HM:=Zh (HM.out.keep hb_);replace hF:=Zh (hFs.keep hF.out hb_);clear hb_;dsimp only)|(go_at_call 13;clear mk3;refine(cFt.out _ HM.out.below).mono ?_;rintro r w3 ⟨rfl,hb_⟩;replace HM:=Zh (HM.out.keep hb_);replace hF:=Zh (hFs.keep hF.out hb_);clear hb_;dsimp only)|(go_at_call 14;clear mk4;refine(cFm.out _ HM.out.below).mono ?_;rintro r w3 ⟨rfl,hb_⟩;replace HM:=Zh (HM.out.keep hb_);replace hF:=Zh (hFs.keep hF.out hb_);clear hb_;dsimp only)|fail)
  try simp only[Exit.inBlock,Exit.then]
  go_ret
  exact⟨by first|rfl|trivial,HM.out.below⟩
 by_cases hnf:(600:Int)<(nf:Int)
 case pos=>
  have hnf2:600<nf:=by omega
  go_wp2_with(first|go_skip|(refine wpList_loadG 2 HM (by rfl) _ _ rfl _ rfl rfl _ uE.out rfl (by exact zend) ?_)|(refine wpList_loadG 1 HM (by rfl) _ _ rfl _ rfl rfl _ uT.out rfl (by exact ztab) ?_)|(refine wpList_loadG 0 HM (by rfl) _ _ rfl _ rfl rfl _ uM.out rfl (by exact zmsg) ?_)|(go_at_call 12;clear mk2;refine(cFe.out _ HM.out.below).mono ?_;rintro r w3 ⟨rfl,hb_⟩;replace HM:=Zh (HM.out.keep hb_);replace hF:=Zh (hFs.keep hF.out hb_);clear hb_;dsimp only)|(go_at_call 13;clear mk3;refine(cFt.out _ HM.out.below).mono ?_;rintro r w3 ⟨rfl,hb_⟩;replace HM:=Zh (HM.out.keep hb_);replace hF:=Zh (hFs.keep hF.out hb_);clear hb_;dsimp only)|(go_at_call 14;clear mk4;refine(cFm.out _ HM.out.below).mono ?_;rintro r w3 ⟨rfl,hb_⟩;replace HM:=Zh (HM.out.keep hb_);replace hF:=Zh (hFs.keep hF.out hb_);clear hb_;dsimp only)|fail)
  try simp only[Exit.inBlock,Exit.then]
  go_ret
  exact⟨by first|rfl|trivial,HM.out.below⟩
 have hnf2:¬600<nf:=by omega
 have hnf5:decide ((600:Int)<(nf:Int))=false:=decide_eq_false hnf
 clear hnf
 cases B3
 case false=>
  go_wp2_with(first|go_skip|(refine wpList_loadG 2 HM (by rfl) _ _ rfl _ rfl rfl _ uE.out rfl (by exact zend) ?_)|(refine wpList_loadG 1 HM (by rfl) _ _ rfl _ rfl rfl _ uT.out rfl (by exact ztab) ?_)|(refine wpList_loadG 0 HM (by rfl) _ _ rfl _ rfl rfl _ uM.out rfl (by exact zmsg) ?_)|(go_at_call 12;clear mk2;refine(cFe.out _ HM.out.below).mono ?_;rintro r w3 ⟨rfl,hb_⟩;replace HM:=Zh (HM.out.keep hb_);replace hF:=Zh (hFs.keep hF.out hb_);clear hb_;dsimp only)|(go_at_call 13;clear mk3;refine(cFt.out _ HM.out.below).mono ?_;rintro r w3 ⟨rfl,hb_⟩;replace HM:=Zh (HM.out.keep hb_);replace hF:=Zh (hFs.keep hF.out hb_);clear hb_;dsimp only)|(go_at_call 14;clear mk4;refine(cFm.out _ HM.out.below).mono ?_;rintro r w3 ⟨rfl,hb_⟩;replace HM:=Zh (HM.out.keep hb_);replace hF:=Zh (hFs.keep hF.out hb_);clear hb_;dsimp only)|fail)
  try simp only[Exit.inBlock,Exit.then]
  go_ret
  exact⟨by first|rfl|trivial,HM.out.below⟩
 go_upto_region 5 with(first|go_skip|(refine wpList_loadG 2 HM (by rfl) _ _ rfl _ rfl rfl _ uE.out rfl (by exact zend) ?_)|(refine wpList_loadG 1 HM (by rfl) _ _ rfl _ rfl rfl _ uT.out rfl (by exact ztab) ?_)|(refine wpList_loadG 0 HM (by rfl) _ _ rfl _ rfl rfl _ uM.out rfl (by exact zmsg) ?_)|(go_at_call 12;clear mk2;refine(cFe.out _ HM.out.below).mono ?_;rintro r w3 ⟨rfl,hb_⟩;replace HM:=Zh (HM.out.keep hb_);replace hF:=Zh (hFs.keep hF.out hb_);clear hb_;dsimp only)|(go_at_call 13;clear mk3;refine(cFt.out _ HM.out.below).mono ?_;rintro r w3 ⟨rfl,hb_⟩;replace HM:=Zh (HM.out.keep hb_);replace hF:=Zh (hFs.keep hF.out hb_);clear hb_;dsimp only)|(go_at_call 14;clear mk4;refine(cFm.out _ HM.out.below).mono ?_;rintro r w3 ⟨rfl,hb_⟩;replace HM:=Zh (HM.out.keep hb_);replace hF:=Zh (hFs.keep hF.out hb_);clear hb_;dsimp only)|fail)
 have mk5:Unit:=()
 have mk6:Unit:=()
 have mk7:Unit:=()
 go_upto_region 6 with(first|go_skip|(refine wpList_loadG 2 HM (by rfl) _ _ rfl _ rfl rfl _ uE.out rfl (by exact zend) ?_)|(refine wpList_loadG 1 HM (by rfl) _ _ rfl _ rfl rfl _ uT.out rfl (by exact ztab) ?_)|(refine wpList_loadG 0 HM (by rfl) _ _ rfl _ rfl rfl _ uM.out rfl (by exact zmsg) ?_)|(go_at_call 15;clear mk5;refine(cV.out _ HM.out.below).mono ?_;rintro r w3 ⟨v1,m1,rfl,hE,hM,hb_⟩;replace HM:=Zh (HM.out.keep hb_);replace hF:=Zh (hFs.keep hF.out hb_);clear hb_;obtain⟨F1,hFs2,hF2,hU,hNw⟩:=stb_add hFs hF (Stb.ed v1 _) hE;clear hFs hF;have gE1:=Zh hNw;clear hNw hU;have hFs:=hFs2;have hF:=hF2;clear hFs2 hF2 hE;obtain⟨F2,hFs2,hF2,hU,hNw⟩:=stb_add hFs hF (Stb.sub m1 _) hM;clear hFs hF;replace gE1:=Zh (fun W h=>gE1.out W (hU W h));have gM1:=Zh hNw;clear hNw hU;have hFs:=hFs2;have hF:=hF2;clear hFs2 hF2 hM;dsimp only)|(clear mk6;refine wpList_allocN HM rfl 27 rfl edInfo ?_;clear HM;intro g9 w1 HM hG hN9;replace hF:=Zh (hFs.keep hF.out hG.out);clear hG hN9)|(clear mk7;refine wpList_allocN HM rfl 25 rfl msgInfo ?_;clear HM;intro g10 w1 HM hG hN9;replace hF:=Zh (hFs.keep hF.out hG.out);clear hG hN9)|(refine wpList_storeF 1 HM rfl _ _ _ rfl _ rfl rfl _ rfl (by exact zend) (by rfl) (by rfl) ?_;have hBq:=HM.out.at_ 1 rfl;clear HM;intro w4 HM hG4;simp only[List.set]at HM;replace hF:=Zh (hFs.put hF.out hBq (by decide) (by decide) hG4.out);clear hBq hG4)|(refine wpList_storeF 0 HM rfl _ _ _ rfl _ rfl rfl _ rfl (by exact zmsg) (by rfl) (by rfl) ?_;have hBq:=HM.out.at_ 0 rfl;clear HM;intro w4 HM hG4;simp only[List.set]at HM;replace hF:=Zh (hFs.put hF.out hBq (by decide) (by decide) hG4.out);clear hBq hG4)|fail)
 have mk8:Unit:=()
 have mk9:Unit:=()
 have mk10:Unit:=()
 go_upto_region 7 with(first|go_skip|(refine wpList_loadG 4 HM (by rfl) _ _ rfl _ rfl rfl _ uE.out rfl (by exact zend) ?_)|(refine wpList_loadG 3 HM (by rfl) _ _ rfl _ rfl rfl _ uT.out rfl (by exact ztab) ?_)|(refine wpList_loadG 2 HM (by rfl) _ _ rfl _ rfl rfl _ uM.out rfl (by exact zmsg) ?_)|(go_at_call 16;clear mk8;refine(cVr.out _ HM.out.below).mono ?_;rintro r w3 ⟨v2,m2,rfl,hE,hM,hb_⟩;replace HM:=Zh (HM.out.keep hb_);replace hF:=Zh (hFs.keep hF.out hb_);clear hb_;obtain⟨F3,hFs2,hF2,hU,hNw⟩:=stb_add hFs hF (Stb.ed v2 _) hE;clear hFs hF;replace gE1:=Zh (fun W h=>gE1.out W (hU W h));replace gM1:=Zh (fun W h=>gM1.out W (hU W h));have gE2:=Zh hNw;clear hNw hU;have hFs:=hFs2;have hF:=hF2;clear hFs2 hF2 hE;obtain⟨F4,hFs2,hF2,hU,hNw⟩:=stb_add hFs hF (Stb.sub m2 _) hM;clear hFs hF;replace gE1:=Zh (fun W h=>gE1.out W (hU W h));replace gM1:=Zh (fun W h=>gM1.out W (hU W h));replace gE2:=Zh (fun W h=>gE2.out W (hU W h));have gM2:=Zh hNw;clear hNw hU;have hFs:=hFs2;have hF:=hF2;clear hFs2 hF2 hM;dsimp only)|(clear mk9;refine wpList_allocN HM rfl 27 rfl edInfo ?_;clear HM;intro g12 w1 HM hG hN9;replace hF:=Zh (hFs.keep hF.out hG.out);clear hG hN9)|(clear mk10;refine wpList_allocN HM rfl 25 rfl msgInfo ?_;clear HM;intro g13 w1 HM hG hN9;replace hF:=Zh (hFs.keep hF.out hG.out);clear hG hN9)|(refine wpList_storeF 1 HM rfl _ _ _ rfl _ rfl rfl _ rfl (by exact zend) (by rfl) (by rfl) ?_;have hBq:=HM.out.at_ 1 rfl;clear HM;intro w4 HM hG4;simp only[List.set]at HM;replace hF:=Zh (hFs.put hF.out hBq (by decide) (by decide) hG4.out);clear hBq hG4)|(refine wpList_storeF 0 HM rfl _ _ _ rfl _ rfl rfl _ rfl (by exact zmsg) (by rfl) (by rfl) ?_;have hBq:=HM.out.at_ 0 rfl;clear HM;intro w4 HM hG4;simp only[List.set]at HM;replace hF:=Zh (hFs.put hF.out hBq (by decide) (by decide) hG4.out);clear hBq hG4)|fail)
 have mk11:Unit:=()
 have mk12:Unit:=()
 go_wp2_with(first|go_skip|(refine wpList_loadG 3 HM (by rfl) _ _ rfl _ rfl rfl _ uE.out rfl (by exact zend) ?_)|(refine wpList_loadG 1 HM (by rfl) _ _ rfl _ rfl rfl _ uE.out rfl (by exact zend) ?_)|(refine wpList_loadG 2 HM (by rfl) _ _ rfl _ rfl rfl _ uM.out rfl (by exact zmsg) ?_)|(refine wpList_loadG 0 HM (by rfl) _ _ rfl _ rfl rfl _ uM.out rfl (by exact zmsg) ?_)|(go_at_call 17;clear mk11;refine(cE.out RE v1 v2 _ (gE1.out _ hF.out).is (gE2.out _ hF.out).is).mono ?_;rintro r w3 ⟨rfl,hb_⟩;replace HM:=Zh (HM.out.keep hb_);replace hF:=Zh (hFs.keep hF.out hb_);clear hb_;dsimp only)|(go_at_call 18;clear mk12;refine(cM.out RM m1 m2 _ (gM1.out _ hF.out).is (gM2.out _ hF.out).is).mono ?_;rintro r w3 ⟨rfl,hb_⟩;replace HM:=Zh (HM.out.keep hb_);replace hF:=Zh (hFs.keep hF.out hb_);clear hb_;dsimp only)|fail)
 try simp only[Exit.inBlock,Exit.then]
 go_ret
 exact⟨by first|rfl|trivial,HM.out.below⟩
end Tx
end Go.Proofs.YtggpaahhgchloaaGreat
