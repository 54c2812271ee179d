/- TopAgreement: mirrorWorks, the walk (unfinished). -/
import Derived.Test.YtfamifgchgolpaaGreatWl
set_option linter.unusedVariables false
set_option linter.unusedSimpArgs false
set_option maxRecDepth 100000
set_option maxHeartbeats 16000000
namespace Go.Proofs.YtfamifgchgolpaaGreat
open Go Go.RowKit Go.Sort Go.Shelf Go.Maps
namespace Tx
open Sw Mm Pl
theorem mirrorWorks_any(w:World):Calls Tryz.prog 8 #[] w fun r w'=>r= .returned (.bool true)∧Below w.heap.size w w':=by
 have I:=Zh (Mem.start w)
 have uC:=Tryz.underlying70
 have uE:=Tryz.underlying32
 have uT:=Tryz.underlying37
 obtain⟨f1,f2,f3,f4,f5,f6,f7,f8⟩:=mw_facts
 have hm:=mw_ok
 have cN:=fun A W (hf:IntS W A 4 [0,1,0,0])=>newP_any ⟨1,4,[]⟩ ⟨2,4,[]⟩ [0,1,0,0] 9 tabV0 tabV0 A 4 4 W ⟨Sls.nil,Nat.le_refl _⟩ ⟨Sls.nil,Nat.le_refl _⟩ hf (by decide) (by decide)
 unfold NewPost at cN
 rw[f1,f2]at cN
 have hsm:chkCp mw0=0→Small2 mw0.left∧Small2 mw0.right:=fun _=>⟨⟨by decide,by decide⟩,⟨by decide,by decide⟩⟩
 have cR:=fun v A W (h:CplIs W v mw0) (hl:WshS W A 2 mwL) (hn:v.nf≤1048576)=>runP_any mw0 v mwL A 2 2 W h hl hn hsm
 unfold RunCPost at cR
 rw[f3,f4]at cR
 change∀v A W,_→_→_→Calls _ _ _ _ (fun r w'=>∃v A n cp b,r= .returned (.tuple #[.agg (cplA mwD v),.slice A n cp,.int .i64 0])∧CplOwn w' v mwD∧_∧_∧_)at cR
 have hfl:mw0.free.length=4:=rfl
 clear f1 f2 f3 f4 hsm
 generalize mwD=d at*
 have cF1:=fun vt v W (ht:TabIs W vt d.left) (h:EdIs W v d.a)=>full_any d.left d.a vt v W ht h
 have cF2:=fun vt v W (ht:TabIs W vt d.right) (h:EdIs W v d.b)=>full_any d.right d.b vt v W ht h
 unfold FullPost at cF1 cF2
 rw[f5]at cF1
 rw[f6]at cF2
 have cM:=fun va vb W (h1:TabIs W va (fullN d.left d.a)) (h2:TabIs W vb (fullN d.right d.b))=>mirror_any _ _ va vb W h1 h2 hm
 have cC:=fun va vb W (h1:EdIs W va d.a) (h2:EdIs W vb d.b)=>consP_any d.a d.b va vb W h1 h2
 rw[f8]at cC
 refine zh10 ?_ cN cR cF1 cF2 cM cC f7 uC uE uT;clear cN cR cF1 cF2 cM cC f7 uC uE uT;intro cN cR cF1 cF2 cM cC f7 uC uE uT
 go_enter Tryz.func8,Tryz.ntmps8
 go_upto_region 2 with(first
  |go_skip
  |(go_at_call 38;refine(cN _ _ (mw_free (Blk.new _ _ _))).mono ?_;rintro r w3 ⟨v1,rfl,hC,p_⟩;replace I:=Zh ((I.keep (ball _ _)).keep p_);replace hC:=Zh hC;have HB:=Zh (Below.refl w3.heap.size w3);clear p_;dsimp only)
  |(refine aN I cpInfo ?_;clear I;intro g1 w1 I hG hN9;have hf_g1:=Zh (Nat.le_trans HB.size hN9.out);replace HB:=Zh (bthen HB.out hG.out);clear hG hN9)
  |(refine sF 0 I ?_;clear I;intro w4 I hG4;simp only[List.set]at I;replace HB:=Zh (HB.grown hG4.out HB.size (fun k e=>by cases e;exact hf_g1.out));clear hG4)
  |fail)
 have hnf:Hid (v1.nf≤1048576):=by show v1.nf≤1048576;rw[←hC.out.f.len];decide
 go_upto_region 3 with(first
  |go_skip
  |(refine lG 0 I uC.out ?_)
  |(go_at_call 34;refine(cR _ _ _ (hC.keep (bthen HB.out (ball _ _))) (mw_wish (Blk.new _ _ _)) hnf.out).mono ?_;rintro r w3 ⟨v3,A5,n5,c5,b5,rfl,hO,HO,hl5,p_⟩;replace I:=Zh ((I.keep (ball _ _)).keep p_);replace hO:=Zh hO;replace HO:=Zh HO;replace hl5:=Zh hl5;clear hC HB p_;dsimp only)
  |(refine sF 0 I ?_;have hBq:=I.at_ 0 rfl;clear I;intro w4 I hG4;simp only[List.set]at I;replace hO:=Zh ((Stc.cplOwn ..).put hO.out hBq (by decide) (by decide) (by decide) hG4.out);replace HO:=Zh (HO.kept hG4.out (.inr (row_ne_blk HO.out hBq (by decide))));clear hBq hG4)
  |fail)
 clear cN cR
 go_upto_region 4 with(first
  |go_skip
  |(refine lP 0 I 56 (tabA d.left v3.l) uT.out ?_)
  |(refine lP 0 I 0 (endA d.a v3.a) uE.out ?_)
  |(go_at_call 19;refine(cF1 _ _ _ hO.is.l hO.is.a).mono ?_;rintro r w_ ⟨vt,rfl,hT_vt,p_⟩;replace I:=Zm I p_;replace hO:=Zh ((Stc.cplOwn ..).keep hO.out p_);replace HO:=Zh (owns_keep HO.out p_);replace hT_vt:=Zh hT_vt;clear p_;dsimp only[tabA])
  |(refine aN I tabInfo ?_;clear I;intro g5 w1 I hG hN9;replace hO:=Zh ((Stc.cplOwn ..).keep hO.out hG.out);replace HO:=Zh (owns_keep HO.out hG.out);replace hT_vt:=Zh (hT_vt.keep hG.out);clear hG hN9)
  |(refine sF 0 I ?_;have hBq:=I.at_ 0 rfl;clear I;intro w4 I hG4;simp only[List.set]at I;replace hO:=Zh ((Stc.cplOwn ..).put hO.out hBq (by decide) (by decide) (by decide) hG4.out);replace HO:=Zh (HO.kept hG4.out (.inr (row_ne_blk HO.out hBq (by decide))));replace hT_vt:=Zh (hT_vt.grown hBq (show(3:Nat)<6 from by decide) hG4.out);clear hBq hG4)
  |fail)
 go_upto_region 5 with(first
  |go_skip
  |(refine lP 1 I 59 (tabA d.right v3.r) uT.out ?_)
  |(refine lP 1 I 28 (endA d.b v3.b) uE.out ?_)
  |(go_at_call 19;refine(cF2 _ _ _ hO.is.r hO.is.b).mono ?_;rintro r w_ ⟨vu,rfl,hT_vu,p_⟩;replace I:=Zm I p_;replace hO:=Zh ((Stc.cplOwn ..).keep hO.out p_);replace HO:=Zh (owns_keep HO.out p_);replace hT_vt:=Zh (hT_vt.keep p_);replace hT_vu:=Zh hT_vu;clear p_;dsimp only[tabA])
  |(refine aN I tabInfo ?_;clear I;intro g7 w1 I hG hN9;replace hO:=Zh ((Stc.cplOwn ..).keep hO.out hG.out);replace HO:=Zh (owns_keep HO.out hG.out);replace hT_vt:=Zh (hT_vt.keep hG.out);replace hT_vu:=Zh (hT_vu.keep hG.out);clear hG hN9)
  |(refine sF 0 I ?_;have hBq:=I.at_ 0 rfl;clear I;intro w4 I hG4;simp only[List.set]at I;replace hO:=Zh ((Stc.cplOwn ..).put hO.out hBq (by decide) (by decide) (by decide) hG4.out);replace HO:=Zh (HO.kept hG4.out (.inr (row_ne_blk HO.out hBq (by decide))));replace hT_vt:=Zh (hT_vt.grown hBq (show(3:Nat)<6 from by decide) hG4.out);replace hT_vu:=Zh (hT_vu.grown hBq (show(3:Nat)<6 from by decide) hG4.out);clear hBq hG4)
  |fail)
 have hn5:n5=2:=hl5.symm
 subst hn5
 have hSl:=(Sls.of_owns boolE_len HO.out hl5.out).2
 obtain⟨bl,ol,rfl⟩:=hSl.addr (by decide)
 have kl:w4.cell? ⟨bl,ol+1,none⟩=some (.bool true):=by
  have:=(hSl.cells (i:=1) (by decide)).2 0 (by decide)
  rw[show ol+1*1+0=ol+1 by omega]at this
  exact this
 have hn1:Hid (vt.n=1):=by show vt.n=1;rw[←hT_vt.out.cells.len];exact f7.out
 have pt:World.cell? _ ⟨g5,2,none⟩=some (.slice vt.A 1 vt.c):=(I.cell 1 rfl 2).trans (by rw[←hn1.out];rfl)
 clear hSl
 go_wp2_with(first
  |go_skip
  |(refine lP 2 I 0 (endA d.a v3.a) uE.out ?_)
  |(refine lP 2 I 28 (endA d.b v3.b) uE.out ?_)
  |(refine lG 1 I uT.out ?_)
  |(refine lG 0 I uT.out ?_)
  |(go_at_call 21;refine(cM _ _ _ hT_vt.out hT_vu.out).mono ?_;rintro r w_ ⟨rfl,p_⟩;clear pt kl;replace I:=Zm I p_;replace hO:=Zh ((Stc.cplOwn ..).keep hO.out p_);clear p_;have pt:World.cell? _ ⟨g5,2,none⟩=some (.slice vt.A 1 vt.c):=(I.cell 1 rfl 2).trans (by rw[←hn1.out];rfl);dsimp only)
  |(go_at_call 39;refine(cC _ _ _ hO.is.a hO.is.b).mono ?_;rintro r w_ ⟨rfl,p_⟩;clear pt;replace I:=Zm I p_;clear p_;dsimp only)
  |fail)
 try simp only[Exit.inBlock,Exit.then]
 go_ret
 exact⟨by first|rfl|trivial,I.below⟩
end Tx
end Go.Proofs.YtfamifgchgolpaaGreat
