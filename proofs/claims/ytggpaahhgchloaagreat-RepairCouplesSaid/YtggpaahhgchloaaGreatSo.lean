/- Chapter 28: New: the reference's. -/
import Derived.Test.YtggpaahhgchloaaGreatSi
import Derived.Test.YtggpaahhgchloaaGreatSm
set_option linter.unusedVariables false
set_option linter.unusedSimpArgs false
set_option maxRecDepth 100000
set_option maxHeartbeats 8000000
namespace Go.Proofs.YtggpaahhgchloaaGreat
open Go Go.RowKit Go.Sort Go.Shelf Go.Maps
namespace Tx
open Sw Mm Pl
theorem rnew_any(l r:Tab)(f:List Int)(p:Int)(vl vr:TabV)(A:Option Addr)(nf cf:Nat)(w:World)(hl:TabIs w vl l)(hr:TabIs w vr r)(hf:IntS w A nf f)(hc:nf≤cf)(hn:nf≤1048576):Calls Tryz.prog 29 #[.agg (tabA l vl),.agg (tabA r vr),.slice A nf cf,.int .i64 p] w (NewPost (newCN l r f p) (newCC l r f p) w):=by
 have HM:=Zh (Mem.start w)
 obtain⟨F0,hFs,hF⟩:∃F:World→Prop,Stb F∧Hid (F w):=⟨_,Stb.true,trivial⟩
 have uE:=Tryz.underlying27
 have uT:=Tryz.underlying29
 have uM:=Tryz.underlying25
 have uC:=Tryz.underlying57
 have c1:=fun W=>rstart_own l.node r.node W
 have c2:=fun W=>rstart_own r.node l.node W
 unfold EndOwn at c1 c2
 have hPb:∀W,pairC (freshC l r f p)=false→Below w.heap.size w W→newCC l r f p≠2→NewPost (newCN l r f p) (newCC l r f p) w (.returned (.tuple #[.agg (cplA cpl0 cplV0),.int .i64 1])) W:=fun W h hb h2=>by
  have h1:newCC l r f p=1:=by
   by_cases hx:p<1∨4096<p
   ·exact absurd (by unfold newCC;rw[if_pos hx]) h2
   ·unfold newCC;rw[if_neg hx,if_pos h]
  unfold newCN
  rw[h1,if_neg (by decide)]
  exact⟨cplV0,rfl,CplIs.zero _,hb⟩
 have hP2:∀W,newCC l r f p=2→Below w.heap.size w W→NewPost (newCN l r f p) (newCC l r f p) w (.returned (.tuple #[.agg (cplA cpl0 cplV0),.int .i64 2])) W:=fun W h hb=>by
  unfold newCN
  rw[h,if_neg (by decide)]
  exact⟨cplV0,rfl,CplIs.zero _,hb⟩
 have hPo:∀v W,pairC (freshC l r f p)=true→newCC l r f p≠2→CplIs W v (freshC l r f p)→Below w.heap.size w W→NewPost (newCN l r f p) (newCC l r f p) w (.returned (.tuple #[.agg (cplA (freshC l r f p) v),.int .i64 0])) W:=fun v W h h2 hC hb=>by
  have h1:newCC l r f p=0:=by
   by_cases hx:p<1∨4096<p
   ·exact absurd (by unfold newCC;rw[if_pos hx]) h2
   ·unfold newCC;rw[if_neg hx,if_neg (by rw[h];decide)]
  unfold newCN
  rw[h1,if_pos rfl]
  exact⟨v,rfl,hC,hb⟩
 generalize NewPost (newCN l r f p) (newCC l r f p) w=P at*
 have h2p:(p<1∨4096<p)→newCC l r f p=2:=fun h=>by unfold newCC;rw[if_pos h]
 have h2n:¬(p<1∨4096<p)→newCC l r f p≠2:=fun h=>by
  unfold newCC
  rw[if_neg h]
  split<;>decide
 generalize newCC l r f p=NC at*
 have hq1:=new_bad1 l r f p
 have hq2:=new_bad2 l r f p
 have hq3:=new_good l r f p
 have hIdle:=new_idle l r f p
 have cP:=fun v1 v2 W (hb:Below w.heap.size w W) (q1:EdIs W v1 (startN l.node r.node)) (q2:EdIs W v2 (startN r.node l.node))=>pairR_any (startN l.node r.node) (startN r.node l.node) l r v1 v2 vl vr W q1 q2 (hl.keep hb) (hr.keep hb)
 have hq4:=new_idleB l r f p
 by_cases hp:p<1∨4096<p
 case pos=>
  replace h2p:=h2p hp
  clear cP hq1 hq2 hq3 hIdle h2n hPb hPo
  clear hq4
  replace hP2:=Zh hP2
  replace h2p:=Zh h2p
  replace uE:=Zh uE
  replace uT:=Zh uT
  replace uM:=Zh uM
  replace uC:=Zh uC
  rcases(by omega:p<1∨(¬p<1∧4096<p))with g0|⟨g0,g1⟩
  all_goals
   clear hp
   go_enter Tryz.func29,Tryz.ntmps29
   have mk1:Unit:=()
   have mk2:Unit:=()
   have mk3:Unit:=()
   go_wp2_with(first|go_skip|(clear mk1;refine wpList_boxA HM rfl 29 _ rfl _ rfl ?_;clear HM;intro gl w1 HM hG;replace hF:=Zh (hFs.keep hF.out hG.out);clear hG)|(clear mk2;refine wpList_boxA HM rfl 29 _ rfl _ rfl ?_;clear HM;intro gr w1 HM hG;replace hF:=Zh (hFs.keep hF.out hG.out);clear hG)|(clear mk3;refine wpList_allocN HM rfl 57 rfl cpInfo ?_;clear HM;intro go w1 HM hG hN9;replace hF:=Zh (hFs.keep hF.out hG.out);clear hG hN9)|(refine wpList_storeF 0 HM rfl _ _ _ rfl _ rfl rfl _ rfl (by exact zcp) (by rfl) (by rfl) ?_;have hBq:=HM.out.at_ 0 rfl;clear HM;intro w4 HM hG4;simp only[List.set]at HM;replace hF:=Zh (hFs.put hF.out hBq (by decide) (by decide) hG4.out);clear hBq hG4)|fail)
   try simp only[Exit.inBlock,Exit.then]
   refine bodyPost_ret (results_ct rfl (HM.out.at_ 0 rfl) rfl _ uC.out rfl (by exact zcp)) rfl ?_
   exact hP2.out _ h2p.out HM.out.below
 replace h2n:=h2n hp
 clear h2p hP2
 obtain⟨g0,g1⟩:¬p<1∧¬4096<p:=by omega
 clear hp
 have hfr:=fun(h1:startC l.node r.node=0) (h2:startC r.node l.node=0)=>new_fresh (f:=f) (p:=p) h1 h2
 generalize hFR:freshC l r f p=FR at*
 generalize startN l.node r.node=E1 at*
 generalize startN r.node l.node=E2 at*
 generalize startC l.node r.node=C1 at*
 generalize startC r.node l.node=C2 at*
 generalize pairC FR=PF at*
 replace hPb:=Zh hPb
 replace hPo:=Zh hPo
 replace h2n:=Zh h2n
 replace hq1:=Zh hq1
 replace hq2:=Zh hq2
 replace hq3:=Zh hq3
 replace hIdle:=Zh hIdle
 replace hfr:=Zh hfr
 replace hFR:=Zh hFR
 replace c1:=Zh c1
 replace c2:=Zh c2
 replace cP:=Zh cP
 replace hl:=Zh hl
 replace hr:=Zh hr
 replace hf:=Zh hf
 replace uE:=Zh uE
 replace uT:=Zh uT
 replace uM:=Zh uM
 replace uC:=Zh uC
 replace hq4:=Zh hq4
 go_enter Tryz.func29,Tryz.ntmps29
 have mk1:Unit:=()
 have mk2:Unit:=()
 have mk3:Unit:=()
 go_upto_region 1 with(first|go_skip|(clear mk1;refine wpList_boxA HM rfl 29 _ rfl _ rfl ?_;clear HM;intro gl w1 HM hG;replace hF:=Zh (hFs.keep hF.out hG.out);clear hG)|(clear mk2;refine wpList_boxA HM rfl 29 _ rfl _ rfl ?_;clear HM;intro gr w1 HM hG;replace hF:=Zh (hFs.keep hF.out hG.out);clear hG)|(clear mk3;refine wpList_allocN HM rfl 57 rfl cpInfo ?_;clear HM;intro go w1 HM hG hN9;replace hF:=Zh (hFs.keep hF.out hG.out);clear hG hN9)|fail)
 go_upto_region 3 with fail
 have nl:World.cell? _ ⟨gl,0,none⟩=some (.int .i64 l.node):=HM.out.cell 2 rfl 0
 have nr:World.cell? _ ⟨gr,0,none⟩=some (.int .i64 r.node):=HM.out.cell 1 rfl 0
 have mk4:Unit:=()
 have mk5:Unit:=()
 go_upto_region 4 with(first|go_skip|(go_at_call 90;clear mk4;refine(c1.out _).mono ?_;rintro r w3 ⟨v1,rfl,hE1,hb_⟩;clear nl nr;replace HM:=Zh (HM.out.keep hb_);replace hF:=Zh (hFs.keep hF.out hb_);clear hb_;obtain⟨F1,hFs2,hF2,hU,hNw⟩:=stb_add hFs hF (Stb.ed v1 _) hE1;clear hFs hF;have gA:=Zh hNw;clear hNw hU;have hFs:=hFs2;have hF:=hF2;clear hFs2 hF2 hE1;dsimp only)|(clear mk5;refine wpList_allocN HM rfl 27 rfl edInfo ?_;clear HM;intro g1 w1 HM hG hN9;replace hF:=Zh (hFs.keep hF.out hG.out);clear hG hN9)|(refine wpList_storeF 0 HM rfl _ _ _ rfl _ rfl rfl _ rfl (by exact zend) (by rfl) (by rfl) ?_;have hBq:=HM.out.at_ 0 rfl;clear HM;intro w4 HM hG4;simp only[List.set]at HM;replace hF:=Zh (hFs.put hF.out hBq (by decide) (by decide) hG4.out);clear hBq hG4)|fail)
 have nl:World.cell? _ ⟨gl,0,none⟩=some (.int .i64 l.node):=HM.out.cell 3 rfl 0
 have nr:World.cell? _ ⟨gr,0,none⟩=some (.int .i64 r.node):=HM.out.cell 2 rfl 0
 have mk6:Unit:=()
 have mk7:Unit:=()
 go_upto_region 5 with(first|go_skip|(go_at_call 90;clear mk6;refine(c2.out _).mono ?_;rintro r w3 ⟨v2,rfl,hE1,hb_⟩;clear nl nr;replace HM:=Zh (HM.out.keep hb_);replace hF:=Zh (hFs.keep hF.out hb_);clear hb_;obtain⟨F2,hFs2,hF2,hU,hNw⟩:=stb_add hFs hF (Stb.ed v2 _) hE1;clear hFs hF;replace gA:=Zh (fun W h=>gA.out W (hU W h));have gB:=Zh hNw;clear hNw hU;have hFs:=hFs2;have hF:=hF2;clear hFs2 hF2 hE1;dsimp only)|(clear mk7;refine wpList_allocN HM rfl 27 rfl edInfo ?_;clear HM;intro g2 w1 HM hG hN9;replace hF:=Zh (hFs.keep hF.out hG.out);clear hG hN9)|(refine wpList_storeF 0 HM rfl _ _ _ rfl _ rfl rfl _ rfl (by exact zend) (by rfl) (by rfl) ?_;have hBq:=HM.out.at_ 0 rfl;clear HM;intro w4 HM hG4;simp only[List.set]at HM;replace hF:=Zh (hFs.put hF.out hBq (by decide) (by decide) hG4.out);clear hBq hG4)|fail)
 by_cases e1:C1=0
 case neg=>
  have d1:(C1 !=0)=true:=by rw[bne_iff_ne];exact e1
  have hh:=Zh (hq1.out e1)
  clear hq1
  replace e1:=Zh e1
  go_wp2_with(first|go_skip|(refine wpList_loadG 1 HM (by rfl) _ _ rfl _ rfl rfl _ uE.out rfl (by exact zend) ?_)|(refine wpList_loadG 0 HM (by rfl) _ _ rfl _ rfl rfl _ uE.out rfl (by exact zend) ?_)|(refine wpList_loadG 4 HM (by rfl) _ _ rfl _ rfl rfl _ uT.out rfl (by exact ztab) ?_)|(refine wpList_loadG 3 HM (by rfl) _ _ rfl _ rfl rfl _ uT.out rfl (by exact ztab) ?_)|(refine wpList_storeF 2 HM rfl _ _ _ rfl _ rfl rfl _ rfl (by exact zcp) (by rfl) (by rfl) ?_;have hBq:=HM.out.at_ 2 rfl;clear HM;intro w4 HM hG4;simp only[List.set]at HM;replace hF:=Zh (hFs.put hF.out hBq (by decide) (by decide) hG4.out);clear hBq hG4)|fail)
  try simp only[Exit.inBlock,Exit.then]
  refine bodyPost_ret (results_ct rfl (HM.out.at_ 2 rfl) rfl _ uC.out rfl (by exact zcp)) rfl ?_
  exact hPb.out _ hh.out HM.out.below h2n.out
 have d1:(C1 !=0)=false:=by rw[bne_eq_false_iff_eq];exact e1
 by_cases e2:C2=0
 case neg=>
  have d2:(C2 !=0)=true:=by rw[bne_iff_ne];exact e2
  have hh:=Zh (hq2.out e2)
  clear hq2
  replace e2:=Zh e2
  go_wp2_with(first|go_skip|(refine wpList_loadG 1 HM (by rfl) _ _ rfl _ rfl rfl _ uE.out rfl (by exact zend) ?_)|(refine wpList_loadG 0 HM (by rfl) _ _ rfl _ rfl rfl _ uE.out rfl (by exact zend) ?_)|(refine wpList_loadG 4 HM (by rfl) _ _ rfl _ rfl rfl _ uT.out rfl (by exact ztab) ?_)|(refine wpList_loadG 3 HM (by rfl) _ _ rfl _ rfl rfl _ uT.out rfl (by exact ztab) ?_)|(refine wpList_storeF 2 HM rfl _ _ _ rfl _ rfl rfl _ rfl (by exact zcp) (by rfl) (by rfl) ?_;have hBq:=HM.out.at_ 2 rfl;clear HM;intro w4 HM hG4;simp only[List.set]at HM;replace hF:=Zh (hFs.put hF.out hBq (by decide) (by decide) hG4.out);clear hBq hG4)|fail)
  try simp only[Exit.inBlock,Exit.then]
  refine bodyPost_ret (results_ct rfl (HM.out.at_ 2 rfl) rfl _ uC.out rfl (by exact zcp)) rfl ?_
  exact hPb.out _ hh.out HM.out.below h2n.out
 have d2:(C2 !=0)=false:=by rw[bne_eq_false_iff_eq];exact e2
 have hv:=hq4.out e1 e2
 rw[hv]at cP
 clear hv
 have hfr2:=hfr.out e1 e2
 clear hfr hq1 hq2 hq3
 replace e1:=Zh e1
 replace e2:=Zh e2
 cases PF
 case false=>
  have mk8:Unit:=()
  go_wp2_with(first|go_skip|(refine wpList_loadG 1 HM (by rfl) _ _ rfl _ rfl rfl _ uE.out rfl (by exact zend) ?_)|(refine wpList_loadG 0 HM (by rfl) _ _ rfl _ rfl rfl _ uE.out rfl (by exact zend) ?_)|(refine wpList_loadG 4 HM (by rfl) _ _ rfl _ rfl rfl _ uT.out rfl (by exact ztab) ?_)|(refine wpList_loadG 3 HM (by rfl) _ _ rfl _ rfl rfl _ uT.out rfl (by exact ztab) ?_)|(go_at_call 82;clear mk8;refine(cP.out _ _ _ HM.out.below (gA.out _ hF.out).is (gB.out _ hF.out).is).mono ?_;rintro r w3 ⟨rfl,hb_⟩;replace HM:=Zh (HM.out.keep hb_);replace hF:=Zh (hFs.keep hF.out hb_);clear hb_;dsimp only)|(refine wpList_storeF 2 HM rfl _ _ _ rfl _ rfl rfl _ rfl (by exact zcp) (by rfl) (by rfl) ?_;have hBq:=HM.out.at_ 2 rfl;clear HM;intro w4 HM hG4;simp only[List.set]at HM;replace hF:=Zh (hFs.put hF.out hBq (by decide) (by decide) hG4.out);clear hBq hG4)|fail)
  try simp only[Exit.inBlock,Exit.then]
  refine bodyPost_ret (results_ct rfl (HM.out.at_ 2 rfl) rfl _ uC.out rfl (by exact zcp)) rfl ?_
  exact hPb.out _ (by first|rfl|trivial) HM.out.below h2n.out
 replace hIdle:=hIdle.out rfl
 have mk8:Unit:=()
 go_upto_region 7 with(first|go_skip|(refine wpList_loadG 1 HM (by rfl) _ _ rfl _ rfl rfl _ uE.out rfl (by exact zend) ?_)|(refine wpList_loadG 0 HM (by rfl) _ _ rfl _ rfl rfl _ uE.out rfl (by exact zend) ?_)|(refine wpList_loadG 4 HM (by rfl) _ _ rfl _ rfl rfl _ uT.out rfl (by exact ztab) ?_)|(refine wpList_loadG 3 HM (by rfl) _ _ rfl _ rfl rfl _ uT.out rfl (by exact ztab) ?_)|(go_at_call 82;clear mk8;refine(cP.out _ _ _ HM.out.below (gA.out _ hF.out).is (gB.out _ hF.out).is).mono ?_;rintro r w3 ⟨rfl,hb_⟩;replace HM:=Zh (HM.out.keep hb_);replace hF:=Zh (hFs.keep hF.out hb_);clear hb_;dsimp only)|fail)
 subst hfr2
 replace hF:=Zh (hFs.keep hF.out ((Below.refl _ _).drew))
 replace HM:=Zh (HM.out.keep ((Below.refl _ _).drew))
 have HMs:=Zh HM.out
 refine wp_region_two (fun w'=>Mem _ w' _) 9 [(0,2),(1,2),(2,2),(3,2),(5,1),(7,1),(4,0),(6,0),(8,1),(9,0),(10,1)] (by kernel_rfl) (by kernel_rfl) HMs.out ?_
 clear HMs
 generalize World.drew _=wd at*
 refine p2Take (by rfl) (yields_memw rfl _ _ rfl 1 (fun w_ hSw=>hSw) rfl rfl _ uE.out rfl (by exact zend)) ?_
 try go_frame
 refine p2Take (by rfl) (yields_memw rfl _ _ rfl 0 (fun w_ hSw=>hSw) rfl rfl _ uE.out rfl (by exact zend)) ?_
 try go_frame
 refine p2Take (by rfl) (yields_memw rfl _ _ rfl 4 (fun w_ hSw=>hSw) rfl rfl _ uT.out rfl (by exact ztab)) ?_
 try go_frame
 refine p2Take (by rfl) (yields_memw rfl _ _ rfl 3 (fun w_ hSw=>hSw) rfl rfl _ uT.out rfl (by exact ztab)) ?_
 try go_frame
 repeat(refine p2Pure rfl rfl (by intro w_ hSw;clear hSw;go_simp;first|done|exact rfl) ?_;try go_frame)
 have HM5:=Zh (HM.out.alloc #[] 3)
 have hF5:=Zh (hFs.keep hF.out (ball _ (.cells #[] 3)))
 have hO5:=Zh (ownsRow_fresh wd 3 1)
 refine p2Step rfl rfl fun K hK=> ?_
 go_wp2_with(first|fail|fail)
 refine hK.out _ _ (fun _=>HM.out.keep (ball _ _)) fun hS_=> ?_
 clear hK K hS_
 try go_frame
 obtain⟨pb,hpb⟩:∃pb,pb=wd.heap.size:=⟨_,rfl⟩
 have hgeZ:w.heap.size≤pb:=by rw[hpb];exact HM.out.below.size
 rw[←hpb]at HM5 hO5 ⊢
 clear HM hF hpb
 generalize wd.alloc (.cells #[] 3)=w5 at*
 have HM:=Zh HM5.out.tail
 have hF:=hF5
 clear HM5 hF5
 have hge5:Hid (w.heap.size≤pb):=hgeZ
 refine p2Step rfl rfl fun K hK=> ?_
 go_wp2_with(first|(at_builtin;refine wpList_append_sls eltF _ rfl _ _ rfl pb (.slice (some ⟨pb,0,none⟩) 0 0) [] rfl hO5.out _ _ _ _ rfl (hf.out.keep HM.out.below) (by simp;omega) (own_lt hO5.out) ?_;intro v9 w7 HO1 HG1 _;rw[List.nil_append,hf.out.len]at HO1;obtain⟨A9,c9,rfl⟩:=own_slice HO1;replace HM:=Zh (HM.out.row hO5.out HG1 hge5.out (apart_of rfl));replace hF:=Zh (hFs.row hF.out hO5.out (by decide) (by decide) HG1);replace HO1:=Zh HO1;clear HG1 hO5)|fail)
 refine hK.out _ _ (fun _=>HM.out) fun hS_=> ?_
 clear hK K hS_
 try go_frame
 refine p2Pure (v:= .agg (cplA ⟨E1,E2,l,r,f,p,0,false,false⟩ ⟨v1,v2,vl,vr,A9,nf,c9⟩)) rfl rfl (fun w_ _=>by kernel_rfl) ?_
 try go_frame
 refine p2Step rfl rfl fun K hK=> ?_
 go_wp2_with(first|(refine wpList_storeF 2 HM rfl _ _ _ rfl _ rfl rfl _ rfl (by exact zcp) (by rfl) (by rfl) ?_;have hBq:=HM.out.at_ 2 rfl;clear HM;intro w4 HM hG4;simp only[List.set]at HM;replace hF:=Zh (hFs.put hF.out hBq (by decide) (by decide) hG4.out);replace HO1:=Zh (HO1.out.kept hG4.out (.inr (row_ne_blk HO1.out hBq (by decide))));clear hBq hG4)|fail)
 refine hK.out _ _ (fun h=>absurd h (by decide)) fun hS_=> ?_
 clear hK K hS_
 try go_frame
 repeat(refine p2Pure rfl rfl (by intro w_ hSw;clear hSw;go_simp;first|done|exact rfl) ?_;try go_frame)
 refine p2Done ?_
 go_wp2_with fail
 try simp only[Exit.inBlock,Exit.then]
 refine bodyPost_ret (results_ct rfl (HM.out.at_ 2 rfl) rfl _ uC.out rfl (by exact zcp)) rfl ?_
 exact hPo.out ⟨v1,v2,vl,vr,A9,nf,c9⟩ _ (by first|rfl|trivial) h2n.out ⟨(gA.out _ hF.out).is,(gB.out _ hF.out).is,hl.out.keep HM.out.below,hr.out.keep HM.out.below,(Sls.of_owns (enc:=intE) (k:=1) (fun _=>rfl) HO1.out hf.out.len).2,own_cap HO1.out⟩ HM.out.below
end Tx
end Go.Proofs.YtggpaahhgchloaaGreat
