/- Chapter 28: the law NothingLost. -/
import Derived.Test.YtggpaahhgchloaaGreatSr
import Derived.Test.YtggpaahhgchloaaGreatSv
set_option linter.unusedVariables false
set_option linter.unusedSimpArgs false
set_option maxRecDepth 100000
set_option maxHeartbeats 16000000
namespace Go.Proofs.YtggpaahhgchloaaGreat
open Go Go.RowKit Go.Sort Go.Shelf Go.Maps
namespace Tx
open Sw Mm Pl
theorem few_small2 {t:Tab}(h:fewT t=true)(hT:TabOk t):Small2 t:=by
 unfold fewT fewC at h
 simp only[Bool.and_eq_true,Bool.or_eq_true,decide_eq_true_eq]at h
 have h1:=hT.size
 have h2:=hT.len
 exact⟨by omega,by omega⟩
theorem u8_wf {v:Int}(h:(Lit.int .u8 v).wf=true):0≤v∧v≤255:=by
 simp only[Lit.wf,Bool.and_eq_true,decide_eq_true_eq]at h
 have h1:IntKind.u8.min=0:=by kernel_rfl
 have h2:IntKind.u8.max=255:=by kernel_rfl
 omega
def kept1(x:Wsh):Wsh:= { x with fate:= { x.fate with request:=false,reply:=false}}
theorem kept_map(l:List Wsh):Kept (l.map kept1):=fun w hw=>by
 obtain⟨x,_,rfl⟩:=List.mem_map.1 hw
 exact⟨rfl,rfl⟩
def CurIs(cur:Array Value)(n:Nat)(l:List Wsh)(k:Nat):Prop:=n*7≤cur.size∧∀i,i<n→∀j,j<7→cur[i*7+j]? =(wshE (if i<k then kept1 (l.getD i default)else l.getD i default))[j]?
theorem CurIs.step {cur:Array Value} {n k:Nat} {l:List Wsh}(h:CurIs cur n l k)(hk:k<n):CurIs (setL (setL cur.toList (k*7+3) [.bool false]).toArray.toList (k*7+4) [.bool false]).toArray n l (k+1):=by
 obtain⟨h1,h2⟩:=h
 refine⟨by simp[setL];exact h1,fun i hi j hj=> ?_⟩
 have e:(setL (setL cur.toList (k*7+3) [.bool false]).toArray.toList (k*7+4) [.bool false]).toArray[i*7+j]? =if i*7+j=k*7+4 then some (.bool false)else if i*7+j=k*7+3 then some (.bool false)else cur[i*7+j]? :=by
  have hs:cur.toList.length=cur.size:=rfl
  simp only[setL,List.getElem?_toArray,List.getElem?_set,List.length_set,hs]
  by_cases a:i*7+j=k*7+4
  ·rw[if_pos a.symm,if_pos (by omega),if_pos a]
  ·rw[if_neg (fun e=>a e.symm),if_neg a]
   by_cases b:i*7+j=k*7+3
   ·rw[if_pos b.symm,if_pos (by omega),if_pos b]
   ·rw[if_neg (fun e=>b e.symm),if_neg b,Array.getElem?_toList]
 rw[e]
 by_cases hik:i=k
 ·subst hik
  have h3:=h2 i hi j hj
  rw[if_neg (Nat.lt_irrefl _)]at h3
  rw[if_pos (Nat.lt_succ_self _),h3]
  obtain⟨x0,x1,x2,⟨x3,x4,x5,x6⟩⟩:=l.getD i default
  rcases(by omega:j=0∨j=1∨j=2∨j=3∨j=4∨j=5∨j=6)with rfl|rfl|rfl|rfl|rfl|rfl|rfl
  all_goals first|(rw[if_neg (by omega),if_neg (by omega)];rfl)|(rw[if_neg (by omega),if_pos rfl];rfl)|(rw[if_pos rfl];rfl)
 ·rw[if_neg (by omega),if_neg (by omega),h2 i hi j hj]
  by_cases hlt:i<k
  ·rw[if_pos hlt,if_pos (by omega)]
  ·rw[if_neg hlt,if_neg (by omega)]
theorem CurIs.start {cur:Array Value} {n:Nat} {l:List Wsh}(hl:l.length=n)(hs:n*7≤cur.size)(ht:cur.toList.take (n*7)=l.flatMap wshE):CurIs cur n l 0:=by
 refine⟨hs,fun i hi j hj=> ?_⟩
 rw[if_neg (Nat.not_lt_zero _)]
 have h1:(cur.toList.take (n*7))[i*7+j]? =cur[i*7+j]? :=by rw[List.getElem?_take_of_lt (by omega),Array.getElem?_toList]
 rw[←h1,ht]
 exact Sk.fm_get wshE 7 wshE_len l i j (by omega) hj
theorem CurIs.sls {cur:Array Value} {n c:Nat} {l:List Wsh} {w:World} {g:Nat} {t:TypeId}(h:CurIs cur n l n)(hl:l.length=n)(hs:n≤maxLen)(hB:Blk w g cur t):WshS w (some ⟨g,0,none⟩) n (l.map kept1):=by
 refine⟨by rw[List.length_map];exact hl,hs,fun _=>⟨g,0,rfl,hB.lt,fun i hi j hj=> ?_⟩⟩
 rw[show 0+i*7+j=i*7+j by omega,hB.cell,h.2 i hi j hj,if_pos hi]
 congr 2
 rw[List.getD_eq_getElem?_getD,List.getD_eq_getElem?_getD,List.getElem?_map,List.getElem?_eq_getElem (by omega)]
 rfl
theorem Mem.one {a w:World} {g:Nat} {C:Array Value} {t:TypeId}(hb:Below a.heap.size a w)(hB:Blk w g C t)(hg:a.heap.size≤g):Mem a w [(g,C,t)]:=⟨hb,fun e he=>by rw[List.mem_singleton]at he;subst he;exact hB,by simp,fun e he=>by rw[List.mem_singleton]at he;subst he;exact hg⟩
theorem lawNoth_any(tl tr:Tab)(f:List Int)(p:Int)(l:List Wsh)(vl vr:TabV)(A Al:Option Addr)(nf cf n cl:Nat)(w:World)(hl:TabIs w vl tl)(hr:TabIs w vr tr)(hf:IntS w A nf f)(hc:nf≤cf)(hn:nf≤17592186044416)(p0:0≤p)(p1:p≤255)(hw:WshS w Al n l):Calls Tryz.prog 10 #[.agg (tabA tl vl),.agg (tabA tr vr),.slice A nf cf,.int .u8 p,.slice Al n cl] w fun r w'=>r= .returned (.bool true)∧Below w.heap.size w w':=by
 have HM:=Zh (Mem.start w)
 obtain⟨F0,hFs,hF⟩:∃F:World→Prop,Stc F∧Hid (F w):=⟨_,Stc.true,trivial⟩
 have uC:=Tryz.underlying57
 have uT:=Tryz.underlying29
 have cAw:=fun W=>awake28_any W
 obtain⟨P,hP⟩:∃P,1+p.tmod 8=P:=⟨_,rfl⟩
 have hq0:0≤p.tmod 8:=Int.tmod_nonneg 8 p0
 have hq1:p.tmod 8<8:=Int.tmod_lt_of_pos p (by decide)
 have wp1:IntKind.i64.wrap p=p:=IntWalk.i64_in _ (by omega)
 have wp2:IntKind.i64.wrap (p.tmod 8)=p.tmod 8:=IntWalk.i64_in _ (by omega)
 have wp3:IntKind.i64.wrap (1+p.tmod 8)=P:=by rw[hP];exact IntWalk.i64_in _ (by omega)
 have cN:=fun W (hb:Below w.heap.size w W)=>newP_any tl tr f P vl vr A nf cf W (hl.keep hb) (hr.keep hb) (hf.keep hb) hc hn
 unfold NewPost at cN
 have hCN:newCC tl tr f P=0→newCN tl tr f P=freshC tl tr f P:=fun e=>by unfold newCN;rw[if_pos e]
 have cFl:=fun W (hb:Below w.heap.size w W)=>fewT_any tl vl W (hl.keep hb)
 have cFr:=fun W (hb:Below w.heap.size w W)=>fewT_any tr vr W (hr.keep hb)
 have cW:=fun W (hb:Below w.heap.size w W) hn6=>cloneW_any Al n cl l W (hw.keep hb) hn6
 unfold ClonePost at cW
 have cR:=fun c v A5 c5 W (h:CplIs W v c) (hl:WshS W A5 n (l.map kept1)) (hn:v.nf≤1048576) hsm=>runP_any c v (l.map kept1) A5 n c5 W h hl hn hsm
 unfold RunCPost at cR
 have cL:=fun c v A5 c5 W (h:CplIs W v c) (hl:WshS W A5 n (l.map kept1)) (hn:v.nf≤1048576) hr hk=>losses0_any c v (l.map kept1) A5 n c5 W h hl hn hr hk (kept_map l)
 have cB:=fun A5 n5 c5 xs W (h:Sls boolE 1 W A5 n5 xs) ha=>containsB0_any A5 n5 c5 xs W h ha
 have hlen:=hw.len
 have hsm:=hw.small
 have hfl:=hf.len
 unfold maxLen at hsm
 have hfs:=hf.small
 unfold maxLen at hfs
 have hL:newCC tl tr f P=0→fewT tl=true→fewT tr=true→n≤60→Small2 tl∧Small2 tr∧CplOk (freshC tl tr f P)∧∃d x,NothLaw (freshC tl tr f P) d (l.map kept1) x:=fun e1 e2 e3 e4=>by
  have hi:=(newCC_iff.1 e1)
  have s1:=few_small2 e2 hi.2.fa.tab
  have s2:=few_small2 e3 hi.2.fb.tab
  exact⟨s1,s2,(calm_fresh e1 s1 s2).ok,noth_law e1 s1 s2 (by rw[List.length_map,hlen];exact e4) (kept_map l)⟩
 have hfc:(freshC tl tr f P).free=f:=rfl
 have hfL:(freshC tl tr f P).left=tl:=rfl
 have hfR:(freshC tl tr f P).right=tr:=rfl
 generalize newCN tl tr f P=CN at*
 generalize newCC tl tr f P=NC at*
 generalize freshC tl tr f P=c at*
 generalize fewT tl=FL at*
 generalize fewT tr=FR at*
 replace cAw:=Zh cAw
 replace cN:=Zh cN
 replace cFl:=Zh cFl
 replace cFr:=Zh cFr
 replace cW:=Zh cW
 replace cR:=Zh cR
 replace cL:=Zh cL
 replace cB:=Zh cB
 replace hL:=Zh hL
 replace hl:=Zh hl
 replace hr:=Zh hr
 replace hf:=Zh hf
 replace hw:=Zh hw
 replace uC:=Zh uC
 replace uT:=Zh uT
 replace hlen:=Zh hlen
 replace hfl:=Zh hfl
 replace hfc:=Zh hfc
 replace hP:=Zh hP
 replace hn:=Zh hn
 replace hfL:=Zh hfL
 replace hfR:=Zh hfR
 replace hCN:=Zh hCN
 replace p0:=Zh p0
 replace p1:=Zh p1
 replace hq0:=Zh hq0
 replace hq1:=Zh hq1
 go_enter Tryz.func10,Tryz.ntmps10
 have mk1:Unit:=()
 have mk2:Unit:=()
 go_upto_region 1 with(first|go_skip|(clear mk1;refine wpList_boxA HM rfl 29 _ rfl _ rfl ?_;clear HM;intro g5 w1 HM hG;replace hF:=Zh (hFs.keep hF.out hG.out);clear hG)|(clear mk2;refine wpList_boxA HM rfl 29 _ rfl _ rfl ?_;clear HM;intro g6 w1 HM hG;replace hF:=Zh (hFs.keep hF.out hG.out);clear hG)|fail)
 have mk3:Unit:=()
 go_upto_region 3 with(first|go_skip|(go_at_call 26;clear mk3;refine(cAw.out _).mono ?_;rintro r w3 ⟨rfl,hb_⟩;replace HM:=Zh (HM.out.keep hb_);replace hF:=Zh (hFs.keep hF.out hb_);clear hb_;dsimp only)|fail)
 clear cAw
 have mk4:Unit:=()
 go_upto_region 4 with(first|go_skip|(refine wpList_loadG 1 HM (by rfl) _ _ rfl _ rfl rfl _ uT.out rfl (by exact ztab) ?_)|(refine wpList_loadG 0 HM (by rfl) _ _ rfl _ rfl rfl _ uT.out rfl (by exact ztab) ?_)|(go_at_call 28;refine(cN.out _ HM.out.below).mono ?_;rintro r wq ⟨v1,rfl,hC,hb_⟩;replace HM:=Zh (HM.out.keep hb_);replace hF:=Zh (hFs.keep hF.out hb_);have HB:=Zh (Below.refl wq.heap.size wq);replace hC:=Zh hC;clear hb_;dsimp only)|(clear mk4;refine wpList_allocN HM rfl 57 rfl cpInfo ?_;clear HM;intro g11 w1 HM hG hN9;replace hF:=Zh (hFs.keep hF.out hG.out);have hf_g11:=Nat.le_trans HB.out.size hN9.out;replace HB:=Zh (bthen HB.out hG.out);clear hG hN9)|(refine wpList_storeF 0 HM rfl _ _ _ rfl _ rfl rfl _ rfl (by exact zcp) (by rfl) (by rfl) ?_;have hBq:=HM.out.at_ 0 rfl;clear HM;intro w4 HM hG4;simp only[List.set]at HM;replace hF:=Zh (hFs.put hF.out hBq (by decide) (by decide) (by decide) hG4.out);replace HB:=Zh (HB.out.grown hG4.out HB.out.size (fun k e=>by cases e;exact hf_g11));clear hBq hG4)|fail)
 clear cN wp1 wp2 wp3
 cases FL
 case false=>
  have mk5:Unit:=()
  have mk6:Unit:=()
  go_wp2_with(first|go_skip|(refine wpList_loadG 2 HM (by rfl) _ _ rfl _ rfl rfl _ uT.out rfl (by exact ztab) ?_)|(refine wpList_loadG 1 HM (by rfl) _ _ rfl _ rfl rfl _ uT.out rfl (by exact ztab) ?_)|(go_at_call 13;clear mk5;refine(cFl.out _ HM.out.below).mono ?_;rintro r w3 ⟨rfl,hb_⟩;replace HM:=Zh (HM.out.keep hb_);replace hF:=Zh (hFs.keep hF.out hb_);replace HB:=Zh (bthen HB.out hb_);clear hb_;dsimp only)|(go_at_call 13;clear mk6;refine(cFr.out _ HM.out.below).mono ?_;rintro r w3 ⟨rfl,hb_⟩;replace HM:=Zh (HM.out.keep hb_);replace hF:=Zh (hFs.keep hF.out hb_);replace HB:=Zh (bthen HB.out hb_);clear hb_;dsimp only)|fail)
  try simp only[Exit.inBlock,Exit.then]
  go_ret
  exact⟨by first|rfl|trivial,HM.out.below⟩
 cases FR
 case false=>
  have mk5:Unit:=()
  have mk6:Unit:=()
  go_wp2_with(first|go_skip|(refine wpList_loadG 2 HM (by rfl) _ _ rfl _ rfl rfl _ uT.out rfl (by exact ztab) ?_)|(refine wpList_loadG 1 HM (by rfl) _ _ rfl _ rfl rfl _ uT.out rfl (by exact ztab) ?_)|(go_at_call 13;clear mk5;refine(cFl.out _ HM.out.below).mono ?_;rintro r w3 ⟨rfl,hb_⟩;replace HM:=Zh (HM.out.keep hb_);replace hF:=Zh (hFs.keep hF.out hb_);replace HB:=Zh (bthen HB.out hb_);clear hb_;dsimp only)|(go_at_call 13;clear mk6;refine(cFr.out _ HM.out.below).mono ?_;rintro r w3 ⟨rfl,hb_⟩;replace HM:=Zh (HM.out.keep hb_);replace hF:=Zh (hFs.keep hF.out hb_);replace HB:=Zh (bthen HB.out hb_);clear hb_;dsimp only)|fail)
  try simp only[Exit.inBlock,Exit.then]
  go_ret
  exact⟨by first|rfl|trivial,HM.out.below⟩
 by_cases ed1:64<nf
 case pos=>
  have d1:decide ((64:Int)<(nf:Int))=true:=decide_eq_true (by omega)
  have mk5:Unit:=()
  have mk6:Unit:=()
  go_wp2_with(first|go_skip|(refine wpList_loadG 2 HM (by rfl) _ _ rfl _ rfl rfl _ uT.out rfl (by exact ztab) ?_)|(refine wpList_loadG 1 HM (by rfl) _ _ rfl _ rfl rfl _ uT.out rfl (by exact ztab) ?_)|(go_at_call 13;clear mk5;refine(cFl.out _ HM.out.below).mono ?_;rintro r w3 ⟨rfl,hb_⟩;replace HM:=Zh (HM.out.keep hb_);replace hF:=Zh (hFs.keep hF.out hb_);replace HB:=Zh (bthen HB.out hb_);clear hb_;dsimp only)|(go_at_call 13;clear mk6;refine(cFr.out _ HM.out.below).mono ?_;rintro r w3 ⟨rfl,hb_⟩;replace HM:=Zh (HM.out.keep hb_);replace hF:=Zh (hFs.keep hF.out hb_);replace HB:=Zh (bthen HB.out hb_);clear hb_;dsimp only)|fail)
  try simp only[Exit.inBlock,Exit.then]
  go_ret
  exact⟨by first|rfl|trivial,HM.out.below⟩
 have d1:decide ((64:Int)<(nf:Int))=false:=decide_eq_false (by omega)
 by_cases ed2:60<n
 case pos=>
  have d2:decide ((60:Int)<(n:Int))=true:=decide_eq_true (by omega)
  have mk5:Unit:=()
  have mk6:Unit:=()
  go_wp2_with(first|go_skip|(refine wpList_loadG 2 HM (by rfl) _ _ rfl _ rfl rfl _ uT.out rfl (by exact ztab) ?_)|(refine wpList_loadG 1 HM (by rfl) _ _ rfl _ rfl rfl _ uT.out rfl (by exact ztab) ?_)|(go_at_call 13;clear mk5;refine(cFl.out _ HM.out.below).mono ?_;rintro r w3 ⟨rfl,hb_⟩;replace HM:=Zh (HM.out.keep hb_);replace hF:=Zh (hFs.keep hF.out hb_);replace HB:=Zh (bthen HB.out hb_);clear hb_;dsimp only)|(go_at_call 13;clear mk6;refine(cFr.out _ HM.out.below).mono ?_;rintro r w3 ⟨rfl,hb_⟩;replace HM:=Zh (HM.out.keep hb_);replace hF:=Zh (hFs.keep hF.out hb_);replace HB:=Zh (bthen HB.out hb_);clear hb_;dsimp only)|fail)
  try simp only[Exit.inBlock,Exit.then]
  go_ret
  exact⟨by first|rfl|trivial,HM.out.below⟩
 have d2:decide ((60:Int)<(n:Int))=false:=decide_eq_false (by omega)
 by_cases e3:NC=0
 case neg=>
  have d3:(NC !=0)=true:=by rw[bne_iff_ne];exact e3
  replace e3:=Zh e3
  have mk5:Unit:=()
  have mk6:Unit:=()
  go_wp2_with(first|go_skip|(refine wpList_loadG 2 HM (by rfl) _ _ rfl _ rfl rfl _ uT.out rfl (by exact ztab) ?_)|(refine wpList_loadG 1 HM (by rfl) _ _ rfl _ rfl rfl _ uT.out rfl (by exact ztab) ?_)|(go_at_call 13;clear mk5;refine(cFl.out _ HM.out.below).mono ?_;rintro r w3 ⟨rfl,hb_⟩;replace HM:=Zh (HM.out.keep hb_);replace hF:=Zh (hFs.keep hF.out hb_);replace HB:=Zh (bthen HB.out hb_);clear hb_;dsimp only)|(go_at_call 13;clear mk6;refine(cFr.out _ HM.out.below).mono ?_;rintro r w3 ⟨rfl,hb_⟩;replace HM:=Zh (HM.out.keep hb_);replace hF:=Zh (hFs.keep hF.out hb_);replace HB:=Zh (bthen HB.out hb_);clear hb_;dsimp only)|fail)
  try simp only[Exit.inBlock,Exit.then]
  go_ret
  exact⟨by first|rfl|trivial,HM.out.below⟩
 subst e3
 have mk5:Unit:=()
 have mk6:Unit:=()
 go_upto_region 6 with(first|go_skip|(refine wpList_loadG 2 HM (by rfl) _ _ rfl _ rfl rfl _ uT.out rfl (by exact ztab) ?_)|(refine wpList_loadG 1 HM (by rfl) _ _ rfl _ rfl rfl _ uT.out rfl (by exact ztab) ?_)|(go_at_call 13;clear mk5;refine(cFl.out _ HM.out.below).mono ?_;rintro r w3 ⟨rfl,hb_⟩;replace HM:=Zh (HM.out.keep hb_);replace hF:=Zh (hFs.keep hF.out hb_);replace HB:=Zh (bthen HB.out hb_);clear hb_;dsimp only)|(go_at_call 13;clear mk6;refine(cFr.out _ HM.out.below).mono ?_;rintro r w3 ⟨rfl,hb_⟩;replace HM:=Zh (HM.out.keep hb_);replace hF:=Zh (hFs.keep hF.out hb_);replace HB:=Zh (bthen HB.out hb_);clear hb_;dsimp only)|fail)
 clear d1 d2 cFl cFr
 obtain⟨s1,s2,hok,d,x,hN⟩:=hL.out rfl rfl rfl (by omega)
 clear hL
 replace s1:=Zh s1
 replace s2:=Zh s2
 replace hok:=Zh hok
 replace hN:=Zh hN
 have hc9:=(hCN.out rfl).symm
 subst hc9
 clear hCN
 go_upto_region 7 with(first|go_skip|(go_at_call 44;refine(cW.out _ HM.out.below (by omega)).mono ?_;rintro r w5 ⟨A5,c5,rfl,HK,hb_⟩;have HM0:=HM;have HB0:=HB;replace HM:=Zh (HM.out.keep hb_);replace HB:=Zh (bthen HB.out hb_);replace HK:=Zh HK;replace hb_:=Zh hb_;clear hF hFs;dsimp only)|fail)
 go_upto_block 0 with fail
 try go_frame
 go_cut[14,60] (fun _ _ wx=>Hid (WshS wx A5 n (l.map kept1))∧Hid (Mem w wx [(g11,cplA c v1,57),(g6,tabA tr vr,29),(g5,tabA tl vl,29)])∧Hid (Below wq.heap.size wq wx))
 case first=>
  by_cases hz:n=0
  case pos=>
   subst hz
   have hl0:l= []:=List.eq_nil_of_length_eq_zero hlen.out
   clear HM0
   go_wp2_with fail
   go_loopw[60,14] (fun i _ wr=>Hid (i= .int .i64 0∧Mem w wr [(g11,cplA c v1,57),(g6,tabA tr vr,29),(g5,tabA tl vl,29)]∧Below wq.heap.size wq wr)) (fun _ _ _=>0)
   case atStart=>exact Zh ⟨rfl,HM.out,HB.out⟩
   case round=>
    clear HM HB
    obtain⟨rfl,HM,HB⟩:=hrel.out
    go_wp2_with fail
    go_meet
    exact⟨Zh (by rw[hl0];exact⟨rfl,Nat.zero_le _,fun h=>absurd h (by omega)⟩),Zh HM,Zh HB⟩
  obtain⟨g,cap,cur,hv,hgb,hgt,hcp,hcm,hcs,hct⟩:=HK.out.2.resolve_left (fun h=>hz h.2)
  injection hv with hv1 hv2 hv3
  subst hv1 hv3
  have hI:=Zh (CurIs.start hlen.out (by rw[hcs];exact Nat.mul_le_mul_right 7 hcp) hct)
  have HMg:=Zh (HM0.out.join (Mem.one hb_.out ⟨hgt⟩ hgb))
  have hgq:Hid (wq.heap.size≤g):=Zh (Nat.le_trans HB0.out.size hgb)
  clear HM HM0 HK hgb hgt hcp hcs hct hcm hb_
  go_wp2_with fail
  go_loopw[60,14] (fun i _ wr=>Hid (∃(q:Nat) (cu:Array Value),q≤n∧i= .int .i64 q∧CurIs cu n l q∧Mem w wr ((g,cu,68):: [(g11,cplA c v1,57),(g6,tabA tr vr,29),(g5,tabA tl vl,29)])∧Below wq.heap.size wq wr)) (fun i _ _=>n-(intOf i).toNat)
  case atStart=>exact Zh ⟨0,cur,Nat.zero_le _,rfl,hI.out,HMg.out,HB.out⟩
  case round=>
   clear HMg HB hI
   obtain⟨q,cu,hq,rfl,hI,HM,HB⟩:=hrel.out
   clear hrel
   replace HM:=Zh HM
   replace HB:=Zh HB
   have hI1:=hI.1
   replace hI:=Zh hI
   by_cases hlt:q<n
   ·have hlt2:(q:Int)<(n:Int):=by omega
    have hq0:(0:Int)≤(q:Int):=by omega
    go_wp2_with(first|go_skip|(refine wpList_storeM 0 HM rfl _ _ _ rfl _ _ rfl rfl (.bool false) rfl (by exact zone_b) (by kernel_rfl) (by first|(simp[Value.cells];omega)|(simp[setL,Value.cells];omega)) _ rfl ?_;clear HM;intro w4 HM hG4;simp only[List.set,Value.cells]at HM;replace HB:=Zh (HB.out.grown hG4.out HB.out.size (fun k e=>by cases e;exact hgq.out));clear hG4)|fail)
    have hI2:=CurIs.step hI.out hlt
    first
     |exact⟨Zh ⟨q+1,_,by omega,by go_num,hI2,HM.out,HB.out⟩,by simp[intOf];omega⟩
     |(go_roundw;case rel=>exact Zh ⟨q+1,_,by omega,by go_num,hI2,HM.out,HB.out⟩;case measure=>simp[intOf];omega)
   ·obtain rfl:q=n:=by omega
    go_wp2_with fail
    go_meet
    exact⟨Zh (CurIs.sls (c:=c5) hI.out hlen.out (by unfold maxLen;omega) (HM.out.at_ 0 rfl)),Zh HM.out.tail,HB⟩
 case rest=>
  clear HM HB HM0 HK HB0
  obtain⟨hK,HM,HB⟩:=hcut
  replace hC:=Zh (hC.out.keep HB.out)
  replace HB:=Zh (Below.refl wc.heap.size wc)
  have hnf:v1.nf≤1048576:=by rw[←hC.out.f.len,hfc.out,hfl.out];omega
  have hsm2:chkCp c=0→Small2 c.left∧Small2 c.right:=fun _=>⟨by rw[hfL.out];exact s1.out,by rw[hfR.out];exact s2.out⟩
  have cR2:=Zh (fun W h1 h2=>cR.out c v1 A5 c5 W h1 h2 hnf hsm2)
  rw[hN.out.run,hN.out.end_,hN.out.bools]at cR2
  have cL2:=Zh (fun W h1 h2=>cL.out c v1 A5 c5 W h1 h2 hnf hN.out.run hok.out)
  have hxl:x.length=n:=by rw[hN.out.len,List.length_map];exact hlen.out
  have hdf:d.frame=n:=by rw[hN.out.frame,List.length_map,hlen.out]
  have hda:=hN.out.wa
  have hdb:=hN.out.wb
  have hall:=hN.out.all
  clear cR cL hsm2 hN hok s1 s2 hfL hfR hfc hnf
  replace hxl:=Zh hxl
  replace hdf:=Zh hdf
  replace hda:=Zh hda
  replace hdb:=Zh hdb
  replace hall:=Zh hall
  obtain⟨F0,hFs,hF⟩:∃F:World→Prop,Stc F∧Hid (F wc):=⟨_,Stc.true,trivial⟩
  have mk7:Unit:=()
  go_upto_region 13 with(first|go_skip|(refine wpList_loadG 0 HM (by rfl) _ _ rfl _ rfl rfl _ uC.out rfl (by exact zcp) ?_)|(go_at_call 40;refine(cR2.out _ (hC.out.keep HB.out) (hK.out.keep HB.out)).mono ?_;rintro r w3 ⟨v3,A6,n6,c6,b6,rfl,hO,HO,hl6,hb_⟩;replace HM:=Zh (HM.out.keep hb_);replace hF:=Zh (hFs.keep hF.out hb_);replace HB:=Zh (bthen HB.out hb_);replace hO:=Zh hO;replace HO:=Zh HO;replace hl6:=Zh hl6;clear hb_;dsimp only)|(clear mk7;refine wpList_allocN HM rfl 57 rfl cpInfo ?_;clear HM;intro g15 w1 HM hG hN9;replace hF:=Zh (hFs.keep hF.out hG.out);replace hO:=Zh ((Stc.cplOwn ..).keep hO.out hG.out);replace HO:=Zh (owns_keep HO.out hG.out);have hf_g15:=Nat.le_trans HB.out.size hN9.out;replace HB:=Zh (bthen HB.out hG.out);clear hG hN9)|(refine wpList_storeF 0 HM rfl _ _ _ rfl _ rfl rfl _ rfl (by exact zcp) (by rfl) (by rfl) ?_;have hBq:=HM.out.at_ 0 rfl;clear HM;intro w4 HM hG4;simp only[List.set]at HM;replace hF:=Zh (hFs.put hF.out hBq (by decide) (by decide) (by decide) hG4.out);replace HB:=Zh (HB.out.grown hG4.out HB.out.size (fun k e=>by cases e;exact hf_g15));replace hO:=Zh ((Stc.cplOwn ..).put hO.out hBq (by decide) (by decide) (by decide) hG4.out);replace HO:=Zh (HO.out.kept hG4.out (.inr (row_ne_blk HO.out hBq (by decide))));clear hBq hG4)|fail)
  go_upto_region 14 with(first|go_skip|(refine wpList_loadG 1 HM (by rfl) _ _ rfl _ rfl rfl _ uC.out rfl (by exact zcp) ?_)|(go_at_call 42;refine(cL2.out _ (hC.out.keep HB.out) (hK.out.keep HB.out)).mono ?_;rintro r w3 ⟨rfl,hb_⟩;replace HM:=Zh (HM.out.keep hb_);replace hF:=Zh (hFs.keep hF.out hb_);replace HB:=Zh (bthen HB.out hb_);replace hO:=Zh ((Stc.cplOwn ..).keep hO.out hb_);replace HO:=Zh (owns_keep HO.out hb_);clear hb_;dsimp only)|fail)
  clear cR2 cL2
  obtain rfl:n6=n:=hl6.out.symm.trans hxl.out
  have hS:=Zh (Sls.of_owns boolE_len HO.out hl6.out).2
  have p64:World.cell? _ ⟨g15,64,none⟩=some (.int .i64 d.frame):=HM.out.cell 0 rfl 64
  have p65:World.cell? _ ⟨g15,65,none⟩=some (.bool d.wa):=HM.out.cell 0 rfl 65
  have p66:World.cell? _ ⟨g15,66,none⟩=some (.bool d.wb):=HM.out.cell 0 rfl 66
  rw[hdf.out]at p64
  rw[hda.out]at p65
  rw[hdb.out]at p66
  go_wp2_with(first|go_skip|(go_at_call 45;refine(cB.out _ _ _ _ _ hS.out hall.out).mono ?_;rintro r w3 ⟨rfl,hb_⟩;replace p64:=((HM.out.keep hb_).cell 0 rfl 64).trans ((HM.out.cell 0 rfl 64).symm.trans p64);replace p65:=((HM.out.keep hb_).cell 0 rfl 65).trans ((HM.out.cell 0 rfl 65).symm.trans p65);replace p66:=((HM.out.keep hb_).cell 0 rfl 66).trans ((HM.out.cell 0 rfl 66).symm.trans p66);replace HM:=Zh (HM.out.keep hb_);clear hb_;dsimp only)|fail)
  try simp only[Exit.inBlock,Exit.then]
  go_ret
  exact⟨by first|rfl|trivial,HM.out.below⟩
theorem repairNothingLost_walk(x1:Int)(x3:Int)(A5:Option Addr)(n6 c7:Nat)(l8:List TCl)(x10:Int)(x12:Int)(A14:Option Addr)(n15 c16:Nat)(l17:List TCl)(A19:Option Addr)(n20 c21:Nat)(l22:List Int)(x24:Int)(A26:Option Addr)(n27 c28:Nat)(l29:List Wsh)(W:World)(h2:(Lit.int .i64 x1).wf=true)(h4:(Lit.int .i64 x3).wf=true)(h9:TclS W A5 n6 l8∧n6≤c7)(h11:(Lit.int .i64 x10).wf=true)(h13:(Lit.int .i64 x12).wf=true)(h18:TclS W A14 n15 l17∧n15≤c16)(h23:IntS W A19 n20 l22∧n20≤c21)(h25:(Lit.int .u8 x24).wf=true)(h30:WshS W A26 n27 l29∧n27≤c28)(hb:n20≤17592186044416):Calls Tryz.prog 10 #[.agg #[.int .i64 x1,.int .i64 x3,.slice A5 n6 c7],.agg #[.int .i64 x10,.int .i64 x12,.slice A14 n15 c16],.slice A19 n20 c21,.int .u8 x24,.slice A26 n27 c28] W fun e w'=>e= .returned (.bool true)∧Below W.heap.size W w':=
 lawNoth_any ⟨x1,x3,l8⟩ ⟨x10,x12,l17⟩ l22 x24 l29 ⟨A5,n6,c7⟩ ⟨A14,n15,c16⟩ A19 A26 n20 c21 n27 c28 W ⟨h9.1,h9.2⟩ ⟨h18.1,h18.2⟩ h23.1 h23.2 hb (u8_wf h25).1 (u8_wf h25).2 h30.1
end Tx
end Go.Proofs.YtggpaahhgchloaaGreat
