/- Chapter 16: Candidates, the reference's. -/
import Derived.Test.YtfamifgchgolpaaGreatVe
set_option linter.unusedVariables false
set_option linter.unusedSimpArgs false
set_option maxRecDepth 100000
set_option maxHeartbeats 16000000
namespace Go.Proofs.YtfamifgchgolpaaGreat
open Go Go.RowKit Go.Sort Go.Shelf Go.Maps
namespace Tx
open Sw Mm
theorem rcand_any(t:Tab)(v:TabV)(A:Option Addr)(n c q:Nat)(f:List Int)(w:World)(h:TabIs w v t)(hf:IntS w A n f)(hq:q≤1000):Calls Tryz.prog 152 #[.agg (Kt t v),.slice A n c,.int .i64 q] w (CandPost t f q w):=by
 obtain⟨B,m,c2⟩:=v
 have I:=Zh (Mem.start w)
 have cK:=fun W (hb:Below w.heap.size w W)=>rchkT_any t ⟨B,m,c2⟩ W (h.keep hb)
 have cM:=fun W (hb:Below w.heap.size w W)=>rmask_any A n c f t.length W (hf.keep hb)
 have cU:=fun W (k j:Nat) (hb:Below w.heap.size w W)=>rfits_any t ⟨B,m,c2⟩ A n c f ⟨k,j⟩ W (h.keep hb) (hf.keep hb)
 have hft:∀k j:Nat,chkT t=0→maskN f t.length=true→t.length=n→k<n→j<16→fitsN t f ⟨k,j⟩=(bitN (f.getD k default) j&& !usedN t k):=fun k j e1 e2 e3 e4 e5=>by
  unfold fitsN
  rw[e1,e2,e3]
  have a1:((k:Int)<(n:Int)):=by omega
  have a2:((j:Int)<16):=by omega
  simp[a1,a2]
 have hmk:maskN f t.length=true→(n:Int)=t.length∧∀x∈f,0≤x∧x<65536:=fun e=>by
  unfold maskN at e
  rw[hf.len]at e
  simp at e
  exact⟨e.1,e.2⟩
 have hlf:=hf.len
 have hsm:=hf.small
 unfold maxLen at hsm
 have hbad:=fun h=>candN_bad (t:=t) (f:=f) (n:=q) h
 have heq:=fun N k h0 h1 h2 h3 h4=>candN_eq (t:=t) (f:=f) (n:=q) (N:=N) (k:=k) h0 h1 h2 h3 h4
 have hS:∀k,candS t f k=if usedN t k=true then []else match offN (f.getD k 0)with
  |some j=> [⟨k,j⟩]
  |none=> []:=fun k=>rfl
 have hsucc:=candG_succ t f
 have h0:candG t f 0= []:=rfl
 generalize hP:CandPost t f q w=P
 have hPb:candN t f q= []→∀w',Below w.heap.size w w'→P (.returned (.slice none 0 0)) w':=fun e w' hb=>by
  rw[←hP]
  exact⟨none,0,0,rfl,by rw[e];rfl,by rw[e];exact World.ownsRow_nil _ _ _ _,hb⟩
 have hPo:∀xs A1 m1 c1 w',candN t f q=xs→xs.length=m1→w'.ownsRow w.heap.size 97 2 (.slice A1 m1 c1) m1 (xs.flatMap sptE)→Below w.heap.size w w'→P (.returned (.slice A1 m1 c1)) w':=fun xs A1 m1 c1 w' e hl ho hb=>by
  rw[←hP]
  exact⟨A1,m1,c1,rfl,by rw[e];exact hl,by rw[e];exact ho,hb⟩
 clear hP
 generalize maskN f t.length=MK at*
 generalize chkT t=C1 at*
 generalize usedN t=US at*
 generalize candS t f=CS at*
 generalize candG t f=CG at*
 generalize candN t f q=CN at*
 generalize fitsN t f=FT at*
 obtain⟨t0,t1,t2⟩:=t
 dsimp only at*
 refine zh12 ?_ h cK cM cU hft hf hmk hlf hbad heq hS hsucc;clear h cK cM cU hft hf hmk hlf hbad heq hS hsucc;intro h cK cM cU hft hf hmk hlf hbad heq hS hsucc
 refine zh3 ?_ h0 hPb hPo;clear h0 hPb hPo;intro h0 hPb hPo
 go_enter Tryz.func152,Tryz.ntmps152
 go_upto_region 1 with(refine bA I 37 ?_;clear I;intro gt w1 I hG;clear hG)
 have kt:=I.cell 0 rfl
 go_upto_region 4 with(first
  |(go_at_call 110;refine(cK _ I.below).mono ?_;rintro e w3 ⟨rfl,p_⟩;have HM2:=Zm I p_;clear I p_ kt cK;have I:=HM2;clear HM2;have kt:=I.cell 0 rfl)
  |(go_at_call 203;refine(cM _ I.below).mono ?_;rintro e w4 ⟨rfl,p_⟩;have HM2:=Zm I p_;clear I p_ kt cM;have I:=HM2;clear HM2;have kt:=I.cell 0 rfl)
  |fail)
 all_goals try
  (refine hPb (hbad.out ?_) _ I.below
   rintro⟨h1,rfl⟩
   contradiction)
 cases MK
 ·contradiction
 simp only[Bool.not_true]
 obtain⟨hn1,hfb⟩:=hmk.out rfl
 subst hn1
 have hft2:=fun k j=>hft.out k j (by assumption) (by first|rfl|trivial) (by first|rfl|trivial)
 have heq2:=fun k h3 h4=>heq.out n k (by assumption) (by first|rfl|trivial) (by first|rfl|trivial) h3 h4
 replace heq2:=Zh heq2
 replace hfb:=Zh hfb
 replace hft2:=Zh hft2
 clear heq hmk hbad hPb hft
 have HO:Hid (w4.ownsRow w.heap.size 97 2 (.slice none 0 0) 0 ((CG 0).flatMap sptE)):=by show World.ownsRow _ _ _ _ _ _ _;rw[h0.out];exact World.ownsRow_nil _ _ _ _
 have hL0:Hid ((CG 0).length=0):=by show _= _;rw[h0.out];rfl
 go_wp2_with fail
 go_loopw[7,8,9] (fun o i _ wr=>∃(k m1:Nat) (A1:Option Addr) (c1:Nat),k≤n∧i= .int .i64 k∧o= .slice A1 m1 c1∧m1≤q∧Hid ((CG k).length=m1)∧Hid (wr.ownsRow w.heap.size 97 2 (.slice A1 m1 c1) m1 ((CG k).flatMap sptE))∧Hid (Mem w wr [(gt,#[.int .i64 t0,.int .i64 n,.slice B m c2],37)])) (fun _ i _ _=>n-(intOf i).toNat)
 case atStart=>exact⟨0,0,none,0,by omega,rfl,rfl,by omega,hL0,HO,I⟩
 case round=>
  clear I HO hL0 kt
  obtain⟨k,m1,A1,c1,hk,rfl,rfl,hm1,HL,HO,I⟩:=hrel
  have kt:=I.cell 0 rfl
  by_cases hlt:k<n
  ·have r1:(k:Int)<(n:Int):=by omega
   by_cases hfull:q≤m1
   ·have hP2:=Zh (hPo (CG k) A1 m1 c1 wr (heq2 k (by omega) (.inl (by have:=HL.out;omega))) HL.out HO.out I.below)
    have r2:(q:Int)≤(m1:Int):=by omega
    go_wp2
    exact hP2.out
   ·have r2:(m1:Int)<(q:Int):=by omega
    have hxb:=hfb.out _ (getD_mem (l:=f) (i:=k) (by rw[hlf.out];exact hlt))
    have hS2:=hS.out k
    have hs2:=hsucc.out k
    have hft3:=fun j h=>hft2.out k j hlt h
    rw[show f.getD k 0=f.getD k default from rfl]at hS2
    generalize US k=u at*
    generalize f.getD k default=x at*
    refine zh3 ?_ hS2 hs2 hft3;clear hS2 hs2 hft3;intro hS2 hs2 hft3
    go_wp2_with fail
    go_loopw[7,9] (fun o i wi=>∃j:Nat,j≤16∧i= .int .i64 j∧o= .slice A1 m1 c1∧Hid (∀p:Nat,p<j→(bitN x p&& !u)=false)∧Hid (wi.ownsRow w.heap.size 97 2 (.slice A1 m1 c1) m1 ((CG k).flatMap sptE))∧Hid (Mem w wi [(gt,#[.int .i64 t0,.int .i64 n,.slice B m c2],37)])) (fun _ i _=>16-(intOf i).toNat)
    case atStart=>exact⟨0,by omega,rfl,rfl,fun p hp=>by omega,HO,I⟩
    case round=>
     clear HO I kt
     obtain⟨j,hj,rfl,rfl,HP,HO,I⟩:=hrel
     have kt:=I.cell 0 rfl
     by_cases hlj:j<16
     ·have r3:(j:Int)<16:=by omega
      have cU2:=cU.out wr k j I.below
      have hfe:=hft3.out j hlj
      have hnx:(bitN x j&& !u)=false→∀p:Nat,p<j+1→(bitN x p&& !u)=false:=fun e p hp=>by
       by_cases h:p=j
       ·subst h;exact e
       ·exact HP.out p (by omega)
      have hC:(bitN x j&& !u)=true→CS k= [⟨k,j⟩]:=fun e=>by
       rw[Bool.and_eq_true,Bool.not_eq_true']at e
       rw[hS2.out,e.2,offN_some hlj e.1 fun p hp=>by
        have:=HP.out p hp
        rw[e.2]at this
        simpa using this]
       rfl
      rw[hfe]at cU2
      generalize(bitN x j&& !u)=bb at*
      refine zh4 ?_ hC hnx cU2 hfe;clear hC hnx cU2 hfe;intro hC hnx cU2 hfe
      go_wp2_with fail
      refine cU2.mono ?_
      rintro e w5 ⟨rfl,p_⟩
      replace HO:=Zh (owns_keep HO.out p_)
      have HM2:=Zm I p_;clear I p_ kt cU2;have I:=HM2;clear HM2;have kt:=I.cell 0 rfl
      cases bb with
      |false=>
       have hP2:=Zh (hnx rfl)
       go_wp2
       go_roundw
       case rel=>exact⟨j+1,by omega,by go_num,rfl,hP2,HO,I⟩
       case measure=>simp[intOf];omega
      |true=>
       have hC2:=hC.out rfl
       have HL2:Hid ((CG (k+1)).length=m1+1):=by show _= _;rw[hs2.out,hC2,List.length_append,HL.out];rfl
       have HE:Hid (CG (k+1)=CG k++ [⟨k,j⟩]):=by show _= _;rw[hs2.out,hC2]
       clear hC2 hC hnx
       go_wp2_with(at_builtin;refine wpList_append_sls eltS _ rfl _ _ rfl w.heap.size (.slice A1 m1 c1) (CG k) rfl (by rw[HL.out];exact HO.alloc _) _ 1 1 [⟨k,j⟩] rfl (Sls.one (Blk.new _ _ _)) (by rw[HL.out];omega) (by first|exact(ballN I.below _).size|(have:=I.below.size;simp;omega)) ?_;intro v1 w6 HO1 HG1 _;obtain⟨A2,c2',rfl⟩:=own_slice HO1;replace HO1:=Zh HO1;replace HG1:=Zh HG1)
       have HM2:=Zh ((I.keep (ball w5 (.cells #[.int .i64 k,.int .i64 j] 97))).row (HO.alloc _) HG1.out (Nat.le_refl _) (apart_of (by rfl)))
       rw[List.length_append,HL.out]at HO1
       have HO2:Hid (w6.ownsRow w.heap.size 97 2 (.slice A2 (m1+1) c2') (m1+1) ((CG (k+1)).flatMap sptE)):=by show World.ownsRow _ _ _ _ _ _ _;rw[HE.out];exact HO1.out
       go_wp2
       exact⟨⟨k+1,m1+1,A2,c2',by omega,by go_num,by rw[HL.out],by omega,HL2,HO2,HM2⟩,by simp[intOf];omega⟩
     ·obtain rfl:j=16:=by omega
      have hC:CS k= []:=by
       rw[hS2.out]
       cases u with
       |true=>rfl
       |false=>rw[offN_none fun p hp=>by have:=HP.out p hp;simpa using this];rfl
      have HL2:Hid ((CG (k+1)).length=m1):=by show _= _;rw[hs2.out,hC,List.append_nil];exact HL.out
      have HO2:Hid (wr.ownsRow w.heap.size 97 2 (.slice A1 m1 c1) m1 ((CG (k+1)).flatMap sptE)):=by show World.ownsRow _ _ _ _ _ _ _;rw[hs2.out,hC,List.append_nil];exact HO.out
      clear hC
      go_wp2
      go_roundw
      case rel=>exact⟨k+1,m1,A1,c1,by omega,by go_num,rfl,by omega,HL2,HO2,I⟩
      case measure=>simp[intOf];omega
  ·obtain rfl:k=n:=by omega
   have hP2:=Zh (hPo (CG k) A1 m1 c1 wr (heq2 k (by omega) (.inr ⟨rfl,by have:=HL.out;omega⟩)) HL.out HO.out I.below)
   go_wp2
   exact hP2.out
open Pl
theorem MsgOwn.sub {w:World} {v:MsgV} {m:Msg}(h:MsgOwn w v m):MsgSub w v m:=by
 obtain⟨⟨b1,h1⟩,⟨b2,h2⟩,l1,l2⟩:=h
 exact⟨SubS.of_own h1,SubS.of_own h2,own_cap h1,own_cap h2⟩
theorem rask_any(e:Ed)(t:Tab)(v:EdV)(vt:TabV)(A:Option Addr)(nf cf:Nat)(f:List Int)(kind count slot:Int)(w:World)(h:EdIs w v e)(ht:TabIs w vt t)(hf:IntS w A nf f):Calls Tryz.prog 90 #[.agg (endA e v),.agg (tabA t vt),.slice A nf cf,.int .i64 kind,.int .i64 count,.int .i64 slot] w (TriOwn (askE e t f kind count slot) (askN e t f kind count slot) (askC e t f kind count slot) w):=by
 have I:=Zh (Mem.start w)
 have cF:=fun W (hb:Below w.heap.size w W)=>rfull_any t e vt v W (ht.keep hb) (h.keep hb)
 unfold FullPost at cF
 have cC:∀vu W,TabIs W vu (fullN t e)→Below w.heap.size w W→Calls Tryz.prog 152 #[.agg (tabA (fullN t e) vu),.slice A nf cf,.int .i64 8] W fun r w'=>∃A m c,r= .returned (.slice A m c)∧(candN (fullN t e) f 8).length=m∧w'.ownsRow W.heap.size 97 2 (.slice A m c) m ((candN (fullN t e) f 8).flatMap sptE)∧Below W.heap.size W w':=fun vu W hu hb=>rcand_any (fullN t e) vu A nf cf 8 f W hu (hf.keep hb) (by decide)
 have cS:∀W,Below w.heap.size w W→v.cn≤100000→Calls Tryz.prog 153 #[.agg (endA e v)] W fun r w'=>∃A n c,r= .returned (.slice A n c)∧(sendsN e).length=n∧w'.ownsRow W.heap.size 97 2 (.slice A n c) n ((sendsN e).flatMap sptE)∧Below W.heap.size W w':=fun W hb hn=>rsends_any e v W (h.keep hb) hn
 have cL:=fun W (hb:Below w.heap.size w W) (hs:Small v)=>rcopied_any e v W (h.keep hb) hs
 unfold ClonePostE at cL
 have cMs:=fun m vm W (hm:MsgIs W vm m) (hs:vm.sn≤100000∧vm.on≤100000)=>rmessage_any m vm W hm hs
 unfold MsgPost at cMs
 have hsm:fullC t e=0→Small v:=fun J=>small_of h ((chkE_iff e).2 ((fullC_iff t e).1 J).ed)
 have hA:askC e t f kind count slot=if fullC t e≠0 then fullC t e
  else if kind<1∨6<kind∨slot<0∨1099511627776<slot∨countsN kind count=false then 2
  else if e.opn=true then 12
  else if(kind=1∨kind=3)∧((candN (fullN t e) f 8).length:Int)<count then 14
  else if(kind=2∨kind=3)∧((sendsN e).length:Int)<count then 14 else 0:=rfl
 have hPb:∀c w',askC e t f kind count slot=c→c≠0→Below w.heap.size w w'→TriOwn (askE e t f kind count slot) (askN e t f kind count slot) (askC e t f kind count slot) w (.returned (.tuple #[.agg (Kz 28),.agg (Kz 7),.int .i64 c])) w':=fun c w' e1 e2 hb=>triOwn_bad (askE_bad (by rw[e1];exact e2)).1 (askE_bad (by rw[e1];exact e2)).2 e1 hb
 have hPo:∀w' m ve vm,askC e t f kind count slot=0→askM e t f kind count=m→EdOwn w' ve (openE e m slot)→MsgSub w' vm m→Below w.heap.size w w'→TriOwn (askE e t f kind count slot) (askN e t f kind count slot) (askC e t f kind count slot) w (.returned (.tuple #[.agg (endA (openE e m slot) ve),.agg (msgA m vm),.int .i64 0])) w':=fun w' m ve vm e1 e2 hE hM hb=>by
  obtain⟨e3,e4⟩:=ask_ok e1
  rw[e1,e3,e4,e2]
  exact⟨ve,vm,rfl,hE,hM,hb⟩
 have hMd:askM e t f kind count=⟨kind,false,e.number,0,count,if kind=1∨kind=3 then candN (fullN t e) f 8 else [],if kind=2 then(sendsN e).drop ((sendsN e).length-count.toNat)else if kind=3 then(sendsN e).take count.toNat else []⟩:=rfl
 generalize TriOwn (askE e t f kind count slot) (askN e t f kind count slot) (askC e t f kind count slot) w=P at*
 generalize askC e t f kind count slot=AC at*
 generalize askM e t f kind count=AM at*
 generalize fullC t e=F at*
 have hcd:(candN (fullN t e) f 8).length≤8:=by unfold candN;split;exact List.length_take_le _ _;simp
 have hsl:(sendsN e).length≤e.cells.length:=by unfold sendsN;rw[List.length_map];exact List.length_filter_le _ _
 rw[h.cells.len]at hsl
 generalize fullN t e=FU at*
 generalize hCNe:candN FU f 8=CN at*
 replace hCNe:=Zh hCNe
 generalize hSNe:sendsN e=SN at*
 replace hSNe:=Zh hSNe
 have uE:=Tryz.underlying32
 have uT:=Tryz.underlying37
 have uM:=Tryz.underlying30
 refine zh12 ?_ cF cC cS cL cMs hsm hA hPb hPo hMd uE uT;clear cF cC cS cL cMs hsm hA hPb hPo hMd uE uT;intro cF cC cS cL cMs hsm hA hPb hPo hMd uE uT
 refine zh3 ?_ uM hcd hsl;clear uM hcd hsl;intro uM hcd hsl
 clear h ht hf
 go_enter Tryz.func90,Tryz.ntmps90
 go_upto_region 1 with(first|(refine bA I 32 ?_;clear I;intro ge w1 I hG;clear hG)|(refine bA I 37 ?_;clear I;intro gt w1 I hG;clear hG)|(refine wpList_allocA I rfl 32 rfl (by first|exact msgInfo|exact edInfo|exact tabInfo|exact info_tcl|exact info_spt) ?_;clear I;intro g12 w1 I hG;clear hG)|(refine wpList_allocA I rfl 30 rfl (by first|exact msgInfo|exact edInfo|exact tabInfo|exact info_tcl|exact info_spt) ?_;clear I;intro g13 w1 I hG;clear hG)|fail)
 go_upto_region 2 with(first
  |(refine lM 2 I uT.out ?_)
  |(refine lM 3 I uE.out ?_)
  |(go_at_call 151;refine(cF _ I.below).mono ?_;rintro r w3 ⟨vf,rfl,hTf,p_⟩;replace hTf:=Zh hTf;replace I:=Zm I p_;clear p_)
  |(refine aN I tabInfo ?_;clear I;intro g15 w1 I hG hN9)
  |(refine sF 0 I ?_;clear I;intro w4 I hG4;simp only[List.set]at I)
  |fail)
 replace hTf:=Zh (hTf.keep (hG.grown hG4.out hG.size (fun k e=>by cases e;exact hN9.out)))
 clear hG hG4 hN9 cF
 by_cases J:F=0
 case neg=>
  have hA1:=Zh (hA.trans (if_pos J))
  have d1:(F !=0)=true:=by rw[bne_iff_ne];exact J
  have hP2:=Zh (fun w'=>hPb.out F w' hA1.out J)
  go_wp2_with(first|go_skip|(refine sF 2 I ?_;clear I;intro w4 I hG4;simp only[List.set]at I)|(refine sF 1 I ?_;clear I;intro w4 I hG4;simp only[List.set]at I)|fail)
  try simp only[Exit.inBlock,Exit.then]
  refine rU I 2 1 uE.out uM.out ?_
  exact hP2.out _ I.below
 subst J
 replace hA:=Zh (hA.trans (if_neg (fun h=>h rfl)))
 have hsm2:=Zh (hsm rfl)
 clear hsm
 go_upto_region 4 with fail
 by_cases hr:kind<1∨6<kind∨slot<0∨1099511627776<slot
 case pos=>
  have hA1:=Zh (hA.trans (if_pos (by rcases hr with q|q|q|q;exact .inl q;exact .inr (.inl q);exact .inr (.inr (.inl q));exact .inr (.inr (.inr (.inl q))))))
  have hr2:kind<1∨(¬kind<1∧(6<kind∨(¬6<kind∧(slot<0∨(¬slot<0∧1099511627776<slot))))):=by omega
  clear hr
  rcases hr2 with g0|⟨g0,g1|⟨g1,g2|⟨g2,g3⟩⟩⟩
  all_goals
   go_wp2_with(first|go_skip|(refine sF 2 I ?_;clear I;intro w4 I hG4;simp only[List.set]at I)|(refine sF 1 I ?_;clear I;intro w4 I hG4;simp only[List.set]at I)|fail)
   all_goals
    try simp only[Exit.inBlock,Exit.then]
    refine rU I 2 1 uE.out uM.out ?_
    exact hPb.out 2 _ (hA1.out) (by decide) I.below
 obtain⟨g0,g1,g2,g3⟩:¬kind<1∧¬6<kind∧¬slot<0∧¬1099511627776<slot:=by omega
 go_upto_region 6 with fail
 replace hA:=Zh hA.out
 clear hr
 rcases(show kind=1∨kind=2∨kind=3∨3<kind by omega)with rfl|rfl|rfl|h5
 ·skip
  have hcn:countsN 1 count=(decide (1≤count)&&decide (count≤8)):=by unfold countsN;rw[if_pos (by decide)]
  rw[hcn]at hA
  clear hcn
  by_cases hc1:count<1
  case pos=>
   have hA1:=Zh (hA.trans (if_pos (.inr (.inr (.inr (.inr (by rw[decide_eq_false (by omega)];rfl)))))))
   go_wp2_with(first|go_skip|(refine sF 2 I ?_;clear I;intro w4 I hG4;simp only[List.set]at I)|(refine sF 1 I ?_;clear I;intro w4 I hG4;simp only[List.set]at I)|fail)
   all_goals
    try simp only[Exit.inBlock,Exit.then]
    refine rU I 2 1 uE.out uM.out ?_
    exact hPb.out 2 _ (hA1.out) (by decide) I.below
  by_cases hc8:8<count
  case pos=>
   have hA1:=Zh (hA.trans (if_pos (.inr (.inr (.inr (.inr (by rw[decide_eq_false (show¬count≤8 by omega),Bool.and_false])))))))
   go_wp2_with(first|go_skip|(refine sF 2 I ?_;clear I;intro w4 I hG4;simp only[List.set]at I)|(refine sF 1 I ?_;clear I;intro w4 I hG4;simp only[List.set]at I)|fail)
   all_goals
    try simp only[Exit.inBlock,Exit.then]
    refine rU I 2 1 uE.out uM.out ?_
    exact hPb.out 2 _ (hA1.out) (by decide) I.below
  replace hA:=Zh (hA.trans (if_neg (by
   rintro(h|h|h|h|h)
   ·exact absurd h (by decide)
   ·exact absurd h (by decide)
   ·exact g2 h
   ·exact g3 h
   ·rw[decide_eq_true (by omega),decide_eq_true (by omega)]at h;cases h)))
  go_upto_region 8 with(first|go_skip|fail)
  have p4:=Zc I 4 4 (.bool e.opn)
  cases ho:e.opn
  case true=>
   rw[ho]at p4
   have hA1:=Zh (hA.trans (if_pos ho))
   go_wp2_with(first|go_skip|(refine sF 2 I ?_;clear I;intro w4 I hG4;simp only[List.set]at I)|(refine sF 1 I ?_;clear I;intro w4 I hG4;simp only[List.set]at I)|fail)
   all_goals
    try simp only[Exit.inBlock,Exit.then]
    refine rU I 2 1 uE.out uM.out ?_
    exact hPb.out 12 _ (hA1.out) (by decide) I.below
  rw[ho]at p4
  replace hA:=Zh (hA.trans (if_neg (by rw[ho];decide)))
  have p2:=Zc I 4 2 (.int .i64 e.number)
  go_upto_region 11 with(first
   |(refine aN I msgInfo ?_;clear I p4 p2;intro g17 w1 I hG hN9)
   |(refine sF 0 I ?_;clear I;intro w4 I hG4;simp only[List.set]at I)
   |fail)
  replace hTf:=Zh (hTf.keep (hG.grown hG4.out hG.size (fun k e=>by cases e;exact hN9.out)))
  clear hG hG4 hN9
  change Hid (Mem _ _ ((_,msgA ⟨1,false,e.number,0,count,[],[]⟩ msgV0,_):: _))at I
  go_upto_region 13 with(first
   |go_skip
   |(refine lM 1 I uT.out ?_)
   |(go_at_call 152;refine(cC vf _ hTf.out I.below).mono ?_;rintro r w5 ⟨Ac,nc,cc,rfl,hcl,hOc,p_⟩;replace hcl:=Zh hcl;replace I:=Zm I p_;clear p_ hTf)
   |(refine sM 0 I 5 (msgA ⟨1,false,e.number,0,count,CN,[]⟩ ⟨Ac,nc,cc,none,0,0⟩) ?_;have hBq:=I.at_ 0 rfl;clear I;intro w4 I hG4;simp only[List.set]at I;have hOd:=Zh (SubS.of_own (hOc.kept hG4.out (.inr (row_ne_blk hOc hBq (by decide)))));clear hBq hG4)
   |fail)
  have hcc:=own_cap hOc
  clear hOc
  have hc8c:nc≤8:=by have:=hcd.out;have:=hcl.out;omega
  have p5:=Zc I 0 5 (.slice Ac nc cc)
  by_cases hlc:(nc:Int)<count
  case pos=>
   have hA1:=Zh (hA.trans (if_pos ⟨by decide,by rw[hcl.out];exact hlc⟩))
   go_wp2_with(first|go_skip|(refine sF 3 I ?_;clear I;intro w4 I hG4;simp only[List.set]at I)|(refine sF 2 I ?_;clear I;intro w4 I hG4;simp only[List.set]at I)|fail)
   all_goals
    try simp only[Exit.inBlock,Exit.then]
    refine rU I 3 2 uE.out uM.out ?_
    exact hPb.out 14 _ (hA1.out) (by decide) I.below
  replace hA:=Zh (hA.trans (if_neg (fun h=>hlc (by rw[←hcl.out];exact h.2))))
  go_upto_region 15 with fail
  clear p5
  go_upto_region 16 with(first
   |(refine lM 5 I uE.out ?_)
   |(go_at_call 153;refine(cS _ I.below hsm2.c).mono ?_;rintro r w5 ⟨As,ns,cs,rfl,hsn,hOs,p_⟩;replace hsn:=Zh hsn;replace I:=Zm I p_;replace hOd:=Zh (hOd.keep p_);clear p_)
   |fail)
  clear hOs
  replace hA:=Zh (hA.trans (if_neg (by rintro⟨h|h,_⟩<;>first|exact absurd h (by decide)|omega)))
  go_upto_region 22 with(first|go_skip|fail)
  have hMs:Hid (MsgSub _ ⟨Ac,nc,cc,none,0,0⟩ ⟨1,false,e.number,0,count,CN,[]⟩):=⟨hOd.out,SubS.nil _,hcc,Nat.le_refl _⟩
  have hAM:Hid (AM=(⟨1,false,e.number,0,count,CN,[]⟩:Msg)):=by show _= _;rw[hMd.out];simp[hsn.out]
  have hA0:=Zh hA.out
  clear hA hPb hsl hcd hMd
  obtain⟨F0,q_,J,gM⟩:∃F:World→Prop,Stb F∧Hid (F _)∧Hid (∀W,F W→MsgSub W ⟨Ac,nc,cc,none,0,0⟩ ⟨1,false,e.number,0,count,CN,[]⟩):=⟨_,Stb.sub _ _,hMs,fun _ h=>h⟩
  clear hMs
  have mk1:Unit:=()
  have mk2:Unit:=()
  go_upto_region 23 with(first|go_skip|(refine lM 5 I uE.out ?_)|(go_at_call 154;clear mk1;refine(cL _ I.below hsm2.out).mono ?_;rintro r w3 ⟨v1,rfl,hE,p_⟩;replace I:=Zm I p_;replace J:=q_.z J p_;clear p_;refine sA q_ J (Stb.ed v1 _) hE ?_;clear q_ J hE;intro F2 q_ J hU gE;replace gM:=Zu gM hU;clear hU)|(clear mk2;refine q_.a I J edInfo ?_;clear I J;intro g19 w1 I J)|(refine q_.s 0 I J ?_;clear I J;intro w4 I J;simp only[List.set]at I)|fail)
  have mk3:Unit:=()
  go_upto_region 24 with(first|go_skip|(refine lM 1 I uM.out ?_)|(go_at_call 155;clear mk3;refine(cMs _ _ _ (gM _ J).is ⟨by dsimp only;omega,by dsimp only;omega⟩).mono ?_;rintro r w3 ⟨va,rfl,hA5,p_⟩;replace I:=Zm I p_;replace J:=q_.z J p_;clear p_;refine sA q_ J (Stb.msg va _) hA5 ?_;clear q_ J hA5;intro F3 q_ J hU gA;replace gM:=Zu gM hU;replace gE:=Zu gE hU;clear hU)|(refine q_.m 0 I J 4 (endA { e with opn:=true} v1) ?_;clear I J;intro w4 I J;simp only[List.set]at I)|(refine q_.m 0 I J 5 (endA { e with opn:=true,since:=slot} v1) ?_;clear I J;intro w4 I J;simp only[List.set]at I)|(refine q_.m 0 I J 6 (endA (openE e ⟨1,false,e.number,0,count,CN,[]⟩ slot) { v1 with a:=va}) ?_;clear I J;intro w4 I J;simp only[List.set]at I)|fail)
  replace J:=Zh (q_.keep J ((Below.refl _ _).drew))
  replace I:=Zh (I.keep ((Below.refl _ _).drew))
  have HMs:=Zh I.out
  refine wp_region_plan (fun w'=>Mem _ w' _) 3 [(0,true),(1,true),(2,false)] (by kernel_rfl) (by kernel_rfl) HMs.out ?_
  generalize World.drew _=wd at*
  refine plTakeL (by rfl) (yw 0 uE.out) ?_
  try go_frame
  refine plTakeL (by rfl) (yw 1 uM.out) ?_
  try go_frame
  refine plStepL rfl rfl fun K hK=> ?_
  go_wp2_with(first|(go_at_call 155;refine(cMs _ _ _ (gM _ J).is ⟨by dsimp only;omega,by dsimp only;omega⟩).mono ?_;rintro r w3 ⟨vb,rfl,hA5,p_⟩)|fail)
  refine hK _ _ (HMs.keep p_) fun hS_=> ?_
  clear hK K hS_
  try go_frame
  replace I:=Zm I p_
  replace J:=q_.z J p_
  clear p_ HMs
  obtain⟨F5,hFs2,hF2,hU,hNw⟩:=stb_add q_ J (Stb.msg vb _) hA5
  clear q_ J
  replace gM:=Zu gM hU
  replace gE:=Zu gE hU
  replace gA:=Zu gA hU
  have gB:=Zh hNw
  clear hNw hU
  have q_:=hFs2
  have J:=hF2
  clear hFs2 hF2 hA5
  refine plDone ?_
  simp only[List.drop]
  go_wp2_with(first|go_skip|(refine q_.s 4 I J ?_;clear I J;intro w4 I J;simp only[List.set]at I)|(refine q_.s 3 I J ?_;clear I J;intro w4 I J;simp only[List.set]at I)|fail)
  try simp only[Exit.inBlock,Exit.then]
  refine rU I 4 3 uE.out uM.out ?_
  exact hPo.out _ _ _ _ hA0.out hAM.out ⟨(gE _ J).cells,(gE _ J).lc,gA.out _ J,(gE _ J).last,(gE _ J).reply⟩ (gB _ J).sub I.below
 ·skip
  have hcn:countsN 2 count=(decide (1≤count)&&decide (count≤8)):=by unfold countsN;rw[if_pos (by decide)]
  rw[hcn]at hA
  clear hcn
  by_cases hc1:count<1
  case pos=>
   have hA1:=Zh (hA.trans (if_pos (.inr (.inr (.inr (.inr (by rw[decide_eq_false (by omega)];rfl)))))))
   go_wp2_with(first|go_skip|(refine sF 2 I ?_;clear I;intro w4 I hG4;simp only[List.set]at I)|(refine sF 1 I ?_;clear I;intro w4 I hG4;simp only[List.set]at I)|fail)
   all_goals
    try simp only[Exit.inBlock,Exit.then]
    refine rU I 2 1 uE.out uM.out ?_
    exact hPb.out 2 _ (hA1.out) (by decide) I.below
  by_cases hc8:8<count
  case pos=>
   have hA1:=Zh (hA.trans (if_pos (.inr (.inr (.inr (.inr (by rw[decide_eq_false (show¬count≤8 by omega),Bool.and_false])))))))
   go_wp2_with(first|go_skip|(refine sF 2 I ?_;clear I;intro w4 I hG4;simp only[List.set]at I)|(refine sF 1 I ?_;clear I;intro w4 I hG4;simp only[List.set]at I)|fail)
   all_goals
    try simp only[Exit.inBlock,Exit.then]
    refine rU I 2 1 uE.out uM.out ?_
    exact hPb.out 2 _ (hA1.out) (by decide) I.below
  replace hA:=Zh (hA.trans (if_neg (by
   rintro(h|h|h|h|h)
   ·exact absurd h (by decide)
   ·exact absurd h (by decide)
   ·exact g2 h
   ·exact g3 h
   ·rw[decide_eq_true (by omega),decide_eq_true (by omega)]at h;cases h)))
  go_upto_region 8 with(first|go_skip|fail)
  have p4:=Zc I 4 4 (.bool e.opn)
  cases ho:e.opn
  case true=>
   rw[ho]at p4
   have hA1:=Zh (hA.trans (if_pos ho))
   go_wp2_with(first|go_skip|(refine sF 2 I ?_;clear I;intro w4 I hG4;simp only[List.set]at I)|(refine sF 1 I ?_;clear I;intro w4 I hG4;simp only[List.set]at I)|fail)
   all_goals
    try simp only[Exit.inBlock,Exit.then]
    refine rU I 2 1 uE.out uM.out ?_
    exact hPb.out 12 _ (hA1.out) (by decide) I.below
  rw[ho]at p4
  replace hA:=Zh (hA.trans (if_neg (by rw[ho];decide)))
  have p2:=Zc I 4 2 (.int .i64 e.number)
  go_upto_region 11 with(first
   |(refine aN I msgInfo ?_;clear I p4 p2;intro g17 w1 I hG hN9)
   |(refine sF 0 I ?_;clear I;intro w4 I hG4;simp only[List.set]at I)
   |fail)
  replace hTf:=Zh (hTf.keep (hG.grown hG4.out hG.size (fun k e=>by cases e;exact hN9.out)))
  clear hG hG4 hN9
  change Hid (Mem _ _ ((_,msgA ⟨2,false,e.number,0,count,[],[]⟩ msgV0,_):: _))at I
  replace hA:=Zh (hA.trans (if_neg (by rintro⟨h|h,_⟩<;>first|exact absurd h (by decide)|omega)))
  clear hTf
  go_upto_region 15 with(first|go_skip|fail)
  go_upto_region 16 with(first
   |(refine lM 5 I uE.out ?_)
   |(go_at_call 153;refine(cS _ I.below hsm2.c).mono ?_;rintro r w5 ⟨As,ns,cs,rfl,hsn,hOs,p_⟩;replace hsn:=Zh hsn;replace I:=Zm I p_;clear p_)
   |fail)
  have hsc:=own_cap hOs
  by_cases hlt:(ns:Int)<count
  case pos=>
   have hA1:=Zh (hA.trans (if_pos ⟨by decide,by rw[hsn.out];exact hlt⟩))
   go_wp2_with(first|go_skip|(refine sF 3 I ?_;clear I;intro w4 I hG4;simp only[List.set]at I)|(refine sF 2 I ?_;clear I;intro w4 I hG4;simp only[List.set]at I)|fail)
   all_goals
    try simp only[Exit.inBlock,Exit.then]
    refine rU I 3 2 uE.out uM.out ?_
    exact hPb.out 14 _ (hA1.out) (by decide) I.below
  replace hA:=Zh (hA.trans (if_neg (fun h=>hlt (by rw[←hsn.out];exact h.2))))
  obtain⟨q,rfl⟩:∃q:Nat,count=q:=⟨count.toNat,by omega⟩
  have hqs:q≤ns:=by omega
  have hqc:q≤cs:=by omega
  obtain⟨gs,rfl⟩:=own_addr hOs (by omega)
  have hSd:=Zh (SubS.of_own hOs)
  clear hOs
  have hns:ns≤100000:=by have:=hsl.out;have:=hsn.out;have:=hsm2.c;omega
  go_upto_region 20 with(first|go_skip|(refine sM 0 I 6 (msgA ⟨2,false,e.number,0,(q:Int),[],SN.take q⟩ ⟨none,0,0,some ⟨gs,0,none⟩,q,cs⟩) ?_;have hBq:=I.at_ 0 rfl;clear I;intro w4 I hG4;simp only[List.set]at I;replace hSd:=Zh (hSd.put hBq (by decide) hG4.out);clear hBq hG4)|fail)
  have hwq:IntKind.i64.wrap ((ns:Int)-(q:Int))=((ns-q:Nat):Int):=by rw[IntWalk.i64_in _ (by omega)];omega
  have hnq:ns-q≤ns:=Nat.sub_le _ _
  have hnq2:ns-(ns-q)=q:=by omega
  go_upto_region 22 with(first|go_skip|(refine sM 0 I 6 (msgA ⟨2,false,e.number,0,(q:Int),[],SN.drop (ns-q)⟩ ⟨none,0,0,some ⟨gs,(ns-q)*2,none⟩,q,cs-(ns-q)⟩) ?_;have hBq:=I.at_ 0 rfl;clear I;intro w4 I hG4;simp only[List.set]at I;replace hSd:=Zh (hSd.put hBq (by decide) hG4.out);clear hBq hG4)|fail)
  have hSt:=hSd.drop hnq
  rw[Nat.zero_add,hnq2]at hSt
  replace hSt:=Zh hSt
  have hcq:q≤cs-(ns-q):=by omega
  clear hSd hwq
  have hMs:Hid (MsgSub _ ⟨none,0,0,some ⟨gs,(ns-q)*2,none⟩,q,cs-(ns-q)⟩ ⟨2,false,e.number,0,(q:Int),[],SN.drop (ns-q)⟩):=⟨SubS.nil _,hSt.out,Nat.le_refl _,hcq⟩
  have hAM:Hid (AM=(⟨2,false,e.number,0,(q:Int),[],SN.drop (ns-q)⟩:Msg)):=by show _= _;rw[hMd.out];simp[hsn.out]
  have hA0:=Zh hA.out
  clear hA hPb hsl hcd hMd
  obtain⟨F0,q_,J,gM⟩:∃F:World→Prop,Stb F∧Hid (F _)∧Hid (∀W,F W→MsgSub W ⟨none,0,0,some ⟨gs,(ns-q)*2,none⟩,q,cs-(ns-q)⟩ ⟨2,false,e.number,0,(q:Int),[],SN.drop (ns-q)⟩):=⟨_,Stb.sub _ _,hMs,fun _ h=>h⟩
  clear hMs
  have mk1:Unit:=()
  have mk2:Unit:=()
  go_upto_region 23 with(first|go_skip|(refine lM 5 I uE.out ?_)|(go_at_call 154;clear mk1;refine(cL _ I.below hsm2.out).mono ?_;rintro r w3 ⟨v1,rfl,hE,p_⟩;replace I:=Zm I p_;replace J:=q_.z J p_;clear p_;refine sA q_ J (Stb.ed v1 _) hE ?_;clear q_ J hE;intro F2 q_ J hU gE;replace gM:=Zu gM hU;clear hU)|(clear mk2;refine q_.a I J edInfo ?_;clear I J;intro g19 w1 I J)|(refine q_.s 0 I J ?_;clear I J;intro w4 I J;simp only[List.set]at I)|fail)
  have mk3:Unit:=()
  go_upto_region 24 with(first|go_skip|(refine lM 1 I uM.out ?_)|(go_at_call 155;clear mk3;refine(cMs _ _ _ (gM _ J).is ⟨by dsimp only;omega,by dsimp only;omega⟩).mono ?_;rintro r w3 ⟨va,rfl,hA5,p_⟩;replace I:=Zm I p_;replace J:=q_.z J p_;clear p_;refine sA q_ J (Stb.msg va _) hA5 ?_;clear q_ J hA5;intro F3 q_ J hU gA;replace gM:=Zu gM hU;replace gE:=Zu gE hU;clear hU)|(refine q_.m 0 I J 4 (endA { e with opn:=true} v1) ?_;clear I J;intro w4 I J;simp only[List.set]at I)|(refine q_.m 0 I J 5 (endA { e with opn:=true,since:=slot} v1) ?_;clear I J;intro w4 I J;simp only[List.set]at I)|(refine q_.m 0 I J 6 (endA (openE e ⟨2,false,e.number,0,(q:Int),[],SN.drop (ns-q)⟩ slot) { v1 with a:=va}) ?_;clear I J;intro w4 I J;simp only[List.set]at I)|fail)
  replace J:=Zh (q_.keep J ((Below.refl _ _).drew))
  replace I:=Zh (I.keep ((Below.refl _ _).drew))
  have HMs:=Zh I.out
  refine wp_region_plan (fun w'=>Mem _ w' _) 3 [(0,true),(1,true),(2,false)] (by kernel_rfl) (by kernel_rfl) HMs.out ?_
  generalize World.drew _=wd at*
  refine plTakeL (by rfl) (yw 0 uE.out) ?_
  try go_frame
  refine plTakeL (by rfl) (yw 1 uM.out) ?_
  try go_frame
  refine plStepL rfl rfl fun K hK=> ?_
  go_wp2_with(first|(go_at_call 155;refine(cMs _ _ _ (gM _ J).is ⟨by dsimp only;omega,by dsimp only;omega⟩).mono ?_;rintro r w3 ⟨vb,rfl,hA5,p_⟩)|fail)
  refine hK _ _ (HMs.keep p_) fun hS_=> ?_
  clear hK K hS_
  try go_frame
  replace I:=Zm I p_
  replace J:=q_.z J p_
  clear p_ HMs
  obtain⟨F5,hFs2,hF2,hU,hNw⟩:=stb_add q_ J (Stb.msg vb _) hA5
  clear q_ J
  replace gM:=Zu gM hU
  replace gE:=Zu gE hU
  replace gA:=Zu gA hU
  have gB:=Zh hNw
  clear hNw hU
  have q_:=hFs2
  have J:=hF2
  clear hFs2 hF2 hA5
  refine plDone ?_
  simp only[List.drop]
  go_wp2_with(first|go_skip|(refine q_.s 4 I J ?_;clear I J;intro w4 I J;simp only[List.set]at I)|(refine q_.s 3 I J ?_;clear I J;intro w4 I J;simp only[List.set]at I)|fail)
  try simp only[Exit.inBlock,Exit.then]
  refine rU I 4 3 uE.out uM.out ?_
  exact hPo.out _ _ _ _ hA0.out hAM.out ⟨(gE _ J).cells,(gE _ J).lc,gA.out _ J,(gE _ J).last,(gE _ J).reply⟩ (gB _ J).sub I.below
 ·skip
  have hcn:countsN 3 count=(decide (1≤count)&&decide (count≤8)):=by unfold countsN;rw[if_pos (by decide)]
  rw[hcn]at hA
  clear hcn
  by_cases hc1:count<1
  case pos=>
   have hA1:=Zh (hA.trans (if_pos (.inr (.inr (.inr (.inr (by rw[decide_eq_false (by omega)];rfl)))))))
   go_wp2_with(first|go_skip|(refine sF 2 I ?_;clear I;intro w4 I hG4;simp only[List.set]at I)|(refine sF 1 I ?_;clear I;intro w4 I hG4;simp only[List.set]at I)|fail)
   all_goals
    try simp only[Exit.inBlock,Exit.then]
    refine rU I 2 1 uE.out uM.out ?_
    exact hPb.out 2 _ (hA1.out) (by decide) I.below
  by_cases hc8:8<count
  case pos=>
   have hA1:=Zh (hA.trans (if_pos (.inr (.inr (.inr (.inr (by rw[decide_eq_false (show¬count≤8 by omega),Bool.and_false])))))))
   go_wp2_with(first|go_skip|(refine sF 2 I ?_;clear I;intro w4 I hG4;simp only[List.set]at I)|(refine sF 1 I ?_;clear I;intro w4 I hG4;simp only[List.set]at I)|fail)
   all_goals
    try simp only[Exit.inBlock,Exit.then]
    refine rU I 2 1 uE.out uM.out ?_
    exact hPb.out 2 _ (hA1.out) (by decide) I.below
  replace hA:=Zh (hA.trans (if_neg (by
   rintro(h|h|h|h|h)
   ·exact absurd h (by decide)
   ·exact absurd h (by decide)
   ·exact g2 h
   ·exact g3 h
   ·rw[decide_eq_true (by omega),decide_eq_true (by omega)]at h;cases h)))
  go_upto_region 8 with(first|go_skip|fail)
  have p4:=Zc I 4 4 (.bool e.opn)
  cases ho:e.opn
  case true=>
   rw[ho]at p4
   have hA1:=Zh (hA.trans (if_pos ho))
   go_wp2_with(first|go_skip|(refine sF 2 I ?_;clear I;intro w4 I hG4;simp only[List.set]at I)|(refine sF 1 I ?_;clear I;intro w4 I hG4;simp only[List.set]at I)|fail)
   all_goals
    try simp only[Exit.inBlock,Exit.then]
    refine rU I 2 1 uE.out uM.out ?_
    exact hPb.out 12 _ (hA1.out) (by decide) I.below
  rw[ho]at p4
  replace hA:=Zh (hA.trans (if_neg (by rw[ho];decide)))
  have p2:=Zc I 4 2 (.int .i64 e.number)
  go_upto_region 11 with(first
   |(refine aN I msgInfo ?_;clear I p4 p2;intro g17 w1 I hG hN9)
   |(refine sF 0 I ?_;clear I;intro w4 I hG4;simp only[List.set]at I)
   |fail)
  replace hTf:=Zh (hTf.keep (hG.grown hG4.out hG.size (fun k e=>by cases e;exact hN9.out)))
  clear hG hG4 hN9
  change Hid (Mem _ _ ((_,msgA ⟨3,false,e.number,0,count,[],[]⟩ msgV0,_):: _))at I
  go_upto_region 13 with(first
   |go_skip
   |(refine lM 1 I uT.out ?_)
   |(go_at_call 152;refine(cC vf _ hTf.out I.below).mono ?_;rintro r w5 ⟨Ac,nc,cc,rfl,hcl,hOc,p_⟩;replace hcl:=Zh hcl;replace I:=Zm I p_;clear p_ hTf)
   |(refine sM 0 I 5 (msgA ⟨3,false,e.number,0,count,CN,[]⟩ ⟨Ac,nc,cc,none,0,0⟩) ?_;have hBq:=I.at_ 0 rfl;clear I;intro w4 I hG4;simp only[List.set]at I;have hOd:=Zh (SubS.of_own (hOc.kept hG4.out (.inr (row_ne_blk hOc hBq (by decide)))));clear hBq hG4)
   |fail)
  have hcc:=own_cap hOc
  clear hOc
  have hc8c:nc≤8:=by have:=hcd.out;have:=hcl.out;omega
  have p5:=Zc I 0 5 (.slice Ac nc cc)
  by_cases hlc:(nc:Int)<count
  case pos=>
   have hA1:=Zh (hA.trans (if_pos ⟨by decide,by rw[hcl.out];exact hlc⟩))
   go_wp2_with(first|go_skip|(refine sF 3 I ?_;clear I;intro w4 I hG4;simp only[List.set]at I)|(refine sF 2 I ?_;clear I;intro w4 I hG4;simp only[List.set]at I)|fail)
   all_goals
    try simp only[Exit.inBlock,Exit.then]
    refine rU I 3 2 uE.out uM.out ?_
    exact hPb.out 14 _ (hA1.out) (by decide) I.below
  replace hA:=Zh (hA.trans (if_neg (fun h=>hlc (by rw[←hcl.out];exact h.2))))
  go_upto_region 15 with fail
  clear p5
  go_upto_region 16 with(first
   |(refine lM 5 I uE.out ?_)
   |(go_at_call 153;refine(cS _ I.below hsm2.c).mono ?_;rintro r w5 ⟨As,ns,cs,rfl,hsn,hOs,p_⟩;replace hsn:=Zh hsn;replace I:=Zm I p_;replace hOd:=Zh (hOd.keep p_);clear p_)
   |fail)
  have hsc:=own_cap hOs
  by_cases hlt:(ns:Int)<count
  case pos=>
   have hA1:=Zh (hA.trans (if_pos ⟨by decide,by rw[hsn.out];exact hlt⟩))
   go_wp2_with(first|go_skip|(refine sF 3 I ?_;clear I;intro w4 I hG4;simp only[List.set]at I)|(refine sF 2 I ?_;clear I;intro w4 I hG4;simp only[List.set]at I)|fail)
   all_goals
    try simp only[Exit.inBlock,Exit.then]
    refine rU I 3 2 uE.out uM.out ?_
    exact hPb.out 14 _ (hA1.out) (by decide) I.below
  replace hA:=Zh (hA.trans (if_neg (fun h=>hlt (by rw[←hsn.out];exact h.2))))
  obtain⟨q,rfl⟩:∃q:Nat,count=q:=⟨count.toNat,by omega⟩
  have hqs:q≤ns:=by omega
  have hqc:q≤cs:=by omega
  obtain⟨gs,rfl⟩:=own_addr hOs (by omega)
  have hSd:=Zh (SubS.of_own hOs)
  clear hOs
  have hns:ns≤100000:=by have:=hsl.out;have:=hsn.out;have:=hsm2.c;omega
  go_upto_region 20 with(first|go_skip|(refine sM 0 I 6 (msgA ⟨3,false,e.number,0,(q:Int),CN,SN.take q⟩ ⟨Ac,nc,cc,some ⟨gs,0,none⟩,q,cs⟩) ?_;have hBq:=I.at_ 0 rfl;clear I;intro w4 I hG4;simp only[List.set]at I;replace hSd:=Zh (hSd.put hBq (by decide) hG4.out);replace hOd:=Zh (hOd.put hBq (by decide) hG4.out);clear hBq hG4)|fail)
  go_upto_region 22 with(first|go_skip|fail)
  have hSt:=Zh (hSd.take hqs)
  clear hSd
  have hMs:Hid (MsgSub _ ⟨Ac,nc,cc,some ⟨gs,0,none⟩,q,cs⟩ ⟨3,false,e.number,0,(q:Int),CN,SN.take q⟩):=⟨hOd.out,hSt.out,hcc,hqc⟩
  have hAM:Hid (AM=(⟨3,false,e.number,0,(q:Int),CN,SN.take q⟩:Msg)):=by show _= _;rw[hMd.out];simp[hsn.out]
  have hA0:=Zh hA.out
  clear hA hPb hsl hcd hMd
  obtain⟨F0,q_,J,gM⟩:∃F:World→Prop,Stb F∧Hid (F _)∧Hid (∀W,F W→MsgSub W ⟨Ac,nc,cc,some ⟨gs,0,none⟩,q,cs⟩ ⟨3,false,e.number,0,(q:Int),CN,SN.take q⟩):=⟨_,Stb.sub _ _,hMs,fun _ h=>h⟩
  clear hMs
  have mk1:Unit:=()
  have mk2:Unit:=()
  go_upto_region 23 with(first|go_skip|(refine lM 5 I uE.out ?_)|(go_at_call 154;clear mk1;refine(cL _ I.below hsm2.out).mono ?_;rintro r w3 ⟨v1,rfl,hE,p_⟩;replace I:=Zm I p_;replace J:=q_.z J p_;clear p_;refine sA q_ J (Stb.ed v1 _) hE ?_;clear q_ J hE;intro F2 q_ J hU gE;replace gM:=Zu gM hU;clear hU)|(clear mk2;refine q_.a I J edInfo ?_;clear I J;intro g19 w1 I J)|(refine q_.s 0 I J ?_;clear I J;intro w4 I J;simp only[List.set]at I)|fail)
  have mk3:Unit:=()
  go_upto_region 24 with(first|go_skip|(refine lM 1 I uM.out ?_)|(go_at_call 155;clear mk3;refine(cMs _ _ _ (gM _ J).is ⟨by dsimp only;omega,by dsimp only;omega⟩).mono ?_;rintro r w3 ⟨va,rfl,hA5,p_⟩;replace I:=Zm I p_;replace J:=q_.z J p_;clear p_;refine sA q_ J (Stb.msg va _) hA5 ?_;clear q_ J hA5;intro F3 q_ J hU gA;replace gM:=Zu gM hU;replace gE:=Zu gE hU;clear hU)|(refine q_.m 0 I J 4 (endA { e with opn:=true} v1) ?_;clear I J;intro w4 I J;simp only[List.set]at I)|(refine q_.m 0 I J 5 (endA { e with opn:=true,since:=slot} v1) ?_;clear I J;intro w4 I J;simp only[List.set]at I)|(refine q_.m 0 I J 6 (endA (openE e ⟨3,false,e.number,0,(q:Int),CN,SN.take q⟩ slot) { v1 with a:=va}) ?_;clear I J;intro w4 I J;simp only[List.set]at I)|fail)
  replace J:=Zh (q_.keep J ((Below.refl _ _).drew))
  replace I:=Zh (I.keep ((Below.refl _ _).drew))
  have HMs:=Zh I.out
  refine wp_region_plan (fun w'=>Mem _ w' _) 3 [(0,true),(1,true),(2,false)] (by kernel_rfl) (by kernel_rfl) HMs.out ?_
  generalize World.drew _=wd at*
  refine plTakeL (by rfl) (yw 0 uE.out) ?_
  try go_frame
  refine plTakeL (by rfl) (yw 1 uM.out) ?_
  try go_frame
  refine plStepL rfl rfl fun K hK=> ?_
  go_wp2_with(first|(go_at_call 155;refine(cMs _ _ _ (gM _ J).is ⟨by dsimp only;omega,by dsimp only;omega⟩).mono ?_;rintro r w3 ⟨vb,rfl,hA5,p_⟩)|fail)
  refine hK _ _ (HMs.keep p_) fun hS_=> ?_
  clear hK K hS_
  try go_frame
  replace I:=Zm I p_
  replace J:=q_.z J p_
  clear p_ HMs
  obtain⟨F5,hFs2,hF2,hU,hNw⟩:=stb_add q_ J (Stb.msg vb _) hA5
  clear q_ J
  replace gM:=Zu gM hU
  replace gE:=Zu gE hU
  replace gA:=Zu gA hU
  have gB:=Zh hNw
  clear hNw hU
  have q_:=hFs2
  have J:=hF2
  clear hFs2 hF2 hA5
  refine plDone ?_
  simp only[List.drop]
  go_wp2_with(first|go_skip|(refine q_.s 4 I J ?_;clear I J;intro w4 I J;simp only[List.set]at I)|(refine q_.s 3 I J ?_;clear I J;intro w4 I J;simp only[List.set]at I)|fail)
  try simp only[Exit.inBlock,Exit.then]
  refine rU I 4 3 uE.out uM.out ?_
  exact hPo.out _ _ _ _ hA0.out hAM.out ⟨(gE _ J).cells,(gE _ J).lc,gA.out _ J,(gE _ J).last,(gE _ J).reply⟩ (gB _ J).sub I.below
 ·skip
  have hcn:countsN kind count=decide (count=0):=by unfold countsN;rw[if_neg (by omega)]
  rw[hcn]at hA
  clear hcn
  by_cases hc0:count=0
  case neg=>
   have hA1:=Zh (hA.trans (if_pos (.inr (.inr (.inr (.inr (decide_eq_false hc0)))))))
   have d1:(count !=0)=true:=by rw[bne_iff_ne];exact hc0
   have d2:decide (kind≤3)=false:=decide_eq_false (by omega)
   go_wp2_with(first|go_skip|(refine sF 2 I ?_;clear I;intro w4 I hG4;simp only[List.set]at I)|(refine sF 1 I ?_;clear I;intro w4 I hG4;simp only[List.set]at I)|fail)
   all_goals
    try simp only[Exit.inBlock,Exit.then]
    refine rU I 2 1 uE.out uM.out ?_
    exact hPb.out 2 _ (hA1.out) (by decide) I.below
  subst hc0
  replace hA:=Zh (hA.trans (if_neg (by rintro(h|h|h|h|h)<;>first|exact absurd h (by assumption)|exact absurd h (by decide))))
  have d2:decide (kind≤3)=false:=decide_eq_false (by omega)
  have e1:(kind==1)=false:=by rw[beq_eq_false_iff_ne];omega
  have e2:(kind==2)=false:=by rw[beq_eq_false_iff_ne];omega
  have e3:(kind==3)=false:=by rw[beq_eq_false_iff_ne];omega
  go_upto_region 8 with(first|go_skip|fail)
  have p4:=Zc I 4 4 (.bool e.opn)
  cases ho:e.opn
  case true=>
   rw[ho]at p4
   have hA1:=Zh (hA.trans (if_pos ho))
   go_wp2_with(first|go_skip|(refine sF 2 I ?_;clear I;intro w4 I hG4;simp only[List.set]at I)|(refine sF 1 I ?_;clear I;intro w4 I hG4;simp only[List.set]at I)|fail)
   all_goals
    try simp only[Exit.inBlock,Exit.then]
    refine rU I 2 1 uE.out uM.out ?_
    exact hPb.out 12 _ (hA1.out) (by decide) I.below
  rw[ho]at p4
  replace hA:=Zh (hA.trans (if_neg (by rw[ho];decide)))
  have p2:=Zc I 4 2 (.int .i64 e.number)
  go_upto_region 11 with(first
   |(refine aN I msgInfo ?_;clear I p4 p2;intro g17 w1 I hG hN9)
   |(refine sF 0 I ?_;clear I;intro w4 I hG4;simp only[List.set]at I)
   |fail)
  replace hTf:=Zh (hTf.keep (hG.grown hG4.out hG.size (fun k e=>by cases e;exact hN9.out)))
  clear hG hG4 hN9
  change Hid (Mem _ _ ((_,msgA ⟨kind,false,e.number,0,0,[],[]⟩ msgV0,_):: _))at I
  replace hA:=Zh (hA.trans (if_neg (by rintro⟨h|h,_⟩<;>first|exact absurd h (by decide)|omega)))
  clear hTf
  go_upto_region 15 with(first|go_skip|fail)
  go_upto_region 16 with(first
   |(refine lM 5 I uE.out ?_)
   |(go_at_call 153;refine(cS _ I.below hsm2.c).mono ?_;rintro r w5 ⟨As,ns,cs,rfl,hsn,hOs,p_⟩;replace hsn:=Zh hsn;replace I:=Zm I p_;clear p_)
   |fail)
  clear hOs
  replace hA:=Zh (hA.trans (if_neg (by rintro⟨h|h,_⟩<;>first|exact absurd h (by decide)|omega)))
  go_upto_region 22 with(first|go_skip|fail)
  have hMs:Hid (MsgSub w5 ⟨none,0,0,none,0,0⟩ ⟨kind,false,e.number,0,0,[],[]⟩):=⟨SubS.nil _,SubS.nil _,Nat.le_refl _,Nat.le_refl _⟩
  have hAM:Hid (AM=(⟨kind,false,e.number,0,0,[],[]⟩:Msg)):=by show _= _;rw[hMd.out,if_neg (by omega),if_neg (by omega),if_neg (by omega)]
  have hA0:=Zh hA.out
  clear hA hPb hsl hcd hMd
  obtain⟨F0,q_,J,gM⟩:∃F:World→Prop,Stb F∧Hid (F _)∧Hid (∀W,F W→MsgSub W ⟨none,0,0,none,0,0⟩ ⟨kind,false,e.number,0,0,[],[]⟩):=⟨_,Stb.sub _ _,hMs,fun _ h=>h⟩
  clear hMs
  have mk1:Unit:=()
  have mk2:Unit:=()
  go_upto_region 23 with(first|go_skip|(refine lM 5 I uE.out ?_)|(go_at_call 154;clear mk1;refine(cL _ I.below hsm2.out).mono ?_;rintro r w3 ⟨v1,rfl,hE,p_⟩;replace I:=Zm I p_;replace J:=q_.z J p_;clear p_;refine sA q_ J (Stb.ed v1 _) hE ?_;clear q_ J hE;intro F2 q_ J hU gE;replace gM:=Zu gM hU;clear hU)|(clear mk2;refine q_.a I J edInfo ?_;clear I J;intro g19 w1 I J)|(refine q_.s 0 I J ?_;clear I J;intro w4 I J;simp only[List.set]at I)|fail)
  have mk3:Unit:=()
  go_upto_region 24 with(first|go_skip|(refine lM 1 I uM.out ?_)|(go_at_call 155;clear mk3;refine(cMs _ _ _ (gM _ J).is ⟨by dsimp only;omega,by dsimp only;omega⟩).mono ?_;rintro r w3 ⟨va,rfl,hA5,p_⟩;replace I:=Zm I p_;replace J:=q_.z J p_;clear p_;refine sA q_ J (Stb.msg va _) hA5 ?_;clear q_ J hA5;intro F3 q_ J hU gA;replace gM:=Zu gM hU;replace gE:=Zu gE hU;clear hU)|(refine q_.m 0 I J 4 (endA { e with opn:=true} v1) ?_;clear I J;intro w4 I J;simp only[List.set]at I)|(refine q_.m 0 I J 5 (endA { e with opn:=true,since:=slot} v1) ?_;clear I J;intro w4 I J;simp only[List.set]at I)|(refine q_.m 0 I J 6 (endA (openE e ⟨kind,false,e.number,0,0,[],[]⟩ slot) { v1 with a:=va}) ?_;clear I J;intro w4 I J;simp only[List.set]at I)|fail)
  replace J:=Zh (q_.keep J ((Below.refl _ _).drew))
  replace I:=Zh (I.keep ((Below.refl _ _).drew))
  have HMs:=Zh I.out
  refine wp_region_plan (fun w'=>Mem _ w' _) 3 [(0,true),(1,true),(2,false)] (by kernel_rfl) (by kernel_rfl) HMs.out ?_
  generalize World.drew _=wd at*
  refine plTakeL (by rfl) (yw 0 uE.out) ?_
  try go_frame
  refine plTakeL (by rfl) (yw 1 uM.out) ?_
  try go_frame
  refine plStepL rfl rfl fun K hK=> ?_
  go_wp2_with(first|(go_at_call 155;refine(cMs _ _ _ (gM _ J).is ⟨by dsimp only;omega,by dsimp only;omega⟩).mono ?_;rintro r w3 ⟨vb,rfl,hA5,p_⟩)|fail)
  refine hK _ _ (HMs.keep p_) fun hS_=> ?_
  clear hK K hS_
  try go_frame
  replace I:=Zm I p_
  replace J:=q_.z J p_
  clear p_ HMs
  obtain⟨F5,hFs2,hF2,hU,hNw⟩:=stb_add q_ J (Stb.msg vb _) hA5
  clear q_ J
  replace gM:=Zu gM hU
  replace gE:=Zu gE hU
  replace gA:=Zu gA hU
  have gB:=Zh hNw
  clear hNw hU
  have q_:=hFs2
  have J:=hF2
  clear hFs2 hF2 hA5
  refine plDone ?_
  simp only[List.drop]
  go_wp2_with(first|go_skip|(refine q_.s 4 I J ?_;clear I J;intro w4 I J;simp only[List.set]at I)|(refine q_.s 3 I J ?_;clear I J;intro w4 I J;simp only[List.set]at I)|fail)
  try simp only[Exit.inBlock,Exit.then]
  refine rU I 4 3 uE.out uM.out ?_
  exact hPo.out _ _ _ _ hA0.out hAM.out ⟨(gE _ J).cells,(gE _ J).lc,gA.out _ J,(gE _ J).last,(gE _ J).reply⟩ (gB _ J).sub I.below
theorem Stb.subS(A:Option Addr)(n:Nat)(xs:List Spt):Stb (fun W=>SubS W A n xs):=⟨fun x hb=>x.keep hb,fun x hB h1 _ hg=>x.put hB h1 hg⟩
end Tx
end Go.Proofs.YtfamifgchgolpaaGreat
