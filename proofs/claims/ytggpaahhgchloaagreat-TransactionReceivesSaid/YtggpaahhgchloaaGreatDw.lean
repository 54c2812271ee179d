/- The statements' example. -/
import Derived.Test.YtggpaahhgchloaaGreatCa
import Derived.Test.YtggpaahhgchloaaGreatCb
import Derived.Test.YtggpaahhgchloaaGreatBx
import Derived.Test.YtggpaahhgchloaaGreatBy
set_option linter.unusedVariables false
set_option linter.unusedSimpArgs false
set_option maxRecDepth 100000
set_option maxHeartbeats 4000000
namespace Go.Proofs.YtggpaahhgchloaaGreat
open Go Go.RowKit Go.Sort Go.Shelf Go.Maps
namespace Tx
open Sw Mm Pl
theorem equalT_any(A B:Option Addr)(n m c1 c2:Nat)(xs ys:List TCl)(w:World)(h1:TclS w A n xs)(h2:TclS w B m ys):
 Calls Tryz.prog 49 #[.slice A n c1,.slice B m c2] w fun e w'=>e= .returned (.bool (decide (xs=ys)))∧Below w.heap.size w w':=by
 have hl1:=h1.len
 have hl2:=h2.len
 have hs:=h1.small
 unfold maxLen at hs
 have kn:=neq_tcl
 have hE:∀a b,eqT a b=decide (a=b):=fun _ _=>rfl
 have hne:n≠m→decide (xs=ys)=false:=fun h=>decide_eq_false (fun e=>h (by rw[←hl1,←hl2,e]))
 have hno:∀k,eqT (xs.getD k default) (ys.getD k default)=false→decide (xs=ys)=false:=fun k h=>decide_eq_false (fun e=>by rw[e,hE,decide_eq_false_iff_not]at h;exact h rfl)
 have hyes:n=m→(∀j,j<n→xs.getD j default=ys.getD j default)→decide (xs=ys)=true:=fun h h2=>decide_eq_true (list_eq_getD hl1 (by rw[hl2,h]) h2)
 generalize decide (xs=ys)=R at*
 generalize eqT=E at*
 replace h1:=Zh h1
 replace h2:=Zh h2
 replace hl1:=Zh hl1
 replace hl2:=Zh hl2
 replace kn:=Zh kn
 replace hE:=Zh hE
 replace hno:=Zh hno
 replace hyes:=Zh hyes
 by_cases hnm:n=m
 ·subst hnm
  have hbb:((n:Int) !=(n:Int))=false:=by simp
  clear hne
  go_enter Tryz.func49,Tryz.ntmps49
  go_wp2_with fail
  go_loopw[5,13] (fun _ i wr=>∃k:Nat,k≤n∧i= .int .i64 k∧Hid (∀j,j<k→xs.getD j default=ys.getD j default)∧Hid (Below w.heap.size w wr)) (fun _ i _=>n-(intOf i).toNat)
  case atStart=>exact⟨0,by omega,rfl,fun j hj=>absurd hj (by omega),Below.refl _ _⟩
  case round=>
   obtain⟨k,hk,rfl,HP,HB⟩:=hrel
   by_cases hlt:k<n
   ·obtain⟨b1,o1,rfl⟩:=h1.out.addr (by omega)
    obtain⟨b2,o2,rfl⟩:=h2.out.addr (by omega)
    have hx:=tcl_at (h1.out.keep HB.out) hlt
    have hy:=tcl_at (h2.out.keep HB.out) hlt
    have he:=kn.out (xs.getD k default) (ys.getD k default)
    have hEx:=hE.out (xs.getD k default) (ys.getD k default)
    have hnk:=hno.out k
    generalize hX:xs.getD k default=x at*
    generalize hY:ys.getD k default=y at*
    generalize E x y=Q at*
    obtain⟨x0,x1,x2,x3,x4,x5⟩:=x
    obtain⟨y0,y1,y2,y3,y4,y5⟩:=y
    obtain⟨q0,q1,q2,q3,q4,q5⟩:=hx
    obtain⟨p0,p1,p2,p3,p4,p5⟩:=hy
    dsimp only at q0 q1 q2 q3 q4 q5 p0 p1 p2 p3 p4 p5 he
    have a0:=cell_regrown q0
    have b0:=cell_regrown p0
    have a1:=cell_regrown q1
    have b1:=cell_regrown p1
    have a2:=cell_regrown q2
    have b2:=cell_regrown p2
    have a3:=cell_regrown q3
    have b3:=cell_regrown p3
    have a4:=cell_regrown q4
    have b4:=cell_regrown p4
    have a5:=cell_regrown q5
    have b5:=cell_regrown p5
    have r1:(k:Int)<(n:Int):=by omega
    clear q0 q1 q2 q3 q4 q5 p0 p1 p2 p3 p4 p5
    replace hEx:=Zh hEx
    replace hX:=Zh hX
    replace hY:=Zh hY
    replace hnk:=Zh hnk
    cases Q with
    |true=>
     have hP2:Hid (∀j,j<k+1→xs.getD j default=ys.getD j default):=fun j hj=>by
      by_cases e:j=k
      ·subst e
       have:=hEx.out
       rw[eq_comm,decide_eq_true_eq]at this
       rw[hX.out,hY.out,this]
      ·exact HP.out j (by omega)
     go_wp2_with fail
     refine wp_region_quiet_below (by kernel_rfl) (by kernel_rfl) ?_
     repeat(go_big_quiet_step(fail))
     refine wpQuiet_nil ?_
     rintro _ ⟨⟨dq,osq⟩,rfl⟩
     have hb_:=below_regrown wr dq osq
     replace HB:=Zh (HB.out.keep hb_)
     generalize grow (redrawn wr dq) osq=w2 at*
     clear hb_
     go_wp2
     go_roundw
     case rel=>exact⟨k+1,by omega,by go_num,hP2,HB⟩
     case measure=>simp[intOf];omega
    |false=>
     have hR:=Zh (hnk.out rfl)
     go_wp2_with fail
     refine wp_region_quiet_below (by kernel_rfl) (by kernel_rfl) ?_
     repeat(go_big_quiet_step(fail))
     refine wpQuiet_nil ?_
     rintro _ ⟨⟨dq,osq⟩,rfl⟩
     have hb_:=below_regrown wr dq osq
     replace HB:=Zh (HB.out.keep hb_)
     generalize grow (redrawn wr dq) osq=w2 at*
     clear hb_
     go_wp2
     go_ret
     exact⟨by rw[hR.out];rfl,HB.out⟩
   ·obtain rfl:k=n:=by omega
    have hR:=Zh (hyes.out (by first|rfl|trivial) HP.out)
    go_wp2
    go_ret
    exact⟨by rw[hR.out];rfl,HB.out⟩
 ·have hR:=Zh (hne hnm)
  have hbb:((n:Int) !=(m:Int))=true:=by rw[bne_iff_ne];omega
  clear hne
  replace hnm:=Zh hnm
  go_enter Tryz.func49,Tryz.ntmps49
  go_wp2
  go_ret
  exact⟨by rw[hR.out];rfl,Below.refl _ _⟩
def awF:List Int:= [0,1,1,0]
def awA1:Ed:=askE (startN 1 2) ⟨1,4,[]⟩ awF 1 1 7
def awM1:Msg:=askN (startN 1 2) ⟨1,4,[]⟩ awF 1 1 7
def awB1:Ed:=(recv (startN 2 1) ⟨2,4,[]⟩ awF awM1).1
def awR1:Msg:=(recv (startN 2 1) ⟨2,4,[]⟩ awF awM1).2
def awA2:Ed:=finN awA1 awR1
theorem aw_facts:startC 1 2=0∧startC 2 1=0∧askC (startN 1 2) ⟨1,4,[]⟩ awF 1 1 7=0∧recvC (startN 2 1) ⟨2,4,[]⟩ awM1=0∧finC awA1 awR1=0∧awA2.number=1∧awB1.number=1∧awA2.cells= [⟨1,0,2,true,2,-1⟩]∧awB1.cells= [⟨1,0,2,false,1,-1⟩]:=by decide+kernel
theorem aw_free {w:World} {B:Nat} {t:TypeId}(h:Blk w B #[.int .i64 0,.int .i64 1,.int .i64 1,.int .i64 0] t):IntS w (some ⟨B,0,none⟩) 4 awF where
 len:=rfl
 small:=by unfold maxLen;omega
 at_:=fun _=>⟨B,0,rfl,h.lt,fun i hi j hj=>by
  obtain rfl:j=0:=by omega
  rw[show 0+i*1+0=i by omega,h.cell]
  rcases(by omega:i=0∨i=1∨i=2∨i=3)with rfl|rfl|rfl|rfl<;>rfl⟩
theorem awake_any(w:World):Calls Tryz.prog 11 #[] w fun r w'=>r= .returned (.bool true)∧Below w.heap.size w w':=by
 have HM:=Zh (Mem.start w)
 obtain⟨F0,hFs,hF⟩:∃F:World→Prop,Stb F∧Hid (F w):=⟨_,Stb.true,trivial⟩
 have uE:=Tryz.underlying27
 have uT:=Tryz.underlying29
 have uM:=Tryz.underlying25
 obtain⟨f1,f2,f3,f4,f5,f6,f7,f8,f9⟩:=aw_facts
 have cS1:=fun W=>start_own 1 2 W
 have cS2:=fun W=>start_own 2 1 W
 rw[f1]at cS1
 rw[f2]at cS2
 have cAs:=fun v1 A W (h:EdOwn W v1 (startN 1 2)) (hf:IntS W A 4 awF)=>ask_any (startN 1 2) ⟨1,4,[]⟩ v1 tabV0 A 4 4 awF 1 1 7 W h.is ⟨Sls.nil,Nat.le_refl _⟩ hf
 rw[f3]at cAs
 change∀v1 A W,EdOwn W v1 (startN 1 2)→_→Calls _ _ _ _ (TriOwn awA1 awM1 0 W)at cAs
 have cRc:=fun v2 vm A W (h:EdOwn W v2 (startN 2 1)) (hm:MsgSub W vm awM1) (hf:IntS W A 4 awF)=>receive_any (startN 2 1) ⟨2,4,[]⟩ awF awM1 v2 tabV0 vm A 4 4 W h.is ⟨Sls.nil,Nat.le_refl _⟩ hf hm.is
 rw[f4]at cRc
 change∀v2 vm A W,EdOwn W v2 (startN 2 1)→_→_→Calls _ _ _ _ (TriOwn awB1 awR1 0 W)at cRc
 have cFi:=fun v1 vr W (h:EdOwn W v1 awA1) (hr:MsgSub W vr awR1)=>finish_any awA1 awR1 v1 vr W h.is hr.is
 rw[f5]at cFi
 change∀v1 vr W,EdOwn W v1 awA1→_→Calls _ _ _ _ (EndOwn awA2 0 W)at cFi
 have cQ:=fun A B n m c1 c2 xs ys W (h1:TclS W A n xs) (h2:TclS W B m ys)=>equalT_any A B n m c1 c2 xs ys W h1 h2
 generalize startN 1 2=xA0 at*
 generalize startN 2 1=xB0 at*
 generalize awA1=xA1 at*
 generalize awM1=xM1 at*
 generalize awB1=xB1 at*
 generalize awR1=xR1 at*
 generalize awA2=xA2 at*
 clear f1 f2 f3 f4 f5
 replace cS1:=Zh cS1
 replace cS2:=Zh cS2
 replace cAs:=Zh cAs
 replace cRc:=Zh cRc
 replace cFi:=Zh cFi
 replace cQ:=Zh cQ
 replace uE:=Zh uE
 replace uT:=Zh uT
 replace uM:=Zh uM
 replace f6:=Zh f6
 replace f7:=Zh f7
 replace f8:=Zh f8
 replace f9:=Zh f9
 go_enter Tryz.func11,Tryz.ntmps11
 have mk1:Unit:=()
 have mk2:Unit:=()
 go_upto_region 2 with(first|go_skip|(go_at_call 46;clear mk1;refine(cS1.out _).mono ?_;rintro r w3 ⟨v1,rfl,hE,hb_⟩;replace HM:=Zh (HM.out.keep hb_);replace hF:=Zh (hFs.keep hF.out hb_);clear hb_;obtain⟨F1,hFs2,hF2,hU,hNw⟩:=stb_add hFs hF (Stb.ed v1 _) hE;clear hFs hF;have gA:=Zh hNw;clear hNw hU;have hFs:=hFs2;have hF:=hF2;clear hFs2 hF2 hE)|(clear mk2;refine wpList_allocN HM rfl 27 rfl edInfo ?_;clear HM;intro g1 w1 HM hG hN9;replace hF:=Zh (hFs.keep hF.out hG.out);clear hG hN9)|(refine wpList_storeF 0 HM rfl _ _ _ rfl _ rfl rfl _ rfl (by exact zend) (by rfl) (by rfl) ?_;have hBq:=HM.out.at_ 0 rfl;clear HM;intro w4 HM hG4;simp only[List.set]at HM;replace hF:=Zh (hFs.put hF.out hBq (by decide) (by decide) hG4.out);clear hBq hG4)|fail)
 have mk3:Unit:=()
 have mk4:Unit:=()
 go_upto_region 3 with(first|go_skip|(go_at_call 46;clear mk3;refine(cS2.out _).mono ?_;rintro r w3 ⟨v2,rfl,hE,hb_⟩;replace HM:=Zh (HM.out.keep hb_);replace hF:=Zh (hFs.keep hF.out hb_);clear hb_;obtain⟨F2,hFs2,hF2,hU,hNw⟩:=stb_add hFs hF (Stb.ed v2 _) hE;clear hFs hF;replace gA:=Zh (fun W h=>gA.out W (hU W h));have gB:=Zh hNw;clear hNw hU;have hFs:=hFs2;have hF:=hF2;clear hFs2 hF2 hE)|(clear mk4;refine wpList_allocN HM rfl 27 rfl edInfo ?_;clear HM;intro g3 w1 HM hG hN9;replace hF:=Zh (hFs.keep hF.out hG.out);clear hG hN9)|(refine wpList_storeF 0 HM rfl _ _ _ rfl _ rfl rfl _ rfl (by exact zend) (by rfl) (by rfl) ?_;have hBq:=HM.out.at_ 0 rfl;clear HM;intro w4 HM hG4;simp only[List.set]at HM;replace hF:=Zh (hFs.put hF.out hBq (by decide) (by decide) hG4.out);clear hBq hG4)|fail)
 go_upto_region 4 with fail
 have HM2:=Zh (HM.out.alloc #[.int .i64 0,.int .i64 1,.int .i64 1,.int .i64 0] 3)
 replace hF:=Zh (hFs.keep hF.out (ball _ (.cells #[.int .i64 0,.int .i64 1,.int .i64 1,.int .i64 0] 3)))
 clear HM
 have HM:=HM2
 clear HM2
 generalize w4.alloc (.cells #[.int .i64 0,.int .i64 1,.int .i64 1,.int .i64 0] 3)=w5 at*
 generalize w4.heap.size=gf at*
 have mk5:Unit:=()
 have mk6:Unit:=()
 go_upto_region 5 with(first|go_skip|(clear mk5;refine wpList_allocN HM rfl 29 rfl tabInfo ?_;clear HM;intro g6 w1 HM hG hN9;replace hF:=Zh (hFs.keep hF.out hG.out);clear hG hN9)|(clear mk6;refine wpList_allocN HM rfl 29 rfl tabInfo ?_;clear HM;intro g7 w1 HM hG hN9;replace hF:=Zh (hFs.keep hF.out hG.out);clear hG hN9)|(refine wpList_storeF 1 HM rfl _ _ _ rfl _ rfl rfl _ rfl (by exact ztab) (by rfl) (by rfl) ?_;have hBq:=HM.out.at_ 1 rfl;clear HM;intro w4 HM hG4;simp only[List.set]at HM;replace hF:=Zh (hFs.put hF.out hBq (by decide) (by decide) hG4.out);clear hBq hG4)|(refine wpList_storeF 0 HM rfl _ _ _ rfl _ rfl rfl _ rfl (by exact ztab) (by rfl) (by rfl) ?_;have hBq:=HM.out.at_ 0 rfl;clear HM;intro w4 HM hG4;simp only[List.set]at HM;replace hF:=Zh (hFs.put hF.out hBq (by decide) (by decide) hG4.out);clear hBq hG4)|fail)
 have mk7:Unit:=()
 have mk8:Unit:=()
 go_upto_region 6 with(first|go_skip|(refine wpList_loadG 4 HM (by rfl) _ _ rfl _ rfl rfl _ uE.out rfl (by exact zend) ?_)|(refine wpList_loadG 1 HM (by rfl) _ _ rfl _ rfl rfl _ uT.out rfl (by exact ztab) ?_)|(go_at_call 47;clear mk7;refine(cAs.out v1 _ _ (gA.out _ hF.out) (aw_free (HM.out.at_ 2 rfl))).mono ?_;rintro r w3 ⟨v3,vm1,rfl,hE,hM,hb_⟩;replace HM:=Zh (HM.out.keep hb_);replace hF:=Zh (hFs.keep hF.out hb_);clear hb_;obtain⟨F3,hFs2,hF2,hU,hNw⟩:=stb_add hFs hF (Stb.ed v3 _) hE;clear hFs hF;replace gA:=Zh (fun W h=>gA.out W (hU W h));replace gB:=Zh (fun W h=>gB.out W (hU W h));have gA1:=Zh hNw;clear hNw hU;have hFs:=hFs2;have hF:=hF2;clear hFs2 hF2 hE;obtain⟨F4,hFs2,hF2,hU,hNw⟩:=stb_add hFs hF (Stb.sub vm1 _) hM;clear hFs hF;replace gA:=Zh (fun W h=>gA.out W (hU W h));replace gB:=Zh (fun W h=>gB.out W (hU W h));replace gA1:=Zh (fun W h=>gA1.out W (hU W h));have gM1:=Zh hNw;clear hNw hU;have hFs:=hFs2;have hF:=hF2;clear hFs2 hF2 hM)|(clear mk8;refine wpList_allocN HM rfl 25 rfl msgInfo ?_;clear HM;intro g8 w1 HM hG hN9;replace hF:=Zh (hFs.keep hF.out hG.out);clear hG hN9)|(refine wpList_storeF 5 HM rfl _ _ _ rfl _ rfl rfl _ rfl (by exact zend) (by rfl) (by rfl) ?_;have hBq:=HM.out.at_ 5 rfl;clear HM;intro w4 HM hG4;simp only[List.set]at HM;replace hF:=Zh (hFs.put hF.out hBq (by decide) (by decide) hG4.out);clear hBq hG4)|(refine wpList_storeF 0 HM rfl _ _ _ rfl _ rfl rfl _ rfl (by exact zmsg) (by rfl) (by rfl) ?_;have hBq:=HM.out.at_ 0 rfl;clear HM;intro w4 HM hG4;simp only[List.set]at HM;replace hF:=Zh (hFs.put hF.out hBq (by decide) (by decide) hG4.out);clear hBq hG4)|fail)
 have mk9:Unit:=()
 have mk10:Unit:=()
 go_upto_region 7 with(first|go_skip|(refine wpList_loadG 4 HM (by rfl) _ _ rfl _ rfl rfl _ uE.out rfl (by exact zend) ?_)|(refine wpList_loadG 1 HM (by rfl) _ _ rfl _ rfl rfl _ uT.out rfl (by exact ztab) ?_)|(refine wpList_loadG 0 HM (by rfl) _ _ rfl _ rfl rfl _ uM.out rfl (by exact zmsg) ?_)|(go_at_call 15;clear mk9;refine(cRc.out v2 vm1 _ _ (gB.out _ hF.out) (gM1.out _ hF.out) (aw_free (HM.out.at_ 3 rfl))).mono ?_;rintro r w3 ⟨v4,vr1,rfl,hE,hM,hb_⟩;replace HM:=Zh (HM.out.keep hb_);replace hF:=Zh (hFs.keep hF.out hb_);clear hb_;obtain⟨F5,hFs2,hF2,hU,hNw⟩:=stb_add hFs hF (Stb.ed v4 _) hE;clear hFs hF;replace gA:=Zh (fun W h=>gA.out W (hU W h));replace gB:=Zh (fun W h=>gB.out W (hU W h));replace gA1:=Zh (fun W h=>gA1.out W (hU W h));replace gM1:=Zh (fun W h=>gM1.out W (hU W h));have gB1:=Zh hNw;clear hNw hU;have hFs:=hFs2;have hF:=hF2;clear hFs2 hF2 hE;obtain⟨F6,hFs2,hF2,hU,hNw⟩:=stb_add hFs hF (Stb.sub vr1 _) hM;clear hFs hF;replace gA:=Zh (fun W h=>gA.out W (hU W h));replace gB:=Zh (fun W h=>gB.out W (hU W h));replace gA1:=Zh (fun W h=>gA1.out W (hU W h));replace gM1:=Zh (fun W h=>gM1.out W (hU W h));replace gB1:=Zh (fun W h=>gB1.out W (hU W h));have gR1:=Zh hNw;clear hNw hU;have hFs:=hFs2;have hF:=hF2;clear hFs2 hF2 hM)|(clear mk10;refine wpList_allocN HM rfl 25 rfl msgInfo ?_;clear HM;intro g10 w1 HM hG hN9;replace hF:=Zh (hFs.keep hF.out hG.out);clear hG hN9)|(refine wpList_storeF 5 HM rfl _ _ _ rfl _ rfl rfl _ rfl (by exact zend) (by rfl) (by rfl) ?_;have hBq:=HM.out.at_ 5 rfl;clear HM;intro w4 HM hG4;simp only[List.set]at HM;replace hF:=Zh (hFs.put hF.out hBq (by decide) (by decide) hG4.out);clear hBq hG4)|(refine wpList_storeF 0 HM rfl _ _ _ rfl _ rfl rfl _ rfl (by exact zmsg) (by rfl) (by rfl) ?_;have hBq:=HM.out.at_ 0 rfl;clear HM;intro w4 HM hG4;simp only[List.set]at HM;replace hF:=Zh (hFs.put hF.out hBq (by decide) (by decide) hG4.out);clear hBq hG4)|fail)
 have mk11:Unit:=()
 go_upto_region 8 with(first|go_skip|(refine wpList_loadG 6 HM (by rfl) _ _ rfl _ rfl rfl _ uE.out rfl (by exact zend) ?_)|(refine wpList_loadG 0 HM (by rfl) _ _ rfl _ rfl rfl _ uM.out rfl (by exact zmsg) ?_)|(go_at_call 48;clear mk11;refine(cFi.out v3 vr1 _ (gA1.out _ hF.out) (gR1.out _ hF.out)).mono ?_;rintro r w3 ⟨v5,rfl,hE,hb_⟩;replace HM:=Zh (HM.out.keep hb_);replace hF:=Zh (hFs.keep hF.out hb_);clear hb_;obtain⟨F7,hFs2,hF2,hU,hNw⟩:=stb_add hFs hF (Stb.ed v5 _) hE;clear hFs hF;replace gA:=Zh (fun W h=>gA.out W (hU W h));replace gB:=Zh (fun W h=>gB.out W (hU W h));replace gA1:=Zh (fun W h=>gA1.out W (hU W h));replace gM1:=Zh (fun W h=>gM1.out W (hU W h));replace gB1:=Zh (fun W h=>gB1.out W (hU W h));replace gR1:=Zh (fun W h=>gR1.out W (hU W h));have gA2:=Zh hNw;clear hNw hU;have hFs:=hFs2;have hF:=hF2;clear hFs2 hF2 hE)|(refine wpList_storeF 6 HM rfl _ _ _ rfl _ rfl rfl _ rfl (by exact zend) (by rfl) (by rfl) ?_;have hBq:=HM.out.at_ 6 rfl;clear HM;intro w4 HM hG4;simp only[List.set]at HM;replace hF:=Zh (hFs.put hF.out hBq (by decide) (by decide) hG4.out);clear hBq hG4)|fail)
 have n1:=Zh (gA2.out _ hF.out).lc
 have n2:=Zh (gB1.out _ hF.out).lc
 have q1:=Zh (fun W (h:F7 W)=>(gA2.out W h).is.cells)
 have q2:=Zh (fun W (h:F7 W)=>(gB1.out W h).is.cells)
 rw[f8.out]at q1
 rw[f9.out]at q2
 have ka:=HM.out.cell 6 rfl
 have kb:=HM.out.cell 5 rfl
 have ka2:=ka 2
 have ka3:=ka 3
 have kb2:=kb 2
 have kb3:=kb 3
 change _=some (Value.int .i64 xA2.number)at ka2
 change _=some (Value.int .i64 xB1.number)at kb2
 change _=some (Value.slice v5.cA v5.cn v5.cc)at ka3
 change _=some (Value.slice v4.cA v4.cn v4.cc)at kb3
 rw[f6.out]at ka2
 rw[f7.out]at kb2
 clear ka kb
 have mk12:Unit:=()
 have mk13:Unit:=()
 go_wp2_with(first|go_skip|(go_at_call 49;clear mk12;refine(cQ.out _ _ _ _ _ _ [⟨1,0,2,true,2,-1⟩] [⟨1,0,2,true,2,-1⟩] _ (q1.out _ (hFs.keep hF.out (ball _ _))) (Sls.one (t:=85) (Blk.new _ _ _))).mono ?_;rintro r w3 ⟨rfl,hb_⟩;clear ka2 ka3 kb2 kb3;replace HM:=Zh ((HM.out.keep (ball _ _)).keep hb_);replace hF:=Zh (hFs.keep (hFs.keep hF.out (ball _ _)) hb_);clear hb_;have kb3:=HM.out.cell 5 rfl 3;change _=some (Value.slice v4.cA v4.cn v4.cc)at kb3)|(go_at_call 49;clear mk13;refine(cQ.out _ _ _ _ _ _ [⟨1,0,2,false,1,-1⟩] [⟨1,0,2,false,1,-1⟩] _ (q2.out _ (hFs.keep hF.out (ball _ _))) (Sls.one (t:=85) (Blk.new _ _ _))).mono ?_;rintro r w3 ⟨rfl,hb_⟩;replace HM:=Zh ((HM.out.keep (ball _ _)).keep hb_);replace hF:=Zh (hFs.keep (hFs.keep hF.out (ball _ _)) hb_);clear hb_)|fail)
 try simp only[Exit.inBlock,Exit.then]
 go_ret
 exact⟨by first|rfl|trivial,HM.out.below⟩
end Tx
end Go.Proofs.YtggpaahhgchloaaGreat
