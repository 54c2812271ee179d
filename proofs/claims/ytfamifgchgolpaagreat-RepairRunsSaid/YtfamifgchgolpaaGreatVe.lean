/- Chapter 26: asked: the reference's. -/
import Derived.Test.YtfamifgchgolpaaGreatCa
set_option linter.unusedVariables false
set_option linter.unusedSimpArgs false
set_option maxRecDepth 100000
set_option maxHeartbeats 16000000
namespace Go.Proofs.YtfamifgchgolpaaGreat
open Go Go.RowKit Go.Sort Go.Shelf Go.Maps
namespace Tx
open Sw Mm Pl
theorem all_hit {α:Type} [Inhabited α] {p:α→Bool} {l:List α} {k:Nat}(hk:k<l.length)(h:p (l.getD k default)=false):l.all p=false:=by
 cases hq:l.all p
 ·rfl
 ·rw[List.all_eq_true]at hq
  rw[hq _ (getD_mem hk)]at h
  cases h
theorem all_all {α:Type} [Inhabited α] {p:α→Bool} {l:List α}(h:∀k,k<l.length→p (l.getD k default)=true):l.all p=true:=by
 rw[List.all_eq_true]
 intro x hx
 obtain⟨i,hi,rfl⟩:=mem_getD hx
 exact h i hi
def sptFree(e:Ed)(s:Spt):Bool:=e.cells.all fun c=> !decide (c.slot=s.slot)
theorem rasked_any(e:Ed)(v:EdV)(w:World)(h:EdIs w v e)(hn:v.cn≤100000):Calls Tryz.prog 209 #[.agg (endA e v)] w fun r w'=>r= .returned (.bool (rAskedOk e))∧Below w.heap.size w w':=by
 have I:=Zh (Mem.start w)
 have cK:=fun W (hb:Below w.heap.size w W)=>rchkM_any e.asked v.a W (h.asked.keep hb)
 have cS:=fun W (hb:Below w.heap.size w W)=>rsends_any e v W (h.keep hb) hn
 unfold SendsPost at cS
 have hR:rAskedOk e=(decide (chkM e.asked=0)&&(!e.asked.reply&&(decide (e.asked.number=e.number)&&((e.asked.old.all fun s=>decide (s∈sendsN e))&&(e.asked.spots.all (sptFree e)))))):=rfl
 have hOhit:=fun k (hk:k<v.a.on) (hh:decide (e.asked.old.getD k default∈sendsN e)=false)=>all_hit (p:=fun s=>decide (s∈sendsN e)) (l:=e.asked.old) (k:=k) (by rw[h.asked.old.len];exact hk) hh
 have hOall:=fun(hh:∀k,k<v.a.on→decide (e.asked.old.getD k default∈sendsN e)=true)=>all_all (p:=fun s=>decide (s∈sendsN e)) (l:=e.asked.old) (fun k hk=>hh k (by rw[←h.asked.old.len];exact hk))
 have hShit:=fun k (hk:k<v.a.sn) (hh:sptFree e (e.asked.spots.getD k default)=false)=>all_hit (p:=sptFree e) (l:=e.asked.spots) (k:=k) (by rw[h.asked.spots.len];exact hk) hh
 have hSall:=fun(hh:∀k,k<v.a.sn→sptFree e (e.asked.spots.getD k default)=true)=>all_all (p:=sptFree e) (l:=e.asked.spots) (fun k hk=>hh k (by rw[←h.asked.spots.len];exact hk))
 have hFhit:=fun(s:Spt) i (hi:i<v.cn) (hh:(e.cells.getD i default).slot=s.slot)=>(show sptFree e s=false from all_hit (p:=fun c:TCl=> !decide (c.slot=s.slot)) (l:=e.cells) (k:=i) (by rw[h.cells.len];exact hi) (by rw[decide_eq_true hh];rfl))
 have hFall:=fun(s:Spt) (hh:∀i,i<v.cn→(e.cells.getD i default).slot≠s.slot)=>(show sptFree e s=true from all_all (p:=fun c:TCl=> !decide (c.slot=s.slot)) (l:=e.cells) (fun k hk=>by rw[decide_eq_false (hh k (by rw[←h.cells.len];exact hk))];rfl))
 generalize hP:(fun(r:Ending) w'=>r=Ending.returned (.bool (rAskedOk e))∧Below w.heap.size w w')=P
 have hPo:∀B w',rAskedOk e=B→Below w.heap.size w w'→P (.returned (.bool B)) w':=fun B w' e1 hb=>by rw[←hP];exact⟨by rw[e1],hb⟩
 clear hP
 generalize rAskedOk e=R at*
 generalize chkM e.asked=CM at*
 generalize(e.asked.old.all fun s=>decide (s∈sendsN e))=OA at*
 generalize(e.asked.spots.all (sptFree e))=SA at*
 have uM:=Tryz.underlying30
 have uE:=Tryz.underlying32
 have hs1:=h.asked.old.small
 have hs2:=h.asked.spots.small
 unfold maxLen at hs1 hs2
 refine zh12 ?_ h cK cS hR hOhit hOall hShit hSall hFhit hFall hPo uM;clear h cK cS hR hOhit hOall hShit hSall hFhit hFall hPo uM;intro h cK cS hR hOhit hOall hShit hSall hFhit hFall hPo uM
 replace uE:=Zh uE
 go_enter Tryz.func209,Tryz.ntmps209
 go_upto_region 2 with(first|(refine bA I 32 ?_;clear I;intro ge w1 I hG;clear hG)|(refine lP 0 I 6 (msgA e.asked v.a) uM.out ?_)|(refine wpList_allocA I rfl 30 rfl (by first|exact msgInfo|exact edInfo|exact tabInfo|exact info_tcl|exact info_spt) ?_;clear I;intro g3 w1 I hG;clear hG)|(refine sF 0 I ?_;clear I;intro w4 I hG4;simp only[List.set]at I)|fail)
 by_cases hC:CM=0
 case neg=>
  have d1:(CM !=0)=true:=by rw[bne_iff_ne];exact hC
  have hR2:R=false:=by rw[hR.out];simp[hC]
  have hrep:True:=trivial
  go_wp2_with(first|go_skip|(go_at_call 156;refine(cK _ I.below).mono ?_;rintro r w3 ⟨rfl,p_⟩;replace I:=Zm I p_;clear p_;have q1:=I.cell 0 rfl 1;change _=some (Value.bool e.asked.reply)at q1;have q2:=I.cell 0 rfl 2;change _=some (Value.int .i64 e.asked.number)at q2;have q3:=I.cell 1 rfl 2;change _=some (Value.int .i64 e.number)at q3;try rw[hrep]at q1)|(refine lM 0 I uM.out ?_)|fail)
  exact hPo.out _ _ hR2 I.below
 have d1:(CM !=0)=false:=by rw[bne_eq_false_iff_eq];exact hC
 have hR2:Hid (R=(!e.asked.reply&&(decide (e.asked.number=e.number)&&(OA&&SA)))):=by show _= _;rw[hR.out];simp[hC]
 clear hR
 cases hrep:e.asked.reply
 case true=>
  have hR3:R=false:=by rw[hR2.out,hrep];rfl
  go_wp2_with(first|go_skip|(go_at_call 156;refine(cK _ I.below).mono ?_;rintro r w3 ⟨rfl,p_⟩;replace I:=Zm I p_;clear p_;have q1:=I.cell 0 rfl 1;change _=some (Value.bool e.asked.reply)at q1;have q2:=I.cell 0 rfl 2;change _=some (Value.int .i64 e.asked.number)at q2;have q3:=I.cell 1 rfl 2;change _=some (Value.int .i64 e.number)at q3;try rw[hrep]at q1)|(refine lM 0 I uM.out ?_)|fail)
  exact hPo.out _ _ hR3 I.below
 by_cases hnm:e.asked.number=e.number
 case neg=>
  have d2:(e.asked.number !=e.number)=true:=by rw[bne_iff_ne];exact hnm
  have hR3:R=false:=by rw[hR2.out];simp[hnm]
  go_wp2_with(first|go_skip|(go_at_call 156;refine(cK _ I.below).mono ?_;rintro r w3 ⟨rfl,p_⟩;replace I:=Zm I p_;clear p_;have q1:=I.cell 0 rfl 1;change _=some (Value.bool e.asked.reply)at q1;have q2:=I.cell 0 rfl 2;change _=some (Value.int .i64 e.asked.number)at q2;have q3:=I.cell 1 rfl 2;change _=some (Value.int .i64 e.number)at q3;try rw[hrep]at q1)|(refine lM 0 I uM.out ?_)|fail)
  exact hPo.out _ _ hR3 I.below
 have d2:(e.asked.number !=e.number)=false:=by rw[bne_eq_false_iff_eq];exact hnm
 have hR3:Hid (R=(OA&&SA)):=by show _= _;rw[hR2.out,hrep];simp[hnm]
 clear hR2
 go_upto_region 4 with(first|go_skip|(go_at_call 156;refine(cK _ I.below).mono ?_;rintro r w3 ⟨rfl,p_⟩;replace I:=Zm I p_;clear p_;have q1:=I.cell 0 rfl 1;change _=some (Value.bool e.asked.reply)at q1;have q2:=I.cell 0 rfl 2;change _=some (Value.int .i64 e.asked.number)at q2;have q3:=I.cell 1 rfl 2;change _=some (Value.int .i64 e.number)at q3;try rw[hrep]at q1)|(refine lM 0 I uM.out ?_)|fail)
 clear q1 q2 q3 d1 d2
 go_upto_region 5 with(first
  |(go_at_call 153;refine(cS _ I.below).mono ?_;rintro r w5 ⟨A1,ns,c1,rfl,hns,hO,p_⟩;replace I:=Zm I p_;replace hO:=Zh hO;clear p_)
  |(refine lM 1 I uE.out ?_)
  |fail)
 have hBO:=Zh (fun W (hb:Below w5.heap.size w5 W)=>(Sls.of_owns sptE_len (owns_keep hO.out hb) hns).2)
 have HB:=Zh (Below.refl w5.heap.size w5)
 replace hns:=Zh hns
 clear cK cS hO
 go_wp2_with fail
 go_loopw[5] (fun i wr=>Hid (∃k:Nat,k≤v.a.on∧i= .int .i64 k∧Hid (∀j,j<k→decide (e.asked.old.getD j default∈sendsN e)=true)∧Hid (Below w5.heap.size w5 wr)∧Hid (Mem w wr [(g3,msgA e.asked v.a,30),(ge,endA e v,32)]))) (fun i _=>v.a.on-(intOf i).toNat)
 case atStart=>exact Zh ⟨0,by omega,rfl,fun j hj=>by omega,HB,I⟩
 case round=>
  clear I HB
  obtain⟨k,hk,rfl,HP,HB,I⟩:=hrel.out
  clear hrel
  have k36:=I.cell 0 rfl 6
  change _=some (Value.slice v.a.oA v.a.on v.a.oc)at k36
  by_cases hlt:k<v.a.on
  ·obtain⟨b,off,hcA⟩:=h.asked.old.addr (by omega)
   have hx0:=h.asked.old.keep I.below
   rw[hcA]at hx0
   have hx:=spt_at hx0 hlt
   have hh:=hOhit.out k hlt
   have hnx:decide (e.asked.old.getD k default∈sendsN e)=true→∀j,j<k+1→decide (e.asked.old.getD j default∈sendsN e)=true:=fun h j hj=>by
    by_cases e1:j=k
    ·subst e1;exact h
    ·exact HP.out j (by omega)
   have cH:=fun W hb=>rhas_any A1 ns c1 (sendsN e) (e.asked.old.getD k default) W (hBO W hb)
   generalize decide (e.asked.old.getD k default∈sendsN e)=Q at*
   generalize e.asked.old.getD k default=y at*
   obtain⟨y0,y1⟩:=y
   obtain⟨q0,q1⟩:=hx
   dsimp only at q0 q1 cH
   rw[hcA]at k36
   have r1:(k:Int)<(v.a.on:Int):=by omega
   have r0:(0:Int)≤(k:Int):=by omega
   clear hx0
   refine zh4 ?_ hcA hh hnx cH;clear hcA hh hnx cH;intro hcA hh hnx cH
   cases Q
   case false=>
    have hR4:R=false:=by rw[hR3.out,hh.out rfl];rfl
    go_wp2_with(first|(go_at_call 208;refine(cH _ HB.out).mono ?_;rintro r w6 ⟨rfl,p_⟩;clear k36 q0 q1;replace I:=Zm I p_;clear p_)|fail)
    exact hPo.out _ _ hR4 I.below
   case true=>
    have hP2:=Zh (hnx rfl)
    go_wp2_with(first|(go_at_call 208;refine(cH _ HB.out).mono ?_;rintro r w6 ⟨rfl,p_⟩;clear k36 q0 q1;replace I:=Zm I p_;replace HB:=Zh (bthen HB.out p_);clear p_)|fail)
    exact⟨Zh ⟨k+1,by omega,by go_num,hP2,HB,I⟩,by simp[intOf];omega⟩
  ·obtain rfl:k=v.a.on:=by omega
   have hR4:Hid (R=SA):=by show _= _;rw[hR3.out,hOall.out HP.out];rfl
   clear HP hR3 hOhit hOall hBO HB
   go_wp2_with fail
   clear k36
   go_loopw[6,7] (fun i s7 wr=>Hid (∃k:Nat,k≤v.a.sn∧i= .int .i64 k∧Hid (∀j,j<k→sptFree e (e.asked.spots.getD j default)=true)∧Hid (Mem w wr [(g3,msgA e.asked v.a,30),(ge,endA e v,32)]))) (fun i _ _=>v.a.sn-(intOf i).toNat)
   case atStart=>exact Zh ⟨0,by omega,rfl,fun j hj=>by omega,I⟩
   case round=>
    clear I
    obtain⟨k,hk,rfl,HP,I⟩:=hrel.out
    clear hrel
    have k35:=I.cell 0 rfl 5
    change _=some (Value.slice v.a.sA v.a.sn v.a.sc)at k35
    have k3:=I.cell 1 rfl 3
    change _=some (Value.slice v.cA v.cn v.cc)at k3
    by_cases hlt:k<v.a.sn
    ·have hh:=hShit.out k hlt
     have hnx:sptFree e (e.asked.spots.getD k default)=true→∀j,j<k+1→sptFree e (e.asked.spots.getD j default)=true:=fun h j hj=>by
      by_cases e1:j=k
      ·subst e1;exact h
      ·exact HP.out j (by omega)
     have hF1:=hFhit.out (e.asked.spots.getD k default)
     have hF2:=hFall.out (e.asked.spots.getD k default)
     obtain⟨b,off,hcA⟩:=h.asked.spots.addr (by omega)
     have hxs:=fun W (hb:Below w.heap.size w W)=>spt_at (hcA▸h.asked.spots.keep hb) hlt
     generalize e.asked.spots.getD k default=y at*
     obtain⟨y0,y1⟩:=y
     dsimp only at hF1 hF2
     have r1:(k:Int)<(v.a.sn:Int):=by omega
     have r0:(0:Int)≤(k:Int):=by omega
     refine zh7 ?_ hh hnx hF1 hF2 hxs hcA HP;clear hh hnx hF1 hF2 hxs hcA HP;intro hh hnx hF1 hF2 hxs hcA HP
     go_wp2_with fail
     clear k35 k3
     go_loopw[7] (fun i wr=>Hid (∃j:Nat,j≤v.cn∧i= .int .i64 j∧Hid (∀i,i<j→(e.cells.getD i default).slot≠y0)∧Hid (Mem w wr [(g3,msgA e.asked v.a,30),(ge,endA e v,32)]))) (fun i _=>v.cn-(intOf i).toNat)
     case atStart=>exact Zh ⟨0,by omega,rfl,fun j hj=>by omega,I⟩
     case round=>
      clear I
      obtain⟨j,hj,rfl,HQ,I⟩:=hrel.out
      clear hrel
      have k35:=I.cell 0 rfl 5
      change _=some (Value.slice v.a.sA v.a.sn v.a.sc)at k35
      have k3:=I.cell 1 rfl 3
      change _=some (Value.slice v.cA v.cn v.cc)at k3
      by_cases hlt3:j<v.cn
      ·obtain⟨b2,off2,hcB⟩:=h.cells.addr (by omega)
       have hy:=(tcl_at (hcB▸h.cells.keep I.below) hlt3).1
       have hx:=(hxs _ I.below).1
       have hF3:=hF1.out j hlt3
       rw[hcA.out]at k35
       rw[hcB]at k3
       have hQ2:(e.cells.getD j default).slot≠y0→∀i,i<j+1→(e.cells.getD i default).slot≠y0:=fun h i hi=>by
        by_cases e1:i=j
        ·subst e1;exact h
        ·exact HQ.out i (by omega)
       generalize(e.cells.getD j default).slot=z at*
       dsimp only at hx
       have g1:=cell_regrown hy
       have g2:=cell_regrown hx
       have g3':=cell_regrown k35
       have g4:=cell_regrown k3
       have r1':(j:Int)<(v.cn:Int):=by omega
       have r0':(0:Int)≤(j:Int):=by omega
       refine zh3 ?_ hcB hQ2 hF3;clear hcB hQ2 hF3;intro hcB hQ2 hF3
       by_cases hz:z=y0
       ·have hR5:R=false:=by rw[hR4.out,hh.out (hF3.out hz)]
        have dz:(z==y0)=true:=by rw[beq_iff_eq];exact hz
        clear hy hx
        go_wp2_with fail
        refine wp_region_quiet_below (by kernel_rfl) (by kernel_rfl) ?_
        repeat(go_big_quiet_step(fail))
        refine wpQuiet_nil ?_
        rintro _ ⟨⟨dq,osq⟩,rfl⟩
        have p_:=below_regrown wr dq osq
        have HM3:=Zm I p_
        go_wp2_with fail
        exact hPo.out _ _ hR5 HM3.below
       ·have dz:(z==y0)=false:=by rw[beq_eq_false_iff_ne];exact hz
        have hQ3:=Zh (hQ2 hz)
        clear hy hx
        go_wp2_with fail
        refine wp_region_quiet_below (by kernel_rfl) (by kernel_rfl) ?_
        repeat(go_big_quiet_step(fail))
        refine wpQuiet_nil ?_
        rintro _ ⟨⟨dq,osq⟩,rfl⟩
        have p_:=below_regrown wr dq osq
        have HM3:=Zm I p_
        generalize grow (redrawn wr dq) osq=w2 at*
        clear p_
        go_wp2_with fail
        exact⟨Zh ⟨j+1,by omega,by go_num,hQ3,HM3⟩,by simp[intOf];omega⟩
      ·obtain rfl:j=v.cn:=by omega
       have hP2:=Zh (hnx (hF2 HQ.out))
       go_wp2_with fail
       exact⟨Zh ⟨k+1,by omega,by go_num,hP2,I⟩,by simp[intOf];omega⟩
    ·obtain rfl:k=v.a.sn:=by omega
     have hR5:R=true:=by rw[hR4.out,hSall.out HP.out]
     go_wp2_with fail
     exact hPo.out _ _ hR5 I.below
theorem rrem_any(e:Ed)(v:EdV)(w:World)(h:EdIs w v e):Calls Tryz.prog 211 #[.agg (endA e v)] w fun r w'=>r= .returned (.bool (rRemOk e))∧Below w.heap.size w w':=by
 have I:=Zh (Mem.start w)
 have cN:=fun W=>rnext_any e.last.number W
 have cA:=fun W (hb:Below w.heap.size w W)=>rans_any e.last e.reply v.l v.r W (h.last.keep hb) (h.reply.keep hb)
 rw[ansR_eq]at cA
 have hR:rRemOk e=(ansN e.last e.reply&&(decide (e.reply.code=0)&&if e.last.kind=6 then decide (e.number=0)else decide (e.number=nextN e.last.number))):=rfl
 generalize hP:(fun(r:Ending) w'=>r=Ending.returned (.bool (rRemOk e))∧Below w.heap.size w w')=P
 have hPo:∀B w',rRemOk e=B→Below w.heap.size w w'→P (.returned (.bool B)) w':=fun B w' e1 hb=>by rw[←hP];exact⟨by rw[e1],hb⟩
 clear hP
 generalize rRemOk e=KO at*
 generalize ansN e.last e.reply=AN at*
 generalize nextN e.last.number=NX at*
 have uM:=Tryz.underlying30
 refine zh6 ?_ h cN cA hR hPo uM;clear h cN cA hR hPo uM;intro h cN cA hR hPo uM
 go_enter Tryz.func211,Tryz.ntmps211
 go_upto_region 1 with(refine bA I 32 ?_;clear I;intro ge w1 I hG;clear hG)
 have kr:=I.cell 0 rfl 24
 change _=some (Value.int .i64 e.reply.code)at kr
 cases AN
 case false=>
  go_wp2_with(first
   |go_skip
   |(go_at_call 165;refine(cA _ I.below).mono ?_;rintro r w3 ⟨rfl,p_⟩;clear kr;replace I:=Zm I p_;clear p_;have kr:=I.cell 0 rfl 24;change _=some (Value.int .i64 e.reply.code)at kr;have kk:=I.cell 0 rfl 14;change _=some (Value.int .i64 e.last.kind)at kk;have kn:=I.cell 0 rfl 2;change _=some (Value.int .i64 e.number)at kn;have kl:=I.cell 0 rfl 16;change _=some (Value.int .i64 e.last.number)at kl)
   |(refine lP 0 I 14 (msgA e.last v.l) uM.out ?_)
   |(refine lP 0 I 21 (msgA e.reply v.r) uM.out ?_)
   |fail)
  exact hPo.out _ _ hR.out I.below
 by_cases hc:e.reply.code=0
 case neg=>
  have d1:(e.reply.code !=0)=true:=by rw[bne_iff_ne];exact hc
  have hR2:KO=false:=by rw[hR.out];simp[hc]
  go_wp2_with(first
   |go_skip
   |(go_at_call 165;refine(cA _ I.below).mono ?_;rintro r w3 ⟨rfl,p_⟩;clear kr;replace I:=Zm I p_;clear p_;have kr:=I.cell 0 rfl 24;change _=some (Value.int .i64 e.reply.code)at kr;have kk:=I.cell 0 rfl 14;change _=some (Value.int .i64 e.last.kind)at kk;have kn:=I.cell 0 rfl 2;change _=some (Value.int .i64 e.number)at kn;have kl:=I.cell 0 rfl 16;change _=some (Value.int .i64 e.last.number)at kl)
   |(refine lP 0 I 14 (msgA e.last v.l) uM.out ?_)
   |(refine lP 0 I 21 (msgA e.reply v.r) uM.out ?_)
   |fail)
  exact hPo.out _ _ hR2 I.below
 have d1:(e.reply.code !=0)=false:=by rw[bne_eq_false_iff_eq];exact hc
 have hR2:Hid (KO=if e.last.kind=6 then decide (e.number=0)else decide (e.number=NX)):=by show _= _;rw[hR.out];simp[hc]
 clear hR
 by_cases h6:e.last.kind=6
 case pos=>
  have d2:(e.last.kind==6)=true:=by rw[beq_iff_eq];exact h6
  have hR3:KO=(e.number==0):=by rw[hR2.out,if_pos h6,intB]
  go_wp2_with(first
   |go_skip
   |(go_at_call 165;refine(cA _ I.below).mono ?_;rintro r w3 ⟨rfl,p_⟩;clear kr;replace I:=Zm I p_;clear p_;have kr:=I.cell 0 rfl 24;change _=some (Value.int .i64 e.reply.code)at kr;have kk:=I.cell 0 rfl 14;change _=some (Value.int .i64 e.last.kind)at kk;have kn:=I.cell 0 rfl 2;change _=some (Value.int .i64 e.number)at kn;have kl:=I.cell 0 rfl 16;change _=some (Value.int .i64 e.last.number)at kl)
   |(refine lP 0 I 14 (msgA e.last v.l) uM.out ?_)
   |(refine lP 0 I 21 (msgA e.reply v.r) uM.out ?_)
   |fail)
  exact hPo.out _ _ hR3 I.below
 have d2:(e.last.kind==6)=false:=by rw[beq_eq_false_iff_ne];exact h6
 have hR3:Hid (KO=(e.number==NX)):=by show _= _;rw[hR2.out,if_neg h6,intB]
 clear hR2
 go_upto_region 5 with(first
  |go_skip
  |(go_at_call 165;refine(cA _ I.below).mono ?_;rintro r w3 ⟨rfl,p_⟩;clear kr;replace I:=Zm I p_;clear p_;have kr:=I.cell 0 rfl 24;change _=some (Value.int .i64 e.reply.code)at kr;have kk:=I.cell 0 rfl 14;change _=some (Value.int .i64 e.last.kind)at kk;have kn:=I.cell 0 rfl 2;change _=some (Value.int .i64 e.number)at kn;have kl:=I.cell 0 rfl 16;change _=some (Value.int .i64 e.last.number)at kl)
  |(refine lP 0 I 14 (msgA e.last v.l) uM.out ?_)
  |(refine lP 0 I 21 (msgA e.reply v.r) uM.out ?_)
  |fail)
 have g1:=cell_regrown kn
 have g2:=cell_regrown kl
 have cNu:∀d os,Calls Tryz.prog 163 #[.int .i64 e.last.number] (grow (redrawn w3 d) os) fun e w''=>e= .returned (.int .i64 NX)∧∃p:Regrown,w''=grow (redrawn w3 p.d) p.os:=fun d os=>Calls.regrown_of ((cN _).mono fun e w' hh=>⟨hh.1,by rw[←hh.2];exact Below.refl _ _⟩)
 replace cNu:=Zh cNu
 refine wp_region_quiet_below (by kernel_rfl) (by kernel_rfl) ?_
 repeat(go_big_quiet_step(exact cNu.out _ _))
 refine wpQuiet_nil ?_
 rintro _ ⟨⟨dq,osq⟩,rfl⟩
 have p_:=below_regrown w3 dq osq
 have HM3:=Zm I p_
 go_wp2_with fail
 exact hPo.out _ _ hR3.out HM3.below
def lisF(l:List Spt)(c:TCl):Bool:= !c.send&&decide (place c∈l)
def agK(p:Int)(c:TCl):Bool:=decide (c.kind=2)&&decide (c.peer=p)
theorem rchkE_any(e:Ed)(v:EdV)(w:World)(h:EdIs w v e):Calls Tryz.prog 164 #[.agg (endA e v)] w fun r w'=>r= .returned (.int .i64 (rChkE e))∧Below w.heap.size w w':=by
 have I:=Zh (Mem.start w)
 have cT:=fun W (hb:Below w.heap.size w W)=>rchkT_any ⟨e.node,512,e.cells⟩ ⟨v.cA,v.cn,v.cc⟩ W ⟨h.cells.keep hb,h.cc⟩
 have cA:=fun(hn:v.cn≤100000) W (hb:Below w.heap.size w W)=>rasked_any e v W (h.keep hb) hn
 have cR:=fun W (hb:Below w.heap.size w W)=>rrem_any e v W (h.keep hb)
 have cZ1:=fun W (hb:Below w.heap.size w W)=>rzero_any e.asked v.a W (h.asked.keep hb)
 have cZ2:=fun W (hb:Below w.heap.size w W)=>rzero_any e.last v.l W (h.last.keep hb)
 have cZ3:=fun W (hb:Below w.heap.size w W)=>rzero_any e.reply v.r W (h.reply.keep hb)
 have hR:rChkE e=if e.node<0∨31<e.node∨e.peer<0∨31<e.peer∨e.number<0∨255<e.number∨e.since<0∨1099511627776<e.since then 2
  else if e.node=e.peer∨(e.number=0∧0<e.cells.length)then 1
  else if chkT ⟨e.node,512,e.cells⟩≠0 then 1
  else if(e.cells.all (agK e.peer))=false then 1
  else if(e.opn=true∧rAskedOk e=false)∨(e.opn=false∧(zeroM e.asked=false∨e.since≠0))then 1
  else if(e.known=true∧rRemOk e=false)∨(e.known=false∧(zeroM e.last=false∨zeroM e.reply=false))then 1 else 0:=rfl
 have hlc:=h.cells.len
 rw[hlc]at hR
 have hct:chkT ⟨e.node,512,e.cells⟩=0→v.cn≤100000:=fun h0=>by
  have:=((chkT_iff _).1 h0).size
  dsimp only at this
  omega
 have hAhit:=fun k (hk:k<v.cn) (hh:agK e.peer (e.cells.getD k default)=false)=>all_hit (p:=agK e.peer) (l:=e.cells) (k:=k) (by rw[hlc];exact hk) hh
 have hAall:=fun(hh:∀k,k<v.cn→agK e.peer (e.cells.getD k default)=true)=>all_all (p:=agK e.peer) (l:=e.cells) (fun k hk=>hh k (by rw[←hlc];exact hk))
 generalize hP:(fun(r:Ending) w'=>r=Ending.returned (.int .i64 (rChkE e))∧Below w.heap.size w w')=P
 have hPo:∀B w',rChkE e=B→Below w.heap.size w w'→P (.returned (.int .i64 B)) w':=fun B w' e1 hb=>by rw[←hP];exact⟨by rw[e1],hb⟩
 clear hP
 generalize rChkE e=R at*
 generalize chkT ⟨e.node,512,e.cells⟩=CT at*
 generalize(e.cells.all (agK e.peer))=AL at*
 generalize rAskedOk e=AK at*
 generalize rRemOk e=RK at*
 generalize zeroM e.asked=Z1 at*
 generalize zeroM e.last=Z2 at*
 generalize zeroM e.reply=Z3 at*
 have uM:=Tryz.underlying30
 have uE:=Tryz.underlying32
 have hsm:=h.cells.small
 unfold maxLen at hsm
 refine zh12 ?_ h cT cA cR cZ1 cZ2 cZ3 hR hlc hct hAhit hAall;clear h cT cA cR cZ1 cZ2 cZ3 hR hlc hct hAhit hAall;intro h cT cA cR cZ1 cZ2 cZ3 hR hlc hct hAhit hAall
 refine zh3 ?_ hPo uM uE;clear hPo uM uE;intro hPo uM uE
 go_enter Tryz.func164,Tryz.ntmps164
 go_upto_region 1 with(refine bA I 32 ?_;clear I;intro ge w1 I hG;clear hG)
 have p0:=Zc I 0 0 (.int .i64 e.node)
 have p1:=Zc I 0 1 (.int .i64 e.peer)
 have p2:=Zc I 0 2 (.int .i64 e.number)
 have p3:=Zc I 0 3 (.slice v.cA v.cn v.cc)
 have p4:=Zc I 0 4 (.bool e.opn)
 have p5:=Zc I 0 5 (.int .i64 e.since)
 have p13:=Zc I 0 13 (.bool e.known)
 by_cases hr:e.node<0∨31<e.node∨e.peer<0∨31<e.peer∨e.number<0∨255<e.number∨e.since<0∨1099511627776<e.since
 case pos=>
  have hR2:R=2:=by rw[hR.out,if_pos hr]
  have hr2:e.node<0∨(¬e.node<0∧(32≤e.node∨(¬32≤e.node∧(e.peer<0∨(¬e.peer<0∧(32≤e.peer∨(¬32≤e.peer∧(e.number<0∨(¬e.number<0∧(255<e.number∨(¬255<e.number∧(e.since<0∨(¬e.since<0∧(1099511627776<e.since)))))))))))))):=by omega
  clear hr
  rcases hr2 with g0|⟨g0,g1|⟨g1,g2|⟨g2,g3|⟨g3,g4|⟨g4,g5|⟨g5,g6|⟨g6,g7⟩⟩⟩⟩⟩⟩⟩
  all_goals
   go_wp2_with fail
   exact hPo.out _ _ hR2 I.below
 have hR1:=Zh (hR.trans (if_neg hr))
 clear hR
 obtain⟨g0,g1,g2,g3,g4,g5,g6,g7⟩:¬e.node<0∧¬32≤e.node∧¬e.peer<0∧¬32≤e.peer∧¬e.number<0∧¬255<e.number∧¬e.since<0∧¬1099511627776<e.since:=by omega
 clear hr
 go_upto_region 3 with fail
 clear g0 g1 g2 g3 g4 g5 g6 g7
 by_cases hnp:e.node=e.peer
 case pos=>
  have hR2:R=1:=by rw[hR1.out,if_pos (.inl hnp)]
  have d1:(e.node==e.peer)=true:=by rw[beq_iff_eq];exact hnp
  go_wp2_with fail
  exact hPo.out _ _ hR2 I.below
 have d1:(e.node==e.peer)=false:=by rw[beq_eq_false_iff_ne];exact hnp
 by_cases hz:e.number=0∧0<v.cn
 case pos=>
  have hR2:R=1:=by rw[hR1.out,if_pos (.inr hz)]
  have d2:(e.number==0)=true:=by rw[beq_iff_eq];exact hz.1
  have d3:=hz.2
  have d4:(0:Int)<(v.cn:Int):=by omega
  go_wp2_with fail
  exact hPo.out _ _ hR2 I.below
 have hR2:=Zh (hR1.trans (if_neg (by rintro(hh|hh);exact hnp hh;exact hz hh)))
 clear hR1
 by_cases h0:e.number=0
 case pos=>
  have d2:(e.number==0)=true:=by rw[beq_iff_eq];exact h0
  have d3:¬(0:Int)<(v.cn:Int):=by intro hh;exact hz ⟨h0,by omega⟩
  have d4:decide ((0:Int)<(v.cn:Int))=false:=decide_eq_false d3
  clear hz
  by_cases hC:CT=0
  case neg=>
   have hR3:R=1:=by rw[hR2.out,if_pos hC]
   have d1:(CT !=0)=true:=by rw[bne_iff_ne];exact hC
   go_wp2_with(first|go_skip|(go_at_call 110;refine(cT _ I.below).mono ?_;rintro r w3 ⟨rfl,p_⟩;clear p0 p1 p2 p3 p4 p5 p13;replace I:=Zm I p_;clear p_;have p0:=Zc I 0 0 (.int .i64 e.node);have p1:=Zc I 0 1 (.int .i64 e.peer);have p2:=Zc I 0 2 (.int .i64 e.number);have p3:=Zc I 0 3 (.slice v.cA v.cn v.cc);have p4:=Zc I 0 4 (.bool e.opn);have p5:=Zc I 0 5 (.int .i64 e.since);have p13:=Zc I 0 13 (.bool e.known))|fail)
   exact hPo.out _ _ hR3 I.below
  have d1:(CT !=0)=false:=by rw[bne_eq_false_iff_eq];exact hC
  have hR3:=Zh (hR2.trans (if_neg (fun hh=>hh hC)))
  clear hR2
  have hn:=hct.out hC
  clear hct
  go_upto_region 7 with(first|go_skip|(go_at_call 110;refine(cT _ I.below).mono ?_;rintro r w3 ⟨rfl,p_⟩;clear p0 p1 p2 p3 p4 p5 p13;replace I:=Zm I p_;clear p_;have p0:=Zc I 0 0 (.int .i64 e.node);have p1:=Zc I 0 1 (.int .i64 e.peer);have p2:=Zc I 0 2 (.int .i64 e.number);have p3:=Zc I 0 3 (.slice v.cA v.cn v.cc);have p4:=Zc I 0 4 (.bool e.opn);have p5:=Zc I 0 5 (.int .i64 e.since);have p13:=Zc I 0 13 (.bool e.known))|fail)
  clear p0 p1 p2 p3 p4 p5 p13 d1 hC
  go_wp2_with fail
  go_loopw[3] (fun i wr=>Hid (∃k:Nat,k≤v.cn∧i= .int .i64 k∧Hid (∀j,j<k→agK e.peer (e.cells.getD j default)=true)∧Hid (Mem w wr [(ge,endA e v,32)]))) (fun i _=>v.cn-(intOf i).toNat)
  case atStart=>exact Zh ⟨0,by omega,rfl,fun j hj=>by omega,I⟩
  case round=>
   clear I
   obtain⟨k,hk,rfl,HQ,I⟩:=hrel.out
   clear hrel
   have p1:=Zc I 0 1 (.int .i64 e.peer)
   have p3:=Zc I 0 3 (.slice v.cA v.cn v.cc)
   by_cases hlt:k<v.cn
   ·exfalso;omega
   ·obtain rfl:k=v.cn:=by omega
    have hR4:=Zh (hR3.trans (if_neg (by rw[hAall.out HQ.out];decide)))
    clear hR3 HQ hAhit hAall
    go_upto_region 12 with fail
    clear p1 p3
    have p0:=Zc I 0 0 (.int .i64 e.node)
    have p1:=Zc I 0 1 (.int .i64 e.peer)
    have p2:=Zc I 0 2 (.int .i64 e.number)
    have p3:=Zc I 0 3 (.slice v.cA v.cn v.cc)
    have p4:=Zc I 0 4 (.bool e.opn)
    have p5:=Zc I 0 5 (.int .i64 e.since)
    have p13:=Zc I 0 13 (.bool e.known)
    clear p0 p1 p2 p3
    cases hop:e.opn
    case true=>
     rw[hop]at p4
     cases AK
     case false=>
      have hR5:R=1:=by rw[hR4.out,if_pos (.inl ⟨hop,rfl⟩)]
      go_wp2_with(first|go_skip|(refine lG 0 I uE.out ?_)|(go_at_call 209;refine(cA hn _ I.below).mono ?_;rintro r w3 ⟨rfl,p_⟩;replace p4:=Zk I p_ 0 4 p4;replace p5:=Zk I p_ 0 5 p5;replace p13:=Zk I p_ 0 13 p13;replace I:=Zm I p_;clear p_;dsimp only)|fail)
      exact hPo.out _ _ hR5 I.below
     have hR6:=Zh (hR4.trans (if_neg (by rw[hop];simp)))
     clear hR4
     go_upto_region 14 with(first|go_skip|(refine lG 0 I uE.out ?_)|(go_at_call 209;refine(cA hn _ I.below).mono ?_;rintro r w3 ⟨rfl,p_⟩;replace p4:=Zk I p_ 0 4 p4;replace p5:=Zk I p_ 0 5 p5;replace p13:=Zk I p_ 0 13 p13;replace I:=Zm I p_;clear p_;dsimp only)|fail)
     clear p4 p5
     cases hkn:e.known
     case true=>
      rw[hkn]at p13 hR6
      cases RK
      case false=>
       go_wp2_with(first|go_skip|(refine lG 0 I uE.out ?_)|(go_at_call 211;refine(cR _ I.below).mono ?_;rintro r w3 ⟨rfl,p_⟩;replace p13:=Zk I p_ 0 13 p13;replace I:=Zm I p_;clear p_;dsimp only)|fail)
       exact hPo.out _ _ (by rw[hR6.out];simp) I.below
      case true=>
       go_wp2_with(first|go_skip|(refine lG 0 I uE.out ?_)|(go_at_call 211;refine(cR _ I.below).mono ?_;rintro r w3 ⟨rfl,p_⟩;replace p13:=Zk I p_ 0 13 p13;replace I:=Zm I p_;clear p_;dsimp only)|fail)
       exact hPo.out _ _ (by rw[hR6.out];simp) I.below
     case false=>
      rw[hkn]at p13 hR6
      cases Z2
      case false=>
       go_wp2_with(first|go_skip|(refine lP 0 I 14 (msgA e.last v.l) uM.out ?_)|(go_at_call 210;refine(cZ2 _ I.below).mono ?_;rintro r w3 ⟨rfl,p_⟩;replace p13:=Zk I p_ 0 13 p13;replace I:=Zm I p_;clear p_;dsimp only)|fail)
       exact hPo.out _ _ (by rw[hR6.out];simp) I.below
      cases Z3
      case false=>
       have mz:Unit:=()
       go_wp2_with(first|go_skip|(refine lP 0 I 14 (msgA e.last v.l) uM.out ?_)|(refine lP 0 I 21 (msgA e.reply v.r) uM.out ?_)|(clear mz;go_at_call 210;refine(cZ2 _ I.below).mono ?_;rintro r w3 ⟨rfl,p_⟩;replace p13:=Zk I p_ 0 13 p13;replace I:=Zm I p_;clear p_;dsimp only)|(go_at_call 210;refine(cZ3 _ I.below).mono ?_;rintro r w3 ⟨rfl,p_⟩;replace p13:=Zk I p_ 0 13 p13;replace I:=Zm I p_;clear p_;dsimp only)|fail)
       exact hPo.out _ _ (by rw[hR6.out];simp) I.below
      case true=>
       have mz:Unit:=()
       go_wp2_with(first|go_skip|(refine lP 0 I 14 (msgA e.last v.l) uM.out ?_)|(refine lP 0 I 21 (msgA e.reply v.r) uM.out ?_)|(clear mz;go_at_call 210;refine(cZ2 _ I.below).mono ?_;rintro r w3 ⟨rfl,p_⟩;replace p13:=Zk I p_ 0 13 p13;replace I:=Zm I p_;clear p_;dsimp only)|(go_at_call 210;refine(cZ3 _ I.below).mono ?_;rintro r w3 ⟨rfl,p_⟩;replace p13:=Zk I p_ 0 13 p13;replace I:=Zm I p_;clear p_;dsimp only)|fail)
       exact hPo.out _ _ (by rw[hR6.out];simp) I.below
    case false=>
     rw[hop]at p4
     cases Z1
     case false=>
      have hR5:R=1:=by rw[hR4.out,if_pos (.inr ⟨hop,.inl rfl⟩)]
      go_wp2_with(first|go_skip|(refine lP 0 I 6 (msgA e.asked v.a) uM.out ?_)|(go_at_call 210;refine(cZ1 _ I.below).mono ?_;rintro r w3 ⟨rfl,p_⟩;replace p4:=Zk I p_ 0 4 p4;replace p5:=Zk I p_ 0 5 p5;replace p13:=Zk I p_ 0 13 p13;replace I:=Zm I p_;clear p_;dsimp only)|fail)
      exact hPo.out _ _ hR5 I.below
     by_cases hsi:e.since=0
     case neg=>
      have d2:(e.since !=0)=true:=by rw[bne_iff_ne];exact hsi
      have hR5:R=1:=by rw[hR4.out,if_pos (.inr ⟨hop,.inr hsi⟩)]
      go_wp2_with(first|go_skip|(refine lP 0 I 6 (msgA e.asked v.a) uM.out ?_)|(go_at_call 210;refine(cZ1 _ I.below).mono ?_;rintro r w3 ⟨rfl,p_⟩;replace p4:=Zk I p_ 0 4 p4;replace p5:=Zk I p_ 0 5 p5;replace p13:=Zk I p_ 0 13 p13;replace I:=Zm I p_;clear p_;dsimp only)|fail)
      exact hPo.out _ _ hR5 I.below
     have d2:(e.since !=0)=false:=by rw[bne_eq_false_iff_eq];exact hsi
     have hR6:=Zh (hR4.trans (if_neg (by rw[hop,hsi];simp)))
     clear hR4
     go_upto_region 14 with(first|go_skip|(refine lP 0 I 6 (msgA e.asked v.a) uM.out ?_)|(go_at_call 210;refine(cZ1 _ I.below).mono ?_;rintro r w3 ⟨rfl,p_⟩;replace p4:=Zk I p_ 0 4 p4;replace p5:=Zk I p_ 0 5 p5;replace p13:=Zk I p_ 0 13 p13;replace I:=Zm I p_;clear p_;dsimp only)|fail)
     clear d2
     clear p4 p5
     cases hkn:e.known
     case true=>
      rw[hkn]at p13 hR6
      cases RK
      case false=>
       go_wp2_with(first|go_skip|(refine lG 0 I uE.out ?_)|(go_at_call 211;refine(cR _ I.below).mono ?_;rintro r w3 ⟨rfl,p_⟩;replace p13:=Zk I p_ 0 13 p13;replace I:=Zm I p_;clear p_;dsimp only)|fail)
       exact hPo.out _ _ (by rw[hR6.out];simp) I.below
      case true=>
       go_wp2_with(first|go_skip|(refine lG 0 I uE.out ?_)|(go_at_call 211;refine(cR _ I.below).mono ?_;rintro r w3 ⟨rfl,p_⟩;replace p13:=Zk I p_ 0 13 p13;replace I:=Zm I p_;clear p_;dsimp only)|fail)
       exact hPo.out _ _ (by rw[hR6.out];simp) I.below
     case false=>
      rw[hkn]at p13 hR6
      cases Z2
      case false=>
       go_wp2_with(first|go_skip|(refine lP 0 I 14 (msgA e.last v.l) uM.out ?_)|(go_at_call 210;refine(cZ2 _ I.below).mono ?_;rintro r w3 ⟨rfl,p_⟩;replace p13:=Zk I p_ 0 13 p13;replace I:=Zm I p_;clear p_;dsimp only)|fail)
       exact hPo.out _ _ (by rw[hR6.out];simp) I.below
      cases Z3
      case false=>
       have mz:Unit:=()
       go_wp2_with(first|go_skip|(refine lP 0 I 14 (msgA e.last v.l) uM.out ?_)|(refine lP 0 I 21 (msgA e.reply v.r) uM.out ?_)|(clear mz;go_at_call 210;refine(cZ2 _ I.below).mono ?_;rintro r w3 ⟨rfl,p_⟩;replace p13:=Zk I p_ 0 13 p13;replace I:=Zm I p_;clear p_;dsimp only)|(go_at_call 210;refine(cZ3 _ I.below).mono ?_;rintro r w3 ⟨rfl,p_⟩;replace p13:=Zk I p_ 0 13 p13;replace I:=Zm I p_;clear p_;dsimp only)|fail)
       exact hPo.out _ _ (by rw[hR6.out];simp) I.below
      case true=>
       have mz:Unit:=()
       go_wp2_with(first|go_skip|(refine lP 0 I 14 (msgA e.last v.l) uM.out ?_)|(refine lP 0 I 21 (msgA e.reply v.r) uM.out ?_)|(clear mz;go_at_call 210;refine(cZ2 _ I.below).mono ?_;rintro r w3 ⟨rfl,p_⟩;replace p13:=Zk I p_ 0 13 p13;replace I:=Zm I p_;clear p_;dsimp only)|(go_at_call 210;refine(cZ3 _ I.below).mono ?_;rintro r w3 ⟨rfl,p_⟩;replace p13:=Zk I p_ 0 13 p13;replace I:=Zm I p_;clear p_;dsimp only)|fail)
       exact hPo.out _ _ (by rw[hR6.out];simp) I.below
 case neg=>
  have d2:(e.number==0)=false:=by rw[beq_eq_false_iff_ne];exact h0
  clear hz
  by_cases hC:CT=0
  case neg=>
   have hR3:R=1:=by rw[hR2.out,if_pos hC]
   have d1:(CT !=0)=true:=by rw[bne_iff_ne];exact hC
   go_wp2_with(first|go_skip|(go_at_call 110;refine(cT _ I.below).mono ?_;rintro r w3 ⟨rfl,p_⟩;clear p0 p1 p2 p3 p4 p5 p13;replace I:=Zm I p_;clear p_;have p0:=Zc I 0 0 (.int .i64 e.node);have p1:=Zc I 0 1 (.int .i64 e.peer);have p2:=Zc I 0 2 (.int .i64 e.number);have p3:=Zc I 0 3 (.slice v.cA v.cn v.cc);have p4:=Zc I 0 4 (.bool e.opn);have p5:=Zc I 0 5 (.int .i64 e.since);have p13:=Zc I 0 13 (.bool e.known))|fail)
   exact hPo.out _ _ hR3 I.below
  have d1:(CT !=0)=false:=by rw[bne_eq_false_iff_eq];exact hC
  have hR3:=Zh (hR2.trans (if_neg (fun hh=>hh hC)))
  clear hR2
  have hn:=hct.out hC
  clear hct
  go_upto_region 7 with(first|go_skip|(go_at_call 110;refine(cT _ I.below).mono ?_;rintro r w3 ⟨rfl,p_⟩;clear p0 p1 p2 p3 p4 p5 p13;replace I:=Zm I p_;clear p_;have p0:=Zc I 0 0 (.int .i64 e.node);have p1:=Zc I 0 1 (.int .i64 e.peer);have p2:=Zc I 0 2 (.int .i64 e.number);have p3:=Zc I 0 3 (.slice v.cA v.cn v.cc);have p4:=Zc I 0 4 (.bool e.opn);have p5:=Zc I 0 5 (.int .i64 e.since);have p13:=Zc I 0 13 (.bool e.known))|fail)
  clear p0 p1 p2 p3 p4 p5 p13 d1 hC
  go_wp2_with fail
  go_loopw[3] (fun i wr=>Hid (∃k:Nat,k≤v.cn∧i= .int .i64 k∧Hid (∀j,j<k→agK e.peer (e.cells.getD j default)=true)∧Hid (Mem w wr [(ge,endA e v,32)]))) (fun i _=>v.cn-(intOf i).toNat)
  case atStart=>exact Zh ⟨0,by omega,rfl,fun j hj=>by omega,I⟩
  case round=>
   clear I
   obtain⟨k,hk,rfl,HQ,I⟩:=hrel.out
   clear hrel
   have p1:=Zc I 0 1 (.int .i64 e.peer)
   have p3:=Zc I 0 3 (.slice v.cA v.cn v.cc)
   by_cases hlt:k<v.cn
   ·obtain⟨b,off,hcA⟩:=h.cells.addr (by omega)
    have hx:=tcl_at (hcA▸h.cells.keep I.below) hlt
    have hq3:=hx.2.2.1
    have hq5:=hx.2.2.2.2.1
    have J:=hAhit.out k hlt
    have hQ2:agK e.peer (e.cells.getD k default)=true→∀j,j<k+1→agK e.peer (e.cells.getD j default)=true:=fun h j hj=>by
     by_cases e1:j=k
     ·subst e1;exact h
     ·exact HQ.out j (by omega)
    have hag:agK e.peer (e.cells.getD k default)=(decide ((e.cells.getD k default).kind=2)&&decide ((e.cells.getD k default).peer=e.peer)):=rfl
    generalize agK e.peer (e.cells.getD k default)=QA at*
    generalize(e.cells.getD k default).kind=zk at*
    generalize(e.cells.getD k default).peer=zp at*
    rw[hcA]at p3
    clear hx
    have g1:=cell_regrown hq3
    have g2:=cell_regrown hq5
    have g3:=cell_regrown p1
    have g4:=cell_regrown p3
    have r1:(k:Int)<(v.cn:Int):=by omega
    have r0:(0:Int)≤(k:Int):=by omega
    refine zh4 ?_ hcA hQ2 J hag;clear hcA hQ2 J hag;intro hcA hQ2 J hag
    by_cases hk2:zk=2
    ·have dk:(zk !=2)=false:=by rw[bne_eq_false_iff_eq];exact hk2
     by_cases hp2:zp=e.peer
     ·have dp:(zp !=e.peer)=false:=by rw[bne_eq_false_iff_eq];exact hp2
      have hQ3:=Zh (hQ2 (by rw[hag.out];simp[hk2,hp2]))
      clear hq3 hq5
      go_wp2_with fail
      refine wp_region_quiet_below (by kernel_rfl) (by kernel_rfl) ?_
      repeat(go_big_quiet_step(fail))
      refine wpQuiet_nil ?_
      rintro _ ⟨⟨dq,osq⟩,rfl⟩
      have p_:=below_regrown wr dq osq
      have HM3:=Zm I p_
      generalize grow (redrawn wr dq) osq=w2 at*
      clear p_
      go_wp2_with fail
      exact⟨Zh ⟨k+1,by omega,by go_num,hQ3,HM3⟩,by simp[intOf];omega⟩
     ·have dp:(zp !=e.peer)=true:=by rw[bne_iff_ne];exact hp2
      have hR5:R=1:=by rw[hR3.out,if_pos (J.out (by rw[hag.out];simp[hp2]))]
      clear hq3 hq5
      go_wp2_with fail
      refine wp_region_quiet_below (by kernel_rfl) (by kernel_rfl) ?_
      repeat(go_big_quiet_step(fail))
      refine wpQuiet_nil ?_
      rintro _ ⟨⟨dq,osq⟩,rfl⟩
      have p_:=below_regrown wr dq osq
      have HM3:=Zm I p_
      go_wp2_with fail
      exact hPo.out _ _ hR5 HM3.below
    ·have dk:(zk !=2)=true:=by rw[bne_iff_ne];exact hk2
     have hR5:R=1:=by rw[hR3.out,if_pos (J.out (by rw[hag.out];simp[hk2]))]
     clear hq3 hq5
     go_wp2_with fail
     refine wp_region_quiet_below (by kernel_rfl) (by kernel_rfl) ?_
     repeat(go_big_quiet_step(fail))
     refine wpQuiet_nil ?_
     rintro _ ⟨⟨dq,osq⟩,rfl⟩
     have p_:=below_regrown wr dq osq
     have HM3:=Zm I p_
     go_wp2_with fail
     exact hPo.out _ _ hR5 HM3.below
   ·obtain rfl:k=v.cn:=by omega
    have hR4:=Zh (hR3.trans (if_neg (by rw[hAall.out HQ.out];decide)))
    clear hR3 HQ hAhit hAall
    go_upto_region 12 with fail
    clear p1 p3
    have p0:=Zc I 0 0 (.int .i64 e.node)
    have p1:=Zc I 0 1 (.int .i64 e.peer)
    have p2:=Zc I 0 2 (.int .i64 e.number)
    have p3:=Zc I 0 3 (.slice v.cA v.cn v.cc)
    have p4:=Zc I 0 4 (.bool e.opn)
    have p5:=Zc I 0 5 (.int .i64 e.since)
    have p13:=Zc I 0 13 (.bool e.known)
    clear p0 p1 p2 p3
    cases hop:e.opn
    case true=>
     rw[hop]at p4
     cases AK
     case false=>
      have hR5:R=1:=by rw[hR4.out,if_pos (.inl ⟨hop,rfl⟩)]
      go_wp2_with(first|go_skip|(refine lG 0 I uE.out ?_)|(go_at_call 209;refine(cA hn _ I.below).mono ?_;rintro r w3 ⟨rfl,p_⟩;replace p4:=Zk I p_ 0 4 p4;replace p5:=Zk I p_ 0 5 p5;replace p13:=Zk I p_ 0 13 p13;replace I:=Zm I p_;clear p_;dsimp only)|fail)
      exact hPo.out _ _ hR5 I.below
     have hR6:=Zh (hR4.trans (if_neg (by rw[hop];simp)))
     clear hR4
     go_upto_region 14 with(first|go_skip|(refine lG 0 I uE.out ?_)|(go_at_call 209;refine(cA hn _ I.below).mono ?_;rintro r w3 ⟨rfl,p_⟩;replace p4:=Zk I p_ 0 4 p4;replace p5:=Zk I p_ 0 5 p5;replace p13:=Zk I p_ 0 13 p13;replace I:=Zm I p_;clear p_;dsimp only)|fail)
     clear p4 p5
     cases hkn:e.known
     case true=>
      rw[hkn]at p13 hR6
      cases RK
      case false=>
       go_wp2_with(first|go_skip|(refine lG 0 I uE.out ?_)|(go_at_call 211;refine(cR _ I.below).mono ?_;rintro r w3 ⟨rfl,p_⟩;replace p13:=Zk I p_ 0 13 p13;replace I:=Zm I p_;clear p_;dsimp only)|fail)
       exact hPo.out _ _ (by rw[hR6.out];simp) I.below
      case true=>
       go_wp2_with(first|go_skip|(refine lG 0 I uE.out ?_)|(go_at_call 211;refine(cR _ I.below).mono ?_;rintro r w3 ⟨rfl,p_⟩;replace p13:=Zk I p_ 0 13 p13;replace I:=Zm I p_;clear p_;dsimp only)|fail)
       exact hPo.out _ _ (by rw[hR6.out];simp) I.below
     case false=>
      rw[hkn]at p13 hR6
      cases Z2
      case false=>
       go_wp2_with(first|go_skip|(refine lP 0 I 14 (msgA e.last v.l) uM.out ?_)|(go_at_call 210;refine(cZ2 _ I.below).mono ?_;rintro r w3 ⟨rfl,p_⟩;replace p13:=Zk I p_ 0 13 p13;replace I:=Zm I p_;clear p_;dsimp only)|fail)
       exact hPo.out _ _ (by rw[hR6.out];simp) I.below
      cases Z3
      case false=>
       have mz:Unit:=()
       go_wp2_with(first|go_skip|(refine lP 0 I 14 (msgA e.last v.l) uM.out ?_)|(refine lP 0 I 21 (msgA e.reply v.r) uM.out ?_)|(clear mz;go_at_call 210;refine(cZ2 _ I.below).mono ?_;rintro r w3 ⟨rfl,p_⟩;replace p13:=Zk I p_ 0 13 p13;replace I:=Zm I p_;clear p_;dsimp only)|(go_at_call 210;refine(cZ3 _ I.below).mono ?_;rintro r w3 ⟨rfl,p_⟩;replace p13:=Zk I p_ 0 13 p13;replace I:=Zm I p_;clear p_;dsimp only)|fail)
       exact hPo.out _ _ (by rw[hR6.out];simp) I.below
      case true=>
       have mz:Unit:=()
       go_wp2_with(first|go_skip|(refine lP 0 I 14 (msgA e.last v.l) uM.out ?_)|(refine lP 0 I 21 (msgA e.reply v.r) uM.out ?_)|(clear mz;go_at_call 210;refine(cZ2 _ I.below).mono ?_;rintro r w3 ⟨rfl,p_⟩;replace p13:=Zk I p_ 0 13 p13;replace I:=Zm I p_;clear p_;dsimp only)|(go_at_call 210;refine(cZ3 _ I.below).mono ?_;rintro r w3 ⟨rfl,p_⟩;replace p13:=Zk I p_ 0 13 p13;replace I:=Zm I p_;clear p_;dsimp only)|fail)
       exact hPo.out _ _ (by rw[hR6.out];simp) I.below
    case false=>
     rw[hop]at p4
     cases Z1
     case false=>
      have hR5:R=1:=by rw[hR4.out,if_pos (.inr ⟨hop,.inl rfl⟩)]
      go_wp2_with(first|go_skip|(refine lP 0 I 6 (msgA e.asked v.a) uM.out ?_)|(go_at_call 210;refine(cZ1 _ I.below).mono ?_;rintro r w3 ⟨rfl,p_⟩;replace p4:=Zk I p_ 0 4 p4;replace p5:=Zk I p_ 0 5 p5;replace p13:=Zk I p_ 0 13 p13;replace I:=Zm I p_;clear p_;dsimp only)|fail)
      exact hPo.out _ _ hR5 I.below
     by_cases hsi:e.since=0
     case neg=>
      have d2:(e.since !=0)=true:=by rw[bne_iff_ne];exact hsi
      have hR5:R=1:=by rw[hR4.out,if_pos (.inr ⟨hop,.inr hsi⟩)]
      go_wp2_with(first|go_skip|(refine lP 0 I 6 (msgA e.asked v.a) uM.out ?_)|(go_at_call 210;refine(cZ1 _ I.below).mono ?_;rintro r w3 ⟨rfl,p_⟩;replace p4:=Zk I p_ 0 4 p4;replace p5:=Zk I p_ 0 5 p5;replace p13:=Zk I p_ 0 13 p13;replace I:=Zm I p_;clear p_;dsimp only)|fail)
      exact hPo.out _ _ hR5 I.below
     have d2:(e.since !=0)=false:=by rw[bne_eq_false_iff_eq];exact hsi
     have hR6:=Zh (hR4.trans (if_neg (by rw[hop,hsi];simp)))
     clear hR4
     go_upto_region 14 with(first|go_skip|(refine lP 0 I 6 (msgA e.asked v.a) uM.out ?_)|(go_at_call 210;refine(cZ1 _ I.below).mono ?_;rintro r w3 ⟨rfl,p_⟩;replace p4:=Zk I p_ 0 4 p4;replace p5:=Zk I p_ 0 5 p5;replace p13:=Zk I p_ 0 13 p13;replace I:=Zm I p_;clear p_;dsimp only)|fail)
     clear d2
     clear p4 p5
     cases hkn:e.known
     case true=>
      rw[hkn]at p13 hR6
      cases RK
      case false=>
       go_wp2_with(first|go_skip|(refine lG 0 I uE.out ?_)|(go_at_call 211;refine(cR _ I.below).mono ?_;rintro r w3 ⟨rfl,p_⟩;replace p13:=Zk I p_ 0 13 p13;replace I:=Zm I p_;clear p_;dsimp only)|fail)
       exact hPo.out _ _ (by rw[hR6.out];simp) I.below
      case true=>
       go_wp2_with(first|go_skip|(refine lG 0 I uE.out ?_)|(go_at_call 211;refine(cR _ I.below).mono ?_;rintro r w3 ⟨rfl,p_⟩;replace p13:=Zk I p_ 0 13 p13;replace I:=Zm I p_;clear p_;dsimp only)|fail)
       exact hPo.out _ _ (by rw[hR6.out];simp) I.below
     case false=>
      rw[hkn]at p13 hR6
      cases Z2
      case false=>
       go_wp2_with(first|go_skip|(refine lP 0 I 14 (msgA e.last v.l) uM.out ?_)|(go_at_call 210;refine(cZ2 _ I.below).mono ?_;rintro r w3 ⟨rfl,p_⟩;replace p13:=Zk I p_ 0 13 p13;replace I:=Zm I p_;clear p_;dsimp only)|fail)
       exact hPo.out _ _ (by rw[hR6.out];simp) I.below
      cases Z3
      case false=>
       have mz:Unit:=()
       go_wp2_with(first|go_skip|(refine lP 0 I 14 (msgA e.last v.l) uM.out ?_)|(refine lP 0 I 21 (msgA e.reply v.r) uM.out ?_)|(clear mz;go_at_call 210;refine(cZ2 _ I.below).mono ?_;rintro r w3 ⟨rfl,p_⟩;replace p13:=Zk I p_ 0 13 p13;replace I:=Zm I p_;clear p_;dsimp only)|(go_at_call 210;refine(cZ3 _ I.below).mono ?_;rintro r w3 ⟨rfl,p_⟩;replace p13:=Zk I p_ 0 13 p13;replace I:=Zm I p_;clear p_;dsimp only)|fail)
       exact hPo.out _ _ (by rw[hR6.out];simp) I.below
      case true=>
       have mz:Unit:=()
       go_wp2_with(first|go_skip|(refine lP 0 I 14 (msgA e.last v.l) uM.out ?_)|(refine lP 0 I 21 (msgA e.reply v.r) uM.out ?_)|(clear mz;go_at_call 210;refine(cZ2 _ I.below).mono ?_;rintro r w3 ⟨rfl,p_⟩;replace p13:=Zk I p_ 0 13 p13;replace I:=Zm I p_;clear p_;dsimp only)|(go_at_call 210;refine(cZ3 _ I.below).mono ?_;rintro r w3 ⟨rfl,p_⟩;replace p13:=Zk I p_ 0 13 p13;replace I:=Zm I p_;clear p_;dsimp only)|fail)
       exact hPo.out _ _ (by rw[hR6.out];simp) I.below
def btK(peer:Int)(c:TCl):Bool:=decide (c.kind=2)&&decide (c.peer=peer)
theorem bt_succ {peer:Int} {l:List TCl} {k:Nat}(h:k<l.length):(l.take (k+1)).filter (btK peer)=(l.take k).filter (btK peer)++(if btK peer (l.getD k default)=true then [l.getD k default]else []):=by
 rw[take_snoc h,List.filter_append]
 generalize l.getD k default=y
 cases hq:btK peer y<;>simp[hq]
theorem bt_len(peer:Int)(l:List TCl)(k:Nat):((l.take k).filter (btK peer)).length≤k:=by
 have h1:=List.length_filter_le (btK peer) (l.take k)
 have h2:=List.length_take_le k l
 omega
theorem rbetween_any(t:Tab)(v:TabV)(peer:Int)(w:World)(h:TabIs w v t):Calls Tryz.prog 202 #[.agg (tabA t v),.int .i64 peer] w (BtPost t peer w):=by
 have I:=Zh (Mem.start w)
 have hB:betwN t peer=if chkT t=0 then t.cells.filter (btK peer)else []:=rfl
 have cK:=fun W (hb:Below w.heap.size w W)=>rchkT_any t v W (h.keep hb)
 have hl:=h.cells.len
 have hcE:=h.cells
 have hsz:chkT t=0→v.n≤512:=fun e=>by have:=((chkT_iff t).1 e).size;omega
 have hsucc:=fun k (hk:k<v.n)=>bt_succ (peer:=peer) (l:=t.cells) (k:=k) (by rw[hl];exact hk)
 have hle:=fun k=>bt_len peer t.cells k
 have hall:t.cells.take v.n=t.cells:=List.take_of_length_le (by rw[hl];exact Nat.le_refl _)
 have J:∀x:TCl,btK peer x=(decide (x.kind=2)&&decide (x.peer=peer)):=fun x=>rfl
 have hP:∀L A n c w',betwN t peer=L→TclS w' A n L→Below w.heap.size w w'→BtPost t peer w (.returned (.slice A n c)) w':=fun L A n c w' e1 h1 h2=>by subst e1;exact⟨A,n,c,rfl,h1,h2⟩
 generalize BtPost t peer w=P at*
 generalize betwN t peer=R at*
 generalize chkT t=C1 at*
 have uM:=Tryz.underlying37
 have uT:=Tryz.underlying85
 refine zh12 ?_ cK hB hP hl hcE hsz hsucc hle hall J uM uT;clear cK hB hP hl hcE hsz hsucc hle hall J uM uT;intro cK hB hP hl hcE hsz hsucc hle hall J uM uT
 clear h
 go_enter Tryz.func202,Tryz.ntmps202
 go_upto_region 1 with(first|(refine bA I 37 ?_;clear I;intro gt w1 I hG;clear hG)|fail)
 by_cases hc:C1=0
 case neg=>
  have d1:(C1 !=0)=true:=by rw[bne_iff_ne];exact hc
  have hR:R= []:=by rw[hB.out,if_neg hc]
  go_wp2_with(first|go_skip|(refine lM 0 I uM.out ?_)|(go_at_call 110;refine(cK _ I.below).mono ?_;rintro r w3 ⟨rfl,p_⟩;replace I:=Zm I p_;clear p_)|fail)
  exact hP.out [] none 0 _ _ hR Sls.nil I.below
 have d1:(C1 !=0)=false:=by rw[bne_eq_false_iff_eq];exact hc
 have hn5:=hsz.out hc
 have hR:=Zh (hB.trans (if_pos hc))
 clear hB hsz
 go_upto_region 4 with(first|go_skip|(refine lM 0 I uM.out ?_)|(go_at_call 110;refine(cK _ I.below).mono ?_;rintro r w3 ⟨rfl,p_⟩;replace I:=Zm I p_;clear p_)|fail)
 clear cK d1 hc
 go_wp2_with fail
 go_loopw[5,6] (fun o i wr=>Hid (∃(k n1:Nat) (A1:Option Addr) (c1:Nat),k≤v.n∧i= .int .i64 k∧o= .slice A1 n1 c1∧Hid (((t.cells.take k).filter (btK peer)).length=n1)∧Hid (wr.ownsRow w.heap.size 85 6 (.slice A1 n1 c1) n1 (((t.cells.take k).filter (btK peer)).flatMap tclE))∧Hid (Mem w wr [(gt,tabA t v,37)]))) (fun _ i _=>v.n-(intOf i).toNat)
 case atStart=>exact Zh ⟨0,0,none,0,by omega,rfl,rfl,rfl,World.ownsRow_nil _ _ _ _,I⟩
 case round=>
  clear I
  obtain⟨k,n1,A1,c1,hk,rfl,rfl,HL,HO,I⟩:=hrel.out
  clear hrel
  have p2:=Zc I 0 2 (.slice v.A v.n v.c)
  by_cases hlt:k<v.n
  ·obtain⟨b,off,hcA⟩:=hcE.addr (by omega)
   have hx:=tcl_at (hcA▸hcE.keep I.below) hlt
   have hst:=hsucc.out k hlt
   have hmk:=hle.out k
   have HL3:=HL.out
   rw[HL3]at hmk
   have hFx:=J.out (t.cells.getD k default)
   generalize hxq:t.cells.getD k default=x at*
   clear hxq
   generalize btK peer x=Q at*
   rw[hcA]at p2
   replace hcA:=Zh hcA
   obtain⟨x0,x1,x2,x3,x4,x5⟩:=x
   obtain⟨q0,q1,q2,q3,q4,q5⟩:=hx
   dsimp only at q0 q1 q2 q3 q4 q5 hFx
   have r1:(k:Int)<(v.n:Int):=by omega
   have r0:(0:Int)≤(k:Int):=by omega
   replace hst:=Zh hst
   by_cases hq:Q=true
   ·have HE:Hid ((t.cells.take (k+1)).filter (btK peer)=(t.cells.take k).filter (btK peer)++ [⟨x0,x1,x2,x3,x4,x5⟩]):=by show _= _;rw[hst.out,if_pos hq]
    obtain⟨rfl,rfl⟩:x2=2∧x4=peer:=by rw[hq]at hFx;simpa using hFx.symm
    have de:(x4==x4)=true:=beq_self_eq_true x4
    clear hFx hq
    go_wp2_with(first|go_skip|(at_builtin;refine wpList_append_sls eltT _ rfl _ _ rfl w.heap.size (.slice A1 n1 c1) ((t.cells.take k).filter (btK x4)) rfl (by rw[HL3];exact HO.alloc _) _ 1 1 [⟨x0,x1,2,x3,x4,x5⟩] rfl (Sls.one (t:=85) (Blk.new _ _ _)) (by rw[HL3];simp;omega) (by exact(ballN I.below _).size) ?_;intro v1 w7 HO1 HG1 _;rw[List.length_append,HL3,List.length_singleton]at HO1;obtain⟨A2,c2,rfl⟩:=own_slice HO1;replace HO1:=Zh HO1;have HM7:=Zh ((I.keep (ball _ _)).row (HO.alloc _) HG1 (Nat.le_refl _) (apart_of (by rfl)));clear HG1)|fail)
    rw[←HE.out]at HO1
    have HL2:Hid (((t.cells.take (k+1)).filter (btK x4)).length=n1+1):=by show _= _;rw[HE.out,List.length_append,HL3];rfl
    exact⟨Zh ⟨k+1,n1+1,A2,c2,by omega,by go_num,rfl,HL2,HO1,HM7⟩,by simp[intOf];omega⟩
   ·have HE:Hid ((t.cells.take (k+1)).filter (btK peer)=(t.cells.take k).filter (btK peer)):=by show _= _;rw[hst.out,if_neg hq,List.append_nil]
    rw[←HE.out]at HO HL
    by_cases hk2:x2=2
    ·have d1:(x2==2)=true:=by rw[beq_iff_eq];exact hk2
     have d2:(x4==peer)=false:=by
      rw[beq_eq_false_iff_ne];intro e4;apply hq;rw[hFx,hk2,e4];simp
     clear hFx hq
     go_wp2_with(first|go_skip|fail)
     exact⟨Zh ⟨k+1,n1,A1,c1,by omega,by go_num,rfl,HL,HO,I⟩,by simp[intOf];omega⟩
    ·have d1:(x2==2)=false:=by rw[beq_eq_false_iff_ne];exact hk2
     clear hFx hq
     go_wp2_with(first|go_skip|fail)
     exact⟨Zh ⟨k+1,n1,A1,c1,by omega,by go_num,rfl,HL,HO,I⟩,by simp[intOf];omega⟩
  ·obtain rfl:k=v.n:=by omega
   rw[hall.out]at HL HO
   go_wp2_with fail
   exact hP.out _ A1 n1 c1 _ hR.out (Sls.of_owns tclE_len HO.out HL.out).2 I.below
theorem tcl_range {w:World} {b o:Nat} {x:TCl}(h:TclAt w b o x):w.rangeAt b o (tclA x).toList:=fun j v hv=>by
 obtain⟨h0,h1,h2,h3,h4,h5⟩:=h
 match j,hv with
 |0,hv=>rw[show some v=some _ from hv.symm];exact h0
 |1,hv=>rw[show some v=some _ from hv.symm];exact h1
 |2,hv=>rw[show some v=some _ from hv.symm];exact h2
 |3,hv=>rw[show some v=some _ from hv.symm];exact h3
 |4,hv=>rw[show some v=some _ from hv.symm];exact h4
 |5,hv=>rw[show some v=some _ from hv.symm];exact h5
theorem rfull_any(t:Tab)(e:Ed)(vt:TabV)(v:EdV)(w:World)(ht:TabIs w vt t)(h:EdIs w v e):Calls Tryz.prog 151 #[.agg (tabA t vt),.agg (endA e v)] w (FullPost t e w):=by
 obtain⟨cA,cn,cc,va,vl,vr⟩:=v
 have I:=Zh (Mem.start w)
 have cE:=fun W (hb:Below w.heap.size w W)=>rchkE_any e _ W (h.keep hb)
 rw[rChkE_eq]at cE
 have cT:=fun W (hb:Below w.heap.size w W)=>rchkT_any t vt W (ht.keep hb)
 have cB:=fun W (hb:Below w.heap.size w W)=>rbetween_any t vt e.peer W (ht.keep hb)
 have cAd:=fun u vu c W (hu:TabIs W vu u)=>radd_any u vu c W hu
 have hcE:=h.cells
 have hlE:=h.cells.len
 have hsm:=h.cells.small
 dsimp only at hcE hlE hsm
 unfold maxLen at hsm
 have hPb:=fun F w' e1 e2 e3=>fullPost_bad (t:=t) (e:=e) (F:=F) (w:=w) (w':=w') e1 e2 e3
 have hPo:=fun u w' v' h1 h2 h3 h4=>fullPost_ok (t:=t) (u:=u) (e:=e) (w:=w) (w':=w') h1 h2 (v:=v') h3 h4
 have J:fullC t e=if chkE e≠0∨chkT t≠0∨t.node≠e.node∨(betwN t e.peer).length≠0 then 1 else if addsN t e.cells=none then 16 else 0:=rfl
 generalize FullPost t e w=P at*
 generalize fullC t e=F at*
 generalize chkE e=C1 at*
 generalize chkT t=C2 at*
 have uE:=Tryz.underlying32
 have uM:=Tryz.underlying37
 have uT:=Tryz.underlying85
 have hT0:=ht
 refine zh12 ?_ cE cT cB cAd hPb hPo J uE uM uT ht h;clear cE cT cB cAd hPb hPo J uE uM uT ht h;intro cE cT cB cAd hPb hPo J uE uM uT ht h
 replace hcE:=Zh hcE
 replace hlE:=Zh hlE
 replace hT0:=Zh hT0
 go_enter Tryz.func151,Tryz.ntmps151
 go_upto_region 1 with(first|(refine bA I 37 ?_;clear I;intro gt w1 I hG;clear hG)|(refine bA I 32 ?_;clear I;intro ge w1 I hG;clear hG)|(refine wpList_allocA I rfl 37 rfl (by first|exact msgInfo|exact edInfo|exact tabInfo|exact info_tcl|exact info_spt) ?_;clear I;intro g4 w1 I hG;clear hG))
 have p0:=Zc I 2 0 (.int .i64 t.node)
 have q0:=Zc I 1 0 (.int .i64 e.node)
 have q1:=Zc I 1 1 (.int .i64 e.peer)
 by_cases hC1:C1=0
 case neg=>
  have hF1:=Zh (J.trans (if_pos (.inl hC1)))
  have d1:(C1 !=0)=true:=by rw[bne_iff_ne];exact hC1
  go_wp2_with(first|go_skip|(refine lM 1 I uE.out ?_)|(refine sF 0 I ?_;clear I;intro w4 I hG4;simp only[List.set]at I)|(go_at_call 164;refine(cE _ I.below).mono ?_;rintro r w3 ⟨rfl,p_⟩;clear p0 q0 q1;replace I:=Zm I p_;clear p_)|fail)
  try simp only[Exit.inBlock,Exit.then]
  refine rT I 0 uM.out ?_
  exact hPb.out _ _ hF1.out (by decide) I.below
 have d1:(C1 !=0)=false:=by rw[bne_eq_false_iff_eq];exact hC1
 by_cases hC2:C2=0
 case neg=>
  have hF1:=Zh (J.trans (if_pos (.inr (.inl hC2))))
  have d2:(C2 !=0)=true:=by rw[bne_iff_ne];exact hC2
  go_wp2_with(first|go_skip|(refine lM 1 I uE.out ?_)|(refine lG 2 I uM.out ?_)|(refine sF 0 I ?_;clear I;intro w4 I hG4;simp only[List.set]at I)|(go_at_call 164;refine(cE _ I.below).mono ?_;rintro r w3 ⟨rfl,p_⟩;replace p0:=Zk I p_ 2 0 p0;replace q0:=Zk I p_ 1 0 q0;replace q1:=Zk I p_ 1 1 q1;replace I:=Zm I p_;clear p_)|(go_at_call 110;refine(cT _ I.below).mono ?_;rintro r w3 ⟨rfl,p_⟩;clear p0 q0 q1;replace I:=Zm I p_;clear p_)|fail)
  try simp only[Exit.inBlock,Exit.then]
  refine rT I 0 uM.out ?_
  exact hPb.out _ _ hF1.out (by decide) I.below
 have d2:(C2 !=0)=false:=by rw[bne_eq_false_iff_eq];exact hC2
 by_cases hN:t.node=e.node
 case neg=>
  have hF1:=Zh (J.trans (if_pos (.inr (.inr (.inl hN)))))
  have d3:(t.node !=e.node)=true:=by rw[bne_iff_ne];exact hN
  go_wp2_with(first|go_skip|(refine lM 1 I uE.out ?_)|(refine lG 2 I uM.out ?_)|(refine sF 0 I ?_;clear I;intro w4 I hG4;simp only[List.set]at I)|(go_at_call 164;refine(cE _ I.below).mono ?_;rintro r w3 ⟨rfl,p_⟩;replace p0:=Zk I p_ 2 0 p0;replace q0:=Zk I p_ 1 0 q0;replace q1:=Zk I p_ 1 1 q1;replace I:=Zm I p_;clear p_)|(go_at_call 110;refine(cT _ I.below).mono ?_;rintro r w3 ⟨rfl,p_⟩;replace p0:=Zk I p_ 2 0 p0;replace q0:=Zk I p_ 1 0 q0;replace q1:=Zk I p_ 1 1 q1;replace I:=Zm I p_;clear p_)|fail)
  try simp only[Exit.inBlock,Exit.then]
  refine rT I 0 uM.out ?_
  exact hPb.out _ _ hF1.out (by decide) I.below
 have d3:(t.node !=e.node)=false:=by rw[bne_eq_false_iff_eq];exact hN
 replace hN:=Zh hN
 by_cases hB:(betwN t e.peer).length=0
 case neg=>
  have hF1:=Zh (J.trans (if_pos (.inr (.inr (.inr hB)))))
  replace hB:=Zh hB
  go_wp2_with(first|go_skip|(refine lM 1 I uE.out ?_)|(refine lG 2 I uM.out ?_)|(refine sF 0 I ?_;clear I;intro w4 I hG4;simp only[List.set]at I)|(go_at_call 164;refine(cE _ I.below).mono ?_;rintro r w3 ⟨rfl,p_⟩;replace p0:=Zk I p_ 2 0 p0;replace q0:=Zk I p_ 1 0 q0;replace q1:=Zk I p_ 1 1 q1;replace I:=Zm I p_;clear p_)|(go_at_call 110;refine(cT _ I.below).mono ?_;rintro r w3 ⟨rfl,p_⟩;replace p0:=Zk I p_ 2 0 p0;replace q0:=Zk I p_ 1 0 q0;replace q1:=Zk I p_ 1 1 q1;replace I:=Zm I p_;clear p_)|(go_at_call 202;refine(cB _ I.below).mono ?_;rintro r w3 ⟨Ab,nb,cb,rfl,hS,p_⟩;have hnb:(0:Int)<(nb:Int):=(by have:=hS.len;have:=hB.out;omega);clear p0 q0 q1 hS;replace I:=Zm I p_;clear p_)|fail)
  try simp only[Exit.inBlock,Exit.then]
  refine rT I 0 uM.out ?_
  exact hPb.out _ _ hF1.out (by decide) I.below
 have hok:=Zh (show(C1≠0∨C2≠0∨t.node≠e.node∨(betwN t e.peer).length≠0)→False by
  rintro(a|a|a|a)
  ·exact a hC1
  ·exact a hC2
  ·exact a hN.out
  ·exact a hB)
 have hF2:=Zh (J.trans (if_neg hok.out))
 clear J
 replace hB:=Zh hB
 go_upto_region 3 with(first|go_skip|(refine lM 1 I uE.out ?_)|(refine lG 2 I uM.out ?_)|(go_at_call 164;refine(cE _ I.below).mono ?_;rintro r w3 ⟨rfl,p_⟩;replace p0:=Zk I p_ 2 0 p0;replace q0:=Zk I p_ 1 0 q0;replace q1:=Zk I p_ 1 1 q1;replace I:=Zm I p_;clear p_)|(go_at_call 110;refine(cT _ I.below).mono ?_;rintro r w3 ⟨rfl,p_⟩;replace p0:=Zk I p_ 2 0 p0;replace q0:=Zk I p_ 1 0 q0;replace q1:=Zk I p_ 1 1 q1;replace I:=Zm I p_;clear p_)|(go_at_call 202;refine(cB _ I.below).mono ?_;rintro r w3 ⟨Ab,nb,cb,rfl,hS,p_⟩;have hnb:nb=0:=(by have:=hS.len;have:=hB.out;omega);subst hnb;clear p0 q0 q1 hS;replace I:=Zm I p_;clear p_)|fail)
 clear d1 d2 d3 cE cT cB hC1 hC2
 have mk1:Unit:=()
 go_wp2_with(first|(refine lM 2 I uM.out ?_)|(clear mk1;(refine wpList_allocA I rfl 37 rfl (by first|exact msgInfo|exact edInfo|exact tabInfo|exact info_tcl|exact info_spt) ?_;clear I;intro g6 w1 I hG;clear hG))|(refine sF 0 I ?_;clear I;intro w4 I hG4;simp only[List.set]at I)|fail)
 replace hT0:=Zh (hT0.keep I.below)
 go_loopw[7,8,9] (fun i _ _ wr=>∃(k:Nat) (u:Tab) (vu:TabV),k≤cn∧i= .int .i64 k∧Hid (addsN t (e.cells.take k)=some u)∧Hid (TabIs wr vu u)∧Hid (Mem w wr [(g6,tabA u vu,37),(g4,#[.int .i64 0,.int .i64 0,.slice none 0 0],37),(ge,endA e ⟨cA,cn,cc,va,vl,vr⟩,32),(gt,tabA t vt,37)])) (fun i _ _ _=>cn-(intOf i).toNat)
 case atStart=>exact⟨0,t,vt,by omega,rfl,rfl,hT0,I⟩
 case round=>
  clear I hT0
  obtain⟨k,u,vu,hk,rfl,hA,hT,I⟩:=hrel
  have q3:=Zc I 2 3 (.slice cA cn cc)
  by_cases hlt2:k<cn
  ·obtain⟨b,off,rfl⟩:=hcE.addr (by omega)
   have hxs:=Zh (fun W (hb:Below w.heap.size w W)=>tcl_at (hcE.keep hb) hlt2)
   have hst:addsN t (e.cells.take (k+1))=if addC u (e.cells.getD k default)=0 then some (addN u (e.cells.getD k default))else none:=by
    have e1:e.cells.take (k+1)=e.cells.take k++ [e.cells.getD k default]:=by
     rw[List.take_add_one,List.getElem?_eq_getElem (by rw[hlE.out];exact hlt2)]
     simp[List.getD,List.getElem?_eq_getElem (show k<e.cells.length by rw[hlE.out];exact hlt2)]
    rw[e1,addsN_snoc,hA.out];rfl
   have hbad:addsN t (e.cells.take (k+1))=none→addsN t e.cells=none:=fun h1=>by
    have:=addsN_none _ (e.cells.drop (k+1)) t h1
    rwa[List.take_append_drop]at this
   have cX:=cAd.out u vu (e.cells.getD k default)
   unfold AddPost at cX
   generalize e.cells.getD k default=x at*
   generalize addC u x=AC at*
   generalize addN u x=AN at*
   have r1:(k:Int)<(cn:Int):=by omega
   have r0:(0:Int)≤(k:Int):=by omega
   change Hid (∀W,_→Calls _ _ #[_,.agg (tclA x)] _ _)at cX
   refine zh3 ?_ hst hbad cX;clear hst hbad cX;intro hst hbad cX
   go_upto_region 7 with fail
   clear q3
   replace hT:=Zh (hT.keep ((Below.refl _ _).drew))
   replace I:=Zh (I.keep ((Below.refl _ _).drew))
   refine wp_region_pt (fun w'=>Mem w w' _) 12 (.take 0 (.take 1 (.take 2 (.take 3 (.take 4 (.take 5 (.fork 6 (.take 7 (.take 8 (.take 9 (.only 10 (.only 11 .done))))) 10 (.only 6 (.take 7 (.take 8 (.take 9 (.only 11 .done)))))))))))) (by kernel_rfl) (by kernel_rfl) I.out ?_
   generalize World.drew wr=wd at*
   refine ptTake (by rfl) (yw 0 uM.out) ?_
   try go_frame
   repeat(first|(refine ptPure rfl rfl (by intro w_ hSw;go_simp;first|done|exact rfl) ?_;try go_frame))
   refine ptTake (by rfl) (yc 2 3 (.slice (some ⟨b,off,none⟩) cn cc) Tryz.underlying27) ?_
   try go_frame
   repeat(first|(refine ptPure rfl rfl (by intro w_ hSw;go_simp;first|done|exact rfl) ?_;try go_frame))
   refine ptTake (by rfl) (yields_part rfl _ _ rfl b (off+k*6) rfl _ _ (fun w_ hSw=>tcl_range (hxs w_ hSw.below)) uT.out rfl (by exact ztcl)) ?_
   try go_frame
   refine ptFork rfl rfl rfl rfl (fun K hK=> ?_) (fun K hK=> ?_)
   ·go_wp2_with(first|(go_at_call 41;refine(cX _ hT.out).mono ?_;rintro r w5 ⟨vn,rfl,hT2,p_⟩;replace hT2:=Zh hT2)|fail)
    refine hK _ _ (I.keep p_) fun hS_=> ?_
    clear hK K hS_
    try go_frame
    replace I:=Zm I p_
    clear p_ hT
    repeat(first|(refine ptPure rfl rfl (by intro w_ hSw;go_simp;first|done|exact rfl) ?_;try go_frame))
    refine ptOnly rfl rfl fun K hK=> ?_
    go_wp2_with(first|(refine aN I tabInfo ?_;clear I;intro g8 w1 I hG hN9;replace hT2:=Zh (hT2.keep hG.out);clear hG hN9)|fail)
    refine hK _ _ (I.tail) fun hS_=> ?_
    clear hK K hS_
    try go_frame
    refine ptOnly rfl rfl fun K hK=> ?_
    go_wp2_with(first|(refine sF 0 I ?_;have hBq:=I.at_ 0 rfl;clear I;intro w4 I hG4;simp only[List.set]at I;replace hT2:=Zh (hT2.grown hBq (by show 3<6;decide) hG4.out);clear hBq hG4)|fail)
    refine hK _ _ (I.tail) fun hS_=> ?_
    clear hK K hS_
    try go_frame
    refine ptDone ?_
    simp only[List.drop]
    by_cases hA0:AC=0
    case neg=>
     have d1:(AC !=0)=true:=by rw[bne_iff_ne];exact hA0
     go_wp2_with(first|(refine sF 2 I ?_;clear I;intro w4 I hG4;simp only[List.set]at I)|fail)
     try simp only[Exit.inBlock,Exit.then]
     refine rT I 2 uM.out ?_
     exact hPb.out 16 _ (hF2.trans (if_pos (hbad (hst.trans (if_neg hA0))))) (by decide) I.below
    have d1:(AC !=0)=false:=by rw[bne_eq_false_iff_eq];exact hA0
    have hA2:=Zh (hst.trans (if_pos hA0))
    go_wp2_with(first|(refine lM 0 I uM.out ?_)|(refine sF 1 I ?_;have hBq:=I.at_ 1 rfl;clear I;intro w4 I hG4;simp only[List.set]at I;replace hT2:=Zh (hT2.grown hBq (by show 3<6;decide) hG4.out);clear hBq hG4)|fail)
    have HM2:=Zh I.tail
    exact⟨⟨k+1,_,vn,by omega,by go_num,hA2,hT2,HM2⟩,by simp[intOf];omega⟩
   ·go_wp2_with(first|(refine aN I tabInfo ?_;clear I;intro g8 w1 I hG hN9;replace hT:=Zh (hT.keep hG.out);clear hG hN9)|fail)
    refine hK _ _ I.tail fun hS_=> ?_
    clear hK K hS_
    try go_frame
    refine ptOnly rfl rfl fun K hK=> ?_
    go_wp2_with(first|(go_at_call 41;refine(cX _ hT.out).mono ?_;rintro r w5 ⟨vn,rfl,hT2,p_⟩;replace hT2:=Zh hT2)|fail)
    refine hK _ _ ((I.keep p_).tail) fun hS_=> ?_
    clear hK K hS_
    try go_frame
    replace I:=Zm I p_
    clear p_ hT
    repeat(first|(refine ptPure rfl rfl (by intro w_ hSw;go_simp;first|done|exact rfl) ?_;try go_frame))
    refine ptOnly rfl rfl fun K hK=> ?_
    go_wp2_with(first|(refine sF 0 I ?_;have hBq:=I.at_ 0 rfl;clear I;intro w4 I hG4;simp only[List.set]at I;replace hT2:=Zh (hT2.grown hBq (by show 3<6;decide) hG4.out);clear hBq hG4)|fail)
    refine hK _ _ (I.tail) fun hS_=> ?_
    clear hK K hS_
    try go_frame
    refine ptDone ?_
    simp only[List.drop]
    by_cases hA0:AC=0
    case neg=>
     have d1:(AC !=0)=true:=by rw[bne_iff_ne];exact hA0
     go_wp2_with(first|(refine sF 2 I ?_;clear I;intro w4 I hG4;simp only[List.set]at I)|fail)
     try simp only[Exit.inBlock,Exit.then]
     refine rT I 2 uM.out ?_
     exact hPb.out 16 _ (hF2.trans (if_pos (hbad (hst.trans (if_neg hA0))))) (by decide) I.below
    have d1:(AC !=0)=false:=by rw[bne_eq_false_iff_eq];exact hA0
    have hA2:=Zh (hst.trans (if_pos hA0))
    go_wp2_with(first|(refine lM 0 I uM.out ?_)|(refine sF 1 I ?_;have hBq:=I.at_ 1 rfl;clear I;intro w4 I hG4;simp only[List.set]at I;replace hT2:=Zh (hT2.grown hBq (by show 3<6;decide) hG4.out);clear hBq hG4)|fail)
    have HM2:=Zh I.tail
    exact⟨⟨k+1,_,vn,by omega,by go_num,hA2,hT2,HM2⟩,by simp[intOf];omega⟩
  ·have hkn:k=cn:=by omega
   have hA2:addsN t e.cells=some u:=by
    have:=hA.out
    rwa[List.take_of_length_le (by rw[hlE.out];omega)]at this
   replace hA2:=Zh hA2
   go_wp2_with(first|(refine lM 0 I uM.out ?_)|(refine sF 1 I ?_;have hBq:=I.at_ 1 rfl;clear I;intro w4 I hG4;simp only[List.set]at I;replace hT:=Zh (hT.grown hBq (by show 3<6;decide) hG4.out);clear hBq hG4)|fail)
   try simp only[Exit.inBlock,Exit.then]
   refine rT I 1 uM.out ?_
   exact hPo.out u _ vu hok.out hA2.out hT.out I.below
end Tx
end Go.Proofs.YtfamifgchgolpaaGreat
