/- Chapter 26: an end whose lists are rows of the call's own; clone. -/
import Derived.Test.YtfamifgchgolpaaGreatBh
set_option linter.unusedVariables false
set_option linter.unusedSimpArgs false
set_option maxRecDepth 100000
set_option maxHeartbeats 4000000
namespace Go.Proofs.YtfamifgchgolpaaGreat
open Go Go.RowKit Go.Sort Go.Shelf Go.Maps
namespace Tx
open Sw Mm
theorem zslT:(Tryz.prog.info? 27).map (·.size)=some 1:=by kernel_rfl
theorem zslS:(Tryz.prog.info? 28).map (·.size)=some 1:=by kernel_rfl
theorem zone_i:(Tryz.prog.info? 3).map (·.size)=some 1:=by kernel_rfl
theorem zone_b:(Tryz.prog.info? 4).map (·.size)=some 1:=by kernel_rfl
theorem wpList_storeF {P:Program} {ops:Array Oper} {rest:List Oper} {op:Oper} {a:Act} {w:World} {Q:Exit→Act→World→Prop}(i:Nat) {a0:World} {L:List (Nat×Array Value×TypeId)}(hM:Hid (Mem a0 w L))(hgd:op.guard=none)(ty:TypeId)(x y:Operand)(ho:op.op= .store ty x y)
 (B:Nat) (hx:a.eval x= .pointer (some ⟨B,0,none⟩)) {C:Array Value} {t:TypeId} (hL:L[i]? =some (B,C,t)) (V:Array Value) (hy:a.eval y= .agg V)
 (hi:(P.info? ty).map (·.size)=some V.size) (h1:V.toList.all (·.oneCell')=true) (hs:C.size=V.size)
 (h:∀w',Hid (Mem a0 w' (L.set i (B,V,t)))→Hid (w.grownBy w' (some B))→wpList P ops Q rest (a.put op.dst undef) w'):wpList P ops Q (op::rest) a w:=
 wpList_storeM i hM hgd ty x y ho B 0 hx hL (.agg V) hy hi h1 (by show 0+V.size≤C.size;omega) V (by show(setL C.toList 0 V.toList).toArray=V;rw[setL_full (by simpa using hs)]) h
theorem sF {P:Program} {ops:Array Oper} {rest:List Oper} {op:Oper} {a:Act} {w:World} {Q:Exit→Act→World→Prop} {a0:World} {L:List (Nat×Array Value×TypeId)}(i:Nat)(hM:Hid (Mem a0 w L)) {ty:TypeId} {x y:Operand} {B:Nat} {C:Array Value} {t:TypeId} {V:Array Value}
 (h:∀w',Hid (Mem a0 w' (L.set i (B,V,t)))→Hid (w.grownBy w' (some B))→wpList P ops Q rest (a.put op.dst undef) w') (hgd:op.guard=none:=by rfl) (ho:op.op= .store ty x y:=by rfl) (hx:a.eval x= .pointer (some ⟨B,0,none⟩):=by rfl) (hL:L[i]? =some (B,C,t):=by rfl) (hy:a.eval y= .agg V:=by rfl)
 (hi:(P.info? ty).map (·.size)=some V.size:=by kernel_rfl) (h1:V.toList.all (·.oneCell')=true:=by rfl) (hs:C.size=V.size:=by rfl):wpList P ops Q (op::rest) a w:=
 wpList_storeF i hM hgd ty x y ho B hx hL V hy hi h1 hs h
structure EdOwn(w:World)(v:EdV)(e:Ed):Prop where
 cells:∃b,w.ownsRow b 85 6 (.slice v.cA v.cn v.cc) v.cn (e.cells.flatMap tclE)
 lc:e.cells.length=v.cn
 asked:MsgOwn w v.a e.asked
 last:MsgOwn w v.l e.last
 reply:MsgOwn w v.r e.reply
theorem EdOwn.is {w:World} {v:EdV} {e:Ed}(h:EdOwn w v e):EdIs w v e:=by
 obtain⟨⟨b,hc⟩,lc,ha,hl,hr⟩:=h
 exact⟨(Sls.of_owns tclE_len hc lc).2,own_cap hc,ha.is,hl.is,hr.is⟩
theorem EdOwn.keep {w w':World} {v:EdV} {e:Ed}(h:EdOwn w v e)(hb:Below w.heap.size w w'):EdOwn w' v e:=by
 obtain⟨⟨b,hc⟩,lc,ha,hl,hr⟩:=h
 exact⟨⟨b,owns_keep hc hb⟩,lc,ha.keep hb,hl.keep hb,hr.keep hb⟩
theorem EdOwn.put {w w':World} {v:EdV} {e:Ed}(h:EdOwn w v e) {B:Nat} {C:Array Value} {t:TypeId}(hB:Blk w B C t)(h1:t≠97)(h2:t≠85)(hg:w.grownBy w' (some B)):EdOwn w' v e:=by
 obtain⟨⟨b,hc⟩,lc,ha,hl,hr⟩:=h
 exact⟨⟨b,hc.kept hg (.inr (row_ne_blk hc hB h2.symm))⟩,lc,ha.put hB h1 hg,hl.put hB h1 hg,hr.put hB h1 hg⟩
theorem MsgOwn.zero(w:World):MsgOwn w msgV0 msg0:=⟨⟨0,World.ownsRow_nil _ _ _ _⟩,⟨0,World.ownsRow_nil _ _ _ _⟩,rfl,rfl⟩
def ClonePostE(e:Ed)(w:World)(r:Ending)(w':World):Prop:=∃v',r= .returned (.agg (endA e v'))∧EdOwn w' v' e∧Below w.heap.size w w'
structure Cl(a w:World)(g g2:Nat)(e:Ed)(v0 v:EdV)(k:Nat)(P:Nat):Prop where
 mem:∃Z,Mem a w [(P,#[.pointer (some ⟨g,6,none⟩),.pointer (some ⟨g,14,none⟩),.pointer (some ⟨g,21,none⟩)],174),(g2,Z,32),(g,endA e v,32)]∧Z.size=28
 cells:∃b,w.ownsRow b 85 6 (.slice v.cA v.cn v.cc) v.cn (e.cells.flatMap tclE)
 lc:e.cells.length=v.cn
 asked:if 0<k then MsgOwn w v.a e.asked else v.a=v0.a
 last:if 1<k then MsgOwn w v.l e.last else v.l=v0.l
 reply:if 2<k then MsgOwn w v.r e.reply else v.r=v0.r
theorem clone_any(e:Ed)(v:EdV)(w:World)(h:EdIs w v e)(hn:v.cn≤100000)(ha:v.a.sn≤100000∧v.a.on≤100000)(hl:v.l.sn≤100000∧v.l.on≤100000)(hr:v.r.sn≤100000∧v.r.on≤100000):Calls Tryz.prog 60 #[.agg (Ke e v)] w (ClonePostE e w):=by
 have I:=Zh (Mem.start w)
 have cC:=fun W (hb:Below w.heap.size w W)=>cloneT_any v.cA v.cn v.cc e.cells W (h.cells.keep hb) hn
 have uE:=Tryz.underlying32
 generalize hP:ClonePostE e w=P
 refine zh4 ?_ h cC uE hP;clear h cC uE hP;intro h cC uE hP
 go_enter Tryz.func60,Tryz.ntmps60
 go_upto_region 1 with(first|(refine bA I 32 ?_;clear I;intro g w1 I hG;clear hG)|(refine wpList_allocA I rfl 32 rfl (by first|exact msgInfo|exact edInfo|exact tabInfo|exact info_tcl|exact info_spt) ?_;clear I;intro g2 w1 I hG;clear hG))
 have ke:=I.cell 1 rfl
 go_upto_region 2 with(first
  |(refine sN 1 I ?_;clear I ke;intro w4 I hG4;simp only[List.set]at I;have ke:=I.cell 1 rfl)
  |(go_at_call 77;refine(cC _ I.below).mono ?_;rintro r w3 ⟨A1,c1,rfl,hO1,p_⟩;have hB3:=Zh ((I.keep p_).at_ 1 rfl);have HM2:=Zm I p_;clear I p_ ke cC;have I:=HM2;clear HM2;have ke:=I.cell 1 rfl)
  |fail)
 have hO2:Hid (∃b,w4.ownsRow b 85 6 (.slice A1 v.cn c1) v.cn (e.cells.flatMap tclE)):=⟨_,hO1.kept hG4.out (.inr (row_ne_blk hO1 hB3.out (by decide)))⟩
 clear hO1 hB3 hG4
 go_upto_region 3 with fail
 have HM5:=Zh (I.alloc #[.pointer (some ⟨g,6,none⟩),.pointer (some ⟨g,14,none⟩),.pointer (some ⟨g,21,none⟩)] 174)
 obtain⟨PB,hPB⟩:∃PB,PB=w4.heap.size:=⟨_,rfl⟩
 have hO3:Hid (∃b,(w4.alloc (.cells #[.pointer (some ⟨g,6,none⟩),.pointer (some ⟨g,14,none⟩),.pointer (some ⟨g,21,none⟩)] 174)).ownsRow b 85 6 (.slice A1 v.cn c1) v.cn (e.cells.flatMap tclE)):=by
  obtain⟨b,hb⟩:=hO2.out
  exact⟨b,hb.alloc _⟩
 rw[←hPB]at HM5 ⊢
 generalize w4.alloc (.cells #[.pointer (some ⟨g,6,none⟩),.pointer (some ⟨g,14,none⟩),.pointer (some ⟨g,21,none⟩)] 174)=w5 at*
 have HC:Hid (Cl w w5 g g2 e v ⟨A1,v.cn,c1,v.a,v.l,v.r⟩ 0 PB):=⟨⟨_,HM5.out,rfl⟩,hO3.out,h.cells.len,rfl,rfl,rfl⟩
 clear I HM5 hO2 hO3 hPB ke
 go_wp2_with fail
 go_loopw[4,14] (fun _ i wr=>∃(k:Nat) (v':EdV),k≤3∧i= .int .i64 k∧Hid (Cl w wr g g2 e v v' k PB)) (fun _ i _=>3-(intOf i).toNat)
 case atStart=>exact⟨0,_,by omega,rfl,HC⟩
 case round=>
  clear HC
  obtain⟨k,v',hk,rfl,HC⟩:=hrel
  obtain⟨⟨Z,I,hZ⟩,hcl,hlc,hA,hL,hR⟩:=HC.out
  clear HC
  obtain⟨cA,cn,cc,va,vl,vr⟩:=v'
  dsimp only at hcl hlc hA hL hR
  have hk2:k=0∨k=1∨k=2∨k=3:=by omega
  rcases hk2 with rfl|rfl|rfl|rfl
  ·have e1:va=v.a:=by simpa using hA
   subst e1
   have el:vl=v.l:=by simpa using hL
   have er:vr=v.r:=by simpa using hR
   clear hA hL hR
   subst el
   subst er
   have kg:=I.cell 2 rfl
   have kp:=I.cell 0 rfl
   dsimp only[endA]at kg
   have cS:=fun W (hb:Below w.heap.size w W)=>cloneS_any v.a.sA v.a.sn v.a.sc e.asked.spots W (h.asked.spots.keep hb) ha.1
   have cO:=fun W (hb:Below w.heap.size w W)=>cloneS_any v.a.oA v.a.on v.a.oc e.asked.old W (h.asked.old.keep hb) ha.2
   refine zh5 ?_ I hcl hlc cS cO;clear I hcl hlc cS cO;intro I hcl hlc cS cO
   go_upto_region 5 with fail
   clear kp
   go_region_with(first
    |(go_at_call 126;refine(cS _ (bthen I.below ((Below.refl _ _).drew))).mono ?_;rintro r w5 ⟨A2,c2,rfl,hO1,hB_⟩;have hB5:Below wr.heap.size wr w5:=bthen ((Below.refl _ _).drew) hB_;have m5:=I.keep hB5;have kg5:=m5.cell 2 rfl;dsimp only[endA]at kg5)
    |(go_at_call 126;refine(cO _ (bthen I.below hB5)).mono ?_;rintro r w6 ⟨A3,c3,rfl,hO2,hC_⟩;have hB6:Below wr.heap.size wr w6:=bthen hB5 hC_;have m6:=Zh (I.keep hB6);have hk6:=Zh (m6.at_ 2 rfl);have kg6:=m6.cell 2 rfl;dsimp only[endA]at kg6;have kf6:=hk6.free;have hO3:=owns_keep hO1 hC_)
    |fail)
   all_goals
    have HM7:=m6.setc 2 rfl 11 [.slice A2 v.a.sn c2,.slice A3 v.a.on c3] (endA e ⟨cA,cn,cc,⟨A2,v.a.sn,c2,A3,v.a.on,c3⟩,v.l,v.r⟩) rfl
    have hG7:=(blk_setCells [.slice A2 v.a.sn c2,.slice A3 v.a.on c3] _ 11 _ hk6.out).2
    have hM7:MsgOwn (w6.setCells g 11 [.slice A2 v.a.sn c2,.slice A3 v.a.on c3]) ⟨A2,v.a.sn,c2,A3,v.a.on,c3⟩ e.asked:=⟨⟨_,own_setc hO3 hk6.out (by decide) _ _⟩,⟨_,own_setc hO2 hk6.out (by decide) _ _⟩,h.asked.spots.len,h.asked.old.len⟩
    have hc7:∃b,(w6.setCells g 11 [.slice A2 v.a.sn c2,.slice A3 v.a.on c3]).ownsRow b 85 6 (.slice cA cn cc) cn (e.cells.flatMap tclE):=by
     obtain⟨b,hb⟩:=hcl.out
     exact⟨b,own_setc (owns_keep hb hB6) hk6.out (by decide) _ _⟩
    have HC:Hid (Cl w (w6.setCells g 11 [.slice A2 v.a.sn c2,.slice A3 v.a.on c3]) g g2 e v ⟨cA,cn,cc,⟨A2,v.a.sn,c2,A3,v.a.on,c3⟩,v.l,v.r⟩ (0+1) PB):=⟨⟨Z,HM7,hZ⟩,hc7,hlc.out,(by simpa using hM7),rfl,rfl⟩
    change Hid (Cl w ((w6.setCell ⟨g,11,none⟩ (.slice A2 v.a.sn c2)).setCell ⟨g,12,none⟩ (.slice A3 v.a.on c3)) g g2 e v _ _ PB)at HC
    generalize(w6.setCell ⟨g,11,none⟩ (.slice A2 v.a.sn c2)).setCell ⟨g,12,none⟩ (.slice A3 v.a.on c3)=w7 at*
    clear HM7 hG7 hM7 hc7 m6 hk6 kg6 kf6 hO3 hO2 hO1 m5 kg5 kg I
    go_wp2
    go_roundw
    case rel=>exact⟨0+1,_,by omega,by go_num,HC⟩
    case measure=>simp[intOf]
  ·have e1:vl=v.l:=by simpa using hL
   subst e1
   have er:vr=v.r:=by simpa using hR
   replace hA:MsgOwn wr va e.asked:=by simpa using hA
   clear hL hR
   subst er
   have kg:=I.cell 2 rfl
   have kp:=I.cell 0 rfl
   dsimp only[endA]at kg
   have cS:=fun W (hb:Below w.heap.size w W)=>cloneS_any v.l.sA v.l.sn v.l.sc e.last.spots W (h.last.spots.keep hb) hl.1
   have cO:=fun W (hb:Below w.heap.size w W)=>cloneS_any v.l.oA v.l.on v.l.oc e.last.old W (h.last.old.keep hb) hl.2
   refine zh6 ?_ I hcl hlc cS cO hA;clear I hcl hlc cS cO hA;intro I hcl hlc cS cO hA
   go_upto_region 5 with fail
   clear kp
   go_region_with(first
    |(go_at_call 126;refine(cS _ (bthen I.below ((Below.refl _ _).drew))).mono ?_;rintro r w5 ⟨A2,c2,rfl,hO1,hB_⟩;have hB5:Below wr.heap.size wr w5:=bthen ((Below.refl _ _).drew) hB_;have m5:=I.keep hB5;have kg5:=m5.cell 2 rfl;dsimp only[endA]at kg5)
    |(go_at_call 126;refine(cO _ (bthen I.below hB5)).mono ?_;rintro r w6 ⟨A3,c3,rfl,hO2,hC_⟩;have hB6:Below wr.heap.size wr w6:=bthen hB5 hC_;have m6:=Zh (I.keep hB6);have hk6:=Zh (m6.at_ 2 rfl);have kg6:=m6.cell 2 rfl;dsimp only[endA]at kg6;have kf6:=hk6.free;have hO3:=owns_keep hO1 hC_)
    |fail)
   all_goals
    have HM7:=m6.setc 2 rfl 19 [.slice A2 v.l.sn c2,.slice A3 v.l.on c3] (endA e ⟨cA,cn,cc,va,⟨A2,v.l.sn,c2,A3,v.l.on,c3⟩,v.r⟩) rfl
    have hG7:=(blk_setCells [.slice A2 v.l.sn c2,.slice A3 v.l.on c3] _ 19 _ hk6.out).2
    have hM7:MsgOwn (w6.setCells g 19 [.slice A2 v.l.sn c2,.slice A3 v.l.on c3]) ⟨A2,v.l.sn,c2,A3,v.l.on,c3⟩ e.last:=⟨⟨_,own_setc hO3 hk6.out (by decide) _ _⟩,⟨_,own_setc hO2 hk6.out (by decide) _ _⟩,h.last.spots.len,h.last.old.len⟩
    have hc7:∃b,(w6.setCells g 19 [.slice A2 v.l.sn c2,.slice A3 v.l.on c3]).ownsRow b 85 6 (.slice cA cn cc) cn (e.cells.flatMap tclE):=by
     obtain⟨b,hb⟩:=hcl.out
     exact⟨b,own_setc (owns_keep hb hB6) hk6.out (by decide) _ _⟩
    have hA7:=(hA.keep hB6).put hk6.out (by decide) hG7
    have HC:Hid (Cl w (w6.setCells g 19 [.slice A2 v.l.sn c2,.slice A3 v.l.on c3]) g g2 e v ⟨cA,cn,cc,va,⟨A2,v.l.sn,c2,A3,v.l.on,c3⟩,v.r⟩ (1+1) PB):=⟨⟨Z,HM7,hZ⟩,hc7,hlc.out,(by simpa using hA7),(by simpa using hM7),rfl⟩
    change Hid (Cl w ((w6.setCell ⟨g,19,none⟩ (.slice A2 v.l.sn c2)).setCell ⟨g,20,none⟩ (.slice A3 v.l.on c3)) g g2 e v _ _ PB)at HC
    generalize(w6.setCell ⟨g,19,none⟩ (.slice A2 v.l.sn c2)).setCell ⟨g,20,none⟩ (.slice A3 v.l.on c3)=w7 at*
    clear HM7 hG7 hM7 hc7 m6 hk6 kg6 kf6 hO3 hO2 hO1 m5 kg5 kg I
    go_wp2
    go_roundw
    case rel=>exact⟨1+1,_,by omega,by go_num,HC⟩
    case measure=>simp[intOf]
  ·have e1:vr=v.r:=by simpa using hR
   subst e1
   replace hA:MsgOwn wr va e.asked:=by simpa using hA
   replace hL:MsgOwn wr vl e.last:=by simpa using hL
   clear hR
   have kg:=I.cell 2 rfl
   have kp:=I.cell 0 rfl
   dsimp only[endA]at kg
   have cS:=fun W (hb:Below w.heap.size w W)=>cloneS_any v.r.sA v.r.sn v.r.sc e.reply.spots W (h.reply.spots.keep hb) hr.1
   have cO:=fun W (hb:Below w.heap.size w W)=>cloneS_any v.r.oA v.r.on v.r.oc e.reply.old W (h.reply.old.keep hb) hr.2
   refine zh7 ?_ I hcl hlc cS cO hA hL;clear I hcl hlc cS cO hA hL;intro I hcl hlc cS cO hA hL
   go_upto_region 5 with fail
   clear kp
   go_region_with(first
    |(go_at_call 126;refine(cS _ (bthen I.below ((Below.refl _ _).drew))).mono ?_;rintro r w5 ⟨A2,c2,rfl,hO1,hB_⟩;have hB5:Below wr.heap.size wr w5:=bthen ((Below.refl _ _).drew) hB_;have m5:=I.keep hB5;have kg5:=m5.cell 2 rfl;dsimp only[endA]at kg5)
    |(go_at_call 126;refine(cO _ (bthen I.below hB5)).mono ?_;rintro r w6 ⟨A3,c3,rfl,hO2,hC_⟩;have hB6:Below wr.heap.size wr w6:=bthen hB5 hC_;have m6:=Zh (I.keep hB6);have hk6:=Zh (m6.at_ 2 rfl);have kg6:=m6.cell 2 rfl;dsimp only[endA]at kg6;have kf6:=hk6.free;have hO3:=owns_keep hO1 hC_)
    |fail)
   all_goals
    have HM7:=m6.setc 2 rfl 26 [.slice A2 v.r.sn c2,.slice A3 v.r.on c3] (endA e ⟨cA,cn,cc,va,vl,⟨A2,v.r.sn,c2,A3,v.r.on,c3⟩⟩) rfl
    have hG7:=(blk_setCells [.slice A2 v.r.sn c2,.slice A3 v.r.on c3] _ 26 _ hk6.out).2
    have hM7:MsgOwn (w6.setCells g 26 [.slice A2 v.r.sn c2,.slice A3 v.r.on c3]) ⟨A2,v.r.sn,c2,A3,v.r.on,c3⟩ e.reply:=⟨⟨_,own_setc hO3 hk6.out (by decide) _ _⟩,⟨_,own_setc hO2 hk6.out (by decide) _ _⟩,h.reply.spots.len,h.reply.old.len⟩
    have hc7:∃b,(w6.setCells g 26 [.slice A2 v.r.sn c2,.slice A3 v.r.on c3]).ownsRow b 85 6 (.slice cA cn cc) cn (e.cells.flatMap tclE):=by
     obtain⟨b,hb⟩:=hcl.out
     exact⟨b,own_setc (owns_keep hb hB6) hk6.out (by decide) _ _⟩
    have hA7:=(hA.keep hB6).put hk6.out (by decide) hG7
    have hL7:=(hL.keep hB6).put hk6.out (by decide) hG7
    have HC:Hid (Cl w (w6.setCells g 26 [.slice A2 v.r.sn c2,.slice A3 v.r.on c3]) g g2 e v ⟨cA,cn,cc,va,vl,⟨A2,v.r.sn,c2,A3,v.r.on,c3⟩⟩ (2+1) PB):=⟨⟨Z,HM7,hZ⟩,hc7,hlc.out,(by simpa using hA7),(by simpa using hL7),(by simpa using hM7)⟩
    change Hid (Cl w ((w6.setCell ⟨g,26,none⟩ (.slice A2 v.r.sn c2)).setCell ⟨g,27,none⟩ (.slice A3 v.r.on c3)) g g2 e v _ _ PB)at HC
    generalize(w6.setCell ⟨g,26,none⟩ (.slice A2 v.r.sn c2)).setCell ⟨g,27,none⟩ (.slice A3 v.r.on c3)=w7 at*
    clear HM7 hG7 hM7 hc7 m6 hk6 kg6 kf6 hO3 hO2 hO1 m5 kg5 kg I
    go_wp2
    go_roundw
    case rel=>exact⟨2+1,_,by omega,by go_num,HC⟩
    case measure=>simp[intOf]
  ·have hA2:MsgOwn wr va e.asked:=by simpa using hA
   have hL2:MsgOwn wr vl e.last:=by simpa using hL
   have hR2:MsgOwn wr vr e.reply:=by simpa using hR
   have HE:Hid (EdOwn wr ⟨cA,cn,cc,va,vl,vr⟩ e):=⟨hcl,hlc,hA2,hL2,hR2⟩
   clear hA hL hR hA2 hL2 hR2 hcl hlc
   replace I:=Zh I
   have hB2:=Zh (I.at_ 1 rfl)
   go_wp2_with(first
    |(refine lM 2 I uE.out ?_)
    |(refine wpList_storeF 1 I rfl _ _ _ rfl _ rfl rfl _ rfl (by exact zend) (by rfl) hZ ?_;intro w8 HM8 hG8)
    |fail)
   try simp only[Exit.inBlock,Exit.then]
   refine bodyPost_ret (results_c rfl (HM8.at_ 1 rfl) rfl _ uE.out rfl (by exact zend)) rfl ?_
   rw[←hP.out]
   exact⟨_,rfl,HE.put hB2.out (by decide) (by decide) hG8.out,HM8.below⟩
theorem EdOwn.closed {w:World} {v:EdV} {e:Ed}(h:EdOwn w v e):EdOwn w { v with a:=msgV0} (closE e):=⟨h.cells,h.lc,MsgOwn.zero w,h.last,h.reply⟩
structure Small(v:EdV):Prop where
 c:v.cn≤100000
 a:v.a.sn≤100000∧v.a.on≤100000
 l:v.l.sn≤100000∧v.l.on≤100000
 r:v.r.sn≤100000∧v.r.on≤100000
theorem closed_any(e:Ed)(v:EdV)(w:World)(h:EdIs w v e)(hs:Small v):Calls Tryz.prog 72 #[.agg (Ke e v)] w (ClonePostE (closE e) w):=by
 have I:=Zh (Mem.start w)
 have cC:=fun W (hb:Below w.heap.size w W)=>clone_any e v W (h.keep hb) hs.c hs.a hs.l hs.r
 have uE:=Tryz.underlying32
 generalize hP:ClonePostE (closE e) w=P
 refine zh4 ?_ h cC uE hP;clear h cC uE hP;intro h cC uE hP
 go_enter Tryz.func72,Tryz.ntmps72
 go_upto_region 1 with(first|(refine bA I 32 ?_;clear I;intro g w1 I hG;clear hG)|(refine wpList_allocA I rfl 32 rfl (by first|exact msgInfo|exact edInfo|exact tabInfo|exact info_tcl|exact info_spt) ?_;clear I;intro g2 w1 I hG;clear hG))
 have ke:=I.cell 1 rfl
 go_wp2_with(first
  |(refine lM 1 I uE.out ?_)
  |(refine sN 1 I ?_;have hBq:=I.at_ 1 rfl;clear I ke;intro w4 I hG4;simp only[List.set]at I;replace hE:=Zh (hE.put hBq (by decide) (by decide) hG4.out);clear hBq;have ke:=I.cell 1 rfl)
  |(refine sN 1 I ?_;have hBq:=I.at_ 1 rfl;clear I ke;intro w4 I hG4;simp only[List.set]at I;replace hE:=Zh (hE.put hBq (by decide) (by decide) hG4.out);clear hBq;have ke:=I.cell 1 rfl)
  |(refine sN 1 I ?_;have hBq:=I.at_ 1 rfl;clear I ke;intro w4 I hG4;simp only[List.set]at I;replace hE:=Zh (hE.put hBq (by decide) (by decide) hG4.out);clear hBq;have ke:=I.cell 1 rfl)
  |(refine sF 1 I ?_;have hBq:=I.at_ 1 rfl;clear I ke;intro w4 I hG4;simp only[List.set]at I;replace hE:=Zh (hE.put hBq (by decide) (by decide) hG4.out);clear hBq;have ke:=I.cell 1 rfl)
  |(refine sF 0 I ?_;have hBq:=I.at_ 0 rfl;clear I ke;intro w4 I hG4;simp only[List.set]at I;replace hE:=Zh (hE.put hBq (by decide) (by decide) hG4.out);clear hBq;have ke:=I.cell 1 rfl)
  |(go_at_call 60;refine(cC _ I.below).mono ?_;rintro r w3 ⟨v',rfl,hE,p_⟩;dsimp only[endA];replace hE:=Zh hE;have HM2:=Zm I p_;clear I p_ ke cC;have I:=HM2;clear HM2;have ke:=I.cell 1 rfl)
  |fail)
 try simp only[Exit.inBlock,Exit.then]
 refine rC I 0 uE.out ?_
 rw[←hP.out]
 exact⟨_,rfl,hE.closed,I.below⟩
end Tx
end Go.Proofs.YtfamifgchgolpaaGreat
