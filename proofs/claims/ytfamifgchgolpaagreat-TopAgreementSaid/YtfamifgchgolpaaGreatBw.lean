/- Chapter 25: Accept: what it returns is the call's own. -/
import Derived.Test.YtfamifgchgolpaaGreatBq
set_option linter.unusedVariables false
set_option linter.unusedSimpArgs false
set_option maxRecDepth 100000
set_option maxHeartbeats 8000000
namespace Go.Proofs.YtfamifgchgolpaaGreat
open Go Go.RowKit Go.Sort Go.Lib Go.Shelf Go.Maps
namespace Tx
open Sw Mm
def AccOwn(q:Msg)(count:Int)(l old:List Spt)(w:World)(e:Ending)(w':World):Prop:=∃v,e= .returned (.tuple #[.agg (msgA (accN q count l old) v),.int .i64 (accC q count l old)])∧MsgOwn w' v (accN q count l old)∧Below w.heap.size w w'
theorem accOwn_bad {q:Msg} {count F:Int} {l old:List Spt} {w w':World} {e:Ending}(J:accC q count l old=F)(h0:F≠0)(h:e= .returned (.tuple #[.agg (Kz 7),.int .i64 F]))(hb:Below w.heap.size w w'):AccOwn q count l old w e w':=by
 have hN:accN q count l old=msg0:=by unfold accN;rw[J,if_neg h0]
 unfold AccOwn
 rw[hN,J]
 exact⟨msgV0,h,MsgOwn.zero _,hb⟩
theorem accOwn_ok {q:Msg} {count:Int} {l old:List Spt} {w w':World} {e:Ending}(J:accC q count l old=0) {v:MsgV}(h:e= .returned (.tuple #[.agg (msgA (accM q count l old) v),.int .i64 0]))(hv:MsgOwn w' v (accM q count l old))(hb:Below w.heap.size w w'):AccOwn q count l old w e w':=by
 have hN:accN q count l old=accM q count l old:=by unfold accN;rw[J,if_pos rfl]
 unfold AccOwn
 rw[hN,J]
 exact⟨v,h,hv,hb⟩
theorem accO_any(q:Msg)(vq:MsgV)(count:Int)(A B:Option Addr)(n c m d:Nat)(l old:List Spt)(w:World)(h1:MsgIs w vq q)(hl:SptS w A n l)(ho:SptS w B m old)(hn:n≤100000)(hm:m≤100000):Calls Tryz.prog 69 #[.agg (Km q vq),.int .i64 count,.slice A n c,.slice B m d] w (AccOwn q count l old w):=by
 have I:=((Mem.start w).alloc (Km q vq) 30).alloc (Kz 7) 30
 rw[size1]at I
 have cQ:=chkM_any q vq _ (h1.keep I.below)
 have cL:=fun W hb=>cloneS_any A n c l W (hl.keep (w':=W) hb) hn
 have cO:=fun W hb=>cloneS_any B m d old W (ho.keep (w':=W) hb) hm
 have cA:=fun v W hb hv=>ans_any q (accM q count l old) vq v W (h1.keep (w':=W) hb) hv
 have J:accC q count l old=accC q count l old:=rfl
 conv at J=>rhs;unfold accC
 generalize hP:AccOwn _ _ _ _ _=P
 generalize chkM q=C1 at*
 generalize ansN q (accM q count l old)=AN at*
 obtain⟨k0,r0,n0,c0,t0,s0,o0⟩:=q
 dsimp only[accM]at*
 have kq:=I.cell 1 rfl
 have uM:=Tryz.underlying30
 refine zh11 ?_ h1 I cQ cL cO cA J uM hP hl ho;clear h1 I cQ cL cO cA J uM hP hl ho;intro h1 I cQ cL cO cA J uM hP hl ho
 go_enter Tryz.func69,Tryz.ntmps69
 go_wp2_with fail
 refine cQ.mono ?_
 rintro e w3 ⟨rfl,p_⟩
 replace I:=Zm I p_
 clear p_ kq cQ
 have kq:=I.cell 1 rfl
 go_upto_region 3 with(refine sN 0 I ?_;clear I kq;intro w4 I hG4;simp only[List.set]at I;have kq:=I.cell 1 rfl)
 all_goals try
  (have f1:=J.out
   try simp only[Exit.inBlock,Exit.then]
   refine rT I 0 uM.out ?_
   rw[←hP.out]
   have e1:=f1.trans (by simp[*]: _=(1:Int));exact accOwn_bad e1 (by decide) rfl I.below)
 subst_vars
 go_cut[10] (fun s10 wx=>∃B v,s10= .pointer (some ⟨B,0,none⟩)∧Hid (Mem w wx [(B,msgA ⟨k0,true,n0,0,count,l,old⟩ v,30),(w.heap.size+1,(Kz 7),30),(w.heap.size,#[.int .i64 k0,.bool false,.int .i64 n0,.int .i64 c0,.int .i64 t0,.slice vq.sA vq.sn vq.sc,.slice vq.oA vq.on vq.oc],30)])∧Hid (MsgOwn wx v ⟨k0,true,n0,0,count,l,old⟩))
 case first=>
  have HX:Hid (∀w',Below w3.heap.size w3 w'→Below w3.heap.size w3 w'∧w'.cell? ⟨w.heap.size,0,none⟩=some (.int .i64 k0)∧w'.cell? ⟨w.heap.size,2,none⟩=some (.int .i64 n0)):=fun w' hb'=>⟨hb',(I.keep hb').cell 1 rfl 0,(I.keep hb').cell 1 rfl 2⟩
  clear kq
  go_region_held3(fun w'=>Below w3.heap.size w3 w'∧w'.cell? ⟨w.heap.size,0,none⟩=some (.int .i64 k0)∧w'.cell? ⟨w.heap.size,2,none⟩=some (.int .i64 n0))
   ((refine HX _ ?_;(repeat(with_reducible (first|assumption|exact Below.refl _ _|refine Below.drew ?_|refine ballN ?_ _|refine Below.setCell ?_ ?_ _|exact Nat.le_refl _|exact Below.size (by assumption))))))
   (first
    |(go_at_call 126;(with_reducible show Calls _ _ _ (World.drew (World.alloc _ _)) _);refine(cL _ (bthen I.below ((ballN (Below.refl _ _) _).drew))).mono ?_;rintro e w4 ⟨A1,c1,rfl,hO1,hB_⟩;have hB4:Below w3.heap.size w3 w4:=bthen ((ballN (Below.refl _ _) _).drew) hB_;have hk4:Blk w4 w3.heap.size _ _:=((Blk.new _ _ _).drew).keep hB_;have kc4:=hk4.cell;have kf4:=hk4.free;clear hB_)
    |(go_at_call 126;refine(cL _ (bthen I.below ((Below.refl _ _).drew))).mono ?_;rintro e w4 ⟨A1,c1,rfl,hO1,hB_⟩;have hB4:Below w3.heap.size w3 w4:=bthen ((Below.refl _ _).drew) hB_;clear hB_)
    |(go_at_call 126;(with_reducible show Calls _ _ _ (World.alloc _ _) _);refine(cO _ (bthen I.below (ballN hB4 _))).mono ?_;rintro e w5 ⟨A2,c2,rfl,hO2,hB_⟩;have hB5:Below w3.heap.size w3 w5:=bthen (ballN hB4 _) hB_;have hk5:=(Blk.new _ _ _).keep hB_;have kc5:=hk5.cell;have kf5:=hk5.free;have hO3:=owns_keep (w':=w5) hO1 (bthen (ball _ _) hB_);clear hB_)
    |(go_at_call 126;refine(cO _ (bthen I.below hB4)).mono ?_;rintro e w5 ⟨A2,c2,rfl,hO2,hB_⟩;have hB5:Below w3.heap.size w3 w5:=bthen hB4 hB_;have hk5:=hk4.keep hB_;clear kc4 kf4;have kc5:=hk5.cell;have kf5:=hk5.free;have hO3:=owns_keep (w':=w5) hO1 hB_;clear hB_)
    |(go_at_call 126;refine(cO _ (bthen I.below hB4)).mono ?_;rintro e w5 ⟨A2,c2,rfl,hO2,hB_⟩;have hB5:Below w3.heap.size w3 w5:=bthen hB4 hB_;have hO3:=owns_keep (w':=w5) hO1 hB_;clear hB_)
    |fail)
  all_goals
   go_wp2_with fail
   go_meet
   refine⟨_,⟨A1,n,c1,A2,m,c2⟩,rfl,?_⟩
   first
   |(rw[fold_msg (s:=l) (o:=old)]
     first
     |exact mem_msg (M:=⟨k0,true,n0,0,count,l,old⟩) (I.add hB5 hk5 (Nat.le_refl _)) rfl hO3 hO2 hl.len ho.len
     |exact mem_msg (M:=⟨k0,true,n0,0,count,l,old⟩) (I.add hB5 hk5 hB4.size) rfl hO3 hO2 hl.len ho.len)
   |exact⟨(I.keep hB5).alloc _ _,⟨_,hO3.alloc _⟩,⟨_,hO2.alloc _⟩,hl.len,ho.len⟩
 case rest=>
  obtain⟨B,v,rfl,HM2,hv⟩:=hcut
  clear I kq
  have I:=HM2
  clear HM2
  have kq:=I.cell 2 rfl
  have kb:=I.cell 0 rfl
  dsimp only[msgA]at kb
  have cA2:=Zh (cA v wc I.below hv.is)
  clear cA
  go_wp2_with fail
  refine cA2.mono ?_
  rintro e w6 ⟨rfl,p_⟩
  replace I:=Zm I p_
  replace hv:=Zh (hv.keep p_)
  clear p_ kq kb
  have kb:=I.cell 0 rfl
  dsimp only[msgA]at kb
  have hB1:=Zh (I.at_ 1 rfl)
  cases AN
  all_goals
   go_wp2_with(refine sN 1 I ?_;clear I kb;intro w4 I hG4;simp only[List.set]at I;have kb:=I.cell 0 rfl)
   have f1:=J.out
   try simp only[Exit.inBlock,Exit.then]
   refine rT I 1 uM.out ?_
   first
   |(have e1:=f1.trans (by simp[*]: _=(12:Int));exact accOwn_bad e1 (by decide) rfl I.below)
   |(have e1:=f1.trans (by simp[*]: _=(0:Int));exact accOwn_ok (v:=v) e1 rfl (hv.put hB1.out (by decide) hG4.out) I.below)
end Tx
end Go.Proofs.YtfamifgchgolpaaGreat
namespace Go.Proofs.YtfamifgchgolpaaGreat
open Go Go.RowKit Go.Sort Go.Shelf Go.Maps
namespace Tx
open Sw Mm Pl
def OpenPost(e:Ed)(m:Msg)(vm:MsgV)(slot:Int)(w:World)(r:Ending)(w':World):Prop:=∃v,r= .returned (.tuple #[.agg (endA (openE e { m with number:=e.number} slot) v),.agg (msgA { m with number:=e.number} vm),.int .i64 0])∧EdOwn w' v (openE e { m with number:=e.number} slot)∧Below w.heap.size w w'
def numM(m:Msg)(n:Int):Msg:= { m with number:=n}
theorem EdIs.opened {w:World} {v:EdV} {e:Ed} {m:Msg} {vm:MsgV}(h:EdIs w v e)(hm:MsgIs w vm m)(n slot:Int):EdIs w { v with a:=vm} (openE e (numM m n) slot):=⟨h.cells,h.cc,⟨hm.spots,hm.old,hm.sc,hm.oc⟩,h.last,h.reply⟩
theorem EdOwn.small {w w0:World} {v v0:EdV} {e:Ed}(h:EdOwn w v e)(h0:EdIs w0 v0 e)(hs:Small v0):Small v:=by
 have e1:=h.lc.symm.trans h0.cells.len
 have e2:=h.asked.ls.symm.trans h0.asked.spots.len
 have e3:=h.asked.lo.symm.trans h0.asked.old.len
 have e4:=h.last.ls.symm.trans h0.last.spots.len
 have e5:=h.last.lo.symm.trans h0.last.old.len
 have e6:=h.reply.ls.symm.trans h0.reply.spots.len
 have e7:=h.reply.lo.symm.trans h0.reply.old.len
 obtain⟨a,b,c,d⟩:=hs
 exact⟨by omega,by omega,by omega,by omega⟩
theorem open_any(e:Ed)(v:EdV)(m:Msg)(vm:MsgV)(slot:Int)(w:World)(h:EdIs w v e)(hm:MsgIs w vm m)(hs:Small v)(hsm:vm.sn≤100000∧vm.on≤100000):Calls Tryz.prog 46 #[.agg (Ke e v),.agg (Km m vm),.int .i64 slot] w (OpenPost e m vm slot w):=by
 have I:=Zh (Mem.start w)
 have cC:=fun W (hb:Below w.heap.size w W)=>clone_any e v W (h.keep hb) hs.c hs.a hs.l hs.r
 have cD:=fun v' W (h:EdIs W v' (openE e (numM m e.number) slot)) (hs:Small v')=>clone_any _ v' W h hs.c hs.a hs.l hs.r
 have hSm:=fun W v' (h':EdOwn W v' e)=>h'.small h hs
 have uE:=Tryz.underlying32
 have uM:=Tryz.underlying30
 generalize hP:OpenPost e m vm slot w=P
 refine zh8 ?_ h hm cC cD uE uM hP hSm;clear h hm cC cD uE uM hP hSm;intro h hm cC cD uE uM hP hSm
 go_enter Tryz.func46,Tryz.ntmps46
 go_upto_region 1 with(first|(refine bA I 32 ?_;clear I;intro ge w1 I hG;clear hG)|(refine bA I 30 ?_;clear I;intro gm w1 I hG;clear hG)|(refine wpList_allocA I rfl 32 rfl (by first|exact msgInfo|exact edInfo|exact tabInfo|exact info_tcl|exact info_spt) ?_;clear I;intro g6 w1 I hG;clear hG)|(refine wpList_allocA I rfl 30 rfl (by first|exact msgInfo|exact edInfo|exact tabInfo|exact info_tcl|exact info_spt) ?_;clear I;intro g7 w1 I hG;clear hG))
 have ke:=I.cell 3 rfl
 have km:=I.cell 2 rfl
 go_upto_region 3 with(first
  |(refine lM 3 I uE.out ?_)
  |(refine sN 2 I ?_;have hBq:=I.at_ 2 rfl;clear I ke km;intro w4 I hG4;simp only[List.set]at I;replace hE:=Zh (hE.put hBq (by decide) (by decide) hG4.out);clear hBq;have ke:=I.cell 3 rfl;have km:=I.cell 2 rfl)
  |(refine sF 3 I ?_;have hBq:=I.at_ 3 rfl;clear I ke km;intro w4 I hG4;simp only[List.set]at I;replace hE:=Zh (hE.put hBq (by decide) (by decide) hG4.out);clear hBq;have ke:=I.cell 3 rfl;have km:=I.cell 2 rfl)
  |(go_at_call 60;refine(cC _ I.below).mono ?_;rintro r w3 ⟨v',rfl,hE,p_⟩;dsimp only[endA];replace hE:=Zh hE;have HM2:=Zm I p_;clear I p_ ke km cC;have I:=HM2;clear HM2;have ke:=I.cell 3 rfl;have km:=I.cell 2 rfl)
  |fail)
 clear km
 have HMd:=Zh I.drew
 replace hE:=Zh (hE.keep ((Below.refl _ _).drew))
 clear I ke
 have I:=HMd
 clear HMd
 have ke:=I.cell 3 rfl
 have HMs:=Zh I.out
 replace HMs:=Zh (HMs.less 3)
 simp only[List.eraseIdx]at HMs
 refine wp_region_plan (fun w'=>Mem _ w' _) 6 [(0,true),(1,true),(2,true),(3,false),(4,true),(5,false)] (by kernel_rfl) (by kernel_rfl) HMs.out ?_
 refine plPure rfl rfl (by intro w_ hSw;go_simp;first|done|exact rfl) ?_
 try go_frame
 refine plTakeL (by rfl) (yw 2 uM.out) ?_
 try go_frame
 refine plPure rfl rfl (by intro w_ hSw;go_simp;first|done|exact rfl) ?_
 try go_frame
 refine plStepL rfl rfl fun K hK=> ?_
 go_wp2_with(first|(refine sN 3 I ?_;have hBq:=I.at_ 3 rfl;clear I ke;intro w4 I hG4;simp only[List.set]at I;replace hE:=Zh (hE.put hBq (by decide) (by decide) hG4.out);clear hBq;have ke:=I.cell 3 rfl)|fail)
 refine hK _ _ (I.sub (by repeat(first|exact List.Sublist.refl _|apply List.Sublist.cons_cons|apply List.Sublist.cons))) fun hS_=> ?_
 clear hK K hS_
 try go_frame
 refine plPure rfl rfl (by intro w_ hSw;go_simp;first|done|exact rfl) ?_
 try go_frame
 refine plStepL rfl rfl fun K hK=> ?_
 go_wp2_with(first|(refine sN 3 I ?_;have hBq:=I.at_ 3 rfl;clear I ke;intro w4 I hG4;simp only[List.set]at I;replace hE:=Zh (hE.put hBq (by decide) (by decide) hG4.out);clear hBq;have ke:=I.cell 3 rfl)|fail)
 refine hK _ _ (I.sub (by repeat(first|exact List.Sublist.refl _|apply List.Sublist.cons_cons|apply List.Sublist.cons))) fun hS_=> ?_
 clear hK K hS_
 try go_frame
 refine plDone ?_
 simp only[List.drop]
 go_upto_region 4 with(first|(refine sN 3 I ?_;have hBq:=I.at_ 3 rfl;clear I ke;intro w4 I hG4;simp only[List.set]at I;replace hE:=Zh (hE.put hBq (by decide) (by decide) hG4.out);clear hBq;have ke:=I.cell 3 rfl)|fail)
 have hE2:=Zh (hE.is.opened (hm.keep I.below) e.number slot)
 have hS2:=hSm.out _ _ hE.out
 have hS3:Hid (Small { v' with a:=vm}):=⟨hS2.c,hsm,hS2.l,hS2.r⟩
 clear hS2 hE ke
 have HMd:=Zh I.drew
 replace hE2:=Zh (hE2.keep ((Below.refl _ _).drew))
 clear I
 have I:=HMd
 clear HMd
 have HMs:=Zh I.out
 replace HMs:=Zh (HMs.less 1)
 simp only[List.eraseIdx]at HMs
 refine wp_region_plan (fun w'=>Mem _ w' _) 4 [(0,true),(2,true),(1,false),(3,false)] (by kernel_rfl) (by kernel_rfl) HMs.out ?_
 refine plTakeL (by rfl) (yw 2 uE.out) ?_
 try go_frame
 refine plTakeL (by rfl) (yw 1 uM.out) ?_
 try go_frame
 refine plStepL rfl rfl fun K hK=> ?_
 go_wp2_with(first|(go_at_call 60;refine(cD { v' with a:=vm} _ hE2.out hS3.out).mono ?_;rintro r w5 ⟨v2,rfl,hE,p_⟩;replace hE:=Zh hE)|fail)
 refine hK _ _ (HMs.keep p_) fun hS_=> ?_
 clear hK K hS_
 try go_frame
 dsimp only[endA]
 replace I:=Zm I p_
 clear p_ HMs
 refine plStepL rfl rfl fun K hK=> ?_
 go_wp2_with(first|(refine sF 1 I ?_;have hBq:=I.at_ 1 rfl;clear I;intro w4 I hG4;simp only[List.set]at I;replace hE:=Zh (hE.put hBq (by decide) (by decide) hG4.out);clear hBq)|fail)
 refine hK _ _ (I.sub (by repeat(first|exact List.Sublist.refl _|apply List.Sublist.cons_cons|apply List.Sublist.cons))) fun hS_=> ?_
 clear hK K hS_
 try go_frame
 refine plDone ?_
 simp only[List.drop]
 go_wp2_with(first|(refine sF 0 I ?_;have hBq:=I.at_ 0 rfl;clear I;intro w4 I hG4;simp only[List.set]at I;replace hE:=Zh (hE.put hBq (by decide) (by decide) hG4.out);clear hBq)|fail)
 try simp only[Exit.inBlock,Exit.then]
 refine rU I 1 0 uE.out uM.out ?_
 rw[←hP.out]
 exact⟨v2,rfl,hE.out,I.below⟩
def candG(t:Tab)(f:List Int)(k:Nat):List Spt:=(List.range k).flatMap (candS t f)
theorem candG_succ(t:Tab)(f:List Int)(k:Nat):candG t f (k+1)=candG t f k++candS t f k:=by
 unfold candG;rw[List.range_succ,List.flatMap_append];simp
theorem candG_take {t:Tab} {f:List Int} {k n:Nat}(h:(candG t f k).length=n):∀j,(candG t f (k+j)).take n=candG t f k
 |0=>by rw[Nat.add_zero,List.take_of_length_le (by omega)]
 |j+1=>by
  have ih:=candG_take (t:=t) (f:=f) (k:=k) (n:=n) h j
  rw[←Nat.add_assoc,candG_succ,List.take_append_of_le_length,ih]
  have:=congrArg List.length ih
  rw[List.length_take]at this
  omega
theorem candN_eq {t:Tab} {f:List Int} {n N k:Nat}(h0:chkT t=0)(h1:maskN f t.length=true)(hN:t.length=N)(hk:k≤N)(hl:(candG t f k).length=n∨(k=N∧(candG t f k).length≤n)):candN t f n=candG t f k:=by
 unfold candN
 rw[if_pos ⟨h0,h1⟩,hN,Int.toNat_natCast]
 show(candG t f N).take n= _
 rcases hl with hl|⟨rfl,hl⟩
 ·have:=candG_take hl (N-k)
  rwa[show k+(N-k)=N by omega]at this
 ·rw[List.take_of_length_le hl]
theorem candN_bad {t:Tab} {f:List Int} {n:Nat}(h:¬(chkT t=0∧maskN f t.length=true)):candN t f n= []:=by unfold candN;rw[if_neg h]
theorem offN_some {x:Int} {k:Nat}(hk:k<16)(h:bitN x k=true)(hp:∀j:Nat,j<k→bitN x j=false):offN x=some k:=by
 unfold offN
 rw[List.find?_range_eq_some]
 exact⟨h,List.mem_range.2 hk,fun j hj=>by rw[hp j hj];rfl⟩
theorem offN_none {x:Int}(hp:∀j:Nat,j<16→bitN x j=false):offN x=none:=by
 unfold offN
 rw[List.find?_eq_none]
 intro j hj
 rw[hp j (List.mem_range.1 hj)]
 simp
theorem bitN_zero(k:Nat):bitN 0 k=false:=by unfold bitN;simp
def CandPost(t:Tab)(f:List Int)(n:Nat)(w:World)(e:Ending)(w':World):Prop:=∃A m c,e= .returned (.slice A m c)∧(candN t f n).length=m∧w'.ownsRow w.heap.size 97 2 (.slice A m c) m ((candN t f n).flatMap sptE)∧Below w.heap.size w w'
theorem cand_any(t:Tab)(v:TabV)(A:Option Addr)(n c q:Nat)(f:List Int)(w:World)(h:TabIs w v t)(hf:IntS w A n f)(hq:q≤1000):Calls Tryz.prog 44 #[.agg (Kt t v),.slice A n c,.int .i64 q] w (CandPost t f q w):=by
 obtain⟨B,m,c2⟩:=v
 have I:=Zh (Mem.start w)
 have cK:=fun W (hb:Below w.heap.size w W)=>chkT_any t ⟨B,m,c2⟩ W (h.keep hb)
 have cM:=fun W (hb:Below w.heap.size w W)=>masked_any A n c f t.length W (hf.keep hb)
 have cU:=fun W (k:Nat) (hb:Below w.heap.size w W)=>used_any t ⟨B,m,c2⟩ k W (h.keep hb)
 have hmk:maskN f t.length=true→(n:Int)=t.length∧∀x∈f,0≤x∧x<65536:=fun e=>by
  unfold maskN at e
  rw[hf.len]at e
  simp at e
  exact⟨e.1,e.2⟩
 have hlf:=hf.len
 have hsm:=hf.small
 unfold maxLen at hsm
 have hbad:=fun h=>candN_bad (t:=t) (f:=f) (n:=q) h
 have heq:=fun N k h0 h1 h2 h3 h4=>candN_eq (t:=t) (f:=f) (n:=q) (N:=N) (k:=k) h0 h1 h2 h3 h4
 have hS:∀k,candS t f k=if usedN t k=true then []else match offN (f.getD k 0)with
  |some j=> [⟨k,j⟩]
  |none=> []:=fun k=>rfl
 have hsucc:=candG_succ t f
 have h0:candG t f 0= []:=rfl
 generalize hP:CandPost t f q w=P
 have hPb:candN t f q= []→∀w',Below w.heap.size w w'→P (.returned (.slice none 0 0)) w':=fun e w' hb=>by
  rw[←hP]
  exact⟨none,0,0,rfl,by rw[e];rfl,by rw[e];exact World.ownsRow_nil _ _ _ _,hb⟩
 have hPo:∀xs A1 m1 c1 w',candN t f q=xs→xs.length=m1→w'.ownsRow w.heap.size 97 2 (.slice A1 m1 c1) m1 (xs.flatMap sptE)→Below w.heap.size w w'→P (.returned (.slice A1 m1 c1)) w':=fun xs A1 m1 c1 w' e hl ho hb=>by
  rw[←hP]
  exact⟨A1,m1,c1,rfl,by rw[e];exact hl,by rw[e];exact ho,hb⟩
 clear hP
 generalize maskN f t.length=MK at*
 generalize chkT t=C1 at*
 generalize usedN t=US at*
 generalize candS t f=CS at*
 generalize candG t f=CG at*
 generalize candN t f q=CN at*
 obtain⟨t0,t1,t2⟩:=t
 dsimp only at*
 refine zh12 ?_ h cK cM cU hf hmk hlf hbad heq hS hsucc h0;clear h cK cM cU hf hmk hlf hbad heq hS hsucc h0;intro h cK cM cU hf hmk hlf hbad heq hS hsucc h0
 replace hPb:=Zh hPb
 replace hPo:=Zh hPo
 go_enter Tryz.func44,Tryz.ntmps44
 go_upto_region 1 with(refine bA I 37 ?_;clear I;intro gt w1 I hG;clear hG)
 have kt:=I.cell 0 rfl
 go_upto_region 4 with(first
  |(go_at_call 20;refine(cK _ I.below).mono ?_;rintro e w3 ⟨rfl,p_⟩;have HM2:=Zm I p_;clear I p_ kt cK;have I:=HM2;clear HM2;have kt:=I.cell 0 rfl)
  |(go_at_call 114;refine(cM _ I.below).mono ?_;rintro e w4 ⟨rfl,p_⟩;have HM2:=Zm I p_;clear I p_ kt cM;have I:=HM2;clear HM2;have kt:=I.cell 0 rfl)
  |fail)
 all_goals try
  (refine hPb (hbad.out ?_) _ I.below
   rintro⟨h1,rfl⟩
   contradiction)
 cases MK
 ·contradiction
 simp only[Bool.not_true]
 obtain⟨hn1,hfb⟩:=hmk.out rfl
 subst hn1
 have heq2:=fun k h3 h4=>heq.out n k (by assumption) (by first|rfl|trivial) (by first|rfl|trivial) h3 h4
 replace heq2:=Zh heq2
 replace hfb:=Zh hfb
 clear heq hmk hbad hPb
 have HO:Hid (w4.ownsRow w.heap.size 97 2 (.slice none 0 0) 0 ((CG 0).flatMap sptE)):=by show World.ownsRow _ _ _ _ _ _ _;rw[h0.out];exact World.ownsRow_nil _ _ _ _
 have hL0:Hid ((CG 0).length=0):=by show _= _;rw[h0.out];rfl
 go_wp2_with fail
 go_loopw[7,8,9,22,39] (fun o _ _ i _ wr=>∃(k m1:Nat) (A1:Option Addr) (c1:Nat),k≤n∧i= .int .i64 k∧o= .slice A1 m1 c1∧m1≤q∧Hid ((CG k).length=m1)∧Hid (wr.ownsRow w.heap.size 97 2 (.slice A1 m1 c1) m1 ((CG k).flatMap sptE))∧Hid (Mem w wr [(gt,#[.int .i64 t0,.int .i64 n,.slice B m c2],37)])) (fun _ _ _ i _ _=>n-(intOf i).toNat)
 case atStart=>exact⟨0,0,none,0,by omega,rfl,rfl,by omega,hL0,HO,I⟩
 case round=>
  clear I HO hL0 kt
  obtain⟨k,m1,A1,c1,hk,rfl,rfl,hm1,HL,HO,I⟩:=hrel
  have kt:=I.cell 0 rfl
  by_cases hlt:k<n
  ·have r1:(k:Int)<(n:Int):=by omega
   by_cases hfull:q≤m1
   ·have hP2:=Zh (hPo (CG k) A1 m1 c1 wr (heq2 k (by omega) (.inl (by have:=HL.out;omega))) HL.out HO.out I.below)
    have r2:(q:Int)≤(m1:Int):=by omega
    go_wp2
    exact hP2.out
   ·have r2:(m1:Int)<(q:Int):=by omega
    obtain⟨b,off,rfl⟩:=hf.addr (by omega)
    have hx:=int_at (hf.keep I.below) hlt
    have hxb:=hfb.out _ (getD_mem (l:=f) (i:=k) (by rw[hlf.out];exact hlt))
    have hS2:=hS.out k
    have hs2:=hsucc.out k
    rw[show f.getD k 0=f.getD k default from rfl]at hS2
    have cU2:=cU.out wr k I.below
    generalize US k=u at*
    generalize hxe:f.getD k default=x at*
    refine zh4 ?_ hxe hS2 cU2 hs2;clear hxe hS2 cU2 hs2;intro hxe hS2 cU2 hs2
    go_upto_region 8 with fail
    by_cases hx0:x=0
    ·have d0:(x==0)=true:=by simpa using hx0
     have hC:CS k= []:=by
      rw[hS2.out,hx0,offN_none fun j _=>bitN_zero j];split<;>rfl
     have HL2:Hid ((CG (k+1)).length=m1):=by show _= _;rw[hs2.out,hC,List.append_nil];exact HL.out
     have HO2:Hid (wr.ownsRow w.heap.size 97 2 (.slice A1 m1 c1) m1 ((CG (k+1)).flatMap sptE)):=by show World.ownsRow _ _ _ _ _ _ _;rw[hs2.out,hC,List.append_nil];exact HO.out
     clear hC
     replace hx0:=Zh hx0
     go_wp2
     go_roundw
     case rel=>exact⟨k+1,m1,A1,c1,by omega,by go_num,rfl,by omega,HL2,HO2,I⟩
     case measure=>simp[intOf];omega
    ·have d0:(x==0)=false:=by simpa using hx0
     replace hx0:=Zh hx0
     go_wp2_with fail
     refine cU2.mono ?_
     rintro e w5 ⟨rfl,p_⟩
     replace HO:=Zh (owns_keep HO.out p_)
     clear hx
     have HM2:=Zm I p_;clear I p_ kt cU2;have I:=HM2;clear HM2;have kt:=I.cell 0 rfl
     cases u with
     |true=>
      have hC:CS k= []:=by rw[hS2.out];rfl
      have HL2:Hid ((CG (k+1)).length=m1):=by show _= _;rw[hs2.out,hC,List.append_nil];exact HL.out
      have HO2:Hid (w5.ownsRow w.heap.size 97 2 (.slice A1 m1 c1) m1 ((CG (k+1)).flatMap sptE)):=by show World.ownsRow _ _ _ _ _ _ _;rw[hs2.out,hC,List.append_nil];exact HO.out
      clear hC
      go_wp2
      go_roundw
      case rel=>exact⟨k+1,m1,A1,c1,by omega,by go_num,rfl,by omega,HL2,HO2,I⟩
      case measure=>simp[intOf];omega
     |false=>
      have hx:=int_at (hf.keep I.below) hlt
      have hfx:f.getD k default=x:=hxe.out
      rw[hfx]at hx
      clear hfx
      go_wp2_with fail
      go_loopw[7,9,39] (fun o _ i wi=>∃j:Nat,j≤16∧i= .int .i64 j∧o= .slice A1 m1 c1∧Hid (∀p:Nat,p<j→bitN x p=false)∧wi=w5) (fun _ _ i _=>16-(intOf i).toNat)
      case atStart=>exact⟨0,by omega,rfl,rfl,fun p hp=>by omega,rfl⟩
      case round=>
       obtain⟨j,hj,rfl,rfl,HP,rfl⟩:=hrel
       by_cases hlj:j<16
       ·have r3:(j:Int)<16:=by omega
        have hbw:=bit_walk (q:=j) hxb.1 hxb.2
        have hnx:bitN x j=false→∀p:Nat,p<j+1→bitN x p=false:=fun e p hp=>by
         by_cases h:p=j
         ·subst h;exact e
         ·exact HP.out p (by omega)
        have hC:bitN x j=true→CS k= [⟨k,j⟩]:=fun e=>by
         rw[hS2.out,offN_some hlj e HP.out];rfl
        generalize bitN x j=bb at*
        replace hC:=Zh hC
        replace hnx:=Zh hnx
        cases bb with
        |false=>
         have hP2:=Zh (hnx rfl)
         go_wp2
         go_roundw
         case rel=>exact⟨j+1,by omega,by go_num,rfl,hP2,by simp⟩
         case measure=>simp[intOf];omega
        |true=>
         have hC2:=hC.out rfl
         have HL2:Hid ((CG (k+1)).length=m1+1):=by show _= _;rw[hs2.out,hC2,List.length_append,HL.out];rfl
         have HE:Hid (CG (k+1)=CG k++ [⟨k,j⟩]):=by show _= _;rw[hs2.out,hC2]
         clear hC2 hC hnx
         go_wp2_with(at_builtin;refine wpList_append_sls eltS _ rfl _ _ rfl w.heap.size (.slice A1 m1 c1) (CG k) rfl (by rw[HL.out];exact HO.alloc _) _ 1 1 [⟨k,j⟩] rfl (Sls.one (Blk.new _ _ _)) (by rw[HL.out];omega) (by first|exact(ballN I.below _).size|(have:=I.below.size;simp;omega)) ?_;intro v1 w6 HO1 HG1 _;obtain⟨A2,c2',rfl⟩:=own_slice HO1;replace HO1:=Zh HO1;replace HG1:=Zh HG1)
         have HB0:=I.below
         have HM2:=Zh ((I.keep (ball wr (.cells #[.int .i64 k,.int .i64 j] 97))).row (HO.alloc _) HG1.out (Nat.le_refl _) (apart_of (by rfl)))
         rw[List.length_append,HL.out]at HO1
         have HO2:Hid (w6.ownsRow w.heap.size 97 2 (.slice A2 (m1+1) c2') (m1+1) ((CG (k+1)).flatMap sptE)):=by show World.ownsRow _ _ _ _ _ _ _;rw[HE.out];exact HO1.out
         go_wp2
         exact⟨⟨k+1,m1+1,A2,c2',by omega,by go_num,by rw[HL.out],by omega,HL2,HO2,HM2⟩,by simp[intOf];omega⟩
       ·obtain rfl:j=16:=by omega
        have hC:CS k= []:=by rw[hS2.out,offN_none HP.out];rfl
        have HL2:Hid ((CG (k+1)).length=m1):=by show _= _;rw[hs2.out,hC,List.append_nil];exact HL.out
        have HO2:Hid (wr.ownsRow w.heap.size 97 2 (.slice A1 m1 c1) m1 ((CG (k+1)).flatMap sptE)):=by show World.ownsRow _ _ _ _ _ _ _;rw[hs2.out,hC,List.append_nil];exact HO.out
        clear hC
        go_wp2
        go_roundw
        case rel=>exact⟨k+1,m1,A1,c1,by omega,by go_num,rfl,by omega,HL2,HO2,I⟩
        case measure=>simp[intOf];omega
  ·obtain rfl:k=n:=by omega
   have hP2:=Zh (hPo (CG k) A1 m1 c1 wr (heq2 k (by omega) (.inr ⟨rfl,by have:=HL.out;omega⟩)) HL.out HO.out I.below)
   go_wp2
   exact hP2.out
end Tx
end Go.Proofs.YtfamifgchgolpaaGreat
