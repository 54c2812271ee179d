/- Chapter 26: Finish: the program's. -/
import Derived.Test.YtfamifgchgolpaaGreatBr
set_option linter.unusedVariables false
set_option linter.unusedSimpArgs false
set_option maxRecDepth 100000
set_option maxHeartbeats 2000000
namespace Go.Proofs.YtfamifgchgolpaaGreat
open Go Go.RowKit Go.Sort Go.Shelf Go.Maps
namespace Tx
open Sw Mm Pl
theorem EdOwn.zero(w:World):EdOwn w edV0 ed0:=⟨⟨0,World.ownsRow_nil _ _ _ _⟩,rfl,MsgOwn.zero w,MsgOwn.zero w,MsgOwn.zero w⟩
def EndOwn(E:Ed)(c:Int)(w:World)(r:Ending)(w':World):Prop:=∃v,r= .returned (.tuple #[.agg (endA E v),.int .i64 c])∧EdOwn w' v E∧Below w.heap.size w w'
structure ChgFit(e:Ed)(old spots:List Spt)(send:Bool):Prop where
 ok:ChgOk e old spots
 bd:∀x∈keptN e old++newsN e spots send,0≤x.slot∧x.slot≤511
theorem chg_fit {e:Ed} {old spots:List Spt}(b:Bool)(h:CellsOk e)(ha:Asc spots)(hok:∀x∈spots,SptOk x)(hf:∀s∈spots,∀c∈e.cells,c.slot≠s.slot):ChgFit e old spots b where
 ok:=⟨cells_ag h,ha,fun s hs c hc=>hf s hs c (kept_mem hc)⟩
 bd:=fun x hx=>by
  rcases List.mem_append.1 hx with hx|hx
  ·have:=h.each x (kept_mem hx)
   exact⟨this.slot0,this.slot⟩
  ·obtain⟨s,hs,rfl⟩:=List.mem_map.1 hx
   have:=hok s hs
   exact⟨this.slot0,by have:=this.slot;show s.slot≤511;omega⟩
theorem ans_ok {q r:Msg}(h:ansN q r=true):MsgOk q∧MsgOk r∧q.reply=false∧r.reply=true∧q.kind=r.kind∧q.number=r.number∧(r.code=0→(q.kind=1→r.count≤q.count∧amongN r.spots q.spots=true)∧(q.kind=3→r.count≤q.count∧amongN r.spots q.spots=true∧amongN r.old q.old=true)∧(q.kind=2→r.old=q.old)):=by
 unfold ansN at h
 split at h
 ·cases h
 rename_i h1
 simp only[not_or,Decidable.not_not,Bool.not_eq_true,Bool.not_eq_false]at h1
 obtain⟨a,b,c,d,k,l⟩:=h1
 refine⟨(chkM_iff q).1 a,(chkM_iff r).1 b,c,d,k,l,fun h0=> ?_⟩
 rw[if_neg (by omega)]at h
 refine⟨fun hk=> ?_,fun hk=> ?_,fun hk=> ?_⟩
 ·rw[if_pos hk]at h;simpa using h
 ·rw[if_neg (by omega),if_pos hk]at h;simpa using h
 ·rw[if_neg (by omega),if_neg (by omega),if_pos hk]at h;simpa using h
theorem asked_ok {e:Ed}(h:EdOk e)(ho:e.opn=true):chkM e.asked=0∧e.asked.reply=false∧e.asked.number=e.number∧(∀s∈e.asked.old,hasN e s true=true)∧∀s∈e.asked.spots,∀c∈e.cells,c.slot≠s.slot:=by
 have:=h.asked
 unfold askedOk at this
 rw[if_neg (by rw[ho];decide)]at this
 simp only[Bool.and_eq_true,decide_eq_true_eq,Bool.not_eq_true',List.all_eq_true,List.any_eq_false]at this
 obtain⟨a,b,c,d,k⟩:=this
 exact⟨a,b,c,d,fun s hs x hx hn=>by have:=k s hs x hx;simp[hn]at this⟩
theorem fin_fit {e:Ed} {m:Msg}(hE:EdOk e)(ho:e.opn=true)(ha:ansN e.asked m=true)(hc:m.code=0)(hk:m.kind=1∨m.kind=3):ChgFit (closE e) m.old m.spots true:=by
 obtain⟨_,hm,_,_,e1,_,h3⟩:=ans_ok ha
 have h4:=h3 hc
 have hs:amongN m.spots e.asked.spots=true:=by
  rcases hk with hk|hk
  ·exact(h4.1 (by omega)).2
  ·exact(h4.2.1 (by omega)).2.1
 have h5:=asked_ok hE ho
 exact chg_fit (e:=closE e) true ⟨hE.cells.each,hE.cells.asc,hE.cells.num⟩ hm.sasc hm.sok fun s hs2 c hc2=>h5.2.2.2.2 s (among_mem hs s hs2) c hc2
theorem fin_fit2 {e:Ed} {m:Msg}(hE:EdOk e):ChgFit (closE e) m.old [] true:=
 chg_fit (e:=closE e) true ⟨hE.cells.each,hE.cells.asc,hE.cells.num⟩ Asc.nil (by simp) (by simp)
theorem endOwn_bad {E:Ed} {c C:Int} {w w':World}(hE:E=ed0)(hc:c=C)(hb:Below w.heap.size w w'):EndOwn E c w (.returned (.tuple #[.agg (Kz 28),.int .i64 C])) w':=by
 subst hE hc;exact⟨edV0,rfl,EdOwn.zero _,hb⟩
theorem finN_bad {e:Ed} {m:Msg}(h:finC e m≠0):finN e m=ed0:=by unfold finN;rw[if_neg h]
theorem finN_ok {e:Ed} {m:Msg}(h:finC e m=0):finN e m=finE e m:=by unfold finN;rw[if_pos h]
theorem EdOwn.forget {w:World} {v:EdV} {e:Ed}(h:EdOwn w v e)(n:Int):EdOwn w { v with l:=msgV0,r:=msgV0} { e with known:=false,last:=msg0,reply:=msg0,number:=n}:=⟨h.cells,h.lc,h.asked,MsgOwn.zero w,MsgOwn.zero w⟩
theorem EdOwn.cells2 {w:World} {v:EdV} {e:Ed}(h:EdOwn w v e) {L:List TCl} {A:Option Addr} {n c b:Nat}(hL:w.ownsRow b 85 6 (.slice A n c) n (L.flatMap tclE)):EdOwn w { v with cA:=A,cn:=n,cc:=c} { e with cells:=L}:=
 ⟨⟨b,hL⟩,own_len tclE_len (by decide) hL,h.asked,h.last,h.reply⟩
theorem finish_any(e:Ed)(m:Msg)(v:EdV)(vm:MsgV)(w:World)(h:EdIs w v e)(hm:MsgIs w vm m):Calls Tryz.prog 17 #[.agg (Ke e v),.agg (Km m vm)] w (EndOwn (finN e m) (finC e m) w):=by
 have I:=Zh (Mem.start w)
 have cE:=fun W (hb:Below w.heap.size w W)=>chkE_any e v W (h.keep hb)
 have cA:=fun W (hb:Below w.heap.size w W)=>ans_any e.asked m v.a vm W (h.asked.keep hb) (hm.keep hb)
 have cL:∀W,Below w.heap.size w W→Small v→Calls Tryz.prog 72 #[.agg (Ke e v)] W fun r w'=>∃v',r= .returned (.agg (endA (closE e) v'))∧EdOwn w' v' (closE e)∧Below W.heap.size W w':=fun W hb hs=>closed_any e v W (h.keep hb) hs
 have cN:=fun W=>next_any e.number W
 have cG:=fun E v1 spots B mm dd W (hb:Below w.heap.size w W) (hE:EdIs W v1 E) (hs:SptS W B mm spots) (hcn:v1.cn≤100000) (hmm:mm≤100000) (hf:ChgFit E m.old spots true)=>change_any E v1 m.old spots vm.oA B vm.on vm.oc mm dd true W hE (hm.old.keep hb) hs hcn hmm hf.ok hf.bd
 have hsm:chkE e=0→Small v:=fun J=>small_of h J
 have hok:chkE e=0→EdOk e:=fun J=>(chkE_iff e).1 J
 have hA:finC e m=if chkE e≠0 then 1 else if e.opn=false then 12 else if ansN e.asked m=false then 11 else 0:=rfl
 have hPb:∀c w',finC e m=c→c≠0→Below w.heap.size w w'→EndOwn (finN e m) (finC e m) w (.returned (.tuple #[.agg (Kz 28),.int .i64 c])) w':=fun c w' e1 e2 hb=>endOwn_bad (finN_bad (by rw[e1];exact e2)) e1 hb
 have hPo:∀w' E ve,finC e m=0→finE e m=E→EdOwn w' ve E→Below w.heap.size w w'→EndOwn (finN e m) (finC e m) w (.returned (.tuple #[.agg (endA E ve),.int .i64 0])) w':=fun w' E ve e1 e2 hE hb=>by
  rw[e1,finN_ok e1,e2]
  exact⟨ve,rfl,hE,hb⟩
 have hFd:finE e m=if m.code≠0 then closE e
  else if m.kind=6 then { closE e with known:=false,last:=msg0,reply:=msg0,cells:= [],number:=0}
  else { closE e with known:=false,last:=msg0,reply:=msg0,number:=nextN e.number,cells:=if m.kind=1∨m.kind=3 then chgN e m.old m.spots true else if m.kind=2 then chgN e m.old [] true else e.cells}:=rfl
 have hfit:chkE e=0→e.opn=true→ansN e.asked m=true→m.code=0→m.kind=1∨m.kind=3→ChgFit (closE e) m.old m.spots true:=fun h0 h1 h2 h3 h4=>fin_fit ((chkE_iff e).1 h0) h1 h2 h3 h4
 have hfit2:chkE e=0→ChgFit (closE e) m.old [] true:=fun h0=>fin_fit2 ((chkE_iff e).1 h0)
 have hms8:ansN e.asked m=true→vm.sn≤8:=fun ha=>by have:=(ans_ok ha).2.1.ls;rw[hm.spots.len]at this;exact this
 generalize EndOwn (finN e m) (finC e m) w=P at*
 generalize finC e m=FC at*
 generalize finE e m=FE at*
 generalize chkE e=CE at*
 generalize ansN e.asked m=AN at*
 generalize nextN e.number=NX at*
 obtain⟨n0,p0,u0,cl,eo,s0,ea,ek,el,er⟩:=e
 dsimp only[closE]at*
 have uE:=Tryz.underlying32
 have uM:=Tryz.underlying30
 refine zh12 ?_ cE cA cL cN cG hsm hok hA hms8 hPb hPo hFd;clear cE cA cL cN cG hsm hok hA hms8 hPb hPo hFd;intro cE cA cL cN cG hsm hok hA hms8 hPb hPo hFd
 refine zh6 ?_ hfit hfit2 uE uM h hm;clear hfit hfit2 uE uM h hm;intro hfit hfit2 uE uM h hm
 go_enter Tryz.func17,Tryz.ntmps17
 go_upto_region 1 with(first|(refine bA I 32 ?_;clear I;intro ge w1 I hG;clear hG)|(refine bA I 30 ?_;clear I;intro gm w1 I hG;clear hG)|(refine wpList_allocA I rfl 32 rfl (by first|exact msgInfo|exact edInfo|exact tabInfo|exact info_tcl|exact info_spt) ?_;clear I;intro g4 w1 I hG;clear hG))
 have ke:=I.cell 2 rfl
 have km:=I.cell 1 rfl
 by_cases hC:CE=0
 case neg=>
  have hA1:=Zh (hA.trans (if_pos hC))
  have d1:(CE !=0)=true:=by rw[bne_iff_ne];exact hC
  go_wp2_with(first
   |(refine lM 2 I uE.out ?_)
   |(refine sF 0 I ?_;clear I;intro w4 I hG4;simp only[List.set]at I)
   |(go_at_call 71;refine(cE _ I.below).mono ?_;rintro r w3 ⟨rfl,p_⟩;have HM2:=Zm I p_;clear I p_ ke km cE;have I:=HM2;clear HM2;have ke:=I.cell 2 rfl;have km:=I.cell 1 rfl)
   |fail)
  try simp only[Exit.inBlock,Exit.then]
  refine rT I 0 uE.out ?_
  exact hPb.out 1 _ hA1.out (by decide) I.below
 subst hC
 replace hA:=Zh (hA.trans (if_neg (fun h=>h rfl)))
 have hsm2:=Zh (hsm rfl)
 have hfi:=Zh (hfit rfl)
 have hfi2:=Zh (hfit2 rfl)
 clear hsm hfit hfit2 hok
 go_upto_region 3 with(first
  |(refine lM 2 I uE.out ?_)
  |(go_at_call 71;refine(cE _ I.below).mono ?_;rintro r w3 ⟨rfl,p_⟩;have HM2:=Zm I p_;clear I p_ ke km cE;have I:=HM2;clear HM2;have ke:=I.cell 2 rfl;have km:=I.cell 1 rfl)
  |fail)
 cases eo
 case false=>
  have hA1:=Zh (hA.trans (if_pos rfl))
  go_wp2_with(first
   |(refine sF 0 I ?_;clear I;intro w4 I hG4;simp only[List.set]at I)
   |fail)
  try simp only[Exit.inBlock,Exit.then]
  refine rT I 0 uE.out ?_
  exact hPb.out 12 _ hA1.out (by decide) I.below
 replace hA:=Zh (hA.trans (if_neg (by decide)))
 cases AN
 case false=>
  have hA1:=Zh (hA.trans (if_pos rfl))
  go_wp2_with(first
   |(refine sF 0 I ?_;clear I;intro w4 I hG4;simp only[List.set]at I)
   |(refine wpList_loadP 2 I (by rfl) _ _ rfl _ _ rfl rfl (Km ea v.a) (by rfl) _ uM.out rfl (by exact zmsg) ?_)
   |(refine lM 1 I uM.out ?_)
   |(go_at_call 18;refine(cA _ I.below).mono ?_;rintro r w3 ⟨rfl,p_⟩;have HM2:=Zm I p_;clear I p_ ke km cA;have I:=HM2;clear HM2;have ke:=I.cell 2 rfl;have km:=I.cell 1 rfl)
   |fail)
  try simp only[Exit.inBlock,Exit.then]
  refine rT I 0 uE.out ?_
  exact hPb.out 11 _ hA1.out (by decide) I.below
 replace hA:=Zh (hA.trans (if_neg (by decide)))
 go_upto_region 8 with(first
  |(refine lM 2 I uE.out ?_)
  |(refine wpList_loadP 2 I (by rfl) _ _ rfl _ _ rfl rfl (Km ea v.a) (by rfl) _ uM.out rfl (by exact zmsg) ?_)
  |(refine lM 1 I uM.out ?_)
  |(go_at_call 18;refine(cA _ I.below).mono ?_;rintro r w3 ⟨rfl,p_⟩;have HM2:=Zm I p_;clear I p_ ke km cA;have I:=HM2;clear HM2;have ke:=I.cell 2 rfl;have km:=I.cell 1 rfl)
  |(go_at_call 72;refine(cL _ I.below hsm2.out).mono ?_;rintro r w3 ⟨v',rfl,hE,p_⟩;dsimp only[endA];replace hE:=Zh hE;have HM2:=Zm I p_;clear I p_ ke km cL;have I:=HM2;clear HM2;have ke:=I.cell 2 rfl;have km:=I.cell 1 rfl)
  |(refine aN I edInfo ?_;clear I ke km;intro g6 w1 I hG hN9;replace hE:=Zh (hE.keep hG.out);have ke:=I.cell 3 rfl;have km:=I.cell 2 rfl)
  |(refine sF 0 I ?_;have hBq:=I.at_ 0 rfl;clear I ke km;intro w4 I hG4;simp only[List.set]at I;replace hE:=Zh (hE.put hBq (by decide) (by decide) hG4.out);clear hBq;have ke:=I.cell 3 rfl;have km:=I.cell 2 rfl)
  |fail)
 replace hE:=Zh (hE.out)
 have hm8:=hms8.out trivial
 clear hG hG4 hN9 hms8 hPb
 by_cases hcd:m.code=0
 case neg=>
  have d1:(m.code !=0)=true:=by rw[bne_iff_ne];exact hcd
  have hFE:Hid (FE= _):=hFd.trans (if_pos hcd)
  have hEx:=hE.out
  replace hE:=Zh hEx
  clear hEx
  go_wp2_with(first
   |(refine lM 0 I uE.out ?_)
   |(refine sF 1 I ?_;have hBq:=I.at_ 1 rfl;clear I ke km;intro w4 I hG4;simp only[List.set]at I;replace hE:=Zh (hE.put hBq (by decide) (by decide) hG4.out);clear hBq;have ke:=I.cell 3 rfl;have km:=I.cell 2 rfl)
   |fail)
  try simp only[Exit.inBlock,Exit.then]
  refine rT I 1 uE.out ?_
  exact hPo.out _ _ _ hA.out hFE.out hE.out I.below
 have d1:(m.code !=0)=false:=by rw[bne_eq_false_iff_eq];exact hcd
 replace hFd:=Zh (hFd.trans (if_neg (fun h=>h hcd)))
 replace hfi:=Zh (hfi trivial trivial hcd)
 clear hcd
 go_upto_region 11 with(first
  |(refine sN 0 I ?_;have hBq:=I.at_ 0 rfl;clear I ke km;intro w4 I hG4;simp only[List.set]at I;replace hE:=Zh (hE.put hBq (by decide) (by decide) hG4.out);clear hBq;have ke:=I.cell 3 rfl;have km:=I.cell 2 rfl)
  |(refine sN 0 I ?_;have hBq:=I.at_ 0 rfl;clear I ke km;intro w4 I hG4;simp only[List.set]at I;replace hE:=Zh (hE.put hBq (by decide) (by decide) hG4.out);clear hBq;have ke:=I.cell 3 rfl;have km:=I.cell 2 rfl)
  |fail)
 clear d1
 by_cases c6:m.kind=6
 case pos=>
  have d6:(m.kind==6)=true:=by rw[beq_iff_eq];exact c6
  have hFE:Hid (FE= _):=hFd.trans (if_pos c6)
  go_upto_region 14 with(first
   |(refine sN 0 I ?_;have hBq:=I.at_ 0 rfl;clear I ke km;intro w4 I hG4;simp only[List.set]at I;replace hE:=Zh (hE.put hBq (by decide) (by decide) hG4.out);clear hBq;have ke:=I.cell 3 rfl;have km:=I.cell 2 rfl)
   |(refine sN 0 I ?_;have hBq:=I.at_ 0 rfl;clear I ke km;intro w4 I hG4;simp only[List.set]at I;replace hE:=Zh (hE.put hBq (by decide) (by decide) hG4.out);clear hBq;have ke:=I.cell 3 rfl;have km:=I.cell 2 rfl)
   |fail)
  have hE2:Hid (EdOwn w4 ⟨none,0,0,v'.a,msgV0,msgV0⟩ ⟨n0,p0,0,[],false,0,msg0,false,msg0,msg0⟩):=⟨⟨0,World.ownsRow_nil _ _ _ _⟩,rfl,hE.asked,MsgOwn.zero _,MsgOwn.zero _⟩
  clear hE
  have hE:=hE2
  clear hE2
  have hEx:=hE.out
  replace hE:=Zh hEx
  clear hEx
  go_wp2_with(first
   |(refine lM 0 I uE.out ?_)
   |(refine sF 1 I ?_;have hBq:=I.at_ 1 rfl;clear I ke km;intro w4 I hG4;simp only[List.set]at I;replace hE:=Zh (hE.put hBq (by decide) (by decide) hG4.out);clear hBq;have ke:=I.cell 3 rfl;have km:=I.cell 2 rfl)
   |fail)
  try simp only[Exit.inBlock,Exit.then]
  refine rT I 1 uE.out ?_
  exact hPo.out _ _ _ hA.out hFE.out hE.out I.below
 have d6:(m.kind==6)=false:=by rw[beq_eq_false_iff_ne];exact c6
 replace hFd:=Zh (hFd.trans (if_neg c6))
 clear c6
 by_cases c13:m.kind=1∨m.kind=3
 case pos=>
  have hd13:(m.kind==1)=true∨((m.kind==1)=false∧(m.kind==3)=true):=by
   by_cases c1:m.kind=1
   ·exact .inl (by rw[beq_iff_eq];exact c1)
   ·exact .inr ⟨by rw[beq_eq_false_iff_ne];exact c1,by rw[beq_iff_eq];omega⟩
  replace hfi:=Zh (hfi c13)
  have hFE:Hid (FE=⟨n0,p0,NX,chgN ⟨n0,p0,u0,cl,true,s0,ea,ek,el,er⟩ m.old m.spots true,false,0,msg0,false,msg0,msg0⟩):=by show _= _;rw[hFd.out,if_pos c13]
  clear c13 hFd
  rcases hd13 with d13|⟨d1,d13⟩
  all_goals
   have hE1:Hid (EdOwn w4 ⟨v'.cA,v'.cn,v'.cc,v'.a,msgV0,msgV0⟩ ⟨n0,p0,u0,cl,false,0,msg0,false,msg0,msg0⟩):=hE.forget u0
   clear hE
   have hE:=hE1
   clear hE1
   have hcn:v'.cn≤100000:=by have h1:=hE.lc;have h2:=h.cells.len;have h3:=hsm2.c;dsimp only at h1 h2;omega
   have hf:=Zh (hfi.out)
   have hf2:Hid (ChgFit ⟨n0,p0,u0,cl,false,0,msg0,false,msg0,msg0⟩ m.old m.spots true):=⟨⟨hf.ok.ag,hf.ok.asc,hf.ok.free⟩,hf.bd⟩
   clear hf
   go_upto_region 20 with(first
    |(refine lM 0 I uE.out ?_)
    |(go_at_call 73;refine(cG ⟨n0,p0,u0,cl,false,0,msg0,false,msg0,msg0⟩ ⟨v'.cA,v'.cn,v'.cc,v'.a,msgV0,msgV0⟩ m.spots vm.sA vm.sn vm.sc _ I.below hE.is (hm.spots.keep I.below) hcn (by omega) hf2.out).mono ?_;rintro r w5 ⟨A1,n1,c1,rfl,hl1,hO1,p_⟩;dsimp only[endA];replace hE:=Zh ((hE.keep p_).cells2 hO1);clear hO1 hl1;have HM2:=Zm I p_;clear I p_ ke km cG;have I:=HM2;clear HM2;have ke:=I.cell 3 rfl;have km:=I.cell 2 rfl)
    |(refine sF 0 I ?_;have hBq:=I.at_ 0 rfl;clear I ke km;intro w4 I hG4;simp only[List.set]at I;replace hE:=Zh (hE.put hBq (by decide) (by decide) hG4.out);clear hBq;have ke:=I.cell 3 rfl;have km:=I.cell 2 rfl)
    |fail)
   have k6:=I.cell 0 rfl
   go_upto_region 21 with(first
    |(go_at_call 68;refine(cN _).mono ?_;rintro r w_ ⟨rfl,rfl⟩)
    |(refine sN 0 I ?_;have hBq:=I.at_ 0 rfl;clear I ke km k6;intro w4 I hG4;simp only[List.set]at I;replace hE:=Zh (hE.put hBq (by decide) (by decide) hG4.out);clear hBq;have ke:=I.cell 3 rfl;have km:=I.cell 2 rfl;have k6:=I.cell 0 rfl)
    |fail)
   have hE4:Hid (EdOwn w4 ⟨A1,n1,c1,v'.a,msgV0,msgV0⟩ ⟨n0,p0,NX,chgN ⟨n0,p0,u0,cl,true,s0,ea,ek,el,er⟩ m.old m.spots true,false,0,msg0,false,msg0,msg0⟩):=⟨hE.cells,hE.lc,hE.asked,hE.last,hE.reply⟩
   clear hE k6
   have hEx:=hE4.out
   replace hE:=Zh hEx
   clear hEx
   go_wp2_with(first
    |(refine lM 0 I uE.out ?_)
    |(refine sF 1 I ?_;have hBq:=I.at_ 1 rfl;clear I ke km;intro w4 I hG4;simp only[List.set]at I;replace hE:=Zh (hE.put hBq (by decide) (by decide) hG4.out);clear hBq;have ke:=I.cell 3 rfl;have km:=I.cell 2 rfl)
    |fail)
   try simp only[Exit.inBlock,Exit.then]
   refine rT I 1 uE.out ?_
   exact hPo.out _ _ _ hA.out hFE.out hE.out I.below
 have d1:(m.kind==1)=false:=by rw[beq_eq_false_iff_ne];omega
 have d3:(m.kind==3)=false:=by rw[beq_eq_false_iff_ne];omega
 clear hfi
 by_cases c2:m.kind=2
 case pos=>
  have d2:(m.kind==2)=true:=by rw[beq_iff_eq];exact c2
  have hFE:Hid (FE=⟨n0,p0,NX,chgN ⟨n0,p0,u0,cl,true,s0,ea,ek,el,er⟩ m.old [] true,false,0,msg0,false,msg0,msg0⟩):=by show _= _;rw[hFd.out,if_neg c13,if_pos c2]
  clear c13 hFd c2
  have hE1:Hid (EdOwn w4 ⟨v'.cA,v'.cn,v'.cc,v'.a,msgV0,msgV0⟩ ⟨n0,p0,u0,cl,false,0,msg0,false,msg0,msg0⟩):=hE.forget u0
  clear hE
  have hE:=hE1
  clear hE1
  have hcn:v'.cn≤100000:=by have h1:=hE.lc;have h2:=h.cells.len;have h3:=hsm2.c;dsimp only at h1 h2;omega
  have hf:=Zh (hfi2.out)
  have hf2:Hid (ChgFit ⟨n0,p0,u0,cl,false,0,msg0,false,msg0,msg0⟩ m.old [] true):=⟨⟨hf.ok.ag,hf.ok.asc,hf.ok.free⟩,hf.bd⟩
  clear hf
  go_upto_region 20 with(first
   |(refine lM 0 I uE.out ?_)
   |(go_at_call 73;refine(cG ⟨n0,p0,u0,cl,false,0,msg0,false,msg0,msg0⟩ ⟨v'.cA,v'.cn,v'.cc,v'.a,msgV0,msgV0⟩ [] none 0 0 _ I.below hE.is Sls.nil hcn (by decide) hf2.out).mono ?_;rintro r w5 ⟨A1,n1,c1,rfl,hl1,hO1,p_⟩;dsimp only[endA];replace hE:=Zh ((hE.keep p_).cells2 hO1);clear hO1 hl1;have HM2:=Zm I p_;clear I p_ ke km cG;have I:=HM2;clear HM2;have ke:=I.cell 3 rfl;have km:=I.cell 2 rfl)
   |(refine sF 0 I ?_;have hBq:=I.at_ 0 rfl;clear I ke km;intro w4 I hG4;simp only[List.set]at I;replace hE:=Zh (hE.put hBq (by decide) (by decide) hG4.out);clear hBq;have ke:=I.cell 3 rfl;have km:=I.cell 2 rfl)
   |fail)
  have k6:=I.cell 0 rfl
  go_upto_region 21 with(first
   |(go_at_call 68;refine(cN _).mono ?_;rintro r w_ ⟨rfl,rfl⟩)
   |(refine sN 0 I ?_;have hBq:=I.at_ 0 rfl;clear I ke km k6;intro w4 I hG4;simp only[List.set]at I;replace hE:=Zh (hE.put hBq (by decide) (by decide) hG4.out);clear hBq;have ke:=I.cell 3 rfl;have km:=I.cell 2 rfl;have k6:=I.cell 0 rfl)
   |fail)
  have hE4:Hid (EdOwn w4 ⟨A1,n1,c1,v'.a,msgV0,msgV0⟩ ⟨n0,p0,NX,chgN ⟨n0,p0,u0,cl,true,s0,ea,ek,el,er⟩ m.old [] true,false,0,msg0,false,msg0,msg0⟩):=⟨hE.cells,hE.lc,hE.asked,hE.last,hE.reply⟩
  clear hE k6
  have hEx:=hE4.out
  replace hE:=Zh hEx
  clear hEx
  go_wp2_with(first
   |(refine lM 0 I uE.out ?_)
   |(refine sF 1 I ?_;have hBq:=I.at_ 1 rfl;clear I ke km;intro w4 I hG4;simp only[List.set]at I;replace hE:=Zh (hE.put hBq (by decide) (by decide) hG4.out);clear hBq;have ke:=I.cell 3 rfl;have km:=I.cell 2 rfl)
   |fail)
  try simp only[Exit.inBlock,Exit.then]
  refine rT I 1 uE.out ?_
  exact hPo.out _ _ _ hA.out hFE.out hE.out I.below
 have d2:(m.kind==2)=false:=by rw[beq_eq_false_iff_ne];exact c2
 have hFE:Hid (FE=⟨n0,p0,NX,cl,false,0,msg0,false,msg0,msg0⟩):=by show _= _;rw[hFd.out,if_neg c13,if_neg c2]
 clear c13 c2 hFd
 have k6:=I.cell 0 rfl
 go_upto_region 21 with(first
  |(go_at_call 68;refine(cN _).mono ?_;rintro r w_ ⟨rfl,rfl⟩)
  |(refine sN 0 I ?_;have hBq:=I.at_ 0 rfl;clear I ke km k6;intro w4 I hG4;simp only[List.set]at I;replace hE:=Zh (hE.put hBq (by decide) (by decide) hG4.out);clear hBq;have ke:=I.cell 3 rfl;have km:=I.cell 2 rfl;have k6:=I.cell 0 rfl)
  |fail)
 have hE4:Hid (EdOwn w4 ⟨v'.cA,v'.cn,v'.cc,v'.a,msgV0,msgV0⟩ ⟨n0,p0,NX,cl,false,0,msg0,false,msg0,msg0⟩):=⟨hE.cells,hE.lc,hE.asked,MsgOwn.zero _,MsgOwn.zero _⟩
 clear hE k6
 have hEx:=hE4.out
 replace hE:=Zh hEx
 clear hEx
 go_wp2_with(first
  |(refine lM 0 I uE.out ?_)
  |(refine sF 1 I ?_;have hBq:=I.at_ 1 rfl;clear I ke km;intro w4 I hG4;simp only[List.set]at I;replace hE:=Zh (hE.put hBq (by decide) (by decide) hG4.out);clear hBq;have ke:=I.cell 3 rfl;have km:=I.cell 2 rfl)
  |fail)
 try simp only[Exit.inBlock,Exit.then]
 refine rT I 1 uE.out ?_
 exact hPo.out _ _ _ hA.out hFE.out hE.out I.below
theorem ansNum_any(x:Ans)(v:AnsV)(g:Nat)(a0 w:World)(L:List (Nat×Array Value×TypeId))(h0:Mem a0 w ((g,ansA x v,110)::L))(hS:AnsS w v x):Calls Tryz.prog 66 #[.pointer (some ⟨g,0,none⟩)] w (MethPost a0 L g (numA x)):=by
 have I:=Zh h0
 unfold ansA at I
 have hR:numA x=({ x with count:=(v.e.cn:Int)},true):=by unfold numA;rw[hS.e.lc]
 generalize hP:MethPost a0 L g (numA x)=P
 clear h0
 refine zh3 ?_ hS hP hR;clear hS hP hR;intro hS hP hR
 have ka:=I.cell 0 rfl
 go_enter Tryz.func66,Tryz.ntmps66
 go_wp2_with(first|(refine sN 0 I ?_;have hBq:=I.at_ 0 rfl;clear I ka;intro w4 I hG4;simp only[List.set]at I;replace hS:=Zh (hS.put hBq hG4.out);clear hBq;have ka:=I.cell 0 rfl)|fail)
 rw[←hP.out,hR.out]
 exact⟨v,rfl,I.out,⟨hS.e,hS.m,hS.us,hS.spots,hS.moved⟩⟩
theorem take_place {l:List TCl} {k:Nat}(h:k<l.length):(l.take (k+1)).map place=(l.take k).map place++ [place (l.getD k default)]:=by
 rw[take_snoc h,List.map_append];rfl
theorem gb_new {a w w':World} {g:Nat} {r:Option Nat}(h:a.grownBy w (some g))(k:w.grownBy w' r)(hr:∀q,r=some q→a.heap.size≤q):a.grownBy w' (some g):=
 ⟨k.os.trans h.os,k.tape.trans h.tape,k.output.trans h.output,Nat.le_trans h.size k.size,fun i hi hne=>(k.block i (Nat.lt_of_lt_of_le hi h.size) (fun e=>by have:=hr i e.symm;omega)).trans (h.block i hi hne)⟩
theorem apart_cons {L:List (Nat×Array Value×TypeId)} {e:TypeId}(h:∀y∈L,e≠y.2.2)(b:Nat)(C:Array Value)(t:TypeId)(hn:e≠t):∀y∈(b,C,t)::L,e≠y.2.2:=fun y hy=>by
 rcases List.mem_cons.1 hy with rfl|hy
 ·exact hn
 ·exact h y hy
theorem ansLst_any(x:Ans)(v:AnsV)(g q:Nat)(a0 w:World)(L:List (Nat×Array Value×TypeId))(h0:Mem a0 w ((g,ansA x v,110)::L))(hS:AnsS w v x)(hs:x.spots= [])(hv:v.sA=none∧v.sn=0∧v.sc=0)(hq:min v.e.cn 8=q)(hcn:v.e.cn≤100000)(hLS:∀y∈L,97≠y.2.2):Calls Tryz.prog 67 #[.pointer (some ⟨g,0,none⟩)] w (MethPost a0 L g (lstA x)):=by
 have I:=Zh h0
 have hBw:=Zh (h0.at_ 0 rfl)
 unfold ansA at I
 have hb0:=h0.below.size
 have hlc:=hS.e.lc
 have hcc:=hS.e.is.cc
 have hR:lstA x=({ x with count:=(v.e.cn:Int),spots:=(x.e.cells.take q).map place},true):=by
  unfold lstA
  rw[hlc,←hq]
  congr 3
  rw[List.take_eq_take_iff];omega
 have hsucc:=fun k (h:k<v.e.cn)=>take_place (l:=x.e.cells) (k:=k) (by omega)
 have hlk:=fun k (h:k≤q)=>(show((x.e.cells.take k).map place).length=k by rw[List.length_map,List.length_take];omega)
 have cN:=fun x2 v2 W (h0:Mem a0 W ((g,ansA x2 v2,110)::L)) (hS:AnsS W v2 x2)=>ansNum_any x2 v2 g a0 W L h0 hS
 have cP:=fun c W=>place_any c W
 obtain⟨⟨cA,cn,cc,ea,el,er⟩,vm,uA,un,uc,sA,sn,sc,oA,on,oc⟩:=v
 obtain⟨rfl,rfl,rfl⟩:=hv
 dsimp only at*
 have hqi:min (cn:Int) 8=(q:Int):=by omega
 have hqn:q≤cn:=by omega
 have hqc:q≤cc:=by omega
 have uT:=Tryz.underlying85
 generalize hP:MethPost a0 L g (lstA x)=P
 clear h0 hq
 refine zh10 ?_ hS hP hR hsucc hlk cN cP uT hs hlc;clear hS hP hR hsucc hlk cN cP uT hs hlc;intro hS hP hR hsucc hlk cN cP uT hs hlc
 have ka:=I.cell 0 rfl
 have hgw:=Zh (gb_refl w (some g))
 have hS0:=Zh (fun W (hg:w.grownBy W (some g))=>hS.put hBw.out hg)
 go_enter Tryz.func67,Tryz.ntmps67
 go_upto_region 1 with fail
 have HMd:=Zh I.drew
 clear I ka
 have I:=HMd
 clear HMd
 have ka:=I.cell 0 rfl
 replace hgw:=Zh (show w.grownBy w.drew (some g)from gbt hgw.out (gbb (Below.refl _ _).drew))
 go_region
 clear ka hS hBw
 go_wp2_with fail
 go_loopw[4,19] (fun _ i wr=>Hid (∃(k:Nat) (A2:Option Addr) (c2:Nat),k≤q∧i= .int .i64 k∧Hid (w.grownBy wr (some g))∧Hid (wr.ownsRow w.heap.size 97 2 (.slice A2 k c2) k (((x.e.cells.take k).map place).flatMap sptE))∧Hid (Mem a0 wr ((g,ansA x ⟨⟨cA,cn,cc,ea,el,er⟩,vm,uA,un,uc,A2,k,c2,oA,on,oc⟩,110)::L)))) (fun _ i _=>q-(intOf i).toNat)
 case atStart=>exact Zh ⟨0,none,0,by omega,rfl,hgw,World.ownsRow_nil _ _ _ _,I⟩
 case round=>
  clear I hgw
  obtain⟨k,A2,c2,hk,rfl,hgw,HO,I⟩:=hrel.out
  clear hrel
  unfold ansA at I
  have ka:=I.cell 0 rfl
  by_cases hlt2:k<q
  ·have hCs:=(hS0 _ hgw.out).e.is.cells
   obtain⟨b,off,rfl⟩:=hCs.addr (show 0<cn by omega)
   have hx:=tcl_at hCs (show k<cn by omega)
   have hst:=hsucc.out k (by omega)
   generalize x.e.cells.getD k default=y at*
   obtain⟨x0,x1,x2,x3,x4,x5⟩:=y
   obtain⟨q0,q1,q2,q3,q4,q5⟩:=hx
   dsimp only at q0 q1 q2 q3 q4 q5 hst
   have r1:(k:Int)<(q:Int):=by omega
   have hlen:=hlk.out k hk
   clear hCs
   replace hst:=Zh hst
   replace hlen:=Zh hlen
   go_upto_region 4 with(first|(refine aN I info_tcl ?_;clear I ka;intro gc w1 I hG hN9;have ka:=I.cell 1 rfl)|(refine sF 0 I ?_;clear I ka;intro w4 I hG4;simp only[List.set]at I;have ka:=I.cell 1 rfl))
   have p_:=hG.grown hG4.out hG.size (fun k e=>by cases e;exact hN9.out)
   replace HO:=Zh (owns_keep HO.out p_)
   replace hgw:=Zh (gbt hgw.out (gbb p_))
   clear q0 q1 q2 q3 q4 q5 hG hG4 hN9 p_ ka
   have HMd:=Zh I.drew
   clear I
   have I:=HMd
   clear HMd
   replace hgw:=Zh (show w.grownBy w4.drew (some g)from gbt hgw.out (gbb (Below.refl _ _).drew))
   replace HO:=Zh (owns_keep HO.out ((Below.refl _ _).drew))
   have HMs:=Zh I.out
   refine wp_region_plan (fun w'=>Mem _ w' _) 9 [(0,true),(1,true),(2,true),(3,true),(4,true),(5,true),(6,false),(7,false),(8,false)] (by kernel_rfl) (by kernel_rfl) HMs.out ?_
   repeat(first|(refine plPure rfl rfl (by intro w_ hSw;go_simp;first|done|exact rfl) ?_;try go_frame)|(refine plTakeL (by rfl) (yields_memc rfl _ _ rfl 1 (fun w_ hSw=>hSw) rfl _ rfl _ rfl _ (by first|exact Tryz.underlying3|exact Tryz.underlying4|exact Tryz.underlying28|exact Tryz.underlying27) (by rfl)) ?_;try go_frame))
   refine plTakeL (by rfl) (yw 0 uT.out) ?_
   try go_frame
   refine plStepL rfl rfl fun K hK=> ?_
   go_wp2_with(first|(go_at_call 116;refine(cP ⟨x0,x1,x2,x3,x4,x5⟩ _).mono ?_;rintro r w5 ⟨rfl,p_⟩;dsimp only[sptA,place])|fail)
   refine hK _ _ (HMs.keep p_) fun hS_=> ?_
   clear hK K hS_
   try go_frame
   replace HO:=Zh (owns_keep HO.out p_)
   replace hgw:=Zh (gbt hgw.out (gbb p_))
   replace I:=Zm I p_
   replace HMs:=Zh (HMs.keep p_)
   clear p_
   refine plStepL rfl rfl fun K hK=> ?_
   go_wp2_with(first|fail|fail)
   refine hK _ _ (HMs.keep (ball _ _)) fun hS_=> ?_
   clear hK K hS_
   try go_frame
   refine plStepL rfl rfl fun K hK=> ?_
   go_wp2_with(first|(at_builtin;refine wpList_append_sls eltS _ rfl _ _ rfl w.heap.size (.slice A2 k c2) ((x.e.cells.take k).map place) rfl (by rw[hlen.out];exact HO.alloc _) _ 1 1 [⟨x0,x1⟩] rfl (Sls.one (Blk.new _ _ _)) (by rw[hlen.out];simp;omega) (by have:=hgw.size;simp;omega) ?_;intro v1 w6 HO1 HG1 _;rw[List.length_append,hlen.out,List.length_singleton]at HO1;obtain⟨A3,c3,rfl⟩:=own_slice HO1;replace HO1:=Zh HO1)|fail)
   refine hK _ _ ((HMs.keep (ball _ _)).row (HO.alloc _) HG1 hb0 (apart_cons (apart_cons hLS _ _ _ (by decide)) _ _ _ (by decide))) fun hS_=> ?_
   clear hK K hS_
   try go_frame
   have hHO:=fun q e=>(HO.lt q e).1
   replace hgw:=Zh (gb_new (gbt hgw.out (gbb (ball _ _))) HG1 hHO)
   replace I:=Zh ((I.keep (ball _ _)).row (HO.alloc _) HG1 hb0 (apart_cons (apart_cons hLS _ _ _ (by decide)) _ _ _ (by decide)))
   clear HG1 hHO HO HMs
   have ka:=I.cell 1 rfl
   refine plDone ?_
   simp only[List.drop]
   go_wp2_with(first|(have hBq:=I.at_ 1 rfl;(refine sN 1 I ?_;clear I ka;intro w4 I hG4;simp only[List.set]at I;have ka:=I.cell 1 rfl);have HO2:=Zh (HO1.kept hG4.out (.inr (row_ne_blk HO1.out hBq (by decide))));clear hBq)|fail)
   have hst3:((x.e.cells.take (k+1)).map place)=((x.e.cells.take k).map place)++ [(⟨x0,x1⟩:Spt)]:=hst.out
   rw[←hst3]at HO2
   have HM2:=Zh I.tail
   have hgw2:=Zh (gbt hgw.out hG4.out)
   exact⟨Zh ⟨k+1,A3,c3,by omega,by go_num,hgw2,HO2,HM2⟩,by simp[intOf];omega⟩
  ·have hkq:k=q:=by omega
   subst hkq
   have hS:=hS0.out _ hgw.out
   have cN2:=Zh (cN ⟨x.e,x.m,x.us,x.count,(x.e.cells.take k).map place,x.moved⟩ ⟨⟨cA,cn,cc,ea,el,er⟩,vm,uA,un,uc,A2,k,c2,oA,on,oc⟩ wr I.out ⟨hS.e,hS.m,hS.us,PreS.of_own HO.out,hS.moved⟩)
   clear hS
   go_wp2_with(first
    |(go_at_call 66;refine cN2.mono ?_;rintro r w5 ⟨V,rfl,HM5,hS5⟩)
    |fail)
   rw[←hP.out,hR.out]
   refine⟨V,rfl,?_⟩
   unfold numA at HM5 hS5
   dsimp only at HM5 hS5
   rw[hlc.out]at HM5 hS5
   exact⟨HM5,hS5⟩
def methA(K:Int)(x:Ans):Ans×Bool:=if K=1 then addA x else if K=2 then remA x else if K=3 then movA x else if K=4 then numA x else lstA x
def ans0(e:Ed)(m:Msg)(us:List Spt):Ans:=⟨e,m,us,0,[],[]⟩
structure UsOk(e:Ed)(m:Msg)(us:List Spt):Prop where
 sub:us.Sublist m.spots
 free:∀s∈us,∀c∈e.cells,c.slot≠s.slot
theorem us_ok {t:Tab} {e:Ed}(J:FullOk t e)(f:List Int)(m:Msg):UsOk e m (useN (fullN t e) f m)where
 sub:=List.filter_sublist
 free:=fun s hs c hc=>by
  obtain⟨u,hu⟩:=full_is J
  have h1:=(List.mem_filter.1 hs).2
  obtain⟨_,_,_,_,_,h3⟩:=fits_iff h1
  rw[hu.eq]at h3
  exact h3 c (hu.perm.mem_iff.2 (List.mem_append_left _ hc))
theorem us_fit {e:Ed} {m:Msg} {us:List Spt}(hE:EdOk e)(hm:MsgOk m)(h:UsOk e m us)(old:List Spt)(q:Nat):ChgFit e old (us.take q) false:=
 chg_fit (e:=e) false hE.cells (hm.sasc.sub ((List.take_sublist _ _).trans h.sub)) (fun x hx=>hm.sok x (h.sub.subset (List.mem_of_mem_take hx))) (fun s hs c hc=>h.free s (List.mem_of_mem_take hs) c hc)
theorem nil_fit {e:Ed}(hE:EdOk e)(old:List Spt):ChgFit e old [] false:=chg_fit (e:=e) false hE.cells Asc.nil (by simp) (by simp)
theorem chg_none(e:Ed)(b:Bool):chgN e [] [] b=e.cells:=by
 rw[chg_def]
 unfold newsN keptN
 simp
theorem min_q {c:Int} {n:Nat}(h:0≤c):min c (n:Int)=((min c.toNat n:Nat):Int):=by omega
theorem take_q {us:List Spt} {c:Int}:us.take (min c.toNat us.length)=us.take c.toNat:=by
 rcases Nat.le_total c.toNat us.length with h|h
 ·rw[Nat.min_eq_left h]
 ·rw[Nat.min_eq_right h,List.take_of_length_le (Nat.le_refl _),List.take_of_length_le h]
structure MethSays(e:Ed)(t:Tab)(f:List Int)(m:Msg)(F:Ans×Bool):Prop where
 no:F.2=false→wantN e t f m=none
 yes:F.2=true→wantN e t f m=some (F.1.count,F.1.spots,F.1.moved)∧F.1.m=m∧F.1.e= { e with cells:=chgN e F.1.moved (if m.kind=5 then []else F.1.spots) false}
theorem meth_says {e:Ed} {t:Tab} {f:List Int} {m:Msg}(hm:MsgOk m)(h6:m.kind≠6):MethSays e t f m (methA m.kind (ans0 e m (useN (fullN t e) f m))):=by
 have hk1:=hm.kind1
 have hk6:=hm.kind
 have hc0:=hm.count0
 have hq:=min_q (c:=m.count) (n:=(useN (fullN t e) f m).length) hc0
 have ht:=take_q (us:=useN (fullN t e) f m) (c:=m.count)
 have hl:((useN (fullN t e) f m).take m.count.toNat).length=min m.count.toNat (useN (fullN t e) f m).length:=by rw[List.length_take]
 suffices hs:∀W,W=wantN e t f m→((methA m.kind (ans0 e m (useN (fullN t e) f m))).2=false→W=none)∧((methA m.kind (ans0 e m (useN (fullN t e) f m))).2=true→W=some ((methA m.kind (ans0 e m (useN (fullN t e) f m))).1.count,(methA m.kind (ans0 e m (useN (fullN t e) f m))).1.spots,(methA m.kind (ans0 e m (useN (fullN t e) f m))).1.moved)∧(methA m.kind (ans0 e m (useN (fullN t e) f m))).1.m=m∧(methA m.kind (ans0 e m (useN (fullN t e) f m))).1.e= { e with cells:=chgN e (methA m.kind (ans0 e m (useN (fullN t e) f m))).1.moved (if m.kind=5 then []else(methA m.kind (ans0 e m (useN (fullN t e) f m))).1.spots) false})from⟨(hs _ rfl).1,(hs _ rfl).2⟩
 intro W hW
 unfold wantN at hW
 unfold methA ans0
 dsimp only at hW ⊢
 generalize useN (fullN t e) f m=us at*
 generalize hQ:min m.count.toNat us.length=q at*
 by_cases e1:m.kind=1
 ·rw[if_pos e1]
  unfold addA
  dsimp only
  rw[hq,Int.toNat_natCast,ht]
  refine⟨fun h=> ?_,fun h=> ?_⟩
  ·rw[hW,if_pos e1,if_pos (by rw[hl];have:=of_decide_eq_false h;omega)]
  ·rw[hW,if_pos e1,if_neg (by rw[hl];have:=of_decide_eq_true h;omega),hl]
   refine⟨rfl,rfl,?_⟩
   rw[if_neg (by omega)]
 by_cases e2:m.kind=2
 ·rw[if_neg e1,if_pos e2]
  unfold remA
  dsimp only
  cases hli:lisN e m.old
  ·refine⟨fun _=> ?_,fun h=>by simp at h⟩
   rw[hW,if_neg e1,if_pos e2,if_pos hli]
  ·refine⟨fun h=>by simp at h,fun _=> ?_⟩
   rw[if_pos rfl,hW,if_neg e1,if_pos e2,if_neg (by rw[hli];decide)]
   refine⟨rfl,rfl,?_⟩
   dsimp only
   rw[if_neg (by omega)]
 by_cases e3:m.kind=3
 ·rw[if_neg e1,if_neg e2,if_pos e3]
  unfold movA
  dsimp only
  rw[hq,Int.toNat_natCast,ht]
  by_cases hc:lisN e m.old=true∧(q:Int)≠0
  ·rw[if_pos hc]
   refine⟨fun h=>by simp at h,fun _=> ?_⟩
   rw[hW,if_neg e1,if_neg e2,if_pos e3,if_neg (by rw[hl,hc.1];rintro(h|h);cases h;have:=hc.2;omega),hl]
   refine⟨rfl,rfl,?_⟩
   dsimp only
   rw[if_neg (by omega)]
  ·rw[if_neg hc]
   refine⟨fun _=> ?_,fun h=>by simp at h⟩
   rw[hW,if_neg e1,if_neg e2,if_pos e3,if_pos]
   rw[hl]
   by_cases hz:lisN e m.old=false
   ·exact .inl hz
   ·refine .inr ?_
    have h1:lisN e m.old=true:=by simpa using hz
    have:¬(q:Int)≠0:=fun h2=>hc ⟨h1,h2⟩
    omega
 by_cases e4:m.kind=4
 ·rw[if_neg e1,if_neg e2,if_neg e3,if_pos e4]
  unfold numA
  dsimp only
  refine⟨fun h=>by simp at h,fun _=> ?_⟩
  rw[hW,if_neg e1,if_neg e2,if_neg e3,if_pos e4]
  refine⟨rfl,rfl,?_⟩
  rw[if_neg (by omega),chg_none]
 ·rw[if_neg e1,if_neg e2,if_neg e3,if_neg e4]
  unfold lstA
  dsimp only
  refine⟨fun h=>by simp at h,fun _=> ?_⟩
  rw[hW,if_neg e1,if_neg e2,if_neg e3,if_neg e4]
  refine⟨rfl,rfl,?_⟩
  rw[if_pos (by omega),chg_none]
def numA2(x:Ans)(n:Int):Ans:=⟨{ x.e with number:=n},x.m,x.us,x.count,x.spots,x.moved⟩
structure MethFit(e:Ed)(t:Tab)(f:List Int)(m:Msg)(x:Ans):Prop where
 ls:x.spots.length≤8
 lo:x.moved.length≤8
 lc:x.e.cells.length≤600
 asked:x.e.asked=e.asked
 msg:x.m=m
 num:x.e.number=e.number
 out:recv e t f m=({ (numA2 x (nextN e.number)).e with known:=true,last:=x.m,reply:=accN m x.count x.spots x.moved},accN m x.count x.spots x.moved)
theorem meth_fit {e:Ed} {t:Tab} {f:List Int} {m:Msg} {x:Ans}(J:FullOk t e)(h:chkM m=0)(hr:m.reply=false)(h6:m.kind≠6)(hd:recv e t f m=match wantN e t f m with
        |none=>(e,refN m 2)
        |some (n,s,o)=>(recvE e n s o m,accN m n s o)) (hM:MethSays e t f m (x,true)):MethFit e t f m x:=by
 obtain⟨h1,h2,h3⟩:=hM.yes rfl
 dsimp only at h1 h2 h3
 have W:=want_ok J h hr h6 h1
 obtain⟨p1,p2,p3,p4⟩:=W.put
 have hcs:=chg_cells (b:=false) (old:=x.moved) J.ed.cells p1 p3 (fun y hy=>(p4 y hy).2.1)
 have hl:=J.ed.cells.len
 rw[h1]at hd
 obtain⟨xe,xm,us,n,s,o⟩:=x
 dsimp only at h1 h2 h3 hd hcs p2 p1 p3 p4
 subst h2 h3
 refine⟨W.acc.ls,W.acc.lo,?_,rfl,rfl,rfl,?_⟩
 ·have:=hcs.2.2.1
  show(chgN e o (putS xm s) false).length≤600
  omega
 ·rw[hd]
  rfl
theorem meth_none {e:Ed} {t:Tab} {f:List Int} {m:Msg} {x:Ans}(hd:recv e t f m=match wantN e t f m with
        |none=>(e,refN m 2)
        |some (n,s,o)=>(recvE e n s o m,accN m n s o)) (hM:MethSays e t f m (x,false)):recv e t f m=(e,refN m 2):=by
 rw[hd,hM.no rfl]
end Tx
end Go.Proofs.YtfamifgchgolpaaGreat
