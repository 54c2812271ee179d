/- Chapter 26: Full: the program's. -/
import Derived.Test.YtfamifgchgolpaaGreatBm
import Derived.Test.YtfamifgchgolpaaGreatBn
set_option linter.unusedVariables false
set_option linter.unusedSimpArgs false
set_option maxRecDepth 100000
set_option maxHeartbeats 4000000
namespace Go.Proofs.YtfamifgchgolpaaGreat
open Go Go.RowKit Go.Sort Go.Shelf Go.Maps
namespace Tx
open Sw Mm
def FullPost(t:Tab)(e:Ed)(w:World)(r:Ending)(w':World):Prop:=∃v,r= .returned (.tuple #[.agg (tabA (fullN t e) v),.int .i64 (fullC t e)])∧TabIs w' v (fullN t e)∧Below w.heap.size w w'
theorem fullPost_bad {t:Tab} {e:Ed} {F:Int} {w w':World}(J:fullC t e=F)(h0:F≠0)(hb:Below w.heap.size w w'):FullPost t e w (.returned (.tuple #[.agg (tabA tab0 tabV0),.int .i64 F])) w':=by
 have hN:fullN t e=tab0:=by unfold fullN;rw[J,if_neg h0]
 unfold FullPost
 rw[hN,J]
 exact⟨tabV0,rfl,TabIs.zero _,hb⟩
theorem fullPost_ok {t u:Tab} {e:Ed} {w w':World}(h1:(chkE e≠0∨chkT t≠0∨t.node≠e.node∨(betwN t e.peer).length≠0)→False)(h2:addsN t e.cells=some u) {v:TabV}(hv:TabIs w' v u)(hb:Below w.heap.size w w'):FullPost t e w (.returned (.tuple #[.agg (tabA u v),.int .i64 0])) w':=by
 have J:fullC t e=0:=by unfold fullC;rw[if_neg h1,if_neg (by rw[h2];simp)]
 have hN:fullN t e=u:=by unfold fullN;rw[J,if_pos rfl,h2];rfl
 unfold FullPost
 rw[hN,J]
 exact⟨v,rfl,hv,hb⟩
theorem addsN_snoc:∀(l:List TCl) (t:Tab) (c:TCl),addsN t (l++ [c])=(addsN t l).bind fun u=>if addC u c=0 then some (addN u c)else none
 | [],t,c=>by simp[addsN]
 |x::l,t,c=>by
  simp only[List.cons_append,addsN]
  split
  ·exact addsN_snoc l _ c
  ·rfl
theorem addsN_none:∀(l m:List TCl) (t:Tab),addsN t l=none→addsN t (l++m)=none
 | [],m,t,h=>by cases h
 |x::l,m,t,h=>by
  simp only[List.cons_append,addsN]at*
  split at h
  ·rename_i h1;rw[if_pos h1];exact addsN_none l m _ h
  ·rename_i h1;rw[if_neg h1]
theorem TabIs.grown {w w':World} {v:TabV} {t:Tab}(h:TabIs w v t) {M:Nat} {C:Array Value} {ty:TypeId}(hB:Blk w M C ty)(hC:C.size<6)(hg:w.grownBy w' (some M)):TabIs w' v t:=⟨h.cells.grownBlk tclE_len hB hC hg,h.cc⟩
theorem wpList_allocN {P:Program} {ops:Array Oper} {rest:List Oper} {op:Oper} {a:Act} {w:World} {Q:Exit→Act→World→Prop} {a0:World} {L:List (Nat×Array Value×TypeId)}(hM:Hid (Mem a0 w L))(hgd:op.guard=none)(ty:TypeId)(ho:op.op= .alloc ty)
 {Z:Array Value} {k b:Nat} (hz:(P.info? ty).map (fun i=>(i.zero,i.size,i.bytes))=some (some (.agg Z),k,b)) (h:∀g w',Hid (Mem a0 w' ((g,Z,ty)::L))→Hid (Below w.heap.size w w')→Hid (w.heap.size≤g)→wpList P ops Q rest (a.put op.dst (.pointer (some ⟨g,0,none⟩))) w'):wpList P ops Q (op::rest) a w:=by
 refine wpList_plain hgd fun _ hK=> ?_
 obtain⟨i,h1,h2,_,_⟩:=info_parts hz
 unfold Oper.wp execOp
 have hr:(Instr.alloc ty true (.tuple #[])).run P w= .ok (.pointer (some ⟨w.heap.size,0,none⟩)) (w.alloc (.cells Z ty)):=by
  simp[Instr.alloc,zeroValue,typeInfo,newVar,newRow,newObj,h1,h2]
  rfl
 simp only[ho,Sem.run_bind,hr,Sem.run_pure,Result.andThen_ok]
 exact hK _ _ (h _ _ (hM.alloc Z ty) (ball w _) (Nat.le_refl _))
theorem aN {P:Program} {ops:Array Oper} {rest:List Oper} {op:Oper} {a:Act} {w:World} {Q:Exit→Act→World→Prop} {a0:World} {L:List (Nat×Array Value×TypeId)}(hM:Hid (Mem a0 w L)) {ty:TypeId} {Z:Array Value} {k b:Nat}(hz:(P.info? ty).map (fun i=>(i.zero,i.size,i.bytes))=some (some (.agg Z),k,b))
 (h:∀g w',Hid (Mem a0 w' ((g,Z,ty)::L))→Hid (Below w.heap.size w w')→Hid (w.heap.size≤g)→wpList P ops Q rest (a.put op.dst (.pointer (some ⟨g,0,none⟩))) w') (hgd:op.guard=none:=by rfl) (ho:op.op= .alloc ty:=by rfl):wpList P ops Q (op::rest) a w:=
 wpList_allocN hM hgd ty ho hz h
theorem full_any(t:Tab)(e:Ed)(vt:TabV)(v:EdV)(w:World)(ht:TabIs w vt t)(h:EdIs w v e):Calls Tryz.prog 19 #[.agg (Kt t vt),.agg (Ke e v)] w (FullPost t e w):=by
 have I:=Zh (Mem.start w)
 have cE:=fun W (hb:Below w.heap.size w W)=>chkE_any e v W (h.keep hb)
 have cT:=fun W (hb:Below w.heap.size w W)=>chkT_any t vt W (ht.keep hb)
 have cB:=fun W (hb:Below w.heap.size w W) (hn:vt.n≤100000)=>between_any t vt e.peer W (ht.keep hb) hn
 have cC:=fun W (hb:Below w.heap.size w W) (hn:vt.n≤100000)=>cloneT_any vt.A vt.n vt.c t.cells W (ht.cells.keep hb) hn
 have cA:=fun u vu c W (hu:TabIs W vu u)=>add_any u vu c W hu
 have hcE:=h.cells
 have hlE:=h.cells.len
 have hsm:=h.cells.small
 unfold maxLen at hsm
 have hlt:=ht.cells.len
 have hlen:chkT t=0→vt.n≤512:=fun e=>by have:=((chkT_iff t).1 e).size;omega
 have hPb:=fun F w' e1 e2 e3=>fullPost_bad (t:=t) (e:=e) (F:=F) (w:=w) (w':=w') e1 e2 e3
 have hPo:=fun u w' v' h1 h2 h3 h4=>fullPost_ok (t:=t) (u:=u) (e:=e) (w:=w) (w':=w') h1 h2 (v:=v') h3 h4
 have J:fullC t e=if chkE e≠0∨chkT t≠0∨t.node≠e.node∨(betwN t e.peer).length≠0 then 1 else if addsN t e.cells=none then 16 else 0:=rfl
 generalize FullPost t e w=P at*
 generalize fullC t e=F at*
 generalize chkE e=C1 at*
 generalize chkT t=C2 at*
 have uE:=Tryz.underlying32
 have uM:=Tryz.underlying37
 refine zh12 ?_ cE cT cB cC cA hPb hPo J hlen uE uM ht;clear cE cT cB cC cA hPb hPo J hlen uE uM ht;intro cE cT cB cC cA hPb hPo J hlen uE uM ht
 refine zh4 ?_ h hcE hlE hlt;clear h hcE hlE hlt;intro h hcE hlE hlt
 go_enter Tryz.func19,Tryz.ntmps19
 go_upto_region 1 with(first|(refine bA I 37 ?_;clear I;intro gt w1 I hG;clear hG)|(refine bA I 32 ?_;clear I;intro ge w1 I hG;clear hG)|(refine wpList_allocA I rfl 37 rfl (by first|exact msgInfo|exact edInfo|exact tabInfo|exact info_tcl|exact info_spt) ?_;clear I;intro g4 w1 I hG;clear hG))
 have kt:=I.cell 2 rfl
 have ke:=I.cell 1 rfl
 by_cases hC1:C1=0
 case neg=>
  have hF1:=Zh (J.trans (if_pos (.inl hC1)))
  have d1:(C1 !=0)=true:=by rw[bne_iff_ne];exact hC1
  go_wp2_with(first
   |(refine lM 1 I uE.out ?_)
   |(refine sN 0 I ?_;clear I kt ke;intro w4 I hG4;simp only[List.set]at I;have kt:=I.cell 2 rfl;have ke:=I.cell 1 rfl)
   |(go_at_call 71;refine(cE _ I.below).mono ?_;rintro r w3 ⟨rfl,p_⟩;have HM2:=Zm I p_;clear I p_ kt ke cE;have I:=HM2;clear HM2;have kt:=I.cell 2 rfl;have ke:=I.cell 1 rfl)
   |fail)
  try simp only[Exit.inBlock,Exit.then]
  refine rT I 0 uM.out ?_
  exact hPb.out _ _ hF1.out (by decide) I.below
 have d1:(C1 !=0)=false:=by rw[bne_eq_false_iff_eq];exact hC1
 by_cases hC2:C2=0
 case neg=>
  have hF1:=Zh (J.trans (if_pos (.inr (.inl hC2))))
  have d2:(C2 !=0)=true:=by rw[bne_iff_ne];exact hC2
  go_wp2_with(first
   |(refine lM 1 I uE.out ?_)
   |(refine sN 0 I ?_;clear I kt ke;intro w4 I hG4;simp only[List.set]at I;have kt:=I.cell 2 rfl;have ke:=I.cell 1 rfl)
   |(go_at_call 71;refine(cE _ I.below).mono ?_;rintro r w3 ⟨rfl,p_⟩;have HM2:=Zm I p_;clear I p_ kt ke cE;have I:=HM2;clear HM2;have kt:=I.cell 2 rfl;have ke:=I.cell 1 rfl)
   |(go_at_call 20;refine(cT _ I.below).mono ?_;rintro r w3 ⟨rfl,p_⟩;have HM2:=Zm I p_;clear I p_ kt ke cT;have I:=HM2;clear HM2;have kt:=I.cell 2 rfl;have ke:=I.cell 1 rfl)
   |fail)
  try simp only[Exit.inBlock,Exit.then]
  refine rT I 0 uM.out ?_
  exact hPb.out _ _ hF1.out (by decide) I.below
 have d2:(C2 !=0)=false:=by rw[bne_eq_false_iff_eq];exact hC2
 have hn5:=hlen.out hC2
 have cB2:=Zh fun W hb=>cB.out W hb (by omega)
 have cC2:=Zh fun W hb=>cC.out W hb (by omega)
 clear cB cC hlen
 by_cases hN:t.node=e.node
 case neg=>
  have hF1:=Zh (J.trans (if_pos (.inr (.inr (.inl hN)))))
  have d3:(t.node !=e.node)=true:=by rw[bne_iff_ne];exact hN
  go_wp2_with(first
   |(refine lM 1 I uE.out ?_)
   |(refine sN 0 I ?_;clear I kt ke;intro w4 I hG4;simp only[List.set]at I;have kt:=I.cell 2 rfl;have ke:=I.cell 1 rfl)
   |(go_at_call 71;refine(cE _ I.below).mono ?_;rintro r w3 ⟨rfl,p_⟩;have HM2:=Zm I p_;clear I p_ kt ke cE;have I:=HM2;clear HM2;have kt:=I.cell 2 rfl;have ke:=I.cell 1 rfl)
   |(go_at_call 20;refine(cT _ I.below).mono ?_;rintro r w3 ⟨rfl,p_⟩;have HM2:=Zm I p_;clear I p_ kt ke cT;have I:=HM2;clear HM2;have kt:=I.cell 2 rfl;have ke:=I.cell 1 rfl)
   |fail)
  try simp only[Exit.inBlock,Exit.then]
  refine rT I 0 uM.out ?_
  exact hPb.out _ _ hF1.out (by decide) I.below
 have d3:(t.node !=e.node)=false:=by rw[bne_eq_false_iff_eq];exact hN
 replace hN:=Zh hN
 by_cases hB:(betwN t e.peer).length=0
 case neg=>
  have hF1:=Zh (J.trans (if_pos (.inr (.inr (.inr hB)))))
  replace hB:=Zh hB
  go_wp2_with(first
   |(refine lM 1 I uE.out ?_)
   |(refine sN 0 I ?_;clear I kt ke;intro w4 I hG4;simp only[List.set]at I;have kt:=I.cell 2 rfl;have ke:=I.cell 1 rfl)
   |(go_at_call 71;refine(cE _ I.below).mono ?_;rintro r w3 ⟨rfl,p_⟩;have HM2:=Zm I p_;clear I p_ kt ke cE;have I:=HM2;clear HM2;have kt:=I.cell 2 rfl;have ke:=I.cell 1 rfl)
   |(go_at_call 20;refine(cT _ I.below).mono ?_;rintro r w3 ⟨rfl,p_⟩;have HM2:=Zm I p_;clear I p_ kt ke cT;have I:=HM2;clear HM2;have kt:=I.cell 2 rfl;have ke:=I.cell 1 rfl)
   |(go_at_call 76;refine(cB2 _ I.below).mono ?_;rintro r w3 ⟨Ab,nb,cb,rfl,hS,p_⟩;have hnb:(0:Int)<(nb:Int):=(by have:=hS.len;have:=hB.out;omega);have HM2:=Zm I p_;clear I p_ kt ke cB2;have I:=HM2;clear HM2;have kt:=I.cell 2 rfl;have ke:=I.cell 1 rfl)
   |fail)
  all_goals
   try simp only[Exit.inBlock,Exit.then]
   refine rT I 0 uM.out ?_
   exact hPb.out _ _ hF1.out (by decide) I.below
 have hok:=Zh (show(C1≠0∨C2≠0∨t.node≠e.node∨(betwN t e.peer).length≠0)→False by
  rintro(a|a|a|a)
  ·exact a hC1
  ·exact a hC2
  ·exact a hN.out
  ·exact a hB)
 have hF2:=Zh (J.trans (if_neg hok.out))
 clear J
 replace hB:=Zh hB
 go_upto_region 3 with(first
  |(refine lM 1 I uE.out ?_)
  |(refine sN 0 I ?_;clear I kt ke;intro w4 I hG4;simp only[List.set]at I;have kt:=I.cell 2 rfl;have ke:=I.cell 1 rfl)
  |(go_at_call 71;refine(cE _ I.below).mono ?_;rintro r w3 ⟨rfl,p_⟩;have HM2:=Zm I p_;clear I p_ kt ke cE;have I:=HM2;clear HM2;have kt:=I.cell 2 rfl;have ke:=I.cell 1 rfl)
  |(go_at_call 20;refine(cT _ I.below).mono ?_;rintro r w3 ⟨rfl,p_⟩;have HM2:=Zm I p_;clear I p_ kt ke cT;have I:=HM2;clear HM2;have kt:=I.cell 2 rfl;have ke:=I.cell 1 rfl)
  |(go_at_call 76;refine(cB2 _ I.below).mono ?_;rintro r w3 ⟨Ab,nb,cb,rfl,hS,p_⟩;have hnb:nb=0:=(by have:=hS.len;have:=hB.out;omega);subst hnb;clear hS;have HM2:=Zm I p_;clear I p_ kt ke cB2;have I:=HM2;clear HM2;have kt:=I.cell 2 rfl;have ke:=I.cell 1 rfl)
  |fail)
 clear d1 d2 d3
 go_wp2_with(first
  |(refine sN 2 I ?_;clear I kt ke;intro w4 I hG4;simp only[List.set]at I;have kt:=I.cell 2 rfl;have ke:=I.cell 1 rfl)
  |(go_at_call 77;refine(cC2 _ I.below).mono ?_;rintro r w3 ⟨A1,p1,rfl,hO1,p_⟩;have hBq:=Zh ((I.keep p_).at_ 2 rfl);have HM2:=Zm I p_;clear I p_ kt ke cC2;have I:=HM2;clear HM2;have kt:=I.cell 2 rfl;have ke:=I.cell 1 rfl)
  |fail)
 have hO8:=hO1.kept hG4.out (.inr (row_ne_blk hO1 hBq.out (by decide)))
 have hT0:Hid (TabIs w4 ⟨A1,vt.n,p1⟩ t):=⟨(Sls.of_owns tclE_len hO8 hlt.out).2,own_cap hO8⟩
 clear hO1 hO8 hG4 hBq
 go_loopw[7,8,40] (fun _ _ i wr=>∃(k:Nat) (u:Tab) (vu:TabV),k≤v.cn∧i= .int .i64 k∧Hid (addsN t (e.cells.take k)=some u)∧Hid (TabIs wr vu u)∧Hid (Mem w wr [(g4,#[.int .i64 0,.int .i64 0,.slice none 0 0],37),(ge,(Ke e v),32),(gt,(Kt u vu),37)])) (fun _ _ i _=>v.cn-(intOf i).toNat)
 case atStart=>exact⟨0,t,⟨A1,vt.n,p1⟩,by omega,rfl,rfl,hT0,I⟩
 case round=>
  clear I hT0
  obtain⟨k,u,vu,hk,rfl,hA,hT,I⟩:=hrel
  clear kt ke
  have kt:=I.cell 2 rfl
  have ke:=I.cell 1 rfl
  by_cases hlt2:k<v.cn
  ·obtain⟨b,off,hcA⟩:=hcE.addr (by omega)
   have hx:=tcl_at (hcA▸hcE.keep I.below) hlt2
   have hst:addsN t (e.cells.take (k+1))=if addC u (e.cells.getD k default)=0 then some (addN u (e.cells.getD k default))else none:=by
    have e1:e.cells.take (k+1)=e.cells.take k++ [e.cells.getD k default]:=by
     rw[List.take_add_one,List.getElem?_eq_getElem (by rw[hlE.out];exact hlt2)]
     simp[List.getD,List.getElem?_eq_getElem (show k<e.cells.length by rw[hlE.out];exact hlt2)]
    rw[e1,addsN_snoc,hA.out];rfl
   have hbad:addsN t (e.cells.take (k+1))=none→addsN t e.cells=none:=fun h1=>by
    have:=addsN_none _ (e.cells.drop (k+1)) t h1
    rwa[List.take_append_drop]at this
   simp only[hcA]at ke I ⊢
   have cX:=cA.out u vu (e.cells.getD k default)
   generalize e.cells.getD k default=x at*
   obtain⟨x0,x1,x2,x3,x4,x5⟩:=x
   obtain⟨q0,q1,q2,q3,q4,q5⟩:=hx
   dsimp only at q0 q1 q2 q3 q4 q5 cX
   have r1:(k:Int)<(v.cn:Int):=by omega
   refine zh3 ?_ hst hbad cX;clear hst hbad cX;intro hst hbad cX
   go_upto_region 8 with(first|(refine aN I info_tcl ?_;clear I;intro gc w1 I hG hN9)|(refine sN 0 I ?_;clear I kt ke;intro w4 I hG4;simp only[List.set]at I;have kt:=I.cell 3 rfl;have ke:=I.cell 2 rfl))
   have hT1:=Zh (hT.keep (hG.grown hG4.out hG.size (fun k e=>by cases e;exact hN9.out)))
   clear hT q0 q1 q2 q3 q4 q5 hG hG4 hN9
   have kc:=I.cell 0 rfl
   generalize hAC:addC u ⟨x0,x1,x2,x3,x4,x5⟩=AC at*
   go_wp2_with(first
    |(refine sN 3 I ?_;clear I kt ke kc;intro w4 I hG4;simp only[List.set]at I;have kt:=I.cell 3 rfl;have ke:=I.cell 2 rfl;have kc:=I.cell 0 rfl)
    |(refine sN 1 I ?_;clear I kt ke kc;intro w4 I hG4;simp only[List.set]at I;have kt:=I.cell 3 rfl;have ke:=I.cell 2 rfl;have kc:=I.cell 0 rfl)
    |(go_at_call 78;refine(cX _ hT1.out).mono ?_;rintro r w5 ⟨vn,rfl,hT2,p_⟩;dsimp only[tabA];have hBq:=Zh ((I.keep p_).at_ 3 rfl);rw[hAC]at*;have HM2:=Zm I p_;clear I p_ kt ke kc cX hT1;have I:=HM2;clear HM2;have kt:=I.cell 3 rfl;have ke:=I.cell 2 rfl;have kc:=I.cell 0 rfl)
    |fail)
   ·try simp only[Exit.inBlock,Exit.then]
    refine rT I 1 uM.out ?_
    have hA0:¬AC=0:=by simpa using ‹(AC !=0)=true›
    exact hPb.out 16 _ (hF2.trans (if_pos (hbad (hst.trans (if_neg hA0))))) (by decide) I.below
   ·have hA0:AC=0:=by simpa using ‹(AC !=0)=false›
    have hT3:=Zh (hT2.grown hBq.out (by show 3<6;decide) hG4.out)
    have HM2:=Zh I.tail
    have hA2:=Zh (hst.trans (if_pos hA0))
    go_wp2
    go_roundw
    case rel=>exact⟨k+1,_,vn,by omega,by go_num,hA2,hT3,HM2⟩
    case measure=>simp[intOf];omega
  ·have hkn:k=v.cn:=by omega
   have hA2:addsN t e.cells=some u:=by
    have:=hA.out
    rwa[List.take_of_length_le (by rw[hlE.out];omega)]at this
   replace hA2:=Zh hA2
   have hBq:=Zh (I.at_ 0 rfl)
   go_wp2_with(first|(refine sN 0 I ?_;clear I kt ke;intro w4 I hG4;simp only[List.set]at I;have kt:=I.cell 2 rfl;have ke:=I.cell 1 rfl)|fail)
   try simp only[Exit.inBlock,Exit.then]
   refine rT I 0 uM.out ?_
   exact hPo.out u _ vu hok.out hA2.out (hT.grown hBq.out (by show 3<6;decide) hG4.out) I.below
theorem place_any(c:TCl)(w:World):Calls Tryz.prog 116 #[.agg #[.int .i64 c.slot,.int .i64 c.off,.int .i64 c.kind,.bool c.send,.int .i64 c.peer,.int .i64 c.flow]] w fun r w'=>r= .returned (.agg (sptA (place c)))∧Below w.heap.size w w':=by
 have I:=Zh (Mem.start w)
 have uS:=Tryz.underlying97
 generalize hP:(fun(r:Ending) w'=>r=Ending.returned (.agg (sptA (place c)))∧Below w.heap.size w w')=P
 replace uS:=Zh uS
 replace hP:=Zh hP
 go_enter Tryz.func116,Tryz.ntmps116
 go_upto_region 1 with(first|(refine bA I 85 ?_;clear I;intro g w1 I hG;clear hG)|(refine wpList_allocA I rfl 97 rfl (by first|exact msgInfo|exact edInfo|exact tabInfo|exact info_tcl|exact info_spt) ?_;clear I;intro g2 w1 I hG;clear hG))
 have kc:=I.cell 1 rfl
 go_wp2_with(first|(refine sF 0 I ?_;clear I kc;intro w4 I hG4;simp only[List.set]at I;have kc:=I.cell 1 rfl)|fail)
 try simp only[Exit.inBlock,Exit.then]
 refine rC I 0 uS.out ?_
 rw[←hP.out]
 exact⟨rfl,I.below⟩
def sendG(l:List TCl)(k:Nat):List Spt:=((l.take k).filter fun c=>c.send).map place
theorem sendG_succ {l:List TCl} {k:Nat}(h:k<l.length):sendG l (k+1)=sendG l k++if(l.getD k default).send=true then [place (l.getD k default)]else []:=by
 unfold sendG
 rw[filter_take_succ (fun c:TCl=>c.send) l k h,List.map_append]
 split<;>rfl
theorem sendG_len(l:List TCl)(k:Nat):(sendG l k).length≤k:=by
 unfold sendG
 rw[List.length_map]
 exact Nat.le_trans (List.length_filter_le _ _) (List.length_take_le _ _)
def SendsPost(e:Ed)(w:World)(r:Ending)(w':World):Prop:=∃A n c,r= .returned (.slice A n c)∧(sendsN e).length=n∧w'.ownsRow w.heap.size 97 2 (.slice A n c) n ((sendsN e).flatMap sptE)∧Below w.heap.size w w'
theorem sendsPost_of {e:Ed} {n k m:Nat} {A:Option Addr} {c:Nat} {w w':World}(hk:k=n)(hn:e.cells.length=n)(hm:(sendG e.cells k).length=m)(ho:w'.ownsRow w.heap.size 97 2 (.slice A m c) m ((sendG e.cells k).flatMap sptE))(hb:Below w.heap.size w w'):SendsPost e w (.returned (.slice A m c)) w':=by
 have:sendG e.cells k=sendsN e:=by unfold sendG sendsN;rw[List.take_of_length_le (by omega)]
 rw[this]at hm ho
 exact⟨A,m,c,rfl,hm,ho,hb⟩
theorem sends_any(e:Ed)(v:EdV)(w:World)(h:EdIs w v e)(hn:v.cn≤100000):Calls Tryz.prog 45 #[.agg (Ke e v)] w (SendsPost e w):=by
 have I:=Zh (Mem.start w)
 have hcE:=h.cells
 have hlE:=h.cells.len
 have cP:=fun c W=>place_any c W
 have hPo:=fun k m A c w' a1 a2 a3 a4=>sendsPost_of (e:=e) (n:=v.cn) (k:=k) (m:=m) (A:=A) (c:=c) (w:=w) (w':=w') a1 hlE a2 a3 a4
 have hsucc:=fun k (hk:k<v.cn)=>sendG_succ (l:=e.cells) (k:=k) (by omega)
 have hsl:=sendG_len e.cells
 generalize SendsPost e w=P at*
 have uE:=Tryz.underlying32
 have uT:=Tryz.underlying85
 refine zh8 ?_ cP hPo hsucc uE uT hcE hlE hsl;clear cP hPo hsucc uE uT hcE hlE hsl;intro cP hPo hsucc uE uT hcE hlE hsl
 clear h
 go_enter Tryz.func45,Tryz.ntmps45
 go_upto_region 1 with(first|(refine bA I 32 ?_;clear I;intro ge w1 I hG;clear hG))
 have ke:=I.cell 0 rfl
 go_wp2_with fail
 go_loopw[3,9] (fun o i wr=>∃(k m:Nat) (A1:Option Addr) (c1:Nat),k≤v.cn∧i= .int .i64 k∧o= .slice A1 m c1∧Hid ((sendG e.cells k).length=m)∧Hid (wr.ownsRow w.heap.size 97 2 (.slice A1 m c1) m ((sendG e.cells k).flatMap sptE))∧Hid (Mem w wr [(ge,(Ke e v),32)])) (fun _ i _=>v.cn-(intOf i).toNat)
 case atStart=>exact⟨0,0,none,0,by omega,rfl,rfl,rfl,World.ownsRow_nil _ _ _ _,I⟩
 case round=>
  clear I ke
  obtain⟨k,m,A1,c1,hk,rfl,rfl,HL,HO,I⟩:=hrel
  have ke:=I.cell 0 rfl
  by_cases hlt2:k<v.cn
  ·obtain⟨b,off,hcA⟩:=hcE.addr (by omega)
   have hx:=tcl_at (hcA▸hcE.keep I.below) hlt2
   have hst:=hsucc.out k hlt2
   have hmk:m≤k:=by have:=hsl.out k;have:=HL.out;omega
   simp only[hcA]at ke I ⊢
   generalize e.cells.getD k default=x at*
   obtain⟨x0,x1,x2,x3,x4,x5⟩:=x
   obtain⟨q0,q1,q2,q3,q4,q5⟩:=hx
   dsimp only at q0 q1 q2 q3 q4 q5 hst
   have r1:(k:Int)<(v.cn:Int):=by omega
   replace hst:=Zh hst
   go_upto_region 5 with(first|(refine aN I info_tcl ?_;clear I;intro gc w1 I hG hN9)|(refine sF 0 I ?_;clear I ke;intro w4 I hG4;simp only[List.set]at I;have ke:=I.cell 1 rfl))
   have p_:=hG.grown hG4.out hG.size (fun k e=>by cases e;exact hN9.out)
   replace HO:=Zh (owns_keep HO.out p_)
   clear q0 q1 q2 q3 q4 q5 hG hG4 hN9 p_
   have kc:=I.cell 0 rfl
   cases x3 with
   |false=>
    have HL2:Hid ((sendG e.cells (k+1)).length=m):=by show _= _;rw[hst.out,if_neg (by decide),List.append_nil];exact HL.out
    have HO2:Hid (w4.ownsRow w.heap.size 97 2 (.slice A1 m c1) m ((sendG e.cells (k+1)).flatMap sptE)):=by show World.ownsRow _ _ _ _ _ _ _;rw[hst.out,if_neg (by decide),List.append_nil];exact HO.out
    have HM2:=Zh I.tail
    go_wp2
    go_roundw
    case rel=>exact⟨k+1,m,A1,c1,by omega,by go_num,rfl,HL2,HO2,HM2⟩
    case measure=>simp[intOf];omega
   |true=>
    have HE:Hid (sendG e.cells (k+1)=sendG e.cells k++ [⟨x0,x1⟩]):=by show _= _;rw[hst.out,if_pos rfl];rfl
    go_wp2_with(first
     |(refine lM 0 I uT.out ?_)
     |(go_at_call 116;refine(cP ⟨x0,x1,x2,true,x4,x5⟩ _).mono ?_;rintro r w5 ⟨rfl,p_⟩;dsimp only[sptA,place];replace HO:=Zh (owns_keep HO.out p_);have HM2:=Zm I p_;clear I p_ ke kc cP;have I:=HM2;clear HM2;have ke:=I.cell 1 rfl;have kc:=I.cell 0 rfl)
     |(at_builtin;refine wpList_append_sls eltS _ rfl _ _ rfl w.heap.size (.slice A1 m c1) (sendG e.cells k) rfl (by rw[HL.out];exact HO.alloc _) _ 1 1 [⟨x0,x1⟩] rfl (Sls.one (Blk.new _ _ _)) (by rw[HL.out];simp;omega) (by first|exact(ballN I.below _).size|(have:=I.below.size;simp;omega)) ?_;intro v1 w6 HO1 HG1 _;obtain⟨A2,c2',rfl⟩:=own_slice HO1;replace HO1:=Zh HO1;replace HG1:=Zh HG1)
     |fail)
    have HM2:=Zh (((I.keep (ball w5 (.cells #[.int .i64 x0,.int .i64 x1] 97))).row (HO.alloc _) HG1.out (Nat.le_refl _) (apart_of (by rfl))).tail)
    rw[List.length_append,HL.out]at HO1
    have HL2:Hid ((sendG e.cells (k+1)).length=m+1):=by show _= _;rw[HE.out,List.length_append,HL.out];rfl
    have HO2:Hid (w6.ownsRow w.heap.size 97 2 (.slice A2 (m+1) c2') (m+1) ((sendG e.cells (k+1)).flatMap sptE)):=by show World.ownsRow _ _ _ _ _ _ _;rw[HE.out];exact HO1.out
    go_wp2
    exact⟨⟨k+1,m+1,A2,c2',by omega,by go_num,by rw[HL.out],HL2,HO2,HM2⟩,by simp[intOf];omega⟩
  ·have hP2:=Zh (hPo k m A1 c1 wr (by omega) HL.out HO.out I.below)
   go_wp2
   exact hP2.out
theorem rsends_any(e:Ed)(v:EdV)(w:World)(h:EdIs w v e)(hn:v.cn≤100000):Calls Tryz.prog 153 #[.agg (Ke e v)] w (SendsPost e w):=by
 have I:=Zh (Mem.start w)
 have hcE:=h.cells
 have hlE:=h.cells.len
 have hPo:=fun k m A c w' a1 a2 a3 a4=>sendsPost_of (e:=e) (n:=v.cn) (k:=k) (m:=m) (A:=A) (c:=c) (w:=w) (w':=w') a1 hlE a2 a3 a4
 have hsucc:=fun k (hk:k<v.cn)=>sendG_succ (l:=e.cells) (k:=k) (by omega)
 have hsl:=sendG_len e.cells
 generalize SendsPost e w=P at*
 have uE:=Tryz.underlying32
 have uT:=Tryz.underlying85
 refine zh7 ?_ hPo hsucc uE uT hcE hlE hsl;clear hPo hsucc uE uT hcE hlE hsl;intro hPo hsucc uE uT hcE hlE hsl
 clear h
 go_enter Tryz.func153,Tryz.ntmps153
 go_upto_region 1 with(first|(refine bA I 32 ?_;clear I;intro ge w1 I hG;clear hG))
 have ke:=I.cell 0 rfl
 go_wp2_with fail
 go_loopw[3,4] (fun o i wr=>Hid (∃(k m:Nat) (A1:Option Addr) (c1:Nat),k≤v.cn∧i= .int .i64 k∧o= .slice A1 m c1∧Hid ((sendG e.cells k).length=m)∧Hid (wr.ownsRow w.heap.size 97 2 (.slice A1 m c1) m ((sendG e.cells k).flatMap sptE))∧Hid (Mem w wr [(ge,(Ke e v),32)]))) (fun _ i _=>v.cn-(intOf i).toNat)
 case atStart=>exact Zh ⟨0,0,none,0,by omega,rfl,rfl,rfl,World.ownsRow_nil _ _ _ _,I⟩
 case round=>
  clear I ke
  obtain⟨k,m,A1,c1,hk,rfl,rfl,HL,HO,I⟩:=hrel.out
  clear hrel
  have ke:=I.cell 0 rfl
  by_cases hlt2:k<v.cn
  ·obtain⟨b,off,hcA⟩:=hcE.addr (by omega)
   have ke3:=ke 3
   change _=some (Value.slice v.cA v.cn v.cc)at ke3
   rw[hcA]at ke3
   clear ke
   replace hcA:=Zh hcA
   have hx:=tcl_at (hcA.out▸hcE.keep I.below) hlt2
   have hst:=hsucc.out k hlt2
   have hmk:m≤k:=by have:=hsl.out k;have:=HL.out;omega
   generalize hxe:e.cells.getD k default=x at*
   replace hxe:=Zh hxe
   obtain⟨x0,x1,x2,x3,x4,x5⟩:=x
   obtain⟨q0,q1,q2,q3,q4,q5⟩:=hx
   dsimp only at q0 q1 q2 q3 q4 q5 hst
   have r1:(k:Int)<(v.cn:Int):=by omega
   have r0:(0:Int)≤(k:Int):=by omega
   replace hst:=Zh hst
   cases x3 with
   |false=>
    have HL2:Hid ((sendG e.cells (k+1)).length=m):=by show _= _;rw[hst.out,if_neg (by decide),List.append_nil];exact HL.out
    have HO2:Hid (wr.ownsRow w.heap.size 97 2 (.slice A1 m c1) m ((sendG e.cells (k+1)).flatMap sptE)):=by show World.ownsRow _ _ _ _ _ _ _;rw[hst.out,if_neg (by decide),List.append_nil];exact HO.out
    go_wp2
    go_roundw
    case rel=>exact Zh ⟨k+1,m,A1,c1,by omega,by go_num,rfl,HL2,HO2,I⟩
    case measure=>simp[intOf];omega
   |true=>
    have HE:Hid (sendG e.cells (k+1)=sendG e.cells k++ [⟨x0,x1⟩]):=by show _= _;rw[hst.out,if_pos rfl];rfl
    go_upto_region 6 with fail
    have HX:Hid (∀w',Mem w w' [(ge,(Ke e v),32)]→Mem w w' [(ge,(Ke e v),32)]∧w'.cell? ⟨ge,3,none⟩=some (.slice (some ⟨b,off,none⟩) v.cn v.cc)∧w'.cell? ⟨b,off+k*6,none⟩=some (.int .i64 x0)∧w'.cell? ⟨b,off+k*6+1,none⟩=some (.int .i64 x1)):=fun w' hm=>by
     have hx:=tcl_at (hcA.out▸hcE.keep hm.below) hlt2
     rw[hxe.out]at hx
     refine⟨hm,?_,hx.1,hx.2.1⟩
     rw[←hcA.out]
     exact hm.cell 0 rfl 3
    clear q0 q1 q2 q3 q4 q5
    have HOd:=Zh (HO.drew.alloc (.cells #[.int .i64 x0,.int .i64 x1] 97))
    have hsz:=I.below.size
    have HL3:=HL.out
    go_region_held3(fun w'=>Mem w w' [(ge,(Ke e v),32)]∧w'.cell? ⟨ge,3,none⟩=some (.slice (some ⟨b,off,none⟩) v.cn v.cc)∧w'.cell? ⟨b,off+k*6,none⟩=some (.int .i64 x0)∧w'.cell? ⟨b,off+k*6+1,none⟩=some (.int .i64 x1))
     (first
      |exact HX.out _ I.drew
      |exact HX.out _ HM6.out
      |exact HX.out _ (Mem.keep (And.left (by assumption)) (ball _ _)))
     (first
      |(refine step_append_sls eltS (World.alloc wr.drew _) (by rfl) _ _ (by rfl) w.heap.size (.slice A1 m c1) (sendG e.cells k) (by rfl) (by rw[HL3];exact HOd.out) _ 1 1 [⟨x0,x1⟩] (by rfl) (Sls.one (t:=97) (Blk.new wr.drew #[.int .i64 x0,.int .i64 x1] 97)) (by rw[HL3];omega) (by simp;omega) ?_;intro v1 w6 HO1 HG1 _;have HM6:=Zh ((I.drew.keep (ball wr.drew (.cells #[.int .i64 x0,.int .i64 x1] 97))).row HOd.out HG1 (Nat.le_refl _) (apart_of (by rfl)));rw[List.length_append,HL3,List.length_singleton]at HO1;obtain⟨A2,c2',rfl⟩:=own_slice HO1;replace HO1:=Zh HO1;clear HG1))
    have HL2:Hid ((sendG e.cells (k+1)).length=m+1):=by show _= _;rw[HE.out,List.length_append,HL.out];rfl
    have HO2:Hid (w6.ownsRow w.heap.size 97 2 (.slice A2 (m+1) c2') (m+1) ((sendG e.cells (k+1)).flatMap sptE)):=by show World.ownsRow _ _ _ _ _ _ _;rw[HE.out];exact HO1.out
    go_wp2
    exact⟨Zh ⟨k+1,m+1,A2,c2',by omega,by go_num,rfl,HL2,HO2,HM6⟩,by simp[intOf];omega⟩
  ·have hP2:=Zh (hPo k m A1 c1 wr (by omega) HL.out HO.out I.below)
   go_wp2
   exact hP2.out
end Tx
end Go.Proofs.YtfamifgchgolpaaGreat
