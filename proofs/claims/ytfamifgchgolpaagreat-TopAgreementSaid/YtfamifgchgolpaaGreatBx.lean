/- Chapter 26: Ask: the program's. -/
import Derived.Test.YtfamifgchgolpaaGreatBw
set_option linter.unusedVariables false
set_option linter.unusedSimpArgs false
set_option maxRecDepth 100000
set_option maxHeartbeats 2000000
namespace Go.Proofs.YtfamifgchgolpaaGreat
open Go Go.RowKit Go.Sort Go.Shelf Go.Maps
namespace Tx
open Sw Mm Pl
structure SubS(w:World)(A:Option Addr)(n:Nat)(xs:List Spt):Prop where
 row:∃(b m c:Nat) (A0:Option Addr) (ys:List Spt),w.ownsRow b 97 2 (.slice A0 m c) m (ys.flatMap sptE)∧∀w':World,w'.ownsRow b 97 2 (.slice A0 m c) m (ys.flatMap sptE)→SptS w' A n xs
theorem SubS.is {w:World} {A:Option Addr} {n:Nat} {xs:List Spt}(h:SubS w A n xs):SptS w A n xs:=by
 obtain⟨b,m,c,A0,ys,h1,h2⟩:=h.row
 exact h2 _ h1
theorem SubS.keep {w w':World} {A:Option Addr} {n:Nat} {xs:List Spt}(h:SubS w A n xs)(hb:Below w.heap.size w w'):SubS w' A n xs:=by
 obtain⟨b,m,c,A0,ys,h1,h2⟩:=h.row
 exact⟨b,m,c,A0,ys,owns_keep h1 hb,h2⟩
theorem SubS.put {w w':World} {A:Option Addr} {n:Nat} {xs:List Spt}(h:SubS w A n xs) {B:Nat} {C:Array Value} {t:TypeId}(hB:Blk w B C t)(ht:t≠97)(hg:w.grownBy w' (some B)):SubS w' A n xs:=by
 obtain⟨b,m,c,A0,ys,h1,h2⟩:=h.row
 exact⟨b,m,c,A0,ys,h1.kept hg (.inr (row_ne_blk h1 hB ht.symm)),h2⟩
theorem SubS.of_own {w:World} {A:Option Addr} {n c b:Nat} {xs:List Spt}(h:w.ownsRow b 97 2 (.slice A n c) n (xs.flatMap sptE)):SubS w A n xs:=by
 have hl:=own_len sptE_len (by decide) h
 exact⟨b,n,c,A,xs,h,fun w' h'=>(Sls.of_owns sptE_len h' hl).2⟩
theorem SubS.nil(w:World):SubS w none 0 []:=SubS.of_own (b:=0) (c:=0) (World.ownsRow_nil _ _ _ _)
theorem SubS.take {w:World} {A:Option Addr} {n k:Nat} {xs:List Spt}(h:SubS w A n xs)(hk:k≤n):SubS w A k (xs.take k):=by
 obtain⟨b,m,c,A0,ys,h1,h2⟩:=h.row
 exact⟨b,m,c,A0,ys,h1,fun w' h'=>(h2 w' h').take hk⟩
theorem SubS.drop {w:World} {g off n k:Nat} {xs:List Spt}(h:SubS w (some ⟨g,off,none⟩) n xs)(hk:k≤n):SubS w (some ⟨g,off+k*2,none⟩) (n-k) (xs.drop k):=by
 obtain⟨b,m,c,A0,ys,h1,h2⟩:=h.row
 exact⟨b,m,c,A0,ys,h1,fun w' h'=>(h2 w' h').drop hk⟩
structure MsgSub(w:World)(v:MsgV)(m:Msg):Prop where
 spots:SubS w v.sA v.sn m.spots
 old:SubS w v.oA v.on m.old
 sc:v.sn≤v.sc
 oc:v.on≤v.oc
theorem MsgSub.is {w:World} {v:MsgV} {m:Msg}(h:MsgSub w v m):MsgIs w v m:=⟨h.spots.is,h.old.is,h.sc,h.oc⟩
theorem MsgSub.keep {w w':World} {v:MsgV} {m:Msg}(h:MsgSub w v m)(hb:Below w.heap.size w w'):MsgSub w' v m:=⟨h.spots.keep hb,h.old.keep hb,h.sc,h.oc⟩
theorem MsgSub.put {w w':World} {v:MsgV} {m:Msg}(h:MsgSub w v m) {B:Nat} {C:Array Value} {t:TypeId}(hB:Blk w B C t)(ht:t≠97)(hg:w.grownBy w' (some B)):MsgSub w' v m:=⟨h.spots.put hB ht hg,h.old.put hB ht hg,h.sc,h.oc⟩
theorem MsgSub.num {w:World} {v:MsgV} {m:Msg}(h:MsgSub w v m)(n:Int):MsgSub w v (numM m n):=⟨h.spots,h.old,h.sc,h.oc⟩
def TriOwn(E:Ed)(M:Msg)(c:Int)(w:World)(r:Ending)(w':World):Prop:=∃v vm,r= .returned (.tuple #[.agg (endA E v),.agg (msgA M vm),.int .i64 c])∧EdOwn w' v E∧MsgSub w' vm M∧Below w.heap.size w w'
theorem MsgSub.zero(w:World):MsgSub w msgV0 msg0:=⟨SubS.nil w,SubS.nil w,Nat.le_refl _,Nat.le_refl _⟩
theorem EdOwn.zero(w:World):EdOwn w edV0 ed0:=⟨⟨0,World.ownsRow_nil _ _ _ _⟩,rfl,MsgOwn.zero w,MsgOwn.zero w,MsgOwn.zero w⟩
theorem triOwn_bad {E:Ed} {M:Msg} {c C:Int} {w w':World}(hE:E=ed0)(hM:M=msg0)(hc:c=C)(hb:Below w.heap.size w w'):TriOwn E M c w (.returned (.tuple #[.agg (Kz 28),.agg (Kz 7),.int .i64 C])) w':=by
 subst hE hM hc;exact⟨edV0,msgV0,rfl,EdOwn.zero _,MsgSub.zero _,hb⟩
theorem fail1_any(c:Int)(w:World):Calls Tryz.prog 42 #[.int .i64 c] w fun r w'=>r= .returned (.tuple #[.agg (Kz 28),.agg (Kz 7),.int .i64 c])∧Below w.heap.size w w':=by
 have I:=Zh (Mem.start w)
 have uE:=Tryz.underlying32
 have uM:=Tryz.underlying30
 generalize hP:(fun(r:Ending) w'=>r=Ending.returned (.tuple #[.agg (Kz 28),.agg (Kz 7),.int .i64 c])∧Below w.heap.size w w')=P
 refine zh3 ?_ uE uM hP;clear uE uM hP;intro uE uM hP
 go_enter Tryz.func42,Tryz.ntmps42
 go_wp2_with(first|(refine wpList_allocA I rfl 32 rfl (by first|exact msgInfo|exact edInfo|exact tabInfo|exact info_tcl|exact info_spt) ?_;clear I;intro g2 w1 I hG;clear hG)|(refine wpList_allocA I rfl 30 rfl (by first|exact msgInfo|exact edInfo|exact tabInfo|exact info_tcl|exact info_spt) ?_;clear I;intro g3 w1 I hG;clear hG)|(refine sF 1 I ?_;clear I;intro w4 I hG4;simp only[List.set]at I)|(refine sF 0 I ?_;clear I;intro w4 I hG4;simp only[List.set]at I)|fail)
 try simp only[Exit.inBlock,Exit.then]
 refine rU I 1 0 uE.out uM.out ?_
 rw[←hP.out]
 exact⟨rfl,I.below⟩
theorem own_addr {w:World} {base:Nat} {e:TypeId} {size n c:Nat} {A:Option Addr} {xs:List Value}(h:w.ownsRow base e size (.slice A n c) n xs)(hn:0<n):∃g,A=some ⟨g,0,none⟩:=by
 rcases h.2 with⟨_,h0⟩|⟨g,cap,cur,hv,_⟩
 ·omega
 ·injection hv with hA _ _
  exact⟨g,hA⟩
theorem askE_bad {e:Ed} {t:Tab} {f:List Int} {kind count slot:Int}(h:askC e t f kind count slot≠0):askE e t f kind count slot=ed0∧askN e t f kind count slot=msg0:=by
 unfold askE askN;rw[if_neg h,if_neg h];exact⟨rfl,rfl⟩
theorem ask_ok {e:Ed} {t:Tab} {f:List Int} {kind count slot:Int}(h:askC e t f kind count slot=0):askE e t f kind count slot=openE e (askM e t f kind count) slot∧askN e t f kind count slot=askM e t f kind count:=by
 unfold askE askN;rw[if_pos h,if_pos h];exact⟨rfl,rfl⟩
theorem askC_w(e:Ed)(t:Tab)(f:List Int)(kind count slot:Int):askC e t f kind count slot=if fullC t e≠0 then fullC t e
 else if(decide (kind<1)||(decide (6<kind)||(!withB slot 1099511627776|| !countsN kind count)))=true then 2
 else if e.opn=true then 12
 else if(kind=1∨kind=3)∧((candN (fullN t e) f 8).length:Int)<count then 14
 else if(kind=2∨kind=3)∧((sendsN e).length:Int)<count then 14 else 0:=by
 unfold askC withB
 split
 ·rfl
 ·have:(kind<1∨6<kind∨slot<0∨1099511627776<slot∨countsN kind count=false)↔((decide (kind<1)||(decide (6<kind)||(!(decide (0≤slot)&&decide (slot≤1099511627776))|| !countsN kind count)))=true):=by
   simp only[Bool.or_eq_true,decide_eq_true_eq,Bool.not_eq_true',Bool.and_eq_false_iff,decide_eq_false_iff_not]
   constructor
   ·rintro(h|h|h|h|h)
    ·exact .inl h
    ·exact .inr (.inl h)
    ·exact .inr (.inr (.inl (.inl (by omega))))
    ·exact .inr (.inr (.inl (.inr (by omega))))
    ·exact .inr (.inr (.inr h))
   ·rintro(h|h|(h|h)|h)
    ·exact .inl h
    ·exact .inr (.inl h)
    ·exact .inr (.inr (.inl (by omega)))
    ·exact .inr (.inr (.inr (.inl (by omega))))
    ·exact .inr (.inr (.inr (.inr h)))
  simp only[this]
theorem ask_any(e:Ed)(t:Tab)(v:EdV)(vt:TabV)(A:Option Addr)(nf cf:Nat)(f:List Int)(kind count slot:Int)(w:World)(h:EdIs w v e)(ht:TabIs w vt t)(hf:IntS w A nf f):Calls Tryz.prog 11 #[.agg (Ke e v),.agg (Kt t vt),.slice A nf cf,.int .i64 kind,.int .i64 count,.int .i64 slot] w (TriOwn (askE e t f kind count slot) (askN e t f kind count slot) (askC e t f kind count slot) w):=by
 have I:=Zh (Mem.start w)
 have cF:∀W,Below w.heap.size w W→Calls Tryz.prog 19 #[.agg (Kt t vt),.agg (Ke e v)] W fun r w'=>∃v,r= .returned (.tuple #[.agg (tabA (fullN t e) v),.int .i64 (fullC t e)])∧TabIs w' v (fullN t e)∧Below W.heap.size W w':=fun W hb=>full_any t e vt v W (ht.keep hb) (h.keep hb)
 have cX:=fun c W=>fail1_any c W
 have cW:=fun n m W=>within_any n m W
 have cN:=fun n m W=>counts_any n m W
 have cC:∀vu W,TabIs W vu (fullN t e)→Below w.heap.size w W→Calls Tryz.prog 44 #[.agg (Kt (fullN t e) vu),.slice A nf cf,.int .i64 8] W fun r w'=>∃A m c,r= .returned (.slice A m c)∧(candN (fullN t e) f 8).length=m∧w'.ownsRow W.heap.size 97 2 (.slice A m c) m ((candN (fullN t e) f 8).flatMap sptE)∧Below W.heap.size W w':=fun vu W hu hb=>cand_any (fullN t e) vu A nf cf 8 f W hu (hf.keep hb) (by decide)
 have cS:∀W,Below w.heap.size w W→v.cn≤100000→Calls Tryz.prog 45 #[.agg (Ke e v)] W fun r w'=>∃A n c,r= .returned (.slice A n c)∧(sendsN e).length=n∧w'.ownsRow W.heap.size 97 2 (.slice A n c) n ((sendsN e).flatMap sptE)∧Below W.heap.size W w':=fun W hb hn=>sends_any e v W (h.keep hb) hn
 have cO:=fun m vm W (hb:Below w.heap.size w W) (hm:MsgIs W vm m) (hs:Small v) (hsm:vm.sn≤100000∧vm.on≤100000)=>open_any e v m vm slot W (h.keep hb) hm hs hsm
 have hsm:fullC t e=0→Small v:=fun J=>small_of h ((chkE_iff e).2 ((fullC_iff t e).1 J).ed)
 have hA:=askC_w e t f kind count slot
 have hPb:∀c w',askC e t f kind count slot=c→c≠0→Below w.heap.size w w'→TriOwn (askE e t f kind count slot) (askN e t f kind count slot) (askC e t f kind count slot) w (.returned (.tuple #[.agg (Kz 28),.agg (Kz 7),.int .i64 c])) w':=fun c w' e1 e2 hb=>triOwn_bad (askE_bad (by rw[e1];exact e2)).1 (askE_bad (by rw[e1];exact e2)).2 e1 hb
 have hPo:∀w' m ve vm,askC e t f kind count slot=0→askM e t f kind count= { m with number:=e.number}→EdOwn w' ve (openE e { m with number:=e.number} slot)→MsgSub w' vm m→Below w.heap.size w w'→TriOwn (askE e t f kind count slot) (askN e t f kind count slot) (askC e t f kind count slot) w (.returned (.tuple #[.agg (endA (openE e { m with number:=e.number} slot) ve),.agg (msgA { m with number:=e.number} vm),.int .i64 0])) w':=fun w' m ve vm e1 e2 hE hM hb=>by
  obtain⟨e3,e4⟩:=ask_ok e1
  rw[e1,e3,e4,e2]
  exact⟨ve,vm,rfl,hE,hM.num _,hb⟩
 have hMd:askM e t f kind count=⟨kind,false,e.number,0,count,if kind=1∨kind=3 then candN (fullN t e) f 8 else [],if kind=2 then(sendsN e).drop ((sendsN e).length-count.toNat)else if kind=3 then(sendsN e).take count.toNat else []⟩:=rfl
 generalize TriOwn (askE e t f kind count slot) (askN e t f kind count slot) (askC e t f kind count slot) w=P at*
 generalize askC e t f kind count slot=AC at*
 generalize askM e t f kind count=AM at*
 generalize fullC t e=F at*
 have hcd:(candN (fullN t e) f 8).length≤8:=by unfold candN;split;exact List.length_take_le _ _;simp
 have hsl:(sendsN e).length≤e.cells.length:=by unfold sendsN;rw[List.length_map];exact List.length_filter_le _ _
 rw[h.cells.len]at hsl
 generalize fullN t e=FU at*
 generalize hCNe:candN FU f 8=CN at*
 replace hCNe:=Zh hCNe
 generalize hSNe:sendsN e=SN at*
 replace hSNe:=Zh hSNe
 obtain⟨n0,p0,u0,cl,eo,s0,ea,ek,el,er⟩:=e
 dsimp only at*
 have uE:=Tryz.underlying32
 have uT:=Tryz.underlying37
 have uM:=Tryz.underlying30
 refine zh12 ?_ cF cX cW cN cC cS cO hsm hA hPb hPo hMd;clear cF cX cW cN cC cS cO hsm hA hPb hPo hMd;intro cF cX cW cN cC cS cO hsm hA hPb hPo hMd
 refine zh8 ?_ uE uT uM h ht hf hcd hsl;clear uE uT uM h ht hf hcd hsl;intro uE uT uM h ht hf hcd hsl
 go_enter Tryz.func11,Tryz.ntmps11
 go_upto_region 1 with(first|(refine bA I 32 ?_;clear I;intro ge w1 I hG;clear hG)|(refine bA I 37 ?_;clear I;intro gt w1 I hG;clear hG)|(refine wpList_allocA I rfl 32 rfl (by first|exact msgInfo|exact edInfo|exact tabInfo|exact info_tcl|exact info_spt) ?_;clear I;intro g12 w1 I hG;clear hG)|(refine wpList_allocA I rfl 30 rfl (by first|exact msgInfo|exact edInfo|exact tabInfo|exact info_tcl|exact info_spt) ?_;clear I;intro g13 w1 I hG;clear hG))
 have ke:=I.cell 3 rfl
 have kt:=I.cell 2 rfl
 go_upto_region 3 with(first
  |(refine lM 3 I uE.out ?_)
  |(refine lM 2 I uT.out ?_)
  |(go_at_call 19;refine(cF _ I.below).mono ?_;rintro r w3 ⟨vf,rfl,hTf,p_⟩;dsimp only[tabA];replace hTf:=Zh hTf;have HM2:=Zm I p_;clear I p_ ke kt cF;have I:=HM2;clear HM2;have ke:=I.cell 3 rfl;have kt:=I.cell 2 rfl)
  |(refine aN I tabInfo ?_;clear I ke;intro g16 w1 I hG hN9;have ke:=I.cell 4 rfl)
  |(refine sF 0 I ?_;clear I ke;intro w4 I hG4;simp only[List.set]at I;have ke:=I.cell 4 rfl)
  |fail)
 replace hTf:=Zh (hTf.keep (hG.grown hG4.out hG.size (fun k e=>by cases e;exact hN9.out)))
 clear hG hG4 hN9 kt
 by_cases J:F=0
 case neg=>
  have hA1:=Zh (hA.trans (if_pos J))
  have d1:(F !=0)=true:=by rw[bne_iff_ne];exact J
  have hP2:=Zh (fun w'=>hPb.out F w' hA1.out J)
  clear hPb
  have hPb:=hP2
  go_wp2_with(first
   |(go_at_call 42;refine(cX _ _).mono ?_;rintro r w3 ⟨rfl,p_⟩;have HM2:=Zm I p_;clear I p_ ke;have I:=HM2;clear HM2;have ke:=I.cell 4 rfl)
   |(go_at_call 40;refine(cW _ _ _).mono ?_;rintro r w_ ⟨rfl,rfl⟩)
   |(go_at_call 43;refine(cN _ _ _).mono ?_;rintro r w_ ⟨rfl,rfl⟩)
   |(refine sF 2 I ?_;clear I;intro w4 I hG4;simp only[List.set]at I)
   |(refine sF 1 I ?_;clear I;intro w4 I hG4;simp only[List.set]at I)
   |fail)
  all_goals
   try simp only[Exit.inBlock,Exit.then]
   refine rU I 2 1 uE.out uM.out ?_
   exact hPb.out _ I.below
 subst J
 replace hA:=Zh (hA.trans (if_neg (fun h=>h rfl)))
 have hsm2:=Zh (hsm rfl)
 clear hsm
 by_cases hr:(decide (kind<1)||(decide (6<kind)||(!withB slot 1099511627776|| !countsN kind count)))=true
 case pos=>
  have hA1:=Zh (hA.trans (if_pos hr))
  have hr4:kind<1∨(¬kind<1∧6<kind)∨(¬kind<1∧¬6<kind∧withB slot 1099511627776=false)∨(¬kind<1∧¬6<kind∧withB slot 1099511627776=true∧countsN kind count=false):=by
   by_cases c1:kind<1
   ·exact .inl c1
   by_cases c2:6<kind
   ·exact .inr (.inl ⟨c1,c2⟩)
   cases c3:withB slot 1099511627776
   ·exact .inr (.inr (.inl ⟨c1,c2,rfl⟩))
   ·refine .inr (.inr (.inr ⟨c1,c2,rfl,?_⟩))
    simpa[c1,c2,c3]using hr
  clear hr
  rcases hr4 with h1|⟨h1,h2⟩|⟨h1,h2,h3⟩|⟨h1,h2,h3,h4⟩
  all_goals
   go_wp2_with(first
    |(go_at_call 42;refine(cX _ _).mono ?_;rintro r w3 ⟨rfl,p_⟩;have HM2:=Zm I p_;clear I p_ ke;have I:=HM2;clear HM2;have ke:=I.cell 4 rfl)
    |(go_at_call 40;refine(cW _ _ _).mono ?_;rintro r w_ ⟨rfl,rfl⟩)
    |(go_at_call 43;refine(cN _ _ _).mono ?_;rintro r w_ ⟨rfl,rfl⟩)
    |(refine sF 2 I ?_;clear I;intro w4 I hG4;simp only[List.set]at I)
    |(refine sF 1 I ?_;clear I;intro w4 I hG4;simp only[List.set]at I)
    |fail)
   all_goals
    try simp only[Exit.inBlock,Exit.then]
    refine rU I 2 1 uE.out uM.out ?_
    exact hPb.out 2 _ (hA1.out) (by decide) I.below
 replace hA:=Zh (hA.trans (if_neg hr))
 have hr4:¬kind<1∧¬6<kind∧withB slot 1099511627776=true∧countsN kind count=true:=by
  simp only[Bool.or_eq_true,decide_eq_true_eq,Bool.not_eq_true',not_or,Bool.not_eq_false]at hr
  exact hr
 clear hr
 obtain⟨h1,h2,h3,h4⟩:=hr4
 go_upto_region 7 with(first
  |(go_at_call 40;refine(cW _ _ _).mono ?_;rintro r w_ ⟨rfl,rfl⟩)
  |(go_at_call 43;refine(cN _ _ _).mono ?_;rintro r w_ ⟨rfl,rfl⟩)
  |fail)
 cases eo
 case true=>
  have hA1:=Zh (hA.trans (if_pos rfl))
  go_wp2_with(first
   |(go_at_call 42;refine(cX _ _).mono ?_;rintro r w3 ⟨rfl,p_⟩;have HM2:=Zm I p_;clear I p_ ke;have I:=HM2;clear HM2;have ke:=I.cell 4 rfl)
   |(refine sF 2 I ?_;clear I;intro w4 I hG4;simp only[List.set]at I)
   |(refine sF 1 I ?_;clear I;intro w4 I hG4;simp only[List.set]at I)
   |fail)
  all_goals
   try simp only[Exit.inBlock,Exit.then]
   refine rU I 2 1 uE.out uM.out ?_
   exact hPb.out 12 _ (hA1.out) (by decide) I.below
 replace hA:=Zh (hA.trans (if_neg (by decide)))
 clear h3 cW cN
 go_upto_region 10 with(first
  |(refine aN I msgInfo ?_;clear I ke;intro g18 w1 I hG hN9;have ke:=I.cell 5 rfl)
  |(refine sF 0 I ?_;clear I ke;intro w4 I hG4;simp only[List.set]at I;have ke:=I.cell 5 rfl)
  |fail)
 replace hTf:=Zh (hTf.keep (hG.grown hG4.out hG.size (fun k e=>by cases e;exact hN9.out)))
 clear hG hG4 hN9
 have km:=I.cell 0 rfl
 rcases(show kind=1∨kind=2∨kind=3∨3<kind by omega)with rfl|rfl|rfl|h5
 case inl=>
  have hq:∃q:Nat,count=q:=⟨count.toNat,by unfold countsN at h4;rw[if_pos (by decide)]at h4;simp at h4;omega⟩
  obtain⟨q,rfl⟩:=hq
  go_upto_region 12 with(first
   |(refine lM 1 I uT.out ?_)
   |(go_at_call 44;refine(cC vf _ hTf.out I.below).mono ?_;rintro r w5 ⟨Ac,nc,cc,rfl,hcl,hOc,p_⟩;replace hcl:=Zh hcl;have HM2:=Zm I p_;clear I p_ ke km cC hTf;have I:=HM2;clear HM2;have ke:=I.cell 5 rfl;have km:=I.cell 0 rfl;have hBq:=Zh (I.at_ 0 rfl))
   |(refine sN 0 I ?_;clear I ke km;intro w4 I hG4;simp only[List.set]at I;have ke:=I.cell 5 rfl;have km:=I.cell 0 rfl)
   |fail)
  have hOd:=Zh (SubS.of_own (hOc.kept hG4.out (.inr (row_ne_blk hOc hBq.out (by decide)))))
  have hcc:=own_cap hOc
  clear hOc hBq hG4
  have hc8:nc≤8:=by have:=hcd.out;have:=hcl.out;omega
  by_cases hlc:(nc:Int)<(q:Int)
  case pos=>
   have hA1:=Zh (hA.trans (if_pos ⟨by decide,by rw[hcl.out];exact hlc⟩))
   go_wp2_with(first
    |(go_at_call 42;refine(cX _ _).mono ?_;rintro r w3 ⟨rfl,p_⟩;have HM2:=Zm I p_;clear I p_ ke km;have I:=HM2;clear HM2;have ke:=I.cell 5 rfl;have km:=I.cell 0 rfl)
    |(refine sF 3 I ?_;clear I;intro w4 I hG4;simp only[List.set]at I)
    |(refine sF 2 I ?_;clear I;intro w4 I hG4;simp only[List.set]at I)
    |fail)
   all_goals
    try simp only[Exit.inBlock,Exit.then]
    refine rU I 3 2 uE.out uM.out ?_
    exact hPb.out 14 _ (hA1.out) (by decide) I.below
  replace hA:=Zh (hA.trans (if_neg (fun h=>hlc (by rw[←hcl.out];exact h.2))))
  replace hA:=Zh (hA.trans (if_neg (by rintro⟨h|h,_⟩<;>exact absurd h (by decide))))
  have hMs:Hid (MsgSub _ ⟨Ac,nc,cc,none,0,0⟩ ⟨1,false,0,0,(q:Int),CN,[]⟩):=⟨hOd.out,SubS.nil _,hcc,Nat.le_refl _⟩
  have hAM:Hid (AM= { (⟨1,false,0,0,(q:Int),CN,[]⟩:Msg)with number:=u0}):=by show _= _;rw[hMd.out];simp
  have hA0:=hA.out
  clear hA hPb cX hsl hcd hMd
  replace hA0:=Zh hA0
  go_wp2_with(first
   |(refine lM 5 I uE.out ?_)
   |(refine lM 0 I uM.out ?_)
   |(go_at_call 46;refine(cO ⟨1,false,0,0,(q:Int),CN,[]⟩ ⟨Ac,nc,cc,none,0,0⟩ _ I.below hMs.is hsm2.out ⟨by dsimp only;omega,by dsimp only;omega⟩).mono ?_;rintro r w7 ⟨ve,rfl,hE,p_⟩;dsimp only[endA,msgA];replace hE:=Zh hE;replace hMs:=Zh (hMs.keep p_);have HM2:=Zm I p_;clear I p_ ke km cO;have I:=HM2;clear HM2;have ke:=I.cell 5 rfl;have km:=I.cell 0 rfl)
   |(have hBm:=Zh (I.at_ 3 rfl);(refine sF 3 I ?_;have hBq:=I.at_ 3 rfl;clear I;intro w4 I hG4;simp only[List.set]at I;replace hE:=Zh (hE.put hBq (by decide) (by decide) hG4.out);clear hBq);replace hMs:=Zh (hMs.put hBm.out (by decide) hG4.out);clear hBm)
   |(have hBm:=Zh (I.at_ 2 rfl);(refine sF 2 I ?_;have hBq:=I.at_ 2 rfl;clear I;intro w4 I hG4;simp only[List.set]at I;replace hE:=Zh (hE.put hBq (by decide) (by decide) hG4.out);clear hBq);replace hMs:=Zh (hMs.put hBm.out (by decide) hG4.out);clear hBm)
   |fail)
  try simp only[Exit.inBlock,Exit.then]
  refine rU I 3 2 uE.out uM.out ?_
  exact hPo.out _ _ _ _ hA0.out hAM.out hE.out hMs.out I.below
 case inr.inl=>
  have hq:∃q:Nat,count=q∧1≤q∧q≤8:=by
   unfold countsN at h4;rw[if_pos (by decide)]at h4
   have h6:1≤count∧count≤8:=by simpa using h4
   exact⟨count.toNat,by omega,by omega,by omega⟩
  obtain⟨q,rfl,hq1,hq8⟩:=hq
  replace hA:=Zh (hA.trans (if_neg (by rintro⟨h|h,_⟩<;>exact absurd h (by decide))))
  go_upto_region 16 with(first
   |(refine lM 5 I uE.out ?_)
   |(go_at_call 45;refine(cS _ I.below hsm2.c).mono ?_;rintro r w5 ⟨As,ns,cs,rfl,hsn,hOs,p_⟩;replace hsn:=Zh hsn;have HM2:=Zm I p_;clear I p_ ke km cS;have I:=HM2;clear HM2;have ke:=I.cell 5 rfl;have km:=I.cell 0 rfl)
   |fail)
  have hsc:=own_cap hOs
  by_cases hlt:(ns:Int)<(q:Int)
  case pos=>
   have hA1:=Zh (hA.trans (if_pos ⟨by decide,by rw[hsn.out];exact hlt⟩))
   go_wp2_with(first
    |(go_at_call 42;refine(cX _ _).mono ?_;rintro r w3 ⟨rfl,p_⟩;have HM2:=Zm I p_;clear I p_ ke km;have I:=HM2;clear HM2;have ke:=I.cell 5 rfl;have km:=I.cell 0 rfl)
    |(refine sF 3 I ?_;clear I;intro w4 I hG4;simp only[List.set]at I)
    |(refine sF 2 I ?_;clear I;intro w4 I hG4;simp only[List.set]at I)
    |fail)
   all_goals
    try simp only[Exit.inBlock,Exit.then]
    refine rU I 3 2 uE.out uM.out ?_
    exact hPb.out 14 _ (hA1.out) (by decide) I.below
  replace hA:=Zh (hA.trans (if_neg (fun h=>hlt (by rw[←hsn.out];exact h.2))))
  have hqs:q≤ns:=by omega
  have hqc:q≤cs:=by omega
  obtain⟨gs,rfl⟩:=own_addr hOs (by omega)
  have hSd:=Zh (SubS.of_own hOs)
  clear hOs
  have hns:ns≤100000:=by have:=hsl.out;have:=hsn.out;have:=hsm2.c;omega
  have hwq:IntKind.i64.wrap ((ns:Int)-(q:Int))=((ns-q:Nat):Int):=by rw[IntWalk.i64_in _ (by omega)];omega
  have hnq:ns-q≤ns:=Nat.sub_le _ _
  have hnq2:ns-(ns-q)=q:=by omega
  go_upto_region 21 with(first
   |(have hBm:=Zh (I.at_ 0 rfl);(refine sN 0 I ?_;clear I ke km;intro w4 I hG4;simp only[List.set]at I;have ke:=I.cell 5 rfl;have km:=I.cell 0 rfl);replace hSd:=Zh (hSd.put hBm.out (by decide) hG4.out);clear hBm)
   |fail)
  have hSt:=hSd.drop hnq
  rw[Nat.zero_add,hnq2]at hSt
  replace hSt:=Zh hSt
  have hcq:q≤cs-(ns-q):=by omega
  clear hSd hwq
  have hMs:Hid (MsgSub _ ⟨none,0,0,some ⟨gs,(ns-q)*2,none⟩,q,cs-(ns-q)⟩ ⟨2,false,0,0,(q:Int),[],SN.drop (ns-q)⟩):=⟨SubS.nil _,hSt.out,Nat.le_refl _,hcq⟩
  have hAM:Hid (AM= { (⟨2,false,0,0,(q:Int),[],SN.drop (ns-q)⟩:Msg)with number:=u0}):=by show _= _;rw[hMd.out];simp[hsn.out]
  have hA0:=hA.out
  clear hA hPb cX hsl hcd hMd
  replace hA0:=Zh hA0
  go_wp2_with(first
   |(refine lM 5 I uE.out ?_)
   |(refine lM 0 I uM.out ?_)
   |(go_at_call 46;refine(cO ⟨2,false,0,0,(q:Int),[],SN.drop (ns-q)⟩ ⟨none,0,0,some ⟨gs,(ns-q)*2,none⟩,q,cs-(ns-q)⟩ _ I.below hMs.is hsm2.out ⟨by dsimp only;omega,by dsimp only;omega⟩).mono ?_;rintro r w7 ⟨ve,rfl,hE,p_⟩;dsimp only[endA,msgA];replace hE:=Zh hE;replace hMs:=Zh (hMs.keep p_);have HM2:=Zm I p_;clear I p_ ke km cO;have I:=HM2;clear HM2;have ke:=I.cell 5 rfl;have km:=I.cell 0 rfl)
   |(have hBm:=Zh (I.at_ 3 rfl);(refine sF 3 I ?_;have hBq:=I.at_ 3 rfl;clear I;intro w4 I hG4;simp only[List.set]at I;replace hE:=Zh (hE.put hBq (by decide) (by decide) hG4.out);clear hBq);replace hMs:=Zh (hMs.put hBm.out (by decide) hG4.out);clear hBm)
   |(have hBm:=Zh (I.at_ 2 rfl);(refine sF 2 I ?_;have hBq:=I.at_ 2 rfl;clear I;intro w4 I hG4;simp only[List.set]at I;replace hE:=Zh (hE.put hBq (by decide) (by decide) hG4.out);clear hBq);replace hMs:=Zh (hMs.put hBm.out (by decide) hG4.out);clear hBm)
   |fail)
  try simp only[Exit.inBlock,Exit.then]
  refine rU I 3 2 uE.out uM.out ?_
  exact hPo.out _ _ _ _ hA0.out hAM.out hE.out hMs.out I.below
 case inr.inr.inl=>
  have hq:∃q:Nat,count=q∧1≤q∧q≤8:=by
   unfold countsN at h4;rw[if_pos (by decide)]at h4
   have h6:1≤count∧count≤8:=by simpa using h4
   exact⟨count.toNat,by omega,by omega,by omega⟩
  obtain⟨q,rfl,hq1,hq8⟩:=hq
  go_upto_region 12 with(first
   |(refine lM 1 I uT.out ?_)
   |(go_at_call 44;refine(cC vf _ hTf.out I.below).mono ?_;rintro r w5 ⟨Ac,nc,cc,rfl,hcl,hOc,p_⟩;replace hcl:=Zh hcl;have HM2:=Zm I p_;clear I p_ ke km cC hTf;have I:=HM2;clear HM2;have ke:=I.cell 5 rfl;have km:=I.cell 0 rfl;have hBq:=Zh (I.at_ 0 rfl))
   |(refine sN 0 I ?_;clear I ke km;intro w4 I hG4;simp only[List.set]at I;have ke:=I.cell 5 rfl;have km:=I.cell 0 rfl)
   |fail)
  have hOd:=Zh (SubS.of_own (hOc.kept hG4.out (.inr (row_ne_blk hOc hBq.out (by decide)))))
  have hcc:=own_cap hOc
  clear hOc hBq hG4
  have hc8:nc≤8:=by have:=hcd.out;have:=hcl.out;omega
  by_cases hlc:(nc:Int)<(q:Int)
  case pos=>
   have hA1:=Zh (hA.trans (if_pos ⟨by decide,by rw[hcl.out];exact hlc⟩))
   go_wp2_with(first
    |(go_at_call 42;refine(cX _ _).mono ?_;rintro r w3 ⟨rfl,p_⟩;have HM2:=Zm I p_;clear I p_ ke km;have I:=HM2;clear HM2;have ke:=I.cell 5 rfl;have km:=I.cell 0 rfl)
    |(refine sF 3 I ?_;clear I;intro w4 I hG4;simp only[List.set]at I)
    |(refine sF 2 I ?_;clear I;intro w4 I hG4;simp only[List.set]at I)
    |fail)
   all_goals
    try simp only[Exit.inBlock,Exit.then]
    refine rU I 3 2 uE.out uM.out ?_
    exact hPb.out 14 _ (hA1.out) (by decide) I.below
  replace hA:=Zh (hA.trans (if_neg (fun h=>hlc (by rw[←hcl.out];exact h.2))))
  go_upto_region 16 with(first
   |(refine lM 5 I uE.out ?_)
   |(go_at_call 45;refine(cS _ I.below hsm2.c).mono ?_;rintro r w5 ⟨As,ns,cs,rfl,hsn,hOs,p_⟩;replace hsn:=Zh hsn;replace hOd:=Zh (hOd.keep p_);have HM2:=Zm I p_;clear I p_ ke km cS;have I:=HM2;clear HM2;have ke:=I.cell 5 rfl;have km:=I.cell 0 rfl)
   |fail)
  have hsc:=own_cap hOs
  by_cases hlt:(ns:Int)<(q:Int)
  case pos=>
   have hA1:=Zh (hA.trans (if_pos ⟨by decide,by rw[hsn.out];exact hlt⟩))
   go_wp2_with(first
    |(go_at_call 42;refine(cX _ _).mono ?_;rintro r w3 ⟨rfl,p_⟩;have HM2:=Zm I p_;clear I p_ ke km;have I:=HM2;clear HM2;have ke:=I.cell 5 rfl;have km:=I.cell 0 rfl)
    |(refine sF 3 I ?_;clear I;intro w4 I hG4;simp only[List.set]at I)
    |(refine sF 2 I ?_;clear I;intro w4 I hG4;simp only[List.set]at I)
    |fail)
   all_goals
    try simp only[Exit.inBlock,Exit.then]
    refine rU I 3 2 uE.out uM.out ?_
    exact hPb.out 14 _ (hA1.out) (by decide) I.below
  replace hA:=Zh (hA.trans (if_neg (fun h=>hlt (by rw[←hsn.out];exact h.2))))
  have hqs:q≤ns:=by omega
  have hqc:q≤cs:=by omega
  obtain⟨gs,rfl⟩:=own_addr hOs (by omega)
  have hSd:=Zh (SubS.of_own hOs)
  clear hOs
  go_upto_region 21 with(first
   |(have hBm:=Zh (I.at_ 0 rfl);(refine sN 0 I ?_;clear I ke km;intro w4 I hG4;simp only[List.set]at I;have ke:=I.cell 5 rfl;have km:=I.cell 0 rfl);replace hSd:=Zh (hSd.put hBm.out (by decide) hG4.out);replace hOd:=Zh (hOd.put hBm.out (by decide) hG4.out);clear hBm)
   |fail)
  have hSt:=Zh (hSd.take hqs)
  clear hSd
  have hMs:Hid (MsgSub _ ⟨Ac,nc,cc,some ⟨gs,0,none⟩,q,cs⟩ ⟨3,false,0,0,(q:Int),CN,SN.take q⟩):=⟨hOd.out,hSt.out,hcc,hqc⟩
  have hAM:Hid (AM= { (⟨3,false,0,0,(q:Int),CN,SN.take q⟩:Msg)with number:=u0}):=by show _= _;rw[hMd.out];simp
  have hA0:=hA.out
  clear hA hPb cX hsl hcd hMd
  replace hA0:=Zh hA0
  go_wp2_with(first
   |(refine lM 5 I uE.out ?_)
   |(refine lM 0 I uM.out ?_)
   |(go_at_call 46;refine(cO ⟨3,false,0,0,(q:Int),CN,SN.take q⟩ ⟨Ac,nc,cc,some ⟨gs,0,none⟩,q,cs⟩ _ I.below hMs.is hsm2.out ⟨by dsimp only;omega,by dsimp only;omega⟩).mono ?_;rintro r w7 ⟨ve,rfl,hE,p_⟩;dsimp only[endA,msgA];replace hE:=Zh hE;replace hMs:=Zh (hMs.keep p_);have HM2:=Zm I p_;clear I p_ ke km cO;have I:=HM2;clear HM2;have ke:=I.cell 5 rfl;have km:=I.cell 0 rfl)
   |(have hBm:=Zh (I.at_ 3 rfl);(refine sF 3 I ?_;have hBq:=I.at_ 3 rfl;clear I;intro w4 I hG4;simp only[List.set]at I;replace hE:=Zh (hE.put hBq (by decide) (by decide) hG4.out);clear hBq);replace hMs:=Zh (hMs.put hBm.out (by decide) hG4.out);clear hBm)
   |(have hBm:=Zh (I.at_ 2 rfl);(refine sF 2 I ?_;have hBq:=I.at_ 2 rfl;clear I;intro w4 I hG4;simp only[List.set]at I;replace hE:=Zh (hE.put hBq (by decide) (by decide) hG4.out);clear hBq);replace hMs:=Zh (hMs.put hBm.out (by decide) hG4.out);clear hBm)
   |fail)
  try simp only[Exit.inBlock,Exit.then]
  refine rU I 3 2 uE.out uM.out ?_
  exact hPo.out _ _ _ _ hA0.out hAM.out hE.out hMs.out I.below
 case inr.inr.inr=>
  have hc0:count=0:=by
   unfold countsN at h4;rw[if_neg (by omega)]at h4
   simpa using h4
  subst hc0
  have d1:(kind==1)=false:=by rw[beq_eq_false_iff_ne];omega
  have d2:(kind==2)=false:=by rw[beq_eq_false_iff_ne];omega
  have d3:(kind==3)=false:=by rw[beq_eq_false_iff_ne];omega
  replace hA:=Zh (hA.trans (if_neg (by omega)))
  replace hA:=Zh (hA.trans (if_neg (by omega)))
  have hMs:Hid (MsgSub w4 ⟨none,0,0,none,0,0⟩ ⟨kind,false,0,0,0,[],[]⟩):=⟨SubS.nil w4,SubS.nil w4,Nat.le_refl _,Nat.le_refl _⟩
  have hAM:Hid (AM= { (⟨kind,false,0,0,0,[],[]⟩:Msg)with number:=u0}):=by show _= _;rw[hMd.out];rw[if_neg (by omega),if_neg (by omega),if_neg (by omega)]
  have hA0:=hA.out
  clear hA hPb cX hsl hcd hMd
  replace hA0:=Zh hA0
  go_wp2_with(first
   |(refine lM 5 I uE.out ?_)
   |(refine lM 0 I uM.out ?_)
   |(go_at_call 46;refine(cO ⟨kind,false,0,0,0,[],[]⟩ ⟨none,0,0,none,0,0⟩ _ I.below hMs.is hsm2.out ⟨by decide,by decide⟩).mono ?_;rintro r w7 ⟨ve,rfl,hE,p_⟩;dsimp only[endA,msgA];replace hE:=Zh hE;replace hMs:=Zh (hMs.keep p_);have HM2:=Zm I p_;clear I p_ ke km cO;have I:=HM2;clear HM2;have ke:=I.cell 5 rfl;have km:=I.cell 0 rfl)
   |(have hBm:=Zh (I.at_ 3 rfl);(refine sF 3 I ?_;have hBq:=I.at_ 3 rfl;clear I;intro w4 I hG4;simp only[List.set]at I;replace hE:=Zh (hE.put hBq (by decide) (by decide) hG4.out);clear hBq);replace hMs:=Zh (hMs.put hBm.out (by decide) hG4.out);clear hBm)
   |(have hBm:=Zh (I.at_ 2 rfl);(refine sF 2 I ?_;have hBq:=I.at_ 2 rfl;clear I;intro w4 I hG4;simp only[List.set]at I;replace hE:=Zh (hE.put hBq (by decide) (by decide) hG4.out);clear hBq);replace hMs:=Zh (hMs.put hBm.out (by decide) hG4.out);clear hBm)
   |fail)
  try simp only[Exit.inBlock,Exit.then]
  refine rU I 3 2 uE.out uM.out ?_
  exact hPo.out _ _ _ _ hA0.out hAM.out hE.out hMs.out I.below
end Tx
end Go.Proofs.YtfamifgchgolpaaGreat
