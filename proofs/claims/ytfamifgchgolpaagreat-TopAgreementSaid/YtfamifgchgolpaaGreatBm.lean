/- Chapter 26: has, asked, known, Start: the program's. -/
import Derived.Test.YtfamifgchgolpaaGreatBk
import Derived.Test.YtfamifgchgolpaaGreatBl
set_option linter.unusedVariables false
set_option linter.unusedSimpArgs false
set_option maxRecDepth 100000
set_option maxHeartbeats 4000000
namespace Go.Proofs.YtfamifgchgolpaaGreat
open Go Go.RowKit Go.Sort Go.Shelf Go.Maps
namespace Tx
open Sw Mm
theorem wpList_loadBox {P:Program} {ops:Array Oper} {rest:List Oper} {op:Oper} {a:Act} {w:World} {Q:Exit→Act→World→Prop} {B:Nat} {C:Array Value}(hB:Hid (Box w B C))(hgd:op.guard=none)(ty:TypeId)(x:Operand)(ho:op.op= .load ty x)
 (hx:a.eval x= .pointer (some ⟨B,0,none⟩)) (d:TypeDesc) (hu:P.underlying ty=some d) (hd:d.isRow=true) (hi:(P.info? ty).map (·.size)=some C.size)
 (h:wpList P ops Q rest (a.put op.dst (.agg C)) w):wpList P ops Q (op::rest) a w:=
 wpList_load_mid hgd ty x ho B 0 hx C.toList d (fun j v hv=>by rw[Nat.zero_add,hB.out.at_];simpa using hv) hu hd (by simpa using hi) (by simpa using h)
theorem eHs:∀args w,(callFunc 223 args).run Tryz.prog w= .ok (.enter 223 args) w:=enters_of Tryz.func223 (by kernel_rfl) rfl
def hsB(s:Spt)(send:Bool)(c:TCl):Bool:=decide (c.slot=s.slot)&&(decide (c.off=s.off)&&decide (c.send=send))
theorem hs1_any(x:TCl)(s:Spt)(send:Bool)(B1 B2:Nat)(w:World)(h1:Box w B1 #[.int .i64 s.slot,.int .i64 s.off])(h2:Box w B2 #[.bool send]):
 Calls Tryz.prog 223 (#[.agg #[.int .i64 x.slot,.int .i64 x.off,.int .i64 x.kind,.bool x.send,.int .i64 x.peer,.int .i64 x.flow]]++ #[.pointer (some ⟨B1,0,none⟩),.pointer (some ⟨B2,0,none⟩)]) w fun e w'=>e= .returned (.bool (hsB s send x))∧Below w.heap.size w w':=by
 show Calls Tryz.prog 223 #[.agg #[.int .i64 x.slot,.int .i64 x.off,.int .i64 x.kind,.bool x.send,.int .i64 x.peer,.int .i64 x.flow],.pointer (some ⟨B1,0,none⟩),.pointer (some ⟨B2,0,none⟩)] w _
 have I:=Zh (Mem.start w)
 unfold hsB
 obtain⟨x0,x1,x2,x3,x4,x5⟩:=x
 obtain⟨s0,s1⟩:=s
 dsimp only at*
 replace h1:=Zh h1
 replace h2:=Zh h2
 go_enter Tryz.func223,Tryz.ntmps223
 go_upto_region 1 with(refine bA I _ ?_;clear I;intro g w1 I hG;clear hG)
 have kb:=I.cell 0 rfl
 have k1:=(h1.keep I.below).at_
 have k2:=(h2.keep I.below).at_
 cases x3<;>cases send
 all_goals
  go_wp2
  all_goals
   go_ret
   exact⟨by first|(simp[*];done)|(simp[*];omega)|(simp[*,intB];done)|(simp[*,intB];omega)|(simp[*,bne,intB];done),I.below⟩
theorem hasN_any(e:Ed)(s:Spt)(send:Bool):hasN e s send=e.cells.any (hsB s send):=rfl
theorem has_any(e:Ed)(v:EdV)(s:Spt)(send:Bool)(w:World)(h:EdIs w v e):Calls Tryz.prog 189 #[.agg (Ke e v),.agg #[.int .i64 s.slot,.int .i64 s.off],.bool send] w fun r w'=>r= .returned (.bool (hasN e s send))∧Below w.heap.size w w':=by
 have I:=Zh (Mem.start w)
 have cF:=fun W B1 B2 (hb:Below w.heap.size w W) (h1:Box W B1 #[.int .i64 s.slot,.int .i64 s.off]) (h2:Box W B2 #[.bool send])=>ctnFnT_any 223 #[.pointer (some ⟨B1,0,none⟩),.pointer (some ⟨B2,0,none⟩)] (hsB s send) v.cA v.cn v.cc e.cells W eHs (h.cells.keep hb) (fun x _ W2 hb2=>hs1_any x s send B1 B2 W2 (h1.keep hb2) (h2.keep hb2))
 rw[hasN_any]
 generalize e.cells.any (hsB s send)=R at*
 replace h:=Zh h
 replace cF:=Zh cF
 go_enter Tryz.func189,Tryz.ntmps189
 go_upto_region 1 with(first|(refine bA I 32 ?_;clear I;intro ge w1 I hG;clear hG)|(refine bA I 97 ?_;clear I;intro gs w1 I hG;clear hG)|(refine wpList_boxM I rfl _ _ rfl (.bool send) rfl ?_;clear I;intro gb w1 I hG;clear hG))
 have ke:=I.cell 2 rfl
 go_wp2_with fail
 refine(cF _ _ _ I.below (I.at_ 1 rfl).box (I.at_ 0 rfl).box).mono ?_
 rintro r w3 ⟨rfl,p_⟩
 have HM2:=Zm I p_;clear I p_ ke cF;have I:=HM2;clear HM2;have ke:=I.cell 2 rfl
 go_wp2
 go_ret
 exact⟨rfl,I.below⟩
theorem eA1:∀args w,(callFunc 191 args).run Tryz.prog w= .ok (.enter 191 args) w:=enters_of Tryz.func191 (by kernel_rfl) rfl
theorem eA11:∀args w,(callFunc 192 args).run Tryz.prog w= .ok (.enter 192 args) w:=enters_of Tryz.func192 (by kernel_rfl) rfl
theorem eA2:∀args w,(callFunc 193 args).run Tryz.prog w= .ok (.enter 193 args) w:=enters_of Tryz.func193 (by kernel_rfl) rfl
theorem a11_any(x:TCl)(s:Spt)(B1:Nat)(w:World)(h1:Box w B1 #[.int .i64 s.slot,.int .i64 s.off]):
 Calls Tryz.prog 192 (#[.agg #[.int .i64 x.slot,.int .i64 x.off,.int .i64 x.kind,.bool x.send,.int .i64 x.peer,.int .i64 x.flow]]++ #[.pointer (some ⟨B1,0,none⟩)]) w fun e w'=>e= .returned (.bool (decide (x.slot=s.slot)))∧Below w.heap.size w w':=by
 show Calls Tryz.prog 192 #[.agg #[.int .i64 x.slot,.int .i64 x.off,.int .i64 x.kind,.bool x.send,.int .i64 x.peer,.int .i64 x.flow],.pointer (some ⟨B1,0,none⟩)] w _
 have I:=Zh (Mem.start w)
 obtain⟨x0,x1,x2,x3,x4,x5⟩:=x
 obtain⟨s0,s1⟩:=s
 dsimp only at*
 replace h1:=Zh h1
 go_enter Tryz.func192,Tryz.ntmps192
 go_upto_region 1 with(refine bA I _ ?_;clear I;intro g w1 I hG;clear hG)
 have kb:=I.cell 0 rfl
 have k1:=(h1.keep I.below).at_
 go_wp2
 all_goals
  go_ret
  exact⟨by first|(simp[*];done)|(simp[*];omega)|(simp[*,intB];done)|(simp[*,intB];omega)|(simp[*,bne,intB];done),I.below⟩
def tkE(e:Ed)(s:Spt):Bool:=e.cells.any fun c=>decide (c.slot=s.slot)
theorem a1_any(e:Ed)(v:EdV)(s:Spt)(B:Nat)(w:World)(h:EdIs w v e)(hB:Box w B (Ke e v)):
 Calls Tryz.prog 191 (#[.agg #[.int .i64 s.slot,.int .i64 s.off]]++ #[.pointer (some ⟨B,0,none⟩)]) w fun r w'=>r= .returned (.bool (tkE e s))∧Below w.heap.size w w':=by
 show Calls Tryz.prog 191 #[.agg #[.int .i64 s.slot,.int .i64 s.off],.pointer (some ⟨B,0,none⟩)] w _
 have I:=Zh (Mem.start w)
 have cF:=fun W B1 (hb:Below w.heap.size w W) (h1:Box W B1 #[.int .i64 s.slot,.int .i64 s.off])=>ctnFnT_any 192 #[.pointer (some ⟨B1,0,none⟩)] (fun c=>decide (c.slot=s.slot)) v.cA v.cn v.cc e.cells W eA11 (h.cells.keep hb) (fun x _ W2 hb2=>a11_any x s B1 W2 (h1.keep hb2))
 have hR:tkE e s=e.cells.any fun c=>decide (c.slot=s.slot):=rfl
 generalize(e.cells.any fun c=>decide (c.slot=s.slot))=R at*
 refine zh4 ?_ h hB cF hR;clear h hB cF hR;intro h hB cF hR
 go_enter Tryz.func191,Tryz.ntmps191
 go_upto_region 1 with(refine bA I _ ?_;clear I;intro g w1 I hG;clear hG)
 have ke:=(hB.keep I.below).at_
 go_wp2_with fail
 refine(cF _ _ I.below (I.at_ 0 rfl).box).mono ?_
 rintro r w3 ⟨rfl,p_⟩
 clear ke
 have HM2:=Zm I p_;clear I p_ cF;have I:=HM2;clear HM2
 go_wp2
 go_ret
 exact⟨by rw[hR.out];rfl,I.below⟩
theorem a2_any(e:Ed)(v:EdV)(s:Spt)(B:Nat)(w:World)(h:EdIs w v e)(hB:Box w B (Ke e v)):
 Calls Tryz.prog 193 (#[.agg #[.int .i64 s.slot,.int .i64 s.off]]++ #[.pointer (some ⟨B,0,none⟩)]) w fun r w'=>r= .returned (.bool (!hasN e s true))∧Below w.heap.size w w':=by
 show Calls Tryz.prog 193 #[.agg #[.int .i64 s.slot,.int .i64 s.off],.pointer (some ⟨B,0,none⟩)] w _
 have I:=Zh (Mem.start w)
 have cH:=fun W (hb:Below w.heap.size w W)=>has_any e v s true W (h.keep hb)
 generalize hasN e s true=R at*
 have uE:=Zh Tryz.underlying32
 refine zh3 ?_ h hB cH;clear h hB cH;intro h hB cH
 go_enter Tryz.func193,Tryz.ntmps193
 go_upto_region 1 with(refine bA I _ ?_;clear I;intro g w1 I hG;clear hG)
 have hB1:=Zh (hB.keep I.below)
 have ks:=I.cell 0 rfl
 go_wp2_with(first|(refine wpList_loadBox hB1 rfl _ _ rfl rfl _ uE.out rfl (by exact zend) ?_)|fail)
 refine(cH _ I.below).mono ?_
 rintro r w3 ⟨rfl,p_⟩
 clear hB1
 have HM2:=Zm I p_;clear I p_ ks cH;have I:=HM2;clear HM2;have ks:=I.cell 0 rfl
 go_wp2
 go_ret
 exact⟨rfl,I.below⟩
theorem askedOk_eq(e:Ed):askedOk e=if e.opn=false then zeroM e.asked&&decide (e.since=0)else decide (chkM e.asked=0)&&(!e.asked.reply&&(decide (e.asked.number=e.number)&&(!(e.asked.old.any fun s=> !hasN e s true)&& !(e.asked.spots.any (tkE e))))):=by
 unfold askedOk tkE
 rw[List.all_eq_not_any_not,List.all_eq_not_any_not]
 simp
theorem asked_any(e:Ed)(v:EdV)(w:World)(h:EdIs w v e):Calls Tryz.prog 129 #[.agg (Ke e v)] w fun r w'=>r= .returned (.bool (askedOk e))∧Below w.heap.size w w':=by
 have I:=Zh (Mem.start w)
 have cZ:=fun W (hb:Below w.heap.size w W)=>zero_any e.asked v.a W (h.asked.keep hb)
 have cK:=fun W (hb:Below w.heap.size w W)=>chkM_any e.asked v.a W (h.asked.keep hb)
 have c2:=fun W B (hb:Below w.heap.size w W) (h1:Box W B (Ke e v))=>ctnFnS_any 193 #[.pointer (some ⟨B,0,none⟩)] (fun s=> !hasN e s true) v.a.oA v.a.on v.a.oc e.asked.old W eA2 (h.asked.old.keep hb) (fun x _ W2 hb2=>a2_any e v x B W2 (h.keep (bthen hb hb2)) (h1.keep hb2))
 have c1:=fun W B (hb:Below w.heap.size w W) (h1:Box W B (Ke e v))=>ctnFnS_any 191 #[.pointer (some ⟨B,0,none⟩)] (tkE e) v.a.sA v.a.sn v.a.sc e.asked.spots W eA1 (h.asked.spots.keep hb) (fun x _ W2 hb2=>a1_any e v x B W2 (h.keep (bthen hb hb2)) (h1.keep hb2))
 have hR:=askedOk_eq e
 generalize hP:(fun(r:Ending) w'=>r=Ending.returned (.bool (askedOk e))∧Below w.heap.size w w')=P
 have hPo:∀B w',askedOk e=B→Below w.heap.size w w'→P (.returned (.bool B)) w':=fun B w' e1 hb=>by rw[←hP];exact⟨by rw[e1],hb⟩
 clear hP
 generalize askedOk e=AO at*
 generalize(e.asked.old.any fun s=> !hasN e s true)=R2 at*
 generalize e.asked.spots.any (tkE e)=R1 at*
 generalize zeroM e.asked=ZM at*
 generalize chkM e.asked=CM at*
 refine zh7 ?_ h cZ cK c1 c2 hR hPo;clear h cZ cK c1 c2 hR hPo;intro h cZ cK c1 c2 hR hPo
 go_enter Tryz.func129,Tryz.ntmps129
 go_upto_region 1 with(refine bA I 32 ?_;clear I;intro ge w1 I hG;clear hG)
 have ke:=I.cell 0 rfl
 cases ho:e.opn
 all_goals
  simp only[ho]at hR I ke c1 c2
  go_wp2_with(first
   |(go_at_call 190;refine(cZ _ I.below).mono ?_;rintro r w3 ⟨rfl,p_⟩;have HM2:=Zm I p_;clear I p_ ke cZ;have I:=HM2;clear HM2;have ke:=I.cell 0 rfl)
   |(go_at_call 47;refine(cK _ I.below).mono ?_;rintro r w3 ⟨rfl,p_⟩;have HM2:=Zm I p_;clear I p_ ke cK;have I:=HM2;clear HM2;have ke:=I.cell 0 rfl)
   |(go_at_call 136;refine(c2 _ _ I.below (I.at_ 0 rfl).box).mono ?_;rintro r w3 ⟨rfl,p_⟩;have HM2:=Zm I p_;clear I p_ ke c2;have I:=HM2;clear HM2;have ke:=I.cell 0 rfl)
   |(go_at_call 136;refine(c1 _ _ I.below (I.at_ 0 rfl).box).mono ?_;rintro r w3 ⟨rfl,p_⟩;have HM2:=Zm I p_;clear I p_ ke c1;have I:=HM2;clear HM2;have ke:=I.cell 0 rfl)
   |fail)
  all_goals
   refine hPo _ _ ?_ I.below
   rw[hR.out]
   first
   |first|(simp[*];done)|(simp[*];omega)|(simp[*,intB];done)|(simp[*,intB];omega)|(simp[*,bne,intB];done)
   |(simp only[bne_iff_ne,ne_eq,bne_eq_false_iff_eq]at*;simp[*];done)
def numK(e:Ed):Int:=if e.last.kind=6 then 0 else nextN e.last.number
theorem knownOk_eq(e:Ed):knownOk e=if e.known=false then zeroM e.last&&zeroM e.reply else ansN e.last e.reply&&(decide (e.reply.code=0)&&decide (e.number=numK e)):=rfl
theorem known_any(e:Ed)(v:EdV)(w:World)(h:EdIs w v e):Calls Tryz.prog 130 #[.agg (Ke e v)] w fun r w'=>r= .returned (.bool (knownOk e))∧Below w.heap.size w w':=by
 have I:=Zh (Mem.start w)
 have cZ:=fun W (hb:Below w.heap.size w W)=>zero_any e.last v.l W (h.last.keep hb)
 have cY:=fun W (hb:Below w.heap.size w W)=>zero_any e.reply v.r W (h.reply.keep hb)
 have cN:=fun W=>next_any e.last.number W
 have cA:=fun W (hb:Below w.heap.size w W)=>ans_any e.last e.reply v.l v.r W (h.last.keep hb) (h.reply.keep hb)
 have hR:=knownOk_eq e
 have hK:numK e=if e.last.kind=6 then 0 else nextN e.last.number:=rfl
 generalize hP:(fun(r:Ending) w'=>r=Ending.returned (.bool (knownOk e))∧Below w.heap.size w w')=P
 have hPo:∀B w',knownOk e=B→Below w.heap.size w w'→P (.returned (.bool B)) w':=fun B w' e1 hb=>by rw[←hP];exact⟨by rw[e1],hb⟩
 clear hP
 generalize knownOk e=KO at*
 generalize zeroM e.last=Z1 at*
 generalize zeroM e.reply=Z2 at*
 generalize ansN e.last e.reply=AN at*
 generalize nextN e.last.number=NX at*
 generalize numK e=NK at*
 refine zh8 ?_ h cZ cY cN cA hR hPo hK;clear h cZ cY cN cA hR hPo hK;intro h cZ cY cN cA hR hPo hK
 go_enter Tryz.func130,Tryz.ntmps130
 go_upto_region 1 with(refine bA I 32 ?_;clear I;intro ge w1 I hG;clear hG)
 have ke:=I.cell 0 rfl
 cases ho:e.known
 all_goals
  simp only[ho]at hR I ke
  go_wp2_with(first
   |(go_at_call 190;refine(cZ _ I.below).mono ?_;rintro r w3 ⟨rfl,p_⟩;have HM2:=Zm I p_;clear I p_ ke cZ;have I:=HM2;clear HM2;have ke:=I.cell 0 rfl)
   |(go_at_call 190;refine(cY _ I.below).mono ?_;rintro r w3 ⟨rfl,p_⟩;have HM2:=Zm I p_;clear I p_ ke cY;have I:=HM2;clear HM2;have ke:=I.cell 0 rfl)
   |(go_at_call 68;refine(cN _).mono ?_;rintro r w_ ⟨rfl,rfl⟩)
   |(go_at_call 18;refine(cA _ I.below).mono ?_;rintro r w3 ⟨rfl,p_⟩;have HM2:=Zm I p_;clear I p_ ke cA;have I:=HM2;clear HM2;have ke:=I.cell 0 rfl)
   |fail)
  all_goals
   refine hPo _ _ ?_ I.below
   rw[hR.out]
   first
   |first|(simp[*];done)|(simp[*];omega)|(simp[*,intB];done)|(simp[*,intB];omega)|(simp[*,bne,intB];done)
   |(have e1:NK=0:=by rw[hK.out,if_pos (by simpa[intB]using ‹(e.last.kind==6)=true›)]
     rw[e1];simp[*,intB];done)
   |(have e1:NK=NX:=by rw[hK.out,if_neg (by simpa[intB]using ‹(e.last.kind==6)=false›)]
     rw[e1];simp[*,intB];done)
   |(trace_state;fail)
theorem cellOk_w(e:Ed)(k:Nat):cellOk e k=(!((e.cells.getD k default).kind !=2)&&(!((e.cells.getD k default).peer !=e.peer)&&(!((e.cells.getD k default).flow != -1)&&(withB (e.cells.getD k default).slot 511&&(withB (e.cells.getD k default).off 15&&(!decide (0<k)|| !decide ((e.cells.getD k default).slot≤(e.cells.getD (k-1) default).slot))))))):=by
 unfold cellOk withB
 generalize e.cells.getD (k-1) default=y
 generalize e.cells.getD k default=x
 rw[Bool.eq_iff_iff]
 simp
 omega
theorem six(b1 b2 b3 b4 b5 b6 b7:Bool):b1=true∨b1=false∧(b2=true∨b2=false∧(b3=true∨b3=false∧(b4=false∨b4=true∧(b5=false∨b5=true∧(b6=false∨b6=true∧(b7=true∨b7=false)))))):=by
 cases b1<;>cases b2<;>cases b3<;>cases b4<;>cases b5<;>cases b6<;>cases b7<;>simp
theorem cells_any(e:Ed)(v:EdV)(w:World)(h:EdIs w v e):Calls Tryz.prog 128 #[.agg (Ke e v)] w fun r w'=>r= .returned (.bool (cellsOk e))∧Below w.heap.size w w':=by
 have I:=Zh (Mem.start w)
 have hc:=h.cells
 have hlen:=hc.len
 have hs:=hc.small
 unfold maxLen at hs
 have hit:∀k,k<v.cn→cellOk e k=false→cellsOk e=false:=fun k hk h1=>by
  have:((List.range e.cells.length).all (cellOk e))=false:=by
   rw[List.all_eq_false];exact⟨k,by simp;omega,by simp[h1]⟩
  simp[cellsOk,this]
 have non:(∀k,k<v.cn→cellOk e k=true)→cellsOk e=(decide (e.number≠0)||decide (v.cn=0)):=fun hp=>by
  have:((List.range e.cells.length).all (cellOk e))=true:=by
   rw[List.all_eq_true];intro x hx;exact hp x (by simp at hx;omega)
  rw[cellsOk,this,hlen];rfl
 have J:=cellOk_w e
 have cW:=fun n m W=>within_any n m W
 generalize cellsOk e=R at*
 generalize cellOk e=F at*
 refine zh6 ?_ h hc J hit non cW;clear h hc J hit non cW;intro h hc J hit non cW
 go_enter Tryz.func128,Tryz.ntmps128
 go_upto_region 1 with(refine bA I 32 ?_;clear I;intro ge w1 I hG;clear hG)
 have kt:=I.cell 0 rfl
 go_wp2_with fail
 go_loopw[3,4,8] (fun _ _ i wr=>∃k:Nat,k≤v.cn∧i= .int .i64 k∧Hid (∀j,j<k→F j=true)∧Hid (Mem w wr [(ge,(Ke e v),32)])) (fun _ _ i _=>v.cn-(intOf i).toNat)
 case atStart=>exact⟨0,by omega,rfl,fun j hj=>by omega,I⟩
 case round=>
  clear I
  obtain⟨k,hk,rfl,HP,I⟩:=hrel
  clear kt
  have kt:=I.cell 0 rfl
  by_cases hlt:k<v.cn
  ·obtain⟨b,off,hcA⟩:=hc.addr (by omega)
   have hx:=tcl_at (hcA▸hc.keep I.below) hlt
   have hy:=fun W (hb:Below w.heap.size w W) (h0:0<k)=>tcl_at (hcA▸hc.keep hb) (i:=k-1) (show k-1<v.cn by omega)
   have hF2:=J.out k
   have hit2:=hit.out k hlt
   have hnx:F k=true→∀j,j<k+1→F j=true:=fun h1 j hj=>by
    by_cases e1:j=k
    ·rw[e1];exact h1
    ·exact HP.out j (by omega)
   simp only[hcA]at kt I ⊢
   generalize e.cells.getD (k-1) default=y at*
   generalize e.cells.getD k default=x at*
   generalize F k=f at*
   obtain⟨x0,x1,x2,x3,x4,x5⟩:=x
   obtain⟨y0,y1,y2,y3,y4,y5⟩:=y
   obtain⟨q0,q1,q2,q3,q4,q5⟩:=hx
   dsimp only at q0 q1 q2 q3 q4 q5 hy hF2
   have r1:(k:Int)<(v.cn:Int):=by omega
   have hW:=six (x2 !=2) (x4 !=e.peer) (x5 != -1) (withB x0 511) (withB x1 15) (decide (0<k)) (decide (x0≤y0))
   refine zh5 ?_ hy hF2 hit2 hnx hW;clear hy hF2 hit2 hnx hW;intro hy hF2 hit2 hnx hW
   go_upto_region 4 with(first|(refine wpList_allocA I rfl 85 rfl (by first|exact msgInfo|exact edInfo|exact tabInfo|exact info_tcl|exact info_spt) ?_;clear I;intro gc w1 I hG;clear hG)|(refine sN 0 I ?_;clear I kt;intro w4 I hG4;simp only[List.set]at I;have kt:=I.cell 1 rfl))
   simp only[Act.put]
   have kc:=(I.at_ 0 rfl).box.grown
   clear kt
   have kt:=(I.at_ 1 rfl).box.grown
   clear q0 q1 q2 q3 q4 q5
   have cs:=fun n m d os=>(Calls.regrown_of (same_below (cW n m _)):Calls Tryz.prog 40 #[.int .i64 n,.int .i64 m] (grow (redrawn w4 d) os) fun e w''=>e= .returned (.bool (withB n m))∧∃p:Regrown,w''=grow (redrawn w4 p.d) p.os)
   replace cs:=Zh cs
   have hy2:=hy.out w4 I.below
   clear hy
   rcases hW.out with h1|⟨h1,h2|⟨h2,h3|⟨h3,h4|⟨h4,h5|⟨h5,h6|⟨h6,h7⟩⟩⟩⟩⟩⟩
   all_goals clear hW
   case' inr.inr.inr.inr.inr.inr=>
    have k1:0<k:=by simpa using h6
    have k2:decide ((0:Int)<(k:Int))=true:=by simpa using k1
    obtain⟨p0,p1,p2,p3,p4,p5⟩:=hy2 k1
    dsimp only at p0
    have g0:=cell_regrown p0
    have hw1:IntKind.i64.wrap ((k:Int)-1)=(k:Int)-1:=IntWalk.i64_in _ (by omega)
    have ht1:((k:Int)-1).toNat=k-1:=by omega
    have t1:(0:Int)≤(k:Int)-1:=by omega
    have t2:(k:Int)-1<(v.cn:Int):=by omega
    clear p0 p1 p2 p3 p4 p5
    rcases h7 with h7|h7
   case' inr.inr.inr.inr.inr.inl=>
    have k2:decide ((0:Int)<(k:Int))=false:=by simpa using h6
   case inr.inr.inr.inr.inr.inl=>
    have hf:=hnx.out (by rw[hF2.out];simp[*])
    clear hF2 hit2 hnx hy2
    replace hf:=Zh hf
    go_wp2_with fail
    refine wp_region_quiet_below (by kernel_rfl) (by kernel_rfl) ?_
    repeat(go_big_quiet_step(exact cs.out _ _ _ _))
    refine wpQuiet_nil ?_
    rintro _ ⟨⟨dq,osq⟩,rfl⟩
    have p_:=below_regrown w4 dq osq
    replace I:=Zm I p_
    generalize grow (redrawn w4 dq) osq=w5 at*
    clear p_
    have HM2:=Zh I.tail
    go_wp2
    go_roundw
    case rel=>exact⟨k+1,by omega,by go_num,hf,HM2⟩
    case measure=>simp[intOf];omega
   case inr.inr.inr.inr.inr.inr.inr=>
    have hf:=hnx.out (by rw[hF2.out];simp[*])
    clear hF2 hit2 hnx hy2
    replace hf:=Zh hf
    go_wp2_with fail
    refine wp_region_quiet_below (by kernel_rfl) (by kernel_rfl) ?_
    repeat(go_big_quiet_step(exact cs.out _ _ _ _))
    refine wpQuiet_nil ?_
    rintro _ ⟨⟨dq,osq⟩,rfl⟩
    have p_:=below_regrown w4 dq osq
    replace I:=Zm I p_
    generalize grow (redrawn w4 dq) osq=w5 at*
    clear p_
    have HM2:=Zh I.tail
    go_wp2
    go_roundw
    case rel=>exact⟨k+1,by omega,by go_num,hf,HM2⟩
    case measure=>simp[intOf];omega
   all_goals
    have hR:=Zh (hit2 (by rw[hF2.out];simp[*]))
    clear hF2 hit2 hnx hy2
    go_wp2_with fail
    refine wp_region_quiet_below (by kernel_rfl) (by kernel_rfl) ?_
    repeat(go_big_quiet_step(exact cs.out _ _ _ _))
    refine wpQuiet_nil ?_
    rintro _ ⟨⟨dq,osq⟩,rfl⟩
    have p_:=below_regrown w4 dq osq
    replace I:=Zm I p_
    generalize grow (redrawn w4 dq) osq=w5 at*
    clear p_
    go_wp2
    go_ret
    exact⟨by rw[hR.out];rfl,I.below⟩
  ·have hkn:k=v.cn:=by omega
   have hR:=Zh (non (by rw[←hkn];exact HP.out))
   go_wp2
   all_goals
    go_ret
    refine⟨?_,I.below⟩
    rw[hR.out]
    simp_all [intB]
theorem chkM_len {m:Msg}(h:chkM m=0):m.spots.length≤8∧m.old.length≤8:=by
 unfold chkM at h
 split at h
 ·cases h
 split at h
 ·cases h
 split at h
 ·cases h
 omega
theorem zeroM_len {m:Msg}(h:zeroM m=true):m.spots.length≤8∧m.old.length≤8:=by
 have:m=msg0:=by simpa[zeroM]using h
 subst this
 exact⟨by decide,by decide⟩
theorem ansN_chk {q r:Msg}(h:ansN q r=true):chkM q=0∧chkM r=0:=by
 unfold ansN at h
 split at h
 ·cases h
 ·rename_i h1;exact⟨by omega,by omega⟩
theorem EdOk.len {e:Ed}(h:EdOk e):e.cells.length≤512∧(e.asked.spots.length≤8∧e.asked.old.length≤8)∧(e.last.spots.length≤8∧e.last.old.length≤8)∧e.reply.spots.length≤8∧e.reply.old.length≤8:=by
 refine⟨h.cells.len,?_,?_⟩
 ·have:=h.asked
  rw[askedOk_eq]at this
  split at this
  ·exact zeroM_len (by simp at this;exact this.1)
  ·exact chkM_len (by simp at this;exact this.1)
 ·have:=h.known
  rw[knownOk_eq]at this
  split at this
  ·simp at this;exact⟨zeroM_len this.1,zeroM_len this.2⟩
  ·simp at this;exact⟨chkM_len (ansN_chk this.1).1,chkM_len (ansN_chk this.1).2⟩
theorem small_of {w:World} {v:EdV} {e:Ed}(h:EdIs w v e)(hk:chkE e=0):Small v:=by
 have h1:=((chkE_iff e).1 hk).len
 rw[h.cells.len,h.asked.spots.len,h.asked.old.len,h.last.spots.len,h.last.old.len,h.reply.spots.len,h.reply.old.len]at h1
 exact⟨by omega,by omega,by omega,by omega⟩
theorem EdIs.startE(w:World)(node peer:Int):EdIs w edV0 (startE node peer):=⟨Sls.nil,Nat.le_refl _,MsgIs.zero w,MsgIs.zero w,MsgIs.zero w⟩
theorem wpList_loadG {P:Program} {ops:Array Oper} {rest:List Oper} {op:Oper} {a:Act} {w:World} {Q:Exit→Act→World→Prop}(i:Nat) {a0:World} {L:List (Nat×Array Value×TypeId)}(hM:Hid (Mem a0 w L))(hw:Region.wanted op (yielded ops a.tmps)=true)(ty:TypeId)(x:Operand)(ho:op.op= .load ty x)
 (B:Nat) (hx:a.eval x= .pointer (some ⟨B,0,none⟩)) {C:Array Value} {t:TypeId} (hL:L[i]? =some (B,C,t)) (d:TypeDesc) (hu:P.underlying ty=some d) (hd:(match d with| .struct _| .array _ _=>true|_=>false)=true)
 (hi:(P.info? ty).map (·.size)=some C.size)
 (h:wpList P ops Q rest (a.put op.dst (.agg C)) w):wpList P ops Q (op::rest) a w:=
 wpList_step fun K hK=>by
  rw[if_pos hw]
  have:=run_loadVar_blk (hM.at_ i hL) ty d hu hd hi
  unfold Oper.wp execOp
  simp only[ho,hx,Instr.loadAt,Instr.sureAddr,Sem.run_bind,Sem.run_pure,Result.andThen_ok,this]
  exact hK _ _ h
theorem lG {P:Program} {ops:Array Oper} {rest:List Oper} {op:Oper} {a:Act} {w:World} {Q:Exit→Act→World→Prop} {a0:World} {L:List (Nat×Array Value×TypeId)}(i:Nat)(hM:Hid (Mem a0 w L)) {ty:TypeId} {d:TypeDesc}(hu:P.underlying ty=some d) {x:Operand} {B:Nat} {C:Array Value} {t:TypeId}
 (h:wpList P ops Q rest (a.put op.dst (.agg C)) w) (hw:Region.wanted op (yielded ops a.tmps)=true:=by rfl) (ho:op.op= .load ty x:=by rfl) (hx:a.eval x= .pointer (some ⟨B,0,none⟩):=by rfl) (hL:L[i]? =some (B,C,t):=by rfl)
 (hd:d.isRow=true:=by rfl) (hi:(P.info? ty).map (·.size)=some C.size:=by kernel_rfl):wpList P ops Q (op::rest) a w:=
 wpList_loadG i hM hw ty x ho B hx hL d hu (by cases d<;>first|rfl|cases hd) hi h
theorem chkE_w(e:Ed):chkE e=if(withB e.node 31&&(withB e.peer 31&&(withB e.number 255&&withB e.since 1099511627776)))=true then(if(decide (e.node=e.peer)||(!cellsOk e||(!askedOk e|| !knownOk e)))=true then 1 else 0)else 2:=by
 unfold chkE withB
 simp only[Bool.and_eq_true,Bool.or_eq_true,decide_eq_true_eq,Bool.not_eq_true']
 split
 ·symm;rw[if_neg (by omega)]
 ·symm;rw[if_pos (by omega)]
theorem chkE_any(e:Ed)(v:EdV)(w:World)(h:EdIs w v e):Calls Tryz.prog 71 #[.agg (Ke e v)] w fun r w'=>r= .returned (.int .i64 (chkE e))∧Below w.heap.size w w':=by
 have I:=Zh (Mem.start w)
 have cW:=fun n m W=>within_any n m W
 have cC:=fun W (hb:Below w.heap.size w W)=>cells_any e v W (h.keep hb)
 have cA:=fun W (hb:Below w.heap.size w W)=>asked_any e v W (h.keep hb)
 have cK:=fun W (hb:Below w.heap.size w W)=>known_any e v W (h.keep hb)
 have hR:=chkE_w e
 generalize hP:(fun(r:Ending) w'=>r=Ending.returned (.int .i64 (chkE e))∧Below w.heap.size w w')=P
 have hPo:∀B w',chkE e=B→Below w.heap.size w w'→P (.returned (.int .i64 B)) w':=fun B w' e1 hb=>by rw[←hP];exact⟨by rw[e1],hb⟩
 clear hP
 generalize chkE e=R at*
 generalize cellsOk e=B1 at*
 generalize askedOk e=B2 at*
 generalize knownOk e=B3 at*
 have uE:=Tryz.underlying32
 refine zh8 ?_ h cW cC cA cK hR hPo uE;clear h cW cC cA cK hR hPo uE;intro h cW cC cA cK hR hPo uE
 go_enter Tryz.func71,Tryz.ntmps71
 go_upto_region 1 with(refine bA I 32 ?_;clear I;intro ge w1 I hG;clear hG)
 have ke:=I.cell 0 rfl
 go_upto_region 3 with(first|(go_at_call 40;refine(cW _ _ _).mono ?_;rintro r w_ ⟨rfl,rfl⟩)|fail)
 all_goals try
  (refine hPo _ _ ?_ I.below
   rw[hR.out]
   try simp only[bne_iff_ne,beq_iff_eq,ne_eq,bne_eq_false_iff_eq,beq_eq_false_iff_ne,Bool.not_eq_true',Bool.not_eq_false']at*
   simp[*]
   done)
 have hR2:Hid (R=if(decide (e.node=e.peer)||(!B1||(!B2|| !B3)))=true then 1 else 0):=by
  show _= _
  rw[hR.out]
  try simp only[bne_iff_ne,beq_iff_eq,ne_eq,bne_eq_false_iff_eq,beq_eq_false_iff_ne,Bool.not_eq_true',Bool.not_eq_false']at*
  simp[*]
 clear hR cW
 have hR:=hR2
 clear hR2
 by_cases hnp:e.node=e.peer
 ·have d1:(e.node==e.peer)=true:=by rw[beq_iff_eq];exact hnp
  have hR2:Hid (R=1):=by show _= _;rw[hR.out];simp[hnp]
  go_wp2_with fail
  exact hPo.out _ _ hR2.out I.below
 have d1:(e.node==e.peer)=false:=by rw[beq_eq_false_iff_ne];exact hnp
 cases B1
 case' true=>cases B2
 all_goals
  go_wp2_with(first
  |(refine lG 0 I uE.out ?_)
  |(go_at_call 128;refine(cC _ I.below).mono ?_;rintro r w3 ⟨rfl,p_⟩;have HM2:=Zm I p_;clear I p_ ke cC;have I:=HM2;clear HM2;have ke:=I.cell 0 rfl)
  |(go_at_call 129;refine(cA _ I.below).mono ?_;rintro r w3 ⟨rfl,p_⟩;have HM2:=Zm I p_;clear I p_ ke cA;have I:=HM2;clear HM2;have ke:=I.cell 0 rfl)
  |(go_at_call 130;refine(cK _ I.below).mono ?_;rintro r w3 ⟨rfl,p_⟩;have HM2:=Zm I p_;clear I p_ ke cK;have I:=HM2;clear HM2;have ke:=I.cell 0 rfl)
  |fail)
 all_goals
  refine hPo _ _ ?_ I.below
  rw[hR.out]
  try simp only[bne_iff_ne,beq_iff_eq,ne_eq,bne_eq_false_iff_eq,beq_eq_false_iff_ne,Bool.not_eq_true',Bool.not_eq_false']at*
  first
  |(simp[*];done)
  |(rename_i h9;rcases h9 with h9|h9<;>first|(exact absurd h9 (by assumption))|(simp[*];done))
  |(trace_state;fail)
theorem startC_w(node peer:Int):startC node peer=if(withB node 31&&(withB peer 31&& !decide (node=peer)))=true then 0 else 2:=by
 unfold startC withB
 simp only[Bool.and_eq_true,decide_eq_true_eq,Bool.not_eq_true',decide_eq_false_iff_not]
 split
 ·rw[if_neg (by omega)]
 ·rw[if_pos (by omega)]
theorem expB_w(e:Ed)(slot wait:Int):expB e slot wait=(decide (chkE e=0)&&(e.opn&&(!decide (slot<0)&& !decide (slot-e.since<wait)))):=by
 unfold expB
 congr 1;congr 1
 rw[Bool.eq_iff_iff];simp
end Tx
end Go.Proofs.YtfamifgchgolpaaGreat
