/- celltable: Mirror. -/
import Derived.Test.YtfamifgchgolpaaGreatCx
set_option linter.unusedVariables false
set_option linter.unusedSimpArgs false
set_option maxRecDepth 100000
set_option maxHeartbeats 4000000
namespace Go.Proofs.YtfamifgchgolpaaGreat
open Go Go.RowKit Go.Sort Go.Shelf Go.Maps
namespace Tx
open Sw Mm Pl
theorem eMi:∀args w,(callFunc 83 args).run Tryz.prog w= .ok (.enter 83 args) w:=enters_of Tryz.func83 (by kernel_rfl) rfl
theorem mirFn_any(x y:TCl)(w:World):Calls Tryz.prog 83 (#[.agg #[.int .i64 x.slot,.int .i64 x.off,.int .i64 x.kind,.bool x.send,.int .i64 x.peer,.int .i64 x.flow],.agg #[.int .i64 y.slot,.int .i64 y.off,.int .i64 y.kind,.bool y.send,.int .i64 y.peer,.int .i64 y.flow]]++ #[]) w fun e w'=>e= .returned (.bool (oppC x y))∧Below w.heap.size w w':=by
 show Calls Tryz.prog 83 #[.agg #[.int .i64 x.slot,.int .i64 x.off,.int .i64 x.kind,.bool x.send,.int .i64 x.peer,.int .i64 x.flow],.agg #[.int .i64 y.slot,.int .i64 y.off,.int .i64 y.kind,.bool y.send,.int .i64 y.peer,.int .i64 y.flow]] w _
 have I:=Zh (Mem.start w)
 unfold oppC
 obtain⟨x0,x1,x2,x3,x4,x5⟩:=x
 obtain⟨y0,y1,y2,y3,y4,y5⟩:=y
 dsimp only at*
 go_enter Tryz.func83,Tryz.ntmps83
 go_upto_region 1 with(first|(refine bA I 85 ?_;clear I;intro gx w1 I hG;clear hG)|fail)
 have ka:=I.cell 1 rfl
 have kb:=I.cell 0 rfl
 cases x3<;>cases y3
 all_goals
  go_wp2
  all_goals
   go_ret
   exact⟨by first|(simp[*];done)|(simp[*];omega)|(simp[*,intB];done)|(simp[*,intB];omega)|(simp[*,bne,intB];done),I.below⟩
theorem eqFnM_any(A B:Option Addr)(n cp m cq:Nat)(xs ys:List TCl)(w:World)(h:TclS w A n xs)(h2:TclS w B m ys):Calls Tryz.prog 82 #[.slice A n cp,.slice B m cq,.func (.func 83) #[] #[]] w fun e w'=>e= .returned (.bool (oppN xs ys))∧Below w.heap.size w w':=by
 have l1:=h.len
 have l2:=h2.len
 exact eqFnT_any 83 #[] oppC A B n cp m cq xs ys w eMi h h2 mirFn_any _ (fun e=>oppN_ne (by omega)) (fun k hk e=>oppN_no (by omega) e) (fun e hh=>oppN_yes (by omega) (fun i hi=>hh i (by omega)))
structure MirrOk(a b:Tab):Prop where
 ca:chkT a=0
 cb:chkT b=0
 node:a.node≠b.node
 len:a.length=b.length
 opp:oppN (betwN a b.node) (betwN b a.node)=true
theorem mirror_any(a b:Tab)(va vb:TabV)(w:World)(h1:TabIs w va a)(h2:TabIs w vb b)(hm:MirrOk a b):Calls Tryz.prog 21 #[.agg (Kt a va),.agg (Kt b vb)] w fun r w'=>r= .returned (.bool true)∧Below w.heap.size w w':=by
 have I:=Zh (Mem.start w)
 have uT:=Tryz.underlying37
 have n1:va.n≤100000:=by have:=((chkT_iff a).1 hm.ca).size;have:=h1.cells.len;omega
 have n2:vb.n≤100000:=by have:=((chkT_iff b).1 hm.cb).size;have:=h2.cells.len;omega
 have cA:Hid (∀W,Below w.heap.size w W→Calls Tryz.prog 20 #[.agg (Kt a va)] W fun e w'=>e= .returned (.int .i64 0)∧Below W.heap.size W w'):=fun W hb=>by have:=chkT_any a va W (h1.keep hb);rwa[hm.ca]at this
 have cB:Hid (∀W,Below w.heap.size w W→Calls Tryz.prog 20 #[.agg (Kt b vb)] W fun e w'=>e= .returned (.int .i64 0)∧Below W.heap.size W w'):=fun W hb=>by have:=chkT_any b vb W (h2.keep hb);rwa[hm.cb]at this
 have cE:=Zh (fun W hb=>between_any a va b.node W (h1.keep (w':=W) hb) n1)
 have cF:=Zh (fun W hb=>between_any b vb a.node W (h2.keep (w':=W) hb) n2)
 have cQ:=Zh @eqFnM_any
 have d1:(a.node==b.node)=false:=by rw[beq_eq_false_iff_ne];exact hm.node
 have d2:=hm.len
 have ho:=Zh hm.opp
 have cE:Hid (∀W,Below w.heap.size w W→Calls Tryz.prog 76 #[.agg (Kt a va),.int .i64 b.node] W fun e w'=>∃A n c,e= .returned (.slice A n c)∧TclS w' A n (betwN a b.node)∧Below W.heap.size W w'):=cE
 have cF:Hid (∀W,Below w.heap.size w W→Calls Tryz.prog 76 #[.agg (Kt b vb),.int .i64 a.node] W fun e w'=>∃A n c,e= .returned (.slice A n c)∧TclS w' A n (betwN b a.node)∧Below W.heap.size W w'):=cF
 generalize betwN a b.node=LA at*
 generalize betwN b a.node=LB at*
 clear hm n1 n2
 obtain⟨a0,a1,a2⟩:=a
 obtain⟨b0,b1,b2⟩:=b
 dsimp only at*
 subst d2
 refine zh3 ?_ h1 h2 uT;clear h1 h2 uT;intro h1 h2 uT
 go_enter Tryz.func21,Tryz.ntmps21
 have mk1:Unit:=()
 have mk2:Unit:=()
 go_upto_region 1 with(first|(clear mk1;refine bA I 37 ?_;clear I;intro ga w1 I hG;clear hG)|(clear mk2;refine bA I 37 ?_;clear I;intro gb w1 I hG;clear hG)|fail)
 have pa0:=Zc I 1 0 (.int .i64 a0)
 have pa1:=Zc I 1 1 (.int .i64 a1)
 have pb0:=Zc I 0 0 (.int .i64 b0)
 have pb1:=Zc I 0 1 (.int .i64 a1)
 have mk3:Unit:=()
 have mk4:Unit:=()
 go_upto_region 3 with(first
  |go_skip
  |(refine lG 1 I uT.out ?_)
  |(refine lG 0 I uT.out ?_)
  |(go_at_call 20;clear mk3;refine(cA _ I.below).mono ?_;rintro r w3 ⟨rfl,p_⟩;clear pa0 pa1 pb0 pb1;replace I:=Zm I p_;have pa0:=Zc I 1 0 (.int .i64 a0);have pa1:=Zc I 1 1 (.int .i64 a1);have pb0:=Zc I 0 0 (.int .i64 b0);have pb1:=Zc I 0 1 (.int .i64 a1);clear p_)
  |(go_at_call 20;clear mk4;refine(cB _ I.below).mono ?_;rintro r w3 ⟨rfl,p_⟩;clear pa0 pa1 pb0 pb1;replace I:=Zm I p_;have pa0:=Zc I 1 0 (.int .i64 a0);have pa1:=Zc I 1 1 (.int .i64 a1);have pb0:=Zc I 0 0 (.int .i64 b0);have pb1:=Zc I 0 1 (.int .i64 a1);clear p_)
  |fail)
 clear pa0 pa1 pb0 pb1
 have HMd:=Zh I.drew
 clear I
 have I:=HMd
 clear HMd
 have HMs:=Zh I.out
 refine wp_region_plan (fun w'=>Mem _ w' _) 9 [(0,true),(1,true),(2,true),(4,true),(5,true),(6,true),(3,false),(7,false),(8,false)] (by kernel_rfl) (by kernel_rfl) HMs.out ?_
 refine plTakeL (by rfl) (yw 1 uT.out) ?_
 try go_frame
 repeat(first|(refine plPure rfl rfl (by intro w_ hSw;go_simp;first|done|exact rfl) ?_;try go_frame)|(refine plTakeL (by rfl) (yields_memc rfl _ _ rfl 0 (fun w_ hSw=>hSw) rfl _ rfl _ rfl _ (by first|exact Tryz.underlying3|exact Tryz.underlying4|exact Tryz.underlying28|exact Tryz.underlying27) (by rfl)) ?_;try go_frame))
 refine plTakeL (by rfl) (yw 0 uT.out) ?_
 try go_frame
 repeat(first|(refine plPure rfl rfl (by intro w_ hSw;go_simp;first|done|exact rfl) ?_;try go_frame)|(refine plTakeL (by rfl) (yields_memc rfl _ _ rfl 1 (fun w_ hSw=>hSw) rfl _ rfl _ rfl _ (by first|exact Tryz.underlying3|exact Tryz.underlying4|exact Tryz.underlying28|exact Tryz.underlying27) (by rfl)) ?_;try go_frame))
 refine plStepL rfl rfl fun K hK=> ?_
 go_wp2_with(first|(go_at_call 76;refine(cE _ I.below).mono ?_;rintro r w3 ⟨A1,n1,c1,rfl,hS1,p_⟩)|fail)
 refine hK _ _ (HMs.keep p_) fun hS_=> ?_
 clear hK K hS_
 try go_frame
 replace I:=Zm I p_
 replace HMs:=Zh (HMs.keep p_)
 clear p_
 replace hS1:=Zh hS1
 refine plStepL rfl rfl fun K hK=> ?_
 go_wp2_with(first|(go_at_call 76;refine(cF _ I.below).mono ?_;rintro r w4 ⟨A2,n2,c2,rfl,hS2,p_⟩)|fail)
 refine hK _ _ (HMs.keep p_) fun hS_=> ?_
 clear hK K hS_
 try go_frame
 replace hS1:=Zh (hS1.keep p_)
 replace I:=Zm I p_
 replace HMs:=Zh (HMs.keep p_)
 clear p_
 replace hS2:=Zh hS2
 refine plStepL rfl rfl fun K hK=> ?_
 go_wp2_with(first|(refine(cQ _ _ _ _ _ _ _ _ _ hS1.out hS2.out).mono ?_;rw[ho.out];rintro r w5 ⟨rfl,p_⟩)|fail)
 refine hK _ _ (HMs.keep p_) fun hS_=> ?_
 clear hK K hS_
 try go_frame
 replace I:=Zm I p_
 replace HMs:=Zh (HMs.keep p_)
 clear p_
 refine plDone ?_
 simp only[List.drop]
 go_wp2_with fail
 try simp only[Exit.inBlock,Exit.then]
 first|exact⟨rfl,I.below⟩|(go_ret;exact⟨rfl,I.below⟩)|(trace_state;fail)
end Tx
end Go.Proofs.YtfamifgchgolpaaGreat
