/- Chapter 26: the methods of an answer by the request's kind; the map of them; a refusal: the program's. -/
import Derived.Test.YtfamifgchgolpaaGreatBu
import Derived.Test.YtfamifgchgolpaaGreatBx
import Derived.Maps.Views
import Derived.Maps.OwnOps
set_option linter.unusedVariables false
set_option linter.unusedSimpArgs false
set_option maxRecDepth 100000
set_option maxHeartbeats 2000000
namespace Go.Proofs.YtfamifgchgolpaaGreat
open Go Go.RowKit Go.Sort Go.Shelf Go.Maps
namespace Tx
open Sw Mm Pl
def methF(k:Int):Nat:=if k=1 then 63 else if k=2 then 64 else if k=3 then 65 else if k=4 then 66 else 67
theorem eMeth(k:Int):∀args w,(callFunc (methF k) args).run Tryz.prog w= .ok (.enter (methF k) args) w:=by
 unfold methF
 split
 ·exact enters_of Tryz.func63 (by kernel_rfl) rfl
 ·split
  ·exact enters_of Tryz.func64 (by kernel_rfl) rfl
  ·split
   ·exact enters_of Tryz.func65 (by kernel_rfl) rfl
   ·split
    ·exact enters_of Tryz.func66 (by kernel_rfl) rfl
    ·exact enters_of Tryz.func67 (by kernel_rfl) rfl
theorem foll3 {m:Msg}(hm:MsgOk m)(hr:m.reply=false)(h3:m.kind=3):m.count=m.old.length:=by
 have hf:=hm.foll
 unfold follN at hf
 split at hf
 ·cases hf
 rename_i h1
 have hcode:m.code=0:=Decidable.byContradiction fun h2=>h1 ⟨hr,h2⟩
 rw[if_neg (by rw[hcode];simp),if_neg (by omega),if_neg (by omega)]at hf
 simp only[Bool.and_eq_true,decide_eq_true_eq]at hf
 exact hf.2.1
theorem meth_any(e:Ed)(m:Msg)(us:List Spt)(V:AnsV)(hE:EdOk e)(hm:MsgOk m)(hr:m.reply=false)(hu:UsOk e m us)(g:Nat)(a0 w:World)(L:List (Nat×Array Value×TypeId))(h0:Mem a0 w ((g,ansA (ans0 e m us) V,110)::L))(hS:AnsS w V (ans0 e m us))(hv:V.sA=none∧V.sn=0∧V.sc=0)(hLS:∀y∈L,97≠y.2.2):Calls Tryz.prog (methF m.kind) #[.pointer (some ⟨g,0,none⟩)] w (MethPost a0 L g (methA m.kind (ans0 e m us))):=by
 have hq:=min_q (c:=m.count) (n:=us.length) hm.count0
 have hcn:V.e.cn≤100000:=by have h1:=hS.e.lc;have h2:=hE.cells.len;have h3:(ans0 e m us).e=e:=rfl;rw[h3]at h1;omega
 have hul:V.un=us.length:=hS.us.is.len.symm
 have hu8:us.length≤8:=Nat.le_trans hu.sub.length_le hm.ls
 have hol:m.old.length=V.m.on:=hS.m.lo
 unfold methF methA
 by_cases e1:m.kind=1
 ·rw[if_pos e1,if_pos e1]
  have hf:=us_fit hE hm hu [] (min m.count.toNat us.length)
  exact ansAdd_any (ans0 e m us) V g _ a0 w L h0 hS hq hf.ok hf.bd hcn (by omega)
 rw[if_neg e1,if_neg e1]
 by_cases e2:m.kind=2
 ·rw[if_pos e2,if_pos e2]
  have hf:=nil_fit hE m.old
  exact ansRem_any (ans0 e m us) V g a0 w L h0 hS hf.ok hf.bd hcn
 rw[if_neg e2,if_neg e2]
 by_cases e3:m.kind=3
 ·rw[if_pos e3,if_pos e3]
  have hf:=us_fit hE hm hu (m.old.take (min m.count.toNat us.length)) (min m.count.toNat us.length)
  have h3:=foll3 hm hr e3
  exact ansMov_any (ans0 e m us) V g _ a0 w L h0 hS hq (by omega) hf.ok hf.bd hcn (by omega)
 rw[if_neg e3,if_neg e3]
 by_cases e4:m.kind=4
 ·rw[if_pos e4,if_pos e4]
  exact ansNum_any (ans0 e m us) V g a0 w L h0 hS
 rw[if_neg e4,if_neg e4]
 exact ansLst_any (ans0 e m us) V g (min V.e.cn 8) a0 w L h0 hS rfl hv rfl hcn hLS
def codeG(f:Nat):DataW Unit:= .lit (.int .i64 f)
def rdG(v:Value):Option (DataW Unit×List MemPlace):=match fnOf v with
 |some f=>some (codeG f,[])
 |none=>some (.agg [],[])
theorem zeroG(w:World):(zeroValue 112).run Tryz.prog w= .ok .nilFunc w:=by kernel_rfl
theorem rdG_inv {v:Value} {f:Nat} {ps:List MemPlace}(h:rdG v=some (codeG f,ps)):v= .func (.func f) #[] #[]:=by
 unfold rdG at h
 split at h
 ·rename_i a ha
  injection h with h
  simp only[codeG,Prod.mk.injEq,DataW.lit.injEq,Lit.int.injEq,true_and]at h
  rw[Int.ofNat_inj.1 h.1]at ha
  exact fnOf_inv ha
 ·injection h with h
  simp[codeG]at h
theorem up_meth {w:World} {b n:Nat} {D:DataW Unit}(h:w.ownsMap Tryz.prog 3 rdG b n D)(hn:n≤6)(k:Int)(hk:1≤k∧k≤6)(f:Nat):∃w',(Instr.mapUpdate 113 (.map (some b)) (.int .i64 k) (.func (.func f) #[] #[])).run Tryz.prog w= .ok () w'∧w'.ownsMap Tryz.prog 3 rdG b (n+1) (D.put (.int .i64 k) (codeG f))∧w.grownBy w' (some b):=
 h.update lawI Tryz.underlying113 (by unfold maxLen;omega) (keyI k (by omega)) (rfl:rdG (.func (.func f) #[] #[])=some (codeG f,[]))
theorem meths_map(W:World)(K:Int)(hK:1≤K∧K≤5):∃w1 w2 w3 w4 w5:World,(Instr.mapUpdate 113 (.map (some W.heap.size)) (.int .i64 1) (.func (.func 63) #[] #[])).run Tryz.prog (W.alloc (.map #[] 0))= .ok () w1∧(Instr.mapUpdate 113 (.map (some W.heap.size)) (.int .i64 2) (.func (.func 64) #[] #[])).run Tryz.prog w1= .ok () w2∧(Instr.mapUpdate 113 (.map (some W.heap.size)) (.int .i64 3) (.func (.func 65) #[] #[])).run Tryz.prog w2= .ok () w3∧(Instr.mapUpdate 113 (.map (some W.heap.size)) (.int .i64 4) (.func (.func 66) #[] #[])).run Tryz.prog w3= .ok () w4∧(Instr.mapUpdate 113 (.map (some W.heap.size)) (.int .i64 5) (.func (.func 67) #[] #[])).run Tryz.prog w4= .ok () w5∧
 (Instr.lookup 113 (.map (some W.heap.size)) (.int .i64 K) false).run Tryz.prog w5= .ok (.func (.func (methF K)) #[] #[]) w5∧Below W.heap.size W w5:=by
 have HM0:=World.ownsMap_made (H:=Unit) W Tryz.prog 3 rdG
 have hb0:=ball W (.map #[] 0)
 obtain⟨w1,u1,o1,g1⟩:=up_meth HM0 (by omega) 1 (by omega) 63
 obtain⟨w2,u2,o2,g2⟩:=up_meth o1 (by omega) 2 (by omega) 64
 obtain⟨w3,u3,o3,g3⟩:=up_meth o2 (by omega) 3 (by omega) 65
 obtain⟨w4,u4,o4,g4⟩:=up_meth o3 (by omega) 4 (by omega) 66
 obtain⟨w5,u5,o5,g5⟩:=up_meth o4 (by omega) 5 (by omega) 67
 have hb5:Below W.heap.size W w5:=by
  have gg:=gb_trans (gb_trans (gb_trans (gb_trans g1 g2) g3) g4) g5
  exact Below.grownM hb0 gg hb0.size (fun q hq=>by injection hq with hq;omega)
 refine⟨w1,w2,w3,w4,w5,u1,u2,u3,u4,u5,?_,hb5⟩
 obtain⟨v,ps,hrun,hv⟩:=o5.lookup lawI Tryz.underlying113 (zeroG w5) (rfl:rdG .nilFunc=some (.agg [],[])) (keyI K (by omega))
 have hm1:=(isMap_empty (H:=Unit)).put (.int .i64 1) (codeG 63)
 have hm2:=hm1.put (.int .i64 2) (codeG 64)
 have hm3:=hm2.put (.int .i64 3) (codeG 65)
 have hm4:=hm3.put (.int .i64 4) (codeG 66)
 rw[hrun]
 rcases(by omega:K=1∨K=2∨K=3∨K=4∨K=5)with rfl|rfl|rfl|rfl|rfl
 ·rw[atKey_put_other (by simp),atKey_put_other (by simp),atKey_put_other (by simp),atKey_put_other (by simp),atKey_put_same isMap_empty (isKeyInt _)]at hv
  rw[rdG_inv hv];rfl
 ·rw[atKey_put_other (by simp),atKey_put_other (by simp),atKey_put_other (by simp),atKey_put_same hm1 (isKeyInt _)]at hv
  rw[rdG_inv hv];rfl
 ·rw[atKey_put_other (by simp),atKey_put_other (by simp),atKey_put_same hm2 (isKeyInt _)]at hv
  rw[rdG_inv hv];rfl
 ·rw[atKey_put_other (by simp),atKey_put_same hm3 (isKeyInt _)]at hv
  rw[rdG_inv hv];rfl
 ·rw[atKey_put_same hm4 (isKeyInt _)]at hv
  rw[rdG_inv hv];rfl
def RfPost(e:Ed)(m:Msg)(c:Int)(w:World)(r:Ending)(w':World):Prop:=∃v,r= .returned (.tuple #[.agg (endA e v),.agg (msgA (refN m c) msgV0),.int .i64 0])∧EdOwn w' v e∧Below w.heap.size w w'
theorem refuse_any(e:Ed)(v:EdV)(m:Msg)(vm:MsgV)(c:Int)(B7 B4:Nat)(w:World)(h:EdIs w v e)(hs:Small v)(hm:MsgIs w vm m)(h7:Box w B7 (Km m vm))(h4:Box w B4 (Ke e v)):Calls Tryz.prog 58 (#[.int .i64 c]++ #[.pointer (some ⟨B7,0,none⟩),.pointer (some ⟨B4,0,none⟩)]) w (RfPost e m c w):=by
 show Calls Tryz.prog 58 #[.int .i64 c,.pointer (some ⟨B7,0,none⟩),.pointer (some ⟨B4,0,none⟩)] w _
 have I:=Zh (Mem.start w)
 have cR:∀W,Below w.heap.size w W→Calls Tryz.prog 59 #[.agg (Km m vm),.int .i64 c] W fun r w'=>r= .returned (.tuple #[.agg (msgA (refN m c) msgV0),.int .i64 (refC m c)])∧Below W.heap.size W w':=fun W hb=>ref_any m vm c W (hm.keep hb)
 have cC:=fun W (hb:Below w.heap.size w W)=>clone_any e v W (h.keep hb) hs.c hs.a hs.l hs.r
 generalize hP:RfPost e m c w=P
 generalize hRN:refN m c=RN at*
 generalize refC m c=RC at*
 have uE:=Tryz.underlying32
 have uM:=Tryz.underlying30
 refine zh10 ?_ cR cC uE uM hP h hm h7 h4 hRN;clear cR cC uE uM hP h hm h7 h4 hRN;intro cR cC uE uM hP h hm h7 h4 hRN
 go_enter Tryz.func58,Tryz.ntmps58
 go_upto_region 1 with(first|(refine wpList_allocA I rfl 32 rfl (by first|exact msgInfo|exact edInfo|exact tabInfo|exact info_tcl|exact info_spt) ?_;clear I;intro g4 w1 I hG;clear hG)|(refine wpList_allocA I rfl 30 rfl (by first|exact msgInfo|exact edInfo|exact tabInfo|exact info_tcl|exact info_spt) ?_;clear I;intro g5 w1 I hG;clear hG))
 have hB7:=Zh (h7.keep I.below)
 go_upto_region 2 with(first
  |(refine wpList_loadBox hB7 rfl _ _ rfl rfl _ uM.out rfl (by exact zmsg) ?_)
  |(go_at_call 59;refine(cR _ I.below).mono ?_;rintro r w3 ⟨rfl,p_⟩;dsimp only[msgA,msgV0];replace I:=Zm I p_;clear p_ hB7)
  |(refine aN I msgInfo ?_;clear I;intro g7 w1 I hG hN9)
  |(refine sF 0 I ?_;clear I;intro w4 I hG4;simp only[List.set]at I)
  |fail)
 clear hG hG4 hN9
 have HMd:=Zh I.drew
 clear I
 have I:=HMd
 clear HMd
 have HMs:=Zh I.out
 replace HMs:=Zh (HMs.less 2)
 simp only[List.eraseIdx]at HMs
 refine wp_region_plan (fun w'=>Mem _ w' _) 4 [(0,true),(2,true),(1,false),(3,false)] (by kernel_rfl) (by kernel_rfl) HMs.out ?_
 refine plTakeL (by rfl) (yields_part rfl _ _ rfl B4 0 rfl _ _ (fun w_ hSw=>Box.range (h4.keep hSw.below) 0 (Ke e v) (by simp)) uE.out rfl (by exact zend)) ?_
 try simp only[Act.put,List.setIfInBounds_toArray,List.set_cons_zero,List.set_cons_succ]
 refine plTakeL (by rfl) (yw 0 uM.out) ?_
 try go_frame
 refine plStepL rfl rfl fun K hK=> ?_
 go_wp2_with(first|(go_at_call 60;refine(cC _ I.below).mono ?_;rintro r w5 ⟨v2,rfl,hE,p_⟩;dsimp only[endA];replace hE:=Zh hE)|fail)
 refine hK _ _ (HMs.keep p_) fun hS_=> ?_
 clear hK K hS_
 try go_frame
 replace I:=Zm I p_
 replace HMs:=Zh (HMs.keep p_)
 clear p_
 clear HMs
 refine plStepL rfl rfl fun K hK=> ?_
 go_wp2_with(first|(refine sF 2 I ?_;have hBq:=I.at_ 2 rfl;clear I;intro w4 I hG4;simp only[List.set]at I;replace hE:=Zh (hE.put hBq (by decide) (by decide) hG4.out);clear hBq)|fail)
 refine hK _ _ (I.sub (by repeat(first|exact List.Sublist.refl _|apply List.Sublist.cons_cons|apply List.Sublist.cons))) fun hS_=> ?_
 clear hK K hS_
 try go_frame
 refine plDone ?_
 simp only[List.drop]
 go_wp2_with(first|(refine sF 1 I ?_;have hBq:=I.at_ 1 rfl;clear I;intro w4 I hG4;simp only[List.set]at I;replace hE:=Zh (hE.put hBq (by decide) (by decide) hG4.out);clear hBq)|fail)
 try simp only[Exit.inBlock,Exit.then]
 refine rU I 2 1 uE.out uM.out ?_
 rw[←hP.out]
 exact⟨v2,by rw[hRN.out];rfl,hE.out,I.below⟩
end Tx
end Go.Proofs.YtfamifgchgolpaaGreat
