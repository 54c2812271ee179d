/- bitio's reader: Close; cellmsg: places. -/
import Derived.Test.YtfamifgchgolpaaGreatWc
import Derived.Test.YtfamifgchgolpaaGreatBo
set_option linter.unusedVariables false
set_option linter.unusedSimpArgs false
set_option maxRecDepth 100000
set_option maxHeartbeats 2000000
namespace Go.Proofs.YtfamifgchgolpaaGreat
open Go Go.RowKit Go.Sort Go.Shelf Go.Maps
namespace Cp
open Mm Sw Tx
theorem rdInfo:(Tryz.prog.info? 169).map (fun i=>(i.zero,i.size,i.bytes))=some (some (.agg #[.string ⟨#[]⟩,.int .i64 0,.int .i64 0]),3,32):=by kernel_rfl
theorem zrd:(Tryz.prog.info? 169).map (·.size)=some 3:=by kernel_rfl
theorem wpList_loadX {P:Program} {ops:Array Oper} {rest:List Oper} {op:Oper} {a:Act} {w:World} {Q:Exit→Act→World→Prop} {B:Nat} {C:Array Value} {t:TypeId}(hB:Hid (Blk w B C t))(hw:Region.wanted op (yielded ops a.tmps)=true)(ty:TypeId)(x:Operand)(ho:op.op= .load ty x)
 (hx:a.eval x= .pointer (some ⟨B,0,none⟩)) (d:TypeDesc) (hu:P.underlying ty=some d) (hd:(match d with| .struct _| .array _ _=>true|_=>false)=true)
 (hi:(P.info? ty).map (·.size)=some C.size)
 (h:wpList P ops Q rest (a.put op.dst (.agg C)) w):wpList P ops Q (op::rest) a w:=
 wpList_step fun K hK=>by
  rw[if_pos hw]
  have:=run_loadVar_blk hB.out ty d hu hd hi
  unfold Oper.wp execOp
  simp only[ho,hx,Instr.loadAt,Instr.sureAddr,Sem.run_bind,Sem.run_pure,Result.andThen_ok,this]
  exact hK _ _ h
theorem close1_any(B a R:Nat)(s:ByteArray)(w:World)(hs:s.size≤100000)(hR:RdIs 169 w B s (some a))(hq:8*s.size-a≤7)(hv:val s a (8*s.size-a)=0)(hX:Box w R #[.pointer (some ⟨B,0,none⟩)]):
 Calls Tryz.prog 122 #[.pointer (some ⟨R,0,none⟩)] w fun e w'=>e= .returned (.bool false)∧Below w.heap.size w w':=by
 have I:=Zh (Mem.start w)
 have hb:=Zh hR.1
 have k0:w.cell? ⟨R,0,none⟩=some (.pointer (some ⟨B,0,none⟩)):=hX.at_ 0
 have hsz:a≤8*s.size:=hR.2
 have eL:8*(s.size:Int)-(a:Int)=((8*s.size-a:Nat):Int):=by omega
 have cL:=Zh (fun W (h:RdIs 169 W B s (some a))=>left_any B a s W hs h)
 have cG:=Zh (fun G W (h:RdIs 169 W G s (some a))=>get_any (8*s.size-a) G a s W (by omega) hs h (by omega))
 rw[eL]at cL
 rw[hv]at cG
 generalize 8*s.size-a=L at*
 refine zh4 ?_ hR hX eL hsz;clear hR hX eL hsz;intro hR hX eL hsz
 go_enter Tryz.func122,Tryz.ntmps122
 go_upto_region 2 with(first
  |(refine wpList_loadX hb rfl _ _ rfl rfl _ Tryz.underlying169 rfl (by exact zrd) ?_)
  |(refine aN I rdInfo ?_;clear I;intro g w1 I hG hN9)
  |(refine sF 0 I ?_;clear I;intro w4 I hG4;simp only[List.set]at I)
  |fail)
 replace hR:=Zh (hR.under I.below)
 have k1:w4.cell? ⟨R,0,none⟩=some (.pointer (some ⟨B,0,none⟩)):=(hX.keep I.below).at_ 0
 clear k0
 go_wp2_with fail
 refine(cL _ hR.out).mono ?_
 rintro e w5 ⟨rfl,hb5⟩
 have hrG:=Zh (show RdIs 169 w5 g s (some a)from⟨(I.at_ 0 rfl).keep hb5,hsz.out⟩)
 replace I:=Zh (I.keep hb5)
 clear k1 hb5
 go_wp2_with fail
 refine(cG _ _ hrG.out).mono ?_
 rintro e w6 ⟨rfl,hg6,_⟩
 have hbE:=Zh (I.below.grown hg6 I.below.size (fun k e=>by injection e with e;rw[←e];exact I.ge _ (by exact List.mem_cons_self)))
 clear hg6
 go_wp2_with fail
 go_ret
 exact⟨rfl,hbE.out⟩
theorem close_any(B a:Nat)(s:ByteArray)(w:World)(hs:s.size≤100000)(hR:RdIs 169 w B s (some a))(hq:8*s.size-a≤7)(hv:val s a (8*s.size-a)=0):
 Calls Tryz.prog 56 #[.pointer (some ⟨B,0,none⟩)] w fun e w'=>e= .returned (.int .i64 0)∧Below w.heap.size w w':=by
 have I:=Zh (Mem.start w)
 have hsz:a≤8*s.size:=hR.2
 have cL:=Zh (fun W (h:RdIs 169 W B s (some a))=>left_any B a s W hs h)
 have c1:=Zh (fun R W (h:RdIs 169 W B s (some a)) h2=>close1_any B a R s W hs h hq hv h2)
 have d:(8*(s.size:Int)-(a:Int))<8:=by omega
 clear hv hs
 refine zh3 ?_ hR hsz hq;clear hR hsz hq;intro hR hsz hq
 go_enter Tryz.func56,Tryz.ntmps56
 go_upto_region 1 with fail
 have HM1:=Zh (I.alloc #[.pointer (some ⟨B,0,none⟩)] 99)
 clear I
 generalize w.alloc (.cells #[.pointer (some ⟨B,0,none⟩)] 99)=w1 at*
 generalize w.heap.size=g at HM1 ⊢
 have I:=HM1
 clear HM1
 have kb:w1.cell? ⟨B,2,none⟩=some (.int .i64 0):=(hR.under I.below).1.cell 2
 have kg:=I.cell 0 rfl
 go_upto_region 4 with fail
 go_wp2_with fail
 refine(cL _ (hR.under I.below)).mono ?_
 rintro e w2 ⟨rfl,hb2⟩
 clear kb kg
 replace I:=Zh (I.keep hb2)
 clear hb2
 go_wp2_with fail
 refine(c1 _ _ (hR.under I.below) (.of_blk (I.at_ 0 rfl))).mono ?_
 rintro e w3 ⟨rfl,hb3⟩
 replace I:=Zh (I.keep hb3)
 clear hb3
 go_wp2_with fail
 go_ret
 exact⟨rfl,I.below⟩
end Cp
end Go.Proofs.YtfamifgchgolpaaGreat
