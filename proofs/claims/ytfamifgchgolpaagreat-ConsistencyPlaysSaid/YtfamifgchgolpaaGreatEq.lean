/- Chapter 27: Equal of bools; the example's facts. -/
import Derived.Test.YtfamifgchgolpaaGreatEp
set_option linter.unusedVariables false
set_option linter.unusedSimpArgs false
set_option maxRecDepth 100000
set_option maxHeartbeats 4000000
namespace Go.Proofs.YtfamifgchgolpaaGreat
open Go Go.RowKit Go.Sort Go.Shelf Go.Maps
namespace Tx
open Sw Mm Pl
theorem bool_at {w:World} {b off n:Nat} {xs:List Bool}(h:Sls boolE 1 w (some ⟨b,off,none⟩) n xs) {i:Nat}(hi:i<n):w.cell? ⟨b,off+i,none⟩=some (.bool (xs.getD i default)):=by
 have:=(h.cells hi).2 0 (by omega)
 rw[show off+i*1+0=off+i by omega]at this
 rw[this];rfl
theorem ext_getD {xs ys:List Bool}(hl:xs.length=ys.length)(h:∀i,i<xs.length→xs.getD i default=ys.getD i default):xs=ys:=by
 refine List.ext_getElem hl fun i h1 h2=> ?_
 have:=h i h1
 rwa[List.getD_eq_getElem?_getD,List.getD_eq_getElem?_getD,List.getElem?_eq_getElem h1,List.getElem?_eq_getElem h2]at this
theorem eqBool_any(A B:Option Addr)(n cp m cq:Nat)(xs ys:List Bool)(w:World)(h:Sls boolE 1 w A n xs)(h2:Sls boolE 1 w B m ys):
 Calls Tryz.prog 28 #[.slice A n cp,.slice B m cq] w fun e w'=>e= .returned (.bool (decide (xs=ys)))∧Below w.heap.size w w':=by
 have hlen:=h.len
 have hlen2:=h2.len
 have hs:=h.small
 have hs2:=h2.small
 unfold maxLen at hs hs2
 by_cases hnm:n=m
 case neg=>
  have hR:decide (xs=ys)=false:=decide_eq_false (fun e=>hnm (by rw[←hlen,←hlen2,e]))
  have d1:((n:Int) !=(m:Int))=true:=by rw[bne_iff_ne];omega
  rw[hR]
  replace h:=Zh h
  replace h2:=Zh h2
  replace hlen:=Zh hlen
  replace hlen2:=Zh hlen2
  go_enter Tryz.func28,Tryz.ntmps28
  go_wp2_with fail
  go_ret
  exact⟨rfl,Below.refl _ _⟩
 subst hnm
 have hno:=fun k (hk:k<n) (hh:xs.getD k default≠ys.getD k default)=>(decide_eq_false (fun e=>hh (by rw[e])):decide (xs=ys)=false)
 have hyes:=fun(hh:∀i,i<n→xs.getD i default=ys.getD i default)=>(decide_eq_true (ext_getD (by omega) (fun i hi=>hh i (by omega))):decide (xs=ys)=true)
 generalize decide (xs=ys)=R at*
 replace h:=Zh h
 replace h2:=Zh h2
 replace hlen:=Zh hlen
 replace hlen2:=Zh hlen2
 replace hno:=Zh hno
 replace hyes:=Zh hyes
 go_enter Tryz.func28,Tryz.ntmps28
 go_wp2_with fail
 go_loopw[5,13] (fun _ i wr=>∃k:Nat,k≤n∧i= .int .i64 k∧Hid (∀j,j<k→xs.getD j default=ys.getD j default)∧Hid (Below w.heap.size w wr)) (fun _ i _=>n-(intOf i).toNat)
 case atStart=>exact⟨0,by omega,rfl,fun j hj=>absurd hj (by omega),Below.refl _ _⟩
 case round=>
  obtain⟨k,hkn,rfl,HP,HB⟩:=hrel
  by_cases hlt:k<n
  ·obtain⟨b,off,rfl⟩:=h.out.addr (by omega)
   obtain⟨b2,off2,rfl⟩:=h2.out.addr (by omega)
   have q0:=bool_at (h.out.keep HB.out) hlt
   have r0:=bool_at (h2.out.keep HB.out) hlt
   have hf:=hno.out k hlt
   have hnx:xs.getD k default=ys.getD k default→∀j,j<k+1→xs.getD j default=ys.getD j default:=fun h j hj=>by
    by_cases e:j=k
    ·subst e;exact h
    ·exact HP.out j (by omega)
   generalize xs.getD k default=x at*
   generalize ys.getD k default=y at*
   have g0:=cell_regrown q0
   have u0:=cell_regrown r0
   have r1':(k:Int)<(n:Int):=by omega
   have r0':(0:Int)≤(k:Int):=by omega
   clear q0 r0
   replace hf:=Zh hf
   replace hnx:=Zh hnx
   by_cases t0:x=y
   case neg=>
    have d0:(x==y)=false:=by rw[beq_eq_false_iff_ne];exact t0
    have hh:=hf.out t0
    subst hh
    replace t0:=Zh t0
    go_upto_region 6 with fail
    refine wp_region_quiet_below (by kernel_rfl) (by kernel_rfl) ?_
    repeat(go_big_quiet_step(fail))
    refine wpQuiet_nil ?_
    rintro _ ⟨⟨dq,osq⟩,rfl⟩
    have hb_:=below_regrown wr dq osq
    replace HB:=Zh (HB.out.keep hb_)
    generalize grow (redrawn wr dq) osq=w2 at*
    clear hb_
    go_wp2
    go_ret
    exact⟨rfl,HB.out⟩
   have d0:(x==y)=true:=by rw[beq_iff_eq];exact t0
   have hh:=Zh (hnx.out t0)
   replace t0:=Zh t0
   go_upto_region 6 with fail
   refine wp_region_quiet_below (by kernel_rfl) (by kernel_rfl) ?_
   repeat(go_big_quiet_step(fail))
   refine wpQuiet_nil ?_
   rintro _ ⟨⟨dq,osq⟩,rfl⟩
   have hb_:=below_regrown wr dq osq
   replace HB:=Zh (HB.out.keep hb_)
   generalize grow (redrawn wr dq) osq=w2 at*
   clear hb_
   go_wp2
   go_roundw
   case rel=>exact⟨k+1,by omega,by go_num,hh,HB⟩
   case measure=>simp[intOf];omega
  ·obtain rfl:k=n:=by omega
   have hR:=hyes.out HP.out
   subst hR
   go_wp2
   go_ret
   exact⟨rfl,HB.out⟩
def awA:Ed:=(exN (startE 1 2) (startE 2 1) ⟨1,4,[]⟩ ⟨2,4,[]⟩ [1,1,1,1] 1 1 ⟨false,true,false,false⟩).1
def awB:Ed:=(exN (startE 1 2) (startE 2 1) ⟨1,4,[]⟩ ⟨2,4,[]⟩ [1,1,1,1] 1 1 ⟨false,true,false,false⟩).2.1
def awL:List Wsh:= [⟨false,4,0,⟨false,false,false,false⟩⟩,⟨true,6,0,⟨false,false,false,false⟩⟩]
def awX:Ed:=(playE awA awB ⟨1,4,[]⟩ ⟨2,4,[]⟩ [1,1,1,1] awL).1
def awY:Ed:=(playE awA awB ⟨1,4,[]⟩ ⟨2,4,[]⟩ [1,1,1,1] awL).2
theorem aw27_facts:exC (startE 1 2) (startE 2 1) ⟨1,4,[]⟩ ⟨2,4,[]⟩ [1,1,1,1] 1 1=0∧(exN (startE 1 2) (startE 2 1) ⟨1,4,[]⟩ ⟨2,4,[]⟩ [1,1,1,1] 1 1 ⟨false,true,false,false⟩).2.2= -1∧awA.cells.length=0∧awB.cells.length=1∧consB awA awB=false∧detB awA awB=true∧playC awA awB ⟨1,4,[]⟩ ⟨2,4,[]⟩ awL=0∧playB awA awB ⟨1,4,[]⟩ ⟨2,4,[]⟩ [1,1,1,1] awL= [false,true]∧awX.cells.length=0∧awY.cells.length=0:=by decide+kernel
theorem aw27_free {w:World} {B:Nat} {t:TypeId}(h:Blk w B #[.int .i64 1,.int .i64 1,.int .i64 1,.int .i64 1] t):IntS w (some ⟨B,0,none⟩) 4 [1,1,1,1]where
 len:=rfl
 small:=by unfold maxLen;omega
 at_:=fun _=>⟨B,0,rfl,h.lt,fun i hi j hj=>by
  obtain rfl:j=0:=by omega
  rw[show 0+i*1+0=i by omega,h.cell]
  rcases(by omega:i=0∨i=1∨i=2∨i=3)with rfl|rfl|rfl|rfl<;>rfl⟩
theorem aw27_wish {w:World} {B:Nat} {t:TypeId}(h:Blk w B #[.bool false,.int .i64 4,.int .i64 0,.bool false,.bool false,.bool false,.bool false,.bool true,.int .i64 6,.int .i64 0,.bool false,.bool false,.bool false,.bool false] t):WshS w (some ⟨B,0,none⟩) 2 awL where
 len:=rfl
 small:=by unfold maxLen;omega
 at_:=fun _=>⟨B,0,rfl,h.lt,fun i hi j hj=>by
  rw[h.cell]
  rcases(by omega:i=0∨i=1)with rfl|rfl<;>rcases(by omega:j=0∨j=1∨j=2∨j=3∨j=4∨j=5∨j=6)with rfl|rfl|rfl|rfl|rfl|rfl|rfl<;>rfl⟩
theorem aw27_bools {w:World} {B:Nat} {t:TypeId}(h:Blk w B #[.bool false,.bool true] t):Sls boolE 1 w (some ⟨B,0,none⟩) 2 [false,true]where
 len:=rfl
 small:=by unfold maxLen;omega
 at_:=fun _=>⟨B,0,rfl,h.lt,fun i hi j hj=>by
  rw[h.cell]
  obtain rfl:j=0:=by omega
  rcases(by omega:i=0∨i=1)with rfl|rfl<;>rfl⟩
end Tx
end Go.Proofs.YtfamifgchgolpaaGreat
