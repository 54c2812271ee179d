/- slices.BinarySearchFunc over cells of a table. -/
import Derived.Test.YtfamifgchgolpaaGreatBi
import Derived.Shelf.RegionOpenPlain
import Derived.Lib.Walk
import Derived.Lib.SliceRun
import Derived.Lib.JoinLaws
import Derived.Lib.AppendZeros
import Derived.Lib.AppendZerosOnto
import Derived.Lib.Overlaps
import Derived.Laws.Externs
import Derived.Laws.IdiomCopy
import Derived.Laws.NewBlocks
set_option linter.unusedVariables false
set_option linter.unusedSimpArgs false
set_option maxRecDepth 100000
set_option maxHeartbeats 4000000
namespace Go.Proofs.YtfamifgchgolpaaGreat
open Go Go.RowKit Go.Sort Go.Shelf Go.Maps
namespace Tx
open Sw Mm
def AscN(ls:List TCl):Prop:=∀i j,i<j→j<ls.length→ltT (ls.getD i default) (ls.getD j default)
theorem ascN_of {ls:List TCl}(h:ls.Pairwise ltT):AscN ls:=by
 intro i j hij hj
 rw[List.pairwise_iff_getElem]at h
 have:=h i j (by omega) hj hij
 rwa[List.getD_eq_getElem?_getD,List.getD_eq_getElem?_getD,List.getElem?_eq_getElem hj,List.getElem?_eq_getElem (by omega)]
structure BS(ls:List TCl)(x:TCl)(i:Nat)(f:Bool):Prop where
 le:i≤ls.length
 below:∀j,j<i→ltT (ls.getD j default) x
 above:∀j,i≤j→j<ls.length→¬ltT (ls.getD j default) x
 found:f=(decide (i<ls.length)&&decide (cmpT (ls.getD i default) x=0))
def BSPost(ls:List TCl)(x:TCl)(w:World)(e:Ending)(w':World):Prop:=∃i f,BS ls x i f∧e= .returned (.tuple #[.int .i64 (i:Int),.bool f])∧Below w.heap.size w w'
theorem mid_lt {i j:Nat}(h:i<j):i≤(i+j)/2∧(i+j)/2<j:=by omega
theorem search_any(A:Option Addr)(n c:Nat)(ls:List TCl)(x:TCl)(w:World)(hs:TclS w A n ls)(ha:AscN ls)(hn:n≤1000):
 Calls Tryz.prog 139 #[.slice A n c,.agg #[.int .i64 x.slot,.int .i64 x.off,.int .i64 x.kind,.bool x.send,.int .i64 x.peer,.int .i64 x.flow],.func (.func 81) #[] #[]] w (BSPost ls x w):=by
 have I:=Zh (Mem.start w)
 obtain⟨x0,x1,x2,x3,x4,x5⟩:=x
 dsimp only
 have hln:=hs.len
 refine zh3 ?_ hln hs ha;clear hln hs ha;intro hln hs ha
 go_enter Tryz.func139,Tryz.ntmps139
 go_upto_region 1 with(refine bA I _ ?_;clear I;intro g w1 I hG;clear hG)
 go_wp2
 go_loopw[9,10,11] (fun i j _ wr=>∃i' j':Nat,i'≤j'∧j'≤n∧i= .int .i64 i'∧j= .int .i64 j'∧Hid (∀k,k<i'→ltT (ls.getD k default) ⟨x0,x1,x2,x3,x4,x5⟩)∧Hid (∀k,j'≤k→k<n→¬ltT (ls.getD k default) ⟨x0,x1,x2,x3,x4,x5⟩)∧Hid (Mem w wr [(g,#[.int .i64 x0,.int .i64 x1,.int .i64 x2,.bool x3,.int .i64 x4,.int .i64 x5],85)])) (fun i j _ _=>(intOf j).toNat-(intOf i).toNat)
 case atStart=>exact⟨0,n,by omega,by omega,rfl,rfl,fun k hk=>absurd hk (by omega),fun k h1 h2=>absurd h2 (by omega),I⟩
 case round=>
  clear I
  obtain⟨i,j,hij,hjn,rfl,rfl,HL,HG,I⟩:=hrel
  by_cases hlt:i<j
  ·obtain⟨m,hm⟩:∃m:Nat,m=(i+j)/2:=⟨_,rfl⟩
   obtain⟨hm1,hm2⟩:=mid_lt hlt
   rw[←hm]at hm1 hm2
   have q0:((i:Int)+(j:Int))/2=(m:Int):=by omega
   replace hm:=Zh hm
   obtain⟨b,off,rfl⟩:=hs.addr (by omega)
   have hmn:m<n:=by omega
   have hx:=tcl_at (hs.keep I.below) hmn
   have hge:∀k,k<n→ltT (ls.getD k default) (ls.getD m default)∨k=m∨ltT (ls.getD m default) (ls.getD k default):=fun k hk=>by
    have hl:=hln.out
    rcases Nat.lt_trichotomy k m with h|h|h
    ·exact .inl (ha k m h (by omega))
    ·exact .inr (.inl h)
    ·exact .inr (.inr (ha m k h (by omega)))
   generalize hy:ls.getD m default=y at*
   have hy2:=Zh hy
   clear hy
   obtain⟨e0,e1,e2,e3,e4,e5⟩:=y
   obtain⟨p0,p1,p2,p3,p4,p5⟩:=hx
   dsimp only at p0 p1 p2 p3 p4 p5
   replace hge:=Zh hge
   go_wp2_with fail
   clear q0
   have g0:=cell_regrown p0
   have g1:=cell_regrown p1
   have g2:=cell_regrown p2
   have g3:=cell_regrown p3
   have g4:=cell_regrown p4
   have g5:=cell_regrown p5
   have gx:=(I.at_ 0 rfl).box.grown
   have r1:(m:Int)<(n:Int):=by omega
   have cs:∀d os,Calls Tryz.prog 81 #[.agg #[.int .i64 e0,.int .i64 e1,.int .i64 e2,.bool e3,.int .i64 e4,.int .i64 e5],.agg #[.int .i64 x0,.int .i64 x1,.int .i64 x2,.bool x3,.int .i64 x4,.int .i64 x5]] (grow (redrawn wr d) os) fun e w''=>e= .returned (.int .i64 (cmpT ⟨e0,e1,e2,e3,e4,e5⟩ ⟨x0,x1,x2,x3,x4,x5⟩))∧∃p:Regrown,w''=grow (redrawn wr p.d) p.os:=
    fun d os=>Calls.regrown_of (cmpT_any ⟨e0,e1,e2,e3,e4,e5⟩ ⟨x0,x1,x2,x3,x4,x5⟩ _)
   replace cs:=Zh cs
   have hcn:=cmpT_neg ⟨e0,e1,e2,e3,e4,e5⟩ ⟨x0,x1,x2,x3,x4,x5⟩
   generalize cmpT ⟨e0,e1,e2,e3,e4,e5⟩ ⟨x0,x1,x2,x3,x4,x5⟩=V at*
   replace hcn:=Zh hcn
   clear p0 p1 p2 p3 p4 p5
   refine wp_region_quiet_below (by kernel_rfl) (by kernel_rfl) ?_
   repeat(go_big_quiet_step(exact cs.out _ _))
   refine wpQuiet_nil ?_
   rintro _ ⟨⟨dq,osq⟩,rfl⟩
   have p_:=below_regrown wr dq osq
   replace I:=Zm I p_
   generalize grow (redrawn wr dq) osq=w4 at*
   clear p_
   clear g0 g1 g2 g3 g4 g5 gx r1 cs
   by_cases c:V<0
   ·have HL2:Hid (∀k,k<m+1→ltT (ls.getD k default) ⟨x0,x1,x2,x3,x4,x5⟩):=fun k hk=>by
     have h0:=hcn.1 c
     by_cases e:k=m
     ·subst e;rw[hy2.out];exact h0
     ·have h1:=ha.out k m (by omega) (by have:=hln.out;omega)
      rw[hy2.out]at h1
      exact ltT_trans h1 h0
    go_wp2
    go_roundw
    case rel=>exact⟨m+1,j,by omega,by omega,by go_num,rfl,HL2,HG,I⟩
    case measure=>simp[intOf];omega
   ·have HG2:Hid (∀k,m≤k→k<n→¬ltT (ls.getD k default) ⟨x0,x1,x2,x3,x4,x5⟩):=fun k h1 h2=>by
     have h0:¬ltT (⟨e0,e1,e2,e3,e4,e5⟩:TCl) ⟨x0,x1,x2,x3,x4,x5⟩:=fun h=>c (hcn.2 h)
     by_cases e:k=m
     ·subst e;rw[hy2.out];exact h0
     ·intro hn
      have h3:=ha.out m k (by omega) (by have:=hln.out;omega)
      rw[hy2.out]at h3
      exact h0 (ltT_trans h3 hn)
    go_wp2
    go_roundw
    case rel=>exact⟨i,m,by omega,by omega,rfl,rfl,HL,HG2,I⟩
    case measure=>simp[intOf];omega
  ·have e:j=i:=by omega
   subst e
   by_cases hin:j<n
   ·obtain⟨b,off,rfl⟩:=hs.addr (by omega)
    have hx:=tcl_at (hs.keep I.below) hin
    generalize hy:ls.getD j default=y at*
    have hy2:=Zh hy
    clear hy
    obtain⟨e0,e1,e2,e3,e4,e5⟩:=y
    obtain⟨p0,p1,p2,p3,p4,p5⟩:=hx
    dsimp only at p0 p1 p2 p3 p4 p5
    go_wp2_with fail
    have g0:=cell_regrown p0
    have g1:=cell_regrown p1
    have g2:=cell_regrown p2
    have g3:=cell_regrown p3
    have g4:=cell_regrown p4
    have g5:=cell_regrown p5
    have gx:=(I.at_ 0 rfl).box.grown
    have r1:(j:Int)<(n:Int):=by omega
    have r2:decide ((j:Int)<(n:Int))=true:=by simpa using r1
    have cs:∀d os,Calls Tryz.prog 81 #[.agg #[.int .i64 e0,.int .i64 e1,.int .i64 e2,.bool e3,.int .i64 e4,.int .i64 e5],.agg #[.int .i64 x0,.int .i64 x1,.int .i64 x2,.bool x3,.int .i64 x4,.int .i64 x5]] (grow (redrawn wr d) os) fun e w''=>e= .returned (.int .i64 (cmpT ⟨e0,e1,e2,e3,e4,e5⟩ ⟨x0,x1,x2,x3,x4,x5⟩))∧∃p:Regrown,w''=grow (redrawn wr p.d) p.os:=
     fun d os=>Calls.regrown_of (cmpT_any ⟨e0,e1,e2,e3,e4,e5⟩ ⟨x0,x1,x2,x3,x4,x5⟩ _)
    replace cs:=Zh cs
    have HS:Hid (BS ls ⟨x0,x1,x2,x3,x4,x5⟩ j (cmpT ⟨e0,e1,e2,e3,e4,e5⟩ ⟨x0,x1,x2,x3,x4,x5⟩==0)):=by
     refine⟨by have:=hln.out;omega,HL.out,fun k h1 h2=>HG.out k h1 (by have:=hln.out;omega),?_⟩
     have:j<ls.length:=by have:=hln.out;omega
     rw[hy2.out];simp[this];rfl
    generalize cmpT ⟨e0,e1,e2,e3,e4,e5⟩ ⟨x0,x1,x2,x3,x4,x5⟩=V at*
    clear p0 p1 p2 p3 p4 p5
    refine wp_region_quiet_below (by kernel_rfl) (by kernel_rfl) ?_
    repeat(go_big_quiet_step(exact cs.out _ _))
    refine wpQuiet_nil ?_
    rintro _ ⟨⟨dq,osq⟩,rfl⟩
    have p_:=below_regrown wr dq osq
    replace I:=Zm I p_
    generalize grow (redrawn wr dq) osq=w4 at*
    clear p_
    clear g0 g1 g2 g3 g4 g5 gx r1 r2 cs
    go_wp2
    refine bodyPost_ret (v:= .tuple #[.int .i64 (j:Int),.bool (V==0)]) (by simp[results,Tryz.results139,go_sem]) rfl ⟨j,_,HS.out,rfl,I.below⟩
   ·have r2:decide ((j:Int)<(n:Int))=false:=by rw[decide_eq_false_iff_not];omega
    have r3:decide (j<n)=false:=by rw[decide_eq_false_iff_not];omega
    have gx:=(I.at_ 0 rfl).box.grown
    go_wp2_with fail
    refine wp_region_quiet_below (by kernel_rfl) (by kernel_rfl) ?_
    repeat(go_big_quiet_step(fail))
    refine wpQuiet_nil ?_
    rintro _ ⟨⟨dq,osq⟩,rfl⟩
    have p_:=below_regrown wr dq osq
    replace I:=Zm I p_
    generalize grow (redrawn wr dq) osq=w4 at*
    clear p_
    clear gx r2 r3
    have HS:Hid (BS ls ⟨x0,x1,x2,x3,x4,x5⟩ j false):=by
     refine⟨by have:=hln.out;omega,HL.out,fun k h1 h2=>HG.out k h1 (by have:=hln.out;omega),?_⟩
     have:¬j<ls.length:=by have:=hln.out;omega
     simp[this]
    go_wp2
    refine bodyPost_ret (v:= .tuple #[.int .i64 (j:Int),.bool false]) (by simp[results,Tryz.results139,go_sem]) rfl ⟨j,_,HS.out,rfl,I.below⟩
open Go.Lib
section
variable {P:Program}
theorem run_copy_k(w:World)(dT sT ty elem:TypeId)(k b o dLen dCap:Nat)(a:Addr)(sLen sCap m:Nat)(cs:List Value)
 (hu:P.underlying dT=some (.slice elem)) (hs:(P.info? elem).map (·.size)=some k) (hn:Nat.min sLen dLen=m) (hl:cs.length=m*k)
 (hsrc:∀j v,cs[j]? =some v→w.cell? (a.add j)=some v) (hc:∀j,j<cs.length→(w.cell? ⟨b,o+j,none⟩).isSome=true) (hf:∀j,j<cs.length→w.frozen? ⟨b,o+j,none⟩=false) (h1:∀v∈cs,v.oneCell'=true):
 (Builtin.copy_ #[dT,sT] ty #[.slice (some ⟨b,o,none⟩) dLen dCap,.slice (some a) sLen sCap]).run P w= .ok (goInt m) (w.setCells b o cs):=by
 have hl2:=run_loadCells_list (P:=P) w a cs hsrc
 have hst:=run_storeCells_cells (P:=P) b o cs 0 w (by simpa using hc) (by simpa using hf) h1
 rw[hl]at hl2
 cases hq:P.info? elem with
 |none=>simp[hq]at hs
 |some i=>
  have hi:i.size=k:=by simpa[hq]using hs
  simp[Builtin.copy_,run_underlying hu,Builtin.lenOf,Builtin.firstCells,sizeOf,typeInfo,hq,hi,hn,hl2,hst]
theorem wp_copy_runI(w:World) {o:Oper} {a:Act} {K:Act→World→Prop} {Q:Exit→Act→World→Prop}(d s:Operand)(t t':TypeId)
 (ho:o.op= .call { callee:= .builtin .copy,args:=#[d,s],argTypes:=#[t,t']}) (v u:Value) (hd:a.eval d=v) (hs:a.eval s=u) {v':Value} {w':World}
 (hr:(Builtin.copy_ #[t,t'] o.type #[v,u]).run P w= .ok v' w') (h:K (a.put o.dst v') w'):o.wp P a w K Q:=by
 unfold Oper.wp execOp
 simp only[ho,resolve,invoke,builtin,Sem.run_bind,Sem.run_pure,Result.andThen_ok,List.map_toArray,List.map_cons,List.map_nil,hd,hs,hr]
 exact h
theorem wpList_copy_runI(w:World) {ops:Array Oper} {rest:List Oper} {o:Oper} {a:Act} {Q:Exit→Act→World→Prop}(hgd:o.guard=none)(d s:Operand)(t t':TypeId)
 (ho:o.op= .call { callee:= .builtin .copy,args:=#[d,s],argTypes:=#[t,t']}) (v u:Value) (hd:a.eval d=v) (hs:a.eval s=u) {v':Value} {w':World}
 (hr:(Builtin.copy_ #[t,t'] o.type #[v,u]).run P w= .ok v' w') (h:wpList P ops Q rest (a.put o.dst v') w'):wpList P ops Q (o::rest) a w:=
 wpList_plain hgd fun _ hK=>wp_copy_runI w d s t t' ho v u hd hs hr (hK _ _ h)
theorem step_copy_runI {ops:Array Oper} {o:Oper} {a:Act} {w:World} {K:Act→World→Prop} {Q:Exit→Act→World→Prop} {E:Prop}
 (hg:o.guard=none) (d x:Operand) (dT sT:TypeId) (hop:o.op=Op.call { callee:=Callee.builtin Builtin.copy,args:=#[d,x],argTypes:=#[dT,sT]})
 (v u:Value) (hd:a.eval d=v) (hx:a.eval x=u) {v':Value} {w':World} (hr:(Builtin.copy_ #[dT,sT] o.type #[v,u]).run P w= .ok v' w') (hK:K (a.put o.dst v') w'):
 if Region.wanted o (yielded ops a.tmps)=true then Oper.wp P o a w K Q else E:=
 step_of hg (wp_copy_runI w d x dT sT hop v u hd hx hr hK)
end
theorem isSome_setCells(b:Nat)(vs:List Value)(o:Nat)(w:World)(h:∀j,j<vs.length→(w.cell? ⟨b,o+j,none⟩).isSome=true)(k:Nat)(hk:(w.cell? ⟨b,k,none⟩).isSome=true):((w.setCells b o vs).cell? ⟨b,k,none⟩).isSome=true:=by
 by_cases hin:o≤k∧k<o+vs.length
 ·have:=World.cell?_setCells_in b vs o w h (k-o) (by omega)
  rw[show o+(k-o)=k by omega]at this
  rw[this];rfl
 ·rw[World.cell?_setCells_out b vs o w ⟨b,k,none⟩ (fun _ _=>by show k<o∨o+vs.length≤k;omega)]
  exact hk
theorem ins_shift(b n c i vb m vc:Nat)(cs vs:List Value)(w:World)(hi:i<n)(hm:0<m)(hroom:n+m≤c)(hc63:c≤9223372036854775807)(hvb:vb≠b)
 (hcl:cs.length=n*6) (hvl:vs.length=m*6)
 (hcs:∀j v,cs[j]? =some v→w.cell? ⟨b,j,none⟩=some v) (hsp:∀j,j<(n+m)*6→(w.cell? ⟨b,j,none⟩).isSome=true) (hfz:∀j,w.frozen? ⟨b,j,none⟩=false)
 (hvs:∀j v,vs[j]? =some v→w.cell? ⟨vb,j,none⟩=some v) (h1c:∀v∈cs,v.oneCell'=true) (h1v:∀v∈vs,v.oneCell'=true)
 (tA tB:TypeId) (kA kB:Nat) (hsa:w.shape? vb=some (tA,kA)) (hsb:w.shape? b=some (tB,kB)) (hkB:kB≠0) (hfa:w.frozen? ⟨vb,0,none⟩=false) (hfe:w.frozen? ⟨vb,kA,none⟩=false):
 Calls Tryz.prog 140 #[.slice (some ⟨b,0,none⟩) n c,.int .i64 i,.slice (some ⟨vb,0,none⟩) m vc] w fun e w'=>
  e= .returned (.slice (some ⟨b,0,none⟩) (n+m) c)∧w'=(w.drew.setCells b ((i+m)*6) (cs.drop (i*6))).setCells b (i*6) vs:=by
 have mixed:Tryz.prog.follows .mixedOrders=true:=by kernel_rfl
 have hz1:¬((m:Int)=0):=by omega
 have hz2:¬((i:Int)=(n:Int)):=by omega
 have hsz:=ztcl
 have hU:=Tryz.underlying27
 have hov:∀lb cb,(callFunc 198 #[.slice (some ⟨vb,0,none⟩) m vc,.slice (some ⟨b,(i+m)*6,none⟩) lb cb]).run Tryz.prog w= .ok (.value (.bool false)) w:=fun lb cb=>by
  rw[run_callFunc_extern Tryz.func198 (by kernel_rfl) (by kernel_rfl) (by kernel_rfl) (e:=Extern.SlicesOverlaps.overlaps #[27,27] #[4]) (by kernel_rfl),
   Lib.run_overlaps_apart w 27 4 85 hU 6 Tryz.sizeOf85 ⟨vb,0,none⟩ ⟨b,(i+m)*6,none⟩ m vc lb cb hvb tA tB kA kB hsa hsb hkB hfa hfe]
  rfl
 have hdl:(cs.drop (i*6)).length=(n-i)*6:=by rw[List.length_drop,hcl];omega
 have hw1:IntKind.i64.wrap ((i:Int)+(m:Int))=(i:Int)+(m:Int):=by rw[IntKind.wrap_i64];omega
 have hb1:(0:Int)≤(i:Int)+(m:Int):=by omega
 have hin:i≤n:=by omega
 have htn:((i:Int)+(m:Int)).toNat=i+m:=by omega
 have hb2:¬(c=i+m):=by omega
 have hb3:(i:Int)≤(n:Int)+(m:Int):=by omega
 have hb4:¬(c=i):=by omega
 have hcp1:∀ty dc sc,(Builtin.copy_ #[27,27] ty #[.slice (some ⟨b,(i+m)*6,none⟩) (n+m-(i+m)) dc,.slice (some ⟨b,i*6,none⟩) (n+m-i) sc]).run Tryz.prog w.drew= .ok (goInt (n-i:Nat)) (w.drew.setCells b ((i+m)*6) (cs.drop (i*6))):=fun ty dc sc=>
  run_copy_k w.drew _ _ ty 85 6 b ((i+m)*6) (n+m-(i+m)) dc ⟨b,i*6,none⟩ (n+m-i) sc (n-i) (cs.drop (i*6)) hU hsz (by simp only[Nat.min_def];split<;>omega) hdl
   (fun j v hj=>by rw[Addr.add_lit];exact hcs (i*6+j) v (by rwa[List.getElem?_drop]at hj))
   (fun j hj=>hsp _ (by omega)) (fun j hj=>hfz _) (fun v hv=>h1c v (List.mem_of_mem_drop hv))
 obtain⟨W1,hW1⟩:∃W1,W1=w.drew.setCells b ((i+m)*6) (cs.drop (i*6)):=⟨_,rfl⟩
 have hsp1:∀k,k<(n+m)*6→(W1.cell? ⟨b,k,none⟩).isSome=true:=fun k hk=>by
  rw[hW1]
  exact isSome_setCells b (cs.drop (i*6)) ((i+m)*6) w.drew (fun j hj=>hsp _ (by omega)) k (hsp k hk)
 have hcp2:∀(W:World),(∀x,W.cell? x=W1.cell? x)→(∀x,W.frozen? x=W1.frozen? x)→∀ty dc,(Builtin.copy_ #[27,27] ty #[.slice (some ⟨b,i*6,none⟩) (n+m-i) dc,.slice (some ⟨vb,0,none⟩) m vc]).run Tryz.prog W= .ok (goInt (m:Nat)) (W.setCells b (i*6) vs):=fun W hWc hWf ty dc=>
  run_copy_k W _ _ ty 85 6 b (i*6) (n+m-i) dc ⟨vb,0,none⟩ m vc m vs hU hsz (by simp only[Nat.min_def];split<;>omega) hvl
   (fun j v hj=>by
    rw[Addr.add_lit,hWc,hW1,World.cell?_setCells_out b _ _ _ _ (fun h _=>absurd h hvb),Nat.zero_add]
    exact hvs j v hj)
   (fun j hj=>by rw[hWc];exact hsp1 _ (by omega)) (fun j hj=>by rw[hWf,hW1,World.frozen?_setCells];exact hfz _) h1v
 rw[←hW1]at hcp1
 clear hsp hfz hcs hvs h1c h1v hsp1
 go_enter Tryz.func140,Tryz.ntmps140
 go_wp2_with(simp only[hov])
 go_region_law_o(refine step_copy_runI rfl _ _ 27 27 rfl _ _ (by simp[Act.eval,Act.put]) (by simp[Act.eval,Act.put]) (hcp1 _ _ _) ?_)
 go_wp2_with(at_builtin;refine wpList_copy_runI _ rfl _ _ 27 27 rfl _ _ rfl rfl (hcp2 _ (fun _=>rfl) (fun _=>rfl) _ _) ?_)
 go_ret
 first|exact⟨rfl,rfl⟩|exact⟨rfl,by rw[hW1]⟩
theorem ins_grow(b n c i vb m vc:Nat)(cs vs:List Value)(w:World)(hi:i<n)(hm:0<m)(hnc:n≤c)(hroom:c<n+m)(hbig:(n+m)*48≤140737488355328)
 (hcl:cs.length=n*6) (hvl:vs.length=m*6)
 (hcs:∀j v,cs[j]? =some v→w.cell? ⟨b,j,none⟩=some v)
 (hvs:∀j v,vs[j]? =some v→w.cell? ⟨vb,j,none⟩=some v) (h1c:∀v∈cs,v.oneCell'=true) (h1v:∀v∈vs,v.oneCell'=true):
 Calls Tryz.prog 140 #[.slice (some ⟨b,0,none⟩) n c,.int .i64 i,.slice (some ⟨vb,0,none⟩) m vc] w fun e w'=>
  ∃G Z,n+m≤G∧G≤maxLen∧Z.length=(G-i)*6∧e= .returned (.slice (some ⟨w.heap.size,0,none⟩) (n+m) G)∧
  w'=(((w.alloc (.cells ((cs.take (i*6))++Z).toArray 85)).drew.setCells w.heap.size (i*6) vs).drew).setCells w.heap.size ((i+m)*6) (cs.drop (i*6)):=by
 have hU:=Tryz.underlying27
 have hUi:=Tryz.underlying3
 obtain⟨i0,hi0,hz0,hzs,hzb⟩:=info_parts info_tcl
 have mixed:Tryz.prog.follows .mixedOrders=true:=by kernel_rfl
 have hz1:¬((m:Int)=0):=by omega
 have hz2:¬((i:Int)=(n:Int)):=by omega
 have hz3:(c:Int)<(n:Int)+(m:Int):=by omega
 have hsz:=ztcl
 have hbw:b<w.heap.size:=World.block_lt_of_cell? w ⟨b,0,none⟩ (hcs 0 _ (List.getElem?_eq_getElem (by omega)))
 have hvw:vb<w.heap.size:=World.block_lt_of_cell? w ⟨vb,0,none⟩ (hvs 0 _ (List.getElem?_eq_getElem (by omega)))
 have hkk:(n:Int)+(m:Int)-(i:Int)=((n+m-i:Nat):Int):=by omega
 have hik:i+(n+m-i)=n+m:=by omega
 have hold:(Builtin.firstCells i0.size i (.slice (some ⟨b,0,none⟩) i c)).run Tryz.prog w.drew= .ok (cs.take (i*6)).toArray w.drew:=by
  rw[hzs]
  exact run_firstCells_some w.drew 6 i ⟨b,0,none⟩ i c (cs.take (i*6)) (by rw[List.length_take];omega) (fun j v hj=>by
   rw[Addr.add_lit,Nat.zero_add]
   rw[List.getElem?_take]at hj
   split at hj
   ·exact hcs j v hj
   ·cases hj)
 obtain⟨G,hG⟩:∃G,G=grownCap w (n+m) c 85:=⟨_,rfl⟩
 have hGn:n+m≤G:=by rw[hG];exact grownCap_ge w _ _ _
 obtain⟨Z,hZ⟩:∃Z:List Value,Z=(Builtin.zeroCells (Value.agg #[.int .i64 0,.int .i64 0,.int .i64 0,.bool false,.int .i64 0,.int .i64 0]).cells (n+m-i)).toList++(Builtin.zeroCells (Value.agg #[.int .i64 0,.int .i64 0,.int .i64 0,.bool false,.int .i64 0,.int .i64 0]).cells (G-(n+m))).toList:=⟨_,rfl⟩
 have hZl:Z.length=(G-i)*6:=by
  rw[hZ,List.length_append,zeroCells_len,zeroCells_len]
  show _*6+ _*6= _
  omega
 obtain⟨ROW,hROW⟩:∃ROW:Array Value,ROW=(cs.take (i*6)++Z).toArray:=⟨_,rfl⟩
 have hrz:∀ty,(Builtin.append_ #[27,3] ty #[.slice (some ⟨b,0,none⟩) i c,.int .i64 ((n:Int)+(m:Int)-(i:Int))]).run Tryz.prog w=
  .ok (.slice (some ⟨w.heap.size,0,none⟩) (n+m) G) (w.drew.alloc (.cells ROW 85)):=fun ty=>by
  have h:=Lib.run_append_grow_zeros w 27 3 ty 85 i0 _ .i64 .i64 hU hUi hi0 hz0 (some ⟨b,0,none⟩) i c (cs.take (i*6)) hold (n+m-i) (by omega) (by omega) (by omega) (by omega) (by rw[hzb];omega) (by rw[hzb,hik];exact growslice_fits hroom hbig)
  rw[hik,←hG]at h
  rw[hkk]
  have he:((cs.take (i*6)).toArray++Builtin.zeroCells (Value.agg #[.int .i64 0,.int .i64 0,.int .i64 0,.bool false,.int .i64 0,.int .i64 0]).cells (n+m-i)++Builtin.zeroCells (Value.agg #[.int .i64 0,.int .i64 0,.int .i64 0,.bool false,.int .i64 0,.int .i64 0]).cells (G-(n+m)))=ROW:=by
   rw[hROW,hZ]
   apply Array.toList_inj.1
   simp
  rw[he]at h
  exact h
 have hRl:(n+m)*6≤ROW.size:=by
  rw[hROW,List.size_toArray,List.length_append,hZl,List.length_take]
  omega
 have hG63:G≤maxLen:=by rw[hG];exact grownCap_le_maxLen w (n+m) c 85 (by unfold maxLen;omega)
 refine Calls.mono (R:=fun e w'=>e= .returned (.slice (some ⟨w.heap.size,0,none⟩) (n+m) G)∧w'=(((w.alloc (.cells ROW 85)).drew.setCells w.heap.size (i*6) vs).drew).setCells w.heap.size ((i+m)*6) (cs.drop (i*6))) ?_ (fun e w' ⟨h1,h2⟩=>⟨G,Z,hGn,hG63,hZl,h1,by rw[h2,hROW]⟩)
 unfold maxLen at hG63
 obtain⟨W1,hW1⟩:∃W1,W1=w.drew.alloc (.cells ROW 85):=⟨_,rfl⟩
 rw[←hW1]at hrz
 have hN:∀j,j<(n+m)*6→(W1.cell? ⟨w.heap.size,j,none⟩).isSome=true:=fun j hj=>by
  rw[hW1,World.cell?_alloc_at (w:=w.drew) ROW _ w.heap.size j rfl,Array.getElem?_eq_getElem (by omega)];rfl
 have hNf:∀j,W1.frozen? ⟨w.heap.size,j,none⟩=false:=fun j=>by rw[hW1];exact World.frozen?_alloc_at (w:=w.drew) ROW _ w.heap.size j rfl
 have hOb:∀j v,w.cell? ⟨b,j,none⟩=some v→W1.cell? ⟨b,j,none⟩=some v:=fun j v h=>by rw[hW1,World.cell?_alloc_past (w:=w.drew) _ b j hbw];exact h
 have hOv:∀j v,w.cell? ⟨vb,j,none⟩=some v→W1.cell? ⟨vb,j,none⟩=some v:=fun j v h=>by rw[hW1,World.cell?_alloc_past (w:=w.drew) _ vb j hvw];exact h
 have hcpA:∀(W:World),(∀x,W.cell? x=W1.cell? x)→(∀x,W.frozen? x=W1.frozen? x)→∀ty dc,(Builtin.copy_ #[27,27] ty #[.slice (some ⟨w.heap.size,i*6,none⟩) (n+m-i) dc,.slice (some ⟨vb,0,none⟩) m vc]).run Tryz.prog W= .ok (goInt (m:Nat)) (W.setCells w.heap.size (i*6) vs):=fun W hWc hWf ty dc=>
  run_copy_k W _ _ ty 85 6 w.heap.size (i*6) (n+m-i) dc ⟨vb,0,none⟩ m vc m vs hU hsz (by simp only[Nat.min_def];split<;>omega) hvl
   (fun j v hj=>by rw[Addr.add_lit,hWc,Nat.zero_add];exact hOv _ v (hvs j v hj))
   (fun j hj=>by rw[hWc];exact hN _ (by omega)) (fun j hj=>by rw[hWf];exact hNf _) h1v
 have hGi:¬(G=i):=by omega
 have hGim:¬(G=i+m):=by omega
 have hci:¬(c=i):=by omega
 have hbN:b≠w.heap.size:=by omega
 have hdl:(cs.drop (i*6)).length=(n-i)*6:=by rw[List.length_drop,hcl];omega
 have hcpB:∀(W:World),(∀x,W.cell? x=(W1.setCells w.heap.size (i*6) vs).cell? x)→(∀x,W.frozen? x=(W1.setCells w.heap.size (i*6) vs).frozen? x)→∀ty dc sc,(Builtin.copy_ #[27,27] ty #[.slice (some ⟨w.heap.size,(i+m)*6,none⟩) (n+m-(i+m)) dc,.slice (some ⟨b,i*6,none⟩) (n-i) sc]).run Tryz.prog W= .ok (goInt (n-i:Nat)) (W.setCells w.heap.size ((i+m)*6) (cs.drop (i*6))):=fun W hWc hWf ty dc sc=>
  run_copy_k W _ _ ty 85 6 w.heap.size ((i+m)*6) (n+m-(i+m)) dc ⟨b,i*6,none⟩ (n-i) sc (n-i) (cs.drop (i*6)) hU hsz (by simp only[Nat.min_def];split<;>omega) hdl
   (fun j v hj=>by
    rw[Addr.add_lit,hWc,World.cell?_setCells_out _ _ _ _ _ (fun h _=>absurd h hbN)]
    exact hOb _ v (hcs (i*6+j) v (by rwa[List.getElem?_drop]at hj)))
   (fun j hj=>by rw[hWc];exact isSome_setCells _ vs (i*6) _ (fun t ht=>hN _ (by omega)) _ (hN _ (by omega)))
   (fun j hj=>by rw[hWf,World.frozen?_setCells];exact hNf _) (fun v hv=>h1c v (List.mem_of_mem_drop hv))
 subst hW1
 have hE1:∀x,((w.alloc (.cells ROW 85)).drew).cell? x=(w.drew.alloc (.cells ROW 85)).cell? x:=fun x=>rfl
 have hE2:∀x,((w.alloc (.cells ROW 85)).drew).frozen? x=(w.drew.alloc (.cells ROW 85)).frozen? x:=fun x=>rfl
 have hF1:∀x,(((w.alloc (.cells ROW 85)).drew.setCells w.heap.size (i*6) vs).drew).cell? x=((w.drew.alloc (.cells ROW 85)).setCells w.heap.size (i*6) vs).cell? x:=fun x=>rfl
 have hF2:∀x,(((w.alloc (.cells ROW 85)).drew.setCells w.heap.size (i*6) vs).drew).frozen? x=((w.drew.alloc (.cells ROW 85)).setCells w.heap.size (i*6) vs).frozen? x:=fun x=>rfl
 have hw1:IntKind.i64.wrap ((i:Int)+(m:Int))=(i:Int)+(m:Int):=by rw[IntKind.wrap_i64];omega
 have hb1:(0:Int)≤(i:Int)+(m:Int):=by omega
 have hin:i≤n:=by omega
 have htn:((i:Int)+(m:Int)).toNat=i+m:=by omega
 have hb3:(i:Int)≤(n:Int):=by omega
 clear hkk hik hold hROW hG hRl hcs hvs h1c h1v hN hNf hOb hOv hi0 hz0 hzs hzb hZ hZl
 go_enter Tryz.func140,Tryz.ntmps140
 go_wp2_with(first
  |(at_builtin;refine Lib.wpList_append_run _ rfl _ _ _ _ rfl _ _ rfl rfl _ _ (hrz _) ?_)
  |(at_builtin;refine wpList_copy_runI _ rfl _ _ 27 27 rfl _ _ rfl rfl (hcpA _ hE1 hE2 _ _) ?_)
  |(at_builtin;refine wpList_copy_runI _ rfl _ _ 27 27 rfl _ _ rfl rfl (hcpB _ (fun _=>rfl) (fun _=>rfl) _ _ _) ?_))
 go_region_law_o(refine step_copy_runI rfl _ _ 27 27 rfl (.slice (some ⟨w.heap.size,(i+m)*6,none⟩) (n+m-(i+m)) (G-(i+m))) (.slice (some ⟨b,i*6,none⟩) (n-i) (c-i)) (by simp[Act.eval,Act.put]) (by simp[Act.eval,Act.put]) (hcpB _ hF1 hF2 85 (G-(i+m)) (c-i)) ?_)
 go_wp2
 go_ret
 exact⟨rfl,rfl⟩
theorem fm_drop {α:Type} {enc:α→List Value} {k:Nat}(hk:∀x,(enc x).length=k)(xs:List α)(m:Nat):(xs.flatMap enc).drop (m*k)=(xs.drop m).flatMap enc:=by
 induction xs generalizing m with
 |nil=>simp
 |cons x xs ih=>
  cases m with
  |zero=>simp
  |succ m=>
   rw[List.flatMap_cons,List.drop_succ_cons,←ih m]
   rw[show(m+1)*k=(enc x).length+m*k by rw[hk,Nat.add_mul];omega,List.drop_append]
   simp
theorem mid_take {L A vs D:List Value} {o d N:Nat}(hA:A=L.take o)(hv:vs.length=d)(hD:o+d+D.length=N)(hN:N≤L.length)(hd:0<d):
 (setL (setL L (o+d) D) o vs).take N=A++vs++D∧(setL (setL L o vs) (o+d) D).take N=A++vs++D:=by
 have hAl:A.length=o:=by rw[hA,List.length_take];omega
 constructor
 all_goals
  apply List.ext_getElem?
  intro t
  rw[List.getElem?_take,setL_get,setL_get,setL_len,List.append_assoc,List.getElem?_append,List.getElem?_append,hAl,hv]
  by_cases h0:t<N
  ·rw[if_pos h0]
   by_cases h1:t<o
   ·rw[if_neg (by omega),if_neg (by omega),if_pos h1,hA,List.getElem?_take,if_pos h1]
   ·by_cases h2:t<o+d
    ·first
     |rw[if_pos (by omega),if_neg h1,if_pos (by omega)]
     |rw[if_neg (by omega),if_pos (by omega),if_neg h1,if_pos (by omega)]
    ·first
     |rw[if_neg (by omega),if_pos (by omega),if_neg h1,if_neg (by omega),show t-o-d=t-(o+d)by omega]
     |rw[if_pos (by omega),if_neg h1,if_neg (by omega),show t-o-d=t-(o+d)by omega]
  ·rw[if_neg h0,if_neg (by omega),if_neg (by omega),List.getElem?_eq_none (by omega)]
def InsPost(A:Option Addr)(n c base i:Nat)(xs:List TCl)(x:TCl)(w:World)(e:Ending)(w':World):Prop:=
 ∃A' c',e= .returned (.slice A' (n+1) c')∧w'.ownsRow base 85 6 (.slice A' (n+1) c') (n+1) ((xs.take i++x::xs.drop i).flatMap tclE)∧w.grownBy w' (Value.slice A n c).ownBlock
theorem gb_any {a w:World} {r:Option Nat}(h:Below a.heap.size a w):a.grownBy w r:=⟨h.os,h.tape,h.output,h.size,fun i hi _=>h.block i hi⟩
theorem insert_any(A:Option Addr)(n c base i vb:Nat)(xs:List TCl)(x:TCl)(w:World)(ho:w.ownsRow base 85 6 (.slice A n c) n (xs.flatMap tclE))(hi:i≤n)(hV:Blk w vb (tclE x).toArray 85)(hne:(Value.slice A n c).ownBlock≠some vb)(hn:n≤1000)(hbase:base≤w.heap.size):
 Calls Tryz.prog 140 #[.slice A n c,.int .i64 i,.slice (some ⟨vb,0,none⟩) 1 1] w (InsPost A n c base i xs x w):=by
 have hl:xs.length=n:=own_len tclE_len (by decide) ho
 by_cases hin:i=n
 ·subst hin
  have hS:TclS w (some ⟨vb,0,none⟩) 1 [x]:=Sls.one hV
  have hd:xs.take i++x::xs.drop i=xs++ [x]:=by rw[←hl];simp
  have hc:i≤c:=own_cap ho
  have hP:InsPost A i c base i xs x w=fun e w'=>∃A' c',e= .returned (.slice A' (i+1) c')∧w'.ownsRow base 85 6 (.slice A' (i+1) c') (i+1) ((xs++ [x]).flatMap tclE)∧w.grownBy w' (Value.slice A i c).ownBlock:=by
   unfold InsPost;rw[hd]
  rw[hP]
  have ho2:w.ownsRow base 85 6 (.slice A i c) xs.length (xs.flatMap tclE):=by rw[hl];exact ho
  clear hd hP hV hne ho
  have hb1:(i:Int)≤(i:Int):=Int.le_refl _
  refine zh3 ?_ hS ho2 hl;clear hS ho2 hl;intro hS ho2 hl
  go_enter Tryz.func140,Tryz.ntmps140
  go_wp2_with(at_builtin;refine wpList_append_sls eltT _ rfl _ _ rfl base (.slice A i c) xs rfl ho2.out _ 1 1 [x] rfl hS.out (by rw[hl.out];omega) hbase ?_;intro v1 w1 HO1 HG1 _;obtain⟨A1,c1,rfl⟩:=own_slice HO1;rw[List.length_append,hl.out,List.length_singleton]at HO1;replace HO1:=Zh HO1;replace HG1:=Zh HG1)
  all_goals
   go_ret
   exact⟨A1,c1,by simp[hl.out],by simpa using HO1.out,by cases A<;>exact HG1.out⟩
 ·have hlt:i<n:=by omega
  rcases ho.2 with⟨hv,h0⟩|⟨g,cap,cur,hv,hb,hg,r1,r2,r3,r4⟩
  ·omega
  ·injection hv with hA _ hc
   subst hA hc
   have hB:Blk w g cur 85:=⟨hg⟩
   have hvb:vb≠g:=fun e=>hne (by rw[e];rfl)
   have hcl:(xs.flatMap tclE).length=n*6:=by rw[Sk.fm_len tclE 6 tclE_len,hl]
   have h1c:=fm_one tclE_one xs
   have h1v:=tclE_one x
   have hvl:(tclE x).length=1*6:=rfl
   have hcs:∀j v,(xs.flatMap tclE)[j]? =some v→w.cell? ⟨g,j,none⟩=some v:=fun j v h=>by
    rw[hB.cell,←Array.getElem?_toList]
    rw[←r4,List.getElem?_take]at h
    split at h
    ·exact h
    ·cases h
   have hvs:∀j v,(tclE x)[j]? =some v→w.cell? ⟨vb,j,none⟩=some v:=fun j v h=>by rw[hV.cell];simpa using h
   have hD:(xs.flatMap tclE).drop (i*6)=(xs.drop i).flatMap tclE:=fm_drop tclE_len xs i
   have hT:(xs.flatMap tclE).take (i*6)=(xs.take i).flatMap tclE:=fm_take tclE_len xs i
   have hDl:((xs.flatMap tclE).drop (i*6)).length=(n-i)*6:=by rw[List.length_drop,hcl];omega
   have hE:(xs.take i++x::xs.drop i).flatMap tclE=(xs.flatMap tclE).take (i*6)++tclE x++(xs.flatMap tclE).drop (i*6):=by
    rw[hT,hD];simp
   have hEl:((xs.take i++x::xs.drop i).flatMap tclE).length=(n+1)*6:=by
    rw[Sk.fm_len tclE 6 tclE_len,List.length_append,List.length_cons,List.length_take,List.length_drop];omega
   by_cases hroom:n+1≤c
   ·refine(ins_shift g n c i vb 1 1 _ _ w hlt (by omega) hroom (by unfold maxLen at r2;omega) hvb hcl hvl hcs (fun j hj=>by
     have:j<cur.size:=by rw[r3];have:(n+1)*6≤c*6:=Nat.mul_le_mul_right 6 hroom;omega
     rw[hB.cell,Array.getElem?_eq_getElem this];rfl) hB.free hvs h1c h1v 85 85 6 cur.size (by simp[World.shape?,hV.at_,tclE]) (by simp[World.shape?,hB.at_]) (by rw[r3];omega) (hV.free 0) (hV.free 6)).mono ?_
    rintro e w' ⟨rfl,rfl⟩
    have h1:=blk_setCells ((xs.flatMap tclE).drop (i*6)) cur ((i+1)*6) w.drew hB.drew
    have h2:=blk_setCells (tclE x) _ (i*6) _ h1.1
    refine⟨_,_,rfl,⟨hEl,.inr ⟨g,c,_,rfl,hb,h2.1.at_,hroom,r2,?_,?_⟩⟩,?_⟩
    ·rw[List.size_toArray,setL_len,setL_len,Array.length_toList,r3]
    ·have hN:(n+1)*6≤c*6:=Nat.mul_le_mul_right 6 hroom
     have:=(mid_take (L:=cur.toList) (A:=(xs.flatMap tclE).take (i*6)) (vs:=tclE x) (D:=(xs.flatMap tclE).drop (i*6)) (o:=i*6) (d:=6) (N:=(n+1)*6)
      (by rw[←r4,List.take_take];congr 1;omega) rfl (by rw[hDl];omega) (by rw[Array.length_toList,r3];exact hN) (by decide)).1
     rw[hE,←this]
     rw[show i*6+6=(i+1)*6 by omega]
    ·exact gb_trans (gb_trans (gb_any ((Below.refl _ _).drew)) h1.2) h2.2
   ·refine(ins_grow g n c i vb 1 1 _ _ w hlt (by omega) r1 (by omega) (by omega) hcl hvl hcs hvs h1c h1v).mono ?_
    rintro e w' ⟨G,Z,hG1,hG2,hZ,rfl,rfl⟩
    have hB0:=(Blk.new w ((xs.flatMap tclE).take (i*6)++Z).toArray 85).drew
    have h1:=blk_setCells (tclE x) _ (i*6) _ hB0
    have h2:=blk_setCells ((xs.flatMap tclE).drop (i*6)) _ ((i+1)*6) _ h1.1.drew
    have hTl:((xs.flatMap tclE).take (i*6)).length=i*6:=by rw[List.length_take,hcl];omega
    refine⟨_,_,rfl,⟨hEl,.inr ⟨w.heap.size,G,_,rfl,hbase,h2.1.at_,hG1,hG2,?_,?_⟩⟩,?_⟩
    ·rw[List.size_toArray,setL_len,setL_len,List.length_append,hTl,hZ];omega
    ·have hN:(n+1)*6≤G*6:=Nat.mul_le_mul_right 6 hG1
     have:=(mid_take (L:=(xs.flatMap tclE).take (i*6)++Z) (A:=(xs.flatMap tclE).take (i*6)) (vs:=tclE x) (D:=(xs.flatMap tclE).drop (i*6)) (o:=i*6) (d:=6) (N:=(n+1)*6)
      (by rw[List.take_left' hTl]) rfl (by rw[hDl];omega) (by rw[List.length_append,hTl,hZ];omega) (by decide)).2
     rw[hE,←this]
     rw[show i*6+6=(i+1)*6 by omega]
    ·have b1:Below w.heap.size w (w.alloc (.cells ((xs.flatMap tclE).take (i*6)++Z).toArray 85)):=ball w _
     have b2:Below w.heap.size w ((w.alloc (.cells ((xs.flatMap tclE).take (i*6)++Z).toArray 85)).drew.setCells w.heap.size (i*6) (tclE x)):=b1.drew.grown h1.2 (by simp) (fun k hk=>by cases hk;exact Nat.le_refl _)
     have b3:=b2.drew.grown h2.2 b2.drew.size (fun k hk=>by cases hk;exact Nat.le_refl _)
     exact gb_any b3
end Tx
end Go.Proofs.YtfamifgchgolpaaGreat
