/- Arguments opened: slices, and structs one by one. -/
import Derived.Test.YtfamifgchgolpaaGreatFrame
import Derived.Test.YtfamifgchgolpaaGreatSb
set_option linter.unusedVariables false
set_option linter.unusedSimpArgs false
namespace Go.Proofs.YtfamifgchgolpaaGreat
open Go Go.RowKit
namespace Op
theorem spot_of_cell {w:World} {a:Addr} {v:Value}(h:w.cell? a=some v):a.spot=none∧a.block<w.heap.size:=by
 unfold World.cell? at h
 split at h
 ·rename_i hb
  refine⟨?_,?_⟩
  ·cases hs:a.spot with
   |none=>rfl
   |some s=>rw[hs]at h;simp at h
  ·exact(Array.getElem?_eq_some_iff.1 hb).1
 ·cases h
theorem open_sl {α:Type} [Inhabited α] {H:Type} {enc:TypeId×Value→H} {P:Program} {W:World} {sp:Nat→Bool} {held:Bool} {fuel:Nat} {t e:TypeId} {A:Option Addr} {n c k:Nat} {x:DataW H×List MemPlace}
 (ht:P.underlying t=some (.slice e)) (hce:P.cellsOf e=k) (hk:0<k) (f:α→Nat→Value) (Q:α→Prop)
 (hel:∀ {cs':List Value} {m:Nat} {y:DataW H×List MemPlace},DataW.trod enc P W 0 sp held m e cs'=some y→∃x,Q x∧∀j,j<k→cs'[j]? =some (f x j))
 (h:DataW.trod enc P W 0 sp held fuel t [.slice A n c]=some x):
 ∃xs:List α,xs.length=n∧n≤maxLen∧n≤c∧(∀i,i<n→Q (xs.getD i default))∧
  (0<n→∃b off,A=some ⟨b,off,none⟩∧b<W.heap.size∧∀i,i<n→∀j,j<k→W.cell? ⟨b,off+i*k+j,none⟩=some (f (xs.getD i default) j)):=by
 obtain⟨A',n',c',e1,hl,hm,h0,hi⟩:=Frame.trod_slice' ht h
 injection e1 with e1 _
 injection e1 with e1 e2 e3
 subst e1 e2 e3
 rcases A with _|a
 ·obtain⟨rfl,rfl⟩:=h0 rfl
  exact⟨[],rfl,by omega,by omega,fun i hi=>absurd hi (by omega),fun h=>absurd h (by omega)⟩
 ·have key:∀i,i<n→∃x,Q x∧∀j,j<k→W.cell? (a.add (i*k+j))=some (f x j):=by
   intro i hin
   obtain⟨cs',m,y,hc,hh⟩:=hi a rfl i hin
   rw[hce]at hc
   obtain⟨hlen,_,hget⟩:=Frame.cells_get hc
   obtain⟨x,hq,hx⟩:=hel hh
   refine⟨x,hq,fun j hj=> ?_⟩
   have:=hget j hj
   rw[Go.Deep.add_add]at this
   rw[this,hx j hj]
  have hch:∃g:Nat→α,∀i,i<n→Q (g i)∧∀j,j<k→W.cell? (a.add (i*k+j))=some (f (g i) j):=by
   refine⟨fun i=>if h:i<n then Classical.choose (key i h)else default,fun i hin=> ?_⟩
   simp only[hin,dif_pos]
   exact Classical.choose_spec (key i hin)
  obtain⟨g,hg⟩:=hch
  have hgd:∀i,i<n→((List.range n).map g).getD i default=g i:=fun i hin=>by rw[List.getD_eq_getElem?_getD];simp[hin]
  refine⟨(List.range n).map g,by simp,by omega,by omega,fun i hin=>by rw[hgd i hin];exact(hg i hin).1,fun hpos=> ?_⟩
  have h00:=(hg 0 hpos).2 0 hk
  obtain⟨hs,hb⟩:=spot_of_cell h00
  rw[show 0*k+0=0 by omega,show a.add 0=a from rfl]at hs hb
  obtain⟨b,off,spot⟩:=a
  simp only at hs hb
  subst hs
  refine⟨b,off,rfl,hb,fun i hin j hj=> ?_⟩
  have:=(hg i hin).2 j hj
  have ea:(⟨b,off,none⟩:Addr).add (i*k+j)=⟨b,off+i*k+j,none⟩:=by unfold Addr.add;split<;>simp_all<;>omega
  rw[ea]at this
  rw[this,hgd i hin]
theorem all_getD {α:Type} [Inhabited α] {Q:α→Prop} {xs:List α} {n:Nat}(hn:xs.length=n)(h:∀i,i<n→Q (xs.getD i default)):∀x∈xs,Q x:=by
 intro x hx
 obtain⟨i,hi,rfl⟩:=List.mem_iff_getElem.1 hx
 have:=h i (by omega)
 rwa[List.getD_eq_getElem?_getD,List.getElem?_eq_getElem hi]at this
theorem open_sls {α:Type} [Inhabited α] {H:Type} {encH:TypeId×Value→H} {P:Program} {W:World} {sp:Nat→Bool} {held:Bool} {fuel:Nat} {t e:TypeId} {A:Option Addr} {n c k:Nat} {x:DataW H×List MemPlace}
 (ht:P.underlying t=some (.slice e)) (hce:P.cellsOf e=k) (hk:0<k) (enc:α→List Value) (hlen:∀x,(enc x).length=k) (Q:α→Prop)
 (hel:∀ {cs':List Value} {m:Nat} {y:DataW H×List MemPlace},DataW.trod encH P W 0 sp held m e cs'=some y→∃x,Q x∧∀j,j<k→cs'[j]? =(enc x)[j]?)
 (h:DataW.trod encH P W 0 sp held fuel t [.slice A n c]=some x):∃xs:List α,Sw.Sls enc k W A n xs∧∀x∈xs,Q x:=by
 have hs:∀x j,j<k→(enc x)[j]? =some ((enc x).getD j (.bool false)):=fun x j hj=>by
  rw[List.getD_eq_getElem?_getD,List.getElem?_eq_getElem (by rw[hlen];exact hj)];rfl
 obtain⟨xs,h1,h2,h3,h4,h5⟩:=open_sl ht hce hk (fun x j=>(enc x).getD j (.bool false)) Q (fun hh=>by
  obtain⟨x,hq,hx⟩:=hel hh
  exact⟨x,hq,fun j hj=>by rw[hx j hj,hs x j hj]⟩) h
 exact⟨xs,⟨h1,h2,fun hn=>by
  obtain⟨b,off,e,hb,hc⟩:=h5 hn
  exact⟨b,off,e,hb,fun i hi j hj=>by rw[hc i hi j hj,hs _ j hj]⟩⟩,all_getD h1 h4⟩
theorem at_int {H:Type} {enc:TypeId×Value→H} {P:Program} {W:World} {sp:Nat→Bool} {held:Bool} {k:IntKind} {cs:List Value} {off m:Nat} {t:TypeId} {y:DataW H×List MemPlace}(ht:P.underlying t=some (.int k))(hc:P.cellsOf t=1)(h:DataW.trod enc P W 0 sp held m t ((cs.drop off).take (P.cellsOf t))=some y):
 ∃v,(Lit.int k v).wf=true∧cs[off]? =some (.int k v):=by
 obtain⟨v,e,hwf⟩:=Frame.trod_int' ht h
 rw[hc]at e
 refine⟨v,hwf,?_⟩
 have:=congrArg (fun l:List Value=>l[0]?) e
 simp only[List.getElem?_take,List.getElem?_drop]at this
 simpa using this
theorem at_bool {H:Type} {enc:TypeId×Value→H} {P:Program} {W:World} {sp:Nat→Bool} {held:Bool} {cs:List Value} {off m:Nat} {t:TypeId} {y:DataW H×List MemPlace}(ht:P.underlying t=some .bool)(hc:P.cellsOf t=1)(h:DataW.trod enc P W 0 sp held m t ((cs.drop off).take (P.cellsOf t))=some y):
 ∃v,cs[off]? =some (.bool v):=by
 obtain⟨v,e⟩:=Frame.trod_bool' ht h
 rw[hc]at e
 refine⟨v,?_⟩
 have:=congrArg (fun l:List Value=>l[0]?) e
 simp only[List.getElem?_take,List.getElem?_drop]at this
 simpa using this
end Op
end Go.Proofs.YtfamifgchgolpaaGreat
namespace Go.Proofs.YtfamifgchgolpaaGreat
open Go Go.RowKit
namespace Tx
open Op
section
variable {H:Type} {enc:TypeId×Value→H} {W:World} {sp:Nat→Bool} {held:Bool} {fuel:Nat} {A:Option Addr} {n c:Nat} {x:DataW H×List MemPlace}
theorem tcl_open {cs':List Value} {m:Nat} {y:DataW H×List MemPlace}(hh:DataW.trod enc Tryz.prog W 0 sp held m 85 cs'=some y):∃x:TCl,True∧∀j,j<6→cs'[j]? =(tclE x)[j]? :=by
 obtain⟨hl,hf⟩:=Frame.trod_struct' Tryz.underlying85 hh
 obtain⟨_,_,g0⟩:=hf 0 _ rfl
 obtain⟨_,_,g1⟩:=hf 1 _ rfl
 obtain⟨_,_,g2⟩:=hf 2 _ rfl
 obtain⟨_,_,g3⟩:=hf 3 _ rfl
 obtain⟨_,_,g4⟩:=hf 4 _ rfl
 obtain⟨_,_,g5⟩:=hf 5 _ rfl
 obtain⟨v0,k0,e0⟩:=at_int Tryz.underlying3 (by kernel_rfl) g0
 obtain⟨v1,k1,e1⟩:=at_int Tryz.underlying3 (by kernel_rfl) g1
 obtain⟨v2,k2,e2⟩:=at_int Tryz.underlying3 (by kernel_rfl) g2
 obtain⟨v3,e3⟩:=at_bool Tryz.underlying4 (by kernel_rfl) g3
 obtain⟨v4,k4,e4⟩:=at_int Tryz.underlying3 (by kernel_rfl) g4
 obtain⟨v5,k5,e5⟩:=at_int Tryz.underlying3 (by kernel_rfl) g5
 exact⟨⟨v0,v1,v2,v3,v4,v5⟩,trivial,fun j hj=>match j,hj with
  |0,_=>e0
  |1,_=>e1
  |2,_=>e2
  |3,_=>e3
  |4,_=>e4
  |5,_=>e5⟩
theorem spt_open {cs':List Value} {m:Nat} {y:DataW H×List MemPlace}(hh:DataW.trod enc Tryz.prog W 0 sp held m 97 cs'=some y):∃x:Spt,True∧∀j,j<2→cs'[j]? =(sptE x)[j]? :=by
 obtain⟨hl,hf⟩:=Frame.trod_struct' Tryz.underlying97 hh
 obtain⟨_,_,g0⟩:=hf 0 _ rfl
 obtain⟨_,_,g1⟩:=hf 1 _ rfl
 obtain⟨v0,k0,e0⟩:=at_int Tryz.underlying3 (by kernel_rfl) g0
 obtain⟨v1,k1,e1⟩:=at_int Tryz.underlying3 (by kernel_rfl) g1
 exact⟨⟨v0,v1⟩,trivial,fun j hj=>match j,hj with
  |0,_=>e0
  |1,_=>e1⟩
theorem cap_of {P:Program} {t e:TypeId}(ht:P.underlying t=some (.slice e))(h:DataW.trod enc P W 0 sp held fuel t [.slice A n c]=some x):n≤c:=by
 obtain⟨A',n',c',e1,hl,_⟩:=Frame.trod_slice' ht h
 injection e1 with e1 _
 injection e1 with e1 e2 e3
 omega
theorem open_tcls(h:DataW.trod enc Tryz.prog W 0 sp held fuel 27 [.slice A n c]=some x):∃xs,TclS W A n xs∧n≤c:=by
 obtain⟨xs,h1,_⟩:=open_sls Tryz.underlying27 (by kernel_rfl) (by decide) tclE tclE_len (fun _=>True) (fun hh=>tcl_open hh) h
 exact⟨xs,h1,cap_of Tryz.underlying27 h⟩
theorem open_spts(h:DataW.trod enc Tryz.prog W 0 sp held fuel 28 [.slice A n c]=some x):∃xs,SptS W A n xs∧n≤c:=by
 obtain⟨xs,h1,_⟩:=open_sls Tryz.underlying28 (by kernel_rfl) (by decide) sptE sptE_len (fun _=>True) (fun hh=>spt_open hh) h
 exact⟨xs,h1,cap_of Tryz.underlying28 h⟩
theorem open_ints(h:DataW.trod enc Tryz.prog W 0 sp held fuel 24 [.slice A n c]=some x):∃xs,IntS W A n xs∧n≤c:=by
 obtain⟨xs,h1,_⟩:=open_sls (k:=1) Tryz.underlying24 (by kernel_rfl) (by decide) intE (fun _=>rfl) (fun _=>True) (fun {cs' m y} hh=>by
  obtain⟨v,e,_⟩:=Frame.trod_int' Tryz.underlying3 hh
  subst e
  exact⟨v,trivial,fun j hj=>by obtain rfl:j=0:=(by omega);rfl⟩) h
 exact⟨xs,h1,cap_of Tryz.underlying24 h⟩
theorem in_take {cs:List Value} {o:Nat} {v:Value}(h:((cs.drop 3).take 4)[o]? =some v):cs[3+o]? =some v:=by
 rw[List.getElem?_take]at h
 split at h
 ·rwa[List.getElem?_drop]at h
 ·cases h
theorem wsh_open {cs':List Value} {m:Nat} {y:DataW H×List MemPlace}(hh:DataW.trod enc Tryz.prog W 0 sp held m 42 cs'=some y):∃x:Wsh,True∧∀j,j<7→cs'[j]? =(wshE x)[j]? :=by
 obtain⟨hl,hf⟩:=Frame.trod_struct' Tryz.underlying42 hh
 obtain⟨_,_,g0⟩:=hf 0 _ rfl
 obtain⟨_,_,g1⟩:=hf 1 _ rfl
 obtain⟨_,_,g2⟩:=hf 2 _ rfl
 obtain⟨_,_,g3⟩:=hf 3 _ rfl
 obtain⟨v0,e0⟩:=at_bool Tryz.underlying4 (by kernel_rfl) g0
 obtain⟨v1,k1,e1⟩:=at_int Tryz.underlying3 (by kernel_rfl) g1
 obtain⟨v2,k2,e2⟩:=at_int Tryz.underlying3 (by kernel_rfl) g2
 obtain⟨hl2,hf2⟩:=Frame.trod_struct' Tryz.underlying40 g3
 obtain⟨_,_,f0⟩:=hf2 0 _ rfl
 obtain⟨_,_,f1⟩:=hf2 1 _ rfl
 obtain⟨_,_,f2⟩:=hf2 2 _ rfl
 obtain⟨_,_,f3⟩:=hf2 3 _ rfl
 obtain⟨v3,e3⟩:=at_bool Tryz.underlying4 (by kernel_rfl) f0
 obtain⟨v4,e4⟩:=at_bool Tryz.underlying4 (by kernel_rfl) f1
 obtain⟨v5,e5⟩:=at_bool Tryz.underlying4 (by kernel_rfl) f2
 obtain⟨v6,e6⟩:=at_bool Tryz.underlying4 (by kernel_rfl) f3
 have hc4:Tryz.prog.cellsOf 40=4:=by kernel_rfl
 replace e3:((cs'.drop 3).take (Tryz.prog.cellsOf 40))[0]? =some (.bool v3):=e3
 replace e4:((cs'.drop 3).take (Tryz.prog.cellsOf 40))[1]? =some (.bool v4):=e4
 replace e5:((cs'.drop 3).take (Tryz.prog.cellsOf 40))[2]? =some (.bool v5):=e5
 replace e6:((cs'.drop 3).take (Tryz.prog.cellsOf 40))[3]? =some (.bool v6):=e6
 rw[hc4]at e3 e4 e5 e6
 replace e3:=in_take e3
 replace e4:=in_take e4
 replace e5:=in_take e5
 replace e6:=in_take e6
 exact⟨⟨v0,v1,v2,⟨v3,v4,v5,v6⟩⟩,trivial,fun j hj=>match j,hj with
  |0,_=>e0
  |1,_=>e1
  |2,_=>e2
  |3,_=>e3
  |4,_=>e4
  |5,_=>e5
  |6,_=>e6⟩
theorem open_wishes(h:DataW.trod enc Tryz.prog W 0 sp held fuel 25 [.slice A n c]=some x):∃xs,WshS W A n xs∧n≤c:=by
 obtain⟨xs,h1,_⟩:=open_sls Tryz.underlying25 (by kernel_rfl) (by decide) wshE wshE_len (fun _=>True) (fun hh=>wsh_open hh) h
 exact⟨xs,h1,cap_of Tryz.underlying25 h⟩
theorem pc {l:List Value} {cs:List Value} {o n:Nat}(h:(cs.drop o).take n=l):cs.drop o=l++cs.drop (o+n):=by
 rw[←h,←List.drop_drop]
 exact(List.take_append_drop n (cs.drop o)).symm
variable {cs:List Value} {o m:Nat} {y:DataW H×List MemPlace}
theorem fI(h:DataW.trod enc Tryz.prog W 0 sp held m 3 ((cs.drop o).take (Tryz.prog.cellsOf 3))=some y):∃k:Int,cs.drop o= [.int .i64 k]++cs.drop (o+1):=by
 obtain⟨n,e,_⟩:=Frame.trod_int' Tryz.underlying3 h
 rw[show Tryz.prog.cellsOf 3=1 from by kernel_rfl]at e
 exact⟨n,pc e⟩
theorem fB(h:DataW.trod enc Tryz.prog W 0 sp held m 4 ((cs.drop o).take (Tryz.prog.cellsOf 4))=some y):∃k:Bool,cs.drop o= [.bool k]++cs.drop (o+1):=by
 obtain⟨n,e⟩:=Frame.trod_bool' Tryz.underlying4 h
 rw[show Tryz.prog.cellsOf 4=1 from by kernel_rfl]at e
 exact⟨n,pc e⟩
theorem fS(h:DataW.trod enc Tryz.prog W 0 sp held m 28 ((cs.drop o).take (Tryz.prog.cellsOf 28))=some y):∃A n c xs,cs.drop o= [.slice A n c]++cs.drop (o+1)∧SptS W A n xs∧n≤c:=by
 obtain⟨A,n,c,e,_⟩:=Frame.trod_slice' Tryz.underlying28 h
 rw[e]at h
 rw[show Tryz.prog.cellsOf 28=1 from by kernel_rfl]at e
 obtain⟨xs,h1,h2⟩:=open_spts h
 exact⟨A,n,c,xs,pc e,h1,h2⟩
theorem fT(h:DataW.trod enc Tryz.prog W 0 sp held m 27 ((cs.drop o).take (Tryz.prog.cellsOf 27))=some y):∃A n c xs,cs.drop o= [.slice A n c]++cs.drop (o+1)∧TclS W A n xs∧n≤c:=by
 obtain⟨A,n,c,e,_⟩:=Frame.trod_slice' Tryz.underlying27 h
 rw[e]at h
 rw[show Tryz.prog.cellsOf 27=1 from by kernel_rfl]at e
 obtain⟨xs,h1,h2⟩:=open_tcls h
 exact⟨A,n,c,xs,pc e,h1,h2⟩
theorem fF(h:DataW.trod enc Tryz.prog W 0 sp held m 24 ((cs.drop o).take (Tryz.prog.cellsOf 24))=some y):∃A n c xs,cs.drop o= [.slice A n c]++cs.drop (o+1)∧IntS W A n xs∧n≤c:=by
 obtain⟨A,n,c,e,_⟩:=Frame.trod_slice' Tryz.underlying24 h
 rw[e]at h
 rw[show Tryz.prog.cellsOf 24=1 from by kernel_rfl]at e
 obtain⟨xs,h1,h2⟩:=open_ints h
 exact⟨A,n,c,xs,pc e,h1,h2⟩
theorem fM(h:DataW.trod enc Tryz.prog W 0 sp held m 30 ((cs.drop o).take (Tryz.prog.cellsOf 30))=some y):∃m v,cs.drop o=(msgA m v).toList++cs.drop (o+7)∧MsgIs W v m:=by
 rw[show Tryz.prog.cellsOf 30=7 from by kernel_rfl]at h
 obtain⟨hl,hf⟩:=Frame.trod_struct' Tryz.underlying30 h
 rw[show Tryz.prog.cellsOf 30=7 from by kernel_rfl]at hl
 generalize hd:(cs.drop o).take 7=ds at*
 obtain⟨_,_,g0⟩:=hf 0 _ rfl
 obtain⟨_,_,g1⟩:=hf 1 _ rfl
 obtain⟨_,_,g2⟩:=hf 2 _ rfl
 obtain⟨_,_,g3⟩:=hf 3 _ rfl
 obtain⟨_,_,g4⟩:=hf 4 _ rfl
 obtain⟨_,_,g5⟩:=hf 5 _ rfl
 obtain⟨_,_,g6⟩:=hf 6 _ rfl
 obtain⟨a,e0⟩:=fI g0
 replace e0:ds.drop 0= _++ds.drop 1:=e0
 obtain⟨b,e1⟩:=fB g1
 replace e1:ds.drop 1= _++ds.drop 2:=e1
 obtain⟨c,e2⟩:=fI g2
 replace e2:ds.drop 2= _++ds.drop 3:=e2
 obtain⟨d,e3⟩:=fI g3
 replace e3:ds.drop 3= _++ds.drop 4:=e3
 obtain⟨e,e4⟩:=fI g4
 replace e4:ds.drop 4= _++ds.drop 5:=e4
 obtain⟨pA,pn,pC,px,e5,p1,p2⟩:=fS g5
 replace e5:ds.drop 5= _++ds.drop 6:=e5
 obtain⟨qA,qn,qc,qx,e6,q1,q2⟩:=fS g6
 replace e6:ds.drop 6= _++ds.drop 7:=e6
 have h9:ds=(msgA ⟨a,b,c,d,e,px,qx⟩ ⟨pA,pn,pC,qA,qn,qc⟩).toList:=by
  have hz:ds.drop 7= []:=List.drop_eq_nil_of_le (by omega)
  show ds.drop 0= _
  rw[e0,e1,e2,e3,e4,e5,e6,hz]
  rfl
 exact⟨⟨a,b,c,d,e,px,qx⟩,⟨pA,pn,pC,qA,qn,qc⟩,by rw[pc hd,h9],⟨p1,q1,p2,q2⟩⟩
theorem fE(h:DataW.trod enc Tryz.prog W 0 sp held m 32 ((cs.drop o).take (Tryz.prog.cellsOf 32))=some y):∃e v,cs.drop o=(endA e v).toList++cs.drop (o+28)∧EdIs W v e:=by
 rw[show Tryz.prog.cellsOf 32=28 from by kernel_rfl]at h
 obtain⟨hl,hf⟩:=Frame.trod_struct' Tryz.underlying32 h
 rw[show Tryz.prog.cellsOf 32=28 from by kernel_rfl]at hl
 generalize hd:(cs.drop o).take 28=ds at*
 obtain⟨_,_,g0⟩:=hf 0 _ rfl
 obtain⟨_,_,g1⟩:=hf 1 _ rfl
 obtain⟨_,_,g2⟩:=hf 2 _ rfl
 obtain⟨_,_,g3⟩:=hf 3 _ rfl
 obtain⟨_,_,g4⟩:=hf 4 _ rfl
 obtain⟨_,_,g5⟩:=hf 5 _ rfl
 obtain⟨_,_,g6⟩:=hf 6 _ rfl
 obtain⟨_,_,g7⟩:=hf 7 _ rfl
 obtain⟨_,_,g8⟩:=hf 8 _ rfl
 obtain⟨_,_,g9⟩:=hf 9 _ rfl
 obtain⟨a,e0⟩:=fI g0
 replace e0:ds.drop 0= _++ds.drop 1:=e0
 obtain⟨b,e1⟩:=fI g1
 replace e1:ds.drop 1= _++ds.drop 2:=e1
 obtain⟨c,e2⟩:=fI g2
 replace e2:ds.drop 2= _++ds.drop 3:=e2
 obtain⟨pA,pn,pC,px,e3,p1,p2⟩:=fT g3
 replace e3:ds.drop 3= _++ds.drop 4:=e3
 obtain⟨d,e4⟩:=fB g4
 replace e4:ds.drop 4= _++ds.drop 5:=e4
 obtain⟨e,e5⟩:=fI g5
 replace e5:ds.drop 5= _++ds.drop 6:=e5
 obtain⟨m1,v1,e6,h1⟩:=fM g6
 replace e6:ds.drop 6= _++ds.drop 13:=e6
 obtain⟨f,e7⟩:=fB g7
 replace e7:ds.drop 13= _++ds.drop 14:=e7
 obtain⟨m2,v2,e8,h2⟩:=fM g8
 replace e8:ds.drop 14= _++ds.drop 21:=e8
 obtain⟨m3,v3,e9,h3⟩:=fM g9
 replace e9:ds.drop 21= _++ds.drop 28:=e9
 have h9:ds=(endA ⟨a,b,c,px,d,e,m1,f,m2,m3⟩ ⟨pA,pn,pC,v1,v2,v3⟩).toList:=by
  have hz:ds.drop 28= []:=List.drop_eq_nil_of_le (by omega)
  show ds.drop 0= _
  rw[e0,e1,e2,e3,e4,e5,e6,e7,e8,e9,hz]
  rfl
 exact⟨⟨a,b,c,px,d,e,m1,f,m2,m3⟩,⟨pA,pn,pC,v1,v2,v3⟩,by rw[pc hd,h9],⟨p1,p2,h1,h2,h3⟩⟩
theorem fTb(h:DataW.trod enc Tryz.prog W 0 sp held m 37 ((cs.drop o).take (Tryz.prog.cellsOf 37))=some y):∃t v,cs.drop o=(tabA t v).toList++cs.drop (o+3)∧TabIs W v t:=by
 rw[show Tryz.prog.cellsOf 37=3 from by kernel_rfl]at h
 obtain⟨hl,hf⟩:=Frame.trod_struct' Tryz.underlying37 h
 rw[show Tryz.prog.cellsOf 37=3 from by kernel_rfl]at hl
 generalize hd:(cs.drop o).take 3=ds at*
 obtain⟨_,_,g0⟩:=hf 0 _ rfl
 obtain⟨_,_,g1⟩:=hf 1 _ rfl
 obtain⟨_,_,g2⟩:=hf 2 _ rfl
 obtain⟨a,e0⟩:=fI g0
 replace e0:ds.drop 0= _++ds.drop 1:=e0
 obtain⟨b,e1⟩:=fI g1
 replace e1:ds.drop 1= _++ds.drop 2:=e1
 obtain⟨pA,pn,pC,px,e2,p1,p2⟩:=fT g2
 replace e2:ds.drop 2= _++ds.drop 3:=e2
 have h9:ds=(tabA ⟨a,b,px⟩ ⟨pA,pn,pC⟩).toList:=by
  have hz:ds.drop 3= []:=List.drop_eq_nil_of_le (by omega)
  show ds.drop 0= _
  rw[e0,e1,e2,hz]
  rfl
 exact⟨⟨a,b,px⟩,⟨pA,pn,pC⟩,by rw[pc hd,h9],⟨p1,p2⟩⟩
theorem open_cpl(h:DataW.trod enc Tryz.prog W 0 sp held m 70 cs=some y):∃c v,cs=(cplA c v).toList∧CplIs W v c:=by
 obtain⟨hl,hf⟩:=Frame.trod_struct' Tryz.underlying70 h
 rw[show Tryz.prog.cellsOf 70=67 from by kernel_rfl]at hl
 obtain⟨_,_,g0⟩:=hf 0 _ rfl
 obtain⟨_,_,g1⟩:=hf 1 _ rfl
 obtain⟨_,_,g2⟩:=hf 2 _ rfl
 obtain⟨_,_,g3⟩:=hf 3 _ rfl
 obtain⟨_,_,g4⟩:=hf 4 _ rfl
 obtain⟨_,_,g5⟩:=hf 5 _ rfl
 obtain⟨_,_,g6⟩:=hf 6 _ rfl
 obtain⟨_,_,g7⟩:=hf 7 _ rfl
 obtain⟨_,_,g8⟩:=hf 8 _ rfl
 obtain⟨a,va,e0,h1⟩:=fE g0
 replace e0:cs.drop 0= _++cs.drop 28:=e0
 obtain⟨b,vb,e1,h2⟩:=fE g1
 replace e1:cs.drop 28= _++cs.drop 56:=e1
 obtain⟨t,vt,e2,h3⟩:=fTb g2
 replace e2:cs.drop 56= _++cs.drop 59:=e2
 obtain⟨u,vu,e3,h4⟩:=fTb g3
 replace e3:cs.drop 59= _++cs.drop 62:=e3
 obtain⟨pA,pn,pC,px,e4,p1,p2⟩:=fF g4
 replace e4:cs.drop 62= _++cs.drop 63:=e4
 obtain⟨k,e5⟩:=fI g5
 replace e5:cs.drop 63= _++cs.drop 64:=e5
 obtain⟨l,e6⟩:=fI g6
 replace e6:cs.drop 64= _++cs.drop 65:=e6
 obtain⟨f,e7⟩:=fB g7
 replace e7:cs.drop 65= _++cs.drop 66:=e7
 obtain⟨g,e8⟩:=fB g8
 replace e8:cs.drop 66= _++cs.drop 67:=e8
 have h9:cs=(cplA ⟨a,b,t,u,px,k,l,f,g⟩ ⟨va,vb,vt,vu,pA,pn,pC⟩).toList:=by
  have hz:cs.drop 67= []:=List.drop_eq_nil_of_le (by omega)
  show cs.drop 0= _
  rw[e0,e1,e2,e3,e4,e5,e6,e7,e8,hz]
  rfl
 exact⟨⟨a,b,t,u,px,k,l,f,g⟩,⟨va,vb,vt,vu,pA,pn,pC⟩,h9,⟨h1,h2,h3,h4,p1,p2⟩⟩
end
end Tx
end Go.Proofs.YtfamifgchgolpaaGreat
