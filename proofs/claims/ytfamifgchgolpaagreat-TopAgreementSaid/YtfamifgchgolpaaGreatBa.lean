/- Blocks that are known whole, and slices that a call owns: plain lemmas. -/
import Derived.Test.YtfamifgchgolpaaGreatChecked
import Derived.WalkKit
import Derived.Lib.Hide
import Derived.Lib.QuietBelow
import Derived.Laws.Rows
import Derived.Deep.AppendLies
import Derived.Lib.SliceRun
import Derived.Laws.OwnMore
import Derived.Maps.AppendAt
import Derived.Deep.RegionLaw
import Derived.WalkSmall
import Derived.Maps.RangeWalk
set_option linter.unusedVariables false
set_option linter.unusedSimpArgs false
namespace Go.Proofs.YtfamifgchgolpaaGreat
open Go Go.RowKit Go.Sort
theorem Zh {p:Prop}(h:p):RowKit.Hid p:=h
theorem zh2 {A0 A1 G:Prop}(k:RowKit.Hid A0→RowKit.Hid A1→G):A0→A1→G:=k
theorem zh3 {A0 A1 A2 G:Prop}(k:RowKit.Hid A0→RowKit.Hid A1→RowKit.Hid A2→G):A0→A1→A2→G:=k
theorem zh4 {A0 A1 A2 A3 G:Prop}(k:RowKit.Hid A0→RowKit.Hid A1→RowKit.Hid A2→RowKit.Hid A3→G):A0→A1→A2→A3→G:=k
theorem zh5 {A0 A1 A2 A3 A4 G:Prop}(k:RowKit.Hid A0→RowKit.Hid A1→RowKit.Hid A2→RowKit.Hid A3→RowKit.Hid A4→G):A0→A1→A2→A3→A4→G:=k
theorem zh6 {A0 A1 A2 A3 A4 A5 G:Prop}(k:RowKit.Hid A0→RowKit.Hid A1→RowKit.Hid A2→RowKit.Hid A3→RowKit.Hid A4→RowKit.Hid A5→G):A0→A1→A2→A3→A4→A5→G:=k
theorem zh7 {A0 A1 A2 A3 A4 A5 A6 G:Prop}(k:RowKit.Hid A0→RowKit.Hid A1→RowKit.Hid A2→RowKit.Hid A3→RowKit.Hid A4→RowKit.Hid A5→RowKit.Hid A6→G):A0→A1→A2→A3→A4→A5→A6→G:=k
theorem zh8 {A0 A1 A2 A3 A4 A5 A6 A7 G:Prop}(k:RowKit.Hid A0→RowKit.Hid A1→RowKit.Hid A2→RowKit.Hid A3→RowKit.Hid A4→RowKit.Hid A5→RowKit.Hid A6→RowKit.Hid A7→G):A0→A1→A2→A3→A4→A5→A6→A7→G:=k
theorem zh9 {A0 A1 A2 A3 A4 A5 A6 A7 A8 G:Prop}(k:RowKit.Hid A0→RowKit.Hid A1→RowKit.Hid A2→RowKit.Hid A3→RowKit.Hid A4→RowKit.Hid A5→RowKit.Hid A6→RowKit.Hid A7→RowKit.Hid A8→G):A0→A1→A2→A3→A4→A5→A6→A7→A8→G:=k
theorem zh10 {A0 A1 A2 A3 A4 A5 A6 A7 A8 A9 G:Prop}(k:RowKit.Hid A0→RowKit.Hid A1→RowKit.Hid A2→RowKit.Hid A3→RowKit.Hid A4→RowKit.Hid A5→RowKit.Hid A6→RowKit.Hid A7→RowKit.Hid A8→RowKit.Hid A9→G):A0→A1→A2→A3→A4→A5→A6→A7→A8→A9→G:=k
theorem zh11 {A0 A1 A2 A3 A4 A5 A6 A7 A8 A9 A10 G:Prop}(k:RowKit.Hid A0→RowKit.Hid A1→RowKit.Hid A2→RowKit.Hid A3→RowKit.Hid A4→RowKit.Hid A5→RowKit.Hid A6→RowKit.Hid A7→RowKit.Hid A8→RowKit.Hid A9→RowKit.Hid A10→G):A0→A1→A2→A3→A4→A5→A6→A7→A8→A9→A10→G:=k
theorem zh12 {A0 A1 A2 A3 A4 A5 A6 A7 A8 A9 A10 A11 G:Prop}(k:RowKit.Hid A0→RowKit.Hid A1→RowKit.Hid A2→RowKit.Hid A3→RowKit.Hid A4→RowKit.Hid A5→RowKit.Hid A6→RowKit.Hid A7→RowKit.Hid A8→RowKit.Hid A9→RowKit.Hid A10→RowKit.Hid A11→G):A0→A1→A2→A3→A4→A5→A6→A7→A8→A9→A10→A11→G:=k
namespace Mm
structure Blk(w:World)(B:Nat)(C:Array Value)(t:TypeId):Prop where
 at_:w.heap[B]? =some (.cells C t (0,0))
theorem Blk.lt {w:World} {B:Nat} {C:Array Value} {t:TypeId}(h:Blk w B C t):B<w.heap.size:=by
 rcases Nat.lt_or_ge B w.heap.size with hlt|hge
 ·exact hlt
 ·have:=h.at_;rw[Array.getElem?_eq_none hge]at this;cases this
theorem Blk.cell {w:World} {B:Nat} {C:Array Value} {t:TypeId}(h:Blk w B C t):∀i,w.cell? ⟨B,i,none⟩=C[i]? :=fun i=>cell_of_row w B i C t (0,0) h.at_
theorem Blk.free {w:World} {B:Nat} {C:Array Value} {t:TypeId}(h:Blk w B C t):∀i,w.frozen? ⟨B,i,none⟩=false:=fun i=>frozen_of_row w B i C t h.at_
theorem Blk.keep {w w':World} {B:Nat} {C:Array Value} {t:TypeId}(h:Blk w B C t)(hb:Below w.heap.size w w'):Blk w' B C t:=⟨by rw[hb.block B h.lt];exact h.at_⟩
theorem Blk.under {w w':World} {B n:Nat} {C:Array Value} {t:TypeId}(h:Blk w B C t)(hb:Below n w w')(hn:B<n):Blk w' B C t:=⟨by rw[hb.block B hn];exact h.at_⟩
theorem Blk.new(w:World)(C:Array Value)(t:TypeId):Blk (w.alloc (.cells C t)) w.heap.size C t:=⟨heap_alloc_new w _⟩
theorem Blk.alloc {w:World} {B:Nat} {C:Array Value} {t:TypeId}(h:Blk w B C t)(o:Obj):Blk (w.alloc o) B C t:=⟨by rw[Below.heap_alloc w o B h.lt];exact h.at_⟩
theorem Blk.drew {w:World} {B:Nat} {C:Array Value} {t:TypeId}(h:Blk w B C t):Blk w.drew B C t:=⟨h.at_⟩
theorem Blk.set {w:World} {B:Nat} {C:Array Value} {t:TypeId}(h:Blk w B C t)(i:Nat)(v:Value):Blk (w.setCell ⟨B,i,none⟩ v) B (C.setIfInBounds i v) t:=⟨heap_setCell_same w B i C t v h.at_⟩
theorem Blk.other {w:World} {B:Nat} {C:Array Value} {t:TypeId}(h:Blk w B C t) {p:Addr}(hp:B≠p.block)(v:Value):Blk (w.setCell p v) B C t:=⟨by rw[heap_setCell_other w p B v hp];exact h.at_⟩
theorem Blk.grown {w w':World} {B:Nat} {C:Array Value} {t:TypeId} {row:Option Nat}(h:Blk w B C t)(hg:w.grownBy w' row)(hr:row≠some B):Blk w' B C t:=⟨by rw[hg.block B h.lt (fun e=>hr e.symm)];exact h.at_⟩
theorem owns_keep {w w':World} {base:Nat} {e:TypeId} {size n:Nat} {v:Value} {xs:List Value}(h:w.ownsRow base e size v n xs)(hb:Below w.heap.size w w'):w'.ownsRow base e size v n xs:=
 h.kept (row:=none) ⟨hb.os,hb.tape,hb.output,hb.size,fun i hi _=>hb.block i hi⟩ (by cases v.ownBlock<;>simp)
theorem below_append {w0 w w':World} {base:Nat} {e:TypeId} {size n:Nat} {v:Value} {xs:List Value}(h:Below w0.heap.size w0 w)(ho:w.ownsRow base e size v n xs)(hg:w.grownBy w' v.ownBlock)(hbase:w0.heap.size≤base):Below w0.heap.size w0 w':=
 h.grown hg h.size (fun k hk=>Nat.le_trans hbase (ho.lt k hk).1)
end Mm
end Go.Proofs.YtfamifgchgolpaaGreat
namespace Go.Proofs.YtfamifgchgolpaaGreat
open Go Go.RowKit Go.Sort
namespace Sk
variable {α:Type} [Inhabited α]
omit [Inhabited α]in
theorem fm_len(enc:α→List Value)(k:Nat)(hk:∀x,(enc x).length=k)(xs:List α):(xs.flatMap enc).length=xs.length*k:=by
 induction xs with
 |nil=>simp
 |cons x xs ih=>rw[List.flatMap_cons,List.length_append,hk,ih,List.length_cons,Nat.add_mul];omega
theorem fm_get(enc:α→List Value)(k:Nat)(hk:∀x,(enc x).length=k)(xs:List α):∀i j,i<xs.length→j<k→(xs.flatMap enc)[i*k+j]? =(enc (xs.getD i default))[j]? :=by
 induction xs with
 |nil=>intro i j hi;simp at hi
 |cons x xs ih=>
  intro i j hi hj
  rw[List.flatMap_cons]
  cases i with
  |zero=>rw[List.getElem?_append_left (by rw[hk];omega)];simp
  |succ i=>
   rw[List.getElem?_append_right (by rw[hk,Nat.add_mul];omega),hk,show(i+1)*k+j-k=i*k+j by rw[Nat.add_mul];omega]
   rw[ih i j (by simpa using hi) hj]
   simp
end Sk
end Go.Proofs.YtfamifgchgolpaaGreat
namespace Go.Proofs.YtfamifgchgolpaaGreat
open Go Go.RowKit Go.Sort
namespace Sw
open Mm
structure Sls {α:Type} [Inhabited α](enc:α→List Value)(k:Nat)(w:World)(A:Option Addr)(n:Nat)(xs:List α):Prop where
 len:xs.length=n
 small:n≤maxLen
 at_:0<n→∃b off,A=some ⟨b,off,none⟩∧b<w.heap.size∧∀i,i<n→∀j,j<k→w.cell? ⟨b,off+i*k+j,none⟩=(enc (xs.getD i default))[j]?
section
variable {α:Type} [Inhabited α] {enc:α→List Value} {k:Nat} {w w':World} {A:Option Addr} {n:Nat} {xs:List α}
theorem Sls.keep(h:Sls enc k w A n xs)(hb:Below w.heap.size w w'):Sls enc k w' A n xs:=
 ⟨h.len,h.small,fun hn=>by
  obtain⟨b,off,e,hlt,hc⟩:=h.at_ hn
  exact⟨b,off,e,Nat.lt_of_lt_of_le hlt hb.size,fun i hi j hj=>by rw[hb.cell (p:=⟨b,off+i*k+j,none⟩) hlt];exact hc i hi j hj⟩⟩
theorem Sls.under(h:Sls enc k w A n xs) {m:Nat}(hb:Below m w w')(hm:w.heap.size≤m):Sls enc k w' A n xs:=h.keep (hb.mono hm)
theorem Sls.nil:Sls enc k w none 0 ([]:List α):=⟨rfl,by decide,fun h=>absurd h (by omega)⟩
theorem Sls.addr(h:Sls enc k w A n xs)(hn:0<n):∃b off,A=some ⟨b,off,none⟩:=by obtain⟨b,off,e,_⟩:=h.at_ hn;exact⟨b,off,e⟩
theorem Sls.cells {b off:Nat}(h:Sls enc k w (some ⟨b,off,none⟩) n xs) {i:Nat}(hi:i<n):b<w.heap.size∧∀j,j<k→w.cell? ⟨b,off+i*k+j,none⟩=(enc (xs.getD i default))[j]? :=by
 obtain⟨b',off',e,hlt,hc⟩:=h.at_ (by omega)
 injection e with e
 injection e with e1 e2
 subst e1 e2
 exact⟨hlt,hc i hi⟩
theorem Sls.take(h:Sls enc k w A n xs) {m:Nat}(hm:m≤n):Sls enc k w A m (xs.take m):=
 ⟨by rw[List.length_take,h.len];omega,Nat.le_trans hm h.small,fun h0=>by
  obtain⟨b,off,e,hlt,hc⟩:=h.at_ (by omega)
  refine⟨b,off,e,hlt,fun i hi j hj=> ?_⟩
  have:(xs.take m).getD i default=xs.getD i default:=by rw[List.getD_eq_getElem?_getD,List.getD_eq_getElem?_getD,List.getElem?_take,if_pos hi]
  rw[this]
  exact hc i (by omega) j hj⟩
theorem Sls.of_owns(hk:∀x,(enc x).length=k) {base n0 c:Nat} {e:TypeId}(h:w.ownsRow base e k (.slice A n c) n0 (xs.flatMap enc))(hl:xs.length=n0):n=n0∧Sls enc k w A n xs:=by
 rcases h.2 with⟨hv,hz⟩|⟨g,cap,cur,hv,hb,hg,hn,hm,hs,ht⟩
 ·injection hv with h1 h2 h3
  subst h1 h2
  exact⟨hz.symm,⟨by omega,by decide,fun h=>absurd h (by omega)⟩⟩
 ·injection hv with h1 h2 h3
  subst h1 h2 h3
  refine⟨rfl,⟨hl,by omega,fun _=>⟨g,0,rfl,(Array.getElem?_eq_some_iff.1 hg).1,fun i hi j hj=> ?_⟩⟩⟩
  rw[←Sk.fm_get enc k hk xs i j (by omega) hj]
  have hlt:i*k+j<(xs.flatMap enc).length:=by
   rw[Sk.fm_len enc k hk,hl]
   have:(i+1)*k≤n*k:=Nat.mul_le_mul_right k hi
   rw[Nat.add_mul]at this;omega
  have:=h.cells (g:=g) rfl (i*k+j) _ (List.getElem?_eq_getElem hlt)
  have hadd:(⟨g,0,none⟩:Addr).add (i*k+j)=⟨g,i*k+j,none⟩:=by unfold Addr.add;split<;>simp_all
  rw[hadd]at this
  rw[List.getElem?_eq_getElem hlt,Nat.zero_add]
  exact this
theorem Sls.news(hk:∀x,(enc x).length=k) {a:Addr}(h:Sls enc k w (some a) n xs)(h0:0<n):∀j u,(xs.flatMap enc)[j]? =some u→w.cell? (a.add j)=some u:=by
 intro j u hu
 obtain⟨b,off,e,hlt,hc⟩:=h.at_ h0
 injection e with e
 subst e
 have hj:j<(xs.flatMap enc).length:=(List.getElem?_eq_some_iff.1 hu).1
 rw[Sk.fm_len enc k hk,h.len]at hj
 have k0:0<k:=by rcases Nat.eq_zero_or_pos k with h|h;·subst h;simp at hj
                 ·exact h
 have h1:j/k<n:=by rw[Nat.div_lt_iff_lt_mul k0];exact hj
 have h2:j %k<k:=Nat.mod_lt _ k0
 have h3:=Sk.fm_get enc k hk xs (j/k) (j %k) (by rw[h.len];exact h1) h2
 rw[Nat.mul_comm,Nat.div_add_mod]at h3
 have h4:=hc (j/k) h1 (j %k) h2
 have h5:j/k*k+j %k=j:=by rw[Nat.mul_comm,Nat.div_add_mod]
 have hadd:(⟨b,off,none⟩:Addr).add j=⟨b,off+j/k*k+j %k,none⟩:=by
  rw[Nat.add_assoc,h5]
  unfold Addr.add
  split
  ·rename_i e;subst e;rfl
  ·rfl
 rw[hadd,h4,←h3];exact hu
end
structure Box(w:World)(B:Nat)(C:Array Value):Prop where
 lt:B<w.heap.size
 at_:∀i,w.cell? ⟨B,i,none⟩=C[i]?
theorem Box.new(w:World)(C:Array Value)(t:TypeId):Box (w.alloc (.cells C t)) w.heap.size C:=⟨by simp,fun i=>(Blk.new w C t).cell i⟩
theorem Box.keep {w w':World} {B:Nat} {C:Array Value}(h:Box w B C)(hb:Below w.heap.size w w'):Box w' B C:=⟨Nat.lt_of_lt_of_le h.lt hb.size,fun i=>by rw[hb.cell (p:=⟨B,i,none⟩) h.lt];exact h.at_ i⟩
theorem Box.alloc {w:World} {B:Nat} {C:Array Value}(h:Box w B C)(o:Obj):Box (w.alloc o) B C:=h.keep ((Below.refl _ _).alloc (Nat.le_refl _) _)
theorem Box.of_blk {w:World} {B:Nat} {C:Array Value} {t:TypeId}(h:Blk w B C t):Box w B C:=⟨h.lt,h.cell⟩
theorem size1(w:World)(o:Obj):(w.alloc o).heap.size=w.heap.size+1:=by simp
theorem ball(w:World)(o:Obj):Below w.heap.size w (w.alloc o):=(Below.refl _ _).alloc (Nat.le_refl _) _
theorem ballN {a w:World}(h:Below a.heap.size a w)(o:Obj):Below a.heap.size a (w.alloc o):=h.alloc h.size o
theorem bthen {a w w':World}(h:Below a.heap.size a w)(k:Below w.heap.size w w'):Below a.heap.size a w':=h.trans (k.mono h.size)
theorem cell_regrown {w:World} {p:Addr} {v:Value}(h:w.cell? p=some v):∀d os,(grow (redrawn w d) os).cell? p=some v:=fun d os=>(below_regrown w d os).cell (World.block_lt_of_cell? w p h)|>.trans h
theorem Box.grown {w:World} {B:Nat} {C:Array Value}(h:Box w B C):∀d os i,(grow (redrawn w d) os).cell? ⟨B,i,none⟩=C[i]? :=fun d os=>(h.keep (below_regrown w d os)).at_
def GW(w w':World):Prop:=∃q os,w'=grow (w.drewN q) os
theorem GW.refl(w:World):GW w w:=⟨0,#[],by simp[grow];rfl⟩
theorem GW.drew {w w':World}(h:GW w w'):GW w w'.drew:=by
 obtain⟨q,os,rfl⟩:=h
 exact⟨q+1,os,rfl⟩
theorem GW.alloc {w w':World}(h:GW w w')(o:Obj):GW w (w'.alloc o):=by
 obtain⟨q,os,rfl⟩:=h
 exact⟨q,os++ #[o],by rw[alloc_eq_grow,grow_grow]⟩
theorem GW.trans {w w' w'':World}(h:GW w w')(k:GW w' w''):GW w w'':=by
 obtain⟨q,os,rfl⟩:=h
 obtain⟨q',os',rfl⟩:=k
 refine⟨q+q',os++os',?_⟩
 rw[←grow_grow]
 have e:(w.drewN q).drewN q'=w.drewN (q+q'):=by simp[World.drewN,Nat.add_assoc]
 rw[←e]
 rfl
theorem GW.below {w w':World}(h:GW w w'):Below w.heap.size w w':=by
 obtain⟨q,os,rfl⟩:=h
 exact below_regrown w (w.drawn+q) os
def setL:List Value→Nat→List Value→List Value
 |xs,_,[]=>xs
 |xs,j,v::vs=>setL (xs.set j v) (j+1) vs
theorem setL_len:∀(vs xs:List Value) (j:Nat),(setL xs j vs).length=xs.length
 | [],_,_=>rfl
 |v::vs,xs,j=>by rw[setL,setL_len vs];simp
theorem setL_get:∀(vs xs:List Value) (j t:Nat),(setL xs j vs)[t]? =if j≤t∧t<j+vs.length∧t<xs.length then vs[t-j]? else xs[t]?
 | [],xs,j,t=>by rw[setL,if_neg (by simp;omega)]
 |v::vs,xs,j,t=>by
  rw[setL,setL_get vs,List.length_set]
  by_cases c1:t=j
  ·subst c1
   rw[if_neg (by omega)]
   by_cases c2:t<xs.length
   ·rw[if_pos ⟨Nat.le_refl _,by simp,c2⟩,List.getElem?_set,if_pos rfl,if_pos c2,Nat.sub_self];rfl
   ·rw[if_neg (by omega),List.getElem?_set,if_pos rfl,if_neg c2,List.getElem?_eq_none (by omega)]
  ·by_cases c2:j+1≤t∧t<j+1+vs.length∧t<xs.length
   ·rw[if_pos c2,if_pos ⟨by omega,by simp;omega,c2.2.2⟩,show t-j=(t-(j+1))+1 by omega,List.getElem?_cons_succ]
   ·rw[if_neg c2,if_neg (by simp at c2 ⊢;omega),List.getElem?_set,if_neg (Ne.symm c1)]
theorem setL_out:∀(vs xs:List Value) (j:Nat),xs.length≤j→setL xs j vs=xs
 | [],_,_,_=>rfl
 |v::vs,xs,j,h=>by rw[setL,List.set_eq_of_length_le h,setL_out vs xs (j+1) (by omega)]
section
variable {α:Type} [Inhabited α] {enc:α→List Value} {k:Nat}
theorem setL_fm(hk:∀x,(enc x).length=k)(xs:List α)(i:Nat)(y:α)(hi:i<xs.length):setL (xs.flatMap enc) (i*k) (enc y)=(xs.set i y).flatMap enc:=by
 apply List.ext_getElem?
 intro t
 rw[setL_get,hk,Sk.fm_len enc k hk]
 by_cases ht:t<xs.length*k
 ·have k0:0<k:=by rcases Nat.eq_zero_or_pos k with h|h;·subst h;simp at ht
                  ·exact h
  have h1:t/k<xs.length:=by rw[Nat.div_lt_iff_lt_mul k0];exact ht
  have h2:t %k<k:=Nat.mod_lt _ k0
  have e1:t/k*k+t %k=t:=by rw[Nat.mul_comm,Nat.div_add_mod]
  have r:=Sk.fm_get enc k hk (xs.set i y) (t/k) (t %k) (by simpa using h1) h2
  have r0:=Sk.fm_get enc k hk xs (t/k) (t %k) h1 h2
  rw[e1]at r r0
  rw[r]
  by_cases c:t/k=i
  ·have c1:i*k≤t:=by rw[←c];omega
   have c2:t<i*k+k:=by rw[←c];omega
   have c3:t-i*k=t %k:=by rw[←c];omega
   rw[if_pos ⟨c1,c2,ht⟩,c3,c]
   congr 2
   rw[List.getD_eq_getElem?_getD,List.getElem?_set,if_pos rfl,if_pos hi];rfl
  ·have c1:¬(i*k≤t∧t<i*k+k∧t<xs.length*k):=by
    rintro⟨h3,h4,_⟩
    apply c
    rw[Nat.div_eq_iff k0]
    constructor
    ·exact h3
    ·omega
   rw[if_neg c1,r0]
   congr 2
   rw[List.getD_eq_getElem?_getD,List.getD_eq_getElem?_getD,List.getElem?_set,if_neg (Ne.symm c)]
 ·rw[if_neg (fun h=>ht h.2.2),List.getElem?_eq_none (by rw[Sk.fm_len enc k hk];omega),List.getElem?_eq_none (by rw[Sk.fm_len enc k hk,List.length_set];omega)]
omit [Inhabited α]in
theorem fm_take(hk:∀x,(enc x).length=k)(xs:List α)(m:Nat):(xs.flatMap enc).take (m*k)=(xs.take m).flatMap enc:=by
 induction xs generalizing m with
 |nil=>simp
 |cons x xs ih=>
  cases m with
  |zero=>simp
  |succ m=>
   rw[List.flatMap_cons,List.take_succ_cons,List.flatMap_cons,←ih m]
   rw[show(m+1)*k=(enc x).length+m*k by rw[hk,Nat.add_mul];omega,List.take_length_add_append]
end
theorem gb_trans {a b c:World} {r:Option Nat}(h1:a.grownBy b r)(h2:b.grownBy c r):a.grownBy c r:=
 ⟨h2.os.trans h1.os,h2.tape.trans h1.tape,h2.output.trans h1.output,Nat.le_trans h1.size h2.size,fun i hi hr=>(h2.block i (Nat.lt_of_lt_of_le hi h1.size) hr).trans (h1.block i hi hr)⟩
theorem gb_refl(w:World)(r:Option Nat):w.grownBy w r:=⟨rfl,rfl,rfl,Nat.le_refl _,fun _ _ _=>rfl⟩
theorem gb_below {a w:World} {r:Option Nat}(h:Below a.heap.size a w):a.grownBy w r:=⟨h.os,h.tape,h.output,h.size,fun i hi _=>h.block i hi⟩
theorem own_setCells {base:Nat} {e:TypeId} {size g n cap:Nat}:∀(vs xs:List Value) (w:World) (j:Nat),w.ownsRow base e size (.slice (some ⟨g,0,none⟩) n cap) n xs→(w.setCells g j vs).ownsRow base e size (.slice (some ⟨g,0,none⟩) n cap) n (setL xs j vs)∧w.grownBy (w.setCells g j vs) (some g)
 | [],_,_,_,h=>⟨h,gb_refl _ _⟩
 |v::vs,xs,w,j,h=>by
  have h1:=h.stored j v
  have h2:=own_setCells vs _ _ (j+1) h1.1
  exact⟨h2.1,gb_trans h1.2 h2.2⟩
theorem own_cut {w:World} {base:Nat} {e:TypeId} {size g n cap m:Nat} {xs:List Value}(h:w.ownsRow base e size (.slice (some ⟨g,0,none⟩) n cap) n xs)(hm:m≤n):w.ownsRow base e size (.slice (some ⟨g,0,none⟩) m cap) m (xs.take (m*size)):=by
 have hl:=h.1
 have hms:m*size≤n*size:=Nat.mul_le_mul_right size hm
 rcases h.2 with⟨h',_⟩|⟨g',cap',cur,h',hb,hg,hnc,hcm,hcs,ht⟩
 ·simp at h'
 ·simp only[Value.slice.injEq,Option.some.injEq,Addr.mk.injEq,and_true,true_and]at h'
  obtain⟨rfl,rfl⟩:=h'
  exact⟨by rw[List.length_take,hl];omega,.inr ⟨g,cap,cur,rfl,hb,hg,Nat.le_trans hm hnc,hcm,hcs,by rw[←ht,List.take_take,Nat.min_eq_left hms]⟩⟩
theorem own_put {α:Type} [Inhabited α] {enc:α→List Value} {k:Nat}(hk:∀x,(enc x).length=k) {w:World} {base:Nat} {e:TypeId} {g n cap:Nat} {xs:List α}(h:w.ownsRow base e k (.slice (some ⟨g,0,none⟩) n cap) n (xs.flatMap enc))(hl:xs.length=n) {i:Nat}(hi:i<n)(y:α):
 (w.setCells g (i*k) (enc y)).ownsRow base e k (.slice (some ⟨g,0,none⟩) n cap) n ((xs.set i y).flatMap enc)∧w.grownBy (w.setCells g (i*k) (enc y)) (some g):=by
 have:=own_setCells (enc y) _ w (i*k) h
 rw[setL_fm hk xs i y (by omega)]at this
 exact this
theorem own_clear {α:Type} [Inhabited α] {enc:α→List Value} {k:Nat}(hk:∀x,(enc x).length=k) {w:World} {base:Nat} {e:TypeId} {g n cap:Nat} {xs:List α}(h:w.ownsRow base e k (.slice (some ⟨g,0,none⟩) n cap) n (xs.flatMap enc)) {m:Nat}(hm:m≤n)(vs:List Value):
 (w.setCells g (m*k) vs).ownsRow base e k (.slice (some ⟨g,0,none⟩) m cap) m ((xs.take m).flatMap enc)∧w.grownBy (w.setCells g (m*k) vs) (some g):=by
 have h1:=own_cut h hm
 rw[fm_take hk]at h1
 have h2:=own_setCells vs _ w (m*k) h1
 rw[setL_out _ _ _ (by rw[h1.1];exact Nat.le_refl _)]at h2
 exact h2
theorem zeroCells_len(z:Array Value)(n:Nat):(Builtin.zeroCells z n).toList.length=n*z.size:=by simp[Builtin.zeroCells]
theorem zeroCells_one {z:Array Value}(h:∀v∈z,v.oneCell'=true)(n:Nat):∀v∈(Builtin.zeroCells z n).toList,v.oneCell'=true:=by
 intro v hv
 simp only[Builtin.zeroCells,Array.toList_map,List.mem_map,Array.toList_range,List.mem_range]at hv
 obtain⟨i,hi,rfl⟩:=hv
 have hz:0<z.size:=by rcases Nat.eq_zero_or_pos z.size with h|h;·rw[h]at hi;simp at hi
                      ·exact h
 rw[getElem!_pos z (i %z.size) (Nat.mod_lt _ hz)]
 exact h _ (Array.getElem_mem _)
theorem run_clear_own {P:Program} {α:Type} {enc:α→List Value} {k:Nat} {w:World} {base:Nat} {e:TypeId} {g n cap:Nat} {xs:List α}(h:w.ownsRow base e k (.slice (some ⟨g,0,none⟩) n cap) n (xs.flatMap enc)) {m:Nat}(hm:m<n)
 (t ty:TypeId) (z:Value) (ht:P.underlying t=some (.slice e)) (hv:∀w,(zeroValue e).run P w= .ok z w) (hz:z.cells.size=k) (h1:∀v∈z.cells,v.oneCell'=true) (c:Nat):
 (Builtin.clear_ #[t] ty #[.slice (some ⟨g,m*k,none⟩) (n-m) c]).run P w= .ok (.tuple #[]) (w.setCells g (m*k) (Builtin.zeroCells z.cells (n-m)).toList):=by
 have hb:m*k+(n-m)*k=n*k:=by rw[←Nat.add_mul];congr 1;omega
 have hl:=h.1
 have hst:=run_storeCells_cells (P:=P) g (m*k) (Builtin.zeroCells z.cells (n-m)).toList 0 w (by
  intro j hj
  rw[zeroCells_len,hz]at hj
  rw[Nat.add_zero,h.cellAt _ (by omega),List.getElem?_eq_getElem (by omega)];rfl) (by intro j _;exact h.frozenAt _) (zeroCells_one h1 _)
 simp only[Nat.add_zero]at hst
 obtain⟨q,hq⟩:∃q,n-m=q+1:=⟨n-m-1,by omega⟩
 rw[hq]at hst ⊢
 simp[Builtin.clear_,run_underlying ht,hv,hst]
structure Elt(P:Program) {α:Type}(enc:α→List Value)(k:Nat)(t T:TypeId):Prop where
 len:∀x,(enc x).length=k
 pos:0<k
 one:∀x,∀v∈enc x,v.oneCell'=true
 under:P.underlying t=some (.slice T)
 info:∃i z,P.info? T=some i∧i.zero=some z∧i.size=k∧i.bytes≤1024∧z.cells.size=k
theorem run_append_nil {P:Program} {w:World} {t T ty:TypeId} {i:TypeInfo}(ht:P.underlying t=some (.slice T))(hi:P.info? T=some i)(v:Value)(c:Nat)(hv:v= .slice none 0 0∨∃g n cap,v= .slice (some ⟨g,0,none⟩) n cap∧n≤cap):
 (Builtin.append_ #[t,t] ty #[v,.slice none 0 c]).run P w= .ok v w:=by
 rcases hv with rfl|⟨g,n,cap,rfl,hnc⟩
 ·simp[Builtin.append_,run_underlying ht,sizeOf,typeInfo,hi,Builtin.lenOf,Builtin.firstCells]
 ·simp[Builtin.append_,run_underlying ht,sizeOf,typeInfo,hi,Builtin.lenOf,Builtin.firstCells,hnc,storeCells]
theorem run_append_sls {P:Program} {α:Type} [Inhabited α] {enc:α→List Value} {k:Nat} {t T:TypeId}(E:Elt P enc k t T)(ty:TypeId)(w:World)(base:Nat)(v:Value)(xs:List α)(hown:w.ownsRow base T k v xs.length (xs.flatMap enc))
 (A:Option Addr) (m c:Nat) (ys:List α) (hs:Sls enc k w A m ys) (h63:xs.length+m≤1000000000) (hbase:base≤w.heap.size):
 ∃v' w',(Builtin.append_ #[t,t] ty #[v,.slice A m c]).run P w= .ok v' w'∧w'.ownsRow base T k v' (xs++ys).length ((xs++ys).flatMap enc)∧w.grownBy w' v.ownBlock∧(v'.ownBlock=v.ownBlock∨v'.ownBlock=some w.heap.size):=by
 obtain⟨i,z,hi,hz,hsz,hby,hzs⟩:=E.info
 have hbb:(xs.length+m)*i.bytes≤140737488355328:=Nat.le_trans (Nat.mul_le_mul h63 hby) (by decide)
 have hml:xs.length+m≤maxLen:=by unfold maxLen;omega
 have hl:(ys.flatMap enc).length=m*k:=by rw[Sk.fm_len enc k E.len,hs.len]
 have h1:∀u∈ys.flatMap enc,u.oneCell'=true:=fun u hu=>by
  rw[List.mem_flatMap]at hu
  obtain⟨x,_,hx⟩:=hu
  exact E.one x u hx
 have key:∀ad,A=some ad→(∀j u,(ys.flatMap enc)[j]? =some u→w.cell? (ad.add j)=some u)→∃v' w',(Builtin.append_ #[t,t] ty #[v,.slice A m c]).run P w= .ok v' w'∧w'.ownsRow base T k v' (xs++ys).length ((xs++ys).flatMap enc)∧w.grownBy w' v.ownBlock∧(v'.ownBlock=v.ownBlock∨v'.ownBlock=some w.heap.size):=by
  rintro ad rfl hn
  obtain⟨v',w',hr,h2,h3,_,h5⟩:=run_append_own_at (P:=P) w base t ty T i z k i.bytes E.under hi hz hsz rfl hzs E.pos v xs.length _ hown ad m c _ hl hn h1 hml hbb hbase
  refine⟨v',w',hr,?_,h3,h5⟩
  rw[List.length_append,List.flatMap_append,hs.len]
  exact h2
 rcases Nat.eq_zero_or_pos m with rfl|hm
 ·have hy:ys= []:=List.length_eq_zero_iff.1 hs.len
  rcases A with _|ad
  ·refine⟨v,w,run_append_nil E.under hi v c ?_,by rw[hy,List.append_nil];exact hown,⟨rfl,rfl,rfl,Nat.le_refl _,fun _ _ _=>rfl⟩,.inl rfl⟩
   rcases hown.2 with⟨hv,_⟩|⟨g,cap,cur,hv,_,_,r1,_⟩
   ·exact .inl hv
   ·exact .inr ⟨g,_,cap,hv,r1⟩
  ·exact key ad rfl (fun j u hu=>by rw[hy]at hu;cases hu)
 ·obtain⟨b,off,rfl,_⟩:=hs.at_ hm
  exact key _ rfl (hs.news E.len hm)
section
variable {P:Program} {α:Type} [Inhabited α] {enc:α→List Value} {k:Nat} {t T:TypeId}
theorem wp_append_sls {o:Oper} {a:Act} {K:Act→World→Prop} {Q:Exit→Act→World→Prop}(E:Elt P enc k t T)(w:World)(s x:Operand)(ho:o.op= .call { callee:= .builtin .append,args:=#[s,x],argTypes:=#[t,t]})
 (base:Nat) (v:Value) (xs:List α) (hv:a.eval s=v) (hown:w.ownsRow base T k v xs.length (xs.flatMap enc))
 (A:Option Addr) (m c:Nat) (ys:List α) (hx:a.eval x= .slice A m c) (hs:Sls enc k w A m ys) (h63:xs.length+m≤1000000000) (hbase:base≤w.heap.size)
 (h:∀v' w',w'.ownsRow base T k v' (xs++ys).length ((xs++ys).flatMap enc)→w.grownBy w' v.ownBlock→(v'.ownBlock=v.ownBlock∨v'.ownBlock=some w.heap.size)→K (a.put o.dst v') w'):o.wp P a w K Q:=by
 obtain⟨v',w',hr,h2,h3,h4⟩:=run_append_sls E o.type w base v xs hown A m c ys hs h63 hbase
 unfold Oper.wp execOp
 simp only[ho,resolve,invoke,builtin,Sem.run_bind,Sem.run_pure,Result.andThen_ok,List.map_toArray,List.map_cons,List.map_nil,hv,hx,hr]
 exact h v' w' h2 h3 h4
theorem wpList_append_sls {ops:Array Oper} {rest:List Oper} {o:Oper} {a:Act} {Q:Exit→Act→World→Prop}(E:Elt P enc k t T)(w:World)(hgd:o.guard=none)(s x:Operand)(ho:o.op= .call { callee:= .builtin .append,args:=#[s,x],argTypes:=#[t,t]})
 (base:Nat) (v:Value) (xs:List α) (hv:a.eval s=v) (hown:w.ownsRow base T k v xs.length (xs.flatMap enc))
 (A:Option Addr) (m c:Nat) (ys:List α) (hx:a.eval x= .slice A m c) (hs:Sls enc k w A m ys) (h63:xs.length+m≤1000000000) (hbase:base≤w.heap.size)
 (h:∀v' w',w'.ownsRow base T k v' (xs++ys).length ((xs++ys).flatMap enc)→w.grownBy w' v.ownBlock→(v'.ownBlock=v.ownBlock∨v'.ownBlock=some w.heap.size)→wpList P ops Q rest (a.put o.dst v') w'):wpList P ops Q (o::rest) a w:=
 wpList_plain hgd fun _ hK=>wp_append_sls E w s x ho base v xs hv hown A m c ys hx hs h63 hbase fun v' w' h2 h3 h4=>hK _ _ (h v' w' h2 h3 h4)
theorem step_append_sls {ops:Array Oper} {o:Oper} {a:Act} {K:Act→World→Prop} {Q:Exit→Act→World→Prop} {F:Prop}(E:Elt P enc k t T)(w:World)(hgd:o.guard=none)(s x:Operand)(ho:o.op= .call { callee:= .builtin .append,args:=#[s,x],argTypes:=#[t,t]})
 (base:Nat) (v:Value) (xs:List α) (hv:a.eval s=v) (hown:w.ownsRow base T k v xs.length (xs.flatMap enc))
 (A:Option Addr) (m c:Nat) (ys:List α) (hx:a.eval x= .slice A m c) (hs:Sls enc k w A m ys) (h63:xs.length+m≤1000000000) (hbase:base≤w.heap.size)
 (h:∀v' w',w'.ownsRow base T k v' (xs++ys).length ((xs++ys).flatMap enc)→w.grownBy w' v.ownBlock→(v'.ownBlock=v.ownBlock∨v'.ownBlock=some w.heap.size)→K (a.put o.dst v') w'):
 if Region.wanted o (yielded ops a.tmps)=true then Oper.wp P o a w K Q else F:=by
 have hw:Region.wanted o (yielded ops a.tmps)=true:=by simp[Region.wanted,hgd]
 rw[if_pos hw]
 exact wp_append_sls E w s x ho base v xs hv hown A m c ys hx hs h63 hbase h
end
theorem own_empty {α:Type}(enc:α→List Value) {k:Nat}(w:World)(T:TypeId) {base:Nat}(hb:base≤w.heap.size):(w.alloc (.cells #[] T)).ownsRow base T k (.slice (some ⟨w.heap.size,0,none⟩) 0 0) ([]:List α).length (([]:List α).flatMap enc):=
 ⟨by simp,.inr ⟨w.heap.size,0,#[],rfl,hb,heap_alloc_new w _,by simp,by simp,by simp,by simp⟩⟩
theorem Sls.one {α:Type} [Inhabited α] {enc:α→List Value} {k:Nat} {w:World} {B:Nat} {x:α} {t:TypeId}(h:Blk w B (enc x).toArray t):Sls enc k w (some ⟨B,0,none⟩) 1 [x]where
 len:=rfl
 small:=by unfold maxLen;omega
 at_:=fun _=>⟨B,0,rfl,h.lt,fun i hi j hj=>by
  obtain rfl:i=0:=by omega
  have:=h.cell j
  simpa using this⟩
theorem Sls.drop {α:Type} [Inhabited α] {enc:α→List Value} {k:Nat} {w:World} {b off n:Nat} {xs:List α}(h:Sls enc k w (some ⟨b,off,none⟩) n xs) {m:Nat}(hm:m≤n):Sls enc k w (some ⟨b,off+m*k,none⟩) (n-m) (xs.drop m)where
 len:=by rw[List.length_drop,h.len]
 small:=Nat.le_trans (Nat.sub_le _ _) h.small
 at_:=fun h0=>by
  obtain⟨b',off',e,hb,hc⟩:=h.at_ (by omega)
  injection e with e
  injection e with e1 e2
  subst e1
  subst e2
  refine⟨b,_,rfl,hb,fun i hi j hj=> ?_⟩
  have:=hc (m+i) (by omega) j hj
  rw[show off+m*k+i*k+j=off+(m+i)*k+j by rw[Nat.add_mul];omega,this]
  simp[List.getD_eq_getElem?_getD]
theorem Sls.empty {α:Type} [Inhabited α] {enc:α→List Value} {k:Nat} {w:World}(A:Option Addr):Sls enc k w A 0 ([]:List α):=⟨rfl,by unfold maxLen;omega,fun h=>by omega⟩
theorem own_cap {w:World} {base:Nat} {e:TypeId} {size n:Nat} {A:Option Addr} {m c:Nat} {xs:List Value}(h:w.ownsRow base e size (.slice A m c) n xs):n≤c:=by
 rcases h.2 with⟨hv,h0⟩|⟨g,cap,cur,hv,_,_,r1,_⟩
 ·injection hv with _ _ e;omega
 ·injection hv with _ _ e;omega
theorem _root_.Go.RowKit.Below.keep {a w w':World}(h:Below a.heap.size a w)(k:Below w.heap.size w w'):Below a.heap.size a w':=bthen h k
theorem take_snoc {α:Type} [Inhabited α] {xs:List α} {k:Nat}(hk:k<xs.length):xs.take (k+1)=xs.take k++ [xs.getD k default]:=by
 rw[List.take_succ_eq_append_getElem hk,List.getD_eq_getElem?_getD,List.getElem?_eq_getElem hk];rfl
theorem ok_at {α:Type} [Inhabited α] {P:α→Prop} {xs:List α}(h:∀x∈xs,P x) {k:Nat}(hk:k<xs.length):P (xs.getD k default):=by
 rw[List.getD_eq_getElem?_getD,List.getElem?_eq_getElem hk];exact h _ (List.getElem_mem hk)
theorem gbt {a w w':World} {r:Option Nat}(h:a.grownBy w r)(k:w.grownBy w' r):a.grownBy w' r:=
 ⟨k.os.trans h.os,k.tape.trans h.tape,k.output.trans h.output,Nat.le_trans h.size k.size,fun i hi hr=>(k.block i (Nat.lt_of_lt_of_le hi h.size) hr).trans (h.block i hi hr)⟩
theorem gbb {a w:World} {r:Option Nat}(h:Below a.heap.size a w):a.grownBy w r:=⟨h.os,h.tape,h.output,h.size,fun i hi _=>h.block i hi⟩
theorem Box.grownM {w w':World} {B M:Nat} {C:Array Value}(h:Box w B C)(hg:w.grownBy w' (some M))(hne:B≠M):Box w' B C:=
 ⟨Nat.lt_of_lt_of_le h.lt hg.size,fun i=>by rw[World.cell?_of_block (w:=w) (hg.block _ h.lt (fun e=>by injection e with e;exact hne e))];exact h.at_ i⟩
theorem all_range_true {p:Nat→Bool} {n:Nat}(h:∀k,k<n→p k=true):(List.range n).all p=true:=by
 rw[List.all_eq_true]
 intro k hk
 exact h k (List.mem_range.1 hk)
theorem all_range {p:Nat→Bool} {n:Nat}(h:(List.range n).all p=true) {k:Nat}(hk:k<n):p k=true:=by
 rw[List.all_eq_true]at h
 exact h k (List.mem_range.2 hk)
theorem pw_chain {α:Type} [Inhabited α] {R:α→α→Prop}(ht:∀ {a b c:α},R a b→R b c→R a c) {xs:List α}(h:∀i,i+1<xs.length→R (xs.getD i default) (xs.getD (i+1) default)):xs.Pairwise R:=by
 have key:∀j,j<xs.length→∀i,i<j→R (xs.getD i default) (xs.getD j default):=by
  intro j
  induction j with
  |zero=>intro _ i hi;omega
  |succ j ih=>
   intro hj i hi
   by_cases c:i=j
   ·subst c;exact h i hj
   ·exact ht (ih (by omega) i (by omega)) (h j hj)
 rw[List.pairwise_iff_getElem]
 intro i j hi hj hij
 have:=key j hj i hij
 rwa[List.getD_eq_getElem?_getD,List.getD_eq_getElem?_getD,List.getElem?_eq_getElem hi,List.getElem?_eq_getElem hj]at this
theorem info_parts {P:Program} {t:TypeId} {z:Value} {k b:Nat}(h:(P.info? t).map (fun i=>(i.zero,i.size,i.bytes))=some (some z,k,b)):∃i,P.info? t=some i∧i.zero=some z∧i.size=k∧i.bytes=b:=by
 cases hi:P.info? t with
 |none=>rw[hi]at h;cases h
 |some i=>rw[hi]at h;simp at h;exact⟨i,rfl,h.1,h.2.1,h.2.2⟩
theorem Below.grownM {W0 W W':World} {M:Nat} {r:Option Nat}(h:Below M W0 W)(hg:W.grownBy W' r)(hM:M≤W.heap.size)(hr:∀k,r=some k→M≤k):Below M W0 W':=h.grown hg hM hr
theorem own_slice {w:World} {base:Nat} {e:TypeId} {size n:Nat} {v:Value} {xs:List Value}(h:w.ownsRow base e size v n xs):∃A c,v= .slice A n c:=by
 rcases h.2 with⟨h,h0⟩|⟨g,cap,cur,h,_⟩
 ·exact⟨none,0,by rw[h,h0]⟩
 ·exact⟨_,_,h⟩
theorem own_base {w:World} {base base':Nat} {e:TypeId} {size n:Nat} {v:Value} {xs:List Value}(h:w.ownsRow base e size v n xs)(hb:base'≤base):w.ownsRow base' e size v n xs:=
 ⟨h.1,h.2.imp id fun⟨g,cap,cur,h1,h2,h3⟩=>⟨g,cap,cur,h1,Nat.le_trans hb h2,h3⟩⟩
theorem fm_one {α:Type} {enc:α→List Value}(h1:∀x,∀v∈enc x,v.oneCell'=true)(xs:List α):∀u∈xs.flatMap enc,u.oneCell'=true:=fun u hu=>by
 obtain⟨x,_,h⟩:=List.mem_flatMap.1 hu
 exact h1 x u h
theorem filter_take_succ {α:Type} [Inhabited α](p:α→Bool)(xs:List α)(k:Nat)(h:k<xs.length):(xs.take (k+1)).filter p=(xs.take k).filter p++(if p (xs.getD k default)=true then [xs.getD k default]else []):=by
 rw[take_snoc h,List.filter_append]
 generalize xs.getD k default=x
 cases hp:p x<;>simp[hp]
theorem row_ne_blk {w:World} {b e s n B:Nat} {t:TypeId} {v:Value} {xs:List Value} {C:Array Value}(h:w.ownsRow b e s v n xs)(k:Blk w B C t)(hne:e≠t):v.ownBlock≠some B:=by
 rcases h.2 with⟨rfl,_⟩|⟨g,c,cur,rfl,_,hg,_⟩
 ·simp[Value.ownBlock]
 ·intro e2
  simp only[Value.ownBlock,Option.some.injEq]at e2
  subst e2
  rw[k.at_]at hg
  injection hg with hg
  injection hg with _ h
  exact hne h.symm
theorem list_eq_getD {α:Type} [Inhabited α] {xs ys:List α} {n:Nat}(h1:xs.length=n)(h2:ys.length=n)(h:∀j,j<n→xs.getD j default=ys.getD j default):xs=ys:=by
 apply List.ext_getElem (by omega)
 intro i h3 h4
 have:=h i (by omega)
 rw[List.getD_eq_getElem?_getD,List.getD_eq_getElem?_getD,List.getElem?_eq_getElem h3,List.getElem?_eq_getElem h4]at this
 exact this
theorem gb_set1(w:World)(g i:Nat)(v:Value):w.grownBy (w.setCell ⟨g,i,none⟩ v) (some g):=
 ⟨rfl,rfl,rfl,by simp[World.setCell],fun k _ hne=>heap_setCell_other w ⟨g,i,none⟩ k v (fun e=>hne (by rw[e]))⟩
theorem Sls.grownBlk {α:Type} [Inhabited α] {enc:α→List Value} {k:Nat}(hk:∀x,(enc x).length=k) {w w':World} {A:Option Addr} {n:Nat} {xs:List α}(h:Sls enc k w A n xs) {M:Nat} {C:Array Value} {t:TypeId}(hB:Blk w M C t)(hC:C.size<k)(hg:w.grownBy w' (some M)):Sls enc k w' A n xs where
 len:=h.len
 small:=h.small
 at_:=fun hn=>by
  obtain⟨b,off,e,hb,hc⟩:=h.at_ hn
  have hne:some b≠some M:=fun e=>by
   injection e with e
   subst e
   have h1:=hc 0 hn (k-1) (by omega)
   rw[hB.cell,Array.getElem?_eq_none (by omega),List.getElem?_eq_getElem (by rw[hk];omega)]at h1
   cases h1
  refine⟨b,off,e,Nat.lt_of_lt_of_le hb hg.size,fun i hi j hj=> ?_⟩
  rw[←hc i hi j hj]
  exact hg.cell_far ⟨b,_,none⟩ hb hne
theorem same_below {P:Program} {f:Nat} {args:Array Value} {w:World} {v:Value}(h:Calls P f args w fun e w'=>e= .returned v∧w=w'):Calls P f args w fun e w'=>e= .returned v∧Below w.heap.size w w':=
 h.mono fun _ _ ⟨a,b⟩=>⟨a,b▸Below.refl _ _⟩
theorem _root_.Go.Proofs.YtfamifgchgolpaaGreat.Mm.Blk.box {w:World} {B:Nat} {C:Array Value} {t:TypeId}(h:Blk w B C t):Box w B C:=Box.of_blk h
end Sw
end Go.Proofs.YtfamifgchgolpaaGreat
