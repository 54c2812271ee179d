/- Chapter 25, plain: ascending places; two lists of the same length, one among the other, are equal. -/
import Derived.Test.YtfamifgchgolpaaGreatBc
set_option linter.unusedVariables false
set_option linter.unusedSimpArgs false
namespace Go.Proofs.YtfamifgchgolpaaGreat
namespace Tx
def Asc(l:List Spt):Prop:=l.Pairwise fun a b=>a.slot<b.slot
theorem asc_eq:∀(m l:List Spt),Asc l→Asc m→m.length≤l.length→(∀x∈l,x∈m)→l=m
 | [],l,_,_,_,hs=>by
   cases l with
   |nil=>rfl
   |cons x _=>exact absurd (hs x (by simp)) (by simp)
 |y::m',l,hl,hm,hn,hs=>by
  cases l with
  |nil=>simp at hn
  |cons x l'=>
   unfold Asc at hl hm
   rw[List.pairwise_cons]at hl hm
   have hx:y.slot≤x.slot:=by
    have:=hs x (by simp)
    rw[List.mem_cons]at this
    rcases this with rfl|h
    ·omega
    ·have:=hm.1 x h;omega
   have hsub:∀z∈l',z∈m':=fun z hz=>by
    have h1:=hs z (by simp[hz])
    rw[List.mem_cons]at h1
    rcases h1 with rfl|h
    ·have:=hl.1 z hz;omega
    ·exact h
   have e:=asc_eq m' l' hl.2 hm.2 (by simpa using hn) hsub
   have h1:=hs x (by simp)
   rw[List.mem_cons]at h1
   rcases h1 with rfl|h
   ·rw[e]
   ·rw[←e]at h
    have:=hl.1 x h;omega
theorem asc_adj:∀(l:List Spt),(∀j,0<j→j<l.length→(l.getD (j-1) default).slot<(l.getD j default).slot)→Asc l
 | [],_=>List.Pairwise.nil
 | [x],_=>by unfold Asc;simp
 |x::y::l,h=>by
  have ih:=asc_adj (y::l) (fun j h0 h1=>by
   have:=h (j+1) (by omega) (by simpa using h1)
   cases j with
   |zero=>omega
   |succ j=>simpa using this)
  have h1:=h 1 (by omega) (by simp)
  simp at h1
  unfold Asc at*
  rw[List.pairwise_cons]
  refine⟨fun z hz=> ?_,ih⟩
  rw[List.mem_cons]at hz
  rcases hz with rfl|hz
  ·exact h1
  ·have:=(List.pairwise_cons.1 ih).1 z hz
   omega
theorem placesN_asc {l:List Spt}(h:placesN l=0):Asc l:=asc_adj l fun j h0 h1=>by
 have:=fstF_zero h j h1
 unfold faultP at this
 split at this
 ·omega
 ·split at this
  ·omega
  ·omega
theorem chkM_zero {m:Msg}(h:chkM m=0):placesN m.spots=0∧placesN m.old=0∧follN m=true:=by
 unfold chkM at h
 split at h
 ·omega
 ·split at h
  ·omega
  ·split at h
   ·omega
   ·split at h
    ·omega
    ·split at h
     ·omega
     ·split at h
      ·omega
      ·rename_i h1 h2 h3
       exact⟨by omega,by omega,by simpa using h3⟩
theorem old_nil {m:Msg}(h:follN m=true)(h1:m.kind=1)(h2:m.code=0):m.old= []:=by
 unfold follN at h
 simp[h1,h2]at h
 exact h.1
def ansR(q r:Msg):Bool:=
 if chkM q≠0∨chkM r≠0∨q.reply=true∨r.reply=false∨q.kind≠r.kind∨q.number≠r.number then false
 else if r.code≠0 then true
 else if r.kind=1∨r.kind=3 then decide (r.count≤q.count)&&(amongN r.spots q.spots&&amongN r.old q.old)
 else if r.kind=2 then decide (r.old.length=q.old.length)&&amongN r.old q.old else true
theorem ansR_eq(q r:Msg):ansR q r=ansN q r:=by
 unfold ansR ansN
 split
 ·rfl
 ·rename_i hc
  have hq:=chkM_zero (m:=q) (by omega)
  have hr:=chkM_zero (m:=r) (by omega)
  have hk:q.kind=r.kind:=by omega
  rw[hk]
  split
  ·rfl
  ·rename_i hd
   by_cases k1:r.kind=1
   ·have e:=old_nil hr.2.2 k1 (by omega)
    simp[k1,e,amongN]
   ·by_cases k3:r.kind=3
    ·simp[k3]
    ·by_cases k2:r.kind=2
     ·simp only[k2,if_true]
      rw[if_neg (by omega),if_neg (by omega),if_neg (by omega),Bool.eq_iff_iff]
      simp only[Bool.and_eq_true,decide_eq_true_eq]
      constructor
      ·rintro⟨h1,h2⟩
       unfold amongN at h2
       rw[List.all_eq_true]at h2
       exact asc_eq _ _ (placesN_asc hr.2.1) (placesN_asc hq.2.1) (by omega) (fun x hx=>of_decide_eq_true (h2 x hx))
      ·intro h
       rw[h]
       exact⟨rfl,by unfold amongN;rw[List.all_eq_true];exact fun x hx=>decide_eq_true hx⟩
     ·simp[k1,k2,k3]
theorem mem_getD {α:Type} [Inhabited α] {l:List α} {c:α}(h:c∈l):∃i,i<l.length∧l.getD i default=c:=by
 obtain⟨i,hi,e⟩:=List.mem_iff_getElem.1 h
 exact⟨i,hi,by rw[List.getD_eq_getElem?_getD,List.getElem?_eq_getElem hi];exact e⟩
theorem getD_mem {α:Type} [Inhabited α] {l:List α} {i:Nat}(h:i<l.length):l.getD i default∈l:=by
 rw[List.getD_eq_getElem?_getD,List.getElem?_eq_getElem h];exact List.getElem_mem h
theorem pw_adj {α:Type} [Inhabited α] {R:α→α→Prop} {xs:List α}(h:xs.Pairwise R) {i:Nat}(h0:0<i)(hi:i<xs.length):R (xs.getD (i-1) default) (xs.getD i default):=by
 rw[List.pairwise_iff_getElem]at h
 have:=h (i-1) i (by omega) hi (by omega)
 rwa[List.getD_eq_getElem?_getD,List.getD_eq_getElem?_getD,List.getElem?_eq_getElem hi,List.getElem?_eq_getElem (by omega)]
theorem ltT_trans {a b c:TCl}(h1:ltT a b)(h2:ltT b c):ltT a c:=by unfold ltT at*;omega
structure TabOk(t:Tab):Prop where
 node0:0≤t.node
 node:t.node<32
 len1:1≤t.length
 len:t.length≤512
 size:t.cells.length≤512
 form:∀c∈t.cells,formN c t.node t.length=0
 asc:t.cells.Pairwise ltT
theorem faultT_zero {t:Tab} {i:Nat}:faultT t i=0↔formN (t.cells.getD i default) t.node t.length=0∧(0<i→ltT (t.cells.getD (i-1) default) (t.cells.getD i default)):=by
 unfold faultT
 split
 ·rename_i h;exact⟨fun h2=>absurd h2 h,fun h2=>absurd h2.1 h⟩
 ·rename_i h
  split
  ·rename_i h2;exact⟨fun h3=>absurd h3 (by decide),fun h3=>absurd (h3.2 h2.1) h2.2⟩
  ·rename_i h2
   refine⟨fun _=>⟨by omega,fun h0=> ?_⟩,fun _=>rfl⟩
   exact Decidable.byContradiction fun hn=>h2 ⟨h0,hn⟩
theorem chkT_iff(t:Tab):chkT t=0↔TabOk t:=by
 unfold chkT
 constructor
 ·intro h
  split at h
  ·cases h
  split at h
  ·cases h
  rename_i h1 h2
  have hz:=fstF_zero h
  refine⟨by omega,by omega,by omega,by omega,by omega,fun c hc=> ?_,?_⟩
  ·obtain⟨i,hi,rfl⟩:=mem_getD hc
   exact(faultT_zero.1 (hz i hi)).1
  ·refine Sw.pw_chain (α:=TCl) (R:=ltT) (fun h1 h2=>ltT_trans h1 h2) fun i hi=> ?_
   have:=(faultT_zero.1 (hz (i+1) hi)).2 (by omega)
   rwa[show i+1-1=i by omega]at this
 ·intro h
  have h1:=h.node0;have h2:=h.node;have h3:=h.len1;have h4:=h.len;have h5:=h.size
  rw[if_neg (by omega),if_neg (by omega)]
  exact fstF_none fun j hj=>faultT_zero.2 ⟨h.form _ (getD_mem hj),fun h0=>pw_adj h.asc h0 hj⟩
theorem putN_nil(c:TCl):putN [] c= [c]:=rfl
theorem putN_cons(x:TCl)(l:List TCl)(c:TCl):putN (x::l) c=if ltT x c then x::putN l c else c::x::l:=by
 unfold putN
 by_cases h:ltT x c<;>simp[h]
theorem putN_perm(l:List TCl)(c:TCl):(putN l c).Perm (c::l):=by
 unfold putN
 refine List.perm_middle.trans (List.Perm.cons _ ?_)
 rw[List.takeWhile_append_dropWhile]
theorem putN_len(l:List TCl)(c:TCl):(putN l c).length=l.length+1:=(putN_perm l c).length_eq
theorem putN_mem {l:List TCl} {c x:TCl}:x∈putN l c↔x=c∨x∈l:=by rw[(putN_perm l c).mem_iff,List.mem_cons]
def FreeT(l:List TCl)(c:TCl):Prop:=∀x∈l,¬(x.slot=c.slot∧x.kind=c.kind)
theorem taken_free {l:List TCl} {c:TCl}:takenN l c=false↔FreeT l c:=by
 unfold takenN FreeT
 rw[List.any_eq_false]
 simp
theorem putN_asc:∀ {l:List TCl} {c:TCl},l.Pairwise ltT→FreeT l c→(putN l c).Pairwise ltT
 | [],c,_,_=>by rw[putN_nil];simp
 |x::l,c,h,hf=>by
  rw[putN_cons]
  rw[List.pairwise_cons]at h
  split
  ·rename_i hx
   rw[List.pairwise_cons]
   refine⟨fun y hy=> ?_,putN_asc h.2 fun z hz=>hf z (List.mem_cons_of_mem _ hz)⟩
   rcases putN_mem.1 hy with rfl|hy
   ·exact hx
   ·exact h.1 y hy
  ·rename_i hx
   have hc:ltT c x:=by
    have:=hf x (List.mem_cons_self ..)
    unfold ltT at*;omega
   rw[List.pairwise_cons,List.pairwise_cons]
   refine⟨fun y hy=> ?_,h⟩
   rcases List.mem_cons.1 hy with rfl|hy
   ·exact hc
   ·exact ltT_trans hc (h.1 y hy)
structure AddOk(t:Tab)(c:TCl):Prop where
 tab:TabOk t
 form:formN c t.node t.length=0
 free:FreeT t.cells c
 size:t.cells.length<512
theorem addC_iff(t:Tab)(c:TCl):addC t c=0↔AddOk t c:=by
 unfold addC
 constructor
 ·intro h
  split at h
  ·cases h
  split at h
  ·rename_i h1;exact absurd h h1
  split at h
  ·cases h
  split at h
  ·cases h
  rename_i h1 h2 h3 h4
  have ht:=(chkT_iff t).1 (by omega)
  have:=ht.size
  exact⟨ht,by omega,taken_free.1 (by simpa using h3),by omega⟩
 ·intro h
  have h1:=(chkT_iff t).2 h.tab
  have h2:=h.form
  have h3:=taken_free.2 h.free
  have h4:=h.size
  rw[if_neg (by omega),if_neg (by omega),if_neg (by simp[h3]),if_neg (by omega)]
theorem addN_ok {t:Tab} {c:TCl}(h:AddOk t c):addN t c=⟨t.node,t.length,putN t.cells c⟩:=by
 unfold addN;rw[if_pos ((addC_iff t c).2 h)]
theorem addN_tab {t:Tab} {c:TCl}(h:AddOk t c):TabOk (addN t c):=by
 rw[addN_ok h]
 have hs:=h.size
 exact⟨h.tab.node0,h.tab.node,h.tab.len1,h.tab.len,by show(putN _ _).length≤_;rw[putN_len];omega,fun x hx=>by
  rcases putN_mem.1 hx with rfl|hx
  ·exact h.form
  ·exact h.tab.form x hx,putN_asc h.tab.asc h.free⟩
structure Adds(t:Tab)(l:List TCl):Prop where
 form:∀c∈l,formN c t.node t.length=0
 free:∀c∈l,FreeT t.cells c
 apart:l.Pairwise fun a b=>¬(a.slot=b.slot∧a.kind=b.kind)
 size:t.cells.length+l.length≤512
theorem Adds.nil {t:Tab}(h:TabOk t):Adds t []:=⟨by simp,by simp,List.Pairwise.nil,by have:=h.size;simpa using this⟩
theorem adds_cons {t:Tab}(ht:TabOk t) {c:TCl} {l:List TCl}:Adds t (c::l)↔AddOk t c∧Adds (addN t c) l:=by
 constructor
 ·intro h
  have hs:=h.size
  rw[List.length_cons]at hs
  have hp:=List.pairwise_cons.1 h.apart
  have ha:AddOk t c:=⟨ht,h.form c (List.mem_cons_self ..),h.free c (List.mem_cons_self ..),by omega⟩
  refine⟨ha,?_⟩
  rw[addN_ok ha]
  exact⟨fun x hx=>h.form x (List.mem_cons_of_mem _ hx),fun x hx y hy=>by
   rcases putN_mem.1 hy with rfl|hy
   ·exact hp.1 x hx
   ·exact h.free x (List.mem_cons_of_mem _ hx) y hy,hp.2,by show(putN _ _).length+ _≤_;rw[putN_len];omega⟩
 ·rintro⟨ha,h⟩
  rw[addN_ok ha]at h
  have hs:(putN t.cells c).length+l.length≤512:=h.size
  rw[putN_len]at hs
  refine⟨fun x hx=> ?_,fun x hx y hy=> ?_,?_,by rw[List.length_cons];omega⟩
  ·rcases List.mem_cons.1 hx with rfl|hx
   ·exact ha.form
   ·exact h.form x hx
  ·rcases List.mem_cons.1 hx with rfl|hx
   ·exact ha.free y hy
   ·exact h.free x hx y (putN_mem.2 (.inr hy))
  ·rw[List.pairwise_cons]
   exact⟨fun x hx=>h.free x hx c (putN_mem.2 (.inl rfl)),h.apart⟩
theorem adds_some:∀ {l:List TCl} {t:Tab},TabOk t→Adds t l→∃u,addsN t l=some u∧TabOk u∧u.node=t.node∧u.length=t.length∧u.cells.Perm (l++t.cells)
 | [],t,ht,_=>⟨t,rfl,ht,rfl,rfl,by simp⟩
 |c::l,t,ht,h=>by
  obtain⟨ha,hr⟩:=(adds_cons ht).1 h
  obtain⟨u,h1,h2,h3,h4,h5⟩:=adds_some (addN_tab ha) hr
  rw[addN_ok ha]at h3 h4 h5
  refine⟨u,?_,h2,h3,h4,h5.trans ?_⟩
  ·unfold addsN;rw[if_pos ((addC_iff t c).2 ha)];exact h1
  ·show(l++putN t.cells c).Perm (c::l++t.cells)
   refine((List.Perm.refl l).append (putN_perm t.cells c)).trans ?_
   rw[List.cons_append]
   exact List.perm_middle
theorem adds_of:∀ {l:List TCl} {t u:Tab},TabOk t→addsN t l=some u→Adds t l
 | [],t,_,ht,_=>Adds.nil ht
 |c::l,t,u,ht,h=>by
  unfold addsN at h
  split at h
  ·rename_i h1
   have ha:=(addC_iff t c).1 h1
   exact(adds_cons ht).2 ⟨ha,adds_of (addN_tab ha) h⟩
  ·cases h
structure CellOk(p:Int)(c:TCl):Prop where
 kind:c.kind=2
 peer:c.peer=p
 flow:c.flow= -1
 slot0:0≤c.slot
 slot:c.slot≤511
 off0:0≤c.off
 off:c.off≤15
def AscT(l:List TCl):Prop:=l.Pairwise fun a b=>a.slot<b.slot
theorem asc_len_aux:∀ {l:List TCl} {n:Int},AscT l→(∀c∈l,n≤c.slot∧c.slot≤511)→n≤512→n+l.length≤512
 | [],n,_,_,hn=>by simpa using hn
 |c::l,n,h,hb,_=>by
  unfold AscT at h
  rw[List.pairwise_cons]at h
  have h1:=hb c (List.mem_cons_self ..)
  have:=asc_len_aux (l:=l) (n:=c.slot+1) h.2 (fun x hx=>⟨by have:=h.1 x hx;omega,(hb x (List.mem_cons_of_mem _ hx)).2⟩) (by omega)
  rw[List.length_cons];push_cast;omega
theorem asc_len {l:List TCl}(h:AscT l)(hb:∀c∈l,0≤c.slot∧c.slot≤511):l.length≤512:=by
 have:=asc_len_aux (n:=0) h hb (by omega)
 omega
structure CellsOk(e:Ed):Prop where
 each:∀c∈e.cells,CellOk e.peer c
 asc:AscT e.cells
 num:e.number≠0∨e.cells= []
theorem CellsOk.len {e:Ed}(h:CellsOk e):e.cells.length≤512:=asc_len h.asc fun c hc=>⟨(h.each c hc).slot0,(h.each c hc).slot⟩
theorem cellOk_iff {e:Ed} {i:Nat}:cellOk e i=true↔CellOk e.peer (e.cells.getD i default)∧(i=0∨(e.cells.getD (i-1) default).slot<(e.cells.getD i default).slot):=by
 unfold cellOk
 simp only[Bool.and_eq_true,Bool.or_eq_true,decide_eq_true_eq]
 constructor
 ·rintro⟨a,b,c,d,f,g,h,k⟩;exact⟨⟨a,b,c,d,f,g,h⟩,k⟩
 ·rintro⟨⟨a,b,c,d,f,g,h⟩,k⟩;exact⟨a,b,c,d,f,g,h,k⟩
theorem cellsOk_iff(e:Ed):cellsOk e=true↔CellsOk e:=by
 unfold cellsOk
 rw[Bool.and_eq_true,Bool.or_eq_true,decide_eq_true_eq,decide_eq_true_eq,List.length_eq_zero_iff]
 constructor
 ·rintro⟨h,hn⟩
  refine⟨fun c hc=> ?_,?_,hn⟩
  ·obtain⟨i,hi,rfl⟩:=mem_getD hc
   exact(cellOk_iff.1 (Sw.all_range h hi)).1
  ·refine Sw.pw_chain (α:=TCl) (R:=fun a b=>a.slot<b.slot) (fun h1 h2=>Int.lt_trans h1 h2) fun i hi=> ?_
   have:=(cellOk_iff.1 (Sw.all_range h hi)).2
   rw[show i+1-1=i by omega]at this
   rcases this with h|h
   ·omega
   ·exact h
 ·intro h
  refine⟨Sw.all_range_true fun i hi=>cellOk_iff.2 ⟨h.each _ (getD_mem hi),?_⟩,h.num⟩
  by_cases h0:i=0
  ·exact .inl h0
  ·exact .inr (pw_adj h.asc (by omega) hi)
structure EdOk(e:Ed):Prop where
 node0:0≤e.node
 node:e.node≤31
 peer0:0≤e.peer
 peer:e.peer≤31
 num0:0≤e.number
 num:e.number≤255
 since0:0≤e.since
 since:e.since≤1099511627776
 ne:e.node≠e.peer
 cells:CellsOk e
 asked:askedOk e=true
 known:knownOk e=true
theorem chkE_iff(e:Ed):chkE e=0↔EdOk e:=by
 unfold chkE
 constructor
 ·intro h
  split at h
  ·cases h
  split at h
  ·cases h
  rename_i h1 h2
  simp only[not_or]at h1 h2
  obtain⟨a,b,c,d,f,g,k,l⟩:=h1
  exact⟨by omega,by omega,by omega,by omega,by omega,by omega,by omega,by omega,h2.1,(cellsOk_iff e).1 (by simpa using h2.2.1),by simpa using h2.2.2.1,by simpa using h2.2.2.2⟩
 ·intro h
  have h1:=h.node0;have h2:=h.node;have h3:=h.peer0;have h4:=h.peer;have h5:=h.num0;have h6:=h.num;have h7:=h.since0;have h8:=h.since
  rw[if_neg (by omega),if_neg]
  rintro(h9|h9|h9|h9)
  ·exact h.ne h9
  ·rw[(cellsOk_iff e).2 h.cells]at h9;cases h9
  ·rw[h.asked]at h9;cases h9
  ·rw[h.known]at h9;cases h9
theorem form_cell {c:TCl} {p node length:Int}(h:CellOk p c)(h0:0≤p)(h1:p≤31)(hn:p≠node):formN c node length=0↔c.slot<length:=by
 obtain⟨a,b,d,f,g,k,l⟩:=h
 unfold formN
 rw[if_neg (by omega),if_neg (by omega)]
 constructor
 ·intro h
  split at h
  ·cases h
  ·omega
 ·intro h
  rw[if_neg (by omega),if_neg (by omega)]
structure FullOk(t:Tab)(e:Ed):Prop where
 ed:EdOk e
 tab:TabOk t
 node:t.node=e.node
 btw:∀x∈t.cells,¬(x.kind=2∧x.peer=e.peer)
 inn:∀c∈e.cells,c.slot<t.length
 free:∀c∈e.cells,∀x∈t.cells,¬(x.slot=c.slot∧x.kind=2)
 size:t.cells.length+e.cells.length≤512
theorem betw_nil {t:Tab}(h:TabOk t)(p:Int):(betwN t p).length=0↔∀x∈t.cells,¬(x.kind=2∧x.peer=p):=by
 unfold betwN
 rw[if_pos ((chkT_iff t).2 h),List.length_eq_zero_iff,List.filter_eq_nil_iff]
 simp
theorem full_adds {t:Tab} {e:Ed}(he:EdOk e)(hn:t.node=e.node):Adds t e.cells↔(∀c∈e.cells,c.slot<t.length)∧(∀c∈e.cells,∀x∈t.cells,¬(x.slot=c.slot∧x.kind=2))∧t.cells.length+e.cells.length≤512:=by
 have hf:∀c∈e.cells,(formN c t.node t.length=0↔c.slot<t.length):=fun c hc=>form_cell (he.cells.each c hc) he.peer0 he.peer (by rw[hn];exact fun h=>he.ne h.symm)
 constructor
 ·intro h
  refine⟨fun c hc=>(hf c hc).1 (h.form c hc),fun c hc x hx=> ?_,h.size⟩
  have:=h.free c hc x hx
  rwa[(he.cells.each c hc).kind]at this
 ·rintro⟨h1,h2,h3⟩
  refine⟨fun c hc=>(hf c hc).2 (h1 c hc),fun c hc x hx=> ?_,?_,h3⟩
  ·rw[(he.cells.each c hc).kind];exact h2 c hc x hx
  ·exact he.cells.asc.imp fun {a b} h=>by omega
theorem fullC_iff(t:Tab)(e:Ed):fullC t e=0↔FullOk t e:=by
 unfold fullC
 constructor
 ·intro h
  split at h
  ·cases h
  split at h
  ·cases h
  rename_i h1 h2
  simp only[not_or,Decidable.not_not]at h1
  obtain⟨a,b,c,d⟩:=h1
  have he:=(chkE_iff e).1 a
  have ht:=(chkT_iff t).1 b
  obtain⟨u,hu⟩:=Option.ne_none_iff_exists'.1 h2
  obtain⟨k1,k2,k3⟩:=(full_adds he c).1 (adds_of ht hu)
  exact⟨he,ht,c,(betw_nil ht _).1 d,k1,k2,k3⟩
 ·intro h
  obtain⟨u,hu,_⟩:=adds_some h.tab ((full_adds h.ed h.node).2 ⟨h.inn,h.free,h.size⟩)
  have h1:=(chkE_iff e).2 h.ed
  have h2:=(chkT_iff t).2 h.tab
  have h3:=h.node
  have h4:=(betw_nil h.tab e.peer).2 h.btw
  rw[if_neg (by omega),if_neg (by rw[hu];simp)]
structure FullIs(t:Tab)(e:Ed)(u:Tab):Prop where
 eq:fullN t e=u
 tab:TabOk u
 node:u.node=t.node
 length:u.length=t.length
 perm:u.cells.Perm (e.cells++t.cells)
theorem full_is {t:Tab} {e:Ed}(h:FullOk t e):∃u,FullIs t e u:=by
 obtain⟨u,h1,h2,h3,h4,h5⟩:=adds_some h.tab ((full_adds h.ed h.node).2 ⟨h.inn,h.free,h.size⟩)
 exact⟨u,⟨by unfold fullN;rw[if_pos ((fullC_iff t e).2 h),h1];rfl,h2,h3,h4,h5⟩⟩
theorem asc_inj {l:List TCl}(h:AscT l) {a b:TCl}(ha:a∈l)(hb:b∈l)(e:a.slot=b.slot):a=b:=by
 obtain⟨i,hi,rfl⟩:=List.mem_iff_getElem.1 ha
 obtain⟨j,hj,rfl⟩:=List.mem_iff_getElem.1 hb
 unfold AscT at h
 rw[List.pairwise_iff_getElem]at h
 rcases Nat.lt_trichotomy i j with hij|hij|hij
 ·have:=h i j hi hj hij;omega
 ·subst hij;rfl
 ·have:=h j i hj hi hij;omega
theorem putAll_perm:∀(m l:List TCl),(m.foldl putN l).Perm (l++m)
 | [],l=>by simp
 |c::m,l=>by
  rw[List.foldl_cons]
  refine(putAll_perm m (putN l c)).trans ?_
  refine((putN_perm l c).append_right m).trans ?_
  rw[List.cons_append]
  exact List.perm_middle.symm
structure AgT(l:List TCl):Prop where
 asc:AscT l
 kind:∀c∈l,c.kind=2
theorem ag_lt {l:List TCl}(h:AgT l):l.Pairwise ltT:=List.Pairwise.imp (fun {a b} h=> .inl h) h.asc
theorem ag_of {l:List TCl}(h:l.Pairwise ltT)(hk:∀c∈l,c.kind=2):AgT l where
 kind:=hk
 asc:=by
  unfold AscT
  rw[List.pairwise_iff_getElem]at*
  intro i j hi hj hij
  have h1:=h i j hi hj hij
  have h2:=hk _ (List.getElem_mem hi)
  have h3:=hk _ (List.getElem_mem hj)
  unfold ltT at h1
  omega
theorem putN_ag {l:List TCl} {c:TCl}(h:AgT l)(hk:c.kind=2)(hf:∀x∈l,x.slot≠c.slot):AgT (putN l c):=
 ag_of (putN_asc (ag_lt h) fun x hx e=>hf x hx e.1) fun x hx=>by
  rcases putN_mem.1 hx with rfl|hx
  ·exact hk
  ·exact h.kind x hx
structure NewOk(l m:List TCl):Prop where
 kind:∀c∈m,c.kind=2
 free:∀c∈m,∀x∈l,x.slot≠c.slot
 apart:m.Pairwise fun a b=>a.slot≠b.slot
theorem putAll_ag:∀ {m l:List TCl},AgT l→NewOk l m→AgT (m.foldl putN l)
 | [],l,h,_=>h
 |c::m,l,h,hn=>by
  rw[List.foldl_cons]
  have hp:=List.pairwise_cons.1 hn.apart
  refine putAll_ag (putN_ag h (hn.kind c (List.mem_cons_self ..)) (hn.free c (List.mem_cons_self ..))) ⟨fun x hx=>hn.kind x (List.mem_cons_of_mem _ hx),fun x hx y hy=> ?_,hp.2⟩
  rcases putN_mem.1 hy with rfl|hy
  ·exact hp.1 x hx
  ·exact hn.free x (List.mem_cons_of_mem _ hx) y hy
def keptN(e:Ed)(old:List Spt):List TCl:=e.cells.filter fun c=> !decide (place c∈old)
def newsN(e:Ed)(spots:List Spt)(send:Bool):List TCl:=spots.map (newC e send)
theorem chg_def(e:Ed)(old spots:List Spt)(send:Bool):chgN e old spots send=(newsN e spots send).foldl putN (keptN e old):=rfl
structure ChgOk(e:Ed)(old spots:List Spt):Prop where
 ag:AgT e.cells
 asc:Asc spots
 free:∀s∈spots,∀c∈keptN e old,c.slot≠s.slot
theorem kept_ag {e:Ed}(h:AgT e.cells)(old:List Spt):AgT (keptN e old):=⟨List.Pairwise.filter _ h.asc,fun c hc=>h.kind c (List.mem_filter.1 hc).1⟩
theorem news_ok {e:Ed} {old spots:List Spt}(h:ChgOk e old spots)(send:Bool):NewOk (keptN e old) (newsN e spots send)where
 kind:=fun c hc=>by
  obtain⟨s,_,rfl⟩:=List.mem_map.1 hc
  rfl
 free:=fun c hc x hx=>by
  obtain⟨s,hs,rfl⟩:=List.mem_map.1 hc
  exact h.free s hs x hx
 apart:=by
  unfold newsN
  rw[List.pairwise_map]
  exact List.Pairwise.imp (fun {a b} h=>Int.ne_of_lt h) h.asc
theorem chg_ag {e:Ed} {old spots:List Spt}(h:ChgOk e old spots)(send:Bool):AgT (chgN e old spots send):=putAll_ag (kept_ag h.ag old) (news_ok h send)
theorem chg_perm(e:Ed)(old spots:List Spt)(send:Bool):(chgN e old spots send).Perm (keptN e old++newsN e spots send):=putAll_perm _ _
theorem chg_sorted {e:Ed} {old spots:List Spt} {send:Bool}(h:ChgOk e old spots) {l:List TCl}(hp:l.Perm (keptN e old++newsN e spots send))(hs:l.Pairwise fun a b=>a.slot≤b.slot):l=chgN e old spots send:=by
 have hc:=chg_ag h send
 have hp2:=hp.trans (chg_perm e old spots send).symm
 refine List.Perm.eq_of_pairwise (le:=fun a b=>a.slot≤b.slot) (fun a b ha hb h1 h2=> ?_) hs (List.Pairwise.imp (S:=fun a b:TCl=>a.slot≤b.slot) (fun {a b} h=>Int.le_of_lt h) hc.asc) hp2
 exact asc_inj hc.asc (hp2.mem_iff.1 ha) hb (Int.le_antisymm h1 h2)
def movR(e:Ed)(old spots:List Spt)(send:Bool):List TCl:=(newsN e spots send).foldl putN (e.cells.filter fun c=> !(decide (c.send=send)&&decide (place c∈old)))
theorem hasN_iff {e:Ed} {s:Spt} {b:Bool}:hasN e s b=true↔∃c∈e.cells,place c=s∧c.send=b:=by
 unfold hasN
 rw[List.any_eq_true]
 constructor
 ·rintro⟨c,hc,h⟩
  simp only[Bool.and_eq_true,decide_eq_true_eq]at h
  obtain⟨h1,h2,h3⟩:=h
  exact⟨c,hc,by cases s;simp only[place,Spt.mk.injEq];exact⟨h1,h2⟩,h3⟩
 ·rintro⟨c,hc,rfl,rfl⟩
  exact⟨c,hc,by simp[place]⟩
theorem movR_eq {e:Ed} {old spots:List Spt} {send:Bool}(h:AscT e.cells)(ho:∀s∈old,hasN e s send=true):movR e old spots send=chgN e old spots send:=by
 unfold movR
 rw[chg_def]
 congr 1
 unfold keptN
 apply List.filter_congr
 intro c hc
 congr 1
 by_cases hm:place c∈old
 ·obtain⟨x,hx,e1,e2⟩:=hasN_iff.1 (ho _ hm)
  have:x=c:=asc_inj h hx hc (by have:=congrArg Spt.slot e1;exact this)
  subst this
  simp[hm,e2]
 ·simp[hm]
def lisR(e:Ed)(l:List Spt):Bool:=decide ((e.cells.filter fun c=> !c.send&&decide (place c∈l)).length=l.length)
theorem lisR_eq {e:Ed} {l:List Spt}(h:AscT e.cells)(hl:Asc l):lisR e l=lisN e l:=by
 have hK:Asc ((e.cells.filter fun c=> !c.send&&decide (place c∈l)).map place):=by
  unfold Asc
  rw[List.pairwise_map]
  exact List.Pairwise.imp (fun {a b} h=>h) (List.Pairwise.filter _ h)
 have hsub:∀x∈(e.cells.filter fun c=> !c.send&&decide (place c∈l)).map place,x∈l:=fun x hx=>by
  obtain⟨c,hc,rfl⟩:=List.mem_map.1 hx
  have:=(List.mem_filter.1 hc).2
  simp only[Bool.and_eq_true,decide_eq_true_eq]at this
  exact this.2
 have hlen:((e.cells.filter fun c=> !c.send&&decide (place c∈l)).map place).length=(e.cells.filter fun c=> !c.send&&decide (place c∈l)).length:=List.length_map ..
 have hmem:∀x,x∈(e.cells.filter fun c=> !c.send&&decide (place c∈l)).map place↔x∈l∧hasN e x false=true:=fun x=>by
  rw[hasN_iff]
  constructor
  ·intro hx
   refine⟨hsub x hx,?_⟩
   obtain⟨c,hc,rfl⟩:=List.mem_map.1 hx
   obtain⟨h1,h2⟩:=List.mem_filter.1 hc
   simp only[Bool.and_eq_true,Bool.not_eq_true',decide_eq_true_eq]at h2
   exact⟨c,h1,rfl,h2.1⟩
  ·rintro⟨hx,c,hc,rfl,hs⟩
   exact List.mem_map.2 ⟨c,List.mem_filter.2 ⟨hc,by simp[hs,hx]⟩,rfl⟩
 unfold lisR lisN
 rw[Bool.eq_iff_iff,decide_eq_true_eq,List.all_eq_true,←hlen]
 generalize(e.cells.filter fun c=> !c.send&&decide (place c∈l)).map place=K at*
 constructor
 ·intro hk s hs
  have:=asc_eq l K hK hl (by omega) hsub
  subst this
  exact((hmem s).1 hs).2
 ·intro ha
  have h2:∀x∈l,x∈K:=fun x hx=>(hmem x).2 ⟨hx,ha x hx⟩
  rcases Nat.le_total l.length K.length with hle|hle
  ·have:=asc_eq l K hK hl hle hsub
   rw[this]
  ·have:=asc_eq K l hl hK hle h2
   rw[this]
def rAskedOk(e:Ed):Bool:=decide (chkM e.asked=0)&&(!e.asked.reply&&(decide (e.asked.number=e.number)&&((e.asked.old.all fun s=>decide (s∈sendsN e))&&(e.asked.spots.all fun s=>e.cells.all fun c=> !decide (c.slot=s.slot)))))
theorem mem_sends {e:Ed} {s:Spt}:s∈sendsN e↔hasN e s true=true:=by
 rw[hasN_iff]
 unfold sendsN
 rw[List.mem_map]
 constructor
 ·rintro⟨c,hc,rfl⟩
  obtain⟨h1,h2⟩:=List.mem_filter.1 hc
  exact⟨c,h1,rfl,h2⟩
 ·rintro⟨c,hc,rfl,hs⟩
  exact⟨c,List.mem_filter.2 ⟨hc,hs⟩,rfl⟩
theorem mem_sendsB(e:Ed)(s:Spt):decide (s∈sendsN e)=hasN e s true:=by rw[Bool.eq_iff_iff,decide_eq_true_eq];exact mem_sends
theorem rAsked_eq(e:Ed):rAskedOk e=(decide (chkM e.asked=0)&&(!e.asked.reply&&(decide (e.asked.number=e.number)&&((e.asked.old.all fun s=>hasN e s true)&&(e.asked.spots.all fun s=> !(e.cells.any fun c=>decide (c.slot=s.slot))))))):=by
 unfold rAskedOk
 simp only[mem_sendsB,List.not_any_eq_all_not]
def rRemOk(e:Ed):Bool:=ansN e.last e.reply&&(decide (e.reply.code=0)&&if e.last.kind=6 then decide (e.number=0)else decide (e.number=nextN e.last.number))
theorem rRem_eq(e:Ed):rRemOk e=(ansN e.last e.reply&&(decide (e.reply.code=0)&&decide (e.number=if e.last.kind=6 then 0 else nextN e.last.number))):=by
 unfold rRemOk
 by_cases h:e.last.kind=6
 ·rw[if_pos h,if_pos h]
 ·rw[if_neg h,if_neg h]
def rChkE(e:Ed):Int:=
 if e.node<0∨31<e.node∨e.peer<0∨31<e.peer∨e.number<0∨255<e.number∨e.since<0∨1099511627776<e.since then 2
 else if e.node=e.peer∨(e.number=0∧0<e.cells.length)then 1
 else if chkT ⟨e.node,512,e.cells⟩≠0 then 1
 else if(e.cells.all fun c=>decide (c.kind=2)&&decide (c.peer=e.peer))=false then 1
 else if(e.opn=true∧rAskedOk e=false)∨(e.opn=false∧(zeroM e.asked=false∨e.since≠0))then 1
 else if(e.known=true∧rRemOk e=false)∨(e.known=false∧(zeroM e.last=false∨zeroM e.reply=false))then 1 else 0
theorem rcells_iff {e:Ed}(h0:0≤e.node)(h1:e.node≤31)(p0:0≤e.peer)(p1:e.peer≤31)(hne:e.node≠e.peer):(chkT ⟨e.node,512,e.cells⟩=0∧(e.cells.all fun c=>decide (c.kind=2)&&decide (c.peer=e.peer))=true∧¬(e.number=0∧0<e.cells.length))↔cellsOk e=true:=by
 rw[cellsOk_iff,chkT_iff,List.all_eq_true]
 constructor
 ·rintro⟨ht,ha,hn⟩
  have hkp:∀c∈e.cells,c.kind=2∧c.peer=e.peer:=fun c hc=>by
   have:=ha c hc
   simpa using this
  refine⟨fun c hc=> ?_,(ag_of ht.asc fun c hc=>(hkp c hc).1).asc,?_⟩
  ·obtain⟨k,p⟩:=hkp c hc
   have hf:=ht.form c hc
   unfold formN at hf
   dsimp only at hf
   split at hf
   ·cases hf
   split at hf
   ·cases hf
   split at hf
   ·cases hf
   exact⟨k,p,by omega,by omega,by omega,by omega,by omega⟩
  ·by_cases h:e.number=0
   ·exact .inr (List.length_eq_zero_iff.1 (by have:¬0<e.cells.length:=fun h2=>hn ⟨h,h2⟩;omega))
   ·exact .inl h
 ·intro h
  refine⟨⟨h0,by show e.node<32;omega,by show(1:Int)≤512;omega,by show(512:Int)≤512;omega,h.len,fun c hc=> ?_,?_⟩,fun c hc=> ?_,?_⟩
  ·exact(form_cell (h.each c hc) p0 p1 (fun h=>hne h.symm)).2 (by have:=(h.each c hc).slot;show c.slot<512;omega)
  ·exact ag_lt ⟨h.asc,fun c hc=>(h.each c hc).kind⟩
  ·have:=h.each c hc
   simp[this.kind,this.peer]
  ·rintro⟨h2,h3⟩
   rcases h.num with h4|h4
   ·exact h4 h2
   ·rw[h4]at h3;exact absurd h3 (by simp)
theorem rChkE_eq(e:Ed):rChkE e=chkE e:=by
 unfold rChkE chkE
 split
 ·rfl
 rename_i hr
 have hk:knownOk e=false↔((e.known=true∧rRemOk e=false)∨(e.known=false∧(zeroM e.last=false∨zeroM e.reply=false))):=by
  unfold knownOk
  rw[←rRem_eq]
  cases e.known<;>simp
  cases zeroM e.last<;>simp
 have hs:askedOk e=false↔((e.opn=true∧rAskedOk e=false)∨(e.opn=false∧(zeroM e.asked=false∨e.since≠0))):=by
  unfold askedOk
  rw[←rAsked_eq]
  cases e.opn<;>simp
  cases zeroM e.asked<;>simp
 simp only[←hk,←hs]
 by_cases hne:e.node=e.peer
 ·rw[if_pos (.inl hne),if_pos (.inl hne)]
 have hc:=rcells_iff (e:=e) (by omega) (by omega) (by omega) (by omega) hne
 by_cases hco:cellsOk e=true
 ·obtain⟨c1,c2,c3⟩:=hc.2 hco
  rw[if_neg (by rintro(h|h);exact hne h;exact c3 h),if_neg (by rw[c1];simp),if_neg (by rw[c2];simp)]
  by_cases ha:askedOk e=false
  ·rw[if_pos ha,if_pos (.inr (.inr (.inl ha)))]
  ·rw[if_neg ha]
   by_cases hkn:knownOk e=false
   ·rw[if_pos hkn,if_pos (.inr (.inr (.inr hkn)))]
   ·rw[if_neg hkn,if_neg]
    rintro(h|h|h|h)
    ·exact hne h
    ·rw[hco]at h;cases h
    ·exact ha h
    ·exact hkn h
 ·have hcf:cellsOk e=false:=by simpa using hco
  rw[if_pos (c:=e.node=e.peer∨cellsOk e=false∨askedOk e=false∨knownOk e=false) (.inr (.inl hcf))]
  split
  ·rfl
  split
  ·rfl
  split
  ·rfl
  ·rename_i a1 a2 a3
   exact absurd (hc.1 ⟨by simpa using a2,by simpa using a3,fun h=>a1 (.inr h)⟩) hco
theorem take_filter_full {α:Type}(p:α→Bool)(l:List α)(k n:Nat)(hn:((l.take k).filter p).length=n):(l.filter p).take n=(l.take k).filter p:=by
 conv=>lhs;rw[←List.take_append_drop k l,List.filter_append]
 rw[List.take_append,hn,List.take_of_length_le (by omega)]
 simp
structure SptOk(s:Spt):Prop where
 slot0:0≤s.slot
 slot:s.slot<512
 off0:0≤s.off
 off:s.off<16
theorem faultP_zero {l:List Spt} {i:Nat}:faultP l i=0↔SptOk (l.getD i default)∧(0<i→(l.getD (i-1) default).slot<(l.getD i default).slot):=by
 unfold faultP
 constructor
 ·intro h
  split at h
  ·cases h
  split at h
  ·cases h
  rename_i h1 h2
  exact⟨⟨by omega,by omega,by omega,by omega⟩,fun h0=>by omega⟩
 ·rintro⟨⟨a,b,c,d⟩,h⟩
  rw[if_neg (by omega),if_neg (by omega)]
theorem placesN_iff(l:List Spt):placesN l=0↔Asc l∧∀s∈l,SptOk s:=by
 constructor
 ·intro h
  refine⟨placesN_asc h,fun s hs=> ?_⟩
  obtain⟨i,hi,rfl⟩:=mem_getD hs
  exact(faultP_zero.1 (fstF_zero h i hi)).1
 ·rintro⟨h1,h2⟩
  exact fstF_none fun j hj=>faultP_zero.2 ⟨h2 _ (getD_mem hj),fun h0=>pw_adj (R:=fun a b:Spt=>a.slot<b.slot) h1 h0 hj⟩
structure MsgOk(m:Msg):Prop where
 kind1:1≤m.kind
 kind:m.kind≤6
 num0:0≤m.number
 num:m.number≤255
 code0:0≤m.code
 code:m.code≤3
 count0:0≤m.count
 count:m.count≤512
 ls:m.spots.length≤8
 lo:m.old.length≤8
 sasc:Asc m.spots
 sok:∀s∈m.spots,SptOk s
 oasc:Asc m.old
 ook:∀s∈m.old,SptOk s
 foll:follN m=true
theorem chkM_iff(m:Msg):chkM m=0↔MsgOk m:=by
 constructor
 ·intro h
  have h0:=chkM_zero h
  unfold chkM at h
  split at h
  ·cases h
  split at h
  ·cases h
  split at h
  ·cases h
  rename_i h1 h2 h3
  have hs:=(placesN_iff _).1 h0.1
  have ho:=(placesN_iff _).1 h0.2.1
  exact⟨by omega,by omega,by omega,by omega,by omega,by omega,by omega,by omega,by omega,by omega,hs.1,hs.2,ho.1,ho.2,h0.2.2⟩
 ·intro h
  obtain⟨a,b,c,d,e,f,g,k,l,o,p,q,r,s,t⟩:=h
  have h1:=(placesN_iff m.spots).2 ⟨p,q⟩
  have h2:=(placesN_iff m.old).2 ⟨r,s⟩
  unfold chkM
  rw[if_neg (by omega),if_neg (by omega),if_neg (by omega),if_neg (by omega),if_neg (by omega),if_neg (by rw[t];simp)]
theorem Asc.nil:Asc []:=List.Pairwise.nil
theorem Asc.sub {l m:List Spt}(h:Asc l)(hs:m.Sublist l):Asc m:=List.Pairwise.sublist hs h
theorem Asc.nodup {l:List Spt}(h:Asc l):l.Nodup:=List.Pairwise.imp (fun {a b} h e=>by subst e;exact absurd h (Int.lt_irrefl _)) h
theorem refC_zero {m:Msg}(h:chkM m=0)(hr:m.reply=false) {c:Int}(h1:1≤c)(h3:c≤3):refC m c=0:=by
 unfold refC
 rw[if_neg (by rw[hr,h];simp),if_neg (by omega)]
theorem refN_eq {m:Msg}(h:chkM m=0)(hr:m.reply=false) {c:Int}(h1:1≤c)(h3:c≤3):refN m c=⟨m.kind,true,m.number,c,0,[],[]⟩:=by
 unfold refN
 rw[if_pos (refC_zero h hr h1 h3)]
theorem ref_answers {m:Msg}(h:chkM m=0)(hr:m.reply=false) {c:Int}(h1:1≤c)(h3:c≤3):ansN m (refN m c)=true:=by
 rw[refN_eq h hr h1 h3]
 have hm:=(chkM_iff m).1 h
 have hk:chkM ⟨m.kind,true,m.number,c,0,[],[]⟩=0:=by
  rw[chkM_iff]
  refine⟨hm.kind1,hm.kind,hm.num0,hm.num,by show 0≤c;omega,h3,Int.le_refl _,by show(0:Int)≤512;decide,by simp,by simp,Asc.nil,by simp,Asc.nil,by simp,?_⟩
  unfold follN
  dsimp only
  rw[if_neg (by simp),if_pos (by omega)]
  rfl
 unfold ansN
 rw[if_neg (by rw[h,hk,hr];simp),if_pos (by show c≠0;omega)]
theorem acc_ok {m:Msg} {n:Int} {s o:List Spt}(ha:ansN m (accM m n s o)=true)(h:chkM m=0)(hr:m.reply=false):accC m n s o=0∧accN m n s o=accM m n s o:=by
 have h1:accC m n s o=0:=by
  unfold accC
  rw[if_neg (by rw[h,hr];simp),if_neg (by rw[ha];simp)]
 exact⟨h1,by unfold accN;rw[if_pos h1]⟩
theorem among_sub {a b:List Spt}(h:∀x∈a,x∈b):amongN a b=true:=by
 unfold amongN
 rw[List.all_eq_true]
 intro x hx
 exact decide_eq_true (h x hx)
theorem among_mem {a b:List Spt}(h:amongN a b=true):∀x∈a,x∈b:=fun x hx=>by
 unfold amongN at h
 rw[List.all_eq_true]at h
 exact of_decide_eq_true (h x hx)
structure AccOk(m:Msg)(n:Int)(s o:List Spt):Prop where
 n0:0≤n
 n512:n≤512
 ls:s.length≤8
 lo:o.length≤8
 sasc:Asc s
 sok:∀x∈s,SptOk x
 oasc:Asc o
 ook:∀x∈o,SptOk x
 k1:m.kind=1→n=s.length∧1≤n∧o= []∧n≤m.count∧∀x∈s,x∈m.spots
 k2:m.kind=2→s= []∧o=m.old∧n=m.count
 k3:m.kind=3→n=s.length∧o.length=s.length∧1≤n∧n≤m.count∧(∀x∈s,x∈m.spots)∧∀x∈o,x∈m.old
 k4:m.kind=4→s= []∧o= []
 k5:m.kind=5→o= []∧(s.length:Int)=min 8 n
 k6:m.kind=6→s= []∧o= []∧n=0
theorem acc_answers {m:Msg} {n:Int} {s o:List Spt}(h:chkM m=0)(hr:m.reply=false)(ha:AccOk m n s o):ansN m (accM m n s o)=true:=by
 have hm:=(chkM_iff m).1 h
 have hf:=hm.foll
 have hk1:=hm.kind1
 have hk6:=hm.kind
 have hk:chkM (accM m n s o)=0:=by
  rw[chkM_iff]
  refine⟨hm.kind1,hm.kind,hm.num0,hm.num,Int.le_refl _,by show(0:Int)≤3;decide,ha.n0,ha.n512,ha.ls,ha.lo,ha.sasc,ha.sok,ha.oasc,ha.ook,?_⟩
  unfold follN accM
  dsimp only
  rw[if_neg (by simp),if_neg (by simp)]
  have hls:=ha.ls
  by_cases e1:m.kind=1
  ·obtain⟨a,b,c,d,_⟩:=ha.k1 e1
   rw[if_pos e1,c]
   simp
   omega
  by_cases e2:m.kind=2
  ·obtain⟨a,b,c⟩:=ha.k2 e2
   rw[if_neg e1,if_pos e2,a,b,c]
   unfold follN at hf
   rw[hr,if_neg e1,if_pos e2]at hf
   split at hf
   ·cases hf
   split at hf
   ·rename_i h1 h2
    exact absurd ⟨rfl,h2⟩ h1
   ·simp at hf ⊢
    exact⟨hf.2.1,hf.2.2⟩
  by_cases e3:m.kind=3
  ·obtain⟨a,b,c,_⟩:=ha.k3 e3
   rw[if_neg e1,if_neg e2,if_pos e3]
   simp
   omega
  by_cases e4:m.kind=4
  ·obtain⟨a,b⟩:=ha.k4 e4
   rw[if_neg e1,if_neg e2,if_neg e3,if_pos e4,a,b]
   simp
  by_cases e5:m.kind=5
  ·obtain⟨a,b⟩:=ha.k5 e5
   rw[if_neg e1,if_neg e2,if_neg e3,if_neg e4,if_pos e5,a]
   simp[b]
  ·obtain⟨a,b,c⟩:=ha.k6 (by omega)
   rw[if_neg e1,if_neg e2,if_neg e3,if_neg e4,if_neg e5,a,b,c]
   simp
 unfold ansN
 rw[if_neg (by rw[h,hk,hr];simp[accM]),if_neg (by simp[accM])]
 by_cases e1:m.kind=1
 ·obtain⟨_,_,_,d,e⟩:=ha.k1 e1
  rw[if_pos e1,Bool.and_eq_true]
  exact⟨decide_eq_true d,among_sub e⟩
 by_cases e3:m.kind=3
 ·obtain⟨_,_,_,d,e,f⟩:=ha.k3 e3
  rw[if_neg e1,if_pos e3,Bool.and_eq_true,Bool.and_eq_true]
  exact⟨decide_eq_true d,among_sub e,among_sub f⟩
 by_cases e2:m.kind=2
 ·obtain⟨_,b,_⟩:=ha.k2 e2
  rw[if_neg e1,if_neg e3,if_pos e2]
  exact decide_eq_true b
 ·rw[if_neg e1,if_neg e3,if_neg e2]
theorem fits_iff {t:Tab} {f:List Int} {s:Spt}:fitsN t f s=true→chkT t=0∧0≤s.slot∧s.slot<t.length∧0≤s.off∧s.off<16∧∀c∈t.cells,c.slot≠s.slot:=by
 intro h
 unfold fitsN usedN at h
 simp only[Bool.and_eq_true,decide_eq_true_eq,Bool.not_eq_true',List.any_eq_false]at h
 obtain⟨a,_,b,c,d,e,_,g⟩:=h
 exact⟨a,b,c,d,e,g⟩
theorem useN_sub(t:Tab)(f:List Int)(m:Msg)(k:Nat):((useN t f m).take k).Sublist m.spots:=(List.take_sublist _ _).trans List.filter_sublist
def Room(t:Tab)(e:Ed):Prop:=t.cells.length+e.cells.length+8≤512
structure Want(e:Ed)(t:Tab)(m:Msg)(n:Int)(s o:List Spt):Prop where
 acc:AccOk m n s o
 six:m.kind≠6
 olds:∀x∈o,hasN e x false=true
 new:m.kind≠5→∀x∈s,x.slot<t.length∧(∀c∈e.cells,c.slot≠x.slot)∧∀c∈t.cells,c.slot≠x.slot
theorem want_ok {e:Ed} {t:Tab} {f:List Int} {m:Msg} {n:Int} {s o:List Spt}(J:FullOk t e)(h:chkM m=0)(hr:m.reply=false)(h6:m.kind≠6)(hw:wantN e t f m=some (n,s,o)):Want e t m n s o:=by
 have hm:=(chkM_iff m).1 h
 have hf:=hm.foll
 have hk1:=hm.kind1
 have hk6:=hm.kind
 have hls:=hm.ls
 have hlo:=hm.lo
 have hc0:=hm.count0
 obtain⟨u,hu⟩:=full_is J
 have hsub:=useN_sub (fullN t e) f m m.count.toNat
 have hfit:∀x∈(useN (fullN t e) f m).take m.count.toNat,x.slot<t.length∧(∀c∈e.cells,c.slot≠x.slot)∧∀c∈t.cells,c.slot≠x.slot:=fun x hx=>by
  have h1:=(List.mem_filter.1 (List.mem_of_mem_take hx)).2
  obtain⟨_,_,h2,_,_,h3⟩:=fits_iff h1
  rw[hu.eq]at h2 h3
  rw[hu.length]at h2
  exact⟨h2,fun c hc=>h3 c (hu.perm.mem_iff.2 (List.mem_append_left _ hc)),fun c hc=>h3 c (hu.perm.mem_iff.2 (List.mem_append_right _ hc))⟩
 have hul:((useN (fullN t e) f m).take m.count.toNat).length≤m.count.toNat:=List.length_take_le _ _
 have hu8:=hsub.length_le
 have huasc:=hm.sasc.sub hsub
 have huok:∀x∈(useN (fullN t e) f m).take m.count.toNat,SptOk x:=fun x hx=>hm.sok x (hsub.subset hx)
 have hsubm:∀x∈(useN (fullN t e) f m).take m.count.toNat,x∈m.spots:=fun x hx=>hsub.subset hx
 have hfoll:follN m=if m.kind=1 then decide (m.old.length=0)&&(decide (1≤m.count)&&(decide (m.count≤8)&&(decide (m.count=m.spots.length)||(!m.reply&&decide (m.count<m.spots.length)))))
  else if m.kind=2 then decide (m.spots.length=0)&&(decide (1≤m.old.length)&&decide (m.count=m.old.length))
  else if m.kind=3 then decide (1≤m.old.length)&&(decide (m.count=m.old.length)&&(decide (m.spots.length=m.old.length)||(!m.reply&&decide (m.old.length<m.spots.length))))
  else follN m:=by
  have hcode:m.code=0:=by
   unfold follN at hf
   split at hf
   ·cases hf
   ·rename_i h1;exact Decidable.byContradiction fun h2=>h1 ⟨hr,h2⟩
  conv=>lhs;unfold follN
  rw[if_neg (by rw[hcode];simp),if_neg (by rw[hcode];simp)]
  split
  ·rfl
  split
  ·rfl
  split
  ·rfl
  ·rename_i h1 h2 h3
   conv=>rhs;unfold follN
   rw[if_neg (c:=m.reply=false∧m.code≠0) (by rw[hcode];simp),if_neg (c:=m.code≠0) (by rw[hcode];simp),if_neg h1,if_neg h2,if_neg h3]
 rw[hfoll]at hf
 unfold wantN at hw
 dsimp only at hw
 generalize(useN (fullN t e) f m).take m.count.toNat=us at*
 by_cases e1:m.kind=1
 ·rw[if_pos e1]at hw hf
  simp at hf
  split at hw
  ·cases hw
  rename_i h0
  simp only[Option.some.injEq,Prod.mk.injEq]at hw
  obtain⟨rfl,rfl,rfl⟩:=hw
  refine⟨⟨by omega,by omega,by omega,by simp,huasc,huok,Asc.nil,by simp,fun _=>⟨rfl,by omega,rfl,by omega,hsubm⟩,fun e=>by omega,fun e=>by omega,fun e=>by omega,fun e=>by omega,fun e=>by omega⟩,h6,by simp,fun _=>hfit⟩
 by_cases e2:m.kind=2
 ·rw[if_neg e1,if_pos e2]at hw hf
  simp at hf
  split at hw
  ·cases hw
  rename_i h0
  simp only[Option.some.injEq,Prod.mk.injEq]at hw
  obtain⟨rfl,rfl,rfl⟩:=hw
  have hl:lisN e m.old=true:=by simpa using h0
  unfold lisN at hl
  rw[List.all_eq_true]at hl
  exact⟨⟨hc0,hm.count,by simp,hlo,Asc.nil,by simp,hm.oasc,hm.ook,fun e=>by omega,fun _=>⟨rfl,rfl,rfl⟩,fun e=>by omega,fun e=>by omega,fun e=>by omega,fun e=>by omega⟩,h6,hl,fun _=>by simp⟩
 by_cases e3:m.kind=3
 ·rw[if_neg e1,if_neg e2,if_pos e3]at hw hf
  simp at hf
  split at hw
  ·cases hw
  rename_i h0
  simp only[not_or]at h0
  simp only[Option.some.injEq,Prod.mk.injEq]at hw
  obtain⟨rfl,rfl,rfl⟩:=hw
  have hl:lisN e m.old=true:=by simpa using h0.1
  unfold lisN at hl
  rw[List.all_eq_true]at hl
  have hto:(m.old.take us.length).length=us.length:=by rw[List.length_take];omega
  exact⟨⟨by omega,by omega,by omega,by omega,huasc,huok,hm.oasc.sub (List.take_sublist _ _),fun x hx=>hm.ook x (List.mem_of_mem_take hx),fun e=>by omega,fun e=>by omega,fun _=>⟨rfl,hto,by omega,by omega,hsubm,fun x hx=>List.mem_of_mem_take hx⟩,fun e=>by omega,fun e=>by omega,fun e=>by omega⟩,h6,fun x hx=>hl x (List.mem_of_mem_take hx),fun _=>hfit⟩
 have hce:=J.ed.cells.len
 by_cases e4:m.kind=4
 ·rw[if_neg e1,if_neg e2,if_neg e3,if_pos e4]at hw
  simp only[Option.some.injEq,Prod.mk.injEq]at hw
  obtain⟨rfl,rfl,rfl⟩:=hw
  exact⟨⟨by omega,by omega,by simp,by simp,Asc.nil,by simp,Asc.nil,by simp,fun e=>by omega,fun e=>by omega,fun e=>by omega,fun _=>⟨rfl,rfl⟩,fun e=>by omega,fun e=>by omega⟩,h6,by simp,fun _=>by simp⟩
 ·rw[if_neg e1,if_neg e2,if_neg e3,if_neg e4]at hw
  simp only[Option.some.injEq,Prod.mk.injEq]at hw
  obtain⟨rfl,rfl,rfl⟩:=hw
  have hasc:Asc ((e.cells.take 8).map place):=by
   unfold Asc
   rw[List.pairwise_map]
   exact List.Pairwise.imp (fun {a b} h=>h) (List.Pairwise.sublist (List.take_sublist _ _) J.ed.cells.asc)
  refine⟨⟨by omega,by omega,by simp;omega,by simp,hasc,fun x hx=> ?_,Asc.nil,by simp,fun e=>by omega,fun e=>by omega,fun e=>by omega,fun e=>by omega,fun _=>⟨rfl,by rw[List.length_map,List.length_take];omega⟩,fun e=>by omega⟩,h6,by simp,fun h5=>absurd (by omega) h5⟩
  obtain⟨c,hc,rfl⟩:=List.mem_map.1 hx
  have:=J.ed.cells.each c (List.mem_of_mem_take hc)
  exact⟨this.slot0,by have:=this.slot;show c.slot<512;omega,this.off0,by have:=this.off;show c.off<16;omega⟩
theorem next_bd {n:Int}(h0:0≤n)(h:n≤255):1≤nextN n∧nextN n≤255:=by
 unfold nextN
 rw[if_neg (by omega)]
 split<;>omega
def putS(m:Msg)(s:List Spt):List Spt:=if m.kind=5 then []else s
theorem Want.put {e:Ed} {t:Tab} {m:Msg} {n:Int} {s o:List Spt}(h:Want e t m n s o):Asc (putS m s)∧(putS m s).length≤8∧(∀x∈putS m s,SptOk x)∧∀x∈putS m s,x.slot<t.length∧(∀c∈e.cells,c.slot≠x.slot)∧∀c∈t.cells,c.slot≠x.slot:=by
 unfold putS
 by_cases h5:m.kind=5
 ·rw[if_pos h5]
  exact⟨Asc.nil,by simp,by simp,by simp⟩
 ·rw[if_neg h5]
  exact⟨h.acc.sasc,h.acc.ls,h.acc.sok,h.new h5⟩
theorem cells_ag {e:Ed}(h:CellsOk e):AgT e.cells:=⟨h.asc,fun c hc=>(h.each c hc).kind⟩
theorem kept_mem {e:Ed} {old:List Spt} {c:TCl}(h:c∈keptN e old):c∈e.cells:=(List.mem_filter.1 h).1
theorem chg_cells {e:Ed} {old sp:List Spt} {b:Bool}(h:CellsOk e)(ha:Asc sp)(hok:∀x∈sp,SptOk x)(hn:∀x∈sp,∀c∈e.cells,c.slot≠x.slot):AgT (chgN e old sp b)∧(∀c∈chgN e old sp b,CellOk e.peer c)∧(chgN e old sp b).length≤e.cells.length+sp.length∧∀c∈chgN e old sp b,c∈e.cells∨∃x∈sp,c=newC e b x:=by
 have hc:ChgOk e old sp:=⟨cells_ag h,ha,fun s hs c hc=>hn s hs c (kept_mem hc)⟩
 have hp:=chg_perm e old sp b
 have hm:∀c∈chgN e old sp b,c∈e.cells∨∃x∈sp,c=newC e b x:=fun c hcm=>by
  rcases List.mem_append.1 (hp.mem_iff.1 hcm)with h1|h1
  ·exact .inl (kept_mem h1)
  ·obtain⟨x,hx,rfl⟩:=List.mem_map.1 h1
   exact .inr ⟨x,hx,rfl⟩
 refine⟨chg_ag hc b,fun c hcm=> ?_,?_,hm⟩
 ·rcases hm c hcm with h1|⟨x,hx,rfl⟩
  ·exact h.each c h1
  ·have:=hok x hx
   exact⟨rfl,rfl,rfl,this.slot0,by have:=this.slot;show x.slot≤511;omega,this.off0,by have:=this.off;show x.off≤15;omega⟩
 ·rw[hp.length_eq,List.length_append]
  unfold newsN keptN
  rw[List.length_map]
  have:=List.length_filter_le (fun c=> !decide (place c∈old)) e.cells
  omega
theorem chg_full {t:Tab} {e x:Ed} {old sp:List Spt} {b:Bool}(J:FullOk t e)(hR:Room t e)(hx:EdOk x)(hn:x.node=e.node)(hp:x.peer=e.peer)(hc:x.cells=chgN e old sp b)(hl:sp.length≤8)(ha:Asc sp)(hok:∀y∈sp,SptOk y)(hw:∀y∈sp,y.slot<t.length∧(∀c∈e.cells,c.slot≠y.slot)∧∀c∈t.cells,c.slot≠y.slot):FullOk t x:=by
 obtain⟨h1,h2,h3,h4⟩:=chg_cells (b:=b) (old:=old) J.ed.cells ha hok (fun y hy=>(hw y hy).2.1)
 unfold Room at hR
 refine⟨hx,J.tab,by rw[hn];exact J.node,by rw[hp];exact J.btw,fun c hcm=> ?_,fun c hcm y hy=> ?_,by rw[hc];omega⟩
 ·rw[hc]at hcm
  rcases h4 c hcm with h5|⟨z,hz,rfl⟩
  ·exact J.inn c h5
  ·exact(hw z hz).1
 ·rw[hc]at hcm
  rcases h4 c hcm with h5|⟨z,hz,rfl⟩
  ·exact J.free c h5 y hy
  ·exact fun h=>(hw z hz).2.2 y hy h.1
structure RecvOk(t:Tab)(f:List Int)(e:Ed)(m:Msg)(x:Ed)(r:Msg):Prop where
 full:FullOk t x
 ans:ansN m r=true
 refused:r.code≠0→x=e
 again:recv x t f m=(x,r)
theorem recv_def {e:Ed} {t:Tab} {f:List Int} {m:Msg}(J:FullOk t e)(h:chkM m=0)(hr:m.reply=false):recv e t f m=if m.kind=6 then(clearE e m,accN m 0 [] [])
 else if e.known=true∧m=e.last then(e,e.reply)
 else if e.opn=true then(e,refN m 3)
 else if m.number≠e.number then(e,refN m 1)
 else match wantN e t f m with
  |none=>(e,refN m 2)
  |some (n,s,o)=>(recvE e n s o m,accN m n s o):=by
 unfold recv recvC
 rw[(fullC_iff t e).2 J,h,hr]
 rfl
theorem clear_acc {m:Msg}(h6:m.kind=6):AccOk m 0 [] []:=⟨by decide,by decide,by simp,by simp,Asc.nil,by simp,Asc.nil,by simp,fun e=>by omega,fun e=>by omega,fun e=>by omega,fun e=>by omega,fun e=>by omega,fun _=>⟨rfl,rfl,rfl⟩⟩
theorem recv_ok {e:Ed} {t:Tab} {f:List Int} {m:Msg}(J:FullOk t e)(hR:Room t e)(h:chkM m=0)(hr:m.reply=false):RecvOk t f e m (recv e t f m).1 (recv e t f m).2:=by
 have hd:=recv_def (f:=f) J h hr
 have hE:=J.ed
 by_cases h6:m.kind=6
 ·rw[if_pos h6]at hd
  rw[hd]
  have ha:=acc_answers h hr (clear_acc h6)
  obtain⟨a1,a2⟩:=acc_ok ha h hr
  dsimp only
  have hx:EdOk (clearE e m):=⟨hE.node0,hE.node,hE.peer0,hE.peer,Int.le_refl _,by show(0:Int)≤255;decide,Int.le_refl _,by show(0:Int)≤1099511627776;decide,hE.ne,⟨fun c hc=>(by cases hc),List.Pairwise.nil,.inr rfl⟩,rfl,by
   unfold knownOk clearE
   dsimp only
   rw[if_neg (by simp),a2,ha,if_pos h6];rfl⟩
  have hFx:FullOk t (clearE e m):=⟨hx,J.tab,J.node,J.btw,fun c hc=>(by cases hc),fun c hc=>(by cases hc),by have:=J.tab.size;show _+0≤512;omega⟩
  refine⟨hFx,by rw[a2];exact ha,fun hc=>absurd (by rw[a2];rfl) hc,?_⟩
  rw[recv_def hFx h hr,if_pos h6]
  rfl
 rw[if_neg h6]at hd
 by_cases hk:e.known=true∧m=e.last
 ·rw[if_pos hk]at hd
  rw[hd]
  have hkn:=hE.known
  unfold knownOk at hkn
  rw[if_neg (by rw[hk.1];simp)]at hkn
  simp only[Bool.and_eq_true,decide_eq_true_eq]at hkn
  exact⟨J,by rw[hk.2];exact hkn.1,fun _=>rfl,by rw[recv_def J h hr,if_neg h6,if_pos hk]⟩
 rw[if_neg hk]at hd
 by_cases ho:e.opn=true
 ·rw[if_pos ho]at hd
  rw[hd]
  exact⟨J,ref_answers h hr (by decide) (by decide),fun _=>rfl,by rw[recv_def J h hr,if_neg h6,if_neg hk,if_pos ho]⟩
 rw[if_neg ho]at hd
 by_cases hn:m.number≠e.number
 ·rw[if_pos hn]at hd
  rw[hd]
  exact⟨J,ref_answers h hr (by decide) (by decide),fun _=>rfl,by rw[recv_def J h hr,if_neg h6,if_neg hk,if_neg ho,if_pos hn]⟩
 rw[if_neg hn]at hd
 cases hw:wantN e t f m with
 |none=>
  rw[hw]at hd
  rw[hd]
  exact⟨J,ref_answers h hr (by decide) (by decide),fun _=>rfl,by rw[recv_def J h hr,if_neg h6,if_neg hk,if_neg ho,if_neg hn,hw]⟩
 |some q=>
  obtain⟨n,s,o⟩:=q
  rw[hw]at hd
  dsimp only at hd
  rw[hd]
  dsimp only
  have W:=want_ok J h hr h6 hw
  have ha:=acc_answers h hr W.acc
  obtain⟨a1,a2⟩:=acc_ok ha h hr
  obtain⟨p1,p2,p3,p4⟩:=W.put
  have hnx:=next_bd hE.num0 hE.num
  have hask:=hE.asked
  have hcs:=chg_cells (b:=false) (old:=o) hE.cells p1 p3 (fun y hy=>(p4 y hy).2.1)
  have hx:EdOk (recvE e n s o m):=⟨hE.node0,hE.node,hE.peer0,hE.peer,by show 0≤nextN _;omega,hnx.2,hE.since0,hE.since,hE.ne,⟨hcs.2.1,hcs.1.asc,.inl (by show nextN _≠0;omega)⟩,by
   have ho2:e.opn=false:=by simpa using ho
   unfold askedOk at*
   rw[if_pos ho2]at hask
   rw[if_pos (show(recvE e n s o m).opn=false from ho2)]
   exact hask,by
   unfold knownOk recvE
   dsimp only
   rw[if_neg (by simp),a2,ha,if_neg h6]
   simp only[Decidable.not_not]at hn
   rw[hn]
   simp[accM]⟩
  have hFx:FullOk t (recvE e n s o m):=chg_full (b:=false) (old:=o) J hR hx rfl rfl rfl p2 p1 p3 p4
  refine⟨hFx,by rw[a2];exact ha,fun hc=>absurd (by rw[a2];rfl) hc,?_⟩
  rw[recv_def hFx h hr,if_neg h6,if_pos ⟨rfl,rfl⟩]
  rfl
end Tx
end Go.Proofs.YtfamifgchgolpaaGreat
