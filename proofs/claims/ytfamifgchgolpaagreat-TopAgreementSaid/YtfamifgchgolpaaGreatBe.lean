/- Contracts of slices' functions at structs (printed by gen_lib.py). -/
import Derived.Test.YtfamifgchgolpaaGreatBd
set_option linter.unusedVariables false
set_option linter.unusedSimpArgs false
set_option maxRecDepth 100000
set_option maxHeartbeats 4000000
namespace Go.Proofs.YtfamifgchgolpaaGreat
open Go Go.RowKit Go.Sort
namespace Tx
open Sw Mm
def IdxFHit {α:Type} [Inhabited α](p:α→Bool)(xs:List α)(n k:Nat):Prop:=k<n∧p (xs.getD k default)=true∧∀j,j<k→p (xs.getD j default)=false
def IdxF {α:Type} [Inhabited α](p:α→Bool)(xs:List α)(i:Int):Prop:=(∃k:Nat,i=k∧IdxFHit p xs xs.length k)∨(i= -1∧∀j,j<xs.length→p (xs.getD j default)=false)
def IdxFPost {α:Type} [Inhabited α](p:α→Bool)(xs:List α)(w:World)(e:Ending)(w':World):Prop:=∃i:Int,e= .returned (.int .i64 i)∧IdxF p xs i∧Below w.heap.size w w'
theorem idxF_any {α:Type} [Inhabited α] {p:α→Bool} {xs:List α} {i:Int}(h:IdxF p xs i):decide (0≤i)=xs.any p:=by
 rcases h with⟨k,rfl,h1,h2,_⟩|⟨rfl,h⟩
 ·have:xs.any p=true:=by
   rw[List.any_eq_true]
   refine⟨xs.getD k default,?_,h2⟩
   rw[List.getD_eq_getElem?_getD,List.getElem?_eq_getElem h1];exact List.getElem_mem h1
  rw[this];simp
 ·have:xs.any p=false:=by
   rw[List.any_eq_false]
   intro x hx
   obtain⟨q,hq,rfl⟩:=List.mem_iff_getElem.1 hx
   have:=h q hq
   rw[List.getD_eq_getElem?_getD,List.getElem?_eq_getElem hq]at this
   simpa using this
  rw[this];rfl
def DelPost {α:Type} [Inhabited α](enc:α→List Value)(T:TypeId)(k:Nat)(p:α→Bool)(A:Option Addr)(n c base:Nat)(xs:List α)(w:World)(e:Ending)(w':World):Prop:=
 ∃m,e= .returned (.slice A m c)∧m=(xs.filter fun x=> !p x).length∧w'.ownsRow base T k (.slice A m c) m ((xs.filter fun x=> !p x).flatMap enc)∧w.grownBy w' (Value.slice A n c).ownBlock
theorem own_len {α:Type} [Inhabited α] {enc:α→List Value} {k:Nat}(hk:∀x,(enc x).length=k)(k0:0<k) {w:World} {base n:Nat} {T:TypeId} {v:Value} {xs:List α}(h:w.ownsRow base T k v n (xs.flatMap enc)):xs.length=n:=by
 have:=h.1
 rw[Sk.fm_len enc k hk]at this
 exact Nat.eq_of_mul_eq_mul_right k0 this
theorem own_some {w:World} {base:Nat} {e:TypeId} {size g n cap:Nat} {xs:List Value}(h:w.ownsRow base e size (.slice (some ⟨g,0,none⟩) n cap) n xs) {a:Nat}(ha:a<n*size):∃v,w.cell? ⟨g,a,none⟩=some v:=
 ⟨_,(h.cellAt a ha).trans (List.getElem?_eq_getElem (by rw[h.1];exact ha))⟩
def delU {α:Type}(p:α→Bool)(xs:List α)(j:Nat):List α:=(xs.take j).filter fun x=> !p x
theorem delU_succ {α:Type} [Inhabited α](p:α→Bool)(xs:List α)(j:Nat)(h:j<xs.length):delU p xs (j+1)=delU p xs j++(if p (xs.getD j default)=true then []else [xs.getD j default]):=by
 unfold delU
 rw[List.take_succ_eq_append_getElem h,List.filter_append,List.getD_eq_getElem?_getD,List.getElem?_eq_getElem h]
 cases hp:p xs[j]<;>simp[hp]
theorem delU_all {α:Type} [Inhabited α] {p:α→Bool} {xs:List α} {j:Nat}(hj:j≤xs.length)(h:∀q,q<j→p (xs.getD q default)=false):delU p xs j=xs.take j:=by
 unfold delU
 rw[List.filter_eq_self]
 intro x hx
 obtain⟨q,hq,rfl⟩:=List.mem_iff_getElem.1 hx
 rw[List.length_take]at hq
 have:=h q (by omega)
 rw[List.getD_eq_getElem?_getD,List.getElem?_eq_getElem (by omega)]at this
 simp at this
 simp[this]
theorem delU_start {α:Type} [Inhabited α] {p:α→Bool} {xs:List α} {m:Nat}(h1:p (xs.getD m default)=true)(h2:∀j,j<m→p (xs.getD j default)=false)(hm:m<xs.length):delU p xs (m+1)=xs.take m:=by
 rw[delU_succ p xs m hm,if_pos h1,List.append_nil,delU_all (Nat.le_of_lt hm) h2]
theorem del_set {α:Type} [Inhabited α] {xs ys:List α} {m j n:Nat}(hmj:m<j)(hjn:j<n)(hl:ys.length=n)(hq:∀q,j≤q→q<n→ys.getD q default=xs.getD q default)(x:α):
 (ys.set m x).take (m+1)=ys.take m++ [x]∧(∀q,j+1≤q→q<n→(ys.set m x).getD q default=xs.getD q default):=by
 constructor
 ·rw[List.take_succ_eq_append_getElem (by rw[List.length_set];omega),List.take_set_of_le (Nat.le_refl _),List.getElem_set_self]
 ·intro q h1 h2
  rw[←hq q (by omega) h2,List.getD_eq_getElem?_getD,List.getD_eq_getElem?_getD,List.getElem?_set,if_neg (by omega)]
theorem idxFnS_any(f:Nat)(cb:Array Value)(p:Spt→Bool)(A:Option Addr)(n c:Nat)(xs:List Spt)(w:World)(ef:∀args w,(callFunc f args).run Tryz.prog w= .ok (.enter f args) w)(hs:SptS w A n xs)
 (hp:∀x∈xs,∀W,Below w.heap.size w W→Calls Tryz.prog f (#[.agg #[.int .i64 x.slot,.int .i64 x.off]]++cb) W fun e w'=>e= .returned (.bool (p x))∧Below W.heap.size W w'):
 Calls Tryz.prog 197 #[.slice A n c,.func (.func f) #[] cb] w (IdxFPost p xs w):=by
 have hlen:=hs.len
 have hm:=hs.small
 unfold maxLen at hm
 refine zh3 ?_ hs hp hlen;clear hs hp hlen;intro hs hp hlen
 go_enter Tryz.func197,Tryz.ntmps197
 go_wp2_with fail
 go_loopw[5,8] (fun _ i wr=>∃k:Nat,k≤n∧i= .int .i64 k∧Hid (∀j,j<k→p (xs.getD j default)=false)∧Hid (Below w.heap.size w wr)) (fun _ i _=>n-(intOf i).toNat)
 case atStart=>exact⟨0,by omega,rfl,fun j hj=>absurd hj (by omega),Below.refl _ _⟩
 case round=>
  obtain⟨k,hk,rfl,HP,HB⟩:=hrel
  by_cases hlt:k<n
  ·obtain⟨b,off,rfl⟩:=hs.addr (by omega)
   have hx:=spt_at (hs.keep HB.out) hlt
   have hc:=hp.out _ (ok_at (P:=(· ∈xs)) (fun _ h=>h) (k:=k) (by rw[hlen.out];exact hlt)) wr HB.out
   have hnx:p (xs.getD k default)=false→∀j,j<k+1→p (xs.getD j default)=false:=fun h j hj=>by
    by_cases e:j=k
    ·subst e;exact h
    ·exact HP.out j (by omega)
   have hhit:p (xs.getD k default)=true→IdxFHit p xs n k:=fun h=>⟨hlt,h,HP.out⟩
   generalize xs.getD k default=x at*
   generalize p x=px at*
   obtain⟨x0,x1⟩:=x
   obtain⟨q0,q1⟩:=hx
   dsimp only at q0 q1 hc
   have r1:(k:Int)<(n:Int):=by omega
   refine zh3 ?_ hc hnx hhit;clear hc hnx hhit;intro hc hnx hhit
   go_wp2_with fail
   refine hc.mono ?_
   rintro e w2 ⟨rfl,p_⟩
   clear q0 q1
   have HB2:=Zh (bthen HB.out p_)
   clear p_
   cases px with
   |true=>
    have hh:=Zh (hhit rfl)
    go_wp2
    go_ret
    exact⟨k,rfl,.inl ⟨k,rfl,hlen.out▸hh.out⟩,HB2.out⟩
   |false=>
    have hh:=Zh (hnx rfl)
    go_wp2
    go_roundw
    case rel=>exact⟨k+1,by omega,by go_num,hh,HB2⟩
    case measure=>simp[intOf];omega
  ·obtain rfl:k=n:=by omega
   go_wp2
   go_ret
   exact⟨-1,rfl,.inr ⟨rfl,hlen.out▸HP.out⟩,HB.out⟩
theorem idxFnT_any(f:Nat)(cb:Array Value)(p:TCl→Bool)(A:Option Addr)(n c:Nat)(xs:List TCl)(w:World)(ef:∀args w,(callFunc f args).run Tryz.prog w= .ok (.enter f args) w)(hs:TclS w A n xs)
 (hp:∀x∈xs,∀W,Below w.heap.size w W→Calls Tryz.prog f (#[.agg #[.int .i64 x.slot,.int .i64 x.off,.int .i64 x.kind,.bool x.send,.int .i64 x.peer,.int .i64 x.flow]]++cb) W fun e w'=>e= .returned (.bool (p x))∧Below W.heap.size W w'):
 Calls Tryz.prog 194 #[.slice A n c,.func (.func f) #[] cb] w (IdxFPost p xs w):=by
 have hlen:=hs.len
 have hm:=hs.small
 unfold maxLen at hm
 refine zh3 ?_ hs hp hlen;clear hs hp hlen;intro hs hp hlen
 go_enter Tryz.func194,Tryz.ntmps194
 go_wp2_with fail
 go_loopw[5,8] (fun _ i wr=>∃k:Nat,k≤n∧i= .int .i64 k∧Hid (∀j,j<k→p (xs.getD j default)=false)∧Hid (Below w.heap.size w wr)) (fun _ i _=>n-(intOf i).toNat)
 case atStart=>exact⟨0,by omega,rfl,fun j hj=>absurd hj (by omega),Below.refl _ _⟩
 case round=>
  obtain⟨k,hk,rfl,HP,HB⟩:=hrel
  by_cases hlt:k<n
  ·obtain⟨b,off,rfl⟩:=hs.addr (by omega)
   have hx:=tcl_at (hs.keep HB.out) hlt
   have hc:=hp.out _ (ok_at (P:=(· ∈xs)) (fun _ h=>h) (k:=k) (by rw[hlen.out];exact hlt)) wr HB.out
   have hnx:p (xs.getD k default)=false→∀j,j<k+1→p (xs.getD j default)=false:=fun h j hj=>by
    by_cases e:j=k
    ·subst e;exact h
    ·exact HP.out j (by omega)
   have hhit:p (xs.getD k default)=true→IdxFHit p xs n k:=fun h=>⟨hlt,h,HP.out⟩
   generalize xs.getD k default=x at*
   generalize p x=px at*
   obtain⟨x0,x1,x2,x3,x4,x5⟩:=x
   obtain⟨q0,q1,q2,q3,q4,q5⟩:=hx
   dsimp only at q0 q1 q2 q3 q4 q5 hc
   have r1:(k:Int)<(n:Int):=by omega
   refine zh3 ?_ hc hnx hhit;clear hc hnx hhit;intro hc hnx hhit
   go_wp2_with fail
   refine hc.mono ?_
   rintro e w2 ⟨rfl,p_⟩
   clear q0 q1 q2 q3 q4 q5
   have HB2:=Zh (bthen HB.out p_)
   clear p_
   cases px with
   |true=>
    have hh:=Zh (hhit rfl)
    go_wp2
    go_ret
    exact⟨k,rfl,.inl ⟨k,rfl,hlen.out▸hh.out⟩,HB2.out⟩
   |false=>
    have hh:=Zh (hnx rfl)
    go_wp2
    go_roundw
    case rel=>exact⟨k+1,by omega,by go_num,hh,HB2⟩
    case measure=>simp[intOf];omega
  ·obtain rfl:k=n:=by omega
   go_wp2
   go_ret
   exact⟨-1,rfl,.inr ⟨rfl,hlen.out▸HP.out⟩,HB.out⟩
theorem ctnFnS_any(f:Nat)(cb:Array Value)(p:Spt→Bool)(A:Option Addr)(n c:Nat)(xs:List Spt)(w:World)(ef:∀args w,(callFunc f args).run Tryz.prog w= .ok (.enter f args) w)(hs:SptS w A n xs)
 (hp:∀x∈xs,∀W,Below w.heap.size w W→Calls Tryz.prog f (#[.agg #[.int .i64 x.slot,.int .i64 x.off]]++cb) W fun e w'=>e= .returned (.bool (p x))∧Below W.heap.size W w'):
 Calls Tryz.prog 136 #[.slice A n c,.func (.func f) #[] cb] w fun e w'=>e= .returned (.bool (xs.any p))∧Below w.heap.size w w':=by
 have hi:=idxFnS_any f cb p A n c xs w ef hs hp
 have hv:Hid (∀(i:Int),IdxF p xs i→decide (0≤i)=xs.any p):=fun i h=>idxF_any h
 generalize xs.any p=R at*
 refine zh3 ?_ hs hp hi;clear hs hp hi;intro hs hp hi
 go_enter Tryz.func136,Tryz.ntmps136
 go_wp2_with fail
 refine hi.mono ?_
 rintro e w2 ⟨i,rfl,hI,p_⟩
 have hv2:=Zh (hv i hI)
 replace hI:=Zh hI
 replace p_:=Zh p_
 go_wp2
 go_ret
 exact⟨by rw[←hv2.out];rfl,p_.out⟩
theorem ctnFnT_any(f:Nat)(cb:Array Value)(p:TCl→Bool)(A:Option Addr)(n c:Nat)(xs:List TCl)(w:World)(ef:∀args w,(callFunc f args).run Tryz.prog w= .ok (.enter f args) w)(hs:TclS w A n xs)
 (hp:∀x∈xs,∀W,Below w.heap.size w W→Calls Tryz.prog f (#[.agg #[.int .i64 x.slot,.int .i64 x.off,.int .i64 x.kind,.bool x.send,.int .i64 x.peer,.int .i64 x.flow]]++cb) W fun e w'=>e= .returned (.bool (p x))∧Below W.heap.size W w'):
 Calls Tryz.prog 181 #[.slice A n c,.func (.func f) #[] cb] w fun e w'=>e= .returned (.bool (xs.any p))∧Below w.heap.size w w':=by
 have hi:=idxFnT_any f cb p A n c xs w ef hs hp
 have hv:Hid (∀(i:Int),IdxF p xs i→decide (0≤i)=xs.any p):=fun i h=>idxF_any h
 generalize xs.any p=R at*
 refine zh3 ?_ hs hp hi;clear hs hp hi;intro hs hp hi
 go_enter Tryz.func181,Tryz.ntmps181
 go_wp2_with fail
 refine hi.mono ?_
 rintro e w2 ⟨i,rfl,hI,p_⟩
 have hv2:=Zh (hv i hI)
 replace hI:=Zh hI
 replace p_:=Zh p_
 go_wp2
 go_ret
 exact⟨by rw[←hv2.out];rfl,p_.out⟩
theorem equalS_any(A B:Option Addr)(n m c1 c2:Nat)(xs ys:List Spt)(w:World)(h1:SptS w A n xs)(h2:SptS w B m ys):
 Calls Tryz.prog 75 #[.slice A n c1,.slice B m c2] w fun e w'=>e= .returned (.bool (decide (xs=ys)))∧Below w.heap.size w w':=by
 have hl1:=h1.len
 have hl2:=h2.len
 have hs:=h1.small
 unfold maxLen at hs
 have kn:=neq_spt
 have hE:∀a b,eqS a b=decide (a=b):=fun _ _=>rfl
 have hne:n≠m→decide (xs=ys)=false:=fun h=>decide_eq_false (fun e=>h (by rw[←hl1,←hl2,e]))
 have hno:∀k,eqS (xs.getD k default) (ys.getD k default)=false→decide (xs=ys)=false:=fun k h=>decide_eq_false (fun e=>by rw[e,hE,decide_eq_false_iff_not]at h;exact h rfl)
 have hyes:n=m→(∀j,j<n→xs.getD j default=ys.getD j default)→decide (xs=ys)=true:=fun h h2=>decide_eq_true (list_eq_getD hl1 (by rw[hl2,h]) h2)
 generalize decide (xs=ys)=R at*
 generalize eqS=E at*
 refine zh8 ?_ h1 h2 hl1 hl2 kn hE hno hyes;clear h1 h2 hl1 hl2 kn hE hno hyes;intro h1 h2 hl1 hl2 kn hE hno hyes
 by_cases hnm:n=m
 ·subst hnm
  have hbb:((n:Int) !=(n:Int))=false:=by simp
  clear hne
  go_enter Tryz.func75,Tryz.ntmps75
  go_wp2_with fail
  go_loopw[5,13] (fun _ i wr=>∃k:Nat,k≤n∧i= .int .i64 k∧Hid (∀j,j<k→xs.getD j default=ys.getD j default)∧Hid (Below w.heap.size w wr)) (fun _ i _=>n-(intOf i).toNat)
  case atStart=>exact⟨0,by omega,rfl,fun j hj=>absurd hj (by omega),Below.refl _ _⟩
  case round=>
   obtain⟨k,hk,rfl,HP,HB⟩:=hrel
   by_cases hlt:k<n
   ·obtain⟨b1,o1,rfl⟩:=h1.addr (by omega)
    obtain⟨b2,o2,rfl⟩:=h2.addr (by omega)
    have hx:=spt_at (h1.keep HB.out) hlt
    have hy:=spt_at (h2.keep HB.out) hlt
    have he:=kn.out (xs.getD k default) (ys.getD k default)
    have hEx:=hE.out (xs.getD k default) (ys.getD k default)
    have hnk:=hno.out k
    generalize hX:xs.getD k default=x at*
    generalize hY:ys.getD k default=y at*
    generalize E x y=Q at*
    obtain⟨x0,x1⟩:=x
    obtain⟨y0,y1⟩:=y
    obtain⟨q0,q1⟩:=hx
    obtain⟨p0,p1⟩:=hy
    dsimp only at q0 q1 p0 p1 he
    have a0:=cell_regrown q0
    have b0:=cell_regrown p0
    have a1:=cell_regrown q1
    have b1:=cell_regrown p1
    have r1:(k:Int)<(n:Int):=by omega
    clear q0 q1 p0 p1
    refine zh4 ?_ hEx hX hY hnk;clear hEx hX hY hnk;intro hEx hX hY hnk
    cases Q with
    |true=>
     have hP2:Hid (∀j,j<k+1→xs.getD j default=ys.getD j default):=fun j hj=>by
      by_cases e:j=k
      ·subst e
       have:=hEx.out
       rw[eq_comm,decide_eq_true_eq]at this
       rw[hX.out,hY.out,this]
      ·exact HP.out j (by omega)
     go_wp2_with fail
     refine wp_region_quiet_below (by kernel_rfl) (by kernel_rfl) ?_
     repeat(go_big_quiet_step(fail))
     refine wpQuiet_nil ?_
     rintro _ ⟨⟨dq,osq⟩,rfl⟩
     have p_:=below_regrown wr dq osq
     replace HB:=Zh (HB.keep p_)
     generalize grow (redrawn wr dq) osq=w2 at*
     clear p_
     go_wp2
     go_roundw
     case rel=>exact⟨k+1,by omega,by go_num,hP2,HB⟩
     case measure=>simp[intOf];omega
    |false=>
     have hR:=Zh (hnk rfl)
     go_wp2_with fail
     refine wp_region_quiet_below (by kernel_rfl) (by kernel_rfl) ?_
     repeat(go_big_quiet_step(fail))
     refine wpQuiet_nil ?_
     rintro _ ⟨⟨dq,osq⟩,rfl⟩
     have p_:=below_regrown wr dq osq
     replace HB:=Zh (HB.keep p_)
     generalize grow (redrawn wr dq) osq=w2 at*
     clear p_
     go_wp2
     go_ret
     exact⟨by rw[hR.out];rfl,HB.out⟩
   ·obtain rfl:k=n:=by omega
    have hR:=Zh (hyes (by first|rfl|trivial) HP.out)
    go_wp2
    go_ret
    exact⟨by rw[hR.out];rfl,HB.out⟩
 ·have hR:=Zh (hne hnm)
  have hbb:((n:Int) !=(m:Int))=true:=by rw[bne_iff_ne];omega
  clear hne
  replace hnm:=Zh hnm
  go_enter Tryz.func75,Tryz.ntmps75
  go_wp2
  go_ret
  exact⟨by rw[hR.out];rfl,Below.refl _ _⟩
theorem delFnT_any(f:Nat)(cb:Array Value)(p:TCl→Bool)(A:Option Addr)(n c base:Nat)(xs:List TCl)(w:World)(ef:∀args w,(callFunc f args).run Tryz.prog w= .ok (.enter f args) w)
 (ho:w.ownsRow base 85 6 (.slice A n c) n (xs.flatMap tclE)) (hn:n≤1000000)
 (hp:∀x∈xs,∀W,w.grownBy W (Value.slice A n c).ownBlock→Calls Tryz.prog f (#[.agg #[.int .i64 x.slot,.int .i64 x.off,.int .i64 x.kind,.bool x.send,.int .i64 x.peer,.int .i64 x.flow]]++cb) W fun e w'=>e= .returned (.bool (p x))∧Below W.heap.size W w'):
 Calls Tryz.prog 131 #[.slice A n c,.func (.func f) #[] cb] w (DelPost tclE 85 6 p A n c base xs w):=by
 have hl:xs.length=n:=own_len tclE_len (by decide) ho
 have hs:=(Sls.of_owns tclE_len ho hl).2
 have hi:=idxFnT_any f cb p A n c xs w ef hs (fun x hx W hb=>hp x hx W (gb_below hb))
 refine zh3 ?_ hs hi hl;clear hs hi hl;intro hs hi hl
 rcases ho.2 with⟨hv,h0⟩|⟨g,cap,cur,hv,hbase,hg,r1,r2,r3,r4⟩
 ·injection hv with hA _ hc
  subst hA hc h0
  have hx:xs= []:=List.length_eq_zero_iff.1 hl.out
  subst hx
  have J:Hid (∀w',Below w.heap.size w w'→DelPost tclE 85 6 p none 0 0 base [] w (.returned (.slice none 0 0)) w'):=fun w' hb=>⟨0,rfl,rfl,owns_keep ho hb,gb_below hb⟩
  clear ho hp hn
  go_enter Tryz.func131,Tryz.ntmps131
  go_wp2_with fail
  refine hi.mono ?_
  rintro e w2 ⟨i,rfl,hI,p_⟩
  obtain rfl:i= -1:=by
   rcases hI with⟨_,_,h,_⟩|⟨h,_⟩
   ·exact absurd h (by simp)
   ·exact h
  replace hI:=Zh hI
  replace p_:=Zh p_
  go_wp2
  go_ret
  exact J.out _ p_.out
 ·injection hv with hA _ hc
  subst hA hc
  clear hg r3 r4
  replace ho:=Zh ho
  replace hp:=Zh hp
  go_enter Tryz.func131,Tryz.ntmps131
  go_wp2_with fail
  refine hi.mono ?_
  rintro e w1 ⟨i,rfl,hI,p_⟩
  have HB1:=Zh (gb_below (r:=some g) p_)
  have HO1:=Zh (owns_keep ho.out p_)
  clear p_
  rcases hI with⟨m0,rfl,hm1,hm2,hm3⟩|⟨rfl,hno⟩
  ·rw[hl.out]at hm1
   have HD:Hid (delU p xs (m0+1)=xs.take m0):=delU_start hm2 hm3 (by rw[hl.out];exact hm1)
   replace hm2:=Zh hm2
   replace hm3:=Zh hm3
   have r5:((m0:Int)== -1)=false:=by rw[beq_eq_false_iff_ne];omega
   go_wp2_with fail
   go_loopw[5,6] (fun vi vj wr=>∃(m j:Nat) (ys:List TCl),m<j∧j≤n∧vi= .int .i64 m∧vj= .int .i64 j∧Hid (ys.length=n)∧Hid (delU p xs j=ys.take m)∧Hid (∀q,j≤q→q<n→ys.getD q default=xs.getD q default)∧Hid (wr.ownsRow base 85 6 (.slice (some ⟨g,0,none⟩) n c) n (ys.flatMap tclE))∧Hid (w.grownBy wr (some g))) (fun _ vj _=>n-(intOf vj).toNat)
   case atStart=>exact⟨m0,m0+1,xs,by omega,by omega,rfl,by go_num,hl,HD,fun _ _ _=>rfl,HO1,HB1⟩
   case round=>
    clear HO1 HB1 HD
    obtain⟨m,j,ys,hmj,hjn,rfl,rfl,HL,HD,HQ,HO,HG⟩:=hrel
    by_cases hlt:j<n
    ·have hx:=tcl_at (Sls.of_owns tclE_len HO.out HL.out).2 hlt
     have hq:=HQ.out j (Nat.le_refl _) hlt
     have hds:=delU_succ p xs j (by rw[hl.out];exact hlt)
     rw[hq,Nat.zero_add]at hx
     have hmem:=ok_at (P:=(· ∈xs)) (fun _ h=>h) (k:=j) (by rw[hl.out];exact hlt)
     have hc:=fun W (hW:w.grownBy W (some g))=>hp.out _ hmem W hW
     generalize xs.getD j default=x at*
     have hput:=fun(W:World) (h:W.ownsRow base 85 6 (.slice (some ⟨g,0,none⟩) n c) n (ys.flatMap tclE))=>own_put tclE_len h HL.out (show m<n by omega) x
     generalize p x=px at*
     have hset:Hid ((ys.set m x).take (m+1)=ys.take m++ [x]∧(∀q,j+1≤q→q<n→(ys.set m x).getD q default=xs.getD q default)):=del_set hmj hlt HL.out HQ.out x
     generalize hz:ys.set m x=zs at*
     have hzl:Hid (zs.length=n):=by show _= _;rw[←hz,List.length_set];exact HL.out
     obtain⟨x0,x1,x2,x3,x4,x5⟩:=x
     obtain⟨q0,q1,q2,q3,q4,q5⟩:=hx
     dsimp only at q0 q1 q2 q3 q4 q5 hc hput
     have hbx:=ballN (Below.refl wr.heap.size wr) (.cells #[.int .i64 x0,.int .i64 x1,.int .i64 x2,.bool x3,.int .i64 x4,.int .i64 x5] 85)
     have BX:=Box.new wr #[.int .i64 x0,.int .i64 x1,.int .i64 x2,.bool x3,.int .i64 x4,.int .i64 x5] 85
     have hc2:=hc (wr.alloc (.cells #[.int .i64 x0,.int .i64 x1,.int .i64 x2,.bool x3,.int .i64 x4,.int .i64 x5] 85)) (gb_trans HG.out (gb_below hbx))
     have HO2:=Zh (owns_keep HO.out hbx)
     have HG2:=Zh (gb_trans HG.out (gb_below (r:=some g) hbx))
     have r6:(j:Int)<(n:Int):=by omega
     have kx:=BX.at_
     refine zh9 ?_ hq hds hz hmem hc hput hc2 hbx BX;clear hq hds hz hmem hc hput hc2 hbx BX;intro hq hds hz hmem hc hput hc2 hbx BX
     go_wp2_with fail
     refine hc2.mono ?_
     rintro e wr2 ⟨rfl,p_⟩
     clear q0 q1 q2 q3 q4 q5 kx
     have HO3:=Zh (owns_keep HO2.out p_)
     have HG3:=Zh (gb_trans HG2.out (gb_below (r:=some g) p_))
     have kx:=(BX.keep p_).at_
     clear p_ HO2 HG2 HO HG
     cases px with
     |true=>
      have HD2:Hid (delU p xs (j+1)=ys.take m):=by show _= _;rw[hds.out,HD.out];simp
      have HQ2:Hid (∀q,j+1≤q→q<n→ys.getD q default=xs.getD q default):=fun q h1 h2=>HQ.out q (by omega) h2
      go_wp2
      go_roundw
      case rel=>exact⟨m,j+1,ys,by omega,by omega,rfl,by go_num,HL,HD2,HQ2,HO3,HG3⟩
      case measure=>simp[intOf];omega
     |false=>
      have HP:=hput.out wr2 HO3.out
      have HO4:Hid (((((((wr2.setCell ⟨g,m*6,none⟩ (.int .i64 x0)).setCell ⟨g,m*6+1,none⟩ (.int .i64 x1)).setCell ⟨g,m*6+2,none⟩ (.int .i64 x2)).setCell ⟨g,m*6+3,none⟩ (.bool x3)).setCell ⟨g,m*6+4,none⟩ (.int .i64 x4)).setCell ⟨g,m*6+5,none⟩ (.int .i64 x5)).ownsRow base 85 6 (.slice (some ⟨g,0,none⟩) n c) n (zs.flatMap tclE)):=HP.1
      have HG4:Hid (w.grownBy ((((((wr2.setCell ⟨g,m*6,none⟩ (.int .i64 x0)).setCell ⟨g,m*6+1,none⟩ (.int .i64 x1)).setCell ⟨g,m*6+2,none⟩ (.int .i64 x2)).setCell ⟨g,m*6+3,none⟩ (.bool x3)).setCell ⟨g,m*6+4,none⟩ (.int .i64 x4)).setCell ⟨g,m*6+5,none⟩ (.int .i64 x5)) (some g)):=gb_trans HG3.out HP.2
      have HD2:Hid (delU p xs (j+1)=zs.take (m+1)):=by show _= _;rw[hds.out,HD.out,hset.out.1];simp
      have HQ2:=Zh hset.2
      have hf:=fun q=>HO3.frozenAt q
      obtain⟨v0,s0⟩:=own_some HO3.out (a:=m*6) (by omega)
      obtain⟨v1,s1⟩:=own_some HO3.out (a:=m*6+1) (by omega)
      obtain⟨v2,s2⟩:=own_some HO3.out (a:=m*6+2) (by omega)
      obtain⟨v3,s3⟩:=own_some HO3.out (a:=m*6+3) (by omega)
      obtain⟨v4,s4⟩:=own_some HO3.out (a:=m*6+4) (by omega)
      obtain⟨v5,s5⟩:=own_some HO3.out (a:=m*6+5) (by omega)
      clear HP
      have r7:(m:Int)<(n:Int):=by omega
      go_wp2
      go_roundw
      case rel=>exact⟨m+1,j+1,zs,by omega,by omega,by go_num,by go_num,hzl,HD2,HQ2,HO4,HG4⟩
      case measure=>simp[intOf];omega
    ·obtain rfl:j=n:=by omega
     have hcl:=fun ty c=>run_clear_own (P:=Tryz.prog) HO.out hmj 27 ty _ Tryz.underlying27 Tryz.zeroValue85 rfl (by simp[Value.cells,Value.oneCell']) c
     have hoc:=own_clear tclE_len HO.out (Nat.le_of_lt hmj) (Builtin.zeroCells (Value.agg #[.int .i64 0,.int .i64 0,.int .i64 0,.bool false,.int .i64 0,.int .i64 0]).cells (j-m)).toList
     generalize hww:wr.setCells g (m*6) (Builtin.zeroCells (Value.agg #[.int .i64 0,.int .i64 0,.int .i64 0,.bool false,.int .i64 0,.int .i64 0]).cells (j-m)).toList=wz at*
     have HD2:Hid (DelPost tclE 85 6 p (some ⟨g,0,none⟩) j c base xs w (.returned (.slice (some ⟨g,0,none⟩) m c)) wz):=by
      have e1:xs.filter (fun x=> !p x)=ys.take m:=by
       rw[←HD.out];unfold delU;rw[List.take_of_length_le (by rw[hl.out];exact Nat.le_refl _)]
      refine⟨m,rfl,by rw[e1,List.length_take,HL.out];omega,by rw[e1];exact hoc.1,gb_trans HG.out hoc.2⟩
     have r7:(m:Int)≤(j:Int):=by omega
     have r8:((j:Int)-(m:Int)).toNat=j-m:=by omega
     replace hww:=Zh hww
     replace hoc:=Zh hoc
     go_wp2
     go_ret
     exact HD2.out
  ·have J:Hid (DelPost tclE 85 6 p (some ⟨g,0,none⟩) n c base xs w (.returned (.slice (some ⟨g,0,none⟩) n c)) w1):=by
    have e1:xs.filter (fun x=> !p x)=xs:=by
     rw[List.filter_eq_self]
     intro x hx
     obtain⟨q,hq,rfl⟩:=List.mem_iff_getElem.1 hx
     have:=hno q hq
     rw[List.getD_eq_getElem?_getD,List.getElem?_eq_getElem hq]at this
     simp at this
     simp[this]
    exact⟨n,rfl,by rw[e1,hl.out],by rw[e1];exact HO1.out,HB1.out⟩
   replace hno:=Zh hno
   go_wp2
   go_ret
   exact J.out
end Tx
end Go.Proofs.YtfamifgchgolpaaGreat
