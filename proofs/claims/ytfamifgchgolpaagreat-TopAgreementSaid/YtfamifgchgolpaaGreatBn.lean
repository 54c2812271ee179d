/- Chapter 16: IsMask, Fits, the reference's. -/
import Derived.Test.YtfamifgchgolpaaGreatBk
set_option linter.unusedVariables false
set_option linter.unusedSimpArgs false
set_option maxRecDepth 100000
set_option maxHeartbeats 8000000
namespace Go.Proofs.YtfamifgchgolpaaGreat
open Go Go.RowKit Go.Sort Go.Shelf Go.Maps
namespace Tx
open Sw Mm
theorem rmask_any(A:Option Addr)(n c:Nat)(f:List Int)(len:Int)(w:World)(h:IntS w A n f):Calls Tryz.prog 203 #[.slice A n c,.int .i64 len] w fun e w'=>e= .returned (.bool (maskN f len))∧Below w.heap.size w w':=by
 have hlen:=h.len
 have hs:=h.small
 unfold maxLen at hs
 have hR:maskN f len=(decide ((n:Int)=len)&& !f.any mkB):=by rw[maskN_split,hlen]
 have hyes:∀k,k<n→mkB (f.getD k default)=true→f.any mkB=true:=fun k hk e=>List.any_eq_true.2 ⟨_,getD_mem (by rw[hlen];exact hk),e⟩
 have hno:(∀k,k<n→mkB (f.getD k default)=false)→f.any mkB=false:=fun e=>by
  rw[List.any_eq_false]
  intro x hx
  obtain⟨i,hi,rfl⟩:=mem_getD hx
  rw[e i (by omega)];simp
 have hmk:∀x,mkB x=(decide (x<0)||decide (65536≤x)):=fun _=>rfl
 generalize maskN f len=R at*
 generalize f.any mkB=V at*
 generalize mkB=B at*
 refine zh6 ?_ h hlen hR hyes hno hmk;clear h hlen hR hyes hno hmk;intro h hlen hR hyes hno hmk
 go_enter Tryz.func203,Tryz.ntmps203
 by_cases hl:(n:Int)=len
 case neg=>
  have d:((n:Int) !=len)=true:=by rw[bne_iff_ne];exact hl
  have hR2:Hid (R=false):=by show _= _;rw[hR.out];simp[hl]
  replace hl:=Zh hl
  go_wp2
  go_ret
  exact⟨by rw[hR2.out];rfl,Below.refl _ _⟩
 subst hl
 go_wp2_with fail
 go_loopw[5] (fun i wr=>∃k:Nat,k≤n∧i= .int .i64 k∧Hid (∀j,j<k→B (f.getD j default)=false)∧Hid (Below w.heap.size w wr)) (fun i _=>n-(intOf i).toNat)
 case atStart=>exact⟨0,by omega,rfl,fun j hj=>by omega,Below.refl _ _⟩
 case round=>
  obtain⟨k,hk,rfl,HP,HB⟩:=hrel
  by_cases hlt:k<n
  ·obtain⟨b,off,rfl⟩:=h.addr (by omega)
   have hx:=int_at (h.keep HB.out) hlt
   have hy:=hyes.out k hlt
   have hb:=hmk.out (f.getD k default)
   have hn:B (f.getD k default)=false→∀j,j<k+1→B (f.getD j default)=false:=fun h j hj=>by
    by_cases e:j=k
    ·subst e;exact h
    ·exact HP.out j (by omega)
   generalize f.getD k default=x at*
   have g0:=cell_regrown hx
   have r1:(k:Int)<(n:Int):=by omega
   clear hx
   by_cases c0:x<0
   ·have hR2:Hid (R=false):=by show _= _;rw[hR.out,hy (by rw[hb];simp[c0])];simp
    have d0:decide (x<0)=true:=by simpa using c0
    clear hb hn hy
    go_wp2_with fail
    go_wp2_with fail
    refine wp_region_quiet_below (by kernel_rfl) (by kernel_rfl) ?_
    repeat(go_big_quiet_step(fail))
    refine wpQuiet_nil ?_
    rintro _ ⟨⟨dq,osq⟩,rfl⟩
    have p_:=below_regrown wr dq osq
    replace HB:=Zh (HB.keep p_)
    generalize grow (redrawn wr dq) osq=w2 at*
    clear p_
    go_wp2
    go_ret
    exact⟨by rw[hR2.out];rfl,HB.out⟩
   ·have d0:decide (x<0)=false:=by simpa using c0
    have cs:∀d os,Calls Tryz.prog 233 #[.int .i64 16] (grow (redrawn wr d) os) fun e w''=>e= .returned (.int .i64 65536)∧∃p:Regrown,w''=grow (redrawn wr p.d) p.os:=
     fun d os=>Calls.regrown_of (same_below (power_any _))
    replace cs:=Zh cs
    by_cases c1:65536≤x
    ·have hR2:Hid (R=false):=by show _= _;rw[hR.out,hy (by rw[hb];simp[c1])];simp
     clear hb hn hy c0
     go_wp2_with fail
     go_wp2_with fail
     refine wp_region_quiet_below (by kernel_rfl) (by kernel_rfl) ?_
     repeat(go_big_quiet_step(exact cs.out _ _))
     refine wpQuiet_nil ?_
     rintro _ ⟨⟨dq,osq⟩,rfl⟩
     have p_:=below_regrown wr dq osq
     replace HB:=Zh (HB.keep p_)
     generalize grow (redrawn wr dq) osq=w2 at*
     clear p_
     go_wp2
     go_ret
     exact⟨by rw[hR2.out];rfl,HB.out⟩
    ·have hP2:=Zh (hn (by rw[hb];first|(simp[c1,d0];done)|(simp[c1,d0];omega)))
     have c2:x<65536:=by omega
     clear hb hn hy c0 c1
     go_wp2_with fail
     go_wp2_with fail
     refine wp_region_quiet_below (by kernel_rfl) (by kernel_rfl) ?_
     repeat(go_big_quiet_step(exact cs.out _ _))
     refine wpQuiet_nil ?_
     rintro _ ⟨⟨dq,osq⟩,rfl⟩
     have p_:=below_regrown wr dq osq
     replace HB:=Zh (HB.keep p_)
     generalize grow (redrawn wr dq) osq=w2 at*
     clear p_
     go_wp2
     go_roundw
     case rel=>exact⟨k+1,by omega,by go_num,hP2,HB⟩
     case measure=>simp[intOf];omega
  ·obtain rfl:k=n:=by omega
   have hR2:Hid (R=true):=by show _= _;rw[hR.out,hno.out HP.out];simp
   go_wp2
   go_ret
   exact⟨by rw[hR2.out];rfl,HB.out⟩
theorem rfits_any(t:Tab)(v:TabV)(A:Option Addr)(n c:Nat)(f:List Int)(s:Spt)(w:World)(h:TabIs w v t)(hf:IntS w A n f):Calls Tryz.prog 204 #[.agg (Kt t v),.slice A n c,.agg #[.int .i64 s.slot,.int .i64 s.off]] w fun e w'=>e= .returned (.bool (fitsN t f s))∧Below w.heap.size w w':=by
 obtain⟨B,m,c2⟩:=v
 have I:=Zh (Mem.start w)
 have hB:fitsN t f s=(decide (chkT t=0)&&(maskN f t.length&&(decide (0≤s.slot)&&(decide (s.slot<t.length)&&(decide (0≤s.off)&&(decide (s.off<16)&&(bitN (f.getD s.slot.toNat 0) s.off&& !usedN t s.slot))))))):=rfl
 have cK:=fun W (hb:Below w.heap.size w W)=>rchkT_any t ⟨B,m,c2⟩ W (h.keep hb)
 have cM:=fun W (hb:Below w.heap.size w W)=>rmask_any A n c f t.length W (hf.keep hb)
 have hmk:maskN f t.length=true→(n:Int)=t.length∧∀x∈f,0≤x∧x<65536:=fun e=>by
  unfold maskN at e
  rw[hf.len]at e
  simp at e
  exact⟨e.1,e.2⟩
 have hlf:=hf.len
 have hc:=h.cells
 dsimp only at hc
 have hlc:=hc.len
 have hsm:=hc.small
 unfold maxLen at hsm
 have hyes:∀k,k<m→decide ((t.cells.getD k default).slot=s.slot)=true→usedN t s.slot=true:=fun k hk e=>List.any_eq_true.2 ⟨_,getD_mem (by rw[hlc];exact hk),e⟩
 have hno:(∀k,k<m→decide ((t.cells.getD k default).slot=s.slot)=false)→usedN t s.slot=false:=fun e=>by
  unfold usedN
  rw[List.any_eq_false]
  intro x hx
  obtain⟨i,hi,rfl⟩:=mem_getD hx
  rw[e i (by omega)];simp
 generalize fitsN t f s=R at*
 generalize maskN f t.length=MK at*
 generalize usedN t s.slot=US at*
 generalize chkT t=C1 at*
 obtain⟨t0,t1,t2⟩:=t
 obtain⟨s0,s1⟩:=s
 dsimp only at*
 refine zh11 ?_ h cK cM hB hf hmk hlf hc hlc hyes hno;clear h cK cM hB hf hmk hlf hc hlc hyes hno;intro h cK cM hB hf hmk hlf hc hlc hyes hno
 go_enter Tryz.func204,Tryz.ntmps204
 go_upto_region 1 with(first|(refine bA I 37 ?_;clear I;intro gt w1 I hG;clear hG)|(refine bA I 97 ?_;clear I;intro gs w1 I hG;clear hG))
 have ks:=I.cell 0 rfl
 have kt:=I.cell 1 rfl
 go_upto_region 3 with(first
  |(go_at_call 110;refine(cK _ I.below).mono ?_;rintro e w3 ⟨rfl,p_⟩;have HM2:=Zm I p_;clear I p_ kt ks cK;have I:=HM2;clear HM2;have kt:=I.cell 1 rfl;have ks:=I.cell 0 rfl)
  |(go_at_call 203;refine(cM _ I.below).mono ?_;rintro e w4 ⟨rfl,p_⟩;have HM2:=Zm I p_;clear I p_ kt ks cM;have I:=HM2;clear HM2;have kt:=I.cell 1 rfl;have ks:=I.cell 0 rfl)
  |fail)
 all_goals try
  (go_ret
   exact⟨by rw[hB.out];first|(simp[*];done)|(simp[*];omega),I.below⟩)
 obtain⟨hn1,hfb⟩:=hmk.out (by assumption)
 obtain⟨a,rfl⟩:∃a:Nat,s0=a:=⟨s0.toNat,by omega⟩
 obtain⟨q,rfl⟩:∃q:Nat,s1=q:=⟨s1.toNat,by omega⟩
 have hq:q<16:=by omega
 have han:a<n:=by omega
 obtain⟨b,off,rfl⟩:=hf.addr (by omega)
 have hB2:Hid (R=(bitN (f.getD a default) q&& !US)):=by
  show _= _
  rw[hB.out]
  have e1:f.getD (a:Int).toNat 0=f.getD a default:=rfl
  rw[e1]
  first|(simp[*];done)|(simp[*];omega)
 have hxb:=hfb _ (getD_mem (l:=f) (i:=a) (by rw[hlf.out];exact han))
 clear hB hfb
 go_wp2_with fail
 go_loopw[7] (fun i wr=>∃k:Nat,k≤m∧i= .int .i64 k∧Hid (∀j,j<k→decide ((t2.getD j default).slot=a)=false)∧Hid (Mem w wr [(gs,#[.int .i64 a,.int .i64 q],97),(gt,#[.int .i64 t0,.int .i64 t1,.slice B m c2],37)])) (fun i _=>m-(intOf i).toNat)
 case atStart=>exact⟨0,by omega,rfl,fun j hj=>by omega,I⟩
 case round=>
  clear I ks kt
  obtain⟨k,hk,rfl,HP,I⟩:=hrel
  have kt:=I.cell 1 rfl
  by_cases hlt:k<m
  ·obtain⟨b2,off2,rfl⟩:=hc.addr (by omega)
   have hx:=(tcl_at (hc.keep I.below) hlt).1
   have hy:=hyes.out k hlt
   have hn:decide ((t2.getD k default).slot=a)=false→∀j,j<k+1→decide ((t2.getD j default).slot=a)=false:=fun h j hj=>by
    by_cases e:j=k
    ·subst e;exact h
    ·exact HP.out j (by omega)
   generalize(t2.getD k default).slot=x at*
   have r1:(k:Int)<(m:Int):=by omega
   go_upto_region 6 with fail
   have g0:=cell_regrown hx
   have ge:=(I.at_ 1 rfl).box.grown
   have gf:=(I.at_ 0 rfl).box.grown
   clear hx kt
   by_cases c0:x=a
   ·have hR3:Hid (R=false):=by show _= _;rw[hB2.out,hy (by simp[c0])];simp
    subst c0
    clear hy hn
    go_wp2_with fail
    refine wp_region_quiet_below (by kernel_rfl) (by kernel_rfl) ?_
    repeat(go_big_quiet_step(fail))
    refine wpQuiet_nil ?_
    rintro _ ⟨⟨dq,osq⟩,rfl⟩
    have p_:=below_regrown wr dq osq
    replace I:=Zm I p_
    generalize grow (redrawn wr dq) osq=w5 at*
    clear p_
    go_wp2
    go_ret
    exact⟨by rw[hR3.out];rfl,I.below⟩
   ·have hP2:=Zh (hn (by simp[c0]))
    have d0:(x==(a:Int))=false:=by simpa using c0
    replace c0:=Zh c0
    clear hy hn
    go_wp2_with fail
    refine wp_region_quiet_below (by kernel_rfl) (by kernel_rfl) ?_
    repeat(go_big_quiet_step(fail))
    refine wpQuiet_nil ?_
    rintro _ ⟨⟨dq,osq⟩,rfl⟩
    have p_:=below_regrown wr dq osq
    replace I:=Zm I p_
    generalize grow (redrawn wr dq) osq=w5 at*
    clear p_
    go_wp2
    go_roundw
    case rel=>exact⟨k+1,by omega,by go_num,hP2,I⟩
    case measure=>simp[intOf];omega
  ·obtain rfl:k=m:=by omega
   have hx:=int_at (hf.keep I.below) han
   have hUS:=Zh (hno HP.out)
   generalize f.getD a default=x at*
   have r1:(a:Int)<(n:Int):=by omega
   go_upto_region 8 with fail
   have g0:=cell_regrown hx
   have ge:=(I.at_ 0 rfl).box.grown
   clear hx kt
   have cs:∀d os,Calls Tryz.prog 234 #[.int .i64 x,.int .i64 (q:Int)] (grow (redrawn wr d) os) fun e w''=>e= .returned (.bool (bitN x q))∧∃p:Regrown,w''=grow (redrawn wr p.d) p.os:=
    fun d os=>Calls.regrown_of (same_below (bit_any x q _ hxb.1 hxb.2 hq))
   replace cs:=Zh cs
   generalize bitN x q=BV at*
   go_wp2_with fail
   refine wp_region_quiet_below (by kernel_rfl) (by kernel_rfl) ?_
   repeat(go_big_quiet_step(exact cs.out _ _))
   refine wpQuiet_nil ?_
   rintro _ ⟨⟨dq,osq⟩,rfl⟩
   have p_:=below_regrown wr dq osq
   replace I:=Zm I p_
   generalize grow (redrawn wr dq) osq=w5 at*
   clear p_
   go_wp2
   go_ret
   exact⟨by rw[hB2.out,hUS.out];simp,I.below⟩
theorem putN_at:∀(l:List TCl) (c:TCl) (k:Nat),k≤l.length→(∀j,j<k→ltT (l.getD j default) c)→(k=l.length∨¬ltT (l.getD k default) c)→putN l c=l.take k++c::l.drop k
 | [],c,k,hk,_,_=>by
   obtain rfl:k=0:=by simpa using hk
   rfl
 |x::l,c,0,_,_,h=>by
  rw[putN_cons]
  rcases h with h|h
  ·simp at h
  ·rw[if_neg (by simpa using h)];rfl
 |x::l,c,k+1,hk,hp,h=>by
  rw[putN_cons,if_pos (by simpa using hp 0 (by omega)),putN_at l c k (by simpa using hk) (fun j hj=>by simpa using hp (j+1) (by omega)) (by
   rcases h with h|h
   ·exact .inl (by simpa using h)
   ·exact .inr (by simpa using h))]
  simp
theorem Mem.rowB {a w w':World} {L:List (Nat×Array Value×TypeId)}(h:Mem a w L) {base s n:Nat} {e:TypeId} {v:Value} {xs:List Value}(ho:w.ownsRow base e s v n xs)(hg:w.grownBy w' v.ownBlock)(hb:a.heap.size≤base)(hlt:∀x∈L,x.1<base):Mem a w' L:=
 h.grown hg fun g e1=>⟨Nat.le_trans hb (ho.lt g e1).1,fun x hx e2=>by have:=hlt x hx;have:=(ho.lt g e1).1;omega⟩
def PutPost(l:List TCl)(c:TCl)(w:World)(e:Ending)(w':World):Prop:=∃A cp,e= .returned (.slice A (l.length+1) cp)∧w'.ownsRow w.heap.size 85 6 (.slice A (l.length+1) cp) (l.length+1) ((putN l c).flatMap tclE)∧Below w.heap.size w w'
theorem put_any(A:Option Addr)(n cp:Nat)(l:List TCl)(c:TCl)(w:World)(h:TclS w A n l)(hn:n≤100000)(hcp:n≤cp):Calls Tryz.prog 113 #[.slice A n cp,.agg #[.int .i64 c.slot,.int .i64 c.off,.int .i64 c.kind,.bool c.send,.int .i64 c.peer,.int .i64 c.flow]] w (PutPost l c w):=by
 have I:=Zh (Mem.start w)
 have hlen:=h.len
 have hat:=putN_at l c
 have cL:=fun(x:TCl) W=>less_any x c W
 have hdl:=fun x:TCl=>(decide_eq_true_iff:decide (ltT x c)=true↔ltT x c)
 generalize hP:PutPost l c w=P
 unfold PutPost at hP
 rw[hlen]at hP
 have hPo:∀k A1 c1 w',k≤n→(∀j,j<k→ltT (l.getD j default) c)→(k=n∨¬ltT (l.getD k default) c)→w'.ownsRow w.heap.size 85 6 (.slice A1 (n+1) c1) (n+1) ((l.take k++c::l.drop k).flatMap tclE)→Below w.heap.size w w'→P (.returned (.slice A1 (n+1) c1)) w':=fun k A1 c1 w' e1 e2 e3 ho hb=>by
  rw[←hP]
  refine⟨A1,c1,rfl,?_,hb⟩
  rw[hat k (by omega) e2 (by rw[hlen];exact e3)]
  exact ho
 clear hP hat
 obtain⟨c0,c1,c2,c3,c4,c5⟩:=c
 dsimp only at*
 refine zh5 ?_ h hlen cL hPo hdl;clear h hlen cL hPo hdl;intro h hlen cL hPo hdl
 go_enter Tryz.func113,Tryz.ntmps113
 go_upto_region 1 with(refine bA I 85 ?_;clear I;intro gc w1 I hG;clear hG)
 have hgc:Hid (∀x∈ [((gc,#[.int .i64 c0,.int .i64 c1,.int .i64 c2,.bool c3,.int .i64 c4,.int .i64 c5],85):Nat×Array Value×TypeId)],x.1<w1.heap.size):=fun x hx=>by
  rcases List.mem_singleton.1 hx with rfl
  exact(I.at_ 0 rfl).lt
 have hw1:=Zh I.below.size
 obtain⟨bs,hbs⟩:∃bs,bs=w1.heap.size:=⟨_,rfl⟩
 rw[←hbs]at hgc hw1
 have hbs2:Hid (bs≤w1.heap.size):=by show _≤_;omega
 clear hbs
 go_wp2_with fail
 go_loopw[5,6] (fun o i wr=>∃(k:Nat) (A1:Option Addr) (p1:Nat),k≤n∧i= .int .i64 k∧o= .slice A1 k p1∧Hid (∀j,j<k→ltT (l.getD j default) ⟨c0,c1,c2,c3,c4,c5⟩)∧Hid (wr.ownsRow bs 85 6 (.slice A1 k p1) k ((l.take k).flatMap tclE))∧Hid (bs≤wr.heap.size)∧Hid (Mem w wr [(gc,#[.int .i64 c0,.int .i64 c1,.int .i64 c2,.bool c3,.int .i64 c4,.int .i64 c5],85)])) (fun _ i _=>n-(intOf i).toNat)
 case atStart=>exact⟨0,none,0,by omega,rfl,rfl,fun j hj=>by omega,World.ownsRow_nil _ _ _ _,hbs2,I⟩
 case round=>
  clear I
  obtain⟨k,A1,p1,hk,rfl,rfl,HP,HO,HZ,I⟩:=hrel
  have gx:=(I.at_ 0 rfl).box.grown
  by_cases hlt:k<n
  ·obtain⟨b,off,rfl⟩:=h.addr (by omega)
   have hx:=tcl_at (h.keep I.below) hlt
   have hd:=hdl.out (l.getD k default)
   have cLx:=fun W=>cL.out (l.getD k default) W
   have htk:=take_snoc (xs:=l) (k:=k) (by rw[hlen.out];exact hlt)
   generalize decide (ltT (l.getD k default) ⟨c0,c1,c2,c3,c4,c5⟩)=D at*
   generalize hxe:l.getD k default=x at*
   replace hxe:=Zh hxe
   obtain⟨x0,x1,x2,x3,x4,x5⟩:=x
   obtain⟨q0,q1,q2,q3,q4,q5⟩:=hx
   dsimp only at q0 q1 q2 q3 q4 q5 cLx
   have g0:=cell_regrown q0
   have g1:=cell_regrown q1
   have g2:=cell_regrown q2
   have g3:=cell_regrown q3
   have g4:=cell_regrown q4
   have g5:=cell_regrown q5
   have r1:(k:Int)<(n:Int):=by omega
   clear q0 q1 q2 q3 q4 q5
   replace hd:=Zh hd
   replace htk:=Zh htk
   have cs:∀d os,Calls Tryz.prog 178 #[.agg #[.int .i64 x0,.int .i64 x1,.int .i64 x2,.bool x3,.int .i64 x4,.int .i64 x5],.agg #[.int .i64 c0,.int .i64 c1,.int .i64 c2,.bool c3,.int .i64 c4,.int .i64 c5]] (grow (redrawn wr d) os) fun e w''=>e= .returned (.bool D)∧∃p:Regrown,w''=grow (redrawn wr p.d) p.os:=
    fun d os=>Calls.regrown_of (cLx _)
   replace cs:=Zh cs
   clear cLx
   go_upto_region 3 with fail
   refine wp_region_quiet_below (by kernel_rfl) (by kernel_rfl) ?_
   repeat(go_big_quiet_step(exact cs.out _ _))
   refine wpQuiet_nil ?_
   rintro _ ⟨⟨dq,osq⟩,rfl⟩
   have p_:=below_regrown wr dq osq
   replace HO:=Zh (owns_keep HO.out p_)
   replace HZ:=Zh (Nat.le_trans HZ.out p_.size)
   replace I:=Zm I p_
   generalize grow (redrawn wr dq) osq=w3 at*
   clear p_ g0 g1 g2 g3 g4 g5 gx cs
   cases D with
   |true=>
    have hlt2:=hd.1 rfl
    have hP2:Hid (∀j,j<k+1→ltT (l.getD j default) ⟨c0,c1,c2,c3,c4,c5⟩):=fun j hj=>by
     by_cases e:j=k
     ·subst e;rw[hxe.out];exact hlt2
     ·exact HP.out j (by omega)
    clear hlt2
    have hx:=tcl_at (h.keep I.below) hlt
    rw[hxe.out]at hx
    obtain⟨q0,q1,q2,q3,q4,q5⟩:=hx
    dsimp only at q0 q1 q2 q3 q4 q5
    have hlk:Hid ((l.take k).length=k):=by show _= _;rw[List.length_take,hlen.out];omega
    go_wp2_with(at_builtin;refine wpList_append_sls eltT _ rfl _ _ rfl bs (.slice A1 k p1) (l.take k) rfl (by rw[hlk.out];exact HO.alloc _) _ 1 1 [⟨x0,x1,x2,x3,x4,x5⟩] rfl (Sls.one (Blk.new _ _ _)) (by rw[hlk.out];omega) (by have:=HZ.out;simp;omega) ?_;intro v1 w6 HO1 HG1 _;rw[List.length_append,hlk.out,List.length_singleton]at HO1;obtain⟨A2,c2',rfl⟩:=own_slice HO1;replace HO1:=Zh HO1;replace HG1:=Zh HG1)
    have HM2:=Zh ((I.keep (ball w3 (.cells #[.int .i64 x0,.int .i64 x1,.int .i64 x2,.bool x3,.int .i64 x4,.int .i64 x5] 85))).rowB (HO.alloc _) HG1.out hw1.out hgc.out)
    have HO2:Hid (w6.ownsRow bs 85 6 (.slice A2 (k+1) c2') (k+1) ((l.take (k+1)).flatMap tclE)):=by show World.ownsRow _ _ _ _ _ _ _;rw[htk.out];exact HO1.out
    have HZ2:Hid (bs≤w6.heap.size):=Nat.le_trans HZ.out (Nat.le_trans (by simp) HG1.size)
    go_wp2
    go_roundw
    case rel=>exact⟨k+1,A2,c2',by omega,by go_num,rfl,hP2,HO2,HZ2,HM2⟩
    case measure=>simp[intOf];omega
   |false=>
    have hPk:=fun A3 c3' w'=>hPo.out k A3 c3' w' (by omega) HP.out (.inr (by rw[hxe.out];exact fun e=>by have:=hd.2 e;cases this))
    replace hPk:=Zh hPk
    have hck:¬(cp=k):=by omega
    have hlk:Hid ((l.take k).length=k):=by show _= _;rw[List.length_take,hlen.out];omega
    have kc:=I.cell 0 rfl
    clear HP
    go_wp2_with(first
     |(at_builtin;refine wpList_append_sls eltT _ rfl _ _ rfl bs (.slice A1 k p1) (l.take k) rfl (by rw[hlk.out];exact HO.alloc _) _ 1 1 [⟨c0,c1,c2,c3,c4,c5⟩] rfl (Sls.one (Blk.new _ _ _)) (by rw[hlk.out];omega) (by have:=HZ.out;simp;omega) ?_;intro v1 w6 HO1 HG1 _;rw[List.length_append,hlk.out,List.length_singleton]at HO1;obtain⟨A2,c2',rfl⟩:=own_slice HO1;have HZ2:Hid (bs≤w6.heap.size):=Nat.le_trans HZ.out (Nat.le_trans (by simp) HG1.size);have hB6:Hid (Below w.heap.size w w6):=Below.grownM (ballN I.below _) HG1 (ballN I.below _).size (fun g hg=>Nat.le_trans hw1.out (HO.lt g hg).1);replace HO1:=Zh HO1;replace HG1:=Zh HG1;clear kc)
     |(at_builtin;refine wpList_append_sls eltT _ rfl _ _ rfl bs (.slice A2 (k+1) c2') (l.take k++ [⟨c0,c1,c2,c3,c4,c5⟩]) rfl (by rw[List.length_append,hlk.out];exact HO1.out) _ _ _ (l.drop k) rfl ((h.keep hB6.out).drop (by omega)) (by rw[List.length_append,hlk.out];simp;omega) HZ2.out ?_;intro v7 w7 HO7 HG7 _;have hB7:Hid (Below w.heap.size w w7):=Below.grownM hB6.out HG7 hB6.size (fun g hg=>Nat.le_trans hw1.out (HO1.lt g hg).1);have hl7:(l.take k++ [(⟨c0,c1,c2,c3,c4,c5⟩:TCl)]++l.drop k).length=n+1:=(by have e1:=hlk.out;have e2:=hlen.out;simp only[List.length_append,List.length_drop,List.length_singleton,List.length_nil];omega);rw[hl7]at HO7;clear hl7;obtain⟨A3,c3',rfl⟩:=own_slice HO7;replace HO7:=Zh HO7;clear HG7)
     |fail)
    all_goals
     first|refine hPk A3 c3' w7 ?_ hB7.out|(go_ret;refine hPk A3 c3' w7 ?_ hB7.out)
     refine own_base ?_ hw1.out
     simpa using HO7.out
  ·obtain rfl:k=n:=by omega
   have d0:decide (k<k)=false:=by simp
   go_upto_region 3 with fail
   refine wp_region_quiet_below (by kernel_rfl) (by kernel_rfl) ?_
   repeat(go_big_quiet_step(fail))
   refine wpQuiet_nil ?_
   rintro _ ⟨⟨dq,osq⟩,rfl⟩
   have p_:=below_regrown wr dq osq
   replace HO:=Zh (owns_keep HO.out p_)
   replace HZ:=Zh (Nat.le_trans HZ.out p_.size)
   replace I:=Zm I p_
   generalize grow (redrawn wr dq) osq=w3 at*
   clear p_ gx d0
   have hPk:=fun A3 c3' w'=>hPo.out k A3 c3' w' (by omega) HP.out (.inl rfl)
   replace hPk:=Zh hPk
   have hlk:Hid ((l.take k).length=k):=by show _= _;rw[List.length_take,hlen.out];omega
   have kc:=I.cell 0 rfl
   clear HP
   go_wp2_with(first
    |(at_builtin;refine wpList_append_sls eltT _ rfl _ _ rfl bs (.slice A1 k p1) (l.take k) rfl (by rw[hlk.out];exact HO.alloc _) _ 1 1 [⟨c0,c1,c2,c3,c4,c5⟩] rfl (Sls.one (Blk.new _ _ _)) (by rw[hlk.out];omega) (by have:=HZ.out;simp;omega) ?_;intro v1 w6 HO1 HG1 _;rw[List.length_append,hlk.out,List.length_singleton]at HO1;obtain⟨A2,c2',rfl⟩:=own_slice HO1;have HZ2:Hid (bs≤w6.heap.size):=Nat.le_trans HZ.out (Nat.le_trans (by simp) HG1.size);have hB6:Hid (Below w.heap.size w w6):=Below.grownM (ballN I.below _) HG1 (ballN I.below _).size (fun g hg=>Nat.le_trans hw1.out (HO.lt g hg).1);replace HO1:=Zh HO1;replace HG1:=Zh HG1;clear kc)
    |(at_builtin;refine wpList_append_sls eltT _ rfl _ _ rfl bs (.slice A2 (k+1) c2') (l.take k++ [⟨c0,c1,c2,c3,c4,c5⟩]) rfl (by rw[List.length_append,hlk.out];exact HO1.out) _ _ _ (([]:List TCl)) rfl (by first|exact Sls.empty _|(simp;exact Sls.empty _)) (by rw[List.length_append,hlk.out];simp;omega) HZ2.out ?_;intro v7 w7 HO7 HG7 _;have hB7:Hid (Below w.heap.size w w7):=Below.grownM hB6.out HG7 hB6.size (fun g hg=>Nat.le_trans hw1.out (HO1.lt g hg).1);have hl7:(l.take k++ [(⟨c0,c1,c2,c3,c4,c5⟩:TCl)]++([]:List TCl)).length=k+1:=(by have e1:=hlk.out;have e2:=hlen.out;simp only[List.length_append,List.length_drop,List.length_singleton,List.length_nil];omega);rw[hl7]at HO7;clear hl7;obtain⟨A3,c3',rfl⟩:=own_slice HO7;replace HO7:=Zh HO7;clear HG7)
    |fail)
   all_goals
    first|refine hPk A3 c3' w7 ?_ hB7.out|(go_ret;refine hPk A3 c3' w7 ?_ hB7.out)
    refine own_base ?_ hw1.out
    rw[List.drop_of_length_le (by rw[hlen.out];exact Nat.le_refl _)]
    simpa using HO7.out
structure TabOwn(w:World)(v:TabV)(t:Tab):Prop where
 cells:∃b,w.ownsRow b 85 6 (.slice v.A v.n v.c) v.n (t.cells.flatMap tclE)
 lc:t.cells.length=v.n
theorem TabOwn.zero(w:World):TabOwn w tabV0 tab0:=⟨⟨0,World.ownsRow_nil _ _ _ _⟩,rfl⟩
theorem TabOwn.is {w:World} {v:TabV} {t:Tab}(h:TabOwn w v t):TabIs w v t:=by
 obtain⟨⟨b,hb⟩,hl⟩:=h
 exact⟨(Sls.of_owns tclE_len hb hl).2,own_cap hb⟩
theorem TabOwn.keep {w w':World} {v:TabV} {t:Tab}(h:TabOwn w v t)(hb:Below w.heap.size w w'):TabOwn w' v t:=by
 obtain⟨⟨b,h1⟩,hl⟩:=h
 exact⟨⟨b,owns_keep h1 hb⟩,hl⟩
theorem TabOwn.put {w w':World} {v:TabV} {t:Tab}(h:TabOwn w v t) {B:Nat} {C:Array Value} {ty:TypeId}(hB:Blk w B C ty)(ht:ty≠85)(hg:w.grownBy w' (some B)):TabOwn w' v t:=by
 obtain⟨⟨b,h1⟩,hl⟩:=h
 exact⟨⟨b,h1.kept hg (.inr (row_ne_blk h1 hB ht.symm))⟩,hl⟩
def AddOwn(t:Tab)(c:TCl)(w:World)(e:Ending)(w':World):Prop:=∃v,e= .returned (.tuple #[.agg (tabA (addN t c) v),.int .i64 (addC t c)])∧TabOwn w' v (addN t c)∧Below w.heap.size w w'
theorem addOwn_bad {t:Tab} {c:TCl} {F:Int} {w w':World} {e:Ending}(J:addC t c=F)(h0:F≠0)(h:e= .returned (.tuple #[.agg #[.int .i64 0,.int .i64 0,.slice none 0 0],.int .i64 F]))(hb:Below w.heap.size w w'):AddOwn t c w e w':=by
 have hN:addN t c=tab0:=by unfold addN;rw[J,if_neg h0]
 unfold AddOwn
 rw[hN,J]
 exact⟨tabV0,h,TabOwn.zero _,hb⟩
theorem addOwn_ok {t:Tab} {c:TCl} {w w':World} {e:Ending}(J:addC t c=0) {v:TabV}(h:e= .returned (.tuple #[.agg (Kt t v),.int .i64 0]))(hv:∃b,w'.ownsRow b 85 6 (.slice v.A v.n v.c) v.n ((putN t.cells c).flatMap tclE))(hc:(putN t.cells c).length=v.n)(hb:Below w.heap.size w w'):AddOwn t c w e w':=by
 have hN:addN t c=⟨t.node,t.length,putN t.cells c⟩:=by unfold addN;rw[J,if_pos rfl]
 unfold AddOwn
 rw[hN,J]
 exact⟨v,h,⟨hv,hc⟩,hb⟩
def AddPost(t:Tab)(c:TCl)(w:World)(e:Ending)(w':World):Prop:=∃v,e= .returned (.tuple #[.agg (tabA (addN t c) v),.int .i64 (addC t c)])∧TabIs w' v (addN t c)∧Below w.heap.size w w'
theorem addPost_bad {t:Tab} {c:TCl} {F:Int} {w w':World} {e:Ending}(J:addC t c=F)(h0:F≠0)(h:e= .returned (.tuple #[.agg #[.int .i64 0,.int .i64 0,.slice none 0 0],.int .i64 F]))(hb:Below w.heap.size w w'):AddPost t c w e w':=by
 have hN:addN t c=tab0:=by unfold addN;rw[J,if_neg h0]
 unfold AddPost
 rw[hN,J]
 exact⟨tabV0,h,TabIs.zero _,hb⟩
theorem addPost_ok {t:Tab} {c:TCl} {w w':World} {e:Ending}(J:addC t c=0) {v:TabV}(h:e= .returned (.tuple #[.agg (Kt t v),.int .i64 0]))(hv:TclS w' v.A v.n (putN t.cells c))(hc:v.n≤v.c)(hb:Below w.heap.size w w'):AddPost t c w e w':=by
 have hN:addN t c=⟨t.node,t.length,putN t.cells c⟩:=by unfold addN;rw[J,if_pos rfl]
 unfold AddPost
 rw[hN,J]
 exact⟨v,h,⟨hv,hc⟩,hb⟩
theorem fold_tab(w:World)(B:Nat)(a b c:Value):(((w.setCell ⟨B,0,none⟩ a).setCell ⟨B,1,none⟩ b).setCell ⟨B,2,none⟩ c)=w.setCells B 0 [a,b,c]:=rfl
theorem radd_own(t:Tab)(v:TabV)(c:TCl)(w:World)(h:TabIs w v t):Calls Tryz.prog 41 #[.agg (Kt t v),.agg #[.int .i64 c.slot,.int .i64 c.off,.int .i64 c.kind,.bool c.send,.int .i64 c.peer,.int .i64 c.flow]] w (AddOwn t c w):=by
 have I:=Zh (Mem.start w)
 have cK:=fun W (hb:Below w.heap.size w W)=>rchkT_any t v W (h.keep hb)
 have cF:=fun W=>rcell_any t v c W
 have cT:=fun W (hb:Below w.heap.size w W)=>taken_any v.A v.n v.c t.cells c.slot c.kind W (h.cells.keep hb)
 have cP:=fun W hb (hn:v.n≤100000)=>put_any v.A v.n v.c t.cells c W (h.cells.keep (w':=W) hb) hn h.cc
 have hl:=h.cells.len
 have hsm:=h.cells.small
 unfold maxLen at hsm
 have hlen:chkT t=0→v.n≤512:=fun e=>by have:=((chkT_iff t).1 e).size;omega
 have J:addC t c=if chkT t≠0 then 1 else if formN c t.node t.length≠0 then formN c t.node t.length else if takenS t.cells c.slot c.kind=true then 16 else if t.cells.length=512 then 8 else 0:=rfl
 rw[hl]at J
 have hPb:=fun F w' e1 e2 e3=>addOwn_bad (t:=t) (c:=c) (F:=F) (w:=w) (w':=w') e1 e2 rfl e3
 have hPo:=fun w' (v:TabV) e1 e2 e3 e4=>addOwn_ok (t:=t) (c:=c) (w:=w) (w':=w') (v:=v) e1 rfl e2 e3 e4
 generalize AddOwn t c w=P at*
 generalize addC t c=AC at*
 generalize chkT t=C1 at*
 generalize formN c t.node t.length=FO at*
 generalize takenS t.cells c.slot c.kind=TK at*
 obtain⟨t0,t1,t2⟩:=t
 obtain⟨c0,c1,c2,c3,c4,c5⟩:=c
 obtain⟨A,n,cp⟩:=v
 dsimp only at*
 have uM:=Tryz.underlying37
 refine zh11 ?_ h cK cF cT cP hl hlen J hPb hPo uM;clear h cK cF cT cP hl hlen J hPb hPo uM;intro h cK cF cT cP hl hlen J hPb hPo uM
 go_enter Tryz.func41,Tryz.ntmps41
 go_upto_region 1 with(first|(refine bA I 37 ?_;clear I;intro gt w1 I hG;clear hG)|(refine bA I 85 ?_;clear I;intro gc w1 I hG;clear hG)|(refine wpList_allocA I rfl 37 rfl (by first|exact msgInfo|exact edInfo|exact tabInfo|exact info_tcl|exact info_spt) ?_;clear I;intro g4 w1 I hG;clear hG))
 have kt:=I.cell 2 rfl
 have kc:=I.cell 1 rfl
 go_upto_region 10 with(first
  |(refine sN 0 I ?_;clear I kt kc;intro w4 I hG4;simp only[List.set]at I;have kt:=I.cell 2 rfl;have kc:=I.cell 1 rfl)
  |(go_at_call 110;refine(cK _ I.below).mono ?_;rintro e w3 ⟨rfl,p_⟩;have HM2:=Zm I p_;clear I p_ kt kc cK;have I:=HM2;clear HM2;have kt:=I.cell 2 rfl;have kc:=I.cell 1 rfl)
  |(go_at_call 111;refine(cF _).mono ?_;rintro e w3 ⟨rfl,p_⟩;have HM2:=Zm I p_;clear I p_ kt kc cF;have I:=HM2;clear HM2;have kt:=I.cell 2 rfl;have kc:=I.cell 1 rfl)
  |(go_at_call 112;refine(cT _ I.below).mono ?_;rintro e w_ ⟨rfl,rfl⟩)
  |fail)
 all_goals try
  (try simp only[Exit.inBlock,Exit.then]
   refine rT I 0 uM.out ?_
   have f1:=J.out
   try simp only[bne_iff_ne,beq_iff_eq,ne_eq,bne_eq_false_iff_eq]at*
   first
   |exact hPb.out _ _ (f1.trans (by simp[*]: _=(1:Int))) (by decide) I.below
   |exact hPb.out _ _ (f1.trans (by simp[*]: _=(16:Int))) (by decide) I.below
   |(have e:n=512:=(by omega);exact hPb.out _ _ (f1.trans (by simp[*]: _=(8:Int))) (by decide) I.below)
   |exact hPb.out FO _ (f1.trans (by simp[*])) (by assumption) I.below
   |fail)
 try simp only[bne_iff_ne,beq_iff_eq,ne_eq,bne_eq_false_iff_eq,beq_eq_false_iff_ne]at*
 have hC:Hid (AC=0):=by
  have f1:=J.out
  have e:¬n=512:=by omega
  show _= _;rw[f1];simp[*]
 have hn:n≤100000:=by have:=hlen.out (by first|assumption|rfl);omega
 clear J hPb hlen
 have HX:Hid (∀w' C,Mem w w' [(g4,C,37),(gc,#[.int .i64 c0,.int .i64 c1,.int .i64 c2,.bool c3,.int .i64 c4,.int .i64 c5],85),(gt,#[.int .i64 t0,.int .i64 t1,.slice A n cp],37)]→w'.cell? ⟨gt,0,none⟩=some (.int .i64 t0)∧w'.cell? ⟨gt,1,none⟩=some (.int .i64 t1)∧w'.cell? ⟨gt,2,none⟩=some (.slice A n cp)∧w'.cell? ⟨gc,0,none⟩=some (.int .i64 c0)∧w'.cell? ⟨gc,1,none⟩=some (.int .i64 c1)∧w'.cell? ⟨gc,2,none⟩=some (.int .i64 c2)∧w'.cell? ⟨gc,3,none⟩=some (.bool c3)∧w'.cell? ⟨gc,4,none⟩=some (.int .i64 c4)∧w'.cell? ⟨gc,5,none⟩=some (.int .i64 c5)):=fun w' C hm=>⟨hm.cell 2 rfl 0,hm.cell 2 rfl 1,hm.cell 2 rfl 2,hm.cell 1 rfl 0,hm.cell 1 rfl 1,hm.cell 1 rfl 2,hm.cell 1 rfl 3,hm.cell 1 rfl 4,hm.cell 1 rfl 5⟩
 have hX0:=HX.out _ _ I.drew
 have h4:=Zh (I.at_ 0 rfl)
 clear kt kc
 go_region_held3(fun w'=>w'.cell? ⟨gt,0,none⟩=some (.int .i64 t0)∧w'.cell? ⟨gt,1,none⟩=some (.int .i64 t1)∧w'.cell? ⟨gt,2,none⟩=some (.slice A n cp)∧w'.cell? ⟨gc,0,none⟩=some (.int .i64 c0)∧w'.cell? ⟨gc,1,none⟩=some (.int .i64 c1)∧w'.cell? ⟨gc,2,none⟩=some (.int .i64 c2)∧w'.cell? ⟨gc,3,none⟩=some (.bool c3)∧w'.cell? ⟨gc,4,none⟩=some (.int .i64 c4)∧w'.cell? ⟨gc,5,none⟩=some (.int .i64 c5))
  (first
   |exact HX.out _ _ I.drew
   |exact HX.out _ _ (I.keep (by assumption))
   |(rw[fold_tab];exact HX.out _ _ ((I.keep hB5).setc 0 rfl 0 _ _ rfl))
   |fail)
  (first
   |(go_at_call 113;refine(cP _ (bthen I.below ((Below.refl _ _).drew)) hn).mono ?_;rintro e w5 ⟨A1,p1,rfl,hO1,hB_⟩;have hB5:Below w3.heap.size w3 w5:=bthen ((Below.refl _ _).drew) hB_;have hk5:=h4.keep hB5;have kc5:=hk5.cell;have kf5:=hk5.free)
   |fail)
 all_goals
  go_wp2_with fail
  try simp only[Exit.inBlock,Exit.then]
  rw[fold_tab]
  have HM5:=(I.keep hB5).setc 0 rfl 0 [.int .i64 t0,.int .i64 t1,.slice A1 (t2.length+1) p1] _ rfl
  have hO5:=own_setc hO1 hk5 (by decide) 0 [.int .i64 t0,.int .i64 t1,.slice A1 (t2.length+1) p1]
  refine bodyPost_ret (results_ct rfl (HM5.at_ 0 rfl) rfl _ uM.out rfl (by exact ztab)) rfl ?_
  exact hPo.out _ ⟨A1,t2.length+1,p1⟩ hC.out ⟨_,hO5⟩ (putN_len _ _) HM5.below
theorem radd_any(t:Tab)(v:TabV)(c:TCl)(w:World)(h:TabIs w v t):Calls Tryz.prog 41 #[.agg (Kt t v),.agg #[.int .i64 c.slot,.int .i64 c.off,.int .i64 c.kind,.bool c.send,.int .i64 c.peer,.int .i64 c.flow]] w (AddPost t c w):=
 (radd_own t v c w h).mono fun _ _ ⟨x,h1,h2,h3⟩=>⟨x,h1,h2.is,h3⟩
theorem bs_taken {ls:List TCl} {x:TCl} {i:Nat} {f:Bool}(ha:AscN ls)(h:BS ls x i f):f=takenS ls x.slot x.kind:=by
 rw[h.found,Bool.eq_iff_iff]
 unfold takenS
 rw[List.any_eq_true]
 simp only[Bool.and_eq_true,decide_eq_true_eq]
 constructor
 ·rintro⟨h1,h2⟩
  exact⟨_,getD_mem h1,(cmpT_zero _ _).1 h2⟩
 ·rintro⟨y,hy,e1,e2⟩
  obtain⟨j,hj,rfl⟩:=mem_getD hy
  have hnl:¬ltT (ls.getD j default) x:=by unfold ltT;omega
  have hij:i≤j:=Nat.le_of_not_lt fun c=>hnl (h.below j c)
  rcases Nat.lt_or_ge i j with c|c
  ·have h1:=ha i j c hj
   have h2:=h.above i (Nat.le_refl _) (by omega)
   exact absurd (by unfold ltT at*;omega) h2
  ·obtain rfl:i=j:=by omega
   exact⟨hj,(cmpT_zero _ _).2 ⟨e1,e2⟩⟩
theorem add_any(t:Tab)(v:TabV)(c:TCl)(w:World)(h:TabIs w v t):Calls Tryz.prog 78 #[.agg (Kt t v),.agg #[.int .i64 c.slot,.int .i64 c.off,.int .i64 c.kind,.bool c.send,.int .i64 c.peer,.int .i64 c.flow]] w (AddPost t c w):=by
 have I:=Zh (Mem.start w)
 have cK:=fun W (hb:Below w.heap.size w W)=>chkT_any t v W (h.keep hb)
 have cF:=fun W=>form_any c t.node t.length W
 have hasc:chkT t=0→AscN t.cells:=fun e=>ascN_of ((chkT_iff t).1 e).asc
 have cB:=fun W (hb:Below w.heap.size w W) (ha:AscN t.cells) (hn:v.n≤1000)=>search_any v.A v.n v.c t.cells c W (h.cells.keep hb) ha hn
 have hbt:=fun(ha:AscN t.cells) i f (hs:BS t.cells c i f)=>bs_taken ha hs
 have cC:=fun W (hb:Below w.heap.size w W) (hn:v.n≤100000)=>cloneT_any v.A v.n v.c t.cells W (h.cells.keep hb) hn
 have cI:=fun A1 p1 base i vb W a1 a2 a3 a4 a5 a6=>insert_any A1 v.n p1 base i vb t.cells c W a1 a2 a3 a4 a5 a6
 have hput:=putN_at t.cells c
 have hl:=h.cells.len
 have hsm:=h.cells.small
 unfold maxLen at hsm
 have hlen:chkT t=0→v.n≤512:=fun e=>by have:=((chkT_iff t).1 e).size;omega
 have J:addC t c=if chkT t≠0 then 1 else if formN c t.node t.length≠0 then formN c t.node t.length else if takenS t.cells c.slot c.kind=true then 16 else if t.cells.length=512 then 8 else 0:=rfl
 rw[hl]at J
 have hPb:=fun F w' e1 e2 e3=>addPost_bad (t:=t) (c:=c) (F:=F) (w:=w) (w':=w') e1 e2 rfl e3
 have hPo:=fun w' (v:TabV) e1 e2 e3 e4=>addPost_ok (t:=t) (c:=c) (w:=w) (w':=w') (v:=v) e1 rfl e2 e3 e4
 generalize AddPost t c w=P at*
 generalize addC t c=AC at*
 generalize chkT t=C1 at*
 generalize formN c t.node t.length=FO at*
 generalize takenS t.cells c.slot c.kind=TK at*
 obtain⟨t0,t1,t2⟩:=t
 obtain⟨c0,c1,c2,c3,c4,c5⟩:=c
 obtain⟨A,n,cp⟩:=v
 dsimp only at*
 have uM:=Tryz.underlying37
 refine zh12 ?_ h cK cF cB cC cI hasc hbt hput hl hlen J;clear h cK cF cB cC cI hasc hbt hput hl hlen J;intro h cK cF cB cC cI hasc hbt hput hl hlen J
 refine zh3 ?_ hPb hPo uM;clear hPb hPo uM;intro hPb hPo uM
 go_enter Tryz.func78,Tryz.ntmps78
 go_upto_region 1 with(first|(refine bA I 37 ?_;clear I;intro gt w1 I hG;clear hG)|(refine bA I 85 ?_;clear I;intro gc w1 I hG;clear hG)|(refine wpList_allocA I rfl 37 rfl (by first|exact msgInfo|exact edInfo|exact tabInfo|exact info_tcl|exact info_spt) ?_;clear I;intro g4 w1 I hG;clear hG))
 have kt:=I.cell 2 rfl
 have kc:=I.cell 1 rfl
 go_upto_region 6 with(first
  |(refine sN 0 I ?_;clear I kt kc;intro w4 I hG4;simp only[List.set]at I;have kt:=I.cell 2 rfl;have kc:=I.cell 1 rfl)
  |(go_at_call 20;refine(cK _ I.below).mono ?_;rintro e w3 ⟨rfl,p_⟩;have HM2:=Zm I p_;clear I p_ kt kc cK;have I:=HM2;clear HM2;have kt:=I.cell 2 rfl;have kc:=I.cell 1 rfl)
  |(go_at_call 80;refine(cF _).mono ?_;rintro e w3 ⟨rfl,p_⟩;have HM2:=Zm I p_;clear I p_ kt kc cF;have I:=HM2;clear HM2;have kt:=I.cell 2 rfl;have kc:=I.cell 1 rfl)
  |fail)
 all_goals try
  (try simp only[Exit.inBlock,Exit.then]
   refine rT I 0 uM.out ?_
   have f1:=J.out
   try simp only[bne_iff_ne,beq_iff_eq,ne_eq,bne_eq_false_iff_eq]at*
   first
   |exact hPb.out _ _ (f1.trans (by simp[*]: _=(1:Int))) (by decide) I.below
   |exact hPb.out FO _ (f1.trans (by simp[*])) (by assumption) I.below
   |fail)
 try simp only[bne_iff_ne,beq_iff_eq,ne_eq,bne_eq_false_iff_eq,beq_eq_false_iff_ne]at*
 have hC1:Hid (C1=0):=by show _= _;first|assumption|rfl
 have hn5:=hlen.out hC1.out
 have ha:=Zh (hasc hC1.out)
 have hF2:Hid (AC=if TK=true then 16 else if n=512 then 8 else 0):=by
  have f1:=J.out
  show _= _;rw[f1];simp[*]
 clear J hlen hasc
 go_wp2_with fail
 refine(cB _ I.below ha.out (by omega)).mono ?_
 rintro e w3 ⟨i,f,hS,rfl,p_⟩
 have HM2:=Zm I p_;clear I p_ kt kc cB;have I:=HM2;clear HM2;have kt:=I.cell 2 rfl;have kc:=I.cell 1 rfl
 have hft:=Zh (hbt ha.out i f hS)
 have hi1:=hS.le
 have hi2:=hS.below
 have hi3:=hS.above
 clear hS hbt
 rw[hl.out]at hi1 hi3
 have hput2:Hid (putN t2 ⟨c0,c1,c2,c3,c4,c5⟩=t2.take i++⟨c0,c1,c2,c3,c4,c5⟩::t2.drop i):=hput.out i (by rw[hl.out];exact hi1) hi2 (by
  by_cases e:i=n
  ·exact .inl (by rw[hl.out];exact e)
  ·exact .inr (hi3 i (Nat.le_refl _) (by omega)))
 clear hi2 hi3 hput
 cases f with
 |true=>
  go_wp2_with(refine sN 0 I ?_;clear I kt kc;intro w4 I hG4;simp only[List.set]at I;have kt:=I.cell 2 rfl;have kc:=I.cell 1 rfl)
  all_goals
   try simp only[Exit.inBlock,Exit.then]
   refine rT I 0 uM.out ?_
   exact hPb.out 16 _ (hF2.trans (by rw[←hft.out];rfl)) (by decide) I.below
 |false=>
  by_cases hf5:n=512
  ·subst hf5
   go_wp2_with(refine sN 0 I ?_;clear I kt kc;intro w4 I hG4;simp only[List.set]at I;have kt:=I.cell 2 rfl;have kc:=I.cell 1 rfl)
   all_goals
    try simp only[Exit.inBlock,Exit.then]
    refine rT I 0 uM.out ?_
    exact hPb.out 8 _ (hF2.trans (by rw[←hft.out];rfl)) (by decide) I.below
  ·have d5:((n:Int)==512)=false:=by rw[beq_eq_false_iff_ne];omega
   have hC:Hid (AC=0):=by show _= _;rw[hF2.out,←hft.out];simp[hf5]
   clear hF2 hPb hft
   replace hf5:=Zh hf5
   go_upto_region 11 with fail
   have ktA:=fun o=>(I.keep (ball _ o)).cell 2 rfl
   have kcA:=fun o=>(I.keep (ball _ o)).cell 1 rfl
   go_region_with(first
    |(go_at_call 77;(with_reducible show Calls _ _ _ (World.drew (World.alloc _ _)) _);refine(cC _ (bthen I.below (ballN (Below.refl _ _) _).drew) (by omega)).mono ?_;rintro e w5 ⟨A1,p1,rfl,hO1,hB_⟩;have hB5:Below w3.heap.size w3 w5:=bthen (ballN (Below.refl _ _) _).drew hB_;have hv5:Blk w5 w3.heap.size _ _:=((Blk.new _ _ _).drew).keep hB_;have m5:=I.keep hB5;have kt5:=m5.cell 2 rfl;have kc5:=m5.cell 1 rfl)
    |(go_at_call 77;refine(cC _ (bthen I.below (Below.refl _ _).drew) (by omega)).mono ?_;rintro e w5 ⟨A1,p1,rfl,hO1,hB_⟩;have hB5:Below w3.heap.size w3 w5:=bthen (Below.refl _ _).drew hB_;have m5:=I.keep hB5;have kt5:=m5.cell 2 rfl;have kc5:=m5.cell 1 rfl;have kt6:=fun o=>(m5.keep (ball _ o)).cell 2 rfl;have kc6:=fun o=>(m5.keep (ball _ o)).cell 1 rfl)
    |(go_at_call 140;(with_reducible show Calls _ _ _ (World.alloc _ _) _);refine(cI A1 p1 _ i w5.heap.size _ (hO1.alloc _) hi1 (Blk.new _ _ _) (fun e=>absurd (hO1.lt _ e).2 (Nat.lt_irrefl _)) (by omega) (Nat.le_trans hB_.size (by simp))).mono ?_;rintro e w6 ⟨A2,p2,rfl,hO2,hG2⟩;have HM6:=Zh ((I.keep (ballN hB5 _)).rowB (hO1.alloc _) hG2 (I.drew).below.size (fun x hx=>(I.drew.blk x hx).lt));have hk6:=Zh (HM6.at_ 2 rfl);have kc6:=hk6.cell;have kf6:=hk6.free)
    |(go_at_call 140;refine(cI A1 p1 _ i w3.heap.size _ hO1 hi1 hv5 (fun e=>absurd (hO1.lt _ e).1 (by simp)) (by omega) hB_.size).mono ?_;rintro e w6 ⟨A2,p2,rfl,hO2,hG2⟩;have HM6:=Zh ((I.keep hB5).rowB hO1 hG2 (I.keep (ballN (Below.refl _ _) _).drew).below.size (fun x hx=>((I.keep (ballN (Below.refl _ _) _).drew).blk x hx).lt));have hk6:=Zh (HM6.at_ 2 rfl);have kc6:=hk6.cell;have kf6:=hk6.free)
    |fail)
   all_goals
    have HM7:Hid (Mem w (w6.setCell ⟨gt,2,none⟩ (.slice A2 (n+1) p2)) [(g4,#[.int .i64 0,.int .i64 0,.slice none 0 0],37),(gc,#[.int .i64 c0,.int .i64 c1,.int .i64 c2,.bool c3,.int .i64 c4,.int .i64 c5],85),(gt,#[.int .i64 t0,.int .i64 t1,.slice A2 (n+1) p2],37)]):=HM6.setc 2 rfl 2 [.slice A2 (n+1) p2] _ rfl
    have hO7:=own_setc hO2 hk6.out (by decide) 2 [.slice A2 (n+1) p2]
    change World.ownsRow (w6.setCell ⟨gt,2,none⟩ (.slice A2 (n+1) p2)) _ _ _ _ _ _ at hO7
    generalize w6.setCell ⟨gt,2,none⟩ (.slice A2 (n+1) p2)=w7 at*
    clear I HM6 hO2 hG2 hk6 kc6 kf6 ktA kcA kt5 kc5 m5
    have I:=HM7
    clear HM7
    have hB4:=Zh (I.at_ 0 rfl)
    rw[←hput2.out]at hO7
    replace hO7:=Zh hO7
    have kt:=I.cell 2 rfl
    go_wp2_with(refine sN 0 I ?_;clear I kt;intro w4 I hG4;simp only[List.set]at I;have kt:=I.cell 2 rfl)
    try simp only[Exit.inBlock,Exit.then]
    refine rT I 0 uM.out ?_
    have hO8:=hO7.kept hG4.out (.inr (row_ne_blk hO7.out hB4.out (by decide)))
    exact hPo.out _ ⟨A2,n+1,p2⟩ hC.out (Sls.of_owns tclE_len hO8 (by rw[putN_len,hl.out])).2 (own_cap hO8) I.below
end Tx
end Go.Proofs.YtfamifgchgolpaaGreat
