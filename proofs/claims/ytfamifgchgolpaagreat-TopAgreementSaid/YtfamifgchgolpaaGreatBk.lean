/- Chapter 16: the reference's small functions: taken, Bit, power, IsMask, Opposite, Few, Same. -/
import Derived.Test.YtfamifgchgolpaaGreatBj
set_option linter.unusedVariables false
set_option linter.unusedSimpArgs false
set_option maxRecDepth 100000
set_option maxHeartbeats 4000000
namespace Go.Proofs.YtfamifgchgolpaaGreat
open Go Go.RowKit Go.Sort Go.Shelf Go.Maps
namespace Tx
open Sw Mm
def takenS(l:List TCl)(slot kind:Int):Bool:=l.any fun x=>decide (x.slot=slot)&&decide (x.kind=kind)
theorem taken_any(A:Option Addr)(n cp:Nat)(l:List TCl)(slot kind:Int)(w:World)(h:TclS w A n l):Calls Tryz.prog 112 #[.slice A n cp,.int .i64 slot,.int .i64 kind] w fun e w'=>e= .returned (.bool (takenS l slot kind))∧w=w':=by
 have hlen:=h.len
 have hs:=h.small
 unfold maxLen at hs
 have hyes:∀k,k<n→(decide ((l.getD k default).slot=slot)&&decide ((l.getD k default).kind=kind))=true→takenS l slot kind=true:=fun k hk e=>List.any_eq_true.2 ⟨_,getD_mem (by rw[hlen];exact hk),e⟩
 have hno:(∀k,k<n→(decide ((l.getD k default).slot=slot)&&decide ((l.getD k default).kind=kind))=false)→takenS l slot kind=false:=fun e=>by
  unfold takenS
  rw[List.any_eq_false]
  intro x hx
  obtain⟨i,hi,rfl⟩:=mem_getD hx
  rw[e i (by omega)];simp
 generalize takenS l slot kind=R at*
 refine zh4 ?_ h hlen hyes hno;clear h hlen hyes hno;intro h hlen hyes hno
 go_enter Tryz.func112,Tryz.ntmps112
 go_wp2_with fail
 go_loopw[7] (fun i wr=>∃k:Nat,k≤n∧i= .int .i64 k∧Hid (∀j,j<k→(decide ((l.getD j default).slot=slot)&&decide ((l.getD j default).kind=kind))=false)∧wr=w) (fun i _=>n-(intOf i).toNat)
 case atStart=>exact⟨0,by omega,rfl,fun j hj=>by omega,rfl⟩
 case round=>
  obtain⟨k,hk,rfl,HP,rfl⟩:=hrel
  by_cases hlt:k<n
  ·obtain⟨b,off,rfl⟩:=h.addr (by omega)
   have hx:=tcl_at h.out hlt
   have hy:=hyes.out k hlt
   have hn:(decide ((l.getD k default).slot=slot)&&decide ((l.getD k default).kind=kind))=false→∀j,j<k+1→(decide ((l.getD j default).slot=slot)&&decide ((l.getD j default).kind=kind))=false:=fun h j hj=>by
    by_cases e:j=k
    ·subst e;exact h
    ·exact HP.out j (by omega)
   generalize l.getD k default=x at*
   obtain⟨x0,x1,x2,x3,x4,x5⟩:=x
   obtain⟨q0,q1,q2,q3,q4,q5⟩:=hx
   dsimp only at q0 q1 q2 q3 q4 q5 hy hn
   have r1:(k:Int)<(n:Int):=by omega
   by_cases c0:x0=slot
   ·by_cases c2:x2=kind
    ·have hR:=Zh (hy (by simp[c0,c2]))
     subst c0 c2
     clear hy hn
     go_wp2
     go_ret
     exact⟨by rw[hR.out];rfl,rfl⟩
    ·have hP2:=Zh (hn (by simp[c2]))
     have d2:(x2==kind)=false:=by simpa using c2
     subst c0
     replace c2:=Zh c2
     clear hy hn
     go_wp2
     go_roundw
     case rel=>exact⟨k+1,by omega,by go_num,hP2,by simp⟩
     case measure=>simp[intOf];omega
   ·have hP2:=Zh (hn (by simp[c0]))
    have d0:(x0==slot)=false:=by simpa using c0
    replace c0:=Zh c0
    clear hy hn
    go_wp2
    go_roundw
    case rel=>exact⟨k+1,by omega,by go_num,hP2,by simp⟩
    case measure=>simp[intOf];omega
  ·obtain rfl:k=n:=by omega
   have hR:=Zh (hno HP.out)
   go_wp2
   go_ret
   exact⟨by rw[hR.out];rfl,rfl⟩
theorem half(n:Int)(k:Nat)(h0:0≤n):(n/2 ^ k).tdiv 2=n/2 ^ (k+1):=by
 have hp:(0:Int)<2 ^ k:=Int.pow_pos (by decide)
 rw[Int.tdiv_eq_ediv_of_nonneg (Int.ediv_nonneg h0 (by omega)),Int.ediv_ediv_of_nonneg (by omega),Int.pow_succ]
theorem half_bd(n:Int)(k:Nat)(h0:0≤n)(h1:n<65536):0≤n/2 ^ k∧n/2 ^ k<65536:=by
 have hp:(0:Int)<2 ^ k:=Int.pow_pos (by decide)
 refine⟨Int.ediv_nonneg h0 (by omega),?_⟩
 have:=Int.ediv_le_self (2 ^ k) h0
 omega
theorem bit_any(n:Int)(b:Nat)(w:World)(h0:0≤n)(h1:n<65536)(hb:b<16):Calls Tryz.prog 234 #[.int .i64 n,.int .i64 b] w fun e w'=>e= .returned (.bool (bitN n b))∧w=w':=by
 have hR:bitN n b=decide (n/2 ^ b %2=1):=by unfold bitN;simp
 generalize bitN n b=R at*
 have e0:n/2 ^ 0=n:=by simp
 have hh:=fun k=>half n k h0
 have hbd:=fun k=>half_bd n k h0 h1
 generalize hq:(fun k:Nat=>n/2 ^ k)=q at*
 have hq2:∀k,n/2 ^ k=q k:=fun k=>by rw[←hq]
 rw[hq2]at e0 hR
 simp only[hq2]at hh hbd
 clear hq hq2
 refine zh3 ?_ hR hh hbd;clear hR hh hbd;intro hR hh hbd
 go_enter Tryz.func234,Tryz.ntmps234
 go_wp2_with fail
 go_loopw[0,5] (fun x i wr=>∃k:Nat,k≤b∧x= .int .i64 (q k)∧i= .int .i64 k∧wr=w) (fun _ i _=>b-(intOf i).toNat)
 case atStart=>exact⟨0,by omega,by rw[e0],rfl,rfl⟩
 case round=>
  obtain⟨k,hk,rfl,rfl,rfl⟩:=hrel
  by_cases hlt:k<b
  ·have r1:(k:Int)<(b:Int):=by omega
   have r2:=hh.out k
   have r3:=hbd.out (k+1)
   have r4:IntKind.i64.wrap (q (k+1))=q (k+1):=IntWalk.i64_in _ (by omega)
   obtain⟨q1,hq1⟩:∃q1,q1=q (k+1):=⟨_,rfl⟩
   rw[←hq1]at r2 r3 r4
   replace hq1:=Zh hq1
   go_wp2
   go_roundw
   case rel=>exact⟨k+1,by omega,by rw[hq1.out],by go_num,by simp⟩
   case measure=>simp[intOf];omega
  ·obtain rfl:k=b:=by omega
   have r3:=hbd.out k
   generalize q k=q1 at*
   go_wp2
   go_ret
   exact⟨by rw[hR.out];first|(simp[*];done)|(simp[*];omega)|(simp[*,intB];done)|(simp[*,intB];omega)|(simp[*,bne,intB];done),rfl⟩
def pw(k:Nat):Int:=2 ^ k
theorem power_any(w:World):Calls Tryz.prog 233 #[.int .i64 16] w fun e w'=>e= .returned (.int .i64 65536)∧w=w':=by
 have hs:∀k,pw (k+1)=2*pw k:=fun k=>by unfold pw;rw[Int.pow_succ];omega
 have hb:∀k,k≤16→0≤pw k∧pw k≤65536:=fun k hk=>by
  unfold pw
  have:k=0∨k=1∨k=2∨k=3∨k=4∨k=5∨k=6∨k=7∨k=8∨k=9∨k=10∨k=11∨k=12∨k=13∨k=14∨k=15∨k=16:=by omega
  rcases this with rfl|rfl|rfl|rfl|rfl|rfl|rfl|rfl|rfl|rfl|rfl|rfl|rfl|rfl|rfl|rfl|rfl<;>decide
 have h0:pw 0=1:=rfl
 have hR:pw 16=65536:=by decide
 generalize pw=p at*
 refine zh3 ?_ hs hb hR;clear hs hb hR;intro hs hb hR
 go_enter Tryz.func233,Tryz.ntmps233
 go_wp2_with fail
 go_loopw[3,4] (fun x i wr=>∃k:Nat,k≤16∧x= .int .i64 (p k)∧i= .int .i64 k∧wr=w) (fun _ i _=>16-(intOf i).toNat)
 case atStart=>exact⟨0,by omega,by rw[h0],rfl,rfl⟩
 case round=>
  obtain⟨k,hk,rfl,rfl,rfl⟩:=hrel
  by_cases hlt:k<16
  ·have r1:(k:Int)<(16:Int):=by omega
   have r2:=hs.out k
   have r3:=hb.out (k+1) hlt
   rw[r2]at r3
   have r4:IntKind.i64.wrap (2*p k)=2*p k:=IntWalk.i64_in _ (by omega)
   replace r2:=Zh r2
   go_wp2
   go_roundw
   case rel=>exact⟨k+1,by omega,by rw[r2.out],by go_num,by simp⟩
   case measure=>simp[intOf];omega
  ·obtain rfl:k=16:=by omega
   go_wp2
   go_ret
   exact⟨by rw[←hR.out];rfl,rfl⟩
def fewC(n:Nat):Bool:=decide ((n:Int)≤40)||(decide ((512:Int)<n)&&decide ((n:Int)≤516))
theorem fewC_any(n:Nat)(w:World):Calls Tryz.prog 144 #[.int .i64 n] w fun e w'=>e= .returned (.bool (fewC n))∧w=w':=by
 unfold fewC
 go_enter Tryz.func144,Tryz.ntmps144
 go_wp2
 all_goals
  go_ret
  exact⟨by first|(simp[*];done)|(simp[*];omega)|(simp[*,intB];done)|(simp[*,intB];omega)|(simp[*,bne,intB];done),rfl⟩
def fewT(t:Tab):Bool:=fewC t.cells.length&&(decide (t.length≤64)||decide (512<t.length))
theorem fewT_any(t:Tab)(v:TabV)(w:World)(h:TabIs w v t):Calls Tryz.prog 86 #[.agg (Kt t v)] w fun e w'=>e= .returned (.bool (fewT t))∧Below w.heap.size w w':=by
 have I:=Zh (Mem.start w)
 unfold fewT
 rw[h.cells.len]
 have cF:=fun W=>fewC_any v.n W
 generalize fewC v.n=R at*
 obtain⟨t0,t1,t2⟩:=t
 dsimp only at*
 replace h:=Zh h
 replace cF:=Zh cF
 go_enter Tryz.func86,Tryz.ntmps86
 go_upto_region 1 with(refine bA I _ ?_;clear I;intro g w1 I hG;clear hG)
 have kt:=I.cell 0 rfl
 go_wp2_with(first|(go_at_call 144;refine(cF _).mono ?_;rintro e w_ ⟨rfl,rfl⟩)|fail)
 all_goals
  go_ret
  exact⟨by first|(simp[*];done)|(simp[*];omega)|(simp[*,intB];done)|(simp[*,intB];omega)|(simp[*,bne,intB];done),I.below⟩
open Go.Lib
theorem apart_of {L:List (Nat×Array Value×TypeId)} {e:TypeId}(h:L.all (fun x=>x.2.2 !=e)=true):∀x∈L,e≠x.2.2:=fun x hx=>by
 have:=List.all_eq_true.1 h x hx
 intro h2
 rw[←h2]at this
 simp at this
theorem eBt:∀args w,(callFunc 138 args).run Tryz.prog w= .ok (.enter 138 args) w:=enters_of Tryz.func138 (by kernel_rfl) rfl
def btB(peer:Int)(x:TCl):Bool:= !(decide (x.kind=2)&&decide (x.peer=peer))
theorem bt1_any(x:TCl)(peer:Int)(B1:Nat)(w:World)(h1:Box w B1 #[.int .i64 peer]):
 Calls Tryz.prog 138 (#[.agg #[.int .i64 x.slot,.int .i64 x.off,.int .i64 x.kind,.bool x.send,.int .i64 x.peer,.int .i64 x.flow]]++ #[.pointer (some ⟨B1,0,none⟩)]) w fun e w'=>e= .returned (.bool (btB peer x))∧Below w.heap.size w w':=by
 show Calls Tryz.prog 138 #[.agg #[.int .i64 x.slot,.int .i64 x.off,.int .i64 x.kind,.bool x.send,.int .i64 x.peer,.int .i64 x.flow],.pointer (some ⟨B1,0,none⟩)] w _
 have I:=Zh (Mem.start w)
 unfold btB
 obtain⟨x0,x1,x2,x3,x4,x5⟩:=x
 dsimp only at*
 replace h1:=Zh h1
 go_enter Tryz.func138,Tryz.ntmps138
 go_upto_region 1 with(refine bA I _ ?_;clear I;intro g w1 I hG;clear hG)
 have kb:=I.cell 0 rfl
 have k1:=(h1.keep I.below).at_
 go_wp2
 all_goals
  go_ret
  exact⟨by first|(simp[*];done)|(simp[*];omega)|(simp[*,intB];done)|(simp[*,intB];omega)|(simp[*,bne,intB];done),I.below⟩
def BtPost(t:Tab)(peer:Int)(w:World)(e:Ending)(w':World):Prop:=∃A n c,e= .returned (.slice A n c)∧TclS w' A n (betwN t peer)∧Below w.heap.size w w'
theorem between_any(t:Tab)(v:TabV)(peer:Int)(w:World)(h:TabIs w v t)(hn:v.n≤100000):Calls Tryz.prog 76 #[.agg (Kt t v),.int .i64 peer] w (BtPost t peer w):=by
 have I:=Zh (Mem.start w)
 have hB:betwN t peer=if chkT t=0 then t.cells.filter (fun x=> !btB peer x)else []:=by unfold betwN btB;simp
 have cK:=fun W (hb:Below w.heap.size w W)=>chkT_any t v W (h.keep hb)
 have cC:=fun W (hb:Below w.heap.size w W)=>cloneT_any v.A v.n v.c t.cells W (h.cells.keep hb) hn
 have hl:=h.cells.len
 generalize hP:BtPost t peer w=P
 generalize chkT t=C1 at*
 obtain⟨t0,t1,t2⟩:=t
 dsimp only at*
 refine zh6 ?_ h cK cC hB hP hl;clear h cK cC hB hP hl;intro h cK cC hB hP hl
 go_enter Tryz.func76,Tryz.ntmps76
 go_upto_region 1 with(first|(refine bA I _ ?_;clear I;intro g w1 I hG;clear hG)|(refine wpList_boxM I rfl _ _ rfl (.int .i64 peer) rfl ?_;clear I;intro g w1 I hG;clear hG))
 have kt:=I.cell 1 rfl
 go_wp2_with fail
 refine(cK _ I.below).mono ?_
 rintro e w3 ⟨rfl,p_⟩
 have HM2:=Zm I p_;clear I p_ kt cK;have I:=HM2;clear HM2;have kt:=I.cell 1 rfl
 by_cases hc:C1=0
 ·subst hc
  go_wp2_with fail
  refine(cC _ I.below).mono ?_
  rintro e w4 ⟨A1,c1,rfl,ho,p_⟩
  have hb3:=Zh I.below.size
  have HM2:=Zm I p_;clear I p_ kt cC;have I:=HM2;clear HM2;have kt:=I.cell 1 rfl
  have cD:=delFnT_any 138 #[.pointer (some ⟨g,0,none⟩)] (btB peer) A1 v.n c1 _ t2 w4 eBt ho (by omega) (fun x _ W hg=>bt1_any x peer g W (by
   refine Box.of_blk (t:=3) ?_
   exact(I.at_ 0 rfl).grown hg (fun e=>row_ne_blk ho (I.at_ 0 rfl) (by decide) e)))
  replace cD:=Zh cD
  replace ho:=Zh ho
  go_wp2_with fail
  refine cD.mono ?_
  rintro e w5 ⟨m,rfl,hm,ho5,hg5⟩
  have HM5:Hid (Below w.heap.size w w5):=(I.row ho.out hg5 hb3.out (apart_of (by rfl))).below
  refine zh3 ?_ ho5 hg5 hm;clear ho5 hg5 hm;intro ho5 hg5 hm
  go_wp2
  rw[←hP.out]
  refine⟨_,_,_,rfl,?_,HM5.out⟩
  rw[hB.out,if_pos (by first|rfl|trivial)]
  exact(Sls.of_owns tclE_len ho5.out hm.symm).2
 ·have d1:(C1 !=0)=true:=by rw[bne_iff_ne];exact hc
  replace hc:=Zh hc
  go_wp2
  rw[←hP.out]
  refine⟨none,0,0,rfl,?_,I.below⟩
  rw[hB.out,if_neg hc.out]
  exact Sls.nil
theorem and1(n:Nat)(h:(n:Int)≤9223372036854775807):bits .and .i64 (n:Int) 1=(n:Int)%2:=by
 show IntKind.i64.wrap (BitVec.ofInt 64 n&&&BitVec.ofInt 64 1).toNat= _
 have e:(BitVec.ofInt 64 (n:Int)&&&BitVec.ofInt 64 1).toNat=n %2:=by
  rw[BitVec.toNat_and,BitVec.toNat_ofInt,BitVec.toNat_ofInt]
  have e1:((n:Int)%((2 ^ 64:Nat):Int)).toNat=n:=by omega
  have e2:((1:Int)%((2 ^ 64:Nat):Int)).toNat=1:=by decide
  rw[e1,e2,Nat.and_one_is_mod]
 rw[e,IntWalk.i64_in _ (by omega)]
 omega
theorem bit_walk {x:Int} {q:Nat}(h0:0≤x)(h1:x<65536):(bits BinOp.and IntKind.i64 (x/2 ^ q) 1==1)=bitN x q:=by
 have hb:=half_bd x q h0 h1
 obtain⟨m,hm⟩:∃m:Nat,x/2 ^ q=m:=⟨(x/2 ^ q).toNat,by omega⟩
 unfold bitN
 rw[Int.toNat_natCast,hm,and1 m (by omega)]
 rw[Bool.eq_iff_iff];simp
theorem fits_any(t:Tab)(v:TabV)(A:Option Addr)(n c:Nat)(f:List Int)(s:Spt)(w:World)(h:TabIs w v t)(hf:IntS w A n f):Calls Tryz.prog 62 #[.agg (Kt t v),.slice A n c,.agg #[.int .i64 s.slot,.int .i64 s.off]] w fun e w'=>e= .returned (.bool (fitsN t f s))∧Below w.heap.size w w':=by
 have I:=Zh (Mem.start w)
 have hB:fitsN t f s=(decide (chkT t=0)&&(maskN f t.length&&(decide (0≤s.slot)&&(decide (s.slot<t.length)&&(decide (0≤s.off)&&(decide (s.off<16)&&(bitN (f.getD s.slot.toNat 0) s.off&& !usedN t s.slot))))))):=rfl
 have cK:=fun W (hb:Below w.heap.size w W)=>chkT_any t v W (h.keep hb)
 have cM:=fun W (hb:Below w.heap.size w W)=>masked_any A n c f t.length W (hf.keep hb)
 have cU:=fun W (hb:Below w.heap.size w W)=>used_any t v s.slot W (h.keep hb)
 have hmk:maskN f t.length=true→(n:Int)=t.length∧∀x∈f,0≤x∧x<65536:=fun e=>by
  unfold maskN at e
  rw[hf.len]at e
  simp at e
  exact⟨e.1,e.2⟩
 have hlf:=hf.len
 generalize fitsN t f s=R at*
 generalize maskN f t.length=MK at*
 generalize usedN t s.slot=US at*
 generalize chkT t=C1 at*
 obtain⟨t0,t1,t2⟩:=t
 obtain⟨s0,s1⟩:=s
 dsimp only at*
 refine zh8 ?_ h cK cM cU hB hf hmk hlf;clear h cK cM cU hB hf hmk hlf;intro h cK cM cU hB hf hmk hlf
 go_enter Tryz.func62,Tryz.ntmps62
 go_upto_region 1 with(refine bA I _ ?_;clear I;intro g w1 I hG;clear hG)
 have ks:=I.cell 0 rfl
 have kt:=I.cell 1 rfl
 go_upto_region 3 with(first
  |(go_at_call 20;refine(cK _ I.below).mono ?_;rintro e w3 ⟨rfl,p_⟩;have HM2:=Zm I p_;clear I p_ kt ks cK;have I:=HM2;clear HM2;have kt:=I.cell 1 rfl;have ks:=I.cell 0 rfl)
  |(go_at_call 114;refine(cM _ I.below).mono ?_;rintro e w4 ⟨rfl,p_⟩;have HM2:=Zm I p_;clear I p_ kt ks cM;have I:=HM2;clear HM2;have kt:=I.cell 1 rfl;have ks:=I.cell 0 rfl)
  |fail)
 all_goals try
  (go_ret
   exact⟨by rw[hB.out];first|(simp[*];done)|(simp[*];omega),I.below⟩)
 obtain⟨hn1,hfb⟩:=hmk.out (by assumption)
 obtain⟨a,rfl⟩:∃a:Nat,s0=a:=⟨s0.toNat,by omega⟩
 obtain⟨q,rfl⟩:∃q:Nat,s1=q:=⟨s1.toNat,by omega⟩
 have hq:q<16:=by omega
 have han:a<n:=by omega
 obtain⟨b,off,rfl⟩:=hf.addr (by omega)
 have hx:=int_at (hf.keep I.below) han
 have hB2:Hid (R=(bitN (f.getD a default) q&& !US)):=by
  show _= _
  rw[hB.out]
  have e1:f.getD (a:Int).toNat 0=f.getD a default:=rfl
  rw[e1]
  first|(simp[*];done)|(simp[*];omega)
 have hxb:=hfb _ (getD_mem (l:=f) (i:=a) (by rw[hlf.out];exact han))
 generalize f.getD a default=x at*
 have g0:=cell_regrown hx
 have gt:=(I.at_ 1 rfl).box.grown
 have gs:=(I.at_ 0 rfl).box.grown
 have r1:(a:Int)<(n:Int):=by omega
 have hcu:=fun d os=>cU.out (grow (redrawn w4 d) os) (bthen I.below (below_regrown w4 d os))
 clear kt ks hx hB
 have cs:∀d os,Calls Tryz.prog 115 #[.agg #[.int .i64 t0,.int .i64 t1,.slice v.A v.n v.c],.int .i64 (a:Int)] (grow (redrawn w4 d) os) fun e w''=>e= .returned (.bool US)∧∃p:Regrown,w''=grow (redrawn w4 p.d) p.os:=
  fun d os=>Calls.regrown_of (hcu d os)
 replace cs:=Zh cs
 clear hcu
 have hbw:=bit_walk (q:=q) hxb.1 hxb.2
 generalize bitN x q=BV at*
 cases BV
 all_goals
  go_wp2_with fail
  refine wp_region_quiet_below (by kernel_rfl) (by kernel_rfl) ?_
  repeat(go_big_quiet_step(exact cs.out _ _))
  refine wpQuiet_nil ?_
  rintro _ ⟨⟨dq,osq⟩,rfl⟩
  have p_:=below_regrown w4 dq osq
  replace I:=Zm I p_
  generalize grow (redrawn w4 dq) osq=w5 at*
  clear p_
  go_wp2
  try go_ret
  exact⟨by rw[hB2.out];first|(simp[*];done)|(simp[*];omega)|(simp[*,intB];done)|(simp[*,intB];omega)|(simp[*,bne,intB];done),I.below⟩
end Tx
end Go.Proofs.YtfamifgchgolpaaGreat
