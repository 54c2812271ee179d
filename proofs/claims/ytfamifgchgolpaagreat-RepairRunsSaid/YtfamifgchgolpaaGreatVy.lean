/- Chapter 27: the reference's Opposite of two lists of cells. -/
import Derived.Test.YtfamifgchgolpaaGreatVz
set_option linter.unusedVariables false
set_option linter.unusedSimpArgs false
set_option maxRecDepth 100000
set_option maxHeartbeats 4000000
namespace Go.Proofs.YtfamifgchgolpaaGreat
open Go Go.RowKit Go.Sort Go.Shelf Go.Maps
namespace Tx
open Sw Mm Pl
theorem oppR_any(A B:Option Addr)(n cp m cq:Nat)(xs ys:List TCl)(w:World)(h:TclS w A n xs)(h2:TclS w B m ys):
 Calls Tryz.prog 166 #[.slice A n cp,.slice B m cq] w fun e w'=>e= .returned (.bool (oppN xs ys))∧Below w.heap.size w w':=by
 have hlen:=h.len
 have hlen2:=h2.len
 have hs:=h.small
 have hs2:=h2.small
 unfold maxLen at hs hs2
 by_cases hnm:n=m
 case neg=>
  have hR:oppN xs ys=false:=oppN_ne (by omega)
  have d1:((n:Int) !=(m:Int))=true:=by rw[bne_iff_ne];omega
  rw[hR]
  refine zh4 ?_ h h2 hlen hlen2;clear h h2 hlen hlen2;intro h h2 hlen hlen2
  go_enter Tryz.func166,Tryz.ntmps166
  go_wp2_with fail
  go_ret
  exact⟨rfl,Below.refl _ _⟩
 subst hnm
 have hno:=fun k (hk:k<n)=>oppN_no (a:=xs) (b:=ys) (i:=k) (by omega)
 have hyes:=fun(hh:∀i,i<n→oppC (xs.getD i default) (ys.getD i default)=true)=>oppN_yes (a:=xs) (b:=ys) (by omega) (fun i hi=>hh i (by omega))
 generalize oppN xs ys=R at*
 refine zh6 ?_ h h2 hlen hlen2 hno hyes;clear h h2 hlen hlen2 hno hyes;intro h h2 hlen hlen2 hno hyes
 go_enter Tryz.func166,Tryz.ntmps166
 go_wp2_with fail
 go_loopw[5] (fun i wr=>∃k:Nat,k≤n∧i= .int .i64 k∧Hid (∀j,j<k→oppC (xs.getD j default) (ys.getD j default)=true)∧Hid (Below w.heap.size w wr)) (fun i _=>n-(intOf i).toNat)
 case atStart=>exact⟨0,by omega,rfl,fun j hj=>absurd hj (by omega),Below.refl _ _⟩
 case round=>
  obtain⟨k,hkn,rfl,HP,HB⟩:=hrel
  by_cases hlt:k<n
  ·obtain⟨b,off,rfl⟩:=h.addr (by omega)
   obtain⟨b2,off2,rfl⟩:=h2.addr (by omega)
   have hx:=tcl_at (h.keep HB.out) hlt
   have hy:=tcl_at (h2.keep HB.out) hlt
   have hf:=hno.out k hlt
   have hnx:oppC (xs.getD k default) (ys.getD k default)=true→∀j,j<k+1→oppC (xs.getD j default) (ys.getD j default)=true:=fun h j hj=>by
    by_cases e:j=k
    ·subst e;exact h
    ·exact HP.out j (by omega)
   generalize xs.getD k default=x at*
   generalize ys.getD k default=y at*
   obtain⟨x0,x1,x2,x3,x4,x5⟩:=x
   obtain⟨y0,y1,y2,y3,y4,y5⟩:=y
   have hq:oppC ⟨x0,x1,x2,x3,x4,x5⟩ ⟨y0,y1,y2,y3,y4,y5⟩=(decide (x0=y0)&&(decide (x1=y1)&&decide (x3≠y3))):=rfl
   rw[hq]at hf hnx
   clear hq
   obtain⟨q0,q1,q2,q3,q4,q5⟩:=hx
   obtain⟨r0,r1,r2,r3,r4,r5⟩:=hy
   dsimp only at q0 r0 q1 r1 q3 r3
   have g0:=cell_regrown q0
   have u0:=cell_regrown r0
   have g1:=cell_regrown q1
   have u1:=cell_regrown r1
   have g3:=cell_regrown q3
   have u3:=cell_regrown r3
   have r1':(k:Int)<(n:Int):=by omega
   have r0':(0:Int)≤(k:Int):=by omega
   clear q0 r0 q1 r1 q2 r2 q3 r3 q4 r4 q5 r5
   replace hf:=Zh hf
   replace hnx:=Zh hnx
   by_cases t0:x0=y0
   case neg=>
    have d0:(x0 !=y0)=true:=by rw[bne_iff_ne];exact t0
    have hh:=hf.out (by simp[t0])
    subst hh
    replace t0:=Zh t0
    go_wp2_with fail
    refine wp_region_quiet_below (by kernel_rfl) (by kernel_rfl) ?_
    repeat(go_big_quiet_step(fail))
    refine wpQuiet_nil ?_
    rintro _ ⟨⟨dq,osq⟩,rfl⟩
    have p_:=below_regrown wr dq osq
    replace HB:=Zh (HB.keep p_)
    generalize grow (redrawn wr dq) osq=w2 at*
    clear p_
    go_wp2
    go_ret
    exact⟨rfl,HB.out⟩
   have d0:(x0 !=y0)=false:=by rw[bne_eq_false_iff_eq];exact t0
   by_cases t1:x1=y1
   case neg=>
    have d1:(x1 !=y1)=true:=by rw[bne_iff_ne];exact t1
    have hh:=hf.out (by simp[t1])
    subst hh
    replace t0:=Zh t0
    replace t1:=Zh t1
    go_wp2_with fail
    refine wp_region_quiet_below (by kernel_rfl) (by kernel_rfl) ?_
    repeat(go_big_quiet_step(fail))
    refine wpQuiet_nil ?_
    rintro _ ⟨⟨dq,osq⟩,rfl⟩
    have p_:=below_regrown wr dq osq
    replace HB:=Zh (HB.keep p_)
    generalize grow (redrawn wr dq) osq=w2 at*
    clear p_
    go_wp2
    go_ret
    exact⟨rfl,HB.out⟩
   have d1:(x1 !=y1)=false:=by rw[bne_eq_false_iff_eq];exact t1
   by_cases t3:x3=y3
   case pos=>
    have d3:(x3==y3)=true:=by rw[beq_iff_eq];exact t3
    have hh:=hf.out (by simp[t3])
    subst hh
    refine zh3 ?_ t0 t1 t3;clear t0 t1 t3;intro t0 t1 t3
    go_wp2_with fail
    refine wp_region_quiet_below (by kernel_rfl) (by kernel_rfl) ?_
    repeat(go_big_quiet_step(fail))
    refine wpQuiet_nil ?_
    rintro _ ⟨⟨dq,osq⟩,rfl⟩
    have p_:=below_regrown wr dq osq
    replace HB:=Zh (HB.keep p_)
    generalize grow (redrawn wr dq) osq=w2 at*
    clear p_
    go_wp2
    go_ret
    exact⟨rfl,HB.out⟩
   have d3:(x3==y3)=false:=by rw[beq_eq_false_iff_ne];exact t3
   have hh:=Zh (hnx (by simp[t0,t1,t3]))
   refine zh3 ?_ t0 t1 t3;clear t0 t1 t3;intro t0 t1 t3
   go_wp2_with fail
   refine wp_region_quiet_below (by kernel_rfl) (by kernel_rfl) ?_
   repeat(go_big_quiet_step(fail))
   refine wpQuiet_nil ?_
   rintro _ ⟨⟨dq,osq⟩,rfl⟩
   have p_:=below_regrown wr dq osq
   replace HB:=Zh (HB.keep p_)
   generalize grow (redrawn wr dq) osq=w2 at*
   clear p_
   go_wp2
   go_roundw
   case rel=>exact⟨k+1,by omega,by go_num,hh,HB⟩
   case measure=>simp[intOf];omega
  ·obtain rfl:k=n:=by omega
   have hR:=hyes.out HP.out
   subst hR
   go_wp2
   go_ret
   exact⟨rfl,HB.out⟩
theorem consR_any(a b:Ed)(va vb:EdV)(w:World)(h1:EdIs w va a)(h2:EdIs w vb b):Calls Tryz.prog 94 #[.agg (endA a va),.agg (endA b vb)] w fun r w'=>r= .returned (.bool (consB a b))∧Below w.heap.size w w':=by
 have I:=Zh (Mem.start w)
 obtain⟨F0,q_,J⟩:∃F:World→Prop,Stb F∧Hid (F w):=⟨_,Stb.true,trivial⟩
 have uE:=Tryz.underlying32
 have uT:=Tryz.underlying37
 have uM:=Tryz.underlying30
 have hR:consB a b=(pairB a b&&(decide (a.number=b.number)&&oppN a.cells b.cells)):=rfl
 have cP:=fun W (hb:Below w.heap.size w W)=>ends_any a b va vb W (h1.keep hb) (h2.keep hb)
 have cO:=fun W (hb:Below w.heap.size w W)=>oppR_any va.cA vb.cA va.cn va.cc vb.cn vb.cc a.cells b.cells W (h1.cells.keep hb) (h2.cells.keep hb)
 generalize oppN a.cells b.cells=OB at*
 generalize consB a b=R at*
 generalize pairB a b=PB at*
 refine zh8 ?_ cP h1 h2 hR uE uT uM cO;clear cP h1 h2 hR uE uT uM cO;intro cP h1 h2 hR uE uT uM cO
 go_enter Tryz.func94,Tryz.ntmps94
 have mk1:Unit:=()
 have mk2:Unit:=()
 go_upto_region 1 with(first|go_skip|(clear mk1;refine q_.b I J 32 ?_;clear I J;intro ga w1 I J)|(clear mk2;refine q_.b I J 32 ?_;clear I J;intro gb w1 I J)|fail)
 have p2:=Zc I 1 2 (.int .i64 a.number)
 have q2:=Zc I 0 2 (.int .i64 b.number)
 have p3:=Zc I 1 3 (.slice va.cA va.cn va.cc)
 have q3:=Zc I 0 3 (.slice vb.cA vb.cn vb.cc)
 cases PB
 case false=>
  have hh:R=false:=by rw[hR.out];simp[]
  subst hh
  have mk3:Unit:=()
  have mk4:Unit:=()
  go_wp2_with(first|go_skip|(refine lG 1 I uE.out ?_)|(refine lG 0 I uE.out ?_)|(go_at_call 150;clear mk3;refine(cP _ I.below).mono ?_;rintro r w3 ⟨rfl,p_⟩;replace p2:=Zk I p_ 1 2 p2;replace q2:=Zk I p_ 0 2 q2;replace p3:=Zk I p_ 1 3 p3;replace q3:=Zk I p_ 0 3 q3;replace I:=Zm I p_;replace J:=q_.z J p_;clear p_;dsimp only)|(go_at_call 166;clear mk4;refine(cO _ I.below).mono ?_;rintro r w3 ⟨rfl,p_⟩;clear p2 q2 p3 q3;replace I:=Zm I p_;replace J:=q_.z J p_;clear p_;dsimp only)|fail)
  try simp only[Exit.inBlock,Exit.then]
  go_ret
  exact⟨by first|rfl|trivial,I.below⟩
 by_cases e2:a.number=b.number
 case neg=>
  have d2:(a.number==b.number)=false:=by rw[beq_eq_false_iff_ne];exact e2
  have hh:R=false:=by rw[hR.out];simp[e2]
  subst hh
  replace e2:=Zh e2
  have mk3:Unit:=()
  have mk4:Unit:=()
  go_wp2_with(first|go_skip|(refine lG 1 I uE.out ?_)|(refine lG 0 I uE.out ?_)|(go_at_call 150;clear mk3;refine(cP _ I.below).mono ?_;rintro r w3 ⟨rfl,p_⟩;replace p2:=Zk I p_ 1 2 p2;replace q2:=Zk I p_ 0 2 q2;replace p3:=Zk I p_ 1 3 p3;replace q3:=Zk I p_ 0 3 q3;replace I:=Zm I p_;replace J:=q_.z J p_;clear p_;dsimp only)|(go_at_call 166;clear mk4;refine(cO _ I.below).mono ?_;rintro r w3 ⟨rfl,p_⟩;clear p2 q2 p3 q3;replace I:=Zm I p_;replace J:=q_.z J p_;clear p_;dsimp only)|fail)
  try simp only[Exit.inBlock,Exit.then]
  go_ret
  exact⟨by first|rfl|trivial,I.below⟩
 have d2:(a.number==b.number)=true:=by rw[beq_iff_eq];exact e2
 have hh:R=OB:=by rw[hR.out];simp[e2]
 subst hh
 replace e2:=Zh e2
 have mk3:Unit:=()
 have mk4:Unit:=()
 go_wp2_with(first|go_skip|(refine lG 1 I uE.out ?_)|(refine lG 0 I uE.out ?_)|(go_at_call 150;clear mk3;refine(cP _ I.below).mono ?_;rintro r w3 ⟨rfl,p_⟩;replace p2:=Zk I p_ 1 2 p2;replace q2:=Zk I p_ 0 2 q2;replace p3:=Zk I p_ 1 3 p3;replace q3:=Zk I p_ 0 3 q3;replace I:=Zm I p_;replace J:=q_.z J p_;clear p_;dsimp only)|(go_at_call 166;clear mk4;refine(cO _ I.below).mono ?_;rintro r w3 ⟨rfl,p_⟩;clear p2 q2 p3 q3;replace I:=Zm I p_;replace J:=q_.z J p_;clear p_;dsimp only)|fail)
 try simp only[Exit.inBlock,Exit.then]
 go_ret
 exact⟨by first|rfl|trivial,I.below⟩
end Tx
end Go.Proofs.YtfamifgchgolpaaGreat
