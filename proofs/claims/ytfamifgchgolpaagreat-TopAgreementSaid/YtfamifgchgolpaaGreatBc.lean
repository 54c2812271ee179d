/- Chapter 26: small functions; lists of places. -/
import Derived.Test.YtfamifgchgolpaaGreatBb
import Derived.BigQuiet
import Derived.IntWalk
import Derived.Maps.Views
import Derived.Maps.OwnOps
import Derived.Carry
import Derived.Shelf.Abstract
set_option linter.unusedVariables false
set_option linter.unusedSimpArgs false
set_option maxRecDepth 100000
set_option maxHeartbeats 1000000
namespace Go.Proofs.YtfamifgchgolpaaGreat
open Go Go.RowKit Go.Sort Go.Lib
namespace Tx
open Sw Mm
theorem fstF_hit {F:Nat→Int} {n k:Nat}(hk:k<n)(h:F k≠0)(hp:∀j,j<k→F j=0):fstF F n=F k:=by
 unfold fstF
 have:(List.range n).find? (fun i=>F i !=0)=some k:=by
  rw[List.find?_range_eq_some]
  exact⟨by simpa using h,List.mem_range.2 hk,fun j hj=>by simp[hp j hj]⟩
 rw[this]
theorem fstF_none {F:Nat→Int} {n:Nat}(hp:∀j,j<n→F j=0):fstF F n=0:=by
 unfold fstF
 have:(List.range n).find? (fun i=>F i !=0)=none:=by
  rw[List.find?_eq_none]
  intro j hj
  simp[hp j (List.mem_range.1 hj)]
 rw[this]
theorem fstF_zero {F:Nat→Int} {n:Nat}(h:fstF F n=0):∀j,j<n→F j=0:=by
 unfold fstF at h
 cases hf:(List.range n).find? (fun i=>F i !=0)with
 |some i=>
  rw[hf]at h
  have:=List.find?_some hf
  simp at this
  exact absurd h this
 |none=>
  intro j hj
  rw[List.find?_eq_none]at hf
  simpa using hf j (List.mem_range.2 hj)
theorem next_zero {F:Nat→Int} {k:Nat}(h:F k=0)(hp:∀j,j<k→F j=0):∀j,j<k+1→F j=0:=fun j hj=>by
 by_cases e:j=k
 ·subst e;exact h
 ·exact hp j (by omega)
def withB(n m:Int):Bool:=decide (0≤n)&&decide (n≤m)
theorem within_any(n m:Int)(w:World):Calls Tryz.prog 40 #[.int .i64 n,.int .i64 m] w fun e w'=>e= .returned (.bool (withB n m))∧w=w':=by
 unfold withB
 go_enter Tryz.func40,Tryz.ntmps40
 go_wp2
 all_goals
  go_ret
  exact⟨by first|(simp[*];done)|(simp[*];omega),rfl⟩
theorem node_any(n:Int)(w:World):Calls Tryz.prog 79 #[.int .i64 n] w fun e w'=>e= .returned (.bool (withB n 31))∧w=w':=by
 unfold withB
 by_cases h:n<32
 ·have h2:n≤31:=by omega
  go_enter Tryz.func79,Tryz.ntmps79
  go_wp2
  all_goals
   go_ret
   exact⟨by first|(simp[*];done)|(simp[*];omega),rfl⟩
 ·have h2:¬n≤31:=by omega
  go_enter Tryz.func79,Tryz.ntmps79
  go_wp2
  all_goals
   go_ret
   exact⟨by first|(simp[*];done)|(simp[*];omega),rfl⟩
theorem next_any(n:Int)(w:World):Calls Tryz.prog 68 #[.int .i64 n] w fun e w'=>e= .returned (.int .i64 (nextN n))∧w=w':=by
 have cW:=within_any n 255 w
 have hR:nextN n=if n<0∨255<n then 0 else if n=255 then 1 else n+1:=rfl
 have hW:withB n 255=(decide (0≤n)&&decide (n≤255)):=rfl
 generalize nextN n=R at*
 generalize withB n 255=W at*
 by_cases h1:n<0∨255<n
 ·obtain rfl:W=false:=by rw[hW];simp;omega
  rw[if_pos h1]at hR
  refine zh4 ?_ cW hR hW h1;clear cW hR hW h1;intro cW hR hW h1
  go_enter Tryz.func68,Tryz.ntmps68
  go_wp2_with fail
  refine cW.mono ?_
  rintro e w_ ⟨rfl,rfl⟩
  go_wp2
  go_ret
  exact⟨by rw[hR.out];rfl,rfl⟩
 ·obtain rfl:W=true:=by rw[hW];simp;omega
  rw[if_neg h1]at hR
  have b1:0≤n:=by omega
  have b2:n≤255:=by omega
  by_cases h2:n=255
  ·subst h2
   refine zh4 ?_ cW hR hW h1;clear cW hR hW h1;intro cW hR hW h1
   go_enter Tryz.func68,Tryz.ntmps68
   go_wp2_with fail
   refine cW.mono ?_
   rintro e w_ ⟨rfl,rfl⟩
   go_wp2
   go_ret
   exact⟨by rw[hR.out];rfl,rfl⟩
  ·rw[if_neg h2]at hR
   have d2:(n==255)=false:=by simpa using h2
   refine zh5 ?_ cW hR hW h1 h2;clear cW hR hW h1 h2;intro cW hR hW h1 h2
   go_enter Tryz.func68,Tryz.ntmps68
   go_wp2_with fail
   refine cW.mono ?_
   rintro e w_ ⟨rfl,rfl⟩
   go_wp2
   go_ret
   exact⟨by rw[hR.out];rfl,rfl⟩
theorem rnext_any(n:Int)(w:World):Calls Tryz.prog 163 #[.int .i64 n] w fun e w'=>e= .returned (.int .i64 (nextN n))∧w=w':=by
 have hR:nextN n=if n<0∨255<n then 0 else if n=255 then 1 else n+1:=rfl
 generalize nextN n=R at*
 by_cases h1:n<0
 ·rw[if_pos (.inl h1)]at hR
  replace hR:=Zh hR
  go_enter Tryz.func163,Tryz.ntmps163
  go_wp2
  go_ret
  exact⟨by rw[hR.out];rfl,rfl⟩
 by_cases h2:255<n
 ·rw[if_pos (.inr h2)]at hR
  have h3:0≤n:=by omega
  replace hR:=Zh hR
  go_enter Tryz.func163,Tryz.ntmps163
  go_wp2
  go_ret
  exact⟨by rw[hR.out];rfl,rfl⟩
 rw[if_neg (by omega)]at hR
 have b1:0≤n:=by omega
 have b2:n≤255:=by omega
 clear h1 h2
 by_cases h2:n=255
 ·subst h2
  replace hR:=Zh hR
  go_enter Tryz.func163,Tryz.ntmps163
  go_wp2
  go_ret
  exact⟨by rw[hR.out];rfl,rfl⟩
 ·rw[if_neg h2]at hR
  have d2:(n==255)=false:=by simpa using h2
  replace hR:=Zh hR
  replace h2:=Zh h2
  go_enter Tryz.func163,Tryz.ntmps163
  go_wp2
  go_ret
  exact⟨by rw[hR.out];rfl,rfl⟩
theorem counts_any(k c:Int)(w:World):Calls Tryz.prog 43 #[.int .i64 k,.int .i64 c] w fun e w'=>e= .returned (.bool (countsN k c))∧w=w':=by
 unfold countsN
 go_enter Tryz.func43,Tryz.ntmps43
 go_wp2
 all_goals
  go_ret
  exact⟨by first|(simp[*];done)|(simp[*,intB];done)|(simp[*];omega),rfl⟩
theorem zeroM_eq(m:Msg):zeroM m=(decide (m.kind=0)&&(!m.reply&&(decide (m.number=0)&&(decide (m.code=0)&&(decide (m.count=0)&&(decide (m.spots.length=0)&&decide (m.old.length=0))))))):=by
 obtain⟨a,b,c,d,e,f,g⟩:=m
 unfold zeroM msg0
 rw[Bool.eq_iff_iff]
 simp[List.length_eq_zero_iff]
theorem zero_any(m:Msg)(v:MsgV)(w:World)(h:MsgIs w v m):Calls Tryz.prog 190 #[.agg (Km m v)] w fun e w'=>e= .returned (.bool (zeroM m))∧Below w.heap.size w w':=by
 have hb:=ball w (.cells (Km m v) 30)
 have BX:=Box.new w (Km m v) 30
 have kx:=BX.at_
 have h1:=h.spots.len
 have h2:=h.old.len
 rw[zeroM_eq,h1,h2]
 clear h1 h2
 refine zh3 ?_ hb BX h;clear hb BX h;intro hb BX h
 go_enter Tryz.func190,Tryz.ntmps190
 go_upto_region 1 with fail
 generalize w.alloc (.cells (Km m v) 30)=w1 at*
 go_wp2
 all_goals
  go_ret
  exact⟨by simp[*,natB0],hb.out⟩
theorem spots_small {w:World} {v:MsgV} {m:Msg}(h:MsgIs w v m):v.sn≤maxLen∧v.on≤maxLen:=⟨h.spots.small,h.old.small⟩
theorem places_any(A:Option Addr)(n c:Nat)(l:List Spt)(w:World)(h:SptS w A n l):Calls Tryz.prog 117 #[.slice A n c] w fun e w'=>e= .returned (.int .i64 (placesN l))∧Below w.heap.size w w':=by
 have hlen:=h.len
 have hs:=h.small
 unfold maxLen at hs
 have J:∀k,faultP l k=if(l.getD k default).slot<0∨512≤(l.getD k default).slot∨(l.getD k default).off<0∨16≤(l.getD k default).off then 2 else if 0<k∧(l.getD k default).slot≤(l.getD (k-1) default).slot then 5 else 0:=fun _=>rfl
 have hit:=fun k (hk:k<n) (h1:faultP l k≠0) h2=>(by unfold placesN;rw[hlen];exact fstF_hit hk h1 h2:placesN l=faultP l k)
 have non:=fun(hp:∀j,j<n→faultP l j=0)=>(by unfold placesN;rw[hlen];exact fstF_none hp:placesN l=0)
 generalize placesN l=R at*
 generalize faultP l=F at*
 refine zh5 ?_ h hlen J hit non;clear h hlen J hit non;intro h hlen J hit non
 go_enter Tryz.func117,Tryz.ntmps117
 go_wp2_with fail
 go_loopw[3,4,7] (fun _ _ i wr=>∃k:Nat,k≤n∧i= .int .i64 k∧Hid (∀j,j<k→F j=0)∧Hid (Below w.heap.size w wr)) (fun _ _ i _=>n-(intOf i).toNat)
 case atStart=>exact⟨0,by omega,rfl,fun j hj=>by omega,Below.refl _ _⟩
 case round=>
  obtain⟨k,hk,rfl,HP,HB⟩:=hrel
  by_cases hlt:k<n
  ·obtain⟨b,off,rfl⟩:=h.addr (by omega)
   have hx:=spt_at (h.keep HB.out) hlt
   have hy:=fun W (hb:Below w.heap.size w W) (h0:0<k)=>(spt_at (h.keep hb) (i:=k-1) (by omega)).1
   have hF2:=J.out k
   have hit2:=fun h1=>hit.out k hlt h1 HP.out
   have nz:=fun(h:F k=0)=>next_zero h HP.out
   generalize l.getD (k-1) default=y at*
   generalize l.getD k default=x at*
   generalize F k=f at*
   obtain⟨x0,x1⟩:=x
   obtain⟨y0,y1⟩:=y
   obtain⟨q0,q1⟩:=hx
   dsimp only at q0 q1 hy hF2
   have r1:(k:Int)<(n:Int):=by omega
   have BX:=Box.new wr #[.int .i64 x0,.int .i64 x1] 97
   have HBb:=ballN HB.out (.cells #[.int .i64 x0,.int .i64 x1] 97)
   have kx:=BX.at_
   have gx:=BX.grown
   replace BX:=Zh BX
   replace HBb:=Zh HBb
   go_upto_region 4 with fail
   clear q0 q1
   generalize wr.alloc (.cells #[.int .i64 x0,.int .i64 x1] 97)=wb at*
   by_cases c0:x0<0
   ·have hRe:Hid (R=2):=by show _= _;rw[hit2 (by rw[hF2,if_pos (by omega)];omega),hF2,if_pos (by omega)]
    clear hit2 hF2 nz hy
    go_wp2
    go_ret
    exact⟨by rw[hRe.out];rfl,HBb.out⟩
   have nc0:0≤x0:=by omega
   clear c0
   by_cases c1:512≤x0
   ·have hRe:Hid (R=2):=by show _= _;rw[hit2 (by rw[hF2,if_pos (by omega)];omega),hF2,if_pos (by omega)]
    clear hit2 hF2 nz hy
    go_wp2
    go_ret
    exact⟨by rw[hRe.out];rfl,HBb.out⟩
   have nc1:x0<512:=by omega
   clear c1
   by_cases c2:x1<0
   ·have hRe:Hid (R=2):=by show _= _;rw[hit2 (by rw[hF2,if_pos (by omega)];omega),hF2,if_pos (by omega)]
    clear hit2 hF2 nz hy
    go_wp2
    go_ret
    exact⟨by rw[hRe.out];rfl,HBb.out⟩
   have nc2:0≤x1:=by omega
   clear c2
   by_cases c3:16≤x1
   ·have hRe:Hid (R=2):=by show _= _;rw[hit2 (by rw[hF2,if_pos (by omega)];omega),hF2,if_pos (by omega)]
    clear hit2 hF2 nz hy
    go_wp2
    go_ret
    exact⟨by rw[hRe.out];rfl,HBb.out⟩
   have nc3:x1<16:=by omega
   clear c3
   rw[if_neg (by omega)]at hF2
   by_cases k0:k=0
   ·subst k0
    have hz:f=0:=by rw[hF2,if_neg (by omega)]
    have hP2:=Zh (nz hz)
    have d1:decide (0<(0:Nat))=false:=by simp
    clear hit2 hF2 nz hy hz
    go_wp2_with fail
    refine wp_region_quiet_below (by kernel_rfl) (by kernel_rfl) ?_
    repeat(go_big_quiet_step(fail))
    refine wpQuiet_nil ?_
    rintro _ ⟨⟨dq,osq⟩,rfl⟩
    have p_:=below_regrown wb dq osq
    replace HBb:=Zh (HBb.keep p_)
    generalize grow (redrawn wb dq) osq=w2 at*
    clear p_
    go_wp2
    go_roundw
    case rel=>exact⟨0+1,by omega,by go_num,hP2,HBb⟩
    case measure=>simp[intOf];omega
   have k1:0<k:=by omega
   have k2:(0:Int)<(k:Int):=by omega
   have p0:=hy wb HBb.out k1
   have g2:=cell_regrown p0
   have hw1:IntKind.i64.wrap ((k:Int)-1)=(k:Int)-1:=IntWalk.i64_in _ (by omega)
   have ht1:((k:Int)-1).toNat=k-1:=by omega
   have t1:(0:Int)≤(k:Int)-1:=by omega
   have t2:(k:Int)-1<(n:Int):=by omega
   clear p0 hy
   by_cases hs:x0≤y0
   ·have hRe:Hid (R=5):=by show _= _;rw[hit2 (by rw[hF2,if_pos ⟨k1,hs⟩];omega),hF2,if_pos ⟨k1,hs⟩]
    clear hit2 hF2 nz
    replace k0:=Zh k0
    go_wp2_with fail
    refine wp_region_quiet_below (by kernel_rfl) (by kernel_rfl) ?_
    repeat(go_big_quiet_step(fail))
    refine wpQuiet_nil ?_
    rintro _ ⟨⟨dq,osq⟩,rfl⟩
    have p_:=below_regrown wb dq osq
    replace HBb:=Zh (HBb.keep p_)
    generalize grow (redrawn wb dq) osq=w2 at*
    clear p_
    go_wp2
    go_ret
    exact⟨by rw[hRe.out];rfl,HBb.out⟩
   ·have hz:f=0:=by rw[hF2,if_neg (by omega)]
    have hP2:=Zh (nz hz)
    have d2:decide (x0≤y0)=false:=by simpa using hs
    clear hit2 hF2 nz hz
    replace k0:=Zh k0
    replace hs:=Zh hs
    go_wp2_with fail
    refine wp_region_quiet_below (by kernel_rfl) (by kernel_rfl) ?_
    repeat(go_big_quiet_step(fail))
    refine wpQuiet_nil ?_
    rintro _ ⟨⟨dq,osq⟩,rfl⟩
    have p_:=below_regrown wb dq osq
    replace HBb:=Zh (HBb.keep p_)
    generalize grow (redrawn wb dq) osq=w2 at*
    clear p_
    go_wp2
    go_roundw
    case rel=>exact⟨k+1,by omega,by go_num,hP2,HBb⟩
    case measure=>simp[intOf];omega
  ·obtain rfl:k=n:=by omega
   have hRe:=Zh (non HP.out)
   go_wp2
   go_ret
   exact⟨by rw[hRe.out];rfl,HB.out⟩
theorem rplaces_any(A:Option Addr)(n c:Nat)(l:List Spt)(w:World)(h:SptS w A n l):Calls Tryz.prog 205 #[.slice A n c] w fun e w'=>e= .returned (.int .i64 (placesN l))∧Below w.heap.size w w':=by
 have hlen:=h.len
 have hs:=h.small
 unfold maxLen at hs
 have J:∀k,faultP l k=if(l.getD k default).slot<0∨512≤(l.getD k default).slot∨(l.getD k default).off<0∨16≤(l.getD k default).off then 2 else if 0<k∧(l.getD k default).slot≤(l.getD (k-1) default).slot then 5 else 0:=fun _=>rfl
 have hit:=fun k (hk:k<n) (h1:faultP l k≠0) h2=>(by unfold placesN;rw[hlen];exact fstF_hit hk h1 h2:placesN l=faultP l k)
 have non:=fun(hp:∀j,j<n→faultP l j=0)=>(by unfold placesN;rw[hlen];exact fstF_none hp:placesN l=0)
 generalize placesN l=R at*
 generalize faultP l=F at*
 refine zh5 ?_ h hlen J hit non;clear h hlen J hit non;intro h hlen J hit non
 go_enter Tryz.func205,Tryz.ntmps205
 go_wp2_with fail
 go_loopw[3] (fun i wr=>∃k:Nat,k≤n∧i= .int .i64 k∧Hid (∀j,j<k→F j=0)∧Hid (Below w.heap.size w wr)) (fun i _=>n-(intOf i).toNat)
 case atStart=>exact⟨0,by omega,rfl,fun j hj=>by omega,Below.refl _ _⟩
 case round=>
  obtain⟨k,hk,rfl,HP,HB⟩:=hrel
  by_cases hlt:k<n
  ·obtain⟨b,off,rfl⟩:=h.addr (by omega)
   have hx:=spt_at (h.keep HB.out) hlt
   have hy:=fun W (hb:Below w.heap.size w W) (h0:0<k)=>(spt_at (h.keep hb) (i:=k-1) (by omega)).1
   have hF2:=J.out k
   have hit2:=fun h1=>hit.out k hlt h1 HP.out
   have nz:=fun(h:F k=0)=>next_zero h HP.out
   generalize l.getD (k-1) default=y at*
   generalize l.getD k default=x at*
   generalize F k=f at*
   obtain⟨x0,x1⟩:=x
   obtain⟨y0,y1⟩:=y
   obtain⟨q0,q1⟩:=hx
   dsimp only at q0 q1 hy hF2
   have r1:(k:Int)<(n:Int):=by omega
   have gq:=cell_regrown q0
   by_cases c0:x0<0
   ·have hRe:Hid (R=2):=by show _= _;rw[hit2 (by rw[hF2,if_pos (by omega)];omega),hF2,if_pos (by omega)]
    clear hit2 hF2 nz hy
    go_wp2
    go_ret
    exact⟨by rw[hRe.out];rfl,HB.out⟩
   have nc0:0≤x0:=by omega
   clear c0
   by_cases c1:512≤x0
   ·have hRe:Hid (R=2):=by show _= _;rw[hit2 (by rw[hF2,if_pos (by omega)];omega),hF2,if_pos (by omega)]
    clear hit2 hF2 nz hy
    go_wp2
    go_ret
    exact⟨by rw[hRe.out];rfl,HB.out⟩
   have nc1:x0<512:=by omega
   clear c1
   by_cases c2:x1<0
   ·have hRe:Hid (R=2):=by show _= _;rw[hit2 (by rw[hF2,if_pos (by omega)];omega),hF2,if_pos (by omega)]
    clear hit2 hF2 nz hy
    go_wp2
    go_ret
    exact⟨by rw[hRe.out];rfl,HB.out⟩
   have nc2:0≤x1:=by omega
   clear c2
   by_cases c3:16≤x1
   ·have hRe:Hid (R=2):=by show _= _;rw[hit2 (by rw[hF2,if_pos (by omega)];omega),hF2,if_pos (by omega)]
    clear hit2 hF2 nz hy
    go_wp2
    go_ret
    exact⟨by rw[hRe.out];rfl,HB.out⟩
   have nc3:x1<16:=by omega
   clear c3
   rw[if_neg (by omega)]at hF2
   by_cases k0:k=0
   ·subst k0
    have hz:f=0:=by rw[hF2,if_neg (by omega)]
    have hP2:=Zh (nz hz)
    have d1:decide (0<(0:Nat))=false:=by simp
    simp only[Nat.zero_mul,Nat.add_zero]at q0 q1 gq
    clear hit2 hF2 nz hy hz
    go_wp2_with fail
    refine wp_region_quiet_below (by kernel_rfl) (by kernel_rfl) ?_
    repeat(go_big_quiet_step(fail))
    refine wpQuiet_nil ?_
    rintro _ ⟨⟨dq,osq⟩,rfl⟩
    have p_:=below_regrown wr dq osq
    replace HB:=Zh (HB.keep p_)
    generalize grow (redrawn wr dq) osq=w2 at*
    clear p_
    go_wp2
    go_roundw
    case rel=>exact⟨0+1,by omega,by go_num,hP2,HB⟩
    case measure=>simp[intOf];omega
   have k1:0<k:=by omega
   have k2:(0:Int)<(k:Int):=by omega
   have p0:=hy wr HB.out k1
   have g2:=cell_regrown p0
   have hw1:IntKind.i64.wrap ((k:Int)-1)=(k:Int)-1:=IntWalk.i64_in _ (by omega)
   have ht1:((k:Int)-1).toNat=k-1:=by omega
   have t1:(0:Int)≤(k:Int)-1:=by omega
   have t2:(k:Int)-1<(n:Int):=by omega
   clear p0 hy
   by_cases hs:x0≤y0
   ·have hRe:Hid (R=5):=by show _= _;rw[hit2 (by rw[hF2,if_pos ⟨k1,hs⟩];omega),hF2,if_pos ⟨k1,hs⟩]
    clear hit2 hF2 nz
    replace k0:=Zh k0
    go_wp2_with fail
    refine wp_region_quiet_below (by kernel_rfl) (by kernel_rfl) ?_
    repeat(go_big_quiet_step(fail))
    refine wpQuiet_nil ?_
    rintro _ ⟨⟨dq,osq⟩,rfl⟩
    have p_:=below_regrown wr dq osq
    replace HB:=Zh (HB.keep p_)
    generalize grow (redrawn wr dq) osq=w2 at*
    clear p_
    go_wp2
    go_ret
    exact⟨by rw[hRe.out];rfl,HB.out⟩
   ·have hz:f=0:=by rw[hF2,if_neg (by omega)]
    have hP2:=Zh (nz hz)
    have d2:decide (x0≤y0)=false:=by simpa using hs
    clear hit2 hF2 nz hz
    replace k0:=Zh k0
    replace hs:=Zh hs
    go_wp2_with fail
    refine wp_region_quiet_below (by kernel_rfl) (by kernel_rfl) ?_
    repeat(go_big_quiet_step(fail))
    refine wpQuiet_nil ?_
    rintro _ ⟨⟨dq,osq⟩,rfl⟩
    have p_:=below_regrown wr dq osq
    replace HB:=Zh (HB.keep p_)
    generalize grow (redrawn wr dq) osq=w2 at*
    clear p_
    go_wp2
    go_roundw
    case rel=>exact⟨k+1,by omega,by go_num,hP2,HB⟩
    case measure=>simp[intOf];omega
  ·obtain rfl:k=n:=by omega
   have hRe:=Zh (non HP.out)
   go_wp2
   go_ret
   exact⟨by rw[hRe.out];rfl,HB.out⟩
open Go.Shelf Go.Maps
def plainB(m:Msg):Bool:=decide (m.count=0)&&(decide ((m.spots.length:Int)=0)&&decide ((m.old.length:Int)=0))
theorem eplain:∀args w,(callFunc 215 args).run Tryz.prog w= .ok (.enter 215 args) w:=enters_of Tryz.func215 (by kernel_rfl) rfl
theorem plain_any(m:Msg)(v:MsgV)(w:World)(h:MsgIs w v m):Calls Tryz.prog 215 #[.agg (Km m v)] w fun e w'=>e= .returned (.bool (plainB m))∧Below w.heap.size w w':=by
 have hb:=ball w (.cells (Km m v) 30)
 have BX:=Box.new w (Km m v) 30
 have kx:=BX.at_
 obtain⟨s1,s2⟩:=spots_small h
 unfold maxLen at s1 s2
 unfold plainB
 rw[h.spots.len,h.old.len]
 refine zh3 ?_ hb BX h;clear hb BX h;intro hb BX h
 go_enter Tryz.func215,Tryz.ntmps215
 go_upto_region 1 with fail
 generalize w.alloc (.cells (Km m v) 30)=w1 at*
 go_wp2
 all_goals
  go_ret
  exact⟨by first|(simp[*];done)|(simp[*];omega)|(simp[*,intB];done)|(simp[*,intB];omega),hb.out⟩
def delB(m:Msg):Bool:=decide ((m.spots.length:Int)=0)&&(decide (1≤(m.old.length:Int))&&decide (m.count=(m.old.length:Int)))
theorem edel:∀args w,(callFunc 216 args).run Tryz.prog w= .ok (.enter 216 args) w:=enters_of Tryz.func216 (by kernel_rfl) rfl
theorem del_any(m:Msg)(v:MsgV)(w:World)(h:MsgIs w v m):Calls Tryz.prog 216 #[.agg (Km m v)] w fun e w'=>e= .returned (.bool (delB m))∧Below w.heap.size w w':=by
 have hb:=ball w (.cells (Km m v) 30)
 have BX:=Box.new w (Km m v) 30
 have kx:=BX.at_
 obtain⟨s1,s2⟩:=spots_small h
 unfold maxLen at s1 s2
 unfold delB
 rw[h.spots.len,h.old.len]
 refine zh3 ?_ hb BX h;clear hb BX h;intro hb BX h
 go_enter Tryz.func216,Tryz.ntmps216
 go_upto_region 1 with fail
 generalize w.alloc (.cells (Km m v) 30)=w1 at*
 go_wp2
 all_goals
  go_ret
  exact⟨by first|(simp[*];done)|(simp[*];omega)|(simp[*,intB];done)|(simp[*,intB];omega),hb.out⟩
def addQB(m:Msg):Bool:=decide (1≤m.count)&&(decide (m.count≤8)&&(decide (m.count≤(m.spots.length:Int))&&decide ((m.old.length:Int)=0)))
theorem eaddQ:∀args w,(callFunc 217 args).run Tryz.prog w= .ok (.enter 217 args) w:=enters_of Tryz.func217 (by kernel_rfl) rfl
theorem addQ_any(m:Msg)(v:MsgV)(w:World)(h:MsgIs w v m):Calls Tryz.prog 217 #[.agg (Km m v)] w fun e w'=>e= .returned (.bool (addQB m))∧Below w.heap.size w w':=by
 have hb:=ball w (.cells (Km m v) 30)
 have BX:=Box.new w (Km m v) 30
 have kx:=BX.at_
 obtain⟨s1,s2⟩:=spots_small h
 unfold maxLen at s1 s2
 unfold addQB
 rw[h.spots.len,h.old.len]
 refine zh3 ?_ hb BX h;clear hb BX h;intro hb BX h
 go_enter Tryz.func217,Tryz.ntmps217
 go_upto_region 1 with fail
 generalize w.alloc (.cells (Km m v) 30)=w1 at*
 go_wp2
 all_goals
  go_ret
  exact⟨by first|(simp[*];done)|(simp[*];omega)|(simp[*,intB];done)|(simp[*,intB];omega),hb.out⟩
def addRB(m:Msg):Bool:=decide (1≤(m.spots.length:Int))&&(decide (m.count=(m.spots.length:Int))&&decide ((m.old.length:Int)=0))
theorem eaddR:∀args w,(callFunc 218 args).run Tryz.prog w= .ok (.enter 218 args) w:=enters_of Tryz.func218 (by kernel_rfl) rfl
theorem addR_any(m:Msg)(v:MsgV)(w:World)(h:MsgIs w v m):Calls Tryz.prog 218 #[.agg (Km m v)] w fun e w'=>e= .returned (.bool (addRB m))∧Below w.heap.size w w':=by
 have hb:=ball w (.cells (Km m v) 30)
 have BX:=Box.new w (Km m v) 30
 have kx:=BX.at_
 obtain⟨s1,s2⟩:=spots_small h
 unfold maxLen at s1 s2
 unfold addRB
 rw[h.spots.len,h.old.len]
 refine zh3 ?_ hb BX h;clear hb BX h;intro hb BX h
 go_enter Tryz.func218,Tryz.ntmps218
 go_upto_region 1 with fail
 generalize w.alloc (.cells (Km m v) 30)=w1 at*
 go_wp2
 all_goals
  go_ret
  exact⟨by first|(simp[*];done)|(simp[*];omega)|(simp[*,intB];done)|(simp[*,intB];omega),hb.out⟩
def relQB(m:Msg):Bool:=decide (1≤(m.old.length:Int))&&(decide (m.count=(m.old.length:Int))&&decide (m.count≤(m.spots.length:Int)))
theorem erelQ:∀args w,(callFunc 219 args).run Tryz.prog w= .ok (.enter 219 args) w:=enters_of Tryz.func219 (by kernel_rfl) rfl
theorem relQ_any(m:Msg)(v:MsgV)(w:World)(h:MsgIs w v m):Calls Tryz.prog 219 #[.agg (Km m v)] w fun e w'=>e= .returned (.bool (relQB m))∧Below w.heap.size w w':=by
 have hb:=ball w (.cells (Km m v) 30)
 have BX:=Box.new w (Km m v) 30
 have kx:=BX.at_
 obtain⟨s1,s2⟩:=spots_small h
 unfold maxLen at s1 s2
 unfold relQB
 rw[h.spots.len,h.old.len]
 refine zh3 ?_ hb BX h;clear hb BX h;intro hb BX h
 go_enter Tryz.func219,Tryz.ntmps219
 go_upto_region 1 with fail
 generalize w.alloc (.cells (Km m v) 30)=w1 at*
 go_wp2
 all_goals
  go_ret
  exact⟨by first|(simp[*];done)|(simp[*];omega)|(simp[*,intB];done)|(simp[*,intB];omega),hb.out⟩
def relRB(m:Msg):Bool:=decide (1≤(m.old.length:Int))&&(decide (m.count=(m.old.length:Int))&&decide ((m.spots.length:Int)=(m.old.length:Int)))
theorem erelR:∀args w,(callFunc 220 args).run Tryz.prog w= .ok (.enter 220 args) w:=enters_of Tryz.func220 (by kernel_rfl) rfl
theorem relR_any(m:Msg)(v:MsgV)(w:World)(h:MsgIs w v m):Calls Tryz.prog 220 #[.agg (Km m v)] w fun e w'=>e= .returned (.bool (relRB m))∧Below w.heap.size w w':=by
 have hb:=ball w (.cells (Km m v) 30)
 have BX:=Box.new w (Km m v) 30
 have kx:=BX.at_
 obtain⟨s1,s2⟩:=spots_small h
 unfold maxLen at s1 s2
 unfold relRB
 rw[h.spots.len,h.old.len]
 refine zh3 ?_ hb BX h;clear hb BX h;intro hb BX h
 go_enter Tryz.func220,Tryz.ntmps220
 go_upto_region 1 with fail
 generalize w.alloc (.cells (Km m v) 30)=w1 at*
 go_wp2
 all_goals
  go_ret
  exact⟨by first|(simp[*];done)|(simp[*];omega)|(simp[*,intB];done)|(simp[*,intB];omega),hb.out⟩
def cntRB(m:Msg):Bool:=decide ((m.spots.length:Int)=0)&&decide ((m.old.length:Int)=0)
theorem ecntR:∀args w,(callFunc 221 args).run Tryz.prog w= .ok (.enter 221 args) w:=enters_of Tryz.func221 (by kernel_rfl) rfl
theorem cntR_any(m:Msg)(v:MsgV)(w:World)(h:MsgIs w v m):Calls Tryz.prog 221 #[.agg (Km m v)] w fun e w'=>e= .returned (.bool (cntRB m))∧Below w.heap.size w w':=by
 have hb:=ball w (.cells (Km m v) 30)
 have BX:=Box.new w (Km m v) 30
 have kx:=BX.at_
 obtain⟨s1,s2⟩:=spots_small h
 unfold maxLen at s1 s2
 unfold cntRB
 rw[h.spots.len,h.old.len]
 refine zh3 ?_ hb BX h;clear hb BX h;intro hb BX h
 go_enter Tryz.func221,Tryz.ntmps221
 go_upto_region 1 with fail
 generalize w.alloc (.cells (Km m v) 30)=w1 at*
 go_wp2
 all_goals
  go_ret
  exact⟨by first|(simp[*];done)|(simp[*];omega)|(simp[*,intB];done)|(simp[*,intB];omega),hb.out⟩
def lstRB(m:Msg):Bool:=decide ((m.spots.length:Int)=min 8 m.count)&&decide ((m.old.length:Int)=0)
theorem elstR:∀args w,(callFunc 222 args).run Tryz.prog w= .ok (.enter 222 args) w:=enters_of Tryz.func222 (by kernel_rfl) rfl
theorem lstR_any(m:Msg)(v:MsgV)(w:World)(h:MsgIs w v m):Calls Tryz.prog 222 #[.agg (Km m v)] w fun e w'=>e= .returned (.bool (lstRB m))∧Below w.heap.size w w':=by
 have hb:=ball w (.cells (Km m v) 30)
 have BX:=Box.new w (Km m v) 30
 have kx:=BX.at_
 obtain⟨s1,s2⟩:=spots_small h
 unfold maxLen at s1 s2
 unfold lstRB
 rw[h.spots.len,h.old.len]
 refine zh3 ?_ hb BX h;clear hb BX h;intro hb BX h
 go_enter Tryz.func222,Tryz.ntmps222
 go_upto_region 1 with fail
 generalize w.alloc (.cells (Km m v) 30)=w1 at*
 go_wp2
 all_goals
  go_ret
  exact⟨by first|(simp[*];done)|(simp[*];omega)|(simp[*,intB];done)|(simp[*,intB];omega),hb.out⟩
def rowQ(k:Int):Nat:=if k=1 then 217 else if k=2 then 216 else if k=3 then 219 else 215
def rowR(k:Int):Nat:=if k=1 then 218 else if k=2 then 216 else if k=3 then 220 else if k=4 then 221 else if k=5 then 222 else 215
def codeF(f g:Nat):DataW Unit:= .agg [.lit (.int .i64 f),.lit (.int .i64 g)]
def fnOf:Value→Option Nat
 | .func (.func f) a b=>if a.size=0∧b.size=0 then some f else none
 |_=>none
theorem fnOf_inv {x:Value} {f:Nat}(h:fnOf x=some f):x= .func (.func f) #[] #[]:=by
 unfold fnOf at h
 split at h
 ·split at h
  ·rename_i hs
   injection h with h
   rw[h,Array.eq_empty_of_size_eq_zero hs.1,Array.eq_empty_of_size_eq_zero hs.2]
  ·cases h
 ·cases h
def pairF(x y:Value):Option (DataW Unit×List MemPlace):=match fnOf x,fnOf y with
 |some f,some g=>some (codeF f g,[])
 |_,_=>some (.agg [],[])
def rdF:Value→Option (DataW Unit×List MemPlace)
 | .agg c=>match c.toList with
   | [x,y]=>pairF x y
   |_=>some (.agg [],[])
 |_=>none
theorem zeroF(w:World):(zeroValue 213).run Tryz.prog w= .ok (.agg #[.nilFunc,.nilFunc]) w:=by kernel_rfl
theorem rdF_inv {v:Value} {f g:Nat} {ps:List MemPlace}(h:rdF v=some (codeF f g,ps)):v= .agg #[.func (.func f) #[] #[],.func (.func g) #[] #[]]:=by
 unfold rdF at h
 split at h
 ·rename_i c
  split at h
  ·rename_i x y hc
   unfold pairF at h
   split at h
   ·rename_i a b ha hb
    injection h with h
    simp only[codeF,Prod.mk.injEq,DataW.agg.injEq,List.cons.injEq,DataW.lit.injEq,Lit.int.injEq,and_true,true_and]at h
    obtain⟨⟨h1,h2⟩,_⟩:=h
    rw[Int.ofNat_inj.1 h1]at ha
    rw[Int.ofNat_inj.1 h2]at hb
    have e:c=#[x,y]:=by rw[←Array.toList_inj];exact hc
    rw[e,fnOf_inv ha,fnOf_inv hb]
   ·injection h with h
    simp[codeF]at h
  ·injection h with h
   simp[codeF]at h
 ·cases h
theorem lawI:Keyed Tryz.prog 3:=int_keyed Tryz.underlying3
theorem keyI(n:Int)(h:0≤n∧n<1000):keyOf Tryz.prog 3 (.int .i64 n)=some (.int .i64 n):=by
 refine keyOf_int_mk Tryz.underlying3 ?_
 have e1:IntKind.i64.min= -9223372036854775808:=rfl
 have e2:IntKind.i64.max=9223372036854775807:=rfl
 simp[Lit.wf,e1,e2];omega
def Rows(w:World)(b:Nat):Prop:=∃D:DataW Unit,w.ownsMap Tryz.prog 3 rdF b 6 D∧IsMap D∧∀k:Int,1≤k→k≤6→∀zd,D.atKey (.int .i64 k) zd=codeF (rowQ k) (rowR k)
theorem Rows.look {w:World} {b:Nat}(h:Rows w b) {k:Int}(h1:1≤k)(h2:k≤6):(Instr.lookup 214 (.map (some b)) (.int .i64 k) false).run Tryz.prog w= .ok (.agg #[.func (.func (rowQ k)) #[] #[],.func (.func (rowR k)) #[] #[]]) w:=by
 obtain⟨D,hO,_,hD⟩:=h
 obtain⟨v,ps,hrun,hv⟩:=hO.lookup lawI Tryz.underlying214 (zeroF w) (rfl:rdF (.agg #[.nilFunc,.nilFunc])=some (.agg [],[])) (keyI k (by omega))
 rw[hD k h1 h2]at hv
 rw[hrun,rdF_inv hv]
theorem isKeyInt(n:Int):WideAt.IsKeyLit (.int .i64 n):=by simp[WideAt.IsKeyLit]
def RowsPost(w:World)(e:Ending)(w':World):Prop:=∃b,e= .returned (.map (some b))∧Rows w' b∧w.heap.size≤b∧Below w.heap.size w w'
theorem up_row {w:World} {b n:Nat} {D:DataW Unit}(h:w.ownsMap Tryz.prog 3 rdF b n D)(hn:n≤6)(k:Int)(hk:1≤k∧k≤6)(f g:Nat):∃w',(Instr.mapUpdate 214 (.map (some b)) (.int .i64 k) (.agg #[.func (.func f) #[] #[],.func (.func g) #[] #[]])).run Tryz.prog w= .ok () w'∧w'.ownsMap Tryz.prog 3 rdF b (n+1) (D.put (.int .i64 k) (codeF f g))∧w.grownBy w' (some b):=
 h.update lawI Tryz.underlying214 (by unfold maxLen;omega) (keyI k (by omega)) (rfl:rdF (.agg #[.func (.func f) #[] #[],.func (.func g) #[] #[]])=some (codeF f g,[]))
theorem rows_any(w:World):Calls Tryz.prog 183 #[] w (RowsPost w):=by
 have HM0:=World.ownsMap_made (H:=Unit) w Tryz.prog 3 rdF
 have hb0:=ball w (.map #[] 0)
 have hmm:= @run_makeMap Tryz.prog
 obtain⟨w1,u1,o1,g1⟩:=up_row HM0 (by omega) 1 (by omega) (rowQ 1) (rowR 1)
 obtain⟨w2,u2,o2,g2⟩:=up_row o1 (by omega) 2 (by omega) (rowQ 2) (rowR 2)
 obtain⟨w3,u3,o3,g3⟩:=up_row o2 (by omega) 3 (by omega) (rowQ 3) (rowR 3)
 obtain⟨w4,u4,o4,g4⟩:=up_row o3 (by omega) 4 (by omega) (rowQ 4) (rowR 4)
 obtain⟨w5,u5,o5,g5⟩:=up_row o4 (by omega) 5 (by omega) (rowQ 5) (rowR 5)
 obtain⟨w6,u6,o6,g6⟩:=up_row o5 (by omega) 6 (by omega) (rowQ 6) (rowR 6)
 have hb6:Below w.heap.size w w6:=by
  have gg:=gb_trans (gb_trans (gb_trans (gb_trans (gb_trans g1 g2) g3) g4) g5) g6
  exact Below.grownM hb0 gg hb0.size (fun q hq=>by injection hq with hq;omega)
 have J:Hid (RowsPost w (.returned (.map (some w.heap.size))) w6):=by
  refine⟨w.heap.size,rfl,⟨_,o6,?_,?_⟩,Nat.le_refl _,hb6⟩
  ·exact(((((isMap_empty.put _ _).put _ _).put _ _).put _ _).put _ _).put _ _
  ·intro k h1 h2 zd
   have hm1:=(isMap_empty (H:=Unit)).put (.int .i64 1) (codeF (rowQ 1) (rowR 1))
   have hm2:=hm1.put (.int .i64 2) (codeF (rowQ 2) (rowR 2))
   have hm3:=hm2.put (.int .i64 3) (codeF (rowQ 3) (rowR 3))
   have hm4:=hm3.put (.int .i64 4) (codeF (rowQ 4) (rowR 4))
   have hm5:=hm4.put (.int .i64 5) (codeF (rowQ 5) (rowR 5))
   rcases(by omega:k=1∨k=2∨k=3∨k=4∨k=5∨k=6)with rfl|rfl|rfl|rfl|rfl|rfl
   ·rw[atKey_put_other (by simp),atKey_put_other (by simp),atKey_put_other (by simp),atKey_put_other (by simp),atKey_put_other (by simp),atKey_put_same isMap_empty (isKeyInt _)]
   ·rw[atKey_put_other (by simp),atKey_put_other (by simp),atKey_put_other (by simp),atKey_put_other (by simp),atKey_put_same hm1 (isKeyInt _)]
   ·rw[atKey_put_other (by simp),atKey_put_other (by simp),atKey_put_other (by simp),atKey_put_same hm2 (isKeyInt _)]
   ·rw[atKey_put_other (by simp),atKey_put_other (by simp),atKey_put_same hm3 (isKeyInt _)]
   ·rw[atKey_put_other (by simp),atKey_put_same hm4 (isKeyInt _)]
   ·rw[atKey_put_same hm5 (isKeyInt _)]
 have v1:rowQ 1=217:=rfl
 have v2:rowR 1=218:=rfl
 have v3:rowQ 2=216:=rfl
 have v4:rowR 2=216:=rfl
 have v5:rowQ 3=219:=rfl
 have v6:rowR 3=220:=rfl
 have v7:rowQ 4=215:=rfl
 have v8:rowR 4=221:=rfl
 have v9:rowQ 5=215:=rfl
 have v10:rowR 5=222:=rfl
 have v11:rowQ 6=215:=rfl
 have v12:rowR 6=215:=rfl
 rw[v1,v2]at u1
 rw[v3,v4]at u2
 rw[v5,v6]at u3
 rw[v7,v8]at u4
 rw[v9,v10]at u5
 rw[v11,v12]at u6
 clear v1 v2 v3 v4 v5 v6 v7 v8 v9 v10 v11 v12 o1 o2 o3 o4 o5 o6 g1 g2 g3 g4 g5 g6 HM0 hb0 hb6
 go_enter Tryz.func183,Tryz.ntmps183
 go_wp2
 go_ret
 exact J.out
end Tx
end Go.Proofs.YtfamifgchgolpaaGreat
