/- Chapter 25: Answers, the reference's. -/
import Derived.Test.YtfamifgchgolpaaGreatBf
import Derived.Test.YtfamifgchgolpaaGreatBg
set_option linter.unusedVariables false
set_option linter.unusedSimpArgs false
set_option maxRecDepth 100000
set_option maxHeartbeats 4000000
namespace Go.Proofs.YtfamifgchgolpaaGreat
open Go Go.RowKit Go.Sort Go.Lib Go.Shelf Go.Maps
namespace Tx
open Sw Mm
theorem rans_any(q r:Msg)(vq vr:MsgV)(w:World)(h1:MsgIs w vq q)(h2:MsgIs w vr r):Calls Tryz.prog 165 #[.agg (Km q vq),.agg (Km r vr)] w fun e w'=>e= .returned (.bool (ansR q r))∧Below w.heap.size w w':=by
 have hb2:=ballN (ball w (.cells (Km q vq) 30)) (.cells (Km r vr) 30)
 have BQ:=(Box.new w (Km q vq) 30).alloc (.cells (Km r vr) 30)
 have BR:=Box.new (w.alloc (.cells (Km q vq) 30)) (Km r vr) 30
 rw[size1]at BR
 have cQ:=rchkM_any q vq _ (h1.keep hb2)
 have cR:=fun W hb=>rchkM_any r vr W (h2.keep (w':=W) hb)
 have cS:=fun W (hb:Below w.heap.size w W)=>ramong_any vr.sA vq.sA vr.sn vr.sc vq.sn vq.sc r.spots q.spots W (h2.spots.keep hb) (h1.spots.keep hb)
 have cO:=fun W (hb:Below w.heap.size w W)=>ramong_any vr.oA vq.oA vr.on vr.oc vq.on vq.oc r.old q.old W (h2.old.keep hb) (h1.old.keep hb)
 have hlq:=h1.old.len
 have hlr:=h2.old.len
 have hR:ansR q r=ansR q r:=rfl
 conv at hR=>rhs;unfold ansR
 rw[hlq,hlr]at hR
 generalize ansR q r=R at*
 generalize chkM q=C1 at*
 generalize chkM r=C2 at*
 generalize amongN r.spots q.spots=A1 at*
 generalize amongN r.old q.old=A2 at*
 obtain⟨k0,r0,n0,c0,t0,s0,o0⟩:=q
 obtain⟨k1,r1,n1,c1,t1,s1,o1⟩:=r
 dsimp only at*
 have kq:=BQ.at_
 refine zh12 ?_ h1 h2 hb2 BQ BR cQ cR cS cO hlq hlr hR;clear h1 h2 hb2 BQ BR cQ cR cS cO hlq hlr hR;intro h1 h2 hb2 BQ BR cQ cR cS cO hlq hlr hR
 go_enter Tryz.func165,Tryz.ntmps165
 go_wp2_with fail
 refine cQ.mono ?_
 rintro e w3 ⟨rfl,p_⟩
 replace hb2:=Zh (hb2.keep p_)
 replace BQ:=Zh (BQ.keep p_)
 replace BR:=Zh (BR.keep p_)
 clear p_ kq cQ
 have kq:=BQ.at_
 have kr:=BR.at_
 by_cases e1:C1=0
 ·have d1:(C1 !=0)=false:=by simp[e1]
  have cR2:=Zh (cR w3 hb2.out)
  replace e1:=Zh e1
  go_wp2_with fail
  refine cR2.mono ?_
  rintro e w4 ⟨rfl,p_⟩
  clear kq kr
  replace hb2:=Zh (hb2.keep p_)
  replace BQ:=Zh (BQ.keep p_)
  replace BR:=Zh (BR.keep p_)
  clear p_ cR cR2
  have kq:=BQ.at_
  have kr:=BR.at_
  by_cases e2:C2=0
  ·have d2:(C2 !=0)=false:=by simp[e2]
   replace e2:=Zh e2
   cases r0 with
   |true=>
    have hR2:Hid (R=false):=by show _= _;rw[hR.out];simp[]
    go_wp2
    go_ret
    exact⟨by rw[hR2.out];rfl,hb2.out⟩
   |false=>
   cases r1 with
   |false=>
    have hR2:Hid (R=false):=by show _= _;rw[hR.out];simp[]
    go_wp2
    go_ret
    exact⟨by rw[hR2.out];rfl,hb2.out⟩
   |true=>
   by_cases kk:k0=k1
   ·subst kk
    have d3:(k0 !=k0)=false:=by simp
    by_cases nn:n0=n1
    ·subst nn
     have d4:(n0 !=n0)=false:=by simp
     have hb3:=hb2
     by_cases cc:c1=0
     ·have hS:=Zh (hR.trans (by rw[if_neg (by simp[e1.out,e2.out]),if_neg (by simp[cc])]: _=if k0=1∨k0=3 then decide (t1≤t0)&&(A1&&A2)else if k0=2 then decide (vr.on=vq.on)&&A2 else true))
      subst cc
      clear hR
      by_cases x1:k0=1∨k0=3
      ·have hT:=Zh (hS.trans (if_pos x1))
       clear hS
       have cS2:=Zh (cS w4 hb2.out)
       by_cases tt:t1≤t0
       ·rcases x1 with x1|x1<;>subst x1
        all_goals
         go_wp2_with fail
         refine cS2.mono ?_
         rintro e w5 ⟨rfl,p_⟩
         clear kq kr
         replace hb2:=Zh (hb2.keep p_)
         replace BQ:=Zh (BQ.keep p_)
         replace BR:=Zh (BR.keep p_)
         clear p_
         have kq:=BQ.at_
         have kr:=BR.at_
         have cO2:=Zh (cO w5 hb2.out)
         cases A1 with
         |false=>
          go_wp2
          go_ret
          exact⟨by rw[hT.out];simp,hb2.out⟩
         |true=>
          go_wp2_with fail
          refine cO2.mono ?_
          rintro e w6 ⟨rfl,p_⟩
          have hB:=Zh (bthen hb2.out p_)
          clear p_ kq kr
          go_wp2
          go_ret
          exact⟨by rw[hT.out];simp[tt],hB.out⟩
       ·have hR2:Hid (R=false):=by show _= _;rw[hT.out];simp[tt]
        clear hT
        rcases x1 with x1|x1<;>subst x1
        all_goals
         go_wp2
         go_ret
         exact⟨by rw[hR2.out];rfl,hb2.out⟩
      ·have hT:=Zh (hS.trans (if_neg x1))
       clear hS
       have y1:(k0==1)=false:=by simp;omega
       have y3:(k0==3)=false:=by simp;omega
       by_cases x2:k0=2
       ·subst x2
        have cO2:=Zh (cO w4 hb2.out)
        by_cases ll:vr.on=vq.on
        ·have l1:((vr.on:Int)==(vq.on:Int))=true:=by simp[ll]
         replace ll:=Zh ll
         go_wp2_with fail
         refine cO2.mono ?_
         rintro e w6 ⟨rfl,p_⟩
         have hB:=Zh (bthen hb2.out p_)
         clear p_ kq kr
         go_wp2
         go_ret
         exact⟨by rw[hT.out];simp[ll.out],hB.out⟩
        ·have l1:((vr.on:Int)==(vq.on:Int))=false:=by simp;omega
         replace ll:=Zh ll
         go_wp2
         go_ret
         exact⟨by rw[hT.out];simp[ll.out],hb2.out⟩
       ·have y2:(k0==2)=false:=by simp;omega
        have hR2:Hid (R=true):=by show _= _;rw[hT.out,if_neg x2]
        clear hT
        go_wp2
        go_ret
        exact⟨by rw[hR2.out];rfl,hb2.out⟩
     ·have dc:(c1 !=0)=true:=by simpa using cc
      have hR2:Hid (R=true):=by show _= _;rw[hR.out];simp[e1.out,e2.out,cc]
      replace cc:=Zh cc
      go_wp2
      go_ret
      exact⟨by rw[hR2.out];rfl,hb2.out⟩
    ·have d4:(n0 !=n1)=true:=by simpa using nn
     have hR2:Hid (R=false):=by show _= _;rw[hR.out];simp[nn]
     replace nn:=Zh nn
     go_wp2
     go_ret
     exact⟨by rw[hR2.out];rfl,hb2.out⟩
   ·have d3:(k0 !=k1)=true:=by simpa using kk
    have hR2:Hid (R=false):=by show _= _;rw[hR.out];simp[kk]
    replace kk:=Zh kk
    go_wp2
    go_ret
    exact⟨by rw[hR2.out];rfl,hb2.out⟩
  ·have d2:(C2 !=0)=true:=by simpa using e2
   have hR2:Hid (R=false):=by show _= _;rw[hR.out,if_pos (.inr (.inl e2))]
   replace e2:=Zh e2
   go_wp2
   go_ret
   exact⟨by rw[hR2.out];rfl,hb2.out⟩
 ·have d1:(C1 !=0)=true:=by simpa using e1
  have hR2:Hid (R=false):=by show _= _;rw[hR.out,if_pos (.inl e1)]
  replace e1:=Zh e1
  go_wp2
  go_ret
  exact⟨by rw[hR2.out];rfl,hb2.out⟩
theorem ans_any(q r:Msg)(vq vr:MsgV)(w:World)(h1:MsgIs w vq q)(h2:MsgIs w vr r):Calls Tryz.prog 18 #[.agg (Km q vq),.agg (Km r vr)] w fun e w'=>e= .returned (.bool (ansN q r))∧Below w.heap.size w w':=by
 have hb2:=ballN (ball w (.cells (Km q vq) 30)) (.cells (Km r vr) 30)
 have BQ:=(Box.new w (Km q vq) 30).alloc (.cells (Km r vr) 30)
 have BR:=Box.new (w.alloc (.cells (Km q vq) 30)) (Km r vr) 30
 rw[size1]at BR
 have cQ:=chkM_any q vq _ (h1.keep hb2)
 have cR:=fun W hb=>chkM_any r vr W (h2.keep (w':=W) hb)
 have cS:=fun W (hb:Below w.heap.size w W)=>among_any vr.sA vq.sA vr.sn vr.sc vq.sn vq.sc r.spots q.spots W (h2.spots.keep hb) (h1.spots.keep hb)
 have cO:=fun W (hb:Below w.heap.size w W)=>among_any vr.oA vq.oA vr.on vr.oc vq.on vq.oc r.old q.old W (h2.old.keep hb) (h1.old.keep hb)
 have cE:=fun W (hb:Below w.heap.size w W)=>equalS_any vr.oA vq.oA vr.on vq.on vr.oc vq.oc r.old q.old W (h2.old.keep hb) (h1.old.keep hb)
 have hR:ansN q r=ansN q r:=rfl
 conv at hR=>rhs;unfold ansN
 generalize ansN q r=R at*
 generalize chkM q=C1 at*
 generalize chkM r=C2 at*
 generalize amongN r.spots q.spots=A1 at*
 generalize amongN r.old q.old=A2 at*
 generalize decide (r.old=q.old)=A3 at*
 obtain⟨k0,r0,n0,c0,t0,s0,o0⟩:=q
 obtain⟨k1,r1,n1,c1,t1,s1,o1⟩:=r
 dsimp only at*
 have kq:=BQ.at_
 refine zh11 ?_ h1 h2 hb2 BQ BR cQ cR cS cO cE hR;clear h1 h2 hb2 BQ BR cQ cR cS cO cE hR;intro h1 h2 hb2 BQ BR cQ cR cS cO cE hR
 go_enter Tryz.func18,Tryz.ntmps18
 go_wp2_with fail
 refine cQ.mono ?_
 rintro e w3 ⟨rfl,p_⟩
 replace hb2:=Zh (hb2.keep p_)
 replace BQ:=Zh (BQ.keep p_)
 replace BR:=Zh (BR.keep p_)
 clear p_ kq cQ
 have kq:=BQ.at_
 have kr:=BR.at_
 by_cases e1:C1=0
 ·have d1:(C1 !=0)=false:=by simp[e1]
  have cR2:=Zh (cR w3 hb2.out)
  replace e1:=Zh e1
  go_wp2_with fail
  refine cR2.mono ?_
  rintro e w4 ⟨rfl,p_⟩
  clear kq kr
  replace hb2:=Zh (hb2.keep p_)
  replace BQ:=Zh (BQ.keep p_)
  replace BR:=Zh (BR.keep p_)
  clear p_ cR cR2
  have kq:=BQ.at_
  have kr:=BR.at_
  by_cases e2:C2=0
  ·have d2:(C2 !=0)=false:=by simp[e2]
   replace e2:=Zh e2
   cases r0 with
   |true=>
    have hR2:Hid (R=false):=by show _= _;rw[hR.out];simp[]
    go_wp2
    go_ret
    exact⟨by rw[hR2.out];rfl,hb2.out⟩
   |false=>
   cases r1 with
   |false=>
    have hR2:Hid (R=false):=by show _= _;rw[hR.out];simp[]
    go_wp2
    go_ret
    exact⟨by rw[hR2.out];rfl,hb2.out⟩
   |true=>
   by_cases kk:k0=k1
   ·subst kk
    have d3:(k0 !=k0)=false:=by simp
    by_cases nn:n0=n1
    ·subst nn
     have d4:(n0 !=n0)=false:=by simp
     have hb3:=hb2
     by_cases cc:c1=0
     ·have hS:=Zh (hR.trans (by rw[if_neg (by simp[e1.out,e2.out]),if_neg (by simp[cc])]: _=if k0=1 then decide (t1≤t0)&&A1 else if k0=3 then decide (t1≤t0)&&(A1&&A2)else if k0=2 then A3 else true))
      subst cc
      clear hR
      by_cases x:k0=1
      ·subst x
       have hT:=Zh (hS.trans (if_pos rfl))
       clear hS
       have cS2:=Zh (cS w4 hb2.out)
       by_cases tt:t1≤t0
       ·go_wp2_with fail
        refine cS2.mono ?_
        rintro e w5 ⟨rfl,p_⟩
        clear kq kr
        replace hb2:=Zh (hb2.keep p_)
        replace BQ:=Zh (BQ.keep p_)
        replace BR:=Zh (BR.keep p_)
        clear p_
        go_wp2
        go_ret
        exact⟨by rw[hT.out];simp[tt],hb2.out⟩
       ·have hR2:Hid (R=false):=by show _= _;rw[hT.out];simp[tt]
        clear hT
        go_wp2
        go_ret
        exact⟨by rw[hR2.out];rfl,hb2.out⟩
      have y1:(k0==1)=false:=by simpa using x
      have hS1:=hS.trans (if_neg x)
      clear hS
      have hS:=Zh hS1
      clear hS1
      clear x
      by_cases x:k0=3
      ·subst x
       clear y1
       have hT:=Zh (hS.trans (if_pos rfl))
       clear hS
       have cS2:=Zh (cS w4 hb2.out)
       by_cases tt:t1≤t0
       ·go_wp2_with fail
        refine cS2.mono ?_
        rintro e w5 ⟨rfl,p_⟩
        clear kq kr
        replace hb2:=Zh (hb2.keep p_)
        replace BQ:=Zh (BQ.keep p_)
        replace BR:=Zh (BR.keep p_)
        clear p_
        have kq:=BQ.at_
        have kr:=BR.at_
        have cO2:=Zh (cO w5 hb2.out)
        cases A1 with
        |false=>
         go_wp2
         go_ret
         exact⟨by rw[hT.out];simp,hb2.out⟩
        |true=>
         go_wp2_with fail
         refine cO2.mono ?_
         rintro e w6 ⟨rfl,p_⟩
         have hB:=Zh (bthen hb2.out p_)
         clear p_ kq kr
         go_wp2
         go_ret
         exact⟨by rw[hT.out];simp[tt],hB.out⟩
       ·have hR2:Hid (R=false):=by show _= _;rw[hT.out];simp[tt]
        clear hT
        go_wp2
        go_ret
        exact⟨by rw[hR2.out];rfl,hb2.out⟩
      have y3:(k0==3)=false:=by simpa using x
      have hS1:=hS.trans (if_neg x)
      clear hS
      have hS:=Zh hS1
      clear hS1
      clear x
      by_cases x:k0=2
      ·subst x
       have hT:=Zh (hS.trans (if_pos rfl))
       have cE2:=Zh (cE w4 hb2.out)
       clear hS
       go_wp2_with fail
       refine cE2.mono ?_
       rintro e w6 ⟨rfl,p_⟩
       have hB:=Zh (bthen hb2.out p_)
       clear p_ kq kr
       go_wp2
       go_ret
       exact⟨by rw[hT.out];rfl,hB.out⟩
      ·have y2:(k0==2)=false:=by simpa using x
       have hR2:=Zh (hS.trans (if_neg x))
       clear hS
       clear x
       go_wp2
       go_ret
       exact⟨by rw[hR2.out];rfl,hb2.out⟩
     ·have dc:(c1 !=0)=true:=by simpa using cc
      have hR2:Hid (R=true):=by show _= _;rw[hR.out];simp[e1.out,e2.out,cc]
      replace cc:=Zh cc
      go_wp2
      go_ret
      exact⟨by rw[hR2.out];rfl,hb2.out⟩
    ·have d4:(n0 !=n1)=true:=by simpa using nn
     have hR2:Hid (R=false):=by show _= _;rw[hR.out];simp[nn]
     replace nn:=Zh nn
     go_wp2
     go_ret
     exact⟨by rw[hR2.out];rfl,hb2.out⟩
   ·have d3:(k0 !=k1)=true:=by simpa using kk
    have hR2:Hid (R=false):=by show _= _;rw[hR.out];simp[kk]
    replace kk:=Zh kk
    go_wp2
    go_ret
    exact⟨by rw[hR2.out];rfl,hb2.out⟩
  ·have d2:(C2 !=0)=true:=by simpa using e2
   have hR2:Hid (R=false):=by show _= _;rw[hR.out,if_pos (.inr (.inl e2))]
   replace e2:=Zh e2
   go_wp2
   go_ret
   exact⟨by rw[hR2.out];rfl,hb2.out⟩
 ·have d1:(C1 !=0)=true:=by simpa using e1
  have hR2:Hid (R=false):=by show _= _;rw[hR.out,if_pos (.inl e1)]
  replace e1:=Zh e1
  go_wp2
  go_ret
  exact⟨by rw[hR2.out];rfl,hb2.out⟩
def RefPost(q:Msg)(code:Int)(w:World)(e:Ending)(w':World):Prop:=e= .returned (.tuple #[.agg (msgA (refN q code) msgV0),.int .i64 (refC q code)])∧Below w.heap.size w w'
def refM(q:Msg)(code:Int):Msg:=⟨q.kind,true,q.number,code,0,[],[]⟩
theorem refPost_bad {q:Msg} {code F:Int} {w w':World} {e:Ending}(J:refC q code=F)(h0:F≠0)(h:e= .returned (.tuple #[.agg (Kz 7),.int .i64 F]))(hb:Below w.heap.size w w'):RefPost q code w e w':=by
 have hN:refN q code=msg0:=by unfold refN;rw[J,if_neg h0]
 refine⟨?_,hb⟩
 rw[hN,J]
 exact h
theorem refPost_ok {q:Msg} {code:Int} {w w':World} {e:Ending}(J:refC q code=0)(h:e= .returned (.tuple #[.agg (msgA (refM q code) msgV0),.int .i64 0]))(hb:Below w.heap.size w w'):RefPost q code w e w':=by
 have hN:refN q code=refM q code:=by unfold refN;rw[J,if_pos rfl];rfl
 refine⟨?_,hb⟩
 rw[hN,J]
 exact h
theorem ref_any(q:Msg)(vq:MsgV)(code:Int)(w:World)(h1:MsgIs w vq q):Calls Tryz.prog 59 #[.agg (Km q vq),.int .i64 code] w (RefPost q code w):=by
 have I:=((Mem.start w).alloc (Km q vq) 30).alloc (Kz 7) 30
 rw[size1]at I
 have cQ:=chkM_any q vq _ (h1.keep I.below)
 have J:refC q code=refC q code:=rfl
 conv at J=>rhs;unfold refC
 generalize chkM q=C1 at*
 obtain⟨k0,r0,n0,c0,t0,s0,o0⟩:=q
 dsimp only at*
 have kq:=I.cell 1 rfl
 generalize hP:RefPost _ _ _=P
 have uM:=Tryz.underlying30
 refine zh6 ?_ h1 I cQ J uM hP;clear h1 I cQ J uM hP;intro h1 I cQ J uM hP
 go_enter Tryz.func59,Tryz.ntmps59
 go_wp2_with fail
 refine cQ.mono ?_
 rintro e w3 ⟨rfl,p_⟩
 replace I:=Zm I p_
 clear p_ kq cQ
 have kq:=I.cell 1 rfl
 go_wp2_with(refine sN 0 I ?_;clear I kq;intro w4 I hG4;simp only[List.set]at I;have kq:=I.cell 1 rfl)
 all_goals
  have f1:=J.out
  try simp only[Exit.inBlock,Exit.then]
  refine rT I 0 uM.out ?_
  rw[←hP.out]
  first
  |(have e1:=f1.trans (by simp[*]: _=(1:Int));exact refPost_bad e1 (by decide) rfl I.below)
  |(have e1:=f1.trans (by rw[if_neg (by simp[*]),if_pos (by omega)]: _=(2:Int));exact refPost_bad e1 (by decide) rfl I.below)
  |(have e1:=f1.trans (by rw[if_neg (by simp[*]),if_neg (by omega)]: _=(0:Int));exact refPost_ok e1 (by subst_eqs;rfl) I.below)
theorem rref_any(q:Msg)(vq:MsgV)(code:Int)(w:World)(h1:MsgIs w vq q):Calls Tryz.prog 207 #[.agg (Km q vq),.int .i64 code] w (RefPost q code w):=by
 have I:=((Mem.start w).alloc (Km q vq) 30).alloc (Kz 7) 30
 rw[size1]at I
 have cQ:=rchkM_any q vq _ (h1.keep I.below)
 have J:refC q code=refC q code:=rfl
 conv at J=>rhs;unfold refC
 generalize chkM q=C1 at*
 obtain⟨k0,r0,n0,c0,t0,s0,o0⟩:=q
 dsimp only at*
 have kq:=I.cell 1 rfl
 generalize hP:RefPost _ _ _=P
 have uM:=Tryz.underlying30
 refine zh6 ?_ h1 I cQ J uM hP;clear h1 I cQ J uM hP;intro h1 I cQ J uM hP
 go_enter Tryz.func207,Tryz.ntmps207
 go_wp2_with fail
 refine cQ.mono ?_
 rintro e w3 ⟨rfl,p_⟩
 replace I:=Zm I p_
 clear p_ kq cQ
 have kq:=I.cell 1 rfl
 go_wp2_with(refine sN 0 I ?_;clear I kq;intro w4 I hG4;simp only[List.set]at I;have kq:=I.cell 1 rfl)
 all_goals
  have f1:=J.out
  try simp only[Exit.inBlock,Exit.then]
  refine rT I 0 uM.out ?_
  rw[←hP.out]
  first
  |(have e1:=f1.trans (by simp[*]: _=(1:Int));exact refPost_bad e1 (by decide) rfl I.below)
  |(have e1:=f1.trans (by rw[if_neg (by simp[*]),if_pos (by omega)]: _=(2:Int));exact refPost_bad e1 (by decide) rfl I.below)
  |(have e1:=f1.trans (by rw[if_neg (by simp[*]),if_neg (by omega)]: _=(0:Int));exact refPost_ok e1 (by subst_eqs;rfl) I.below)
end Tx
end Go.Proofs.YtfamifgchgolpaaGreat
