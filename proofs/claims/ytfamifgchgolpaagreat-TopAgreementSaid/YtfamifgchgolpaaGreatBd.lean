/- Chapter 25: a message follows its table. -/
import Derived.Test.YtfamifgchgolpaaGreatBc
set_option linter.unusedVariables false
set_option linter.unusedSimpArgs false
set_option maxRecDepth 100000
set_option maxHeartbeats 4000000
namespace Go.Proofs.YtfamifgchgolpaaGreat
open Go Go.RowKit Go.Sort Go.Lib Go.Shelf Go.Maps
namespace Tx
open Sw Mm
def rowQB(m:Msg):Bool:=if m.kind=1 then addQB m else if m.kind=2 then delB m else if m.kind=3 then relQB m else plainB m
def rowRB(m:Msg):Bool:=if m.kind=1 then addRB m else if m.kind=2 then delB m else if m.kind=3 then relRB m else if m.kind=4 then cntRB m else if m.kind=5 then lstRB m else plainB m
theorem eQ(k:Int):∀args w,(callFunc (rowQ k) args).run Tryz.prog w= .ok (.enter (rowQ k) args) w:=by
 unfold rowQ
 split
 ·exact eaddQ
 ·split
  ·exact edel
  ·split
   ·exact erelQ
   ·exact eplain
theorem eR(k:Int):∀args w,(callFunc (rowR k) args).run Tryz.prog w= .ok (.enter (rowR k) args) w:=by
 unfold rowR
 split
 ·exact eaddR
 ·split
  ·exact edel
  ·split
   ·exact erelR
   ·split
    ·exact ecntR
    ·split
     ·exact elstR
     ·exact eplain
theorem rowQ_any(m:Msg)(v:MsgV)(w:World)(h:MsgIs w v m):Calls Tryz.prog (rowQ m.kind) #[.agg (Km m v)] w fun e w'=>e= .returned (.bool (rowQB m))∧Below w.heap.size w w':=by
 unfold rowQ rowQB
 by_cases h1:m.kind=1
 ·rw[if_pos h1,if_pos h1];exact addQ_any m v w h
 rw[if_neg h1,if_neg h1]
 by_cases h2:m.kind=2
 ·rw[if_pos h2,if_pos h2];exact del_any m v w h
 rw[if_neg h2,if_neg h2]
 by_cases h3:m.kind=3
 ·rw[if_pos h3,if_pos h3];exact relQ_any m v w h
 rw[if_neg h3,if_neg h3]
 exact plain_any m v w h
theorem rowR_any(m:Msg)(v:MsgV)(w:World)(h:MsgIs w v m):Calls Tryz.prog (rowR m.kind) #[.agg (Km m v)] w fun e w'=>e= .returned (.bool (rowRB m))∧Below w.heap.size w w':=by
 unfold rowR rowRB
 by_cases h1:m.kind=1
 ·rw[if_pos h1,if_pos h1];exact addR_any m v w h
 rw[if_neg h1,if_neg h1]
 by_cases h2:m.kind=2
 ·rw[if_pos h2,if_pos h2];exact del_any m v w h
 rw[if_neg h2,if_neg h2]
 by_cases h3:m.kind=3
 ·rw[if_pos h3,if_pos h3];exact relR_any m v w h
 rw[if_neg h3,if_neg h3]
 by_cases h4:m.kind=4
 ·rw[if_pos h4,if_pos h4];exact cntR_any m v w h
 rw[if_neg h4,if_neg h4]
 by_cases h5:m.kind=5
 ·rw[if_pos h5,if_pos h5];exact lstR_any m v w h
 rw[if_neg h5,if_neg h5]
 exact plain_any m v w h
def follP(m:Msg):Bool:=if m.reply=false then decide (m.code=0)&&rowQB m else if m.code=0 then rowRB m else decide (m.count=0)&&(decide ((m.spots.length:Int)=0)&&decide ((m.old.length:Int)=0))
theorem follP_eq {m:Msg}(hk:1≤m.kind∧m.kind≤6)(hs:m.spots.length≤8)(ho:m.old.length≤8):follP m=follN m:=by
 obtain⟨k,r,n,c,t,s,o⟩:=m
 dsimp only at hk hs ho
 unfold follP follN rowQB rowRB addQB addRB delB relQB relRB cntRB lstRB plainB
 dsimp only
 generalize s.length=a at*
 generalize o.length=b at*
 have e0:(decide ((a:Int)=0))=decide (a=0):=by rw[decide_eq_decide];omega
 have e1:(decide ((b:Int)=0))=decide (b=0):=by rw[decide_eq_decide];omega
 have hk2:k=1∨k=2∨k=3∨k=4∨k=5∨k=6:=by omega
 rw[Bool.eq_iff_iff]
 by_cases hc:c=0
 ·subst hc
  rcases hk2 with rfl|rfl|rfl|rfl|rfl|rfl<;>cases r<;>simp<;>omega
 ·cases r
  ·simp[hc]
  ·simp[hc]
theorem Rows.keep {w w':World} {b:Nat}(h:Rows w b)(hb:Below w.heap.size w w'):Rows w' b:=by
 obtain⟨D,hO,hm,hD⟩:=h
 exact⟨D,hO.kept (gb_below (r:=none) hb) (by simp),hm,hD⟩
theorem follows_any(m:Msg)(v:MsgV)(w:World)(h:MsgIs w v m)(hk:1≤m.kind∧m.kind≤6):Calls Tryz.prog 118 #[.agg (Km m v)] w fun e w'=>e= .returned (.bool (follP m))∧Below w.heap.size w w':=by
 have hb:=ball w (.cells (Km m v) 30)
 have BX:=Box.new w (Km m v) 30
 obtain⟨s1,s2⟩:=spots_small h
 unfold maxLen at s1 s2
 have cQ:=fun W k1=>rowQ_any m v W k1
 have cR:=fun W k1=>rowR_any m v W k1
 have ef:=eQ m.kind
 have eg:=eR m.kind
 have hlk:=fun W b (hr:Rows W b)=>hr.look hk.1 hk.2
 have hR:follP m=if m.reply=false then decide (m.code=0)&&rowQB m else if m.code=0 then rowRB m else decide (m.count=0)&&(decide ((m.spots.length:Int)=0)&&decide ((m.old.length:Int)=0)):=rfl
 rw[h.spots.len,h.old.len]at hR
 generalize follP m=R at*
 generalize rowQ m.kind=f at*
 generalize rowR m.kind=g at*
 generalize rowQB m=Q1 at*
 generalize rowRB m=Q2 at*
 obtain⟨k0,r0,n0,c0,t0,s0,o0⟩:=m
 dsimp only at*
 refine zh7 ?_ hb BX h cQ cR hlk hR;clear hb BX h cQ cR hlk hR;intro hb BX h cQ cR hlk hR
 go_enter Tryz.func118,Tryz.ntmps118
 go_upto_region 1 with fail
 generalize w.alloc (.cells #[.int .i64 k0,.bool r0,.int .i64 n0,.int .i64 c0,.int .i64 t0,.slice v.sA v.sn v.sc,.slice v.oA v.on v.oc] 30)=w1 at*
 go_cut[3] (fun s3 wx=>∃B,s3= .pointer (some ⟨B,0,none⟩)∧Hid (Blk wx B #[.func (.func f) #[] #[],.func (.func g) #[] #[]] 213)∧Hid (Below w1.heap.size w1 wx))
 case first=>
  have hkk:=(BX.at_ 0)
  have HX:Hid (∀w',Below w1.heap.size w1 w'→Below w1.heap.size w1 w'∧w'.cell? ⟨w.heap.size,0,none⟩=some (.int .i64 k0)):=fun w' hb'=>⟨hb',(BX.keep hb').at_ 0⟩
  clear hkk
  go_region_held3(fun w'=>Below w1.heap.size w1 w'∧w'.cell? ⟨w.heap.size,0,none⟩=some (.int .i64 k0))
   (first
    |exact HX.out _ ((Below.refl _ _).drew)
    |exact HX.out _ (by assumption)
    |exact HX.out _ (bthen ((Below.refl _ _).drew) (by assumption))
    |exact HX.out _ (bthen (And.left (by assumption)) (by assumption))
    |exact HX.out _ (ballN (And.left (by assumption)) _)
    |exact HX.out _ (ballN (by assumption) _)
    |exact HX.out _ (by refine Below.setCell (Below.setCell (by assumption) ?_ _) ?_ _<;>exact Nat.le_refl _)
    |(trace_state;fail))
   (first
    |(go_at_call 183;refine(rows_any _).mono ?_;rintro e w2 ⟨b,rfl,hr,hbb,hB2⟩;have hB3:Below w1.heap.size w1 w2:=(by first|exact bthen ((Below.refl _ _).drew) hB2|exact bthen (ballN ((Below.refl _ _).drew) _) hB2);have hl1:=hlk.out w2 b hr;have hl2:=hlk.out _ b (hr.keep (ball w2 (.cells #[.nilFunc,.nilFunc] 213)));try have hk0:Blk w2 w1.heap.size #[.nilFunc,.nilFunc] 213:=(Blk.new w1.drew #[.nilFunc,.nilFunc] 213).keep hB2;try have kc0:=hk0.cell;try have kf0:=hk0.free))
  all_goals
   go_wp2_with fail
   go_meet
   first
    |exact⟨w2.heap.size,rfl,Blk.new w2 _ _,ballN hB3 _⟩
    |exact⟨w1.heap.size,rfl,by show Blk _ _ _ _;have:=(hk0.set 0 (.func (.func f) #[] #[])).set 1 (.func (.func g) #[] #[]);simpa using this,by show Below _ _ _;refine Below.setCell (Below.setCell hB3 ?_ _) ?_ _<;>exact Nat.le_refl _⟩
 case rest=>
  obtain⟨B,rfl,BR,HB⟩:=hcut
  have hbw:=Zh (bthen hb.out HB.out)
  have kx:=(BX.keep HB.out).at_
  have kr0:=BR.cell 0
  have kr1:=BR.cell 1
  have kr0':wc.cell? ⟨B,0,none⟩=some (.func (.func f) #[] #[]):=kr0
  have kr1':wc.cell? ⟨B,1,none⟩=some (.func (.func g) #[] #[]):=kr1
  have cQ2:=cQ.out wc (h.keep hbw.out)
  have cR2:=cR.out wc (h.keep hbw.out)
  clear kr0 kr1
  replace cQ2:=Zh cQ2
  replace cR2:=Zh cR2
  cases r0 with
  |false=>
   have hr2:=hR.out
   rw[if_pos rfl]at hr2
   by_cases hc:c0=0
   ·have hr3:Hid (R=Q1):=by show _= _;rw[hr2];simp[hc]
    have d1:(c0==0)=true:=by simpa using hc
    clear hr2
    replace hc:=Zh hc
    go_wp2_with fail
    refine cQ2.mono ?_
    rintro e w3 ⟨rfl,p_⟩
    have hB:=Zh (bthen hbw.out p_)
    clear p_ kx kr0' kr1'
    go_wp2
    go_ret
    exact⟨by rw[hr3.out];rfl,hB.out⟩
   ·have hr3:Hid (R=false):=by show _= _;rw[hr2];simp[hc]
    have d1:(c0==0)=false:=by simpa using hc
    clear hr2
    replace hc:=Zh hc
    go_wp2
    go_ret
    exact⟨by rw[hr3.out];rfl,hbw.out⟩
  |true=>
   have hr2:=hR.out
   rw[if_neg (by simp)]at hr2
   by_cases hc:c0=0
   ·rw[if_pos hc]at hr2
    have d1:(c0==0)=true:=by simpa using hc
    replace hc:=Zh hc
    replace hr2:=Zh hr2
    go_wp2_with fail
    refine cR2.mono ?_
    rintro e w3 ⟨rfl,p_⟩
    have hB:=Zh (bthen hbw.out p_)
    clear p_ kx kr0' kr1'
    go_wp2
    go_ret
    exact⟨by rw[hr2.out];rfl,hB.out⟩
   ·rw[if_neg hc]at hr2
    have d1:(c0==0)=false:=by simpa using hc
    replace hc:=Zh hc
    replace hr2:=Zh hr2
    go_wp2
    all_goals
     go_ret
     exact⟨by rw[hr2.out];first|(simp[*];done)|(simp[*];omega)|(simp[*,intB];done)|(simp[*,intB];omega),hbw.out⟩
def follI(k:Int)(r:Bool)(c t a b:Int):Bool:=
 if r=false∧c≠0 then false
 else if c≠0 then decide (t=0)&&(decide (a=0)&&decide (b=0))
 else if k=1 then decide (b=0)&&(decide (1≤t)&&(decide (t≤8)&&(decide (t=a)||(!r&&decide (t<a)))))
 else if k=2 then decide (a=0)&&(decide (1≤b)&&decide (t=b))
 else if k=3 then decide (1≤b)&&(decide (t=b)&&(decide (a=b)||(!r&&decide (b<a))))
 else if k=4 then decide (a=0)&&(decide (b=0)&&(r||decide (t=0)))
 else if k=5 then decide (b=0)&&((r||decide (t=0))&&decide (a=min 8 t))
 else decide (a=0)&&(decide (b=0)&&decide (t=0))
theorem follI_eq(m:Msg):follN m=follI m.kind m.reply m.code m.count m.spots.length m.old.length:=by
 have e0:∀n:Nat,decide (n=0)=decide ((n:Int)=0):=fun n=>by rw[decide_eq_decide];omega
 have e1:∀n:Nat,decide (1≤n)=decide (1≤(n:Int)):=fun n=>by rw[decide_eq_decide];omega
 have e2:∀n k:Nat,decide (n=k)=decide ((n:Int)=k):=fun n k=>by rw[decide_eq_decide];omega
 have e3:∀n k:Nat,decide (n<k)=decide ((n:Int)<k):=fun n k=>by rw[decide_eq_decide];omega
 unfold follN follI
 simp only[e1,e3]
 rw[e0 m.spots.length,e0 m.old.length,e2 m.spots.length m.old.length]
theorem rfollows_any(m:Msg)(v:MsgV)(w:World)(h:MsgIs w v m):Calls Tryz.prog 206 #[.agg (Km m v)] w fun e w'=>e= .returned (.bool (follN m))∧Below w.heap.size w w':=by
 have hb:=ball w (.cells (Km m v) 30)
 have BX:=Box.new w (Km m v) 30
 obtain⟨s1,s2⟩:=spots_small h
 unfold maxLen at s1 s2
 rw[follI_eq,h.spots.len,h.old.len]
 clear h
 obtain⟨k0,r0,n0,c0,t0,s0,o0⟩:=m
 dsimp only at*
 generalize hR:follI k0 r0 c0 t0 v.sn v.on=R at*
 unfold follI at hR
 cases r0 with
 |false=>
  by_cases hc:c0=0
  case neg=>
   have d1:(c0 !=0)=true:=by rw[bne_iff_ne];exact hc
   simp[hc]at hR
   refine zh3 ?_ hc hb BX;clear hc hb BX;intro hc hb BX
   go_enter Tryz.func206,Tryz.ntmps206
   go_upto_region 1 with fail
   generalize w.alloc (.cells #[.int .i64 k0,.bool false,.int .i64 n0,.int .i64 c0,.int .i64 t0,.slice v.sA v.sn v.sc,.slice v.oA v.on v.oc] 30)=w1 at*
   have gx:=BX.grown
   have kx:=BX.at_
   go_wp2
   go_ret
   exact⟨by rw[←hR];rfl,hb.out⟩
  have d1:(c0 !=0)=false:=by rw[bne_eq_false_iff_eq];exact hc
  simp only[hc,ne_eq,not_true_eq_false,and_false,if_false]at hR
  refine zh3 ?_ hc hb BX;clear hc hb BX;intro hc hb BX
  go_enter Tryz.func206,Tryz.ntmps206
  go_upto_region 1 with fail
  generalize w.alloc (.cells #[.int .i64 k0,.bool false,.int .i64 n0,.int .i64 c0,.int .i64 t0,.slice v.sA v.sn v.sc,.slice v.oA v.on v.oc] 30)=w1 at*
  have gx:=BX.grown
  have kx:=BX.at_
  go_upto_region 3 with fail
  refine wp_region_quiet_below (by kernel_rfl) (by kernel_rfl) ?_
  repeat(go_big_quiet_step(fail))
  refine wpQuiet_nil ?_
  rintro _ ⟨⟨dq,osq⟩,rfl⟩
  have p_:=below_regrown w1 dq osq
  replace hb:=Zh (hb.keep p_)
  replace BX:=Zh (BX.keep p_)
  generalize grow (redrawn w1 dq) osq=w2 at*
  clear p_
  clear kx gx
  have kx:=BX.at_
  by_cases k1:k0=1
  ·rw[if_pos k1]at hR
   have d2:(k0==1)=true:=by simpa using k1
   replace hR:=Zh hR
   replace k1:=Zh k1
   go_wp2
   all_goals
    go_ret
    exact⟨by rw[←hR.out];first|(simp[*];done)|(simp[*];omega)|(simp[*,intB];done)|(simp[*,intB];omega),hb.out⟩
  rw[if_neg k1]at hR
  have e1:(k0==1)=false:=by simpa using k1
  clear k1
  by_cases k2:k0=2
  ·rw[if_pos k2]at hR
   have d2:(k0==2)=true:=by simpa using k2
   replace hR:=Zh hR
   replace k2:=Zh k2
   go_wp2
   all_goals
    go_ret
    exact⟨by rw[←hR.out];first|(simp[*];done)|(simp[*];omega)|(simp[*,intB];done)|(simp[*,intB];omega),hb.out⟩
  rw[if_neg k2]at hR
  have e2:(k0==2)=false:=by simpa using k2
  clear k2
  by_cases k3:k0=3
  ·rw[if_pos k3]at hR
   have d2:(k0==3)=true:=by simpa using k3
   replace hR:=Zh hR
   replace k3:=Zh k3
   go_wp2
   all_goals
    go_ret
    exact⟨by rw[←hR.out];first|(simp[*];done)|(simp[*];omega)|(simp[*,intB];done)|(simp[*,intB];omega),hb.out⟩
  rw[if_neg k3]at hR
  have e3:(k0==3)=false:=by simpa using k3
  clear k3
  by_cases k4:k0=4
  ·rw[if_pos k4]at hR
   have d2:(k0==4)=true:=by simpa using k4
   replace hR:=Zh hR
   replace k4:=Zh k4
   go_wp2
   all_goals
    go_ret
    exact⟨by rw[←hR.out];first|(simp[*];done)|(simp[*];omega)|(simp[*,intB];done)|(simp[*,intB];omega),hb.out⟩
  rw[if_neg k4]at hR
  have e4:(k0==4)=false:=by simpa using k4
  clear k4
  by_cases k5:k0=5
  ·rw[if_pos k5]at hR
   have d2:(k0==5)=true:=by simpa using k5
   replace hR:=Zh hR
   replace k5:=Zh k5
   go_wp2
   all_goals
    go_ret
    exact⟨by rw[←hR.out];first|(simp[*];done)|(simp[*];omega)|(simp[*,intB];done)|(simp[*,intB];omega),hb.out⟩
  rw[if_neg k5]at hR
  have e5:(k0==5)=false:=by simpa using k5
  clear k5
  replace hR:=Zh hR
  go_wp2
  all_goals
   go_ret
   exact⟨by rw[←hR.out];first|(simp[*];done)|(simp[*];omega)|(simp[*,intB];done)|(simp[*,intB];omega),hb.out⟩
 |true=>
  by_cases hc:c0=0
  case neg=>
   have d1:(c0 !=0)=true:=by rw[bne_iff_ne];exact hc
   simp[hc]at hR
   refine zh3 ?_ hc hb BX;clear hc hb BX;intro hc hb BX
   go_enter Tryz.func206,Tryz.ntmps206
   go_upto_region 1 with fail
   generalize w.alloc (.cells #[.int .i64 k0,.bool true,.int .i64 n0,.int .i64 c0,.int .i64 t0,.slice v.sA v.sn v.sc,.slice v.oA v.on v.oc] 30)=w1 at*
   have gx:=BX.grown
   have kx:=BX.at_
   go_upto_region 3 with fail
   refine wp_region_quiet_below (by kernel_rfl) (by kernel_rfl) ?_
   repeat(go_big_quiet_step(fail))
   refine wpQuiet_nil ?_
   rintro _ ⟨⟨dq,osq⟩,rfl⟩
   have p_:=below_regrown w1 dq osq
   replace hb:=Zh (hb.keep p_)
   replace BX:=Zh (BX.keep p_)
   generalize grow (redrawn w1 dq) osq=w2 at*
   clear p_
   clear kx gx
   have kx:=BX.at_
   replace hR:=Zh hR
   go_wp2
   all_goals
    go_ret
    exact⟨by rw[←hR.out];first|(simp[*];done)|(simp[*];omega)|(simp[*,intB];done)|(simp[*,intB];omega),hb.out⟩
  have d1:(c0 !=0)=false:=by rw[bne_eq_false_iff_eq];exact hc
  simp only[hc,ne_eq,not_true_eq_false,and_false,if_false]at hR
  refine zh3 ?_ hc hb BX;clear hc hb BX;intro hc hb BX
  go_enter Tryz.func206,Tryz.ntmps206
  go_upto_region 1 with fail
  generalize w.alloc (.cells #[.int .i64 k0,.bool true,.int .i64 n0,.int .i64 c0,.int .i64 t0,.slice v.sA v.sn v.sc,.slice v.oA v.on v.oc] 30)=w1 at*
  have gx:=BX.grown
  have kx:=BX.at_
  go_upto_region 3 with fail
  refine wp_region_quiet_below (by kernel_rfl) (by kernel_rfl) ?_
  repeat(go_big_quiet_step(fail))
  refine wpQuiet_nil ?_
  rintro _ ⟨⟨dq,osq⟩,rfl⟩
  have p_:=below_regrown w1 dq osq
  replace hb:=Zh (hb.keep p_)
  replace BX:=Zh (BX.keep p_)
  generalize grow (redrawn w1 dq) osq=w2 at*
  clear p_
  clear kx gx
  have kx:=BX.at_
  by_cases k1:k0=1
  ·rw[if_pos k1]at hR
   have d2:(k0==1)=true:=by simpa using k1
   replace hR:=Zh hR
   replace k1:=Zh k1
   go_wp2
   all_goals
    go_ret
    exact⟨by rw[←hR.out];first|(simp[*];done)|(simp[*];omega)|(simp[*,intB];done)|(simp[*,intB];omega),hb.out⟩
  rw[if_neg k1]at hR
  have e1:(k0==1)=false:=by simpa using k1
  clear k1
  by_cases k2:k0=2
  ·rw[if_pos k2]at hR
   have d2:(k0==2)=true:=by simpa using k2
   replace hR:=Zh hR
   replace k2:=Zh k2
   go_wp2
   all_goals
    go_ret
    exact⟨by rw[←hR.out];first|(simp[*];done)|(simp[*];omega)|(simp[*,intB];done)|(simp[*,intB];omega),hb.out⟩
  rw[if_neg k2]at hR
  have e2:(k0==2)=false:=by simpa using k2
  clear k2
  by_cases k3:k0=3
  ·rw[if_pos k3]at hR
   have d2:(k0==3)=true:=by simpa using k3
   replace hR:=Zh hR
   replace k3:=Zh k3
   go_wp2
   all_goals
    go_ret
    exact⟨by rw[←hR.out];first|(simp[*];done)|(simp[*];omega)|(simp[*,intB];done)|(simp[*,intB];omega),hb.out⟩
  rw[if_neg k3]at hR
  have e3:(k0==3)=false:=by simpa using k3
  clear k3
  by_cases k4:k0=4
  ·rw[if_pos k4]at hR
   have d2:(k0==4)=true:=by simpa using k4
   replace hR:=Zh hR
   replace k4:=Zh k4
   go_wp2
   all_goals
    go_ret
    exact⟨by rw[←hR.out];first|(simp[*];done)|(simp[*];omega)|(simp[*,intB];done)|(simp[*,intB];omega),hb.out⟩
  rw[if_neg k4]at hR
  have e4:(k0==4)=false:=by simpa using k4
  clear k4
  by_cases k5:k0=5
  ·rw[if_pos k5]at hR
   have d2:(k0==5)=true:=by simpa using k5
   replace hR:=Zh hR
   replace k5:=Zh k5
   go_wp2
   all_goals
    go_ret
    exact⟨by rw[←hR.out];first|(simp[*];done)|(simp[*];omega)|(simp[*,intB];done)|(simp[*,intB];omega),hb.out⟩
  rw[if_neg k5]at hR
  have e5:(k0==5)=false:=by simpa using k5
  clear k5
  replace hR:=Zh hR
  go_wp2
  all_goals
   go_ret
   exact⟨by rw[←hR.out];first|(simp[*];done)|(simp[*];omega)|(simp[*,intB];done)|(simp[*,intB];omega),hb.out⟩
theorem chkM_any(m:Msg)(v:MsgV)(w:World)(h:MsgIs w v m):Calls Tryz.prog 47 #[.agg (Km m v)] w fun e w'=>e= .returned (.int .i64 (chkM m))∧Below w.heap.size w w':=by
 obtain⟨k0,r0,n0,c0,t0,s0,o0⟩:=m
 dsimp only
 have hb:=ball w (.cells #[.int .i64 k0,.bool r0,.int .i64 n0,.int .i64 c0,.int .i64 t0,.slice v.sA v.sn v.sc,.slice v.oA v.on v.oc] 30)
 have BX:=Box.new w #[.int .i64 k0,.bool r0,.int .i64 n0,.int .i64 c0,.int .i64 t0,.slice v.sA v.sn v.sc,.slice v.oA v.on v.oc] 30
 obtain⟨s1,s2⟩:=spots_small h
 unfold maxLen at s1 s2
 have kx:=BX.at_
 have cP:=fun A n c l W k=>places_any A n c l W k
 have cF:Hid (∀W (k:MsgIs W v ⟨k0,r0,n0,c0,t0,s0,o0⟩) (hk:1≤k0∧k0≤6) (hs:v.sn≤8) (ho:v.on≤8),Calls Tryz.prog 118 #[.agg #[.int .i64 k0,.bool r0,.int .i64 n0,.int .i64 c0,.int .i64 t0,.slice v.sA v.sn v.sc,.slice v.oA v.on v.oc]] W fun e w'=>e= .returned (.bool (follN ⟨k0,r0,n0,c0,t0,s0,o0⟩))∧Below W.heap.size W w'):=fun W k hk hs ho=>by
  have:=follows_any ⟨k0,r0,n0,c0,t0,s0,o0⟩ v W k hk
  rwa[follP_eq hk (by show s0.length≤8;rw[h.spots.len];exact hs) (by show o0.length≤8;rw[h.old.len];exact ho)]at this
 have hR:chkM ⟨k0,r0,n0,c0,t0,s0,o0⟩=if k0<1∨6<k0 then 1 else if n0<0∨255<n0∨c0<0∨3<c0∨t0<0∨512<t0 then 2 else if 8<s0.length∨8<o0.length then 8 else if placesN s0≠0 then placesN s0 else if placesN o0≠0 then placesN o0 else if follN ⟨k0,r0,n0,c0,t0,s0,o0⟩=false then 11 else 0:=rfl
 rw[show s0.length=v.sn from h.spots.len,show o0.length=v.on from h.old.len]at hR
 generalize chkM ⟨k0,r0,n0,c0,t0,s0,o0⟩=R at*
 generalize follN ⟨k0,r0,n0,c0,t0,s0,o0⟩=F at*
 refine zh3 ?_ hb BX h;clear hb BX h;intro hb BX h
 go_enter Tryz.func47,Tryz.ntmps47
 go_upto_region 1 with fail
 generalize w.alloc (.cells #[.int .i64 k0,.bool r0,.int .i64 n0,.int .i64 c0,.int .i64 t0,.slice v.sA v.sn v.sc,.slice v.oA v.on v.oc] 30)=w1 at*
 by_cases ck0:k0<1
 ·have hRe:Hid (R=1):=by show _= _;rw[hR,if_pos (by omega)]
  clear hR
  go_wp2
  go_ret
  exact⟨by rw[hRe.out];rfl,hb.out⟩
 have nck0:1≤k0:=by omega
 clear ck0
 by_cases ck1:6<k0
 ·have hRe:Hid (R=1):=by show _= _;rw[hR,if_pos (by omega)]
  clear hR
  go_wp2
  go_ret
  exact⟨by rw[hRe.out];rfl,hb.out⟩
 have nck1:k0≤6:=by omega
 clear ck1
 rw[if_neg (by omega)]at hR
 by_cases cn0:n0<0
 ·have hRe:Hid (R=2):=by show _= _;rw[hR,if_pos (by omega)]
  clear hR
  go_wp2
  go_ret
  exact⟨by rw[hRe.out];rfl,hb.out⟩
 have ncn0:0≤n0:=by omega
 clear cn0
 by_cases cn1:255<n0
 ·have hRe:Hid (R=2):=by show _= _;rw[hR,if_pos (by omega)]
  clear hR
  go_wp2
  go_ret
  exact⟨by rw[hRe.out];rfl,hb.out⟩
 have ncn1:n0≤255:=by omega
 clear cn1
 by_cases cn2:c0<0
 ·have hRe:Hid (R=2):=by show _= _;rw[hR,if_pos (by omega)]
  clear hR
  go_wp2
  go_ret
  exact⟨by rw[hRe.out];rfl,hb.out⟩
 have ncn2:0≤c0:=by omega
 clear cn2
 by_cases cn3:3<c0
 ·have hRe:Hid (R=2):=by show _= _;rw[hR,if_pos (by omega)]
  clear hR
  go_wp2
  go_ret
  exact⟨by rw[hRe.out];rfl,hb.out⟩
 have ncn3:c0≤3:=by omega
 clear cn3
 by_cases cn4:t0<0
 ·have hRe:Hid (R=2):=by show _= _;rw[hR,if_pos (by omega)]
  clear hR
  go_wp2
  go_ret
  exact⟨by rw[hRe.out];rfl,hb.out⟩
 have ncn4:0≤t0:=by omega
 clear cn4
 by_cases cn5:512<t0
 ·have hRe:Hid (R=2):=by show _= _;rw[hR,if_pos (by omega)]
  clear hR
  go_wp2
  go_ret
  exact⟨by rw[hRe.out];rfl,hb.out⟩
 have ncn5:t0≤512:=by omega
 clear cn5
 rw[if_neg (by omega)]at hR
 by_cases cs0:8<v.sn
 ·have hRe:Hid (R=8):=by show _= _;rw[hR,if_pos (by omega)]
  clear hR
  go_wp2
  go_ret
  exact⟨by rw[hRe.out];rfl,hb.out⟩
 have ncs0:v.sn≤8:=by omega
 clear cs0
 by_cases cs1:8<v.on
 ·have hRe:Hid (R=8):=by show _= _;rw[hR,if_pos (by omega)]
  clear hR
  go_wp2
  go_ret
  exact⟨by rw[hRe.out];rfl,hb.out⟩
 have ncs1:v.on≤8:=by omega
 clear cs1
 rw[if_neg (by omega)]at hR
 have cP1:=cP v.sA v.sn v.sc s0 w1 (h.keep hb.out).spots
 generalize placesN s0=P1 at*
 replace cP1:=Zh cP1
 go_wp2_with fail
 refine cP1.mono ?_
 rintro e w2 ⟨rfl,p_⟩
 clear kx cP1
 replace hb:=Zh (hb.keep p_)
 replace BX:=Zh (BX.keep p_)
 clear p_
 have kx:=BX.at_
 by_cases p1:P1=0
 case neg=>
  have d1:(P1 !=0)=true:=by rw[bne_iff_ne];exact p1
  rw[if_pos p1]at hR
  replace p1:=Zh p1
  replace hR:=Zh hR
  go_wp2
  go_ret
  exact⟨by rw[hR.out];rfl,hb.out⟩
 rw[if_neg (fun k=>k p1)]at hR
 subst p1
 have cP2:=cP v.oA v.on v.oc o0 w2 (h.keep hb.out).old
 generalize placesN o0=P2 at*
 replace cP2:=Zh cP2
 go_wp2_with fail
 refine cP2.mono ?_
 rintro e w3 ⟨rfl,p_⟩
 clear kx cP2
 replace hb:=Zh (hb.keep p_)
 replace BX:=Zh (BX.keep p_)
 clear p_
 have kx:=BX.at_
 by_cases p2:P2=0
 case neg=>
  have d2:(P2 !=0)=true:=by rw[bne_iff_ne];exact p2
  rw[if_pos p2]at hR
  replace p2:=Zh p2
  replace hR:=Zh hR
  go_wp2
  go_ret
  exact⟨by rw[hR.out];rfl,hb.out⟩
 rw[if_neg (fun k=>k p2)]at hR
 subst p2
 have cF2:=cF.out w3 (h.keep hb.out) ⟨nck0,nck1⟩ ncs0 ncs1
 replace cF2:=Zh cF2
 go_wp2_with fail
 refine cF2.mono ?_
 rintro e w4 ⟨rfl,p_⟩
 clear kx cF2
 replace hb:=Zh (hb.keep p_)
 clear p_
 cases F with
 |true=>
  rw[if_neg (by simp)]at hR
  replace hR:=Zh hR
  go_wp2
  go_ret
  exact⟨by rw[hR.out];rfl,hb.out⟩
 |false=>
  rw[if_pos rfl]at hR
  replace hR:=Zh hR
  go_wp2
  go_ret
  exact⟨by rw[hR.out];rfl,hb.out⟩
theorem rchkM_any(m:Msg)(v:MsgV)(w:World)(h:MsgIs w v m):Calls Tryz.prog 156 #[.agg (Km m v)] w fun e w'=>e= .returned (.int .i64 (chkM m))∧Below w.heap.size w w':=by
 obtain⟨k0,r0,n0,c0,t0,s0,o0⟩:=m
 dsimp only
 have hb:=ball w (.cells #[.int .i64 k0,.bool r0,.int .i64 n0,.int .i64 c0,.int .i64 t0,.slice v.sA v.sn v.sc,.slice v.oA v.on v.oc] 30)
 have BX:=Box.new w #[.int .i64 k0,.bool r0,.int .i64 n0,.int .i64 c0,.int .i64 t0,.slice v.sA v.sn v.sc,.slice v.oA v.on v.oc] 30
 obtain⟨s1,s2⟩:=spots_small h
 unfold maxLen at s1 s2
 have kx:=BX.at_
 have cP:=fun A n c l W k=>rplaces_any A n c l W k
 have cF:Hid (∀W (k:MsgIs W v ⟨k0,r0,n0,c0,t0,s0,o0⟩) (hk:1≤k0∧k0≤6) (hs:v.sn≤8) (ho:v.on≤8),Calls Tryz.prog 206 #[.agg #[.int .i64 k0,.bool r0,.int .i64 n0,.int .i64 c0,.int .i64 t0,.slice v.sA v.sn v.sc,.slice v.oA v.on v.oc]] W fun e w'=>e= .returned (.bool (follN ⟨k0,r0,n0,c0,t0,s0,o0⟩))∧Below W.heap.size W w'):=fun W k hk hs ho=>by
  have:=rfollows_any ⟨k0,r0,n0,c0,t0,s0,o0⟩ v W k
  exact this
 have hR:chkM ⟨k0,r0,n0,c0,t0,s0,o0⟩=if k0<1∨6<k0 then 1 else if n0<0∨255<n0∨c0<0∨3<c0∨t0<0∨512<t0 then 2 else if 8<s0.length∨8<o0.length then 8 else if placesN s0≠0 then placesN s0 else if placesN o0≠0 then placesN o0 else if follN ⟨k0,r0,n0,c0,t0,s0,o0⟩=false then 11 else 0:=rfl
 rw[show s0.length=v.sn from h.spots.len,show o0.length=v.on from h.old.len]at hR
 generalize chkM ⟨k0,r0,n0,c0,t0,s0,o0⟩=R at*
 generalize follN ⟨k0,r0,n0,c0,t0,s0,o0⟩=F at*
 refine zh3 ?_ hb BX h;clear hb BX h;intro hb BX h
 go_enter Tryz.func156,Tryz.ntmps156
 go_upto_region 1 with fail
 generalize w.alloc (.cells #[.int .i64 k0,.bool r0,.int .i64 n0,.int .i64 c0,.int .i64 t0,.slice v.sA v.sn v.sc,.slice v.oA v.on v.oc] 30)=w1 at*
 by_cases ck0:k0<1
 ·have hRe:Hid (R=1):=by show _= _;rw[hR,if_pos (by omega)]
  clear hR
  go_wp2
  go_ret
  exact⟨by rw[hRe.out];rfl,hb.out⟩
 have nck0:1≤k0:=by omega
 clear ck0
 by_cases ck1:6<k0
 ·have hRe:Hid (R=1):=by show _= _;rw[hR,if_pos (by omega)]
  clear hR
  go_wp2
  go_ret
  exact⟨by rw[hRe.out];rfl,hb.out⟩
 have nck1:k0≤6:=by omega
 clear ck1
 rw[if_neg (by omega)]at hR
 by_cases cn0:n0<0
 ·have hRe:Hid (R=2):=by show _= _;rw[hR,if_pos (by omega)]
  clear hR
  go_wp2
  go_ret
  exact⟨by rw[hRe.out];rfl,hb.out⟩
 have ncn0:0≤n0:=by omega
 clear cn0
 by_cases cn1:255<n0
 ·have hRe:Hid (R=2):=by show _= _;rw[hR,if_pos (by omega)]
  clear hR
  go_wp2
  go_ret
  exact⟨by rw[hRe.out];rfl,hb.out⟩
 have ncn1:n0≤255:=by omega
 clear cn1
 by_cases cn2:c0<0
 ·have hRe:Hid (R=2):=by show _= _;rw[hR,if_pos (by omega)]
  clear hR
  go_wp2
  go_ret
  exact⟨by rw[hRe.out];rfl,hb.out⟩
 have ncn2:0≤c0:=by omega
 clear cn2
 by_cases cn3:3<c0
 ·have hRe:Hid (R=2):=by show _= _;rw[hR,if_pos (by omega)]
  clear hR
  go_wp2
  go_ret
  exact⟨by rw[hRe.out];rfl,hb.out⟩
 have ncn3:c0≤3:=by omega
 clear cn3
 by_cases cn4:t0<0
 ·have hRe:Hid (R=2):=by show _= _;rw[hR,if_pos (by omega)]
  clear hR
  go_wp2
  go_ret
  exact⟨by rw[hRe.out];rfl,hb.out⟩
 have ncn4:0≤t0:=by omega
 clear cn4
 by_cases cn5:512<t0
 ·have hRe:Hid (R=2):=by show _= _;rw[hR,if_pos (by omega)]
  clear hR
  go_wp2
  go_ret
  exact⟨by rw[hRe.out];rfl,hb.out⟩
 have ncn5:t0≤512:=by omega
 clear cn5
 rw[if_neg (by omega)]at hR
 by_cases cs0:8<v.sn
 ·have hRe:Hid (R=8):=by show _= _;rw[hR,if_pos (by omega)]
  clear hR
  go_wp2
  go_ret
  exact⟨by rw[hRe.out];rfl,hb.out⟩
 have ncs0:v.sn≤8:=by omega
 clear cs0
 by_cases cs1:8<v.on
 ·have hRe:Hid (R=8):=by show _= _;rw[hR,if_pos (by omega)]
  clear hR
  go_wp2
  go_ret
  exact⟨by rw[hRe.out];rfl,hb.out⟩
 have ncs1:v.on≤8:=by omega
 clear cs1
 rw[if_neg (by omega)]at hR
 have cP1:=cP v.sA v.sn v.sc s0 w1 (h.keep hb.out).spots
 generalize placesN s0=P1 at*
 replace cP1:=Zh cP1
 go_wp2_with fail
 refine cP1.mono ?_
 rintro e w2 ⟨rfl,p_⟩
 clear kx cP1
 replace hb:=Zh (hb.keep p_)
 replace BX:=Zh (BX.keep p_)
 clear p_
 have kx:=BX.at_
 by_cases p1:P1=0
 case neg=>
  have d1:(P1 !=0)=true:=by rw[bne_iff_ne];exact p1
  rw[if_pos p1]at hR
  replace p1:=Zh p1
  replace hR:=Zh hR
  go_wp2
  go_ret
  exact⟨by rw[hR.out];rfl,hb.out⟩
 rw[if_neg (fun k=>k p1)]at hR
 subst p1
 have cP2:=cP v.oA v.on v.oc o0 w2 (h.keep hb.out).old
 generalize placesN o0=P2 at*
 replace cP2:=Zh cP2
 go_wp2_with fail
 refine cP2.mono ?_
 rintro e w3 ⟨rfl,p_⟩
 clear kx cP2
 replace hb:=Zh (hb.keep p_)
 replace BX:=Zh (BX.keep p_)
 clear p_
 have kx:=BX.at_
 by_cases p2:P2=0
 case neg=>
  have d2:(P2 !=0)=true:=by rw[bne_iff_ne];exact p2
  rw[if_pos p2]at hR
  replace p2:=Zh p2
  replace hR:=Zh hR
  go_wp2
  go_ret
  exact⟨by rw[hR.out];rfl,hb.out⟩
 rw[if_neg (fun k=>k p2)]at hR
 subst p2
 have cF2:=cF.out w3 (h.keep hb.out) ⟨nck0,nck1⟩ ncs0 ncs1
 replace cF2:=Zh cF2
 go_wp2_with fail
 refine cF2.mono ?_
 rintro e w4 ⟨rfl,p_⟩
 clear kx cF2
 replace hb:=Zh (hb.keep p_)
 clear p_
 cases F with
 |true=>
  rw[if_neg (by simp)]at hR
  replace hR:=Zh hR
  go_wp2
  go_ret
  exact⟨by rw[hR.out];rfl,hb.out⟩
 |false=>
  rw[if_pos rfl]at hR
  replace hR:=Zh hR
  go_wp2
  go_ret
  exact⟨by rw[hR.out];rfl,hb.out⟩
end Tx
end Go.Proofs.YtfamifgchgolpaaGreat
