/- Chapter 26: Clone at spots and cells; Index and Contains at spots. -/
import Derived.Test.YtfamifgchgolpaaGreatBe
import Derived.Lib.SliceRun
import Derived.Laws.Rows
import Derived.Shelf.Abstract
set_option linter.unusedVariables false
set_option linter.unusedSimpArgs false
set_option maxRecDepth 100000
set_option maxHeartbeats 4000000
namespace Go.Proofs.YtfamifgchgolpaaGreat
open Go Go.RowKit Go.Sort
namespace Tx
open Sw Mm
def ClonePost {α:Type}(enc:α→List Value)(k:Nat)(T:TypeId)(n:Nat)(xs:List α)(w:World)(e:Ending)(w':World):Prop:=∃A' c',e= .returned (.slice A' n c')∧w'.ownsRow w.heap.size T k (.slice A' n c') n (xs.flatMap enc)∧Below w.heap.size w w'
theorem fm_one {α:Type} {enc:α→List Value}(h1:∀x,∀v∈enc x,v.oneCell'=true)(xs:List α):∀u∈xs.flatMap enc,u.oneCell'=true:=fun u hu=>by
 obtain⟨x,_,h⟩:=List.mem_flatMap.1 hu
 exact h1 x u h
theorem cloneS_any(A:Option Addr)(n c:Nat)(xs:List Spt)(w:World)(hs:SptS w A n xs)(hn:n≤100000):
 Calls Tryz.prog 126 #[.slice A n c] w (ClonePost sptE 2 97 n xs w):=by
 have heq:=fun W=>Lib.run_eql_slice_nil (P:=Tryz.prog) W 28 97 A n c 0 0 Tryz.underlying28
 have hlen:=hs.len
 rcases A with _|a
 ·have h0:n=0:=by
   rcases Nat.eq_zero_or_pos n with h|h
   ·exact h
   ·obtain⟨b,off,e⟩:=hs.addr h;cases e
  subst h0
  have hc:xs= []:=List.length_eq_zero_iff.1 hlen
  subst hc
  replace hs:=Zh hs
  replace hlen:=Zh hlen
  simp only[Option.isNone_none]at heq
  go_enter Tryz.func126,Tryz.ntmps126
  go_wp2
  go_ret
  exact⟨none,0,rfl,World.ownsRow_nil _ _ _ _,Below.refl _ _⟩
 ·simp only[Option.isNone_some]at heq
  obtain⟨i0,hi,hz0,hz1,hz2⟩:=info_parts info_spt
  have hm0:=World.ownsRow_made (base:=w.heap.size) (e:=97) (size:=2) w #[] 0 (Nat.le_refl _) (by decide) rfl
  have hb0:=ball w (.cells #[] 97)
  have hsk:=hs.keep hb0
  have hnews:∀j u,(xs.flatMap sptE)[j]? =some u→(w.alloc (.cells #[] 97)).cell? (a.add j)=some u:=by
   rcases Nat.eq_zero_or_pos n with h|h
   ·have hx:xs= []:=List.length_eq_zero_iff.1 (by omega)
    subst hx
    intro j u hu;simp at hu
   ·exact hsk.news sptE_len h
  have h1:=fm_one sptE_one xs
  have hfl:(xs.flatMap sptE).length=n*2:=by rw[Sk.fm_len sptE 2 sptE_len,hlen]
  refine zh12 ?_ hi hz0 hz1 hz2 hs hlen hm0 hnews h1 hfl hb0 hsk;clear hi hz0 hz1 hz2 hs hlen hm0 hnews h1 hfl hb0 hsk;intro hi hz0 hz1 hz2 hs hlen hm0 hnews h1 hfl hb0 hsk
  go_enter Tryz.func126,Tryz.ntmps126
  go_wp2_with(at_builtin;refine wpList_append_own _ rfl _ _ _ rfl w.heap.size 97 i0 (.agg #[.int .i64 0,.int .i64 0]) 2 16 Tryz.underlying28 hi.out hz0.out hz1.out hz2.out rfl (by decide) (.slice (some ⟨w.heap.size,0,none⟩) 0 0) 0 [] rfl hm0.out a n c (xs.flatMap sptE) rfl hfl.out hnews.out h1.out ?c1 ?c2 ?c3 ?_)
  try case c1=>unfold maxLen;omega
  try case c2=>omega
  try case c3=>simp
  intro v' w1 hown hgrow _
  have hb1:=below_append hb0.out hm0.out hgrow (Nat.le_refl _)
  obtain⟨A',c',rfl⟩:=own_slice hown
  replace hown:=Zh hown
  replace hgrow:=Zh hgrow
  replace hb1:=Zh hb1
  go_wp2
  go_ret
  exact⟨A',c',by first|rfl|simp,hown.out,hb1.out⟩
theorem cloneT_any(A:Option Addr)(n c:Nat)(xs:List TCl)(w:World)(hs:TclS w A n xs)(hn:n≤100000):
 Calls Tryz.prog 77 #[.slice A n c] w (ClonePost tclE 6 85 n xs w):=by
 have heq:=fun W=>Lib.run_eql_slice_nil (P:=Tryz.prog) W 27 85 A n c 0 0 Tryz.underlying27
 have hlen:=hs.len
 rcases A with _|a
 ·have h0:n=0:=by
   rcases Nat.eq_zero_or_pos n with h|h
   ·exact h
   ·obtain⟨b,off,e⟩:=hs.addr h;cases e
  subst h0
  have hc:xs= []:=List.length_eq_zero_iff.1 hlen
  subst hc
  replace hs:=Zh hs
  replace hlen:=Zh hlen
  simp only[Option.isNone_none]at heq
  go_enter Tryz.func77,Tryz.ntmps77
  go_wp2
  go_ret
  exact⟨none,0,rfl,World.ownsRow_nil _ _ _ _,Below.refl _ _⟩
 ·simp only[Option.isNone_some]at heq
  obtain⟨i0,hi,hz0,hz1,hz2⟩:=info_parts info_tcl
  have hm0:=World.ownsRow_made (base:=w.heap.size) (e:=85) (size:=6) w #[] 0 (Nat.le_refl _) (by decide) rfl
  have hb0:=ball w (.cells #[] 85)
  have hsk:=hs.keep hb0
  have hnews:∀j u,(xs.flatMap tclE)[j]? =some u→(w.alloc (.cells #[] 85)).cell? (a.add j)=some u:=by
   rcases Nat.eq_zero_or_pos n with h|h
   ·have hx:xs= []:=List.length_eq_zero_iff.1 (by omega)
    subst hx
    intro j u hu;simp at hu
   ·exact hsk.news tclE_len h
  have h1:=fm_one tclE_one xs
  have hfl:(xs.flatMap tclE).length=n*6:=by rw[Sk.fm_len tclE 6 tclE_len,hlen]
  refine zh12 ?_ hi hz0 hz1 hz2 hs hlen hm0 hnews h1 hfl hb0 hsk;clear hi hz0 hz1 hz2 hs hlen hm0 hnews h1 hfl hb0 hsk;intro hi hz0 hz1 hz2 hs hlen hm0 hnews h1 hfl hb0 hsk
  go_enter Tryz.func77,Tryz.ntmps77
  go_wp2_with(at_builtin;refine wpList_append_own _ rfl _ _ _ rfl w.heap.size 85 i0 (.agg #[.int .i64 0,.int .i64 0,.int .i64 0,.bool false,.int .i64 0,.int .i64 0]) 6 48 Tryz.underlying27 hi.out hz0.out hz1.out hz2.out rfl (by decide) (.slice (some ⟨w.heap.size,0,none⟩) 0 0) 0 [] rfl hm0.out a n c (xs.flatMap tclE) rfl hfl.out hnews.out h1.out ?c1 ?c2 ?c3 ?_)
  try case c1=>unfold maxLen;omega
  try case c2=>omega
  try case c3=>simp
  intro v' w1 hown hgrow _
  have hb1:=below_append hb0.out hm0.out hgrow (Nat.le_refl _)
  obtain⟨A',c',rfl⟩:=own_slice hown
  replace hown:=Zh hown
  replace hgrow:=Zh hgrow
  replace hb1:=Zh hb1
  go_wp2
  go_ret
  exact⟨A',c',by first|rfl|simp,hown.out,hb1.out⟩
theorem indexS_any(A:Option Addr)(n cp:Nat)(cs:List Spt)(c:Spt)(w:World)(h:SptS w A n cs):
 Calls Tryz.prog 195 #[.slice A n cp,.agg #[.int .i64 c.slot,.int .i64 c.off]] w fun e w'=>(∃i:Int,e= .returned (.int .i64 i)∧decide (0≤i)=decide (c∈cs))∧Below w.heap.size w w':=by
 have hlen:=h.len
 have hs:=h.small
 unfold maxLen at hs
 have hbw:=ball w (.cells #[.int .i64 c.slot,.int .i64 c.off] 97)
 have BC:=Box.new w #[.int .i64 c.slot,.int .i64 c.off] 97
 have ke:=fun d W=>eql_spt c d W
 have hmem:Hid (∀d,eqS c d=decide (c=d)):=fun _=>rfl
 generalize eqS c=E at*
 have hcc:Hid (c=c):=rfl
 obtain⟨c0,c1⟩:=c
 dsimp only at*
 refine zh5 ?_ h hlen hbw BC ke;clear h hlen hbw BC ke;intro h hlen hbw BC ke
 have kb:=BC.at_
 go_enter Tryz.func195,Tryz.ntmps195
 go_wp2_with fail
 clear kb
 generalize w.alloc (.cells #[.int .i64 c0,.int .i64 c1] 97)=w1 at*
 go_loopw[5,8] (fun _ i wr=>∃k:Nat,k≤n∧i= .int .i64 k∧Hid (∀d∈cs.take k,⟨c0,c1⟩≠d)∧Hid (Below w1.heap.size w1 wr)) (fun _ i _=>n-(intOf i).toNat)
 case atStart=>exact⟨0,by omega,rfl,fun d hd=>by simp at hd,Below.refl _ _⟩
 case round=>
  obtain⟨k,hk,rfl,HP,HB⟩:=hrel
  have hB:=bthen hbw.out HB.out
  by_cases hlt:k<n
  ·obtain⟨b,off,rfl⟩:=h.addr (by omega)
   have hx:=spt_at (h.keep hB) hlt
   have hk2:=ke.out (cs.getD k default)
   have htk:=take_snoc (xs:=cs) (k:=k) (by rw[hlen.out];exact hlt)
   have hin:cs.getD k default∈cs:=ok_at (P:=(· ∈cs)) (fun _ h=>h) (by rw[hlen.out];exact hlt)
   have hme:=hmem.out (cs.getD k default)
   generalize cs.getD k default=x at*
   obtain⟨x0,x1⟩:=x
   obtain⟨q0,q1⟩:=hx
   dsimp only at q0 q1 hk2
   have g0:=cell_regrown q0
   have g1:=cell_regrown q1
   have BR:=BC.keep HB.out
   have gx:=BR.grown
   have r1:(k:Int)<(n:Int):=by omega
   generalize E ⟨x0,x1⟩=Q at*
   clear q0 q1
   refine zh5 ?_ htk hin hme BR hB;clear htk hin hme BR hB;intro htk hin hme BR hB
   cases Q with
   |true=>
    have hm:decide ((⟨c0,c1⟩:Spt)∈cs)=true:=by
     have:=hme.out
     rw[eq_comm,decide_eq_true_eq]at this
     rw[this];simpa using hin.out
    replace hm:=Zh hm
    go_wp2_with fail
    refine wp_region_quiet_below (by kernel_rfl) (by kernel_rfl) ?_
    repeat(go_big_quiet_step(fail))
    refine wpQuiet_nil ?_
    rintro _ ⟨⟨dq,osq⟩,rfl⟩
    have p_:=below_regrown wr dq osq
    replace HB:=Zh (HB.keep p_)
    generalize grow (redrawn wr dq) osq=w2 at*
    clear p_
    have hB2:=Zh (bthen hbw.out HB.out)
    go_wp2
    go_ret
    exact⟨⟨k,rfl,by rw[hm.out];simp⟩,hB2.out⟩
   |false=>
    have hP2:Hid (∀d∈cs.take (k+1),(⟨c0,c1⟩:Spt)≠d):=fun d hd=>by
     rw[htk.out,List.mem_append,List.mem_singleton]at hd
     rcases hd with hd|rfl
     ·exact HP.out d hd
     ·have:=hme.out
      rw[eq_comm,decide_eq_false_iff_not]at this
      exact this
    go_wp2_with fail
    refine wp_region_quiet_below (by kernel_rfl) (by kernel_rfl) ?_
    repeat(go_big_quiet_step(fail))
    refine wpQuiet_nil ?_
    rintro _ ⟨⟨dq,osq⟩,rfl⟩
    have p_:=below_regrown wr dq osq
    replace HB:=Zh (HB.keep p_)
    generalize grow (redrawn wr dq) osq=w2 at*
    clear p_
    go_wp2
    go_roundw
    case rel=>exact⟨k+1,by omega,by go_num,hP2,HB⟩
    case measure=>simp[intOf];omega
  ·obtain rfl:k=n:=by omega
   have hm:decide ((⟨c0,c1⟩:Spt)∈cs)=false:=by
    have:=HP.out
    rw[List.take_of_length_le (by rw[hlen.out];exact Nat.le_refl _)]at this
    rw[decide_eq_false_iff_not]
    exact fun h=>this _ h rfl
   replace hm:=Zh hm
   replace hB:=Zh hB
   go_wp2
   go_ret
   exact⟨⟨-1,rfl,by rw[hm.out];rfl⟩,hB.out⟩
theorem containsS_any(A:Option Addr)(n cp:Nat)(cs:List Spt)(c:Spt)(w:World)(h:SptS w A n cs):
 Calls Tryz.prog 133 #[.slice A n cp,.agg #[.int .i64 c.slot,.int .i64 c.off]] w fun e w'=>e= .returned (.bool (decide (c∈cs)))∧Below w.heap.size w w':=by
 have hbw:=ball w (.cells #[.int .i64 c.slot,.int .i64 c.off] 97)
 have BC:=Box.new w #[.int .i64 c.slot,.int .i64 c.off] 97
 have cI:=indexS_any A n cp cs c _ (h.keep hbw)
 generalize decide (c∈cs)=R at*
 refine zh4 ?_ h hbw BC cI;clear h hbw BC cI;intro h hbw BC cI
 have kb:=BC.at_
 go_enter Tryz.func133,Tryz.ntmps133
 go_wp2_with fail
 refine cI.mono ?_
 rintro e w1 ⟨⟨i,rfl,hi⟩,p_⟩
 replace hi:=Zh hi
 have hB:=Zh (bthen hbw.out p_)
 clear p_
 go_wp2
 go_ret
 exact⟨by rw[←hi.out];rfl,hB.out⟩
theorem idxFnI_any(f:Nat)(cb:Array Value)(p:Int→Bool)(A:Option Addr)(n c:Nat)(xs:List Int)(w:World)(ef:∀args w,(callFunc f args).run Tryz.prog w= .ok (.enter f args) w)(hs:IntS w A n xs)
 (hp:∀x∈xs,∀W,Below w.heap.size w W→Calls Tryz.prog f (#[.int .i64 x]++cb) W fun e w'=>e= .returned (.bool (p x))∧Below W.heap.size W w'):
 Calls Tryz.prog 214 #[.slice A n c,.func (.func f) #[] cb] w (IdxFPost p xs w):=by
 have hlen:=hs.len
 have hm:=hs.small
 unfold maxLen at hm
 refine zh3 ?_ hs hp hlen;clear hs hp hlen;intro hs hp hlen
 go_enter Tryz.func214,Tryz.ntmps214
 go_wp2_with fail
 go_loopw[5,8] (fun _ i wr=>∃k:Nat,k≤n∧i= .int .i64 k∧Hid (∀j,j<k→p (xs.getD j default)=false)∧Hid (Below w.heap.size w wr)) (fun _ i _=>n-(intOf i).toNat)
 case atStart=>exact⟨0,by omega,rfl,fun j hj=>absurd hj (by omega),Below.refl _ _⟩
 case round=>
  obtain⟨k,hk,rfl,HP,HB⟩:=hrel
  by_cases hlt:k<n
  ·obtain⟨b,off,rfl⟩:=hs.addr (by omega)
   have hx:=int_at (hs.keep HB.out) hlt
   have hc:=hp.out _ (ok_at (P:=(· ∈xs)) (fun _ h=>h) (k:=k) (by rw[hlen.out];exact hlt)) wr HB.out
   have hnx:p (xs.getD k default)=false→∀j,j<k+1→p (xs.getD j default)=false:=fun h j hj=>by
    by_cases e:j=k
    ·subst e;exact h
    ·exact HP.out j (by omega)
   have hhit:p (xs.getD k default)=true→IdxFHit p xs n k:=fun h=>⟨hlt,h,HP.out⟩
   generalize xs.getD k default=x at*
   generalize p x=px at*
   have r1:(k:Int)<(n:Int):=by omega
   refine zh3 ?_ hc hnx hhit;clear hc hnx hhit;intro hc hnx hhit
   go_wp2_with fail
   refine hc.mono ?_
   rintro e w2 ⟨rfl,p_⟩
   clear hx
   have HB2:=Zh (bthen HB.out p_)
   clear p_
   cases px with
   |true=>
    have hh:=Zh (hhit rfl)
    go_wp2
    go_ret
    exact⟨k,rfl,.inl ⟨k,rfl,hlen.out▸hh.out⟩,HB2.out⟩
   |false=>
    have hh:=Zh (hnx rfl)
    go_wp2
    go_roundw
    case rel=>exact⟨k+1,by omega,by go_num,hh,HB2⟩
    case measure=>simp[intOf];omega
  ·obtain rfl:k=n:=by omega
   go_wp2
   go_ret
   exact⟨-1,rfl,.inr ⟨rfl,hlen.out▸HP.out⟩,HB.out⟩
theorem ctnFnI_any(f:Nat)(cb:Array Value)(p:Int→Bool)(A:Option Addr)(n c:Nat)(xs:List Int)(w:World)(ef:∀args w,(callFunc f args).run Tryz.prog w= .ok (.enter f args) w)(hs:IntS w A n xs)
 (hp:∀x∈xs,∀W,Below w.heap.size w W→Calls Tryz.prog f (#[.int .i64 x]++cb) W fun e w'=>e= .returned (.bool (p x))∧Below W.heap.size W w'):
 Calls Tryz.prog 179 #[.slice A n c,.func (.func f) #[] cb] w fun e w'=>e= .returned (.bool (xs.any p))∧Below w.heap.size w w':=by
 have hi:=idxFnI_any f cb p A n c xs w ef hs hp
 have hv:Hid (∀(i:Int),IdxF p xs i→decide (0≤i)=xs.any p):=fun i h=>idxF_any h
 generalize xs.any p=R at*
 refine zh3 ?_ hs hp hi;clear hs hp hi;intro hs hp hi
 go_enter Tryz.func179,Tryz.ntmps179
 go_wp2_with fail
 refine hi.mono ?_
 rintro e w2 ⟨i,rfl,hI,p_⟩
 have hv2:=Zh (hv i hI)
 replace hI:=Zh hI
 replace p_:=Zh p_
 go_wp2
 go_ret
 exact⟨by rw[←hv2.out];rfl,p_.out⟩
open Go.Shelf
theorem rhas_any(A:Option Addr)(n cp:Nat)(cs:List Spt)(c:Spt)(w:World)(h:SptS w A n cs):
 Calls Tryz.prog 208 #[.slice A n cp,.agg #[.int .i64 c.slot,.int .i64 c.off]] w fun e w'=>e= .returned (.bool (decide (c∈cs)))∧Below w.heap.size w w':=by
 have hlen:=h.len
 have hs:=h.small
 unfold maxLen at hs
 have hbw:=ball w (.cells #[.int .i64 c.slot,.int .i64 c.off] 97)
 have BC:=Box.new w #[.int .i64 c.slot,.int .i64 c.off] 97
 have ke:=fun d W=>eql_spt d c W
 have hmem:Hid (∀d,eqS d c=decide (d=c)):=fun _=>rfl
 obtain⟨c0,c1⟩:=c
 dsimp only at*
 generalize eqS=E at*
 refine zh5 ?_ h hlen hbw BC ke;clear h hlen hbw BC ke;intro h hlen hbw BC ke
 have kb:=BC.at_
 go_enter Tryz.func208,Tryz.ntmps208
 go_wp2_with fail
 clear kb
 generalize w.alloc (.cells #[.int .i64 c0,.int .i64 c1] 97)=w1 at*
 go_loopw[5] (fun i wr=>∃k:Nat,k≤n∧i= .int .i64 k∧Hid (∀d∈cs.take k,d≠⟨c0,c1⟩)∧Hid (Below w1.heap.size w1 wr)) (fun i _=>n-(intOf i).toNat)
 case atStart=>exact⟨0,by omega,rfl,fun d hd=>by simp at hd,Below.refl _ _⟩
 case round=>
  obtain⟨k,hk,rfl,HP,HB⟩:=hrel
  have hB:=bthen hbw.out HB.out
  by_cases hlt:k<n
  ·obtain⟨b,off,rfl⟩:=h.addr (by omega)
   have hx:=spt_at (h.keep hB) hlt
   have hk2:=ke.out (cs.getD k default)
   have htk:=take_snoc (xs:=cs) (k:=k) (by rw[hlen.out];exact hlt)
   have hin:cs.getD k default∈cs:=ok_at (P:=(· ∈cs)) (fun _ h=>h) (by rw[hlen.out];exact hlt)
   have hme:=hmem.out (cs.getD k default)
   generalize cs.getD k default=x at*
   obtain⟨x0,x1⟩:=x
   obtain⟨q0,q1⟩:=hx
   dsimp only at q0 q1 hk2
   have g0:=cell_regrown q0
   have g1:=cell_regrown q1
   have BR:=BC.keep HB.out
   have gx:=BR.grown
   have r1:(k:Int)<(n:Int):=by omega
   generalize E ⟨x0,x1⟩ ⟨c0,c1⟩=Q at*
   clear q0 q1
   refine zh5 ?_ htk hin hme BR hB;clear htk hin hme BR hB;intro htk hin hme BR hB
   cases Q with
   |true=>
    have hm:decide ((⟨c0,c1⟩:Spt)∈cs)=true:=by
     have:=hme.out
     rw[eq_comm,decide_eq_true_eq]at this
     rw[←this];simpa using hin.out
    replace hm:=Zh hm
    go_wp2_with fail
    refine wp_region_quiet_below (by kernel_rfl) (by kernel_rfl) ?_
    repeat(go_big_quiet_step(fail))
    refine wpQuiet_nil ?_
    rintro _ ⟨⟨dq,osq⟩,rfl⟩
    have p_:=below_regrown wr dq osq
    replace HB:=Zh (HB.keep p_)
    generalize grow (redrawn wr dq) osq=w2 at*
    clear p_
    have hB2:=Zh (bthen hbw.out HB.out)
    go_wp2
    go_ret
    exact⟨by rw[hm.out];rfl,hB2.out⟩
   |false=>
    have hP2:Hid (∀d∈cs.take (k+1),d≠(⟨c0,c1⟩:Spt)):=fun d hd=>by
     rw[htk.out,List.mem_append,List.mem_singleton]at hd
     rcases hd with hd|rfl
     ·exact HP.out d hd
     ·have:=hme.out
      rw[eq_comm,decide_eq_false_iff_not]at this
      exact this
    go_wp2_with fail
    refine wp_region_quiet_below (by kernel_rfl) (by kernel_rfl) ?_
    repeat(go_big_quiet_step(fail))
    refine wpQuiet_nil ?_
    rintro _ ⟨⟨dq,osq⟩,rfl⟩
    have p_:=below_regrown wr dq osq
    replace HB:=Zh (HB.keep p_)
    generalize grow (redrawn wr dq) osq=w2 at*
    clear p_
    go_wp2
    go_roundw
    case rel=>exact⟨k+1,by omega,by go_num,hP2,HB⟩
    case measure=>simp[intOf];omega
  ·obtain rfl:k=n:=by omega
   have hm:decide ((⟨c0,c1⟩:Spt)∈cs)=false:=by
    have:=HP.out
    rw[List.take_of_length_le (by rw[hlen.out];exact Nat.le_refl _)]at this
    rw[decide_eq_false_iff_not]
    exact fun h=>this _ h rfl
   replace hm:=Zh hm
   replace hB:=Zh hB
   go_wp2
   go_ret
   exact⟨by rw[hm.out];rfl,hB.out⟩
theorem ramong_any(A B:Option Addr)(n cp m cq:Nat)(l al:List Spt)(w:World)(h:SptS w A n l)(h2:SptS w B m al):
 Calls Tryz.prog 212 #[.slice A n cp,.slice B m cq] w fun e w'=>e= .returned (.bool (amongN l al))∧Below w.heap.size w w':=by
 have hlen:=h.len
 have hs:=h.small
 unfold maxLen at hs
 have hno:∀k,k<n→decide (l.getD k default∈al)=false→amongN l al=false:=fun k hk e=>by
  unfold amongN
  rw[List.all_eq_false]
  exact⟨l.getD k default,ok_at (P:=(· ∈l)) (fun _ h=>h) (by rw[hlen];exact hk),by rw[e];simp⟩
 have hyes:(∀d∈l.take n,d∈al)→amongN l al=true:=fun e=>by
  unfold amongN
  rw[List.take_of_length_le (by rw[hlen];exact Nat.le_refl _)]at e
  rw[List.all_eq_true]
  exact fun x hx=>decide_eq_true (e x hx)
 have cH:=fun W (hb:Below w.heap.size w W) x=>rhas_any B m cq al x W (h2.keep hb)
 generalize amongN l al=R at*
 refine zh6 ?_ h h2 hlen hno hyes cH;clear h h2 hlen hno hyes cH;intro h h2 hlen hno hyes cH
 go_enter Tryz.func212,Tryz.ntmps212
 go_wp2_with fail
 go_loopw[5] (fun i wr=>∃k:Nat,k≤n∧i= .int .i64 k∧Hid (∀d∈l.take k,d∈al)∧Hid (Below w.heap.size w wr)) (fun i _=>n-(intOf i).toNat)
 case atStart=>exact⟨0,by omega,rfl,fun d hd=>by simp at hd,Below.refl _ _⟩
 case round=>
  obtain⟨k,hk,rfl,HP,HB⟩:=hrel
  by_cases hlt:k<n
  ·obtain⟨b,off,rfl⟩:=h.addr (by omega)
   have hx:=spt_at (h.keep HB.out) hlt
   have cK:=cH.out wr HB.out (l.getD k default)
   have htk:=take_snoc (xs:=l) (k:=k) (by rw[hlen.out];exact hlt)
   have hno2:=hno.out k hlt
   have hQ:∃Q,Q=decide (l.getD k default∈al):=⟨_,rfl⟩
   obtain⟨Q,hQ⟩:=hQ
   rw[←hQ]at cK hno2
   generalize l.getD k default=x at*
   obtain⟨x0,x1⟩:=x
   obtain⟨q0,q1⟩:=hx
   dsimp only at q0 q1 cK
   have r1:(k:Int)<(n:Int):=by omega
   refine zh4 ?_ cK htk hno2 hQ;clear cK htk hno2 hQ;intro cK htk hno2 hQ
   go_wp2_with fail
   refine cK.mono ?_
   rintro e w2 ⟨rfl,p_⟩
   clear q0 q1
   have HB2:=Zh (bthen HB.out p_)
   clear p_
   cases Q with
   |false=>
    have hR:=Zh (hno2 rfl)
    go_wp2
    go_ret
    exact⟨by rw[hR.out];rfl,HB2.out⟩
   |true=>
    have hP2:Hid (∀d∈l.take (k+1),d∈al):=fun d hd=>by
     rw[htk.out,List.mem_append,List.mem_singleton]at hd
     rcases hd with hd|rfl
     ·exact HP.out d hd
     ·exact of_decide_eq_true hQ.symm
    go_wp2
    go_roundw
    case rel=>exact⟨k+1,by omega,by go_num,hP2,HB2⟩
    case measure=>simp[intOf];omega
  ·obtain rfl:k=n:=by omega
   have hR:=Zh (hyes HP.out)
   go_wp2
   go_ret
   exact⟨by rw[hR.out];rfl,HB.out⟩
theorem eAm1:∀args w,(callFunc 137 args).run Tryz.prog w= .ok (.enter 137 args) w:=enters_of Tryz.func137 (by kernel_rfl) rfl
def amB(al:List Spt)(x:Spt):Bool:= !decide (x∈al)
theorem amB_any(l al:List Spt):(!l.any (amB al))=amongN l al:=by
 unfold amongN amB
 rw[Bool.eq_iff_iff]
 simp
theorem am1_any(x:Spt)(A:Option Addr)(n cp:Nat)(al:List Spt)(B1:Nat)(w:World)(h:SptS w A n al)(h1:Box w B1 #[.slice A n cp]):
 Calls Tryz.prog 137 (#[.agg #[.int .i64 x.slot,.int .i64 x.off]]++ #[.pointer (some ⟨B1,0,none⟩)]) w fun e w'=>e= .returned (.bool (amB al x))∧Below w.heap.size w w':=by
 show Calls Tryz.prog 137 #[.agg #[.int .i64 x.slot,.int .i64 x.off],.pointer (some ⟨B1,0,none⟩)] w _
 have hbw:=ball w (.cells #[.int .i64 x.slot,.int .i64 x.off] 97)
 have BX:=Box.new w #[.int .i64 x.slot,.int .i64 x.off] 97
 have k1:=(h1.keep hbw).at_
 have cC:=containsS_any A n cp al x _ (h.keep hbw)
 unfold amB
 generalize decide (x∈al)=R at*
 obtain⟨x0,x1⟩:=x
 dsimp only at*
 have kx:=BX.at_
 refine zh5 ?_ h h1 hbw BX cC;clear h h1 hbw BX cC;intro h h1 hbw BX cC
 go_enter Tryz.func137,Tryz.ntmps137
 go_wp2_with fail
 refine cC.mono ?_
 rintro e w1 ⟨rfl,p_⟩
 have hB:=Zh (bthen hbw.out p_)
 clear p_ kx k1
 go_wp2
 go_ret
 exact⟨rfl,hB.out⟩
theorem among_any(A B:Option Addr)(n cp m cq:Nat)(l al:List Spt)(w:World)(h:SptS w A n l)(h2:SptS w B m al):
 Calls Tryz.prog 74 #[.slice A n cp,.slice B m cq] w fun e w'=>e= .returned (.bool (amongN l al))∧Below w.heap.size w w':=by
 have hb:=ball w (.cells #[.slice B m cq] 28)
 have BX:=Box.new w #[.slice B m cq] 28
 have cF:=ctnFnS_any 137 #[.pointer (some ⟨w.heap.size,0,none⟩)] (amB al) A n cp l _ eAm1 (h.keep hb) (fun x _ W hb2=>am1_any x B m cq al _ W (h2.keep (bthen hb hb2)) (BX.keep hb2))
 rw[←amB_any]
 generalize l.any (amB al)=R at*
 refine zh5 ?_ h h2 hb BX cF;clear h h2 hb BX cF;intro h h2 hb BX cF
 go_enter Tryz.func74,Tryz.ntmps74
 go_wp2_with fail
 refine cF.mono ?_
 rintro e w1 ⟨rfl,p_⟩
 have hB:=Zh (bthen hb.out p_)
 clear p_
 go_wp2
 go_ret
 exact⟨rfl,hB.out⟩
end Tx
end Go.Proofs.YtfamifgchgolpaaGreat
