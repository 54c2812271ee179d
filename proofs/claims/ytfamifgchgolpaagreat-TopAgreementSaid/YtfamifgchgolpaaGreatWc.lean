/- bitio's reader. -/
import Derived.Test.YtfamifgchgolpaaGreatWb
import Derived.Lib.Strings
set_option linter.unusedVariables false
set_option linter.unusedSimpArgs false
set_option maxRecDepth 100000
set_option maxHeartbeats 4000000
namespace Go.Proofs.YtfamifgchgolpaaGreat
open Go Go.RowKit Go.Sort
namespace Cp
open Mm Sw
theorem gb_drew {a w:World} {r:Option Nat}(h:a.grownBy w r):a.grownBy w.drew r:=⟨h.os,h.tape,h.output,h.size,h.block⟩
theorem gb_set {a w:World} {g i:Nat}(h:a.grownBy w (some g))(v:Value):a.grownBy (w.setCell ⟨g,i,none⟩ v) (some g):=
 ⟨h.os,h.tape,h.output,by simpa[World.setCell]using h.size,fun k hk hne=>by
  rw[heap_setCell_other w ⟨g,i,none⟩ k v (fun e=>hne (by rw[e]))];exact h.block k hk hne⟩
def RdIs(t:TypeId)(w:World)(B:Nat)(s:ByteArray):Option Nat→Prop
 |some a=>Blk w B #[.string s,.int .i64 (a:Int),.int .i64 0] t∧a≤8*s.size
 |none=>∃(s':ByteArray) (a' e:Int),e≠0∧Blk w B #[.string s',.int .i64 a',.int .i64 e] t
theorem RdIs.lt {t:TypeId} {w:World} {B:Nat} {s:ByteArray} {st:Option Nat}(h:RdIs t w B s st):B<w.heap.size:=by
 cases st with
 |some a=>exact h.1.lt
 |none=>obtain⟨_,_,_,_,hb⟩:=h;exact hb.lt
theorem RdIs.under {t:TypeId} {w w':World} {B:Nat} {s:ByteArray} {st:Option Nat}(h:RdIs t w B s st)(hb:Below w.heap.size w w'):RdIs t w' B s st:=by
 cases st with
 |some a=>exact⟨h.1.keep hb,h.2⟩
 |none=>obtain⟨x,y,z,h1,h2⟩:=h;exact⟨x,y,z,h1,h2.keep hb⟩
def GetPost(t:TypeId)(v:Value)(B:Nat)(s:ByteArray)(st:Option Nat)(w:World)(e:Ending)(w':World):Prop:=e= .returned v∧w.grownBy w' (some B)∧RdIs t w' B s st
theorem gb_drewN {a w:World} {r:Option Nat}(h:a.grownBy w r)(n:Nat):a.grownBy (w.drewN n) r:=⟨h.os,h.tape,h.output,h.size,h.block⟩
theorem _root_.Go.Proofs.YtfamifgchgolpaaGreat.Mm.Blk.drewN {w:World} {B:Nat} {C:Array Value} {t:TypeId}(h:Blk w B C t)(n:Nat):Blk (w.drewN n) B C t:=⟨h.at_⟩
theorem byt_at(s:ByteArray)(i:Nat)(h:i<s.size):(s[i].toNat:Int)=(byt s i:Int):=by
 unfold byt
 rw[List.getD_eq_getElem?_getD,List.getElem?_eq_getElem (by simpa using h)]
 rfl
theorem byt_lt(s:ByteArray)(i:Nat):byt s i<256:=by unfold byt;exact UInt8.toNat_lt _
theorem bit_and(s:ByteArray)(q r:Nat)(p:Nat)(hq:p/8=q)(hr:p %8=r):byt s q/2 ^ (7-r)%2=(bit s p).toNat:=by
 unfold bit
 rw[hq,hr,Nat.testBit_eq_decide_div_mod_eq]
 rcases Nat.mod_two_eq_zero_or_one (byt s q/2 ^ (7-r))with h|h<;>rw[h]<;>rfl
theorem two_or(v b:Nat)(hb:b≤1):v*2|||b=2*v+b:=by
 have:=Nat.two_pow_add_eq_or_of_lt (i:=1) (b:=b) (by omega) v
 rw[show(2:Nat) ^ 1=2 from rfl]at this
 rw[Nat.mul_comm v 2]
 omega
theorem get_u64(s:ByteArray)(v q r p:Nat)(hv:v<2 ^ 62)(hq:p/8=q)(hr:p %8=r)(hqs:q<s.size):
 bits .or .u64 (IntKind.u64.wrap ((v:Int)*2)) (IntKind.u64.wrap (bits .and .u8 ((s[q].toNat:Int)/2 ^ (7-r)) 1))=((2*v+(bit s p).toNat:Nat):Int):=by
 have hb:(bit s p).toNat≤1:=by cases bit s p<;>decide
 have e1:((s[q].toNat:Int)/2 ^ (7-r))=((byt s q/2 ^ (7-r):Nat):Int):=by rw[byt_at s q hqs];simp
 have hlt:byt s q/2 ^ (7-r)<256:=Nat.lt_of_le_of_lt (Nat.div_le_self _ _) (byt_lt s q)
 have e2:=u8_and_nat (byt s q/2 ^ (7-r)) 1 hlt (by omega)
 rw[show((1:Nat):Int)=1 from rfl,Nat.and_one_is_mod,bit_and s q r p hq hr]at e2
 rw[e1,e2,IntKind.wrap_u64,IntKind.wrap_u64,Int.emod_eq_of_lt (by omega) (by omega),Int.emod_eq_of_lt (by omega) (by omega)]
 have:=u64_or_nat (v*2) (bit s p).toNat (by omega) (by omega)
 rw[two_or _ _ hb]at this
 rw[←this]
 rfl
theorem get_any(k B a:Nat)(s:ByteArray)(w:World)(hk:k≤63)(hs:s.size≤100000)(hR:RdIs 169 w B s (some a))(ha:a+k≤8*s.size):
 Calls Tryz.prog 123 #[.pointer (some ⟨B,0,none⟩),.int .i64 k] w (GetPost 169 (.int .u64 (val s a k:Int)) B s (some (a+k)) w):=by
 replace hR:=Zh hR
 go_enter Tryz.func123,Tryz.ntmps123
 go_wp2_with fail
 go_loopw[5,7] (fun n i wr=>∃j:Nat,j≤k∧i= .int .i64 j∧n= .int .u64 (val s a j:Int)∧Hid (RdIs 169 wr B s (some (a+j)))∧Hid (w.grownBy wr (some B))) (fun _ i _=>k-(intOf i).toNat)
 case atStart=>exact⟨0,by omega,rfl,rfl,by simpa using hR,gb_refl _ _⟩
 case round=>
  obtain⟨j,hj,rfl,rfl,HR,HG⟩:=hrel
  by_cases hlt:j<k
  ·have kb0:=HR.1.cell 0
   have kb1:=HR.1.cell 1
   have kf:=HR.1.free 1
   have hbl:=HR.1.lt
   generalize hq:(a+j)/8=q at*
   generalize hr:(a+j)%8=r at*
   have q1:(((a+j:Nat):Int)/8)=(q:Int):=by omega
   have q2:(((a+j:Nat):Int)%8)=(r:Int):=by omega
   have q3:r<8:=by omega
   have hqs:q<s.size:=by omega
   have hqs2:(q:Int)<(s.size:Int):=by omega
   have r7:(0:Int)≤7-(r:Int):=by omega
   have r8:(7-(r:Int)).toNat=7-r:=by omega
   have hv0:(0:Int)≤(val s a j:Int):=by omega
   have hv2:val s a j<2 ^ 62:=Nat.lt_of_lt_of_le (val_lt s a j) (Nat.pow_le_pow_right (by decide) (by omega))
   have hu:=get_u64 s (val s a j) q r (a+j) hv2 hq hr hqs
   have hva:val s a (j+1)=2*val s a j+(bit s (a+j)).toNat:=rfl
   rw[←hva]at hu
   have hpb:(((a+j:Nat):Int))≤800000:=by omega
   have hpa:a+(j+1)=(a+j)+1:=by omega
   have hR2:RdIs 169 (wr.setCell ⟨B,1,none⟩ (.int .i64 ((a+j+1:Nat):Int))) B s (some (a+j+1)):=⟨by have:=HR.1.set 1 (.int .i64 ((a+j+1:Nat):Int));simpa using this,by omega⟩
   generalize hv1:val s a (j+1)=v1 at*
   generalize hvg:val s a j=v0 at*
   generalize hp:a+j=p at*
   refine zh9 ?_ hq hr hp hpa hu hva hvg hR2 hv1;clear hq hr hp hpa hu hva hvg hR2 hv1;intro hq hr hp hpa hu hva hvg hR2 hv1
   clear hv2
   go_wp2_with fail
   go_region
   clear q1 q2 r7 r8
   go_wp2_with fail
   have HG2:=gb_drew (gb_set (i:=1) HG.out (.int .i64 ((p:Int)+1)))
   have hRd:RdIs 169 (wr.setCell ⟨B,1,none⟩ (.int .i64 ((p:Int)+1))).drew B s (some (p+1)):=⟨hR2.1.drew,hR2.2⟩
   go_roundw
   case rel=>exact⟨j+1,by omega,by go_num,by rw[hu.out,hv1.out],by rw[hpa.out];exact hRd,HG2⟩
   case measure=>simp[intOf];omega
  ·obtain rfl:j=k:=by omega
   go_wp2_with fail
   go_ret
   exact⟨rfl,HG.out,HR.out⟩
theorem left_any(B a:Nat)(s:ByteArray)(w:World)(hs:s.size≤100000)(hR:RdIs 169 w B s (some a)):
 Calls Tryz.prog 124 #[.pointer (some ⟨B,0,none⟩)] w fun e w'=>e= .returned (.int .i64 (8*(s.size:Int)-(a:Int)))∧Below w.heap.size w w':=by
 have kb0:=hR.1.cell 0
 have kb1:=hR.1.cell 1
 have kb2:=hR.1.cell 2
 have ha:=hR.2
 have r1:(0:Int)≤8*(s.size:Int)-(a:Int):=by omega
 replace hR:=Zh hR
 go_enter Tryz.func124,Tryz.ntmps124
 go_wp2_with fail
 go_quiet(fail)
 go_wp2_with fail
 go_ret
 exact⟨rfl,below_drewN (Below.refl _ _) _⟩
theorem fail_any(B a:Nat)(n:Int)(hn:n≠0)(s:ByteArray)(w:World)(hR:RdIs 169 w B s (some a)):
 Calls Tryz.prog 187 #[.pointer (some ⟨B,0,none⟩),.int .i64 n] w (GetPost 169 (.tuple #[]) B s none w):=by
 have kb2:=hR.1.cell 2
 have kf:=hR.1.free 2
 have hR2:RdIs 169 (w.setCell ⟨B,2,none⟩ (.int .i64 n)) B s none:=⟨s,a,n,hn,by simpa using hR.1.set 2 (.int .i64 n)⟩
 refine zh3 ?_ hR hR2 hn;clear hR hR2 hn;intro hR hR2 hn
 go_enter Tryz.func187,Tryz.ntmps187
 go_wp2_with fail
 go_end0
 exact⟨rfl,gb_set (gb_refl _ _) _,hR2.out⟩
def stV(st:Option Nat)(e:Int):Prop:=(e=0)↔st.isSome=true
theorem rfield_any(k B:Nat)(s:ByteArray)(st:Option Nat)(w:World)(hk:k≤63)(hs:s.size≤100000)(hR:RdIs 169 w B s st):
 Calls Tryz.prog 121 #[.pointer (some ⟨B,0,none⟩),.bool true,.int .i64 k] w (GetPost 169 (.int .u64 ((uns s k st).1:Int)) B s (uns s k st).2 w):=by
 cases st with
 |none=>
  obtain⟨s',a',e,he,hb⟩:=hR
  have kb2:=hb.cell 2
  have d:(e !=0)=true:=by rw[bne_iff_ne];exact he
  have hR2:RdIs 169 w B s none:=⟨s',a',e,he,hb⟩
  show Calls _ _ _ _ (GetPost _ (.int .u64 0) B s none w)
  refine zh3 ?_ hb hR2 he;clear hb hR2 he;intro hb hR2 he
  go_enter Tryz.func121,Tryz.ntmps121
  go_wp2_with fail
  go_ret
  exact⟨rfl,gb_refl _ _,hR2.out⟩
 |some a=>
  have kb2:=hR.1.cell 2
  have hl:=Zh (left_any B a s w hs hR)
  by_cases hlt:8*s.size<a+k
  ·have e:uns s k (some a)=(0,none):=if_pos hlt
   rw[e]
   have d:8*(s.size:Int)-(a:Int)<(k:Int):=by omega
   replace hR:=Zh hR
   replace e:=Zh e
   go_enter Tryz.func121,Tryz.ntmps121
   go_wp2_with fail
   refine hl.mono ?_
   rintro e w1 ⟨rfl,hgb⟩
   have hr:=hR.under hgb
   have hg:=gb_below (r:=some B) hgb
   clear hgb
   have hf:=Zh (fail_any B a 9 (by decide) s w1 hr)
   clear kb2 hl
   replace hg:=Zh hg
   replace hr:=Zh hr
   go_wp2_with fail
   refine hf.mono ?_
   rintro e w2 ⟨rfl,hg2,hr2⟩
   clear hf
   replace hg2:=Zh hg2
   replace hr2:=Zh hr2
   go_wp2_with fail
   go_ret
   exact⟨rfl,gb_trans hg.out hg2.out,hr2.out⟩
  ·have e:uns s k (some a)=(val s a k,some (a+k)):=if_neg hlt
   rw[e]
   have d:¬8*(s.size:Int)-(a:Int)<(k:Int):=by omega
   replace hR:=Zh hR
   replace e:=Zh e
   go_enter Tryz.func121,Tryz.ntmps121
   go_wp2_with fail
   refine hl.mono ?_
   rintro e w1 ⟨rfl,hgb⟩
   have hr:=hR.under hgb
   have hg:=gb_below (r:=some B) hgb
   clear hgb
   have hf:=Zh (get_any k B a s w1 hk hs hr (by omega))
   clear kb2 hl
   generalize val s a k=V at*
   replace hg:=Zh hg
   replace hr:=Zh hr
   go_wp2_with fail
   refine hf.mono ?_
   rintro e w2 ⟨rfl,hg2,hr2⟩
   clear hf
   replace hg2:=Zh hg2
   replace hr2:=Zh hr2
   go_wp2_with fail
   go_ret
   exact⟨rfl,gb_trans hg.out hg2.out,hr2.out⟩
theorem rUns_any(k B:Nat)(s:ByteArray)(st:Option Nat)(w:World)(h1:1≤k)(hk:k≤62)(hs:s.size≤100000)(hR:RdIs 169 w B s st):
 Calls Tryz.prog 53 #[.pointer (some ⟨B,0,none⟩),.int .i64 k] w (GetPost 169 (.int .i64 ((uns s k st).1:Int)) B s (uns s k st).2 w):=by
 have hf:=Zh (rfield_any k B s st w (by omega) hs hR)
 have hv:(uns s k st).1<2 ^ 62:=Nat.lt_of_lt_of_le (uns_lt s k st) (Nat.pow_le_pow_right (by decide) hk)
 have hv2:((uns s k st).1:Int)≤9223372036854775807:=by omega
 have hv0:(0:Int)≤((uns s k st).1:Int):=by omega
 generalize(uns s k st).1=V at*
 generalize(uns s k st).2=st2 at*
 clear hv
 have a1:(1:Int)≤(k:Int):=by omega
 have a2:(k:Int)≤63:=by omega
 replace hR:=Zh hR
 go_enter Tryz.func53,Tryz.ntmps53
 go_wp2_with fail
 refine hf.mono ?_
 rintro e w1 ⟨rfl,hg,hr⟩
 clear hf
 replace hg:=Zh hg
 replace hr:=Zh hr
 go_wp2_with fail
 go_ret
 exact⟨rfl,hg.out,hr.out⟩
theorem rFlg_any(B:Nat)(s:ByteArray)(st:Option Nat)(w:World)(hs:s.size≤100000)(hR:RdIs 169 w B s st):
 Calls Tryz.prog 54 #[.pointer (some ⟨B,0,none⟩)] w (GetPost 169 (.bool ((uns s 1 st).1==1)) B s (uns s 1 st).2 w):=by
 have hf:=Zh (rfield_any 1 B s st w (by omega) hs hR)
 generalize(uns s 1 st).1=V at*
 generalize(uns s 1 st).2=st2 at*
 have e:((V:Int)==1)=(V==1):=by rw[Bool.eq_iff_iff,beq_iff_eq,beq_iff_eq];omega
 replace hR:=Zh hR
 go_enter Tryz.func54,Tryz.ntmps54
 go_wp2_with fail
 refine hf.mono ?_
 rintro e w1 ⟨rfl,hg,hr⟩
 clear hf
 replace hg:=Zh hg
 replace hr:=Zh hr
 go_wp2_with fail
 go_ret
 exact⟨rfl,hg.out,hr.out⟩
theorem newReader_any(s:ByteArray)(w:World)(hs:s.size≤65536):
 Calls Tryz.prog 52 #[.string s] w fun e w'=>e= .returned (.pointer (some ⟨w.heap.size,0,none⟩))∧w'=w.alloc (.cells #[.string s,.int .i64 0,.int .i64 0] 169):=by
 have d:(s.size:Int)≤65536:=by omega
 go_enter Tryz.func52,Tryz.ntmps52
 go_wp2_with fail
 go_ret
 exact⟨rfl,rfl⟩
theorem RdIs.new(t:TypeId)(s:ByteArray)(w:World):RdIs t (w.alloc (.cells #[.string s,.int .i64 0,.int .i64 0] t)) w.heap.size s (some 0):=⟨Blk.new w _ _,by omega⟩
end Cp
end Go.Proofs.YtfamifgchgolpaaGreat
