/- TopAgreement: what stands behind each request: plain. -/
import Derived.Test.YtfamifgchgolpaaGreatWh
import Derived.Test.YtfamifgchgolpaaGreatWi
set_option linter.unusedVariables false
set_option linter.unusedSimpArgs false
namespace Go.Proofs.YtfamifgchgolpaaGreat
namespace Tx
theorem betw_full {t:Tab} {e:Ed}(h:FullOk t e):betwN (fullN t e) e.peer=e.cells:=by
 obtain⟨u,hu⟩:=full_is h
 rw[hu.eq]
 unfold betwN
 rw[if_pos ((chkT_iff u).2 hu.tab)]
 have h1:(e.cells.filter fun c=>decide (c.kind=2)&&decide (c.peer=e.peer))=e.cells:=by
  rw[List.filter_eq_self]
  intro c hc
  have:=h.ed.cells.each c hc
  rw[this.kind,this.peer];simp
 have h2:(t.cells.filter fun c=>decide (c.kind=2)&&decide (c.peer=e.peer))= []:=by
  rw[List.filter_eq_nil_iff]
  intro c hc
  have:=h.btw c hc
  simpa using this
 have hp:=hu.perm.filter (fun c=>decide (c.kind=2)&&decide (c.peer=e.peer))
 rw[List.filter_append,h1,h2,List.append_nil]at hp
 have ha:(u.cells.filter fun c=>decide (c.kind=2)&&decide (c.peer=e.peer)).Pairwise (fun a b=>a.slot≤b.slot):=by
  refine(hu.tab.asc.filter _).imp fun {a b} h=> ?_
  unfold ltT at h;omega
 refine List.Perm.eq_of_pairwise (le:=fun a b=>a.slot≤b.slot) (fun a b x y h1 h2=> ?_) ha (h.ed.cells.asc.imp fun {a b} h=>Int.le_of_lt h) hp
 exact asc_inj h.ed.cells.asc (hp.mem_iff.1 x) y (Int.le_antisymm h1 h2)
theorem mirr_full {a b:Ed} {ta tb:Tab}(h:Idle a b ta tb)(ho:oppN a.cells b.cells=true):MirrOk (fullN ta a) (fullN tb b):=by
 obtain⟨u,hu⟩:=full_is h.fa
 obtain⟨v,hv⟩:=full_is h.fb
 have n1:(fullN ta a).node=b.peer:=by rw[hu.eq,hu.node,h.fa.node];exact h.ab
 have n2:(fullN tb b).node=a.peer:=by rw[hv.eq,hv.node,h.fb.node];exact h.ba.symm
 refine⟨by rw[hu.eq];exact(chkT_iff u).2 hu.tab,by rw[hv.eq];exact(chkT_iff v).2 hv.tab,?_,by rw[hu.eq,hv.eq,hu.length,hv.length];exact h.len,?_⟩
 ·rw[n1,n2,←h.ab];exact h.fa.ed.ne
 ·rw[n1,n2,betw_full h.fa,betw_full h.fb];exact ho
theorem ask_slot {a:Ed} {t:Tab} {f:List Int} {k n i:Int}(h:askC a t f k n i=0):askC a t f k n 0=0∧askE a t f k n i=openE a (askM a t f k n) i∧askN a t f k n i=askM a t f k n∧0≤i∧i≤1099511627776:=by
 have hE:askE a t f k n i=openE a (askM a t f k n) i:=by unfold askE;rw[if_pos h]
 have hN:askN a t f k n i=askM a t f k n:=by unfold askN;rw[if_pos h]
 unfold askC at h ⊢
 split at h
 ·rename_i h1;exact absurd h h1
 split at h
 ·cases h
 rename_i h1 h2
 rw[if_neg h1,if_neg (fun hx=>h2 (by
  rcases hx with x|x|x|x|x
  ·exact .inl x
  ·exact .inr (.inl x)
  ·omega
  ·omega
  ·exact .inr (.inr (.inr (.inr x)))))]
 exact⟨h,hE,hN,Int.not_lt.1 fun x=>h2 (.inr (.inr (.inl x))),Int.not_lt.1 fun x=>h2 (.inr (.inr (.inr (.inl x))))⟩
theorem chkE_since {a:Ed} {m:Msg} {i:Int}(h0:0≤i)(h1:i≤1099511627776):chkE (openE a m i)=chkE (openE a m 0):=by
 unfold chkE
 have e1:cellsOk (openE a m i)=cellsOk (openE a m 0):=rfl
 have e2:askedOk (openE a m i)=askedOk (openE a m 0):=rfl
 have e3:knownOk (openE a m i)=knownOk (openE a m 0):=rfl
 rw[e1,e2,e3]
 show(if a.node<0∨31<a.node∨a.peer<0∨31<a.peer∨a.number<0∨255<a.number∨i<0∨1099511627776<i then(2:Int)else _)=(if a.node<0∨31<a.node∨a.peer<0∨31<a.peer∨a.number<0∨255<a.number∨(0:Int)<0∨1099511627776<(0:Int)then(2:Int)else _)
 have e4:(a.node<0∨31<a.node∨a.peer<0∨31<a.peer∨a.number<0∨255<a.number∨i<0∨1099511627776<i)↔(a.node<0∨31<a.node∨a.peer<0∨31<a.peer∨a.number<0∨255<a.number∨(0:Int)<0∨1099511627776<(0:Int)):=by omega
 by_cases h:(a.node<0∨31<a.node∨a.peer<0∨31<a.peer∨a.number<0∨255<a.number∨i<0∨1099511627776<i)
 ·rw[if_pos h,if_pos (e4.1 h)]
 ·rw[if_neg h,if_neg (fun x=>h (e4.2 x))];rfl
theorem finE_since(a:Ed)(m r:Msg)(i:Int):finE (openE a m i) r=finE (openE a m 0) r:=rfl
theorem fin_since {a:Ed} {m r:Msg} {i:Int}(h0:0≤i)(h1:i≤1099511627776):finC (openE a m i) r=finC (openE a m 0) r∧finN (openE a m i) r=finN (openE a m 0) r:=by
 have e:finC (openE a m i) r=finC (openE a m 0) r:=by unfold finC;rw[chkE_since h0 h1];rfl
 exact⟨e,by unfold finN;rw[e,finE_since]⟩
structure Agr(a b:Ed)(ta tb:Tab)(f:List Int)(k n i:Int)(m:Msg)(y:Ed)(r:Msg)(z:Ed):Prop where
 e1:askE a ta f k n i=openE a m i
 e2:askN a ta f k n i=m
 cm:chkM m=0
 cr:chkM r=0
 c1:recvC b tb m=0
 one:recv b tb f m=(y,r)
 c2:finC (openE a m i) r=0
 fin:finN (openE a m i) r=z
 ans:ansN m r=true
 idle:Idle z y ta tb
 cons:consB z y=true
 num:z.number=y.number
 mir:MirrOk (fullN ta z) (fullN tb y)
theorem agr_is {a b:Ed} {ta tb:Tab} {f:List Int} {k n i:Int}(h:Idle a b ta tb)(hc:consB a b=true)(rA:Room ta a)(rB:Room tb b)(h0:askC a ta f k n i=0):∃m y r z,Agr a b ta tb f k n i m y r z:=by
 obtain⟨h1,h2,h3,i0,i1⟩:=ask_slot h0
 obtain⟨m,y,r,z,R⟩:=run_is (f:=f) h rA rB h1
 have L:=losses_ok h R hc
 have e:askM a ta f k n=m:=by have:=R.e2;unfold askN at this;rw[if_pos h1]at this;exact this
 rw[e]at h2 h3
 obtain⟨f1,f2⟩:=fin_since (a:=a) (m:=m) (r:=r) i0 i1
 have hI:Idle z y ta tb:=⟨R.fz,R.fy,by rw[R.ny.2,R.nz.1];exact h.ab,by rw[R.ny.1,R.nz.2];exact h.ba,h.len,R.oz,R.oy⟩
 have hb:=L.both
 have hb2:=hb
 unfold consB at hb2
 simp only[Bool.and_eq_true,decide_eq_true_eq]at hb2
 refine⟨m,y,r,z,⟨h2,h3,(chkM_iff m).2 R.hm,(ansN_chk R.ans).2,R.c1,R.one,f1.trans R.c2,f2.trans R.fin,R.ans,hI,hb,hb2.2.1,mirr_full hI hb2.2.2⟩⟩
end Tx
end Go.Proofs.YtfamifgchgolpaaGreat
