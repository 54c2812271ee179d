/- A plain operation of a region in its order. -/
import Derived.Test.YtfamifgchgolpaaGreatBq
set_option linter.unusedVariables false
set_option linter.unusedSimpArgs false
namespace Go.Proofs.YtfamifgchgolpaaGreat
open Go Go.RowKit Go.Sort Go.Lib
namespace Tx
open Sw Mm Pl
section
variable {P:Program} {ops:Array Oper} {Q:Exit→Act→World→Prop} {S:World→Prop}
theorem wpList_pureX {rest:List Oper} {op:Oper} {v:Value} {a:Act} {w:World}(hw:Region.wanted op (yielded ops a.tmps)=true)(hy:(execOp a.eval op).run P w= .ok (.value v) w)(h:wpList P ops Q rest (a.put op.dst v) w):wpList P ops Q (op::rest) a w:=
 wpList_step fun K hK=>by
  rw[if_pos hw]
  simp only[Oper.wp,hy,Oper.upon]
  exact hK _ _ h
end
end Tx
end Go.Proofs.YtfamifgchgolpaaGreat
namespace Go.Proofs.YtfamifgchgolpaaGreat.Pl
open Go
section
variable {P:Program} {Q:Exit→Act→World→Prop} {S:World→Prop}
theorem plPureG {l:List Oper} {L:Act→World→Prop} {i:Nat} {p:List (Nat×Bool)} {o:Oper} {v:Value} {a:Act} {w:World}(ho:l[i]? =some o)(hw:Region.wanted o (yielded l.toArray a.tmps)=true)(hy:∀w,S w→(execOp a.eval o).run P w= .ok (.value v) w)(h:wpPl P l.toArray Q S L p (a.put o.dst v) w):wpPl P l.toArray Q S L ((i,true)::p) a w:=plTakeL ho (.inl ⟨hw,hy⟩) h
theorem plSkipG {l:List Oper} {L:Act→World→Prop} {i:Nat} {p:List (Nat×Bool)} {o:Oper} {a:Act} {w:World}(ho:l[i]? =some o)(hw:Region.wanted o (yielded l.toArray a.tmps)=false)(h:wpPl P l.toArray Q S L p (a.put o.dst undef) w):wpPl P l.toArray Q S L ((i,true)::p) a w:=plTakeL ho (.inr ⟨hw,rfl⟩) h
theorem plStepG {l:List Oper} {L:Act→World→Prop} {i:Nat} {p:List (Nat×Bool)} {o:Oper} {a:Act} {w:World}(ho:l[i]? =some o)(hw:Region.wanted o (yielded l.toArray a.tmps)=true)(h:∀K:Act→World→Prop,Shut (∀a' w',S w'→(S w'→wpPl P l.toArray Q S L p a' w')→K a' w')→wpList P l.toArray (Exit.then K Q) [o] a w):wpPl P l.toArray Q S L ((i,false)::p) a w:=by
 have h1:=h _ (fun a' w' h1 h2=>And.intro h1 (h2 h1))
 show wpOp P l.toArray Q i _ a w
 unfold wpOp
 have hx:l.toArray[i]? =some o:=by simpa using ho
 simp only[hx,hw,if_true]
 simp only[wpList,hw,if_true]at h1
 rcases h1 with h1|⟨h1,h2⟩
 ·refine .inl ?_
  unfold Oper.wp at*
  generalize(execOp a.eval o).run P w=r at*
  cases r with
  |ok x w'=>cases x<;>exact h1
  |halt x w'=>cases x<;>exact h1
 ·obtain⟨a',w',h2⟩:=h2
  exact .inr ⟨h1,a',w',h2⟩
end
end Go.Proofs.YtfamifgchgolpaaGreat.Pl
namespace Go.Proofs.YtfamifgchgolpaaGreat
open Go Go.RowKit Go.Sort Go.Lib
namespace Tx
open Sw Mm Pl
section
variable {P:Program} {ops:Array Oper} {Q:Exit→Act→World→Prop} {S:World→Prop}
theorem yields_memG {o:Oper} {a:Act} {a0:World} {L:List (Nat×Array Value×TypeId)}(hw:Region.wanted o (yielded ops a.tmps)=true)(ty:TypeId)(x:Operand)(ho:o.op= .load ty x)(i:Nat) {B:Nat} {C:Array Value} {t:TypeId}(hS:∀w,S w→Mem a0 w L)(hL:L[i]? =some (B,C,t))(hx:a.eval x= .pointer (some ⟨B,0,none⟩))
 (d:TypeDesc) (hu:P.underlying ty=some d) (hd:d.isRow=true) (hi:(P.info? ty).map (·.size)=some C.size):YieldsIf P ops S o (.agg C) a:=
 yieldsIf_load_mid hw ty x ho B 0 hx C.toList d (fun w hs=>(hS w hs).range i hL 0 C (by simp)) hu hd (by rw[hi];simp)
theorem yields_celG {o:Oper} {a:Act} {a0:World} {L:List (Nat×Array Value×TypeId)}(hw:Region.wanted o (yielded ops a.tmps)=true)(ty:TypeId)(x:Operand)(ho:o.op= .load ty x)(i:Nat) {B:Nat} {C:Array Value} {t:TypeId}(hS:∀w,S w→Mem a0 w L)(hL:L[i]? =some (B,C,t))(k:Nat)(hx:a.eval x= .pointer (some ⟨B,k,none⟩))(v:Value)(hv:C[k]? =some v)
 (d:TypeDesc) (hu:P.underlying ty=some d) (hd:(match d with| .struct _| .array _ _=>true|_=>false)=false):YieldsIf P ops S o v a:=
 .inl ⟨hw,fun w hs=>by
  have h1:=((hS w hs).cell i hL k).trans hv
  simp[execOp,ho,hx,Instr.loadAt,Instr.sureAddr,loadVar,run_isAgg_plain hu hd,run_load,h1]⟩
theorem wpList_loadC {rest:List Oper} {op:Oper} {a:Act} {w:World}(i:Nat) {a0:World} {L:List (Nat×Array Value×TypeId)}(hM:Hid (Mem a0 w L))(hw:Region.wanted op (yielded ops a.tmps)=true)(ty:TypeId)(x:Operand)(ho:op.op= .load ty x) {B:Nat} {C:Array Value} {t:TypeId}(hL:L[i]? =some (B,C,t))(k:Nat)(hx:a.eval x= .pointer (some ⟨B,k,none⟩))(v:Value)(hv:C[k]? =some v)
 (d:TypeDesc) (hu:P.underlying ty=some d) (hd:(match d with| .struct _| .array _ _=>true|_=>false)=false) (h:wpList P ops Q rest (a.put op.dst v) w):wpList P ops Q (op::rest) a w:=
 wpList_pureX hw (by
  have h1:=(hM.cell i hL k).trans hv
  simp[execOp,ho,hx,Instr.loadAt,Instr.sureAddr,loadVar,run_isAgg_plain hu hd,run_load,h1]) h
end
end Tx
end Go.Proofs.YtfamifgchgolpaaGreat
namespace Go.Proofs.YtfamifgchgolpaaGreat.Pl
open Go
theorem getD_set_true' {listed:Array Bool} {i:Nat}(h:i<listed.size):(listed.setIfInBounds i true).getD i false=true:=by simp[h]
theorem ready_lt {md:Region.Mode} {ops:Array Oper} {listed:Array Bool} {j:Nat}(h:j∈Region.ready md ops listed):j<ops.size:=by
 obtain⟨_,o,ho,_⟩:=mem_ready.1 h
 exact(Array.getElem?_eq_some_iff.1 ho).1
section
variable {P:Program} {ops:Array Oper} {Q:Exit→Act→World→Prop} {md:Region.Mode}
def wpHd2(P:Program)(md:Region.Mode)(ops:Array Oper)(Q:Exit→Act→World→Prop)(S:Array Bool→World→Prop)(L:Array Bool→Act→World→Prop):Nat→Array Bool→Act→World→Prop
 |0,listed,a,w=>L listed a w
 |f+1,listed,a,w=>Region.ready md ops listed≠ []∧∀i∈Region.ready md ops listed,wpOp P ops Q i (fun a' w'=>S (listed.setIfInBounds i true) w'∧wpHd2 P md ops Q S L f (listed.setIfInBounds i true) a' w') a w
theorem wpAny_of_hd2 {S:Array Bool→World→Prop} {L:Array Bool→Act→World→Prop}(hL:∀listed a w,L listed a w→wpAny P md ops Q 0 listed a w):
 ∀(f:Nat) (listed:Array Bool) (a:Act) (w:World),wpHd2 P md ops Q S L f listed a w→wpAny P md ops Q f listed a w
 |0,listed,a,w,h=>hL _ _ _ h
 |f+1,listed,a,w,h=>⟨fun h0=>absurd h0 h.1,fun i hi=>wpOp_mono (fun a' w' h'=>wpAny_of_hd2 hL f _ a' w' h'.2) (h.2 i hi)⟩
theorem wpHd2_first {S:Array Bool→World→Prop} {S0:World→Prop} {i:Nat} {oi:Oper} {v:Value} {L:Array Bool→Act→World→Prop}(hi:ops[i]? =some oi)(hsel:∀(j:Nat) (o:Oper) cs b,ops[j]? =some o→o.op≠ .select cs b)
 (hQ:∀c a w,Q (.panic c) (a.put oi.dst v) w→Q (.panic c) a w)
 (hdone:∀listed a w,L listed a w→∀j∈Region.ready md ops listed,ops.size≤j)
 (hS0:∀listed w,HeadInv md ops ops.size listed→listed.getD i true=false→S listed w→S0 w)
 (hSi:∀listed w,S (listed.setIfInBounds i true) w↔S listed w):
 ∀(f:Nat) (listed:Array Bool) (a:Act) (w:World),HeadInv md ops ops.size listed→
  (∀j oj,ops[j]? =some oj→j≠i→listed.getD j true=false→(∀e∈oj.after,Region.binds md e=true→e.on≠i)→oi.apart ops oj=true)→
  i∈Region.ready md ops listed→YieldsIf P ops S0 oi v a→S listed w→
  wpHd2 P md ops Q S L f (listed.setIfInBounds i true) (a.put oi.dst v) w→wpHd2 P md ops Q S L (f+1) listed a w:=by
 intro f
 induction f with
 |zero=>
  intro listed a w inv _ hr hy hS H
  have hun:=(mem_ready.1 hr).1
  refine⟨fun h=>(by rw[h]at hr;cases hr),fun j hj=> ?_⟩
  by_cases hji:j=i
  ·subst hji;exact hy.wpOp hi (hS0 _ _ inv hun hS) ⟨(hSi _ _).2 hS,H⟩
  ·have:=hdone _ _ _ H j (ready_mono hj hji)
   have:=ready_lt hj
   omega
 |succ f ih=>
  intro listed a w inv hfree hr hy hS H
  have hun:=(mem_ready.1 hr).1
  refine⟨fun h=>(by rw[h]at hr;cases hr),fun j hj=> ?_⟩
  by_cases hji:j=i
  ·subst hji;exact hy.wpOp hi (hS0 _ _ inv hun hS) ⟨(hSi _ _).2 hS,H⟩
  ·have h1:=H.2 j (ready_mono hj hji)
   obtain⟨hjun,oj,hoj,hall⟩:=mem_ready.1 hj
   have hnot:∀e∈oj.after,Region.binds md e=true→e.on≠i:=fun e he hb heq=>by
    have h1:=hall e he hb
    rw[heq,getD_both hun]at h1
    cases h1
   have h2:=wpOp_putIf hoj (hfree j oj hoj hji hjun hnot) (fun cs b=>hsel i oi cs b hi) (fun cs b=>hsel j oj cs b hoj) hQ hy h1
   have hfree':∀k ok,ops[k]? =some ok→k≠i→(listed.setIfInBounds j true).getD k true=false→
    (∀e∈ok.after,Region.binds md e=true→e.on≠i)→oi.apart ops ok=true:=fun k ok hk hki hun hno=>by
    refine hfree k ok hk hki ?_ hno
    by_cases hjk:j=k
    ·subst hjk;exact hjun
    ·rw[getD_set_ne true hjk]at hun;exact hun
   refine wpOp_mono (fun a' w' h3=> ?_) h2
   have h4:=h3.2.1
   rw[Array.setIfInBounds_comm _ _ (Ne.symm hji),hSi]at h4
   refine⟨h4,ih (listed.setIfInBounds j true) a' w' (inv.set hj (ready_lt hj)) hfree' (ready_mono hr (Ne.symm hji)) h3.1 h4 ?_⟩
   rw[Array.setIfInBounds_comm _ _ hji]
   exact h3.2.2
def Stg(s:Nat)(S:World→Prop)(listed:Array Bool)(w:World):Prop:=listed.getD s false=false→S w
def plan2B(md:Region.Mode)(ops:Array Oper)(s:Nat):List (Nat×Nat)→Array Bool→Bool
 | [],listed=>Region.seqB md ops 0 ops.size listed
 |(i,0)::p,listed=>decide (Region.ready md ops listed= [i])&&plan2B md ops s p (listed.setIfInBounds i true)
 |(i,1)::p,listed=>(Region.ready md ops listed).contains i&&Region.free md ops listed i&&decide (i≠s)&&plan2B md ops s p (listed.setIfInBounds i true)
 |(i,_)::p,listed=>(Region.ready md ops listed).contains i&&Region.free md ops listed i&&decide (i≠s)&&(Region.waitsFor md ops s i||decide (ops.size≤s))&&plan2B md ops s p (listed.setIfInBounds i true)
def wpPl2(P:Program)(ops:Array Oper)(Q:Exit→Act→World→Prop)(S:World→Prop)(s:Nat)(L:Act→World→Prop):List (Nat×Nat)→Bool→Act→World→Prop
 | [],_,a,w=>L a w
 |(i,0)::p,d,a,w=>wpOp P ops Q i (fun a' w'=>((d||i==s)=false→S w')∧wpPl2 P ops Q S s L p (d||i==s) a' w') a w
 |(i,1)::p,d,a,w=>∃o v,ops[i]? =some o∧YieldsIf P ops (fun _=>True) o v a∧wpPl2 P ops Q S s L p d (a.put o.dst v) w
 |(i,_)::p,d,a,w=>∃o v,ops[i]? =some o∧YieldsIf P ops S o v a∧wpPl2 P ops Q S s L p d (a.put o.dst v) w
theorem wpHd2_plan {S:World→Prop} {s:Nat} {Lq:Act→World→Prop}(hsel:Region.noSelect ops=true)(hQ:∀c a d v w,Q (.panic c) (Act.put a d v) w→Q (.panic c) a w):
 ∀(p:List (Nat×Nat)) (listed:Array Bool) (d:Bool) (a:Act) (w:World),HeadInv md ops ops.size listed→listed.getD s false=d→plan2B md ops s p listed=true→(d=false→S w)→wpPl2 P ops Q S s Lq p d a w→
 wpHd2 P md ops Q (Stg s S) (fun listed' a' w'=>Region.seqB md ops 0 ops.size listed'=true∧Lq a' w') p.length listed a w
 | [],listed,d,a,w,_,_,hB,_,h=>⟨hB,h⟩
 |(i,0)::p,listed,d,a,w,inv,hd,hB,hS,h=>by
  simp only[plan2B,Bool.and_eq_true,decide_eq_true_eq]at hB
  obtain⟨hr,hB'⟩:=hB
  have hr':i∈Region.ready md ops listed:=by rw[hr];simp
  have hd2:(listed.setIfInBounds i true).getD s false=(d||i==s):=by
   by_cases e:i=s
   ·subst e
    rw[getD_set_true' (by rw[inv.size];exact ready_lt hr')]
    simp
   ·rw[getD_set_ne false e,hd]
    simp[e]
  refine⟨by rw[hr];simp,fun j hj=> ?_⟩
  rw[hr]at hj
  have hji:j=i:=by simpa using hj
  subst hji
  exact wpOp_mono (fun a' w' h'=>⟨fun h0=>h'.1 (hd2.symm.trans h0),wpHd2_plan hsel hQ p _ _ a' w' (inv.set hr' (ready_lt hr')) hd2 hB' h'.1 h'.2⟩) h
 |(i,1)::p,listed,d,a,w,inv,hd,hB,hS,h=>by
  simp only[plan2B,Bool.and_eq_true,decide_eq_true_eq]at hB
  obtain⟨⟨⟨hr,hf⟩,hne⟩,hB'⟩:=hB
  obtain⟨o,v,ho,hy,hK⟩:=h
  have hr':i∈Region.ready md ops listed:=by simpa using hr
  have hi2:∀(l:Array Bool),(l.setIfInBounds i true).getD s false=l.getD s false:=fun l=>getD_set_ne false hne
  exact wpHd2_first ho (Region.noSelect_spec hsel) (fun c a w=>hQ c a _ _ w) (fun listed' a' w' hL=>seqB_ready hL.1) (fun _ _ _ _ _=>trivial) (fun l w=>by unfold Stg;rw[hi2]) p.length listed a w inv (Region.free_spec ho hf) hr' hy (fun h0=>hS (hd.symm.trans h0))
   (wpHd2_plan hsel hQ p _ d _ w (inv.set hr' (ready_lt hr')) ((hi2 _).trans hd) hB' hS hK)
 |(i,k+2)::p,listed,d,a,w,inv,hd,hB,hS,h=>by
  simp only[plan2B,Bool.and_eq_true,decide_eq_true_eq]at hB
  obtain⟨⟨⟨⟨hr,hf⟩,hne⟩,hw⟩,hB'⟩:=hB
  obtain⟨o,v,ho,hy,hK⟩:=h
  have hr':i∈Region.ready md ops listed:=by simpa using hr
  have hi2:∀(l:Array Bool),(l.setIfInBounds i true).getD s false=l.getD s false:=fun l=>getD_set_ne false hne
  refine wpHd2_first ho (Region.noSelect_spec hsel) (fun c a w=>hQ c a _ _ w) (fun listed' a' w' hL=>seqB_ready hL.1) (fun l w inv2 hun hSt=> ?_) (fun l w=>by unfold Stg;rw[hi2]) p.length listed a w inv (Region.free_spec ho hf) hr' hy (fun h0=>hS (hd.symm.trans h0))
   (wpHd2_plan hsel hQ p _ d _ w (inv.set hr' (ready_lt hr')) ((hi2 _).trans hd) hB' hS hK)
  refine hSt ?_
  rcases Bool.or_eq_true _ _▸hw with hw|hw
  ·obtain⟨os,hos,e,he,hb,hon⟩:=Region.waitsFor_spec hw
   cases hg:l.getD s false
   ·rfl
   ·have:=inv2.closed s os hos hg e he hb
    rw[hon,getD_both hun]at this
    cases this
  ·have h3:l.size≤s:=by rw[inv2.size];exact of_decide_eq_true hw
   simp[h3]
def two2Ok(ops:Array Oper)(s:Nat)(p:List (Nat×Nat)):Bool:=Region.noSelect ops&&decide (p.length=ops.size)&&plan2B .any ops s p (Array.replicate ops.size false)
theorem wp_region_two {id:Nat} {a:Act} {w:World} {l:List Oper}(S:World→Prop)(s:Nat)(p:List (Nat×Nat))(hm:P.follows .mixedOrders=true)(hB:two2Ok l.toArray s p=true)(hS:S w.drew)
 (h:wpPl2 P l.toArray (calm Q) S s (fun a' w'=>Q .normal a' w') p false a w.drew):(Code.region id l.toArray true).wp P Q a w:=by
 refine Code.wp_mono calm_imp ?_
 simp only[two2Ok,Bool.and_eq_true,decide_eq_true_eq]at hB
 obtain⟨⟨hsel,hlen⟩,hp⟩:=hB
 have inv0:HeadInv .any l.toArray l.toArray.size (Array.replicate l.toArray.size false):=
  ⟨by simp,fun j oj _ hl=>(by rw[getD_replicate_false]at hl;cases hl),fun t _ ht=>getD_in (by simpa using ht) (getD_replicate_false _ _)⟩
 have H:=wpHd2_plan (md:= .any) (Q:=calm Q) hsel (fun _ _ _ _ _ h=>h) p _ false a w.drew inv0 (getD_replicate_false _ _) hp (fun _=>hS) h
 refine wp_region_any hm ?_
 have:=wpAny_of_hd2 (Q:=calm Q) (fun listed a' w' hL=>wpAny_of_seq (md:= .any) (Q':=calm Q) [] l.toArray.size listed a' w' (fun j=>by simp) hL.1 hL.2) _ _ _ _ H
 rw[hlen]at this
 exact this
variable {S:World→Prop}
theorem p2Take {l:List Oper} {L:Act→World→Prop} {i s:Nat} {p:List (Nat×Nat)} {d:Bool} {o:Oper} {v:Value} {a:Act} {w:World}(ho:l[i]? =some o)(hy:YieldsIf P l.toArray S o v a)(h:wpPl2 P l.toArray Q S s L p d (a.put o.dst v) w):wpPl2 P l.toArray Q S s L ((i,2)::p) d a w:=⟨o,v,by simpa using ho,hy,h⟩
theorem p2Pure {l:List Oper} {L:Act→World→Prop} {i s:Nat} {p:List (Nat×Nat)} {d:Bool} {o:Oper} {v:Value} {a:Act} {w:World}(ho:l[i]? =some o)(hg:o.guard=none)(hy:∀w,(fun _=>True) w→(execOp a.eval o).run P w= .ok (.value v) w)(h:wpPl2 P l.toArray Q S s L p d (a.put o.dst v) w):wpPl2 P l.toArray Q S s L ((i,1)::p) d a w:=⟨o,v,by simpa using ho,.inl ⟨by simp[Region.wanted,hg],hy⟩,h⟩
theorem p2Q {l:List Oper} {L:Act→World→Prop} {i s:Nat} {p:List (Nat×Nat)} {d:Bool} {o:Oper} {v:Value} {a:Act} {w:World}(h:wpPl2 P l.toArray Q S s L p d (a.put o.dst v) w)(ho:l[i]? =some o:=by rfl)(hg:o.guard=none:=by rfl)(hy:∀w,(fun _=>True) w→(execOp a.eval o).run P w= .ok (.value v) w:=by intro w_ hSw;clear hSw;go_simp;first|done|exact rfl):wpPl2 P l.toArray Q S s L ((i,1)::p) d a w:=p2Pure ho hg hy h
theorem p2Done {L:Act→World→Prop} {s:Nat} {d:Bool} {a:Act} {w:World}(h:L a w):wpPl2 P ops Q S s L [] d a w:=h
theorem p2Step {l:List Oper} {L:Act→World→Prop} {i s:Nat} {p:List (Nat×Nat)} {d:Bool} {o:Oper} {a:Act} {w:World}(ho:l[i]? =some o)(hg:o.guard=none)
 (h:∀K:Act→World→Prop,Shut (∀a' w',((d||i==s)=false→S w')→(((d||i==s)=false→S w')→wpPl2 P l.toArray Q S s L p (d||i==s) a' w')→K a' w')→wpList P l.toArray (Exit.then K Q) [o] a w):wpPl2 P l.toArray Q S s L ((i,0)::p) d a w:=by
 have h1:=h _ (fun a' w' h1 h2=>And.intro h1 (h2 h1))
 have hw:Region.wanted o (yielded l.toArray a.tmps)=true:=by simp[Region.wanted,hg]
 show wpOp P l.toArray Q i _ a w
 unfold wpOp
 have hx:l.toArray[i]? =some o:=by simpa using ho
 simp only[hx,hw,if_true]
 simp only[wpList,hw,if_true]at h1
 rcases h1 with h1|⟨h1,h2⟩
 ·refine .inl ?_
  unfold Oper.wp at*
  generalize(execOp a.eval o).run P w=r at*
  cases r with
  |ok x w'=>cases x<;>exact h1
  |halt x w'=>cases x<;>exact h1
 ·obtain⟨a',w',h2⟩:=h2
  exact .inr ⟨h1,a',w',h2⟩
end
end Go.Proofs.YtfamifgchgolpaaGreat.Pl
