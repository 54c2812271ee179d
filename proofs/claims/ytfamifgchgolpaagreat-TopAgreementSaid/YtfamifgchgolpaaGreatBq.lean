/- A region that draws its order, done by a plan: what yields one value in every world of a class is taken first, a call is done where nothing else can come up; then the tail (the stores), one operation after the other. -/
import Derived.Test.YtfamifgchgolpaaGreatBo
import Derived.StillTail
import Derived.OrdersHeld
import Derived.Deep.MidRow
import Derived.Shelf.Abstract
set_option linter.unusedVariables false
set_option linter.unusedSimpArgs false
namespace Go.Proofs.YtfamifgchgolpaaGreat.Pl
open Go
section
variable {P:Program} {ops:Array Oper} {Q:Exit→Act→World→Prop} {md:Region.Mode} {S:World→Prop}
def wpHd(P:Program)(md:Region.Mode)(ops:Array Oper)(Q:Exit→Act→World→Prop)(S:World→Prop)(n:Nat)(L:Array Bool→Act→World→Prop):Nat→Array Bool→Act→World→Prop
 |0,listed,a,w=>L listed a w
 |f+1,listed,a,w=>Region.ready md ops listed≠ []∧∀i∈Region.ready md ops listed,i<n∧wpOp P ops Q i (fun a' w'=>S w'∧wpHd P md ops Q S n L f (listed.setIfInBounds i true) a' w') a w
theorem wpAny_of_hd {n g:Nat} {L:Array Bool→Act→World→Prop}(hL:∀listed a w,L listed a w→wpAny P md ops Q g listed a w):
 ∀(f:Nat) (listed:Array Bool) (a:Act) (w:World),wpHd P md ops Q S n L f listed a w→wpAny P md ops Q (f+g) listed a w
 |0,listed,a,w,h=>by rw[Nat.zero_add];exact hL _ _ _ h
 |f+1,listed,a,w,h=>by
  rw[show f+1+g=(f+g)+1 by omega]
  exact⟨fun h0=>absurd h0 h.1,fun i hi=>wpOp_mono (fun a' w' h'=>wpAny_of_hd hL f _ a' w' h'.2) (h.2 i hi).2⟩
theorem wpHd_first {n i:Nat} {oi:Oper} {v:Value} {L:Array Bool→Act→World→Prop}(hi:ops[i]? =some oi)(hsel:∀(j:Nat) (o:Oper) cs b,ops[j]? =some o→o.op≠ .select cs b)
 (hQ:∀c a w,Q (.panic c) (a.put oi.dst v) w→Q (.panic c) a w)
 (hs:Region.sinkB md ops n=true) (hc:Region.chainB md ops n=true) (hn:n<ops.size) (hin:i<n)
 (hdone:∀listed a w,L listed a w→∀j∈Region.ready md ops listed,n≤j):
 ∀(f:Nat) (listed:Array Bool) (a:Act) (w:World),HeadInv md ops n listed→
  (∀j oj,ops[j]? =some oj→j≠i→listed.getD j true=false→(∀e∈oj.after,Region.binds md e=true→e.on≠i)→oi.apart ops oj=true)→
  i∈Region.ready md ops listed→YieldsIf P ops S oi v a→S w→
  wpHd P md ops Q S n L f (listed.setIfInBounds i true) (a.put oi.dst v) w→wpHd P md ops Q S n L (f+1) listed a w:=by
 intro f
 induction f with
 |zero=>
  intro listed a w inv _ hr hy hS H
  have hun:=(mem_ready.1 hr).1
  refine⟨fun h=>(by rw[h]at hr;cases hr),fun j hj=> ?_⟩
  have hjn:j<n:=by
   rcases Nat.lt_or_ge j n with h|h
   ·exact h
   ·exact absurd hj (tail_waits hs hc hn inv _ i rfl hin hun j h)
  refine⟨hjn,?_⟩
  by_cases hji:j=i
  ·subst hji;exact hy.wpOp hi hS ⟨hS,H⟩
  ·have:=hdone _ _ _ H j (ready_mono hj hji)
   omega
 |succ f ih=>
  intro listed a w inv hfree hr hy hS H
  have hun:=(mem_ready.1 hr).1
  refine⟨fun h=>(by rw[h]at hr;cases hr),fun j hj=> ?_⟩
  have hjn:j<n:=by
   rcases Nat.lt_or_ge j n with h|h
   ·exact h
   ·exact absurd hj (tail_waits hs hc hn inv _ i rfl hin hun j h)
  refine⟨hjn,?_⟩
  by_cases hji:j=i
  ·subst hji;exact hy.wpOp hi hS ⟨hS,H⟩
  ·have h1:=(H.2 j (ready_mono hj hji)).2
   obtain⟨hjun,oj,hoj,hall⟩:=mem_ready.1 hj
   have hnot:∀e∈oj.after,Region.binds md e=true→e.on≠i:=fun e he hb heq=>by
    have h1:=hall e he hb
    rw[heq,getD_both hun]at h1
    cases h1
   have h2:=wpOp_putIf hoj (hfree j oj hoj hji hjun hnot) (fun cs b=>hsel i oi cs b hi) (fun cs b=>hsel j oj cs b hoj) hQ hy h1
   have hfree':∀k ok,ops[k]? =some ok→k≠i→(listed.setIfInBounds j true).getD k true=false→
    (∀e∈ok.after,Region.binds md e=true→e.on≠i)→oi.apart ops ok=true:=fun k ok hk hki hun hno=>by
    refine hfree k ok hk hki ?_ hno
    by_cases hjk:j=k
    ·subst hjk;exact hjun
    ·rw[getD_set_ne true hjk]at hun;exact hun
   refine wpOp_mono (fun a' w' h3=>⟨h3.2.1,ih (listed.setIfInBounds j true) a' w' (inv.set hj hjn) hfree' (ready_mono hr (Ne.symm hji)) h3.1 h3.2.1 ?_⟩) h2
   rw[Array.setIfInBounds_comm _ _ hji]
   exact h3.2.2
def planB(md:Region.Mode)(ops:Array Oper)(n g:Nat):List (Nat×Bool)→Array Bool→Bool
 | [],listed=>Region.seqB md ops g n listed
 |(i,true)::p,listed=>(Region.ready md ops listed).contains i&&Region.free md ops listed i&&decide (i<n)&&planB md ops n g p (listed.setIfInBounds i true)
 |(i,false)::p,listed=>decide (Region.ready md ops listed= [i])&&decide (i<n)&&planB md ops n g p (listed.setIfInBounds i true)
def wpPl(P:Program)(ops:Array Oper)(Q:Exit→Act→World→Prop)(S:World→Prop)(L:Act→World→Prop):List (Nat×Bool)→Act→World→Prop
 | [],a,w=>L a w
 |(i,true)::p,a,w=>∃o v,ops[i]? =some o∧YieldsIf P ops S o v a∧wpPl P ops Q S L p (a.put o.dst v) w
 |(i,false)::p,a,w=>wpOp P ops Q i (fun a' w'=>S w'∧wpPl P ops Q S L p a' w') a w
theorem wpHd_plan {n g:Nat} {Lq:Act→World→Prop}(hsel:Region.noSelect ops=true)(hQ:∀c a d v w,Q (.panic c) (Act.put a d v) w→Q (.panic c) a w)(hs:Region.sinkB md ops n=true)(hc:Region.chainB md ops n=true)(hn:n<ops.size):
 ∀(p:List (Nat×Bool)) (listed:Array Bool) (a:Act) (w:World),HeadInv md ops n listed→planB md ops n g p listed=true→S w→wpPl P ops Q S Lq p a w→
 wpHd P md ops Q S n (fun listed' a' w'=>Region.seqB md ops g n listed'=true∧Lq a' w') p.length listed a w
 | [],listed,a,w,_,hB,_,h=>⟨hB,h⟩
 |(i,true)::p,listed,a,w,inv,hB,hS,h=>by
  simp only[planB,Bool.and_eq_true,decide_eq_true_eq]at hB
  obtain⟨⟨⟨hr,hf⟩,hin⟩,hB'⟩:=hB
  obtain⟨o,v,ho,hy,hK⟩:=h
  have hr':i∈Region.ready md ops listed:=by simpa using hr
  exact wpHd_first ho (Region.noSelect_spec hsel) (fun c a w=>hQ c a _ _ w) hs hc hn hin (fun listed' a' w' hL=>seqB_ready hL.1) p.length listed a w inv (Region.free_spec ho hf) hr' hy hS
   (wpHd_plan hsel hQ hs hc hn p _ _ w (inv.set hr' hin) hB' hS hK)
 |(i,false)::p,listed,a,w,inv,hB,hS,h=>by
  simp only[planB,Bool.and_eq_true,decide_eq_true_eq]at hB
  obtain⟨⟨hr,hin⟩,hB'⟩:=hB
  have hr':i∈Region.ready md ops listed:=by rw[hr];simp
  refine⟨by rw[hr];simp,fun j hj=> ?_⟩
  rw[hr]at hj
  have hji:j=i:=by simpa using hj
  subst hji
  exact⟨hin,wpOp_mono (fun a' w' h'=>⟨h'.1,wpHd_plan hsel hQ hs hc hn p _ a' w' (inv.set hr' hin) hB' h'.1 h'.2⟩) h⟩
def planOk(ops:Array Oper)(n:Nat)(p:List (Nat×Bool)):Bool:=
 Region.noSelect ops&&decide (n<ops.size)&&Region.sinkB .any ops n&&Region.chainB .any ops n&&decide (p.length=n)&&planB .any ops n (ops.size-n) p (Array.replicate ops.size false)
theorem wp_region_planQ {id:Nat} {a:Act} {w:World} {l:List Oper}(S:World→Prop)(n:Nat)(p:List (Nat×Bool))(hm:P.follows .mixedOrders=true)(hB:planOk l.toArray n p=true)
 (hQ:∀c a d v w,Q (.panic c) (Act.put a d v) w→Q (.panic c) a w) (hS:S w.drew)
 (h:wpPl P l.toArray Q S (fun a' w'=>wpList P l.toArray Q (l.drop n) a' w') p a w.drew):(Code.region id l.toArray true).wp P Q a w:=by
 simp only[planOk,Bool.and_eq_true,decide_eq_true_eq]at hB
 obtain⟨⟨⟨⟨⟨hsel,hn⟩,hs⟩,hc⟩,hlen⟩,hp⟩:=hB
 have hdl:(l.drop n).length=l.toArray.size-n:=by simp
 have inv0:HeadInv .any l.toArray n (Array.replicate l.toArray.size false):=
  ⟨by simp,fun j oj _ hl=>(by rw[getD_replicate_false]at hl;cases hl),fun t _ ht=>getD_in (by simpa using ht) (getD_replicate_false _ _)⟩
 have H:=wpHd_plan (md:= .any) (g:=l.toArray.size-n) hsel hQ hs hc hn p _ a w.drew inv0 hp hS h
 refine wp_region_any hm ?_
 have:=wpAny_of_hd (Q:=Q) (g:=l.toArray.size-n) (fun listed a' w' hL=>by
  have:=wpAny_of_seq (md:= .any) (Q':=Q) (l.drop n) n listed a' w' (fun j=>by simp[List.getElem?_drop]) (by rw[hdl];exact hL.1) hL.2
  rwa[hdl]at this) _ _ _ _ H
 rw[hlen,show n+(l.toArray.size-n)=l.toArray.size by omega]at this
 exact this
def calm(Q:Exit→Act→World→Prop):Exit→Act→World→Prop:=Exit.then (fun a w=>Q .normal a w) (fun _ _ _=>False)
theorem calm_imp {Q:Exit→Act→World→Prop}:∀(e:Exit) (a:Act) (w:World),calm Q e a w→Q e a w:=fun e a w h=>by
 cases e<;>first|exact h|exact(h:False).elim
theorem wp_region_plan {id:Nat} {a:Act} {w:World} {l:List Oper}(S:World→Prop)(n:Nat)(p:List (Nat×Bool))(hm:P.follows .mixedOrders=true)(hB:planOk l.toArray n p=true)(hS:S w.drew)
 (h:wpPl P l.toArray (calm Q) S (fun a' w'=>wpList P l.toArray (Exit.then (fun a w=>Q .normal a w) (fun _ _ _=>False)) (l.drop n) a' w') p a w.drew):(Code.region id l.toArray true).wp P Q a w:=
 Code.wp_mono calm_imp (wp_region_planQ (Q:=calm Q) S n p hm hB (fun _ _ _ _ _ h=>h) hS h)
theorem plTake {L:Act→World→Prop} {i:Nat} {p:List (Nat×Bool)} {o:Oper} {v:Value} {a:Act} {w:World}(ho:ops[i]? =some o)(hy:YieldsIf P ops S o v a)(h:wpPl P ops Q S L p (a.put o.dst v) w):wpPl P ops Q S L ((i,true)::p) a w:=⟨o,v,ho,hy,h⟩
theorem plStep {L:Act→World→Prop} {i:Nat} {p:List (Nat×Bool)} {o:Oper} {a:Act} {w:World}(ho:ops[i]? =some o)(hg:o.guard=none)(h:∀K:Act→World→Prop,Shut (∀a' w',S w'→(S w'→wpPl P ops Q S L p a' w')→K a' w')→wpList P ops (Exit.then K Q) [o] a w):wpPl P ops Q S L ((i,false)::p) a w:=by
 have h1:=h _ (fun a' w' h1 h2=>And.intro h1 (h2 h1))
 have hw:Region.wanted o (yielded ops a.tmps)=true:=by simp[Region.wanted,hg]
 show wpOp P ops Q i _ a w
 unfold wpOp
 simp only[ho,hw,if_true]
 simp only[wpList,hw,if_true]at h1
 rcases h1 with h1|⟨h1,h2⟩
 ·refine .inl ?_
  unfold Oper.wp at*
  generalize(execOp a.eval o).run P w=r at*
  cases r with
  |ok x w'=>cases x<;>exact h1
  |halt x w'=>cases x<;>exact h1
 ·obtain⟨a',w',h2⟩:=h2
  exact .inr ⟨h1,a',w',h2⟩
theorem plTakeL {l:List Oper} {L:Act→World→Prop} {i:Nat} {p:List (Nat×Bool)} {o:Oper} {v:Value} {a:Act} {w:World}(ho:l[i]? =some o)(hy:YieldsIf P l.toArray S o v a)(h:wpPl P l.toArray Q S L p (a.put o.dst v) w):wpPl P l.toArray Q S L ((i,true)::p) a w:=plTake (by simpa using ho) hy h
theorem plPure {l:List Oper} {L:Act→World→Prop} {i:Nat} {p:List (Nat×Bool)} {o:Oper} {v:Value} {a:Act} {w:World}(ho:l[i]? =some o)(hg:o.guard=none)(hy:∀w,S w→(execOp a.eval o).run P w= .ok (.value v) w)(h:wpPl P l.toArray Q S L p (a.put o.dst v) w):wpPl P l.toArray Q S L ((i,true)::p) a w:=plTakeL ho (.inl ⟨by simp[Region.wanted,hg],hy⟩) h
theorem plStepL {l:List Oper} {L:Act→World→Prop} {i:Nat} {p:List (Nat×Bool)} {o:Oper} {a:Act} {w:World}(ho:l[i]? =some o)(hg:o.guard=none)(h:∀K:Act→World→Prop,Shut (∀a' w',S w'→(S w'→wpPl P l.toArray Q S L p a' w')→K a' w')→wpList P l.toArray (Exit.then K Q) [o] a w):wpPl P l.toArray Q S L ((i,false)::p) a w:=plStep (by simpa using ho) hg h
theorem plDone {L:Act→World→Prop} {a:Act} {w:World}(h:L a w):wpPl P ops Q S L [] a w:=h
theorem yields_part {o:Oper} {a:Act}(hg:o.guard=none)(ty:TypeId)(x:Operand)(ho:o.op= .load ty x)(B k:Nat)(hx:a.eval x= .pointer (some ⟨B,k,none⟩))(cs:List Value)(d:TypeDesc)(hS:∀w,S w→w.rangeAt B k cs)
 (hu:P.underlying ty=some d) (hd:d.isRow=true) (hi:(P.info? ty).map (·.size)=some cs.length):YieldsIf P ops S o (.agg cs.toArray) a:=
 yieldsIf_load_mid (by simp[Region.wanted,hg]) ty x ho B k hx cs d hS hu hd hi
end
end Go.Proofs.YtfamifgchgolpaaGreat.Pl
namespace Go.Proofs.YtfamifgchgolpaaGreat
open Go Go.RowKit Go.Sort Go.Lib
namespace Tx
open Sw Mm Pl
theorem Mem.range {a w:World} {L:List (Nat×Array Value×TypeId)}(h:Mem a w L)(i:Nat) {B:Nat} {C:Array Value} {t:TypeId}(hL:L[i]? =some (B,C,t))(k:Nat)(D:Array Value)(hD:C.extract k (k+D.size)=D):w.rangeAt B k D.toList:=fun j v hv=>by
 rw[h.cell i hL]
 rw[←hD,Array.getElem?_toList]at hv
 obtain⟨h1,h2⟩:=Array.getElem?_eq_some_iff.1 hv
 rw[Array.size_extract]at h1
 rw[Array.getElem_extract]at h2
 exact Array.getElem?_eq_some_iff.2 ⟨by omega,h2⟩
section
variable {P:Program} {ops:Array Oper} {Q:Exit→Act→World→Prop} {S:World→Prop}
theorem yields_mem {o:Oper} {a:Act} {a0:World} {L:List (Nat×Array Value×TypeId)}(hg:o.guard=none)(ty:TypeId)(x:Operand)(ho:o.op= .load ty x)(i:Nat) {B:Nat} {C:Array Value} {t:TypeId}(hS:∀w,S w→Mem a0 w L)(hL:L[i]? =some (B,C,t))(k:Nat)(hx:a.eval x= .pointer (some ⟨B,k,none⟩))(D:Array Value)(hD:C.extract k (k+D.size)=D)
 (d:TypeDesc) (hu:P.underlying ty=some d) (hd:d.isRow=true) (hi:(P.info? ty).map (·.size)=some D.size):YieldsIf P ops S o (.agg D) a:=
 yields_part hg ty x ho B k hx D.toList d (fun w hw=>(hS w hw).range i hL k D hD) hu hd (by rw[hi];simp)
theorem wpList_loadP {rest:List Oper} {op:Oper} {a:Act} {w:World}(i:Nat) {a0:World} {L:List (Nat×Array Value×TypeId)}(hM:Hid (Mem a0 w L))(hw:Region.wanted op (yielded ops a.tmps)=true)(ty:TypeId)(x:Operand)(ho:op.op= .load ty x)
 (B k:Nat) (hx:a.eval x= .pointer (some ⟨B,k,none⟩)) {C:Array Value} {t:TypeId} (hL:L[i]? =some (B,C,t)) (D:Array Value) (hD:C.extract k (k+D.size)=D) (d:TypeDesc) (hu:P.underlying ty=some d) (hd:d.isRow=true)
 (hi:(P.info? ty).map (·.size)=some D.size)
 (h:wpList P ops Q rest (a.put op.dst (.agg D)) w):wpList P ops Q (op::rest) a w:=
 wpList_step fun K hK=>by
  rw[if_pos hw]
  have h1:=run_loadVar_mid (P:=P) w B k ty D.toList d (hM.range i hL k D hD) hu hd (by rw[hi];simp)
  unfold Oper.wp execOp
  simp only[ho,hx,Instr.loadAt,Instr.sureAddr,Sem.run_bind,Sem.run_pure,Result.andThen_ok,h1]
  exact hK _ _ h
theorem lP {P:Program} {ops:Array Oper} {rest:List Oper} {op:Oper} {a:Act} {w:World} {Q:Exit→Act→World→Prop} {a0:World} {L:List (Nat×Array Value×TypeId)}(i:Nat)(hM:Hid (Mem a0 w L))(k:Nat)(D:Array Value) {ty:TypeId} {d:TypeDesc}(hu:P.underlying ty=some d) {x:Operand} {B:Nat} {C:Array Value} {t:TypeId}
 (h:wpList P ops Q rest (a.put op.dst (.agg D)) w) (hw:Region.wanted op (yielded ops a.tmps)=true:=by rfl) (ho:op.op= .load ty x:=by rfl) (hx:a.eval x= .pointer (some ⟨B,k,none⟩):=by rfl) (hL:L[i]? =some (B,C,t):=by rfl)
 (hD:C.extract k (k+D.size)=D:=by kernel_rfl) (hd:d.isRow=true:=by rfl) (hi:(P.info? ty).map (·.size)=some D.size:=by kernel_rfl):wpList P ops Q (op::rest) a w:=
 wpList_loadP i hM hw ty x ho B k hx hL D hD d hu hd hi h
end
theorem yields_cell {P:Program} {ops:Array Oper} {S:World→Prop} {o:Oper} {a:Act}(hg:o.guard=none)(ty:TypeId)(x:Operand)(ho:o.op= .load ty x)(p:Addr)(hx:a.eval x= .pointer (some p))(v:Value)(hS:∀w,S w→w.cell? p=some v)(d:TypeDesc)(hu:P.underlying ty=some d)(hd:(match d with| .struct _| .array _ _=>true|_=>false)=false):YieldsIf P ops S o v a:=
 .inl ⟨by simp[Region.wanted,hg],fun w hw=>by
  have h1:=hS w hw
  simp[execOp,ho,hx,Instr.loadAt,Instr.sureAddr,loadVar,run_isAgg_plain hu hd,run_load,h1]⟩
theorem yields_memc {P:Program} {ops:Array Oper} {S:World→Prop} {o:Oper} {a:Act} {a0:World} {L:List (Nat×Array Value×TypeId)}(hg:o.guard=none)(ty:TypeId)(x:Operand)(ho:o.op= .load ty x)(i:Nat) {B:Nat} {C:Array Value} {t:TypeId}(hS:∀w,S w→Mem a0 w L)(hL:L[i]? =some (B,C,t))(k:Nat)(hx:a.eval x= .pointer (some ⟨B,k,none⟩))(v:Value)(hv:C[k]? =some v)
 (d:TypeDesc) (hu:P.underlying ty=some d) (hd:(match d with| .struct _| .array _ _=>true|_=>false)=false):YieldsIf P ops S o v a:=
 yields_cell hg ty x ho ⟨B,k,none⟩ hx v (fun w hw=>((hS w hw).cell i hL k).trans hv) d hu hd
theorem yields_memw {P:Program} {ops:Array Oper} {S:World→Prop} {o:Oper} {a:Act} {a0:World} {L:List (Nat×Array Value×TypeId)}(hg:o.guard=none)(ty:TypeId)(x:Operand)(ho:o.op= .load ty x)(i:Nat) {B:Nat} {C:Array Value} {t:TypeId}(hS:∀w,S w→Mem a0 w L)(hL:L[i]? =some (B,C,t))(hx:a.eval x= .pointer (some ⟨B,0,none⟩))
 (d:TypeDesc) (hu:P.underlying ty=some d) (hd:d.isRow=true) (hi:(P.info? ty).map (·.size)=some C.size):YieldsIf P ops S o (.agg C) a:=
 yields_mem hg ty x ho i hS hL 0 hx C (by simp) d hu hd hi
theorem yw {P:Program} {ops:Array Oper} {S:World→Prop} {o:Oper} {a:Act} {a0:World} {L:List (Nat×Array Value×TypeId)}(i:Nat) {ty:TypeId} {d:TypeDesc}(hu:P.underlying ty=some d) {x:Operand} {B:Nat} {C:Array Value} {t:TypeId}(hS:∀w,S w→Mem a0 w L:=by exact fun _ h=>h)(hg:o.guard=none:=by rfl)(ho:o.op= .load ty x:=by rfl)(hL:L[i]? =some (B,C,t):=by rfl)(hx:a.eval x= .pointer (some ⟨B,0,none⟩):=by rfl)(hd:d.isRow=true:=by rfl)(hi:(P.info? ty).map (·.size)=some C.size:=by kernel_rfl):YieldsIf P ops S o (.agg C) a:=yields_memw hg ty x ho i hS hL hx d hu hd hi
theorem yc {P:Program} {ops:Array Oper} {S:World→Prop} {o:Oper} {a:Act} {a0:World} {L:List (Nat×Array Value×TypeId)}(i k:Nat)(v:Value) {ty:TypeId} {d:TypeDesc}(hu:P.underlying ty=some d) {x:Operand} {B:Nat} {C:Array Value} {t:TypeId}(hS:∀w,S w→Mem a0 w L:=by exact fun _ h=>h)(hg:o.guard=none:=by rfl)(ho:o.op= .load ty x:=by rfl)(hL:L[i]? =some (B,C,t):=by rfl)(hx:a.eval x= .pointer (some ⟨B,k,none⟩):=by rfl)(hv:C[k]? =some v:=by exact rfl)(hd:d.isRow=false:=by rfl):YieldsIf P ops S o v a:=yields_memc hg ty x ho i hS hL k hx v hv d hu (by cases d<;>first|rfl|cases hd)
theorem ym {P:Program} {ops:Array Oper} {S:World→Prop} {o:Oper} {a:Act} {a0:World} {L:List (Nat×Array Value×TypeId)}(i:Nat)(D:Array Value) {ty:TypeId} {d:TypeDesc}(hu:P.underlying ty=some d) {x:Operand} {B k:Nat} {C:Array Value} {t:TypeId}(hS:∀w,S w→Mem a0 w L:=by exact fun _ h=>h)(hg:o.guard=none:=by rfl)(ho:o.op= .load ty x:=by rfl)(hL:L[i]? =some (B,C,t):=by rfl)(hx:a.eval x= .pointer (some ⟨B,k,none⟩):=by rfl)(hD:C.extract k (k+D.size)=D:=by kernel_rfl)(hd:d.isRow=true:=by rfl)(hi:(P.info? ty).map (·.size)=some D.size:=by kernel_rfl):YieldsIf P ops S o (.agg D) a:=yields_mem hg ty x ho i hS hL k hx D hD d hu hd hi
theorem Mem.less_aux {a w:World} {L L':List (Nat×Array Value×TypeId)}(h:Mem a w L)(hs:L'.Sublist L):Mem a w L':=⟨h.below,fun e he=>h.blk e (hs.subset he),List.Nodup.sublist (hs.map _) h.nodup,fun e he=>h.ge e (hs.subset he)⟩
theorem Mem.less {a w:World} {L:List (Nat×Array Value×TypeId)}(h:Mem a w L)(i:Nat):Mem a w (L.eraseIdx i):=h.less_aux (List.eraseIdx_sublist L i)
theorem Mem.sub {a w:World} {L L':List (Nat×Array Value×TypeId)}(h:Mem a w L)(hs:L'.Sublist L):Mem a w L':=⟨h.below,fun e he=>h.blk e (hs.subset he),List.Nodup.sublist (hs.map _) h.nodup,fun e he=>h.ge e (hs.subset he)⟩
end Tx
end Go.Proofs.YtfamifgchgolpaaGreat
namespace Go.Proofs.YtfamifgchgolpaaGreat.Pl
open Go
inductive PT where
 |done
 |take (i:Nat) (p:PT)
 |only(i:Nat) (p:PT)
 |fork (i:Nat) (p:PT) (j:Nat) (q:PT)
 |three (i:Nat) (p:PT) (j:Nat) (q:PT) (k:Nat) (r:PT)
def PT.depth:PT→Nat
 | .done=>0
 | .take _ p=>p.depth+1
 | .only _ p=>p.depth+1
 | .fork _ p _ _=>p.depth+1
 | .three _ p _ _ _ _=>p.depth+1
def ptB(md:Region.Mode)(ops:Array Oper)(n g:Nat):PT→Array Bool→Bool
 | .done,listed=>Region.seqB md ops g n listed
 | .take i p,listed=>(Region.ready md ops listed).contains i&&Region.free md ops listed i&&decide (i<n)&&ptB md ops n g p (listed.setIfInBounds i true)
 | .only i p,listed=>decide (Region.ready md ops listed= [i])&&decide (i<n)&&ptB md ops n g p (listed.setIfInBounds i true)
 | .fork i p j q,listed=>decide (Region.ready md ops listed= [i,j])&&decide (i<n)&&decide (j<n)&&decide (q.depth=p.depth)&&ptB md ops n g p (listed.setIfInBounds i true)&&ptB md ops n g q (listed.setIfInBounds j true)
 | .three i p j q k r,listed=>decide (Region.ready md ops listed= [i,j,k])&&decide (i<n)&&decide (j<n)&&decide (k<n)&&decide (q.depth=p.depth)&&decide (r.depth=p.depth)&&ptB md ops n g p (listed.setIfInBounds i true)&&ptB md ops n g q (listed.setIfInBounds j true)&&ptB md ops n g r (listed.setIfInBounds k true)
section
variable {P:Program} {ops:Array Oper} {Q:Exit→Act→World→Prop} {md:Region.Mode} {S:World→Prop}
def wpPt(P:Program)(ops:Array Oper)(Q:Exit→Act→World→Prop)(S:World→Prop)(L:Act→World→Prop):PT→Act→World→Prop
 | .done,a,w=>L a w
 | .take i p,a,w=>∃o v,ops[i]? =some o∧YieldsIf P ops S o v a∧wpPt P ops Q S L p (a.put o.dst v) w
 | .only i p,a,w=>wpOp P ops Q i (fun a' w'=>S w'∧wpPt P ops Q S L p a' w') a w
 | .fork i p j q,a,w=>wpOp P ops Q i (fun a' w'=>S w'∧wpPt P ops Q S L p a' w') a w∧wpOp P ops Q j (fun a' w'=>S w'∧wpPt P ops Q S L q a' w') a w
 | .three i p j q k r,a,w=>wpOp P ops Q i (fun a' w'=>S w'∧wpPt P ops Q S L p a' w') a w∧wpOp P ops Q j (fun a' w'=>S w'∧wpPt P ops Q S L q a' w') a w∧wpOp P ops Q k (fun a' w'=>S w'∧wpPt P ops Q S L r a' w') a w
theorem wpHd_pt {n g:Nat} {Lq:Act→World→Prop}(hsel:Region.noSelect ops=true)(hQ:∀c a d v w,Q (.panic c) (Act.put a d v) w→Q (.panic c) a w)(hs:Region.sinkB md ops n=true)(hc:Region.chainB md ops n=true)(hn:n<ops.size):
 ∀(p:PT) (listed:Array Bool) (a:Act) (w:World),HeadInv md ops n listed→ptB md ops n g p listed=true→S w→wpPt P ops Q S Lq p a w→
 wpHd P md ops Q S n (fun listed' a' w'=>Region.seqB md ops g n listed'=true∧Lq a' w') p.depth listed a w
 | .done,listed,a,w,_,hB,_,h=>⟨hB,h⟩
 | .take i p,listed,a,w,inv,hB,hS,h=>by
   simp only[ptB,Bool.and_eq_true,decide_eq_true_eq]at hB
   obtain⟨⟨⟨hr,hf⟩,hin⟩,hB'⟩:=hB
   obtain⟨o,v,ho,hy,hK⟩:=h
   have hr':i∈Region.ready md ops listed:=by simpa using hr
   exact wpHd_first ho (Region.noSelect_spec hsel) (fun c a w=>hQ c a _ _ w) hs hc hn hin (fun listed' a' w' hL=>seqB_ready hL.1) p.depth listed a w inv (Region.free_spec ho hf) hr' hy hS
    (wpHd_pt hsel hQ hs hc hn p _ _ w (inv.set hr' hin) hB' hS hK)
 | .only i p,listed,a,w,inv,hB,hS,h=>by
   simp only[ptB,Bool.and_eq_true,decide_eq_true_eq]at hB
   obtain⟨⟨hr,hin⟩,hB'⟩:=hB
   have hr':i∈Region.ready md ops listed:=by rw[hr];simp
   refine⟨by rw[hr];simp,fun j hj=> ?_⟩
   rw[hr]at hj
   have hji:j=i:=by simpa using hj
   subst hji
   exact⟨hin,wpOp_mono (fun a' w' h'=>⟨h'.1,wpHd_pt hsel hQ hs hc hn p _ a' w' (inv.set hr' hin) hB' h'.1 h'.2⟩) h⟩
 | .fork i p j q,listed,a,w,inv,hB,hS,h=>by
   simp only[ptB,Bool.and_eq_true,decide_eq_true_eq]at hB
   obtain⟨⟨⟨⟨⟨hr,hin⟩,hjn⟩,hd⟩,hB1⟩,hB2⟩:=hB
   have hi':i∈Region.ready md ops listed:=by rw[hr];simp
   have hj':j∈Region.ready md ops listed:=by rw[hr];simp
   refine⟨by rw[hr];simp,fun k hk=> ?_⟩
   rw[hr]at hk
   rcases(by simpa using hk:k=i∨k=j)with rfl|rfl
   ·exact⟨hin,wpOp_mono (fun a' w' h'=>⟨h'.1,wpHd_pt hsel hQ hs hc hn p _ a' w' (inv.set hi' hin) hB1 h'.1 h'.2⟩) h.1⟩
   ·refine⟨hjn,wpOp_mono (fun a' w' h'=>⟨h'.1,?_⟩) h.2⟩
    have:=wpHd_pt hsel hQ hs hc hn q _ a' w' (inv.set hj' hjn) hB2 h'.1 h'.2
    rwa[hd]at this
 | .three i p j q k r,listed,a,w,inv,hB,hS,h=>by
   simp only[ptB,Bool.and_eq_true,decide_eq_true_eq]at hB
   obtain⟨⟨⟨⟨⟨⟨⟨⟨hr,hin⟩,hjn⟩,hkn⟩,hd⟩,hd2⟩,hB1⟩,hB2⟩,hB3⟩:=hB
   have hi':i∈Region.ready md ops listed:=by rw[hr];simp
   have hj':j∈Region.ready md ops listed:=by rw[hr];simp
   have hk':k∈Region.ready md ops listed:=by rw[hr];simp
   refine⟨by rw[hr];simp,fun x hx=> ?_⟩
   rw[hr]at hx
   rcases(by simpa using hx:x=i∨x=j∨x=k)with rfl|rfl|rfl
   ·exact⟨hin,wpOp_mono (fun a' w' h'=>⟨h'.1,wpHd_pt hsel hQ hs hc hn p _ a' w' (inv.set hi' hin) hB1 h'.1 h'.2⟩) h.1⟩
   ·refine⟨hjn,wpOp_mono (fun a' w' h'=>⟨h'.1,?_⟩) h.2.1⟩
    have:=wpHd_pt hsel hQ hs hc hn q _ a' w' (inv.set hj' hjn) hB2 h'.1 h'.2
    rwa[hd]at this
   ·refine⟨hkn,wpOp_mono (fun a' w' h'=>⟨h'.1,?_⟩) h.2.2⟩
    have:=wpHd_pt hsel hQ hs hc hn r _ a' w' (inv.set hk' hkn) hB3 h'.1 h'.2
    rwa[hd2]at this
def ptOk(ops:Array Oper)(n:Nat)(p:PT):Bool:=
 Region.noSelect ops&&decide (n<ops.size)&&Region.sinkB .any ops n&&Region.chainB .any ops n&&decide (p.depth=n)&&ptB .any ops n (ops.size-n) p (Array.replicate ops.size false)
theorem wp_region_ptQ {id:Nat} {a:Act} {w:World} {l:List Oper}(S:World→Prop)(n:Nat)(p:PT)(hm:P.follows .mixedOrders=true)(hB:ptOk l.toArray n p=true)
 (hQ:∀c a d v w,Q (.panic c) (Act.put a d v) w→Q (.panic c) a w) (hS:S w.drew)
 (h:wpPt P l.toArray Q S (fun a' w'=>wpList P l.toArray Q (l.drop n) a' w') p a w.drew):(Code.region id l.toArray true).wp P Q a w:=by
 simp only[ptOk,Bool.and_eq_true,decide_eq_true_eq]at hB
 obtain⟨⟨⟨⟨⟨hsel,hn⟩,hs⟩,hc⟩,hlen⟩,hp⟩:=hB
 have hdl:(l.drop n).length=l.toArray.size-n:=by simp
 have inv0:HeadInv .any l.toArray n (Array.replicate l.toArray.size false):=
  ⟨by simp,fun j oj _ hl=>(by rw[getD_replicate_false]at hl;cases hl),fun t _ ht=>getD_in (by simpa using ht) (getD_replicate_false _ _)⟩
 have H:=wpHd_pt (md:= .any) (g:=l.toArray.size-n) hsel hQ hs hc hn p _ a w.drew inv0 hp hS h
 refine wp_region_any hm ?_
 have:=wpAny_of_hd (Q:=Q) (g:=l.toArray.size-n) (fun listed a' w' hL=>by
  have:=wpAny_of_seq (md:= .any) (Q':=Q) (l.drop n) n listed a' w' (fun j=>by simp[List.getElem?_drop]) (by rw[hdl];exact hL.1) hL.2
  rwa[hdl]at this) _ _ _ _ H
 rw[hlen,show n+(l.toArray.size-n)=l.toArray.size by omega]at this
 exact this
theorem wp_region_pt {id:Nat} {a:Act} {w:World} {l:List Oper}(S:World→Prop)(n:Nat)(p:PT)(hm:P.follows .mixedOrders=true)(hB:ptOk l.toArray n p=true)(hS:S w.drew)
 (h:wpPt P l.toArray (calm Q) S (fun a' w'=>wpList P l.toArray (Exit.then (fun a w=>Q .normal a w) (fun _ _ _=>False)) (l.drop n) a' w') p a w.drew):(Code.region id l.toArray true).wp P Q a w:=
 Code.wp_mono calm_imp (wp_region_ptQ (Q:=calm Q) S n p hm hB (fun _ _ _ _ _ h=>h) hS h)
theorem ptTake {l:List Oper} {L:Act→World→Prop} {i:Nat} {p:PT} {o:Oper} {v:Value} {a:Act} {w:World}(ho:l[i]? =some o)(hy:YieldsIf P l.toArray S o v a)(h:wpPt P l.toArray Q S L p (a.put o.dst v) w):wpPt P l.toArray Q S L (.take i p) a w:=⟨o,v,by simpa using ho,hy,h⟩
theorem ptPure {l:List Oper} {L:Act→World→Prop} {i:Nat} {p:PT} {o:Oper} {v:Value} {a:Act} {w:World}(ho:l[i]? =some o)(hg:o.guard=none)(hy:∀w,S w→(execOp a.eval o).run P w= .ok (.value v) w)(h:wpPt P l.toArray Q S L p (a.put o.dst v) w):wpPt P l.toArray Q S L (.take i p) a w:=ptTake ho (.inl ⟨by simp[Region.wanted,hg],hy⟩) h
theorem ptDone {L:Act→World→Prop} {a:Act} {w:World}(h:L a w):wpPt P ops Q S L .done a w:=h
theorem ptOp {i:Nat} {o:Oper} {a:Act} {w:World} {R:Act→World→Prop}(ho:ops[i]? =some o)(hg:o.guard=none)(h:∀K:Act→World→Prop,Shut (∀a' w',S w'→(S w'→R a' w')→K a' w')→wpList P ops (Exit.then K Q) [o] a w):wpOp P ops Q i (fun a' w'=>S w'∧R a' w') a w:=by
 have h1:=h _ (fun a' w' h1 h2=>And.intro h1 (h2 h1))
 have hw:Region.wanted o (yielded ops a.tmps)=true:=by simp[Region.wanted,hg]
 unfold wpOp
 simp only[ho,hw,if_true]
 simp only[wpList,hw,if_true]at h1
 rcases h1 with h1|⟨h1,h2⟩
 ·refine .inl ?_
  unfold Oper.wp at*
  generalize(execOp a.eval o).run P w=r at*
  cases r with
  |ok x w'=>cases x<;>exact h1
  |halt x w'=>cases x<;>exact h1
 ·obtain⟨a',w',h2⟩:=h2
  exact .inr ⟨h1,a',w',h2⟩
theorem ptOnly {l:List Oper} {L:Act→World→Prop} {i:Nat} {p:PT} {o:Oper} {a:Act} {w:World}(ho:l[i]? =some o)(hg:o.guard=none)(h:∀K:Act→World→Prop,Shut (∀a' w',S w'→(S w'→wpPt P l.toArray Q S L p a' w')→K a' w')→wpList P l.toArray (Exit.then K Q) [o] a w):wpPt P l.toArray Q S L (.only i p) a w:=ptOp (by simpa using ho) hg h
theorem ptFork {l:List Oper} {L:Act→World→Prop} {i j:Nat} {p q:PT} {oi oj:Oper} {a:Act} {w:World}(ho:l[i]? =some oi)(hg:oi.guard=none)(ho2:l[j]? =some oj)(hg2:oj.guard=none)
 (h:∀K:Act→World→Prop,Shut (∀a' w',S w'→(S w'→wpPt P l.toArray Q S L p a' w')→K a' w')→wpList P l.toArray (Exit.then K Q) [oi] a w)
 (h2:∀K:Act→World→Prop,Shut (∀a' w',S w'→(S w'→wpPt P l.toArray Q S L q a' w')→K a' w')→wpList P l.toArray (Exit.then K Q) [oj] a w):wpPt P l.toArray Q S L (.fork i p j q) a w:=⟨ptOp (by simpa using ho) hg h,ptOp (by simpa using ho2) hg2 h2⟩
theorem ptThree {l:List Oper} {L:Act→World→Prop} {i j k:Nat} {p q r:PT} {oi oj ok:Oper} {a:Act} {w:World}(ho:l[i]? =some oi)(hg:oi.guard=none)(ho2:l[j]? =some oj)(hg2:oj.guard=none)(ho3:l[k]? =some ok)(hg3:ok.guard=none)
 (h:∀K:Act→World→Prop,Shut (∀a' w',S w'→(S w'→wpPt P l.toArray Q S L p a' w')→K a' w')→wpList P l.toArray (Exit.then K Q) [oi] a w)
 (h2:∀K:Act→World→Prop,Shut (∀a' w',S w'→(S w'→wpPt P l.toArray Q S L q a' w')→K a' w')→wpList P l.toArray (Exit.then K Q) [oj] a w)
 (h3:∀K:Act→World→Prop,Shut (∀a' w',S w'→(S w'→wpPt P l.toArray Q S L r a' w')→K a' w')→wpList P l.toArray (Exit.then K Q) [ok] a w):wpPt P l.toArray Q S L (.three i p j q k r) a w:=⟨ptOp (by simpa using ho) hg h,ptOp (by simpa using ho2) hg2 h2,ptOp (by simpa using ho3) hg3 h3⟩
end
end Go.Proofs.YtfamifgchgolpaaGreat.Pl
