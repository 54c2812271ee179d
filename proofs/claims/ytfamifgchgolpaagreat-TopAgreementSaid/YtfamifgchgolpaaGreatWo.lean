/- TopAgreement: the law, walked. -/
import Derived.Test.YtfamifgchgolpaaGreatWm
import Derived.Test.YtfamifgchgolpaaGreatWg
import Derived.Test.YtfamifgchgolpaaGreatCc
set_option linter.unusedVariables false
set_option linter.unusedSimpArgs false
set_option maxRecDepth 100000
set_option maxHeartbeats 16000000
namespace Go.Proofs.YtfamifgchgolpaaGreat.Pf
open Go Pl
inductive PT where
 |done
 |take (i:Nat) (p:PT)
 |only(i:Nat) (p:PT)
 |fork (i:Nat) (p:PT) (j:Nat) (q:PT)
 |three (i:Nat) (p:PT) (j:Nat) (q:PT) (k:Nat) (r:PT)
 |four (i:Nat) (p:PT) (j:Nat) (q:PT) (k:Nat) (r:PT) (m:Nat) (s:PT)
def PT.depth:PT→Nat
 | .done=>0
 | .take _ p=>p.depth+1
 | .only _ p=>p.depth+1
 | .fork _ p _ _=>p.depth+1
 | .three _ p _ _ _ _=>p.depth+1
 | .four _ p _ _ _ _ _ _=>p.depth+1
def ptB(md:Region.Mode)(ops:Array Oper)(n g:Nat):PT→Array Bool→Bool
 | .done,listed=>Region.seqB md ops g n listed
 | .take i p,listed=>(Region.ready md ops listed).contains i&&Region.free md ops listed i&&decide (i<n)&&ptB md ops n g p (listed.setIfInBounds i true)
 | .only i p,listed=>decide (Region.ready md ops listed= [i])&&decide (i<n)&&ptB md ops n g p (listed.setIfInBounds i true)
 | .fork i p j q,listed=>decide (Region.ready md ops listed= [i,j])&&decide (i<n)&&decide (j<n)&&decide (q.depth=p.depth)&&ptB md ops n g p (listed.setIfInBounds i true)&&ptB md ops n g q (listed.setIfInBounds j true)
 | .three i p j q k r,listed=>decide (Region.ready md ops listed= [i,j,k])&&decide (i<n)&&decide (j<n)&&decide (k<n)&&decide (q.depth=p.depth)&&decide (r.depth=p.depth)&&ptB md ops n g p (listed.setIfInBounds i true)&&ptB md ops n g q (listed.setIfInBounds j true)&&ptB md ops n g r (listed.setIfInBounds k true)
 | .four i p j q k r m s,listed=>decide (Region.ready md ops listed= [i,j,k,m])&&decide (i<n)&&decide (j<n)&&decide (k<n)&&decide (m<n)&&decide (q.depth=p.depth)&&decide (r.depth=p.depth)&&decide (s.depth=p.depth)&&ptB md ops n g p (listed.setIfInBounds i true)&&ptB md ops n g q (listed.setIfInBounds j true)&&ptB md ops n g r (listed.setIfInBounds k true)&&ptB md ops n g s (listed.setIfInBounds m true)
section
variable {P:Program} {ops:Array Oper} {Q:Exit→Act→World→Prop} {md:Region.Mode} {S:World→Prop}
def wpPt(P:Program)(ops:Array Oper)(Q:Exit→Act→World→Prop)(S:World→Prop)(L:Act→World→Prop):PT→Act→World→Prop
 | .done,a,w=>L a w
 | .take i p,a,w=>∃o v,ops[i]? =some o∧YieldsIf P ops S o v a∧wpPt P ops Q S L p (a.put o.dst v) w
 | .only i p,a,w=>wpOp P ops Q i (fun a' w'=>S w'∧wpPt P ops Q S L p a' w') a w
 | .fork i p j q,a,w=>wpOp P ops Q i (fun a' w'=>S w'∧wpPt P ops Q S L p a' w') a w∧wpOp P ops Q j (fun a' w'=>S w'∧wpPt P ops Q S L q a' w') a w
 | .three i p j q k r,a,w=>wpOp P ops Q i (fun a' w'=>S w'∧wpPt P ops Q S L p a' w') a w∧wpOp P ops Q j (fun a' w'=>S w'∧wpPt P ops Q S L q a' w') a w∧wpOp P ops Q k (fun a' w'=>S w'∧wpPt P ops Q S L r a' w') a w
 | .four i p j q k r m s,a,w=>wpOp P ops Q i (fun a' w'=>S w'∧wpPt P ops Q S L p a' w') a w∧wpOp P ops Q j (fun a' w'=>S w'∧wpPt P ops Q S L q a' w') a w∧wpOp P ops Q k (fun a' w'=>S w'∧wpPt P ops Q S L r a' w') a w∧wpOp P ops Q m (fun a' w'=>S w'∧wpPt P ops Q S L s a' w') a w
theorem wpHd_pt {n g:Nat} {Lq:Act→World→Prop}(hsel:Region.noSelect ops=true)(hQ:∀c a d v w,Q (.panic c) (Act.put a d v) w→Q (.panic c) a w)(hs:Region.sinkB md ops n=true)(hc:Region.chainB md ops n=true)(hn:n<ops.size):
 ∀(p:PT) (listed:Array Bool) (a:Act) (w:World),HeadInv md ops n listed→ptB md ops n g p listed=true→S w→wpPt P ops Q S Lq p a w→
 wpHd P md ops Q S n (fun listed' a' w'=>Region.seqB md ops g n listed'=true∧Lq a' w') p.depth listed a w
 | .done,listed,a,w,_,hB,_,h=>⟨hB,h⟩
 | .take i p,listed,a,w,inv,hB,hS,h=>by
   simp only[ptB,Bool.and_eq_true,decide_eq_true_eq]at hB
   obtain⟨⟨⟨hr,hf⟩,hin⟩,hB'⟩:=hB
   obtain⟨o,v,ho,hy,hK⟩:=h
   have hr':i∈Region.ready md ops listed:=by simpa using hr
   exact wpHd_first ho (Region.noSelect_spec hsel) (fun c a w=>hQ c a _ _ w) hs hc hn hin (fun listed' a' w' hL=>seqB_ready hL.1) p.depth listed a w inv (Region.free_spec ho hf) hr' hy hS
    (wpHd_pt hsel hQ hs hc hn p _ _ w (inv.set hr' hin) hB' hS hK)
 | .only i p,listed,a,w,inv,hB,hS,h=>by
   simp only[ptB,Bool.and_eq_true,decide_eq_true_eq]at hB
   obtain⟨⟨hr,hin⟩,hB'⟩:=hB
   have hr':i∈Region.ready md ops listed:=by rw[hr];simp
   refine⟨by rw[hr];simp,fun j hj=> ?_⟩
   rw[hr]at hj
   have hji:j=i:=by simpa using hj
   subst hji
   exact⟨hin,wpOp_mono (fun a' w' h'=>⟨h'.1,wpHd_pt hsel hQ hs hc hn p _ a' w' (inv.set hr' hin) hB' h'.1 h'.2⟩) h⟩
 | .fork i p j q,listed,a,w,inv,hB,hS,h=>by
   simp only[ptB,Bool.and_eq_true,decide_eq_true_eq]at hB
   obtain⟨⟨⟨⟨⟨hr,hin⟩,hjn⟩,hd⟩,hB1⟩,hB2⟩:=hB
   have hi':i∈Region.ready md ops listed:=by rw[hr];simp
   have hj':j∈Region.ready md ops listed:=by rw[hr];simp
   refine⟨by rw[hr];simp,fun k hk=> ?_⟩
   rw[hr]at hk
   rcases(by simpa using hk:k=i∨k=j)with rfl|rfl
   ·exact⟨hin,wpOp_mono (fun a' w' h'=>⟨h'.1,wpHd_pt hsel hQ hs hc hn p _ a' w' (inv.set hi' hin) hB1 h'.1 h'.2⟩) h.1⟩
   ·refine⟨hjn,wpOp_mono (fun a' w' h'=>⟨h'.1,?_⟩) h.2⟩
    have:=wpHd_pt hsel hQ hs hc hn q _ a' w' (inv.set hj' hjn) hB2 h'.1 h'.2
    rwa[hd]at this
 | .three i p j q k r,listed,a,w,inv,hB,hS,h=>by
   simp only[ptB,Bool.and_eq_true,decide_eq_true_eq]at hB
   obtain⟨⟨⟨⟨⟨⟨⟨⟨hr,hin⟩,hjn⟩,hkn⟩,hd⟩,hd2⟩,hB1⟩,hB2⟩,hB3⟩:=hB
   have hi':i∈Region.ready md ops listed:=by rw[hr];simp
   have hj':j∈Region.ready md ops listed:=by rw[hr];simp
   have hk':k∈Region.ready md ops listed:=by rw[hr];simp
   refine⟨by rw[hr];simp,fun x hx=> ?_⟩
   rw[hr]at hx
   rcases(by simpa using hx:x=i∨x=j∨x=k)with rfl|rfl|rfl
   ·exact⟨hin,wpOp_mono (fun a' w' h'=>⟨h'.1,wpHd_pt hsel hQ hs hc hn p _ a' w' (inv.set hi' hin) hB1 h'.1 h'.2⟩) h.1⟩
   ·refine⟨hjn,wpOp_mono (fun a' w' h'=>⟨h'.1,?_⟩) h.2.1⟩
    have:=wpHd_pt hsel hQ hs hc hn q _ a' w' (inv.set hj' hjn) hB2 h'.1 h'.2
    rwa[hd]at this
   ·refine⟨hkn,wpOp_mono (fun a' w' h'=>⟨h'.1,?_⟩) h.2.2⟩
    have:=wpHd_pt hsel hQ hs hc hn r _ a' w' (inv.set hk' hkn) hB3 h'.1 h'.2
    rwa[hd2]at this
 | .four i p j q k r m s,listed,a,w,inv,hB,hS,h=>by
   simp only[ptB,Bool.and_eq_true,decide_eq_true_eq]at hB
   obtain⟨⟨⟨⟨⟨⟨⟨⟨⟨⟨⟨hr,hin⟩,hjn⟩,hkn⟩,hmn⟩,hd⟩,hd2⟩,hd3⟩,hB1⟩,hB2⟩,hB3⟩,hB4⟩:=hB
   have hi':i∈Region.ready md ops listed:=by rw[hr];simp
   have hj':j∈Region.ready md ops listed:=by rw[hr];simp
   have hk':k∈Region.ready md ops listed:=by rw[hr];simp
   have hm':m∈Region.ready md ops listed:=by rw[hr];simp
   refine⟨by rw[hr];simp,fun x hx=> ?_⟩
   rw[hr]at hx
   rcases(by simpa using hx:x=i∨x=j∨x=k∨x=m)with rfl|rfl|rfl|rfl
   ·exact⟨hin,wpOp_mono (fun a' w' h'=>⟨h'.1,wpHd_pt hsel hQ hs hc hn p _ a' w' (inv.set hi' hin) hB1 h'.1 h'.2⟩) h.1⟩
   ·refine⟨hjn,wpOp_mono (fun a' w' h'=>⟨h'.1,?_⟩) h.2.1⟩
    have:=wpHd_pt hsel hQ hs hc hn q _ a' w' (inv.set hj' hjn) hB2 h'.1 h'.2
    rwa[hd]at this
   ·refine⟨hkn,wpOp_mono (fun a' w' h'=>⟨h'.1,?_⟩) h.2.2.1⟩
    have:=wpHd_pt hsel hQ hs hc hn r _ a' w' (inv.set hk' hkn) hB3 h'.1 h'.2
    rwa[hd2]at this
   ·refine⟨hmn,wpOp_mono (fun a' w' h'=>⟨h'.1,?_⟩) h.2.2.2⟩
    have:=wpHd_pt hsel hQ hs hc hn s _ a' w' (inv.set hm' hmn) hB4 h'.1 h'.2
    rwa[hd3]at this
def ptOk(ops:Array Oper)(n:Nat)(p:PT):Bool:=
 Region.noSelect ops&&decide (n<ops.size)&&Region.sinkB .any ops n&&Region.chainB .any ops n&&decide (p.depth=n)&&ptB .any ops n (ops.size-n) p (Array.replicate ops.size false)
theorem wp_region_ptQ {id:Nat} {a:Act} {w:World} {l:List Oper}(S:World→Prop)(n:Nat)(p:PT)(hm:P.follows .mixedOrders=true)(hB:ptOk l.toArray n p=true)
 (hQ:∀c a d v w,Q (.panic c) (Act.put a d v) w→Q (.panic c) a w) (hS:S w.drew)
 (h:wpPt P l.toArray Q S (fun a' w'=>wpList P l.toArray Q (l.drop n) a' w') p a w.drew):(Code.region id l.toArray true).wp P Q a w:=by
 simp only[ptOk,Bool.and_eq_true,decide_eq_true_eq]at hB
 obtain⟨⟨⟨⟨⟨hsel,hn⟩,hs⟩,hc⟩,hlen⟩,hp⟩:=hB
 have hdl:(l.drop n).length=l.toArray.size-n:=by simp
 have inv0:HeadInv .any l.toArray n (Array.replicate l.toArray.size false):=
  ⟨by simp,fun j oj _ hl=>(by rw[getD_replicate_false]at hl;cases hl),fun t _ ht=>getD_in (by simpa using ht) (getD_replicate_false _ _)⟩
 have H:=wpHd_pt (md:= .any) (g:=l.toArray.size-n) hsel hQ hs hc hn p _ a w.drew inv0 hp hS h
 refine wp_region_any hm ?_
 have:=wpAny_of_hd (Q:=Q) (g:=l.toArray.size-n) (fun listed a' w' hL=>by
  have:=wpAny_of_seq (md:= .any) (Q':=Q) (l.drop n) n listed a' w' (fun j=>by simp[List.getElem?_drop]) (by rw[hdl];exact hL.1) hL.2
  rwa[hdl]at this) _ _ _ _ H
 rw[hlen,show n+(l.toArray.size-n)=l.toArray.size by omega]at this
 exact this
theorem wp_region_pt {id:Nat} {a:Act} {w:World} {l:List Oper}(S:World→Prop)(n:Nat)(p:PT)(hm:P.follows .mixedOrders=true)(hB:ptOk l.toArray n p=true)(hS:S w.drew)
 (h:wpPt P l.toArray (calm Q) S (fun a' w'=>wpList P l.toArray (Exit.then (fun a w=>Q .normal a w) (fun _ _ _=>False)) (l.drop n) a' w') p a w.drew):(Code.region id l.toArray true).wp P Q a w:=
 Code.wp_mono calm_imp (wp_region_ptQ (Q:=calm Q) S n p hm hB (fun _ _ _ _ _ h=>h) hS h)
theorem ptTake {l:List Oper} {L:Act→World→Prop} {i:Nat} {p:PT} {o:Oper} {v:Value} {a:Act} {w:World}(ho:l[i]? =some o)(hy:YieldsIf P l.toArray S o v a)(h:wpPt P l.toArray Q S L p (a.put o.dst v) w):wpPt P l.toArray Q S L (.take i p) a w:=⟨o,v,by simpa using ho,hy,h⟩
theorem ptPure {l:List Oper} {L:Act→World→Prop} {i:Nat} {p:PT} {o:Oper} {v:Value} {a:Act} {w:World}(ho:l[i]? =some o)(hg:o.guard=none)(hy:∀w,S w→(execOp a.eval o).run P w= .ok (.value v) w)(h:wpPt P l.toArray Q S L p (a.put o.dst v) w):wpPt P l.toArray Q S L (.take i p) a w:=ptTake ho (.inl ⟨by simp[Region.wanted,hg],hy⟩) h
theorem ptDone {L:Act→World→Prop} {a:Act} {w:World}(h:L a w):wpPt P ops Q S L .done a w:=h
theorem ptOp {i:Nat} {o:Oper} {a:Act} {w:World} {R:Act→World→Prop}(ho:ops[i]? =some o)(hg:o.guard=none)(h:∀K:Act→World→Prop,Shut (∀a' w',S w'→(S w'→R a' w')→K a' w')→wpList P ops (Exit.then K Q) [o] a w):wpOp P ops Q i (fun a' w'=>S w'∧R a' w') a w:=by
 have h1:=h _ (fun a' w' h1 h2=>And.intro h1 (h2 h1))
 have hw:Region.wanted o (yielded ops a.tmps)=true:=by simp[Region.wanted,hg]
 unfold wpOp
 simp only[ho,hw,if_true]
 simp only[wpList,hw,if_true]at h1
 rcases h1 with h1|⟨h1,h2⟩
 ·refine .inl ?_
  unfold Oper.wp at*
  generalize(execOp a.eval o).run P w=r at*
  cases r with
  |ok x w'=>cases x<;>exact h1
  |halt x w'=>cases x<;>exact h1
 ·obtain⟨a',w',h2⟩:=h2
  exact .inr ⟨h1,a',w',h2⟩
theorem ptOnly {l:List Oper} {L:Act→World→Prop} {i:Nat} {p:PT} {o:Oper} {a:Act} {w:World}(ho:l[i]? =some o)(hg:o.guard=none)(h:∀K:Act→World→Prop,Shut (∀a' w',S w'→(S w'→wpPt P l.toArray Q S L p a' w')→K a' w')→wpList P l.toArray (Exit.then K Q) [o] a w):wpPt P l.toArray Q S L (.only i p) a w:=ptOp (by simpa using ho) hg h
theorem ptFork {l:List Oper} {L:Act→World→Prop} {i j:Nat} {p q:PT} {oi oj:Oper} {a:Act} {w:World}(ho:l[i]? =some oi)(hg:oi.guard=none)(ho2:l[j]? =some oj)(hg2:oj.guard=none)
 (h:∀K:Act→World→Prop,Shut (∀a' w',S w'→(S w'→wpPt P l.toArray Q S L p a' w')→K a' w')→wpList P l.toArray (Exit.then K Q) [oi] a w)
 (h2:∀K:Act→World→Prop,Shut (∀a' w',S w'→(S w'→wpPt P l.toArray Q S L q a' w')→K a' w')→wpList P l.toArray (Exit.then K Q) [oj] a w):wpPt P l.toArray Q S L (.fork i p j q) a w:=⟨ptOp (by simpa using ho) hg h,ptOp (by simpa using ho2) hg2 h2⟩
theorem ptThree {l:List Oper} {L:Act→World→Prop} {i j k:Nat} {p q r:PT} {oi oj ok:Oper} {a:Act} {w:World}(ho:l[i]? =some oi)(hg:oi.guard=none)(ho2:l[j]? =some oj)(hg2:oj.guard=none)(ho3:l[k]? =some ok)(hg3:ok.guard=none)
 (h:∀K:Act→World→Prop,Shut (∀a' w',S w'→(S w'→wpPt P l.toArray Q S L p a' w')→K a' w')→wpList P l.toArray (Exit.then K Q) [oi] a w)
 (h2:∀K:Act→World→Prop,Shut (∀a' w',S w'→(S w'→wpPt P l.toArray Q S L q a' w')→K a' w')→wpList P l.toArray (Exit.then K Q) [oj] a w)
 (h3:∀K:Act→World→Prop,Shut (∀a' w',S w'→(S w'→wpPt P l.toArray Q S L r a' w')→K a' w')→wpList P l.toArray (Exit.then K Q) [ok] a w):wpPt P l.toArray Q S L (.three i p j q k r) a w:=⟨ptOp (by simpa using ho) hg h,ptOp (by simpa using ho2) hg2 h2,ptOp (by simpa using ho3) hg3 h3⟩
theorem ptFour {l:List Oper} {L:Act→World→Prop} {i j k m:Nat} {p q r s:PT} {oi oj ok om:Oper} {a:Act} {w:World}(ho:l[i]? =some oi)(hg:oi.guard=none)(ho2:l[j]? =some oj)(hg2:oj.guard=none)(ho3:l[k]? =some ok)(hg3:ok.guard=none)(ho4:l[m]? =some om)(hg4:om.guard=none)
 (h:∀K:Act→World→Prop,Shut (∀a' w',S w'→(S w'→wpPt P l.toArray Q S L p a' w')→K a' w')→wpList P l.toArray (Exit.then K Q) [oi] a w)
 (h2:∀K:Act→World→Prop,Shut (∀a' w',S w'→(S w'→wpPt P l.toArray Q S L q a' w')→K a' w')→wpList P l.toArray (Exit.then K Q) [oj] a w)
 (h3:∀K:Act→World→Prop,Shut (∀a' w',S w'→(S w'→wpPt P l.toArray Q S L r a' w')→K a' w')→wpList P l.toArray (Exit.then K Q) [ok] a w)
 (h4:∀K:Act→World→Prop,Shut (∀a' w',S w'→(S w'→wpPt P l.toArray Q S L s a' w')→K a' w')→wpList P l.toArray (Exit.then K Q) [om] a w):wpPt P l.toArray Q S L (.four i p j q k r m s) a w:=⟨ptOp (by simpa using ho) hg h,ptOp (by simpa using ho2) hg2 h2,ptOp (by simpa using ho3) hg3 h3,ptOp (by simpa using ho4) hg4 h4⟩
end
end Go.Proofs.YtfamifgchgolpaaGreat.Pf
namespace Go.Proofs.YtfamifgchgolpaaGreat
open Go Go.RowKit Go.Sort Go.Shelf Go.Maps
namespace Tx
open Sw Mm Pl
theorem Mem.perm {a w:World} {L L':List (Nat×Array Value×TypeId)}(h:Mem a w L)(hp:L'.Perm L):Mem a w L':=⟨h.below,fun e he=>h.blk e (hp.subset he),(hp.map _).nodup_iff.2 h.nodup,fun e he=>h.ge e (hp.subset he)⟩
theorem Mem.s1 {a w:World} {x y:Nat×Array Value×TypeId} {L:List (Nat×Array Value×TypeId)}(h:Mem a w (x::y::L)):Mem a w (y::x::L):=h.perm (.swap ..)
theorem Mem.s2 {a w:World} {x y z:Nat×Array Value×TypeId} {L:List (Nat×Array Value×TypeId)}(h:Mem a w (x::y::z::L)):Mem a w (x::z::y::L):=h.perm (.cons _ (.swap ..))
theorem Mem.s3 {a w:World} {x y z u:Nat×Array Value×TypeId} {L:List (Nat×Array Value×TypeId)}(h:Mem a w (x::y::z::u::L)):Mem a w (x::y::u::z::L):=h.perm (.cons _ (.cons _ (.swap ..)))
theorem topAgr_any(xl xr f:List Int)(l:List Wsh)(A1 A2 A3 A4:Option Addr)(n1 c1 n2 c2 n3 c3 n4 c4:Nat)(w:World)(h1:U8S w A1 n1 xl)(b1:∀s∈xl,0≤s∧s≤255)(h2:U8S w A2 n2 xr)(b2:∀s∈xr,0≤s∧s≤255)(hf:IntS w A3 n3 f)(hl:WshS w A4 n4 l):Calls Tryz.prog 3 #[.slice A1 n1 c1,.slice A2 n2 c2,.slice A3 n3 c3,.slice A4 n4 c4] w fun r w'=>r= .returned (.bool true)∧Below w.heap.size w w':=by
 have I:=Zh (Mem.start w)
 obtain⟨F0,q_,J⟩:∃F:World→Prop,Stb F∧Hid (F w):=⟨_,Stb.true,trivial⟩
 have uE:=Tryz.underlying32
 have uT:=Tryz.underlying37
 have uM:=Tryz.underlying30
 have uW:=Tryz.underlying42
 have cMw:=fun W=>mirrorWorks_any W
 have cS1:=fun W=>start_own 1 2 W
 have cS2:=fun W=>start_own 2 1 W
 unfold EndOwn at cS1 cS2
 rw[show startN 1 2=startE 1 2 from rfl,show startC 1 2=0 from rfl]at cS1
 rw[show startN 2 1=startE 2 1 from rfl,show startC 2 1=0 from rfl]at cS2
 have cC1:=fun W (hb:Below w.heap.size w W)=>controlled_any 1 A1 n1 c1 xl W (h1.keep hb) b1
 have cC2:=fun W (hb:Below w.heap.size w W)=>controlled_any 2 A2 n2 c2 xr W (h2.keep hb) b2
 unfold CtlPost at cC1 cC2
 have hlen:=hl.len
 have hC0:=start_cons
 have hI0:n1≤8→n2≤8→Idle (startE 1 2) (startE 2 1) (ctlN 1 xl) (ctlN 2 xr)∧Small2 (ctlN 1 xl)∧Small2 (ctlN 2 xr):=by
  intro e1 e2
  have k1:=ctl_ok (node:=1) (by decide) (by decide) xl
  have k2:=ctl_ok (node:=2) (by decide) (by decide) xr
  rw[h1.len]at k1
  rw[h2.len]at k2
  exact⟨ctl_idle k1 k2 e1 e2,ctl_small k1 e1,ctl_small k2 e2⟩
 generalize startE 1 2=a0 at*
 generalize startE 2 1=b0 at*
 generalize ctlN 1 xl=ta at*
 generalize ctlN 2 xr=tb at*
 clear b1 b2 h1 h2
 refine zh12 ?_ cMw cS1 cS2 cC1 cC2 hI0 hC0 hf hl hlen uE uT;clear cMw cS1 cS2 cC1 cC2 hI0 hC0 hf hl hlen uE uT;intro cMw cS1 cS2 cC1 cC2 hI0 hC0 hf hl hlen uE uT
 replace uM:=Zh uM
 replace uW:=Zh uW
 go_enter Tryz.func3,Tryz.ntmps3
 go_upto_region 1 with fail
 have mk1:Unit:=()
 go_upto_region 3 with(first|go_skip|(go_at_call 8;clear mk1;refine q_.k I J (cMw _) ?_;clear I J;intro w3 I J;dsimp only)|fail)
 by_cases hg0:(8:Int)<(n1:Int)
 case pos=>
  have hh:8<n1:=by omega
  have hh2:decide ((8:Int)<(n1:Int))=true:=decide_eq_true hg0
  go_wp2_with fail
  try simp only[Exit.inBlock,Exit.then]
  go_ret
  exact⟨by first|rfl|trivial,I.below⟩
 have hg0a:¬8<n1:=by omega
 have hg0b:decide ((8:Int)<(n1:Int))=false:=decide_eq_false hg0
 have hg0c:n1≤8:=by omega
 by_cases hg1:(8:Int)<(n2:Int)
 case pos=>
  have hh:8<n2:=by omega
  have hh2:decide ((8:Int)<(n2:Int))=true:=decide_eq_true hg1
  go_wp2_with fail
  try simp only[Exit.inBlock,Exit.then]
  go_ret
  exact⟨by first|rfl|trivial,I.below⟩
 have hg1a:¬8<n2:=by omega
 have hg1b:decide ((8:Int)<(n2:Int))=false:=decide_eq_false hg1
 have hg1c:n2≤8:=by omega
 by_cases hg2:(20:Int)<(n3:Int)
 case pos=>
  have hh:20<n3:=by omega
  have hh2:decide ((20:Int)<(n3:Int))=true:=decide_eq_true hg2
  go_wp2_with fail
  try simp only[Exit.inBlock,Exit.then]
  go_ret
  exact⟨by first|rfl|trivial,I.below⟩
 have hg2a:¬20<n3:=by omega
 have hg2b:decide ((20:Int)<(n3:Int))=false:=decide_eq_false hg2
 have hg2c:n3≤20:=by omega
 by_cases hg3:(30:Int)<(n4:Int)
 case pos=>
  have hh:30<n4:=by omega
  have hh2:decide ((30:Int)<(n4:Int))=true:=decide_eq_true hg3
  go_wp2_with fail
  try simp only[Exit.inBlock,Exit.then]
  go_ret
  exact⟨by first|rfl|trivial,I.below⟩
 have hg3a:¬30<n4:=by omega
 have hg3b:decide ((30:Int)<(n4:Int))=false:=decide_eq_false hg3
 have hg3c:n4≤30:=by omega
 obtain⟨hI,hSa,hSb⟩:=hI0.out hg0c hg1c
 go_upto_region 5 with fail
 clear hg0 hg0a hg0b hg0c hg1 hg1a hg1b hg1c hg2 hg2a hg2b hg2c hg3 hg3a hg3b hI0
 refine zh4 ?_ hI hSa hSb hg3c;clear hI hSa hSb hg3c;intro hI hSa hSb hg3c
 have mk2:Unit:=()
 have mk3:Unit:=()
 go_upto_region 6 with(first|go_skip|(go_at_call 9;clear mk2;refine(cS1 _).mono ?_;rintro r w3 ⟨va0,rfl,hE,p_⟩;replace I:=Zm I p_;replace J:=q_.z J p_;clear p_;refine sA q_ J (Stb.ed va0 _) hE ?_;clear q_ J hE;intro F1 q_ J hU gA;clear hU;dsimp only)|(clear mk3;refine q_.a I J edInfo ?_;clear I J;intro ga w1 I J)|(refine q_.s 0 I J ?_;clear I J;intro w4 I J;simp only[List.set]at I)|fail)
 have mk4:Unit:=()
 have mk5:Unit:=()
 go_upto_region 7 with(first|go_skip|(go_at_call 9;clear mk4;refine(cS2 _).mono ?_;rintro r w3 ⟨vb0,rfl,hE,p_⟩;replace I:=Zm I p_;replace J:=q_.z J p_;clear p_;refine sA q_ J (Stb.ed vb0 _) hE ?_;clear q_ J hE;intro F2 q_ J hU gB;replace gA:=Zu gA hU;clear hU;dsimp only)|(clear mk5;refine q_.a I J edInfo ?_;clear I J;intro gb w1 I J)|(refine q_.s 0 I J ?_;clear I J;intro w4 I J;simp only[List.set]at I)|fail)
 have mk6:Unit:=()
 have mk7:Unit:=()
 have mk8:Unit:=()
 have mk9:Unit:=()
 go_upto_region 8 with(first|go_skip|(go_at_call 10;clear mk6;refine(cC1 _ I.below).mono ?_;rintro r w3 ⟨vta,rfl,hT,p_⟩;replace I:=Zm I p_;replace J:=q_.z J p_;clear p_;refine sA q_ J (Stb.tab vta _) hT ?_;clear q_ J hT;intro F3 q_ J hU gTA;replace gA:=Zu gA hU;replace gB:=Zu gB hU;clear hU;dsimp only)|(go_at_call 10;clear mk7;refine(cC2 _ I.below).mono ?_;rintro r w3 ⟨vtb,rfl,hT,p_⟩;replace I:=Zm I p_;replace J:=q_.z J p_;clear p_;refine sA q_ J (Stb.tab vtb _) hT ?_;clear q_ J hT;intro F4 q_ J hU gTB;replace gA:=Zu gA hU;replace gB:=Zu gB hU;replace gTA:=Zu gTA hU;clear hU;dsimp only)|(clear mk8;refine q_.a I J tabInfo ?_;clear I J;intro gta w1 I J)|(clear mk9;refine q_.a I J tabInfo ?_;clear I J;intro gtb w1 I J)|(refine q_.s 1 I J ?_;clear I J;intro w4 I J;simp only[List.set]at I)|(refine q_.s 0 I J ?_;clear I J;intro w4 I J;simp only[List.set]at I)|fail)
 clear cMw cS1 cS2 cC1 cC2
 go_upto_region 10 with fail
 go_upto_region 11 with fail
 go_loopw[15,16,17,18,19,20,21,22,23,24,25,26,27,28,29,30,31,32,33,34,35,36,37,78] (fun _ _ _ _ _ _ _ _ _ _ _ _ _ _ _ _ _ _ _ _ _ _ _ i wr=>Hid (∃(k:Nat) (a b:Ed) (va vb:EdV),k≤n4∧i= .int .i64 k∧Hid (Idle a b ta tb)∧Hid (consB a b=true)∧Hid (EdOwn wr va a)∧Hid (EdOwn wr vb b)∧Hid (TabOwn wr vta ta)∧Hid (TabOwn wr vtb tb)∧Hid (Mem w wr [(gtb,tabA tb vtb,37),(gta,tabA ta vta,37),(gb,endA b vb,32),(ga,endA a va,32)]))) (fun _ _ _ _ _ _ _ _ _ _ _ _ _ _ _ _ _ _ _ _ _ _ _ i _=>n4-(intOf i).toNat)
 case atStart=>exact Zh ⟨0,a0,b0,va0,vb0,by omega,rfl,hI,hC0,gA.out _ J,gB.out _ J,gTA.out _ J,gTB.out _ J,I⟩
 case round=>
  clear I J q_ gA gB gTA gTB hI hC0
  obtain⟨k,a,b,va,vb,hk,rfl,hI,hC,hA,hB,hTA,hTB,I⟩:=hrel.out
  clear hrel
  obtain⟨F0,q_,J,gA,gB,gTA,gTB⟩:∃F:World→Prop,Stb F∧Hid (F wr)∧Hid (∀W,F W→EdOwn W va a)∧Hid (∀W,F W→EdOwn W vb b)∧Hid (∀W,F W→TabOwn W vta ta)∧Hid (∀W,F W→TabOwn W vtb tb):=⟨_,(Stb.ed va a).and ((Stb.ed vb b).and ((Stb.tab vta ta).and (Stb.tab vtb tb))),⟨hA.out,hB.out,hTA.out,hTB.out⟩,fun _ h=>h.1,fun _ h=>h.2.1,fun _ h=>h.2.2.1,fun _ h=>h.2.2.2⟩
  clear hA hB hTA hTB
  by_cases hlt:k<n4
  case neg=>
   have r1:¬(k:Int)<(n4:Int):=by omega
   go_wp2_with fail
   try simp only[Exit.inBlock,Exit.then]
   go_ret
   exact⟨by first|rfl|trivial,I.below⟩
  obtain⟨bq,off,rfl⟩:=hl.addr (by omega)
  have hrg:=Zh (fun(W:World) (hb:Below w.heap.size w W)=>wsh_range (hl.keep hb) hlt)
  generalize l.getD k default=x at*
  have r1:(k:Int)<(n4:Int):=by omega
  have r0:(0:Int)≤(k:Int):=by omega
  obtain⟨xo,xk,xc,xf⟩:=x
  have mk10:Unit:=()
  go_upto_region 13 with(first|go_skip|(refine wpList_load_mid rfl 42 _ rfl bq (off+k*7) rfl (wshE ⟨xo,xk,xc,xf⟩) _ (hrg _ I.below) uW.out rfl (by exact zws) ?_)|(clear mk10;refine q_.a I J wsInfo ?_;clear I J;intro gw w1 I J)|(refine q_.s 0 I J ?_;clear I J;intro w4 I J;simp only[List.set]at I)|fail)
  clear hrg r1 r0
  try go_frame
  go_cut[17,18,19,20]from 79 to 242 (fun s17 s18 s19 s20 wx=>∃g17 g18 g19 g20,s17= .pointer (some ⟨g17,0,none⟩)∧s18= .pointer (some ⟨g18,0,none⟩)∧s19= .pointer (some ⟨g19,0,none⟩)∧s20= .pointer (some ⟨g20,0,none⟩)∧Hid (Mem w wx [(g20,tabA tb vtb,37),(g19,tabA ta vta,37),(g18,endA b vb,32),(g17,endA a va,32),(gw,#[.bool xo,.int .i64 xk,.int .i64 xc,.bool xf.request,.bool xf.reply,.bool xf.requestAck,.bool xf.replyAck],42),(gtb,tabA tb vtb,37),(gta,tabA ta vta,37),(gb,endA b vb,32),(ga,endA a va,32)])∧Hid (F0 wx))
  case first=>as_aux_lemma=>
   replace J:=Zh (q_.keep J ((Below.refl _ _).drew))
   replace I:=Zh (I.keep ((Below.refl _ _).drew))
   have HMs:=Zh I.out
   refine Pf.wp_region_pt (fun w'=>Mem _ w' _) 11 (.take 0 (.take 1 (.take 2 (.take 3 (.four 4 (.three 5 (.fork 6 (.only 7 (.only 8 (.only 9 (.only 10 .done)))) 7 (.only 6 (.only 8 (.only 9 (.only 10 .done))))) 6 (.fork 5 (.only 7 (.only 8 (.only 9 (.only 10 .done)))) 7 (.only 5 (.only 8 (.only 9 (.only 10 .done))))) 7 (.fork 5 (.only 6 (.only 8 (.only 9 (.only 10 .done)))) 6 (.only 5 (.only 8 (.only 9 (.only 10 .done)))))) 5 (.three 4 (.fork 6 (.only 7 (.only 8 (.only 9 (.only 10 .done)))) 7 (.only 6 (.only 8 (.only 9 (.only 10 .done))))) 6 (.fork 4 (.only 7 (.only 8 (.only 9 (.only 10 .done)))) 7 (.only 4 (.only 8 (.only 9 (.only 10 .done))))) 7 (.fork 4 (.only 6 (.only 8 (.only 9 (.only 10 .done)))) 6 (.only 4 (.only 8 (.only 9 (.only 10 .done)))))) 6 (.three 4 (.fork 5 (.only 7 (.only 8 (.only 9 (.only 10 .done)))) 7 (.only 5 (.only 8 (.only 9 (.only 10 .done))))) 5 (.fork 4 (.only 7 (.only 8 (.only 9 (.only 10 .done)))) 7 (.only 4 (.only 8 (.only 9 (.only 10 .done))))) 7 (.fork 4 (.only 5 (.only 8 (.only 9 (.only 10 .done)))) 5 (.only 4 (.only 8 (.only 9 (.only 10 .done)))))) 7 (.three 4 (.fork 5 (.only 6 (.only 8 (.only 9 (.only 10 .done)))) 6 (.only 5 (.only 8 (.only 9 (.only 10 .done))))) 5 (.fork 4 (.only 6 (.only 8 (.only 9 (.only 10 .done)))) 6 (.only 4 (.only 8 (.only 9 (.only 10 .done))))) 6 (.fork 4 (.only 5 (.only 8 (.only 9 (.only 10 .done)))) 5 (.only 4 (.only 8 (.only 9 (.only 10 .done))))))))))) (by kernel_rfl) (by kernel_rfl) HMs.out ?_
   clear HMs
   generalize World.drew _=wd at*
   refine Pf.ptTake (by rfl) (yw 4 uE.out) ?_
   try go_frame
   refine Pf.ptTake (by rfl) (yw 3 uE.out) ?_
   try go_frame
   refine Pf.ptTake (by rfl) (yw 2 uT.out) ?_
   try go_frame
   refine Pf.ptTake (by rfl) (yw 1 uT.out) ?_
   try go_frame
   refine Pf.ptFour rfl rfl rfl rfl rfl rfl rfl rfl (fun K hK=> ?_) (fun K hK=> ?_) (fun K hK=> ?_) (fun K hK=> ?_)
   all_goals
    repeat' (first|(refine Pf.ptThree rfl rfl rfl rfl rfl rfl (fun K hK=> ?_) (fun K hK=> ?_) (fun K hK=> ?_))|(refine Pf.ptFork rfl rfl rfl rfl (fun K hK=> ?_) (fun K hK=> ?_))|(refine Pf.ptOnly rfl rfl fun K hK=> ?_)|(go_wp2_with(first|(refine q_.a I J edInfo ?_;clear I J;intro gn w1 I J)|(refine q_.a I J tabInfo ?_;clear I J;intro gn w1 I J)|(refine wpList_storeF 0 I rfl _ _ _ rfl _ rfl rfl _ rfl (by first|exact zend|exact ztab) (by rfl) (by rfl) ?_;have hBq:=I.at_ 0 rfl;clear I;intro w4 I hG4;simp only[List.set]at I;replace J:=q_.p J hBq hG4;clear hBq hG4)|(refine wpList_storeF 1 I rfl _ _ _ rfl _ rfl rfl _ rfl (by first|exact zend|exact ztab) (by rfl) (by rfl) ?_;have hBq:=I.at_ 1 rfl;clear I;intro w4 I hG4;simp only[List.set]at I;replace J:=q_.p J hBq hG4;clear hBq hG4)|(refine wpList_storeF 2 I rfl _ _ _ rfl _ rfl rfl _ rfl (by first|exact zend|exact ztab) (by rfl) (by rfl) ?_;have hBq:=I.at_ 2 rfl;clear I;intro w4 I hG4;simp only[List.set]at I;replace J:=q_.p J hBq hG4;clear hBq hG4)|(refine wpList_storeF 3 I rfl _ _ _ rfl _ rfl rfl _ rfl (by first|exact zend|exact ztab) (by rfl) (by rfl) ?_;have hBq:=I.at_ 3 rfl;clear I;intro w4 I hG4;simp only[List.set]at I;replace J:=q_.p J hBq hG4;clear hBq hG4)|fail);refine hK _ _ (I.sub (by repeat(first|exact List.Sublist.refl _|apply List.Sublist.cons_cons|apply List.Sublist.cons))) fun hS_=> ?_;clear hK K hS_;try go_frame))
   all_goals as_aux_lemma=>
    refine Pf.ptDone ?_
    simp only[List.drop]
    go_wp2_with(first|(refine wpList_storeF 0 I rfl _ _ _ rfl _ rfl rfl _ rfl (by first|exact zend|exact ztab) (by rfl) (by rfl) ?_;have hBq:=I.at_ 0 rfl;clear I;intro w4 I hG4;simp only[List.set]at I;replace J:=q_.p J hBq hG4;clear hBq hG4)|(refine wpList_storeF 1 I rfl _ _ _ rfl _ rfl rfl _ rfl (by first|exact zend|exact ztab) (by rfl) (by rfl) ?_;have hBq:=I.at_ 1 rfl;clear I;intro w4 I hG4;simp only[List.set]at I;replace J:=q_.p J hBq hG4;clear hBq hG4)|(refine wpList_storeF 2 I rfl _ _ _ rfl _ rfl rfl _ rfl (by first|exact zend|exact ztab) (by rfl) (by rfl) ?_;have hBq:=I.at_ 2 rfl;clear I;intro w4 I hG4;simp only[List.set]at I;replace J:=q_.p J hBq hG4;clear hBq hG4)|(refine wpList_storeF 3 I rfl _ _ _ rfl _ rfl rfl _ rfl (by first|exact zend|exact ztab) (by rfl) (by rfl) ?_;have hBq:=I.at_ 3 rfl;clear I;intro w4 I hG4;simp only[List.set]at I;replace J:=q_.p J hBq hG4;clear hBq hG4)|fail)
    go_meet
    exact⟨_,_,_,_,rfl,rfl,rfl,rfl,by first|exact I|exact I.s1|exact I.s2|exact I.s3|exact I.s1.s2|exact I.s1.s3|exact I.s2.s1|exact I.s2.s3|exact I.s3.s2|exact I.s1.s2.s1|exact I.s1.s2.s3|exact I.s1.s3.s2|exact I.s2.s1.s3|exact I.s2.s3.s2|exact I.s3.s2.s1|exact I.s1.s2.s1.s3|exact I.s1.s2.s3.s2|exact I.s1.s3.s2.s1|exact I.s2.s1.s3.s2|exact I.s2.s3.s2.s1|exact I.s1.s2.s1.s3.s2|exact I.s1.s2.s3.s2.s1|exact I.s2.s1.s3.s2.s1|exact I.s1.s2.s1.s3.s2.s1,J⟩
  case rest=>as_aux_lemma=>
   clear I J
   obtain⟨gfrom,gto,gtf,gtt,rfl,rfl,rfl,rfl,I,J⟩:=hcut
   have p0:=Zc I 4 0 (.bool xo)
   go_upto_if 88 with fail
   try go_frame
   go_cut[17]from 79 to 242 (fun s17 wx=>s17= .pointer (some ⟨gfrom,0,none⟩)∧∃(x y:Ed) (tx ty:Tab) (vx vy:EdV) (vtx vty:TabV),Hid (Idle x y tx ty)∧Hid (consB x y=true)∧Hid (Small2 tx)∧Hid (Small2 ty)∧Hid (∀W,F0 W→EdOwn W vx x)∧Hid (∀W,F0 W→EdOwn W vy y)∧Hid (∀W,F0 W→TabOwn W vtx tx)∧Hid (∀W,F0 W→TabOwn W vty ty)∧Hid (Mem w wx [(gtt,tabA ty vty,37),(gtf,tabA tx vtx,37),(gto,endA y vy,32),(gfrom,endA x vx,32),(gw,#[.bool xo,.int .i64 xk,.int .i64 xc,.bool xf.request,.bool xf.reply,.bool xf.requestAck,.bool xf.replyAck],42),(gtb,tabA tb vtb,37),(gta,tabA ta vta,37),(gb,endA b vb,32),(ga,endA a va,32)])∧Hid (F0 wx)∧Hid (∀z y,Idle z y tx ty→consB z y=true→Idle (bif xo then y else z) (bif xo then z else y) ta tb∧consB (bif xo then y else z) (bif xo then z else y)=true))
   case first=>as_aux_lemma=>
    cases xo
    case false=>
     go_wp2_with fail
     go_meet
     exact⟨rfl,a,b,ta,tb,va,vb,vta,vtb,hI,hC,hSa,hSb,gA,gB,gTA,gTB,I,J,fun z y h1 h2=>⟨h1,h2⟩⟩
    case true=>
     go_upto_region 15 with fail
     clear p0
     replace J:=Zh (q_.keep J ((Below.refl _ _).drew))
     replace I:=Zh (I.keep ((Below.refl _ _).drew))
     have HMs:=Zh I.out
     replace HMs:=Zh (HMs.less 3)
     replace HMs:=Zh (HMs.less 2)
     replace HMs:=Zh (HMs.less 1)
     replace HMs:=Zh (HMs.less 0)
     simp only[List.eraseIdx]at HMs
     refine wp_region_plan (fun w'=>Mem _ w' _) 7 [(0,true),(1,true),(2,true),(3,true),(4,false),(5,false),(6,false)] (by kernel_rfl) (by kernel_rfl) HMs.out ?_
     generalize World.drew _=wd at*
     refine plTakeL (by rfl) (yw 3 uE.out) ?_
     try go_frame
     refine plTakeL (by rfl) (yw 4 uE.out) ?_
     try go_frame
     refine plTakeL (by rfl) (yw 1 uT.out) ?_
     try go_frame
     refine plTakeL (by rfl) (yw 2 uT.out) ?_
     try go_frame
     refine plStepL rfl rfl fun K hK=> ?_
     go_wp2_with(first|(refine q_.s 3 I J ?_;clear I J;intro w4 I J;simp only[List.set]at I)|fail)
     refine hK _ _ (I.sub (by repeat(first|exact List.Sublist.refl _|apply List.Sublist.cons_cons|apply List.Sublist.cons))) fun hS_=> ?_
     clear hK K hS_
     try go_frame
     refine plStepL rfl rfl fun K hK=> ?_
     go_wp2_with(first|(refine q_.s 2 I J ?_;clear I J;intro w4 I J;simp only[List.set]at I)|fail)
     refine hK _ _ (I.sub (by repeat(first|exact List.Sublist.refl _|apply List.Sublist.cons_cons|apply List.Sublist.cons))) fun hS_=> ?_
     clear hK K hS_
     try go_frame
     refine plStepL rfl rfl fun K hK=> ?_
     go_wp2_with(first|(refine q_.s 1 I J ?_;clear I J;intro w4 I J;simp only[List.set]at I)|fail)
     refine hK _ _ (I.sub (by repeat(first|exact List.Sublist.refl _|apply List.Sublist.cons_cons|apply List.Sublist.cons))) fun hS_=> ?_
     clear hK K hS_
     try go_frame
     clear HMs
     refine plDone ?_
     simp only[List.drop]
     go_wp2_with(first|go_skip|(refine q_.s 0 I J ?_;clear I J;intro w4 I J;simp only[List.set]at I)|fail)
     go_meet
     exact⟨rfl,b,a,tb,ta,vb,va,vtb,vta,Zh hI.swap,Zh (cons_swap hC.out),hSb,hSa,gB,gA,gTB,gTA,I,J,fun z y h1 h2=>⟨h1.swap,cons_swap h2⟩⟩
   case rest=>as_aux_lemma=>
    clear I J p0
    obtain⟨rfl,x,y,tx,ty,vx,vy,vtx,vty,hI2,hC2,hSx,hSy,gX,gY,gTX,gTY,I,J,hback⟩:=hcut
    have cA:=fun W (hb:Below w.heap.size w W) (q1:EdIs W vx x) (q2:TabIs W vtx tx)=>ask_any x tx vx vtx A3 n3 c3 f xk xc k W q1 q2 (hf.keep hb)
    unfold TriOwn at cA
    change∀W,_→_→_→Calls _ _ #[.agg (endA x vx),.agg (tabA tx vtx),_,_,_,_] _ _ at cA
    by_cases h0:askC x tx f xk xc k=0
    case neg=>as_aux_lemma=>
     generalize askC x tx f xk xc k=C at*
     generalize askE x tx f xk xc k=E at*
     generalize askN x tx f xk xc k=N at*
     have d1:(C !=0)=true:=by rw[bne_iff_ne];exact h0
     replace h0:=Zh h0
     replace cA:=Zh cA
     have p1:=Zc I 4 1 (.int .i64 xk)
     have p2:=Zc I 4 2 (.int .i64 xc)
     have mk11:Unit:=()
     have mk12:Unit:=()
     have mk13:Unit:=()
     go_upto_region 17 with(first|go_skip|(refine lG 3 I uE.out ?_)|(refine lG 1 I uT.out ?_)|(go_at_call 11;clear mk11;refine(cA _ I.below (gX _ J).is (gTX _ J).is).mono ?_;rintro r w3 ⟨vq,vm,rfl,hE,hM,p_⟩;clear p1 p2;replace I:=Zm I p_;replace J:=q_.z J p_;clear p_;refine sA q_ J (Stb.ed vq _) hE ?_;clear q_ J hE;intro F1 q_ J hU gQ;replace gA:=Zu gA hU;replace gB:=Zu gB hU;replace gTA:=Zu gTA hU;replace gTB:=Zu gTB hU;replace gX:=Zu gX hU;replace gY:=Zu gY hU;replace gTX:=Zu gTX hU;replace gTY:=Zu gTY hU;clear hU;refine sA q_ J (Stb.sub vm _) hM ?_;clear q_ J hM;intro F2 q_ J hU gM;replace gA:=Zu gA hU;replace gB:=Zu gB hU;replace gTA:=Zu gTA hU;replace gTB:=Zu gTB hU;replace gX:=Zu gX hU;replace gY:=Zu gY hU;replace gTX:=Zu gTX hU;replace gTY:=Zu gTY hU;replace gQ:=Zu gQ hU;clear hU;dsimp only)|(clear mk12;refine q_.a I J edInfo ?_;clear I J;intro gask w1 I J)|(clear mk13;refine q_.a I J msgInfo ?_;clear I J;intro gm w1 I J)|(refine q_.s 1 I J ?_;clear I J;intro w4 I J;simp only[List.set]at I)|(refine q_.s 0 I J ?_;clear I J;intro w4 I J;simp only[List.set]at I)|fail)
     have hn4:=hg3c.out
     go_wp2_with fail
     exact⟨Zh ⟨k+1,a,b,va,vb,by omega,by go_num,hI,hC,gA.out _ J,gB.out _ J,gTA.out _ J,gTB.out _ J,Zh (I.sub (by repeat(first|exact List.Sublist.refl _|apply List.Sublist.cons_cons|apply List.Sublist.cons)))⟩,by simp[intOf];omega⟩
    obtain⟨m,y2,r,z,hG⟩:=agr_is hI2.out hC2.out (room_small hSx.out hI2.fa) (room_small hSy.out hI2.fb) h0
    rw[hG.e1,hG.e2,h0]at cA
    clear h0 hI2 hC2 hSx hSy
    generalize hE2:openE x m k=x2 at*
    have cE:=fun v W (q:MsgIs W v m)=>Cp.encode_any m v W q hG.cm
    have cD:=fun W=>Cp.decode_any m W hG.cm
    have cE':=fun v W (q:MsgIs W v r)=>Cp.encode_any r v W q hG.cr
    have cD':=fun W=>Cp.decode_any r W hG.cr
    unfold Cp.DecPost at cD cD'
    change∀v W,_→Calls _ _ #[.agg (msgA m v)] _ _ at cE
    change∀v W,_→Calls _ _ #[.agg (msgA r v)] _ _ at cE'
    change∀W,Calls _ _ _ _ (fun e w'=>∃v,e= .returned (.tuple #[.agg (msgA m v),.int .i64 0])∧_)at cD
    change∀W,Calls _ _ _ _ (fun e w'=>∃v,e= .returned (.tuple #[.agg (msgA r v),.int .i64 0])∧_)at cD'
    have cSM:=fun v1 v2 W (q1:MsgIs W v1 m) (q2:MsgIs W v2 m)=>sameM_any m m v1 v2 W q1 q2
    have cSR:=fun v1 v2 W (q1:MsgIs W v1 r) (q2:MsgIs W v2 r)=>sameM_any r r v1 v2 W q1 q2
    have cSE:=fun v1 v2 W (q1:EdIs W v1 y2) (q2:EdIs W v2 y2)=>sameE_any y2 y2 v1 v2 W q1 q2
    simp only[eq_self,decide_true]at cSM cSR cSE
    change∀v1 v2 W,_→_→Calls _ _ #[.agg (msgA m v1),.agg (msgA m v2)] _ _ at cSM
    change∀v1 v2 W,_→_→Calls _ _ #[.agg (msgA r v1),.agg (msgA r v2)] _ _ at cSR
    change∀v1 v2 W,_→_→Calls _ _ #[.agg (endA y2 v1),.agg (endA y2 v2)] _ _ at cSE
    have cR:=fun v W (hb:Below w.heap.size w W) (q1:EdIs W vy y) (q2:TabIs W vty ty) (q3:MsgIs W v m)=>receive_any y ty f m vy vty v A3 n3 c3 W q1 q2 (hf.keep hb) q3
    unfold TriOwn at cR
    rw[hG.one,hG.c1]at cR
    change∀v W,_→_→_→_→Calls _ _ #[.agg (endA y vy),.agg (tabA ty vty),_,.agg (msgA m v)] _ _ at cR
    dsimp only at cR
    have cF:=fun v1 v2 W (q1:EdIs W v1 x2) (q2:MsgIs W v2 r)=>finish_any x2 r v1 v2 W q1 q2
    unfold EndOwn at cF
    rw[←hE2,hG.c2,hG.fin,hE2]at cF
    change∀v1 v2 W,_→_→Calls _ _ #[.agg (endA x2 v1),.agg (msgA r v2)] _ _ at cF
    have cN:=fun v1 v2 W (q1:MsgIs W v1 m) (q2:MsgIs W v2 r)=>ans_any m r v1 v2 W q1 q2
    rw[hG.ans]at cN
    change∀v1 v2 W,_→_→Calls _ _ #[.agg (msgA m v1),.agg (msgA r v2)] _ _ at cN
    have cX:=fun v W (q1:TabIs W vtx tx) (q2:EdIs W v z)=>full_any tx z vtx v W q1 q2
    have cY:=fun v W (q1:TabIs W vty ty) (q2:EdIs W v y2)=>full_any ty y2 vty v W q1 q2
    unfold FullPost at cX cY
    rw[(fullC_iff _ _).2 hG.idle.fa]at cX
    rw[(fullC_iff _ _).2 hG.idle.fb]at cY
    change∀v W,_→_→Calls _ _ #[.agg (tabA tx vtx),.agg (endA z v)] _ _ at cX
    change∀v W,_→_→Calls _ _ #[.agg (tabA ty vty),.agg (endA y2 v)] _ _ at cY
    have cK:=fun v W (q:TabIs W v (fullN tx z))=>chkT_any (fullN tx z) v W q
    rw[hG.mir.ca]at cK
    have cM:=fun v1 v2 W (q1:TabIs W v1 (fullN tx z)) (q2:TabIs W v2 (fullN ty y2))=>mirror_any _ _ v1 v2 W q1 q2 hG.mir
    change∀v W,_→Calls _ _ #[.agg (tabA (fullN tx z) v)] _ _ at cK
    change∀v1 v2 W,_→_→Calls _ _ #[.agg (tabA (fullN tx z) v1),.agg (tabA (fullN ty y2) v2)] _ _ at cM
    have hnum:=hG.num
    obtain⟨hI4,hC4⟩:=hback.out z y2 hG.idle hG.cons
    clear hG hback hE2
    generalize Cp.strOf (Cp.pack (Cp.msgB m))=S1 at*
    generalize Cp.strOf (Cp.pack (Cp.msgB r))=S2 at*
    generalize fullN tx z=tX at*
    generalize fullN ty y2=tY at*
    refine zh3 ?_ cA cE cD;clear cA cE cD;intro cA cE cD
    replace cE':=Zh cE'
    replace cD':=Zh cD'
    refine zh12 ?_ cSM cSR cSE cR cF cN cX cY cK cM hnum hI4;clear cSM cSR cSE cR cF cN cX cY cK cM hnum hI4;intro cSM cSR cSE cR cF cN cX cY cK cM hnum hI4
    replace hC4:=Zh hC4
    as_aux_lemma=>
     have p1:=Zc I 4 1 (.int .i64 xk)
     have p2:=Zc I 4 2 (.int .i64 xc)
     have mk11:Unit:=()
     have mk12:Unit:=()
     have mk13:Unit:=()
     go_upto_region 17 with(first|go_skip|(refine lG 3 I uE.out ?_)|(refine lG 1 I uT.out ?_)|(go_at_call 11;clear mk11;refine(cA _ I.below (gX _ J).is (gTX _ J).is).mono ?_;rintro r w3 ⟨vq,vm,rfl,hE,hM,p_⟩;clear p1 p2;replace I:=Zm I p_;replace J:=q_.z J p_;clear p_;refine sA q_ J (Stb.ed vq _) hE ?_;clear q_ J hE;intro F1 q_ J hU gQ;replace gA:=Zu gA hU;replace gB:=Zu gB hU;replace gTA:=Zu gTA hU;replace gTB:=Zu gTB hU;replace gX:=Zu gX hU;replace gY:=Zu gY hU;replace gTX:=Zu gTX hU;replace gTY:=Zu gTY hU;clear hU;refine sA q_ J (Stb.sub vm _) hM ?_;clear q_ J hM;intro F2 q_ J hU gM;replace gA:=Zu gA hU;replace gB:=Zu gB hU;replace gTA:=Zu gTA hU;replace gTB:=Zu gTB hU;replace gX:=Zu gX hU;replace gY:=Zu gY hU;replace gTX:=Zu gTX hU;replace gTY:=Zu gTY hU;replace gQ:=Zu gQ hU;clear hU;dsimp only)|(clear mk12;refine q_.a I J edInfo ?_;clear I J;intro gask w1 I J)|(clear mk13;refine q_.a I J msgInfo ?_;clear I J;intro gm w1 I J)|(refine q_.s 1 I J ?_;clear I J;intro w4 I J;simp only[List.set]at I)|(refine q_.s 0 I J ?_;clear I J;intro w4 I J;simp only[List.set]at I)|fail)
     clear cA
     as_aux_lemma=>
      go_upto_region 18 with fail
      have mk14:Unit:=()
      go_upto_region 19 with(first|go_skip|(refine lG 0 I uM.out ?_)|(go_at_call 12;clear mk14;refine q_.k I J (cE vm _ (gM _ J).is) ?_;clear I J;intro w3 I J;dsimp only)|fail)
      have mk15:Unit:=()
      have mk16:Unit:=()
      go_upto_region 20 with(first|go_skip|(go_at_call 13;clear mk15;refine(cD _).mono ?_;rintro r w3 ⟨vr,rfl,hM,p_⟩;replace I:=Zm I p_;replace J:=q_.z J p_;clear p_;refine sA q_ J (Stb.msg vr _) hM ?_;clear q_ J hM;intro F3 q_ J hU gRd;replace gA:=Zu gA hU;replace gB:=Zu gB hU;replace gTA:=Zu gTA hU;replace gTB:=Zu gTB hU;replace gX:=Zu gX hU;replace gY:=Zu gY hU;replace gTX:=Zu gTX hU;replace gTY:=Zu gTY hU;replace gQ:=Zu gQ hU;replace gM:=Zu gM hU;clear hU;dsimp only)|(clear mk16;refine q_.a I J msgInfo ?_;clear I J;intro gread w1 I J)|(refine q_.s 0 I J ?_;clear I J;intro w4 I J;simp only[List.set]at I)|fail)
      clear cE cD
      as_aux_lemma=>
       have mk17:Unit:=()
       go_upto_region 22 with(first|go_skip|(refine lG 0 I uM.out ?_)|(refine lG 1 I uM.out ?_)|(go_at_call 14;clear mk17;refine q_.k I J (cSM vr vm _ (gRd _ J).is (gM _ J).is) ?_;clear I J;intro w3 I J;dsimp only)|fail)
       clear cSM
       as_aux_lemma=>
        have mk18:Unit:=()
        have mk19:Unit:=()
        have mk20:Unit:=()
        go_upto_region 23 with(first|go_skip|(refine lG 5 I uE.out ?_)|(refine lG 3 I uT.out ?_)|(refine lG 1 I uM.out ?_)|(go_at_call 15;clear mk18;refine(cR vm _ I.below (gY _ J).is (gTY _ J).is (gM _ J).is).mono ?_;rintro r w3 ⟨vd,vrr,rfl,hE,hM,p_⟩;replace I:=Zm I p_;replace J:=q_.z J p_;clear p_;refine sA q_ J (Stb.ed vd _) hE ?_;clear q_ J hE;intro F4 q_ J hU gDi;replace gA:=Zu gA hU;replace gB:=Zu gB hU;replace gTA:=Zu gTA hU;replace gTB:=Zu gTB hU;replace gX:=Zu gX hU;replace gY:=Zu gY hU;replace gTX:=Zu gTX hU;replace gTY:=Zu gTY hU;replace gQ:=Zu gQ hU;replace gM:=Zu gM hU;replace gRd:=Zu gRd hU;clear hU;refine sA q_ J (Stb.sub vrr _) hM ?_;clear q_ J hM;intro F5 q_ J hU gRr;replace gA:=Zu gA hU;replace gB:=Zu gB hU;replace gTA:=Zu gTA hU;replace gTB:=Zu gTB hU;replace gX:=Zu gX hU;replace gY:=Zu gY hU;replace gTX:=Zu gTX hU;replace gTY:=Zu gTY hU;replace gQ:=Zu gQ hU;replace gM:=Zu gM hU;replace gRd:=Zu gRd hU;replace gDi:=Zu gDi hU;clear hU;dsimp only)|(clear mk19;refine q_.a I J edInfo ?_;clear I J;intro gdir w1 I J)|(clear mk20;refine q_.a I J msgInfo ?_;clear I J;intro grr w1 I J)|(refine q_.s 1 I J ?_;clear I J;intro w4 I J;simp only[List.set]at I)|(refine q_.s 0 I J ?_;clear I J;intro w4 I J;simp only[List.set]at I)|fail)
        as_aux_lemma=>
         have mk21:Unit:=()
         have mk22:Unit:=()
         have mk23:Unit:=()
         go_upto_region 24 with(first|go_skip|(refine lG 7 I uE.out ?_)|(refine lG 5 I uT.out ?_)|(refine lG 2 I uM.out ?_)|(go_at_call 15;clear mk21;refine(cR vr _ I.below (gY _ J).is (gTY _ J).is (gRd _ J).is).mono ?_;rintro r w3 ⟨vb2,vqq,rfl,hE,hM,p_⟩;replace I:=Zm I p_;replace J:=q_.z J p_;clear p_;refine sA q_ J (Stb.ed vb2 _) hE ?_;clear q_ J hE;intro F6 q_ J hU gBy;replace gA:=Zu gA hU;replace gB:=Zu gB hU;replace gTA:=Zu gTA hU;replace gTB:=Zu gTB hU;replace gX:=Zu gX hU;replace gY:=Zu gY hU;replace gTX:=Zu gTX hU;replace gTY:=Zu gTY hU;replace gQ:=Zu gQ hU;replace gM:=Zu gM hU;replace gRd:=Zu gRd hU;replace gDi:=Zu gDi hU;replace gRr:=Zu gRr hU;clear hU;refine sA q_ J (Stb.sub vqq _) hM ?_;clear q_ J hM;intro F7 q_ J hU gQq;replace gA:=Zu gA hU;replace gB:=Zu gB hU;replace gTA:=Zu gTA hU;replace gTB:=Zu gTB hU;replace gX:=Zu gX hU;replace gY:=Zu gY hU;replace gTX:=Zu gTX hU;replace gTY:=Zu gTY hU;replace gQ:=Zu gQ hU;replace gM:=Zu gM hU;replace gRd:=Zu gRd hU;replace gDi:=Zu gDi hU;replace gRr:=Zu gRr hU;replace gBy:=Zu gBy hU;clear hU;dsimp only)|(clear mk22;refine q_.a I J edInfo ?_;clear I J;intro gby w1 I J)|(clear mk23;refine q_.a I J msgInfo ?_;clear I J;intro gqq w1 I J)|(refine q_.s 1 I J ?_;clear I J;intro w4 I J;simp only[List.set]at I)|(refine q_.s 0 I J ?_;clear I J;intro w4 I J;simp only[List.set]at I)|fail)
         as_aux_lemma=>
          clear cR
          have mk24:Unit:=()
          have mk25:Unit:=()
          go_upto_region 26 with(first|go_skip|(refine lG 2 I uM.out ?_)|(refine lG 0 I uM.out ?_)|(refine lG 3 I uE.out ?_)|(refine lG 1 I uE.out ?_)|(go_at_call 14;clear mk24;refine q_.k I J (cSR vrr vqq _ (gRr _ J).is (gQq _ J).is) ?_;clear I J;intro w3 I J;dsimp only)|(go_at_call 16;clear mk25;refine q_.k I J (cSE vd vb2 _ (gDi _ J).is (gBy _ J).is) ?_;clear I J;intro w3 I J;dsimp only)|fail)
          clear cSR cSE
          as_aux_lemma=>
           have mk26:Unit:=()
           go_upto_region 27 with(first|go_skip|(refine lG 0 I uM.out ?_)|(go_at_call 12;clear mk26;refine q_.k I J (cE' vqq _ (gQq _ J).is) ?_;clear I J;intro w3 I J;dsimp only)|fail)
           have mk27:Unit:=()
           go_upto_region 28 with(first|go_skip|(go_at_call 13;clear mk27;refine(cD' _).mono ?_;rintro r w3 ⟨vr2,rfl,hM,p_⟩;replace I:=Zm I p_;replace J:=q_.z J p_;clear p_;refine sA q_ J (Stb.msg vr2 _) hM ?_;clear q_ J hM;intro F8 q_ J hU gR2;replace gA:=Zu gA hU;replace gB:=Zu gB hU;replace gTA:=Zu gTA hU;replace gTB:=Zu gTB hU;replace gX:=Zu gX hU;replace gY:=Zu gY hU;replace gTX:=Zu gTX hU;replace gTY:=Zu gTY hU;replace gQ:=Zu gQ hU;replace gM:=Zu gM hU;replace gRd:=Zu gRd hU;replace gDi:=Zu gDi hU;replace gRr:=Zu gRr hU;replace gBy:=Zu gBy hU;replace gQq:=Zu gQq hU;clear hU;dsimp only)|(refine q_.s 4 I J ?_;clear I J;intro w4 I J;simp only[List.set]at I)|fail)
           clear cE' cD'
           as_aux_lemma=>
            have mk28:Unit:=()
            have mk29:Unit:=()
            go_upto_region 29 with(first|go_skip|(refine lG 6 I uE.out ?_)|(refine lG 4 I uM.out ?_)|(go_at_call 17;clear mk28;refine(cF vq vr2 _ (gQ _ J).is (gR2 _ J).is).mono ?_;rintro r w3 ⟨vz,rfl,hE,p_⟩;replace I:=Zm I p_;replace J:=q_.z J p_;clear p_;refine sA q_ J (Stb.ed vz _) hE ?_;clear q_ J hE;intro F9 q_ J hU gZ;replace gA:=Zu gA hU;replace gB:=Zu gB hU;replace gTA:=Zu gTA hU;replace gTB:=Zu gTB hU;replace gX:=Zu gX hU;replace gY:=Zu gY hU;replace gTX:=Zu gTX hU;replace gTY:=Zu gTY hU;replace gQ:=Zu gQ hU;replace gM:=Zu gM hU;replace gRd:=Zu gRd hU;replace gDi:=Zu gDi hU;replace gRr:=Zu gRr hU;replace gBy:=Zu gBy hU;replace gQq:=Zu gQq hU;replace gR2:=Zu gR2 hU;clear hU;dsimp only)|(clear mk29;refine q_.a I J edInfo ?_;clear I J;intro gdone w1 I J)|(refine q_.s 0 I J ?_;clear I J;intro w4 I J;simp only[List.set]at I)|fail)
            clear cF
            as_aux_lemma=>
             have mk30:Unit:=()
             go_upto_region 31 with(first|go_skip|(refine lG 6 I uM.out ?_)|(refine lG 5 I uM.out ?_)|(go_at_call 18;clear mk30;refine q_.k I J (cN vm vr2 _ (gM _ J).is (gR2 _ J).is) ?_;clear I J;intro w3 I J;dsimp only)|fail)
             clear cN
             as_aux_lemma=>
              replace J:=Zh (q_.keep J ((Below.refl _ _).drew))
              replace I:=Zh (I.keep ((Below.refl _ _).drew))
              have HMs:=Zh I.out
              replace HMs:=Zh (HMs.less 11)
              replace HMs:=Zh (HMs.less 10)
              simp only[List.eraseIdx]at HMs
              refine wp_region_plan (fun w'=>Mem _ w' _) 3 [(0,true),(1,true),(2,false)] (by kernel_rfl) (by kernel_rfl) HMs.out ?_
              generalize World.drew _=wd at*
              refine plTakeL (by rfl) (yw 0 uE.out) ?_
              try go_frame
              refine plTakeL (by rfl) (yw 2 uE.out) ?_
              try go_frame
              refine plStepL rfl rfl fun K hK=> ?_
              go_wp2_with(first|(refine q_.s 11 I J ?_;clear I J;intro w4 I J;simp only[List.set]at I)|fail)
              refine hK _ _ (I.sub (by repeat(first|exact List.Sublist.refl _|apply List.Sublist.cons_cons|apply List.Sublist.cons))) fun hS_=> ?_
              clear hK K hS_
              try go_frame
              clear HMs
              refine plDone ?_
              simp only[List.drop]
              go_upto_region 32 with(first|go_skip|(refine q_.s 10 I J ?_;clear I J;intro w4 I J;simp only[List.set]at I)|fail)
              have mk31:Unit:=()
              have mk32:Unit:=()
              go_upto_region 33 with(first|go_skip|(refine lG 9 I uT.out ?_)|(refine lG 11 I uE.out ?_)|(go_at_call 19;clear mk31;refine(cX vz _ (gTX _ J).is (gZ _ J).is).mono ?_;rintro r w3 ⟨vX,rfl,hX,p_⟩;replace I:=Zm I p_;replace J:=q_.z J p_;clear p_;replace hX:=Zh hX;dsimp only)|(clear mk32;refine aN I tabInfo ?_;clear I;intro gx w1 I hG hN9;replace J:=q_.y J hG;replace hX:=Zh (hX.keep hG.out);clear hG hN9)|(refine sF 0 I ?_;have hBq:=I.at_ 0 rfl;clear I;intro w4 I hG4;simp only[List.set]at I;replace J:=q_.p J hBq hG4;replace hX:=Zh (hX.grown hBq (show(3:Nat)<6 from by decide) hG4.out);clear hBq hG4)|fail)
              have mk33:Unit:=()
              have mk34:Unit:=()
              go_upto_region 34 with(first|go_skip|(refine lG 9 I uT.out ?_)|(refine lG 11 I uE.out ?_)|(go_at_call 19;clear mk33;refine(cY vb2 _ (gTY _ J).is (gBy _ J).is).mono ?_;rintro r w3 ⟨vY,rfl,hY,p_⟩;replace I:=Zm I p_;replace J:=q_.z J p_;replace hX:=Zh (hX.keep p_);clear p_;replace hY:=Zh hY;dsimp only)|(clear mk34;refine aN I tabInfo ?_;clear I;intro gy w1 I hG hN9;replace J:=q_.y J hG;replace hX:=Zh (hX.keep hG.out);replace hY:=Zh (hY.keep hG.out);clear hG hN9)|(refine sF 0 I ?_;have hBq:=I.at_ 0 rfl;clear I;intro w4 I hG4;simp only[List.set]at I;replace J:=q_.p J hBq hG4;replace hX:=Zh (hX.grown hBq (show(3:Nat)<6 from by decide) hG4.out);replace hY:=Zh (hY.grown hBq (show(3:Nat)<6 from by decide) hG4.out);clear hBq hG4)|fail)
              clear cX cY
              as_aux_lemma=>
               have q1:=Zc I 13 2 (.int .i64 z.number)
               have q2:World.cell? _ ⟨gto,2,none⟩=some (.int .i64 z.number):=(I.cell 12 rfl 2).trans (congrArg (fun n=>some (Value.int .i64 n)) hnum.symm)
               have mk35:Unit:=()
               have mk36:Unit:=()
               go_upto_region 36 with(first|go_skip|(refine lG 1 I uT.out ?_)|(refine lG 0 I uT.out ?_)|(go_at_call 20;clear mk35;refine(cK vX _ hX.out).mono ?_;rintro r w3 ⟨rfl,p_⟩;clear q1 q2;replace I:=Zm I p_;replace J:=q_.z J p_;replace hX:=Zh (hX.keep p_);replace hY:=Zh (hY.keep p_);have q1:=Zc I 13 2 (.int .i64 z.number);have q2:World.cell? _ ⟨gto,2,none⟩=some (.int .i64 z.number):=(I.cell 12 rfl 2).trans (congrArg (fun n=>some (Value.int .i64 n)) hnum.symm);clear p_;dsimp only)|(go_at_call 21;clear mk36;refine(cM vX vY _ hX.out hY.out).mono ?_;rintro r w3 ⟨rfl,p_⟩;clear q1 q2;replace I:=Zm I p_;replace J:=q_.z J p_;replace hX:=Zh (hX.keep p_);replace hY:=Zh (hY.keep p_);have q1:=Zc I 13 2 (.int .i64 z.number);have q2:World.cell? _ ⟨gto,2,none⟩=some (.int .i64 z.number):=(I.cell 12 rfl 2).trans (congrArg (fun n=>some (Value.int .i64 n)) hnum.symm);clear p_;dsimp only)|fail)
               clear cK cM q1 q2 hX hY
               as_aux_lemma=>
                replace J:=Zh (q_.keep J ((Below.refl _ _).drew))
                replace I:=Zh (I.keep ((Below.refl _ _).drew))
                have HMs:=Zh I.out
                replace HMs:=Zh (HMs.less 18)
                replace HMs:=Zh (HMs.less 17)
                simp only[List.eraseIdx]at HMs
                refine wp_region_plan (fun w'=>Mem _ w' _) 3 [(0,true),(1,true),(2,false)] (by kernel_rfl) (by kernel_rfl) HMs.out ?_
                generalize World.drew _=wd at*
                refine plTakeL (by rfl) (yw 13 uE.out) ?_
                try go_frame
                refine plTakeL (by rfl) (yw 12 uE.out) ?_
                try go_frame
                refine plStepL rfl rfl fun K hK=> ?_
                go_wp2_with(first|(refine q_.s 18 I J ?_;clear I J;intro w4 I J;simp only[List.set]at I)|fail)
                refine hK _ _ (I.sub (by repeat(first|exact List.Sublist.refl _|apply List.Sublist.cons_cons|apply List.Sublist.cons))) fun hS_=> ?_
                clear hK K hS_
                try go_frame
                clear HMs
                refine plDone ?_
                simp only[List.drop]
                go_upto_region 37 with(first|go_skip|(refine q_.s 17 I J ?_;clear I J;intro w4 I J;simp only[List.set]at I)|fail)
                have p0:=Zc I 14 0 (.bool xo)
                cases xo
                case false=>
                 have hn4:=hg3c.out
                 go_wp2_with fail
                 exact⟨Zh ⟨k+1,z,y2,vz,vb2,by omega,by go_num,hI4,hC4,gZ.out _ J,gBy.out _ J,gTA.out _ J,gTB.out _ J,Zh (I.sub (by repeat(first|exact List.Sublist.refl _|apply List.Sublist.cons_cons|apply List.Sublist.cons)))⟩,by simp[intOf];omega⟩
                case true=>
                 go_upto_region 38 with fail
                 clear p0
                 replace J:=Zh (q_.keep J ((Below.refl _ _).drew))
                 replace I:=Zh (I.keep ((Below.refl _ _).drew))
                 have HMs:=Zh I.out
                 replace HMs:=Zh (HMs.less 18)
                 replace HMs:=Zh (HMs.less 17)
                 simp only[List.eraseIdx]at HMs
                 refine wp_region_plan (fun w'=>Mem _ w' _) 3 [(0,true),(1,true),(2,false)] (by kernel_rfl) (by kernel_rfl) HMs.out ?_
                 generalize World.drew _=wd at*
                 refine plTakeL (by rfl) (yw 12 uE.out) ?_
                 try go_frame
                 refine plTakeL (by rfl) (yw 13 uE.out) ?_
                 try go_frame
                 refine plStepL rfl rfl fun K hK=> ?_
                 go_wp2_with(first|(refine q_.s 18 I J ?_;clear I J;intro w4 I J;simp only[List.set]at I)|fail)
                 refine hK _ _ (I.sub (by repeat(first|exact List.Sublist.refl _|apply List.Sublist.cons_cons|apply List.Sublist.cons))) fun hS_=> ?_
                 clear hK K hS_
                 try go_frame
                 clear HMs
                 refine plDone ?_
                 simp only[List.drop]
                 go_upto_region 39 with(first|go_skip|(refine q_.s 17 I J ?_;clear I J;intro w4 I J;simp only[List.set]at I)|fail)
                 have hn4:=hg3c.out
                 go_wp2_with fail
                 exact⟨Zh ⟨k+1,y2,z,vb2,vz,by omega,by go_num,hI4,hC4,gBy.out _ J,gZ.out _ J,gTA.out _ J,gTB.out _ J,Zh (I.sub (by repeat(first|exact List.Sublist.refl _|apply List.Sublist.cons_cons|apply List.Sublist.cons)))⟩,by simp[intOf];omega⟩
end Tx
end Go.Proofs.YtfamifgchgolpaaGreat
