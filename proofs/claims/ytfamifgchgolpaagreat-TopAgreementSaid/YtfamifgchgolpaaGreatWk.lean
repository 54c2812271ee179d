/- TopAgreement: the beginning: plain. -/
import Derived.Test.YtfamifgchgolpaaGreatWj
set_option linter.unusedVariables false
set_option linter.unusedSimpArgs false
namespace Go.Proofs.YtfamifgchgolpaaGreat
namespace Tx
structure CtlOk(node:Int)(n:Nat)(t:Tab):Prop where
 tab:TabOk t
 node:t.node=node
 len:t.length=12
 kind:∀c∈t.cells,c.kind=1
 few:t.cells.length≤n
theorem ctl_step {node:Int} {n:Nat} {t:Tab}(h:CtlOk node n t)(s:Int):CtlOk node (n+1) (ctlStep t s):=by
 unfold ctlStep
 split
 ·rename_i h0
  have hA:=(addC_iff _ _).1 h0
  have hT:=addN_tab hA
  rw[addN_ok hA]at hT ⊢
  refine⟨hT,h.node,h.len,fun c hc=> ?_,by show(putN _ _).length≤_;rw[putN_len];have:=h.few;omega⟩
  rcases putN_mem.1 hc with rfl|hc
  ·rfl
  ·exact h.kind c hc
 ·exact⟨h.tab,h.node,h.len,h.kind,Nat.le_succ_of_le h.few⟩
theorem ctl_all {node:Int}:∀(l:List Int) (n:Nat) (t:Tab),CtlOk node n t→CtlOk node (n+l.length) (l.foldl ctlStep t)
 | [],_,_,h=>h
 |s::l,n,t,h=>by
  have:=ctl_all l (n+1) (ctlStep t s) (ctl_step h s)
  rw[List.length_cons,List.foldl_cons,show n+(l.length+1)=n+1+l.length by omega]
  exact this
theorem ctl_ok {node:Int}(h0:0≤node)(h1:node<32)(l:List Int):CtlOk node l.length (ctlN node l):=by
 have h:CtlOk node 0 ⟨node,12,[]⟩:=⟨⟨h0,h1,by show(1:Int)≤12;decide,by show(12:Int)≤512;decide,by show 0≤512;decide,(fun c hc=>nomatch hc),List.Pairwise.nil⟩,rfl,rfl,(fun c hc=>nomatch hc),Nat.le_refl _⟩
 have:=ctl_all l 0 _ h
 rwa[Nat.zero_add]at this
theorem ctl_full {node peer:Int} {n:Nat} {t:Tab}(h:CtlOk node n t)(hn:n≤8)(he:chkE (startE node peer)=0):FullOk t (startE node peer):=
 ⟨(chkE_iff _).1 he,h.tab,h.node,fun x hx e=>by rw[h.kind x hx]at e;exact absurd e.1 (by decide),(fun c hc=>nomatch hc),(fun c hc=>nomatch hc),by show t.cells.length+0≤512;have:=h.few;omega⟩
theorem ctl_small {node:Int} {n:Nat} {t:Tab}(h:CtlOk node n t)(hn:n≤8):Small2 t:=⟨by rw[h.len];decide,by have:=h.few;omega⟩
theorem ctl_idle {n k:Nat} {ta tb:Tab}(ha:CtlOk 1 n ta)(hb:CtlOk 2 k tb)(hn:n≤8)(hk:k≤8):Idle (startE 1 2) (startE 2 1) ta tb:=
 ⟨ctl_full ha hn (by decide),ctl_full hb hk (by decide),rfl,rfl,by rw[ha.len,hb.len],rfl,rfl⟩
theorem start_cons:consB (startE 1 2) (startE 2 1)=true:=by decide
theorem cons_swap {a b:Ed}(h:consB a b=true):consB b a=true:=by
 unfold consB at*
 simp only[Bool.and_eq_true,decide_eq_true_eq]at*
 obtain⟨h1,h2,h3⟩:=h
 obtain⟨p1,p2,p3,p4⟩:=pairB_iff.1 h1
 exact⟨pairB_iff.2 ⟨p2,p1,p4.symm,p3.symm⟩,h2.symm,opp_comm h3⟩
end Tx
end Go.Proofs.YtfamifgchgolpaaGreat
