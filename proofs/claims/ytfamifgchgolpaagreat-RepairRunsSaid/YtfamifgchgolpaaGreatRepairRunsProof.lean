/- RepairRuns: for every input the law returns true, and each argument reads afterwards as before. No condition beyond the given row's. -/
import Derived.Test.YtfamifgchgolpaaGreatWr
import Derived.Test.YtfamifgchgolpaaGreatOt
set_option maxRecDepth 100000
namespace Go.Proofs.YtfamifgchgolpaaGreat
open Go Go.ChangeShapes Go.WideShapes Go.ChangeAt Go.RowKit Tx
set_option linter.unusedVariables false in
theorem repairRuns_lifted(os:Os)(started:os.Started)(H:Type)(enc:TypeId×Value→H):
 ReturnsInHanded {} Tryz.checked os 7 .any (Rows.repairRunsSpec.pre6 enc Tryz.prog Tryz.f7 Rows.repairRunsRow.domain false) (Rows.repairRunsSpec.post enc Tryz.prog Tryz.f7 false true false false):=by
 refine returnsInHanded_of_change (C:=Tryz.checked) (show ownKnob Tryz.prog.godebug=none by kernel_rfl) started (by kernel_rfl) Tryz.func7
  (ChangeSpec.witness6 (enc:=enc) (C:=Tryz.checked) false ⟨#[],#[(.agg (cplA cpl0 cplV0)),.slice none 0 0],[]⟩ 8 (by kernel_rfl) (by kernel_rfl) (by kernel_rfl) (by kernel_rfl)) ?_
 intro W base args ds gs before hval0 hW hcnd _
 have hval:∀(j:Nat) t v,Tryz.f7.params[j]? =some t→args[j]? =some v→Value.okWide Tryz.prog W .any base t v:=hval0
 have hW':=hW
 obtain⟨p,q,hA0,hV,rfl,hfz,hnd⟩:=hW
 have hA:DataW.TrodAll enc Tryz.prog W 0 (fun _=>true) true Tryz.f7.params.toList args.toList ds p:=hA0
 rw[Tryz.params7]at hA hval
 obtain⟨v0,vs0,d0,ds0,p0,q0,hargs,rfl,rfl,h0,r0⟩:=trodAll_cons hA
 obtain⟨v1,vs1,d1,ds1,p1,q1,rfl,rfl,rfl,h1,r1⟩:=trodAll_cons r0
 obtain⟨rfl,rfl,rfl⟩:=trodAll_nil r1
 obtain rfl:args=#[v0,v1]:=by cases args;simp_all
 obtain⟨rfl,rfl⟩:=trodVars_none hV
 clear hA0 hval0 hcnd hA hfz hnd hV
 obtain⟨fu0,hf0⟩:=h0
 obtain⟨cs0,rfl⟩:=Frame.okWide_agg (hval 0 70 v0 rfl rfl) (.inl ⟨_,Tryz.underlying70⟩)
 replace hf0:DataW.trod enc Tryz.prog W 0 (fun _=>true) true fu0 70 cs0.toList=some (d0,p0):=hf0
 obtain⟨c0,v0,ec0,hc0⟩:=open_cpl hf0
 obtain rfl:cs0=cplA c0 v0:=by rw[←Array.toArray_toList (xs:=cs0),ec0]
 obtain⟨fu1,hf1⟩:=h1
 obtain⟨qa1,qn1,qc1,rfl⟩:=okWide_slice Tryz.underlying25 (hval 1 25 v1 rfl rfl)
 replace hf1:DataW.trod enc Tryz.prog W 0 (fun _=>true) true fu1 25 [.slice qa1 qn1 qc1]=some (d1,p1):=hf1
 obtain⟨xs1,wf2⟩:=open_wishes hf1
 refine(lawRuns_any c0 xs1 v0 qa1 qn1 qc1 W hc0 wf2.1).mono fun e W' ⟨he,hb⟩=> ?_
 subst he
 exact⟨_,rfl,Frame.law_post (tb:=4) (by kernel_rfl) (by
  rw[Tryz.params7]
  intro t ht
  simp only[List.mem_cons,List.not_mem_nil,or_false]at ht
  rcases ht with rfl|rfl<;>exact⟨by kernel_rfl,of_decide_eq_true (by kernel_rfl)⟩) rfl hW' rfl Tryz.underlying4 rfl hb⟩
theorem repairRuns_over:Rows.repairRunsRow.holds Tryz.pinned (OpenSpec.ofChange Rows.repairRunsSpec):=
 OpenClaim.holds_of_wide 7 Tryz.f7 rfl rfl rfl rfl rfl rfl rfl ⟨rfl,rfl,rfl,rfl,rfl⟩ rfl rfl rfl rfl rfl (by kernel_rfl) Tryz.func7 (by kernel_rfl)
  (of_decide_eq_true (by kernel_rfl)) (by unfold Func.isWrapper;first|(rw[if_pos (by decide+kernel)];kernel_rfl)|(rw[if_neg (by decide+kernel)];exact⟨rfl,rfl⟩))
  (fun os started H enc _=>repairRuns_lifted os started H enc)
theorem repairRuns_holds:Rows.RepairRunsSaid:=repairRuns_over
#print axioms repairRuns_holds
end Go.Proofs.YtfamifgchgolpaaGreat
