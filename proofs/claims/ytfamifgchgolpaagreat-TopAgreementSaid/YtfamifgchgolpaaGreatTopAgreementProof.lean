/- TopAgreement: for every input the law returns true, and each argument reads afterwards as before. No condition beyond the given row's. -/
import Derived.Test.YtfamifgchgolpaaGreatWo
import Derived.Test.YtfamifgchgolpaaGreatOv
set_option maxRecDepth 100000
namespace Go.Proofs.YtfamifgchgolpaaGreat
open Go Go.ChangeShapes Go.WideShapes Go.ChangeAt Go.RowKit Tx
set_option linter.unusedVariables false in
theorem topAgreement_lifted(os:Os)(started:os.Started)(H:Type)(enc:TypeId×Value→H):
 ReturnsInHanded {} Tryz.checked os 3 .any (Rows.topAgreementSpec.pre6 enc Tryz.prog Tryz.f3 Rows.topAgreementRow.domain false) (Rows.topAgreementSpec.post enc Tryz.prog Tryz.f3 false true false false):=by
 refine returnsInHanded_of_change (C:=Tryz.checked) (show ownKnob Tryz.prog.godebug=none by kernel_rfl) started (by kernel_rfl) Tryz.func3
  (ChangeSpec.witness6 (enc:=enc) (C:=Tryz.checked) false ⟨#[],#[.slice none 0 0,.slice none 0 0,.slice none 0 0,.slice none 0 0],[]⟩ 8 (by kernel_rfl) (by kernel_rfl) (by kernel_rfl) (by kernel_rfl)) ?_
 intro W base args ds gs before hval0 hW hcnd _
 have hval:∀(j:Nat) t v,Tryz.f3.params[j]? =some t→args[j]? =some v→Value.okWide Tryz.prog W .any base t v:=hval0
 have hW':=hW
 obtain⟨p,q,hA0,hV,rfl,hfz,hnd⟩:=hW
 have hA:DataW.TrodAll enc Tryz.prog W 0 (fun _=>true) true Tryz.f3.params.toList args.toList ds p:=hA0
 rw[Tryz.params3]at hA hval
 obtain⟨v0,vs0,d0,ds0,p0,q0,hargs,rfl,rfl,h0,r0⟩:=trodAll_cons hA
 obtain⟨v1,vs1,d1,ds1,p1,q1,rfl,rfl,rfl,h1,r1⟩:=trodAll_cons r0
 obtain⟨v2,vs2,d2,ds2,p2,q2,rfl,rfl,rfl,h2,r2⟩:=trodAll_cons r1
 obtain⟨v3,vs3,d3,ds3,p3,q3,rfl,rfl,rfl,h3,r3⟩:=trodAll_cons r2
 obtain⟨rfl,rfl,rfl⟩:=trodAll_nil r3
 obtain rfl:args=#[v0,v1,v2,v3]:=by cases args;simp_all
 obtain⟨rfl,rfl⟩:=trodVars_none hV
 clear hA0 hval0 hcnd hA hfz hnd hV
 obtain⟨fu0,hf0⟩:=h0
 obtain⟨qa0,qn0,qc0,rfl⟩:=okWide_slice Tryz.underlying22 (hval 0 22 v0 rfl rfl)
 replace hf0:DataW.trod enc Tryz.prog W 0 (fun _=>true) true fu0 22 [.slice qa0 qn0 qc0]=some (d0,p0):=hf0
 obtain⟨xs1,wf2⟩:=open_u8s hf0
 obtain⟨fu1,hf1⟩:=h1
 obtain⟨qa1,qn1,qc1,rfl⟩:=okWide_slice Tryz.underlying22 (hval 1 22 v1 rfl rfl)
 replace hf1:DataW.trod enc Tryz.prog W 0 (fun _=>true) true fu1 22 [.slice qa1 qn1 qc1]=some (d1,p1):=hf1
 obtain⟨xs3,wf4⟩:=open_u8s hf1
 obtain⟨fu2,hf2⟩:=h2
 obtain⟨qa2,qn2,qc2,rfl⟩:=okWide_slice Tryz.underlying24 (hval 2 24 v2 rfl rfl)
 replace hf2:DataW.trod enc Tryz.prog W 0 (fun _=>true) true fu2 24 [.slice qa2 qn2 qc2]=some (d2,p2):=hf2
 obtain⟨xs5,wf6⟩:=open_ints hf2
 obtain⟨fu3,hf3⟩:=h3
 obtain⟨qa3,qn3,qc3,rfl⟩:=okWide_slice Tryz.underlying25 (hval 3 25 v3 rfl rfl)
 replace hf3:DataW.trod enc Tryz.prog W 0 (fun _=>true) true fu3 25 [.slice qa3 qn3 qc3]=some (d3,p3):=hf3
 obtain⟨xs7,wf8⟩:=open_wishes hf3
 refine(topAgr_any xs1 xs3 xs5 xs7 qa0 qa1 qa2 qa3 qn0 qc0 qn1 qc1 qn2 qc2 qn3 qc3 W wf2.1 wf2.2 wf4.1 wf4.2 wf6.1 wf8.1).mono fun e W' ⟨he,hb⟩=> ?_
 subst he
 exact⟨_,rfl,Frame.law_post (tb:=4) (by kernel_rfl) (by
  rw[Tryz.params3]
  intro t ht
  simp only[List.mem_cons,List.not_mem_nil,or_false]at ht
  rcases ht with rfl|rfl|rfl|rfl<;>exact⟨by kernel_rfl,of_decide_eq_true (by kernel_rfl)⟩) rfl hW' rfl Tryz.underlying4 rfl hb⟩
theorem topAgreement_over:Rows.topAgreementRow.holds Tryz.pinned (OpenSpec.ofChange Rows.topAgreementSpec):=
 OpenClaim.holds_of_wide 3 Tryz.f3 rfl rfl rfl rfl rfl rfl rfl ⟨rfl,rfl,rfl,rfl,rfl⟩ rfl rfl rfl rfl rfl (by kernel_rfl) Tryz.func3 (by kernel_rfl)
  (of_decide_eq_true (by kernel_rfl)) (by unfold Func.isWrapper;first|(rw[if_pos (by decide+kernel)];kernel_rfl)|(rw[if_neg (by decide+kernel)];exact⟨rfl,rfl⟩))
  (fun os started H enc _=>topAgreement_lifted os started H enc)
theorem topAgreement_holds:Rows.TopAgreementSaid:=topAgreement_over
#print axioms topAgreement_holds
end Go.Proofs.YtfamifgchgolpaaGreat
