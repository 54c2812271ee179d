/- Chapter 28: Bound, lost, Longest, Few, Same: the reference's. -/
import Derived.Test.YtggpaahhgchloaaGreatSb
import Derived.Test.YtggpaahhgchloaaGreatCc
import Derived.Test.YtggpaahhgchloaaGreatSe
import Derived.Test.YtggpaahhgchloaaGreatVz
set_option linter.unusedVariables false
set_option linter.unusedSimpArgs false
set_option maxRecDepth 100000
set_option maxHeartbeats 16000000
namespace Go.Proofs.YtggpaahhgchloaaGreat
open Go Go.RowKit Go.Sort Go.Shelf Go.Maps
namespace Tx
open Sw Mm Pl
theorem rbound_any(p l:Int)(w:World):Calls Tryz.prog 31 #[.int .i64 p,.int .i64 l] w fun e w'=>e= .returned (.tuple #[.int .i64 (boundN p l),.int .i64 (boundC p l)])∧w=w':=by
 have hN:boundN p l=if boundC p l=0 then(l+1)*(l+1)*p+l+1 else 0:=rfl
 have hC:boundC p l=if p<1∨4096<p∨l<0∨7<l then 2 else 0:=rfl
 generalize boundN p l=N at*
 generalize boundC p l=C at*
 by_cases h:p<1∨4096<p∨l<0∨7<l
 case pos=>
  rw[if_pos h]at hC
  subst hC
  rw[if_neg (by decide)]at hN
  subst hN
  go_enter Tryz.func31,Tryz.ntmps31
  rcases h with h|h|h|h
  all_goals
   go_wp2
  all_goals
   refine bodyPost_ret (v:= .tuple #[.int .i64 0,.int .i64 2]) (by simp[results,Tryz.results31,go_sem]) rfl ⟨rfl,rfl⟩
 rw[if_neg h]at hC
 subst hC
 rw[if_pos rfl]at hN
 obtain⟨q,r,hq,hr,q1,q2,r1,r2⟩:=bound_arith (p:=p) (l:=l) (by omega) (by omega) (by omega) (by omega)
 have w1:IntKind.i64.wrap (l+1)=l+1:=IntWalk.i64_in _ (by omega)
 have w2:IntKind.i64.wrap ((l+1)*(l+1))=q:=by rw[hq];exact IntWalk.i64_in _ (by omega)
 have w3:IntKind.i64.wrap (q*p)=r:=by rw[hr];exact IntWalk.i64_in _ (by omega)
 have w4:IntKind.i64.wrap (r+l)=r+l:=IntWalk.i64_in _ (by omega)
 have w5:IntKind.i64.wrap (r+l+1)=r+l+1:=IntWalk.i64_in _ (by omega)
 have hv:N=r+l+1:=by rw[hN,hq,hr]
 subst hv
 clear hN hq hr q1 q2 r1 r2
 have d1:¬p<1:=by omega
 have d2:¬4096<p:=by omega
 have d3:¬l<0:=by omega
 have d4:¬7<l:=by omega
 clear h
 go_enter Tryz.func31,Tryz.ntmps31
 go_wp2
 refine bodyPost_ret (v:= .tuple #[.int .i64 (r+l+1),.int .i64 0]) (by simp[results,Tryz.results31,go_sem]) rfl ⟨rfl,rfl⟩
theorem rlost_any(row:Int)(is:Bool)(w:World)(h0:0≤row)(h1:row≤4611686018427387904):Calls Tryz.prog 93 #[.int .i64 row,.bool is] w fun e w'=>e= .returned (.int .i64 (rowN row is))∧w=w':=by
 have w1:IntKind.i64.wrap (row+1)=row+1:=IntWalk.i64_in _ (by omega)
 unfold rowN
 cases is
 all_goals
  go_enter Tryz.func93,Tryz.ntmps93
  go_wp2
  go_ret
  exact⟨by simp,rfl⟩
theorem rlongest_any(A:Option Addr)(n cp:Nat)(xs:List Bool)(w:World)(h:Sls boolE 1 w A n xs)(hn:n≤100000):Calls Tryz.prog 36 #[.slice A n cp] w fun e w'=>e= .returned (.int .i64 (longN xs))∧Below w.heap.size w w':=by
 have hlen:=h.len
 have hs:=h.small
 unfold maxLen at hs
 have hN:longN xs=(rowsN xs (0,0)).2:=rfl
 generalize longN xs=N at*
 replace h:=Zh h
 replace hlen:=Zh hlen
 replace hN:=Zh hN
 go_enter Tryz.func36,Tryz.ntmps36
 go_wp2_with fail
 go_loopw[3,4,5] (fun s m i wr=>Hid (∃k:Nat,k≤n∧i= .int .i64 k∧s= .int .i64 (rowsN (xs.take k) (0,0)).1∧m= .int .i64 (rowsN (xs.take k) (0,0)).2∧Hid (Below w.heap.size w wr))) (fun _ _ i _=>n-(intOf i).toNat)
 case atStart=>exact Zh ⟨0,by omega,rfl,rfl,rfl,Below.refl _ _⟩
 case round=>
  obtain⟨k,hk,rfl,rfl,rfl,HB⟩:=hrel.out
  clear hrel
  by_cases hlt:k<n
  ·obtain⟨b,off,rfl⟩:=h.out.addr (by omega)
   have q0:=bool_at (h.out.keep HB.out) hlt
   have hT:xs.take (k+1)=xs.take k++ [xs.getD k default]:=by rw[List.take_succ_eq_append_getElem (by rw[hlen.out];exact hlt),List.getD_eq_getElem?_getD,List.getElem?_eq_getElem (by rw[hlen.out];exact hlt)];rfl
   have hB:=rows_bd (xs.take k) (0,0) 0 (by decide) (by decide) (by decide) (by decide)
   rw[List.length_take,hlen.out]at hB
   have hS:=rows_snoc (xs.take k) (xs.getD k default) (0,0)
   rw[←hT]at hS
   clear hT
   generalize xs.getD k default=x at*
   generalize rowsN (xs.take k) (0,0)=s at*
   obtain⟨now,most⟩:=s
   dsimp only at*
   have r1:(k:Int)<(n:Int):=by omega
   have r0:(0:Int)≤(k:Int):=by omega
   have c1:=fun W=>rlost_any now (!x) W (by omega) (by omega)
   generalize rowN now (!x)=now2 at*
   generalize hm2:max most now2=most2 at*
   clear hB
   replace c1:=Zh c1
   replace hS:=Zh hS
   replace hm2:=Zh hm2
   go_wp2_with(first|(go_at_call 93;refine(c1.out _).mono ?_;rintro r w3 ⟨rfl,rfl⟩)|fail)
   have hS1:=congrArg Prod.fst hS.out
   have hS2:=congrArg Prod.snd hS.out
   dsimp only at hS1 hS2
   go_roundw
   case rel=>exact Zh ⟨k+1,by omega,by go_num,by rw[hS1],by rw[hS2,hm2.out],HB⟩
   case measure=>simp[intOf];omega
  ·obtain rfl:k=n:=by omega
   have hx:xs.take k=xs:=List.take_of_length_le (by rw[hlen.out];exact Nat.le_refl _)
   have hN2:=hN.out
   try rw[hx]
   try rw[hx]at hN2
   go_wp2
   go_ret
   exact⟨by rw[hN2];rfl,HB.out⟩
def fewCp(c:Cpl)(nf:Nat):Bool:=fewE c.a&&(fewE c.b&&(fewT c.left&&(fewT c.right&&decide (nf≤600))))
theorem fewCp_any(c:Cpl)(v:CplV)(w:World)(h:CplIs w v c):Calls Tryz.prog 27 #[.agg (cplA c v)] w fun r w'=>r= .returned (.bool (fewCp c v.nf))∧Below w.heap.size w w':=by
 have HM:=Zh (Mem.start w)
 obtain⟨F0,hFs,hF⟩:∃F:World→Prop,Stb F∧Hid (F w):=⟨_,Stb.true,trivial⟩
 have uE:=Tryz.underlying27
 have uT:=Tryz.underlying29
 have uM:=Tryz.underlying25
 have uC:=Tryz.underlying57
 have hR:fewCp c v.nf=(fewE c.a&&(fewE c.b&&(fewT c.left&&(fewT c.right&&decide (v.nf≤600))))):=rfl
 have cA:=fun W (hb:Below w.heap.size w W)=>fewE_any c.a v.a W (h.a.keep hb)
 have cB:=fun W (hb:Below w.heap.size w W)=>fewE_any c.b v.b W (h.b.keep hb)
 have cC:=fun W (hb:Below w.heap.size w W)=>fewT_any c.left v.l W (h.l.keep hb)
 have cD:=fun W (hb:Below w.heap.size w W)=>fewT_any c.right v.r W (h.r.keep hb)
 generalize fewCp c v.nf=R at*
 generalize fewE c.a=B1 at*
 generalize fewE c.b=B2 at*
 generalize fewT c.left=B3 at*
 generalize fewT c.right=B4 at*
 replace cA:=Zh cA
 replace cB:=Zh cB
 replace cC:=Zh cC
 replace cD:=Zh cD
 replace h:=Zh h
 replace uE:=Zh uE
 replace uT:=Zh uT
 replace uM:=Zh uM
 replace uC:=Zh uC
 go_enter Tryz.func27,Tryz.ntmps27
 have mk1:Unit:=()
 go_upto_region 1 with(first|go_skip|(clear mk1;refine wpList_boxA HM rfl 57 _ rfl _ rfl ?_;clear HM;intro gc w1 HM hG;replace hF:=Zh (hFs.keep hF.out hG.out);clear hG)|fail)
 have p62:World.cell? _ ⟨gc,62,none⟩=some (.slice v.A v.nf v.cf):=HM.out.cell 0 rfl 62
 cases B1
 case' false=>
  have hh:R=false:=by rw[hR];simp[]
  subst hh
  replace hR:=Zh hR
 case' true=>
  cases B2
  case' false=>
   have hh:R=false:=by rw[hR];simp[]
   subst hh
   replace hR:=Zh hR
  case' true=>
   cases B3
   case' false=>
    have hh:R=false:=by rw[hR];simp[]
    subst hh
    replace hR:=Zh hR
   case' true=>
    cases B4
    case' false=>
     have hh:R=false:=by rw[hR];simp[]
     subst hh
     replace hR:=Zh hR
    case' true=>
     have hh:R=decide (v.nf≤600):=by rw[hR];simp[]
     subst hh
     replace hR:=Zh hR
     have d9:decide ((v.nf:Int)≤600)=decide (v.nf≤600):=by rw[decide_eq_decide];omega
 all_goals
  have mk2:Unit:=()
  have mk3:Unit:=()
  have mk4:Unit:=()
  have mk5:Unit:=()
  go_wp2_with(first|go_skip|(refine wpList_loadP 0 HM (by rfl) _ _ rfl _ 0 rfl rfl (endA c.a v.a) (by kernel_rfl) _ uE.out rfl (by exact zend) ?_)|(refine wpList_loadP 0 HM (by rfl) _ _ rfl _ 28 rfl rfl (endA c.b v.b) (by kernel_rfl) _ uE.out rfl (by exact zend) ?_)|(refine wpList_loadP 0 HM (by rfl) _ _ rfl _ 56 rfl rfl (tabA c.left v.l) (by kernel_rfl) _ uT.out rfl (by exact ztab) ?_)|(refine wpList_loadP 0 HM (by rfl) _ _ rfl _ 59 rfl rfl (tabA c.right v.r) (by kernel_rfl) _ uT.out rfl (by exact ztab) ?_)|(go_at_call 12;clear mk2;refine(cA.out _ HM.out.below).mono ?_;rintro r w3 ⟨rfl,hb_⟩;replace p62:=((HM.out.keep hb_).cell 0 rfl 62).trans ((HM.out.cell 0 rfl 62).symm.trans p62);replace HM:=Zh (HM.out.keep hb_);replace hF:=Zh (hFs.keep hF.out hb_);clear hb_;dsimp only)|(go_at_call 12;clear mk3;refine(cB.out _ HM.out.below).mono ?_;rintro r w3 ⟨rfl,hb_⟩;replace p62:=((HM.out.keep hb_).cell 0 rfl 62).trans ((HM.out.cell 0 rfl 62).symm.trans p62);replace HM:=Zh (HM.out.keep hb_);replace hF:=Zh (hFs.keep hF.out hb_);clear hb_;dsimp only)|(go_at_call 13;clear mk4;refine(cC.out _ HM.out.below).mono ?_;rintro r w3 ⟨rfl,hb_⟩;replace p62:=((HM.out.keep hb_).cell 0 rfl 62).trans ((HM.out.cell 0 rfl 62).symm.trans p62);replace HM:=Zh (HM.out.keep hb_);replace hF:=Zh (hFs.keep hF.out hb_);clear hb_;dsimp only)|(go_at_call 13;clear mk5;refine(cD.out _ HM.out.below).mono ?_;rintro r w3 ⟨rfl,hb_⟩;replace p62:=((HM.out.keep hb_).cell 0 rfl 62).trans ((HM.out.cell 0 rfl 62).symm.trans p62);replace HM:=Zh (HM.out.keep hb_);replace hF:=Zh (hFs.keep hF.out hb_);clear hb_;dsimp only)|fail)
  try simp only[Exit.inBlock,Exit.then]
  go_ret
  exact⟨by first|rfl|trivial|(rw[←d9];done)|(simp[d9];done),HM.out.below⟩
theorem sameTab_any(a b:Tab)(va vb:TabV)(w:World)(h1:TabIs w va a)(h2:TabIs w vb b):Calls Tryz.prog 91 #[.agg (tabA a va),.agg (tabA b vb)] w fun r w'=>r= .returned (.bool (decide (a=b)))∧Below w.heap.size w w':=by
 have HM:=Zh (Mem.start w)
 obtain⟨F0,hFs,hF⟩:∃F:World→Prop,Stb F∧Hid (F w):=⟨_,Stb.true,trivial⟩
 have uE:=Tryz.underlying27
 have uT:=Tryz.underlying29
 have uM:=Tryz.underlying25
 have hR:decide (a=b)=(decide (a.node=b.node)&&(decide (a.length=b.length)&&decide (a.cells=b.cells))):=by
  obtain⟨a1,a2,a3⟩:=a
  obtain⟨b1,b2,b3⟩:=b
  simp only[Tab.mk.injEq,Bool.decide_and]
 have cS:=fun W (hb:Below w.heap.size w W)=>sameT_any va.A vb.A va.n va.c vb.n vb.c a.cells b.cells W (h1.cells.keep hb) (h2.cells.keep hb)
 generalize decide (a.cells=b.cells)=B3 at*
 generalize decide (a=b)=R at*
 replace cS:=Zh cS
 replace h1:=Zh h1
 replace h2:=Zh h2
 replace hR:=Zh hR
 replace uE:=Zh uE
 replace uT:=Zh uT
 replace uM:=Zh uM
 go_enter Tryz.func91,Tryz.ntmps91
 have mk1:Unit:=()
 have mk2:Unit:=()
 go_upto_region 1 with(first|go_skip|(clear mk1;refine wpList_boxA HM rfl 29 _ rfl _ rfl ?_;clear HM;intro ga w1 HM hG;replace hF:=Zh (hFs.keep hF.out hG.out);clear hG)|(clear mk2;refine wpList_boxA HM rfl 29 _ rfl _ rfl ?_;clear HM;intro gb w1 HM hG;replace hF:=Zh (hFs.keep hF.out hG.out);clear hG)|fail)
 have p0:World.cell? _ ⟨ga,0,none⟩=some (.int .i64 a.node):=HM.out.cell 1 rfl 0
 have p1:World.cell? _ ⟨ga,1,none⟩=some (.int .i64 a.length):=HM.out.cell 1 rfl 1
 have p2:World.cell? _ ⟨ga,2,none⟩=some (.slice va.A va.n va.c):=HM.out.cell 1 rfl 2
 have q0:World.cell? _ ⟨gb,0,none⟩=some (.int .i64 b.node):=HM.out.cell 0 rfl 0
 have q1:World.cell? _ ⟨gb,1,none⟩=some (.int .i64 b.length):=HM.out.cell 0 rfl 1
 have q2:World.cell? _ ⟨gb,2,none⟩=some (.slice vb.A vb.n vb.c):=HM.out.cell 0 rfl 2
 by_cases e1:a.node=b.node
 case' neg=>
  have d1:(a.node==b.node)=false:=by rw[beq_eq_false_iff_ne];exact e1
  have hh:R=false:=by rw[hR.out];simp[e1]
  subst hh
  replace e1:=Zh e1
 case' pos=>
  have d1:(a.node==b.node)=true:=by rw[beq_iff_eq];exact e1
  by_cases e2:a.length=b.length
  case' neg=>
   have d2:(a.length==b.length)=false:=by rw[beq_eq_false_iff_ne];exact e2
   have hh:R=false:=by rw[hR.out];simp[e2]
   subst hh
   replace e1:=Zh e1
   replace e2:=Zh e2
  case' pos=>
   have d2:(a.length==b.length)=true:=by rw[beq_iff_eq];exact e2
   have hh:R=B3:=by rw[hR.out];simp[e1,e2]
   subst hh
   replace e1:=Zh e1
   replace e2:=Zh e2
 all_goals
  have mk3:Unit:=()
  go_wp2_with(first|go_skip|(go_at_call 76;clear mk3;refine(cS.out _ HM.out.below).mono ?_;rintro r w3 ⟨rfl,hb_⟩;clear p0 p1 p2 q0 q1 q2;replace HM:=Zh (HM.out.keep hb_);replace hF:=Zh (hFs.keep hF.out hb_);clear hb_;dsimp only)|fail)
  try simp only[Exit.inBlock,Exit.then]
  go_ret
  exact⟨by first|rfl|trivial,HM.out.below⟩
theorem intext {xs ys:List Int}(hl:xs.length=ys.length)(h:∀i,i<xs.length→xs.getD i default=ys.getD i default):xs=ys:=by
 refine List.ext_getElem hl fun i h1 h2=> ?_
 have:=h i h1
 rwa[List.getD_eq_getElem?_getD,List.getD_eq_getElem?_getD,List.getElem?_eq_getElem h1,List.getElem?_eq_getElem h2]at this
theorem sameC_split(a b:Cpl):decide (a=b)=(decide (a.free=b.free)&&(decide (a.a=b.a)&&(decide (a.b=b.b)&&(decide (a.left=b.left)&&(decide (a.right=b.right)&&(a.period==b.period&&(a.frame==b.frame&&(a.wa==b.wa&&(a.wb==b.wb))))))))):=by
 obtain⟨a1,a2,a3,a4,a5,a6,a7,a8,a9⟩:=a
 obtain⟨b1,b2,b3,b4,b5,b6,b7,b8,b9⟩:=b
 rw[Bool.eq_iff_iff]
 simp only[Cpl.mk.injEq,decide_eq_true_eq,Bool.and_eq_true,beq_iff_eq]
 exact⟨fun⟨h1,h2,h3,h4,h5,h6,h7,h8,h9⟩=>⟨h5,h1,h2,h3,h4,h6,h7,h8,h9⟩,fun⟨h5,h1,h2,h3,h4,h6,h7,h8,h9⟩=>⟨h1,h2,h3,h4,h5,h6,h7,h8,h9⟩⟩
theorem sameC_any(a b:Cpl)(va vb:CplV)(w:World)(ha:CplIs w va a)(hb:CplIs w vb b):Calls Tryz.prog 34 #[.agg (cplA a va),.agg (cplA b vb)] w fun r w'=>r= .returned (.bool (decide (a=b)))∧Below w.heap.size w w':=by
 have HM:=Zh (Mem.start w)
 obtain⟨F0,hFs,hF⟩:∃F:World→Prop,Stb F∧Hid (F w):=⟨_,Stb.true,trivial⟩
 have uE:=Tryz.underlying27
 have uT:=Tryz.underlying29
 have uM:=Tryz.underlying25
 have uC:=Tryz.underlying57
 have uF:=Tryz.underlying31
 have hla:=ha.f.len
 have hlb:=hb.f.len
 have hsa:=ha.f.small
 have hsb:=hb.f.small
 unfold maxLen at hsa hsb
 have hR:=sameC_split a b
 have c1:=fun W (q:Below w.heap.size w W)=>sameE_any a.a b.a va.a vb.a W (ha.a.keep q) (hb.a.keep q)
 have c2:=fun W (q:Below w.heap.size w W)=>sameE_any a.b b.b va.b vb.b W (ha.b.keep q) (hb.b.keep q)
 have c3:=fun W (q:Below w.heap.size w W)=>sameTab_any a.left b.left va.l vb.l W (ha.l.keep q) (hb.l.keep q)
 have c4:=fun W (q:Below w.heap.size w W)=>sameTab_any a.right b.right va.r vb.r W (ha.r.keep q) (hb.r.keep q)
 have hfa:=fun W (q:Below w.heap.size w W)=>ha.f.keep q
 have hfb:=fun W (q:Below w.heap.size w W)=>hb.f.keep q
 generalize decide (a=b)=R at*
 generalize decide (a.a=b.a)=B1 at*
 generalize decide (a.b=b.b)=B2 at*
 generalize decide (a.left=b.left)=B3 at*
 generalize decide (a.right=b.right)=B4 at*
 replace c1:=Zh c1
 replace c2:=Zh c2
 replace c3:=Zh c3
 replace c4:=Zh c4
 replace hfa:=Zh hfa
 replace hfb:=Zh hfb
 replace hR:=Zh hR
 replace uE:=Zh uE
 replace uT:=Zh uT
 replace uM:=Zh uM
 replace uC:=Zh uC
 replace uF:=Zh uF
 clear ha hb
 go_enter Tryz.func34,Tryz.ntmps34
 have mk1:Unit:=()
 have mk2:Unit:=()
 go_upto_region 1 with(first|go_skip|(clear mk1;refine wpList_boxA HM rfl 57 _ rfl _ rfl ?_;clear HM;intro ga w1 HM hG;replace hF:=Zh (hFs.keep hF.out hG.out);clear hG)|(clear mk2;refine wpList_boxA HM rfl 57 _ rfl _ rfl ?_;clear HM;intro gb w1 HM hG;replace hF:=Zh (hFs.keep hF.out hG.out);clear hG)|fail)
 have pa:World.cell? _ ⟨ga,62,none⟩=some (.slice va.A va.nf va.cf):=HM.out.cell 1 rfl 62
 have pb:World.cell? _ ⟨gb,62,none⟩=some (.slice vb.A vb.nf vb.cf):=HM.out.cell 0 rfl 62
 by_cases e0:va.nf=vb.nf
 case neg=>
  have d0:((va.nf:Int) !=(vb.nf:Int))=true:=by rw[bne_iff_ne];omega
  have hh:R=false:=by rw[hR.out,decide_eq_false (show¬a.free=b.free from fun e=>e0 (by rw[←hla,←hlb,e]))];rfl
  subst hh
  clear e0
  go_wp2_with fail
  try simp only[Exit.inBlock,Exit.then]
  go_ret
  exact⟨by first|rfl|trivial,HM.out.below⟩
 have d0:((va.nf:Int) !=(vb.nf:Int))=false:=by rw[bne_eq_false_iff_eq];omega
 obtain⟨N,hN⟩:∃N,va.nf=N:=⟨_,rfl⟩
 rw[←e0]at pb hfb hlb
 rw[hN]at pa pb hfa hfb hla hlb hsa d0
 rw[←e0,hN]at d0
 clear hsb
 replace e0:=Zh e0
 replace hN:=Zh hN
 go_upto_region 4 with fail
 go_loopw[5] (fun i wr=>Hid (∃k:Nat,k≤N∧i= .int .i64 k∧Hid (∀j,j<k→a.free.getD j default=b.free.getD j default)∧Hid (Mem w wr [(gb,cplA b vb,57),(ga,cplA a va,57)]))) (fun i _=>N-(intOf i).toNat)
 case atStart=>exact Zh ⟨0,by omega,rfl,fun j hj=>absurd hj (by omega),HM⟩
 case round=>
  clear HM pa pb hF hFs
  obtain⟨k,hk,rfl,HP,HM⟩:=hrel.out
  clear hrel
  have hFs:Stb (fun _=>True):=Stb.true
  have hF:Hid ((fun _:World=>True) wr):=trivial
  have pa:World.cell? _ ⟨ga,62,none⟩=some (.slice va.A N va.cf):=(HM.out.cell 1 rfl 62).trans (by rw[←hN.out];rfl)
  have pb:World.cell? _ ⟨gb,62,none⟩=some (.slice vb.A N vb.cf):=(HM.out.cell 0 rfl 62).trans (by rw[←hN.out,e0.out];rfl)
  by_cases hlt:k<N
  ·obtain⟨b1,o1,h1⟩:=(hfa.out _ HM.out.below).addr (by omega)
   obtain⟨b2,o2,h2⟩:=(hfb.out _ HM.out.below).addr (by omega)
   rw[h1]at pa hfa
   rw[h2]at pb hfb
   have q0:=int_at (hfa.out _ HM.out.below) hlt
   have q1:=int_at (hfb.out _ HM.out.below) hlt
   have hnx:a.free.getD k default=b.free.getD k default→∀j,j<k+1→a.free.getD j default=b.free.getD j default:=fun h j hj=>by
    by_cases e:j=k
    ·subst e;exact h
    ·exact HP.out j (by omega)
   have hno:a.free.getD k default≠b.free.getD k default→¬a.free=b.free:=fun h e=>h (by rw[e])
   generalize a.free.getD k default=x at*
   generalize b.free.getD k default=y at*
   have r1:(k:Int)<(N:Int):=by omega
   have r0:(0:Int)≤(k:Int):=by omega
   replace hnx:=Zh hnx
   replace hno:=Zh hno
   by_cases t0:x=y
   case neg=>
    have d9:(x !=y)=true:=by rw[bne_iff_ne];exact t0
    have hh:R=false:=by rw[hR.out,decide_eq_false (hno.out t0)];rfl
    subst hh
    replace t0:=Zh t0
    go_upto_region 6 with fail
    have g0:=cell_regrown q0
    have g1:=cell_regrown q1
    have g2:=cell_regrown pa
    have g3:=cell_regrown pb
    clear q0 q1 pa pb
    refine wp_region_quiet_below (by kernel_rfl) (by kernel_rfl) ?_
    repeat(go_big_quiet_step(fail))
    refine wpQuiet_nil ?_
    rintro _ ⟨⟨dq,osq⟩,rfl⟩
    have hb_:=below_regrown wr dq osq
    replace HM:=Zh (HM.out.keep hb_)
    generalize grow (redrawn wr dq) osq=w2 at*
    clear hb_
    go_wp2
    go_ret
    exact⟨by first|rfl|trivial,HM.out.below⟩
   have d9:(x !=y)=false:=by rw[bne_eq_false_iff_eq];exact t0
   have hh:=Zh (hnx.out t0)
   replace t0:=Zh t0
   go_upto_region 6 with fail
   have g0:=cell_regrown q0
   have g1:=cell_regrown q1
   have g2:=cell_regrown pa
   have g3:=cell_regrown pb
   clear q0 q1 pa pb
   refine wp_region_quiet_below (by kernel_rfl) (by kernel_rfl) ?_
   repeat(go_big_quiet_step(fail))
   refine wpQuiet_nil ?_
   rintro _ ⟨⟨dq,osq⟩,rfl⟩
   have hb_:=below_regrown wr dq osq
   replace HM:=Zh (HM.out.keep hb_)
   generalize grow (redrawn wr dq) osq=w2 at*
   clear hb_
   go_wp2
   go_roundw
   case rel=>exact Zh ⟨k+1,by omega,by go_num,hh,HM⟩
   case measure=>simp[intOf];omega
  ·obtain rfl:k=N:=by omega
   have hfree:a.free=b.free:=intext (by omega) (fun i hi=>HP.out i (by omega))
   replace hR:=Zh (hR.out.trans (by rw[decide_eq_true hfree,Bool.true_and]))
   clear hfree HP
   have p3:World.cell? _ ⟨ga,63,none⟩=some (.int .i64 a.period):=HM.out.cell 1 rfl 63
   have p4:World.cell? _ ⟨ga,64,none⟩=some (.int .i64 a.frame):=HM.out.cell 1 rfl 64
   have p5:World.cell? _ ⟨ga,65,none⟩=some (.bool a.wa):=HM.out.cell 1 rfl 65
   have p6:World.cell? _ ⟨ga,66,none⟩=some (.bool a.wb):=HM.out.cell 1 rfl 66
   have q3:World.cell? _ ⟨gb,63,none⟩=some (.int .i64 b.period):=HM.out.cell 0 rfl 63
   have q4:World.cell? _ ⟨gb,64,none⟩=some (.int .i64 b.frame):=HM.out.cell 0 rfl 64
   have q5:World.cell? _ ⟨gb,65,none⟩=some (.bool b.wa):=HM.out.cell 0 rfl 65
   have q6:World.cell? _ ⟨gb,66,none⟩=some (.bool b.wb):=HM.out.cell 0 rfl 66
   cases B1
   case' false=>
    have hh:R=false:=by rw[hR.out];simp[]
    subst hh
   case' true=>
    cases B2
    case' false=>
     have hh:R=false:=by rw[hR.out];simp[]
     subst hh
    case' true=>
     cases B3
     case' false=>
      have hh:R=false:=by rw[hR.out];simp[]
      subst hh
     case' true=>
      cases B4
      case' false=>
       have hh:R=false:=by rw[hR.out];simp[]
       subst hh
      case' true=>
       by_cases e3:a.period=b.period
       case' neg=>
        have d3:(a.period==b.period)=false:=by rw[beq_eq_false_iff_ne];exact e3
        have hh:R=false:=by rw[hR.out];simp[e3]
        subst hh
        replace e3:=Zh e3
       case' pos=>
        have d3:(a.period==b.period)=true:=by rw[beq_iff_eq];exact e3
        by_cases e4:a.frame=b.frame
        case' neg=>
         have d4:(a.frame==b.frame)=false:=by rw[beq_eq_false_iff_ne];exact e4
         have hh:R=false:=by rw[hR.out];simp[e4]
         subst hh
         replace e3:=Zh e3
         replace e4:=Zh e4
        case' pos=>
         have d4:(a.frame==b.frame)=true:=by rw[beq_iff_eq];exact e4
         by_cases e5:a.wa=b.wa
         case' neg=>
          have d5:(a.wa==b.wa)=false:=by rw[beq_eq_false_iff_ne];exact e5
          have hh:R=false:=by rw[hR.out];simp[e5]
          subst hh
          replace e3:=Zh e3
          replace e4:=Zh e4
          replace e5:=Zh e5
         case' pos=>
          have d5:(a.wa==b.wa)=true:=by rw[beq_iff_eq];exact e5
          have hh:R=(a.wb==b.wb):=by rw[hR.out];simp[e3,e4,e5]
          subst hh
          replace e3:=Zh e3
          replace e4:=Zh e4
          replace e5:=Zh e5
   all_goals
    have mk3:Unit:=()
    have mk4:Unit:=()
    have mk5:Unit:=()
    have mk6:Unit:=()
    go_wp2_with(first|go_skip|(refine wpList_loadP 1 HM (by rfl) _ _ rfl _ 0 rfl rfl (endA a.a va.a) (by kernel_rfl) _ uE.out rfl (by exact zend) ?_)|(refine wpList_loadP 1 HM (by rfl) _ _ rfl _ 28 rfl rfl (endA a.b va.b) (by kernel_rfl) _ uE.out rfl (by exact zend) ?_)|(refine wpList_loadP 1 HM (by rfl) _ _ rfl _ 56 rfl rfl (tabA a.left va.l) (by kernel_rfl) _ uT.out rfl (by exact ztab) ?_)|(refine wpList_loadP 1 HM (by rfl) _ _ rfl _ 59 rfl rfl (tabA a.right va.r) (by kernel_rfl) _ uT.out rfl (by exact ztab) ?_)|(refine wpList_loadP 0 HM (by rfl) _ _ rfl _ 0 rfl rfl (endA b.a vb.a) (by kernel_rfl) _ uE.out rfl (by exact zend) ?_)|(refine wpList_loadP 0 HM (by rfl) _ _ rfl _ 28 rfl rfl (endA b.b vb.b) (by kernel_rfl) _ uE.out rfl (by exact zend) ?_)|(refine wpList_loadP 0 HM (by rfl) _ _ rfl _ 56 rfl rfl (tabA b.left vb.l) (by kernel_rfl) _ uT.out rfl (by exact ztab) ?_)|(refine wpList_loadP 0 HM (by rfl) _ _ rfl _ 59 rfl rfl (tabA b.right vb.r) (by kernel_rfl) _ uT.out rfl (by exact ztab) ?_)|(go_at_call 17;clear mk3;refine(c1.out _ HM.out.below).mono ?_;rintro r w3 ⟨rfl,hb_⟩;replace pa:=((HM.out.keep hb_).cell 1 rfl 62).trans ((HM.out.cell 1 rfl 62).symm.trans pa);replace pb:=((HM.out.keep hb_).cell 0 rfl 62).trans ((HM.out.cell 0 rfl 62).symm.trans pb);replace p3:=((HM.out.keep hb_).cell 1 rfl 63).trans ((HM.out.cell 1 rfl 63).symm.trans p3);replace p4:=((HM.out.keep hb_).cell 1 rfl 64).trans ((HM.out.cell 1 rfl 64).symm.trans p4);replace p5:=((HM.out.keep hb_).cell 1 rfl 65).trans ((HM.out.cell 1 rfl 65).symm.trans p5);replace p6:=((HM.out.keep hb_).cell 1 rfl 66).trans ((HM.out.cell 1 rfl 66).symm.trans p6);replace q3:=((HM.out.keep hb_).cell 0 rfl 63).trans ((HM.out.cell 0 rfl 63).symm.trans q3);replace q4:=((HM.out.keep hb_).cell 0 rfl 64).trans ((HM.out.cell 0 rfl 64).symm.trans q4);replace q5:=((HM.out.keep hb_).cell 0 rfl 65).trans ((HM.out.cell 0 rfl 65).symm.trans q5);replace q6:=((HM.out.keep hb_).cell 0 rfl 66).trans ((HM.out.cell 0 rfl 66).symm.trans q6);replace HM:=Zh (HM.out.keep hb_);replace hF:=Zh (hFs.keep hF.out hb_);clear hb_;dsimp only)|(go_at_call 17;clear mk4;refine(c2.out _ HM.out.below).mono ?_;rintro r w3 ⟨rfl,hb_⟩;replace pa:=((HM.out.keep hb_).cell 1 rfl 62).trans ((HM.out.cell 1 rfl 62).symm.trans pa);replace pb:=((HM.out.keep hb_).cell 0 rfl 62).trans ((HM.out.cell 0 rfl 62).symm.trans pb);replace p3:=((HM.out.keep hb_).cell 1 rfl 63).trans ((HM.out.cell 1 rfl 63).symm.trans p3);replace p4:=((HM.out.keep hb_).cell 1 rfl 64).trans ((HM.out.cell 1 rfl 64).symm.trans p4);replace p5:=((HM.out.keep hb_).cell 1 rfl 65).trans ((HM.out.cell 1 rfl 65).symm.trans p5);replace p6:=((HM.out.keep hb_).cell 1 rfl 66).trans ((HM.out.cell 1 rfl 66).symm.trans p6);replace q3:=((HM.out.keep hb_).cell 0 rfl 63).trans ((HM.out.cell 0 rfl 63).symm.trans q3);replace q4:=((HM.out.keep hb_).cell 0 rfl 64).trans ((HM.out.cell 0 rfl 64).symm.trans q4);replace q5:=((HM.out.keep hb_).cell 0 rfl 65).trans ((HM.out.cell 0 rfl 65).symm.trans q5);replace q6:=((HM.out.keep hb_).cell 0 rfl 66).trans ((HM.out.cell 0 rfl 66).symm.trans q6);replace HM:=Zh (HM.out.keep hb_);replace hF:=Zh (hFs.keep hF.out hb_);clear hb_;dsimp only)|(go_at_call 91;clear mk5;refine(c3.out _ HM.out.below).mono ?_;rintro r w3 ⟨rfl,hb_⟩;replace pa:=((HM.out.keep hb_).cell 1 rfl 62).trans ((HM.out.cell 1 rfl 62).symm.trans pa);replace pb:=((HM.out.keep hb_).cell 0 rfl 62).trans ((HM.out.cell 0 rfl 62).symm.trans pb);replace p3:=((HM.out.keep hb_).cell 1 rfl 63).trans ((HM.out.cell 1 rfl 63).symm.trans p3);replace p4:=((HM.out.keep hb_).cell 1 rfl 64).trans ((HM.out.cell 1 rfl 64).symm.trans p4);replace p5:=((HM.out.keep hb_).cell 1 rfl 65).trans ((HM.out.cell 1 rfl 65).symm.trans p5);replace p6:=((HM.out.keep hb_).cell 1 rfl 66).trans ((HM.out.cell 1 rfl 66).symm.trans p6);replace q3:=((HM.out.keep hb_).cell 0 rfl 63).trans ((HM.out.cell 0 rfl 63).symm.trans q3);replace q4:=((HM.out.keep hb_).cell 0 rfl 64).trans ((HM.out.cell 0 rfl 64).symm.trans q4);replace q5:=((HM.out.keep hb_).cell 0 rfl 65).trans ((HM.out.cell 0 rfl 65).symm.trans q5);replace q6:=((HM.out.keep hb_).cell 0 rfl 66).trans ((HM.out.cell 0 rfl 66).symm.trans q6);replace HM:=Zh (HM.out.keep hb_);replace hF:=Zh (hFs.keep hF.out hb_);clear hb_;dsimp only)|(go_at_call 91;clear mk6;refine(c4.out _ HM.out.below).mono ?_;rintro r w3 ⟨rfl,hb_⟩;replace pa:=((HM.out.keep hb_).cell 1 rfl 62).trans ((HM.out.cell 1 rfl 62).symm.trans pa);replace pb:=((HM.out.keep hb_).cell 0 rfl 62).trans ((HM.out.cell 0 rfl 62).symm.trans pb);replace p3:=((HM.out.keep hb_).cell 1 rfl 63).trans ((HM.out.cell 1 rfl 63).symm.trans p3);replace p4:=((HM.out.keep hb_).cell 1 rfl 64).trans ((HM.out.cell 1 rfl 64).symm.trans p4);replace p5:=((HM.out.keep hb_).cell 1 rfl 65).trans ((HM.out.cell 1 rfl 65).symm.trans p5);replace p6:=((HM.out.keep hb_).cell 1 rfl 66).trans ((HM.out.cell 1 rfl 66).symm.trans p6);replace q3:=((HM.out.keep hb_).cell 0 rfl 63).trans ((HM.out.cell 0 rfl 63).symm.trans q3);replace q4:=((HM.out.keep hb_).cell 0 rfl 64).trans ((HM.out.cell 0 rfl 64).symm.trans q4);replace q5:=((HM.out.keep hb_).cell 0 rfl 65).trans ((HM.out.cell 0 rfl 65).symm.trans q5);replace q6:=((HM.out.keep hb_).cell 0 rfl 66).trans ((HM.out.cell 0 rfl 66).symm.trans q6);replace HM:=Zh (HM.out.keep hb_);replace hF:=Zh (hFs.keep hF.out hb_);clear hb_;dsimp only)|fail)
    try simp only[Exit.inBlock,Exit.then]
    go_ret
    exact⟨by first|rfl|trivial,HM.out.below⟩
theorem rchkCp_any(c:Cpl)(v:CplV)(w:World)(h:CplIs w v c):Calls Tryz.prog 33 #[.agg (cplA c v)] w fun r w'=>r= .returned (.int .i64 (chkCp c))∧Below w.heap.size w w':=by
 have HM:=Zh (Mem.start w)
 obtain⟨F0,hFs,hF⟩:∃F:World→Prop,Stb F∧Hid (F w):=⟨_,Stb.true,trivial⟩
 have uE:=Tryz.underlying27
 have uT:=Tryz.underlying29
 have uM:=Tryz.underlying25
 have uC:=Tryz.underlying57
 have hR:chkCp c=if c.period<1∨4096<c.period∨c.frame<0∨1099511627776<c.frame then 2 else if(idleB c.a c.b c.left c.right&&(!c.a.opn&& !c.b.opn))=false then 1 else 0:=by
  unfold chkCp
  rw[pairC_eq2]
 have cP:=fun W (hb:Below w.heap.size w W)=>pairR_any c.a c.b c.left c.right v.a v.b v.l v.r W (h.a.keep hb) (h.b.keep hb) (h.l.keep hb) (h.r.keep hb)
 generalize chkCp c=R at*
 generalize idleB c.a c.b c.left c.right=B1 at*
 generalize hA:c.a.opn=oA at*
 generalize hB:c.b.opn=oB at*
 replace cP:=Zh cP
 replace h:=Zh h
 replace uE:=Zh uE
 replace uT:=Zh uT
 replace uM:=Zh uM
 replace uC:=Zh uC
 go_enter Tryz.func33,Tryz.ntmps33
 have mk1:Unit:=()
 go_upto_region 1 with(first|go_skip|(clear mk1;refine wpList_boxA HM rfl 57 _ rfl _ rfl ?_;clear HM;intro gc w1 HM hG;replace hF:=Zh (hFs.keep hF.out hG.out);clear hG)|fail)
 have p0:World.cell? _ ⟨gc,63,none⟩=some (.int .i64 c.period):=HM.out.cell 0 rfl 63
 have p1:World.cell? _ ⟨gc,64,none⟩=some (.int .i64 c.frame):=HM.out.cell 0 rfl 64
 have p4:World.cell? _ ⟨gc,4,none⟩=some (.bool oA):=(HM.out.cell 0 rfl 4).trans (by rw[←hA];rfl)
 have q4:World.cell? _ ⟨gc,32,none⟩=some (.bool oB):=(HM.out.cell 0 rfl 32).trans (by rw[←hB];rfl)
 clear hA hB
 by_cases hb:c.period<1∨4096<c.period∨c.frame<0∨1099511627776<c.frame
 case pos=>
  rw[if_pos hb]at hR
  subst hR
  have hr2:c.period<1∨(¬c.period<1∧(4096<c.period∨(¬4096<c.period∧(c.frame<0∨(¬c.frame<0∧1099511627776<c.frame))))):=by omega
  clear hb
  rcases hr2 with g0|⟨g0,g1|⟨g1,g2|⟨g2,g3⟩⟩⟩
  all_goals
   go_wp2_with fail
   try simp only[Exit.inBlock,Exit.then]
   go_ret
   exact⟨by first|rfl|trivial,HM.out.below⟩
 rw[if_neg hb]at hR
 obtain⟨g0,g1,g2,g3⟩:¬c.period<1∧¬4096<c.period∧¬c.frame<0∧¬1099511627776<c.frame:=by omega
 clear hb
 replace hR:=Zh hR
 go_upto_region 3 with fail
 clear g0 g1 g2 g3
 cases B1
 case' false=>
  have hh:R=1:=by rw[hR.out];simp
  subst hh
 case' true=>
  cases oA
  case' true=>
   have hh:R=1:=by rw[hR.out];simp
   subst hh
  case' false=>
   cases oB
   case' true=>
    have hh:R=1:=by rw[hR.out];simp
    subst hh
   case' false=>
    have hh:R=0:=by rw[hR.out];simp
    subst hh
 all_goals
  have mk2:Unit:=()
  go_wp2_with(first|go_skip|(refine wpList_loadP 0 HM (by rfl) _ _ rfl _ 0 rfl rfl (endA c.a v.a) (by kernel_rfl) _ uE.out rfl (by exact zend) ?_)|(refine wpList_loadP 0 HM (by rfl) _ _ rfl _ 28 rfl rfl (endA c.b v.b) (by kernel_rfl) _ uE.out rfl (by exact zend) ?_)|(refine wpList_loadP 0 HM (by rfl) _ _ rfl _ 56 rfl rfl (tabA c.left v.l) (by kernel_rfl) _ uT.out rfl (by exact ztab) ?_)|(refine wpList_loadP 0 HM (by rfl) _ _ rfl _ 59 rfl rfl (tabA c.right v.r) (by kernel_rfl) _ uT.out rfl (by exact ztab) ?_)|(go_at_call 82;clear mk2;refine(cP.out _ HM.out.below).mono ?_;rintro r w3 ⟨rfl,hb_⟩;replace p4:=((HM.out.keep hb_).cell 0 rfl 4).trans ((HM.out.cell 0 rfl 4).symm.trans p4);replace q4:=((HM.out.keep hb_).cell 0 rfl 32).trans ((HM.out.cell 0 rfl 32).symm.trans q4);replace HM:=Zh (HM.out.keep hb_);replace hF:=Zh (hFs.keep hF.out hb_);clear hb_;dsimp only)|fail)
  try simp only[Exit.inBlock,Exit.then]
  go_ret
  exact⟨by first|rfl|trivial,HM.out.below⟩
theorem rstart_own(node peer:Int)(w:World):Calls Tryz.prog 90 #[.int .i64 node,.int .i64 peer] w (EndOwn (startN node peer) (startC node peer) w):=by
 have HM:=Zh (Mem.start w)
 have hPb:∀w',startC node peer=2→Below w.heap.size w w'→EndOwn (startN node peer) (startC node peer) w (.returned (.tuple #[.agg (endA ed0 edV0),.int .i64 2])) w':=fun w' e1 hb=>by
  unfold EndOwn startN;rw[e1,if_neg (by decide)];exact⟨edV0,rfl,EdOwn.zero _,hb⟩
 have hPo:∀w',startC node peer=0→Below w.heap.size w w'→EndOwn (startN node peer) (startC node peer) w (.returned (.tuple #[.agg (endA (startE node peer) edV0),.int .i64 0])) w':=fun w' e1 hb=>by
  unfold EndOwn startN;rw[e1,if_pos rfl];exact⟨edV0,rfl,EdOwn.startE _ _ _,hb⟩
 have hC:startC node peer=if node<0∨31<node∨peer<0∨31<peer∨node=peer then 2 else 0:=rfl
 generalize EndOwn (startN node peer) (startC node peer) w=P at*
 generalize startC node peer=R at*
 have uE:=Tryz.underlying27
 replace hPb:=Zh hPb
 replace hPo:=Zh hPo
 replace uE:=Zh uE
 go_enter Tryz.func90,Tryz.ntmps90
 go_upto_region 1 with(refine wpList_allocA HM rfl 27 rfl (by first|exact msgInfo|exact edInfo|exact tabInfo|exact info_tcl|exact info_spt) ?_;clear HM;intro g4 w1 HM hG;clear hG)
 by_cases hb:node<0∨31<node∨peer<0∨31<peer∨node=peer
 case pos=>
  rw[if_pos hb]at hC
  have hr2:node<0∨(¬node<0∧(32≤node∨(¬32≤node∧(peer<0∨(¬peer<0∧(32≤peer∨(¬32≤peer∧(node=peer)))))))):=by omega
  clear hb
  rcases hr2 with g0|⟨g0,g1|⟨g1,g2|⟨g2,g3|⟨g3,g4⟩⟩⟩⟩
  case' inr.inr.inr.inr=>have d9:(node==peer)=true:=by rw[beq_iff_eq];assumption
  all_goals
   go_wp2_with(first|go_skip|(refine wpList_storeF 0 HM rfl _ _ _ rfl _ rfl rfl _ rfl (by exact zend) (by rfl) (by rfl) ?_;clear HM;intro w4 HM hG4;simp only[List.set]at HM;clear hG4)|fail)
   try simp only[Exit.inBlock,Exit.then]
   refine bodyPost_ret (results_ct rfl (HM.out.at_ 0 rfl) rfl _ uE.out rfl (by exact zend)) rfl ?_
   exact hPb.out _ hC HM.out.below
 rw[if_neg hb]at hC
 obtain⟨g0,g1,g2,g3,g4'⟩:¬node<0∧¬32≤node∧¬peer<0∧¬32≤peer∧¬node=peer:=by omega
 have d9:(node==peer)=false:=by rw[beq_eq_false_iff_ne];exact g4'
 clear hb
 go_wp2_with(first|go_skip|(refine wpList_storeF 0 HM rfl _ _ _ rfl _ rfl rfl _ rfl (by exact zend) (by rfl) (by rfl) ?_;clear HM;intro w4 HM hG4;simp only[List.set]at HM;clear hG4)|fail)
 try simp only[Exit.inBlock,Exit.then]
 refine bodyPost_ret (results_ct rfl (HM.out.at_ 0 rfl) rfl _ uE.out rfl (by exact zend)) rfl ?_
 exact hPo.out _ hC HM.out.below
end Tx
end Go.Proofs.YtggpaahhgchloaaGreat
