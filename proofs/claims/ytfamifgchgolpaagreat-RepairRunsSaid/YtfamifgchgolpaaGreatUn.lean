/- Chapter 28: the reference's few, Same, Check, lost. -/
import Derived.Test.YtfamifgchgolpaaGreatCc
import Derived.Test.YtfamifgchgolpaaGreatSe
import Derived.Test.YtfamifgchgolpaaGreatVz
set_option linter.unusedVariables false
set_option linter.unusedSimpArgs false
set_option maxRecDepth 100000
set_option maxHeartbeats 16000000
namespace Go.Proofs.YtfamifgchgolpaaGreat
open Go Go.RowKit Go.Sort Go.Shelf Go.Maps
namespace Tx
open Sw Mm Pl
theorem rlost_any(row:Int)(is:Bool)(w:World)(h0:0≤row)(h1:row≤4611686018427387904):Calls Tryz.prog 105 #[.int .i64 row,.bool is] w fun e w'=>e= .returned (.int .i64 (rowN row is))∧w=w':=by
 have w1:IntKind.i64.wrap (row+1)=row+1:=IntWalk.i64_in _ (by omega)
 unfold rowN
 cases is
 all_goals
  go_enter Tryz.func105,Tryz.ntmps105
  go_wp2
  go_ret
  exact⟨by simp,rfl⟩
def fewCp(c:Cpl)(nf:Nat):Bool:=fewE c.a&&(fewE c.b&&(fewT c.left&&(fewT c.right&&decide (nf≤600))))
theorem fewCp_any(c:Cpl)(v:CplV)(w:World)(h:CplIs w v c):Calls Tryz.prog 30 #[.agg (cplA c v)] w fun r w'=>r= .returned (.bool (fewCp c v.nf))∧Below w.heap.size w w':=by
 have I:=Zh (Mem.start w)
 obtain⟨F0,q_,J⟩:∃F:World→Prop,Stb F∧Hid (F w):=⟨_,Stb.true,trivial⟩
 have uE:=Tryz.underlying32
 have uT:=Tryz.underlying37
 have uM:=Tryz.underlying30
 have uC:=Tryz.underlying70
 have hR:fewCp c v.nf=(fewE c.a&&(fewE c.b&&(fewT c.left&&(fewT c.right&&decide (v.nf≤600))))):=rfl
 have cA:=fun W (hb:Below w.heap.size w W)=>fewE_any c.a v.a W (h.a.keep hb)
 have cB:=fun W (hb:Below w.heap.size w W)=>fewE_any c.b v.b W (h.b.keep hb)
 have cC:=fun W (hb:Below w.heap.size w W)=>fewT_any c.left v.l W (h.l.keep hb)
 have cD:=fun W (hb:Below w.heap.size w W)=>fewT_any c.right v.r W (h.r.keep hb)
 generalize fewCp c v.nf=R at*
 generalize fewE c.a=B1 at*
 generalize fewE c.b=B2 at*
 generalize fewT c.left=B3 at*
 generalize fewT c.right=B4 at*
 refine zh9 ?_ cA cB cC cD h uE uT uM uC;clear cA cB cC cD h uE uT uM uC;intro cA cB cC cD h uE uT uM uC
 go_enter Tryz.func30,Tryz.ntmps30
 have mk1:Unit:=()
 go_upto_region 1 with(first|go_skip|(clear mk1;refine q_.b I J 70 ?_;clear I J;intro gc w1 I J)|fail)
 have p62:=Zc I 0 62 (.slice v.A v.nf v.cf)
 cases B1
 case' false=>
  have hh:R=false:=by rw[hR];simp[]
  subst hh
  replace hR:=Zh hR
 case' true=>
  cases B2
  case' false=>
   have hh:R=false:=by rw[hR];simp[]
   subst hh
   replace hR:=Zh hR
  case' true=>
   cases B3
   case' false=>
    have hh:R=false:=by rw[hR];simp[]
    subst hh
    replace hR:=Zh hR
   case' true=>
    cases B4
    case' false=>
     have hh:R=false:=by rw[hR];simp[]
     subst hh
     replace hR:=Zh hR
    case' true=>
     have hh:R=decide (v.nf≤600):=by rw[hR];simp[]
     subst hh
     replace hR:=Zh hR
     have d9:decide ((v.nf:Int)≤600)=decide (v.nf≤600):=by rw[decide_eq_decide];omega
 all_goals
  have mk2:Unit:=()
  have mk3:Unit:=()
  have mk4:Unit:=()
  have mk5:Unit:=()
  go_wp2_with(first|go_skip|(refine lP 0 I 0 (endA c.a v.a) uE.out ?_)|(refine lP 0 I 28 (endA c.b v.b) uE.out ?_)|(refine lP 0 I 56 (tabA c.left v.l) uT.out ?_)|(refine lP 0 I 59 (tabA c.right v.r) uT.out ?_)|(go_at_call 85;clear mk2;refine(cA _ I.below).mono ?_;rintro r w3 ⟨rfl,p_⟩;replace p62:=Zk I p_ 0 62 p62;replace I:=Zm I p_;replace J:=q_.z J p_;clear p_;dsimp only)|(go_at_call 85;clear mk3;refine(cB _ I.below).mono ?_;rintro r w3 ⟨rfl,p_⟩;replace p62:=Zk I p_ 0 62 p62;replace I:=Zm I p_;replace J:=q_.z J p_;clear p_;dsimp only)|(go_at_call 86;clear mk4;refine(cC _ I.below).mono ?_;rintro r w3 ⟨rfl,p_⟩;replace p62:=Zk I p_ 0 62 p62;replace I:=Zm I p_;replace J:=q_.z J p_;clear p_;dsimp only)|(go_at_call 86;clear mk5;refine(cD _ I.below).mono ?_;rintro r w3 ⟨rfl,p_⟩;replace p62:=Zk I p_ 0 62 p62;replace I:=Zm I p_;replace J:=q_.z J p_;clear p_;dsimp only)|fail)
  try simp only[Exit.inBlock,Exit.then]
  go_ret
  exact⟨by first|rfl|trivial|(rw[←d9];done)|(simp[d9];done),I.below⟩
theorem sameTab_any(a b:Tab)(va vb:TabV)(w:World)(h1:TabIs w va a)(h2:TabIs w vb b):Calls Tryz.prog 101 #[.agg (tabA a va),.agg (tabA b vb)] w fun r w'=>r= .returned (.bool (decide (a=b)))∧Below w.heap.size w w':=by
 have I:=Zh (Mem.start w)
 obtain⟨F0,q_,J⟩:∃F:World→Prop,Stb F∧Hid (F w):=⟨_,Stb.true,trivial⟩
 have uE:=Tryz.underlying32
 have uT:=Tryz.underlying37
 have uM:=Tryz.underlying30
 have hR:decide (a=b)=(decide (a.node=b.node)&&(decide (a.length=b.length)&&decide (a.cells=b.cells))):=by
  obtain⟨a1,a2,a3⟩:=a
  obtain⟨b1,b2,b3⟩:=b
  simp only[Tab.mk.injEq,Bool.decide_and]
 have cS:=fun W (hb:Below w.heap.size w W)=>sameT_any va.A vb.A va.n va.c vb.n vb.c a.cells b.cells W (h1.cells.keep hb) (h2.cells.keep hb)
 generalize decide (a.cells=b.cells)=B3 at*
 generalize decide (a=b)=R at*
 refine zh7 ?_ cS h1 h2 hR uE uT uM;clear cS h1 h2 hR uE uT uM;intro cS h1 h2 hR uE uT uM
 go_enter Tryz.func101,Tryz.ntmps101
 have mk1:Unit:=()
 have mk2:Unit:=()
 go_upto_region 1 with(first|go_skip|(clear mk1;refine q_.b I J 37 ?_;clear I J;intro ga w1 I J)|(clear mk2;refine q_.b I J 37 ?_;clear I J;intro gb w1 I J)|fail)
 have p0:=Zc I 1 0 (.int .i64 a.node)
 have p1:=Zc I 1 1 (.int .i64 a.length)
 have p2:=Zc I 1 2 (.slice va.A va.n va.c)
 have q0:=Zc I 0 0 (.int .i64 b.node)
 have q1:=Zc I 0 1 (.int .i64 b.length)
 have q2:=Zc I 0 2 (.slice vb.A vb.n vb.c)
 by_cases e1:a.node=b.node
 case' neg=>
  have d1:(a.node==b.node)=false:=by rw[beq_eq_false_iff_ne];exact e1
  have hh:R=false:=by rw[hR.out];simp[e1]
  subst hh
  replace e1:=Zh e1
 case' pos=>
  have d1:(a.node==b.node)=true:=by rw[beq_iff_eq];exact e1
  by_cases e2:a.length=b.length
  case' neg=>
   have d2:(a.length==b.length)=false:=by rw[beq_eq_false_iff_ne];exact e2
   have hh:R=false:=by rw[hR.out];simp[e2]
   subst hh
   replace e1:=Zh e1
   replace e2:=Zh e2
  case' pos=>
   have d2:(a.length==b.length)=true:=by rw[beq_iff_eq];exact e2
   have hh:R=B3:=by rw[hR.out];simp[e1,e2]
   subst hh
   replace e1:=Zh e1
   replace e2:=Zh e2
 all_goals
  have mk3:Unit:=()
  go_wp2_with(first|go_skip|(go_at_call 70;clear mk3;refine(cS _ I.below).mono ?_;rintro r w3 ⟨rfl,p_⟩;clear p0 p1 p2 q0 q1 q2;replace I:=Zm I p_;replace J:=q_.z J p_;clear p_;dsimp only)|fail)
  try simp only[Exit.inBlock,Exit.then]
  go_ret
  exact⟨by first|rfl|trivial,I.below⟩
theorem intext {xs ys:List Int}(hl:xs.length=ys.length)(h:∀i,i<xs.length→xs.getD i default=ys.getD i default):xs=ys:=by
 refine List.ext_getElem hl fun i h1 h2=> ?_
 have:=h i h1
 rwa[List.getD_eq_getElem?_getD,List.getD_eq_getElem?_getD,List.getElem?_eq_getElem h1,List.getElem?_eq_getElem h2]at this
theorem sameC_split(a b:Cpl):decide (a=b)=(decide (a.free=b.free)&&(decide (a.a=b.a)&&(decide (a.b=b.b)&&(decide (a.left=b.left)&&(decide (a.right=b.right)&&(a.period==b.period&&(a.frame==b.frame&&(a.wa==b.wa&&(a.wb==b.wb))))))))):=by
 obtain⟨a1,a2,a3,a4,a5,a6,a7,a8,a9⟩:=a
 obtain⟨b1,b2,b3,b4,b5,b6,b7,b8,b9⟩:=b
 rw[Bool.eq_iff_iff]
 simp only[Cpl.mk.injEq,decide_eq_true_eq,Bool.and_eq_true,beq_iff_eq]
 exact⟨fun⟨h1,h2,h3,h4,h5,h6,h7,h8,h9⟩=>⟨h5,h1,h2,h3,h4,h6,h7,h8,h9⟩,fun⟨h5,h1,h2,h3,h4,h6,h7,h8,h9⟩=>⟨h1,h2,h3,h4,h5,h6,h7,h8,h9⟩⟩
theorem sameC_any(a b:Cpl)(va vb:CplV)(w:World)(ha:CplIs w va a)(hb:CplIs w vb b):Calls Tryz.prog 33 #[.agg (cplA a va),.agg (cplA b vb)] w fun r w'=>r= .returned (.bool (decide (a=b)))∧Below w.heap.size w w':=by
 have I:=Zh (Mem.start w)
 obtain⟨F0,q_,J⟩:∃F:World→Prop,Stb F∧Hid (F w):=⟨_,Stb.true,trivial⟩
 have uE:=Tryz.underlying32
 have uT:=Tryz.underlying37
 have uM:=Tryz.underlying30
 have uC:=Tryz.underlying70
 have uF:=Tryz.underlying24
 have hla:=ha.f.len
 have hlb:=hb.f.len
 have hsa:=ha.f.small
 have hsb:=hb.f.small
 unfold maxLen at hsa hsb
 have hR:=sameC_split a b
 have c1:=fun W (q:Below w.heap.size w W)=>sameE_any a.a b.a va.a vb.a W (ha.a.keep q) (hb.a.keep q)
 have c2:=fun W (q:Below w.heap.size w W)=>sameE_any a.b b.b va.b vb.b W (ha.b.keep q) (hb.b.keep q)
 have c3:=fun W (q:Below w.heap.size w W)=>sameTab_any a.left b.left va.l vb.l W (ha.l.keep q) (hb.l.keep q)
 have c4:=fun W (q:Below w.heap.size w W)=>sameTab_any a.right b.right va.r vb.r W (ha.r.keep q) (hb.r.keep q)
 have hfa:=fun W (q:Below w.heap.size w W)=>ha.f.keep q
 have hfb:=fun W (q:Below w.heap.size w W)=>hb.f.keep q
 generalize decide (a=b)=R at*
 generalize decide (a.a=b.a)=B1 at*
 generalize decide (a.b=b.b)=B2 at*
 generalize decide (a.left=b.left)=B3 at*
 generalize decide (a.right=b.right)=B4 at*
 refine zh12 ?_ c1 c2 c3 c4 hfa hfb hR uE uT uM uC uF;clear c1 c2 c3 c4 hfa hfb hR uE uT uM uC uF;intro c1 c2 c3 c4 hfa hfb hR uE uT uM uC uF
 clear ha hb
 go_enter Tryz.func33,Tryz.ntmps33
 have mk1:Unit:=()
 have mk2:Unit:=()
 go_upto_region 1 with(first|go_skip|(clear mk1;refine q_.b I J 70 ?_;clear I J;intro ga w1 I J)|(clear mk2;refine q_.b I J 70 ?_;clear I J;intro gb w1 I J)|fail)
 have pa:=Zc I 1 62 (.slice va.A va.nf va.cf)
 have pb:=Zc I 0 62 (.slice vb.A vb.nf vb.cf)
 by_cases e0:va.nf=vb.nf
 case neg=>
  have d0:((va.nf:Int) !=(vb.nf:Int))=true:=by rw[bne_iff_ne];omega
  have hh:R=false:=by rw[hR.out,decide_eq_false (show¬a.free=b.free from fun e=>e0 (by rw[←hla,←hlb,e]))];rfl
  subst hh
  clear e0
  go_wp2_with fail
  try simp only[Exit.inBlock,Exit.then]
  go_ret
  exact⟨by first|rfl|trivial,I.below⟩
 have d0:((va.nf:Int) !=(vb.nf:Int))=false:=by rw[bne_eq_false_iff_eq];omega
 obtain⟨N,hN⟩:∃N,va.nf=N:=⟨_,rfl⟩
 rw[←e0]at pb hfb hlb
 rw[hN]at pa pb hfa hfb hla hlb hsa d0
 rw[←e0,hN]at d0
 clear hsb
 replace e0:=Zh e0
 replace hN:=Zh hN
 go_upto_region 4 with fail
 go_loopw[5] (fun i wr=>Hid (∃k:Nat,k≤N∧i= .int .i64 k∧Hid (∀j,j<k→a.free.getD j default=b.free.getD j default)∧Hid (Mem w wr [(gb,cplA b vb,70),(ga,cplA a va,70)]))) (fun i _=>N-(intOf i).toNat)
 case atStart=>exact Zh ⟨0,by omega,rfl,fun j hj=>absurd hj (by omega),I⟩
 case round=>
  clear I pa pb J q_
  obtain⟨k,hk,rfl,HP,I⟩:=hrel.out
  clear hrel
  have q_:Stb (fun _=>True):=Stb.true
  have J:Hid ((fun _:World=>True) wr):=trivial
  have pa:World.cell? _ ⟨ga,62,none⟩=some (.slice va.A N va.cf):=(I.cell 1 rfl 62).trans (by rw[←hN.out];rfl)
  have pb:World.cell? _ ⟨gb,62,none⟩=some (.slice vb.A N vb.cf):=(I.cell 0 rfl 62).trans (by rw[←hN.out,e0.out];rfl)
  by_cases hlt:k<N
  ·obtain⟨b1,o1,h1⟩:=(hfa _ I.below).addr (by omega)
   obtain⟨b2,o2,h2⟩:=(hfb _ I.below).addr (by omega)
   rw[h1]at pa hfa
   rw[h2]at pb hfb
   have q0:=int_at (hfa _ I.below) hlt
   have q1:=int_at (hfb _ I.below) hlt
   have hnx:a.free.getD k default=b.free.getD k default→∀j,j<k+1→a.free.getD j default=b.free.getD j default:=fun h j hj=>by
    by_cases e:j=k
    ·subst e;exact h
    ·exact HP.out j (by omega)
   have hno:a.free.getD k default≠b.free.getD k default→¬a.free=b.free:=fun h e=>h (by rw[e])
   generalize a.free.getD k default=x at*
   generalize b.free.getD k default=y at*
   have r1:(k:Int)<(N:Int):=by omega
   have r0:(0:Int)≤(k:Int):=by omega
   replace hnx:=Zh hnx
   replace hno:=Zh hno
   by_cases t0:x=y
   case neg=>
    have d9:(x !=y)=true:=by rw[bne_iff_ne];exact t0
    have hh:R=false:=by rw[hR.out,decide_eq_false (hno.out t0)];rfl
    subst hh
    replace t0:=Zh t0
    go_upto_region 6 with fail
    have g0:=cell_regrown q0
    have g1:=cell_regrown q1
    have g2:=cell_regrown pa
    have g3:=cell_regrown pb
    clear q0 q1 pa pb
    refine wp_region_quiet_below (by kernel_rfl) (by kernel_rfl) ?_
    repeat(go_big_quiet_step(fail))
    refine wpQuiet_nil ?_
    rintro _ ⟨⟨dq,osq⟩,rfl⟩
    have p_:=below_regrown wr dq osq
    replace I:=Zm I p_
    generalize grow (redrawn wr dq) osq=w2 at*
    clear p_
    go_wp2
    go_ret
    exact⟨by first|rfl|trivial,I.below⟩
   have d9:(x !=y)=false:=by rw[bne_eq_false_iff_eq];exact t0
   have hh:=Zh (hnx t0)
   replace t0:=Zh t0
   go_upto_region 6 with fail
   have g0:=cell_regrown q0
   have g1:=cell_regrown q1
   have g2:=cell_regrown pa
   have g3:=cell_regrown pb
   clear q0 q1 pa pb
   refine wp_region_quiet_below (by kernel_rfl) (by kernel_rfl) ?_
   repeat(go_big_quiet_step(fail))
   refine wpQuiet_nil ?_
   rintro _ ⟨⟨dq,osq⟩,rfl⟩
   have p_:=below_regrown wr dq osq
   replace I:=Zm I p_
   generalize grow (redrawn wr dq) osq=w2 at*
   clear p_
   go_wp2
   go_roundw
   case rel=>exact Zh ⟨k+1,by omega,by go_num,hh,I⟩
   case measure=>simp[intOf];omega
  ·obtain rfl:k=N:=by omega
   have hfree:a.free=b.free:=intext (by omega) (fun i hi=>HP.out i (by omega))
   replace hR:=Zh (hR.trans (by rw[decide_eq_true hfree,Bool.true_and]))
   clear hfree HP
   have p3:=Zc I 1 63 (.int .i64 a.period)
   have p4:=Zc I 1 64 (.int .i64 a.frame)
   have p5:=Zc I 1 65 (.bool a.wa)
   have p6:=Zc I 1 66 (.bool a.wb)
   have q3:=Zc I 0 63 (.int .i64 b.period)
   have q4:=Zc I 0 64 (.int .i64 b.frame)
   have q5:=Zc I 0 65 (.bool b.wa)
   have q6:=Zc I 0 66 (.bool b.wb)
   cases B1
   case' false=>
    have hh:R=false:=by rw[hR.out];simp[]
    subst hh
   case' true=>
    cases B2
    case' false=>
     have hh:R=false:=by rw[hR.out];simp[]
     subst hh
    case' true=>
     cases B3
     case' false=>
      have hh:R=false:=by rw[hR.out];simp[]
      subst hh
     case' true=>
      cases B4
      case' false=>
       have hh:R=false:=by rw[hR.out];simp[]
       subst hh
      case' true=>
       by_cases e3:a.period=b.period
       case' neg=>
        have d3:(a.period==b.period)=false:=by rw[beq_eq_false_iff_ne];exact e3
        have hh:R=false:=by rw[hR.out];simp[e3]
        subst hh
        replace e3:=Zh e3
       case' pos=>
        have d3:(a.period==b.period)=true:=by rw[beq_iff_eq];exact e3
        by_cases e4:a.frame=b.frame
        case' neg=>
         have d4:(a.frame==b.frame)=false:=by rw[beq_eq_false_iff_ne];exact e4
         have hh:R=false:=by rw[hR.out];simp[e4]
         subst hh
         refine zh2 ?_ e3 e4;clear e3 e4;intro e3 e4
        case' pos=>
         have d4:(a.frame==b.frame)=true:=by rw[beq_iff_eq];exact e4
         by_cases e5:a.wa=b.wa
         case' neg=>
          have d5:(a.wa==b.wa)=false:=by rw[beq_eq_false_iff_ne];exact e5
          have hh:R=false:=by rw[hR.out];simp[e5]
          subst hh
          refine zh3 ?_ e3 e4 e5;clear e3 e4 e5;intro e3 e4 e5
         case' pos=>
          have d5:(a.wa==b.wa)=true:=by rw[beq_iff_eq];exact e5
          have hh:R=(a.wb==b.wb):=by rw[hR.out];simp[e3,e4,e5]
          subst hh
          refine zh3 ?_ e3 e4 e5;clear e3 e4 e5;intro e3 e4 e5
   all_goals
    have mk3:Unit:=()
    have mk4:Unit:=()
    have mk5:Unit:=()
    have mk6:Unit:=()
    go_wp2_with(first|go_skip|(refine lP 1 I 0 (endA a.a va.a) uE.out ?_)|(refine lP 1 I 28 (endA a.b va.b) uE.out ?_)|(refine lP 1 I 56 (tabA a.left va.l) uT.out ?_)|(refine lP 1 I 59 (tabA a.right va.r) uT.out ?_)|(refine lP 0 I 0 (endA b.a vb.a) uE.out ?_)|(refine lP 0 I 28 (endA b.b vb.b) uE.out ?_)|(refine lP 0 I 56 (tabA b.left vb.l) uT.out ?_)|(refine lP 0 I 59 (tabA b.right vb.r) uT.out ?_)|(go_at_call 16;clear mk3;refine(c1 _ I.below).mono ?_;rintro r w3 ⟨rfl,p_⟩;replace pa:=Zk I p_ 1 62 pa;replace pb:=Zk I p_ 0 62 pb;replace p3:=Zk I p_ 1 63 p3;replace p4:=Zk I p_ 1 64 p4;replace p5:=Zk I p_ 1 65 p5;replace p6:=Zk I p_ 1 66 p6;replace q3:=Zk I p_ 0 63 q3;replace q4:=Zk I p_ 0 64 q4;replace q5:=Zk I p_ 0 65 q5;replace q6:=Zk I p_ 0 66 q6;replace I:=Zm I p_;replace J:=q_.z J p_;clear p_;dsimp only)|(go_at_call 16;clear mk4;refine(c2 _ I.below).mono ?_;rintro r w3 ⟨rfl,p_⟩;replace pa:=Zk I p_ 1 62 pa;replace pb:=Zk I p_ 0 62 pb;replace p3:=Zk I p_ 1 63 p3;replace p4:=Zk I p_ 1 64 p4;replace p5:=Zk I p_ 1 65 p5;replace p6:=Zk I p_ 1 66 p6;replace q3:=Zk I p_ 0 63 q3;replace q4:=Zk I p_ 0 64 q4;replace q5:=Zk I p_ 0 65 q5;replace q6:=Zk I p_ 0 66 q6;replace I:=Zm I p_;replace J:=q_.z J p_;clear p_;dsimp only)|(go_at_call 101;clear mk5;refine(c3 _ I.below).mono ?_;rintro r w3 ⟨rfl,p_⟩;replace pa:=Zk I p_ 1 62 pa;replace pb:=Zk I p_ 0 62 pb;replace p3:=Zk I p_ 1 63 p3;replace p4:=Zk I p_ 1 64 p4;replace p5:=Zk I p_ 1 65 p5;replace p6:=Zk I p_ 1 66 p6;replace q3:=Zk I p_ 0 63 q3;replace q4:=Zk I p_ 0 64 q4;replace q5:=Zk I p_ 0 65 q5;replace q6:=Zk I p_ 0 66 q6;replace I:=Zm I p_;replace J:=q_.z J p_;clear p_;dsimp only)|(go_at_call 101;clear mk6;refine(c4 _ I.below).mono ?_;rintro r w3 ⟨rfl,p_⟩;replace pa:=Zk I p_ 1 62 pa;replace pb:=Zk I p_ 0 62 pb;replace p3:=Zk I p_ 1 63 p3;replace p4:=Zk I p_ 1 64 p4;replace p5:=Zk I p_ 1 65 p5;replace p6:=Zk I p_ 1 66 p6;replace q3:=Zk I p_ 0 63 q3;replace q4:=Zk I p_ 0 64 q4;replace q5:=Zk I p_ 0 65 q5;replace q6:=Zk I p_ 0 66 q6;replace I:=Zm I p_;replace J:=q_.z J p_;clear p_;dsimp only)|fail)
    try simp only[Exit.inBlock,Exit.then]
    go_ret
    exact⟨by first|rfl|trivial,I.below⟩
theorem rchkCp_any(c:Cpl)(v:CplV)(w:World)(h:CplIs w v c):Calls Tryz.prog 99 #[.agg (cplA c v)] w fun r w'=>r= .returned (.int .i64 (chkCp c))∧Below w.heap.size w w':=by
 have I:=Zh (Mem.start w)
 obtain⟨F0,q_,J⟩:∃F:World→Prop,Stb F∧Hid (F w):=⟨_,Stb.true,trivial⟩
 have uE:=Tryz.underlying32
 have uT:=Tryz.underlying37
 have uM:=Tryz.underlying30
 have uC:=Tryz.underlying70
 have hR:chkCp c=if c.period<1∨4096<c.period∨c.frame<0∨1099511627776<c.frame then 2 else if(idleB c.a c.b c.left c.right&&(!c.a.opn&& !c.b.opn))=false then 1 else 0:=by
  unfold chkCp
  rw[pairC_eq2]
 have cP:=fun W (hb:Below w.heap.size w W)=>pairR_any c.a c.b c.left c.right v.a v.b v.l v.r W (h.a.keep hb) (h.b.keep hb) (h.l.keep hb) (h.r.keep hb)
 generalize chkCp c=R at*
 generalize idleB c.a c.b c.left c.right=B1 at*
 generalize hA:c.a.opn=oA at*
 generalize hB:c.b.opn=oB at*
 refine zh6 ?_ cP h uE uT uM uC;clear cP h uE uT uM uC;intro cP h uE uT uM uC
 go_enter Tryz.func99,Tryz.ntmps99
 have mk1:Unit:=()
 go_upto_region 1 with(first|go_skip|(clear mk1;refine q_.b I J 70 ?_;clear I J;intro gc w1 I J)|fail)
 have p0:=Zc I 0 63 (.int .i64 c.period)
 have p1:=Zc I 0 64 (.int .i64 c.frame)
 have p4:World.cell? _ ⟨gc,4,none⟩=some (.bool oA):=(I.cell 0 rfl 4).trans (by rw[←hA];rfl)
 have q4:World.cell? _ ⟨gc,32,none⟩=some (.bool oB):=(I.cell 0 rfl 32).trans (by rw[←hB];rfl)
 clear hA hB
 by_cases hb:c.period<1∨4096<c.period∨c.frame<0∨1099511627776<c.frame
 case pos=>
  rw[if_pos hb]at hR
  subst hR
  have hr2:c.period<1∨(¬c.period<1∧(4096<c.period∨(¬4096<c.period∧(c.frame<0∨(¬c.frame<0∧1099511627776<c.frame))))):=by omega
  clear hb
  rcases hr2 with g0|⟨g0,g1|⟨g1,g2|⟨g2,g3⟩⟩⟩
  all_goals
   go_wp2_with fail
   try simp only[Exit.inBlock,Exit.then]
   go_ret
   exact⟨by first|rfl|trivial,I.below⟩
 rw[if_neg hb]at hR
 obtain⟨g0,g1,g2,g3⟩:¬c.period<1∧¬4096<c.period∧¬c.frame<0∧¬1099511627776<c.frame:=by omega
 clear hb
 replace hR:=Zh hR
 go_upto_region 3 with fail
 clear g0 g1 g2 g3
 cases B1
 case' false=>
  have hh:R=1:=by rw[hR.out];simp
  subst hh
 case' true=>
  cases oA
  case' true=>
   have hh:R=1:=by rw[hR.out];simp
   subst hh
  case' false=>
   cases oB
   case' true=>
    have hh:R=1:=by rw[hR.out];simp
    subst hh
   case' false=>
    have hh:R=0:=by rw[hR.out];simp
    subst hh
 all_goals
  have mk2:Unit:=()
  go_wp2_with(first|go_skip|(refine lP 0 I 0 (endA c.a v.a) uE.out ?_)|(refine lP 0 I 28 (endA c.b v.b) uE.out ?_)|(refine lP 0 I 56 (tabA c.left v.l) uT.out ?_)|(refine lP 0 I 59 (tabA c.right v.r) uT.out ?_)|(go_at_call 89;clear mk2;refine(cP _ I.below).mono ?_;rintro r w3 ⟨rfl,p_⟩;replace p4:=Zk I p_ 0 4 p4;replace q4:=Zk I p_ 0 32 q4;replace I:=Zm I p_;replace J:=q_.z J p_;clear p_;dsimp only)|fail)
  try simp only[Exit.inBlock,Exit.then]
  go_ret
  exact⟨by first|rfl|trivial,I.below⟩
end Tx
end Go.Proofs.YtfamifgchgolpaaGreat
