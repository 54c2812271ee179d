/- Chapter 26: listens, usable: the reference's. -/
import Derived.Test.YtfamifgchgolpaaGreatVe
set_option linter.unusedVariables false
set_option linter.unusedSimpArgs false
set_option maxRecDepth 100000
set_option maxHeartbeats 8000000
namespace Go.Proofs.YtfamifgchgolpaaGreat
open Go Go.RowKit Go.Sort Go.Shelf Go.Maps
namespace Tx
open Sw Mm Pl
theorem lis_succ {l:List Spt} {L:List TCl} {k:Nat}(h:k<L.length):((L.take (k+1)).filter (lisF l)).length=((L.take k).filter (lisF l)).length+(if lisF l (L.getD k default)=true then 1 else 0):=by
 rw[take_snoc h,List.filter_append,List.length_append]
 generalize L.getD k default=y
 cases hq:lisF l y<;>simp[hq]
theorem lis_le(l:List Spt)(L:List TCl)(k:Nat):((L.take k).filter (lisF l)).length≤k:=by
 have h1:=List.length_filter_le (lisF l) (L.take k)
 have h2:=List.length_take_le k L
 omega
theorem rlistens_any(e:Ed)(v:EdV)(A:Option Addr)(n c:Nat)(l:List Spt)(w:World)(h:EdIs w v e)(hl:SptS w A n l):Calls Tryz.prog 161 #[.agg (endA e v),.slice A n c] w fun r w'=>r= .returned (.bool (lisR e l))∧Below w.heap.size w w':=by
 have I:=Zh (Mem.start w)
 have hR:lisR e l=decide ((e.cells.filter (lisF l)).length=l.length):=rfl
 have hll:=hl.len
 rw[hll]at hR
 have cH:=fun s W (hb:Below w.heap.size w W)=>rhas_any A n c l s W (hl.keep hb)
 have hsucc:=fun k (hk:k<v.cn)=>lis_succ (l:=l) (L:=e.cells) (k:=k) (by rw[h.cells.len];exact hk)
 have hle:=fun k=>lis_le l e.cells k
 have hall:e.cells.take v.cn=e.cells:=List.take_of_length_le (by rw[h.cells.len];exact Nat.le_refl _)
 have J:∀x:TCl,lisF l x=(!x.send&&decide (place x∈l)):=fun x=>rfl
 generalize hP:(fun(r:Ending) w'=>r=Ending.returned (.bool (lisR e l))∧Below w.heap.size w w')=P
 have hPo:∀B w',lisR e l=B→Below w.heap.size w w'→P (.returned (.bool B)) w':=fun B w' e1 hb=>by rw[←hP];exact⟨by rw[e1],hb⟩
 clear hP
 generalize lisR e l=R at*
 have uE:=Tryz.underlying32
 have hsm:=h.cells.small
 unfold maxLen at hsm
 refine zh9 ?_ h cH hR hsucc hle hall hPo uE J;clear h cH hR hsucc hle hall hPo uE J;intro h cH hR hsucc hle hall hPo uE J
 clear hl hll
 go_enter Tryz.func161,Tryz.ntmps161
 go_upto_region 1 with(refine bA I 32 ?_;clear I;intro ge w1 I hG;clear hG)
 go_wp2_with fail
 go_loopw[5,6] (fun s i wr=>Hid (∃(k m:Nat),k≤v.cn∧s= .int .i64 m∧i= .int .i64 k∧Hid (((e.cells.take k).filter (lisF l)).length=m)∧Hid (Mem w wr [(ge,endA e v,32)]))) (fun _ i _=>v.cn-(intOf i).toNat)
 case atStart=>exact Zh ⟨0,0,by omega,rfl,rfl,rfl,I⟩
 case round=>
  clear I
  obtain⟨k,m,hk,rfl,rfl,HL,I⟩:=hrel.out
  clear hrel
  have p3:=Zc I 0 3 (.slice v.cA v.cn v.cc)
  by_cases hlt:k<v.cn
  ·obtain⟨b,off,hcA⟩:=h.cells.addr (by omega)
   have hx:=tcl_at (hcA▸h.cells.keep I.below) hlt
   have hst:=hsucc.out k hlt
   have hmk:=hle.out k
   rw[HL.out]at hst hmk
   have hFx:=J.out (e.cells.getD k default)
   generalize lisF l (e.cells.getD k default)=Q at*
   rw[hcA]at p3
   replace hcA:=Zh hcA
   generalize e.cells.getD k default=x at*
   obtain⟨x0,x1,x2,x3,x4,x5⟩:=x
   obtain⟨q0,q1,q2,q3,q4,q5⟩:=hx
   dsimp only at q0 q1 q2 q3 q4 q5 hFx
   have r1:(k:Int)<(v.cn:Int):=by omega
   have r0:(0:Int)≤(k:Int):=by omega
   replace hst:=Zh hst
   go_upto_region 6 with(first|(refine aN I info_tcl ?_;clear I;intro gc w1 I hG hN9;clear hG hN9)|((refine sF 0 I ?_;clear I;intro w4 I hG4;simp only[List.set]at I);clear hG4)|fail)
   clear q0 q1 q2 q3 q4 q5 p3
   have kc:=I.cell 0 rfl
   have cH2:=Zh (fun W hb=>cH.out ⟨x0,x1⟩ W hb)
   have hFx2:Q=(!x3&&decide ((⟨x0,x1⟩:Spt)∈l)):=hFx
   clear hFx
   generalize decide ((⟨x0,x1⟩:Spt)∈l)=D at*
   cases x3
   case true=>
    have hQ:Q=false:=hFx2
    rw[hQ]at hst
    have HL2:Hid (((e.cells.take (k+1)).filter (lisF l)).length=m):=hst.out
    go_wp2_with(first|go_skip|fail)
    have HM2:=Zh I.tail
    exact⟨Zh ⟨k+1,m,by omega,rfl,by go_num,HL2,HM2⟩,by simp[intOf];omega⟩
   case false=>
    cases D
    case false=>
     have hQ:Q=false:=hFx2
     rw[hQ]at hst
     have HL2:Hid (((e.cells.take (k+1)).filter (lisF l)).length=m):=hst.out
     go_wp2_with(first|go_skip|(go_at_call 208;refine(cH2 _ I.below).mono ?_;rintro r w6 ⟨rfl,p_⟩;clear kc;replace I:=Zm I p_;clear p_)|fail)
     have HM2:=Zh I.tail
     exact⟨Zh ⟨k+1,m,by omega,rfl,by go_num,HL2,HM2⟩,by simp[intOf];omega⟩
    case true=>
     have hQ:Q=true:=hFx2
     rw[hQ]at hst
     have HL2:Hid (((e.cells.take (k+1)).filter (lisF l)).length=m+1):=hst.out
     go_wp2_with(first|go_skip|(go_at_call 208;refine(cH2 _ I.below).mono ?_;rintro r w6 ⟨rfl,p_⟩;clear kc;replace I:=Zm I p_;clear p_)|fail)
     have HM2:=Zh I.tail
     exact⟨Zh ⟨k+1,m+1,by omega,by go_num,by go_num,HL2,HM2⟩,by simp[intOf];omega⟩
  ·obtain rfl:k=v.cn:=by omega
   rw[hall.out]at HL
   have hR2:R=((m:Int)==(n:Int)):=by
    rw[hR.out,HL.out]
    rw[Bool.eq_iff_iff,decide_eq_true_eq,beq_iff_eq];omega
   go_wp2_with fail
   exact hPo.out _ _ hR2 I.below
def UsePost(L:List Spt)(w:World)(r:Ending)(w':World):Prop:=∃A n c,r= .returned (.slice A n c)∧L.length=n∧w'.ownsRow w.heap.size 97 2 (.slice A n c) n (L.flatMap sptE)∧Below w.heap.size w w'
theorem spt_range {w:World} {b o:Nat} {s:Spt}(h:SptAt w b o s):w.rangeAt b o (sptA s).toList:=fun j v hv=>by
 match j,hv with
 |0,hv=>rw[show some v=some _ from hv.symm];exact h.1
 |1,hv=>rw[show some v=some _ from hv.symm];exact h.2
theorem fil_succ {p:Spt→Bool} {l:List Spt} {k:Nat}(h:k<l.length):(l.take (k+1)).filter p=(l.take k).filter p++(if p (l.getD k default)=true then [l.getD k default]else []):=by
 rw[take_snoc h,List.filter_append]
 generalize l.getD k default=y
 cases hq:p y<;>simp[hq]
theorem rusable_any(t:Tab)(v:TabV)(A B:Option Addr)(nf cf n c:Nat)(f:List Int)(l:List Spt)(most:Nat)(w:World)(h:TabIs w v t)(hf:IntS w A nf f)(hl:SptS w B n l)(hn:n≤1000)(hmost:most≤1000):Calls Tryz.prog 160 #[.agg (tabA t v),.slice A nf cf,.slice B n c,.int .i64 most] w (UsePost ((l.filter (fitsN t f)).take most) w):=by
 have I:=Zh (Mem.start w)
 have cF:=fun s W (hb:Below w.heap.size w W)=>rfits_any t v A nf cf f s W (h.keep hb) (hf.keep hb)
 have hsucc:=fun k (hk:k<n)=>fil_succ (p:=fitsN t f) (l:=l) (k:=k) (by rw[hl.len];exact hk)
 have hall:l.take n=l:=List.take_of_length_le (by rw[hl.len];exact Nat.le_refl _)
 have hle:=fun k=>(show((l.take k).filter (fitsN t f)).length≤k from by
  have h1:=List.length_filter_le (fitsN t f) (l.take k)
  have h2:=List.length_take_le k l
  omega)
 have hfull:=fun k hk=>take_filter_full (fitsN t f) l k most hk
 have hP:∀L A' n' c' w',(l.filter (fitsN t f)).take most=L→L.length=n'→w'.ownsRow w.heap.size 97 2 (.slice A' n' c') n' (L.flatMap sptE)→Below w.heap.size w w'→UsePost ((l.filter (fitsN t f)).take most) w (.returned (.slice A' n' c')) w':=fun L A' n' c' w' e1 h1 h2 h3=>by rw[e1];exact⟨A',n',c',rfl,h1,h2,h3⟩
 generalize UsePost ((l.filter (fitsN t f)).take most) w=P at*
 generalize fitsN t f=p at*
 have uT:=Tryz.underlying37
 have uS:=Tryz.underlying97
 refine zh10 ?_ h hl cF hsucc hall hle hfull hP uT uS;clear h hl cF hsucc hall hle hfull hP uT uS;intro h hl cF hsucc hall hle hfull hP uT uS
 clear hf
 go_enter Tryz.func160,Tryz.ntmps160
 go_upto_region 1 with(refine bA I 37 ?_;clear I;intro g4 w1 I hG;clear hG)
 go_wp2_with fail
 go_loopw[9,10] (fun o i wr=>Hid (∃(k n1:Nat) (A1:Option Addr) (c1:Nat),k≤n∧n1≤most∧i= .int .i64 k∧o= .slice A1 n1 c1∧Hid (((l.take k).filter p).length=n1)∧Hid (wr.ownsRow w.heap.size 97 2 (.slice A1 n1 c1) n1 (((l.take k).filter p).flatMap sptE))∧Hid (Mem w wr [(g4,tabA t v,37)]))) (fun _ i _=>n-(intOf i).toNat)
 case atStart=>exact Zh ⟨0,0,none,0,by omega,by omega,rfl,rfl,rfl,World.ownsRow_nil _ _ _ _,I⟩
 case round=>
  clear I
  obtain⟨k,n1,A1,c1,hk,hn1,rfl,rfl,HL,HO,I⟩:=hrel.out
  clear hrel
  have HL3:=HL.out
  have hmk:=hle.out k
  rw[HL3]at hmk
  by_cases hlt:k<n
  ·by_cases hlm:n1<most
   ·obtain⟨b,off,rfl⟩:=hl.addr (by omega)
    have hx:=spt_at (hl.keep I.below) hlt
    have hst:=hsucc.out k hlt
    have hxs:=Zh (fun W (hb:Below w.heap.size w W)=>spt_at (hl.keep hb) hlt)
    generalize hy:l.getD k default=y at*
    clear hy
    have cF2:=fun W hb=>cF.out y W hb
    generalize p y=Q at*
    obtain⟨y0,y1⟩:=y
    obtain⟨q0,q1⟩:=hx
    dsimp only at q0 q1 cF2 hxs
    have r1:(k:Int)<(n:Int):=by omega
    have r0:(0:Int)≤(k:Int):=by omega
    have r2:(n1:Int)<(most:Int):=by omega
    replace hst:=Zh hst
    replace cF2:=Zh cF2
    go_upto_region 5 with(first|go_skip|fail)
    clear q0 q1
    replace HO:=Zh (owns_keep HO.out ((Below.refl _ _).drew))
    replace I:=Zh (I.keep ((Below.refl _ _).drew))
    have HMs:=Zh I.out
    refine wp_region_plan (fun w'=>Mem _ w' _) 6 [(0,true),(1,true),(2,true),(3,true),(4,true),(5,true)] (by kernel_rfl) (by kernel_rfl) HMs.out ?_
    generalize wr.drew=wd at*
    refine plTakeL (by rfl) (yw 0 uT.out) ?_
    try go_frame
    repeat(first|(refine plPure rfl rfl (by intro w_ hSw;go_simp;first|done|exact rfl) ?_;try go_frame))
    refine plTakeL (by rfl) (yields_part rfl _ _ rfl b (off+k*2) rfl _ _ (fun w_ hSw=>spt_range (hxs w_ hSw.below)) uS.out rfl (by exact zspt)) ?_
    try go_frame
    refine plDone ?_
    simp only[List.drop]
    clear HMs
    cases Q
    case false=>
     have HE:Hid ((l.take (k+1)).filter p=(l.take k).filter p):=by show _= _;rw[hst.out,if_neg (by decide),List.append_nil]
     go_wp2_with(first|go_skip|(go_at_call 204;refine(cF2 _ I.below).mono ?_;rintro r w5 ⟨rfl,p_⟩;replace I:=Zm I p_;replace HO:=Zh (owns_keep HO.out p_);clear p_;have q0:=(hxs _ I.below).1;have q1:=(hxs _ I.below).2;dsimp only at q0 q1)|fail)
     rw[←HE.out]at HO HL
     exact⟨Zh ⟨k+1,n1,A1,c1,by omega,by omega,by go_num,rfl,HL,HO,I⟩,by simp[intOf];omega⟩
    case true=>
     have HE:Hid ((l.take (k+1)).filter p=(l.take k).filter p++ [⟨y0,y1⟩]):=by show _= _;rw[hst.out,if_pos rfl]
     go_wp2_with(first|go_skip|(go_at_call 204;refine(cF2 _ I.below).mono ?_;rintro r w5 ⟨rfl,p_⟩;replace I:=Zm I p_;replace HO:=Zh (owns_keep HO.out p_);clear p_;have q0:=(hxs _ I.below).1;have q1:=(hxs _ I.below).2;dsimp only at q0 q1)|(at_builtin;refine wpList_append_sls eltS _ rfl _ _ rfl w.heap.size (.slice A1 n1 c1) ((l.take k).filter p) rfl (by rw[HL3];exact HO.alloc _) _ 1 1 [⟨y0,y1⟩] rfl (Sls.one (t:=97) (Blk.new _ _ _)) (by rw[HL3];simp;omega) (by exact(ballN I.below _).size) ?_;intro v1 w7 HO1 HG1 _;rw[List.length_append,HL3,List.length_singleton]at HO1;obtain⟨A2,c2,rfl⟩:=own_slice HO1;replace HO1:=Zh HO1;have HM7:=Zh ((I.keep (ball _ _)).row (HO.alloc _) HG1 (Nat.le_refl _) (apart_of (by rfl)));clear HG1)|fail)
     rw[←HE.out]at HO1
     have HL2:Hid (((l.take (k+1)).filter p).length=n1+1):=by show _= _;rw[HE.out,List.length_append,HL3];rfl
     exact⟨Zh ⟨k+1,n1+1,A2,c2,by omega,by omega,by go_num,rfl,HL2,HO1,HM7⟩,by simp[intOf];omega⟩
   ·obtain rfl:n1=most:=by omega
    have r1:(k:Int)<(n:Int):=by omega
    have r2:¬(n1:Int)<(n1:Int):=by omega
    have r3:decide ((n1:Int)<(n1:Int))=false:=decide_eq_false r2
    have hq:=hfull.out k HL3
    go_wp2_with(first|go_skip|fail)
    exact hP.out _ A1 n1 c1 _ hq HL3 HO.out I.below
  ·obtain rfl:k=n:=by omega
   rw[hall.out]at HL3 HO
   go_wp2_with(first|go_skip|fail)
   exact hP.out _ A1 n1 c1 _ (List.take_of_length_le (by omega)) HL3 HO.out I.below
end Tx
end Go.Proofs.YtfamifgchgolpaaGreat
