/- Chapter 26: moved: the reference's. -/
import Derived.Test.YtfamifgchgolpaaGreatVe
set_option linter.unusedVariables false
set_option linter.unusedSimpArgs false
set_option maxRecDepth 100000
set_option maxHeartbeats 16000000
namespace Go.Proofs.YtfamifgchgolpaaGreat
open Go Go.RowKit Go.Sort Go.Shelf Go.Maps
namespace Tx
open Sw Mm Pl
def keepF(old:List Spt)(send:Bool)(c:TCl):Bool:= !(decide (c.send=send)&&decide (place c∈old))
theorem movR_def(e:Ed)(old spots:List Spt)(send:Bool):movR e old spots send=(newsN e spots send).foldl putN (e.cells.filter (keepF old send)):=rfl
theorem keep_succ {old:List Spt} {send:Bool} {L:List TCl} {k:Nat}(h:k<L.length):(L.take (k+1)).filter (keepF old send)=(L.take k).filter (keepF old send)++(if keepF old send (L.getD k default)=true then [L.getD k default]else []):=by
 rw[take_snoc h,List.filter_append]
 generalize L.getD k default=y
 cases hq:keepF old send y<;>simp[hq]
theorem keep_le(old:List Spt)(send:Bool)(L:List TCl)(k:Nat):((L.take k).filter (keepF old send)).length≤k:=by
 have h1:=List.length_filter_le (keepF old send) (L.take k)
 have h2:=List.length_take_le k L
 omega
theorem news_succ {e:Ed} {spots:List Spt} {send:Bool} {K:List TCl} {k:Nat}(h:k<spots.length):(newsN e (spots.take (k+1)) send).foldl putN K=putN ((newsN e (spots.take k) send).foldl putN K) (newC e send (spots.getD k default)):=by
 unfold newsN
 rw[take_snoc h,List.map_append,List.foldl_append]
 rfl
theorem news_len(e:Ed)(spots:List Spt)(send:Bool)(K:List TCl)(k:Nat):((newsN e (spots.take k) send).foldl putN K).length≤K.length+k:=by
 rw[(putAll_perm _ _).length_eq,List.length_append]
 unfold newsN
 rw[List.length_map]
 have:=List.length_take_le k spots
 omega
def MovPost(L:List TCl)(w:World)(r:Ending)(w':World):Prop:=∃A n c b,r= .returned (.slice A n c)∧L.length=n∧w'.ownsRow b 85 6 (.slice A n c) n (L.flatMap tclE)∧Below w.heap.size w w'
theorem rmoved_any(e:Ed)(v:EdV)(A B:Option Addr)(n c m d:Nat)(old spots:List Spt)(send:Bool)(w:World)(h:EdIs w v e)(ho:SptS w A n old)(hs:SptS w B m spots)(hcn:v.cn≤90000)(hm:m≤1000):Calls Tryz.prog 162 #[.agg (endA e v),.slice A n c,.slice B m d,.bool send] w (MovPost (movR e old spots send) w):=by
 have I:=Zh (Mem.start w)
 have cH:=fun s W (hb:Below w.heap.size w W)=>rhas_any A n c old s W (ho.keep hb)
 have hsucc:=fun k (hk:k<v.cn)=>keep_succ (old:=old) (send:=send) (L:=e.cells) (k:=k) (by rw[h.cells.len];exact hk)
 have hle:=fun k=>keep_le old send e.cells k
 have hall:e.cells.take v.cn=e.cells:=List.take_of_length_le (by rw[h.cells.len];exact Nat.le_refl _)
 have hsall:spots.take m=spots:=List.take_of_length_le (by rw[hs.len];exact Nat.le_refl _)
 have J:∀x:TCl,keepF old send x= !(decide (x.send=send)&&decide (place x∈old)):=fun x=>rfl
 have hn2:=fun k (hk:k<m) K=>news_succ (e:=e) (spots:=spots) (send:=send) (K:=K) (k:=k) (by rw[hs.len];exact hk)
 have hl2:=fun K k=>news_len e spots send K k
 have hP:∀A' n' c' b w',(movR e old spots send).length=n'→w'.ownsRow b 85 6 (.slice A' n' c') n' ((movR e old spots send).flatMap tclE)→Below w.heap.size w w'→MovPost (movR e old spots send) w (.returned (.slice A' n' c')) w':=fun A' n' c' b w' h1 h2 h3=>⟨A',n',c',b,rfl,h1,h2,h3⟩
 rw[movR_def]at hP ⊢
 generalize hPq:MovPost ((newsN e spots send).foldl putN (e.cells.filter (keepF old send))) w=P at*
 clear hPq
 have cP:=fun A n cp l c W (h:TclS W A n l) (hn:n≤100000) (hcp:n≤cp)=>put_any A n cp l c W h hn hcp
 unfold PutPost at cP
 have uE:=Tryz.underlying32
 have uT:=Tryz.underlying85
 have uI:=Tryz.underlying3
 refine zh12 ?_ h hs cH hsucc hle hall hsall J hn2 hl2 hP cP;clear h hs cH hsucc hle hall hsall J hn2 hl2 hP cP;intro h hs cH hsucc hle hall hsall J hn2 hl2 hP cP
 refine zh3 ?_ uE uT uI;clear uE uT uI;intro uE uT uI
 clear ho
 go_enter Tryz.func162,Tryz.ntmps162
 go_upto_region 1 with(refine bA I 32 ?_;clear I;intro ge w1 I hG;clear hG)
 go_wp2_with fail
 go_loopw[9,10] (fun o i wr=>Hid (∃(k n1:Nat) (A1:Option Addr) (c1:Nat),k≤v.cn∧i= .int .i64 k∧o= .slice A1 n1 c1∧Hid (((e.cells.take k).filter (keepF old send)).length=n1)∧Hid (wr.ownsRow w.heap.size 85 6 (.slice A1 n1 c1) n1 (((e.cells.take k).filter (keepF old send)).flatMap tclE))∧Hid (Mem w wr [(ge,endA e v,32)]))) (fun _ i _=>v.cn-(intOf i).toNat)
 case atStart=>exact Zh ⟨0,0,none,0,by omega,rfl,rfl,rfl,World.ownsRow_nil _ _ _ _,I⟩
 case round=>
  clear I
  obtain⟨k,n1,A1,c1,hk,rfl,rfl,HL,HO,I⟩:=hrel.out
  clear hrel
  have p3:=Zc I 0 3 (.slice v.cA v.cn v.cc)
  by_cases hlt:k<v.cn
  ·obtain⟨b,off,hcA⟩:=h.cells.addr (by omega)
   have hx:=tcl_at (hcA▸h.cells.keep I.below) hlt
   have hst:=hsucc.out k hlt
   have hmk:=hle.out k
   have HL3:=HL.out
   rw[HL3]at hmk
   have hFx:=J.out (e.cells.getD k default)
   generalize hxq:e.cells.getD k default=x at*
   clear hxq
   generalize keepF old send x=Q at*
   rw[hcA]at p3
   replace hcA:=Zh hcA
   obtain⟨x0,x1,x2,x3,x4,x5⟩:=x
   obtain⟨q0,q1,q2,q3,q4,q5⟩:=hx
   dsimp only at q0 q1 q2 q3 q4 q5 hFx
   have r1:(k:Int)<(v.cn:Int):=by omega
   have r0:(0:Int)≤(k:Int):=by omega
   replace hst:=Zh hst
   go_upto_region 6 with(first|(refine aN I info_tcl ?_;clear I;intro gc w1 I hG hN9)|((refine sF 0 I ?_;clear I;intro w4 I hG4;simp only[List.set]at I))|fail)
   have p_:=hG.grown hG4.out hG.size (fun k e=>by cases e;exact hN9.out)
   replace HO:=Zh (owns_keep HO.out p_)
   clear q0 q1 q2 q3 q4 q5 p3 hG hG4 hN9 p_
   have kc:=I.cell 0 rfl
   have cH2:=Zh (fun W hb=>cH.out ⟨x0,x1⟩ W hb)
   have hFx2:Q= !(decide (x3=send)&&decide ((⟨x0,x1⟩:Spt)∈old)):=hFx
   clear hFx
   generalize decide ((⟨x0,x1⟩:Spt)∈old)=D at*
   have app:∀W,Hid (Mem w W ((gc,#[.int .i64 x0,.int .i64 x1,.int .i64 x2,.bool x3,.int .i64 x4,.int .i64 x5],85):: [(ge,endA e v,32)]))→True:=fun _ _=>trivial
   clear app
   by_cases hq:Q=true
   ·have HE:Hid ((e.cells.take (k+1)).filter (keepF old send)=(e.cells.take k).filter (keepF old send)++ [⟨x0,x1,x2,x3,x4,x5⟩]):=by show _= _;rw[hst.out,if_pos hq]
    by_cases hsd:x3=send
    ·have hD:D=false:=by
      rw[hq,decide_eq_true hsd]at hFx2
      cases D
      ·rfl
      ·simp at hFx2
     have ds:(x3 !=send)=false:=by rw[bne_eq_false_iff_eq];exact hsd
     subst hD
     have HE2:Hid ((e.cells.take (k+1)).filter (keepF old send)=(e.cells.take k).filter (keepF old send)++ [⟨x0,x1,x2,send,x4,x5⟩]):=by show _= _;rw[HE.out,hsd]
     go_wp2_with(first|go_skip|(go_at_call 208;refine(cH2 _ I.below).mono ?_;rintro r w6 ⟨rfl,p_⟩;clear kc;replace I:=Zm I p_;replace HO:=Zh (owns_keep HO.out p_);clear p_)|(refine lG 0 I uT.out ?_)|(at_builtin;refine wpList_append_sls eltT _ rfl _ _ rfl w.heap.size (.slice A1 n1 c1) ((e.cells.take k).filter (keepF old send)) rfl (by rw[HL3];exact HO.alloc _) _ 1 1 [⟨x0,x1,x2,send,x4,x5⟩] rfl (Sls.one (t:=85) (Blk.new _ _ _)) (by rw[HL3];simp;omega) (by exact(ballN I.below _).size) ?_;intro v1 w7 HO1 HG1 _;rw[List.length_append,HL3,List.length_singleton]at HO1;obtain⟨A2,c2,rfl⟩:=own_slice HO1;replace HO1:=Zh HO1;have HM7:=Zh ((I.tail.keep (ball _ _)).row (HO.alloc _) HG1 (Nat.le_refl _) (apart_of (by rfl)));clear HG1)|fail)
     rw[←HE2.out]at HO1
     have HL2:Hid (((e.cells.take (k+1)).filter (keepF old send)).length=n1+1):=by show _= _;rw[HE2.out,List.length_append,HL3];rfl
     exact⟨Zh ⟨k+1,n1+1,A2,c2,by omega,by go_num,rfl,HL2,HO1,HM7⟩,by simp[intOf];omega⟩
    ·have ds:(x3 !=send)=true:=by rw[bne_iff_ne];exact hsd
     go_wp2_with(first|go_skip|(refine lG 0 I uT.out ?_)|(at_builtin;refine wpList_append_sls eltT _ rfl _ _ rfl w.heap.size (.slice A1 n1 c1) ((e.cells.take k).filter (keepF old send)) rfl (by rw[HL3];exact HO.alloc _) _ 1 1 [⟨x0,x1,x2,x3,x4,x5⟩] rfl (Sls.one (t:=85) (Blk.new _ _ _)) (by rw[HL3];simp;omega) (by exact(ballN I.below _).size) ?_;intro v1 w7 HO1 HG1 _;rw[List.length_append,HL3,List.length_singleton]at HO1;obtain⟨A2,c2,rfl⟩:=own_slice HO1;replace HO1:=Zh HO1;have HM7:=Zh ((I.tail.keep (ball _ _)).row (HO.alloc _) HG1 (Nat.le_refl _) (apart_of (by rfl)));clear HG1)|fail)
     rw[←HE.out]at HO1
     have HL2:Hid (((e.cells.take (k+1)).filter (keepF old send)).length=n1+1):=by show _= _;rw[HE.out,List.length_append,HL3];rfl
     exact⟨Zh ⟨k+1,n1+1,A2,c2,by omega,by go_num,rfl,HL2,HO1,HM7⟩,by simp[intOf];omega⟩
   ·have hq2:Q=false:=by simpa using hq
    have hboth:x3=send∧D=true:=by
     rw[hq2]at hFx2
     by_cases hsd:x3=send
     ·rw[decide_eq_true hsd]at hFx2
      cases D
      ·simp at hFx2
      ·exact⟨hsd,rfl⟩
     ·rw[decide_eq_false hsd]at hFx2;simp at hFx2
    obtain⟨hsd,rfl⟩:=hboth
    have ds:(x3 !=send)=false:=by rw[bne_eq_false_iff_eq];exact hsd
    have HE:Hid ((e.cells.take (k+1)).filter (keepF old send)=(e.cells.take k).filter (keepF old send)):=by show _= _;rw[hst.out,if_neg hq,List.append_nil]
    go_wp2_with(first|go_skip|(go_at_call 208;refine(cH2 _ I.below).mono ?_;rintro r w6 ⟨rfl,p_⟩;clear kc;replace I:=Zm I p_;replace HO:=Zh (owns_keep HO.out p_);clear p_)|fail)
    rw[←HE.out]at HO HL
    have HM2:=Zh I.tail
    exact⟨Zh ⟨k+1,n1,A1,c1,by omega,by go_num,rfl,HL,HO,HM2⟩,by simp[intOf];omega⟩
  ·obtain rfl:k=v.cn:=by omega
   have hK:=hle.out v.cn
   rw[hall.out]at HL HO hK
   generalize e.cells.filter (keepF old send)=K at*
   clear hsucc hle hall J cH
   go_wp2_with fail
   clear p3
   go_loopw[9,12] (fun o i wr=>Hid (∃(k n1:Nat) (A1:Option Addr) (c1 b:Nat),k≤m∧i= .int .i64 k∧o= .slice A1 n1 c1∧Hid (((newsN e (spots.take k) send).foldl putN K).length=n1)∧Hid (wr.ownsRow b 85 6 (.slice A1 n1 c1) n1 (((newsN e (spots.take k) send).foldl putN K).flatMap tclE))∧Hid (Mem w wr [(ge,endA e v,32)]))) (fun _ i _=>m-(intOf i).toNat)
   case atStart=>exact Zh ⟨0,n1,A1,c1,_,by omega,rfl,rfl,HL,HO,I⟩
   case round=>
    clear I HL HO
    obtain⟨k,n2,A2,c2,b,hk,rfl,rfl,HL,HO,I⟩:=hrel.out
    clear hrel
    by_cases hlt:k<m
    ·obtain⟨b2,off2,hsA⟩:=hs.addr (by omega)
     have hxs:=Zh (fun W (hb:Below w.heap.size w W)=>spt_at (hsA▸hs.keep hb) hlt)
     have hst:=hn2.out k hlt K
     have hl:=hl2.out K k
     rw[HL.out]at hl
     have HL3:=HL.out
     generalize(newsN e (spots.take k) send).foldl putN K=LK at*
     generalize spots.getD k default=y at*
     obtain⟨y0,y1⟩:=y
     have r1:(k:Int)<(m:Int):=by omega
     have r0:(0:Int)≤(k:Int):=by omega
     replace hst:=Zh hst
     simp only[hsA]
     go_upto_region 11 with fail
     replace HO:=Zh (owns_keep HO.out ((Below.refl _ _).drew))
     replace I:=Zh (I.keep ((Below.refl _ _).drew))
     have HMs:=Zh I.out
     refine wp_region_plan (fun w'=>Mem _ w' _) 16 [(0,true),(1,true),(2,true),(3,true),(4,true),(5,true),(6,true),(7,true),(8,true),(9,true),(10,true),(11,true),(12,true),(13,true),(14,true),(15,false)] (by kernel_rfl) (by kernel_rfl) HMs.out ?_
     generalize wr.drew=wd at*
     repeat(first|(refine plPure rfl rfl (by intro w_ hSw;go_simp;first|done|exact rfl) ?_;try go_frame)|(refine plTakeL (by rfl) (yields_memc rfl _ _ rfl 0 (fun w_ hSw=>hSw) rfl _ rfl _ rfl _ (by first|exact Tryz.underlying3|exact Tryz.underlying4|exact Tryz.underlying28|exact Tryz.underlying27) (by rfl)) ?_;try go_frame))
     refine plTakeL (by rfl) (yields_cell rfl _ _ rfl ⟨b2,off2+k*2,none⟩ rfl (.int .i64 y0) (fun w_ hSw=>by exact(hxs _ hSw.below).1) _ uI.out (by rfl)) ?_
     try go_frame
     repeat(first|(refine plPure rfl rfl (by intro w_ hSw;go_simp;first|done|exact rfl) ?_;try go_frame)|(refine plTakeL (by rfl) (yields_memc rfl _ _ rfl 0 (fun w_ hSw=>hSw) rfl _ rfl _ rfl _ (by first|exact Tryz.underlying3|exact Tryz.underlying4|exact Tryz.underlying28|exact Tryz.underlying27) (by rfl)) ?_;try go_frame))
     refine plTakeL (by rfl) (yields_cell rfl _ _ rfl ⟨b2,off2+k*2+1,none⟩ rfl (.int .i64 y1) (fun w_ hSw=>by exact(hxs _ hSw.below).2) _ uI.out (by rfl)) ?_
     try go_frame
     repeat(first|(refine plPure rfl rfl (by intro w_ hSw;go_simp;first|done|exact rfl) ?_;try go_frame)|(refine plTakeL (by rfl) (yields_memc rfl _ _ rfl 0 (fun w_ hSw=>hSw) rfl _ rfl _ rfl _ (by first|exact Tryz.underlying3|exact Tryz.underlying4|exact Tryz.underlying28|exact Tryz.underlying27) (by rfl)) ?_;try go_frame))
     refine plStepL rfl rfl fun K hK=> ?_
     go_wp2_with(first|(go_at_call 113;refine(cP A2 n2 c2 LK (newC e send ⟨y0,y1⟩) _ (Sls.of_owns tclE_len HO.out HL3).2 (by omega) (own_cap HO.out)).mono ?_;rintro r w5 ⟨A3,c3,rfl,HO3,p_⟩)|fail)
     refine hK _ _ (HMs.keep p_) fun hS_=> ?_
     clear hK K hS_
     try go_frame
     replace I:=Zm I p_
     clear HMs p_ HO
     refine plDone ?_
     simp only[List.drop]
     have HL4:Hid (((newsN e (spots.take (k+1)) send).foldl putN K).length=n2+1):=by show _= _;rw[hst.out,putN_len,HL3]
     rw[←hst.out,HL3]at HO3
     replace HO3:=Zh HO3
     go_wp2_with fail
     exact⟨Zh ⟨k+1,n2+1,A3,c3,_,by omega,by go_num,rfl,HL4,HO3,I⟩,by simp[intOf];omega⟩
    ·obtain rfl:k=m:=by omega
     rw[hsall.out]at HL HO
     go_wp2_with fail
     exact hP.out A2 n2 c2 b _ HL.out HO.out I.below
theorem finR {e:Ed} {m:Msg}(hE:EdOk e)(ho:e.opn=true)(ha:ansN e.asked m=true)(hc:m.code=0)(hk:m.kind≤3):movR e m.old m.spots true=if m.kind=1∨m.kind=3 then chgN e m.old m.spots true else if m.kind=2 then chgN e m.old [] true else e.cells:=by
 obtain⟨_,hm,_,hr,e1,_,h3⟩:=ans_ok ha
 have h4:=h3 hc
 have h5:=(asked_ok hE ho).2.2.2.1
 have hf:=hm.foll
 have hk1:=hm.kind1
 unfold follN at hf
 rw[if_neg (by rw[hr];simp),if_neg (by omega)]at hf
 rcases(by omega:m.kind=1∨m.kind=2∨m.kind=3)with k|k|k
 ·rw[if_pos k]at hf
  simp only[Bool.and_eq_true,decide_eq_true_eq]at hf
  have h0:m.old= []:=List.eq_nil_of_length_eq_zero hf.1
  rw[if_pos (.inl k)]
  exact movR_eq hE.cells.asc (by rw[h0];simp)
 ·rw[if_neg (by omega),if_pos k]at hf
  simp only[Bool.and_eq_true,decide_eq_true_eq]at hf
  have h0:m.spots= []:=List.eq_nil_of_length_eq_zero hf.1
  rw[if_neg (by omega),if_pos k,h0]
  exact movR_eq hE.cells.asc (by rw[h4.2.2 (by omega)];exact h5)
 ·rw[if_pos (.inr k)]
  exact movR_eq hE.cells.asc fun s hs=>h5 s (among_mem (h4.2.1 (by omega)).2.2 s hs)
theorem rfinish_any(e:Ed)(m:Msg)(v:EdV)(vm:MsgV)(w:World)(h:EdIs w v e)(hm:MsgIs w vm m):Calls Tryz.prog 93 #[.agg (endA e v),.agg (msgA m vm)] w (EndOwn (finN e m) (finC e m) w):=by
 have I:=Zh (Mem.start w)
 have cE:=fun W (hb:Below w.heap.size w W)=>rchkE_any e v W (h.keep hb)
 rw[rChkE_eq]at cE
 have cA:=fun W (hb:Below w.heap.size w W)=>rans_any e.asked m v.a vm W (h.asked.keep hb) (hm.keep hb)
 rw[ansR_eq]at cA
 have cL:=fun W (hb:Below w.heap.size w W) (hs:Small v)=>rcopied_any e v W (h.keep hb) hs
 unfold ClonePostE at cL
 have cN:=fun W=>rnext_any e.number W
 have cG:=fun W (hb:Below w.heap.size w W) (hcn:v.cn≤90000) (hmm:vm.sn≤1000)=>rmoved_any e v vm.oA vm.sA vm.on vm.oc vm.sn vm.sc m.old m.spots true W (h.keep hb) (hm.old.keep hb) (hm.spots.keep hb) hcn hmm
 unfold MovPost at cG
 have hsm:chkE e=0→Small v:=fun J=>small_of h J
 have hA:finC e m=if chkE e≠0 then 1 else if e.opn=false then 12 else if ansN e.asked m=false then 11 else 0:=rfl
 have hPb:∀c w',finC e m=c→c≠0→Below w.heap.size w w'→EndOwn (finN e m) (finC e m) w (.returned (.tuple #[.agg (endA ed0 edV0),.int .i64 c])) w':=fun c w' e1 e2 hb=>endOwn_bad (finN_bad (by rw[e1];exact e2)) e1 hb
 have hPo:∀w' E ve,finC e m=0→finE e m=E→EdOwn w' ve E→Below w.heap.size w w'→EndOwn (finN e m) (finC e m) w (.returned (.tuple #[.agg (endA E ve),.int .i64 0])) w':=fun w' E ve e1 e2 hE hb=>by
  rw[e1,finN_ok e1,e2]
  exact⟨ve,rfl,hE,hb⟩
 have hFd:finE e m=if m.code≠0 then closE e
  else if m.kind=6 then { closE e with known:=false,last:=msg0,reply:=msg0,cells:= [],number:=0}
  else { closE e with known:=false,last:=msg0,reply:=msg0,number:=nextN e.number,cells:=if m.kind=1∨m.kind=3 then chgN e m.old m.spots true else if m.kind=2 then chgN e m.old [] true else e.cells}:=rfl
 have hfr:chkE e=0→e.opn=true→ansN e.asked m=true→m.code=0→m.kind≤3→_= _:=fun h0 h1 h2 h3 h4=>finR ((chkE_iff e).1 h0) h1 h2 h3 h4
 have hms8:ansN e.asked m=true→vm.sn≤1000:=fun ha=>by have:=(ans_ok ha).2.1.ls;rw[hm.spots.len]at this;omega
 have hcn5:chkE e=0→v.cn≤90000:=fun h0=>by have:=((chkE_iff e).1 h0).len.1;rw[h.cells.len]at this;omega
 generalize EndOwn (finN e m) (finC e m) w=P at*
 generalize finC e m=FC at*
 generalize finE e m=FE at*
 generalize chkE e=CE at*
 generalize ansN e.asked m=AN at*
 generalize nextN e.number=NX at*
 generalize movR e m.old m.spots true=ML at*
 have uE:=Tryz.underlying32
 have uM:=Tryz.underlying30
 refine zh12 ?_ cE cA cL cN cG hsm hA hms8 hcn5 hPb hPo hFd;clear cE cA cL cN cG hsm hA hms8 hcn5 hPb hPo hFd;intro cE cA cL cN cG hsm hA hms8 hcn5 hPb hPo hFd
 refine zh3 ?_ hfr uE uM;clear hfr uE uM;intro hfr uE uM
 clear h hm
 go_enter Tryz.func93,Tryz.ntmps93
 go_upto_region 1 with(first|(refine bA I 32 ?_;clear I;intro ge w1 I hG;clear hG)|(refine bA I 30 ?_;clear I;intro gm w1 I hG;clear hG)|(refine wpList_allocA I rfl 32 rfl (by first|exact msgInfo|exact edInfo|exact tabInfo|exact info_tcl|exact info_spt) ?_;clear I;intro g4 w1 I hG;clear hG)|fail)
 by_cases hC:CE=0
 case neg=>
  have hA1:=Zh (hA.trans (if_pos hC))
  have d1:(CE !=0)=true:=by rw[bne_iff_ne];exact hC
  go_wp2_with(first|(refine lM 2 I uE.out ?_)|(refine sF 0 I ?_;clear I;intro w4 I hG4;simp only[List.set]at I)|(go_at_call 164;refine(cE _ I.below).mono ?_;rintro r w3 ⟨rfl,p_⟩;replace I:=Zm I p_;clear p_)|fail)
  try simp only[Exit.inBlock,Exit.then]
  refine rT I 0 uE.out ?_
  exact hPb.out 1 _ hA1.out (by decide) I.below
 subst hC
 replace hA:=Zh (hA.trans (if_neg (fun h=>h rfl)))
 have hsm2:=Zh (hsm rfl)
 have hcn2:=Zh (hcn5 rfl)
 have hfr2:=Zh (hfr rfl)
 clear hsm hcn5 hfr
 go_upto_region 3 with(first|(refine lM 2 I uE.out ?_)|(go_at_call 164;refine(cE _ I.below).mono ?_;rintro r w3 ⟨rfl,p_⟩;replace I:=Zm I p_;clear p_)|fail)
 clear cE
 have p4:=Zc I 2 4 (.bool e.opn)
 cases ho:e.opn
 case false=>
  rw[ho]at p4
  have hA1:=Zh (hA.trans (if_pos ho))
  go_wp2_with(first|(refine sF 0 I ?_;clear I;intro w4 I hG4;simp only[List.set]at I)|fail)
  try simp only[Exit.inBlock,Exit.then]
  refine rT I 0 uE.out ?_
  exact hPb.out 12 _ hA1.out (by decide) I.below
 rw[ho]at p4
 replace hA:=Zh (hA.trans (if_neg (by rw[ho];decide)))
 have hfr3:=Zh (hfr2 ho)
 clear hfr2
 go_upto_region 5 with fail
 clear p4
 cases AN
 case false=>
  have hA1:=Zh (hA.trans (if_pos rfl))
  go_wp2_with(first|(refine sF 0 I ?_;clear I;intro w4 I hG4;simp only[List.set]at I)|(refine lP 2 I 6 (msgA e.asked v.a) uM.out ?_)|(refine lM 1 I uM.out ?_)|(go_at_call 165;refine(cA _ I.below).mono ?_;rintro r w3 ⟨rfl,p_⟩;replace I:=Zm I p_;clear p_)|fail)
  try simp only[Exit.inBlock,Exit.then]
  refine rT I 0 uE.out ?_
  exact hPb.out 11 _ hA1.out (by decide) I.below
 have hA1:=Zh (hA.trans (if_neg (by decide)))
 have hms:=Zh (hms8 rfl)
 have hfr4:=Zh (hfr3 rfl)
 clear hA hms8 hfr3
 have mk1:Unit:=()
 go_upto_region 8 with(first|(refine lP 2 I 6 (msgA e.asked v.a) uM.out ?_)|(refine lM 1 I uM.out ?_)|(refine lM 2 I uE.out ?_)|(go_at_call 165;refine(cA _ I.below).mono ?_;rintro r w3 ⟨rfl,p_⟩;replace I:=Zm I p_;clear p_)|(go_at_call 154;refine(cL _ I.below hsm2.out).mono ?_;rintro r w3 ⟨v',rfl,hE,p_⟩;replace hE:=Zh hE;replace I:=Zm I p_;clear p_)|(clear mk1;refine wpList_allocA I rfl 32 rfl edInfo ?_;clear I;intro g6 w1 I hG;replace hE:=Zh (hE.keep hG.out);clear hG)|(refine sF 0 I ?_;have hBq:=I.at_ 0 rfl;clear I;intro w4 I hG4;simp only[List.set]at I;replace hE:=Zh (hE.put hBq (by decide) (by decide) hG4.out);clear hBq hG4)|fail)
 clear cA cL
 go_upto_region 9 with(first|(refine sM 0 I 4 (endA { e with opn:=false} v') ?_;have hBq:=I.at_ 0 rfl;clear I;intro w4 I hG4;simp only[List.set]at I;replace hE:=Zh (hE.put hBq (by decide) (by decide) hG4.out);clear hBq hG4)|(refine sM 0 I 5 (endA { e with opn:=false,since:=0} v') ?_;have hBq:=I.at_ 0 rfl;clear I;intro w4 I hG4;simp only[List.set]at I;replace hE:=Zh (hE.put hBq (by decide) (by decide) hG4.out);clear hBq hG4)|(refine sM 0 I 6 (endA (closE e) { v' with a:=msgV0}) ?_;have hBq:=I.at_ 0 rfl;clear I;intro w4 I hG4;simp only[List.set]at I;replace hE:=Zh (hE.put hBq (by decide) (by decide) hG4.out);clear hBq hG4)|fail)
 replace hE:=Zh hE.closed
 have p3:=Zc I 2 3 (.int .i64 m.code)
 by_cases hcd:m.code=0
 case neg=>
  have d1:(m.code !=0)=true:=by rw[bne_iff_ne];exact hcd
  have hF1:=Zh (hFd.trans (if_pos hcd))
  go_wp2_with(first|(refine lM 0 I uE.out ?_)|(refine sF 1 I ?_;have hBq:=I.at_ 1 rfl;clear I;intro w4 I hG4;simp only[List.set]at I;replace hE:=Zh (hE.put hBq (by decide) (by decide) hG4.out);clear hBq)|fail)
  try simp only[Exit.inBlock,Exit.then]
  refine rT I 1 uE.out ?_
  exact hPo.out _ _ _ hA1.out hF1.out hE.out I.below
 have d1:(m.code !=0)=false:=by rw[bne_eq_false_iff_eq];exact hcd
 replace hFd:=Zh (hFd.trans (if_neg (fun h=>h hcd)))
 have hfr5:=Zh (hfr4 hcd)
 clear hfr4
 go_upto_region 11 with fail
 clear p3 d1 hcd
 go_upto_region 12 with(first|(refine sM 0 I 13 (endA { closE e with known:=false} { v' with a:=msgV0}) ?_;have hBq:=I.at_ 0 rfl;clear I;intro w4 I hG4;simp only[List.set]at I;replace hE:=Zh (hE.put hBq (by decide) (by decide) hG4.out);clear hBq hG4)|(refine sM 0 I 14 (endA { closE e with known:=false,last:=msg0} { v' with a:=msgV0,l:=msgV0}) ?_;have hBq:=I.at_ 0 rfl;clear I;intro w4 I hG4;simp only[List.set]at I;replace hE:=Zh (hE.put hBq (by decide) (by decide) hG4.out);clear hBq hG4)|(refine sM 0 I 21 (endA { closE e with known:=false,last:=msg0,reply:=msg0} { v' with a:=msgV0,l:=msgV0,r:=msgV0}) ?_;have hBq:=I.at_ 0 rfl;clear I;intro w4 I hG4;simp only[List.set]at I;replace hE:=Zh (hE.put hBq (by decide) (by decide) hG4.out);clear hBq hG4)|fail)
 have p0:=Zc I 2 0 (.int .i64 m.kind)
 by_cases hk6:m.kind=6
 case pos=>
  have d1:(m.kind==6)=true:=by rw[beq_iff_eq];exact hk6
  have hF1:=Zh (hFd.trans (if_pos hk6))
  go_wp2_with(first|(refine sM 0 I 3 (endA { closE e with known:=false,last:=msg0,reply:=msg0,cells:= []} { v' with a:=msgV0,l:=msgV0,r:=msgV0,cA:=none,cn:=0,cc:=0}) ?_;have hBq:=I.at_ 0 rfl;clear I;intro w4 I hG4;simp only[List.set]at I;replace hE:=Zh (hE.put hBq (by decide) (by decide) hG4.out);clear hBq hG4)|(refine sM 0 I 2 (endA { closE e with known:=false,last:=msg0,reply:=msg0,cells:= [],number:=0} { v' with a:=msgV0,l:=msgV0,r:=msgV0,cA:=none,cn:=0,cc:=0}) ?_;have hBq:=I.at_ 0 rfl;clear I;intro w4 I hG4;simp only[List.set]at I;replace hE:=Zh (hE.put hBq (by decide) (by decide) hG4.out);clear hBq hG4)|(refine lM 0 I uE.out ?_)|(refine sF 1 I ?_;have hBq:=I.at_ 1 rfl;clear I;intro w4 I hG4;simp only[List.set]at I;replace hE:=Zh (hE.put hBq (by decide) (by decide) hG4.out);clear hBq)|fail)
  try simp only[Exit.inBlock,Exit.then]
  refine rT I 1 uE.out ?_
  exact hPo.out _ _ _ hA1.out hF1.out ⟨⟨0,World.ownsRow_nil _ _ _ _⟩,rfl,hE.asked,MsgOwn.zero _,MsgOwn.zero _⟩ I.below
 have d1:(m.kind==6)=false:=by rw[beq_eq_false_iff_ne];exact hk6
 replace hFd:=Zh (hFd.trans (if_neg hk6))
 go_upto_region 15 with fail
 clear d1
 by_cases hk3:m.kind≤3
 case neg=>
  have hF1:FE= { closE e with known:=false,last:=msg0,reply:=msg0,number:=NX}:=by rw[hFd.out,if_neg (by omega),if_neg (by omega)];rfl
  replace hF1:=Zh hF1
  have d3:decide (m.kind≤3)=false:=decide_eq_false hk3
  go_upto_region 17 with fail
  clear p0 d3
  have p2:=Zc I 3 2 (.int .i64 e.number)
  go_upto_region 18 with(first|(go_at_call 163;refine(cN _).mono ?_;rintro r w_ ⟨rfl,rfl⟩;clear p2)|(refine sM 0 I 2 (endA { closE e with known:=false,last:=msg0,reply:=msg0,number:=NX} { v' with a:=msgV0,l:=msgV0,r:=msgV0}) ?_;have hBq:=I.at_ 0 rfl;clear I;intro w4 I hG4;simp only[List.set]at I;replace hE:=Zh (hE.put hBq (by decide) (by decide) hG4.out);clear hBq hG4)|fail)
  go_wp2_with(first|(refine lM 0 I uE.out ?_)|(refine sF 1 I ?_;have hBq:=I.at_ 1 rfl;clear I;intro w4 I hG4;simp only[List.set]at I;replace hE:=Zh (hE.put hBq (by decide) (by decide) hG4.out);clear hBq)|fail)
  try simp only[Exit.inBlock,Exit.then]
  refine rT I 1 uE.out ?_
  exact hPo.out _ _ _ hA1.out hF1.out ⟨hE.cells,hE.lc,hE.asked,MsgOwn.zero _,MsgOwn.zero _⟩ I.below
 have hF1:FE= { closE e with known:=false,last:=msg0,reply:=msg0,number:=NX,cells:=ML}:=by rw[hFd.out,hfr5.out hk3]
 replace hF1:=Zh hF1
 have d3:decide (m.kind≤3)=true:=decide_eq_true hk3
 go_upto_region 16 with fail
 clear p0 d3
 have p5:=Zc I 2 5 (.slice vm.sA vm.sn vm.sc)
 have p6:=Zc I 2 6 (.slice vm.oA vm.on vm.oc)
 go_upto_region 17 with(first|(refine lM 3 I uE.out ?_)|(go_at_call 162;refine(cG _ I.below hcn2.out hms.out).mono ?_;rintro r w3 ⟨A2,n2,c2,b2,rfl,hL2,hO2,p_⟩;clear p5 p6;replace hE:=Zh (show EdOwn w3 { v' with a:=msgV0,cA:=A2,cn:=n2,cc:=c2} { closE e with cells:=ML}from⟨⟨b2,hO2⟩,hL2,(hE.keep p_).asked,(hE.keep p_).last,(hE.keep p_).reply⟩);clear hO2 hL2;replace I:=Zm I p_;clear p_)|(refine sM 0 I 3 (endA { closE e with known:=false,last:=msg0,reply:=msg0,cells:=ML} { v' with a:=msgV0,l:=msgV0,r:=msgV0,cA:=A2,cn:=n2,cc:=c2}) ?_;have hBq:=I.at_ 0 rfl;clear I;intro w4 I hG4;simp only[List.set]at I;replace hE:=Zh (hE.put hBq (by decide) (by decide) hG4.out);clear hBq hG4)|fail)
 have p2:=Zc I 3 2 (.int .i64 e.number)
 go_upto_region 18 with(first|(go_at_call 163;refine(cN _).mono ?_;rintro r w_ ⟨rfl,rfl⟩;clear p2)|(refine sM 0 I 2 (endA { closE e with known:=false,last:=msg0,reply:=msg0,number:=NX,cells:=ML} { v' with a:=msgV0,l:=msgV0,r:=msgV0,cA:=A2,cn:=n2,cc:=c2}) ?_;have hBq:=I.at_ 0 rfl;clear I;intro w4 I hG4;simp only[List.set]at I;replace hE:=Zh (hE.put hBq (by decide) (by decide) hG4.out);clear hBq hG4)|fail)
 go_wp2_with(first|(refine lM 0 I uE.out ?_)|(refine sF 1 I ?_;have hBq:=I.at_ 1 rfl;clear I;intro w4 I hG4;simp only[List.set]at I;replace hE:=Zh (hE.put hBq (by decide) (by decide) hG4.out);clear hBq)|fail)
 try simp only[Exit.inBlock,Exit.then]
 refine rT I 1 uE.out ?_
 exact hPo.out _ _ _ hA1.out hF1.out ⟨hE.cells,hE.lc,hE.asked,MsgOwn.zero _,MsgOwn.zero _⟩ I.below
end Tx
end Go.Proofs.YtfamifgchgolpaaGreat
