/- Rows of elements of k cells that the library's sort has turned. -/
import Derived.Test.YtfamifgchgolpaaGreatLay
import Derived.Test.YtfamifgchgolpaaGreatBq
import Derived.Shelf.SlSortCmp.NoneTotal
import Derived.Sort.OwnSorted
set_option linter.unusedVariables false
set_option linter.unusedSimpArgs false
set_option maxRecDepth 100000
set_option maxHeartbeats 2000000
namespace Go.Proofs.YtfamifgchgolpaaGreat
open Go Go.RowKit Go.Sort Go.Shelf
namespace Sk
variable {α:Type} [Inhabited α]
theorem flatK_fm(enc:α→List Value)(k:Nat)(hk:∀x,(enc x).length=k)(xs:List α):(flatK enc k xs.toArray).toList=xs.flatMap enc:=by
 apply List.ext_getElem?
 intro t
 by_cases ht:t<xs.length*k
 ·have k0:0<k:=by rcases Nat.eq_zero_or_pos k with h|h;·subst h;simp at ht
                  ·exact h
  have h1:t/k<xs.length:=by rw[Nat.div_lt_iff_lt_mul k0];exact ht
  have h2:t %k<k:=Nat.mod_lt _ k0
  have h3:=fm_get enc k hk xs (t/k) (t %k) h1 h2
  rw[Nat.mul_comm,Nat.div_add_mod]at h3
  rw[h3]
  have h4:=get_flatK enc k xs.toArray t (by simpa using ht)
  rw[getElem!_pos (flatK enc k xs.toArray) t (by simpa using ht)]at h4
  rw[Array.getElem?_toList,Array.getElem?_eq_getElem (by simpa using ht),h4]
  have e:xs.toArray[t/k]! =xs.getD (t/k) default:=by
   rw[getElem!_pos xs.toArray (t/k) (by simpa using h1)];simp[List.getD_eq_getElem?_getD,h1]
  rw[e]
  generalize xs.getD (t/k) default=y
  have:=hk y
  rw[List.getElem?_eq_getElem (by omega),getElem!_pos (enc y) _ (by omega)]
 ·rw[List.getElem?_eq_none (by simpa using ht),List.getElem?_eq_none (by rw[fm_len enc k hk];omega)]
theorem holdsK_of(enc:α→List Value)(k:Nat)(hk:∀x,(enc x).length=k) {w:World} {g:Nat} {cur:Array Value} {e:TypeId} {ss:List α}(hb:w.heap[g]? =some (.cells cur e (0,0)))(ht:cur.toList.take (ss.length*k)=ss.flatMap enc):HoldsK enc k w g 0 ss.toArray:=by
 intro j hj
 have hj':j<ss.length*k:=by simpa using hj
 refine⟨?_,by simp[World.frozen?,hb]⟩
 have h1:(cur.toList.take (ss.length*k))[j]? =(ss.flatMap enc)[j]? :=by rw[ht]
 rw[List.getElem?_take_of_lt hj',←flatK_fm enc k hk]at h1
 simp only[World.cell?,hb,Nat.zero_add]
 simp only[Option.isSome_none,Bool.false_eq_true,if_false]
 rw[←Array.getElem?_toList,h1,Array.getElem?_toList,Array.getElem?_eq_getElem hj,getElem!_pos (flatK enc k ss.toArray) j hj]
 rfl
theorem heap_putI {w:World} {g n:Nat} {os:Array Obj} {cur:Array Value} {e:TypeId} {fr:Nat×Nat}(d:Array Value)(hb:w.heap[g]? =some (.cells cur e fr)):
 (grow (putRow id (Sort.ahead w n) g 0 d) os).heap[g]? =some (.cells (putCells id 0 d cur) e fr):=by
 have hg:g<w.heap.size:=(Array.getElem?_eq_some_iff.1 hb).1
 rw[heap_grow_old _ _ (by simpa using hg)]
 simp[putRow,mapBlock,Sort.ahead,Array.getElem?_modify,hb,onCells]
theorem grownBy_sortK(enc:α→List Value)(k:Nat) {w:World} {g n:Nat} {os:Array Obj}(d:Array α):w.grownBy (sortWorldK enc k w g 0 n d os) (some g):=by
 refine⟨rfl,rfl,rfl,by simp[sortWorldK,putRowK],fun k hk hne=> ?_⟩
 unfold sortWorldK putRowK
 rw[heap_grow_old _ _ (by simpa using hk)]
 have:g≠k:=fun e=>hne (by rw[e])
 simp[putRow,mapBlock,Sort.ahead,Array.getElem?_modify,this]
theorem take_putI(cur:Array Value)(ts:Array Value)(h:ts.size≤cur.size):(putCells id 0 ts cur).toList.take ts.size=ts.toList:=by
 apply List.ext_getElem?
 intro j
 by_cases hj:j<ts.size
 ·rw[List.getElem?_take_of_lt hj,Array.getElem?_toList]
  simp[putCells,hj,show j<cur.size by omega]
 ·rw[List.getElem?_take_eq_none (by omega),List.getElem?_eq_none (by simp;omega)]
theorem owns_sortK(enc:α→List Value)(k:Nat)(hk:∀x,(enc x).length=k) {w:World} {base g cap n:Nat} {e:TypeId} {os:Array Obj} {cur:Array Value} {m:Nat} {ts:List α}(hl:ts.length=m)(hbase:base≤g)(hb:w.heap[g]? =some (.cells cur e (0,0)))
 (h1:m≤cap) (h2:cap≤maxLen) (h3:cur.size=cap*k):
 (sortWorldK enc k w g 0 n ts.toArray os).ownsRow base e k (.slice (some ⟨g,0,none⟩) m cap) m (ts.flatMap enc):=
 ⟨by rw[fm_len enc k hk,hl],.inr ⟨g,cap,_,rfl,hbase,heap_putI _ hb,h1,h2,by simp[putCells,h3],by
  have:=take_putI cur (flatK enc k ts.toArray) (by rw[size_flatK,h3,List.size_toArray,hl];exact Nat.mul_le_mul_right k h1)
  rw[size_flatK,flatK_fm enc k hk,List.size_toArray,hl]at this
  exact this⟩⟩
end Sk
end Go.Proofs.YtfamifgchgolpaaGreat
namespace Go.Proofs.YtfamifgchgolpaaGreat
open Go Go.RowKit Go.Sort Go.Shelf
namespace Tx
open Sw Mm
abbrev TB:= {c:TCl//0≤c.slot∧c.slot≤511}
instance:Inhabited TB:=⟨⟨⟨0,0,0,false,0,0⟩,by decide⟩⟩
def tbE(c:TB):List Value:=tclE c.1
theorem tbE_len(c:TB):(tbE c).length=6:=rfl
theorem tbE_one(c:TB):∀v∈tbE c,v.oneCell'=true:=tclE_one c.1
def cfB(x y:TB):Int:=x.1.slot-y.1.slot
theorem ltB(x y:TB):ltOf cfB x y=true↔x.1.slot<y.1.slot:=by unfold ltOf cfB;rw[decide_eq_true_eq];omega
theorem ltBf(x y:TB):ltOf cfB x y=false↔y.1.slot≤x.1.slot:=by rw[←Bool.not_eq_true,ltB];omega
theorem swoB:SWO (ltOf cfB)where
 irrefl x:=by rw[ltBf];exact Int.le_refl _
 trans x y z h1 h2:=by rw[ltB]at*;omega
 ntrans x y z h1 h2:=by rw[ltBf]at*;omega
theorem fm_tb(d:List TB):d.flatMap tbE=(d.map (·.1)).flatMap tclE:=by rw[List.flatMap_map];rfl
theorem lift_tb:∀ {xs:List TCl},(∀c∈xs,0≤c.slot∧c.slot≤511)→∃d:List TB,d.map (·.1)=xs
 | [],_=>⟨[],rfl⟩
 |x::xs,h=>by
  obtain⟨d,hd⟩:=lift_tb (xs:=xs) fun c hc=>h c (List.mem_cons_of_mem _ hc)
  exact⟨⟨x,h x (List.mem_cons_self ..)⟩::d,by rw[List.map_cons,hd]⟩
theorem permIn_whole {α:Type} [Inhabited α] {d d':Array α}(h:PermIn 0 d.size d d'):d'.toList.Perm d.toList:=by
 obtain⟨h1,_,h3⟩:=h
 rw[←h1]at h3
 simp only[Array.extract_size]at h3
 rw[h1]at h3
 simpa using h3
theorem sortedIn_whole {d d':Array TB}(hs:d'.size=d.size)(h:SortedIn (ltOf cfB) 0 d.size d'):(d'.toList.map (·.1)).Pairwise fun a b:TCl=>a.slot≤b.slot:=by
 rw[List.pairwise_map,List.pairwise_iff_getElem]
 intro i j hi hj hij
 have hi':i<d'.size:=by simpa using hi
 have hj':j<d'.size:=by simpa using hj
 have:=h i j (Nat.zero_le _) hij (by omega)
 rw[getElem!_pos d' i hi',getElem!_pos d' j hj',ltBf]at this
 simpa using this
def SortTPost(A:Option Addr)(n c base:Nat)(xs:List TCl)(w:World)(e:Ending)(w':World):Prop:=
 e= .returned (.tuple #[])∧∃ys:List TCl,ys.Perm xs∧ys.Pairwise (fun a b=>a.slot≤b.slot)∧w'.ownsRow base 85 6 (.slice A n c) n (ys.flatMap tclE)∧w.grownBy w' (Value.slice A n c).ownBlock
theorem chg2_any(x y:TCl)(w:World)(hx:0≤x.slot∧x.slot≤511)(hy:0≤y.slot∧y.slot≤511):Calls Tryz.prog 135 #[.agg #[.int .i64 x.slot,.int .i64 x.off,.int .i64 x.kind,.bool x.send,.int .i64 x.peer,.int .i64 x.flow],.agg #[.int .i64 y.slot,.int .i64 y.off,.int .i64 y.kind,.bool y.send,.int .i64 y.peer,.int .i64 y.flow]] w fun e w'=>e= .returned (.int .i64 (x.slot-y.slot))∧GW w w':=by
 obtain⟨x0,x1,x2,x3,x4,x5⟩:=x
 obtain⟨y0,y1,y2,y3,y4,y5⟩:=y
 dsimp only at*
 have hw:IntKind.i64.wrap (x0-y0)=x0-y0:=IntWalk.i64_in _ (by omega)
 have hG:=((GW.refl w).alloc (.cells #[.int .i64 x0,.int .i64 x1,.int .i64 x2,.bool x3,.int .i64 x4,.int .i64 x5] 85)).alloc (.cells #[.int .i64 y0,.int .i64 y1,.int .i64 y2,.bool y3,.int .i64 y4,.int .i64 y5] 85)
 replace hG:=Zh hG
 go_enter Tryz.func135,Tryz.ntmps135
 go_wp2
 go_ret
 exact⟨rfl,hG.out⟩
theorem sortT_any(xs:List TCl)(hx:∀c∈xs,0≤c.slot∧c.slot≤511)(A:Option Addr)(n c base:Nat)(w:World)(h:w.ownsRow base 85 6 (.slice A n c) n (xs.flatMap tclE))(hl:n≤1000000):
 Calls Tryz.prog 134 #[.slice A n c,.func (.func 135) #[] #[]] w (SortTPost A n c base xs w):=by
 have hxl:xs.length=n:=own_len tclE_len (by decide) h
 rcases h.2 with⟨hv,h0⟩|⟨g,cap,cur,hv,hbase,hg,r1,r2,r3,r4⟩
 ·have hn:=AnyF.slices_SortFunc_none (P:=Tryz.prog) (ρ:=Tryz.sortf_ren) { Tryz.sortf with} A c (.func (.func 135) #[] #[]) w
  change Calls Tryz.prog 134 _ _ _ at hn
  subst h0
  refine hn.mono ?_
  rintro e w' ⟨rfl,rfl⟩
  have hx0:xs= []:=List.length_eq_zero_iff.1 hxl
  subst hx0
  exact⟨rfl,[],List.Perm.refl _,List.Pairwise.nil,h,gb_refl _ _⟩
 ·injection hv with hA _ hc
  subst hA hc
  obtain⟨d,rfl⟩:=lift_tb hx
  rw[List.length_map]at hxl
  rw[←fm_tb]at r4
  subst hxl
  have hH:=Sk.holdsK_of tbE 6 tbE_len hg (ss:=d) r4
  have hgl:g<w.heap.size:=(Array.getElem?_eq_some_iff.1 hg).1
  have hcmp:CmpLays Tryz.prog 135 #[] tbE 6 cfB g 0 d.toArray.size w:=by
   intro m os dk _ x y
   exact chg2_any x.1 y.1 _ x.2 y.2
  have hS:=AnyQ.slices_SortFunc (P:=Tryz.prog) (ρ:=Tryz.sortf_ren) Tryz.sortf 6 Tryz.isAgg85 Tryz.sizeOf85 tbE tbE_len tbE_one cfB swoB 135 #[] g 0 c d.toArray w (enters_of Tryz.func135 (by kernel_rfl) rfl) hcmp hH hgl (by rw[List.size_toArray];omega)
  change Calls Tryz.prog 134 _ _ _ at hS
  rw[List.size_toArray]at hS
  refine hS.mono ?_
  rintro e w' ⟨rfl,d',q,os,hp,hs,rfl⟩
  have hsz:d'.size=d.length:=by simpa using hp.1
  have hq:sortWorldK tbE 6 w g 0 q d' os=sortWorldK tbE 6 w g 0 q d'.toList.toArray os:=by simp
  refine⟨rfl,d'.toList.map (·.1),?_,sortedIn_whole (d:=d.toArray) (by simpa using hsz) (by simpa using hs),?_,Sk.grownBy_sortK tbE 6 _⟩
  ·have:=permIn_whole (d:=d.toArray) (by simpa using hp)
   exact this.map _
  ·rw[hq,←fm_tb]
   exact Sk.owns_sortK tbE 6 tbE_len (m:=d.length) (ts:=d'.toList) (by simpa using hsz) hbase hg r1 r2 r3
open Go.Maps
open Pl
theorem eC1:∀args w,(callFunc 132 args).run Tryz.prog w= .ok (.enter 132 args) w:=enters_of Tryz.func132 (by kernel_rfl) rfl
def inB(old:List Spt)(c:TCl):Bool:=decide (place c∈old)
theorem chg1_any(x:TCl)(A:Option Addr)(n c:Nat)(old:List Spt)(B1:Nat)(w:World)(h:SptS w A n old)(h1:Box w B1 #[.slice A n c]):
 Calls Tryz.prog 132 (#[.agg #[.int .i64 x.slot,.int .i64 x.off,.int .i64 x.kind,.bool x.send,.int .i64 x.peer,.int .i64 x.flow]]++ #[.pointer (some ⟨B1,0,none⟩)]) w fun e w'=>e= .returned (.bool (inB old x))∧Below w.heap.size w w':=by
 show Calls Tryz.prog 132 #[.agg #[.int .i64 x.slot,.int .i64 x.off,.int .i64 x.kind,.bool x.send,.int .i64 x.peer,.int .i64 x.flow],.pointer (some ⟨B1,0,none⟩)] w _
 have I:=Zh (Mem.start w)
 have cP:=fun W=>place_any x W
 have cC:=fun W (hb:Below w.heap.size w W)=>containsS_any A n c old (place x) W (h.keep hb)
 have uT:=Tryz.underlying85
 have uL:=Tryz.underlying28
 unfold inB
 generalize decide (place x∈old)=R at*
 generalize place x=p at*
 obtain⟨p0,p1⟩:=p
 obtain⟨x0,x1,x2,x3,x4,x5⟩:=x
 dsimp only[sptA]at*
 refine zh6 ?_ h h1 cC cP uT uL;clear h h1 cC cP uT uL;intro h h1 cC cP uT uL
 go_enter Tryz.func132,Tryz.ntmps132
 go_upto_region 1 with(refine bA I 85 ?_;clear I;intro gx w1 I hG;clear hG)
 have HMd:=Zh I.drew
 clear I
 have I:=HMd
 clear HMd
 have HMs:=Zh I.out
 refine wp_region_plan (fun w'=>Mem _ w' _) 3 [(0,true),(1,true),(2,false)] (by kernel_rfl) (by kernel_rfl) HMs.out ?_
 refine plTakeL (by rfl) (yields_cell rfl _ _ rfl ⟨B1,0,none⟩ rfl (.slice A n c) (fun w_ hSw=>by exact(h1.keep hSw.below).at_ 0) _ uL.out (by rfl)) ?_
 try go_frame
 refine plTakeL (by rfl) (yw 0 uT.out) ?_
 try go_frame
 refine plStepL rfl rfl fun K hK=> ?_
 go_wp2_with(first|(go_at_call 116;refine(cP _).mono ?_;rintro r w3 ⟨rfl,p_⟩)|fail)
 refine hK _ _ (HMs.keep p_) fun hS_=> ?_
 clear hK K hS_
 try go_frame
 replace I:=Zm I p_
 replace HMs:=Zh (HMs.keep p_)
 clear p_
 refine plDone ?_
 simp only[List.drop]
 go_wp2_with fail
 refine(cC _ I.below).mono ?_
 rintro r w5 ⟨rfl,p_⟩
 have hB:=Zh (bthen I.below p_)
 clear p_
 go_wp2
 go_ret
 exact⟨rfl,hB.out⟩
def ChgPost(e:Ed)(v:EdV)(L:List TCl)(w:World)(r:Ending)(w':World):Prop:=∃A n c,r= .returned (.agg (endA { e with cells:=L} { v with cA:=A,cn:=n,cc:=c}))∧L.length=n∧w'.ownsRow w.heap.size 85 6 (.slice A n c) n (L.flatMap tclE)∧Below w.heap.size w w'
def chgU(e:Ed)(old spots:List Spt)(send:Bool)(k:Nat):List TCl:=keptN e old++newsN e (spots.take k) send
theorem chgU_succ {e:Ed} {old spots:List Spt} {send:Bool} {k:Nat}(h:k<spots.length):chgU e old spots send (k+1)=chgU e old spots send k++ [newC e send (spots.getD k default)]:=by
 unfold chgU newsN
 rw[take_snoc h,List.map_append,List.append_assoc];rfl
theorem chgU_len(e:Ed)(old spots:List Spt)(send:Bool)(k:Nat):(chgU e old spots send k).length≤e.cells.length+k:=by
 unfold chgU newsN keptN
 rw[List.length_append,List.length_map]
 have h1:=List.length_filter_le (fun c=> !decide (place c∈old)) e.cells
 have h2:=List.length_take_le k spots
 omega
theorem chgU_all {e:Ed} {old spots:List Spt} {send:Bool} {k:Nat}(h:spots.length≤k):chgU e old spots send k=keptN e old++newsN e spots send:=by
 unfold chgU;rw[List.take_of_length_le h]
theorem change_any(e:Ed)(v:EdV)(old spots:List Spt)(A B:Option Addr)(n c m d:Nat)(send:Bool)(w:World)(h:EdIs w v e)(ho:SptS w A n old)(hs:SptS w B m spots)(hcn:v.cn≤100000)(hm:m≤100000)(hok:ChgOk e old spots)(hbd:∀x∈keptN e old++newsN e spots send,0≤x.slot∧x.slot≤511):Calls Tryz.prog 73 #[.agg (Ke e v),.slice A n c,.slice B m d,.bool send] w (ChgPost e v (chgN e old spots send) w):=by
 have I:=Zh (Mem.start w)
 have cC:=fun W (hb:Below w.heap.size w W)=>cloneT_any v.cA v.cn v.cc e.cells W (h.cells.keep hb) hcn
 have cD:=fun W (hb:Below w.heap.size w W) BO (hB:Blk W BO #[.slice A n c] 28) A1 c1 (hO:W.ownsRow w.heap.size 85 6 (.slice A1 v.cn c1) v.cn (e.cells.flatMap tclE))=>delFnT_any 132 #[.pointer (some ⟨BO,0,none⟩)] (inB old) A1 v.cn c1 w.heap.size e.cells W eC1 hO (by omega) (fun x _ W2 hg=>chg1_any x A n c old BO W2 (ho.keep (Below.grownM hb hg hb.size (fun k hk=>(hO.lt k hk).1))) (hB.grown hg (row_ne_blk hO hB (by decide))).box)
 have cS:=fun W ys (hp:∀x∈ys,0≤x.slot∧x.slot≤511) A1 n1 c1 (hO:W.ownsRow w.heap.size 85 6 (.slice A1 n1 c1) n1 (ys.flatMap tclE)) (hl:n1≤1000000)=>sortT_any ys hp A1 n1 c1 w.heap.size W hO hl
 have hK:(e.cells.filter fun x=> !inB old x)=chgU e old spots send 0:=by unfold chgU keptN newsN inB;simp
 have hsucc:=fun k (hk:k<m)=>chgU_succ (e:=e) (old:=old) (spots:=spots) (send:=send) (k:=k) (by rw[hs.len];exact hk)
 have hul:=fun k=>chgU_len e old spots send k
 have hall:=chgU_all (e:=e) (old:=old) (send:=send) (k:=m) (Nat.le_of_eq hs.len)
 have hst:=fun(l:List TCl) hp hso=>chg_sorted (send:=send) hok (l:=l) hp hso
 have hlc:=h.cells.len
 unfold newC at hsucc
 generalize hP:ChgPost e v (chgN e old spots send) w=P
 have hPo:∀w' A2 n2 c2,∀L:List TCl,L=chgN e old spots send→L.length=n2→w'.ownsRow w.heap.size 85 6 (.slice A2 n2 c2) n2 (L.flatMap tclE)→Below w.heap.size w w'→P (.returned (.agg (endA { e with cells:=chgN e old spots send} { v with cA:=A2,cn:=n2,cc:=c2}))) w':=fun w' A2 n2 c2 L e1 e2 e3 e4=>by rw[←hP];subst e1;exact⟨A2,n2,c2,rfl,e2,e3,e4⟩
 clear hP
 generalize chgN e old spots send=CN at*
 generalize chgU e old spots send=U at*
 generalize keptN e old++newsN e spots send=UA at*
 have uE:=Tryz.underlying32
 refine zh12 ?_ h ho hs cC cD cS hK hsucc hul hall hst hPo;clear h ho hs cC cD cS hK hsucc hul hall hst hPo;intro h ho hs cC cD cS hK hsucc hul hall hst hPo
 refine zh3 ?_ hbd uE hlc;clear hbd uE hlc;intro hbd uE hlc
 clear hok
 go_enter Tryz.func73,Tryz.ntmps73
 go_upto_region 1 with(first|(refine bA I 32 ?_;clear I;intro ge w1 I hG;clear hG)|(refine wpList_boxM I rfl 28 _ rfl (.slice A n c) rfl ?_;clear I;intro go w1 I hG;clear hG;simp only[Value.cells]at I)|(refine wpList_allocA I rfl 32 rfl (by first|exact msgInfo|exact edInfo|exact tabInfo|exact info_tcl|exact info_spt) ?_;clear I;intro g8 w1 I hG;clear hG))
 have ke:=I.cell 2 rfl
 go_upto_region 2 with(first
  |(refine sN 2 I ?_;clear I ke;intro w4 I hG4;simp only[List.set]at I;have ke:=I.cell 2 rfl)
  |(go_at_call 77;refine(cC _ I.below).mono ?_;rintro r w3 ⟨A1,c1,rfl,hO1,p_⟩;replace hO1:=Zh (own_base hO1 I.below.size);have HM2:=Zm I p_;clear I p_ ke cC;have I:=HM2;clear HM2;have ke:=I.cell 2 rfl)
  |(go_at_call 131;refine(cD _ I.below _ (I.at_ 1 rfl) A1 c1 hO1.out).mono ?_;rintro r w3 ⟨n1,rfl,hn1,hO2,hg⟩;replace hn1:=Zh hn1;have HM2:=Zh (I.row hO1.out hg (Nat.le_refl _) (apart_of (by rfl)));clear I ke cD;have I:=HM2;clear HM2;have ke:=I.cell 2 rfl;have hBq:=Zh (I.at_ 2 rfl))
  |fail)
 have hO3:=Zh (hO2.kept hG4.out (.inr (row_ne_blk hO2 hBq.out (by decide))))
 clear hG4 hBq hO1 hO2 hg
 rw[hK.out]at hO3 hn1
 clear hK
 have hHL:Hid ((U 0).length=n1):=hn1.symm
 clear hn1
 go_wp2_with fail
 go_loopw[10,19] (fun _ i wr=>Hid (∃(k n2:Nat) (A2:Option Addr) (c2:Nat),k≤m∧i= .int .i64 k∧Hid ((U k).length=n2)∧Hid (wr.ownsRow w.heap.size 85 6 (.slice A2 n2 c2) n2 ((U k).flatMap tclE))∧Hid (Mem w wr [(g8,(Kz 28),32),(go,#[.slice A n c],28),(ge,#[.int .i64 e.node,.int .i64 e.peer,.int .i64 e.number,.slice A2 n2 c2,.bool e.opn,.int .i64 e.since,.int .i64 e.asked.kind,.bool e.asked.reply,.int .i64 e.asked.number,.int .i64 e.asked.code,.int .i64 e.asked.count,.slice v.a.sA v.a.sn v.a.sc,.slice v.a.oA v.a.on v.a.oc,.bool e.known,.int .i64 e.last.kind,.bool e.last.reply,.int .i64 e.last.number,.int .i64 e.last.code,.int .i64 e.last.count,.slice v.l.sA v.l.sn v.l.sc,.slice v.l.oA v.l.on v.l.oc,.int .i64 e.reply.kind,.bool e.reply.reply,.int .i64 e.reply.number,.int .i64 e.reply.code,.int .i64 e.reply.count,.slice v.r.sA v.r.sn v.r.sc,.slice v.r.oA v.r.on v.r.oc],32)]))) (fun _ i _=>m-(intOf i).toNat)
 case atStart=>exact Zh ⟨0,n1,A1,c1,by omega,rfl,hHL,hO3,I⟩
 case round=>
  clear I ke hO3 hHL
  obtain⟨k,n2,A2,c2,hk,rfl,HL,HO,I⟩:=hrel.out
  clear hrel
  have ke:=I.cell 2 rfl
  have hlen2:=hul.out k
  rw[HL.out,hlc.out]at hlen2
  by_cases hlt2:k<m
  ·obtain⟨b,off,rfl⟩:=hs.addr (by omega)
   have hx:=spt_at (hs.keep I.below) hlt2
   have hst2:=hsucc.out k hlt2
   generalize spots.getD k default=x at*
   obtain⟨x0,x1⟩:=x
   obtain⟨q0,q1⟩:=hx
   dsimp only at q0 q1 hst2
   have r1:(k:Int)<(m:Int):=by omega
   replace hst2:=Zh hst2
   go_upto_region 5 with(first|(refine aN I info_spt ?_;clear I ke;intro gs w1 I hG hN9;have ke:=I.cell 3 rfl)|(refine sF 0 I ?_;clear I ke;intro w4 I hG4;simp only[List.set]at I;have ke:=I.cell 3 rfl))
   have p_:=hG.grown hG4.out hG.size (fun k e=>by cases e;exact hN9.out)
   replace HO:=Zh (owns_keep HO.out p_)
   clear q0 q1 hG hG4 hN9 p_
   have kc:=I.cell 0 rfl
   have hmm:n2≤200000:=by omega
   go_wp2_with(first
    |(refine sN 3 I ?_;clear I ke kc;intro w4 I hG4;simp only[List.set]at I;have ke:=I.cell 3 rfl;have kc:=I.cell 0 rfl)
    |(at_builtin;refine wpList_append_sls eltT _ rfl _ _ rfl w.heap.size (.slice A2 n2 c2) (U k) rfl (by rw[HL.out];exact HO.alloc _) _ 1 1 [⟨x0,x1,2,send,e.peer,-1⟩] rfl (Sls.one (Blk.new _ _ _)) (by rw[HL.out];simp;omega) (by first|exact(ballN I.below _).size|(have:=I.below.size;simp;omega)) ?_;intro v1 w6 HO1 HG1 _;rw[List.length_append,HL.out,List.length_singleton]at HO1;obtain⟨A3,c3,rfl⟩:=own_slice HO1;replace HO1:=Zh HO1;have HM2:=Zh ((I.keep (ball _ _)).row (HO.alloc _) HG1 (Nat.le_refl _) (apart_of (by rfl)));clear I ke kc HG1;have I:=HM2;clear HM2;have ke:=I.cell 3 rfl;have kc:=I.cell 0 rfl;have hBq:=Zh (I.at_ 3 rfl))
    |fail)
   have hO4:=Zh (HO1.kept hG4.out (.inr (row_ne_blk HO1.out hBq.out (by decide))))
   have hL4:=congrArg List.length hst2.out
   rw[←hst2.out]at hO4
   rw[List.length_append,HL.out,List.length_singleton]at hL4
   have HM2:=Zh I.tail
   replace hL4:=Zh hL4
   exact⟨Zh ⟨k+1,n2+1,A3,c3,by omega,by go_num,hL4,hO4,HM2⟩,by simp[intOf];omega⟩
  ·have hkm:k=m:=by omega
   subst hkm
   have hA:=hall.out
   rw[hA]at HL HO
   have cS2:=Zh (cS wr UA hbd.out A2 n2 c2 HO.out (by omega))
   go_wp2_with(first
    |(go_at_call 134;refine cS2.mono ?_;rintro r w5 ⟨rfl,ys,hp,hso,hOy,hg⟩;have HM2:=Zh (I.row HO.out hg (Nat.le_refl _) (apart_of (by rfl)));clear I ke cS2;have I:=HM2;clear HM2;have ke:=I.cell 2 rfl;replace hOy:=Zh hOy;have hBq:=Zh (I.at_ 0 rfl))
    |(refine lM 2 I uE.out ?_)
    |(refine sF 0 I ?_;clear I ke;intro w4 I hG4;simp only[List.set]at I;have ke:=I.cell 2 rfl)
    |fail)
   try simp only[Exit.inBlock,Exit.then]
   refine rC I 0 uE.out ?_
   have hyl:ys.length=n2:=hp.length_eq.trans HL.out
   exact hPo.out _ A2 n2 c2 ys (hst ys hp hso) hyl (hOy.kept hG4.out (.inr (row_ne_blk hOy.out hBq.out (by decide)))) I.below
end Tx
end Go.Proofs.YtfamifgchgolpaaGreat
