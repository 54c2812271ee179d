/- cellmsg: Encode. -/
import Derived.Test.YtfamifgchgolpaaGreatWe
set_option linter.unusedVariables false
set_option linter.unusedSimpArgs false
set_option maxRecDepth 100000
set_option maxHeartbeats 4000000
namespace Go.Proofs.YtfamifgchgolpaaGreat
open Go Go.RowKit Go.Sort Go.Shelf Go.Maps
namespace Cp
open Mm Sw Tx
def headB(m:Msg):List Bool:=bitsOf 3 m.kind.toNat++ [m.reply]++bitsOf 8 m.number.toNat++bitsOf 2 m.code.toNat++bitsOf 10 m.count.toNat
def msgB(m:Msg):List Bool:=headB m++sptsB m.spots++sptsB m.old
theorem WrIs.base {w:World} {base B:Nat} {D:Nat→Prop} {bs:List Bool}(h:WrIs w base B D bs):B<w.heap.size:=by obtain⟨v,hV⟩:=h;exact hV.blk.lt
theorem WrIs.out {w w':World} {base B:Nat} {D:Nat→Prop} {bs:List Bool}(h:WrIs w base B D bs)(hb:Below w.heap.size w w')(g:Nat)(hg:w.heap.size≤g):WrIs w' base B (fun k=>D k∨k=g) bs:=by
 obtain⟨v,hV⟩:=h
 exact⟨v,hV.blk.keep hb,owns_keep hV.own hb,hV.lt,fun q e hd=>by
  rcases hd with hd|hd
  ·exact hV.far q e hd
  ·have:=(hV.own.lt q e).2;omega⟩
theorem WrIs.less {w:World} {base B:Nat} {D D':Nat→Prop} {bs:List Bool}(h:WrIs w base B D bs)(hD:∀k,D' k→D k):WrIs w base B D' bs:=by
 obtain⟨v,hV⟩:=h
 exact⟨v,hV.blk,hV.own,hV.lt,fun q e hd=>hV.far q e (hD q hd)⟩
theorem headB_len(m:Msg):(headB m).length=24:=by unfold headB;simp only[List.length_append,bitsOf_length,List.length_singleton]
theorem sptsB_len(l:List Spt):(sptsB l).length=4+13*l.length:=by
 unfold sptsB
 rw[List.length_append,bitsOf_length]
 congr 1
 induction l with
 |nil=>rfl
 |cons x l ih=>rw[List.flatMap_cons,List.length_append,sptB_len,ih,List.length_cons];omega
def outB(m:Msg):Nat→List Bool
 |0=>headB m
 |1=>headB m++sptsB m.spots
 |_=>msgB m
theorem encLists {m:Msg} {v:MsgV} {w:World}(h:MsgIs w v m)(h1:m.spots.length≤8)(h2:m.old.length≤8)(h3:∀s∈m.spots,SptOk s)(h4:∀s∈m.old,SptOk s):∀j,j<2→∃A n c l,#[Value.slice v.sA v.sn v.sc,.slice v.oA v.on v.oc][j]? =some (.slice A n c)∧SptS w A n l∧l.length≤8∧(∀p∈l,SptR p)∧outB m (j+1)=outB m j++sptsB l∧(outB m j).length≤132
 |0,_=>⟨_,_,_,m.spots,rfl,h.spots,h1,fun p hp=>by have:=h3 p hp;exact⟨this.slot0,this.slot,this.off0,this.off⟩,rfl,by show(headB m).length≤_;rw[headB_len];omega⟩
 |1,_=>⟨_,_,_,m.old,rfl,h.old,h2,fun p hp=>by have:=h4 p hp;exact⟨this.slot0,this.slot,this.off0,this.off⟩,rfl,by show(headB m++sptsB m.spots).length≤_;rw[List.length_append,headB_len,sptsB_len];omega⟩
def sptsK(l:List Spt)(k:Nat):List Bool:=bitsOf 4 l.length++(l.take k).flatMap sptB
theorem sptsK_succ {l:List Spt} {k:Nat}(hk:k<l.length):sptsK l (k+1)=sptsK l k++bitsOf 9 (l.getD k default).slot.toNat++bitsOf 4 (l.getD k default).off.toNat:=by
 unfold sptsK
 rw[take_snoc hk,List.flatMap_append,List.flatMap_singleton]
 unfold sptB
 simp only[List.append_assoc]
theorem sptsK_len {l:List Spt} {k:Nat}(hk:k≤l.length):(sptsK l k).length=4+13*k:=by
 have h:=sptsB_len (l.take k)
 unfold sptsB at h
 unfold sptsK
 rw[List.length_append,bitsOf_length]at h ⊢
 rw[List.length_take,Nat.min_eq_left hk]at h
 exact h
theorem toNat_lt2 {n:Int} {k:Nat}(h0:0≤n)(hn:n<2 ^ k):n.toNat<2 ^ k:=by
 have h:((n.toNat:Nat):Int)<((2 ^ k:Nat):Int):=by rw[Int.toNat_of_nonneg h0];exact_mod_cast hn
 exact Int.ofNat_lt.1 h
theorem unsI_any(k:Nat)(n:Int)(B:Nat)(D:Nat→Prop)(bs:List Bool)(W:World)(h1:1≤k)(h2:k≤63)(h0:0≤n)(hn:n<2 ^ k)(hW:WrIs W (B+1) B D bs)(hD:∀k,D k→k<W.heap.size)(hl:bs.length+k≤524288):Calls Tryz.prog 49 #[.pointer (some ⟨B,0,none⟩),.int .i64 k,.int .i64 n] W (WrPost (B+1) B D (bs++bitsOf k n.toNat) W):=by
 have:=unsigned_any k n.toNat (B+1) B D bs W h1 h2 (toNat_lt2 h0 hn) hW (by have:=hW.base;omega) hD hl
 rwa[Int.toNat_of_nonneg h0]at this
theorem encode_any(m:Msg)(v:MsgV)(w:World)(h:MsgIs w v m)(hk:chkM m=0):
 Calls Tryz.prog 12 #[.agg (Km m v)] w fun e w'=>e= .returned (.tuple #[.string (strOf (pack (msgB m))),.int .i64 0])∧Below w.heap.size w w':=by
 have I:=Zh (Mem.start w)
 have hO:=(chkM_iff m).1 hk
 have uM:=Tryz.underlying30
 have cK:Hid (∀W,Below w.heap.size w W→Calls Tryz.prog 47 #[.agg (Km m v)] W fun e w'=>e= .returned (.int .i64 0)∧Below W.heap.size W w'):=fun W hb=>by have:=chkM_any m v W (h.keep hb);rwa[hk]at this
 have cU:=Zh @unsI_any
 refine zh4 ?_ h hO uM hk;clear h hO uM hk;intro h hO uM hk
 go_enter Tryz.func12,Tryz.ntmps12
 go_upto_region 1 with fail
 have HM1:=Zh (I.alloc (Km m v) 30)
 clear I
 generalize w.alloc (.cells (Km m v) 30)=w1 at*
 generalize w.heap.size=g at HM1 ⊢
 have I:=HM1
 clear HM1
 go_upto_region 4 with(first
  |(refine lG 0 I uM.out ?_)
  |(go_at_call 47;refine(cK _ I.below).mono ?_;rintro r w3 ⟨rfl,p_⟩;replace I:=Zm I p_;clear p_)
  |fail)
 have hm3:=h.keep I.below
 clear cK
 go_wp2_with fail
 refine(newWriter_any w3).mono ?_
 rintro e w4 ⟨rfl,rfl⟩
 have hW:Hid (WrIs _ (w3.heap.size+1) w3.heap.size (fun _=>False) []):=⟨_,WrV.new w3 _⟩
 have HB:Hid (Below w3.heap.size w3 (w3.alloc _)):=ball _ (.cells #[.slice none 0 0,.int .i64 0,.int .i64 0] 164)
 have hD:Hid (∀k,(fun _:Nat=>False) k→k<(w3.alloc (.cells #[.slice none 0 0,.int .i64 0,.int .i64 0] 164)).heap.size):=fun k hd=>hd.elim
 generalize w3.alloc (.cells #[.slice none 0 0,.int .i64 0,.int .i64 0] 164)=w4 at*
 generalize hBz:w3.heap.size=B at*
 have ka:=(I.keep (hBz▸HB.out)).cell 0 rfl
 generalize(fun _:Nat=>False)=D at*
 obtain⟨a1,a2,a3,a4,a5,a6,a7,a8,a9,a10,_,a12,_,a14,_⟩:=hO.out
 replace hm3:=Zh hm3
 replace hBz:=Zh hBz
 go_wp2_with fail
 refine(cU 3 _ _ _ _ _ (by omega) (by omega) (by omega) (by omega) hW.out hD.out (by simp only[List.length_append,bitsOf_length,List.length_singleton,List.length_nil];omega)).mono ?_
 rintro e w5 ⟨rfl,hA,hW2⟩
 replace HB:=Zh (HB.trans (hA.below (Nat.le_refl _) (Nat.le_succ _)))
 replace hD:=Zh (fun k hd=>Nat.lt_of_lt_of_le (hD k hd) hA.size)
 clear hA hW ka
 have hW:=Zh hW2
 clear hW2
 have ka:=(I.keep (hBz.out▸HB.out)).cell 0 rfl
 go_wp2_with fail
 refine(flag_any _ _ _ _ _ _ hW.out (by have:=hW.base;omega) hD.out (by simp only[List.length_append,bitsOf_length,List.length_singleton,List.length_nil];omega)).mono ?_
 rintro e w6 ⟨rfl,hA,hW2⟩
 replace HB:=Zh (HB.trans (hA.below (Nat.le_refl _) (Nat.le_succ _)))
 replace hD:=Zh (fun k hd=>Nat.lt_of_lt_of_le (hD k hd) hA.size)
 clear hA hW ka
 have hW:=Zh hW2
 clear hW2
 have ka:=(I.keep (hBz.out▸HB.out)).cell 0 rfl
 go_wp2_with fail
 refine(cU 8 _ _ _ _ _ (by omega) (by omega) (by omega) (by omega) hW.out hD.out (by simp only[List.length_append,bitsOf_length,List.length_singleton,List.length_nil];omega)).mono ?_
 rintro e w7 ⟨rfl,hA,hW2⟩
 replace HB:=Zh (HB.trans (hA.below (Nat.le_refl _) (Nat.le_succ _)))
 replace hD:=Zh (fun k hd=>Nat.lt_of_lt_of_le (hD k hd) hA.size)
 clear hA hW ka
 have hW:=Zh hW2
 clear hW2
 have ka:=(I.keep (hBz.out▸HB.out)).cell 0 rfl
 go_wp2_with fail
 refine(cU 2 _ _ _ _ _ (by omega) (by omega) (by omega) (by omega) hW.out hD.out (by simp only[List.length_append,bitsOf_length,List.length_singleton,List.length_nil];omega)).mono ?_
 rintro e w8 ⟨rfl,hA,hW2⟩
 replace HB:=Zh (HB.trans (hA.below (Nat.le_refl _) (Nat.le_succ _)))
 replace hD:=Zh (fun k hd=>Nat.lt_of_lt_of_le (hD k hd) hA.size)
 clear hA hW ka
 have hW:=Zh hW2
 clear hW2
 have ka:=(I.keep (hBz.out▸HB.out)).cell 0 rfl
 go_wp2_with fail
 refine(cU 10 _ _ _ _ _ (by omega) (by omega) (by omega) (by omega) hW.out hD.out (by simp only[List.length_append,bitsOf_length,List.length_singleton,List.length_nil];omega)).mono ?_
 rintro e w9 ⟨rfl,hA,hW2⟩
 replace HB:=Zh (HB.trans (hA.below (Nat.le_refl _) (Nat.le_succ _)))
 replace hD:=Zh (fun k hd=>Nat.lt_of_lt_of_le (hD k hd) hA.size)
 clear hA hW ka
 have hW:=Zh hW2
 clear hW2
 have ka:=(I.keep (hBz.out▸HB.out)).cell 0 rfl
 replace hW:Hid (WrIs w9 (B+1) B D (headB m)):=hW
 have hE0:=Zh (Blk.new w9 #[.slice v.sA v.sn v.sc,.slice v.oA v.on v.oc] 28)
 have hW1:=Zh (hW.alloc (.cells #[.slice v.sA v.sn v.sc,.slice v.oA v.on v.oc] 28))
 have hB1:=Zh (HB.trans ((ball w9 (.cells #[.slice v.sA v.sn v.sc,.slice v.oA v.on v.oc] 28)).mono (Nat.le_of_lt hW.base)))
 have hE1:Hid (∀k,(fun k=>D k∨k=w9.heap.size) k→k<(w9.alloc (.cells #[.slice v.sA v.sn v.sc,.slice v.oA v.on v.oc] 28)).heap.size):=fun k hd=>by
  rw[size1]
  rcases hd with hd|hd
  ·have:=hD.out k hd;omega
  ·omega
 have hlt0:Hid (B<w9.heap.size):=hW.base
 have hlt0':=hlt0
 go_upto_block 0 with fail
 clear hW HB hD
 generalize w9.alloc (.cells #[.slice v.sA v.sn v.sc,.slice v.oA v.on v.oc] 28)=w10 at*
 generalize w9.heap.size=E at*
 replace hE1:Hid (∀k,(fun k=>D k∨k=E) k→k<w10.heap.size):=hE1
 generalize hD1:(fun k=>D k∨k=E)=D1 at*
 have hDE:D1 E:=by rw[←hD1];exact .inr rfl
 clear hD1
 clear ka hlt0
 replace hW1:Hid (WrIs w10 (B+1) B D1 (outB m 0)):=hW1
 have hls:=Zh (encLists hm3.out a9 a10 a12 a14)
 have hEB:Hid (E≠B):=by have:=hlt0'.out;exact Nat.ne_of_gt this
 replace hDE:=Zh hDE
 go_wp2_with fail
 go_loopw[42] (fun i wr=>Hid (∃j:Nat,j≤2∧i= .int .i64 j∧Hid (WrIs wr (B+1) B D1 (outB m j))∧Hid (Below B w3 wr)∧Hid (Blk wr E #[.slice v.sA v.sn v.sc,.slice v.oA v.on v.oc] 28)∧Hid (∀k,D1 k→k<wr.heap.size))) (fun i _=>2-(intOf i).toNat)
 case atStart=>exact Zh ⟨0,by omega,rfl,hW1,hB1,hE0,hE1⟩
 case round=>
  clear hW1 hB1 hE0 hE1
  obtain⟨j,hj,rfl,hW,HB,hE,hD⟩:=hrel.out
  clear hrel
  by_cases hlt2:j<2
  ·obtain⟨A,n,c,l,hc,hS,hl8,hlR,hsucc,hlen⟩:=hls.out j hlt2
   have kc:=(hE.cell j).trans hc
   have r1:(j:Int)<2:=by omega
   have hn:=hS.len
   have hn8:n≤8:=by omega
   refine zh5 ?_ hc hS hlR hsucc hlen;clear hc hS hlR hsucc hlen;intro hc hS hlR hsucc hlen
   go_wp2_with fail
   refine(cU 4 (n:Int) _ _ _ _ (by omega) (by omega) (by omega) (by omega) hW.out hD.out (by have:=hlen.out;omega)).mono ?_
   rintro e wA ⟨rfl,hA,hW2⟩
   replace HB:=Zh (HB.trans (hA.below (Nat.le_refl _) (Nat.le_succ _)))
   replace hD:=Zh (fun k hd=>Nat.lt_of_lt_of_le (hD k hd) hA.size)
   replace hE:=Zh (hA.blk hE.out (.inr hDE.out) hEB.out)
   clear hA hW kc
   have hW0:Hid (WrIs wA (B+1) B D1 (outB m j++sptsK l 0)):=by
    have e:outB m j++sptsK l 0=outB m j++bitsOf 4 ((n:Int)).toNat:=by unfold sptsK;rw[List.take_zero,List.flatMap_nil,List.append_nil,hn];rfl
    show WrIs _ _ _ _ _
    rw[e];exact hW2
   clear hW2
   have hlk:=Zh (fun k (hk:k<n)=>sptsK_succ (l:=l) (k:=k) (by omega))
   have hkl:=Zh (fun k (hk:k≤n)=>sptsK_len (l:=l) (k:=k) (by omega))
   have hR:=Zh (fun k (hk:k<n)=>ok_at hlR.out (show k<l.length by omega))
   have hn2:Hid (sptsB l=sptsK l n):=by show _= _;unfold sptsK sptsB;rw[←hn,List.take_length]
   go_wp2_with fail
   go_loopw[52] (fun i wr=>Hid (∃k:Nat,k≤n∧i= .int .i64 k∧Hid (WrIs wr (B+1) B D1 (outB m j++sptsK l k))∧Hid (Below B w3 wr)∧Hid (Blk wr E #[.slice v.sA v.sn v.sc,.slice v.oA v.on v.oc] 28)∧Hid (∀k,D1 k→k<wr.heap.size))) (fun i _=>n-(intOf i).toNat)
   case atStart=>exact Zh ⟨0,by omega,rfl,hW0,HB,hE,hD⟩
   case round=>
    clear hW0 HB hE hD
    obtain⟨k,hk,rfl,hW,HB,hE,hD⟩:=hrel.out
    clear hrel
    by_cases hlt3:k<n
    ·obtain⟨b,off,rfl⟩:=hS.addr (show 0<n by omega)
     have hx:=spt_at (hS.keep (hBz.out▸HB.out)) hlt3
     have hst:=hlk.out k hlt3
     have hln:=hkl.out k (by omega)
     obtain⟨s0,s1,o0,o1⟩:=hR.out k hlt3
     generalize l.getD k default=y at*
     obtain⟨x0,x1⟩:=y
     obtain⟨q0,q1⟩:=hx
     dsimp only at*
     have r3:(k:Int)<(n:Int):=by omega
     have HMs:=Zh (Mem.start wr)
     have hBw:=hW.base
     replace hst:=Zh hst
     replace hln:=Zh hln
     go_upto_region 17 with(first
      |(refine wpList_allocN HMs rfl 97 rfl info_spt ?_;clear HMs;intro gs w1 HMs hG hN9)
      |(refine wpList_storeF 0 HMs rfl _ _ _ rfl _ rfl rfl _ rfl (by exact zspt) (by rfl) (by rfl) ?_;clear HMs;intro wB HMs hG4;simp only[List.set]at HMs)
      |fail)
     have hbB:=HMs.below
     replace hW:=Zh (hW.out.out hbB gs hN9.out)
     have hgB:gs≠B:=by have h2:=hN9.out;omega
     replace HB:=Zh (HB.trans (hbB.mono (Nat.le_of_lt hBw)))
     replace hE:=Zh (hE.keep hbB)
     have hs0:=Zh (HMs.at_ 0 rfl)
     have hD2:Hid (∀k,(fun k=>D1 k∨k=gs) k→k<wB.heap.size):=fun k hd=>by
      have h1:=hbB.size
      rcases hd with hd|hd
      ·have:=hD.out k hd;omega
      ·have:=hs0.lt;omega
     have hDg:Hid ((fun k=>D1 k∨k=gs) gs):= .inr rfl
     have hDE2:Hid ((fun k=>D1 k∨k=gs) E):= .inl hDE.out
     have hDl:Hid (∀k,D1 k→(fun k=>D1 k∨k=gs) k):=fun k hd=> .inl hd
     clear hD HMs hG hN9 hG4 hbB q0 q1 hBw
     generalize(fun k=>D1 k∨k=gs)=D2 at*
     have k0:=hs0.cell 0
     have k1:=hs0.cell 1
     go_wp2_with fail
     refine(cU 9 _ _ _ _ _ (by omega) (by omega) s0 s1 hW.out hD2.out (by have:=hln.out;have:=hlen.out;simp only[List.length_append];omega)).mono ?_
     rintro e wC ⟨rfl,hA,hW2⟩
     replace HB:=Zh (HB.trans (hA.below (Nat.le_refl _) (Nat.le_succ _)))
     replace hD2:=Zh (fun k hd=>Nat.lt_of_lt_of_le (hD2 k hd) hA.size)
     replace hE:=Zh (hA.blk hE.out (.inr hDE2.out) hEB.out)
     replace hs0:=Zh (hA.blk hs0.out (.inr hDg.out) hgB)
     clear hA hW k0 k1 s0 s1
     replace hW2:=Zh hW2
     have k1:=hs0.cell 1
     go_wp2_with fail
     refine(cU 4 _ _ _ _ _ (by omega) (by omega) o0 o1 hW2.out hD2.out (by have:=hln.out;have:=hlen.out;simp only[List.length_append,bitsOf_length];omega)).mono ?_
     rintro e wD ⟨rfl,hA,hW3⟩
     replace HB:=Zh (HB.trans (hA.below (Nat.le_refl _) (Nat.le_succ _)))
     replace hD2:=Zh (fun k hd=>Nat.lt_of_lt_of_le (hD2 k (hDl k hd)) hA.size)
     replace hE:=Zh (hA.blk hE.out (.inr hDE2.out) hEB.out)
     clear hA hW2 k1 o0 o1 hs0
     have hW4:Hid (WrIs wD (B+1) B D1 (outB m j++sptsK l (k+1))):=by
      show WrIs _ _ _ _ _
      rw[hst.out,←List.append_assoc,←List.append_assoc]
      exact hW3.less hDl.out
     clear hW3
     go_wp2_with fail
     exact⟨Zh ⟨k+1,by omega,by go_num,hW4,HB,hE,hD2⟩,by simp[intOf];omega⟩
    ·have hkn:k=n:=by omega
     subst hkn
     rw[←hn2.out,←hsucc.out]at hW
     go_wp2_with fail
     exact⟨Zh ⟨j+1,by omega,by go_num,hW,HB,hE,hD⟩,by simp[intOf];omega⟩
  ·have hj2:j=2:=by omega
   subst hj2
   go_wp2_with fail
   refine(wbytes_any _ _ _ _ _ hW.out).mono ?_
   rintro e wA ⟨rfl,rfl⟩
   go_wp2_with fail
   go_ret2
   exact⟨rfl,bthen I.below (hBz.out▸HB.out)⟩
end Cp
end Go.Proofs.YtfamifgchgolpaaGreat
