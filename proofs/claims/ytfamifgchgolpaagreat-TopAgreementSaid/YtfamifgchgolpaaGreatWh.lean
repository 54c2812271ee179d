/- The tables of the law: controlled. -/
import Derived.Test.YtfamifgchgolpaaGreatBo
set_option linter.unusedVariables false
set_option linter.unusedSimpArgs false
set_option maxRecDepth 100000
set_option maxHeartbeats 4000000
namespace Go.Proofs.YtfamifgchgolpaaGreat
open Go Go.RowKit Go.Sort Go.Shelf Go.Maps
namespace Tx
open Sw Mm
def ctlC(s:Int):TCl:=⟨s %12,0,1,decide (127<s),9,1⟩
def ctlStep(t:Tab)(s:Int):Tab:=if addC t (ctlC s)=0 then addN t (ctlC s)else t
def ctlN(node:Int)(l:List Int):Tab:=l.foldl ctlStep ⟨node,12,[]⟩
def u8E(x:Int):List Value:= [.int .u8 x]
theorem u8E_len(x:Int):(u8E x).length=1:=rfl
abbrev U8S:= @Sls Int _ u8E 1
theorem u8_at {w:World} {b off n:Nat} {xs:List Int}(h:U8S w (some ⟨b,off,none⟩) n xs) {i:Nat}(hi:i<n):w.cell? ⟨b,off+i,none⟩=some (.int .u8 (xs.getD i default)):=by
 have:=(h.cells hi).2 0 (by decide)
 rw[show off+i*1+0=off+i by omega]at this
 exact this
theorem ctl_succ {node:Int} {l:List Int} {k:Nat}(h:k<l.length):ctlN node (l.take (k+1))=ctlStep (ctlN node (l.take k)) (l.getD k default):=by
 unfold ctlN
 rw[take_snoc h,List.foldl_append]
 rfl
def CtlPost(node:Int)(l:List Int)(w:World)(r:Ending)(w':World):Prop:=∃v,r= .returned (.agg (tabA (ctlN node l) v))∧TabOwn w' v (ctlN node l)∧Below w.heap.size w w'
theorem controlled_any(node:Int)(A:Option Addr)(n c:Nat)(l:List Int)(w:World)(hl:U8S w A n l)(h8:∀s∈l,0≤s∧s≤255):Calls Tryz.prog 10 #[.int .i64 node,.slice A n c] w (CtlPost node l w):=by
 have I:=Zh (Mem.start w)
 have uT:=Tryz.underlying37
 have hlen:=hl.len
 have hsm:=hl.small
 unfold maxLen at hsm
 have cA:=fun t v c W (h:TabIs W v t)=>radd_own t v c W h
 have hP:∀w' v,TabOwn w' v (ctlN node l)→Below w.heap.size w w'→CtlPost node l w (.returned (.agg (tabA (ctlN node l) v))) w':=fun w' v h1 hb=>⟨v,rfl,h1,hb⟩
 have hsucc:=fun k (hk:k<n)=>ctl_succ (node:=node) (l:=l) (k:=k) (by omega)
 have hb8:=fun k (hk:k<n)=>h8 (l.getD k default) (getD_mem (by omega))
 generalize CtlPost node l w=P at*
 clear h8
 refine zh7 ?_ hl uT hlen cA hP hsucc hb8;clear hl uT hlen cA hP hsucc hb8;intro hl uT hlen cA hP hsucc hb8
 go_enter Tryz.func10,Tryz.ntmps10
 have mk1:Unit:=()
 have mk2:Unit:=()
 go_upto_region 2 with(first
  |(clear mk1;refine aN I tabInfo ?_;clear I;intro g4 w1 I hG hN9;clear hG hN9)
  |(clear mk2;refine aN I tabInfo ?_;clear I;intro g5 w1 I hG hN9;clear hG hN9)
  |(refine sF 0 I ?_;clear I;intro w4 I hG4;simp only[List.set]at I;clear hG4)
  |fail)
 go_wp2_with fail
 go_loopw[7,14] (fun s7 i wr=>Hid (∃(k:Nat) (T:Tab) (v:TabV),k≤n∧i= .int .i64 k∧Hid (T=ctlN node (l.take k))∧Hid (TabOwn wr v T)∧Hid (Mem w wr [(g5,(Kt T v),37),(g4,#[.int .i64 0,.int .i64 0,.slice none 0 0],37)]))) (fun _ i _=>n-(intOf i).toNat)
 case atStart=>exact Zh ⟨0,⟨node,12,[]⟩,⟨none,0,0⟩,by omega,rfl,rfl,⟨⟨0,World.ownsRow_nil _ _ _ _⟩,rfl⟩,I⟩
 case round=>
  clear I
  obtain⟨k,T,v,hk,rfl,hT,hO,I⟩:=hrel.out
  clear hrel
  by_cases hlt2:k<n
  ·obtain⟨b,off,rfl⟩:=hl.addr (by omega)
   have hx:=u8_at (hl.keep I.below) hlt2
   have hst:=hsucc.out k hlt2
   have h8:=hb8.out k hlt2
   rw[←hT.out]at hst
   generalize l.getD k default=s at*
   have r1:(k:Int)<(n:Int):=by omega
   have hw1:IntKind.i64.wrap s=s:=IntWalk.i64_in _ (by omega)
   have hm1:s.tmod 12=s %12:=by rw[Int.tmod_eq_emod_of_nonneg (by omega)]
   have hm2:IntKind.i64.wrap (s %12)=s %12:=IntWalk.i64_in _ (by omega)
   have hsp:Hid (ctlStep T s=if addC T (ctlC s)=0 then addN T (ctlC s)else T):=rfl
   have cA2:=Zh (fun W (h:TabIs W v T)=>cA.out T v (ctlC s) W h)
   change Hid (∀W,TabIs W v T→Calls Tryz.prog 41 #[.agg (Kt T v),.agg #[.int .i64 (s %12),.int .i64 0,.int .i64 1,.bool (decide (127<s)),.int .i64 9,.int .i64 1]] W (AddOwn T (ctlC s) W))at cA2
   unfold AddOwn at cA2
   generalize hAC:addC T (ctlC s)=AC at*
   generalize addN T (ctlC s)=TN at*
   replace hst:=Zh hst
   replace hAC:=Zh hAC
   clear h8
   go_upto_region 6 with(first
    |(refine lG 1 I uT.out ?_)
    |(refine lG 0 I uT.out ?_)
    |(go_at_call 41;refine(cA2 _ hO.is).mono ?_;rintro r w3 ⟨v2,rfl,hO2,p_⟩;dsimp only[tabA];clear hx;replace I:=Zm I p_;replace hO:=Zh (hO.keep p_);replace hO2:=Zh hO2;clear p_)
    |(refine aN I tabInfo ?_;clear I;intro g8 w1 I hG hN9;replace hO:=Zh (hO.keep hG.out);replace hO2:=Zh (hO2.keep hG.out);clear hG hN9)
    |(refine sF 0 I ?_;have hBq:=I.at_ 0 rfl;clear I;intro w4 I hG4;simp only[List.set]at I;replace hO:=Zh (hO.put hBq (by decide) hG4.out);replace hO2:=Zh (hO2.put hBq (by decide) hG4.out);clear hBq hG4)
    |fail)
   by_cases h0:AC=0
   ·subst h0
    have hT2:Hid (TN=ctlN node (l.take (k+1))):=by show _= _;rw[hst.out,hsp.out,if_pos rfl]
    go_wp2_with(first
     |(refine lG 0 I uT.out ?_)
     |(refine sF 1 I ?_;have hBq:=I.at_ 1 rfl;clear I;intro w4 I hG4;simp only[List.set]at I;replace hO2:=Zh (hO2.put hBq (by decide) hG4.out);clear hBq hG4)
     |fail)
    have HM2:=Zh I.tail
    exact⟨Zh ⟨k+1,TN,v2,by omega,by go_num,hT2,hO2,HM2⟩,by simp[intOf];omega⟩
   ·have d1:(AC==0)=false:=by rw[beq_eq_false_iff_ne];exact h0
    have hT2:Hid (T=ctlN node (l.take (k+1))):=by show _= _;rw[hst.out,hsp.out,if_neg h0]
    go_wp2_with fail
    have HM2:=Zh I.tail
    exact⟨Zh ⟨k+1,T,v,by omega,by go_num,hT2,hO,HM2⟩,by simp[intOf];omega⟩
  ·have hkn:l.take k=l:=List.take_of_length_le (by have:=hlen.out;omega)
   rw[hkn]at hT
   have hTe:=hT.out
   subst hTe
   go_wp2_with(first
    |(refine lG 0 I uT.out ?_)
    |(refine sF 1 I ?_;have hBq:=I.at_ 1 rfl;clear I;intro w4 I hG4;simp only[List.set]at I;replace hO:=Zh (hO.put hBq (by decide) hG4.out);clear hBq hG4)
    |fail)
   try simp only[Exit.inBlock,Exit.then]
   refine rC I 1 uT.out ?_
   exact hP.out _ _ hO.out I.below
end Tx
end Go.Proofs.YtfamifgchgolpaaGreat
