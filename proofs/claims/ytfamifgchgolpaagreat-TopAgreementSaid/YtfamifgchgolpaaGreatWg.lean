/- cellmsg: Decode. -/
import Derived.Test.YtfamifgchgolpaaGreatWf
set_option linter.unusedVariables false
set_option linter.unusedSimpArgs false
set_option maxRecDepth 100000
set_option maxHeartbeats 4000000
namespace Go.Proofs.YtfamifgchgolpaaGreat
open Go Go.RowKit Go.Sort Go.Shelf Go.Maps
namespace Cp
open Mm Sw Tx
theorem msgB_pre(m:Msg):Pre (strOf (pack (msgB m))) 0 (bitsOf 3 m.kind.toNat++([m.reply]++(bitsOf 8 m.number.toNat++(bitsOf 2 m.code.toNat++(bitsOf 10 m.count.toNat++(sptsB m.spots++(sptsB m.old++ []))))))):=by
 have h:=pre_pack (msgB m)
 unfold msgB headB at h
 simp only[List.append_assoc,List.append_nil]at h ⊢
 exact h
def DecPost(m:Msg)(w:World)(e:Ending)(w':World):Prop:=∃v,e= .returned (.tuple #[.agg (Km m v),.int .i64 0])∧MsgOwn w' v m∧Below w.heap.size w w'
theorem rdBlk {w:World} {B a:Nat} {s:ByteArray}(h:RdIs 169 w B s (some a)):Blk w B #[.string s,.int .i64 (a:Int),.int .i64 0] 169:=h.1
theorem rdOf {w:World} {B a:Nat} {s:ByteArray} {r:List Bool}(h:Blk w B #[.string s,.int .i64 (a:Int),.int .i64 0] 169)(hp:Pre s a r):RdIs 169 w B s (some a):=⟨h,by have:=hp.room;omega⟩
theorem decode_any(m:Msg)(w:World)(hk:chkM m=0):
 Calls Tryz.prog 13 #[.string (strOf (pack (msgB m)))] w (DecPost m w):=by
 have I:=Zh (Mem.start w)
 have hO:=(chkM_iff m).1 hk
 have uM:=Tryz.underlying30
 have hp:=msgB_pre m
 have hl1:=sptsB_len m.spots
 have hl2:=sptsB_len m.old
 have hlen:(msgB m).length=0+3+1+8+2+10+(sptsB m.spots).length+(sptsB m.old).length:=by unfold msgB;rw[List.length_append,List.length_append,headB_len]
 have hz:=pack_rest (msgB m)
 have hsz:=pack_size (msgB m)
 rw[hlen]at hz
 have hs:(strOf (pack (msgB m))).size≤65536:=by have:=hO.ls;have:=hO.lo;rw[hsz];unfold nby;omega
 have hq:8*(strOf (pack (msgB m))).size-(0+3+1+8+2+10+(sptsB m.spots).length+(sptsB m.old).length)≤7:=by rw[hsz,hlen];unfold nby;omega
 have cK:Hid (∀v W,MsgIs W v m→Calls Tryz.prog 47 #[.agg (Km m v)] W fun e w'=>e= .returned (.int .i64 0)∧Below W.heap.size W w'):=fun v W h=>by have:=chkM_any m v W h;rwa[hk]at this
 have cE:Hid (∀v W,MsgIs W v m→Calls Tryz.prog 12 #[.agg (Km m v)] W fun e w'=>e= .returned (.tuple #[.string (strOf (pack (msgB m))),.int .i64 0])∧Below W.heap.size W w'):=fun v W h=>encode_any m v W h hk
 have hP:∀v w',MsgOwn w' v m→Below w.heap.size w w'→DecPost m w (.returned (.tuple #[.agg (Km m v),.int .i64 0])) w':=fun v w' h1 h2=>⟨v,rfl,h1,h2⟩
 generalize DecPost m w=P at*
 generalize strOf (pack (msgB m))=s at*
 have hs2:s.size≤100000:=by omega
 have cU:=fun B k n r a W h1 h2=>rdU_any B s hs2 k n r a W h1 h2
 have cN:=fun W=>newReader_any s W hs
 obtain⟨a1,a2,a3,a4,a5,a6,a7,a8,a9,a10,_,a12,_,a14,_⟩:=hO
 have hr1:∀p∈m.spots,SptR p:=fun p hp=>by have:=a12 p hp;exact⟨this.slot0,this.slot,this.off0,this.off⟩
 have hr2:∀p∈m.old,SptR p:=fun p hp=>by have:=a14 p hp;exact⟨this.slot0,this.slot,this.off0,this.off⟩
 clear a12 a14 hk hlen hsz
 refine zh12 ?_ uM hp hl1 hl2 hz hs hs2 hq hP cU cN hr1;clear uM hp hl1 hl2 hz hs hs2 hq hP cU cN hr1;intro uM hp hl1 hl2 hz hs hs2 hq hP cU cN hr1
 replace hr2:=Zh hr2
 go_enter Tryz.func13,Tryz.ntmps13
 go_upto_region 1 with fail
 have HM1:=Zh (I.alloc (Kz 7) 30)
 clear I
 generalize w.alloc (.cells (Kz 7) 30)=w1 at*
 generalize w.heap.size=g at HM1 ⊢
 have I:=HM1
 clear HM1
 go_wp2_with fail
 refine(cN _).mono ?_
 rintro e w2 ⟨rfl,rfl⟩
 replace I:=Zh (I.alloc #[.string s,.int .i64 0,.int .i64 0] 169)
 generalize hW2:w1.alloc (.cells #[.string s,.int .i64 0,.int .i64 0] 169)=w2 at*
 generalize w1.heap.size=B at*
 have hR:Hid (RdIs 169 w2 B s (some 0)):=⟨I.at_ 0 rfl,by omega⟩
 clear hW2
 go_wp2_with fail
 refine(cU B 3 _ _ _ _ (by omega) (by omega) hR.out hp.out (by omega) (by omega)).mono ?_
 rintro e w3 ⟨rfl,hg,hR2,hp2⟩
 replace I:=Zh (I.put 0 rfl hg (rdBlk hR2))
 simp only[List.set]at I
 clear hR hp hg
 have hR:=Zh hR2
 have hp:=Zh hp2
 clear hR2 hp2
 go_wp2_with fail
 refine(rdF_any B s hs2.out _ _ _ _ hR.out hp.out).mono ?_
 rintro e w4 ⟨rfl,hg,hR2,hp2⟩
 replace I:=Zh (I.put 0 rfl hg (rdBlk hR2))
 simp only[List.set]at I
 clear hR hp hg
 have hR:=Zh hR2
 have hp:=Zh hp2
 clear hR2 hp2
 go_wp2_with fail
 refine(cU B 8 _ _ _ _ (by omega) (by omega) hR.out hp.out (by omega) (by omega)).mono ?_
 rintro e w5 ⟨rfl,hg,hR2,hp2⟩
 replace I:=Zh (I.put 0 rfl hg (rdBlk hR2))
 simp only[List.set]at I
 clear hR hp hg
 have hR:=Zh hR2
 have hp:=Zh hp2
 clear hR2 hp2
 go_wp2_with fail
 refine(cU B 2 _ _ _ _ (by omega) (by omega) hR.out hp.out (by omega) (by omega)).mono ?_
 rintro e w6 ⟨rfl,hg,hR2,hp2⟩
 replace I:=Zh (I.put 0 rfl hg (rdBlk hR2))
 simp only[List.set]at I
 clear hR hp hg
 have hR:=Zh hR2
 have hp:=Zh hp2
 clear hR2 hp2
 go_wp2_with fail
 refine(cU B 10 _ _ _ _ (by omega) (by omega) hR.out hp.out (by omega) (by omega)).mono ?_
 rintro e w7 ⟨rfl,hg,hR2,hp2⟩
 replace I:=Zh (I.put 0 rfl hg (rdBlk hR2))
 simp only[List.set]at I
 clear hR hp hg
 have hR:=Zh hR2
 have hp:=Zh hp2
 clear hR2 hp2
 clear hR
 go_upto_region 3 with(first
  |(refine aN I msgInfo ?_;clear I;intro g5 w8 I hG hN9;clear hG hN9)
  |(refine sF 0 I ?_;clear I;intro w4 I hG4;simp only[List.set]at I)
  |fail)
 have hR:=Zh (rdOf (I.at_ 1 rfl) hp.out)
 clear hG4
 go_wp2_with fail
 refine(places_any B _ s m.spots _ _ hs2.out a9 hr1.out hR.out hp.out).mono ?_
 rintro e w9 ⟨A9,c9,rfl,HO9,hg,hR2,hp2⟩
 replace HO9:=Zh HO9
 replace I:=Zh (I.put 1 rfl hg (rdBlk hR2))
 simp only[List.set]at I
 clear hR hp hg hR2
 have hp:=Zh hp2
 clear hp2
 go_upto_region 4 with(first|(have hBq:=I.at_ 0 rfl;(refine sN 0 I ?_;clear I;intro w4 I hG4;simp only[List.set]at I))|fail)
 replace HO9:=Zh (HO9.kept hG4.out (.inr (row_ne_blk HO9.out hBq (by decide))))
 clear hG4 hBq
 have hR:=Zh (rdOf (I.at_ 1 rfl) hp.out)
 go_wp2_with fail
 refine(places_any B _ s m.old _ _ hs2.out a10 hr2.out hR.out hp.out).mono ?_
 rintro e w10 ⟨A10,c10,rfl,HO10,hg,hR2,hp2⟩
 replace HO10:=Zh HO10
 replace HO9:=Zh (HO9.kept hg (.inr (row_ne_blk HO9.out (I.at_ 1 rfl) (by decide))))
 replace I:=Zh (I.put 1 rfl hg (rdBlk hR2))
 simp only[List.set]at I
 clear hR hp hg hR2
 have hp:=Zh hp2
 clear hp2
 go_upto_region 5 with(first|(have hBq:=I.at_ 0 rfl;(refine sN 0 I ?_;clear I;intro w4 I hG4;simp only[List.set]at I))|fail)
 replace HO9:=Zh (HO9.kept hG4.out (.inr (row_ne_blk HO9.out hBq (by decide))))
 replace HO10:=Zh (HO10.kept hG4.out (.inr (row_ne_blk HO10.out hBq (by decide))))
 clear hG4 hBq
 have hR:=Zh (rdOf (I.at_ 1 rfl) hp.out)
 have hW:Hid (MsgOwn w4 ⟨A9,m.spots.length,c9,A10,m.old.length,c10⟩ m):=⟨⟨_,HO9.out⟩,⟨_,HO10.out⟩,rfl,rfl⟩
 clear HO9 HO10
 have cK2:=Zh (cK ⟨A9,m.spots.length,c9,A10,m.old.length,c10⟩)
 have cE2:=Zh (cE ⟨A9,m.spots.length,c9,A10,m.old.length,c10⟩)
 go_upto_region 6 with(first
  |(go_at_call 56;refine(close_any B _ s _ hs2.out hR.out hq.out hz.out).mono ?_;rintro r w11 ⟨rfl,p_⟩;replace I:=Zm I p_;replace hW:=Zh (hW.keep p_);clear p_ hR)
  |(go_at_call 47;refine(cK2 _ hW.is).mono ?_;rintro r w12 ⟨rfl,p_⟩;replace I:=Zm I p_;replace hW:=Zh (hW.keep p_);clear p_)
  |(refine lG 0 I uM.out ?_)
  |fail)
 refine(cE2 _ hW.is).mono ?_
 rintro r w13 ⟨rfl,p_⟩
 replace I:=Zm I p_
 replace hW:=Zh (hW.keep p_)
 clear p_ cE cE2 cK cK2
 go_wp2_with(first
  |(refine lG 0 I uM.out ?_)
  |(have hBq:=I.at_ 2 rfl;(refine sF 2 I ?_;clear I;intro w4 I hG4;simp only[List.set]at I))
  |fail)
 replace hW:=Zh (hW.put hBq (by decide) hG4.out)
 try simp only[Exit.inBlock,Exit.then]
 refine rT I 2 uM.out ?_
 exact hP.out _ _ hW.out I.below
end Cp
end Go.Proofs.YtfamifgchgolpaaGreat
