/- Bits, packed bytes, and a writer of bits in memory. -/
import Derived.Test.YtfamifgchgolpaaGreatBb
import Derived.Shelf.Small.Bits
import Derived.Laws.BitsAllLaws
import Derived.RegionTactic
import Derived.BigRegion
import Derived.Outline
set_option linter.unusedVariables false
set_option linter.unusedSimpArgs false
set_option maxRecDepth 100000
set_option maxHeartbeats 2000000
namespace Go.Proofs
open Go.Shelf
def Tryz.lays125_ren:Go.Shelf.Ren:=⟨fun|125=>120|128=>185|129=>186|n=>n,fun|46=>167|3=>3|51=>218|53=>170|4=>4|5=>5|9=>9|n=>n,fun|n=>n⟩
theorem Tryz.lays125:Go.Proofs.Lays.n125 Tryz.prog Tryz.lays125_ren:= {
 mixed:=by kernel_rfl
 f125:=Tryz.func120.trans (congrArg some (by kernel_rfl))
 f128:=Tryz.func185.trans (congrArg some (by kernel_rfl))
 f129:=Tryz.func186.trans (congrArg some (by kernel_rfl))
 t3:=Tryz.underlying3
 a3:=Tryz.isAgg3
 z3:=Tryz.sizeOf3
 v3:=Tryz.zeroValue3
 t4:=Tryz.underlying4
 a4:=Tryz.isAgg4
 z4:=Tryz.sizeOf4
 v4:=Tryz.zeroValue4
 t5:=Tryz.underlying5
 a5:=Tryz.isAgg5
 z5:=Tryz.sizeOf5
 v5:=Tryz.zeroValue5
 t9:=Tryz.underlying9
 a9:=Tryz.isAgg9
 z9:=Tryz.sizeOf9
 v9:=Tryz.zeroValue9
 t46:=Tryz.underlying167
 a46:=Tryz.isAgg167
 z46:=Tryz.sizeOf167
 v46:=Tryz.zeroValue167
 t51:=Tryz.underlying218
 a51:=Tryz.isAgg218
 z51:=Tryz.sizeOf218
 v51:=Tryz.zeroValue218
 t53:=Tryz.underlying170
 a53:=Tryz.isAgg170
 z53:=Tryz.sizeOf170
 v53:=Tryz.zeroValue170}
theorem Tryz.bits_Len(x:Int)(w:World)(h0:0≤x)(h1:x≤18446744073709551615):
 Calls Tryz.prog 120 #[.int .u64 x] w fun e w'=>e= .returned (.int .i64 (Lib.bitLen x.toNat))∧w'=w:=Any.bits_Len Tryz.lays125 x w h0 h1
namespace YtfamifgchgolpaaGreat
open Go Go.RowKit Go.Sort
namespace Cp
open Mm
def bitsOf(width n:Nat):List Bool:=(List.range width).map fun i=>n.testBit (width-1-i)
theorem bitsOf_length(width n:Nat):(bitsOf width n).length=width:=by simp[bitsOf]
theorem bitsOf_get(width n i:Nat)(h:i<width):(bitsOf width n)[i]? =some (n.testBit (width-1-i)):=by simp[bitsOf,h]
theorem bitsOf_take(width n i:Nat)(h:i<width):(bitsOf width n).take (i+1)=(bitsOf width n).take i++ [n.testBit (width-1-i)]:=by
 rw[List.take_add_one,bitsOf_get width n i h];rfl
def bt(bs:List Bool)(i:Nat):Nat:=(bs.getD i false).toNat
def byteOf(bs:List Bool)(j:Nat):Nat:=
 bt bs (8*j)*128+bt bs (8*j+1)*64+bt bs (8*j+2)*32+bt bs (8*j+3)*16+bt bs (8*j+4)*8+bt bs (8*j+5)*4+bt bs (8*j+6)*2+bt bs (8*j+7)
theorem bt_le(bs:List Bool)(i:Nat):bt bs i≤1:=by unfold bt;cases bs.getD i false<;>decide
theorem bt_past(bs:List Bool)(i:Nat)(h:bs.length≤i):bt bs i=0:=by
 unfold bt;rw[List.getD_eq_getElem?_getD,List.getElem?_eq_none h];rfl
theorem bt_snoc_lt(bs:List Bool)(b:Bool)(i:Nat)(h:i<bs.length):bt (bs++ [b]) i=bt bs i:=by
 unfold bt;rw[List.getD_eq_getElem?_getD,List.getD_eq_getElem?_getD,List.getElem?_append_left h]
theorem bt_snoc_at(bs:List Bool)(b:Bool):bt (bs++ [b]) bs.length=b.toNat:=by
 unfold bt;rw[List.getD_eq_getElem?_getD,List.getElem?_append_right (Nat.le_refl _)];simp
theorem bt_snoc(bs:List Bool)(b:Bool)(i:Nat):bt (bs++ [b]) i=if i=bs.length then b.toNat else bt bs i:=by
 by_cases h:i=bs.length
 ·subst h;rw[if_pos rfl];exact bt_snoc_at bs b
 ·rw[if_neg h]
  rcases Nat.lt_or_ge i bs.length with h1|h1
  ·exact bt_snoc_lt bs b i h1
  ·rw[bt_past bs i h1,bt_past _ i (by simp;omega)]
theorem byteOf_lt(bs:List Bool)(j:Nat):byteOf bs j<256:=by
 unfold byteOf
 have h:=fun i=>bt_le bs i
 have h0:=h (8*j);have h1:=h (8*j+1);have h2:=h (8*j+2);have h3:=h (8*j+3)
 have h4:=h (8*j+4);have h5:=h (8*j+5);have h6:=h (8*j+6);have h7:=h (8*j+7)
 omega
theorem byteOf_past(bs:List Bool)(j:Nat)(h:bs.length≤8*j):byteOf bs j=0:=by
 unfold byteOf
 simp only[bt_past bs (8*j) h,bt_past bs (8*j+1) (by omega),bt_past bs (8*j+2) (by omega),bt_past bs (8*j+3) (by omega),bt_past bs (8*j+4) (by omega),bt_past bs (8*j+5) (by omega),bt_past bs (8*j+6) (by omega),bt_past bs (8*j+7) (by omega)]
theorem byteOf_snoc_other(bs:List Bool)(b:Bool)(j:Nat)(h:j≠bs.length/8):byteOf (bs++ [b]) j=byteOf bs j:=by
 unfold byteOf
 simp only[bt_snoc]
 rw[if_neg (by omega),if_neg (by omega),if_neg (by omega),if_neg (by omega),if_neg (by omega),if_neg (by omega),if_neg (by omega),if_neg (by omega)]
theorem byteOf_snoc_add(bs:List Bool)(b:Bool):byteOf (bs++ [b]) (bs.length/8)=byteOf bs (bs.length/8)+b.toNat*2 ^ (7-bs.length %8):=by
 have hr:bs.length %8<8:=Nat.mod_lt _ (by decide)
 have hd:bs.length=8*(bs.length/8)+bs.length %8:=by omega
 generalize bs.length/8=j at*
 generalize bs.length %8=r at*
 unfold byteOf
 simp only[bt_snoc]
 have hp:=fun i (h:bs.length≤i)=>bt_past bs i h
 have e0:=hp (8*j+1);have e1:=hp (8*j+2);have e2:=hp (8*j+3);have e3:=hp (8*j+4);have e4:=hp (8*j+5);have e5:=hp (8*j+6);have e6:=hp (8*j+7);have e7:=hp (8*j)
 match r,hr with
 |0,_=>
  rw[if_pos (by omega),if_neg (by omega),if_neg (by omega),if_neg (by omega),if_neg (by omega),if_neg (by omega),if_neg (by omega),if_neg (by omega),e7 (by omega)];omega
 |1,_=>
  rw[if_neg (by omega),if_pos (by omega),if_neg (by omega),if_neg (by omega),if_neg (by omega),if_neg (by omega),if_neg (by omega),if_neg (by omega),e0 (by omega)];omega
 |2,_=>
  rw[if_neg (by omega),if_neg (by omega),if_pos (by omega),if_neg (by omega),if_neg (by omega),if_neg (by omega),if_neg (by omega),if_neg (by omega),e1 (by omega)];omega
 |3,_=>
  rw[if_neg (by omega),if_neg (by omega),if_neg (by omega),if_pos (by omega),if_neg (by omega),if_neg (by omega),if_neg (by omega),if_neg (by omega),e2 (by omega)];omega
 |4,_=>
  rw[if_neg (by omega),if_neg (by omega),if_neg (by omega),if_neg (by omega),if_pos (by omega),if_neg (by omega),if_neg (by omega),if_neg (by omega),e3 (by omega)];omega
 |5,_=>
  rw[if_neg (by omega),if_neg (by omega),if_neg (by omega),if_neg (by omega),if_neg (by omega),if_pos (by omega),if_neg (by omega),if_neg (by omega),e4 (by omega)];omega
 |6,_=>
  rw[if_neg (by omega),if_neg (by omega),if_neg (by omega),if_neg (by omega),if_neg (by omega),if_neg (by omega),if_pos (by omega),if_neg (by omega),e5 (by omega)];omega
 |7,_=>
  rw[if_neg (by omega),if_neg (by omega),if_neg (by omega),if_neg (by omega),if_neg (by omega),if_neg (by omega),if_neg (by omega),if_pos (by omega),e6 (by omega)];omega
theorem byteOf_next(bs:List Bool):∃m,byteOf bs (bs.length/8)=m*2 ^ (8-bs.length %8):=by
 have hr:bs.length %8<8:=Nat.mod_lt _ (by decide)
 have hd:bs.length=8*(bs.length/8)+bs.length %8:=by omega
 generalize bs.length/8=j at*
 generalize bs.length %8=r at*
 unfold byteOf
 have hp:=fun i (h:bs.length≤i)=>bt_past bs i h
 have e0:=hp (8*j+1);have e1:=hp (8*j+2);have e2:=hp (8*j+3);have e3:=hp (8*j+4);have e4:=hp (8*j+5);have e5:=hp (8*j+6);have e6:=hp (8*j+7);have e7:=hp (8*j)
 generalize bt bs (8*j)=a0 at*
 generalize bt bs (8*j+1)=a1 at*
 generalize bt bs (8*j+2)=a2 at*
 generalize bt bs (8*j+3)=a3 at*
 generalize bt bs (8*j+4)=a4 at*
 generalize bt bs (8*j+5)=a5 at*
 generalize bt bs (8*j+6)=a6 at*
 generalize bt bs (8*j+7)=a7 at*
 match r,hr with
 |0,_=>exact⟨0,by have:=e0 (by omega);have:=e1 (by omega);have:=e2 (by omega);have:=e3 (by omega);have:=e4 (by omega);have:=e5 (by omega);have:=e6 (by omega);have:=e7 (by omega);omega⟩
 |1,_=>exact⟨a0,by have:=e0 (by omega);have:=e1 (by omega);have:=e2 (by omega);have:=e3 (by omega);have:=e4 (by omega);have:=e5 (by omega);have:=e6 (by omega);omega⟩
 |2,_=>exact⟨a0*2+a1,by have:=e1 (by omega);have:=e2 (by omega);have:=e3 (by omega);have:=e4 (by omega);have:=e5 (by omega);have:=e6 (by omega);omega⟩
 |3,_=>exact⟨a0*4+a1*2+a2,by have:=e2 (by omega);have:=e3 (by omega);have:=e4 (by omega);have:=e5 (by omega);have:=e6 (by omega);omega⟩
 |4,_=>exact⟨a0*8+a1*4+a2*2+a3,by have:=e3 (by omega);have:=e4 (by omega);have:=e5 (by omega);have:=e6 (by omega);omega⟩
 |5,_=>exact⟨a0*16+a1*8+a2*4+a3*2+a4,by have:=e4 (by omega);have:=e5 (by omega);have:=e6 (by omega);omega⟩
 |6,_=>exact⟨a0*32+a1*16+a2*8+a3*4+a4*2+a5,by have:=e5 (by omega);have:=e6 (by omega);omega⟩
 |7,_=>exact⟨a0*64+a1*32+a2*16+a3*8+a4*4+a5*2+a6,by have:=e6 (by omega);omega⟩
theorem byteOf_snoc_or(bs:List Bool)(b:Bool):byteOf bs (bs.length/8)|||b.toNat*2 ^ (7-bs.length %8)=byteOf (bs++ [b]) (bs.length/8):=by
 have hr:bs.length %8<8:=Nat.mod_lt _ (by decide)
 obtain⟨m,hm⟩:=byteOf_next bs
 rw[byteOf_snoc_add,hm]
 cases b with
 |false=>simp
 |true=>
  have hlt:Bool.toNat true*2 ^ (7-bs.length %8)<2 ^ (8-bs.length %8):=by
   rw[show Bool.toNat true=1 from rfl,Nat.one_mul]
   exact Nat.pow_lt_pow_right (by decide) (by omega)
  rw[Nat.mul_comm m,←Nat.two_pow_add_eq_or_of_lt hlt]
def nby(k:Nat):Nat:=(k+7)/8
def pack(bs:List Bool):List Nat:=(List.range (nby bs.length)).map (byteOf bs)
theorem pack_length(bs:List Bool):(pack bs).length=nby bs.length:=by simp[pack]
theorem pack_get(bs:List Bool)(j:Nat)(h:j<nby bs.length):(pack bs)[j]? =some (byteOf bs j):=by simp[pack,h]
theorem pack_snoc_new(bs:List Bool)(b:Bool)(h:bs.length %8=0):pack (bs++ [b])=(pack bs++ [0]).set (bs.length/8) (byteOf (bs++ [b]) (bs.length/8)):=by
 have hn:nby bs.length=bs.length/8:=by unfold nby;omega
 have hn1:nby (bs++ [b]).length=bs.length/8+1:=by unfold nby;simp;omega
 apply List.ext_getElem?
 intro j
 rw[List.getElem?_set]
 rcases Nat.lt_trichotomy j (bs.length/8)with hj|hj|hj
 ·rw[pack_get _ j (by omega),if_neg (by omega),List.getElem?_append_left (by rw[pack_length];omega),pack_get _ j (by omega),byteOf_snoc_other _ _ _ (by omega)]
 ·subst hj
  rw[pack_get _ _ (by omega),if_pos rfl,if_pos (by simp[pack_length];omega)]
 ·rw[List.getElem?_eq_none (by rw[pack_length];omega),if_neg (by omega),List.getElem?_eq_none (by simp[pack_length];omega)]
theorem pack_snoc_old(bs:List Bool)(b:Bool)(h:bs.length %8≠0):pack (bs++ [b])=(pack bs).set (bs.length/8) (byteOf (bs++ [b]) (bs.length/8)):=by
 have hn:nby bs.length=bs.length/8+1:=by unfold nby;omega
 have hn1:nby (bs++ [b]).length=bs.length/8+1:=by unfold nby;simp;omega
 apply List.ext_getElem?
 intro j
 rw[List.getElem?_set]
 rcases Nat.lt_trichotomy j (bs.length/8)with hj|hj|hj
 ·rw[pack_get _ j (by omega),if_neg (by omega),pack_get _ j (by omega),byteOf_snoc_other _ _ _ (by omega)]
 ·subst hj
  rw[pack_get _ _ (by omega),if_pos rfl,if_pos (by rw[pack_length];omega)]
 ·rw[List.getElem?_eq_none (by rw[pack_length];omega),if_neg (by omega),List.getElem?_eq_none (by rw[pack_length];omega)]
def byt(s:ByteArray)(i:Nat):Nat:=(s.data.toList.getD i 0).toNat
def bit(s:ByteArray)(i:Nat):Bool:=(byt s (i/8)).testBit (7-i %8)
def val(s:ByteArray)(at_:Nat):Nat→Nat
 |0=>0
 |k+1=>2*val s at_ k+(bit s (at_+k)).toNat
theorem val_lt(s:ByteArray)(a k:Nat):val s a k<2 ^ k:=by
 induction k with
 |zero=>simp[val]
 |succ k ih=>
  have:(bit s (a+k)).toNat≤1:=by cases bit s (a+k)<;>decide
  rw[val,Nat.pow_succ];omega
def uns(s:ByteArray)(k:Nat):Option Nat→Nat×Option Nat
 |none=>(0,none)
 |some a=>if 8*s.size<a+k then(0,none)else(val s a k,some (a+k))
theorem uns_lt(s:ByteArray)(k:Nat)(st:Option Nat):(uns s k st).1<2 ^ k:=by
 have hp:0<2 ^ k:=Nat.two_pow_pos k
 cases st with
 |none=>simpa[uns]using hp
 |some a=>unfold uns;dsimp only;split;exact hp;exact val_lt s a k
def u8V(x:Nat):Value:= .int .u8 (x:Int)
structure Apart(base B:Nat)(D:Nat→Prop)(w w':World):Prop where
 os:w'.os=w.os
 tape:w'.tape=w.tape
 output:w'.output=w.output
 size:w.heap.size≤w'.heap.size
 block:∀k,k<base∨D k→k≠B→w'.heap[k]? =w.heap[k]?
theorem Apart.refl(base B:Nat)(D:Nat→Prop)(w:World):Apart base B D w w:=⟨rfl,rfl,rfl,Nat.le_refl _,fun _ _ _=>rfl⟩
theorem Apart.trans {base B:Nat} {D:Nat→Prop} {a w w':World}(h:Apart base B D a w)(k:Apart base B D w w'):Apart base B D a w':=
 ⟨k.os.trans h.os,k.tape.trans h.tape,k.output.trans h.output,Nat.le_trans h.size k.size,fun i hi hne=>(k.block i hi hne).trans (h.block i hi hne)⟩
theorem Apart.below {base B n:Nat} {D:Nat→Prop} {w w':World}(h:Apart base B D w w')(hB:n≤B)(hb:n≤base):Below n w w':=
 ⟨h.os,h.tape,h.output,h.size,fun k hk=>h.block k (.inl (by omega)) (by omega)⟩
theorem Apart.alloc {base B:Nat} {D:Nat→Prop} {a w:World}(h:Apart base B D a w)(hb:base≤w.heap.size)(hD:∀k,D k→k<w.heap.size)(o:Obj):Apart base B D a (w.alloc o):=
 ⟨h.os,h.tape,h.output,by have:=h.size;simp;omega,fun k hk hne=>by rw[Below.heap_alloc w o k (by rcases hk with hk|hk;omega;exact hD k hk)];exact h.block k hk hne⟩
theorem Apart.drew {base B:Nat} {D:Nat→Prop} {a w:World}(h:Apart base B D a w):Apart base B D a w.drew:=⟨h.os,h.tape,h.output,h.size,h.block⟩
theorem Apart.set {base B i:Nat} {D:Nat→Prop} {a w:World}(h:Apart base B D a w)(v:Value):Apart base B D a (w.setCell ⟨B,i,none⟩ v):=
 ⟨h.os,h.tape,h.output,by simpa[World.setCell]using h.size,fun k hk hne=>by
  rw[heap_setCell_other w ⟨B,i,none⟩ k v (fun e=>hne (by rw[e]))];exact h.block k hk hne⟩
theorem Apart.far {base B g i:Nat} {D:Nat→Prop} {a w:World}(h:Apart base B D a w)(hg:base≤g)(hgD:¬D g)(v:Value):Apart base B D a (w.setCell ⟨g,i,none⟩ v):=
 ⟨h.os,h.tape,h.output,by simpa[World.setCell]using h.size,fun k hk hne=>by
  rw[heap_setCell_other w ⟨g,i,none⟩ k v (fun e=>by simp at e;subst e;rcases hk with hk|hk;omega;exact hgD hk)];exact h.block k hk hne⟩
theorem Apart.grown {base B:Nat} {D:Nat→Prop} {a w w':World} {row:Option Nat}(h:Apart base B D a w)(hb:base≤w.heap.size)(hD:∀k,D k→k<w.heap.size)(hg:w.grownBy w' row)(hr:∀k,row=some k→base≤k∧¬D k):Apart base B D a w':=
 ⟨hg.os.trans h.os,hg.tape.trans h.tape,hg.output.trans h.output,Nat.le_trans h.size hg.size,fun k hk hne=>by
  rw[hg.block k (by rcases hk with hk|hk;omega;exact hD k hk) (fun e=>by have:=hr k e.symm;rcases hk with hk|hk;omega;exact this.2 hk)];exact h.block k hk hne⟩
theorem Apart.blk {base B k:Nat} {D:Nat→Prop} {w w':World} {C:Array Value} {t:TypeId}(h:Apart base B D w w')(hb:Blk w k C t)(hk:k<base∨D k)(hne:k≠B):Blk w' k C t:=⟨by rw[h.block k hk hne];exact hb.at_⟩
structure WrX(w:World)(base B:Nat)(D:Nat→Prop)(v:Value)(k:Nat)(n:Nat)(xs:List Nat):Prop where
 blk:Blk w B #[v,.int .i64 (k:Int),.int .i64 0] 164
 own:w.ownsRow base 5 1 v n (xs.map u8V)
 lt:B<base
 far:∀g,v.ownBlock=some g→¬D g
def WrV(w:World)(base B:Nat)(D:Nat→Prop)(v:Value)(bs:List Bool):Prop:=WrX w base B D v bs.length (nby bs.length) (pack bs)
theorem WrX.bits {w:World} {base B:Nat} {D:Nat→Prop} {v:Value} {k n:Nat} {xs:List Nat}(h:WrX w base B D v k n xs)(k':Nat):WrX (w.setCell ⟨B,1,none⟩ (.int .i64 (k':Int))) base B D v k' n xs:=
 ⟨by have:=h.blk.set 1 (.int .i64 (k':Int));simpa using this,ownsRow_setCell_below h.own (by have:=h.lt;simpa using this) _,h.lt,h.far⟩
theorem WrX.store {w:World} {base B g cap:Nat} {D:Nat→Prop} {k n:Nat} {xs:List Nat}(h:WrX w base B D (.slice (some ⟨g,0,none⟩) n cap) k n xs)(j x:Nat):
 WrX (w.setCell ⟨g,j,none⟩ (u8V x)) base B D (.slice (some ⟨g,0,none⟩) n cap) k n (xs.set j x):=
 have hg:base≤g:=(h.own.lt g rfl).1
 ⟨h.blk.other (by have:=h.lt;simp;omega) _,by rw[List.map_set];exact(h.own.stored j (u8V x)).1,h.lt,h.far⟩
theorem WrV.drew {w:World} {base B:Nat} {D:Nat→Prop} {v:Value} {bs:List Bool}(h:WrV w base B D v bs):WrV w.drew base B D v bs:=⟨h.blk.drew,⟨h.own.1,h.own.2⟩,h.lt,h.far⟩
def pre(bs:List Bool):List Nat:=if bs.length %8=0 then pack bs++ [0]else pack bs
theorem pre_length(bs:List Bool):(pre bs).length=bs.length/8+1:=by
 unfold pre
 split<;>simp[pack_length,nby]<;>omega
theorem pre_get(bs:List Bool):(pre bs)[bs.length/8]? =some (byteOf bs (bs.length/8)):=by
 unfold pre
 split
 ·rename_i h
  rw[List.getElem?_append_right (by rw[pack_length];unfold nby;omega),pack_length,byteOf_past _ _ (by omega)]
  rw[show bs.length/8-nby bs.length=0 by unfold nby;omega];rfl
 ·exact pack_get _ _ (by unfold nby;omega)
theorem pre_set(bs:List Bool)(b:Bool):(pre bs).set (bs.length/8) (byteOf (bs++ [b]) (bs.length/8))=pack (bs++ [b]):=by
 unfold pre
 split
 ·rw[pack_snoc_new _ _ (by assumption)]
 ·rw[pack_snoc_old _ _ (by assumption)]
theorem info_u8:(Tryz.prog.info? 5).map (fun i=>(i.zero,i.size,i.bytes))=some (some (.int .u8 0),1,1):=by kernel_rfl
theorem put_byte(cs:List Bool)(n i:Nat)(hn:n<18446744073709551616)(_hi:i≤62):
 bits .or .u8 (byteOf cs (cs.length/8):Int) (IntKind.u8.wrap (IntKind.u8.wrap (bits .and .u64 ((n:Int)/2 ^ i) 1)*2 ^ (7-cs.length %8)))=(byteOf (cs++ [n.testBit i]) (cs.length/8):Int):=by
 have e1:((n:Int)/2 ^ i)=((n/2 ^ i:Nat):Int):=by simp
 have hlt:n/2 ^ i<18446744073709551616:=Nat.lt_of_le_of_lt (Nat.div_le_self _ _) hn
 have e2:bits .and .u64 ((n/2 ^ i:Nat):Int) 1=((n.testBit i).toNat:Int):=by
  have:=u64_and_nat (n/2 ^ i) 1 hlt (by omega)
  rw[show((1:Nat):Int)=1 from rfl]at this
  rw[this,Nat.and_one_is_mod,Nat.testBit_eq_decide_div_mod_eq]
  rcases Nat.mod_two_eq_zero_or_one (n/2 ^ i)with h|h<;>rw[h]<;>rfl
 rw[e1,e2]
 generalize n.testBit i=b
 have hb:b.toNat≤1:=by cases b<;>decide
 have hr:cs.length %8<8:=Nat.mod_lt _ (by decide)
 have hp:b.toNat*2 ^ (7-cs.length %8)<256:=by
  have:2 ^ (7-cs.length %8)≤2 ^ 7:=Nat.pow_le_pow_right (by decide) (by omega)
  calc b.toNat*2 ^ (7-cs.length %8)≤1*2 ^ 7:=Nat.mul_le_mul hb this
   _<256:=by decide
 have e3:IntKind.u8.wrap ((b.toNat:Int))=(b.toNat:Int):=IntWalk.u8_in _ (by omega)
 have e4:((b.toNat:Int))*2 ^ (7-cs.length %8)=((b.toNat*2 ^ (7-cs.length %8):Nat):Int):=by simp
 rw[e3,e4,IntWalk.u8_in _ (by omega),u8_or_nat _ _ (byteOf_lt _ _) hp,byteOf_snoc_or]
theorem put_any(width n base B:Nat)(D:Nat→Prop)(bs:List Bool)(v:Value)(w:World)(hw:width≤63)(hn:n<18446744073709551616)(hW:WrV w base B D v bs)(hbase:base≤w.heap.size)(hD:∀k,D k→k<w.heap.size)(hlen:bs.length+width≤524288):
 Calls Tryz.prog 184 #[.pointer (some ⟨B,0,none⟩),.int .i64 width,.int .u64 n] w
  fun e w'=>e= .returned (.tuple #[])∧Apart base B D w w'∧∃v',WrV w' base B D v' (bs++bitsOf width n):=by
 obtain⟨i0,hi,hz0,hz1,hz2⟩:=info_parts info_u8
 refine zh5 ?_ hi hz0 hz1 hz2 hW;clear hi hz0 hz1 hz2 hW;intro hi hz0 hz1 hz2 hW
 go_enter Tryz.func184,Tryz.ntmps184
 go_wp2
 go_loopw[6] (fun i wr=>∃(k:Nat) (ii:Int) (v':Value),k≤width∧ii=(width:Int)-1-(k:Int)∧i= .int .i64 ii∧Hid (WrV wr base B D v' (bs++(bitsOf width n).take k))∧Hid (Apart base B D w wr)) (fun i _=>(intOf i+1).toNat)
 case atStart=>exact⟨0,_,v,by omega,rfl,by simp,by simpa using hW,Apart.refl _ _ _ _⟩
 case round=>
  obtain⟨k,ii,v',hk,hii,rfl,HW,HA⟩:=hrel
  by_cases hlt:k<width
  ·have hl:(bs++(bitsOf width n).take k).length=bs.length+k:=by rw[List.length_append,List.length_take,bitsOf_length];omega
   have htk:=bitsOf_take width n k hlt
   obtain⟨i,rfl⟩:=Int.eq_ofNat_of_zero_le (show 0≤ii by omega)
   have hiv:i=width-1-k:=by omega
   rw[←hiv]at htk
   have htk2:bs++(bitsOf width n).take (k+1)=(bs++(bitsOf width n).take k)++ [n.testBit i]:=by rw[htk,List.append_assoc]
   generalize hcg:bs++(bitsOf width n).take k=cs at*
   have hput:=put_byte cs n i hn (by omega)
   generalize hbg:n.testBit i=b at*
   have hi63:i≤62:=by omega
   have hL:cs.length≤524287:=by omega
   refine zh8 ?_ hcg hl htk hiv hii htk2 hbg hput;clear hcg hl htk hiv hii htk2 hbg hput;intro hcg hl htk hiv hii htk2 hbg hput
   have kb0:=HW.blk.cell 0
   have kb1:=HW.blk.cell 1
   have kf:=HW.blk.free
   have hsz:=HA.size
   have hbl:=HW.blk.lt
   have hDr:∀k,D k→k<wr.heap.size:=fun k hd=>Nat.lt_of_lt_of_le (hD k hd) hsz
   have r0:(0:Int)≤(i:Int):=by omega
   go_upto_if 18 with fail
   go_cut[] (fun wx=>∃(g cap:Nat),Hid (WrX wx base B D (.slice (some ⟨g,0,none⟩) (cs.length/8+1) cap) cs.length (cs.length/8+1) (pre cs))∧Hid (Apart base B D w wx))
   case first=>
    by_cases h0:cs.length %8=0
    ·have hz:((cs.length:Int)%8==0)=true:=by rw[beq_iff_eq];omega
     have hn1:nby cs.length=cs.length/8:=by unfold nby;omega
     have hp:pre cs=pack cs++ [0]:=by unfold pre;rw[if_pos h0]
     have hown:=HW.own
     rw[hn1]at hown
     have hoa:=Zh (hown.alloc (.cells #[.int .u8 0] 5))
     have kfa:(wr.alloc (.cells #[.int .u8 0] 5)).frozen? ⟨B,0,none⟩=false:=(HW.blk.alloc _).free 0
     refine zh4 ?_ hown hn1 hp h0;clear hown hn1 hp h0;intro hown hn1 hp h0
     go_wp2_with(at_builtin;refine wpList_append_lies _ rfl _ _ _ rfl base 5 i0 (.int .u8 0) 1 1 Tryz.underlying22 hi.out hz0.out hz1.out hz2.out rfl (by decide) v' (cs.length/8) _ rfl hoa.out ⟨wr.heap.size,0,none⟩ 1 1 [.int .u8 0] rfl rfl ?c1 ?c2 (by decide) ?c3 ?c4 ?c5 (wr.heap.size+1) ?c6 ?_)
     try case c1=>exact World.news_of_block (cs:=#[.int .u8 0]) (t:=5) (fr:=(0,0)) (heap_alloc_new wr _)
     try case c2=>simp[Value.oneCell']
     try case c3=>unfold maxLen;omega
     try case c4=>omega
     try case c5=>simp;omega
     try case c6=>simp
     intro gg cap w1 hown1 hgrow hat hlt1
     have hbase2:∀q,v'.ownBlock=some q→base≤q∧¬D q:=fun q hq=>⟨(HW.own.lt q hq).1,HW.far q hq⟩
     have hfar:∀q,(Value.slice (some ⟨gg,0,none⟩) (cs.length/8+1) cap).ownBlock=some q→¬D q:=fun q hq=>by
      have e:gg=q:=by injection hq
      subst e
      rcases hat with h|h
      ·exact HW.far _ h
      ·exact fun hd=>by have:=hDr _ hd;omega
     have hBlt:=HW.lt
     have hb1:Blk w1 B _ _:=(HW.blk.alloc (.cells #[.int .u8 0] 5)).grown hgrow (fun e=>by have:=hbase2 _ e;omega)
     have kb1':=hb1.cell 0
     have kf1':=hb1.free 0
     have HX:Hid (WrX (w1.setCell ⟨B,0,none⟩ (.slice (some ⟨gg,0,none⟩) (cs.length/8+1) cap)) base B D (.slice (some ⟨gg,0,none⟩) (cs.length/8+1) cap) cs.length (cs.length/8+1) (pre cs)):=
      ⟨by simpa using hb1.set 0 (.slice (some ⟨gg,0,none⟩) (cs.length/8+1) cap),by rw[hp.out,List.map_append];exact ownsRow_setCell_below hown1 hBlt _,hBlt,hfar⟩
     have HA2:Hid (Apart base B D w (w1.setCell ⟨B,0,none⟩ (.slice (some ⟨gg,0,none⟩) (cs.length/8+1) cap))):=
      ((HA.alloc (by omega) hDr _).grown (by simp;omega) (fun k hd=>by have:=hDr k hd;simp;omega) hgrow hbase2).set _
     clear hbase2 hfar hoa kfa kb0 kb1 kf hat
     refine zh3 ?_ hown1 hgrow hb1;clear hown1 hgrow hb1;intro hown1 hgrow hb1
     go_wp2_with fail
     go_meet
     exact⟨gg,cap,HX,HA2⟩
    ·have hz:((cs.length:Int)%8==0)=false:=by rw[beq_eq_false_iff_ne];omega
     have hn1:nby cs.length=cs.length/8+1:=by unfold nby;omega
     have hp:pre cs=pack cs:=by unfold pre;rw[if_neg h0]
     have hX:=HW.out
     unfold WrV at hX
     rw[hn1,←hp]at hX
     obtain⟨gg,cap,rfl,_⟩:=hX.own.form (by omega)
     refine zh4 ?_ hX hn1 hp h0;clear hX hn1 hp h0;intro hX hn1 hp h0
     go_wp2_with fail
     go_meet
     exact⟨gg,cap,hX,HA⟩
   case rest=>
    obtain⟨gg,cap,HX,HA2⟩:=hcut
    generalize wc=wa at*
    clear kb0 kb1 kf hbl HW HA hsz
    have kb0:=HX.blk.cell 0
    have kb1:=HX.blk.cell 1
    have kf:=HX.blk.free
    have hbl:=HX.blk.lt
    have hgg:=HX.own.lt gg rfl
    have hBlt:=HX.lt
    have hgD:¬D gg:=HX.far gg rfl
    have kd:=HX.own.cellAt (cs.length/8) (by omega)
    rw[List.getElem?_map,pre_get]at kd
    have kdf:=HX.own.frozenAt (cs.length/8)
    have HS:=Zh (HX.store (cs.length/8) (byteOf (cs++ [b]) (cs.length/8)))
    have HS2:Hid (WrV ((wa.setCell ⟨gg,cs.length/8,none⟩ (u8V (byteOf (cs++ [b]) (cs.length/8)))).setCell ⟨B,1,none⟩ (.int .i64 ((cs.length+1:Nat):Int))) base B D (.slice (some ⟨gg,0,none⟩) (cs.length/8+1) cap) (cs++ [b])):=by
     have:=HS.bits (cs.length+1)
     rw[pre_set]at this
     show WrX _ _ _ _ _ _ _ _
     rw[List.length_append,List.length_singleton,show nby (cs.length+1)=cs.length/8+1 by unfold nby;omega]
     exact this
    have hne:¬gg=B:=by omega
    have hne2:¬B=gg:=by omega
    have q1:((cs.length:Int)/8)=((cs.length/8:Nat):Int):=by omega
    have q2:((cs.length:Int)%8)=((cs.length %8:Nat):Int):=by omega
    have q3:cs.length %8<8:=by omega
    have kd':wa.cell? ⟨gg,cs.length/8,none⟩=some (.int .u8 (byteOf cs (cs.length/8):Int)):=kd
    clear kd
    generalize hj:cs.length/8=j at*
    generalize hr:cs.length %8=r at*
    have hjL:j<j+1:=by omega
    have hjl2:(j:Int)<(j:Int)+1:=by omega
    have r7:(0:Int)≤7-(r:Int):=by omega
    have r8:(7-(r:Int)).toNat=7-r:=by omega
    generalize byteOf (cs++ [b]) j=y1 at*
    generalize byteOf cs j=y0 at*
    refine zh5 ?_ HX HS HS2 hj hr;clear HX HS HS2 hj hr;intro HX HS HS2 hj hr
    go_wp2_with fail
    go_region
    clear r0 r7 r8 hjl2
    go_wp2_with fail
    have ep:Value.int .u8 (bits .or .u8 (y0:Int) (bits .and .u64 ((n:Int)/2 ^ i) 1 %256*2 ^ (7-r)%256))=u8V y1:=by
     have:=hput.out
     rw[IntKind.wrap_u8,IntKind.wrap_u8]at this
     unfold u8V
     rw[this]
    have hi2:(i:Int)-1=(width:Int)-1-((k+1:Nat):Int):=by have:=hii.out;omega
    go_roundw
    case rel=>
     refine⟨k+1,(i:Int)-1,.slice (some ⟨gg,0,none⟩) (j+1) cap,by omega,hi2,rfl,?_,?_⟩
     ·rw[ep,htk2.out];exact HS2.drew
     ·rw[ep];exact((HA2.far hgg.1 hgD _).set _).drew
    case measure=>simp[intOf]
  ·obtain rfl:k=width:=by omega
   have hW2:=HW.out
   rw[List.take_of_length_le (by rw[bitsOf_length];exact Nat.le_refl _)]at hW2
   have hneg:ii= -1:=by omega
   subst hneg
   replace hW2:=Zh hW2
   replace hii:=Zh hii
   go_wp2
   go_end0
   exact⟨rfl,HA.out,v',hW2.out⟩
end Cp
end YtfamifgchgolpaaGreat
end Go.Proofs
