/- What was written is read again; cellmsg: places. -/
import Derived.Test.YtfamifgchgolpaaGreatWd
import Derived.Test.YtfamifgchgolpaaGreatBu
set_option linter.unusedVariables false
set_option linter.unusedSimpArgs false
set_option maxRecDepth 100000
set_option maxHeartbeats 4000000
namespace Go.Proofs.YtfamifgchgolpaaGreat
open Go Go.RowKit Go.Sort Go.Shelf Go.Maps
namespace Cp
open Mm Sw Tx
theorem bt_test(bs:List Bool)(i:Nat):(bt bs i)%2=(bs.getD i false).toNat:=by unfold bt;cases bs.getD i false<;>rfl
theorem byteOf_test(bs:List Bool)(j r:Nat)(hr:r<8):(byteOf bs j).testBit (7-r)=bs.getD (8*j+r) false:=by
 rw[Nat.testBit_eq_decide_div_mod_eq]
 have key:byteOf bs j/2 ^ (7-r)%2=bt bs (8*j+r):=by
  unfold byteOf
  have h:=fun i=>bt_le bs i
  have h0:=h (8*j);have h1:=h (8*j+1);have h2:=h (8*j+2);have h3:=h (8*j+3)
  have h4:=h (8*j+4);have h5:=h (8*j+5);have h6:=h (8*j+6);have h7:=h (8*j+7)
  match r,hr with
  |0,_=>show _/128 %2=bt bs (8*j);omega
  |1,_=>show _/64 %2= _;omega
  |2,_=>show _/32 %2= _;omega
  |3,_=>show _/16 %2= _;omega
  |4,_=>show _/8 %2= _;omega
  |5,_=>show _/4 %2= _;omega
  |6,_=>show _/2 %2= _;omega
  |7,_=>show _/1 %2= _;omega
 rw[key]
 unfold bt
 cases bs.getD (8*j+r) false<;>rfl
theorem strOf_list(xs:List Nat):(strOf xs).data.toList=xs.map UInt8.ofNat:=by
 unfold strOf
 rw[strOfNums_data,List.map_map]
 apply List.map_congr_left
 intro x _
 show UInt8.ofNat ((x:Int)).toNat= _
 rw[show((x:Int)).toNat=x by omega]
theorem strOf_size(xs:List Nat):(strOf xs).size=xs.length:=by
 have:(strOf xs).data.toList.length=(strOf xs).size:=by simp
 rw[←this,strOf_list,List.length_map]
theorem bit_pack(bs:List Bool)(i:Nat)(h:i<8*nby bs.length):bit (strOf (pack bs)) i=bs.getD i false:=by
 unfold bit byt
 have hj:i/8<nby bs.length:=by omega
 have e:(strOf (pack bs)).data.toList.getD (i/8) 0=UInt8.ofNat (byteOf bs (i/8)):=by
  rw[strOf_list,List.getD_eq_getElem?_getD,List.getElem?_map,pack_get _ _ hj]
  rfl
 rw[e,UInt8.toNat_ofNat',Nat.mod_eq_of_lt (byteOf_lt _ _),byteOf_test _ _ _ (Nat.mod_lt _ (by decide))]
 congr 1
 omega
theorem pack_size(bs:List Bool):(strOf (pack bs)).size=nby bs.length:=by rw[strOf_size,pack_length]
structure Pre(d:ByteArray)(a:Nat)(bs:List Bool):Prop where
 room:a+bs.length≤8*d.size
 bits:∀i,i<bs.length→bit d (a+i)=bs.getD i false
theorem Pre.drop {d:ByteArray} {a:Nat} {x y:List Bool}(h:Pre d a (x++y)):Pre d (a+x.length) y:=by
 refine⟨by have:=h.room;rw[List.length_append]at this;omega,fun i hi=> ?_⟩
 have:=h.bits (x.length+i) (by rw[List.length_append];omega)
 rw[Nat.add_assoc,this,List.getD_eq_getElem?_getD,List.getElem?_append_right (by omega),List.getD_eq_getElem?_getD]
 congr 2
 omega
theorem pre_pack(bs:List Bool):Pre (strOf (pack bs)) 0 bs:=by
 refine⟨by rw[pack_size];unfold nby;omega,fun i hi=> ?_⟩
 rw[Nat.zero_add,bit_pack _ _ (by unfold nby;omega)]
theorem val_bits(d:ByteArray)(a k n:Nat)(hn:n<2 ^ k)(h:∀i,i<k→bit d (a+i)=n.testBit (k-1-i)):val d a k=n:=by
 have key:∀j,j≤k→val d a j=n/2 ^ (k-j):=by
  intro j
  induction j with
  |zero=>intro _;rw[Nat.sub_zero,Nat.div_eq_of_lt hn];rfl
  |succ j ih=>
   intro hj
   rw[val,ih (by omega),h j (by omega),Nat.testBit_eq_decide_div_mod_eq]
   rw[show k-1-j=k-(j+1)by omega,show k-j=(k-(j+1))+1 by omega,Nat.pow_succ,←Nat.div_div_eq_div_mul]
   generalize n/2 ^ (k-(j+1))=m
   rcases Nat.mod_two_eq_zero_or_one m with e|e<;>rw[e]<;>simp<;>omega
 have:=key k (Nat.le_refl _)
 rwa[Nat.sub_self,Nat.pow_zero,Nat.div_one]at this
theorem pack_rest(bs:List Bool):val (strOf (pack bs)) bs.length (8*(strOf (pack bs)).size-bs.length)=0:=by
 refine val_bits _ _ _ 0 (Nat.two_pow_pos _) fun i hi=> ?_
 rw[pack_size]at hi
 rw[bit_pack _ _ (by omega),List.getD_eq_getElem?_getD,List.getElem?_eq_none (by omega),Nat.zero_testBit]
 rfl
theorem uns_pre {d:ByteArray} {a k n:Nat} {rest:List Bool}(h:Pre d a (bitsOf k n++rest))(hn:n<2 ^ k):uns d k (some a)=(n,some (a+k))∧Pre d (a+k) rest:=by
 have hd:=h.drop
 rw[bitsOf_length]at hd
 refine⟨?_,hd⟩
 have hr:=h.room
 rw[List.length_append,bitsOf_length]at hr
 have e:uns d k (some a)=(val d a k,some (a+k)):=if_neg (by omega)
 rw[e,val_bits d a k n hn (fun i hi=> ?_)]
 rw[h.bits i (by rw[List.length_append,bitsOf_length];omega),List.getD_eq_getElem?_getD,List.getElem?_append_left (by rw[bitsOf_length];exact hi),bitsOf_get _ _ _ hi]
 rfl
theorem flag_pre {d:ByteArray} {a:Nat} {b:Bool} {rest:List Bool}(h:Pre d a ([b]++rest)):uns d 1 (some a)=(b.toNat,some (a+1))∧Pre d (a+1) rest:=by
 have e: [b]=bitsOf 1 b.toNat:=by cases b<;>rfl
 rw[e]at h
 exact uns_pre h (by cases b<;>decide)
def sptB(p:Spt):List Bool:=bitsOf 9 p.slot.toNat++bitsOf 4 p.off.toNat
def sptsB(l:List Spt):List Bool:=bitsOf 4 l.length++l.flatMap sptB
def SptR(p:Spt):Prop:=0≤p.slot∧p.slot<512∧0≤p.off∧p.off<16
theorem sptB_len(p:Spt):(sptB p).length=13:=by unfold sptB;rw[List.length_append,bitsOf_length,bitsOf_length]
def rdV(B:Nat):Value:= .func (.func 53) #[.pointer (some ⟨B,0,none⟩)] #[]
def PlPost(B:Nat)(s:ByteArray)(a:Nat)(l:List Spt)(rest:List Bool)(w:World)(e:Ending)(w':World):Prop:=∃A c,e= .returned (.slice A l.length c)∧w'.ownsRow w.heap.size 97 2 (.slice A l.length c) l.length (l.flatMap sptE)∧w.grownBy w' (some B)∧RdIs 169 w' B s (some a)∧Pre s a rest
theorem uns_at {d:ByteArray} {a k:Nat} {n:Int} {rest:List Bool}(h:Pre d a (bitsOf k n.toNat++rest))(h0:0≤n)(hn:n<2 ^ k):((uns d k (some a)).1:Int)=n∧(uns d k (some a)).2=some (a+k)∧Pre d (a+k) rest:=by
 obtain⟨e,hp⟩:=uns_pre h (by have:((n.toNat:Nat):Int)<((2 ^ k:Nat):Int):=by rw[Int.toNat_of_nonneg h0];exact_mod_cast hn
                             exact Int.ofNat_lt.1 this)
 rw[e]
 exact⟨Int.toNat_of_nonneg h0,rfl,hp⟩
theorem rdU_any(B:Nat)(s:ByteArray)(hs:s.size≤100000)(k:Nat)(n:Int)(r:List Bool)(a:Nat)(W:World)(h1:1≤k)(h2:k≤62)(h:RdIs 169 W B s (some a))(hp:Pre s a (bitsOf k n.toNat++r))(h0:0≤n)(hn:n<2 ^ k):Calls Tryz.prog 53 #[.pointer (some ⟨B,0,none⟩),.int .i64 k] W (fun e w'=>e= .returned (.int .i64 n)∧W.grownBy w' (some B)∧RdIs 169 w' B s (some (a+k))∧Pre s (a+k) r):=by
 obtain⟨u1,u2,u3⟩:=uns_at hp h0 hn
 have:=rUns_any k B s (some a) W h1 h2 hs h
 rw[u1,u2]at this
 exact this.mono fun e w' ⟨x,y,z⟩=>⟨x,y,z,u3⟩
theorem rdF_any(B:Nat)(s:ByteArray)(hs:s.size≤100000)(b:Bool)(r:List Bool)(a:Nat)(W:World)(h:RdIs 169 W B s (some a))(hp:Pre s a ([b]++r)):Calls Tryz.prog 54 #[.pointer (some ⟨B,0,none⟩)] W (fun e w'=>e= .returned (.bool b)∧W.grownBy w' (some B)∧RdIs 169 w' B s (some (a+1))∧Pre s (a+1) r):=by
 obtain⟨u1,u2⟩:=flag_pre hp
 have:=rFlg_any B s (some a) W hs h
 rw[u1]at this
 exact this.mono fun e w' ⟨x,y,z⟩=>⟨by rw[x];cases b<;>rfl,y,z,u2⟩
theorem own_ne_of {w:World} {s n B M:Nat} {e:TypeId} {v:Value} {xs:List Value}(h:w.ownsRow M e s v n xs)(hB:B<M):v.ownBlock≠some B:=fun e1=>by have:=(h.lt B e1).1;omega
theorem places_any(B a:Nat)(s:ByteArray)(l:List Spt)(rest:List Bool)(w:World)(hs:s.size≤100000)(hl:l.length≤8)(hg:∀p∈l,SptR p)(hR:RdIs 169 w B s (some a))(hp:Pre s a (sptsB l++rest)):
 Calls Tryz.prog 55 #[rdV B] w (PlPost B s (a+(sptsB l).length) l rest w):=by
 have cU:=fun k n r a W h1 h2=>rdU_any B s hs k n r a W h1 h2
 have hp1:Pre s a (bitsOf 4 ((l.length:Int)).toNat++(l.flatMap sptB++rest)):=by unfold sptsB at hp;rw[List.append_assoc]at hp;exact hp
 have hBl:=hR.lt
 have hL:(sptsB l).length=4+13*l.length:=by
  unfold sptsB
  rw[List.length_append,bitsOf_length]
  congr 1
  clear hp hp1 hg hl
  induction l with
  |nil=>rfl
  |cons x l ih=>rw[List.flatMap_cons,List.length_append,sptB_len,ih,List.length_cons];omega
 rw[hL]
 have hdr:=fun k (hk:k<l.length)=>(show(l.drop k).flatMap sptB++rest=bitsOf 9 (l.getD k default).slot.toNat++(bitsOf 4 (l.getD k default).off.toNat++((l.drop (k+1)).flatMap sptB++rest))from by
  rw[List.drop_eq_getElem_cons hk,List.flatMap_cons,List.getD_eq_getElem?_getD,List.getElem?_eq_getElem hk]
  unfold sptB
  simp only[List.append_assoc,Option.getD_some])
 have htk:=fun k (hk:k<l.length)=>take_snoc (xs:=l) (k:=k) hk
 have hgk:=fun k (hk:k<l.length)=>ok_at hg hk
 have hlk:=fun k (hk:k≤l.length)=>(show(l.take k).length=k from by rw[List.length_take];omega)
 have hP:∀A c w',w'.ownsRow w.heap.size 97 2 (.slice A l.length c) l.length (l.flatMap sptE)→w.grownBy w' (some B)→RdIs 169 w' B s (some (a+(4+13*l.length)))→Pre s (a+(4+13*l.length)) rest→PlPost B s (a+(4+13*l.length)) l rest w (.returned (.slice A l.length c)) w':=fun A c w' h1 h2 h3 h4=>⟨A,c,rfl,h1,h2,h3,h4⟩
 generalize PlPost B s (a+(4+13*l.length)) l rest w=P at*
 clear hp hg hL
 generalize hn:l.length=n at*
 refine zh9 ?_ cU hp1 hR hdr htk hgk hlk hP hn;clear cU hp1 hR hdr htk hgk hlk hP hn;intro cU hp1 hR hdr htk hgk hlk hP hn
 go_enter Tryz.func55,Tryz.ntmps55
 unfold rdV
 go_wp2_with fail
 refine(cU 4 _ _ _ _ (by omega) (by omega) hR.out hp1.out (by omega) (by omega)).mono ?_
 rintro e w1 ⟨rfl,hG,hR1,hp2⟩
 have hmin:min (n:Int) 8=(n:Int):=by omega
 refine zh3 ?_ hG hR1 hp2;clear hG hR1 hp2;intro hG hR1 hp2
 go_wp2_with fail
 go_loopw[3,7] (fun v i wr=>Hid (∃(k:Nat) (A:Option Addr) (c:Nat),k≤n∧i= .int .i64 k∧v= .slice A k c∧Hid (wr.ownsRow w.heap.size 97 2 (.slice A k c) k ((l.take k).flatMap sptE))∧Hid (w.grownBy wr (some B))∧Hid (RdIs 169 wr B s (some (a+(4+13*k))))∧Hid (Pre s (a+(4+13*k)) ((l.drop k).flatMap sptB++rest)))) (fun _ i _=>n-(intOf i).toNat)
 case atStart=>exact Zh ⟨0,none,0,by omega,rfl,rfl,World.ownsRow_nil _ _ _ _,hG,hR1,hp2⟩
 case round=>
  clear hR1 hG hp2
  obtain⟨k,A,c,hk,rfl,rfl,HO,HG,HR,HP⟩:=hrel.out
  clear hrel
  by_cases hlt2:k<n
  ·have h1:=hdr.out k hlt2
   have h2:=htk.out k hlt2
   obtain⟨s0,s1,o0,o1⟩:=hgk.out k hlt2
   have h3:=hlk.out k (by omega)
   generalize l.getD k default=y at*
   obtain⟨x0,x1⟩:=y
   dsimp only at*
   have r1:(k:Int)<(n:Int):=by omega
   rw[h1]at HP
   refine zh3 ?_ h1 h2 h3;clear h1 h2 h3;intro h1 h2 h3
   go_wp2_with fail
   refine(cU 9 _ _ _ _ (by omega) (by omega) HR.out HP.out s0 s1).mono ?_
   rintro e w2 ⟨rfl,hG2,hR2,hP2⟩
   have hne:=own_ne_of HO.out hBl
   replace HO:=Zh (HO.kept hG2 (.inr hne))
   replace HG:=Zh (gbt HG.out hG2)
   clear HR HP hG2 hne
   replace hR2:=Zh hR2
   replace hP2:=Zh hP2
   go_wp2_with fail
   refine(cU 4 _ _ _ _ (by omega) (by omega) hR2.out hP2.out o0 o1).mono ?_
   rintro e w3 ⟨rfl,hG2,hR3,hP3⟩
   have hne:=own_ne_of HO.out hBl
   replace HO:=Zh (HO.kept hG2 (.inr hne))
   replace HG:=Zh (gbt HG.out hG2)
   clear hR2 hP2 hG2 hne s0 s1 o0 o1
   replace hR3:=Zh hR3
   replace hP3:=Zh hP3
   have hsz:=HG.size
   go_wp2_with(at_builtin;refine wpList_append_sls eltS _ rfl _ _ rfl w.heap.size (.slice A k c) (l.take k) rfl (by rw[h3.out];exact HO.alloc _) _ 1 1 [⟨x0,x1⟩] rfl (Sls.one (Blk.new _ _ _)) (by rw[h3.out];simp;omega) (by simp;omega) ?_;intro v1 w6 HO1 HG1 _;rw[List.length_append,h3.out,List.length_singleton,←h2.out]at HO1;obtain⟨A3,c3,rfl⟩:=own_slice HO1;replace HO1:=Zh HO1)
   have hR4:Hid (RdIs 169 w6 B s (some (a+(4+13*(k+1))))):=by
    rw[show a+(4+13*(k+1))=a+(4+13*k)+9+4 by omega]
    exact⟨(hR3.1.alloc _).grown HG1 (own_ne_of HO.out hBl),hR3.2⟩
   rw[show a+(4+13*k)+9+4=a+(4+13*(k+1))by omega]at hP3
   have hG6:=Zh (gb_new (gbt HG.out (gbb (ball _ _))) HG1 (fun q e=>(HO.lt q e).1))
   exact⟨Zh ⟨k+1,A3,c3,by omega,by go_num,rfl,HO1,hG6,hR4,hP3⟩,by simp[intOf];omega⟩
  ·have hkn:k=n:=by omega
   subst hkn
   have hT:l.take k=l:=by rw[←hn.out];exact List.take_length
   have hD:l.drop k= []:=by rw[←hn.out];exact List.drop_length
   rw[hT]at HO
   rw[hD]at HP
   go_wp2_with fail
   exact hP.out _ _ _ HO.out HG.out HR.out HP.out
end Cp
end Go.Proofs.YtfamifgchgolpaaGreat
