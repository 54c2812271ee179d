/- bitio's writer: field, Unsigned, Flag, NewWriter, Bytes. -/
import Derived.Test.YtfamifgchgolpaaGreatWa
import Derived.Deep.QuietTactic
import Derived.Laws.BytesArg
set_option linter.unusedVariables false
set_option linter.unusedSimpArgs false
set_option maxRecDepth 100000
set_option maxHeartbeats 2000000
namespace Go.Proofs.YtfamifgchgolpaaGreat
open Go Go.RowKit Go.Sort
namespace Cp
open Mm
def WrIs(w:World)(base B:Nat)(D:Nat→Prop)(bs:List Bool):Prop:=∃v,WrV w base B D v bs
def WrPost(base B:Nat)(D:Nat→Prop)(bs:List Bool)(w:World)(e:Ending)(w':World):Prop:=e= .returned (.tuple #[])∧Apart base B D w w'∧WrIs w' base B D bs
theorem field_any(width n base B:Nat)(D:Nat→Prop)(bs:List Bool)(w:World)(h1:1≤width)(hw:width≤63)(hn:n≤9223372036854775807)(hW:WrIs w base B D bs)(hbase:base≤w.heap.size)(hD:∀k,D k→k<w.heap.size)(hlen:bs.length+width≤524288):
 Calls Tryz.prog 119 #[.pointer (some ⟨B,0,none⟩),.bool true,.bool true,.int .i64 width,.int .i64 n] w (WrPost base B D (bs++bitsOf width n) w):=by
 obtain⟨v,hV⟩:=hW
 have kb1:=hV.blk.cell 1
 have kb2:=hV.blk.cell 2
 have c:=Zh (put_any width n base B D bs v w hw (by omega) hV hbase hD hlen)
 have d:¬(524288:Int)<(bs.length:Int)+(width:Int):=by omega
 replace hV:=Zh hV
 go_enter Tryz.func119,Tryz.ntmps119
 go_wp2_with fail
 refine c.mono ?_
 rintro e w1 ⟨rfl,hA,v',hV'⟩
 replace hA:=Zh hA
 replace hV':=Zh hV'
 clear kb1 kb2 c
 go_wp2_with fail
 go_end0
 exact⟨rfl,hA.out,v',hV'.out⟩
theorem unsigned_any(width n base B:Nat)(D:Nat→Prop)(bs:List Bool)(w:World)(h1:1≤width)(hw:width≤63)(hn:n<2 ^ width)(hW:WrIs w base B D bs)(hbase:base≤w.heap.size)(hD:∀k,D k→k<w.heap.size)(hlen:bs.length+width≤524288):
 Calls Tryz.prog 49 #[.pointer (some ⟨B,0,none⟩),.int .i64 width,.int .i64 n] w (WrPost base B D (bs++bitsOf width n) w):=by
 have hn2:n≤9223372036854775807:=by
  have:2 ^ width≤2 ^ 63:=Nat.pow_le_pow_right (by decide) hw
  omega
 have c:=Zh (field_any width n base B D bs w h1 hw hn2 hW hbase hD hlen)
 have hl:=Lib.bitLen_le n width (by omega) hn
 have cl:=Tryz.bits_Len (n:Int) w (by omega) (by omega)
 rw[show((n:Int)).toNat=n by omega]at cl
 have r1:((Lib.bitLen n:Nat):Int)≤(width:Int):=by omega
 generalize Lib.bitLen n=L at*
 have cl2:=Zh cl
 have a1:(1:Int)≤(width:Int):=by omega
 have a2:(width:Int)≤63:=by omega
 clear hn hl cl
 replace hW:=Zh hW
 go_enter Tryz.func49,Tryz.ntmps49
 go_wp2_with fail
 refine cl2.mono ?_
 rintro e w1 ⟨rfl,rfl⟩
 go_wp2_with fail
 refine c.mono ?_
 rintro e w1 hp
 obtain⟨rfl,hA,hV'⟩:=hp
 replace hA:=Zh hA
 replace hV':=Zh hV'
 clear c
 go_wp2_with fail
 go_end0
 exact⟨rfl,hA.out,hV'.out⟩
theorem flag_any(b:Bool)(base B:Nat)(D:Nat→Prop)(bs:List Bool)(w:World)(hW:WrIs w base B D bs)(hbase:base≤w.heap.size)(hD:∀k,D k→k<w.heap.size)(hlen:bs.length+1≤524288):
 Calls Tryz.prog 50 #[.pointer (some ⟨B,0,none⟩),.bool b] w (WrPost base B D (bs++ [b]) w):=by
 have e1:bs++ [b]=bs++bitsOf 1 b.toNat:=by cases b<;>rfl
 rw[e1]
 have c:=Zh (field_any 1 b.toNat base B D bs w (by omega) (by omega) (by cases b<;>simp) hW hbase hD hlen)
 replace hW:=Zh hW
 replace e1:=Zh e1
 go_enter Tryz.func50,Tryz.ntmps50
 cases b
 all_goals
  go_wp2_with fail
  refine c.mono ?_
  rintro e w1 hp
  obtain⟨rfl,hA,hV'⟩:=hp
  replace hA:=Zh hA
  replace hV':=Zh hV'
  clear c
  go_wp2_with fail
  go_end0
  exact⟨rfl,hA.out,hV'.out⟩
theorem WrV.new(w:World)(D:Nat→Prop):WrV (w.alloc (.cells #[.slice none 0 0,.int .i64 0,.int .i64 0] 164)) (w.heap.size+1) w.heap.size D (.slice none 0 0) []:=
 ⟨Blk.new w _ _,World.ownsRow_nil _ _ _ _,by omega,fun g e=>by simp[Value.ownBlock]at e⟩
theorem WrIs.alloc {w:World} {base B:Nat} {D:Nat→Prop} {bs:List Bool}(h:WrIs w base B D bs)(o:Obj):WrIs (w.alloc o) base B (fun k=>D k∨k=w.heap.size) bs:=by
 obtain⟨v,hV⟩:=h
 exact⟨v,hV.blk.alloc o,hV.own.alloc o,hV.lt,fun g e hd=>by
  rcases hd with hd|hd
  ·exact hV.far g e hd
  ·have:=(hV.own.lt g e).2;omega⟩
theorem newWriter_any(w:World):
 Calls Tryz.prog 48 #[] w fun e w'=>e= .returned (.pointer (some ⟨w.heap.size,0,none⟩))∧w'=w.alloc (.cells #[.slice none 0 0,.int .i64 0,.int .i64 0] 164):=by
 go_enter Tryz.func48,Tryz.ntmps48
 go_wp2_with fail
 go_ret
 exact⟨rfl,rfl⟩
def strOf(xs:List Nat):ByteArray:=strOfNums (xs.map fun x:Nat=>(x:Int))
theorem convert_own {w:World} {base n:Nat} {v:Value} {xs:List Nat}(h:w.ownsRow base 5 1 v n (xs.map u8V)):(convert 22 9 v).run Tryz.prog w= .ok (.string (strOf xs)) w:=by
 have hl:xs.length=n:=by have:=h.1;simpa using this
 rcases h.2 with⟨hv,h0⟩|⟨g,cap,cur,hv,_⟩
 ·subst hv
  have:xs= []:=List.length_eq_zero_iff.1 (by omega)
  subst this
  exact run_convert_bytes_nil w _ _ Tryz.underlying22 Tryz.underlying5 _ _ _ Tryz.underlying9
 ·subst hv
  refine run_convert_bytes_arg w _ _ Tryz.underlying22 Tryz.underlying5 g 0 n cap _ (by simpa using hl) (fun i hi=> ?_) _ Tryz.underlying9
  rw[Nat.zero_add,h.cellAt i (by omega),List.getElem?_map,List.getD_eq_getElem?_getD,List.getElem?_map,List.getElem?_eq_getElem (by omega)]
  rfl
theorem wbytes_any(base B:Nat)(D:Nat→Prop)(bs:List Bool)(w:World)(hW:WrIs w base B D bs):
 Calls Tryz.prog 51 #[.pointer (some ⟨B,0,none⟩)] w fun e w'=>e= .returned (.tuple #[.string (strOf (pack bs)),.int .i64 0])∧w=w':=by
 obtain⟨v,hV⟩:=hW
 have kb0:=hV.blk.cell 0
 have kb2:=hV.blk.cell 2
 have kc:=convert_own hV.own
 generalize strOf (pack bs)=S at*
 replace hV:=Zh hV
 go_enter Tryz.func51,Tryz.ntmps51
 go_wp2_with fail
 go_ret2
 exact⟨rfl,rfl⟩
end Cp
end Go.Proofs.YtfamifgchgolpaaGreat
