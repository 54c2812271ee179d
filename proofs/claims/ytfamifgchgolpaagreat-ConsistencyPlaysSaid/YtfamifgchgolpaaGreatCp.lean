/- A slice of wishes among the arguments, opened. -/
import Derived.Test.YtfamifgchgolpaaGreatCo
import Derived.Test.YtfamifgchgolpaaGreatEp
set_option linter.unusedVariables false
set_option linter.unusedSimpArgs false
namespace Go.Proofs.YtfamifgchgolpaaGreat
open Go Go.RowKit
namespace Tx
open Op
section
variable {H:Type} {enc:TypeId×Value→H} {W:World} {sp:Nat→Bool} {held:Bool} {fuel:Nat} {A:Option Addr} {n c:Nat} {x:DataW H×List MemPlace}
theorem in_take {cs:List Value} {o:Nat} {v:Value}(h:((cs.drop 3).take 4)[o]? =some v):cs[3+o]? =some v:=by
 rw[List.getElem?_take]at h
 split at h
 ·rwa[List.getElem?_drop]at h
 ·cases h
theorem wsh_open {cs':List Value} {m:Nat} {y:DataW H×List MemPlace}(hh:DataW.trod enc Tryz.prog W 0 sp held m 42 cs'=some y):∃x:Wsh,True∧∀j,j<7→cs'[j]? =(wshE x)[j]? :=by
 obtain⟨hl,hf⟩:=Frame.trod_struct' Tryz.underlying42 hh
 obtain⟨_,_,g0⟩:=hf 0 _ rfl
 obtain⟨_,_,g1⟩:=hf 1 _ rfl
 obtain⟨_,_,g2⟩:=hf 2 _ rfl
 obtain⟨_,_,g3⟩:=hf 3 _ rfl
 obtain⟨v0,e0⟩:=at_bool Tryz.underlying4 (by kernel_rfl) g0
 obtain⟨v1,k1,e1⟩:=at_int Tryz.underlying3 (by kernel_rfl) g1
 obtain⟨v2,k2,e2⟩:=at_int Tryz.underlying3 (by kernel_rfl) g2
 obtain⟨hl2,hf2⟩:=Frame.trod_struct' Tryz.underlying40 g3
 obtain⟨_,_,f0⟩:=hf2 0 _ rfl
 obtain⟨_,_,f1⟩:=hf2 1 _ rfl
 obtain⟨_,_,f2⟩:=hf2 2 _ rfl
 obtain⟨_,_,f3⟩:=hf2 3 _ rfl
 obtain⟨v3,e3⟩:=at_bool Tryz.underlying4 (by kernel_rfl) f0
 obtain⟨v4,e4⟩:=at_bool Tryz.underlying4 (by kernel_rfl) f1
 obtain⟨v5,e5⟩:=at_bool Tryz.underlying4 (by kernel_rfl) f2
 obtain⟨v6,e6⟩:=at_bool Tryz.underlying4 (by kernel_rfl) f3
 have hc4:Tryz.prog.cellsOf 40=4:=by kernel_rfl
 replace e3:((cs'.drop 3).take (Tryz.prog.cellsOf 40))[0]? =some (.bool v3):=e3
 replace e4:((cs'.drop 3).take (Tryz.prog.cellsOf 40))[1]? =some (.bool v4):=e4
 replace e5:((cs'.drop 3).take (Tryz.prog.cellsOf 40))[2]? =some (.bool v5):=e5
 replace e6:((cs'.drop 3).take (Tryz.prog.cellsOf 40))[3]? =some (.bool v6):=e6
 rw[hc4]at e3 e4 e5 e6
 replace e3:=in_take e3
 replace e4:=in_take e4
 replace e5:=in_take e5
 replace e6:=in_take e6
 exact⟨⟨v0,v1,v2,⟨v3,v4,v5,v6⟩⟩,trivial,fun j hj=>match j,hj with
  |0,_=>e0
  |1,_=>e1
  |2,_=>e2
  |3,_=>e3
  |4,_=>e4
  |5,_=>e5
  |6,_=>e6⟩
theorem open_wishes(h:DataW.trod enc Tryz.prog W 0 sp held fuel 25 [.slice A n c]=some x):∃xs,WshS W A n xs∧n≤c:=by
 obtain⟨xs,h1,_⟩:=open_sls Tryz.underlying25 (by kernel_rfl) (by decide) wshE wshE_len (fun _=>True) (fun hh=>wsh_open hh) h
 exact⟨xs,h1,cap_of Tryz.underlying25 h⟩
end
end Tx
end Go.Proofs.YtfamifgchgolpaaGreat
