/- TopAgreement: mirrorWorks. -/
import Derived.Test.YtfamifgchgolpaaGreatWk
import Derived.Test.YtfamifgchgolpaaGreatSr
set_option linter.unusedVariables false
set_option linter.unusedSimpArgs false
namespace Go.Proofs.YtfamifgchgolpaaGreat
open Go Go.RowKit Go.Sort Go.Shelf Go.Maps
namespace Tx
open Sw Mm Pl
def mw0:Cpl:=freshC ⟨1,4,[]⟩ ⟨2,4,[]⟩ [0,1,0,0] 9
def mwL:List Wsh:= [⟨false,0,0,⟨false,false,false,false⟩⟩,⟨false,1,1,⟨false,false,false,false⟩⟩]
def mwD:Cpl:=runCN mw0 mwL
theorem mw_facts:newCC ⟨1,4,[]⟩ ⟨2,4,[]⟩ [0,1,0,0] 9=0∧newCN ⟨1,4,[]⟩ ⟨2,4,[]⟩ [0,1,0,0] 9=mw0∧runC mw0 mwL=0∧runCB mw0 mwL= [true,true]∧fullC mwD.left mwD.a=0∧fullC mwD.right mwD.b=0∧(fullN mwD.left mwD.a).cells.length=1∧consB mwD.a mwD.b=true:=by decide+kernel
theorem mw_mirr:chkT (fullN mwD.left mwD.a)=0∧chkT (fullN mwD.right mwD.b)=0∧(fullN mwD.left mwD.a).node≠(fullN mwD.right mwD.b).node∧(fullN mwD.left mwD.a).length=(fullN mwD.right mwD.b).length∧oppN (betwN (fullN mwD.left mwD.a) (fullN mwD.right mwD.b).node) (betwN (fullN mwD.right mwD.b) (fullN mwD.left mwD.a).node)=true:=by decide+kernel
theorem mw_ok:MirrOk (fullN mwD.left mwD.a) (fullN mwD.right mwD.b):=by
 obtain⟨a,b,c,d,e⟩:=mw_mirr
 exact⟨a,b,c,d,e⟩
theorem mw_free {w:World} {B:Nat} {t:TypeId}(h:Blk w B #[.int .i64 0,.int .i64 1,.int .i64 0,.int .i64 0] t):IntS w (some ⟨B,0,none⟩) 4 [0,1,0,0]where
 len:=rfl
 small:=by unfold maxLen;omega
 at_:=fun _=>⟨B,0,rfl,h.lt,fun i hi j hj=>by
  obtain rfl:j=0:=by omega
  rw[show 0+i*1+0=i by omega,h.cell]
  rcases(by omega:i=0∨i=1∨i=2∨i=3)with rfl|rfl|rfl|rfl<;>rfl⟩
theorem mw_wish {w:World} {B:Nat} {t:TypeId}(h:Blk w B #[.bool false,.int .i64 0,.int .i64 0,.bool false,.bool false,.bool false,.bool false,.bool false,.int .i64 1,.int .i64 1,.bool false,.bool false,.bool false,.bool false] t):WshS w (some ⟨B,0,none⟩) 2 mwL where
 len:=rfl
 small:=by unfold maxLen;omega
 at_:=fun _=>⟨B,0,rfl,h.lt,fun i hi j hj=>by
  rw[h.cell]
  rcases(by omega:i=0∨i=1)with rfl|rfl<;>rcases(by omega:j=0∨j=1∨j=2∨j=3∨j=4∨j=5∨j=6)with rfl|rfl|rfl|rfl|rfl|rfl|rfl<;>rfl⟩
end Tx
end Go.Proofs.YtfamifgchgolpaaGreat
