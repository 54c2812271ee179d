/- Chapter 52, plain: cells, changes, duties, schedules. -/
import Derived.WalkKit
set_option linter.unusedVariables false
set_option linter.unusedSimpArgs false
namespace Go.Proofs.Ytdlgdmbcbenlbaa
namespace Sw
structure Cel where
  slot : Int
  offset : Int
  frm : Int
  to : Int
  flow : Int
  deriving DecidableEq, Inhabited
structure Chg where
  slot : Int
  add : Bool
  cell : Cel
  deriving DecidableEq, Inhabited
structure Dut where
  cell : Cel
  sends : Bool
  extra : Bool
  first : Int
  til : Int
  deriving DecidableEq, Inhabited
structure Sch where
  length : Int
  offsets : Int
  cells : List Cel
  deriving DecidableEq, Inhabited
end Sw
end Go.Proofs.Ytdlgdmbcbenlbaa
