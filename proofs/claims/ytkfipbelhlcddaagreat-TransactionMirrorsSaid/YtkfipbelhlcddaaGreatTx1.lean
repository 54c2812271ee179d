/- Chapter 26: the data, and what the functions compute. -/
import Derived.Test.YtkfipbelhlcddaaGreatBs
set_option linter.unusedVariables false
set_option linter.unusedSimpArgs false
namespace Go.Proofs.YtkfipbelhlcddaaGreat
open Go Go.RowKit
namespace Tx
structure Spt where
  slot : Int
  off : Int
deriving DecidableEq, Inhabited
structure TCl where
  slot : Int
  off : Int
  kind : Int
  send : Bool
  peer : Int
  flow : Int
deriving DecidableEq, Inhabited
structure Msg where
  kind : Int
  reply : Bool
  number : Int
  code : Int
  count : Int
  spots : List Spt
  old : List Spt
deriving DecidableEq, Inhabited
structure Tab where
  node : Int
  length : Int
  cells : List TCl
deriving DecidableEq, Inhabited
structure Ed where
  node : Int
  peer : Int
  number : Int
  cells : List TCl
  opn : Bool
  since : Int
  asked : Msg
  known : Bool
  last : Msg
  reply : Msg
deriving DecidableEq, Inhabited
def msg0 : Msg := ⟨0, false, 0, 0, 0, [], []⟩
def tab0 : Tab := ⟨0, 0, []⟩
def ed0 : Ed := ⟨0, 0, 0, [], false, 0, msg0, false, msg0, msg0⟩
/-- the first fault among n -/
def fstF (F : Nat → Int) (n : Nat) : Int := match (List.range n).find? (fun i => F i != 0) with
  | some i => F i
  | none => 0
-- messages
def faultP (l : List Spt) (i : Nat) : Int :=
  if (l.getD i default).slot < 0 ∨ 512 ≤ (l.getD i default).slot ∨ (l.getD i default).off < 0 ∨ 16 ≤ (l.getD i default).off then 2
  else if 0 < i ∧ (l.getD i default).slot ≤ (l.getD (i - 1) default).slot then 5 else 0
def placesN (l : List Spt) : Int := fstF (faultP l) l.length
def follN (m : Msg) : Bool :=
  if m.reply = false ∧ m.code ≠ 0 then false
  else if m.code ≠ 0 then decide (m.count = 0) && (decide (m.spots.length = 0) && decide (m.old.length = 0))
  else if m.kind = 1 then decide (m.old.length = 0) && (decide (1 ≤ m.count) && (decide (m.count ≤ 8) && (decide (m.count = m.spots.length) || (!m.reply && decide (m.count < m.spots.length)))))
  else if m.kind = 2 then decide (m.spots.length = 0) && (decide (1 ≤ m.old.length) && decide (m.count = m.old.length))
  else if m.kind = 3 then decide (1 ≤ m.old.length) && (decide (m.count = m.old.length) && (decide (m.spots.length = m.old.length) || (!m.reply && decide (m.old.length < m.spots.length))))
  else if m.kind = 4 then decide (m.spots.length = 0) && (decide (m.old.length = 0) && (m.reply || decide (m.count = 0)))
  else if m.kind = 5 then decide (m.old.length = 0) && ((m.reply || decide (m.count = 0)) && decide ((m.spots.length : Int) = min 8 m.count))
  else decide (m.spots.length = 0) && (decide (m.old.length = 0) && decide (m.count = 0))
def chkM (m : Msg) : Int :=
  if m.kind < 1 ∨ 6 < m.kind then 1
  else if m.number < 0 ∨ 255 < m.number ∨ m.code < 0 ∨ 3 < m.code ∨ m.count < 0 ∨ 512 < m.count then 2
  else if 8 < m.spots.length ∨ 8 < m.old.length then 8
  else if placesN m.spots ≠ 0 then placesN m.spots
  else if placesN m.old ≠ 0 then placesN m.old
  else if follN m = false then 11 else 0
def amongN (l all : List Spt) : Bool := l.all fun s => decide (s ∈ all)
def ansN (q r : Msg) : Bool :=
  if chkM q ≠ 0 ∨ chkM r ≠ 0 ∨ q.reply = true ∨ r.reply = false ∨ q.kind ≠ r.kind ∨ q.number ≠ r.number then false
  else if r.code ≠ 0 then true
  else if q.kind = 1 then decide (r.count ≤ q.count) && amongN r.spots q.spots
  else if q.kind = 3 then decide (r.count ≤ q.count) && (amongN r.spots q.spots && amongN r.old q.old)
  else if q.kind = 2 then decide (r.old = q.old) else true
def accM (q : Msg) (count : Int) (l old : List Spt) : Msg := ⟨q.kind, true, q.number, 0, count, l, old⟩
def accC (q : Msg) (count : Int) (l old : List Spt) : Int := if chkM q ≠ 0 ∨ q.reply = true then 1 else if ansN q (accM q count l old) = false then 12 else 0
def accN (q : Msg) (count : Int) (l old : List Spt) : Msg := if accC q count l old = 0 then accM q count l old else msg0
def refC (q : Msg) (code : Int) : Int := if chkM q ≠ 0 ∨ q.reply = true then 1 else if code < 1 ∨ 3 < code then 2 else 0
def refN (q : Msg) (code : Int) : Msg := if refC q code = 0 then ⟨q.kind, true, q.number, code, 0, [], []⟩ else msg0
-- tables
def formN (c : TCl) (self length : Int) : Int :=
  if c.kind < 1 ∨ 3 < c.kind then 1
  else if (c.kind ≠ 1 ∧ c.flow ≠ -1) ∨ (c.kind = 3 ∧ (c.peer ≠ -1 ∨ c.send = true)) then 1
  else if c.slot < 0 ∨ length ≤ c.slot ∨ c.off < 0 ∨ 16 ≤ c.off then 2
  else if (c.kind ≠ 3 ∧ (c.peer < 0 ∨ 32 ≤ c.peer ∨ c.peer = self)) ∨ (c.kind = 1 ∧ c.flow < 0) then 2 else 0
def ltT (a b : TCl) : Prop := a.slot < b.slot ∨ (a.slot = b.slot ∧ a.kind < b.kind)
instance (a b : TCl) : Decidable (ltT a b) := by unfold ltT; infer_instance
def faultT (t : Tab) (i : Nat) : Int :=
  if formN (t.cells.getD i default) t.node t.length ≠ 0 then formN (t.cells.getD i default) t.node t.length
  else if 0 < i ∧ ¬ ltT (t.cells.getD (i - 1) default) (t.cells.getD i default) then 5 else 0
def chkT (t : Tab) : Int :=
  if t.node < 0 ∨ 32 ≤ t.node ∨ t.length < 1 ∨ 512 < t.length then 2 else if 512 < t.cells.length then 8 else fstF (faultT t) t.cells.length
def takenN (l : List TCl) (c : TCl) : Bool := l.any fun x => decide (x.slot = c.slot) && decide (x.kind = c.kind)
def putN (l : List TCl) (c : TCl) : List TCl := l.takeWhile (fun x => decide (ltT x c)) ++ c :: l.dropWhile (fun x => decide (ltT x c))
def addC (t : Tab) (c : TCl) : Int := if chkT t ≠ 0 then 1 else if formN c t.node t.length ≠ 0 then formN c t.node t.length else if takenN t.cells c = true then 16 else if t.cells.length = 512 then 8 else 0
def addN (t : Tab) (c : TCl) : Tab := if addC t c = 0 then ⟨t.node, t.length, putN t.cells c⟩ else tab0
def maskN (f : List Int) (length : Int) : Bool := decide ((f.length : Int) = length) && f.all fun n => decide (0 ≤ n) && decide (n < 65536)
def usedN (t : Tab) (slot : Int) : Bool := t.cells.any fun c => decide (c.slot = slot)
/-- bit k of n -/
def bitN (n k : Int) : Bool := decide (n / 2 ^ k.toNat % 2 = 1)
def fitsN (t : Tab) (f : List Int) (s : Spt) : Bool :=
  decide (chkT t = 0) && (maskN f t.length && (decide (0 ≤ s.slot) && (decide (s.slot < t.length) && (decide (0 ≤ s.off) && (decide (s.off < 16) && (bitN (f.getD s.slot.toNat 0) s.off && !usedN t s.slot))))))
/-- the first free offset of a slot -/
def offN (n : Int) : Option Nat := (List.range 16).find? fun k => bitN n k
def candS (t : Tab) (f : List Int) (slot : Nat) : List Spt := if usedN t slot = true then [] else match offN (f.getD slot 0) with
  | some k => [⟨slot, k⟩]
  | none => []
def candN (t : Tab) (f : List Int) (n : Nat) : List Spt := if chkT t = 0 ∧ maskN f t.length = true then ((List.range t.length.toNat).flatMap (candS t f)).take n else []
def betwN (t : Tab) (peer : Int) : List TCl := if chkT t = 0 then t.cells.filter fun c => decide (c.kind = 2) && decide (c.peer = peer) else []
-- ends
def nextN (n : Int) : Int := if n < 0 ∨ 255 < n then 0 else if n = 255 then 1 else n + 1
def zeroM (m : Msg) : Bool := decide (m = msg0)
def place (c : TCl) : Spt := ⟨c.slot, c.off⟩
def cellOk (e : Ed) (i : Nat) : Bool :=
  decide ((e.cells.getD i default).kind = 2) && (decide ((e.cells.getD i default).peer = e.peer) && (decide ((e.cells.getD i default).flow = -1) && (decide (0 ≤ (e.cells.getD i default).slot) && (decide ((e.cells.getD i default).slot ≤ 511) && (decide (0 ≤ (e.cells.getD i default).off) && (decide ((e.cells.getD i default).off ≤ 15) && (decide (i = 0) || decide ((e.cells.getD (i - 1) default).slot < (e.cells.getD i default).slot))))))))
def cellsOk (e : Ed) : Bool := (List.range e.cells.length).all (cellOk e) && (decide (e.number ≠ 0) || decide (e.cells.length = 0))
def hasN (e : Ed) (s : Spt) (send : Bool) : Bool := e.cells.any fun c => decide (c.slot = s.slot) && (decide (c.off = s.off) && decide (c.send = send))
def askedOk (e : Ed) : Bool :=
  if e.opn = false then zeroM e.asked && decide (e.since = 0)
  else decide (chkM e.asked = 0) && (!e.asked.reply && (decide (e.asked.number = e.number) && ((e.asked.old.all fun s => hasN e s true) && (e.asked.spots.all fun s => !(e.cells.any fun c => decide (c.slot = s.slot))))))
def knownOk (e : Ed) : Bool :=
  if e.known = false then zeroM e.last && zeroM e.reply
  else ansN e.last e.reply && (decide (e.reply.code = 0) && decide (e.number = if e.last.kind = 6 then 0 else nextN e.last.number))
def chkE (e : Ed) : Int :=
  if e.node < 0 ∨ 31 < e.node ∨ e.peer < 0 ∨ 31 < e.peer ∨ e.number < 0 ∨ 255 < e.number ∨ e.since < 0 ∨ 1099511627776 < e.since then 2
  else if e.node = e.peer ∨ cellsOk e = false ∨ askedOk e = false ∨ knownOk e = false then 1 else 0
def startE (node peer : Int) : Ed := ⟨node, peer, 0, [], false, 0, msg0, false, msg0, msg0⟩
def startC (node peer : Int) : Int := if node < 0 ∨ 31 < node ∨ peer < 0 ∨ 31 < peer ∨ node = peer then 2 else 0
def startN (node peer : Int) : Ed := if startC node peer = 0 then startE node peer else ed0
/-- the table with some cells more; the code is that of the first one that does not fit -/
def addsN (t : Tab) : List TCl → Option Tab
  | [] => some t
  | c :: l => if addC t c = 0 then addsN (addN t c) l else none
def fullC (t : Tab) (e : Ed) : Int :=
  if chkE e ≠ 0 ∨ chkT t ≠ 0 ∨ t.node ≠ e.node ∨ (betwN t e.peer).length ≠ 0 then 1 else if addsN t e.cells = none then 16 else 0
def fullN (t : Tab) (e : Ed) : Tab := if fullC t e = 0 then (addsN t e.cells).getD tab0 else tab0
def sendsN (e : Ed) : List Spt := (e.cells.filter fun c => c.send).map place
def countsN (kind count : Int) : Bool := if kind ≤ 3 then decide (1 ≤ count) && decide (count ≤ 8) else decide (count = 0)
def askM (e : Ed) (t : Tab) (f : List Int) (kind count : Int) : Msg :=
  ⟨kind, false, e.number, 0, count, if kind = 1 ∨ kind = 3 then candN (fullN t e) f 8 else [], if kind = 2 then (sendsN e).drop ((sendsN e).length - count.toNat) else if kind = 3 then (sendsN e).take count.toNat else []⟩
def askC (e : Ed) (t : Tab) (f : List Int) (kind count slot : Int) : Int :=
  if fullC t e ≠ 0 then fullC t e
  else if kind < 1 ∨ 6 < kind ∨ slot < 0 ∨ 1099511627776 < slot ∨ countsN kind count = false then 2
  else if e.opn = true then 12
  else if (kind = 1 ∨ kind = 3) ∧ ((candN (fullN t e) f 8).length : Int) < count then 14
  else if (kind = 2 ∨ kind = 3) ∧ ((sendsN e).length : Int) < count then 14 else 0
def openE (e : Ed) (m : Msg) (slot : Int) : Ed := { e with opn := true, since := slot, asked := m }
def askE (e : Ed) (t : Tab) (f : List Int) (kind count slot : Int) : Ed := if askC e t f kind count slot = 0 then openE e (askM e t f kind count) slot else ed0
def askN (e : Ed) (t : Tab) (f : List Int) (kind count slot : Int) : Msg := if askC e t f kind count slot = 0 then askM e t f kind count else msg0
def ascN (l : List Spt) : Bool := (List.range l.length).all fun i => decide (i = 0) || decide ((l.getD (i - 1) default).slot < (l.getD i default).slot)
def movM (e : Ed) (t : Tab) (f : List Int) (old : List Spt) : Msg := ⟨3, false, e.number, 0, old.length, candN (fullN t e) f 8, old⟩
def movC (e : Ed) (t : Tab) (f : List Int) (old : List Spt) (slot : Int) : Int :=
  if fullC t e ≠ 0 then fullC t e
  else if slot < 0 ∨ 1099511627776 < slot ∨ old.length < 1 ∨ 8 < old.length then 2
  else if e.opn = true then 12
  else if (old.all fun s => hasN e s true) = false then 7
  else if ascN old = false then 5
  else if (candN (fullN t e) f 8).length < old.length then 14 else 0
def movE (e : Ed) (t : Tab) (f : List Int) (old : List Spt) (slot : Int) : Ed := if movC e t f old slot = 0 then openE e (movM e t f old) slot else ed0
def movN (e : Ed) (t : Tab) (f : List Int) (old : List Spt) (slot : Int) : Msg := if movC e t f old slot = 0 then movM e t f old else msg0
def newC (e : Ed) (send : Bool) (s : Spt) : TCl := ⟨s.slot, s.off, 2, send, e.peer, -1⟩
/-- the cells behind a change -/
def chgN (e : Ed) (old spots : List Spt) (send : Bool) : List TCl := (spots.map (newC e send)).foldl putN (e.cells.filter fun c => !decide (place c ∈ old))
def lisN (e : Ed) (l : List Spt) : Bool := l.all fun s => hasN e s false
def useN (t : Tab) (f : List Int) (m : Msg) : List Spt := m.spots.filter (fitsN t f)
def recvE (e : Ed) (count : Int) (spots old : List Spt) (m : Msg) : Ed :=
  { e with cells := chgN e old (if m.kind = 5 then [] else spots) false, number := nextN e.number, known := true, last := m, reply := accN m count spots old }
def clearE (e : Ed) (m : Msg) : Ed := { startE e.node e.peer with known := true, last := m, reply := accN m 0 [] [] }
/-- what a request that is not refused out of hand asks for: whether it is accepted, the count, the spots, the old ones -/
def wantN (e : Ed) (t : Tab) (f : List Int) (m : Msg) : Option (Int × List Spt × List Spt) :=
  let u := (useN (fullN t e) f m).take m.count.toNat
  if m.kind = 1 then (if u.length = 0 then none else some (u.length, u, []))
  else if m.kind = 2 then (if lisN e m.old = false then none else some (m.count, [], m.old))
  else if m.kind = 3 then (if lisN e m.old = false ∨ u.length = 0 then none else some (u.length, u, m.old.take u.length))
  else if m.kind = 4 then some (e.cells.length, [], [])
  else some (e.cells.length, (e.cells.take 8).map place, [])
def recvC (e : Ed) (t : Tab) (m : Msg) : Int := if fullC t e ≠ 0 then fullC t e else if chkM m ≠ 0 ∨ m.reply = true then 11 else 0
def recv (e : Ed) (t : Tab) (f : List Int) (m : Msg) : Ed × Msg :=
  if recvC e t m ≠ 0 then (ed0, msg0)
  else if m.kind = 6 then (clearE e m, accN m 0 [] [])
  else if e.known = true ∧ m = e.last then (e, e.reply)
  else if e.opn = true then (e, refN m 3)
  else if m.number ≠ e.number then (e, refN m 1)
  else match wantN e t f m with
    | none => (e, refN m 2)
    | some (n, s, o) => (recvE e n s o m, accN m n s o)
def closE (e : Ed) : Ed := { e with opn := false, since := 0, asked := msg0 }
def finC (e : Ed) (m : Msg) : Int := if chkE e ≠ 0 then 1 else if e.opn = false then 12 else if ansN e.asked m = false then 11 else 0
def finE (e : Ed) (m : Msg) : Ed :=
  if m.code ≠ 0 then closE e
  else if m.kind = 6 then { closE e with known := false, last := msg0, reply := msg0, cells := [], number := 0 }
  else { closE e with known := false, last := msg0, reply := msg0, number := nextN e.number, cells := if m.kind = 1 ∨ m.kind = 3 then chgN e m.old m.spots true else if m.kind = 2 then chgN e m.old [] true else e.cells }
def finN (e : Ed) (m : Msg) : Ed := if finC e m = 0 then finE e m else ed0
def expB (e : Ed) (slot wait : Int) : Bool := decide (chkE e = 0) && (e.opn && (decide (0 ≤ slot) && decide (wait ≤ slot - e.since)))
def expN (e : Ed) (slot wait : Int) : Ed := if expB e slot wait = true then closE e else e
def clrC (e : Ed) : Int := if chkE e ≠ 0 then 1 else 0
def clrN (e : Ed) : Ed := if chkE e ≠ 0 then ed0 else startE e.node e.peer
end Tx
end Go.Proofs.YtkfipbelhlcddaaGreat
