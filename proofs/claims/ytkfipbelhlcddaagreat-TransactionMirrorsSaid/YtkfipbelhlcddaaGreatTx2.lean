/- Chapter 26: the data in memory. -/
import Derived.Test.YtkfipbelhlcddaaGreatTx1
import Derived.Deep.Cut
import Derived.Deep.DeepCutAuto
import Derived.Deep.CutBlock
import Derived.Deep.RegionHeld3
import Derived.BigQuiet
import Derived.IntWalk
import Derived.Laws.EntriesVeiled
set_option linter.unusedVariables false
set_option linter.unusedSimpArgs false
namespace Go.Proofs.YtkfipbelhlcddaaGreat
open Go Go.RowKit Go.Sort Go.Lib
namespace Tx
open Sw Mm
theorem natB0 (n : Nat) : ((n : Int) == 0) = decide (n = 0) := by rw [Bool.eq_iff_iff]; simp
theorem intB (n m : Int) : (n == m) = decide (n = m) := by rw [Bool.eq_iff_iff]; simp
def intE (x : Int) : List Value := [.int .i64 x]
def sptE (s : Spt) : List Value := [.int .i64 s.slot, .int .i64 s.off]
def tclE (c : TCl) : List Value := [.int .i64 c.slot, .int .i64 c.off, .int .i64 c.kind, .bool c.send, .int .i64 c.peer, .int .i64 c.flow]
theorem intE_len (x : Int) : (intE x).length = 1 := rfl
theorem sptE_len (x : Spt) : (sptE x).length = 2 := rfl
theorem tclE_len (x : TCl) : (tclE x).length = 6 := rfl
theorem intE_one (x : Int) : ∀ v ∈ intE x, v.oneCell' = true := by simp [intE, Value.oneCell']
theorem sptE_one (x : Spt) : ∀ v ∈ sptE x, v.oneCell' = true := by simp [sptE, Value.oneCell']
theorem tclE_one (x : TCl) : ∀ v ∈ tclE x, v.oneCell' = true := by simp [tclE, Value.oneCell']
abbrev IntS := @Sls Int _ intE 1
abbrev SptS := @Sls Spt _ sptE 2
abbrev TclS := @Sls TCl _ tclE 6
theorem int_at {w : World} {b off n : Nat} {xs : List Int} (h : IntS w (some ⟨b, off, none⟩) n xs) {i : Nat} (hi : i < n) : w.cell? ⟨b, off + i, none⟩ = some (.int .i64 (xs.getD i default)) := by
  have := (h.cells hi).2 0 (by decide)
  rw [show off + i * 1 + 0 = off + i by omega] at this
  exact this
def SptAt (w : World) (b o : Nat) (s : Spt) : Prop := w.cell? ⟨b, o, none⟩ = some (.int .i64 s.slot) ∧ w.cell? ⟨b, o + 1, none⟩ = some (.int .i64 s.off)
theorem spt_at {w : World} {b off n : Nat} {xs : List Spt} (h : SptS w (some ⟨b, off, none⟩) n xs) {i : Nat} (hi : i < n) : SptAt w b (off + i * 2) (xs.getD i default) :=
  ⟨(h.cells hi).2 0 (by decide), (h.cells hi).2 1 (by decide)⟩
def TclAt (w : World) (b o : Nat) (c : TCl) : Prop := w.cell? ⟨b, o, none⟩ = some (.int .i64 c.slot) ∧ w.cell? ⟨b, o + 1, none⟩ = some (.int .i64 c.off) ∧ w.cell? ⟨b, o + 2, none⟩ = some (.int .i64 c.kind) ∧ w.cell? ⟨b, o + 3, none⟩ = some (.bool c.send) ∧ w.cell? ⟨b, o + 4, none⟩ = some (.int .i64 c.peer) ∧ w.cell? ⟨b, o + 5, none⟩ = some (.int .i64 c.flow)
theorem tcl_at {w : World} {b off n : Nat} {xs : List TCl} (h : TclS w (some ⟨b, off, none⟩) n xs) {i : Nat} (hi : i < n) : TclAt w b (off + i * 6) (xs.getD i default) :=
  ⟨(h.cells hi).2 0 (by decide), (h.cells hi).2 1 (by decide), (h.cells hi).2 2 (by decide), (h.cells hi).2 3 (by decide), (h.cells hi).2 4 (by decide), (h.cells hi).2 5 (by decide)⟩
/-- a message's slices -/
structure MsgV where
  sA : Option Addr
  sn : Nat
  sc : Nat
  oA : Option Addr
  on : Nat
  oc : Nat
deriving Inhabited
structure MsgIs (w : World) (v : MsgV) (m : Msg) : Prop where
  spots : SptS w v.sA v.sn m.spots
  old : SptS w v.oA v.on m.old
  sc : v.sn ≤ v.sc
  oc : v.on ≤ v.oc
theorem MsgIs.keep {w w' : World} {v : MsgV} {m : Msg} (h : MsgIs w v m) (hb : Below w.heap.size w w') : MsgIs w' v m := ⟨h.spots.keep hb, h.old.keep hb, h.sc, h.oc⟩
def msgV0 : MsgV := ⟨none, 0, 0, none, 0, 0⟩
theorem MsgIs.zero (w : World) : MsgIs w msgV0 msg0 := ⟨Sls.nil, Sls.nil, Nat.le_refl _, Nat.le_refl _⟩
structure EdV where
  cA : Option Addr
  cn : Nat
  cc : Nat
  a : MsgV
  l : MsgV
  r : MsgV
deriving Inhabited
structure EdIs (w : World) (v : EdV) (e : Ed) : Prop where
  cells : TclS w v.cA v.cn e.cells
  cc : v.cn ≤ v.cc
  asked : MsgIs w v.a e.asked
  last : MsgIs w v.l e.last
  reply : MsgIs w v.r e.reply
theorem EdIs.keep {w w' : World} {v : EdV} {e : Ed} (h : EdIs w v e) (hb : Below w.heap.size w w') : EdIs w' v e := ⟨h.cells.keep hb, h.cc, h.asked.keep hb, h.last.keep hb, h.reply.keep hb⟩
def edV0 : EdV := ⟨none, 0, 0, msgV0, msgV0, msgV0⟩
theorem EdIs.zero (w : World) : EdIs w edV0 ed0 := ⟨Sls.nil, Nat.le_refl _, MsgIs.zero w, MsgIs.zero w, MsgIs.zero w⟩
structure TabV where
  A : Option Addr
  n : Nat
  c : Nat
deriving Inhabited
structure TabIs (w : World) (v : TabV) (t : Tab) : Prop where
  cells : TclS w v.A v.n t.cells
  cc : v.n ≤ v.c
theorem TabIs.keep {w w' : World} {v : TabV} {t : Tab} (h : TabIs w v t) (hb : Below w.heap.size w w') : TabIs w' v t := ⟨h.cells.keep hb, h.cc⟩
def tabV0 : TabV := ⟨none, 0, 0⟩
theorem TabIs.zero (w : World) : TabIs w tabV0 tab0 := ⟨Sls.nil, Nat.le_refl _⟩
theorem info_int : (Tryz.prog.info? 3).map (fun i => (i.zero, i.size, i.bytes)) = some (some (.int .i64 0), 1, 8) := by kernel_rfl
theorem info_spt : (Tryz.prog.info? 78).map (fun i => (i.zero, i.size, i.bytes)) = some (some (.agg #[.int .i64 0, .int .i64 0]), 2, 16) := by kernel_rfl
theorem info_tcl : (Tryz.prog.info? 67).map (fun i => (i.zero, i.size, i.bytes)) = some (some (.agg #[.int .i64 0, .int .i64 0, .int .i64 0, .bool false, .int .i64 0, .int .i64 0]), 6, 48) := by kernel_rfl
theorem eltS : Elt Tryz.prog sptE 2 23 78 := ⟨sptE_len, by decide, sptE_one, Tryz.underlying23, by
  obtain ⟨i, h1, h2, h3, h4⟩ := info_parts info_spt
  exact ⟨i, _, h1, h2, h3, by omega, rfl⟩⟩
theorem eltT : Elt Tryz.prog tclE 6 22 67 := ⟨tclE_len, by decide, tclE_one, Tryz.underlying22, by
  obtain ⟨i, h1, h2, h3, h4⟩ := info_parts info_tcl
  exact ⟨i, _, h1, h2, h3, by omega, rfl⟩⟩
end Tx
end Go.Proofs.YtkfipbelhlcddaaGreat
