/- conflict.Largest$1: the search. -/
import Derived.Test.YthibgpgjioepfaaLrg2
import Derived.Deep.Cut
import Derived.Deep.CutBlock
import Derived.Deep.DeepCutAuto
import Derived.Deep.RegionHeld3
namespace Go.Proofs.Ythibgpgjioepfaa
open Go Go.RowKit Go.Sort
namespace Nt
open Mm
def intsOf (s : List Nat) : List Int := List.map (fun i : Nat => (Nat.cast i : Int)) s
theorem gb_trans {a w w' : World} {r : Option Nat} (h : a.grownBy w r) (k : w.grownBy w' r) : a.grownBy w' r :=
  ⟨k.os.trans h.os, k.tape.trans h.tape, k.output.trans h.output, Nat.le_trans h.size k.size, fun i hi hr => (k.block i (Nat.lt_of_lt_of_le hi h.size) hr).trans (h.block i hi hr)⟩
theorem gb_below {a w : World} {r : Option Nat} (h : Below a.heap.size a w) : a.grownBy w r := ⟨h.os, h.tape, h.output, h.size, fun i hi _ => h.block i hi⟩
theorem Els.keepB {α : Type} [Inhabited α] {k : Nat} {f : α → Nat → Int} {w w' : World} {A : Option Addr} {n : Nat} {xs : List α} {Bb : Nat} {v : Value} {t : TypeId} (hk : 0 < k)
    (h : Els k f w A n xs) (hB : Blk w Bb #[v] t) (hv : ∀ i, v ≠ .int .i64 i) (hg : w.grownBy w' (some Bb)) : Els k f w' A n xs :=
  ⟨h.len, h.small, fun hn => by
    obtain ⟨b, off, e, hlt, hc⟩ := h.at_ hn
    have hne : b ≠ Bb := by
      rintro rfl
      have h0 := hc 0 hn 0 hk
      rw [hB.cell] at h0
      have : (#[v] : Array Value)[off + 0 * k + 0]? = some v := by
        rcases Nat.eq_zero_or_pos off with e | e
        · simp [e]
        · rw [Array.getElem?_eq_none (by simp; omega)] at h0; cases h0
      rw [this] at h0
      injection h0 with h0
      exact hv _ h0
    exact ⟨b, off, e, Nat.lt_of_lt_of_le hlt hg.size, fun i hi j hj => by
      rw [World.cell?_of_block (w := w) (hg.block _ hlt (fun e => by injection e with e; exact hne e))]; exact hc i hi j hj⟩⟩
/-- what holds of the search's boxes in W0, and of the network and the links in an elder world W -/
structure LgC (N : Net) (v : NetV) (ls : List Lnk) (A : Option Addr) (n c : Nat) (W W0 : World) (Bb Bl Bn Bx : Nat) : Prop where
  net : NetIs W v N
  lnk : LnkS W A n ls
  below : Below W.heap.size W W0
  far : W.heap.size ≤ Bb
  lbox : Box W0 Bl #[.slice A n c]
  nbox : Box W0 Bn #[.int .i64 N.nodes, .slice v.PA v.pn v.pc, .int .i64 N.noise, .int .i64 N.threshold, .slice v.LA v.ln v.lc, .slice v.MA v.mn v.mc]
  xbox : Box W0 Bx #[.func (.func 52) #[] #[.pointer (some ⟨Bb, 0, none⟩), .pointer (some ⟨Bl, 0, none⟩), .pointer (some ⟨Bn, 0, none⟩), .pointer (some ⟨Bx, 0, none⟩)]]
  nl : Bl ≠ Bb
  nn : Bn ≠ Bb
  nx : Bx ≠ Bb
theorem Box.grownB {w w' : World} {B Bb : Nat} {C : Array Value} (h : Box w B C) (hg : w.grownBy w' (some Bb)) (hne : B ≠ Bb) : Box w' B C :=
  ⟨Nat.lt_of_lt_of_le h.lt hg.size, fun i => by rw [World.cell?_of_block (w := w) (hg.block _ h.lt (fun e => by injection e with e; exact hne e))]; exact h.at_ i⟩
theorem LgC.next {N : Net} {v : NetV} {ls : List Lnk} {A : Option Addr} {n c : Nat} {W W0 wr : World} {Bb Bl Bn Bx : Nat} (h : LgC N v ls A n c W W0 Bb Bl Bn Bx) (hg : W0.grownBy wr (some Bb)) : LgC N v ls A n c W wr Bb Bl Bn Bx :=
  ⟨h.net, h.lnk, h.below.grown hg h.below.size (fun k hk => by injection hk with hk; have := h.far; omega), h.far, h.lbox.grownB hg h.nl, h.nbox.grownB hg h.nn, h.xbox.grownB hg h.nx, h.nl, h.nn, h.nx⟩
/-- where the search stands: the boxes, and the best set so far -/
structure LgR (N : Net) (v : NetV) (ls : List Lnk) (A : Option Addr) (n c : Nat) (W wr : World) (Bb Bl Bn Bx : Nat) (vb : Value) (nb : Nat) (best : List Nat) : Prop where
  ctx : LgC N v ls A n c W wr Bb Bl Bn Bx
  blk : Blk wr Bb #[vb] 24
  best : ∃ Ab cb, vb = .slice Ab nb cb ∧ IntS wr Ab nb (intsOf best)
theorem LgR.len {N : Net} {v : NetV} {ls : List Lnk} {A : Option Addr} {n c : Nat} {W wr : World} {Bb Bl Bn Bx : Nat} {vb : Value} {nb : Nat} {best : List Nat} (h : LgR N v ls A n c W wr Bb Bl Bn Bx vb nb best) : best.length = nb := by
  obtain ⟨Ab, cb, _, hi⟩ := h.best
  have := hi.els.len
  simpa [intsOf] using this
theorem LgR.keep {N : Net} {v : NetV} {ls : List Lnk} {A : Option Addr} {n c : Nat} {W wr w' : World} {Bb Bl Bn Bx : Nat} {vb : Value} {nb : Nat} {best : List Nat} (h : LgR N v ls A n c W wr Bb Bl Bn Bx vb nb best) (hb : Below wr.heap.size wr w') : LgR N v ls A n c W w' Bb Bl Bn Bx vb nb best := by
  obtain ⟨Ab, cb, e, hi⟩ := h.best
  exact ⟨h.ctx.next (gb_below hb), h.blk.keep hb, Ab, cb, e, hi.keep hb⟩
/-- a new best set -/
theorem LgR.put {N : Net} {v : NetV} {ls : List Lnk} {A : Option Addr} {n c : Nat} {W wr : World} {Bb Bl Bn Bx : Nat} {vb : Value} {nb : Nat} {best : List Nat} (h : LgR N v ls A n c W wr Bb Bl Bn Bx vb nb best) {As : Option Addr} {ns cs : Nat} {set : List Nat} (hs : IntS wr As ns (intsOf set)) :
    LgR N v ls A n c W (wr.setCell ⟨Bb, 0, none⟩ (.slice As ns cs)) Bb Bl Bn Bx (.slice As ns cs) ns set := by
  have hg : wr.grownBy (wr.setCell ⟨Bb, 0, none⟩ (.slice As ns cs)) (some Bb) := gb_set (gb_refl wr _) _
  obtain ⟨Ab, cb, e, hi⟩ := h.best
  exact ⟨h.ctx.next hg, h.blk.set 0 _, As, cs, rfl, ⟨hs.els.keepB (by decide) h.blk (by rw [e]; intro i h; cases h) hg, hs.ok⟩⟩
end Nt
end Go.Proofs.Ythibgpgjioepfaa
