/- the law's example of a network. -/
import Derived.Test.YthibgpgjioepfaaRef5
import Derived.Test.YthibgpgjioepfaaMem
import Derived.Deep.Cut
namespace Go.Proofs.Ythibgpgjioepfaa
open Go Go.RowKit Go.Sort
namespace Nt
open Mm
def lnkV (l : Lnk) (j : Nat) : Value := .int .i64 (lnkF l j)
def intV (x : Int) (_ : Nat) : Value := .int .i64 x
def exLinks : List Lnk := [⟨0, 1, 0⟩, ⟨1, 0, 0⟩, ⟨2, 3, 0⟩, ⟨3, 2, 0⟩]
def exNet (near : Int) : Net := ⟨4, [[0, 40, 3, 1], [40, 0, 40, 3], [3, near, 0, 40], [1, 3, 40, 0]], 1, 3000, exLinks, [30, 30, 30, 30]⟩
theorem lnkS_of_owns {w : World} {base n : Nat} {e : TypeId} {A : Option Addr} {m c : Nat} {xs : List Lnk} (h : w.ownsRow base e 3 (.slice A m c) n (flat 3 lnkV xs)) (ok : ∀ x ∈ xs, x.ok) : m = n ∧ LnkS w A n xs := by
  obtain ⟨h1, h2, h3⟩ := owns_read (by decide) h
  rcases h3 with ⟨hv, h0⟩ | ⟨g, cap, hv, hb, hg, hc⟩
  · cases hv; exact ⟨h0.symm, ⟨h1, h2, fun h => by omega⟩, ok⟩
  · cases hv; exact ⟨rfl, ⟨h1, h2, fun _ => ⟨g, 0, rfl, hg, fun i hi j hj => by rw [Nat.zero_add]; exact hc i hi j hj⟩⟩, ok⟩
theorem intS_of_owns {w : World} {base n : Nat} {e : TypeId} {A : Option Addr} {m c : Nat} {xs : List Int} (h : w.ownsRow base e 1 (.slice A m c) n (flat 1 intV xs)) (ok : ∀ x ∈ xs, I64 x) : m = n ∧ IntS w A n xs := by
  obtain ⟨h1, h2, h3⟩ := owns_read (by decide) h
  rcases h3 with ⟨hv, h0⟩ | ⟨g, cap, hv, hb, hg, hc⟩
  · cases hv; exact ⟨h0.symm, ⟨h1, h2, fun h => by omega⟩, ok⟩
  · cases hv; exact ⟨rfl, ⟨h1, h2, fun _ => ⟨g, 0, rfl, hg, fun i hi j hj => by rw [Nat.zero_add]; exact hc i hi j hj⟩⟩, ok⟩
theorem row4 {w : World} {B : Nat} {t : TypeId} {a b c d : Int} (h : Blk w B #[.int .i64 a, .int .i64 b, .int .i64 c, .int .i64 d] t) (ok : ∀ x ∈ [a, b, c, d], I64 x) : IntS w (some ⟨B, 0, none⟩) 4 [a, b, c, d] :=
  ⟨⟨rfl, by decide, fun _ => ⟨B, 0, rfl, h.lt, fun i hi j hj => by
    obtain rfl : j = 0 := by omega
    rw [h.cell]
    match i, hi with
    | 0, _ | 1, _ | 2, _ | 3, _ => rfl⟩⟩, ok⟩
theorem info_link : (Try.prog.info? 44).map (fun i => (i.zero, i.size, i.bytes)) = some (some (.agg #[.int .i64 0, .int .i64 0, .int .i64 0]), 3, 24) := by kernel_rfl
theorem info_int : (Try.prog.info? 3).map (fun i => (i.zero, i.size, i.bytes)) = some (some (.int .i64 0), 1, 8) := by kernel_rfl
/-- what a round of the example's loop finds -/
structure ExR (w W wr : World) (B6 B7 : Nat) (PA : Value) (k m : Nat) (vL vM : Value) : Prop where
  below : Below w.heap.size w wr
  under : Below B6 W wr
  net : Blk wr B6 #[.int .i64 4, PA, .int .i64 1, .int .i64 3000, vL, vM] 26
  pairs : Blk wr B7 #[.int .i64 0, .int .i64 1, .int .i64 1, .int .i64 0, .int .i64 2, .int .i64 3, .int .i64 3, .int .i64 2] 63
  ownL : wr.ownsRow (B7 + 1) 44 3 vL k (flat 3 lnkV (exLinks.take k))
  ownM : wr.ownsRow (B7 + 1) 3 1 vM m (flat 1 intV (List.replicate m 30))
  apart : ∀ g, vL.ownBlock = some g → vM.ownBlock ≠ some g
  lo : w.heap.size ≤ B6
  hi : B6 < B7
theorem ExR.alloc {w W wr : World} {B6 B7 : Nat} {PA : Value} {k m : Nat} {vL vM : Value} (h : ExR w W wr B6 B7 PA k m vL vM) (o : Obj) : ExR w W (wr.alloc o) B6 B7 PA k m vL vM :=
  ⟨h.below.alloc h.below.size o, h.under.alloc (Nat.le_of_lt h.net.lt) o, h.net.alloc o, h.pairs.alloc o, h.ownL.alloc o, h.ownM.alloc o, h.apart, h.lo, h.hi⟩
theorem owns_far {w w' : World} {base : Nat} {e : TypeId} {size n : Nat} {v u : Value} {xs : List Value} (h : w.ownsRow base e size v n xs) (hg : w.grownBy w' u.ownBlock) (ha : ∀ g, v.ownBlock = some g → u.ownBlock ≠ some g) : w'.ownsRow base e size v n xs :=
  h.kept hg (by
    cases hv : v.ownBlock with
    | none => exact .inl rfl
    | some g => exact .inr (fun e => ha g hv e.symm))
theorem under_append {n : Nat} {W w w' : World} {base : Nat} {e : TypeId} {size m : Nat} {v : Value} {xs : List Value} (h : Below n W w) (ho : w.ownsRow base e size v m xs) (hg : w.grownBy w' v.ownBlock) (hbase : n ≤ base) (hn : n ≤ w.heap.size) : Below n W w' :=
  h.grown hg hn (fun k hk => Nat.le_trans hbase (ho.lt k hk).1)
theorem own_ne {w : World} {base : Nat} {e : TypeId} {size n : Nat} {v : Value} {xs : List Value} (h : w.ownsRow base e size v n xs) {B : Nat} (hB : B < base) : v.ownBlock ≠ some B := fun hv => by have := (h.lt B hv).1; omega
theorem ExR.stepL {w W wr w1 : World} {B6 B7 : Nat} {PA : Value} {k m g cap : Nat} {vL vM : Value} {l : Lnk} (h : ExR w W wr B6 B7 PA k m vL vM) (hl : exLinks[k]? = some l)
    (hown : w1.ownsRow (B7 + 1) 44 3 (.slice (some ⟨g, 0, none⟩) (k + 1) cap) (k + 1) (flat 3 lnkV (exLinks.take k) ++ [.int .i64 l.frm, .int .i64 l.to, .int .i64 l.loss]))
    (hg : wr.grownBy w1 vL.ownBlock) (hat : vL.ownBlock = some g ∨ g = wr.heap.size) : ExR w W (w1.setCell ⟨B6, 4, none⟩ (.slice (some ⟨g, 0, none⟩) (k + 1) cap)) B6 B7 PA (k + 1) m (.slice (some ⟨g, 0, none⟩) (k + 1) cap) vM := by
  have h6 := own_ne h.ownL (B := B6) (by have := h.hi; omega)
  have h7 := own_ne h.ownL (B := B7) (by omega)
  have hlt := h.net.lt
  have hhi := h.hi
  refine ⟨?_, ?_, ?_, ?_, ?_, ?_, ?_, h.lo, h.hi⟩
  · exact (below_append h.below h.ownL hg (by have := h.lo; omega)).setCell h.lo _
  · exact (under_append h.under h.ownL hg (by omega) (by omega)).setCell (Nat.le_refl _) _
  · have := (h.net.grown hg h6).set 4 (.slice (some ⟨g, 0, none⟩) (k + 1) cap); simpa using this
  · exact (h.pairs.grown hg h7).other (by simp; omega) _
  · have e : flat 3 lnkV (exLinks.take (k + 1)) = flat 3 lnkV (exLinks.take k) ++ [.int .i64 l.frm, .int .i64 l.to, .int .i64 l.loss] := by
      rw [List.take_add_one, hl, flat_append]; rfl
    rw [e]
    exact ownsRow_setCell_below hown (by simp; omega) _
  · exact ownsRow_setCell_below (owns_far h.ownM hg (fun x hx hy => h.apart x hy hx)) (by simp; omega) _
  · intro x hx hy
    have : g = x := by simpa [Value.ownBlock] using hx
    subst this
    rcases hat with hat | hat
    · exact h.apart _ hat hy
    · have := (h.ownM.lt _ hy).2; omega
theorem ExR.stepM {w W wr w1 : World} {B6 B7 : Nat} {PA : Value} {k m g cap : Nat} {vL vM : Value} (h : ExR w W wr B6 B7 PA k m vL vM)
    (hown : w1.ownsRow (B7 + 1) 3 1 (.slice (some ⟨g, 0, none⟩) (m + 1) cap) (m + 1) (flat 1 intV (List.replicate m 30) ++ [.int .i64 30]))
    (hg : wr.grownBy w1 vM.ownBlock) (hat : vM.ownBlock = some g ∨ g = wr.heap.size) : ExR w W (w1.setCell ⟨B6, 5, none⟩ (.slice (some ⟨g, 0, none⟩) (m + 1) cap)) B6 B7 PA k (m + 1) vL (.slice (some ⟨g, 0, none⟩) (m + 1) cap) := by
  have h6 := own_ne h.ownM (B := B6) (by have := h.hi; omega)
  have h7 := own_ne h.ownM (B := B7) (by omega)
  have hlt := h.net.lt
  have hhi := h.hi
  refine ⟨?_, ?_, ?_, ?_, ?_, ?_, ?_, h.lo, h.hi⟩
  · exact (below_append h.below h.ownM hg (by have := h.lo; omega)).setCell h.lo _
  · exact (under_append h.under h.ownM hg (by omega) (by omega)).setCell (Nat.le_refl _) _
  · have := (h.net.grown hg h6).set 5 (.slice (some ⟨g, 0, none⟩) (m + 1) cap); simpa using this
  · exact (h.pairs.grown hg h7).other (by simp; omega) _
  · exact ownsRow_setCell_below (owns_far h.ownL hg (fun x hx => h.apart x hx)) (by simp; omega) _
  · have e : flat 1 intV (List.replicate (m + 1) (30 : Int)) = flat 1 intV (List.replicate m 30) ++ [.int .i64 30] := by
      rw [List.replicate_succ', flat_append]; rfl
    rw [e]
    exact ownsRow_setCell_below hown (by simp; omega) _
  · intro x hx hy
    have : g = x := by simpa [Value.ownBlock] using hy
    subst this
    rcases hat with hat | hat
    · exact h.apart _ hx hat
    · have := (h.ownL.lt _ hx).2; omega
theorem size_alloc1 (w : World) (o : Obj) : (w.alloc o).heap.size = w.heap.size + 1 := by simp
theorem Blk.new' (w : World) (C : Array Value) (t : TypeId) (n : Nat) (h : w.heap.size = n) : Blk (w.alloc (.cells C t)) n C t := by subst h; exact Blk.new w C t
theorem below_allocN {a w : World} (h : Below a.heap.size a w) (o : Obj) : Below a.heap.size a (w.alloc o) := h.alloc h.size o
theorem ex_pair {w : World} {B : Nat} {t : TypeId} (h : Blk w B #[.int .i64 0, .int .i64 1, .int .i64 1, .int .i64 0, .int .i64 2, .int .i64 3, .int .i64 3, .int .i64 2] t) {k : Nat} (hk : k < 4) :
    ∃ l, exLinks[k]? = some l ∧ l.loss = 0 ∧ w.cell? ⟨B, k * 2, none⟩ = some (.int .i64 l.frm) ∧ w.cell? ⟨B, k * 2 + 1, none⟩ = some (.int .i64 l.to) := by
  rw [h.cell, h.cell]
  match k, hk with
  | 0, _ => exact ⟨_, rfl, rfl, rfl, rfl⟩
  | 1, _ => exact ⟨_, rfl, rfl, rfl, rfl⟩
  | 2, _ => exact ⟨_, rfl, rfl, rfl, rfl⟩
  | 3, _ => exact ⟨_, rfl, rfl, rfl, rfl⟩
def six (w : World) (B : Nat) (p l m : Value) : World :=
  (((((w.setCell ⟨B, 0, none⟩ (.int .i64 4)).setCell ⟨B, 1, none⟩ p).setCell ⟨B, 2, none⟩ (.int .i64 1)).setCell ⟨B, 3, none⟩ (.int .i64 3000)).setCell ⟨B, 4, none⟩ l).setCell ⟨B, 5, none⟩ m
theorem _root_.Go.Proofs.Ythibgpgjioepfaa.Mm.Blk.six {w : World} {B B0 : Nat} {C : Array Value} {t : TypeId} (h : Blk w B C t) (hB : B ≠ B0) (p l m : Value) : Blk (six w B0 p l m) B C t :=
  (((((h.other hB _).other hB _).other hB _).other hB _).other hB _).other hB _
theorem owns_six {w : World} {base : Nat} {e : TypeId} {size n : Nat} {v : Value} {xs : List Value} (h : w.ownsRow base e size v n xs) {B : Nat} (hB : B < base) (p l m : Value) : (six w B p l m).ownsRow base e size v n xs :=
  ownsRow_setCell_below (ownsRow_setCell_below (ownsRow_setCell_below (ownsRow_setCell_below (ownsRow_setCell_below (ownsRow_setCell_below h hB _) hB _) hB _) hB _) hB _) hB _
theorem below_six {w wr : World} (h : Below w.heap.size w wr) (p l m : Value) : Below w.heap.size w (six wr w.heap.size p l m) :=
  (((((h.setCell (Nat.le_refl _) _).setCell (Nat.le_refl _) _).setCell (Nat.le_refl _) _).setCell (Nat.le_refl _) _).setCell (Nat.le_refl _) _).setCell (Nat.le_refl _) _
theorem outer4 {w : World} {B B1 B2 B3 B4 : Nat} {t : TypeId} {r1 r2 r3 r4 : List Int} (h : Blk w B #[.slice (some ⟨B1, 0, none⟩) 4 4, .slice (some ⟨B2, 0, none⟩) 4 4, .slice (some ⟨B3, 0, none⟩) 4 4, .slice (some ⟨B4, 0, none⟩) 4 4] t)
    (h1 : IntS w (some ⟨B1, 0, none⟩) 4 r1) (h2 : IntS w (some ⟨B2, 0, none⟩) 4 r2) (h3 : IntS w (some ⟨B3, 0, none⟩) 4 r3) (h4 : IntS w (some ⟨B4, 0, none⟩) 4 r4) : RowS w (some ⟨B, 0, none⟩) 4 [r1, r2, r3, r4] :=
  ⟨rfl, by decide, fun _ => ⟨B, 0, rfl, h.lt, fun i hi => by
    rw [h.cell]
    match i, hi with
    | 0, _ => exact ⟨_, _, _, rfl, h1⟩
    | 1, _ => exact ⟨_, _, _, rfl, h2⟩
    | 2, _ => exact ⟨_, _, _, rfl, h3⟩
    | 3, _ => exact ⟨_, _, _, rfl, h4⟩⟩⟩
def ExPost (near : Int) (w : World) (e : Ending) (w' : World) : Prop := ∃ v : NetV, e = .returned (.agg #[.int .i64 4, .slice v.PA v.pn v.pc, .int .i64 1, .int .i64 3000, .slice v.LA v.ln v.lc, .slice v.MA v.mn v.mc]) ∧ NetIs w' v (exNet near) ∧ Below w.heap.size w w'
set_option maxRecDepth 100000 in
set_option maxHeartbeats 8000000 in
theorem example_any (near : Int) (hn : I64 near) (w : World) :
    Calls Try.prog 35 #[.int .i64 near] w (ExPost near w) := by
  obtain ⟨i0, hi, hz0, hz1, hz2⟩ := info_parts info_link
  obtain ⟨i1, hi', hz0', hz1', hz2'⟩ := info_parts info_int
  have X0 : Blk ((((((((w.alloc (.cells #[.int .i64 0, .slice none 0 0, .int .i64 0, .int .i64 0, .slice none 0 0, .slice none 0 0] 26)).alloc (.cells #[.int .i64 0, .int .i64 40, .int .i64 3, .int .i64 1] 3)).alloc (.cells #[.int .i64 40, .int .i64 0, .int .i64 40, .int .i64 3] 3)).alloc (.cells #[.int .i64 3, .int .i64 near, .int .i64 0, .int .i64 40] 3)).alloc (.cells #[.int .i64 1, .int .i64 3, .int .i64 40, .int .i64 0] 3)).alloc (.cells #[.slice (some ⟨w.heap.size + 1, 0, none⟩) 4 4, .slice (some ⟨w.heap.size + 1 + 1, 0, none⟩) 4 4, .slice (some ⟨w.heap.size + 1 + 1 + 1, 0, none⟩) 4 4, .slice (some ⟨w.heap.size + 1 + 1 + 1 + 1, 0, none⟩) 4 4] 24)).alloc (.cells #[.int .i64 4, .slice (some ⟨w.heap.size + 1 + 1 + 1 + 1 + 1, 0, none⟩) 4 4, .int .i64 1, .int .i64 3000, .slice none 0 0, .slice none 0 0] 26)).alloc (.cells #[.int .i64 0, .int .i64 1, .int .i64 1, .int .i64 0, .int .i64 2, .int .i64 3, .int .i64 3, .int .i64 2] 63)) (w.heap.size) #[.int .i64 0, .slice none 0 0, .int .i64 0, .int .i64 0, .slice none 0 0, .slice none 0 0] 26 := (((((((Blk.new' w #[.int .i64 0, .slice none 0 0, .int .i64 0, .int .i64 0, .slice none 0 0, .slice none 0 0] 26 (w.heap.size) (rfl)).alloc _).alloc _).alloc _).alloc _).alloc _).alloc _).alloc _
  have X1 : Blk ((((((((w.alloc (.cells #[.int .i64 0, .slice none 0 0, .int .i64 0, .int .i64 0, .slice none 0 0, .slice none 0 0] 26)).alloc (.cells #[.int .i64 0, .int .i64 40, .int .i64 3, .int .i64 1] 3)).alloc (.cells #[.int .i64 40, .int .i64 0, .int .i64 40, .int .i64 3] 3)).alloc (.cells #[.int .i64 3, .int .i64 near, .int .i64 0, .int .i64 40] 3)).alloc (.cells #[.int .i64 1, .int .i64 3, .int .i64 40, .int .i64 0] 3)).alloc (.cells #[.slice (some ⟨w.heap.size + 1, 0, none⟩) 4 4, .slice (some ⟨w.heap.size + 1 + 1, 0, none⟩) 4 4, .slice (some ⟨w.heap.size + 1 + 1 + 1, 0, none⟩) 4 4, .slice (some ⟨w.heap.size + 1 + 1 + 1 + 1, 0, none⟩) 4 4] 24)).alloc (.cells #[.int .i64 4, .slice (some ⟨w.heap.size + 1 + 1 + 1 + 1 + 1, 0, none⟩) 4 4, .int .i64 1, .int .i64 3000, .slice none 0 0, .slice none 0 0] 26)).alloc (.cells #[.int .i64 0, .int .i64 1, .int .i64 1, .int .i64 0, .int .i64 2, .int .i64 3, .int .i64 3, .int .i64 2] 63)) (w.heap.size + 1) #[.int .i64 0, .int .i64 40, .int .i64 3, .int .i64 1] 3 := ((((((Blk.new' (w.alloc (.cells #[.int .i64 0, .slice none 0 0, .int .i64 0, .int .i64 0, .slice none 0 0, .slice none 0 0] 26)) #[.int .i64 0, .int .i64 40, .int .i64 3, .int .i64 1] 3 (w.heap.size + 1) (by simp only [size_alloc1])).alloc _).alloc _).alloc _).alloc _).alloc _).alloc _
  have X2 : Blk ((((((((w.alloc (.cells #[.int .i64 0, .slice none 0 0, .int .i64 0, .int .i64 0, .slice none 0 0, .slice none 0 0] 26)).alloc (.cells #[.int .i64 0, .int .i64 40, .int .i64 3, .int .i64 1] 3)).alloc (.cells #[.int .i64 40, .int .i64 0, .int .i64 40, .int .i64 3] 3)).alloc (.cells #[.int .i64 3, .int .i64 near, .int .i64 0, .int .i64 40] 3)).alloc (.cells #[.int .i64 1, .int .i64 3, .int .i64 40, .int .i64 0] 3)).alloc (.cells #[.slice (some ⟨w.heap.size + 1, 0, none⟩) 4 4, .slice (some ⟨w.heap.size + 1 + 1, 0, none⟩) 4 4, .slice (some ⟨w.heap.size + 1 + 1 + 1, 0, none⟩) 4 4, .slice (some ⟨w.heap.size + 1 + 1 + 1 + 1, 0, none⟩) 4 4] 24)).alloc (.cells #[.int .i64 4, .slice (some ⟨w.heap.size + 1 + 1 + 1 + 1 + 1, 0, none⟩) 4 4, .int .i64 1, .int .i64 3000, .slice none 0 0, .slice none 0 0] 26)).alloc (.cells #[.int .i64 0, .int .i64 1, .int .i64 1, .int .i64 0, .int .i64 2, .int .i64 3, .int .i64 3, .int .i64 2] 63)) (w.heap.size + 1 + 1) #[.int .i64 40, .int .i64 0, .int .i64 40, .int .i64 3] 3 := (((((Blk.new' ((w.alloc (.cells #[.int .i64 0, .slice none 0 0, .int .i64 0, .int .i64 0, .slice none 0 0, .slice none 0 0] 26)).alloc (.cells #[.int .i64 0, .int .i64 40, .int .i64 3, .int .i64 1] 3)) #[.int .i64 40, .int .i64 0, .int .i64 40, .int .i64 3] 3 (w.heap.size + 1 + 1) (by simp only [size_alloc1])).alloc _).alloc _).alloc _).alloc _).alloc _
  have X3 : Blk ((((((((w.alloc (.cells #[.int .i64 0, .slice none 0 0, .int .i64 0, .int .i64 0, .slice none 0 0, .slice none 0 0] 26)).alloc (.cells #[.int .i64 0, .int .i64 40, .int .i64 3, .int .i64 1] 3)).alloc (.cells #[.int .i64 40, .int .i64 0, .int .i64 40, .int .i64 3] 3)).alloc (.cells #[.int .i64 3, .int .i64 near, .int .i64 0, .int .i64 40] 3)).alloc (.cells #[.int .i64 1, .int .i64 3, .int .i64 40, .int .i64 0] 3)).alloc (.cells #[.slice (some ⟨w.heap.size + 1, 0, none⟩) 4 4, .slice (some ⟨w.heap.size + 1 + 1, 0, none⟩) 4 4, .slice (some ⟨w.heap.size + 1 + 1 + 1, 0, none⟩) 4 4, .slice (some ⟨w.heap.size + 1 + 1 + 1 + 1, 0, none⟩) 4 4] 24)).alloc (.cells #[.int .i64 4, .slice (some ⟨w.heap.size + 1 + 1 + 1 + 1 + 1, 0, none⟩) 4 4, .int .i64 1, .int .i64 3000, .slice none 0 0, .slice none 0 0] 26)).alloc (.cells #[.int .i64 0, .int .i64 1, .int .i64 1, .int .i64 0, .int .i64 2, .int .i64 3, .int .i64 3, .int .i64 2] 63)) (w.heap.size + 1 + 1 + 1) #[.int .i64 3, .int .i64 near, .int .i64 0, .int .i64 40] 3 := ((((Blk.new' (((w.alloc (.cells #[.int .i64 0, .slice none 0 0, .int .i64 0, .int .i64 0, .slice none 0 0, .slice none 0 0] 26)).alloc (.cells #[.int .i64 0, .int .i64 40, .int .i64 3, .int .i64 1] 3)).alloc (.cells #[.int .i64 40, .int .i64 0, .int .i64 40, .int .i64 3] 3)) #[.int .i64 3, .int .i64 near, .int .i64 0, .int .i64 40] 3 (w.heap.size + 1 + 1 + 1) (by simp only [size_alloc1])).alloc _).alloc _).alloc _).alloc _
  have X4 : Blk ((((((((w.alloc (.cells #[.int .i64 0, .slice none 0 0, .int .i64 0, .int .i64 0, .slice none 0 0, .slice none 0 0] 26)).alloc (.cells #[.int .i64 0, .int .i64 40, .int .i64 3, .int .i64 1] 3)).alloc (.cells #[.int .i64 40, .int .i64 0, .int .i64 40, .int .i64 3] 3)).alloc (.cells #[.int .i64 3, .int .i64 near, .int .i64 0, .int .i64 40] 3)).alloc (.cells #[.int .i64 1, .int .i64 3, .int .i64 40, .int .i64 0] 3)).alloc (.cells #[.slice (some ⟨w.heap.size + 1, 0, none⟩) 4 4, .slice (some ⟨w.heap.size + 1 + 1, 0, none⟩) 4 4, .slice (some ⟨w.heap.size + 1 + 1 + 1, 0, none⟩) 4 4, .slice (some ⟨w.heap.size + 1 + 1 + 1 + 1, 0, none⟩) 4 4] 24)).alloc (.cells #[.int .i64 4, .slice (some ⟨w.heap.size + 1 + 1 + 1 + 1 + 1, 0, none⟩) 4 4, .int .i64 1, .int .i64 3000, .slice none 0 0, .slice none 0 0] 26)).alloc (.cells #[.int .i64 0, .int .i64 1, .int .i64 1, .int .i64 0, .int .i64 2, .int .i64 3, .int .i64 3, .int .i64 2] 63)) (w.heap.size + 1 + 1 + 1 + 1) #[.int .i64 1, .int .i64 3, .int .i64 40, .int .i64 0] 3 := (((Blk.new' ((((w.alloc (.cells #[.int .i64 0, .slice none 0 0, .int .i64 0, .int .i64 0, .slice none 0 0, .slice none 0 0] 26)).alloc (.cells #[.int .i64 0, .int .i64 40, .int .i64 3, .int .i64 1] 3)).alloc (.cells #[.int .i64 40, .int .i64 0, .int .i64 40, .int .i64 3] 3)).alloc (.cells #[.int .i64 3, .int .i64 near, .int .i64 0, .int .i64 40] 3)) #[.int .i64 1, .int .i64 3, .int .i64 40, .int .i64 0] 3 (w.heap.size + 1 + 1 + 1 + 1) (by simp only [size_alloc1])).alloc _).alloc _).alloc _
  have X5 : Blk ((((((((w.alloc (.cells #[.int .i64 0, .slice none 0 0, .int .i64 0, .int .i64 0, .slice none 0 0, .slice none 0 0] 26)).alloc (.cells #[.int .i64 0, .int .i64 40, .int .i64 3, .int .i64 1] 3)).alloc (.cells #[.int .i64 40, .int .i64 0, .int .i64 40, .int .i64 3] 3)).alloc (.cells #[.int .i64 3, .int .i64 near, .int .i64 0, .int .i64 40] 3)).alloc (.cells #[.int .i64 1, .int .i64 3, .int .i64 40, .int .i64 0] 3)).alloc (.cells #[.slice (some ⟨w.heap.size + 1, 0, none⟩) 4 4, .slice (some ⟨w.heap.size + 1 + 1, 0, none⟩) 4 4, .slice (some ⟨w.heap.size + 1 + 1 + 1, 0, none⟩) 4 4, .slice (some ⟨w.heap.size + 1 + 1 + 1 + 1, 0, none⟩) 4 4] 24)).alloc (.cells #[.int .i64 4, .slice (some ⟨w.heap.size + 1 + 1 + 1 + 1 + 1, 0, none⟩) 4 4, .int .i64 1, .int .i64 3000, .slice none 0 0, .slice none 0 0] 26)).alloc (.cells #[.int .i64 0, .int .i64 1, .int .i64 1, .int .i64 0, .int .i64 2, .int .i64 3, .int .i64 3, .int .i64 2] 63)) (w.heap.size + 1 + 1 + 1 + 1 + 1) #[.slice (some ⟨w.heap.size + 1, 0, none⟩) 4 4, .slice (some ⟨w.heap.size + 1 + 1, 0, none⟩) 4 4, .slice (some ⟨w.heap.size + 1 + 1 + 1, 0, none⟩) 4 4, .slice (some ⟨w.heap.size + 1 + 1 + 1 + 1, 0, none⟩) 4 4] 24 := ((Blk.new' (((((w.alloc (.cells #[.int .i64 0, .slice none 0 0, .int .i64 0, .int .i64 0, .slice none 0 0, .slice none 0 0] 26)).alloc (.cells #[.int .i64 0, .int .i64 40, .int .i64 3, .int .i64 1] 3)).alloc (.cells #[.int .i64 40, .int .i64 0, .int .i64 40, .int .i64 3] 3)).alloc (.cells #[.int .i64 3, .int .i64 near, .int .i64 0, .int .i64 40] 3)).alloc (.cells #[.int .i64 1, .int .i64 3, .int .i64 40, .int .i64 0] 3)) #[.slice (some ⟨w.heap.size + 1, 0, none⟩) 4 4, .slice (some ⟨w.heap.size + 1 + 1, 0, none⟩) 4 4, .slice (some ⟨w.heap.size + 1 + 1 + 1, 0, none⟩) 4 4, .slice (some ⟨w.heap.size + 1 + 1 + 1 + 1, 0, none⟩) 4 4] 24 (w.heap.size + 1 + 1 + 1 + 1 + 1) (by simp only [size_alloc1])).alloc _).alloc _
  have X6 : Blk ((((((((w.alloc (.cells #[.int .i64 0, .slice none 0 0, .int .i64 0, .int .i64 0, .slice none 0 0, .slice none 0 0] 26)).alloc (.cells #[.int .i64 0, .int .i64 40, .int .i64 3, .int .i64 1] 3)).alloc (.cells #[.int .i64 40, .int .i64 0, .int .i64 40, .int .i64 3] 3)).alloc (.cells #[.int .i64 3, .int .i64 near, .int .i64 0, .int .i64 40] 3)).alloc (.cells #[.int .i64 1, .int .i64 3, .int .i64 40, .int .i64 0] 3)).alloc (.cells #[.slice (some ⟨w.heap.size + 1, 0, none⟩) 4 4, .slice (some ⟨w.heap.size + 1 + 1, 0, none⟩) 4 4, .slice (some ⟨w.heap.size + 1 + 1 + 1, 0, none⟩) 4 4, .slice (some ⟨w.heap.size + 1 + 1 + 1 + 1, 0, none⟩) 4 4] 24)).alloc (.cells #[.int .i64 4, .slice (some ⟨w.heap.size + 1 + 1 + 1 + 1 + 1, 0, none⟩) 4 4, .int .i64 1, .int .i64 3000, .slice none 0 0, .slice none 0 0] 26)).alloc (.cells #[.int .i64 0, .int .i64 1, .int .i64 1, .int .i64 0, .int .i64 2, .int .i64 3, .int .i64 3, .int .i64 2] 63)) (w.heap.size + 1 + 1 + 1 + 1 + 1 + 1) #[.int .i64 4, .slice (some ⟨w.heap.size + 1 + 1 + 1 + 1 + 1, 0, none⟩) 4 4, .int .i64 1, .int .i64 3000, .slice none 0 0, .slice none 0 0] 26 := (Blk.new' ((((((w.alloc (.cells #[.int .i64 0, .slice none 0 0, .int .i64 0, .int .i64 0, .slice none 0 0, .slice none 0 0] 26)).alloc (.cells #[.int .i64 0, .int .i64 40, .int .i64 3, .int .i64 1] 3)).alloc (.cells #[.int .i64 40, .int .i64 0, .int .i64 40, .int .i64 3] 3)).alloc (.cells #[.int .i64 3, .int .i64 near, .int .i64 0, .int .i64 40] 3)).alloc (.cells #[.int .i64 1, .int .i64 3, .int .i64 40, .int .i64 0] 3)).alloc (.cells #[.slice (some ⟨w.heap.size + 1, 0, none⟩) 4 4, .slice (some ⟨w.heap.size + 1 + 1, 0, none⟩) 4 4, .slice (some ⟨w.heap.size + 1 + 1 + 1, 0, none⟩) 4 4, .slice (some ⟨w.heap.size + 1 + 1 + 1 + 1, 0, none⟩) 4 4] 24)) #[.int .i64 4, .slice (some ⟨w.heap.size + 1 + 1 + 1 + 1 + 1, 0, none⟩) 4 4, .int .i64 1, .int .i64 3000, .slice none 0 0, .slice none 0 0] 26 (w.heap.size + 1 + 1 + 1 + 1 + 1 + 1) (by simp only [size_alloc1])).alloc _
  have X7 : Blk ((((((((w.alloc (.cells #[.int .i64 0, .slice none 0 0, .int .i64 0, .int .i64 0, .slice none 0 0, .slice none 0 0] 26)).alloc (.cells #[.int .i64 0, .int .i64 40, .int .i64 3, .int .i64 1] 3)).alloc (.cells #[.int .i64 40, .int .i64 0, .int .i64 40, .int .i64 3] 3)).alloc (.cells #[.int .i64 3, .int .i64 near, .int .i64 0, .int .i64 40] 3)).alloc (.cells #[.int .i64 1, .int .i64 3, .int .i64 40, .int .i64 0] 3)).alloc (.cells #[.slice (some ⟨w.heap.size + 1, 0, none⟩) 4 4, .slice (some ⟨w.heap.size + 1 + 1, 0, none⟩) 4 4, .slice (some ⟨w.heap.size + 1 + 1 + 1, 0, none⟩) 4 4, .slice (some ⟨w.heap.size + 1 + 1 + 1 + 1, 0, none⟩) 4 4] 24)).alloc (.cells #[.int .i64 4, .slice (some ⟨w.heap.size + 1 + 1 + 1 + 1 + 1, 0, none⟩) 4 4, .int .i64 1, .int .i64 3000, .slice none 0 0, .slice none 0 0] 26)).alloc (.cells #[.int .i64 0, .int .i64 1, .int .i64 1, .int .i64 0, .int .i64 2, .int .i64 3, .int .i64 3, .int .i64 2] 63)) (w.heap.size + 1 + 1 + 1 + 1 + 1 + 1 + 1) #[.int .i64 0, .int .i64 1, .int .i64 1, .int .i64 0, .int .i64 2, .int .i64 3, .int .i64 3, .int .i64 2] 63 := Blk.new' (((((((w.alloc (.cells #[.int .i64 0, .slice none 0 0, .int .i64 0, .int .i64 0, .slice none 0 0, .slice none 0 0] 26)).alloc (.cells #[.int .i64 0, .int .i64 40, .int .i64 3, .int .i64 1] 3)).alloc (.cells #[.int .i64 40, .int .i64 0, .int .i64 40, .int .i64 3] 3)).alloc (.cells #[.int .i64 3, .int .i64 near, .int .i64 0, .int .i64 40] 3)).alloc (.cells #[.int .i64 1, .int .i64 3, .int .i64 40, .int .i64 0] 3)).alloc (.cells #[.slice (some ⟨w.heap.size + 1, 0, none⟩) 4 4, .slice (some ⟨w.heap.size + 1 + 1, 0, none⟩) 4 4, .slice (some ⟨w.heap.size + 1 + 1 + 1, 0, none⟩) 4 4, .slice (some ⟨w.heap.size + 1 + 1 + 1 + 1, 0, none⟩) 4 4] 24)).alloc (.cells #[.int .i64 4, .slice (some ⟨w.heap.size + 1 + 1 + 1 + 1 + 1, 0, none⟩) 4 4, .int .i64 1, .int .i64 3000, .slice none 0 0, .slice none 0 0] 26)) #[.int .i64 0, .int .i64 1, .int .i64 1, .int .i64 0, .int .i64 2, .int .i64 3, .int .i64 3, .int .i64 2] 63 (w.heap.size + 1 + 1 + 1 + 1 + 1 + 1 + 1) (by simp only [size_alloc1])
  have hb0 := below_allocN (below_allocN (below_allocN (below_allocN (below_allocN (below_allocN (below_allocN (below_allocN (Below.refl _ w) (.cells #[.int .i64 0, .slice none 0 0, .int .i64 0, .int .i64 0, .slice none 0 0, .slice none 0 0] 26)) (.cells #[.int .i64 0, .int .i64 40, .int .i64 3, .int .i64 1] 3)) (.cells #[.int .i64 40, .int .i64 0, .int .i64 40, .int .i64 3] 3)) (.cells #[.int .i64 3, .int .i64 near, .int .i64 0, .int .i64 40] 3)) (.cells #[.int .i64 1, .int .i64 3, .int .i64 40, .int .i64 0] 3)) (.cells #[.slice (some ⟨w.heap.size + 1, 0, none⟩) 4 4, .slice (some ⟨w.heap.size + 1 + 1, 0, none⟩) 4 4, .slice (some ⟨w.heap.size + 1 + 1 + 1, 0, none⟩) 4 4, .slice (some ⟨w.heap.size + 1 + 1 + 1 + 1, 0, none⟩) 4 4] 24)) (.cells #[.int .i64 4, .slice (some ⟨w.heap.size + 1 + 1 + 1 + 1 + 1, 0, none⟩) 4 4, .int .i64 1, .int .i64 3000, .slice none 0 0, .slice none 0 0] 26)) (.cells #[.int .i64 0, .int .i64 1, .int .i64 1, .int .i64 0, .int .i64 2, .int .i64 3, .int .i64 3, .int .i64 2] 63)
  have hsz : (((((((((w.alloc (.cells #[.int .i64 0, .slice none 0 0, .int .i64 0, .int .i64 0, .slice none 0 0, .slice none 0 0] 26)).alloc (.cells #[.int .i64 0, .int .i64 40, .int .i64 3, .int .i64 1] 3)).alloc (.cells #[.int .i64 40, .int .i64 0, .int .i64 40, .int .i64 3] 3)).alloc (.cells #[.int .i64 3, .int .i64 near, .int .i64 0, .int .i64 40] 3)).alloc (.cells #[.int .i64 1, .int .i64 3, .int .i64 40, .int .i64 0] 3)).alloc (.cells #[.slice (some ⟨w.heap.size + 1, 0, none⟩) 4 4, .slice (some ⟨w.heap.size + 1 + 1, 0, none⟩) 4 4, .slice (some ⟨w.heap.size + 1 + 1 + 1, 0, none⟩) 4 4, .slice (some ⟨w.heap.size + 1 + 1 + 1 + 1, 0, none⟩) 4 4] 24)).alloc (.cells #[.int .i64 4, .slice (some ⟨w.heap.size + 1 + 1 + 1 + 1 + 1, 0, none⟩) 4 4, .int .i64 1, .int .i64 3000, .slice none 0 0, .slice none 0 0] 26)).alloc (.cells #[.int .i64 0, .int .i64 1, .int .i64 1, .int .i64 0, .int .i64 2, .int .i64 3, .int .i64 3, .int .i64 2] 63))).heap.size = w.heap.size + 1 + 1 + 1 + 1 + 1 + 1 + 1 + 1 := by simp only [size_alloc1]
  replace hi := Lib.hid hi
  replace hi' := Lib.hid hi'
  replace hz0 := Lib.hid hz0
  replace hz1 := Lib.hid hz1
  replace hz2 := Lib.hid hz2
  replace hz0' := Lib.hid hz0'
  replace hz1' := Lib.hid hz1'
  replace hz2' := Lib.hid hz2'
  replace X0 := Lib.hid X0
  replace X1 := Lib.hid X1
  replace X2 := Lib.hid X2
  replace X3 := Lib.hid X3
  replace X4 := Lib.hid X4
  replace X5 := Lib.hid X5
  replace X6 := Lib.hid X6
  replace X7 := Lib.hid X7
  replace hb0 := Lib.hid hb0
  replace hsz := Lib.hid hsz
  go_enter Try.func35, Try.ntmps35
  go_wp2
  generalize ((((((((w.alloc (.cells #[.int .i64 0, .slice none 0 0, .int .i64 0, .int .i64 0, .slice none 0 0, .slice none 0 0] 26)).alloc (.cells #[.int .i64 0, .int .i64 40, .int .i64 3, .int .i64 1] 3)).alloc (.cells #[.int .i64 40, .int .i64 0, .int .i64 40, .int .i64 3] 3)).alloc (.cells #[.int .i64 3, .int .i64 near, .int .i64 0, .int .i64 40] 3)).alloc (.cells #[.int .i64 1, .int .i64 3, .int .i64 40, .int .i64 0] 3)).alloc (.cells #[.slice (some ⟨w.heap.size + 1, 0, none⟩) 4 4, .slice (some ⟨w.heap.size + 1 + 1, 0, none⟩) 4 4, .slice (some ⟨w.heap.size + 1 + 1 + 1, 0, none⟩) 4 4, .slice (some ⟨w.heap.size + 1 + 1 + 1 + 1, 0, none⟩) 4 4] 24)).alloc (.cells #[.int .i64 4, .slice (some ⟨w.heap.size + 1 + 1 + 1 + 1 + 1, 0, none⟩) 4 4, .int .i64 1, .int .i64 3000, .slice none 0 0, .slice none 0 0] 26)).alloc (.cells #[.int .i64 0, .int .i64 1, .int .i64 1, .int .i64 0, .int .i64 2, .int .i64 3, .int .i64 3, .int .i64 2] 63)) = W8 at *
  generalize h7 : w.heap.size + 1 + 1 + 1 + 1 + 1 + 1 + 1 = B7 at *
  generalize h6 : w.heap.size + 1 + 1 + 1 + 1 + 1 + 1 = B6 at *
  generalize h5 : w.heap.size + 1 + 1 + 1 + 1 + 1 = B5 at *
  generalize h4 : w.heap.size + 1 + 1 + 1 + 1 = B4 at *
  generalize h3 : w.heap.size + 1 + 1 + 1 = B3 at *
  generalize h2 : w.heap.size + 1 + 1 = B2 at *
  generalize h1 : w.heap.size + 1 = B1 at *
  replace h1 := Lib.hid h1
  replace h2 := Lib.hid h2
  replace h3 := Lib.hid h3
  replace h4 := Lib.hid h4
  replace h5 := Lib.hid h5
  replace h6 := Lib.hid h6
  replace h7 := Lib.hid h7
  have HR0 : Hid (ExR w W8 W8 B6 B7 (.slice (some ⟨B5, 0, none⟩) 4 4) 0 0 (.slice none 0 0) (.slice none 0 0)) :=
    ⟨hb0.out, Below.refl _ _, X6.out, X7.out, World.ownsRow_nil _ _ _ _, World.ownsRow_nil _ _ _ _, fun g h => (by cases h), by have := h1.out; have := h2.out; have := h3.out; have := h4.out; have := h5.out; have := h6.out; omega, by have := h7.out; omega⟩
  clear hsz
  go_loopw [19] (fun i wr => ∃ (k : Nat) (vL vM : Value), k ≤ 4 ∧ i = .int .i64 k ∧ Hid (ExR w W8 wr B6 B7 (.slice (some ⟨B5, 0, none⟩) 4 4) k k vL vM)) (fun i _ => 4 - (intOf i).toNat)
  case atStart => exact ⟨0, _, _, by omega, rfl, HR0⟩
  case round =>
    obtain ⟨k, vL, vM, hk, rfl, HR⟩ := hrel
    by_cases hlt : k < 4
    · obtain ⟨⟨a, b, c⟩, hl, hc0, q0, q1⟩ := ex_pair HR.out.pairs hlt
      dsimp only at hc0 q0 q1
      subst hc0
      have kn := HR.out.net.cell
      have kf := fun i => ((HR.out.net.alloc (.cells #[.int .i64 a, .int .i64 b] 63)).alloc (.cells #[.int .i64 a, .int .i64 b, .int .i64 0] 44)).free i
      have kB : B7 < wr.heap.size := HR.out.pairs.lt
      have kB6 : B6 < wr.heap.size := HR.out.net.lt
      have HA := ((HR.out.alloc (.cells #[.int .i64 a, .int .i64 b] 63)).alloc (.cells #[.int .i64 a, .int .i64 b, .int .i64 0] 44))
      have HW := HA.ownL
      have hnews := World.news_of_block (Blk.new (wr.alloc (.cells #[.int .i64 a, .int .i64 b] 63)) #[.int .i64 a, .int .i64 b, .int .i64 0] 44).at_
      replace hl := Lib.hid hl
      replace HA := Lib.hid HA
      replace HW := Lib.hid HW
      replace hnews := Lib.hid hnews
      go_upto_region 6 with (at_builtin; refine wpList_append_lies _ rfl _ _ _ rfl (B7 + 1) 44 i0 (.agg #[.int .i64 0, .int .i64 0, .int .i64 0]) 3 24 Try.underlying23 hi.out hz0.out hz1.out hz2.out rfl (by decide) vL k (flat 3 lnkV (exLinks.take k)) rfl HW.out ⟨wr.heap.size + 1, 0, none⟩ 1 1 [.int .i64 a, .int .i64 b, .int .i64 0] rfl rfl ?c1 ?c2 (by decide) ?c3 ?c4 ?c5 (wr.heap.size + 1 + 1) ?c6 ?_)
      try case c1 => exact hnews.out
      case c2 => exact ⟨rfl, rfl, rfl⟩
      case c3 => unfold maxLen; omega
      case c4 => omega
      case c5 => omega
      try case c6 => simp
      intro g cap w1 hown1 hgrow1 hat1 hlt1
      have HS := HA.out.stepL hl.out hown1 hgrow1 (by simpa using hat1)
      have kn1 := fun i => (HA.out.net.grown hgrow1 (own_ne HA.out.ownL (B := B6) (by have := HA.out.hi; omega))).cell i
      have kf1 := fun i => (HA.out.net.grown hgrow1 (own_ne HA.out.ownL (B := B6) (by have := HA.out.hi; omega))).free i
      replace HS := Lib.hid HS
      replace hown1 := Lib.hid hown1
      replace hgrow1 := Lib.hid hgrow1
      replace hat1 := Lib.hid hat1
      clear kn kf q0 q1
      go_upto_region 6 with fail
      generalize w1.setCell ⟨B6, 4, none⟩ (.slice (some ⟨g, 0, none⟩) (k + 1) cap) = w2 at *
      clear kn1 kf1
      have kn2 := HS.out.net.cell
      have kB6 : B6 < w2.heap.size := HS.out.net.lt
      have kB : B7 < w2.heap.size := HS.out.pairs.lt
      have HC := HS.out.alloc (.cells #[.int .i64 30] 3)
      have HD := HC.ownM
      have hnews2 := World.news_of_block (Blk.new w2 #[.int .i64 30] 3).at_
      replace HC := Lib.hid HC
      replace HD := Lib.hid HD
      replace hnews2 := Lib.hid hnews2
      go_wp2_with (at_builtin; refine wpList_append_lies _ rfl _ _ _ rfl (B7 + 1) 3 i1 (.int .i64 0) 1 8 Try.underlying24 hi'.out hz0'.out hz1'.out hz2'.out rfl (by decide) vM k (flat 1 intV (List.replicate k 30)) rfl HD.out ⟨w2.heap.size, 0, none⟩ 1 1 [.int .i64 30] rfl rfl ?e1 ?e2 (by decide) ?e3 ?e4 ?e5 (w2.heap.size + 1) ?e6 ?_)
      try case e1 => exact hnews2.out
      try case e2 => rfl
      try case e3 => unfold maxLen; omega
      try case e4 => omega
      try case e5 => omega
      try case e6 => simp
      intro g2 cap2 w3 hown3 hgrow3 hat3 hlt3
      have HT := HC.out.stepM hown3 hgrow3 (by simpa using hat3)
      have kn3 := fun i => (HC.out.net.grown hgrow3 (own_ne HC.out.ownM (B := B6) (by have := HC.out.hi; omega))).cell i
      have kf3 := fun i => (HC.out.net.grown hgrow3 (own_ne HC.out.ownM (B := B6) (by have := HC.out.hi; omega))).free i
      replace HT := Lib.hid HT
      replace hown3 := Lib.hid hown3
      replace hgrow3 := Lib.hid hgrow3
      replace hat3 := Lib.hid hat3
      clear kn2
      go_wp2
      go_roundw
      case rel => exact ⟨k + 1, _, _, by omega, by go_num, HT⟩
      case measure => simp [intOf]; omega
    · obtain rfl : k = 4 := by omega
      obtain ⟨gL, cL, rfl, hgL, hgL2⟩ := HR.out.ownL.form (by omega)
      obtain ⟨gM, cM, rfl, hgM, hgM2⟩ := HR.out.ownM.form (by omega)
      have kn := HR.out.net.cell
      have hlt0 : w.heap.size < B6 := by have := h1.out; have := h2.out; have := h3.out; have := h4.out; have := h5.out; have := h6.out; omega
      have X0' := X0.out.under HR.out.under hlt0
      have k0 := X0'.cell
      have f0 := X0'.free
      have HB : Below w.heap.size w wr := HR.out.below
      have HU := HR.out.under
      have hhi := HR.out.hi
      have hF : ∀ {B : Nat} {C : Array Value} {t : TypeId}, Blk W8 B C t → B < B6 → B ≠ w.heap.size → Blk (six wr w.heap.size (.slice (some ⟨B5, 0, none⟩) 4 4) (.slice (some ⟨gL, 0, none⟩) 4 cL) (.slice (some ⟨gM, 0, none⟩) 4 cM)) B C t := fun h h1 h2 => (h.under HU h1).six h2 _ _ _
      have HL := (lnkS_of_owns (owns_six HR.out.ownL (B := w.heap.size) (by omega) (.slice (some ⟨B5, 0, none⟩) 4 4) (.slice (some ⟨gL, 0, none⟩) 4 cL) (.slice (some ⟨gM, 0, none⟩) 4 cM)) (by unfold exLinks; intro x hx; simp only [List.take_succ_cons, List.take_zero, List.mem_cons, List.not_mem_nil, or_false] at hx; rcases hx with rfl | rfl | rfl | rfl <;> (unfold Lnk.ok I64; dsimp only; omega))).2
      have HM := (intS_of_owns (owns_six HR.out.ownM (B := w.heap.size) (by omega) (.slice (some ⟨B5, 0, none⟩) 4 4) (.slice (some ⟨gL, 0, none⟩) 4 cL) (.slice (some ⟨gM, 0, none⟩) 4 cM)) (by intro x hx; rw [List.eq_of_mem_replicate hx]; unfold I64; omega)).2
      have e1 := h1.out
      have e2 := h2.out
      have e3 := h3.out
      have e4 := h4.out
      have e5 := h5.out
      have e6 := h6.out
      have N1 := row4 (hF X1.out (by omega) (by omega)) (by intro x hx; simp only [List.mem_cons, List.not_mem_nil, or_false] at hx; unfold I64; omega)
      have N2 := row4 (hF X2.out (by omega) (by omega)) (by intro x hx; simp only [List.mem_cons, List.not_mem_nil, or_false] at hx; unfold I64; omega)
      have N3 := row4 (hF X3.out (by omega) (by omega)) (by intro x hx; simp only [List.mem_cons, List.not_mem_nil, or_false] at hx; rcases hx with rfl | rfl | rfl | rfl <;> first | exact hn | (unfold I64; omega))
      have N4 := row4 (hF X4.out (by omega) (by omega)) (by intro x hx; simp only [List.mem_cons, List.not_mem_nil, or_false] at hx; unfold I64; omega)
      have N5 := outer4 (hF X5.out (by omega) (by omega)) N1 N2 N3 N4
      have HB2 : Below w.heap.size w (six wr w.heap.size (.slice (some ⟨B5, 0, none⟩) 4 4) (.slice (some ⟨gL, 0, none⟩) 4 cL) (.slice (some ⟨gM, 0, none⟩) 4 cM)) := below_six HB _ _ _
      have HN : NetIs _ ⟨some ⟨B5, 0, none⟩, 4, 4, some ⟨gL, 0, none⟩, 4, cL, some ⟨gM, 0, none⟩, 4, cM⟩ (exNet near) := ⟨N5, HL, HM, by show I64 4; unfold I64; omega, by show I64 1; unfold I64; omega, by show I64 3000; unfold I64; omega⟩
      unfold six at HB2 HN
      replace HN := Lib.hid HN
      replace HB2 := Lib.hid HB2
      clear hF HL HM N1 N2 N3 N4 N5 e1 e2 e3 e4 e5 e6 HB HU
      go_wp2
      refine bodyPost_ret (v := .agg #[.int .i64 4, .slice (some ⟨B5, 0, none⟩) 4 4, .int .i64 1, .int .i64 3000, .slice (some ⟨gL, 0, none⟩) 4 cL, .slice (some ⟨gM, 0, none⟩) 4 cM]) (by simp [results, Try.results35, go_sem, k0]) rfl ⟨⟨some ⟨B5, 0, none⟩, 4, 4, some ⟨gL, 0, none⟩, 4, cL, some ⟨gM, 0, none⟩, 4, cM⟩, rfl, HN.out, HB2.out⟩
end Nt
end Go.Proofs.Ythibgpgjioepfaa
