/- Chapter 26: slices.SortFunc at the cells of a table, their slots bounded. -/
import Derived.Test.YtkfipbelhlcddaaGreatMg
import Derived.Test.YtkfipbelhlcddaaGreatSortT
import Derived.Test.YtkfipbelhlcddaaGreatLay
set_option linter.unusedVariables false
set_option linter.unusedSimpArgs false
namespace Go.Proofs.YtkfipbelhlcddaaGreat
open Go Go.RowKit Go.Sort Go.Shelf
namespace Tx
open Sw Mm
abbrev TB := {c : TCl // 0 ≤ c.slot ∧ c.slot ≤ 511}
instance : Inhabited TB := ⟨⟨⟨0, 0, 0, false, 0, 0⟩, by decide⟩⟩
def tbE (c : TB) : List Value := tclE c.1
theorem tbE_len (c : TB) : (tbE c).length = 6 := rfl
theorem tbE_one (c : TB) : ∀ v ∈ tbE c, v.oneCell' = true := tclE_one c.1
def cfB (x y : TB) : Int := x.1.slot - y.1.slot
theorem ltB (x y : TB) : ltOf cfB x y = true ↔ x.1.slot < y.1.slot := by unfold ltOf cfB; rw [decide_eq_true_eq]; omega
theorem ltBf (x y : TB) : ltOf cfB x y = false ↔ y.1.slot ≤ x.1.slot := by rw [← Bool.not_eq_true, ltB]; omega
theorem swoB : SWO (ltOf cfB) where
  irrefl x := by rw [ltBf]; exact Int.le_refl _
  trans x y z h1 h2 := by rw [ltB] at *; omega
  ntrans x y z h1 h2 := by rw [ltBf] at *; omega
theorem fm_tb (d : List TB) : d.flatMap tbE = (d.map (·.1)).flatMap tclE := by rw [List.flatMap_map]; rfl
theorem lift_tb : ∀ {xs : List TCl}, (∀ c ∈ xs, 0 ≤ c.slot ∧ c.slot ≤ 511) → ∃ d : List TB, d.map (·.1) = xs
  | [], _ => ⟨[], rfl⟩
  | x :: xs, h => by
    obtain ⟨d, hd⟩ := lift_tb (xs := xs) fun c hc => h c (List.mem_cons_of_mem _ hc)
    exact ⟨⟨x, h x (List.mem_cons_self ..)⟩ :: d, by rw [List.map_cons, hd]⟩
theorem permIn_whole {α : Type} [Inhabited α] {d d' : Array α} (h : PermIn 0 d.size d d') : d'.toList.Perm d.toList := by
  obtain ⟨h1, _, h3⟩ := h
  rw [← h1] at h3
  simp only [Array.extract_size] at h3
  rw [h1] at h3
  simpa using h3
theorem sortedIn_whole {d d' : Array TB} (hs : d'.size = d.size) (h : SortedIn (ltOf cfB) 0 d.size d') : (d'.toList.map (·.1)).Pairwise fun a b : TCl => a.slot ≤ b.slot := by
  rw [List.pairwise_map, List.pairwise_iff_getElem]
  intro i j hi hj hij
  have hi' : i < d'.size := by simpa using hi
  have hj' : j < d'.size := by simpa using hj
  have := h i j (Nat.zero_le _) hij (by omega)
  rw [getElem!_pos d' i hi', getElem!_pos d' j hj', ltBf] at this
  simpa using this
def SortTPost (A : Option Addr) (n c base : Nat) (xs : List TCl) (w : World) (e : Ending) (w' : World) : Prop :=
  e = .returned (.tuple #[]) ∧ ∃ ys : List TCl, ys.Perm xs ∧ ys.Pairwise (fun a b => a.slot ≤ b.slot) ∧ w'.ownsRow base 67 6 (.slice A n c) n (ys.flatMap tclE) ∧ w.grownBy w' (Value.slice A n c).ownBlock
set_option maxRecDepth 100000 in
set_option maxHeartbeats 2000000 in
theorem chg2_any (x y : TCl) (w : World) (hx : 0 ≤ x.slot ∧ x.slot ≤ 511) (hy : 0 ≤ y.slot ∧ y.slot ≤ 511) : Calls Tryz.prog 118 #[.agg #[.int .i64 x.slot, .int .i64 x.off, .int .i64 x.kind, .bool x.send, .int .i64 x.peer, .int .i64 x.flow], .agg #[.int .i64 y.slot, .int .i64 y.off, .int .i64 y.kind, .bool y.send, .int .i64 y.peer, .int .i64 y.flow]] w fun e w' => e = .returned (.int .i64 (x.slot - y.slot)) ∧ GW w w' := by
  obtain ⟨x0, x1, x2, x3, x4, x5⟩ := x
  obtain ⟨y0, y1, y2, y3, y4, y5⟩ := y
  dsimp only at *
  have hw : IntKind.i64.wrap (x0 - y0) = x0 - y0 := IntWalk.i64_in _ (by omega)
  have hG := ((GW.refl w).alloc (.cells #[.int .i64 x0, .int .i64 x1, .int .i64 x2, .bool x3, .int .i64 x4, .int .i64 x5] 67)).alloc (.cells #[.int .i64 y0, .int .i64 y1, .int .i64 y2, .bool y3, .int .i64 y4, .int .i64 y5] 67)
  replace hG := Lib.hid hG
  go_enter Tryz.func118, Tryz.ntmps118
  go_wp2
  go_ret
  exact ⟨rfl, hG.out⟩
set_option maxRecDepth 100000 in
set_option maxHeartbeats 2000000 in
theorem sortT_any (xs : List TCl) (hx : ∀ c ∈ xs, 0 ≤ c.slot ∧ c.slot ≤ 511) (A : Option Addr) (n c base : Nat) (w : World) (h : w.ownsRow base 67 6 (.slice A n c) n (xs.flatMap tclE)) (hl : n ≤ 1000000) :
    Calls Tryz.prog 117 #[.slice A n c, .func (.func 118) #[] #[]] w (SortTPost A n c base xs w) := by
  have hxl : xs.length = n := own_len tclE_len (by decide) h
  rcases h.2 with ⟨hv, h0⟩ | ⟨g, cap, cur, hv, hbase, hg, r1, r2, r3, r4⟩
  · have hn := AnyF.slices_SortFunc_none (P := Tryz.prog) (ρ := Tryz.sortf_ren) { Tryz.sortf with } A c (.func (.func 118) #[] #[]) w
    change Calls Tryz.prog 117 _ _ _ at hn
    subst h0
    refine hn.mono ?_
    rintro e w' ⟨rfl, rfl⟩
    have hx0 : xs = [] := List.length_eq_zero_iff.1 hxl
    subst hx0
    exact ⟨rfl, [], List.Perm.refl _, List.Pairwise.nil, h, gb_refl _ _⟩
  · injection hv with hA _ hc
    subst hA hc
    obtain ⟨d, rfl⟩ := lift_tb hx
    rw [List.length_map] at hxl
    rw [← fm_tb] at r4
    subst hxl
    have hH := Sk.holdsK_of tbE 6 tbE_len hg (ss := d) r4
    have hgl : g < w.heap.size := (Array.getElem?_eq_some_iff.1 hg).1
    have hcmp : CmpLays Tryz.prog 118 #[] tbE 6 cfB g 0 d.toArray.size w := by
      intro m os dk _ x y
      exact chg2_any x.1 y.1 _ x.2 y.2
    have hS := AnyQ.slices_SortFunc (P := Tryz.prog) (ρ := Tryz.sortf_ren) Tryz.sortf 6 Tryz.isAgg67 Tryz.sizeOf67 tbE tbE_len tbE_one cfB swoB 118 #[] g 0 c d.toArray w (enters_of Tryz.func118 (by kernel_rfl) rfl) hcmp hH hgl (by rw [List.size_toArray]; omega)
    change Calls Tryz.prog 117 _ _ _ at hS
    rw [List.size_toArray] at hS
    refine hS.mono ?_
    rintro e w' ⟨rfl, d', q, os, hp, hs, rfl⟩
    have hsz : d'.size = d.length := by simpa using hp.1
    have hq : sortWorldK tbE 6 w g 0 q d' os = sortWorldK tbE 6 w g 0 q d'.toList.toArray os := by simp
    refine ⟨rfl, d'.toList.map (·.1), ?_, sortedIn_whole (d := d.toArray) (by simpa using hsz) (by simpa using hs), ?_, Sk.grownBy_sortK tbE 6 _⟩
    · have := permIn_whole (d := d.toArray) (by simpa using hp)
      exact this.map _
    · rw [hq, ← fm_tb]
      exact Sk.owns_sortK tbE 6 tbE_len (m := d.length) (ts := d'.toList) (by simpa using hsz) hbase hg r1 r2 r3
end Tx
end Go.Proofs.YtkfipbelhlcddaaGreat
