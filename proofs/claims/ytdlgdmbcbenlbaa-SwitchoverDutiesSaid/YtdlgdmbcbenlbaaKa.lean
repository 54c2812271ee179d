/- Chapter 52, plain: cells, changes, duties; the times of a cell. -/
import Derived.WalkKit
import Derived.Test.YtdlgdmbcbenlbaaK0
import Derived.Lib.Hide
import Derived.Lib.QuietBelow
import Derived.Laws.Rows
import Derived.Deep.AppendLies
import Derived.Test.YtdlgdmbcbenlbaaChecked
import Derived.Deep.RegionHeld3
import Derived.Deep.CutBlock
import Derived.Deep.DeepCutAuto
import Derived.BigQuiet
import Derived.IntWalk
import Derived.DeepKeys4
import Derived.Maps.Own
import Derived.Maps.Keyed
import Derived.Maps.Views
import Derived.WalkSmall
import Derived.Laws.OwnMore
import Derived.Laws.StructEq
set_option linter.unusedVariables false
set_option linter.unusedSimpArgs false
namespace Go.Proofs.Ytdlgdmbcbenlbaa
namespace Sw
/-- the times contain a slot -/
def InT (t : List (Int × Int)) (x : Int) : Prop := ∃ p ∈ t, p.1 ≤ x ∧ (p.2 = -1 ∨ x < p.2)
structure Canon (t : List (Int × Int)) : Prop where
  each : ∀ p ∈ t, 0 ≤ p.1 ∧ (p.2 = -1 ∨ p.1 < p.2)
  apart : t.Pairwise fun p q => p.2 ≠ -1 ∧ p.2 < q.1
theorem Canon.tail {p : Int × Int} {t : List (Int × Int)} (h : Canon (p :: t)) : Canon t := ⟨fun q hq => h.each q (List.mem_cons_of_mem _ hq), (List.pairwise_cons.1 h.apart).2⟩
theorem Canon.first_le {p : Int × Int} {t : List (Int × Int)} (h : Canon (p :: t)) {q : Int × Int} (hq : q ∈ p :: t) : p.1 ≤ q.1 := by
  rcases List.mem_cons.1 hq with rfl | hq
  · exact Int.le_refl _
  · have h1 := (List.pairwise_cons.1 h.apart).1 q hq
    have h2 := h.each p (List.mem_cons_self ..)
    omega
theorem InT_cons {p : Int × Int} {t : List (Int × Int)} {x : Int} : InT (p :: t) x ↔ (p.1 ≤ x ∧ (p.2 = -1 ∨ x < p.2)) ∨ InT t x := by
  unfold InT
  simp [List.mem_cons]
theorem Canon.head_in {p : Int × Int} {t : List (Int × Int)} (h : Canon (p :: t)) : InT (p :: t) p.1 := by
  have := h.each p (List.mem_cons_self ..)
  exact ⟨p, List.mem_cons_self .., Int.le_refl _, by omega⟩
theorem Canon.gap {p : Int × Int} {t : List (Int × Int)} (h : Canon (p :: t)) (hp : p.2 ≠ -1) : ¬ InT (p :: t) p.2 := by
  rintro ⟨q, hq, h1, h2⟩
  rcases List.mem_cons.1 hq with rfl | hq
  · omega
  · have := (List.pairwise_cons.1 h.apart).1 q hq; omega
/-- one set of slots has one list of times -/
theorem Canon.unique : ∀ {t u : List (Int × Int)}, Canon t → Canon u → (∀ x, 0 ≤ x → (InT t x ↔ InT u x)) → t = u
  | [], [], _, _, _ => rfl
  | [], q :: u, _, hu, h => by
    have h1 := (h q.1 (hu.each q (List.mem_cons_self ..)).1).2 hu.head_in
    obtain ⟨_, h2, _⟩ := h1
    cases h2
  | p :: t, [], ht, _, h => by
    have h1 := (h p.1 (ht.each p (List.mem_cons_self ..)).1).1 ht.head_in
    obtain ⟨_, h2, _⟩ := h1
    cases h2
  | p :: t, q :: u, ht, hu, h => by
    have hp := ht.each p (List.mem_cons_self ..)
    have hq := hu.each q (List.mem_cons_self ..)
    have e1 : p.1 = q.1 := by
      obtain ⟨r, hr, h1, _⟩ := (h p.1 hp.1).1 ht.head_in
      obtain ⟨r', hr', h1', _⟩ := (h q.1 hq.1).2 hu.head_in
      have := ht.first_le hr'
      have := hu.first_le hr
      omega
    have e2 : p.2 = q.2 := by
      by_cases a : p.2 = -1
      · by_cases b : q.2 = -1
        · rw [a, b]
        · exact absurd ((h q.2 (by omega)).1 ⟨p, List.mem_cons_self .., by omega, .inl a⟩) (hu.gap b)
      · by_cases b : q.2 = -1
        · exact absurd ((h p.2 (by omega)).2 ⟨q, List.mem_cons_self .., by omega, .inl b⟩) (ht.gap a)
        · rcases Int.lt_trichotomy p.2 q.2 with c | c | c
          · exact absurd ((h p.2 (by omega)).2 ⟨q, List.mem_cons_self .., by omega, .inr c⟩) (ht.gap a)
          · exact c
          · exact absurd ((h q.2 (by omega)).1 ⟨p, List.mem_cons_self .., by omega, .inr c⟩) (hu.gap b)
    have e : p = q := Prod.ext e1 e2
    subst e
    congr 1
    refine Canon.unique ht.tail hu.tail fun x hx => ?_
    have h3 := h x hx
    rw [InT_cons, InT_cons] at h3
    constructor
    · intro hi
      rcases h3.1 (.inr hi) with h4 | h4
      · obtain ⟨r, hr, h5, h6⟩ := hi
        have := (List.pairwise_cons.1 ht.apart).1 r hr
        omega
      · exact h4
    · intro hi
      rcases h3.2 (.inr hi) with h4 | h4
      · obtain ⟨r, hr, h5, h6⟩ := hi
        have := (List.pairwise_cons.1 hu.apart).1 r hr
        omega
      · exact h4
/-- opens a time, or goes on with the last one -/
def begT (t : List (Int × Int)) (s : Int) : List (Int × Int) :=
  match t.getLast? with
  | none => [(s, -1)]
  | some p => if p.2 = s then t.dropLast ++ [(p.1, -1)] else t ++ [(s, -1)]
/-- closes the last time -/
def endT (t : List (Int × Int)) (s : Int) : List (Int × Int) :=
  match t.getLast? with
  | none => []
  | some p => if p.1 = s then t.dropLast else t.dropLast ++ [(p.1, s)]
theorem begT_nil (s : Int) : begT [] s = [(s, -1)] := rfl
theorem begT_snoc (t : List (Int × Int)) (p : Int × Int) (s : Int) : begT (t ++ [p]) s = if p.2 = s then t ++ [(p.1, -1)] else t ++ [p] ++ [(s, -1)] := by
  unfold begT; rw [List.getLast?_concat, List.dropLast_concat]
theorem endT_snoc (t : List (Int × Int)) (p : Int × Int) (s : Int) : endT (t ++ [p]) s = if p.1 = s then t else t ++ [(p.1, s)] := by
  unfold endT; rw [List.getLast?_concat, List.dropLast_concat]
theorem snoc_cases {α : Type} (t : List α) : t = [] ∨ ∃ u p, t = u ++ [p] := by
  rcases List.eq_nil_or_concat t with h | ⟨u, p, h⟩
  · exact .inl h
  · exact .inr ⟨u, p, by rw [h, List.concat_eq_append]⟩
/-- the times say just what f says, end at s, and f stays as it is from there on -/
structure Inv (t : List (Int × Int)) (f : Int → Bool) (s : Int) (b : Bool) : Prop where
  canon : Canon t
  cov : ∀ x, 0 ≤ x → (InT t x ↔ f x = true)
  le : ∀ p ∈ t, p.1 ≤ s ∧ p.2 ≤ s
  const : ∀ x, s ≤ x → f x = b
  pos : 0 ≤ s
theorem InT_app {t u : List (Int × Int)} {x : Int} : InT (t ++ u) x ↔ InT t x ∨ InT u x := by
  unfold InT
  constructor
  · rintro ⟨p, hp, h⟩
    rcases List.mem_append.1 hp with hp | hp
    · exact .inl ⟨p, hp, h⟩
    · exact .inr ⟨p, hp, h⟩
  · rintro (⟨p, hp, h⟩ | ⟨p, hp, h⟩)
    · exact ⟨p, List.mem_append_left _ hp, h⟩
    · exact ⟨p, List.mem_append_right _ hp, h⟩
theorem InT_one {p : Int × Int} {x : Int} : InT [p] x ↔ p.1 ≤ x ∧ (p.2 = -1 ∨ x < p.2) := by unfold InT; simp
theorem Canon.snoc {t : List (Int × Int)} {p : Int × Int} : Canon (t ++ [p]) ↔ Canon t ∧ (0 ≤ p.1 ∧ (p.2 = -1 ∨ p.1 < p.2)) ∧ ∀ q ∈ t, q.2 ≠ -1 ∧ q.2 < p.1 := by
  constructor
  · intro h
    have ha := List.pairwise_append.1 h.apart
    exact ⟨⟨fun q hq => h.each q (List.mem_append_left _ hq), ha.1⟩, h.each p (by simp), fun q hq => ha.2.2 q hq p (by simp)⟩
  · rintro ⟨h, hp, hq⟩
    refine ⟨fun q h1 => ?_, List.pairwise_append.2 ⟨h.apart, List.pairwise_singleton _ _, fun q h1 r h2 => ?_⟩⟩
    · rcases List.mem_append.1 h1 with h1 | h1
      · exact h.each q h1
      · rw [List.mem_singleton] at h1; subst h1; exact hp
    · rw [List.mem_singleton] at h2; subst h2; exact hq q h1
/-- a closed list below s does not contain s -/
theorem Inv.closed {t : List (Int × Int)} {f : Int → Bool} {s : Int} (h : Inv t f s false) : ∀ p ∈ t, p.2 ≠ -1 := by
  intro p hp e
  have h1 := h.const s (Int.le_refl _)
  have h2 := (h.cov s h.pos).1 ⟨p, hp, (h.le p hp).1, .inl e⟩
  rw [h1] at h2; cases h2
theorem Inv.open_ {t : List (Int × Int)} {f : Int → Bool} {s : Int} (h : Inv t f s true) : ∃ u p, t = u ++ [p] ∧ p.2 = -1 := by
  obtain ⟨p, hp, h1, h2⟩ := (h.cov s h.pos).2 (h.const s (Int.le_refl _))
  have hl := (h.le p hp).2
  have e : p.2 = -1 := by omega
  rcases snoc_cases t with rfl | ⟨u, q, rfl⟩
  · cases hp
  · refine ⟨u, q, rfl, ?_⟩
    rcases List.mem_append.1 hp with hp | hp
    · exact absurd e ((Canon.snoc.1 h.canon).2.2 p hp).1
    · rw [List.mem_singleton] at hp; subst hp; exact e
/-- f, and b from s on -/
def upd (f : Int → Bool) (s : Int) (b : Bool) (x : Int) : Bool := if s ≤ x then b else f x
theorem Inv.later {t : List (Int × Int)} {f : Int → Bool} {s s' : Int} {b : Bool} (h : Inv t f s b) (hs : s ≤ s') : Inv t f s' b :=
  ⟨h.canon, h.cov, fun p hp => by have := h.le p hp; omega, fun x hx => h.const x (by omega), by have := h.pos; omega⟩
theorem Inv.congr {t : List (Int × Int)} {f g : Int → Bool} {s : Int} {b : Bool} (h : Inv t f s b) (hg : ∀ x, 0 ≤ x → g x = f x) : Inv t g s b :=
  ⟨h.canon, fun x hx => by rw [hg x hx]; exact h.cov x hx, h.le, fun x hx => by rw [hg x (by have := h.pos; omega)]; exact h.const x hx, h.pos⟩
theorem Inv.start (b : Bool) : Inv (if b = true then begT [] 0 else []) (fun _ => b) 0 b := by
  cases b
  · exact ⟨⟨fun p hp => (by cases hp), List.Pairwise.nil⟩, fun x _ => by simp [InT], fun p hp => (by cases hp), fun _ _ => rfl, Int.le_refl _⟩
  · refine ⟨⟨fun p hp => ?_, List.pairwise_singleton _ _⟩, fun x hx => ?_, fun p hp => ?_, fun _ _ => rfl, Int.le_refl _⟩
    · rw [if_pos rfl, begT_nil, List.mem_singleton] at hp; subst hp; exact ⟨Int.le_refl _, .inl rfl⟩
    · rw [if_pos rfl, begT_nil, InT_one]; simp [hx]
    · rw [if_pos rfl, begT_nil, List.mem_singleton] at hp; subst hp; exact ⟨Int.le_refl _, by decide⟩
theorem Inv.begin_ {t : List (Int × Int)} {f : Int → Bool} {s s' : Int} (h : Inv t f s false) (hs : s ≤ s') : Inv (begT t s') (upd f s' true) s' true := by
  have hcl := h.closed
  have hpos := h.pos
  have hf : ∀ x, s ≤ x → f x = false := h.const
  rcases snoc_cases t with rfl | ⟨u, p, rfl⟩
  · rw [begT_nil]
    refine ⟨⟨fun p hp => ?_, List.pairwise_singleton _ _⟩, fun x hx => ?_, fun p hp => ?_, fun x hx => if_pos hx, by omega⟩
    · rw [List.mem_singleton] at hp; subst hp; exact ⟨by dsimp only; omega, .inl rfl⟩
    · rw [InT_one]
      unfold upd
      by_cases h1 : s' ≤ x
      · simp [h1]
      · have h2 := h.cov x hx
        have : ¬ InT [] x := fun ⟨_, h, _⟩ => by cases h
        rw [if_neg h1]
        constructor
        · rintro ⟨h3, _⟩; exact absurd h3 h1
        · intro h3; exact absurd (h2.2 h3) this
    · rw [List.mem_singleton] at hp; subst hp; exact ⟨Int.le_refl _, by dsimp only; omega⟩
  · rw [begT_snoc]
    have hc := Canon.snoc.1 h.canon
    have hp1 := hcl p (by simp)
    have hpl := h.le p (by simp)
    by_cases he : p.2 = s'
    · rw [if_pos he]
      refine ⟨Canon.snoc.2 ⟨hc.1, ⟨hc.2.1.1, .inl rfl⟩, hc.2.2⟩, fun x hx => ?_, fun q hq => ?_, fun x hx => if_pos hx, by omega⟩
      · have h2 := h.cov x hx
        rw [InT_app, InT_one] at h2 ⊢
        unfold upd
        dsimp only
        by_cases h1 : s' ≤ x
        · rw [if_pos h1]
          simp only [iff_true]
          exact .inr ⟨by omega, .inl (by simp)⟩
        · rw [if_neg h1, ← h2]
          constructor
          · rintro (h3 | h3)
            · exact .inl h3
            · exact .inr ⟨h3.1, .inr (by omega)⟩
          · rintro (h3 | h3)
            · exact .inl h3
            · exact .inr ⟨h3.1, .inl rfl⟩
      · rcases List.mem_append.1 hq with hq | hq
        · have := h.le q (List.mem_append_left _ hq); omega
        · rw [List.mem_singleton] at hq; subst hq; exact ⟨by dsimp only; omega, by dsimp only; omega⟩
    · rw [if_neg he]
      refine ⟨Canon.snoc.2 ⟨h.canon, ⟨by dsimp only; omega, .inl rfl⟩, fun q hq => ?_⟩, fun x hx => ?_, fun q hq => ?_, fun x hx => if_pos hx, by omega⟩
      · have h1 := hcl q hq
        have h2 := h.le q hq
        refine ⟨h1, ?_⟩
        dsimp only
        rcases List.mem_append.1 hq with hq | hq
        · have := hc.2.2 q hq; omega
        · rw [List.mem_singleton] at hq; subst hq; omega
      · have h2 := h.cov x hx
        rw [InT_app, InT_one]
        unfold upd
        dsimp only
        by_cases h1 : s' ≤ x
        · rw [if_pos h1]
          simp only [iff_true]
          exact .inr ⟨h1, .inl (by simp)⟩
        · rw [if_neg h1, h2]
          constructor
          · rintro (h3 | h3)
            · exact h3
            · exact absurd h3.1 h1
          · intro h3; exact .inl h3
      · rcases List.mem_append.1 hq with hq | hq
        · have := h.le q hq; omega
        · rw [List.mem_singleton] at hq; subst hq; exact ⟨Int.le_refl _, by dsimp only; omega⟩
theorem Inv.end_ {t : List (Int × Int)} {f : Int → Bool} {s s' : Int} (h : Inv t f s true) (hs : s ≤ s') : Inv (endT t s') (upd f s' false) s' false := by
  obtain ⟨u, p, rfl, hp⟩ := h.open_
  have hpos := h.pos
  have hc := Canon.snoc.1 h.canon
  have hpl := h.le p (by simp)
  have hnot : ∀ x, s' ≤ x → ¬ InT u x := fun x hx ⟨q, hq, h1, h2⟩ => by
    have := hc.2.2 q hq
    omega
  rw [endT_snoc]
  by_cases he : p.1 = s'
  · rw [if_pos he]
    refine ⟨hc.1, fun x hx => ?_, fun q hq => by have := h.le q (List.mem_append_left _ hq); omega, fun x hx => if_pos hx, by omega⟩
    have h2 := h.cov x hx
    rw [InT_app, InT_one] at h2
    unfold upd
    by_cases h1 : s' ≤ x
    · rw [if_pos h1]
      simp only [Bool.false_eq_true, iff_false]
      exact hnot x h1
    · rw [if_neg h1, ← h2]
      constructor
      · exact .inl
      · rintro (h3 | h3)
        · exact h3
        · omega
  · rw [if_neg he]
    refine ⟨Canon.snoc.2 ⟨hc.1, ⟨hc.2.1.1, .inr (by dsimp only; omega)⟩, hc.2.2⟩, fun x hx => ?_, fun q hq => ?_, fun x hx => if_pos hx, by omega⟩
    · have h2 := h.cov x hx
      rw [InT_app, InT_one] at h2 ⊢
      unfold upd
      dsimp only
      by_cases h1 : s' ≤ x
      · rw [if_pos h1]
        simp only [Bool.false_eq_true, iff_false]
        rintro (h3 | h3)
        · exact hnot x h1 h3
        · omega
      · rw [if_neg h1, ← h2]
        constructor
        · rintro (h3 | h3)
          · exact .inl h3
          · exact .inr ⟨h3.1, .inl hp⟩
        · rintro (h3 | h3)
          · exact .inl h3
          · exact .inr ⟨h3.1, .inr (by omega)⟩
    · rcases List.mem_append.1 hq with hq | hq
      · have := h.le q (List.mem_append_left _ hq); omega
      · rw [List.mem_singleton] at hq; subst hq; exact ⟨by dsimp only; omega, Int.le_refl _⟩
end Sw
end Go.Proofs.Ytdlgdmbcbenlbaa
namespace Go.Proofs.Ytdlgdmbcbenlbaa
open Go Go.RowKit Go.Sort
namespace Mm
/-- a block known whole, that may be written -/
structure Blk (w : World) (B : Nat) (C : Array Value) (t : TypeId) : Prop where
  at_ : w.heap[B]? = some (.cells C t (0, 0))
theorem Blk.lt {w : World} {B : Nat} {C : Array Value} {t : TypeId} (h : Blk w B C t) : B < w.heap.size := by
  rcases Nat.lt_or_ge B w.heap.size with hlt | hge
  · exact hlt
  · have := h.at_; rw [Array.getElem?_eq_none hge] at this; cases this
theorem Blk.cell {w : World} {B : Nat} {C : Array Value} {t : TypeId} (h : Blk w B C t) : ∀ i, w.cell? ⟨B, i, none⟩ = C[i]? := fun i => cell_of_row w B i C t (0, 0) h.at_
theorem Blk.free {w : World} {B : Nat} {C : Array Value} {t : TypeId} (h : Blk w B C t) : ∀ i, w.frozen? ⟨B, i, none⟩ = false := fun i => frozen_of_row w B i C t h.at_
theorem Blk.keep {w w' : World} {B : Nat} {C : Array Value} {t : TypeId} (h : Blk w B C t) (hb : Below w.heap.size w w') : Blk w' B C t := ⟨by rw [hb.block B h.lt]; exact h.at_⟩
theorem Blk.under {w w' : World} {B n : Nat} {C : Array Value} {t : TypeId} (h : Blk w B C t) (hb : Below n w w') (hn : B < n) : Blk w' B C t := ⟨by rw [hb.block B hn]; exact h.at_⟩
theorem Blk.new (w : World) (C : Array Value) (t : TypeId) : Blk (w.alloc (.cells C t)) w.heap.size C t := ⟨heap_alloc_new w _⟩
theorem Blk.alloc {w : World} {B : Nat} {C : Array Value} {t : TypeId} (h : Blk w B C t) (o : Obj) : Blk (w.alloc o) B C t := ⟨by rw [Below.heap_alloc w o B h.lt]; exact h.at_⟩
theorem Blk.drew {w : World} {B : Nat} {C : Array Value} {t : TypeId} (h : Blk w B C t) : Blk w.drew B C t := ⟨h.at_⟩
theorem Blk.set {w : World} {B : Nat} {C : Array Value} {t : TypeId} (h : Blk w B C t) (i : Nat) (v : Value) : Blk (w.setCell ⟨B, i, none⟩ v) B (C.setIfInBounds i v) t := ⟨heap_setCell_same w B i C t v h.at_⟩
theorem Blk.other {w : World} {B : Nat} {C : Array Value} {t : TypeId} (h : Blk w B C t) {p : Addr} (hp : B ≠ p.block) (v : Value) : Blk (w.setCell p v) B C t := ⟨by rw [heap_setCell_other w p B v hp]; exact h.at_⟩
theorem Blk.grown {w w' : World} {B : Nat} {C : Array Value} {t : TypeId} {row : Option Nat} (h : Blk w B C t) (hg : w.grownBy w' row) (hr : row ≠ some B) : Blk w' B C t := ⟨by rw [hg.block B h.lt (fun e => hr e.symm)]; exact h.at_⟩
theorem Blk.regrown {w : World} {B : Nat} {C : Array Value} {t : TypeId} (h : Blk w B C t) : ∀ d os i, (grow (redrawn w d) os).cell? ⟨B, i, none⟩ = C[i]? := fun d os => (h.keep (below_regrown w d os)).cell
/-- the cells of a list of elements, k cells each -/
def flat {α : Type} (k : Nat) (f : α → Nat → Value) : List α → List Value
  | [] => []
  | x :: xs => (List.range k).map (f x) ++ flat k f xs
theorem flat_append {α : Type} (k : Nat) (f : α → Nat → Value) (xs ys : List α) : flat k f (xs ++ ys) = flat k f xs ++ flat k f ys := by
  induction xs with
  | nil => rfl
  | cons x xs ih => simp [flat, ih]
theorem flat_length {α : Type} (k : Nat) (f : α → Nat → Value) (xs : List α) : (flat k f xs).length = xs.length * k := by
  induction xs with
  | nil => simp [flat]
  | cons x xs ih => simp [flat, ih, Nat.add_mul]; omega
theorem flat_at {α : Type} [Inhabited α] (k : Nat) (f : α → Nat → Value) (xs : List α) (i j : Nat) (hi : i < xs.length) (hj : j < k) : (flat k f xs)[i * k + j]? = some (f (xs.getD i default) j) := by
  induction xs generalizing i with
  | nil => simp at hi
  | cons x xs ih =>
    cases i with
    | zero =>
      simp only [flat, Nat.zero_mul, Nat.zero_add]
      rw [List.getElem?_append_left (by simpa using hj)]
      simp [hj]
    | succ i =>
      simp only [flat]
      rw [List.getElem?_append_right (by simp [Nat.add_mul]; omega)]
      have e : (i + 1) * k + j - (List.map (f x) (List.range k)).length = i * k + j := by simp [Nat.add_mul]; omega
      rw [e, ih i (by simpa using hi)]
      rfl
/-- a slice value that the call owns reads as these cells -/
theorem owns_read {α : Type} [Inhabited α] {w : World} {base k n : Nat} {e : TypeId} {v : Value} {f : α → Nat → Value} {xs : List α} (hk : 0 < k) (h : w.ownsRow base e k v n (flat k f xs)) :
    xs.length = n ∧ n ≤ maxLen ∧ ((v = .slice none 0 0 ∧ n = 0) ∨ ∃ g cap, v = .slice (some ⟨g, 0, none⟩) n cap ∧ base ≤ g ∧ g < w.heap.size ∧ ∀ i, i < n → ∀ j, j < k → w.cell? ⟨g, i * k + j, none⟩ = some (f (xs.getD i default) j)) := by
  have hl : xs.length = n := by
    have := h.1
    rw [flat_length] at this
    exact Nat.eq_of_mul_eq_mul_right hk this
  rcases h.2 with ⟨hv, h0⟩ | ⟨g, cap, cur, hv, hb, hg, hn, hm, hs, ht⟩
  · exact ⟨hl, by rw [h0]; exact Nat.zero_le _, .inl ⟨hv, h0⟩⟩
  · refine ⟨hl, by omega, .inr ⟨g, cap, hv, hb, ?_, fun i hi j hj => ?_⟩⟩
    · rcases Nat.lt_or_ge g w.heap.size with hlt | hge
      · exact hlt
      · rw [Array.getElem?_eq_none hge] at hg; cases hg
    · have := h.cells (g := g) (by rw [hv]; rfl) (i * k + j) _ (flat_at k f xs i j (by omega) hj)
      have hadd : (⟨g, 0, none⟩ : Addr).add (i * k + j) = ⟨g, i * k + j, none⟩ := by unfold Addr.add; split <;> simp_all
      rwa [hadd] at this
theorem below_drewN {B : Nat} {a w : World} (h : Below B a w) (n : Nat) : Below B a (w.drewN n) := ⟨h.os, h.tape, h.output, h.size, h.block⟩
theorem owns_keep {w w' : World} {base : Nat} {e : TypeId} {size n : Nat} {v : Value} {xs : List Value} (h : w.ownsRow base e size v n xs) (hb : Below w.heap.size w w') : w'.ownsRow base e size v n xs :=
  h.kept (row := none) ⟨hb.os, hb.tape, hb.output, hb.size, fun i hi _ => hb.block i hi⟩ (by cases v.ownBlock <;> simp)
/-- behind an append: what lay below the first block of the call's own is as it was -/
theorem below_append {w0 w w' : World} {base : Nat} {e : TypeId} {size n : Nat} {v : Value} {xs : List Value} (h : Below w0.heap.size w0 w) (ho : w.ownsRow base e size v n xs) (hg : w.grownBy w' v.ownBlock) (hbase : w0.heap.size ≤ base) : Below w0.heap.size w0 w' :=
  h.grown hg h.size (fun k hk => Nat.le_trans hbase (ho.lt k hk).1)
end Mm
end Go.Proofs.Ytdlgdmbcbenlbaa
namespace Go.Proofs.Ytdlgdmbcbenlbaa
open Go Go.RowKit Go.Sort
namespace Sk
variable {α : Type} [Inhabited α]
omit [Inhabited α] in
theorem fm_len (enc : α → List Value) (k : Nat) (hk : ∀ x, (enc x).length = k) (xs : List α) : (xs.flatMap enc).length = xs.length * k := by
  induction xs with
  | nil => simp
  | cons x xs ih => rw [List.flatMap_cons, List.length_append, hk, ih, List.length_cons, Nat.add_mul]; omega
theorem fm_get (enc : α → List Value) (k : Nat) (hk : ∀ x, (enc x).length = k) (xs : List α) : ∀ i j, i < xs.length → j < k → (xs.flatMap enc)[i * k + j]? = (enc (xs.getD i default))[j]? := by
  induction xs with
  | nil => intro i j hi; simp at hi
  | cons x xs ih =>
    intro i j hi hj
    rw [List.flatMap_cons]
    cases i with
    | zero => rw [List.getElem?_append_left (by rw [hk]; omega)]; simp
    | succ i =>
      rw [List.getElem?_append_right (by rw [hk, Nat.add_mul]; omega), hk, show (i + 1) * k + j - k = i * k + j by rw [Nat.add_mul]; omega]
      rw [ih i j (by simpa using hi) hj]
      simp
end Sk
end Go.Proofs.Ytdlgdmbcbenlbaa
namespace Go.Proofs.Ytdlgdmbcbenlbaa
open Go Go.RowKit Go.Sort
namespace Sw
open Mm
/-- a slice whose elements are rows of k cells -/
structure Sls {α : Type} [Inhabited α] (enc : α → List Value) (k : Nat) (w : World) (A : Option Addr) (n : Nat) (xs : List α) : Prop where
  len : xs.length = n
  small : n ≤ maxLen
  at_ : 0 < n → ∃ b off, A = some ⟨b, off, none⟩ ∧ b < w.heap.size ∧ ∀ i, i < n → ∀ j, j < k → w.cell? ⟨b, off + i * k + j, none⟩ = (enc (xs.getD i default))[j]?
section
variable {α : Type} [Inhabited α] {enc : α → List Value} {k : Nat} {w w' : World} {A : Option Addr} {n : Nat} {xs : List α}
theorem Sls.keep (h : Sls enc k w A n xs) (hb : Below w.heap.size w w') : Sls enc k w' A n xs :=
  ⟨h.len, h.small, fun hn => by
    obtain ⟨b, off, e, hlt, hc⟩ := h.at_ hn
    exact ⟨b, off, e, Nat.lt_of_lt_of_le hlt hb.size, fun i hi j hj => by rw [hb.cell (p := ⟨b, off + i * k + j, none⟩) hlt]; exact hc i hi j hj⟩⟩
theorem Sls.under (h : Sls enc k w A n xs) {m : Nat} (hb : Below m w w') (hm : w.heap.size ≤ m) : Sls enc k w' A n xs := h.keep (hb.mono hm)
theorem Sls.nil : Sls enc k w none 0 ([] : List α) := ⟨rfl, by decide, fun h => absurd h (by omega)⟩
theorem Sls.addr (h : Sls enc k w A n xs) (hn : 0 < n) : ∃ b off, A = some ⟨b, off, none⟩ := by obtain ⟨b, off, e, _⟩ := h.at_ hn; exact ⟨b, off, e⟩
theorem Sls.cells {b off : Nat} (h : Sls enc k w (some ⟨b, off, none⟩) n xs) {i : Nat} (hi : i < n) : b < w.heap.size ∧ ∀ j, j < k → w.cell? ⟨b, off + i * k + j, none⟩ = (enc (xs.getD i default))[j]? := by
  obtain ⟨b', off', e, hlt, hc⟩ := h.at_ (by omega)
  injection e with e
  injection e with e1 e2
  subst e1 e2
  exact ⟨hlt, hc i hi⟩
theorem Sls.take (h : Sls enc k w A n xs) {m : Nat} (hm : m ≤ n) : Sls enc k w A m (xs.take m) :=
  ⟨by rw [List.length_take, h.len]; omega, Nat.le_trans hm h.small, fun h0 => by
    obtain ⟨b, off, e, hlt, hc⟩ := h.at_ (by omega)
    refine ⟨b, off, e, hlt, fun i hi j hj => ?_⟩
    have : (xs.take m).getD i default = xs.getD i default := by rw [List.getD_eq_getElem?_getD, List.getD_eq_getElem?_getD, List.getElem?_take, if_pos hi]
    rw [this]
    exact hc i (by omega) j hj⟩
theorem Sls.of_owns (hk : ∀ x, (enc x).length = k) {base n0 c : Nat} {e : TypeId} (h : w.ownsRow base e k (.slice A n c) n0 (xs.flatMap enc)) (hl : xs.length = n0) : n = n0 ∧ Sls enc k w A n xs := by
  rcases h.2 with ⟨hv, hz⟩ | ⟨g, cap, cur, hv, hb, hg, hn, hm, hs, ht⟩
  · injection hv with h1 h2 h3
    subst h1 h2
    exact ⟨hz.symm, ⟨by omega, by decide, fun h => absurd h (by omega)⟩⟩
  · injection hv with h1 h2 h3
    subst h1 h2 h3
    refine ⟨rfl, ⟨hl, by omega, fun _ => ⟨g, 0, rfl, (Array.getElem?_eq_some_iff.1 hg).1, fun i hi j hj => ?_⟩⟩⟩
    rw [← Sk.fm_get enc k hk xs i j (by omega) hj]
    have hlt : i * k + j < (xs.flatMap enc).length := by
      rw [Sk.fm_len enc k hk, hl]
      have : (i + 1) * k ≤ n * k := Nat.mul_le_mul_right k hi
      rw [Nat.add_mul] at this; omega
    have := h.cells (g := g) rfl (i * k + j) _ (List.getElem?_eq_getElem hlt)
    have hadd : (⟨g, 0, none⟩ : Addr).add (i * k + j) = ⟨g, i * k + j, none⟩ := by unfold Addr.add; split <;> simp_all
    rw [hadd] at this
    rw [List.getElem?_eq_getElem hlt, Nat.zero_add]
    exact this
/-- the cells of a source of an append -/
theorem Sls.news (hk : ∀ x, (enc x).length = k) {a : Addr} (h : Sls enc k w (some a) n xs) (h0 : 0 < n) : ∀ j u, (xs.flatMap enc)[j]? = some u → w.cell? (a.add j) = some u := by
  intro j u hu
  obtain ⟨b, off, e, hlt, hc⟩ := h.at_ h0
  injection e with e
  subst e
  have hj : j < (xs.flatMap enc).length := (List.getElem?_eq_some_iff.1 hu).1
  rw [Sk.fm_len enc k hk, h.len] at hj
  have k0 : 0 < k := by rcases Nat.eq_zero_or_pos k with h | h; · subst h; simp at hj
                        · exact h
  have h1 : j / k < n := by rw [Nat.div_lt_iff_lt_mul k0]; exact hj
  have h2 : j % k < k := Nat.mod_lt _ k0
  have h3 := Sk.fm_get enc k hk xs (j / k) (j % k) (by rw [h.len]; exact h1) h2
  rw [Nat.mul_comm, Nat.div_add_mod] at h3
  have h4 := hc (j / k) h1 (j % k) h2
  have h5 : j / k * k + j % k = j := by rw [Nat.mul_comm, Nat.div_add_mod]
  have hadd : (⟨b, off, none⟩ : Addr).add j = ⟨b, off + j / k * k + j % k, none⟩ := by
    rw [Nat.add_assoc, h5]
    unfold Addr.add
    split
    · rename_i e; subst e; rfl
    · rfl
  rw [hadd, h4, ← h3]; exact hu
end
/-- a boxed struct that is only read -/
structure Box (w : World) (B : Nat) (C : Array Value) : Prop where
  lt : B < w.heap.size
  at_ : ∀ i, w.cell? ⟨B, i, none⟩ = C[i]?
theorem Box.new (w : World) (C : Array Value) (t : TypeId) : Box (w.alloc (.cells C t)) w.heap.size C := ⟨by simp, fun i => (Blk.new w C t).cell i⟩
theorem Box.keep {w w' : World} {B : Nat} {C : Array Value} (h : Box w B C) (hb : Below w.heap.size w w') : Box w' B C := ⟨Nat.lt_of_lt_of_le h.lt hb.size, fun i => by rw [hb.cell (p := ⟨B, i, none⟩) h.lt]; exact h.at_ i⟩
theorem Box.alloc {w : World} {B : Nat} {C : Array Value} (h : Box w B C) (o : Obj) : Box (w.alloc o) B C := h.keep ((Below.refl _ _).alloc (Nat.le_refl _) _)
theorem Box.of_blk {w : World} {B : Nat} {C : Array Value} {t : TypeId} (h : Blk w B C t) : Box w B C := ⟨h.lt, h.cell⟩
theorem size1 (w : World) (o : Obj) : (w.alloc o).heap.size = w.heap.size + 1 := by simp
theorem ball (w : World) (o : Obj) : Below w.heap.size w (w.alloc o) := (Below.refl _ _).alloc (Nat.le_refl _) _
theorem ballN {a w : World} (h : Below a.heap.size a w) (o : Obj) : Below a.heap.size a (w.alloc o) := h.alloc h.size o
theorem bthen {a w w' : World} (h : Below a.heap.size a w) (k : Below w.heap.size w w') : Below a.heap.size a w' := h.trans (k.mono h.size)
theorem cell_regrown {w : World} {p : Addr} {v : Value} (h : w.cell? p = some v) : ∀ d os, (grow (redrawn w d) os).cell? p = some v := fun d os => (below_regrown w d os).cell (World.block_lt_of_cell? w p h) |>.trans h
theorem Box.grown {w : World} {B : Nat} {C : Array Value} (h : Box w B C) : ∀ d os i, (grow (redrawn w d) os).cell? ⟨B, i, none⟩ = C[i]? := fun d os => (h.keep (below_regrown w d os)).at_
/-- worlds that have drawn, and laid blocks -/
def GW (w w' : World) : Prop := ∃ q os, w' = grow (w.drewN q) os
theorem GW.refl (w : World) : GW w w := ⟨0, #[], by simp [grow]; rfl⟩
theorem GW.drew {w w' : World} (h : GW w w') : GW w w'.drew := by
  obtain ⟨q, os, rfl⟩ := h
  exact ⟨q + 1, os, rfl⟩
theorem GW.alloc {w w' : World} (h : GW w w') (o : Obj) : GW w (w'.alloc o) := by
  obtain ⟨q, os, rfl⟩ := h
  exact ⟨q, os ++ #[o], by rw [alloc_eq_grow, grow_grow]⟩
theorem GW.trans {w w' w'' : World} (h : GW w w') (k : GW w' w'') : GW w w'' := by
  obtain ⟨q, os, rfl⟩ := h
  obtain ⟨q', os', rfl⟩ := k
  refine ⟨q + q', os ++ os', ?_⟩
  rw [← grow_grow]
  have e : (w.drewN q).drewN q' = w.drewN (q + q') := by simp [World.drewN, Nat.add_assoc]
  rw [← e]
  rfl
theorem GW.below {w w' : World} (h : GW w w') : Below w.heap.size w w' := by
  obtain ⟨q, os, rfl⟩ := h
  exact below_regrown w (w.drawn + q) os
end Sw
end Go.Proofs.Ytdlgdmbcbenlbaa
namespace Go.Proofs.Ytdlgdmbcbenlbaa
open Go Go.RowKit Go.Sort
namespace Sw
open Mm
def cmpI (x y : Int) : Int := if x < y then -1 else if y < x then 1 else 0
theorem isNaN_any (a : Int) (w : World) :
    Calls Try.prog 73 #[.int .i64 a] w fun e w' => e = .returned (.bool false) ∧ w = w' := by
  go_enter Try.func73, Try.ntmps73
  go_wp2
  go_ret
  exact ⟨by simp, rfl⟩
set_option maxRecDepth 100000 in
set_option maxHeartbeats 1000000 in
theorem cmp_any (a b : Int) (w : World) :
    Calls Try.prog 48 #[.int .i64 a, .int .i64 b] w fun e w' => e = .returned (.int .i64 (cmpI a b)) ∧ w = w' := by
  have hc : cmpI a b = if a < b then -1 else if b < a then 1 else 0 := rfl
  generalize cmpI a b = C at *
  replace hc := Lib.hid hc
  by_cases h1 : a < b
  · have e1 : Hid (C = -1) := by show _ = _; rw [hc.out, if_pos h1]
    go_enter Try.func48, Try.ntmps48
    go_wp2_with (first | (go_at_call 73; refine (isNaN_any _ _).mono ?_; rintro e w1 ⟨rfl, rfl⟩))
    go_ret
    exact ⟨by rw [e1.out]; rfl, rfl⟩
  · by_cases h2 : b < a
    · have e1 : Hid (C = 1) := by show _ = _; rw [hc.out, if_neg h1, if_pos h2]
      have h3 : decide (a < b) = false := by simpa using h1
      clear h1
      go_enter Try.func48, Try.ntmps48
      go_wp2_with (first | (go_at_call 73; refine (isNaN_any _ _).mono ?_; rintro e w1 ⟨rfl, rfl⟩))
      go_ret
      exact ⟨by rw [e1.out]; rfl, rfl⟩
    · have e1 : Hid (C = 0) := by show _ = _; rw [hc.out, if_neg h1, if_neg h2]
      obtain rfl : a = b := by omega
      clear h1 h2
      go_enter Try.func48, Try.ntmps48
      go_wp2_with (first | (go_at_call 73; refine (isNaN_any _ _).mono ?_; rintro e w1 ⟨rfl, rfl⟩))
      go_ret
      exact ⟨by rw [e1.out]; rfl, rfl⟩
def intE (x : Int) : List Value := [.int .i64 x]
def celE (c : Cel) : List Value := [.int .i64 c.slot, .int .i64 c.offset, .int .i64 c.frm, .int .i64 c.to, .int .i64 c.flow]
def chgE (c : Chg) : List Value := [.int .i64 c.slot, .bool c.add, .int .i64 c.cell.slot, .int .i64 c.cell.offset, .int .i64 c.cell.frm, .int .i64 c.cell.to, .int .i64 c.cell.flow]
def dutE (d : Dut) : List Value := [.int .i64 d.cell.slot, .int .i64 d.cell.offset, .int .i64 d.cell.frm, .int .i64 d.cell.to, .int .i64 d.cell.flow, .bool d.sends, .bool d.extra, .int .i64 d.first, .int .i64 d.til]
def prE (p : Int × Int) : List Value := [.int .i64 p.1, .int .i64 p.2]
theorem intE_len (x : Int) : (intE x).length = 1 := rfl
theorem celE_len (c : Cel) : (celE c).length = 5 := rfl
theorem chgE_len (c : Chg) : (chgE c).length = 7 := rfl
theorem dutE_len (d : Dut) : (dutE d).length = 9 := rfl
theorem prE_len (p : Int × Int) : (prE p).length = 2 := rfl
theorem intE_one (x : Int) : ∀ v ∈ intE x, v.oneCell' = true := by intro v hv; simp only [intE, List.mem_cons, List.not_mem_nil, or_false] at hv; subst hv; rfl
theorem celE_one (c : Cel) : ∀ v ∈ celE c, v.oneCell' = true := by intro v hv; simp only [celE, List.mem_cons, List.not_mem_nil, or_false] at hv; rcases hv with rfl | rfl | rfl | rfl | rfl <;> rfl
theorem chgE_one (c : Chg) : ∀ v ∈ chgE c, v.oneCell' = true := by intro v hv; simp only [chgE, List.mem_cons, List.not_mem_nil, or_false] at hv; rcases hv with rfl | rfl | rfl | rfl | rfl | rfl | rfl <;> rfl
theorem dutE_one (d : Dut) : ∀ v ∈ dutE d, v.oneCell' = true := by intro v hv; simp only [dutE, List.mem_cons, List.not_mem_nil, or_false] at hv; rcases hv with rfl | rfl | rfl | rfl | rfl | rfl | rfl | rfl | rfl <;> rfl
theorem prE_one (p : Int × Int) : ∀ v ∈ prE p, v.oneCell' = true := by intro v hv; simp only [prE, List.mem_cons, List.not_mem_nil, or_false] at hv; rcases hv with rfl | rfl <;> rfl
abbrev IntS := Sls intE 1
abbrev CelS := Sls celE 5
abbrev ChgS := Sls chgE 7
abbrev DutS := Sls dutE 9
abbrev PrS := Sls prE 2
theorem int_at {w : World} {b off n : Nat} {xs : List Int} (h : IntS w (some ⟨b, off, none⟩) n xs) {i : Nat} (hi : i < n) : w.cell? ⟨b, off + i, none⟩ = some (.int .i64 (xs.getD i default)) := by
  have := (h.cells hi).2 0 (by decide)
  rw [Nat.mul_one, Nat.add_zero] at this; exact this
def CelAt (w : World) (b o : Nat) (c : Cel) : Prop := w.cell? ⟨b, o, none⟩ = some (.int .i64 c.slot) ∧ w.cell? ⟨b, o + 1, none⟩ = some (.int .i64 c.offset) ∧ w.cell? ⟨b, o + 2, none⟩ = some (.int .i64 c.frm) ∧ w.cell? ⟨b, o + 3, none⟩ = some (.int .i64 c.to) ∧ w.cell? ⟨b, o + 4, none⟩ = some (.int .i64 c.flow)
theorem cel_at {w : World} {b off n : Nat} {xs : List Cel} (h : CelS w (some ⟨b, off, none⟩) n xs) {i : Nat} (hi : i < n) : CelAt w b (off + i * 5) (xs.getD i default) := by
  have c := (h.cells hi).2
  have c0 := c 0 (by decide)
  rw [Nat.add_zero] at c0
  exact ⟨c0, c 1 (by decide), c 2 (by decide), c 3 (by decide), c 4 (by decide)⟩
def ChgAt (w : World) (b o : Nat) (c : Chg) : Prop := w.cell? ⟨b, o, none⟩ = some (.int .i64 c.slot) ∧ w.cell? ⟨b, o + 1, none⟩ = some (.bool c.add) ∧ w.cell? ⟨b, o + 2, none⟩ = some (.int .i64 c.cell.slot) ∧ w.cell? ⟨b, o + 3, none⟩ = some (.int .i64 c.cell.offset) ∧ w.cell? ⟨b, o + 4, none⟩ = some (.int .i64 c.cell.frm) ∧ w.cell? ⟨b, o + 5, none⟩ = some (.int .i64 c.cell.to) ∧ w.cell? ⟨b, o + 6, none⟩ = some (.int .i64 c.cell.flow)
theorem chg_at {w : World} {b off n : Nat} {xs : List Chg} (h : ChgS w (some ⟨b, off, none⟩) n xs) {i : Nat} (hi : i < n) : ChgAt w b (off + i * 7) (xs.getD i default) := by
  have c := (h.cells hi).2
  have c0 := c 0 (by decide)
  rw [Nat.add_zero] at c0
  exact ⟨c0, c 1 (by decide), c 2 (by decide), c 3 (by decide), c 4 (by decide), c 5 (by decide), c 6 (by decide)⟩
def DutAt (w : World) (b o : Nat) (d : Dut) : Prop := w.cell? ⟨b, o, none⟩ = some (.int .i64 d.cell.slot) ∧ w.cell? ⟨b, o + 1, none⟩ = some (.int .i64 d.cell.offset) ∧ w.cell? ⟨b, o + 2, none⟩ = some (.int .i64 d.cell.frm) ∧ w.cell? ⟨b, o + 3, none⟩ = some (.int .i64 d.cell.to) ∧ w.cell? ⟨b, o + 4, none⟩ = some (.int .i64 d.cell.flow) ∧ w.cell? ⟨b, o + 5, none⟩ = some (.bool d.sends) ∧ w.cell? ⟨b, o + 6, none⟩ = some (.bool d.extra) ∧ w.cell? ⟨b, o + 7, none⟩ = some (.int .i64 d.first) ∧ w.cell? ⟨b, o + 8, none⟩ = some (.int .i64 d.til)
theorem dut_at {w : World} {b off n : Nat} {xs : List Dut} (h : DutS w (some ⟨b, off, none⟩) n xs) {i : Nat} (hi : i < n) : DutAt w b (off + i * 9) (xs.getD i default) := by
  have c := (h.cells hi).2
  have c0 := c 0 (by decide)
  rw [Nat.add_zero] at c0
  exact ⟨c0, c 1 (by decide), c 2 (by decide), c 3 (by decide), c 4 (by decide), c 5 (by decide), c 6 (by decide), c 7 (by decide), c 8 (by decide)⟩
theorem pr_at {w : World} {b off n : Nat} {xs : List (Int × Int)} (h : PrS w (some ⟨b, off, none⟩) n xs) {i : Nat} (hi : i < n) : w.cell? ⟨b, off + i * 2, none⟩ = some (.int .i64 (xs.getD i default).1) ∧ w.cell? ⟨b, off + i * 2 + 1, none⟩ = some (.int .i64 (xs.getD i default).2) := by
  have c := (h.cells hi).2
  have c0 := c 0 (by decide)
  rw [Nat.add_zero] at c0
  exact ⟨c0, c 1 (by decide)⟩
/-- the first number that is not 0 -/
def fst0 : List Int → Int
  | [] => 0
  | x :: xs => if x = 0 then fst0 xs else x
theorem drop_cons {α : Type} [Inhabited α] {xs : List α} {k : Nat} (hk : k < xs.length) : xs.drop k = xs.getD k default :: xs.drop (k + 1) := by
  rw [List.getD_eq_getElem?_getD, List.getElem?_eq_getElem hk]; exact (List.getElem_cons_drop ..).symm
set_option maxRecDepth 100000 in
set_option maxHeartbeats 1000000 in
theorem first_any (A : Option Addr) (n c : Nat) (xs : List Int) (w : World) (h : IntS w A n xs) :
    Calls Try.prog 47 #[.slice A n c] w fun e w' => e = .returned (.int .i64 (fst0 xs)) ∧ w = w' := by
  have hlen := h.len
  have hs := h.small
  unfold maxLen at hs
  have h0 : Hid (fst0 xs = fst0 (xs.drop 0)) := rfl
  generalize fst0 xs = R at *
  replace h := Lib.hid h
  replace hlen := Lib.hid hlen
  go_enter Try.func47, Try.ntmps47
  go_wp2
  go_loop [7] (fun i => ∃ k : Nat, k ≤ n ∧ i = .int .i64 k ∧ Hid (R = fst0 (xs.drop k))) (fun i => n - (intOf i).toNat)
  case atStart => exact ⟨0, by omega, rfl, h0⟩
  case round =>
    obtain ⟨k, hk, rfl, HR⟩ := hrel
    clear h0
    by_cases hlt : k < n
    · obtain ⟨b, off, rfl⟩ := h.out.addr (by omega)
      have q := int_at h.out hlt
      have hR := HR.out
      rw [drop_cons (by rw [hlen.out]; exact hlt)] at hR
      generalize xs.getD k default = x at *
      have hR2 : R = if x = 0 then fst0 (xs.drop (k + 1)) else x := hR
      clear hR HR
      by_cases hx : x = 0
      · subst hx
        have h2 : Hid (R = fst0 (xs.drop (k + 1))) := by show _ = _; rw [hR2, if_pos rfl]
        clear hR2
        go_wp2
        go_round
        case rel => exact ⟨k + 1, by omega, by go_num, h2⟩
        case measure => simp [intOf]; omega
      · have h2 : Hid (R = x) := by show _ = _; rw [hR2, if_neg hx]
        have hx2 : (x != 0) = true := by rw [bne_iff_ne]; exact hx
        clear hR2 hx
        go_wp2
        go_ret
        exact ⟨by rw [h2.out]; rfl, rfl⟩
    · obtain rfl : k = n := by omega
      have h2 : Hid (R = 0) := by show _ = _; rw [HR.out, List.drop_of_length_le (by rw [hlen.out]; exact Nat.le_refl _)]; rfl
      go_wp2
      go_ret
      exact ⟨by rw [h2.out]; rfl, rfl⟩
def cmpC (a b : Cel) : Int := fst0 [cmpI a.slot b.slot, cmpI a.offset b.offset, cmpI a.frm b.frm, cmpI a.to b.to, cmpI a.flow b.flow]
theorem GW.S0 {w : World} : GW w w.drew := (GW.refl w).drew
theorem ints_box (w : World) (t : TypeId) (xs : List Int) (hs : xs.length ≤ maxLen) : IntS (w.alloc (.cells (xs.flatMap intE).toArray t)) (some ⟨w.heap.size, 0, none⟩) xs.length xs :=
  ⟨rfl, hs, fun _ => ⟨w.heap.size, 0, rfl, by simp, fun i hi j hj => by
    rw [(Blk.new w _ t).cell, Nat.zero_add, ← Sk.fm_get intE 1 intE_len xs i j hi hj]
    simp⟩⟩
set_option maxRecDepth 100000 in
set_option maxHeartbeats 4000000 in
theorem compare_any (a b : Cel) (w : World) :
    Calls Try.prog 42 #[.agg #[.int .i64 a.slot, .int .i64 a.offset, .int .i64 a.frm, .int .i64 a.to, .int .i64 a.flow], .agg #[.int .i64 b.slot, .int .i64 b.offset, .int .i64 b.frm, .int .i64 b.to, .int .i64 b.flow]] w fun e w' => e = .returned (.int .i64 (cmpC a b)) ∧ GW w w' := by
  obtain ⟨a0, a1, a2, a3, a4⟩ := a
  obtain ⟨b0, b1, b2, b3, b4⟩ := b
  dsimp only
  have hR : cmpC ⟨a0, a1, a2, a3, a4⟩ ⟨b0, b1, b2, b3, b4⟩ = fst0 [cmpI a0 b0, cmpI a1 b1, cmpI a2 b2, cmpI a3 b3, cmpI a4 b4] := rfl
  have c1 := fun x y W => cmp_any x y W
  generalize cmpC ⟨a0, a1, a2, a3, a4⟩ ⟨b0, b1, b2, b3, b4⟩ = R at *
  generalize cmpI = CI at *
  have c2 := fun A W (h : IntS W A 5 [CI a0 b0, CI a1 b1, CI a2 b2, CI a3 b3, CI a4 b4]) => first_any A 5 5 _ W h
  rw [← hR] at c2
  have BX := (Box.new w #[.int .i64 a0, .int .i64 a1, .int .i64 a2, .int .i64 a3, .int .i64 a4] 34).alloc (.cells #[.int .i64 b0, .int .i64 b1, .int .i64 b2, .int .i64 b3, .int .i64 b4] 34)
  have BY := Box.new (w.alloc (.cells #[.int .i64 a0, .int .i64 a1, .int .i64 a2, .int .i64 a3, .int .i64 a4] 34)) #[.int .i64 b0, .int .i64 b1, .int .i64 b2, .int .i64 b3, .int .i64 b4] 34
  have hG := ((GW.refl w).alloc (.cells #[.int .i64 a0, .int .i64 a1, .int .i64 a2, .int .i64 a3, .int .i64 a4] 34)).alloc (.cells #[.int .i64 b0, .int .i64 b1, .int .i64 b2, .int .i64 b3, .int .i64 b4] 34)
  rw [size1] at BY
  have hz : ((w.alloc (.cells #[.int .i64 a0, .int .i64 a1, .int .i64 a2, .int .i64 a3, .int .i64 a4] 34)).alloc (.cells #[.int .i64 b0, .int .i64 b1, .int .i64 b2, .int .i64 b3, .int .i64 b4] 34)).heap.size = w.heap.size + 1 + 1 := by rw [size1, size1]
  replace hR := Lib.hid hR
  replace c1 := Lib.hid c1
  replace c2 := Lib.hid c2
  replace BX := Lib.hid BX
  replace BY := Lib.hid BY
  replace hG := Lib.hid hG
  replace hz := Lib.hid hz
  go_enter Try.func42, Try.ntmps42
  have kx := BX.out.at_
  have ky := BY.out.at_
  go_wp2_with fail
  generalize (w.alloc (.cells #[.int .i64 a0, .int .i64 a1, .int .i64 a2, .int .i64 a3, .int .i64 a4] 34)).alloc (.cells #[.int .i64 b0, .int .i64 b1, .int .i64 b2, .int .i64 b3, .int .i64 b4] 34) = w1 at *
  have HX : Hid (∀ w', GW w1 w' → (GW w1 w' ∧ (w'.cell? ⟨w.heap.size, 0, none⟩ = some (.int .i64 a0) ∧ w'.cell? ⟨w.heap.size, 1, none⟩ = some (.int .i64 a1) ∧ w'.cell? ⟨w.heap.size, 2, none⟩ = some (.int .i64 a2) ∧ w'.cell? ⟨w.heap.size, 3, none⟩ = some (.int .i64 a3) ∧ w'.cell? ⟨w.heap.size, 4, none⟩ = some (.int .i64 a4)) ∧ (w'.cell? ⟨w.heap.size + 1, 0, none⟩ = some (.int .i64 b0) ∧ w'.cell? ⟨w.heap.size + 1, 1, none⟩ = some (.int .i64 b1) ∧ w'.cell? ⟨w.heap.size + 1, 2, none⟩ = some (.int .i64 b2) ∧ w'.cell? ⟨w.heap.size + 1, 3, none⟩ = some (.int .i64 b3) ∧ w'.cell? ⟨w.heap.size + 1, 4, none⟩ = some (.int .i64 b4)))) := fun w' h =>
    ⟨h, ⟨(BX.out.keep h.below).at_ 0, (BX.out.keep h.below).at_ 1, (BX.out.keep h.below).at_ 2, (BX.out.keep h.below).at_ 3, (BX.out.keep h.below).at_ 4⟩, ⟨(BY.out.keep h.below).at_ 0, (BY.out.keep h.below).at_ 1, (BY.out.keep h.below).at_ 2, (BY.out.keep h.below).at_ 3, (BY.out.keep h.below).at_ 4⟩⟩
  have kz := HX.out _ (GW.refl w1)
  clear kx ky
  go_region_held3 (fun w' => GW w1 w' ∧ (w'.cell? ⟨w.heap.size, 0, none⟩ = some (.int .i64 a0) ∧ w'.cell? ⟨w.heap.size, 1, none⟩ = some (.int .i64 a1) ∧ w'.cell? ⟨w.heap.size, 2, none⟩ = some (.int .i64 a2) ∧ w'.cell? ⟨w.heap.size, 3, none⟩ = some (.int .i64 a3) ∧ w'.cell? ⟨w.heap.size, 4, none⟩ = some (.int .i64 a4)) ∧ (w'.cell? ⟨w.heap.size + 1, 0, none⟩ = some (.int .i64 b0) ∧ w'.cell? ⟨w.heap.size + 1, 1, none⟩ = some (.int .i64 b1) ∧ w'.cell? ⟨w.heap.size + 1, 2, none⟩ = some (.int .i64 b2) ∧ w'.cell? ⟨w.heap.size + 1, 3, none⟩ = some (.int .i64 b3) ∧ w'.cell? ⟨w.heap.size + 1, 4, none⟩ = some (.int .i64 b4)))
    (first
      | exact HX.out _ ((GW.refl w1).drew)
      | exact HX.out _ (by assumption)
      | exact HX.out _ (And.left (by assumption))
      | exact HX.out _ (GW.alloc (And.left (by assumption)) _)
      | exact HX.out _ (GW.alloc (GW.drew (GW.refl w1)) _))
    (first
      | (go_at_call 48; refine (c1.out _ _ _).mono ?_; rintro e wf ⟨rfl, rfl⟩)
      | (go_at_call 47; refine (c2.out _ _ (ints_box w1.drew 3 [CI a0 b0, CI a1 b1, CI a2 b2, CI a3 b3, CI a4 b4] (by simp [maxLen]))).mono ?_; rintro e wf ⟨rfl, rfl⟩))
  all_goals
    go_wp2
    go_ret
    exact ⟨rfl, hG.out.trans (And.left (by assumption))⟩
end Sw
end Go.Proofs.Ytdlgdmbcbenlbaa
namespace Go.Proofs.Ytdlgdmbcbenlbaa
open Go Go.RowKit Go.Sort
namespace Sw
open Mm
def wi (n m : Int) : Bool := decide (0 ≤ n) && decide (n ≤ m)
theorem wi_any (a m : Int) (w : World) :
    Calls Try.prog 65 #[.int .i64 a, .int .i64 m] w fun e w' => e = .returned (.bool (wi a m)) ∧ w = w' := by
  have hR : wi a m = (decide (0 ≤ a) && decide (a ≤ m)) := rfl
  generalize wi a m = R at *
  by_cases h1 : 0 ≤ a
  · by_cases h2 : a ≤ m
    · have h : R = true := by rw [hR]; simp [h1, h2]
      subst h
      clear hR
      go_enter Try.func65, Try.ntmps65
      go_wp2
      go_ret
      exact ⟨by simp, rfl⟩
    · have h : R = false := by rw [hR]; simp [h2]
      subst h
      have h3 : decide (a ≤ m) = false := by simpa using h2
      clear hR h2
      go_enter Try.func65, Try.ntmps65
      go_wp2
      go_ret
      exact ⟨by simp, rfl⟩
  · have h : R = false := by rw [hR]; simp [h1]
    subst h
    have h3 : decide (0 ≤ a) = false := by simpa using h1
    clear hR h1
    go_enter Try.func65, Try.ntmps65
    go_wp2
    go_ret
    exact ⟨by simp, rfl⟩
def cellOk (L O : Int) (c : Cel) : Bool := wi c.slot (L - 1) && wi c.offset (O - 1) && wi c.frm 31 && wi c.to 31 && wi c.flow 255 && (c.frm != c.to)
set_option maxRecDepth 100000 in
set_option maxHeartbeats 4000000 in
theorem right_any (L O : Int) (A : Option Addr) (n cp : Nat) (c : Cel) (w : World) (hL : 1 ≤ L ∧ L ≤ 512) (hO : 1 ≤ O ∧ O ≤ 16) :
    Calls Try.prog 33 #[.agg #[.int .i64 L, .int .i64 O, .slice A n cp], .agg #[.int .i64 c.slot, .int .i64 c.offset, .int .i64 c.frm, .int .i64 c.to, .int .i64 c.flow]] w fun e w' => e = .returned (.bool (cellOk L O c)) ∧ Below w.heap.size w w' := by
  obtain ⟨c0, c1, c2, c3, c4⟩ := c
  dsimp only
  have hR : cellOk L O ⟨c0, c1, c2, c3, c4⟩ = (wi c0 (L - 1) && wi c1 (O - 1) && wi c2 31 && wi c3 31 && wi c4 255 && (c2 != c3)) := rfl
  have cw := fun a m W => wi_any a m W
  generalize cellOk L O ⟨c0, c1, c2, c3, c4⟩ = R at *
  generalize wi = WI at *
  obtain ⟨hL1, hL2⟩ := hL
  obtain ⟨hO1, hO2⟩ := hO
  have hbw := ballN (ball w (.cells #[.int .i64 L, .int .i64 O, .slice A n cp] 24)) (.cells #[.int .i64 c0, .int .i64 c1, .int .i64 c2, .int .i64 c3, .int .i64 c4] 34)
  replace cw := Lib.hid cw
  replace hbw := Lib.hid hbw
  have hw : (WI c0 (L - 1) = false ∧ R = false) ∨ (WI c0 (L - 1) = true ∧ WI c1 (O - 1) = false ∧ R = false) ∨ (WI c0 (L - 1) = true ∧ WI c1 (O - 1) = true ∧ WI c2 31 = false ∧ R = false) ∨ (WI c0 (L - 1) = true ∧ WI c1 (O - 1) = true ∧ WI c2 31 = true ∧ WI c3 31 = false ∧ R = false)
      ∨ (WI c0 (L - 1) = true ∧ WI c1 (O - 1) = true ∧ WI c2 31 = true ∧ WI c3 31 = true ∧ WI c4 255 = false ∧ R = false) ∨ (WI c0 (L - 1) = true ∧ WI c1 (O - 1) = true ∧ WI c2 31 = true ∧ WI c3 31 = true ∧ WI c4 255 = true ∧ (c2 != c3) = false ∧ R = false) ∨ (WI c0 (L - 1) = true ∧ WI c1 (O - 1) = true ∧ WI c2 31 = true ∧ WI c3 31 = true ∧ WI c4 255 = true ∧ (c2 != c3) = true ∧ R = true) := by
    rw [hR]
    cases WI c0 (L - 1) <;> cases WI c1 (O - 1) <;> cases WI c2 31 <;> cases WI c3 31 <;> cases WI c4 255 <;> cases (c2 != c3) <;> simp
  clear hR
  rcases hw with ⟨h1, hR⟩ | ⟨h1, h2, hR⟩ | ⟨h1, h2, h3, hR⟩ | ⟨h1, h2, h3, h4, hR⟩ | ⟨h1, h2, h3, h4, h5, hR⟩ | ⟨h1, h2, h3, h4, h5, h6, hR⟩ | ⟨h1, h2, h3, h4, h5, h6, hR⟩
  all_goals
    subst hR
    go_enter Try.func33, Try.ntmps33
    go_wp2_with (first | (go_at_call 65; refine (cw.out _ _ _).mono ?_; rintro e w1 ⟨rfl, rfl⟩))
    go_ret
    exact ⟨rfl, hbw.out⟩
end Sw
end Go.Proofs.Ytdlgdmbcbenlbaa
namespace Go.Proofs.Ytdlgdmbcbenlbaa
open Go Go.RowKit Go.Sort
namespace Sw
open Mm
theorem _root_.Go.RowKit.Below.keep {a w w' : World} (h : Below a.heap.size a w) (k : Below w.heap.size w w') : Below a.heap.size a w' := bthen h k
/-- the cell at an index is one of the schedule, and behind the one before -/
def adjB (L O : Int) (xs : List Cel) (i : Nat) : Bool := cellOk L O (xs.getD i default) && (decide (i = 0) || decide (cmpC (xs.getD (i - 1) default) (xs.getD i default) < 0))
def headB (L O : Int) (n : Nat) : Bool := decide (1 ≤ L) && decide (L ≤ 512) && decide (1 ≤ O) && decide (O ≤ 16) && decide (n ≤ 512)
def formedB (L O : Int) (xs : List Cel) : Bool := headB L O xs.length && (List.range xs.length).all (adjB L O xs)
theorem all_range_false {p : Nat → Bool} {n k : Nat} (hk : k < n) (h : p k = false) : (List.range n).all p = false := by
  rw [← Bool.not_eq_true, List.all_eq_true]
  intro h2
  rw [h2 k (List.mem_range.2 hk)] at h
  cases h
theorem all_range_true {p : Nat → Bool} {n : Nat} (h : ∀ k, k < n → p k = true) : (List.range n).all p = true := by
  rw [List.all_eq_true]
  intro k hk
  exact h k (List.mem_range.1 hk)
theorem compare_below (a b : Cel) (w : World) :
    Calls Try.prog 42 #[.agg #[.int .i64 a.slot, .int .i64 a.offset, .int .i64 a.frm, .int .i64 a.to, .int .i64 a.flow], .agg #[.int .i64 b.slot, .int .i64 b.offset, .int .i64 b.frm, .int .i64 b.to, .int .i64 b.flow]] w fun e w' => e = .returned (.int .i64 (cmpC a b)) ∧ Below w.heap.size w w' :=
  (compare_any a b w).mono fun _ _ h => ⟨h.1, h.2.below⟩
set_option maxRecDepth 100000 in
set_option maxHeartbeats 1000000 in
theorem formed_any (L O : Int) (A : Option Addr) (n cp : Nat) (xs : List Cel) (w : World) (h : CelS w A n xs) :
    Calls Try.prog 32 #[.agg #[.int .i64 L, .int .i64 O, .slice A n cp]] w fun e w' => e = .returned (.bool (formedB L O xs)) ∧ Below w.heap.size w w' := by
  have hlen := h.len
  have hs := h.small
  unfold maxLen at hs
  have hbw := ball w (.cells #[.int .i64 L, .int .i64 O, .slice A n cp] 24)
  have BX := Box.new w #[.int .i64 L, .int .i64 O, .slice A n cp] 24
  have hR : formedB L O xs = (headB L O n && (List.range n).all (adjB L O xs)) := by unfold formedB; rw [hlen]
  generalize formedB L O xs = R at *
  have hH : (headB L O n = false ∧ (L < 1 ∨ (1 ≤ L ∧ 512 < L) ∨ (1 ≤ L ∧ L ≤ 512 ∧ O < 1) ∨ (1 ≤ L ∧ L ≤ 512 ∧ 1 ≤ O ∧ 16 < O) ∨ (1 ≤ L ∧ L ≤ 512 ∧ 1 ≤ O ∧ O ≤ 16 ∧ 512 < n))) ∨ (headB L O n = true ∧ 1 ≤ L ∧ L ≤ 512 ∧ 1 ≤ O ∧ O ≤ 16 ∧ n ≤ 512) := by
    unfold headB
    by_cases h1 : 1 ≤ L <;> by_cases h2 : L ≤ 512 <;> by_cases h3 : 1 ≤ O <;> by_cases h4 : O ≤ 16 <;> by_cases h5 : n ≤ 512 <;> simp [h1, h2, h3, h4, h5] <;> omega
  replace h := Lib.hid h
  replace hlen := Lib.hid hlen
  replace hbw := Lib.hid hbw
  replace BX := Lib.hid BX
  replace hR := Lib.hid hR
  rcases hH with ⟨hF, hw⟩ | ⟨hT, hL1, hL2, hO1, hO2, hn⟩
  · have hR2 : Hid (R = false) := by show _ = _; rw [hR.out, hF]; rfl
    clear hR hF
    have kx := BX.out.at_
    rcases hw with h1 | ⟨h1, h2⟩ | ⟨h1, h2, h3⟩ | ⟨h1, h2, h3, h4⟩ | ⟨h1, h2, h3, h4, h5⟩
    all_goals
      go_enter Try.func32, Try.ntmps32
      go_wp2
      go_ret
      exact ⟨by rw [hR2.out]; rfl, hbw.out⟩
  have hR2 : Hid (R = (List.range n).all (adjB L O xs)) := by show _ = _; rw [hR.out, hT]; rfl
  clear hR hT
  have hAd : Hid (∀ i, adjB L O xs i = (cellOk L O (xs.getD i default) && (decide (i = 0) || decide (cmpC (xs.getD (i - 1) default) (xs.getD i default) < 0)))) := fun _ => rfl
  have cR := fun c W => right_any L O A n cp c W ⟨hL1, hL2⟩ ⟨hO1, hO2⟩
  have cC := fun a b W => compare_below a b W
  generalize adjB L O xs = AD at *
  generalize cellOk L O = CO at *
  generalize cmpC = CC at *
  replace cR := Lib.hid cR
  replace cC := Lib.hid cC
  have kx := BX.out.at_
  go_enter Try.func32, Try.ntmps32
  go_wp2_with fail
  clear kx
  go_loopw [32] (fun i wr => ∃ k : Nat, k ≤ n ∧ i = .int .i64 k ∧ Hid (∀ j, j < k → AD j = true) ∧ Hid (Below (w.alloc (.cells #[.int .i64 L, .int .i64 O, .slice A n cp] 24)).heap.size (w.alloc (.cells #[.int .i64 L, .int .i64 O, .slice A n cp] 24)) wr)) (fun i _ => n - (intOf i).toNat)
  case atStart => exact ⟨0, by omega, rfl, fun j hj => absurd hj (by omega), Below.refl _ _⟩
  case round =>
    obtain ⟨k, hk, rfl, HP, HB⟩ := hrel
    have hB0 := Lib.hid (bthen hbw.out HB.out)
    by_cases hlt : k < n
    · obtain ⟨b, off, rfl⟩ := h.out.addr (by omega)
      have hk1 := cel_at (h.out.keep hB0.out) hlt
      have hA := hAd.out k
      have cr := cR.out (xs.getD k default)
      have cc := cC.out (xs.getD (k - 1) default) (xs.getD k default)
      have hkp := fun W (hb : Below w.heap.size w W) (h0 : 0 < k) => cel_at (h.out.keep hb) (i := k - 1) (by omega)
      generalize CC (xs.getD (k - 1) default) (xs.getD k default) = V at *
      generalize CO (xs.getD k default) = CK at *
      generalize xs.getD k default = c at *
      generalize xs.getD (k - 1) default = d at *
      obtain ⟨c0, c1, c2, c3, c4⟩ := c
      obtain ⟨d0, d1, d2, d3, d4⟩ := d
      obtain ⟨q0, q1, q2, q3, q4⟩ := hk1
      dsimp only at q0 q1 q2 q3 q4 cr cc
      have BXr := BX.out.keep HB.out
      have BC := Box.new wr #[.int .i64 c0, .int .i64 c1, .int .i64 c2, .int .i64 c3, .int .i64 c4] 34
      have HBc := ballN HB.out (.cells #[.int .i64 c0, .int .i64 c1, .int .i64 c2, .int .i64 c3, .int .i64 c4] 34)
      have BXc := BXr.alloc (.cells #[.int .i64 c0, .int .i64 c1, .int .i64 c2, .int .i64 c3, .int .i64 c4] 34)
      replace hA := Lib.hid hA
      replace hkp := Lib.hid hkp
      replace BC := Lib.hid BC
      replace HBc := Lib.hid HBc
      replace BXc := Lib.hid BXc
      replace cr := Lib.hid cr
      replace cc := Lib.hid cc
      have kx := BXr.at_
      go_upto_region 6 with fail
      clear q0 q1 q2 q3 q4 kx
      generalize (wr.alloc (.cells #[.int .i64 c0, .int .i64 c1, .int .i64 c2, .int .i64 c3, .int .i64 c4] 34)) = wb at *
      have g1 := BXc.out.grown
      have g2 := BC.out.grown
      have cl : ∀ d os, Calls Try.prog 33 #[.agg #[.int .i64 L, .int .i64 O, .slice (some ⟨b, off, none⟩) n cp], .agg #[.int .i64 c0, .int .i64 c1, .int .i64 c2, .int .i64 c3, .int .i64 c4]] (grow (redrawn wb d) os) fun e w'' => e = .returned (.bool CK) ∧ ∃ p : Regrown, w'' = grow (redrawn wb p.d) p.os :=
        fun d os => Calls.regrown_of (cr.out _)
      replace cl := Lib.hid cl
      have cm : ∀ d os, Calls Try.prog 42 #[.agg #[.int .i64 d0, .int .i64 d1, .int .i64 d2, .int .i64 d3, .int .i64 d4], .agg #[.int .i64 c0, .int .i64 c1, .int .i64 c2, .int .i64 c3, .int .i64 c4]] (grow (redrawn wb d) os) fun e w'' => e = .returned (.int .i64 V) ∧ ∃ p : Regrown, w'' = grow (redrawn wb p.d) p.os :=
        fun d os => Calls.regrown_of (cc.out _)
      replace cm := Lib.hid cm
      cases CK with
      | false =>
        have hA2 : Hid (R = false) := by show _ = _; rw [hR2.out]; exact all_range_false hlt (by rw [hA.out]; rfl)
        refine wp_region_quiet_below (by kernel_rfl) (by kernel_rfl) ?_
        repeat (go_big_quiet_step (exact cl.out _ _))
        refine wpQuiet_nil ?_
        rintro _ ⟨⟨dq, osq⟩, rfl⟩
        have hb_ := below_regrown wb dq osq
        replace HBc := Lib.hid (HBc.out.keep hb_)
        generalize grow (redrawn wb dq) osq = w2 at *
        clear hb_
        have hB2 := Lib.hid (bthen hbw.out HBc.out)
        go_wp2
        go_ret
        exact ⟨by rw [hA2.out]; rfl, hB2.out⟩
      | true =>
        by_cases h0 : k = 0
        · subst h0
          have hP2 : Hid (∀ j, j < 0 + 1 → AD j = true) := fun j hj => by
            obtain rfl : j = 0 := by omega
            rw [hA.out]; rfl
          refine wp_region_quiet_below (by kernel_rfl) (by kernel_rfl) ?_
          repeat (go_big_quiet_step (exact cl.out _ _))
          refine wpQuiet_nil ?_
          rintro _ ⟨⟨dq, osq⟩, rfl⟩
          have hb_ := below_regrown wb dq osq
          replace HBc := Lib.hid (HBc.out.keep hb_)
          generalize grow (redrawn wb dq) osq = w2 at *
          clear hb_
          go_wp2
          go_roundw
          case rel => exact ⟨0 + 1, by omega, by go_num, hP2, HBc⟩
          case measure => simp [intOf]; omega
        · have hk0 : 0 < k := by omega
          obtain ⟨p0, p1, p2, p3, p4⟩ := hkp.out wb (bthen hbw.out HBc.out) hk0
          dsimp only at p0 p1 p2 p3 p4
          have hcast : (k : Int) - 1 = ((k - 1 : Nat) : Int) := by omega
          have hw1 : IntKind.i64.wrap ((k : Int) - 1) = (k : Int) - 1 := IntWalk.i64_in _ (by omega)
          have ht1 : ((k : Int) - 1).toNat = k - 1 := by omega
          have r1 : (0 : Int) ≤ (k : Int) - 1 := by omega
          have r2 : (k : Int) - 1 < (n : Int) := by omega
          have g3 := cell_regrown p0
          have g4 := cell_regrown p1
          have g5 := cell_regrown p2
          have g6 := cell_regrown p3
          have g7 := cell_regrown p4
          clear hcast p0 p1 p2 p3 p4
          have hk0' : 0 < (k : Int) := by omega
          by_cases hV : V < 0
          · have hP2 : Hid (∀ j, j < k + 1 → AD j = true) := fun j hj => by
              by_cases e : j = k
              · subst e; rw [hA.out]; simp [hV]
              · exact HP.out j (by omega)
            refine wp_region_quiet_below (by kernel_rfl) (by kernel_rfl) ?_
            repeat (go_big_quiet_step ((first | exact cl.out _ _ | exact cm.out _ _)))
            refine wpQuiet_nil ?_
            rintro _ ⟨⟨dq, osq⟩, rfl⟩
            have hb_ := below_regrown wb dq osq
            replace HBc := Lib.hid (HBc.out.keep hb_)
            generalize grow (redrawn wb dq) osq = w2 at *
            clear hb_
            go_wp2
            go_roundw
            case rel => exact ⟨k + 1, by omega, by go_num, hP2, HBc⟩
            case measure => simp [intOf]; omega
          · have hA2 : Hid (R = false) := by show _ = _; rw [hR2.out]; exact all_range_false hlt (by rw [hA.out]; simp [hV, h0])
            have hV2 : decide (0 ≤ V) = true := by simp; omega
            clear hV
            refine wp_region_quiet_below (by kernel_rfl) (by kernel_rfl) ?_
            repeat (go_big_quiet_step ((first | exact cl.out _ _ | exact cm.out _ _)))
            refine wpQuiet_nil ?_
            rintro _ ⟨⟨dq, osq⟩, rfl⟩
            have hb_ := below_regrown wb dq osq
            replace HBc := Lib.hid (HBc.out.keep hb_)
            generalize grow (redrawn wb dq) osq = w2 at *
            clear hb_
            have hB2 := Lib.hid (bthen hbw.out HBc.out)
            go_wp2
            go_ret
            exact ⟨by rw [hA2.out]; rfl, hB2.out⟩
    · obtain rfl : k = n := by omega
      have hR3 : Hid (R = true) := by show _ = _; rw [hR2.out]; exact all_range_true HP.out
      go_wp2
      go_ret
      exact ⟨by rw [hR3.out]; rfl, hB0.out⟩
end Sw
end Go.Proofs.Ytdlgdmbcbenlbaa
namespace Go.Proofs.Ytdlgdmbcbenlbaa
open Go Go.RowKit Go.Sort Go.Maps Go.WideMaps
namespace Sw
open Mm
theorem wideC : (match Try.prog.underlying 34 with | some (.array _ _) | some (.struct _) => true | _ => false) = true := by rw [Try.underlying34]
theorem laidC : laidOutB Try.prog = true := by kernel_rfl
theorem rowC : (34 : TypeId) < Try.prog.types.size := of_decide_eq_true (by kernel_rfl)
set_option maxRecDepth 100000 in
theorem lawC : Keyed Try.prog 34 := Keyed.of_law (deep_law_laid laidC (m := 2) (by omega) rowC (by kernel_rfl) wideC)
def I64 (x : Int) : Prop := (Lit.int .i64 x).wf = true
def Cel.ok (c : Cel) : Prop := I64 c.slot ∧ I64 c.offset ∧ I64 c.frm ∧ I64 c.to ∧ I64 c.flow
def keyC (c : Cel) : Lit := .string (keyBytes [.int .i64 c.slot, .int .i64 c.offset, .int .i64 c.frm, .int .i64 c.to, .int .i64 c.flow])
set_option maxRecDepth 100000 in
theorem key_cel (c : Cel) (h : c.ok) : keyOf Try.prog 34 (.agg #[.int .i64 c.slot, .int .i64 c.offset, .int .i64 c.frm, .int .i64 c.to, .int .i64 c.flow]) = some (keyC c) := by
  obtain ⟨h0, h1, h2, h3, h4⟩ := h
  unfold I64 at *
  have kt : Try.prog.keyType 34 = true := by kernel_rfl
  have hc : Try.prog.cellsOf 34 = 5 := by kernel_rfl
  have hf : (Value.agg #[.int .i64 c.slot, .int .i64 c.offset, .int .i64 c.frm, .int .i64 c.to, .int .i64 c.flow]).formed Try.prog 34 = true := by simp [Value.formed, Try.underlying34, hc]
  have hn : ∃ m, Try.prog.types.size + 1 = m + 2 := ⟨Try.prog.types.size - 1, by have : 1 ≤ Try.prog.types.size := of_decide_eq_true (by kernel_rfl); omega⟩
  obtain ⟨m, hm⟩ := hn
  have hi : Try.prog.cellsOf 3 = 1 := by kernel_rfl
  unfold keyOf
  rw [Try.underlying34]
  simp only [kt, hf, Bool.and_self, if_true, hm]
  simp [Program.keyLits, Try.underlying34, Try.underlying3, hc, hi, Value.cells, h0, h1, h2, h3, h4, keyC]
set_option maxRecDepth 100000 in
theorem keyC_inj {c d : Cel} (hc : c.ok) (hd : d.ok) (h : keyC c = keyC d) : c = d := by
  have h1 := key_cel c hc
  rw [h] at h1
  have h2 := lawC.inj h1 (key_cel d hd)
  obtain ⟨c0, c1, c2, c3, c4⟩ := c
  obtain ⟨d0, d1, d2, d3, d4⟩ := d
  injection h2 with h2
  simp at h2
  obtain ⟨e0, e1, e2, e3, e4⟩ := h2
  rw [e0, e1, e2, e3, e4]
/-- the datum says of each cell what f says -/
structure HasD (D : DataW Unit) (f : Cel → Bool) : Prop where
  isMap : IsMap D
  at_ : ∀ c : Cel, c.ok → D.atKey (keyC c) (.lit (.bool false)) = .lit (.bool (f c))
set_option maxRecDepth 100000 in
theorem HasD.empty : HasD (.map []) (fun _ => false) := ⟨isMap_empty, fun _ _ => rfl⟩
def setF (f : Cel → Bool) (c : Cel) (b : Bool) (x : Cel) : Bool := if x = c then b else f x
set_option maxRecDepth 100000 in
theorem HasD.put {D : DataW Unit} {f : Cel → Bool} (h : HasD D f) {c : Cel} (hc : c.ok) (b : Bool) : HasD (D.put (keyC c) (.lit (.bool b))) (setF f c b) :=
  ⟨h.isMap.put _ _, fun x hx => by
    unfold setF
    by_cases e : x = c
    · subst e
      rw [atKey_put_same h.isMap (lawC.key (key_cel x hx)), if_pos rfl]
    · rw [atKey_put_other (fun e2 => e (keyC_inj hx hc e2)), h.at_ x hx, if_neg e]⟩
/-- a map of cells that the call has made -/
def OwnC (w : World) (b n : Nat) (f : Cel → Bool) : Prop := ∃ D, w.ownsMap Try.prog 34 (plainElem Try.prog 4) b n D ∧ HasD D f
theorem zeroB (w : World) : (zeroValue 4).run Try.prog w = .ok (.bool false) w := by kernel_rfl
set_option maxRecDepth 100000 in
theorem boolE (b : Bool) : plainElem (H := Unit) Try.prog 4 (.bool b) = some (.lit (.bool b), []) := by unfold plainElem; rw [Try.underlying4]
set_option maxRecDepth 100000 in
theorem boolE_inv {v : Value} {zz : DataW Unit × List MemPlace} (h : plainElem Try.prog 4 v = some zz) : ∃ b, v = .bool b ∧ zz = (.lit (.bool b), []) := by
  unfold plainElem at h
  rw [Try.underlying4] at h
  cases v <;> simp at h
  exact ⟨_, rfl, h.symm⟩
set_option maxRecDepth 100000 in
theorem OwnC.look {w : World} {b n : Nat} {f : Cel → Bool} (h : OwnC w b n f) (c : Cel) (hc : c.ok) : (Instr.lookup 65 (.map (some b)) (.agg #[.int .i64 c.slot, .int .i64 c.offset, .int .i64 c.frm, .int .i64 c.to, .int .i64 c.flow]) false).run Try.prog w = .ok (.bool (f c)) w := by
  obtain ⟨D, hO, hD⟩ := h
  obtain ⟨v, ps, hrun, hv⟩ := hO.lookup lawC Try.underlying65 (zeroB w) (boolE false) (key_cel c hc)
  obtain ⟨x, rfl, hx⟩ := boolE_inv hv
  rw [hD.at_ c hc] at hx
  simp at hx
  rw [hrun, hx.1]
set_option maxRecDepth 100000 in
theorem OwnC.upd {w : World} {b n : Nat} {f : Cel → Bool} (h : OwnC w b n f) (hn : n < maxLen) (c : Cel) (hc : c.ok) (x : Bool) :
    ∃ w', (Instr.mapUpdate 65 (.map (some b)) (.agg #[.int .i64 c.slot, .int .i64 c.offset, .int .i64 c.frm, .int .i64 c.to, .int .i64 c.flow]) (.bool x)).run Try.prog w = .ok () w' ∧ OwnC w' b (n + 1) (setF f c x) ∧ w.grownBy w' (some b) := by
  obtain ⟨D, hO, hD⟩ := h
  obtain ⟨w', hrun, hO2, hg⟩ := hO.update lawC Try.underlying65 hn (key_cel c hc) (boolE x)
  exact ⟨w', hrun, ⟨_, hO2, hD.put hc x⟩, hg⟩
theorem OwnC.keep {w w' : World} {b n : Nat} {f : Cel → Bool} (h : OwnC w b n f) (hb : Below w.heap.size w w') : OwnC w' b n f := by
  obtain ⟨D, hO, hD⟩ := h
  exact ⟨D, hO.kept (row := none) ⟨hb.os, hb.tape, hb.output, hb.size, fun i hi _ => hb.block i hi⟩ (by simp), hD⟩
theorem OwnC.made (w : World) : OwnC (w.alloc (.map #[] 0)) w.heap.size 0 (fun _ => false) := ⟨_, World.ownsMap_made _ _ _ _, HasD.empty⟩
theorem OwnC.lt {w : World} {b n : Nat} {f : Cel → Bool} (h : OwnC w b n f) : b < w.heap.size := by obtain ⟨D, hO, _⟩ := h; exact hO.lt
end Sw
end Go.Proofs.Ytdlgdmbcbenlbaa
namespace Go.Proofs.Ytdlgdmbcbenlbaa
open Go Go.RowKit Go.Sort
namespace Sw
open Mm
/-- whether a cell is there behind some changes -/
def thereN (cs : List Cel) (l : List Chg) (c : Cel) : Bool := l.foldl (fun b x => if x.cell = c then x.add else b) (decide (c ∈ cs))
theorem thereN_nil (cs : List Cel) : thereN cs [] = fun c => decide (c ∈ cs) := rfl
theorem thereN_snoc (cs : List Cel) (l : List Chg) (x : Chg) : thereN cs (l ++ [x]) = setF (thereN cs l) x.cell x.add := by
  funext c
  unfold thereN setF
  rw [List.foldl_append]
  simp only [List.foldl_cons, List.foldl_nil]
  by_cases h : x.cell = c
  · rw [if_pos h, if_pos h.symm]
  · rw [if_neg h, if_neg (Ne.symm h)]
theorem take_snoc {α : Type} [Inhabited α] {xs : List α} {k : Nat} (hk : k < xs.length) : xs.take (k + 1) = xs.take k ++ [xs.getD k default] := by
  rw [List.take_succ_eq_append_getElem hk, List.getD_eq_getElem?_getD, List.getElem?_eq_getElem hk]; rfl
def faultAt (L O : Int) (cs : List Cel) (l : List Chg) (i : Nat) : Int :=
  if (l.getD i default).slot < 0 ∨ 4096 < (l.getD i default).slot then 2
  else if 0 < i ∧ (l.getD i default).slot < (l.getD (i - 1) default).slot then 5
  else if cellOk L O (l.getD i default).cell = false then 1
  else if (l.getD i default).add = true ∧ thereN cs (l.take i) (l.getD i default).cell = true then 6
  else if (l.getD i default).add = false ∧ thereN cs (l.take i) (l.getD i default).cell = false then 7
  else 0
def firstF (F : Nat → Int) (n : Nat) : Int × Int := match (List.range n).find? (fun i => F i != 0) with
  | some i => ((i : Int), F i)
  | none => (-1, 0)
def chkN (L O : Int) (cs : List Cel) (l : List Chg) : Int × Int :=
  if formedB L O cs = false then (-1, 1) else if 1024 < l.length then (-1, 8) else firstF (faultAt L O cs l) l.length
theorem firstF_hit {F : Nat → Int} {n k : Nat} (hk : k < n) (h : F k ≠ 0) (hp : ∀ j, j < k → F j = 0) : firstF F n = ((k : Int), F k) := by
  unfold firstF
  have : (List.range n).find? (fun i => F i != 0) = some k := by
    rw [List.find?_range_eq_some]
    exact ⟨by simpa using h, List.mem_range.2 hk, fun j hj => by simp [hp j hj]⟩
  rw [this]
theorem firstF_none {F : Nat → Int} {n : Nat} (hp : ∀ j, j < n → F j = 0) : firstF F n = (-1, 0) := by
  unfold firstF
  have : (List.range n).find? (fun i => F i != 0) = none := by
    rw [List.find?_eq_none]
    intro x hx
    simp [hp x (List.mem_range.1 hx)]
  rw [this]
def CkPost (r : Int × Int) (w : World) (e : Ending) (w' : World) : Prop := e = .returned (.tuple #[.int .i64 r.1, .int .i64 r.2]) ∧ Below w.heap.size w w'
theorem next_zero {F : Nat → Int} {k : Nat} (h : F k = 0) (hp : ∀ j, j < k → F j = 0) : ∀ j, j < k + 1 → F j = 0 := fun j hj => by
  by_cases e : j = k
  · subst e; exact h
  · exact hp j (by omega)
theorem ok_at {α : Type} [Inhabited α] {P : α → Prop} {xs : List α} (h : ∀ x ∈ xs, P x) {k : Nat} (hk : k < xs.length) : P (xs.getD k default) := by
  rw [List.getD_eq_getElem?_getD, List.getElem?_eq_getElem hk]; exact h _ (List.getElem_mem hk)
theorem gbr (w : World) {r : Option Nat} : w.grownBy w r := ⟨rfl, rfl, rfl, Nat.le_refl _, fun _ _ _ => rfl⟩
theorem gbt {a w w' : World} {r : Option Nat} (h : a.grownBy w r) (k : w.grownBy w' r) : a.grownBy w' r :=
  ⟨k.os.trans h.os, k.tape.trans h.tape, k.output.trans h.output, Nat.le_trans h.size k.size, fun i hi hr => (k.block i (Nat.lt_of_lt_of_le hi h.size) hr).trans (h.block i hi hr)⟩
theorem gbb {a w : World} {r : Option Nat} (h : Below a.heap.size a w) : a.grownBy w r := ⟨h.os, h.tape, h.output, h.size, fun i hi _ => h.block i hi⟩
theorem Box.grownM {w w' : World} {B M : Nat} {C : Array Value} (h : Box w B C) (hg : w.grownBy w' (some M)) (hne : B ≠ M) : Box w' B C :=
  ⟨Nat.lt_of_lt_of_le h.lt hg.size, fun i => by rw [World.cell?_of_block (w := w) (hg.block _ h.lt (fun e => by injection e with e; exact hne e))]; exact h.at_ i⟩
theorem setF_take {cs : List Cel} {k : Nat} (hk : k < cs.length) : setF (fun c => decide (c ∈ cs.take k)) (cs.getD k default) true = fun c => decide (c ∈ cs.take (k + 1)) := by
  funext c
  unfold setF
  rw [take_snoc hk]
  by_cases h : c = cs.getD k default
  · simp [h]
  · rw [if_neg h]
    simp only [List.mem_append, List.mem_singleton, h, or_false]
set_option maxRecDepth 100000 in
set_option maxHeartbeats 4000000 in
theorem check_any (L O : Int) (A : Option Addr) (n cp : Nat) (cs : List Cel) (B : Option Addr) (m cq : Nat) (l : List Chg) (w : World) (h1 : CelS w A n cs) (h2 : ChgS w B m l) (ok1 : ∀ c ∈ cs, c.ok) (ok2 : ∀ x ∈ l, x.cell.ok) :
    Calls Try.prog 12 #[.agg #[.int .i64 L, .int .i64 O, .slice A n cp], .slice B m cq] w (CkPost (chkN L O cs l) w) := by
  have hl1 := h1.len
  have hl2 := h2.len
  have hs1 := h1.small
  have hs2 := h2.small
  unfold maxLen at hs1 hs2
  have hbw := ball w (.cells #[.int .i64 L, .int .i64 O, .slice A n cp] 24)
  have BX := Box.new w #[.int .i64 L, .int .i64 O, .slice A n cp] 24
  have cF := fun W (h : CelS W A n cs) => formed_any L O A n cp cs W h
  have hR : chkN L O cs l = if formedB L O cs = false then (-1, 1) else if 1024 < m then (-1, 8) else firstF (faultAt L O cs l) m := by unfold chkN; rw [hl2]
  have hform : formedB L O cs = true → 1 ≤ L ∧ L ≤ 512 ∧ 1 ≤ O ∧ O ≤ 16 ∧ n ≤ 512 := by
    unfold formedB headB
    simp only [Bool.and_eq_true, decide_eq_true_eq]
    rw [hl1]
    omega
  have cR := fun (hf : formedB L O cs = true) c W => right_any L O A n cp c W ⟨(hform hf).1, (hform hf).2.1⟩ ⟨(hform hf).2.2.1, (hform hf).2.2.2.1⟩
  generalize hRR : chkN L O cs l = R at *
  generalize formedB L O cs = FB at *
  replace h1 := Lib.hid h1
  replace h2 := Lib.hid h2
  replace ok1 := Lib.hid ok1
  replace ok2 := Lib.hid ok2
  replace hl1 := Lib.hid hl1
  replace hl2 := Lib.hid hl2
  replace hbw := Lib.hid hbw
  replace BX := Lib.hid BX
  replace cF := Lib.hid cF
  replace hR := Lib.hid hR
  replace hform := Lib.hid hform
  replace cR := Lib.hid cR
  replace hRR := Lib.hid hRR
  have kx := BX.out.at_
  go_enter Try.func12, Try.ntmps12
  go_wp2_with fail
  refine (cF.out _ (h1.out.keep hbw.out)).mono ?_
  rintro e w1 ⟨rfl, hb_⟩
  clear kx cF
  replace BX := Lib.hid (BX.out.keep hb_)
  replace hbw := Lib.hid (hbw.out.keep hb_)
  clear hb_
  cases FB with
  | false =>
    have hR2 : Hid (R = (-1, 1)) := by show _ = _; rw [hR.out, if_pos rfl]
    clear hR
    go_wp2
    refine bodyPost_ret (v := .tuple #[.int .i64 (-1), .int .i64 1]) (by simp [results, Try.results12, go_sem]) rfl ⟨by rw [hR2.out], hbw.out⟩
  | true =>
  obtain ⟨hL1, hL2, hO1, hO2, hn5⟩ := hform.out rfl
  have cR2 := cR.out rfl
  replace cR2 := Lib.hid cR2
  by_cases hm : 1024 < m
  · have hR2 : Hid (R = (-1, 8)) := by show _ = _; rw [hR.out, if_neg (by decide), if_pos hm]
    clear hR
    go_wp2
    refine bodyPost_ret (v := .tuple #[.int .i64 (-1), .int .i64 8]) (by simp [results, Try.results12, go_sem]) rfl ⟨by rw [hR2.out], hbw.out⟩
  have hR2 : Hid (R = firstF (faultAt L O cs l) m) := by show _ = _; rw [hR.out, if_neg (by decide), if_neg hm]
  clear hR cR hform
  have kx := BX.out.at_
  have kx2 := (BX.out.alloc (.map #[] 0)).at_
  have hO0 := OwnC.made w1
  have hbw0 := ballN hbw.out (.map #[] 0)
  have BX0 := BX.out.alloc (.map #[] 0)
  have hmm := @run_makeMap Try.prog
  replace hO0 := Lib.hid hO0
  replace hbw0 := Lib.hid hbw0
  replace BX0 := Lib.hid BX0
  clear kx
  go_upto_region 7 with fail
  have hM1 := BX.out.lt
  clear hmm kx2 BX hbw
  have hlo := hbw0.out.size
  have hf0 : Hid ((fun _ => false) = fun c => decide (c ∈ cs.take 0)) := by show _ = _; funext c; simp
  rw [hf0.out] at hO0
  rw [size1] at hlo
  generalize w1.alloc (.map #[] 0) = w2 at *
  generalize w1.heap.size = M at *
  go_loopw [23] (fun i wr => ∃ k : Nat, k ≤ n ∧ i = .int .i64 k ∧ Hid (OwnC wr M k (fun c => decide (c ∈ cs.take k))) ∧ Hid (w2.grownBy wr (some M))) (fun i _ => n - (intOf i).toNat)
  case atStart => exact ⟨0, by omega, rfl, hO0, gbr w2⟩
  case round =>
    obtain ⟨k, hk, rfl, HO, HG⟩ := hrel
    clear hO0
    have hB := hbw0.out.grown HG.out hbw0.out.size (fun j hj => by cases hj; omega)
    by_cases hlt : k < n
    · obtain ⟨b, off, rfl⟩ := h1.out.addr (by omega)
      have hk1 := cel_at (h1.out.keep hB) hlt
      have hck : (cs.getD k default).ok := ok_at ok1.out (by rw [hl1.out]; exact hlt)
      have hset := setF_take (cs := cs) (k := k) (by rw [hl1.out]; exact hlt)
      generalize cs.getD k default = c at *
      obtain ⟨w3, hrun, hO3, hg3⟩ := (HO.out.keep (ball wr (.cells #[.int .i64 c.slot, .int .i64 c.offset, .int .i64 c.frm, .int .i64 c.to, .int .i64 c.flow] 34))).upd (by unfold maxLen; omega) c hck true
      rw [hset] at hO3
      have BC := Box.new wr #[.int .i64 c.slot, .int .i64 c.offset, .int .i64 c.frm, .int .i64 c.to, .int .i64 c.flow] 34
      have HG2 := gbt (gbt HG.out (gbb (ball wr (.cells #[.int .i64 c.slot, .int .i64 c.offset, .int .i64 c.frm, .int .i64 c.to, .int .i64 c.flow] 34)))) hg3
      obtain ⟨c0, c1, c2, c3, c4⟩ := c
      obtain ⟨q0, q1, q2, q3, q4⟩ := hk1
      dsimp only at q0 q1 q2 q3 q4 hrun BC
      have kb := BC.at_
      replace hck := Lib.hid hck
      replace hset := Lib.hid hset
      replace hO3 := Lib.hid hO3
      replace hg3 := Lib.hid hg3
      replace HG2 := Lib.hid HG2
      replace BC := Lib.hid BC
      replace hB := Lib.hid hB
      go_wp2
      go_roundw
      case rel => exact ⟨k + 1, by omega, by go_num, hO3, HG2⟩
      case measure => simp [intOf]; omega
    · obtain rfl : k = n := by omega
      have hf1 : Hid ((fun c => decide (c ∈ cs.take k)) = thereN cs (l.take 0)) := by show _ = _; funext c; rw [List.take_of_length_le (by rw [hl1.out]; exact Nat.le_refl _)]; rfl
      rw [hf1.out] at HO
      replace hB := Lib.hid hB
      have hFA : ∀ i, faultAt L O cs l i = (if (l.getD i default).slot < 0 ∨ 4096 < (l.getD i default).slot then 2 else if 0 < i ∧ (l.getD i default).slot < (l.getD (i - 1) default).slot then 5 else if cellOk L O (l.getD i default).cell = false then 1
        else if (l.getD i default).add = true ∧ thereN cs (l.take i) (l.getD i default).cell = true then 6 else if (l.getD i default).add = false ∧ thereN cs (l.take i) (l.getD i default).cell = false then 7 else 0) := fun _ => rfl
      generalize faultAt L O cs l = FA at *
      generalize cellOk L O = CO at *
      replace hFA := Lib.hid hFA
      go_wp2_with fail
      go_loopw [32] (fun i wr => ∃ j : Nat, j ≤ m ∧ i = .int .i64 j ∧ Hid (∀ i, i < j → FA i = 0) ∧ Hid (OwnC wr M (k + j) (thereN cs (l.take j))) ∧ Hid (w2.grownBy wr (some M))) (fun i _ => m - (intOf i).toNat)
      case atStart => exact ⟨0, by omega, rfl, fun i hi => absurd hi (by omega), HO, HG⟩
      case round =>
        obtain ⟨j, hj, rfl, HP, HO, HG⟩ := hrel
        have hB := hbw0.out.grown HG.out hbw0.out.size (fun j hj => by cases hj; omega)
        have BXr := BX0.out.grownM HG.out (by omega)
        by_cases hlt : j < m
        · obtain ⟨b, off, rfl⟩ := h2.out.addr (by omega)
          have hx := chg_at (h2.out.keep hB) hlt
          have hxo : (l.getD j default).cell.ok := ok_at ok2.out (by rw [hl2.out]; exact hlt)
          have hT := HO.out.look (l.getD j default).cell hxo
          have hF := hFA.out j
          have hsn := thereN_snoc cs (l.take j) (l.getD j default)
          rw [← take_snoc (by rw [hl2.out]; exact hlt)] at hsn
          have hy := fun W (hb : Below w.heap.size w W) (h0 : 0 < j) => chg_at (h2.out.keep hb) (i := j - 1) (by omega)
          have cr := cR2.out (l.getD j default).cell
          generalize CO (l.getD j default).cell = CK at *
          generalize l.getD (j - 1) default = y at *
          generalize l.getD j default = x at *
          have hLk := fun W (h : Below wr.heap.size wr W) => (HO.out.keep h).look x.cell hxo
          have hUp := fun W (h : Below wr.heap.size wr W) => (HO.out.keep h).upd (by unfold maxLen; omega) x.cell hxo x.add
          rw [← hsn] at hUp
          generalize thereN cs (l.take j) x.cell = T at *
          obtain ⟨xs, xa, x0, x1, x2, x3, x4⟩ := x
          obtain ⟨ys, ya, y0, y1, y2, y3, y4⟩ := y
          obtain ⟨q0, q1, q2, q3, q4, q5, q6⟩ := hx
          dsimp only at q0 q1 q2 q3 q4 q5 q6 cr hF hLk hUp
          have BC := Box.new wr #[.int .i64 xs, .bool xa, .int .i64 x0, .int .i64 x1, .int .i64 x2, .int .i64 x3, .int .i64 x4] 56
          have BXc := BXr.alloc (.cells #[.int .i64 xs, .bool xa, .int .i64 x0, .int .i64 x1, .int .i64 x2, .int .i64 x3, .int .i64 x4] 56)
          have hBc := ballN hB (.cells #[.int .i64 xs, .bool xa, .int .i64 x0, .int .i64 x1, .int .i64 x2, .int .i64 x3, .int .i64 x4] 56)
          have hWc := ball wr (.cells #[.int .i64 xs, .bool xa, .int .i64 x0, .int .i64 x1, .int .i64 x2, .int .i64 x3, .int .i64 x4] 56)
          replace hxo := Lib.hid hxo
          replace hT := Lib.hid hT
          replace hsn := Lib.hid hsn
          replace hy := Lib.hid hy
          replace cr := Lib.hid cr
          replace hLk := Lib.hid hLk
          replace hUp := Lib.hid hUp
          replace BC := Lib.hid BC
          replace BXc := Lib.hid BXc
          replace BXr := Lib.hid BXr
          replace hBc := Lib.hid hBc
          replace hWc := Lib.hid hWc
          replace hB := Lib.hid hB
          replace hF := Lib.hid hF
          clear hT
          have kb := BC.out.at_
          go_upto_region 14 with fail
          clear q0 q1 q2 q3 q4 q5 q6
          generalize wr.alloc (.cells #[.int .i64 xs, .bool xa, .int .i64 x0, .int .i64 x1, .int .i64 x2, .int .i64 x3, .int .i64 x4] 56) = wb at *
          by_cases hr : xs < 0 ∨ 4096 < xs
          · have hF2 : FA j = 2 := by rw [hF.out, if_pos hr]
            have hR3 : Hid (R = ((j : Int), 2)) := by show _ = _; rw [hR2.out, firstF_hit hlt (by rw [hF2]; decide) HP.out, hF2]
            replace hF2 := Lib.hid hF2
            rcases hr with hr | hr
            · go_wp2
              refine bodyPost_ret (v := .tuple #[.int .i64 (j : Int), .int .i64 2]) (by simp [results, Try.results12, go_sem]) rfl ⟨by rw [hR3.out], hBc.out⟩
            · have hr0 : 0 ≤ xs := by omega
              go_wp2
              refine bodyPost_ret (v := .tuple #[.int .i64 (j : Int), .int .i64 2]) (by simp [results, Try.results12, go_sem]) rfl ⟨by rw [hR3.out], hBc.out⟩
          have hF3 : Hid (FA j = (if 0 < j ∧ xs < ys then 5 else if CK = false then 1 else if xa = true ∧ T = true then 6 else if xa = false ∧ T = false then 7 else 0)) := by show _ = _; rw [hF.out, if_neg hr]
          have hr1 : 0 ≤ xs := by omega
          have hr2 : xs ≤ 4096 := by omega
          clear hr hF
          have hjp : (0 < j ∧ xs < ys) ∨ (j = 0 ∧ ¬ (0 < j ∧ xs < ys)) ∨ (0 < j ∧ ¬ xs < ys ∧ ¬ (0 < j ∧ xs < ys)) := by omega
          rcases hjp with ⟨h0, hlt2⟩ | hjp
          · have hF2 : FA j = 5 := by rw [hF3.out, if_pos ⟨h0, hlt2⟩]
            have hR3 : Hid (R = ((j : Int), 5)) := by show _ = _; rw [hR2.out, firstF_hit hlt (by rw [hF2]; decide) HP.out, hF2]
            obtain ⟨p0, p1, p2, p3, p4, p5, p6⟩ := hy.out wb hBc.out h0
            dsimp only at p0
            clear p1 p2 p3 p4 p5 p6
            have hw1 : IntKind.i64.wrap ((j : Int) - 1) = (j : Int) - 1 := IntWalk.i64_in _ (by omega)
            have ht1 : ((j : Int) - 1).toNat = j - 1 := by omega
            have r1 : (0 : Int) ≤ (j : Int) - 1 := by omega
            have r2 : (j : Int) - 1 < (m : Int) := by omega
            have g3 := cell_regrown p0
            clear p0
            have g1 := BC.out.grown
            have h0' : 0 < (j : Int) := by omega
            replace hF2 := Lib.hid hF2
            go_wp2_with fail
            refine wp_region_quiet_below (by kernel_rfl) (by kernel_rfl) ?_
            repeat (go_big_quiet_step (fail))
            refine wpQuiet_nil ?_
            rintro _ ⟨⟨dq, osq⟩, rfl⟩
            have hb_ := below_regrown wb dq osq
            replace hBc := Lib.hid (hBc.out.keep hb_)
            generalize grow (redrawn wb dq) osq = w4 at *
            clear hb_
            go_wp2
            refine bodyPost_ret (v := .tuple #[.int .i64 (j : Int), .int .i64 5]) (by simp [results, Try.results12, go_sem]) rfl ⟨by rw [hR3.out], hBc.out⟩
          have hF4 : Hid (FA j = (if CK = false then 1 else if xa = true ∧ T = true then 6 else if xa = false ∧ T = false then 7 else 0)) := by
            show _ = _
            rw [hF3.out]
            rcases hjp with ⟨_, h⟩ | ⟨_, _, h⟩ <;> rw [if_neg h]
          clear hF3
          rcases hjp with ⟨hj0, _⟩ | ⟨h0, hnl, _⟩
          · have hj1 : decide (0 < j) = false := by simp; omega
            have hj2 : ¬ 0 < j := by omega
            replace hj0 := Lib.hid hj0
            go_upto_region 16 with fail
            refine wp_region_quiet_below (by kernel_rfl) (by kernel_rfl) ?_
            repeat (go_big_quiet_step (fail))
            refine wpQuiet_nil ?_
            rintro _ ⟨⟨dq, osq⟩, rfl⟩
            have hb_ := below_regrown wb dq osq
            replace hBc := Lib.hid (hBc.out.keep hb_)
            replace hWc := Lib.hid (hWc.out.keep hb_)
            replace BC := Lib.hid (BC.out.keep hb_)
            replace BXc := Lib.hid (BXc.out.keep hb_)
            generalize grow (redrawn wb dq) osq = w4 at *
            clear hb_
            have kx := BXc.out.at_
            have kb := BC.out.at_
            go_wp2_with fail
            refine (cr.out _).mono ?_
            rintro e w5 ⟨rfl, hb_⟩
            clear kx kb
            replace hBc := Lib.hid (hBc.out.keep hb_)
            replace hWc := Lib.hid (hWc.out.keep hb_)
            replace BC := Lib.hid (BC.out.keep hb_)
            clear hb_ BXc
            cases CK with
            | false =>
              have hF2 : FA j = 1 := by rw [hF4.out, if_pos rfl]
              have hR3 : Hid (R = ((j : Int), 1)) := by show _ = _; rw [hR2.out, firstF_hit hlt (by rw [hF2]; decide) HP.out, hF2]
              replace hF2 := Lib.hid hF2
              go_wp2
              refine bodyPost_ret (v := .tuple #[.int .i64 (j : Int), .int .i64 1]) (by simp [results, Try.results12, go_sem]) rfl ⟨by rw [hR3.out], hBc.out⟩
            | true =>
              have kb := BC.out.at_
              have hlk := hLk.out w5 hWc.out
              cases xa <;> cases T
              · have hF2 : FA j = 7 := by rw [hF4.out]; decide
                have hR3 : Hid (R = ((j : Int), 7)) := by show _ = _; rw [hR2.out, firstF_hit hlt (by rw [hF2]; decide) HP.out, hF2]
                replace hF2 := Lib.hid hF2
                go_wp2
                refine bodyPost_ret (v := .tuple #[.int .i64 (j : Int), .int .i64 7]) (by simp [results, Try.results12, go_sem]) rfl ⟨by rw [hR3.out], hBc.out⟩
              · have hF2 : FA j = 0 := by rw [hF4.out]; decide
                have hP2 := Lib.hid (next_zero hF2 HP.out)
                obtain ⟨w6, hrun, hO6, hg6⟩ := hUp.out w5 hWc.out
                have hG6 := Lib.hid (gbt (gbt HG.out (gbb hWc.out)) hg6)
                replace hF2 := Lib.hid hF2
                replace hO6 := Lib.hid hO6
                replace hg6 := Lib.hid hg6
                go_wp2
                go_roundw
                case rel => exact ⟨j + 1, by omega, by go_num, hP2, hO6, hG6⟩
                case measure => simp [intOf]; omega
              · have hF2 : FA j = 0 := by rw [hF4.out]; decide
                have hP2 := Lib.hid (next_zero hF2 HP.out)
                obtain ⟨w6, hrun, hO6, hg6⟩ := hUp.out w5 hWc.out
                have hG6 := Lib.hid (gbt (gbt HG.out (gbb hWc.out)) hg6)
                replace hF2 := Lib.hid hF2
                replace hO6 := Lib.hid hO6
                replace hg6 := Lib.hid hg6
                go_wp2
                go_roundw
                case rel => exact ⟨j + 1, by omega, by go_num, hP2, hO6, hG6⟩
                case measure => simp [intOf]; omega
              · have hF2 : FA j = 6 := by rw [hF4.out]; decide
                have hR3 : Hid (R = ((j : Int), 6)) := by show _ = _; rw [hR2.out, firstF_hit hlt (by rw [hF2]; decide) HP.out, hF2]
                replace hF2 := Lib.hid hF2
                go_wp2
                refine bodyPost_ret (v := .tuple #[.int .i64 (j : Int), .int .i64 6]) (by simp [results, Try.results12, go_sem]) rfl ⟨by rw [hR3.out], hBc.out⟩
          · obtain ⟨p0, p1, p2, p3, p4, p5, p6⟩ := hy.out wb hBc.out h0
            dsimp only at p0
            clear p1 p2 p3 p4 p5 p6
            have hw1 : IntKind.i64.wrap ((j : Int) - 1) = (j : Int) - 1 := IntWalk.i64_in _ (by omega)
            have ht1 : ((j : Int) - 1).toNat = j - 1 := by omega
            have r1 : (0 : Int) ≤ (j : Int) - 1 := by omega
            have r2 : (j : Int) - 1 < (m : Int) := by omega
            have g3 := cell_regrown p0
            clear p0
            have g1 := BC.out.grown
            have h0' : 0 < (j : Int) := by omega
            have hnl2 : decide (xs < ys) = false := by simpa using hnl
            clear hnl
            go_upto_region 16 with fail
            refine wp_region_quiet_below (by kernel_rfl) (by kernel_rfl) ?_
            repeat (go_big_quiet_step (fail))
            refine wpQuiet_nil ?_
            rintro _ ⟨⟨dq, osq⟩, rfl⟩
            have hb_ := below_regrown wb dq osq
            replace hBc := Lib.hid (hBc.out.keep hb_)
            replace hWc := Lib.hid (hWc.out.keep hb_)
            replace BC := Lib.hid (BC.out.keep hb_)
            replace BXc := Lib.hid (BXc.out.keep hb_)
            generalize grow (redrawn wb dq) osq = w4 at *
            clear hb_
            clear hw1 ht1 r1 r2 g3 g1
            have kx := BXc.out.at_
            have kb := BC.out.at_
            go_wp2_with fail
            refine (cr.out _).mono ?_
            rintro e w5 ⟨rfl, hb_⟩
            clear kx kb
            replace hBc := Lib.hid (hBc.out.keep hb_)
            replace hWc := Lib.hid (hWc.out.keep hb_)
            replace BC := Lib.hid (BC.out.keep hb_)
            clear hb_ BXc
            cases CK with
            | false =>
              have hF2 : FA j = 1 := by rw [hF4.out, if_pos rfl]
              have hR3 : Hid (R = ((j : Int), 1)) := by show _ = _; rw [hR2.out, firstF_hit hlt (by rw [hF2]; decide) HP.out, hF2]
              replace hF2 := Lib.hid hF2
              go_wp2
              refine bodyPost_ret (v := .tuple #[.int .i64 (j : Int), .int .i64 1]) (by simp [results, Try.results12, go_sem]) rfl ⟨by rw [hR3.out], hBc.out⟩
            | true =>
              have kb := BC.out.at_
              have hlk := hLk.out w5 hWc.out
              cases xa <;> cases T
              · have hF2 : FA j = 7 := by rw [hF4.out]; decide
                have hR3 : Hid (R = ((j : Int), 7)) := by show _ = _; rw [hR2.out, firstF_hit hlt (by rw [hF2]; decide) HP.out, hF2]
                replace hF2 := Lib.hid hF2
                go_wp2
                refine bodyPost_ret (v := .tuple #[.int .i64 (j : Int), .int .i64 7]) (by simp [results, Try.results12, go_sem]) rfl ⟨by rw [hR3.out], hBc.out⟩
              · have hF2 : FA j = 0 := by rw [hF4.out]; decide
                have hP2 := Lib.hid (next_zero hF2 HP.out)
                obtain ⟨w6, hrun, hO6, hg6⟩ := hUp.out w5 hWc.out
                have hG6 := Lib.hid (gbt (gbt HG.out (gbb hWc.out)) hg6)
                replace hF2 := Lib.hid hF2
                replace hO6 := Lib.hid hO6
                replace hg6 := Lib.hid hg6
                go_wp2
                go_roundw
                case rel => exact ⟨j + 1, by omega, by go_num, hP2, hO6, hG6⟩
                case measure => simp [intOf]; omega
              · have hF2 : FA j = 0 := by rw [hF4.out]; decide
                have hP2 := Lib.hid (next_zero hF2 HP.out)
                obtain ⟨w6, hrun, hO6, hg6⟩ := hUp.out w5 hWc.out
                have hG6 := Lib.hid (gbt (gbt HG.out (gbb hWc.out)) hg6)
                replace hF2 := Lib.hid hF2
                replace hO6 := Lib.hid hO6
                replace hg6 := Lib.hid hg6
                go_wp2
                go_roundw
                case rel => exact ⟨j + 1, by omega, by go_num, hP2, hO6, hG6⟩
                case measure => simp [intOf]; omega
              · have hF2 : FA j = 6 := by rw [hF4.out]; decide
                have hR3 : Hid (R = ((j : Int), 6)) := by show _ = _; rw [hR2.out, firstF_hit hlt (by rw [hF2]; decide) HP.out, hF2]
                replace hF2 := Lib.hid hF2
                go_wp2
                refine bodyPost_ret (v := .tuple #[.int .i64 (j : Int), .int .i64 6]) (by simp [results, Try.results12, go_sem]) rfl ⟨by rw [hR3.out], hBc.out⟩
        · obtain rfl : j = m := by omega
          have hR3 : Hid (R = (-1, 0)) := by show _ = _; rw [hR2.out, firstF_none HP.out]
          go_wp2
          refine bodyPost_ret (v := .tuple #[.int .i64 (-1), .int .i64 0]) (by simp [results, Try.results12, go_sem]) rfl ⟨by rw [hR3.out], hB⟩
end Sw
end Go.Proofs.Ytdlgdmbcbenlbaa
namespace Go.Proofs.Ytdlgdmbcbenlbaa
open Go Go.RowKit Go.Sort
namespace Sw
open Mm
theorem info_parts {P : Program} {t : TypeId} {z : Value} {k b : Nat} (h : (P.info? t).map (fun i => (i.zero, i.size, i.bytes)) = some (some z, k, b)) : ∃ i, P.info? t = some i ∧ i.zero = some z ∧ i.size = k ∧ i.bytes = b := by
  cases hi : P.info? t with
  | none => rw [hi] at h; cases h
  | some i => rw [hi] at h; simp at h; exact ⟨i, rfl, h.1, h.2.1, h.2.2⟩
theorem info_pr : (Try.prog.info? 42).map (fun i => (i.zero, i.size, i.bytes)) = some (some (.agg #[.int .i64 0, .int .i64 0]), 2, 16) := by kernel_rfl
/-- the times so far, held by the box M: nothing below M has turned since W0 -/
structure TSt (W0 W : World) (M : Nat) (v : Value) (t : List (Int × Int)) : Prop where
  below : Below M W0 W
  blk : Blk W M #[v] 35
  own : W.ownsRow (M + 1) 42 2 v t.length (t.flatMap prE)
theorem Below.grownM {W0 W W' : World} {M : Nat} {r : Option Nat} (h : Below M W0 W) (hg : W.grownBy W' r) (hM : M ≤ W.heap.size) (hr : ∀ k, r = some k → M ≤ k) : Below M W0 W' := h.grown hg hM hr
theorem set_last (u : List (Int × Int)) (a b x : Int) : ((u ++ [(a, b)]).flatMap prE).set (u.length * 2 + 1) (.int .i64 x) = (u ++ [(a, x)]).flatMap prE := by
  rw [List.flatMap_append, List.flatMap_append, ← Sk.fm_len prE 2 prE_len u, List.set_append_right _ _ (by omega)]
  congr 1
  simp [prE]
def TPost (W0 : World) (M : Nat) (t : List (Int × Int)) (e : Ending) (w' : World) : Prop := e = .returned (.tuple #[]) ∧ ∃ v, TSt W0 w' M v t
set_option maxRecDepth 100000 in
set_option maxHeartbeats 4000000 in
theorem begin_any (W0 W : World) (M : Nat) (v : Value) (t : List (Int × Int)) (s : Int) (h : TSt W0 W M v t) (hl : t.length ≤ 5000) :
    Calls Try.prog 67 #[.int .i64 s, .pointer (some ⟨M, 0, none⟩)] W (TPost W0 M (begT t s)) := by
  obtain ⟨i0, hi, hz0, hz1, hz2⟩ := info_parts info_pr
  have hMl := h.blk.lt
  have kb := h.blk.cell 0
  have kf := h.blk.free 0
  have HOa := h.own.alloc (.cells #[.int .i64 s, .int .i64 (-1)] 42)
  have hnews := World.news_of_block (Blk.new W #[.int .i64 s, .int .i64 (-1)] 42).at_
  have happ : ∀ (g cap : Nat) (w1 : World), w1.ownsRow (M + 1) 42 2 (.slice (some ⟨g, 0, none⟩) (t.length + 1) cap) (t.length + 1) (t.flatMap prE ++ [.int .i64 s, .int .i64 (-1)]) → (W.alloc (.cells #[.int .i64 s, .int .i64 (-1)] 42)).grownBy w1 v.ownBlock → TSt W0 (w1.setCell ⟨M, 0, none⟩ (.slice (some ⟨g, 0, none⟩) (t.length + 1) cap)) M (.slice (some ⟨g, 0, none⟩) (t.length + 1) cap) (t ++ [(s, -1)]) := by
    intro g cap w1 hown hg
    have hne : v.ownBlock ≠ some M := fun e => by have := (h.own.lt M e).1; omega
    have hb1 : Below M W0 (W.alloc (.cells #[.int .i64 s, .int .i64 (-1)] 42)) := h.below.alloc (by omega) _
    have hb2 := Below.grownM hb1 hg (by simp; omega) (fun k hk => by have := (h.own.lt k hk).1; omega)
    have hk := (h.blk.alloc (.cells #[.int .i64 s, .int .i64 (-1)] 42)).grown hg hne
    refine ⟨hb2.setCell (Nat.le_refl _) _, ?_, ?_⟩
    · have := hk.set 0 (.slice (some ⟨g, 0, none⟩) (t.length + 1) cap); simpa using this
    · have := ownsRow_setCell_below hown (a := ⟨M, 0, none⟩) (by simp) (.slice (some ⟨g, 0, none⟩) (t.length + 1) cap)
      rw [List.length_append, List.flatMap_append]
      exact this
  have hsz : M + 1 ≤ W.heap.size := by omega
  rcases snoc_cases t with rfl | ⟨u, p, rfl⟩
  · have hv : ∃ A c, v = .slice A 0 c := by
      rcases h.own.2 with ⟨hv, _⟩ | ⟨g, cap, cur, hv, _⟩
      · exact ⟨none, 0, hv⟩
      · exact ⟨_, _, hv⟩
    obtain ⟨A, c, rfl⟩ := hv
    rw [begT_nil]
    replace h := Lib.hid h
    replace HOa := Lib.hid HOa
    replace hnews := Lib.hid hnews
    replace happ := Lib.hid happ
    replace hi := Lib.hid hi
    replace hz0 := Lib.hid hz0
    replace hz1 := Lib.hid hz1
    replace hz2 := Lib.hid hz2
    go_enter Try.func67, Try.ntmps67
    go_wp2_with (at_builtin; refine wpList_append_lies _ rfl _ _ _ rfl (M + 1) 42 i0 (.agg #[.int .i64 0, .int .i64 0]) 2 16 Try.underlying35 hi.out hz0.out hz1.out hz2.out rfl (by decide) (.slice A 0 c) 0 _ rfl HOa.out ⟨W.heap.size, 0, none⟩ 1 1 [.int .i64 s, .int .i64 (-1)] rfl rfl ?c1 ?c2 (by decide) ?c3 ?c4 ?c5 (W.heap.size + 1) ?c6 ?_)
    try case c1 => exact hnews.out
    try case c2 => simp [Value.oneCell']
    try case c3 => unfold maxLen; omega
    try case c4 => omega
    try case c5 => first | omega | (simp; omega)
    try case c6 => first | rfl | simp
    intro g cap w1 hown1 hgrow1 hat1 hlt1
    have HT := happ.out g cap w1 hown1 hgrow1
    have hne : (Value.slice A 0 c).ownBlock ≠ some M := fun e => by have := (h.out.own.lt M e).1; omega
    have hk1 := (h.out.blk.alloc (.cells #[.int .i64 s, .int .i64 (-1)] 42)).grown hgrow1 hne
    have kb1 := hk1.cell 0
    have kf1 := hk1.free 0
    replace HT := Lib.hid HT
    replace hne := Lib.hid hne
    replace hk1 := Lib.hid hk1
    clear hown1 hgrow1 hat1 kb kf
    go_wp2
    go_end0
    exact ⟨rfl, _, HT.out⟩
  · obtain ⟨p1, p2⟩ := p
    rw [begT_snoc]
    have hgl := h.own.2
    rcases hgl with ⟨hv, h0⟩ | ⟨g, cap, cur, rfl, hbase, hg, r1, r2, r3, r4⟩
    · simp at h0
    have hc1 := h.own.cellAt (u.length * 2 + 1) (by simp; omega)
    have hc1' : ((u ++ [(p1, p2)]).flatMap prE)[u.length * 2 + 1]? = some (.int .i64 p2) := by
      rw [Sk.fm_get prE 2 prE_len _ u.length 1 (by simp) (by decide)]
      simp [prE]
    rw [hc1'] at hc1
    have hf1 := h.own.frozenAt (u.length * 2 + 1)
    have hst := h.own.stored (u.length * 2 + 1) (.int .i64 (-1))
    rw [set_last] at hst
    have hgl : g < W.heap.size := (Array.getElem?_eq_some_iff.1 hg).1
    have hlu : (u ++ [(p1, p2)]).length = u.length + 1 := by simp
    have hlu2 : (u ++ [(p1, (-1 : Int))]).length = u.length + 1 := by simp
    rw [hlu] at kb HOa happ hl hst
    dsimp only
    by_cases hps : p2 = s
    · have hT : TSt W0 (W.setCell ⟨g, u.length * 2 + 1, none⟩ (.int .i64 (-1))) M (.slice (some ⟨g, 0, none⟩) (u.length + 1) cap) (u ++ [(p1, -1)]) :=
        ⟨h.below.setCell (by simp; omega) _, by rw [← hlu]; exact h.blk.other (by simp; omega) _, by rw [hlu2]; exact hst.1⟩
      have hps2 : (p2 == s) = true := by simpa using hps
      rw [if_pos hps]
      generalize u.length = q at *
      replace h := Lib.hid h
      replace HOa := Lib.hid HOa
      replace hnews := Lib.hid hnews
      replace happ := Lib.hid happ
      replace hi := Lib.hid hi
      replace hz0 := Lib.hid hz0
      replace hz1 := Lib.hid hz1
      replace hz2 := Lib.hid hz2
      replace hT := Lib.hid hT
      replace hst := Lib.hid hst
      replace hps := Lib.hid hps
      clear hc1'
      go_enter Try.func67, Try.ntmps67
      go_wp2
      go_end0
      exact ⟨rfl, _, hT.out⟩
    · have hps2 : (p2 == s) = false := by simpa using hps
      rw [if_neg hps]
      have hbl := h.blk
      have hown0 := h.own
      have hn0 : (Value.slice (some ⟨g, 0, none⟩) (u ++ [(p1, p2)]).length cap).ownBlock ≠ some M := fun e => by have := (hown0.lt M e).1; omega
      clear hps hst hf1 hc1' r4
      generalize (u ++ [(p1, p2)]).flatMap prE = F at HOa happ
      replace h := Lib.hid h
      replace HOa := Lib.hid HOa
      replace hnews := Lib.hid hnews
      replace happ := Lib.hid happ
      replace hi := Lib.hid hi
      replace hz0 := Lib.hid hz0
      replace hz1 := Lib.hid hz1
      replace hz2 := Lib.hid hz2
      replace hbl := Lib.hid hbl
      replace hown0 := Lib.hid hown0
      replace hn0 := Lib.hid hn0
      replace hlu := Lib.hid hlu
      go_enter Try.func67, Try.ntmps67
      go_wp2_with (at_builtin; refine wpList_append_lies _ rfl _ _ _ rfl (M + 1) 42 i0 (.agg #[.int .i64 0, .int .i64 0]) 2 16 Try.underlying35 hi.out hz0.out hz1.out hz2.out rfl (by decide) (.slice (some ⟨g, 0, none⟩) (u.length + 1) cap) (u.length + 1) _ rfl HOa.out ⟨W.heap.size, 0, none⟩ 1 1 [.int .i64 s, .int .i64 (-1)] rfl rfl ?d1 ?d2 (by decide) ?d3 ?d4 ?d5 (W.heap.size + 1) ?d6 ?_)
      try case d1 => exact hnews.out
      try case d2 => simp [Value.oneCell']
      try case d3 => unfold maxLen; omega
      try case d4 => omega
      try case d5 => first | omega | (simp; omega)
      try case d6 => first | rfl | simp
      intro g2 cap2 w1 hown1 hgrow1 hat1 hlt1
      have HT := happ.out g2 cap2 w1 hown1 hgrow1
      have hk1 := (hbl.out.alloc (.cells #[.int .i64 s, .int .i64 (-1)] 42)).grown hgrow1 (by rw [hlu.out] at hn0; exact hn0.out)
      have kb1 := hk1.cell 0
      have kf1 := hk1.free 0
      replace HT := Lib.hid HT
      replace hk1 := Lib.hid hk1
      clear hown1 hgrow1 hat1 kb kf
      go_wp2
      go_end0
      have HT2 := HT.out
      rw [List.append_assoc] at HT2
      exact ⟨rfl, _, HT2⟩
theorem set_firstless (u : List (Int × Int)) (p : Int × Int) : (u ++ [p]).flatMap prE = u.flatMap prE ++ prE p := by rw [List.flatMap_append]; simp
set_option maxRecDepth 100000 in
set_option maxHeartbeats 4000000 in
theorem end_any (W0 W : World) (M : Nat) (v : Value) (u : List (Int × Int)) (p : Int × Int) (s : Int) (h : TSt W0 W M v (u ++ [p])) (hl : u.length ≤ 5000) :
    Calls Try.prog 68 #[.int .i64 s, .pointer (some ⟨M, 0, none⟩)] W (TPost W0 M (endT (u ++ [p]) s)) := by
  have hMl := h.blk.lt
  have kb := h.blk.cell 0
  have kf := h.blk.free 0
  obtain ⟨p1, p2⟩ := p
  rw [endT_snoc]
  rcases h.own.2 with ⟨hv, h0⟩ | ⟨g, cap, cur, rfl, hbase, hg, r1, r2, r3, r4⟩
  · simp at h0
  have hc1 := h.own.cellAt (u.length * 2) (by first | (simp; done) | (simp; omega))
  have hc1' : ((u ++ [(p1, p2)]).flatMap prE)[u.length * 2]? = some (.int .i64 p1) := by
    have := Sk.fm_get prE 2 prE_len (u ++ [(p1, p2)]) u.length 0 (by simp) (by decide)
    rw [Nat.add_zero] at this
    rw [this]
    simp [prE]
  rw [hc1'] at hc1
  have hf1 := h.own.frozenAt (u.length * 2 + 1)
  have hst := h.own.stored (u.length * 2 + 1) (.int .i64 s)
  rw [set_last] at hst
  have hc2 := h.own.cellAt (u.length * 2 + 1) (by first | (simp; done) | (simp; omega))
  have hc2' : ((u ++ [(p1, p2)]).flatMap prE)[u.length * 2 + 1]? = some (.int .i64 p2) := by
    rw [Sk.fm_get prE 2 prE_len _ u.length 1 (by simp) (by decide)]
    simp [prE]
  rw [hc2'] at hc2
  have hgl : g < W.heap.size := (Array.getElem?_eq_some_iff.1 hg).1
  have hlu : (u ++ [(p1, p2)]).length = u.length + 1 := by simp
  have hlu2 : (u ++ [(p1, s)]).length = u.length + 1 := by simp
  have hpop := h.own
  rw [hlu, set_firstless] at hpop
  replace hpop := ownsRow_pop (Sk.fm_len prE 2 prE_len u) hpop
  rw [hlu] at kb r1 hst
  dsimp only
  by_cases hps : p1 = s
  · have hT : TSt W0 (W.setCell ⟨M, 0, none⟩ (.slice (some ⟨g, 0, none⟩) u.length cap)) M (.slice (some ⟨g, 0, none⟩) u.length cap) u :=
      ⟨h.below.setCell (Nat.le_refl _) _, by simpa using h.blk.set 0 (.slice (some ⟨g, 0, none⟩) u.length cap), ownsRow_setCell_below hpop (a := ⟨M, 0, none⟩) (by simp) _⟩
    have hps2 : (p1 == s) = true := by simpa using hps
    rw [if_pos hps]
    generalize u.length = q at *
    replace h := Lib.hid h
    replace hT := Lib.hid hT
    replace hst := Lib.hid hst
    replace hps := Lib.hid hps
    replace hpop := Lib.hid hpop
    clear hc1' hc2' hc2 r4
    go_enter Try.func68, Try.ntmps68
    go_wp2
    go_end0
    exact ⟨rfl, _, hT.out⟩
  · have hT : TSt W0 (W.setCell ⟨g, u.length * 2 + 1, none⟩ (.int .i64 s)) M (.slice (some ⟨g, 0, none⟩) (u.length + 1) cap) (u ++ [(p1, s)]) :=
      ⟨h.below.setCell (by first | (simp; done) | (simp; omega)) _, by rw [← hlu]; exact h.blk.other (by first | (simp; done) | (simp; omega)) _, by rw [hlu2]; exact hst.1⟩
    have hps2 : (p1 == s) = false := by simpa using hps
    rw [if_neg hps]
    generalize u.length = q at *
    replace h := Lib.hid h
    replace hT := Lib.hid hT
    replace hst := Lib.hid hst
    replace hps := Lib.hid hps
    replace hpop := Lib.hid hpop
    clear hc1' hc2' r4
    go_enter Try.func68, Try.ntmps68
    go_wp2
    go_end0
    exact ⟨rfl, _, hT.out⟩
end Sw
end Go.Proofs.Ytdlgdmbcbenlbaa
namespace Go.Proofs.Ytdlgdmbcbenlbaa
open Go Go.RowKit Go.Sort
namespace Sw
open Mm
def eqC (a b : Cel) : Bool := decide (a = b)
theorem eqC_split (a b : Cel) : eqC a b = (a.slot == b.slot && (a.offset == b.offset && (a.frm == b.frm && (a.to == b.to && a.flow == b.flow)))) := by
  unfold eqC
  obtain ⟨a0, a1, a2, a3, a4⟩ := a
  obtain ⟨b0, b1, b2, b3, b4⟩ := b
  rw [Bool.eq_iff_iff]
  simp
theorem equal_cel (a b : Cel) (W : World) : (Op.equalIn 10000 34 (.agg #[.int .i64 a.slot, .int .i64 a.offset, .int .i64 a.frm, .int .i64 a.to, .int .i64 a.flow]) (.agg #[.int .i64 b.slot, .int .i64 b.offset, .int .i64 b.frm, .int .i64 b.to, .int .i64 b.flow])).run Try.prog W = .ok (eqC a b) W := by
  have u3 := Try.underlying3
  have a3 := Try.isAgg3
  have z3 := Try.sizeOf3
  have hS : Try.prog.underlying 34 = some (.struct (Try.prog.fieldsOf 34)) := by kernel_rfl
  have hp : Try.prog.stoodInHeld 34 = false := by kernel_rfl
  rw [eqC_split, show (10000 : Nat) = 9999 + 1 from rfl, run_equalIn_agg W 9999 34 _ _ hS hp]
  simp only [Program.fieldsOf, Try.underlying34]
  go_simp
  by_cases h0 : a.slot = b.slot
  · by_cases h1 : a.offset = b.offset
    · by_cases h2 : a.frm = b.frm
      · by_cases h3 : a.to = b.to
        · by_cases h4 : a.flow = b.flow <;> simp [h0, h1, h2, h3, h4]
        · simp [h0, h1, h2, h3]
      · simp [h0, h1, h2]
    · simp [h0, h1]
  · simp [h0]
theorem eql_cel (a b : Cel) (W : World) : (binOp .eql 34 (.agg #[.int .i64 a.slot, .int .i64 a.offset, .int .i64 a.frm, .int .i64 a.to, .int .i64 a.flow]) (.agg #[.int .i64 b.slot, .int .i64 b.offset, .int .i64 b.frm, .int .i64 b.to, .int .i64 b.flow])).run Try.prog W = .ok (.bool (eqC a b)) W := by
  rw [run_eql_struct, equal_cel]; rfl
theorem neq_cel (a b : Cel) (W : World) : (binOp .neq 34 (.agg #[.int .i64 a.slot, .int .i64 a.offset, .int .i64 a.frm, .int .i64 a.to, .int .i64 a.flow]) (.agg #[.int .i64 b.slot, .int .i64 b.offset, .int .i64 b.frm, .int .i64 b.to, .int .i64 b.flow])).run Try.prog W = .ok (.bool (!eqC a b)) W := by
  rw [run_neq_struct, equal_cel]; rfl
set_option maxRecDepth 100000 in
set_option maxHeartbeats 2000000 in
theorem contains_any (A : Option Addr) (n cp : Nat) (cs : List Cel) (c : Cel) (w : World) (h : CelS w A n cs) :
    Calls Try.prog 58 #[.slice A n cp, .agg #[.int .i64 c.slot, .int .i64 c.offset, .int .i64 c.frm, .int .i64 c.to, .int .i64 c.flow]] w fun e w' => (∃ i : Int, e = .returned (.int .i64 i) ∧ decide (0 ≤ i) = decide (c ∈ cs)) ∧ Below w.heap.size w w' := by
  have hlen := h.len
  have hs := h.small
  unfold maxLen at hs
  have hbw := ball w (.cells #[.int .i64 c.slot, .int .i64 c.offset, .int .i64 c.frm, .int .i64 c.to, .int .i64 c.flow] 34)
  have BC := Box.new w #[.int .i64 c.slot, .int .i64 c.offset, .int .i64 c.frm, .int .i64 c.to, .int .i64 c.flow] 34
  have ke := fun d W => eql_cel c d W
  have hmem : Hid (∀ d, eqC c d = decide (c = d)) := fun _ => rfl
  generalize eqC c = E at *
  have hcc : Hid (c = c) := rfl
  obtain ⟨c0, c1, c2, c3, c4⟩ := c
  dsimp only at *
  replace h := Lib.hid h
  replace hlen := Lib.hid hlen
  replace hbw := Lib.hid hbw
  replace BC := Lib.hid BC
  replace ke := Lib.hid ke
  have kb := BC.out.at_
  go_enter Try.func58, Try.ntmps58
  go_wp2_with fail
  clear kb
  generalize w.alloc (.cells #[.int .i64 c0, .int .i64 c1, .int .i64 c2, .int .i64 c3, .int .i64 c4] 34) = w1 at *
  go_loopw [5, 8] (fun _ i wr => ∃ k : Nat, k ≤ n ∧ i = .int .i64 k ∧ Hid (∀ d ∈ cs.take k, ⟨c0, c1, c2, c3, c4⟩ ≠ d) ∧ Hid (Below w1.heap.size w1 wr)) (fun _ i _ => n - (intOf i).toNat)
  case atStart => exact ⟨0, by omega, rfl, fun d hd => by simp at hd, Below.refl _ _⟩
  case round =>
    obtain ⟨k, hk, rfl, HP, HB⟩ := hrel
    have hB := bthen hbw.out HB.out
    by_cases hlt : k < n
    · obtain ⟨b, off, rfl⟩ := h.out.addr (by omega)
      have hx := cel_at (h.out.keep hB) hlt
      have hk2 := ke.out (cs.getD k default)
      have htk := take_snoc (xs := cs) (k := k) (by rw [hlen.out]; exact hlt)
      have hin : cs.getD k default ∈ cs := ok_at (P := (· ∈ cs)) (fun _ h => h) (by rw [hlen.out]; exact hlt)
      have hme := hmem.out (cs.getD k default)
      generalize cs.getD k default = x at *
      obtain ⟨x0, x1, x2, x3, x4⟩ := x
      obtain ⟨q0, q1, q2, q3, q4⟩ := hx
      dsimp only at q0 q1 q2 q3 q4 hk2
      have g0 := cell_regrown q0
      have g1 := cell_regrown q1
      have g2 := cell_regrown q2
      have g3 := cell_regrown q3
      have g4 := cell_regrown q4
      have BR := BC.out.keep HB.out
      have gx := BR.grown
      have r1 : (k : Int) < (n : Int) := by omega
      generalize E ⟨x0, x1, x2, x3, x4⟩ = Q at *
      clear q0 q1 q2 q3 q4
      replace htk := Lib.hid htk
      replace hin := Lib.hid hin
      replace hme := Lib.hid hme
      replace BR := Lib.hid BR
      replace hB := Lib.hid hB
      cases Q with
      | true =>
        have hm : decide ((⟨c0, c1, c2, c3, c4⟩ : Cel) ∈ cs) = true := by
          have := hme.out
          rw [eq_comm, decide_eq_true_eq] at this
          rw [this]; simpa using hin.out
        replace hm := Lib.hid hm
        go_wp2_with fail
        refine wp_region_quiet_below (by kernel_rfl) (by kernel_rfl) ?_
        repeat (go_big_quiet_step (fail))
        refine wpQuiet_nil ?_
        rintro _ ⟨⟨dq, osq⟩, rfl⟩
        have hb_ := below_regrown wr dq osq
        replace HB := Lib.hid (HB.out.keep hb_)
        generalize grow (redrawn wr dq) osq = w2 at *
        clear hb_
        have hB2 := Lib.hid (bthen hbw.out HB.out)
        go_wp2
        go_ret
        exact ⟨⟨k, rfl, by rw [hm.out]; simp⟩, hB2.out⟩
      | false =>
        have hP2 : Hid (∀ d ∈ cs.take (k + 1), (⟨c0, c1, c2, c3, c4⟩ : Cel) ≠ d) := fun d hd => by
          rw [htk.out, List.mem_append, List.mem_singleton] at hd
          rcases hd with hd | rfl
          · exact HP.out d hd
          · have := hme.out
            rw [eq_comm, decide_eq_false_iff_not] at this
            exact this
        go_wp2_with fail
        refine wp_region_quiet_below (by kernel_rfl) (by kernel_rfl) ?_
        repeat (go_big_quiet_step (fail))
        refine wpQuiet_nil ?_
        rintro _ ⟨⟨dq, osq⟩, rfl⟩
        have hb_ := below_regrown wr dq osq
        replace HB := Lib.hid (HB.out.keep hb_)
        generalize grow (redrawn wr dq) osq = w2 at *
        clear hb_
        go_wp2
        go_roundw
        case rel => exact ⟨k + 1, by omega, by go_num, hP2, HB⟩
        case measure => simp [intOf]; omega
    · obtain rfl : k = n := by omega
      have hm : decide ((⟨c0, c1, c2, c3, c4⟩ : Cel) ∈ cs) = false := by
        have := HP.out
        rw [List.take_of_length_le (by rw [hlen.out]; exact Nat.le_refl _)] at this
        rw [decide_eq_false_iff_not]
        exact fun h => this _ h rfl
      replace hm := Lib.hid hm
      replace hB := Lib.hid hB
      go_wp2
      go_ret
      exact ⟨⟨-1, rfl, by rw [hm.out]; rfl⟩, hB.out⟩
theorem containsC_any (A : Option Addr) (n cp : Nat) (cs : List Cel) (c : Cel) (w : World) (h : CelS w A n cs) :
    Calls Try.prog 27 #[.slice A n cp, .agg #[.int .i64 c.slot, .int .i64 c.offset, .int .i64 c.frm, .int .i64 c.to, .int .i64 c.flow]] w fun e w' => e = .returned (.bool (decide (c ∈ cs))) ∧ Below w.heap.size w w' := by
  have hbw := ball w (.cells #[.int .i64 c.slot, .int .i64 c.offset, .int .i64 c.frm, .int .i64 c.to, .int .i64 c.flow] 34)
  have BC := Box.new w #[.int .i64 c.slot, .int .i64 c.offset, .int .i64 c.frm, .int .i64 c.to, .int .i64 c.flow] 34
  have cI := contains_any A n cp cs c _ (h.keep hbw)
  generalize decide (c ∈ cs) = R at *
  replace h := Lib.hid h
  replace hbw := Lib.hid hbw
  replace BC := Lib.hid BC
  replace cI := Lib.hid cI
  have kb := BC.out.at_
  go_enter Try.func27, Try.ntmps27
  go_wp2_with fail
  refine cI.out.mono ?_
  rintro e w1 ⟨⟨i, rfl, hi⟩, hb_⟩
  replace hi := Lib.hid hi
  have hB := Lib.hid (bthen hbw.out hb_)
  clear hb_
  go_wp2
  go_ret
  exact ⟨by rw [← hi.out]; rfl, hB.out⟩
end Sw
end Go.Proofs.Ytdlgdmbcbenlbaa
namespace Go.Proofs.Ytdlgdmbcbenlbaa
open Go Go.RowKit Go.Sort
namespace Sw
open Mm
def stepT (c : Cel) (t : List (Int × Int)) (x : Chg) : List (Int × Int) := if x.cell = c then (if x.add = true then begT t x.slot else endT t x.slot) else t
def timesC (cs : List Cel) (l : List Chg) (c : Cel) : List (Int × Int) := l.foldl (stepT c) (if c ∈ cs then begT [] 0 else [])
theorem timesC_snoc (cs : List Cel) (l : List Chg) (c : Cel) (x : Chg) : timesC cs (l ++ [x]) c = stepT c (timesC cs l c) x := by unfold timesC; rw [List.foldl_append]; rfl
theorem begT_len (t : List (Int × Int)) (s : Int) : (begT t s).length ≤ t.length + 1 := by
  rcases snoc_cases t with rfl | ⟨u, p, rfl⟩
  · simp [begT_nil]
  · rw [begT_snoc]; split <;> simp
theorem endT_len (t : List (Int × Int)) (s : Int) : (endT t s).length ≤ t.length + 1 := by
  rcases snoc_cases t with rfl | ⟨u, p, rfl⟩
  · simp [endT]
  · rw [endT_snoc]; split <;> simp <;> omega
theorem timesC_len (cs : List Cel) (c : Cel) : ∀ (k : Nat) (l : List Chg), l.length = k → (timesC cs l c).length ≤ k + 1 := by
  intro k
  induction k with
  | zero =>
    intro l hl
    obtain rfl := List.length_eq_zero_iff.1 hl
    unfold timesC
    simp only [List.foldl_nil]
    split <;> simp [begT_nil]
  | succ k ih =>
    intro l hl
    rcases snoc_cases l with rfl | ⟨u, x, rfl⟩
    · simp at hl
    · rw [timesC_snoc]
      have := ih u (by simpa using hl)
      unfold stepT
      split
      · split
        · have := begT_len (timesC cs u c) x.slot; omega
        · have := endT_len (timesC cs u c) x.slot; omega
      · omega
/-- each removal of the cell finds it there -/
def Ends (cs : List Cel) (l : List Chg) (c : Cel) : Prop := ∀ k, k < l.length → (l.getD k default).cell = c → (l.getD k default).add = false → ∃ u p, timesC cs (l.take k) c = u ++ [p]
theorem TSt.alloc {W0 W : World} {M : Nat} {v : Value} {t : List (Int × Int)} (h : TSt W0 W M v t) (o : Obj) : TSt W0 (W.alloc o) M v t :=
  ⟨h.below.alloc (Nat.le_of_lt h.blk.lt) o, h.blk.alloc o, h.own.alloc o⟩
theorem Box.underM {W0 W : World} {B M : Nat} {C : Array Value} (h : Box W0 B C) (hb : Below M W0 W) (hB : B < M) (hM : M ≤ W0.heap.size) : Box W B C :=
  ⟨Nat.lt_of_lt_of_le (Nat.lt_of_lt_of_le hB hM) hb.size, fun i => by rw [hb.cell (p := ⟨B, i, none⟩) hB]; exact h.at_ i⟩
def TimesPost (t : List (Int × Int)) (w : World) (e : Ending) (w' : World) : Prop :=
  ∃ A c, e = .returned (.slice A t.length c) ∧ w'.ownsRow w.heap.size 42 2 (.slice A t.length c) t.length (t.flatMap prE) ∧ Below w.heap.size w w'
theorem own_slice {w : World} {base : Nat} {e : TypeId} {size n : Nat} {v : Value} {xs : List Value} (h : w.ownsRow base e size v n xs) : ∃ A c, v = .slice A n c := by
  rcases h.2 with ⟨h, h0⟩ | ⟨g, cap, cur, h, _⟩
  · exact ⟨none, 0, by rw [h, h0]⟩
  · exact ⟨_, _, h⟩
theorem own_base {w : World} {base base' : Nat} {e : TypeId} {size n : Nat} {v : Value} {xs : List Value} (h : w.ownsRow base e size v n xs) (hb : base' ≤ base) : w.ownsRow base' e size v n xs :=
  ⟨h.1, h.2.imp id fun ⟨g, cap, cur, h1, h2, h3⟩ => ⟨g, cap, cur, h1, Nat.le_trans hb h2, h3⟩⟩
set_option maxRecDepth 100000 in
set_option maxHeartbeats 4000000 in
theorem times_any (L O : Int) (A : Option Addr) (n cp : Nat) (cs : List Cel) (B : Option Addr) (m cq : Nat) (l : List Chg) (c : Cel) (w : World) (h1 : CelS w A n cs) (h2 : ChgS w B m l) (hg : Ends cs l c) (hm : m ≤ 1024) :
    Calls Try.prog 39 #[.agg #[.int .i64 L, .int .i64 O, .slice A n cp], .slice B m cq, .agg #[.int .i64 c.slot, .int .i64 c.offset, .int .i64 c.frm, .int .i64 c.to, .int .i64 c.flow]] w (TimesPost (timesC cs l c) w) := by
  have hl2 := h2.len
  have hb2 := ballN (ball w (.cells #[.int .i64 L, .int .i64 O, .slice A n cp] 24)) (.cells #[.int .i64 c.slot, .int .i64 c.offset, .int .i64 c.frm, .int .i64 c.to, .int .i64 c.flow] 34)
  have BX := (Box.new w #[.int .i64 L, .int .i64 O, .slice A n cp] 24).alloc (.cells #[.int .i64 c.slot, .int .i64 c.offset, .int .i64 c.frm, .int .i64 c.to, .int .i64 c.flow] 34)
  have BC := Box.new (w.alloc (.cells #[.int .i64 L, .int .i64 O, .slice A n cp] 24)) #[.int .i64 c.slot, .int .i64 c.offset, .int .i64 c.frm, .int .i64 c.to, .int .i64 c.flow] 34
  rw [size1] at BC
  have hb3 := ballN hb2 (.cells #[.slice none 0 0] 35)
  have hK := Blk.new ((w.alloc (.cells #[.int .i64 L, .int .i64 O, .slice A n cp] 24)).alloc (.cells #[.int .i64 c.slot, .int .i64 c.offset, .int .i64 c.frm, .int .i64 c.to, .int .i64 c.flow] 34)) #[.slice none 0 0] 35
  have hBB := ball ((w.alloc (.cells #[.int .i64 L, .int .i64 O, .slice A n cp] 24)).alloc (.cells #[.int .i64 c.slot, .int .i64 c.offset, .int .i64 c.frm, .int .i64 c.to, .int .i64 c.flow] 34)) (.cells #[.slice none 0 0] 35)
  have BX3 := BX.alloc (.cells #[.slice none 0 0] 35)
  have BC3 := BC.alloc (.cells #[.slice none 0 0] 35)
  have hsz : ((w.alloc (.cells #[.int .i64 L, .int .i64 O, .slice A n cp] 24)).alloc (.cells #[.int .i64 c.slot, .int .i64 c.offset, .int .i64 c.frm, .int .i64 c.to, .int .i64 c.flow] 34)).heap.size = w.heap.size + 1 + 1 := by rw [size1, size1]
  have cCo := fun W (h : CelS W A n cs) => containsC_any A n cp cs c W h
  have ht0 : timesC cs (l.take 0) c = if c ∈ cs then begT [] 0 else [] := rfl
  have hts := fun k (hk : k < l.length) => timesC_snoc cs (l.take k) c (l.getD k default)
  have htl := fun k (hk : k ≤ l.length) => timesC_len cs c k (l.take k) (by simp; omega)
  have hne := fun x W => neq_cel x c W
  have hEq : Hid (∀ x, eqC x c = decide (x = c)) := fun _ => rfl
  unfold Ends at hg
  generalize hTC : timesC cs = TC at *
  generalize hcm : decide (c ∈ cs) = IN at *
  have ht0' : TC (l.take 0) c = if IN = true then begT [] 0 else [] := by rw [ht0, ← hcm]; by_cases h : c ∈ cs <;> simp [h]
  generalize hEE : eqC = E at *
  clear ht0 hTC hEE hcm
  obtain ⟨c0, c1, c2, c3, c4⟩ := c
  dsimp only at *
  replace h1 := Lib.hid h1
  replace h2 := Lib.hid h2
  replace hg := Lib.hid hg
  replace hl2 := Lib.hid hl2
  replace hb2 := Lib.hid hb2
  replace BX := Lib.hid BX
  replace BC := Lib.hid BC
  replace hb3 := Lib.hid hb3
  replace hK := Lib.hid hK
  replace hBB := Lib.hid hBB
  replace BX3 := Lib.hid BX3
  replace BC3 := Lib.hid BC3
  replace hsz := Lib.hid hsz
  replace cCo := Lib.hid cCo
  replace ht0' := Lib.hid ht0'
  replace hts := Lib.hid hts
  replace htl := Lib.hid htl
  replace hne := Lib.hid hne
  have kx := BX3.out.at_
  have kb := BC3.out.at_
  go_enter Try.func39, Try.ntmps39
  go_wp2_with fail
  generalize (w.alloc (.cells #[.int .i64 L, .int .i64 O, .slice A n cp] 24)).alloc (.cells #[.int .i64 c0, .int .i64 c1, .int .i64 c2, .int .i64 c3, .int .i64 c4] 34) = W0 at *
  have hW0 := hsz.out
  refine (cCo.out _ (h1.out.keep hb3.out)).mono ?_
  rintro e W4 ⟨rfl, hb_⟩
  clear kx kb cCo
  have hB4 := bthen hBB.out hb_
  have hT4 : TSt W0 W4 W0.heap.size (.slice none 0 0) [] := ⟨hB4, hK.out.keep hb_, World.ownsRow_nil _ _ _ _⟩
  clear hb_ hb3 hBB BX3 BC3
  rw [hW0] at hT4 hB4
  have hMa : w.heap.size + 1 < w.heap.size + 1 + 1 := by omega
  have hMb : w.heap.size + 1 + 1 ≤ W0.heap.size := by omega
  clear hW0 hsz hK
  generalize w.heap.size + 1 + 1 = M at *
  have cB := fun W v t s (h : TSt W0 W M v t) (hl : t.length ≤ 5000) => begin_any W0 W M v t s h hl
  have cE := fun W v u p s (h : TSt W0 W M v (u ++ [p])) (hl : u.length ≤ 5000) => end_any W0 W M v u p s h hl
  have BCW : ∀ W, Below M W0 W → Box W (w.heap.size + 1) #[.int .i64 c0, .int .i64 c1, .int .i64 c2, .int .i64 c3, .int .i64 c4] := fun W h => BC.out.underM h (by omega) (by omega)
  have hBW : ∀ W, Below M W0 W → Below w.heap.size w W := fun W h => hb2.out.trans (h.mono (by omega))
  have hfin : ∀ W v, TSt W0 W M v (TC l ⟨c0, c1, c2, c3, c4⟩) → ∃ A cc, v = .slice A (TC l ⟨c0, c1, c2, c3, c4⟩).length cc ∧ W.ownsRow w.heap.size 42 2 (.slice A (TC l ⟨c0, c1, c2, c3, c4⟩).length cc) (TC l ⟨c0, c1, c2, c3, c4⟩).length ((TC l ⟨c0, c1, c2, c3, c4⟩).flatMap prE) ∧ Below w.heap.size w W := fun W v h => by
    obtain ⟨A, cc, hv⟩ := own_slice h.own
    subst hv
    exact ⟨A, cc, rfl, own_base h.own (by omega), hBW W h.below⟩
  replace hT4 := Lib.hid hT4
  replace hB4 := Lib.hid hB4
  replace cB := Lib.hid cB
  replace cE := Lib.hid cE
  replace BCW := Lib.hid BCW
  replace hBW := Lib.hid hBW
  replace hfin := Lib.hid hfin
  cases IN
  case' false =>
    have hT5 : Hid (∃ v, TSt W0 W4 M v (TC (l.take 0) ⟨c0, c1, c2, c3, c4⟩)) := ⟨_, by rw [ht0'.out]; simpa using hT4.out⟩
    go_upto_region 6 with fail
    generalize W4 = w5 at *
  case' true =>
    go_wp2_with fail
    refine (cB.out W4 _ [] 0 hT4.out (by decide)).mono ?_
    rintro e w5 ⟨rfl, v5, hT5'⟩
    have hT5 : Hid (∃ v, TSt W0 w5 M v (TC (l.take 0) ⟨c0, c1, c2, c3, c4⟩)) := ⟨_, by rw [ht0'.out]; simpa using hT5'⟩
    clear hT5'
    go_upto_region 6 with fail
  all_goals
    clear hT4 hB4 ht0'
    go_wp2_with fail
    go_loopw [22] (fun i wr => ∃ k : Nat, k ≤ m ∧ i = .int .i64 k ∧ Hid (∃ v, TSt W0 wr M v (TC (l.take k) ⟨c0, c1, c2, c3, c4⟩))) (fun i _ => m - (intOf i).toNat)
    case atStart => exact ⟨0, by omega, rfl, hT5⟩
    case round =>
      obtain ⟨k, hk, rfl, HT⟩ := hrel
      clear hT5
      by_cases hlt : k < m
      · obtain ⟨b, off, rfl⟩ := h2.out.addr (by omega)
        obtain ⟨v, hT⟩ := HT.out
        have hkl : k < l.length := by rw [hl2.out]; exact hlt
        have hx := chg_at (h2.out.keep (hBW.out wr hT.below)) hlt
        have hst := hts.out k hkl
        rw [← take_snoc hkl] at hst
        have hge := hg.out k hkl
        have hle := htl.out k (by omega)
        have hkn := hne.out (l.getD k default).cell
        have hq := hEq.out (l.getD k default).cell
        generalize l.getD k default = x at *
        obtain ⟨xs, xa, x0, x1, x2, x3, x4⟩ := x
        obtain ⟨q0, q1, q2, q3, q4, q5, q6⟩ := hx
        dsimp only at q0 q1 q2 q3 q4 q5 q6 hkn hst hge hq
        have BR := (BCW.out wr hT.below).alloc (.cells #[.int .i64 xs, .bool xa, .int .i64 x0, .int .i64 x1, .int .i64 x2, .int .i64 x3, .int .i64 x4] 56)
        have BK := Box.new wr #[.int .i64 xs, .bool xa, .int .i64 x0, .int .i64 x1, .int .i64 x2, .int .i64 x3, .int .i64 x4] 56
        have hTa := hT.alloc (.cells #[.int .i64 xs, .bool xa, .int .i64 x0, .int .i64 x1, .int .i64 x2, .int .i64 x3, .int .i64 x4] 56)
        have kb := BR.at_
        have kk := BK.at_
        generalize E ⟨x0, x1, x2, x3, x4⟩ ⟨c0, c1, c2, c3, c4⟩ = Q at *
        generalize hTk : TC (l.take k) ⟨c0, c1, c2, c3, c4⟩ = T at *
        replace hst := Lib.hid hst
        replace hge := Lib.hid hge
        replace hle := Lib.hid hle
        replace hq := Lib.hid hq
        replace hT := Lib.hid hT
        replace hTa := Lib.hid hTa
        replace BR := Lib.hid BR
        replace BK := Lib.hid BK
        replace hTk := Lib.hid hTk
        clear HT
        cases Q with
        | false =>
          have hT2 : Hid (∃ v, TSt W0 (wr.alloc (.cells #[.int .i64 xs, .bool xa, .int .i64 x0, .int .i64 x1, .int .i64 x2, .int .i64 x3, .int .i64 x4] 56)) M v (TC (l.take (k + 1)) ⟨c0, c1, c2, c3, c4⟩)) := ⟨v, by
            have e := hq.out
            rw [eq_comm, decide_eq_false_iff_not] at e
            have := hst.out
            unfold stepT at this
            rw [this, if_neg e]
            exact hTa.out⟩
          go_wp2
          go_roundw
          case rel => exact ⟨k + 1, by omega, by go_num, hT2⟩
          case measure => simp [intOf]; omega
        | true =>
          have e := hq.out
          rw [eq_comm, decide_eq_true_eq] at e
          have hst2 := hst.out
          unfold stepT at hst2
          rw [if_pos e] at hst2
          replace e := Lib.hid e
          cases xa with
          | true =>
            rw [if_pos rfl] at hst2
            replace hst2 := Lib.hid hst2
            go_wp2_with fail
            refine (cB.out _ v T xs hTa.out (by have := hle.out; omega)).mono ?_
            rintro ee w6 ⟨rfl, v6, hT6⟩
            have hT2 : Hid (∃ v, TSt W0 w6 M v (TC (l.take (k + 1)) ⟨c0, c1, c2, c3, c4⟩)) := ⟨v6, by rw [hst2.out]; exact hT6⟩
            clear hT6 kb kk q0 q1 q2 q3 q4 q5 q6
            go_wp2
            go_roundw
            case rel => exact ⟨k + 1, by omega, by go_num, hT2⟩
            case measure => simp [intOf]; omega
          | false =>
            rw [if_neg (by simp)] at hst2
            obtain ⟨u, p, hup⟩ := hge.out e.out rfl
            subst hup
            replace hst2 := Lib.hid hst2
            go_wp2_with fail
            refine (cE.out _ v u p xs hTa.out (by have := hle.out; simp at this; omega)).mono ?_
            rintro ee w6 ⟨rfl, v6, hT6⟩
            have hT2 : Hid (∃ v, TSt W0 w6 M v (TC (l.take (k + 1)) ⟨c0, c1, c2, c3, c4⟩)) := ⟨v6, by rw [hst2.out]; exact hT6⟩
            clear hT6 kb kk q0 q1 q2 q3 q4 q5 q6
            go_wp2
            go_roundw
            case rel => exact ⟨k + 1, by omega, by go_num, hT2⟩
            case measure => simp [intOf]; omega
      · obtain rfl : k = m := by omega
        obtain ⟨v, hT⟩ := HT.out
        rw [← hl2.out, List.take_length] at hT
        have kv := hT.blk.cell 0
        obtain ⟨A', cc, rfl, ho, hb⟩ := hfin.out wr v hT
        replace hT := Lib.hid hT
        replace ho := Lib.hid ho
        replace hb := Lib.hid hb
        go_wp2
        go_ret
        exact ⟨A', cc, rfl, ho.out, hb.out⟩
end Sw
end Go.Proofs.Ytdlgdmbcbenlbaa
namespace Go.Proofs.Ytdlgdmbcbenlbaa
open Go Go.RowKit Go.Sort
namespace Sw
open Mm
def TimPost (r : Int × Int) (t : List (Int × Int)) (w : World) (e : Ending) (w' : World) : Prop :=
  ∃ A c, e = .returned (.tuple #[.slice A t.length c, .int .i64 r.2]) ∧ w'.ownsRow w.heap.size 42 2 (.slice A t.length c) t.length (t.flatMap prE) ∧ Below w.heap.size w w'
/-- the times that Times returns -/
def timesR (L O : Int) (cs : List Cel) (l : List Chg) (c : Cel) : List (Int × Int) := if (chkN L O cs l).2 = 0 then timesC cs l c else []
set_option maxRecDepth 100000 in
set_option maxHeartbeats 4000000 in
theorem Times_any (L O : Int) (A : Option Addr) (n cp : Nat) (cs : List Cel) (B : Option Addr) (m cq : Nat) (l : List Chg) (c : Cel) (w : World) (h1 : CelS w A n cs) (h2 : ChgS w B m l) (ok1 : ∀ c ∈ cs, c.ok) (ok2 : ∀ x ∈ l, x.cell.ok)
    (hg : (chkN L O cs l).2 = 0 → Ends cs l c ∧ m ≤ 1024) :
    Calls Try.prog 15 #[.agg #[.int .i64 L, .int .i64 O, .slice A n cp], .slice B m cq, .agg #[.int .i64 c.slot, .int .i64 c.offset, .int .i64 c.frm, .int .i64 c.to, .int .i64 c.flow]] w (TimPost (chkN L O cs l) (timesR L O cs l c) w) := by
  have hb2 := ballN (ball w (.cells #[.int .i64 L, .int .i64 O, .slice A n cp] 24)) (.cells #[.int .i64 c.slot, .int .i64 c.offset, .int .i64 c.frm, .int .i64 c.to, .int .i64 c.flow] 34)
  have BX := (Box.new w #[.int .i64 L, .int .i64 O, .slice A n cp] 24).alloc (.cells #[.int .i64 c.slot, .int .i64 c.offset, .int .i64 c.frm, .int .i64 c.to, .int .i64 c.flow] 34)
  have BC := Box.new (w.alloc (.cells #[.int .i64 L, .int .i64 O, .slice A n cp] 24)) #[.int .i64 c.slot, .int .i64 c.offset, .int .i64 c.frm, .int .i64 c.to, .int .i64 c.flow] 34
  rw [size1] at BC
  have cK := check_any L O A n cp cs B m cq l _ (h1.keep hb2) (h2.keep hb2) ok1 ok2
  have hT : timesR L O cs l c = if (chkN L O cs l).2 = 0 then timesC cs l c else [] := rfl
  have cT := fun (h0 : (chkN L O cs l).2 = 0) W (k1 : CelS W A n cs) (k2 : ChgS W B m l) => times_any L O A n cp cs B m cq l c W k1 k2 (hg h0).1 (hg h0).2
  generalize timesR L O cs l c = T at *
  generalize timesC cs l c = TC at *
  generalize chkN L O cs l = R at *
  obtain ⟨r1, r2⟩ := R
  obtain ⟨c0, c1, c2, c3, c4⟩ := c
  dsimp only at *
  clear hg
  replace h1 := Lib.hid h1
  replace h2 := Lib.hid h2
  replace ok1 := Lib.hid ok1
  replace ok2 := Lib.hid ok2
  replace hb2 := Lib.hid hb2
  replace BX := Lib.hid BX
  replace BC := Lib.hid BC
  replace cK := Lib.hid cK
  replace hT := Lib.hid hT
  replace cT := Lib.hid cT
  have kx := BX.out.at_
  have kb := BC.out.at_
  go_enter Try.func15, Try.ntmps15
  go_wp2_with fail
  refine cK.out.mono ?_
  rintro e w1 ⟨rfl, hb_⟩
  clear kx kb
  replace hb2 := Lib.hid (hb2.out.keep hb_)
  replace BX := Lib.hid (BX.out.keep hb_)
  replace BC := Lib.hid (BC.out.keep hb_)
  clear hb_
  dsimp only
  by_cases h0 : r2 = 0
  · subst h0
    have hT2 : T = TC := by rw [hT.out, if_pos rfl]
    have cT2 := cT.out rfl w1 (h1.out.keep hb2.out) (h2.out.keep hb2.out)
    subst hT2
    have kx := BX.out.at_
    have kb := BC.out.at_
    clear cT hT
    replace cT2 := Lib.hid cT2
    go_wp2_with fail
    refine cT2.out.mono ?_
    rintro e w2 ⟨A', cc, rfl, ho, hb_⟩
    have hb3 := Lib.hid (bthen hb2.out hb_)
    have ho2 := Lib.hid (own_base ho hb2.out.size)
    clear hb_ ho
    go_wp2
    refine bodyPost_ret (v := .tuple #[.slice A' T.length cc, .int .i64 0]) (by simp [results, Try.results15, go_sem]) rfl ⟨A', cc, rfl, ho2.out, hb3.out⟩
  · have hT2 : T = [] := by rw [hT.out, if_neg h0]
    subst hT2
    have d : (r2 != 0) = true := by rw [bne_iff_ne]; exact h0
    clear cT hT
    replace h0 := Lib.hid h0
    go_wp2
    refine bodyPost_ret (v := .tuple #[.slice none 0 0, .int .i64 r2]) (by simp [results, Try.results15, go_sem]) rfl ⟨none, 0, rfl, World.ownsRow_nil _ _ _ _, hb2.out⟩
def lastN (u : Int) : Int := if u = -1 then 9223372036854775807 else u
theorem last_any (u : Int) (w : World) : Calls Try.prog 49 #[.int .i64 u] w fun e w' => e = .returned (.int .i64 (lastN u)) ∧ w = w' := by
  have hR : lastN u = if u = -1 then 9223372036854775807 else u := rfl
  generalize lastN u = R at *
  by_cases h : u = -1
  · rw [if_pos h] at hR
    have d : (u == -1) = true := by rw [h]; rfl
    replace hR := Lib.hid hR
    replace h := Lib.hid h
    go_enter Try.func49, Try.ntmps49
    go_wp2
    go_ret
    exact ⟨by rw [hR.out]; rfl, rfl⟩
  · rw [if_neg h] at hR
    have d : (u == -1) = false := by rw [beq_eq_false_iff_ne]; exact h
    replace hR := Lib.hid hR
    replace h := Lib.hid h
    go_enter Try.func49, Try.ntmps49
    go_wp2
    go_ret
    exact ⟨by rw [hR.out]; rfl, rfl⟩
def laterN (d : Dut) : Int := if d.extra = true then 1 else 0
theorem later_any (d : Dut) (w : World) : Calls Try.prog 50 #[.agg #[.int .i64 d.cell.slot, .int .i64 d.cell.offset, .int .i64 d.cell.frm, .int .i64 d.cell.to, .int .i64 d.cell.flow, .bool d.sends, .bool d.extra, .int .i64 d.first, .int .i64 d.til]] w fun e w' => e = .returned (.int .i64 (laterN d)) ∧ GW w w' := by
  have hR : laterN d = if d.extra = true then 1 else 0 := rfl
  generalize laterN d = R at *
  obtain ⟨⟨c0, c1, c2, c3, c4⟩, s, x, f, u⟩ := d
  dsimp only at *
  have hG := (GW.refl w).alloc (.cells #[.int .i64 c0, .int .i64 c1, .int .i64 c2, .int .i64 c3, .int .i64 c4, .bool s, .bool x, .int .i64 f, .int .i64 u] 45)
  cases x with
  | true =>
    rw [if_pos rfl] at hR
    replace hR := Lib.hid hR
    replace hG := Lib.hid hG
    go_enter Try.func50, Try.ntmps50
    go_wp2
    go_ret
    exact ⟨by rw [hR.out]; rfl, hG.out⟩
  | false =>
    rw [if_neg (by decide)] at hR
    replace hR := Lib.hid hR
    replace hG := Lib.hid hG
    go_enter Try.func50, Try.ntmps50
    go_wp2
    go_ret
    exact ⟨by rw [hR.out]; rfl, hG.out⟩
end Sw
end Go.Proofs.Ytdlgdmbcbenlbaa
