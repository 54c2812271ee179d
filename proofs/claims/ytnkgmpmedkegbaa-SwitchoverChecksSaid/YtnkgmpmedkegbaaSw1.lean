/- Chapter 52, plain: cells, changes, duties; the times of a cell. -/
import Derived.WalkKit
namespace Go.Proofs.Ytnkgmpmedkegbaa
namespace Sw
structure Cel where
  slot : Int
  offset : Int
  frm : Int
  to : Int
  flow : Int
  deriving DecidableEq, Inhabited
structure Chg where
  slot : Int
  add : Bool
  cell : Cel
  deriving DecidableEq, Inhabited
structure Dut where
  cell : Cel
  sends : Bool
  extra : Bool
  first : Int
  til : Int
  deriving DecidableEq, Inhabited
structure Sch where
  length : Int
  offsets : Int
  cells : List Cel
  deriving DecidableEq, Inhabited
/-- the times contain a slot -/
def InT (t : List (Int × Int)) (x : Int) : Prop := ∃ p ∈ t, p.1 ≤ x ∧ (p.2 = -1 ∨ x < p.2)
structure Canon (t : List (Int × Int)) : Prop where
  each : ∀ p ∈ t, 0 ≤ p.1 ∧ (p.2 = -1 ∨ p.1 < p.2)
  apart : t.Pairwise fun p q => p.2 ≠ -1 ∧ p.2 < q.1
theorem Canon.tail {p : Int × Int} {t : List (Int × Int)} (h : Canon (p :: t)) : Canon t := ⟨fun q hq => h.each q (List.mem_cons_of_mem _ hq), (List.pairwise_cons.1 h.apart).2⟩
theorem Canon.first_le {p : Int × Int} {t : List (Int × Int)} (h : Canon (p :: t)) {q : Int × Int} (hq : q ∈ p :: t) : p.1 ≤ q.1 := by
  rcases List.mem_cons.1 hq with rfl | hq
  · exact Int.le_refl _
  · have h1 := (List.pairwise_cons.1 h.apart).1 q hq
    have h2 := h.each p (List.mem_cons_self ..)
    omega
theorem InT_cons {p : Int × Int} {t : List (Int × Int)} {x : Int} : InT (p :: t) x ↔ (p.1 ≤ x ∧ (p.2 = -1 ∨ x < p.2)) ∨ InT t x := by
  unfold InT
  simp [List.mem_cons]
theorem Canon.head_in {p : Int × Int} {t : List (Int × Int)} (h : Canon (p :: t)) : InT (p :: t) p.1 := by
  have := h.each p (List.mem_cons_self ..)
  exact ⟨p, List.mem_cons_self .., Int.le_refl _, by omega⟩
theorem Canon.gap {p : Int × Int} {t : List (Int × Int)} (h : Canon (p :: t)) (hp : p.2 ≠ -1) : ¬ InT (p :: t) p.2 := by
  rintro ⟨q, hq, h1, h2⟩
  rcases List.mem_cons.1 hq with rfl | hq
  · omega
  · have := (List.pairwise_cons.1 h.apart).1 q hq; omega
/-- one set of slots has one list of times -/
theorem Canon.unique : ∀ {t u : List (Int × Int)}, Canon t → Canon u → (∀ x, 0 ≤ x → (InT t x ↔ InT u x)) → t = u
  | [], [], _, _, _ => rfl
  | [], q :: u, _, hu, h => by
    have h1 := (h q.1 (hu.each q (List.mem_cons_self ..)).1).2 hu.head_in
    obtain ⟨_, h2, _⟩ := h1
    cases h2
  | p :: t, [], ht, _, h => by
    have h1 := (h p.1 (ht.each p (List.mem_cons_self ..)).1).1 ht.head_in
    obtain ⟨_, h2, _⟩ := h1
    cases h2
  | p :: t, q :: u, ht, hu, h => by
    have hp := ht.each p (List.mem_cons_self ..)
    have hq := hu.each q (List.mem_cons_self ..)
    have e1 : p.1 = q.1 := by
      obtain ⟨r, hr, h1, _⟩ := (h p.1 hp.1).1 ht.head_in
      obtain ⟨r', hr', h1', _⟩ := (h q.1 hq.1).2 hu.head_in
      have := ht.first_le hr'
      have := hu.first_le hr
      omega
    have e2 : p.2 = q.2 := by
      by_cases a : p.2 = -1
      · by_cases b : q.2 = -1
        · rw [a, b]
        · exact absurd ((h q.2 (by omega)).1 ⟨p, List.mem_cons_self .., by omega, .inl a⟩) (hu.gap b)
      · by_cases b : q.2 = -1
        · exact absurd ((h p.2 (by omega)).2 ⟨q, List.mem_cons_self .., by omega, .inl b⟩) (ht.gap a)
        · rcases Int.lt_trichotomy p.2 q.2 with c | c | c
          · exact absurd ((h p.2 (by omega)).2 ⟨q, List.mem_cons_self .., by omega, .inr c⟩) (ht.gap a)
          · exact c
          · exact absurd ((h q.2 (by omega)).1 ⟨p, List.mem_cons_self .., by omega, .inr c⟩) (hu.gap b)
    have e : p = q := Prod.ext e1 e2
    subst e
    congr 1
    refine Canon.unique ht.tail hu.tail fun x hx => ?_
    have h3 := h x hx
    rw [InT_cons, InT_cons] at h3
    constructor
    · intro hi
      rcases h3.1 (.inr hi) with h4 | h4
      · obtain ⟨r, hr, h5, h6⟩ := hi
        have := (List.pairwise_cons.1 ht.apart).1 r hr
        omega
      · exact h4
    · intro hi
      rcases h3.2 (.inr hi) with h4 | h4
      · obtain ⟨r, hr, h5, h6⟩ := hi
        have := (List.pairwise_cons.1 hu.apart).1 r hr
        omega
      · exact h4
/-- opens a time, or goes on with the last one -/
def begT (t : List (Int × Int)) (s : Int) : List (Int × Int) :=
  match t.getLast? with
  | none => [(s, -1)]
  | some p => if p.2 = s then t.dropLast ++ [(p.1, -1)] else t ++ [(s, -1)]
/-- closes the last time -/
def endT (t : List (Int × Int)) (s : Int) : List (Int × Int) :=
  match t.getLast? with
  | none => []
  | some p => if p.1 = s then t.dropLast else t.dropLast ++ [(p.1, s)]
theorem begT_nil (s : Int) : begT [] s = [(s, -1)] := rfl
theorem begT_snoc (t : List (Int × Int)) (p : Int × Int) (s : Int) : begT (t ++ [p]) s = if p.2 = s then t ++ [(p.1, -1)] else t ++ [p] ++ [(s, -1)] := by
  unfold begT; rw [List.getLast?_concat, List.dropLast_concat]
theorem endT_snoc (t : List (Int × Int)) (p : Int × Int) (s : Int) : endT (t ++ [p]) s = if p.1 = s then t else t ++ [(p.1, s)] := by
  unfold endT; rw [List.getLast?_concat, List.dropLast_concat]
theorem snoc_cases {α : Type} (t : List α) : t = [] ∨ ∃ u p, t = u ++ [p] := by
  rcases List.eq_nil_or_concat t with h | ⟨u, p, h⟩
  · exact .inl h
  · exact .inr ⟨u, p, by rw [h, List.concat_eq_append]⟩
/-- the times say just what f says, end at s, and f stays as it is from there on -/
structure Inv (t : List (Int × Int)) (f : Int → Bool) (s : Int) (b : Bool) : Prop where
  canon : Canon t
  cov : ∀ x, 0 ≤ x → (InT t x ↔ f x = true)
  le : ∀ p ∈ t, p.1 ≤ s ∧ p.2 ≤ s
  const : ∀ x, s ≤ x → f x = b
  pos : 0 ≤ s
theorem InT_app {t u : List (Int × Int)} {x : Int} : InT (t ++ u) x ↔ InT t x ∨ InT u x := by
  unfold InT
  constructor
  · rintro ⟨p, hp, h⟩
    rcases List.mem_append.1 hp with hp | hp
    · exact .inl ⟨p, hp, h⟩
    · exact .inr ⟨p, hp, h⟩
  · rintro (⟨p, hp, h⟩ | ⟨p, hp, h⟩)
    · exact ⟨p, List.mem_append_left _ hp, h⟩
    · exact ⟨p, List.mem_append_right _ hp, h⟩
theorem InT_one {p : Int × Int} {x : Int} : InT [p] x ↔ p.1 ≤ x ∧ (p.2 = -1 ∨ x < p.2) := by unfold InT; simp
theorem Canon.snoc {t : List (Int × Int)} {p : Int × Int} : Canon (t ++ [p]) ↔ Canon t ∧ (0 ≤ p.1 ∧ (p.2 = -1 ∨ p.1 < p.2)) ∧ ∀ q ∈ t, q.2 ≠ -1 ∧ q.2 < p.1 := by
  constructor
  · intro h
    have ha := List.pairwise_append.1 h.apart
    exact ⟨⟨fun q hq => h.each q (List.mem_append_left _ hq), ha.1⟩, h.each p (by simp), fun q hq => ha.2.2 q hq p (by simp)⟩
  · rintro ⟨h, hp, hq⟩
    refine ⟨fun q h1 => ?_, List.pairwise_append.2 ⟨h.apart, List.pairwise_singleton _ _, fun q h1 r h2 => ?_⟩⟩
    · rcases List.mem_append.1 h1 with h1 | h1
      · exact h.each q h1
      · rw [List.mem_singleton] at h1; subst h1; exact hp
    · rw [List.mem_singleton] at h2; subst h2; exact hq q h1
/-- a closed list below s does not contain s -/
theorem Inv.closed {t : List (Int × Int)} {f : Int → Bool} {s : Int} (h : Inv t f s false) : ∀ p ∈ t, p.2 ≠ -1 := by
  intro p hp e
  have h1 := h.const s (Int.le_refl _)
  have h2 := (h.cov s h.pos).1 ⟨p, hp, (h.le p hp).1, .inl e⟩
  rw [h1] at h2; cases h2
theorem Inv.open_ {t : List (Int × Int)} {f : Int → Bool} {s : Int} (h : Inv t f s true) : ∃ u p, t = u ++ [p] ∧ p.2 = -1 := by
  obtain ⟨p, hp, h1, h2⟩ := (h.cov s h.pos).2 (h.const s (Int.le_refl _))
  have hl := (h.le p hp).2
  have e : p.2 = -1 := by omega
  rcases snoc_cases t with rfl | ⟨u, q, rfl⟩
  · cases hp
  · refine ⟨u, q, rfl, ?_⟩
    rcases List.mem_append.1 hp with hp | hp
    · exact absurd e ((Canon.snoc.1 h.canon).2.2 p hp).1
    · rw [List.mem_singleton] at hp; subst hp; exact e
/-- f, and b from s on -/
def upd (f : Int → Bool) (s : Int) (b : Bool) (x : Int) : Bool := if s ≤ x then b else f x
theorem Inv.later {t : List (Int × Int)} {f : Int → Bool} {s s' : Int} {b : Bool} (h : Inv t f s b) (hs : s ≤ s') : Inv t f s' b :=
  ⟨h.canon, h.cov, fun p hp => by have := h.le p hp; omega, fun x hx => h.const x (by omega), by have := h.pos; omega⟩
theorem Inv.congr {t : List (Int × Int)} {f g : Int → Bool} {s : Int} {b : Bool} (h : Inv t f s b) (hg : ∀ x, 0 ≤ x → g x = f x) : Inv t g s b :=
  ⟨h.canon, fun x hx => by rw [hg x hx]; exact h.cov x hx, h.le, fun x hx => by rw [hg x (by have := h.pos; omega)]; exact h.const x hx, h.pos⟩
theorem Inv.start (b : Bool) : Inv (if b = true then begT [] 0 else []) (fun _ => b) 0 b := by
  cases b
  · exact ⟨⟨fun p hp => (by cases hp), List.Pairwise.nil⟩, fun x _ => by simp [InT], fun p hp => (by cases hp), fun _ _ => rfl, Int.le_refl _⟩
  · refine ⟨⟨fun p hp => ?_, List.pairwise_singleton _ _⟩, fun x hx => ?_, fun p hp => ?_, fun _ _ => rfl, Int.le_refl _⟩
    · rw [if_pos rfl, begT_nil, List.mem_singleton] at hp; subst hp; exact ⟨Int.le_refl _, .inl rfl⟩
    · rw [if_pos rfl, begT_nil, InT_one]; simp [hx]
    · rw [if_pos rfl, begT_nil, List.mem_singleton] at hp; subst hp; exact ⟨Int.le_refl _, by decide⟩
theorem Inv.begin_ {t : List (Int × Int)} {f : Int → Bool} {s s' : Int} (h : Inv t f s false) (hs : s ≤ s') : Inv (begT t s') (upd f s' true) s' true := by
  have hcl := h.closed
  have hpos := h.pos
  have hf : ∀ x, s ≤ x → f x = false := h.const
  rcases snoc_cases t with rfl | ⟨u, p, rfl⟩
  · rw [begT_nil]
    refine ⟨⟨fun p hp => ?_, List.pairwise_singleton _ _⟩, fun x hx => ?_, fun p hp => ?_, fun x hx => if_pos hx, by omega⟩
    · rw [List.mem_singleton] at hp; subst hp; exact ⟨by dsimp only; omega, .inl rfl⟩
    · rw [InT_one]
      unfold upd
      by_cases h1 : s' ≤ x
      · simp [h1]
      · have h2 := h.cov x hx
        have : ¬ InT [] x := fun ⟨_, h, _⟩ => by cases h
        rw [if_neg h1]
        constructor
        · rintro ⟨h3, _⟩; exact absurd h3 h1
        · intro h3; exact absurd (h2.2 h3) this
    · rw [List.mem_singleton] at hp; subst hp; exact ⟨Int.le_refl _, by dsimp only; omega⟩
  · rw [begT_snoc]
    have hc := Canon.snoc.1 h.canon
    have hp1 := hcl p (by simp)
    have hpl := h.le p (by simp)
    by_cases he : p.2 = s'
    · rw [if_pos he]
      refine ⟨Canon.snoc.2 ⟨hc.1, ⟨hc.2.1.1, .inl rfl⟩, hc.2.2⟩, fun x hx => ?_, fun q hq => ?_, fun x hx => if_pos hx, by omega⟩
      · have h2 := h.cov x hx
        rw [InT_app, InT_one] at h2 ⊢
        unfold upd
        dsimp only
        by_cases h1 : s' ≤ x
        · rw [if_pos h1]
          simp only [iff_true]
          exact .inr ⟨by omega, .inl (by simp)⟩
        · rw [if_neg h1, ← h2]
          constructor
          · rintro (h3 | h3)
            · exact .inl h3
            · exact .inr ⟨h3.1, .inr (by omega)⟩
          · rintro (h3 | h3)
            · exact .inl h3
            · exact .inr ⟨h3.1, .inl rfl⟩
      · rcases List.mem_append.1 hq with hq | hq
        · have := h.le q (List.mem_append_left _ hq); omega
        · rw [List.mem_singleton] at hq; subst hq; exact ⟨by dsimp only; omega, by dsimp only; omega⟩
    · rw [if_neg he]
      refine ⟨Canon.snoc.2 ⟨h.canon, ⟨by dsimp only; omega, .inl rfl⟩, fun q hq => ?_⟩, fun x hx => ?_, fun q hq => ?_, fun x hx => if_pos hx, by omega⟩
      · have h1 := hcl q hq
        have h2 := h.le q hq
        refine ⟨h1, ?_⟩
        dsimp only
        rcases List.mem_append.1 hq with hq | hq
        · have := hc.2.2 q hq; omega
        · rw [List.mem_singleton] at hq; subst hq; omega
      · have h2 := h.cov x hx
        rw [InT_app, InT_one]
        unfold upd
        dsimp only
        by_cases h1 : s' ≤ x
        · rw [if_pos h1]
          simp only [iff_true]
          exact .inr ⟨h1, .inl (by simp)⟩
        · rw [if_neg h1, h2]
          constructor
          · rintro (h3 | h3)
            · exact h3
            · exact absurd h3.1 h1
          · intro h3; exact .inl h3
      · rcases List.mem_append.1 hq with hq | hq
        · have := h.le q hq; omega
        · rw [List.mem_singleton] at hq; subst hq; exact ⟨Int.le_refl _, by dsimp only; omega⟩
theorem Inv.end_ {t : List (Int × Int)} {f : Int → Bool} {s s' : Int} (h : Inv t f s true) (hs : s ≤ s') : Inv (endT t s') (upd f s' false) s' false := by
  obtain ⟨u, p, rfl, hp⟩ := h.open_
  have hpos := h.pos
  have hc := Canon.snoc.1 h.canon
  have hpl := h.le p (by simp)
  have hnot : ∀ x, s' ≤ x → ¬ InT u x := fun x hx ⟨q, hq, h1, h2⟩ => by
    have := hc.2.2 q hq
    omega
  rw [endT_snoc]
  by_cases he : p.1 = s'
  · rw [if_pos he]
    refine ⟨hc.1, fun x hx => ?_, fun q hq => by have := h.le q (List.mem_append_left _ hq); omega, fun x hx => if_pos hx, by omega⟩
    have h2 := h.cov x hx
    rw [InT_app, InT_one] at h2
    unfold upd
    by_cases h1 : s' ≤ x
    · rw [if_pos h1]
      simp only [Bool.false_eq_true, iff_false]
      exact hnot x h1
    · rw [if_neg h1, ← h2]
      constructor
      · exact .inl
      · rintro (h3 | h3)
        · exact h3
        · omega
  · rw [if_neg he]
    refine ⟨Canon.snoc.2 ⟨hc.1, ⟨hc.2.1.1, .inr (by dsimp only; omega)⟩, hc.2.2⟩, fun x hx => ?_, fun q hq => ?_, fun x hx => if_pos hx, by omega⟩
    · have h2 := h.cov x hx
      rw [InT_app, InT_one] at h2 ⊢
      unfold upd
      dsimp only
      by_cases h1 : s' ≤ x
      · rw [if_pos h1]
        simp only [Bool.false_eq_true, iff_false]
        rintro (h3 | h3)
        · exact hnot x h1 h3
        · omega
      · rw [if_neg h1, ← h2]
        constructor
        · rintro (h3 | h3)
          · exact .inl h3
          · exact .inr ⟨h3.1, .inl hp⟩
        · rintro (h3 | h3)
          · exact .inl h3
          · exact .inr ⟨h3.1, .inr (by omega)⟩
    · rcases List.mem_append.1 hq with hq | hq
      · have := h.le q (List.mem_append_left _ hq); omega
      · rw [List.mem_singleton] at hq; subst hq; exact ⟨by dsimp only; omega, Int.le_refl _⟩
end Sw
end Go.Proofs.Ytnkgmpmedkegbaa
