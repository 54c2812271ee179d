/- Plain: the order of duties; bounds of times. -/
import Derived.Test.YtnkgmpmedkegbaaSw23
import Derived.Test.YtnkgmpmedkegbaaLb4
import Derived.Test.YtnkgmpmedkegbaaSt9
namespace Go.Proofs.Ytnkgmpmedkegbaa
open Go Go.RowKit Go.Sort
namespace Sw
theorem swo_lex {α : Type} {l1 l2 : α → α → Bool} (h1 : SWO l1) (h2 : SWO l2) : SWO (fun x y => l1 x y || (!l1 y x && l2 x y)) where
  irrefl x := by simp [h1.irrefl, h2.irrefl]
  trans x y z a b := by
    simp only [Bool.or_eq_true, Bool.and_eq_true, Bool.not_eq_true'] at *
    rcases a with a | ⟨a1, a2⟩
    · rcases b with b | ⟨b1, b2⟩
      · exact .inl (h1.trans x y z a b)
      · left
        cases c : l1 x z with
        | true => rfl
        | false => have := h1.ntrans x z y c b1; rw [a] at this; cases this
    · rcases b with b | ⟨b1, b2⟩
      · left
        cases c : l1 x z with
        | true => rfl
        | false => have := h1.ntrans y x z a1 c; rw [b] at this; cases this
      · exact .inr ⟨h1.ntrans z y x b1 a1, h2.trans x y z a2 b2⟩
  ntrans x y z a b := by
    rw [Bool.or_eq_false_iff, Bool.and_eq_false_iff, Bool.not_eq_false'] at *
    obtain ⟨a1, a2⟩ := a
    obtain ⟨b1, b2⟩ := b
    refine ⟨h1.ntrans x y z a1 b1, ?_⟩
    rcases a2 with a2 | a2
    · left
      cases c : l1 z x with
      | true => rfl
      | false => have := h1.ntrans y z x b1 c; rw [a2] at this; cases this
    · rcases b2 with b2 | b2
      · left
        cases c : l1 z x with
        | true => rfl
        | false => have := h1.ntrans z x y c a1; rw [b2] at this; cases this
      · exact .inr (h2.ntrans x y z a2 b2)
theorem swo_int {α : Type} (f : α → Int) : SWO (fun x y => decide (f x < f y)) where
  irrefl x := by simp
  trans x y z a b := by simp at *; omega
  ntrans x y z a b := by simp at *; omega
theorem swo_map {α β : Type} {lt : β → β → Bool} (h : SWO lt) (f : α → β) : SWO (fun x y => lt (f x) (f y)) := ⟨fun _ => h.irrefl _, fun _ _ _ => h.trans _ _ _, fun _ _ _ => h.ntrans _ _ _⟩
theorem cmpI_neg (x y : Int) : (x < y ∧ cmpI x y = -1) ∨ (y < x ∧ cmpI x y = 1) ∨ (x = y ∧ cmpI x y = 0) := cmpI_lt x y
def ltD (x y : Dut) : Bool := ltOf cmpC x.cell y.cell || (!ltOf cmpC y.cell x.cell && (decide (x.first < y.first) || (!decide (y.first < x.first) && (decide (lastN x.til < lastN y.til) || (!decide (lastN y.til < lastN x.til) && decide (laterN x < laterN y))))))
theorem ltD_eq (x y : Dut) : ltOf cmpD x y = ltD x y := by
  unfold ltD
  have e : ltOf cmpD x y = decide (fst0 [cmpC x.cell y.cell, cmpI x.first y.first, cmpI (lastN x.til) (lastN y.til), laterN x - laterN y] < 0) := rfl
  rw [e]
  have c1 := ltOC x.cell y.cell
  have c2 := ltOC y.cell x.cell
  generalize ltOf cmpC x.cell y.cell = b1 at *
  generalize ltOf cmpC y.cell x.cell = b2 at *
  rcases cmpC_cases x.cell y.cell with ⟨h, e⟩ | ⟨h, e⟩ | ⟨h, e⟩
  · rw [c1.2 h, e]; rfl
  · have hb : b1 = false := by
      cases hb : b1 with
      | false => rfl
      | true => exact absurd (ltC_trans (c1.1 hb) h) (ltC_irrefl _)
    rw [c2.2 h, hb, e]; rfl
  · have hb1 : b1 = false := by
      cases hb : b1 with
      | false => rfl
      | true => exact absurd (h ▸ c1.1 hb) (ltC_irrefl _)
    have hb2 : b2 = false := by
      cases hb : b2 with
      | false => rfl
      | true => exact absurd (h ▸ c2.1 hb) (ltC_irrefl _)
    rw [hb1, hb2, e]
    rcases cmpI_lt x.first y.first with ⟨h, e⟩ | ⟨h, e⟩ | ⟨h, e⟩
    · rw [e]; simp [fst0, h]
    · rw [e]
      have : ¬ x.first < y.first := by omega
      simp [fst0, h, this]
    · rw [e]
      rcases cmpI_lt (lastN x.til) (lastN y.til) with ⟨h2, e2⟩ | ⟨h2, e2⟩ | ⟨h2, e2⟩
      · rw [e2]; simp [fst0, h, h2]
      · rw [e2]
        have : ¬ lastN x.til < lastN y.til := by omega
        simp [fst0, h, h2, this]
      · rw [e2]
        rw [h, h2]
        generalize laterN x = p
        generalize laterN y = q
        by_cases c : p - q = 0
        · simp [fst0, c]; omega
        · simp [fst0, c]; omega
theorem swoD : SWO (ltOf cmpD) := by
  have e : ltOf cmpD = ltD := by funext x y; exact ltD_eq x y
  rw [e]
  exact swo_lex (swo_map swoC (fun d : Dut => d.cell)) (swo_lex (swo_int (fun d : Dut => d.first)) (swo_lex (swo_int (fun d : Dut => lastN d.til)) (swo_int laterN)))
theorem keyD {x y : Dut} (h1 : ltOf cmpD x y = false) (h2 : ltOf cmpD y x = false) : x.cell = y.cell ∧ x.first = y.first ∧ lastN x.til = lastN y.til ∧ x.extra = y.extra := by
  rw [ltD_eq] at h1 h2
  unfold ltD at h1 h2
  rw [Bool.or_eq_false_iff] at h1 h2
  have hc := totC x.cell y.cell h1.1 h2.1
  have e1 := h1.2
  have e2 := h2.2
  rw [h2.1, Bool.not_false, Bool.true_and, Bool.or_eq_false_iff] at e1
  rw [h1.1, Bool.not_false, Bool.true_and, Bool.or_eq_false_iff] at e2
  have hf : x.first = y.first := by have := e1.1; have := e2.1; simp at *; omega
  have f1 := e1.2
  have f2 := e2.2
  rw [e2.1, Bool.not_false, Bool.true_and, Bool.or_eq_false_iff] at f1
  rw [e1.1, Bool.not_false, Bool.true_and, Bool.or_eq_false_iff] at f2
  have hl : lastN x.til = lastN y.til := by have := f1.1; have := f2.1; simp at *; omega
  have g1 := f1.2
  have g2 := f2.2
  rw [f2.1, Bool.not_false, Bool.true_and] at g1
  rw [f1.1, Bool.not_false, Bool.true_and] at g2
  refine ⟨hc, hf, hl, ?_⟩
  unfold laterN at g1 g2
  cases hx : x.extra <;> cases hy : y.extra <;> simp [hx, hy] at *
def cfT (x y : Dut) : Int := turnN x - turnN y
theorem swoT : SWO (ltOf cfT) := by
  have e : ltOf cfT = fun x y => decide (turnN x < turnN y) := by
    funext x y
    unfold ltOf cfT
    rw [decide_eq_decide]; omega
  rw [e]
  exact swo_int turnN
theorem Right.inv {L O : Int} {cs : List Cel} {l : List Chg} (h : Right L O cs l) (c : Cel) : Inv (timesC cs l c) (forceN cs l c) (curS l l.length) (thereN cs l c) := by
  have := timesC_inv (h.okL c) l.length (Nat.le_refl _)
  rwa [List.take_length] at this
theorem Right.cur {L O : Int} {cs : List Cel} {l : List Chg} (h : Right L O cs l) : 0 ≤ curS l l.length ∧ curS l l.length ≤ 4096 := by
  unfold curS
  split
  · omega
  · exact (fault_zero (h.fault (l.length - 1) (by omega))).1
theorem Right.bd {L O : Int} {cs : List Cel} {l : List Chg} (h : Right L O cs l) {c : Cel} {p : Int × Int} (hp : p ∈ timesC cs l c) : 0 ≤ p.1 ∧ p.1 ≤ 4096 ∧ -1 ≤ p.2 ∧ p.2 ≤ 4096 ∧ (p.2 = -1 ∨ p.1 < p.2) := by
  have hi := h.inv c
  have h1 := hi.canon.each p hp
  have h2 := hi.le p hp
  have h3 := h.cur
  omega
theorem Right.len {L O : Int} {cs : List Cel} {l : List Chg} (h : Right L O cs l) : 1 ≤ L ∧ L ≤ 512 ∧ 1 ≤ O ∧ O ≤ 16 ∧ cs.length ≤ 512 := by
  have := h.formed
  unfold formedB headB at this
  simp only [Bool.and_eq_true, decide_eq_true_eq] at this
  omega
/-- a node's duties for a cell -/
def cellD (L : Int) (cs : List Cel) (l : List Chg) (node : Int) (c : Cel) : List Dut := if c.frm ≠ node ∧ c.to ≠ node then [] else (timesC cs l c).flatMap (dutiesC c node L)
def cellsC (cs : List Cel) (l : List Chg) : List Cel := cpL (sortC (cs ++ l.map fun x => x.cell))
def allD (L : Int) (cs : List Cel) (l : List Chg) (node : Int) : List Dut := (cellsC cs l).flatMap (cellD L cs l node)
theorem dutiesC_len (c : Cel) (node L : Int) (t : Int × Int) : (dutiesC c node L t).length ≤ 3 := by
  unfold dutiesC dut1 dut2
  split
  · simp
  · split <;> split <;> simp
theorem flatMap_len {α β : Type} (f : α → List β) (N : Nat) (h : ∀ x, (f x).length ≤ N) (xs : List α) : (xs.flatMap f).length ≤ xs.length * N := by
  induction xs with
  | nil => simp
  | cons x xs ih =>
    rw [List.flatMap_cons, List.length_append, List.length_cons, Nat.add_mul]
    have := h x
    omega
theorem cellD_len (L : Int) (cs : List Cel) (l : List Chg) (node : Int) (hl : l.length ≤ 1024) (c : Cel) : (cellD L cs l node c).length ≤ 3075 := by
  unfold cellD
  split
  · simp
  · have h1 := flatMap_len (dutiesC c node L) 3 (dutiesC_len c node L) (timesC cs l c)
    have h2 := timesC_len cs c l.length l rfl
    omega
theorem cpL_len {α : Type} [DecidableEq α] [Inhabited α] (xs : List α) : (cpL xs).length ≤ xs.length := by
  unfold cpL cpU
  rw [List.length_map]
  exact Nat.le_trans (List.length_filter_le _ _) (by simp)
end Sw
end Go.Proofs.Ytnkgmpmedkegbaa
