/- Plain: the reference's duties. -/
import Derived.Test.YtdlgdmbcbenlbaaKj
set_option linter.unusedVariables false
set_option linter.unusedSimpArgs false
namespace Go.Proofs.Ytdlgdmbcbenlbaa
open Go Go.RowKit Go.Sort
namespace Sw
def insBy {α : Type} (p : α → Bool) (l : List α) (d : α) : List α := l.takeWhile p ++ d :: l.dropWhile p
theorem insBy_nil {α : Type} (p : α → Bool) (d : α) : insBy p [] d = [d] := rfl
theorem insBy_true {α : Type} {p : α → Bool} {x : α} (h : p x = true) (l : List α) (d : α) : insBy p (x :: l) d = x :: insBy p l d := by unfold insBy; rw [List.takeWhile_cons_of_pos h, List.dropWhile_cons_of_pos h]; rfl
theorem insBy_false {α : Type} {p : α → Bool} {x : α} (h : p x = false) (l : List α) (d : α) : insBy p (x :: l) d = d :: x :: l := by
  unfold insBy; rw [List.takeWhile_cons_of_neg (by simp [h]), List.dropWhile_cons_of_neg (by simp [h])]; rfl
theorem insBy_perm {α : Type} (p : α → Bool) (d : α) : ∀ l : List α, (insBy p l d).Perm (d :: l)
  | [] => List.Perm.refl _
  | x :: l => by
    cases h : p x with
    | true => rw [insBy_true h]; exact ((insBy_perm p d l).cons x).trans (List.Perm.swap _ _ _)
    | false => rw [insBy_false h]
theorem insBy_sorted {α : Type} {R : α → α → Prop} (ht : ∀ {a b c : α}, R a b → R b c → R a c) {p : α → Bool} {d : α} : ∀ {l : List α}, l.Pairwise R → (∀ x ∈ l, p x = true → R x d) → (∀ x ∈ l, p x = false → R d x) → (insBy p l d).Pairwise R
  | [], _, _, _ => by rw [insBy_nil]; exact List.pairwise_singleton _ _
  | x :: l, hp, h1, h2 => by
    rw [List.pairwise_cons] at hp
    cases h : p x with
    | true =>
      rw [insBy_true h, List.pairwise_cons]
      refine ⟨fun y hy => ?_, insBy_sorted (R := R) ht hp.2 (fun y hy => h1 y (List.mem_cons_of_mem _ hy)) (fun y hy => h2 y (List.mem_cons_of_mem _ hy))⟩
      rcases List.mem_cons.1 ((insBy_perm p d l).mem_iff.1 hy) with rfl | hy
      · exact h1 x (List.mem_cons_self ..) h
      · exact hp.1 y hy
    | false =>
      have hx := h2 x (List.mem_cons_self ..) h
      rw [insBy_false h, List.pairwise_cons]
      refine ⟨fun y hy => ?_, List.pairwise_cons.2 hp⟩
      rcases List.mem_cons.1 hy with rfl | hy
      · exact hx
      · exact ht hx (hp.1 y hy)
theorem cut_at {α : Type} [Inhabited α] {p : α → Bool} : ∀ {l : List α} {i : Nat}, i ≤ l.length → (∀ j, j < i → p (l.getD j default) = true) → (i = l.length ∨ p (l.getD i default) = false) → ∀ d, insBy p l d = l.take i ++ d :: l.drop i
  | [], i, hi, _, _ => fun d => by simp [insBy]
  | x :: l, 0, _, _, h => fun d => by
    have h : p x = false := by
      rcases h with h | h
      · simp at h
      · simpa using h
    rw [insBy_false h]; rfl
  | x :: l, i + 1, hi, h1, h => fun d => by
    have hx : p x = true := by simpa using h1 0 (by omega)
    rw [insBy_true hx, cut_at (l := l) (i := i) (by simpa using hi) (fun j hj => by simpa using h1 (j + 1) (by omega)) (by simpa using h)]
    rfl
-- the cells
def lessB (c x : Cel) : Bool := decide (cmpC x c < 0)
def stepRC (out : List Cel) (c : Cel) : List Cel := if c ∈ out then out else insBy (lessB c) out c
def rcells (cs : List Cel) (l : List Chg) : List Cel := l.foldl (fun o x => stepRC o x.cell) cs
theorem stepRC_ok {out : List Cel} (h : out.Pairwise ltC) (c : Cel) : (stepRC out c).Pairwise ltC ∧ (∀ x, x ∈ stepRC out c ↔ x ∈ out ∨ x = c) ∧ (stepRC out c).length ≤ out.length + 1 := by
  unfold stepRC
  by_cases hc : c ∈ out
  · rw [if_pos hc]
    exact ⟨h, fun x => ⟨.inl, fun k => k.elim id (fun e => e ▸ hc)⟩, by omega⟩
  · rw [if_neg hc]
    refine ⟨insBy_sorted (R := ltC) ltC_trans h (fun x _ hp => ?_) (fun x hx hp => ?_), fun x => ?_, by rw [(insBy_perm _ _ _).length_eq, List.length_cons]; omega⟩
    · unfold lessB at hp
      rw [decide_eq_true_eq, cmpC_lt] at hp
      exact hp
    · unfold lessB at hp
      rw [decide_eq_false_iff_not, cmpC_lt] at hp
      rcases cmpC_cases x c with ⟨a, _⟩ | ⟨a, _⟩ | ⟨a, _⟩
      · exact absurd a hp
      · exact a
      · exact absurd (a ▸ hx) hc
    · rw [(insBy_perm _ _ _).mem_iff, List.mem_cons]
      exact Or.comm
theorem rcells_ok (l : List Chg) : ∀ {cs : List Cel}, cs.Pairwise ltC → (rcells cs l).Pairwise ltC ∧ (∀ x, x ∈ rcells cs l ↔ x ∈ cs ++ l.map (fun x => x.cell)) ∧ (rcells cs l).length ≤ cs.length + l.length := by
  unfold rcells
  induction l with
  | nil => intro cs h; exact ⟨h, by simp, by simp⟩
  | cons ch l ih =>
    intro cs h
    obtain ⟨h1, h2, h3⟩ := stepRC_ok h ch.cell
    obtain ⟨i1, i2, i3⟩ := ih h1
    refine ⟨i1, fun x => ?_, by rw [List.foldl_cons, List.length_cons]; omega⟩
    rw [List.foldl_cons, i2, List.mem_append, h2, List.mem_append, List.map_cons, List.mem_cons]
    constructor
    · rintro ((a | a) | a)
      · exact .inl a
      · exact .inr (.inl a)
      · exact .inr (.inr a)
    · rintro (a | a | a)
      · exact .inl (.inl a)
      · exact .inl (.inr a)
      · exact .inr a
theorem rcells_eq {L O : Int} {cs : List Cel} {l : List Chg} (h : Right L O cs l) : rcells cs l = cellsC cs l := by
  obtain ⟨h1, h2, _⟩ := rcells_ok l (formed_lt h.formed)
  have h3 := cellsC_lt cs l
  refine List.Perm.eq_of_pairwise (fun a b _ _ k1 k2 => absurd (ltC_trans k1 k2) (ltC_irrefl _)) h1 h3 ?_
  rw [List.perm_ext_iff_of_nodup (nodup_lt h1) (nodup_lt h3)]
  intro x
  rw [h2, cellsC_mem]
-- the duties of a cell
def befB (a b : Dut) : Bool := if a.first ≠ b.first then decide (a.first < b.first) else if a.til ≠ b.til then (decide (b.til = -1) || (!decide (a.til = -1) && decide (a.til < b.til))) else (!a.extra && b.extra)
def insD' (l : List Dut) (d : Dut) : List Dut := insBy (fun x => !befB d x) l d
theorem befB_eq {a b : Dut} (hc : a.cell = b.cell) (ha : -1 ≤ a.til ∧ a.til ≤ 100000) (hb : -1 ≤ b.til ∧ b.til ≤ 100000) : befB a b = ltOf cmpD a b := by
  rw [ltD_eq]
  unfold ltD befB
  have hir : ltOf cmpC b.cell b.cell = false := swoC.irrefl _
  rw [hc, hir, Bool.false_or, Bool.not_false, Bool.true_and]
  by_cases c1 : a.first = b.first
  · rw [if_neg (fun k => k c1), c1]
    have e1 : decide (b.first < b.first) = false := by simp
    rw [e1, Bool.false_or, Bool.not_false, Bool.true_and]
    by_cases c2 : a.til = b.til
    · rw [if_neg (fun k => k c2), c2]
      have e2 : decide (lastN b.til < lastN b.til) = false := by simp
      rw [e2, Bool.false_or, Bool.not_false, Bool.true_and]
      unfold laterN
      cases a.extra <;> cases b.extra <;> rfl
    · rw [if_pos c2]
      have e3 : decide (lastN a.til < lastN b.til) = (decide (b.til = -1) || (!decide (a.til = -1) && decide (a.til < b.til))) := by
        unfold lastN
        by_cases k1 : a.til = -1 <;> by_cases k2 : b.til = -1
        · omega
        · simp [k1, k2]; omega
        · simp [k1, k2]; omega
        · simp [k1, k2]
      have e4 : decide (lastN b.til < lastN a.til) = !decide (lastN a.til < lastN b.til) := by
        have : lastN a.til ≠ lastN b.til := fun e => c2 (lastN_inj e (by omega) (by omega))
        rw [Bool.eq_iff_iff]
        simp
        omega
      rw [e4, e3]
      cases (decide (b.til = -1) || (!decide (a.til = -1) && decide (a.til < b.til))) <;> simp
  · rw [if_pos c1]
    by_cases c2 : a.first < b.first
    · simp [c2]
    · have c3 : b.first < a.first := by omega
      simp [c2, c3]
def ordD (x y : Dut) : Prop := ltOf cmpD y x = false
theorem ordD_trans {a b c : Dut} (h1 : ordD a b) (h2 : ordD b c) : ordD a c := swoD.ntrans _ _ _ h2 h1
theorem ordD_of_lt {a b : Dut} (h : ltOf cmpD a b = true) : ordD a b := by
  unfold ordD
  cases h2 : ltOf cmpD b a with
  | false => rfl
  | true => have := swoD.trans _ _ _ h h2; rw [swoD.irrefl] at this; cases this
def ownD (ds : List Dut) : List Dut := ds.foldl insD' []
theorem foldD_ok {c : Cel} : ∀ (ds acc : List Dut), (∀ d ∈ ds, d.cell = c ∧ -1 ≤ d.til ∧ d.til ≤ 100000) → (∀ d ∈ acc, d.cell = c ∧ -1 ≤ d.til ∧ d.til ≤ 100000) → acc.Pairwise ordD → (ds.foldl insD' acc).Perm (ds ++ acc) ∧ (ds.foldl insD' acc).Pairwise ordD
  | [], acc, _, _, h => ⟨List.Perm.refl _, h⟩
  | d :: ds, acc, h1, h2, h3 => by
    have hd := h1 d (List.mem_cons_self ..)
    have hp : (insD' acc d).Perm (d :: acc) := insBy_perm _ _ _
    have hs : (insD' acc d).Pairwise ordD := insBy_sorted (R := ordD) ordD_trans h3 (fun x hx hp => by
        rw [Bool.not_eq_true', befB_eq (hd.1.trans (h2 x hx).1.symm) hd.2 (h2 x hx).2] at hp
        exact hp) (fun x hx hp => by
        rw [Bool.not_eq_false', befB_eq (hd.1.trans (h2 x hx).1.symm) hd.2 (h2 x hx).2] at hp
        exact ordD_of_lt hp)
    obtain ⟨k1, k2⟩ := foldD_ok ds (insD' acc d) (fun e he => h1 e (List.mem_cons_of_mem _ he)) (fun e he => by
      rcases List.mem_cons.1 (hp.mem_iff.1 he) with rfl | he
      · exact hd
      · exact h2 e he) hs
    refine ⟨k1.trans ?_, k2⟩
    refine (hp.append_left ds).trans ?_
    exact List.perm_middle
theorem flatMap_perm {α β : Type} {f g : α → List β} : ∀ {l : List α}, (∀ a ∈ l, (f a).Perm (g a)) → (l.flatMap f).Perm (l.flatMap g)
  | [], _ => List.Perm.refl _
  | a :: l, h => by
    rw [List.flatMap_cons, List.flatMap_cons]
    exact (h a (List.mem_cons_self ..)).append (flatMap_perm fun b hb => h b (List.mem_cons_of_mem _ hb))
def rDut (L : Int) (cs : List Cel) (l : List Chg) (node : Int) : List Dut := (cellsC cs l).flatMap fun c => ownD (cellD L cs l node c)
theorem cellD_bd {L O : Int} {cs : List Cel} {l : List Chg} (h : Right L O cs l) {node : Int} {c : Cel} : ∀ d ∈ cellD L cs l node c, d.cell = c ∧ -1 ≤ d.til ∧ d.til ≤ 100000 ∧ (d.sends = true ↔ c.frm = node) := by
  intro d hd
  unfold cellD at hd
  split at hd
  · cases hd
  · rw [List.mem_flatMap] at hd
    obtain ⟨t, ht, hd⟩ := hd
    have hb := h.bd ht
    have hL := h.len
    obtain ⟨e, hm⟩ := dut_mem hd
    refine ⟨e, ?_⟩
    rcases hm with ⟨a1, a2, a3, a4, a5⟩ | ⟨a1, a2, a3⟩
    · exact ⟨by omega, by omega, by simp [a1, a2]⟩
    · refine ⟨?_, ?_, by simp [a1, a2]⟩
      · rcases a3 with a3 | a3 | a3 <;> omega
      · rcases a3 with a3 | a3 | a3 <;> omega
theorem rDut_eq {L O : Int} {cs : List Cel} {l : List Chg} (h : Right L O cs l) {node : Int} {d' : List Dut} (hp : d'.Perm (allD L cs l node)) (hs : d'.Pairwise fun x y => ltOf cmpD y x = false) : d' = rDut L cs l node := by
  have hf := fun c => foldD_ok (cellD L cs l node c) [] (fun d hd => by have := cellD_bd h d hd; exact ⟨this.1, this.2.1, this.2.2.1⟩) (by simp) List.Pairwise.nil
  have hperm : (rDut L cs l node).Perm (allD L cs l node) := flatMap_perm fun c _ => by have := (hf c).1; rwa [List.append_nil] at this
  have hmem : ∀ x ∈ rDut L cs l node, ∃ c ∈ cellsC cs l, x ∈ cellD L cs l node c := fun x hx => by
    have := hperm.mem_iff.1 hx
    unfold allD at this
    rwa [List.mem_flatMap] at this
  have hcell : ∀ c, ∀ x ∈ ownD (cellD L cs l node c), x.cell = c := fun c x hx => by
    have := (hf c).1.mem_iff.1 hx
    rw [List.append_nil] at this
    exact (cellD_bd h x this).1
  refine sorted_one (hp.trans hperm.symm) hs ?_ (fun x hx => ?_) (fun x hx y hy e1 _ => ?_)
  · unfold rDut
    rw [List.pairwise_flatMap]
    refine ⟨fun c _ => (hf c).2, (cellsC_lt cs l).imp ?_⟩
    intro a b hab x hx y hy
    rw [ltD_eq]
    unfold ltD
    rw [hcell a x hx, hcell b y hy, (ltOC a b).2 hab, (ltOCf b a).2 (fun k => ltC_irrefl _ (ltC_trans hab k))]
    rfl
  · obtain ⟨c, _, hd⟩ := hmem x hx
    exact (cellD_bd h x hd).2.2.1
  · obtain ⟨c, _, hd⟩ := hmem x hx
    obtain ⟨c', _, hd'⟩ := hmem y hy
    have k1 := cellD_bd h x hd
    have k2 := cellD_bd h y hd'
    have : c = c' := by rw [← k1.1, ← k2.1, e1]
    subst this
    rw [Bool.eq_iff_iff, k1.2.2.2, k2.2.2.2]
-- the reference's times
theorem rT_eq {L O : Int} {cs : List Cel} {l : List Chg} (h : Right L O cs l) (c : Cel) : (rT (forceN cs l c) ((lastN' l).toNat + 1)).1 = timesC cs l c := by
  have hr := rT_inv (forceN cs l c) (lastN' l).toNat
  have hi := h.inv c
  have hcur : lastN' l = curS l l.length := by
    unfold lastN' curS; rfl
  have hc0 := h.cur
  refine hr.canon.unique hi.canon fun x hx => ?_
  rw [hr.cov x hx, hi.cov x hx]
  unfold upto
  by_cases k : x < (((lastN' l).toNat + 1 : Nat) : Int)
  · rw [if_pos k]
  · rw [if_neg k, hi.const x (by omega), hi.const _ (by omega)]
end Sw
end Go.Proofs.Ytdlgdmbcbenlbaa
