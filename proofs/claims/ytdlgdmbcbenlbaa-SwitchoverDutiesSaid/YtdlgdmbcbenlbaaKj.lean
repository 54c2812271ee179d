/- Plain: cells in force, duties of a slot, nodes. -/
import Derived.Test.YtdlgdmbcbenlbaaKh
import Derived.Test.YtdlgdmbcbenlbaaKi
import Derived.Test.YtdlgdmbcbenlbaaKe
set_option linter.unusedVariables false
set_option linter.unusedSimpArgs false
namespace Go.Proofs.Ytdlgdmbcbenlbaa
open Go Go.RowKit Go.Sort
namespace Sw
def stepF (x : Int) (all : List Cel) (ch : Chg) : List Cel := if x < ch.slot then all else if ch.add = true then all ++ [ch.cell] else all.filter (fun c => !eqC c ch.cell)
def allF (cs : List Cel) (l : List Chg) (x : Int) : List Cel := l.foldl (stepF x) cs
def offB (L x : Int) (c : Cel) : Bool := c.slot != x % L
def inF (L : Int) (cs : List Cel) (l : List Chg) (x : Int) : List Cel := (allF cs l x).filter (fun c => !offB L x c)
theorem allF_snoc (cs : List Cel) (l : List Chg) (ch : Chg) (x : Int) : allF cs (l ++ [ch]) x = stepF x (allF cs l x) ch := by simp [allF]
theorem pw_chain {α : Type} [Inhabited α] {R : α → α → Prop} (ht : ∀ {a b c : α}, R a b → R b c → R a c) {xs : List α} (h : ∀ i, i + 1 < xs.length → R (xs.getD i default) (xs.getD (i + 1) default)) : xs.Pairwise R := by
  have key : ∀ j, j < xs.length → ∀ i, i < j → R (xs.getD i default) (xs.getD j default) := by
    intro j
    induction j with
    | zero => intro _ i hi; omega
    | succ j ih =>
      intro hj i hi
      by_cases c : i = j
      · subst c; exact h i hj
      · exact ht (ih (by omega) i (by omega)) (h j hj)
  rw [List.pairwise_iff_getElem]
  intro i j hi hj hij
  have := key j hj i hij
  rwa [List.getD_eq_getElem?_getD, List.getD_eq_getElem?_getD, List.getElem?_eq_getElem hi, List.getElem?_eq_getElem hj] at this
theorem all_range {p : Nat → Bool} {n : Nat} (h : (List.range n).all p = true) {k : Nat} (hk : k < n) : p k = true := by
  rw [List.all_eq_true] at h
  exact h k (List.mem_range.2 hk)
theorem formed_adj {L O : Int} {xs : List Cel} (h : formedB L O xs = true) {i : Nat} (hi : i < xs.length) : cellOk L O (xs.getD i default) = true ∧ (0 < i → ltC (xs.getD (i - 1) default) (xs.getD i default)) := by
  unfold formedB at h
  rw [Bool.and_eq_true] at h
  have h2 := all_range h.2 hi
  unfold adjB at h2
  rw [Bool.and_eq_true] at h2
  refine ⟨h2.1, fun h0 => ?_⟩
  have h3 := h2.2
  rw [Bool.or_eq_true, decide_eq_true_eq, decide_eq_true_eq, cmpC_lt] at h3
  rcases h3 with h3 | h3
  · omega
  · exact h3
theorem formed_lt {L O : Int} {xs : List Cel} (h : formedB L O xs = true) : xs.Pairwise ltC :=
  pw_chain (R := ltC) ltC_trans fun i hi => by have := (formed_adj h hi).2 (by omega); simpa using this
theorem nodup_lt {xs : List Cel} (h : xs.Pairwise ltC) : xs.Nodup := h.imp fun {a b} (hab : ltC a b) (e : a = b) => ltC_irrefl b (e ▸ hab)
theorem Right.okC {L O : Int} {cs : List Cel} {l : List Chg} (h : Right L O cs l) : ∀ c ∈ cs ++ l.map (fun x => x.cell), cellOk L O c = true := by
  intro c hc
  rw [List.mem_append] at hc
  rcases hc with hc | hc
  · obtain ⟨i, hi, rfl⟩ := List.mem_iff_getElem.1 hc
    have := (formed_adj h.formed hi).1
    rwa [List.getD_eq_getElem?_getD, List.getElem?_eq_getElem hi] at this
  · obtain ⟨x, hx, rfl⟩ := List.mem_map.1 hc
    obtain ⟨i, hi, rfl⟩ := List.mem_iff_getElem.1 hx
    have := (fault_zero (h.fault i hi)).2.2.1
    rwa [List.getD_eq_getElem?_getD, List.getElem?_eq_getElem hi] at this
theorem curS_le {L O : Int} {cs : List Cel} {l : List Chg} (h : Right L O cs l) {k : Nat} (hk : k < l.length) : curS l k ≤ (l.getD k default).slot := by
  have hf := fault_zero (h.fault k hk)
  unfold curS
  split
  · exact hf.1.1
  · exact hf.2.1 (by omega)
theorem force_const {L O : Int} {cs : List Cel} {l : List Chg} (h : Right L O cs l) {k : Nat} (hk : k ≤ l.length) (c : Cel) {x : Int} (hx : curS l k ≤ x) : forceN cs (l.take k) c x = thereN cs (l.take k) c :=
  (timesC_inv (h.okL c) k hk).const x hx
theorem allF_ok {L O : Int} {cs : List Cel} {l : List Chg} (h : Right L O cs l) (x : Int) : ∀ k, k ≤ l.length → (allF cs (l.take k) x).Nodup ∧ ∀ c, c ∈ allF cs (l.take k) x ↔ forceN cs (l.take k) c x = true := by
  intro k
  induction k with
  | zero => intro _; exact ⟨nodup_lt (formed_lt h.formed), fun c => by show c ∈ cs ↔ decide (c ∈ cs) = true; simp⟩
  | succ k ih =>
    intro hk
    obtain ⟨h1, h2⟩ := ih (by omega)
    have hlt : k < l.length := by omega
    have hadd := (fault_zero (h.fault k hlt)).2.2.2
    have hcur := curS_le h hlt
    have hcon := fun c hx => force_const h (by omega : k ≤ l.length) c (x := x) hx
    rw [take_snoc hlt, allF_snoc]
    generalize l.getD k default = ch at *
    unfold stepF
    by_cases c1 : x < ch.slot
    · rw [if_pos c1]
      refine ⟨h1, fun c => ?_⟩
      rw [forceN_snoc, if_neg (fun h => by omega)]
      exact h2 c
    · rw [if_neg c1]
      have hcon := fun c => hcon c (by omega)
      by_cases c2 : ch.add = true
      · rw [if_pos c2]
        have hno : ch.cell ∉ allF cs (l.take k) x := fun hm => by
          rw [h2, hcon] at hm
          rw [hm, c2] at hadd
          cases hadd
        refine ⟨?_, fun c => ?_⟩
        · rw [List.nodup_append]
          refine ⟨h1, by simp, fun a ha b hb => ?_⟩
          rw [List.mem_singleton] at hb
          subst hb
          exact fun e => hno (e ▸ ha)
        · rw [forceN_snoc, List.mem_append, List.mem_singleton, h2]
          by_cases c3 : ch.cell = c
          · rw [if_pos ⟨by omega, c3⟩, c2]; simp [c3]
          · rw [if_neg (fun h => c3 h.2)]
            constructor
            · rintro (h | h)
              · exact h
              · exact absurd h.symm c3
            · exact .inl
      · rw [if_neg c2]
        rw [Bool.not_eq_true] at c2
        refine ⟨h1.filter _, fun c => ?_⟩
        rw [forceN_snoc, List.mem_filter, h2]
        unfold eqC
        by_cases c3 : ch.cell = c
        · rw [if_pos ⟨by omega, c3⟩, c2]; simp [c3]
        · rw [if_neg (fun h => c3 h.2)]
          have : ¬ c = ch.cell := fun e => c3 e.symm
          simp [this]
theorem inF_ok {L O : Int} {cs : List Cel} {l : List Chg} (h : Right L O cs l) (x : Int) : (inF L cs l x).Nodup ∧ ∀ c, c ∈ inF L cs l x ↔ (forceN cs l c x = true ∧ c.slot = x % L) := by
  have := allF_ok h x l.length (Nat.le_refl _)
  rw [List.take_length] at this
  refine ⟨this.1.filter _, fun c => ?_⟩
  unfold inF offB
  rw [List.mem_filter, this.2]
  simp
-- the cells, each once
theorem cpL_mem {α : Type} [DecidableEq α] [Inhabited α] {xs : List α} {x : α} : x ∈ cpL xs ↔ x ∈ xs := by
  unfold cpL cpU
  rw [List.mem_map]
  constructor
  · rintro ⟨i, hi, rfl⟩
    rw [List.mem_filter, List.mem_range] at hi
    rw [List.getD_eq_getElem?_getD, List.getElem?_eq_getElem hi.1]
    exact List.getElem_mem hi.1
  · intro hx
    obtain ⟨i, hi, e⟩ := List.mem_iff_getElem.1 hx
    have key : ∀ i, i < xs.length → xs.getD i default = x → ∃ j, (j < xs.length ∧ kpL xs j = true) ∧ xs.getD j default = x := by
      intro i
      induction i with
      | zero => intro hi e; exact ⟨0, ⟨hi, kpL_small (by omega)⟩, e⟩
      | succ i ih =>
        intro hi e
        by_cases c : xs.getD (i + 1) default = xs.getD i default
        · exact ih (by omega) (c ▸ e)
        · refine ⟨i + 1, ⟨hi, ?_⟩, e⟩
          rw [kpL_at (by omega), Nat.add_sub_cancel]
          simp only [c, decide_false, Bool.not_false]
    obtain ⟨j, hj, ej⟩ := key i hi (by rw [List.getD_eq_getElem?_getD, List.getElem?_eq_getElem hi]; exact e)
    exact ⟨j, by rw [List.mem_filter, List.mem_range]; exact hj, ej⟩
theorem cpL_lt {xs : List Cel} (h : xs.Pairwise fun a b => ¬ ltC b a) : (cpL xs).Pairwise ltC := by
  unfold cpL cpU
  rw [List.pairwise_map]
  refine ((List.pairwise_lt_range (n := xs.length)).filter (kpL xs)).imp_of_mem ?_
  intro i j hi hj hij
  rw [List.mem_filter, List.mem_range] at hi hj
  rw [List.pairwise_iff_getElem] at h
  have g : ∀ a b, a < xs.length → b < xs.length → a < b → ¬ ltC (xs.getD b default) (xs.getD a default) := fun a b ha hb hab => by
    have := h a b ha hb hab
    rwa [List.getD_eq_getElem?_getD, List.getD_eq_getElem?_getD, List.getElem?_eq_getElem ha, List.getElem?_eq_getElem hb]
  have hk := hj.2
  rw [kpL_at (by omega)] at hk
  have hne : ¬ xs.getD j default = xs.getD (j - 1) default := by simpa using hk
  have g1 : ltC (xs.getD (j - 1) default) (xs.getD j default) := by
    rcases cmpC_cases (xs.getD (j - 1) default) (xs.getD j default) with ⟨a, _⟩ | ⟨a, _⟩ | ⟨a, _⟩
    · exact a
    · exact absurd a (g (j - 1) j (by omega) hj.1 (by omega))
    · exact absurd a.symm hne
  by_cases c : i = j - 1
  · rw [c]; exact g1
  · rcases cmpC_cases (xs.getD i default) (xs.getD (j - 1) default) with ⟨a, _⟩ | ⟨a, _⟩ | ⟨a, _⟩
    · exact ltC_trans a g1
    · exact absurd a (g i (j - 1) hi.1 (by omega) (by omega))
    · rw [a]; exact g1
theorem cellsC_mem {cs : List Cel} {l : List Chg} {c : Cel} : c ∈ cellsC cs l ↔ c ∈ cs ++ l.map (fun x => x.cell) := by
  unfold cellsC
  rw [cpL_mem]
  exact (sortC_perm _).mem_iff
theorem cellsC_lt (cs : List Cel) (l : List Chg) : (cellsC cs l).Pairwise ltC := cpL_lt (sortC_sorted _)
theorem force_cell {cs : List Cel} {l : List Chg} {c : Cel} {x : Int} (h : forceN cs l c x = true) : c ∈ cellsC cs l := by
  rw [cellsC_mem, List.mem_append]
  by_cases c0 : c ∈ cs
  · exact .inl c0
  right
  by_cases c1 : ∃ ch ∈ l, ch.cell = c
  · obtain ⟨ch, h1, h2⟩ := c1
    exact List.mem_map.2 ⟨ch, h1, h2⟩
  exfalso
  have key : ∀ (l : List Chg) (b : Bool), b = false → (¬ ∃ ch ∈ l, ch.cell = c) → l.foldl (fun b ch => if ch.slot ≤ x ∧ ch.cell = c then ch.add else b) b = false := by
    intro l
    induction l with
    | nil => intro b hb _; exact hb
    | cons ch l ih =>
      intro b hb hn
      rw [List.foldl_cons]
      refine ih _ ?_ (fun ⟨d, hd, e⟩ => hn ⟨d, List.mem_cons_of_mem _ hd, e⟩)
      rw [if_neg (fun h => hn ⟨ch, List.mem_cons_self .., h.2⟩)]
      exact hb
  have := key l (decide (c ∈ cs)) (by simp [c0]) c1
  unfold forceN at h
  rw [this] at h
  cases h
-- counting
theorem cnt_sum {α : Type} (f : α → Nat) (P : α → Bool) : ∀ (l : List α), (∀ x ∈ l, f x = if P x = true then 1 else 0) → (l.map f).sum = l.countP P
  | [], _ => rfl
  | x :: l, h => by
    rw [List.map_cons, List.sum_cons, List.countP_cons, cnt_sum f P l (fun y hy => h y (List.mem_cons_of_mem _ hy)), h x (List.mem_cons_self ..)]
    omega
theorem cnt_times {t : List (Int × Int)} (h : Canon t) (x : Int) : t.countP (inB x) = if t.any (inB x) = true then 1 else 0 := by
  induction t with
  | nil => rfl
  | cons p t ih =>
    have ih := ih h.tail
    rw [List.countP_cons, List.any_cons]
    by_cases c : inB x p = true
    · have hno : t.any (inB x) = false := by
        rw [List.any_eq_false]
        intro q hq hin
        have ha := (List.pairwise_cons.1 h.apart).1 q hq
        unfold inB at c hin
        simp at c hin
        omega
      rw [ih, hno, c]; simp
    · rw [Bool.not_eq_true] at c
      rw [ih, c, Bool.false_or, if_neg (show ¬ (false = true) by decide)]; rfl
def sndB (d : Dut) : Bool := d.sends
def lstB (d : Dut) : Bool := !d.sends && !d.extra
theorem cnt_dut (c : Cel) (n L x : Int) (t : Int × Int) : (dutiesC c n L t).countP (fun d => onB L x d && sndB d) = (if (decide (c.frm = n) && (decide (c.slot = x % L) && inB x t)) = true then 1 else 0) ∧ (dutiesC c n L t).countP (fun d => onB L x d && lstB d) = (if (decide (c.frm ≠ n) && (decide (c.slot = x % L) && inB x t)) = true then 1 else 0) := by
  unfold dutiesC
  by_cases c1 : c.frm = n
  · rw [if_pos c1]
    simp only [List.countP_cons, List.countP_nil, sndB, lstB, onB, inB, c1]
    simp
  · rw [if_neg c1]
    have e1 : ∀ p : Dut → Bool, (∀ d, d.sends = false → d.extra = true → p d = false) → (dut1 c L t).countP p = 0 ∧ (dut2 c L t).countP p = 0 := by
      intro p hp
      unfold dut1 dut2
      constructor
      · split
        · rfl
        · simp [hp]
      · split
        · rfl
        · simp [hp]
    have a1 := e1 (fun d => onB L x d && sndB d) (fun d h1 h2 => by simp [sndB, h1])
    have a2 := e1 (fun d => onB L x d && lstB d) (fun d h1 h2 => by simp [lstB, h2])
    rw [List.countP_append, List.countP_append, List.countP_append, List.countP_append, a1.1, a1.2, a2.1, a2.2]
    simp only [List.countP_cons, List.countP_nil, sndB, lstB, onB, inB]
    simp [c1]
theorem cnt_cell {L O : Int} {cs : List Cel} {l : List Chg} (h : Right L O cs l) (n x : Int) (hx : 0 ≤ x) {c : Cel} (hc : c.frm ≠ c.to) :
    (cellD L cs l n c).countP (fun d => onB L x d && sndB d) = (if (decide (c.frm = n) && (decide (c.slot = x % L) && forceN cs l c x)) = true then 1 else 0) ∧ (cellD L cs l n c).countP (fun d => onB L x d && lstB d) = (if (decide (c.to = n) && (decide (c.slot = x % L) && forceN cs l c x)) = true then 1 else 0) := by
  have ht := cnt_times (h.inv c).canon x
  rw [in_force h c x hx] at ht
  unfold cellD
  by_cases c1 : c.frm ≠ n ∧ c.to ≠ n
  · rw [if_pos c1]
    simp [c1.1, c1.2]
  · rw [if_neg c1, List.countP_flatMap, List.countP_flatMap]
    have e1 : ∀ (A : Bool) (ts : List (Int × Int)) (f : Int × Int → Nat), (∀ t ∈ ts, f t = if (A && (decide (c.slot = x % L) && inB x t)) = true then 1 else 0) → (ts.map f).sum = if (A && decide (c.slot = x % L)) = true then ts.countP (inB x) else 0 := by
      intro A ts f hf
      rw [cnt_sum f (fun t => A && (decide (c.slot = x % L) && inB x t)) ts hf]
      by_cases c2 : (A && decide (c.slot = x % L)) = true
      · rw [if_pos c2]
        rw [Bool.and_eq_true] at c2
        refine congrArg (fun p => List.countP p ts) ?_
        funext t
        rw [c2.1, c2.2]; rfl
      · rw [if_neg c2, List.countP_eq_zero]
        intro t _ h3
        apply c2
        rw [Bool.and_eq_true, Bool.and_eq_true] at h3
        rw [Bool.and_eq_true]
        exact ⟨h3.1, h3.2.1⟩
    rw [e1 (decide (c.frm = n)) _ (List.countP (fun d => onB L x d && sndB d) ∘ dutiesC c n L) (fun t _ => (cnt_dut c n L x t).1), e1 (decide (c.frm ≠ n)) _ (List.countP (fun d => onB L x d && lstB d) ∘ dutiesC c n L) (fun t _ => (cnt_dut c n L x t).2), ht]
    constructor
    · cases forceN cs l c x <;> by_cases c3 : c.frm = n <;> by_cases c4 : c.slot = x % L <;> simp [c3, c4]
    · have e2 : decide (c.frm ≠ n) = decide (c.to = n) := by
        rw [decide_eq_decide]
        omega
      rw [e2]
      cases forceN cs l c x <;> by_cases c3 : c.to = n <;> by_cases c4 : c.slot = x % L <;> simp [c3, c4]
theorem cell_ne {L O : Int} {cs : List Cel} {l : List Chg} (h : Right L O cs l) {c : Cel} (hc : c ∈ cellsC cs l) : c.frm ≠ c.to ∧ (0 ≤ c.frm ∧ c.frm < 32) ∧ (0 ≤ c.to ∧ c.to < 32) := by
  have := h.okC c (cellsC_mem.1 hc)
  rw [cellOk_iff] at this
  omega
theorem inF_perm {L O : Int} {cs : List Cel} {l : List Chg} (h : Right L O cs l) (x : Int) : (inF L cs l x).Perm ((cellsC cs l).filter fun c => decide (c.slot = x % L) && forceN cs l c x) := by
  rw [List.perm_ext_iff_of_nodup (inF_ok h x).1 ((nodup_lt (cellsC_lt cs l)).filter _)]
  intro c
  rw [(inF_ok h x).2, List.mem_filter, Bool.and_eq_true, decide_eq_true_eq]
  exact ⟨fun k => ⟨force_cell k.1, k.2, k.1⟩, fun k => ⟨k.2.2, k.2.1⟩⟩
theorem cnt_all {L O : Int} {cs : List Cel} {l : List Chg} (h : Right L O cs l) (n x : Int) (hx : 0 ≤ x) :
    (allD L cs l n).countP (fun d => onB L x d && sndB d) = (inF L cs l x).countP (fun c => decide (c.frm = n)) ∧ (allD L cs l n).countP (fun d => onB L x d && lstB d) = (inF L cs l x).countP (fun c => decide (c.to = n)) := by
  unfold allD
  rw [(inF_perm h x).countP_eq, (inF_perm h x).countP_eq, List.countP_filter, List.countP_filter, List.countP_flatMap, List.countP_flatMap]
  exact ⟨cnt_sum _ _ _ fun c hc => (cnt_cell h n x hx (cell_ne h hc).1).1, cnt_sum _ _ _ fun c hc => (cnt_cell h n x hx (cell_ne h hc).1).2⟩
-- what a duty is
theorem dut_mem {c : Cel} {n L : Int} {t : Int × Int} {d : Dut} (h : d ∈ dutiesC c n L t) : d.cell = c ∧ ((c.frm = n ∧ d.sends = true ∧ d.extra = false ∧ d.first = t.1 ∧ d.til = t.2) ∨ (c.frm ≠ n ∧ d.sends = false ∧ ((d.extra = false ∧ d.first = t.1 ∧ d.til = t.2) ∨ (d.extra = true ∧ t.1 ≠ 0 ∧ d.first = max (t.1 - L) 0 ∧ d.til = t.1) ∨ (d.extra = true ∧ t.2 ≠ -1 ∧ d.first = t.2 ∧ d.til = t.2 + L)))) := by
  unfold dutiesC at h
  by_cases c1 : c.frm = n
  · rw [if_pos c1, List.mem_singleton] at h
    subst h
    exact ⟨rfl, .inl ⟨c1, rfl, rfl, rfl, rfl⟩⟩
  · rw [if_neg c1, List.mem_append, List.mem_append, List.mem_singleton] at h
    rcases h with (rfl | h) | h
    · exact ⟨rfl, .inr ⟨c1, rfl, .inl ⟨rfl, rfl, rfl⟩⟩⟩
    · unfold dut1 at h
      split at h
      · cases h
      · rename_i c2
        rw [List.mem_singleton] at h
        subst h
        exact ⟨rfl, .inr ⟨c1, rfl, .inr (.inl ⟨rfl, c2, rfl, rfl⟩)⟩⟩
    · unfold dut2 at h
      split at h
      · cases h
      · rename_i c2
        rw [List.mem_singleton] at h
        subst h
        exact ⟨rfl, .inr ⟨c1, rfl, .inr (.inr ⟨rfl, c2, rfl, rfl⟩)⟩⟩
theorem all_mem {L : Int} {cs : List Cel} {l : List Chg} {n : Int} {d : Dut} (h : d ∈ allD L cs l n) : d.cell ∈ cellsC cs l ∧ (d.cell.frm = n ∨ d.cell.to = n) ∧ ∃ t ∈ timesC cs l d.cell, d ∈ dutiesC d.cell n L t := by
  unfold allD at h
  rw [List.mem_flatMap] at h
  obtain ⟨c, hc, hd⟩ := h
  unfold cellD at hd
  by_cases c1 : c.frm ≠ n ∧ c.to ≠ n
  · rw [if_pos c1] at hd; cases hd
  · rw [if_neg c1, List.mem_flatMap] at hd
    obtain ⟨t, ht, hd⟩ := hd
    have e := (dut_mem hd).1
    rw [e]
    exact ⟨hc, by omega, t, ht, hd⟩
/-- what holds for each duty of a node in a slot -/
theorem duty_ok {L O : Int} {cs : List Cel} {l : List Chg} (h : Right L O cs l) {n x : Int} (hx : 0 ≤ x) {d : Dut} (hd : d ∈ allD L cs l n) (hon : onB L x d = true) :
    (d.sends = true → d.extra = false ∧ d.cell.frm = n) ∧ (d.sends = false → d.cell.to = n) ∧ (d.extra = false → d.cell ∈ inF L cs l x) := by
  obtain ⟨h1, h2, t, ht, hm⟩ := all_mem hd
  obtain ⟨_, hm⟩ := dut_mem hm
  refine ⟨fun hs => ?_, fun hs => ?_, fun he => ?_⟩
  · rcases hm with hm | hm
    · exact ⟨hm.2.2.1, hm.1⟩
    · rw [hs] at hm; cases hm.2.1
  · rcases hm with hm | hm
    · rw [hs] at hm; cases hm.2.1
    · rcases h2 with h2 | h2
      · exact absurd h2 hm.1
      · exact h2
  · have hft : d.first = t.1 ∧ d.til = t.2 := by
      rcases hm with hm | ⟨_, _, hm | hm | hm⟩
      · exact hm.2.2.2
      · exact hm.2
      · rw [he] at hm; cases hm.1
      · rw [he] at hm; cases hm.1
    unfold onB at hon
    rw [hft.1, hft.2] at hon
    simp only [Bool.and_eq_true, Bool.or_eq_true, decide_eq_true_eq] at hon
    rw [(inF_ok h x).2]
    refine ⟨?_, hon.1⟩
    rw [← in_force h d.cell x hx, inB_any]
    exact ⟨t, ht, hon.2.1, hon.2.2⟩
theorem settled {L O : Int} {cs : List Cel} {l : List Chg} (h : Right L O cs l) {n x : Int} (hx : untilN L l ≤ x) {d : Dut} (hd : d ∈ allD L cs l n) (hon : onB L x d = true) : d.extra = false ∧ d.til = -1 := by
  obtain ⟨h1, h2, t, ht, hm⟩ := all_mem hd
  obtain ⟨_, hm⟩ := dut_mem hm
  obtain ⟨b1, b2, b3, b4, b5⟩ := h.bd ht
  have hle := (h.inv d.cell).le t ht
  have hlen := h.len
  have hcur := h.cur
  have hu : curS l l.length ≤ x ∧ (curS l l.length = 0 ∨ curS l l.length + L ≤ x) := by
    unfold untilN at hx
    unfold curS at hcur ⊢
    split at hx
    · rename_i c; rw [if_pos c]; exact ⟨by omega, .inl rfl⟩
    · rename_i c; rw [if_neg c] at hcur ⊢; exact ⟨by omega, .inr hx⟩
  unfold onB at hon
  simp only [Bool.and_eq_true, Bool.or_eq_true, decide_eq_true_eq] at hon
  rcases hm with hm | ⟨_, _, hm | hm | hm⟩
  · refine ⟨hm.2.2.1, ?_⟩
    have := hm.2.2.2.2
    omega
  · refine ⟨hm.1, ?_⟩
    have := hm.2.2
    omega
  · exfalso
    have := hm.2
    omega
  · exfalso
    have := hm.2
    omega
-- nodes
def addN (out : List Int) (n : Int) : List Int := if n ∈ out then out else out ++ [n]
def addC (out : List Int) (c : Cel) : List Int := addN (addN out c.frm) c.to
def nodesC (cs : List Cel) : List Int := cs.foldl addC []
def nodesL (cs : List Cel) (l : List Chg) : List Int := l.foldl (fun o x => addC o x.cell) (nodesC cs)
theorem addN_mem {out : List Int} {n m : Int} : m ∈ addN out n ↔ m ∈ out ∨ m = n := by
  unfold addN
  split
  · rename_i h; exact ⟨.inl, fun k => k.elim id fun e => e ▸ h⟩
  · simp
theorem addN_nodup {out : List Int} {n : Int} (h : out.Nodup) : (addN out n).Nodup := by
  unfold addN
  split
  · exact h
  · rename_i hn
    rw [List.nodup_append]
    refine ⟨h, by simp, fun a ha b hb => ?_⟩
    rw [List.mem_singleton] at hb
    subst hb
    exact fun e => hn (e ▸ ha)
theorem addN_len (out : List Int) (n : Int) : (addN out n).length ≤ out.length + 1 := by
  unfold addN; split <;> simp
theorem addC_len (out : List Int) (c : Cel) : (addC out c).length ≤ out.length + 2 := by
  unfold addC
  have := addN_len (addN out c.frm) c.to
  have := addN_len out c.frm
  omega
theorem addC_mem {out : List Int} {c : Cel} {m : Int} : m ∈ addC out c ↔ m ∈ out ∨ m = c.frm ∨ m = c.to := by
  unfold addC; rw [addN_mem, addN_mem, or_assoc]
theorem fold_nodes {β : Type} (f : β → Cel) : ∀ (xs : List β) (out : List Int), out.Nodup → (xs.foldl (fun o x => addC o (f x)) out).Nodup ∧ (∀ m, m ∈ xs.foldl (fun o x => addC o (f x)) out ↔ m ∈ out ∨ ∃ x ∈ xs, m = (f x).frm ∨ m = (f x).to) ∧ (xs.foldl (fun o x => addC o (f x)) out).length ≤ out.length + 2 * xs.length
  | [], out, h => ⟨h, by simp, by simp⟩
  | x :: xs, out, h => by
    obtain ⟨h1, h2, h3⟩ := fold_nodes f xs (addC out (f x)) (addN_nodup (addN_nodup h))
    refine ⟨h1, fun m => ?_, ?_⟩
    · rw [List.foldl_cons, h2, addC_mem]
      simp only [List.mem_cons, exists_eq_or_imp, or_assoc]
    · rw [List.foldl_cons]
      have := addC_len out (f x)
      rw [List.length_cons]
      omega
theorem nodesL_ok (cs : List Cel) (l : List Chg) : (nodesL cs l).Nodup ∧ (∀ m, m ∈ nodesL cs l ↔ ∃ c ∈ cs ++ l.map (fun x => x.cell), m = c.frm ∨ m = c.to) ∧ (nodesL cs l).length ≤ 2 * cs.length + 2 * l.length := by
  obtain ⟨a1, a2, a3⟩ := fold_nodes (fun c : Cel => c) cs [] (by simp)
  obtain ⟨b1, b2, b3⟩ := fold_nodes (fun x : Chg => x.cell) l (nodesC cs) a1
  refine ⟨b1, fun m => ?_, ?_⟩
  · unfold nodesL
    rw [b2]
    unfold nodesC
    rw [a2]
    constructor
    · rintro ((h | ⟨c, hc, h⟩) | ⟨x, hx, h⟩)
      · cases h
      · exact ⟨c, List.mem_append_left _ hc, h⟩
      · exact ⟨x.cell, List.mem_append_right _ (List.mem_map.2 ⟨x, hx, rfl⟩), h⟩
    · rintro ⟨c, hc, h⟩
      rw [List.mem_append, List.mem_map] at hc
      rcases hc with hc | ⟨x, hx, rfl⟩
      · exact .inl (.inr ⟨c, hc, h⟩)
      · exact .inr ⟨x, hx, h⟩
  · unfold nodesL
    have a3' : (nodesC cs).length ≤ 0 + 2 * cs.length := a3
    omega
theorem nodes_in {L O : Int} {cs : List Cel} {l : List Chg} (h : Right L O cs l) {n : Int} (hn : n ∈ nodesL cs l) : 0 ≤ n ∧ n < 32 := by
  obtain ⟨c, hc, e⟩ := ((nodesL_ok cs l).2.1 n).1 hn
  have := cell_ne h (cellsC_mem.2 hc)
  rcases e with rfl | rfl
  · exact this.2.1
  · exact this.2.2
theorem sum_add {α : Type} (f g : α → Nat) : ∀ l : List α, (l.map fun x => f x + g x).sum = (l.map f).sum + (l.map g).sum
  | [] => rfl
  | x :: l => by rw [List.map_cons, List.sum_cons, sum_add f g l, List.map_cons, List.sum_cons, List.map_cons, List.sum_cons]; omega
theorem sum_nodes {ns : List Int} (hn : ns.Nodup) (g : Cel → Int) : ∀ W : List Cel, (∀ c ∈ W, g c ∈ ns) → (ns.map fun n => W.countP fun c => decide (g c = n)).sum = W.length
  | [], _ => by
    simp only [List.countP_nil, List.length_nil]
    exact List.sum_eq_zero_iff_forall_eq_nat.2 (by simp)
  | c :: W, h => by
    have ih := sum_nodes hn g W (fun d hd => h d (List.mem_cons_of_mem _ hd))
    have e : (fun n => (c :: W).countP fun c => decide (g c = n)) = fun n => (W.countP fun c => decide (g c = n)) + (if decide (g c = n) = true then 1 else 0) := by
      funext n; rw [List.countP_cons]
    rw [e, sum_add, ih, List.length_cons]
    have : (ns.map fun n => if decide (g c = n) = true then 1 else 0).sum = ns.countP fun n => decide (g c = n) := cnt_sum _ _ _ (fun _ _ => rfl)
    rw [this]
    have e2 : (ns.countP fun n => decide (g c = n)) = ns.count (g c) := by
      unfold List.count
      refine congrArg (fun p => List.countP p ns) ?_
      funext n
      rw [Bool.eq_iff_iff]
      simp
      exact ⟨fun h => h.symm, fun h => h.symm⟩
    rw [e2, hn.count, if_pos (h c (List.mem_cons_self ..))]
theorem in_nodes {L O : Int} {cs : List Cel} {l : List Chg} (h : Right L O cs l) (x : Int) : ((nodesL cs l).map fun n => (inF L cs l x).countP fun c => decide (c.frm = n)).sum = (inF L cs l x).length ∧ ((nodesL cs l).map fun n => (inF L cs l x).countP fun c => decide (c.to = n)).sum = (inF L cs l x).length := by
  have hk : ∀ c ∈ inF L cs l x, c ∈ cs ++ l.map (fun x => x.cell) := fun c hc => cellsC_mem.1 (force_cell (((inF_ok h x).2 c).1 hc).1)
  exact ⟨sum_nodes (nodesL_ok cs l).1 _ _ fun c hc => ((nodesL_ok cs l).2.1 _).2 ⟨c, hk c hc, .inl rfl⟩, sum_nodes (nodesL_ok cs l).1 _ _ fun c hc => ((nodesL_ok cs l).2.1 _).2 ⟨c, hk c hc, .inr rfl⟩⟩
theorem one_node {L O : Int} {cs : List Cel} {l : List Chg} (h : Right L O cs l) (n x : Int) : (inF L cs l x).countP (fun c => decide (c.frm = n) || decide (c.to = n)) = (inF L cs l x).countP (fun c => decide (c.frm = n)) + (inF L cs l x).countP (fun c => decide (c.to = n)) := by
  have hk : ∀ c ∈ inF L cs l x, c.frm ≠ c.to := fun c hc => (cell_ne h (force_cell (((inF_ok h x).2 c).1 hc).1)).1
  generalize inF L cs l x = W at hk
  induction W with
  | nil => rfl
  | cons c W ih =>
    have := hk c (List.mem_cons_self ..)
    rw [List.countP_cons, List.countP_cons, List.countP_cons, ih (fun d hd => hk d (List.mem_cons_of_mem _ hd))]
    by_cases c1 : c.frm = n
    · have : ¬ c.to = n := by omega
      simp [c1, this]; omega
    · simp [c1]; omega
end Sw
end Go.Proofs.Ytdlgdmbcbenlbaa
namespace Go.Proofs.Ytdlgdmbcbenlbaa
open Go Go.RowKit Go.Sort
namespace Sw
theorem Right.chk {L O : Int} {cs : List Cel} {l : List Chg} (h : Right L O cs l) : chkN L O cs l = (-1, 0) := by
  unfold chkN
  rw [if_neg (by rw [h.formed]; simp), if_neg (by have := h.few; omega)]
  exact firstF_none h.fault
theorem cnt_split {α : Type} {p q r : α → Bool} : ∀ {l : List α}, (∀ d ∈ l, p d = true → (q d = true ∧ r d = false) ∨ (q d = false ∧ r d = true)) → l.countP p = l.countP (fun d => p d && q d) + l.countP (fun d => p d && r d)
  | [], _ => rfl
  | d :: l, h => by
    have ih := cnt_split (l := l) (fun e he => h e (List.mem_cons_of_mem _ he))
    rw [List.countP_cons, List.countP_cons, List.countP_cons, ih]
    cases hp : p d with
    | false => simp
    | true =>
      rcases h d (List.mem_cons_self ..) hp with ⟨h1, h2⟩ | ⟨h1, h2⟩
      · simp [h1, h2]; omega
      · simp [h1, h2]; omega
def settleC (L : Int) (cs : List Cel) (l : List Chg) (x n : Int) : Nat := ((allD L cs l n).filter (onB L x)).length
theorem settle_cnt {L O : Int} {cs : List Cel} {l : List Chg} (h : Right L O cs l) (n x : Int) (hx : untilN L l ≤ x) (hx0 : 0 ≤ x) :
    settleC L cs l x n = (inF L cs l x).countP (fun c => decide (c.frm = n)) + (inF L cs l x).countP (fun c => decide (c.to = n)) := by
  have hc := cnt_all h n x hx0
  unfold settleC
  rw [← List.countP_eq_length_filter, ← hc.1, ← hc.2]
  refine cnt_split fun d hd hon => ?_
  have := (settled h hx hd hon).1
  unfold sndB lstB
  rw [this]
  cases d.sends <;> simp
theorem settle_sum {L O : Int} {cs : List Cel} {l : List Chg} (h : Right L O cs l) (x : Int) (hx : untilN L l ≤ x) (hx0 : 0 ≤ x) :
    ((nodesL cs l).map (settleC L cs l x)).sum = 2 * (inF L cs l x).length := by
  have hi := in_nodes h x
  have : settleC L cs l x = fun n => (inF L cs l x).countP (fun c => decide (c.frm = n)) + (inF L cs l x).countP (fun c => decide (c.to = n)) := by
    funext n; exact settle_cnt h n x hx hx0
  rw [this, sum_add, hi.1, hi.2]; omega
def exB (d : Dut) : Bool := d.extra
theorem own_cnt {L O : Int} {cs : List Cel} {l : List Chg} (h : Right L O cs l) (n x : Int) (hx0 : 0 ≤ x) {d' : List Dut} (hp : d'.Perm ((allD L cs l n).filter (onB L x))) :
    (d'.filter fun d => !exB d).length = (inF L cs l x).countP (fun c => decide (c.frm = n) || decide (c.to = n)) := by
  have hc := cnt_all h n x hx0
  rw [one_node h n x, ← hc.1, ← hc.2, ← List.countP_eq_length_filter, hp.countP_eq, List.countP_filter]
  rw [cnt_split (p := fun a => (!exB a) && onB L x a) (q := sndB) (r := lstB)]
  · congr 1
    · apply List.countP_congr
      intro d hd
      constructor
      · intro k
        simp only [Bool.and_eq_true] at k ⊢
        exact ⟨k.1.2, k.2⟩
      · intro k
        simp only [Bool.and_eq_true] at k ⊢
        refine ⟨⟨?_, k.1⟩, k.2⟩
        have := ((duty_ok h hx0 hd k.1).1 k.2).1
        unfold exB
        rw [this]; rfl
    · apply List.countP_congr
      intro d hd
      constructor
      · intro k
        simp only [Bool.and_eq_true] at k ⊢
        exact ⟨k.1.2, k.2⟩
      · intro k
        simp only [Bool.and_eq_true] at k ⊢
        refine ⟨⟨?_, k.1⟩, k.2⟩
        have := k.2
        unfold lstB at this
        rw [Bool.and_eq_true] at this
        exact this.2
  · intro d hd k
    rw [Bool.and_eq_true] at k
    have := k.1
    unfold exB at this
    unfold sndB lstB
    rw [this]
    cases d.sends <;> simp
def cvB (c : Cel) (y : Int) (d : Dut) : Bool := !d.sends && (eqC d.cell c && (decide (d.first ≤ y) && (decide (d.til = -1) || decide (y < d.til))))
theorem around_ok {L O : Int} {cs : List Cel} {l : List Chg} (h : Right L O cs l) {n : Int} {d : Dut} (hd : d ∈ allD L cs l n) (hs : d.sends = true) {slot δ : Int} (h0 : 0 ≤ δ) (h1 : δ < L) (hin : d.first ≤ slot ∧ (d.til = -1 ∨ slot < d.til)) :
    (allD L cs l d.cell.to).any (cvB d.cell (slot + δ)) = true ∧ (0 ≤ slot - δ → (allD L cs l d.cell.to).any (cvB d.cell (slot - δ)) = true) := by
  obtain ⟨m1, m2, t, ht, hm⟩ := all_mem hd
  obtain ⟨_, hm⟩ := dut_mem hm
  have hne := (cell_ne h m1).1
  have hbd := h.bd ht
  have hm : d.first = t.1 ∧ d.til = t.2 := by
    rcases hm with hm | hm
    · exact ⟨hm.2.2.2.1, hm.2.2.2.2⟩
    · rw [hs] at hm; cases hm.2.1
  rw [hm.1, hm.2] at hin
  generalize d.cell = c at *
  have hall : ∀ e ∈ dutiesC c c.to L t, e ∈ allD L cs l c.to := fun e he => by
    unfold allD
    rw [List.mem_flatMap]
    refine ⟨c, m1, ?_⟩
    unfold cellD
    rw [if_neg (fun k => k.2 rfl), List.mem_flatMap]
    exact ⟨t, ht, he⟩
  have hlist : dutiesC c c.to L t = [⟨c, false, false, t.1, t.2⟩] ++ dut1 c L t ++ dut2 c L t := by
    unfold dutiesC; rw [if_neg hne]
  have a1 : (⟨c, false, false, t.1, t.2⟩ : Dut) ∈ allD L cs l c.to := hall _ (by rw [hlist]; simp)
  have a2 : t.1 ≠ 0 → (⟨c, false, true, max (t.1 - L) 0, t.1⟩ : Dut) ∈ allD L cs l c.to := fun k => hall _ (by rw [hlist]; unfold dut1; rw [if_neg k]; simp)
  have a3 : t.2 ≠ -1 → (⟨c, false, true, t.2, t.2 + L⟩ : Dut) ∈ allD L cs l c.to := fun k => hall _ (by rw [hlist]; unfold dut2; rw [if_neg k]; simp)
  have cv : ∀ y e, e ∈ allD L cs l c.to → e.sends = false → e.cell = c → e.first ≤ y → (e.til = -1 ∨ y < e.til) → (allD L cs l c.to).any (cvB c y) = true := fun y e k1 k2 k3 k4 k5 => by
    rw [List.any_eq_true]
    refine ⟨e, k1, ?_⟩
    unfold cvB eqC
    rw [k2, k3]
    simp only [Bool.not_false, Bool.true_and, decide_true, Bool.and_eq_true, decide_eq_true_eq, Bool.or_eq_true]
    exact ⟨k4, k5⟩
  refine ⟨?_, fun hb => ?_⟩
  · by_cases k : t.2 = -1 ∨ slot + δ < t.2
    · exact cv _ _ a1 rfl rfl (by show t.1 ≤ _; omega) k
    · refine cv _ _ (a3 (by omega)) rfl rfl ?_ (.inr ?_)
      · show t.2 ≤ _; omega
      · show _ < t.2 + L; omega
  · by_cases k : t.1 ≤ slot - δ
    · exact cv _ _ a1 rfl rfl k (by show t.2 = -1 ∨ _ < t.2; omega)
    · refine cv _ _ (a2 (by omega)) rfl rfl ?_ (.inr ?_)
      · show max (t.1 - L) 0 ≤ _; omega
      · show _ < t.1; omega
end Sw
end Go.Proofs.Ytdlgdmbcbenlbaa
namespace Go.Proofs.Ytdlgdmbcbenlbaa
open Go Go.RowKit Go.Sort
namespace Sw
open Mm
set_option maxRecDepth 100000 in
set_option maxHeartbeats 1000000 in
theorem idxI_any (A : Option Addr) (n cp : Nat) (xs : List Int) (x : Int) (w : World) (h : IntS w A n xs) :
    Calls Try.prog 75 #[.slice A n cp, .int .i64 x] w fun e w' => (∃ i : Int, e = .returned (.int .i64 i) ∧ decide (0 ≤ i) = decide (x ∈ xs)) ∧ w = w' := by
  have hlen := h.len
  have hs := h.small
  unfold maxLen at hs
  replace h := Lib.hid h
  replace hlen := Lib.hid hlen
  go_enter Try.func75, Try.ntmps75
  go_wp2_with fail
  go_loop [5, 8] (fun _ i => ∃ k : Nat, k ≤ n ∧ i = .int .i64 k ∧ Hid (∀ d ∈ xs.take k, x ≠ d)) (fun _ i => n - (intOf i).toNat)
  case atStart => exact ⟨0, by omega, rfl, fun d hd => by simp at hd⟩
  case round =>
    obtain ⟨k, hk, rfl, HP⟩ := hrel
    by_cases hlt : k < n
    · obtain ⟨b, off, rfl⟩ := h.out.addr (by omega)
      have hx := int_at h.out hlt
      have htk := take_snoc (xs := xs) (k := k) (by rw [hlen.out]; exact hlt)
      have hin : xs.getD k default ∈ xs := ok_at (P := (· ∈ xs)) (fun _ h => h) (by rw [hlen.out]; exact hlt)
      generalize xs.getD k default = y at *
      have r1 : (k : Int) < (n : Int) := by omega
      replace htk := Lib.hid htk
      replace hin := Lib.hid hin
      by_cases c : x = y
      · have d1 : (x == y) = true := by simpa using c
        have hm : decide (x ∈ xs) = true := by rw [c]; simpa using hin.out
        replace hm := Lib.hid hm
        replace c := Lib.hid c
        go_wp2
        go_ret
        exact ⟨⟨k, rfl, by have h := hm.out; simp only [decide_eq_true_eq] at h; exact ⟨fun _ => h, fun _ => by omega⟩⟩, rfl⟩
      · have d1 : (x == y) = false := by simpa using c
        have hP2 : Hid (∀ d ∈ xs.take (k + 1), x ≠ d) := fun d hd => by
          rw [htk.out, List.mem_append, List.mem_singleton] at hd
          rcases hd with hd | rfl
          · exact HP.out d hd
          · exact c
        replace c := Lib.hid c
        go_wp2
        go_round
        case rel => exact ⟨k + 1, by omega, by go_num, hP2⟩
        case measure => simp [intOf]; omega
    · obtain rfl : k = n := by omega
      have hm : decide (x ∈ xs) = false := by
        have := HP.out
        rw [List.take_of_length_le (by rw [hlen.out]; exact Nat.le_refl _)] at this
        rw [decide_eq_false_iff_not]
        exact fun h => this _ h rfl
      replace hm := Lib.hid hm
      go_wp2
      go_ret
      exact ⟨⟨-1, rfl, by have h := hm.out; simp only [decide_eq_false_iff_not] at h; exact ⟨fun k => absurd k (by decide), fun k => absurd k h⟩⟩, rfl⟩
theorem containsI_any (A : Option Addr) (n cp : Nat) (xs : List Int) (x : Int) (w : World) (h : IntS w A n xs) :
    Calls Try.prog 54 #[.slice A n cp, .int .i64 x] w fun e w' => e = .returned (.bool (decide (x ∈ xs))) ∧ w = w' := by
  have cI := idxI_any A n cp xs x w h
  generalize decide (x ∈ xs) = R at *
  replace h := Lib.hid h
  replace cI := Lib.hid cI
  go_enter Try.func54, Try.ntmps54
  go_wp2_with fail
  refine cI.out.mono ?_
  rintro e w1 ⟨⟨i, rfl, hi⟩, rfl⟩
  replace hi := Lib.hid hi
  go_wp2
  go_ret
  exact ⟨by rw [← hi.out]; rfl, rfl⟩
/-- a list of numbers so far, held by the box M: nothing below M has turned since W0 -/
structure NSt (W0 W : World) (M : Nat) (v : Value) (t : List Int) : Prop where
  below : Below M W0 W
  blk : Blk W M #[v] 48
  own : W.ownsRow (M + 1) 3 1 v t.length (t.flatMap intE)
theorem NSt.alloc {W0 W : World} {M : Nat} {v : Value} {t : List Int} (h : NSt W0 W M v t) (o : Obj) : NSt W0 (W.alloc o) M v t :=
  ⟨h.below.alloc (by have := h.blk.lt; omega) _, h.blk.alloc _, h.own.alloc _⟩
theorem NSt.push {W0 W : World} {M : Nat} {v : Value} {t : List Int} (h : NSt W0 W M v t) (x : Int) {g cap : Nat} {w1 : World} (hown : w1.ownsRow (M + 1) 3 1 (.slice (some ⟨g, 0, none⟩) (t.length + 1) cap) (t.length + 1) (t.flatMap intE ++ [.int .i64 x])) (hg : W.grownBy w1 v.ownBlock) :
    NSt W0 (w1.setCell ⟨M, 0, none⟩ (.slice (some ⟨g, 0, none⟩) (t.length + 1) cap)) M (.slice (some ⟨g, 0, none⟩) (t.length + 1) cap) (t ++ [x]) := by
  have hMl := h.blk.lt
  have hne : v.ownBlock ≠ some M := fun e => by have := (h.own.lt M e).1; omega
  have hb2 := Below.grownM h.below hg (by omega) (fun k hk => by have := (h.own.lt k hk).1; omega)
  have hk := h.blk.grown hg hne
  refine ⟨hb2.setCell (Nat.le_refl _) _, ?_, ?_⟩
  · have := hk.set 0 (.slice (some ⟨g, 0, none⟩) (t.length + 1) cap); simpa using this
  · have := ownsRow_setCell_below hown (a := ⟨M, 0, none⟩) (by simp) (.slice (some ⟨g, 0, none⟩) (t.length + 1) cap)
    rw [List.length_append, List.flatMap_append]
    exact this
def NPost (W0 : World) (M : Nat) (t : List Int) (e : Ending) (w' : World) : Prop := e = .returned (.tuple #[]) ∧ ∃ v, NSt W0 w' M v t
def pairN (out : List Int) (f t : Int) : Nat → List Int
  | 0 => out
  | 1 => addN out f
  | _ => addN (addN out f) t
theorem pairN_len (out : List Int) (f t : Int) (k : Nat) : (pairN out f t k).length ≤ out.length + 2 := by
  match k with
  | 0 => simp [pairN]
  | 1 => have := addN_len out f; simp only [pairN]; omega
  | k + 2 => have := addN_len (addN out f) t; have := addN_len out f; simp only [pairN]; omega
set_option maxRecDepth 100000 in
set_option maxHeartbeats 4000000 in
theorem addC_any (W0 W : World) (M : Nat) (v : Value) (out : List Int) (c : Cel) (h : NSt W0 W M v out) (hl : out.length ≤ 100000) :
    Calls Try.prog 53 #[.agg #[.int .i64 c.slot, .int .i64 c.offset, .int .i64 c.frm, .int .i64 c.to, .int .i64 c.flow], .pointer (some ⟨M, 0, none⟩)] W (NPost W0 M (addC out c)) := by
  obtain ⟨i0, hi, hz0, hz1, hz2⟩ := info_parts info_int
  obtain ⟨c0, c1, c2, c3, c4⟩ := c
  have hR : addC out ⟨c0, c1, c2, c3, c4⟩ = pairN out c2 c3 2 := rfl
  rw [hR]
  have hpl := pairN_len out c2 c3
  have BC := Box.new W #[.int .i64 c0, .int .i64 c1, .int .i64 c2, .int .i64 c3, .int .i64 c4] 34
  have kc := BC.at_
  have hMl := h.blk.lt
  have HN0 := (h.alloc (.cells #[.int .i64 c0, .int .i64 c1, .int .i64 c2, .int .i64 c3, .int .i64 c4] 34)).alloc (.cells #[.int .i64 c2, .int .i64 c3] 3)
  have BP0 := Blk.new (W.alloc (.cells #[.int .i64 c0, .int .i64 c1, .int .i64 c2, .int .i64 c3, .int .i64 c4] 34)) #[.int .i64 c2, .int .i64 c3] 3
  have hne0 : v.ownBlock ≠ some (W.alloc (.cells #[.int .i64 c0, .int .i64 c1, .int .i64 c2, .int .i64 c3, .int .i64 c4] 34)).heap.size := fun e => by
    have := (h.own.lt _ e).2
    rw [size1] at this; omega
  generalize hP : pairN out c2 c3 = P at *
  have hP0 : P 0 = out := by rw [← hP]; rfl
  have hPx : ∀ k, k < 2 → ∃ x, P (k + 1) = addN (P k) x ∧ (#[.int .i64 c2, .int .i64 c3] : Array Value)[k]? = some (.int .i64 x) := by
    intro k hk
    rcases (by omega : k = 0 ∨ k = 1) with rfl | rfl
    · exact ⟨c2, by rw [← hP]; rfl, rfl⟩
    · exact ⟨c3, by rw [← hP]; rfl, rfl⟩
  rw [← hP0] at HN0
  clear hP
  replace h := Lib.hid h
  replace hi := Lib.hid hi
  replace hz0 := Lib.hid hz0
  replace hz1 := Lib.hid hz1
  replace hz2 := Lib.hid hz2
  replace hpl := Lib.hid hpl
  replace BC := Lib.hid BC
  replace HN0 := Lib.hid HN0
  replace BP0 := Lib.hid BP0
  replace hne0 := Lib.hid hne0
  replace hPx := Lib.hid hPx
  replace hP0 := Lib.hid hP0
  go_enter Try.func53, Try.ntmps53
  go_wp2_with fail
  rw [size1] at *
  clear kc
  generalize hBp : W.heap.size + 1 = Bp at *
  generalize (W.alloc (.cells #[.int .i64 c0, .int .i64 c1, .int .i64 c2, .int .i64 c3, .int .i64 c4] 34)).alloc (.cells #[.int .i64 c2, .int .i64 c3] 3) = w1 at *
  replace hBp := Lib.hid hBp
  go_loopw [4, 11] (fun _ i wr => ∃ (k : Nat) (v : Value), k ≤ 2 ∧ i = .int .i64 k ∧ Hid (NSt W0 wr M v (P k)) ∧ Hid (Blk wr Bp #[.int .i64 c2, .int .i64 c3] 3) ∧ Hid (v.ownBlock ≠ some Bp)) (fun _ i _ => 2 - (intOf i).toNat)
  case atStart => exact ⟨0, v, by omega, rfl, HN0, BP0, hne0⟩
  case round =>
    clear HN0 BP0 hne0
    obtain ⟨k, v, hk, rfl, HN, BP, hne⟩ := hrel
    by_cases hlt : k < 2
    · obtain ⟨x, hx1, hx2⟩ := hPx.out k hlt
      have hpk := hpl.out k
      have kp := BP.out.cell k
      rw [hx2] at kp
      obtain ⟨A, c, rfl⟩ := own_slice HN.out.own
      have kb0 := HN.out.blk.cell 0
      have kf0 := HN.out.blk.free 0
      have cI := containsI_any A (P k).length c (P k) x wr (Sls.of_owns intE_len HN.out.own rfl).2
      have hMw := HN.out.blk.lt
      have hPB := BP.out.lt
      generalize P k = X at *
      have kb : wr.cell? ⟨M, 0, none⟩ = some (.slice A X.length c) := kb0
      have kf : wr.frozen? ⟨M, 0, none⟩ = false := kf0
      have r1 : (k : Int) < 2 := by omega
      clear kb0 kf0
      by_cases hm : x ∈ X
      · have hd : decide (x ∈ X) = true := by simpa using hm
        rw [hd] at cI
        have HN2 : Hid (NSt W0 wr M (.slice A X.length c) (P (k + 1))) := by
          show NSt _ _ _ _ _
          rw [hx1]; unfold addN; rw [if_pos hm]; exact HN.out
        replace cI := Lib.hid cI
        replace hd := Lib.hid hd
        replace hx1 := Lib.hid hx1
        replace hx2 := Lib.hid hx2
        replace hm := Lib.hid hm
        go_wp2_with fail
        refine cI.out.mono ?_
        rintro e w_ ⟨rfl, rfl⟩
        go_wp2
        go_roundw
        case rel => exact ⟨k + 1, _, by omega, by go_num, HN2, BP, hne⟩
        case measure => simp [intOf]; omega
      · have hd : decide (x ∈ X) = false := by simpa using hm
        rw [hd] at cI
        have HNa := Lib.hid (HN.out.alloc (.cells #[.int .i64 x] 3))
        have hnews := World.news_of_block (Blk.new wr #[.int .i64 x] 3).at_
        have hadd : addN X x = X ++ [x] := by unfold addN; rw [if_neg hm]
        replace cI := Lib.hid cI
        replace hd := Lib.hid hd
        replace hx1 := Lib.hid hx1
        replace hx2 := Lib.hid hx2
        replace hm := Lib.hid hm
        replace hnews := Lib.hid hnews
        replace hadd := Lib.hid hadd
        go_wp2_with fail
        refine cI.out.mono ?_
        rintro e w_ ⟨rfl, rfl⟩
        clear kp
        go_wp2_with (at_builtin; refine wpList_append_lies _ rfl _ _ _ rfl (M + 1) 3 i0 (.int .i64 0) 1 8 Try.underlying48 hi.out hz0.out hz1.out hz2.out rfl (by decide) (.slice A X.length c) X.length _ rfl HNa.out.own ⟨wr.heap.size, 0, none⟩ 1 1 [.int .i64 x] rfl rfl ?c1 ?c2 (by decide) ?c3 ?c4 ?c5 (wr.heap.size + 1) ?c6 ?_)
        try case c1 => exact hnews.out
        try case c2 => simp [Value.oneCell']
        try case c3 => unfold maxLen; omega
        try case c4 => omega
        try case c5 => first | omega | (simp; omega)
        try case c6 => first | rfl | simp
        intro g cap w2 hown1 hgrow1 hat1 hlt1
        have HN2 := Lib.hid (HNa.out.push x hown1 hgrow1)
        rw [← hadd.out, ← hx1.out] at HN2
        have BP2 := Lib.hid (((BP.out.alloc (.cells #[.int .i64 x] 3)).grown hgrow1 hne.out).other (p := ⟨M, 0, none⟩) (by have := hBp.out; show Bp ≠ M; omega) (.slice (some ⟨g, 0, none⟩) (X.length + 1) cap))
        have hne2 : Hid ((Value.slice (some ⟨g, 0, none⟩) (X.length + 1) cap).ownBlock ≠ some Bp) := by
          show _ ≠ _
          rcases hat1 with h | h
          · have e : (Value.slice (some ⟨g, 0, none⟩) (X.length + 1) cap).ownBlock = some g := rfl
            rw [e, ← h]; exact hne.out
          · intro e
            simp only [Value.ownBlock, Option.some.injEq] at e
            omega
        have hne1 : (Value.slice A X.length c).ownBlock ≠ some M := fun e => by have := (HN.out.own.lt M e).1; omega
        have hbk := (HN.out.blk.alloc (.cells #[.int .i64 x] 3)).grown hgrow1 hne1
        have kf2 := hbk.free 0
        have kb2 := hbk.cell 0
        clear hown1 hgrow1 hat1 kb kf hne1
        replace hbk := Lib.hid hbk
        go_wp2
        go_roundw
        case rel => exact ⟨k + 1, _, by omega, by go_num, HN2, BP2, hne2⟩
        case measure => simp [intOf]; omega
    · obtain rfl : k = 2 := by omega
      go_wp2
      go_end0
      exact ⟨rfl, _, HN.out⟩
def NodesPost (ns : List Int) (w : World) (e : Ending) (w' : World) : Prop := ∃ A c, e = .returned (.slice A ns.length c) ∧ IntS w' A ns.length ns ∧ Below w.heap.size w w'
set_option maxRecDepth 100000 in
set_option maxHeartbeats 4000000 in
theorem nodes_any (L O : Int) (A : Option Addr) (n cp : Nat) (cs : List Cel) (B : Option Addr) (m cq : Nat) (l : List Chg) (w : World) (h1 : CelS w A n cs) (h2 : ChgS w B m l) (hn : n ≤ 10000) (hm : m ≤ 10000) :
    Calls Try.prog 23 #[.agg #[.int .i64 L, .int .i64 O, .slice A n cp], .slice B m cq] w (NodesPost (nodesL cs l) w) := by
  have hl1 := h1.len
  have hl2 := h2.len
  have hb1 := ball w (.cells #[.int .i64 L, .int .i64 O, .slice A n cp] 24)
  have hb2 := ballN hb1 (.cells #[.slice none 0 0] 48)
  have BX := (Box.new w #[.int .i64 L, .int .i64 O, .slice A n cp] 24).alloc (.cells #[.slice none 0 0] 48)
  have hsz : (w.alloc (.cells #[.int .i64 L, .int .i64 O, .slice A n cp] 24)).heap.size = w.heap.size + 1 := size1 _ _
  have hT0 : NSt (w.alloc (.cells #[.int .i64 L, .int .i64 O, .slice A n cp] 24)) ((w.alloc (.cells #[.int .i64 L, .int .i64 O, .slice A n cp] 24)).alloc (.cells #[.slice none 0 0] 48)) (w.heap.size + 1) (.slice none 0 0) [] := by
    rw [← hsz]; exact ⟨ball _ _, Blk.new _ _ _, World.ownsRow_nil _ _ _ _⟩
  -- the lists so far
  have hA0 : (cs.take 0).foldl addC [] = [] := rfl
  have hAs := fun k (hk : k < cs.length) => (by rw [take_snoc hk, List.foldl_append]; rfl : (cs.take (k + 1)).foldl addC [] = addC ((cs.take k).foldl addC []) (cs.getD k default))
  have hAl := fun k (hk : k ≤ cs.length) => (by
    have := (fold_nodes (fun c : Cel => c) (cs.take k) [] (by simp)).2.2
    rw [List.length_take] at this
    simp only [List.length_nil] at this
    exact Nat.le_trans this (by omega) : ((cs.take k).foldl addC []).length ≤ 20000)
  have hAn : (cs.take cs.length).foldl addC [] = nodesC cs := by rw [List.take_length]; rfl
  have hB0 : (l.take 0).foldl (fun o x => addC o x.cell) (nodesC cs) = nodesC cs := rfl
  have hBs := fun k (hk : k < l.length) => (by rw [take_snoc hk, List.foldl_append]; rfl : (l.take (k + 1)).foldl (fun o x => addC o x.cell) (nodesC cs) = addC ((l.take k).foldl (fun o x => addC o x.cell) (nodesC cs)) (l.getD k default).cell)
  have hBl := fun k (hk : k ≤ l.length) => (by
    have hc : (nodesC cs).length ≤ 0 + 2 * cs.length := (fold_nodes (fun c : Cel => c) cs [] (by simp)).2.2
    have h0 : (nodesC cs).Nodup := (fold_nodes (fun c : Cel => c) cs [] (by simp)).1
    have := (fold_nodes (fun x : Chg => x.cell) (l.take k) (nodesC cs) h0).2.2
    rw [List.length_take] at this
    exact Nat.le_trans this (by omega) : ((l.take k).foldl (fun o x => addC o x.cell) (nodesC cs)).length ≤ 40000)
  have hBn : (l.take l.length).foldl (fun o x => addC o x.cell) (nodesC cs) = nodesL cs l := by rw [List.take_length]; rfl
  generalize hFA : (fun k => (cs.take k).foldl addC []) = FA at *
  generalize hFB : (fun k => (l.take k).foldl (fun o x => addC o x.cell) (nodesC cs)) = FB at *
  have hA0' : FA 0 = [] := by rw [← hFA]; exact hA0
  have hAs' : ∀ k, k < cs.length → FA (k + 1) = addC (FA k) (cs.getD k default) := by rw [← hFA]; exact hAs
  have hAl' : ∀ k, k ≤ cs.length → (FA k).length ≤ 20000 := by rw [← hFA]; exact hAl
  have hB0' : FB 0 = FA cs.length := by rw [← hFB, ← hFA]; show nodesC cs = (cs.take cs.length).foldl addC []; rw [hAn]
  have hBs' : ∀ k, k < l.length → FB (k + 1) = addC (FB k) (l.getD k default).cell := by rw [← hFB]; exact hBs
  have hBl' : ∀ k, k ≤ l.length → (FB k).length ≤ 40000 := by rw [← hFB]; exact hBl
  have hBn' : FB l.length = nodesL cs l := by rw [← hFB]; exact hBn
  clear hA0 hAs hAl hAn hB0 hBs hBl hBn hFA hFB
  generalize nodesL cs l = NL at *
  rw [← hA0'] at hT0
  rw [hl1] at hB0'
  rw [hl2] at hBn'
  replace h1 := Lib.hid h1
  replace h2 := Lib.hid h2
  replace hl1 := Lib.hid hl1
  replace hl2 := Lib.hid hl2
  replace hb1 := Lib.hid hb1
  replace hb2 := Lib.hid hb2
  replace BX := Lib.hid BX
  replace hsz := Lib.hid hsz
  replace hT0 := Lib.hid hT0
  replace hA0' := Lib.hid hA0'
  replace hAs' := Lib.hid hAs'
  replace hAl' := Lib.hid hAl'
  replace hB0' := Lib.hid hB0'
  replace hBs' := Lib.hid hBs'
  replace hBl' := Lib.hid hBl'
  replace hBn' := Lib.hid hBn'
  have kx := BX.out.at_
  go_enter Try.func23, Try.ntmps23
  go_wp2_with fail
  clear kx
  generalize (w.alloc (.cells #[.int .i64 L, .int .i64 O, .slice A n cp] 24)).alloc (.cells #[.slice none 0 0] 48) = w1 at *
  generalize hW0 : w.alloc (.cells #[.int .i64 L, .int .i64 O, .slice A n cp] 24) = W0 at *
  have hWs := hsz.out
  generalize hMM : w.heap.size + 1 = M at *
  have hbW : ∀ W, Below M W0 W → Below w.heap.size w W := fun W h => hb1.out.trans (h.mono (by omega))
  have cB := fun W v t c (h : NSt W0 W M v t) (hl : t.length ≤ 100000) => addC_any W0 W M v t c h hl
  replace hW0 := Lib.hid hW0
  replace hMM := Lib.hid hMM
  replace hbW := Lib.hid hbW
  replace cB := Lib.hid cB
  replace hWs := Lib.hid hWs
  go_loopw [15] (fun i wr => ∃ (k : Nat) (v : Value), k ≤ n ∧ i = .int .i64 k ∧ Hid (NSt W0 wr M v (FA k))) (fun i _ => n - (intOf i).toNat)
  case atStart => exact ⟨0, _, by omega, rfl, hT0⟩
  case round =>
    clear hT0
    obtain ⟨k, v, hk, rfl, HN⟩ := hrel
    have HBw := Lib.hid (hbW.out wr HN.out.below)
    by_cases hlt : k < n
    · obtain ⟨b, off, rfl⟩ := h1.out.addr (by omega)
      have hx := cel_at (h1.out.keep HBw.out) hlt
      have hs := hAs'.out k (by rw [hl1.out]; exact hlt)
      have hl := hAl'.out k (by rw [hl1.out]; exact hk)
      generalize cs.getD k default = c at *
      obtain ⟨y0, y1, y2, y3, y4⟩ := c
      obtain ⟨q0, q1, q2, q3, q4⟩ := hx
      dsimp only at q0 q1 q2 q3 q4 hs
      have BC := Box.new wr #[.int .i64 y0, .int .i64 y1, .int .i64 y2, .int .i64 y3, .int .i64 y4] 34
      have kc := BC.at_
      have HNa := Lib.hid (HN.out.alloc (.cells #[.int .i64 y0, .int .i64 y1, .int .i64 y2, .int .i64 y3, .int .i64 y4] 34))
      have cB2 := cB.out _ v _ ⟨y0, y1, y2, y3, y4⟩ HNa.out (by omega)
      rw [← hs] at cB2
      have r1 : (k : Int) < (n : Int) := by omega
      replace BC := Lib.hid BC
      replace hs := Lib.hid hs
      replace cB2 := Lib.hid cB2
      go_wp2_with fail
      refine cB2.out.mono ?_
      rintro e w2 ⟨rfl, v2, hN2⟩
      replace hN2 := Lib.hid hN2
      clear kc q0 q1 q2 q3 q4
      go_wp2
      go_roundw
      case rel => exact ⟨k + 1, _, by omega, by go_num, hN2⟩
      case measure => simp [intOf]; omega
    · obtain rfl : k = n := by omega
      have HN1 := HN.out
      rw [← hB0'.out] at HN1
      replace HN1 := Lib.hid HN1
      clear HN
      go_wp2_with fail
      go_loopw [25] (fun i wr => ∃ (k : Nat) (v : Value), k ≤ m ∧ i = .int .i64 k ∧ Hid (NSt W0 wr M v (FB k))) (fun i _ => m - (intOf i).toNat)
      case atStart => exact ⟨0, _, by omega, rfl, HN1⟩
      case round =>
        clear HN1
        obtain ⟨k, v, hk, rfl, HN⟩ := hrel
        have HBw := Lib.hid (hbW.out wr HN.out.below)
        by_cases hlt : k < m
        · obtain ⟨b, off, rfl⟩ := h2.out.addr (by omega)
          have hx := chg_at (h2.out.keep HBw.out) hlt
          have hs := hBs'.out k (by rw [hl2.out]; exact hlt)
          have hl := hBl'.out k (by rw [hl2.out]; exact hk)
          generalize l.getD k default = c at *
          obtain ⟨ys, ya, y0, y1, y2, y3, y4⟩ := c
          obtain ⟨q0, q1, q2, q3, q4, q5, q6⟩ := hx
          dsimp only at q0 q1 q2 q3 q4 q5 q6 hs
          have BC := Box.new wr #[.int .i64 ys, .bool ya, .int .i64 y0, .int .i64 y1, .int .i64 y2, .int .i64 y3, .int .i64 y4] 56
          have kc := BC.at_
          have HNa := Lib.hid (HN.out.alloc (.cells #[.int .i64 ys, .bool ya, .int .i64 y0, .int .i64 y1, .int .i64 y2, .int .i64 y3, .int .i64 y4] 56))
          have cB2 := cB.out _ v _ ⟨y0, y1, y2, y3, y4⟩ HNa.out (by omega)
          rw [← hs] at cB2
          have r1 : (k : Int) < (m : Int) := by omega
          replace BC := Lib.hid BC
          replace hs := Lib.hid hs
          replace cB2 := Lib.hid cB2
          go_wp2_with fail
          refine cB2.out.mono ?_
          rintro e w2 ⟨rfl, v2, hN2⟩
          replace hN2 := Lib.hid hN2
          clear kc q0 q1 q2 q3 q4 q5 q6
          go_wp2
          go_roundw
          case rel => exact ⟨k + 1, _, by omega, by go_num, hN2⟩
          case measure => simp [intOf]; omega
        · obtain rfl : k = m := by omega
          have HN1 := HN.out
          rw [hBn'.out] at HN1
          obtain ⟨A7, c7, rfl⟩ := own_slice HN1.own
          have kv0 := HN1.blk.cell 0
          have kv : wr.cell? ⟨M, 0, none⟩ = some (.slice A7 NL.length c7) := kv0
          have hI := (Sls.of_owns intE_len HN1.own rfl).2
          clear kv0 HN
          replace HN1 := Lib.hid HN1
          replace hI := Lib.hid hI
          go_wp2
          go_ret
          exact ⟨A7, c7, rfl, hI.out, HBw.out⟩
end Sw
end Go.Proofs.Ytdlgdmbcbenlbaa
namespace Go.Proofs.Ytdlgdmbcbenlbaa
open Go Go.RowKit Go.Sort
namespace Sw
open Mm
theorem eIn1 : ∀ args w, (callFunc 60 args).run Try.prog w = .ok (.enter 60 args) w := enters_of Try.func60 (by kernel_rfl) rfl
theorem eIn2 : ∀ args w, (callFunc 61 args).run Try.prog w = .ok (.enter 61 args) w := enters_of Try.func61 (by kernel_rfl) rfl
set_option maxRecDepth 100000 in
set_option maxHeartbeats 1000000 in
theorem in1_any (c : Cel) (xs : Int) (xa : Bool) (d : Cel) (B : Nat) (w : World) (h : Box w B #[.int .i64 xs, .bool xa, .int .i64 d.slot, .int .i64 d.offset, .int .i64 d.frm, .int .i64 d.to, .int .i64 d.flow]) :
    Calls Try.prog 60 (#[.agg #[.int .i64 c.slot, .int .i64 c.offset, .int .i64 c.frm, .int .i64 c.to, .int .i64 c.flow]] ++ #[.pointer (some ⟨B, 0, none⟩)]) w fun e w' => e = .returned (.bool (eqC c d)) ∧ Below w.heap.size w w' := by
  show Calls Try.prog 60 #[.agg #[.int .i64 c.slot, .int .i64 c.offset, .int .i64 c.frm, .int .i64 c.to, .int .i64 c.flow], .pointer (some ⟨B, 0, none⟩)] w _
  have hbw := ball w (.cells #[.int .i64 c.slot, .int .i64 c.offset, .int .i64 c.frm, .int .i64 c.to, .int .i64 c.flow] 34)
  have BC := Box.new w #[.int .i64 c.slot, .int .i64 c.offset, .int .i64 c.frm, .int .i64 c.to, .int .i64 c.flow] 34
  have BX := h.alloc (.cells #[.int .i64 c.slot, .int .i64 c.offset, .int .i64 c.frm, .int .i64 c.to, .int .i64 c.flow] 34)
  have ke := fun W => eql_cel c d W
  generalize eqC c d = R at *
  obtain ⟨c0, c1, c2, c3, c4⟩ := c
  obtain ⟨d0, d1, d2, d3, d4⟩ := d
  dsimp only at *
  have kc := BC.at_
  have kx := BX.at_
  replace h := Lib.hid h
  replace hbw := Lib.hid hbw
  replace BC := Lib.hid BC
  replace BX := Lib.hid BX
  go_enter Try.func60, Try.ntmps60
  go_wp2
  go_ret
  exact ⟨rfl, hbw.out⟩
set_option maxRecDepth 100000 in
set_option maxHeartbeats 1000000 in
theorem in2_any (c : Cel) (L O x : Int) (A : Option Addr) (n cp : Nat) (B1 B2 : Nat) (w : World) (h1 : Box w B1 #[.int .i64 x]) (h2 : Box w B2 #[.int .i64 L, .int .i64 O, .slice A n cp]) (hL : 1 ≤ L ∧ L ≤ 512) (hx : 0 ≤ x) :
    Calls Try.prog 61 (#[.agg #[.int .i64 c.slot, .int .i64 c.offset, .int .i64 c.frm, .int .i64 c.to, .int .i64 c.flow]] ++ #[.pointer (some ⟨B1, 0, none⟩), .pointer (some ⟨B2, 0, none⟩)]) w fun e w' => e = .returned (.bool (offB L x c)) ∧ Below w.heap.size w w' := by
  show Calls Try.prog 61 #[.agg #[.int .i64 c.slot, .int .i64 c.offset, .int .i64 c.frm, .int .i64 c.to, .int .i64 c.flow], .pointer (some ⟨B1, 0, none⟩), .pointer (some ⟨B2, 0, none⟩)] w _
  have hbw := ball w (.cells #[.int .i64 c.slot, .int .i64 c.offset, .int .i64 c.frm, .int .i64 c.to, .int .i64 c.flow] 34)
  have BC := Box.new w #[.int .i64 c.slot, .int .i64 c.offset, .int .i64 c.frm, .int .i64 c.to, .int .i64 c.flow] 34
  have BX := h1.alloc (.cells #[.int .i64 c.slot, .int .i64 c.offset, .int .i64 c.frm, .int .i64 c.to, .int .i64 c.flow] 34)
  have BY := h2.alloc (.cells #[.int .i64 c.slot, .int .i64 c.offset, .int .i64 c.frm, .int .i64 c.to, .int .i64 c.flow] 34)
  have htm : x.tmod L = x % L := Int.tmod_eq_emod_of_nonneg hx
  have hm0 : 0 ≤ x % L := Int.emod_nonneg x (by omega)
  have hm1 : x % L < L := Int.emod_lt_of_pos x (by omega)
  have hR : offB L x c = (c.slot != x % L) := rfl
  generalize offB L x c = R at *
  generalize x % L = M at *
  have hwM : IntKind.i64.wrap M = M := by rw [IntKind.wrap_i64]; omega
  obtain ⟨c0, c1, c2, c3, c4⟩ := c
  dsimp only at *
  have hL1 := hL.1
  have hL0 : L ≠ 0 := by omega
  have hL2 : (L == 0) = false := by simpa using hL0
  have hL3 : (L == -1) = false := by simp; omega
  have gc := BC.grown
  have gx := BX.grown
  have gy := BY.grown
  clear hL
  replace h1 := Lib.hid h1
  replace h2 := Lib.hid h2
  replace hbw := Lib.hid hbw
  replace BC := Lib.hid BC
  replace BX := Lib.hid BX
  replace BY := Lib.hid BY
  replace hR := Lib.hid hR
  replace hL0 := Lib.hid hL0
  generalize hW : w.alloc (.cells #[.int .i64 c0, .int .i64 c1, .int .i64 c2, .int .i64 c3, .int .i64 c4] 34) = w1 at *
  by_cases c1' : c0 = M
  · have d1 : (c0 != M) = false := by rw [bne_eq_false_iff_eq]; exact c1'
    replace c1' := Lib.hid c1'
    go_enter Try.func61, Try.ntmps61
    go_wp2_with fail
    refine wp_region_quiet_below (by kernel_rfl) (by kernel_rfl) ?_
    repeat (go_big_quiet_step (fail))
    refine wpQuiet_nil ?_
    rintro _ ⟨⟨dq, osq⟩, rfl⟩
    have hb_ := below_regrown w1 dq osq
    replace hbw := Lib.hid (hbw.out.keep hb_)
    generalize grow (redrawn w1 dq) osq = w2 at *
    clear hb_
    go_wp2
    go_ret
    exact ⟨by rw [hR.out, d1]; rfl, hbw.out⟩
  · have d1 : (c0 != M) = true := by rw [bne_iff_ne]; exact c1'
    replace c1' := Lib.hid c1'
    go_enter Try.func61, Try.ntmps61
    go_wp2_with fail
    refine wp_region_quiet_below (by kernel_rfl) (by kernel_rfl) ?_
    repeat (go_big_quiet_step (fail))
    refine wpQuiet_nil ?_
    rintro _ ⟨⟨dq, osq⟩, rfl⟩
    have hb_ := below_regrown w1 dq osq
    replace hbw := Lib.hid (hbw.out.keep hb_)
    generalize grow (redrawn w1 dq) osq = w2 at *
    clear hb_
    go_wp2
    go_ret
    exact ⟨by rw [hR.out, d1]; rfl, hbw.out⟩
def InPost (ns : List Cel) (w : World) (e : Ending) (w' : World) : Prop := ∃ A c, e = .returned (.slice A ns.length c) ∧ CelS w' A ns.length ns ∧ Below w.heap.size w w'
theorem stepF_len (x : Int) (all : List Cel) (ch : Chg) : (stepF x all ch).length ≤ all.length + 1 := by
  unfold stepF
  split
  · omega
  · split
    · simp
    · have := List.length_filter_le (fun c => !eqC c ch.cell) all; omega
theorem allF_len (cs : List Cel) (x : Int) (l : List Chg) : (allF cs l x).length ≤ cs.length + l.length := by
  unfold allF
  induction l generalizing cs with
  | nil => simp
  | cons ch l ih =>
    rw [List.foldl_cons]
    have := ih (stepF x cs ch)
    have := stepF_len x cs ch
    rw [List.length_cons]; omega
theorem _root_.Go.Proofs.Ytdlgdmbcbenlbaa.Mm.Blk.box {w : World} {B : Nat} {C : Array Value} {t : TypeId} (h : Blk w B C t) : Box w B C := Box.of_blk h
set_option maxRecDepth 100000 in
set_option maxHeartbeats 8000000 in
theorem inF_any (L O : Int) (A : Option Addr) (n cp : Nat) (cs : List Cel) (B : Option Addr) (m cq : Nat) (l : List Chg) (x : Int) (w : World) (h1 : CelS w A n cs) (h2 : ChgS w B m l) (hn : n ≤ 10000) (hm : m ≤ 10000) (hL : 1 ≤ L ∧ L ≤ 512) (hx : 0 ≤ x) :
    Calls Try.prog 28 #[.agg #[.int .i64 L, .int .i64 O, .slice A n cp], .slice B m cq, .int .i64 x] w (InPost (inF L cs l x) w) := by
  obtain ⟨i0, hi, hz0, hz1, hz2⟩ := info_parts info_cel
  have hl1 := h1.len
  have hl2 := h2.len
  have hb1 := ballN (ball w (.cells #[.int .i64 L, .int .i64 O, .slice A n cp] 24)) (.cells #[.int .i64 x] 3)
  have BX := (Blk.new w #[.int .i64 L, .int .i64 O, .slice A n cp] 24).alloc (.cells #[.int .i64 x] 3)
  have BS := Blk.new (w.alloc (.cells #[.int .i64 L, .int .i64 O, .slice A n cp] 24)) #[.int .i64 x] 3
  rw [size1] at BS
  have hA0 : allF cs (l.take 0) x = cs := rfl
  have hAs := fun k (hk : k < l.length) => (by rw [take_snoc hk, allF_snoc] : allF cs (l.take (k + 1)) x = stepF x (allF cs (l.take k) x) (l.getD k default))
  have hAl := fun k (hk : k ≤ l.length) => (by
    have := allF_len cs x (l.take k)
    rw [List.length_take] at this
    exact Nat.le_trans this (by omega) : (allF cs (l.take k) x).length ≤ 20000)
  have hR : inF L cs l x = (allF cs (l.take l.length) x).filter (fun c => !offB L x c) := by rw [List.take_length]; rfl
  generalize inF L cs l x = R at *
  have cC := fun W (k1 : CelS W A n cs) => cloneC_any A n cp cs W k1 (by omega)
  generalize hFA : (fun k => allF cs (l.take k) x) = F at *
  have hA0' : F 0 = cs := by rw [← hFA]; exact hA0
  have hAs' : ∀ k, k < l.length → F (k + 1) = stepF x (F k) (l.getD k default) := by rw [← hFA]; exact hAs
  have hAl' : ∀ k, k ≤ l.length → (F k).length ≤ 20000 := by rw [← hFA]; exact hAl
  have hR' : R = (F l.length).filter (fun c => !offB L x c) := by rw [← hFA]; exact hR
  clear hA0 hAs hAl hR hFA
  rw [hl2] at hR'
  have kx := BX.box.at_
  replace h1 := Lib.hid h1
  replace h2 := Lib.hid h2
  replace hl1 := Lib.hid hl1
  replace hl2 := Lib.hid hl2
  replace hb1 := Lib.hid hb1
  replace BX := Lib.hid BX
  replace BS := Lib.hid BS
  replace hA0' := Lib.hid hA0'
  replace hAs' := Lib.hid hAs'
  replace hAl' := Lib.hid hAl'
  replace hR' := Lib.hid hR'
  replace cC := Lib.hid cC
  replace hi := Lib.hid hi
  replace hz0 := Lib.hid hz0
  replace hz1 := Lib.hid hz1
  replace hz2 := Lib.hid hz2
  go_enter Try.func28, Try.ntmps28
  go_wp2_with fail
  clear kx
  generalize (w.alloc (.cells #[.int .i64 L, .int .i64 O, .slice A n cp] 24)).alloc (.cells #[.int .i64 x] 3) = w1 at *
  refine (cC.out w1 (h1.out.keep hb1.out)).mono ?_
  rintro e w2 ⟨A2, c2, rfl, ho2, hb_⟩
  have HB2 := Lib.hid hb_
  rw [← hl1.out, ← hA0'.out] at ho2
  rw [← hl1.out, ← hA0'.out]
  have HO2 : Hid (∃ v, v = (.slice A2 (F 0).length c2 : Value) ∧ w2.ownsRow w1.heap.size 34 5 v (F 0).length ((F 0).flatMap celE)) := ⟨_, rfl, ho2⟩
  clear hb_ ho2 cC
  go_wp2_with fail
  go_loopw [7, 15] (fun s7 i wr => ∃ (k : Nat) (v : Value), k ≤ m ∧ i = .int .i64 k ∧ v = s7 ∧ Hid (wr.ownsRow w1.heap.size 34 5 v (F k).length ((F k).flatMap celE)) ∧ Hid (Below w1.heap.size w1 wr)) (fun _ i _ => m - (intOf i).toNat)
  case atStart =>
    obtain ⟨v, rfl, hv⟩ := HO2.out
    exact ⟨0, _, by omega, rfl, rfl, hv, HB2⟩
  case round =>
    clear HO2 HB2
    obtain ⟨k, v, hk, rfl, rfl, HO, HB⟩ := hrel
    have HBw := Lib.hid (bthen hb1.out HB.out)
    have hs1 := HB.out.size
    by_cases hlt : k < m
    · obtain ⟨b, off, rfl⟩ := h2.out.addr (by omega)
      have hx := chg_at (h2.out.keep HBw.out) hlt
      have hfs := hAs'.out k (by rw [hl2.out]; exact hlt)
      have hfl := hAl'.out k (by rw [hl2.out]; exact hk)
      generalize l.getD k default = ch at *
      obtain ⟨ys, ya, y0, y1, y2, y3, y4⟩ := ch
      obtain ⟨q0, q1, q2, q3, q4, q5, q6⟩ := hx
      dsimp only at q0 q1 q2 q3 q4 q5 q6 hfs
      have BC := Blk.new wr #[.int .i64 ys, .bool ya, .int .i64 y0, .int .i64 y1, .int .i64 y2, .int .i64 y3, .int .i64 y4] 56
      have HBb := ballN HB.out (.cells #[.int .i64 ys, .bool ya, .int .i64 y0, .int .i64 y1, .int .i64 y2, .int .i64 y3, .int .i64 y4] 56)
      have HOb := HO.out.alloc (.cells #[.int .i64 ys, .bool ya, .int .i64 y0, .int .i64 y1, .int .i64 y2, .int .i64 y3, .int .i64 y4] 56)
      have BSb := ((BS.out.keep HB.out).alloc (.cells #[.int .i64 ys, .bool ya, .int .i64 y0, .int .i64 y1, .int .i64 y2, .int .i64 y3, .int .i64 y4] 56)).box
      have kc := BC.box.at_
      have ks0 := BSb.at_ 0
      have ks : (wr.alloc (.cells #[.int .i64 ys, .bool ya, .int .i64 y0, .int .i64 y1, .int .i64 y2, .int .i64 y3, .int .i64 y4] 56)).cell? ⟨w.heap.size + 1, 0, none⟩ = some (.int .i64 x) := ks0
      have r1 : (k : Int) < (m : Int) := by omega
      clear ks0
      replace BC := Lib.hid BC
      replace HBb := Lib.hid HBb
      replace HOb := Lib.hid HOb
      replace BSb := Lib.hid BSb
      unfold stepF at hfs
      by_cases c1 : x < ys
      · rw [if_pos c1] at hfs
        have HO3 : Hid ((wr.alloc (.cells #[.int .i64 ys, .bool ya, .int .i64 y0, .int .i64 y1, .int .i64 y2, .int .i64 y3, .int .i64 y4] 56)).ownsRow w1.heap.size 34 5 v (F (k + 1)).length ((F (k + 1)).flatMap celE)) := by
          show World.ownsRow _ _ _ _ _ _ _
          rw [hfs]; exact HOb.out
        replace hfs := Lib.hid hfs
        go_wp2
        go_roundw
        case rel => exact ⟨k + 1, _, by omega, by go_num, rfl, HO3, HBb⟩
        case measure => simp [intOf]; omega
      · rw [if_neg c1] at hfs
        have d1 : decide (x < ys) = false := by simpa using c1
        replace c1 := Lib.hid c1
        cases ya with
        | true =>
          rw [if_pos rfl] at hfs
          have hN1 : (F (k + 1)).length = (F k).length + 1 := by rw [hfs]; simp
          have hN2 : (F (k + 1)).flatMap celE = (F k).flatMap celE ++ [.int .i64 y0, .int .i64 y1, .int .i64 y2, .int .i64 y3, .int .i64 y4] := by rw [hfs, List.flatMap_append]; rfl
          have HOa := HOb.out.alloc (.cells #[.int .i64 y0, .int .i64 y1, .int .i64 y2, .int .i64 y3, .int .i64 y4] 34)
          have HBa := ballN HBb.out (.cells #[.int .i64 y0, .int .i64 y1, .int .i64 y2, .int .i64 y3, .int .i64 y4] 34)
          have hnews := World.news_of_block (Blk.new (wr.alloc (.cells #[.int .i64 ys, .bool true, .int .i64 y0, .int .i64 y1, .int .i64 y2, .int .i64 y3, .int .i64 y4] 56)) #[.int .i64 y0, .int .i64 y1, .int .i64 y2, .int .i64 y3, .int .i64 y4] 34).at_
          rw [size1] at hnews
          clear hfs HO
          generalize (F k).flatMap celE = XF at *
          generalize (F k).length = q at *
          replace HOa := Lib.hid HOa
          replace HBa := Lib.hid HBa
          replace hnews := Lib.hid hnews
          replace hN1 := Lib.hid hN1
          replace hN2 := Lib.hid hN2
          go_wp2_with (at_builtin; refine wpList_append_lies _ rfl _ _ _ rfl w1.heap.size 34 i0 (.agg #[.int .i64 0, .int .i64 0, .int .i64 0, .int .i64 0, .int .i64 0]) 5 40 Try.underlying22 hi.out hz0.out hz1.out hz2.out rfl (by decide) v q _ rfl HOa.out ⟨wr.heap.size + 1, 0, none⟩ 1 1 [.int .i64 y0, .int .i64 y1, .int .i64 y2, .int .i64 y3, .int .i64 y4] rfl rfl ?c1 ?c2 (by decide) ?c3 ?c4 ?c5 (wr.heap.size + 1 + 1) ?c6 ?_)
          try case c1 => exact hnews.out
          try case c2 => simp [Value.oneCell']
          try case c3 => unfold maxLen; omega
          try case c4 => omega
          try case c5 => first | omega | (simp; omega)
          try case c6 => first | rfl | simp
          intro g cap w5 hown1 hgrow1 hat1 hlt1
          have HO5 : Hid (w5.ownsRow w1.heap.size 34 5 (.slice (some ⟨g, 0, none⟩) (q + 1) cap) (F (k + 1)).length ((F (k + 1)).flatMap celE)) := by
            show World.ownsRow _ _ _ _ _ _ _
            rw [hN1.out, hN2.out]; exact hown1
          have HB5 := Lib.hid (below_append HBa.out HOa.out hgrow1 (Nat.le_refl _))
          clear hown1 hgrow1 hat1 kc ks q0 q1 q2 q3 q4 q5 q6
          go_wp2
          go_roundw
          case rel => exact ⟨k + 1, _, by omega, by go_num, rfl, HO5, HB5⟩
          case measure => simp [intOf]; omega
        | false =>
          rw [if_neg (by simp)] at hfs
          obtain ⟨A3, c3, rfl⟩ := own_slice HOb.out
          have hrb := row_ne_blk HOb.out BC.out (by decide)
          have cD := delFnC_any 60 #[.pointer (some ⟨wr.heap.size, 0, none⟩)] (fun c => eqC c ⟨y0, y1, y2, y3, y4⟩) A3 (F k).length c3 w1.heap.size (F k) _ eIn1 HOb.out (by omega) (fun c _ W hg => in1_any c ys false ⟨y0, y1, y2, y3, y4⟩ wr.heap.size W (BC.out.grown hg hrb).box)
          obtain ⟨p, hp⟩ : ∃ p, p = fun c => eqC c ⟨y0, y1, y2, y3, y4⟩ := ⟨_, rfl⟩
          have hN : Hid (F (k + 1) = (F k).filter fun c => !p c) := by show _ = _; rw [hp]; exact hfs
          rw [← hp] at cD
          replace hp := Lib.hid hp
          clear hfs hrb HO
          replace cD := Lib.hid cD
          go_wp2_with fail
          refine cD.out.mono ?_
          rintro e w5 ⟨mm, rfl, hmm, ho5, hg5⟩
          have HO5 : Hid (w5.ownsRow w1.heap.size 34 5 (.slice A3 mm c3) (F (k + 1)).length ((F (k + 1)).flatMap celE)) := by
            show World.ownsRow _ _ _ _ _ _ _
            rw [hN.out, ← hmm]; exact ho5
          have HB5 := Lib.hid (below_append HBb.out HOb.out hg5 (Nat.le_refl _))
          clear ho5 hg5 kc ks q0 q1 q2 q3 q4 q5 q6 cD hmm
          go_wp2
          go_roundw
          case rel => exact ⟨k + 1, _, by omega, by go_num, rfl, HO5, HB5⟩
          case measure => simp [intOf]; omega
    · obtain rfl : k = m := by omega
      obtain ⟨A3, c3, rfl⟩ := own_slice HO.out
      have hfl := hAl'.out k (by rw [hl2.out]; exact Nat.le_refl _)
      have hrb : (Value.slice A3 (F k).length c3).ownBlock ≠ some w.heap.size := fun e => by
        have := (HO.out.lt _ e).1
        have := hb1.out.size
        have := BS.out.lt
        omega
      have hrc : (Value.slice A3 (F k).length c3).ownBlock ≠ some (w.heap.size + 1) := fun e => by
        have := (HO.out.lt _ e).1
        have := BS.out.lt
        omega
      have cD := delFnC_any 61 #[.pointer (some ⟨w.heap.size + 1, 0, none⟩), .pointer (some ⟨w.heap.size, 0, none⟩)] (offB L x) A3 (F k).length c3 w1.heap.size (F k) wr eIn2 HO.out (by omega) (fun c _ W hg => in2_any c L O x A n cp (w.heap.size + 1) w.heap.size W ((BS.out.keep HB.out).grown hg hrc).box ((BX.out.keep HB.out).grown hg hrb).box hL hx)
      replace cD := Lib.hid cD
      replace hrb := Lib.hid hrb
      replace hrc := Lib.hid hrc
      replace hR' := Lib.hid hR'
      go_wp2_with fail
      refine cD.out.mono ?_
      rintro e w5 ⟨mm, rfl, hmm, ho5, hg5⟩
      have hB5 := Lib.hid (bthen hb1.out (below_append HB.out HO.out hg5 (Nat.le_refl _)))
      have hF : Hid (InPost R w (.returned (.slice A3 mm c3)) w5) := by
        show InPost _ _ _ _
        rw [hR'.out]
        refine ⟨A3, c3, by rw [hmm], ?_, hB5.out⟩
        rw [hmm] at ho5
        exact (Sls.of_owns celE_len ho5 rfl).2
      clear ho5 hg5 hmm cD
      go_wp2
      go_ret
      exact hF.out
end Sw
end Go.Proofs.Ytdlgdmbcbenlbaa
