/- slices.SortStableFunc at duties. -/
import Derived.Test.YtdlgdmbcbenlbaaKc
import Derived.Test.YtdlgdmbcbenlbaaKd
import Derived.Test.YtdlgdmbcbenlbaaKf
import Derived.Test.YtdlgdmbcbenlbaaKg
import Derived.IntWalk
import Derived.Deep.Cut
import Derived.Laws.EntriesVeiled
import Derived.ChangeKeysEq
set_option linter.unusedVariables false
set_option linter.unusedSimpArgs false
namespace Go.Proofs.Ytdlgdmbcbenlbaa
open Go Go.RowKit Go.Sort Go.Shelf Go.Lib
namespace Sw
open Mm St
theorem stP : StP Try.prog 9 where
  mixed := by kernel_rfl
  t0 := Try.underlying0
  a0 := Try.isAgg0
  z0 := Try.sizeOf0
  v0 := Try.zeroValue0
  t3 := Try.underlying3
  a3 := Try.isAgg3
  z3 := Try.sizeOf3
  v3 := Try.zeroValue3
  t4 := Try.underlying4
  a4 := Try.isAgg4
  z4 := Try.sizeOf4
  v4 := Try.zeroValue4
  t38 := Try.underlying38
  a38 := Try.isAgg38
  z38 := Try.sizeOf38
  v38 := Try.zeroValue38
  t78 := Try.underlying78
  a78 := Try.isAgg78
  z78 := Try.sizeOf78
  v78 := Try.zeroValue78
  t94 := Try.underlying94
  a94 := Try.isAgg94
  z94 := Try.sizeOf94
  v94 := Try.zeroValue94
  aE := Try.isAgg45
  zE := Try.sizeOf45
  fSw := Try.func96
  fRo := Try.func94
  fSy := Try.func88
  fSt := Try.func72
theorem eInsD : ∀ args w, (callFunc 87 args).run Try.prog w = .ok (.enter 87 args) w := enters_of Try.func87 (by kernel_rfl) rfl
theorem insD_any (cf : Dut → Dut → Int) (hO : SWO (ltOf cf)) (g : Nat) (cb : Array Value) (blk cap : Nat) (d0 : Array Dut) (w0 : World)
    (eg : ∀ args w, (callFunc g args).run Try.prog w = .ok (.enter g args) w) (hcmp : CmpLays Try.prog g cb dutE 9 cf blk 0 d0.size w0) (R : RowK dutE 9 w0 blk 0 d0) (hsz : d0.size < 1152921504606846976)
    (a b : Nat) (d : Array Dut) (w : World) (hs : d.size = d0.size) (S : SWK dutE 9 w0 blk 0 d w) (hab : a ≤ b) (hb : b ≤ d.size) :
    Calls Try.prog 87 #[.slice (some ⟨blk, 0, none⟩) d0.size cap, .int .i64 a, .int .i64 b, .func (.func g) #[] cb] w (InsPost dutE 9 w0 blk cf d a b) := by
  have hC : CmpLays Try.prog g cb dutE 9 cf blk 0 d.size w := by
    intro m os dk hk x y
    have h2 := (S.on R.hblk m dk os hk).cmp hcmp (by rw [hk, hs]) x y 0 #[]
    have e : grow ((sortWorldK dutE 9 w blk 0 m dk os).drewN 0) #[] = sortWorldK dutE 9 w blk 0 m dk os := by rw [grow_empty]; rfl
    rw [e] at h2
    exact h2
  have h := AnyQ.insertionSortCmpFunc (P := Try.prog) (ρ := Try.insd_ren) Try.insd 9 Try.isAgg45 Try.sizeOf45 dutE dutE_len dutE_one cf g cb blk 0 cap a b d w eg hC (S.holds R.hblk R.hH hs) (S.lt R.hblk) hab hb (by omega)
  change Calls Try.prog 87 _ _ _ at h
  rw [hs] at h
  refine h.mono ?_
  rintro e w' ⟨rfl, n, os, rfl⟩
  have hi := Sort.insertionSort_holds hO d a b hab hb
  exact ⟨rfl, _, S.on R.hblk n _ os hi.1.1, hi⟩
def SortDPost (cf : Dut → Dut → Int) (A : Option Addr) (c base : Nat) (d : List Dut) (w : World) (e : Ending) (w' : World) : Prop :=
  e = .returned (.tuple #[]) ∧ ∃ d' : List Dut, d'.Perm d ∧ d'.Pairwise (fun x y => ltOf cf y x = false) ∧ w'.ownsRow base 45 9 (.slice A d.length c) d.length (d'.flatMap dutE) ∧ ∀ w0 : World, Below w0.heap.size w0 w → w0.heap.size ≤ base → Below w0.heap.size w0 w'
theorem sorted_pw {cf : Dut → Dut → Int} {d : Array Dut} (h : SortedIn (ltOf cf) 0 d.size d) : d.toList.Pairwise (fun x y => ltOf cf y x = false) := by
  rw [List.pairwise_iff_getElem]
  intro i j hi hj hij
  have := h i j (Nat.zero_le _) hij (by simpa using hj)
  rw [getElem!_pos d i (by simpa using hi), getElem!_pos d j (by simpa using hj)] at this
  simpa using this
set_option maxRecDepth 100000 in
set_option maxHeartbeats 4000000 in
theorem stable_none (c : Nat) (fv : Value) (w : World) :
    Calls Try.prog 72 #[.slice none 0 c, .int .i64 0, fv] w fun e w' => e = .returned (.tuple #[]) ∧ w' = w := by
  have h := ins_none Try.insd none c fv w
  replace h := Lib.hid h
  go_enter Try.func72, Try.ntmps72
  go_wp2
  refine wp_loop_rounds 1 ?_
  rw [rounds_succ]
  go_wp2_with (first | (go_at_call 87; refine (h.out).mono ?_; rintro e w' ⟨rfl, rfl⟩))
  refine wp_loop_rounds 1 ?_
  rw [rounds_succ]
  go_wp2
  go_end0
  exact ⟨rfl, rfl⟩
set_option maxRecDepth 100000 in
set_option maxHeartbeats 4000000 in
theorem sortStable_any (cf : Dut → Dut → Int) (hO : SWO (ltOf cf)) (g : Nat) (cb : Array Value) (eg : ∀ args w, (callFunc g args).run Try.prog w = .ok (.enter g args) w) (d : List Dut) (A : Option Addr) (c base : Nat) (w : World)
    (h : w.ownsRow base 45 9 (.slice A d.length c) d.length (d.flatMap dutE)) (hl : d.length ≤ 1000000000) (hC : ∀ blk, base ≤ blk → blk < w.heap.size → CmpLays Try.prog g cb dutE 9 cf blk 0 d.length w) :
    Calls Try.prog 45 #[.slice A d.length c, .func (.func g) #[] cb] w (SortDPost cf A c base d w) := by
  rcases h.2 with ⟨hv, h0⟩ | ⟨b, cap, cur, hv, hbase, hg, r1, r2, r3, r4⟩
  · injection hv with hA _ hc
    subst hA hc
    have hd : d = [] := List.length_eq_zero_iff.1 h0
    subst hd
    have hn := stable_none 0 (.func (.func g) #[] cb) w
    have hF : Hid (SortDPost cf none 0 base [] w (.returned (.tuple #[])) w) := ⟨rfl, [], List.Perm.nil, List.Pairwise.nil, h, fun _ h _ => h⟩
    clear hC hO h eg hl
    replace hn := Lib.hid hn
    go_enter Try.func45, Try.ntmps45
    go_wp2_with (first | (go_at_call 72; refine (hn.out).mono ?_; rintro e w' ⟨rfl, rfl⟩))
    go_end0
    exact hF.out
  · injection hv with hA _ hc
    subst hA hc
    have hH := Sk.holdsK_of dutE 9 dutE_len hg (ss := d) r4
    have hgl : b < w.heap.size := (Array.getElem?_eq_some_iff.1 hg).1
    have R : RowK dutE 9 w b 0 d.toArray := ⟨dutE_len, dutE_one, hH, hgl⟩
    have hcmp := hC b hbase hgl
    rw [← List.size_toArray] at hcmp
    have hS := St.stable_any stP dutE cf hO g cb b c d.toArray w eg hcmp R eInsD (fun x y dk W h1 h2 h3 h4 => insD_any cf hO g cb b c d.toArray w eg hcmp R (by rw [List.size_toArray]; omega) x y dk W h1 h2 h3 h4) (by rw [List.size_toArray]; omega)
    rw [List.size_toArray] at hS
    have hF : Hid (∀ e w', InsPost dutE 9 w b cf d.toArray 0 d.length e w' → SortDPost cf (some ⟨b, 0, none⟩) c base d w e w') := by
      rintro e w' ⟨rfl, d', ⟨q, os, rfl⟩, hp, hs⟩
      have hsz : d'.size = d.length := by rw [hp.1, List.size_toArray]
      refine ⟨rfl, d'.toList, ?_, sorted_pw (by rw [hsz]; exact hs), ?_, fun w0 h0 hb => h0.grown (Sk.grownBy_sortK dutE 9 _) h0.size (fun k hk => by cases hk; omega)⟩
      · have := hp.2.2
        rw [← List.size_toArray, Array.extract_size] at this
        rw [show d.toArray.size = d'.size by rw [hsz, List.size_toArray], Array.extract_size] at this
        exact this
      · exact Sk.owns_sortK dutE 9 dutE_len (m := d.length) (ts := d'.toList) (by simpa using hsz) hbase hg r1 r2 r3
    clear hC hO hcmp R hH hg r3 r4 h eg
    replace hS := Lib.hid hS
    go_enter Try.func45, Try.ntmps45
    go_wp2_with (first | (go_at_call 72; refine (hS.out).mono ?_; rintro e w' ⟨rfl, hq⟩))
    go_end0
    exact hF.out _ _ ⟨rfl, hq⟩
end Sw
end Go.Proofs.Ytdlgdmbcbenlbaa
namespace Go.Proofs.Ytdlgdmbcbenlbaa
open Go Go.RowKit Go.Sort
namespace Sw
theorem swo_lex {α : Type} {l1 l2 : α → α → Bool} (h1 : SWO l1) (h2 : SWO l2) : SWO (fun x y => l1 x y || (!l1 y x && l2 x y)) where
  irrefl x := by simp [h1.irrefl, h2.irrefl]
  trans x y z a b := by
    simp only [Bool.or_eq_true, Bool.and_eq_true, Bool.not_eq_true'] at *
    rcases a with a | ⟨a1, a2⟩
    · rcases b with b | ⟨b1, b2⟩
      · exact .inl (h1.trans x y z a b)
      · left
        cases c : l1 x z with
        | true => rfl
        | false => have := h1.ntrans x z y c b1; rw [a] at this; cases this
    · rcases b with b | ⟨b1, b2⟩
      · left
        cases c : l1 x z with
        | true => rfl
        | false => have := h1.ntrans y x z a1 c; rw [b] at this; cases this
      · exact .inr ⟨h1.ntrans z y x b1 a1, h2.trans x y z a2 b2⟩
  ntrans x y z a b := by
    rw [Bool.or_eq_false_iff, Bool.and_eq_false_iff, Bool.not_eq_false'] at *
    obtain ⟨a1, a2⟩ := a
    obtain ⟨b1, b2⟩ := b
    refine ⟨h1.ntrans x y z a1 b1, ?_⟩
    rcases a2 with a2 | a2
    · left
      cases c : l1 z x with
      | true => rfl
      | false => have := h1.ntrans y z x b1 c; rw [a2] at this; cases this
    · rcases b2 with b2 | b2
      · left
        cases c : l1 z x with
        | true => rfl
        | false => have := h1.ntrans z x y c a1; rw [b2] at this; cases this
      · exact .inr (h2.ntrans x y z a2 b2)
theorem swo_int {α : Type} (f : α → Int) : SWO (fun x y => decide (f x < f y)) where
  irrefl x := by simp
  trans x y z a b := by simp at *; omega
  ntrans x y z a b := by simp at *; omega
theorem swo_map {α β : Type} {lt : β → β → Bool} (h : SWO lt) (f : α → β) : SWO (fun x y => lt (f x) (f y)) := ⟨fun _ => h.irrefl _, fun _ _ _ => h.trans _ _ _, fun _ _ _ => h.ntrans _ _ _⟩
theorem cmpI_neg (x y : Int) : (x < y ∧ cmpI x y = -1) ∨ (y < x ∧ cmpI x y = 1) ∨ (x = y ∧ cmpI x y = 0) := cmpI_lt x y
def ltD (x y : Dut) : Bool := ltOf cmpC x.cell y.cell || (!ltOf cmpC y.cell x.cell && (decide (x.first < y.first) || (!decide (y.first < x.first) && (decide (lastN x.til < lastN y.til) || (!decide (lastN y.til < lastN x.til) && decide (laterN x < laterN y))))))
theorem ltD_eq (x y : Dut) : ltOf cmpD x y = ltD x y := by
  unfold ltD
  have e : ltOf cmpD x y = decide (fst0 [cmpC x.cell y.cell, cmpI x.first y.first, cmpI (lastN x.til) (lastN y.til), laterN x - laterN y] < 0) := rfl
  rw [e]
  have c1 := ltOC x.cell y.cell
  have c2 := ltOC y.cell x.cell
  generalize ltOf cmpC x.cell y.cell = b1 at *
  generalize ltOf cmpC y.cell x.cell = b2 at *
  rcases cmpC_cases x.cell y.cell with ⟨h, e⟩ | ⟨h, e⟩ | ⟨h, e⟩
  · rw [c1.2 h, e]; rfl
  · have hb : b1 = false := by
      cases hb : b1 with
      | false => rfl
      | true => exact absurd (ltC_trans (c1.1 hb) h) (ltC_irrefl _)
    rw [c2.2 h, hb, e]; rfl
  · have hb1 : b1 = false := by
      cases hb : b1 with
      | false => rfl
      | true => exact absurd (h ▸ c1.1 hb) (ltC_irrefl _)
    have hb2 : b2 = false := by
      cases hb : b2 with
      | false => rfl
      | true => exact absurd (h ▸ c2.1 hb) (ltC_irrefl _)
    rw [hb1, hb2, e]
    rcases cmpI_lt x.first y.first with ⟨h, e⟩ | ⟨h, e⟩ | ⟨h, e⟩
    · rw [e]; simp [fst0, h]
    · rw [e]
      have : ¬ x.first < y.first := by omega
      simp [fst0, h, this]
    · rw [e]
      rcases cmpI_lt (lastN x.til) (lastN y.til) with ⟨h2, e2⟩ | ⟨h2, e2⟩ | ⟨h2, e2⟩
      · rw [e2]; simp [fst0, h, h2]
      · rw [e2]
        have : ¬ lastN x.til < lastN y.til := by omega
        simp [fst0, h, h2, this]
      · rw [e2]
        rw [h, h2]
        generalize laterN x = p
        generalize laterN y = q
        by_cases c : p - q = 0
        · simp [fst0, c]; omega
        · simp [fst0, c]; omega
theorem swoD : SWO (ltOf cmpD) := by
  have e : ltOf cmpD = ltD := by funext x y; exact ltD_eq x y
  rw [e]
  exact swo_lex (swo_map swoC (fun d : Dut => d.cell)) (swo_lex (swo_int (fun d : Dut => d.first)) (swo_lex (swo_int (fun d : Dut => lastN d.til)) (swo_int laterN)))
theorem keyD {x y : Dut} (h1 : ltOf cmpD x y = false) (h2 : ltOf cmpD y x = false) : x.cell = y.cell ∧ x.first = y.first ∧ lastN x.til = lastN y.til ∧ x.extra = y.extra := by
  rw [ltD_eq] at h1 h2
  unfold ltD at h1 h2
  rw [Bool.or_eq_false_iff] at h1 h2
  have hc := totC x.cell y.cell h1.1 h2.1
  have e1 := h1.2
  have e2 := h2.2
  rw [h2.1, Bool.not_false, Bool.true_and, Bool.or_eq_false_iff] at e1
  rw [h1.1, Bool.not_false, Bool.true_and, Bool.or_eq_false_iff] at e2
  have hf : x.first = y.first := by have := e1.1; have := e2.1; simp at *; omega
  have f1 := e1.2
  have f2 := e2.2
  rw [e2.1, Bool.not_false, Bool.true_and, Bool.or_eq_false_iff] at f1
  rw [e1.1, Bool.not_false, Bool.true_and, Bool.or_eq_false_iff] at f2
  have hl : lastN x.til = lastN y.til := by have := f1.1; have := f2.1; simp at *; omega
  have g1 := f1.2
  have g2 := f2.2
  rw [f2.1, Bool.not_false, Bool.true_and] at g1
  rw [f1.1, Bool.not_false, Bool.true_and] at g2
  refine ⟨hc, hf, hl, ?_⟩
  unfold laterN at g1 g2
  cases hx : x.extra <;> cases hy : y.extra <;> simp [hx, hy] at *
def cfT (x y : Dut) : Int := turnN x - turnN y
theorem swoT : SWO (ltOf cfT) := by
  have e : ltOf cfT = fun x y => decide (turnN x < turnN y) := by
    funext x y
    unfold ltOf cfT
    rw [decide_eq_decide]; omega
  rw [e]
  exact swo_int turnN
theorem Right.inv {L O : Int} {cs : List Cel} {l : List Chg} (h : Right L O cs l) (c : Cel) : Inv (timesC cs l c) (forceN cs l c) (curS l l.length) (thereN cs l c) := by
  have := timesC_inv (h.okL c) l.length (Nat.le_refl _)
  rwa [List.take_length] at this
theorem Right.cur {L O : Int} {cs : List Cel} {l : List Chg} (h : Right L O cs l) : 0 ≤ curS l l.length ∧ curS l l.length ≤ 4096 := by
  unfold curS
  split
  · omega
  · exact (fault_zero (h.fault (l.length - 1) (by omega))).1
theorem Right.bd {L O : Int} {cs : List Cel} {l : List Chg} (h : Right L O cs l) {c : Cel} {p : Int × Int} (hp : p ∈ timesC cs l c) : 0 ≤ p.1 ∧ p.1 ≤ 4096 ∧ -1 ≤ p.2 ∧ p.2 ≤ 4096 ∧ (p.2 = -1 ∨ p.1 < p.2) := by
  have hi := h.inv c
  have h1 := hi.canon.each p hp
  have h2 := hi.le p hp
  have h3 := h.cur
  omega
theorem Right.len {L O : Int} {cs : List Cel} {l : List Chg} (h : Right L O cs l) : 1 ≤ L ∧ L ≤ 512 ∧ 1 ≤ O ∧ O ≤ 16 ∧ cs.length ≤ 512 := by
  have := h.formed
  unfold formedB headB at this
  simp only [Bool.and_eq_true, decide_eq_true_eq] at this
  omega
/-- a node's duties for a cell -/
def cellD (L : Int) (cs : List Cel) (l : List Chg) (node : Int) (c : Cel) : List Dut := if c.frm ≠ node ∧ c.to ≠ node then [] else (timesC cs l c).flatMap (dutiesC c node L)
def cellsC (cs : List Cel) (l : List Chg) : List Cel := cpL (sortC (cs ++ l.map fun x => x.cell))
def allD (L : Int) (cs : List Cel) (l : List Chg) (node : Int) : List Dut := (cellsC cs l).flatMap (cellD L cs l node)
theorem dutiesC_len (c : Cel) (node L : Int) (t : Int × Int) : (dutiesC c node L t).length ≤ 3 := by
  unfold dutiesC dut1 dut2
  split
  · simp
  · split <;> split <;> simp
theorem flatMap_len {α β : Type} (f : α → List β) (N : Nat) (h : ∀ x, (f x).length ≤ N) (xs : List α) : (xs.flatMap f).length ≤ xs.length * N := by
  induction xs with
  | nil => simp
  | cons x xs ih =>
    rw [List.flatMap_cons, List.length_append, List.length_cons, Nat.add_mul]
    have := h x
    omega
theorem cellD_len (L : Int) (cs : List Cel) (l : List Chg) (node : Int) (hl : l.length ≤ 1024) (c : Cel) : (cellD L cs l node c).length ≤ 3075 := by
  unfold cellD
  split
  · simp
  · have h1 := flatMap_len (dutiesC c node L) 3 (dutiesC_len c node L) (timesC cs l c)
    have h2 := timesC_len cs c l.length l rfl
    omega
theorem cpL_len {α : Type} [DecidableEq α] [Inhabited α] (xs : List α) : (cpL xs).length ≤ xs.length := by
  unfold cpL cpU
  rw [List.length_map]
  exact Nat.le_trans (List.length_filter_le _ _) (by simp)
end Sw
end Go.Proofs.Ytdlgdmbcbenlbaa
namespace Go.Proofs.Ytdlgdmbcbenlbaa
open Go Go.RowKit Go.Sort Go.Shelf Go.Lib
namespace Sw
open Mm
def onB (L slot : Int) (x : Dut) : Bool := decide (x.cell.slot = slot % L) && (decide (x.first ≤ slot) && (decide (x.til = -1) || decide (slot < x.til)))
def AtPost (d : List Dut) (w : World) (e : Ending) (w' : World) : Prop := ∃ (d' : List Dut) (A : Option Addr) (c : Nat), e = .returned (.tuple #[.slice A d'.length c, .int .i64 0]) ∧ d'.Perm d ∧ w'.ownsRow w.heap.size 45 9 (.slice A d'.length c) d'.length (d'.flatMap dutE) ∧ Below w.heap.size w w'
theorem eAt2 : ∀ args w, (callFunc 63 args).run Try.prog w = .ok (.enter 63 args) w := enters_of Try.func63 (by kernel_rfl) rfl
theorem filter_take_succ {α : Type} [Inhabited α] (p : α → Bool) (xs : List α) (k : Nat) (h : k < xs.length) : (xs.take (k + 1)).filter p = (xs.take k).filter p ++ (if p (xs.getD k default) = true then [xs.getD k default] else []) := by
  rw [take_snoc h, List.filter_append]
  generalize xs.getD k default = x
  cases hp : p x <;> simp [hp]
set_option maxRecDepth 100000 in
set_option maxHeartbeats 4000000 in
theorem at_any (L slot : Int) (A : Option Addr) (n cp : Nat) (xs : List Dut) (w : World) (h : DutS w A n xs) (hL : 1 ≤ L ∧ L ≤ 512) (hs0 : 0 ≤ slot) (hn : n ≤ 10000000) :
    Calls Try.prog 29 #[.slice A n cp, .int .i64 L, .int .i64 slot] w (AtPost (xs.filter (onB L slot)) w) := by
  obtain ⟨i0, hi, hz0, hz1, hz2⟩ := info_parts info_dut
  have hlen := h.len
  obtain ⟨hL1, hL2⟩ := hL
  have hrem : slot.tmod L = slot % L := Int.tmod_eq_emod_of_nonneg hs0
  have hm0 : 0 ≤ slot % L := Int.emod_nonneg _ (by omega)
  have hm1 : slot % L < L := Int.emod_lt_of_pos _ (by omega)
  have hON : ∀ x, onB L slot x = (decide (x.cell.slot = slot % L) && (decide (x.first ≤ slot) && (decide (x.til = -1) || decide (slot < x.til)))) := fun _ => rfl
  have hF0 : (xs.take 0).filter (onB L slot) = [] := rfl
  have hFs := fun k (hk : k < n) => filter_take_succ (onB L slot) xs k (by omega)
  have hFn : (xs.take n).filter (onB L slot) = xs.filter (onB L slot) := by rw [List.take_of_length_le (by omega)]
  have hFl := fun k (hk : k ≤ n) => Nat.le_trans (List.length_filter_le (onB L slot) (xs.take k)) (by rw [List.length_take]; omega : (xs.take k).length ≤ k)
  have hpost : ∀ (d' : List Dut) A c w', d'.Perm (xs.filter (onB L slot)) → w'.ownsRow (w.heap.size + 1) 45 9 (.slice A (xs.filter (onB L slot)).length c) (xs.filter (onB L slot)).length (d'.flatMap dutE) → Below w.heap.size w w' → AtPost (xs.filter (onB L slot)) w (.returned (.tuple #[.slice A (xs.filter (onB L slot)).length c, .int .i64 0])) w' := fun d' A c w' h1 h2 h3 => by
    rw [← h1.length_eq] at h2 ⊢
    exact ⟨d', A, c, rfl, h1, own_base h2 (by omega), h3⟩
  generalize hM : slot % L = M at *
  generalize onB L slot = ON at *
  generalize hFF : (fun k => (xs.take k).filter ON) = F at *
  have hF0' : F 0 = [] := by rw [← hFF]; exact hF0
  have hFs' : ∀ k, k < n → F (k + 1) = F k ++ (if ON (xs.getD k default) = true then [xs.getD k default] else []) := fun k hk => by rw [← hFF]; exact hFs k hk
  have hFn' : F n = xs.filter ON := by rw [← hFF]; exact hFn
  have hFl' : ∀ k, k ≤ n → (F k).length ≤ k := fun k hk => by rw [← hFF]; exact hFl k hk
  clear hF0 hFs hFn hFl hFF
  have hb1 := ball w (.cells #[.func (.func 62) #[] #[]] 77)
  have hcl : (w.alloc (.cells #[.func (.func 62) #[] #[]] 77)).cell? ⟨w.heap.size, 0, none⟩ = some (.func (.func 62) #[] #[]) := (Blk.new w _ _).cell 0
  have hsz1 := size1 w (.cells #[.func (.func 62) #[] #[]] 77)
  replace h := Lib.hid h
  replace hlen := Lib.hid hlen
  replace hON := Lib.hid hON
  replace hpost := Lib.hid hpost
  replace hF0' := Lib.hid hF0'
  replace hFs' := Lib.hid hFs'
  replace hFn' := Lib.hid hFn'
  replace hFl' := Lib.hid hFl'
  replace hb1 := Lib.hid hb1
  replace hi := Lib.hid hi
  replace hz0 := Lib.hid hz0
  replace hz1 := Lib.hid hz1
  replace hz2 := Lib.hid hz2
  replace hM := Lib.hid hM
  replace hcl := Lib.hid hcl
  replace hsz1 := Lib.hid hsz1
  go_enter Try.func29, Try.ntmps29
  go_wp2_with fail
  generalize w.alloc (.cells #[.func (.func 62) #[] #[]] 77) = w1 at *
  have hown0 : Hid (∃ v, v = (.slice none 0 0 : Value) ∧ w1.ownsRow (w.heap.size + 1) 45 9 v (F 0).length ((F 0).flatMap dutE)) := ⟨_, rfl, by rw [hF0'.out]; exact World.ownsRow_nil _ _ _ _⟩
  go_loopw [9, 24] (fun s9 i wr => ∃ (k : Nat) (v : Value), k ≤ n ∧ i = .int .i64 k ∧ v = s9 ∧ Hid (wr.ownsRow (w.heap.size + 1) 45 9 v (F k).length ((F k).flatMap dutE)) ∧ Hid (Below w1.heap.size w1 wr)) (fun _ i _ => n - (intOf i).toNat)
  case atStart =>
    obtain ⟨v, rfl, hv⟩ := hown0.out
    exact ⟨0, _, by omega, rfl, rfl, hv, Below.refl _ _⟩
  case round =>
    obtain ⟨k, v, hk, rfl, rfl, HO, HB⟩ := hrel
    clear hown0
    by_cases hlt : k < n
    · obtain ⟨b, off, rfl⟩ := h.out.addr (by omega)
      have hx := dut_at (h.out.keep (bthen hb1.out HB.out)) hlt
      have hfs := hFs'.out k hlt
      have hfl := hFl'.out k hk
      have hon := hON.out (xs.getD k default)
      generalize xs.getD k default = x at *
      have hBn : ∃ Bn, Bn = ON x := ⟨_, rfl⟩
      obtain ⟨Bn, hBn⟩ := hBn
      rw [← hBn] at hfs hon
      have HX : Hid ([x].flatMap dutE = [.int .i64 x.cell.slot, .int .i64 x.cell.offset, .int .i64 x.cell.frm, .int .i64 x.cell.to, .int .i64 x.cell.flow, .bool x.sends, .bool x.extra, .int .i64 x.first, .int .i64 x.til]) := by show _ = _; simp [dutE]
      have HN : Hid (Bn = true → F (k + 1) = F k ++ [x]) := fun h => by rw [hfs, if_pos h]
      have HNn : Hid (Bn = false → F (k + 1) = F k) := fun h => by rw [hfs, h]; simp
      clear hfs
      have HAp : Hid (Bn = true → (F (k + 1)).length = (F k).length + 1 ∧ (F (k + 1)).flatMap dutE = (F k).flatMap dutE ++ [.int .i64 x.cell.slot, .int .i64 x.cell.offset, .int .i64 x.cell.frm, .int .i64 x.cell.to, .int .i64 x.cell.flow, .bool x.sends, .bool x.extra, .int .i64 x.first, .int .i64 x.til]) := fun h => by
        rw [HN.out h, List.flatMap_append, HX.out]; simp
      clear HX HN
      replace hBn := Lib.hid hBn
      obtain ⟨⟨x0, x1, x2, x3, x4⟩, x5, x6, x7, x8⟩ := x
      obtain ⟨q0, q1, q2, q3, q4, q5, q6, q7, q8⟩ := hx
      dsimp only at q0 q1 q2 q3 q4 q5 q6 q7 q8 hon HAp
      have BX := Box.new wr #[.int .i64 x0, .int .i64 x1, .int .i64 x2, .int .i64 x3, .int .i64 x4, .bool x5, .bool x6, .int .i64 x7, .int .i64 x8] 45
      have HBb := ballN HB.out (.cells #[.int .i64 x0, .int .i64 x1, .int .i64 x2, .int .i64 x3, .int .i64 x4, .bool x5, .bool x6, .int .i64 x7, .int .i64 x8] 45)
      have HOb := HO.out.alloc (.cells #[.int .i64 x0, .int .i64 x1, .int .i64 x2, .int .i64 x3, .int .i64 x4, .bool x5, .bool x6, .int .i64 x7, .int .i64 x8] 45)
      have r1 : (k : Int) < (n : Int) := by omega
      replace BX := Lib.hid BX
      replace HBb := Lib.hid HBb
      replace HOb := Lib.hid HOb
      replace hon := Lib.hid hon
      clear HO HB
      go_upto_region 8 with fail
      clear q0 q1 q2 q3 q4 q5 q6 q7 q8
      generalize hB' : wr.heap.size = B at *
      generalize wr.alloc (.cells #[.int .i64 x0, .int .i64 x1, .int .i64 x2, .int .i64 x3, .int .i64 x4, .bool x5, .bool x6, .int .i64 x7, .int .i64 x8] 45) = wb at *
      have kg := BX.out.grown
      replace hB' := Lib.hid hB'
      have hwM : IntKind.i64.wrap M = M := IntWalk.i64_in _ (by omega)
      go_cut [51] (fun s51 wx => s51 = .bool Bn ∧ Hid (wx.ownsRow (w.heap.size + 1) 45 9 v (F k).length ((F k).flatMap dutE)) ∧ Hid (Below w1.heap.size w1 wx) ∧ Hid (Box wx B #[.int .i64 x0, .int .i64 x1, .int .i64 x2, .int .i64 x3, .int .i64 x4, .bool x5, .bool x6, .int .i64 x7, .int .i64 x8]))
      case first =>
        have hF : Hid (∀ wx, Below wb.heap.size wb wx → Hid (wx.ownsRow (w.heap.size + 1) 45 9 v (F k).length ((F k).flatMap dutE)) ∧ Hid (Below w1.heap.size w1 wx) ∧ Hid (Box wx B #[.int .i64 x0, .int .i64 x1, .int .i64 x2, .int .i64 x3, .int .i64 x4, .bool x5, .bool x6, .int .i64 x7, .int .i64 x8])) := fun wx hb => ⟨owns_keep HOb.out hb, bthen HBb.out hb, BX.out.keep hb⟩
        by_cases c1 : x0 = M
        · by_cases c2 : x7 ≤ slot
          · by_cases c3 : x8 = -1
            · obtain rfl : Bn = true := by rw [hon.out]; simp [c1, c2, c3]
              have d1 : (x0 == M) = true := by simpa using c1
              have d3 : (x8 == -1) = true := by simpa using c3
              replace c1 := Lib.hid c1
              replace c3 := Lib.hid c3
              refine wp_region_quiet_below (by kernel_rfl) (by kernel_rfl) ?_
              repeat (go_big_quiet_step (fail))
              refine wpQuiet_nil ?_
              rintro _ ⟨⟨dq, osq⟩, rfl⟩
              have hb_ := hF.out _ (below_regrown wb dq osq)
              go_wp2_with fail
              go_meet
              exact ⟨rfl, hb_⟩
            · have d1 : (x0 == M) = true := by simpa using c1
              have d3 : (x8 == -1) = false := by simpa using c3
              by_cases c4 : slot < x8
              · obtain rfl : Bn = true := by rw [hon.out]; simp [c1, c2, c4]
                replace c1 := Lib.hid c1
                replace c3 := Lib.hid c3
                refine wp_region_quiet_below (by kernel_rfl) (by kernel_rfl) ?_
                repeat (go_big_quiet_step (fail))
                refine wpQuiet_nil ?_
                rintro _ ⟨⟨dq, osq⟩, rfl⟩
                have hb_ := hF.out _ (below_regrown wb dq osq)
                go_wp2_with fail
                go_meet
                exact ⟨rfl, hb_⟩
              · obtain rfl : Bn = false := by rw [hon.out]; simp [c3, c4]
                have d4 : decide (slot < x8) = false := by simpa using c4
                replace c1 := Lib.hid c1
                replace c3 := Lib.hid c3
                replace c4 := Lib.hid c4
                refine wp_region_quiet_below (by kernel_rfl) (by kernel_rfl) ?_
                repeat (go_big_quiet_step (fail))
                refine wpQuiet_nil ?_
                rintro _ ⟨⟨dq, osq⟩, rfl⟩
                have hb_ := hF.out _ (below_regrown wb dq osq)
                go_wp2_with fail
                go_meet
                exact ⟨rfl, hb_⟩
          · obtain rfl : Bn = false := by rw [hon.out]; simp [c2]
            have d1 : (x0 == M) = true := by simpa using c1
            have d2 : decide (x7 ≤ slot) = false := by simpa using c2
            replace c1 := Lib.hid c1
            replace c2 := Lib.hid c2
            refine wp_region_quiet_below (by kernel_rfl) (by kernel_rfl) ?_
            repeat (go_big_quiet_step (fail))
            refine wpQuiet_nil ?_
            rintro _ ⟨⟨dq, osq⟩, rfl⟩
            have hb_ := hF.out _ (below_regrown wb dq osq)
            go_wp2_with fail
            go_meet
            exact ⟨rfl, hb_⟩
        · obtain rfl : Bn = false := by rw [hon.out]; simp [c1]
          have d1 : (x0 == M) = false := by simpa using c1
          replace c1 := Lib.hid c1
          refine wp_region_quiet_below (by kernel_rfl) (by kernel_rfl) ?_
          repeat (go_big_quiet_step (fail))
          refine wpQuiet_nil ?_
          rintro _ ⟨⟨dq, osq⟩, rfl⟩
          have hb_ := hF.out _ (below_regrown wb dq osq)
          go_wp2_with fail
          go_meet
          exact ⟨rfl, hb_⟩
      case rest =>
        obtain ⟨rfl, HO, HB, BXc⟩ := hcut
        clear kg HOb HBb BX
        cases Bn with
        | false =>
          have HO2 : Hid (wc.ownsRow (w.heap.size + 1) 45 9 v (F (k + 1)).length ((F (k + 1)).flatMap dutE)) := by
            show World.ownsRow _ _ _ _ _ _ _
            rw [HNn.out rfl]; exact HO.out
          go_wp2
          go_roundw
          case rel => exact ⟨k + 1, _, by omega, by go_num, rfl, HO2, HB⟩
          case measure => simp [intOf]; omega
        | true =>
          obtain ⟨e1, e2⟩ := HAp.out rfl
          have kx := BXc.out.at_
          have HOa := HO.out.alloc (.cells #[.int .i64 x0, .int .i64 x1, .int .i64 x2, .int .i64 x3, .int .i64 x4, .bool x5, .bool x6, .int .i64 x7, .int .i64 x8] 45)
          have HBa := ballN HB.out (.cells #[.int .i64 x0, .int .i64 x1, .int .i64 x2, .int .i64 x3, .int .i64 x4, .bool x5, .bool x6, .int .i64 x7, .int .i64 x8] 45)
          have hnews := World.news_of_block (Blk.new wc #[.int .i64 x0, .int .i64 x1, .int .i64 x2, .int .i64 x3, .int .i64 x4, .bool x5, .bool x6, .int .i64 x7, .int .i64 x8] 45).at_
          have hs3 := HB.out.size
          rw [hsz1.out] at hs3
          generalize (F k).flatMap dutE = XF at *
          generalize (F k).length = q at *
          replace HOa := Lib.hid HOa
          replace HBa := Lib.hid HBa
          replace hnews := Lib.hid hnews
          replace e1 := Lib.hid e1
          replace e2 := Lib.hid e2
          go_wp2_with (at_builtin; refine wpList_append_lies _ rfl _ _ _ rfl (w.heap.size + 1) 45 i0 (.agg #[.int .i64 0, .int .i64 0, .int .i64 0, .int .i64 0, .int .i64 0, .bool false, .bool false, .int .i64 0, .int .i64 0]) 9 64 Try.underlying38 hi.out hz0.out hz1.out hz2.out rfl (by decide) v q _ rfl HOa.out ⟨wc.heap.size, 0, none⟩ 1 1 [.int .i64 x0, .int .i64 x1, .int .i64 x2, .int .i64 x3, .int .i64 x4, .bool x5, .bool x6, .int .i64 x7, .int .i64 x8] rfl rfl ?c1 ?c2 (by decide) ?c3 ?c4 ?c5 (wc.heap.size + 1) ?c6 ?_)
          try case c1 => exact hnews.out
          try case c2 => simp [Value.oneCell']
          try case c3 => unfold maxLen; omega
          try case c4 => omega
          try case c5 => first | omega | (simp; omega)
          try case c6 => first | rfl | simp
          intro g cap w5 hown1 hgrow1 hat1 hlt1
          have HO5 : Hid (w5.ownsRow (w.heap.size + 1) 45 9 (.slice (some ⟨g, 0, none⟩) (q + 1) cap) (F (k + 1)).length ((F (k + 1)).flatMap dutE)) := by
            show World.ownsRow _ _ _ _ _ _ _
            rw [e1.out, e2.out]; exact hown1
          have HB5 := Lib.hid (below_append HBa.out HOa.out hgrow1 (by rw [hsz1.out]; exact Nat.le_refl _))
          clear hown1 hgrow1 hat1 kx
          go_wp2
          go_roundw
          case rel => exact ⟨k + 1, _, by omega, by go_num, rfl, HO5, HB5⟩
          case measure => simp [intOf]; omega
    · obtain rfl : k = n := by omega
      obtain ⟨A', cc, rfl⟩ := own_slice HO.out
      have hHO := HO.out
      rw [hFn'.out] at hHO
      have hll := hFl'.out k (Nat.le_refl _)
      rw [hFn'.out] at hll
      have hcw := (HB.out.cell (p := ⟨w.heap.size, 0, none⟩) (World.block_lt_of_cell? w1 _ hcl.out)).trans hcl.out
      have cS := sortStable_any cfT swoT 63 #[.pointer (some ⟨w.heap.size, 0, none⟩)] eAt2 (xs.filter ON) A' cc (w.heap.size + 1) wr hHO (by omega) (fun blk hb1 hb2 m os dk _ x y => atCmp_any x y w.heap.size _ ((Sk.grownBy_sortK dutE 9 _).cell hcw (by simp; omega)))
      rw [hFn'.out]
      have hBw := Lib.hid (bthen hb1.out HB.out)
      clear hHO
      generalize xs.filter ON = R at *
      replace cS := Lib.hid cS
      replace hcw := Lib.hid hcw
      go_wp2_with fail
      refine cS.out.mono ?_
      rintro e w3 ⟨rfl, d', hp, _, ho, hbb⟩
      have hF := hpost.out d' A' cc w3 hp ho (hbb w hBw.out (by omega))
      replace hF := Lib.hid hF
      replace hp := Lib.hid hp
      replace ho := Lib.hid ho
      replace hbb := Lib.hid hbb
      go_wp2
      refine bodyPost_ret (v := .tuple #[.slice A' R.length cc, .int .i64 0]) (by simp [results, Try.results29, go_sem]) rfl hF.out
end Sw
end Go.Proofs.Ytdlgdmbcbenlbaa
namespace Go.Proofs.Ytdlgdmbcbenlbaa
open Go Go.RowKit Go.Sort Go.Shelf Go.Lib
namespace Sw
open Mm
theorem rows_ne {w : World} {b1 b2 s1 s2 n1 n2 : Nat} {e1 e2 : TypeId} {v1 v2 : Value} {xs1 xs2 : List Value} (h1 : w.ownsRow b1 e1 s1 v1 n1 xs1) (h2 : w.ownsRow b2 e2 s2 v2 n2 xs2) (hne : e1 ≠ e2) : v1.ownBlock = none ∨ v1.ownBlock ≠ v2.ownBlock := by
  rcases h1.2 with ⟨rfl, _⟩ | ⟨g1, c1, cur1, rfl, _, hg1, _⟩
  · exact .inl rfl
  · refine .inr fun e => ?_
    rcases h2.2 with ⟨rfl, _⟩ | ⟨g2, c2, cur2, rfl, _, hg2, _⟩
    · simp [Value.ownBlock] at e
    · simp only [Value.ownBlock, Option.some.injEq] at e
      subst e
      rw [hg1] at hg2
      injection hg2 with hg2
      injection hg2 with _ h
      exact hne h
theorem row_ne_blk {w : World} {b e s n B : Nat} {t : TypeId} {v : Value} {xs : List Value} {C : Array Value} (h : w.ownsRow b e s v n xs) (k : Blk w B C t) (hne : e ≠ t) : v.ownBlock ≠ some B := by
  rcases h.2 with ⟨rfl, _⟩ | ⟨g, c, cur, rfl, _, hg, _⟩
  · simp [Value.ownBlock]
  · intro e2
    simp only [Value.ownBlock, Option.some.injEq] at e2
    subst e2
    rw [k.at_] at hg
    injection hg with hg
    injection hg with _ h
    exact hne h.symm
def DutiesPost (all : List Dut) (w : World) (e : Ending) (w' : World) : Prop := ∃ (d' : List Dut) (A : Option Addr) (c : Nat), e = .returned (.tuple #[.slice A d'.length c, .int .i64 0]) ∧ d'.Perm all ∧ d'.Pairwise (fun x y => ltOf cmpD y x = false) ∧ w'.ownsRow w.heap.size 45 9 (.slice A d'.length c) d'.length (d'.flatMap dutE) ∧ Below w.heap.size w w'
theorem eDu1 : ∀ args w, (callFunc 46 args).run Try.prog w = .ok (.enter 46 args) w := enters_of Try.func46 (by kernel_rfl) rfl
theorem flatMap_take_succ {α β : Type} [Inhabited α] (f : α → List β) (xs : List α) (k : Nat) (h : k < xs.length) : (xs.take (k + 1)).flatMap f = (xs.take k).flatMap f ++ f (xs.getD k default) := by
  rw [take_snoc h, List.flatMap_append]; simp
def CptC (CC : List Cel) (A : Option Addr) (c base : Nat) (w : World) (ob : Option Nat) (e : Ending) (w' : World) : Prop := e = .returned (.slice A CC.length c) ∧ w'.ownsRow base 34 5 (.slice A CC.length c) CC.length (CC.flatMap celE) ∧ w.grownBy w' ob
theorem cmpD_lays (blk size : Nat) (w : World) : CmpLays Try.prog 46 #[] dutE 9 cmpD blk 0 size w := by
  intro m os dk _ x y
  exact dutCmp_any x y _
theorem dutiesC_pos (c : Cel) (node L : Int) (t : Int × Int) : 0 < (dutiesC c node L t).length := by
  unfold dutiesC; split <;> simp
set_option maxRecDepth 100000 in
set_option maxHeartbeats 8000000 in
theorem Duties_ok (L O : Int) (A : Option Addr) (n cp : Nat) (cs : List Cel) (B : Option Addr) (m cq : Nat) (l : List Chg) (node : Int) (w : World) (h1 : CelS w A n cs) (h2 : ChgS w B m l) (ok1 : ∀ c ∈ cs, c.ok) (ok2 : ∀ x ∈ l, x.cell.ok)
    (hk : chkN L O cs l = (-1, 0)) (hR : Right L O cs l) (hnode : 0 ≤ node ∧ node < 32) :
    Calls Try.prog 17 #[.agg #[.int .i64 L, .int .i64 O, .slice A n cp], .slice B m cq, .int .i64 node] w (DutiesPost (allD L cs l node) w) := by
  obtain ⟨i0, hi, hz0, hz1, hz2⟩ := info_parts info_dut
  obtain ⟨j0, hj, hy0, hy1, hy2⟩ := info_parts info_cel
  have hl1 := h1.len
  have hl2 := h2.len
  have hfew := hR.few
  obtain ⟨hL1, hL2, hO1, hO2, hcl⟩ := hR.len
  obtain ⟨hn1, hn2⟩ := hnode
  have BX := Box.new w #[.int .i64 L, .int .i64 O, .slice A n cp] 24
  have hbw := ball w (.cells #[.int .i64 L, .int .i64 O, .slice A n cp] 24)
  have cK := check_any L O A n cp cs B m cq l _ (h1.keep hbw) (h2.keep hbw) ok1 ok2
  rw [hk] at cK
  have cT := fun c W (k1 : CelS W A n cs) (k2 : ChgS W B m l) => times_any L O A n cp cs B m cq l c W k1 k2 (ends_of (hR.okL c)) (by omega)
  have hbd := fun c p (hp : p ∈ timesC cs l c) => hR.bd hp
  have hsz1 := size1 w (.cells #[.int .i64 L, .int .i64 O, .slice A n cp] 24)
  have hC0 : cs ++ (l.take 0).map (fun x => x.cell) = cs := by simp
  have hCs := fun k (hk : k < m) => show cs ++ (l.take (k + 1)).map (fun x => x.cell) = (cs ++ (l.take k).map (fun x => x.cell)) ++ [(l.getD k default).cell] by rw [take_snoc (by omega), List.map_append, List.append_assoc]; rfl
  have hCl := fun k (hk : k ≤ m) => show (cs ++ (l.take k).map (fun x => x.cell)).length ≤ 2000 by rw [List.length_append, List.length_map, List.length_take]; omega
  have hCn : cpL (sortC (cs ++ (l.take m).map (fun x => x.cell))) = cellsC cs l := by unfold cellsC; rw [List.take_of_length_le (by omega)]
  have hcc : (cellsC cs l).length ≤ 2000 := by
    unfold cellsC
    have := cpL_len (sortC (cs ++ l.map fun x => x.cell))
    have e := (sortC_perm (cs ++ l.map fun x => x.cell)).length_eq
    rw [e, List.length_append, List.length_map] at this
    omega
  have hall : allD L cs l node = (cellsC cs l).flatMap (cellD L cs l node) := rfl
  have hpost : ∀ (d' : List Dut) A c w', d'.Perm (allD L cs l node) → d'.Pairwise (fun x y => ltOf cmpD y x = false) → w'.ownsRow w.heap.size 45 9 (.slice A (allD L cs l node).length c) (allD L cs l node).length (d'.flatMap dutE) → Below w.heap.size w w' → DutiesPost (allD L cs l node) w (.returned (.tuple #[.slice A (allD L cs l node).length c, .int .i64 0])) w' := fun d' A c w' h1 h2 h3 h4 => by
    rw [← h1.length_eq] at h3 ⊢
    exact ⟨d', A, c, rfl, h1, h2, h3, h4⟩
  have hG0 : ((cellsC cs l).take 0).flatMap (cellD L cs l node) = [] := rfl
  have hGs := fun k (hk : k < (cellsC cs l).length) => flatMap_take_succ (cellD L cs l node) (cellsC cs l) k hk
  have hGl := fun k (hk : k ≤ (cellsC cs l).length) => Nat.le_trans (flatMap_len (cellD L cs l node) 3075 (fun c => cellD_len L cs l node (by omega) c) ((cellsC cs l).take k)) (by rw [List.length_take]; omega : ((cellsC cs l).take k).length * 3075 ≤ 6150000)
  have hGn : ((cellsC cs l).take (cellsC cs l).length).flatMap (cellD L cs l node) = allD L cs l node := by rw [List.take_length]; rfl
  have hD1 : ∀ c : Cel, c.frm ≠ node ∧ c.to ≠ node → cellD L cs l node c = [] := fun c h => by unfold cellD; rw [if_pos h]
  have hD2 : ∀ c : Cel, ¬ (c.frm ≠ node ∧ c.to ≠ node) → cellD L cs l node c = (timesC cs l c).flatMap (dutiesC c node L) := fun c h => by unfold cellD; rw [if_neg h]
  have hTl : ∀ c : Cel, (timesC cs l c).length ≤ 1025 := fun c => by have := timesC_len cs c l.length l rfl; omega
  generalize allD L cs l node = AD at *
  generalize hGG : (fun k => ((cellsC cs l).take k).flatMap (cellD L cs l node)) = G at *
  have hG0' : G 0 = [] := by rw [← hGG]; exact hG0
  have hGs' : ∀ k, k < (cellsC cs l).length → G (k + 1) = G k ++ cellD L cs l node ((cellsC cs l).getD k default) := fun k hk => by rw [← hGG]; exact hGs k hk
  have hGl' : ∀ k, k ≤ (cellsC cs l).length → (G k).length ≤ 6150000 := fun k hk => by rw [← hGG]; exact hGl k hk
  have hGn' : G (cellsC cs l).length = AD := by rw [← hGG]; exact hGn
  clear hG0 hGs hGl hGn hGG hall
  generalize cellD L cs l node = CD at *
  generalize hCC : (fun k => cs ++ (l.take k).map (fun x => x.cell)) = CF at *
  have hC0' : CF 0 = cs := by rw [← hCC]; exact hC0
  have hCs' : ∀ k, k < m → CF (k + 1) = CF k ++ [(l.getD k default).cell] := fun k hk => by rw [← hCC]; exact hCs k hk
  have hCl' : ∀ k, k ≤ m → (CF k).length ≤ 2000 := fun k hk => by rw [← hCC]; exact hCl k hk
  have hCn' : cpL (sortC (CF m)) = cellsC cs l := by rw [← hCC]; exact hCn
  clear hC0 hCs hCl hCn hCC
  generalize cellsC cs l = CC at *
  generalize hTT : timesC cs l = TF at *
  have hn100 : n ≤ 100000 := by omega
  replace h1 := Lib.hid h1
  replace h2 := Lib.hid h2
  replace hl1 := Lib.hid hl1
  replace hl2 := Lib.hid hl2
  replace BX := Lib.hid BX
  replace hbw := Lib.hid hbw
  replace cK := Lib.hid cK
  replace cT := Lib.hid cT
  replace hbd := Lib.hid hbd
  replace hsz1 := Lib.hid hsz1
  replace hcc := Lib.hid hcc
  replace hpost := Lib.hid hpost
  replace hG0' := Lib.hid hG0'
  replace hGs' := Lib.hid hGs'
  replace hGl' := Lib.hid hGl'
  replace hGn' := Lib.hid hGn'
  replace hC0' := Lib.hid hC0'
  replace hCs' := Lib.hid hCs'
  replace hCl' := Lib.hid hCl'
  replace hCn' := Lib.hid hCn'
  replace hD1 := Lib.hid hD1
  replace hD2 := Lib.hid hD2
  replace hTl := Lib.hid hTl
  replace hi := Lib.hid hi
  replace hz0 := Lib.hid hz0
  replace hz1 := Lib.hid hz1
  replace hz2 := Lib.hid hz2
  replace hj := Lib.hid hj
  replace hy0 := Lib.hid hy0
  replace hy1 := Lib.hid hy1
  replace hy2 := Lib.hid hy2
  replace ok1 := Lib.hid ok1
  replace ok2 := Lib.hid ok2
  replace hk := Lib.hid hk
  replace hR := Lib.hid hR
  replace hTT := Lib.hid hTT
  go_enter Try.func17, Try.ntmps17
  have kx := BX.out.at_
  go_wp2_with fail
  generalize w.alloc (.cells #[.int .i64 L, .int .i64 O, .slice A n cp] 24) = w0 at *
  refine cK.out.mono ?_
  rintro e w1 ⟨rfl, hb_⟩
  have HB1 := Lib.hid hb_
  have kx2 := (BX.out.keep hb_).at_
  clear hb_ kx cK
  have cCl := cloneC_any A n cp cs w1 (h1.out.keep (bthen hbw.out HB1.out)) hn100
  replace cCl := Lib.hid cCl
  go_wp2_with fail
  refine cCl.out.mono ?_
  rintro e w2 ⟨A2, c2, rfl, ho2, hb_⟩
  have HB2 := Lib.hid (bthen HB1.out hb_)
  have HO2 := Lib.hid (own_base ho2 HB1.out.size)
  clear ho2 hb_ kx2 cCl HB1
  have hO20 : Hid (∃ v, v = (.slice A2 n c2 : Value) ∧ w2.ownsRow w0.heap.size 34 5 v (CF 0).length ((CF 0).flatMap celE)) := ⟨_, rfl, by rw [hC0'.out, hl1.out]; exact HO2.out⟩
  clear HO2
  have hl2m : m ≤ 1024 := by rw [← hl2.out]; exact hfew
  go_wp2_with fail
  go_loopw [10, 38] (fun s10 i wr => ∃ (k : Nat) (v : Value), k ≤ m ∧ i = .int .i64 k ∧ v = s10 ∧ Hid (wr.ownsRow w0.heap.size 34 5 v (CF k).length ((CF k).flatMap celE)) ∧ Hid (Below w0.heap.size w0 wr)) (fun _ i _ => m - (intOf i).toNat)
  case atStart =>
    obtain ⟨v, rfl, hv⟩ := hO20.out
    exact ⟨0, _, by omega, rfl, rfl, hv, HB2⟩
  case round =>
    obtain ⟨k, v, hkm, rfl, rfl, HO, HB⟩ := hrel
    clear hO20 HB2
    by_cases hlt : k < m
    · obtain ⟨b, off, rfl⟩ := h2.out.addr (by omega)
      have hx := chg_at (h2.out.keep (bthen hbw.out HB.out)) hlt
      have hcs := hCs'.out k hlt
      have hcl2 := hCl'.out k hkm
      generalize l.getD k default = x at *
      have HN1 : Hid ((CF (k + 1)).length = (CF k).length + 1) := by show _ = _; rw [hcs]; simp
      have HN2 : Hid ((CF (k + 1)).flatMap celE = (CF k).flatMap celE ++ [.int .i64 x.cell.slot, .int .i64 x.cell.offset, .int .i64 x.cell.frm, .int .i64 x.cell.to, .int .i64 x.cell.flow]) := by show _ = _; rw [hcs, List.flatMap_append]; simp [celE]
      clear hcs
      obtain ⟨x0, x1, ⟨y0, y1, y2, y3, y4⟩⟩ := x
      obtain ⟨q0, q1, q2, q3, q4, q5, q6⟩ := hx
      dsimp only at q0 q1 q2 q3 q4 q5 q6 HN2
      have BXx := Box.new wr #[.int .i64 x0, .bool x1, .int .i64 y0, .int .i64 y1, .int .i64 y2, .int .i64 y3, .int .i64 y4] 56
      have HBb := ballN HB.out (.cells #[.int .i64 x0, .bool x1, .int .i64 y0, .int .i64 y1, .int .i64 y2, .int .i64 y3, .int .i64 y4] 56)
      have HOb := HO.out.alloc (.cells #[.int .i64 x0, .bool x1, .int .i64 y0, .int .i64 y1, .int .i64 y2, .int .i64 y3, .int .i64 y4] 56)
      have r1 : (k : Int) < (m : Int) := by omega
      have kx := BXx.at_
      replace BXx := Lib.hid BXx
      replace HBb := Lib.hid HBb
      replace HOb := Lib.hid HOb
      clear HO HB
      go_upto_region 10 with fail
      clear q0 q1 q2 q3 q4 q5 q6 kx
      generalize hB' : wr.heap.size = Bx at *
      generalize wr.alloc (.cells #[.int .i64 x0, .bool x1, .int .i64 y0, .int .i64 y1, .int .i64 y2, .int .i64 y3, .int .i64 y4] 56) = wb at *
      have kx := BXx.out.at_
      have HOa := HOb.out.alloc (.cells #[.int .i64 y0, .int .i64 y1, .int .i64 y2, .int .i64 y3, .int .i64 y4] 34)
      have HBa := ballN HBb.out (.cells #[.int .i64 y0, .int .i64 y1, .int .i64 y2, .int .i64 y3, .int .i64 y4] 34)
      have hnews := World.news_of_block (Blk.new wb #[.int .i64 y0, .int .i64 y1, .int .i64 y2, .int .i64 y3, .int .i64 y4] 34).at_
      have hs3 := HBb.out.size
      generalize (CF k).flatMap celE = XF at *
      generalize (CF k).length = q at *
      replace HOa := Lib.hid HOa
      replace HBa := Lib.hid HBa
      replace hnews := Lib.hid hnews
      replace hB' := Lib.hid hB'
      go_wp2_with (at_builtin; refine wpList_append_lies _ rfl _ _ _ rfl w0.heap.size 34 j0 (.agg #[.int .i64 0, .int .i64 0, .int .i64 0, .int .i64 0, .int .i64 0]) 5 40 Try.underlying22 hj.out hy0.out hy1.out hy2.out rfl (by decide) v q _ rfl HOa.out ⟨wb.heap.size, 0, none⟩ 1 1 [.int .i64 y0, .int .i64 y1, .int .i64 y2, .int .i64 y3, .int .i64 y4] rfl rfl ?c1 ?c2 (by decide) ?c3 ?c4 ?c5 (wb.heap.size + 1) ?c6 ?_)
      try case c1 => exact hnews.out
      try case c2 => simp [Value.oneCell']
      try case c3 => unfold maxLen; omega
      try case c4 => omega
      try case c5 => first | omega | (simp; omega)
      try case c6 => first | rfl | simp
      intro g cap w5 hown1 hgrow1 hat1 hlt1
      have HO5 : Hid (w5.ownsRow w0.heap.size 34 5 (.slice (some ⟨g, 0, none⟩) (q + 1) cap) (CF (k + 1)).length ((CF (k + 1)).flatMap celE)) := by
        show World.ownsRow _ _ _ _ _ _ _
        rw [HN1.out, HN2.out]; exact hown1
      have HB5 := Lib.hid (below_append HBa.out HOa.out hgrow1 (Nat.le_refl _))
      clear hown1 hgrow1 hat1 kx
      go_wp2
      go_roundw
      case rel => exact ⟨k + 1, _, by omega, by go_num, rfl, HO5, HB5⟩
      case measure => simp [intOf]; omega
    · obtain rfl : k = m := by omega
      obtain ⟨A3, c3, rfl⟩ := own_slice HO.out
      have cS := sortC_any (CF k) A3 c3 w0.heap.size wr HO.out (by have := hCl'.out k (Nat.le_refl _); omega)
      have hsl : Hid ((sortC (CF k)).length = (CF k).length) := (sortC_perm (CF k)).length_eq
      have hcl2 := hCl'.out k (Nat.le_refl _)
      have hcn := hCn'.out
      generalize CF k = C0 at *
      replace cS := Lib.hid cS
      replace hcn := Lib.hid hcn
      go_wp2_with fail
      refine cS.out.mono ?_
      rintro e w3 ⟨rfl, ho3, hbb⟩
      have HB3 := Lib.hid (hbb w0 HB.out (Nat.le_refl _))
      have cP := compactC_any A3 C0.length c3 w0.heap.size (sortC C0) w3 ho3 (by omega)
      have hPp : ∀ e w', CptPost celE 34 5 A3 C0.length c3 w0.heap.size (sortC C0) w3 e w' → CptC CC A3 c3 w0.heap.size w3 (Value.slice A3 C0.length c3).ownBlock e w' := fun e w' ⟨mm, e1, e2, e3, e4⟩ => by
        rw [hcn.out] at e2 e3
        subst e2
        exact ⟨e1, e3, e4⟩
      have hbl := Lib.hid ho3.lt
      generalize (Value.slice A3 C0.length c3).ownBlock = ob at *
      generalize CptPost celE 34 5 A3 C0.length c3 w0.heap.size (sortC C0) w3 = PP at *
      generalize sortC C0 = C1 at *
      generalize C0.length = n0 at *
      clear hbb HO HB
      replace cP := Lib.hid cP
      replace ho3 := Lib.hid ho3
      replace hPp := Lib.hid hPp
      go_wp2_with fail
      refine cP.out.mono ?_
      rintro e w4 hpp
      obtain ⟨rfl, ho4, hg4⟩ := hPp.out _ _ hpp
      have HB4 := Lib.hid (HB3.out.grown hg4 HB3.out.size (fun q hq => (hbl.out q hq).1))
      have HC4 := Lib.hid (Sls.of_owns celE_len ho4 rfl).2
      clear hpp ho4 hg4 ho3 HB3 hbl cP hPp
      clear hcn cS
      have hO0 : Hid (∃ v, v = (.slice none 0 0 : Value) ∧ w4.ownsRow w4.heap.size 45 9 v (G 0).length ((G 0).flatMap dutE)) := ⟨_, rfl, by rw [hG0'.out]; exact World.ownsRow_nil _ _ _ _⟩
      obtain ⟨nc, hnc⟩ : ∃ nc, nc = CC.length := ⟨_, rfl⟩
      rw [← hnc] at HC4
      have hnc2 : nc ≤ 2000 := by rw [hnc]; exact hcc.out
      rw [← hnc]
      replace hnc := Lib.hid hnc
      go_wp2_with fail
      go_loopw [13, 53, 72] (fun s13 i _ wr => ∃ (k : Nat) (v : Value), k ≤ nc ∧ i = .int .i64 k ∧ v = s13 ∧ Hid (wr.ownsRow w4.heap.size 45 9 v (G k).length ((G k).flatMap dutE)) ∧ Hid (Below w4.heap.size w4 wr)) (fun _ i _ _ => nc - (intOf i).toNat)
      case atStart =>
        obtain ⟨v, rfl, hv⟩ := hO0.out
        exact ⟨0, _, by omega, rfl, rfl, hv, Below.refl _ _⟩
      case round =>
        obtain ⟨q, v, hqn, rfl, rfl, HO, HB⟩ := hrel
        clear hO0
        have HBw := Lib.hid (bthen HB4.out HB.out)
        have HB0 := Lib.hid (bthen hbw.out HBw.out)
        by_cases hlt : q < nc
        · obtain ⟨b, off, rfl⟩ := HC4.out.addr (by omega)
          have hx := cel_at (HC4.out.keep HB.out) hlt
          have hgs := hGs'.out q (by rw [← hnc.out]; exact hlt)
          have hgl := hGl'.out q (by rw [← hnc.out]; exact hqn)
          have hd1 := hD1.out (CC.getD q default)
          have hd2 := hD2.out (CC.getD q default)
          have hct := cT.out (CC.getD q default)
          have hbdc := hbd.out (CC.getD q default)
          have htl := hTl.out (CC.getD q default)
          generalize hcc' : CC.getD q default = c at *
          have hdu := fun (t : Int × Int) W (h3 : t ∈ TF c) => duties_any c node L t W ⟨hL1, hL2⟩ ⟨(hbdc t h3).1, (hbdc t h3).2.1⟩ ⟨(hbdc t h3).2.2.1, (hbdc t h3).2.2.2.1⟩
          generalize hTc : TF c = T at *
          have hHs := fun j (hj : j < T.length) => flatMap_take_succ (dutiesC c node L) T j hj
          have hHn : (T.take T.length).flatMap (dutiesC c node L) = T.flatMap (dutiesC c node L) := by rw [List.take_length]
          have hHl := fun j (hj : j ≤ T.length) => Nat.le_trans (flatMap_len (dutiesC c node L) 3 (dutiesC_len c node L) (T.take j)) (by rw [List.length_take]; omega : (T.take j).length * 3 ≤ 3075)
          have hdp := dutiesC_pos c node L
          have hdl := dutiesC_len c node L
          generalize hDC : dutiesC c node L = DC at *
          obtain ⟨y0, y1, y2, y3, y4⟩ := c
          obtain ⟨q0, q1, q2, q3, q4⟩ := hx
          dsimp only at q0 q1 q2 q3 q4 hd1 hd2 hct hdu
          have BC := Blk.new wr #[.int .i64 y0, .int .i64 y1, .int .i64 y2, .int .i64 y3, .int .i64 y4] 34
          have HBb := ballN HB.out (.cells #[.int .i64 y0, .int .i64 y1, .int .i64 y2, .int .i64 y3, .int .i64 y4] 34)
          have HOb := HO.out.alloc (.cells #[.int .i64 y0, .int .i64 y1, .int .i64 y2, .int .i64 y3, .int .i64 y4] 34)
          have hbb := ball wr (.cells #[.int .i64 y0, .int .i64 y1, .int .i64 y2, .int .i64 y3, .int .i64 y4] 34)
          have kx := BC.cell
          have kb := ((BX.out.keep HBw.out).keep hbb).at_
          have r1 : (q : Int) < (nc : Int) := by omega
          replace BC := Lib.hid BC
          replace HBb := Lib.hid HBb
          replace HOb := Lib.hid HOb
          replace hct := Lib.hid hct
          replace hdu := Lib.hid hdu
          replace hHs := Lib.hid hHs
          replace hHn := Lib.hid hHn
          replace hHl := Lib.hid hHl
          replace hdp := Lib.hid hdp
          replace hdl := Lib.hid hdl
          replace hDC := Lib.hid hDC
          replace hTc := Lib.hid hTc
          replace hcc' := Lib.hid hcc'
          replace hbdc := Lib.hid hbdc
          replace hgs := Lib.hid hgs
          clear HO hbb
          by_cases hno : y2 ≠ node ∧ y3 ≠ node
          · obtain ⟨c1, c2⟩ := hno
            have hd := hd1 ⟨c1, c2⟩
            have d1 : (y2 != node) = true := by rw [bne_iff_ne]; exact c1
            have d2 : (y3 != node) = true := by rw [bne_iff_ne]; exact c2
            have HO3 : Hid ((wr.alloc (.cells #[.int .i64 y0, .int .i64 y1, .int .i64 y2, .int .i64 y3, .int .i64 y4] 34)).ownsRow w4.heap.size 45 9 v (G (q + 1)).length ((G (q + 1)).flatMap dutE)) := by
              show World.ownsRow _ _ _ _ _ _ _
              rw [hgs.out, hd, List.append_nil]; exact HOb.out
            clear hd1 hd2
            replace hd := Lib.hid hd
            replace c1 := Lib.hid c1
            replace c2 := Lib.hid c2
            go_wp2
            go_roundw
            case rel => exact ⟨q + 1, _, by omega, by go_num, rfl, HO3, HBb⟩
            case measure => simp [intOf]; omega
          · have hd := hd2 hno
            clear hd1 hd2
            replace hd := Lib.hid hd
            go_upto_region 17 with fail
            clear q0 q1 q2 q3 q4
            have HB0b := Lib.hid (ballN HB0.out (.cells #[.int .i64 y0, .int .i64 y1, .int .i64 y2, .int .i64 y3, .int .i64 y4] 34))
            have HBwb := Lib.hid (ballN HBw.out (.cells #[.int .i64 y0, .int .i64 y1, .int .i64 y2, .int .i64 y3, .int .i64 y4] 34))
            generalize hB' : wr.heap.size = Bc at *
            generalize wr.alloc (.cells #[.int .i64 y0, .int .i64 y1, .int .i64 y2, .int .i64 y3, .int .i64 y4] 34) = wb at *
            replace hB' := Lib.hid hB'
            go_cut [66] (fun s66 wx => s66 = .bool false ∧ wx = wb)
            case first =>
              by_cases c1 : y2 = node
              · have d1 : (y2 != node) = false := by rw [bne_eq_false_iff_eq]; exact c1
                replace c1 := Lib.hid c1
                replace hno := Lib.hid hno
                go_wp2_with fail
                go_meet
                exact ⟨rfl, rfl⟩
              · have d1 : (y2 != node) = true := by rw [bne_iff_ne]; exact c1
                have c2 : y3 = node := by
                  rcases Int.lt_trichotomy y3 node with h | h | h
                  · exact absurd ⟨c1, by omega⟩ hno
                  · exact h
                  · exact absurd ⟨c1, by omega⟩ hno
                have d2 : (y3 != node) = false := by rw [bne_eq_false_iff_eq]; exact c2
                replace c1 := Lib.hid c1
                replace c2 := Lib.hid c2
                replace hno := Lib.hid hno
                go_wp2_with fail
                go_meet
                exact ⟨rfl, rfl⟩
            case rest =>
              obtain ⟨rfl, rfl⟩ := hcut
              replace hno := Lib.hid hno
              have ct := hct.out wc (h1.out.keep HB0b.out) (h2.out.keep HB0b.out)
              clear kx kb
              have kx := BC.out.cell
              have kb := (BX.out.keep HBwb.out).at_
              replace ct := Lib.hid ct
              go_wp2_with fail
              refine ct.out.mono ?_
              rintro e w5 ⟨A5, c5, rfl, ho5, hb5⟩
              clear kx kb
              have HO5 : Hid (∃ v', v' = v ∧ w5.ownsRow w4.heap.size 45 9 v' (G q ++ (T.take 0).flatMap DC).length ((G q ++ (T.take 0).flatMap DC).flatMap dutE)) := ⟨v, rfl, by rw [List.take_zero, List.flatMap_nil, List.append_nil]; exact owns_keep HOb.out hb5⟩
              have HB5 := Lib.hid (bthen HBb.out hb5)
              have BC5 := Lib.hid (BC.out.keep hb5)
              have HT5 := Lib.hid ho5
              clear ho5 hb5 HOb HBb BC ct HB0b HBwb
              go_wp2_with fail
              go_loopw [13, 72] (fun s13 i wr2 => ∃ (j : Nat) (v : Value), j ≤ T.length ∧ i = .int .i64 j ∧ v = s13 ∧ Hid (wr2.ownsRow w4.heap.size 45 9 v (G q ++ (T.take j).flatMap DC).length ((G q ++ (T.take j).flatMap DC).flatMap dutE)) ∧ Hid (Below w4.heap.size w4 wr2) ∧ Hid (Blk wr2 Bc #[.int .i64 y0, .int .i64 y1, .int .i64 y2, .int .i64 y3, .int .i64 y4] 34) ∧ Hid (wr2.ownsRow wc.heap.size 42 2 (.slice A5 T.length c5) T.length (T.flatMap prE))) (fun _ i _ => T.length - (intOf i).toNat)
              case atStart =>
                obtain ⟨v', rfl, hv⟩ := HO5.out
                exact ⟨0, _, by omega, rfl, rfl, hv, HB5, BC5, HT5⟩
              case round =>
                clear HO5 HB5 BC5 HT5
                obtain ⟨j, u, hjn, rfl, rfl, HO, HB, BC, HT⟩ := hrel
                by_cases hlj : j < T.length
                · have hP := (Sls.of_owns prE_len HT.out rfl).2
                  obtain ⟨b2, off2, rfl⟩ := hP.addr (by omega)
                  have hx := pr_at hP hlj
                  have hhs := hHs.out j hlj
                  have hhl := hHl.out j hjn
                  have hmem := ok_at (P := (· ∈ T)) (fun _ h => h) hlj
                  have hduj := fun W => hdu.out (T.getD j default) W hmem
                  have hpj := hdp.out (T.getD j default)
                  have hlj3 := hdl.out (T.getD j default)
                  generalize T.getD j default = tj at *
                  have HN1 : Hid ((G q ++ (T.take (j + 1)).flatMap DC).length = (G q ++ (T.take j).flatMap DC).length + (DC tj).length) := by show _ = _; rw [hhs, ← List.append_assoc, List.length_append]
                  have HN2 : Hid ((G q ++ (T.take (j + 1)).flatMap DC).flatMap dutE = (G q ++ (T.take j).flatMap DC).flatMap dutE ++ (DC tj).flatMap dutE) := by show _ = _; rw [hhs, ← List.append_assoc, List.flatMap_append]
                  have hNl : (G q ++ (T.take j).flatMap DC).length ≤ 6153075 := by rw [List.length_append]; omega
                  generalize DC tj = DS at *
                  obtain ⟨t0, t1⟩ := tj
                  obtain ⟨p0, p1⟩ := hx
                  dsimp only at p0 p1 hduj
                  have BT := Box.new wr #[.int .i64 t0, .int .i64 t1] 42
                  have hbb := ball wr (.cells #[.int .i64 t0, .int .i64 t1] 42)
                  have HOb := Lib.hid (HO.out.alloc (.cells #[.int .i64 t0, .int .i64 t1] 42))
                  have HBb := Lib.hid (ballN HB.out (.cells #[.int .i64 t0, .int .i64 t1] 42))
                  have BCb := Lib.hid (BC.out.alloc (.cells #[.int .i64 t0, .int .i64 t1] 42))
                  have HTb := Lib.hid (HT.out.alloc (.cells #[.int .i64 t0, .int .i64 t1] 42))
                  have kt := BT.at_
                  have kc := BCb.out.cell
                  have kb := (BX.out.keep (bthen HB4.out HBb.out)).at_
                  have hd2 := hduj (wr.alloc (.cells #[.int .i64 t0, .int .i64 t1] 42))
                  have r1 : (j : Int) < (T.length : Int) := by omega
                  replace hduj := Lib.hid hduj
                  replace hmem := Lib.hid hmem
                  replace hhs := Lib.hid hhs
                  replace hd2 := Lib.hid hd2
                  replace BT := Lib.hid BT
                  replace hbb := Lib.hid hbb
                  clear HO HB BC HT
                  go_wp2_with fail
                  refine hd2.out.mono ?_
                  rintro e w6 ⟨A6, c6, rfl, ho6, hb6⟩
                  have HO6 := Lib.hid (owns_keep HOb.out hb6)
                  have HB6 := Lib.hid (bthen HBb.out hb6)
                  have BC6 := Lib.hid (BCb.out.keep hb6)
                  have HT6 := Lib.hid (owns_keep HTb.out hb6)
                  have hs6 := HB6.out.size
                  have hfl : (DS.flatMap dutE).length = DS.length * 9 := Sk.fm_len dutE 9 dutE_len DS
                  have hf1 := fm_one dutE_one DS
                  obtain ⟨g6, rfl⟩ : ∃ g6, A6 = some ⟨g6, 0, none⟩ := by
                    rcases ho6.2 with ⟨hv, h0⟩ | ⟨g6, cap6, cur6, hv, _⟩
                    · omega
                    · injection hv with hA _ _; exact ⟨g6, hA⟩
                  have hnews := ho6.cells (g := g6) rfl
                  clear hb6 kt kc kb HOb HBb BCb HTb p0 p1 hP ho6
                  generalize (G q ++ (T.take j).flatMap DC).flatMap dutE = XF at *
                  generalize (G q ++ (T.take j).flatMap DC).length = N at *
                  generalize DS.flatMap dutE = DF at *
                  generalize DS.length = dn at *
                  replace hfl := Lib.hid hfl
                  replace hf1 := Lib.hid hf1
                  replace hnews := Lib.hid hnews
                  replace hd2 := Lib.hid hd2
                  go_wp2_with (at_builtin; refine wpList_append_lies _ rfl _ _ _ rfl w4.heap.size 45 i0 (.agg #[.int .i64 0, .int .i64 0, .int .i64 0, .int .i64 0, .int .i64 0, .bool false, .bool false, .int .i64 0, .int .i64 0]) 9 64 Try.underlying38 hi.out hz0.out hz1.out hz2.out rfl (by decide) u N _ rfl HO6.out ⟨g6, 0, none⟩ dn c6 DF rfl hfl.out ?d1 ?d2 ?d3 ?d4 ?d5 ?d6 w6.heap.size rfl ?_)
                  try case d1 => exact hnews.out
                  try case d2 => exact hf1.out
                  try case d3 => exact hpj
                  try case d4 => unfold maxLen; omega
                  try case d5 => omega
                  try case d6 => exact hs6
                  intro g cap w7 hown1 hgrow1 hat1 hlt1
                  have HO7 : Hid (w7.ownsRow w4.heap.size 45 9 (.slice (some ⟨g, 0, none⟩) (N + dn) cap) (G q ++ (T.take (j + 1)).flatMap DC).length ((G q ++ (T.take (j + 1)).flatMap DC).flatMap dutE)) := by
                    show World.ownsRow _ _ _ _ _ _ _
                    rw [HN1.out, HN2.out]; exact hown1
                  have HB7 := Lib.hid (below_append HB6.out HO6.out hgrow1 (Nat.le_refl _))
                  have BC7 := Lib.hid (BC6.out.grown hgrow1 (row_ne_blk HO6.out BC6.out (by decide)))
                  have HT7 := Lib.hid (HT6.out.kept hgrow1 (rows_ne HT6.out HO6.out (by decide)))
                  clear hown1 hgrow1 hat1 HO6 HB6 BC6 HT6
                  go_wp2
                  go_roundw
                  case rel => exact ⟨j + 1, _, by omega, by go_num, rfl, HO7, HB7, BC7, HT7⟩
                  case measure => simp [intOf]; omega
                · obtain rfl : j = T.length := by omega
                  have HO8 : Hid (wr.ownsRow w4.heap.size 45 9 u (G (q + 1)).length ((G (q + 1)).flatMap dutE)) := by
                    show World.ownsRow _ _ _ _ _ _ _
                    rw [hgs.out, hd.out, ← hHn.out]; exact HO.out
                  clear HO
                  go_wp2
                  go_roundw
                  case rel => exact ⟨q + 1, _, by omega, by go_num, rfl, HO8, HB⟩
                  case measure => simp [intOf]; omega
        · obtain rfl : q = nc := by omega
          obtain ⟨A7, c7, rfl⟩ := own_slice HO.out
          have hHO := HO.out
          have hgn := hGn'.out
          have hgl := hGl'.out q (by rw [← hnc.out]; exact Nat.le_refl _)
          rw [← hnc.out] at hgn
          rw [hgn] at hHO hgl
          have cS := sortStable_any cmpD swoD 46 #[] eDu1 AD A7 c7 w4.heap.size wr hHO (by omega) (fun blk _ _ => cmpD_lays blk _ _)
          rw [hgn]
          replace cS := Lib.hid cS
          replace hgn := Lib.hid hgn
          clear hHO HO
          go_wp2_with fail
          refine cS.out.mono ?_
          rintro e w8 ⟨rfl, d', hp, hpw, ho, hbb⟩
          have hF := hpost.out d' A7 c7 w8 hp hpw (own_base ho (by have := HB4.out.size; have := hsz1.out; omega)) (bthen hbw.out (bthen HB4.out (hbb w4 HB.out (Nat.le_refl _))))
          replace hF := Lib.hid hF
          replace hp := Lib.hid hp
          replace ho := Lib.hid ho
          replace hbb := Lib.hid hbb
          replace hpw := Lib.hid hpw
          go_wp2
          refine bodyPost_ret (v := .tuple #[.slice A7 AD.length c7, .int .i64 0]) (by simp [results, Try.results17, go_sem]) rfl hF.out
end Sw
end Go.Proofs.Ytdlgdmbcbenlbaa
namespace Go.Proofs.Ytdlgdmbcbenlbaa
open Go Go.RowKit Go.Sort
namespace Sw
open Mm
theorem info_int : (Try.prog.info? 3).map (fun i => (i.zero, i.size, i.bytes)) = some (some (.int .i64 0), 1, 8) := by kernel_rfl
def eqP (a b : Int × Int) : Bool := decide (a = b)
theorem eqP_split (a b : Int × Int) : eqP a b = (a.1 == b.1 && a.2 == b.2) := by
  unfold eqP
  obtain ⟨a0, a1⟩ := a
  obtain ⟨b0, b1⟩ := b
  rw [Bool.eq_iff_iff]
  simp
theorem neq_pr (a b : Int × Int) (W : World) : (binOp .neq 42 (.agg #[.int .i64 a.1, .int .i64 a.2]) (.agg #[.int .i64 b.1, .int .i64 b.2])).run Try.prog W = .ok (.bool (!eqP a b)) W := by
  have u3 := Try.underlying3
  have a3 := Try.isAgg3
  have z3 := Try.sizeOf3
  have hu := Try.underlying42
  obtain ⟨i, hi, hz0, hz1, hz2⟩ := info_parts info_int
  have hc1 : Try.prog.cellsOf 3 = 1 := by kernel_rfl
  rw [eqP_split, run_neq_struct, show (10000 : Nat) = 9999 + 1 from rfl, run_equalIn_array W 9999 _ _ hu hi]
  simp only [List.range_succ_eq_map, List.range_zero, List.map_nil, List.map_cons, Op.eqItems, hc1]
  go_simp
  by_cases h0 : a.1 = b.1
  · by_cases h1 : a.2 = b.2 <;> simp [h0, h1]
  · simp [h0]
def eqD (a b : Dut) : Bool := decide (a = b)
theorem eqD_split (a b : Dut) : eqD a b = (eqC a.cell b.cell && (a.sends == b.sends && (a.extra == b.extra && (a.first == b.first && a.til == b.til)))) := by
  unfold eqD eqC
  obtain ⟨a0, a1, a2, a3, a4⟩ := a
  obtain ⟨b0, b1, b2, b3, b4⟩ := b
  rw [Bool.eq_iff_iff]
  simp
set_option maxRecDepth 100000 in
theorem equal_dut (a b : Dut) (W : World) : (Op.equalIn 10000 45 (.agg #[.int .i64 a.cell.slot, .int .i64 a.cell.offset, .int .i64 a.cell.frm, .int .i64 a.cell.to, .int .i64 a.cell.flow, .bool a.sends, .bool a.extra, .int .i64 a.first, .int .i64 a.til]) (.agg #[.int .i64 b.cell.slot, .int .i64 b.cell.offset, .int .i64 b.cell.frm, .int .i64 b.cell.to, .int .i64 b.cell.flow, .bool b.sends, .bool b.extra, .int .i64 b.first, .int .i64 b.til])).run Try.prog W = .ok (eqD a b) W := by
  have u3 := Try.underlying3
  have a3 := Try.isAgg3
  have z3 := Try.sizeOf3
  have u4 := Try.underlying4
  have a4 := Try.isAgg4
  have z4 := Try.sizeOf4
  have a5 := Try.isAgg34
  have z5 := Try.sizeOf34
  have hS : Try.prog.underlying 45 = some (.struct (Try.prog.fieldsOf 45)) := by kernel_rfl
  have hp : Try.prog.stoodInHeld 45 = false := by kernel_rfl
  rw [eqD_split, eqC_split, show (10000 : Nat) = 9999 + 1 from rfl, run_equalIn_agg W 9999 45 _ _ hS hp]
  simp only [Program.fieldsOf, Try.underlying45]
  go_simp
  by_cases h0 : a.cell.slot = b.cell.slot
  case neg => simp [h0]
  by_cases h1 : a.cell.offset = b.cell.offset
  case neg => simp [h0, h1]
  by_cases h2 : a.cell.frm = b.cell.frm
  case neg => simp [h0, h1, h2]
  by_cases h3 : a.cell.to = b.cell.to
  case neg => simp [h0, h1, h2, h3]
  by_cases h4 : a.cell.flow = b.cell.flow
  case neg => simp [h0, h1, h2, h3, h4]
  by_cases h5 : a.sends = b.sends
  case neg => simp [h0, h1, h2, h3, h4, h5]
  by_cases h6 : a.extra = b.extra
  case neg => simp [h0, h1, h2, h3, h4, h5, h6]
  by_cases h7 : a.first = b.first
  case neg => simp [h0, h1, h2, h3, h4, h5, h6, h7]
  by_cases h8 : a.til = b.til
  · simp [h0, h1, h2, h3, h4, h5, h6, h7, h8]
  · simp [h0, h1, h2, h3, h4, h5, h6, h7, h8]
theorem eql_dut (a b : Dut) (W : World) : (binOp .eql 45 (.agg #[.int .i64 a.cell.slot, .int .i64 a.cell.offset, .int .i64 a.cell.frm, .int .i64 a.cell.to, .int .i64 a.cell.flow, .bool a.sends, .bool a.extra, .int .i64 a.first, .int .i64 a.til]) (.agg #[.int .i64 b.cell.slot, .int .i64 b.cell.offset, .int .i64 b.cell.frm, .int .i64 b.cell.to, .int .i64 b.cell.flow, .bool b.sends, .bool b.extra, .int .i64 b.first, .int .i64 b.til])).run Try.prog W = .ok (.bool (eqD a b)) W := by
  rw [run_eql_struct, equal_dut]; rfl
theorem neq_dut (a b : Dut) (W : World) : (binOp .neq 45 (.agg #[.int .i64 a.cell.slot, .int .i64 a.cell.offset, .int .i64 a.cell.frm, .int .i64 a.cell.to, .int .i64 a.cell.flow, .bool a.sends, .bool a.extra, .int .i64 a.first, .int .i64 a.til]) (.agg #[.int .i64 b.cell.slot, .int .i64 b.cell.offset, .int .i64 b.cell.frm, .int .i64 b.cell.to, .int .i64 b.cell.flow, .bool b.sends, .bool b.extra, .int .i64 b.first, .int .i64 b.til])).run Try.prog W = .ok (.bool (!eqD a b)) W := by
  rw [run_neq_struct, equal_dut]; rfl
theorem list_eq_getD {α : Type} [Inhabited α] {xs ys : List α} {n : Nat} (h1 : xs.length = n) (h2 : ys.length = n) (h : ∀ j, j < n → xs.getD j default = ys.getD j default) : xs = ys := by
  apply List.ext_getElem (by omega)
  intro i h3 h4
  have := h i (by omega)
  rw [List.getD_eq_getElem?_getD, List.getD_eq_getElem?_getD, List.getElem?_eq_getElem h3, List.getElem?_eq_getElem h4] at this
  exact this
end Sw
end Go.Proofs.Ytdlgdmbcbenlbaa
namespace Go.Proofs.Ytdlgdmbcbenlbaa
open Go Go.RowKit Go.Sort
namespace Sw
open Mm
set_option maxRecDepth 100000 in
set_option maxHeartbeats 4000000 in
theorem equalP_any (A B : Option Addr) (n m c1 c2 : Nat) (xs ys : List (Int × Int)) (w : World) (h1 : PrS w A n xs) (h2 : PrS w B m ys) :
    Calls Try.prog 19 #[.slice A n c1, .slice B m c2] w fun e w' => e = .returned (.bool (decide (xs = ys))) ∧ Below w.heap.size w w' := by
  have hl1 := h1.len
  have hl2 := h2.len
  have hs := h1.small
  unfold maxLen at hs
  have kn := neq_pr
  have hE : ∀ a b, eqP a b = decide (a = b) := fun _ _ => rfl
  have hne : n ≠ m → decide (xs = ys) = false := fun h => decide_eq_false (fun e => h (by rw [← hl1, ← hl2, e]))
  have hno : ∀ k, eqP (xs.getD k default) (ys.getD k default) = false → decide (xs = ys) = false := fun k h => decide_eq_false (fun e => by rw [e, hE, decide_eq_false_iff_not] at h; exact h rfl)
  have hyes : n = m → (∀ j, j < n → xs.getD j default = ys.getD j default) → decide (xs = ys) = true := fun h h2 => decide_eq_true (list_eq_getD hl1 (by rw [hl2, h]) h2)
  generalize decide (xs = ys) = R at *
  generalize eqP = E at *
  replace h1 := Lib.hid h1
  replace h2 := Lib.hid h2
  replace hl1 := Lib.hid hl1
  replace hl2 := Lib.hid hl2
  replace kn := Lib.hid kn
  replace hE := Lib.hid hE
  replace hno := Lib.hid hno
  replace hyes := Lib.hid hyes
  by_cases hnm : n = m
  · subst hnm
    have hbb : ((n : Int) != (n : Int)) = false := by simp
    clear hne
    go_enter Try.func19, Try.ntmps19
    go_wp2_with fail
    go_loopw [5, 13] (fun _ i wr => ∃ k : Nat, k ≤ n ∧ i = .int .i64 k ∧ Hid (∀ j, j < k → xs.getD j default = ys.getD j default) ∧ Hid (Below w.heap.size w wr)) (fun _ i _ => n - (intOf i).toNat)
    case atStart => exact ⟨0, by omega, rfl, fun j hj => absurd hj (by omega), Below.refl _ _⟩
    case round =>
      obtain ⟨k, hk, rfl, HP, HB⟩ := hrel
      by_cases hlt : k < n
      · obtain ⟨b1, o1, rfl⟩ := h1.out.addr (by omega)
        obtain ⟨b2, o2, rfl⟩ := h2.out.addr (by omega)
        have hx := pr_at (h1.out.keep HB.out) hlt
        have hy := pr_at (h2.out.keep HB.out) hlt
        have he := kn.out (xs.getD k default) (ys.getD k default)
        have hEx := hE.out (xs.getD k default) (ys.getD k default)
        have hnk := hno.out k
        generalize hX : xs.getD k default = x at *
        generalize hY : ys.getD k default = y at *
        generalize E x y = Q at *
        obtain ⟨x0, x1⟩ := x
        obtain ⟨y0, y1⟩ := y
        obtain ⟨q0, q1⟩ := hx
        obtain ⟨p0, p1⟩ := hy
        dsimp only at q0 q1 p0 p1 he
        have a0 := cell_regrown q0
        have b0 := cell_regrown p0
        have a1 := cell_regrown q1
        have b1 := cell_regrown p1
        have r1 : (k : Int) < (n : Int) := by omega
        clear q0 q1 p0 p1
        replace hEx := Lib.hid hEx
        replace hX := Lib.hid hX
        replace hY := Lib.hid hY
        replace hnk := Lib.hid hnk
        cases Q with
        | true =>
          have hP2 : Hid (∀ j, j < k + 1 → xs.getD j default = ys.getD j default) := fun j hj => by
            by_cases e : j = k
            · subst e
              have := hEx.out
              rw [eq_comm, decide_eq_true_eq] at this
              rw [hX.out, hY.out, this]
            · exact HP.out j (by omega)
          go_wp2_with fail
          refine wp_region_quiet_below (by kernel_rfl) (by kernel_rfl) ?_
          repeat (go_big_quiet_step (fail))
          refine wpQuiet_nil ?_
          rintro _ ⟨⟨dq, osq⟩, rfl⟩
          have hb_ := below_regrown wr dq osq
          replace HB := Lib.hid (HB.out.keep hb_)
          generalize grow (redrawn wr dq) osq = w2 at *
          clear hb_
          go_wp2
          go_roundw
          case rel => exact ⟨k + 1, by omega, by go_num, hP2, HB⟩
          case measure => simp [intOf]; omega
        | false =>
          have hR := Lib.hid (hnk.out rfl)
          go_wp2_with fail
          refine wp_region_quiet_below (by kernel_rfl) (by kernel_rfl) ?_
          repeat (go_big_quiet_step (fail))
          refine wpQuiet_nil ?_
          rintro _ ⟨⟨dq, osq⟩, rfl⟩
          have hb_ := below_regrown wr dq osq
          replace HB := Lib.hid (HB.out.keep hb_)
          generalize grow (redrawn wr dq) osq = w2 at *
          clear hb_
          go_wp2
          go_ret
          exact ⟨by rw [hR.out]; rfl, HB.out⟩
      · obtain rfl : k = n := by omega
        have hR := Lib.hid (hyes.out (by first | rfl | trivial) HP.out)
        go_wp2
        go_ret
        exact ⟨by rw [hR.out]; rfl, HB.out⟩
  · have hR := Lib.hid (hne hnm)
    have hbb : ((n : Int) != (m : Int)) = true := by rw [bne_iff_ne]; omega
    clear hne
    replace hnm := Lib.hid hnm
    go_enter Try.func19, Try.ntmps19
    go_wp2
    go_ret
    exact ⟨by rw [hR.out]; rfl, Below.refl _ _⟩
set_option maxRecDepth 100000 in
set_option maxHeartbeats 4000000 in
theorem equalD_any (A B : Option Addr) (n m c1 c2 : Nat) (xs ys : List Dut) (w : World) (h1 : DutS w A n xs) (h2 : DutS w B m ys) :
    Calls Try.prog 20 #[.slice A n c1, .slice B m c2] w fun e w' => e = .returned (.bool (decide (xs = ys))) ∧ Below w.heap.size w w' := by
  have hl1 := h1.len
  have hl2 := h2.len
  have hs := h1.small
  unfold maxLen at hs
  have kn := neq_dut
  have hE : ∀ a b, eqD a b = decide (a = b) := fun _ _ => rfl
  have hne : n ≠ m → decide (xs = ys) = false := fun h => decide_eq_false (fun e => h (by rw [← hl1, ← hl2, e]))
  have hno : ∀ k, eqD (xs.getD k default) (ys.getD k default) = false → decide (xs = ys) = false := fun k h => decide_eq_false (fun e => by rw [e, hE, decide_eq_false_iff_not] at h; exact h rfl)
  have hyes : n = m → (∀ j, j < n → xs.getD j default = ys.getD j default) → decide (xs = ys) = true := fun h h2 => decide_eq_true (list_eq_getD hl1 (by rw [hl2, h]) h2)
  generalize decide (xs = ys) = R at *
  generalize eqD = E at *
  replace h1 := Lib.hid h1
  replace h2 := Lib.hid h2
  replace hl1 := Lib.hid hl1
  replace hl2 := Lib.hid hl2
  replace kn := Lib.hid kn
  replace hE := Lib.hid hE
  replace hno := Lib.hid hno
  replace hyes := Lib.hid hyes
  by_cases hnm : n = m
  · subst hnm
    have hbb : ((n : Int) != (n : Int)) = false := by simp
    clear hne
    go_enter Try.func20, Try.ntmps20
    go_wp2_with fail
    go_loopw [5, 13] (fun _ i wr => ∃ k : Nat, k ≤ n ∧ i = .int .i64 k ∧ Hid (∀ j, j < k → xs.getD j default = ys.getD j default) ∧ Hid (Below w.heap.size w wr)) (fun _ i _ => n - (intOf i).toNat)
    case atStart => exact ⟨0, by omega, rfl, fun j hj => absurd hj (by omega), Below.refl _ _⟩
    case round =>
      obtain ⟨k, hk, rfl, HP, HB⟩ := hrel
      by_cases hlt : k < n
      · obtain ⟨b1, o1, rfl⟩ := h1.out.addr (by omega)
        obtain ⟨b2, o2, rfl⟩ := h2.out.addr (by omega)
        have hx := dut_at (h1.out.keep HB.out) hlt
        have hy := dut_at (h2.out.keep HB.out) hlt
        have he := kn.out (xs.getD k default) (ys.getD k default)
        have hEx := hE.out (xs.getD k default) (ys.getD k default)
        have hnk := hno.out k
        generalize hX : xs.getD k default = x at *
        generalize hY : ys.getD k default = y at *
        generalize E x y = Q at *
        obtain ⟨⟨x0, x1, x2, x3, x4⟩, x5, x6, x7, x8⟩ := x
        obtain ⟨⟨y0, y1, y2, y3, y4⟩, y5, y6, y7, y8⟩ := y
        obtain ⟨q0, q1, q2, q3, q4, q5, q6, q7, q8⟩ := hx
        obtain ⟨p0, p1, p2, p3, p4, p5, p6, p7, p8⟩ := hy
        dsimp only at q0 q1 q2 q3 q4 q5 q6 q7 q8 p0 p1 p2 p3 p4 p5 p6 p7 p8 he
        have a0 := cell_regrown q0
        have b0 := cell_regrown p0
        have a1 := cell_regrown q1
        have b1 := cell_regrown p1
        have a2 := cell_regrown q2
        have b2 := cell_regrown p2
        have a3 := cell_regrown q3
        have b3 := cell_regrown p3
        have a4 := cell_regrown q4
        have b4 := cell_regrown p4
        have a5 := cell_regrown q5
        have b5 := cell_regrown p5
        have a6 := cell_regrown q6
        have b6 := cell_regrown p6
        have a7 := cell_regrown q7
        have b7 := cell_regrown p7
        have a8 := cell_regrown q8
        have b8 := cell_regrown p8
        have r1 : (k : Int) < (n : Int) := by omega
        clear q0 q1 q2 q3 q4 q5 q6 q7 q8 p0 p1 p2 p3 p4 p5 p6 p7 p8
        replace hEx := Lib.hid hEx
        replace hX := Lib.hid hX
        replace hY := Lib.hid hY
        replace hnk := Lib.hid hnk
        cases Q with
        | true =>
          have hP2 : Hid (∀ j, j < k + 1 → xs.getD j default = ys.getD j default) := fun j hj => by
            by_cases e : j = k
            · subst e
              have := hEx.out
              rw [eq_comm, decide_eq_true_eq] at this
              rw [hX.out, hY.out, this]
            · exact HP.out j (by omega)
          go_wp2_with fail
          refine wp_region_quiet_below (by kernel_rfl) (by kernel_rfl) ?_
          repeat (go_big_quiet_step (fail))
          refine wpQuiet_nil ?_
          rintro _ ⟨⟨dq, osq⟩, rfl⟩
          have hb_ := below_regrown wr dq osq
          replace HB := Lib.hid (HB.out.keep hb_)
          generalize grow (redrawn wr dq) osq = w2 at *
          clear hb_
          go_wp2
          go_roundw
          case rel => exact ⟨k + 1, by omega, by go_num, hP2, HB⟩
          case measure => simp [intOf]; omega
        | false =>
          have hR := Lib.hid (hnk.out rfl)
          go_wp2_with fail
          refine wp_region_quiet_below (by kernel_rfl) (by kernel_rfl) ?_
          repeat (go_big_quiet_step (fail))
          refine wpQuiet_nil ?_
          rintro _ ⟨⟨dq, osq⟩, rfl⟩
          have hb_ := below_regrown wr dq osq
          replace HB := Lib.hid (HB.out.keep hb_)
          generalize grow (redrawn wr dq) osq = w2 at *
          clear hb_
          go_wp2
          go_ret
          exact ⟨by rw [hR.out]; rfl, HB.out⟩
      · obtain rfl : k = n := by omega
        have hR := Lib.hid (hyes.out (by first | rfl | trivial) HP.out)
        go_wp2
        go_ret
        exact ⟨by rw [hR.out]; rfl, HB.out⟩
  · have hR := Lib.hid (hne hnm)
    have hbb : ((n : Int) != (m : Int)) = true := by rw [bne_iff_ne]; omega
    clear hne
    replace hnm := Lib.hid hnm
    go_enter Try.func20, Try.ntmps20
    go_wp2
    go_ret
    exact ⟨by rw [hR.out]; rfl, Below.refl _ _⟩
end Sw
end Go.Proofs.Ytdlgdmbcbenlbaa
namespace Go.Proofs.Ytdlgdmbcbenlbaa
open Go Go.RowKit Go.Sort
namespace Sw
open Mm
def awA : Cel := ⟨1, 0, 2, 0, 0⟩
def awL : List Chg := [⟨10, false, awA⟩, ⟨20, true, awA⟩]
def awD : List Dut := [⟨awA, false, false, 0, 10⟩, ⟨awA, false, true, 10, 14⟩, ⟨awA, false, true, 16, 20⟩, ⟨awA, false, false, 20, -1⟩]
theorem aw_chk : chkN 4 1 [awA] awL = (-1, 0) := by decide +kernel
theorem aw_right : Right 4 1 [awA] awL := right_of (by rw [aw_chk])
theorem aw_times : timesR 4 1 [awA] awL awA = [(0, 10), (20, -1)] := by decide +kernel
theorem aw_ok : awA.ok := by unfold Cel.ok I64 awA; dsimp only; decide
theorem aw_ok1 : ∀ c ∈ [awA], c.ok := fun c h => by rw [List.mem_singleton] at h; rw [h]; exact aw_ok
theorem aw_ok2 : ∀ x ∈ awL, x.cell.ok := fun x h => by
  unfold awL at h
  simp only [List.mem_cons, List.not_mem_nil, or_false] at h
  rcases h with rfl | rfl <;> exact aw_ok
theorem aw_cells : cellsC [awA] awL = [awA] := by
  unfold cellsC
  have h := sortC_perm ([awA] ++ awL.map fun x => x.cell)
  have e : [awA] ++ awL.map (fun x => x.cell) = List.replicate 3 awA := rfl
  rw [e] at h ⊢
  rw [List.perm_replicate.1 h]
  decide +kernel
theorem aw_all : (allD 4 [awA] awL 0).Perm awD := by
  unfold allD
  rw [aw_cells]
  decide +kernel
theorem lastN_inj {a b : Int} (h : lastN a = lastN b) (ha : a ≤ 100000) (hb : b ≤ 100000) : a = b := by
  unfold lastN at h
  split at h <;> split at h <;> omega
theorem sorted_one {d e : List Dut} (hp : d.Perm e) (h1 : d.Pairwise fun x y => ltOf cmpD y x = false) (h2 : e.Pairwise fun x y => ltOf cmpD y x = false) (hb : ∀ x ∈ e, x.til ≤ 100000) (hs : ∀ x ∈ e, ∀ y ∈ e, x.cell = y.cell → x.extra = y.extra → x.sends = y.sends) : d = e := by
  refine List.Perm.eq_of_pairwise (fun a b ha hb' h3 h4 => ?_) h1 h2 hp
  have ha' := hp.mem_iff.1 ha
  obtain ⟨e1, e2, e3, e4⟩ := keyD h4 h3
  have e5 := lastN_inj e3 (hb a ha') (hb b hb')
  have e6 := hs a ha' b hb' e1 e4
  obtain ⟨ac, an, ax, af, au⟩ := a
  obtain ⟨bc, bn, bx, bf, bu⟩ := b
  dsimp only at *
  rw [e1, e2, e4, e5, e6]
theorem aw_sorted : awD.Pairwise fun x y => ltOf cmpD y x = false := by decide +kernel
theorem aw_d {d : List Dut} (hp : d.Perm (allD 4 [awA] awL 0)) (h1 : d.Pairwise fun x y => ltOf cmpD y x = false) : d = awD :=
  sorted_one (hp.trans aw_all) h1 aw_sorted (by decide +kernel) (by decide +kernel)
theorem aw_at13 : awD.filter (onB 4 13) = [⟨awA, false, true, 10, 14⟩] := by decide +kernel
theorem aw_at14 : awD.filter (onB 4 14) = [] := by decide +kernel
/-- what the example's calls return -/
def AwTimes (w : World) (e : Ending) (w' : World) : Prop := ∃ A c, e = .returned (.tuple #[.slice A 2 c, .int .i64 0]) ∧ PrS w' A 2 [(0, 10), (20, -1)] ∧ Below w.heap.size w w'
theorem aw_Times (A B : Option Addr) (cp cq : Nat) (w : World) (h1 : CelS w A 1 [awA]) (h2 : ChgS w B 2 awL) :
    Calls Try.prog 15 #[.agg #[.int .i64 4, .int .i64 1, .slice A 1 cp], .slice B 2 cq, .agg #[.int .i64 1, .int .i64 0, .int .i64 2, .int .i64 0, .int .i64 0]] w (AwTimes w) := by
  have h := Times_any 4 1 A 1 cp [awA] B 2 cq awL awA w h1 h2 aw_ok1 aw_ok2 (fun _ => ⟨ends_of (aw_right.okL awA), by decide⟩)
  rw [aw_times, aw_chk] at h
  refine h.mono ?_
  rintro e w' ⟨A', c, rfl, ho, hb⟩
  exact ⟨A', c, rfl, (Sls.of_owns prE_len ho rfl).2, hb⟩
def AwDuties (w : World) (e : Ending) (w' : World) : Prop := ∃ g c, e = .returned (.tuple #[.slice (some ⟨g, 0, none⟩) 4 c, .int .i64 0]) ∧ DutS w' (some ⟨g, 0, none⟩) 4 awD ∧ Below w.heap.size w w'
theorem aw_Duties (A B : Option Addr) (cp cq : Nat) (w : World) (h1 : CelS w A 1 [awA]) (h2 : ChgS w B 2 awL) :
    Calls Try.prog 17 #[.agg #[.int .i64 4, .int .i64 1, .slice A 1 cp], .slice B 2 cq, .int .i64 0] w (AwDuties w) := by
  have h := Duties_ok 4 1 A 1 cp [awA] B 2 cq awL 0 w h1 h2 aw_ok1 aw_ok2 aw_chk aw_right ⟨by decide, by decide⟩
  refine h.mono ?_
  rintro e w' ⟨d', A', c, rfl, hp, hs, ho, hb⟩
  obtain rfl := aw_d hp hs
  rcases ho.2 with ⟨_, h0⟩ | ⟨g, cap, cur, hv, _⟩
  · exact absurd h0 (by decide)
  · injection hv with hA _ _
    subst hA
    exact ⟨g, c, rfl, (Sls.of_owns dutE_len ho rfl).2, hb⟩
def AwAt13 (w : World) (e : Ending) (w' : World) : Prop := ∃ g c, e = .returned (.tuple #[.slice (some ⟨g, 0, none⟩) 1 c, .int .i64 0]) ∧ DutS w' (some ⟨g, 0, none⟩) 1 [⟨awA, false, true, 10, 14⟩] ∧ Below w.heap.size w w'
theorem aw_At13 (A : Option Addr) (c : Nat) (w : World) (h : DutS w A 4 awD) : Calls Try.prog 29 #[.slice A 4 c, .int .i64 4, .int .i64 13] w (AwAt13 w) := by
  have h := at_any 4 13 A 4 c awD w h ⟨by decide, by decide⟩ (by decide) (by decide)
  rw [aw_at13] at h
  refine h.mono ?_
  rintro e w' ⟨d', A', c, rfl, hp, ho, hb⟩
  obtain rfl := List.perm_singleton.1 hp
  rcases ho.2 with ⟨_, h0⟩ | ⟨g, cap, cur, hv, _⟩
  · exact absurd h0 (by decide)
  · injection hv with hA _ _
    subst hA
    exact ⟨g, c, rfl, (Sls.of_owns dutE_len ho rfl).2, hb⟩
def AwAt14 (w : World) (e : Ending) (w' : World) : Prop := ∃ A c, e = .returned (.tuple #[.slice A 0 c, .int .i64 0]) ∧ Below w.heap.size w w'
theorem aw_At14 (A : Option Addr) (c : Nat) (w : World) (h : DutS w A 4 awD) : Calls Try.prog 29 #[.slice A 4 c, .int .i64 4, .int .i64 14] w (AwAt14 w) := by
  have h := at_any 4 14 A 4 c awD w h ⟨by decide, by decide⟩ (by decide) (by decide)
  rw [aw_at14] at h
  refine h.mono ?_
  rintro e w' ⟨d', A', c, rfl, hp, ho, hb⟩
  obtain rfl := List.perm_nil.1 hp
  exact ⟨A', c, rfl, hb⟩
theorem aw_until (B : Option Addr) (cq : Nat) (w : World) (h : ChgS w B 2 awL) : Calls Try.prog 21 #[.slice B 2 cq, .int .i64 4] w fun e w' => e = .returned (.int .i64 24) ∧ w = w' := by
  have h := until_any 4 B 2 cq awL w h ⟨by decide, by decide⟩ (by decide +kernel)
  have e : untilN 4 awL = 24 := by decide +kernel
  rw [e] at h
  exact h
theorem aw_eq (A : Option Addr) (c1 : Nat) (w : World) (g c2 : Nat) (h1 : PrS w A 2 [(0, 10), (20, -1)]) (h2 : PrS w (some ⟨g, 0, none⟩) 2 [(0, 10), (20, -1)]) : Calls Try.prog 19 #[.slice A 2 c1, .slice (some ⟨g, 0, none⟩) 2 c2] w fun e w' => e = .returned (.bool true) ∧ Below w.heap.size w w' :=
  equalP_any A _ 2 2 c1 c2 _ _ w h1 h2
theorem sls_box {α : Type} [Inhabited α] (enc : α → List Value) (k : Nat) (hk : ∀ x, (enc x).length = k) (w : World) (t : TypeId) (xs : List α) (hs : xs.length ≤ maxLen) : Sls enc k (w.alloc (.cells (xs.flatMap enc).toArray t)) (some ⟨w.heap.size, 0, none⟩) xs.length xs :=
  ⟨rfl, hs, fun _ => ⟨w.heap.size, 0, rfl, by simp, fun i hi j hj => by
    rw [(Blk.new w _ t).cell, Nat.zero_add, ← Sk.fm_get enc k hk xs i j hi hj]
    simp⟩⟩
end Sw
end Go.Proofs.Ytdlgdmbcbenlbaa
