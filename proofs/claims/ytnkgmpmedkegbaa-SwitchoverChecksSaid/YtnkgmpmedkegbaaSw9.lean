/- times, Times. -/
import Derived.Test.YtnkgmpmedkegbaaSw8
namespace Go.Proofs.Ytnkgmpmedkegbaa
open Go Go.RowKit Go.Sort
namespace Sw
open Mm
def stepT (c : Cel) (t : List (Int × Int)) (x : Chg) : List (Int × Int) := if x.cell = c then (if x.add = true then begT t x.slot else endT t x.slot) else t
def timesC (cs : List Cel) (l : List Chg) (c : Cel) : List (Int × Int) := l.foldl (stepT c) (if c ∈ cs then begT [] 0 else [])
theorem timesC_snoc (cs : List Cel) (l : List Chg) (c : Cel) (x : Chg) : timesC cs (l ++ [x]) c = stepT c (timesC cs l c) x := by unfold timesC; rw [List.foldl_append]; rfl
theorem begT_len (t : List (Int × Int)) (s : Int) : (begT t s).length ≤ t.length + 1 := by
  rcases snoc_cases t with rfl | ⟨u, p, rfl⟩
  · simp [begT_nil]
  · rw [begT_snoc]; split <;> simp
theorem endT_len (t : List (Int × Int)) (s : Int) : (endT t s).length ≤ t.length + 1 := by
  rcases snoc_cases t with rfl | ⟨u, p, rfl⟩
  · simp [endT]
  · rw [endT_snoc]; split <;> simp <;> omega
theorem timesC_len (cs : List Cel) (c : Cel) : ∀ (k : Nat) (l : List Chg), l.length = k → (timesC cs l c).length ≤ k + 1 := by
  intro k
  induction k with
  | zero =>
    intro l hl
    obtain rfl := List.length_eq_zero_iff.1 hl
    unfold timesC
    simp only [List.foldl_nil]
    split <;> simp [begT_nil]
  | succ k ih =>
    intro l hl
    rcases snoc_cases l with rfl | ⟨u, x, rfl⟩
    · simp at hl
    · rw [timesC_snoc]
      have := ih u (by simpa using hl)
      unfold stepT
      split
      · split
        · have := begT_len (timesC cs u c) x.slot; omega
        · have := endT_len (timesC cs u c) x.slot; omega
      · omega
/-- each removal of the cell finds it there -/
def Ends (cs : List Cel) (l : List Chg) (c : Cel) : Prop := ∀ k, k < l.length → (l.getD k default).cell = c → (l.getD k default).add = false → ∃ u p, timesC cs (l.take k) c = u ++ [p]
theorem TSt.alloc {W0 W : World} {M : Nat} {v : Value} {t : List (Int × Int)} (h : TSt W0 W M v t) (o : Obj) : TSt W0 (W.alloc o) M v t :=
  ⟨h.below.alloc (Nat.le_of_lt h.blk.lt) o, h.blk.alloc o, h.own.alloc o⟩
theorem Box.underM {W0 W : World} {B M : Nat} {C : Array Value} (h : Box W0 B C) (hb : Below M W0 W) (hB : B < M) (hM : M ≤ W0.heap.size) : Box W B C :=
  ⟨Nat.lt_of_lt_of_le (Nat.lt_of_lt_of_le hB hM) hb.size, fun i => by rw [hb.cell (p := ⟨B, i, none⟩) hB]; exact h.at_ i⟩
def TimesPost (t : List (Int × Int)) (w : World) (e : Ending) (w' : World) : Prop :=
  ∃ A c, e = .returned (.slice A t.length c) ∧ w'.ownsRow w.heap.size 42 2 (.slice A t.length c) t.length (t.flatMap prE) ∧ Below w.heap.size w w'
theorem own_slice {w : World} {base : Nat} {e : TypeId} {size n : Nat} {v : Value} {xs : List Value} (h : w.ownsRow base e size v n xs) : ∃ A c, v = .slice A n c := by
  rcases h.2 with ⟨h, h0⟩ | ⟨g, cap, cur, h, _⟩
  · exact ⟨none, 0, by rw [h, h0]⟩
  · exact ⟨_, _, h⟩
theorem own_base {w : World} {base base' : Nat} {e : TypeId} {size n : Nat} {v : Value} {xs : List Value} (h : w.ownsRow base e size v n xs) (hb : base' ≤ base) : w.ownsRow base' e size v n xs :=
  ⟨h.1, h.2.imp id fun ⟨g, cap, cur, h1, h2, h3⟩ => ⟨g, cap, cur, h1, Nat.le_trans hb h2, h3⟩⟩
set_option maxRecDepth 100000 in
set_option maxHeartbeats 4000000 in
theorem times_any (L O : Int) (A : Option Addr) (n cp : Nat) (cs : List Cel) (B : Option Addr) (m cq : Nat) (l : List Chg) (c : Cel) (w : World) (h1 : CelS w A n cs) (h2 : ChgS w B m l) (hg : Ends cs l c) (hm : m ≤ 1024) :
    Calls Try.prog 39 #[.agg #[.int .i64 L, .int .i64 O, .slice A n cp], .slice B m cq, .agg #[.int .i64 c.slot, .int .i64 c.offset, .int .i64 c.frm, .int .i64 c.to, .int .i64 c.flow]] w (TimesPost (timesC cs l c) w) := by
  have hl2 := h2.len
  have hb2 := ballN (ball w (.cells #[.int .i64 L, .int .i64 O, .slice A n cp] 24)) (.cells #[.int .i64 c.slot, .int .i64 c.offset, .int .i64 c.frm, .int .i64 c.to, .int .i64 c.flow] 34)
  have BX := (Box.new w #[.int .i64 L, .int .i64 O, .slice A n cp] 24).alloc (.cells #[.int .i64 c.slot, .int .i64 c.offset, .int .i64 c.frm, .int .i64 c.to, .int .i64 c.flow] 34)
  have BC := Box.new (w.alloc (.cells #[.int .i64 L, .int .i64 O, .slice A n cp] 24)) #[.int .i64 c.slot, .int .i64 c.offset, .int .i64 c.frm, .int .i64 c.to, .int .i64 c.flow] 34
  rw [size1] at BC
  have hb3 := ballN hb2 (.cells #[.slice none 0 0] 35)
  have hK := Blk.new ((w.alloc (.cells #[.int .i64 L, .int .i64 O, .slice A n cp] 24)).alloc (.cells #[.int .i64 c.slot, .int .i64 c.offset, .int .i64 c.frm, .int .i64 c.to, .int .i64 c.flow] 34)) #[.slice none 0 0] 35
  have hBB := ball ((w.alloc (.cells #[.int .i64 L, .int .i64 O, .slice A n cp] 24)).alloc (.cells #[.int .i64 c.slot, .int .i64 c.offset, .int .i64 c.frm, .int .i64 c.to, .int .i64 c.flow] 34)) (.cells #[.slice none 0 0] 35)
  have BX3 := BX.alloc (.cells #[.slice none 0 0] 35)
  have BC3 := BC.alloc (.cells #[.slice none 0 0] 35)
  have hsz : ((w.alloc (.cells #[.int .i64 L, .int .i64 O, .slice A n cp] 24)).alloc (.cells #[.int .i64 c.slot, .int .i64 c.offset, .int .i64 c.frm, .int .i64 c.to, .int .i64 c.flow] 34)).heap.size = w.heap.size + 1 + 1 := by rw [size1, size1]
  have cCo := fun W (h : CelS W A n cs) => containsC_any A n cp cs c W h
  have ht0 : timesC cs (l.take 0) c = if c ∈ cs then begT [] 0 else [] := rfl
  have hts := fun k (hk : k < l.length) => timesC_snoc cs (l.take k) c (l.getD k default)
  have htl := fun k (hk : k ≤ l.length) => timesC_len cs c k (l.take k) (by simp; omega)
  have hne := fun x W => neq_cel x c W
  have hEq : Hid (∀ x, eqC x c = decide (x = c)) := fun _ => rfl
  unfold Ends at hg
  generalize hTC : timesC cs = TC at *
  generalize hcm : decide (c ∈ cs) = IN at *
  have ht0' : TC (l.take 0) c = if IN = true then begT [] 0 else [] := by rw [ht0, ← hcm]; by_cases h : c ∈ cs <;> simp [h]
  generalize hEE : eqC = E at *
  clear ht0 hTC hEE hcm
  obtain ⟨c0, c1, c2, c3, c4⟩ := c
  dsimp only at *
  replace h1 := Lib.hid h1
  replace h2 := Lib.hid h2
  replace hg := Lib.hid hg
  replace hl2 := Lib.hid hl2
  replace hb2 := Lib.hid hb2
  replace BX := Lib.hid BX
  replace BC := Lib.hid BC
  replace hb3 := Lib.hid hb3
  replace hK := Lib.hid hK
  replace hBB := Lib.hid hBB
  replace BX3 := Lib.hid BX3
  replace BC3 := Lib.hid BC3
  replace hsz := Lib.hid hsz
  replace cCo := Lib.hid cCo
  replace ht0' := Lib.hid ht0'
  replace hts := Lib.hid hts
  replace htl := Lib.hid htl
  replace hne := Lib.hid hne
  have kx := BX3.out.at_
  have kb := BC3.out.at_
  go_enter Try.func39, Try.ntmps39
  go_wp2_with fail
  generalize (w.alloc (.cells #[.int .i64 L, .int .i64 O, .slice A n cp] 24)).alloc (.cells #[.int .i64 c0, .int .i64 c1, .int .i64 c2, .int .i64 c3, .int .i64 c4] 34) = W0 at *
  have hW0 := hsz.out
  refine (cCo.out _ (h1.out.keep hb3.out)).mono ?_
  rintro e W4 ⟨rfl, hb_⟩
  clear kx kb cCo
  have hB4 := bthen hBB.out hb_
  have hT4 : TSt W0 W4 W0.heap.size (.slice none 0 0) [] := ⟨hB4, hK.out.keep hb_, World.ownsRow_nil _ _ _ _⟩
  clear hb_ hb3 hBB BX3 BC3
  rw [hW0] at hT4 hB4
  have hMa : w.heap.size + 1 < w.heap.size + 1 + 1 := by omega
  have hMb : w.heap.size + 1 + 1 ≤ W0.heap.size := by omega
  clear hW0 hsz hK
  generalize w.heap.size + 1 + 1 = M at *
  have cB := fun W v t s (h : TSt W0 W M v t) (hl : t.length ≤ 5000) => begin_any W0 W M v t s h hl
  have cE := fun W v u p s (h : TSt W0 W M v (u ++ [p])) (hl : u.length ≤ 5000) => end_any W0 W M v u p s h hl
  have BCW : ∀ W, Below M W0 W → Box W (w.heap.size + 1) #[.int .i64 c0, .int .i64 c1, .int .i64 c2, .int .i64 c3, .int .i64 c4] := fun W h => BC.out.underM h (by omega) (by omega)
  have hBW : ∀ W, Below M W0 W → Below w.heap.size w W := fun W h => hb2.out.trans (h.mono (by omega))
  have hfin : ∀ W v, TSt W0 W M v (TC l ⟨c0, c1, c2, c3, c4⟩) → ∃ A cc, v = .slice A (TC l ⟨c0, c1, c2, c3, c4⟩).length cc ∧ W.ownsRow w.heap.size 42 2 (.slice A (TC l ⟨c0, c1, c2, c3, c4⟩).length cc) (TC l ⟨c0, c1, c2, c3, c4⟩).length ((TC l ⟨c0, c1, c2, c3, c4⟩).flatMap prE) ∧ Below w.heap.size w W := fun W v h => by
    obtain ⟨A, cc, hv⟩ := own_slice h.own
    subst hv
    exact ⟨A, cc, rfl, own_base h.own (by omega), hBW W h.below⟩
  replace hT4 := Lib.hid hT4
  replace hB4 := Lib.hid hB4
  replace cB := Lib.hid cB
  replace cE := Lib.hid cE
  replace BCW := Lib.hid BCW
  replace hBW := Lib.hid hBW
  replace hfin := Lib.hid hfin
  cases IN
  case' false =>
    have hT5 : Hid (∃ v, TSt W0 W4 M v (TC (l.take 0) ⟨c0, c1, c2, c3, c4⟩)) := ⟨_, by rw [ht0'.out]; simpa using hT4.out⟩
    go_upto_region 6 with fail
    generalize W4 = w5 at *
  case' true =>
    go_wp2_with fail
    refine (cB.out W4 _ [] 0 hT4.out (by decide)).mono ?_
    rintro e w5 ⟨rfl, v5, hT5'⟩
    have hT5 : Hid (∃ v, TSt W0 w5 M v (TC (l.take 0) ⟨c0, c1, c2, c3, c4⟩)) := ⟨_, by rw [ht0'.out]; simpa using hT5'⟩
    clear hT5'
    go_upto_region 6 with fail
  all_goals
    clear hT4 hB4 ht0'
    go_wp2_with fail
    go_loopw [22] (fun i wr => ∃ k : Nat, k ≤ m ∧ i = .int .i64 k ∧ Hid (∃ v, TSt W0 wr M v (TC (l.take k) ⟨c0, c1, c2, c3, c4⟩))) (fun i _ => m - (intOf i).toNat)
    case atStart => exact ⟨0, by omega, rfl, hT5⟩
    case round =>
      obtain ⟨k, hk, rfl, HT⟩ := hrel
      clear hT5
      by_cases hlt : k < m
      · obtain ⟨b, off, rfl⟩ := h2.out.addr (by omega)
        obtain ⟨v, hT⟩ := HT.out
        have hkl : k < l.length := by rw [hl2.out]; exact hlt
        have hx := chg_at (h2.out.keep (hBW.out wr hT.below)) hlt
        have hst := hts.out k hkl
        rw [← take_snoc hkl] at hst
        have hge := hg.out k hkl
        have hle := htl.out k (by omega)
        have hkn := hne.out (l.getD k default).cell
        have hq := hEq.out (l.getD k default).cell
        generalize l.getD k default = x at *
        obtain ⟨xs, xa, x0, x1, x2, x3, x4⟩ := x
        obtain ⟨q0, q1, q2, q3, q4, q5, q6⟩ := hx
        dsimp only at q0 q1 q2 q3 q4 q5 q6 hkn hst hge hq
        have BR := (BCW.out wr hT.below).alloc (.cells #[.int .i64 xs, .bool xa, .int .i64 x0, .int .i64 x1, .int .i64 x2, .int .i64 x3, .int .i64 x4] 56)
        have BK := Box.new wr #[.int .i64 xs, .bool xa, .int .i64 x0, .int .i64 x1, .int .i64 x2, .int .i64 x3, .int .i64 x4] 56
        have hTa := hT.alloc (.cells #[.int .i64 xs, .bool xa, .int .i64 x0, .int .i64 x1, .int .i64 x2, .int .i64 x3, .int .i64 x4] 56)
        have kb := BR.at_
        have kk := BK.at_
        generalize E ⟨x0, x1, x2, x3, x4⟩ ⟨c0, c1, c2, c3, c4⟩ = Q at *
        generalize hTk : TC (l.take k) ⟨c0, c1, c2, c3, c4⟩ = T at *
        replace hst := Lib.hid hst
        replace hge := Lib.hid hge
        replace hle := Lib.hid hle
        replace hq := Lib.hid hq
        replace hT := Lib.hid hT
        replace hTa := Lib.hid hTa
        replace BR := Lib.hid BR
        replace BK := Lib.hid BK
        replace hTk := Lib.hid hTk
        clear HT
        cases Q with
        | false =>
          have hT2 : Hid (∃ v, TSt W0 (wr.alloc (.cells #[.int .i64 xs, .bool xa, .int .i64 x0, .int .i64 x1, .int .i64 x2, .int .i64 x3, .int .i64 x4] 56)) M v (TC (l.take (k + 1)) ⟨c0, c1, c2, c3, c4⟩)) := ⟨v, by
            have e := hq.out
            rw [eq_comm, decide_eq_false_iff_not] at e
            have := hst.out
            unfold stepT at this
            rw [this, if_neg e]
            exact hTa.out⟩
          go_wp2
          go_roundw
          case rel => exact ⟨k + 1, by omega, by go_num, hT2⟩
          case measure => simp [intOf]; omega
        | true =>
          have e := hq.out
          rw [eq_comm, decide_eq_true_eq] at e
          have hst2 := hst.out
          unfold stepT at hst2
          rw [if_pos e] at hst2
          replace e := Lib.hid e
          cases xa with
          | true =>
            rw [if_pos rfl] at hst2
            replace hst2 := Lib.hid hst2
            go_wp2_with fail
            refine (cB.out _ v T xs hTa.out (by have := hle.out; omega)).mono ?_
            rintro ee w6 ⟨rfl, v6, hT6⟩
            have hT2 : Hid (∃ v, TSt W0 w6 M v (TC (l.take (k + 1)) ⟨c0, c1, c2, c3, c4⟩)) := ⟨v6, by rw [hst2.out]; exact hT6⟩
            clear hT6 kb kk q0 q1 q2 q3 q4 q5 q6
            go_wp2
            go_roundw
            case rel => exact ⟨k + 1, by omega, by go_num, hT2⟩
            case measure => simp [intOf]; omega
          | false =>
            rw [if_neg (by simp)] at hst2
            obtain ⟨u, p, hup⟩ := hge.out e.out rfl
            subst hup
            replace hst2 := Lib.hid hst2
            go_wp2_with fail
            refine (cE.out _ v u p xs hTa.out (by have := hle.out; simp at this; omega)).mono ?_
            rintro ee w6 ⟨rfl, v6, hT6⟩
            have hT2 : Hid (∃ v, TSt W0 w6 M v (TC (l.take (k + 1)) ⟨c0, c1, c2, c3, c4⟩)) := ⟨v6, by rw [hst2.out]; exact hT6⟩
            clear hT6 kb kk q0 q1 q2 q3 q4 q5 q6
            go_wp2
            go_roundw
            case rel => exact ⟨k + 1, by omega, by go_num, hT2⟩
            case measure => simp [intOf]; omega
      · obtain rfl : k = m := by omega
        obtain ⟨v, hT⟩ := HT.out
        rw [← hl2.out, List.take_length] at hT
        have kv := hT.blk.cell 0
        obtain ⟨A', cc, rfl, ho, hb⟩ := hfin.out wr v hT
        replace hT := Lib.hid hT
        replace ho := Lib.hid ho
        replace hb := Lib.hid hb
        go_wp2
        go_ret
        exact ⟨A', cc, rfl, ho.out, hb.out⟩
end Sw
end Go.Proofs.Ytnkgmpmedkegbaa
