/- slices.Reverse over cells. -/
import Derived.Test.YthibgpgjioepfaaSlc
import Derived.RegionTactic
import Derived.BigRegion
namespace Go.Proofs.Ythibgpgjioepfaa
open Go Go.RowKit Go.Sort
namespace Nt
open Mm
/-- the cells of a block are those of a list, places turned by f -/
structure RevR (wr : World) (g n cap : Nat) (cs : List Cel) (f : Nat → Nat) (C : Array Value) : Prop where
  blk : Blk wr g C 36
  size : C.size = cap * 5
  at_ : ∀ p, p < n → ∀ q, q < 5 → C[p * 5 + q]? = some (.int .i64 (celF (cs.getD (f p) default) q))
def turn (n k p : Nat) : Nat := if p < k ∨ n < p + 1 + k then n - 1 - p else p
theorem gb_set {a w : World} {g i : Nat} (h : a.grownBy w (some g)) (v : Value) : a.grownBy (w.setCell ⟨g, i, none⟩ v) (some g) :=
  ⟨h.os, h.tape, h.output, by simpa [World.setCell] using h.size, fun k hk hne => by
    rw [heap_setCell_other w ⟨g, i, none⟩ k v (fun e => hne (by rw [e]))]; exact h.block k hk hne⟩
theorem gb_drew {a w : World} {r : Option Nat} (h : a.grownBy w r) : a.grownBy w.drew r := ⟨h.os, h.tape, h.output, h.size, h.block⟩
def put5 (w : World) (g a : Nat) (F : Nat → Int) : World :=
  ((((w.setCell ⟨g, a, none⟩ (.int .i64 (F 0))).setCell ⟨g, a + 1, none⟩ (.int .i64 (F 1))).setCell ⟨g, a + 2, none⟩ (.int .i64 (F 2))).setCell ⟨g, a + 3, none⟩ (.int .i64 (F 3))).setCell ⟨g, a + 4, none⟩ (.int .i64 (F 4))
def set5 (D : Array Value) (a : Nat) (F : Nat → Int) : Array Value :=
  ((((D.setIfInBounds a (.int .i64 (F 0))).setIfInBounds (a + 1) (.int .i64 (F 1))).setIfInBounds (a + 2) (.int .i64 (F 2))).setIfInBounds (a + 3) (.int .i64 (F 3))).setIfInBounds (a + 4) (.int .i64 (F 4))
theorem put5_blk {w : World} {g : Nat} {D : Array Value} {t : TypeId} (h : Blk w g D t) (a : Nat) (F : Nat → Int) : Blk (put5 w g a F) g (set5 D a F) t := ((((h.set _ _).set _ _).set _ _).set _ _).set _ _
theorem put5_gb {a0 w : World} {g : Nat} (h : a0.grownBy w (some g)) (a : Nat) (F : Nat → Int) : a0.grownBy (put5 w g a F) (some g) := gb_set (gb_set (gb_set (gb_set (gb_set h _) _) _) _) _
theorem set5_size (D : Array Value) (a : Nat) (F : Nat → Int) : (set5 D a F).size = D.size := by simp [set5]
theorem set5_in {D : Array Value} {a : Nat} (F : Nat → Int) (h : a + 4 < D.size) {q : Nat} (hq : q < 5) : (set5 D a F)[a + q]? = some (.int .i64 (F q)) := by
  unfold set5
  simp only [Array.getElem?_setIfInBounds, Array.size_setIfInBounds]
  match q, hq with
  | 0, _ => simp; omega
  | 1, _ => simp; omega
  | 2, _ => simp; omega
  | 3, _ => simp; omega
  | 4, _ => simp; omega
theorem set5_out {D : Array Value} {a m : Nat} (F : Nat → Int) (h : m < a ∨ a + 5 ≤ m) : (set5 D a F)[m]? = D[m]? := by
  unfold set5
  simp only [Array.getElem?_setIfInBounds, Array.size_setIfInBounds]
  rw [if_neg (by omega), if_neg (by omega), if_neg (by omega), if_neg (by omega), if_neg (by omega)]
theorem RevR.swap {wr : World} {g n cap : Nat} {cs : List Cel} {f f' : Nat → Nat} {C : Array Value} (h : RevR wr g n cap cs f C) {k j : Nat} (hkj : k < j) (hj : j < n) (hn : n ≤ cap)
    (h1 : f' k = f j) (h2 : f' j = f k) (h3 : ∀ p, p < n → p ≠ k → p ≠ j → f' p = f p) :
    RevR (put5 (put5 wr g (k * 5) (celF (cs.getD (f j) default))) g (j * 5) (celF (cs.getD (f k) default))).drew g n cap cs f' (set5 (set5 C (k * 5) (celF (cs.getD (f j) default))) (j * 5) (celF (cs.getD (f k) default))) := by
  refine ⟨(put5_blk (put5_blk h.blk _ _) _ _).drew, by rw [set5_size, set5_size, h.size], fun p hp q hq => ?_⟩
  have hs := h.size
  by_cases e1 : p = j
  · subst e1
    rw [set5_in _ (by rw [set5_size]; omega) hq, h2]
  · rw [set5_out _ (by omega)]
    by_cases e2 : p = k
    · subst e2
      rw [set5_in _ (by omega) hq, h1]
    · rw [set5_out _ (by omega), h.at_ p hp q hq, h3 p hp e2 e1]
theorem RevR.turned {wr : World} {g n cap : Nat} {cs : List Cel} {f f' : Nat → Nat} {C : Array Value} (h : RevR wr g n cap cs f C) (hf : ∀ p, p < n → f' p = f p) : RevR wr g n cap cs f' C :=
  ⟨h.blk, h.size, fun p hp q hq => by rw [h.at_ p hp q hq, hf p hp]⟩
def RevPost (g n cap : Nat) (cs : List Cel) (w : World) (e : Ending) (w' : World) : Prop := e = .returned (.tuple #[]) ∧ w.grownBy w' (some g) ∧ ∃ D, RevR w' g n cap cs (fun p => n - 1 - p) D
theorem gb_refl (w : World) (r : Option Nat) : w.grownBy w r := ⟨rfl, rfl, rfl, Nat.le_refl _, fun _ _ _ => rfl⟩
set_option maxRecDepth 100000 in
set_option maxHeartbeats 8000000 in
theorem reverseC_any (g cap n : Nat) (cs : List Cel) (C : Array Value) (w : World) (h : RevR w g n cap cs (turn n 0) C) (hn : n ≤ 1000) (hnc : n ≤ cap) :
    Calls Try.prog 27 #[.slice (some ⟨g, 0, none⟩) n cap] w (RevPost g n cap cs w) := by
  replace h := Lib.hid h
  go_enter Try.func27, Try.ntmps27
  go_wp2
  go_loopw [2, 3] (fun i j wr => ∃ (k : Nat) (jj : Int) (D : Array Value), k ≤ n ∧ jj = (n : Int) - 1 - (k : Int) ∧ i = .int .i64 k ∧ j = .int .i64 jj ∧ Hid (RevR wr g n cap cs (turn n k) D) ∧ Hid (w.grownBy wr (some g))) (fun i _ _ => n - (intOf i).toNat)
  case atStart => exact ⟨0, _, C, by omega, rfl, rfl, by simp, h, gb_refl _ _⟩
  case round =>
    obtain ⟨k, jj, D, hk, hjj, rfl, rfl, HR, HG⟩ := hrel
    by_cases hlt : (k : Int) < jj
    · obtain ⟨j, rfl⟩ := Int.eq_ofNat_of_zero_le (show 0 ≤ jj by omega)
      have hkj : k < j := by omega
      have hjn : j < n := by omega
      have hjv : j = n - 1 - k := by omega
      replace hjj := Lib.hid hjj
      replace hjv := Lib.hid hjv
      have q0 := (HR.out.blk.cell _).trans (HR.out.at_ k (by omega) 0 (by omega))
      have q1 := (HR.out.blk.cell _).trans (HR.out.at_ k (by omega) 1 (by omega))
      have q2 := (HR.out.blk.cell _).trans (HR.out.at_ k (by omega) 2 (by omega))
      have q3 := (HR.out.blk.cell _).trans (HR.out.at_ k (by omega) 3 (by omega))
      have q4 := (HR.out.blk.cell _).trans (HR.out.at_ k (by omega) 4 (by omega))
      have p0 := (HR.out.blk.cell _).trans (HR.out.at_ j (by omega) 0 (by omega))
      have p1 := (HR.out.blk.cell _).trans (HR.out.at_ j (by omega) 1 (by omega))
      have p2 := (HR.out.blk.cell _).trans (HR.out.at_ j (by omega) 2 (by omega))
      have p3 := (HR.out.blk.cell _).trans (HR.out.at_ j (by omega) 3 (by omega))
      have p4 := (HR.out.blk.cell _).trans (HR.out.at_ j (by omega) 4 (by omega))
      rw [Nat.add_zero] at q0 p0
      have tk : turn n k k = k := by unfold turn; rw [if_neg (by have := hjv.out; omega)]
      have tj : turn n k j = j := by unfold turn; rw [if_neg (by have := hjv.out; omega)]
      have HS := HR.out.swap (f' := turn n (k + 1)) hkj hjn hnc (by rw [tj]; have := hjv.out; unfold turn; rw [if_pos (by omega)]; omega) (by rw [tk]; have := hjv.out; unfold turn; rw [if_pos (by omega)]; omega)
        (fun p hp h1 h2 => by
          have := hjv.out
          unfold turn
          by_cases c : p < k ∨ n < p + 1 + k
          · rw [if_pos c, if_pos (by omega)]
          · rw [if_neg c, if_neg (by omega)])
      have HG2 := gb_drew (put5_gb (put5_gb HG.out (k * 5) (celF (cs.getD (turn n k j) default))) (j * 5) (celF (cs.getD (turn n k k) default)))
      generalize celF (cs.getD (turn n k k) default) = F1 at *
      generalize celF (cs.getD (turn n k j) default) = F2 at *
      unfold put5 at HS HG2
      have kf := HR.out.blk.free
      have hg : g < wr.heap.size := HR.out.blk.lt
      have e1 : ¬ k * 5 = j * 5 := by omega
      have r1 : (k : Int) < (n : Int) := by omega
      have r2 : (j : Int) < (n : Int) := by omega
      have hjv2 : Hid ((j : Int) - 1 = (n : Int) - 1 - ((k + 1 : Nat) : Int)) := by show _ = _; have := hjv.out; omega
      replace tk := Lib.hid tk
      replace tj := Lib.hid tj
      replace HS := Lib.hid HS
      replace HG2 := Lib.hid HG2
      go_wp2_with fail
      go_region
      clear q0 q1 q2 q3 q4 p0 p1 p2 p3 p4 kf hg e1 r1 r2
      go_wp2
      go_roundw
      case rel => exact ⟨k + 1, (j : Int) - 1, _, by omega, hjv2.out, by go_num, rfl, HS, HG2⟩
      case measure => simp [intOf]; omega
    · have HF : Hid (∃ D, RevR wr g n cap cs (fun p => n - 1 - p) D) := ⟨D, HR.out.turned (fun p hp => by
        unfold turn
        by_cases c : p < k ∨ n < p + 1 + k
        · rw [if_pos c]
        · rw [if_neg c]; omega)⟩
      go_wp2
      go_end0
      exact ⟨rfl, HG.out, HF.out⟩
theorem revR_of_owns {w : World} {base n g cap : Nat} {cs : List Cel} (h : w.ownsRow base 36 5 (.slice (some ⟨g, 0, none⟩) n cap) n (flat 5 cellV cs)) : n ≤ cap ∧ base ≤ g ∧ ∃ C, RevR w g n cap cs (turn n 0) C := by
  have hl : cs.length = n := (owns_read (by decide) h).1
  rcases h.2 with ⟨hv, _⟩ | ⟨g', cap', cur, hv, hb, hg, hnc, hm, hs, ht⟩
  · cases hv
  · cases hv
    refine ⟨hnc, hb, cur, ⟨hg⟩, hs, fun p hp q hq => ?_⟩
    have := flat_at 5 cellV cs p q (by omega) hq
    rw [← ht, List.getElem?_take] at this
    split at this
    · have e : turn n 0 p = p := by unfold turn; rw [if_neg (by omega)]
      rw [e]
      simpa [cellV] using this
    · cases this
theorem celS_of_rev {w : World} {g n cap : Nat} {cs : List Cel} {D : Array Value} (h : RevR w g n cap cs (fun p => n - 1 - p) D) (hl : cs.length = n) (hm : n ≤ maxLen) (ok : ∀ x ∈ cs, x.ok) : CelS w (some ⟨g, 0, none⟩) n cs.reverse :=
  ⟨⟨by simp [hl], hm, fun _ => ⟨g, 0, rfl, h.blk.lt, fun i hi j hj => by
    rw [Nat.zero_add, h.blk.cell, h.at_ i hi j hj, rev_getD cs (by omega), hl]⟩⟩, fun x hx => ok x (List.mem_reverse.1 hx)⟩
end Nt
end Go.Proofs.Ythibgpgjioepfaa
