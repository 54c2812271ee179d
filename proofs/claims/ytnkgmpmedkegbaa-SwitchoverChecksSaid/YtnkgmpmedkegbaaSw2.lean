/- cmp.Compare, first, compare. -/
import Derived.Test.YtnkgmpmedkegbaaSwB
import Derived.Deep.RegionHeld3
namespace Go.Proofs.Ytnkgmpmedkegbaa
open Go Go.RowKit Go.Sort
namespace Sw
open Mm
def cmpI (x y : Int) : Int := if x < y then -1 else if y < x then 1 else 0
theorem isNaN_any (a : Int) (w : World) :
    Calls Try.prog 73 #[.int .i64 a] w fun e w' => e = .returned (.bool false) ∧ w = w' := by
  go_enter Try.func73, Try.ntmps73
  go_wp2
  go_ret
  exact ⟨by simp, rfl⟩
set_option maxRecDepth 100000 in
set_option maxHeartbeats 1000000 in
theorem cmp_any (a b : Int) (w : World) :
    Calls Try.prog 48 #[.int .i64 a, .int .i64 b] w fun e w' => e = .returned (.int .i64 (cmpI a b)) ∧ w = w' := by
  have hc : cmpI a b = if a < b then -1 else if b < a then 1 else 0 := rfl
  generalize cmpI a b = C at *
  replace hc := Lib.hid hc
  by_cases h1 : a < b
  · have e1 : Hid (C = -1) := by show _ = _; rw [hc.out, if_pos h1]
    go_enter Try.func48, Try.ntmps48
    go_wp2_with (first | (go_at_call 73; refine (isNaN_any _ _).mono ?_; rintro e w1 ⟨rfl, rfl⟩))
    go_ret
    exact ⟨by rw [e1.out]; rfl, rfl⟩
  · by_cases h2 : b < a
    · have e1 : Hid (C = 1) := by show _ = _; rw [hc.out, if_neg h1, if_pos h2]
      have h3 : decide (a < b) = false := by simpa using h1
      clear h1
      go_enter Try.func48, Try.ntmps48
      go_wp2_with (first | (go_at_call 73; refine (isNaN_any _ _).mono ?_; rintro e w1 ⟨rfl, rfl⟩))
      go_ret
      exact ⟨by rw [e1.out]; rfl, rfl⟩
    · have e1 : Hid (C = 0) := by show _ = _; rw [hc.out, if_neg h1, if_neg h2]
      obtain rfl : a = b := by omega
      clear h1 h2
      go_enter Try.func48, Try.ntmps48
      go_wp2_with (first | (go_at_call 73; refine (isNaN_any _ _).mono ?_; rintro e w1 ⟨rfl, rfl⟩))
      go_ret
      exact ⟨by rw [e1.out]; rfl, rfl⟩
def intE (x : Int) : List Value := [.int .i64 x]
def celE (c : Cel) : List Value := [.int .i64 c.slot, .int .i64 c.offset, .int .i64 c.frm, .int .i64 c.to, .int .i64 c.flow]
def chgE (c : Chg) : List Value := [.int .i64 c.slot, .bool c.add, .int .i64 c.cell.slot, .int .i64 c.cell.offset, .int .i64 c.cell.frm, .int .i64 c.cell.to, .int .i64 c.cell.flow]
def dutE (d : Dut) : List Value := [.int .i64 d.cell.slot, .int .i64 d.cell.offset, .int .i64 d.cell.frm, .int .i64 d.cell.to, .int .i64 d.cell.flow, .bool d.sends, .bool d.extra, .int .i64 d.first, .int .i64 d.til]
def prE (p : Int × Int) : List Value := [.int .i64 p.1, .int .i64 p.2]
theorem intE_len (x : Int) : (intE x).length = 1 := rfl
theorem celE_len (c : Cel) : (celE c).length = 5 := rfl
theorem chgE_len (c : Chg) : (chgE c).length = 7 := rfl
theorem dutE_len (d : Dut) : (dutE d).length = 9 := rfl
theorem prE_len (p : Int × Int) : (prE p).length = 2 := rfl
theorem intE_one (x : Int) : ∀ v ∈ intE x, v.oneCell' = true := by intro v hv; simp only [intE, List.mem_cons, List.not_mem_nil, or_false] at hv; subst hv; rfl
theorem celE_one (c : Cel) : ∀ v ∈ celE c, v.oneCell' = true := by intro v hv; simp only [celE, List.mem_cons, List.not_mem_nil, or_false] at hv; rcases hv with rfl | rfl | rfl | rfl | rfl <;> rfl
theorem chgE_one (c : Chg) : ∀ v ∈ chgE c, v.oneCell' = true := by intro v hv; simp only [chgE, List.mem_cons, List.not_mem_nil, or_false] at hv; rcases hv with rfl | rfl | rfl | rfl | rfl | rfl | rfl <;> rfl
theorem dutE_one (d : Dut) : ∀ v ∈ dutE d, v.oneCell' = true := by intro v hv; simp only [dutE, List.mem_cons, List.not_mem_nil, or_false] at hv; rcases hv with rfl | rfl | rfl | rfl | rfl | rfl | rfl | rfl | rfl <;> rfl
theorem prE_one (p : Int × Int) : ∀ v ∈ prE p, v.oneCell' = true := by intro v hv; simp only [prE, List.mem_cons, List.not_mem_nil, or_false] at hv; rcases hv with rfl | rfl <;> rfl
abbrev IntS := Sls intE 1
abbrev CelS := Sls celE 5
abbrev ChgS := Sls chgE 7
abbrev DutS := Sls dutE 9
abbrev PrS := Sls prE 2
theorem int_at {w : World} {b off n : Nat} {xs : List Int} (h : IntS w (some ⟨b, off, none⟩) n xs) {i : Nat} (hi : i < n) : w.cell? ⟨b, off + i, none⟩ = some (.int .i64 (xs.getD i default)) := by
  have := (h.cells hi).2 0 (by decide)
  rw [Nat.mul_one, Nat.add_zero] at this; exact this
def CelAt (w : World) (b o : Nat) (c : Cel) : Prop := w.cell? ⟨b, o, none⟩ = some (.int .i64 c.slot) ∧ w.cell? ⟨b, o + 1, none⟩ = some (.int .i64 c.offset) ∧ w.cell? ⟨b, o + 2, none⟩ = some (.int .i64 c.frm) ∧ w.cell? ⟨b, o + 3, none⟩ = some (.int .i64 c.to) ∧ w.cell? ⟨b, o + 4, none⟩ = some (.int .i64 c.flow)
theorem cel_at {w : World} {b off n : Nat} {xs : List Cel} (h : CelS w (some ⟨b, off, none⟩) n xs) {i : Nat} (hi : i < n) : CelAt w b (off + i * 5) (xs.getD i default) := by
  have c := (h.cells hi).2
  have c0 := c 0 (by decide)
  rw [Nat.add_zero] at c0
  exact ⟨c0, c 1 (by decide), c 2 (by decide), c 3 (by decide), c 4 (by decide)⟩
def ChgAt (w : World) (b o : Nat) (c : Chg) : Prop := w.cell? ⟨b, o, none⟩ = some (.int .i64 c.slot) ∧ w.cell? ⟨b, o + 1, none⟩ = some (.bool c.add) ∧ w.cell? ⟨b, o + 2, none⟩ = some (.int .i64 c.cell.slot) ∧ w.cell? ⟨b, o + 3, none⟩ = some (.int .i64 c.cell.offset) ∧ w.cell? ⟨b, o + 4, none⟩ = some (.int .i64 c.cell.frm) ∧ w.cell? ⟨b, o + 5, none⟩ = some (.int .i64 c.cell.to) ∧ w.cell? ⟨b, o + 6, none⟩ = some (.int .i64 c.cell.flow)
theorem chg_at {w : World} {b off n : Nat} {xs : List Chg} (h : ChgS w (some ⟨b, off, none⟩) n xs) {i : Nat} (hi : i < n) : ChgAt w b (off + i * 7) (xs.getD i default) := by
  have c := (h.cells hi).2
  have c0 := c 0 (by decide)
  rw [Nat.add_zero] at c0
  exact ⟨c0, c 1 (by decide), c 2 (by decide), c 3 (by decide), c 4 (by decide), c 5 (by decide), c 6 (by decide)⟩
def DutAt (w : World) (b o : Nat) (d : Dut) : Prop := w.cell? ⟨b, o, none⟩ = some (.int .i64 d.cell.slot) ∧ w.cell? ⟨b, o + 1, none⟩ = some (.int .i64 d.cell.offset) ∧ w.cell? ⟨b, o + 2, none⟩ = some (.int .i64 d.cell.frm) ∧ w.cell? ⟨b, o + 3, none⟩ = some (.int .i64 d.cell.to) ∧ w.cell? ⟨b, o + 4, none⟩ = some (.int .i64 d.cell.flow) ∧ w.cell? ⟨b, o + 5, none⟩ = some (.bool d.sends) ∧ w.cell? ⟨b, o + 6, none⟩ = some (.bool d.extra) ∧ w.cell? ⟨b, o + 7, none⟩ = some (.int .i64 d.first) ∧ w.cell? ⟨b, o + 8, none⟩ = some (.int .i64 d.til)
theorem dut_at {w : World} {b off n : Nat} {xs : List Dut} (h : DutS w (some ⟨b, off, none⟩) n xs) {i : Nat} (hi : i < n) : DutAt w b (off + i * 9) (xs.getD i default) := by
  have c := (h.cells hi).2
  have c0 := c 0 (by decide)
  rw [Nat.add_zero] at c0
  exact ⟨c0, c 1 (by decide), c 2 (by decide), c 3 (by decide), c 4 (by decide), c 5 (by decide), c 6 (by decide), c 7 (by decide), c 8 (by decide)⟩
theorem pr_at {w : World} {b off n : Nat} {xs : List (Int × Int)} (h : PrS w (some ⟨b, off, none⟩) n xs) {i : Nat} (hi : i < n) : w.cell? ⟨b, off + i * 2, none⟩ = some (.int .i64 (xs.getD i default).1) ∧ w.cell? ⟨b, off + i * 2 + 1, none⟩ = some (.int .i64 (xs.getD i default).2) := by
  have c := (h.cells hi).2
  have c0 := c 0 (by decide)
  rw [Nat.add_zero] at c0
  exact ⟨c0, c 1 (by decide)⟩
/-- the first number that is not 0 -/
def fst0 : List Int → Int
  | [] => 0
  | x :: xs => if x = 0 then fst0 xs else x
theorem drop_cons {α : Type} [Inhabited α] {xs : List α} {k : Nat} (hk : k < xs.length) : xs.drop k = xs.getD k default :: xs.drop (k + 1) := by
  rw [List.getD_eq_getElem?_getD, List.getElem?_eq_getElem hk]; exact (List.getElem_cons_drop ..).symm
set_option maxRecDepth 100000 in
set_option maxHeartbeats 1000000 in
theorem first_any (A : Option Addr) (n c : Nat) (xs : List Int) (w : World) (h : IntS w A n xs) :
    Calls Try.prog 47 #[.slice A n c] w fun e w' => e = .returned (.int .i64 (fst0 xs)) ∧ w = w' := by
  have hlen := h.len
  have hs := h.small
  unfold maxLen at hs
  have h0 : Hid (fst0 xs = fst0 (xs.drop 0)) := rfl
  generalize fst0 xs = R at *
  replace h := Lib.hid h
  replace hlen := Lib.hid hlen
  go_enter Try.func47, Try.ntmps47
  go_wp2
  go_loop [7] (fun i => ∃ k : Nat, k ≤ n ∧ i = .int .i64 k ∧ Hid (R = fst0 (xs.drop k))) (fun i => n - (intOf i).toNat)
  case atStart => exact ⟨0, by omega, rfl, h0⟩
  case round =>
    obtain ⟨k, hk, rfl, HR⟩ := hrel
    clear h0
    by_cases hlt : k < n
    · obtain ⟨b, off, rfl⟩ := h.out.addr (by omega)
      have q := int_at h.out hlt
      have hR := HR.out
      rw [drop_cons (by rw [hlen.out]; exact hlt)] at hR
      generalize xs.getD k default = x at *
      have hR2 : R = if x = 0 then fst0 (xs.drop (k + 1)) else x := hR
      clear hR HR
      by_cases hx : x = 0
      · subst hx
        have h2 : Hid (R = fst0 (xs.drop (k + 1))) := by show _ = _; rw [hR2, if_pos rfl]
        clear hR2
        go_wp2
        go_round
        case rel => exact ⟨k + 1, by omega, by go_num, h2⟩
        case measure => simp [intOf]; omega
      · have h2 : Hid (R = x) := by show _ = _; rw [hR2, if_neg hx]
        have hx2 : (x != 0) = true := by rw [bne_iff_ne]; exact hx
        clear hR2 hx
        go_wp2
        go_ret
        exact ⟨by rw [h2.out]; rfl, rfl⟩
    · obtain rfl : k = n := by omega
      have h2 : Hid (R = 0) := by show _ = _; rw [HR.out, List.drop_of_length_le (by rw [hlen.out]; exact Nat.le_refl _)]; rfl
      go_wp2
      go_ret
      exact ⟨by rw [h2.out]; rfl, rfl⟩
def cmpC (a b : Cel) : Int := fst0 [cmpI a.slot b.slot, cmpI a.offset b.offset, cmpI a.frm b.frm, cmpI a.to b.to, cmpI a.flow b.flow]
theorem GW.S0 {w : World} : GW w w.drew := (GW.refl w).drew
theorem ints_box (w : World) (t : TypeId) (xs : List Int) (hs : xs.length ≤ maxLen) : IntS (w.alloc (.cells (xs.flatMap intE).toArray t)) (some ⟨w.heap.size, 0, none⟩) xs.length xs :=
  ⟨rfl, hs, fun _ => ⟨w.heap.size, 0, rfl, by simp, fun i hi j hj => by
    rw [(Blk.new w _ t).cell, Nat.zero_add, ← Sk.fm_get intE 1 intE_len xs i j hi hj]
    simp⟩⟩
set_option maxRecDepth 100000 in
set_option maxHeartbeats 4000000 in
theorem compare_any (a b : Cel) (w : World) :
    Calls Try.prog 42 #[.agg #[.int .i64 a.slot, .int .i64 a.offset, .int .i64 a.frm, .int .i64 a.to, .int .i64 a.flow], .agg #[.int .i64 b.slot, .int .i64 b.offset, .int .i64 b.frm, .int .i64 b.to, .int .i64 b.flow]] w fun e w' => e = .returned (.int .i64 (cmpC a b)) ∧ GW w w' := by
  obtain ⟨a0, a1, a2, a3, a4⟩ := a
  obtain ⟨b0, b1, b2, b3, b4⟩ := b
  dsimp only
  have hR : cmpC ⟨a0, a1, a2, a3, a4⟩ ⟨b0, b1, b2, b3, b4⟩ = fst0 [cmpI a0 b0, cmpI a1 b1, cmpI a2 b2, cmpI a3 b3, cmpI a4 b4] := rfl
  have c1 := fun x y W => cmp_any x y W
  generalize cmpC ⟨a0, a1, a2, a3, a4⟩ ⟨b0, b1, b2, b3, b4⟩ = R at *
  generalize cmpI = CI at *
  have c2 := fun A W (h : IntS W A 5 [CI a0 b0, CI a1 b1, CI a2 b2, CI a3 b3, CI a4 b4]) => first_any A 5 5 _ W h
  rw [← hR] at c2
  have BX := (Box.new w #[.int .i64 a0, .int .i64 a1, .int .i64 a2, .int .i64 a3, .int .i64 a4] 34).alloc (.cells #[.int .i64 b0, .int .i64 b1, .int .i64 b2, .int .i64 b3, .int .i64 b4] 34)
  have BY := Box.new (w.alloc (.cells #[.int .i64 a0, .int .i64 a1, .int .i64 a2, .int .i64 a3, .int .i64 a4] 34)) #[.int .i64 b0, .int .i64 b1, .int .i64 b2, .int .i64 b3, .int .i64 b4] 34
  have hG := ((GW.refl w).alloc (.cells #[.int .i64 a0, .int .i64 a1, .int .i64 a2, .int .i64 a3, .int .i64 a4] 34)).alloc (.cells #[.int .i64 b0, .int .i64 b1, .int .i64 b2, .int .i64 b3, .int .i64 b4] 34)
  rw [size1] at BY
  have hz : ((w.alloc (.cells #[.int .i64 a0, .int .i64 a1, .int .i64 a2, .int .i64 a3, .int .i64 a4] 34)).alloc (.cells #[.int .i64 b0, .int .i64 b1, .int .i64 b2, .int .i64 b3, .int .i64 b4] 34)).heap.size = w.heap.size + 1 + 1 := by rw [size1, size1]
  replace hR := Lib.hid hR
  replace c1 := Lib.hid c1
  replace c2 := Lib.hid c2
  replace BX := Lib.hid BX
  replace BY := Lib.hid BY
  replace hG := Lib.hid hG
  replace hz := Lib.hid hz
  go_enter Try.func42, Try.ntmps42
  have kx := BX.out.at_
  have ky := BY.out.at_
  go_wp2_with fail
  generalize (w.alloc (.cells #[.int .i64 a0, .int .i64 a1, .int .i64 a2, .int .i64 a3, .int .i64 a4] 34)).alloc (.cells #[.int .i64 b0, .int .i64 b1, .int .i64 b2, .int .i64 b3, .int .i64 b4] 34) = w1 at *
  have HX : Hid (∀ w', GW w1 w' → (GW w1 w' ∧ (w'.cell? ⟨w.heap.size, 0, none⟩ = some (.int .i64 a0) ∧ w'.cell? ⟨w.heap.size, 1, none⟩ = some (.int .i64 a1) ∧ w'.cell? ⟨w.heap.size, 2, none⟩ = some (.int .i64 a2) ∧ w'.cell? ⟨w.heap.size, 3, none⟩ = some (.int .i64 a3) ∧ w'.cell? ⟨w.heap.size, 4, none⟩ = some (.int .i64 a4)) ∧ (w'.cell? ⟨w.heap.size + 1, 0, none⟩ = some (.int .i64 b0) ∧ w'.cell? ⟨w.heap.size + 1, 1, none⟩ = some (.int .i64 b1) ∧ w'.cell? ⟨w.heap.size + 1, 2, none⟩ = some (.int .i64 b2) ∧ w'.cell? ⟨w.heap.size + 1, 3, none⟩ = some (.int .i64 b3) ∧ w'.cell? ⟨w.heap.size + 1, 4, none⟩ = some (.int .i64 b4)))) := fun w' h =>
    ⟨h, ⟨(BX.out.keep h.below).at_ 0, (BX.out.keep h.below).at_ 1, (BX.out.keep h.below).at_ 2, (BX.out.keep h.below).at_ 3, (BX.out.keep h.below).at_ 4⟩, ⟨(BY.out.keep h.below).at_ 0, (BY.out.keep h.below).at_ 1, (BY.out.keep h.below).at_ 2, (BY.out.keep h.below).at_ 3, (BY.out.keep h.below).at_ 4⟩⟩
  have kz := HX.out _ (GW.refl w1)
  clear kx ky
  go_region_held3 (fun w' => GW w1 w' ∧ (w'.cell? ⟨w.heap.size, 0, none⟩ = some (.int .i64 a0) ∧ w'.cell? ⟨w.heap.size, 1, none⟩ = some (.int .i64 a1) ∧ w'.cell? ⟨w.heap.size, 2, none⟩ = some (.int .i64 a2) ∧ w'.cell? ⟨w.heap.size, 3, none⟩ = some (.int .i64 a3) ∧ w'.cell? ⟨w.heap.size, 4, none⟩ = some (.int .i64 a4)) ∧ (w'.cell? ⟨w.heap.size + 1, 0, none⟩ = some (.int .i64 b0) ∧ w'.cell? ⟨w.heap.size + 1, 1, none⟩ = some (.int .i64 b1) ∧ w'.cell? ⟨w.heap.size + 1, 2, none⟩ = some (.int .i64 b2) ∧ w'.cell? ⟨w.heap.size + 1, 3, none⟩ = some (.int .i64 b3) ∧ w'.cell? ⟨w.heap.size + 1, 4, none⟩ = some (.int .i64 b4)))
    (first
      | exact HX.out _ ((GW.refl w1).drew)
      | exact HX.out _ (by assumption)
      | exact HX.out _ (And.left (by assumption))
      | exact HX.out _ (GW.alloc (And.left (by assumption)) _)
      | exact HX.out _ (GW.alloc (GW.drew (GW.refl w1)) _))
    (first
      | (go_at_call 48; refine (c1.out _ _ _).mono ?_; rintro e wf ⟨rfl, rfl⟩)
      | (go_at_call 47; refine (c2.out _ _ (ints_box w1.drew 3 [CI a0 b0, CI a1 b1, CI a2 b2, CI a3 b3, CI a4 b4] (by simp [maxLen]))).mono ?_; rintro e wf ⟨rfl, rfl⟩))
  all_goals
    go_wp2
    go_ret
    exact ⟨rfl, hG.out.trans (And.left (by assumption))⟩
end Sw
end Go.Proofs.Ytnkgmpmedkegbaa
