/- Few, cp. -/
import Derived.Test.YtnkgmpmedkegbaaSw28
import Derived.Deep.RegionHeld3
namespace Go.Proofs.Ytnkgmpmedkegbaa
open Go Go.RowKit Go.Sort
namespace Sw
open Mm
def fewB (n m : Nat) : Bool := (decide (n ≤ 24) || decide (n = 513)) && (decide (m ≤ 16) || decide (m = 1025))
set_option maxRecDepth 100000 in
set_option maxHeartbeats 2000000 in
theorem few_any (L O : Int) (A : Option Addr) (n cp : Nat) (B : Option Addr) (m cq : Nat) (w : World) (hn : n ≤ maxLen) (hm : m ≤ maxLen) :
    Calls Try.prog 11 #[.agg #[.int .i64 L, .int .i64 O, .slice A n cp], .slice B m cq] w fun e w' => e = .returned (.bool (fewB n m)) ∧ Below w.heap.size w w' := by
  unfold maxLen at hn hm
  have hbw := ball w (.cells #[.int .i64 L, .int .i64 O, .slice A n cp] 24)
  have BX := Box.new w #[.int .i64 L, .int .i64 O, .slice A n cp] 24
  have kx := BX.at_
  have hR : fewB n m = ((decide (n ≤ 24) || decide (n = 513)) && (decide (m ≤ 16) || decide (m = 1025))) := rfl
  generalize fewB n m = R at *
  replace hbw := Lib.hid hbw
  replace BX := Lib.hid BX
  have b1 : (n = 513 ∧ ((n : Int) == 513) = true) ∨ (n ≠ 513 ∧ ((n : Int) == 513) = false) := by
    by_cases h : n = 513
    · exact .inl ⟨h, by rw [h]; rfl⟩
    · exact .inr ⟨h, by rw [beq_eq_false_iff_ne]; omega⟩
  have b2 : (m = 1025 ∧ ((m : Int) == 1025) = true) ∨ (m ≠ 1025 ∧ ((m : Int) == 1025) = false) := by
    by_cases h : m = 1025
    · exact .inl ⟨h, by rw [h]; rfl⟩
    · exact .inr ⟨h, by rw [beq_eq_false_iff_ne]; omega⟩
  have a1 : (n ≤ 24 ∧ (n : Int) ≤ 24) ∨ (¬ n ≤ 24 ∧ decide ((n : Int) ≤ 24) = false) := by
    by_cases h : n ≤ 24
    · exact .inl ⟨h, by omega⟩
    · exact .inr ⟨h, by simp; omega⟩
  have a2 : (m ≤ 16 ∧ (m : Int) ≤ 16) ∨ (¬ m ≤ 16 ∧ decide ((m : Int) ≤ 16) = false) := by
    by_cases h : m ≤ 16
    · exact .inl ⟨h, by omega⟩
    · exact .inr ⟨h, by simp; omega⟩
  rcases a1 with ⟨h1, d1⟩ | ⟨h1, d1⟩
  · rcases a2 with ⟨h2, d2⟩ | ⟨h2, d2⟩
    · have hR2 : Hid (R = true) := by show _ = _; rw [hR]; simp [h1, h2]
      clear hR
      replace h1 := Lib.hid h1
      replace h2 := Lib.hid h2
      go_enter Try.func11, Try.ntmps11
      go_wp2
      go_ret
      exact ⟨by rw [hR2.out]; rfl, hbw.out⟩
    · rcases b2 with ⟨e2, b2⟩ | ⟨e2, b2⟩
      · have hR2 : Hid (R = true) := by show _ = _; rw [hR]; simp [h1, e2]
        clear hR
        replace h1 := Lib.hid h1
        replace h2 := Lib.hid h2
        replace e2 := Lib.hid e2
        go_enter Try.func11, Try.ntmps11
        go_wp2
        go_ret
        exact ⟨by rw [hR2.out]; rfl, hbw.out⟩
      · have hR2 : Hid (R = false) := by show _ = _; rw [hR]; simp [h2, e2]
        clear hR
        replace h1 := Lib.hid h1
        replace h2 := Lib.hid h2
        replace e2 := Lib.hid e2
        go_enter Try.func11, Try.ntmps11
        go_wp2
        go_ret
        exact ⟨by rw [hR2.out]; rfl, hbw.out⟩
  · rcases b1 with ⟨e1, b1⟩ | ⟨e1, b1⟩
    · rcases a2 with ⟨h2, d2⟩ | ⟨h2, d2⟩
      · have hR2 : Hid (R = true) := by show _ = _; rw [hR]; simp [e1, h2]
        clear hR
        replace h1 := Lib.hid h1
        replace e1 := Lib.hid e1
        replace h2 := Lib.hid h2
        go_enter Try.func11, Try.ntmps11
        go_wp2
        go_ret
        exact ⟨by rw [hR2.out]; rfl, hbw.out⟩
      · rcases b2 with ⟨e2, b2⟩ | ⟨e2, b2⟩
        · have hR2 : Hid (R = true) := by show _ = _; rw [hR]; simp [e1, e2]
          clear hR
          replace h1 := Lib.hid h1
          replace e1 := Lib.hid e1
          replace h2 := Lib.hid h2
          replace e2 := Lib.hid e2
          go_enter Try.func11, Try.ntmps11
          go_wp2
          go_ret
          exact ⟨by rw [hR2.out]; rfl, hbw.out⟩
        · have hR2 : Hid (R = false) := by show _ = _; rw [hR]; simp [h2, e2]
          clear hR
          replace h1 := Lib.hid h1
          replace e1 := Lib.hid e1
          replace h2 := Lib.hid h2
          replace e2 := Lib.hid e2
          go_enter Try.func11, Try.ntmps11
          go_wp2
          go_ret
          exact ⟨by rw [hR2.out]; rfl, hbw.out⟩
    · have hR2 : Hid (R = false) := by show _ = _; rw [hR]; simp [h1, e1]
      clear hR
      replace h1 := Lib.hid h1
      replace e1 := Lib.hid e1
      go_enter Try.func11, Try.ntmps11
      go_wp2
      go_ret
      exact ⟨by rw [hR2.out]; rfl, hbw.out⟩
theorem bcell {W w1 : World} (hb : Below W.heap.size W w1) : (∀ b o, b < W.heap.size → w1.cell? ⟨b, o, none⟩ = W.cell? ⟨b, o, none⟩) ∧ (∀ b o, b < W.heap.size → w1.frozen? ⟨b, o, none⟩ = W.frozen? ⟨b, o, none⟩) :=
  ⟨fun b o h => hb.cell (p := ⟨b, o, none⟩) h, fun b o h => hb.frozen (p := ⟨b, o, none⟩) h⟩
theorem gb_set1 (w : World) (g i : Nat) (v : Value) : w.grownBy (w.setCell ⟨g, i, none⟩ v) (some g) :=
  ⟨rfl, rfl, rfl, by simp [World.setCell], fun k _ hne => heap_setCell_other w ⟨g, i, none⟩ k v (fun e => hne (by rw [e]))⟩
theorem own_apart {w : World} {base g i : Nat} {e : TypeId} {size n : Nat} {v x : Value} {xs : List Value} (h : w.ownsRow base e size v n xs) (hg : g < base) : (w.setCell ⟨g, i, none⟩ x).ownsRow base e size v n xs :=
  h.kept (gb_set1 w g i x) (by
    cases hv : v.ownBlock with
    | none => exact .inl rfl
    | some k => exact .inr (fun e => by injection e with e; have := (h.lt k hv).1; omega))
def CpPost (L O : Int) (n m : Nat) (cs : List Cel) (l : List Chg) (w : World) (e : Ending) (w' : World) : Prop := ∃ A c B d, e = .returned (.tuple #[.agg #[.int .i64 L, .int .i64 O, .slice A n c], .slice B m d]) ∧ CelS w' A n cs ∧ ChgS w' B m l ∧ Below w.heap.size w w'
set_option maxRecDepth 100000 in
set_option maxHeartbeats 4000000 in
theorem cp_any (L O : Int) (A : Option Addr) (n cp : Nat) (cs : List Cel) (B : Option Addr) (m cq : Nat) (l : List Chg) (w : World) (h1 : CelS w A n cs) (h2 : ChgS w B m l) (hn : n ≤ 100000) (hm : m ≤ 100000) :
    Calls Try.prog 13 #[.agg #[.int .i64 L, .int .i64 O, .slice A n cp], .slice B m cq] w (CpPost L O n m cs l w) := by
  have hl1 := h1.len
  have hl2 := h2.len
  have hb0 := ballN (ball w (.cells #[.int .i64 L, .int .i64 O, .slice A n cp] 24)) (.cells #[.int .i64 0, .int .i64 0, .slice none 0 0] 24)
  have BX := (Blk.new w #[.int .i64 L, .int .i64 O, .slice A n cp] 24).alloc (.cells #[.int .i64 0, .int .i64 0, .slice none 0 0] 24)
  have BT := Blk.new (w.alloc (.cells #[.int .i64 L, .int .i64 O, .slice A n cp] 24)) #[.int .i64 0, .int .i64 0, .slice none 0 0] 24
  have s1 := size1 w (.cells #[.int .i64 L, .int .i64 O, .slice A n cp] 24)
  have s2 := size1 (w.alloc (.cells #[.int .i64 L, .int .i64 O, .slice A n cp] 24)) (.cells #[.int .i64 0, .int .i64 0, .slice none 0 0] 24)
  rw [s1] at BT s2
  have cC := cloneC_any A n cp cs _ (h1.keep hb0) hn
  have cG := fun W (h : ChgS W B m l) => cloneG_any B m cq l W h hm
  clear s1
  replace h1 := Lib.hid h1
  replace h2 := Lib.hid h2
  replace hl1 := Lib.hid hl1
  replace hl2 := Lib.hid hl2
  replace hb0 := Lib.hid hb0
  replace BX := Lib.hid BX
  replace BT := Lib.hid BT
  replace cC := Lib.hid cC
  replace cG := Lib.hid cG
  replace s2 := Lib.hid s2
  have kx := BX.out.cell
  go_enter Try.func13, Try.ntmps13
  go_wp2_with fail
  generalize (w.alloc (.cells #[.int .i64 L, .int .i64 O, .slice A n cp] 24)).alloc (.cells #[.int .i64 0, .int .i64 0, .slice none 0 0] 24) = w0 at *
  refine cC.out.mono ?_
  rintro e w2 ⟨A', c', rfl, ho, hb_⟩
  clear kx cC
  have hbw := Lib.hid (bthen hb0.out hb_)
  have HO := Lib.hid ho
  have HX := Lib.hid (BX.out.keep hb_)
  have HT := Lib.hid (BT.out.keep hb_)
  clear hb_ ho BX BT hb0
  have hz1 : w.heap.size < w2.heap.size := HX.out.lt
  have hz2 : w.heap.size + 1 < w2.heap.size := HT.out.lt
  have HX3 := Lib.hid (HX.out.set 2 (.slice A' n c'))
  have HT3 := Lib.hid (HT.out.other (p := ⟨w.heap.size, 2, none⟩) (by simp) (.slice A' n c'))
  have HO3 := Lib.hid (own_apart (g := w.heap.size) (i := 2) (x := .slice A' n c') HO.out (by rw [s2.out]; omega))
  have hb3 := Lib.hid (hbw.out.setCell (p := ⟨w.heap.size, 2, none⟩) (Nat.le_refl _) (.slice A' n c'))
  have kx := HX.out.cell
  have kf := HX.out.free
  go_upto_region 2 with fail
  clear kx kf
  generalize w2.setCell ⟨w.heap.size, 2, none⟩ (.slice A' n c') = w3 at *
  have HG : Hid (∀ W, Below w.heap.size w W → Calls Try.prog 35 #[.slice B m cq] W (ClonePost chgE 7 56 m l W)) := fun W h => cG.out W (h2.out.keep h)
  replace HX3 : Hid (Blk w3 w.heap.size #[.int .i64 L, .int .i64 O, .slice A' n c'] 24) := HX3
  have kx := HX3.out.cell
  have kt := HT3.out.cell
  have kf := HT3.out.free
  have hz3 : w.heap.size + 1 < w3.heap.size := HT3.out.lt
  have HS : Hid (Below w.heap.size w (((w3.setCell ⟨w.heap.size + 1, 0, none⟩ (.int .i64 L)).setCell ⟨w.heap.size + 1, 1, none⟩ (.int .i64 O)).setCell ⟨w.heap.size + 1, 2, none⟩ (.slice A' n c')).drew) := (((hb3.out.setCell (p := ⟨w.heap.size + 1, 0, none⟩) (Nat.le_succ _) _).setCell (p := ⟨w.heap.size + 1, 1, none⟩) (Nat.le_succ _) _).setCell (p := ⟨w.heap.size + 1, 2, none⟩) (Nat.le_succ _) _).drew
  have HB3 : Hid (Below w.heap.size w w3.drew) := hb3.out.drew
  go_region_with (first
    | (go_at_call 35; refine (HG.out w3.drew HB3.out).mono ?_; rintro e w7 ⟨B', d', rfl, ho7, hb7⟩; (have kx7 := (HX3.out.drew.keep hb7).cell); (have kt7 := (HT3.out.drew.keep hb7).cell); (have kf7 := (HT3.out.drew.keep hb7).free); (have ho8 := Lib.hid ho7); (have hb8 := Lib.hid hb7); clear ho7 hb7)
    | (go_at_call 35; refine (HG.out _ HS.out).mono ?_; rintro e w7 ⟨B', d', rfl, ho7, hb7⟩; (have ho8 := Lib.hid ho7); (have hb8 := Lib.hid hb7); clear ho7 hb7))
  all_goals
    have HT9 : Hid (Blk (((w7.setCell ⟨w.heap.size + 1, 0, none⟩ (.int .i64 L)).setCell ⟨w.heap.size + 1, 1, none⟩ (.int .i64 O)).setCell ⟨w.heap.size + 1, 2, none⟩ (.slice A' n c')) (w.heap.size + 1) #[.int .i64 L, .int .i64 O, .slice A' n c'] 24) := ((((HT3.out.drew.keep hb8.out).set 0 (.int .i64 L)).set 1 (.int .i64 O)).set 2 (.slice A' n c'))
    have HO9 : Hid ((((w7.setCell ⟨w.heap.size + 1, 0, none⟩ (.int .i64 L)).setCell ⟨w.heap.size + 1, 1, none⟩ (.int .i64 O)).setCell ⟨w.heap.size + 1, 2, none⟩ (.slice A' n c')).ownsRow w0.heap.size 34 5 (.slice A' n c') n (cs.flatMap celE)) :=
      have hlt : w.heap.size + 1 < w0.heap.size := by rw [s2.out]; omega
      (own_apart (g := w.heap.size + 1) (i := 2) (x := .slice A' n c') (own_apart (g := w.heap.size + 1) (i := 1) (x := .int .i64 O) (own_apart (g := w.heap.size + 1) (i := 0) (x := .int .i64 L) (owns_keep HO3.out.drew hb8.out) hlt) hlt) hlt)
    have hq : w.heap.size + 1 < w3.drew.heap.size := hz3
    have HG9 : Hid ((((w7.setCell ⟨w.heap.size + 1, 0, none⟩ (.int .i64 L)).setCell ⟨w.heap.size + 1, 1, none⟩ (.int .i64 O)).setCell ⟨w.heap.size + 1, 2, none⟩ (.slice A' n c')).ownsRow w3.drew.heap.size 56 7 (.slice B' m d') m (l.flatMap chgE)) :=
      have hlt := hq
      (own_apart (g := w.heap.size + 1) (i := 2) (x := .slice A' n c') (own_apart (g := w.heap.size + 1) (i := 1) (x := .int .i64 O) (own_apart (g := w.heap.size + 1) (i := 0) (x := .int .i64 L) ho8.out hlt) hlt) hlt)
    have HB9 : Hid (Below w.heap.size w (((w7.setCell ⟨w.heap.size + 1, 0, none⟩ (.int .i64 L)).setCell ⟨w.heap.size + 1, 1, none⟩ (.int .i64 O)).setCell ⟨w.heap.size + 1, 2, none⟩ (.slice A' n c'))) := ((((HB3.out.trans (hb8.out.mono (by omega))).setCell (p := ⟨w.heap.size + 1, 0, none⟩) (Nat.le_succ _) (.int .i64 L)).setCell (p := ⟨w.heap.size + 1, 1, none⟩) (Nat.le_succ _) (.int .i64 O)).setCell (p := ⟨w.heap.size + 1, 2, none⟩) (Nat.le_succ _) (.slice A' n c'))
    clear kx kt kf ho8 hb8
    generalize ((w7.setCell ⟨w.heap.size + 1, 0, none⟩ (.int .i64 L)).setCell ⟨w.heap.size + 1, 1, none⟩ (.int .i64 O)).setCell ⟨w.heap.size + 1, 2, none⟩ (.slice A' n c') = w9 at *
    have kq := HT9.out.cell
    have HF : Hid (CpPost L O n m cs l w (.returned (.tuple #[.agg #[.int .i64 L, .int .i64 O, .slice A' n c'], .slice B' m d'])) w9) := ⟨A', c', B', d', rfl, (Sls.of_owns celE_len HO9.out hl1.out).2, (Sls.of_owns chgE_len HG9.out hl2.out).2, HB9.out⟩
    go_wp2
    refine bodyPost_ret (v := .tuple #[.agg #[.int .i64 L, .int .i64 O, .slice A' n c'], .slice B' m d']) (by simp [results, Try.results13, go_sem, kq]) rfl HF.out
end Sw
end Go.Proofs.Ytnkgmpmedkegbaa
