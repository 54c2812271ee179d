/- slices.Clone at cells, at changes; cp. -/
import Derived.Test.YtnkgmpmedkegbaaSw15
import Derived.Lib.SliceRun
import Derived.Laws.Rows
namespace Go.Proofs.Ytnkgmpmedkegbaa
open Go Go.RowKit Go.Sort
namespace Sw
open Mm
theorem info_cel : (Try.prog.info? 34).map (fun i => (i.zero, i.size, i.bytes)) = some (some (.agg #[.int .i64 0, .int .i64 0, .int .i64 0, .int .i64 0, .int .i64 0]), 5, 40) := by kernel_rfl
theorem info_chg : (Try.prog.info? 56).map (fun i => (i.zero, i.size, i.bytes)) = some (some (.agg #[.int .i64 0, .bool false, .int .i64 0, .int .i64 0, .int .i64 0, .int .i64 0, .int .i64 0]), 7, 56) := by kernel_rfl
def ClonePost {α : Type} (enc : α → List Value) (k : Nat) (T : TypeId) (n : Nat) (xs : List α) (w : World) (e : Ending) (w' : World) : Prop := ∃ A' c', e = .returned (.slice A' n c') ∧ w'.ownsRow w.heap.size T k (.slice A' n c') n (xs.flatMap enc) ∧ Below w.heap.size w w'
theorem fm_one {α : Type} {enc : α → List Value} (h1 : ∀ x, ∀ v ∈ enc x, v.oneCell' = true) (xs : List α) : ∀ u ∈ xs.flatMap enc, u.oneCell' = true := fun u hu => by
  obtain ⟨x, _, h⟩ := List.mem_flatMap.1 hu
  exact h1 x u h
set_option maxRecDepth 100000 in
set_option maxHeartbeats 2000000 in
theorem cloneC_any (A : Option Addr) (n c : Nat) (xs : List Cel) (w : World) (hs : CelS w A n xs) (hn : n ≤ 100000) :
    Calls Try.prog 34 #[.slice A n c] w (ClonePost celE 5 34 n xs w) := by
  have heq := fun W => Lib.run_eql_slice_nil (P := Try.prog) W 22 34 A n c 0 0 Try.underlying22
  have hlen := hs.len
  rcases A with _ | a
  · have h0 : n = 0 := by
      rcases Nat.eq_zero_or_pos n with h | h
      · exact h
      · obtain ⟨b, off, e⟩ := hs.addr h; cases e
    subst h0
    have hc : xs = [] := List.length_eq_zero_iff.1 hlen
    subst hc
    replace hs := Lib.hid hs
    replace hlen := Lib.hid hlen
    simp only [Option.isNone_none] at heq
    go_enter Try.func34, Try.ntmps34
    go_wp2
    go_ret
    exact ⟨none, 0, rfl, World.ownsRow_nil _ _ _ _, Below.refl _ _⟩
  · simp only [Option.isNone_some] at heq
    obtain ⟨i0, hi, hz0, hz1, hz2⟩ := info_parts info_cel
    have hm0 := World.ownsRow_made (base := w.heap.size) (e := 34) (size := 5) w #[] 0 (Nat.le_refl _) (by decide) rfl
    have hb0 := ball w (.cells #[] 34)
    have hsk := hs.keep hb0
    have hnews : ∀ j u, (xs.flatMap celE)[j]? = some u → (w.alloc (.cells #[] 34)).cell? (a.add j) = some u := by
      rcases Nat.eq_zero_or_pos n with h | h
      · have hx : xs = [] := List.length_eq_zero_iff.1 (by omega)
        subst hx
        intro j u hu; simp at hu
      · exact hsk.news celE_len h
    have h1 := fm_one celE_one xs
    have hfl : (xs.flatMap celE).length = n * 5 := by rw [Sk.fm_len celE 5 celE_len, hlen]
    replace hi := Lib.hid hi
    replace hz0 := Lib.hid hz0
    replace hz1 := Lib.hid hz1
    replace hz2 := Lib.hid hz2
    replace hs := Lib.hid hs
    replace hlen := Lib.hid hlen
    replace hm0 := Lib.hid hm0
    replace hnews := Lib.hid hnews
    replace h1 := Lib.hid h1
    replace hfl := Lib.hid hfl
    replace hb0 := Lib.hid hb0
    replace hsk := Lib.hid hsk
    go_enter Try.func34, Try.ntmps34
    go_wp2_with (at_builtin; refine wpList_append_own _ rfl _ _ _ rfl w.heap.size 34 i0 (.agg #[.int .i64 0, .int .i64 0, .int .i64 0, .int .i64 0, .int .i64 0]) 5 40 Try.underlying22 hi.out hz0.out hz1.out hz2.out rfl (by decide) (.slice (some ⟨w.heap.size, 0, none⟩) 0 0) 0 [] rfl hm0.out a n c (xs.flatMap celE) rfl hfl.out hnews.out h1.out ?c1 ?c2 ?c3 ?_)
    try case c1 => unfold maxLen; omega
    try case c2 => omega
    try case c3 => simp
    intro v' w1 hown hgrow _
    have hb1 := below_append hb0.out hm0.out hgrow (Nat.le_refl _)
    obtain ⟨A', c', rfl⟩ := own_slice hown
    replace hown := Lib.hid hown
    replace hgrow := Lib.hid hgrow
    replace hb1 := Lib.hid hb1
    go_wp2
    go_ret
    exact ⟨A', c', by first | rfl | simp, hown.out, hb1.out⟩
set_option maxRecDepth 100000 in
set_option maxHeartbeats 2000000 in
theorem cloneG_any (A : Option Addr) (n c : Nat) (xs : List Chg) (w : World) (hs : ChgS w A n xs) (hn : n ≤ 100000) :
    Calls Try.prog 35 #[.slice A n c] w (ClonePost chgE 7 56 n xs w) := by
  have heq := fun W => Lib.run_eql_slice_nil (P := Try.prog) W 25 56 A n c 0 0 Try.underlying25
  have hlen := hs.len
  rcases A with _ | a
  · have h0 : n = 0 := by
      rcases Nat.eq_zero_or_pos n with h | h
      · exact h
      · obtain ⟨b, off, e⟩ := hs.addr h; cases e
    subst h0
    have hc : xs = [] := List.length_eq_zero_iff.1 hlen
    subst hc
    replace hs := Lib.hid hs
    replace hlen := Lib.hid hlen
    simp only [Option.isNone_none] at heq
    go_enter Try.func35, Try.ntmps35
    go_wp2
    go_ret
    exact ⟨none, 0, rfl, World.ownsRow_nil _ _ _ _, Below.refl _ _⟩
  · simp only [Option.isNone_some] at heq
    obtain ⟨i0, hi, hz0, hz1, hz2⟩ := info_parts info_chg
    have hm0 := World.ownsRow_made (base := w.heap.size) (e := 56) (size := 7) w #[] 0 (Nat.le_refl _) (by decide) rfl
    have hb0 := ball w (.cells #[] 56)
    have hsk := hs.keep hb0
    have hnews : ∀ j u, (xs.flatMap chgE)[j]? = some u → (w.alloc (.cells #[] 56)).cell? (a.add j) = some u := by
      rcases Nat.eq_zero_or_pos n with h | h
      · have hx : xs = [] := List.length_eq_zero_iff.1 (by omega)
        subst hx
        intro j u hu; simp at hu
      · exact hsk.news chgE_len h
    have h1 := fm_one chgE_one xs
    have hfl : (xs.flatMap chgE).length = n * 7 := by rw [Sk.fm_len chgE 7 chgE_len, hlen]
    replace hi := Lib.hid hi
    replace hz0 := Lib.hid hz0
    replace hz1 := Lib.hid hz1
    replace hz2 := Lib.hid hz2
    replace hs := Lib.hid hs
    replace hlen := Lib.hid hlen
    replace hm0 := Lib.hid hm0
    replace hnews := Lib.hid hnews
    replace h1 := Lib.hid h1
    replace hfl := Lib.hid hfl
    replace hb0 := Lib.hid hb0
    replace hsk := Lib.hid hsk
    go_enter Try.func35, Try.ntmps35
    go_wp2_with (at_builtin; refine wpList_append_own _ rfl _ _ _ rfl w.heap.size 56 i0 (.agg #[.int .i64 0, .bool false, .int .i64 0, .int .i64 0, .int .i64 0, .int .i64 0, .int .i64 0]) 7 56 Try.underlying25 hi.out hz0.out hz1.out hz2.out rfl (by decide) (.slice (some ⟨w.heap.size, 0, none⟩) 0 0) 0 [] rfl hm0.out a n c (xs.flatMap chgE) rfl hfl.out hnews.out h1.out ?c1 ?c2 ?c3 ?_)
    try case c1 => unfold maxLen; omega
    try case c2 => omega
    try case c3 => simp
    intro v' w1 hown hgrow _
    have hb1 := below_append hb0.out hm0.out hgrow (Nat.le_refl _)
    obtain ⟨A', c', rfl⟩ := own_slice hown
    replace hown := Lib.hid hown
    replace hgrow := Lib.hid hgrow
    replace hb1 := Lib.hid hb1
    go_wp2
    go_ret
    exact ⟨A', c', by first | rfl | simp, hown.out, hb1.out⟩
end Sw
end Go.Proofs.Ytnkgmpmedkegbaa
