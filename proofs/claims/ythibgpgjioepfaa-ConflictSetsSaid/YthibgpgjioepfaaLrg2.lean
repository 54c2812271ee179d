/- slices.Clone over whole numbers. -/
import Derived.Test.YthibgpgjioepfaaLrg
import Derived.Test.YthibgpgjioepfaaCopyA
import Derived.Test.YthibgpgjioepfaaSlc
namespace Go.Proofs.Ythibgpgjioepfaa
open Go Go.RowKit Go.Sort
namespace Nt
open Mm
def OwnIPost (n : Nat) (xs : List Int) (w : World) (e : Ending) (w' : World) : Prop := ∃ A' c', e = .returned (.slice A' n c') ∧ w'.ownsRow w.heap.size 3 1 (.slice A' n c') n (flat 1 intV xs) ∧ Below w.heap.size w w'
set_option maxRecDepth 100000 in
set_option maxHeartbeats 2000000 in
theorem cloneI_any (A : Option Addr) (n c : Nat) (xs : List Int) (w : World) (hs : IntS w A n xs) (hn : n ≤ 1000) :
    Calls Try.prog 53 #[.slice A n c] w (OwnIPost n xs w) := by
  have heq := fun W => Lib.run_eql_slice_nil (P := Try.prog) W 24 3 A n c 0 0 Try.underlying24
  have hlen := hs.els.len
  rcases A with _ | a
  · have h0 : n = 0 := els_none hs.els rfl
    subst h0
    have hc : xs = [] := List.length_eq_zero_iff.1 hlen
    subst hc
    replace hs := Lib.hid hs
    replace hlen := Lib.hid hlen
    simp only [Option.isNone_none] at heq
    go_enter Try.func53, Try.ntmps53
    go_wp2
    go_ret
    exact ⟨none, 0, rfl, World.ownsRow_nil _ _ _ _, Below.refl _ _⟩
  · simp only [Option.isNone_some] at heq
    obtain ⟨i0, hi, hz0, hz1, hz2⟩ := info_parts info_int
    have hm0 := World.ownsRow_made (base := w.heap.size) (e := 3) (size := 1) w #[] 0 (Nat.le_refl _) (by decide) rfl
    have hnews := ints_news (hs.keep (below_alloc w (.cells #[] 3))) rfl
    have h1 := ints_one xs
    have hfl : (flat 1 intV xs).length = n * 1 := by rw [flat_length, hlen]
    have hb0 := below_alloc w (.cells #[] 3)
    replace hi := Lib.hid hi
    replace hz0 := Lib.hid hz0
    replace hz1 := Lib.hid hz1
    replace hz2 := Lib.hid hz2
    replace hs := Lib.hid hs
    replace hlen := Lib.hid hlen
    replace hm0 := Lib.hid hm0
    replace hnews := Lib.hid hnews
    replace h1 := Lib.hid h1
    replace hfl := Lib.hid hfl
    replace hb0 := Lib.hid hb0
    go_enter Try.func53, Try.ntmps53
    go_wp2_with (at_builtin; refine wpList_append_own _ rfl _ _ _ rfl w.heap.size 3 i0 (.int .i64 0) 1 8 Try.underlying24 hi.out hz0.out hz1.out hz2.out rfl (by decide) (.slice (some ⟨w.heap.size, 0, none⟩) 0 0) 0 [] rfl hm0.out a n c (flat 1 intV xs) rfl hfl.out hnews.out h1.out ?c1 ?c2 ?c3 ?_)
    try case c1 => unfold maxLen; omega
    try case c2 => omega
    try case c3 => simp
    intro v' w1 hown hgrow _
    have hb1 := below_append hb0.out hm0.out hgrow (Nat.le_refl _)
    obtain ⟨A', c', rfl⟩ := owns_slice hown
    replace hown := Lib.hid hown
    replace hgrow := Lib.hid hgrow
    replace hb1 := Lib.hid hb1
    go_wp2
    go_ret
    exact ⟨A', c', rfl, hown.out, hb1.out⟩
end Nt
end Go.Proofs.Ythibgpgjioepfaa
