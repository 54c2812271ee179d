/- slices.Clone and slices.Reverse over cells. -/
import Derived.Test.YthibgpgjioepfaaRef7
import Derived.Test.YthibgpgjioepfaaParts
import Derived.Lib.SliceRun
namespace Go.Proofs.Ythibgpgjioepfaa
open Go Go.RowKit Go.Sort
namespace Nt
open Mm
def OwnPost (n : Nat) (cs : List Cel) (w : World) (e : Ending) (w' : World) : Prop := ∃ A' c', e = .returned (.slice A' n c') ∧ w'.ownsRow w.heap.size 36 5 (.slice A' n c') n (flat 5 cellV cs) ∧ Below w.heap.size w w'
theorem flat_cell {cs : List Cel} {j : Nat} {u : Value} (h : (flat 5 cellV cs)[j]? = some u) : j < cs.length * 5 ∧ u = .int .i64 (celF (cs.getD (j / 5) default) (j % 5)) := by
  have hl : j < cs.length * 5 := by
    have := (List.getElem?_eq_some_iff.1 h).1
    rwa [flat_length] at this
  have := flat_at 5 cellV cs (j / 5) (j % 5) (by omega) (by omega)
  rw [show j / 5 * 5 + j % 5 = j by omega, h] at this
  injection this with this
  exact ⟨hl, this⟩
theorem owns_slice {w : World} {base n : Nat} {e : TypeId} {size : Nat} {v : Value} {xs : List Value} (h : w.ownsRow base e size v n xs) : ∃ A c, v = .slice A n c := by
  rcases h.2 with ⟨h, h0⟩ | ⟨g, cap, cur, h, _⟩
  · exact ⟨none, 0, by rw [h, h0]⟩
  · exact ⟨_, _, h⟩
set_option maxRecDepth 100000 in
set_option maxHeartbeats 2000000 in
theorem cloneC_any (A : Option Addr) (n c : Nat) (cs : List Cel) (w : World) (hs : CelS w A n cs) (hn : n ≤ 1000) :
    Calls Try.prog 26 #[.slice A n c] w (OwnPost n cs w) := by
  have heq := fun W => Lib.run_eql_slice_nil (P := Try.prog) W 27 36 A n c 0 0 Try.underlying27
  have hlen := hs.els.len
  rcases A with _ | a
  · have h0 : n = 0 := by
      rcases Nat.eq_zero_or_pos n with h | h
      · exact h
      · obtain ⟨b, off, e, _⟩ := hs.els.at_ h; cases e
    subst h0
    have hc : cs = [] := List.length_eq_zero_iff.1 hlen
    subst hc
    replace hs := Lib.hid hs
    replace hlen := Lib.hid hlen
    simp only [Option.isNone_none] at heq
    go_enter Try.func26, Try.ntmps26
    go_wp2
    go_ret
    exact ⟨none, 0, rfl, World.ownsRow_nil _ _ _ _, Below.refl _ _⟩
  · simp only [Option.isNone_some] at heq
    obtain ⟨i0, hi, hz0, hz1, hz2⟩ := info_parts info_cell
    have hm0 := World.ownsRow_made (base := w.heap.size) (e := 36) (size := 5) w #[] 0 (Nat.le_refl _) (by decide) rfl
    have hnews : ∀ j u, (flat 5 cellV cs)[j]? = some u → (w.alloc (.cells #[] 36)).cell? (a.add j) = some u := by
      intro j u hu
      obtain ⟨h1, rfl⟩ := flat_cell hu
      obtain ⟨b, off, e, hlt, hc⟩ := (hs.keep (below_alloc w (.cells #[] 36))).els.at_ (show 0 < n by omega)
      injection e with e
      subst e
      have := hc (j / 5) (by omega) (j % 5) (by omega)
      have ea : (⟨b, off, none⟩ : Addr).add j = ⟨b, off + j / 5 * 5 + j % 5, none⟩ := by unfold Addr.add; split <;> simp_all <;> omega
      rw [ea]; exact this
    have h1 : ∀ u ∈ flat 5 cellV cs, u.oneCell' = true := fun u hu => by
      obtain ⟨j, hj⟩ := List.mem_iff_getElem?.1 hu
      rw [(flat_cell hj).2]; rfl
    have hfl : (flat 5 cellV cs).length = n * 5 := by rw [flat_length, hlen]
    have hb0 := below_alloc w (.cells #[] 36)
    replace hi := Lib.hid hi
    replace hz0 := Lib.hid hz0
    replace hz1 := Lib.hid hz1
    replace hz2 := Lib.hid hz2
    replace hs := Lib.hid hs
    replace hlen := Lib.hid hlen
    replace hm0 := Lib.hid hm0
    replace hnews := Lib.hid hnews
    replace h1 := Lib.hid h1
    replace hfl := Lib.hid hfl
    replace hb0 := Lib.hid hb0
    go_enter Try.func26, Try.ntmps26
    go_wp2_with (at_builtin; refine wpList_append_own _ rfl _ _ _ rfl w.heap.size 36 i0 (.agg #[.int .i64 0, .int .i64 0, .int .i64 0, .int .i64 0, .int .i64 0]) 5 40 Try.underlying27 hi.out hz0.out hz1.out hz2.out rfl (by decide) (.slice (some ⟨w.heap.size, 0, none⟩) 0 0) 0 [] rfl hm0.out a n c (flat 5 cellV cs) rfl hfl.out hnews.out h1.out ?c1 ?c2 ?c3 ?_)
    try case c1 => unfold maxLen; omega
    try case c2 => omega
    try case c3 => simp
    intro v' w1 hown hgrow _
    have hb1 := below_append hb0.out hm0.out hgrow (Nat.le_refl _)
    obtain ⟨A', c', rfl⟩ := owns_slice hown
    replace hown := Lib.hid hown
    replace hgrow := Lib.hid hgrow
    replace hb1 := Lib.hid hb1
    go_wp2
    go_ret
    exact ⟨A', c', rfl, hown.out, hb1.out⟩
end Nt
end Go.Proofs.Ythibgpgjioepfaa
