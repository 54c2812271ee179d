/- times: the two closures. -/
import Derived.Test.YtnkgmpmedkegbaaSw6
import Derived.WalkSmall
import Derived.Laws.OwnMore
namespace Go.Proofs.Ytnkgmpmedkegbaa
open Go Go.RowKit Go.Sort
namespace Sw
open Mm
theorem info_parts {P : Program} {t : TypeId} {z : Value} {k b : Nat} (h : (P.info? t).map (fun i => (i.zero, i.size, i.bytes)) = some (some z, k, b)) : ∃ i, P.info? t = some i ∧ i.zero = some z ∧ i.size = k ∧ i.bytes = b := by
  cases hi : P.info? t with
  | none => rw [hi] at h; cases h
  | some i => rw [hi] at h; simp at h; exact ⟨i, rfl, h.1, h.2.1, h.2.2⟩
theorem info_pr : (Try.prog.info? 42).map (fun i => (i.zero, i.size, i.bytes)) = some (some (.agg #[.int .i64 0, .int .i64 0]), 2, 16) := by kernel_rfl
/-- the times so far, held by the box M: nothing below M has turned since W0 -/
structure TSt (W0 W : World) (M : Nat) (v : Value) (t : List (Int × Int)) : Prop where
  below : Below M W0 W
  blk : Blk W M #[v] 35
  own : W.ownsRow (M + 1) 42 2 v t.length (t.flatMap prE)
theorem Below.grownM {W0 W W' : World} {M : Nat} {r : Option Nat} (h : Below M W0 W) (hg : W.grownBy W' r) (hM : M ≤ W.heap.size) (hr : ∀ k, r = some k → M ≤ k) : Below M W0 W' := h.grown hg hM hr
theorem set_last (u : List (Int × Int)) (a b x : Int) : ((u ++ [(a, b)]).flatMap prE).set (u.length * 2 + 1) (.int .i64 x) = (u ++ [(a, x)]).flatMap prE := by
  rw [List.flatMap_append, List.flatMap_append, ← Sk.fm_len prE 2 prE_len u, List.set_append_right _ _ (by omega)]
  congr 1
  simp [prE]
def TPost (W0 : World) (M : Nat) (t : List (Int × Int)) (e : Ending) (w' : World) : Prop := e = .returned (.tuple #[]) ∧ ∃ v, TSt W0 w' M v t
set_option maxRecDepth 100000 in
set_option maxHeartbeats 4000000 in
theorem begin_any (W0 W : World) (M : Nat) (v : Value) (t : List (Int × Int)) (s : Int) (h : TSt W0 W M v t) (hl : t.length ≤ 5000) :
    Calls Try.prog 67 #[.int .i64 s, .pointer (some ⟨M, 0, none⟩)] W (TPost W0 M (begT t s)) := by
  obtain ⟨i0, hi, hz0, hz1, hz2⟩ := info_parts info_pr
  have hMl := h.blk.lt
  have kb := h.blk.cell 0
  have kf := h.blk.free 0
  have HOa := h.own.alloc (.cells #[.int .i64 s, .int .i64 (-1)] 42)
  have hnews := World.news_of_block (Blk.new W #[.int .i64 s, .int .i64 (-1)] 42).at_
  have happ : ∀ (g cap : Nat) (w1 : World), w1.ownsRow (M + 1) 42 2 (.slice (some ⟨g, 0, none⟩) (t.length + 1) cap) (t.length + 1) (t.flatMap prE ++ [.int .i64 s, .int .i64 (-1)]) → (W.alloc (.cells #[.int .i64 s, .int .i64 (-1)] 42)).grownBy w1 v.ownBlock → TSt W0 (w1.setCell ⟨M, 0, none⟩ (.slice (some ⟨g, 0, none⟩) (t.length + 1) cap)) M (.slice (some ⟨g, 0, none⟩) (t.length + 1) cap) (t ++ [(s, -1)]) := by
    intro g cap w1 hown hg
    have hne : v.ownBlock ≠ some M := fun e => by have := (h.own.lt M e).1; omega
    have hb1 : Below M W0 (W.alloc (.cells #[.int .i64 s, .int .i64 (-1)] 42)) := h.below.alloc (by omega) _
    have hb2 := Below.grownM hb1 hg (by simp; omega) (fun k hk => by have := (h.own.lt k hk).1; omega)
    have hk := (h.blk.alloc (.cells #[.int .i64 s, .int .i64 (-1)] 42)).grown hg hne
    refine ⟨hb2.setCell (Nat.le_refl _) _, ?_, ?_⟩
    · have := hk.set 0 (.slice (some ⟨g, 0, none⟩) (t.length + 1) cap); simpa using this
    · have := ownsRow_setCell_below hown (a := ⟨M, 0, none⟩) (by simp) (.slice (some ⟨g, 0, none⟩) (t.length + 1) cap)
      rw [List.length_append, List.flatMap_append]
      exact this
  have hsz : M + 1 ≤ W.heap.size := by omega
  rcases snoc_cases t with rfl | ⟨u, p, rfl⟩
  · have hv : ∃ A c, v = .slice A 0 c := by
      rcases h.own.2 with ⟨hv, _⟩ | ⟨g, cap, cur, hv, _⟩
      · exact ⟨none, 0, hv⟩
      · exact ⟨_, _, hv⟩
    obtain ⟨A, c, rfl⟩ := hv
    rw [begT_nil]
    replace h := Lib.hid h
    replace HOa := Lib.hid HOa
    replace hnews := Lib.hid hnews
    replace happ := Lib.hid happ
    replace hi := Lib.hid hi
    replace hz0 := Lib.hid hz0
    replace hz1 := Lib.hid hz1
    replace hz2 := Lib.hid hz2
    go_enter Try.func67, Try.ntmps67
    go_wp2_with (at_builtin; refine wpList_append_lies _ rfl _ _ _ rfl (M + 1) 42 i0 (.agg #[.int .i64 0, .int .i64 0]) 2 16 Try.underlying35 hi.out hz0.out hz1.out hz2.out rfl (by decide) (.slice A 0 c) 0 _ rfl HOa.out ⟨W.heap.size, 0, none⟩ 1 1 [.int .i64 s, .int .i64 (-1)] rfl rfl ?c1 ?c2 (by decide) ?c3 ?c4 ?c5 (W.heap.size + 1) ?c6 ?_)
    try case c1 => exact hnews.out
    try case c2 => simp [Value.oneCell']
    try case c3 => unfold maxLen; omega
    try case c4 => omega
    try case c5 => first | omega | (simp; omega)
    try case c6 => first | rfl | simp
    intro g cap w1 hown1 hgrow1 hat1 hlt1
    have HT := happ.out g cap w1 hown1 hgrow1
    have hne : (Value.slice A 0 c).ownBlock ≠ some M := fun e => by have := (h.out.own.lt M e).1; omega
    have hk1 := (h.out.blk.alloc (.cells #[.int .i64 s, .int .i64 (-1)] 42)).grown hgrow1 hne
    have kb1 := hk1.cell 0
    have kf1 := hk1.free 0
    replace HT := Lib.hid HT
    replace hne := Lib.hid hne
    replace hk1 := Lib.hid hk1
    clear hown1 hgrow1 hat1 kb kf
    go_wp2
    go_end0
    exact ⟨rfl, _, HT.out⟩
  · obtain ⟨p1, p2⟩ := p
    rw [begT_snoc]
    have hgl := h.own.2
    rcases hgl with ⟨hv, h0⟩ | ⟨g, cap, cur, rfl, hbase, hg, r1, r2, r3, r4⟩
    · simp at h0
    have hc1 := h.own.cellAt (u.length * 2 + 1) (by simp; omega)
    have hc1' : ((u ++ [(p1, p2)]).flatMap prE)[u.length * 2 + 1]? = some (.int .i64 p2) := by
      rw [Sk.fm_get prE 2 prE_len _ u.length 1 (by simp) (by decide)]
      simp [prE]
    rw [hc1'] at hc1
    have hf1 := h.own.frozenAt (u.length * 2 + 1)
    have hst := h.own.stored (u.length * 2 + 1) (.int .i64 (-1))
    rw [set_last] at hst
    have hgl : g < W.heap.size := (Array.getElem?_eq_some_iff.1 hg).1
    have hlu : (u ++ [(p1, p2)]).length = u.length + 1 := by simp
    have hlu2 : (u ++ [(p1, (-1 : Int))]).length = u.length + 1 := by simp
    rw [hlu] at kb HOa happ hl hst
    dsimp only
    by_cases hps : p2 = s
    · have hT : TSt W0 (W.setCell ⟨g, u.length * 2 + 1, none⟩ (.int .i64 (-1))) M (.slice (some ⟨g, 0, none⟩) (u.length + 1) cap) (u ++ [(p1, -1)]) :=
        ⟨h.below.setCell (by simp; omega) _, by rw [← hlu]; exact h.blk.other (by simp; omega) _, by rw [hlu2]; exact hst.1⟩
      have hps2 : (p2 == s) = true := by simpa using hps
      rw [if_pos hps]
      generalize u.length = q at *
      replace h := Lib.hid h
      replace HOa := Lib.hid HOa
      replace hnews := Lib.hid hnews
      replace happ := Lib.hid happ
      replace hi := Lib.hid hi
      replace hz0 := Lib.hid hz0
      replace hz1 := Lib.hid hz1
      replace hz2 := Lib.hid hz2
      replace hT := Lib.hid hT
      replace hst := Lib.hid hst
      replace hps := Lib.hid hps
      clear hc1'
      go_enter Try.func67, Try.ntmps67
      go_wp2
      go_end0
      exact ⟨rfl, _, hT.out⟩
    · have hps2 : (p2 == s) = false := by simpa using hps
      rw [if_neg hps]
      have hbl := h.blk
      have hown0 := h.own
      have hn0 : (Value.slice (some ⟨g, 0, none⟩) (u ++ [(p1, p2)]).length cap).ownBlock ≠ some M := fun e => by have := (hown0.lt M e).1; omega
      clear hps hst hf1 hc1' r4
      generalize (u ++ [(p1, p2)]).flatMap prE = F at HOa happ
      replace h := Lib.hid h
      replace HOa := Lib.hid HOa
      replace hnews := Lib.hid hnews
      replace happ := Lib.hid happ
      replace hi := Lib.hid hi
      replace hz0 := Lib.hid hz0
      replace hz1 := Lib.hid hz1
      replace hz2 := Lib.hid hz2
      replace hbl := Lib.hid hbl
      replace hown0 := Lib.hid hown0
      replace hn0 := Lib.hid hn0
      replace hlu := Lib.hid hlu
      go_enter Try.func67, Try.ntmps67
      go_wp2_with (at_builtin; refine wpList_append_lies _ rfl _ _ _ rfl (M + 1) 42 i0 (.agg #[.int .i64 0, .int .i64 0]) 2 16 Try.underlying35 hi.out hz0.out hz1.out hz2.out rfl (by decide) (.slice (some ⟨g, 0, none⟩) (u.length + 1) cap) (u.length + 1) _ rfl HOa.out ⟨W.heap.size, 0, none⟩ 1 1 [.int .i64 s, .int .i64 (-1)] rfl rfl ?d1 ?d2 (by decide) ?d3 ?d4 ?d5 (W.heap.size + 1) ?d6 ?_)
      try case d1 => exact hnews.out
      try case d2 => simp [Value.oneCell']
      try case d3 => unfold maxLen; omega
      try case d4 => omega
      try case d5 => first | omega | (simp; omega)
      try case d6 => first | rfl | simp
      intro g2 cap2 w1 hown1 hgrow1 hat1 hlt1
      have HT := happ.out g2 cap2 w1 hown1 hgrow1
      have hk1 := (hbl.out.alloc (.cells #[.int .i64 s, .int .i64 (-1)] 42)).grown hgrow1 (by rw [hlu.out] at hn0; exact hn0.out)
      have kb1 := hk1.cell 0
      have kf1 := hk1.free 0
      replace HT := Lib.hid HT
      replace hk1 := Lib.hid hk1
      clear hown1 hgrow1 hat1 kb kf
      go_wp2
      go_end0
      have HT2 := HT.out
      rw [List.append_assoc] at HT2
      exact ⟨rfl, _, HT2⟩
theorem set_firstless (u : List (Int × Int)) (p : Int × Int) : (u ++ [p]).flatMap prE = u.flatMap prE ++ prE p := by rw [List.flatMap_append]; simp
set_option maxRecDepth 100000 in
set_option maxHeartbeats 4000000 in
theorem end_any (W0 W : World) (M : Nat) (v : Value) (u : List (Int × Int)) (p : Int × Int) (s : Int) (h : TSt W0 W M v (u ++ [p])) (hl : u.length ≤ 5000) :
    Calls Try.prog 68 #[.int .i64 s, .pointer (some ⟨M, 0, none⟩)] W (TPost W0 M (endT (u ++ [p]) s)) := by
  have hMl := h.blk.lt
  have kb := h.blk.cell 0
  have kf := h.blk.free 0
  obtain ⟨p1, p2⟩ := p
  rw [endT_snoc]
  rcases h.own.2 with ⟨hv, h0⟩ | ⟨g, cap, cur, rfl, hbase, hg, r1, r2, r3, r4⟩
  · simp at h0
  have hc1 := h.own.cellAt (u.length * 2) (by first | (simp; done) | (simp; omega))
  have hc1' : ((u ++ [(p1, p2)]).flatMap prE)[u.length * 2]? = some (.int .i64 p1) := by
    have := Sk.fm_get prE 2 prE_len (u ++ [(p1, p2)]) u.length 0 (by simp) (by decide)
    rw [Nat.add_zero] at this
    rw [this]
    simp [prE]
  rw [hc1'] at hc1
  have hf1 := h.own.frozenAt (u.length * 2 + 1)
  have hst := h.own.stored (u.length * 2 + 1) (.int .i64 s)
  rw [set_last] at hst
  have hc2 := h.own.cellAt (u.length * 2 + 1) (by first | (simp; done) | (simp; omega))
  have hc2' : ((u ++ [(p1, p2)]).flatMap prE)[u.length * 2 + 1]? = some (.int .i64 p2) := by
    rw [Sk.fm_get prE 2 prE_len _ u.length 1 (by simp) (by decide)]
    simp [prE]
  rw [hc2'] at hc2
  have hgl : g < W.heap.size := (Array.getElem?_eq_some_iff.1 hg).1
  have hlu : (u ++ [(p1, p2)]).length = u.length + 1 := by simp
  have hlu2 : (u ++ [(p1, s)]).length = u.length + 1 := by simp
  have hpop := h.own
  rw [hlu, set_firstless] at hpop
  replace hpop := ownsRow_pop (Sk.fm_len prE 2 prE_len u) hpop
  rw [hlu] at kb r1 hst
  dsimp only
  by_cases hps : p1 = s
  · have hT : TSt W0 (W.setCell ⟨M, 0, none⟩ (.slice (some ⟨g, 0, none⟩) u.length cap)) M (.slice (some ⟨g, 0, none⟩) u.length cap) u :=
      ⟨h.below.setCell (Nat.le_refl _) _, by simpa using h.blk.set 0 (.slice (some ⟨g, 0, none⟩) u.length cap), ownsRow_setCell_below hpop (a := ⟨M, 0, none⟩) (by simp) _⟩
    have hps2 : (p1 == s) = true := by simpa using hps
    rw [if_pos hps]
    generalize u.length = q at *
    replace h := Lib.hid h
    replace hT := Lib.hid hT
    replace hst := Lib.hid hst
    replace hps := Lib.hid hps
    replace hpop := Lib.hid hpop
    clear hc1' hc2' hc2 r4
    go_enter Try.func68, Try.ntmps68
    go_wp2
    go_end0
    exact ⟨rfl, _, hT.out⟩
  · have hT : TSt W0 (W.setCell ⟨g, u.length * 2 + 1, none⟩ (.int .i64 s)) M (.slice (some ⟨g, 0, none⟩) (u.length + 1) cap) (u ++ [(p1, s)]) :=
      ⟨h.below.setCell (by first | (simp; done) | (simp; omega)) _, by rw [← hlu]; exact h.blk.other (by first | (simp; done) | (simp; omega)) _, by rw [hlu2]; exact hst.1⟩
    have hps2 : (p1 == s) = false := by simpa using hps
    rw [if_neg hps]
    generalize u.length = q at *
    replace h := Lib.hid h
    replace hT := Lib.hid hT
    replace hst := Lib.hid hst
    replace hps := Lib.hid hps
    replace hpop := Lib.hid hpop
    clear hc1' hc2' r4
    go_enter Try.func68, Try.ntmps68
    go_wp2
    go_end0
    exact ⟨rfl, _, hT.out⟩
end Sw
end Go.Proofs.Ytnkgmpmedkegbaa
