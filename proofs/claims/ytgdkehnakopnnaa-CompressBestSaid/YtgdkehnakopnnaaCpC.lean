/- Package hopmeshlaw14: Clone, few, short, awake. -/
import Derived.Test.YtgdkehnakopnnaaCpRt
import Derived.Lib.SliceRun
import Derived.Laws.StructEq
namespace Go.Proofs.Ytgdkehnakopnnaa
open Go Go.RowKit Go.Sort
namespace Cp
open Mm
theorem info_ctx : (Try.prog.info? 26).map (fun i => (i.zero, i.size, i.bytes)) = some (some (.agg #[.string ⟨#[]⟩]), 1, 16) := by kernel_rfl
def ClonePost (n : Nat) (ps : List ByteArray) (w : World) (e : Ending) (w' : World) : Prop := ∃ A' c', e = .returned (.slice A' n c') ∧ CtxS w' A' n ps ∧ w'.ownsRow w.heap.size 26 1 (.slice A' n c') n (ps.map Value.string) ∧ Below w.heap.size w w'
theorem ctx_of_owns {w : World} {base n c : Nat} {e : TypeId} {A : Option Addr} {ps : List ByteArray} (h : w.ownsRow base e 1 (.slice A n c) n (ps.map Value.string)) (ok : ∀ p ∈ ps, p.size ≤ maxLen) : CtxS w A n ps := by
  have hl : ps.length = n := by have := h.1; simpa using this
  rcases h.2 with ⟨hv, h0⟩ | ⟨g, cap, cur, hv, hb, hg, hnc, hm, hs, ht⟩
  · exact ⟨⟨hl, by rw [h0]; exact Nat.zero_le _, fun h => by omega⟩, ok⟩
  · injection hv with e1 e2 e3
    subst e1 e3
    refine ⟨⟨hl, by omega, fun hn => ⟨g, 0, rfl, ?_, fun i hi j hj => ?_⟩⟩, ok⟩
    · rcases Nat.lt_or_ge g w.heap.size with hlt | hge
      · exact hlt
      · rw [Array.getElem?_eq_none hge] at hg; cases hg
    · obtain rfl : j = 0 := by omega
      rw [show 0 + i * 1 + 0 = i by omega, h.cellAt i (by omega), List.getElem?_map, List.getElem?_eq_getElem (by omega), List.getD_eq_getElem?_getD, List.getElem?_eq_getElem (by omega)]
      rfl
set_option maxRecDepth 100000 in
set_option maxHeartbeats 4000000 in
theorem cloneX_any (A : Option Addr) (n c : Nat) (ps : List ByteArray) (w : World) (hs : CtxS w A n ps) (hn : n ≤ 1000) :
    Calls Try.prog 14 #[.slice A n c] w (ClonePost n ps w) := by
  have heq := fun W => Lib.run_eql_slice_nil (P := Try.prog) W 22 26 A n c 0 0 Try.underlying22
  have hlen := hs.els.len
  have hok := hs.ok
  rcases A with _ | a
  · have h0 : n = 0 := hs.els.none
    subst h0
    have hc : ps = [] := List.length_eq_zero_iff.1 hlen
    subst hc
    replace hs := Lib.hid hs
    replace hlen := Lib.hid hlen
    replace hok := Lib.hid hok
    simp only [Option.isNone_none] at heq
    go_enter Try.func14, Try.ntmps14
    go_wp2
    go_ret
    exact ⟨none, 0, rfl, ⟨⟨rfl, by omega, fun h => by omega⟩, hok.out⟩, World.ownsRow_nil _ _ _ _, Below.refl _ _⟩
  · simp only [Option.isNone_some] at heq
    obtain ⟨i0, hi, hz0, hz1, hz2⟩ := info_parts info_ctx
    have hm0 := World.ownsRow_made (base := w.heap.size) (e := 26) (size := 1) w #[] 0 (Nat.le_refl _) (by decide) rfl
    have hnews : ∀ j u, (ps.map Value.string)[j]? = some u → (w.alloc (.cells #[] 26)).cell? (a.add j) = some u := by
      intro j u hu
      have hj : j < ps.length := by
        have := (List.getElem?_eq_some_iff.1 hu).1
        simpa using this
      obtain ⟨b, off, e⟩ := hs.els.addr (show 0 < n by omega)
      injection e with e
      subst e
      obtain ⟨hc, _⟩ := (hs.keep (below_alloc w (.cells #[] 26))).elem (show j < n by omega)
      have ea : (⟨b, off, none⟩ : Addr).add j = ⟨b, off + j, none⟩ := by unfold Addr.add; split <;> simp_all
      rw [ea, hc]
      rw [List.getElem?_map, List.getElem?_eq_getElem hj] at hu
      rw [List.getD_eq_getElem?_getD, List.getElem?_eq_getElem hj]
      exact hu
    have h1 : ∀ u ∈ ps.map Value.string, u.oneCell' = true := fun u hu => by
      obtain ⟨x, _, rfl⟩ := List.mem_map.1 hu
      rfl
    have hfl : (ps.map Value.string).length = n * 1 := by rw [List.length_map, hlen, Nat.mul_one]
    have hb0 := below_alloc w (.cells #[] 26)
    replace hi := Lib.hid hi
    replace hz0 := Lib.hid hz0
    replace hz1 := Lib.hid hz1
    replace hz2 := Lib.hid hz2
    replace hs := Lib.hid hs
    replace hlen := Lib.hid hlen
    replace hm0 := Lib.hid hm0
    replace hnews := Lib.hid hnews
    replace h1 := Lib.hid h1
    replace hfl := Lib.hid hfl
    replace hb0 := Lib.hid hb0
    replace hok := Lib.hid hok
    go_enter Try.func14, Try.ntmps14
    go_wp2_with (at_builtin; refine wpList_append_own _ rfl _ _ _ rfl w.heap.size 26 i0 (.agg #[.string ⟨#[]⟩]) 1 16 Try.underlying22 hi.out hz0.out hz1.out hz2.out rfl (by decide) (.slice (some ⟨w.heap.size, 0, none⟩) 0 0) 0 [] rfl hm0.out a n c (ps.map Value.string) rfl hfl.out hnews.out h1.out ?c1 ?c2 ?c3 ?_)
    try case c1 => unfold maxLen; omega
    try case c2 => omega
    try case c3 => simp
    intro v' w1 hown hgrow _
    have hb1 := below_append hb0.out hm0.out hgrow (Nat.le_refl _)
    obtain ⟨A', c', rfl⟩ := owns_slice hown
    have hC := ctx_of_owns hown hok.out
    replace hown := Lib.hid hown
    replace hgrow := Lib.hid hgrow
    replace hb1 := Lib.hid hb1
    replace hC := Lib.hid hC
    go_wp2
    go_ret
    exact ⟨A', c', rfl, hC.out, hown.out, hb1.out⟩
def few (ps : List ByteArray) : Bool := decide (ps.length ≤ 12) && !(ps.any fun p => decide (20 < (p.size : Int)))
set_option maxRecDepth 100000 in
set_option maxHeartbeats 4000000 in
theorem few1_any : PaysC 33 (fun p => decide (20 < (p.size : Int))) := by
  intro x w hx
  unfold maxLen at hx
  have hb := below_alloc w (.cells #[.string x] 26)
  have hm : (x.size : Int) ≤ 9223372036854775807 := by omega
  replace hb := Lib.hid hb
  go_enter Try.func33, Try.ntmps33
  go_wp2_with fail
  go_ret
  exact ⟨rfl, hb.out⟩
set_option maxRecDepth 100000 in
set_option maxHeartbeats 4000000 in
theorem few_any (A : Option Addr) (n c : Nat) (ps : List ByteArray) (w : World) (hs : CtxS w A n ps) :
    Calls Try.prog 11 #[.slice A n c] w fun e w' => e = .returned (.bool (few ps)) ∧ Below w.heap.size w w' := by
  have hc := Lib.hid (containsFuncC_any 33 _ A n c ps w (enters_of Try.func33 (by kernel_rfl) rfl) few1_any hs)
  have hE : Hid (few ps = (decide (n ≤ 12) && !(ps.any fun p => decide (20 < (p.size : Int))))) := by show _ = _; unfold few; rw [hs.els.len]
  have hm := hs.els.small
  unfold maxLen at hm
  generalize few ps = F at *
  generalize (ps.any fun p => decide (20 < (p.size : Int))) = R at *
  replace hs := Lib.hid hs
  by_cases h12 : n ≤ 12
  · have d : (n : Int) ≤ 12 := by omega
    go_enter Try.func11, Try.ntmps11
    go_wp2_with fail
    refine hc.out.mono ?_
    rintro e w1 ⟨rfl, hb⟩
    replace hb := Lib.hid hb
    cases R
    all_goals
      go_wp2
      go_ret
      exact ⟨by rw [hE.out]; simp [h12], hb.out⟩
  · have d : decide ((n : Int) ≤ 12) = false := by simp; omega
    go_enter Try.func11, Try.ntmps11
    go_wp2_with fail
    go_ret
    exact ⟨by rw [hE.out]; simp [h12], Below.refl _ _⟩
def short (h : Hdr) : Bool := decide ((h.src.size : Int) ≤ 20) && decide ((h.dst.size : Int) ≤ 20)
set_option maxRecDepth 100000 in
set_option maxHeartbeats 4000000 in
theorem short_any (h : Hdr) (w : World) (g : h.ok) : Calls Try.prog 12 #[.agg (hdrC h)] w fun e w' => e = .returned (.bool (short h)) ∧ Below w.heap.size w w' := by
  obtain ⟨cls, lim, src, dst, port, rep, len⟩ := h
  have hb := below_alloc w (.cells #[.int .i64 cls, .int .i64 lim, .string src, .string dst, .int .i64 port, .int .i64 rep, .int .i64 len] 24)
  have h1 := g.src
  have h2 := g.dst
  unfold maxLen at h1 h2
  dsimp only at h1 h2
  have m1 : (src.size : Int) ≤ 9223372036854775807 := by omega
  have m2 : (dst.size : Int) ≤ 9223372036854775807 := by omega
  unfold hdrC
  dsimp only
  clear h1 h2
  replace hb := Lib.hid hb
  replace g := Lib.hid g
  by_cases h1 : (src.size : Int) ≤ 20
  · go_enter Try.func12, Try.ntmps12
    go_wp2_with fail
    go_ret
    exact ⟨by unfold short; simp [h1], hb.out⟩
  · have d : decide ((src.size : Int) ≤ 20) = false := decide_eq_false h1
    go_enter Try.func12, Try.ntmps12
    go_wp2_with fail
    go_ret
    exact ⟨by unfold short; simp; omega, hb.out⟩
def exL : List ByteArray := [⟨#[10, 0, 1]⟩]
def exH : Hdr := ⟨0, 64, ⟨#[10, 0, 1, 5]⟩, ⟨#[10, 0, 1, 9]⟩, 61616, 61617, 20⟩
theorem ex_cmp : CmpR exL exH = (⟨#[80, 11, 1, 56, 9, 64]⟩, 0) := by decide +kernel
theorem ex_bits : BitR exL exH = (44, 0) := by decide +kernel
theorem ex_chk : chk exH = 0 := by decide +kernel
theorem ex_ctx : ctxE exL = 0 := by decide +kernel
theorem exS (w : World) (q : Nat) (h : Blk w q #[.string ⟨#[10, 0, 1]⟩] 26) : CtxS w (some ⟨q, 0, none⟩) 1 exL :=
  ⟨⟨rfl, by decide, fun _ => ⟨q, 0, rfl, h.lt, fun i hi j hj => by
    obtain rfl : i = 0 := by omega
    obtain rfl : j = 0 := by omega
    exact h.cell 0⟩⟩, fun p hp => by
    obtain rfl : p = ⟨#[10, 0, 1]⟩ := by simpa [exL] using hp
    decide⟩
set_option maxRecDepth 100000 in
set_option maxHeartbeats 4000000 in
theorem awake_any (w : World) : Calls Try.prog 10 #[] w fun e w' => e = .returned (.bool true) ∧ Below w.heap.size w w' := by
  have hb0 := (below_alloc w (.cells #[.string ⟨#[10, 0, 1]⟩] 26)).trans ((below_alloc (w.alloc (.cells #[.string ⟨#[10, 0, 1]⟩] 26)) (.cells (hdrC exH) 24)).mono (by simp))
  have hq := (Blk.new w #[.string ⟨#[10, 0, 1]⟩] 26).alloc (.cells (hdrC exH) 24)
  have c1 := Compress_any (some ⟨w.heap.size, 0, none⟩) 1 1 exL exH _ (exS _ _ hq)
  have c2 := fun W (h : Blk W w.heap.size #[.string ⟨#[10, 0, 1]⟩] 26) => Bits_any (some ⟨w.heap.size, 0, none⟩) 1 1 exL exH W (exS _ _ h)
  have c3 := fun W => check_any exH W
  have c4 := fun W (h : Blk W w.heap.size #[.string ⟨#[10, 0, 1]⟩] 26) => contexts_any (some ⟨w.heap.size, 0, none⟩) 1 1 exL W (exS _ _ h)
  rw [ex_cmp] at c1
  rw [ex_bits] at c2
  rw [ex_chk] at c3
  rw [ex_ctx] at c4
  have hh := Blk.new (w.alloc (.cells #[.string ⟨#[10, 0, 1]⟩] 26)) (hdrC exH) 24
  have hx : hdrC exH = #[.int .i64 0, .int .i64 64, .string ⟨#[10, 0, 1, 5]⟩, .string ⟨#[10, 0, 1, 9]⟩, .int .i64 61616, .int .i64 61617, .int .i64 20] := rfl
  rw [hx] at c1 c2 c3 hb0 hq
  have hsz : (w.alloc (.cells #[.string ⟨#[10, 0, 1]⟩] 26)).heap.size = w.heap.size + 1 := by simp
  rw [hsz] at hh
  have hh' := hh
  rw [hx] at hh'
  replace hb0 := Lib.hid hb0
  replace hq := Lib.hid hq
  replace c1 := Lib.hid c1
  replace c2 := Lib.hid c2
  replace c3 := Lib.hid c3
  replace c4 := Lib.hid c4
  replace hx := Lib.hid hx
  replace hsz := Lib.hid hsz
  replace hh := Lib.hid hh
  replace hh' := Lib.hid hh'
  go_enter Try.func10, Try.ntmps10
  go_wp2_with fail
  refine c1.out.mono ?_
  rintro e w1 ⟨rfl, hb⟩
  have HB1 := Lib.hid (hb0.out.trans (hb.mono (by simp; omega)))
  have HQ1 := Lib.hid (hq.out.keep hb)
  have HH1 := hh'.out.keep hb
  have k0 := HH1.cell
  have x2 := Lib.hid (c2.out w1 HQ1.out)
  clear c1 c2
  replace hb := Lib.hid hb
  replace HH1 := Lib.hid HH1
  go_wp2_with fail
  refine x2.out.mono ?_
  rintro e w2 ⟨rfl, hb⟩
  have HB2 := Lib.hid (bthen HB1.out hb)
  have HQ2 := Lib.hid (HQ1.out.keep hb)
  have HH2 := HH1.out.keep hb
  clear k0 x2
  have k0 := HH2.cell
  replace hb := Lib.hid hb
  replace HH2 := Lib.hid HH2
  go_wp2_with fail
  refine (c3.out _).mono ?_
  rintro e w3 ⟨rfl, hb⟩
  have HB3 := Lib.hid (bthen HB2.out hb)
  have HQ3 := Lib.hid (HQ2.out.keep hb)
  have x4 := Lib.hid (c4.out w3 HQ3.out)
  clear k0 c3 c4
  replace hb := Lib.hid hb
  go_wp2_with fail
  refine x4.out.mono ?_
  rintro e w4 ⟨rfl, hb⟩
  have HB4 := Lib.hid (bthen HB3.out hb)
  clear x4
  replace hb := Lib.hid hb
  go_wp2_with fail
  go_ret
  exact ⟨rfl, HB4.out⟩
end Cp
end Go.Proofs.Ytgdkehnakopnnaa
