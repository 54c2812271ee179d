/- slices.Equal at contexts; Clone, ContainsFunc at headers. -/
import Derived.Test.YtgdkehnakopnnaaCpB3
namespace Go.Proofs.Ytgdkehnakopnnaa
open Go Go.RowKit Go.Sort
namespace Cp
open Mm
theorem neq_ctx (s : ByteArray) (W : World) : (binOp .neq 26 (.agg #[.string s]) (.agg #[.string s])).run Try.prog W = .ok (.bool false) W := by
  have u9 := Try.underlying9
  have a9 := Try.isAgg9
  have z9 := Try.sizeOf9
  have hS : Try.prog.underlying 26 = some (.struct (Try.prog.fieldsOf 26)) := by kernel_rfl
  have hp : Try.prog.stoodInHeld 26 = false := by kernel_rfl
  rw [run_neq_struct, show (10000 : Nat) = 9999 + 1 from rfl, run_equalIn_agg W 9999 26 _ _ hS hp]
  simp only [Program.fieldsOf, Try.underlying26]
  go_simp
set_option maxRecDepth 100000 in
set_option maxHeartbeats 4000000 in
theorem equal_any (A B : Option Addr) (n c1 c2 : Nat) (ps : List ByteArray) (w : World) (h1 : CtxS w A n ps) (h2 : CtxS w B n ps) (hn : n ≤ 1000) :
    Calls Try.prog 28 #[.slice A n c1, .slice B n c2] w fun e w' => e = .returned (.bool true) ∧ Below w.heap.size w w' := by
  have kn := neq_ctx
  replace h1 := Lib.hid h1
  replace h2 := Lib.hid h2
  go_enter Try.func28, Try.ntmps28
  go_wp2_with fail
  go_loopw [5, 13] (fun _ i wx => ∃ t : Nat, t ≤ n ∧ i = .int .i64 t ∧ Hid (Below w.heap.size w wx)) (fun _ i _ => n - (intOf i).toNat)
  case atStart => exact ⟨0, Nat.zero_le _, rfl, Lib.hid (Below.refl _ _)⟩
  case round =>
    obtain ⟨t, ht, rfl, hB⟩ := hrel
    by_cases htl : t < n
    · obtain ⟨b1, o1, rfl⟩ := h1.out.els.addr (by omega)
      obtain ⟨b2, o2, rfl⟩ := h2.out.els.addr (by omega)
      have e1 := cell_regrown ((h1.out.keep hB.out).elem htl).1
      have e2 := cell_regrown ((h2.out.keep hB.out).elem htl).1
      generalize ps.getD t default = S at *
      have htl' : (t : Int) < (n : Int) := by omega
      have HB := hB
      go_wp2_with fail
      refine wp_region_quiet_below (by kernel_rfl) (by kernel_rfl) ?_
      repeat (go_big_quiet_step (fail))
      refine wpQuiet_nil ?_
      rintro _ ⟨⟨dq, osq⟩, rfl⟩
      have hb_ := below_regrown wr dq osq
      have HB2 := Lib.hid (bthen HB.out hb_)
      generalize grow (redrawn wr dq) osq = w5 at *
      clear hb_ e1 e2
      go_wp2_with fail
      go_roundw
      case rel => exact ⟨t + 1, by omega, by go_num, HB2⟩
      case measure => simp [intOf]; omega
    · obtain rfl : t = n := by omega
      go_wp2_with fail
      go_ret
      exact ⟨rfl, hB.out⟩
def PaysH (g : Nat) (p : Hdr → Bool) : Prop := ∀ (x : Hdr) (w : World), x.ok → Calls Try.prog g #[.agg (hdrC x)] w fun e w' => e = .returned (.bool (p x)) ∧ Below w.heap.size w w'
set_option maxRecDepth 100000 in
set_option maxHeartbeats 4000000 in
theorem indexFuncH_any (g : Nat) (p : Hdr → Bool) (A : Option Addr) (n c : Nat) (ps : List Hdr) (w : World) (eg : ∀ args w, (callFunc g args).run Try.prog w = .ok (.enter g args) w) (hp : PaysH g p) (hs : HdrS w A n ps) :
    Calls Try.prog 50 #[.slice A n c, .func (.func g) #[] #[]] w (IdxPost (ps.any p) w) := by
  have hlen := hs.els.len
  have hm := hs.els.small
  unfold maxLen at hm
  replace hs := Lib.hid hs
  replace hp := Lib.hid hp
  replace hlen := Lib.hid hlen
  go_enter Try.func50, Try.ntmps50
  go_wp2_with fail
  go_loopw [5, 8] (fun _ i wr => ∃ k : Nat, k ≤ n ∧ i = .int .i64 k ∧ Hid ((ps.take k).any p = false) ∧ Hid (Below w.heap.size w wr)) (fun _ i _ => n - (intOf i).toNat)
  case atStart => exact ⟨0, by omega, rfl, by show _ = _; simp, Below.refl _ _⟩
  case round =>
    obtain ⟨k, hk, rfl, HP, HB⟩ := hrel
    by_cases hlt : k < n
    · obtain ⟨b, off, rfl⟩ := hs.out.els.addr (by omega)
      obtain ⟨hbl, hsv, hxl⟩ := (hs.out.keep HB.out).seven hlt
      have hany := any_take_succ p ps k (by rw [hlen.out]; exact hlt)
      rw [HP.out, Bool.false_or] at hany
      have hall : p (ps.getD k default) = true → ps.any p = true := fun h => by
        rw [List.any_eq_true]; exact ⟨_, getD_mem (by rw [hlen.out]; exact hlt), h⟩
      have hc := hp.out (ps.getD k default) wr hxl
      generalize ps.getD k default = x at *
      generalize p x = px at *
      obtain ⟨cls, lim, src, dst, port, rep, len⟩ := x
      obtain ⟨k0, k1, k2, k3, k4, k5, k6⟩ := hsv
      rw [Nat.add_zero] at k0
      unfold hdrC at hc
      dsimp only at k0 k1 k2 k3 k4 k5 k6 hc
      have r1 : (k : Int) < (n : Int) := by omega
      replace hany := Lib.hid hany
      replace hall := Lib.hid hall
      replace hc := Lib.hid hc
      clear hxl
      go_wp2_with fail
      refine hc.out.mono ?_
      rintro e w1 ⟨rfl, hb⟩
      clear k0 k1 k2 k3 k4 k5 k6 hc
      have HB2 := Lib.hid (HB.out.trans (hb.mono HB.out.size))
      clear hb
      cases px with
      | true =>
        have hA := hall.out rfl
        replace hA := Lib.hid hA
        go_wp2
        go_ret
        exact ⟨k, rfl, by rw [hA.out]; simp, HB2.out⟩
      | false =>
        have hA : Hid ((ps.take (k + 1)).any p = false) := hany
        go_wp2
        go_roundw
        case rel => exact ⟨k + 1, by omega, by go_num, hA, HB2⟩
        case measure => simp [intOf]; omega
    · obtain rfl : k = n := by omega
      have hA := HP.out
      rw [List.take_of_length_le (by rw [hlen.out]; exact Nat.le_refl _)] at hA
      replace hA := Lib.hid hA
      go_wp2
      go_ret
      exact ⟨-1, rfl, by rw [hA.out]; rfl, HB.out⟩
set_option maxRecDepth 100000 in
set_option maxHeartbeats 4000000 in
theorem containsFuncH_any (g : Nat) (p : Hdr → Bool) (A : Option Addr) (n c : Nat) (ps : List Hdr) (w : World) (eg : ∀ args w, (callFunc g args).run Try.prog w = .ok (.enter g args) w) (hp : PaysH g p) (hs : HdrS w A n ps) :
    Calls Try.prog 26 #[.slice A n c, .func (.func g) #[] #[]] w fun e w' => e = .returned (.bool (ps.any p)) ∧ Below w.heap.size w w' := by
  have hc := Lib.hid (indexFuncH_any g p A n c ps w eg hp hs)
  generalize ps.any p = R at *
  replace hs := Lib.hid hs
  replace hp := Lib.hid hp
  go_enter Try.func26, Try.ntmps26
  go_wp2_with fail
  refine hc.out.mono ?_
  rintro e w1 ⟨i, rfl, hi, hb⟩
  replace hi := Lib.hid hi
  replace hb := Lib.hid hb
  go_wp2
  go_ret
  exact ⟨by rw [← hi.out]; rfl, hb.out⟩
set_option maxRecDepth 100000 in
set_option maxHeartbeats 4000000 in
theorem notShort_any : PaysH 27 (fun h => !short h) := by
  intro x w hx
  show Calls _ _ _ _ (fun e w' => e = .returned (.bool (!short x)) ∧ Below w.heap.size w w')
  have hc := Lib.hid (fun W => short_any x W hx)
  generalize short x = R at *
  obtain ⟨cls, lim, src, dst, port, rep, len⟩ := x
  unfold hdrC at *
  dsimp only at *
  replace hx := Lib.hid hx
  go_enter Try.func27, Try.ntmps27
  go_wp2_with fail
  refine (hc.out _).mono ?_
  rintro e w1 ⟨rfl, hb⟩
  replace hb := Lib.hid hb
  go_wp2
  go_ret
  exact ⟨rfl, box_below hb.out⟩
def flatH (hs : List Hdr) : List Value := hs.flatMap fun h => (hdrC h).toList
theorem flatH_cons (h : Hdr) (hs : List Hdr) : flatH (h :: hs) = (hdrC h).toList ++ flatH hs := by unfold flatH; rw [List.flatMap_cons]
theorem hdrC_len (h : Hdr) : (hdrC h).toList.length = 7 := rfl
theorem hdrC_get (h : Hdr) (j : Nat) (hj : j < 7) : (hdrC h).toList[j]? = some (hdrF h j) := by
  match j, hj with
  | 0, _ => rfl
  | 1, _ => rfl
  | 2, _ => rfl
  | 3, _ => rfl
  | 4, _ => rfl
  | 5, _ => rfl
  | 6, _ => rfl
theorem flatH_length (hs : List Hdr) : (flatH hs).length = hs.length * 7 := by
  induction hs with
  | nil => rfl
  | cons h t ih => rw [flatH_cons, List.length_append, hdrC_len, ih, List.length_cons]; omega
theorem flatH_get : ∀ (hs : List Hdr) (i j : Nat), i < hs.length → j < 7 → (flatH hs)[i * 7 + j]? = some (hdrF (hs.getD i default) j)
  | [], i, j, hi, _ => absurd hi (Nat.not_lt_zero i)
  | h :: t, 0, j, _, hj => by
    rw [flatH_cons, List.getElem?_append_left (by rw [hdrC_len]; omega), show 0 * 7 + j = j by omega, hdrC_get h j hj]
    rfl
  | h :: t, i + 1, j, hi, hj => by
    rw [flatH_cons, List.getElem?_append_right (by rw [hdrC_len]; omega), hdrC_len, show (i + 1) * 7 + j - 7 = i * 7 + j by omega, flatH_get t i j (by simpa using hi) hj]
    rfl
theorem info_hdr : (Try.prog.info? 24).map (fun i => (i.zero, i.size, i.bytes)) = some (some (.agg #[.int .i64 0, .int .i64 0, .string ⟨#[]⟩, .string ⟨#[]⟩, .int .i64 0, .int .i64 0, .int .i64 0]), 7, 72) := by kernel_rfl
theorem hdr_of_owns {w : World} {base n c : Nat} {e : TypeId} {A : Option Addr} {hs : List Hdr} (h : w.ownsRow base e 7 (.slice A n c) n (flatH hs)) (hl : hs.length = n) (ok : ∀ p ∈ hs, p.ok) : HdrS w A n hs := by
  rcases h.2 with ⟨hv, h0⟩ | ⟨g, cap, cur, hv, hb, hg, hnc, hm, hsz, ht⟩
  · exact ⟨⟨hl, by rw [h0]; exact Nat.zero_le _, fun h => by omega⟩, ok⟩
  · injection hv with e1 e2 e3
    subst e1 e3
    refine ⟨⟨hl, by omega, fun hn => ⟨g, 0, rfl, (Array.getElem?_eq_some_iff.1 hg).1, fun i hi j hj => ?_⟩⟩, ok⟩
    rw [Nat.zero_add, h.cellAt (i * 7 + j) (by omega)]
    exact flatH_get hs i j (by omega) hj
set_option maxRecDepth 100000 in
set_option maxHeartbeats 4000000 in
theorem cloneH_any (A : Option Addr) (n c : Nat) (ps : List Hdr) (w : World) (hs : HdrS w A n ps) (hn : n ≤ 1000) :
    Calls Try.prog 30 #[.slice A n c] w fun e w' => ∃ A' c', e = .returned (.slice A' n c') ∧ HdrS w' A' n ps ∧ Below w.heap.size w w' := by
  have heq := fun W => Lib.run_eql_slice_nil (P := Try.prog) W 46 24 A n c 0 0 Try.underlying46
  have hlen := hs.els.len
  have hok := hs.ok
  rcases A with _ | a
  · have h0 : n = 0 := hs.els.none
    subst h0
    have hc : ps = [] := List.length_eq_zero_iff.1 hlen
    subst hc
    replace hs := Lib.hid hs
    replace hlen := Lib.hid hlen
    replace hok := Lib.hid hok
    simp only [Option.isNone_none] at heq
    go_enter Try.func30, Try.ntmps30
    go_wp2
    go_ret
    exact ⟨none, 0, rfl, ⟨⟨rfl, by omega, fun h => by omega⟩, hok.out⟩, Below.refl _ _⟩
  · simp only [Option.isNone_some] at heq
    obtain ⟨i0, hi, hz0, hz1, hz2⟩ := info_parts info_hdr
    have hm0 := World.ownsRow_made (base := w.heap.size) (e := 24) (size := 7) w #[] 0 (Nat.le_refl _) (by decide) rfl
    have hnews : ∀ j u, (flatH ps)[j]? = some u → (w.alloc (.cells #[] 24)).cell? (a.add j) = some u := by
      intro j u hu
      have hj : j < ps.length * 7 := by
        have := (List.getElem?_eq_some_iff.1 hu).1
        rwa [flatH_length] at this
      obtain ⟨b, off, e⟩ := hs.els.addr (show 0 < n by omega)
      injection e with e
      subst e
      obtain ⟨_, hc⟩ := (hs.keep (below_alloc w (.cells #[] 24))).els.cell (show 0 < n by omega)
      have ea : (⟨b, off, none⟩ : Addr).add j = ⟨b, off + j, none⟩ := by unfold Addr.add; split <;> simp_all
      have hd : j = j / 7 * 7 + j % 7 := by omega
      have h1 := hc (j / 7) (by omega) (j % 7) (by omega)
      have h2 := flatH_get ps (j / 7) (j % 7) (by omega) (by omega)
      rw [← hd, hu] at h2
      rw [ea, h2, ← h1, show off + j / 7 * 7 + j % 7 = off + j by omega]
    have h1 : ∀ u ∈ flatH ps, u.oneCell' = true := fun u hu => by
      unfold flatH at hu
      obtain ⟨x, _, hx⟩ := List.mem_flatMap.1 hu
      obtain ⟨cls, lim, src, dst, port, rep, len⟩ := x
      simp only [hdrC, List.mem_cons, List.not_mem_nil, or_false] at hx
      rcases hx with rfl | rfl | rfl | rfl | rfl | rfl | rfl <;> rfl
    have hfl : (flatH ps).length = n * 7 := by rw [flatH_length, hlen]
    have hb0 := below_alloc w (.cells #[] 24)
    replace hi := Lib.hid hi
    replace hz0 := Lib.hid hz0
    replace hz1 := Lib.hid hz1
    replace hz2 := Lib.hid hz2
    replace hs := Lib.hid hs
    replace hlen := Lib.hid hlen
    replace hm0 := Lib.hid hm0
    replace hnews := Lib.hid hnews
    replace h1 := Lib.hid h1
    replace hfl := Lib.hid hfl
    replace hb0 := Lib.hid hb0
    replace hok := Lib.hid hok
    go_enter Try.func30, Try.ntmps30
    go_wp2_with (at_builtin; refine wpList_append_own _ rfl _ _ _ rfl w.heap.size 24 i0 (.agg #[.int .i64 0, .int .i64 0, .string ⟨#[]⟩, .string ⟨#[]⟩, .int .i64 0, .int .i64 0, .int .i64 0]) 7 72 Try.underlying46 hi.out hz0.out hz1.out hz2.out rfl (by decide) (.slice (some ⟨w.heap.size, 0, none⟩) 0 0) 0 [] rfl hm0.out a n c (flatH ps) rfl hfl.out hnews.out h1.out ?c1 ?c2 ?c3 ?_)
    try case c1 => unfold maxLen; omega
    try case c2 => omega
    try case c3 => simp
    intro v' w1 hown hgrow _
    have hb1 := below_append hb0.out hm0.out hgrow (Nat.le_refl _)
    obtain ⟨A', c', rfl⟩ := owns_slice hown
    have hC := hdr_of_owns hown hlen.out hok.out
    replace hown := Lib.hid hown
    replace hgrow := Lib.hid hgrow
    replace hb1 := Lib.hid hb1
    replace hC := Lib.hid hC
    go_wp2
    go_ret
    exact ⟨A', c', rfl, hC.out, hb1.out⟩
end Cp
end Go.Proofs.Ytgdkehnakopnnaa
