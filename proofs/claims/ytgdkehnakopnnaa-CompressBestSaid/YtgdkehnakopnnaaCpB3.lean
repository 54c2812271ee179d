/- Best, walked. -/
import Derived.Test.YtgdkehnakopnnaaCpB2
import Derived.Test.YtgdkehnakopnnaaCpC
import Derived.Maps.OwnSet
import Derived.Maps.AppendAt
namespace Go.Proofs.Ytgdkehnakopnnaa
open Go Go.RowKit Go.Sort Go.Maps Go.WideMaps
namespace Cp
open Mm
def SortPost (l : List Nm) (W : World) (e : Ending) (w' : World) : Prop := ∃ (v : Value) (L : List Nm), e = .returned v ∧ Ranked l L ∧ w'.ownsRow W.heap.size 9 1 v L.length (L.map encStr) ∧ Below W.heap.size W w'
def SortC : Prop := ∀ (Bm B b nn : Nat) (D : Dt) (l : List Nm) (W : World), W.cell? ⟨Bm, 0, none⟩ = some (.map (some b)) → W.cell? ⟨B, 0, none⟩ = some (.map (some b)) → Bm < W.heap.size → B < W.heap.size → OwnM W b nn D → CountsD D l → l.length ≤ 100 → (∀ x ∈ l, x.length ≤ 100) →
  Calls Try.prog 51 #[.func (.func 87) #[] #[.pointer (some ⟨Bm, 0, none⟩)], .func (.func 53) #[] #[.pointer (some ⟨B, 0, none⟩)]] W (SortPost l W)
theorem counts_nil : CountsD (.map [] : Dt) [] := ⟨isMap_empty, fun _ => rfl, fun _ => rfl⟩
theorem counts_put {D : Dt} {l : List Nm} (h : CountsD D l) (x : Nm) {c : Int} (hc : D.atKey (.string x) (.lit (.int .i64 0)) = .lit (.int .i64 c)) : CountsD (D.put (.string x) (.lit (.int .i64 (c + 1)))) (l ++ [x]) := by
  have e := h.at_ x
  rw [hc] at e
  injection e with e
  injection e with _ e
  refine ⟨h.isMap.put _ _, fun y => ?_, fun y => ?_⟩
  · by_cases hy : y = x
    · subst hy
      rw [atKey_put_same h.isMap (by trivial), e, List.count_append]
      simp
    · rw [atKey_put_other (by simpa using hy), h.at_, List.count_append]
      simp [Ne.symm hy]
  · by_cases hy : y = x
    · subst hy
      rw [has_put_same h.isMap (by trivial)]; simp
    · rw [has_put_other (by simpa using hy), h.has_]
      simp [hy]
theorem valid_sizes (h : Hdr) (hv : valid h = true) : h.src.size = 4 ∧ h.dst.size = 4 := by
  unfold valid at hv
  simp only [Bool.and_eq_true] at hv
  obtain ⟨⟨⟨⟨⟨_, h1⟩, h2⟩, _⟩, _⟩, _⟩ := hv
  simp at h1 h2
  exact ⟨by omega, by omega⟩
theorem OwnM.keep {w w' : World} {b nn : Nat} {D : Dt} (h : OwnM w b nn D) (hb : Below w.heap.size w w') : OwnM w' b nn D := by
  have hlt := World.ownsMap.lt h
  obtain ⟨es, clock, hq, F, hs, hD⟩ := h
  exact ⟨es, clock, (hb.block b hlt).trans hq, F, hs, hD⟩
theorem key3 {s : ByteArray} : keyOf Try.prog 9 (.string (s.extract 0 3)) = some (.string (s.data.toList.take 3)) := by
  have e : (s.extract 0 3).data.toList = s.data.toList.take 3 := by simp [ByteArray.data_extract]
  rw [key_str (by rw [ByteArray.size_extract]; unfold maxLen; omega), e]
theorem counts_put' {D : Dt} {l : List Nm} (h : CountsD D l) (x : Nm) {c : Int} (hl : l.length ≤ 100) (hc : D.atKey (.string x) (.lit (.int .i64 0)) = .lit (.int .i64 c)) : CountsD (D.put (.string x) (.lit (.int .i64 (wrap64 (c + 1))))) (l ++ [x]) := by
  have e := h.at_ x
  rw [hc] at e
  injection e with e
  injection e with _ e
  have := List.count_le_length (a := x) (l := l)
  rw [show wrap64 (c + 1) = c + 1 by unfold wrap64; omega]
  exact counts_put h x hc
structure Row7 (w : World) (b q : Nat) (h : Hdr) : Prop where
  c0 : w.cell? ⟨b, q + 0, none⟩ = some (.int .i64 h.cls)
  c1 : w.cell? ⟨b, q + 1, none⟩ = some (.int .i64 h.lim)
  c2 : w.cell? ⟨b, q + 2, none⟩ = some (.string h.src)
  c3 : w.cell? ⟨b, q + 3, none⟩ = some (.string h.dst)
  c4 : w.cell? ⟨b, q + 4, none⟩ = some (.int .i64 h.port)
  c5 : w.cell? ⟨b, q + 5, none⟩ = some (.int .i64 h.rep)
  c6 : w.cell? ⟨b, q + 6, none⟩ = some (.int .i64 h.len)
theorem HdrS.seven {w : World} {b off n : Nat} {hs : List Hdr} (h : HdrS w (some ⟨b, off, none⟩) n hs) {k : Nat} (hk : k < n) : b < w.heap.size ∧ Row7 w b (off + k * 7) (hs.getD k default) ∧ (hs.getD k default).ok := by
  obtain ⟨hlt, hc⟩ := h.els.cell (by omega)
  exact ⟨hlt, ⟨hc k hk 0 (by omega), hc k hk 1 (by omega), hc k hk 2 (by omega), hc k hk 3 (by omega), hc k hk 4 (by omega), hc k hk 5 (by omega), hc k hk 6 (by omega)⟩, h.ok _ (getD_mem (by rw [h.els.len]; exact hk))⟩
set_option maxRecDepth 100000 in
set_option maxHeartbeats 2000000 in
theorem keys_any (mb : Option Nat) (w : World) : Calls Try.prog 52 #[.map mb] w fun e w' => e = .returned (.func (.func 87) #[] #[.pointer (some ⟨w.heap.size, 0, none⟩)]) ∧ w' = w.alloc (.cells #[.map mb] 73) := by
  go_enter Try.func52, Try.ntmps52
  go_wp2
  go_ret
  exact ⟨rfl, rfl⟩
theorem names_small (hs : List Hdr) : ∀ x ∈ names hs, x.length ≤ 3 := by
  intro x hx
  unfold names at hx
  obtain ⟨h, _, hx⟩ := List.mem_flatMap.1 hx
  unfold nam at hx
  split at hx
  · simp only [List.mem_cons, List.not_mem_nil, or_false] at hx
    rcases hx with rfl | rfl <;> (rw [List.length_take]; omega)
  · simp at hx
set_option maxRecDepth 100000 in
set_option maxHeartbeats 8000000 in
theorem best_some (A : Option Addr) (n c : Nat) (hs : List Hdr) (most : Int) (w : World) (hS : SortC) (hH : HdrS w A n hs) (hn : n ≤ 20) (h1 : 1 ≤ most) (h8 : most ≤ 8) :
    Calls Try.prog 29 #[.slice A n c, .int .i64 most] w fun e w' => ∃ A' n' c' L, e = .returned (.slice A' n' c') ∧ Ranked (names hs) L ∧ CtxS w' A' n' ((L.take most.toNat).map fun x => ⟨x.toArray⟩) ∧ Below w.heap.size w w' := by
  have hmm := @run_makeMap Try.prog
  have d1 : decide (most < 1) = false := by simpa using h1
  have d2 : decide (8 < most) = false := by simpa using h8
  replace hS := Lib.hid hS
  replace hH := Lib.hid hH
  go_enter Try.func29, Try.ntmps29
  go_wp2_with fail
  have hB0 := Lib.hid (bthen (below_alloc w (.map #[] 0)) (below_alloc _ (.cells #[.map (some w.heap.size)] 73)))
  have hM0 : Hid (OwnM ((w.alloc (.map #[] 0)).alloc (.cells #[.map (some w.heap.size)] 73)) w.heap.size 0 (.map [])) := Lib.hid ((World.ownsMap_made w Try.prog 9 (plainElem Try.prog 3)).alloc _)
  have hX0 := Lib.hid (Blk.new (w.alloc (.map #[] 0)) #[.map (some w.heap.size)] 73)
  rw [show (w.alloc (.map #[] 0)).heap.size = w.heap.size + 1 by simp] at hX0
  generalize (w.alloc (.map #[] 0)).alloc (.cells #[.map (some w.heap.size)] 73) = w0 at *
  go_loopw [7, 21] (fun _ i wr => ∃ (k : Nat) (D : Dt), k ≤ n ∧ i = .int .i64 k ∧ Hid (OwnM wr w.heap.size (2 * k) D) ∧ Hid (CountsD D (names (hs.take k))) ∧ Hid (Blk wr (w.heap.size + 1) #[.map (some w.heap.size)] 73) ∧ Hid (Below w.heap.size w wr)) (fun _ i _ => n - (intOf i).toNat)
  case atStart => exact ⟨0, .map [], Nat.zero_le _, rfl, hM0, Lib.hid counts_nil, hX0, hB0⟩
  case round =>
    obtain ⟨k, D, hk, rfl, hM, hD, hX, hB⟩ := hrel
    clear hM0 hX0 hB0
    by_cases hlt : k < n
    · obtain ⟨b, off, rfl⟩ := hH.out.els.addr (by omega)
      obtain ⟨hbl, hsv, hok⟩ := hH.out.seven hlt
      have hT := names_take hs (k := k) (by rw [hH.out.els.len]; exact hlt)
      generalize hs.getD k default = h at *
      have ck := fun W => check_any h W
      have hv := valid_sizes h
      unfold chk nam at *
      generalize valid h = V at *
      obtain ⟨cls, lim, src, dst, port, rep, len⟩ := h
      have hbw : b < w.heap.size := hbl
      obtain ⟨c0, c1, c2, c3, c4, c5, c6⟩ := hsv
      have k0 := (hB.out.cell (p := ⟨b, off + k * 7, none⟩) hbl).trans c0
      have k1 := (hB.out.cell (p := ⟨b, off + k * 7 + 1, none⟩) hbl).trans c1
      have k2 := (hB.out.cell (p := ⟨b, off + k * 7 + 2, none⟩) hbl).trans c2
      have k3 := (hB.out.cell (p := ⟨b, off + k * 7 + 3, none⟩) hbl).trans c3
      have k4 := (hB.out.cell (p := ⟨b, off + k * 7 + 4, none⟩) hbl).trans c4
      have k5 := (hB.out.cell (p := ⟨b, off + k * 7 + 5, none⟩) hbl).trans c5
      have k6 := (hB.out.cell (p := ⟨b, off + k * 7 + 6, none⟩) hbl).trans c6
      clear c0 c1 c2 c3 c4 c5 c6
      dsimp only at k0 k1 k2 k3 k4 k5 k6
      unfold hdrC at ck
      dsimp only at ck
      have kx := hX.out.cell 0
      replace hv := Lib.hid hv
      replace hT := Lib.hid hT
      replace hok := Lib.hid hok
      replace ck := Lib.hid ck
      replace hbl := Lib.hid hbl
      replace hbw := Lib.hid hbw
      replace kx := Lib.hid kx
      go_wp2_with fail
      have hM1 := Lib.hid (hM.out.keep (below_alloc wr (.cells #[.int .i64 cls, .int .i64 lim, .string src, .string dst, .int .i64 port, .int .i64 rep, .int .i64 len] 24)))
      have hX1 := Lib.hid (hX.out.alloc (.cells #[.int .i64 cls, .int .i64 lim, .string src, .string dst, .int .i64 port, .int .i64 rep, .int .i64 len] 24))
      have hB1 := Lib.hid (bthen hB.out (below_alloc wr (.cells #[.int .i64 cls, .int .i64 lim, .string src, .string dst, .int .i64 port, .int .i64 rep, .int .i64 len] 24)))
      have hY1 := Lib.hid (Blk.new wr #[.int .i64 cls, .int .i64 lim, .string src, .string dst, .int .i64 port, .int .i64 rep, .int .i64 len] 24)
      refine (ck.out _).mono ?_
      generalize wr.alloc (.cells #[.int .i64 cls, .int .i64 lim, .string src, .string dst, .int .i64 port, .int .i64 rep, .int .i64 len] 24) = w1 at *
      rintro e w2 ⟨rfl, hb⟩
      have hM2 := Lib.hid (hM1.out.keep hb)
      have hX2 := Lib.hid (hX1.out.keep hb)
      have hY2 := Lib.hid (hY1.out.keep hb)
      have hB2 := Lib.hid (bthen hB1.out hb)
      have hwB := hX.out.lt
      generalize wr.heap.size = Bx at *
      clear hb hM1 hX1 hY1 hB1 ck kx k0 k1 k2 k3 k4 k5 k6 hM hX hB
      cases V with
      | false =>
        go_wp2_with fail
        go_roundw
        case rel => exact ⟨k + 1, D, by omega, by go_num, by rw [show 2 * (k + 1) = 2 * k + 2 by omega]; exact Lib.hid (hM2.out.mono (by omega)), by rw [hT.out]; simpa using hD, hX2, hB2⟩
        case measure => simp [intOf]; omega
      | true =>
        obtain ⟨hs4, hd4⟩ := hv.out rfl
        have kx := hX2.out.cell 0
        have k2 := hY2.out.cell 2
        have hMd : Hid (OwnM w2.drew w.heap.size (2 * k) D) := Lib.hid (World.ownsMap.drew hM2.out)
        obtain ⟨c1, hr1, ha1, hw1⟩ := World.ownsMap.lookup_int hMd.out lawS Try.underlying73 Try.underlying3 (zeroI _) (key3 (s := src))
        obtain ⟨w3, hu1, hM3, hg3⟩ := World.ownsMap.update hMd.out lawS Try.underlying73 (by unfold maxLen; omega) (key3 (s := src)) (plainElem_int Try.underlying3 (wrap64_wf (c1 + 1)))
        have hs4i : (src.size : Int) = 4 := by omega
        replace hMd := Lib.hid hMd
        replace ha1 := Lib.hid ha1
        replace hw1 := Lib.hid hw1
        replace hM3 := Lib.hid hM3
        replace hg3 := Lib.hid hg3
        go_wp2_with fail
        go_region
        have hB3 := Lib.hid (hB2.out.drew.grown hg3.out hB2.out.size (fun j hj => by cases hj; exact Nat.le_refl _))
        have hX3 := Lib.hid (hX2.out.drew.grown hg3.out (by first | (simp; done) | (simp; omega)))
        have hY3 := Lib.hid (hY2.out.drew.grown hg3.out (by first | (simp; done) | (simp; omega)))
        have hl1 : (names (hs.take k)).length ≤ 40 := Nat.le_trans (names_length _) (by rw [List.length_take]; omega)
        have hD3 := Lib.hid (counts_put' hD.out _ (by omega) ha1.out)
        clear hM2 hX2 hY2 hB2 hMd hr1 hu1 hg3 kx k2 ha1 hw1 hD
        generalize D.put (.string (src.data.toList.take 3)) (.lit (.int .i64 (wrap64 (c1 + 1)))) = D3 at *
        have kx := hX3.out.cell 0
        have k3 := hY3.out.cell 3
        have hMd : Hid (OwnM w3.drew w.heap.size (2 * k + 1) D3) := Lib.hid (World.ownsMap.drew hM3.out)
        obtain ⟨c2, hr2, ha2, hw2⟩ := World.ownsMap.lookup_int hMd.out lawS Try.underlying73 Try.underlying3 (zeroI _) (key3 (s := dst))
        obtain ⟨w4, hu2, hM4, hg4⟩ := World.ownsMap.update hMd.out lawS Try.underlying73 (by unfold maxLen; omega) (key3 (s := dst)) (plainElem_int Try.underlying3 (wrap64_wf (c2 + 1)))
        have hd4i : (dst.size : Int) = 4 := by omega
        replace hMd := hMd.out
        replace hMd := Lib.hid hMd
        replace ha2 := Lib.hid ha2
        replace hw2 := Lib.hid hw2
        replace hM4 := Lib.hid hM4
        replace hg4 := Lib.hid hg4
        go_wp2_with fail
        go_region
        have hB4 := Lib.hid (hB3.out.drew.grown hg4.out hB3.out.size (fun j hj => by cases hj; exact Nat.le_refl _))
        have hX4 := Lib.hid (hX3.out.drew.grown hg4.out (by first | (simp; done) | (simp; omega)))
        have hD4 := Lib.hid (counts_put' hD3.out _ (by simp; omega) ha2.out)
        clear hMd hr2 hu2 hg4 kx k3 ha2 hw2 hD3 hX3 hY3 hB3 hM3
        generalize D3.put (.string (dst.data.toList.take 3)) (.lit (.int .i64 (wrap64 (c2 + 1)))) = D4 at *
        go_wp2_with fail
        go_roundw
        case rel => exact ⟨k + 1, D4, by omega, by go_num, by rw [show 2 * (k + 1) = 2 * k + 1 + 1 by omega]; exact hM4, by rw [hT.out]; simpa using hD4, hX4, hB4⟩
        case measure => simp [intOf]; omega
    · obtain rfl : k = n := by omega
      have kx := hX.out.cell 0
      have hlen := hH.out.els.len
      rw [List.take_of_length_le (by omega)] at hD
      have hns := names_small hs
      have hnl := names_length hs
      go_wp2_with fail
      refine (keys_any _ _).mono ?_
      rintro e w1 ⟨rfl, rfl⟩
      have cS := hS.out wr.heap.size (w.heap.size + 1) w.heap.size (2 * k) D (names hs) (wr.alloc (.cells #[.map (some w.heap.size)] 73)) ((Blk.new _ _ _).cell 0) ((hX.out.alloc _).cell 0) (by simp) ((hX.out.alloc _).lt) (hM.out.keep (below_alloc _ _)) hD.out (by omega) (fun x hx => Nat.le_trans (hns x hx) (by omega))
      have hB1 := Lib.hid (bthen hB.out (below_alloc wr (.cells #[.map (some w.heap.size)] 73)))
      unfold SortPost at cS
      generalize wr.alloc (.cells #[.map (some w.heap.size)] 73) = w1 at *
      generalize wr.heap.size = Bm at *
      obtain ⟨l, hl⟩ : ∃ l, l = names hs := ⟨_, rfl⟩
      rw [← hl] at cS hns hnl
      replace cS := Lib.hid cS
      replace hns := Lib.hid hns
      replace hl := Lib.hid hl
      clear hS hM hD hX hB kx hH hmm hlen
      go_wp2_with fail
      refine cS.out.mono ?_
      rintro e w2 ⟨v, L, rfl, hR, hown, hb⟩
      have hB2 := Lib.hid (bthen hB1.out hb)
      have hle : w.heap.size ≤ w1.heap.size := hB1.out.size
      obtain ⟨A2, c2, rfl⟩ := owns_slice hown
      obtain ⟨q, hq⟩ : ∃ q : Nat, q = min L.length most.toNat := ⟨_, rfl⟩
      have hmin : min (L.length : Int) most = (q : Int) := by omega
      have hqc : q ≤ c2 ∧ c2 ≤ maxLen := by
        rcases hown.2 with ⟨e, h0⟩ | ⟨g, cap, cur, e, _, _, h3, h4, _⟩
        · injection e; omega
        · injection e; omega
      have hqi : (q : Int) ≤ (c2 : Int) := by omega
      have hel : ∀ i, i < q → ∃ g, A2 = some ⟨g, 0, none⟩ ∧ w2.cell? ⟨g, i, none⟩ = some (encStr (L.getD i [])) := by
        intro i hi
        rcases hown.2 with ⟨e, h0⟩ | ⟨g, cap, cur, e, _⟩
        · omega
        · injection e with e1 e2 e3
          subst e1
          refine ⟨g, rfl, ?_⟩
          have := hown.cellAt i (by simp; omega)
          rw [this, List.getElem?_map, List.getElem?_eq_getElem (by omega), List.getD_eq_getElem?_getD, List.getElem?_eq_getElem (by omega)]
          rfl
      have hadd : A2.map (fun x => x.add 0) = A2 := by cases A2 <;> rfl
      unfold maxLen at hqc
      have hc2 : (c2 : Int) ≤ 9223372036854775807 := by omega
      have hlt2 : ∀ g, A2 = some ⟨g, 0, none⟩ → 0 < q → g < w2.heap.size := by
        intro g hg h0
        obtain ⟨g', e, hc⟩ := hel 0 h0
        rw [e] at hg
        injection hg with hg
        injection hg with hg
        subst hg
        exact World.block_lt_of_cell? w2 _ hc
      replace hR := Lib.hid hR
      replace hown := Lib.hid hown
      replace hel := Lib.hid hel
      replace hq := Lib.hid hq
      replace hlt2 := Lib.hid hlt2
      go_wp2_with fail
      obtain ⟨i0, hi, hz0, hz1, hz2⟩ := info_parts info_ctx
      replace hi := Lib.hid hi
      replace hz0 := Lib.hid hz0
      replace hz1 := Lib.hid hz1
      replace hz2 := Lib.hid hz2
      go_loopw [9, 11, 52] (fun o _ i wr => ∃ (j : Nat) (vO : Value), j ≤ q ∧ i = .int .i64 j ∧ vO = o ∧ Hid (wr.ownsRow w2.heap.size 26 1 vO j ((L.map encStr).take j)) ∧ Hid (Below w2.heap.size w2 wr)) (fun _ _ i _ => q - (intOf i).toNat)
      case atStart => exact ⟨0, _, Nat.zero_le _, rfl, rfl, Lib.hid (World.ownsRow_nil _ _ _ _), Lib.hid (Below.refl _ _)⟩
      case round =>
        obtain ⟨j, vO, hj, rfl, rfl, hO, hBr⟩ := hrel
        by_cases hlt : j < q
        · obtain ⟨g, rfl, hc⟩ := hel.out j hlt
          have hcj := (hBr.out.cell (p := ⟨g, j, none⟩) (hlt2.out g rfl (by omega))).trans hc
          unfold encStr at hcj
          have hLj : (L.map encStr).take (j + 1) = (L.map encStr).take j ++ [.string ⟨(L.getD j []).toArray⟩] := by
            have hjl : j < (L.map encStr).length := by rw [List.length_map]; omega
            rw [List.take_succ_eq_append_getElem hjl, List.getElem_map, List.getD_eq_getElem?_getD, List.getElem?_eq_getElem (by omega)]
            rfl
          obtain ⟨S, hS⟩ : ∃ S : ByteArray, S = ⟨(L.getD j []).toArray⟩ := ⟨_, rfl⟩
          rw [← hS] at hcj hLj
          have hoA := hO.out.alloc (.cells #[.string S] 26)
          replace hS := Lib.hid hS
          replace hLj := Lib.hid hLj
          replace hoA := Lib.hid hoA
          go_wp2_with (at_builtin; refine wpList_append_own _ rfl _ _ _ rfl w2.heap.size 26 i0 (.agg #[.string ⟨#[]⟩]) 1 16 Try.underlying22 hi.out hz0.out hz1.out hz2.out rfl (by decide) _ j _ rfl hoA.out ⟨wr.heap.size, 0, none⟩ 1 1 [.string S] rfl rfl (cell_one_new _ _ _) (by simp [Value.oneCell']) ?c1 ?c2 ?c3 ?_)
          try case c1 => unfold maxLen; omega
          try case c2 => omega
          try case c3 => have := hBr.out.size; simp; omega
          intro v' w4 hown4 hgrow4 _
          have hb4 := below_append (bthen hBr.out (below_alloc wr (.cells #[.string S] 26))) hoA.out hgrow4 (Nat.le_refl _)
          rw [← hLj.out] at hown4
          replace hown4 := Lib.hid hown4
          replace hgrow4 := Lib.hid hgrow4
          replace hb4 := Lib.hid hb4
          go_wp2_with fail
          go_roundw
          case rel => exact ⟨j + 1, v', by omega, by go_num, rfl, hown4, hb4⟩
          case measure => simp [intOf]; omega
        · obtain rfl : j = q := by omega
          obtain ⟨A3, c3, rfl⟩ := owns_slice hO.out
          have hBf := bthen hB2.out hBr.out
          have hfin : (L.map encStr).take j = ((L.take most.toNat).map fun x => (⟨x.toArray⟩ : ByteArray)).map Value.string := by
            rw [List.map_map, hq.out, ← List.map_take]
            congr 1
            have hm : min L.length most.toNat = L.length ∨ min L.length most.toNat = most.toNat := by omega
            rcases hm with h | h
            · rw [h, List.take_length, List.take_of_length_le (by omega)]
            · rw [h]
          have hO2 := hO.out
          rw [hfin] at hO2
          have hlf : ((L.take most.toNat).map fun x => (⟨x.toArray⟩ : ByteArray)).length = j := by rw [List.length_map, List.length_take, hq.out]; omega
          have hC := ctx_of_owns hO2 (fun p hp => by
            obtain ⟨x, hx, rfl⟩ := List.mem_map.1 hp
            have h3 := hns.out x ((hR.out.mem x).1 (List.mem_of_mem_take hx))
            show x.toArray.size ≤ maxLen
            unfold maxLen
            rw [List.size_toArray]
            omega)
          replace hC := Lib.hid hC
          replace hBf := Lib.hid hBf
          replace hfin := Lib.hid hfin
          replace hO2 := Lib.hid hO2
          replace hlf := Lib.hid hlf
          go_wp2_with fail
          go_ret
          exact ⟨A3, j, c3, L, rfl, hl.out ▸ hR.out, hC.out, hBf.out⟩
set_option maxRecDepth 100000 in
set_option maxHeartbeats 4000000 in
theorem best_none (A : Option Addr) (n c : Nat) (most : Int) (w : World) (hm : ¬ (1 ≤ most ∧ most ≤ 8)) :
    Calls Try.prog 29 #[.slice A n c, .int .i64 most] w fun e w' => e = .returned (.slice none 0 0) ∧ Below w.heap.size w w' := by
  have hmm := @run_makeMap Try.prog
  by_cases h1 : most < 1
  · go_enter Try.func29, Try.ntmps29
    go_wp2_with fail
    go_ret
    exact ⟨rfl, Below.refl _ _⟩
  · have h8 : 8 < most := by omega
    go_enter Try.func29, Try.ntmps29
    go_wp2_with fail
    go_ret
    exact ⟨rfl, Below.refl _ _⟩
end Cp
end Go.Proofs.Ytgdkehnakopnnaa
