/- The reference's Best, walked. -/
import Derived.Test.YtgdkehnakopnnaaCpB3
import Derived.Laws.OwnMore
import Derived.Maps.AppendAt
namespace Go.Proofs.Ytgdkehnakopnnaa
open Go Go.RowKit Go.Sort Go.Maps Go.WideMaps
namespace Cp
open Mm
theorem rows_ne {w : World} {b1 b2 s1 s2 n1 n2 : Nat} {e1 e2 : TypeId} {v1 v2 : Value} {xs1 xs2 : List Value} (h1 : w.ownsRow b1 e1 s1 v1 n1 xs1) (h2 : w.ownsRow b2 e2 s2 v2 n2 xs2) (hne : e1 ≠ e2) : v1.ownBlock = none ∨ v1.ownBlock ≠ v2.ownBlock := by
  rcases h1.2 with ⟨rfl, _⟩ | ⟨g1, c1, cur1, rfl, _, hg1, _⟩
  · exact .inl rfl
  · refine .inr fun e => ?_
    rcases h2.2 with ⟨rfl, _⟩ | ⟨g2, c2, cur2, rfl, _, hg2, _⟩
    · simp [Value.ownBlock] at e
    · simp only [Value.ownBlock, Option.some.injEq] at e
      subst e
      rw [hg1] at hg2
      injection hg2 with hg2
      injection hg2 with _ h
      exact hne h
theorem own_cell {w : World} {base e n : Nat} {A : Option Addr} {c : Nat} {xs : List Value} (h : w.ownsRow base e 1 (.slice A n c) n xs) {j : Nat} (hj : j < n) : ∃ g, A = some ⟨g, 0, none⟩ ∧ base ≤ g ∧ g < w.heap.size ∧ w.cell? ⟨g, j, none⟩ = xs[j]? ∧ w.frozen? ⟨g, j, none⟩ = false := by
  rcases h.2 with ⟨e, h0⟩ | ⟨g, cap, cur, e, hb, hg, _⟩
  · omega
  · injection e with e1 e2 e3
    subst e1
    exact ⟨g, rfl, hb, (Array.getElem?_eq_some_iff.1 hg).1, h.cellAt j (by omega), h.frozenAt j⟩
theorem row_ne_blk {w : World} {b e s n B : Nat} {t : TypeId} {v : Value} {xs : List Value} {C : Array Value} (h : w.ownsRow b e s v n xs) (k : Blk w B C t) (hne : e ≠ t) : v.ownBlock ≠ some B := by
  rcases h.2 with ⟨rfl, _⟩ | ⟨g, c, cur, rfl, _, hg, _⟩
  · simp [Value.ownBlock]
  · intro e2
    simp only [Value.ownBlock, Option.some.injEq] at e2
    subst e2
    rw [k.at_] at hg
    injection hg with hg
    injection hg with _ h
    exact hne h.symm
theorem info_str : (Try.prog.info? 9).map (fun i => (i.zero, i.size, i.bytes)) = some (some (.string ⟨#[]⟩), 1, 16) := by kernel_rfl
theorem info_int : (Try.prog.info? 3).map (fun i => (i.zero, i.size, i.bytes)) = some (some (.int .i64 0), 1, 8) := by kernel_rfl
def ctab (N : List Nm) (f : Nm → Nat) : List Value := N.map fun x => .int .i64 (f x : Int)
structure Tab (w wr : World) (vO vN vC : Value) (pre : List Nm) : Prop where
  O : wr.ownsRow w.heap.size 26 1 vO 0 []
  N : wr.ownsRow w.heap.size 9 1 vN (nub pre).length ((nub pre).map encStr)
  C : wr.ownsRow w.heap.size 3 1 vC (nub pre).length (ctab (nub pre) fun x => pre.count x)
  B : Below w.heap.size w wr
theorem owns_keep {w w' : World} {base e size n : Nat} {v : Value} {xs : List Value} (h : w.ownsRow base e size v n xs) (hb : Below w.heap.size w w') : w'.ownsRow base e size v n xs := by
  refine ⟨h.1, ?_⟩
  rcases h.2 with h2 | ⟨g, cap, cur, e1, h3, h4, h5⟩
  · exact .inl h2
  · refine .inr ⟨g, cap, cur, e1, h3, ?_, h5⟩
    rw [hb.block g (Array.getElem?_eq_some_iff.1 h4).1]; exact h4
theorem Tab.keep {w wr w2 : World} {vO vN vC : Value} {pre : List Nm} (h : Tab w wr vO vN vC pre) (hb : Below wr.heap.size wr w2) : Tab w w2 vO vN vC pre := ⟨owns_keep h.O hb, owns_keep h.N hb, owns_keep h.C hb, bthen h.B hb⟩
theorem ctab_set {N : List Nm} (hN : N.Nodup) {f f' : Nm → Nat} {m : Nat} (hm : m < N.length) (hf : ∀ x, x ≠ N[m] → f' x = f x) : (ctab N f).set m (.int .i64 (f' N[m] : Int)) = ctab N f' := by
  unfold ctab
  apply List.ext_getElem
  · simp
  · intro i h1 h2
    simp only [List.length_set, List.length_map] at h1
    rw [List.getElem_set, List.getElem_map, List.getElem_map]
    by_cases e : m = i
    · subst e; simp
    · rw [if_neg e, hf _ (fun h => e ((List.getElem_inj hN (h₀ := h1) (h₁ := hm)).1 h).symm)]
theorem count_snoc (pre : List Nm) (a x : Nm) : (pre ++ [a]).count x = pre.count x + if x = a then 1 else 0 := by
  rw [List.count_append]
  by_cases h : x = a
  · subst h; simp
  · simp [h, Ne.symm h]
/-- the name stands in the table already -/
theorem tab_old {pre : List Nm} {a : Nm} {m : Nat} (hm : m < (nub pre).length) (ha : (nub pre)[m] = a) : nub (pre ++ [a]) = nub pre ∧ (ctab (nub pre) fun x => pre.count x).set m (.int .i64 ((pre.count a : Int) + 1)) = ctab (nub (pre ++ [a])) fun x => (pre ++ [a]).count x := by
  have e1 : nub (pre ++ [a]) = nub pre := by
    rw [nub_snoc]; unfold addN
    rw [if_pos (by rw [← ha]; exact List.getElem_mem hm)]
  refine ⟨e1, ?_⟩
  have h := ctab_set (f := fun x => pre.count x) (f' := fun x => (pre ++ [a]).count x) (nub_nodup pre) hm (fun x hx => by show List.count x (pre ++ [a]) = _; rw [count_snoc, if_neg (by rw [← ha]; exact hx)]; rfl)
  rw [e1, ← h, ha]
  show _ = (ctab (nub pre) fun x => pre.count x).set m (Value.int .i64 ((List.count a (pre ++ [a]) : Nat) : Int))
  rw [count_snoc, if_pos rfl]
  rfl
/-- the name is new -/
theorem tab_new {pre : List Nm} {a : Nm} (ha : a ∉ nub pre) : nub (pre ++ [a]) = nub pre ++ [a] ∧ ((ctab (nub pre) fun x => pre.count x) ++ [Value.int .i64 0]).set (nub pre).length (Value.int .i64 1) = ctab (nub (pre ++ [a])) fun x => (pre ++ [a]).count x := by
  have e1 : nub (pre ++ [a]) = nub pre ++ [a] := by rw [nub_snoc]; unfold addN; rw [if_neg ha]
  refine ⟨e1, ?_⟩
  have h0 : pre.count a = 0 := List.count_eq_zero.2 (fun h => ha ((nub_mem pre a).2 h))
  rw [e1]
  unfold ctab
  rw [List.map_append, List.set_append_right _ _ (by rw [List.length_map]; exact Nat.le_refl _), List.length_map, Nat.sub_self]
  congr 1
  · refine List.map_congr_left fun x hx => ?_
    show Value.int .i64 ((List.count x pre : Nat) : Int) = Value.int .i64 ((List.count x (pre ++ [a]) : Nat) : Int)
    rw [count_snoc, if_neg (fun (h : x = a) => ha (h ▸ hx))]
    rfl
  · simp [h0]
def lenV : Value → Nat
  | .slice _ n _ => n
  | _ => 0
structure Sel (w wr : World) (vO vN vC : Value) (l L : List Nm) (j : Nat) : Prop where
  O : wr.ownsRow w.heap.size 26 1 vO j ((L.map encStr).take j)
  N : wr.ownsRow w.heap.size 9 1 vN (nub l).length ((nub l).map encStr)
  C : wr.ownsRow w.heap.size 3 1 vC (nub l).length (ctab (nub l) fun x => if x ∈ L.take j then 0 else l.count x)
  B : Below w.heap.size w wr
theorem Sel.keep {w wr w2 : World} {vO vN vC : Value} {l L : List Nm} {j : Nat} (h : Sel w wr vO vN vC l L j) (hb : Below wr.heap.size wr w2) : Sel w w2 vO vN vC l L j := ⟨owns_keep h.O hb, owns_keep h.N hb, owns_keep h.C hb, bthen h.B hb⟩
theorem fin_ctx {w : World} {base j c m : Nat} {A : Option Addr} {L : List Nm} (h : w.ownsRow base 26 1 (.slice A j c) j ((L.map encStr).take j)) (e : L.take j = L.take m) (hs : ∀ x ∈ L, x.length ≤ 100) : CtxS w A j ((L.take m).map fun x => ⟨x.toArray⟩) := by
  have e2 : (L.map encStr).take j = ((L.take m).map fun x => (⟨x.toArray⟩ : ByteArray)).map Value.string := by
    rw [← List.map_take, e, List.map_map]; rfl
  rw [e2] at h
  refine ctx_of_owns h (fun p hp => ?_)
  obtain ⟨x, hx, rfl⟩ := List.mem_map.1 hp
  have h3 := hs x (List.mem_of_mem_take hx)
  show x.toArray.size ≤ maxLen
  unfold maxLen
  rw [List.size_toArray]
  omega
def BestIs (l T : List Nm) (t : Nat) (b : Int) : Prop :=
  (b = -1 ∧ ∀ i (h : i < (nub l).length), i < t → (nub l)[i] ∈ T) ∨
  ∃ m : Nat, b = (m : Int) ∧ m < t ∧ ∃ hm : m < (nub l).length, (nub l)[m] ∉ T ∧ ∀ i (h : i < (nub l).length), i < t → i ≠ m → (nub l)[i] ∉ T → ltN l (nub l)[m] (nub l)[i]
theorem BestIs.skip {l T : List Nm} {t : Nat} {b : Int} (h : BestIs l T t b) (ht : t < (nub l).length) (hx : (nub l)[t] ∈ T ∨ ∃ m : Nat, b = (m : Int) ∧ ∃ hm : m < (nub l).length, ltN l (nub l)[m] (nub l)[t]) : BestIs l T (t + 1) b := by
  rcases h with ⟨rfl, h⟩ | ⟨m, rfl, hmt, hm, hn, h⟩
  · rcases hx with hx | ⟨m, e, _⟩
    · refine .inl ⟨rfl, fun i hi hit => ?_⟩
      rcases (by omega : i < t ∨ i = t) with h1 | rfl
      · exact h i hi h1
      · exact hx
    · omega
  · refine .inr ⟨m, rfl, by omega, hm, hn, fun i hi hit hne hni => ?_⟩
    rcases (by omega : i < t ∨ i = t) with h1 | rfl
    · exact h i hi h1 hne hni
    · rcases hx with hx | ⟨m2, e, hm2, hlt⟩
      · exact absurd hx hni
      · obtain rfl : m = m2 := by omega
        exact hlt
theorem BestIs.take {l T : List Nm} {t : Nat} {b : Int} (h : BestIs l T t b) (ht : t < (nub l).length) (hx : (nub l)[t] ∉ T) (hb : b = -1 ∨ ∃ m : Nat, b = (m : Int) ∧ ∃ hm : m < (nub l).length, ltN l (nub l)[t] (nub l)[m]) : BestIs l T (t + 1) t := by
  refine .inr ⟨t, rfl, by omega, ht, hx, fun i hi hit hne hni => ?_⟩
  have hit2 : i < t := by omega
  rcases h with ⟨rfl, h⟩ | ⟨m, rfl, hmt, hm, hn, h⟩
  · exact absurd (h i hi hit2) hni
  · rcases hb with hb | ⟨m2, e, hm2, hlt⟩
    · omega
    · obtain rfl : m = m2 := by omega
      by_cases him : i = m
      · subst him; exact hlt
      · exact ltN_trans hlt (h i hi hit2 him hni)
set_option maxRecDepth 100000 in
set_option maxHeartbeats 8000000 in
theorem rbest_some (A : Option Addr) (n c : Nat) (hs : List Hdr) (most : Int) (L : List Nm) (w : World) (hL : Ranked (names hs) L) (hH : HdrS w A n hs) (hn : n ≤ 20) (h1 : 1 ≤ most) (h8 : most ≤ 8) :
    Calls Try.prog 31 #[.slice A n c, .int .i64 most] w fun e w' => ∃ A' n' c', e = .returned (.slice A' n' c') ∧ CtxS w' A' n' ((L.take most.toNat).map fun x => ⟨x.toArray⟩) ∧ Below w.heap.size w w' := by
  have d1 : decide (most < 1) = false := by simpa using h1
  have d2 : decide (8 < most) = false := by simpa using h8
  replace hL := Lib.hid hL
  replace hH := Lib.hid hH
  go_enter Try.func31, Try.ntmps31
  go_wp2_with fail
  have hT0 : Hid (Tab w (((w.alloc (.cells #[] 26)).alloc (.cells #[] 9)).alloc (.cells #[] 3)) (.slice (some ⟨w.heap.size, 0, none⟩) 0 0) (.slice (some ⟨w.heap.size + 1, 0, none⟩) 0 0) (.slice (some ⟨w.heap.size + 1 + 1, 0, none⟩) 0 0) []) := Lib.hid (by
    have h1 := World.ownsRow_made (base := w.heap.size) (e := 26) (size := 1) w #[] 0 (Nat.le_refl _) (by decide) rfl
    have h2 := World.ownsRow_made (base := w.heap.size) (e := 9) (size := 1) (w.alloc (.cells #[] 26)) #[] 0 (by simp) (by decide) rfl
    have h3 := World.ownsRow_made (base := w.heap.size) (e := 3) (size := 1) ((w.alloc (.cells #[] 26)).alloc (.cells #[] 9)) #[] 0 (by simp; omega) (by decide) rfl
    have b1 := below_alloc w (.cells #[] 26)
    have b2 := below_alloc (w.alloc (.cells #[] 26)) (.cells #[] 9)
    have b3 := below_alloc ((w.alloc (.cells #[] 26)).alloc (.cells #[] 9)) (.cells #[] 3)
    have o1 := owns_keep (owns_keep h1 b2) b3
    have o2 := owns_keep h2 b3
    rw [show (w.alloc (.cells #[] 26)).heap.size = w.heap.size + 1 by simp] at o2
    rw [show ((w.alloc (.cells #[] 26)).alloc (.cells #[] 9)).heap.size = w.heap.size + 1 + 1 by simp] at h3
    exact ⟨o1, o2, h3, bthen (bthen b1 b2) b3⟩)
  generalize ((w.alloc (.cells #[] 26)).alloc (.cells #[] 9)).alloc (.cells #[] 3) = w0 at *
  generalize (.slice (some ⟨w.heap.size, 0, none⟩) 0 0 : Value) = vO at *
  generalize (.slice (some ⟨w.heap.size + 1, 0, none⟩) 0 0 : Value) = vN0 at *
  generalize (.slice (some ⟨w.heap.size + 1 + 1, 0, none⟩) 0 0 : Value) = vC0 at *
  go_loopw [6, 7, 8] (fun N C i wr => ∃ k : Nat, k ≤ n ∧ i = .int .i64 k ∧ Hid (Tab w wr vO N C (names (hs.take k)))) (fun _ _ i _ => n - (intOf i).toNat)
  case atStart => exact ⟨0, Nat.zero_le _, rfl, hT0⟩
  case round =>
    obtain ⟨k, hk, rfl, hT⟩ := hrel
    clear hT0
    by_cases hlt : k < n
    · obtain ⟨b, off, rfl⟩ := hH.out.els.addr (by omega)
      obtain ⟨hbl, hsv, hok⟩ := hH.out.seven hlt
      have hTk := names_take hs (k := k) (by rw [hH.out.els.len]; exact hlt)
      generalize hs.getD k default = h at *
      have ck := fun W => rcheck_any h W
      have hv := valid_sizes h
      unfold chk nam at *
      generalize valid h = V at *
      obtain ⟨cls, lim, src, dst, port, rep, len⟩ := h
      obtain ⟨c0, c1, c2, c3, c4, c5, c6⟩ := hsv
      have k0 := (hT.out.B.cell (p := ⟨b, off + k * 7, none⟩) hbl).trans c0
      have k1 := (hT.out.B.cell (p := ⟨b, off + k * 7 + 1, none⟩) hbl).trans c1
      have k2 := (hT.out.B.cell (p := ⟨b, off + k * 7 + 2, none⟩) hbl).trans c2
      have k3 := (hT.out.B.cell (p := ⟨b, off + k * 7 + 3, none⟩) hbl).trans c3
      have k4 := (hT.out.B.cell (p := ⟨b, off + k * 7 + 4, none⟩) hbl).trans c4
      have k5 := (hT.out.B.cell (p := ⟨b, off + k * 7 + 5, none⟩) hbl).trans c5
      have k6 := (hT.out.B.cell (p := ⟨b, off + k * 7 + 6, none⟩) hbl).trans c6
      dsimp only at k0 k1 k2 k3 k4 k5 k6 c2 c3
      unfold hdrC at ck
      dsimp only at ck
      replace hv := Lib.hid hv
      replace hTk := Lib.hid hTk
      replace hok := Lib.hid hok
      replace ck := Lib.hid ck
      replace c2 := Lib.hid c2
      replace c3 := Lib.hid c3
      go_wp2_with fail
      refine (ck.out _).mono ?_
      rintro e w2 ⟨rfl, hb⟩
      have hT2 := Lib.hid (hT.out.keep hb)
      have hlt2 := hT.out.B.size
      clear hb ck k0 k1 k2 k3 k4 k5 k6 c0 c1 c4 c5 c6 hT
      cases V with
      | false =>
        go_wp2_with fail
        go_roundw
        case rel => exact ⟨k + 1, by omega, by go_num, by rw [hTk.out]; simpa using hT2⟩
        case measure => simp [intOf]; omega
      | true =>
        obtain ⟨hs4, hd4⟩ := hv.out rfl
        have hs4i : (src.size : Int) = 4 := by omega
        have hd4i : (dst.size : Int) = 4 := by omega
        have k2 := (hT2.out.B.cell (p := ⟨b, off + k * 7 + 2, none⟩) hbl).trans c2.out
        have k3 := (hT2.out.B.cell (p := ⟨b, off + k * 7 + 3, none⟩) hbl).trans c3.out
        clear c2 c3
        go_wp2_with fail
        go_region
        obtain ⟨w3, hw3⟩ : ∃ w3, w3 = (w2.alloc (.cells #[.string (src.extract 0 3), .string (dst.extract 0 3)] 9)).drew := ⟨_, rfl⟩
        have hb3 : Below w2.heap.size w2 w3 := by rw [hw3]; exact (below_alloc w2 _).drew
        have hT3 := Lib.hid (hT2.out.keep hb3)
        have hY3 : Hid (Blk w3 w2.heap.size #[.string (src.extract 0 3), .string (dst.extract 0 3)] 9) := Lib.hid (by rw [hw3]; exact (Blk.new w2 _ _).drew)
        have hZ3 : Hid (u6.ownBlock ≠ some w2.heap.size) := Lib.hid (fun e => by have := (hT2.out.N.lt _ e).2; omega)
        rw [← hw3]
        have e0 : (src.extract 0 3).data.toList = src.data.toList.take 3 := by simp [ByteArray.data_extract]
        have e1 : (dst.extract 0 3).data.toList = dst.data.toList.take 3 := by simp [ByteArray.data_extract]
        have hTk2 : Hid (names (hs.take (k + 1)) = names (hs.take k) ++ [(src.extract 0 3).data.toList, (dst.extract 0 3).data.toList]) := Lib.hid (by rw [hTk.out, if_pos trivial, e0, e1])
        have hsn : Hid ((names (hs.take k)).length ≤ 40) := Lib.hid (Nat.le_trans (names_length _) (by rw [List.length_take]; omega))
        generalize src.extract 0 3 = s0 at *
        generalize dst.extract 0 3 = s1 at *
        generalize names (hs.take k) = pre at *
        generalize w2.heap.size = Bc at *
        clear hw3 hb3 hT2 hTk hv k2 k3 e0 e1 hlt2
        go_wp2_with fail
        go_loopw [6, 7, 50] (fun N C i wr => ∃ j : Nat, j ≤ 2 ∧ i = .int .i64 j ∧ Hid (Tab w wr vO N C (pre ++ [s0.data.toList, s1.data.toList].take j)) ∧ Hid (Blk wr Bc #[.string s0, .string s1] 9) ∧ Hid (N.ownBlock ≠ some Bc)) (fun _ _ i _ => 2 - (intOf i).toNat)
        case atStart => exact ⟨0, by omega, rfl, by simpa using hT3, hY3, hZ3⟩
        case round =>
          obtain ⟨j, hj, rfl, hT, hY, hZ⟩ := hrel
          clear hT3 hY3 hZ3
          by_cases hj2 : j < 2
          · obtain ⟨a, hca, hta⟩ : ∃ a : ByteArray, wr.cell? ⟨Bc, j, none⟩ = some (.string a) ∧ [s0.data.toList, s1.data.toList].take (j + 1) = [s0.data.toList, s1.data.toList].take j ++ [a.data.toList] := by
              rcases (by omega : j = 0 ∨ j = 1) with rfl | rfl
              · exact ⟨s0, hY.out.cell 0, rfl⟩
              · exact ⟨s1, hY.out.cell 1, rfl⟩
            have hPl : (pre ++ [s0.data.toList, s1.data.toList].take j).length ≤ 42 := by have := hsn.out; simp; omega
            have hPs : pre ++ [s0.data.toList, s1.data.toList].take (j + 1) = (pre ++ [s0.data.toList, s1.data.toList].take j) ++ [a.data.toList] := by rw [hta, List.append_assoc]
            have hnl := nub_length (pre ++ [s0.data.toList, s1.data.toList].take j)
            generalize pre ++ [s0.data.toList, s1.data.toList].take j = P at *
            replace hPs := Lib.hid hPs
            replace hta := Lib.hid hta
            replace hPl := Lib.hid hPl
            obtain ⟨AN, cN, rfl⟩ := owns_slice hT.out.N
            obtain ⟨AC, cC, rfl⟩ := owns_slice hT.out.C
            have hN := hT.out.N
            replace hN := Lib.hid hN
            go_wp2_with fail
            have hnl42 : (nub P).length ≤ 42 := Nat.le_trans hnl hPl.out
            go_loopw [11] (fun m wx => ∃ t : Nat, t ≤ (nub P).length ∧ m = .int .i64 t ∧ wx = wr ∧ Hid (∀ i, i < t → (nub P)[i]? ≠ some a.data.toList)) (fun m _ => (nub P).length - (intOf m).toNat)
            case atStart => exact ⟨0, Nat.zero_le _, rfl, rfl, Lib.hid (fun i hi => by omega)⟩
            case round =>
              obtain ⟨t, ht, rfl, rfl, hall⟩ := hrel
              by_cases htl : t < (nub P).length
              · obtain ⟨g, rfl, hgb, hgl, hgc, _⟩ := own_cell hN.out htl
                rw [List.getElem?_map, List.getElem?_eq_getElem htl] at hgc
                obtain ⟨S, hS⟩ : ∃ S : ByteArray, S = ⟨((nub P)[t]).toArray⟩ := ⟨_, rfl⟩
                have hSx : S.data.toList = (nub P)[t] := by rw [hS]
                have hgc2 : _ = some (Value.string S) := hgc.trans (by rw [hS]; rfl)
                clear hgc
                by_cases he : (nub P)[t] = a.data.toList
                · have dB : (S.toList == a.toList) = true := by rw [beq_iff_eq, Lib.toList_data, Lib.toList_data, hSx]; exact he
                  have dC : (S.toList != a.toList) = false := by unfold bne; rw [dB]; rfl
                  obtain ⟨hn1, hn2⟩ := tab_old (pre := P) htl he
                  have hC := hT.out.C
                  obtain ⟨gC, rfl, hgbC, hglC, hgcC, hgfC⟩ := own_cell hC htl
                  have hcv : (ctab (nub P) fun x => P.count x)[t]? = some (.int .i64 (P.count a.data.toList : Int)) := by
                    unfold ctab
                    rw [List.getElem?_map, List.getElem?_eq_getElem htl, he]
                    rfl
                  rw [hcv] at hgcC
                  have hcm : P.count a.data.toList ≤ 42 := Nat.le_trans List.count_le_length hPl.out
                  have hw1 : wrap64 ((P.count a.data.toList : Int) + 1) = (P.count a.data.toList : Int) + 1 := by unfold wrap64; omega
                  obtain ⟨hC6, hg6⟩ := hC.stored t (.int .i64 ((P.count a.data.toList : Int) + 1))
                  rw [hn2] at hC6
                  have hN6 := hT.out.N.kept hg6 (rows_ne hT.out.N hC (by decide))
                  have hO6 := hT.out.O.kept hg6 (rows_ne hT.out.O hC (by decide))
                  have hY6 := hY.out.grown hg6 (row_ne_blk hC hY.out (by decide))
                  have hB6 := hT.out.B.grown hg6 hT.out.B.size (fun k hk => by cases hk; exact hgbC)
                  have hti : (t : Int) < ((nub P).length : Int) := by omega
                  generalize P.count a.data.toList = ct at *
                  clear hg6 hC hcv
                  replace hSx := Lib.hid hSx
                  replace hS := Lib.hid hS
                  replace he := Lib.hid he
                  replace hC6 := Lib.hid hC6
                  replace hN6 := Lib.hid hN6
                  replace hO6 := Lib.hid hO6
                  replace hY6 := Lib.hid hY6
                  replace hB6 := Lib.hid hB6
                  replace hn1 := Lib.hid hn1
                  replace hn2 := Lib.hid hn2
                  replace hcm := Lib.hid hcm
                  go_wp2_with fail
                  refine ⟨⟨j + 1, by omega, by go_num, Lib.hid ?_, hY6, hZ⟩, by simp [intOf]; omega⟩
                  rw [hPs.out]
                  exact ⟨hO6.out, by rw [hn1.out]; exact hN6.out, by have h := hC6.out; rw [hn1.out] at h ⊢; exact h, hB6.out⟩
                · have dB : (S.toList == a.toList) = false := by rw [beq_eq_false_iff_ne, Lib.toList_data, Lib.toList_data, hSx]; exact he
                  have dC : (S.toList != a.toList) = true := by unfold bne; rw [dB]; rfl
                  replace hSx := Lib.hid hSx
                  replace hS := Lib.hid hS
                  replace he := Lib.hid he
                  go_wp2_with fail
                  refine ⟨⟨t + 1, by omega, by go_num, trivial, Lib.hid (fun i hi => ?_)⟩, by simp [intOf]; omega⟩
                  rcases Nat.lt_or_ge i t with h | h
                  · exact hall.out i h
                  · obtain rfl : i = t := by omega
                    rw [List.getElem?_eq_getElem htl]
                    exact fun h => he.out (Option.some.inj h)
              · obtain rfl : t = (nub P).length := by omega
                have hnew : a.data.toList ∉ nub P := fun h => by
                  obtain ⟨i, hi, e⟩ := List.mem_iff_getElem.1 h
                  exact hall.out i hi (by rw [List.getElem?_eq_getElem hi, e])
                obtain ⟨hn1, hn2⟩ := tab_new hnew
                obtain ⟨iS, hiS, hzS0, hzS1, hzS2⟩ := info_parts info_str
                obtain ⟨iI, hiI, hzI0, hzI1, hzI2⟩ := info_parts info_int
                have hoN := hT.out.N.alloc (.cells #[.string a] 9)
                have hbN := bthen hT.out.B (below_alloc wr (.cells #[.string a] 9))
                have hoC := hT.out.C.alloc (.cells #[.string a] 9)
                have hoO := hT.out.O.alloc (.cells #[.string a] 9)
                have hoY := hY.out.alloc (.cells #[.string a] 9)
                have hYl := hY.out.lt
                have hsz := hT.out.B.size
                replace hiS := Lib.hid hiS
                replace hzS0 := Lib.hid hzS0
                replace hzS1 := Lib.hid hzS1
                replace hzS2 := Lib.hid hzS2
                replace hiI := Lib.hid hiI
                replace hzI0 := Lib.hid hzI0
                replace hzI1 := Lib.hid hzI1
                replace hzI2 := Lib.hid hzI2
                replace hoN := Lib.hid hoN
                replace hbN := Lib.hid hbN
                replace hoC := Lib.hid hoC
                replace hoO := Lib.hid hoO
                replace hoY := Lib.hid hoY
                replace hn1 := Lib.hid hn1
                replace hn2 := Lib.hid hn2
                replace hnew := Lib.hid hnew
                go_wp2_with (at_builtin; refine wpList_append_own_at _ rfl _ _ _ rfl w.heap.size 9 iS (.string ⟨#[]⟩) 1 16 Try.underlying74 hiS.out hzS0.out hzS1.out hzS2.out rfl (by decide) _ (nub P).length _ rfl hoN.out ⟨wr.heap.size, 0, none⟩ 1 1 [.string a] rfl rfl (cell_one_new _ _ _) (by simp [Value.oneCell']) ?c1 ?c2 ?c3 ?_)
                try case c1 => unfold maxLen; omega
                try case c2 => omega
                try case c3 => simp; omega
                intro vN w4 hN4 hg4 _ hat4
                have hB4 := below_append hbN.out hoN.out hg4 (Nat.le_refl _)
                have hC4 := hoC.out.kept hg4 (rows_ne hoC.out hoN.out (by decide))
                have hO4 := hoO.out.kept hg4 (rows_ne hoO.out hoN.out (by decide))
                have hY4 := hoY.out.grown hg4 hZ.out
                have hZ4 : vN.ownBlock ≠ some Bc := by
                  rcases hat4 with h | h
                  · rw [h]; exact hZ.out
                  · rw [h]; simp; omega
                have hNc : w4.ownsRow w.heap.size 9 1 vN (nub (P ++ [a.data.toList])).length ((nub (P ++ [a.data.toList])).map encStr) := by
                  rw [hn1.out, List.length_append, List.map_append]
                  have e : encStr a.data.toList = .string a := by simp [encStr]
                  rw [List.map_cons, e]
                  exact hN4
                have hNa := hNc.alloc (.cells #[.int .i64 0] 3)
                have hCa := hC4.alloc (.cells #[.int .i64 0] 3)
                have hOa := hO4.alloc (.cells #[.int .i64 0] 3)
                have hYa := hY4.alloc (.cells #[.int .i64 0] 3)
                have hBa := bthen hB4 (below_alloc w4 (.cells #[.int .i64 0] 3))
                have hsz4 := hB4.size
                clear hN4 hC4 hO4 hY4 hNc hoN hbN hoC hoO hoY hat4 hg4 hB4
                replace hNa := Lib.hid hNa
                replace hCa := Lib.hid hCa
                replace hOa := Lib.hid hOa
                replace hYa := Lib.hid hYa
                replace hBa := Lib.hid hBa
                replace hZ4 := Lib.hid hZ4
                go_wp2_with (at_builtin; refine wpList_append_own _ rfl _ _ _ rfl w.heap.size 3 iI (.int .i64 0) 1 8 Try.underlying82 hiI.out hzI0.out hzI1.out hzI2.out rfl (by decide) _ (nub P).length _ rfl hCa.out ⟨w4.heap.size, 0, none⟩ 1 1 [.int .i64 0] rfl rfl (cell_one_new _ _ _) (by simp [Value.oneCell']) ?c1 ?c2 ?c3 ?_)
                try case c1 => unfold maxLen; omega
                try case c2 => omega
                try case c3 => simp; omega
                intro vC w5 hC5 hg5 _
                have hB5 := below_append hBa.out hCa.out hg5 (Nat.le_refl _)
                have hN5 := hNa.out.kept hg5 (rows_ne hNa.out hCa.out (by decide))
                have hO5 := hOa.out.kept hg5 (rows_ne hOa.out hCa.out (by decide))
                have hY5 := hYa.out.grown hg5 (row_ne_blk hCa.out hYa.out (by decide))
                obtain ⟨A5, c5, rfl⟩ := owns_slice hC5
                obtain ⟨g5, rfl, hgb5, hgl5, hgc5, hgf5⟩ := own_cell hC5 (j := (nub P).length) (by omega)
                have hcl : (ctab (nub P) fun x => P.count x).length = (nub P).length := by unfold ctab; rw [List.length_map]
                rw [List.getElem?_append_right (by omega), hcl, Nat.sub_self] at hgc5
                obtain ⟨hC6, hg6⟩ := hC5.stored (nub P).length (.int .i64 1)
                rw [hn2.out] at hC6
                have hi1 : (0 : Int) ≤ ((nub P).length : Int) := by omega
                have hi2 : ((nub P).length : Int) < (((nub P).length + 1 : Nat) : Int) := by omega
                have hN6 := hN5.kept hg6 (rows_ne hN5 hC5 (by decide))
                have hO6 := hO5.kept hg6 (rows_ne hO5 hC5 (by decide))
                have hY6 := hY5.grown hg6 (row_ne_blk hC5 hY5 (by decide))
                have hB6 := hB5.grown hg6 hB5.size (fun k hk => by cases hk; exact hgb5)
                clear hN5 hO5 hY5 hB5 hC5 hg5 hg6
                replace hC6 := Lib.hid hC6
                replace hN6 := Lib.hid hN6
                replace hO6 := Lib.hid hO6
                replace hY6 := Lib.hid hY6
                replace hB6 := Lib.hid hB6
                replace hcl := Lib.hid hcl
                go_wp2_with fail
                refine ⟨⟨j + 1, by omega, by go_num, Lib.hid ?_, hY6, hZ4⟩, by simp [intOf]; omega⟩
                rw [hPs.out]
                have hnn : (nub (P ++ [a.data.toList])).length = (nub P).length + 1 := by rw [hn1.out, List.length_append]; rfl
                exact ⟨hO6.out, hN6.out, by rw [hnn]; exact hC6.out, hB6.out⟩
          · obtain rfl : j = 2 := by omega
            go_wp2_with fail
            go_roundw
            case rel => exact ⟨k + 1, by omega, by go_num, by rw [hTk2.out]; simpa using hT⟩
            case measure => simp [intOf]; omega
    · obtain rfl : k = n := by omega
      rw [List.take_of_length_le (by rw [hH.out.els.len]; exact Nat.le_refl _)] at hT
      obtain ⟨A7, c7, hv7⟩ := owns_slice hT.out.C
      obtain ⟨A6, c6, hv6⟩ := owns_slice hT.out.N
      have hlw := names_length hs
      have hlh := hH.out.els.len
      have hnl := nub_length (names hs)
      have hs3 := names_small hs
      have hS0 : Hid (Sel w wr vO u6 u7 (names hs) L 0) := Lib.hid ⟨by simpa using hT.out.O, hT.out.N, by simpa using hT.out.C, hT.out.B⟩
      subst hv6 hv7
      have hl84 : (names hs).length ≤ 42 := by omega
      have hnb : (nub (names hs)).length ≤ 42 := by omega
      obtain ⟨l, hl⟩ : ∃ l, l = names hs := ⟨_, rfl⟩
      rw [← hl] at hS0 hL hs3 hl84 hnb ⊢
      have hm2 : (most.toNat : Int) = most := by omega
      replace hl := Lib.hid hl
      replace hs3 := Lib.hid hs3
      clear hT hH hlw hlh hnl
      go_wp2_with fail
      go_loopw [5] (fun o wr => ∃ (j : Nat) (vO : Value), j ≤ most.toNat ∧ j ≤ L.length ∧ vO = o ∧ Hid (Sel w wr vO (.slice A6 (nub l).length c6) (.slice A7 (nub l).length c7) l L j)) (fun o _ => most.toNat - lenV o)
      case atStart => exact ⟨0, _, Nat.zero_le _, Nat.zero_le _, rfl, hS0⟩
      case round =>
        obtain ⟨j, vO, hj, hjL, rfl, hS⟩ := hrel
        clear hS0
        obtain ⟨A3, c3, rfl⟩ := owns_slice hS.out.O
        by_cases hjm : j < most.toNat
        · have hjm' : (j : Int) < most := by omega
          go_wp2_with fail
          go_loopw [12, 13] (fun bst kk wx => ∃ (t : Nat) (b : Int), t ≤ (nub l).length ∧ kk = .int .i64 t ∧ bst = .int .i64 b ∧ Hid (Sel w wx (.slice A3 j c3) (.slice A6 (nub l).length c6) (.slice A7 (nub l).length c7) l L j) ∧ Hid (BestIs l (L.take j) t b)) (fun _ kk _ => (nub l).length - (intOf kk).toNat)
          case atStart => exact ⟨0, -1, Nat.zero_le _, rfl, rfl, hS, Lib.hid (.inl ⟨rfl, fun i _ h => by omega⟩)⟩
          case round =>
            obtain ⟨t, b, ht, rfl, rfl, hSx, hBI⟩ := hrel
            clear hS
            by_cases htl : t < (nub l).length
            · obtain ⟨g, rfl, hgb, hgl, hgc, _⟩ := own_cell hSx.out.N htl
              obtain ⟨gC, rfl, hgbC, hglC, hgcC, _⟩ := own_cell hSx.out.C htl
              rw [List.getElem?_map, List.getElem?_eq_getElem htl] at hgc
              unfold ctab at hgcC
              rw [List.getElem?_map, List.getElem?_eq_getElem htl] at hgcC
              obtain ⟨S, hSS⟩ : ∃ S : ByteArray, S = ⟨((nub l)[t]).toArray⟩ := ⟨_, rfl⟩
              have hSx1 : S.data.toList = (nub l)[t] := by rw [hSS]
              have e0 := cell_regrown (hgc.trans (show _ = some (Value.string S) by rw [hSS]; rfl))
              have e1 := cell_regrown hgcC
              clear hgc hgcC
              have htl' : (t : Int) < ((nub l).length : Int) := by omega
              have hcl : l.count (nub l)[t] ≤ 42 := Nat.le_trans List.count_le_length hl84
              have hcp : 0 < l.count (nub l)[t] := List.count_pos_iff.2 ((nub_mem l _).1 (List.getElem_mem htl))
              by_cases hx : (nub l)[t] ∈ L.take j
              · simp only [hx, if_true] at e1
                have HB1 := Lib.hid (hBI.out.skip htl (.inl hx))
                replace hx := Lib.hid hx
                replace hSS := Lib.hid hSS
                replace hSx1 := Lib.hid hSx1
                replace hcl := Lib.hid hcl
                replace hcp := Lib.hid hcp
                go_wp2_with fail
                refine wp_region_quiet_below (by kernel_rfl) (by kernel_rfl) ?_
                repeat (go_big_quiet_step (fail))
                refine wpQuiet_nil ?_
                rintro _ ⟨⟨dq, osq⟩, rfl⟩
                have hb_ := below_regrown wr dq osq
                replace hSx := Lib.hid (hSx.out.keep hb_)
                generalize grow (redrawn wr dq) osq = w5 at *
                clear hb_
                go_wp2_with fail
                refine ⟨⟨t + 1, b, by omega, by go_num, rfl, hSx, HB1⟩, by simp [intOf]; omega⟩
              · simp only [hx, if_false] at e1
                obtain ⟨cx, hcx⟩ : ∃ cx : Int, cx = (l.count (nub l)[t] : Int) := ⟨_, rfl⟩
                rw [← hcx] at e1
                have q1 : decide (0 < cx) = true := by rw [decide_eq_true_eq]; omega
                rcases hBI.out with ⟨hb1, _⟩ | ⟨m, hbm, hmt, hm, hnm, _⟩
                · subst hb1
                  have HB1 := Lib.hid (hBI.out.take htl hx (.inl rfl))
                  replace hx := Lib.hid hx
                  replace hSS := Lib.hid hSS
                  replace hSx1 := Lib.hid hSx1
                  replace hcl := Lib.hid hcl
                  replace hcp := Lib.hid hcp
                  replace hcx := Lib.hid hcx
                  go_wp2_with fail
                  refine wp_region_quiet_below (by kernel_rfl) (by kernel_rfl) ?_
                  repeat (go_big_quiet_step (fail))
                  refine wpQuiet_nil ?_
                  rintro _ ⟨⟨dq, osq⟩, rfl⟩
                  have hb_ := below_regrown wr dq osq
                  replace hSx := Lib.hid (hSx.out.keep hb_)
                  generalize grow (redrawn wr dq) osq = w5 at *
                  clear hb_
                  go_wp2_with fail
                  refine ⟨⟨t + 1, (t : Int), by omega, by go_num, rfl, hSx, HB1⟩, by simp [intOf]; omega⟩
                · subst hbm
                  obtain ⟨g1, hg1, _, _, hgm, _⟩ := own_cell hSx.out.N hm
                  injection hg1 with hg1
                  injection hg1 with hg1
                  subst hg1
                  obtain ⟨g2, hg2, _, _, hgmC, _⟩ := own_cell hSx.out.C hm
                  injection hg2 with hg2
                  injection hg2 with hg2
                  subst hg2
                  rw [List.getElem?_map, List.getElem?_eq_getElem hm] at hgm
                  unfold ctab at hgmC
                  rw [List.getElem?_map, List.getElem?_eq_getElem hm] at hgmC
                  obtain ⟨Sm, hSm⟩ : ∃ S : ByteArray, S = ⟨((nub l)[m]).toArray⟩ := ⟨_, rfl⟩
                  have hSm1 : Sm.data.toList = (nub l)[m] := by rw [hSm]
                  have e2 := cell_regrown (hgm.trans (show _ = some (Value.string Sm) by rw [hSm]; rfl))
                  have e3 := cell_regrown hgmC
                  clear hgm hgmC
                  simp only [hnm, if_false] at e3
                  obtain ⟨cy, hcy⟩ : ∃ cy : Int, cy = (l.count (nub l)[m] : Int) := ⟨_, rfl⟩
                  rw [← hcy] at e3
                  have hml' : (m : Int) < ((nub l).length : Int) := by omega
                  have q2 : decide ((m : Int) < 0) = false := by simp
                  rcases Nat.lt_trichotomy (l.count (nub l)[t]) (l.count (nub l)[m]) with hc | hc | hc
                  · have q3 : decide (cy < cx) = false := by rw [decide_eq_false_iff_not]; omega
                    have q4 : (cx == cy) = false := by rw [beq_eq_false_iff_ne]; omega
                    have HB1 := Lib.hid (hBI.out.skip htl (.inr ⟨m, rfl, hm, .inl hc⟩))
                    replace hx := Lib.hid hx
                    replace hSS := Lib.hid hSS
                    replace hSx1 := Lib.hid hSx1
                    replace hcl := Lib.hid hcl
                    replace hcp := Lib.hid hcp
                    replace hcx := Lib.hid hcx
                    replace hnm := Lib.hid hnm
                    replace hSm := Lib.hid hSm
                    replace hSm1 := Lib.hid hSm1
                    replace hcy := Lib.hid hcy
                    replace hc := Lib.hid hc
                    go_wp2_with fail
                    refine wp_region_quiet_below (by kernel_rfl) (by kernel_rfl) ?_
                    repeat (go_big_quiet_step (fail))
                    refine wpQuiet_nil ?_
                    rintro _ ⟨⟨dq, osq⟩, rfl⟩
                    have hb_ := below_regrown wr dq osq
                    replace hSx := Lib.hid (hSx.out.keep hb_)
                    generalize grow (redrawn wr dq) osq = w5 at *
                    clear hb_
                    go_wp2_with fail
                    refine ⟨⟨t + 1, (m : Int), by omega, by go_num, rfl, hSx, HB1⟩, by simp [intOf]; omega⟩
                  · have q3 : decide (cy < cx) = false := by rw [decide_eq_false_iff_not]; omega
                    have q4 : (cx == cy) = true := by rw [beq_iff_eq]; omega
                    by_cases hlt : (nub l)[t] < (nub l)[m]
                    · have q5 : Op.bytesLess S.toList Sm.toList = true := by rw [bytesLess_eq, Lib.toList_data, Lib.toList_data, hSx1, hSm1, decide_eq_true_eq]; exact hlt
                      have HB1 := Lib.hid (hBI.out.take htl hx (.inr ⟨m, rfl, hm, .inr ⟨hc, hlt⟩⟩))
                      replace hx := Lib.hid hx
                      replace hSS := Lib.hid hSS
                      replace hSx1 := Lib.hid hSx1
                      replace hcl := Lib.hid hcl
                      replace hcp := Lib.hid hcp
                      replace hcx := Lib.hid hcx
                      replace hnm := Lib.hid hnm
                      replace hSm := Lib.hid hSm
                      replace hSm1 := Lib.hid hSm1
                      replace hcy := Lib.hid hcy
                      replace hc := Lib.hid hc
                      replace hlt := Lib.hid hlt
                      go_wp2_with fail
                      refine wp_region_quiet_below (by kernel_rfl) (by kernel_rfl) ?_
                      repeat (go_big_quiet_step (fail))
                      refine wpQuiet_nil ?_
                      rintro _ ⟨⟨dq, osq⟩, rfl⟩
                      have hb_ := below_regrown wr dq osq
                      replace hSx := Lib.hid (hSx.out.keep hb_)
                      generalize grow (redrawn wr dq) osq = w5 at *
                      clear hb_
                      go_wp2_with fail
                      refine ⟨⟨t + 1, (t : Int), by omega, by go_num, rfl, hSx, HB1⟩, by simp [intOf]; omega⟩
                    · have q5 : Op.bytesLess S.toList Sm.toList = false := by rw [bytesLess_eq, Lib.toList_data, Lib.toList_data, hSx1, hSm1, decide_eq_false_iff_not]; exact hlt
                      have hne : (nub l)[m] ≠ (nub l)[t] := fun e => by have := (List.getElem_inj (nub_nodup l) (h₀ := hm) (h₁ := htl)).1 e; omega
                      have hgt : (nub l)[m] < (nub l)[t] := (lt_tri hne).elim id (fun h => absurd h hlt)
                      have HB1 := Lib.hid (hBI.out.skip htl (.inr ⟨m, rfl, hm, .inr ⟨hc.symm, hgt⟩⟩))
                      replace hx := Lib.hid hx
                      replace hSS := Lib.hid hSS
                      replace hSx1 := Lib.hid hSx1
                      replace hcl := Lib.hid hcl
                      replace hcp := Lib.hid hcp
                      replace hcx := Lib.hid hcx
                      replace hnm := Lib.hid hnm
                      replace hSm := Lib.hid hSm
                      replace hSm1 := Lib.hid hSm1
                      replace hcy := Lib.hid hcy
                      replace hc := Lib.hid hc
                      replace hlt := Lib.hid hlt
                      replace hne := Lib.hid hne
                      replace hgt := Lib.hid hgt
                      go_wp2_with fail
                      refine wp_region_quiet_below (by kernel_rfl) (by kernel_rfl) ?_
                      repeat (go_big_quiet_step (fail))
                      refine wpQuiet_nil ?_
                      rintro _ ⟨⟨dq, osq⟩, rfl⟩
                      have hb_ := below_regrown wr dq osq
                      replace hSx := Lib.hid (hSx.out.keep hb_)
                      generalize grow (redrawn wr dq) osq = w5 at *
                      clear hb_
                      go_wp2_with fail
                      refine ⟨⟨t + 1, (m : Int), by omega, by go_num, rfl, hSx, HB1⟩, by simp [intOf]; omega⟩
                  · have q3 : decide (cy < cx) = true := by rw [decide_eq_true_eq]; omega
                    have HB1 := Lib.hid (hBI.out.take htl hx (.inr ⟨m, rfl, hm, .inl hc⟩))
                    replace hx := Lib.hid hx
                    replace hSS := Lib.hid hSS
                    replace hSx1 := Lib.hid hSx1
                    replace hcl := Lib.hid hcl
                    replace hcp := Lib.hid hcp
                    replace hcx := Lib.hid hcx
                    replace hnm := Lib.hid hnm
                    replace hSm := Lib.hid hSm
                    replace hSm1 := Lib.hid hSm1
                    replace hcy := Lib.hid hcy
                    replace hc := Lib.hid hc
                    go_wp2_with fail
                    refine wp_region_quiet_below (by kernel_rfl) (by kernel_rfl) ?_
                    repeat (go_big_quiet_step (fail))
                    refine wpQuiet_nil ?_
                    rintro _ ⟨⟨dq, osq⟩, rfl⟩
                    have hb_ := below_regrown wr dq osq
                    replace hSx := Lib.hid (hSx.out.keep hb_)
                    generalize grow (redrawn wr dq) osq = w5 at *
                    clear hb_
                    go_wp2_with fail
                    refine ⟨⟨t + 1, (t : Int), by omega, by go_num, rfl, hSx, HB1⟩, by simp [intOf]; omega⟩
            · obtain rfl : t = (nub l).length := by omega
              rcases hBI.out with ⟨hb1, hall⟩ | ⟨m, hbm, hmt, hm, hnm, hleast⟩
              · subst hb1
                have hfin := hL.out.none (j := j) (fun y hy => by
                  obtain ⟨i, hi, e⟩ := List.mem_iff_getElem.1 ((nub_mem l y).2 hy)
                  rw [← e]; exact hall i hi hi)
                have hjl : L.length ≤ j := by have := congrArg List.length hfin; rw [List.length_take] at this; omega
                have hC := fin_ctx (m := most.toNat) hSx.out.O (by rw [hfin, List.take_of_length_le (by omega)]) (fun x hx => Nat.le_trans (hs3.out x ((hL.out.mem x).1 hx)) (by omega))
                have hB := hSx.out.B
                replace hall := Lib.hid hall
                replace hfin := Lib.hid hfin
                replace hC := Lib.hid hC
                replace hB := Lib.hid hB
                go_wp2_with fail
                go_ret
                first
                  | exact ⟨A3, j, c3, rfl, hC.out, hB.out⟩
                  | exact ⟨A3, j, ⟨c3, rfl⟩, by rw [← List.map_take]; exact hC.out, hB.out⟩
                  | exact ⟨A3, j, ⟨c3, rfl⟩, by rw [List.map_take]; exact hC.out, hB.out⟩
              · subst hbm
                obtain ⟨hjlt, htake⟩ := hL.out.next (j := j) (x := (nub l)[m]) ((nub_mem l _).1 (List.getElem_mem hm)) hnm (fun y hy hyn hne => by
                  obtain ⟨i, hi, e⟩ := List.mem_iff_getElem.1 ((nub_mem l y).2 hy)
                  rw [← e]
                  rw [← e] at hyn hne
                  exact hleast i hi hi (fun h => hne (by subst h; rfl)) hyn)
                obtain ⟨g, rfl, hgb, hgl, hgc, _⟩ := own_cell hSx.out.N hm
                obtain ⟨gC, rfl, _, _, _, _⟩ := own_cell hSx.out.C hm
                rw [List.getElem?_map, List.getElem?_eq_getElem hm] at hgc
                obtain ⟨S, hSS⟩ : ∃ S : ByteArray, S = ⟨((nub l)[m]).toArray⟩ := ⟨_, rfl⟩
                have hgc2 := hgc.trans (show _ = some (Value.string S) by rw [hSS]; rfl)
                clear hgc
                have hml' : (m : Int) < ((nub l).length : Int) := by omega
                have q2 : decide ((m : Int) < 0) = false := by simp
                obtain ⟨i0, hi, hz0, hz1, hz2⟩ := info_parts info_ctx
                have hoA := hSx.out.O.alloc (.cells #[.string S] 26)
                have hNA := hSx.out.N.alloc (.cells #[.string S] 26)
                have hCA := hSx.out.C.alloc (.cells #[.string S] 26)
                have hbA := bthen hSx.out.B (below_alloc wr (.cells #[.string S] 26))
                have hszr := hSx.out.B.size
                have hcs := ctab_set (f := fun x => if x ∈ L.take j then 0 else l.count x) (f' := fun x => if x ∈ L.take (j + 1) then 0 else l.count x) (nub_nodup l) hm (fun x hx => by
                  show (if x ∈ L.take (j + 1) then _ else _) = (if x ∈ L.take j then _ else _)
                  rw [htake]
                  simp [hx])
                have hz : (if (nub l)[m] ∈ L.take (j + 1) then 0 else l.count (nub l)[m]) = 0 := if_pos (by rw [htake]; simp)
                simp only [hz] at hcs
                have hLj : (L.map encStr).take (j + 1) = (L.map encStr).take j ++ [.string S] := by
                  rw [← List.map_take, htake, List.map_append, List.map_take, hSS]
                  rfl
                replace hSS := Lib.hid hSS
                replace hi := Lib.hid hi
                replace hz0 := Lib.hid hz0
                replace hz1 := Lib.hid hz1
                replace hz2 := Lib.hid hz2
                replace hoA := Lib.hid hoA
                replace hNA := Lib.hid hNA
                replace hCA := Lib.hid hCA
                replace hbA := Lib.hid hbA
                replace hcs := Lib.hid hcs
                replace hLj := Lib.hid hLj
                replace htake := Lib.hid htake
                replace hleast := Lib.hid hleast
                replace hnm := Lib.hid hnm
                replace hz := Lib.hid hz
                clear hBI
                go_wp2_with (at_builtin; refine wpList_append_own _ rfl _ _ _ rfl w.heap.size 26 i0 (.agg #[.string ⟨#[]⟩]) 1 16 Try.underlying22 hi.out hz0.out hz1.out hz2.out rfl (by decide) _ j _ rfl hoA.out ⟨wr.heap.size, 0, none⟩ 1 1 [.string S] rfl rfl (cell_one_new _ _ _) (by simp [Value.oneCell']) ?c1 ?c2 ?c3 ?_)
                try case c1 => unfold maxLen; omega
                try case c2 => omega
                try case c3 => simp; omega
                intro v' w4 hown4 hgrow4 _
                have hb4 := below_append hbA.out hoA.out hgrow4 (Nat.le_refl _)
                have hN4 := hNA.out.kept hgrow4 (rows_ne hNA.out hoA.out (by decide))
                have hC4 := hCA.out.kept hgrow4 (rows_ne hCA.out hoA.out (by decide))
                rw [← hLj.out] at hown4
                obtain ⟨g8, hg8, hgb8, hgl8, hgc8, hgf8⟩ := own_cell hC4 hm
                injection hg8 with hg8
                injection hg8 with hg8
                subst hg8
                unfold ctab at hgc8
                rw [List.getElem?_map, List.getElem?_eq_getElem hm] at hgc8
                simp only [Option.map_some] at hgc8
                obtain ⟨hC5, hg5⟩ := hC4.stored m (.int .i64 0)
                have hN5 := hN4.kept hg5 (rows_ne hN4 hC4 (by decide))
                have hO5 := hown4.kept hg5 (rows_ne hown4 hC4 (by decide))
                have hB5 := hb4.grown hg5 hb4.size (fun k hk => by cases hk; exact hgb8)
                have hcs2 := hcs.out
                rw [show ((0 : Nat) : Int) = 0 from rfl] at hcs2
                rw [hcs2] at hC5
                obtain ⟨A8, c8, rfl⟩ := owns_slice hown4
                clear hgrow4 hown4 hN4 hC4 hb4 hg5 hoA hNA hCA hbA hcs2
                replace hC5 := Lib.hid hC5
                replace hN5 := Lib.hid hN5
                replace hO5 := Lib.hid hO5
                replace hB5 := Lib.hid hB5
                go_wp2_with fail
                refine ⟨⟨j + 1, _, by omega, by omega, rfl, Lib.hid ⟨hO5.out, hN5.out, hC5.out, hB5.out⟩⟩, by simp [lenV]; omega⟩
        · have hjm' : ¬ (j : Int) < most := by omega
          have hC := fin_ctx (m := most.toNat) hS.out.O (by rw [show j = most.toNat by omega]) (fun x hx => Nat.le_trans (hs3.out x ((hL.out.mem x).1 hx)) (by omega))
          have hB := hS.out.B
          replace hC := Lib.hid hC
          replace hB := Lib.hid hB
          go_wp2_with fail
          go_ret
          first
            | exact ⟨A3, j, c3, rfl, hC.out, hB.out⟩
            | exact ⟨A3, j, ⟨c3, rfl⟩, by rw [← List.map_take]; exact hC.out, hB.out⟩
            | exact ⟨A3, j, ⟨c3, rfl⟩, by rw [List.map_take]; exact hC.out, hB.out⟩
set_option maxRecDepth 100000 in
set_option maxHeartbeats 2000000 in
theorem rbest_none (A : Option Addr) (n c : Nat) (most : Int) (w : World) (hm : ¬ (1 ≤ most ∧ most ≤ 8)) :
    Calls Try.prog 31 #[.slice A n c, .int .i64 most] w fun e w' => ∃ A' c', e = .returned (.slice A' 0 c') ∧ Below w.heap.size w w' := by
  have hb := below_alloc w (.cells #[] 26)
  replace hb := Lib.hid hb
  by_cases h1 : most < 1
  · go_enter Try.func31, Try.ntmps31
    go_wp2_with fail
    go_ret
    first | exact ⟨_, _, rfl, hb.out⟩ | exact ⟨⟨_, _, rfl⟩, hb.out⟩
  · have h8 : 8 < most := by omega
    go_enter Try.func31, Try.ntmps31
    go_wp2_with fail
    go_ret
    first | exact ⟨_, _, rfl, hb.out⟩ | exact ⟨⟨_, _, rfl⟩, hb.out⟩
end Cp
end Go.Proofs.Ytgdkehnakopnnaa
