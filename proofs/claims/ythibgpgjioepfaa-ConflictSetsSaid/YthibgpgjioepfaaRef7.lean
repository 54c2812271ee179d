/- hopmeshref34.First, Good, Cells, Together. -/
import Derived.Test.YthibgpgjioepfaaRef6
import Derived.Test.YthibgpgjioepfaaMem
import Derived.Deep.RegionHeld3
namespace Go.Proofs.Ythibgpgjioepfaa
open Go Go.RowKit Go.Sort
namespace Nt
open Mm
set_option maxRecDepth 100000 in
set_option maxHeartbeats 2000000 in
theorem rFirst_any (N : Net) (v : NetV) (A : Option Addr) (n c : Nat) (cs : List Cel) (w : World) (hN : NetIs w v N) (hs : CelS w A n cs) (hn : n ≤ 60) :
    Calls Try.prog 21 #[.agg #[.int .i64 N.nodes, .slice v.PA v.pn v.pc, .int .i64 N.noise, .int .i64 N.threshold, .slice v.LA v.ln v.lc, .slice v.MA v.mn v.mc], .slice A n c] w
      fun e w' => e = .returned (firstV (firstN N cs)) ∧ Below w.heap.size w w' := by
  have BX := Box.new w #[.int .i64 N.nodes, .slice v.PA v.pn v.pc, .int .i64 N.noise, .int .i64 N.threshold, .slice v.LA v.ln v.lc, .slice v.MA v.mn v.mc] 26
  have hbw := below_alloc w (.cells #[.int .i64 N.nodes, .slice v.PA v.pn v.pc, .int .i64 N.noise, .int .i64 N.threshold, .slice v.LA v.ln v.lc, .slice v.MA v.mn v.mc] 26)
  have HC := rcheck_any N v _ (hN.keep hbw)
  have hlen := hs.els.len
  have HI : Hid (firstN N cs = if check N = 0 then (List.range n).find? (fun i => faulty N cs i) else none) := by show _ = _; unfold firstN; rw [hlen]
  have HF := fun W (h1 : NetIs W v N) (h2 : CelS W A n cs) (i : Nat) (h3 : i < n) (hc : check N = 0) => rFault_any N v A n c cs i W h1 h2 hn h3 hc
  replace hlen := Lib.hid hlen
  replace HC := Lib.hid HC
  replace HF := Lib.hid HF
  replace hN := Lib.hid hN
  replace hs := Lib.hid hs
  replace BX := Lib.hid BX
  replace hbw := Lib.hid hbw
  generalize check N = C at *
  generalize firstN N cs = I at *
  generalize hFg : faulty N cs = FA at *
  clear hFg
  obtain ⟨nodes, power, noise, thr, links, margin⟩ := N
  obtain ⟨PA, pn, pc, LA, ln, lc, MA, mn, mc⟩ := v
  dsimp only at *
  go_enter Try.func21, Try.ntmps21
  go_wp2_with fail
  refine (HC.out).mono ?_
  rintro e w1 ⟨rfl, hb_⟩
  replace BX := Lib.hid (BX.out.keep hb_)
  replace hbw := Lib.hid (hbw.out.keep hb_)
  clear hb_
  by_cases c0 : C = 0
  case neg =>
    have HI' : Hid (I = none) := by show _ = _; rw [HI.out, if_neg c0]
    have d : (C != 0) = true := by rw [bne_iff_ne]; exact c0
    replace c0 := Lib.hid c0
    go_wp2
    refine bodyPost_ret (v := .tuple #[.int .i64 (-1), .bool false]) (by simp [results, Try.results21, go_sem]) rfl ⟨by rw [HI'.out]; rfl, hbw.out⟩
  have dz : (C != 0) = false := by rw [c0]; rfl
  have HI2 : Hid (I = (List.range n).find? (fun i => FA i)) := by show _ = _; rw [HI.out, if_pos c0]
  replace c0 := Lib.hid c0
  go_wp2
  go_loopw [6] (fun i wr => ∃ k : Nat, k ≤ n ∧ i = .int .i64 k ∧ Hid (∀ j, j < k → FA j = false) ∧ Hid (Below w1.heap.size w1 wr)) (fun i _ => n - (intOf i).toNat)
  case atStart => exact ⟨0, by omega, rfl, fun j hj => absurd hj (by omega), Below.refl _ _⟩
  case round =>
    obtain ⟨k, hk, rfl, HP, HB⟩ := hrel
    have HX := Lib.hid (BX.out.keep HB.out)
    have hB0 := Lib.hid (hbw.out.keep HB.out)
    by_cases hlt : k < n
    · have kx := HX.out.at_
      have HFc := Lib.hid (HF.out wr (hN.out.keep hB0.out) (hs.out.keep hB0.out) k hlt c0.out)
      go_wp2_with fail
      refine HFc.out.mono ?_
      rintro e w2 ⟨rfl, hb⟩
      clear kx HFc
      replace HB := Lib.hid (HB.out.keep hb)
      replace hB0 := Lib.hid (hB0.out.keep hb)
      clear hb
      cases hf : FA k with
      | true =>
        have HI' : Hid (I = some k) := by show _ = _; rw [HI2.out]; exact find_range_hit hlt hf HP.out
        replace hf := Lib.hid hf
        go_wp2
        refine bodyPost_ret (v := .tuple #[.int .i64 (k : Int), .bool true]) (by simp [results, Try.results21, go_sem]) rfl ⟨by rw [HI'.out]; rfl, hB0.out⟩
      | false =>
        have HN : Hid (∀ j, j < k + 1 → FA j = false) := fun j hj => by
          by_cases e : j = k
          · subst e; exact hf
          · exact HP.out j (by omega)
        replace hf := Lib.hid hf
        go_wp2
        go_roundw
        case rel => exact ⟨k + 1, by omega, by go_num, HN, HB⟩
        case measure => simp [intOf]; omega
    · have e : k = n := by omega
      subst e
      have HI' : Hid (I = none) := by show _ = _; rw [HI2.out]; exact find_range_none HP.out
      go_wp2
      refine bodyPost_ret (v := .tuple #[.int .i64 (-1), .bool false]) (by simp [results, Try.results21, go_sem]) rfl ⟨by rw [HI'.out]; rfl, hB0.out⟩
set_option maxRecDepth 100000 in
set_option maxHeartbeats 2000000 in
theorem rGood_any (N : Net) (v : NetV) (A : Option Addr) (n c : Nat) (cs : List Cel) (w : World) (hN : NetIs w v N) (hs : CelS w A n cs) (hn : n ≤ 60) :
    Calls Try.prog 22 #[.agg #[.int .i64 N.nodes, .slice v.PA v.pn v.pc, .int .i64 N.noise, .int .i64 N.threshold, .slice v.LA v.ln v.lc, .slice v.MA v.mn v.mc], .slice A n c] w
      fun e w' => e = .returned (.bool (goodN N cs)) ∧ Below w.heap.size w w' := by
  have BX := Box.new w #[.int .i64 N.nodes, .slice v.PA v.pn v.pc, .int .i64 N.noise, .int .i64 N.threshold, .slice v.LA v.ln v.lc, .slice v.MA v.mn v.mc] 26
  have hbw := below_alloc w (.cells #[.int .i64 N.nodes, .slice v.PA v.pn v.pc, .int .i64 N.noise, .int .i64 N.threshold, .slice v.LA v.ln v.lc, .slice v.MA v.mn v.mc] 26)
  have HC := fun W (h : NetIs W v N) => rcheck_any N v W h
  have HF := rFirst_any N v A n c cs _ (hN.keep hbw) (hs.keep hbw) hn
  have HI : Hid (goodN N cs = (decide (check N = 0) && (firstN N cs).isNone)) := rfl
  replace HC := Lib.hid HC
  replace HF := Lib.hid HF
  replace hN := Lib.hid hN
  replace hs := Lib.hid hs
  replace BX := Lib.hid BX
  replace hbw := Lib.hid hbw
  generalize check N = C at *
  generalize goodN N cs = I at *
  generalize firstN N cs = FA at *
  obtain ⟨nodes, power, noise, thr, links, margin⟩ := N
  obtain ⟨PA, pn, pc, LA, ln, lc, MA, mn, mc⟩ := v
  dsimp only at *
  go_enter Try.func22, Try.ntmps22
  go_wp2_with fail
  refine (HF.out).mono ?_
  rintro e w1 ⟨rfl, hb_⟩
  replace BX := Lib.hid (BX.out.keep hb_)
  replace hbw := Lib.hid (hbw.out.keep hb_)
  clear hb_
  have HC1 := Lib.hid (HC.out w1 (hN.out.keep hbw.out))
  have kx := BX.out.at_
  rcases FA with _ | k
  all_goals
    simp only [firstV]
    go_wp2_with fail
    refine HC1.out.mono ?_
    rintro e w2 ⟨rfl, hb⟩
    clear kx
    replace hbw := Lib.hid (hbw.out.keep hb)
    clear hb
    by_cases c0 : C = 0
    · have d : (C == 0) = true := by rw [c0]; rfl
      have HI' := HI.out
      rw [decide_eq_true c0] at HI'
      replace HI' := Lib.hid HI'
      replace c0 := Lib.hid c0
      go_wp2
      go_ret
      exact ⟨by rw [HI'.out]; rfl, hbw.out⟩
    · have d : (C == 0) = false := by rw [beq_eq_false_iff_ne]; exact c0
      have HI' := HI.out
      rw [decide_eq_false c0] at HI'
      replace HI' := Lib.hid HI'
      replace c0 := Lib.hid c0
      go_wp2
      go_ret
      exact ⟨by rw [HI'.out]; rfl, hbw.out⟩
def cellV (c : Cel) (j : Nat) : Value := .int .i64 (celF c j)
theorem celS_of_owns {w : World} {base n : Nat} {e : TypeId} {A : Option Addr} {m c : Nat} {xs : List Cel} (h : w.ownsRow base e 5 (.slice A m c) n (flat 5 cellV xs)) (ok : ∀ x ∈ xs, x.ok) : m = n ∧ CelS w A n xs := by
  obtain ⟨h1, h2, h3⟩ := owns_read (by decide) h
  rcases h3 with ⟨hv, h0⟩ | ⟨g, cap, hv, hb, hg, hc⟩
  · cases hv; exact ⟨h0.symm, ⟨h1, h2, fun h => by omega⟩, ok⟩
  · cases hv; exact ⟨rfl, ⟨h1, h2, fun _ => ⟨g, 0, rfl, hg, fun i hi j hj => by rw [Nat.zero_add]; exact hc i hi j hj⟩⟩, ok⟩
theorem info_cell : (Try.prog.info? 36).map (fun i => (i.zero, i.size, i.bytes)) = some (some (.agg #[.int .i64 0, .int .i64 0, .int .i64 0, .int .i64 0, .int .i64 0]), 5, 40) := by kernel_rfl
def CellsPost (n : Nat) (cs : List Cel) (w : World) (e : Ending) (w' : World) : Prop := ∃ A c, e = .returned (.slice A n c) ∧ CelS w' A n cs ∧ Below w.heap.size w w'
theorem own_far {w : World} {base : Nat} {e : TypeId} {size n : Nat} {v : Value} {xs : List Value} (h : w.ownsRow base e size v n xs) {B : Nat} (hB : B < base) : v.ownBlock ≠ some B := fun hv => by have := (h.lt B hv).1; omega
set_option maxRecDepth 100000 in
set_option maxHeartbeats 4000000 in
theorem rCells_any (A : Option Addr) (n c : Nat) (ls : List Lnk) (w : World) (hs : LnkS w A n ls) (hn : n ≤ 1000) :
    Calls Try.prog 50 #[.slice A n c] w (CellsPost n (ls.map cellOf) w) := by
  obtain ⟨i0, hi, hz0, hz1, hz2⟩ := info_parts info_cell
  have hlen := hs.els.len
  have hm0 := World.ownsRow_made (base := w.heap.size) (e := 36) (size := 5) w #[] 0 (Nat.le_refl _) (by decide) rfl
  have hb0 := below_alloc w (.cells #[] 36)
  replace hi := Lib.hid hi
  replace hz0 := Lib.hid hz0
  replace hz1 := Lib.hid hz1
  replace hz2 := Lib.hid hz2
  replace hlen := Lib.hid hlen
  replace hs := Lib.hid hs
  replace hm0 := Lib.hid hm0
  replace hb0 := Lib.hid hb0
  go_enter Try.func50, Try.ntmps50
  go_wp2
  go_loopw [3, 4] (fun o i wr => ∃ (k : Nat) (vO : Value), k ≤ n ∧ i = .int .i64 k ∧ vO = o ∧ Hid (wr.ownsRow w.heap.size 36 5 vO k (flat 5 cellV ((ls.take k).map cellOf))) ∧ Hid (Below w.heap.size w wr)) (fun _ i _ => n - (intOf i).toNat)
  case atStart => exact ⟨0, _, by omega, rfl, rfl, hm0, hb0⟩
  case round =>
    obtain ⟨k, vO, hk, rfl, rfl, HO, HB⟩ := hrel
    by_cases hlt : k < n
    · obtain ⟨b, off, rfl⟩ := hs.out.els.addr (by omega)
      obtain ⟨⟨f, t, l⟩, he, hm, q0, q1, q2⟩ := (hs.out.keep HB.out).elem hlt
      dsimp only at q0 q1 q2
      have hblt : b < w.heap.size := (hs.out.els.cell (by omega)).1
      have hfar := own_far HO.out hblt
      have hsz := HB.out.size
      have lb : b < wr.heap.size := by omega
      have r1 : (k : Int) < (n : Int) := by omega
      have r0 : (0 : Int) ≤ (k : Int) := by omega
      have HOd := Lib.hid ((HO.out.alloc (.cells #[.int .i64 0, .int .i64 0, .int .i64 f, .int .i64 t, .int .i64 0] 36)).drew)
      replace he := Lib.hid he
      replace hm := Lib.hid hm
      replace hfar := Lib.hid hfar
      clear q2
      go_wp2_with fail
      go_region_held3 (fun w' => w'.cell? ⟨b, off + k * 3, none⟩ = some (.int .i64 f) ∧ w'.cell? ⟨b, off + k * 3 + 1, none⟩ = some (.int .i64 t))
        (first
          | go_keep
          | (go_split_ands
             refine ⟨?_, ?_⟩
             · (rw [hgrow.cell_far _ (by simp; omega) (Ne.symm hfar.out)]; assumption)
             · (rw [hgrow.cell_far _ (by simp; omega) (Ne.symm hfar.out)]; assumption)))
        ((refine step_append_lies _ (by rfl) _ _ _ (by rfl) w.heap.size 36 i0 _ 5 40 Try.underlying27 hi.out hz0.out hz1.out hz2.out rfl (by omega) vO k _ (by rfl) HOd.out
            ⟨wr.heap.size, 0, none⟩ 1 1 [.int .i64 0, .int .i64 0, .int .i64 f, .int .i64 t, .int .i64 0] (by rfl) (by rfl) (World.news_of_block (cs := #[.int .i64 0, .int .i64 0, .int .i64 f, .int .i64 t, .int .i64 0]) (t := 36) (fr := (0, 0)) (heap_alloc_new wr _)) (by simp [Value.oneCell'])
            (by omega) (by unfold maxLen; omega) (by omega) (by simp; omega) (wr.heap.size + 1) (by simp) ?_; intro gg cap w1 hown1 hgrow hat hlt1))
      have HB1 := Lib.hid (below_append ((HB.out.alloc hsz (.cells #[.int .i64 0, .int .i64 0, .int .i64 f, .int .i64 t, .int .i64 0] 36)).drew) HOd.out hgrow (Nat.le_refl _))
      have HO1 : Hid (w1.ownsRow w.heap.size 36 5 (.slice (some ⟨gg, 0, none⟩) (k + 1) cap) (k + 1) (flat 5 cellV ((ls.take (k + 1)).map cellOf))) := by
        show World.ownsRow _ _ _ _ _ _ _
        rw [List.take_add_one, he.out, List.map_append, flat_append]
        exact hown1
      clear hown1 hgrow hat
      go_wp2
      go_roundw
      case rel => exact ⟨k + 1, _, by omega, by go_num, rfl, HO1, HB1⟩
      case measure => simp [intOf]; omega
    · obtain rfl : k = n := by omega
      have hok : ∀ x : Cel, x ∈ ls.map cellOf → x.ok := fun x hx => by
        obtain ⟨y, hy, rfl⟩ := List.mem_map.1 hx
        have := hs.out.ok y hy
        exact ⟨i64_zero, i64_zero, this.1, this.2.1, i64_zero⟩
      have HO2 := HO.out
      rw [List.take_of_length_le (by rw [hlen.out]; exact Nat.le_refl _)] at HO2
      have HV : ∃ A' c', vO = .slice A' k c' := by
        rcases HO2.2 with ⟨h, h0⟩ | ⟨g, cap, cur, h, _⟩
        · exact ⟨none, 0, by rw [h, h0]⟩
        · exact ⟨_, _, h⟩
      obtain ⟨A', c', rfl⟩ := HV
      have HS := Lib.hid (celS_of_owns HO2 hok).2
      replace HO2 := Lib.hid HO2
      replace hok := Lib.hid hok
      go_wp2
      go_ret
      exact ⟨A', c', rfl, HS.out, HB.out⟩
end Nt
end Go.Proofs.Ythibgpgjioepfaa
