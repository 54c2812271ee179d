/- The reference's writer: Bytes. -/
import Derived.Test.YtgdkehnakopnnaaCpR
import Derived.Laws.MakeOwn
namespace Go.Proofs.Ytgdkehnakopnnaa
open Go Go.RowKit Go.Sort
namespace Cp
open Mm
def rowOf (cs : List Bool) (N : Nat) : List Nat := (List.range N).map (byteOf cs)
theorem rowOf_length (cs : List Bool) (N : Nat) : (rowOf cs N).length = N := by simp [rowOf]
theorem rowOf_nil (N : Nat) : rowOf [] N = List.replicate N 0 := by
  apply List.ext_getElem?
  intro j
  unfold rowOf
  rw [List.getElem?_map, List.getElem?_replicate]
  by_cases h : j < N
  · rw [List.getElem?_range h, if_pos h]
    show some (byteOf [] j) = _
    rw [byteOf_past _ _ (by simp)]
  · rw [List.getElem?_eq_none (by simp; omega), if_neg h]; rfl
theorem rowOf_snoc (cs : List Bool) (b : Bool) (N : Nat) (h : cs.length / 8 < N) : rowOf (cs ++ [b]) N = (rowOf cs N).set (cs.length / 8) (byteOf (cs ++ [b]) (cs.length / 8)) := by
  apply List.ext_getElem?
  intro j
  rw [List.getElem?_set]
  by_cases hj : j < N
  · by_cases e : cs.length / 8 = j
    · subst e
      rw [if_pos rfl, if_pos (by rw [rowOf_length]; exact h)]
      simp [rowOf, h]
    · rw [if_neg e]
      simp only [rowOf, List.getElem?_map, List.getElem?_range hj, Option.map_some]
      rw [byteOf_snoc_other _ _ _ (fun h => e h.symm)]
  · rw [List.getElem?_eq_none (by rw [rowOf_length]; omega), if_neg (by omega), List.getElem?_eq_none (by rw [rowOf_length]; omega)]
theorem rowOf_get (cs : List Bool) (N j : Nat) (h : j < N) : (rowOf cs N)[j]? = some (byteOf cs j) := by simp [rowOf, h]
theorem or_byte (cs : List Bool) (b : Bool) : bits .or .u8 (byteOf cs (cs.length / 8) : Int) ((b.toNat : Int) * 2 ^ (7 - cs.length % 8) % 256) = (byteOf (cs ++ [b]) (cs.length / 8) : Int) := by
  have hb : b.toNat ≤ 1 := by cases b <;> decide
  have hr : cs.length % 8 < 8 := Nat.mod_lt _ (by decide)
  have hp : b.toNat * 2 ^ (7 - cs.length % 8) < 256 := by
    have : 2 ^ (7 - cs.length % 8) ≤ 2 ^ 7 := Nat.pow_le_pow_right (by decide) (by omega)
    calc b.toNat * 2 ^ (7 - cs.length % 8) ≤ 1 * 2 ^ 7 := Nat.mul_le_mul hb this
      _ < 256 := by decide
  have e4 : ((b.toNat : Int)) * 2 ^ (7 - cs.length % 8) = ((b.toNat * 2 ^ (7 - cs.length % 8) : Nat) : Int) := by simp
  rw [e4, Int.emod_eq_of_lt (by omega) (by omega), u8_or_nat _ _ (byteOf_lt _ _) hp, byteOf_snoc_or]
theorem make_u8 (n : Nat) (hn : n ≤ 1000000) (w : World) : (Instr.makeSlice 92 (.int .i64 (n : Int)) (.int .i64 (n : Int))).run Try.prog w = .ok (.slice (some ⟨w.heap.size, 0, none⟩) n n) (w.alloc (.cells (madeCells #[.int .u8 0] n) 5)) := by
  obtain ⟨i0, hi, hz0, hz1, hz2⟩ := info_parts info_u8
  have := run_make (P := Try.prog) w 92 5 i0 (.int .u8 0) Try.underlying92 hi hz0 .i64 .i64 (n : Int) (n : Int) (by omega) (by omega) (by rw [hz2]; omega) (by omega)
  simp only [Int.toNat_natCast, hz1, Nat.mul_one] at this
  exact this
theorem made_row (n : Nat) : (madeCells #[.int .u8 0] n).toList = (rowOf [] n).map u8V := by
  rw [rowOf_nil]
  apply List.ext_getElem?
  intro j
  unfold madeCells
  by_cases h : j < n <;> simp [u8V, h, Nat.mod_one]
theorem below_alloc (w : World) (o : Obj) : Below w.heap.size w (w.alloc o) := (Below.refl _ _).alloc (Nat.le_refl _) _
set_option maxRecDepth 100000 in
set_option maxHeartbeats 4000000 in
theorem rBytes_any (base B : Nat) (bs : List Bool) (w : World) (hW : RwIs w base B bs) (hlen : bs.length ≤ 524288) :
    Calls Try.prog 39 #[.pointer (some ⟨B, 0, none⟩)] w fun e w' => e = .returned (.tuple #[.string (strOf (pack bs)), .int .i64 0]) ∧ Below w.heap.size w w' := by
  obtain ⟨S, hS⟩ : ∃ S, S = strOf (pack bs) := ⟨_, rfl⟩
  rw [← hS]
  obtain ⟨v, hV⟩ := hW
  have kb0 := hV.blk.cell 0
  have kb1 := hV.blk.cell 1
  obtain ⟨A, c, rfl⟩ := owns_slice hV.own
  obtain ⟨N, hN⟩ : ∃ N, N = nby bs.length := ⟨_, rfl⟩
  have hN2 : ((bs.length : Int) + 7) / 8 = (N : Int) := by rw [hN]; unfold nby; omega
  have hN3 : N ≤ 1000000 := by rw [hN]; unfold nby; omega
  have hmk := fun W => make_u8 N hN3 W
  have hown0 : (w.alloc (.cells (madeCells #[.int .u8 0] N) 5)).ownsRow w.heap.size 5 1 (.slice (some ⟨w.heap.size, 0, none⟩) N N) N ((rowOf [] N).map u8V) := by
    rw [← made_row]
    exact World.ownsRow_lit w _ N (Nat.le_refl _) (by unfold maxLen; omega) (by rw [size_madeCells]; omega)
  have hb0 := below_alloc w (.cells (madeCells #[.int .u8 0] N) 5)
  replace hV := Lib.hid hV
  replace hN := Lib.hid hN
  replace hown0 := Lib.hid hown0
  replace hb0 := Lib.hid hb0
  replace hS := Lib.hid hS
  go_enter Try.func39, Try.ntmps39
  go_wp2_with fail
  clear kb0 kb1 hmk
  replace hN2 := Lib.hid hN2
  have hBs : B < w.heap.size := hV.out.blk.lt
  go_loopw [5] (fun i wr => ∃ k : Nat, k ≤ bs.length ∧ i = .int .i64 k ∧ Hid (wr.ownsRow w.heap.size 5 1 (.slice (some ⟨w.heap.size, 0, none⟩) N N) N ((rowOf (bs.take k) N).map u8V)) ∧ Hid (Below w.heap.size w wr)) (fun i _ => bs.length - (intOf i).toNat)
  case atStart => exact ⟨0, by omega, rfl, hown0, hb0⟩
  case round =>
    obtain ⟨k, hk, rfl, HO, HB⟩ := hrel
    have hVr : RwV wr base B _ bs := ⟨⟨(HB.out.block B hBs).trans hV.out.blk.at_⟩, hV.out.own.kept (row := none) ⟨HB.out.os, HB.out.tape, HB.out.output, HB.out.size, fun i hi _ => HB.out.block i hi⟩ (by cases A <;> simp [Value.ownBlock]), hV.out.lt⟩
    have kb0 := hVr.blk.cell 0
    have kb1 := hVr.blk.cell 1
    have hbl := hVr.blk.lt
    by_cases hlt : k < bs.length
    · have hbk : bs[k]? = some (bs.getD k false) := by rw [List.getD_eq_getElem?_getD, List.getElem?_eq_getElem hlt]; rfl
      have htk : bs.take (k + 1) = bs.take k ++ [bs.getD k false] := by rw [List.take_add_one, hbk]; rfl
      have hl : (bs.take k).length = k := by rw [List.length_take]; omega
      have hj : k / 8 < N := by rw [hN.out]; unfold nby; omega
      obtain ⟨g, cap, hform, _⟩ := hVr.own.form (by omega)
      injection hform with e1 e2 e3
      subst e1 e3
      have kd := hVr.own.cellAt k (by omega)
      rw [List.getElem?_map, hbk] at kd
      have ko := HO.out.cellAt (k / 8) (by omega)
      rw [List.getElem?_map, rowOf_get _ _ _ hj] at ko
      have kof := HO.out.frozenAt (k / 8)
      have HS := HO.out.stored (k / 8) (u8V (byteOf (bs.take k ++ [bs.getD k false]) (k / 8)))
      rw [← List.map_set] at HS
      have hrs := rowOf_snoc (bs.take k) (bs.getD k false) N (by rw [hl]; exact hj)
      rw [hl] at hrs
      rw [← hrs, ← htk] at HS
      have hor := or_byte (bs.take k) (bs.getD k false)
      rw [hl, ← htk] at hor
      generalize bs.getD k false = b at *
      generalize hy1 : byteOf (bs.take (k + 1)) (k / 8) = y1 at *
      generalize hy0 : byteOf (bs.take k) (k / 8) = y0 at *
      obtain ⟨HS1, HS2⟩ := HS
      generalize hjg : k / 8 = j at *
      generalize hrg : k % 8 = r at *
      have q1 : ((k : Int) / 8) = (j : Int) := by omega
      have q2 : ((k : Int) % 8) = (r : Int) := by omega
      have q3 : r < 8 := by omega
      have r7 : (0 : Int) ≤ 7 - (r : Int) := by omega
      have r8 : (7 - (r : Int)).toNat = 7 - r := by omega
      have ko' : wr.cell? ⟨w.heap.size, j, none⟩ = some (.int .u8 (y0 : Int)) := ko
      have kd' : wr.cell? ⟨g, k, none⟩ = some (.int .u8 (b.toNat : Int)) := kd
      have hbb : (0 : Int) ≤ (b.toNat : Int) := by omega
      have hwr : w.heap.size < wr.heap.size := World.block_lt_of_cell? wr _ ko'
      clear ko kd
      replace hVr := Lib.hid hVr
      replace HS1 := Lib.hid HS1
      replace HS2 := Lib.hid HS2
      replace hor := Lib.hid hor
      replace hy1 := Lib.hid hy1
      replace hy0 := Lib.hid hy0
      replace hjg := Lib.hid hjg
      replace hrg := Lib.hid hrg
      replace htk := Lib.hid htk
      replace hl := Lib.hid hl
      replace hbk := Lib.hid hbk
      replace hrs := Lib.hid hrs
      go_wp2_with fail
      go_region
      clear kb0 kb1 q1 q2 r7 r8 ko' kd' kof
      go_wp2_with fail
      have ep : Value.int .u8 (bits .or .u8 (y0 : Int) ((b.toNat : Int) * 2 ^ (7 - r) % 256)) = u8V y1 := by unfold u8V; rw [hor.out]
      have HB2 : Hid (Below w.heap.size w (wr.setCell ⟨w.heap.size, j, none⟩ (u8V y1))) := HB.out.setCell (Nat.le_refl _) _
      go_roundw
      case rel => exact ⟨k + 1, by omega, by go_num, by rw [ep]; exact ⟨HS1.out.1, HS1.out.2⟩, by rw [ep]; exact HB2.out.drew⟩
      case measure => simp [intOf]; omega
    · obtain rfl : k = bs.length := by omega
      have hO := HO.out
      rw [List.take_of_length_le (Nat.le_refl _)] at hO
      have kc := convert_own hO
      rw [show rowOf bs N = pack bs by unfold rowOf pack; rw [hN.out]] at kc
      rw [← hS.out] at kc
      replace hO := Lib.hid hO
      replace hVr := Lib.hid hVr
      go_wp2
      go_ret2
      exact ⟨rfl, HB.out⟩
end Cp
end Go.Proofs.Ytgdkehnakopnnaa
