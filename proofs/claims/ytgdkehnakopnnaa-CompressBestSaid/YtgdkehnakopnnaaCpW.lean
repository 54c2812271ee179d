/- A writer of bits in memory. -/
import Derived.Test.YtgdkehnakopnnaaChecked
import Derived.Test.YtgdkehnakopnnaaCpMath
import Derived.Test.YtgdkehnakopnnaaMem
import Derived.Laws.OwnMore
import Derived.Laws.BitsAllLaws
import Derived.IntWalk
import Derived.RegionTactic
import Derived.BigRegion
import Derived.Deep.Cut
import Derived.Deep.CutBlock
import Derived.Deep.DeepCutAuto
import Derived.Outline
namespace Go.Proofs.Ytgdkehnakopnnaa
open Go Go.RowKit Go.Sort
namespace Cp
open Mm
def u8V (x : Nat) : Value := .int .u8 (x : Int)
/-- what lies below 'base' is as it was, but for one block -/
structure Apart (base B : Nat) (w w' : World) : Prop where
  os : w'.os = w.os
  tape : w'.tape = w.tape
  output : w'.output = w.output
  size : w.heap.size ≤ w'.heap.size
  block : ∀ k, k < base → k ≠ B → w'.heap[k]? = w.heap[k]?
theorem Apart.refl (base B : Nat) (w : World) : Apart base B w w := ⟨rfl, rfl, rfl, Nat.le_refl _, fun _ _ _ => rfl⟩
theorem Apart.trans {base B : Nat} {a w w' : World} (h : Apart base B a w) (k : Apart base B w w') : Apart base B a w' :=
  ⟨k.os.trans h.os, k.tape.trans h.tape, k.output.trans h.output, Nat.le_trans h.size k.size, fun i hi hne => (k.block i hi hne).trans (h.block i hi hne)⟩
theorem Apart.below {base B n : Nat} {w w' : World} (h : Apart base B w w') (hB : n ≤ B) (hb : n ≤ base) : Below n w w' :=
  ⟨h.os, h.tape, h.output, h.size, fun k hk => h.block k (by omega) (by omega)⟩
theorem Apart.alloc {base B : Nat} {a w : World} (h : Apart base B a w) (hb : base ≤ w.heap.size) (o : Obj) : Apart base B a (w.alloc o) :=
  ⟨h.os, h.tape, h.output, by have := h.size; simp; omega, fun k hk hne => by rw [Below.heap_alloc w o k (by omega)]; exact h.block k hk hne⟩
theorem Apart.drew {base B : Nat} {a w : World} (h : Apart base B a w) : Apart base B a w.drew := ⟨h.os, h.tape, h.output, h.size, h.block⟩
theorem Apart.set {base B i : Nat} {a w : World} (h : Apart base B a w) (v : Value) : Apart base B a (w.setCell ⟨B, i, none⟩ v) :=
  ⟨h.os, h.tape, h.output, by simpa [World.setCell] using h.size, fun k hk hne => by
    rw [heap_setCell_other w ⟨B, i, none⟩ k v (fun e => hne (by rw [e]))]; exact h.block k hk hne⟩
theorem Apart.far {base B g i : Nat} {a w : World} (h : Apart base B a w) (hg : base ≤ g) (v : Value) : Apart base B a (w.setCell ⟨g, i, none⟩ v) :=
  ⟨h.os, h.tape, h.output, by simpa [World.setCell] using h.size, fun k hk hne => by
    rw [heap_setCell_other w ⟨g, i, none⟩ k v (fun e => by simp at e; omega)]; exact h.block k hk hne⟩
theorem Apart.grown {base B : Nat} {a w w' : World} {row : Option Nat} (h : Apart base B a w) (hb : base ≤ w.heap.size) (hg : w.grownBy w' row) (hr : ∀ k, row = some k → base ≤ k) : Apart base B a w' :=
  ⟨hg.os.trans h.os, hg.tape.trans h.tape, hg.output.trans h.output, Nat.le_trans h.size hg.size, fun k hk hne => by
    rw [hg.block k (by omega) (fun e => by have := hr k e.symm; omega)]; exact h.block k hk hne⟩
theorem Apart.blk {base B k : Nat} {w w' : World} {C : Array Value} {t : TypeId} (h : Apart base B w w') (hb : Blk w k C t) (hk : k < base) (hne : k ≠ B) : Blk w' k C t := ⟨by rw [h.block k hk hne]; exact hb.at_⟩
/-- the writer's block and its row of bytes -/
structure WrX (w : World) (base B : Nat) (v : Value) (k : Nat) (n : Nat) (xs : List Nat) : Prop where
  blk : Blk w B #[v, .int .i64 (k : Int), .int .i64 0] 94
  own : w.ownsRow base 5 1 v n (xs.map u8V)
  lt : B < base
def WrV (w : World) (base B : Nat) (v : Value) (bs : List Bool) : Prop := WrX w base B v bs.length (nby bs.length) (pack bs)
theorem WrX.bits {w : World} {base B : Nat} {v : Value} {k n : Nat} {xs : List Nat} (h : WrX w base B v k n xs) (k' : Nat) : WrX (w.setCell ⟨B, 1, none⟩ (.int .i64 (k' : Int))) base B v k' n xs :=
  ⟨by have := h.blk.set 1 (.int .i64 (k' : Int)); simpa using this, ownsRow_setCell_below h.own (by have := h.lt; simpa using this) _, h.lt⟩
theorem WrX.store {w : World} {base B g cap : Nat} {k n : Nat} {xs : List Nat} (h : WrX w base B (.slice (some ⟨g, 0, none⟩) n cap) k n xs) (j x : Nat) :
    WrX (w.setCell ⟨g, j, none⟩ (u8V x)) base B (.slice (some ⟨g, 0, none⟩) n cap) k n (xs.set j x) :=
  have hg : base ≤ g := (h.own.lt g rfl).1
  ⟨h.blk.other (by have := h.lt; simp; omega) _, by rw [List.map_set]; exact (h.own.stored j (u8V x)).1, h.lt⟩
theorem WrV.drew {w : World} {base B : Nat} {v : Value} {bs : List Bool} (h : WrV w base B v bs) : WrV w.drew base B v bs := ⟨h.blk.drew, ⟨h.own.1, h.own.2⟩, h.lt⟩
/-- the bytes ahead of one more bit -/
def pre (bs : List Bool) : List Nat := if bs.length % 8 = 0 then pack bs ++ [0] else pack bs
theorem pre_length (bs : List Bool) : (pre bs).length = bs.length / 8 + 1 := by
  unfold pre
  split <;> simp [pack_length, nby] <;> omega
theorem pre_get (bs : List Bool) : (pre bs)[bs.length / 8]? = some (byteOf bs (bs.length / 8)) := by
  unfold pre
  split
  · rename_i h
    rw [List.getElem?_append_right (by rw [pack_length]; unfold nby; omega), pack_length, byteOf_past _ _ (by omega)]
    rw [show bs.length / 8 - nby bs.length = 0 by unfold nby; omega]; rfl
  · exact pack_get _ _ (by unfold nby; omega)
theorem pre_set (bs : List Bool) (b : Bool) : (pre bs).set (bs.length / 8) (byteOf (bs ++ [b]) (bs.length / 8)) = pack (bs ++ [b]) := by
  unfold pre
  split
  · rw [pack_snoc_new _ _ (by assumption)]
  · rw [pack_snoc_old _ _ (by assumption)]
theorem info_u8 : (Try.prog.info? 5).map (fun i => (i.zero, i.size, i.bytes)) = some (some (.int .u8 0), 1, 1) := by kernel_rfl
theorem put_byte (cs : List Bool) (n i : Nat) (hn : n < 18446744073709551616) (_hi : i ≤ 62) :
    bits .or .u8 (byteOf cs (cs.length / 8) : Int) (IntKind.u8.wrap (IntKind.u8.wrap (bits .and .u64 ((n : Int) / 2 ^ i) 1) * 2 ^ (7 - cs.length % 8))) = (byteOf (cs ++ [n.testBit i]) (cs.length / 8) : Int) := by
  have e1 : ((n : Int) / 2 ^ i) = ((n / 2 ^ i : Nat) : Int) := by simp
  have hlt : n / 2 ^ i < 18446744073709551616 := Nat.lt_of_le_of_lt (Nat.div_le_self _ _) hn
  have e2 : bits .and .u64 ((n / 2 ^ i : Nat) : Int) 1 = ((n.testBit i).toNat : Int) := by
    have := u64_and_nat (n / 2 ^ i) 1 hlt (by omega)
    rw [show ((1 : Nat) : Int) = 1 from rfl] at this
    rw [this, Nat.and_one_is_mod, Nat.testBit_eq_decide_div_mod_eq]
    rcases Nat.mod_two_eq_zero_or_one (n / 2 ^ i) with h | h <;> rw [h] <;> rfl
  rw [e1, e2]
  generalize n.testBit i = b
  have hb : b.toNat ≤ 1 := by cases b <;> decide
  have hr : cs.length % 8 < 8 := Nat.mod_lt _ (by decide)
  have hp : b.toNat * 2 ^ (7 - cs.length % 8) < 256 := by
    have : 2 ^ (7 - cs.length % 8) ≤ 2 ^ 7 := Nat.pow_le_pow_right (by decide) (by omega)
    calc b.toNat * 2 ^ (7 - cs.length % 8) ≤ 1 * 2 ^ 7 := Nat.mul_le_mul hb this
      _ < 256 := by decide
  have e3 : IntKind.u8.wrap ((b.toNat : Int)) = (b.toNat : Int) := IntWalk.u8_in _ (by omega)
  have e4 : ((b.toNat : Int)) * 2 ^ (7 - cs.length % 8) = ((b.toNat * 2 ^ (7 - cs.length % 8) : Nat) : Int) := by simp
  rw [e3, e4, IntWalk.u8_in _ (by omega), u8_or_nat _ _ (byteOf_lt _ _) hp, byteOf_snoc_or]
set_option maxRecDepth 100000 in
set_option maxHeartbeats 2000000 in
theorem put_any (width n base B : Nat) (bs : List Bool) (v : Value) (w : World) (hw : width ≤ 63) (hn : n < 18446744073709551616) (hW : WrV w base B v bs) (hbase : base ≤ w.heap.size) (hlen : bs.length + width ≤ 524288) :
    Calls Try.prog 101 #[.pointer (some ⟨B, 0, none⟩), .int .i64 width, .int .u64 n] w
      fun e w' => e = .returned (.tuple #[]) ∧ Apart base B w w' ∧ ∃ v', WrV w' base B v' (bs ++ bitsOf width n) := by
  obtain ⟨i0, hi, hz0, hz1, hz2⟩ := info_parts info_u8
  replace hi := Lib.hid hi
  replace hz0 := Lib.hid hz0
  replace hz1 := Lib.hid hz1
  replace hz2 := Lib.hid hz2
  replace hW := Lib.hid hW
  go_enter Try.func101, Try.ntmps101
  go_wp2
  go_loopw [6] (fun i wr => ∃ (k : Nat) (ii : Int) (v' : Value), k ≤ width ∧ ii = (width : Int) - 1 - (k : Int) ∧ i = .int .i64 ii ∧ Hid (WrV wr base B v' (bs ++ (bitsOf width n).take k)) ∧ Hid (Apart base B w wr)) (fun i _ => (intOf i + 1).toNat)
  case atStart => exact ⟨0, _, v, by omega, rfl, by simp, by simpa using hW, Apart.refl _ _ _⟩
  case round =>
    obtain ⟨k, ii, v', hk, hii, rfl, HW, HA⟩ := hrel
    by_cases hlt : k < width
    · have hl : (bs ++ (bitsOf width n).take k).length = bs.length + k := by rw [List.length_append, List.length_take, bitsOf_length]; omega
      have htk := bitsOf_take width n k hlt
      obtain ⟨i, rfl⟩ := Int.eq_ofNat_of_zero_le (show 0 ≤ ii by omega)
      have hiv : i = width - 1 - k := by omega
      rw [← hiv] at htk
      have htk2 : bs ++ (bitsOf width n).take (k + 1) = (bs ++ (bitsOf width n).take k) ++ [n.testBit i] := by rw [htk, List.append_assoc]
      generalize hcg : bs ++ (bitsOf width n).take k = cs at *
      have hput := put_byte cs n i hn (by omega)
      generalize hbg : n.testBit i = b at *
      have hi63 : i ≤ 62 := by omega
      have hL : cs.length ≤ 524287 := by omega
      replace hcg := Lib.hid hcg
      replace hl := Lib.hid hl
      replace htk := Lib.hid htk
      replace hiv := Lib.hid hiv
      replace hii := Lib.hid hii
      replace htk2 := Lib.hid htk2
      replace hbg := Lib.hid hbg
      replace hput := Lib.hid hput
      have kb0 := HW.out.blk.cell 0
      have kb1 := HW.out.blk.cell 1
      have kf := HW.out.blk.free
      have hsz := HA.out.size
      have hbl := HW.out.blk.lt
      have r0 : (0 : Int) ≤ (i : Int) := by omega
      go_upto_if 18 with fail
      go_cut [] (fun wx => ∃ (g cap : Nat), Hid (WrX wx base B (.slice (some ⟨g, 0, none⟩) (cs.length / 8 + 1) cap) cs.length (cs.length / 8 + 1) (pre cs)) ∧ Hid (Apart base B w wx))
      case first =>
        by_cases h0 : cs.length % 8 = 0
        · have hz : ((cs.length : Int) % 8 == 0) = true := by rw [beq_iff_eq]; omega
          have hn1 : nby cs.length = cs.length / 8 := by unfold nby; omega
          have hp : pre cs = pack cs ++ [0] := by unfold pre; rw [if_pos h0]
          have hown := HW.out.own
          rw [hn1] at hown
          have hoa := Lib.hid (hown.alloc (.cells #[.int .u8 0] 5))
          have kfa : (wr.alloc (.cells #[.int .u8 0] 5)).frozen? ⟨B, 0, none⟩ = false := (HW.out.blk.alloc _).free 0
          replace hown := Lib.hid hown
          replace hn1 := Lib.hid hn1
          replace hp := Lib.hid hp
          replace h0 := Lib.hid h0
          go_wp2_with (at_builtin; refine wpList_append_lies _ rfl _ _ _ rfl base 5 i0 (.int .u8 0) 1 1 Try.underlying92 hi.out hz0.out hz1.out hz2.out rfl (by decide) v' (cs.length / 8) _ rfl hoa.out ⟨wr.heap.size, 0, none⟩ 1 1 [.int .u8 0] rfl rfl ?c1 ?c2 (by decide) ?c3 ?c4 ?c5 (wr.heap.size + 1) ?c6 ?_)
          try case c1 => exact World.news_of_block (cs := #[.int .u8 0]) (t := 5) (fr := (0, 0)) (heap_alloc_new wr _)
          try case c2 => simp [Value.oneCell']
          try case c3 => unfold maxLen; omega
          try case c4 => omega
          try case c5 => simp; omega
          try case c6 => simp
          intro gg cap w1 hown1 hgrow hat hlt1
          have hbase2 : ∀ q, v'.ownBlock = some q → base ≤ q := fun q hq => (HW.out.own.lt q hq).1
          have hBlt := HW.out.lt
          have hb1 : Blk w1 B _ _ := (HW.out.blk.alloc (.cells #[.int .u8 0] 5)).grown hgrow (fun e => by have := hbase2 _ e; omega)
          have kb1' := hb1.cell 0
          have kf1' := hb1.free 0
          have HX : Hid (WrX (w1.setCell ⟨B, 0, none⟩ (.slice (some ⟨gg, 0, none⟩) (cs.length / 8 + 1) cap)) base B (.slice (some ⟨gg, 0, none⟩) (cs.length / 8 + 1) cap) cs.length (cs.length / 8 + 1) (pre cs)) :=
            ⟨by simpa using hb1.set 0 (.slice (some ⟨gg, 0, none⟩) (cs.length / 8 + 1) cap), by rw [hp.out, List.map_append]; exact ownsRow_setCell_below hown1 hBlt _, hBlt⟩
          have HA2 : Hid (Apart base B w (w1.setCell ⟨B, 0, none⟩ (.slice (some ⟨gg, 0, none⟩) (cs.length / 8 + 1) cap))) :=
            ((HA.out.alloc (by omega) _).grown (by simp; omega) hgrow hbase2).set _
          clear hbase2 hoa kfa kb0 kb1 kf hat
          replace hown1 := Lib.hid hown1
          replace hgrow := Lib.hid hgrow
          replace hb1 := Lib.hid hb1
          go_wp2_with fail
          go_meet
          exact ⟨gg, cap, HX, HA2⟩
        · have hz : ((cs.length : Int) % 8 == 0) = false := by rw [beq_eq_false_iff_ne]; omega
          have hn1 : nby cs.length = cs.length / 8 + 1 := by unfold nby; omega
          have hp : pre cs = pack cs := by unfold pre; rw [if_neg h0]
          have hX := HW.out
          unfold WrV at hX
          rw [hn1, ← hp] at hX
          obtain ⟨gg, cap, rfl, _⟩ := hX.own.form (by omega)
          replace hX := Lib.hid hX
          replace hn1 := Lib.hid hn1
          replace hp := Lib.hid hp
          replace h0 := Lib.hid h0
          go_wp2_with fail
          go_meet
          exact ⟨gg, cap, hX, HA⟩
      case rest =>
        obtain ⟨gg, cap, HX, HA2⟩ := hcut
        generalize wc = wa at *
        clear kb0 kb1 kf hbl HW HA hsz
        have kb0 := HX.out.blk.cell 0
        have kb1 := HX.out.blk.cell 1
        have kf := HX.out.blk.free
        have hbl := HX.out.blk.lt
        have hgg := HX.out.own.lt gg rfl
        have hBlt := HX.out.lt
        have kd := HX.out.own.cellAt (cs.length / 8) (by omega)
        rw [List.getElem?_map, pre_get] at kd
        have kdf := HX.out.own.frozenAt (cs.length / 8)
        have HS := Lib.hid (HX.out.store (cs.length / 8) (byteOf (cs ++ [b]) (cs.length / 8)))
        have HS2 : Hid (WrV ((wa.setCell ⟨gg, cs.length / 8, none⟩ (u8V (byteOf (cs ++ [b]) (cs.length / 8)))).setCell ⟨B, 1, none⟩ (.int .i64 ((cs.length + 1 : Nat) : Int))) base B (.slice (some ⟨gg, 0, none⟩) (cs.length / 8 + 1) cap) (cs ++ [b])) := by
          have := HS.out.bits (cs.length + 1)
          rw [pre_set] at this
          show WrX _ _ _ _ _ _ _
          rw [List.length_append, List.length_singleton, show nby (cs.length + 1) = cs.length / 8 + 1 by unfold nby; omega]
          exact this
        have hne : ¬ gg = B := by omega
        have hne2 : ¬ B = gg := by omega
        have q1 : ((cs.length : Int) / 8) = ((cs.length / 8 : Nat) : Int) := by omega
        have q2 : ((cs.length : Int) % 8) = ((cs.length % 8 : Nat) : Int) := by omega
        have q3 : cs.length % 8 < 8 := by omega
        have kd' : wa.cell? ⟨gg, cs.length / 8, none⟩ = some (.int .u8 (byteOf cs (cs.length / 8) : Int)) := kd
        clear kd
        generalize hj : cs.length / 8 = j at *
        generalize hr : cs.length % 8 = r at *
        have hjL : j < j + 1 := by omega
        have hjl2 : (j : Int) < (j : Int) + 1 := by omega
        have r7 : (0 : Int) ≤ 7 - (r : Int) := by omega
        have r8 : (7 - (r : Int)).toNat = 7 - r := by omega
        generalize byteOf (cs ++ [b]) j = y1 at *
        generalize byteOf cs j = y0 at *
        replace HX := Lib.hid HX
        replace HS := Lib.hid HS
        replace HS2 := Lib.hid HS2
        replace hj := Lib.hid hj
        replace hr := Lib.hid hr
        go_wp2_with fail
        go_region
        clear r0 r7 r8 hjl2
        go_wp2_with fail
        have ep : Value.int .u8 (bits .or .u8 (y0 : Int) (bits .and .u64 ((n : Int) / 2 ^ i) 1 % 256 * 2 ^ (7 - r) % 256)) = u8V y1 := by
          have := hput.out
          rw [IntKind.wrap_u8, IntKind.wrap_u8] at this
          unfold u8V
          rw [this]
        have hi2 : (i : Int) - 1 = (width : Int) - 1 - ((k + 1 : Nat) : Int) := by have := hii.out; omega
        go_roundw
        case rel =>
          refine ⟨k + 1, (i : Int) - 1, .slice (some ⟨gg, 0, none⟩) (j + 1) cap, by omega, hi2, rfl, ?_, ?_⟩
          · rw [ep, htk2.out]; exact HS2.out.drew
          · rw [ep]; exact ((HA2.out.far hgg.1 _).set _).drew
        case measure => simp [intOf]
    · obtain rfl : k = width := by omega
      have hW2 := HW.out
      rw [List.take_of_length_le (by rw [bitsOf_length]; exact Nat.le_refl _)] at hW2
      have hneg : ii = -1 := by omega
      subst hneg
      replace hW2 := Lib.hid hW2
      replace hii := Lib.hid hii
      go_wp2
      go_end0
      exact ⟨rfl, HA.out, v', hW2.out⟩
end Cp
end Go.Proofs.Ytgdkehnakopnnaa
