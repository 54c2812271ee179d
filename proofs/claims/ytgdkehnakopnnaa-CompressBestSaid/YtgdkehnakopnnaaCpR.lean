/- The reference's writer: a byte for each bit. -/
import Derived.Test.YtgdkehnakopnnaaCpRd
import Derived.Deep.AppendLies
import Derived.Deep.RegionLaw
namespace Go.Proofs.Ytgdkehnakopnnaa
open Go Go.RowKit Go.Sort
namespace Cp
open Mm
def bV (b : Bool) : Value := .int .u8 (b.toNat : Int)
structure RwV (w : World) (base B : Nat) (v : Value) (bs : List Bool) : Prop where
  blk : Blk w B #[v, .int .i64 0] 99
  own : w.ownsRow base 5 1 v bs.length (bs.map bV)
  lt : B < base
def RwIs (w : World) (base B : Nat) (bs : List Bool) : Prop := ∃ v, RwV w base B v bs
def RwPost (base B : Nat) (bs : List Bool) (w : World) (e : Ending) (w' : World) : Prop := e = .returned (.tuple #[]) ∧ Apart base B w w' ∧ RwIs w' base B bs
/-- one more bit: what the append and the store leave -/
theorem RwV.push {w wa w1 : World} {base B : Nat} {v : Value} {bs : List Bool} {b : Bool} {g cap : Nat} (h : RwV w base B v bs) (hb : base ≤ w.heap.size) (hg0 : w.grownBy wa none)
    (hown : w1.ownsRow base 5 1 (.slice (some ⟨g, 0, none⟩) (bs.length + 1) cap) (bs.length + 1) (bs.map bV ++ [bV b])) (hg : wa.grownBy w1 v.ownBlock) :
    RwV (w1.setCell ⟨B, 0, none⟩ (.slice (some ⟨g, 0, none⟩) (bs.length + 1) cap)) base B (.slice (some ⟨g, 0, none⟩) (bs.length + 1) cap) (bs ++ [b]) ∧ Apart base B w (w1.setCell ⟨B, 0, none⟩ (.slice (some ⟨g, 0, none⟩) (bs.length + 1) cap)) := by
  have hbase2 : ∀ q, v.ownBlock = some q → base ≤ q := fun q hq => (h.own.lt q hq).1
  have hlt := h.lt
  have hn : (none : Option Nat) ≠ some B := fun e => by cases e
  refine ⟨⟨?_, ?_, hlt⟩, ?_⟩
  · have := ((h.blk.grown hg0 hn).grown hg (fun e => by have := hbase2 _ e; omega)).set 0 (.slice (some ⟨g, 0, none⟩) (bs.length + 1) cap)
    simpa using this
  · have := ownsRow_setCell_below hown (a := ⟨B, 0, none⟩) (by simpa using hlt) (.slice (some ⟨g, 0, none⟩) (bs.length + 1) cap)
    simpa using this
  · have a1 := (Apart.refl base B w).grown hb hg0 (fun k hk => by cases hk)
    exact (a1.grown (by have := hg0.size; omega) hg hbase2).set _
theorem RwV.drew {w : World} {base B : Nat} {v : Value} {bs : List Bool} (h : RwV w base B v bs) : RwV w.drew base B v bs := ⟨h.blk.drew, ⟨h.own.1, h.own.2⟩, h.lt⟩
theorem owns_slice {w : World} {base n : Nat} {e : TypeId} {size : Nat} {v : Value} {xs : List Value} (h : w.ownsRow base e size v n xs) : ∃ A c, v = .slice A n c := by
  rcases h.2 with ⟨h, h0⟩ | ⟨g, cap, cur, h, _⟩
  · exact ⟨none, 0, by rw [h, h0]⟩
  · exact ⟨_, _, h⟩
theorem and1 (n : Nat) (h : (n : Int) ≤ 9223372036854775807) : bits .and .i64 (n : Int) 1 = (n : Int) % 2 := by
  show IntKind.i64.wrap (BitVec.ofInt 64 n &&& BitVec.ofInt 64 1).toNat = _
  have e : (BitVec.ofInt 64 (n : Int) &&& BitVec.ofInt 64 1).toNat = n % 2 := by
    rw [BitVec.toNat_and, BitVec.toNat_ofInt, BitVec.toNat_ofInt]
    have e1 : ((n : Int) % ((2 ^ 64 : Nat) : Int)).toNat = n := by omega
    have e2 : ((1 : Int) % ((2 ^ 64 : Nat) : Int)).toNat = 1 := by decide
    rw [e1, e2, Nat.and_one_is_mod]
  rw [e, IntWalk.i64_in _ (by omega)]
  omega

theorem rput_val (n i : Nat) (hn : n ≤ 9223372036854775807) : Value.int .u8 (IntKind.u8.wrap (bits .and .i64 ((n : Int) / 2 ^ i) 1)) = bV (n.testBit i) := by
  have e1 : ((n : Int) / 2 ^ i) = ((n / 2 ^ i : Nat) : Int) := by simp
  have hlt : n / 2 ^ i ≤ 9223372036854775807 := Nat.le_trans (Nat.div_le_self _ _) hn
  have e2 : bits .and .i64 ((n / 2 ^ i : Nat) : Int) 1 = ((n.testBit i).toNat : Int) := by
    rw [and1 _ (by omega), Nat.testBit_eq_decide_div_mod_eq]
    rcases Nat.mod_two_eq_zero_or_one (n / 2 ^ i) with h | h <;> rw [h] <;> simp <;> omega
  rw [e1, e2]
  cases n.testBit i <;> rfl
set_option maxRecDepth 100000 in
set_option maxHeartbeats 4000000 in
theorem rput_any (width n base B : Nat) (bs : List Bool) (w : World) (hw : width ≤ 63) (hn : n ≤ 9223372036854775807) (hW : RwIs w base B bs) (hbase : base ≤ w.heap.size) (hlen : bs.length + width ≤ 524288) :
    Calls Try.prog 95 #[.pointer (some ⟨B, 0, none⟩), .int .i64 width, .int .i64 n] w (RwPost base B (bs ++ bitsOf width n) w) := by
  obtain ⟨v, hV⟩ := hW
  obtain ⟨i0, hi, hz0, hz1, hz2⟩ := info_parts info_u8
  replace hi := Lib.hid hi
  replace hz0 := Lib.hid hz0
  replace hz1 := Lib.hid hz1
  replace hz2 := Lib.hid hz2
  replace hV := Lib.hid hV
  go_enter Try.func95, Try.ntmps95
  go_wp2
  go_loopw [6] (fun i wr => ∃ (k : Nat) (ii : Int) (v' : Value), k ≤ width ∧ ii = (width : Int) - 1 - (k : Int) ∧ i = .int .i64 ii ∧ Hid (RwV wr base B v' (bs ++ (bitsOf width n).take k)) ∧ Hid (Apart base B w wr)) (fun i _ => (intOf i + 1).toNat)
  case atStart => exact ⟨0, _, v, by omega, rfl, by simp, by simpa using hV, Apart.refl _ _ _⟩
  case round =>
    obtain ⟨k, ii, v', hk, hii, rfl, HW, HA⟩ := hrel
    by_cases hlt : k < width
    · have hl : (bs ++ (bitsOf width n).take k).length = bs.length + k := by rw [List.length_append, List.length_take, bitsOf_length]; omega
      have htk := bitsOf_take width n k hlt
      obtain ⟨i, rfl⟩ := Int.eq_ofNat_of_zero_le (show 0 ≤ ii by omega)
      have hiv : i = width - 1 - k := by omega
      rw [← hiv] at htk
      have htk2 : bs ++ (bitsOf width n).take (k + 1) = (bs ++ (bitsOf width n).take k) ++ [n.testBit i] := by rw [htk, List.append_assoc]
      generalize hcg : bs ++ (bitsOf width n).take k = cs at *
      have hi63 : i ≤ 62 := by omega
      have hL : cs.length ≤ 524287 := by omega
      replace hcg := Lib.hid hcg
      replace hl := Lib.hid hl
      replace htk := Lib.hid htk
      replace hiv := Lib.hid hiv
      replace hii := Lib.hid hii
      replace htk2 := Lib.hid htk2
      have kb0 := HW.out.blk.cell 0
      have kf := HW.out.blk.free 0
      have hsz := HA.out.size
      have hbl := HW.out.blk.lt
      have hBlt := HW.out.lt
      have r0 : (0 : Int) ≤ (i : Int) := by omega
      go_upto_region 9 with fail
      go_wp2_with fail
      have hoa := Lib.hid ((HW.out.own.alloc (.cells #[.int .u8 (IntKind.u8.wrap (bits .and .i64 ((n : Int) / 2 ^ i) 1))] 5)).drew)
      have hbb : Hid (Blk (wr.alloc (.cells #[.int .u8 (IntKind.u8.wrap (bits .and .i64 ((n : Int) / 2 ^ i) 1))] 5)).drew B #[v', .int .i64 0] 99) := (HW.out.blk.alloc _).drew
      have hbase2 : Hid (∀ q, v'.ownBlock = some q → base ≤ q) := fun q hq => (HW.out.own.lt q hq).1
      go_region_law
        (refine step_append_lies _ (by rfl) _ _ _ (by rfl) base 5 i0 _ 1 1 Try.underlying92 hi.out hz0.out hz1.out hz2.out rfl (by omega) v' cs.length (cs.map bV) (by rfl) hoa.out ⟨wr.heap.size, 0, none⟩ 1 1 [.int .u8 (IntKind.u8.wrap (bits .and .i64 ((n : Int) / 2 ^ i) 1))] (by rfl) (by rfl) (World.news_of_block (cs := #[.int .u8 (IntKind.u8.wrap (bits .and .i64 ((n : Int) / 2 ^ i) 1))]) (t := 5) (fr := (0, 0)) (heap_alloc_new wr _)) (by simp [Value.oneCell']) (by omega) (by unfold maxLen; omega) (by omega) (by simp; omega) (wr.heap.size + 1) (by simp) ?_; intro gg cap w1 hown1 hgrow1 hat1 hlt1; have hb1 := hbb.out.grown hgrow1 (fun e => (by have := hbase2.out _ e; omega)); have q1 := hb1.cell 0; have q2 := hb1.free 0; have hb1 := Lib.hid hb1)
      all_goals
        have eX : Value.int .u8 (IntKind.u8.wrap (bits .and .i64 ((n : Int) / 2 ^ i) 1)) = bV (n.testBit i) := rput_val n i hn
        have HS := RwV.push (b := n.testBit i) HW.out (by omega) (gb_drew (World.grownBy_alloc wr _ none)) (by rw [← eX]; exact hown1) hgrow1
        clear kb0 kf q1 q2 hoa hbb hbase2 hb1 hat1 hgrow1 hown1 hlt1 eX
        have HV := HS.1
        have HA2 := HA.out.trans HS.2
        rw [← htk2.out] at HV
        have hi2 : Hid ((i : Int) - 1 = (width : Int) - 1 - ((k + 1 : Nat) : Int)) := by show _ = _; have := hii.out; omega
        replace HS := Lib.hid HS
        replace HV := Lib.hid HV
        replace HA2 := Lib.hid HA2
        go_wp2_with fail
        go_roundw
        case rel => exact ⟨k + 1, (i : Int) - 1, .slice (some ⟨gg, 0, none⟩) (cs.length + 1) cap, by omega, hi2.out, rfl, HV, HA2⟩
        case measure => simp [intOf]
    · obtain rfl : k = width := by omega
      have hW2 := HW.out
      rw [List.take_of_length_le (by rw [bitsOf_length]; exact Nat.le_refl _)] at hW2
      have hneg : ii = -1 := by omega
      subst hneg
      replace hW2 := Lib.hid hW2
      replace hii := Lib.hid hii
      go_wp2
      go_end0
      exact ⟨rfl, HA.out, v', hW2.out⟩
set_option maxRecDepth 100000 in
set_option maxHeartbeats 2000000 in
theorem room_any (k base B : Nat) (bs : List Bool) (w : World) (hW : RwIs w base B bs) (hlen : bs.length + k ≤ 524288) :
    Calls Try.prog 94 #[.pointer (some ⟨B, 0, none⟩), .int .i64 k] w fun e w' => e = .returned (.bool true) ∧ w = w' := by
  obtain ⟨v, hV⟩ := hW
  have kb0 := hV.blk.cell 0
  have kb1 := hV.blk.cell 1
  have d : ¬ (524288 : Int) < (bs.length : Int) + (k : Int) := by omega
  obtain ⟨A, c, rfl⟩ := owns_slice hV.own
  replace hV := Lib.hid hV
  go_enter Try.func94, Try.ntmps94
  go_wp2_with fail
  go_ret
  exact ⟨rfl, rfl⟩
set_option maxRecDepth 100000 in
set_option maxHeartbeats 2000000 in
theorem rUnsigned_any (width n base B : Nat) (bs : List Bool) (w : World) (h1 : 1 ≤ width) (hw : width ≤ 63) (hn : n < 2 ^ width) (hW : RwIs w base B bs) (hbase : base ≤ w.heap.size) (hlen : bs.length + width ≤ 524288) :
    Calls Try.prog 74 #[.pointer (some ⟨B, 0, none⟩), .int .i64 width, .int .i64 n] w (RwPost base B (bs ++ bitsOf width n) w) := by
  have hn2 : n ≤ 9223372036854775807 := by
    have : 2 ^ width ≤ 2 ^ 63 := Nat.pow_le_pow_right (by decide) hw
    omega
  have c := Lib.hid (rput_any width n base B bs w hw hn2 hW hbase hlen)
  have cr := Lib.hid (room_any width base B bs w hW hlen)
  obtain ⟨v, hV⟩ := hW
  have kb1 := hV.blk.cell 1
  have kf := hV.blk.free 1
  have a1 : (1 : Int) ≤ (width : Int) := by omega
  have a2 : (width : Int) ≤ 63 := by omega
  by_cases h63 : width < 63
  · have hp : (n : Int) < wrap64 (2 ^ width) := by
      have h2 : 2 ^ width ≤ 2 ^ 62 := Nat.pow_le_pow_right (by decide) (by omega)
      have e : ((2 : Int) ^ width) = ((2 ^ width : Nat) : Int) := by simp
      rw [e]
      unfold wrap64
      omega
    have h63' : (width : Int) < 63 := by omega
    clear hn
    replace hV := Lib.hid hV
    go_enter Try.func74, Try.ntmps74
    go_wp2_with fail
    refine cr.out.mono ?_
    rintro e w1 ⟨rfl, rfl⟩
    go_wp2_with fail
    refine c.out.mono ?_
    rintro e w1 hp
    obtain ⟨rfl, hA, hV'⟩ := hp
    replace hA := Lib.hid hA
    replace hV' := Lib.hid hV'
    clear c kb1 kf
    go_wp2_with fail
    go_end0
    exact ⟨rfl, hA.out, hV'.out⟩
  · obtain rfl : width = 63 := by omega
    clear hn
    replace hV := Lib.hid hV
    go_enter Try.func74, Try.ntmps74
    go_wp2_with fail
    refine cr.out.mono ?_
    rintro e w1 ⟨rfl, rfl⟩
    go_wp2_with fail
    refine c.out.mono ?_
    rintro e w1 hp
    obtain ⟨rfl, hA, hV'⟩ := hp
    replace hA := Lib.hid hA
    replace hV' := Lib.hid hV'
    clear c kb1 kf
    go_wp2_with fail
    go_end0
    exact ⟨rfl, hA.out, hV'.out⟩
set_option maxRecDepth 100000 in
set_option maxHeartbeats 2000000 in
theorem rFlagF_any (base B : Nat) (bs : List Bool) (w : World) (hW : RwIs w base B bs) (hbase : base ≤ w.heap.size) (hlen : bs.length + 1 ≤ 524288) :
    Calls Try.prog 73 #[.pointer (some ⟨B, 0, none⟩), .bool false] w (RwPost base B (bs ++ [false]) w) := by
  obtain ⟨i0, hi, hz0, hz1, hz2⟩ := info_parts info_u8
  have cr := Lib.hid (room_any 1 base B bs w hW hlen)
  obtain ⟨v, hV⟩ := hW
  have kb0 := hV.blk.cell 0
  have hoa := Lib.hid (hV.own.alloc (.cells #[.int .u8 0] 5))
  have hbb := Lib.hid (hV.blk.alloc (.cells #[.int .u8 0] 5))
  have hbase2 : Hid (∀ q, v.ownBlock = some q → base ≤ q) := fun q hq => (hV.own.lt q hq).1
  have hBlt := hV.lt
  replace hi := Lib.hid hi
  replace hz0 := Lib.hid hz0
  replace hz1 := Lib.hid hz1
  replace hz2 := Lib.hid hz2
  replace hV := Lib.hid hV
  go_enter Try.func73, Try.ntmps73
  go_wp2_with fail
  refine cr.out.mono ?_
  rintro e w1 ⟨rfl, rfl⟩
  go_wp2_with (at_builtin; refine wpList_append_lies _ rfl _ _ _ rfl base 5 i0 (.int .u8 0) 1 1 Try.underlying92 hi.out hz0.out hz1.out hz2.out rfl (by decide) v bs.length _ rfl hoa.out ⟨w.heap.size, 0, none⟩ 1 1 [.int .u8 0] rfl rfl ?c1 ?c2 (by decide) ?c3 ?c4 ?c5 (w.heap.size + 1) ?c6 ?_)
  try case c1 => exact World.news_of_block (cs := #[.int .u8 0]) (t := 5) (fr := (0, 0)) (heap_alloc_new w _)
  try case c2 => simp [Value.oneCell']
  try case c3 => unfold maxLen; omega
  try case c4 => omega
  try case c5 => simp; omega
  try case c6 => simp
  intro gg cap w1 hown1 hgrow hat hlt1
  have hb1 := hbb.out.grown hgrow (fun e => by have := hbase2.out _ e; omega)
  have q1 := hb1.cell 0
  have q2 := hb1.free 0
  have HS := RwV.push (b := false) hV.out hbase (World.grownBy_alloc w _ none) hown1 hgrow
  replace HS := Lib.hid HS
  replace hb1 := Lib.hid hb1
  replace hown1 := Lib.hid hown1
  replace hgrow := Lib.hid hgrow
  clear kb0 hoa hbb hat
  go_wp2_with fail
  go_end0
  exact ⟨rfl, HS.out.2, _, HS.out.1⟩
set_option maxRecDepth 100000 in
set_option maxHeartbeats 2000000 in
theorem rFlagT_any (base B : Nat) (bs : List Bool) (w : World) (hW : RwIs w base B bs) (hbase : base ≤ w.heap.size) (hlen : bs.length + 1 ≤ 524288) :
    Calls Try.prog 73 #[.pointer (some ⟨B, 0, none⟩), .bool true] w (RwPost base B (bs ++ [true]) w) := by
  obtain ⟨i0, hi, hz0, hz1, hz2⟩ := info_parts info_u8
  have cr := Lib.hid (room_any 1 base B bs w hW hlen)
  obtain ⟨v, hV⟩ := hW
  have kb0 := hV.blk.cell 0
  have hoa := Lib.hid (hV.own.alloc (.cells #[.int .u8 1] 5))
  have hbb := Lib.hid (hV.blk.alloc (.cells #[.int .u8 1] 5))
  have hbase2 : Hid (∀ q, v.ownBlock = some q → base ≤ q) := fun q hq => (hV.own.lt q hq).1
  have hBlt := hV.lt
  replace hi := Lib.hid hi
  replace hz0 := Lib.hid hz0
  replace hz1 := Lib.hid hz1
  replace hz2 := Lib.hid hz2
  replace hV := Lib.hid hV
  go_enter Try.func73, Try.ntmps73
  go_wp2_with fail
  refine cr.out.mono ?_
  rintro e w1 ⟨rfl, rfl⟩
  go_wp2_with (at_builtin; refine wpList_append_lies _ rfl _ _ _ rfl base 5 i0 (.int .u8 0) 1 1 Try.underlying92 hi.out hz0.out hz1.out hz2.out rfl (by decide) v bs.length _ rfl hoa.out ⟨w.heap.size, 0, none⟩ 1 1 [.int .u8 1] rfl rfl ?c1 ?c2 (by decide) ?c3 ?c4 ?c5 (w.heap.size + 1) ?c6 ?_)
  try case c1 => exact World.news_of_block (cs := #[.int .u8 1]) (t := 5) (fr := (0, 0)) (heap_alloc_new w _)
  try case c2 => simp [Value.oneCell']
  try case c3 => unfold maxLen; omega
  try case c4 => omega
  try case c5 => simp; omega
  try case c6 => simp
  intro gg cap w1 hown1 hgrow hat hlt1
  have hb1 := hbb.out.grown hgrow (fun e => by have := hbase2.out _ e; omega)
  have q1 := hb1.cell 0
  have q2 := hb1.free 0
  have HS := RwV.push (b := true) hV.out hbase (World.grownBy_alloc w _ none) hown1 hgrow
  replace HS := Lib.hid HS
  replace hb1 := Lib.hid hb1
  replace hown1 := Lib.hid hown1
  replace hgrow := Lib.hid hgrow
  clear kb0 hoa hbb hat
  go_wp2_with fail
  go_end0
  exact ⟨rfl, HS.out.2, _, HS.out.1⟩
theorem rFlag_any (b : Bool) (base B : Nat) (bs : List Bool) (w : World) (hW : RwIs w base B bs) (hbase : base ≤ w.heap.size) (hlen : bs.length + 1 ≤ 524288) :
    Calls Try.prog 73 #[.pointer (some ⟨B, 0, none⟩), .bool b] w (RwPost base B (bs ++ [b]) w) := by
  cases b
  · exact rFlagF_any base B bs w hW hbase hlen
  · exact rFlagT_any base B bs w hW hbase hlen
theorem RwV.new (w : World) : RwV (w.alloc (.cells #[.slice none 0 0, .int .i64 0] 99)) (w.heap.size + 1) w.heap.size (.slice none 0 0) [] :=
  ⟨Blk.new w _ _, World.ownsRow_nil _ _ _ _, by omega⟩
set_option maxRecDepth 100000 in
set_option maxHeartbeats 2000000 in
theorem rNewWriter_any (w : World) :
    Calls Try.prog 72 #[] w fun e w' => e = .returned (.pointer (some ⟨w.heap.size, 0, none⟩)) ∧ w' = w.alloc (.cells #[.slice none 0 0, .int .i64 0] 99) := by
  go_enter Try.func72, Try.ntmps72
  go_wp2_with fail
  go_ret
  exact ⟨rfl, rfl⟩
set_option maxRecDepth 100000 in
set_option maxHeartbeats 2000000 in
theorem rBits_any (base B : Nat) (bs : List Bool) (w : World) (hW : RwIs w base B bs) :
    Calls Try.prog 40 #[.pointer (some ⟨B, 0, none⟩)] w fun e w' => e = .returned (.int .i64 (bs.length : Int)) ∧ w = w' := by
  obtain ⟨v, hV⟩ := hW
  have kb0 := hV.blk.cell 0
  obtain ⟨A, c, rfl⟩ := owns_slice hV.own
  replace hV := Lib.hid hV
  go_enter Try.func40, Try.ntmps40
  go_wp2_with fail
  go_ret
  exact ⟨rfl, rfl⟩
end Cp
end Go.Proofs.Ytgdkehnakopnnaa
