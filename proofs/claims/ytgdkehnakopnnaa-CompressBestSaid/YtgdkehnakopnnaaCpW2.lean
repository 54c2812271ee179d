/- bitio's writer: field, Unsigned, Flag, NewWriter, Bits, Bytes. -/
import Derived.Test.YtgdkehnakopnnaaCpW
import Derived.Test.YtgdkehnakopnnaaCpShelf
import Derived.Lib.Hide
import Derived.Deep.QuietTactic
import Derived.BigQuiet
import Derived.Laws.BytesArg
namespace Go.Proofs.Ytgdkehnakopnnaa
open Go Go.RowKit Go.Sort
namespace Cp
open Mm
def WrIs (w : World) (base B : Nat) (bs : List Bool) : Prop := ∃ v, WrV w base B v bs
def WrPost (base B : Nat) (bs : List Bool) (w : World) (e : Ending) (w' : World) : Prop := e = .returned (.tuple #[]) ∧ Apart base B w w' ∧ WrIs w' base B bs
set_option maxRecDepth 100000 in
set_option maxHeartbeats 2000000 in
theorem field_any (width n base B : Nat) (bs : List Bool) (w : World) (h1 : 1 ≤ width) (hw : width ≤ 63) (hn : n ≤ 9223372036854775807) (hW : WrIs w base B bs) (hbase : base ≤ w.heap.size) (hlen : bs.length + width ≤ 524288) :
    Calls Try.prog 90 #[.pointer (some ⟨B, 0, none⟩), .bool true, .bool true, .int .i64 width, .int .i64 n] w (WrPost base B (bs ++ bitsOf width n) w) := by
  obtain ⟨v, hV⟩ := hW
  have kb1 := hV.blk.cell 1
  have kb2 := hV.blk.cell 2
  have c := Lib.hid (put_any width n base B bs v w hw (by omega) hV hbase hlen)
  have d : ¬ (524288 : Int) < (bs.length : Int) + (width : Int) := by omega
  replace hV := Lib.hid hV
  go_enter Try.func90, Try.ntmps90
  go_wp2_with fail
  refine c.out.mono ?_
  rintro e w1 ⟨rfl, hA, v', hV'⟩
  replace hA := Lib.hid hA
  replace hV' := Lib.hid hV'
  clear kb1 kb2 c
  go_wp2_with fail
  go_end0
  exact ⟨rfl, hA.out, v', hV'.out⟩
set_option maxRecDepth 100000 in
set_option maxHeartbeats 2000000 in
theorem unsigned_any (width n base B : Nat) (bs : List Bool) (w : World) (h1 : 1 ≤ width) (hw : width ≤ 63) (hn : n < 2 ^ width) (hW : WrIs w base B bs) (hbase : base ≤ w.heap.size) (hlen : bs.length + width ≤ 524288) :
    Calls Try.prog 61 #[.pointer (some ⟨B, 0, none⟩), .int .i64 width, .int .i64 n] w (WrPost base B (bs ++ bitsOf width n) w) := by
  have hn2 : n ≤ 9223372036854775807 := by
    have : 2 ^ width ≤ 2 ^ 63 := Nat.pow_le_pow_right (by decide) hw
    omega
  have c := Lib.hid (field_any width n base B bs w h1 hw hn2 hW hbase hlen)
  have hl := Lib.bitLen_le n width (by omega) hn
  have cl := Try.bits_Len (n : Int) w (by omega) (by omega)
  rw [show ((n : Int)).toNat = n by omega] at cl
  have r1 : ((Lib.bitLen n : Nat) : Int) ≤ (width : Int) := by omega
  generalize Lib.bitLen n = L at *
  have cl2 := Lib.hid cl
  have a1 : (1 : Int) ≤ (width : Int) := by omega
  have a2 : (width : Int) ≤ 63 := by omega
  clear hn hl cl
  replace hW := Lib.hid hW
  go_enter Try.func61, Try.ntmps61
  go_wp2_with fail
  refine cl2.out.mono ?_
  rintro e w1 ⟨rfl, rfl⟩
  go_wp2_with fail
  refine c.out.mono ?_
  rintro e w1 hp
  obtain ⟨rfl, hA, hV'⟩ := hp
  replace hA := Lib.hid hA
  replace hV' := Lib.hid hV'
  clear c
  go_wp2_with fail
  go_end0
  exact ⟨rfl, hA.out, hV'.out⟩
set_option maxRecDepth 100000 in
set_option maxHeartbeats 2000000 in
theorem flag_any (b : Bool) (base B : Nat) (bs : List Bool) (w : World) (hW : WrIs w base B bs) (hbase : base ≤ w.heap.size) (hlen : bs.length + 1 ≤ 524288) :
    Calls Try.prog 60 #[.pointer (some ⟨B, 0, none⟩), .bool b] w (WrPost base B (bs ++ [b]) w) := by
  have e1 : bs ++ [b] = bs ++ bitsOf 1 b.toNat := by cases b <;> rfl
  rw [e1]
  have c := Lib.hid (field_any 1 b.toNat base B bs w (by omega) (by omega) (by cases b <;> simp) hW hbase hlen)
  replace hW := Lib.hid hW
  replace e1 := Lib.hid e1
  go_enter Try.func60, Try.ntmps60
  cases b
  all_goals
    go_wp2_with fail
    refine c.out.mono ?_
    rintro e w1 hp
    obtain ⟨rfl, hA, hV'⟩ := hp
    replace hA := Lib.hid hA
    replace hV' := Lib.hid hV'
    clear c
    go_wp2_with fail
    go_end0
    exact ⟨rfl, hA.out, hV'.out⟩
theorem WrV.new (w : World) : WrV (w.alloc (.cells #[.slice none 0 0, .int .i64 0, .int .i64 0] 94)) (w.heap.size + 1) w.heap.size (.slice none 0 0) [] :=
  ⟨Blk.new w _ _, World.ownsRow_nil _ _ _ _, by omega⟩
/-- a writer that has written nothing owns nothing: its base can be raised -/
theorem WrV.raise {w : World} {base base' B : Nat} (h : WrV w base B (.slice none 0 0) []) (hb : base ≤ base') : WrV w base' B (.slice none 0 0) [] :=
  ⟨h.blk, World.ownsRow_nil _ _ _ _, Nat.lt_of_lt_of_le h.lt hb⟩
set_option maxRecDepth 100000 in
set_option maxHeartbeats 2000000 in
theorem newWriter_any (w : World) :
    Calls Try.prog 58 #[] w fun e w' => e = .returned (.pointer (some ⟨w.heap.size, 0, none⟩)) ∧ w' = w.alloc (.cells #[.slice none 0 0, .int .i64 0, .int .i64 0] 94) := by
  go_enter Try.func58, Try.ntmps58
  go_wp2_with fail
  go_ret
  exact ⟨rfl, rfl⟩
set_option maxRecDepth 100000 in
set_option maxHeartbeats 2000000 in
theorem wbits_any (base B : Nat) (bs : List Bool) (w : World) (hW : WrIs w base B bs) :
    Calls Try.prog 35 #[.pointer (some ⟨B, 0, none⟩)] w fun e w' => e = .returned (.int .i64 (bs.length : Int)) ∧ w = w' := by
  obtain ⟨v, hV⟩ := hW
  have kb1 := hV.blk.cell 1
  replace hV := Lib.hid hV
  go_enter Try.func35, Try.ntmps35
  go_wp2_with fail
  go_ret
  exact ⟨rfl, rfl⟩
/-- the bytes as a string -/
def strOf (xs : List Nat) : ByteArray := strOfNums (xs.map fun x : Nat => (x : Int))
theorem convert_own {w : World} {base n : Nat} {v : Value} {xs : List Nat} (h : w.ownsRow base 5 1 v n (xs.map u8V)) : (convert 92 9 v).run Try.prog w = .ok (.string (strOf xs)) w := by
  have hl : xs.length = n := by have := h.1; simpa using this
  rcases h.2 with ⟨hv, h0⟩ | ⟨g, cap, cur, hv, _⟩
  · subst hv
    have : xs = [] := List.length_eq_zero_iff.1 (by omega)
    subst this
    exact run_convert_bytes_nil w _ _ Try.underlying92 Try.underlying5 _ _ _ Try.underlying9
  · subst hv
    refine run_convert_bytes_arg w _ _ Try.underlying92 Try.underlying5 g 0 n cap _ (by simpa using hl) (fun i hi => ?_) _ Try.underlying9
    rw [Nat.zero_add, h.cellAt i (by omega), List.getElem?_map, List.getD_eq_getElem?_getD, List.getElem?_map, List.getElem?_eq_getElem (by omega)]
    rfl
set_option maxRecDepth 100000 in
set_option maxHeartbeats 2000000 in
theorem wbytes_any (base B : Nat) (bs : List Bool) (w : World) (hW : WrIs w base B bs) :
    Calls Try.prog 37 #[.pointer (some ⟨B, 0, none⟩)] w fun e w' => e = .returned (.tuple #[.string (strOf (pack bs)), .int .i64 0]) ∧ w = w' := by
  obtain ⟨v, hV⟩ := hW
  have kb0 := hV.blk.cell 0
  have kb2 := hV.blk.cell 2
  have kc := convert_own hV.own
  generalize strOf (pack bs) = S at *
  replace hV := Lib.hid hV
  go_enter Try.func37, Try.ntmps37
  go_wp2_with fail
  go_ret2
  exact ⟨rfl, rfl⟩
end Cp
end Go.Proofs.Ytgdkehnakopnnaa
