/- CompressReads, walked. -/
import Derived.Test.YtgdkehnakopnnaaCpC
namespace Go.Proofs.Ytgdkehnakopnnaa
open Go Go.RowKit Go.Sort
namespace Cp
open Mm
theorem eql_hdr (cls lim port rep len : Int) (src dst : ByteArray) (W : World) :
    (binOp .eql 24 (.agg #[.int .i64 cls, .int .i64 lim, .string src, .string dst, .int .i64 port, .int .i64 rep, .int .i64 len]) (.agg #[.int .i64 cls, .int .i64 lim, .string src, .string dst, .int .i64 port, .int .i64 rep, .int .i64 len])).run Try.prog W = .ok (.bool true) W := by
  have u3 := Try.underlying3
  have a3 := Try.isAgg3
  have z3 := Try.sizeOf3
  have u9 := Try.underlying9
  have a9 := Try.isAgg9
  have z9 := Try.sizeOf9
  have hS : Try.prog.underlying 24 = some (.struct (Try.prog.fieldsOf 24)) := by kernel_rfl
  have hp : Try.prog.stoodInHeld 24 = false := by kernel_rfl
  rw [run_eql_struct, show (10000 : Nat) = 9999 + 1 from rfl, run_equalIn_agg W 9999 24 _ _ hS hp]
  simp only [Program.fieldsOf, Try.underlying24]
  go_simp
theorem few_n {ps : List ByteArray} {n : Nat} (h : few ps = true) (hl : ps.length = n) : n ≤ 12 := by
  unfold few at h; simp at h; omega
set_option maxRecDepth 100000 in
set_option maxHeartbeats 8000000 in
theorem compressReads_walk (A : Option Addr) (n c : Nat) (ps : List ByteArray) (d : ByteArray) (w : World) (hs : CtxS w A n ps) (hd : d.size ≤ maxLen) :
    Calls Try.prog 6 #[.slice A n c, .string d] w fun e w' => e = .returned (.bool true) ∧ Below w.heap.size w w' := by
  have ca := Lib.hid (awake_any w)
  have cf := Lib.hid (fun W (hb : Below w.heap.size w W) => few_any A n c ps W (hs.keep hb))
  have hlen := hs.els.len
  have hfn : few ps = true → n ≤ 12 := fun h => few_n h hlen
  unfold maxLen at hd
  have hdm : (d.size : Int) ≤ 9223372036854775807 := by omega
  generalize few ps = F at *
  replace hs := Lib.hid hs
  replace hlen := Lib.hid hlen
  go_enter Try.func6, Try.ntmps6
  go_wp2_with fail
  refine ca.out.mono ?_
  rintro e w1 ⟨rfl, hb⟩
  have HB1 := Lib.hid hb
  have cf1 := Lib.hid (cf.out w1 hb)
  clear ca cf hb
  go_wp2_with fail
  refine cf1.out.mono ?_
  rintro e w2 ⟨rfl, hb⟩
  have HB2 := Lib.hid (bthen HB1.out hb)
  clear cf1 HB1 hb
  cases F with
  | false =>
    go_wp2_with fail
    go_ret
    exact ⟨rfl, HB2.out⟩
  | true =>
    have hn := hfn rfl
    clear hfn
    by_cases h100 : (100 : Int) < (d.size : Int)
    · go_wp2_with fail
      go_ret
      exact ⟨rfl, HB2.out⟩
    · have hd1 : d.size ≤ 60000 := by omega
      have cc := Lib.hid (cloneX_any A n c ps w2 (hs.out.keep HB2.out) (by omega))
      go_wp2_with fail
      refine cc.out.mono ?_
      rintro e w3 hq
      obtain ⟨A1, c1, rfl, hC1, _, hb⟩ := hq
      have HB3 := Lib.hid (bthen HB2.out hb)
      have cE := Lib.hid (Expand_any A1 n c1 ps d w3 hC1 hd1)
      have cQ := fun W (hb : Below w.heap.size w W) => rExpand_any A n c ps d W (hs.out.keep hb) hd1
      rw [exp_eq] at cQ
      generalize ExpP ps d = X at *
      obtain ⟨h, rest, er⟩ := X
      obtain ⟨cls, lim, src, dst, port, rep, len⟩ := h
      unfold expV hdrC at cE cQ
      dsimp only at cE cQ
      clear cc HB2 hb hC1
      replace cQ := Lib.hid cQ
      go_wp2_with fail
      refine cE.out.mono ?_
      rintro e w4 ⟨rfl, hb⟩
      have HB4 := Lib.hid (bthen HB3.out hb)
      have HB5 := Lib.hid (bthen HB4.out (below_alloc w4 (.cells #[.int .i64 cls, .int .i64 lim, .string src, .string dst, .int .i64 port, .int .i64 rep, .int .i64 len] 24)))
      have hH5 := Lib.hid (Blk.new w4 #[.int .i64 cls, .int .i64 lim, .string src, .string dst, .int .i64 port, .int .i64 rep, .int .i64 len] 24)
      have cQ2 := Lib.hid (cQ.out _ HB5.out)
      clear cE HB3 cQ hb
      go_wp2_with fail
      refine cQ2.out.mono ?_
      rintro e w5 ⟨rfl, hb⟩
      have HB6 := Lib.hid (bthen HB5.out hb)
      have HB7 := Lib.hid (bthen HB6.out (below_alloc w5 (.cells #[.int .i64 cls, .int .i64 lim, .string src, .string dst, .int .i64 port, .int .i64 rep, .int .i64 len] 24)))
      have S5 := Seven.of (h := ⟨cls, lim, src, dst, port, rep, len⟩) (hH5.out.keep hb)
      have k0 := S5.c0
      have k1 := S5.c1
      have k2 := S5.c2
      have k3 := S5.c3
      have k4 := S5.c4
      have k5 := S5.c5
      have k6 := S5.c6
      dsimp only at k0 k1 k2 k3 k4 k5 k6
      have hlt := World.block_lt_of_cell? w5 _ k0
      have kE := eql_hdr cls lim port rep len src dst
      clear cQ2 HB4 HB5 hH5 S5
      replace hb := Lib.hid hb
      go_wp2_with fail
      go_ret
      exact ⟨rfl, HB7.out⟩
end Cp
end Go.Proofs.Ytgdkehnakopnnaa
