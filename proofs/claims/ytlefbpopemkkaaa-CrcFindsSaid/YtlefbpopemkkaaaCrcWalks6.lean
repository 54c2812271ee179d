/- Protect, Syndrome, Check. -/
import Derived.Test.YtlefbpopemkkaaaCrcWalks5
import Derived.Lib.QuietBelow
import Derived.BigQuiet
namespace Go.Proofs.Ytlefbpopemkkaaa
open Go Go.RowKit Go.Sort
namespace Crc
/-- the two bytes behind a protected string -/
def tail2 (s : W) : ByteArray := strOfNums [z s / (256 : Int) % (256 : Int), z s % (256 : Int)]
def prot (d : ByteArray) : ByteArray := d ++ tail2 (sumB d)
/-- its polynomial's residue -/
def VB (d : ByteArray) : W := V d.data.toList
theorem run_tail2 (w : World) (x y : Int) : (convert 29 9 (.slice (some ⟨w.heap.size, 0, none⟩) 2 2)).run Try.prog (w.alloc (.cells #[.int .u8 x, .int .u8 y] 5)) = .ok (.string (strOfNums [x, y])) (w.alloc (.cells #[.int .u8 x, .int .u8 y] 5)) :=
  run_convert_bytes_arg _ 29 5 Try.underlying29 Try.underlying5 w.heap.size 0 2 2 [x, y] rfl (fun i hi => by
    rw [World.cell?_alloc_at _ _ _ _ rfl]
    rcases (by omega : i = 0 ∨ i = 1) with rfl | rfl <;> rfl) _ Try.underlying9
theorem size_tail2 (s : W) : (tail2 s).size = 2 := by unfold tail2; rw [strOfNums_size]; rfl
set_option maxHeartbeats 400000 in
theorem protect_any (d : ByteArray) (w : World) (hd : d.size ≤ 1000) :
    Calls Try.prog 23 #[.string d] w fun e w' => e = .returned (.string (prot d)) ∧ Below w.heap.size w w' := by
  have hm : d.size ≤ maxLen := by unfold maxLen; omega
  go_enter Try.func23, Try.ntmps23
  go_wp2_with fail
  refine (sum_any _ _ hm).mono ?_
  rintro e w1 ⟨rfl, hb⟩
  have ht := run_tail2 w1 (z (sumB d) / (256 : Int) % (256 : Int)) (z (sumB d) % (256 : Int))
  rw [show strOfNums [z (sumB d) / (256 : Int) % (256 : Int), z (sumB d) % (256 : Int)] = tail2 (sumB d) from rfl] at ht
  have hs := size_tail2 (sumB d)
  have HP : Hid (prot d = d ++ tail2 (sumB d)) := rfl
  go_wp2
  go_ret
  exact ⟨by rw [HP.out]; rfl, hb.alloc hb.size _⟩
theorem slice_list (d : ByteArray) (a b : Nat) : (d.extract a b).data.toList = (d.data.toList.take b).drop a := by
  rw [ByteArray.data_extract, Array.toList_extract, List.extract_eq_take_drop, List.drop_take]
theorem last_two (d : ByteArray) (h : 2 ≤ d.size) : d.data.toList = (d.extract 0 (d.size - 2)).data.toList ++ [d[d.size - 2]'(by omega), d[d.size - 1]'(by omega)] := by
  rw [slice_list, List.drop_zero]
  apply List.ext_getElem
  · simp; have : d.data.size = d.size := rfl; omega
  · intro i h1 h2
    have hs : d.data.toList.length = d.size := rfl
    by_cases c : i < d.size - 2
    · rw [List.getElem_append_left (by simp; have : d.data.size = d.size := rfl; omega), List.getElem_take]
    · rw [List.getElem_append_right (by simp; have : d.data.size = d.size := rfl; omega)]
      have hl : (d.data.toList.take (d.size - 2)).length = d.size - 2 := by rw [List.length_take, hs]; omega
      simp only [hl]
      rcases (by omega : i = d.size - 2 ∨ i = d.size - 1) with e | e
      · subst e; simp; rfl
      · subst e
        simp only [show d.size - 1 - (d.size - 2) = 1 by omega]
        simp; rfl
theorem syn_eq (d : ByteArray) (h : 2 ≤ d.size) : sumB (d.extract 0 (d.size - 2)) ^^^ ((by_ (d[d.size - 2]'(by omega)) <<< 8) ^^^ by_ (d[d.size - 1]'(by omega))) = VB d := by
  have e := congrArg V (last_two d h)
  rw [V_two] at e; exact e.symm
theorem or_by (a b : UInt8) : bits .or .u16 ((a.toNat : Int) * (256 : Int)) (b.toNat : Int) = z ((by_ a <<< 8) ^^^ by_ b) := by
  have ha := a.toNat_lt
  have e : (a.toNat : Int) * (256 : Int) = z (by_ a <<< 8) := by
    rw [← z_mul256, z_by, wrap16]; omega
  rw [e, ← z_by b, z_or]
  congr 1
  apply BitVec.eq_of_getLsbD_eq
  intro i hi
  have hz : ∀ c : UInt8, (by_ c).getLsbD i = (c.toBitVec.getLsbD i) := by
    intro c; unfold by_; rw [BitVec.getLsbD_setWidth]; simp [hi]
  have h8 : ∀ c : UInt8, 8 ≤ i → c.toBitVec.getLsbD i = false := fun c h => BitVec.getLsbD_of_ge _ _ h
  rw [BitVec.getLsbD_or, BitVec.getLsbD_xor, BitVec.getLsbD_shiftLeft, hz b]
  by_cases c : i < 8
  · simp [c]
  · rw [h8 b (by omega)]; simp
set_option maxHeartbeats 1000000 in
theorem syndrome_ok (d : ByteArray) (w : World) (h2 : 2 ≤ d.size) (h3 : d.size ≤ 1000) :
    Calls Try.prog 25 #[.string d] w fun e w' => e = .returned (.tuple #[.int .u16 (z (VB d)), .int .i64 0]) ∧ Below w.heap.size w w' := by
  have cs : ∀ d' os, Calls Try.prog 16 #[.string (d.extract 0 (d.size - 2))] (grow (redrawn w d') os) fun e w'' => e = .returned (.int .u16 (z (sumB (d.extract 0 (d.size - 2))))) ∧ ∃ p : Regrown, w'' = grow (redrawn w p.d) p.os :=
    fun d' os => Calls.regrown_of (sum_any _ _ (by unfold maxLen; rw [ByteArray.size_extract]; omega))
  have Hs := Lib.hid cs
  clear cs
  have HX := Lib.hid (z_xor (sumB (d.extract 0 (d.size - 2))) ((by_ (d[d.size - 2]'(by omega)) <<< 8) ^^^ by_ (d[d.size - 1]'(by omega))))
  have HY := Lib.hid (syn_eq d h2)
  have HO := Lib.hid (or_by (d[d.size - 2]'(by omega)) (d[d.size - 1]'(by omega)))
  go_enter Try.func25, Try.ntmps25
  go_wp2
  have b1 : (d[d.size - 2]'(by omega)).toNat < 256 := (d[d.size - 2]'(by omega)).toNat_lt
  have b2 : (d[d.size - 1]'(by omega)).toNat < 256 := (d[d.size - 1]'(by omega)).toNat_lt
  have q1 : (d.size : Int) - 2 < d.size := by omega
  have q7 : (d.size : Int) - 1 < d.size := by omega
  have q2 : ((d.size : Int) - 2).toNat = d.size - 2 := by omega
  have q3 : (2 : Int) ≤ d.size := by omega
  have q4 : (1 : Int) ≤ d.size := by omega
  have q5 : IntKind.i64.wrap ((d.size : Int) - 2 + 1) = d.size - 1 := by rw [IntWalk.i64_in _ (by omega)]; omega
  have q6 : ((d.size : Int) - 1).toNat = d.size - 1 := by omega
  refine wp_region_quiet_below (by kernel_rfl) (by kernel_rfl) ?_
  repeat (first | go_big_quiet_step (exact Hs.out _ _) | quiet_step (exact Hs.out _ _))
  refine wpQuiet_nil ?_
  rintro _ ⟨⟨dq, osq⟩, rfl⟩
  clear q5
  go_wp2
  refine bodyPost_ret (v := .tuple #[.int .u16 (bits .xor .u16 (z (sumB (d.extract 0 (d.size - 2)))) (bits .or .u16 (((d[d.size - 2]'(by omega)).toNat : Int) * (256 : Int)) ((d[d.size - 1]'(by omega)).toNat : Int))), .int .i64 0]) (by simp [results, Try.results25, go_sem]) rfl ⟨by rw [HO.out, HX.out, HY.out], below_regrown w dq osq⟩
set_option maxHeartbeats 1000000 in
theorem syndrome_short (d : ByteArray) (w : World) (h2 : d.size < 2) :
    Calls Try.prog 25 #[.string d] w fun e w' => e = .returned (.tuple #[.int .u16 0, .int .i64 9]) ∧ w = w' := by
  go_enter Try.func25, Try.ntmps25
  go_wp2
  refine bodyPost_ret (v := .tuple #[.int .u16 0, .int .i64 9]) (by simp [results, Try.results25, go_sem]) rfl ⟨rfl, rfl⟩
set_option maxHeartbeats 1000000 in
theorem check_short (d : ByteArray) (w : World) (h2 : d.size < 2) :
    Calls Try.prog 24 #[.string d] w fun e w' => e = .returned (.tuple #[.string ⟨#[]⟩, .int .i64 9]) ∧ w = w' := by
  go_enter Try.func24, Try.ntmps24
  go_wp2_with ((with_reducible refine (syndrome_short _ _ h2).mono ?_); rintro e w' ⟨rfl, rfl⟩)
  refine bodyPost_ret (v := .tuple #[.string ⟨#[]⟩, .int .i64 9]) (by simp [results, Try.results24, go_sem]) rfl ⟨rfl, rfl⟩
set_option maxHeartbeats 1000000 in
theorem check_bad (d : ByteArray) (w : World) (h2 : 2 ≤ d.size) (h3 : d.size ≤ 1000) (hV : VB d ≠ 0) :
    Calls Try.prog 24 #[.string d] w fun e w' => e = .returned (.tuple #[.string ⟨#[]⟩, .int .i64 10]) ∧ Below w.heap.size w w' := by
  have hz : (z (VB d) != 0) = true := by
    rw [bne_iff_ne]; intro h; exact hV (z_inj (by rw [h, zz]))
  clear hV
  go_enter Try.func24, Try.ntmps24
  go_wp2_with ((with_reducible refine (syndrome_ok _ _ h2 h3).mono ?_); rintro e w' ⟨rfl, hb⟩)
  refine bodyPost_ret (v := .tuple #[.string ⟨#[]⟩, .int .i64 10]) (by simp [results, Try.results24, go_sem]) rfl ⟨rfl, hb⟩
set_option maxHeartbeats 1000000 in
theorem check_good (d : ByteArray) (w : World) (h2 : 2 ≤ d.size) (h3 : d.size ≤ 1000) (hV : VB d = 0) :
    Calls Try.prog 24 #[.string d] w fun e w' => e = .returned (.tuple #[.string (d.extract 0 (d.size - 2)), .int .i64 0]) ∧ Below w.heap.size w w' := by
  have HZ : Hid (z (VB d) = 0) := by show _ = _; rw [hV, zz]
  clear hV
  go_enter Try.func24, Try.ntmps24
  go_wp2_with fail
  refine (syndrome_ok _ _ h2 h3).mono ?_
  rintro e w' ⟨rfl, hb⟩
  rw [HZ.out]
  go_wp2
  refine bodyPost_ret (v := .tuple #[.string (d.extract 0 (d.size - 2)), .int .i64 0]) (by simp [results, Try.results24, go_sem]) rfl ⟨rfl, hb⟩
end Crc
end Go.Proofs.Ytlefbpopemkkaaa
