/- The reference's reader. -/
import Derived.Test.YtgdkehnakopnnaaCpRd
import Derived.Test.YtgdkehnakopnnaaCpR
namespace Go.Proofs.Ytgdkehnakopnnaa
open Go Go.RowKit Go.Sort
namespace Cp
open Mm
theorem get_i64 (s : ByteArray) (v q r p : Nat) (hv : v < 2 ^ 61) (hq : p / 8 = q) (hr : p % 8 = r) (hqs : q < s.size) :
    bits .or .i64 ((v : Int) * 2) (bits .and .i64 (wrap64 (s[q].toNat : Int) / 2 ^ (7 - r)) 1) = ((2 * v + (bit s p).toNat : Nat) : Int) := by
  have hb : (bit s p).toNat ≤ 1 := by cases bit s p <;> decide
  have e1 : ((s[q].toNat : Int) / 2 ^ (7 - r)) = ((byt s q / 2 ^ (7 - r) : Nat) : Int) := by rw [byt_at s q hqs]; simp
  have hlt : byt s q / 2 ^ (7 - r) < 256 := Nat.lt_of_le_of_lt (Nat.div_le_self _ _) (byt_lt s q)
  have e2 := and1 (byt s q / 2 ^ (7 - r)) (by omega)
  have e3 : (((byt s q / 2 ^ (7 - r) : Nat) : Int)) % 2 = ((bit s p).toNat : Int) := by rw [← bit_and s q r p hq hr]; omega
  have hb0 : s[q].toNat < 256 := UInt8.toNat_lt _
  have e0 : wrap64 (s[q].toNat : Int) = (s[q].toNat : Int) := by unfold wrap64; omega
  rw [e0, e1, e2, e3]
  have := (bits_nat .i64 62 (by decide) (fun n h0 h1 => IntWalk.i64_in _ (by omega)) (v * 2) (bit s p).toNat (by omega) (by omega)).2
  rw [two_or _ _ hb] at this
  rw [← this]
  rfl
set_option maxRecDepth 100000 in
set_option maxHeartbeats 4000000 in
theorem qleft_any (B a : Nat) (s : ByteArray) (w : World) (hs : s.size ≤ 100000) (hR : RdIs 107 w B s (some a)) :
    Calls Try.prog 107 #[.pointer (some ⟨B, 0, none⟩)] w (GetPost 107 (.int .i64 (8 * (s.size : Int) - (a : Int))) B s (some a) w) := by
  have kb0 := hR.1.cell 0
  have kb1 := hR.1.cell 1
  have ha := hR.2
  have r1 : (0 : Int) ≤ 8 * (s.size : Int) - (a : Int) := by omega
  replace hR := Lib.hid hR
  go_enter Try.func107, Try.ntmps107
  go_wp2_with fail
  go_quiet (fail)
  go_wp2_with fail
  go_ret
  exact ⟨rfl, gb_drewN (gb_refl _ _) _, hR.out.1.drewN _, hR.out.2⟩
set_option maxRecDepth 100000 in
set_option maxHeartbeats 4000000 in
theorem qfail_any (B : Nat) (n : Int) (hn : n ≠ 0) (s : ByteArray) (a : Nat) (w : World) (hR : RdIs 107 w B s (some a)) :
    Calls Try.prog 98 #[.pointer (some ⟨B, 0, none⟩), .int .i64 n] w (GetPost 107 (.tuple #[]) B s none w) := by
  have hb := hR.1
  have kb0 := hb.cell 0
  have kb1 := hb.cell 1
  have kb2 := hb.cell 2
  have kf := hb.free
  have hR2 : RdIs 107 (((w.setCell ⟨B, 2, none⟩ (.int .i64 n)).setCell ⟨B, 0, none⟩ (.string ⟨#[]⟩)).setCell ⟨B, 1, none⟩ (.int .i64 0)) B s none :=
    ⟨⟨#[]⟩, 0, n, hn, by simpa using ((hb.set 2 (.int .i64 n)).set 0 (.string ⟨#[]⟩)).set 1 (.int .i64 0)⟩
  replace hR := Lib.hid hR
  replace hR2 := Lib.hid hR2
  replace hn := Lib.hid hn
  replace hb := Lib.hid hb
  go_enter Try.func98, Try.ntmps98
  go_wp2_with fail
  go_end0
  exact ⟨rfl, gb_set (gb_set (gb_set (gb_refl _ _) _) _) _, hR2.out⟩
set_option maxRecDepth 100000 in
set_option maxHeartbeats 4000000 in
theorem qget_any (k B : Nat) (s : ByteArray) (st : Option Nat) (w : World) (hk : k ≤ 61) (hs : s.size ≤ 100000) (hR : RdIs 107 w B s st) :
    Calls Try.prog 97 #[.pointer (some ⟨B, 0, none⟩), .int .i64 k] w (GetPost 107 (.int .i64 ((uns s k st).1 : Int)) B s (uns s k st).2 w) := by
  cases st with
  | none =>
    obtain ⟨s', a', e, he, hb⟩ := hR
    have kb2 := hb.cell 2
    have d : (e != 0) = true := by rw [bne_iff_ne]; exact he
    have hR2 : RdIs 107 w B s none := ⟨s', a', e, he, hb⟩
    show Calls _ _ _ _ (GetPost _ (.int .i64 0) B s none w)
    replace hb := Lib.hid hb
    replace hR2 := Lib.hid hR2
    replace he := Lib.hid he
    go_enter Try.func97, Try.ntmps97
    go_wp2_with fail
    go_ret
    exact ⟨rfl, gb_refl _ _, hR2.out⟩
  | some a =>
    have kb2 := hR.1.cell 2
    have hl := Lib.hid (qleft_any B a s w hs hR)
    by_cases hlt : 8 * s.size < a + k
    · have e : uns s k (some a) = (0, none) := if_pos hlt
      rw [e]
      have d : 8 * (s.size : Int) - (a : Int) < (k : Int) := by omega
      replace hR := Lib.hid hR
      replace e := Lib.hid e
      go_enter Try.func97, Try.ntmps97
      go_wp2_with fail
      refine hl.out.mono ?_
      rintro e w1 ⟨rfl, hg, hr⟩
      have hf := Lib.hid (qfail_any B 9 (by decide) s a w1 hr)
      clear kb2 hl
      replace hg := Lib.hid hg
      replace hr := Lib.hid hr
      go_wp2_with fail
      refine hf.out.mono ?_
      rintro e w2 ⟨rfl, hg2, hr2⟩
      clear hf
      replace hg2 := Lib.hid hg2
      replace hr2 := Lib.hid hr2
      go_wp2_with fail
      go_ret
      exact ⟨rfl, gb_trans hg.out hg2.out, hr2.out⟩
    · have e : uns s k (some a) = (val s a k, some (a + k)) := if_neg hlt
      rw [e]
      have d : ¬ 8 * (s.size : Int) - (a : Int) < (k : Int) := by omega
      replace hR := Lib.hid hR
      replace e := Lib.hid e
      go_enter Try.func97, Try.ntmps97
      go_wp2_with fail
      refine hl.out.mono ?_
      rintro e w1 ⟨rfl, hg1, hr1⟩
      clear kb2 hl
      replace hg1 := Lib.hid hg1
      replace hr1 := Lib.hid hr1
      go_wp2_with fail
      go_loopw [5, 6] (fun n i wr => ∃ j : Nat, j ≤ k ∧ i = .int .i64 j ∧ n = .int .i64 (val s a j : Int) ∧ Hid (RdIs 107 wr B s (some (a + j))) ∧ Hid (w.grownBy wr (some B))) (fun _ i _ => k - (intOf i).toNat)
      case atStart => exact ⟨0, by omega, rfl, rfl, by simpa using hr1, hg1⟩
      case round =>
        obtain ⟨j, hj, rfl, rfl, HR, HG⟩ := hrel
        by_cases hlt : j < k
        · have kb0 := HR.out.1.cell 0
          have kb1 := HR.out.1.cell 1
          have kf := HR.out.1.free 1
          have hbl := HR.out.1.lt
          generalize hq : (a + j) / 8 = q at *
          generalize hr : (a + j) % 8 = r at *
          have q1 : (((a + j : Nat) : Int) / 8) = (q : Int) := by omega
          have q2 : (((a + j : Nat) : Int) % 8) = (r : Int) := by omega
          have q3 : r < 8 := by omega
          have hqs : q < s.size := by omega
          have hqs2 : (q : Int) < (s.size : Int) := by omega
          have r7 : (0 : Int) ≤ 7 - (r : Int) := by omega
          have r8 : (7 - (r : Int)).toNat = 7 - r := by omega
          have hv0 : (0 : Int) ≤ (val s a j : Int) := by omega
          have hv2 : val s a j < 2 ^ 61 := Nat.lt_of_lt_of_le (val_lt s a j) (Nat.pow_le_pow_right (by decide) (by omega))
          have hv3 : (val s a j : Int) ≤ 2305843009213693951 := by omega
          have hu := get_i64 s (val s a j) q r (a + j) hv2 hq hr hqs
          have hva : val s a (j + 1) = 2 * val s a j + (bit s (a + j)).toNat := rfl
          rw [← hva] at hu
          have hpb : (((a + j : Nat) : Int)) ≤ 800000 := by omega
          have hpa : a + (j + 1) = (a + j) + 1 := by omega
          have hR2 : RdIs 107 (wr.setCell ⟨B, 1, none⟩ (.int .i64 ((a + j + 1 : Nat) : Int))) B s (some (a + j + 1)) := ⟨by have := HR.out.1.set 1 (.int .i64 ((a + j + 1 : Nat) : Int)); simpa using this, by omega⟩
          generalize hv1 : val s a (j + 1) = v1 at *
          generalize hvg : val s a j = v0 at *
          generalize hp : a + j = p at *
          replace hq := Lib.hid hq
          replace hr := Lib.hid hr
          replace hp := Lib.hid hp
          replace hpa := Lib.hid hpa
          replace hu := Lib.hid hu
          replace hva := Lib.hid hva
          replace hvg := Lib.hid hvg
          replace hR2 := Lib.hid hR2
          replace hv1 := Lib.hid hv1
          clear hv2
          go_wp2_with fail
          go_region
          clear q1 q2 r7 r8
          go_wp2_with fail
          have HG2 := gb_drew (gb_set (i := 1) HG.out (.int .i64 ((p : Int) + 1)))
          have hRd : RdIs 107 (wr.setCell ⟨B, 1, none⟩ (.int .i64 ((p : Int) + 1))).drew B s (some (p + 1)) := ⟨hR2.out.1.drew, hR2.out.2⟩
          go_roundw
          case rel => exact ⟨j + 1, by omega, by go_num, by rw [hu.out, hv1.out], by rw [hpa.out]; exact hRd, HG2⟩
          case measure => simp [intOf]; omega
        · obtain rfl : j = k := by omega
          go_wp2_with fail
          go_ret
          exact ⟨rfl, HG.out, HR.out⟩
set_option maxRecDepth 100000 in
set_option maxHeartbeats 4000000 in
theorem qUns_any (k B : Nat) (s : ByteArray) (st : Option Nat) (w : World) (h1 : 1 ≤ k) (hk : k ≤ 61) (hs : s.size ≤ 100000) (hR : RdIs 107 w B s st) :
    Calls Try.prog 83 #[.pointer (some ⟨B, 0, none⟩), .int .i64 k] w (GetPost 107 (.int .i64 ((uns s k st).1 : Int)) B s (uns s k st).2 w) := by
  have hf := Lib.hid (qget_any k B s st w (by omega) hs hR)
  obtain ⟨s', a', e, he, hb⟩ : ∃ (s' : ByteArray) (a' e : Int), stV st e ∧ Blk w B #[.string s', .int .i64 a', .int .i64 e] 107 := by
    cases st with
    | none => obtain ⟨s', a', e, he, hb⟩ := hR; exact ⟨s', a', e, by unfold stV; simp [he], hb⟩
    | some a => exact ⟨s, a, 0, by unfold stV; simp, hR.1⟩
  have kb2 := hb.cell 2
  generalize (uns s k st).1 = V at *
  generalize (uns s k st).2 = st2 at *
  have a1 : (1 : Int) ≤ (k : Int) := by omega
  have a2 : (k : Int) ≤ 63 := by omega
  replace hR := Lib.hid hR
  replace hb := Lib.hid hb
  replace he := Lib.hid he
  by_cases d0 : e = 0
  · subst d0
    go_enter Try.func83, Try.ntmps83
    go_wp2_with fail
    refine hf.out.mono ?_
    rintro e w1 ⟨rfl, hg, hr⟩
    clear hf
    replace hg := Lib.hid hg
    replace hr := Lib.hid hr
    go_wp2_with fail
    go_ret
    exact ⟨rfl, hg.out, hr.out⟩
  · have d : (e == 0) = false := by rw [beq_eq_false_iff_ne]; exact d0
    replace d0 := Lib.hid d0
    go_enter Try.func83, Try.ntmps83
    go_wp2_with fail
    refine hf.out.mono ?_
    rintro e w1 ⟨rfl, hg, hr⟩
    clear hf
    replace hg := Lib.hid hg
    replace hr := Lib.hid hr
    go_wp2_with fail
    go_ret
    exact ⟨rfl, hg.out, hr.out⟩
set_option maxRecDepth 100000 in
set_option maxHeartbeats 4000000 in
theorem qUns0_any (B : Nat) (s : ByteArray) (st : Option Nat) (w : World) (hs : s.size ≤ 100000) (hR : RdIs 107 w B s st) :
    Calls Try.prog 83 #[.pointer (some ⟨B, 0, none⟩), .int .i64 0] w (GetPost 107 (.int .i64 0) B s none w) := by
  cases st with
  | none =>
    have hf := Lib.hid (qget_any 0 B s none w (by omega) hs hR)
    obtain ⟨s', a', e, he, hb⟩ := hR
    have kb2 := hb.cell 2
    have d : (e == 0) = false := by rw [beq_eq_false_iff_ne]; exact he
    replace hb := Lib.hid hb
    replace he := Lib.hid he
    go_enter Try.func83, Try.ntmps83
    go_wp2_with fail
    refine hf.out.mono ?_
    rintro e w1 ⟨rfl, hg, hr⟩
    clear hf
    replace hg := Lib.hid hg
    replace hr := Lib.hid hr
    go_wp2_with fail
    go_ret
    exact ⟨rfl, hg.out, hr.out⟩
  | some a =>
    have kb2 := hR.1.cell 2
    have hl := Lib.hid (qfail_any B 1 (by decide) s a w hR)
    replace hR := Lib.hid hR
    go_enter Try.func83, Try.ntmps83
    go_wp2_with fail
    refine hl.out.mono ?_
    rintro e w1 ⟨rfl, hg, hr⟩
    have hf := Lib.hid (qget_any 0 B s none w1 (by omega) hs hr)
    clear kb2 hl
    replace hg := Lib.hid hg
    replace hr := Lib.hid hr
    go_wp2_with fail
    refine hf.out.mono ?_
    rintro e w2 ⟨rfl, hg2, hr2⟩
    clear hf
    replace hg2 := Lib.hid hg2
    replace hr2 := Lib.hid hr2
    go_wp2_with fail
    go_ret
    exact ⟨rfl, gb_trans hg.out hg2.out, hr2.out⟩
set_option maxRecDepth 100000 in
set_option maxHeartbeats 4000000 in
theorem qFlg_any (B : Nat) (s : ByteArray) (st : Option Nat) (w : World) (hs : s.size ≤ 100000) (hR : RdIs 107 w B s st) :
    Calls Try.prog 82 #[.pointer (some ⟨B, 0, none⟩)] w (GetPost 107 (.bool ((uns s 1 st).1 == 1)) B s (uns s 1 st).2 w) := by
  have hf := Lib.hid (qget_any 1 B s st w (by omega) hs hR)
  generalize (uns s 1 st).1 = V at *
  generalize (uns s 1 st).2 = st2 at *
  have e : ((V : Int) == 1) = (V == 1) := by rw [Bool.eq_iff_iff, beq_iff_eq, beq_iff_eq]; omega
  replace hR := Lib.hid hR
  go_enter Try.func82, Try.ntmps82
  go_wp2_with fail
  refine hf.out.mono ?_
  rintro e w1 ⟨rfl, hg, hr⟩
  clear hf
  replace hg := Lib.hid hg
  replace hr := Lib.hid hr
  go_wp2_with fail
  go_ret
  exact ⟨rfl, hg.out, hr.out⟩
set_option maxRecDepth 100000 in
set_option maxHeartbeats 4000000 in
theorem qErr_any (B : Nat) (s : ByteArray) (st : Option Nat) (w : World) (hR : RdIs 107 w B s st) :
    Calls Try.prog 49 #[.pointer (some ⟨B, 0, none⟩)] w (ErrPost st w) := by
  obtain ⟨s', a', e, he, hb⟩ : ∃ (s' : ByteArray) (a' e : Int), stV st e ∧ Blk w B #[.string s', .int .i64 a', .int .i64 e] 107 := by
    cases st with
    | none => obtain ⟨s', a', e, he, hb⟩ := hR; exact ⟨s', a', e, by unfold stV; simp [he], hb⟩
    | some a => exact ⟨s, a, 0, by unfold stV; simp, hR.1⟩
  have kb2 := hb.cell 2
  replace hb := Lib.hid hb
  replace he := Lib.hid he
  replace hR := Lib.hid hR
  go_enter Try.func49, Try.ntmps49
  go_wp2_with fail
  go_ret
  exact ⟨e, rfl, rfl, he.out⟩
set_option maxRecDepth 100000 in
set_option maxHeartbeats 4000000 in
theorem qNewReader_any (s : ByteArray) (w : World) (hs : s.size ≤ 65536) :
    Calls Try.prog 47 #[.string s] w fun e w' => e = .returned (.pointer (some ⟨w.heap.size, 0, none⟩)) ∧ w' = w.alloc (.cells #[.string s, .int .i64 0, .int .i64 0] 107) := by
  have d : (s.size : Int) ≤ 65536 := by omega
  go_enter Try.func47, Try.ntmps47
  go_wp2_with fail
  go_ret
  exact ⟨rfl, rfl⟩
end Cp
end Go.Proofs.Ytgdkehnakopnnaa
