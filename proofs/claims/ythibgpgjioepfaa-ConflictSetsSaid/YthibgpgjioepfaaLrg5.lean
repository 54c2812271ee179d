/- conflict.Largest; slices.IsSorted over whole numbers. -/
import Derived.Test.YthibgpgjioepfaaLrg4
namespace Go.Proofs.Ythibgpgjioepfaa
open Go Go.RowKit Go.Sort
namespace Nt
open Mm
set_option maxRecDepth 100000 in
set_option maxHeartbeats 1000000 in
theorem isNaN_any (a : Int) (w : World) :
    Calls Try.prog 78 #[.int .i64 a] w fun e w' => e = .returned (.bool false) ∧ Below w.heap.size w w' := by
  go_enter Try.func78, Try.ntmps78
  go_wp2
  go_ret
  exact ⟨by simp, Below.refl _ _⟩
set_option maxRecDepth 100000 in
set_option maxHeartbeats 1000000 in
theorem less_any (a b : Int) (w : World) :
    Calls Try.prog 54 #[.int .i64 a, .int .i64 b] w fun e w' => e = .returned (.bool (decide (a < b))) ∧ Below w.heap.size w w' := by
  have hbw := Lib.hid (Below.refl w.heap.size w)
  go_enter Try.func54, Try.ntmps54
  go_wp2_with fail
  refine (isNaN_any a _).mono ?_
  rintro e w1 ⟨rfl, hb_⟩
  replace hbw := Lib.hid (hbw.out.keep hb_)
  clear hb_
  go_wp2
  go_ret
  exact ⟨rfl, hbw.out⟩
set_option maxRecDepth 100000 in
set_option maxHeartbeats 2000000 in
theorem isSorted_any (A : Option Addr) (n c : Nat) (xs : List Int) (w : World) (hs : IntS w A n xs) (hn : n ≤ 1000) (ho : ∀ i, i + 1 < n → xs.getD i 0 ≤ xs.getD (i + 1) 0) :
    Calls Try.prog 29 #[.slice A n c] w fun e w' => e = .returned (.bool true) ∧ Below w.heap.size w w' := by
  have hbw := Lib.hid (Below.refl w.heap.size w)
  replace hs := Lib.hid hs
  replace ho := Lib.hid ho
  go_enter Try.func29, Try.ntmps29
  go_wp2
  go_loopw [3] (fun i wr => ∃ k : Int, -1 ≤ k ∧ k < (n : Int) ∧ i = .int .i64 k ∧ Hid (Below w.heap.size w wr)) (fun i _ => (intOf i + 1).toNat)
  case atStart => exact ⟨_, by omega, by omega, rfl, hbw⟩
  case round =>
    obtain ⟨k, hk0, hkn, rfl, HB⟩ := hrel
    by_cases h0 : 0 < k
    · obtain ⟨b, off, rfl⟩ := hs.out.els.addr (by omega)
      obtain ⟨q, rfl⟩ : ∃ q : Nat, k = (q : Int) + 1 := ⟨(k - 1).toNat, by omega⟩
      obtain ⟨x, hx, hxm, q0⟩ := (hs.out.keep HB.out).elem (k := q + 1) (by omega)
      obtain ⟨y, hy, hym, q1⟩ := (hs.out.keep HB.out).elem (k := q) (by omega)
      have hle := ho.out q (by omega)
      rw [List.getD_eq_getElem?_getD, List.getD_eq_getElem?_getD, hx, hy] at hle
      simp only [Option.getD_some] at hle
      have hle2 : decide (x < y) = false := by rw [decide_eq_false_iff_not]; omega
      have e1 : ((q : Int) + 1).toNat = q + 1 := by omega
      have e2 : ((q : Int) + 1 - 1).toNat = q := by omega
      have cl : ∀ d os, Calls Try.prog 54 #[.int .i64 x, .int .i64 y] (grow (redrawn wr d) os) fun e w'' => e = .returned (.bool (decide (x < y))) ∧ ∃ p : Regrown, w'' = grow (redrawn wr p.d) p.os :=
        fun d os => Calls.regrown_of (less_any x y _)
      replace cl := Lib.hid cl
      rw [hle2] at cl
      have p0 := cell_regrown q0
      have p1 := cell_regrown q1
      replace hx := Lib.hid hx
      replace hy := Lib.hid hy
      replace hxm := Lib.hid hxm
      replace hym := Lib.hid hym
      go_wp2_with fail
      refine wp_region_quiet_below (by kernel_rfl) (by kernel_rfl) ?_
      repeat (go_big_quiet_step (exact cl.out _ _))
      refine wpQuiet_nil ?_
      rintro _ ⟨⟨dq, osq⟩, rfl⟩
      have hb_ := below_regrown wr dq osq
      replace HB := Lib.hid (HB.out.keep hb_)
      generalize grow (redrawn wr dq) osq = w2 at *
      clear hb_
      clear cl
      go_wp2
      go_roundw
      case rel => exact ⟨_, by omega, by omega, rfl, HB⟩
      case measure => simp [intOf]; omega
    · go_wp2
      go_ret
      exact ⟨rfl, HB.out⟩
def LargestPost (N : Net) (ls : List Lnk) (w : World) (e : Ending) (w' : World) : Prop :=
  ∃ A' m c', e = .returned (.tuple #[.slice A' m c', .int .i64 0]) ∧ IntS w' A' m (intsOf (largestN N ls)) ∧ Below w.heap.size w w'
set_option maxRecDepth 100000 in
set_option maxHeartbeats 4000000 in
theorem largest_any (N : Net) (v : NetV) (ls : List Lnk) (A : Option Addr) (n c : Nat) (w : World) (hN : NetIs w v N) (hL : LnkS w A n ls) (hc : check N = 0) (hn : n ≤ 12) :
    Calls Try.prog 28 #[.agg #[.int .i64 N.nodes, .slice v.PA v.pn v.pc, .int .i64 N.noise, .int .i64 N.threshold, .slice v.LA v.ln v.lc, .slice v.MA v.mn v.mc], .slice A n c] w (LargestPost N ls w) := by
  have hln := hL.els.len
  have HX := fun Bb Bl Bn Bx vb w0 hR => ext_any N v ls A n c w Bb Bl Bn Bx hn n 0 (by omega) [] [] none 0 0 none 0 vb 0 w0 (Nat.zero_le _) rfl (fun x hx => by cases hx) hR ⟨⟨rfl, by decide, fun h => absurd h (by omega)⟩, fun x hx => by cases hx⟩ ⟨⟨rfl, by decide, fun h => absurd h (by omega)⟩, fun x hx => by cases hx⟩
  have hout : goL (goodAt N ls) n n (bestOf [] []) [] = largestN N ls := by unfold largestN; rw [hln]; rfl
  rw [hout] at HX
  have hbw := below_allocN (below_alloc w (.cells #[.int .i64 N.nodes, .slice v.PA v.pn v.pc, .int .i64 N.noise, .int .i64 N.threshold, .slice v.LA v.ln v.lc, .slice v.MA v.mn v.mc] 26)) (.cells #[.slice A n c] 23)
  have BN := (Box.new w #[.int .i64 N.nodes, .slice v.PA v.pn v.pc, .int .i64 N.noise, .int .i64 N.threshold, .slice v.LA v.ln v.lc, .slice v.MA v.mn v.mc] 26).alloc (.cells #[.slice A n c] 23)
  have BL := Box.new (w.alloc (.cells #[.int .i64 N.nodes, .slice v.PA v.pn v.pc, .int .i64 N.noise, .int .i64 N.threshold, .slice v.LA v.ln v.lc, .slice v.MA v.mn v.mc] 26)) #[.slice A n c] 23
  rw [size_alloc1] at BL
  replace hN := Lib.hid hN
  replace hL := Lib.hid hL
  replace hln := Lib.hid hln
  replace HX := Lib.hid HX
  replace hout := Lib.hid hout
  replace hbw := Lib.hid hbw
  replace BN := Lib.hid BN
  replace BL := Lib.hid BL
  go_enter Try.func28, Try.ntmps28
  have kn := BN.out.at_
  have c1 := Lib.hid (check_any N v _ (hN.out.keep hbw.out))
  rw [hc] at c1
  go_wp2_with fail
  refine c1.out.mono ?_
  rintro e w1 ⟨rfl, hb_⟩
  clear kn c1
  replace hbw := Lib.hid (hbw.out.keep hb_)
  replace BN := Lib.hid (BN.out.keep hb_)
  replace BL := Lib.hid (BL.out.keep hb_)
  clear hb_
  have kl := BL.out.at_
  go_upto_region 8 with fail
  have hlo := BL.out.lt
  have BB := (Blk.new w1 #[.slice none 0 0] 24).alloc (.cells #[(.func (.func 52) #[] #[.pointer (some ⟨w1.heap.size, 0, none⟩), .pointer (some ⟨w.heap.size + 1, 0, none⟩), .pointer (some ⟨w.heap.size, 0, none⟩), .pointer (some ⟨w1.heap.size + 1, 0, none⟩)])] 72)
  have BX := Blk.new' (w1.alloc (.cells #[.slice none 0 0] 24)) #[(.func (.func 52) #[] #[.pointer (some ⟨w1.heap.size, 0, none⟩), .pointer (some ⟨w.heap.size + 1, 0, none⟩), .pointer (some ⟨w.heap.size, 0, none⟩), .pointer (some ⟨w1.heap.size + 1, 0, none⟩)])] 72 (w1.heap.size + 1) (by simp)
  have HC : LgC N v ls A n c w ((w1.alloc (.cells #[.slice none 0 0] 24)).alloc (.cells #[(.func (.func 52) #[] #[.pointer (some ⟨w1.heap.size, 0, none⟩), .pointer (some ⟨w.heap.size + 1, 0, none⟩), .pointer (some ⟨w.heap.size, 0, none⟩), .pointer (some ⟨w1.heap.size + 1, 0, none⟩)])] 72)) w1.heap.size (w.heap.size + 1) w.heap.size (w1.heap.size + 1) :=
    ⟨hN.out, hL.out, below_allocN (below_allocN hbw.out _) _, by omega, (BL.out.alloc _).alloc _, (BN.out.alloc _).alloc _, ⟨BX.lt, BX.cell⟩, by omega, by omega, by omega⟩
  have HR : LgR N v ls A n c w ((w1.alloc (.cells #[.slice none 0 0] 24)).alloc (.cells #[(.func (.func 52) #[] #[.pointer (some ⟨w1.heap.size, 0, none⟩), .pointer (some ⟨w.heap.size + 1, 0, none⟩), .pointer (some ⟨w.heap.size, 0, none⟩), .pointer (some ⟨w1.heap.size + 1, 0, none⟩)])] 72)) w1.heap.size (w.heap.size + 1) w.heap.size (w1.heap.size + 1) (.slice none 0 0) 0 [] :=
    ⟨HC, BB, none, 0, rfl, ⟨⟨rfl, by decide, fun h => absurd h (by omega)⟩, fun x hx => by cases hx⟩⟩
  replace BB := Lib.hid BB
  replace HC := Lib.hid HC
  replace HR := Lib.hid HR
  clear kl BB BX
  generalize ((w1.alloc (.cells #[.slice none 0 0] 24)).alloc (.cells #[(.func (.func 52) #[] #[.pointer (some ⟨w1.heap.size, 0, none⟩), .pointer (some ⟨w.heap.size + 1, 0, none⟩), .pointer (some ⟨w.heap.size, 0, none⟩), .pointer (some ⟨w1.heap.size + 1, 0, none⟩)])] 72)) = wS at *
  have kx := HC.out.xbox.at_ 0
  have cx := Lib.hid (HX.out _ _ _ _ _ _ HR.out)
  go_wp2_with fail
  refine cx.out.mono ?_
  rintro e w2 ⟨rfl, hg, vb, nb, HR2⟩
  clear kx cx
  obtain ⟨Ab, cb, rfl, hI⟩ := HR2.best
  have kb : w2.cell? ⟨w1.heap.size, 0, none⟩ = some (.slice Ab nb cb) := HR2.blk.cell 0
  replace HR2 := Lib.hid HR2
  replace hI := Lib.hid hI
  replace hg := Lib.hid hg
  go_wp2
  refine bodyPost_ret (v := .tuple #[.slice Ab nb cb, .int .i64 0]) (by simp [results, Try.results28, go_sem]) rfl ⟨Ab, nb, cb, rfl, hI.out, HR2.out.ctx.below⟩
end Nt
end Go.Proofs.Ythibgpgjioepfaa
