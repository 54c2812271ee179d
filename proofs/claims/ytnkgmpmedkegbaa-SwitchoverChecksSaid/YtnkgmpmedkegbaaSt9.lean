/- slices.SortStableFunc at duties. -/
import Derived.Test.YtnkgmpmedkegbaaSt8
import Derived.Test.YtnkgmpmedkegbaaSw16
namespace Go.Proofs.Ytnkgmpmedkegbaa
open Go Go.RowKit Go.Sort Go.Shelf Go.Lib
namespace Sw
open Mm St
theorem stP : StP Try.prog 9 where
  mixed := by kernel_rfl
  t0 := Try.underlying0
  a0 := Try.isAgg0
  z0 := Try.sizeOf0
  v0 := Try.zeroValue0
  t3 := Try.underlying3
  a3 := Try.isAgg3
  z3 := Try.sizeOf3
  v3 := Try.zeroValue3
  t4 := Try.underlying4
  a4 := Try.isAgg4
  z4 := Try.sizeOf4
  v4 := Try.zeroValue4
  t38 := Try.underlying38
  a38 := Try.isAgg38
  z38 := Try.sizeOf38
  v38 := Try.zeroValue38
  t78 := Try.underlying78
  a78 := Try.isAgg78
  z78 := Try.sizeOf78
  v78 := Try.zeroValue78
  t94 := Try.underlying94
  a94 := Try.isAgg94
  z94 := Try.sizeOf94
  v94 := Try.zeroValue94
  aE := Try.isAgg45
  zE := Try.sizeOf45
  fSw := Try.func96
  fRo := Try.func94
  fSy := Try.func88
  fSt := Try.func72
theorem eInsD : ∀ args w, (callFunc 87 args).run Try.prog w = .ok (.enter 87 args) w := enters_of Try.func87 (by kernel_rfl) rfl
theorem insD_any (cf : Dut → Dut → Int) (hO : SWO (ltOf cf)) (g : Nat) (cb : Array Value) (blk cap : Nat) (d0 : Array Dut) (w0 : World)
    (eg : ∀ args w, (callFunc g args).run Try.prog w = .ok (.enter g args) w) (hcmp : CmpLays Try.prog g cb dutE 9 cf blk 0 d0.size w0) (R : RowK dutE 9 w0 blk 0 d0) (hsz : d0.size < 1152921504606846976)
    (a b : Nat) (d : Array Dut) (w : World) (hs : d.size = d0.size) (S : SWK dutE 9 w0 blk 0 d w) (hab : a ≤ b) (hb : b ≤ d.size) :
    Calls Try.prog 87 #[.slice (some ⟨blk, 0, none⟩) d0.size cap, .int .i64 a, .int .i64 b, .func (.func g) #[] cb] w (InsPost dutE 9 w0 blk cf d a b) := by
  have hC : CmpLays Try.prog g cb dutE 9 cf blk 0 d.size w := by
    intro m os dk hk x y
    have h2 := (S.on R.hblk m dk os hk).cmp hcmp (by rw [hk, hs]) x y 0 #[]
    have e : grow ((sortWorldK dutE 9 w blk 0 m dk os).drewN 0) #[] = sortWorldK dutE 9 w blk 0 m dk os := by rw [grow_empty]; rfl
    rw [e] at h2
    exact h2
  have h := AnyQ.insertionSortCmpFunc (P := Try.prog) (ρ := Try.insd_ren) Try.insd 9 Try.isAgg45 Try.sizeOf45 dutE dutE_len dutE_one cf g cb blk 0 cap a b d w eg hC (S.holds R.hblk R.hH hs) (S.lt R.hblk) hab hb (by omega)
  change Calls Try.prog 87 _ _ _ at h
  rw [hs] at h
  refine h.mono ?_
  rintro e w' ⟨rfl, n, os, rfl⟩
  have hi := Sort.insertionSort_holds hO d a b hab hb
  exact ⟨rfl, _, S.on R.hblk n _ os hi.1.1, hi⟩
def SortDPost (cf : Dut → Dut → Int) (A : Option Addr) (c base : Nat) (d : List Dut) (w : World) (e : Ending) (w' : World) : Prop :=
  e = .returned (.tuple #[]) ∧ ∃ d' : List Dut, d'.Perm d ∧ d'.Pairwise (fun x y => ltOf cf y x = false) ∧ w'.ownsRow base 45 9 (.slice A d.length c) d.length (d'.flatMap dutE) ∧ ∀ w0 : World, Below w0.heap.size w0 w → w0.heap.size ≤ base → Below w0.heap.size w0 w'
theorem sorted_pw {cf : Dut → Dut → Int} {d : Array Dut} (h : SortedIn (ltOf cf) 0 d.size d) : d.toList.Pairwise (fun x y => ltOf cf y x = false) := by
  rw [List.pairwise_iff_getElem]
  intro i j hi hj hij
  have := h i j (Nat.zero_le _) hij (by simpa using hj)
  rw [getElem!_pos d i (by simpa using hi), getElem!_pos d j (by simpa using hj)] at this
  simpa using this
set_option maxRecDepth 100000 in
set_option maxHeartbeats 4000000 in
theorem stable_none (c : Nat) (fv : Value) (w : World) :
    Calls Try.prog 72 #[.slice none 0 c, .int .i64 0, fv] w fun e w' => e = .returned (.tuple #[]) ∧ w' = w := by
  have h := ins_none Try.insd none c fv w
  replace h := Lib.hid h
  go_enter Try.func72, Try.ntmps72
  go_wp2
  refine wp_loop_rounds 1 ?_
  rw [rounds_succ]
  go_wp2_with (first | (go_at_call 87; refine (h.out).mono ?_; rintro e w' ⟨rfl, rfl⟩))
  refine wp_loop_rounds 1 ?_
  rw [rounds_succ]
  go_wp2
  go_end0
  exact ⟨rfl, rfl⟩
set_option maxRecDepth 100000 in
set_option maxHeartbeats 4000000 in
theorem sortStable_any (cf : Dut → Dut → Int) (hO : SWO (ltOf cf)) (g : Nat) (cb : Array Value) (eg : ∀ args w, (callFunc g args).run Try.prog w = .ok (.enter g args) w) (d : List Dut) (A : Option Addr) (c base : Nat) (w : World)
    (h : w.ownsRow base 45 9 (.slice A d.length c) d.length (d.flatMap dutE)) (hl : d.length ≤ 1000000000) (hC : ∀ blk, base ≤ blk → blk < w.heap.size → CmpLays Try.prog g cb dutE 9 cf blk 0 d.length w) :
    Calls Try.prog 45 #[.slice A d.length c, .func (.func g) #[] cb] w (SortDPost cf A c base d w) := by
  rcases h.2 with ⟨hv, h0⟩ | ⟨b, cap, cur, hv, hbase, hg, r1, r2, r3, r4⟩
  · injection hv with hA _ hc
    subst hA hc
    have hd : d = [] := List.length_eq_zero_iff.1 h0
    subst hd
    have hn := stable_none 0 (.func (.func g) #[] cb) w
    have hF : Hid (SortDPost cf none 0 base [] w (.returned (.tuple #[])) w) := ⟨rfl, [], List.Perm.nil, List.Pairwise.nil, h, fun _ h _ => h⟩
    clear hC hO h eg hl
    replace hn := Lib.hid hn
    go_enter Try.func45, Try.ntmps45
    go_wp2_with (first | (go_at_call 72; refine (hn.out).mono ?_; rintro e w' ⟨rfl, rfl⟩))
    go_end0
    exact hF.out
  · injection hv with hA _ hc
    subst hA hc
    have hH := Sk.holdsK_of dutE 9 dutE_len hg (ss := d) r4
    have hgl : b < w.heap.size := (Array.getElem?_eq_some_iff.1 hg).1
    have R : RowK dutE 9 w b 0 d.toArray := ⟨dutE_len, dutE_one, hH, hgl⟩
    have hcmp := hC b hbase hgl
    rw [← List.size_toArray] at hcmp
    have hS := St.stable_any stP dutE cf hO g cb b c d.toArray w eg hcmp R eInsD (fun x y dk W h1 h2 h3 h4 => insD_any cf hO g cb b c d.toArray w eg hcmp R (by rw [List.size_toArray]; omega) x y dk W h1 h2 h3 h4) (by rw [List.size_toArray]; omega)
    rw [List.size_toArray] at hS
    have hF : Hid (∀ e w', InsPost dutE 9 w b cf d.toArray 0 d.length e w' → SortDPost cf (some ⟨b, 0, none⟩) c base d w e w') := by
      rintro e w' ⟨rfl, d', ⟨q, os, rfl⟩, hp, hs⟩
      have hsz : d'.size = d.length := by rw [hp.1, List.size_toArray]
      refine ⟨rfl, d'.toList, ?_, sorted_pw (by rw [hsz]; exact hs), ?_, fun w0 h0 hb => h0.grown (Sk.grownBy_sortK dutE 9 _) h0.size (fun k hk => by cases hk; omega)⟩
      · have := hp.2.2
        rw [← List.size_toArray, Array.extract_size] at this
        rw [show d.toArray.size = d'.size by rw [hsz, List.size_toArray], Array.extract_size] at this
        exact this
      · exact Sk.owns_sortK dutE 9 dutE_len (m := d.length) (ts := d'.toList) (by simpa using hsz) hbase hg r1 r2 r3
    clear hC hO hcmp R hH hg r3 r4 h eg
    replace hS := Lib.hid hS
    go_enter Try.func45, Try.ntmps45
    go_wp2_with (first | (go_at_call 72; refine (hS.out).mono ?_; rintro e w' ⟨rfl, hq⟩))
    go_end0
    exact hF.out _ _ ⟨rfl, hq⟩
end Sw
end Go.Proofs.Ytnkgmpmedkegbaa
