/- The library's sort laid at this program (printed by the kit's laying tools); conflict.Pairs. -/
import Derived.Test.YthibgpgjioepfaaSetA
import Derived.Test.YthibgpgjioepfaaSortK
import Derived.Ground.SlsfProg
import Derived.DeepKeys
import Derived.Test.YthibgpgjioepfaaLaw9
import Derived.Laws.BitsLemmas
namespace Go.Proofs
open Go.Shelf
def Try.sortf_ren : Go.Shelf.Ren := ⟨fun | 6 => 57 | 15 => 80 | 14 => 79 | 28 => 93 | 29 => 94 | 20 => 85 | 21 => 86 | 22 => 87 | 23 => 88 | 24 => 89 | 25 => 90 | 26 => 91 | 27 => 92 | 46 => 95 | 47 => 96 | 48 => 97 | 49 => 98 | 50 => 99 | 57 => 100 | n => n, fun | 22 => 58 | 24 => 63 | 25 => 79 | 3 => 3 | 39 => 90 | 0 => 0 | 53 => 103 | 55 => 105 | 4 => 4 | 46 => 97 | 45 => 96 | 50 => 45 | 5 => 5 | 9 => 9 | 66 => 106 | 70 => 110 | 76 => 112 | 77 => 113 | n => n, fun | n => n⟩
theorem Try.sortf : Go.Proofs.SlLaysF0.n6 Try.prog Try.sortf_ren := {
  mixed := by kernel_rfl
  f6 := ⟨Try.f57.name, by decide, Try.func57.trans (congrArg some (by kernel_rfl))⟩
  f14 := ⟨Try.f79.name, by decide, Try.func79.trans (congrArg some (by kernel_rfl))⟩
  f15 := Try.func80.trans (congrArg some (by kernel_rfl))
  f20 := ⟨Try.f85.name, by decide, Try.func85.trans (congrArg some (by kernel_rfl))⟩
  f21 := ⟨Try.f86.name, by decide, Try.func86.trans (congrArg some (by kernel_rfl))⟩
  f22 := ⟨Try.f87.name, by decide, Try.func87.trans (congrArg some (by kernel_rfl))⟩
  f23 := ⟨Try.f88.name, by decide, Try.func88.trans (congrArg some (by kernel_rfl))⟩
  f24 := ⟨Try.f89.name, by decide, Try.func89.trans (congrArg some (by kernel_rfl))⟩
  f25 := ⟨Try.f90.name, by decide, Try.func90.trans (congrArg some (by kernel_rfl))⟩
  f26 := ⟨Try.f91.name, by decide, Try.func91.trans (congrArg some (by kernel_rfl))⟩
  f27 := ⟨Try.f92.name, by decide, Try.func92.trans (congrArg some (by kernel_rfl))⟩
  f28 := Try.func93.trans (congrArg some (by kernel_rfl))
  f29 := Try.func94.trans (congrArg some (by kernel_rfl))
  f46 := ⟨Try.f95.name, by decide, Try.func95.trans (congrArg some (by kernel_rfl))⟩
  f47 := Try.func96.trans (congrArg some (by kernel_rfl))
  f48 := Try.func97.trans (congrArg some (by kernel_rfl))
  f49 := ⟨Try.f98.name, by decide, Try.func98.trans (congrArg some (by kernel_rfl))⟩
  f50 := ⟨Try.f99.name, by decide, Try.func99.trans (congrArg some (by kernel_rfl))⟩
  f57 := ⟨Try.f100.name, by decide, Try.func100.trans (congrArg some (by kernel_rfl))⟩
  t0 := Try.underlying0
  a0 := Try.isAgg0
  z0 := Try.sizeOf0
  v0 := Try.zeroValue0
  t3 := Try.underlying3
  a3 := Try.isAgg3
  z3 := Try.sizeOf3
  v3 := Try.zeroValue3
  t4 := Try.underlying4
  a4 := Try.isAgg4
  z4 := Try.sizeOf4
  v4 := Try.zeroValue4
  t5 := Try.underlying5
  a5 := Try.isAgg5
  z5 := Try.sizeOf5
  v5 := Try.zeroValue5
  t9 := Try.underlying9
  a9 := Try.isAgg9
  z9 := Try.sizeOf9
  v9 := Try.zeroValue9
  t22 := Try.underlying58
  a22 := Try.isAgg58
  z22 := Try.sizeOf58
  v22 := Try.zeroValue58
  t25 := Try.underlying79
  a25 := Try.isAgg79
  z25 := Try.sizeOf79
  v25 := Try.zeroValue79
  t39 := Try.underlying90
  a39 := Try.isAgg90
  z39 := Try.sizeOf90
  v39 := Try.zeroValue90
  t45 := Try.underlying96
  a45 := Try.isAgg96
  z45 := Try.sizeOf96
  v45 := Try.zeroValue96
  t46 := Try.underlying97
  a46 := Try.isAgg97
  z46 := Try.sizeOf97
  v46 := Try.zeroValue97
  t50 := Try.underlying45
  a50 := Try.isAgg45
  z50 := Try.sizeOf45
  v50 := Try.zeroValue45
  t53 := Try.underlying103
  a53 := Try.isAgg103
  z53 := Try.sizeOf103
  v53 := Try.zeroValue103
  t55 := Try.underlying105
  a55 := Try.isAgg105
  z55 := Try.sizeOf105
  v55 := Try.zeroValue105
  t66 := Try.underlying106
  a66 := Try.isAgg106
  z66 := Try.sizeOf106
  v66 := Try.zeroValue106
  t70 := Try.underlying110
  a70 := Try.isAgg110
  z70 := Try.sizeOf110
  v70 := Try.zeroValue110
  t76 := Try.underlying112
  a76 := Try.isAgg112
  z76 := Try.sizeOf112
  v76 := Try.zeroValue112
  t77 := Try.underlying113
  a77 := Try.isAgg113
  z77 := Try.sizeOf113
  v77 := Try.zeroValue113 }
end Go.Proofs
namespace Go.Proofs.Ythibgpgjioepfaa
open Go Go.RowKit Go.Sort Go.Shelf
namespace Nt
open Mm
theorem ltO2 (x y : Int × Int) : ltOf cf2 x y = true ↔ ltP x y := by unfold ltOf; rw [decide_eq_true_eq, cf2_lt]
theorem ltO2f (x y : Int × Int) : ltOf cf2 x y = false ↔ ¬ ltP x y := by rw [← ltO2, Bool.not_eq_true]
theorem swo2 : SWO (ltOf cf2) where
  irrefl x := by rw [ltO2f]; exact ltP_irrefl x
  trans x y z h1 h2 := by rw [ltO2] at *; exact ltP_trans h1 h2
  ntrans x y z h1 h2 := by
    rw [ltO2f] at *
    intro h
    by_cases e1 : ltP y x
    · exact h2 (ltP_trans e1 h)
    · have := ltP_tri h1 e1
      subst this
      exact h2 h
theorem tot2 (x y : Int × Int) (h1 : ltOf cf2 x y = false) (h2 : ltOf cf2 y x = false) : x = y := by rw [ltO2f] at *; exact ltP_tri h1 h2
theorem prE_len (x : Int × Int) : (prE x).length = 2 := rfl
theorem prE_one (x : Int × Int) : ∀ v ∈ prE x, v.oneCell' = true := by
  intro v hv
  simp only [prE, List.mem_cons, List.not_mem_nil, or_false] at hv
  rcases hv with rfl | rfl <;> rfl
def sortedP (xs : List (Int × Int)) : List (Int × Int) := xs.mergeSort fun x y => !ltOf cf2 y x
def SortPPost (A : Option Addr) (c base : Nat) (xs : List (Int × Int)) (w : World) (e : Ending) (w' : World) : Prop :=
  e = .returned (.tuple #[]) ∧ w'.ownsRow base 63 2 (.slice A xs.length c) xs.length (prs (sortedP xs)) ∧ ∀ w0 : World, Below w0.heap.size w0 w → w0.heap.size ≤ base → Below w0.heap.size w0 w'
theorem sortP_any (xs : List (Int × Int)) (A : Option Addr) (c base : Nat) (w : World) (h : w.ownsRow base 63 2 (.slice A xs.length c) xs.length (prs xs)) (hl : xs.length ≤ 5000) :
    Calls Try.prog 57 #[.slice A xs.length c, .func (.func 58) #[] #[]] w (SortPPost A c base xs w) := by
  rcases h.2 with ⟨hv, h0⟩ | ⟨g, cap, cur, hv, hbase, hg, r1, r2, r3, r4⟩
  · have hn := AnyF.slices_SortFunc_none (P := Try.prog) (ρ := Try.sortf_ren) { Try.sortf with } A c (.func (.func 58) #[] #[]) w
    change Calls Try.prog 57 _ _ _ at hn
    rw [h0]
    refine hn.mono ?_
    rintro e w' ⟨rfl, rfl⟩
    have hx : xs = [] := List.length_eq_zero_iff.1 h0
    subst hx
    exact ⟨rfl, by simpa [sortedP] using h, fun _ h _ => h⟩
  · injection hv with hA _ hc
    subst hA hc
    have hH := Sk.holdsK_of prE 2 prE_len hg (ss := xs) r4
    have hgl : g < w.heap.size := (Array.getElem?_eq_some_iff.1 hg).1
    have hcmp : CmpLays Try.prog 58 #[] prE 2 cf2 g 0 xs.toArray.size w := by
      intro m os dk _ x y
      exact pairsCmp_any x y _
    have hS := AnyQ.slices_SortFunc_total (P := Try.prog) (ρ := Try.sortf_ren) Try.sortf 2 Try.isAgg63 Try.sizeOf63 prE prE_len prE_one cf2 swo2 58 #[] g 0 c xs.toArray w (enters_of Try.func58 (by kernel_rfl) rfl) hcmp hH hgl (by rw [List.size_toArray]; omega) tot2
    change Calls Try.prog 57 _ _ _ at hS
    rw [List.size_toArray] at hS
    refine hS.mono ?_
    rintro e w' ⟨rfl, q, os, rfl⟩
    refine ⟨rfl, ?_, fun w0 h0 hb => h0.grown (Sk.grownBy_sortK prE 2 _) h0.size (fun k hk => by cases hk; omega)⟩
    exact Sk.owns_sortK prE 2 prE_len (m := xs.length) (ts := sortedP xs) (by unfold sortedP; exact List.length_mergeSort _) hbase hg r1 r2 r3
end Nt
end Go.Proofs.Ythibgpgjioepfaa
namespace Go.Proofs.Ythibgpgjioepfaa
open Go Go.RowKit Go.Sort
namespace Nt
open Mm
theorem colC_succ (bad : Nat → Nat → Bool) (k i : Nat) : colC bad k (i + 1) = colC bad k i ++ (if bad i k = true then [((i : Int), (k : Int))] else []) := rfl
set_option maxRecDepth 100000 in
set_option maxHeartbeats 2000000 in
theorem Pairs_err (N : Net) (v : NetV) (A : Option Addr) (n c : Nat) (w : World) (hN : NetIs w v N) (hc : check N ≠ 0 ∨ 45 < n) :
    Calls Try.prog 31 #[.agg #[.int .i64 N.nodes, .slice v.PA v.pn v.pc, .int .i64 N.noise, .int .i64 N.threshold, .slice v.LA v.ln v.lc, .slice v.MA v.mn v.mc], .slice A n c] w fun e w' => e = .returned (.tuple #[.slice none 0 0, .int .i64 (if check N = 0 then 8 else 1)]) ∧ Below w.heap.size w w' := by
  have BX := Box.new w #[.int .i64 N.nodes, .slice v.PA v.pn v.pc, .int .i64 N.noise, .int .i64 N.threshold, .slice v.LA v.ln v.lc, .slice v.MA v.mn v.mc] 26
  have hbw := below_alloc w (.cells #[.int .i64 N.nodes, .slice v.PA v.pn v.pc, .int .i64 N.noise, .int .i64 N.threshold, .slice v.LA v.ln v.lc, .slice v.MA v.mn v.mc] 26)
  have HC := check_any N v _ (hN.keep hbw)
  replace HC := Lib.hid HC
  replace hN := Lib.hid hN
  replace BX := Lib.hid BX
  replace hbw := Lib.hid hbw
  generalize check N = C at *
  go_enter Try.func31, Try.ntmps31
  have kx := BX.out.at_
  go_wp2_with fail
  refine HC.out.mono ?_
  rintro e w1 ⟨rfl, hb_⟩
  clear kx
  replace hbw := Lib.hid (hbw.out.keep hb_)
  clear hb_
  by_cases c0 : C = 0
  · have hn : 45 < n := by rcases hc with h | h; · exact absurd c0 h
                           · exact h
    subst c0
    go_wp2
    refine bodyPost_ret (v := .tuple #[.slice none 0 0, .int .i64 8]) (by simp [results, Try.results31, go_sem]) rfl ⟨rfl, hbw.out⟩
  · have d : (C != 0) = true := by rw [bne_iff_ne]; exact c0
    have e1 : (if C = 0 then (8 : Int) else 1) = 1 := if_neg c0
    clear hc
    replace c0 := Lib.hid c0
    replace e1 := Lib.hid e1
    go_wp2
    refine bodyPost_ret (v := .tuple #[.slice none 0 0, .int .i64 1]) (by simp [results, Try.results31, go_sem]) rfl ⟨rfl, hbw.out⟩
set_option maxRecDepth 100000 in
set_option maxHeartbeats 8000000 in
theorem Pairs_any (N : Net) (v : NetV) (ls : List Lnk) (A : Option Addr) (n c : Nat) (w : World) (hN : NetIs w v N) (hL : LnkS w A n ls) (hc : check N = 0) (hn : n ≤ 45) :
    Calls Try.prog 31 #[.agg #[.int .i64 N.nodes, .slice v.PA v.pn v.pc, .int .i64 N.noise, .int .i64 N.threshold, .slice v.LA v.ln v.lc, .slice v.MA v.mn v.mc], .slice A n c] w (RPairsPost (outR (badN N ls) n n) w) := by
  have hlen := hL.els.len
  obtain ⟨i0, hi, hz0, hz1, hz2⟩ := info_parts info_pr
  have BX := Box.new w #[.int .i64 N.nodes, .slice v.PA v.pn v.pc, .int .i64 N.noise, .int .i64 N.threshold, .slice v.LA v.ln v.lc, .slice v.MA v.mn v.mc] 26
  have hbw := below_alloc w (.cells #[.int .i64 N.nodes, .slice v.PA v.pn v.pc, .int .i64 N.noise, .int .i64 N.threshold, .slice v.LA v.ln v.lc, .slice v.MA v.mn v.mc] 26)
  have HC := check_any N v _ (hN.keep hbw)
  rw [hc] at HC
  have HT := fun W (h : NetIs W v N) a b (ha : a.ok) (hb : b.ok) => Together_any N v a b W h ha hb
  have hbad : ∀ i k, badN N ls i k = !togetherN N (ls.getD i default) (ls.getD k default) := fun _ _ => rfl
  have hoL := fun m (h : m ≤ n) => Nat.le_trans (outC_len (badN N ls) n m h) (Nat.le_trans (Nat.mul_le_mul_right n h) (Nat.mul_le_mul hn hn))
  have hrL := fun k m => colC_len (badN N ls) k m
  have hrS := fun k i => colC_succ (badN N ls) k i
  have hr0 : ∀ k, colC (badN N ls) k 0 = [] := fun _ => rfl
  have ho0 : outC (badN N ls) 0 = [] := rfl
  have hoS : ∀ k, outC (badN N ls) (k + 1) = outC (badN N ls) k ++ colC (badN N ls) k k := fun _ => rfl
  have hfin := pairs_sorted (badN N ls) n
  have hfl := (pairs_perm (badN N ls) n).length_eq
  generalize outR (badN N ls) n n = OUT at *
  generalize badN N ls = bad at *
  generalize hOO : outC bad = OO at *
  generalize hRR : colC bad = RR at *
  clear hOO hRR
  replace HC := Lib.hid HC
  replace hN := Lib.hid hN
  replace hL := Lib.hid hL
  replace BX := Lib.hid BX
  replace hbw := Lib.hid hbw
  replace HT := Lib.hid HT
  replace hlen := Lib.hid hlen
  replace hbad := Lib.hid hbad
  replace hoL := Lib.hid hoL
  replace hrL := Lib.hid hrL
  replace hrS := Lib.hid hrS
  replace hr0 := Lib.hid hr0
  replace hi := Lib.hid hi
  replace hz0 := Lib.hid hz0
  replace hz1 := Lib.hid hz1
  replace hz2 := Lib.hid hz2
  replace ho0 := Lib.hid ho0
  replace hoS := Lib.hid hoS
  replace hfin := Lib.hid hfin
  replace hfl := Lib.hid hfl
  go_enter Try.func31, Try.ntmps31
  have kx := BX.out.at_
  go_wp2_with fail
  refine HC.out.mono ?_
  rintro e w1 ⟨rfl, hb_⟩
  clear kx
  replace hbw := Lib.hid (hbw.out.keep hb_)
  replace BX := Lib.hid (BX.out.keep hb_)
  clear hb_
  have hm0 : Hid (w1.ownsRow w1.heap.size 63 2 (.slice none 0 0) (OO 0).length (prs (OO 0))) := by
    show World.ownsRow _ _ _ _ _ _ _
    rw [ho0.out]
    exact World.ownsRow_nil _ _ _ _
  have hb1 := Lib.hid (Below.refl w1.heap.size w1)
  go_wp2_with fail
  go_loopw [6, 17, 21] (fun o kk _ wr => ∃ (k : Nat) (vO : Value), k ≤ n ∧ kk = .int .i64 k ∧ vO = o ∧ Hid (wr.ownsRow w1.heap.size 63 2 vO (OO k).length (prs (OO k))) ∧ Hid (Below w1.heap.size w1 wr)) (fun _ kk _ _ => n - (intOf kk).toNat)
  case atStart => exact ⟨0, _, by omega, rfl, rfl, hm0, hb1⟩
  case round =>
    obtain ⟨k, vO, hkn, rfl, rfl, HO, HB⟩ := hrel
    clear hm0 hb1
    have hro := hr0.out k
    have hos := hoS.out k
    by_cases hlk : k < n
    · have hoL2 := hoL.out (k + 1) (by omega)
      have hO0 : Hid (wr.ownsRow w1.heap.size 63 2 vO (OO k ++ RR k 0).length (prs (OO k ++ RR k 0))) := by
        show World.ownsRow _ _ _ _ _ _ _
        rw [hro, List.append_nil]; exact HO.out
      replace hro := Lib.hid hro
      replace hos := Lib.hid hos
      clear HO
      go_wp2_with fail
      go_loopw [6, 21] (fun o ii wr2 => ∃ (i : Nat) (vO : Value), i ≤ k ∧ ii = .int .i64 i ∧ vO = o ∧ Hid (wr2.ownsRow w1.heap.size 63 2 vO (OO k ++ RR k i).length (prs (OO k ++ RR k i))) ∧ Hid (Below w1.heap.size w1 wr2)) (fun _ ii _ => k - (intOf ii).toNat)
      case atStart => exact ⟨0, _, by omega, by go_num, rfl, hO0, HB⟩
      case round =>
        obtain ⟨i, vP, hik, rfl, rfl, HO, HB2⟩ := hrel
        clear hO0 HB
        by_cases hlt : i < k
        · have hb0 := Lib.hid (bthen hbw.out HB2.out)
          obtain ⟨b, off, rfl⟩ := hL.out.els.addr (by omega)
          obtain ⟨xi, hxi, hmi, q0, q1, q2⟩ := (hL.out.keep hb0.out).elem (k := i) (by omega)
          obtain ⟨xk, hxk, hmk, p0, p1, p2⟩ := (hL.out.keep hb0.out).elem hlk
          have oki := hL.out.ok xi hmi
          have okk := hL.out.ok xk hmk
          have hgi : ls.getD i default = xi := by rw [List.getD_eq_getElem?_getD, hxi]; rfl
          have hgk : ls.getD k default = xk := by rw [List.getD_eq_getElem?_getD, hxk]; rfl
          have hbd := hbad.out i k
          rw [hgi, hgk] at hbd
          have hrs := hrS.out k i
          have cT := fun W (h : Below wr.heap.size wr W) => HT.out W (hN.out.keep (bthen hb0.out h)) xi xk oki okk
          generalize togetherN N xi xk = TG at *
          obtain ⟨fi, ti, li⟩ := xi
          obtain ⟨fk, tk, lk⟩ := xk
          dsimp only at q0 q1 q2 p0 p1 p2 cT
          have hlO := hoL.out k hkn
          have hlR := hrL.out k i
          have HX := BX.out.keep HB2.out
          have cl : ∀ d os, Calls Try.prog 23 #[.agg #[.int .i64 N.nodes, .slice v.PA v.pn v.pc, .int .i64 N.noise, .int .i64 N.threshold, .slice v.LA v.ln v.lc, .slice v.MA v.mn v.mc], .agg #[.int .i64 fi, .int .i64 ti, .int .i64 li], .agg #[.int .i64 fk, .int .i64 tk, .int .i64 lk]] (grow (redrawn wr d) os) fun e w'' => e = .returned (.bool TG) ∧ ∃ p : Regrown, w'' = grow (redrawn wr p.d) p.os := fun d os => Calls.regrown_of (cT _ (below_regrown wr d os))
          have g0 := cell_regrown q0
          have g1 := cell_regrown q1
          have g2 := cell_regrown q2
          have k0 := cell_regrown p0
          have k1 := cell_regrown p1
          have k2 := cell_regrown p2
          have gx := HX.grown
          have r1 : (i : Int) < (n : Int) := by omega
          have r2 : (k : Int) < (n : Int) := by omega
          have hOP : (OO k ++ RR k i).length ≤ 5000 := by rw [List.length_append]; omega
          clear q0 q1 q2 p0 p1 p2
          replace hxi := Lib.hid hxi
          replace hxk := Lib.hid hxk
          replace hmi := Lib.hid hmi
          replace hmk := Lib.hid hmk
          replace oki := Lib.hid oki
          replace okk := Lib.hid okk
          replace hgi := Lib.hid hgi
          replace hgk := Lib.hid hgk
          replace hbd := Lib.hid hbd
          replace hrs := Lib.hid hrs
          replace cl := Lib.hid cl
          clear cT
          cases TG with
          | true =>
            have hs2 : Hid (OO k ++ RR k (i + 1) = OO k ++ RR k i) := by show _ = _; rw [hrs.out, hbd.out]; simp
            have hK := Lib.hid (Below.refl wr.heap.size wr)
            go_wp2_with fail
            refine wp_region_quiet_below (by kernel_rfl) (by kernel_rfl) ?_
            repeat (go_big_quiet_step (exact cl.out _ _))
            refine wpQuiet_nil ?_
            rintro _ ⟨⟨dq, osq⟩, rfl⟩
            have hb_ := below_regrown wr dq osq
            replace HB2 := Lib.hid (HB2.out.keep hb_)
            replace hK := Lib.hid (hK.out.keep hb_)
            generalize grow (redrawn wr dq) osq = w3 at *
            clear hb_
            have HO3 : Hid (w3.ownsRow w1.heap.size 63 2 vP (OO k ++ RR k (i + 1)).length (prs (OO k ++ RR k (i + 1)))) := by
              show World.ownsRow _ _ _ _ _ _ _
              rw [hs2.out]; exact owns_keep HO.out hK.out
            go_wp2
            go_roundw
            case rel => exact ⟨i + 1, _, by omega, by go_num, rfl, HO3, HB2⟩
            case measure => simp [intOf]; omega
          | false =>
            have hs2 : Hid (OO k ++ RR k (i + 1) = (OO k ++ RR k i) ++ [((i : Int), (k : Int))]) := by show _ = _; rw [hrs.out, hbd.out]; simp
            have hK := Lib.hid (Below.refl wr.heap.size wr)
            go_wp2_with fail
            refine wp_region_quiet_below (by kernel_rfl) (by kernel_rfl) ?_
            repeat (go_big_quiet_step (exact cl.out _ _))
            refine wpQuiet_nil ?_
            rintro _ ⟨⟨dq, osq⟩, rfl⟩
            have hb_ := below_regrown wr dq osq
            replace HB2 := Lib.hid (HB2.out.keep hb_)
            replace hK := Lib.hid (hK.out.keep hb_)
            generalize grow (redrawn wr dq) osq = w3 at *
            clear hb_
            have HOa := (owns_keep HO.out hK.out).alloc (.cells #[.int .i64 (i : Int), .int .i64 (k : Int)] 63)
            have HBa := below_allocN HB2.out (.cells #[.int .i64 (i : Int), .int .i64 (k : Int)] 63)
            have hnews := World.news_of_block (Blk.new w3 #[.int .i64 (i : Int), .int .i64 (k : Int)] 63).at_
            have hs3 := HB2.out.size
            generalize OO k ++ RR k i = PL at *
            replace HOa := Lib.hid HOa
            replace HBa := Lib.hid HBa
            replace hnews := Lib.hid hnews
            go_wp2_with (at_builtin; refine wpList_append_lies _ rfl _ _ _ rfl w1.heap.size 63 i0 (.agg #[.int .i64 0, .int .i64 0]) 2 16 Try.underlying58 hi.out hz0.out hz1.out hz2.out rfl (by decide) vP PL.length _ rfl HOa.out ⟨w3.heap.size, 0, none⟩ 1 1 [.int .i64 (i : Int), .int .i64 (k : Int)] rfl rfl ?c1 ?c2 (by decide) ?c3 ?c4 ?c5 (w3.heap.size + 1) ?c6 ?_)
            try case c1 => exact hnews.out
            try case c2 => simp [Value.oneCell']
            try case c3 => unfold maxLen; omega
            try case c4 => omega
            try case c5 => first | omega | (simp; omega)
            try case c6 => first | rfl | simp
            intro g cap w4 hown1 hgrow1 hat1 hlt1
            have HO1 : Hid (w4.ownsRow w1.heap.size 63 2 (.slice (some ⟨g, 0, none⟩) (PL.length + 1) cap) (OO k ++ RR k (i + 1)).length (prs (OO k ++ RR k (i + 1)))) := by
              show World.ownsRow _ _ _ _ _ _ _
              rw [hs2.out, prs_app, List.length_append]; exact hown1
            have HB3 := Lib.hid (below_append HBa.out HOa.out hgrow1 (Nat.le_refl _))
            clear hown1 hgrow1 hat1
            go_wp2
            go_roundw
            case rel => exact ⟨i + 1, _, by omega, by go_num, rfl, HO1, HB3⟩
            case measure => simp [intOf]; omega
        · obtain rfl : i = k := by omega
          have hO2 : Hid (wr.ownsRow w1.heap.size 63 2 vP (OO (i + 1)).length (prs (OO (i + 1)))) := by
            show World.ownsRow _ _ _ _ _ _ _
            rw [hos.out]; exact HO.out
          go_wp2
          go_roundw
          case rel => exact ⟨i + 1, _, by omega, by go_num, rfl, hO2, HB2⟩
          case measure => simp [intOf]; omega
    · obtain rfl : k = n := by omega
      obtain ⟨A', c', rfl⟩ := owns_slice HO.out
      have hsl := hoL.out k (by omega)
      have cS := Lib.hid (sortP_any (OO k) A' c' w1.heap.size wr HO.out (by omega))
      replace hro := Lib.hid hro
      replace hos := Lib.hid hos
      go_wp2_with fail
      refine cS.out.mono ?_
      rintro e w2 ⟨rfl, hown, hbel⟩
      have hbw2 := Lib.hid (bthen hbw.out (hbel w1 HB.out (Nat.le_refl _)))
      have hown2 : Hid (w2.ownsRow w1.heap.size 63 2 (.slice A' OUT.length c') OUT.length (prs OUT)) := by
        have h1 := hown
        have h2 : sortedP (OO k) = OUT := hfin.out
        rw [h2, hfl.out] at h1
        exact h1
      have hfl2 := hfl.out
      rw [hfl2]
      replace hfl2 := Lib.hid hfl2
      clear hown hbel
      go_wp2
      refine bodyPost_ret (v := .tuple #[.slice A' OUT.length c', .int .i64 0]) (by simp [results, Try.results31, go_sem]) rfl ⟨A', c', rfl, owns_base hown2.out hbw.out.size, hbw2.out⟩
end Nt
end Go.Proofs.Ythibgpgjioepfaa
namespace Go.Proofs.Ythibgpgjioepfaa
open Go Go.RowKit Go.Sort
namespace Nt
open Mm
set_option maxRecDepth 100000 in
set_option maxHeartbeats 2000000 in
theorem largest_err (N : Net) (v : NetV) (A : Option Addr) (n c : Nat) (w : World) (hN : NetIs w v N) (hc : check N ≠ 0 ∨ 12 < n) :
    Calls Try.prog 28 #[.agg #[.int .i64 N.nodes, .slice v.PA v.pn v.pc, .int .i64 N.noise, .int .i64 N.threshold, .slice v.LA v.ln v.lc, .slice v.MA v.mn v.mc], .slice A n c] w fun e w' => e = .returned (.tuple #[.slice none 0 0, .int .i64 (if check N = 0 then 8 else 1)]) ∧ Below w.heap.size w w' := by
  have hbw := below_allocN (below_alloc w (.cells #[.int .i64 N.nodes, .slice v.PA v.pn v.pc, .int .i64 N.noise, .int .i64 N.threshold, .slice v.LA v.ln v.lc, .slice v.MA v.mn v.mc] 26)) (.cells #[.slice A n c] 23)
  have BN := (Box.new w #[.int .i64 N.nodes, .slice v.PA v.pn v.pc, .int .i64 N.noise, .int .i64 N.threshold, .slice v.LA v.ln v.lc, .slice v.MA v.mn v.mc] 26).alloc (.cells #[.slice A n c] 23)
  have BL := Box.new (w.alloc (.cells #[.int .i64 N.nodes, .slice v.PA v.pn v.pc, .int .i64 N.noise, .int .i64 N.threshold, .slice v.LA v.ln v.lc, .slice v.MA v.mn v.mc] 26)) #[.slice A n c] 23
  rw [size_alloc1] at BL
  have HC := check_any N v _ (hN.keep hbw)
  replace HC := Lib.hid HC
  replace hN := Lib.hid hN
  replace BN := Lib.hid BN
  replace BL := Lib.hid BL
  replace hbw := Lib.hid hbw
  generalize check N = C at *
  go_enter Try.func28, Try.ntmps28
  have kx := BN.out.at_
  go_wp2_with fail
  refine HC.out.mono ?_
  rintro e w1 ⟨rfl, hb_⟩
  clear kx
  replace hbw := Lib.hid (hbw.out.keep hb_)
  replace BL := Lib.hid (BL.out.keep hb_)
  clear hb_
  have kl := BL.out.at_
  by_cases c0 : C = 0
  · have hn : 12 < n := by rcases hc with h | h; · exact absurd c0 h
                           · exact h
    subst c0
    go_wp2
    refine bodyPost_ret (v := .tuple #[.slice none 0 0, .int .i64 8]) (by simp [results, Try.results28, go_sem]) rfl ⟨rfl, hbw.out⟩
  · have d : (C != 0) = true := by rw [bne_iff_ne]; exact c0
    have e1 : (if C = 0 then (8 : Int) else 1) = 1 := if_neg c0
    clear hc
    replace c0 := Lib.hid c0
    replace e1 := Lib.hid e1
    go_wp2
    refine bodyPost_ret (v := .tuple #[.slice none 0 0, .int .i64 1]) (by simp [results, Try.results28, go_sem]) rfl ⟨rfl, hbw.out⟩
set_option maxRecDepth 100000 in
set_option maxHeartbeats 2000000 in
theorem equalI_any (A B : Option Addr) (n c d : Nat) (xs : List Int) (w : World) (hs : IntS w A n xs) (hr : IntS w B n xs) :
    Calls Try.prog 33 #[.slice A n c, .slice B n d] w fun e w' => e = .returned (.bool true) ∧ Below w.heap.size w w' := by
  have hsn := hs.els.small
  unfold maxLen at hsn
  replace hs := Lib.hid hs
  replace hr := Lib.hid hr
  go_enter Try.func33, Try.ntmps33
  go_wp2_with fail
  go_loopw [5, 13] (fun _ i wr => ∃ k : Nat, k ≤ n ∧ i = .int .i64 k ∧ Hid (Below w.heap.size w wr)) (fun _ i _ => n - (intOf i).toNat)
  case atStart => exact ⟨0, by omega, rfl, Below.refl _ _⟩
  case round =>
    obtain ⟨k, hk, rfl, HB⟩ := hrel
    by_cases hlt : k < n
    · obtain ⟨b1, o1, rfl⟩ := hs.out.els.addr (by omega)
      obtain ⟨b2, o2, rfl⟩ := hr.out.els.addr (by omega)
      obtain ⟨x, hx, hxm, q0⟩ := (hs.out.keep HB.out).elem (k := k) (by omega)
      obtain ⟨y, hy, hym, q1⟩ := (hr.out.keep HB.out).elem (k := k) (by omega)
      have hxy : y = x := by rw [hx] at hy; injection hy with hy; exact hy.symm
      subst hxy
      have r1 : (k : Int) < (n : Int) := by omega
      have p0 := cell_regrown q0
      have p1 := cell_regrown q1
      replace hx := Lib.hid hx
      replace hy := Lib.hid hy
      replace hxm := Lib.hid hxm
      replace hym := Lib.hid hym
      go_wp2_with fail
      refine wp_region_quiet_below (by kernel_rfl) (by kernel_rfl) ?_
      repeat (go_big_quiet_step (fail))
      refine wpQuiet_nil ?_
      rintro _ ⟨⟨dq, osq⟩, rfl⟩
      have hb_ := below_regrown wr dq osq
      replace HB := Lib.hid (HB.out.keep hb_)
      generalize grow (redrawn wr dq) osq = w2 at *
      clear hb_
      go_wp2
      go_roundw
      case rel => exact ⟨k + 1, by omega, by go_num, HB⟩
      case measure => simp [intOf]; omega
    · obtain rfl : k = n := by omega
      go_wp2
      go_ret
      exact ⟨rfl, HB.out⟩
theorem neq_pr (a b : Int) (W : World) : (binOp .neq 63 (.agg #[.int .i64 a, .int .i64 b]) (.agg #[.int .i64 a, .int .i64 b])).run Try.prog W = .ok (.bool false) W := by
  have u3 := Try.underlying3
  have a3 := Try.isAgg3
  have z3 := Try.sizeOf3
  have hu := Try.underlying63
  obtain ⟨i, hi, hz0, hz1, hz2⟩ := info_parts info_int
  have hc1 : Try.prog.cellsOf 3 = 1 := by kernel_rfl
  rw [run_neq_struct, show (10000 : Nat) = 9999 + 1 from rfl, run_equalIn_array W 9999 _ _ hu hi]
  simp only [List.range_succ_eq_map, List.range_zero, List.map_nil, List.map_cons, Op.eqItems, hc1]
  go_simp
set_option maxRecDepth 100000 in
set_option maxHeartbeats 2000000 in
theorem equalP_any (A B : Option Addr) (c d b1 b2 : Nat) (xs : List (Int × Int)) (w : World) (hs : w.ownsRow b1 63 2 (.slice A xs.length c) xs.length (prs xs)) (hr : w.ownsRow b2 63 2 (.slice B xs.length d) xs.length (prs xs)) (hl : xs.length ≤ 5000) :
    Calls Try.prog 34 #[.slice A xs.length c, .slice B xs.length d] w fun e w' => e = .returned (.bool true) ∧ Below w.heap.size w w' := by
  have rd : ∀ (v : Value) (b e : Nat) (A : Option Addr) (c : Nat) (W : World), v = .slice A xs.length c → W.ownsRow b e 2 v xs.length (prs xs) → ∀ k, k < xs.length → ∃ g, A = some ⟨g, 0, none⟩ ∧ W.cell? ⟨g, k * 2, none⟩ = some (.int .i64 (xs.getD k default).1) ∧ W.cell? ⟨g, k * 2 + 1, none⟩ = some (.int .i64 (xs.getD k default).2) := by
    intro v b e A c W hv h k hk
    rcases h.2 with ⟨hv2, h0⟩ | ⟨g, cap, cur, hv2, hbase, hg, r1, r2, r3, r4⟩
    · omega
    · rw [hv] at hv2
      injection hv2 with e1 _ _
      have g0 := Sk.fm_get prE 2 prE_len xs k 0 hk (by decide)
      have g1 := Sk.fm_get prE 2 prE_len xs k 1 hk (by decide)
      have c0 := h.cells (g := g) (by rw [hv, e1]; rfl) (k * 2 + 0) _ g0
      have c1 := h.cells (g := g) (by rw [hv, e1]; rfl) (k * 2 + 1) _ g1
      have hadd : ∀ j, (⟨g, 0, none⟩ : Addr).add j = ⟨g, j, none⟩ := fun j => by unfold Addr.add; split <;> simp_all
      rw [hadd] at c0 c1
      exact ⟨g, e1, c0, c1⟩
  have h1 := fun W (h : Below w.heap.size w W) k hk => rd _ b1 _ A c W rfl (owns_keep hs h) k hk
  have h2 := fun W (h : Below w.heap.size w W) k hk => rd _ b2 _ B d W rfl (owns_keep hr h) k hk
  clear rd
  generalize xs.length = n at *
  have kn := neq_pr
  replace h1 := Lib.hid h1
  replace h2 := Lib.hid h2
  clear hs hr
  go_enter Try.func34, Try.ntmps34
  go_wp2_with fail
  go_loopw [5, 13] (fun _ i wr => ∃ k : Nat, k ≤ n ∧ i = .int .i64 k ∧ Hid (Below w.heap.size w wr)) (fun _ i _ => n - (intOf i).toNat)
  case atStart => exact ⟨0, by omega, rfl, Below.refl _ _⟩
  case round =>
    obtain ⟨k, hk, rfl, HB⟩ := hrel
    by_cases hlt : k < n
    · obtain ⟨g1, rfl, q0, q1⟩ := h1.out wr HB.out k hlt
      obtain ⟨g2, rfl, q2, q3⟩ := h2.out wr HB.out k hlt
      generalize xs.getD k default = x at *
      obtain ⟨x0, x1⟩ := x
      dsimp only at q0 q1 q2 q3
      have r1 : (k : Int) < (n : Int) := by omega
      have p0 := cell_regrown q0
      have p1 := cell_regrown q1
      have p2 := cell_regrown q2
      have p3 := cell_regrown q3
      clear q0 q1 q2 q3
      go_wp2_with fail
      refine wp_region_quiet_below (by kernel_rfl) (by kernel_rfl) ?_
      repeat (go_big_quiet_step (fail))
      refine wpQuiet_nil ?_
      rintro _ ⟨⟨dq, osq⟩, rfl⟩
      have hb_ := below_regrown wr dq osq
      replace HB := Lib.hid (HB.out.keep hb_)
      generalize grow (redrawn wr dq) osq = w2 at *
      clear hb_
      go_wp2
      go_roundw
      case rel => exact ⟨k + 1, by omega, by go_num, HB⟩
      case measure => simp [intOf]; omega
    · obtain rfl : k = n := by omega
      go_wp2
      go_ret
      exact ⟨rfl, HB.out⟩
end Nt
end Go.Proofs.Ythibgpgjioepfaa
namespace Go.Proofs.Ythibgpgjioepfaa
open Go Go.RowKit Go.Sort
namespace Nt
open Mm
theorem pk_bit (b j : Nat) (hb : b < 4096) : pk (b : Int) j = b.testBit j := by
  unfold pk
  have h1 : ((b : Int) / 2 ^ j) = ((b / 2 ^ j : Nat) : Int) := by rw [Int.natCast_ediv]; norm_cast
  have h2 : b / 2 ^ j < 2 ^ 62 := Nat.lt_of_le_of_lt (Nat.div_le_self _ _) (Nat.lt_of_lt_of_le hb (by decide))
  have h3 := (bits_nat .i64 62 (by decide) (fun n h0 h => by rw [IntKind.wrap_i64]; omega) (b / 2 ^ j) 1 h2 (by decide)).1
  rw [h1, show (1 : Int) = ((1 : Nat) : Int) from rfl, h3, Nat.and_one_is_mod, Nat.testBit_eq_decide_div_mod_eq]
  by_cases h : b / 2 ^ j % 2 = 1
  · rw [h]; rfl
  · rw [decide_eq_false h]
    have : b / 2 ^ j % 2 = 0 := by omega
    rw [this]; rfl
theorem rLg_eq {N : Net} (hc : check N = 0) (ls : List Lnk) (hn : ls.length ≤ 12) : rLg N ls (2 ^ ls.length) = largestN N ls := by
  have h2n : 2 ^ ls.length ≤ 4096 := Nat.le_trans (Nat.pow_le_pow_right (by decide) hn) (by decide)
  exact both_eq (goodAt N ls) (good_nil hc) (fun a b => goodAt_prefix a b) ls.length (fun b => pk (b : Int)) (fun b j hb _ => pk_bit b j (by omega)) (largest_ok hc ls)
def LPost (E : Int) (s : List Nat) (w : World) (e : Ending) (w' : World) : Prop := ∃ A m c, e = .returned (.tuple #[.slice A m c, .int .i64 E]) ∧ IntS w' A m (intsOf s) ∧ Below w.heap.size w w'
def PPost (E : Int) (xs : List (Int × Int)) (w : World) (e : Ending) (w' : World) : Prop :=
  ∃ A c, e = .returned (.tuple #[.slice A xs.length c, .int .i64 E]) ∧ w'.ownsRow w.heap.size 63 2 (.slice A xs.length c) xs.length (prs xs) ∧ Below w.heap.size w w'
def eOf (N : Net) (m n : Nat) : Int := if check N = 0 then (if m < n then 8 else 0) else 1
def sLg (N : Net) (ls : List Lnk) : List Nat := if check N = 0 ∧ ls.length ≤ 12 then largestN N ls else []
def sPr (N : Net) (ls : List Lnk) : List (Int × Int) := if check N = 0 ∧ ls.length ≤ 45 then outR (badN N ls) ls.length ls.length else []
theorem intS_nil (w : World) : IntS w none 0 (intsOf []) := ⟨⟨rfl, by decide, fun h => absurd h (by omega)⟩, fun x hx => by cases hx⟩
theorem eOf_ok {N : Net} {m n : Nat} (hc : check N = 0) (h : n ≤ m) : eOf N m n = 0 := by unfold eOf; rw [if_pos hc, if_neg (by omega)]
theorem eOf_err {N : Net} {m n : Nat} (h : check N ≠ 0 ∨ m < n) : eOf N m n = (if check N = 0 then 8 else 1) := by
  unfold eOf
  by_cases hc : check N = 0
  · rcases h with h | h
    · exact absurd hc h
    · rw [if_pos hc, if_pos h, if_pos hc]
  · rw [if_neg hc, if_neg hc]
theorem lgA (N : Net) (v : NetV) (ls : List Lnk) (A : Option Addr) (n c : Nat) (w : World) (hN : NetIs w v N) (hL : LnkS w A n ls) :
    Calls Try.prog 28 #[.agg #[.int .i64 N.nodes, .slice v.PA v.pn v.pc, .int .i64 N.noise, .int .i64 N.threshold, .slice v.LA v.ln v.lc, .slice v.MA v.mn v.mc], .slice A n c] w (LPost (eOf N 12 n) (sLg N ls) w) := by
  have hlen := hL.els.len
  by_cases h : check N = 0 ∧ n ≤ 12
  · have e1 : sLg N ls = largestN N ls := by unfold sLg; rw [hlen, if_pos h]
    rw [e1, eOf_ok h.1 h.2]
    refine (largest_any N v ls A n c w hN hL h.1 h.2).mono ?_
    rintro e w' ⟨A', m, c', rfl, h1, h2⟩
    exact ⟨A', m, c', rfl, h1, h2⟩
  · have h' : check N ≠ 0 ∨ 12 < n := by
      by_cases hc : check N = 0
      · exact .inr (Nat.lt_of_not_le fun hle => h ⟨hc, hle⟩)
      · exact .inl hc
    have e1 : sLg N ls = [] := by unfold sLg; rw [hlen, if_neg h]
    rw [e1, eOf_err h']
    refine (largest_err N v A n c w hN h').mono ?_
    rintro e w' ⟨rfl, h2⟩
    exact ⟨none, 0, 0, rfl, intS_nil _, h2⟩
theorem lgB (N : Net) (v : NetV) (ls : List Lnk) (A : Option Addr) (n c : Nat) (w : World) (hN : NetIs w v N) (hL : LnkS w A n ls) :
    Calls Try.prog 30 #[.agg #[.int .i64 N.nodes, .slice v.PA v.pn v.pc, .int .i64 N.noise, .int .i64 N.threshold, .slice v.LA v.ln v.lc, .slice v.MA v.mn v.mc], .slice A n c] w (LPost (eOf N 12 n) (sLg N ls) w) := by
  have hlen := hL.els.len
  by_cases h : check N = 0 ∧ n ≤ 12
  · have e1 : sLg N ls = largestN N ls := by unfold sLg; rw [hlen, if_pos h]
    rw [e1, eOf_ok h.1 h.2, ← rLg_eq h.1 ls (by omega)]
    refine (rLargest_any N v ls A n c w hN hL h.1 h.2).mono ?_
    rintro e w' ⟨A', m, c', rfl, h1, h2⟩
    exact ⟨A', m, c', rfl, h1, h2⟩
  · have h' : check N ≠ 0 ∨ 12 < n := by
      by_cases hc : check N = 0
      · exact .inr (Nat.lt_of_not_le fun hle => h ⟨hc, hle⟩)
      · exact .inl hc
    have e1 : sLg N ls = [] := by unfold sLg; rw [hlen, if_neg h]
    rw [e1, eOf_err h']
    refine (rLargest_err N v A n c w hN h').mono ?_
    rintro e w' ⟨rfl, h2⟩
    exact ⟨none, 0, 0, rfl, intS_nil _, h2⟩
theorem prA (N : Net) (v : NetV) (ls : List Lnk) (A : Option Addr) (n c : Nat) (w : World) (hN : NetIs w v N) (hL : LnkS w A n ls) :
    Calls Try.prog 31 #[.agg #[.int .i64 N.nodes, .slice v.PA v.pn v.pc, .int .i64 N.noise, .int .i64 N.threshold, .slice v.LA v.ln v.lc, .slice v.MA v.mn v.mc], .slice A n c] w (PPost (eOf N 45 n) (sPr N ls) w) := by
  have hlen := hL.els.len
  by_cases h : check N = 0 ∧ n ≤ 45
  · have e1 : sPr N ls = outR (badN N ls) n n := by unfold sPr; rw [hlen, if_pos h]
    rw [e1, eOf_ok h.1 h.2]
    exact Pairs_any N v ls A n c w hN hL h.1 h.2
  · have h' : check N ≠ 0 ∨ 45 < n := by
      by_cases hc : check N = 0
      · exact .inr (Nat.lt_of_not_le fun hle => h ⟨hc, hle⟩)
      · exact .inl hc
    have e1 : sPr N ls = [] := by unfold sPr; rw [hlen, if_neg h]
    rw [e1, eOf_err h']
    refine (Pairs_err N v A n c w hN h').mono ?_
    rintro e w' ⟨rfl, h2⟩
    exact ⟨none, 0, rfl, World.ownsRow_nil _ _ _ _, h2⟩
theorem prB (N : Net) (v : NetV) (ls : List Lnk) (A : Option Addr) (n c : Nat) (w : World) (hN : NetIs w v N) (hL : LnkS w A n ls) :
    Calls Try.prog 32 #[.agg #[.int .i64 N.nodes, .slice v.PA v.pn v.pc, .int .i64 N.noise, .int .i64 N.threshold, .slice v.LA v.ln v.lc, .slice v.MA v.mn v.mc], .slice A n c] w (PPost (eOf N 45 n) (sPr N ls) w) := by
  have hlen := hL.els.len
  by_cases h : check N = 0 ∧ n ≤ 45
  · have e1 : sPr N ls = outR (badN N ls) n n := by unfold sPr; rw [hlen, if_pos h]
    rw [e1, eOf_ok h.1 h.2]
    exact rPairs_any N v ls A n c w hN hL h.1 h.2
  · have h' : check N ≠ 0 ∨ 45 < n := by
      by_cases hc : check N = 0
      · exact .inr (Nat.lt_of_not_le fun hle => h ⟨hc, hle⟩)
      · exact .inl hc
    have e1 : sPr N ls = [] := by unfold sPr; rw [hlen, if_neg h]
    rw [e1, eOf_err h']
    refine (rPairs_err N v A n c w hN h').mono ?_
    rintro e w' ⟨rfl, h2⟩
    exact ⟨none, 0, rfl, World.ownsRow_nil _ _ _ _, h2⟩
theorem sPr_len (N : Net) (ls : List Lnk) : (sPr N ls).length ≤ 5000 := by
  unfold sPr
  split
  · rename_i h
    exact Nat.le_trans (outR_len _ _ _) (Nat.le_trans (Nat.mul_le_mul h.2 h.2) (by decide))
  · exact Nat.zero_le _
set_option maxRecDepth 100000 in
set_option maxHeartbeats 8000000 in
theorem ConflictSets_any (N : Net) (v : NetV) (A : Option Addr) (n c : Nat) (ls : List Lnk) (w : World) (hN : NetIs w v N) (hs : LnkS w A n ls) :
    Calls Try.prog 10 #[.agg #[.int .i64 N.nodes, .slice v.PA v.pn v.pc, .int .i64 N.noise, .int .i64 N.threshold, .slice v.LA v.ln v.lc, .slice v.MA v.mn v.mc], .slice A n c] w fun e w' => e = .returned (.bool true) ∧ Below w.heap.size w w' := by
  have HF := fun W (h : NetIs W v N) => few_any N v W h
  have H1 := fun W (h : NetIs W v N) (h2 : LnkS W A n ls) => lgA N v ls A n c W h h2
  have H2 := fun W (h : NetIs W v N) (h2 : LnkS W A n ls) => lgB N v ls A n c W h h2
  have H3 := fun W (h : NetIs W v N) (h2 : LnkS W A n ls) => prA N v ls A n c W h h2
  have H4 := fun W (h : NetIs W v N) (h2 : LnkS W A n ls) => prB N v ls A n c W h h2
  have hxl := sPr_len N ls
  have hsm := hs.els.small
  unfold maxLen at hsm
  generalize eOf N 12 n = E1 at *
  generalize eOf N 45 n = E2 at *
  generalize sLg N ls = s at *
  generalize sPr N ls = xs at *
  generalize fewN N = F at *
  obtain ⟨nodes, power, noise, thr, links, margin⟩ := N
  obtain ⟨PA, pn, pc, LA, ln, lc, MA, mn, mc⟩ := v
  dsimp only at *
  have hbw := below_alloc w (.cells #[.int .i64 nodes, .slice PA pn pc, .int .i64 noise, .int .i64 thr, .slice LA ln lc, .slice MA mn mc] 26)
  have BX := Box.new w #[.int .i64 nodes, .slice PA pn pc, .int .i64 noise, .int .i64 thr, .slice LA ln lc, .slice MA mn mc] 26
  replace HF := Lib.hid HF
  replace H1 := Lib.hid H1
  replace H2 := Lib.hid H2
  replace H3 := Lib.hid H3
  replace H4 := Lib.hid H4
  replace hN := Lib.hid hN
  replace hs := Lib.hid hs
  replace BX := Lib.hid BX
  replace hbw := Lib.hid hbw
  go_enter Try.func10, Try.ntmps10
  go_wp2_with fail
  refine (awake_any _).mono ?_
  rintro e w1 ⟨rfl, hb_⟩
  replace BX := Lib.hid (BX.out.keep hb_)
  replace hbw := Lib.hid (hbw.out.keep hb_)
  clear hb_
  have kx := BX.out.at_
  have c1 := Lib.hid (HF.out _ (hN.out.keep hbw.out))
  go_wp2_with fail
  refine c1.out.mono ?_
  rintro e w2 ⟨rfl, hb_⟩
  clear kx c1
  replace BX := Lib.hid (BX.out.keep hb_)
  replace hbw := Lib.hid (hbw.out.keep hb_)
  clear hb_
  cases F with
  | false =>
    go_wp2
    go_ret
    exact ⟨rfl, hbw.out⟩
  | true =>
  have hgo : (decide (9 < (n : Int)) = true ∧ ((n : Int) != 13) = true ∧ ((n : Int) != 46) = true) ∨ decide (9 < (n : Int)) = false ∨ (decide (9 < (n : Int)) = true ∧ ((n : Int) != 13) = false) ∨ (decide (9 < (n : Int)) = true ∧ ((n : Int) != 13) = true ∧ ((n : Int) != 46) = false) := by
    cases decide (9 < (n : Int)) <;> cases ((n : Int) != 13) <;> cases ((n : Int) != 46) <;> simp
  rcases hgo with ⟨d1, d2, d3⟩ | d1 | ⟨d1, d2⟩ | ⟨d1, d2, d3⟩
  · go_wp2
    go_ret
    exact ⟨rfl, hbw.out⟩
  all_goals
    have kx := BX.out.at_
    have c1 := Lib.hid (H1.out _ (hN.out.keep hbw.out) (hs.out.keep hbw.out))
    go_wp2_with fail
    refine c1.out.mono ?_
    rintro e w3 ⟨A1, m1, k1, rfl, hI1, hb_⟩
    clear kx c1 d1
    try clear d2
    try clear d3
    replace BX := Lib.hid (BX.out.keep hb_)
    replace hbw := Lib.hid (hbw.out.keep hb_)
    clear hb_
    have kx := BX.out.at_
    have c1 := Lib.hid (H2.out _ (hN.out.keep hbw.out) (hs.out.keep hbw.out))
    replace hI1 := Lib.hid hI1
    go_wp2_with fail
    refine c1.out.mono ?_
    rintro e w4 ⟨A2, m2, k2, rfl, hI2, hb_⟩
    clear kx c1
    replace BX := Lib.hid (BX.out.keep hb_)
    replace hbw := Lib.hid (hbw.out.keep hb_)
    replace hI1 := Lib.hid (hI1.out.keep hb_)
    clear hb_
    have kx := BX.out.at_
    have c1 := Lib.hid (H3.out _ (hN.out.keep hbw.out) (hs.out.keep hbw.out))
    replace hI2 := Lib.hid hI2
    go_wp2_with fail
    refine c1.out.mono ?_
    rintro e w5 ⟨A3, k3, rfl, hO3, hb_⟩
    clear kx c1
    replace BX := Lib.hid (BX.out.keep hb_)
    replace hbw := Lib.hid (hbw.out.keep hb_)
    replace hI1 := Lib.hid (hI1.out.keep hb_)
    replace hI2 := Lib.hid (hI2.out.keep hb_)
    clear hb_
    have kx := BX.out.at_
    have c1 := Lib.hid (H4.out _ (hN.out.keep hbw.out) (hs.out.keep hbw.out))
    replace hO3 := Lib.hid hO3
    go_wp2_with fail
    refine c1.out.mono ?_
    rintro e w6 ⟨A4, k4, rfl, hO4, hb_⟩
    clear kx c1
    replace hO3 := Lib.hid (owns_keep hO3.out hb_)
    replace BX := Lib.hid (BX.out.keep hb_)
    replace hbw := Lib.hid (hbw.out.keep hb_)
    replace hI1 := Lib.hid (hI1.out.keep hb_)
    replace hI2 := Lib.hid (hI2.out.keep hb_)
    clear hb_
    have hm : m2 = m1 := by
      have a1 := hI1.out.els.len
      have a2 := hI2.out.els.len
      omega
    subst hm
    have cE := Lib.hid (equalI_any A1 A2 m2 k1 k2 _ w6 hI1.out hI2.out)
    replace hO4 := Lib.hid hO4
    go_wp2_with fail
    refine cE.out.mono ?_
    rintro e w7 ⟨rfl, hb_⟩
    clear cE
    replace hO3 := Lib.hid (owns_keep hO3.out hb_)
    replace hO4 := Lib.hid (owns_keep hO4.out hb_)
    replace hbw := Lib.hid (hbw.out.keep hb_)
    clear hb_
    have cE := Lib.hid (equalP_any A3 A4 k3 k4 _ _ xs w7 hO3.out hO4.out hxl)
    go_wp2_with fail
    refine cE.out.mono ?_
    rintro e w8 ⟨rfl, hb_⟩
    clear cE
    replace hbw := Lib.hid (hbw.out.keep hb_)
    go_wp2
    go_ret
    exact ⟨rfl, hbw.out⟩
theorem conflictSets_walk (nodes : Int) (PA : Option Addr) (pn pc : Nat) (power : List (List Int)) (noise thr : Int) (LA : Option Addr) (ln lc : Nat) (links : List Lnk) (MA : Option Addr) (mn mc : Nat) (margin : List Int) (A : Option Addr) (n c : Nat) (ls : List Lnk) (w : World)
    (h1 : (Lit.int .i64 nodes).wf = true) (h2 : RowS w PA pn power) (h3 : (Lit.int .i64 noise).wf = true) (h4 : (Lit.int .i64 thr).wf = true) (h5 : LnkS w LA ln links ∧ ln ≤ lc) (h6 : IntS w MA mn margin) (h7 : LnkS w A n ls ∧ n ≤ c) :
    Calls Try.prog 10 #[.agg #[.int .i64 nodes, .slice PA pn pc, .int .i64 noise, .int .i64 thr, .slice LA ln lc, .slice MA mn mc], .slice A n c] w fun e w' => e = .returned (.bool true) ∧ Below w.heap.size w w' :=
  ConflictSets_any ⟨nodes, power, noise, thr, links, margin⟩ ⟨PA, pn, pc, LA, ln, lc, MA, mn, mc⟩ A n c ls w (netIs_of h1 h2 h3 h4 h5.1 h6) h7.1
end Nt
end Go.Proofs.Ythibgpgjioepfaa
