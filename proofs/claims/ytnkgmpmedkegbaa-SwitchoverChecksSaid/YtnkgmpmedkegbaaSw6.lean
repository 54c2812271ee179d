/- Check. -/
import Derived.Test.YtnkgmpmedkegbaaSw5
import Derived.IntWalk
namespace Go.Proofs.Ytnkgmpmedkegbaa
open Go Go.RowKit Go.Sort
namespace Sw
open Mm
/-- whether a cell is there behind some changes -/
def thereN (cs : List Cel) (l : List Chg) (c : Cel) : Bool := l.foldl (fun b x => if x.cell = c then x.add else b) (decide (c ∈ cs))
theorem thereN_nil (cs : List Cel) : thereN cs [] = fun c => decide (c ∈ cs) := rfl
theorem thereN_snoc (cs : List Cel) (l : List Chg) (x : Chg) : thereN cs (l ++ [x]) = setF (thereN cs l) x.cell x.add := by
  funext c
  unfold thereN setF
  rw [List.foldl_append]
  simp only [List.foldl_cons, List.foldl_nil]
  by_cases h : x.cell = c
  · rw [if_pos h, if_pos h.symm]
  · rw [if_neg h, if_neg (Ne.symm h)]
theorem take_snoc {α : Type} [Inhabited α] {xs : List α} {k : Nat} (hk : k < xs.length) : xs.take (k + 1) = xs.take k ++ [xs.getD k default] := by
  rw [List.take_succ_eq_append_getElem hk, List.getD_eq_getElem?_getD, List.getElem?_eq_getElem hk]; rfl
def faultAt (L O : Int) (cs : List Cel) (l : List Chg) (i : Nat) : Int :=
  if (l.getD i default).slot < 0 ∨ 4096 < (l.getD i default).slot then 2
  else if 0 < i ∧ (l.getD i default).slot < (l.getD (i - 1) default).slot then 5
  else if cellOk L O (l.getD i default).cell = false then 1
  else if (l.getD i default).add = true ∧ thereN cs (l.take i) (l.getD i default).cell = true then 6
  else if (l.getD i default).add = false ∧ thereN cs (l.take i) (l.getD i default).cell = false then 7
  else 0
def firstF (F : Nat → Int) (n : Nat) : Int × Int := match (List.range n).find? (fun i => F i != 0) with
  | some i => ((i : Int), F i)
  | none => (-1, 0)
def chkN (L O : Int) (cs : List Cel) (l : List Chg) : Int × Int :=
  if formedB L O cs = false then (-1, 1) else if 1024 < l.length then (-1, 8) else firstF (faultAt L O cs l) l.length
theorem firstF_hit {F : Nat → Int} {n k : Nat} (hk : k < n) (h : F k ≠ 0) (hp : ∀ j, j < k → F j = 0) : firstF F n = ((k : Int), F k) := by
  unfold firstF
  have : (List.range n).find? (fun i => F i != 0) = some k := by
    rw [List.find?_range_eq_some]
    exact ⟨by simpa using h, List.mem_range.2 hk, fun j hj => by simp [hp j hj]⟩
  rw [this]
theorem firstF_none {F : Nat → Int} {n : Nat} (hp : ∀ j, j < n → F j = 0) : firstF F n = (-1, 0) := by
  unfold firstF
  have : (List.range n).find? (fun i => F i != 0) = none := by
    rw [List.find?_eq_none]
    intro x hx
    simp [hp x (List.mem_range.1 hx)]
  rw [this]
def CkPost (r : Int × Int) (w : World) (e : Ending) (w' : World) : Prop := e = .returned (.tuple #[.int .i64 r.1, .int .i64 r.2]) ∧ Below w.heap.size w w'
theorem next_zero {F : Nat → Int} {k : Nat} (h : F k = 0) (hp : ∀ j, j < k → F j = 0) : ∀ j, j < k + 1 → F j = 0 := fun j hj => by
  by_cases e : j = k
  · subst e; exact h
  · exact hp j (by omega)
theorem ok_at {α : Type} [Inhabited α] {P : α → Prop} {xs : List α} (h : ∀ x ∈ xs, P x) {k : Nat} (hk : k < xs.length) : P (xs.getD k default) := by
  rw [List.getD_eq_getElem?_getD, List.getElem?_eq_getElem hk]; exact h _ (List.getElem_mem hk)
theorem gbr (w : World) {r : Option Nat} : w.grownBy w r := ⟨rfl, rfl, rfl, Nat.le_refl _, fun _ _ _ => rfl⟩
theorem gbt {a w w' : World} {r : Option Nat} (h : a.grownBy w r) (k : w.grownBy w' r) : a.grownBy w' r :=
  ⟨k.os.trans h.os, k.tape.trans h.tape, k.output.trans h.output, Nat.le_trans h.size k.size, fun i hi hr => (k.block i (Nat.lt_of_lt_of_le hi h.size) hr).trans (h.block i hi hr)⟩
theorem gbb {a w : World} {r : Option Nat} (h : Below a.heap.size a w) : a.grownBy w r := ⟨h.os, h.tape, h.output, h.size, fun i hi _ => h.block i hi⟩
theorem Box.grownM {w w' : World} {B M : Nat} {C : Array Value} (h : Box w B C) (hg : w.grownBy w' (some M)) (hne : B ≠ M) : Box w' B C :=
  ⟨Nat.lt_of_lt_of_le h.lt hg.size, fun i => by rw [World.cell?_of_block (w := w) (hg.block _ h.lt (fun e => by injection e with e; exact hne e))]; exact h.at_ i⟩
theorem setF_take {cs : List Cel} {k : Nat} (hk : k < cs.length) : setF (fun c => decide (c ∈ cs.take k)) (cs.getD k default) true = fun c => decide (c ∈ cs.take (k + 1)) := by
  funext c
  unfold setF
  rw [take_snoc hk]
  by_cases h : c = cs.getD k default
  · simp [h]
  · rw [if_neg h]
    simp only [List.mem_append, List.mem_singleton, h, or_false]
set_option maxRecDepth 100000 in
set_option maxHeartbeats 4000000 in
theorem check_any (L O : Int) (A : Option Addr) (n cp : Nat) (cs : List Cel) (B : Option Addr) (m cq : Nat) (l : List Chg) (w : World) (h1 : CelS w A n cs) (h2 : ChgS w B m l) (ok1 : ∀ c ∈ cs, c.ok) (ok2 : ∀ x ∈ l, x.cell.ok) :
    Calls Try.prog 12 #[.agg #[.int .i64 L, .int .i64 O, .slice A n cp], .slice B m cq] w (CkPost (chkN L O cs l) w) := by
  have hl1 := h1.len
  have hl2 := h2.len
  have hs1 := h1.small
  have hs2 := h2.small
  unfold maxLen at hs1 hs2
  have hbw := ball w (.cells #[.int .i64 L, .int .i64 O, .slice A n cp] 24)
  have BX := Box.new w #[.int .i64 L, .int .i64 O, .slice A n cp] 24
  have cF := fun W (h : CelS W A n cs) => formed_any L O A n cp cs W h
  have hR : chkN L O cs l = if formedB L O cs = false then (-1, 1) else if 1024 < m then (-1, 8) else firstF (faultAt L O cs l) m := by unfold chkN; rw [hl2]
  have hform : formedB L O cs = true → 1 ≤ L ∧ L ≤ 512 ∧ 1 ≤ O ∧ O ≤ 16 ∧ n ≤ 512 := by
    unfold formedB headB
    simp only [Bool.and_eq_true, decide_eq_true_eq]
    rw [hl1]
    omega
  have cR := fun (hf : formedB L O cs = true) c W => right_any L O A n cp c W ⟨(hform hf).1, (hform hf).2.1⟩ ⟨(hform hf).2.2.1, (hform hf).2.2.2.1⟩
  generalize hRR : chkN L O cs l = R at *
  generalize formedB L O cs = FB at *
  replace h1 := Lib.hid h1
  replace h2 := Lib.hid h2
  replace ok1 := Lib.hid ok1
  replace ok2 := Lib.hid ok2
  replace hl1 := Lib.hid hl1
  replace hl2 := Lib.hid hl2
  replace hbw := Lib.hid hbw
  replace BX := Lib.hid BX
  replace cF := Lib.hid cF
  replace hR := Lib.hid hR
  replace hform := Lib.hid hform
  replace cR := Lib.hid cR
  replace hRR := Lib.hid hRR
  have kx := BX.out.at_
  go_enter Try.func12, Try.ntmps12
  go_wp2_with fail
  refine (cF.out _ (h1.out.keep hbw.out)).mono ?_
  rintro e w1 ⟨rfl, hb_⟩
  clear kx cF
  replace BX := Lib.hid (BX.out.keep hb_)
  replace hbw := Lib.hid (hbw.out.keep hb_)
  clear hb_
  cases FB with
  | false =>
    have hR2 : Hid (R = (-1, 1)) := by show _ = _; rw [hR.out, if_pos rfl]
    clear hR
    go_wp2
    refine bodyPost_ret (v := .tuple #[.int .i64 (-1), .int .i64 1]) (by simp [results, Try.results12, go_sem]) rfl ⟨by rw [hR2.out], hbw.out⟩
  | true =>
  obtain ⟨hL1, hL2, hO1, hO2, hn5⟩ := hform.out rfl
  have cR2 := cR.out rfl
  replace cR2 := Lib.hid cR2
  by_cases hm : 1024 < m
  · have hR2 : Hid (R = (-1, 8)) := by show _ = _; rw [hR.out, if_neg (by decide), if_pos hm]
    clear hR
    go_wp2
    refine bodyPost_ret (v := .tuple #[.int .i64 (-1), .int .i64 8]) (by simp [results, Try.results12, go_sem]) rfl ⟨by rw [hR2.out], hbw.out⟩
  have hR2 : Hid (R = firstF (faultAt L O cs l) m) := by show _ = _; rw [hR.out, if_neg (by decide), if_neg hm]
  clear hR cR hform
  have kx := BX.out.at_
  have kx2 := (BX.out.alloc (.map #[] 0)).at_
  have hO0 := OwnC.made w1
  have hbw0 := ballN hbw.out (.map #[] 0)
  have BX0 := BX.out.alloc (.map #[] 0)
  have hmm := @run_makeMap Try.prog
  replace hO0 := Lib.hid hO0
  replace hbw0 := Lib.hid hbw0
  replace BX0 := Lib.hid BX0
  clear kx
  go_upto_region 7 with fail
  have hM1 := BX.out.lt
  clear hmm kx2 BX hbw
  have hlo := hbw0.out.size
  have hf0 : Hid ((fun _ => false) = fun c => decide (c ∈ cs.take 0)) := by show _ = _; funext c; simp
  rw [hf0.out] at hO0
  rw [size1] at hlo
  generalize w1.alloc (.map #[] 0) = w2 at *
  generalize w1.heap.size = M at *
  go_loopw [23] (fun i wr => ∃ k : Nat, k ≤ n ∧ i = .int .i64 k ∧ Hid (OwnC wr M k (fun c => decide (c ∈ cs.take k))) ∧ Hid (w2.grownBy wr (some M))) (fun i _ => n - (intOf i).toNat)
  case atStart => exact ⟨0, by omega, rfl, hO0, gbr w2⟩
  case round =>
    obtain ⟨k, hk, rfl, HO, HG⟩ := hrel
    clear hO0
    have hB := hbw0.out.grown HG.out hbw0.out.size (fun j hj => by cases hj; omega)
    by_cases hlt : k < n
    · obtain ⟨b, off, rfl⟩ := h1.out.addr (by omega)
      have hk1 := cel_at (h1.out.keep hB) hlt
      have hck : (cs.getD k default).ok := ok_at ok1.out (by rw [hl1.out]; exact hlt)
      have hset := setF_take (cs := cs) (k := k) (by rw [hl1.out]; exact hlt)
      generalize cs.getD k default = c at *
      obtain ⟨w3, hrun, hO3, hg3⟩ := (HO.out.keep (ball wr (.cells #[.int .i64 c.slot, .int .i64 c.offset, .int .i64 c.frm, .int .i64 c.to, .int .i64 c.flow] 34))).upd (by unfold maxLen; omega) c hck true
      rw [hset] at hO3
      have BC := Box.new wr #[.int .i64 c.slot, .int .i64 c.offset, .int .i64 c.frm, .int .i64 c.to, .int .i64 c.flow] 34
      have HG2 := gbt (gbt HG.out (gbb (ball wr (.cells #[.int .i64 c.slot, .int .i64 c.offset, .int .i64 c.frm, .int .i64 c.to, .int .i64 c.flow] 34)))) hg3
      obtain ⟨c0, c1, c2, c3, c4⟩ := c
      obtain ⟨q0, q1, q2, q3, q4⟩ := hk1
      dsimp only at q0 q1 q2 q3 q4 hrun BC
      have kb := BC.at_
      replace hck := Lib.hid hck
      replace hset := Lib.hid hset
      replace hO3 := Lib.hid hO3
      replace hg3 := Lib.hid hg3
      replace HG2 := Lib.hid HG2
      replace BC := Lib.hid BC
      replace hB := Lib.hid hB
      go_wp2
      go_roundw
      case rel => exact ⟨k + 1, by omega, by go_num, hO3, HG2⟩
      case measure => simp [intOf]; omega
    · obtain rfl : k = n := by omega
      have hf1 : Hid ((fun c => decide (c ∈ cs.take k)) = thereN cs (l.take 0)) := by show _ = _; funext c; rw [List.take_of_length_le (by rw [hl1.out]; exact Nat.le_refl _)]; rfl
      rw [hf1.out] at HO
      replace hB := Lib.hid hB
      have hFA : ∀ i, faultAt L O cs l i = (if (l.getD i default).slot < 0 ∨ 4096 < (l.getD i default).slot then 2 else if 0 < i ∧ (l.getD i default).slot < (l.getD (i - 1) default).slot then 5 else if cellOk L O (l.getD i default).cell = false then 1
        else if (l.getD i default).add = true ∧ thereN cs (l.take i) (l.getD i default).cell = true then 6 else if (l.getD i default).add = false ∧ thereN cs (l.take i) (l.getD i default).cell = false then 7 else 0) := fun _ => rfl
      generalize faultAt L O cs l = FA at *
      generalize cellOk L O = CO at *
      replace hFA := Lib.hid hFA
      go_wp2_with fail
      go_loopw [32] (fun i wr => ∃ j : Nat, j ≤ m ∧ i = .int .i64 j ∧ Hid (∀ i, i < j → FA i = 0) ∧ Hid (OwnC wr M (k + j) (thereN cs (l.take j))) ∧ Hid (w2.grownBy wr (some M))) (fun i _ => m - (intOf i).toNat)
      case atStart => exact ⟨0, by omega, rfl, fun i hi => absurd hi (by omega), HO, HG⟩
      case round =>
        obtain ⟨j, hj, rfl, HP, HO, HG⟩ := hrel
        have hB := hbw0.out.grown HG.out hbw0.out.size (fun j hj => by cases hj; omega)
        have BXr := BX0.out.grownM HG.out (by omega)
        by_cases hlt : j < m
        · obtain ⟨b, off, rfl⟩ := h2.out.addr (by omega)
          have hx := chg_at (h2.out.keep hB) hlt
          have hxo : (l.getD j default).cell.ok := ok_at ok2.out (by rw [hl2.out]; exact hlt)
          have hT := HO.out.look (l.getD j default).cell hxo
          have hF := hFA.out j
          have hsn := thereN_snoc cs (l.take j) (l.getD j default)
          rw [← take_snoc (by rw [hl2.out]; exact hlt)] at hsn
          have hy := fun W (hb : Below w.heap.size w W) (h0 : 0 < j) => chg_at (h2.out.keep hb) (i := j - 1) (by omega)
          have cr := cR2.out (l.getD j default).cell
          generalize CO (l.getD j default).cell = CK at *
          generalize l.getD (j - 1) default = y at *
          generalize l.getD j default = x at *
          have hLk := fun W (h : Below wr.heap.size wr W) => (HO.out.keep h).look x.cell hxo
          have hUp := fun W (h : Below wr.heap.size wr W) => (HO.out.keep h).upd (by unfold maxLen; omega) x.cell hxo x.add
          rw [← hsn] at hUp
          generalize thereN cs (l.take j) x.cell = T at *
          obtain ⟨xs, xa, x0, x1, x2, x3, x4⟩ := x
          obtain ⟨ys, ya, y0, y1, y2, y3, y4⟩ := y
          obtain ⟨q0, q1, q2, q3, q4, q5, q6⟩ := hx
          dsimp only at q0 q1 q2 q3 q4 q5 q6 cr hF hLk hUp
          have BC := Box.new wr #[.int .i64 xs, .bool xa, .int .i64 x0, .int .i64 x1, .int .i64 x2, .int .i64 x3, .int .i64 x4] 56
          have BXc := BXr.alloc (.cells #[.int .i64 xs, .bool xa, .int .i64 x0, .int .i64 x1, .int .i64 x2, .int .i64 x3, .int .i64 x4] 56)
          have hBc := ballN hB (.cells #[.int .i64 xs, .bool xa, .int .i64 x0, .int .i64 x1, .int .i64 x2, .int .i64 x3, .int .i64 x4] 56)
          have hWc := ball wr (.cells #[.int .i64 xs, .bool xa, .int .i64 x0, .int .i64 x1, .int .i64 x2, .int .i64 x3, .int .i64 x4] 56)
          replace hxo := Lib.hid hxo
          replace hT := Lib.hid hT
          replace hsn := Lib.hid hsn
          replace hy := Lib.hid hy
          replace cr := Lib.hid cr
          replace hLk := Lib.hid hLk
          replace hUp := Lib.hid hUp
          replace BC := Lib.hid BC
          replace BXc := Lib.hid BXc
          replace BXr := Lib.hid BXr
          replace hBc := Lib.hid hBc
          replace hWc := Lib.hid hWc
          replace hB := Lib.hid hB
          replace hF := Lib.hid hF
          clear hT
          have kb := BC.out.at_
          go_upto_region 14 with fail
          clear q0 q1 q2 q3 q4 q5 q6
          generalize wr.alloc (.cells #[.int .i64 xs, .bool xa, .int .i64 x0, .int .i64 x1, .int .i64 x2, .int .i64 x3, .int .i64 x4] 56) = wb at *
          by_cases hr : xs < 0 ∨ 4096 < xs
          · have hF2 : FA j = 2 := by rw [hF.out, if_pos hr]
            have hR3 : Hid (R = ((j : Int), 2)) := by show _ = _; rw [hR2.out, firstF_hit hlt (by rw [hF2]; decide) HP.out, hF2]
            replace hF2 := Lib.hid hF2
            rcases hr with hr | hr
            · go_wp2
              refine bodyPost_ret (v := .tuple #[.int .i64 (j : Int), .int .i64 2]) (by simp [results, Try.results12, go_sem]) rfl ⟨by rw [hR3.out], hBc.out⟩
            · have hr0 : 0 ≤ xs := by omega
              go_wp2
              refine bodyPost_ret (v := .tuple #[.int .i64 (j : Int), .int .i64 2]) (by simp [results, Try.results12, go_sem]) rfl ⟨by rw [hR3.out], hBc.out⟩
          have hF3 : Hid (FA j = (if 0 < j ∧ xs < ys then 5 else if CK = false then 1 else if xa = true ∧ T = true then 6 else if xa = false ∧ T = false then 7 else 0)) := by show _ = _; rw [hF.out, if_neg hr]
          have hr1 : 0 ≤ xs := by omega
          have hr2 : xs ≤ 4096 := by omega
          clear hr hF
          have hjp : (0 < j ∧ xs < ys) ∨ (j = 0 ∧ ¬ (0 < j ∧ xs < ys)) ∨ (0 < j ∧ ¬ xs < ys ∧ ¬ (0 < j ∧ xs < ys)) := by omega
          rcases hjp with ⟨h0, hlt2⟩ | hjp
          · have hF2 : FA j = 5 := by rw [hF3.out, if_pos ⟨h0, hlt2⟩]
            have hR3 : Hid (R = ((j : Int), 5)) := by show _ = _; rw [hR2.out, firstF_hit hlt (by rw [hF2]; decide) HP.out, hF2]
            obtain ⟨p0, p1, p2, p3, p4, p5, p6⟩ := hy.out wb hBc.out h0
            dsimp only at p0
            clear p1 p2 p3 p4 p5 p6
            have hw1 : IntKind.i64.wrap ((j : Int) - 1) = (j : Int) - 1 := IntWalk.i64_in _ (by omega)
            have ht1 : ((j : Int) - 1).toNat = j - 1 := by omega
            have r1 : (0 : Int) ≤ (j : Int) - 1 := by omega
            have r2 : (j : Int) - 1 < (m : Int) := by omega
            have g3 := cell_regrown p0
            clear p0
            have g1 := BC.out.grown
            have h0' : 0 < (j : Int) := by omega
            replace hF2 := Lib.hid hF2
            go_wp2_with fail
            refine wp_region_quiet_below (by kernel_rfl) (by kernel_rfl) ?_
            repeat (go_big_quiet_step (fail))
            refine wpQuiet_nil ?_
            rintro _ ⟨⟨dq, osq⟩, rfl⟩
            have hb_ := below_regrown wb dq osq
            replace hBc := Lib.hid (hBc.out.keep hb_)
            generalize grow (redrawn wb dq) osq = w4 at *
            clear hb_
            go_wp2
            refine bodyPost_ret (v := .tuple #[.int .i64 (j : Int), .int .i64 5]) (by simp [results, Try.results12, go_sem]) rfl ⟨by rw [hR3.out], hBc.out⟩
          have hF4 : Hid (FA j = (if CK = false then 1 else if xa = true ∧ T = true then 6 else if xa = false ∧ T = false then 7 else 0)) := by
            show _ = _
            rw [hF3.out]
            rcases hjp with ⟨_, h⟩ | ⟨_, _, h⟩ <;> rw [if_neg h]
          clear hF3
          rcases hjp with ⟨hj0, _⟩ | ⟨h0, hnl, _⟩
          · have hj1 : decide (0 < j) = false := by simp; omega
            have hj2 : ¬ 0 < j := by omega
            replace hj0 := Lib.hid hj0
            go_upto_region 16 with fail
            refine wp_region_quiet_below (by kernel_rfl) (by kernel_rfl) ?_
            repeat (go_big_quiet_step (fail))
            refine wpQuiet_nil ?_
            rintro _ ⟨⟨dq, osq⟩, rfl⟩
            have hb_ := below_regrown wb dq osq
            replace hBc := Lib.hid (hBc.out.keep hb_)
            replace hWc := Lib.hid (hWc.out.keep hb_)
            replace BC := Lib.hid (BC.out.keep hb_)
            replace BXc := Lib.hid (BXc.out.keep hb_)
            generalize grow (redrawn wb dq) osq = w4 at *
            clear hb_
            have kx := BXc.out.at_
            have kb := BC.out.at_
            go_wp2_with fail
            refine (cr.out _).mono ?_
            rintro e w5 ⟨rfl, hb_⟩
            clear kx kb
            replace hBc := Lib.hid (hBc.out.keep hb_)
            replace hWc := Lib.hid (hWc.out.keep hb_)
            replace BC := Lib.hid (BC.out.keep hb_)
            clear hb_ BXc
            cases CK with
            | false =>
              have hF2 : FA j = 1 := by rw [hF4.out, if_pos rfl]
              have hR3 : Hid (R = ((j : Int), 1)) := by show _ = _; rw [hR2.out, firstF_hit hlt (by rw [hF2]; decide) HP.out, hF2]
              replace hF2 := Lib.hid hF2
              go_wp2
              refine bodyPost_ret (v := .tuple #[.int .i64 (j : Int), .int .i64 1]) (by simp [results, Try.results12, go_sem]) rfl ⟨by rw [hR3.out], hBc.out⟩
            | true =>
              have kb := BC.out.at_
              have hlk := hLk.out w5 hWc.out
              cases xa <;> cases T
              · have hF2 : FA j = 7 := by rw [hF4.out]; decide
                have hR3 : Hid (R = ((j : Int), 7)) := by show _ = _; rw [hR2.out, firstF_hit hlt (by rw [hF2]; decide) HP.out, hF2]
                replace hF2 := Lib.hid hF2
                go_wp2
                refine bodyPost_ret (v := .tuple #[.int .i64 (j : Int), .int .i64 7]) (by simp [results, Try.results12, go_sem]) rfl ⟨by rw [hR3.out], hBc.out⟩
              · have hF2 : FA j = 0 := by rw [hF4.out]; decide
                have hP2 := Lib.hid (next_zero hF2 HP.out)
                obtain ⟨w6, hrun, hO6, hg6⟩ := hUp.out w5 hWc.out
                have hG6 := Lib.hid (gbt (gbt HG.out (gbb hWc.out)) hg6)
                replace hF2 := Lib.hid hF2
                replace hO6 := Lib.hid hO6
                replace hg6 := Lib.hid hg6
                go_wp2
                go_roundw
                case rel => exact ⟨j + 1, by omega, by go_num, hP2, hO6, hG6⟩
                case measure => simp [intOf]; omega
              · have hF2 : FA j = 0 := by rw [hF4.out]; decide
                have hP2 := Lib.hid (next_zero hF2 HP.out)
                obtain ⟨w6, hrun, hO6, hg6⟩ := hUp.out w5 hWc.out
                have hG6 := Lib.hid (gbt (gbt HG.out (gbb hWc.out)) hg6)
                replace hF2 := Lib.hid hF2
                replace hO6 := Lib.hid hO6
                replace hg6 := Lib.hid hg6
                go_wp2
                go_roundw
                case rel => exact ⟨j + 1, by omega, by go_num, hP2, hO6, hG6⟩
                case measure => simp [intOf]; omega
              · have hF2 : FA j = 6 := by rw [hF4.out]; decide
                have hR3 : Hid (R = ((j : Int), 6)) := by show _ = _; rw [hR2.out, firstF_hit hlt (by rw [hF2]; decide) HP.out, hF2]
                replace hF2 := Lib.hid hF2
                go_wp2
                refine bodyPost_ret (v := .tuple #[.int .i64 (j : Int), .int .i64 6]) (by simp [results, Try.results12, go_sem]) rfl ⟨by rw [hR3.out], hBc.out⟩
          · obtain ⟨p0, p1, p2, p3, p4, p5, p6⟩ := hy.out wb hBc.out h0
            dsimp only at p0
            clear p1 p2 p3 p4 p5 p6
            have hw1 : IntKind.i64.wrap ((j : Int) - 1) = (j : Int) - 1 := IntWalk.i64_in _ (by omega)
            have ht1 : ((j : Int) - 1).toNat = j - 1 := by omega
            have r1 : (0 : Int) ≤ (j : Int) - 1 := by omega
            have r2 : (j : Int) - 1 < (m : Int) := by omega
            have g3 := cell_regrown p0
            clear p0
            have g1 := BC.out.grown
            have h0' : 0 < (j : Int) := by omega
            have hnl2 : decide (xs < ys) = false := by simpa using hnl
            clear hnl
            go_upto_region 16 with fail
            refine wp_region_quiet_below (by kernel_rfl) (by kernel_rfl) ?_
            repeat (go_big_quiet_step (fail))
            refine wpQuiet_nil ?_
            rintro _ ⟨⟨dq, osq⟩, rfl⟩
            have hb_ := below_regrown wb dq osq
            replace hBc := Lib.hid (hBc.out.keep hb_)
            replace hWc := Lib.hid (hWc.out.keep hb_)
            replace BC := Lib.hid (BC.out.keep hb_)
            replace BXc := Lib.hid (BXc.out.keep hb_)
            generalize grow (redrawn wb dq) osq = w4 at *
            clear hb_
            clear hw1 ht1 r1 r2 g3 g1
            have kx := BXc.out.at_
            have kb := BC.out.at_
            go_wp2_with fail
            refine (cr.out _).mono ?_
            rintro e w5 ⟨rfl, hb_⟩
            clear kx kb
            replace hBc := Lib.hid (hBc.out.keep hb_)
            replace hWc := Lib.hid (hWc.out.keep hb_)
            replace BC := Lib.hid (BC.out.keep hb_)
            clear hb_ BXc
            cases CK with
            | false =>
              have hF2 : FA j = 1 := by rw [hF4.out, if_pos rfl]
              have hR3 : Hid (R = ((j : Int), 1)) := by show _ = _; rw [hR2.out, firstF_hit hlt (by rw [hF2]; decide) HP.out, hF2]
              replace hF2 := Lib.hid hF2
              go_wp2
              refine bodyPost_ret (v := .tuple #[.int .i64 (j : Int), .int .i64 1]) (by simp [results, Try.results12, go_sem]) rfl ⟨by rw [hR3.out], hBc.out⟩
            | true =>
              have kb := BC.out.at_
              have hlk := hLk.out w5 hWc.out
              cases xa <;> cases T
              · have hF2 : FA j = 7 := by rw [hF4.out]; decide
                have hR3 : Hid (R = ((j : Int), 7)) := by show _ = _; rw [hR2.out, firstF_hit hlt (by rw [hF2]; decide) HP.out, hF2]
                replace hF2 := Lib.hid hF2
                go_wp2
                refine bodyPost_ret (v := .tuple #[.int .i64 (j : Int), .int .i64 7]) (by simp [results, Try.results12, go_sem]) rfl ⟨by rw [hR3.out], hBc.out⟩
              · have hF2 : FA j = 0 := by rw [hF4.out]; decide
                have hP2 := Lib.hid (next_zero hF2 HP.out)
                obtain ⟨w6, hrun, hO6, hg6⟩ := hUp.out w5 hWc.out
                have hG6 := Lib.hid (gbt (gbt HG.out (gbb hWc.out)) hg6)
                replace hF2 := Lib.hid hF2
                replace hO6 := Lib.hid hO6
                replace hg6 := Lib.hid hg6
                go_wp2
                go_roundw
                case rel => exact ⟨j + 1, by omega, by go_num, hP2, hO6, hG6⟩
                case measure => simp [intOf]; omega
              · have hF2 : FA j = 0 := by rw [hF4.out]; decide
                have hP2 := Lib.hid (next_zero hF2 HP.out)
                obtain ⟨w6, hrun, hO6, hg6⟩ := hUp.out w5 hWc.out
                have hG6 := Lib.hid (gbt (gbt HG.out (gbb hWc.out)) hg6)
                replace hF2 := Lib.hid hF2
                replace hO6 := Lib.hid hO6
                replace hg6 := Lib.hid hg6
                go_wp2
                go_roundw
                case rel => exact ⟨j + 1, by omega, by go_num, hP2, hO6, hG6⟩
                case measure => simp [intOf]; omega
              · have hF2 : FA j = 6 := by rw [hF4.out]; decide
                have hR3 : Hid (R = ((j : Int), 6)) := by show _ = _; rw [hR2.out, firstF_hit hlt (by rw [hF2]; decide) HP.out, hF2]
                replace hF2 := Lib.hid hF2
                go_wp2
                refine bodyPost_ret (v := .tuple #[.int .i64 (j : Int), .int .i64 6]) (by simp [results, Try.results12, go_sem]) rfl ⟨by rw [hR3.out], hBc.out⟩
        · obtain rfl : j = m := by omega
          have hR3 : Hid (R = (-1, 0)) := by show _ = _; rw [hR2.out, firstF_none HP.out]
          go_wp2
          refine bodyPost_ret (v := .tuple #[.int .i64 (-1), .int .i64 0]) (by simp [results, Try.results12, go_sem]) rfl ⟨by rw [hR3.out], hB⟩
end Sw
end Go.Proofs.Ytnkgmpmedkegbaa
