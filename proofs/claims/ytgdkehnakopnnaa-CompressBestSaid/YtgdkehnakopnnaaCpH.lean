/- Headers and contexts in memory; Check, Contexts of both packages. -/
import Derived.Test.YtgdkehnakopnnaaCpRr
import Derived.Test.YtgdkehnakopnnaaCpR2
import Derived.Lib.QuietBelow
import Derived.Shelf.Abstract
namespace Go.Proofs.Ytgdkehnakopnnaa
open Go Go.RowKit Go.Sort
namespace Cp
open Mm
structure Hdr where
  cls : Int
  lim : Int
  src : ByteArray
  dst : ByteArray
  port : Int
  rep : Int
  len : Int
  deriving DecidableEq, Inhabited
def I64 (x : Int) : Prop := -9223372036854775808 ≤ x ∧ x ≤ 9223372036854775807
def hdrC (h : Hdr) : Array Value := #[.int .i64 h.cls, .int .i64 h.lim, .string h.src, .string h.dst, .int .i64 h.port, .int .i64 h.rep, .int .i64 h.len]
structure Hdr.ok (h : Hdr) : Prop where
  cls : I64 h.cls
  lim : I64 h.lim
  src : h.src.size ≤ maxLen
  dst : h.dst.size ≤ maxLen
  port : I64 h.port
  rep : I64 h.rep
  len : I64 h.len
/-- elements of k cells each -/
structure ElsV {α : Type} [Inhabited α] (k : Nat) (f : α → Nat → Value) (w : World) (A : Option Addr) (n : Nat) (xs : List α) : Prop where
  len : xs.length = n
  small : n ≤ maxLen
  at_ : 0 < n → ∃ b off, A = some ⟨b, off, none⟩ ∧ b < w.heap.size ∧ ∀ i, i < n → ∀ j, j < k → w.cell? ⟨b, off + i * k + j, none⟩ = some (f (xs.getD i default) j)
theorem ElsV.keep {α : Type} [Inhabited α] {k : Nat} {f : α → Nat → Value} {w w' : World} {A : Option Addr} {n : Nat} {xs : List α} (h : ElsV k f w A n xs) (hb : Below w.heap.size w w') : ElsV k f w' A n xs :=
  ⟨h.len, h.small, fun hn => by
    obtain ⟨b, off, e, hlt, hc⟩ := h.at_ hn
    exact ⟨b, off, e, Nat.lt_of_lt_of_le hlt hb.size, fun i hi j hj => by rw [hb.cell (p := ⟨b, off + i * k + j, none⟩) hlt]; exact hc i hi j hj⟩⟩
theorem ElsV.addr {α : Type} [Inhabited α] {k : Nat} {f : α → Nat → Value} {w : World} {A : Option Addr} {n : Nat} {xs : List α} (h : ElsV k f w A n xs) (hn : 0 < n) : ∃ b off, A = some ⟨b, off, none⟩ := by
  obtain ⟨b, off, e, _⟩ := h.at_ hn
  exact ⟨b, off, e⟩
theorem ElsV.cell {α : Type} [Inhabited α] {k : Nat} {f : α → Nat → Value} {w : World} {b off n : Nat} {xs : List α} (h : ElsV k f w (some ⟨b, off, none⟩) n xs) (hn : 0 < n) :
    b < w.heap.size ∧ ∀ i, i < n → ∀ j, j < k → w.cell? ⟨b, off + i * k + j, none⟩ = some (f (xs.getD i default) j) := by
  obtain ⟨b', off', e, h1, h2⟩ := h.at_ hn
  injection e with e
  injection e with e1 e2 _
  subst e1 e2
  exact ⟨h1, h2⟩
theorem ElsV.none {α : Type} [Inhabited α] {k : Nat} {f : α → Nat → Value} {w : World} {n : Nat} {xs : List α} (h : ElsV k f w none n xs) : n = 0 := by
  rcases Nat.eq_zero_or_pos n with h0 | h0
  · exact h0
  · obtain ⟨b, off, e, _⟩ := h.at_ h0; cases e
def strF (p : ByteArray) (_ : Nat) : Value := .string p
def hdrF (h : Hdr) (j : Nat) : Value := (hdrC h).getD j undef
structure CtxS (w : World) (A : Option Addr) (n : Nat) (ps : List ByteArray) : Prop where
  els : ElsV 1 strF w A n ps
  ok : ∀ p ∈ ps, p.size ≤ maxLen
structure HdrS (w : World) (A : Option Addr) (n : Nat) (hs : List Hdr) : Prop where
  els : ElsV 7 hdrF w A n hs
  ok : ∀ p ∈ hs, p.ok
theorem CtxS.keep {w w' : World} {A : Option Addr} {n : Nat} {ps : List ByteArray} (h : CtxS w A n ps) (hb : Below w.heap.size w w') : CtxS w' A n ps := ⟨h.els.keep hb, h.ok⟩
theorem HdrS.keep {w w' : World} {A : Option Addr} {n : Nat} {ps : List Hdr} (h : HdrS w A n ps) (hb : Below w.heap.size w w') : HdrS w' A n ps := ⟨h.els.keep hb, h.ok⟩
theorem getD_mem {α : Type} [Inhabited α] {xs : List α} {i : Nat} (h : i < xs.length) : xs.getD i default ∈ xs := by
  rw [List.getD_eq_getElem?_getD, List.getElem?_eq_getElem h]; exact List.getElem_mem h
theorem CtxS.elem {w : World} {b off n : Nat} {ps : List ByteArray} (h : CtxS w (some ⟨b, off, none⟩) n ps) {k : Nat} (hk : k < n) : w.cell? ⟨b, off + k, none⟩ = some (.string (ps.getD k default)) ∧ (ps.getD k default).size ≤ maxLen := by
  obtain ⟨_, hc⟩ := h.els.cell (by omega)
  have := hc k hk 0 (by omega)
  rw [Nat.mul_one, Nat.add_zero] at this
  exact ⟨this, h.ok _ (getD_mem (by rw [h.els.len]; exact hk))⟩
theorem box_below {w w1 : World} {o : Obj} (hb : Below (w.alloc o).heap.size (w.alloc o) w1) : Below w.heap.size w w1 :=
  (below_alloc w o).trans (hb.mono (by simp))
theorem bthen {w w1 w2 : World} (h : Below w.heap.size w w1) (k : Below w1.heap.size w1 w2) : Below w.heap.size w w2 := h.trans (k.mono h.size)
def inB (n m : Int) : Bool := decide (0 ≤ n) && decide (n ≤ m)
set_option maxRecDepth 100000 in
set_option maxHeartbeats 2000000 in
theorem in_any (n m : Int) (w : World) : Calls Try.prog 41 #[.int .i64 n, .int .i64 m] w fun e w' => e = .returned (.bool (inB n m)) ∧ w = w' := by
  unfold inB
  go_enter Try.func41, Try.ntmps41
  by_cases h : 0 ≤ n
  · go_wp2_with fail
    go_ret
    exact ⟨by simp [h], rfl⟩
  · have d : decide (0 ≤ n) = false := by simpa using h
    go_wp2_with fail
    go_ret
    exact ⟨by simp, rfl⟩
set_option maxRecDepth 100000 in
set_option maxHeartbeats 2000000 in
theorem within_any (n m : Int) (w : World) : Calls Try.prog 42 #[.int .i64 n, .int .i64 m] w fun e w' => e = .returned (.bool (inB n m)) ∧ w = w' := by
  unfold inB
  go_enter Try.func42, Try.ntmps42
  by_cases h : 0 ≤ n
  · go_wp2_with fail
    go_ret
    exact ⟨by simp [h], rfl⟩
  · have d : decide (0 ≤ n) = false := by simpa using h
    go_wp2_with fail
    go_ret
    exact ⟨by simp, rfl⟩
def valid (h : Hdr) : Bool := inB h.cls 255 && inB h.lim 255 && !((h.src.size : Int) != 4) && !((h.dst.size : Int) != 4) && inB h.port 65535 && inB h.rep 65535 && inB h.len 4095
def chk (h : Hdr) : Int := if valid h then 0 else 1
set_option maxRecDepth 100000 in
set_option maxHeartbeats 4000000 in
theorem check_any (h : Hdr) (w : World) : Calls Try.prog 20 #[.agg (hdrC h)] w fun e w' => e = .returned (.int .i64 (chk h)) ∧ Below w.heap.size w w' := by
  obtain ⟨cls, lim, src, dst, port, rep, len⟩ := h
  have hb := below_alloc w (.cells #[.int .i64 cls, .int .i64 lim, .string src, .string dst, .int .i64 port, .int .i64 rep, .int .i64 len] 24)
  unfold hdrC
  dsimp only
  replace hb := Lib.hid hb
  go_enter Try.func20, Try.ntmps20
  go_wp2_with (go_at_call 41; refine (in_any _ _ _).mono ?_; rintro e w' ⟨rfl, rfl⟩)
  all_goals
    go_ret
    exact ⟨by unfold chk valid; first | (simp [*]; done) | simp_all, hb.out⟩
set_option maxRecDepth 100000 in
set_option maxHeartbeats 4000000 in
theorem rcheck_any (h : Hdr) (w : World) : Calls Try.prog 21 #[.agg (hdrC h)] w fun e w' => e = .returned (.int .i64 (chk h)) ∧ Below w.heap.size w w' := by
  obtain ⟨cls, lim, src, dst, port, rep, len⟩ := h
  have hb := below_alloc w (.cells #[.int .i64 cls, .int .i64 lim, .string src, .string dst, .int .i64 port, .int .i64 rep, .int .i64 len] 24)
  unfold hdrC
  dsimp only
  replace hb := Lib.hid hb
  go_enter Try.func21, Try.ntmps21
  go_wp2_with (go_at_call 42; refine (within_any _ _ _).mono ?_; rintro e w' ⟨rfl, rfl⟩)
  all_goals
    go_ret
    exact ⟨by unfold chk valid; first | (simp [*]; done) | simp_all, hb.out⟩
/-- what a predicate pays: it answers p, and only makes memory -/
def PaysC (g : Nat) (p : ByteArray → Bool) : Prop := ∀ (x : ByteArray) (w : World), x.size ≤ maxLen → Calls Try.prog g #[.agg #[.string x]] w fun e w' => e = .returned (.bool (p x)) ∧ Below w.heap.size w w'
def IdxPost (b : Bool) (w : World) (e : Ending) (w' : World) : Prop := ∃ i : Int, e = .returned (.int .i64 i) ∧ decide (0 ≤ i) = b ∧ Below w.heap.size w w'
theorem any_take_succ {α : Type} [Inhabited α] (p : α → Bool) (xs : List α) (k : Nat) (h : k < xs.length) : (xs.take (k + 1)).any p = ((xs.take k).any p || p (xs.getD k default)) := by
  rw [List.take_add_one, List.getElem?_eq_getElem h, List.any_append, List.getD_eq_getElem?_getD, List.getElem?_eq_getElem h]
  simp only [Option.toList_some, List.any_cons, List.any_nil, Bool.or_false, Option.getD_some]
set_option maxRecDepth 100000 in
set_option maxHeartbeats 4000000 in
theorem indexFuncC_any (g : Nat) (p : ByteArray → Bool) (A : Option Addr) (n c : Nat) (ps : List ByteArray) (w : World) (eg : ∀ args w, (callFunc g args).run Try.prog w = .ok (.enter g args) w) (hp : PaysC g p) (hs : CtxS w A n ps) :
    Calls Try.prog 57 #[.slice A n c, .func (.func g) #[] #[]] w (IdxPost (ps.any p) w) := by
  have hlen := hs.els.len
  have hm := hs.els.small
  unfold maxLen at hm
  replace hs := Lib.hid hs
  replace hp := Lib.hid hp
  replace hlen := Lib.hid hlen
  go_enter Try.func57, Try.ntmps57
  go_wp2_with fail
  go_loopw [5, 8] (fun _ i wr => ∃ k : Nat, k ≤ n ∧ i = .int .i64 k ∧ Hid ((ps.take k).any p = false) ∧ Hid (Below w.heap.size w wr)) (fun _ i _ => n - (intOf i).toNat)
  case atStart => exact ⟨0, by omega, rfl, by show _ = _; simp, Below.refl _ _⟩
  case round =>
    obtain ⟨k, hk, rfl, HP, HB⟩ := hrel
    by_cases hlt : k < n
    · obtain ⟨b, off, rfl⟩ := hs.out.els.addr (by omega)
      obtain ⟨kc, hxl⟩ := (hs.out.keep HB.out).elem hlt
      have hany := any_take_succ p ps k (by rw [hlen.out]; exact hlt)
      rw [HP.out, Bool.false_or] at hany
      have hall : p (ps.getD k default) = true → ps.any p = true := fun h => by
        rw [List.any_eq_true]; exact ⟨_, getD_mem (by rw [hlen.out]; exact hlt), h⟩
      have hc := Lib.hid (hp.out (ps.getD k default) wr hxl)
      generalize ps.getD k default = x at *
      have r1 : (k : Int) < (n : Int) := by omega
      replace hany := Lib.hid hany
      replace hall := Lib.hid hall
      clear hxl
      go_wp2_with fail
      refine hc.out.mono ?_
      rintro e w1 ⟨rfl, hb⟩
      clear kc hc
      have HB2 := Lib.hid (HB.out.trans (hb.mono HB.out.size))
      clear hb
      cases hpx : p x with
      | true =>
        have hA := hall.out hpx
        replace hpx := Lib.hid hpx
        replace hA := Lib.hid hA
        go_wp2
        go_ret
        exact ⟨k, rfl, by rw [hA.out]; simp, HB2.out⟩
      | false =>
        have hA : Hid ((ps.take (k + 1)).any p = false) := hany.out.trans hpx
        replace hpx := Lib.hid hpx
        go_wp2
        go_roundw
        case rel => exact ⟨k + 1, by omega, by go_num, hA, HB2⟩
        case measure => simp [intOf]; omega
    · obtain rfl : k = n := by omega
      have hA := HP.out
      rw [List.take_of_length_le (by rw [hlen.out]; exact Nat.le_refl _)] at hA
      replace hA := Lib.hid hA
      go_wp2
      go_ret
      exact ⟨-1, rfl, by rw [hA.out]; rfl, HB.out⟩
set_option maxRecDepth 100000 in
set_option maxHeartbeats 4000000 in
theorem containsFuncC_any (g : Nat) (p : ByteArray → Bool) (A : Option Addr) (n c : Nat) (ps : List ByteArray) (w : World) (eg : ∀ args w, (callFunc g args).run Try.prog w = .ok (.enter g args) w) (hp : PaysC g p) (hs : CtxS w A n ps) :
    Calls Try.prog 32 #[.slice A n c, .func (.func g) #[] #[]] w fun e w' => e = .returned (.bool (ps.any p)) ∧ Below w.heap.size w w' := by
  have hc := Lib.hid (indexFuncC_any g p A n c ps w eg hp hs)
  generalize ps.any p = R at *
  replace hs := Lib.hid hs
  replace hp := Lib.hid hp
  go_enter Try.func32, Try.ntmps32
  go_wp2_with fail
  refine hc.out.mono ?_
  rintro e w1 ⟨i, rfl, hi, hb⟩
  replace hi := Lib.hid hi
  replace hb := Lib.hid hb
  go_wp2
  go_ret
  exact ⟨by rw [← hi.out]; rfl, hb.out⟩
def badC (x : ByteArray) : Bool := !inB ((x.size : Int) - 1) 3
set_option maxRecDepth 100000 in
set_option maxHeartbeats 4000000 in
theorem contexts1_any : PaysC 43 badC := by
  intro x w hx
  unfold maxLen at hx
  unfold badC
  have hb := below_alloc w (.cells #[.string x] 26)
  have hm : (x.size : Int) ≤ 9223372036854775807 := by omega
  replace hb := Lib.hid hb
  go_enter Try.func43, Try.ntmps43
  go_wp2_with (go_at_call 41; refine (in_any _ _ _).mono ?_; rintro e w' ⟨rfl, rfl⟩)
  go_ret
  exact ⟨rfl, hb.out⟩
def ctxOk (ps : List ByteArray) : Bool := decide (ps.length ≤ 8) && !ps.any badC
def ctxE (ps : List ByteArray) : Int := if ctxOk ps then 0 else 1
set_option maxRecDepth 100000 in
set_option maxHeartbeats 4000000 in
theorem contexts_any (A : Option Addr) (n c : Nat) (ps : List ByteArray) (w : World) (hs : CtxS w A n ps) :
    Calls Try.prog 22 #[.slice A n c] w fun e w' => e = .returned (.int .i64 (ctxE ps)) ∧ Below w.heap.size w w' := by
  have hc := Lib.hid (containsFuncC_any 43 badC A n c ps w (enters_of Try.func43 (by kernel_rfl) rfl) contexts1_any hs)
  have hE : Hid (ctxE ps = if (decide (n ≤ 8) && !ps.any badC) then 0 else 1) := by show _ = _; unfold ctxE ctxOk; rw [hs.els.len]
  have hm := hs.els.small
  unfold maxLen at hm
  generalize ctxE ps = E at *
  generalize ps.any badC = R at *
  replace hs := Lib.hid hs
  by_cases h8 : n ≤ 8
  · have d : ¬ (8 : Int) < (n : Int) := by omega
    go_enter Try.func22, Try.ntmps22
    go_wp2_with fail
    refine hc.out.mono ?_
    rintro e w1 ⟨rfl, hb⟩
    replace hb := Lib.hid hb
    cases R
    all_goals
      go_wp2
      go_ret
      exact ⟨by rw [hE.out]; simp [h8], hb.out⟩
  · have d : (8 : Int) < (n : Int) := by omega
    go_enter Try.func22, Try.ntmps22
    go_wp2_with fail
    go_ret
    exact ⟨by rw [hE.out]; simp [h8], Below.refl _ _⟩
theorem badC_eq (x : ByteArray) : badC x = (decide ((x.size : Int) < 1) || decide (4 < (x.size : Int))) := by
  unfold badC inB
  rw [Bool.eq_iff_iff]
  simp
  omega
set_option maxRecDepth 100000 in
set_option maxHeartbeats 4000000 in
theorem rcontexts_any (A : Option Addr) (n c : Nat) (ps : List ByteArray) (w : World) (hs : CtxS w A n ps) :
    Calls Try.prog 23 #[.slice A n c] w fun e w' => e = .returned (.int .i64 (ctxE ps)) ∧ w = w' := by
  have hE : Hid (ctxE ps = if (decide (n ≤ 8) && !ps.any badC) then 0 else 1) := by show _ = _; unfold ctxE ctxOk; rw [hs.els.len]
  have hlen := hs.els.len
  have hm := hs.els.small
  unfold maxLen at hm
  generalize ctxE ps = E at *
  replace hs := Lib.hid hs
  replace hlen := Lib.hid hlen
  by_cases h8 : n ≤ 8
  · have d : ¬ (8 : Int) < (n : Int) := by omega
    go_enter Try.func23, Try.ntmps23
    go_wp2_with fail
    go_loop [3] (fun i => ∃ k : Nat, k ≤ n ∧ i = .int .i64 k ∧ Hid ((ps.take k).any badC = false)) (fun i => n - (intOf i).toNat)
    case atStart => exact ⟨0, by omega, rfl, by show _ = _; simp⟩
    case round =>
      obtain ⟨k, hk, rfl, HP⟩ := hrel
      by_cases hlt : k < n
      · obtain ⟨b, off, rfl⟩ := hs.out.els.addr (by omega)
        obtain ⟨kc, hxl⟩ := hs.out.elem hlt
        have hany := any_take_succ badC ps k (by rw [hlen.out]; exact hlt)
        rw [HP.out, Bool.false_or] at hany
        have hall : badC (ps.getD k default) = true → ps.any badC = true := fun h => by
          rw [List.any_eq_true]; exact ⟨_, getD_mem (by rw [hlen.out]; exact hlt), h⟩
        rw [badC_eq] at hany hall
        generalize ps.getD k default = x at *
        have r1 : (k : Int) < (n : Int) := by omega
        replace hany := Lib.hid hany
        replace hall := Lib.hid hall
        clear hxl
        by_cases h1 : (x.size : Int) < 1
        · have hA := hall.out (by simp [h1])
          replace hA := Lib.hid hA
          go_wp2_with fail
          go_ret
          exact ⟨by rw [hE.out, hA.out]; simp, rfl⟩
        · by_cases h4 : 4 < (x.size : Int)
          · have hA := hall.out (by simp [h4])
            replace hA := Lib.hid hA
            go_wp2_with fail
            go_ret
            exact ⟨by rw [hE.out, hA.out]; simp, rfl⟩
          · have hA : Hid ((ps.take (k + 1)).any badC = false) := hany.out.trans (by simp [h1, h4])
            go_wp2_with fail
            go_round
            case rel => exact ⟨k + 1, by omega, by go_num, hA⟩
            case measure => simp [intOf]; omega
      · obtain rfl : k = n := by omega
        have hA := HP.out
        rw [List.take_of_length_le (by rw [hlen.out]; exact Nat.le_refl _)] at hA
        replace hA := Lib.hid hA
        go_wp2
        go_ret
        exact ⟨by rw [hE.out, hA.out]; simp [h8], rfl⟩
  · have d : (8 : Int) < (n : Int) := by omega
    go_enter Try.func23, Try.ntmps23
    go_wp2_with fail
    go_ret
    exact ⟨by rw [hE.out]; simp [h8], rfl⟩
end Cp
end Go.Proofs.Ytgdkehnakopnnaa
