/- the walk of ConflictLargest. -/
import Derived.Test.YthibgpgjioepfaaLaw7
import Derived.Test.YthibgpgjioepfaaLrg5
namespace Go.Proofs.Ythibgpgjioepfaa
open Go Go.RowKit Go.Sort
namespace Nt
open Mm
theorem sorted_ints {s : List Nat} (h : s.Pairwise (· < ·)) (i : Nat) (hi : i + 1 < s.length) : (intsOf s).getD i 0 ≤ (intsOf s).getD (i + 1) 0 := by
  have := List.pairwise_iff_getElem.1 h i (i + 1) (by omega) hi (by omega)
  unfold intsOf
  rw [List.getD_eq_getElem?_getD, List.getD_eq_getElem?_getD, List.getElem?_map, List.getElem?_map, List.getElem?_eq_getElem hi, List.getElem?_eq_getElem (by omega : i < s.length)]
  simp
  omega
theorem asc_ge {s : List Nat} (h : s.Pairwise (· < ·)) (i : Nat) (hi : i < s.length) : i ≤ s[i] := by
  induction i with
  | zero => exact Nat.zero_le _
  | succ i ih =>
    have h1 := ih (by omega)
    have h2 := List.pairwise_iff_getElem.1 h i (i + 1) (by omega) hi (by omega)
    omega
theorem asc_len {s : List Nat} {n : Nat} (h : s.Pairwise (· < ·)) (hn : ∀ x ∈ s, x < n) : s.length ≤ n := by
  rcases Nat.eq_zero_or_pos s.length with h0 | h0
  · omega
  · have h1 := asc_ge h (s.length - 1) (by omega)
    have h2 := hn _ (List.getElem_mem (by omega : s.length - 1 < s.length))
    omega
theorem lnk_take {w : World} {A : Option Addr} {n m : Nat} {ls : List Lnk} (h : LnkS w A n ls) (hm : m ≤ n) : LnkS w A m (ls.take m) := by
  have hl := h.els.len
  refine ⟨⟨by simp; omega, Nat.le_trans hm h.els.small, fun h0 => ?_⟩, fun x hx => h.ok x (List.mem_of_mem_take hx)⟩
  obtain ⟨b, off, e, hlt, hc⟩ := h.els.at_ (by omega)
  refine ⟨b, off, e, hlt, fun i hi j hj => ?_⟩
  have : (ls.take m).getD i default = ls.getD i default := by rw [List.getD_eq_getElem?_getD, List.getD_eq_getElem?_getD, List.getElem?_take, if_pos hi]
  rw [this]
  exact hc i (by omega) j hj
def pickL (b : Int) (k : Nat) : Bool := bits BinOp.and IntKind.u8 (b / 2 ^ k) 1 == 1
theorem cellsAt_len (ls : List Lnk) (q : List Nat) : (cellsAt ls q).length = q.length := by unfold cellsAt; simp
set_option maxRecDepth 100000 in
set_option maxHeartbeats 16000000 in
theorem ConflictLargest_any (N : Net) (v : NetV) (A : Option Addr) (n c : Nat) (ls : List Lnk) (bts : Int) (hkp : 0 ≤ bts ∧ bts < 256) (w : World) (hN : NetIs w v N) (hs : LnkS w A n ls) (hnc : n ≤ c) :
    Calls Try.prog 9 #[.agg #[.int .i64 N.nodes, .slice v.PA v.pn v.pc, .int .i64 N.noise, .int .i64 N.threshold, .slice v.LA v.ln v.lc, .slice v.MA v.mn v.mc], .slice A n c, .int .u8 bts] w fun e w' => e = .returned (.bool true) ∧ Below w.heap.size w w' := by
  have hlen := hs.els.len
  have HF := fun W (h : NetIs W v N) => few_any N v W h
  have HK := fun W (h : NetIs W v N) => check_any N v W h
  have HGs := fun W (h : NetIs W v N) A' n' c' ds (h2 : CelS W A' n' ds) hn => Good_any N v A' n' c' ds W h h2 hn
  have HLa := fun (hc : check N = 0) W (h : NetIs W v N) A' n' c' ds (h2 : LnkS W A' n' ds) hn => largest_any N v ds A' n' c' W h h2 hc hn
  have L1 := fun (hc : check N = 0) => largest_ok hc ls
  have L2 := fun p (h : goodN N (cellsAt ls (placeOf p ls.length)) = true) => some_max ls p h
  have L3 := fun (hc : check N = 0) m hm => largest_less hc ls m hm
  have L4 := fun (hc : check N = 0) h0 => largest_one hc ls h0
  unfold goodAt at L1
  rw [hlen] at L1 L2 L3 L4
  generalize fewN N = F at *
  generalize goodN N = G at *
  generalize hCC : check N = C at *
  obtain ⟨nodes, power, noise, thr, links, margin⟩ := N
  obtain ⟨PA, pn, pc, LA, ln, lc, MA, mn, mc⟩ := v
  dsimp only at *
  have hbw := below_alloc w (.cells #[.int .i64 nodes, .slice PA pn pc, .int .i64 noise, .int .i64 thr, .slice LA ln lc, .slice MA mn mc] 26)
  have BX := Box.new w #[.int .i64 nodes, .slice PA pn pc, .int .i64 noise, .int .i64 thr, .slice LA ln lc, .slice MA mn mc] 26
  replace HF := Lib.hid HF
  replace HK := Lib.hid HK
  replace HGs := Lib.hid HGs
  replace HLa := Lib.hid HLa
  replace L1 := Lib.hid L1
  replace L2 := Lib.hid L2
  replace L3 := Lib.hid L3
  replace L4 := Lib.hid L4
  replace hN := Lib.hid hN
  replace hs := Lib.hid hs
  replace BX := Lib.hid BX
  replace hbw := Lib.hid hbw
  replace hlen := Lib.hid hlen
  replace hCC := Lib.hid hCC
  go_enter Try.func9, Try.ntmps9
  go_wp2_with fail
  refine (awake_any _).mono ?_
  rintro e w1 ⟨rfl, hb_⟩
  replace BX := Lib.hid (BX.out.keep hb_)
  replace hbw := Lib.hid (hbw.out.keep hb_)
  clear hb_
  have kx := BX.out.at_
  have c1 := Lib.hid (HF.out _ (hN.out.keep hbw.out))
  go_wp2_with fail
  refine c1.out.mono ?_
  rintro e w2 ⟨rfl, hb_⟩
  clear kx c1
  replace BX := Lib.hid (BX.out.keep hb_)
  replace hbw := Lib.hid (hbw.out.keep hb_)
  clear hb_
  cases F with
  | false =>
    go_wp2
    go_ret
    exact ⟨rfl, hbw.out⟩
  | true =>
  by_cases hn8 : 8 < n
  · go_wp2
    go_ret
    exact ⟨rfl, hbw.out⟩
  have kx := BX.out.at_
  have c1 := Lib.hid (HK.out _ (hN.out.keep hbw.out))
  go_wp2_with fail
  refine c1.out.mono ?_
  rintro e w3 ⟨rfl, hb_⟩
  clear kx c1
  replace BX := Lib.hid (BX.out.keep hb_)
  replace hbw := Lib.hid (hbw.out.keep hb_)
  clear hb_
  by_cases hC : C = 0
  case neg =>
    have hC2 : (C != 0) = true := by simpa using hC
    clear hC
    go_wp2
    go_ret
    exact ⟨rfl, hbw.out⟩
  subst hC
  have l1 := L1.out rfl
  have l3 := L3.out rfl
  have l4 := L4.out rfl
  have kx := BX.out.at_
  have c1 := Lib.hid (HLa.out rfl _ (hN.out.keep hbw.out) A n c ls (hs.out.keep hbw.out) (by omega))
  replace l1 := Lib.hid l1
  replace l3 := Lib.hid l3
  replace l4 := Lib.hid l4
  go_wp2_with fail
  refine c1.out.mono ?_
  rintro e w4 ⟨A', m, c', rfl, hI, hb_⟩
  replace hI := Lib.hid hI
  clear kx c1
  replace BX := Lib.hid (BX.out.keep hb_)
  replace hbw := Lib.hid (hbw.out.keep hb_)
  clear hb_
  generalize largestN ⟨nodes, power, noise, thr, links, margin⟩ ls = s at *
  have hsm : s.length = m := by have := hI.out.els.len; simpa [intsOf] using this
  subst hsm
  have hm8n : s.length ≤ n := asc_len l1.out.asc l1.out.lt
  have hm8 : s.length ≤ 1000 := by omega
  have c1 := Lib.hid (isSorted_any A' s.length c' (intsOf s) w4 hI.out hm8 (fun i hi => sorted_ints l1.out.asc i hi))
  go_wp2_with fail
  refine c1.out.mono ?_
  rintro e w5 ⟨rfl, hb_⟩
  clear c1
  replace BX := Lib.hid (BX.out.keep hb_)
  replace hbw := Lib.hid (hbw.out.keep hb_)
  replace hI := Lib.hid (hI.out.keep hb_)
  clear hb_
  go_upto_region 9 with fail
  obtain ⟨i0, hi, hz0, hz1, hz2⟩ := info_parts info_cell
  have HO0 : Hid (w5.ownsRow w5.heap.size 36 5 (.slice none 0 0) 0 (flat 5 cellV (cellsAt ls (s.take 0)))) := World.ownsRow_nil _ _ _ _
  have hok : ∀ q : List Nat, (∀ x ∈ q, x < n) → ∀ y ∈ cellsAt ls q, y.ok := fun q hq y hy => by
    unfold cellsAt at hy
    obtain ⟨x, hx, rfl⟩ := List.mem_map.1 hy
    have hxn := hq x hx
    have hm : ls.getD x default ∈ ls := by rw [List.getD_eq_getElem?_getD, List.getElem?_eq_getElem (by rw [hlen.out]; exact hxn)]; exact List.getElem_mem _
    have := hs.out.ok _ hm
    exact ⟨i64_zero, i64_zero, this.1, this.2.1, i64_zero⟩
  replace hi := Lib.hid hi
  replace hz0 := Lib.hid hz0
  replace hz1 := Lib.hid hz1
  replace hz2 := Lib.hid hz2
  replace hok := Lib.hid hok
  go_wp2_with fail
  go_loopw [9, 12, 47] (fun o _ i wr => ∃ (k : Nat) (vS : Value), k ≤ s.length ∧ i = .int .i64 k ∧ vS = o ∧ Hid (wr.ownsRow w5.heap.size 36 5 vS k (flat 5 cellV (cellsAt ls (s.take k)))) ∧ Hid (Below w5.heap.size w5 wr)) (fun _ _ i _ => s.length - (intOf i).toNat)
  case atStart => exact ⟨0, _, by omega, rfl, rfl, HO0, Below.refl _ _⟩
  case round =>
    obtain ⟨k, vO, hk, rfl, rfl, HO, HB⟩ := hrel
    clear HO0
    by_cases hlt : k < s.length
    · obtain ⟨b1, off1, rfl⟩ := hI.out.els.addr (by omega)
      obtain ⟨y, hy, hym, p0⟩ := (hI.out.keep HB.out).elem (k := k) hlt
      obtain ⟨q, hq, rfl⟩ : ∃ q : Nat, s[k]? = some q ∧ y = (q : Int) := by
        unfold intsOf at hy
        rw [List.getElem?_map, List.getElem?_eq_getElem hlt] at hy
        simp at hy
        exact ⟨_, List.getElem?_eq_getElem hlt, hy.symm⟩
      have hqn : q < n := l1.out.lt q (List.mem_of_getElem? hq)
      have hb5 := (Below.keep hbw.out HB.out)
      obtain ⟨b, off, rfl⟩ := hs.out.els.addr (by omega)
      obtain ⟨⟨f, t, l⟩, he, hm, q0, q1, q2⟩ := (hs.out.keep hb5).elem hqn
      dsimp only at q0 q1 q2
      have hblt : b < w.heap.size := (hs.out.els.cell (by omega)).1
      have hwl := hbw.out.size
      have hfar := own_far HO.out (B := b) (by omega)
      have hsz := HB.out.size
      have lb : b < wr.heap.size := by omega
      have r1 : (q : Int) < (n : Int) := by omega
      have r0 : (0 : Int) ≤ (q : Int) := by omega
      have HOd := Lib.hid ((HO.out.alloc (.cells #[.int .i64 0, .int .i64 0, .int .i64 f, .int .i64 t, .int .i64 0] 36)).drew)
      have hflk : Hid (flat 5 cellV (cellsAt ls (s.take k)) ++ [.int .i64 0, .int .i64 0, .int .i64 f, .int .i64 t, .int .i64 0] = flat 5 cellV (cellsAt ls (s.take (k + 1)))) := by
        have hg : ls.getD q default = ⟨f, t, l⟩ := by rw [List.getD_eq_getElem?_getD, he]; rfl
        show _ = _
        unfold cellsAt
        rw [List.take_add_one, hq, List.map_append, flat_append, Option.toList_some, List.map_singleton, hg]
        rfl
      replace he := Lib.hid he
      replace hm := Lib.hid hm
      replace hfar := Lib.hid hfar
      replace hy := Lib.hid hy
      replace hym := Lib.hid hym
      replace hq := Lib.hid hq
      replace hb5 := Lib.hid hb5
      clear q2
      go_upto_region 14 with fail
      clear p0
      go_region_held3 (fun w' => w'.cell? ⟨b, off + q * 3, none⟩ = some (.int .i64 f) ∧ w'.cell? ⟨b, off + q * 3 + 1, none⟩ = some (.int .i64 t))
        (first
          | go_keep
          | (go_split_ands
             refine ⟨?_, ?_⟩
             · (rw [hgrow.cell_far _ (by simp; omega) (Ne.symm hfar.out)]; assumption)
             · (rw [hgrow.cell_far _ (by simp; omega) (Ne.symm hfar.out)]; assumption)))
        ((refine step_append_lies _ (by rfl) _ _ _ (by rfl) w5.heap.size 36 i0 _ 5 40 Try.underlying27 hi.out hz0.out hz1.out hz2.out rfl (by omega) vO k _ (by rfl) HOd.out
            ⟨wr.heap.size, 0, none⟩ 1 1 [.int .i64 0, .int .i64 0, .int .i64 f, .int .i64 t, .int .i64 0] (by rfl) (by rfl) (World.news_of_block (cs := #[.int .i64 0, .int .i64 0, .int .i64 f, .int .i64 t, .int .i64 0]) (t := 36) (fr := (0, 0)) (heap_alloc_new wr _)) (by simp [Value.oneCell'])
            (by omega) (by unfold maxLen; omega) (by omega) (by simp; omega) (wr.heap.size + 1) (by simp) ?_; intro gg cap w1 hown1 hgrow hat hlt1))
      have HB1 := Lib.hid (below_append ((HB.out.alloc hsz (.cells #[.int .i64 0, .int .i64 0, .int .i64 f, .int .i64 t, .int .i64 0] 36)).drew) HOd.out hgrow (Nat.le_refl _))
      have HO1 : Hid (w1.ownsRow w5.heap.size 36 5 (.slice (some ⟨gg, 0, none⟩) (k + 1) cap) (k + 1) (flat 5 cellV (cellsAt ls (s.take (k + 1))))) := by
        show World.ownsRow _ _ _ _ _ _ _
        rw [← hflk.out]
        exact hown1
      clear hown1 hgrow hat
      go_wp2
      go_roundw
      case rel => exact ⟨k + 1, _, by omega, by go_num, rfl, HO1, HB1⟩
      case measure => simp [intOf]; omega
    · obtain rfl : k = s.length := by omega
      rw [List.take_of_length_le (Nat.le_refl _)] at HO
      obtain ⟨A2, c2, rfl⟩ := owns_slice HO.out
      have hcb := (celS_of_owns HO.out (hok.out s l1.out.lt)).2
      replace hbw := Lib.hid (Below.keep hbw.out HB.out)
      replace BX := Lib.hid (BX.out.keep HB.out)
      have hlow := Nat.lt_of_lt_of_le BX.out.lt (Nat.le_refl _)
      replace hcb := Lib.hid hcb
      clear HO HB hI
      generalize wr = w6 at *
      have HO0 : Hid (w6.ownsRow w6.heap.size 36 5 (.slice none 0 0) (cellsAt ls (placeOf (pickL bts) 0)).length (flat 5 cellV (cellsAt ls (placeOf (pickL bts) 0)))) := World.ownsRow_nil _ _ _ _
      go_wp2_with fail
      go_loopw [10, 13, 14, 76] (fun o _ _ i wr => ∃ (k : Nat) (vS : Value), k ≤ n ∧ i = .int .i64 k ∧ vS = o ∧ Hid (wr.ownsRow w6.heap.size 36 5 vS (cellsAt ls (placeOf (pickL bts) k)).length (flat 5 cellV (cellsAt ls (placeOf (pickL bts) k)))) ∧ Hid (Below w6.heap.size w6 wr)) (fun _ _ _ i _ => n - (intOf i).toNat)
      case atStart => exact ⟨0, _, by omega, rfl, rfl, HO0, Below.refl _ _⟩
      case round =>
        obtain ⟨k, vS, hk, rfl, rfl, HO, HB⟩ := hrel
        clear HO0
        have hB0 := Lib.hid (Below.keep hbw.out HB.out)
        have hsz6 := HB.out.size
        by_cases hlt : k < n
        · obtain ⟨b, off, rfl⟩ := hs.out.els.addr (by omega)
          obtain ⟨⟨f, t, l⟩, hq, hm, q0, q1, q2⟩ := (hs.out.keep hB0.out).elem hlt
          dsimp only at q0 q1 q2
          have hk1 := hkp.1
          have hk2 := hkp.2
          have hq' : ls.getD k default = ⟨f, t, l⟩ := by rw [List.getD_eq_getElem?_getD, hq]; rfl
          have hpl : (cellsAt ls (placeOf (pickL bts) k)).length ≤ k := by rw [cellsAt_len]; exact place_len _ _
          have hps : cellsAt ls (placeOf (pickL bts) (k + 1)) = cellsAt ls (placeOf (pickL bts) k) ++ (if pickL bts k = true then [⟨0, 0, f, t, 0⟩] else []) := by
            have e : placeOf (pickL bts) (k + 1) = placeOf (pickL bts) k ++ (if pickL bts k = true then [k] else []) := rfl
            rw [e]
            unfold cellsAt
            rw [List.map_append]
            split
            · rw [List.map_singleton, hq']; rfl
            · rfl
          generalize hP2 : cellsAt ls (placeOf (pickL bts) (k + 1)) = PL2 at *
          generalize cellsAt ls (placeOf (pickL bts) k) = PL at *
          have HOa := (HO.out.alloc (.cells #[.int .i64 f, .int .i64 t, .int .i64 l] 44)).alloc (.cells #[.int .i64 0, .int .i64 0, .int .i64 f, .int .i64 t, .int .i64 0] 36)
          have HBa := HB.out.alloc HB.out.size (.cells #[.int .i64 f, .int .i64 t, .int .i64 l] 44)
          have HOb := HO.out.alloc (.cells #[.int .i64 f, .int .i64 t, .int .i64 l] 44)
          have hnews := World.news_of_block (Blk.new (wr.alloc (.cells #[.int .i64 f, .int .i64 t, .int .i64 l] 44)) #[.int .i64 0, .int .i64 0, .int .i64 f, .int .i64 t, .int .i64 0] 36).at_
          have hpk : pickL bts k = (bits BinOp.and IntKind.u8 (bts / 2 ^ k) 1 == 1) := rfl
          replace hP2 := Lib.hid hP2
          replace hq := Lib.hid hq
          replace hm := Lib.hid hm
          replace hq' := Lib.hid hq'
          replace hps := Lib.hid hps
          replace HOa := Lib.hid HOa
          replace HBa := Lib.hid HBa
          replace HOb := Lib.hid HOb
          replace hnews := Lib.hid hnews
          cases hp : (bits BinOp.and IntKind.u8 (bts / 2 ^ k) 1 == 1)
          case' false =>
            rw [hp] at hpk
            have hps2 := hps.out
            rw [hpk, if_neg (by decide), List.append_nil] at hps2
            have HO2 : Hid ((wr.alloc (.cells #[.int .i64 f, .int .i64 t, .int .i64 l] 44)).ownsRow w6.heap.size 36 5 vS PL2.length (flat 5 cellV PL2)) := by show World.ownsRow _ _ _ _ _ _ _; rw [hps2]; exact HOb.out
            replace hpk := Lib.hid hpk
            replace hps2 := Lib.hid hps2
            go_upto_region 21 with fail
            generalize wr.alloc (.cells #[.int .i64 f, .int .i64 t, .int .i64 l] 44) = wo at *
            have HB2 := HBa
            generalize vS = vS2 at *
          case' true =>
            rw [hp] at hpk
            have hps2 := hps.out
            rw [hpk, if_pos rfl] at hps2
            replace hpk := Lib.hid hpk
            replace hps2 := Lib.hid hps2
            go_upto_region 21 with (at_builtin; refine wpList_append_lies _ rfl _ _ _ rfl w6.heap.size 36 i0 (.agg #[.int .i64 0, .int .i64 0, .int .i64 0, .int .i64 0, .int .i64 0]) 5 40 Try.underlying27 hi.out hz0.out hz1.out hz2.out rfl (by decide) vS PL.length (flat 5 cellV PL) rfl HOa.out ⟨wr.heap.size + 1, 0, none⟩ 1 1 [.int .i64 0, .int .i64 0, .int .i64 f, .int .i64 t, .int .i64 0] rfl rfl ?c1 ?c2 (by decide) ?c3 ?c4 ?c5 (wr.heap.size + 1 + 1) ?c6 ?_)
            try case c1 => exact hnews.out
            try case c2 => first | exact ⟨rfl, rfl, rfl, rfl, rfl⟩ | simp [Value.oneCell']
            try case c3 => unfold maxLen; omega
            try case c4 => omega
            try case c5 => omega
            try case c6 => simp
            intro g cap wo hown1 hgrow1 hat1 hlt1
            have HO2 : Hid (wo.ownsRow w6.heap.size 36 5 (.slice (some ⟨g, 0, none⟩) (PL.length + 1) cap) PL2.length (flat 5 cellV PL2)) := by
              show World.ownsRow _ _ _ _ _ _ _
              rw [hps2.out, flat_append, List.length_append]; exact hown1
            have HB2 := Lib.hid (below_append (HBa.out.alloc HBa.out.size (.cells #[.int .i64 0, .int .i64 0, .int .i64 f, .int .i64 t, .int .i64 0] 36)) HOa.out hgrow1 (Nat.le_refl _))
            clear hown1 hgrow1 hat1
            generalize (Value.slice (some ⟨g, 0, none⟩) (PL.length + 1) cap) = vS2 at *
          all_goals
            clear q0 q1 q2
            go_wp2
            go_roundw
            case rel => exact ⟨k + 1, _, by omega, by go_num, rfl, by rw [hP2.out]; exact HO2, HB2⟩
            case measure => simp [intOf]; omega
        · obtain rfl : k = n := by omega
          have hpm : ∀ x ∈ placeOf (pickL bts) k, x < k := fun x hx => place_mem hx
          have hle := L2.out (pickL bts)
          have hPLl := cellsAt_len ls (placeOf (pickL bts) k)
          have hpl2 := place_len (pickL bts) k
          have hcs0 := fun A3 c3 (h : wr.ownsRow w6.heap.size 36 5 (.slice A3 (cellsAt ls (placeOf (pickL bts) k)).length c3) (cellsAt ls (placeOf (pickL bts) k)).length (flat 5 cellV (cellsAt ls (placeOf (pickL bts) k)))) => (celS_of_owns h (hok.out _ hpm)).2
          rw [← hPLl] at hle hpl2
          generalize cellsAt ls (placeOf (pickL bts) k) = PL at *
          obtain ⟨A3, c3, hv⟩ := owns_slice HO.out
          subst hv
          have hcs := Lib.hid (hcs0 A3 c3 HO.out)
          have hcb2 := Lib.hid (hcb.out.keep HB.out)
          have BXr := Lib.hid (BX.out.keep HB.out)
          have hgood : G (cellsAt ls s) = true := l1.out.good
          have cG := HGs.out wr (hN.out.keep hB0.out) A2 s.length c2 _ hcb2.out (by omega)
          rw [hgood] at cG
          have kx := BXr.out.at_
          replace cG := Lib.hid cG
          replace hgood := Lib.hid hgood
          replace hpm := Lib.hid hpm
          replace hPLl := Lib.hid hPLl
          replace hle := Lib.hid hle
          clear hcs0 HO
          go_wp2_with fail
          refine cG.out.mono ?_
          rintro e w8 ⟨rfl, hb_⟩
          clear kx cG
          replace BXr := Lib.hid (BXr.out.keep hb_)
          replace hcs := Lib.hid (hcs.out.keep hb_)
          replace hB0 := Lib.hid (hB0.out.keep hb_)
          clear hb_
          have kx := BXr.out.at_
          have cG := Lib.hid (HGs.out w8 (hN.out.keep hB0.out) A3 PL.length c3 _ hcs.out (by omega))
          go_wp2_with fail
          refine cG.out.mono ?_
          rintro e w9 ⟨rfl, hb_⟩
          clear kx cG
          replace BXr := Lib.hid (BXr.out.keep hb_)
          replace hB0 := Lib.hid (hB0.out.keep hb_)
          clear hb_
          have hgt : G PL = true → PL.length ≤ s.length := fun h => hle.out h
          cases hGP : G PL
          all_goals
            have hgt2 := hgt
            rw [hGP] at hgt2
            clear hgt
            try replace hgt2 := hgt2 rfl
            replace hGP := Lib.hid hGP
            by_cases hk0 : k = 0
            · have hs0 : s.length = 0 := by omega
              subst hk0
              go_wp2
              go_ret
              exact ⟨by simp, hB0.out⟩
            · obtain ⟨b, off, rfl⟩ := hs.out.els.addr (by omega)
              have HX : Hid (∀ w', Below w9.heap.size w9 w' → (Below w9.heap.size w9 w' ∧ (w'.cell? ⟨w.heap.size, 0, none⟩ = some (.int .i64 nodes) ∧ w'.cell? ⟨w.heap.size, 1, none⟩ = some (.slice PA pn pc) ∧ w'.cell? ⟨w.heap.size, 2, none⟩ = some (.int .i64 noise) ∧ w'.cell? ⟨w.heap.size, 3, none⟩ = some (.int .i64 thr) ∧ w'.cell? ⟨w.heap.size, 4, none⟩ = some (.slice LA ln lc) ∧ w'.cell? ⟨w.heap.size, 5, none⟩ = some (.slice MA mn mc)))) := fun w' h =>
                ⟨h, (BXr.out.keep h).at_ 0, (BXr.out.keep h).at_ 1, (BXr.out.keep h).at_ 2, (BXr.out.keep h).at_ 3, (BXr.out.keep h).at_ 4, (BXr.out.keep h).at_ 5⟩
              have kz := HX.out _ (Below.refl _ _)
              have m3 := l3.out (k - 1) (by omega)
              have m4 := l4.out (by omega)
              obtain ⟨q, rfl⟩ : ∃ q : Nat, k = q + 1 := ⟨k - 1, by omega⟩
              rw [show q + 1 - 1 = q by omega] at m3 m4
              have r1 : (0 : Int) ≤ (q : Int) := by omega
              have r2 : (q : Int) ≤ (c : Int) := by omega
              have rw1 : IntKind.i64.wrap (q : Int) = (q : Int) := IntWalk.i64_in _ (by omega)
              have cL := Lib.hid (fun W (h : Below w9.heap.size w9 W) => HLa.out (by first | rfl | trivial) W (hN.out.keep (hB0.out.keep h)) (some ⟨b, off, none⟩) q c (ls.take q) (lnk_take (hs.out.keep (hB0.out.keep h)) (by omega)) (by omega))
              generalize hLT : largestN ⟨nodes, power, noise, thr, links, margin⟩ (ls.take q) = s4 at *
              replace m3 := Lib.hid m3
              replace m4 := Lib.hid m4
              replace hLT := Lib.hid hLT
              go_upto_region 26 with fail
              go_region_held3 (fun w' => Below w9.heap.size w9 w' ∧ (w'.cell? ⟨w.heap.size, 0, none⟩ = some (.int .i64 nodes) ∧ w'.cell? ⟨w.heap.size, 1, none⟩ = some (.slice PA pn pc) ∧ w'.cell? ⟨w.heap.size, 2, none⟩ = some (.int .i64 noise) ∧ w'.cell? ⟨w.heap.size, 3, none⟩ = some (.int .i64 thr) ∧ w'.cell? ⟨w.heap.size, 4, none⟩ = some (.slice LA ln lc) ∧ w'.cell? ⟨w.heap.size, 5, none⟩ = some (.slice MA mn mc)))
                (first
                  | exact HX.out _ ((Below.refl _ _).drew)
                  | exact HX.out _ (by assumption)
                  | exact HX.out _ (bthen (And.left (by assumption)) (by assumption)))
                (first
                  | (go_at_call 28; refine (cL.out _ (And.left (by assumption))).mono ?_; rintro e wf ⟨A4, m4', c4, rfl, hI4, hb4⟩))
              replace hI4 := Lib.hid hI4
              have hB5 := Lib.hid (hB0.out.keep (And.left (by assumption : Below w9.heap.size w9 wf ∧ _)))
              have hsm4 : s4.length = m4' := by have := hI4.out.els.len; rw [hLT.out] at this; simpa [intsOf] using this
              subst hsm4
              have m3' := m3.out
              have m4'' := m4.out
              have t1 : (s4.length : Int) ≤ (s.length : Int) := by omega
              have t2 : (s.length : Int) ≤ (s4.length : Int) + 1 := by omega
              go_wp2
              go_ret
              exact ⟨by first | (simp; done) | (simp [t1]; done) | (simp [t2]; done) | simp [t1, t2], hB5.out⟩
theorem conflictLargest_walk (nodes : Int) (PA : Option Addr) (pn pc : Nat) (power : List (List Int)) (noise thr : Int) (LA : Option Addr) (ln lc : Nat) (links : List Lnk) (MA : Option Addr) (mn mc : Nat) (margin : List Int) (A : Option Addr) (n c : Nat) (ls : List Lnk) (bts : Int) (w : World)
    (h1 : (Lit.int .i64 nodes).wf = true) (h2 : RowS w PA pn power) (h3 : (Lit.int .i64 noise).wf = true) (h4 : (Lit.int .i64 thr).wf = true) (h5 : LnkS w LA ln links ∧ ln ≤ lc) (h6 : IntS w MA mn margin) (h7 : LnkS w A n ls ∧ n ≤ c) (h8 : (Lit.int .u8 bts).wf = true) :
    Calls Try.prog 9 #[.agg #[.int .i64 nodes, .slice PA pn pc, .int .i64 noise, .int .i64 thr, .slice LA ln lc, .slice MA mn mc], .slice A n c, .int .u8 bts] w fun e w' => e = .returned (.bool true) ∧ Below w.heap.size w w' :=
  ConflictLargest_any ⟨nodes, power, noise, thr, links, margin⟩ ⟨PA, pn, pc, LA, ln, lc, MA, mn, mc⟩ A n c ls bts (by
    unfold Lit.wf at h8
    rw [Bool.and_eq_true, decide_eq_true_eq, decide_eq_true_eq] at h8
    have e1 : IntKind.u8.min = 0 := rfl
    have e2 : IntKind.u8.max = 255 := rfl
    omega) w (netIs_of h1 h2 h3 h4 h5.1 h6) h7.1 h7.2
end Nt
end Go.Proofs.Ythibgpgjioepfaa
