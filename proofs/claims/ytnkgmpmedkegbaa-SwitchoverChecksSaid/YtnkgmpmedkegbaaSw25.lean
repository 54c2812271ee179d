/- At. -/
import Derived.Test.YtnkgmpmedkegbaaSw24
import Derived.IntWalk
import Derived.Deep.Cut
import Derived.Laws.EntriesVeiled
namespace Go.Proofs.Ytnkgmpmedkegbaa
open Go Go.RowKit Go.Sort Go.Shelf Go.Lib
namespace Sw
open Mm
def onB (L slot : Int) (x : Dut) : Bool := decide (x.cell.slot = slot % L) && (decide (x.first ≤ slot) && (decide (x.til = -1) || decide (slot < x.til)))
def AtPost (d : List Dut) (w : World) (e : Ending) (w' : World) : Prop := ∃ (d' : List Dut) (A : Option Addr) (c : Nat), e = .returned (.tuple #[.slice A d'.length c, .int .i64 0]) ∧ d'.Perm d ∧ w'.ownsRow w.heap.size 45 9 (.slice A d'.length c) d'.length (d'.flatMap dutE) ∧ Below w.heap.size w w'
theorem eAt2 : ∀ args w, (callFunc 63 args).run Try.prog w = .ok (.enter 63 args) w := enters_of Try.func63 (by kernel_rfl) rfl
theorem filter_take_succ {α : Type} [Inhabited α] (p : α → Bool) (xs : List α) (k : Nat) (h : k < xs.length) : (xs.take (k + 1)).filter p = (xs.take k).filter p ++ (if p (xs.getD k default) = true then [xs.getD k default] else []) := by
  rw [take_snoc h, List.filter_append]
  generalize xs.getD k default = x
  cases hp : p x <;> simp [hp]
set_option maxRecDepth 100000 in
set_option maxHeartbeats 4000000 in
theorem at_any (L slot : Int) (A : Option Addr) (n cp : Nat) (xs : List Dut) (w : World) (h : DutS w A n xs) (hL : 1 ≤ L ∧ L ≤ 512) (hs0 : 0 ≤ slot) (hn : n ≤ 10000000) :
    Calls Try.prog 29 #[.slice A n cp, .int .i64 L, .int .i64 slot] w (AtPost (xs.filter (onB L slot)) w) := by
  obtain ⟨i0, hi, hz0, hz1, hz2⟩ := info_parts info_dut
  have hlen := h.len
  obtain ⟨hL1, hL2⟩ := hL
  have hrem : slot.tmod L = slot % L := Int.tmod_eq_emod_of_nonneg hs0
  have hm0 : 0 ≤ slot % L := Int.emod_nonneg _ (by omega)
  have hm1 : slot % L < L := Int.emod_lt_of_pos _ (by omega)
  have hON : ∀ x, onB L slot x = (decide (x.cell.slot = slot % L) && (decide (x.first ≤ slot) && (decide (x.til = -1) || decide (slot < x.til)))) := fun _ => rfl
  have hF0 : (xs.take 0).filter (onB L slot) = [] := rfl
  have hFs := fun k (hk : k < n) => filter_take_succ (onB L slot) xs k (by omega)
  have hFn : (xs.take n).filter (onB L slot) = xs.filter (onB L slot) := by rw [List.take_of_length_le (by omega)]
  have hFl := fun k (hk : k ≤ n) => Nat.le_trans (List.length_filter_le (onB L slot) (xs.take k)) (by rw [List.length_take]; omega : (xs.take k).length ≤ k)
  have hpost : ∀ (d' : List Dut) A c w', d'.Perm (xs.filter (onB L slot)) → w'.ownsRow (w.heap.size + 1) 45 9 (.slice A (xs.filter (onB L slot)).length c) (xs.filter (onB L slot)).length (d'.flatMap dutE) → Below w.heap.size w w' → AtPost (xs.filter (onB L slot)) w (.returned (.tuple #[.slice A (xs.filter (onB L slot)).length c, .int .i64 0])) w' := fun d' A c w' h1 h2 h3 => by
    rw [← h1.length_eq] at h2 ⊢
    exact ⟨d', A, c, rfl, h1, own_base h2 (by omega), h3⟩
  generalize hM : slot % L = M at *
  generalize onB L slot = ON at *
  generalize hFF : (fun k => (xs.take k).filter ON) = F at *
  have hF0' : F 0 = [] := by rw [← hFF]; exact hF0
  have hFs' : ∀ k, k < n → F (k + 1) = F k ++ (if ON (xs.getD k default) = true then [xs.getD k default] else []) := fun k hk => by rw [← hFF]; exact hFs k hk
  have hFn' : F n = xs.filter ON := by rw [← hFF]; exact hFn
  have hFl' : ∀ k, k ≤ n → (F k).length ≤ k := fun k hk => by rw [← hFF]; exact hFl k hk
  clear hF0 hFs hFn hFl hFF
  have hb1 := ball w (.cells #[.func (.func 62) #[] #[]] 77)
  have hcl : (w.alloc (.cells #[.func (.func 62) #[] #[]] 77)).cell? ⟨w.heap.size, 0, none⟩ = some (.func (.func 62) #[] #[]) := (Blk.new w _ _).cell 0
  have hsz1 := size1 w (.cells #[.func (.func 62) #[] #[]] 77)
  replace h := Lib.hid h
  replace hlen := Lib.hid hlen
  replace hON := Lib.hid hON
  replace hpost := Lib.hid hpost
  replace hF0' := Lib.hid hF0'
  replace hFs' := Lib.hid hFs'
  replace hFn' := Lib.hid hFn'
  replace hFl' := Lib.hid hFl'
  replace hb1 := Lib.hid hb1
  replace hi := Lib.hid hi
  replace hz0 := Lib.hid hz0
  replace hz1 := Lib.hid hz1
  replace hz2 := Lib.hid hz2
  replace hM := Lib.hid hM
  replace hcl := Lib.hid hcl
  replace hsz1 := Lib.hid hsz1
  go_enter Try.func29, Try.ntmps29
  go_wp2_with fail
  generalize w.alloc (.cells #[.func (.func 62) #[] #[]] 77) = w1 at *
  have hown0 : Hid (∃ v, v = (.slice none 0 0 : Value) ∧ w1.ownsRow (w.heap.size + 1) 45 9 v (F 0).length ((F 0).flatMap dutE)) := ⟨_, rfl, by rw [hF0'.out]; exact World.ownsRow_nil _ _ _ _⟩
  go_loopw [9, 24] (fun s9 i wr => ∃ (k : Nat) (v : Value), k ≤ n ∧ i = .int .i64 k ∧ v = s9 ∧ Hid (wr.ownsRow (w.heap.size + 1) 45 9 v (F k).length ((F k).flatMap dutE)) ∧ Hid (Below w1.heap.size w1 wr)) (fun _ i _ => n - (intOf i).toNat)
  case atStart =>
    obtain ⟨v, rfl, hv⟩ := hown0.out
    exact ⟨0, _, by omega, rfl, rfl, hv, Below.refl _ _⟩
  case round =>
    obtain ⟨k, v, hk, rfl, rfl, HO, HB⟩ := hrel
    clear hown0
    by_cases hlt : k < n
    · obtain ⟨b, off, rfl⟩ := h.out.addr (by omega)
      have hx := dut_at (h.out.keep (bthen hb1.out HB.out)) hlt
      have hfs := hFs'.out k hlt
      have hfl := hFl'.out k hk
      have hon := hON.out (xs.getD k default)
      generalize xs.getD k default = x at *
      have hBn : ∃ Bn, Bn = ON x := ⟨_, rfl⟩
      obtain ⟨Bn, hBn⟩ := hBn
      rw [← hBn] at hfs hon
      have HX : Hid ([x].flatMap dutE = [.int .i64 x.cell.slot, .int .i64 x.cell.offset, .int .i64 x.cell.frm, .int .i64 x.cell.to, .int .i64 x.cell.flow, .bool x.sends, .bool x.extra, .int .i64 x.first, .int .i64 x.til]) := by show _ = _; simp [dutE]
      have HN : Hid (Bn = true → F (k + 1) = F k ++ [x]) := fun h => by rw [hfs, if_pos h]
      have HNn : Hid (Bn = false → F (k + 1) = F k) := fun h => by rw [hfs, h]; simp
      clear hfs
      have HAp : Hid (Bn = true → (F (k + 1)).length = (F k).length + 1 ∧ (F (k + 1)).flatMap dutE = (F k).flatMap dutE ++ [.int .i64 x.cell.slot, .int .i64 x.cell.offset, .int .i64 x.cell.frm, .int .i64 x.cell.to, .int .i64 x.cell.flow, .bool x.sends, .bool x.extra, .int .i64 x.first, .int .i64 x.til]) := fun h => by
        rw [HN.out h, List.flatMap_append, HX.out]; simp
      clear HX HN
      replace hBn := Lib.hid hBn
      obtain ⟨⟨x0, x1, x2, x3, x4⟩, x5, x6, x7, x8⟩ := x
      obtain ⟨q0, q1, q2, q3, q4, q5, q6, q7, q8⟩ := hx
      dsimp only at q0 q1 q2 q3 q4 q5 q6 q7 q8 hon HAp
      have BX := Box.new wr #[.int .i64 x0, .int .i64 x1, .int .i64 x2, .int .i64 x3, .int .i64 x4, .bool x5, .bool x6, .int .i64 x7, .int .i64 x8] 45
      have HBb := ballN HB.out (.cells #[.int .i64 x0, .int .i64 x1, .int .i64 x2, .int .i64 x3, .int .i64 x4, .bool x5, .bool x6, .int .i64 x7, .int .i64 x8] 45)
      have HOb := HO.out.alloc (.cells #[.int .i64 x0, .int .i64 x1, .int .i64 x2, .int .i64 x3, .int .i64 x4, .bool x5, .bool x6, .int .i64 x7, .int .i64 x8] 45)
      have r1 : (k : Int) < (n : Int) := by omega
      replace BX := Lib.hid BX
      replace HBb := Lib.hid HBb
      replace HOb := Lib.hid HOb
      replace hon := Lib.hid hon
      clear HO HB
      go_upto_region 8 with fail
      clear q0 q1 q2 q3 q4 q5 q6 q7 q8
      generalize hB' : wr.heap.size = B at *
      generalize wr.alloc (.cells #[.int .i64 x0, .int .i64 x1, .int .i64 x2, .int .i64 x3, .int .i64 x4, .bool x5, .bool x6, .int .i64 x7, .int .i64 x8] 45) = wb at *
      have kg := BX.out.grown
      replace hB' := Lib.hid hB'
      have hwM : IntKind.i64.wrap M = M := IntWalk.i64_in _ (by omega)
      go_cut [51] (fun s51 wx => s51 = .bool Bn ∧ Hid (wx.ownsRow (w.heap.size + 1) 45 9 v (F k).length ((F k).flatMap dutE)) ∧ Hid (Below w1.heap.size w1 wx) ∧ Hid (Box wx B #[.int .i64 x0, .int .i64 x1, .int .i64 x2, .int .i64 x3, .int .i64 x4, .bool x5, .bool x6, .int .i64 x7, .int .i64 x8]))
      case first =>
        have hF : Hid (∀ wx, Below wb.heap.size wb wx → Hid (wx.ownsRow (w.heap.size + 1) 45 9 v (F k).length ((F k).flatMap dutE)) ∧ Hid (Below w1.heap.size w1 wx) ∧ Hid (Box wx B #[.int .i64 x0, .int .i64 x1, .int .i64 x2, .int .i64 x3, .int .i64 x4, .bool x5, .bool x6, .int .i64 x7, .int .i64 x8])) := fun wx hb => ⟨owns_keep HOb.out hb, bthen HBb.out hb, BX.out.keep hb⟩
        by_cases c1 : x0 = M
        · by_cases c2 : x7 ≤ slot
          · by_cases c3 : x8 = -1
            · obtain rfl : Bn = true := by rw [hon.out]; simp [c1, c2, c3]
              have d1 : (x0 == M) = true := by simpa using c1
              have d3 : (x8 == -1) = true := by simpa using c3
              replace c1 := Lib.hid c1
              replace c3 := Lib.hid c3
              refine wp_region_quiet_below (by kernel_rfl) (by kernel_rfl) ?_
              repeat (go_big_quiet_step (fail))
              refine wpQuiet_nil ?_
              rintro _ ⟨⟨dq, osq⟩, rfl⟩
              have hb_ := hF.out _ (below_regrown wb dq osq)
              go_wp2_with fail
              go_meet
              exact ⟨rfl, hb_⟩
            · have d1 : (x0 == M) = true := by simpa using c1
              have d3 : (x8 == -1) = false := by simpa using c3
              by_cases c4 : slot < x8
              · obtain rfl : Bn = true := by rw [hon.out]; simp [c1, c2, c4]
                replace c1 := Lib.hid c1
                replace c3 := Lib.hid c3
                refine wp_region_quiet_below (by kernel_rfl) (by kernel_rfl) ?_
                repeat (go_big_quiet_step (fail))
                refine wpQuiet_nil ?_
                rintro _ ⟨⟨dq, osq⟩, rfl⟩
                have hb_ := hF.out _ (below_regrown wb dq osq)
                go_wp2_with fail
                go_meet
                exact ⟨rfl, hb_⟩
              · obtain rfl : Bn = false := by rw [hon.out]; simp [c3, c4]
                have d4 : decide (slot < x8) = false := by simpa using c4
                replace c1 := Lib.hid c1
                replace c3 := Lib.hid c3
                replace c4 := Lib.hid c4
                refine wp_region_quiet_below (by kernel_rfl) (by kernel_rfl) ?_
                repeat (go_big_quiet_step (fail))
                refine wpQuiet_nil ?_
                rintro _ ⟨⟨dq, osq⟩, rfl⟩
                have hb_ := hF.out _ (below_regrown wb dq osq)
                go_wp2_with fail
                go_meet
                exact ⟨rfl, hb_⟩
          · obtain rfl : Bn = false := by rw [hon.out]; simp [c2]
            have d1 : (x0 == M) = true := by simpa using c1
            have d2 : decide (x7 ≤ slot) = false := by simpa using c2
            replace c1 := Lib.hid c1
            replace c2 := Lib.hid c2
            refine wp_region_quiet_below (by kernel_rfl) (by kernel_rfl) ?_
            repeat (go_big_quiet_step (fail))
            refine wpQuiet_nil ?_
            rintro _ ⟨⟨dq, osq⟩, rfl⟩
            have hb_ := hF.out _ (below_regrown wb dq osq)
            go_wp2_with fail
            go_meet
            exact ⟨rfl, hb_⟩
        · obtain rfl : Bn = false := by rw [hon.out]; simp [c1]
          have d1 : (x0 == M) = false := by simpa using c1
          replace c1 := Lib.hid c1
          refine wp_region_quiet_below (by kernel_rfl) (by kernel_rfl) ?_
          repeat (go_big_quiet_step (fail))
          refine wpQuiet_nil ?_
          rintro _ ⟨⟨dq, osq⟩, rfl⟩
          have hb_ := hF.out _ (below_regrown wb dq osq)
          go_wp2_with fail
          go_meet
          exact ⟨rfl, hb_⟩
      case rest =>
        obtain ⟨rfl, HO, HB, BXc⟩ := hcut
        clear kg HOb HBb BX
        cases Bn with
        | false =>
          have HO2 : Hid (wc.ownsRow (w.heap.size + 1) 45 9 v (F (k + 1)).length ((F (k + 1)).flatMap dutE)) := by
            show World.ownsRow _ _ _ _ _ _ _
            rw [HNn.out rfl]; exact HO.out
          go_wp2
          go_roundw
          case rel => exact ⟨k + 1, _, by omega, by go_num, rfl, HO2, HB⟩
          case measure => simp [intOf]; omega
        | true =>
          obtain ⟨e1, e2⟩ := HAp.out rfl
          have kx := BXc.out.at_
          have HOa := HO.out.alloc (.cells #[.int .i64 x0, .int .i64 x1, .int .i64 x2, .int .i64 x3, .int .i64 x4, .bool x5, .bool x6, .int .i64 x7, .int .i64 x8] 45)
          have HBa := ballN HB.out (.cells #[.int .i64 x0, .int .i64 x1, .int .i64 x2, .int .i64 x3, .int .i64 x4, .bool x5, .bool x6, .int .i64 x7, .int .i64 x8] 45)
          have hnews := World.news_of_block (Blk.new wc #[.int .i64 x0, .int .i64 x1, .int .i64 x2, .int .i64 x3, .int .i64 x4, .bool x5, .bool x6, .int .i64 x7, .int .i64 x8] 45).at_
          have hs3 := HB.out.size
          rw [hsz1.out] at hs3
          generalize (F k).flatMap dutE = XF at *
          generalize (F k).length = q at *
          replace HOa := Lib.hid HOa
          replace HBa := Lib.hid HBa
          replace hnews := Lib.hid hnews
          replace e1 := Lib.hid e1
          replace e2 := Lib.hid e2
          go_wp2_with (at_builtin; refine wpList_append_lies _ rfl _ _ _ rfl (w.heap.size + 1) 45 i0 (.agg #[.int .i64 0, .int .i64 0, .int .i64 0, .int .i64 0, .int .i64 0, .bool false, .bool false, .int .i64 0, .int .i64 0]) 9 64 Try.underlying38 hi.out hz0.out hz1.out hz2.out rfl (by decide) v q _ rfl HOa.out ⟨wc.heap.size, 0, none⟩ 1 1 [.int .i64 x0, .int .i64 x1, .int .i64 x2, .int .i64 x3, .int .i64 x4, .bool x5, .bool x6, .int .i64 x7, .int .i64 x8] rfl rfl ?c1 ?c2 (by decide) ?c3 ?c4 ?c5 (wc.heap.size + 1) ?c6 ?_)
          try case c1 => exact hnews.out
          try case c2 => simp [Value.oneCell']
          try case c3 => unfold maxLen; omega
          try case c4 => omega
          try case c5 => first | omega | (simp; omega)
          try case c6 => first | rfl | simp
          intro g cap w5 hown1 hgrow1 hat1 hlt1
          have HO5 : Hid (w5.ownsRow (w.heap.size + 1) 45 9 (.slice (some ⟨g, 0, none⟩) (q + 1) cap) (F (k + 1)).length ((F (k + 1)).flatMap dutE)) := by
            show World.ownsRow _ _ _ _ _ _ _
            rw [e1.out, e2.out]; exact hown1
          have HB5 := Lib.hid (below_append HBa.out HOa.out hgrow1 (by rw [hsz1.out]; exact Nat.le_refl _))
          clear hown1 hgrow1 hat1 kx
          go_wp2
          go_roundw
          case rel => exact ⟨k + 1, _, by omega, by go_num, rfl, HO5, HB5⟩
          case measure => simp [intOf]; omega
    · obtain rfl : k = n := by omega
      obtain ⟨A', cc, rfl⟩ := own_slice HO.out
      have hHO := HO.out
      rw [hFn'.out] at hHO
      have hll := hFl'.out k (Nat.le_refl _)
      rw [hFn'.out] at hll
      have hcw := (HB.out.cell (p := ⟨w.heap.size, 0, none⟩) (World.block_lt_of_cell? w1 _ hcl.out)).trans hcl.out
      have cS := sortStable_any cfT swoT 63 #[.pointer (some ⟨w.heap.size, 0, none⟩)] eAt2 (xs.filter ON) A' cc (w.heap.size + 1) wr hHO (by omega) (fun blk hb1 hb2 m os dk _ x y => atCmp_any x y w.heap.size _ ((Sk.grownBy_sortK dutE 9 _).cell hcw (by simp; omega)))
      rw [hFn'.out]
      have hBw := Lib.hid (bthen hb1.out HB.out)
      clear hHO
      generalize xs.filter ON = R at *
      replace cS := Lib.hid cS
      replace hcw := Lib.hid hcw
      go_wp2_with fail
      refine cS.out.mono ?_
      rintro e w3 ⟨rfl, d', hp, _, ho, hbb⟩
      have hF := hpost.out d' A' cc w3 hp ho (hbb w hBw.out (by omega))
      replace hF := Lib.hid hF
      replace hp := Lib.hid hp
      replace ho := Lib.hid ho
      replace hbb := Lib.hid hbb
      go_wp2
      refine bodyPost_ret (v := .tuple #[.slice A' R.length cc, .int .i64 0]) (by simp [results, Try.results29, go_sem]) rfl hF.out
end Sw
end Go.Proofs.Ytnkgmpmedkegbaa
