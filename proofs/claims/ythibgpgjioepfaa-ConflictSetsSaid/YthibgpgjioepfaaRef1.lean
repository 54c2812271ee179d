/- hopmeshref31.table. -/
import Derived.Test.YthibgpgjioepfaaCfl8
namespace Go.Proofs.Ythibgpgjioepfaa
open Go Go.RowKit Go.Sort
namespace Nt
theorem inB_outP (x : Int) : inB x 0 68719476736 = !outP x := by
  unfold inB outP
  by_cases a : x < 0 <;> by_cases b : 68719476736 < x <;> simp [a, b] <;> omega
theorem any_none {α : Type} [Inhabited α] {p : α → Bool} {xs : List α} (h : ∀ j, j < xs.length → p (xs.getD j default) = false) : xs.any p = false := by
  rw [List.any_eq_false]
  intro x hx
  obtain ⟨j, hj, rfl⟩ := List.mem_iff_getElem.1 hx
  have := h j hj
  rw [List.getD_eq_getElem?_getD, List.getElem?_eq_getElem hj] at this
  simpa using this
theorem all_upto {α : Type} [Inhabited α] {p : α → Bool} {xs : List α} {k : Nat} (h : ∀ j, j < k → p (xs.getD j default) = false) (hk : p (xs.getD k default) = false) : ∀ j, j < k + 1 → p (xs.getD j default) = false := fun j hj => by
  by_cases e : j = k
  · rw [e]; exact hk
  · exact h j (by omega)
def NoOut (power : List (List Int)) (k : Nat) : Prop := ∀ j, j < k → (power.getD j default).any outP = false
set_option maxRecDepth 100000 in
set_option maxHeartbeats 2000000 in
theorem table_any (N : Net) (v : NetV) (w : World) (hN : NetIs w v N) :
    Calls Try.prog 62 #[.agg #[.int .i64 N.nodes, .slice v.PA v.pn v.pc, .int .i64 N.noise, .int .i64 N.threshold, .slice v.LA v.ln v.lc, .slice v.MA v.mn v.mc]] w
      fun e w' => e = .returned (.int .i64 (checkPower N)) ∧ Below w.heap.size w w' := by
  obtain ⟨nodes, power, noise, thr, links, margin⟩ := N
  obtain ⟨PA, pn, pc, LA, ln, lc, MA, mn, mc⟩ := v
  have hlen := hN.power.len
  have hsm := hN.power.small
  dsimp only at hsm
  unfold maxLen at hsm
  replace hN := Lib.hid hN
  have BX := Lib.hid (Box.new w #[.int .i64 nodes, .slice PA pn pc, .int .i64 noise, .int .i64 thr, .slice LA ln lc, .slice MA mn mc] 26)
  have hbw := Lib.hid (below_alloc w (.cells #[.int .i64 nodes, .slice PA pn pc, .int .i64 noise, .int .i64 thr, .slice LA ln lc, .slice MA mn mc] 26))
  dsimp only at hlen ⊢
  have kx := BX.out.at_
  by_cases h1 : ((pn : Int) != nodes) = true
  · have HR : Hid (checkPower ⟨nodes, power, noise, thr, links, margin⟩ = 1) := by
      show _ = _; unfold checkPower; dsimp only; rw [hlen, if_pos h1]
    replace hlen := Lib.hid hlen
    go_enter Try.func62, Try.ntmps62
    go_wp2
    go_ret
    exact ⟨by rw [HR.out]; rfl, hbw.out⟩
  have h1' : ((pn : Int) != nodes) = false := by simpa using h1
  obtain rfl : (pn : Int) = nodes := by simpa using h1
  replace hlen := Lib.hid hlen
  replace h1 := Lib.hid h1
  go_enter Try.func62, Try.ntmps62
  go_wp2
  clear kx
  go_loopw [3] (fun i wr => ∃ k : Nat, k ≤ pn ∧ i = .int .i64 k ∧ Hid (∀ j, j < k → badRow pn (power.getD j default) = false) ∧ Hid (Below w.heap.size w wr) ∧ Hid (Box wr w.heap.size #[.int .i64 (pn : Int), .slice PA pn pc, .int .i64 noise, .int .i64 thr, .slice LA ln lc, .slice MA mn mc])) (fun i _ => pn - (intOf i).toNat)
  case atStart => exact ⟨0, by omega, rfl, fun j hj => absurd hj (by omega), hbw, BX⟩
  case round =>
    obtain ⟨k, hk, rfl, HP, HB, HX⟩ := hrel
    clear hbw BX
    have kx := HX.out.at_
    by_cases hlt : k < pn
    · obtain ⟨b, off, rfl⟩ := hN.out.power.addr (show 0 < pn by omega)
      obtain ⟨xs, RA, rn, rc, he, hm, hc, hx⟩ := (hN.out.keep HB.out).power.elem (k := k) hlt
      have hxl := hx.els.len
      have hg : power.getD k default = xs := by rw [List.getD_eq_getElem?_getD, he]; rfl
      replace hx := Lib.hid hx
      have e0 := cell_regrown hc
      have gx := HX.out.grown
      have r2 : (0 : Int) ≤ (k : Int) := by omega
      have r3 : (k : Int) < (pn : Int) := by omega
      have r1 : ((k : Int)).toNat = k := by omega
      replace he := Lib.hid he
      replace hg := Lib.hid hg
      replace hxl := Lib.hid hxl
      clear hc
      go_wp2_with fail
      refine wp_region_quiet_below (by kernel_rfl) (by kernel_rfl) ?_
      repeat (go_big_quiet_step (fail))
      refine wpQuiet_nil ?_
      rintro _ ⟨⟨dq, osq⟩, rfl⟩
      have HX2 := Lib.hid (HX.out.keep (below_regrown wr dq osq))
      have HB2 := Lib.hid (bthen HB.out (below_regrown wr dq osq))
      generalize grow (redrawn wr dq) osq = w2 at *
      clear gx e0 HX HB kx
      by_cases c2 : ((rn : Int) != (pn : Int)) = true
      · have HR : Hid (checkPower ⟨(pn : Int), power, noise, thr, links, margin⟩ = 1) := by
          show _ = _; unfold checkPower; dsimp only
          rw [hlen.out, if_neg h1.out, if_pos]
          rw [List.any_eq_true]
          exact ⟨xs, hm, by unfold badRow; rw [hxl.out]; exact c2⟩
        clear h1'
        go_wp2
        go_ret
        exact ⟨by rw [HR.out]; rfl, HB2.out⟩
      · have c2' : ((rn : Int) != (pn : Int)) = false := by simpa using c2
        have HN : Hid (∀ j, j < k + 1 → badRow (pn : Int) (power.getD j default) = false) := all_upto HP.out (by rw [hg.out]; unfold badRow; rw [hxl.out]; exact c2')
        replace c2 := Lib.hid c2
        go_wp2
        go_roundw
        case rel => exact ⟨k + 1, by omega, by go_num, HN, HB2, HX2⟩
        case measure => simp [intOf]; omega
    · have HA : power.any (badRow (pn : Int)) = false := any_none (fun j hj => HP.out j (by have := hlen.out; omega))
      replace HA := Lib.hid HA
      clear h1'
      go_wp2
      clear kx
      go_loopw [4, 5] (fun i _ wr => ∃ k : Nat, k ≤ pn ∧ i = .int .i64 k ∧ Hid (NoOut power k) ∧ Hid (Below w.heap.size w wr) ∧ Hid (Box wr w.heap.size #[.int .i64 (pn : Int), .slice PA pn pc, .int .i64 noise, .int .i64 thr, .slice LA ln lc, .slice MA mn mc])) (fun i _ _ => pn - (intOf i).toNat)
      case atStart => exact ⟨0, by omega, rfl, fun j hj => absurd hj (by omega), HB, HX⟩
      case round =>
        clear HP HB HX hlt hk
        obtain ⟨k, hk, rfl, HP, HB, HX⟩ := hrel
        have kx := HX.out.at_
        by_cases hlt : k < pn
        · obtain ⟨b, off, rfl⟩ := hN.out.power.addr (show 0 < pn by omega)
          obtain ⟨xs, RA, rn, rc, he, hm, hc, hx⟩ := (hN.out.keep HB.out).power.elem (k := k) hlt
          have hxl := hx.els.len
          have hg : power.getD k default = xs := by rw [List.getD_eq_getElem?_getD, he]; rfl
          obtain rfl : rn = pn := by
            have h := List.any_eq_false.1 HA.out xs hm
            unfold badRow at h; rw [hxl] at h; simp at h; omega
          replace he := Lib.hid he
          replace hg := Lib.hid hg
          replace hxl := Lib.hid hxl
          replace hx := Lib.hid hx
          replace hc := Lib.hid hc
          go_wp2
          clear kx
          obtain ⟨wo, rfl⟩ : ∃ wo : World, wo = wr := ⟨_, rfl⟩
          go_loopw [5] (fun i wr2 => ∃ m : Nat, m ≤ rn ∧ i = .int .i64 m ∧ Hid (∀ j, j < m → outP (xs.getD j default) = false) ∧ Hid (Below wo.heap.size wo wr2)) (fun i _ => rn - (intOf i).toNat)
          case atStart => exact ⟨0, by omega, rfl, fun j hj => absurd hj (by omega), Below.refl _ _⟩
          case round =>
            obtain ⟨m, hm2, rfl, HQ, HC⟩ := hrel
            have HX2 := Lib.hid (HX.out.keep HC.out)
            have kx := HX2.out.at_
            by_cases hlt2 : m < rn
            · obtain ⟨b2, off2, rfl⟩ := hx.out.els.addr (show 0 < rn by omega)
              have hx2 := hx.out.keep HC.out
              obtain ⟨x, hxe, hxm, hxc⟩ := hx2.elem hlt2
              have hgx : xs.getD m default = x := by rw [List.getD_eq_getElem?_getD, hxe]; rfl
              have hc2 := (HC.out.cell (p := ⟨b, off + k, none⟩) (World.block_lt_of_cell? wo ⟨b, off + k, none⟩ hc.out)).trans hc.out
              replace hgx := Lib.hid hgx
              have r1 : (0 : Int) ≤ (k : Int) := by omega
              have r2 : (k : Int) < (rn : Int) := by omega
              have r3 : (0 : Int) ≤ (m : Int) := by omega
              have r4 : (m : Int) < (rn : Int) := by omega
              go_wp2_with fail
              refine (in_any x 0 68719476736 _).mono ?_
              rintro e w3 ⟨rfl, rfl⟩
              rw [inB_outP]
              by_cases c3 : outP x = true
              · have HR : Hid (checkPower ⟨(rn : Int), power, noise, thr, links, margin⟩ = 2) := by
                  show _ = _; unfold checkPower; dsimp only
                  rw [hlen.out, if_neg h1.out, if_neg (by rw [HA.out]; decide), if_pos]
                  rw [List.any_eq_true]
                  exact ⟨xs, hm, List.any_eq_true.2 ⟨x, hxm, c3⟩⟩
                rw [c3]
                go_wp2
                go_ret
                exact ⟨by rw [HR.out]; rfl, bthen HB.out HC.out⟩
              · have c3' : outP x = false := by simpa using c3
                have HN : Hid (∀ j, j < m + 1 → outP (xs.getD j default) = false) := all_upto HQ.out (by rw [hgx.out]; exact c3')
                rw [c3']
                replace c3 := Lib.hid c3
                go_wp2
                go_roundw
                case rel => exact ⟨m + 1, by omega, by go_num, HN, HC⟩
                case measure => simp [intOf]; omega
            · have HN : Hid (NoOut power (k + 1)) := all_upto (p := fun xs : List Int => xs.any outP) HP.out (by rw [hg.out]; exact any_none (fun j hj => HQ.out j (by have := hxl.out; omega)))
              have HB2 := Lib.hid (bthen HB.out HC.out)
              go_wp2
              go_roundw
              case rel => exact ⟨k + 1, by omega, by go_num, HN, HB2, HX2⟩
              case measure => simp [intOf]; omega
        · have HR : Hid (checkPower ⟨(pn : Int), power, noise, thr, links, margin⟩ = 0) := by
            show _ = _; unfold checkPower; dsimp only
            rw [hlen.out, if_neg h1.out, if_neg (by rw [HA.out]; decide), if_neg]
            rw [any_none (fun j hj => HP.out j (by have := hlen.out; omega))]; decide
          go_wp2
          go_ret
          exact ⟨by rw [HR.out]; rfl, HB.out⟩
end Nt
end Go.Proofs.Ythibgpgjioepfaa
