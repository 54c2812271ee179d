/- conflict.Largest$1: the walk. -/
import Derived.Test.YthibgpgjioepfaaLrg3
namespace Go.Proofs.Ythibgpgjioepfaa
open Go Go.RowKit Go.Sort
namespace Nt
open Mm
def fromOf (s : List Nat) : Nat := match s.getLast? with
  | none => 0
  | some x => x + 1
def bestOf (best set : List Nat) : List Nat := if best.length < set.length then set else best
def LgPost (N : Net) (v : NetV) (ls : List Lnk) (A : Option Addr) (n c : Nat) (W w : World) (Bb Bl Bn Bx : Nat) (out : List Nat) (e : Ending) (w' : World) : Prop :=
  e = .returned (.tuple #[]) ∧ w.grownBy w' (some Bb) ∧ ∃ vb nb, LgR N v ls A n c W w' Bb Bl Bn Bx vb nb out
def LgS (Bl : Nat) (A : Option Addr) (n c b off : Nat) (x : Lnk) (w' : World) : Prop :=
  w'.cell? ⟨Bl, 0, none⟩ = some (.slice A n c) ∧ w'.cell? ⟨b, off, none⟩ = some (.int .i64 x.frm) ∧ w'.cell? ⟨b, off + 1, none⟩ = some (.int .i64 x.to) ∧ w'.cell? ⟨b, off + 2, none⟩ = some (.int .i64 x.loss)
theorem goL_step (G : List Nat → Bool) {n i : Nat} (hi : i < n) (best set : List Nat) : goL G n (n - i) best set =
    if G (set ++ [i]) = true then goL G n (n - (i + 1)) (goL G n (n - (i + 1)) (bestOf best (set ++ [i])) (set ++ [i])) set else goL G n (n - (i + 1)) best set := by
  have e1 : n - i = n - (i + 1) + 1 := by omega
  have e2 : n - (n - (i + 1) + 1) = i := by omega
  rw [e1]
  show (if G (set ++ [n - (n - (i + 1) + 1)]) = true then _ else _) = _
  rw [e2]
  rfl
theorem fromOf_snoc (s : List Nat) (i : Nat) : fromOf (s ++ [i]) = i + 1 := by unfold fromOf; simp
set_option maxRecDepth 100000 in
set_option maxHeartbeats 8000000 in
theorem ext_any (N : Net) (v : NetV) (ls : List Lnk) (A : Option Addr) (n c : Nat) (W : World) (Bb Bl Bn Bx : Nat) (hn : n ≤ 12) : ∀ (k f : Nat), f + k = n → ∀ (set best : List Nat) (As : Option Addr) (ns cs : Nat) (Ac : Option Addr) (cc : Nat) (vb : Value) (nb : Nat) (w : World),
    set.length ≤ f → fromOf set = f → (∀ x ∈ set, x < n) → LgR N v ls A n c W w Bb Bl Bn Bx vb nb best → IntS w As ns (intsOf set) → CelS w Ac ns (cellsAt ls set) →
    Calls Try.prog 52 #[.slice As ns cs, .slice Ac ns cc, .pointer (some ⟨Bb, 0, none⟩), .pointer (some ⟨Bl, 0, none⟩), .pointer (some ⟨Bn, 0, none⟩), .pointer (some ⟨Bx, 0, none⟩)] w
      (LgPost N v ls A n c W w Bb Bl Bn Bx (goL (goodAt N ls) n k (bestOf best set) set)) := by
  intro k
  induction k using Nat.strongRecOn with
  | ind k ih =>
  intro f hfk set best As ns cs Ac cc vb nb w hsl hsf hsn HR hS hC
  have hsns : set.length = ns := by have := hS.els.len; simpa [intsOf] using this
  have hbl := HR.len
  obtain ⟨Ab, cb, rfl, hBI⟩ := HR.best
  have hns : ns ≤ 12 := by omega
  have kb : w.cell? ⟨Bb, 0, none⟩ = some (.slice Ab nb cb) := HR.blk.cell 0
  have kf := HR.blk.free 0
  have hcl := Lib.hid (cloneI_any As ns cs (intsOf set) w hS (by omega))
  have hbt : bestOf best set = if nb < ns then set else best := by unfold bestOf; rw [hbl, hsns]
  generalize bestOf best set = best1 at *
  replace ih := Lib.hid ih
  replace hsl := Lib.hid hsl
  replace hsf := Lib.hid hsf
  replace hsn := Lib.hid hsn
  replace HR := Lib.hid HR
  replace hS := Lib.hid hS
  replace hC := Lib.hid hC
  replace hsns := Lib.hid hsns
  replace hbl := Lib.hid hbl
  replace hBI := Lib.hid hBI
  replace kf := Lib.hid kf
  replace hbt := Lib.hid hbt
  go_enter Try.func52, Try.ntmps52
  go_upto_if 15 with fail
  go_cut [] (fun wx => ∃ vb' nb', Hid (LgR N v ls A n c W wx Bb Bl Bn Bx vb' nb' best1) ∧ Hid (w.grownBy wx (some Bb)))
  case first =>
    by_cases hlt : nb < ns
    · have e1 : best1 = set := by rw [hbt.out, if_pos hlt]
      go_wp2_with fail
      refine hcl.out.mono ?_
      rintro e w1 ⟨A', c', rfl, hown, hb⟩
      have HR1 := HR.out.keep hb
      have kb1 : w1.cell? ⟨Bb, 0, none⟩ = some (.slice Ab nb cb) := HR1.blk.cell 0
      have kf1 := HR1.blk.free 0
      have hI := (intS_of_owns hown hS.out.ok).2
      have HR2 := HR1.put (cs := c') hI
      have HG2 : w.grownBy (w1.setCell ⟨Bb, 0, none⟩ (.slice A' ns c')) (some Bb) := gb_set (gb_below hb) _
      rw [← e1] at HR2
      replace HR1 := Lib.hid HR1
      replace HR2 := Lib.hid HR2
      replace HG2 := Lib.hid HG2
      replace hI := Lib.hid hI
      replace hown := Lib.hid hown
      replace hb := Lib.hid hb
      replace e1 := Lib.hid e1
      clear kb
      go_wp2_with fail
      go_meet
      exact ⟨_, _, HR2, HG2⟩
    · have e1 : best1 = best := by rw [hbt.out, if_neg hlt]
      have HG2 := gb_refl w (some Bb)
      have HR2 := HR.out
      rw [← e1] at HR2
      replace HG2 := Lib.hid HG2
      replace HR2 := Lib.hid HR2
      replace e1 := Lib.hid e1
      go_wp2_with fail
      go_meet
      exact ⟨_, _, HR2, HG2⟩
  case rest =>
    obtain ⟨vb1, nb1, HR1, HG1⟩ := hcut
    generalize wc = wa at *
    clear kb kf hcl
    have hbs := Lib.hid (HR.out.blk)
    have hSk := Lib.hid (fun wx (h : w.grownBy wx (some Bb)) => (⟨hS.out.els.keepB (by decide) hbs.out (by intro i h; cases h) h, hS.out.ok⟩ : IntS wx As ns (intsOf set)))
    have hCk := Lib.hid (fun wx (h : w.grownBy wx (some Bb)) => (⟨hC.out.els.keepB (by decide) hbs.out (by intro i h; cases h) h, hC.out.ok⟩ : CelS wx Ac ns (cellsAt ls set)))
    go_upto_if 20 with fail
    go_cut [8] (fun s8 wx => s8 = .int .i64 (f : Int) ∧ wx = wa)
    case first =>
      by_cases h0 : 0 < ns
      · obtain ⟨b, off, rfl⟩ := hS.out.els.addr h0
        obtain ⟨x, hx1, hx2, hx3⟩ := (hSk.out _ HG1.out).elem (k := ns - 1) (by omega)
        have hxf : x = (f : Int) - 1 := by
          have := hsf.out
          unfold fromOf at this
          rw [List.getLast?_eq_getElem?, hsns.out] at this
          unfold intsOf at hx1
          rw [List.getElem?_map] at hx1
          cases hq : set[ns - 1]? with
          | none => rw [hq] at hx1; cases hx1
          | some q =>
            rw [hq] at hx1 this
            simp at hx1 this
            omega
        subst hxf
        have r1 : ((ns - 1 : Nat) : Int) = (ns : Int) - 1 := by omega
        have hfz : 0 ≤ f := Nat.zero_le f
        replace hx1 := Lib.hid hx1
        replace hx2 := Lib.hid hx2
        go_wp2_with fail
        go_meet
        exact ⟨by first | rfl | (congr 1; done) | (congr 1; omega), rfl⟩
      · have hf0 : f = 0 := by
          have h1 : set = [] := List.length_eq_zero_iff.1 (by rw [hsns.out]; omega)
          have := hsf.out
          rw [h1] at this
          exact this.symm
        subst hf0
        go_wp2_with fail
        go_meet
        exact ⟨rfl, rfl⟩
    case rest =>
      obtain ⟨e8, ew⟩ := hcut
      subst e8
      subst ew
      generalize wc = wb at *
      have kl : wb.cell? ⟨Bl, 0, none⟩ = some (.slice A n c) := HR1.out.ctx.lbox.at_ 0
      go_wp2_with fail
      go_loopw [9, 10, 30] (fun _ _ i wr => ∃ (i0 : Nat) (vb2 : Value) (nb2 : Nat) (b2 : List Nat), i0 ≤ n ∧ i = .int .i64 i0 ∧ Hid (LgR N v ls A n c W wr Bb Bl Bn Bx vb2 nb2 b2) ∧ Hid (w.grownBy wr (some Bb)) ∧ Hid (goL (goodAt N ls) n (min k (n - i0)) b2 set = goL (goodAt N ls) n k best1 set)) (fun _ _ i _ => n - (intOf i).toNat)
      case atStart => exact ⟨0, _, _, _, by omega, rfl, HR1, HG1, by show goL _ _ (min k (n - 0)) _ _ = _; rw [show min k (n - 0) = k by omega]⟩
      case round =>
        obtain ⟨i, vb2, nb2, b2, hi, rfl, HR2, HG2, HT⟩ := hrel
        clear kl HR1 HG1
        by_cases hlt : i < n
        · by_cases hif : i < f
          · have HT2 : Hid (goL (goodAt N ls) n (min k (n - (i + 1))) b2 set = goL (goodAt N ls) n k best1 set) := by
              have := HT.out
              rw [show min k (n - i) = k by omega] at this
              rw [show min k (n - (i + 1)) = k by omega]
              exact this
            go_wp2
            go_roundw
            case rel => exact ⟨i + 1, _, _, _, by omega, by go_num, HR2, HG2, HT2⟩
            case measure => simp [intOf]; omega
          · obtain ⟨b, off, rfl⟩ := HR2.out.ctx.lnk.els.addr (by omega)
            obtain ⟨x, hx, hxm, q0, q1, q2⟩ := (HR2.out.ctx.lnk.keep HR2.out.ctx.below).elem hlt
            have hxok := HR2.out.ctx.lnk.ok x hxm
            have HCr := Lib.hid (hCk.out _ HG2.out)
            have HL := Lib.hid HR2.out.ctx.lbox
            have HX : Hid (∀ w', Below wr.heap.size wr w' → (Below wr.heap.size wr w' ∧ (w'.cell? ⟨Bl, 0, none⟩ = some (.slice (some ⟨b, off, none⟩) n c) ∧ w'.cell? ⟨b, off + i * 3, none⟩ = some (.int .i64 x.frm) ∧ w'.cell? ⟨b, off + i * 3 + 1, none⟩ = some (.int .i64 x.to) ∧ w'.cell? ⟨b, off + i * 3 + 2, none⟩ = some (.int .i64 x.loss)))) := fun w' h =>
              ⟨h, (HL.out.keep h).at_ 0, (h.cell (World.block_lt_of_cell? wr _ q0)).trans q0, (h.cell (World.block_lt_of_cell? wr _ q1)).trans q1, (h.cell (World.block_lt_of_cell? wr _ q2)).trans q2⟩
            have kz := HX.out _ (Below.refl _ _)
            obtain ⟨i0, hi0, hz0, hz1, hz2⟩ := info_parts info_cell
            have hns2 : ns ≤ 1000 := by omega
            have r1 : (i : Int) < (n : Int) := by omega
            have r0 : (0 : Int) ≤ (i : Int) := by omega
            obtain ⟨xf, xt, xl⟩ := x
            dsimp only at *
            have hfl1 : Hid (flat 5 cellV (cellsAt ls set) ++ [.int .i64 0, .int .i64 0, .int .i64 xf, .int .i64 xt, .int .i64 0] = flat 5 cellV (cellsAt ls (set ++ [i]))) := by
              have hg : ls.getD i default = ⟨xf, xt, xl⟩ := by rw [List.getD_eq_getElem?_getD, hx]; rfl
              show _ = _
              unfold cellsAt
              rw [List.map_append, flat_append, List.map_singleton, hg]
              rfl
            have hok1 : Hid (∀ y ∈ cellsAt ls (set ++ [i]), y.ok) := fun y hy => by
              unfold cellsAt at hy
              rw [List.map_append, List.mem_append] at hy
              rcases hy with hy | hy
              · exact hC.out.ok y hy
              · rw [List.map_singleton, List.mem_singleton, List.getD_eq_getElem?_getD, hx] at hy
                subst hy
                exact ⟨i64_zero, i64_zero, hxok.1, hxok.2.1, i64_zero⟩
            clear q0 q1 q2
            replace hx := Lib.hid hx
            replace hxm := Lib.hid hxm
            replace hxok := Lib.hid hxok
            replace hi0 := Lib.hid hi0
            replace hz0 := Lib.hid hz0
            replace hz1 := Lib.hid hz1
            replace hz2 := Lib.hid hz2
            go_upto_region 9 with fail
            go_cut [10] (fun s10 wx => ∃ (A3 : Option Addr) (c3 : Nat), s10 = .slice A3 (ns + 1) c3 ∧ Hid (CelS wx A3 (ns + 1) (cellsAt ls (set ++ [i]))) ∧ Hid (Below wr.heap.size wr wx))
            case first =>
              go_region_held3 (fun w' => Below wr.heap.size wr w' ∧ (w'.cell? ⟨Bl, 0, none⟩ = some (.slice (some ⟨b, off, none⟩) n c) ∧ w'.cell? ⟨b, off + i * 3, none⟩ = some (.int .i64 xf) ∧ w'.cell? ⟨b, off + i * 3 + 1, none⟩ = some (.int .i64 xt) ∧ w'.cell? ⟨b, off + i * 3 + 2, none⟩ = some (.int .i64 xl)))
                (first
                  | exact HX.out _ ((Below.refl _ _).drew)
                  | exact HX.out _ (by assumption)
                  | exact HX.out _ (bthen (And.left (by assumption)) (by assumption))
                  | exact HX.out _ (bthen (by assumption) (by assumption))
                  | exact HX.out _ (bthen (And.left (by assumption)) (below_alloc _ _))
                  | exact HX.out _ (bthen (by assumption) (below_alloc _ _))
                  | (trace_state; fail))
                (first
                  | (go_at_call 49; refine (cell_any _ _ _ _).mono ?_; rintro e w2 ⟨rfl, hb2⟩)
                  | (go_at_call 26; refine (cloneC_any Ac ns cc (cellsAt ls set) _ (HCr.out.keep (And.left (by assumption))) hns2).mono ?_; rintro e w1 ⟨A1, c1, rfl, hown1, hb1⟩; have hown2 : Hid (w1.ownsRow wr.heap.size 36 5 (.slice A1 ns c1) ns (flat 5 cellV (cellsAt ls set))) := hown1; clear hown1)
                  | (refine step_append_lies _ (by rfl) _ _ _ (by rfl) wr.heap.size 36 i0 _ 5 40 Try.underlying27 hi0.out hz0.out hz1.out hz2.out rfl (by omega) (.slice A1 ns c1) ns _ (by rfl) ((owns_keep hown2.out hb2).alloc _)
                      ⟨w2.heap.size, 0, none⟩ 1 1 [.int .i64 0, .int .i64 0, .int .i64 xf, .int .i64 xt, .int .i64 0] (by rfl) (by rfl) (World.news_of_block (cs := #[.int .i64 0, .int .i64 0, .int .i64 xf, .int .i64 xt, .int .i64 0]) (t := 36) (fr := (0, 0)) (heap_alloc_new w2 _)) (by simp [Value.oneCell'])
                      (by omega) (by unfold maxLen; omega) (by omega) (Below.size (B := wr.heap.size) (w := wr) (And.left (by assumption))) (w2.heap.size + 1) (by simp) ?_; intro gg cap w3 hown3 hgrow3 hat3 hlt3; have hbb : Below wr.heap.size wr w3 := (below_append (And.left (by assumption)) ((owns_keep hown2.out hb2).alloc _) hgrow3 (Nat.le_refl _))))
              have HC3 : Hid (CelS w3 (some ⟨gg, 0, none⟩) (ns + 1) (cellsAt ls (set ++ [i]))) := (celS_of_owns (by rw [hfl1.out] at hown3; exact hown3) hok1.out).2
              have hbb := Lib.hid hbb
              go_wp2_with fail
              go_meet
              exact ⟨_, _, rfl, HC3, hbb⟩
            case rest =>
              obtain ⟨A3, c3, rfl, HC3, HB3⟩ := hcut
              generalize wc = wd at *
              replace HR2 := Lib.hid (HR2.out.keep HB3.out)
              replace HG2 := Lib.hid (gb_trans HG2.out (gb_below HB3.out))
              clear kz HX HL HCr hfl1 hok1 HB3
              have kn := HR2.out.ctx.nbox.at_
              have cg := Lib.hid (Good_any N v A3 (ns + 1) c3 (cellsAt ls (set ++ [i])) _ (HR2.out.ctx.net.keep HR2.out.ctx.below) HC3.out (by omega))
              have HTi := HT.out
              rw [show min k (n - i) = n - i by omega, goL_step _ hlt] at HTi
              have hga : goodN N (cellsAt ls (set ++ [i])) = goodAt N ls (set ++ [i]) := rfl
              rw [hga] at cg
              clear hga
              generalize hgd : goodAt N ls (set ++ [i]) = gd at *
              replace hgd := Lib.hid hgd
              replace HTi := Lib.hid HTi
              go_upto_region 10 with fail
              go_wp2_with fail
              refine cg.out.mono ?_
              rintro e we ⟨rfl, hb_⟩
              clear cg kn
              replace HR2 := Lib.hid (HR2.out.keep hb_)
              replace HG2 := Lib.hid (gb_trans HG2.out (gb_below hb_))
              replace HC3 := Lib.hid (HC3.out.keep hb_)
              clear hb_
              cases gd with
              | false =>
                have HT2 : Hid (goL (goodAt N ls) n (min k (n - (i + 1))) b2 set = goL (goodAt N ls) n k best1 set) := by
                  have := HTi.out
                  rw [if_neg (by decide)] at this
                  rw [show min k (n - (i + 1)) = n - (i + 1) by omega]
                  exact this
                go_wp2
                go_roundw
                case rel => exact ⟨i + 1, _, _, _, by omega, by go_num, HR2, HG2, HT2⟩
                case measure => simp [intOf]; omega
              | true =>
                have HTj := HTi.out
                rw [if_pos rfl] at HTj
                have HSe := Lib.hid (hSk.out _ HG2.out)
                have HXb := Lib.hid HR2.out.ctx.xbox
                have hnx := Lib.hid HR2.out.ctx.nx
                have HX2 : Hid (∀ w', we.grownBy w' (some Bb) → (we.grownBy w' (some Bb) ∧ w'.cell? ⟨Bx, 0, none⟩ = some (.func (.func 52) #[] #[.pointer (some ⟨Bb, 0, none⟩), .pointer (some ⟨Bl, 0, none⟩), .pointer (some ⟨Bn, 0, none⟩), .pointer (some ⟨Bx, 0, none⟩)]))) := fun w' h => ⟨h, (HXb.out.grownB h hnx.out).at_ 0⟩
                have kx := (HX2.out _ (gb_refl _ _)).2
                obtain ⟨i1, hi1, hy0, hy1, hy2⟩ := info_parts info_int
                have hfl2 : Hid (flat 1 intV (intsOf set) ++ [.int .i64 i] = flat 1 intV (intsOf (set ++ [i]))) := by
                  show _ = _
                  unfold intsOf
                  rw [List.map_append, flat_append]
                  rfl
                have hok2 : Hid (∀ y ∈ intsOf (set ++ [i]), I64 y) := fun y hy => by
                  unfold intsOf at hy
                  rw [List.map_append, List.mem_append] at hy
                  rcases hy with hy | hy
                  · exact hS.out.ok y hy
                  · simp at hy; subst hy; unfold I64; omega
                have g1 : Hid ((set ++ [i]).length ≤ i + 1) := by show (set ++ [i]).length ≤ i + 1; have := hsl.out; simp; omega
                have g2 : Hid (∀ y ∈ set ++ [i], y < n) := fun y hy => by
                  rcases List.mem_append.1 hy with hy | hy
                  · exact hsn.out y hy
                  · rw [List.mem_singleton] at hy; omega
                have hE := Lib.hid (fun Aq nq cq wq (h : Below we.heap.size we wq) (hi : IntS wq Aq nq (intsOf (set ++ [i]))) (hq : nq = ns + 1) => ih.out (n - (i + 1)) (by omega) (i + 1) (by omega) (set ++ [i]) b2 Aq nq cq A3 c3 vb2 nb2 wq g1.out (fromOf_snoc set i) g2.out (HR2.out.keep h) hi (by rw [hq]; exact HC3.out.keep h))
                replace HTj := Lib.hid HTj
                replace hi1 := Lib.hid hi1
                replace hy0 := Lib.hid hy0
                replace hy1 := Lib.hid hy1
                replace hy2 := Lib.hid hy2
                go_upto_region 11 with fail
                go_region_held3 (fun w' => we.grownBy w' (some Bb) ∧ w'.cell? ⟨Bx, 0, none⟩ = some (.func (.func 52) #[] #[.pointer (some ⟨Bb, 0, none⟩), .pointer (some ⟨Bl, 0, none⟩), .pointer (some ⟨Bn, 0, none⟩), .pointer (some ⟨Bx, 0, none⟩)]))
                  (first
                    | exact HX2.out _ (gb_below ((Below.refl _ _).drew))
                    | exact HX2.out _ (by assumption)
                    | exact HX2.out _ (gb_trans (And.left (by assumption)) (World.grownBy_alloc _ _ _))
                    | (trace_state; fail))
                  (first
                    | (go_at_call 53; refine (cloneI_any As ns cs (intsOf set) _ (HSe.out.keep ((Below.refl _ _).drew)) hns2).mono ?_; rintro e w1 ⟨A1, c1, rfl, hown1, hb1⟩; have hown2 : Hid (w1.ownsRow we.heap.size 3 1 (.slice A1 ns c1) ns (flat 1 intV (intsOf set))) := hown1; have hB1 : Below we.heap.size we w1 := bthen ((Below.refl _ _).drew) hb1; have hG1 : we.grownBy w1 (some Bb) := gb_below hB1; clear hown1)
                    | (go_at_call 53; refine (cloneI_any As ns cs (intsOf set) _ (HSe.out.keep (bthen ((Below.refl _ _).drew) (below_alloc _ _))) hns2).mono ?_; rintro e w1 ⟨A1, c1, rfl, hown1, hb1⟩; have hown2 : Hid (w1.ownsRow we.heap.size 3 1 (.slice A1 ns c1) ns (flat 1 intV (intsOf set))) := owns_base hown1 (by simp); have hB1 : Below we.heap.size we w1 := bthen (bthen ((Below.refl _ _).drew) (below_alloc _ _)) hb1; have hG1 : we.grownBy w1 (some Bb) := gb_below hB1; clear hown1)
                    | (go_at_call 52; refine (hE.out (some ⟨gg, 0, none⟩) (ns + 1) cap _ hB3 hI3.out rfl).mono ?_; rintro e w5 ⟨rfl, hg5, vb5, nb5, HR5⟩; have hG5 : we.grownBy w5 (some Bb) := gb_trans (gb_below hB3) hg5)
                    | (refine step_append_lies _ (by rfl) _ _ _ (by rfl) we.heap.size 3 i1 _ 1 8 Try.underlying24 hi1.out hy0.out hy1.out hy2.out rfl (by omega) (.slice A1 ns c1) ns _ (by rfl) (hown2.out.alloc _)
                        ⟨w1.heap.size, 0, none⟩ 1 1 [.int .i64 i] (by rfl) (by rfl) (World.news_of_block (cs := #[.int .i64 i]) (t := 3) (fr := (0, 0)) (heap_alloc_new w1 _)) (by simp [Value.oneCell'])
                        (by omega) (by unfold maxLen; omega) (by omega) (by have := hB1.size; simp; omega) (w1.heap.size + 1) (by simp) ?_; intro gg cap w3 hown3 hgrow3 hat3 hlt3; have hB3 : Below we.heap.size we w3 := (below_append (hB1.alloc hB1.size _) (hown2.out.alloc _) hgrow3 (Nat.le_refl _)); have hG3 : we.grownBy w3 (some Bb) := gb_below hB3; have hI3 := Lib.hid (intS_of_owns (hfl2.out ▸ hown3) hok2.out).2)
                    | (refine step_append_lies _ (by rfl) _ _ _ (by rfl) we.heap.size 3 i1 _ 1 8 Try.underlying24 hi1.out hy0.out hy1.out hy2.out rfl (by omega) (.slice A1 ns c1) ns _ (by rfl) hown2.out
                        ⟨we.heap.size, 0, none⟩ 1 1 [.int .i64 i] (by rfl) (by rfl) (World.news_of_block (cs := #[.int .i64 i]) (t := 3) (fr := (0, 0)) ((hb1.block we.heap.size (by simp)).trans (heap_alloc_new we.drew _))) (by simp [Value.oneCell'])
                        (by omega) (by unfold maxLen; omega) (by omega) hB1.size w1.heap.size (by rfl) ?_; intro gg cap w3 hown3 hgrow3 hat3 hlt3; have hB3 : Below we.heap.size we w3 := (below_append hB1 hown2.out hgrow3 (Nat.le_refl _)); have hG3 : we.grownBy w3 (some Bb) := gb_below hB3; have hI3 := Lib.hid (intS_of_owns (hfl2.out ▸ hown3) hok2.out).2))
                all_goals
                  have HT2 : Hid (goL (goodAt N ls) n (min k (n - (i + 1))) (goL (goodAt N ls) n (n - (i + 1)) (bestOf b2 (set ++ [i])) (set ++ [i])) set = goL (goodAt N ls) n k best1 set) := by
                    have := HTj.out
                    rw [show min k (n - (i + 1)) = n - (i + 1) by omega]
                    exact this
                  have HG5 := Lib.hid (gb_trans HG2.out hG5)
                  have HR5 := Lib.hid HR5
                  go_wp2
                  go_roundw
                  case rel => exact ⟨i + 1, _, _, _, by omega, by go_num, HR5, HG5, HT2⟩
                  case measure => simp [intOf]; omega
        · obtain rfl : i = n := by omega
          have hT := HT.out
          rw [show min k (i - i) = 0 by omega] at hT
          rw [← hT]
          replace hT := Lib.hid hT
          go_wp2
          go_end0
          exact ⟨rfl, HG2.out, _, _, HR2.out⟩
end Nt
end Go.Proofs.Ythibgpgjioepfaa
