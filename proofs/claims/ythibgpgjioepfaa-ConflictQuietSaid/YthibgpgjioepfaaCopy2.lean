/- hopmeshref31.Copy, the walk. -/
import Derived.Test.YthibgpgjioepfaaCopyA
namespace Go.Proofs.Ythibgpgjioepfaa
open Go Go.RowKit Go.Sort
namespace Nt
open Mm
set_option maxRecDepth 100000 in
set_option maxHeartbeats 8000000 in
theorem copy_any (N : Net) (v : NetV) (w : World) (hN : NetIs w v N) (hsq : Square N) (hnd : 2 ≤ N.nodes ∧ N.nodes ≤ 32) (hll : N.links.length ≤ 1000) (hml : N.margin.length ≤ 1000) :
    Calls Try.prog 19 #[.agg #[.int .i64 N.nodes, .slice v.PA v.pn v.pc, .int .i64 N.noise, .int .i64 N.threshold, .slice v.LA v.ln v.lc, .slice v.MA v.mn v.mc]] w (CopyPost N w) := by
  obtain ⟨i1, hi1, hy0, hy1, hy2⟩ := info_parts info_int
  obtain ⟨i2, hi2, hx0, hx1, hx2⟩ := info_parts info_ints
  obtain ⟨i3, hi3, hu0, hu1, hu2⟩ := info_parts info_link
  obtain ⟨nodes, power, noise, thr, links, margin⟩ := N
  obtain ⟨PA, pn, pc, LA, ln, lc, MA, mn, mc⟩ := v
  have hpn := hN.power.len
  have hln := hN.links.els.len
  have hmn := hN.margin.els.len
  have hr := hsq.rows
  have hcl := hsq.cols
  dsimp only at *
  obtain ⟨hn1, hn2⟩ := hnd
  replace hi1 := Lib.hid hi1
  replace hy0 := Lib.hid hy0
  replace hy1 := Lib.hid hy1
  replace hy2 := Lib.hid hy2
  replace hi2 := Lib.hid hi2
  replace hx0 := Lib.hid hx0
  replace hx1 := Lib.hid hx1
  replace hx2 := Lib.hid hx2
  replace hi3 := Lib.hid hi3
  replace hu0 := Lib.hid hu0
  replace hu1 := Lib.hid hu1
  replace hu2 := Lib.hid hu2
  replace hN := Lib.hid hN
  replace hpn := Lib.hid hpn
  replace hln := Lib.hid hln
  replace hmn := Lib.hid hmn
  replace hr := Lib.hid hr
  replace hcl := Lib.hid hcl
  replace hll := Lib.hid hll
  replace hml := Lib.hid hml
  have hR0 : Hid (CpR w (copyHead w #[.int .i64 nodes, .slice PA pn pc, .int .i64 noise, .int .i64 thr, .slice LA ln lc, .slice MA mn mc] nodes noise thr (.slice LA ln lc) (.slice MA mn mc)) #[.int .i64 nodes, .slice PA pn pc, .int .i64 noise, .int .i64 thr, .slice LA ln lc, .slice MA mn mc] #[.int .i64 0, .slice none 0 0, .int .i64 0, .int .i64 0, .slice none 0 0, .slice none 0 0] nodes noise thr (.slice LA ln lc) (.slice MA mn mc) (.slice (some ⟨w.heap.size + 1 + 1 + 1, 0, none⟩) 0 0) [] (power.take 0)) := by
    refine ⟨?_, ?_, ?_, ?_, ?_⟩
    · exact (((below_alloc w _).alloc (by simp) _).alloc (by simp; omega) _).alloc (by simp; omega) _
    · exact (((Blk.new w _ _).alloc _).alloc _).alloc _
    · exact ((Blk.new' _ _ _ (w.heap.size + 1) (by simp only [size_alloc1])).alloc _).alloc _
    · exact (Blk.new' _ _ _ (w.heap.size + 2) (by simp only [size_alloc1])).alloc _
    · have hz : (((w.alloc (.cells #[.int .i64 nodes, .slice PA pn pc, .int .i64 noise, .int .i64 thr, .slice LA ln lc, .slice MA mn mc] 26)).alloc (.cells #[.int .i64 0, .slice none 0 0, .int .i64 0, .int .i64 0, .slice none 0 0, .slice none 0 0] 26)).alloc (.cells #[.int .i64 nodes, .slice (some ⟨w.heap.size + 1 + 1 + 1, 0, none⟩) 0 0, .int .i64 noise, .int .i64 thr, .slice LA ln lc, .slice MA mn mc] 26)).heap.size = w.heap.size + 1 + 1 + 1 := by simp only [size_alloc1]
      have hm := World.ownsRow_made (base := w.heap.size + 3) (e := 24) (size := 1) (((w.alloc (.cells #[.int .i64 nodes, .slice PA pn pc, .int .i64 noise, .int .i64 thr, .slice LA ln lc, .slice MA mn mc] 26)).alloc (.cells #[.int .i64 0, .slice none 0 0, .int .i64 0, .int .i64 0, .slice none 0 0, .slice none 0 0] 26)).alloc (.cells #[.int .i64 nodes, .slice (some ⟨w.heap.size + 1 + 1 + 1, 0, none⟩) 0 0, .int .i64 noise, .int .i64 thr, .slice LA ln lc, .slice MA mn mc] 26)) #[] 0 (by rw [hz]; omega) (by decide) rfl
      rw [hz] at hm
      exact ⟨rfl, hm, fun i hi => absurd hi (by simp), fun i j g n c m d hij h => by simp at h⟩
  go_enter Try.func19, Try.ntmps19
  go_wp2
  unfold copyHead at hR0
  go_loopw [4] (fun i wr => ∃ (k : Nat) (vP : Value) (hs : List Value), k ≤ pn ∧ i = .int .i64 k ∧ Hid (CpR w wr #[.int .i64 nodes, .slice PA pn pc, .int .i64 noise, .int .i64 thr, .slice LA ln lc, .slice MA mn mc] #[.int .i64 0, .slice none 0 0, .int .i64 0, .int .i64 0, .slice none 0 0, .slice none 0 0] nodes noise thr (.slice LA ln lc) (.slice MA mn mc) vP hs (power.take k))) (fun i _ => pn - (intOf i).toNat)
  case atStart => exact ⟨0, _, _, by omega, rfl, hR0⟩
  case round =>
    obtain ⟨k, vP, hs, hk, rfl, HR⟩ := hrel
    clear hR0
    have kn := HR.out.net.cell
    have ko := HR.out.out.cell
    by_cases hlt : k < pn
    · obtain ⟨pb, po, rfl, hpb, _⟩ := hN.out.power.at_ (show 0 < pn by omega)
      obtain ⟨xs, RA, rn, rc, he, hm, hc, hx⟩ := (hN.out.keep HR.out.below).power.elem (k := k) hlt
      dsimp only at he hm hc
      have hrl := hx.els.len
      have hxc := hcl.out xs hm
      have hrn : 0 < rn := by omega
      obtain ⟨rb, ro, rfl⟩ := hx.els.addr hrn
      have hrn32 : rn ≤ 32 := by omega
      have hpn32 : pn ≤ 32 := by have := hr.out; have := hpn.out; omega
      have hfl : (flat 1 intV xs).length = rn * 1 := by rw [flat_length, hrl]
      have hnews := ints_news (hx.keep (((below_alloc wr (.cells #[] 3)).drew))) rfl
      have h1s := ints_one xs
      have hsz := HR.out.below.size
      have hhl : hs.length = k := by rw [HR.out.own.len, List.length_take]; have := hpn.out; omega
      have hm0 := (World.ownsRow_made (base := w.heap.size + 3) (e := 3) (size := 1) wr #[] 0 (by have := HR.out.out.lt; omega) (by decide) rfl).drew
      have lo := HR.out.out.lt
      have ho := HR.out.own.outer
      rw [hhl] at ho
      have hne3 := own_ne HR.out.own.outer (B := w.heap.size + 2) (by omega)
      have hne1 := own_ne HR.out.own.outer (B := w.heap.size) (by omega)
      have hnep := own_ne HR.out.own.outer (B := pb) (by omega)
      have hf3 := HR.out.out.free
      have r1 : (k : Int) < (pn : Int) := by omega
      have r0 : (0 : Int) ≤ (k : Int) := by omega
      replace he := Lib.hid he
      replace hm := Lib.hid hm
      replace hx := Lib.hid hx
      replace hrl := Lib.hid hrl
      replace hxc := Lib.hid hxc
      replace hfl := Lib.hid hfl
      replace hnews := Lib.hid hnews
      replace h1s := Lib.hid h1s
      replace hhl := Lib.hid hhl
      replace hm0 := Lib.hid hm0
      replace ho := Lib.hid ho
      replace hne3 := Lib.hid hne3
      replace hne1 := Lib.hid hne1
      replace hnep := Lib.hid hnep
      have htk : power.take (k + 1) = power.take k ++ [xs] := by rw [List.take_add_one, he.out]; rfl
      replace htk := Lib.hid htk
      go_upto_block 1 with fail
      go_cut [] (fun wx => ∃ (vP' : Value) (hs' : List Value), Hid (CpR w wx #[.int .i64 nodes, .slice (some ⟨pb, po, none⟩) pn pc, .int .i64 noise, .int .i64 thr, .slice LA ln lc, .slice MA mn mc] #[.int .i64 0, .slice none 0 0, .int .i64 0, .int .i64 0, .slice none 0 0, .slice none 0 0] nodes noise thr (.slice LA ln lc) (.slice MA mn mc) vP' hs' (power.take (k + 1))))
      case first =>
        go_wp2_with fail
        have n1 : wr.cell? ⟨w.heap.size, 1, none⟩ = some (.slice (some ⟨pb, po, none⟩) pn pc) := kn 1
        have o1 : wr.cell? ⟨w.heap.size + 2, 1, none⟩ = some vP := ko 1
        have hsz1 := World.block_lt_of_cell? wr _ n1
        have hpb2 : pb < wr.heap.size := by omega
        have hpb3 : w.heap.size + 2 < wr.heap.size := lo
        go_region_law
          (first
            | (refine step_append_lies _ (by rfl) _ _ _ (by rfl) (w.heap.size + 3) 3 i1 _ 1 8 Try.underlying24 hi1.out hy0.out hy1.out hy2.out rfl (by omega) (.slice (some ⟨wr.heap.size, 0, none⟩) 0 0) 0 [] (by rfl) hm0.out
                ⟨rb, ro, none⟩ rn rc (flat 1 intV xs) (by rfl) hfl.out hnews.out h1s.out hrn (by unfold maxLen; omega) (by omega) (by simp; omega) (wr.heap.size + 1) (by simp) ?_; intro g cap w1 hown1 hgrow1 hat1 hlt1; have hz1 : wr.heap.size + 1 ≤ w1.heap.size := (by have := hgrow1.size; simpa using this); have hz3 : w.heap.size + 2 < w1.heap.size := (by omega); have q1 : w1.cell? ⟨w.heap.size + 2, 1, none⟩ = some vP := ((HR.out.out.grown (gb_none (gb_drew (World.grownBy_alloc wr _ none)) hgrow1 (Nat.le_refl _)) (fun e => (by cases e))).cell 1))
            | (refine step_append_lies _ (by rfl) _ _ _ (by rfl) (w.heap.size + 3) 24 i2 _ 1 24 Try.underlying22 hi2.out hx0.out hx1.out hx2.out rfl (by omega) vP hs.length hs (by rfl) ((HR.out.own.outer.kept (gb_none (gb_drew (World.grownBy_alloc wr _ none)) hgrow1 (Nat.le_refl _)) (by cases vP.ownBlock <;> simp)).alloc _)
                ⟨w1.heap.size, 0, none⟩ 1 1 [.slice (some ⟨g, 0, none⟩) rn cap] (by rfl) (by rfl) (World.news_of_block (cs := #[.slice (some ⟨g, 0, none⟩) rn cap]) (t := 24) (fr := (0, 0)) (heap_alloc_new w1 _)) (by simp [Value.oneCell'])
                (by omega) (by unfold maxLen; have := hhl.out; omega) (by have := hhl.out; omega) (by have := hgrow1.size; simp at this; simp; omega) (w1.heap.size + 1) (by simp) ?_; intro gg capp w2 hown2 hgrow2 hat2 hlt2; have hcz : w2.cell? ⟨w.heap.size + 2, 1, none⟩ = some vP := (((HR.out.out.grown (gb_none (gb_drew (World.grownBy_alloc wr _ none)) hgrow1 (Nat.le_refl _)) (fun e => (by cases e))).alloc (.cells #[.slice (some ⟨g, 0, none⟩) rn cap] 24)).grown hgrow2 hne3.out).cell 1; have hfz := (((HR.out.out.grown (gb_none (gb_drew (World.grownBy_alloc wr _ none)) hgrow1 (Nat.le_refl _)) (fun e => (by cases e))).alloc (.cells #[.slice (some ⟨g, 0, none⟩) rn cap] 24)).grown hgrow2 hne3.out).free 1))
        all_goals
          have hnew : wr.heap.size ≤ g := by
            rcases hat1 with e | e
            · have : wr.heap.size = g := by simpa [Value.ownBlock] using e
              omega
            · omega
          have ho1 : w1.ownsRow (w.heap.size + 3) 3 1 (Value.slice (some ⟨g, 0, none⟩) xs.length cap) xs.length (flat 1 intV xs) := by rw [hrl.out]; simpa using hown1
          have ho2 : w2.ownsRow (w.heap.size + 3) 24 1 (Value.slice (some ⟨gg, 0, none⟩) (hs.length + 1) capp) (hs.length + 1) (hs ++ [Value.slice (some ⟨g, 0, none⟩) xs.length cap]) := by rw [hrl.out]; exact hown2
          have HN := HR.out.step (gb_none (gb_drew (World.grownBy_alloc wr _ none)) hgrow1 (Nat.le_refl _)) hnew ho1 hgrow2 ho2 (by simpa using hat2)
          rw [← htk.out] at HN
          replace HN := Lib.hid HN
          clear ho1 ho2 hnew hown1 hgrow1 hat1 hlt1 hown2 hgrow2 hat2 hlt2 hz1 hz3 q1 hcz hfz
          go_wp2_with fail
          go_meet
          exact ⟨_, _, HN⟩
      case rest =>
        obtain ⟨vP', hs', HN⟩ := hcut
        clear kn ko hc hf3
        go_wp2
        go_roundw
        case rel => exact ⟨k + 1, _, _, by omega, by go_num, HN⟩
        case measure => simp [intOf]; omega
    · obtain rfl : k = pn := by omega
      have htk : power.take k = power := List.take_of_length_le (by rw [hpn.out]; exact Nat.le_refl _)
      rw [htk] at HR
      have hLA : LA = none → ln = 0 := fun h => els_none hN.out.links.els h
      have hMA : MA = none → mn = 0 := fun h => els_none hN.out.margin.els h
      have hflL : (flat 3 lnkV links).length = ln * 3 := by rw [flat_length, hln.out]
      have hflM : (flat 1 intV margin).length = mn * 1 := by rw [flat_length, hmn.out]
      have hln1 : ln ≤ 1000 := by have := hll.out; have := hln.out; omega
      have hmn1 : mn ≤ 1000 := by have := hml.out; have := hmn.out; omega
      have lo := HR.out.out.lt
      have l1 := HR.out.net.lt
      have hf3 := HR.out.out.free
      have hrow := HR.out.row_lt
      have newsL := fun ad (h : LA = some ad) => lnks_news ((hN.out.links.keep HR.out.below).keep (below_alloc wr (.cells #[] 44))) h
      have hmL := World.ownsRow_made (base := w.heap.size + 3) (e := 44) (size := 3) wr #[] 0 (by omega) (by decide) rfl
      have n1 : wr.cell? ⟨w.heap.size, 1, none⟩ = some (.slice PA k pc) := kn 1
      have n4 : wr.cell? ⟨w.heap.size, 4, none⟩ = some (.slice LA ln lc) := kn 4
      have o4 : wr.cell? ⟨w.heap.size + 2, 4, none⟩ = some (.slice LA ln lc) := ko 4
      have hlo : w.heap.size + 2 < wr.heap.size := lo
      clear kn ko
      replace hLA := Lib.hid hLA
      replace hMA := Lib.hid hMA
      replace hflL := Lib.hid hflL
      replace hflM := Lib.hid hflM
      replace hf3 := Lib.hid hf3
      replace hrow := Lib.hid hrow
      replace newsL := Lib.hid newsL
      replace hmL := Lib.hid hmL
      replace htk := Lib.hid htk
      have hfz := hf3.out 4
      go_upto_region 8 with (at_builtin; refine wpList_append_src rfl _ _ _ rfl (w.heap.size + 3) 44 i3 (.agg #[.int .i64 0, .int .i64 0, .int .i64 0]) 3 24 Try.underlying23 hi3.out hu0.out hu1.out hu2.out rfl (by decide) wr.heap.size 0 0 (Nat.le_refl _) [] rfl hmL.out LA ln lc (flat 3 lnkV links) rfl hLA.out hflL.out newsL.out (lnks_one links) ?c1 ?c2 ?c3 ?_)
      try case c1 => unfold maxLen; omega
      try case c2 => omega
      try case c3 => first | omega | (simp; done) | (simp; omega)
      intro vL' u1 hown1 hgrow1 hat1
      have hgu : wr.grownBy u1 none := gb_none (World.grownBy_alloc wr _ none) hgrow1 (Nat.le_refl _)
      obtain ⟨AL, cL, rfl⟩ := owns_slice hown1
      have hu := HR.out.out.grown hgu (fun e => by cases e)
      have ku : u1.cell? ⟨w.heap.size + 2, 4, none⟩ = some (.slice LA ln lc) := hu.cell 4
      have fu := hu.free 4
      have HR8 := HR.out.putL hgu (.slice AL ln cL)
      have OL8 := own_set hown1 (a := ⟨w.heap.size + 2, 4, none⟩) (by simp) (.slice AL ln cL)
      have aL : Hid (∀ B, B < wr.heap.size → (Value.slice AL ln cL).ownBlock ≠ some B) := fun B hB e => by
        rcases hat1 with h | h
        · rw [h] at e; injection e with e; omega
        · rw [h] at e; injection e with e; omega
      have hsz8 : wr.heap.size ≤ (u1.setCell ⟨w.heap.size + 2, 4, none⟩ (.slice AL ln cL)).heap.size := by simpa [World.setCell] using hgu.size
      replace HR8 := Lib.hid HR8
      replace OL8 := Lib.hid OL8
      replace hgu := Lib.hid hgu
      replace hgrow1 := Lib.hid hgrow1
      replace hat1 := Lib.hid hat1
      replace hown1 := Lib.hid hown1
      go_upto_region 8 with fail
      generalize u1.setCell ⟨w.heap.size + 2, 4, none⟩ (.slice AL ln cL) = u2 at *
      clear ku fu hu hfz n1 n4 o4 newsL hmL
      have lo2 := HR8.out.out.lt
      have l12 := HR8.out.net.lt
      have newsM := fun ad (h : MA = some ad) => ints_news ((hN.out.margin.keep HR8.out.below).keep (below_alloc u2 (.cells #[] 3))) h
      have hmM := World.ownsRow_made (base := w.heap.size + 3) (e := 3) (size := 1) u2 #[] 0 (by omega) (by decide) rfl
      have n5 : u2.cell? ⟨w.heap.size, 5, none⟩ = some (.slice MA mn mc) := HR8.out.net.cell 5
      have o5 : u2.cell? ⟨w.heap.size + 2, 5, none⟩ = some (.slice MA mn mc) := HR8.out.out.cell 5
      have hfz5 := HR8.out.out.free 5
      replace newsM := Lib.hid newsM
      replace hmM := Lib.hid hmM
      go_upto_region 9 with (at_builtin; refine wpList_append_src rfl _ _ _ rfl (w.heap.size + 3) 3 i1 (.int .i64 0) 1 8 Try.underlying24 hi1.out hy0.out hy1.out hy2.out rfl (by decide) u2.heap.size 0 0 (Nat.le_refl _) [] rfl hmM.out MA mn mc (flat 1 intV margin) rfl hMA.out hflM.out newsM.out (ints_one margin) ?e1 ?e2 ?e3 ?_)
      try case e1 => unfold maxLen; omega
      try case e2 => omega
      try case e3 => first | omega | (simp; done) | (simp; omega)
      intro vM' u3 hown3 hgrow3 hat3
      have hgu3 : u2.grownBy u3 none := gb_none (World.grownBy_alloc u2 _ none) hgrow3 (Nat.le_refl _)
      obtain ⟨AM, cM, rfl⟩ := owns_slice hown3
      have hu := HR8.out.out.grown hgu3 (fun e => by cases e)
      have ku : u3.cell? ⟨w.heap.size + 2, 5, none⟩ = some (.slice MA mn mc) := hu.cell 5
      have fu := hu.free 5
      have HR9 := HR8.out.putM hgu3 (.slice AM mn cM)
      have OM9 := own_set hown3 (a := ⟨w.heap.size + 2, 5, none⟩) (by simp) (.slice AM mn cM)
      have OL9 := own_set (OL8.out.kept hgu3 (by cases (Value.slice AL ln cL).ownBlock <;> simp)) (a := ⟨w.heap.size + 2, 5, none⟩) (by simp) (.slice AM mn cM)
      have aM : Hid (∀ B, B < wr.heap.size → (Value.slice AM mn cM).ownBlock ≠ some B) := fun B hB e => by
        rcases hat3 with h | h
        · rw [h] at e; injection e with e; omega
        · rw [h] at e; injection e with e; omega
      replace HR9 := Lib.hid HR9
      replace OM9 := Lib.hid OM9
      replace OL9 := Lib.hid OL9
      replace hgu3 := Lib.hid hgu3
      replace hgrow3 := Lib.hid hgrow3
      replace hat3 := Lib.hid hat3
      replace hown3 := Lib.hid hown3
      go_upto_region 9 with fail
      generalize u3.setCell ⟨w.heap.size + 2, 5, none⟩ (.slice AM mn cM) = u4 at *
      clear ku fu hu hfz5 n5 o5 newsM hmM
      have hhl : hs.length = k := by rw [HR.out.own.len]; exact hpn.out
      obtain ⟨gP, cP, hvP, _, _⟩ := HR.out.own.outer.form (by rw [hhl]; have := hr.out; have := hpn.out; omega)
      subst hvP
      have ko9 := HR9.out.out.cell
      have kz9 := HR9.out.zero.cell
      have fz9 := HR9.out.zero.free
      have HE := CpR.finish (N := ⟨nodes, power, noise, thr, links, margin⟩) HR9.out (by rw [show (Net.mk nodes power noise thr links margin).links.length = ln from hln.out]; exact OL9.out) (by rw [show (Net.mk nodes power noise thr links margin).margin.length = mn from hmn.out]; exact OM9.out)
        (fun i g n c hi => ⟨aL.out g (hrow.out i g n c hi), aM.out g (hrow.out i g n c hi)⟩) (.int .i64 nodes) (.slice (some ⟨gP, 0, none⟩) hs.length cP) (.int .i64 noise) (.int .i64 thr) (.slice AL ln cL) (.slice AM mn cM)
      unfold put6 at HE
      replace HE := Lib.hid HE
      replace hhl := Lib.hid hhl
      go_wp2
      refine bodyPost_ret (v := .agg #[.int .i64 nodes, .slice (some ⟨gP, 0, none⟩) hs.length cP, .int .i64 noise, .int .i64 thr, .slice AL ln cL, .slice AM mn cM]) (by simp [results, Try.results19, go_sem, kz9]) rfl ⟨_, _, _, _, rfl, HE.out⟩
end Nt
end Go.Proofs.Ythibgpgjioepfaa
