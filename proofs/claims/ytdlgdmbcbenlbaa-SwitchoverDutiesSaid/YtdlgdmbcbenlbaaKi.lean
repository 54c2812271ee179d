/- The law's awake, walked. -/
import Derived.Test.YtdlgdmbcbenlbaaKh
import Derived.Deep.RegionHeld3
set_option linter.unusedVariables false
set_option linter.unusedSimpArgs false
namespace Go.Proofs.Ytdlgdmbcbenlbaa
open Go Go.RowKit Go.Sort
namespace Sw
open Mm
set_option maxRecDepth 100000 in
set_option maxHeartbeats 8000000 in
theorem awake_any (w : World) : Calls Try.prog 10 #[] w fun e w' => e = .returned (.bool true) ∧ Below w.heap.size w w' := by
  have hb1 := ball w (.cells #[.int .i64 1, .int .i64 0, .int .i64 2, .int .i64 0, .int .i64 0] 34)
  have hb2 := ballN hb1 (.cells #[.int .i64 1, .int .i64 0, .int .i64 2, .int .i64 0, .int .i64 0] 34)
  have hb3 := ballN hb2 (.cells #[.int .i64 4, .int .i64 1, .slice (some ⟨w.heap.size + 1, 0, none⟩) 1 1] 24)
  have hb4 := ballN hb3 (.cells #[.int .i64 10, .bool false, .int .i64 1, .int .i64 0, .int .i64 2, .int .i64 0, .int .i64 0, .int .i64 20, .bool true, .int .i64 1, .int .i64 0, .int .i64 2, .int .i64 0, .int .i64 0] 56)
  have s1 := size1 w (.cells #[.int .i64 1, .int .i64 0, .int .i64 2, .int .i64 0, .int .i64 0] 34)
  have s2 := size1 (w.alloc (.cells #[.int .i64 1, .int .i64 0, .int .i64 2, .int .i64 0, .int .i64 0] 34)) (.cells #[.int .i64 1, .int .i64 0, .int .i64 2, .int .i64 0, .int .i64 0] 34)
  have s3 := size1 ((w.alloc (.cells #[.int .i64 1, .int .i64 0, .int .i64 2, .int .i64 0, .int .i64 0] 34)).alloc (.cells #[.int .i64 1, .int .i64 0, .int .i64 2, .int .i64 0, .int .i64 0] 34)) (.cells #[.int .i64 4, .int .i64 1, .slice (some ⟨w.heap.size + 1, 0, none⟩) 1 1] 24)
  have HA := (((Box.new w #[.int .i64 1, .int .i64 0, .int .i64 2, .int .i64 0, .int .i64 0] 34).alloc (.cells #[.int .i64 1, .int .i64 0, .int .i64 2, .int .i64 0, .int .i64 0] 34)).alloc (.cells #[.int .i64 4, .int .i64 1, .slice (some ⟨w.heap.size + 1, 0, none⟩) 1 1] 24)).alloc (.cells #[.int .i64 10, .bool false, .int .i64 1, .int .i64 0, .int .i64 2, .int .i64 0, .int .i64 0, .int .i64 20, .bool true, .int .i64 1, .int .i64 0, .int .i64 2, .int .i64 0, .int .i64 0] 56)
  have HS := ((sls_box celE 5 celE_len (w.alloc (.cells #[.int .i64 1, .int .i64 0, .int .i64 2, .int .i64 0, .int .i64 0] 34)) 34 [awA] (by decide)).keep (ball _ (.cells #[.int .i64 4, .int .i64 1, .slice (some ⟨w.heap.size + 1, 0, none⟩) 1 1] 24))).keep (ball _ (.cells #[.int .i64 10, .bool false, .int .i64 1, .int .i64 0, .int .i64 2, .int .i64 0, .int .i64 0, .int .i64 20, .bool true, .int .i64 1, .int .i64 0, .int .i64 2, .int .i64 0, .int .i64 0] 56))
  have HX := (Box.new ((w.alloc (.cells #[.int .i64 1, .int .i64 0, .int .i64 2, .int .i64 0, .int .i64 0] 34)).alloc (.cells #[.int .i64 1, .int .i64 0, .int .i64 2, .int .i64 0, .int .i64 0] 34)) #[.int .i64 4, .int .i64 1, .slice (some ⟨w.heap.size + 1, 0, none⟩) 1 1] 24).alloc (.cells #[.int .i64 10, .bool false, .int .i64 1, .int .i64 0, .int .i64 2, .int .i64 0, .int .i64 0, .int .i64 20, .bool true, .int .i64 1, .int .i64 0, .int .i64 2, .int .i64 0, .int .i64 0] 56)
  have HL := sls_box chgE 7 chgE_len (((w.alloc (.cells #[.int .i64 1, .int .i64 0, .int .i64 2, .int .i64 0, .int .i64 0] 34)).alloc (.cells #[.int .i64 1, .int .i64 0, .int .i64 2, .int .i64 0, .int .i64 0] 34)).alloc (.cells #[.int .i64 4, .int .i64 1, .slice (some ⟨w.heap.size + 1, 0, none⟩) 1 1] 24)) 56 awL (by decide)
  rw [s1] at HS
  rw [s2, s1] at HX
  rw [s3, s2, s1] at HL
  replace HS : CelS ((((w.alloc (.cells #[.int .i64 1, .int .i64 0, .int .i64 2, .int .i64 0, .int .i64 0] 34)).alloc (.cells #[.int .i64 1, .int .i64 0, .int .i64 2, .int .i64 0, .int .i64 0] 34)).alloc (.cells #[.int .i64 4, .int .i64 1, .slice (some ⟨w.heap.size + 1, 0, none⟩) 1 1] 24)).alloc (.cells #[.int .i64 10, .bool false, .int .i64 1, .int .i64 0, .int .i64 2, .int .i64 0, .int .i64 0, .int .i64 20, .bool true, .int .i64 1, .int .i64 0, .int .i64 2, .int .i64 0, .int .i64 0] 56)) (some ⟨w.heap.size + 1, 0, none⟩) 1 [awA] := HS
  replace HL : ChgS ((((w.alloc (.cells #[.int .i64 1, .int .i64 0, .int .i64 2, .int .i64 0, .int .i64 0] 34)).alloc (.cells #[.int .i64 1, .int .i64 0, .int .i64 2, .int .i64 0, .int .i64 0] 34)).alloc (.cells #[.int .i64 4, .int .i64 1, .slice (some ⟨w.heap.size + 1, 0, none⟩) 1 1] 24)).alloc (.cells #[.int .i64 10, .bool false, .int .i64 1, .int .i64 0, .int .i64 2, .int .i64 0, .int .i64 0, .int .i64 20, .bool true, .int .i64 1, .int .i64 0, .int .i64 2, .int .i64 0, .int .i64 0] 56)) (some ⟨w.heap.size + 1 + 1 + 1, 0, none⟩) 2 awL := HL
  have cT := aw_Times (some ⟨w.heap.size + 1, 0, none⟩) (some ⟨w.heap.size + 1 + 1 + 1, 0, none⟩) 1 2 ((((w.alloc (.cells #[.int .i64 1, .int .i64 0, .int .i64 2, .int .i64 0, .int .i64 0] 34)).alloc (.cells #[.int .i64 1, .int .i64 0, .int .i64 2, .int .i64 0, .int .i64 0] 34)).alloc (.cells #[.int .i64 4, .int .i64 1, .slice (some ⟨w.heap.size + 1, 0, none⟩) 1 1] 24)).alloc (.cells #[.int .i64 10, .bool false, .int .i64 1, .int .i64 0, .int .i64 2, .int .i64 0, .int .i64 0, .int .i64 20, .bool true, .int .i64 1, .int .i64 0, .int .i64 2, .int .i64 0, .int .i64 0] 56)) HS HL
  have kx := HX.at_
  have ka := HA.at_
  clear hb1 hb2 hb3 s1 s2 s3
  replace hb4 := Lib.hid hb4
  replace HA := Lib.hid HA
  replace HS := Lib.hid HS
  replace HX := Lib.hid HX
  replace HL := Lib.hid HL
  replace cT := Lib.hid cT
  go_enter Try.func10, Try.ntmps10
  go_wp2_with fail
  clear kx ka
  generalize ((((w.alloc (.cells #[.int .i64 1, .int .i64 0, .int .i64 2, .int .i64 0, .int .i64 0] 34)).alloc (.cells #[.int .i64 1, .int .i64 0, .int .i64 2, .int .i64 0, .int .i64 0] 34)).alloc (.cells #[.int .i64 4, .int .i64 1, .slice (some ⟨w.heap.size + 1, 0, none⟩) 1 1] 24)).alloc (.cells #[.int .i64 10, .bool false, .int .i64 1, .int .i64 0, .int .i64 2, .int .i64 0, .int .i64 0, .int .i64 20, .bool true, .int .i64 1, .int .i64 0, .int .i64 2, .int .i64 0, .int .i64 0] 56)) = W at *
  refine cT.out.mono ?_
  rintro e w5 ⟨AT, cT', rfl, hPT, hb_⟩
  clear cT
  replace HA := Lib.hid (HA.out.keep hb_)
  replace HS := Lib.hid (HS.out.keep hb_)
  replace HX := Lib.hid (HX.out.keep hb_)
  replace HL := Lib.hid (HL.out.keep hb_)
  have hbw := Lib.hid (bthen hb4.out hb_)
  have HT := Lib.hid hPT
  clear hb_ hPT hb4
  have cD := aw_Duties (some ⟨w.heap.size + 1, 0, none⟩) (some ⟨w.heap.size + 1 + 1 + 1, 0, none⟩) 1 2 w5 HS.out HL.out
  have kx := HX.out.at_
  replace cD := Lib.hid cD
  go_wp2_with fail
  refine cD.out.mono ?_
  rintro e W6 ⟨gd, cd, rfl, hPD, hb_⟩
  clear cD kx
  replace HA := Lib.hid (HA.out.keep hb_)
  replace HS := Lib.hid (HS.out.keep hb_)
  replace HX := Lib.hid (HX.out.keep hb_)
  replace HL := Lib.hid (HL.out.keep hb_)
  replace HT := Lib.hid (HT.out.keep hb_)
  have hbw2 := Lib.hid (bthen hbw.out hb_)
  have HD := Lib.hid hPD
  clear hb_ hPD hbw
  have cX := aw_At13 (some ⟨gd, 0, none⟩) cd W6 HD.out
  replace cX := Lib.hid cX
  go_wp2_with fail
  refine cX.out.mono ?_
  rintro e W7 ⟨gx, cx, rfl, hPX, hb_⟩
  clear cX
  replace HA := Lib.hid (HA.out.keep hb_)
  replace HS := Lib.hid (HS.out.keep hb_)
  replace HX := Lib.hid (HX.out.keep hb_)
  replace HL := Lib.hid (HL.out.keep hb_)
  replace HT := Lib.hid (HT.out.keep hb_)
  replace HD := Lib.hid (HD.out.keep hb_)
  have hbw3 := Lib.hid (bthen hbw2.out hb_)
  have HXX := Lib.hid hPX
  clear hb_ hPX hbw2
  have cY := aw_At14 (some ⟨gd, 0, none⟩) cd W7 HD.out
  replace cY := Lib.hid cY
  go_wp2_with fail
  refine cY.out.mono ?_
  rintro e W8 ⟨AY, cy, rfl, hb_⟩
  clear cY
  replace HA := Lib.hid (HA.out.keep hb_)
  replace HL := Lib.hid (HL.out.keep hb_)
  replace HT := Lib.hid (HT.out.keep hb_)
  replace HD := Lib.hid (HD.out.keep hb_)
  replace HXX := Lib.hid (HXX.out.keep hb_)
  have hbw := Lib.hid (bthen hbw3.out hb_)
  clear hb_ hbw3 HS HX
  have hd := dut_at HD.out (i := 1) (by decide)
  have hx := dut_at HXX.out (i := 0) (by decide)
  have ha := HA.out.at_
  obtain ⟨d0, d1, d2, d3, d4, d5, d6, d7, d8⟩ := hd
  obtain ⟨x0, x1, x2, x3, x4, x5, x6, x7, x8⟩ := hx
  have HK : Hid (∀ w', Below W8.heap.size W8 w' → (Below W8.heap.size W8 w' ∧ (w'.cell? ⟨w.heap.size, 0, none⟩ = some (.int .i64 1) ∧ w'.cell? ⟨w.heap.size, 1, none⟩ = some (.int .i64 0) ∧ w'.cell? ⟨w.heap.size, 2, none⟩ = some (.int .i64 2) ∧ w'.cell? ⟨w.heap.size, 3, none⟩ = some (.int .i64 0) ∧ w'.cell? ⟨w.heap.size, 4, none⟩ = some (.int .i64 0)) ∧ (w'.cell? ⟨gd, 9, none⟩ = some (.int .i64 1) ∧ w'.cell? ⟨gd, 10, none⟩ = some (.int .i64 0) ∧ w'.cell? ⟨gd, 11, none⟩ = some (.int .i64 2) ∧ w'.cell? ⟨gd, 12, none⟩ = some (.int .i64 0) ∧ w'.cell? ⟨gd, 13, none⟩ = some (.int .i64 0) ∧ w'.cell? ⟨gd, 14, none⟩ = some (.bool false) ∧ w'.cell? ⟨gd, 15, none⟩ = some (.bool true) ∧ w'.cell? ⟨gd, 16, none⟩ = some (.int .i64 10) ∧ w'.cell? ⟨gd, 17, none⟩ = some (.int .i64 14)) ∧ (w'.cell? ⟨gx, 0, none⟩ = some (.int .i64 1) ∧ w'.cell? ⟨gx, 1, none⟩ = some (.int .i64 0) ∧ w'.cell? ⟨gx, 2, none⟩ = some (.int .i64 2) ∧ w'.cell? ⟨gx, 3, none⟩ = some (.int .i64 0) ∧ w'.cell? ⟨gx, 4, none⟩ = some (.int .i64 0) ∧ w'.cell? ⟨gx, 5, none⟩ = some (.bool false) ∧ w'.cell? ⟨gx, 6, none⟩ = some (.bool true) ∧ w'.cell? ⟨gx, 7, none⟩ = some (.int .i64 10) ∧ w'.cell? ⟨gx, 8, none⟩ = some (.int .i64 14)))) := fun w' h => by
    have cc := fun b o => h.cell (p := ⟨b, o, none⟩)
    have e := fun b o v (hc : W8.cell? ⟨b, o, none⟩ = some v) => (cc b o (World.block_lt_of_cell? W8 _ hc)).trans hc
    exact ⟨h, ⟨e _ _ _ (ha 0), e _ _ _ (ha 1), e _ _ _ (ha 2), e _ _ _ (ha 3), e _ _ _ (ha 4)⟩, ⟨e _ _ _ d0, e _ _ _ d1, e _ _ _ d2, e _ _ _ d3, e _ _ _ d4, e _ _ _ d5, e _ _ _ d6, e _ _ _ d7, e _ _ _ d8⟩, ⟨e _ _ _ x0, e _ _ _ x1, e _ _ _ x2, e _ _ _ x3, e _ _ _ x4, e _ _ _ x5, e _ _ _ x6, e _ _ _ x7, e _ _ _ x8⟩⟩
  clear ha d0 d1 d2 d3 d4 d5 d6 d7 d8 x0 x1 x2 x3 x4 x5 x6 x7 x8 HD HXX HA
  have ke := fun W => eql_dut ⟨awA, false, true, 10, 14⟩ ⟨awA, false, true, 10, 14⟩ W
  have hE : eqD ⟨awA, false, true, 10, 14⟩ ⟨awA, false, true, 10, 14⟩ = true := decide_eq_true rfl
  rw [hE] at ke
  replace ke : ∀ W, (binOp .eql 45 (.agg #[.int .i64 1, .int .i64 0, .int .i64 2, .int .i64 0, .int .i64 0, .bool false, .bool true, .int .i64 10, .int .i64 14]) (.agg #[.int .i64 1, .int .i64 0, .int .i64 2, .int .i64 0, .int .i64 0, .bool false, .bool true, .int .i64 10, .int .i64 14])).run Try.prog W = .ok (.bool true) W := ke
  clear hE
  have kz := HK.out W8 (Below.refl _ _)
  have HT2 : Hid (∀ w', Below W8.heap.size W8 w' → PrS w' AT 2 [(0, 10), (20, -1)]) := fun w' h => HT.out.keep h
  have HL2 : Hid (∀ w', Below W8.heap.size W8 w' → ChgS w' (some ⟨w.heap.size + 1 + 1 + 1, 0, none⟩) 2 awL) := fun w' h => HL.out.keep h
  have HB9 : Below W8.heap.size W8 (W8.alloc (.cells #[.int .i64 0, .int .i64 10, .int .i64 20, .int .i64 (-1)] 42)).drew := (ball W8 _).drew
  have cE := aw_eq AT cT' (W8.alloc (.cells #[.int .i64 0, .int .i64 10, .int .i64 20, .int .i64 (-1)] 42)).drew W8.heap.size 2 (HT2.out _ HB9) ((sls_box prE 2 prE_len W8 42 [(0, 10), (20, -1)] (by decide)).keep ((Below.refl _ _).drew))
  have HBt : Hid (∀ w'', Below (W8.alloc (.cells #[.int .i64 0, .int .i64 10, .int .i64 20, .int .i64 (-1)] 42)).drew.heap.size (W8.alloc (.cells #[.int .i64 0, .int .i64 10, .int .i64 20, .int .i64 (-1)] 42)).drew w'' → Below W8.heap.size W8 w'') := fun w'' k => bthen HB9 k
  replace HB9 := Lib.hid HB9
  replace cE := Lib.hid cE
  clear HT HL HT2
  go_wp2_with fail
  go_region_held3 (fun w' => Below W8.heap.size W8 w' ∧ (w'.cell? ⟨w.heap.size, 0, none⟩ = some (.int .i64 1) ∧ w'.cell? ⟨w.heap.size, 1, none⟩ = some (.int .i64 0) ∧ w'.cell? ⟨w.heap.size, 2, none⟩ = some (.int .i64 2) ∧ w'.cell? ⟨w.heap.size, 3, none⟩ = some (.int .i64 0) ∧ w'.cell? ⟨w.heap.size, 4, none⟩ = some (.int .i64 0)) ∧ (w'.cell? ⟨gd, 9, none⟩ = some (.int .i64 1) ∧ w'.cell? ⟨gd, 10, none⟩ = some (.int .i64 0) ∧ w'.cell? ⟨gd, 11, none⟩ = some (.int .i64 2) ∧ w'.cell? ⟨gd, 12, none⟩ = some (.int .i64 0) ∧ w'.cell? ⟨gd, 13, none⟩ = some (.int .i64 0) ∧ w'.cell? ⟨gd, 14, none⟩ = some (.bool false) ∧ w'.cell? ⟨gd, 15, none⟩ = some (.bool true) ∧ w'.cell? ⟨gd, 16, none⟩ = some (.int .i64 10) ∧ w'.cell? ⟨gd, 17, none⟩ = some (.int .i64 14)) ∧ (w'.cell? ⟨gx, 0, none⟩ = some (.int .i64 1) ∧ w'.cell? ⟨gx, 1, none⟩ = some (.int .i64 0) ∧ w'.cell? ⟨gx, 2, none⟩ = some (.int .i64 2) ∧ w'.cell? ⟨gx, 3, none⟩ = some (.int .i64 0) ∧ w'.cell? ⟨gx, 4, none⟩ = some (.int .i64 0) ∧ w'.cell? ⟨gx, 5, none⟩ = some (.bool false) ∧ w'.cell? ⟨gx, 6, none⟩ = some (.bool true) ∧ w'.cell? ⟨gx, 7, none⟩ = some (.int .i64 10) ∧ w'.cell? ⟨gx, 8, none⟩ = some (.int .i64 14)))
    (first
      | exact HK.out _ ((Below.refl _ _).drew)
      | exact HK.out _ HB9.out
      | exact HK.out _ (HBt.out _ (by assumption))
      | exact HK.out _ (by assumption))
    (first
      | (go_at_call 19; refine cE.out.mono ?_; rintro r wf ⟨rfl, hgw⟩)
      | (go_at_call 21; refine (aw_until _ _ _ (HL2.out _ (And.left (by assumption)))).mono ?_; rintro r wf ⟨rfl, rfl⟩))
  all_goals
    go_wp2
    go_ret
    exact ⟨rfl, bthen hbw.out (And.left (by assumption))⟩
end Sw
end Go.Proofs.Ytdlgdmbcbenlbaa
namespace Go.Proofs.Ytdlgdmbcbenlbaa
open Go Go.RowKit Go.Sort
namespace Sw
open Mm
def fewB (n m : Nat) : Bool := (decide (n ≤ 24) || decide (n = 513)) && (decide (m ≤ 16) || decide (m = 1025))
set_option maxRecDepth 100000 in
set_option maxHeartbeats 2000000 in
theorem few_any (L O : Int) (A : Option Addr) (n cp : Nat) (B : Option Addr) (m cq : Nat) (w : World) (hn : n ≤ maxLen) (hm : m ≤ maxLen) :
    Calls Try.prog 11 #[.agg #[.int .i64 L, .int .i64 O, .slice A n cp], .slice B m cq] w fun e w' => e = .returned (.bool (fewB n m)) ∧ Below w.heap.size w w' := by
  unfold maxLen at hn hm
  have hbw := ball w (.cells #[.int .i64 L, .int .i64 O, .slice A n cp] 24)
  have BX := Box.new w #[.int .i64 L, .int .i64 O, .slice A n cp] 24
  have kx := BX.at_
  have hR : fewB n m = ((decide (n ≤ 24) || decide (n = 513)) && (decide (m ≤ 16) || decide (m = 1025))) := rfl
  generalize fewB n m = R at *
  replace hbw := Lib.hid hbw
  replace BX := Lib.hid BX
  have b1 : (n = 513 ∧ ((n : Int) == 513) = true) ∨ (n ≠ 513 ∧ ((n : Int) == 513) = false) := by
    by_cases h : n = 513
    · exact .inl ⟨h, by rw [h]; rfl⟩
    · exact .inr ⟨h, by rw [beq_eq_false_iff_ne]; omega⟩
  have b2 : (m = 1025 ∧ ((m : Int) == 1025) = true) ∨ (m ≠ 1025 ∧ ((m : Int) == 1025) = false) := by
    by_cases h : m = 1025
    · exact .inl ⟨h, by rw [h]; rfl⟩
    · exact .inr ⟨h, by rw [beq_eq_false_iff_ne]; omega⟩
  have a1 : (n ≤ 24 ∧ (n : Int) ≤ 24) ∨ (¬ n ≤ 24 ∧ decide ((n : Int) ≤ 24) = false) := by
    by_cases h : n ≤ 24
    · exact .inl ⟨h, by omega⟩
    · exact .inr ⟨h, by simp; omega⟩
  have a2 : (m ≤ 16 ∧ (m : Int) ≤ 16) ∨ (¬ m ≤ 16 ∧ decide ((m : Int) ≤ 16) = false) := by
    by_cases h : m ≤ 16
    · exact .inl ⟨h, by omega⟩
    · exact .inr ⟨h, by simp; omega⟩
  rcases a1 with ⟨h1, d1⟩ | ⟨h1, d1⟩
  · rcases a2 with ⟨h2, d2⟩ | ⟨h2, d2⟩
    · have hR2 : Hid (R = true) := by show _ = _; rw [hR]; simp [h1, h2]
      clear hR
      replace h1 := Lib.hid h1
      replace h2 := Lib.hid h2
      go_enter Try.func11, Try.ntmps11
      go_wp2
      go_ret
      exact ⟨by rw [hR2.out]; rfl, hbw.out⟩
    · rcases b2 with ⟨e2, b2⟩ | ⟨e2, b2⟩
      · have hR2 : Hid (R = true) := by show _ = _; rw [hR]; simp [h1, e2]
        clear hR
        replace h1 := Lib.hid h1
        replace h2 := Lib.hid h2
        replace e2 := Lib.hid e2
        go_enter Try.func11, Try.ntmps11
        go_wp2
        go_ret
        exact ⟨by rw [hR2.out]; rfl, hbw.out⟩
      · have hR2 : Hid (R = false) := by show _ = _; rw [hR]; simp [h2, e2]
        clear hR
        replace h1 := Lib.hid h1
        replace h2 := Lib.hid h2
        replace e2 := Lib.hid e2
        go_enter Try.func11, Try.ntmps11
        go_wp2
        go_ret
        exact ⟨by rw [hR2.out]; rfl, hbw.out⟩
  · rcases b1 with ⟨e1, b1⟩ | ⟨e1, b1⟩
    · rcases a2 with ⟨h2, d2⟩ | ⟨h2, d2⟩
      · have hR2 : Hid (R = true) := by show _ = _; rw [hR]; simp [e1, h2]
        clear hR
        replace h1 := Lib.hid h1
        replace e1 := Lib.hid e1
        replace h2 := Lib.hid h2
        go_enter Try.func11, Try.ntmps11
        go_wp2
        go_ret
        exact ⟨by rw [hR2.out]; rfl, hbw.out⟩
      · rcases b2 with ⟨e2, b2⟩ | ⟨e2, b2⟩
        · have hR2 : Hid (R = true) := by show _ = _; rw [hR]; simp [e1, e2]
          clear hR
          replace h1 := Lib.hid h1
          replace e1 := Lib.hid e1
          replace h2 := Lib.hid h2
          replace e2 := Lib.hid e2
          go_enter Try.func11, Try.ntmps11
          go_wp2
          go_ret
          exact ⟨by rw [hR2.out]; rfl, hbw.out⟩
        · have hR2 : Hid (R = false) := by show _ = _; rw [hR]; simp [h2, e2]
          clear hR
          replace h1 := Lib.hid h1
          replace e1 := Lib.hid e1
          replace h2 := Lib.hid h2
          replace e2 := Lib.hid e2
          go_enter Try.func11, Try.ntmps11
          go_wp2
          go_ret
          exact ⟨by rw [hR2.out]; rfl, hbw.out⟩
    · have hR2 : Hid (R = false) := by show _ = _; rw [hR]; simp [h1, e1]
      clear hR
      replace h1 := Lib.hid h1
      replace e1 := Lib.hid e1
      go_enter Try.func11, Try.ntmps11
      go_wp2
      go_ret
      exact ⟨by rw [hR2.out]; rfl, hbw.out⟩
theorem bcell {W w1 : World} (hb : Below W.heap.size W w1) : (∀ b o, b < W.heap.size → w1.cell? ⟨b, o, none⟩ = W.cell? ⟨b, o, none⟩) ∧ (∀ b o, b < W.heap.size → w1.frozen? ⟨b, o, none⟩ = W.frozen? ⟨b, o, none⟩) :=
  ⟨fun b o h => hb.cell (p := ⟨b, o, none⟩) h, fun b o h => hb.frozen (p := ⟨b, o, none⟩) h⟩
theorem gb_set1 (w : World) (g i : Nat) (v : Value) : w.grownBy (w.setCell ⟨g, i, none⟩ v) (some g) :=
  ⟨rfl, rfl, rfl, by simp [World.setCell], fun k _ hne => heap_setCell_other w ⟨g, i, none⟩ k v (fun e => hne (by rw [e]))⟩
theorem own_apart {w : World} {base g i : Nat} {e : TypeId} {size n : Nat} {v x : Value} {xs : List Value} (h : w.ownsRow base e size v n xs) (hg : g < base) : (w.setCell ⟨g, i, none⟩ x).ownsRow base e size v n xs :=
  h.kept (gb_set1 w g i x) (by
    cases hv : v.ownBlock with
    | none => exact .inl rfl
    | some k => exact .inr (fun e => by injection e with e; have := (h.lt k hv).1; omega))
def CpPost (L O : Int) (n m : Nat) (cs : List Cel) (l : List Chg) (w : World) (e : Ending) (w' : World) : Prop := ∃ A c B d, e = .returned (.tuple #[.agg #[.int .i64 L, .int .i64 O, .slice A n c], .slice B m d]) ∧ CelS w' A n cs ∧ ChgS w' B m l ∧ Below w.heap.size w w'
set_option maxRecDepth 100000 in
set_option maxHeartbeats 4000000 in
theorem cp_any (L O : Int) (A : Option Addr) (n cp : Nat) (cs : List Cel) (B : Option Addr) (m cq : Nat) (l : List Chg) (w : World) (h1 : CelS w A n cs) (h2 : ChgS w B m l) (hn : n ≤ 100000) (hm : m ≤ 100000) :
    Calls Try.prog 13 #[.agg #[.int .i64 L, .int .i64 O, .slice A n cp], .slice B m cq] w (CpPost L O n m cs l w) := by
  have hl1 := h1.len
  have hl2 := h2.len
  have hb0 := ballN (ball w (.cells #[.int .i64 L, .int .i64 O, .slice A n cp] 24)) (.cells #[.int .i64 0, .int .i64 0, .slice none 0 0] 24)
  have BX := (Blk.new w #[.int .i64 L, .int .i64 O, .slice A n cp] 24).alloc (.cells #[.int .i64 0, .int .i64 0, .slice none 0 0] 24)
  have BT := Blk.new (w.alloc (.cells #[.int .i64 L, .int .i64 O, .slice A n cp] 24)) #[.int .i64 0, .int .i64 0, .slice none 0 0] 24
  have s1 := size1 w (.cells #[.int .i64 L, .int .i64 O, .slice A n cp] 24)
  have s2 := size1 (w.alloc (.cells #[.int .i64 L, .int .i64 O, .slice A n cp] 24)) (.cells #[.int .i64 0, .int .i64 0, .slice none 0 0] 24)
  rw [s1] at BT s2
  have cC := cloneC_any A n cp cs _ (h1.keep hb0) hn
  have cG := fun W (h : ChgS W B m l) => cloneG_any B m cq l W h hm
  clear s1
  replace h1 := Lib.hid h1
  replace h2 := Lib.hid h2
  replace hl1 := Lib.hid hl1
  replace hl2 := Lib.hid hl2
  replace hb0 := Lib.hid hb0
  replace BX := Lib.hid BX
  replace BT := Lib.hid BT
  replace cC := Lib.hid cC
  replace cG := Lib.hid cG
  replace s2 := Lib.hid s2
  have kx := BX.out.cell
  go_enter Try.func13, Try.ntmps13
  go_wp2_with fail
  generalize (w.alloc (.cells #[.int .i64 L, .int .i64 O, .slice A n cp] 24)).alloc (.cells #[.int .i64 0, .int .i64 0, .slice none 0 0] 24) = w0 at *
  refine cC.out.mono ?_
  rintro e w2 ⟨A', c', rfl, ho, hb_⟩
  clear kx cC
  have hbw := Lib.hid (bthen hb0.out hb_)
  have HO := Lib.hid ho
  have HX := Lib.hid (BX.out.keep hb_)
  have HT := Lib.hid (BT.out.keep hb_)
  clear hb_ ho BX BT hb0
  have hz1 : w.heap.size < w2.heap.size := HX.out.lt
  have hz2 : w.heap.size + 1 < w2.heap.size := HT.out.lt
  have HX3 := Lib.hid (HX.out.set 2 (.slice A' n c'))
  have HT3 := Lib.hid (HT.out.other (p := ⟨w.heap.size, 2, none⟩) (by simp) (.slice A' n c'))
  have HO3 := Lib.hid (own_apart (g := w.heap.size) (i := 2) (x := .slice A' n c') HO.out (by rw [s2.out]; omega))
  have hb3 := Lib.hid (hbw.out.setCell (p := ⟨w.heap.size, 2, none⟩) (Nat.le_refl _) (.slice A' n c'))
  have kx := HX.out.cell
  have kf := HX.out.free
  go_upto_region 2 with fail
  clear kx kf
  generalize w2.setCell ⟨w.heap.size, 2, none⟩ (.slice A' n c') = w3 at *
  have HG : Hid (∀ W, Below w.heap.size w W → Calls Try.prog 35 #[.slice B m cq] W (ClonePost chgE 7 56 m l W)) := fun W h => cG.out W (h2.out.keep h)
  replace HX3 : Hid (Blk w3 w.heap.size #[.int .i64 L, .int .i64 O, .slice A' n c'] 24) := HX3
  have kx := HX3.out.cell
  have kt := HT3.out.cell
  have kf := HT3.out.free
  have hz3 : w.heap.size + 1 < w3.heap.size := HT3.out.lt
  have HS : Hid (Below w.heap.size w (((w3.setCell ⟨w.heap.size + 1, 0, none⟩ (.int .i64 L)).setCell ⟨w.heap.size + 1, 1, none⟩ (.int .i64 O)).setCell ⟨w.heap.size + 1, 2, none⟩ (.slice A' n c')).drew) := (((hb3.out.setCell (p := ⟨w.heap.size + 1, 0, none⟩) (Nat.le_succ _) _).setCell (p := ⟨w.heap.size + 1, 1, none⟩) (Nat.le_succ _) _).setCell (p := ⟨w.heap.size + 1, 2, none⟩) (Nat.le_succ _) _).drew
  have HB3 : Hid (Below w.heap.size w w3.drew) := hb3.out.drew
  go_region_with (first
    | (go_at_call 35; refine (HG.out w3.drew HB3.out).mono ?_; rintro e w7 ⟨B', d', rfl, ho7, hb7⟩; (have kx7 := (HX3.out.drew.keep hb7).cell); (have kt7 := (HT3.out.drew.keep hb7).cell); (have kf7 := (HT3.out.drew.keep hb7).free); (have ho8 := Lib.hid ho7); (have hb8 := Lib.hid hb7); clear ho7 hb7)
    | (go_at_call 35; refine (HG.out _ HS.out).mono ?_; rintro e w7 ⟨B', d', rfl, ho7, hb7⟩; (have ho8 := Lib.hid ho7); (have hb8 := Lib.hid hb7); clear ho7 hb7))
  all_goals
    have HT9 : Hid (Blk (((w7.setCell ⟨w.heap.size + 1, 0, none⟩ (.int .i64 L)).setCell ⟨w.heap.size + 1, 1, none⟩ (.int .i64 O)).setCell ⟨w.heap.size + 1, 2, none⟩ (.slice A' n c')) (w.heap.size + 1) #[.int .i64 L, .int .i64 O, .slice A' n c'] 24) := ((((HT3.out.drew.keep hb8.out).set 0 (.int .i64 L)).set 1 (.int .i64 O)).set 2 (.slice A' n c'))
    have HO9 : Hid ((((w7.setCell ⟨w.heap.size + 1, 0, none⟩ (.int .i64 L)).setCell ⟨w.heap.size + 1, 1, none⟩ (.int .i64 O)).setCell ⟨w.heap.size + 1, 2, none⟩ (.slice A' n c')).ownsRow w0.heap.size 34 5 (.slice A' n c') n (cs.flatMap celE)) :=
      have hlt : w.heap.size + 1 < w0.heap.size := by rw [s2.out]; omega
      (own_apart (g := w.heap.size + 1) (i := 2) (x := .slice A' n c') (own_apart (g := w.heap.size + 1) (i := 1) (x := .int .i64 O) (own_apart (g := w.heap.size + 1) (i := 0) (x := .int .i64 L) (owns_keep HO3.out.drew hb8.out) hlt) hlt) hlt)
    have hq : w.heap.size + 1 < w3.drew.heap.size := hz3
    have HG9 : Hid ((((w7.setCell ⟨w.heap.size + 1, 0, none⟩ (.int .i64 L)).setCell ⟨w.heap.size + 1, 1, none⟩ (.int .i64 O)).setCell ⟨w.heap.size + 1, 2, none⟩ (.slice A' n c')).ownsRow w3.drew.heap.size 56 7 (.slice B' m d') m (l.flatMap chgE)) :=
      have hlt := hq
      (own_apart (g := w.heap.size + 1) (i := 2) (x := .slice A' n c') (own_apart (g := w.heap.size + 1) (i := 1) (x := .int .i64 O) (own_apart (g := w.heap.size + 1) (i := 0) (x := .int .i64 L) ho8.out hlt) hlt) hlt)
    have HB9 : Hid (Below w.heap.size w (((w7.setCell ⟨w.heap.size + 1, 0, none⟩ (.int .i64 L)).setCell ⟨w.heap.size + 1, 1, none⟩ (.int .i64 O)).setCell ⟨w.heap.size + 1, 2, none⟩ (.slice A' n c'))) := ((((HB3.out.trans (hb8.out.mono (by omega))).setCell (p := ⟨w.heap.size + 1, 0, none⟩) (Nat.le_succ _) (.int .i64 L)).setCell (p := ⟨w.heap.size + 1, 1, none⟩) (Nat.le_succ _) (.int .i64 O)).setCell (p := ⟨w.heap.size + 1, 2, none⟩) (Nat.le_succ _) (.slice A' n c'))
    clear kx kt kf ho8 hb8
    generalize ((w7.setCell ⟨w.heap.size + 1, 0, none⟩ (.int .i64 L)).setCell ⟨w.heap.size + 1, 1, none⟩ (.int .i64 O)).setCell ⟨w.heap.size + 1, 2, none⟩ (.slice A' n c') = w9 at *
    have kq := HT9.out.cell
    have HF : Hid (CpPost L O n m cs l w (.returned (.tuple #[.agg #[.int .i64 L, .int .i64 O, .slice A' n c'], .slice B' m d'])) w9) := ⟨A', c', B', d', rfl, (Sls.of_owns celE_len HO9.out hl1.out).2, (Sls.of_owns chgE_len HG9.out hl2.out).2, HB9.out⟩
    go_wp2
    refine bodyPost_ret (v := .tuple #[.agg #[.int .i64 L, .int .i64 O, .slice A' n c'], .slice B' m d']) (by simp [results, Try.results13, go_sem, kq]) rfl HF.out
end Sw
end Go.Proofs.Ytdlgdmbcbenlbaa
namespace Go.Proofs.Ytdlgdmbcbenlbaa
open Go Go.RowKit Go.Sort
namespace Sw
open Mm
def inB (x : Int) (p : Int × Int) : Bool := decide (p.1 ≤ x) && (decide (p.2 = -1) || decide (x < p.2))
theorem inB_any (t : List (Int × Int)) (x : Int) : t.any (inB x) = true ↔ InT t x := by
  rw [List.any_eq_true]
  unfold InT inB
  simp
set_option maxRecDepth 100000 in
set_option maxHeartbeats 2000000 in
theorem inT_any (p : Int × Int) (x : Int) (B : Nat) (w : World) (hB : w.cell? ⟨B, 0, none⟩ = some (.int .i64 x)) :
    Calls Try.prog 26 (#[.agg #[.int .i64 p.1, .int .i64 p.2]] ++ #[.pointer (some ⟨B, 0, none⟩)]) w fun e w' => e = .returned (.bool (inB x p)) ∧ Below w.heap.size w w' := by
  show Calls Try.prog 26 #[.agg #[.int .i64 p.1, .int .i64 p.2], .pointer (some ⟨B, 0, none⟩)] w _
  obtain ⟨p0, p1⟩ := p
  have hR : inB x (p0, p1) = (decide (p0 ≤ x) && (decide (p1 = -1) || decide (x < p1))) := rfl
  generalize inB x (p0, p1) = R at *
  dsimp only
  have hbw := ball w (.cells #[.int .i64 p0, .int .i64 p1] 42)
  have BX := Box.new w #[.int .i64 p0, .int .i64 p1] 42
  have kb : (w.alloc (.cells #[.int .i64 p0, .int .i64 p1] 42)).cell? ⟨B, 0, none⟩ = some (.int .i64 x) := (hbw.cell (p := ⟨B, 0, none⟩) (World.block_lt_of_cell? w _ hB)).trans hB
  have kx := BX.at_
  replace hbw := Lib.hid hbw
  replace BX := Lib.hid BX
  replace hB := Lib.hid hB
  by_cases c1 : p0 ≤ x
  · by_cases c2 : p1 = -1
    · have hR2 : Hid (R = true) := by show _ = _; rw [hR]; simp [c1, c2]
      have d2 : (p1 == -1) = true := by simpa using c2
      clear hR
      replace c2 := Lib.hid c2
      go_enter Try.func26, Try.ntmps26
      go_wp2
      go_ret
      exact ⟨by rw [hR2.out]; rfl, hbw.out⟩
    · have d2 : (p1 == -1) = false := by simpa using c2
      by_cases c3 : x < p1
      · have hR2 : Hid (R = true) := by show _ = _; rw [hR]; simp [c1, c3]
        clear hR
        replace c2 := Lib.hid c2
        go_enter Try.func26, Try.ntmps26
        go_wp2
        go_ret
        exact ⟨by rw [hR2.out]; rfl, hbw.out⟩
      · have hR2 : Hid (R = false) := by show _ = _; rw [hR]; simp [c2, c3]
        have d3 : decide (x < p1) = false := by simpa using c3
        clear hR
        replace c2 := Lib.hid c2
        replace c3 := Lib.hid c3
        go_enter Try.func26, Try.ntmps26
        go_wp2
        go_ret
        exact ⟨by rw [hR2.out]; rfl, hbw.out⟩
  · have hR2 : Hid (R = false) := by show _ = _; rw [hR]; simp [c1]
    have d1 : decide (p0 ≤ x) = false := by simpa using c1
    clear hR
    replace c1 := Lib.hid c1
    go_enter Try.func26, Try.ntmps26
    go_wp2
    go_ret
    exact ⟨by rw [hR2.out]; rfl, hbw.out⟩
theorem canon_at {t : List (Int × Int)} (h : Canon t) {i : Nat} (hi : i < t.length) : 0 ≤ (t.getD i default).1 ∧ ((t.getD i default).2 = -1 ∨ (t.getD i default).1 < (t.getD i default).2) ∧ (0 < i → (t.getD (i - 1) default).2 ≠ -1 ∧ (t.getD (i - 1) default).2 < (t.getD i default).1) := by
  have h1 := ok_at h.each hi
  refine ⟨h1.1, h1.2, fun h0 => ?_⟩
  have := List.pairwise_iff_getElem.1 h.apart (i - 1) i (by omega) hi (by omega)
  rw [List.getD_eq_getElem?_getD, List.getD_eq_getElem?_getD, List.getElem?_eq_getElem hi, List.getElem?_eq_getElem (by omega)]
  exact this
theorem in_force {L O : Int} {cs : List Cel} {l : List Chg} (h : Right L O cs l) (c : Cel) (x : Int) (hx : 0 ≤ x) : (timesC cs l c).any (inB x) = forceN cs l c x := by
  rw [Bool.eq_iff_iff, inB_any]
  exact (h.inv c).cov x hx
end Sw
end Go.Proofs.Ytdlgdmbcbenlbaa
