/- The law's awake, walked. -/
import Derived.Test.YtnkgmpmedkegbaaSw28
import Derived.Deep.RegionHeld3
namespace Go.Proofs.Ytnkgmpmedkegbaa
open Go Go.RowKit Go.Sort
namespace Sw
open Mm
set_option maxRecDepth 100000 in
set_option maxHeartbeats 8000000 in
theorem awake_any (w : World) : Calls Try.prog 10 #[] w fun e w' => e = .returned (.bool true) ∧ Below w.heap.size w w' := by
  have hb1 := ball w (.cells #[.int .i64 1, .int .i64 0, .int .i64 2, .int .i64 0, .int .i64 0] 34)
  have hb2 := ballN hb1 (.cells #[.int .i64 1, .int .i64 0, .int .i64 2, .int .i64 0, .int .i64 0] 34)
  have hb3 := ballN hb2 (.cells #[.int .i64 4, .int .i64 1, .slice (some ⟨w.heap.size + 1, 0, none⟩) 1 1] 24)
  have hb4 := ballN hb3 (.cells #[.int .i64 10, .bool false, .int .i64 1, .int .i64 0, .int .i64 2, .int .i64 0, .int .i64 0, .int .i64 20, .bool true, .int .i64 1, .int .i64 0, .int .i64 2, .int .i64 0, .int .i64 0] 56)
  have s1 := size1 w (.cells #[.int .i64 1, .int .i64 0, .int .i64 2, .int .i64 0, .int .i64 0] 34)
  have s2 := size1 (w.alloc (.cells #[.int .i64 1, .int .i64 0, .int .i64 2, .int .i64 0, .int .i64 0] 34)) (.cells #[.int .i64 1, .int .i64 0, .int .i64 2, .int .i64 0, .int .i64 0] 34)
  have s3 := size1 ((w.alloc (.cells #[.int .i64 1, .int .i64 0, .int .i64 2, .int .i64 0, .int .i64 0] 34)).alloc (.cells #[.int .i64 1, .int .i64 0, .int .i64 2, .int .i64 0, .int .i64 0] 34)) (.cells #[.int .i64 4, .int .i64 1, .slice (some ⟨w.heap.size + 1, 0, none⟩) 1 1] 24)
  have HA := (((Box.new w #[.int .i64 1, .int .i64 0, .int .i64 2, .int .i64 0, .int .i64 0] 34).alloc (.cells #[.int .i64 1, .int .i64 0, .int .i64 2, .int .i64 0, .int .i64 0] 34)).alloc (.cells #[.int .i64 4, .int .i64 1, .slice (some ⟨w.heap.size + 1, 0, none⟩) 1 1] 24)).alloc (.cells #[.int .i64 10, .bool false, .int .i64 1, .int .i64 0, .int .i64 2, .int .i64 0, .int .i64 0, .int .i64 20, .bool true, .int .i64 1, .int .i64 0, .int .i64 2, .int .i64 0, .int .i64 0] 56)
  have HS := ((sls_box celE 5 celE_len (w.alloc (.cells #[.int .i64 1, .int .i64 0, .int .i64 2, .int .i64 0, .int .i64 0] 34)) 34 [awA] (by decide)).keep (ball _ (.cells #[.int .i64 4, .int .i64 1, .slice (some ⟨w.heap.size + 1, 0, none⟩) 1 1] 24))).keep (ball _ (.cells #[.int .i64 10, .bool false, .int .i64 1, .int .i64 0, .int .i64 2, .int .i64 0, .int .i64 0, .int .i64 20, .bool true, .int .i64 1, .int .i64 0, .int .i64 2, .int .i64 0, .int .i64 0] 56))
  have HX := (Box.new ((w.alloc (.cells #[.int .i64 1, .int .i64 0, .int .i64 2, .int .i64 0, .int .i64 0] 34)).alloc (.cells #[.int .i64 1, .int .i64 0, .int .i64 2, .int .i64 0, .int .i64 0] 34)) #[.int .i64 4, .int .i64 1, .slice (some ⟨w.heap.size + 1, 0, none⟩) 1 1] 24).alloc (.cells #[.int .i64 10, .bool false, .int .i64 1, .int .i64 0, .int .i64 2, .int .i64 0, .int .i64 0, .int .i64 20, .bool true, .int .i64 1, .int .i64 0, .int .i64 2, .int .i64 0, .int .i64 0] 56)
  have HL := sls_box chgE 7 chgE_len (((w.alloc (.cells #[.int .i64 1, .int .i64 0, .int .i64 2, .int .i64 0, .int .i64 0] 34)).alloc (.cells #[.int .i64 1, .int .i64 0, .int .i64 2, .int .i64 0, .int .i64 0] 34)).alloc (.cells #[.int .i64 4, .int .i64 1, .slice (some ⟨w.heap.size + 1, 0, none⟩) 1 1] 24)) 56 awL (by decide)
  rw [s1] at HS
  rw [s2, s1] at HX
  rw [s3, s2, s1] at HL
  replace HS : CelS ((((w.alloc (.cells #[.int .i64 1, .int .i64 0, .int .i64 2, .int .i64 0, .int .i64 0] 34)).alloc (.cells #[.int .i64 1, .int .i64 0, .int .i64 2, .int .i64 0, .int .i64 0] 34)).alloc (.cells #[.int .i64 4, .int .i64 1, .slice (some ⟨w.heap.size + 1, 0, none⟩) 1 1] 24)).alloc (.cells #[.int .i64 10, .bool false, .int .i64 1, .int .i64 0, .int .i64 2, .int .i64 0, .int .i64 0, .int .i64 20, .bool true, .int .i64 1, .int .i64 0, .int .i64 2, .int .i64 0, .int .i64 0] 56)) (some ⟨w.heap.size + 1, 0, none⟩) 1 [awA] := HS
  replace HL : ChgS ((((w.alloc (.cells #[.int .i64 1, .int .i64 0, .int .i64 2, .int .i64 0, .int .i64 0] 34)).alloc (.cells #[.int .i64 1, .int .i64 0, .int .i64 2, .int .i64 0, .int .i64 0] 34)).alloc (.cells #[.int .i64 4, .int .i64 1, .slice (some ⟨w.heap.size + 1, 0, none⟩) 1 1] 24)).alloc (.cells #[.int .i64 10, .bool false, .int .i64 1, .int .i64 0, .int .i64 2, .int .i64 0, .int .i64 0, .int .i64 20, .bool true, .int .i64 1, .int .i64 0, .int .i64 2, .int .i64 0, .int .i64 0] 56)) (some ⟨w.heap.size + 1 + 1 + 1, 0, none⟩) 2 awL := HL
  have cT := aw_Times (some ⟨w.heap.size + 1, 0, none⟩) (some ⟨w.heap.size + 1 + 1 + 1, 0, none⟩) 1 2 ((((w.alloc (.cells #[.int .i64 1, .int .i64 0, .int .i64 2, .int .i64 0, .int .i64 0] 34)).alloc (.cells #[.int .i64 1, .int .i64 0, .int .i64 2, .int .i64 0, .int .i64 0] 34)).alloc (.cells #[.int .i64 4, .int .i64 1, .slice (some ⟨w.heap.size + 1, 0, none⟩) 1 1] 24)).alloc (.cells #[.int .i64 10, .bool false, .int .i64 1, .int .i64 0, .int .i64 2, .int .i64 0, .int .i64 0, .int .i64 20, .bool true, .int .i64 1, .int .i64 0, .int .i64 2, .int .i64 0, .int .i64 0] 56)) HS HL
  have kx := HX.at_
  have ka := HA.at_
  clear hb1 hb2 hb3 s1 s2 s3
  replace hb4 := Lib.hid hb4
  replace HA := Lib.hid HA
  replace HS := Lib.hid HS
  replace HX := Lib.hid HX
  replace HL := Lib.hid HL
  replace cT := Lib.hid cT
  go_enter Try.func10, Try.ntmps10
  go_wp2_with fail
  clear kx ka
  generalize ((((w.alloc (.cells #[.int .i64 1, .int .i64 0, .int .i64 2, .int .i64 0, .int .i64 0] 34)).alloc (.cells #[.int .i64 1, .int .i64 0, .int .i64 2, .int .i64 0, .int .i64 0] 34)).alloc (.cells #[.int .i64 4, .int .i64 1, .slice (some ⟨w.heap.size + 1, 0, none⟩) 1 1] 24)).alloc (.cells #[.int .i64 10, .bool false, .int .i64 1, .int .i64 0, .int .i64 2, .int .i64 0, .int .i64 0, .int .i64 20, .bool true, .int .i64 1, .int .i64 0, .int .i64 2, .int .i64 0, .int .i64 0] 56)) = W at *
  refine cT.out.mono ?_
  rintro e w5 ⟨AT, cT', rfl, hPT, hb_⟩
  clear cT
  replace HA := Lib.hid (HA.out.keep hb_)
  replace HS := Lib.hid (HS.out.keep hb_)
  replace HX := Lib.hid (HX.out.keep hb_)
  replace HL := Lib.hid (HL.out.keep hb_)
  have hbw := Lib.hid (bthen hb4.out hb_)
  have HT := Lib.hid hPT
  clear hb_ hPT hb4
  have cD := aw_Duties (some ⟨w.heap.size + 1, 0, none⟩) (some ⟨w.heap.size + 1 + 1 + 1, 0, none⟩) 1 2 w5 HS.out HL.out
  have kx := HX.out.at_
  replace cD := Lib.hid cD
  go_wp2_with fail
  refine cD.out.mono ?_
  rintro e W6 ⟨gd, cd, rfl, hPD, hb_⟩
  clear cD kx
  replace HA := Lib.hid (HA.out.keep hb_)
  replace HS := Lib.hid (HS.out.keep hb_)
  replace HX := Lib.hid (HX.out.keep hb_)
  replace HL := Lib.hid (HL.out.keep hb_)
  replace HT := Lib.hid (HT.out.keep hb_)
  have hbw2 := Lib.hid (bthen hbw.out hb_)
  have HD := Lib.hid hPD
  clear hb_ hPD hbw
  have cX := aw_At13 (some ⟨gd, 0, none⟩) cd W6 HD.out
  replace cX := Lib.hid cX
  go_wp2_with fail
  refine cX.out.mono ?_
  rintro e W7 ⟨gx, cx, rfl, hPX, hb_⟩
  clear cX
  replace HA := Lib.hid (HA.out.keep hb_)
  replace HS := Lib.hid (HS.out.keep hb_)
  replace HX := Lib.hid (HX.out.keep hb_)
  replace HL := Lib.hid (HL.out.keep hb_)
  replace HT := Lib.hid (HT.out.keep hb_)
  replace HD := Lib.hid (HD.out.keep hb_)
  have hbw3 := Lib.hid (bthen hbw2.out hb_)
  have HXX := Lib.hid hPX
  clear hb_ hPX hbw2
  have cY := aw_At14 (some ⟨gd, 0, none⟩) cd W7 HD.out
  replace cY := Lib.hid cY
  go_wp2_with fail
  refine cY.out.mono ?_
  rintro e W8 ⟨AY, cy, rfl, hb_⟩
  clear cY
  replace HA := Lib.hid (HA.out.keep hb_)
  replace HL := Lib.hid (HL.out.keep hb_)
  replace HT := Lib.hid (HT.out.keep hb_)
  replace HD := Lib.hid (HD.out.keep hb_)
  replace HXX := Lib.hid (HXX.out.keep hb_)
  have hbw := Lib.hid (bthen hbw3.out hb_)
  clear hb_ hbw3 HS HX
  have hd := dut_at HD.out (i := 1) (by decide)
  have hx := dut_at HXX.out (i := 0) (by decide)
  have ha := HA.out.at_
  obtain ⟨d0, d1, d2, d3, d4, d5, d6, d7, d8⟩ := hd
  obtain ⟨x0, x1, x2, x3, x4, x5, x6, x7, x8⟩ := hx
  have HK : Hid (∀ w', Below W8.heap.size W8 w' → (Below W8.heap.size W8 w' ∧ (w'.cell? ⟨w.heap.size, 0, none⟩ = some (.int .i64 1) ∧ w'.cell? ⟨w.heap.size, 1, none⟩ = some (.int .i64 0) ∧ w'.cell? ⟨w.heap.size, 2, none⟩ = some (.int .i64 2) ∧ w'.cell? ⟨w.heap.size, 3, none⟩ = some (.int .i64 0) ∧ w'.cell? ⟨w.heap.size, 4, none⟩ = some (.int .i64 0)) ∧ (w'.cell? ⟨gd, 9, none⟩ = some (.int .i64 1) ∧ w'.cell? ⟨gd, 10, none⟩ = some (.int .i64 0) ∧ w'.cell? ⟨gd, 11, none⟩ = some (.int .i64 2) ∧ w'.cell? ⟨gd, 12, none⟩ = some (.int .i64 0) ∧ w'.cell? ⟨gd, 13, none⟩ = some (.int .i64 0) ∧ w'.cell? ⟨gd, 14, none⟩ = some (.bool false) ∧ w'.cell? ⟨gd, 15, none⟩ = some (.bool true) ∧ w'.cell? ⟨gd, 16, none⟩ = some (.int .i64 10) ∧ w'.cell? ⟨gd, 17, none⟩ = some (.int .i64 14)) ∧ (w'.cell? ⟨gx, 0, none⟩ = some (.int .i64 1) ∧ w'.cell? ⟨gx, 1, none⟩ = some (.int .i64 0) ∧ w'.cell? ⟨gx, 2, none⟩ = some (.int .i64 2) ∧ w'.cell? ⟨gx, 3, none⟩ = some (.int .i64 0) ∧ w'.cell? ⟨gx, 4, none⟩ = some (.int .i64 0) ∧ w'.cell? ⟨gx, 5, none⟩ = some (.bool false) ∧ w'.cell? ⟨gx, 6, none⟩ = some (.bool true) ∧ w'.cell? ⟨gx, 7, none⟩ = some (.int .i64 10) ∧ w'.cell? ⟨gx, 8, none⟩ = some (.int .i64 14)))) := fun w' h => by
    have cc := fun b o => h.cell (p := ⟨b, o, none⟩)
    have e := fun b o v (hc : W8.cell? ⟨b, o, none⟩ = some v) => (cc b o (World.block_lt_of_cell? W8 _ hc)).trans hc
    exact ⟨h, ⟨e _ _ _ (ha 0), e _ _ _ (ha 1), e _ _ _ (ha 2), e _ _ _ (ha 3), e _ _ _ (ha 4)⟩, ⟨e _ _ _ d0, e _ _ _ d1, e _ _ _ d2, e _ _ _ d3, e _ _ _ d4, e _ _ _ d5, e _ _ _ d6, e _ _ _ d7, e _ _ _ d8⟩, ⟨e _ _ _ x0, e _ _ _ x1, e _ _ _ x2, e _ _ _ x3, e _ _ _ x4, e _ _ _ x5, e _ _ _ x6, e _ _ _ x7, e _ _ _ x8⟩⟩
  clear ha d0 d1 d2 d3 d4 d5 d6 d7 d8 x0 x1 x2 x3 x4 x5 x6 x7 x8 HD HXX HA
  have ke := fun W => eql_dut ⟨awA, false, true, 10, 14⟩ ⟨awA, false, true, 10, 14⟩ W
  have hE : eqD ⟨awA, false, true, 10, 14⟩ ⟨awA, false, true, 10, 14⟩ = true := decide_eq_true rfl
  rw [hE] at ke
  replace ke : ∀ W, (binOp .eql 45 (.agg #[.int .i64 1, .int .i64 0, .int .i64 2, .int .i64 0, .int .i64 0, .bool false, .bool true, .int .i64 10, .int .i64 14]) (.agg #[.int .i64 1, .int .i64 0, .int .i64 2, .int .i64 0, .int .i64 0, .bool false, .bool true, .int .i64 10, .int .i64 14])).run Try.prog W = .ok (.bool true) W := ke
  clear hE
  have kz := HK.out W8 (Below.refl _ _)
  have HT2 : Hid (∀ w', Below W8.heap.size W8 w' → PrS w' AT 2 [(0, 10), (20, -1)]) := fun w' h => HT.out.keep h
  have HL2 : Hid (∀ w', Below W8.heap.size W8 w' → ChgS w' (some ⟨w.heap.size + 1 + 1 + 1, 0, none⟩) 2 awL) := fun w' h => HL.out.keep h
  have HB9 : Below W8.heap.size W8 (W8.alloc (.cells #[.int .i64 0, .int .i64 10, .int .i64 20, .int .i64 (-1)] 42)).drew := (ball W8 _).drew
  have cE := aw_eq AT cT' (W8.alloc (.cells #[.int .i64 0, .int .i64 10, .int .i64 20, .int .i64 (-1)] 42)).drew W8.heap.size 2 (HT2.out _ HB9) ((sls_box prE 2 prE_len W8 42 [(0, 10), (20, -1)] (by decide)).keep ((Below.refl _ _).drew))
  have HBt : Hid (∀ w'', Below (W8.alloc (.cells #[.int .i64 0, .int .i64 10, .int .i64 20, .int .i64 (-1)] 42)).drew.heap.size (W8.alloc (.cells #[.int .i64 0, .int .i64 10, .int .i64 20, .int .i64 (-1)] 42)).drew w'' → Below W8.heap.size W8 w'') := fun w'' k => bthen HB9 k
  replace HB9 := Lib.hid HB9
  replace cE := Lib.hid cE
  clear HT HL HT2
  go_wp2_with fail
  go_region_held3 (fun w' => Below W8.heap.size W8 w' ∧ (w'.cell? ⟨w.heap.size, 0, none⟩ = some (.int .i64 1) ∧ w'.cell? ⟨w.heap.size, 1, none⟩ = some (.int .i64 0) ∧ w'.cell? ⟨w.heap.size, 2, none⟩ = some (.int .i64 2) ∧ w'.cell? ⟨w.heap.size, 3, none⟩ = some (.int .i64 0) ∧ w'.cell? ⟨w.heap.size, 4, none⟩ = some (.int .i64 0)) ∧ (w'.cell? ⟨gd, 9, none⟩ = some (.int .i64 1) ∧ w'.cell? ⟨gd, 10, none⟩ = some (.int .i64 0) ∧ w'.cell? ⟨gd, 11, none⟩ = some (.int .i64 2) ∧ w'.cell? ⟨gd, 12, none⟩ = some (.int .i64 0) ∧ w'.cell? ⟨gd, 13, none⟩ = some (.int .i64 0) ∧ w'.cell? ⟨gd, 14, none⟩ = some (.bool false) ∧ w'.cell? ⟨gd, 15, none⟩ = some (.bool true) ∧ w'.cell? ⟨gd, 16, none⟩ = some (.int .i64 10) ∧ w'.cell? ⟨gd, 17, none⟩ = some (.int .i64 14)) ∧ (w'.cell? ⟨gx, 0, none⟩ = some (.int .i64 1) ∧ w'.cell? ⟨gx, 1, none⟩ = some (.int .i64 0) ∧ w'.cell? ⟨gx, 2, none⟩ = some (.int .i64 2) ∧ w'.cell? ⟨gx, 3, none⟩ = some (.int .i64 0) ∧ w'.cell? ⟨gx, 4, none⟩ = some (.int .i64 0) ∧ w'.cell? ⟨gx, 5, none⟩ = some (.bool false) ∧ w'.cell? ⟨gx, 6, none⟩ = some (.bool true) ∧ w'.cell? ⟨gx, 7, none⟩ = some (.int .i64 10) ∧ w'.cell? ⟨gx, 8, none⟩ = some (.int .i64 14)))
    (first
      | exact HK.out _ ((Below.refl _ _).drew)
      | exact HK.out _ HB9.out
      | exact HK.out _ (HBt.out _ (by assumption))
      | exact HK.out _ (by assumption))
    (first
      | (go_at_call 19; refine cE.out.mono ?_; rintro r wf ⟨rfl, hgw⟩)
      | (go_at_call 21; refine (aw_until _ _ _ (HL2.out _ (And.left (by assumption)))).mono ?_; rintro r wf ⟨rfl, rfl⟩))
  all_goals
    go_wp2
    go_ret
    exact ⟨rfl, bthen hbw.out (And.left (by assumption))⟩
end Sw
end Go.Proofs.Ytnkgmpmedkegbaa
