/- The law Order. -/
import Derived.Test.YtkfipbelhlcddaaGreatTbW
import Derived.Test.YtkfipbelhlcddaaGreatMr
import Derived.Test.YtkfipbelhlcddaaGreatMb
import Derived.Test.YtkfipbelhlcddaaGreatMw
import Derived.Test.YtkfipbelhlcddaaGreatTaJs
set_option linter.unusedVariables false
set_option linter.unusedSimpArgs false
namespace Go.Proofs.YtkfipbelhlcddaaGreat
open Go Go.RowKit Go.Sort Go.Shelf Go.Maps
namespace Tx
open Sw Mm Pl
theorem Stb.tab (v : TabV) (t : Tab) : Stb (fun w => TabOwn w v t) := ⟨fun x hb => x.keep hb, fun x hB _ h2 hg => x.put hB h2 hg⟩
set_option maxRecDepth 100000 in
set_option maxHeartbeats 16000000 in
theorem order_any (num : Int) (A : Option Addr) (n c : Nat) (l : List TCl) (B : Option Addr) (nf cf : Nat) (f : List Int) (kd ct sl wt : Int) (w : World) (n0 : 0 ≤ num) (n1 : num ≤ 255) (k0 : 0 ≤ kd) (k1 : kd ≤ 255) (c0 : 0 ≤ ct) (c1 : ct ≤ 255) (s0 : 0 ≤ sl) (s1 : sl ≤ 255) (w0 : 0 ≤ wt) (w1 : wt ≤ 255) (hl : TclS w A n l) (hf : IntS w B nf f) : Calls Tryz.prog 8 #[.int .u8 num, .slice A n c, .slice B nf cf, .int .u8 kd, .int .u8 ct, .int .u8 sl, .int .u8 wt] w fun r w' => r = .returned (.bool true) ∧ Below w.heap.size w w' := by
  have HM := Lib.hid (Mem.start w)
  obtain ⟨F0, hFs, hF⟩ : ∃ F : World → Prop, Stb F ∧ Hid (F w) := ⟨_, Stb.true, trivial⟩
  have uE := Tryz.underlying27
  have uT := Tryz.underlying29
  have uM := Tryz.underlying25
  have cAw := fun W => awake_any W
  have cO1 : ∀ W, Calls Tryz.prog 22 #[.int .i64 1, .slice none 0 0] W (OthPost 1 [] W) := fun W => others_any 1 none 0 0 [] W Sls.nil (by simp)
  have cO2 : ∀ W, Calls Tryz.prog 22 #[.int .i64 2, .slice none 0 0] W (OthPost 2 [] W) := fun W => others_any 2 none 0 0 [] W Sls.nil (by simp)
  have cTw : n ≤ 20 → ∀ W, Below w.heap.size w W → Calls Tryz.prog 21 #[.int .u8 num, .slice A n c] W (TwoPost num l W) := fun hn W hb => two_any num A n c l W n0 n1 (hl.keep hb) hn
  unfold TwoPost at cTw
  unfold OthPost at cO1 cO2
  obtain ⟨hFA, _⟩ := full_two (t := othN 1 []) (k := 0) (e := twoA num l) (num := num) (L := twoC num l) (twoA_ok l n0 n1) (oth_ok (node := 1) (by decide) (by decide) []) (by omega) rfl (fun c hc => ((two_ok num l).each c hc).2) (twoC_len num l)
  obtain ⟨hFB, _⟩ := full_two (t := othN 2 []) (k := 0) (e := twoB num l) (num := num) (L := (twoC num l).map (mirr 1)) (twoB_ok l n0 n1) (oth_ok (node := 2) (by decide) (by decide) []) (by omega) rfl (fun c hc => by obtain ⟨x, hx, rfl⟩ := List.mem_map.1 hc; exact ((two_ok num l).each x hx).2) (by rw [List.length_map]; exact twoC_len num l)
  have hao : (twoA num l).opn = false := rfl
  have hbo : (twoB num l).opn = false := rfl
  have hak : (twoA num l).known = false := rfl
  generalize twoA num l = a at *
  generalize twoB num l = b at *
  generalize othN 1 [] = TA at *
  generalize othN 2 [] = TB at *
  have wk : IntKind.i64.wrap kd = kd := IntWalk.i64_in _ (by omega)
  have wk1 : kd.tmod 6 = kd % 6 := by rw [Int.tmod_eq_emod_of_nonneg (by omega)]
  have wk2 : IntKind.i64.wrap (kd % 6) = kd % 6 := IntWalk.i64_in _ (by omega)
  have wk3 : IntKind.i64.wrap (1 + kd % 6) = 1 + kd % 6 := IntWalk.i64_in _ (by omega)
  have wc1 : IntKind.i64.wrap ct = ct := IntWalk.i64_in _ (by omega)
  have wc2 : ct.tmod 3 = ct % 3 := by rw [Int.tmod_eq_emod_of_nonneg (by omega)]
  have wc3 : IntKind.i64.wrap (ct % 3) = ct % 3 := IntWalk.i64_in _ (by omega)
  have wc4 : IntKind.i64.wrap (1 + ct % 3) = 1 + ct % 3 := IntWalk.i64_in _ (by omega)
  have ws : IntKind.i64.wrap sl = sl := IntWalk.i64_in _ (by omega)
  have ww : IntKind.i64.wrap wt = wt := IntWalk.i64_in _ (by omega)
  have ws2 : IntKind.i64.wrap (sl + wt) = sl + wt := IntWalk.i64_in _ (by omega)
  have ww2 : IntKind.i64.wrap (wt + 1) = wt + 1 := IntWalk.i64_in _ (by omega)
  replace cAw := Lib.hid cAw
  replace cO1 := Lib.hid cO1
  replace cO2 := Lib.hid cO2
  replace cTw := Lib.hid cTw
  replace hl := Lib.hid hl
  replace hf := Lib.hid hf
  replace hFA := Lib.hid hFA
  replace hFB := Lib.hid hFB
  replace hao := Lib.hid hao
  replace hbo := Lib.hid hbo
  replace hak := Lib.hid hak
  replace uE := Lib.hid uE
  replace uT := Lib.hid uT
  replace uM := Lib.hid uM
  go_enter Tryz.func8, Tryz.ntmps8
  have mk1 : Unit := ()
  go_upto_region 3 with (first | go_skip | (go_at_call 11; clear mk1; refine (cAw.out _).mono ?_; rintro r w3 ⟨rfl, hb_⟩; replace HM := Lib.hid (HM.out.keep hb_); replace hF := Lib.hid (hFs.keep hF.out hb_); clear hb_) | fail)
  by_cases hn : (20 : Int) < (n : Int)
  case pos =>
    have hn2 : 20 < n := by omega
    go_wp2_with fail
    try simp only [Exit.inBlock, Exit.then]
    go_ret
    exact ⟨by first | rfl | trivial, HM.out.below⟩
  have hn2 : ¬ 20 < n := by omega
  have hn3 : n ≤ 20 := by omega
  have hn4 : (n : Int) ≤ 20 := by omega
  have hn5 : decide ((20 : Int) < (n : Int)) = false := decide_eq_false hn
  by_cases hnf : (20 : Int) < (nf : Int)
  case pos =>
    have hnf2 : 20 < nf := by omega
    go_wp2_with fail
    try simp only [Exit.inBlock, Exit.then]
    go_ret
    exact ⟨by first | rfl | trivial, HM.out.below⟩
  have hnf2 : ¬ 20 < nf := by omega
  have hnf3 : nf ≤ 20 := by omega
  have hnf4 : (nf : Int) ≤ 20 := by omega
  have hnf5 : decide ((20 : Int) < (nf : Int)) = false := decide_eq_false hnf
  have hn20 : n ≤ 20 := by omega
  have mk2 : Unit := ()
  have mk3 : Unit := ()
  have mk4 : Unit := ()
  go_upto_region 6 with (first | go_skip | (go_at_call 21; clear mk2; refine (cTw.out hn20 _ HM.out.below).mono ?_; rintro r w3 ⟨v1, v2, rfl, hE, hE2, hb_⟩; replace HM := Lib.hid (HM.out.keep hb_); replace hF := Lib.hid (hFs.keep hF.out hb_); clear hb_; obtain ⟨F1, hFs2, hF2, hU, hNw⟩ := stb_add hFs hF (Stb.ed v1 _) hE; clear hFs hF; have gA := Lib.hid hNw; clear hNw hU; have hFs := hFs2; have hF := hF2; clear hFs2 hF2 hE; obtain ⟨F2, hFs2, hF2, hU, hNw⟩ := stb_add hFs hF (Stb.ed v2 _) hE2; clear hFs hF; replace gA := Lib.hid (fun W h => gA.out W (hU W h)); have gB := Lib.hid hNw; clear hNw hU; have hFs := hFs2; have hF := hF2; clear hFs2 hF2 hE2) | (clear mk3; refine wpList_allocN HM rfl 27 rfl edInfo ?_; clear HM; intro g15 w1 HM hG hN9; replace hF := Lib.hid (hFs.keep hF.out hG.out); clear hG hN9) | (clear mk4; refine wpList_allocN HM rfl 27 rfl edInfo ?_; clear HM; intro g16 w1 HM hG hN9; replace hF := Lib.hid (hFs.keep hF.out hG.out); clear hG hN9) | (refine wpList_storeF 1 HM rfl _ _ _ rfl _ rfl rfl _ rfl (by exact zend) (by rfl) (by rfl) ?_; have hBq := HM.out.at_ 1 rfl; clear HM; intro w4 HM hG4; simp only [List.set] at HM; replace hF := Lib.hid (hFs.put hF.out hBq (by decide) (by decide) hG4.out); clear hBq hG4) | (refine wpList_storeF 0 HM rfl _ _ _ rfl _ rfl rfl _ rfl (by exact zend) (by rfl) (by rfl) ?_; have hBq := HM.out.at_ 0 rfl; clear HM; intro w4 HM hG4; simp only [List.set] at HM; replace hF := Lib.hid (hFs.put hF.out hBq (by decide) (by decide) hG4.out); clear hBq hG4) | fail)
  have mk5 : Unit := ()
  have mk6 : Unit := ()
  have mk7 : Unit := ()
  have mk8 : Unit := ()
  go_upto_region 7 with (first | go_skip | (go_at_call 22; clear mk5; refine (cO1.out _).mono ?_; rintro r w3 ⟨vA, rfl, hT, hb_⟩; replace HM := Lib.hid (HM.out.keep hb_); replace hF := Lib.hid (hFs.keep hF.out hb_); clear hb_; obtain ⟨F3, hFs2, hF2, hU, hNw⟩ := stb_add hFs hF (Stb.tab vA _) hT; clear hFs hF; replace gA := Lib.hid (fun W h => gA.out W (hU W h)); replace gB := Lib.hid (fun W h => gB.out W (hU W h)); have gTA := Lib.hid hNw; clear hNw hU; have hFs := hFs2; have hF := hF2; clear hFs2 hF2 hT) | (go_at_call 22; clear mk6; refine (cO2.out _).mono ?_; rintro r w3 ⟨vB, rfl, hT, hb_⟩; replace HM := Lib.hid (HM.out.keep hb_); replace hF := Lib.hid (hFs.keep hF.out hb_); clear hb_; obtain ⟨F4, hFs2, hF2, hU, hNw⟩ := stb_add hFs hF (Stb.tab vB _) hT; clear hFs hF; replace gA := Lib.hid (fun W h => gA.out W (hU W h)); replace gB := Lib.hid (fun W h => gB.out W (hU W h)); replace gTA := Lib.hid (fun W h => gTA.out W (hU W h)); have gTB := Lib.hid hNw; clear hNw hU; have hFs := hFs2; have hF := hF2; clear hFs2 hF2 hT) | (clear mk7; refine wpList_allocN HM rfl 29 rfl tabInfo ?_; clear HM; intro g17 w1 HM hG hN9; replace hF := Lib.hid (hFs.keep hF.out hG.out); clear hG hN9) | (clear mk8; refine wpList_allocN HM rfl 29 rfl tabInfo ?_; clear HM; intro g18 w1 HM hG hN9; replace hF := Lib.hid (hFs.keep hF.out hG.out); clear hG hN9) | (refine wpList_storeF 1 HM rfl _ _ _ rfl _ rfl rfl _ rfl (by exact ztab) (by rfl) (by rfl) ?_; have hBq := HM.out.at_ 1 rfl; clear HM; intro w4 HM hG4; simp only [List.set] at HM; replace hF := Lib.hid (hFs.put hF.out hBq (by decide) (by decide) hG4.out); clear hBq hG4) | (refine wpList_storeF 0 HM rfl _ _ _ rfl _ rfl rfl _ rfl (by exact ztab) (by rfl) (by rfl) ?_; have hBq := HM.out.at_ 0 rfl; clear HM; intro w4 HM hG4; simp only [List.set] at HM; replace hF := Lib.hid (hFs.put hF.out hBq (by decide) (by decide) hG4.out); clear hBq hG4) | fail)
  go_upto_region 8 with fail
  have K1 : 1 ≤ 1 + kd % 6 := by omega
  have K6 : 1 + kd % 6 ≤ 6 := by omega
  have C1 : 1 ≤ 1 + ct % 3 := by omega
  have C3 : 1 + ct % 3 ≤ 8 := by omega
  generalize 1 + kd % 6 = K at *
  generalize 1 + ct % 3 = N0 at *
  clear wk wk1 wk2 wk3 wc1 wc2 wc3 wc4
  obtain ⟨NN, hNN⟩ : ∃ NN : Int, NN = if 3 < K then 0 else N0 := ⟨_, rfl⟩
  have hcn : countsN K NN = true := by
    unfold countsN
    rw [hNN]
    split
    · rw [if_neg (by omega)]; simp; omega
    · rw [if_pos (by omega)]; rfl
  replace hNN := Lib.hid hNN
  replace hcn := Lib.hid hcn
  go_upto_if 72 with fail
  go_cut [20] (fun s wx => s = .int .i64 NN ∧ wx = w4)
  case first =>
    by_cases h3 : 3 < K
    · have e1 : NN = 0 := by rw [hNN.out, if_pos h3]
      go_wp2_with fail
      go_meet
      exact ⟨by rw [e1], rfl⟩
    · have e1 : NN = N0 := by rw [hNN.out, if_neg h3]
      go_wp2_with fail
      go_meet
      exact ⟨by rw [e1], rfl⟩
  case rest =>
    obtain ⟨rfl, rfl⟩ := hcut
    clear hNN
    have cA1 := fun vx W (hb : Below w.heap.size w W) (hx : EdOwn W vx a) (ht : TabOwn W vA TA) => ask_any a TA vx vA B nf cf f K NN sl W hx.is ht.is (hf.out.keep hb)
    have hC14 := askC_codes (f := f) hFA.out hao.out K1 K6 s0 (by omega) hcn.out
    have hOr := fun h => ord_ok (f := f) (wt := wt) hFA.out hFB.out hao.out hbo.out hak.out K1 K6 s0 s1 w0 hcn.out h
    generalize hCe : askC a TA f K NN sl = CC at *
    replace cA1 := Lib.hid cA1
    replace hOr := Lib.hid hOr
    replace hCe := Lib.hid hCe
    have mk9 : Unit := ()
    have mk10 : Unit := ()
    have mk11 : Unit := ()
    go_upto_region 11 with (first | go_skip | (refine wpList_loadG 3 HM (by rfl) _ _ rfl _ rfl rfl _ uE.out rfl (by exact zend) ?_) | (refine wpList_loadG 1 HM (by rfl) _ _ rfl _ rfl rfl _ uT.out rfl (by exact ztab) ?_) | (go_at_call 24; clear mk9; refine (cA1.out v1 _ HM.out.below (gA.out _ hF.out) (gTA.out _ hF.out)).mono ?_; rintro r w3 ⟨v3, vm1, rfl, hE, hM, hb_⟩; replace HM := Lib.hid (HM.out.keep hb_); replace hF := Lib.hid (hFs.keep hF.out hb_); clear hb_; obtain ⟨F5, hFs2, hF2, hU, hNw⟩ := stb_add hFs hF (Stb.ed v3 _) hE; clear hFs hF; replace gA := Lib.hid (fun W h => gA.out W (hU W h)); replace gB := Lib.hid (fun W h => gB.out W (hU W h)); replace gTA := Lib.hid (fun W h => gTA.out W (hU W h)); replace gTB := Lib.hid (fun W h => gTB.out W (hU W h)); have gX := Lib.hid hNw; clear hNw hU; have hFs := hFs2; have hF := hF2; clear hFs2 hF2 hE; obtain ⟨F6, hFs2, hF2, hU, hNw⟩ := stb_add hFs hF (Stb.sub vm1 _) hM; clear hFs hF; replace gA := Lib.hid (fun W h => gA.out W (hU W h)); replace gB := Lib.hid (fun W h => gB.out W (hU W h)); replace gTA := Lib.hid (fun W h => gTA.out W (hU W h)); replace gTB := Lib.hid (fun W h => gTB.out W (hU W h)); replace gX := Lib.hid (fun W h => gX.out W (hU W h)); have gM := Lib.hid hNw; clear hNw hU; have hFs := hFs2; have hF := hF2; clear hFs2 hF2 hM) | (clear mk10; refine wpList_allocN HM rfl 27 rfl edInfo ?_; clear HM; intro g21 w1 HM hG hN9; replace hF := Lib.hid (hFs.keep hF.out hG.out); clear hG hN9) | (clear mk11; refine wpList_allocN HM rfl 25 rfl msgInfo ?_; clear HM; intro g22 w1 HM hG hN9; replace hF := Lib.hid (hFs.keep hF.out hG.out); clear hG hN9) | (refine wpList_storeF 1 HM rfl _ _ _ rfl _ rfl rfl _ rfl (by exact zend) (by rfl) (by rfl) ?_; have hBq := HM.out.at_ 1 rfl; clear HM; intro w4 HM hG4; simp only [List.set] at HM; replace hF := Lib.hid (hFs.put hF.out hBq (by decide) (by decide) hG4.out); clear hBq hG4) | (refine wpList_storeF 0 HM rfl _ _ _ rfl _ rfl rfl _ rfl (by exact zmsg) (by rfl) (by rfl) ?_; have hBq := HM.out.at_ 0 rfl; clear HM; intro w4 HM hG4; simp only [List.set] at HM; replace hF := Lib.hid (hFs.put hF.out hBq (by decide) (by decide) hG4.out); clear hBq hG4) | fail)
    by_cases h0 : CC = 0
    case neg =>
      have e14 : CC = 14 := by rcases hC14 with h | h; exact absurd h h0; exact h
      subst e14
      go_wp2_with fail
      try simp only [Exit.inBlock, Exit.then]
      go_ret
      exact ⟨by first | rfl | trivial, HM.out.below⟩
    subst h0
    clear hC14
    have O := hOr.out rfl
    clear hOr
    have hM0 := ((askC_iff hFA.out).1 hCe.out)
    have hMo := (ask_msg hFA.out hM0).1
    rw [← O.e2] at hMo
    have q2 := O.c2
    have q4 := O.c4
    have r4 := O.r4
    have q5 := O.c5
    have b7 := O.b7
    have e7 := O.e7
    have b8 := O.b8
    rw [← O.e1] at q2 q4 r4 q5 b7 e7 b8
    rw [← O.e2] at q5
    have q3 := O.c3
    have e3 := O.e3
    have q6 := O.c6
    have hm0 := hMo.num0
    have hm1 := hMo.num
    clear O hMo hM0
    generalize askE a TA f K NN sl = X at *
    generalize askN a TA f K NN sl = M at *
    have cA2 := fun W (hb : Below w.heap.size w W) (hx : EdOwn W v3 X) (ht : TabOwn W vA TA) => ask_any X TA v3 vA B nf cf f K NN sl W hx.is ht.is (hf.out.keep hb)
    rw [q2] at cA2
    generalize askE X TA f K NN sl = X2 at *
    generalize askN X TA f K NN sl = M2 at *
    have cA3 := fun W (hb : Below w.heap.size w W) (hx : EdOwn W v2 b) (ht : TabOwn W vB TB) => ask_any b TB v2 vB B nf cf f 4 0 0 W hx.is ht.is (hf.out.keep hb)
    rw [q3, e3] at cA3
    generalize askE b TB f 4 0 0 = X3 at *
    have cRc := fun vm W (hb : Below w.heap.size w W) (hx : EdOwn W v3 X) (ht : TabOwn W vA TA) (hm : MsgSub W vm ⟨4, false, b.number, 0, 0, [], []⟩) => receive_any X TA f ⟨4, false, b.number, 0, 0, [], []⟩ v3 vA vm B nf cf W hx.is ht.is (hf.out.keep hb) hm.is
    rw [q4, r4] at cRc
    generalize (recv X TA f ⟨4, false, b.number, 0, 0, [], []⟩).1 = X5 at *
    clear q2 q3 e3 q4 r4
    replace cA2 := Lib.hid cA2
    replace cA3 := Lib.hid cA3
    replace cRc := Lib.hid cRc
    replace q5 := Lib.hid q5
    replace q6 := Lib.hid q6
    replace b7 := Lib.hid b7
    replace e7 := Lib.hid e7
    replace b8 := Lib.hid b8
    have mk12 : Unit := ()
    have mk13 : Unit := ()
    have mk14 : Unit := ()
    go_upto_region 16 with (first | go_skip | (refine wpList_loadG 1 HM (by rfl) _ _ rfl _ rfl rfl _ uE.out rfl (by exact zend) ?_) | (refine wpList_loadG 3 HM (by rfl) _ _ rfl _ rfl rfl _ uT.out rfl (by exact ztab) ?_) | (go_at_call 24; clear mk12; refine (cA2.out _ HM.out.below (gX.out _ hF.out) (gTA.out _ hF.out)).mono ?_; rintro r w3 ⟨v4, vm4, rfl, hE, hM, hb_⟩; replace HM := Lib.hid (HM.out.keep hb_); replace hF := Lib.hid (hFs.keep hF.out hb_); clear hb_) | (clear mk13; refine wpList_allocN HM rfl 27 rfl edInfo ?_; clear HM; intro g24 w1 HM hG hN9; replace hF := Lib.hid (hFs.keep hF.out hG.out); clear hG hN9) | (clear mk14; refine wpList_allocN HM rfl 25 rfl msgInfo ?_; clear HM; intro g25 w1 HM hG hN9; replace hF := Lib.hid (hFs.keep hF.out hG.out); clear hG hN9) | (refine wpList_storeF 1 HM rfl _ _ _ rfl _ rfl rfl _ rfl (by exact zend) (by rfl) (by rfl) ?_; have hBq := HM.out.at_ 1 rfl; clear HM; intro w4 HM hG4; simp only [List.set] at HM; replace hF := Lib.hid (hFs.put hF.out hBq (by decide) (by decide) hG4.out); clear hBq hG4) | (refine wpList_storeF 0 HM rfl _ _ _ rfl _ rfl rfl _ rfl (by exact zmsg) (by rfl) (by rfl) ?_; have hBq := HM.out.at_ 0 rfl; clear HM; intro w4 HM hG4; simp only [List.set] at HM; replace hF := Lib.hid (hFs.put hF.out hBq (by decide) (by decide) hG4.out); clear hBq hG4) | fail)
    have mk15 : Unit := ()
    have mk16 : Unit := ()
    have mk17 : Unit := ()
    go_upto_region 17 with (first | go_skip | (refine wpList_loadG 6 HM (by rfl) _ _ rfl _ rfl rfl _ uE.out rfl (by exact zend) ?_) | (refine wpList_loadG 4 HM (by rfl) _ _ rfl _ rfl rfl _ uT.out rfl (by exact ztab) ?_) | (go_at_call 24; clear mk15; refine (cA3.out _ HM.out.below (gB.out _ hF.out) (gTB.out _ hF.out)).mono ?_; rintro r w3 ⟨v5, vm5, rfl, hE, hM, hb_⟩; replace HM := Lib.hid (HM.out.keep hb_); replace hF := Lib.hid (hFs.keep hF.out hb_); clear hb_; obtain ⟨F7, hFs2, hF2, hU, hNw⟩ := stb_add hFs hF (Stb.sub vm5 _) hM; clear hFs hF; replace gA := Lib.hid (fun W h => gA.out W (hU W h)); replace gB := Lib.hid (fun W h => gB.out W (hU W h)); replace gTA := Lib.hid (fun W h => gTA.out W (hU W h)); replace gTB := Lib.hid (fun W h => gTB.out W (hU W h)); replace gX := Lib.hid (fun W h => gX.out W (hU W h)); replace gM := Lib.hid (fun W h => gM.out W (hU W h)); have gO := Lib.hid hNw; clear hNw hU; have hFs := hFs2; have hF := hF2; clear hFs2 hF2 hM) | (clear mk16; refine wpList_allocN HM rfl 27 rfl edInfo ?_; clear HM; intro g27 w1 HM hG hN9; replace hF := Lib.hid (hFs.keep hF.out hG.out); clear hG hN9) | (clear mk17; refine wpList_allocN HM rfl 25 rfl msgInfo ?_; clear HM; intro g28 w1 HM hG hN9; replace hF := Lib.hid (hFs.keep hF.out hG.out); clear hG hN9) | (refine wpList_storeF 1 HM rfl _ _ _ rfl _ rfl rfl _ rfl (by exact zend) (by rfl) (by rfl) ?_; have hBq := HM.out.at_ 1 rfl; clear HM; intro w4 HM hG4; simp only [List.set] at HM; replace hF := Lib.hid (hFs.put hF.out hBq (by decide) (by decide) hG4.out); clear hBq hG4) | (refine wpList_storeF 0 HM rfl _ _ _ rfl _ rfl rfl _ rfl (by exact zmsg) (by rfl) (by rfl) ?_; have hBq := HM.out.at_ 0 rfl; clear HM; intro w4 HM hG4; simp only [List.set] at HM; replace hF := Lib.hid (hFs.put hF.out hBq (by decide) (by decide) hG4.out); clear hBq hG4) | fail)
    have mk18 : Unit := ()
    have mk19 : Unit := ()
    have mk20 : Unit := ()
    go_upto_region 18 with (first | go_skip | (refine wpList_loadG 5 HM (by rfl) _ _ rfl _ rfl rfl _ uE.out rfl (by exact zend) ?_) | (refine wpList_loadG 7 HM (by rfl) _ _ rfl _ rfl rfl _ uT.out rfl (by exact ztab) ?_) | (refine wpList_loadG 0 HM (by rfl) _ _ rfl _ rfl rfl _ uM.out rfl (by exact zmsg) ?_) | (go_at_call 15; clear mk18; refine (cRc.out vm5 _ HM.out.below (gX.out _ hF.out) (gTA.out _ hF.out) (gO.out _ hF.out)).mono ?_; rintro r w3 ⟨v6, vm6, rfl, hE, hM, hb_⟩; replace HM := Lib.hid (HM.out.keep hb_); replace hF := Lib.hid (hFs.keep hF.out hb_); clear hb_; obtain ⟨F8, hFs2, hF2, hU, hNw⟩ := stb_add hFs hF (Stb.sub vm6 _) hM; clear hFs hF; replace gA := Lib.hid (fun W h => gA.out W (hU W h)); replace gB := Lib.hid (fun W h => gB.out W (hU W h)); replace gTA := Lib.hid (fun W h => gTA.out W (hU W h)); replace gTB := Lib.hid (fun W h => gTB.out W (hU W h)); replace gX := Lib.hid (fun W h => gX.out W (hU W h)); replace gM := Lib.hid (fun W h => gM.out W (hU W h)); replace gO := Lib.hid (fun W h => gO.out W (hU W h)); have gR := Lib.hid hNw; clear hNw hU; have hFs := hFs2; have hF := hF2; clear hFs2 hF2 hM) | (clear mk19; refine wpList_allocN HM rfl 27 rfl edInfo ?_; clear HM; intro g30 w1 HM hG hN9; replace hF := Lib.hid (hFs.keep hF.out hG.out); clear hG hN9) | (clear mk20; refine wpList_allocN HM rfl 25 rfl msgInfo ?_; clear HM; intro g31 w1 HM hG hN9; replace hF := Lib.hid (hFs.keep hF.out hG.out); clear hG hN9) | (refine wpList_storeF 1 HM rfl _ _ _ rfl _ rfl rfl _ rfl (by exact zend) (by rfl) (by rfl) ?_; have hBq := HM.out.at_ 1 rfl; clear HM; intro w4 HM hG4; simp only [List.set] at HM; replace hF := Lib.hid (hFs.put hF.out hBq (by decide) (by decide) hG4.out); clear hBq hG4) | (refine wpList_storeF 0 HM rfl _ _ _ rfl _ rfl rfl _ rfl (by exact zmsg) (by rfl) (by rfl) ?_; have hBq := HM.out.at_ 0 rfl; clear HM; intro w4 HM hG4; simp only [List.set] at HM; replace hF := Lib.hid (hFs.put hF.out hBq (by decide) (by decide) hG4.out); clear hBq hG4) | fail)
    have kr := HM.out.cell 0 rfl 3
    change _ = some (Value.int .i64 3) at kr
    go_upto_region 20 with fail
    clear kr
    have mk21 : Unit := ()
    go_upto_region 21 with (first | go_skip | (refine wpList_loadG 0 HM (by rfl) _ _ rfl _ rfl rfl _ uM.out rfl (by exact zmsg) ?_) | (clear mk21; refine wpList_allocN HM rfl 25 rfl msgInfo ?_; clear HM; intro g33 w1 HM hG hN9; replace hF := Lib.hid (hFs.keep hF.out hG.out); clear hG hN9) | (refine wpList_storeF 0 HM rfl _ _ _ rfl _ rfl rfl _ rfl (by exact zmsg) (by rfl) (by rfl) ?_; have hBq := HM.out.at_ 0 rfl; clear HM; intro w4 HM hG4; simp only [List.set] at HM; replace hF := Lib.hid (hFs.put hF.out hBq (by decide) (by decide) hG4.out); clear hBq hG4) | fail)
    have z1 : IntKind.i64.wrap (M.number + 1) = M.number + 1 := IntWalk.i64_in _ (by omega)
    have z2 : (M.number + 1).tmod 256 = (M.number + 1) % 256 := by rw [Int.tmod_eq_emod_of_nonneg (by omega)]
    have z3 : IntKind.i64.wrap ((M.number + 1) % 256) = (M.number + 1) % 256 := IntWalk.i64_in _ (by omega)
    unfold msgA at HM
    replace hF := Lib.hid (hFs.keep hF.out ((Below.refl _ _).drew))
    replace HM := Lib.hid (HM.out.keep ((Below.refl _ _).drew))
    have HMs := Lib.hid HM.out
    replace HMs := Lib.hid (HMs.out.less 0)
    simp only [List.eraseIdx] at HMs
    refine wp_region_plan (fun w' => Mem _ w' _) 8 [(0, true), (1, true), (2, true), (3, true), (4, true), (5, true), (6, true), (7, false)] (by kernel_rfl) (by kernel_rfl) HMs.out ?_
    generalize w4.drew = wd at *
    repeat (first | (refine plPure rfl rfl (by intro w_ hSw; go_simp; first | done | exact rfl) ?_; try simp only [Act.put, List.setIfInBounds_toArray, List.set_cons_zero, List.set_cons_succ, List.getElem_toArray, List.getElem_cons_succ, List.getElem_cons_zero]) | (refine plTakeL (by rfl) (yields_memc rfl _ _ rfl 6 (fun w_ hSw => hSw) rfl _ rfl _ rfl _ (by first | exact Tryz.underlying3 | exact Tryz.underlying4 | exact Tryz.underlying23 | exact Tryz.underlying22) (by rfl)) ?_; try simp only [Act.put, List.setIfInBounds_toArray, List.set_cons_zero, List.set_cons_succ, List.getElem_toArray, List.getElem_cons_succ, List.getElem_cons_zero]))
    clear HMs
    refine plStepL rfl rfl fun K hK => ?_
    go_wp2_with (first | (refine wpList_storeM 0 HM rfl _ _ _ rfl _ _ rfl rfl _ (by conv => {lhs; whnf}) (by exact zone_i) (by rfl) (Nat.le_of_ble_eq_true (by rfl)) _ (by simp only [setL, List.set, Value.cells]; exact rfl) ?_; have hBq := HM.out.at_ 0 rfl; clear HM; intro w4 HM hG4; simp only [List.set] at HM; replace hF := Lib.hid (hFs.put hF.out hBq (by decide) (by decide) hG4.out); clear hBq hG4) | fail)
    refine hK.out _ _ (HM.out.less 0) fun hS_ => ?_
    clear hK K hS_
    try simp only [Act.put, List.setIfInBounds_toArray, List.set_cons_zero, List.set_cons_succ, List.getElem_toArray, List.getElem_cons_succ, List.getElem_cons_zero]
    refine plDone ?_
    simp only [List.drop]
    go_upto_region 22 with (first | (refine wpList_storeM 0 HM rfl _ _ _ rfl _ _ rfl rfl _ (by conv => {lhs; whnf}) (by exact zone_i) (by rfl) (Nat.le_of_ble_eq_true (by rfl)) _ (by simp only [setL, List.set, Value.cells]; exact rfl) ?_; have hBq := HM.out.at_ 0 rfl; clear HM; intro w4 HM hG4; simp only [List.set] at HM; replace hF := Lib.hid (hFs.put hF.out hBq (by decide) (by decide) hG4.out); clear hBq hG4) | fail)
    have cF1 := fun W (hx : EdOwn W v3 X) (hq : MsgIs W vm6 ⟨M.kind, true, (M.number + 1) % 256, 3, 0, [], []⟩) => finish_any X ⟨M.kind, true, (M.number + 1) % 256, 3, 0, [], []⟩ v3 vm6 W hx.is hq
    rw [q5.out _ rfl] at cF1
    generalize finN X ⟨M.kind, true, (M.number + 1) % 256, 3, 0, [], []⟩ = X6 at *
    have cF2 := fun W (hx : EdOwn W v1 a) (hq : MsgIs W vm6 ⟨4, true, b.number, 3, 0, [], []⟩) => finish_any a ⟨4, true, b.number, 3, 0, [], []⟩ v1 vm6 W hx.is hq
    rw [q6.out _] at cF2
    generalize finN a ⟨4, true, b.number, 3, 0, [], []⟩ = X7 at *
    have hfar : ∀ W, MsgSub W vm6 ⟨4, true, b.number, 3, 0, [], []⟩ → MsgIs W vm6 ⟨M.kind, true, (M.number + 1) % 256, 3, 0, [], []⟩ := fun W h => ⟨h.is.spots, h.is.old, h.is.sc, h.is.oc⟩
    have cE1 := fun W (hx : EdOwn W v3 X) => expire_own X v3 (sl + wt) wt W hx (by omega) (by omega)
    rw [b7.out, e7.out] at cE1
    have cE2 := fun W (hx : EdOwn W v3 X) => expire_own X v3 (sl + wt) (wt + 1) W hx (by omega) (by omega)
    rw [b8.out] at cE2
    generalize expN X (sl + wt) (wt + 1) = X8 at *
    have cQ1 := fun vy W (hx : EdIs W vy a) (hy : EdIs W v1 a) => sameE_any a a vy v1 W hx hy
    have cQ2 := fun vz W (hx : EdIs W vz X) (hy : EdIs W v3 X) => sameE_any X X vz v3 W hx hy
    have cQ3 := fun vz W (hx : MsgIs W vz M) (hy : MsgIs W vm1 M) => sameM_any M M vz vm1 W hx hy
    rw [decide_eq_true rfl] at cQ1 cQ2 cQ3
    clear b7 e7 b8 q5 q6 z1 z2 z3
    replace cF1 := Lib.hid cF1
    replace cF2 := Lib.hid cF2
    replace hfar := Lib.hid hfar
    replace cE1 := Lib.hid cE1
    replace cE2 := Lib.hid cE2
    replace cQ1 := Lib.hid cQ1
    replace cQ2 := Lib.hid cQ2
    replace cQ3 := Lib.hid cQ3
    have mk22 : Unit := ()
    have mk23 : Unit := ()
    go_upto_region 25 with (first | go_skip | (refine wpList_loadG 8 HM (by rfl) _ _ rfl _ rfl rfl _ uE.out rfl (by exact zend) ?_) | (refine wpList_loadG 0 HM (by rfl) _ _ rfl _ rfl rfl _ uM.out rfl (by exact zmsg) ?_) | (go_at_call 19; clear mk22; refine (cF1.out _ (gX.out _ hF.out) (hfar.out _ (gR.out _ hF.out))).mono ?_; rintro r w3 ⟨v8, rfl, hE, hb_⟩; replace HM := Lib.hid (HM.out.keep hb_); replace hF := Lib.hid (hFs.keep hF.out hb_); clear hb_) | (clear mk23; refine wpList_allocN HM rfl 27 rfl edInfo ?_; clear HM; intro g34 w1 HM hG hN9; replace hF := Lib.hid (hFs.keep hF.out hG.out); clear hG hN9) | (refine wpList_storeF 0 HM rfl _ _ _ rfl _ rfl rfl _ rfl (by exact zend) (by rfl) (by rfl) ?_; have hBq := HM.out.at_ 0 rfl; clear HM; intro w4 HM hG4; simp only [List.set] at HM; replace hF := Lib.hid (hFs.put hF.out hBq (by decide) (by decide) hG4.out); clear hBq hG4) | fail)
    have mk24 : Unit := ()
    have mk25 : Unit := ()
    go_upto_region 28 with (first | go_skip | (refine wpList_loadG 13 HM (by rfl) _ _ rfl _ rfl rfl _ uE.out rfl (by exact zend) ?_) | (refine wpList_loadG 2 HM (by rfl) _ _ rfl _ rfl rfl _ uM.out rfl (by exact zmsg) ?_) | (go_at_call 19; clear mk24; refine (cF2.out _ (gA.out _ hF.out) (gR.out _ hF.out).is).mono ?_; rintro r w3 ⟨v9, rfl, hE, hb_⟩; replace HM := Lib.hid (HM.out.keep hb_); replace hF := Lib.hid (hFs.keep hF.out hb_); clear hb_) | (clear mk25; refine wpList_allocN HM rfl 27 rfl edInfo ?_; clear HM; intro g36 w1 HM hG hN9; replace hF := Lib.hid (hFs.keep hF.out hG.out); clear hG hN9) | (refine wpList_storeF 0 HM rfl _ _ _ rfl _ rfl rfl _ rfl (by exact zend) (by rfl) (by rfl) ?_; have hBq := HM.out.at_ 0 rfl; clear HM; intro w4 HM hG4; simp only [List.set] at HM; replace hF := Lib.hid (hFs.put hF.out hBq (by decide) (by decide) hG4.out); clear hBq hG4) | fail)
    have mk26 : Unit := ()
    have mk27 : Unit := ()
    go_upto_region 29 with (first | go_skip | (refine wpList_loadG 10 HM (by rfl) _ _ rfl _ rfl rfl _ uE.out rfl (by exact zend) ?_) | (go_at_call 29; clear mk26; refine (cE1.out _ (gX.out _ hF.out)).mono ?_; rintro r w3 ⟨vy, rfl, hE, hb_⟩; replace HM := Lib.hid (HM.out.keep hb_); replace hF := Lib.hid (hFs.keep hF.out hb_); clear hb_; obtain ⟨F9, hFs2, hF2, hU, hNw⟩ := stb_add hFs hF (Stb.ed vy _) hE; clear hFs hF; replace gA := Lib.hid (fun W h => gA.out W (hU W h)); replace gB := Lib.hid (fun W h => gB.out W (hU W h)); replace gTA := Lib.hid (fun W h => gTA.out W (hU W h)); replace gTB := Lib.hid (fun W h => gTB.out W (hU W h)); replace gX := Lib.hid (fun W h => gX.out W (hU W h)); replace gM := Lib.hid (fun W h => gM.out W (hU W h)); replace gO := Lib.hid (fun W h => gO.out W (hU W h)); replace gR := Lib.hid (fun W h => gR.out W (hU W h)); have gY := Lib.hid hNw; clear hNw hU; have hFs := hFs2; have hF := hF2; clear hFs2 hF2 hE) | (clear mk27; refine wpList_allocN HM rfl 27 rfl edInfo ?_; clear HM; intro g38 w1 HM hG hN9; replace hF := Lib.hid (hFs.keep hF.out hG.out); clear hG hN9) | (refine wpList_storeF 0 HM rfl _ _ _ rfl _ rfl rfl _ rfl (by exact zend) (by rfl) (by rfl) ?_; have hBq := HM.out.at_ 0 rfl; clear HM; intro w4 HM hG4; simp only [List.set] at HM; replace hF := Lib.hid (hFs.put hF.out hBq (by decide) (by decide) hG4.out); clear hBq hG4) | fail)
    have mk28 : Unit := ()
    have mk29 : Unit := ()
    go_upto_region 30 with (first | go_skip | (refine wpList_loadG 11 HM (by rfl) _ _ rfl _ rfl rfl _ uE.out rfl (by exact zend) ?_) | (go_at_call 29; clear mk28; refine (cE2.out _ (gX.out _ hF.out)).mono ?_; rintro r w3 ⟨v10, rfl, hE, hb_⟩; replace HM := Lib.hid (HM.out.keep hb_); replace hF := Lib.hid (hFs.keep hF.out hb_); clear hb_) | (clear mk29; refine wpList_allocN HM rfl 27 rfl edInfo ?_; clear HM; intro g40 w1 HM hG hN9; replace hF := Lib.hid (hFs.keep hF.out hG.out); clear hG hN9) | (refine wpList_storeF 0 HM rfl _ _ _ rfl _ rfl rfl _ rfl (by exact zend) (by rfl) (by rfl) ?_; have hBq := HM.out.at_ 0 rfl; clear HM; intro w4 HM hG4; simp only [List.set] at HM; replace hF := Lib.hid (hFs.put hF.out hBq (by decide) (by decide) hG4.out); clear hBq hG4) | fail)
    have mk30 : Unit := ()
    have mk31 : Unit := ()
    have mk32 : Unit := ()
    go_upto_region 31 with (first | go_skip | (refine wpList_loadG 1 HM (by rfl) _ _ rfl _ rfl rfl _ uE.out rfl (by exact zend) ?_) | (refine wpList_loadG 14 HM (by rfl) _ _ rfl _ rfl rfl _ uT.out rfl (by exact ztab) ?_) | (go_at_call 24; clear mk30; refine (cA1.out vy _ HM.out.below (gY.out _ hF.out) (gTA.out _ hF.out)).mono ?_; rintro r w3 ⟨vz, vmz, rfl, hE, hM, hb_⟩; replace HM := Lib.hid (HM.out.keep hb_); replace hF := Lib.hid (hFs.keep hF.out hb_); clear hb_; obtain ⟨F10, hFs2, hF2, hU, hNw⟩ := stb_add hFs hF (Stb.ed vz _) hE; clear hFs hF; replace gA := Lib.hid (fun W h => gA.out W (hU W h)); replace gB := Lib.hid (fun W h => gB.out W (hU W h)); replace gTA := Lib.hid (fun W h => gTA.out W (hU W h)); replace gTB := Lib.hid (fun W h => gTB.out W (hU W h)); replace gX := Lib.hid (fun W h => gX.out W (hU W h)); replace gM := Lib.hid (fun W h => gM.out W (hU W h)); replace gO := Lib.hid (fun W h => gO.out W (hU W h)); replace gR := Lib.hid (fun W h => gR.out W (hU W h)); replace gY := Lib.hid (fun W h => gY.out W (hU W h)); have gZ := Lib.hid hNw; clear hNw hU; have hFs := hFs2; have hF := hF2; clear hFs2 hF2 hE; obtain ⟨F11, hFs2, hF2, hU, hNw⟩ := stb_add hFs hF (Stb.sub vmz _) hM; clear hFs hF; replace gA := Lib.hid (fun W h => gA.out W (hU W h)); replace gB := Lib.hid (fun W h => gB.out W (hU W h)); replace gTA := Lib.hid (fun W h => gTA.out W (hU W h)); replace gTB := Lib.hid (fun W h => gTB.out W (hU W h)); replace gX := Lib.hid (fun W h => gX.out W (hU W h)); replace gM := Lib.hid (fun W h => gM.out W (hU W h)); replace gO := Lib.hid (fun W h => gO.out W (hU W h)); replace gR := Lib.hid (fun W h => gR.out W (hU W h)); replace gY := Lib.hid (fun W h => gY.out W (hU W h)); replace gZ := Lib.hid (fun W h => gZ.out W (hU W h)); have gN := Lib.hid hNw; clear hNw hU; have hFs := hFs2; have hF := hF2; clear hFs2 hF2 hM) | (clear mk31; refine wpList_allocN HM rfl 27 rfl edInfo ?_; clear HM; intro g42 w1 HM hG hN9; replace hF := Lib.hid (hFs.keep hF.out hG.out); clear hG hN9) | (clear mk32; refine wpList_allocN HM rfl 25 rfl msgInfo ?_; clear HM; intro g43 w1 HM hG hN9; replace hF := Lib.hid (hFs.keep hF.out hG.out); clear hG hN9) | (refine wpList_storeF 1 HM rfl _ _ _ rfl _ rfl rfl _ rfl (by exact zend) (by rfl) (by rfl) ?_; have hBq := HM.out.at_ 1 rfl; clear HM; intro w4 HM hG4; simp only [List.set] at HM; replace hF := Lib.hid (hFs.put hF.out hBq (by decide) (by decide) hG4.out); clear hBq hG4) | (refine wpList_storeF 0 HM rfl _ _ _ rfl _ rfl rfl _ rfl (by exact zmsg) (by rfl) (by rfl) ?_; have hBq := HM.out.at_ 0 rfl; clear HM; intro w4 HM hG4; simp only [List.set] at HM; replace hF := Lib.hid (hFs.put hF.out hBq (by decide) (by decide) hG4.out); clear hBq hG4) | fail)
    have mk33 : Unit := ()
    have mk34 : Unit := ()
    have mk35 : Unit := ()
    go_wp2_with (first | go_skip | (refine wpList_loadG 3 HM (by rfl) _ _ rfl _ rfl rfl _ uE.out rfl (by exact zend) ?_) | (refine wpList_loadG 18 HM (by rfl) _ _ rfl _ rfl rfl _ uE.out rfl (by exact zend) ?_) | (refine wpList_loadG 1 HM (by rfl) _ _ rfl _ rfl rfl _ uE.out rfl (by exact zend) ?_) | (refine wpList_loadG 14 HM (by rfl) _ _ rfl _ rfl rfl _ uE.out rfl (by exact zend) ?_) | (refine wpList_loadG 0 HM (by rfl) _ _ rfl _ rfl rfl _ uM.out rfl (by exact zmsg) ?_) | (refine wpList_loadG 13 HM (by rfl) _ _ rfl _ rfl rfl _ uM.out rfl (by exact zmsg) ?_) | (go_at_call 17; clear mk33; refine (cQ1.out vy _ (gY.out _ hF.out).is (gA.out _ hF.out).is).mono ?_; rintro r w3 ⟨rfl, hb_⟩; replace HM := Lib.hid (HM.out.keep hb_); replace hF := Lib.hid (hFs.keep hF.out hb_); clear hb_) | (go_at_call 17; clear mk34; refine (cQ2.out vz _ (gZ.out _ hF.out).is (gX.out _ hF.out).is).mono ?_; rintro r w3 ⟨rfl, hb_⟩; replace HM := Lib.hid (HM.out.keep hb_); replace hF := Lib.hid (hFs.keep hF.out hb_); clear hb_) | (go_at_call 18; clear mk35; refine (cQ3.out vmz _ (gN.out _ hF.out).is (gM.out _ hF.out).is).mono ?_; rintro r w3 ⟨rfl, hb_⟩; replace HM := Lib.hid (HM.out.keep hb_); replace hF := Lib.hid (hFs.keep hF.out hb_); clear hb_) | fail)
    try simp only [Exit.inBlock, Exit.then]
    go_ret
    exact ⟨by first | rfl | trivial, HM.out.below⟩
end Tx
end Go.Proofs.YtkfipbelhlcddaaGreat
