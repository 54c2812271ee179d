/- The law Mirrors. -/
import Derived.Test.YtkfipbelhlcddaaGreatTbW
import Derived.Test.YtkfipbelhlcddaaGreatMr
import Derived.Test.YtkfipbelhlcddaaGreatMb
import Derived.Test.YtkfipbelhlcddaaGreatMw
import Derived.Test.YtkfipbelhlcddaaGreatTaJs
set_option linter.unusedVariables false
set_option linter.unusedSimpArgs false
namespace Go.Proofs.YtkfipbelhlcddaaGreat
open Go Go.RowKit Go.Sort Go.Shelf Go.Maps
namespace Tx
open Sw Mm Pl
theorem Stb.tab (v : TabV) (t : Tab) : Stb (fun w => TabOwn w v t) := ⟨fun x hb => x.keep hb, fun x hB _ h2 hg => x.put hB h2 hg⟩
set_option maxRecDepth 100000 in
set_option maxHeartbeats 16000000 in
theorem mirrors_any (num : Int) (A : Option Addr) (n c : Nat) (l : List TCl) (A1 : Option Addr) (m1 d1 : Nat) (l1 : List Int) (A2 : Option Addr) (m2 d2 : Nat) (l2 : List Int) (B : Option Addr) (nf cf : Nat) (f : List Int) (kd ct : Int) (w : World) (n0 : 0 ≤ num) (n1 : num ≤ 255) (k0 : 0 ≤ kd) (k1 : kd ≤ 255) (c0 : 0 ≤ ct) (c1 : ct ≤ 255) (hl : TclS w A n l) (h1 : U8S w A1 m1 l1) (h1b : ∀ s ∈ l1, 0 ≤ s ∧ s ≤ 255) (h2 : U8S w A2 m2 l2) (h2b : ∀ s ∈ l2, 0 ≤ s ∧ s ≤ 255) (hf : IntS w B nf f) : Calls Tryz.prog 5 #[.int .u8 num, .slice A n c, .slice A1 m1 d1, .slice A2 m2 d2, .slice B nf cf, .int .u8 kd, .int .u8 ct] w fun r w' => r = .returned (.bool true) ∧ Below w.heap.size w w' := by
  have HM := Lib.hid (Mem.start w)
  obtain ⟨F0, hFs, hF⟩ : ∃ F : World → Prop, Stb F ∧ Hid (F w) := ⟨_, Stb.true, trivial⟩
  have uE := Tryz.underlying27
  have uT := Tryz.underlying29
  have uM := Tryz.underlying25
  have cAw := fun W => awake_any W
  have cO1 := fun W (hb : Below w.heap.size w W) => others_any 1 A1 m1 d1 l1 W (h1.keep hb) h1b
  have cO2 := fun W (hb : Below w.heap.size w W) => others_any 2 A2 m2 d2 l2 W (h2.keep hb) h2b
  have cTw : n ≤ 20 → ∀ W, Below w.heap.size w W → Calls Tryz.prog 21 #[.int .u8 num, .slice A n c] W (TwoPost num l W) := fun hn W hb => two_any num A n c l W n0 n1 (hl.keep hb) hn
  unfold TwoPost at cTw
  unfold OthPost at cO1 cO2
  have hl1 := h1.len
  have hl2 := h2.len
  have hFA := fun hk => full_two (t := othN 1 l1) (k := l1.length) (e := twoA num l) (num := num) (L := twoC num l) (twoA_ok l n0 n1) (oth_ok (node := 1) (by decide) (by decide) l1) hk rfl (fun c hc => ((two_ok num l).each c hc).2) (twoC_len num l)
  have hFB := fun hk => full_two (t := othN 2 l2) (k := l2.length) (e := twoB num l) (num := num) (L := (twoC num l).map (mirr 1)) (twoB_ok l n0 n1) (oth_ok (node := 2) (by decide) (by decide) l2) hk rfl (fun c hc => by obtain ⟨x, hx, rfl⟩ := List.mem_map.1 hc; exact ((two_ok num l).each x hx).2) (by rw [List.length_map]; exact twoC_len num l)
  have hao : (twoA num l).opn = false := rfl
  have hbo : (twoB num l).opn = false := rfl
  have hbk : (twoB num l).known = false := rfl
  have hbc := two_mir num l
  have hbp : (twoB num l).peer = 1 := rfl
  have hbn : (twoB num l).number = (twoA num l).number := rfl
  have hl12 : (twoA num l).cells.length ≤ 12 := twoC_len num l
  generalize twoA num l = a at *
  generalize twoB num l = b at *
  generalize othN 1 l1 = TA at *
  generalize othN 2 l2 = TB at *
  have wk : IntKind.i64.wrap kd = kd := IntWalk.i64_in _ (by omega)
  have wk1 : kd.tmod 6 = kd % 6 := by rw [Int.tmod_eq_emod_of_nonneg (by omega)]
  have wk2 : IntKind.i64.wrap (kd % 6) = kd % 6 := IntWalk.i64_in _ (by omega)
  have wk3 : IntKind.i64.wrap (1 + kd % 6) = 1 + kd % 6 := IntWalk.i64_in _ (by omega)
  have wc1 : IntKind.i64.wrap ct = ct := IntWalk.i64_in _ (by omega)
  have wc2 : ct.tmod 3 = ct % 3 := by rw [Int.tmod_eq_emod_of_nonneg (by omega)]
  have wc3 : IntKind.i64.wrap (ct % 3) = ct % 3 := IntWalk.i64_in _ (by omega)
  have wc4 : IntKind.i64.wrap (1 + ct % 3) = 1 + ct % 3 := IntWalk.i64_in _ (by omega)
  clear h1b h2b
  replace cAw := Lib.hid cAw
  replace cO1 := Lib.hid cO1
  replace cO2 := Lib.hid cO2
  replace cTw := Lib.hid cTw
  replace hl := Lib.hid hl
  replace hf := Lib.hid hf
  replace h1 := Lib.hid h1
  replace h2 := Lib.hid h2
  replace hFA := Lib.hid hFA
  replace hFB := Lib.hid hFB
  replace hao := Lib.hid hao
  replace hbo := Lib.hid hbo
  replace hbk := Lib.hid hbk
  replace hbc := Lib.hid hbc
  replace hbp := Lib.hid hbp
  replace hbn := Lib.hid hbn
  replace hl1 := Lib.hid hl1
  replace hl2 := Lib.hid hl2
  replace hl12 := Lib.hid hl12
  replace uE := Lib.hid uE
  replace uT := Lib.hid uT
  replace uM := Lib.hid uM
  go_enter Tryz.func5, Tryz.ntmps5
  have mk1 : Unit := ()
  go_upto_region 3 with (first | go_skip | (go_at_call 11; clear mk1; refine (cAw.out _).mono ?_; rintro r w3 ⟨rfl, hb_⟩; replace HM := Lib.hid (HM.out.keep hb_); replace hF := Lib.hid (hFs.keep hF.out hb_); clear hb_; dsimp only) | fail)
  by_cases hn : (20 : Int) < (n : Int)
  case pos =>
    have hn2 : 20 < n := by omega
    go_wp2_with fail
    try simp only [Exit.inBlock, Exit.then]
    go_ret
    exact ⟨by first | rfl | trivial, HM.out.below⟩
  have hn2 : ¬ 20 < n := by omega
  have hn3 : n ≤ 20 := by omega
  have hn4 : (n : Int) ≤ 20 := by omega
  have hn5 : decide ((20 : Int) < (n : Int)) = false := decide_eq_false hn
  by_cases hm1 : (8 : Int) < (m1 : Int)
  case pos =>
    have hm12 : 8 < m1 := by omega
    go_wp2_with fail
    try simp only [Exit.inBlock, Exit.then]
    go_ret
    exact ⟨by first | rfl | trivial, HM.out.below⟩
  have hm12 : ¬ 8 < m1 := by omega
  have hm13 : m1 ≤ 8 := by omega
  have hm14 : (m1 : Int) ≤ 8 := by omega
  have hm15 : decide ((8 : Int) < (m1 : Int)) = false := decide_eq_false hm1
  by_cases hm2 : (8 : Int) < (m2 : Int)
  case pos =>
    have hm22 : 8 < m2 := by omega
    go_wp2_with fail
    try simp only [Exit.inBlock, Exit.then]
    go_ret
    exact ⟨by first | rfl | trivial, HM.out.below⟩
  have hm22 : ¬ 8 < m2 := by omega
  have hm23 : m2 ≤ 8 := by omega
  have hm24 : (m2 : Int) ≤ 8 := by omega
  have hm25 : decide ((8 : Int) < (m2 : Int)) = false := decide_eq_false hm2
  by_cases hnf : (20 : Int) < (nf : Int)
  case pos =>
    have hnf2 : 20 < nf := by omega
    go_wp2_with fail
    try simp only [Exit.inBlock, Exit.then]
    go_ret
    exact ⟨by first | rfl | trivial, HM.out.below⟩
  have hnf2 : ¬ 20 < nf := by omega
  have hnf3 : nf ≤ 20 := by omega
  have hnf4 : (nf : Int) ≤ 20 := by omega
  have hnf5 : decide ((20 : Int) < (nf : Int)) = false := decide_eq_false hnf
  obtain ⟨hFa, hRa⟩ := hFA.out (by have := hl1.out; omega)
  obtain ⟨hFb, hRb⟩ := hFB.out (by have := hl2.out; omega)
  clear hFA hFB
  replace hFa := Lib.hid hFa
  replace hRa := Lib.hid hRa
  replace hFb := Lib.hid hFb
  replace hRb := Lib.hid hRb
  have mk2 : Unit := ()
  have mk3 : Unit := ()
  have mk4 : Unit := ()
  go_upto_region 6 with (first | go_skip | (go_at_call 21; clear mk2; refine (cTw.out hn3 _ HM.out.below).mono ?_; rintro r w3 ⟨v1, v2, rfl, hE, hE2, hb_⟩; replace HM := Lib.hid (HM.out.keep hb_); replace hF := Lib.hid (hFs.keep hF.out hb_); clear hb_; obtain ⟨F1, hFs2, hF2, hU, hNw⟩ := stb_add hFs hF (Stb.ed v1 _) hE; clear hFs hF; have gA := Lib.hid hNw; clear hNw hU; have hFs := hFs2; have hF := hF2; clear hFs2 hF2 hE; obtain ⟨F2, hFs2, hF2, hU, hNw⟩ := stb_add hFs hF (Stb.ed v2 _) hE2; clear hFs hF; replace gA := Lib.hid (fun W h => gA.out W (hU W h)); have gB := Lib.hid hNw; clear hNw hU; have hFs := hFs2; have hF := hF2; clear hFs2 hF2 hE2; dsimp only) | (clear mk3; refine wpList_allocN HM rfl 27 rfl edInfo ?_; clear HM; intro g15 w1 HM hG hN9; replace hF := Lib.hid (hFs.keep hF.out hG.out); clear hG hN9) | (clear mk4; refine wpList_allocN HM rfl 27 rfl edInfo ?_; clear HM; intro g16 w1 HM hG hN9; replace hF := Lib.hid (hFs.keep hF.out hG.out); clear hG hN9) | (refine wpList_storeF 1 HM rfl _ _ _ rfl _ rfl rfl _ rfl (by exact zend) (by rfl) (by rfl) ?_; have hBq := HM.out.at_ 1 rfl; clear HM; intro w4 HM hG4; simp only [List.set] at HM; replace hF := Lib.hid (hFs.put hF.out hBq (by decide) (by decide) hG4.out); clear hBq hG4) | (refine wpList_storeF 0 HM rfl _ _ _ rfl _ rfl rfl _ rfl (by exact zend) (by rfl) (by rfl) ?_; have hBq := HM.out.at_ 0 rfl; clear HM; intro w4 HM hG4; simp only [List.set] at HM; replace hF := Lib.hid (hFs.put hF.out hBq (by decide) (by decide) hG4.out); clear hBq hG4) | fail)
  have mk5 : Unit := ()
  have mk6 : Unit := ()
  have mk7 : Unit := ()
  have mk8 : Unit := ()
  go_upto_region 7 with (first | go_skip | (go_at_call 22; clear mk5; refine (cO1.out _ HM.out.below).mono ?_; rintro r w3 ⟨vA, rfl, hT, hb_⟩; replace HM := Lib.hid (HM.out.keep hb_); replace hF := Lib.hid (hFs.keep hF.out hb_); clear hb_; obtain ⟨F3, hFs2, hF2, hU, hNw⟩ := stb_add hFs hF (Stb.tab vA _) hT; clear hFs hF; replace gA := Lib.hid (fun W h => gA.out W (hU W h)); replace gB := Lib.hid (fun W h => gB.out W (hU W h)); have gTA := Lib.hid hNw; clear hNw hU; have hFs := hFs2; have hF := hF2; clear hFs2 hF2 hT; dsimp only) | (go_at_call 22; clear mk6; refine (cO2.out _ HM.out.below).mono ?_; rintro r w3 ⟨vB, rfl, hT, hb_⟩; replace HM := Lib.hid (HM.out.keep hb_); replace hF := Lib.hid (hFs.keep hF.out hb_); clear hb_; obtain ⟨F4, hFs2, hF2, hU, hNw⟩ := stb_add hFs hF (Stb.tab vB _) hT; clear hFs hF; replace gA := Lib.hid (fun W h => gA.out W (hU W h)); replace gB := Lib.hid (fun W h => gB.out W (hU W h)); replace gTA := Lib.hid (fun W h => gTA.out W (hU W h)); have gTB := Lib.hid hNw; clear hNw hU; have hFs := hFs2; have hF := hF2; clear hFs2 hF2 hT; dsimp only) | (clear mk7; refine wpList_allocN HM rfl 29 rfl tabInfo ?_; clear HM; intro g17 w1 HM hG hN9; replace hF := Lib.hid (hFs.keep hF.out hG.out); clear hG hN9) | (clear mk8; refine wpList_allocN HM rfl 29 rfl tabInfo ?_; clear HM; intro g18 w1 HM hG hN9; replace hF := Lib.hid (hFs.keep hF.out hG.out); clear hG hN9) | (refine wpList_storeF 1 HM rfl _ _ _ rfl _ rfl rfl _ rfl (by exact ztab) (by rfl) (by rfl) ?_; have hBq := HM.out.at_ 1 rfl; clear HM; intro w4 HM hG4; simp only [List.set] at HM; replace hF := Lib.hid (hFs.put hF.out hBq (by decide) (by decide) hG4.out); clear hBq hG4) | (refine wpList_storeF 0 HM rfl _ _ _ rfl _ rfl rfl _ rfl (by exact ztab) (by rfl) (by rfl) ?_; have hBq := HM.out.at_ 0 rfl; clear HM; intro w4 HM hG4; simp only [List.set] at HM; replace hF := Lib.hid (hFs.put hF.out hBq (by decide) (by decide) hG4.out); clear hBq hG4) | fail)
  have cFu := fun t e vt ve W (ht : TabIs W vt t) (he : EdIs W ve e) (h0 : fullC t e = 0) => (show Calls Tryz.prog 23 #[.agg #[.int .i64 t.node, .int .i64 t.length, .slice vt.A vt.n vt.c], .agg #[.int .i64 e.node, .int .i64 e.peer, .int .i64 e.number, .slice ve.cA ve.cn ve.cc, .bool e.opn, .int .i64 e.since, .int .i64 e.asked.kind, .bool e.asked.reply, .int .i64 e.asked.number, .int .i64 e.asked.code, .int .i64 e.asked.count, .slice ve.a.sA ve.a.sn ve.a.sc, .slice ve.a.oA ve.a.on ve.a.oc, .bool e.known, .int .i64 e.last.kind, .bool e.last.reply, .int .i64 e.last.number, .int .i64 e.last.code, .int .i64 e.last.count, .slice ve.l.sA ve.l.sn ve.l.sc, .slice ve.l.oA ve.l.on ve.l.oc, .int .i64 e.reply.kind, .bool e.reply.reply, .int .i64 e.reply.number, .int .i64 e.reply.code, .int .i64 e.reply.count, .slice ve.r.sA ve.r.sn ve.r.sc, .slice ve.r.oA ve.r.on ve.r.oc]] W fun r w' => ∃ v, r = .returned (.tuple #[.agg (tabA (fullN t e) v), .int .i64 0]) ∧ TabIs w' v (fullN t e) ∧ Below W.heap.size W w' from by have := full_any t e vt ve W ht he; unfold FullPost at this; rw [h0] at this; exact this)
  have f1 := (fullC_iff TA a).2 hFa.out
  have f2 := (fullC_iff TB b).2 hFb.out
  replace cFu := Lib.hid cFu
  replace f1 := Lib.hid f1
  replace f2 := Lib.hid f2
  have mk9 : Unit := ()
  have mk10 : Unit := ()
  go_upto_region 8 with (first | go_skip | (refine wpList_loadG 1 HM (by rfl) _ _ rfl _ rfl rfl _ uT.out rfl (by exact ztab) ?_) | (refine wpList_loadG 3 HM (by rfl) _ _ rfl _ rfl rfl _ uE.out rfl (by exact zend) ?_) | (go_at_call 23; clear mk9; refine (cFu.out TA a vA v1 _ (gTA.out _ hF.out).is (gA.out _ hF.out).is f1.out).mono ?_; rintro r w3 ⟨vq, rfl, _, hb_⟩; replace HM := Lib.hid (HM.out.keep hb_); replace hF := Lib.hid (hFs.keep hF.out hb_); clear hb_; dsimp only) | (clear mk10; refine wpList_allocN HM rfl 29 rfl tabInfo ?_; clear HM; intro g19 w1 HM hG hN9; replace hF := Lib.hid (hFs.keep hF.out hG.out); clear hG hN9) | (refine wpList_storeF 0 HM rfl _ _ _ rfl _ rfl rfl _ rfl (by exact ztab) (by rfl) (by rfl) ?_; have hBq := HM.out.at_ 0 rfl; clear HM; intro w4 HM hG4; simp only [List.set] at HM; replace hF := Lib.hid (hFs.put hF.out hBq (by decide) (by decide) hG4.out); clear hBq hG4) | fail)
  have mk11 : Unit := ()
  have mk12 : Unit := ()
  go_upto_region 13 with (first | go_skip | (refine wpList_loadG 1 HM (by rfl) _ _ rfl _ rfl rfl _ uT.out rfl (by exact ztab) ?_) | (refine wpList_loadG 3 HM (by rfl) _ _ rfl _ rfl rfl _ uE.out rfl (by exact zend) ?_) | (go_at_call 23; clear mk11; refine (cFu.out TB b vB v2 _ (gTB.out _ hF.out).is (gB.out _ hF.out).is f2.out).mono ?_; rintro r w3 ⟨vq2, rfl, _, hb_⟩; replace HM := Lib.hid (HM.out.keep hb_); replace hF := Lib.hid (hFs.keep hF.out hb_); clear hb_; dsimp only) | (clear mk12; refine wpList_allocN HM rfl 29 rfl tabInfo ?_; clear HM; intro g21 w1 HM hG hN9; replace hF := Lib.hid (hFs.keep hF.out hG.out); clear hG hN9) | (refine wpList_storeF 0 HM rfl _ _ _ rfl _ rfl rfl _ rfl (by exact ztab) (by rfl) (by rfl) ?_; have hBq := HM.out.at_ 0 rfl; clear HM; intro w4 HM hG4; simp only [List.set] at HM; replace hF := Lib.hid (hFs.put hF.out hBq (by decide) (by decide) hG4.out); clear hBq hG4) | fail)
  have K1 : 1 ≤ 1 + kd % 6 := by omega
  have K6 : 1 + kd % 6 ≤ 6 := by omega
  have C1 : 1 ≤ 1 + ct % 3 := by omega
  have C3 : 1 + ct % 3 ≤ 8 := by omega
  generalize 1 + kd % 6 = K at *
  generalize 1 + ct % 3 = N0 at *
  clear wk wk1 wk2 wk3 wc1 wc2 wc3 wc4
  obtain ⟨NN, hNN⟩ : ∃ NN : Int, NN = if 3 < K then 0 else N0 := ⟨_, rfl⟩
  have hcn : countsN K NN = true := by
    unfold countsN
    rw [hNN]
    split
    · rw [if_neg (by omega)]; simp; omega
    · rw [if_pos (by omega)]; rfl
  replace hNN := Lib.hid hNN
  replace hcn := Lib.hid hcn
  go_upto_if 94 with fail
  go_cut [24] (fun s wx => s = .int .i64 NN ∧ wx = w4)
  case first =>
    by_cases h3 : 3 < K
    · have e1 : NN = 0 := by rw [hNN.out, if_pos h3]
      go_wp2_with fail
      go_meet
      exact ⟨by rw [e1], rfl⟩
    · have e1 : NN = N0 := by rw [hNN.out, if_neg h3]
      go_wp2_with fail
      go_meet
      exact ⟨by rw [e1], rfl⟩
  case rest =>
    obtain ⟨rfl, rfl⟩ := hcut
    clear hNN
    have cA1 := fun vx W (hb : Below w.heap.size w W) (hx : EdOwn W vx a) (ht : TabOwn W vA TA) => ask_any a TA vx vA B nf cf f K NN 0 W hx.is ht.is (hf.out.keep hb)
    have hC14 := askC_codes (f := f) hFa.out hao.out K1 K6 (Int.le_refl 0) (by omega) hcn.out
    have hOr := fun h => mir_law (f := f) (k := K) (n := NN) hFa.out hFb.out hRa.out hRb.out hbc.out hbp.out hbn.out hbk.out hbo.out hao.out h
    generalize hCe : askC a TA f K NN 0 = CC at *
    replace cA1 := Lib.hid cA1
    replace hOr := Lib.hid hOr
    replace hCe := Lib.hid hCe
    have mk13 : Unit := ()
    have mk14 : Unit := ()
    have mk15 : Unit := ()
    go_upto_region 16 with (first | go_skip | (refine wpList_loadG 5 HM (by rfl) _ _ rfl _ rfl rfl _ uE.out rfl (by exact zend) ?_) | (refine wpList_loadG 3 HM (by rfl) _ _ rfl _ rfl rfl _ uT.out rfl (by exact ztab) ?_) | (go_at_call 24; clear mk13; refine (cA1.out v1 _ HM.out.below (gA.out _ hF.out) (gTA.out _ hF.out)).mono ?_; rintro r w3 ⟨v3, vm1, rfl, hE, hM, hb_⟩; replace HM := Lib.hid (HM.out.keep hb_); replace hF := Lib.hid (hFs.keep hF.out hb_); clear hb_; obtain ⟨F5, hFs2, hF2, hU, hNw⟩ := stb_add hFs hF (Stb.ed v3 _) hE; clear hFs hF; replace gA := Lib.hid (fun W h => gA.out W (hU W h)); replace gB := Lib.hid (fun W h => gB.out W (hU W h)); replace gTA := Lib.hid (fun W h => gTA.out W (hU W h)); replace gTB := Lib.hid (fun W h => gTB.out W (hU W h)); have gX := Lib.hid hNw; clear hNw hU; have hFs := hFs2; have hF := hF2; clear hFs2 hF2 hE; obtain ⟨F6, hFs2, hF2, hU, hNw⟩ := stb_add hFs hF (Stb.sub vm1 _) hM; clear hFs hF; replace gA := Lib.hid (fun W h => gA.out W (hU W h)); replace gB := Lib.hid (fun W h => gB.out W (hU W h)); replace gTA := Lib.hid (fun W h => gTA.out W (hU W h)); replace gTB := Lib.hid (fun W h => gTB.out W (hU W h)); replace gX := Lib.hid (fun W h => gX.out W (hU W h)); have gM := Lib.hid hNw; clear hNw hU; have hFs := hFs2; have hF := hF2; clear hFs2 hF2 hM; dsimp only) | (clear mk14; refine wpList_allocN HM rfl 27 rfl edInfo ?_; clear HM; intro g25 w1 HM hG hN9; replace hF := Lib.hid (hFs.keep hF.out hG.out); clear hG hN9) | (clear mk15; refine wpList_allocN HM rfl 25 rfl msgInfo ?_; clear HM; intro g26 w1 HM hG hN9; replace hF := Lib.hid (hFs.keep hF.out hG.out); clear hG hN9) | (refine wpList_storeF 1 HM rfl _ _ _ rfl _ rfl rfl _ rfl (by exact zend) (by rfl) (by rfl) ?_; have hBq := HM.out.at_ 1 rfl; clear HM; intro w4 HM hG4; simp only [List.set] at HM; replace hF := Lib.hid (hFs.put hF.out hBq (by decide) (by decide) hG4.out); clear hBq hG4) | (refine wpList_storeF 0 HM rfl _ _ _ rfl _ rfl rfl _ rfl (by exact zmsg) (by rfl) (by rfl) ?_; have hBq := HM.out.at_ 0 rfl; clear HM; intro w4 HM hG4; simp only [List.set] at HM; replace hF := Lib.hid (hFs.put hF.out hBq (by decide) (by decide) hG4.out); clear hBq hG4) | fail)
    by_cases h0 : CC = 0
    case neg =>
      have e14 : CC = 14 := by rcases hC14 with h | h; exact absurd h h0; exact h
      subst e14
      go_wp2_with fail
      try simp only [Exit.inBlock, Exit.then]
      go_ret
      exact ⟨by first | rfl | trivial, HM.out.below⟩
    subst h0
    clear hC14
    obtain ⟨m, x, y, z, r, O⟩ := hOr.out rfl
    clear hOr cA1
    have e1 := O.e1
    have e2 := O.e2
    generalize askE a TA f K NN 0 = X0 at *
    generalize askN a TA f K NN 0 = M0 at *
    subst e1 e2
    have cRc := fun W (hb : Below w.heap.size w W) (hx : EdOwn W v2 b) (ht : TabOwn W vB TB) (hm : MsgSub W vm1 M0) => receive_any b TB f M0 v2 vB vm1 B nf cf W hx.is ht.is (hf.out.keep hb) hm.is
    rw [O.c1, O.e3] at cRc
    dsimp only at cRc
    have cFi := fun vr W (hx : EdOwn W v3 X0) (hr : MsgSub W vr r) => finish_any X0 r v3 vr W hx.is hr.is
    rw [O.c2, O.e4] at cFi
    have cK1 := fun vy W (hy : EdOwn W vy y) => chkE_any y vy W hy.is
    have cK2 := fun vz W (hz : EdOwn W vz z) => chkE_any z vz W hz.is
    rw [O.cy] at cK1
    rw [O.cz] at cK2
    replace cRc := Lib.hid cRc
    replace cFi := Lib.hid cFi
    replace cK1 := Lib.hid cK1
    replace cK2 := Lib.hid cK2
    replace O := Lib.hid O
    have mk16 : Unit := ()
    have mk17 : Unit := ()
    have mk18 : Unit := ()
    go_upto_region 19 with (first | go_skip | (refine wpList_loadG 6 HM (by rfl) _ _ rfl _ rfl rfl _ uE.out rfl (by exact zend) ?_) | (refine wpList_loadG 4 HM (by rfl) _ _ rfl _ rfl rfl _ uT.out rfl (by exact ztab) ?_) | (refine wpList_loadG 0 HM (by rfl) _ _ rfl _ rfl rfl _ uM.out rfl (by exact zmsg) ?_) | (go_at_call 15; clear mk16; refine (cRc.out _ HM.out.below (gB.out _ hF.out) (gTB.out _ hF.out) (gM.out _ hF.out)).mono ?_; rintro r w3 ⟨v5, vr, rfl, hE, hM, hb_⟩; replace HM := Lib.hid (HM.out.keep hb_); replace hF := Lib.hid (hFs.keep hF.out hb_); clear hb_; obtain ⟨F7, hFs2, hF2, hU, hNw⟩ := stb_add hFs hF (Stb.ed v5 _) hE; clear hFs hF; replace gA := Lib.hid (fun W h => gA.out W (hU W h)); replace gB := Lib.hid (fun W h => gB.out W (hU W h)); replace gTA := Lib.hid (fun W h => gTA.out W (hU W h)); replace gTB := Lib.hid (fun W h => gTB.out W (hU W h)); replace gX := Lib.hid (fun W h => gX.out W (hU W h)); replace gM := Lib.hid (fun W h => gM.out W (hU W h)); have gY := Lib.hid hNw; clear hNw hU; have hFs := hFs2; have hF := hF2; clear hFs2 hF2 hE; obtain ⟨F8, hFs2, hF2, hU, hNw⟩ := stb_add hFs hF (Stb.sub vr _) hM; clear hFs hF; replace gA := Lib.hid (fun W h => gA.out W (hU W h)); replace gB := Lib.hid (fun W h => gB.out W (hU W h)); replace gTA := Lib.hid (fun W h => gTA.out W (hU W h)); replace gTB := Lib.hid (fun W h => gTB.out W (hU W h)); replace gX := Lib.hid (fun W h => gX.out W (hU W h)); replace gM := Lib.hid (fun W h => gM.out W (hU W h)); replace gY := Lib.hid (fun W h => gY.out W (hU W h)); have gR := Lib.hid hNw; clear hNw hU; have hFs := hFs2; have hF := hF2; clear hFs2 hF2 hM; dsimp only) | (clear mk17; refine wpList_allocN HM rfl 27 rfl edInfo ?_; clear HM; intro g28 w1 HM hG hN9; replace hF := Lib.hid (hFs.keep hF.out hG.out); clear hG hN9) | (clear mk18; refine wpList_allocN HM rfl 25 rfl msgInfo ?_; clear HM; intro g29 w1 HM hG hN9; replace hF := Lib.hid (hFs.keep hF.out hG.out); clear hG hN9) | (refine wpList_storeF 1 HM rfl _ _ _ rfl _ rfl rfl _ rfl (by exact zend) (by rfl) (by rfl) ?_; have hBq := HM.out.at_ 1 rfl; clear HM; intro w4 HM hG4; simp only [List.set] at HM; replace hF := Lib.hid (hFs.put hF.out hBq (by decide) (by decide) hG4.out); clear hBq hG4) | (refine wpList_storeF 0 HM rfl _ _ _ rfl _ rfl rfl _ rfl (by exact zmsg) (by rfl) (by rfl) ?_; have hBq := HM.out.at_ 0 rfl; clear HM; intro w4 HM hG4; simp only [List.set] at HM; replace hF := Lib.hid (hFs.put hF.out hBq (by decide) (by decide) hG4.out); clear hBq hG4) | fail)
    have mk19 : Unit := ()
    have mk20 : Unit := ()
    go_upto_region 20 with (first | go_skip | (refine wpList_loadG 3 HM (by rfl) _ _ rfl _ rfl rfl _ uE.out rfl (by exact zend) ?_) | (refine wpList_loadG 0 HM (by rfl) _ _ rfl _ rfl rfl _ uM.out rfl (by exact zmsg) ?_) | (go_at_call 19; clear mk19; refine (cFi.out vr _ (gX.out _ hF.out) (gR.out _ hF.out)).mono ?_; rintro r w3 ⟨v6, rfl, hE, hb_⟩; replace HM := Lib.hid (HM.out.keep hb_); replace hF := Lib.hid (hFs.keep hF.out hb_); clear hb_; obtain ⟨F9, hFs2, hF2, hU, hNw⟩ := stb_add hFs hF (Stb.ed v6 _) hE; clear hFs hF; replace gA := Lib.hid (fun W h => gA.out W (hU W h)); replace gB := Lib.hid (fun W h => gB.out W (hU W h)); replace gTA := Lib.hid (fun W h => gTA.out W (hU W h)); replace gTB := Lib.hid (fun W h => gTB.out W (hU W h)); replace gX := Lib.hid (fun W h => gX.out W (hU W h)); replace gM := Lib.hid (fun W h => gM.out W (hU W h)); replace gY := Lib.hid (fun W h => gY.out W (hU W h)); replace gR := Lib.hid (fun W h => gR.out W (hU W h)); have gZ := Lib.hid hNw; clear hNw hU; have hFs := hFs2; have hF := hF2; clear hFs2 hF2 hE; dsimp only) | (clear mk20; refine wpList_allocN HM rfl 27 rfl edInfo ?_; clear HM; intro g30 w1 HM hG hN9; replace hF := Lib.hid (hFs.keep hF.out hG.out); clear hG hN9) | (refine wpList_storeF 0 HM rfl _ _ _ rfl _ rfl rfl _ rfl (by exact zend) (by rfl) (by rfl) ?_; have hBq := HM.out.at_ 0 rfl; clear HM; intro w4 HM hG4; simp only [List.set] at HM; replace hF := Lib.hid (hFs.put hF.out hBq (by decide) (by decide) hG4.out); clear hBq hG4) | fail)
    have mk21 : Unit := ()
    have mk22 : Unit := ()
    go_upto_region 22 with (first | go_skip | (refine wpList_loadG 2 HM (by rfl) _ _ rfl _ rfl rfl _ uE.out rfl (by exact zend) ?_) | (refine wpList_loadG 0 HM (by rfl) _ _ rfl _ rfl rfl _ uE.out rfl (by exact zend) ?_) | (go_at_call 25; clear mk21; refine (cK1.out v5 _ (gY.out _ hF.out)).mono ?_; rintro r w3 ⟨rfl, hb_⟩; replace HM := Lib.hid (HM.out.keep hb_); replace hF := Lib.hid (hFs.keep hF.out hb_); clear hb_; dsimp only) | (go_at_call 25; clear mk22; refine (cK2.out v6 _ (gZ.out _ hF.out)).mono ?_; rintro r w3 ⟨rfl, hb_⟩; replace HM := Lib.hid (HM.out.keep hb_); replace hF := Lib.hid (hFs.keep hF.out hb_); clear hb_; dsimp only; have ko := HM.out.cell 0 rfl 4; change _ = some (Value.bool z.opn) at ko; rw [O.out.zo] at ko; have kx := HM.out.cell 4 rfl 2; change _ = some (Value.int .i64 X0.number) at kx; rw [O.out.xn] at kx; have ka := HM.out.cell 10 rfl 2; change _ = some (Value.int .i64 a.number) at ka) | fail)
    clear ko kx ka
    have mk23 : Unit := ()
    have mk24 : Unit := ()
    go_upto_region 25 with (first | go_skip | (refine wpList_loadG 8 HM (by rfl) _ _ rfl _ rfl rfl _ uT.out rfl (by exact ztab) ?_) | (refine wpList_loadG 0 HM (by rfl) _ _ rfl _ rfl rfl _ uE.out rfl (by exact zend) ?_) | (go_at_call 23; clear mk23; refine (cFu.out TA z vA v6 _ (gTA.out _ hF.out).is (gZ.out _ hF.out).is O.out.f1).mono ?_; rintro r w3 ⟨vq3, rfl, _, hb_⟩; replace HM := Lib.hid (HM.out.keep hb_); replace hF := Lib.hid (hFs.keep hF.out hb_); clear hb_; dsimp only) | (clear mk24; refine wpList_allocN HM rfl 29 rfl tabInfo ?_; clear HM; intro g32 w1 HM hG hN9; replace hF := Lib.hid (hFs.keep hF.out hG.out); clear hG hN9) | (refine wpList_storeF 0 HM rfl _ _ _ rfl _ rfl rfl _ rfl (by exact ztab) (by rfl) (by rfl) ?_; have hBq := HM.out.at_ 0 rfl; clear HM; intro w4 HM hG4; simp only [List.set] at HM; replace hF := Lib.hid (hFs.put hF.out hBq (by decide) (by decide) hG4.out); clear hBq hG4) | fail)
    have mk25 : Unit := ()
    have mk26 : Unit := ()
    go_upto_region 28 with (first | go_skip | (refine wpList_loadG 8 HM (by rfl) _ _ rfl _ rfl rfl _ uT.out rfl (by exact ztab) ?_) | (refine wpList_loadG 3 HM (by rfl) _ _ rfl _ rfl rfl _ uE.out rfl (by exact zend) ?_) | (go_at_call 23; clear mk25; refine (cFu.out TB y vB v5 _ (gTB.out _ hF.out).is (gY.out _ hF.out).is O.out.f2).mono ?_; rintro r w3 ⟨vq4, rfl, _, hb_⟩; replace HM := Lib.hid (HM.out.keep hb_); replace hF := Lib.hid (hFs.keep hF.out hb_); clear hb_; dsimp only) | (clear mk26; refine wpList_allocN HM rfl 29 rfl tabInfo ?_; clear HM; intro g34 w1 HM hG hN9; replace hF := Lib.hid (hFs.keep hF.out hG.out); clear hG hN9) | (refine wpList_storeF 0 HM rfl _ _ _ rfl _ rfl rfl _ rfl (by exact ztab) (by rfl) (by rfl) ?_; have hBq := HM.out.at_ 0 rfl; clear HM; intro w4 HM hG4; simp only [List.set] at HM; replace hF := Lib.hid (hFs.put hF.out hBq (by decide) (by decide) hG4.out); clear hBq hG4) | fail)
    have kr := HM.out.cell 3 rfl 3
    change _ = some (Value.int .i64 r.code) at kr
    by_cases hrc : r.code = 0
    case neg =>
      have dr : (r.code != 0) = true := by rw [bne_iff_ne]; exact hrc
      obtain ⟨ey, ez⟩ := O.out.no hrc
      have cS1 := Lib.hid (fun W (hx : EdIs W v5 y) (hy : EdIs W v2 b) => sameE_any y b v5 v2 W hx hy)
      have cS2 := Lib.hid (fun W (hx : EdIs W v6 z) (hy : EdIs W v1 a) => sameE_any z a v6 v1 W hx hy)
      rw [decide_eq_true ey] at cS1
      rw [decide_eq_true ez] at cS2
      replace ey := Lib.hid ey
      replace ez := Lib.hid ez
      have mk27 : Unit := ()
      have mk28 : Unit := ()
      go_wp2_with (first | go_skip | (refine wpList_loadG 4 HM (by rfl) _ _ rfl _ rfl rfl _ uE.out rfl (by exact zend) ?_) | (refine wpList_loadG 11 HM (by rfl) _ _ rfl _ rfl rfl _ uE.out rfl (by exact zend) ?_) | (refine wpList_loadG 2 HM (by rfl) _ _ rfl _ rfl rfl _ uE.out rfl (by exact zend) ?_) | (refine wpList_loadG 12 HM (by rfl) _ _ rfl _ rfl rfl _ uE.out rfl (by exact zend) ?_) | (go_at_call 17; clear mk27; refine (cS1.out _ (gY.out _ hF.out).is (gB.out _ hF.out).is).mono ?_; rintro r w3 ⟨rfl, hb_⟩; clear kr; replace HM := Lib.hid (HM.out.keep hb_); replace hF := Lib.hid (hFs.keep hF.out hb_); clear hb_; dsimp only) | (go_at_call 17; clear mk28; refine (cS2.out _ (gZ.out _ hF.out).is (gA.out _ hF.out).is).mono ?_; rintro r w3 ⟨rfl, hb_⟩; replace HM := Lib.hid (HM.out.keep hb_); replace hF := Lib.hid (hFs.keep hF.out hb_); clear hb_; dsimp only) | fail)
      try simp only [Exit.inBlock, Exit.then]
      go_ret
      exact ⟨by first | rfl | trivial, HM.out.below⟩
    have dr : (r.code != 0) = false := by rw [bne_eq_false_iff_eq]; exact hrc
    have ynum := O.out.yes.1 hrc
    have ylen := O.out.yes.2.1 hrc
    have yopp := O.out.yes.2.2 hrc
    have la := (gA.out _ hF.out).lc
    have lz := (gZ.out _ hF.out).lc
    have r0 := O.out.r0
    have r1 := O.out.r1
    rw [lz, la] at ylen
    have la12 := hl12.out
    rw [la] at la12
    have kc := HM.out.cell 3 rfl 4
    change _ = some (Value.int .i64 r.count) at kc
    have ka3 := HM.out.cell 12 rfl 3
    change _ = some (Value.slice v1.cA v1.cn v1.cc) at ka3
    have kz2 := HM.out.cell 2 rfl 2
    change _ = some (Value.int .i64 z.number) at kz2
    have ky2 := HM.out.cell 4 rfl 2
    change _ = some (Value.int .i64 y.number) at ky2
    have kz3 := HM.out.cell 2 rfl 3
    change _ = some (Value.slice v6.cA v6.cn v6.cc) at kz3
    have ky3 := HM.out.cell 4 rfl 3
    change _ = some (Value.slice v5.cA v5.cn v5.cc) at ky3
    rw [ynum] at kz2
    have cOp := Lib.hid (fun W (hx : EdOwn W v6 z) (hy : EdOwn W v5 y) => opp_any v6.cA v5.cA v6.cn v6.cc v5.cn v5.cc z.cells y.cells W hx.is.cells hy.is.cells yopp)
    generalize hrq : r.count = rc at *
    replace hrq := Lib.hid hrq
    clear ynum yopp lz la
    have hK : K = 1 ∨ K = 2 ∨ K = 6 ∨ (K ≠ 1 ∧ K ≠ 2 ∧ K ≠ 6) := by omega
    unfold wantL at ylen
    have wv1 : IntKind.i64.wrap ((v1.cn : Int) + rc) = (v1.cn : Int) + rc := IntWalk.i64_in _ (by omega)
    have wv2 : IntKind.i64.wrap ((v1.cn : Int) - rc) = (v1.cn : Int) - rc := IntWalk.i64_in _ (by omega)
    rcases hK with rfl | rfl | rfl | ⟨j1, j2, j6⟩
    · skip
      rw [if_pos rfl] at ylen
      have dl : ((v6.cn : Int) == (v1.cn : Int) + rc) = true := by rw [beq_iff_eq]; exact ylen
      have mk27 : Unit := ()
      go_wp2_with (first | go_skip | (go_at_call 26; clear mk27; refine (cOp.out _ (gZ.out _ hF.out) (gY.out _ hF.out)).mono ?_; rintro r w3 ⟨rfl, hb_⟩; clear kc ka3 kz2 ky2 kz3 ky3; replace HM := Lib.hid (HM.out.keep hb_); replace hF := Lib.hid (hFs.keep hF.out hb_); clear hb_; dsimp only) | fail)
      try simp only [Exit.inBlock, Exit.then]
      go_ret
      exact ⟨by first | rfl | trivial, HM.out.below⟩
    · skip
      rw [if_neg (by decide), if_pos rfl] at ylen
      have dl : ((v6.cn : Int) == (v1.cn : Int) - rc) = true := by rw [beq_iff_eq]; exact ylen
      have mk27 : Unit := ()
      go_wp2_with (first | go_skip | (go_at_call 26; clear mk27; refine (cOp.out _ (gZ.out _ hF.out) (gY.out _ hF.out)).mono ?_; rintro r w3 ⟨rfl, hb_⟩; clear kc ka3 kz2 ky2 kz3 ky3; replace HM := Lib.hid (HM.out.keep hb_); replace hF := Lib.hid (hFs.keep hF.out hb_); clear hb_; dsimp only) | fail)
      try simp only [Exit.inBlock, Exit.then]
      go_ret
      exact ⟨by first | rfl | trivial, HM.out.below⟩
    · skip
      rw [if_neg (by decide), if_neg (by decide), if_pos rfl] at ylen
      have dl : ((v6.cn : Int) == 0) = true := by rw [beq_iff_eq]; exact ylen
      have mk27 : Unit := ()
      go_wp2_with (first | go_skip | (go_at_call 26; clear mk27; refine (cOp.out _ (gZ.out _ hF.out) (gY.out _ hF.out)).mono ?_; rintro r w3 ⟨rfl, hb_⟩; clear kc ka3 kz2 ky2 kz3 ky3; replace HM := Lib.hid (HM.out.keep hb_); replace hF := Lib.hid (hFs.keep hF.out hb_); clear hb_; dsimp only) | fail)
      try simp only [Exit.inBlock, Exit.then]
      go_ret
      exact ⟨by first | rfl | trivial, HM.out.below⟩
    · skip
      rw [if_neg j1, if_neg j2, if_neg j6] at ylen
      have dl : ((v6.cn : Int) == (v1.cn : Int)) = true := by rw [beq_iff_eq]; exact ylen
      have dk1 : (K == 1) = false := by rw [beq_eq_false_iff_ne]; exact j1
      have dk2 : (K == 2) = false := by rw [beq_eq_false_iff_ne]; exact j2
      have dk6 : (K == 6) = false := by rw [beq_eq_false_iff_ne]; exact j6
      have mk27 : Unit := ()
      go_wp2_with (first | go_skip | (go_at_call 26; clear mk27; refine (cOp.out _ (gZ.out _ hF.out) (gY.out _ hF.out)).mono ?_; rintro r w3 ⟨rfl, hb_⟩; clear kc ka3 kz2 ky2 kz3 ky3; replace HM := Lib.hid (HM.out.keep hb_); replace hF := Lib.hid (hFs.keep hF.out hb_); clear hb_; dsimp only) | fail)
      try simp only [Exit.inBlock, Exit.then]
      go_ret
      exact ⟨by first | rfl | trivial, HM.out.below⟩
end Tx
end Go.Proofs.YtkfipbelhlcddaaGreat
