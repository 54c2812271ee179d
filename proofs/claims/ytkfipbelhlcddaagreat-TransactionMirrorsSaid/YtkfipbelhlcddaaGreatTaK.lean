/- Chapter 26: change: the program's. -/
import Derived.Test.YtkfipbelhlcddaaGreatTaKs
import Derived.Test.YtkfipbelhlcddaaGreatMt
set_option linter.unusedVariables false
set_option linter.unusedSimpArgs false
namespace Go.Proofs.YtkfipbelhlcddaaGreat
open Go Go.RowKit Go.Sort Go.Shelf Go.Maps
namespace Tx
open Sw Mm Pl
theorem eC1 : ∀ args w, (callFunc 115 args).run Tryz.prog w = .ok (.enter 115 args) w := enters_of Tryz.func115 (by kernel_rfl) rfl
def inB (old : List Spt) (c : TCl) : Bool := decide (place c ∈ old)
set_option maxRecDepth 100000 in
set_option maxHeartbeats 2000000 in
theorem chg1_any (x : TCl) (A : Option Addr) (n c : Nat) (old : List Spt) (B1 : Nat) (w : World) (h : SptS w A n old) (h1 : Box w B1 #[.slice A n c]) :
    Calls Tryz.prog 115 (#[.agg #[.int .i64 x.slot, .int .i64 x.off, .int .i64 x.kind, .bool x.send, .int .i64 x.peer, .int .i64 x.flow]] ++ #[.pointer (some ⟨B1, 0, none⟩)]) w fun e w' => e = .returned (.bool (inB old x)) ∧ Below w.heap.size w w' := by
  show Calls Tryz.prog 115 #[.agg #[.int .i64 x.slot, .int .i64 x.off, .int .i64 x.kind, .bool x.send, .int .i64 x.peer, .int .i64 x.flow], .pointer (some ⟨B1, 0, none⟩)] w _
  have HM := Lib.hid (Mem.start w)
  have cP := fun W => place_any x W
  have cC := fun W (hb : Below w.heap.size w W) => containsS_any A n c old (place x) W (h.keep hb)
  have uT := Tryz.underlying67
  have uL := Tryz.underlying23
  unfold inB
  generalize decide (place x ∈ old) = R at *
  generalize place x = p at *
  obtain ⟨p0, p1⟩ := p
  obtain ⟨x0, x1, x2, x3, x4, x5⟩ := x
  dsimp only [sptA] at *
  replace h := Lib.hid h
  replace h1 := Lib.hid h1
  replace cC := Lib.hid cC
  replace cP := Lib.hid cP
  replace uT := Lib.hid uT
  replace uL := Lib.hid uL
  go_enter Tryz.func115, Tryz.ntmps115
  go_upto_region 1 with (refine wpList_boxA HM rfl 67 _ rfl _ rfl ?_; clear HM; intro gx w1 HM hG; clear hG)
  have HMd := Lib.hid HM.out.drew
  clear HM 
  have HM := HMd
  clear HMd
  have HMs := Lib.hid HM.out
  refine wp_region_plan (fun w' => Mem _ w' _) 3 [(0, true), (1, true), (2, false)] (by kernel_rfl) (by kernel_rfl) HMs.out ?_
  refine plTakeL (by rfl) (yields_cell rfl _ _ rfl ⟨B1, 0, none⟩ rfl (.slice A n c) (fun w_ hSw => by exact (h1.out.keep hSw.below).at_ 0) _ uL.out (by rfl)) ?_
  try simp only [Act.put, List.setIfInBounds_toArray, List.set_cons_zero, List.set_cons_succ, List.getElem_toArray, List.getElem_cons_succ, List.getElem_cons_zero]
  refine plTakeL (by rfl) (yields_memw rfl _ _ rfl 0 (fun w_ hSw => hSw) rfl rfl _ uT.out rfl (by exact ztcl)) ?_
  try simp only [Act.put, List.setIfInBounds_toArray, List.set_cons_zero, List.set_cons_succ, List.getElem_toArray, List.getElem_cons_succ, List.getElem_cons_zero]
  refine plStepL rfl rfl fun K hK => ?_
  go_wp2_with (first | (go_at_call 106; refine (cP.out _).mono ?_; rintro r w3 ⟨rfl, hb_⟩) | fail)
  refine hK.out _ _ (HMs.out.keep hb_) fun hS_ => ?_
  clear hK K hS_
  try simp only [Act.put, List.setIfInBounds_toArray, List.set_cons_zero, List.set_cons_succ, List.getElem_toArray, List.getElem_cons_succ, List.getElem_cons_zero]
  replace HM := Lib.hid (HM.out.keep hb_)
  replace HMs := Lib.hid (HMs.out.keep hb_)
  clear hb_
  refine plDone ?_
  simp only [List.drop]
  go_wp2_with fail
  refine (cC.out _ HM.out.below).mono ?_
  rintro r w5 ⟨rfl, hb_⟩
  have hB := Lib.hid (bthen HM.out.below hb_)
  clear hb_
  go_wp2
  go_ret
  exact ⟨rfl, hB.out⟩
def ChgPost (e : Ed) (v : EdV) (L : List TCl) (w : World) (r : Ending) (w' : World) : Prop := ∃ A n c, r = .returned (.agg (endA { e with cells := L } { v with cA := A, cn := n, cc := c })) ∧ L.length = n ∧ w'.ownsRow w.heap.size 67 6 (.slice A n c) n (L.flatMap tclE) ∧ Below w.heap.size w w'
def chgU (e : Ed) (old spots : List Spt) (send : Bool) (k : Nat) : List TCl := keptN e old ++ newsN e (spots.take k) send
theorem chgU_succ {e : Ed} {old spots : List Spt} {send : Bool} {k : Nat} (h : k < spots.length) : chgU e old spots send (k + 1) = chgU e old spots send k ++ [newC e send (spots.getD k default)] := by
  unfold chgU newsN
  rw [take_snoc h, List.map_append, List.append_assoc]; rfl
theorem chgU_len (e : Ed) (old spots : List Spt) (send : Bool) (k : Nat) : (chgU e old spots send k).length ≤ e.cells.length + k := by
  unfold chgU newsN keptN
  rw [List.length_append, List.length_map]
  have h1 := List.length_filter_le (fun c => !decide (place c ∈ old)) e.cells
  have h2 := List.length_take_le k spots
  omega
theorem chgU_all {e : Ed} {old spots : List Spt} {send : Bool} {k : Nat} (h : spots.length ≤ k) : chgU e old spots send k = keptN e old ++ newsN e spots send := by
  unfold chgU; rw [List.take_of_length_le h]
set_option maxRecDepth 100000 in
set_option maxHeartbeats 2000000 in
theorem change_any (e : Ed) (v : EdV) (old spots : List Spt) (A B : Option Addr) (n c m d : Nat) (send : Bool) (w : World) (h : EdIs w v e) (ho : SptS w A n old) (hs : SptS w B m spots) (hcn : v.cn ≤ 100000) (hm : m ≤ 100000) (hok : ChgOk e old spots) (hbd : ∀ x ∈ keptN e old ++ newsN e spots send, 0 ≤ x.slot ∧ x.slot ≤ 511) : Calls Tryz.prog 69 #[.agg #[.int .i64 e.node, .int .i64 e.peer, .int .i64 e.number, .slice v.cA v.cn v.cc, .bool e.opn, .int .i64 e.since, .int .i64 e.asked.kind, .bool e.asked.reply, .int .i64 e.asked.number, .int .i64 e.asked.code, .int .i64 e.asked.count, .slice v.a.sA v.a.sn v.a.sc, .slice v.a.oA v.a.on v.a.oc, .bool e.known, .int .i64 e.last.kind, .bool e.last.reply, .int .i64 e.last.number, .int .i64 e.last.code, .int .i64 e.last.count, .slice v.l.sA v.l.sn v.l.sc, .slice v.l.oA v.l.on v.l.oc, .int .i64 e.reply.kind, .bool e.reply.reply, .int .i64 e.reply.number, .int .i64 e.reply.code, .int .i64 e.reply.count, .slice v.r.sA v.r.sn v.r.sc, .slice v.r.oA v.r.on v.r.oc], .slice A n c, .slice B m d, .bool send] w (ChgPost e v (chgN e old spots send) w) := by
  have HM := Lib.hid (Mem.start w)
  have cC := fun W (hb : Below w.heap.size w W) => cloneT_any v.cA v.cn v.cc e.cells W (h.cells.keep hb) hcn
  have cD := fun W (hb : Below w.heap.size w W) BO (hB : Blk W BO #[.slice A n c] 23) A1 c1 (hO : W.ownsRow w.heap.size 67 6 (.slice A1 v.cn c1) v.cn (e.cells.flatMap tclE)) => delFnT_any 115 #[.pointer (some ⟨BO, 0, none⟩)] (inB old) A1 v.cn c1 w.heap.size e.cells W eC1 hO (by omega) (fun x _ W2 hg => chg1_any x A n c old BO W2 (ho.keep (Below.grownM hb hg hb.size (fun k hk => (hO.lt k hk).1))) (hB.grown hg (row_ne_blk hO hB (by decide))).box)
  have cS := fun W ys (hp : ∀ x ∈ ys, 0 ≤ x.slot ∧ x.slot ≤ 511) A1 n1 c1 (hO : W.ownsRow w.heap.size 67 6 (.slice A1 n1 c1) n1 (ys.flatMap tclE)) (hl : n1 ≤ 1000000) => sortT_any ys hp A1 n1 c1 w.heap.size W hO hl
  have hK : (e.cells.filter fun x => !inB old x) = chgU e old spots send 0 := by unfold chgU keptN newsN inB; simp
  have hsucc := fun k (hk : k < m) => chgU_succ (e := e) (old := old) (spots := spots) (send := send) (k := k) (by rw [hs.len]; exact hk)
  have hul := fun k => chgU_len e old spots send k
  have hall := chgU_all (e := e) (old := old) (send := send) (k := m) (Nat.le_of_eq hs.len)
  have hst := fun (l : List TCl) hp hso => chg_sorted (send := send) hok (l := l) hp hso
  have hlc := h.cells.len
  unfold newC at hsucc
  generalize hP : ChgPost e v (chgN e old spots send) w = P
  have hPo : ∀ w' A2 n2 c2, ∀ L : List TCl, L = chgN e old spots send → L.length = n2 → w'.ownsRow w.heap.size 67 6 (.slice A2 n2 c2) n2 (L.flatMap tclE) → Below w.heap.size w w' → P (.returned (.agg (endA { e with cells := chgN e old spots send } { v with cA := A2, cn := n2, cc := c2 }))) w' := fun w' A2 n2 c2 L e1 e2 e3 e4 => by rw [← hP]; subst e1; exact ⟨A2, n2, c2, rfl, e2, e3, e4⟩
  clear hP
  generalize chgN e old spots send = CN at *
  generalize chgU e old spots send = U at *
  generalize keptN e old ++ newsN e spots send = UA at *
  have uE := Tryz.underlying27
  replace h := Lib.hid h
  replace ho := Lib.hid ho
  replace hs := Lib.hid hs
  replace cC := Lib.hid cC
  replace cD := Lib.hid cD
  replace cS := Lib.hid cS
  replace hK := Lib.hid hK
  replace hsucc := Lib.hid hsucc
  replace hul := Lib.hid hul
  replace hall := Lib.hid hall
  replace hst := Lib.hid hst
  replace hPo := Lib.hid hPo
  replace hbd := Lib.hid hbd
  replace uE := Lib.hid uE
  replace hlc := Lib.hid hlc
  clear hok
  go_enter Tryz.func69, Tryz.ntmps69
  go_upto_region 1 with (first | (refine wpList_boxA HM rfl 27 _ rfl _ rfl ?_; clear HM; intro ge w1 HM hG; clear hG) | (refine wpList_boxM HM rfl 23 _ rfl (.slice A n c) rfl ?_; clear HM; intro go w1 HM hG; clear hG; simp only [Value.cells] at HM) | (refine wpList_allocA HM rfl 27 rfl (by first | exact msgInfo | exact edInfo | exact tabInfo | exact info_tcl | exact info_spt) ?_; clear HM; intro g8 w1 HM hG; clear hG))
  have ke := HM.out.cell 2 rfl
  go_upto_region 2 with (first
    | (refine wpList_storeM 2 HM rfl _ _ _ rfl _ _ rfl rfl _ (by conv => {lhs; whnf}) (by exact zslT) (by rfl) (Nat.le_of_ble_eq_true (by rfl)) _ (by simp only [setL, List.set, Value.cells]; exact rfl) ?_; clear HM ke; intro w4 HM hG4; simp only [List.set] at HM; have ke := HM.out.cell 2 rfl)
    | (go_at_call 75; refine (cC.out _ HM.out.below).mono ?_; rintro r w3 ⟨A1, c1, rfl, hO1, hb_⟩; replace hO1 := Lib.hid (own_base hO1 HM.out.below.size); have HM2 := Lib.hid (HM.out.keep hb_); clear HM hb_ ke cC; have HM := HM2; clear HM2; have ke := HM.out.cell 2 rfl)
    | (go_at_call 114; refine (cD.out _ HM.out.below _ (HM.out.at_ 1 rfl) A1 c1 hO1.out).mono ?_; rintro r w3 ⟨n1, rfl, hn1, hO2, hg⟩; replace hn1 := Lib.hid hn1; have HM2 := Lib.hid (HM.out.row hO1.out hg (Nat.le_refl _) (apart_of (by rfl))); clear HM ke cD; have HM := HM2; clear HM2; have ke := HM.out.cell 2 rfl; have hBq := Lib.hid (HM.out.at_ 2 rfl))
    | fail)
  have hO3 := Lib.hid (hO2.kept hG4.out (.inr (row_ne_blk hO2 hBq.out (by decide))))
  clear hG4 hBq hO1 hO2 hg
  rw [hK.out] at hO3 hn1
  clear hK
  have hHL : Hid ((U 0).length = n1) := hn1.out.symm
  clear hn1
  go_wp2_with fail
  go_loopw [10, 19] (fun _ i wr => Hid (∃ (k n2 : Nat) (A2 : Option Addr) (c2 : Nat), k ≤ m ∧ i = .int .i64 k ∧ Hid ((U k).length = n2) ∧ Hid (wr.ownsRow w.heap.size 67 6 (.slice A2 n2 c2) n2 ((U k).flatMap tclE)) ∧ Hid (Mem w wr [(g8, #[.int .i64 0, .int .i64 0, .int .i64 0, .slice none 0 0, .bool false, .int .i64 0, .int .i64 0, .bool false, .int .i64 0, .int .i64 0, .int .i64 0, .slice none 0 0, .slice none 0 0, .bool false, .int .i64 0, .bool false, .int .i64 0, .int .i64 0, .int .i64 0, .slice none 0 0, .slice none 0 0, .int .i64 0, .bool false, .int .i64 0, .int .i64 0, .int .i64 0, .slice none 0 0, .slice none 0 0], 27), (go, #[.slice A n c], 23), (ge, #[.int .i64 e.node, .int .i64 e.peer, .int .i64 e.number, .slice A2 n2 c2, .bool e.opn, .int .i64 e.since, .int .i64 e.asked.kind, .bool e.asked.reply, .int .i64 e.asked.number, .int .i64 e.asked.code, .int .i64 e.asked.count, .slice v.a.sA v.a.sn v.a.sc, .slice v.a.oA v.a.on v.a.oc, .bool e.known, .int .i64 e.last.kind, .bool e.last.reply, .int .i64 e.last.number, .int .i64 e.last.code, .int .i64 e.last.count, .slice v.l.sA v.l.sn v.l.sc, .slice v.l.oA v.l.on v.l.oc, .int .i64 e.reply.kind, .bool e.reply.reply, .int .i64 e.reply.number, .int .i64 e.reply.code, .int .i64 e.reply.count, .slice v.r.sA v.r.sn v.r.sc, .slice v.r.oA v.r.on v.r.oc], 27)]))) (fun _ i _ => m - (intOf i).toNat)
  case atStart => exact Lib.hid ⟨0, n1, A1, c1, by omega, rfl, hHL, hO3, HM⟩
  case round =>
    clear HM ke hO3 hHL
    obtain ⟨k, n2, A2, c2, hk, rfl, HL, HO, HM⟩ := hrel.out
    clear hrel
    have ke := HM.out.cell 2 rfl
    have hlen2 := hul.out k
    rw [HL.out, hlc.out] at hlen2
    by_cases hlt2 : k < m
    · obtain ⟨b, off, rfl⟩ := hs.out.addr (by omega)
      have hx := spt_at (hs.out.keep HM.out.below) hlt2
      have hst2 := hsucc.out k hlt2
      generalize spots.getD k default = x at *
      obtain ⟨x0, x1⟩ := x
      obtain ⟨q0, q1⟩ := hx
      dsimp only at q0 q1 hst2
      have r1 : (k : Int) < (m : Int) := by omega
      replace hst2 := Lib.hid hst2
      go_upto_region 5 with (first | (refine wpList_allocN HM rfl 78 rfl info_spt ?_; clear HM ke; intro gs w1 HM hG hN9; have ke := HM.out.cell 3 rfl) | (refine wpList_storeF 0 HM rfl _ _ _ rfl _ rfl rfl _ rfl (by exact zspt) (by rfl) (by rfl) ?_; clear HM ke; intro w4 HM hG4; simp only [List.set] at HM; have ke := HM.out.cell 3 rfl))
      have hb_ := hG.out.grown hG4.out hG.out.size (fun k e => by cases e; exact hN9.out)
      replace HO := Lib.hid (owns_keep HO.out hb_)
      clear q0 q1 hG hG4 hN9 hb_
      have kc := HM.out.cell 0 rfl
      have hmm : n2 ≤ 200000 := by omega
      go_wp2_with (first
        | (refine wpList_storeM 3 HM rfl _ _ _ rfl _ _ rfl rfl _ (by conv => {lhs; whnf}) (by exact zslT) (by rfl) (Nat.le_of_ble_eq_true (by rfl)) _ (by simp only [setL, List.set, Value.cells]; exact rfl) ?_; clear HM ke kc; intro w4 HM hG4; simp only [List.set] at HM; have ke := HM.out.cell 3 rfl; have kc := HM.out.cell 0 rfl)
        | (at_builtin; refine wpList_append_sls eltT _ rfl _ _ rfl w.heap.size (.slice A2 n2 c2) (U k) rfl (by rw [HL.out]; exact HO.out.alloc _) _ 1 1 [⟨x0, x1, 2, send, e.peer, -1⟩] rfl (Sls.one (Blk.new _ _ _)) (by rw [HL.out]; simp; omega) (by first | exact (ballN HM.out.below _).size | (have := HM.out.below.size; simp; omega)) ?_; intro v1 w6 HO1 HG1 _; rw [List.length_append, HL.out, List.length_singleton] at HO1; obtain ⟨A3, c3, rfl⟩ := own_slice HO1; replace HO1 := Lib.hid HO1; have HM2 := Lib.hid ((HM.out.keep (ball _ _)).row (HO.out.alloc _) HG1 (Nat.le_refl _) (apart_of (by rfl))); clear HM ke kc HG1; have HM := HM2; clear HM2; have ke := HM.out.cell 3 rfl; have kc := HM.out.cell 0 rfl; have hBq := Lib.hid (HM.out.at_ 3 rfl))
        | fail)
      have hO4 := Lib.hid (HO1.out.kept hG4.out (.inr (row_ne_blk HO1.out hBq.out (by decide))))
      have hL4 := congrArg List.length hst2.out
      rw [← hst2.out] at hO4
      rw [List.length_append, HL.out, List.length_singleton] at hL4
      have HM2 := Lib.hid HM.out.tail
      replace hL4 := Lib.hid hL4
      exact ⟨Lib.hid ⟨k + 1, n2 + 1, A3, c3, by omega, by go_num, hL4, hO4, HM2⟩, by simp [intOf]; omega⟩
    · have hkm : k = m := by omega
      subst hkm
      have hA := hall.out
      rw [hA] at HL HO
      have cS2 := Lib.hid (cS.out wr UA hbd.out A2 n2 c2 HO.out (by omega))
      go_wp2_with (first
        | (go_at_call 117; refine cS2.out.mono ?_; rintro r w5 ⟨rfl, ys, hp, hso, hOy, hg⟩; have HM2 := Lib.hid (HM.out.row HO.out hg (Nat.le_refl _) (apart_of (by rfl))); clear HM ke cS2; have HM := HM2; clear HM2; have ke := HM.out.cell 2 rfl; replace hOy := Lib.hid hOy; have hBq := Lib.hid (HM.out.at_ 0 rfl))
        | (refine wpList_loadM 2 HM rfl _ _ rfl _ rfl rfl _ uE.out rfl (by exact zend) ?_)
        | (refine wpList_storeF 0 HM rfl _ _ _ rfl _ rfl rfl _ rfl (by exact zend) (by rfl) (by rfl) ?_; clear HM ke; intro w4 HM hG4; simp only [List.set] at HM; have ke := HM.out.cell 2 rfl)
        | fail)
      try simp only [Exit.inBlock, Exit.then]
      refine bodyPost_ret (results_c rfl (HM.out.at_ 0 rfl) rfl _ uE.out rfl (by exact zend)) rfl ?_
      have hyl : ys.length = n2 := hp.length_eq.trans HL.out
      exact hPo.out _ A2 n2 c2 ys (hst.out ys hp hso) hyl (hOy.out.kept hG4.out (.inr (row_ne_blk hOy.out hBq.out (by decide)))) HM.out.below
end Tx
end Go.Proofs.YtkfipbelhlcddaaGreat
