/- Plans: operations that are guarded. -/
import Derived.Test.YtkfipbelhlcddaaGreatMt
import Derived.Test.YtkfipbelhlcddaaGreatTbW
import Derived.Test.YtkfipbelhlcddaaGreatTg
import Derived.Test.YtkfipbelhlcddaaGreatTaJs
set_option linter.unusedVariables false
set_option linter.unusedSimpArgs false
namespace Go.Proofs.YtkfipbelhlcddaaGreat.Pl
open Go
section
variable {P : Program} {Q : Exit → Act → World → Prop} {S : World → Prop}
theorem plPureG {l : List Oper} {L : Act → World → Prop} {i : Nat} {p : List (Nat × Bool)} {o : Oper} {v : Value} {a : Act} {w : World} (ho : l[i]? = some o) (hw : Region.wanted o (yielded l.toArray a.tmps) = true) (hy : ∀ w, S w → (execOp a.eval o).run P w = .ok (.value v) w) (h : wpPl P l.toArray Q S L p (a.put o.dst v) w) : wpPl P l.toArray Q S L ((i, true) :: p) a w := plTakeL ho (.inl ⟨hw, hy⟩) h
theorem plSkipG {l : List Oper} {L : Act → World → Prop} {i : Nat} {p : List (Nat × Bool)} {o : Oper} {a : Act} {w : World} (ho : l[i]? = some o) (hw : Region.wanted o (yielded l.toArray a.tmps) = false) (h : wpPl P l.toArray Q S L p (a.put o.dst undef) w) : wpPl P l.toArray Q S L ((i, true) :: p) a w := plTakeL ho (.inr ⟨hw, rfl⟩) h
theorem plStepG {l : List Oper} {L : Act → World → Prop} {i : Nat} {p : List (Nat × Bool)} {o : Oper} {a : Act} {w : World} (ho : l[i]? = some o) (hw : Region.wanted o (yielded l.toArray a.tmps) = true) (h : ∀ K : Act → World → Prop, Shut (∀ a' w', S w' → (S w' → wpPl P l.toArray Q S L p a' w') → K a' w') → wpList P l.toArray (Exit.then K Q) [o] a w) : wpPl P l.toArray Q S L ((i, false) :: p) a w := by
  have h1 := h _ (fun a' w' h1 h2 => And.intro h1 (h2 h1))
  show wpOp P l.toArray Q i _ a w
  unfold wpOp
  have hx : l.toArray[i]? = some o := by simpa using ho
  simp only [hx, hw, if_true]
  simp only [wpList, hw, if_true] at h1
  rcases h1 with h1 | ⟨h1, h2⟩
  · refine .inl ?_
    unfold Oper.wp at *
    generalize (execOp a.eval o).run P w = r at *
    cases r with
    | ok x w' => cases x <;> exact h1
    | halt x w' => cases x <;> exact h1
  · obtain ⟨a', w', h2⟩ := h2
    exact .inr ⟨h1, a', w', h2⟩
end
end Go.Proofs.YtkfipbelhlcddaaGreat.Pl
namespace Go.Proofs.YtkfipbelhlcddaaGreat
open Go Go.RowKit Go.Sort Go.Lib
namespace Tx
open Sw Mm Pl
section
variable {P : Program} {ops : Array Oper} {Q : Exit → Act → World → Prop} {S : World → Prop}
/-- a load of a whole block that is known, the load guarded or not -/
theorem yields_memG {o : Oper} {a : Act} {a0 : World} {L : List (Nat × Array Value × TypeId)} (hw : Region.wanted o (yielded ops a.tmps) = true) (ty : TypeId) (x : Operand) (ho : o.op = .load ty x) (i : Nat) {B : Nat} {C : Array Value} {t : TypeId} (hS : ∀ w, S w → Mem a0 w L) (hL : L[i]? = some (B, C, t)) (hx : a.eval x = .pointer (some ⟨B, 0, none⟩))
    (d : TypeDesc) (hu : P.underlying ty = some d) (hd : d.isRow = true) (hi : (P.info? ty).map (·.size) = some C.size) : YieldsIf P ops S o (.agg C) a :=
  yieldsIf_load_mid hw ty x ho B 0 hx C.toList d (fun w hs => (hS w hs).range i hL 0 C (by simp)) hu hd (by rw [hi]; simp)
/-- a load of one cell of a block that is known whole, the load guarded or not -/
theorem yields_celG {o : Oper} {a : Act} {a0 : World} {L : List (Nat × Array Value × TypeId)} (hw : Region.wanted o (yielded ops a.tmps) = true) (ty : TypeId) (x : Operand) (ho : o.op = .load ty x) (i : Nat) {B : Nat} {C : Array Value} {t : TypeId} (hS : ∀ w, S w → Mem a0 w L) (hL : L[i]? = some (B, C, t)) (k : Nat) (hx : a.eval x = .pointer (some ⟨B, k, none⟩)) (v : Value) (hv : C[k]? = some v)
    (d : TypeDesc) (hu : P.underlying ty = some d) (hd : (match d with | .struct _ | .array _ _ => true | _ => false) = false) : YieldsIf P ops S o v a :=
  .inl ⟨hw, fun w hs => by
    have h1 := ((hS w hs).cell i hL k).trans hv
    simp [execOp, ho, hx, Instr.loadAt, Instr.sureAddr, loadVar, run_isAgg_plain hu hd, run_load, h1]⟩
/-- a plain operation of a region in its order, guarded or not -/
theorem wpList_pureX {rest : List Oper} {op : Oper} {v : Value} {a : Act} {w : World} (hw : Region.wanted op (yielded ops a.tmps) = true) (hy : (execOp a.eval op).run P w = .ok (.value v) w) (h : wpList P ops Q rest (a.put op.dst v) w) : wpList P ops Q (op :: rest) a w :=
  wpList_step fun K hK => by
    rw [if_pos hw]
    simp only [Oper.wp, hy, Oper.upon]
    exact hK _ _ h
/-- a load of one cell of a block that is known whole, guarded or not -/
theorem wpList_loadC {rest : List Oper} {op : Oper} {a : Act} {w : World} (i : Nat) {a0 : World} {L : List (Nat × Array Value × TypeId)} (hM : Hid (Mem a0 w L)) (hw : Region.wanted op (yielded ops a.tmps) = true) (ty : TypeId) (x : Operand) (ho : op.op = .load ty x) {B : Nat} {C : Array Value} {t : TypeId} (hL : L[i]? = some (B, C, t)) (k : Nat) (hx : a.eval x = .pointer (some ⟨B, k, none⟩)) (v : Value) (hv : C[k]? = some v)
    (d : TypeDesc) (hu : P.underlying ty = some d) (hd : (match d with | .struct _ | .array _ _ => true | _ => false) = false) (h : wpList P ops Q rest (a.put op.dst v) w) : wpList P ops Q (op :: rest) a w :=
  wpList_pureX hw (by
    have h1 := (hM.out.cell i hL k).trans hv
    simp [execOp, ho, hx, Instr.loadAt, Instr.sureAddr, loadVar, run_isAgg_plain hu hd, run_load, h1]) h
end
end Tx
end Go.Proofs.YtkfipbelhlcddaaGreat
namespace Go.Proofs.YtkfipbelhlcddaaGreat
open Go Go.RowKit Go.Sort Go.Shelf Go.Maps
namespace Tx
open Sw Mm Pl
theorem i64_wf {v : Int} (h : (Lit.int .i64 v).wf = true) : -(2 ^ 63 : Int) ≤ v ∧ v < 2 ^ 63 := by
  simp only [Lit.wf, Bool.and_eq_true, decide_eq_true_eq] at h
  have h1 : IntKind.i64.min = -(2 ^ 63 : Int) := by kernel_rfl
  have h2 : IntKind.i64.max = 2 ^ 63 - 1 := by kernel_rfl
  omega
set_option maxRecDepth 100000 in
set_option maxHeartbeats 16000000 in
theorem ends_any (e : Ed) (node peer slot wait : Int) (v : EdV) (w : World) (h : EdIs w v e) (hs1 : -(2 ^ 63 : Int) ≤ slot) (hs2 : slot < 2 ^ 63) : Calls Tryz.prog 9 #[.agg (endA e v), .int .i64 node, .int .i64 peer, .int .i64 slot, .int .i64 wait] w fun r w' => r = .returned (.bool true) ∧ Below w.heap.size w w' := by
  have HM := Lib.hid (Mem.start w)
  obtain ⟨F0, hFs, hF⟩ : ∃ F : World → Prop, Stb F ∧ Hid (F w) := ⟨_, Stb.true, trivial⟩
  have uE := Tryz.underlying27
  have uT := Tryz.underlying29
  have uM := Tryz.underlying25
  have cAw := fun W => awake_any W
  have cFe := fun W (hb : Below w.heap.size w W) => fewE_any e v W (h.keep hb)
  have cN := fun W => next_any node W
  have cNr := fun W => rnext_any node W
  have cK := fun W (hb : Below w.heap.size w W) => chkE_any e v W (h.keep hb)
  have cKr := fun W (hb : Below w.heap.size w W) => rchkE_any e v W (h.keep hb)
  rw [rChkE_eq] at cKr
  have cS := fun W => start_own node peer W
  have cSr := fun W => rstart_own node peer W
  have cX := fun W (hb : Below w.heap.size w W) => expire_two e v slot wait W (h.keep hb) hs1 hs2
  have cXr := fun W (hb : Below w.heap.size w W) => rexpire_any e v slot wait W (h.keep hb) hs1 hs2
  have cC := fun W (hb : Below w.heap.size w W) => clear_own e v W (h.keep hb)
  have cCr := fun W (hb : Below w.heap.size w W) => rclear_own e v W (h.keep hb)
  change ∀ W, _ → Calls _ _ #[.agg (endA e v)] _ _ at cFe
  change ∀ W, _ → Calls _ _ #[.agg (endA e v)] _ _ at cK
  change ∀ W, _ → Calls _ _ #[.agg (endA e v), _, _] _ _ at cX
  change ∀ W, _ → Calls _ _ #[.agg (endA e v)] _ _ at cC
  have cE := fun a va vb W (h1 : EdIs W va a) (h2 : EdIs W vb a) => sameE_any a a va vb W h1 h2
  simp only [eq_self, decide_true] at cE
  unfold EndOwn at cS cSr cC cCr
  unfold ExTwo at cX cXr
  generalize fewE e = B1 at *
  generalize nextN node = NX at *
  generalize chkE e = CK at *
  generalize startN node peer = SN at *
  generalize startC node peer = SC at *
  generalize expN e slot wait = XN at *
  generalize expB e slot wait = XB at *
  generalize clrN e = CN at *
  generalize clrC e = CC at *
  replace h := Lib.hid h
  replace cAw := Lib.hid cAw
  replace cFe := Lib.hid cFe
  replace cN := Lib.hid cN
  replace cNr := Lib.hid cNr
  replace cK := Lib.hid cK
  replace cKr := Lib.hid cKr
  replace cS := Lib.hid cS
  replace cSr := Lib.hid cSr
  replace cX := Lib.hid cX
  replace cXr := Lib.hid cXr
  replace cC := Lib.hid cC
  replace cCr := Lib.hid cCr
  replace cE := Lib.hid cE
  replace uE := Lib.hid uE
  clear uT uM hs1 hs2
  go_enter Tryz.func9, Tryz.ntmps9
  go_upto_region 1 with (first | go_skip | (refine wpList_boxA HM rfl 27 _ rfl _ rfl ?_; clear HM; intro g5 w1 HM hG; replace hF := Lib.hid (hFs.keep hF.out hG.out); clear hG) | fail)
  have mk1 : Unit := ()
  go_upto_region 3 with (first | go_skip | (go_at_call 11; clear mk1; refine (cAw.out _).mono ?_; rintro r w3 ⟨rfl, hb_⟩; replace HM := Lib.hid (HM.out.keep hb_); replace hF := Lib.hid (hFs.keep hF.out hb_); clear hb_; dsimp only) | fail)
  have mk2 : Unit := ()
  cases B1
  case false =>
    go_wp2_with (first | go_skip | (refine wpList_loadG 0 HM (by rfl) _ _ rfl _ rfl rfl _ uE.out rfl (by exact zend) ?_) | (go_at_call 12; clear mk2; refine (cFe.out _ HM.out.below).mono ?_; rintro r w3 ⟨rfl, hb_⟩; replace HM := Lib.hid (HM.out.keep hb_); replace hF := Lib.hid (hFs.keep hF.out hb_); clear hb_; dsimp only) | fail)
    try simp only [Exit.inBlock, Exit.then]
    go_ret
    exact ⟨by first | rfl | trivial, HM.out.below⟩
  go_upto_region 5 with (first | go_skip | (refine wpList_loadG 0 HM (by rfl) _ _ rfl _ rfl rfl _ uE.out rfl (by exact zend) ?_) | (go_at_call 12; clear mk2; refine (cFe.out _ HM.out.below).mono ?_; rintro r w3 ⟨rfl, hb_⟩; replace HM := Lib.hid (HM.out.keep hb_); replace hF := Lib.hid (hFs.keep hF.out hb_); clear hb_; dsimp only) | fail)
  have mk3 : Unit := ()
  have mk4 : Unit := ()
  go_upto_region 6 with (first | go_skip | (go_at_call 30; clear mk3; refine (cS.out _).mono ?_; rintro r w3 ⟨v1, rfl, hE, hb_⟩; replace HM := Lib.hid (HM.out.keep hb_); replace hF := Lib.hid (hFs.keep hF.out hb_); clear hb_; obtain ⟨F1, hFs2, hF2, hU, hNw⟩ := stb_add hFs hF (Stb.ed v1 _) hE; clear hFs hF; have gA := Lib.hid hNw; clear hNw hU; have hFs := hFs2; have hF := hF2; clear hFs2 hF2 hE; dsimp only) | (clear mk4; refine wpList_allocN HM rfl 27 rfl edInfo ?_; clear HM; intro g11 w1 HM hG hN9; replace hF := Lib.hid (hFs.keep hF.out hG.out); clear hG hN9) | (refine wpList_storeF 0 HM rfl _ _ _ rfl _ rfl rfl _ rfl (by exact zend) (by rfl) (by rfl) ?_; have hBq := HM.out.at_ 0 rfl; clear HM; intro w4 HM hG4; simp only [List.set] at HM; replace hF := Lib.hid (hFs.put hF.out hBq (by decide) (by decide) hG4.out); clear hBq hG4) | fail)
  have mk5 : Unit := ()
  have mk6 : Unit := ()
  go_upto_region 7 with (first | go_skip | (go_at_call 31; clear mk5; refine (cSr.out _).mono ?_; rintro r w3 ⟨v2, rfl, hE, hb_⟩; replace HM := Lib.hid (HM.out.keep hb_); replace hF := Lib.hid (hFs.keep hF.out hb_); clear hb_; obtain ⟨F2, hFs2, hF2, hU, hNw⟩ := stb_add hFs hF (Stb.ed v2 _) hE; clear hFs hF; replace gA := Lib.hid (fun W h => gA.out W (hU W h)); have gB := Lib.hid hNw; clear hNw hU; have hFs := hFs2; have hF := hF2; clear hFs2 hF2 hE; dsimp only) | (clear mk6; refine wpList_allocN HM rfl 27 rfl edInfo ?_; clear HM; intro g13 w1 HM hG hN9; replace hF := Lib.hid (hFs.keep hF.out hG.out); clear hG hN9) | (refine wpList_storeF 0 HM rfl _ _ _ rfl _ rfl rfl _ rfl (by exact zend) (by rfl) (by rfl) ?_; have hBq := HM.out.at_ 0 rfl; clear HM; intro w4 HM hG4; simp only [List.set] at HM; replace hF := Lib.hid (hFs.put hF.out hBq (by decide) (by decide) hG4.out); clear hBq hG4) | fail)
  have mk7 : Unit := ()
  have mk8 : Unit := ()
  go_upto_region 8 with (first | go_skip | (refine wpList_loadG 2 HM (by rfl) _ _ rfl _ rfl rfl _ uE.out rfl (by exact zend) ?_) | (go_at_call 29; clear mk7; refine (cX.out _ HM.out.below).mono ?_; rintro r w3 ⟨v3, rfl, hE, hb_⟩; replace HM := Lib.hid (HM.out.keep hb_); replace hF := Lib.hid (hFs.keep hF.out hb_); clear hb_; obtain ⟨F3, hFs2, hF2, hU, hNw⟩ := stb_add hFs hF (Stb.exTwo e v _ v3) hE; clear hFs hF; replace gA := Lib.hid (fun W h => gA.out W (hU W h)); replace gB := Lib.hid (fun W h => gB.out W (hU W h)); have gX := Lib.hid hNw; clear hNw hU; have hFs := hFs2; have hF := hF2; clear hFs2 hF2 hE; dsimp only) | (clear mk8; refine wpList_allocN HM rfl 27 rfl edInfo ?_; clear HM; intro g15 w1 HM hG hN9; replace hF := Lib.hid (hFs.keep hF.out hG.out); clear hG hN9) | (refine wpList_storeF 0 HM rfl _ _ _ rfl _ rfl rfl _ rfl (by exact zend) (by rfl) (by rfl) ?_; have hBq := HM.out.at_ 0 rfl; clear HM; intro w4 HM hG4; simp only [List.set] at HM; replace hF := Lib.hid (hFs.put hF.out hBq (by decide) (by decide) hG4.out); clear hBq hG4) | fail)
  have mk9 : Unit := ()
  have mk10 : Unit := ()
  go_upto_region 9 with (first | go_skip | (refine wpList_loadG 3 HM (by rfl) _ _ rfl _ rfl rfl _ uE.out rfl (by exact zend) ?_) | (go_at_call 32; clear mk9; refine (cXr.out _ HM.out.below).mono ?_; rintro r w3 ⟨v4, rfl, hE, hb_⟩; replace HM := Lib.hid (HM.out.keep hb_); replace hF := Lib.hid (hFs.keep hF.out hb_); clear hb_; obtain ⟨F4, hFs2, hF2, hU, hNw⟩ := stb_add hFs hF (Stb.exTwo e v _ v4) hE; clear hFs hF; replace gA := Lib.hid (fun W h => gA.out W (hU W h)); replace gB := Lib.hid (fun W h => gB.out W (hU W h)); replace gX := Lib.hid (fun W h => gX.out W (hU W h)); have gY := Lib.hid hNw; clear hNw hU; have hFs := hFs2; have hF := hF2; clear hFs2 hF2 hE; dsimp only) | (clear mk10; refine wpList_allocN HM rfl 27 rfl edInfo ?_; clear HM; intro g17 w1 HM hG hN9; replace hF := Lib.hid (hFs.keep hF.out hG.out); clear hG hN9) | (refine wpList_storeF 0 HM rfl _ _ _ rfl _ rfl rfl _ rfl (by exact zend) (by rfl) (by rfl) ?_; have hBq := HM.out.at_ 0 rfl; clear HM; intro w4 HM hG4; simp only [List.set] at HM; replace hF := Lib.hid (hFs.put hF.out hBq (by decide) (by decide) hG4.out); clear hBq hG4) | fail)
  have mk11 : Unit := ()
  have mk12 : Unit := ()
  go_upto_region 10 with (first | go_skip | (refine wpList_loadG 4 HM (by rfl) _ _ rfl _ rfl rfl _ uE.out rfl (by exact zend) ?_) | (go_at_call 33; clear mk11; refine (cC.out _ HM.out.below).mono ?_; rintro r w3 ⟨v5, rfl, hE, hb_⟩; replace HM := Lib.hid (HM.out.keep hb_); replace hF := Lib.hid (hFs.keep hF.out hb_); clear hb_; obtain ⟨F5, hFs2, hF2, hU, hNw⟩ := stb_add hFs hF (Stb.ed v5 _) hE; clear hFs hF; replace gA := Lib.hid (fun W h => gA.out W (hU W h)); replace gB := Lib.hid (fun W h => gB.out W (hU W h)); replace gX := Lib.hid (fun W h => gX.out W (hU W h)); replace gY := Lib.hid (fun W h => gY.out W (hU W h)); have gP := Lib.hid hNw; clear hNw hU; have hFs := hFs2; have hF := hF2; clear hFs2 hF2 hE; dsimp only) | (clear mk12; refine wpList_allocN HM rfl 27 rfl edInfo ?_; clear HM; intro g19 w1 HM hG hN9; replace hF := Lib.hid (hFs.keep hF.out hG.out); clear hG hN9) | (refine wpList_storeF 0 HM rfl _ _ _ rfl _ rfl rfl _ rfl (by exact zend) (by rfl) (by rfl) ?_; have hBq := HM.out.at_ 0 rfl; clear HM; intro w4 HM hG4; simp only [List.set] at HM; replace hF := Lib.hid (hFs.put hF.out hBq (by decide) (by decide) hG4.out); clear hBq hG4) | fail)
  have mk13 : Unit := ()
  have mk14 : Unit := ()
  go_upto_region 11 with (first | go_skip | (refine wpList_loadG 5 HM (by rfl) _ _ rfl _ rfl rfl _ uE.out rfl (by exact zend) ?_) | (go_at_call 34; clear mk13; refine (cCr.out _ HM.out.below).mono ?_; rintro r w3 ⟨v6, rfl, hE, hb_⟩; replace HM := Lib.hid (HM.out.keep hb_); replace hF := Lib.hid (hFs.keep hF.out hb_); clear hb_; obtain ⟨F6, hFs2, hF2, hU, hNw⟩ := stb_add hFs hF (Stb.ed v6 _) hE; clear hFs hF; replace gA := Lib.hid (fun W h => gA.out W (hU W h)); replace gB := Lib.hid (fun W h => gB.out W (hU W h)); replace gX := Lib.hid (fun W h => gX.out W (hU W h)); replace gY := Lib.hid (fun W h => gY.out W (hU W h)); replace gP := Lib.hid (fun W h => gP.out W (hU W h)); have gQ := Lib.hid hNw; clear hNw hU; have hFs := hFs2; have hF := hF2; clear hFs2 hF2 hE; dsimp only) | (clear mk14; refine wpList_allocN HM rfl 27 rfl edInfo ?_; clear HM; intro g21 w1 HM hG hN9; replace hF := Lib.hid (hFs.keep hF.out hG.out); clear hG hN9) | (refine wpList_storeF 0 HM rfl _ _ _ rfl _ rfl rfl _ rfl (by exact zend) (by rfl) (by rfl) ?_; have hBq := HM.out.at_ 0 rfl; clear HM; intro w4 HM hG4; simp only [List.set] at HM; replace hF := Lib.hid (hFs.put hF.out hBq (by decide) (by decide) hG4.out); clear hBq hG4) | fail)
  clear cS cSr cX cXr cC cCr cAw cFe
  replace hF := Lib.hid (hFs.keep hF.out ((Below.refl _ _).drew))
  replace HM := Lib.hid (HM.out.keep ((Below.refl _ _).drew))
  have HMs := Lib.hid HM.out
  refine wp_region_plan (fun w' => Mem _ w' _) 40 [(0, true), (2, true), (1, false), (3, false), (4, true), (5, true), (6, true), (8, true), (7, false), (9, false), (10, true), (11, true), (12, true), (13, true), (14, true), (15, true), (16, true), (17, true), (18, true), (19, true), (20, true), (21, true), (22, true), (23, true), (24, true), (25, true), (26, true), (27, true), (28, true), (29, true), (30, false), (31, true), (32, true), (33, true), (34, true), (35, false), (36, true), (37, true), (38, true), (39, true)] (by kernel_rfl) (by kernel_rfl) HMs.out ?_
  generalize World.drew _ = wd at *
  repeat (first | (refine plPureG rfl rfl (by intro w_ hSw; go_simp; first | done | exact rfl) ?_; try simp only [Act.put, List.setIfInBounds_toArray, List.set_cons_zero, List.set_cons_succ, List.getElem_toArray, List.getElem_cons_succ, List.getElem_cons_zero]) | (refine plSkipG rfl rfl ?_; try simp only [Act.put, List.setIfInBounds_toArray, List.set_cons_zero, List.set_cons_succ, List.getElem_toArray, List.getElem_cons_succ, List.getElem_cons_zero]))
  refine plStepG rfl rfl fun K hK => ?_
  go_wp2_with (first | (go_at_call 28; refine (cN.out _).mono ?_; rintro r w_ ⟨rfl, rfl⟩; dsimp only) | fail)
  refine hK.out _ _ (HMs.out) fun hS_ => ?_
  clear hK K hS_
  try simp only [Act.put, List.setIfInBounds_toArray, List.set_cons_zero, List.set_cons_succ, List.getElem_toArray, List.getElem_cons_succ, List.getElem_cons_zero]
  refine plStepG rfl rfl fun K hK => ?_
  go_wp2_with (first | (go_at_call 35; refine (cNr.out _).mono ?_; rintro r w_ ⟨rfl, rfl⟩; dsimp only) | fail)
  refine hK.out _ _ (HMs.out) fun hS_ => ?_
  clear hK K hS_
  try simp only [Act.put, List.setIfInBounds_toArray, List.set_cons_zero, List.set_cons_succ, List.getElem_toArray, List.getElem_cons_succ, List.getElem_cons_zero]
  repeat (first | (refine plTakeL rfl (yields_memG rfl _ _ rfl 6 (fun w_ hSw => hSw) rfl rfl _ uE.out rfl (by exact zend)) ?_; try simp only [Act.put, List.setIfInBounds_toArray, List.set_cons_zero, List.set_cons_succ, List.getElem_toArray, List.getElem_cons_succ, List.getElem_cons_zero]) | (refine plPureG rfl rfl (by intro w_ hSw; go_simp; first | done | exact rfl) ?_; try simp only [Act.put, List.setIfInBounds_toArray, List.set_cons_zero, List.set_cons_succ, List.getElem_toArray, List.getElem_cons_succ, List.getElem_cons_zero]) | (refine plSkipG rfl rfl ?_; try simp only [Act.put, List.setIfInBounds_toArray, List.set_cons_zero, List.set_cons_succ, List.getElem_toArray, List.getElem_cons_succ, List.getElem_cons_zero]))
  refine plStepG rfl rfl fun K hK => ?_
  go_wp2_with (first | (go_at_call 25; refine (cK.out _ HM.out.below).mono ?_; rintro r w3 ⟨rfl, hb_⟩; dsimp only) | fail)
  refine hK.out _ _ (HMs.out.keep hb_) fun hS_ => ?_
  clear hK K hS_
  try simp only [Act.put, List.setIfInBounds_toArray, List.set_cons_zero, List.set_cons_succ, List.getElem_toArray, List.getElem_cons_succ, List.getElem_cons_zero]
  replace HM := Lib.hid (HM.out.keep hb_)
  replace HMs := Lib.hid (HMs.out.keep hb_)
  replace hF := Lib.hid (hFs.keep hF.out hb_)
  clear hb_
  refine plStepG rfl rfl fun K hK => ?_
  go_wp2_with (first | (go_at_call 36; refine (cKr.out _ HM.out.below).mono ?_; rintro r w3 ⟨rfl, hb_⟩; dsimp only) | fail)
  refine hK.out _ _ (HMs.out.keep hb_) fun hS_ => ?_
  clear hK K hS_
  try simp only [Act.put, List.setIfInBounds_toArray, List.set_cons_zero, List.set_cons_succ, List.getElem_toArray, List.getElem_cons_succ, List.getElem_cons_zero]
  replace HM := Lib.hid (HM.out.keep hb_)
  replace HMs := Lib.hid (HMs.out.keep hb_)
  replace hF := Lib.hid (hFs.keep hF.out hb_)
  clear hb_
  repeat (first | (refine plTakeL rfl (yields_memG rfl _ _ rfl 4 (fun w_ hSw => hSw) rfl rfl _ uE.out rfl (by exact zend)) ?_; try simp only [Act.put, List.setIfInBounds_toArray, List.set_cons_zero, List.set_cons_succ, List.getElem_toArray, List.getElem_cons_succ, List.getElem_cons_zero]) | (refine plTakeL rfl (yields_memG rfl _ _ rfl 5 (fun w_ hSw => hSw) rfl rfl _ uE.out rfl (by exact zend)) ?_; try simp only [Act.put, List.setIfInBounds_toArray, List.set_cons_zero, List.set_cons_succ, List.getElem_toArray, List.getElem_cons_succ, List.getElem_cons_zero]) | (refine plPureG rfl rfl (by intro w_ hSw; go_simp; first | done | exact rfl) ?_; try simp only [Act.put, List.setIfInBounds_toArray, List.set_cons_zero, List.set_cons_succ, List.getElem_toArray, List.getElem_cons_succ, List.getElem_cons_zero]) | (refine plSkipG rfl rfl ?_; try simp only [Act.put, List.setIfInBounds_toArray, List.set_cons_zero, List.set_cons_succ, List.getElem_toArray, List.getElem_cons_succ, List.getElem_cons_zero]))
  refine plStepG rfl rfl fun K hK => ?_
  go_wp2_with (first | (go_at_call 17; refine (cE.out SN v1 v2 _ (gA.out _ hF.out).is (gB.out _ hF.out).is).mono ?_; rintro r w3 ⟨rfl, hb_⟩; dsimp only) | fail)
  refine hK.out _ _ (HMs.out.keep hb_) fun hS_ => ?_
  clear hK K hS_
  try simp only [Act.put, List.setIfInBounds_toArray, List.set_cons_zero, List.set_cons_succ, List.getElem_toArray, List.getElem_cons_succ, List.getElem_cons_zero]
  replace HM := Lib.hid (HM.out.keep hb_)
  replace HMs := Lib.hid (HMs.out.keep hb_)
  replace hF := Lib.hid (hFs.keep hF.out hb_)
  clear hb_
  repeat (first | (refine plTakeL rfl (yields_memG rfl _ _ rfl 2 (fun w_ hSw => hSw) rfl rfl _ uE.out rfl (by exact zend)) ?_; try simp only [Act.put, List.setIfInBounds_toArray, List.set_cons_zero, List.set_cons_succ, List.getElem_toArray, List.getElem_cons_succ, List.getElem_cons_zero]) | (refine plTakeL rfl (yields_memG rfl _ _ rfl 3 (fun w_ hSw => hSw) rfl rfl _ uE.out rfl (by exact zend)) ?_; try simp only [Act.put, List.setIfInBounds_toArray, List.set_cons_zero, List.set_cons_succ, List.getElem_toArray, List.getElem_cons_succ, List.getElem_cons_zero]) | (refine plPureG rfl rfl (by intro w_ hSw; go_simp; first | done | exact rfl) ?_; try simp only [Act.put, List.setIfInBounds_toArray, List.set_cons_zero, List.set_cons_succ, List.getElem_toArray, List.getElem_cons_succ, List.getElem_cons_zero]) | (refine plSkipG rfl rfl ?_; try simp only [Act.put, List.setIfInBounds_toArray, List.set_cons_zero, List.set_cons_succ, List.getElem_toArray, List.getElem_cons_succ, List.getElem_cons_zero]))
  refine plStepG rfl rfl fun K hK => ?_
  go_wp2_with (first | (go_at_call 17; refine (cE.out XN v3 v4 _ ((gX.out _ hF.out).is (h.out.keep HM.out.below)) ((gY.out _ hF.out).is (h.out.keep HM.out.below))).mono ?_; rintro r w3 ⟨rfl, hb_⟩; dsimp only) | fail)
  refine hK.out _ _ (HMs.out.keep hb_) fun hS_ => ?_
  clear hK K hS_
  try simp only [Act.put, List.setIfInBounds_toArray, List.set_cons_zero, List.set_cons_succ, List.getElem_toArray, List.getElem_cons_succ, List.getElem_cons_zero]
  replace HM := Lib.hid (HM.out.keep hb_)
  replace HMs := Lib.hid (HMs.out.keep hb_)
  replace hF := Lib.hid (hFs.keep hF.out hb_)
  clear hb_
  repeat (first | (refine plTakeL rfl (yields_memG rfl _ _ rfl 0 (fun w_ hSw => hSw) rfl rfl _ uE.out rfl (by exact zend)) ?_; try simp only [Act.put, List.setIfInBounds_toArray, List.set_cons_zero, List.set_cons_succ, List.getElem_toArray, List.getElem_cons_succ, List.getElem_cons_zero]) | (refine plTakeL rfl (yields_memG rfl _ _ rfl 1 (fun w_ hSw => hSw) rfl rfl _ uE.out rfl (by exact zend)) ?_; try simp only [Act.put, List.setIfInBounds_toArray, List.set_cons_zero, List.set_cons_succ, List.getElem_toArray, List.getElem_cons_succ, List.getElem_cons_zero]) | (refine plPureG rfl rfl (by intro w_ hSw; go_simp; first | done | exact rfl) ?_; try simp only [Act.put, List.setIfInBounds_toArray, List.set_cons_zero, List.set_cons_succ, List.getElem_toArray, List.getElem_cons_succ, List.getElem_cons_zero]) | (refine plSkipG rfl rfl ?_; try simp only [Act.put, List.setIfInBounds_toArray, List.set_cons_zero, List.set_cons_succ, List.getElem_toArray, List.getElem_cons_succ, List.getElem_cons_zero]))
  clear HMs
  refine plDone ?_
  simp only [List.drop]
  go_wp2_with (first | go_skip | (go_at_call 17; refine (cE.out CN v5 v6 _ (gP.out _ hF.out).is (gQ.out _ hF.out).is).mono ?_; rintro r w3 ⟨rfl, hb_⟩; replace HM := Lib.hid (HM.out.keep hb_); clear hb_; dsimp only) | fail)
  try simp only [Exit.inBlock, Exit.then]
  go_ret
  exact ⟨by first | rfl | trivial, HM.out.below⟩
end Tx
end Go.Proofs.YtkfipbelhlcddaaGreat
namespace Go.Proofs.YtkfipbelhlcddaaGreat
open Go Go.RowKit
namespace Tx
theorem transactionEnds_walk (x1 : Int) (x3 : Int) (x5 : Int) (A7 : Option Addr) (n8 c9 : Nat) (l10 : List TCl) (b12 : Bool) (x13 : Int) (x15 : Int) (b17 : Bool) (x18 : Int) (x20 : Int) (x22 : Int) (A24 : Option Addr) (n25 c26 : Nat) (l27 : List Spt) (A29 : Option Addr) (n30 c31 : Nat) (l32 : List Spt) (b34 : Bool) (x35 : Int) (b37 : Bool) (x38 : Int) (x40 : Int) (x42 : Int) (A44 : Option Addr) (n45 c46 : Nat) (l47 : List Spt) (A49 : Option Addr) (n50 c51 : Nat) (l52 : List Spt) (x54 : Int) (b56 : Bool) (x57 : Int) (x59 : Int) (x61 : Int) (A63 : Option Addr) (n64 c65 : Nat) (l66 : List Spt) (A68 : Option Addr) (n69 c70 : Nat) (l71 : List Spt) (x73 : Int) (x75 : Int) (x77 : Int) (x79 : Int) (W : World) (h2 : (Lit.int .i64 x1).wf = true) (h4 : (Lit.int .i64 x3).wf = true) (h6 : (Lit.int .i64 x5).wf = true) (h11 : TclS W A7 n8 l10 ∧ n8 ≤ c9) (h14 : (Lit.int .i64 x13).wf = true) (h16 : (Lit.int .i64 x15).wf = true) (h19 : (Lit.int .i64 x18).wf = true) (h21 : (Lit.int .i64 x20).wf = true) (h23 : (Lit.int .i64 x22).wf = true) (h28 : SptS W A24 n25 l27 ∧ n25 ≤ c26) (h33 : SptS W A29 n30 l32 ∧ n30 ≤ c31) (h36 : (Lit.int .i64 x35).wf = true) (h39 : (Lit.int .i64 x38).wf = true) (h41 : (Lit.int .i64 x40).wf = true) (h43 : (Lit.int .i64 x42).wf = true) (h48 : SptS W A44 n45 l47 ∧ n45 ≤ c46) (h53 : SptS W A49 n50 l52 ∧ n50 ≤ c51) (h55 : (Lit.int .i64 x54).wf = true) (h58 : (Lit.int .i64 x57).wf = true) (h60 : (Lit.int .i64 x59).wf = true) (h62 : (Lit.int .i64 x61).wf = true) (h67 : SptS W A63 n64 l66 ∧ n64 ≤ c65) (h72 : SptS W A68 n69 l71 ∧ n69 ≤ c70) (h74 : (Lit.int .i64 x73).wf = true) (h76 : (Lit.int .i64 x75).wf = true) (h78 : (Lit.int .i64 x77).wf = true) (h80 : (Lit.int .i64 x79).wf = true) : Calls Tryz.prog 9 #[.agg #[.int .i64 x1, .int .i64 x3, .int .i64 x5, .slice A7 n8 c9, .bool b12, .int .i64 x13, .int .i64 x15, .bool b17, .int .i64 x18, .int .i64 x20, .int .i64 x22, .slice A24 n25 c26, .slice A29 n30 c31, .bool b34, .int .i64 x35, .bool b37, .int .i64 x38, .int .i64 x40, .int .i64 x42, .slice A44 n45 c46, .slice A49 n50 c51, .int .i64 x54, .bool b56, .int .i64 x57, .int .i64 x59, .int .i64 x61, .slice A63 n64 c65, .slice A68 n69 c70], .int .i64 x73, .int .i64 x75, .int .i64 x77, .int .i64 x79] W fun e w' => e = .returned (.bool true) ∧ Below W.heap.size W w' :=
  ends_any ⟨x1, x3, x5, l10, b12, x13, ⟨x15, b17, x18, x20, x22, l27, l32⟩, b34, ⟨x35, b37, x38, x40, x42, l47, l52⟩, ⟨x54, b56, x57, x59, x61, l66, l71⟩⟩ x73 x75 x77 x79 ⟨A7, n8, c9, ⟨A24, n25, c26, A29, n30, c31⟩, ⟨A44, n45, c46, A49, n50, c51⟩, ⟨A63, n64, c65, A68, n69, c70⟩⟩ W ⟨h11.1, h11.2, ⟨h28.1, h33.1, h28.2, h33.2⟩, ⟨h48.1, h53.1, h48.2, h53.2⟩, ⟨h67.1, h72.1, h67.2, h72.2⟩⟩ (i64_wf h78).1 (i64_wf h78).2
end Tx
end Go.Proofs.YtkfipbelhlcddaaGreat
