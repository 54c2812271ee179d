/- Blocks that the call has made and that are known whole: loads, stores, results. -/
import Derived.Test.YtkfipbelhlcddaaGreatTx2
import Derived.Deep.MidRow
set_option linter.unusedVariables false
set_option linter.unusedSimpArgs false
namespace Go.Proofs.YtkfipbelhlcddaaGreat
open Go Go.RowKit Go.Sort Go.Lib
namespace Tx
open Sw Mm
def msgA (m : Msg) (v : MsgV) : Array Value := #[.int .i64 m.kind, .bool m.reply, .int .i64 m.number, .int .i64 m.code, .int .i64 m.count, .slice v.sA v.sn v.sc, .slice v.oA v.on v.oc]
def tclA (c : TCl) : Array Value := #[.int .i64 c.slot, .int .i64 c.off, .int .i64 c.kind, .bool c.send, .int .i64 c.peer, .int .i64 c.flow]
def sptA (c : Spt) : Array Value := #[.int .i64 c.slot, .int .i64 c.off]
def tabA (t : Tab) (v : TabV) : Array Value := #[.int .i64 t.node, .int .i64 t.length, .slice v.A v.n v.c]
def endA (e : Ed) (v : EdV) : Array Value := #[.int .i64 e.node, .int .i64 e.peer, .int .i64 e.number, .slice v.cA v.cn v.cc, .bool e.opn, .int .i64 e.since, .int .i64 e.asked.kind, .bool e.asked.reply, .int .i64 e.asked.number, .int .i64 e.asked.code, .int .i64 e.asked.count, .slice v.a.sA v.a.sn v.a.sc, .slice v.a.oA v.a.on v.a.oc, .bool e.known, .int .i64 e.last.kind, .bool e.last.reply, .int .i64 e.last.number, .int .i64 e.last.code, .int .i64 e.last.count, .slice v.l.sA v.l.sn v.l.sc, .slice v.l.oA v.l.on v.l.oc, .int .i64 e.reply.kind, .bool e.reply.reply, .int .i64 e.reply.number, .int .i64 e.reply.code, .int .i64 e.reply.count, .slice v.r.sA v.r.sn v.r.sc, .slice v.r.oA v.r.on v.r.oc]
/-- the world behind the call's start: below nothing has changed, and these blocks are known whole -/
structure Mem (a w : World) (L : List (Nat × Array Value × TypeId)) : Prop where
  below : Below a.heap.size a w
  blk : ∀ e ∈ L, Blk w e.1 e.2.1 e.2.2
  nodup : (L.map (·.1)).Nodup
  ge : ∀ e ∈ L, a.heap.size ≤ e.1
theorem Mem.start (a : World) : Mem a a [] := ⟨Below.refl _ _, by simp, by simp, by simp⟩
theorem Mem.of {a w : World} (h : Below a.heap.size a w) : Mem a w [] := ⟨h, by simp, by simp, by simp⟩
theorem Mem.alloc {a w : World} {L : List (Nat × Array Value × TypeId)} (h : Mem a w L) (C : Array Value) (t : TypeId) : Mem a (w.alloc (.cells C t)) ((w.heap.size, C, t) :: L) where
  below := ballN h.below _
  blk := fun e he => by
    rcases List.mem_cons.1 he with rfl | he
    · exact Blk.new w C t
    · exact (h.blk e he).alloc _
  nodup := by
    rw [List.map_cons, List.nodup_cons]
    refine ⟨fun hm => ?_, h.nodup⟩
    obtain ⟨e, he, e1⟩ := List.mem_map.1 hm
    have := (h.blk e he).lt
    rw [e1] at this
    exact absurd this (Nat.lt_irrefl _)
  ge := fun e he => by
    rcases List.mem_cons.1 he with rfl | he
    · exact h.below.size
    · exact h.ge e he
theorem Mem.keep {a w w' : World} {L : List (Nat × Array Value × TypeId)} (h : Mem a w L) (hb : Below w.heap.size w w') : Mem a w' L := ⟨bthen h.below hb, fun e he => (h.blk e he).keep hb, h.nodup, h.ge⟩
theorem Mem.drew {a w : World} {L : List (Nat × Array Value × TypeId)} (h : Mem a w L) : Mem a w.drew L := h.keep ((Below.refl _ _).drew)
theorem Mem.at_ {a w : World} {L : List (Nat × Array Value × TypeId)} (h : Mem a w L) (i : Nat) {B : Nat} {C : Array Value} {t : TypeId} (hL : L[i]? = some (B, C, t)) : Blk w B C t := h.blk _ (List.mem_of_getElem? hL)
theorem Mem.cell {a w : World} {L : List (Nat × Array Value × TypeId)} (h : Mem a w L) (i : Nat) {B : Nat} {C : Array Value} {t : TypeId} (hL : L[i]? = some (B, C, t)) : ∀ j, w.cell? ⟨B, j, none⟩ = C[j]? := (h.at_ i hL).cell
theorem Mem.tail {a w : World} {e : Nat × Array Value × TypeId} {L : List (Nat × Array Value × TypeId)} (h : Mem a w (e :: L)) : Mem a w L := ⟨h.below, fun x hx => h.blk x (List.mem_cons_of_mem _ hx), (List.nodup_cons.1 h.nodup).2, fun x hx => h.ge x (List.mem_cons_of_mem _ hx)⟩
/-- a block written anew, whatever writes it -/
theorem Mem.put {a w w' : World} {L : List (Nat × Array Value × TypeId)} (h : Mem a w L) (i : Nat) {B : Nat} {C : Array Value} {t : TypeId} (hL : L[i]? = some (B, C, t)) (hg : w.grownBy w' (some B)) {C' : Array Value} (hB : Blk w' B C' t) : Mem a w' (L.set i (B, C', t)) := by
  have hi : i < L.length := (List.getElem?_eq_some_iff.1 hL).1
  have hgi : L[i] = (B, C, t) := (List.getElem?_eq_some_iff.1 hL).2
  have hm : (L.set i (B, C', t)).map (·.1) = L.map (·.1) := by
    apply List.ext_getElem?
    intro j
    rw [List.getElem?_map, List.getElem?_map]
    by_cases e : i = j
    · subst e; rw [List.getElem?_set_self hi, hL]; rfl
    · rw [List.getElem?_set_ne e]
  refine ⟨h.below.grown hg h.below.size (fun k hk => by cases hk; exact h.ge _ (List.mem_of_getElem? hL)), fun e he => ?_, by rw [hm]; exact h.nodup, fun e he => ?_⟩
  · obtain ⟨j, hj, ej⟩ := List.mem_iff_getElem.1 he
    rw [List.length_set] at hj
    rw [List.getElem_set] at ej
    split at ej
    · subst ej; exact hB
    · rename_i hne
      subst ej
      refine (h.blk _ (List.getElem_mem hj)).grown hg fun e1 => ?_
      injection e1 with e1
      have hn := h.nodup
      rw [List.nodup_iff_pairwise_ne, List.pairwise_iff_getElem] at hn
      have e2 : (L.map (·.1))[i]'(by rw [List.length_map]; exact hi) = (L.map (·.1))[j]'(by rw [List.length_map]; exact hj) := by
        rw [List.getElem_map, List.getElem_map, hgi]; exact e1
      rcases Nat.lt_or_gt_of_ne hne with hlt | hlt
      · exact hn i j (by rw [List.length_map]; exact hi) (by rw [List.length_map]; exact hj) hlt e2
      · exact hn j i (by rw [List.length_map]; exact hj) (by rw [List.length_map]; exact hi) hlt e2.symm
  · obtain ⟨j, hj, ej⟩ := List.mem_iff_getElem.1 he
    rw [List.length_set] at hj
    rw [List.getElem_set] at ej
    split at ej
    · subst ej; exact h.ge (B, C, t) (List.mem_of_getElem? hL)
    · subst ej; exact h.ge _ (List.getElem_mem hj)
theorem Mem.grown {a w w' : World} {L : List (Nat × Array Value × TypeId)} (h : Mem a w L) {r : Option Nat} (hg : w.grownBy w' r) (hr : ∀ g, r = some g → a.heap.size ≤ g ∧ ∀ e ∈ L, e.1 ≠ g) : Mem a w' L :=
  ⟨h.below.grown hg h.below.size (fun g hg => (hr g hg).1), fun e he => (h.blk e he).grown hg (fun e1 => by
    have := (hr e.1 e1).2 e he
    exact this rfl), h.nodup, h.ge⟩
/-- a row of the call's own is written: its elements are no cells of these types -/
theorem Mem.row {a w w' : World} {L : List (Nat × Array Value × TypeId)} (h : Mem a w L) {base s n : Nat} {e : TypeId} {v : Value} {xs : List Value} (ho : w.ownsRow base e s v n xs) (hg : w.grownBy w' v.ownBlock) (hb : a.heap.size ≤ base) (hne : ∀ x ∈ L, e ≠ x.2.2) : Mem a w' L :=
  h.grown hg fun g e1 => ⟨Nat.le_trans hb (ho.lt g e1).1, fun x hx e2 => row_ne_blk ho (h.blk x hx) (hne x hx) (by rw [e1, e2])⟩
theorem blk_setCells {B : Nat} {t : TypeId} : ∀ (vs : List Value) (C : Array Value) (o : Nat) (w : World), Blk w B C t → Blk (w.setCells B o vs) B (setL C.toList o vs).toArray t ∧ w.grownBy (w.setCells B o vs) (some B)
  | [], _, _, _, h => ⟨h, gb_refl _ _⟩
  | v :: vs, C, o, w, h => by
    have h1 := h.set o v
    have h2 := blk_setCells vs _ (o + 1) _ h1
    refine ⟨?_, gb_trans (gb_set1 w B o v) h2.2⟩
    have := h2.1
    rw [Array.toList_setIfInBounds] at this
    exact this
theorem Mem.setc {a w : World} {L : List (Nat × Array Value × TypeId)} (h : Mem a w L) (i : Nat) {B : Nat} {C : Array Value} {t : TypeId} (hL : L[i]? = some (B, C, t)) (o : Nat) (vs : List Value) (C' : Array Value) (hC : (setL C.toList o vs).toArray = C') : Mem a (w.setCells B o vs) (L.set i (B, C', t)) := by
  subst hC
  have h2 := blk_setCells vs C o w (h.at_ i hL)
  exact h.put i hL h2.2 h2.1
theorem Mem.add {a w w' : World} {L : List (Nat × Array Value × TypeId)} (h : Mem a w L) (hb : Below w.heap.size w w') {B : Nat} {C : Array Value} {t : TypeId} (hB : Blk w' B C t) (hge : w.heap.size ≤ B) : Mem a w' ((B, C, t) :: L) where
  below := bthen h.below hb
  blk := fun e he => by
    rcases List.mem_cons.1 he with rfl | he
    · exact hB
    · exact (h.blk e he).keep hb
  nodup := by
    rw [List.map_cons, List.nodup_cons]
    refine ⟨fun hm => ?_, h.nodup⟩
    obtain ⟨e, he, e1⟩ := List.mem_map.1 hm
    have := (h.blk e he).lt
    rw [e1] at this
    exact absurd hge (Nat.not_le.2 this)
  ge := fun e he => by
    rcases List.mem_cons.1 he with rfl | he
    · exact Nat.le_trans h.below.size hge
    · exact h.ge e he
theorem setL_full {xs vs : List Value} (h : xs.length = vs.length) : setL xs 0 vs = vs := by
  apply List.ext_getElem?
  intro t
  rw [setL_get]
  by_cases ht : t < vs.length
  · rw [if_pos ⟨Nat.zero_le _, by omega, by omega⟩, Nat.sub_zero]
  · rw [if_neg (by omega), List.getElem?_eq_none (by omega), List.getElem?_eq_none (by omega)]
theorem Mem.full {a w : World} {L : List (Nat × Array Value × TypeId)} {B : Nat} {C : Array Value} {t : TypeId} (h : Mem a w ((B, C, t) :: L)) (C' : Array Value) (hs : C.size = C'.size) : Mem a (w.setCells B 0 C'.toList) ((B, C', t) :: L) :=
  h.setc 0 rfl 0 C'.toList C' (by rw [setL_full (by simpa using hs)])
theorem own_setc {w : World} {base s n B : Nat} {e t : TypeId} {v : Value} {xs : List Value} {C : Array Value} (h : w.ownsRow base e s v n xs) (hB : Blk w B C t) (hne : e ≠ t) (o : Nat) (vs : List Value) : (w.setCells B o vs).ownsRow base e s v n xs :=
  h.kept (blk_setCells vs C o w hB).2 (.inr (row_ne_blk h hB hne))
theorem MsgIs.of_owns {w : World} {b1 b2 n m c d : Nat} {A B : Option Addr} {M : Msg} (h1 : w.ownsRow b1 78 2 (.slice A n c) n (M.spots.flatMap sptE)) (h2 : w.ownsRow b2 78 2 (.slice B m d) m (M.old.flatMap sptE)) (l1 : M.spots.length = n) (l2 : M.old.length = m) : MsgIs w ⟨A, n, c, B, m, d⟩ M :=
  ⟨(Sls.of_owns sptE_len h1 l1).2, (Sls.of_owns sptE_len h2 l2).2, own_cap h1, own_cap h2⟩
theorem fold_msg (w : World) (B : Nat) (k x c t : Int) (r : Bool) (s o : List Spt) (A E : Option Addr) (n1 c1 n2 c2 : Nat) :
    (((((((w.setCell ⟨B, 0, none⟩ (.int .i64 k)).setCell ⟨B, 1, none⟩ (.bool r)).setCell ⟨B, 2, none⟩ (.int .i64 x)).setCell ⟨B, 3, none⟩ (.int .i64 c)).setCell ⟨B, 4, none⟩ (.int .i64 t)).setCell ⟨B, 5, none⟩ (.slice A n1 c1)).setCell ⟨B, 6, none⟩ (.slice E n2 c2)) = w.setCells B 0 (msgA ⟨k, r, x, c, t, s, o⟩ ⟨A, n1, c1, E, n2, c2⟩).toList := rfl
/-- a message whose lists are rows of the call's own -/
structure MsgOwn (w : World) (v : MsgV) (M : Msg) : Prop where
  spots : ∃ b, w.ownsRow b 78 2 (.slice v.sA v.sn v.sc) v.sn (M.spots.flatMap sptE)
  old : ∃ b, w.ownsRow b 78 2 (.slice v.oA v.on v.oc) v.on (M.old.flatMap sptE)
  ls : M.spots.length = v.sn
  lo : M.old.length = v.on
theorem MsgOwn.is {w : World} {v : MsgV} {M : Msg} (h : MsgOwn w v M) : MsgIs w v M := by
  obtain ⟨⟨b1, h1⟩, ⟨b2, h2⟩, l1, l2⟩ := h
  exact MsgIs.of_owns h1 h2 l1 l2
theorem MsgOwn.keep {w w' : World} {v : MsgV} {M : Msg} (h : MsgOwn w v M) (hb : Below w.heap.size w w') : MsgOwn w' v M := by
  obtain ⟨⟨b1, h1⟩, ⟨b2, h2⟩, l1, l2⟩ := h
  exact ⟨⟨b1, owns_keep h1 hb⟩, ⟨b2, owns_keep h2 hb⟩, l1, l2⟩
theorem MsgOwn.put {w w' : World} {v : MsgV} {M : Msg} (h : MsgOwn w v M) {B : Nat} {C : Array Value} {t : TypeId} (hB : Blk w B C t) (ht : t ≠ 78) (hg : w.grownBy w' (some B)) : MsgOwn w' v M := by
  obtain ⟨⟨b1, h1⟩, ⟨b2, h2⟩, l1, l2⟩ := h
  exact ⟨⟨b1, h1.kept hg (.inr (row_ne_blk h1 hB ht.symm))⟩, ⟨b2, h2.kept hg (.inr (row_ne_blk h2 hB ht.symm))⟩, l1, l2⟩
/-- a message laid into a block that has been made for it -/
theorem mem_msg {a w : World} {L : List (Nat × Array Value × TypeId)} {B b1 b2 n m c d : Nat} {C : Array Value} {A E : Option Addr} {M : Msg} (h : Mem a w ((B, C, 25) :: L)) (hs : C.size = 7) (h1 : w.ownsRow b1 78 2 (.slice A n c) n (M.spots.flatMap sptE)) (h2 : w.ownsRow b2 78 2 (.slice E m d) m (M.old.flatMap sptE)) (l1 : M.spots.length = n) (l2 : M.old.length = m) :
    Mem a (w.setCells B 0 (msgA M ⟨A, n, c, E, m, d⟩).toList) ((B, msgA M ⟨A, n, c, E, m, d⟩, 25) :: L) ∧ MsgOwn (w.setCells B 0 (msgA M ⟨A, n, c, E, m, d⟩).toList) ⟨A, n, c, E, m, d⟩ M := by
  have hB := h.at_ 0 rfl
  exact ⟨h.full _ hs, ⟨_, own_setc h1 hB (by decide) _ _⟩, ⟨_, own_setc h2 hB (by decide) _ _⟩, l1, l2⟩
section
variable {P : Program}
theorem run_storeAt_blk {w : World} {B : Nat} {C : Array Value} {t : TypeId} (hB : Blk w B C t) (o : Nat) (ty : TypeId) (v : Value) (hs : o + v.cells.size ≤ C.size) (hi : (P.info? ty).map (·.size) = some v.cells.size) (h1 : v.cells.toList.all (·.oneCell') = true) :
    (Instr.storeAt ty (.pointer (some ⟨B, o, none⟩)) v).run P w = .ok () (w.setCells B o v.cells.toList) := by
  have := run_storeCells_cells (P := P) B o v.cells.toList 0 w (fun j hj => by
      rw [hB.cell, Array.length_toList] at *
      rw [Array.getElem?_eq_getElem (by omega)]; rfl) (fun j hj => hB.free _)
    (fun u hu => (List.all_eq_true.1 h1) u hu)
  cases hq : P.info? ty with
  | none => simp [hq] at hi
  | some i =>
    have hs : v.cells.size = i.size := by simp [hq] at hi; omega
    simp only [Nat.add_zero] at this
    simp [Instr.storeAt, Instr.sureAddr, storeVar, sizeOf, typeInfo, hq, hs, this]
theorem wp_storeM {op : Oper} {a : Act} {w : World} {K : Act → World → Prop} {Q : Exit → Act → World → Prop} (i : Nat) {a0 : World} {L : List (Nat × Array Value × TypeId)} (hM : Hid (Mem a0 w L)) (ty : TypeId) (x y : Operand) (ho : op.op = .store ty x y)
    (B o : Nat) (hx : a.eval x = .pointer (some ⟨B, o, none⟩)) {C : Array Value} {t : TypeId} (hL : L[i]? = some (B, C, t)) (v : Value) (hy : a.eval y = v)
    (hi : (P.info? ty).map (·.size) = some v.cells.size) (h1 : v.cells.toList.all (·.oneCell') = true) (hs : o + v.cells.size ≤ C.size) (C' : Array Value) (hC : (setL C.toList o v.cells.toList).toArray = C')
    (h : ∀ w', Hid (Mem a0 w' (L.set i (B, C', t))) → Hid (w.grownBy w' (some B)) → K (a.put op.dst undef) w') : op.wp P a w K Q := by
  subst hC
  have hB := hM.out.at_ i hL
  have h2 := blk_setCells v.cells.toList C o w hB
  unfold Oper.wp execOp
  simp only [ho, hx, hy, Sem.run_bind, Sem.run_pure, Result.andThen_ok, run_storeAt_blk hB o ty v hs hi h1]
  exact h _ (hM.out.put i hL h2.2 h2.1) h2.2
theorem wpList_storeM {ops : Array Oper} {rest : List Oper} {op : Oper} {a : Act} {w : World} {Q : Exit → Act → World → Prop} (i : Nat) {a0 : World} {L : List (Nat × Array Value × TypeId)} (hM : Hid (Mem a0 w L)) (hgd : op.guard = none) (ty : TypeId) (x y : Operand) (ho : op.op = .store ty x y)
    (B o : Nat) (hx : a.eval x = .pointer (some ⟨B, o, none⟩)) {C : Array Value} {t : TypeId} (hL : L[i]? = some (B, C, t)) (v : Value) (hy : a.eval y = v)
    (hi : (P.info? ty).map (·.size) = some v.cells.size) (h1 : v.cells.toList.all (·.oneCell') = true) (hs : o + v.cells.size ≤ C.size) (C' : Array Value) (hC : (setL C.toList o v.cells.toList).toArray = C')
    (h : ∀ w', Hid (Mem a0 w' (L.set i (B, C', t))) → Hid (w.grownBy w' (some B)) → wpList P ops Q rest (a.put op.dst undef) w') : wpList P ops Q (op :: rest) a w :=
  wpList_plain hgd fun _ hK => wp_storeM i hM ty x y ho B o hx hL v hy hi h1 hs C' hC fun w' h1 h2 => hK _ _ (h w' h1 h2)
theorem run_loadVar_blk {w : World} {B : Nat} {C : Array Value} {t : TypeId} (hB : Blk w B C t) (ty : TypeId) (d : TypeDesc) (hu : P.underlying ty = some d) (hd : (match d with | .struct _ | .array _ _ => true | _ => false) = true) (hi : (P.info? ty).map (·.size) = some C.size) :
    (loadVar ty ⟨B, 0, none⟩).run P w = .ok (.agg C) w := run_loadVar_row w B t ty C (0, 0) d hB.at_ hu hd hi
/-- a struct that is known whole is loaded whole -/
theorem wpList_loadM {ops : Array Oper} {rest : List Oper} {op : Oper} {a : Act} {w : World} {Q : Exit → Act → World → Prop} (i : Nat) {a0 : World} {L : List (Nat × Array Value × TypeId)} (hM : Hid (Mem a0 w L)) (hgd : op.guard = none) (ty : TypeId) (x : Operand) (ho : op.op = .load ty x)
    (B : Nat) (hx : a.eval x = .pointer (some ⟨B, 0, none⟩)) {C : Array Value} {t : TypeId} (hL : L[i]? = some (B, C, t)) (d : TypeDesc) (hu : P.underlying ty = some d) (hd : (match d with | .struct _ | .array _ _ => true | _ => false) = true)
    (hi : (P.info? ty).map (·.size) = some C.size)
    (h : wpList P ops Q rest (a.put op.dst (.agg C)) w) : wpList P ops Q (op :: rest) a w :=
  wpList_load_row hgd ty x ho B hx t C (0, 0) d (hM.out.at_ i hL).at_ hu hd hi h
theorem wpList_boxM {ops : Array Oper} {rest : List Oper} {op : Oper} {a : Act} {w : World} {Q : Exit → Act → World → Prop} {a0 : World} {L : List (Nat × Array Value × TypeId)} (hM : Hid (Mem a0 w L)) (hgd : op.guard = none) (ty : TypeId) (x : Operand) (ho : op.op = .box ty x)
    (v : Value) (hx : a.eval x = v) (h : ∀ g w', Hid (Mem a0 w' ((g, v.cells, ty) :: L)) → Hid (Below w.heap.size w w') → wpList P ops Q rest (a.put op.dst (.pointer (some ⟨g, 0, none⟩))) w') : wpList P ops Q (op :: rest) a w := by
  refine wpList_plain hgd fun K hK => ?_
  unfold Oper.wp execOp
  simp only [ho, hx, Instr.box, newVar, newRow, newObj, Sem.run_bind, Sem.run_pure]
  exact hK _ _ (h _ _ (hM.out.alloc v.cells ty) (ball w _))
theorem wp_allocM {op : Oper} {a : Act} {w : World} {K : Act → World → Prop} {Q : Exit → Act → World → Prop} {a0 : World} {L : List (Nat × Array Value × TypeId)} (hM : Hid (Mem a0 w L)) (ty : TypeId) (ho : op.op = .alloc ty)
    {z : Value} {k b : Nat} (hz : (P.info? ty).map (fun i => (i.zero, i.size, i.bytes)) = some (some z, k, b)) (h : ∀ g w', Hid (Mem a0 w' ((g, z.cells, ty) :: L)) → Hid (Below w.heap.size w w') → K (a.put op.dst (.pointer (some ⟨g, 0, none⟩))) w') : op.wp P a w K Q := by
  obtain ⟨i, h1, h2, _, _⟩ := info_parts hz
  unfold Oper.wp execOp
  have hr : (Instr.alloc ty true (.tuple #[])).run P w = .ok (.pointer (some ⟨w.heap.size, 0, none⟩)) (w.alloc (.cells z.cells ty)) := by
    simp [Instr.alloc, zeroValue, typeInfo, newVar, newRow, newObj, h1, h2]
    rfl
  simp only [ho, Sem.run_bind, hr, Sem.run_pure, Result.andThen_ok]
  exact h _ _ (hM.out.alloc z.cells ty) (ball w _)
theorem wpList_allocM {ops : Array Oper} {rest : List Oper} {op : Oper} {a : Act} {w : World} {Q : Exit → Act → World → Prop} {a0 : World} {L : List (Nat × Array Value × TypeId)} (hM : Hid (Mem a0 w L)) (hgd : op.guard = none) (ty : TypeId) (ho : op.op = .alloc ty)
    {z : Value} {k b : Nat} (hz : (P.info? ty).map (fun i => (i.zero, i.size, i.bytes)) = some (some z, k, b)) (h : ∀ g w', Hid (Mem a0 w' ((g, z.cells, ty) :: L)) → Hid (Below w.heap.size w w') → wpList P ops Q rest (a.put op.dst (.pointer (some ⟨g, 0, none⟩))) w') : wpList P ops Q (op :: rest) a w :=
  wpList_plain hgd fun _ hK => wp_allocM hM ty ho hz fun g w' h1 h2 => hK _ _ (h g w' h1 h2)
theorem step_of {ops : Array Oper} {op : Oper} {a : Act} {w : World} {K : Act → World → Prop} {Q : Exit → Act → World → Prop} {F : Prop} (hgd : op.guard = none) (h : op.wp P a w K Q) : if Region.wanted op (yielded ops a.tmps) = true then Oper.wp P op a w K Q else F := by
  have hw : Region.wanted op (yielded ops a.tmps) = true := by simp [Region.wanted, hgd]
  rw [if_pos hw]
  exact h
theorem wp_boxM {op : Oper} {a : Act} {w : World} {K : Act → World → Prop} {Q : Exit → Act → World → Prop} {a0 : World} {L : List (Nat × Array Value × TypeId)} (hM : Hid (Mem a0 w L)) (ty : TypeId) (x : Operand) (ho : op.op = .box ty x)
    (v : Value) (hx : a.eval x = v) (h : ∀ g w', Hid (Mem a0 w' ((g, v.cells, ty) :: L)) → Hid (Below w.heap.size w w') → K (a.put op.dst (.pointer (some ⟨g, 0, none⟩))) w') : op.wp P a w K Q := by
  unfold Oper.wp execOp
  simp only [ho, hx, Instr.box, newVar, newRow, newObj, Sem.run_bind, Sem.run_pure]
  exact h _ _ (hM.out.alloc v.cells ty) (ball w _)
theorem wpList_boxA {ops : Array Oper} {rest : List Oper} {op : Oper} {a : Act} {w : World} {Q : Exit → Act → World → Prop} {a0 : World} {L : List (Nat × Array Value × TypeId)} (hM : Hid (Mem a0 w L)) (hgd : op.guard = none) (ty : TypeId) (x : Operand) (ho : op.op = .box ty x)
    (C : Array Value) (hx : a.eval x = .agg C) (h : ∀ g w', Hid (Mem a0 w' ((g, C, ty) :: L)) → Hid (Below w.heap.size w w') → wpList P ops Q rest (a.put op.dst (.pointer (some ⟨g, 0, none⟩))) w') : wpList P ops Q (op :: rest) a w :=
  wpList_boxM hM hgd ty x ho (.agg C) hx h
theorem wpList_allocA {ops : Array Oper} {rest : List Oper} {op : Oper} {a : Act} {w : World} {Q : Exit → Act → World → Prop} {a0 : World} {L : List (Nat × Array Value × TypeId)} (hM : Hid (Mem a0 w L)) (hgd : op.guard = none) (ty : TypeId) (ho : op.op = .alloc ty)
    {Z : Array Value} {k b : Nat} (hz : (P.info? ty).map (fun i => (i.zero, i.size, i.bytes)) = some (some (.agg Z), k, b)) (h : ∀ g w', Hid (Mem a0 w' ((g, Z, ty) :: L)) → Hid (Below w.heap.size w w') → wpList P ops Q rest (a.put op.dst (.pointer (some ⟨g, 0, none⟩))) w') : wpList P ops Q (op :: rest) a w :=
  wpList_allocM hM hgd ty ho hz h
-- results
theorem results_c {fn : Func} {s : Tmp} {ty : TypeId} (hr : fn.results = #[.cell s ty]) {tmps : Array Value} {w : World} {B : Nat} {C : Array Value} {t : TypeId} (hB : Blk w B C t) (hs : tmps.getD s undef = .pointer (some ⟨B, 0, none⟩)) (d : TypeDesc) (hu : P.underlying ty = some d) (hd : (match d with | .struct _ | .array _ _ => true | _ => false) = true) (hi : (P.info? ty).map (·.size) = some C.size) :
    (results fn tmps).run P w = .ok (.agg C) w := by
  have := run_loadVar_blk hB ty d hu hd hi
  rw [Array.getD_eq_getD_getElem?] at hs
  simp [results, hr, hs, asAddr, this]
theorem results_ct {fn : Func} {s u : Tmp} {ty : TypeId} (hr : fn.results = #[.cell s ty, .tmp u]) {tmps : Array Value} {w : World} {B : Nat} {C : Array Value} {t : TypeId} (hB : Blk w B C t) (hs : tmps.getD s undef = .pointer (some ⟨B, 0, none⟩)) (d : TypeDesc) (hu : P.underlying ty = some d) (hd : (match d with | .struct _ | .array _ _ => true | _ => false) = true) (hi : (P.info? ty).map (·.size) = some C.size) :
    (results fn tmps).run P w = .ok (.tuple #[.agg C, tmps.getD u undef]) w := by
  have := run_loadVar_blk hB ty d hu hd hi
  rw [Array.getD_eq_getD_getElem?] at hs
  simp [results, hr, hs, asAddr, this]
theorem results_cct {fn : Func} {s r u : Tmp} {ty tz : TypeId} (hr : fn.results = #[.cell s ty, .cell r tz, .tmp u]) {tmps : Array Value} {w : World} {B E : Nat} {C D : Array Value} {t k : TypeId} (hB : Blk w B C t) (hE : Blk w E D k) (hs : tmps.getD s undef = .pointer (some ⟨B, 0, none⟩)) (hs2 : tmps.getD r undef = .pointer (some ⟨E, 0, none⟩))
    (d : TypeDesc) (hu : P.underlying ty = some d) (hd : (match d with | .struct _ | .array _ _ => true | _ => false) = true) (hi : (P.info? ty).map (·.size) = some C.size) (d2 : TypeDesc) (hu2 : P.underlying tz = some d2) (hd2 : (match d2 with | .struct _ | .array _ _ => true | _ => false) = true) (hi2 : (P.info? tz).map (·.size) = some D.size) :
    (results fn tmps).run P w = .ok (.tuple #[.agg C, .agg D, tmps.getD u undef]) w := by
  have h1 := run_loadVar_blk hB ty d hu hd hi
  have h2 := run_loadVar_blk hE tz d2 hu2 hd2 hi2
  rw [Array.getD_eq_getD_getElem?] at hs hs2
  simp [results, hr, hs, hs2, asAddr, h1, h2]
end
theorem msgInfo : (Tryz.prog.info? 25).map (fun i => (i.zero, i.size, i.bytes)) = some (some (.agg #[.int .i64 0, .bool false, .int .i64 0, .int .i64 0, .int .i64 0, .slice none 0 0, .slice none 0 0]), 7, 88) := by kernel_rfl
theorem edInfo : (Tryz.prog.info? 27).map (fun i => (i.zero, i.size, i.bytes)) = some (some (.agg #[.int .i64 0, .int .i64 0, .int .i64 0, .slice none 0 0, .bool false, .int .i64 0, .int .i64 0, .bool false, .int .i64 0, .int .i64 0, .int .i64 0, .slice none 0 0, .slice none 0 0, .bool false, .int .i64 0, .bool false, .int .i64 0, .int .i64 0, .int .i64 0, .slice none 0 0, .slice none 0 0, .int .i64 0, .bool false, .int .i64 0, .int .i64 0, .int .i64 0, .slice none 0 0, .slice none 0 0]), 28, 336) := by kernel_rfl
theorem tabInfo : (Tryz.prog.info? 29).map (fun i => (i.zero, i.size, i.bytes)) = some (some (.agg #[.int .i64 0, .int .i64 0, .slice none 0 0]), 3, 40) := by kernel_rfl
theorem zmsg : (Tryz.prog.info? 25).map (·.size) = some 7 := by kernel_rfl
theorem zend : (Tryz.prog.info? 27).map (·.size) = some 28 := by kernel_rfl
theorem ztab : (Tryz.prog.info? 29).map (·.size) = some 3 := by kernel_rfl
theorem ztcl : (Tryz.prog.info? 67).map (·.size) = some 6 := by kernel_rfl
theorem zspt : (Tryz.prog.info? 78).map (·.size) = some 2 := by kernel_rfl
end Tx
end Go.Proofs.YtkfipbelhlcddaaGreat
