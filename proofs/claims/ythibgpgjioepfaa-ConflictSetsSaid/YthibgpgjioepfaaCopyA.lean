/- Lemmas for hopmeshref31.Copy. -/
import Derived.Test.YthibgpgjioepfaaCopy
import Derived.Test.YthibgpgjioepfaaRev
import Derived.Deep.RegionLaw
import Derived.Deep.DeepCutAuto
import Derived.Deep.CutBlock
namespace Go.Proofs.Ythibgpgjioepfaa
open Go Go.RowKit Go.Sort
namespace Nt
open Mm
theorem info_ints : (Try.prog.info? 24).map (fun i => (i.zero, i.size, i.bytes)) = some (some (.slice none 0 0), 1, 24) := by kernel_rfl
/-- what holds at the head of a round of Copy -/
structure CpR (w wr : World) (C1 C2 : Array Value) (nodes noise thr : Int) (vL vM : Value) (vP : Value) (hs : List Value) (rows : List (List Int)) : Prop where
  below : Below w.heap.size w wr
  net : Blk wr w.heap.size C1 26
  zero : Blk wr (w.heap.size + 1) C2 26
  out : Blk wr (w.heap.size + 2) #[.int .i64 nodes, vP, .int .i64 noise, .int .i64 thr, vL, vM] 26
  own : OwnRs wr (w.heap.size + 3) vP hs rows
theorem gb_none {w u w1 : World} {H : Nat} (h0 : w.grownBy u none) (h : u.grownBy w1 (some H)) (hH : w.heap.size ≤ H) : w.grownBy w1 none :=
  ⟨h.os.trans h0.os, h.tape.trans h0.tape, h.output.trans h0.output, Nat.le_trans h0.size h.size, fun k hk _ => by
    rw [h.block k (Nat.lt_of_lt_of_le hk h0.size) (fun e => by injection e with e; omega)]; exact h0.block k hk (by simp)⟩
theorem gb_after {u v w : World} {r : Option Nat} (h : u.grownBy v none) (k : v.grownBy w r) : u.grownBy w r :=
  ⟨k.os.trans h.os, k.tape.trans h.tape, k.output.trans h.output, Nat.le_trans h.size k.size, fun i hi hne => by
    rw [k.block i (Nat.lt_of_lt_of_le hi h.size) hne]; exact h.block i hi (by simp)⟩
theorem CpR.step {w wr w1 w2 : World} {C1 C2 : Array Value} {nodes noise thr : Int} {vL vM vP : Value} {hs : List Value} {rows : List (List Int)} {xs : List Int} {g cap gg capp : Nat} {o2 : Obj}
    (h : CpR w wr C1 C2 nodes noise thr vL vM vP hs rows) (hg1 : wr.grownBy w1 none) (hnew : wr.heap.size ≤ g)
    (ho1 : w1.ownsRow (w.heap.size + 3) 3 1 (Value.slice (some ⟨g, 0, none⟩) xs.length cap) xs.length (flat 1 intV xs))
    (hg2 : (w1.alloc o2).grownBy w2 vP.ownBlock) (ho2 : w2.ownsRow (w.heap.size + 3) 24 1 (Value.slice (some ⟨gg, 0, none⟩) (hs.length + 1) capp) (hs.length + 1) (hs ++ [Value.slice (some ⟨g, 0, none⟩) xs.length cap]))
    (hat : vP.ownBlock = some gg ∨ gg = (w1.alloc o2).heap.size) :
    CpR w (w2.setCell ⟨w.heap.size + 2, 1, none⟩ (Value.slice (some ⟨gg, 0, none⟩) (hs.length + 1) capp)) C1 C2 nodes noise thr vL vM (Value.slice (some ⟨gg, 0, none⟩) (hs.length + 1) capp) (hs ++ [Value.slice (some ⟨g, 0, none⟩) xs.length cap]) (rows ++ [xs]) := by
  have hg2' : w1.grownBy w2 vP.ownBlock := gb_after (World.grownBy_alloc w1 o2 none) hg2
  have hP := h.own.push hg1 hnew ho1 hg2' ho2 (hat.imp id (fun e => by rw [e]; simp))
  have hne : ∀ B, B < w.heap.size + 3 → vP.ownBlock ≠ some B := fun B hB => own_ne h.own.outer hB
  have hn : ∀ B, (none : Option Nat) ≠ some B := fun B e => by cases e
  have hsz := h.below.size
  refine ⟨?_, ?_, ?_, ?_, ?_⟩
  · have b1 := h.below.grown hg1 hsz (fun k hk => by cases hk)
    have b2 := b1.grown hg2' b1.size (fun k hk => by have := (h.own.outer.lt k hk).1; omega)
    exact b2.setCell (by simp) _
  · exact ((h.net.grown hg1 (hn _)).grown hg2' (hne _ (by omega))).other (by simp) _
  · exact ((h.zero.grown hg1 (hn _)).grown hg2' (hne _ (by omega))).other (by simp) _
  · have := ((h.out.grown hg1 (hn _)).grown hg2' (hne _ (by omega))).set 1 (Value.slice (some ⟨gg, 0, none⟩) (hs.length + 1) capp)
    simpa using this
  · exact hP.kept (r := some (w.heap.size + 2)) ⟨rfl, rfl, rfl, by simp [World.setCell], fun k hk hne2 => heap_setCell_other _ _ _ _ (fun e => hne2 (by rw [e]))⟩
      (.inr (fun e => by have := (hP.outer.lt _ e).1; omega)) (fun g hg => by injection hg with hg; omega)
theorem flat_int {xs : List Int} {j : Nat} {u : Value} (h : (flat 1 intV xs)[j]? = some u) : j < xs.length ∧ u = .int .i64 (xs.getD j default) := by
  have hl : j < xs.length := by
    have := (List.getElem?_eq_some_iff.1 h).1
    rw [flat_length] at this; omega
  have := flat_at 1 intV xs j 0 hl (by decide)
  rw [show j * 1 + 0 = j by omega, h] at this
  injection this with this
  exact ⟨hl, this⟩
theorem ints_news {w : World} {A : Option Addr} {n : Nat} {xs : List Int} {a : Addr} (h : IntS w A n xs) (ha : A = some a) : ∀ j u, (flat 1 intV xs)[j]? = some u → w.cell? (a.add j) = some u := by
  intro j u hu
  obtain ⟨h1, rfl⟩ := flat_int hu
  have hl := h.els.len
  obtain ⟨b, off, e, _, hc⟩ := h.els.at_ (by omega)
  rw [ha] at e
  injection e with e
  subst e
  have := hc j (by omega) 0 (by decide)
  have ea : (⟨b, off, none⟩ : Addr).add j = ⟨b, off + j * 1 + 0, none⟩ := by unfold Addr.add; split <;> simp_all
  rw [ea]; exact this
theorem ints_one (xs : List Int) : ∀ u ∈ flat 1 intV xs, u.oneCell' = true := fun u hu => by
  obtain ⟨j, hj⟩ := List.mem_iff_getElem?.1 hu
  rw [(flat_int hj).2]; rfl
def copyHead (w : World) (C : Array Value) (nodes noise thr : Int) (L M : Value) : World :=
  ((((w.alloc (.cells C 26)).alloc (.cells #[.int .i64 0, .slice none 0 0, .int .i64 0, .int .i64 0, .slice none 0 0, .slice none 0 0] 26)).alloc (.cells #[.int .i64 nodes, .slice (some ⟨w.heap.size + 1 + 1 + 1, 0, none⟩) 0 0, .int .i64 noise, .int .i64 thr, L, M] 26)).alloc (.cells #[] 24))
theorem wpList_append_nilsrc {P : Program} {w : World} {ops : Array Oper} {rest : List Oper} {o : Oper} {a : Act} {Q : Exit → Act → World → Prop} (hgd : o.guard = none) (s x : Operand) (t : TypeId)
    (ho : o.op = .call { callee := .builtin .append, args := #[s, x], argTypes := #[t, t] }) (e : TypeId) (i : TypeInfo) (ht : P.underlying t = some (.slice e)) (hi : P.info? e = some i)
    (g n cap c : Nat) (hnc : n ≤ cap) (hs : a.eval s = .slice (some ⟨g, 0, none⟩) n cap) (hx : a.eval x = .slice none 0 c)
    (h : wpList P ops Q rest (a.put o.dst (.slice (some ⟨g, 0, none⟩) n cap)) w) : wpList P ops Q (o :: rest) a w := by
  refine wpList_plain hgd fun K hK => ?_
  have hrun : (Builtin.append_ #[t, t] o.type #[.slice (some ⟨g, 0, none⟩) n cap, .slice none 0 c]).run P w = .ok (.slice (some ⟨g, 0, none⟩) n cap) w := by
    simp [Builtin.append_, run_underlying ht, sizeOf, typeInfo, hi, Builtin.lenOf, Builtin.firstCells, hnc, storeCells]
  unfold Oper.wp
  simp [execOp, ho, resolve, invoke, builtin, hs, hx, hrun, Result.andThen]
  exact hK _ _ h
theorem wpList_append_src {P : Program} {w : World} {ops : Array Oper} {rest : List Oper} {o : Oper} {a : Act} {Q : Exit → Act → World → Prop} (hgd : o.guard = none) (s x : Operand) (t : TypeId)
    (ho : o.op = .call { callee := .builtin .append, args := #[s, x], argTypes := #[t, t] })
    (base : Nat) (e : TypeId) (i : TypeInfo) (z : Value) (size bytes : Nat) (ht : P.underlying t = some (.slice e)) (hi : P.info? e = some i) (hz : i.zero = some z)
    (hsize : i.size = size) (hby : i.bytes = bytes) (hzs : z.cells.size = size) (hsz : 0 < size)
    (g n cap : Nat) (hnc : n ≤ cap) (xs : List Value) (hs : a.eval s = .slice (some ⟨g, 0, none⟩) n cap) (hown : w.ownsRow base e size (.slice (some ⟨g, 0, none⟩) n cap) n xs)
    (A : Option Addr) (m c : Nat) (news : List Value) (hx : a.eval x = .slice A m c) (hA : A = none → m = 0) (hl : news.length = m * size) (hnews : ∀ ad, A = some ad → ∀ j u, news[j]? = some u → w.cell? (ad.add j) = some u) (h1 : ∀ u ∈ news, u.oneCell' = true)
    (h63 : n + m ≤ maxLen) (hbytes : (n + m) * bytes ≤ 140737488355328) (hbase : base ≤ w.heap.size)
    (h : ∀ v' w', w'.ownsRow base e size v' (n + m) (xs ++ news) → w.grownBy w' (some g) → (v'.ownBlock = some g ∨ v'.ownBlock = some w.heap.size) → wpList P ops Q rest (a.put o.dst v') w') : wpList P ops Q (o :: rest) a w := by
  rcases A with _ | ad
  · have hm := hA rfl
    subst hm
    have hn0 : news = [] := List.length_eq_zero_iff.1 (by omega)
    subst hn0
    exact wpList_append_nilsrc hgd s x t ho e i ht hi g n cap c hnc hs hx (h _ _ (by simpa using hown) (gb_refl _ _) (.inl rfl))
  · exact wpList_append_own_at _ hgd s x t ho base e i z size bytes ht hi hz hsize hby hzs hsz _ n xs hs hown ad m c news hx hl (hnews ad rfl) h1 h63 hbytes hbase fun v' w' h2 h3 _ h5 => h v' w' h2 h3 h5
theorem CpR.putL {w wr u : World} {C1 C2 : Array Value} {nodes noise thr : Int} {vL vM vP : Value} {hs : List Value} {rows : List (List Int)} (h : CpR w wr C1 C2 nodes noise thr vL vM vP hs rows) (hg : wr.grownBy u none) (x : Value) :
    CpR w (u.setCell ⟨w.heap.size + 2, 4, none⟩ x) C1 C2 nodes noise thr x vM vP hs rows := by
  have hn : ∀ B, (none : Option Nat) ≠ some B := fun B e => by cases e
  have hO := h.own.kept hg (by cases vP.ownBlock <;> simp) (fun g hg => by cases hg)
  refine ⟨(h.below.grown hg h.below.size (fun k hk => by cases hk)).setCell (by simp) _, (h.net.grown hg (hn _)).other (by simp) _, (h.zero.grown hg (hn _)).other (by simp) _, ?_, ?_⟩
  · have := (h.out.grown hg (hn _)).set 4 x; simpa using this
  · exact hO.kept (r := some (w.heap.size + 2)) ⟨rfl, rfl, rfl, by simp [World.setCell], fun k hk hne2 => heap_setCell_other _ _ _ _ (fun e => hne2 (by rw [e]))⟩
      (.inr (fun e => by have := (hO.outer.lt _ e).1; omega)) (fun g hg => by injection hg with hg; omega)
theorem CpR.putM {w wr u : World} {C1 C2 : Array Value} {nodes noise thr : Int} {vL vM vP : Value} {hs : List Value} {rows : List (List Int)} (h : CpR w wr C1 C2 nodes noise thr vL vM vP hs rows) (hg : wr.grownBy u none) (x : Value) :
    CpR w (u.setCell ⟨w.heap.size + 2, 5, none⟩ x) C1 C2 nodes noise thr vL x vP hs rows := by
  have hn : ∀ B, (none : Option Nat) ≠ some B := fun B e => by cases e
  have hO := h.own.kept hg (by cases vP.ownBlock <;> simp) (fun g hg => by cases hg)
  refine ⟨(h.below.grown hg h.below.size (fun k hk => by cases hk)).setCell (by simp) _, (h.net.grown hg (hn _)).other (by simp) _, (h.zero.grown hg (hn _)).other (by simp) _, ?_, ?_⟩
  · have := (h.out.grown hg (hn _)).set 5 x; simpa using this
  · exact hO.kept (r := some (w.heap.size + 2)) ⟨rfl, rfl, rfl, by simp [World.setCell], fun k hk hne2 => heap_setCell_other _ _ _ _ (fun e => hne2 (by rw [e]))⟩
      (.inr (fun e => by have := (hO.outer.lt _ e).1; omega)) (fun g hg => by injection hg with hg; omega)
theorem CpR.row_lt {w wr : World} {C1 C2 : Array Value} {nodes noise thr : Int} {vL vM vP : Value} {hs : List Value} {rows : List (List Int)} (h : CpR w wr C1 C2 nodes noise thr vL vM vP hs rows) : ∀ (i g n c : Nat), hs[i]? = some (Value.slice (some ⟨g, 0, none⟩) n c) → g < wr.heap.size := fun i g n c hi => by
  have hil : i < rows.length := by rw [← h.own.len]; exact (List.getElem?_eq_some_iff.1 hi).1
  obtain ⟨g', cap', e, ho, _⟩ := h.own.row i hil
  rw [hi] at e
  injection e with e
  injection e with e1 e2 e3
  injection e1 with e1
  injection e1 with e1
  subst e1
  exact (ho.lt g rfl).2
theorem flat_lnk {xs : List Lnk} {j : Nat} {u : Value} (h : (flat 3 lnkV xs)[j]? = some u) : j < xs.length * 3 ∧ u = .int .i64 (lnkF (xs.getD (j / 3) default) (j % 3)) := by
  have hl : j < xs.length * 3 := by
    have := (List.getElem?_eq_some_iff.1 h).1
    rwa [flat_length] at this
  have := flat_at 3 lnkV xs (j / 3) (j % 3) (by omega) (by omega)
  rw [show j / 3 * 3 + j % 3 = j by omega, h] at this
  injection this with this
  exact ⟨hl, this⟩
theorem lnks_news {w : World} {A : Option Addr} {n : Nat} {xs : List Lnk} {a : Addr} (h : LnkS w A n xs) (ha : A = some a) : ∀ j u, (flat 3 lnkV xs)[j]? = some u → w.cell? (a.add j) = some u := by
  intro j u hu
  obtain ⟨h1, rfl⟩ := flat_lnk hu
  have hl := h.els.len
  obtain ⟨b, off, e, _, hc⟩ := h.els.at_ (by omega)
  rw [ha] at e
  injection e with e
  subst e
  have := hc (j / 3) (by omega) (j % 3) (by omega)
  have ea : (⟨b, off, none⟩ : Addr).add j = ⟨b, off + j / 3 * 3 + j % 3, none⟩ := by unfold Addr.add; split <;> simp_all <;> omega
  rw [ea]; exact this
theorem lnks_one (xs : List Lnk) : ∀ u ∈ flat 3 lnkV xs, u.oneCell' = true := fun u hu => by
  obtain ⟨j, hj⟩ := List.mem_iff_getElem?.1 hu
  rw [(flat_lnk hj).2]; rfl
theorem els_none {α : Type} [Inhabited α] {k : Nat} {f : α → Nat → Int} {w : World} {A : Option Addr} {n : Nat} {xs : List α} (h : Els k f w A n xs) (hA : A = none) : n = 0 := by
  rcases Nat.eq_zero_or_pos n with h0 | h0
  · exact h0
  · obtain ⟨b, off, e, _⟩ := h.at_ h0
    rw [hA] at e; cases e
theorem owns_base {w : World} {base base' : Nat} {e : TypeId} {size n : Nat} {v : Value} {xs : List Value} (h : w.ownsRow base e size v n xs) (hb : base' ≤ base) : w.ownsRow base' e size v n xs :=
  ⟨h.1, h.2.imp id fun ⟨g, cap, cur, h1, h2, h3⟩ => ⟨g, cap, cur, h1, Nat.le_trans hb h2, h3⟩⟩
theorem own_set {w : World} {base : Nat} {e : TypeId} {size n : Nat} {v : Value} {xs : List Value} (h : w.ownsRow base e size v n xs) {a : Addr} (ha : a.block < base) (u : Value) : (w.setCell a u).ownsRow base e size v n xs := ownsRow_setCell_below h ha u
def put6 (w : World) (B : Nat) (v0 v1 v2 v3 v4 v5 : Value) : World :=
  (((((w.setCell ⟨B, 0, none⟩ v0).setCell ⟨B, 1, none⟩ v1).setCell ⟨B, 2, none⟩ v2).setCell ⟨B, 3, none⟩ v3).setCell ⟨B, 4, none⟩ v4).setCell ⟨B, 5, none⟩ v5
theorem put6_gb (w : World) (B : Nat) (v0 v1 v2 v3 v4 v5 : Value) : w.grownBy (put6 w B v0 v1 v2 v3 v4 v5) (some B) := gb_set (gb_set (gb_set (gb_set (gb_set (gb_set (gb_refl w _) _) _) _) _) _) _
/-- what Copy leaves -/
structure CpEnd (w w' : World) (N : Net) (vL vM vP : Value) (hs : List Value) : Prop where
  below : Below w.heap.size w w'
  own : OwnRs w' w.heap.size vP hs N.power
  ownL : w'.ownsRow w.heap.size 44 3 vL N.links.length (flat 3 lnkV N.links)
  ownM : w'.ownsRow w.heap.size 3 1 vM N.margin.length (flat 1 intV N.margin)
  apart : ∀ (i g n c : Nat), hs[i]? = some (Value.slice (some ⟨g, 0, none⟩) n c) → vL.ownBlock ≠ some g ∧ vM.ownBlock ≠ some g
def CopyPost (N : Net) (w : World) (e : Ending) (w' : World) : Prop := ∃ vL vM vP hs, e = .returned (.agg #[.int .i64 N.nodes, vP, .int .i64 N.noise, .int .i64 N.threshold, vL, vM]) ∧ CpEnd w w' N vL vM vP hs
theorem OwnRs.base {w : World} {base base' : Nat} {vP : Value} {hs : List Value} {rows : List (List Int)} (h : OwnRs w base vP hs rows) (hb : base' ≤ base) : OwnRs w base' vP hs rows :=
  ⟨h.len, owns_base h.outer hb, fun i hi => by
    obtain ⟨g, cap, e, ho, ha⟩ := h.row i hi
    exact ⟨g, cap, e, owns_base ho hb, ha⟩, h.apart⟩
theorem CpR.finish {w wr : World} {C1 C2 : Array Value} {N : Net} {vL vM vP : Value} {hs : List Value} (h : CpR w wr C1 C2 N.nodes N.noise N.threshold vL vM vP hs N.power)
    (hL : wr.ownsRow (w.heap.size + 3) 44 3 vL N.links.length (flat 3 lnkV N.links)) (hM : wr.ownsRow (w.heap.size + 3) 3 1 vM N.margin.length (flat 1 intV N.margin))
    (ha : ∀ (i g n c : Nat), hs[i]? = some (Value.slice (some ⟨g, 0, none⟩) n c) → vL.ownBlock ≠ some g ∧ vM.ownBlock ≠ some g) (v0 v1 v2 v3 v4 v5 : Value) :
    CpEnd w (put6 wr (w.heap.size + 1) v0 v1 v2 v3 v4 v5) N vL vM vP hs := by
  have hg := put6_gb wr (w.heap.size + 1) v0 v1 v2 v3 v4 v5
  refine ⟨h.below.grown hg h.below.size (fun k hk => by injection hk with hk; omega), ?_, ?_, ?_, ha⟩
  · exact (h.own.kept hg (.inr (own_ne h.own.outer (by omega))) (fun g hg => by injection hg with hg; omega)).base (by omega)
  · exact owns_base (hL.kept hg (.inr (own_ne hL (by omega)))) (by omega)
  · exact owns_base (hM.kept hg (.inr (own_ne hM (by omega)))) (by omega)
end Nt
end Go.Proofs.Ythibgpgjioepfaa
