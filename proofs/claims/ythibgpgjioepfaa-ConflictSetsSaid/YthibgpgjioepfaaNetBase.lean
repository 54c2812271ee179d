/- Networks, links and cells in memory: what a value reads as, kept while only new memory is made. -/
import Derived.Test.YthibgpgjioepfaaChecked
import Derived.WalkKit
import Derived.Lib.Hide
import Derived.Lib.QuietBelow
import Derived.BigQuiet
namespace Go.Proofs.Ythibgpgjioepfaa
open Go Go.RowKit Go.Sort
namespace Nt
structure Lnk where
  frm : Int
  to : Int
  loss : Int
  deriving DecidableEq, Inhabited
structure Cel where
  slot : Int
  offset : Int
  frm : Int
  to : Int
  flow : Int
  deriving DecidableEq, Inhabited
structure Net where
  nodes : Int
  power : List (List Int)
  noise : Int
  threshold : Int
  links : List Lnk
  margin : List Int
  deriving DecidableEq, Inhabited
def I64 (x : Int) : Prop := -9223372036854775808 ≤ x ∧ x ≤ 9223372036854775807
def Lnk.ok (l : Lnk) : Prop := I64 l.frm ∧ I64 l.to ∧ I64 l.loss
def Cel.ok (c : Cel) : Prop := I64 c.slot ∧ I64 c.offset ∧ I64 c.frm ∧ I64 c.to ∧ I64 c.flow
/-- elements of k integer cells each -/
structure Els {α : Type} [Inhabited α] (k : Nat) (f : α → Nat → Int) (w : World) (A : Option Addr) (n : Nat) (xs : List α) : Prop where
  len : xs.length = n
  small : n ≤ maxLen
  at_ : 0 < n → ∃ b off, A = some ⟨b, off, none⟩ ∧ b < w.heap.size ∧ ∀ i, i < n → ∀ j, j < k → w.cell? ⟨b, off + i * k + j, none⟩ = some (.int .i64 (f (xs.getD i default) j))
theorem Els.keep {α : Type} [Inhabited α] {k : Nat} {f : α → Nat → Int} {w w' : World} {A : Option Addr} {n : Nat} {xs : List α} (h : Els k f w A n xs) (hb : Below w.heap.size w w') : Els k f w' A n xs :=
  ⟨h.len, h.small, fun hn => by
    obtain ⟨b, off, e, hlt, hc⟩ := h.at_ hn
    exact ⟨b, off, e, Nat.lt_of_lt_of_le hlt hb.size, fun i hi j hj => by rw [hb.cell (p := ⟨b, off + i * k + j, none⟩) hlt]; exact hc i hi j hj⟩⟩
def intF (x : Int) (_ : Nat) : Int := x
def lnkF (l : Lnk) : Nat → Int
  | 0 => l.frm
  | 1 => l.to
  | _ => l.loss
def celF (c : Cel) : Nat → Int
  | 0 => c.slot
  | 1 => c.offset
  | 2 => c.frm
  | 3 => c.to
  | _ => c.flow
structure IntS (w : World) (A : Option Addr) (n : Nat) (xs : List Int) : Prop where
  els : Els 1 intF w A n xs
  ok : ∀ x ∈ xs, I64 x
structure LnkS (w : World) (A : Option Addr) (n : Nat) (xs : List Lnk) : Prop where
  els : Els 3 lnkF w A n xs
  ok : ∀ x ∈ xs, x.ok
structure CelS (w : World) (A : Option Addr) (n : Nat) (xs : List Cel) : Prop where
  els : Els 5 celF w A n xs
  ok : ∀ x ∈ xs, x.ok
theorem IntS.keep {w w' : World} {A : Option Addr} {n : Nat} {xs : List Int} (h : IntS w A n xs) (hb : Below w.heap.size w w') : IntS w' A n xs := ⟨h.els.keep hb, h.ok⟩
theorem LnkS.keep {w w' : World} {A : Option Addr} {n : Nat} {xs : List Lnk} (h : LnkS w A n xs) (hb : Below w.heap.size w w') : LnkS w' A n xs := ⟨h.els.keep hb, h.ok⟩
theorem CelS.keep {w w' : World} {A : Option Addr} {n : Nat} {xs : List Cel} (h : CelS w A n xs) (hb : Below w.heap.size w w') : CelS w' A n xs := ⟨h.els.keep hb, h.ok⟩
/-- rows of integers -/
structure RowS (w : World) (A : Option Addr) (n : Nat) (xss : List (List Int)) : Prop where
  len : xss.length = n
  small : n ≤ maxLen
  at_ : 0 < n → ∃ b off, A = some ⟨b, off, none⟩ ∧ b < w.heap.size ∧ ∀ i, i < n → ∃ RA rn rc, w.cell? ⟨b, off + i, none⟩ = some (.slice RA rn rc) ∧ IntS w RA rn (xss.getD i [])
theorem RowS.keep {w w' : World} {A : Option Addr} {n : Nat} {xss : List (List Int)} (h : RowS w A n xss) (hb : Below w.heap.size w w') : RowS w' A n xss :=
  ⟨h.len, h.small, fun hn => by
    obtain ⟨b, off, e, hlt, hc⟩ := h.at_ hn
    refine ⟨b, off, e, Nat.lt_of_lt_of_le hlt hb.size, fun i hi => ?_⟩
    obtain ⟨RA, rn, rc, h1, h2⟩ := hc i hi
    exact ⟨RA, rn, rc, by rw [hb.cell (p := ⟨b, off + i, none⟩) hlt]; exact h1, h2.keep hb⟩⟩
/-- a network as a value -/
structure NetV where
  PA : Option Addr
  pn : Nat
  pc : Nat
  LA : Option Addr
  ln : Nat
  lc : Nat
  MA : Option Addr
  mn : Nat
  mc : Nat
structure NetIs (w : World) (v : NetV) (N : Net) : Prop where
  power : RowS w v.PA v.pn N.power
  links : LnkS w v.LA v.ln N.links
  margin : IntS w v.MA v.mn N.margin
  nodes : I64 N.nodes
  noise : I64 N.noise
  threshold : I64 N.threshold
theorem NetIs.keep {w w' : World} {v : NetV} {N : Net} (h : NetIs w v N) (hb : Below w.heap.size w w') : NetIs w' v N :=
  ⟨h.power.keep hb, h.links.keep hb, h.margin.keep hb, h.nodes, h.noise, h.threshold⟩
/-- a struct that was boxed -/
theorem box_at {w w1 : World} {C : Array Value} {t : TypeId} (hb : Below (w.alloc (.cells C t)).heap.size (w.alloc (.cells C t)) w1) : ∀ i, w1.cell? ⟨w.heap.size, i, none⟩ = C[i]? := by
  intro i
  rw [hb.cell (p := ⟨w.heap.size, i, none⟩) (by simp), World.cell?_alloc_at _ _ _ _ rfl]
theorem box_below {w w1 : World} {o : Obj} (hb : Below (w.alloc o).heap.size (w.alloc o) w1) : Below w.heap.size w w1 :=
  ((Below.refl _ _).alloc (Nat.le_refl _) _).trans (hb.mono (by simp))
theorem bthen {w w1 w2 : World} (h : Below w.heap.size w w1) (k : Below w1.heap.size w1 w2) : Below w.heap.size w w2 := h.trans (k.mono h.size)
theorem all_below {w w1 : World} (h : Below w.heap.size w w1) {b i : Nat} {v : Option Value} (hb : b < w.heap.size) (hc : w.cell? ⟨b, i, none⟩ = v) : w1.cell? ⟨b, i, none⟩ = v := by
  rw [h.cell (p := ⟨b, i, none⟩) hb]; exact hc
def isNode (n a : Int) : Bool := decide (0 ≤ a) && decide (a < n)
theorem isNode_yes {n a : Int} (h : isNode n a = true) : 0 ≤ a ∧ a < n := by unfold isNode at h; simpa using h
theorem isNode_mk {n a : Int} (h : 0 ≤ a ∧ a < n) : isNode n a = true := by unfold isNode; simpa using h
/-- a block known by its cells -/
structure Box (w : World) (B : Nat) (C : Array Value) : Prop where
  lt : B < w.heap.size
  at_ : ∀ i, w.cell? ⟨B, i, none⟩ = C[i]?
theorem Box.keep {w w' : World} {B : Nat} {C : Array Value} (h : Box w B C) (hb : Below w.heap.size w w') : Box w' B C :=
  ⟨Nat.lt_of_lt_of_le h.lt hb.size, fun i => by rw [hb.cell (p := ⟨B, i, none⟩) h.lt]; exact h.at_ i⟩
theorem Box.new (w : World) (C : Array Value) (t : TypeId) : Box (w.alloc (.cells C t)) w.heap.size C :=
  ⟨by simp, fun i => World.cell?_alloc_at _ _ _ _ rfl⟩
theorem Box.alloc {w : World} {B : Nat} {C : Array Value} (h : Box w B C) (o : Obj) : Box (w.alloc o) B C :=
  ⟨by have := h.lt; simp; omega, fun i => by rw [World.cell?_alloc_past _ _ _ h.lt]; exact h.at_ i⟩
theorem below_alloc (w : World) (o : Obj) : Below w.heap.size w (w.alloc o) := (Below.refl _ _).alloc (Nat.le_refl _) _
/-- the elements' cells, where the address is known -/
theorem Els.cell {α : Type} [Inhabited α] {k : Nat} {f : α → Nat → Int} {w : World} {b off n : Nat} {xs : List α} (h : Els k f w (some ⟨b, off, none⟩) n xs) (hn : 0 < n) :
    b < w.heap.size ∧ ∀ i, i < n → ∀ j, j < k → w.cell? ⟨b, off + i * k + j, none⟩ = some (.int .i64 (f (xs.getD i default) j)) := by
  obtain ⟨b', off', e, h1, h2⟩ := h.at_ hn
  injection e with e
  injection e with e1 e2 _
  subst e1 e2
  exact ⟨h1, h2⟩
theorem Els.addr {α : Type} [Inhabited α] {k : Nat} {f : α → Nat → Int} {w : World} {A : Option Addr} {n : Nat} {xs : List α} (h : Els k f w A n xs) (hn : 0 < n) : ∃ b off, A = some ⟨b, off, none⟩ := by
  obtain ⟨b, off, e, _⟩ := h.at_ hn
  exact ⟨b, off, e⟩
theorem IntS.elem {w : World} {b off n : Nat} {xs : List Int} (h : IntS w (some ⟨b, off, none⟩) n xs) {k : Nat} (hk : k < n) : ∃ c, xs[k]? = some c ∧ c ∈ xs ∧ w.cell? ⟨b, off + k, none⟩ = some (.int .i64 c) := by
  have hl := h.els.len
  obtain ⟨_, hc⟩ := h.els.cell (by omega)
  have hk' : k < xs.length := by omega
  have e : xs.getD k default = xs[k] := by rw [List.getD_eq_getElem?_getD, List.getElem?_eq_getElem hk']; rfl
  refine ⟨xs[k], List.getElem?_eq_getElem hk', List.getElem_mem hk', ?_⟩
  · have := hc k hk 0 (by omega)
    rw [e] at this
    simpa [intF] using this
theorem LnkS.elem {w : World} {b off n : Nat} {xs : List Lnk} (h : LnkS w (some ⟨b, off, none⟩) n xs) {k : Nat} (hk : k < n) : ∃ c, xs[k]? = some c ∧ c ∈ xs ∧ w.cell? ⟨b, off + k * 3, none⟩ = some (.int .i64 c.frm) ∧ w.cell? ⟨b, off + k * 3 + 1, none⟩ = some (.int .i64 c.to) ∧ w.cell? ⟨b, off + k * 3 + 2, none⟩ = some (.int .i64 c.loss) := by
  have hl := h.els.len
  obtain ⟨_, hc⟩ := h.els.cell (by omega)
  have hk' : k < xs.length := by omega
  have e : xs.getD k default = xs[k] := by rw [List.getD_eq_getElem?_getD, List.getElem?_eq_getElem hk']; rfl
  refine ⟨xs[k], List.getElem?_eq_getElem hk', List.getElem_mem hk', ?_, ?_, ?_⟩
  · have := hc k hk 0 (by omega)
    rw [e] at this
    simpa [lnkF] using this
  · have := hc k hk 1 (by omega)
    rw [e] at this
    simpa [lnkF] using this
  · have := hc k hk 2 (by omega)
    rw [e] at this
    simpa [lnkF] using this
theorem CelS.elem {w : World} {b off n : Nat} {xs : List Cel} (h : CelS w (some ⟨b, off, none⟩) n xs) {k : Nat} (hk : k < n) : ∃ c, xs[k]? = some c ∧ c ∈ xs ∧ w.cell? ⟨b, off + k * 5, none⟩ = some (.int .i64 c.slot) ∧ w.cell? ⟨b, off + k * 5 + 1, none⟩ = some (.int .i64 c.offset) ∧ w.cell? ⟨b, off + k * 5 + 2, none⟩ = some (.int .i64 c.frm) ∧ w.cell? ⟨b, off + k * 5 + 3, none⟩ = some (.int .i64 c.to) ∧ w.cell? ⟨b, off + k * 5 + 4, none⟩ = some (.int .i64 c.flow) := by
  have hl := h.els.len
  obtain ⟨_, hc⟩ := h.els.cell (by omega)
  have hk' : k < xs.length := by omega
  have e : xs.getD k default = xs[k] := by rw [List.getD_eq_getElem?_getD, List.getElem?_eq_getElem hk']; rfl
  refine ⟨xs[k], List.getElem?_eq_getElem hk', List.getElem_mem hk', ?_, ?_, ?_, ?_, ?_⟩
  · have := hc k hk 0 (by omega)
    rw [e] at this
    simpa [celF] using this
  · have := hc k hk 1 (by omega)
    rw [e] at this
    simpa [celF] using this
  · have := hc k hk 2 (by omega)
    rw [e] at this
    simpa [celF] using this
  · have := hc k hk 3 (by omega)
    rw [e] at this
    simpa [celF] using this
  · have := hc k hk 4 (by omega)
    rw [e] at this
    simpa [celF] using this
theorem RowS.elem {w : World} {b off n : Nat} {xss : List (List Int)} (h : RowS w (some ⟨b, off, none⟩) n xss) {k : Nat} (hk : k < n) :
    ∃ xs RA rn rc, xss[k]? = some xs ∧ xs ∈ xss ∧ w.cell? ⟨b, off + k, none⟩ = some (.slice RA rn rc) ∧ IntS w RA rn xs := by
  have hl := h.len
  obtain ⟨b', off', e, h1, h2⟩ := h.at_ (by omega)
  injection e with e
  injection e with e1 e2 _
  subst e1 e2
  have hk' : k < xss.length := by omega
  have e : xss.getD k [] = xss[k] := by rw [List.getD_eq_getElem?_getD, List.getElem?_eq_getElem hk']; rfl
  obtain ⟨RA, rn, rc, h3, h4⟩ := h2 k hk
  rw [e] at h4
  exact ⟨xss[k], RA, rn, rc, List.getElem?_eq_getElem hk', List.getElem_mem hk', h3, h4⟩
theorem RowS.addr {w : World} {A : Option Addr} {n : Nat} {xss : List (List Int)} (h : RowS w A n xss) (hn : 0 < n) : ∃ b off, A = some ⟨b, off, none⟩ := by
  obtain ⟨b, off, e, _⟩ := h.at_ hn
  exact ⟨b, off, e⟩
end Nt
end Go.Proofs.Ythibgpgjioepfaa
