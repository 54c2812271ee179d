/- Plain law of CrcFinds: bursts, distinct wrong bits, and the map of those seen. -/
import Derived.Test.YtlefbpopemkkaaaCrcFlip
import Derived.Maps.Own
import Derived.Maps.OwnOps
import Derived.Maps.OwnSet
import Derived.Maps.Views
namespace Go.Proofs.Ytlefbpopemkkaaa
open Go Go.RowKit Go.Sort
open Crc
namespace Crc
def acc (b : W) (lim : Nat) : Nat → W
  | 0 => 0
  | k + 1 => if b.getLsbD k && decide (k < lim) then acc b lim k ^^^ bas k else acc b lim k
theorem acc_high (b : W) (lim : Nat) : ∀ k j, k ≤ 16 → k ≤ j → j < 16 → (acc b lim k).getLsbD j = false
  | 0, j, _, _, _ => by simp [acc]
  | k + 1, j, hk, hkj, hj => by
    have ih := acc_high b lim k j (by omega) (by omega) hj
    simp only [acc]
    split
    · rw [BitVec.getLsbD_xor, ih]
      have : ∀ k j : Fin 16, k.val ≠ j.val → (bas k.val).getLsbD j.val = false := by decide +kernel
      rw [this ⟨k, by omega⟩ ⟨j, hj⟩ (by simp; omega)]; rfl
    · exact ih
theorem acc_bit (b : W) (lim : Nat) (k : Nat) (hk : k < 16) : (acc b lim k ^^^ bas k) ≠ 0 := by
  intro h
  have h2 := congrArg (fun x : W => x.getLsbD k) h
  simp only [BitVec.getLsbD_xor] at h2
  rw [acc_high b lim k k (by omega) (Nat.le_refl _) hk] at h2
  have : ∀ k : Fin 16, (bas k.val).getLsbD k.val = true := by decide +kernel
  rw [this ⟨k, hk⟩] at h2
  exact absurd h2 (by simp)
theorem bas_pw (i k : Nat) (hk : k < 16) : Tn i (bas k) = pw (i + k) := by
  have : ∀ k : Fin 16, bas k.val = Tn k.val 1 := by decide +kernel
  rw [this ⟨k, hk⟩, ← Tn_add]; rfl
structure Burst (p ws : ByteArray) (i : Nat) (b : W) (lim k : Nat) : Prop where
  size : ws.size = p.size
  val : VB ws = VB p ^^^ Tn i (acc b lim k)
  same : acc b lim k = 0 → ws = p
theorem Burst.start (p : ByteArray) (i : Nat) (b : W) (lim : Nat) : Burst p p i b lim 0 :=
  ⟨rfl, by show _ = _ ^^^ Tn i 0; rw [(Tn_lin i).zero]; exact (zx _).symm, fun _ => rfl⟩
theorem Burst.skip {p ws : ByteArray} {i : Nat} {b : W} {lim k : Nat} (h : Burst p ws i b lim k) (hb : (b.getLsbD k && decide (k < lim)) = false) : Burst p ws i b lim (k + 1) := by
  have e : acc b lim (k + 1) = acc b lim k := by simp only [acc]; rw [if_neg (by rw [hb]; decide)]
  exact ⟨h.size, by rw [e]; exact h.val, by rw [e]; exact h.same⟩
theorem Burst.step {p ws : ByteArray} {i : Nat} {b : W} {lim k : Nat} (h : Burst p ws i b lim k) (hk : k < 16) (hb : (b.getLsbD k && decide (k < lim)) = true) (hi : i + k < 8 * p.size) : Burst p (flipB ws (i + k)) i b lim (k + 1) := by
  have e : acc b lim (k + 1) = acc b lim k ^^^ bas k := by simp only [acc]; rw [if_pos hb]
  refine ⟨by rw [flip_size, h.size], ?_, fun h0 => ?_⟩
  · rw [flip_V _ _ (by rw [h.size]; exact hi), h.val, e, Tn_lin i, bas_pw i k hk, BitVec.xor_assoc]
  · rw [e] at h0; exact absurd h0 (acc_bit b lim k hk)
theorem Burst.zero {p ws : ByteArray} {i : Nat} {b : W} {lim k : Nat} (h : Burst p ws i b lim k) (hp : VB p = 0) : VB ws = 0 ↔ ws = p := by
  constructor
  · intro h0
    have hv := h.val
    rw [h0, hp, show (0 : W) ^^^ Tn i (acc b lim k) = Tn i (acc b lim k) from BitVec.zero_xor] at hv
    exact h.same (Tn_inj0 i _ hv.symm)
  · intro e; rw [e, hp]
/-- distinct wrong bits -/
def xorAll : List Nat → W
  | [] => 0
  | k :: ks => xorAll ks ^^^ pw k
theorem xorAll_par (ks : List Nat) : par (xorAll ks) = decide (ks.length % 2 = 1) := by
  induction ks with
  | nil => rfl
  | cons k ks ih =>
    simp only [xorAll, List.length_cons]
    rw [par_xor, ih, par_pw]
    by_cases h : ks.length % 2 = 1
    · rw [decide_eq_true h]
      have : ¬ (ks.length + 1) % 2 = 1 := by omega
      simp [this]
    · have h2 : (ks.length + 1) % 2 = 1 := by omega
      simp [h, h2]
structure Many (p ms : ByteArray) (n : Nat) (ks : List Nat) : Prop where
  size : ms.size = p.size
  val : VB ms = VB p ^^^ xorAll ks
  nodup : ks.Nodup
  lt : ∀ k ∈ ks, k < n
theorem Many.start (p : ByteArray) (n : Nat) : Many p p n [] := ⟨rfl, (zx _).symm, List.nodup_nil, fun k hk => by cases hk⟩
theorem Many.step {p ms : ByteArray} {n : Nat} {ks : List Nat} (h : Many p ms n ks) (k : Nat) (hk : k < n) (hn : n = 8 * p.size) (hks : k ∉ ks) : Many p (flipB ms k) n (k :: ks) :=
  ⟨by rw [flip_size, h.size], by rw [flip_V _ _ (by rw [h.size]; omega), h.val]; simp only [xorAll]; rw [BitVec.xor_assoc], List.nodup_cons.2 ⟨hks, h.nodup⟩, fun j hj => by
    rcases List.mem_cons.1 hj with rfl | hj
    · exact hk
    · exact h.lt j hj⟩
theorem Many.found {p ms : ByteArray} {n : Nat} {ks : List Nat} (h : Many p ms n ks) (hp : VB p = 0) (hn : n < 32767) (hl : ks.length = 2 ∨ ks.length % 2 = 1) : VB ms ≠ 0 := by
  rw [h.val, hp, show (0 : W) ^^^ xorAll ks = xorAll ks from BitVec.zero_xor]
  intro h0
  rcases hl with hl | hl
  · match ks, hl with
    | [a, b], _ =>
      have hnd := h.nodup
      have ha := h.lt a (by simp)
      have hb := h.lt b (by simp)
      simp only [xorAll] at h0
      rw [show (0 : W) ^^^ pw b = pw b from BitVec.zero_xor] at h0
      have e : pw b = pw a := by
        have := congrArg (fun x => x ^^^ pw a) h0
        simp only [BitVec.xor_assoc, BitVec.xor_self, BitVec.xor_zero] at this
        rw [this]; exact BitVec.zero_xor
      have := pw_inj b a (by omega) (by omega) e
      simp at hnd
      exact hnd this.symm
  · have := xorAll_par ks
    rw [h0, decide_eq_true hl] at this
    exact absurd this (by decide)
/-- the map of the bits seen -/
def keyL (k : Nat) : Lit := .int .i64 (k : Int)
def SeenD : List Nat → DataW Unit
  | [] => .map []
  | k :: ks => (SeenD ks).put (keyL k) (.lit (.bool true))
theorem keyL_isKey (k : Nat) : WideAt.IsKeyLit (keyL k) := trivial
theorem keyL_ne {j k : Nat} (h : j ≠ k) : keyL j ≠ keyL k := by
  unfold keyL; intro e; injection e with _ e; omega
theorem SeenD_isMap : ∀ ks, Maps.IsMap (SeenD ks)
  | [] => Maps.isMap_empty
  | _ :: ks => (SeenD_isMap ks).put _ _
theorem SeenD_tidy : ∀ ks, Maps.Tidy (SeenD ks)
  | [] => Maps.tidy_empty
  | k :: ks => (SeenD_tidy ks).put (keyL_isKey k) _
theorem SeenD_at : ∀ (ks : List Nat), ∀ k, (SeenD ks).atKey (keyL k) (.lit (.bool false)) = .lit (.bool (decide (k ∈ ks)))
  | [], k => by simp [SeenD, DataW.atKey]
  | j :: ks, k => by
    by_cases c : k = j
    · subst c
      simp only [SeenD]
      rw [Maps.atKey_put_same (SeenD_isMap ks) (keyL_isKey k)]
      simp
    · simp only [SeenD]
      rw [Maps.atKey_put_other (keyL_ne c), SeenD_at ks k]
      simp [c]
theorem SeenD_has : ∀ (ks : List Nat), ∀ k, Maps.has (SeenD ks) (keyL k) = decide (k ∈ ks)
  | [], k => by simp [SeenD, Maps.has]
  | j :: ks, k => by
    by_cases c : k = j
    · subst c
      simp only [SeenD]
      rw [Maps.has_put_same (SeenD_isMap ks) (keyL_isKey k)]
      simp
    · simp only [SeenD]
      rw [Maps.has_put_other (keyL_ne c), SeenD_has ks k]
      simp [c]
theorem SeenD_size : ∀ (ks : List Nat), ks.Nodup → Maps.size (SeenD ks) = ks.length
  | [], _ => rfl
  | k :: ks, hn => by
    have hn' := List.nodup_cons.1 hn
    simp only [SeenD]
    rw [Maps.size_put (SeenD_tidy ks), SeenD_has ks, if_neg (by simp [hn'.1]), SeenD_size ks hn'.2]
    rfl
/-- 'm[k]' at bools -/
theorem plainElem_bool_inv {H : Type} {P : Program} {e : TypeId} (he : P.underlying e = some .bool) {v : Value} {zz : DataW H × List MemPlace} (h : plainElem P e v = some zz) : ∃ b, v = .bool b ∧ zz = (.lit (.bool b), []) := by
  unfold plainElem at h
  rw [he] at h
  cases v <;> simp at h
  exact ⟨_, rfl, h.symm⟩
theorem wpList_lookup_own_bool {H : Type} {P : Program} (w : World) {ops : Array Oper} {rest : List Oper} {o : Oper} {a : Act} {Q : Exit → Act → World → Prop}
    (hg : o.guard = none) (m x : Operand) (t : TypeId) (hop : o.op = Op.lookup t m x false)
    (k e : TypeId) (K : Maps.Keyed P k) (ht : P.underlying t = some (.map k e)) (he : P.underlying e = some .bool) (hz : (zeroValue e).run P w = .ok (.bool false) w) (b n : Nat) (D : DataW H)
    (hm : a.eval m = .map (some b)) (hown : w.ownsMap P k (plainElem P e) b n D) (key : Value) (kl : Lit) (hx : a.eval x = key) (hkey : keyOf P k key = some kl)
    (hK : ∀ c : Bool, D.atKey kl (.lit (.bool false)) = .lit (.bool c) → wpList P ops Q rest (a.put o.dst (.bool c)) w) :
    wpList P ops Q (o :: rest) a w := by
  refine wpList_plain hg fun K' hK' => ?_
  obtain ⟨v, ps, hrun, hv⟩ := hown.lookup K ht hz (plainElem_bool he false) hkey
  obtain ⟨c, rfl, hc⟩ := plainElem_bool_inv he hv
  simp only [Prod.mk.injEq] at hc
  unfold Oper.wp
  simp [execOp, hop, hm, hx, hrun, Result.andThen]
  exact hK' _ _ (hK c hc.1)
theorem own_below {H : Type} {w w' : World} {P : Program} {k : TypeId} {R : Value → Option (DataW H × List MemPlace)} {b n : Nat} {D : DataW H} (h : w.ownsMap P k R b n D) (hb : Below w.heap.size w w') : w'.ownsMap P k R b n D :=
  h.kept (row := none) ⟨hb.os, hb.tape, hb.output, hb.size, fun i hi _ => hb.block i hi⟩ (by simp)
end Crc
end Go.Proofs.Ytlefbpopemkkaaa
