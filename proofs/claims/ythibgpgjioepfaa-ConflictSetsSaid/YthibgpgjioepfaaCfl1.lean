/- network.Usable; conflict.disturbance. -/
import Derived.Test.YthibgpgjioepfaaNetUse3
namespace Go.Proofs.Ythibgpgjioepfaa
open Go Go.RowKit Go.Sort
namespace Nt
def usableN (N : Net) (i : Int) : Bool := decide (check N = 0) && decide (0 ≤ i) && decide (i < N.links.length) && usableV N i.toNat
set_option maxRecDepth 100000 in
set_option maxHeartbeats 1000000 in
theorem Usable_any (N : Net) (v : NetV) (i : Int) (w : World) (hN : NetIs w v N) :
    Calls Try.prog 25 #[.agg #[.int .i64 N.nodes, .slice v.PA v.pn v.pc, .int .i64 N.noise, .int .i64 N.threshold, .slice v.LA v.ln v.lc, .slice v.MA v.mn v.mc], .int .i64 i] w
      fun e w' => e = .returned (.bool (usableN N i)) ∧ Below w.heap.size w w' := by
  have BX := Box.new w #[.int .i64 N.nodes, .slice v.PA v.pn v.pc, .int .i64 N.noise, .int .i64 N.threshold, .slice v.LA v.ln v.lc, .slice v.MA v.mn v.mc] 26
  have hbw := below_alloc w (.cells #[.int .i64 N.nodes, .slice v.PA v.pn v.pc, .int .i64 N.noise, .int .i64 N.threshold, .slice v.LA v.ln v.lc, .slice v.MA v.mn v.mc] 26)
  have HC := check_any N v _ (hN.keep hbw)
  have HF := fun W (h : NetIs W v N) (hc : check N = 0) (j : Nat) (hj : j < N.links.length) => usable_any N v j W h hc hj
  have HI : Hid (usableN N i = (decide (check N = 0) && decide (0 ≤ i) && decide (i < N.links.length) && usableV N i.toNat)) := rfl
  have hln := hN.links.els.len
  replace hln := Lib.hid hln
  replace HC := Lib.hid HC
  replace HF := Lib.hid HF
  replace hN := Lib.hid hN
  replace BX := Lib.hid BX
  replace hbw := Lib.hid hbw
  generalize check N = C at *
  generalize usableN N i = I at *
  obtain ⟨nodes, power, noise, thr, links, margin⟩ := N
  obtain ⟨PA, pn, pc, LA, ln, lc, MA, mn, mc⟩ := v
  dsimp only at *
  go_enter Try.func25, Try.ntmps25
  go_wp2_with fail
  refine HC.out.mono ?_
  rintro e w1 ⟨rfl, hb1⟩
  have BX1 := (BX.out.keep hb1).at_
  have hb2 := Lib.hid (bthen hbw.out hb1)
  have N1 := Lib.hid (hN.out.keep (bthen hbw.out hb1))
  clear hb1
  by_cases c : C = 0
  case neg =>
    have HI' : Hid (I = false) := by show _ = _; rw [HI.out]; simp [c]
    have d : (C == 0) = false := by rw [beq_eq_false_iff_ne]; exact c
    replace c := Lib.hid c
    go_wp2
    go_ret
    exact ⟨by rw [HI'.out]; rfl, hb2.out⟩
  have dz : (C == 0) = true := by rw [c]; rfl
  by_cases c1 : 0 ≤ i
  case neg =>
    have HI' : Hid (I = false) := by show _ = _; rw [HI.out]; simp [c1]
    replace c := Lib.hid c
    go_wp2
    go_ret
    exact ⟨by rw [HI'.out]; rfl, hb2.out⟩
  by_cases c2 : i < (ln : Int)
  case neg =>
    have HI' : Hid (I = false) := by show _ = _; rw [HI.out, hln.out]; simp [c2]
    replace c := Lib.hid c
    go_wp2
    go_ret
    exact ⟨by rw [HI'.out]; rfl, hb2.out⟩
  obtain ⟨j, rfl⟩ := Int.eq_ofNat_of_zero_le c1
  have HI' := HI.out
  rw [hln.out, Int.toNat_natCast] at HI'
  replace HI' : Hid (I = usableV ⟨nodes, power, noise, thr, links, margin⟩ j) := by show _ = _; rw [HI', decide_eq_true c, decide_eq_true c1, decide_eq_true c2]; rfl
  have HF' := Lib.hid (HF.out _ N1.out c j (by have := hln.out; omega))
  replace c := Lib.hid c
  go_wp2_with fail
  refine HF'.out.mono ?_
  rintro e w2 ⟨rfl, hb3⟩
  go_wp2
  go_ret
  exact ⟨by rw [HI'.out]; rfl, bthen hb2.out hb3⟩
/-- what an end adds -/
def adds (N : Net) (node a : Int) : Int := if isNode N.nodes a = true then powerAt N a node else 0
def distC (N : Net) (node : Int) (c : Cel) : Int := adds N node c.frm + adds N node c.to
def distTo (N : Net) (cs : List Cel) (i node : Int) : Nat → Int
  | 0 => 0
  | k + 1 => distTo N cs i node k + (if (k : Int) = i then 0 else distC N node (cs.getD k default))
def dist (N : Net) (cs : List Cel) (i node : Int) : Int := distTo N cs i node cs.length
theorem adds_bd {N : Net} (h : ∀ xs ∈ N.power, ∀ x ∈ xs, 0 ≤ x ∧ x ≤ 68719476736) (node a : Int) : 0 ≤ adds N node a ∧ adds N node a ≤ 68719476736 := by
  unfold adds
  split
  · exact powerAt_bd h a node
  · omega
theorem distTo_bd {N : Net} (h : ∀ xs ∈ N.power, ∀ x ∈ xs, 0 ≤ x ∧ x ≤ 68719476736) (cs : List Cel) (i node : Int) (k : Nat) : 0 ≤ distTo N cs i node k ∧ distTo N cs i node k ≤ (k : Int) * 137438953472 := by
  induction k with
  | zero => simp [distTo]
  | succ k ih =>
    simp only [distTo]
    have h1 := adds_bd h node (cs.getD k default).frm
    have h2 := adds_bd h node (cs.getD k default).to
    split
    · omega
    · unfold distC; omega
end Nt
end Go.Proofs.Ythibgpgjioepfaa
