/- conflict.Disturbance, touches, and the closure of faulty. -/
import Derived.Test.YthibgpgjioepfaaCfl2
namespace Go.Proofs.Ythibgpgjioepfaa
open Go Go.RowKit Go.Sort
namespace Nt
def touches (a b : Cel) : Bool := a.frm == b.frm || a.frm == b.to || a.to == b.frm || a.to == b.to
set_option maxRecDepth 100000 in
set_option maxHeartbeats 1000000 in
theorem touches_any (a b : Cel) (w : World) :
    Calls Try.prog 72 #[.agg #[.int .i64 a.slot, .int .i64 a.offset, .int .i64 a.frm, .int .i64 a.to, .int .i64 a.flow], .agg #[.int .i64 b.slot, .int .i64 b.offset, .int .i64 b.frm, .int .i64 b.to, .int .i64 b.flow]] w
      fun e w' => e = .returned (.bool (touches a b)) ∧ Below w.heap.size w w' := by
  obtain ⟨a0, a1, a2, a3, a4⟩ := a
  obtain ⟨b0, b1, b2, b3, b4⟩ := b
  dsimp only
  have HT : Hid (touches ⟨a0, a1, a2, a3, a4⟩ ⟨b0, b1, b2, b3, b4⟩ = (a2 == b2 || a2 == b3 || a3 == b2 || a3 == b3)) := rfl
  cases h1 : (a2 == b2) with
  | true =>
    rw [h1] at HT
    go_enter Try.func72, Try.ntmps72
    go_wp2
    go_ret
    exact ⟨by rw [HT.out]; rfl, (below_alloc _ _).alloc (by simp) _⟩
  | false =>
    rw [h1] at HT
    cases h2 : (a2 == b3) with
    | true =>
      rw [h2] at HT
      go_enter Try.func72, Try.ntmps72
      go_wp2
      go_ret
      exact ⟨by rw [HT.out]; rfl, (below_alloc _ _).alloc (by simp) _⟩
    | false =>
      rw [h2] at HT
      cases h3 : (a3 == b2) with
      | true =>
        rw [h3] at HT
        go_enter Try.func72, Try.ntmps72
        go_wp2
        go_ret
        exact ⟨by rw [HT.out]; rfl, (below_alloc _ _).alloc (by simp) _⟩
      | false =>
        rw [h3] at HT
        go_enter Try.func72, Try.ntmps72
        go_wp2
        go_ret
        exact ⟨by rw [HT.out]; rfl, (below_alloc _ _).alloc (by simp) _⟩
theorem enter_none : ∀ (args : Array Value) (w : World), (callFunc 36 args).run Try.prog w = .ok (.enter 36 args) w := fun _ _ => by kernel_rfl
def distN (N : Net) (cs : List Cel) (i node : Int) : Int :=
  if check N = 0 ∧ 0 ≤ i ∧ i < cs.length ∧ isNode N.nodes node = true ∧ cs.any (noneC N.nodes) = false then dist N cs i node else 0
set_option maxRecDepth 100000 in
set_option maxHeartbeats 2000000 in
theorem Disturbance_any (N : Net) (v : NetV) (A : Option Addr) (n c : Nat) (cs : List Cel) (i node : Int) (w : World) (hN : NetIs w v N) (hs : CelS w A n cs) (hn : n ≤ 100000) :
    Calls Try.prog 13 #[.agg #[.int .i64 N.nodes, .slice v.PA v.pn v.pc, .int .i64 N.noise, .int .i64 N.threshold, .slice v.LA v.ln v.lc, .slice v.MA v.mn v.mc], .slice A n c, .int .i64 i, .int .i64 node] w
      fun e w' => e = .returned (.int .i64 (distN N cs i node)) ∧ Below w.heap.size w w' := by
  have BX := Box.new w #[.int .i64 N.nodes, .slice v.PA v.pn v.pc, .int .i64 N.noise, .int .i64 N.threshold, .slice v.LA v.ln v.lc, .slice v.MA v.mn v.mc] 26
  have hbw := below_alloc w (.cells #[.int .i64 N.nodes, .slice v.PA v.pn v.pc, .int .i64 N.noise, .int .i64 N.threshold, .slice v.LA v.ln v.lc, .slice v.MA v.mn v.mc] 26)
  have HC := check_any N v _ (hN.keep hbw)
  have hlen := hs.els.len
  have HI : Hid (distN N cs i node = if check N = 0 ∧ 0 ≤ i ∧ i < (n : Int) ∧ isNode N.nodes node = true ∧ cs.any (noneC N.nodes) = false then dist N cs i node else 0) := by show _ = _; unfold distN; rw [hlen]
  have HF := fun W (h1 : NetIs W v N) (h2 : CelS W A n cs) (hc : check N = 0) (nd : Nat) (h3 : (nd : Int) < N.nodes) => dist_any N v A n c cs i nd W h1 h2 (check_zero hc).2.1 (check_zero hc).2.2.1 h3 hn
  have HO := fun W (h2 : CelS W A n cs) (B : Nat) (hB : Box W B #[.int .i64 N.nodes, .slice v.PA v.pn v.pc, .int .i64 N.noise, .int .i64 N.threshold, .slice v.LA v.ln v.lc, .slice v.MA v.mn v.mc]) => containsC_any 36 enter_none (.pointer (some ⟨B, 0, none⟩)) (noneC N.nodes) A n c cs W h2 (fun W' h q _ => noneC_any N.nodes _ _ _ _ _ q B W' (hB.keep h))
  replace hlen := Lib.hid hlen
  replace HC := Lib.hid HC
  replace HF := Lib.hid HF
  replace HO := Lib.hid HO
  replace hN := Lib.hid hN
  replace hs := Lib.hid hs
  replace BX := Lib.hid BX
  replace hbw := Lib.hid hbw
  generalize check N = C at *
  generalize distN N cs i node = I at *
  generalize hDg : dist N cs i = D at *
  obtain ⟨nodes, power, noise, thr, links, margin⟩ := N
  obtain ⟨PA, pn, pc, LA, ln, lc, MA, mn, mc⟩ := v
  dsimp only at *
  clear hDg
  generalize hag : cs.any (noneC nodes) = AN at *
  replace hag := Lib.hid hag
  go_enter Try.func13, Try.ntmps13
  go_wp2_with fail
  refine HC.out.mono ?_
  rintro e w1 ⟨rfl, hb1⟩
  have BX1 := Lib.hid (BX.out.keep hb1)
  have hb2 := Lib.hid (bthen hbw.out hb1)
  clear hb1 BX hbw
  have kx := BX1.out.at_
  by_cases c : C = 0
  case neg =>
    have HI' : Hid (I = 0) := by show _ = _; rw [HI.out, if_neg (fun h => c h.1)]
    have d : (C != 0) = true := by rw [bne_iff_ne]; exact c
    replace c := Lib.hid c
    go_wp2
    go_ret
    exact ⟨by rw [HI'.out]; rfl, hb2.out⟩
  have dz : (C != 0) = false := by rw [c]; rfl
  replace c := Lib.hid c
  by_cases c1 : 0 ≤ i
  case neg =>
    have HI' : Hid (I = 0) := by show _ = _; rw [HI.out, if_neg (fun h => c1 h.2.1)]
    go_wp2
    go_ret
    exact ⟨by rw [HI'.out]; rfl, hb2.out⟩
  by_cases c2 : i < (n : Int)
  case neg =>
    have HI' : Hid (I = 0) := by show _ = _; rw [HI.out, if_neg (fun h => c2 h.2.2.1)]
    go_wp2
    go_ret
    exact ⟨by rw [HI'.out]; rfl, hb2.out⟩
  go_wp2_with fail
  refine (isNode_any nodes node _ _ _ _ _ _).mono ?_
  rintro e w2 ⟨rfl, hb3⟩
  have BX2 := Lib.hid (BX1.out.keep hb3)
  have hb4 := Lib.hid (bthen hb2.out hb3)
  clear hb3 BX1 hb2 kx
  have kx := BX2.out.at_
  by_cases c3 : isNode nodes node = true
  case neg =>
    have c3' : isNode nodes node = false := by simpa using c3
    rw [c3']
    have HI' : Hid (I = 0) := by show _ = _; rw [HI.out, if_neg (fun h => c3 h.2.2.2.1)]
    clear c3 c3'
    go_wp2
    go_ret
    exact ⟨by rw [HI'.out]; rfl, hb4.out⟩
  rw [c3]
  have HOc := Lib.hid (HO.out w2 (hs.out.keep hb4.out) _ BX2.out)
  have hnode := isNode_yes c3
  have hc3 := Lib.hid c3
  clear c3
  go_wp2_with fail
  refine HOc.out.mono ?_
  rintro e w3 ⟨rfl, hb5⟩
  have BX3 := Lib.hid (BX2.out.keep hb5)
  have hb6 := Lib.hid (bthen hb4.out hb5)
  clear hb5 BX2 hb4 kx HOc
  have kx := BX3.out.at_
  cases hAN : AN with
  | true =>
    have HI' : Hid (I = 0) := by show _ = _; rw [HI.out, if_neg (fun h => by rw [hAN] at h; cases h.2.2.2.2)]
    replace hAN := Lib.hid hAN
    go_wp2
    go_ret
    exact ⟨by rw [HI'.out]; rfl, hb6.out⟩
  | false =>
    have HI' : Hid (I = D node) := by show _ = _; rw [HI.out, if_pos ⟨c.out, c1, c2, hc3.out, hAN⟩]
    replace hAN := Lib.hid hAN
    obtain ⟨nd, rfl⟩ := Int.eq_ofNat_of_zero_le hnode.1
    have HFc := Lib.hid (HF.out w3 (hN.out.keep hb6.out) (hs.out.keep hb6.out) c.out nd hnode.2)
    go_wp2_with fail
    refine HFc.out.mono ?_
    rintro e w4 ⟨rfl, hb7⟩
    go_wp2
    go_ret
    exact ⟨by rw [HI'.out]; rfl, bthen hb6.out hb7⟩
end Nt
end Go.Proofs.Ythibgpgjioepfaa
