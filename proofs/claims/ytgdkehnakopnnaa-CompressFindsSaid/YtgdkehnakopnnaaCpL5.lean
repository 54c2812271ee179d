/- CompressShorter, walked. -/
import Derived.Test.YtgdkehnakopnnaaCpL4
namespace Go.Proofs.Ytgdkehnakopnnaa
open Go Go.RowKit Go.Sort
namespace Cp
open Mm
theorem fnd_succ (ps : List ByteArray) (a : ByteArray) (k : Nat) : fnd ps a (k + 1) = if hasP a (ps.getD k default) = true ∧ (fnd ps a k < 0 ∨ (ps.getD (fnd ps a k).toNat default).size < (ps.getD k default).size) then (k : Int) else fnd ps a k := rfl
theorem fnd_append (ps : List ByteArray) (m x : ByteArray) : ∀ k, k ≤ ps.length → fnd (ps ++ [m]) x k = fnd ps x k := by
  intro k
  induction k with
  | zero => intro _; rfl
  | succ k ih =>
    intro hk
    have hb := fnd_bd ps x k
    have g : ∀ i, i < ps.length → (ps ++ [m]).getD i default = ps.getD i default := fun i hi => by
      rw [List.getD_eq_getElem?_getD, List.getD_eq_getElem?_getD, List.getElem?_append_left hi]
    rw [fnd_succ, fnd_succ, ih (by omega), g k (by omega)]
    by_cases h0 : fnd ps x k < 0
    · simp only [h0, true_or]
    · rw [g (fnd ps x k).toNat (by omega)]
theorem lenA (ps : List ByteArray) (x : ByteArray) (hx : x.size = 4) : (encA ps x).length = if 0 ≤ fndA ps x then 4 + 8 * (4 - (ps.getD (fndA ps x).toNat default).size) else 33 := by
  unfold encA headA tailA
  have hxl : x.data.toList.length = 4 := by rw [← hx]; simp
  by_cases hf : 0 ≤ fndA ps x
  · rw [if_pos hf, if_pos hf, if_pos hf, List.length_append, bytesB_length, List.length_drop, hxl, List.length_append, bitsOf_length]
    simp only [List.length_singleton]
  · rw [if_neg hf, if_neg hf, if_neg hf, List.length_append, bytesB_length, hxl]
    rfl
theorem lenA_less (ps : List ByteArray) (m x : ByteArray) (ho : ctxOk (ps ++ [m]) = true) (hx : x.size = 4) : (encA (ps ++ [m]) x).length ≤ (encA ps x).length ∧ (encA ps x).length ≤ (encA [] x).length := by
  have e0 : (encA [] x).length = 33 := by rw [lenA _ _ hx]; rfl
  rw [e0, lenA _ _ hx, lenA _ _ hx]
  have hb : -1 ≤ fndA ps x ∧ fndA ps x < (ps.length : Int) := fnd_bd ps x ps.length
  have hmem := ctxOk_mem ho
  have hm := hmem m (by simp)
  have g : ∀ i, i < ps.length → (ps ++ [m]).getD i default = ps.getD i default := fun i hi => by
    rw [List.getD_eq_getElem?_getD, List.getD_eq_getElem?_getD, List.getElem?_append_left hi]
  have gm : (ps ++ [m]).getD ps.length default = m := by
    rw [List.getD_eq_getElem?_getD, List.getElem?_append_right (Nat.le_refl _)]; simp
  have e : fndA (ps ++ [m]) x = if hasP x m = true ∧ (fndA ps x < 0 ∨ (ps.getD (fndA ps x).toNat default).size < m.size) then (ps.length : Int) else fndA ps x := by
    unfold fndA
    rw [List.length_append, List.length_singleton]
    show fnd _ _ (ps.length + 1) = _
    rw [fnd_succ, fnd_append _ _ _ _ (Nat.le_refl _), gm]
    have hb' := fnd_bd ps x ps.length
    by_cases h0 : fnd ps x ps.length < 0
    · simp only [h0, true_or]
    · rw [g _ (by omega)]
  rw [e]
  by_cases hc : hasP x m = true ∧ (fndA ps x < 0 ∨ (ps.getD (fndA ps x).toNat default).size < m.size)
  · rw [if_pos hc, if_pos (by omega), show ((ps.length : Int)).toNat = ps.length by omega, gm]
    by_cases h0 : 0 ≤ fndA ps x
    · rw [if_pos h0]
      have hp := hmem (ps.getD (fndA ps x).toNat default) (by rw [List.mem_append]; exact .inl (getD_mem (by omega)))
      rcases hc.2 with h | h <;> omega
    · rw [if_neg h0]; omega
  · rw [if_neg hc]
    by_cases h0 : 0 ≤ fndA ps x
    · rw [if_pos h0, if_pos h0, g _ (by omega)]
      have hp := hmem (ps.getD (fndA ps x).toNat default) (by rw [List.mem_append]; exact .inl (getD_mem (by omega)))
      omega
    · rw [if_neg h0, if_neg h0]; omega
theorem enc_less (ps : List ByteArray) (m : ByteArray) (h : Hdr) (ho : ctxOk (ps ++ [m]) = true) (g : Good h) : (enc (ps ++ [m]) h).length ≤ (enc ps h).length ∧ (enc ps h).length ≤ (enc [] h).length := by
  have h1 := lenA_less ps m h.src ho g.src
  have h2 := lenA_less ps m h.dst ho g.dst
  unfold enc encs
  simp only [List.flatten_cons, List.flatten_nil, List.append_nil, List.length_append]
  omega
theorem owns_base {w : World} {base base' : Nat} {e : TypeId} {size n : Nat} {v : Value} {xs : List Value} (h : w.ownsRow base e size v n xs) (hb : base' ≤ base) : w.ownsRow base' e size v n xs :=
  ⟨h.1, h.2.imp id fun ⟨g, cap, cur, h1, h2, h3⟩ => ⟨g, cap, cur, h1, Nat.le_trans hb h2, h3⟩⟩
def bitsE (ps : List ByteArray) (h : Hdr) : Int := (BitR ps h).2
def lessB (a b c : Nat × Int) : Prop := a.2 = 0 → b.2 = 0 → c.2 = 0 → b.1 ≤ a.1 ∧ a.1 ≤ c.1
theorem bits_less (ps : List ByteArray) (m : ByteArray) (h : Hdr) : lessB (BitR ps h) (BitR (ps ++ [m]) h) (BitR [] h) := by
  unfold lessB BitR
  intro h1 h2 h3
  cases f1 : fine ps h with
  | false => rw [f1] at h1; cases h1
  | true =>
    cases f2 : fine (ps ++ [m]) h with
    | false => rw [f2] at h2; cases h2
    | true =>
      cases f3 : fine [] h with
      | false => rw [f3] at h3; cases h3
      | true =>
        unfold fine at f2
        rw [Bool.and_eq_true] at f2
        exact enc_less ps m h f2.1 (valid_good f2.2)
set_option maxRecDepth 100000 in
set_option maxHeartbeats 16000000 in
theorem compressShorter_walk (A : Option Addr) (n c : Nat) (ps : List ByteArray) (cls lim : Int) (src dst : ByteArray) (port rep len : Int) (mp : ByteArray) (w : World) (hs : CtxS w A n ps) (i1 : (Lit.int .i64 cls).wf = true) (i2 : (Lit.int .i64 lim).wf = true) (i3 : src.size ≤ maxLen) (i4 : dst.size ≤ maxLen) (i5 : (Lit.int .i64 port).wf = true) (i6 : (Lit.int .i64 rep).wf = true) (i7 : (Lit.int .i64 len).wf = true) (i8 : mp.size ≤ maxLen) :
    Calls Try.prog 3 #[.slice A n c, (.agg #[.int .i64 cls, .int .i64 lim, .string src, .string dst, .int .i64 port, .int .i64 rep, .int .i64 len]), .agg #[.string mp]] w fun e w' => e = .returned (.bool true) ∧ Below w.heap.size w w' := by
  unfold maxLen at i8
  have hmm : (mp.size : Int) ≤ 9223372036854775807 := by omega
  have hb0 := (below_alloc w (.cells #[.int .i64 cls, .int .i64 lim, .string src, .string dst, .int .i64 port, .int .i64 rep, .int .i64 len] 24)).trans ((below_alloc (w.alloc (.cells #[.int .i64 cls, .int .i64 lim, .string src, .string dst, .int .i64 port, .int .i64 rep, .int .i64 len] 24)) (.cells #[.string mp] 26)).mono (by simp))
  have hH0 := (Blk.new w #[.int .i64 cls, .int .i64 lim, .string src, .string dst, .int .i64 port, .int .i64 rep, .int .i64 len] 24).alloc (.cells #[.string mp] 26)
  have hM0 : Blk ((w.alloc (.cells #[.int .i64 cls, .int .i64 lim, .string src, .string dst, .int .i64 port, .int .i64 rep, .int .i64 len] 24)).alloc (.cells #[.string mp] 26)) (w.heap.size + 1) #[.string mp] 26 := by
    have := Blk.new (w.alloc (.cells #[.int .i64 cls, .int .i64 lim, .string src, .string dst, .int .i64 port, .int .i64 rep, .int .i64 len] 24)) #[.string mp] 26
    rw [show (w.alloc (.cells #[.int .i64 cls, .int .i64 lim, .string src, .string dst, .int .i64 port, .int .i64 rep, .int .i64 len] 24)).heap.size = w.heap.size + 1 by simp] at this
    exact this
  have ca := Lib.hid (awake_any ((w.alloc (.cells #[.int .i64 cls, .int .i64 lim, .string src, .string dst, .int .i64 port, .int .i64 rep, .int .i64 len] 24)).alloc (.cells #[.string mp] 26)))
  have cf := Lib.hid (fun W (hb : Below w.heap.size w W) => few_any A n c ps W (hs.keep hb))
  have csh := fun W => short_any ⟨cls, lim, src, dst, port, rep, len⟩ W ⟨i64_of_wf i1, i64_of_wf i2, i3, i4, i64_of_wf i5, i64_of_wf i6, i64_of_wf i7⟩
  unfold hdrC at csh
  dsimp only at csh
  have hlen := hs.els.len
  have hfn : few ps = true → n ≤ 12 := fun h => few_n h hlen
  clear i1 i2 i3 i4 i5 i6 i7
  generalize few ps = F at *
  generalize short ⟨cls, lim, src, dst, port, rep, len⟩ = SH at *
  replace hs := Lib.hid hs
  replace hlen := Lib.hid hlen
  replace hb0 := Lib.hid hb0
  replace hH0 := Lib.hid hH0
  replace csh := Lib.hid csh
  replace hM0 := Lib.hid hM0
  go_enter Try.func3, Try.ntmps3
  go_wp2_with fail
  refine ca.out.mono ?_
  rintro e w1 ⟨rfl, hb⟩
  have HB1 := Lib.hid (hb0.out.trans (hb.mono (by simp; omega)))
  have hH1 := Lib.hid (hH0.out.keep hb)
  have hM1 := Lib.hid (hM0.out.keep hb)
  have cf1 := Lib.hid (cf.out w1 HB1.out)
  clear ca cf hb hb0 hH0 hM0
  go_wp2_with fail
  refine cf1.out.mono ?_
  rintro e w2 ⟨rfl, hb⟩
  have HB2 := Lib.hid (bthen HB1.out hb)
  have hH2 := Lib.hid (hH1.out.keep hb)
  have hM2 := Lib.hid (hM1.out.keep hb)
  clear cf1 HB1 hb hH1 hM1
  cases F with
  | false =>
    go_wp2_with fail
    go_ret
    exact ⟨rfl, HB2.out⟩
  | true =>
    have hn := hfn rfl
    clear hfn
    have s2 := Seven.of (h := ⟨cls, lim, src, dst, port, rep, len⟩) hH2.out
    have k0 := s2.c0
    have k1 := s2.c1
    have k2 := s2.c2
    have k3 := s2.c3
    have k4 := s2.c4
    have k5 := s2.c5
    have k6 := s2.c6
    dsimp only at k0 k1 k2 k3 k4 k5 k6
    clear s2
    go_wp2_with fail
    refine (csh.out _).mono ?_
    rintro e w3 ⟨rfl, hb⟩
    have HB3 := Lib.hid (bthen HB2.out hb)
    have hH3 := Lib.hid (hH2.out.keep hb)
    have hM3 := Lib.hid (hM2.out.keep hb)
    have km : w3.cell? ⟨w.heap.size + 1, 0, none⟩ = some (.string mp) := hM3.out.cell 0
    clear k0 k1 k2 k3 k4 k5 k6 csh HB2 hH2 hM2 hb
    cases SH with
    | false =>
      go_wp2_with fail
      go_ret
      exact ⟨rfl, HB3.out⟩
    | true =>
      by_cases h20 : (20 : Int) < (mp.size : Int)
      · go_wp2_with fail
        go_ret
        exact ⟨rfl, HB3.out⟩
      · by_cases h7 : (7 : Int) < (n : Int)
        · go_wp2_with fail
          go_ret
          exact ⟨rfl, HB3.out⟩
        · have cD := fun A1 c1 W (hx : CtxS W A1 n ps) => Bits_any A1 n c1 ps ⟨cls, lim, src, dst, port, rep, len⟩ W hx
          have cE := fun A1 c1 W (hx : CtxS W A1 (n + 1) (ps ++ [mp])) => Bits_any A1 (n + 1) c1 (ps ++ [mp]) ⟨cls, lim, src, dst, port, rep, len⟩ W hx
          have cN := fun W => Bits_any none 0 0 [] ⟨cls, lim, src, dst, port, rep, len⟩ W ⟨⟨rfl, by omega, fun h => by omega⟩, fun p hp => (by cases hp)⟩
          have hls := bits_less ps mp ⟨cls, lim, src, dst, port, rep, len⟩
          have hok2 : ∀ p ∈ ps ++ [mp], p.size ≤ maxLen := fun p hp => by
            rcases List.mem_append.1 hp with h | h
            · exact hs.out.ok p h
            · rw [List.mem_singleton] at h; subst h; unfold maxLen; omega
          obtain ⟨i0, hi, hz0, hz1, hz2⟩ := info_parts info_ctx
          generalize BitR ps ⟨cls, lim, src, dst, port, rep, len⟩ = b0 at *
          generalize BitR (ps ++ [mp]) ⟨cls, lim, src, dst, port, rep, len⟩ = b1 at *
          generalize BitR [] ⟨cls, lim, src, dst, port, rep, len⟩ = b2 at *
          obtain ⟨n0, e0⟩ := b0
          obtain ⟨n1, e1⟩ := b1
          obtain ⟨n2, e2⟩ := b2
          unfold hdrC at cD cE cN
          dsimp only at cD cE cN
          unfold lessB at hls
          dsimp only at hls
          replace cD := Lib.hid cD
          replace cE := Lib.hid cE
          replace cN := Lib.hid cN
          replace hls := Lib.hid hls
          replace hok2 := Lib.hid hok2
          replace hi := Lib.hid hi
          replace hz0 := Lib.hid hz0
          replace hz1 := Lib.hid hz1
          replace hz2 := Lib.hid hz2
          have HCr := Lib.hid (hs.out.keep HB3.out)
          have HX : Hid (∀ w', Below w3.heap.size w3 w' → (Below w3.heap.size w3 w' ∧ (w'.cell? ⟨w.heap.size, 0, none⟩ = some (.int .i64 cls) ∧ w'.cell? ⟨w.heap.size, 1, none⟩ = some (.int .i64 lim) ∧ w'.cell? ⟨w.heap.size, 2, none⟩ = some (.string src) ∧ w'.cell? ⟨w.heap.size, 3, none⟩ = some (.string dst) ∧ w'.cell? ⟨w.heap.size, 4, none⟩ = some (.int .i64 port) ∧ w'.cell? ⟨w.heap.size, 5, none⟩ = some (.int .i64 rep) ∧ w'.cell? ⟨w.heap.size, 6, none⟩ = some (.int .i64 len)))) := fun w' h =>
            have s := Seven.of (h := ⟨cls, lim, src, dst, port, rep, len⟩) (hH3.out.keep h)
            ⟨h, s.c0, s.c1, s.c2, s.c3, s.c4, s.c5, s.c6⟩
          have kz := HX.out _ (Below.refl _ _)
          go_upto_region 5 with fail
          go_cut [7, 8] (fun s8 s9 wx => s8 = .int .i64 (n0 : Int) ∧ s9 = .int .i64 e0 ∧ Hid (Below w3.heap.size w3 wx))
          case first =>
            go_region_held3 (fun w' => Below w3.heap.size w3 w' ∧ (w'.cell? ⟨w.heap.size, 0, none⟩ = some (.int .i64 cls) ∧ w'.cell? ⟨w.heap.size, 1, none⟩ = some (.int .i64 lim) ∧ w'.cell? ⟨w.heap.size, 2, none⟩ = some (.string src) ∧ w'.cell? ⟨w.heap.size, 3, none⟩ = some (.string dst) ∧ w'.cell? ⟨w.heap.size, 4, none⟩ = some (.int .i64 port) ∧ w'.cell? ⟨w.heap.size, 5, none⟩ = some (.int .i64 rep) ∧ w'.cell? ⟨w.heap.size, 6, none⟩ = some (.int .i64 len)))
              (first
                | exact HX.out _ ((Below.refl _ _).drew)
                | exact HX.out _ (by assumption)
                | exact HX.out _ (bthen (And.left (by assumption)) (by assumption))
                | exact HX.out _ (bthen (by assumption) (by assumption))
                | exact HX.out _ (bthen (And.left (by assumption)) (below_alloc _ _))
                | exact HX.out _ (bthen (by assumption) (below_alloc _ _))
                | (trace_state; fail))
              (first
                | (go_at_call 14; refine (cloneX_any A n c ps _ (HCr.out.keep (And.left (by assumption))) (by omega)).mono ?_; rintro e w1 ⟨A1, c1, rfl, hC1, hO1, hb1⟩; have hC2 := Lib.hid hC1; have hO2 := Lib.hid hO1; clear hC1 hO1; have hb2 : Below w3.heap.size w3 w1 := bthen (And.left (by assumption)) hb1)
                | (go_at_call 13; refine (cD.out A1 c1 _ hC2.out).mono ?_; rintro e w2 ⟨rfl, hb3⟩; have hb4 : Below w3.heap.size w3 w2 := bthen hb2 hb3))
            all_goals
              have hb5 := Lib.hid hb4
              clear hb4 hb3 hb2 hb1
              go_wp2_with fail
              go_meet
              exact ⟨rfl, rfl, hb5⟩
          case rest =>
            obtain ⟨rfl, rfl, HBx⟩ := hcut
            generalize wc = w4 at *
            clear kz HX HCr
            have HB4 := Lib.hid (bthen HB3.out HBx.out)
            have hH4 := Lib.hid (hH3.out.keep HBx.out)
            have hM4 := Lib.hid (hM3.out.keep HBx.out)
            clear HBx HB3 hH3 hM3 cD km
            have HCr := Lib.hid (hs.out.keep HB4.out)
            have HX : Hid (∀ w', Below w4.heap.size w4 w' → (Below w4.heap.size w4 w' ∧ (w'.cell? ⟨w.heap.size, 0, none⟩ = some (.int .i64 cls) ∧ w'.cell? ⟨w.heap.size, 1, none⟩ = some (.int .i64 lim) ∧ w'.cell? ⟨w.heap.size, 2, none⟩ = some (.string src) ∧ w'.cell? ⟨w.heap.size, 3, none⟩ = some (.string dst) ∧ w'.cell? ⟨w.heap.size, 4, none⟩ = some (.int .i64 port) ∧ w'.cell? ⟨w.heap.size, 5, none⟩ = some (.int .i64 rep) ∧ w'.cell? ⟨w.heap.size, 6, none⟩ = some (.int .i64 len) ∧ w'.cell? ⟨w.heap.size + 1, 0, none⟩ = some (.string mp)))) := fun w' h =>
              have s := Seven.of (h := ⟨cls, lim, src, dst, port, rep, len⟩) (hH4.out.keep h)
              ⟨h, s.c0, s.c1, s.c2, s.c3, s.c4, s.c5, s.c6, (hM4.out.keep h).cell 0⟩
            have kz := HX.out _ (Below.refl _ _)
            go_upto_region 6 with fail
            go_cut [9, 10] (fun s8 s9 wx => s8 = .int .i64 (n1 : Int) ∧ s9 = .int .i64 e1 ∧ Hid (Below w4.heap.size w4 wx))
            case first =>
              go_region_held3 (fun w' => Below w4.heap.size w4 w' ∧ (w'.cell? ⟨w.heap.size, 0, none⟩ = some (.int .i64 cls) ∧ w'.cell? ⟨w.heap.size, 1, none⟩ = some (.int .i64 lim) ∧ w'.cell? ⟨w.heap.size, 2, none⟩ = some (.string src) ∧ w'.cell? ⟨w.heap.size, 3, none⟩ = some (.string dst) ∧ w'.cell? ⟨w.heap.size, 4, none⟩ = some (.int .i64 port) ∧ w'.cell? ⟨w.heap.size, 5, none⟩ = some (.int .i64 rep) ∧ w'.cell? ⟨w.heap.size, 6, none⟩ = some (.int .i64 len) ∧ w'.cell? ⟨w.heap.size + 1, 0, none⟩ = some (.string mp)))
                (first
                  | exact HX.out _ ((Below.refl _ _).drew)
                  | exact HX.out _ (by assumption)
                  | exact HX.out _ (bthen (And.left (by assumption)) (by assumption))
                  | exact HX.out _ (bthen (by assumption) (by assumption))
                  | exact HX.out _ (bthen (And.left (by assumption)) (below_alloc _ _))
                  | exact HX.out _ (bthen (by assumption) (below_alloc _ _))
                  | (trace_state; fail))
                (first
                  | (go_at_call 14; refine (cloneX_any A n c ps _ (HCr.out.keep ((Below.refl _ _).drew)) (by omega)).mono ?_; rintro e w1 ⟨A1, c1, rfl, hC1, hown1, hb1⟩; have hown2 : Hid (w1.ownsRow w4.heap.size 26 1 (.slice A1 n c1) n (ps.map Value.string)) := hown1; have hB1 : Below w4.heap.size w4 w1 := bthen ((Below.refl _ _).drew) hb1; clear hown1 hC1)
                  | (go_at_call 14; refine (cloneX_any A n c ps _ (HCr.out.keep (bthen ((Below.refl _ _).drew) (below_alloc _ _))) (by omega)).mono ?_; rintro e w1 ⟨A1, c1, rfl, hC1, hown1, hb1⟩; have hown2 : Hid (w1.ownsRow w4.heap.size 26 1 (.slice A1 n c1) n (ps.map Value.string)) := owns_base hown1 (by simp); have hB1 : Below w4.heap.size w4 w1 := bthen (bthen ((Below.refl _ _).drew) (below_alloc _ _)) hb1; clear hown1 hC1)
                  | (go_at_call 13; refine (cE.out (some ⟨gg, 0, none⟩) cap _ hI3.out).mono ?_; rintro e w2 ⟨rfl, hb3⟩; have hb4 : Below w4.heap.size w4 w2 := bthen hB3 hb3)
                  | (refine step_append_lies _ (by rfl) _ _ _ (by rfl) w4.heap.size 26 i0 _ 1 16 Try.underlying22 hi.out hz0.out hz1.out hz2.out rfl (by omega) (.slice A1 n c1) n _ (by rfl) (hown2.out.alloc _)
                        ⟨w1.heap.size, 0, none⟩ 1 1 [.string mp] (by rfl) (by rfl) (World.news_of_block (cs := #[.string mp]) (t := 26) (fr := (0, 0)) (heap_alloc_new w1 _)) (by simp [Value.oneCell'])
                        (by omega) (by unfold maxLen; omega) (by omega) (by have := hB1.size; simp; omega) (w1.heap.size + 1) (by simp) ?_; intro gg cap w3_ hown3 hgrow3 hat3 hlt3; have hB3 : Below w4.heap.size w4 w3_ := (below_append (hB1.alloc hB1.size _) (hown2.out.alloc _) hgrow3 (Nat.le_refl _)); have hI3 := Lib.hid (ctx_of_owns (ps := ps ++ [mp]) (by rw [List.map_append]; exact hown3) hok2.out))
                  | (refine step_append_lies _ (by rfl) _ _ _ (by rfl) w4.heap.size 26 i0 _ 1 16 Try.underlying22 hi.out hz0.out hz1.out hz2.out rfl (by omega) (.slice A1 n c1) n _ (by rfl) hown2.out
                        ⟨w4.heap.size, 0, none⟩ 1 1 [.string mp] (by rfl) (by rfl) (World.news_of_block (cs := #[.string mp]) (t := 26) (fr := (0, 0)) ((hb1.block w4.heap.size (by simp)).trans (heap_alloc_new w4.drew _))) (by simp [Value.oneCell'])
                        (by omega) (by unfold maxLen; omega) (by omega) hB1.size w1.heap.size (by rfl) ?_; intro gg cap w3_ hown3 hgrow3 hat3 hlt3; have hB3 : Below w4.heap.size w4 w3_ := (below_append hB1 hown2.out hgrow3 (Nat.le_refl _)); have hI3 := Lib.hid (ctx_of_owns (ps := ps ++ [mp]) (by rw [List.map_append]; exact hown3) hok2.out)))
              all_goals
                have hb5 := Lib.hid hb4
                clear hb4 hb3
                go_wp2_with fail
                go_meet
                exact ⟨rfl, rfl, hb5⟩
            case rest =>
              obtain ⟨rfl, rfl, HBx⟩ := hcut
              generalize wc = w5 at *
              clear kz HX HCr
              have HB5 := Lib.hid (bthen HB4.out HBx.out)
              have hH5 := Lib.hid (hH4.out.keep HBx.out)
              clear HBx HB4 hH4 hM4 cE
              have s5 := Seven.of (h := ⟨cls, lim, src, dst, port, rep, len⟩) hH5.out
              have k0 := s5.c0
              have k1 := s5.c1
              have k2 := s5.c2
              have k3 := s5.c3
              have k4 := s5.c4
              have k5 := s5.c5
              have k6 := s5.c6
              dsimp only at k0 k1 k2 k3 k4 k5 k6
              clear s5
              go_wp2_with fail
              refine (cN.out _).mono ?_
              rintro e w6 ⟨rfl, hb⟩
              have HB6 := Lib.hid (bthen HB5.out hb)
              clear k0 k1 k2 k3 k4 k5 k6 cN HB5 hH5
              replace hb := Lib.hid hb
              by_cases q0 : e0 = 0
              · subst q0
                by_cases q1 : e1 = 0
                · subst q1
                  by_cases q2 : e2 = 0
                  · subst q2
                    obtain ⟨l1, l2⟩ := hls.out rfl rfl rfl
                    have l3 : (n1 : Int) ≤ (n0 : Int) := by omega
                    have l4 : (n0 : Int) ≤ (n2 : Int) := by omega
                    have l5 : decide (n1 ≤ n0) = true := decide_eq_true l1
                    have l6 : decide (n0 ≤ n2) = true := decide_eq_true l2
                    go_wp2_with fail
                    go_ret
                    exact ⟨by first | rfl | simp [l1, l2], HB6.out⟩
                  · have d : (e2 != 0) = true := by rw [bne_iff_ne]; exact q2
                    replace q2 := Lib.hid q2
                    replace hls := Lib.hid hls
                    go_wp2_with fail
                    go_ret
                    exact ⟨rfl, HB6.out⟩
                · have d : (e1 != 0) = true := by rw [bne_iff_ne]; exact q1
                  replace q1 := Lib.hid q1
                  replace hls := Lib.hid hls
                  go_wp2_with fail
                  go_ret
                  exact ⟨rfl, HB6.out⟩
              · have d : (e0 != 0) = true := by rw [bne_iff_ne]; exact q0
                replace q0 := Lib.hid q0
                replace hls := Lib.hid hls
                go_wp2_with fail
                go_ret
                exact ⟨rfl, HB6.out⟩
end Cp
end Go.Proofs.Ytgdkehnakopnnaa
