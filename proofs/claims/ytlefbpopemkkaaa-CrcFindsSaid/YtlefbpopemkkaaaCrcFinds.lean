/- The law's walk: CrcFinds. -/
import Derived.Test.YtlefbpopemkkaaaCrcFindsLaw
import Derived.Test.YtlefbpopemkkaaaCrcLaws4
namespace Go.Proofs.Ytlefbpopemkkaaa
open Go Go.RowKit Go.Sort
open Crc
namespace Crc
/-- a slice of 16-bit numbers -/
structure U16s (w : World) (A : Option Addr) (n c : Nat) (xs : List Nat) : Prop where
  len : xs.length = n
  small : n ≤ maxLen
  lt : ∀ i, i < n → xs.getD i 0 < 65536
  at_ : 0 < n → ∃ b off, A = some ⟨b, off, none⟩ ∧ b < w.heap.size ∧ ∀ i, i < n → w.cell? ⟨b, off + i, none⟩ = some (.int .u16 ((xs.getD i 0 : Nat) : Int))
theorem check_any (s : ByteArray) (w : World) (h2 : 2 ≤ s.size) (h3 : s.size ≤ 1000) :
    ∃ t : ByteArray, Calls Try.prog 24 #[.string s] w fun e w' => e = .returned (.tuple #[.string t, .int .i64 (if VB s = 0 then 0 else 10)]) ∧ Below w.heap.size w w' := by
  by_cases h : VB s = 0
  · exact ⟨_, by rw [if_pos h]; exact check_good s w h2 h3 h⟩
  · exact ⟨_, by rw [if_neg h]; exact check_bad s w h2 h3 h⟩
theorem locate_in (k : Nat) (b : Int) (hk : k < 32767) (hb : (k : Int) < b) (w : World) : Calls Try.prog 17 #[.int .u16 (z (pw k)), .int .i64 b] w fun e w' => e = .returned (.tuple #[.int .i64 (k : Int), .bool true]) ∧ w = w' := by
  refine (locate_any (pw k) b w).mono ?_
  rintro e w' ⟨r, hr, rfl, rfl⟩
  have : r = some k := by
    cases r with
    | none => exact absurd rfl (hr k hk hb)
    | some i =>
      obtain ⟨_, h2, h3⟩ := hr
      rw [pw_inj i k h2 hk h3]
  subst this
  exact ⟨rfl, rfl⟩
theorem one_V (d : ByteArray) (i : Nat) (h : i < 8 * (d.size + 2)) : VB (flipB (prot d) i) = pw i := by
  rw [flip_V _ _ (by rw [prot_size]; exact h), prot_V]; exact BitVec.zero_xor
theorem same_bool {p ws : ByteArray} {i : Nat} {b : W} {lim k : Nat} (h : Burst p ws i b lim k) (hp : VB p = 0) :
    ((if VB ws = 0 then (0 : Int) else 10) == 0) = (ws.toList == p.toList) := by
  by_cases c : VB ws = 0
  · rw [if_pos c, (h.zero hp).1 c]; simp
  · rw [if_neg c]
    have : ws ≠ p := fun e => c ((h.zero hp).2 e)
    rw [Bool.eq_iff_iff, beq_iff_eq, beq_iff_eq, ByteArray.toList_eq, ByteArray.toList_eq]
    exact ⟨fun e => absurd e (by decide), fun e => absurd (ba_ext e) this⟩
theorem seen_val {ks : List Nat} {j : Nat} {cc : Bool} (h : (SeenD ks).atKey (.int .i64 (j : Int)) (.lit (.bool false)) = .lit (.bool cc)) : cc = decide (j ∈ ks) := by
  have h2 := SeenD_at ks j
  unfold keyL at h2
  rw [h] at h2
  injection h2 with h2
  injection h2
theorem key_law : Maps.Keyed Try.prog 3 := Maps.int_keyed Try.underlying3
theorem zero_bool (w : World) : (zeroValue 4).run Try.prog w = .ok (.bool false) w := by kernel_rfl
end Crc
set_option maxRecDepth 100000 in
set_option maxHeartbeats 4000000 in
theorem crcFinds_walk (d : ByteArray) (a b : Int) (A : Option Addr) (n c : Nat) (xs : List Nat) (w : World) (hd : d.size ≤ maxLen) (ha : (Lit.int .u16 a).wf = true) (hb : (Lit.int .u16 b).wf = true) (hx : U16s w A n c xs) :
    Calls Try.prog 10 #[.string d, .agg #[.int .u16 a, .int .u16 b], .slice A n c] w fun e w' => e = .returned (.bool true) ∧ Below w.heap.size w w' := by
  unfold maxLen at hd
  have hn := hx.small
  unfold maxLen at hn
  by_cases h1 : d.size ≤ 300
  · by_cases h2 : n ≤ 15
    · obtain ⟨x, hxa⟩ := z_of a ha
      obtain ⟨F, hF⟩ : ∃ F : Nat, a = F := ⟨a.toNat, by have := z0 x; omega⟩
      subst hF
      have hF : F < 65536 := by have := z1 x; omega
      obtain ⟨y, rfl⟩ := z_of b hb
      clear ha hb hxa
      have hs := prot_size d
      obtain ⟨N, hN⟩ : ∃ N : Nat, N = 8 * (d.size + 2) := ⟨_, rfl⟩
      obtain ⟨i, hi⟩ : ∃ i : Nat, i = F % N := ⟨_, rfl⟩
      have hiN : i < N := by rw [hi]; exact Nat.mod_lt _ (by omega)
      have q1 : (8 : Int) * ((d.size : Int) + 2) = (N : Int) := by omega
      have q2 : (F : Int) % (N : Int) = (i : Int) := by rw [hi]; omega
      have hN2 : N ≤ 2416 := by omega
      replace hN := Lib.hid hN
      replace hi := Lib.hid hi
      have HX := Lib.hid hx
      clear hx
      go_enter Try.func10, Try.ntmps10
      go_wp2_with fail
      refine (awake_any _).mono ?_
      rintro e w1 ⟨rfl, hb1⟩
      have e0 : w1.cell? ⟨w.heap.size, 0, none⟩ = some (.int .u16 (F : Int)) := by rw [hb1.cell (by simp)]; simp
      have e1 : w1.cell? ⟨w.heap.size, 1, none⟩ = some (.int .u16 (z y)) := by rw [hb1.cell (by simp)]; simp
      have hbw : Below w.heap.size w w1 := ((Below.refl _ _).alloc (Nat.le_refl _) _).trans (hb1.mono (by simp))
      clear hb1
      replace hbw := Lib.hid hbw
      go_wp2
      go_quiet (fail)
      clear e0 e1
      go_wp2_with fail
      refine (protect_any _ _ (by omega)).mono ?_
      rintro e w2 ⟨rfl, hb2⟩
      have HS2 := Lib.hid (one_V d i (by have := hN.out; omega))
      have HP0 := Lib.hid (prot_V d)
      have HB2 : Hid (Below w.heap.size w w2) := bthen hbw.out ⟨hb2.os, hb2.tape, hb2.output, hb2.size, hb2.block⟩
      clear hbw hb2
      go_wp2_with fail
      refine (flip_any (prot d) i _ (by omega) (by have := hN.out; omega)).mono ?_
      rintro e w3 ⟨rfl, hb3⟩
      have hfs := Lib.hid (flip_size (prot d) i)
      go_wp2_with fail
      refine (syndrome_ok _ _ (by rw [hfs.out]; omega) (by rw [hfs.out]; omega)).mono ?_
      rintro e w4 ⟨rfl, hb4⟩
      rw [HS2.out]
      go_wp2_with fail
      refine (locate_in i (N : Int) (by omega) (by omega) _).mono ?_
      rintro e w5 ⟨rfl, rfl⟩
      go_wp2_with fail
      refine (power_nat i _ (by omega)).mono ?_
      rintro e w5 ⟨rfl, rfl⟩
      have HB4 := Lib.hid (bthen (bthen HB2.out hb3) hb4)
      clear HB2 hb3 hb4 hfs HS2
      go_wp2
      go_loopw [17, 87] (fun ws k wr => ∃ (k' : Nat) (ws' : ByteArray), k' ≤ 16 ∧ k = .int .i64 k' ∧ ws = .string ws' ∧ Hid (Burst (prot d) ws' i y (N - i) k') ∧ Hid (Below w.heap.size w wr)) (fun _ k _ => 16 - (intOf k).toNat)
      case atStart => exact ⟨0, prot d, by omega, rfl, rfl, Burst.start _ _ _ _, HB4⟩
      case round =>
        obtain ⟨k, ws, hk, rfl, rfl, HU, HB⟩ := hrel
        clear HB4
        by_cases hlt : k < 16
        · have hbit := z_bit y k
          by_cases c : y.getLsbD k = true
          · rw [c] at hbit
            by_cases c2 : i + k < N
            · have hz := HU.out.size
              replace hz := Lib.hid hz
              go_wp2_with fail
              refine (flip_any ws (i + k) _ (by rw [hz.out]; omega) (by rw [hz.out]; have := hN.out; omega)).mono ?_
              rintro e w6 ⟨rfl, hb6⟩
              have HN : Hid (Burst (prot d) (flipB ws (i + k)) i y (N - i) (k + 1)) := HU.out.step hlt (by rw [c]; simp; omega) (by have := hN.out; omega)
              have HBn : Hid (Below w.heap.size w w6) := bthen HB.out hb6
              clear hb6 hbit
              go_wp2
              go_roundw
              case rel => exact ⟨k + 1, flipB ws (i + k), by omega, by go_num, rfl, HN, HBn⟩
              case measure => simp [intOf]; omega
            · have HN : Hid (Burst (prot d) ws i y (N - i) (k + 1)) := HU.out.skip (by rw [c]; simp; omega)
              go_wp2
              go_roundw
              case rel => exact ⟨k + 1, ws, by omega, by go_num, rfl, HN, HB⟩
              case measure => simp [intOf]; omega
          · have c' : y.getLsbD k = false := by simpa using c
            rw [c'] at hbit
            have HN : Hid (Burst (prot d) ws i y (N - i) (k + 1)) := HU.out.skip (by rw [c']; rfl)
            go_wp2
            go_roundw
            case rel => exact ⟨k + 1, ws, by omega, by go_num, rfl, HN, HB⟩
            case measure => simp [intOf]; omega
        · have hz := HU.out.size
          replace hz := Lib.hid hz
          have HE := Lib.hid (same_bool HU.out HP0.out)
          obtain ⟨t, hct⟩ := check_any ws wr (by rw [hz.out]; omega) (by rw [hz.out]; omega)
          replace hct := Lib.hid hct
          go_wp2_with fail
          refine (hct.out).mono ?_
          rintro e w6 ⟨rfl, hb6⟩
          have HB6 := Lib.hid (bthen HB.out hb6)
          have HE := HE.out
          clear hb6 hct HB
          generalize (if VB ws = 0 then (0 : Int) else 10) = E0 at *
          have hmm := @run_makeMap Try.prog
          go_wp2
          clear hmm HE
          have hown0 : (w6.alloc (.map #[] 0)).ownsMap Try.prog 3 (plainElem Try.prog 4) w6.heap.size 0 (SeenD []) := World.ownsMap_made _ _ _ _
          have HB7 : Hid (Below w.heap.size w (w6.alloc (.map #[] 0))) := HB6.out.alloc HB6.out.size _
          have HBm : Hid (w.heap.size ≤ w6.heap.size) := HB6.out.size
          generalize w6.alloc (.map #[] 0) = w7 at *
          generalize w6.heap.size = B at *
          clear HB6
          go_loopw [22, 123] (fun ms k wr => ∃ (k' : Nat) (ms' : ByteArray) (ks : List Nat), k' ≤ n ∧ k = .int .i64 k' ∧ ms = .string ms' ∧ Hid (Many (prot d) ms' N ks) ∧ Hid (wr.ownsMap Try.prog 3 (plainElem Try.prog 4) B k' (SeenD ks)) ∧ Hid (Below w.heap.size w wr)) (fun _ k _ => n - (intOf k).toNat)
          case atStart => exact ⟨0, prot d, [], by omega, rfl, rfl, Many.start _ _, hown0, HB7⟩
          case round =>
            obtain ⟨k, ms, ks, hk, rfl, rfl, HM, HO, HB⟩ := hrel
            clear HB7 hown0
            by_cases hlt : k < n
            · have hx := HX.out
              obtain ⟨bb, off, rfl, hbb, hcell⟩ := hx.at_ (by omega)
              have hc0 : wr.cell? ⟨bb, off + k, none⟩ = some (.int .u16 ((xs.getD k 0 : Nat) : Int)) := by rw [HB.out.cell (p := ⟨bb, off + k, none⟩) hbb]; exact hcell k hlt
              have hxl := hx.lt k hlt
              replace hx := Lib.hid hx
              replace hcell := Lib.hid hcell
              generalize xs.getD k 0 = v at *
              obtain ⟨j, hj⟩ : ∃ j : Nat, j = v % N := ⟨_, rfl⟩
              have hjN : j < N := by rw [hj]; exact Nat.mod_lt _ (by omega)
              have q3 : (v : Int) % (N : Int) = (j : Int) := by rw [hj]; omega
              replace hj := Lib.hid hj
              have hkey := Maps.keyOf_int_mk Try.underlying3 (a := (j : Int)) (WalkArith.wf_i64 (by omega))
              have hkeyJ := Lib.hid hkey
              rw [← q3] at hkey
              have hkey2 : keyOf Try.prog 3 (.int .i64 ((v : Int) % (N : Int))) = some (.int .i64 (j : Int)) := by rw [hkey, q3]
              clear hkey
              have hkey := Lib.hid hkey2
              clear hkey2
              by_cases hjk : j ∈ ks
              · have hdec := decide_eq_true hjk
                replace hdec := Lib.hid hdec
                go_wp2_with (at_lookup; refine wpList_lookup_own_bool _ rfl _ _ 50 rfl 3 4 key_law Try.underlying50 Try.underlying4 (zero_bool _) B k (SeenD ks) rfl HO.out _ _ rfl hkey.out ?_; intro cc hat; have hcc := seen_val hat; clear hat; rw [hdec.out] at hcc; subst hcc)
                have HO' : Hid (wr.ownsMap Try.prog 3 (plainElem Try.prog 4) B (k + 1) (SeenD ks)) := HO.out.mono (by omega)
                go_roundw
                case rel => exact ⟨k + 1, ms, ks, by omega, by go_num, rfl, HM, HO', HB⟩
                case measure => simp [intOf]; omega
              · have hdec := decide_eq_false hjk
                replace hdec := Lib.hid hdec
                have hz := HM.out.size
                replace hz := Lib.hid hz
                have hval := plainElem_bool (H := Unit) (P := Try.prog) Try.underlying4 true
                replace hval := Lib.hid hval
                replace hjk := Lib.hid hjk
                go_wp2_with (first
                  | (at_lookup; refine wpList_lookup_own_bool _ rfl _ _ 50 rfl 3 4 key_law Try.underlying50 Try.underlying4 (zero_bool _) B k (SeenD ks) rfl HO.out _ _ rfl hkey.out ?_; intro cc hat; have hcc := seen_val hat; clear hat; rw [hdec.out] at hcc; subst hcc)
                  | (at_mapUpdate; refine wpList_mapUpdate_own _ rfl _ _ _ 50 rfl 3 4 key_law Try.underlying50 _ B k _ rfl HO.out (by unfold maxLen; omega) _ _ _ rfl rfl hkeyJ.out _ [] hval.out ?_; intro w8 hown8 hgrow8; replace hown8 := Lib.hid hown8; replace hgrow8 := Lib.hid hgrow8))
                refine (flip_any ms j _ (by rw [hz.out]; omega) (by rw [hz.out]; have := hN.out; omega)).mono ?_
                rintro e w9 ⟨rfl, hb9⟩
                have HO9 : Hid (w9.ownsMap Try.prog 3 (plainElem Try.prog 4) B (k + 1) (SeenD (j :: ks))) := own_below hown8.out hb9
                have HB8 : Hid (Below w.heap.size w w8) := HB.out.grown hgrow8.out HB.out.size (fun r hr => by injection hr with hr; subst hr; exact HBm.out)
                have HB9 : Hid (Below w.heap.size w w9) := bthen HB8.out hb9
                have HM9 : Hid (Many (prot d) (flipB ms j) N (j :: ks)) := HM.out.step j hjN (by have := hN.out; omega) hjk.out
                clear hb9 hgrow8 hown8 HB8
                go_wp2
                go_roundw
                case rel => exact ⟨k + 1, flipB ms j, j :: ks, by omega, by go_num, rfl, HM9, HO9, HB9⟩
                case measure => simp [intOf]; omega
            · have hz := HM.out.size
              replace hz := Lib.hid hz
              have hsz := SeenD_size ks HM.out.nodup
              have hlen := fun (w' : World) (h : w'.ownsMap Try.prog 3 (plainElem Try.prog 4) B k (SeenD ks)) => World.ownsMap.len h Try.underlying50 3
              rw [hsz] at hlen
              replace hsz := Lib.hid hsz
              replace hlen := Lib.hid hlen
              obtain ⟨t2, hct⟩ := check_any ms wr (by rw [hz.out]; omega) (by rw [hz.out]; omega)
              replace hct := Lib.hid hct
              go_wp2_with fail
              refine (hct.out).mono ?_
              rintro e w10 ⟨rfl, hb10⟩
              have HO10 : Hid (w10.ownsMap Try.prog 3 (plainElem Try.prog 4) B k (SeenD ks)) := own_below HO.out hb10
              have HB10 : Hid (Below w.heap.size w w10) := bthen HB.out hb10
              have hl10 := hlen.out w10 HO10.out
              have hf := fun h => HM.out.found HP0.out (by omega) h
              generalize ks.length = L at *
              by_cases hL : L = 2 ∨ L % 2 = 1
              · have e10 : (if VB ms = 0 then (0 : Int) else 10) = 10 := if_neg (hf hL)
                rw [e10]
                clear hb10 hct hf e10 hlen
                rcases hL with rfl | hL
                · go_wp2
                  go_ret
                  exact ⟨rfl, HB10.out⟩
                · have d1 : ((L : Int) != 2) = true := by rw [bne_iff_ne]; omega
                  have d2 : ((L : Int) % 2 == 0) = false := by rw [beq_eq_false_iff_ne]; omega
                  go_wp2
                  go_ret
                  exact ⟨rfl, HB10.out⟩
              · have d1 : ((L : Int) != 2) = true := by rw [bne_iff_ne]; omega
                have d2 : ((L : Int) % 2 == 0) = true := by rw [beq_iff_eq]; omega
                generalize (if VB ms = 0 then (0 : Int) else 10) = E1 at *
                clear hb10 hct hf hlen hL
                go_wp2
                go_ret
                exact ⟨rfl, HB10.out⟩
    · go_enter Try.func10, Try.ntmps10
      go_wp2_with fail
      refine (awake_any _).mono ?_
      rintro e w1 ⟨rfl, hb1⟩
      go_wp2
      go_ret
      exact ⟨rfl, ((Below.refl _ _).alloc (Nat.le_refl _) _).trans (hb1.mono (by simp))⟩
  · go_enter Try.func10, Try.ntmps10
    go_wp2_with fail
    refine (awake_any _).mono ?_
    rintro e w1 ⟨rfl, hb1⟩
    go_wp2
    go_ret
    exact ⟨rfl, ((Below.refl _ _).alloc (Nat.le_refl _) _).trans (hb1.mono (by simp))⟩
end Go.Proofs.Ytlefbpopemkkaaa
