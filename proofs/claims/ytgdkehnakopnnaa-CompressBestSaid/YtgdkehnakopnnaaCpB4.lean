/- The library's sort and iterators laid at this program (printed by the kit's laying tools), and the sort of the names. -/
import Derived.Test.YtgdkehnakopnnaaCpB3
import Derived.Shelf.SlSortCmp.NoneTotal
import Derived.Shelf.SlIter.Collect
import Derived.Sort.OwnSorted
import Derived.Ground.SlsfProg
import Derived.Ground.GgzProg
namespace Go.Proofs
open Go.Shelf
def Try.sortf_ren : Go.Shelf.Ren := ⟨fun | 6 => 86 | 15 => 91 | 14 => 100 | 28 => 102 | 29 => 103 | 20 => 108 | 21 => 109 | 22 => 110 | 23 => 111 | 24 => 112 | 25 => 113 | 26 => 114 | 27 => 115 | 46 => 116 | 47 => 117 | 48 => 118 | 49 => 119 | 50 => 120 | 57 => 121 | n => n, fun | 22 => 74 | 24 => 9 | 25 => 81 | 3 => 3 | 39 => 115 | 0 => 0 | 53 => 123 | 55 => 116 | 4 => 4 | 46 => 128 | 45 => 127 | 50 => 35 | 5 => 5 | 9 => 9 | 66 => 133 | 70 => 137 | 76 => 139 | 77 => 102 | n => n, fun | n => n⟩
theorem Try.sortf : Go.Proofs.SlLaysF.n6 Try.prog Try.sortf_ren := {
  mixed := by kernel_rfl
  f6 := ⟨Try.f86.name, by decide, Try.func86.trans (congrArg some (by kernel_rfl))⟩
  f14 := ⟨Try.f100.name, by decide, Try.func100.trans (congrArg some (by kernel_rfl))⟩
  f15 := Try.func91.trans (congrArg some (by kernel_rfl))
  f20 := ⟨Try.f108.name, by decide, Try.func108.trans (congrArg some (by kernel_rfl))⟩
  f21 := ⟨Try.f109.name, by decide, Try.func109.trans (congrArg some (by kernel_rfl))⟩
  f22 := ⟨Try.f110.name, by decide, Try.func110.trans (congrArg some (by kernel_rfl))⟩
  f23 := ⟨Try.f111.name, by decide, Try.func111.trans (congrArg some (by kernel_rfl))⟩
  f24 := ⟨Try.f112.name, by decide, Try.func112.trans (congrArg some (by kernel_rfl))⟩
  f25 := ⟨Try.f113.name, by decide, Try.func113.trans (congrArg some (by kernel_rfl))⟩
  f26 := ⟨Try.f114.name, by decide, Try.func114.trans (congrArg some (by kernel_rfl))⟩
  f27 := ⟨Try.f115.name, by decide, Try.func115.trans (congrArg some (by kernel_rfl))⟩
  f28 := Try.func102.trans (congrArg some (by kernel_rfl))
  f29 := Try.func103.trans (congrArg some (by kernel_rfl))
  f46 := ⟨Try.f116.name, by decide, Try.func116.trans (congrArg some (by kernel_rfl))⟩
  f47 := Try.func117.trans (congrArg some (by kernel_rfl))
  f48 := Try.func118.trans (congrArg some (by kernel_rfl))
  f49 := ⟨Try.f119.name, by decide, Try.func119.trans (congrArg some (by kernel_rfl))⟩
  f50 := ⟨Try.f120.name, by decide, Try.func120.trans (congrArg some (by kernel_rfl))⟩
  f57 := ⟨Try.f121.name, by decide, Try.func121.trans (congrArg some (by kernel_rfl))⟩
  t0 := Try.underlying0
  a0 := Try.isAgg0
  z0 := Try.sizeOf0
  v0 := Try.zeroValue0
  t3 := Try.underlying3
  a3 := Try.isAgg3
  z3 := Try.sizeOf3
  v3 := Try.zeroValue3
  t4 := Try.underlying4
  a4 := Try.isAgg4
  z4 := Try.sizeOf4
  v4 := Try.zeroValue4
  t5 := Try.underlying5
  a5 := Try.isAgg5
  z5 := Try.sizeOf5
  v5 := Try.zeroValue5
  t9 := Try.underlying9
  a9 := Try.isAgg9
  z9 := Try.sizeOf9
  v9 := Try.zeroValue9
  t22 := Try.underlying74
  a22 := Try.isAgg74
  z22 := Try.sizeOf74
  v22 := Try.zeroValue74
  a24 := Try.isAgg9
  z24 := Try.sizeOf9
  t25 := Try.underlying81
  a25 := Try.isAgg81
  z25 := Try.sizeOf81
  v25 := Try.zeroValue81
  t39 := Try.underlying115
  a39 := Try.isAgg115
  z39 := Try.sizeOf115
  v39 := Try.zeroValue115
  t45 := Try.underlying127
  a45 := Try.isAgg127
  z45 := Try.sizeOf127
  v45 := Try.zeroValue127
  t46 := Try.underlying128
  a46 := Try.isAgg128
  z46 := Try.sizeOf128
  v46 := Try.zeroValue128
  t50 := Try.underlying35
  a50 := Try.isAgg35
  z50 := Try.sizeOf35
  v50 := Try.zeroValue35
  t53 := Try.underlying123
  a53 := Try.isAgg123
  z53 := Try.sizeOf123
  v53 := Try.zeroValue123
  t55 := Try.underlying116
  a55 := Try.isAgg116
  z55 := Try.sizeOf116
  v55 := Try.zeroValue116
  t66 := Try.underlying133
  a66 := Try.isAgg133
  z66 := Try.sizeOf133
  v66 := Try.zeroValue133
  t70 := Try.underlying137
  a70 := Try.isAgg137
  z70 := Try.sizeOf137
  v70 := Try.zeroValue137
  t76 := Try.underlying139
  a76 := Try.isAgg139
  z76 := Try.sizeOf139
  v76 := Try.zeroValue139
  t77 := Try.underlying102
  a77 := Try.isAgg102
  z77 := Try.sizeOf102
  v77 := Try.zeroValue102 }
def Try.keysf_ren : Go.Shelf.Ren := ⟨fun | 7 => 52 | 10 => 87 | n => n, fun | 23 => 73 | 26 => 9 | 3 => 3 | 28 => 77 | 0 => 0 | 27 => 76 | 33 => 111 | 4 => 4 | n => n, fun | n => n⟩
theorem Try.keysf : Go.Proofs.SlLaysZ.n7 Try.prog Try.keysf_ren := {
  mixed := by kernel_rfl
  f7 := ⟨Try.f52.name, by decide, Try.func52.trans (congrArg some (by kernel_rfl))⟩
  f10 := ⟨Try.f87.name, by decide, Try.func87.trans (congrArg some (by kernel_rfl))⟩
  t0 := Try.underlying0
  a0 := Try.isAgg0
  z0 := Try.sizeOf0
  v0 := Try.zeroValue0
  t4 := Try.underlying4
  a4 := Try.isAgg4
  z4 := Try.sizeOf4
  v4 := Try.zeroValue4
  t23 := Try.underlying73
  a23 := Try.isAgg73
  z23 := Try.sizeOf73
  v23 := Try.zeroValue73
  t26 := Try.underlying9
  a26 := Try.isAgg9
  z26 := Try.sizeOf9
  v26 := Try.zeroValue9
  t27 := Try.underlying76
  a27 := Try.isAgg76
  z27 := Try.sizeOf76
  v27 := Try.zeroValue76
  t28 := Try.underlying77
  a28 := Try.isAgg77
  z28 := Try.sizeOf77
  v28 := Try.zeroValue77
  t33 := Try.underlying111
  a33 := Try.isAgg111
  z33 := Try.sizeOf111
  v33 := Try.zeroValue111 }
def Try.collf_ren : Go.Shelf.Ren := ⟨fun | 8 => 85 | 11 => 99 | n => n, fun | 26 => 9 | 28 => 77 | 24 => 74 | 0 => 0 | 33 => 111 | 4 => 4 | n => n, fun | n => n⟩
theorem Try.collf : Go.Proofs.SlLaysZ.n8 Try.prog Try.collf_ren := {
  mixed := by kernel_rfl
  f8 := ⟨Try.f85.name, by decide, Try.func85.trans (congrArg some (by kernel_rfl))⟩
  f11 := ⟨Try.f99.name, by decide, Try.func99.trans (congrArg some (by kernel_rfl))⟩
  t0 := Try.underlying0
  a0 := Try.isAgg0
  z0 := Try.sizeOf0
  v0 := Try.zeroValue0
  t24 := Try.underlying74
  a24 := Try.isAgg74
  z24 := Try.sizeOf74
  v24 := Try.zeroValue74
  t26 := Try.underlying9
  a26 := Try.isAgg9
  z26 := Try.sizeOf9
  v26 := Try.zeroValue9
  t28 := Try.underlying77
  a28 := Try.isAgg77
  z28 := Try.sizeOf77
  v28 := Try.zeroValue77
  i26 := by kernel_rfl }
end Go.Proofs
namespace Go.Proofs.Ytgdkehnakopnnaa
open Go Go.RowKit Go.Sort Go.Maps Go.WideMaps Go.Shelf
namespace Cp
open Mm
abbrev Sm := {x : Nm // x.length ≤ maxLen}
instance : Inhabited Sm := ⟨⟨[], Nat.zero_le _⟩⟩
def encM (x : Sm) : Value := encStr x.1
def valM (x : Sm) : Nm := x.1
theorem putRow_sm (w : World) (g : Nat) (d : List Sm) : putRow encM w g 0 d.toArray = putRow encStr w g 0 (d.map valM).toArray := by
  unfold putRow
  congr 1
  funext cur
  unfold putCells
  congr 1
  funext i v
  simp only [List.size_toArray, List.length_map]
  by_cases hi : i < d.length
  · simp [hi, encM, valM]
  · simp [hi]
theorem holds_sm {w : World} {g : Nat} {cur : Array Value} {e : TypeId} {ss : List Sm} (hb : w.heap[g]? = some (.cells cur e (0, 0))) (ht : cur.toList.take ss.length = ss.map encM) : Holds encM w g 0 ss.toArray := by
  intro j hj
  have hj' : j < ss.length := by simpa using hj
  refine ⟨?_, by simp [World.frozen?, hb]⟩
  have h1 : (cur.toList.take ss.length)[j]? = (ss.map encM)[j]? := by rw [ht]
  rw [List.getElem?_take_of_lt hj'] at h1
  simp only [World.cell?, hb, Nat.zero_add]
  simp only [Option.isSome_none, Bool.false_eq_true, if_false]
  rw [← Array.getElem?_toList, h1]
  simp [hj']
def cfM (l : List Nm) (x y : Sm) : Int := cfL l x.1 y.1
theorem lt_m (l : List Nm) (x y : Sm) : ltOf (cfM l) x y = true ↔ ltN l x.1 y.1 := by
  unfold ltOf cfM
  rw [decide_eq_true_eq, cf_lt]
theorem lt_mf (l : List Nm) (x y : Sm) : ltOf (cfM l) x y = false ↔ ¬ ltN l x.1 y.1 := by
  rw [← lt_m, Bool.not_eq_true]
theorem swo_m (l : List Nm) : SWO (ltOf (cfM l)) where
  irrefl x := by rw [lt_mf]; exact ltN_irrefl l x.1
  trans x y z h1 h2 := by rw [lt_m] at *; exact ltN_trans h1 h2
  ntrans x y z h1 h2 := by
    rw [lt_mf] at *
    intro h
    by_cases e1 : x.1 = y.1
    · rw [e1] at h; exact h2 h
    · by_cases e2 : y.1 = z.1
      · rw [← e2] at h; exact h1 h
      · rcases ltN_tri l e1 with h3 | h3
        · exact h1 h3
        · rcases ltN_tri l e2 with h4 | h4
          · exact h2 h4
          · exact ltN_irrefl l _ (ltN_trans h (ltN_trans h4 h3))
theorem tot_m (l : List Nm) (x y : Sm) (h1 : ltOf (cfM l) x y = false) (h2 : ltOf (cfM l) y x = false) : x = y := by
  rw [lt_mf] at *
  refine Subtype.ext (Classical.byContradiction fun e => ?_)
  rcases ltN_tri l e with h | h
  · exact h1 h
  · exact h2 h
def sortM (l : List Nm) (d : List Sm) : List Sm := d.mergeSort fun x y => !(ltOf (cfM l)) y x
theorem sortM_perm (l : List Nm) (d : List Sm) : (sortM l d).Perm d := List.mergeSort_perm _ _
theorem sortM_pair (l : List Nm) (d : List Sm) : ((sortM l d).map valM).Pairwise (fun x y => ¬ ltN l y x) := by
  rw [List.pairwise_map]
  have h := List.pairwise_mergeSort (le := fun x y => !(ltOf (cfM l)) y x) (fun x y z h1 h2 => by
    rw [Bool.not_eq_true'] at *
    exact (swo_m l).ntrans z y x h2 h1) (fun x y => by
    rw [Bool.or_eq_true, Bool.not_eq_true', Bool.not_eq_true', lt_mf, lt_mf]
    by_cases h : ltN l y.1 x.1
    · exact .inr fun h2 => ltN_irrefl l _ (ltN_trans h h2)
    · exact .inl h) d
  exact h.imp fun {x y} hxy => by rw [Bool.not_eq_true', lt_mf] at hxy; exact hxy
theorem size_keys (D : Dt) (h : IsMap D) : Maps.size D = (strKeys D).length := by
  obtain ⟨es, rfl⟩ := h
  rw [size_eq]
  show _ = (es.map _).length
  rw [List.length_map]
theorem nub_keys {w : World} {b nn : Nat} {D : Dt} {l : List Nm} (h : OwnM w b nn D) (hD : CountsD D l) : (nub l).Perm (strKeys D) :=
  Collected.perm (left := fun _ => false) ⟨nub_nodup l, fun x => by rw [nub_mem, hD.has_]; simp⟩ h lawS Try.underlying9 (fun _ => rfl)
theorem close_sort (blk B b nn : Nat) (D : Dt) (l : List Nm) (w : World) (size : Nat) (hB : w.cell? ⟨B, 0, none⟩ = some (.map (some b))) (hown : OwnM w b nn D) (hD : CountsD D l) (hne : blk ≠ B) (hne2 : blk ≠ b) :
    CmpLays1 Try.prog 53 #[.pointer (some ⟨B, 0, none⟩)] encM (cfM l) blk 0 size w := by
  intro m os dk _ x y
  have hg : w.grownBy (sortWorld encM w blk 0 m dk os) (some blk) := by
    obtain ⟨dl⟩ := dk
    unfold sortWorld
    rw [putRow_sm]
    exact grownBy_sorted _
  have hB2 := hg.cell hB (by simpa using Ne.symm hne)
  have hO2 : OwnM (sortWorld encM w blk 0 m dk os) b nn D := World.ownsMap.kept hown hg (by simpa using Ne.symm hne2)
  generalize sortWorld encM w blk 0 m dk os = W at *
  have h := close_any ⟨x.1.toArray⟩ ⟨y.1.toArray⟩ x.2 y.2 B b nn D l W hB2 hO2 hD
  exact h
set_option maxRecDepth 100000 in
set_option maxHeartbeats 4000000 in
theorem sortC_holds : SortC := by
  intro Bm B b nn D l W hBm hB hBml hBl hown hD hl hx
  have hK := nub_keys hown hD
  have hsz : Maps.size D ≤ 100 := by rw [size_keys D hD.isMap, ← hK.length_eq]; exact Nat.le_trans (nub_length l) hl
  have hseq : SeqGives Fence.wide 3 Try.prog 87 #[.pointer (some ⟨Bm, 0, none⟩)] encStr (fun ss => ss.Perm (strKeys D)) (Maps.size D) W :=
    AnyZ.keys_gives (ρ := Try.keysf_ren) { Try.keysf with } Fence.wide _ trivial rfl (by omega) Bm b nn D _ hBml hBm hown
  have cC := AnyZ.collect_in Try.collf Fence.wide 5 trivial trivial rfl (by omega) 87 #[.pointer (some ⟨Bm, 0, none⟩)] trivial (enters_of Try.func87 (by kernel_rfl) rfl) _ _ (by unfold maxLen; omega) (by omega) _ hseq
  change CallsIn _ _ Try.prog 85 _ _ (fun e w' => ∃ (v : Value) (ss : List Nm), e = .returned v ∧ ss.Perm (strKeys D) ∧ w'.ownsRow W.heap.size 9 1 v ss.length (ss.map encStr) ∧ (v = .slice none 0 0 ↔ ss = []) ∧ Below W.heap.size W w') at cC
  have hfC : Fence.wide.fn 85 := trivial
  have hfS : Fence.wide.fn 86 := trivial
  have hlt := World.ownsMap.lt hown
  have hxl : ∀ x ∈ strKeys D, x.length ≤ maxLen := fun x h => Nat.le_trans (hx x ((nub_mem l x).1 (hK.mem_iff.2 h))) (by decide)
  have hnone := fun W => (callsIn_wide (n := 5)).2 (AnyF.slices_SortFunc_none (P := Try.prog) (ρ := Try.sortf_ren) { Try.sortf with } none 0 (.func (.func 53) #[] #[.pointer (some ⟨B, 0, none⟩)]) W)
  change ∀ W, CallsIn _ _ Try.prog 86 _ _ _ at hnone
  refine (callsIn_wide (n := 6)).1 ?_
  refine callsIn_of_wp Try.func51 rfl trivial ?_ rfl
  simp only [Try.ntmps51, List.size_toArray, List.length_cons, List.length_nil, Nat.reduceAdd, Nat.reduceSub, Array.replicate_succ, Array.replicate_zero, List.push_toArray, List.append_toArray, List.nil_append, List.cons_append]
  gi_wp2_with (gi_at_call 85; refine cC.mono ?_; rintro e w1 ⟨v, ss, rfl, hS, hrow, hnil, hb⟩)
  obtain ⟨ds, rfl⟩ : ∃ ds : List Sm, ds.map valM = ss := ⟨ss.pmap Subtype.mk (fun x h => hxl x (hS.mem_iff.1 h)), by rw [List.map_pmap]; simp [valM]⟩
  have hds : ds.length ≤ 100 := by
    have := hS.length_eq
    rw [List.length_map, ← size_keys D hD.isMap] at this
    omega
  have hRk : Ranked l ((sortM l ds).map valM) := ranked_sort l _ (((sortM_perm l ds).map valM).trans (hS.trans hK.symm)) (sortM_pair l ds)
  have hlen : ((sortM l ds).map valM).length = ds.length := by rw [List.length_map, (sortM_perm l ds).length_eq]
  rcases hrow.2 with ⟨rfl, hz⟩ | ⟨gb, cap, cur, rfl, hbase, hgb, r1, r2, r3, r4⟩
  · have hz2 : ds = [] := by rw [List.length_map] at hz; exact List.length_eq_zero_iff.1 hz
    subst hz2
    gi_wp2_with (gi_at_call 86; refine (hnone _).mono ?_; rintro e w2 ⟨rfl, rfl⟩)
    go_ret
    exact ⟨.slice none 0 0, _, rfl, hRk, by simpa [sortM] using hrow, hb⟩
  · rw [List.length_map] at r1 r4
    have hH : Holds encM w1 gb 0 ds.toArray := holds_sm hgb (by rw [Nat.mul_one] at r4; rw [r4, List.map_map]; rfl)
    have hgl : gb < w1.heap.size := (Array.getElem?_eq_some_iff.1 hgb).1
    have hB1 := (hb.cell (p := ⟨B, 0, none⟩) hBl).trans hB
    have hO1 : OwnM w1 b nn D := hown.keep hb
    have hcS := (callsIn_wide (n := 5)).2 (Any.slices_SortFunc_total Try.sortf encM (fun _ => rfl) (cfM l) (swo_m l) 53 #[.pointer (some ⟨B, 0, none⟩)] gb 0 cap ds.toArray w1 (enters_of Try.func53 (by kernel_rfl) rfl)
      (close_sort gb B b nn D l w1 _ hB1 hO1 hD (by omega) (by omega)) hH hgl (by rw [List.size_toArray]; omega) (tot_m l))
    change CallsIn _ _ Try.prog 86 _ _ _ at hcS
    rw [List.size_toArray] at hcS
    simp only [List.length_map] at hrow ⊢
    gi_wp2_with (gi_at_call 86; refine hcS.mono ?_; rintro e w2 ⟨rfl, q, os, rfl⟩)
    go_ret
    have hfin := ownsRow_sorted (n := q) (os := os) (base := W.heap.size) (ts := (sortM l ds).map valM) (ss := ds.map valM) (by rw [hlen, List.length_map]) hbase hgb (by rw [List.length_map]; exact r1) r2 r3
    have hg2 := grownBy_sorted (w := w1) (g := gb) (n := q) (os := os) ((sortM l ds).map valM).toArray
    rw [← putRow_sm] at hfin hg2
    rw [List.length_map] at hfin
    refine ⟨.slice (some ⟨gb, 0, none⟩) ds.length cap, _, rfl, hRk, ?_, hb.grown hg2 hb.size (fun k hk => by cases hk; exact hbase)⟩
    rw [hlen]
    exact hfin
end Cp
end Go.Proofs.Ytgdkehnakopnnaa
