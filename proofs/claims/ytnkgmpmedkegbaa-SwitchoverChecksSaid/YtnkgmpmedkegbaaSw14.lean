/- The order of cells; slices.SortFunc, Clone at cells. -/
import Derived.Test.YtnkgmpmedkegbaaSw13
namespace Go.Proofs.Ytnkgmpmedkegbaa
open Go Go.RowKit Go.Sort Go.Shelf Go.Lib
namespace Sw
open Mm
def ltC (a b : Cel) : Prop := a.slot < b.slot ∨ (a.slot = b.slot ∧ (a.offset < b.offset ∨ (a.offset = b.offset ∧ (a.frm < b.frm ∨ (a.frm = b.frm ∧ (a.to < b.to ∨ (a.to = b.to ∧ a.flow < b.flow)))))))
theorem cmpI_lt (x y : Int) : (x < y ∧ cmpI x y = -1) ∨ (y < x ∧ cmpI x y = 1) ∨ (x = y ∧ cmpI x y = 0) := by
  unfold cmpI
  by_cases h1 : x < y
  · exact .inl ⟨h1, if_pos h1⟩
  · by_cases h2 : y < x
    · exact .inr (.inl ⟨h2, by rw [if_neg h1, if_pos h2]⟩)
    · exact .inr (.inr ⟨by omega, by rw [if_neg h1, if_neg h2]⟩)
theorem cmpC_cases (a b : Cel) : (ltC a b ∧ cmpC a b = -1) ∨ (ltC b a ∧ cmpC a b = 1) ∨ (a = b ∧ cmpC a b = 0) := by
  obtain ⟨a0, a1, a2, a3, a4⟩ := a
  obtain ⟨b0, b1, b2, b3, b4⟩ := b
  unfold cmpC ltC
  dsimp only
  rcases cmpI_lt a0 b0 with ⟨h0, e0⟩ | ⟨h0, e0⟩ | ⟨rfl, e0⟩
  · exact .inl ⟨by omega, by rw [e0]; rfl⟩
  · exact .inr (.inl ⟨by omega, by rw [e0]; rfl⟩)
  rcases cmpI_lt a1 b1 with ⟨h1, e1⟩ | ⟨h1, e1⟩ | ⟨rfl, e1⟩
  · exact .inl ⟨by omega, by rw [e0, e1]; rfl⟩
  · exact .inr (.inl ⟨by omega, by rw [e0, e1]; rfl⟩)
  rcases cmpI_lt a2 b2 with ⟨h2, e2⟩ | ⟨h2, e2⟩ | ⟨rfl, e2⟩
  · exact .inl ⟨by omega, by rw [e0, e1, e2]; rfl⟩
  · exact .inr (.inl ⟨by omega, by rw [e0, e1, e2]; rfl⟩)
  rcases cmpI_lt a3 b3 with ⟨h3, e3⟩ | ⟨h3, e3⟩ | ⟨rfl, e3⟩
  · exact .inl ⟨by omega, by rw [e0, e1, e2, e3]; rfl⟩
  · exact .inr (.inl ⟨by omega, by rw [e0, e1, e2, e3]; rfl⟩)
  rcases cmpI_lt a4 b4 with ⟨h4, e4⟩ | ⟨h4, e4⟩ | ⟨rfl, e4⟩
  · exact .inl ⟨by omega, by rw [e0, e1, e2, e3, e4]; rfl⟩
  · exact .inr (.inl ⟨by omega, by rw [e0, e1, e2, e3, e4]; rfl⟩)
  · exact .inr (.inr ⟨rfl, by rw [e0, e1, e2, e3, e4]; rfl⟩)
theorem ltC_irrefl (a : Cel) : ¬ ltC a a := by unfold ltC; omega
theorem ltC_trans {a b c : Cel} (h1 : ltC a b) (h2 : ltC b c) : ltC a c := by unfold ltC at *; omega
theorem cmpC_lt (a b : Cel) : cmpC a b < 0 ↔ ltC a b := by
  rcases cmpC_cases a b with ⟨h, e⟩ | ⟨h, e⟩ | ⟨rfl, e⟩
  · rw [e]; exact ⟨fun _ => h, fun _ => by decide⟩
  · rw [e]; exact ⟨fun h2 => absurd h2 (by decide), fun h2 => absurd (ltC_trans h h2) (ltC_irrefl _)⟩
  · rw [e]; exact ⟨fun h2 => absurd h2 (by decide), fun h2 => absurd h2 (ltC_irrefl _)⟩
theorem ltC_tri {a b : Cel} (h1 : ¬ ltC a b) (h2 : ¬ ltC b a) : a = b := by
  rcases cmpC_cases a b with ⟨h, _⟩ | ⟨h, _⟩ | ⟨h, _⟩
  · exact absurd h h1
  · exact absurd h h2
  · exact h
theorem ltOC (x y : Cel) : ltOf cmpC x y = true ↔ ltC x y := by unfold ltOf; rw [decide_eq_true_eq, cmpC_lt]
theorem ltOCf (x y : Cel) : ltOf cmpC x y = false ↔ ¬ ltC x y := by rw [← ltOC, Bool.not_eq_true]
theorem swoC : SWO (ltOf cmpC) where
  irrefl x := by rw [ltOCf]; exact ltC_irrefl x
  trans x y z h1 h2 := by rw [ltOC] at *; exact ltC_trans h1 h2
  ntrans x y z h1 h2 := by
    rw [ltOCf] at *
    intro h
    by_cases e1 : ltC y x
    · exact h2 (ltC_trans e1 h)
    · have := ltC_tri h1 e1
      subst this
      exact h2 h
theorem totC (x y : Cel) (h1 : ltOf cmpC x y = false) (h2 : ltOf cmpC y x = false) : x = y := by rw [ltOCf] at *; exact ltC_tri h1 h2
def sortC (xs : List Cel) : List Cel := xs.mergeSort fun x y => !ltOf cmpC y x
theorem sortC_perm (xs : List Cel) : (sortC xs).Perm xs := List.mergeSort_perm _ _
theorem sortC_sorted (xs : List Cel) : (sortC xs).Pairwise fun a b => ¬ ltC b a := by
  refine (List.pairwise_mergeSort (fun a b c h1 h2 => ?_) (fun a b => ?_) xs).imp fun {a b} h => ?_
  · rw [Bool.not_eq_true', ltOCf] at *
    intro h
    by_cases e1 : ltC a b
    · exact h2 (ltC_trans h e1)
    · have := ltC_tri e1 h1
      subst this
      exact h2 h
  · rw [Bool.or_eq_true, Bool.not_eq_true', Bool.not_eq_true', ltOCf, ltOCf]
    by_cases h : ltC b a
    · exact .inr fun h2 => ltC_irrefl _ (ltC_trans h h2)
    · exact .inl h
  · rw [Bool.not_eq_true', ltOCf] at h; exact h
def SortCPost (A : Option Addr) (c base : Nat) (xs : List Cel) (w : World) (e : Ending) (w' : World) : Prop :=
  e = .returned (.tuple #[]) ∧ w'.ownsRow base 34 5 (.slice A xs.length c) xs.length ((sortC xs).flatMap celE) ∧ ∀ w0 : World, Below w0.heap.size w0 w → w0.heap.size ≤ base → Below w0.heap.size w0 w'
theorem sortC_any (xs : List Cel) (A : Option Addr) (c base : Nat) (w : World) (h : w.ownsRow base 34 5 (.slice A xs.length c) xs.length (xs.flatMap celE)) (hl : xs.length ≤ 5000) :
    Calls Try.prog 41 #[.slice A xs.length c, .func (.func 42) #[] #[]] w (SortCPost A c base xs w) := by
  rcases h.2 with ⟨hv, h0⟩ | ⟨g, cap, cur, hv, hbase, hg, r1, r2, r3, r4⟩
  · have hn := AnyF.slices_SortFunc_none (P := Try.prog) (ρ := Try.sortc_ren) { Try.sortc with } A c (.func (.func 42) #[] #[]) w
    change Calls Try.prog 41 _ _ _ at hn
    rw [h0]
    refine hn.mono ?_
    rintro e w' ⟨rfl, rfl⟩
    have hx : xs = [] := List.length_eq_zero_iff.1 h0
    subst hx
    exact ⟨rfl, by simpa [sortC] using h, fun _ h _ => h⟩
  · injection hv with hA _ hc
    subst hA hc
    have hH := Sk.holdsK_of celE 5 celE_len hg (ss := xs) r4
    have hgl : g < w.heap.size := (Array.getElem?_eq_some_iff.1 hg).1
    have hcmp : CmpLays Try.prog 42 #[] celE 5 cmpC g 0 xs.toArray.size w := by
      intro m os dk _ x y
      exact compare_any x y _
    have hS := AnyQ.slices_SortFunc_total (P := Try.prog) (ρ := Try.sortc_ren) Try.sortc 5 Try.isAgg34 Try.sizeOf34 celE celE_len celE_one cmpC swoC 42 #[] g 0 c xs.toArray w (enters_of Try.func42 (by kernel_rfl) rfl) hcmp hH hgl (by rw [List.size_toArray]; omega) totC
    change Calls Try.prog 41 _ _ _ at hS
    rw [List.size_toArray] at hS
    refine hS.mono ?_
    rintro e w' ⟨rfl, q, os, rfl⟩
    refine ⟨rfl, ?_, fun w0 h0 hb => h0.grown (Sk.grownBy_sortK celE 5 _) h0.size (fun k hk => by cases hk; omega)⟩
    exact Sk.owns_sortK celE 5 celE_len (m := xs.length) (ts := sortC xs) (by unfold sortC; exact List.length_mergeSort _) hbase hg r1 r2 r3
end Sw
end Go.Proofs.Ytnkgmpmedkegbaa
