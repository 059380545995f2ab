/-
  Sorting and leaving out: the list of what is in a list, ascending. No condition beyond those that each statement names.
-/
import Derived.Test.YthapbbpdcjmmfaaF12
import Derived.Test.YthapbbpdcjmmfaaAbsK
import Derived.Test.YthapbbpdcjmmfaaS1
namespace Go.Proofs.Ythapbbpdcjmmfaa
open Abs
set_option linter.unusedSimpArgs false
set_option linter.unusedVariables false

theorem sortSaid : SortSaid Try.prog 52 :=
  ⟨fun blk cap zs w h1 h2 h3 => Try.slices_Sort_int blk 0 cap zs w h1 h2 h3, fun p cap w => Try.slices_Sort_int_none p cap w, callable_of Try.func52 (by kernel_rfl)⟩
theorem compSaid : CompSaid Try.prog 53 :=
  ⟨fun blk cap zs w h1 h2 h3 => Try.slices_Compact_int blk 0 cap zs w h1 h2 h3, fun p cap w => Try.slices_Compact_int_empty p cap w, callable_of Try.func53 (by kernel_rfl)⟩

theorem asc_iff {l : List Int} : Asc l ↔ l.Pairwise (· < ·) := by
  rw [List.pairwise_iff_getElem]
  constructor
  · intro h i j hi hj hij
    have := h i j hij hj
    rwa [nth_eq hi, nth_eq hj] at this
  · intro h a b hab hb
    have := h a b (by omega) hb hab
    rw [nth_eq (by omega), nth_eq hb]
    exact this

/-- Ascending lists of the same numbers are one. -/
theorem asc_ext : ∀ {a b : List Int}, a.Pairwise (· < ·) → b.Pairwise (· < ·) → (∀ x, x ∈ a ↔ x ∈ b) → a = b
  | [], [], _, _, _ => rfl
  | [], y :: b, _, _, h => by have := (h y).2 (by simp); cases this
  | x :: a, [], _, _, h => by have := (h x).1 (by simp); cases this
  | x :: a, y :: b, ha, hb, h => by
    rw [List.pairwise_cons] at ha hb
    have hxy : x = y := by
      have h1 := (h x).1 (by simp)
      have h2 := (h y).2 (by simp)
      rcases List.mem_cons.1 h1 with e | e
      · exact e
      · rcases List.mem_cons.1 h2 with e' | e'
        · exact e'.symm
        · have := ha.1 y e'
          have := hb.1 x e
          omega
    subst hxy
    congr 1
    refine asc_ext ha.2 hb.2 fun z => ?_
    constructor
    · intro hz
      have hne := ha.1 z hz
      rcases List.mem_cons.1 ((h z).1 (List.mem_cons_of_mem _ hz)) with e | e
      · omega
      · exact e
    · intro hz
      have hne := hb.1 z hz
      rcases List.mem_cons.1 ((h z).2 (List.mem_cons_of_mem _ hz)) with e | e
      · omega
      · exact e

def canonF (S : List Int) (i : Nat) : Option Int := if (i : Int) ∈ S then some i else none
/-- The numbers below n that are in a list, ascending. -/
def canon (n : Nat) (S : List Int) : List Int := collect (canonF S) n

theorem mem_canon {n : Nat} {S : List Int} {x : Int} : x ∈ canon n S ↔ 0 ≤ x ∧ x < n ∧ x ∈ S := by
  rw [canon, mem_collect]
  constructor
  · rintro ⟨j, hj, h⟩
    simp only [canonF] at h
    split at h
    · injection h with h
      subst h
      exact ⟨by omega, by omega, by assumption⟩
    · cases h
  · rintro ⟨h1, h2, h3⟩
    obtain ⟨j, rfl⟩ := Int.eq_ofNat_of_zero_le h1
    exact ⟨j, by omega, by simp [canonF, h3]⟩

theorem canon_asc {n : Nat} {S : List Int} : (canon n S).Pairwise (· < ·) := by
  induction n with
  | zero => exact List.Pairwise.nil
  | succ n ih =>
    simp only [canon] at ih ⊢
    by_cases h : (n : Int) ∈ S
    · rw [collect_some (x := (n : Int)) (by simp [canonF, h]), List.pairwise_append]
      refine ⟨ih, by simp, fun a ha b hb => ?_⟩
      have h1 := (mem_canon (n := n) (S := S)).1 ha
      simp at hb
      omega
    · rw [collect_none (by simp [canonF, h])]
      exact ih

theorem compact_sorted {zs : List Int} (h : ∀ i j, i ≤ j → j < zs.length → zs.toArray[i]! ≤ zs.toArray[j]!) : ∀ m, m ≤ zs.length → (Lib.compactUpTo zs.toArray m).Pairwise (· < ·) ∧ ∀ x, x ∈ Lib.compactUpTo zs.toArray m ↔ ∃ j, j < m ∧ zs.toArray[j]! = x
  | 0, _ => ⟨by simp [Lib.compactUpTo], fun x => by simp [Lib.compactUpTo]⟩
  | m + 1, hm => by
    obtain ⟨i1, i2⟩ := compact_sorted h m (by omega)
    rw [Lib.compactUpTo_succ]
    cases hk : Lib.keeps zs.toArray m
    · have hk' : ¬ (m = 0 ∨ zs.toArray[m]! ≠ zs.toArray[m - 1]!) := by
        intro e
        rw [Lib.keeps] at hk
        exact absurd e (by simpa using hk)
      have h0 : m ≠ 0 := fun e => hk' (.inl e)
      have h1 : zs.toArray[m]! = zs.toArray[m - 1]! := by
        rcases Decidable.em (zs.toArray[m]! = zs.toArray[m - 1]!) with e | e
        · exact e
        · exact absurd (.inr e) hk'
      simp only [Bool.false_eq_true, if_false, List.append_nil]
      refine ⟨i1, fun x => (i2 x).trans ⟨fun ⟨j, hj, e⟩ => ⟨j, by omega, e⟩, fun ⟨j, hj, e⟩ => ?_⟩⟩
      by_cases hjm : j = m
      · exact ⟨m - 1, by omega, by rw [← h1, ← hjm]; exact e⟩
      · exact ⟨j, by omega, e⟩
    · simp only [if_true]
      constructor
      · rw [List.pairwise_append]
        refine ⟨i1, by simp, fun a ha b hb => ?_⟩
        simp only [List.mem_singleton] at hb
        subst hb
        obtain ⟨j, hj, rfl⟩ := (i2 a).1 ha
        have hk' : m = 0 ∨ zs.toArray[m]! ≠ zs.toArray[m - 1]! := by
          rw [Lib.keeps] at hk
          exact of_decide_eq_true hk
        rcases hk' with e | e
        · omega
        · have h1 := h j (m - 1) (by omega) (by omega)
          have h2 := h (m - 1) m (by omega) (by omega)
          omega
      · intro x
        rw [List.mem_append, i2 x, List.mem_singleton]
        constructor
        · rintro (⟨j, hj, e⟩ | e)
          · exact ⟨j, by omega, e⟩
          · exact ⟨m, by omega, e.symm⟩
        · rintro ⟨j, hj, e⟩
          by_cases hjm : j = m
          · subst hjm
            exact .inr e.symm
          · exact .inl ⟨j, by omega, e⟩

theorem compact_sort_eq {n : Nat} {l : List Int} (h : ∀ x ∈ l, 0 ≤ x ∧ x < n) : Lib.compact (l.mergeSort fun x y => decide (x ≤ y)) = canon n l := by
  have hs : (l.mergeSort fun x y => decide (x ≤ y)).Pairwise (fun x y => (decide (x ≤ y)) = true) :=
    List.pairwise_mergeSort (fun a b c h1 h2 => by simp at *; omega) (fun a b => by simp; omega) l
  have hmem : ∀ x, x ∈ (l.mergeSort fun x y => decide (x ≤ y)) ↔ x ∈ l := fun x => List.mem_mergeSort
  generalize (l.mergeSort fun x y => decide (x ≤ y)) = zs at *
  have get : ∀ i, (hi : i < zs.length) → zs.toArray[i]! = zs[i] := fun i hi => by simp [hi]
  have mono : ∀ i j, i ≤ j → j < zs.length → zs.toArray[i]! ≤ zs.toArray[j]! := fun i j hij hj => by
    rw [get i (by omega), get j hj]
    rcases Nat.lt_or_eq_of_le hij with e | rfl
    · have := List.pairwise_iff_getElem.1 hs i j (by omega) hj e
      simpa using this
    · exact Int.le_refl _
  obtain ⟨c1, c2⟩ := compact_sorted mono zs.length (Nat.le_refl _)
  refine asc_ext c1 canon_asc fun x => ?_
  rw [mem_canon, Lib.compact, c2 x]
  constructor
  · rintro ⟨j, hj, rfl⟩
    rw [get j hj]
    have := (hmem _).1 (List.getElem_mem hj)
    exact ⟨(h _ this).1, (h _ this).2, this⟩
  · rintro ⟨_, _, hx⟩
    obtain ⟨j, hj, rfl⟩ := List.mem_iff_getElem.1 ((hmem x).2 hx)
    exact ⟨j, hj, get j hj⟩
end Go.Proofs.Ythapbbpdcjmmfaa
