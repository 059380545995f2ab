/-
  What repairs a part: the lists that the loops build. No condition beyond those that each statement names.
-/
import Derived.Test.YthapbbpdcjmmfaaF17
import Derived.Test.YthapbbpdcjmmfaaAbsM
namespace Go.Proofs.Ythapbbpdcjmmfaa
open Abs
set_option linter.unusedSimpArgs false
set_option linter.unusedVariables false

theorem pth_eq {l : List (Int × Int)} {k : Nat} (h : k < l.length) : pth l k = l[k] := by simp [pth, h]
theorem flatP_take {P : List (Int × Int)} {k : Nat} (h : k < P.length) : flatP (P.take (k + 1)) = flatP (P.take k) ++ [(pth P k).1, (pth P k).2] := by
  rw [List.take_succ_eq_append_getElem h, pth_eq h]
  simp only [flatP, List.flatMap_append, List.flatMap_cons, List.flatMap_nil, List.append_nil]
theorem flatP_len {P : List (Int × Int)} : (flatP P).length = P.length * 2 := by
  induction P with
  | nil => rfl
  | cons a r ih =>
    simp only [flatP, List.flatMap_cons, List.length_append, List.length_cons] at ih ⊢
    rw [ih]
    simp
    omega
theorem drop_nthV {l : List Int} {k : Nat} (h : k < l.length) : (l.map (V1.t ∘ C.int .i64)).drop k = .t (.int .i64 (nth l k)) :: (l.drop (k + 1)).map (V1.t ∘ C.int .i64) := by
  rw [nth_eq h, ← List.map_drop, List.drop_eq_getElem_cons h]
  rfl
def looseT (g : Gr) (m : Pa) (D : List Int) (k : Nat) : List Int := (D.take k).flatMap fun k => touchL m (eth g.edges k.toNat)
theorem looseT_succ {g : Gr} {m : Pa} {D : List Int} {k : Nat} (h : k < D.length) : looseT g m D (k + 1) = looseT g m D k ++ touchL m (eth g.edges (nth D k).toNat) := by
  rw [looseT, take_succ_nth h]
  simp [looseT]
theorem looseT_all {g : Gr} {m p : Pa} : looseT g m (danglL g p m) (danglL g p m).length = looseL g p m := by simp [looseT, looseL]
theorem looseT_len {g : Gr} {m : Pa} {D : List Int} : ∀ k, (looseT g m D k).length ≤ k * m.nodes.length
  | 0 => by simp [looseT]
  | k + 1 => by
    have ih := looseT_len (g := g) (m := m) (D := D) k
    rw [Nat.add_mul]
    by_cases h : k < D.length
    · rw [looseT_succ h, List.length_append]
      have := collect_len (f := touchF m (eth g.edges (nth D k).toNat)) (k := m.nodes.length)
      simp only [touchL]
      omega
    · have : looseT g m D (k + 1) = looseT g m D k := by
        simp only [looseT]
        rw [List.take_of_length_le (by omega), List.take_of_length_le (by omega)]
      rw [this]
      omega
def endsT (l : Gr) (E : List Int) (k : Nat) : List Int := (E.take k).flatMap fun k => [(eth l.edges k.toNat).f, (eth l.edges k.toNat).g]
theorem endsT_succ {l : Gr} {E : List Int} {k : Nat} (h : k < E.length) : endsT l E (k + 1) = endsT l E k ++ [(eth l.edges (nth E k).toNat).f, (eth l.edges (nth E k).toNat).g] := by
  rw [endsT, take_succ_nth h]
  simp [endsT]
theorem endsT_len {l : Gr} {E : List Int} : ∀ k, (endsT l E k).length ≤ k * 2
  | 0 => by simp [endsT]
  | k + 1 => by
    have ih := endsT_len (l := l) (E := E) k
    by_cases h : k < E.length
    · rw [endsT_succ h, List.length_append]
      simp
      omega
    · have : endsT l E (k + 1) = endsT l E k := by
        simp only [endsT]
        rw [List.take_of_length_le (by omega), List.take_of_length_le (by omega)]
      rw [this]
      omega
theorem endsT_mem {l : Gr} {E : List Int} (hE : ∀ x ∈ E, 0 ≤ x ∧ x < l.edges.length) {x : Int} : x ∈ endsT l E E.length ↔ x ∈ endsL l E l.edges.length := by
  simp only [endsT, endsL, List.take_length, List.mem_flatMap, mem_gather]
  constructor
  · rintro ⟨k, hk, hx⟩
    obtain ⟨h1, h2⟩ := hE k hk
    obtain ⟨j, rfl⟩ := Int.eq_ofNat_of_zero_le h1
    refine ⟨j, by omega, ?_⟩
    rw [if_pos hk]
    exact hx
  · rintro ⟨j, hj, hx⟩
    split at hx
    · rename_i hk
      exact ⟨j, hk, hx⟩
    · cases hx
theorem endsT_in {l : Gr} (ga : GrOk l) {E : List Int} (hE : ∀ x ∈ E, 0 ≤ x ∧ x < l.edges.length) : ∀ x ∈ endsT l E E.length, 0 ≤ x ∧ x < l.nodes.length := fun x hx => by
  simp only [endsT, List.mem_flatMap] at hx
  obtain ⟨k, hk, hx⟩ := hx
  obtain ⟨h1, h2⟩ := hE k (List.mem_of_mem_take hk)
  obtain ⟨j, rfl⟩ := Int.eq_ofNat_of_zero_le h1
  have := ga.edges _ (eth_mem (l := l.edges) (k := j) (by omega))
  simp at hx
  rcases hx with rfl | rfl
  · exact ⟨this.2.2.1, this.2.2.2.1⟩
  · exact ⟨this.2.2.2.2.1, this.2.2.2.2.2⟩

theorem step_edges {l g : Gr} {q m : Pa} (hq : PartOk l q) (hl : m.edges.length = l.edges.length) : Lib.compact ((edgesS q m).mergeSort fun x y => decide (x ≤ y)) = (stepP l g q m).edges :=
  compact_sort_eq (edgesS_in hq hl)
theorem step_nodes {l g : Gr} {q m : Pa} (ga : GrOk l) (hq : PartOk l q) (ln : m.nodes.length = l.nodes.length) (le : m.edges.length = l.edges.length) :
    Lib.compact ((nodesS g q m ++ endsT l (edgesS q m) (edgesS q m).length).mergeSort fun x y => decide (x ≤ y)) = (stepP l g q m).nodes := by
  rw [compact_sort_eq (n := l.nodes.length) fun x hx => ?_]
  · refine canon_congr fun x _ _ => ?_
    rw [List.mem_append, List.mem_append, endsT_mem (edgesS_in hq le)]
  · rcases List.mem_append.1 hx with h | h
    · exact nodesS_in hq ln x h
    · exact endsT_in ga (edgesS_in hq le) x h

theorem partOk_of {l : Gr} {p : Pa} (h : subErr l p = 0) : PartOk l p := by
  have h0 : gErr l = 0 := by
    unfold subErr at h
    split at h
    · assumption
    · exact h
  have h1 : partErr l p = 0 := by
    unfold subErr at h
    rw [if_pos h0] at h
    exact h
  have h2 : ascErr p.nodes l.nodes.length = 0 := by
    unfold partErr at h1
    split at h1
    · assumption
    · exact h1
  have h3 : ascErr p.edges l.edges.length = 0 := by
    unfold partErr at h1
    rw [if_pos h2] at h1
    split at h1
    · assumption
    · exact h1
  exact ⟨asc_iff.1 (asc_of h2).1, asc_iff.1 (asc_of h3).1, (asc_of h2).2, (asc_of h3).2⟩

theorem collect_mul {α : Type} {f : Nat → Option α} {k n : Nat} (h : k ≤ n) : (collect f k).length ≤ n := Nat.le_trans collect_len h
theorem pairs_few {l k : List Int} {n : Nat} (h : l.length ≤ n) : (pairsL l k).length ≤ n * n := by
  have := gather_len (f := fun a => collect (pairF l k a) l.length) (m := l.length) (fun j => collect_len) l.length
  have g2 : l.length * l.length ≤ n * n := Nat.mul_le_mul h h
  simp only [pairsL]
  omega
theorem dangl_few {g : Gr} {p m : Pa} : (danglL g p m).length ≤ g.edges.length := collect_len
theorem dangl_in {g : Gr} {p m : Pa} : ∀ x ∈ danglL g p m, 0 ≤ x ∧ x < g.edges.length := fun x hx => by
  simp only [danglL, mem_collect] at hx
  obtain ⟨j, hj, hx⟩ := hx
  simp only [danglF] at hx
  split at hx
  · cases hx
  split at hx
  · injection hx with hx; omega
  split at hx
  · injection hx with hx; omega
  · cases hx
end Go.Proofs.Ythapbbpdcjmmfaa
