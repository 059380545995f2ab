/-
  A part that no round turns has a complement, and the other way round. No condition beyond those that each statement names.
-/
import Derived.Test.YthapbbpdcjmmfaaF21
namespace Go.Proofs.Ythapbbpdcjmmfaa
open Abs
set_option linter.unusedSimpArgs false
set_option linter.unusedVariables false

/-- A part has a complement. -/
structure Stands (l g : Gr) (p m : Pa) : Prop where
  pn : pairsL m.nodes p.nodes = []
  pe : pairsL m.edges p.edges = []
  da : danglL g p m = []
  en : ∀ k ∈ p.edges, (eth l.edges k.toNat).f ∈ p.nodes ∧ (eth l.edges k.toNat).g ∈ p.nodes

theorem asc_to {l : List Int} {n : Int} (ha : l.Pairwise (· < ·)) (hr : ∀ x ∈ l, 0 ≤ x ∧ x < n) : ascErr l n = 0 := fe_zero fun j hj => by
  have h1 := hr _ (nth_mem hj)
  have h2 : ¬ (0 < j ∧ nth l j ≤ nth l (j - 1)) := fun ⟨h0, h⟩ => by
    have := asc_iff.2 ha (j - 1) j (by omega) hj
    omega
  simp only [ascF]
  rw [if_neg (by omega), if_neg (by omega), if_neg h2]

theorem gErr_mor {a b : Gr} {m : Pa} (h : morErr a b m = 0) : gErr a = 0 := by
  unfold morErr at h
  split at h
  · assumption
  · exact h

theorem part_iff {l : Gr} {p : Pa} (hp : PartOk l p) : partErr l p = 0 ↔ ∀ k ∈ p.edges, (eth l.edges k.toNat).f ∈ p.nodes ∧ (eth l.edges k.toNat).g ∈ p.nodes := by
  unfold partErr
  rw [if_pos (asc_to hp.an hp.rn), if_pos (asc_to hp.ae hp.re)]
  constructor
  · intro h k hk
    obtain ⟨j, hj, rfl⟩ := mem_nth hk
    have := fe_eq h j hj
    simp only [danF] at this
    split at this
    · assumption
    · cases this
  · intro h
    refine fe_zero fun j hj => ?_
    simp only [danF]
    rw [if_pos (h _ (nth_mem hj))]

theorem mem_pairs {l k : List Int} {q : Int × Int} : q ∈ pairsL l k ↔ ∃ a b : Nat, a < b ∧ b < l.length ∧ nth l a = nth l b ∧ ¬ ((a : Int) ∈ k ∧ (b : Int) ∈ k) ∧ q = ((a : Int), (b : Int)) := by
  simp only [pairsL, mem_gather, mem_collect, pairF]
  constructor
  · rintro ⟨a, ha, b, hb, h⟩
    split at h
    · rename_i h1
      injection h with h
      exact ⟨a, b, h1.1, hb, h1.2.1, h1.2.2, h.symm⟩
    · cases h
  · rintro ⟨a, b, h1, h2, h3, h4, rfl⟩
    exact ⟨a, by omega, b, h2, by rw [if_pos ⟨h1, h3, h4⟩]⟩

theorem mem_goneL {l k : List Int} {x : Int} : x ∈ goneL l k ↔ ∃ i, i < l.length ∧ (i : Int) ∉ k ∧ nth l i = x := by
  simp only [goneL, mem_collect, goneF]
  constructor
  · rintro ⟨i, hi, h⟩
    split at h
    · cases h
    · injection h with h
      exact ⟨i, hi, by assumption, h⟩
  · rintro ⟨i, hi, h1, h2⟩
    exact ⟨i, hi, by rw [if_neg h1, h2]⟩

theorem mem_dangl {g : Gr} {p m : Pa} {x : Int} : x ∈ danglL g p m ↔ ∃ i : Nat, i < g.edges.length ∧ (i : Int) ∉ m.edges ∧ ((eth g.edges i).f ∈ goneL m.nodes p.nodes ∨ (eth g.edges i).g ∈ goneL m.nodes p.nodes) ∧ x = i := by
  simp only [danglL, mem_collect, danglF]
  constructor
  · rintro ⟨i, hi, h⟩
    split at h
    · cases h
    split at h
    · injection h with h
      exact ⟨i, hi, by assumption, .inl (by assumption), h.symm⟩
    split at h
    · injection h with h
      exact ⟨i, hi, by assumption, .inr (by assumption), h.symm⟩
    · cases h
  · rintro ⟨i, hi, h1, h2, rfl⟩
    refine ⟨i, hi, ?_⟩
    rw [if_neg h1]
    by_cases h3 : (eth g.edges i).f ∈ goneL m.nodes p.nodes
    · rw [if_pos h3]
    · rw [if_neg h3, if_pos (h2.resolve_left h3)]

theorem mem_touch {m : Pa} {e : Ed} {i : Nat} (hi : i < m.nodes.length) (h : nth m.nodes i = e.f ∨ nth m.nodes i = e.g) : (i : Int) ∈ touchL m e := by
  simp only [touchL, mem_collect, touchF]
  refine ⟨i, hi, ?_⟩
  by_cases h1 : nth m.nodes i = e.f
  · rw [if_pos h1]
  · rw [if_neg h1, if_pos (h.resolve_left h1)]

theorem endsL_mem {l : Gr} {T : List Int} {x : Int} : x ∈ endsL l T l.edges.length ↔ ∃ i : Nat, i < l.edges.length ∧ (i : Int) ∈ T ∧ (x = (eth l.edges i).f ∨ x = (eth l.edges i).g) := by
  simp only [endsL, mem_gather]
  constructor
  · rintro ⟨i, hi, h⟩
    split at h
    · simp at h
      exact ⟨i, hi, by assumption, h⟩
    · cases h
  · rintro ⟨i, hi, h1, h2⟩
    exact ⟨i, hi, by rw [if_pos h1]; simpa using h2⟩

theorem fix_stands {l g : Gr} {p m : Pa} (h0 : morErr l g m = 0) (hp : PartOk l p) : fixedP l g p m ↔ Stands l g p m := by
  have mo := mor_ok h0
  rw [fixed_eq hp]
  constructor
  · rintro ⟨h1, h2⟩
    have n1 : ∀ x, x ∈ nodesS g p m ++ endsL l (edgesS p m) l.edges.length → 0 ≤ x → x < l.nodes.length → x ∈ p.nodes := fun x hx h3 h4 => by
      rw [← h1]
      exact mem_canon.2 ⟨h3, h4, hx⟩
    have e1 : ∀ x, x ∈ edgesS p m → 0 ≤ x → x < l.edges.length → x ∈ p.edges := fun x hx h3 h4 => by
      rw [← h2]
      exact mem_canon.2 ⟨h3, h4, hx⟩
    have ln := mo.ln
    have le := mo.le
    refine ⟨List.eq_nil_iff_forall_not_mem.2 fun q hq => ?_, List.eq_nil_iff_forall_not_mem.2 fun q hq => ?_, List.eq_nil_iff_forall_not_mem.2 fun q hq => ?_, fun k hk => ?_⟩
    · obtain ⟨a, b, q1, q2, q3, q4, rfl⟩ := mem_pairs.1 hq
      refine q4 ⟨n1 a ?_ (by omega) (by omega), n1 b ?_ (by omega) (by omega)⟩ <;> simp only [List.mem_append, nodesS, flatP, List.mem_flatMap] <;> exact .inl (.inl (.inr ⟨_, hq, by simp⟩))
    · obtain ⟨a, b, q1, q2, q3, q4, rfl⟩ := mem_pairs.1 hq
      refine q4 ⟨e1 a ?_ (by omega) (by omega), e1 b ?_ (by omega) (by omega)⟩ <;> simp only [List.mem_append, edgesS, flatP, List.mem_flatMap] <;> exact .inr ⟨_, hq, by simp⟩
    · obtain ⟨i, hi, q1, q2, rfl⟩ := mem_dangl.1 hq
      have key : ∃ j, j < m.nodes.length ∧ (j : Int) ∉ p.nodes ∧ (nth m.nodes j = (eth g.edges i).f ∨ nth m.nodes j = (eth g.edges i).g) := by
        rcases q2 with q2 | q2 <;> obtain ⟨j, hj, q3, q4⟩ := mem_goneL.1 q2
        · exact ⟨j, hj, q3, .inl q4⟩
        · exact ⟨j, hj, q3, .inr q4⟩
      obtain ⟨j, hj, q3, q4⟩ := key
      refine q3 (n1 j ?_ (by omega) (by omega))
      simp only [List.mem_append, nodesS, looseL, List.mem_flatMap]
      exact .inl (.inr ⟨_, hq, by simpa using mem_touch hj q4⟩)
    · obtain ⟨k1, k2⟩ := hp.re k hk
      obtain ⟨i, rfl⟩ := Int.eq_ofNat_of_zero_le k1
      have hi : i < l.edges.length := by omega
      obtain ⟨_, _, g1, g2, g3, g4⟩ := mo.ga.edges _ (eth_mem hi)
      have hke : (i : Int) ∈ edgesS p m := by simp [edgesS, hk]
      exact ⟨n1 _ (List.mem_append.2 (.inr (endsL_mem.2 ⟨i, hi, hke, .inl rfl⟩))) g1 g2, n1 _ (List.mem_append.2 (.inr (endsL_mem.2 ⟨i, hi, hke, .inr rfl⟩))) g3 g4⟩
  · rintro ⟨h1, h2, h3, h4⟩
    have ee : edgesS p m = p.edges := by simp [edgesS, h2, flatP]
    have ne : nodesS g p m = p.nodes := by simp [nodesS, h1, looseL, h3, flatP]
    simp only [stepP]
    rw [ee, ne]
    refine ⟨(canon_congr (b := p.nodes) fun x _ _ => ?_).trans (canon_self hp.an hp.rn), canon_self hp.ae hp.re⟩
    constructor
    · intro hx
      rcases List.mem_append.1 hx with hx | hx
      · exact hx
      · obtain ⟨i, hi, hT, hx⟩ := endsL_mem.1 hx
        have := h4 i hT
        simp at this
        rcases hx with rfl | rfl
        · exact this.1
        · exact this.2
    · exact fun hx => List.mem_append.2 (.inl hx)

theorem stands_case {l g : Gr} {p m : Pa} (h0 : morErr l g m = 0) : caseErr l g p m = subErr l p := by simp [caseErr, h0]

theorem of_stands {l g : Gr} {p m : Pa} (h0 : morErr l g m = 0) (hp : PartOk l p) : (ofR l g p m).2 = 0 ↔ Stands l g p m := by
  have hg := gErr_mor h0
  have hc : caseErr l g p m = partErr l p := by rw [stands_case h0, subErr, if_pos hg]
  unfold ofR
  constructor
  · intro h
    split at h
    · rename_i h1
      rw [hc, part_iff hp] at h1
      split at h
      · cases h
      · rename_i h2
        split at h
        · rename_i h3
          exact ⟨List.eq_nil_of_length_eq_zero (by omega), List.eq_nil_of_length_eq_zero (by omega), h3, h1⟩
        · cases h
    · rename_i h1
      exact absurd h h1
  · rintro ⟨h1, h2, h3, h4⟩
    rw [if_pos (by rw [hc, part_iff hp]; exact h4), if_neg (by simp [h1, h2]), if_pos h3]

theorem repN_fix {l g : Gr} {m : Pa} : ∀ {k : Nat} {p : Pa}, PartOk l p → gap l p < k → PartOk l (repN l g m k p) ∧ fixedP l g (repN l g m k p) m
  | 0, p, _, h => by omega
  | k + 1, p, hp, h => by
    by_cases hf : fixedP l g p m
    · have e : stepP l g p m = p := by
        obtain ⟨e1, e2⟩ := (fixed_eq hp).1 hf
        rw [show stepP l g p m = ⟨(stepP l g p m).nodes, (stepP l g p m).edges⟩ from rfl, e1, e2]
      have hf' := hf
      simp only [fixedP] at hf'
      rw [repN, if_pos hf', e]
      exact ⟨hp, hf⟩
    · have hf' := hf
      simp only [fixedP] at hf'
      rw [repN, if_neg hf']
      have := gap_lt (g := g) (m := m) hp hf
      exact repN_fix stepP_ok (by omega)

theorem repN_self {l g : Gr} {m p : Pa} {k : Nat} (hp : PartOk l p) (hf : fixedP l g p m) : repN l g m (k + 1) p = p := by
  have e : stepP l g p m = p := by
    obtain ⟨e1, e2⟩ := (fixed_eq hp).1 hf
    rw [show stepP l g p m = ⟨(stepP l g p m).nodes, (stepP l g p m).edges⟩ from rfl, e1, e2]
  simp only [fixedP] at hf
  rw [repN, if_pos hf, e]

/-- What is repaired has a complement; it is the part itself exactly if this has one. -/
theorem repR_law {l g : Gr} {p m : Pa} (h : caseErr l g p m = 0) : (ofR l g (repR l g p m).1 m).2 = 0 ∧ ((ofR l g p m).2 = 0 ↔ (repR l g p m).1.nodes = p.nodes ∧ (repR l g p m).1.edges = p.edges) := by
  have h0 : morErr l g m = 0 := by
    unfold caseErr at h
    split at h
    · assumption
    · exact h
  have hp := partOk_of (caseErr_ok h).2
  have e : repR l g p m = (repN l g m (l.nodes.length + l.edges.length + 1) p, 0) := by simp [repR, h]
  obtain ⟨r1, r2⟩ := repN_fix (g := g) (m := m) (k := l.nodes.length + l.edges.length + 1) hp (by simp only [gap]; omega)
  rw [e]
  refine ⟨(of_stands h0 r1).2 ((fix_stands h0 r1).1 r2), ?_⟩
  rw [of_stands h0 hp, ← fix_stands h0 hp]
  constructor
  · intro hf
    simp only
    rw [repN_self hp hf]
    exact ⟨rfl, rfl⟩
  · rintro ⟨e1, e2⟩
    simp only at e1 e2
    have : repN l g m (l.nodes.length + l.edges.length + 1) p = p := by
      rw [show repN l g m (l.nodes.length + l.edges.length + 1) p = ⟨(repN l g m (l.nodes.length + l.edges.length + 1) p).nodes, (repN l g m (l.nodes.length + l.edges.length + 1) p).edges⟩ from rfl, e1, e2]
    rw [this] at r2
    exact r2

theorem repR_tiny {l g : Gr} {p m : Pa} (h : TinyCase l g p m) : tinyP (repR l g p m).1 := by
  unfold repR
  split
  · rename_i h1
    obtain ⟨r1, _⟩ := repN_fix (g := g) (m := m) (k := l.nodes.length + l.edges.length + 1) (partOk_of (caseErr_ok h1).2) (by simp only [gap]; omega)
    have := r1.len
    have h1 := h.tl.1
    have h2 := h.tl.2
    simp only [tiny] at h1 h2
    exact ⟨by simp only [tiny]; omega, by simp only [tiny]; omega⟩
  · exact ⟨by simp [tiny], by simp [tiny]⟩
end Go.Proofs.Ythapbbpdcjmmfaa
