/-
  What repairs a part: one round, and the rounds. No condition beyond those that each statement names.
-/
import Derived.Test.YthapbbpdcjmmfaaF16
namespace Go.Proofs.Ythapbbpdcjmmfaa
open Abs
set_option linter.unusedSimpArgs false
set_option linter.unusedVariables false

def flatP (l : List (Int × Int)) : List Int := l.flatMap fun x => [x.1, x.2]
/-- The places of a morphism's nodes that go to an end of an edge. -/
def touchF (m : Pa) (e : Ed) (i : Nat) : Option Int := if nth m.nodes i = e.f then some i else if nth m.nodes i = e.g then some i else none
def touchL (m : Pa) (e : Ed) : List Int := collect (touchF m e) m.nodes.length
def looseL (g : Gr) (p m : Pa) : List Int := (danglL g p m).flatMap fun k => touchL m (eth g.edges k.toNat)
def edgesS (p m : Pa) : List Int := p.edges ++ flatP (pairsL m.edges p.edges)
def nodesS (g : Gr) (p m : Pa) : List Int := p.nodes ++ flatP (pairsL m.nodes p.nodes) ++ looseL g p m
/-- One round. -/
def stepP (l g : Gr) (p m : Pa) : Pa := ⟨canon l.nodes.length (nodesS g p m ++ endsL l (edgesS p m) l.edges.length), canon l.edges.length (edgesS p m)⟩
/-- So many rounds, or as many as turn something. -/
def repN (l g : Gr) (m : Pa) : Nat → Pa → Pa
  | 0, p => p
  | k + 1, p => if (stepP l g p m).nodes.length = p.nodes.length ∧ (stepP l g p m).edges.length = p.edges.length then stepP l g p m else repN l g m k (stepP l g p m)
def repR (l g : Gr) (p m : Pa) : Pa × Int := if caseErr l g p m = 0 then (repN l g m (l.nodes.length + l.edges.length + 1) p, 0) else (⟨[], []⟩, caseErr l g p m)

theorem canon_congr {n : Nat} {a b : List Int} (h : ∀ x : Int, 0 ≤ x → x < n → (x ∈ a ↔ x ∈ b)) : canon n a = canon n b :=
  asc_ext canon_asc canon_asc fun x => by
    rw [mem_canon, mem_canon]
    constructor
    · rintro ⟨h1, h2, h3⟩
      exact ⟨h1, h2, (h x h1 h2).1 h3⟩
    · rintro ⟨h1, h2, h3⟩
      exact ⟨h1, h2, (h x h1 h2).2 h3⟩

theorem canon_self {n : Nat} {a : List Int} (ha : a.Pairwise (· < ·)) (h : ∀ x ∈ a, 0 ≤ x ∧ x < n) : canon n a = a :=
  asc_ext canon_asc ha fun x => by
    rw [mem_canon]
    exact ⟨fun h => h.2.2, fun hx => ⟨(h x hx).1, (h x hx).2, hx⟩⟩

theorem canon_len {n : Nat} {a : List Int} : (canon n a).length ≤ n := collect_len

/-- A part whose numbers are ascending and in range. -/
structure PartOk (l : Gr) (p : Pa) : Prop where
  an : p.nodes.Pairwise (· < ·)
  ae : p.edges.Pairwise (· < ·)
  rn : ∀ x ∈ p.nodes, 0 ≤ x ∧ x < l.nodes.length
  re : ∀ x ∈ p.edges, 0 ≤ x ∧ x < l.edges.length

theorem asc_sub : ∀ {b a : List Int}, a.Pairwise (· < ·) → b.Pairwise (· < ·) → (∀ x ∈ a, x ∈ b) → a.Sublist b
  | [], [], _, _, _ => List.Sublist.slnil
  | [], x :: a, _, _, h => by have := h x (by simp); cases this
  | y :: b, [], _, _, _ => List.nil_sublist _
  | y :: b, x :: a, ha, hb, h => by
    rw [List.pairwise_cons] at ha hb
    rcases List.mem_cons.1 (h x (by simp)) with e | e
    · subst e
      refine List.Sublist.cons_cons _ (asc_sub ha.2 hb.2 fun z hz => ?_)
      rcases List.mem_cons.1 (h z (List.mem_cons_of_mem _ hz)) with e | e
      · have := ha.1 z hz
        omega
      · exact e
    · refine List.Sublist.cons _ (asc_sub (List.pairwise_cons.2 ha) hb.2 fun z hz => ?_)
      have h1 := hb.1 x e
      rcases List.mem_cons.1 (h z hz) with e' | e'
      · rcases List.mem_cons.1 hz with e2 | e2
        · omega
        · have := ha.1 z e2
          omega
      · exact e'

theorem pairs_in {l k : List Int} {x : Int} (h : x ∈ flatP (pairsL l k)) : 0 ≤ x ∧ x < l.length := by
  simp only [flatP, List.mem_flatMap] at h
  obtain ⟨q, hq, hx⟩ := h
  simp only [pairsL, mem_gather] at hq
  obtain ⟨a, ha, hq⟩ := hq
  rw [mem_collect] at hq
  obtain ⟨b, hb, hq⟩ := hq
  simp only [pairF] at hq
  split at hq
  · injection hq with hq
    subst hq
    simp at hx
    rcases hx with rfl | rfl <;> omega
  · cases hq

theorem loose_in {g : Gr} {p m : Pa} {x : Int} (h : x ∈ looseL g p m) : 0 ≤ x ∧ x < m.nodes.length := by
  simp only [looseL, List.mem_flatMap] at h
  obtain ⟨k, _, hx⟩ := h
  simp only [touchL, mem_collect] at hx
  obtain ⟨j, hj, hx⟩ := hx
  simp only [touchF] at hx
  split at hx
  · injection hx with hx; omega
  · split at hx
    · injection hx with hx; omega
    · cases hx

theorem edgesS_in {l : Gr} {p m : Pa} (hp : PartOk l p) (hl : m.edges.length = l.edges.length) : ∀ x ∈ edgesS p m, 0 ≤ x ∧ x < l.edges.length := fun x hx => by
  rcases List.mem_append.1 hx with h | h
  · exact hp.re x h
  · have := pairs_in h
    omega

theorem nodesS_in {l g : Gr} {p m : Pa} (hp : PartOk l p) (hl : m.nodes.length = l.nodes.length) : ∀ x ∈ nodesS g p m, 0 ≤ x ∧ x < l.nodes.length := fun x hx => by
  rcases List.mem_append.1 hx with h | h
  · rcases List.mem_append.1 h with h | h
    · exact hp.rn x h
    · have := pairs_in h
      omega
  · have := loose_in h
    omega

theorem stepP_ok {l g : Gr} {p m : Pa} : PartOk l (stepP l g p m) :=
  ⟨canon_asc, canon_asc, fun x hx => ⟨(mem_canon.1 hx).1, (mem_canon.1 hx).2.1⟩, fun x hx => ⟨(mem_canon.1 hx).1, (mem_canon.1 hx).2.1⟩⟩

theorem step_ge {l g : Gr} {p m : Pa} (hp : PartOk l p) : p.nodes.Sublist (stepP l g p m).nodes ∧ p.edges.Sublist (stepP l g p m).edges :=
  ⟨asc_sub hp.an canon_asc fun x hx => mem_canon.2 ⟨(hp.rn x hx).1, (hp.rn x hx).2, by simp [nodesS, hx]⟩, asc_sub hp.ae canon_asc fun x hx => mem_canon.2 ⟨(hp.re x hx).1, (hp.re x hx).2, by simp [edgesS, hx]⟩⟩

theorem PartOk.len {l : Gr} {p : Pa} (h : PartOk l p) : p.nodes.length ≤ l.nodes.length ∧ p.edges.length ≤ l.edges.length := by
  have e1 := canon_self h.an h.rn
  have e2 := canon_self h.ae h.re
  exact ⟨by rw [← e1]; exact canon_len, by rw [← e2]; exact canon_len⟩

/-- What is still to be gained. -/
def gap (l : Gr) (p : Pa) : Nat := (l.nodes.length - p.nodes.length) + (l.edges.length - p.edges.length)

/-- It stays. -/
def fixedP (l g : Gr) (p m : Pa) : Prop := (stepP l g p m).nodes.length = p.nodes.length ∧ (stepP l g p m).edges.length = p.edges.length
instance (l g : Gr) (p m : Pa) : Decidable (fixedP l g p m) := inferInstanceAs (Decidable (_ ∧ _))

theorem gap_lt {l g : Gr} {p m : Pa} (hp : PartOk l p) (h : ¬ fixedP l g p m) : gap l (stepP l g p m) < gap l p := by
  have h1 := (step_ge (g := g) (m := m) hp).1.length_le
  have h2 := (step_ge (g := g) (m := m) hp).2.length_le
  have h3 := (stepP_ok (l := l) (g := g) (p := p) (m := m)).len
  simp only [fixedP] at h
  simp only [gap]
  omega

theorem fixed_eq {l g : Gr} {p m : Pa} (hp : PartOk l p) : fixedP l g p m ↔ (stepP l g p m).nodes = p.nodes ∧ (stepP l g p m).edges = p.edges := by
  constructor
  · rintro ⟨h1, h2⟩
    exact ⟨((step_ge (g := g) (m := m) hp).1.eq_of_length_le (by omega)).symm, ((step_ge (g := g) (m := m) hp).2.eq_of_length_le (by omega)).symm⟩
  · rintro ⟨h1, h2⟩
    exact ⟨by rw [h1], by rw [h2]⟩

/-- Where the rounds stand. -/
def RepAt (l g : Gr) (m : Pa) (R p : Pa) : Prop := PartOk l p ∧ ∃ k, gap l p < k ∧ repN l g m k p = R

theorem rep_start {l g : Gr} {p m : Pa} (hp : PartOk l p) : RepAt l g m (repN l g m (l.nodes.length + l.edges.length + 1) p) p := ⟨hp, _, by simp only [gap]; omega, rfl⟩
theorem rep_stop {l g : Gr} {p m R : Pa} (h : RepAt l g m R p) (hf : fixedP l g p m) : stepP l g p m = R := by
  obtain ⟨_, k, hk, rfl⟩ := h
  cases k with
  | zero => omega
  | succ k =>
    simp only [fixedP] at hf
    simp only [repN, if_pos hf]
theorem rep_go {l g : Gr} {p m R : Pa} (h : RepAt l g m R p) (hf : ¬ fixedP l g p m) : RepAt l g m R (stepP l g p m) ∧ gap l (stepP l g p m) < gap l p := by
  obtain ⟨hp, k, hk, rfl⟩ := h
  have hg := gap_lt hp hf
  cases k with
  | zero => omega
  | succ k =>
    refine ⟨⟨stepP_ok, k, by omega, ?_⟩, hg⟩
    simp only [fixedP] at hf
    simp only [repN, if_neg hf]
end Go.Proofs.Ythapbbpdcjmmfaa
