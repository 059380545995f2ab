/-
  What a row's argument reads as, opened into trees. No condition beyond those that each statement names.
-/
import Derived.Test.YthapbbpdcjmmfaaAbsK
import Derived.SizedLaws
import Derived.ChangeSlices
import Derived.Deep.Strs
import Derived.Deep.Slices
namespace Go.Proofs.Ythapbbpdcjmmfaa.Abs
open Go.RowKit Go.ChangeShapes Go.WideShapes Go.Deep
set_option linter.unusedVariables false
set_option linter.unusedSimpArgs false

section
variable {H : Type} {enc : TypeId × Value → H} {P : Program} {w : World} {base : Nat} {spare : Nat → Bool} {held : Bool}

theorem open_int_list {t e : TypeId} {fuel : Nat} {cs : List Value} {x : DataW H × List MemPlace} (ht : P.underlying t = some (.slice e)) (he : P.underlying e = some (.int .i64)) (hc : P.cellsOf e = 1) (hB : P.bytesOf e = 8)
    (h : DataW.trod enc P w base spare held fuel t cs = some x) (hw : (x.1.weights P t).all (· ≤ reachBytes) = true) : ∃ l v, cs = [v] ∧ CR w (fun _ => False) (ints l) v ∧ l.length * 8 ≤ 140737488351232 := by
  rcases open_ints ht he hc h with ⟨rfl, _⟩ | ⟨a, len, cap, zs, rfl, hb, hl, hm, hz, rfl, hcell, _⟩
  · exact ⟨[], _, rfl, .sl 0 0 [] none (fun _ => default) (Nat.le_refl _) (fun h => by simp at h) (fun j c h => by simp at h), by simp⟩
  · have hlen : len ≤ zs.length := by
      rw [hz]
      split
      · exact hl
      · exact Nat.le_refl _
    refine ⟨zs.take len, _, rfl, ?_, ?_⟩
    · have e1 : ints (zs.take len) = .sl len ((zs.take len).map (.int .i64)) := by simp [ints, Nat.min_eq_left hlen]
      rw [e1]
      refine .sl len cap _ (some a) (fun j => .int .i64 (zs.getD j 0)) hl (fun _ => ⟨a, rfl, id, fun j hj => hcell j (by simp at hj; omega)⟩) (fun j c hj => ?_)
      simp only [List.getElem?_map, Option.map_eq_some_iff] at hj
      obtain ⟨z, hz', rfl⟩ := hj
      have hj2 : j < len ∧ zs[j]? = some z := by
        rw [List.getElem?_take] at hz'
        split at hz'
        · exact ⟨by assumption, hz'⟩
        · cases hz'
      have : zs.getD j 0 = z := by simp [List.getD, hj2.2]
      rw [this]
      exact .int _ _
    · have z := List.all_eq_true.1 hw _ (show (((lits (H := H) .i64 (zs.take len)).length + (lits (H := H) .i64 (zs.drop len)).length) * P.bytesOf e) ∈ _ by simp [DataW.weights, ht])
      rw [hB] at z
      simp [lits] at z
      simp only [reachBytes] at z
      simp [Nat.min_eq_left hlen]
      omega

instance : Inhabited Ed := ⟨⟨0, 0, 0⟩⟩

/-- A struct of three numbers. -/
theorem open_three {t e : TypeId} {f0 f1 f2 : Field} {fuel : Nat} {cs : List Value} {x : DataW H × List MemPlace} (ht : P.underlying t = some (.struct #[f0, f1, f2])) (h0 : f0.type = e) (h1 : f1.type = e) (h2 : f2.type = e) (o0 : f0.offset = 0) (o1 : f1.offset = 1) (o2 : f2.offset = 2)
    (he : P.underlying e = some (.int .i64)) (hc : P.cellsOf e = 1) (hct : P.cellsOf t = 3) (h : DataW.trod enc P w base spare held fuel t cs = some x) : ∃ d : Ed, cs = [.int .i64 d.t, .int .i64 d.f, .int .i64 d.g] := by
  obtain ⟨y0, y1, y2, n, _, hl, g0, g1, g2⟩ := trod_struct3 ht h
  rw [h0, o0, hc] at g0
  rw [h1, o1, hc] at g1
  rw [h2, o2, hc] at g2
  rw [hct] at hl
  match cs, hl with
  | [a, b, c], _ =>
    obtain ⟨p, e0, _⟩ := DataW.trod_int he g0
    obtain ⟨q, e1, _⟩ := DataW.trod_int he g1
    obtain ⟨r, e2, _⟩ := DataW.trod_int he g2
    simp at e0 e1 e2
    exact ⟨⟨p, q, r⟩, by rw [e0, e1, e2]⟩

theorem get_edL : ∀ {l : List Ed} {j : Nat} {c : C}, (edL l)[j]? = some c → j / 3 < l.length ∧ (edC (eth l (j / 3)))[j % 3]? = some c
  | [], j, c, h => by simp [edL] at h
  | e :: r, j, c, h => by
    have e1 : edL (e :: r) = edC e ++ edL r := by simp [edL]
    rw [e1] at h
    by_cases hj : j < 3
    · rw [List.getElem?_append_left (by simpa [edC] using hj)] at h
      have h1 : j / 3 = 0 := by omega
      have h2 : j % 3 = j := by omega
      rw [h1, h2]
      exact ⟨by simp, by simpa [eth] using h⟩
    · rw [List.getElem?_append_right (by simp [edC]; omega)] at h
      have hl : (edC e).length = 3 := rfl
      rw [hl] at h
      obtain ⟨i1, i2⟩ := get_edL h
      have h1 : j / 3 = (j - 3) / 3 + 1 := by omega
      have h2 : j % 3 = (j - 3) % 3 := by omega
      rw [h1, h2]
      exact ⟨by simpa using i1, by simpa [eth] using i2⟩

theorem open_edge_list {t e q : TypeId} {f0 f1 f2 : Field} {fuel : Nat} {cs : List Value} {x : DataW H × List MemPlace} (ht : P.underlying t = some (.slice e)) (he : P.underlying e = some (.struct #[f0, f1, f2])) (h0 : f0.type = q) (h1 : f1.type = q) (h2 : f2.type = q) (o0 : f0.offset = 0) (o1 : f1.offset = 1) (o2 : f2.offset = 2)
    (hq : P.underlying q = some (.int .i64)) (hc : P.cellsOf q = 1) (hct : P.cellsOf e = 3) (hB : P.bytesOf e = 24)
    (h : DataW.trod enc P w base spare held fuel t cs = some x) (hw : (x.1.weights P t).all (· ≤ reachBytes) = true) : ∃ l v, cs = [v] ∧ CR w (fun _ => False) (edgs l) v ∧ l.length * 24 ≤ 140737488351232 := by
  rcases open_slice ht h with ⟨rfl, _⟩ | ⟨a, len, cap, m, n, D, Pl, rfl, hb, hl, hm, hmm, rfl, hx⟩
  · exact ⟨[], _, rfl, .sl 0 0 [] none (fun _ => default) (Nat.le_refl _) (fun h => by simp [edL] at h) (fun j c h => by simp at h), by simp⟩
  · have hlen : len ≤ m := by
      rw [hmm]
      split
      · exact hl
      · exact Nat.le_refl _
    obtain ⟨F, hF⟩ := choose_lt (α := Ed) (p := fun i d => w.cell? (a.add (i * 3)) = some (.int .i64 d.t) ∧ w.cell? (a.add (i * 3 + 1)) = some (.int .i64 d.f) ∧ w.cell? (a.add (i * 3 + 2)) = some (.int .i64 d.g)) (fun i (hi : i < m) => by
      obtain ⟨cs', g1, g2⟩ := hx i hi
      rw [hct] at g1
      obtain ⟨_, _, g3⟩ := World.cells?_some g1
      obtain ⟨d, rfl⟩ := open_three he h0 h1 h2 o0 o1 o2 hq hc hct g2
      have c0 := g3 0 (by omega)
      have c1 := g3 1 (by omega)
      have c2 := g3 2 (by omega)
      rw [Addr.add_add] at c0 c1 c2
      exact ⟨d, by simpa using c0, by simpa using c1, by simpa using c2⟩)
    have hl2 : ((List.range len).map F).length = len := by simp
    refine ⟨(List.range len).map F, _, rfl, ?_, ?_⟩
    · have key : ∀ i, i < len → eth ((List.range len).map F) i = F i := fun i hi => by simp [eth, hi]
      have e1 : edgs ((List.range len).map F) = .sl len (edL ((List.range len).map F)) := by simp [edgs]
      rw [e1]
      let U : Nat → Value := fun j => if j % 3 = 0 then .int .i64 (F (j / 3)).t else if j % 3 = 1 then .int .i64 (F (j / 3)).f else .int .i64 (F (j / 3)).g
      refine .sl len cap _ (some a) U hl (fun _ => ⟨a, rfl, id, fun j hj => ?_⟩) (fun j c hj => ?_)
      · rw [len_edL, hl2] at hj
        obtain ⟨g0, g1, g2⟩ := hF (j / 3) (by omega)
        have hcase : j % 3 = 0 ∨ j % 3 = 1 ∨ j % 3 = 2 := by omega
        rcases hcase with e | e | e
        · have : j = j / 3 * 3 := by omega
          simp only [U, e, if_true]
          rw [this]; simpa using g0
        · have : j = j / 3 * 3 + 1 := by omega
          simp only [U, e]
          rw [show a.add j = a.add (j / 3 * 3 + 1) by rw [← this]]
          simpa using g1
        · have : j = j / 3 * 3 + 2 := by omega
          simp only [U, e]
          rw [show a.add j = a.add (j / 3 * 3 + 2) by rw [← this]]
          simpa using g2
      · obtain ⟨q1, q2⟩ := get_edL hj
        rw [hl2] at q1
        rw [key _ q1] at q2
        have hcase : j % 3 = 0 ∨ j % 3 = 1 ∨ j % 3 = 2 := by omega
        rcases hcase with e | e | e <;> (rw [e] at q2; simp [edC] at q2; subst q2; simp only [U, e]; exact CR.int _ _)
    · have z := List.all_eq_true.1 hw _ (show ((((List.range len).map D).length + ((List.range (m - len)).map fun j => D (len + j)).length) * P.bytesOf e) ∈ _ by simp [DataW.weights, ht])
      rw [hB] at z
      simp at z
      simp only [reachBytes] at z
      simp
      omega
end

/-! ### What opens, as words -/
def bound (n : Nat) : Prop := n * 8 ≤ 140737488351232
def OpensI (P : Program) (t : TypeId) : Prop := ∀ (H : Type) (enc : TypeId × Value → H) (w : World) (base : Nat) (spare : Nat → Bool) (held : Bool) (fuel : Nat) (cs : List Value) (x : DataW H × List MemPlace),
  DataW.trod enc P w base spare held fuel t cs = some x → (x.1.weights P t).all (· ≤ reachBytes) = true → ∃ l v, cs = [v] ∧ CR w (fun _ => False) (ints l) v ∧ bound l.length
def OpensE (P : Program) (t : TypeId) : Prop := ∀ (H : Type) (enc : TypeId × Value → H) (w : World) (base : Nat) (spare : Nat → Bool) (held : Bool) (fuel : Nat) (cs : List Value) (x : DataW H × List MemPlace),
  DataW.trod enc P w base spare held fuel t cs = some x → (x.1.weights P t).all (· ≤ reachBytes) = true → ∃ l v, cs = [v] ∧ CR w (fun _ => False) (edgs l) v ∧ bound l.length
def OpensG (P : Program) (t : TypeId) : Prop := ∀ (H : Type) (enc : TypeId × Value → H) (w : World) (base : Nat) (spare : Nat → Bool) (held : Bool) (fuel : Nat) (cs : List Value) (x : DataW H × List MemPlace),
  DataW.trod enc P w base spare held fuel t cs = some x → (x.1.weights P t).all (· ≤ reachBytes) = true → ∃ g : Gr, ∃ v0 v1, cs = [v0, v1] ∧ CR w (fun _ => False) (ints g.nodes) v0 ∧ CR w (fun _ => False) (edgs g.edges) v1 ∧ bound g.nodes.length ∧ bound g.edges.length
def OpensP (P : Program) (t : TypeId) : Prop := ∀ (H : Type) (enc : TypeId × Value → H) (w : World) (base : Nat) (spare : Nat → Bool) (held : Bool) (fuel : Nat) (cs : List Value) (x : DataW H × List MemPlace),
  DataW.trod enc P w base spare held fuel t cs = some x → (x.1.weights P t).all (· ≤ reachBytes) = true → ∃ g : Pa, ∃ v0 v1, cs = [v0, v1] ∧ CR w (fun _ => False) (ints g.nodes) v0 ∧ CR w (fun _ => False) (ints g.edges) v1 ∧ bound g.nodes.length ∧ bound g.edges.length

theorem opensI {P : Program} {t e : TypeId} (ht : P.underlying t = some (.slice e)) (he : P.underlying e = some (.int .i64)) (hc : P.cellsOf e = 1) (hB : P.bytesOf e = 8) : OpensI P t :=
  fun H enc w base spare held fuel cs x h hw => open_int_list ht he hc hB h hw

theorem opensE {P : Program} {t e q : TypeId} {f0 f1 f2 : Field} (ht : P.underlying t = some (.slice e)) (he : P.underlying e = some (.struct #[f0, f1, f2])) (h0 : f0.type = q ∧ f1.type = q ∧ f2.type = q ∧ f0.offset = 0 ∧ f1.offset = 1 ∧ f2.offset = 2)
    (hq : P.underlying q = some (.int .i64)) (hc : P.cellsOf q = 1) (hct : P.cellsOf e = 3) (hB : P.bytesOf e = 24) : OpensE P t := fun H enc w base spare held fuel cs x h hw => by
  obtain ⟨l, v, h1, h2, h3⟩ := open_edge_list ht he h0.1 h0.2.1 h0.2.2.1 h0.2.2.2.1 h0.2.2.2.2.1 h0.2.2.2.2.2 hq hc hct hB h hw
  exact ⟨l, v, h1, h2, by simp only [bound]; omega⟩

theorem opensG {P : Program} {t a b : TypeId} {f0 f1 : Field} (ht : P.underlying t = some (.struct #[f0, f1])) (hf : f0.type = a ∧ f1.type = b ∧ f0.offset = 0 ∧ f1.offset = 1) (hc : P.cellsOf t = 2) (ha : P.cellsOf a = 1) (hb : P.cellsOf b = 1) (oa : OpensI P a) (ob : OpensE P b) : OpensG P t := by
  intro H enc w base spare held fuel cs x h hw
  obtain ⟨y0, y1, n, rfl, hl, g0, g1⟩ := trod_struct2 ht h
  obtain ⟨rfl, rfl, o0, o1⟩ := hf
  rw [o0, ha] at g0
  rw [o1, hb] at g1
  rw [hc] at hl
  have hw : ((y0.1.weights P f0.type ++ (y1.1.weights P f1.type ++ [])).all (· ≤ reachBytes)) = true := by simpa [DataW.weights, ht, DataW.weightsEach] using hw
  rw [List.all_append, List.all_append, Bool.and_eq_true, Bool.and_eq_true] at hw
  match cs, hl with
  | [u, v], _ =>
    obtain ⟨l, v0, e0, c0, b0⟩ := oa _ _ _ _ _ _ _ _ _ g0 hw.1
    obtain ⟨l1, v1, e1, c1, b1⟩ := ob _ _ _ _ _ _ _ _ _ g1 hw.2.1
    simp at e0 e1
    subst e0 e1
    exact ⟨⟨l, l1⟩, _, _, rfl, c0, c1, b0, b1⟩

theorem opensP {P : Program} {t a : TypeId} {f0 f1 : Field} (ht : P.underlying t = some (.struct #[f0, f1])) (hf : f0.type = a ∧ f1.type = a ∧ f0.offset = 0 ∧ f1.offset = 1) (hc : P.cellsOf t = 2) (ha : P.cellsOf a = 1) (oa : OpensI P a) : OpensP P t := by
  intro H enc w base spare held fuel cs x h hw
  obtain ⟨y0, y1, n, rfl, hl, g0, g1⟩ := trod_struct2 ht h
  obtain ⟨h0, h1, o0, o1⟩ := hf
  rw [h0, o0, ha] at g0
  rw [h1, o1, ha] at g1
  rw [hc] at hl
  have hw : ((y0.1.weights P a ++ (y1.1.weights P a ++ [])).all (· ≤ reachBytes)) = true := by simpa [DataW.weights, ht, DataW.weightsEach, h0, h1] using hw
  rw [List.all_append, List.all_append, Bool.and_eq_true, Bool.and_eq_true] at hw
  match cs, hl with
  | [u, v], _ =>
    obtain ⟨l, v0, e0, c0, b0⟩ := oa _ _ _ _ _ _ _ _ _ g0 hw.1
    obtain ⟨l1, v1, e1, c1, b1⟩ := oa _ _ _ _ _ _ _ _ _ g1 hw.2.1
    simp at e0 e1
    subst e0 e1
    exact ⟨⟨l, l1⟩, _, _, rfl, c0, c1, b0, b1⟩
end Go.Proofs.Ythapbbpdcjmmfaa.Abs
