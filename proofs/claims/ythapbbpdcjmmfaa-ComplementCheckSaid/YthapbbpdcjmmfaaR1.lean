/-
  The row of ComplementOf, opened. No condition beyond those that each statement names.
-/
import Derived.Test.YthapbbpdcjmmfaaF12
import Derived.Test.YthapbbpdcjmmfaaAbsL
import Derived.Test.YthapbbpdcjmmfaaRows
import Derived.WalkKit
import Derived.ProofKit
import Derived.OpenShut
import Derived.ChangeOld
import Derived.Below
import Derived.Carry
namespace Go.Proofs.Ythapbbpdcjmmfaa
open Abs
open Go.ChangeShapes Go.WideShapes Go.ChangeAt Go.RowKit
set_option linter.unusedSimpArgs false
set_option linter.unusedVariables false

theorem own : ownKnob Try.prog.godebug = none := by kernel_rfl
theorem laidOut : laidOutB Try.prog = true := by kernel_rfl
theorem oI : OpensI Try.prog 22 := opensI Try.underlying22 Try.underlying3 (by kernel_rfl) (by kernel_rfl)
theorem oE : OpensE Try.prog 23 := opensE Try.underlying23 Try.underlying73 ⟨rfl, rfl, rfl, rfl, rfl, rfl⟩ Try.underlying3 (by kernel_rfl) (by kernel_rfl) (by kernel_rfl)
theorem oG : OpensG Try.prog 25 := opensG Try.underlying25 ⟨rfl, rfl, rfl, rfl⟩ (by kernel_rfl) (by kernel_rfl) (by kernel_rfl) oI oE
theorem oP : OpensP Try.prog 27 := opensP Try.underlying27 ⟨rfl, rfl, rfl, rfl⟩ (by kernel_rfl) (by kernel_rfl) oI
theorem oM : OpensP Try.prog 28 := opensP Try.underlying28 ⟨rfl, rfl, rfl, rfl⟩ (by kernel_rfl) (by kernel_rfl) oI
theorem cG : Try.prog.cellsOf 25 = 2 := by kernel_rfl
theorem cP : Try.prog.cellsOf 27 = 2 := by kernel_rfl
theorem cM : Try.prog.cellsOf 28 = 2 := by kernel_rfl
theorem cC : Try.prog.cellsOf 30 = 8 := by kernel_rfl

structure BoundC (l g : Gr) (p m : Pa) : Prop where
  l1 : bound l.nodes.length
  l2 : bound l.edges.length
  g1 : bound g.nodes.length
  g2 : bound g.edges.length
  p1 : bound p.nodes.length
  p2 : bound p.edges.length
  m1 : bound m.nodes.length
  m2 : bound m.edges.length

/-- A case, opened. -/
theorem open_case {H : Type} {enc : TypeId × Value → H} {w : World} {base : Nat} {spare : Nat → Bool} {held : Bool} {v : Value} {d : DataW H} {ps : List MemPlace} (h : DataW.Trod enc Try.prog w base spare held 30 v d ps)
    (hw : (d.weights Try.prog 30).all (· ≤ reachBytes) = true) : ∃ l g p m, TVR w (fun _ => False) (gluV l g p m) v ∧ BoundC l g p m := by
  obtain ⟨fuel, hf⟩ := h
  obtain ⟨xs, n, _, hx, hl, hlen, hfs⟩ := DataW.trod_struct Try.underlying30 hf
  rw [cC] at hl
  match xs, hlen with
  | [y0, y1, y2, y3], _ =>
    have g0 := hfs 0 _ rfl
    have g1 := hfs 1 _ rfl
    have g2 := hfs 2 _ rfl
    have g3 := hfs 3 _ rfl
    obtain ⟨rfl, rfl⟩ := Prod.mk.inj hx
    have hw : ((y0.1.weights Try.prog 25 ++ (y1.1.weights Try.prog 25 ++ (y2.1.weights Try.prog 27 ++ (y3.1.weights Try.prog 28 ++ [])))).all (· ≤ reachBytes)) = true := by
      simpa [DataW.weights, Try.underlying30, DataW.weightsEach] using hw
    rw [List.all_append, List.all_append, List.all_append, List.all_append, Bool.and_eq_true, Bool.and_eq_true, Bool.and_eq_true, Bool.and_eq_true] at hw
    obtain ⟨w0, w1, w2, w3, _⟩ := hw
    have hv : ∃ us : Array Value, v = .agg us := by
      cases v <;> first | exact ⟨_, rfl⟩ | (simp [Value.cells] at hl)
    obtain ⟨us, rfl⟩ := hv
    have hl : us.toList.length = 8 := hl
    match hu : us.toList, hl with
    | [a0, a1, a2, a3, a4, a5, a6, a7], _ =>
      simp only [Value.cells, hu] at g0 g1 g2 g3
      obtain ⟨l, v0, v1, e0, c0, c1, b0, b1⟩ := oG _ _ _ _ _ _ _ _ _ g0 w0
      obtain ⟨g, v2, v3, e1, c2, c3, b2, b3⟩ := oG _ _ _ _ _ _ _ _ _ g1 w1
      obtain ⟨p, v4, v5, e2, c4, c5, b4, b5⟩ := oP _ _ _ _ _ _ _ _ _ g2 w2
      obtain ⟨m, v6, v7, e3, c6, c7, b6, b7⟩ := oM _ _ _ _ _ _ _ _ _ g3 w3
      simp [cG, cP, cM] at e0 e1 e2 e3
      obtain ⟨rfl, rfl⟩ := e0
      obtain ⟨rfl, rfl⟩ := e1
      obtain ⟨rfl, rfl⟩ := e2
      obtain ⟨rfl, rfl⟩ := e3
      refine ⟨l, g, p, m, ⟨us, rfl, by simp [hu, gluV], fun j c u hc hu' => ?_⟩, ⟨b0, b1, b2, b3, b4, b5, b6, b7⟩⟩
      rw [hu] at hu'
      match j, hc, hu' with
      | 0, hc, hu' | 1, hc, hu' | 2, hc, hu' | 3, hc, hu' | 4, hc, hu' | 5, hc, hu' | 6, hc, hu' | 7, hc, hu' =>
        simp at hc hu'
        subst hc hu'
        assumption
      | j + 8, hc, _ => simp at hc
end Go.Proofs.Ythapbbpdcjmmfaa
