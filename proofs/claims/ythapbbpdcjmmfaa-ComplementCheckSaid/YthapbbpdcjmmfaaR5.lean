/-
  The row of ComplementCheck, closed, if the law answers true for every case and part. No condition beyond those that each statement names.
-/
import Derived.Test.YthapbbpdcjmmfaaR2
import Derived.Test.YthapbbpdcjmmfaaF24
namespace Go.Proofs.Ythapbbpdcjmmfaa
open Abs
open Go.ChangeShapes Go.WideShapes Go.ChangeAt Go.RowKit
set_option linter.unusedSimpArgs false
set_option linter.unusedVariables false

/-- A part, opened. -/
theorem open_part {H : Type} {enc : TypeId × Value → H} {w : World} {base : Nat} {spare : Nat → Bool} {held : Bool} {v : Value} {d : DataW H} {ps : List MemPlace} (h : DataW.Trod enc Try.prog w base spare held 27 v d ps)
    (hw : (d.weights Try.prog 27).all (· ≤ reachBytes) = true) : ∃ p : Pa, TVR w (fun _ => False) p.v v ∧ bound p.nodes.length ∧ bound p.edges.length := by
  obtain ⟨fuel, hf⟩ := h
  obtain ⟨p, v0, v1, e, c0, c1, b0, b1⟩ := oP _ _ _ _ _ _ _ _ _ hf hw
  have hv : ∃ us : Array Value, v = .agg us := by
    cases v <;> first | exact ⟨_, rfl⟩ | (simp [Value.cells] at e)
  obtain ⟨us, rfl⟩ := hv
  have e : us.toList = [v0, v1] := e
  refine ⟨p, ⟨us, rfl, by simp [e, Pa.v], fun j c u hc hu => ?_⟩, b0, b1⟩
  rw [e] at hu
  match j, hc, hu with
  | 0, hc, hu | 1, hc, hu =>
    simp [Pa.v] at hc hu
    subst hc hu
    assumption
  | j + 2, hc, _ => simp [Pa.v] at hc

theorem case_calls2 {f : FuncId} (h : CaseLawP f) {H : Type} {enc : TypeId × Value → H} {w : World} {base : Nat} {spare : Nat → Bool} {held : Bool} {v v1 : Value} {d d1 : DataW H} {ps ps1 : List MemPlace} (hd : DataW.Trod enc Try.prog w base spare held 30 v d ps)
    (hw : (d.weights Try.prog 30).all (· ≤ reachBytes) = true) (hd1 : DataW.Trod enc Try.prog w base spare held 27 v1 d1 ps1)
    (hw1 : (d1.weights Try.prog 27).all (· ≤ reachBytes) = true) : Calls Try.prog f #[v, v1] w fun e w' => e = .returned (.bool true) ∧ Below w.heap.size w w' := by
  obtain ⟨l, g, p, m, hv, hb⟩ := open_case hd hw
  obtain ⟨x, hx, hb1, hb2⟩ := open_part hd1 hw1
  refine ((h l g p m x hb hb1 hb2).2 w (fun _ => False) #[v, v1] (fun b hb => hb.elim) rfl (fun j s u hs hu => ?_)).mono ?_
  · match j, hs, hu with
    | 0, hs, hu =>
      simp at hs hu
      subst hs hu
      exact hv
    | 1, hs, hu =>
      simp at hs hu
      subst hs hu
      exact hx
    | j + 2, hs, _ => simp at hs
  · rintro e w' ⟨u, rfl, hu, hbel⟩
    obtain ⟨c, hc, hc2⟩ := hu
    simp at hc
    subst hc
    cases hc2
    exact ⟨rfl, hbel⟩

namespace complementCheck
set_option maxRecDepth 100000 in
theorem lifted (law : CaseLawP 6) (os : Os) (started : os.Started) (H : Type) (enc : TypeId × Value → H) :
    ReturnsInHanded {} Try.checked os 6 .any (Rows.complementCheckSpec.pre6 enc Try.prog Try.f6 Rows.complementCheckRow.domain false) (Rows.complementCheckSpec.post enc Try.prog Try.f6 false true false false) := by
  refine returnsInHanded_of_change_sized (C := Try.checked) own started (by kernel_rfl) Try.func6
    (ChangeSpec.witness6 (enc := enc) (C := Try.checked) false ⟨#[], #[.agg #[.slice none 0 0, .slice none 0 0, .slice none 0 0, .slice none 0 0, .slice none 0 0, .slice none 0 0, .slice none 0 0, .slice none 0 0], .agg #[.slice none 0 0, .slice none 0 0]], []⟩ 8 (by kernel_rfl) (by kernel_rfl) (by kernel_rfl) (by kernel_rfl)) ?_
  intro W base args ds gs before hval0 hW hcnd hsz0 _
  have hsz : (DataW.weightsEach Try.prog (Try.f6.params.toList ++ Rows.complementCheckSpec.plain.varTypes Try.prog) (ds ++ gs)).all (· ≤ reachBytes) = true := hsz0
  have hW' := hW
  obtain ⟨p, q, hA0, hV, rfl, hfz, hnd⟩ := hW
  have hA : DataW.TrodAll enc Try.prog W 0 (fun _ => true) true Try.f6.params.toList args.toList ds p := hA0
  rw [Try.params6] at hA hsz
  obtain ⟨v0, vs0, d0, ds0, p0, q0, hargs, rfl, rfl, h0, r0⟩ := trodAll_cons hA
  obtain ⟨v1, vs1, d1, ds1, p1, q1, hargs1, rfl, rfl, h1, r1⟩ := trodAll_cons r0
  obtain ⟨rfl, rfl, rfl⟩ := trodAll_nil r1
  obtain rfl : args = #[v0, v1] := by cases args; simp_all
  obtain ⟨rfl, rfl⟩ := trodVars_none hV
  have hw0 : (d0.weights Try.prog 30).all (· ≤ reachBytes) = true := by
    refine List.all_eq_true.2 fun n hn => List.all_eq_true.1 hsz n ?_
    exact DataW.weights_mem_each (j := 0) (t := 30) (d := d0) rfl rfl n hn
  have hw1 : (d1.weights Try.prog 27).all (· ≤ reachBytes) = true := by
    refine List.all_eq_true.2 fun n hn => List.all_eq_true.1 hsz n ?_
    exact DataW.weights_mem_each (j := 1) (t := 27) (d := d1) rfl rfl n hn
  have lt1 : ∀ x ∈ p1, x.block < W.heap.size := by obtain ⟨m, hm⟩ := h1; exact DataW.trod_lt m _ _ _ hm
  have lt0 : ∀ x ∈ p0, x.block < W.heap.size := by obtain ⟨m, hm⟩ := h0; exact DataW.trod_lt m _ _ _ hm
  clear hA0 hval0 hsz0 hsz
  refine (case_calls2 law h0 hw0 h1 hw1).mono fun e W' ⟨he, bel⟩ => ?_
  subst he
  exact ⟨_, rfl, _, _, _, [], _, [], hW', trodAll_mk1 (shut_bool Try.underlying4 _), (trodAll_cons_mk (Below.trod laidOut (by kernel_rfl) (of_decide_eq_true (by kernel_rfl)) h0 bel lt0) (trodAll_cons_mk (Below.trod laidOut (by kernel_rfl) (of_decide_eq_true (by kernel_rfl)) h1 bel lt1) trodAll_mk0)), rfl, bel.frame _, fun h => by cases h⟩

theorem over (law : CaseLawP 6) : Rows.complementCheckRow.holds Try.pinned (OpenSpec.ofChange Rows.complementCheckSpec) :=
  OpenClaim.holds_of_wide 6 Try.f6 rfl rfl rfl rfl rfl rfl rfl ⟨rfl, rfl, rfl, rfl, rfl⟩ rfl rfl rfl rfl rfl (by kernel_rfl) Try.func6 (by kernel_rfl)
    (of_decide_eq_true (by kernel_rfl)) (by unfold Func.isWrapper; first | (rw [if_pos (by decide +kernel)]; kernel_rfl) | (rw [if_neg (by decide +kernel)]; exact ⟨rfl, rfl⟩))
    (fun os started H enc _ => lifted law os started H enc)
end complementCheck
end Go.Proofs.Ythapbbpdcjmmfaa
