/-
  Words and small lemmas for the functions' proofs: numbers that fit, lists of numbers as trees. No condition beyond those that each statement names.
-/
import Derived.Test.YthapbbpdcjmmfaaAbsF
namespace Go.Proofs.Ythapbbpdcjmmfaa.Abs
open Go.RowKit
set_option linter.unusedVariables false

theorem wrap64_id {n : Int} (h1 : -9223372036854775808 ≤ n) (h2 : n ≤ 9223372036854775807) : IntKind.i64.wrap n = n := by
  have e : IntKind.i64.wrap n = if n % 18446744073709551616 ≥ 9223372036854775808 then n % 18446744073709551616 - 18446744073709551616 else n % 18446744073709551616 := by
    simp [IntKind.wrap, IntKind.bits, IntKind.signed]
  rw [e]
  split <;> omega

/-- A slice of ints, as a tree. -/
def ints (l : List Int) : C := .sl l.length (l.map (.int .i64))

theorem thereIs_some {E : Eff} {K : Eff → Prop} : thereIs (some E) K = K E := by simp [thereIs]
theorem thereIs_none {K : Eff → Prop} : thereIs none K = False := by simp [thereIs]
theorem thereIs_ite {c : Prop} [Decidable c] {x y : Option Eff} {K : Eff → Prop} : thereIs (if c then x else y) K = if c then thereIs x K else thereIs y K := by split <;> rfl

theorem drop_ints {l : List Int} {k : Nat} (h : k < l.length) : (l.map (C.int .i64)).drop k = .int .i64 l[k] :: (l.drop (k + 1)).map (.int .i64) := by
  rw [← List.map_drop, List.drop_eq_getElem_cons h, List.map_cons]

theorem take_mem {l : List Int} {k : Nat} {n : Int} (h : k < l.length) (hn : n ∉ l.take k) (hk : l[k] ≠ n) : n ∉ l.take (k + 1) := by
  rw [List.take_succ_eq_append_getElem h]
  simp only [List.mem_append, List.mem_singleton, not_or]
  exact ⟨hn, fun e => hk e.symm⟩
end Go.Proofs.Ythapbbpdcjmmfaa.Abs
