/-
  Contracts: parts of graphs. No condition beyond those that each statement names.
-/
import Derived.Test.YthapbbpdcjmmfaaF3
namespace Go.Proofs.Ythapbbpdcjmmfaa
open Abs
set_option linter.unusedSimpArgs false
set_option linter.unusedVariables false

def ascF (l : List Int) (n : Int) (i : Nat) : Int := if nth l i < 0 then 6 else if n ≤ nth l i then 6 else if 0 < i ∧ nth l i ≤ nth l (i - 1) then 12 else 0
/-- The error of an ascending list of numbers below n. -/
def ascErr (l : List Int) (n : Int) : Int := fe (ascF l n) l.length

theorem wrap_nat {j n : Nat} (h : j < n) (hn : small n) : IntKind.i64.wrap (j : Int) = j := by
  simp only [small] at hn
  rw [wrap64_id] <;> omega

theorem lt_succ_all {p : Nat → Prop} {k : Nat} (h : ∀ j, j < k → p j) (hk : p k) : ∀ j, j < k + 1 → p j := fun j hj => by
  rcases Nat.lt_succ_iff_lt_or_eq.1 hj with hj | rfl
  · exact h j hj
  · exact hk

theorem pred_of {k n : Nat} (h : 0 < k) (hk : k < n) (hn : small n) : ∃ j, j + 1 = k ∧ k - 1 = j ∧ j < n ∧ IntKind.i64.wrap ((k : Int) - 1) = j := by
  simp only [small] at hn
  exact ⟨k - 1, by omega, rfl, by omega, by rw [wrap64_id] <;> omega⟩

def c_list : MFunc := ⟨33, [.tmp 4], .seq (.region [⟨some 4, .mv (.c (.one (.t (.int .i64 0)))), none⟩]) (.seq (.seq (.region [⟨some 7, .mv (.tmp 0), none⟩, ⟨some 8, .len (.tmp 7), none⟩, ⟨some 9, .mv (.c (.one (.t (.int .i64 0)))), none⟩]) (.block 0 (.loop (.seq (.region [⟨some 10, .bin .lss (.tmp 9) (.tmp 8), none⟩]) (.seq (.cond (.tmp 10) .skip (.exit 0)) (.seq (.block 1 (.seq (.region [⟨some 11, .mv (.tmp 9), none⟩, ⟨some 12, .idxA 1 (.tmp 7) (.tmp 9), none⟩, ⟨some 13, .load false 1 (.tmp 12), none⟩, ⟨some 5, .mv (.tmp 11), none⟩, ⟨some 6, .mv (.tmp 13), none⟩]) (.seq (.seq (.region [⟨some 14, .mv (.tmp 6), none⟩, ⟨some 15, .bin .lss (.tmp 14) (.c (.one (.t (.int .i64 0)))), none⟩, ⟨some 16, .mv (.tmp 15), none⟩, ⟨some 17, .mv (.tmp 6), some (16, false)⟩, ⟨some 18, .mv (.tmp 1), some (16, false)⟩, ⟨some 19, .bin .geq (.tmp 17) (.tmp 18), some (16, false)⟩, ⟨some 20, .pick (.tmp 16) (.c (.one (.t (.bool true)))) (.tmp 19), none⟩]) (.cond (.tmp 20) (.seq (.region [⟨some 4, .mv (.c (.one (.t (.int .i64 6)))), none⟩]) .ret) .skip)) (.seq (.region [⟨some 21, .mv (.tmp 5), none⟩, ⟨some 22, .bin .gtr (.tmp 21) (.c (.one (.t (.int .i64 0)))), none⟩, ⟨some 23, .mv (.tmp 22), none⟩, ⟨some 24, .mv (.tmp 6), some (23, true)⟩, ⟨some 25, .mv (.tmp 0), some (23, true)⟩, ⟨some 26, .mv (.tmp 5), some (23, true)⟩, ⟨some 27, .bin .sub (.tmp 26) (.c (.one (.t (.int .i64 1)))), some (23, true)⟩, ⟨some 28, .idxA 1 (.tmp 25) (.tmp 27), some (23, true)⟩, ⟨some 29, .load false 1 (.tmp 28), some (23, true)⟩, ⟨some 30, .bin .leq (.tmp 24) (.tmp 29), some (23, true)⟩, ⟨some 31, .pick (.tmp 23) (.tmp 30) (.c (.one (.t (.bool false)))), none⟩]) (.cond (.tmp 31) (.seq (.region [⟨some 4, .mv (.c (.one (.t (.int .i64 12)))), none⟩]) .ret) .skip))))) (.region [⟨some 32, .bin .add (.tmp 9) (.c (.one (.t (.int .i64 1)))), none⟩, ⟨some 9, .mv (.tmp 32), none⟩]))))))) (.seq (.region [⟨some 4, .mv (.c (.one (.t (.int .i64 0)))), none⟩]) .ret))⟩
theorem k_list : cFn Try.prog Try.f113 = some c_list := by kernel_rfl
theorem list_ok (l : List Int) (n : Int) (hl : small l.length) : CallOK Try.prog 113 [(false, [ints l]), (false, [.int .i64 n])] (.sv (false, [.int .i64 (ascErr l n)])) := by
  refine callOK_W (callS_W (by kernel_rfl) Try.func113 k_list (callable_of Try.func113 (by kernel_rfl)) (by simp [c_list]) ?_)
  simp [c_list, rn0, rn1, rn2, rn3, rn4, rn5, rn6, rn7, evOp, Arg.ev, St.val, St.set, St.new, sliceOf, binInt2, binInt, AV.cells, rdAt, St.live, retOf, resOf, resAll, treeOf, treeCell, treeCells, treeTups, untree, frameOf, TV.av, TR.av, ints, edgs, prs, fillV, splice, intsOf, trees, V1.tree, bx, Gr.v, Pa.v]
  refine loopW_count 9 l.length (fun k S => S.fr 0 = .one (.t (ints l)) ∧ S.fr 1 = .one (.t (.int .i64 n)) ∧ S.fr 7 = .one (.t (ints l)) ∧ S.fr 8 = .one (.t (.int .i64 l.length)) ∧ S.ob = noOb ∧ ∀ j, j < k → ascF l n j = 0) hl ?_ ?_ ?_
  · simp [rn0, rn1, rn2, rn3, rn4, rn5, rn6, rn7, evOp, Arg.ev, St.val, St.set, St.new, sliceOf, binInt2, binInt, AV.cells, rdAt, St.live, retOf, resOf, resAll, treeOf, treeCell, treeCells, treeTups, untree, frameOf, TV.av, TR.av, ints, edgs, prs, fillV, splice, intsOf, trees, V1.tree, bx, Gr.v, Pa.v]
  · rintro k S hlt hw hc ⟨h0, h1, h7, h8, hob, hp⟩
    have bad : ascF l n k ≠ 0 → ascErr l n = ascF l n k := fe_at hlt hp
    by_cases e1 : nth l k < 0
    · have := bad (by simp [ascF, e1])
      rw [show ascF l n k = 6 by simp [ascF, e1]] at this
      simp [rn0, rn1, rn2, rn3, rn4, rn5, rn6, rn7, evOp, Arg.ev, St.val, St.set, St.new, sliceOf, binInt2, binInt, AV.cells, rdAt, St.live, retOf, resOf, resAll, treeOf, treeCell, treeCells, treeTups, untree, frameOf, TV.av, TR.av, ints, edgs, prs, fillV, splice, intsOf, trees, V1.tree, bx, Gr.v, Pa.v, h0, h1, h7, h8, hc, hlt, drop_nth hlt, hob, e1, this]
    by_cases e2 : n ≤ nth l k
    · have := bad (by simp [ascF, e1, e2])
      rw [show ascF l n k = 6 by simp [ascF, e1, e2]] at this
      simp [rn0, rn1, rn2, rn3, rn4, rn5, rn6, rn7, evOp, Arg.ev, St.val, St.set, St.new, sliceOf, binInt2, binInt, AV.cells, rdAt, St.live, retOf, resOf, resAll, treeOf, treeCell, treeCells, treeTups, untree, frameOf, TV.av, TR.av, ints, edgs, prs, fillV, splice, intsOf, trees, V1.tree, bx, Gr.v, Pa.v, h0, h1, h7, h8, hc, hlt, drop_nth hlt, hob, e1, e2, this]
    by_cases e4 : 0 < k
    · obtain ⟨j, hj1, hj2, hj3, hj4⟩ := pred_of e4 hlt hl
      by_cases e3 : nth l k ≤ nth l j
      · have := bad (by simp [ascF, e1, e2, e3, e4, hj2])
        rw [show ascF l n k = 12 by simp [ascF, e1, e2, e3, e4, hj2]] at this
        simp [rn0, rn1, rn2, rn3, rn4, rn5, rn6, rn7, evOp, Arg.ev, St.val, St.set, St.new, sliceOf, binInt2, binInt, AV.cells, rdAt, St.live, retOf, resOf, resAll, treeOf, treeCell, treeCells, treeTups, untree, frameOf, TV.av, TR.av, ints, edgs, prs, fillV, splice, intsOf, trees, V1.tree, bx, Gr.v, Pa.v, h0, h1, h7, h8, hc, hlt, drop_nth hlt, drop_nth hj3, hob, e1, e2, e3, e4, hj3, hj4, this]
      · simp [rn0, rn1, rn2, rn3, rn4, rn5, rn6, rn7, evOp, Arg.ev, St.val, St.set, St.new, sliceOf, binInt2, binInt, AV.cells, rdAt, St.live, retOf, resOf, resAll, treeOf, treeCell, treeCells, treeTups, untree, frameOf, TV.av, TR.av, ints, edgs, prs, fillV, splice, intsOf, trees, V1.tree, bx, Gr.v, Pa.v, h0, h1, h7, h8, hc, hlt, drop_nth hlt, drop_nth hj3, hob, e1, e2, e3, e4, hj3, hj4, hw]
        exact lt_succ_all hp (by simp [ascF, e1, e2, e3, e4, hj2])
    · simp [rn0, rn1, rn2, rn3, rn4, rn5, rn6, rn7, evOp, Arg.ev, St.val, St.set, St.new, sliceOf, binInt2, binInt, AV.cells, rdAt, St.live, retOf, resOf, resAll, treeOf, treeCell, treeCells, treeTups, untree, frameOf, TV.av, TR.av, ints, edgs, prs, fillV, splice, intsOf, trees, V1.tree, bx, Gr.v, Pa.v, h0, h1, h7, h8, hc, hlt, drop_nth hlt, hob, e1, e2, e4, hw]
      exact lt_succ_all hp (by simp [ascF, e1, e2, e4])
  · rintro S hc ⟨h0, h1, h7, h8, hob, hp⟩
    have : ascErr l n = 0 := fe_zero hp
    simp [rn0, rn1, rn2, rn3, rn4, rn5, rn6, rn7, evOp, Arg.ev, St.val, St.set, St.new, sliceOf, binInt2, binInt, AV.cells, rdAt, St.live, retOf, resOf, resAll, treeOf, treeCell, treeCells, treeTups, untree, frameOf, TV.av, TR.av, ints, edgs, prs, fillV, splice, intsOf, trees, V1.tree, bx, Gr.v, Pa.v, h0, h1, h7, h8, hc, this]

def c_ascending : MFunc := ⟨39, [.tmp 4], .seq (.region [⟨some 4, .mv (.c (.one (.t (.int .i64 0)))), none⟩]) (.seq (.seq (.region [⟨some 5, .mv (.c (.one (.t (.int .i64 0)))), none⟩]) (.block 0 (.loop (.seq (.seq (.region [⟨some 6, .mv (.tmp 5), none⟩, ⟨some 7, .mv (.tmp 0), none⟩, ⟨some 8, .len (.tmp 7), none⟩, ⟨some 9, .bin .lss (.tmp 6) (.tmp 8), none⟩]) (.cond (.tmp 9) .skip (.exit 0))) (.seq (.block 1 (.seq (.seq (.region [⟨some 12, .mv (.tmp 0), none⟩, ⟨some 13, .mv (.tmp 5), none⟩, ⟨some 14, .idxA 1 (.tmp 12) (.tmp 13), none⟩, ⟨some 15, .load false 1 (.tmp 14), none⟩, ⟨some 16, .bin .lss (.tmp 15) (.c (.one (.t (.int .i64 0)))), none⟩, ⟨some 17, .mv (.tmp 16), none⟩, ⟨some 18, .mv (.tmp 0), some (17, false)⟩, ⟨some 19, .mv (.tmp 5), some (17, false)⟩, ⟨some 20, .idxA 1 (.tmp 18) (.tmp 19), some (17, false)⟩, ⟨some 21, .load false 1 (.tmp 20), some (17, false)⟩, ⟨some 22, .mv (.tmp 1), some (17, false)⟩, ⟨some 23, .bin .geq (.tmp 21) (.tmp 22), some (17, false)⟩, ⟨some 24, .pick (.tmp 17) (.c (.one (.t (.bool true)))) (.tmp 23), none⟩]) (.cond (.tmp 24) (.seq (.region [⟨some 4, .mv (.c (.one (.t (.int .i64 6)))), none⟩]) .ret) .skip)) (.seq (.draw [[], [0], [1], [2], [2], [3, 4, 2], [5, 2], [2], [2], [8, 2], [7, 9, 2], [10, 2], [6, 11, 2], [2, 12]] [⟨some 25, .mv (.tmp 5), none⟩, ⟨some 26, .bin .gtr (.tmp 25) (.c (.one (.t (.int .i64 0)))), none⟩, ⟨some 27, .mv (.tmp 26), none⟩, ⟨some 28, .mv (.tmp 0), some (27, true)⟩, ⟨some 29, .mv (.tmp 5), some (27, true)⟩, ⟨some 30, .idxA 1 (.tmp 28) (.tmp 29), some (27, true)⟩, ⟨some 31, .load false 1 (.tmp 30), some (27, true)⟩, ⟨some 32, .mv (.tmp 0), some (27, true)⟩, ⟨some 33, .mv (.tmp 5), some (27, true)⟩, ⟨some 34, .bin .sub (.tmp 33) (.c (.one (.t (.int .i64 1)))), some (27, true)⟩, ⟨some 35, .idxA 1 (.tmp 32) (.tmp 34), some (27, true)⟩, ⟨some 36, .load false 1 (.tmp 35), some (27, true)⟩, ⟨some 37, .bin .leq (.tmp 31) (.tmp 36), some (27, true)⟩, ⟨some 38, .pick (.tmp 27) (.tmp 37) (.c (.one (.t (.bool false)))), none⟩]) (.cond (.tmp 38) (.seq (.region [⟨some 4, .mv (.c (.one (.t (.int .i64 12)))), none⟩]) .ret) .skip)))) (.region [⟨some 10, .mv (.tmp 5), none⟩, ⟨some 11, .bin .add (.tmp 10) (.c (.one (.t (.int .i64 1)))), none⟩, ⟨some 5, .mv (.tmp 11), none⟩])))))) (.seq (.region [⟨some 4, .mv (.c (.one (.t (.int .i64 0)))), none⟩]) .ret))⟩
theorem k_ascending : cFn Try.prog Try.f126 = some c_ascending := by kernel_rfl
theorem ascending_ok (l : List Int) (n : Int) (hl : small l.length) : CallOK Try.prog 126 [(false, [ints l]), (false, [.int .i64 n])] (.sv (false, [.int .i64 (ascErr l n)])) := by
  refine callOK_W (callS_W (by kernel_rfl) Try.func126 k_ascending (callable_of Try.func126 (by kernel_rfl)) (by simp [c_ascending]) ?_)
  simp [c_ascending, rn0, rn1, rn2, rn3, rn4, rn5, rn6, rn7, evOp, Arg.ev, St.val, St.set, St.new, sliceOf, binInt2, binInt, AV.cells, rdAt, St.live, retOf, resOf, resAll, treeOf, treeCell, treeCells, treeTups, untree, frameOf, TV.av, TR.av, ints, edgs, prs, fillV, splice, intsOf, trees, V1.tree, bx, Gr.v, Pa.v]
  refine loopW_count 5 l.length (fun k S => S.fr 0 = .one (.t (ints l)) ∧ S.fr 1 = .one (.t (.int .i64 n)) ∧ S.ob = noOb ∧ ∀ j, j < k → ascF l n j = 0) hl ?_ ?_ ?_
  · simp [rn0, rn1, rn2, rn3, rn4, rn5, rn6, rn7, evOp, Arg.ev, St.val, St.set, St.new, sliceOf, binInt2, binInt, AV.cells, rdAt, St.live, retOf, resOf, resAll, treeOf, treeCell, treeCells, treeTups, untree, frameOf, TV.av, TR.av, ints, edgs, prs, fillV, splice, intsOf, trees, V1.tree, bx, Gr.v, Pa.v]
  · rintro k S hlt hw hc ⟨h0, h1, hob, hp⟩
    have bad : ascF l n k ≠ 0 → ascErr l n = ascF l n k := fe_at hlt hp
    by_cases e1 : nth l k < 0
    · have := bad (by simp [ascF, e1])
      rw [show ascF l n k = 6 by simp [ascF, e1]] at this
      simp [rn0, rn1, rn2, rn3, rn4, rn5, rn6, rn7, evOp, Arg.ev, St.val, St.set, St.new, sliceOf, binInt2, binInt, AV.cells, rdAt, St.live, retOf, resOf, resAll, treeOf, treeCell, treeCells, treeTups, untree, frameOf, TV.av, TR.av, ints, edgs, prs, fillV, splice, intsOf, trees, V1.tree, bx, Gr.v, Pa.v, dw0, dw1, dw2, dw3, opRd, opWr, opNew, opNewR, opArgs, argsRd, argRd, Arg.rd, AV.refs, V1.refs, refsL, dstL, h0, h1, hc, hlt, drop_nth hlt, hob, e1, this]
    by_cases e2 : n ≤ nth l k
    · have := bad (by simp [ascF, e1, e2])
      rw [show ascF l n k = 6 by simp [ascF, e1, e2]] at this
      simp [rn0, rn1, rn2, rn3, rn4, rn5, rn6, rn7, evOp, Arg.ev, St.val, St.set, St.new, sliceOf, binInt2, binInt, AV.cells, rdAt, St.live, retOf, resOf, resAll, treeOf, treeCell, treeCells, treeTups, untree, frameOf, TV.av, TR.av, ints, edgs, prs, fillV, splice, intsOf, trees, V1.tree, bx, Gr.v, Pa.v, dw0, dw1, dw2, dw3, opRd, opWr, opNew, opNewR, opArgs, argsRd, argRd, Arg.rd, AV.refs, V1.refs, refsL, dstL, h0, h1, hc, hlt, drop_nth hlt, hob, e1, e2, this]
    by_cases e4 : 0 < k
    · obtain ⟨j, hj1, hj2, hj3, hj4⟩ := pred_of e4 hlt hl
      by_cases e3 : nth l k ≤ nth l j
      · have := bad (by simp [ascF, e1, e2, e3, e4, hj2])
        rw [show ascF l n k = 12 by simp [ascF, e1, e2, e3, e4, hj2]] at this
        simp [rn0, rn1, rn2, rn3, rn4, rn5, rn6, rn7, evOp, Arg.ev, St.val, St.set, St.new, sliceOf, binInt2, binInt, AV.cells, rdAt, St.live, retOf, resOf, resAll, treeOf, treeCell, treeCells, treeTups, untree, frameOf, TV.av, TR.av, ints, edgs, prs, fillV, splice, intsOf, trees, V1.tree, bx, Gr.v, Pa.v, dw0, dw1, dw2, dw3, opRd, opWr, opNew, opNewR, opArgs, argsRd, argRd, Arg.rd, AV.refs, V1.refs, refsL, dstL, h0, h1, hc, hlt, drop_nth hlt, drop_nth hj3, hob, e1, e2, e3, e4, hj3, hj4, this]
        rfl
      · simp [rn0, rn1, rn2, rn3, rn4, rn5, rn6, rn7, evOp, Arg.ev, St.val, St.set, St.new, sliceOf, binInt2, binInt, AV.cells, rdAt, St.live, retOf, resOf, resAll, treeOf, treeCell, treeCells, treeTups, untree, frameOf, TV.av, TR.av, ints, edgs, prs, fillV, splice, intsOf, trees, V1.tree, bx, Gr.v, Pa.v, dw0, dw1, dw2, dw3, opRd, opWr, opNew, opNewR, opArgs, argsRd, argRd, Arg.rd, AV.refs, V1.refs, refsL, dstL, h0, h1, hc, hlt, drop_nth hlt, drop_nth hj3, hob, e1, e2, e3, e4, hj3, hj4, hw]
        exact ⟨rfl, lt_succ_all hp (by simp [ascF, e1, e2, e3, e4, hj2])⟩
    · simp [rn0, rn1, rn2, rn3, rn4, rn5, rn6, rn7, evOp, Arg.ev, St.val, St.set, St.new, sliceOf, binInt2, binInt, AV.cells, rdAt, St.live, retOf, resOf, resAll, treeOf, treeCell, treeCells, treeTups, untree, frameOf, TV.av, TR.av, ints, edgs, prs, fillV, splice, intsOf, trees, V1.tree, bx, Gr.v, Pa.v, dw0, dw1, dw2, dw3, opRd, opWr, opNew, opNewR, opArgs, argsRd, argRd, Arg.rd, AV.refs, V1.refs, refsL, dstL, h0, h1, hc, hlt, drop_nth hlt, hob, e1, e2, e4, hw]
      exact ⟨rfl, lt_succ_all hp (by simp [ascF, e1, e2, e4])⟩
  · rintro S hc ⟨h0, h1, hob, hp⟩
    have : ascErr l n = 0 := fe_zero hp
    simp [rn0, rn1, rn2, rn3, rn4, rn5, rn6, rn7, evOp, Arg.ev, St.val, St.set, St.new, sliceOf, binInt2, binInt, AV.cells, rdAt, St.live, retOf, resOf, resAll, treeOf, treeCell, treeCells, treeTups, untree, frameOf, TV.av, TR.av, ints, edgs, prs, fillV, splice, intsOf, trees, V1.tree, bx, Gr.v, Pa.v, dw0, dw1, dw2, dw3, opRd, opWr, opNew, opNewR, opArgs, argsRd, argRd, Arg.rd, AV.refs, V1.refs, refsL, dstL, h0, h1, hc, this]

/-! ### Ascending lists -/
def Asc (l : List Int) : Prop := ∀ a b, a < b → b < l.length → nth l a < nth l b

theorem asc_of {l : List Int} {n : Int} (h : ascErr l n = 0) : Asc l ∧ ∀ x ∈ l, 0 ≤ x ∧ x < n := by
  have h := fe_eq h
  have h1 : ∀ j, j < l.length → 0 ≤ nth l j ∧ nth l j < n ∧ (0 < j → nth l (j - 1) < nth l j) := fun j hj => by
    have := h j hj
    simp only [ascF] at this
    split at this
    · cases this
    split at this
    · cases this
    split at this
    · cases this
    rename_i a b c
    exact ⟨by omega, by omega, fun h0 => by
      rcases Int.lt_or_le (nth l (j - 1)) (nth l j) with h | h
      · exact h
      · exact absurd ⟨h0, h⟩ c⟩
  refine ⟨fun a b hab hb => ?_, fun x hx => ?_⟩
  · induction b with
    | zero => omega
    | succ b ih =>
      have h2 := (h1 (b + 1) hb).2.2 (by omega)
      simp only [Nat.add_sub_cancel] at h2
      by_cases e : a = b
      · subst e; exact h2
      · have := ih (by omega) (by omega)
        omega
  · obtain ⟨k, hk, rfl⟩ := mem_nth hx
    exact ⟨(h1 k hk).1, (h1 k hk).2.1⟩

/-- How many elements are less: where a number would stand. -/
def bs (l : List Int) (x : Int) : Int := (l.countP (fun y => decide (y < x)) : Nat)

theorem count_at {x : Int} : ∀ {l : List Int} {i : Nat}, i ≤ l.length → (∀ k, k < i → nth l k < x) → (∀ k, i ≤ k → k < l.length → x ≤ nth l k) → l.countP (fun y => decide (y < x)) = i
  | [], 0, _, _, _ => rfl
  | [], i + 1, h, _, _ => absurd h (by simp)
  | y :: l, 0, _, _, h => by
    have h0 := h 0 (by omega) (by simp)
    have ih := count_at (x := x) (l := l) (i := 0) (by omega) (fun k hk => by omega) fun k _ hk => by
      have := h (k + 1) (by omega) (by simpa using hk)
      simpa [nth] using this
    simp [nth] at h0
    rw [List.countP_cons, ih]
    simp
    exact h0
  | y :: l, i + 1, hi, h1, h2 => by
    have h0 := h1 0 (by omega)
    have ih := count_at (x := x) (l := l) (i := i) (by simpa using hi) (fun k hk => by
      have := h1 (k + 1) (by omega)
      simpa [nth] using this) fun k hk hk' => by
      have := h2 (k + 1) (by omega) (by simpa using hk')
      simpa [nth] using this
    simp [nth] at h0
    rw [List.countP_cons, ih]
    simp [h0]

theorem asc_mem {l : List Int} {x : Int} {i : Nat} (h1 : ∀ k, k < i → nth l k < x) (h2 : ∀ k, i ≤ k → k < l.length → x ≤ nth l k) (ha : Asc l) : x ∈ l ↔ i < l.length ∧ nth l i = x := by
  constructor
  · intro hx
    obtain ⟨k, hk, he⟩ := mem_nth hx
    have h3 : i ≤ k := by
      rcases Nat.lt_or_ge k i with h | h
      · have := h1 k h
        omega
      · exact h
    refine ⟨by omega, ?_⟩
    by_cases e : i = k
    · rw [e]; exact he
    · have := ha i k (by omega) hk
      have := h2 i (by omega) (by omega)
      omega
  · rintro ⟨hi, rfl⟩
    exact nth_mem hi

def c_less : MFunc := ⟨17, [.tmp 4], .seq (.region [⟨some 4, .mv (.c (.one (.t (.bool false)))), none⟩]) (.seq (.region [⟨some 5, .mv (.tmp 0), none⟩, ⟨some 6, .call (.c (.one (.fn 120 []))) 65 [.tmp 5], none⟩, ⟨some 7, .mv (.tmp 6), none⟩, ⟨some 8, .mv (.tmp 1), some (7, true)⟩, ⟨some 9, .call (.c (.one (.fn 120 []))) 68 [.tmp 8], some (7, true)⟩, ⟨some 10, .not (.tmp 9), some (7, true)⟩, ⟨some 11, .pick (.tmp 7) (.tmp 10) (.c (.one (.t (.bool false)))), none⟩, ⟨some 12, .mv (.tmp 11), none⟩, ⟨some 13, .mv (.tmp 0), some (12, false)⟩, ⟨some 14, .mv (.tmp 1), some (12, false)⟩, ⟨some 15, .bin .lss (.tmp 13) (.tmp 14), some (12, false)⟩, ⟨some 16, .pick (.tmp 12) (.c (.one (.t (.bool true)))) (.tmp 15), none⟩, ⟨some 4, .mv (.tmp 16), none⟩]) .ret)⟩
theorem k_less : cFn Try.prog Try.f86 = some c_less := by kernel_rfl
def c_isNaN : MFunc := ⟨6, [.tmp 2], .seq (.region [⟨some 2, .mv (.c (.one (.t (.bool false)))), none⟩]) (.seq (.region [⟨some 3, .mv (.tmp 0), none⟩, ⟨some 4, .mv (.tmp 0), none⟩, ⟨some 5, .bin .neq (.tmp 3) (.tmp 4), none⟩, ⟨some 2, .mv (.tmp 5), none⟩]) .ret)⟩
theorem k_isNaN : cFn Try.prog Try.f87 = some c_isNaN := by kernel_rfl
def c_cisNaN : MFunc := ⟨6, [.tmp 2], .seq (.region [⟨some 2, .mv (.c (.one (.t (.bool false)))), none⟩]) (.seq (.region [⟨some 3, .mv (.tmp 0), none⟩, ⟨some 4, .mv (.tmp 0), none⟩, ⟨some 5, .bin .neq (.tmp 3) (.tmp 4), none⟩, ⟨some 2, .mv (.tmp 5), none⟩]) .ret)⟩
theorem k_cisNaN : cFn Try.prog Try.f120 = some c_cisNaN := by kernel_rfl
def c_bsearch : MFunc := ⟨54, [.tmp 4, .tmp 5], .seq (.region [⟨some 4, .mv (.c (.one (.t (.int .i64 0)))), none⟩, ⟨some 5, .mv (.c (.one (.t (.bool false)))), none⟩]) (.seq (.region [⟨some 10, .mv (.tmp 0), none⟩, ⟨some 11, .len (.tmp 10), none⟩, ⟨some 6, .mv (.tmp 11), none⟩]) (.seq (.region [⟨some 12, .mv (.tmp 6), none⟩, ⟨some 7, .mv (.c (.one (.t (.int .i64 0)))), none⟩, ⟨some 8, .mv (.tmp 12), none⟩]) (.seq (.block 0 (.loop (.seq (.seq (.region [⟨some 13, .mv (.tmp 7), none⟩, ⟨some 14, .mv (.tmp 8), none⟩, ⟨some 15, .bin .lss (.tmp 13) (.tmp 14), none⟩]) (.cond (.tmp 15) .skip (.exit 0))) (.block 1 (.seq (.region [⟨some 16, .mv (.tmp 7), none⟩, ⟨some 17, .mv (.tmp 8), none⟩, ⟨some 18, .bin .add (.tmp 16) (.tmp 17), none⟩, ⟨some 19, .conv .u64 (.tmp 18), none⟩, ⟨some 20, .bin .shr (.tmp 19) (.c (.one (.t (.int .u64 1)))), none⟩, ⟨some 21, .conv .i64 (.tmp 20), none⟩, ⟨some 9, .mv (.tmp 21), none⟩]) (.seq (.region [⟨some 22, .mv (.tmp 0), none⟩, ⟨some 23, .mv (.tmp 9), none⟩, ⟨some 24, .idxA 1 (.tmp 22) (.tmp 23), none⟩, ⟨some 25, .load false 1 (.tmp 24), none⟩, ⟨some 26, .mv (.tmp 1), none⟩, ⟨some 27, .call (.c (.one (.fn 86 []))) 325 [.tmp 25, .tmp 26], none⟩]) (.cond (.tmp 27) (.region [⟨some 28, .mv (.tmp 9), none⟩, ⟨some 29, .bin .add (.tmp 28) (.c (.one (.t (.int .i64 1)))), none⟩, ⟨some 7, .mv (.tmp 29), none⟩]) (.region [⟨some 30, .mv (.tmp 9), none⟩, ⟨some 8, .mv (.tmp 30), none⟩])))))))) (.seq (.region [⟨some 31, .mv (.tmp 7), none⟩, ⟨some 32, .mv (.tmp 7), none⟩, ⟨some 33, .mv (.tmp 6), none⟩, ⟨some 34, .bin .lss (.tmp 32) (.tmp 33), none⟩, ⟨some 35, .mv (.tmp 34), none⟩, ⟨some 36, .mv (.tmp 0), some (35, true)⟩, ⟨some 37, .mv (.tmp 7), some (35, true)⟩, ⟨some 38, .idxA 1 (.tmp 36) (.tmp 37), some (35, true)⟩, ⟨some 39, .load false 1 (.tmp 38), some (35, true)⟩, ⟨some 40, .mv (.tmp 1), some (35, true)⟩, ⟨some 41, .bin .eql (.tmp 39) (.tmp 40), some (35, true)⟩, ⟨some 42, .mv (.tmp 41), some (35, true)⟩, ⟨some 43, .mv (.tmp 0), some (42, false)⟩, ⟨some 44, .mv (.tmp 7), some (42, false)⟩, ⟨some 45, .idxA 1 (.tmp 43) (.tmp 44), some (42, false)⟩, ⟨some 46, .load false 1 (.tmp 45), some (42, false)⟩, ⟨some 47, .call (.c (.one (.fn 87 []))) 528 [.tmp 46], some (42, false)⟩, ⟨some 48, .mv (.tmp 47), some (42, false)⟩, ⟨some 49, .mv (.tmp 1), some (48, true)⟩, ⟨some 50, .call (.c (.one (.fn 87 []))) 531 [.tmp 49], some (48, true)⟩, ⟨some 51, .pick (.tmp 48) (.tmp 50) (.c (.one (.t (.bool false)))), some (42, false)⟩, ⟨some 52, .pick (.tmp 42) (.c (.one (.t (.bool true)))) (.tmp 51), some (35, true)⟩, ⟨some 53, .pick (.tmp 35) (.tmp 52) (.c (.one (.t (.bool false)))), none⟩, ⟨some 4, .mv (.tmp 31), none⟩, ⟨some 5, .mv (.tmp 53), none⟩]) .ret))))⟩
theorem k_bsearch : cFn Try.prog Try.f64 = some c_bsearch := by kernel_rfl
theorem isNaN_ok (x : Int) : CallOK Try.prog 87 [(false, [.int .i64 x])] (.sv (false, [.bool false])) := by
  refine callOK_W (callS_W (by kernel_rfl) Try.func87 k_isNaN (callable_of Try.func87 (by kernel_rfl)) (by simp [c_isNaN]) ?_)
  simp [c_isNaN, rn0, rn1, rn2, rn3, rn4, rn5, rn6, rn7, evOp, Arg.ev, St.val, St.set, St.new, sliceOf, binInt2, binInt, AV.cells, rdAt, St.live, retOf, resOf, resAll, treeOf, treeCell, treeCells, treeTups, untree, frameOf, TV.av, TR.av, ints, edgs, prs, fillV, splice, intsOf, trees, V1.tree, bx, Gr.v, Pa.v]
theorem cisNaN_ok (x : Int) : CallOK Try.prog 120 [(false, [.int .i64 x])] (.sv (false, [.bool false])) := by
  refine callOK_W (callS_W (by kernel_rfl) Try.func120 k_cisNaN (callable_of Try.func120 (by kernel_rfl)) (by simp [c_cisNaN]) ?_)
  simp [c_cisNaN, rn0, rn1, rn2, rn3, rn4, rn5, rn6, rn7, evOp, Arg.ev, St.val, St.set, St.new, sliceOf, binInt2, binInt, AV.cells, rdAt, St.live, retOf, resOf, resAll, treeOf, treeCell, treeCells, treeTups, untree, frameOf, TV.av, TR.av, ints, edgs, prs, fillV, splice, intsOf, trees, V1.tree, bx, Gr.v, Pa.v]
theorem less_ok (x y : Int) : CallOK Try.prog 86 [(false, [.int .i64 x]), (false, [.int .i64 y])] (.sv (false, [.bool (decide (x < y))])) := by
  refine callOK_W (callS_W (by kernel_rfl) Try.func86 k_less (callable_of Try.func86 (by kernel_rfl)) (by simp [c_less]) ?_)
  simp [c_less, rn0, rn1, rn2, rn3, rn4, rn5, rn6, rn7, evOp, Arg.ev, St.val, St.set, St.new, sliceOf, binInt2, binInt, AV.cells, rdAt, St.live, retOf, resOf, resAll, treeOf, treeCell, treeCells, treeTups, untree, frameOf, TV.av, TR.av, ints, edgs, prs, fillV, splice, intsOf, trees, V1.tree, bx, Gr.v, Pa.v]
  refine callS_tree (cisNaN_ok x) ?_ ?_ ?_
  · rfl
  · rfl
  simp [rn0, rn1, rn2, rn3, rn4, rn5, rn6, rn7, evOp, Arg.ev, St.val, St.set, St.new, sliceOf, binInt2, binInt, AV.cells, rdAt, St.live, retOf, resOf, resAll, treeOf, treeCell, treeCells, treeTups, untree, frameOf, TV.av, TR.av, ints, edgs, prs, fillV, splice, intsOf, trees, V1.tree, bx, Gr.v, Pa.v]

theorem bsearch_ok (l : List Int) (x : Int) (hl : l.length ≤ 1000000) (ha : Asc l) : CallOK Try.prog 64 [(false, [ints l]), (false, [.int .i64 x])] (.tup [(false, [.int .i64 (bs l x)]), (false, [.bool (decide (x ∈ l))])]) := by
  refine callOK_W (callS_W (by kernel_rfl) Try.func64 k_bsearch (callable_of Try.func64 (by kernel_rfl)) (by simp [c_bsearch]) ?_)
  simp [c_bsearch, rn0, rn1, rn2, rn3, rn4, rn5, rn6, rn7, evOp, Arg.ev, St.val, St.set, St.new, sliceOf, binInt2, binInt, AV.cells, rdAt, St.live, retOf, resOf, resAll, treeOf, treeCell, treeCells, treeTups, untree, frameOf, TV.av, TR.av, ints, edgs, prs, fillV, splice, intsOf, trees, V1.tree, bx, Gr.v, Pa.v]
  refine loopW_intro (fun S => ∃ i j : Nat, i ≤ j ∧ j ≤ l.length ∧ S.fr 0 = .one (.t (ints l)) ∧ S.fr 1 = .one (.t (.int .i64 x)) ∧ S.fr 6 = .one (.t (.int .i64 l.length)) ∧ S.fr 7 = .one (.t (.int .i64 i)) ∧ S.fr 8 = .one (.t (.int .i64 j)) ∧ S.ob = noOb ∧
      (∀ k, k < i → nth l k < x) ∧ ∀ k, j ≤ k → k < l.length → x ≤ nth l k)
    (fun S => match S.fr 7, S.fr 8 with | .one (.t (.int _ i)), .one (.t (.int _ j)) => (j - i).toNat | _, _ => 0) ?_ ?_
  · exact ⟨0, l.length, by omega, by omega, by simp [rn0, rn1, rn2, rn3, rn4, rn5, rn6, rn7, evOp, Arg.ev, St.val, St.set, St.new, sliceOf, binInt2, binInt, AV.cells, rdAt, St.live, retOf, resOf, resAll, treeOf, treeCell, treeCells, treeTups, untree, frameOf, TV.av, TR.av, ints, edgs, prs, fillV, splice, intsOf, trees, V1.tree, bx, Gr.v, Pa.v], by simp [rn0, rn1, rn2, rn3, rn4, rn5, rn6, rn7, evOp, Arg.ev, St.val, St.set, St.new, sliceOf, binInt2, binInt, AV.cells, rdAt, St.live, retOf, resOf, resAll, treeOf, treeCell, treeCells, treeTups, untree, frameOf, TV.av, TR.av, ints, edgs, prs, fillV, splice, intsOf, trees, V1.tree, bx, Gr.v, Pa.v], by simp [rn0, rn1, rn2, rn3, rn4, rn5, rn6, rn7, evOp, Arg.ev, St.val, St.set, St.new, sliceOf, binInt2, binInt, AV.cells, rdAt, St.live, retOf, resOf, resAll, treeOf, treeCell, treeCells, treeTups, untree, frameOf, TV.av, TR.av, ints, edgs, prs, fillV, splice, intsOf, trees, V1.tree, bx, Gr.v, Pa.v], by simp [rn0, rn1, rn2, rn3, rn4, rn5, rn6, rn7, evOp, Arg.ev, St.val, St.set, St.new, sliceOf, binInt2, binInt, AV.cells, rdAt, St.live, retOf, resOf, resAll, treeOf, treeCell, treeCells, treeTups, untree, frameOf, TV.av, TR.av, ints, edgs, prs, fillV, splice, intsOf, trees, V1.tree, bx, Gr.v, Pa.v], by simp [rn0, rn1, rn2, rn3, rn4, rn5, rn6, rn7, evOp, Arg.ev, St.val, St.set, St.new, sliceOf, binInt2, binInt, AV.cells, rdAt, St.live, retOf, resOf, resAll, treeOf, treeCell, treeCells, treeTups, untree, frameOf, TV.av, TR.av, ints, edgs, prs, fillV, splice, intsOf, trees, V1.tree, bx, Gr.v, Pa.v], by simp [rn0, rn1, rn2, rn3, rn4, rn5, rn6, rn7, evOp, Arg.ev, St.val, St.set, St.new, sliceOf, binInt2, binInt, AV.cells, rdAt, St.live, retOf, resOf, resAll, treeOf, treeCell, treeCells, treeTups, untree, frameOf, TV.av, TR.av, ints, edgs, prs, fillV, splice, intsOf, trees, V1.tree, bx, Gr.v, Pa.v], fun k hk => by omega, fun k h1 h2 => by omega⟩
  · rintro S ⟨i, j, hij, hj, h0, h1, h6, h7, h8, hob, hp, hq⟩
    by_cases hlt : i < j
    · obtain ⟨h, hh⟩ : ∃ h : Nat, h = (i + j) / 2 := ⟨_, rfl⟩
      have hh1 : i ≤ h := by omega
      have hh2 : h < j := by omega
      have hh3 : h < l.length := by omega
      have w1 : IntKind.i64.wrap ((i : Int) + j) = (i : Int) + j := by rw [wrap64_id] <;> omega
      have w2 : IntKind.u64.wrap ((i : Int) + j) = (i : Int) + j := by
        simp [IntKind.wrap, IntKind.bits, IntKind.signed]
        omega
      have w3 : ((i : Int) + j).fdiv 2 = h := by
        rw [Int.fdiv_eq_ediv_of_nonneg _ (by omega)]
        omega
      have w4 : IntKind.i64.wrap (h : Int) = h := by rw [wrap64_id] <;> omega
      have w5 : IntKind.i64.wrap ((h : Int) + 1) = ((h + 1 : Nat) : Int) := by rw [wrap64_id] <;> omega
      simp [rn0, rn1, rn2, rn3, rn4, rn5, rn6, rn7, evOp, Arg.ev, St.val, St.set, St.new, sliceOf, binInt2, binInt, AV.cells, rdAt, St.live, retOf, resOf, resAll, treeOf, treeCell, treeCells, treeTups, untree, frameOf, TV.av, TR.av, ints, edgs, prs, fillV, splice, intsOf, trees, V1.tree, bx, Gr.v, Pa.v, h0, h1, h6, h7, h8, hob, hlt, w1, w2, w3, w4, IntKind.bits, hh3, drop_nth hh3]
      refine callS_tree (less_ok (nth l h) x) ?_ ?_ ?_
      · rfl
      · rfl
      have mono : ∀ k, k < l.length → (k ≤ h → nth l k ≤ nth l h) ∧ (h ≤ k → nth l h ≤ nth l k) := fun k hk => ⟨fun e => by
        rcases Nat.lt_or_eq_of_le e with e | rfl
        · exact Int.le_of_lt (ha k h e hh3)
        · exact Int.le_refl _, fun e => by
        rcases Nat.lt_or_eq_of_le e with e | rfl
        · exact Int.le_of_lt (ha h k e hk)
        · exact Int.le_refl _⟩
      by_cases e : nth l h < x
      · simp [rn0, rn1, rn2, rn3, rn4, rn5, rn6, rn7, evOp, Arg.ev, St.val, St.set, St.new, sliceOf, binInt2, binInt, AV.cells, rdAt, St.live, retOf, resOf, resAll, treeOf, treeCell, treeCells, treeTups, untree, frameOf, TV.av, TR.av, ints, edgs, prs, fillV, splice, intsOf, trees, V1.tree, bx, Gr.v, Pa.v, h0, h1, h6, h7, h8, hob, hlt, e, w5]
        refine ⟨⟨h + 1, j, by omega, hj, by simp, rfl, fun k hk => ?_, hq⟩, by omega⟩
        have := (mono k (by omega)).1 (by omega)
        omega
      · simp [rn0, rn1, rn2, rn3, rn4, rn5, rn6, rn7, evOp, Arg.ev, St.val, St.set, St.new, sliceOf, binInt2, binInt, AV.cells, rdAt, St.live, retOf, resOf, resAll, treeOf, treeCell, treeCells, treeTups, untree, frameOf, TV.av, TR.av, ints, edgs, prs, fillV, splice, intsOf, trees, V1.tree, bx, Gr.v, Pa.v, h0, h1, h6, h7, h8, hob, hlt, e]
        refine ⟨⟨i, h, hh1, by omega, rfl, rfl, hp, fun k h1 h2 => ?_⟩, by omega⟩
        have := (mono k h2).2 h1
        omega
    · have : i = j := by omega
      subst this
      have hc : bs l x = i := by rw [bs, count_at hj hp hq]
      have hm := asc_mem hp hq ha
      by_cases e1 : i < l.length
      · by_cases e2 : nth l i = x
        · have : x ∈ l := hm.2 ⟨e1, e2⟩
          simp [rn0, rn1, rn2, rn3, rn4, rn5, rn6, rn7, evOp, Arg.ev, St.val, St.set, St.new, sliceOf, binInt2, binInt, AV.cells, rdAt, St.live, retOf, resOf, resAll, treeOf, treeCell, treeCells, treeTups, untree, frameOf, TV.av, TR.av, ints, edgs, prs, fillV, splice, intsOf, trees, V1.tree, bx, Gr.v, Pa.v, h0, h1, h6, h7, h8, hob, e1, e2, drop_nth e1, hc, this]
        · have : x ∉ l := fun h => e2 (hm.1 h).2
          simp [rn0, rn1, rn2, rn3, rn4, rn5, rn6, rn7, evOp, Arg.ev, St.val, St.set, St.new, sliceOf, binInt2, binInt, AV.cells, rdAt, St.live, retOf, resOf, resAll, treeOf, treeCell, treeCells, treeTups, untree, frameOf, TV.av, TR.av, ints, edgs, prs, fillV, splice, intsOf, trees, V1.tree, bx, Gr.v, Pa.v, h0, h1, h6, h7, h8, hob, e1, e2, drop_nth e1, hc, this]
          refine callS_tree (isNaN_ok (nth l i)) ?_ ?_ ?_
          · rfl
          · rfl
          simp [rn0, rn1, rn2, rn3, rn4, rn5, rn6, rn7, evOp, Arg.ev, St.val, St.set, St.new, sliceOf, binInt2, binInt, AV.cells, rdAt, St.live, retOf, resOf, resAll, treeOf, treeCell, treeCells, treeTups, untree, frameOf, TV.av, TR.av, ints, edgs, prs, fillV, splice, intsOf, trees, V1.tree, bx, Gr.v, Pa.v, h0, h1, h6, h7, h8, hob, e1, e2, drop_nth e1, hc, this]
      · have : x ∉ l := fun h => e1 (hm.1 h).1
        simp [rn0, rn1, rn2, rn3, rn4, rn5, rn6, rn7, evOp, Arg.ev, St.val, St.set, St.new, sliceOf, binInt2, binInt, AV.cells, rdAt, St.live, retOf, resOf, resAll, treeOf, treeCell, treeCells, treeTups, untree, frameOf, TV.av, TR.av, ints, edgs, prs, fillV, splice, intsOf, trees, V1.tree, bx, Gr.v, Pa.v, h0, h1, h6, h7, h8, hob, e1, hc, this]
end Go.Proofs.Ythapbbpdcjmmfaa
