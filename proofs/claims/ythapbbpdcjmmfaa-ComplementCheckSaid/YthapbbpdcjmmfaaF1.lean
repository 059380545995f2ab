/-
  Contracts of small functions over lists. No condition beyond those that each statement names.
-/
import Derived.Test.YthapbbpdcjmmfaaAbsJ
import Derived.Test.YthapbbpdcjmmfaaProg
namespace Go.Proofs.Ythapbbpdcjmmfaa
open Abs
set_option linter.unusedSimpArgs false
set_option linter.unusedVariables false

/-- How long a list may be. -/
abbrev small (n : Nat) : Prop := n ≤ 9000000000000000000

def idx (l : List Int) (n : Int) : Int := if n ∈ l then (l.idxOf n : Nat) else -1

theorem idx_at {l : List Int} {n : Int} {k : Nat} (hk : k < l.length) (hn : n ∉ l.take k) (he : nth l k = n) : idx l n = k := by
  have hm : n ∈ l := he ▸ nth_mem hk
  simp only [idx, if_pos hm]
  rw [nth_eq hk] at he
  have h : l.idxOf n = k := by
    have e : l = l.take k ++ l[k] :: l.drop (k + 1) := by simp
    rw [e, List.idxOf_append, if_neg hn, he]
    simp [List.length_take]
    omega
  rw [h]

theorem take_nth {l : List Int} {k : Nat} {n : Int} (h : k < l.length) (hn : n ∉ l.take k) (hk : nth l k ≠ n) : n ∉ l.take (k + 1) := take_mem h hn (by rw [nth_eq h] at hk; exact hk)

def c_index : MFunc := ⟨19, [.tmp 4], .seq (.region [⟨some 4, .mv (.c (.one (.t (.int .i64 0)))), none⟩]) (.seq (.seq (.region [⟨some 6, .mv (.tmp 0), none⟩, ⟨some 7, .len (.tmp 6), none⟩, ⟨some 8, .mv (.c (.one (.t (.int .i64 0)))), none⟩]) (.block 0 (.loop (.seq (.region [⟨some 9, .bin .lss (.tmp 8) (.tmp 7), none⟩]) (.seq (.cond (.tmp 9) .skip (.exit 0)) (.seq (.block 1 (.seq (.region [⟨some 10, .mv (.tmp 8), none⟩, ⟨some 5, .mv (.tmp 10), none⟩]) (.seq (.region [⟨some 11, .mv (.tmp 1), none⟩, ⟨some 12, .mv (.tmp 0), none⟩, ⟨some 13, .mv (.tmp 5), none⟩, ⟨some 14, .idxA 1 (.tmp 12) (.tmp 13), none⟩, ⟨some 15, .load false 1 (.tmp 14), none⟩, ⟨some 16, .bin .eql (.tmp 11) (.tmp 15), none⟩]) (.cond (.tmp 16) (.seq (.region [⟨some 17, .mv (.tmp 5), none⟩, ⟨some 4, .mv (.tmp 17), none⟩]) .ret) .skip)))) (.region [⟨some 18, .bin .add (.tmp 8) (.c (.one (.t (.int .i64 1)))), none⟩, ⟨some 8, .mv (.tmp 18), none⟩]))))))) (.seq (.region [⟨some 4, .mv (.c (.one (.t (.int .i64 (-1))))), none⟩]) .ret))⟩
theorem k_index : cFn Try.prog Try.f37 = some c_index := by kernel_rfl
theorem index_ok (l : List Int) (n : Int) (hl : small l.length) : CallOK Try.prog 37 [(false, [ints l]), (false, [.int .i64 n])] (.sv (false, [.int .i64 (idx l n)])) := by
  refine callOK_W (callS_W (by kernel_rfl) Try.func37 k_index (callable_of Try.func37 (by kernel_rfl)) (by simp [c_index]) ?_)
  simp [c_index, rn0, rn1, rn2, rn3, rn4, rn5, rn6, rn7, evOp, Arg.ev, St.val, St.set, St.new, sliceOf, binInt2, binInt, AV.cells, rdAt, St.live, retOf, resOf, resAll, treeOf, treeCell, treeCells, treeTups, untree, frameOf, TV.av, TR.av, ints, edgs, prs, fillV, splice, intsOf, trees, V1.tree, bx, Gr.v, Pa.v]
  refine loopW_count 8 l.length (fun k S => S.fr 0 = .one (.t (ints l)) ∧ S.fr 1 = .one (.t (.int .i64 n)) ∧ S.fr 7 = .one (.t (.int .i64 l.length)) ∧ S.ob = noOb ∧ S.cnt = noCnt ∧ n ∉ l.take k) hl ?_ ?_ ?_
  · simp [rn0, rn1, rn2, rn3, rn4, rn5, rn6, rn7, evOp, Arg.ev, St.val, St.set, St.new, sliceOf, binInt2, binInt, AV.cells, rdAt, St.live, retOf, resOf, resAll, treeOf, treeCell, treeCells, treeTups, untree, frameOf, TV.av, TR.av, ints, edgs, prs, fillV, splice, intsOf, trees, V1.tree, bx, Gr.v, Pa.v]
  · rintro k S hlt hw hc ⟨h0, h1, h7, hob, hcnt, hp⟩
    by_cases he : n = nth l k
    · simp [rn0, rn1, rn2, rn3, rn4, rn5, rn6, rn7, evOp, Arg.ev, St.val, St.set, St.new, sliceOf, binInt2, binInt, AV.cells, rdAt, St.live, retOf, resOf, resAll, treeOf, treeCell, treeCells, treeTups, untree, frameOf, TV.av, TR.av, ints, edgs, prs, fillV, splice, intsOf, trees, V1.tree, bx, Gr.v, Pa.v, h0, h1, h7, hc, hlt, drop_nth hlt, ← he, idx_at hlt hp he.symm]
    · simp [rn0, rn1, rn2, rn3, rn4, rn5, rn6, rn7, evOp, Arg.ev, St.val, St.set, St.new, sliceOf, binInt2, binInt, AV.cells, rdAt, St.live, retOf, resOf, resAll, treeOf, treeCell, treeCells, treeTups, untree, frameOf, TV.av, TR.av, ints, edgs, prs, fillV, splice, intsOf, trees, V1.tree, bx, Gr.v, Pa.v, h0, h1, h7, hc, hlt, drop_nth hlt, he, hw, hob, hcnt]
      exact take_nth hlt hp (fun e => he e.symm)
  · rintro S hc ⟨h0, h1, h7, hob, hcnt, hp⟩
    simp [rn0, rn1, rn2, rn3, rn4, rn5, rn6, rn7, evOp, Arg.ev, St.val, St.set, St.new, sliceOf, binInt2, binInt, AV.cells, rdAt, St.live, retOf, resOf, resAll, treeOf, treeCell, treeCells, treeTups, untree, frameOf, TV.av, TR.av, ints, edgs, prs, fillV, splice, intsOf, trees, V1.tree, bx, Gr.v, Pa.v, h0, h1, h7, hc]
    simpa [idx] using hp

def c_contains : MFunc := ⟨9, [.tmp 4], .seq (.region [⟨some 4, .mv (.c (.one (.t (.bool false)))), none⟩]) (.seq (.region [⟨some 5, .mv (.tmp 0), none⟩, ⟨some 6, .mv (.tmp 1), none⟩, ⟨some 7, .call (.c (.one (.fn 37 []))) 66 [.tmp 5, .tmp 6], none⟩, ⟨some 8, .bin .geq (.tmp 7) (.c (.one (.t (.int .i64 0)))), none⟩, ⟨some 4, .mv (.tmp 8), none⟩]) .ret)⟩
theorem k_contains : cFn Try.prog Try.f33 = some c_contains := by kernel_rfl
theorem contains_ok (l : List Int) (n : Int) (hl : small l.length) : CallOK Try.prog 33 [(false, [ints l]), (false, [.int .i64 n])] (.sv (false, [.bool (decide (n ∈ l))])) := by
  refine callOK_W (callS_W (by kernel_rfl) Try.func33 k_contains (callable_of Try.func33 (by kernel_rfl)) (by simp [c_contains]) ?_)
  simp [c_contains, rn0, rn1, rn2, rn3, rn4, rn5, rn6, rn7, evOp, Arg.ev, St.val, St.set, St.new, sliceOf, binInt2, binInt, AV.cells, rdAt, St.live, retOf, resOf, resAll, treeOf, treeCell, treeCells, treeTups, untree, frameOf, TV.av, TR.av, ints, edgs, prs, fillV, splice, intsOf, trees, V1.tree, bx, Gr.v, Pa.v]
  refine callS_tree (index_ok l n hl) ?_ ?_ ?_
  · rfl
  · rfl
  by_cases h : n ∈ l <;> simp [rn0, rn1, rn2, rn3, rn4, rn5, rn6, rn7, evOp, Arg.ev, St.val, St.set, St.new, sliceOf, binInt2, binInt, AV.cells, rdAt, St.live, retOf, resOf, resAll, treeOf, treeCell, treeCells, treeTups, untree, frameOf, TV.av, TR.av, ints, edgs, prs, fillV, splice, intsOf, trees, V1.tree, bx, Gr.v, Pa.v, idx, h]

def c_has12 : MFunc := ⟨18, [.tmp 4], .seq (.region [⟨some 4, .mv (.c (.one (.t (.bool false)))), none⟩]) (.seq (.seq (.region [⟨some 5, .mv (.c (.one (.t (.int .i64 0)))), none⟩]) (.block 0 (.loop (.seq (.seq (.region [⟨some 6, .mv (.tmp 5), none⟩, ⟨some 7, .mv (.tmp 0), none⟩, ⟨some 8, .len (.tmp 7), none⟩, ⟨some 9, .bin .lss (.tmp 6) (.tmp 8), none⟩]) (.cond (.tmp 9) .skip (.exit 0))) (.seq (.block 1 (.seq (.region [⟨some 12, .mv (.tmp 0), none⟩, ⟨some 13, .mv (.tmp 5), none⟩, ⟨some 14, .idxA 1 (.tmp 12) (.tmp 13), none⟩, ⟨some 15, .load false 1 (.tmp 14), none⟩, ⟨some 16, .mv (.tmp 1), none⟩, ⟨some 17, .bin .eql (.tmp 15) (.tmp 16), none⟩]) (.cond (.tmp 17) (.seq (.region [⟨some 4, .mv (.c (.one (.t (.bool true)))), none⟩]) .ret) .skip))) (.region [⟨some 10, .mv (.tmp 5), none⟩, ⟨some 11, .bin .add (.tmp 10) (.c (.one (.t (.int .i64 1)))), none⟩, ⟨some 5, .mv (.tmp 11), none⟩])))))) (.seq (.region [⟨some 4, .mv (.c (.one (.t (.bool false)))), none⟩]) .ret))⟩
theorem k_has12 : cFn Try.prog Try.f74 = some c_has12 := by kernel_rfl
theorem has12_ok (l : List Int) (n : Int) (hl : small l.length) : CallOK Try.prog 74 [(false, [ints l]), (false, [.int .i64 n])] (.sv (false, [.bool (decide (n ∈ l))])) := by
  refine callOK_W (callS_W (by kernel_rfl) Try.func74 k_has12 (callable_of Try.func74 (by kernel_rfl)) (by simp [c_has12]) ?_)
  simp [c_has12, rn0, rn1, rn2, rn3, rn4, rn5, rn6, rn7, evOp, Arg.ev, St.val, St.set, St.new, sliceOf, binInt2, binInt, AV.cells, rdAt, St.live, retOf, resOf, resAll, treeOf, treeCell, treeCells, treeTups, untree, frameOf, TV.av, TR.av, ints, edgs, prs, fillV, splice, intsOf, trees, V1.tree, bx, Gr.v, Pa.v]
  refine loopW_count 5 l.length (fun k S => S.fr 0 = .one (.t (ints l)) ∧ S.fr 1 = .one (.t (.int .i64 n)) ∧ S.ob = noOb ∧ S.cnt = noCnt ∧ n ∉ l.take k) hl ?_ ?_ ?_
  · simp [rn0, rn1, rn2, rn3, rn4, rn5, rn6, rn7, evOp, Arg.ev, St.val, St.set, St.new, sliceOf, binInt2, binInt, AV.cells, rdAt, St.live, retOf, resOf, resAll, treeOf, treeCell, treeCells, treeTups, untree, frameOf, TV.av, TR.av, ints, edgs, prs, fillV, splice, intsOf, trees, V1.tree, bx, Gr.v, Pa.v]
  · rintro k S hlt hw hc ⟨h0, h1, hob, hcnt, hp⟩
    by_cases he : nth l k = n
    · simp [rn0, rn1, rn2, rn3, rn4, rn5, rn6, rn7, evOp, Arg.ev, St.val, St.set, St.new, sliceOf, binInt2, binInt, AV.cells, rdAt, St.live, retOf, resOf, resAll, treeOf, treeCell, treeCells, treeTups, untree, frameOf, TV.av, TR.av, ints, edgs, prs, fillV, splice, intsOf, trees, V1.tree, bx, Gr.v, Pa.v, h0, h1, hc, hlt, drop_nth hlt, he, show n ∈ l from he ▸ nth_mem hlt]
    · simp [rn0, rn1, rn2, rn3, rn4, rn5, rn6, rn7, evOp, Arg.ev, St.val, St.set, St.new, sliceOf, binInt2, binInt, AV.cells, rdAt, St.live, retOf, resOf, resAll, treeOf, treeCell, treeCells, treeTups, untree, frameOf, TV.av, TR.av, ints, edgs, prs, fillV, splice, intsOf, trees, V1.tree, bx, Gr.v, Pa.v, h0, h1, hc, hlt, drop_nth hlt, he, hw, hob, hcnt]
      exact take_nth hlt hp he
  · rintro S hc ⟨h0, h1, hob, hcnt, hp⟩
    simp [rn0, rn1, rn2, rn3, rn4, rn5, rn6, rn7, evOp, Arg.ev, St.val, St.set, St.new, sliceOf, binInt2, binInt, AV.cells, rdAt, St.live, retOf, resOf, resAll, treeOf, treeCell, treeCells, treeTups, untree, frameOf, TV.av, TR.av, ints, edgs, prs, fillV, splice, intsOf, trees, V1.tree, bx, Gr.v, Pa.v, h0, h1, hc]
    simpa using hp

def c_has07 : MFunc := ⟨18, [.tmp 4], .seq (.region [⟨some 4, .mv (.c (.one (.t (.bool false)))), none⟩]) (.seq (.seq (.region [⟨some 5, .mv (.c (.one (.t (.int .i64 0)))), none⟩]) (.block 0 (.loop (.seq (.seq (.region [⟨some 6, .mv (.tmp 5), none⟩, ⟨some 7, .mv (.tmp 0), none⟩, ⟨some 8, .len (.tmp 7), none⟩, ⟨some 9, .bin .lss (.tmp 6) (.tmp 8), none⟩]) (.cond (.tmp 9) .skip (.exit 0))) (.seq (.block 1 (.seq (.region [⟨some 12, .mv (.tmp 0), none⟩, ⟨some 13, .mv (.tmp 5), none⟩, ⟨some 14, .idxA 1 (.tmp 12) (.tmp 13), none⟩, ⟨some 15, .load false 1 (.tmp 14), none⟩, ⟨some 16, .mv (.tmp 1), none⟩, ⟨some 17, .bin .eql (.tmp 15) (.tmp 16), none⟩]) (.cond (.tmp 17) (.seq (.region [⟨some 4, .mv (.c (.one (.t (.bool true)))), none⟩]) .ret) .skip))) (.region [⟨some 10, .mv (.tmp 5), none⟩, ⟨some 11, .bin .add (.tmp 10) (.c (.one (.t (.int .i64 1)))), none⟩, ⟨some 5, .mv (.tmp 11), none⟩])))))) (.seq (.region [⟨some 4, .mv (.c (.one (.t (.bool false)))), none⟩]) .ret))⟩
theorem k_has07 : cFn Try.prog Try.f84 = some c_has07 := by kernel_rfl
theorem has07_ok (l : List Int) (n : Int) (hl : small l.length) : CallOK Try.prog 84 [(false, [ints l]), (false, [.int .i64 n])] (.sv (false, [.bool (decide (n ∈ l))])) := by
  refine callOK_W (callS_W (by kernel_rfl) Try.func84 k_has07 (callable_of Try.func84 (by kernel_rfl)) (by simp [c_has07]) ?_)
  simp [c_has07, rn0, rn1, rn2, rn3, rn4, rn5, rn6, rn7, evOp, Arg.ev, St.val, St.set, St.new, sliceOf, binInt2, binInt, AV.cells, rdAt, St.live, retOf, resOf, resAll, treeOf, treeCell, treeCells, treeTups, untree, frameOf, TV.av, TR.av, ints, edgs, prs, fillV, splice, intsOf, trees, V1.tree, bx, Gr.v, Pa.v]
  refine loopW_count 5 l.length (fun k S => S.fr 0 = .one (.t (ints l)) ∧ S.fr 1 = .one (.t (.int .i64 n)) ∧ S.ob = noOb ∧ S.cnt = noCnt ∧ n ∉ l.take k) hl ?_ ?_ ?_
  · simp [rn0, rn1, rn2, rn3, rn4, rn5, rn6, rn7, evOp, Arg.ev, St.val, St.set, St.new, sliceOf, binInt2, binInt, AV.cells, rdAt, St.live, retOf, resOf, resAll, treeOf, treeCell, treeCells, treeTups, untree, frameOf, TV.av, TR.av, ints, edgs, prs, fillV, splice, intsOf, trees, V1.tree, bx, Gr.v, Pa.v]
  · rintro k S hlt hw hc ⟨h0, h1, hob, hcnt, hp⟩
    by_cases he : nth l k = n
    · simp [rn0, rn1, rn2, rn3, rn4, rn5, rn6, rn7, evOp, Arg.ev, St.val, St.set, St.new, sliceOf, binInt2, binInt, AV.cells, rdAt, St.live, retOf, resOf, resAll, treeOf, treeCell, treeCells, treeTups, untree, frameOf, TV.av, TR.av, ints, edgs, prs, fillV, splice, intsOf, trees, V1.tree, bx, Gr.v, Pa.v, h0, h1, hc, hlt, drop_nth hlt, he, show n ∈ l from he ▸ nth_mem hlt]
    · simp [rn0, rn1, rn2, rn3, rn4, rn5, rn6, rn7, evOp, Arg.ev, St.val, St.set, St.new, sliceOf, binInt2, binInt, AV.cells, rdAt, St.live, retOf, resOf, resAll, treeOf, treeCell, treeCells, treeTups, untree, frameOf, TV.av, TR.av, ints, edgs, prs, fillV, splice, intsOf, trees, V1.tree, bx, Gr.v, Pa.v, h0, h1, hc, hlt, drop_nth hlt, he, hw, hob, hcnt]
      exact take_nth hlt hp he
  · rintro S hc ⟨h0, h1, hob, hcnt, hp⟩
    simp [rn0, rn1, rn2, rn3, rn4, rn5, rn6, rn7, evOp, Arg.ev, St.val, St.set, St.new, sliceOf, binInt2, binInt, AV.cells, rdAt, St.live, retOf, resOf, resAll, treeOf, treeCell, treeCells, treeTups, untree, frameOf, TV.av, TR.av, ints, edgs, prs, fillV, splice, intsOf, trees, V1.tree, bx, Gr.v, Pa.v, h0, h1, hc]
    simpa using hp

def within (n most : Int) : Bool := decide (0 ≤ n) && decide (n ≤ most)
def c_within : MFunc := ⟨12, [.tmp 4], .seq (.region [⟨some 4, .mv (.c (.one (.t (.bool false)))), none⟩]) (.seq (.region [⟨some 5, .mv (.tmp 0), none⟩, ⟨some 6, .bin .geq (.tmp 5) (.c (.one (.t (.int .i64 0)))), none⟩, ⟨some 7, .mv (.tmp 6), none⟩, ⟨some 8, .mv (.tmp 0), some (7, true)⟩, ⟨some 9, .mv (.tmp 1), some (7, true)⟩, ⟨some 10, .bin .leq (.tmp 8) (.tmp 9), some (7, true)⟩, ⟨some 11, .pick (.tmp 7) (.tmp 10) (.c (.one (.t (.bool false)))), none⟩, ⟨some 4, .mv (.tmp 11), none⟩]) .ret)⟩
theorem k_within : cFn Try.prog Try.f116 = some c_within := by kernel_rfl
theorem within_ok (n most : Int) : CallOK Try.prog 116 [(false, [.int .i64 n]), (false, [.int .i64 most])] (.sv (false, [.bool (within n most)])) := by
  refine callOK_W (callS_W (by kernel_rfl) Try.func116 k_within (callable_of Try.func116 (by kernel_rfl)) (by simp [c_within]) ?_)
  by_cases h : 0 ≤ n <;> simp [c_within, rn0, rn1, rn2, rn3, rn4, rn5, rn6, rn7, evOp, Arg.ev, St.val, St.set, St.new, sliceOf, binInt2, binInt, AV.cells, rdAt, St.live, retOf, resOf, resAll, treeOf, treeCell, treeCells, treeTups, untree, frameOf, TV.av, TR.av, ints, edgs, prs, fillV, splice, intsOf, trees, V1.tree, bx, Gr.v, Pa.v, within, h]

def c_kind : MFunc := ⟨9, [.tmp 2], .seq (.region [⟨some 2, .mv (.c (.one (.t (.bool false)))), none⟩]) (.seq (.region [⟨some 3, .mv (.tmp 0), none⟩, ⟨some 4, .bin .geq (.tmp 3) (.c (.one (.t (.int .i64 0)))), none⟩, ⟨some 5, .mv (.tmp 4), none⟩, ⟨some 6, .mv (.tmp 0), some (5, true)⟩, ⟨some 7, .bin .leq (.tmp 6) (.c (.one (.t (.int .i64 99)))), some (5, true)⟩, ⟨some 8, .pick (.tmp 5) (.tmp 7) (.c (.one (.t (.bool false)))), none⟩, ⟨some 2, .mv (.tmp 8), none⟩]) .ret)⟩
theorem k_kind : cFn Try.prog Try.f107 = some c_kind := by kernel_rfl
theorem kind_ok (n : Int) : CallOK Try.prog 107 [(false, [.int .i64 n])] (.sv (false, [.bool (within n 99)])) := by
  refine callOK_W (callS_W (by kernel_rfl) Try.func107 k_kind (callable_of Try.func107 (by kernel_rfl)) (by simp [c_kind]) ?_)
  by_cases h : 0 ≤ n <;> simp [c_kind, rn0, rn1, rn2, rn3, rn4, rn5, rn6, rn7, evOp, Arg.ev, St.val, St.set, St.new, sliceOf, binInt2, binInt, AV.cells, rdAt, St.live, retOf, resOf, resAll, treeOf, treeCell, treeCells, treeTups, untree, frameOf, TV.av, TR.av, ints, edgs, prs, fillV, splice, intsOf, trees, V1.tree, bx, Gr.v, Pa.v, within, h]
end Go.Proofs.Ythapbbpdcjmmfaa
