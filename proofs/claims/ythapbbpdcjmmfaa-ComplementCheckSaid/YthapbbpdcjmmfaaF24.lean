/-
  Contracts: checks of complements, lists of violations, and the laws of these. No condition beyond those that each statement names.
-/
import Derived.Test.YthapbbpdcjmmfaaF22
namespace Go.Proofs.Ythapbbpdcjmmfaa
open Abs
set_option linter.unusedSimpArgs false
set_option linter.unusedVariables false

def c_dang12X : MFunc := ⟨24, [.tmp 8, .tmp 9], .seq (.region [⟨some 4, .box 0 25 (.tmp 0), none⟩, ⟨some 5, .box 1 25 (.tmp 1), none⟩, ⟨some 6, .box 2 27 (.tmp 2), none⟩, ⟨some 7, .box 3 28 (.tmp 3), none⟩, ⟨some 8, .mv (.c (.one .nil)), none⟩, ⟨some 9, .mv (.c (.one (.t (.int .i64 0)))), none⟩]) (.seq (.seq (.region [⟨some 11, .load true 2 (.tmp 4), none⟩, ⟨some 12, .load true 2 (.tmp 5), none⟩, ⟨some 13, .load true 2 (.tmp 6), none⟩, ⟨some 14, .load true 2 (.tmp 7), none⟩, ⟨some 15, .call (.c (.one (.fn 46 []))) 68 [.tmp 11, .tmp 12, .tmp 13, .tmp 14], none⟩, ⟨some 10, .mv (.tmp 15), none⟩]) (.seq (.region [⟨some 16, .mv (.tmp 10), none⟩, ⟨some 17, .bin .neq (.tmp 16) (.c (.one (.t (.int .i64 0)))), none⟩]) (.cond (.tmp 17) (.seq (.region [⟨some 18, .mv (.tmp 10), none⟩, ⟨some 8, .mv (.c (.one .nil)), none⟩, ⟨some 9, .mv (.tmp 18), none⟩]) .ret) .skip))) (.seq (.region [⟨some 19, .load true 2 (.tmp 4), none⟩, ⟨some 20, .load true 2 (.tmp 5), none⟩, ⟨some 21, .load true 2 (.tmp 6), none⟩, ⟨some 22, .load true 2 (.tmp 7), none⟩, ⟨some 23, .call (.c (.one (.fn 48 []))) 260 [.tmp 19, .tmp 20, .tmp 21, .tmp 22], none⟩, ⟨some 8, .mv (.tmp 23), none⟩, ⟨some 9, .mv (.c (.one (.t (.int .i64 0)))), none⟩]) .ret))⟩
theorem k_dang12X : cFn Try.prog Try.f24 = some c_dang12X := by kernel_rfl
theorem dang12X_ok (l g : Gr) (p m : Pa) (h : TinyCase l g p m) : CallOK Try.prog 24 [l.v, g.v, p.v, m.v] (.tup [(false, [ints (danglR l g p m).1]), (false, [.int .i64 (danglR l g p m).2])]) := by
  refine callOK_W (callS_W (by kernel_rfl) Try.func24 k_dang12X (callable_of Try.func24 (by kernel_rfl)) (by simp [c_dang12X]) ?_)
  simp [c_dang12X, rn0, rn1, rn2, rn3, rn4, rn5, rn6, rn7, evOp, Arg.ev, St.val, St.set, St.new, sliceOf, binInt2, binInt, AV.cells, rdAt, St.live, retOf, resOf, resAll, treeOf, treeCell, treeCells, treeTups, untree, frameOf, TV.av, TR.av, ints, edgs, prs, fillV, splice, intsOf, trees, V1.tree, bx, Gr.v, Pa.v]
  refine callS_tree (given12_ok l g p m h) ?_ ?_ ?_
  · rfl
  · rfl
  by_cases h1 : caseErr l g p m = 0
  case neg =>
    have e : danglR l g p m = ([], caseErr l g p m) := by simp [danglR, h1]
    simp [rn0, rn1, rn2, rn3, rn4, rn5, rn6, rn7, evOp, Arg.ev, St.val, St.set, St.new, sliceOf, binInt2, binInt, AV.cells, rdAt, St.live, retOf, resOf, resAll, treeOf, treeCell, treeCells, treeTups, untree, frameOf, TV.av, TR.av, ints, edgs, prs, fillV, splice, intsOf, trees, V1.tree, bx, Gr.v, Pa.v, h1, e]
  have e : danglR l g p m = (danglL g p m, 0) := by simp [danglR, h1]
  simp [rn0, rn1, rn2, rn3, rn4, rn5, rn6, rn7, evOp, Arg.ev, St.val, St.set, St.new, sliceOf, binInt2, binInt, AV.cells, rdAt, St.live, retOf, resOf, resAll, treeOf, treeCell, treeCells, treeTups, untree, frameOf, TV.av, TR.av, ints, edgs, prs, fillV, splice, intsOf, trees, V1.tree, bx, Gr.v, Pa.v, h1, e]
  refine callS_tree (dangl12_row l g p m h.tg h.tm h.tp).ok ?_ ?_ ?_
  · rfl
  · rfl
  simp [rn0, rn1, rn2, rn3, rn4, rn5, rn6, rn7, evOp, Arg.ev, St.val, St.set, St.new, sliceOf, binInt2, binInt, AV.cells, rdAt, St.live, retOf, resOf, resAll, treeOf, treeCell, treeCells, treeTups, untree, frameOf, TV.av, TR.av, ints, edgs, prs, fillV, splice, intsOf, trees, V1.tree, bx, Gr.v, Pa.v, h1, e]

/-- The identified pairs, or an error. -/
def identR (l g : Gr) (p m : Pa) : List (Int × Int) × List (Int × Int) × Int := if caseErr l g p m = 0 then (pairsL m.nodes p.nodes, pairsL m.edges p.edges, 0) else ([], [], caseErr l g p m)
def identT (x : List (Int × Int) × List (Int × Int) × Int) : TR := .tup [(false, [prs x.1]), (false, [prs x.2.1]), (false, [.int .i64 x.2.2])]

theorem prs_nil : prs [] = .sl 0 [] := rfl

def c_identX : MFunc := ⟨32, [.tmp 8, .tmp 9, .tmp 10], .seq (.region [⟨some 4, .box 0 25 (.tmp 0), none⟩, ⟨some 5, .box 1 25 (.tmp 1), none⟩, ⟨some 6, .box 2 27 (.tmp 2), none⟩, ⟨some 7, .box 3 28 (.tmp 3), none⟩, ⟨some 8, .mv (.c (.one .nil)), none⟩, ⟨some 9, .mv (.c (.one .nil)), none⟩, ⟨some 10, .mv (.c (.one (.t (.int .i64 0)))), none⟩]) (.seq (.region [⟨some 15, .load true 2 (.tmp 4), none⟩, ⟨some 16, .load true 2 (.tmp 5), none⟩, ⟨some 17, .load true 2 (.tmp 6), none⟩, ⟨some 18, .load true 2 (.tmp 7), none⟩, ⟨some 19, .build [.nil, .nil, .nil, .nil, .nil, .nil, .nil, .nil] [(0, (2, .tmp 15)), (2, (2, .tmp 16)), (4, (2, .tmp 17)), (6, (2, .tmp 18))], none⟩, ⟨some 11, .alloc 69 77 [.nil, .nil, .nil, .nil, .nil, .nil, .nil, .nil], none⟩, ⟨none, .store 8 (.tmp 11) (.tmp 19), none⟩]) (.seq (.seq (.region [⟨some 20, .load true 8 (.tmp 11), none⟩, ⟨some 21, .call (.c (.one (.fn 41 []))) 129 [.tmp 20], none⟩, ⟨some 12, .mv (.tmp 21), none⟩]) (.seq (.region [⟨some 22, .mv (.tmp 12), none⟩, ⟨some 23, .bin .neq (.tmp 22) (.c (.one (.t (.int .i64 0)))), none⟩]) (.cond (.tmp 23) (.seq (.region [⟨some 24, .mv (.tmp 12), none⟩, ⟨some 8, .mv (.c (.one .nil)), none⟩, ⟨some 9, .mv (.c (.one .nil)), none⟩, ⟨some 10, .mv (.tmp 24), none⟩]) .ret) .skip))) (.seq (.region [⟨some 26, .load true 8 (.tmp 11), none⟩, ⟨some 27, .call (.c (.one (.fn 42 []))) 321 [.tmp 26], none⟩, ⟨some 25, .mv (.tmp 27), none⟩, ⟨some 28, .extract (.tmp 25) 0, none⟩, ⟨some 29, .extract (.tmp 25) 1, none⟩, ⟨some 13, .mv (.tmp 28), none⟩, ⟨some 14, .mv (.tmp 29), none⟩]) (.seq (.region [⟨some 30, .mv (.tmp 13), none⟩, ⟨some 31, .mv (.tmp 14), none⟩, ⟨some 8, .mv (.tmp 30), none⟩, ⟨some 9, .mv (.tmp 31), none⟩, ⟨some 10, .mv (.c (.one (.t (.int .i64 0)))), none⟩]) .ret))))⟩
theorem k_identX : cFn Try.prog Try.f25 = some c_identX := by kernel_rfl
theorem identX_ok (l g : Gr) (p m : Pa) (h : TinyCase l g p m) : CallOK Try.prog 25 [l.v, g.v, p.v, m.v] (identT (identR l g p m)) := by
  refine callOK_W (callS_W (by kernel_rfl) Try.func25 k_identX (callable_of Try.func25 (by kernel_rfl)) (by simp [c_identX]) ?_)
  simp [c_identX, rn0, rn1, rn2, rn3, rn4, rn5, rn6, rn7, evOp, Arg.ev, St.val, St.set, St.new, sliceOf, binInt2, binInt, AV.cells, rdAt, St.live, retOf, resOf, resAll, treeOf, treeCell, treeCells, treeTups, untree, frameOf, TV.av, TR.av, ints, edgs, prs, fillV, splice, intsOf, trees, V1.tree, bx, Gr.v, Pa.v]
  refine callS_tree (given_ok l g p m h) ?_ ?_ ?_
  · rfl
  · rfl
  by_cases h1 : caseErr l g p m = 0
  case neg =>
    have e : identR l g p m = ([], [], caseErr l g p m) := by simp [identR, h1]
    simp [rn0, rn1, rn2, rn3, rn4, rn5, rn6, rn7, evOp, Arg.ev, St.val, St.set, St.new, sliceOf, binInt2, binInt, AV.cells, rdAt, St.live, retOf, resOf, resAll, treeOf, treeCell, treeCells, treeTups, untree, frameOf, TV.av, TR.av, ints, edgs, prs, fillV, splice, intsOf, trees, V1.tree, bx, Gr.v, Pa.v, h1, e, identT, prL]
  obtain ⟨mo, so⟩ := caseErr_ok h1
  have b1 := mo.ga.n
  have b2 := mo.ga.e
  have b3 := mo.ln
  have b4 := mo.le
  have e : identR l g p m = (pairsL m.nodes p.nodes, pairsL m.edges p.edges, 0) := by simp [identR, h1]
  simp [rn0, rn1, rn2, rn3, rn4, rn5, rn6, rn7, evOp, Arg.ev, St.val, St.set, St.new, sliceOf, binInt2, binInt, AV.cells, rdAt, St.live, retOf, resOf, resAll, treeOf, treeCell, treeCells, treeTups, untree, frameOf, TV.av, TR.av, ints, edgs, prs, fillV, splice, intsOf, trees, V1.tree, bx, Gr.v, Pa.v, h1, e]
  refine callS_tree (identified_ok l g p m (by omega) (by omega) h.tp) ?_ ?_ ?_
  · rfl
  · rfl
  simp [rn0, rn1, rn2, rn3, rn4, rn5, rn6, rn7, evOp, Arg.ev, St.val, St.set, St.new, sliceOf, binInt2, binInt, AV.cells, rdAt, St.live, retOf, resOf, resAll, treeOf, treeCell, treeCells, treeTups, untree, frameOf, TV.av, TR.av, ints, edgs, prs, fillV, splice, intsOf, trees, V1.tree, bx, Gr.v, Pa.v, identT]

def c_ident12X : MFunc := ⟨30, [.tmp 8, .tmp 9, .tmp 10], .seq (.region [⟨some 4, .box 0 25 (.tmp 0), none⟩, ⟨some 5, .box 1 25 (.tmp 1), none⟩, ⟨some 6, .box 2 27 (.tmp 2), none⟩, ⟨some 7, .box 3 28 (.tmp 3), none⟩, ⟨some 8, .mv (.c (.one .nil)), none⟩, ⟨some 9, .mv (.c (.one .nil)), none⟩, ⟨some 10, .mv (.c (.one (.t (.int .i64 0)))), none⟩]) (.seq (.seq (.region [⟨some 12, .load true 2 (.tmp 4), none⟩, ⟨some 13, .load true 2 (.tmp 5), none⟩, ⟨some 14, .load true 2 (.tmp 6), none⟩, ⟨some 15, .load true 2 (.tmp 7), none⟩, ⟨some 16, .call (.c (.one (.fn 46 []))) 68 [.tmp 12, .tmp 13, .tmp 14, .tmp 15], none⟩, ⟨some 11, .mv (.tmp 16), none⟩]) (.seq (.region [⟨some 17, .mv (.tmp 11), none⟩, ⟨some 18, .bin .neq (.tmp 17) (.c (.one (.t (.int .i64 0)))), none⟩]) (.cond (.tmp 18) (.seq (.region [⟨some 19, .mv (.tmp 11), none⟩, ⟨some 8, .mv (.c (.one .nil)), none⟩, ⟨some 9, .mv (.c (.one .nil)), none⟩, ⟨some 10, .mv (.tmp 19), none⟩]) .ret) .skip))) (.seq (.draw [[], [0], [], [2], [1, 3], [], [5], [], [7], [6, 8, 4], [4, 9, 0, 1, 2, 3, 4], [9, 10, 0, 1, 2, 3, 4, 5, 6, 7, 8, 9, 10], [11, 0, 1, 2, 3, 4, 5, 6, 7, 8, 9, 10, 11]] [⟨some 20, .fieldA 0 (.tmp 7), none⟩, ⟨some 21, .load false 1 (.tmp 20), none⟩, ⟨some 22, .fieldA 0 (.tmp 6), none⟩, ⟨some 23, .load false 1 (.tmp 22), none⟩, ⟨some 24, .call (.c (.one (.fn 47 []))) 260 [.tmp 21, .tmp 23], none⟩, ⟨some 25, .fieldA 1 (.tmp 7), none⟩, ⟨some 26, .load false 1 (.tmp 25), none⟩, ⟨some 27, .fieldA 1 (.tmp 6), none⟩, ⟨some 28, .load false 1 (.tmp 27), none⟩, ⟨some 29, .call (.c (.one (.fn 47 []))) 265 [.tmp 26, .tmp 28], none⟩, ⟨some 8, .mv (.tmp 24), none⟩, ⟨some 9, .mv (.tmp 29), none⟩, ⟨some 10, .mv (.c (.one (.t (.int .i64 0)))), none⟩]) .ret))⟩
theorem k_ident12X : cFn Try.prog Try.f26 = some c_ident12X := by kernel_rfl
theorem ident12X_ok (l g : Gr) (p m : Pa) (h : TinyCase l g p m) : CallOK Try.prog 26 [l.v, g.v, p.v, m.v] (identT (identR l g p m)) := by
  refine callOK_W (callS_W (by kernel_rfl) Try.func26 k_ident12X (callable_of Try.func26 (by kernel_rfl)) (by simp [c_ident12X]) ?_)
  simp [c_ident12X, rn0, rn1, rn2, rn3, rn4, rn5, rn6, rn7, evOp, Arg.ev, St.val, St.set, St.new, sliceOf, binInt2, binInt, AV.cells, rdAt, St.live, retOf, resOf, resAll, treeOf, treeCell, treeCells, treeTups, untree, frameOf, TV.av, TR.av, ints, edgs, prs, fillV, splice, intsOf, trees, V1.tree, bx, Gr.v, Pa.v]
  refine callS_tree (given12_ok l g p m h) ?_ ?_ ?_
  · rfl
  · rfl
  by_cases h1 : caseErr l g p m = 0
  case neg =>
    have e : identR l g p m = ([], [], caseErr l g p m) := by simp [identR, h1]
    simp [rn0, rn1, rn2, rn3, rn4, rn5, rn6, rn7, evOp, Arg.ev, St.val, St.set, St.new, sliceOf, binInt2, binInt, AV.cells, rdAt, St.live, retOf, resOf, resAll, treeOf, treeCell, treeCells, treeTups, untree, frameOf, TV.av, TR.av, ints, edgs, prs, fillV, splice, intsOf, trees, V1.tree, bx, Gr.v, Pa.v, h1, e, identT, prL]
  obtain ⟨mo, so⟩ := caseErr_ok h1
  have b1 := mo.ga.n
  have b2 := mo.ga.e
  have b3 := mo.ln
  have b4 := mo.le
  have e : identR l g p m = (pairsL m.nodes p.nodes, pairsL m.edges p.edges, 0) := by simp [identR, h1]
  simp [rn0, rn1, rn2, rn3, rn4, rn5, rn6, rn7, evOp, Arg.ev, St.val, St.set, St.new, sliceOf, binInt2, binInt, AV.cells, rdAt, St.live, retOf, resOf, resAll, treeOf, treeCell, treeCells, treeTups, untree, frameOf, TV.av, TR.av, ints, edgs, prs, fillV, splice, intsOf, trees, V1.tree, bx, Gr.v, Pa.v, dw0, dw1, dw2, dw3, opRd, opWr, opNew, opNewR, opArgs, argsRd, argRd, Arg.rd, AV.refs, V1.refs, refsL, dstL, h1, e]
  refine dCall_ok (callOK_of_row (ident12_row m.nodes p.nodes (by omega) h.tp.1)) ?_ ?_ ?_
  · rfl
  · rfl
  simp [rn0, rn1, rn2, rn3, rn4, rn5, rn6, rn7, evOp, Arg.ev, St.val, St.set, St.new, sliceOf, binInt2, binInt, AV.cells, rdAt, St.live, retOf, resOf, resAll, treeOf, treeCell, treeCells, treeTups, untree, frameOf, TV.av, TR.av, ints, edgs, prs, fillV, splice, intsOf, trees, V1.tree, bx, Gr.v, Pa.v, dw0, dw1, dw2, dw3, opRd, opWr, opNew, opNewR, opArgs, argsRd, argRd, Arg.rd, AV.refs, V1.refs, refsL, dstL]
  refine dCall_ok (callOK_of_row (ident12_row m.edges p.edges (by omega) h.tp.2)) ?_ ?_ ?_
  · rfl
  · rfl
  simp [rn0, rn1, rn2, rn3, rn4, rn5, rn6, rn7, evOp, Arg.ev, St.val, St.set, St.new, sliceOf, binInt2, binInt, AV.cells, rdAt, St.live, retOf, resOf, resAll, treeOf, treeCell, treeCells, treeTups, untree, frameOf, TV.av, TR.av, ints, edgs, prs, fillV, splice, intsOf, trees, V1.tree, bx, Gr.v, Pa.v, dw0, dw1, dw2, dw3, opRd, opWr, opNew, opNewR, opArgs, argsRd, argRd, Arg.rd, AV.refs, V1.refs, refsL, dstL, identT]
  rfl

def c_equalP : MFunc := ⟨26, [.tmp 4], .seq (.region [⟨some 4, .mv (.c (.one (.t (.bool false)))), none⟩]) (.seq (.seq (.region [⟨some 6, .mv (.tmp 0), none⟩, ⟨some 7, .len (.tmp 6), none⟩, ⟨some 8, .mv (.tmp 1), none⟩, ⟨some 9, .len (.tmp 8), none⟩, ⟨some 10, .bin .neq (.tmp 7) (.tmp 9), none⟩]) (.cond (.tmp 10) (.seq (.region [⟨some 4, .mv (.c (.one (.t (.bool false)))), none⟩]) .ret) .skip)) (.seq (.seq (.region [⟨some 11, .mv (.tmp 0), none⟩, ⟨some 12, .len (.tmp 11), none⟩, ⟨some 13, .mv (.c (.one (.t (.int .i64 0)))), none⟩]) (.block 0 (.loop (.seq (.region [⟨some 14, .bin .lss (.tmp 13) (.tmp 12), none⟩]) (.seq (.cond (.tmp 14) .skip (.exit 0)) (.seq (.block 1 (.seq (.region [⟨some 15, .mv (.tmp 13), none⟩, ⟨some 5, .mv (.tmp 15), none⟩]) (.seq (.draw [[], [], [0, 1], [2], [], [], [4, 5], [6], [3, 7]] [⟨some 16, .mv (.tmp 0), none⟩, ⟨some 17, .mv (.tmp 5), none⟩, ⟨some 18, .idxA 2 (.tmp 16) (.tmp 17), none⟩, ⟨some 19, .load true 2 (.tmp 18), none⟩, ⟨some 20, .mv (.tmp 1), none⟩, ⟨some 21, .mv (.tmp 5), none⟩, ⟨some 22, .idxA 2 (.tmp 20) (.tmp 21), none⟩, ⟨some 23, .load true 2 (.tmp 22), none⟩, ⟨some 24, .eqS true 2 (.tmp 19) (.tmp 23), none⟩]) (.cond (.tmp 24) (.seq (.region [⟨some 4, .mv (.c (.one (.t (.bool false)))), none⟩]) .ret) .skip)))) (.region [⟨some 25, .bin .add (.tmp 13) (.c (.one (.t (.int .i64 1)))), none⟩, ⟨some 13, .mv (.tmp 25), none⟩]))))))) (.seq (.region [⟨some 4, .mv (.c (.one (.t (.bool true)))), none⟩]) .ret)))⟩
theorem k_equalP : cFn Try.prog Try.f28 = some c_equalP := by kernel_rfl
theorem equalP_ok (a : List (Int × Int)) (ha : a.length ≤ 1000000) : CallOK Try.prog 28 [(false, [prs a]), (false, [prs a])] (.sv (false, [.bool true])) := by
  refine callOK_W (callS_W (by kernel_rfl) Try.func28 k_equalP (callable_of Try.func28 (by kernel_rfl)) (by simp [c_equalP]) ?_)
  simp [c_equalP, rn0, rn1, rn2, rn3, rn4, rn5, rn6, rn7, evOp, Arg.ev, St.val, St.set, St.new, sliceOf, binInt2, binInt, AV.cells, rdAt, St.live, retOf, resOf, resAll, treeOf, treeCell, treeCells, treeTups, untree, frameOf, TV.av, TR.av, ints, edgs, prs, fillV, splice, intsOf, trees, V1.tree, bx, Gr.v, Pa.v]
  refine loopW_count 13 a.length (fun k S => S.fr 0 = .one (.t (prs a)) ∧ S.fr 1 = .one (.t (prs a)) ∧ S.fr 12 = .one (.t (.int .i64 a.length))) (by omega) ?_ ?_ ?_
  · simp [rn0, rn1, rn2, rn3, rn4, rn5, rn6, rn7, evOp, Arg.ev, St.val, St.set, St.new, sliceOf, binInt2, binInt, AV.cells, rdAt, St.live, retOf, resOf, resAll, treeOf, treeCell, treeCells, treeTups, untree, frameOf, TV.av, TR.av, ints, edgs, prs, fillV, splice, intsOf, trees, V1.tree, bx, Gr.v, Pa.v]
  · rintro k S hlt hw hc ⟨f0, f1, f12⟩
    have hlt2 : k * 2 < a.length * 2 := by omega
    simp [rn0, rn1, rn2, rn3, rn4, rn5, rn6, rn7, evOp, Arg.ev, St.val, St.set, St.new, sliceOf, binInt2, binInt, AV.cells, rdAt, St.live, retOf, resOf, resAll, treeOf, treeCell, treeCells, treeTups, untree, frameOf, TV.av, TR.av, ints, edgs, prs, fillV, splice, intsOf, trees, V1.tree, bx, Gr.v, Pa.v, dw0, dw1, dw2, dw3, opRd, opWr, opNew, opNewR, opArgs, argsRd, argRd, Arg.rd, AV.refs, V1.refs, refsL, dstL, f0, f1, f12, hc, hlt, hlt2, drop_prL hlt, hw]
    rfl
  · rintro S hc ⟨f0, f1, f12⟩
    simp [rn0, rn1, rn2, rn3, rn4, rn5, rn6, rn7, evOp, Arg.ev, St.val, St.set, St.new, sliceOf, binInt2, binInt, AV.cells, rdAt, St.live, retOf, resOf, resAll, treeOf, treeCell, treeCells, treeTups, untree, frameOf, TV.av, TR.av, ints, edgs, prs, fillV, splice, intsOf, trees, V1.tree, bx, Gr.v, Pa.v, f0, f1, f12, hc]

theorem danglR_tiny {l g : Gr} {p m : Pa} (h : TinyCase l g p m) : tiny (danglR l g p m).1.length := by
  unfold danglR
  split
  · exact Nat.le_trans dangl_few h.tg.2
  · simp [tiny]

theorem identR_tiny {l g : Gr} {p m : Pa} : (identR l g p m).1.length ≤ 1000000 ∧ (identR l g p m).2.1.length ≤ 1000000 := by
  unfold identR
  split
  · rename_i h1
    obtain ⟨mo, so⟩ := caseErr_ok h1
    have b1 := mo.ga.n
    have b2 := mo.ga.e
    have b3 := mo.ln
    have b4 := mo.le
    exact ⟨pairsL_len (by omega), pairsL_len (by omega)⟩
  · simp

def c_lawViol : MFunc := ⟨96, [.tmp 2], .seq (.region [⟨some 1, .box 0 30 (.tmp 0), none⟩, ⟨some 2, .mv (.c (.one (.t (.bool false)))), none⟩]) (.seq (.seq (.region [⟨some 13, .call (.c (.one (.fn 10 []))) 64 [], none⟩, ⟨some 14, .not (.tmp 13), none⟩, ⟨some 15, .mv (.tmp 14), none⟩, ⟨some 16, .load true 8 (.tmp 1), some (15, false)⟩, ⟨some 17, .call (.c (.one (.fn 11 []))) 68 [.tmp 16], some (15, false)⟩, ⟨some 18, .not (.tmp 17), some (15, false)⟩, ⟨some 19, .pick (.tmp 15) (.c (.one (.t (.bool true)))) (.tmp 18), none⟩]) (.cond (.tmp 19) (.seq (.region [⟨some 20, .call (.c (.one (.fn 10 []))) 128 [], none⟩, ⟨some 2, .mv (.tmp 20), none⟩]) .ret) .skip)) (.seq (.draw [[], [0], [], [2], [], [4], [5], [], [7], [1, 3, 6, 8, 6], [9], [10], [10], [11, 9, 0, 1, 2, 3, 4, 5, 6, 7, 8, 9, 10, 11], [12, 13, 0, 1, 2, 3, 4, 5, 6, 7, 8, 9, 10, 11, 12, 13]] [⟨some 22, .fieldA 0 (.tmp 1), none⟩, ⟨some 23, .load true 2 (.tmp 22), none⟩, ⟨some 24, .fieldA 2 (.tmp 1), none⟩, ⟨some 25, .load true 2 (.tmp 24), none⟩, ⟨some 26, .fieldA 4 (.tmp 1), none⟩, ⟨some 27, .load true 2 (.tmp 26), none⟩, ⟨some 28, .call (.c (.one (.fn 13 []))) 198 [.tmp 27], none⟩, ⟨some 29, .fieldA 6 (.tmp 1), none⟩, ⟨some 30, .load true 2 (.tmp 29), none⟩, ⟨some 31, .call (.c (.one (.fn 23 []))) 201 [.tmp 23, .tmp 25, .tmp 28, .tmp 30], none⟩, ⟨some 21, .mv (.tmp 31), none⟩, ⟨some 32, .extract (.tmp 21) 0, none⟩, ⟨some 33, .extract (.tmp 21) 1, none⟩, ⟨some 3, .mv (.tmp 32), none⟩, ⟨some 4, .mv (.tmp 33), none⟩]) (.seq (.region [⟨some 35, .fieldA 0 (.tmp 1), none⟩, ⟨some 36, .load true 2 (.tmp 35), none⟩, ⟨some 37, .fieldA 2 (.tmp 1), none⟩, ⟨some 38, .load true 2 (.tmp 37), none⟩, ⟨some 39, .fieldA 4 (.tmp 1), none⟩, ⟨some 40, .load true 2 (.tmp 39), none⟩, ⟨some 41, .fieldA 6 (.tmp 1), none⟩, ⟨some 42, .load true 2 (.tmp 41), none⟩, ⟨some 43, .call (.c (.one (.fn 24 []))) 264 [.tmp 36, .tmp 38, .tmp 40, .tmp 42], none⟩, ⟨some 34, .mv (.tmp 43), none⟩, ⟨some 44, .extract (.tmp 34) 0, none⟩, ⟨some 45, .extract (.tmp 34) 1, none⟩, ⟨some 5, .mv (.tmp 44), none⟩, ⟨some 6, .mv (.tmp 45), none⟩]) (.seq (.draw [[], [0], [], [2], [], [4], [5], [], [7], [1, 3, 6, 8, 6], [9], [10], [10], [10], [11, 9, 0, 1, 2, 3, 4, 5, 6, 7, 8, 9, 10, 11], [12, 14, 0, 1, 2, 3, 4, 5, 6, 7, 8, 9, 10, 11, 12, 14], [13, 15, 0, 1, 2, 3, 4, 5, 6, 7, 8, 9, 10, 11, 12, 13, 14, 15]] [⟨some 47, .fieldA 0 (.tmp 1), none⟩, ⟨some 48, .load true 2 (.tmp 47), none⟩, ⟨some 49, .fieldA 2 (.tmp 1), none⟩, ⟨some 50, .load true 2 (.tmp 49), none⟩, ⟨some 51, .fieldA 4 (.tmp 1), none⟩, ⟨some 52, .load true 2 (.tmp 51), none⟩, ⟨some 53, .call (.c (.one (.fn 13 []))) 326 [.tmp 52], none⟩, ⟨some 54, .fieldA 6 (.tmp 1), none⟩, ⟨some 55, .load true 2 (.tmp 54), none⟩, ⟨some 56, .call (.c (.one (.fn 25 []))) 329 [.tmp 48, .tmp 50, .tmp 53, .tmp 55], none⟩, ⟨some 46, .mv (.tmp 56), none⟩, ⟨some 57, .extract (.tmp 46) 0, none⟩, ⟨some 58, .extract (.tmp 46) 1, none⟩, ⟨some 59, .extract (.tmp 46) 2, none⟩, ⟨some 7, .mv (.tmp 57), none⟩, ⟨some 8, .mv (.tmp 58), none⟩, ⟨some 9, .mv (.tmp 59), none⟩]) (.seq (.region [⟨some 61, .fieldA 0 (.tmp 1), none⟩, ⟨some 62, .load true 2 (.tmp 61), none⟩, ⟨some 63, .fieldA 2 (.tmp 1), none⟩, ⟨some 64, .load true 2 (.tmp 63), none⟩, ⟨some 65, .fieldA 4 (.tmp 1), none⟩, ⟨some 66, .load true 2 (.tmp 65), none⟩, ⟨some 67, .fieldA 6 (.tmp 1), none⟩, ⟨some 68, .load true 2 (.tmp 67), none⟩, ⟨some 69, .call (.c (.one (.fn 26 []))) 392 [.tmp 62, .tmp 64, .tmp 66, .tmp 68], none⟩, ⟨some 60, .mv (.tmp 69), none⟩, ⟨some 70, .extract (.tmp 60) 0, none⟩, ⟨some 71, .extract (.tmp 60) 1, none⟩, ⟨some 72, .extract (.tmp 60) 2, none⟩, ⟨some 10, .mv (.tmp 70), none⟩, ⟨some 11, .mv (.tmp 71), none⟩, ⟨some 12, .mv (.tmp 72), none⟩]) (.seq (.region [⟨some 73, .mv (.tmp 4), none⟩, ⟨some 74, .mv (.tmp 6), none⟩, ⟨some 75, .bin .eql (.tmp 73) (.tmp 74), none⟩, ⟨some 76, .mv (.tmp 75), none⟩, ⟨some 77, .mv (.tmp 3), some (76, true)⟩, ⟨some 78, .mv (.tmp 5), some (76, true)⟩, ⟨some 79, .call (.c (.one (.fn 27 []))) 454 [.tmp 77, .tmp 78], some (76, true)⟩, ⟨some 80, .pick (.tmp 76) (.tmp 79) (.c (.one (.t (.bool false)))), none⟩, ⟨some 81, .mv (.tmp 80), none⟩, ⟨some 82, .mv (.tmp 9), some (81, true)⟩, ⟨some 83, .mv (.tmp 12), some (81, true)⟩, ⟨some 84, .bin .eql (.tmp 82) (.tmp 83), some (81, true)⟩, ⟨some 85, .pick (.tmp 81) (.tmp 84) (.c (.one (.t (.bool false)))), none⟩, ⟨some 86, .mv (.tmp 85), none⟩, ⟨some 87, .mv (.tmp 7), some (86, true)⟩, ⟨some 88, .mv (.tmp 10), some (86, true)⟩, ⟨some 89, .call (.c (.one (.fn 28 []))) 464 [.tmp 87, .tmp 88], some (86, true)⟩, ⟨some 90, .pick (.tmp 86) (.tmp 89) (.c (.one (.t (.bool false)))), none⟩, ⟨some 91, .mv (.tmp 90), none⟩, ⟨some 92, .mv (.tmp 8), some (91, true)⟩, ⟨some 93, .mv (.tmp 11), some (91, true)⟩, ⟨some 94, .call (.c (.one (.fn 28 []))) 469 [.tmp 92, .tmp 93], some (91, true)⟩, ⟨some 95, .pick (.tmp 91) (.tmp 94) (.c (.one (.t (.bool false)))), none⟩, ⟨some 2, .mv (.tmp 95), none⟩]) .ret))))))⟩
theorem k_lawViol : cFn Try.prog Try.f7 = some c_lawViol := by kernel_rfl
theorem lawViolations : CaseLaw 7 := by
  intro l g p m hb
  refine callOK_W (callS_W (by kernel_rfl) Try.func7 k_lawViol (callable_of Try.func7 (by kernel_rfl)) (by simp [c_lawViol]) ?_)
  simp [c_lawViol, rn0, rn1, rn2, rn3, rn4, rn5, rn6, rn7, evOp, Arg.ev, St.val, St.set, St.new, sliceOf, binInt2, binInt, AV.cells, rdAt, St.live, retOf, resOf, resAll, treeOf, treeCell, treeCells, treeTups, untree, frameOf, TV.av, TR.av, ints, edgs, prs, fillV, splice, intsOf, trees, V1.tree, bx, Gr.v, Pa.v, gluV]
  refine callS_tree awake_ok ?_ ?_ ?_
  · rfl
  · rfl
  simp [rn0, rn1, rn2, rn3, rn4, rn5, rn6, rn7, evOp, Arg.ev, St.val, St.set, St.new, sliceOf, binInt2, binInt, AV.cells, rdAt, St.live, retOf, resOf, resAll, treeOf, treeCell, treeCells, treeTups, untree, frameOf, TV.av, TR.av, ints, edgs, prs, fillV, splice, intsOf, trees, V1.tree, bx, Gr.v, Pa.v, gluV]
  refine callS_tree hb.few ?_ ?_ ?_
  · rfl
  · rfl
  cases hf : fewC l g p m
  · simp [rn0, rn1, rn2, rn3, rn4, rn5, rn6, rn7, evOp, Arg.ev, St.val, St.set, St.new, sliceOf, binInt2, binInt, AV.cells, rdAt, St.live, retOf, resOf, resAll, treeOf, treeCell, treeCells, treeTups, untree, frameOf, TV.av, TR.av, ints, edgs, prs, fillV, splice, intsOf, trees, V1.tree, bx, Gr.v, Pa.v, hf]
    refine callS_tree awake_ok ?_ ?_ ?_
    · rfl
    · rfl
    simp [rn0, rn1, rn2, rn3, rn4, rn5, rn6, rn7, evOp, Arg.ev, St.val, St.set, St.new, sliceOf, binInt2, binInt, AV.cells, rdAt, St.live, retOf, resOf, resAll, treeOf, treeCell, treeCells, treeTups, untree, frameOf, TV.av, TR.av, ints, edgs, prs, fillV, splice, intsOf, trees, V1.tree, bx, Gr.v, Pa.v]
  have ht := tiny_few hf
  simp [rn0, rn1, rn2, rn3, rn4, rn5, rn6, rn7, evOp, Arg.ev, St.val, St.set, St.new, sliceOf, binInt2, binInt, AV.cells, rdAt, St.live, retOf, resOf, resAll, treeOf, treeCell, treeCells, treeTups, untree, frameOf, TV.av, TR.av, ints, edgs, prs, fillV, splice, intsOf, trees, V1.tree, bx, Gr.v, Pa.v, dw0, dw1, dw2, dw3, opRd, opWr, opNew, opNewR, opArgs, argsRd, argRd, Arg.rd, AV.refs, V1.refs, refsL, dstL, gluV, hf]
  refine dCall_ok (copied_ok p ht.tp) ?_ ?_ ?_
  · rfl
  · rfl
  simp [rn0, rn1, rn2, rn3, rn4, rn5, rn6, rn7, evOp, Arg.ev, St.val, St.set, St.new, sliceOf, binInt2, binInt, AV.cells, rdAt, St.live, retOf, resOf, resAll, treeOf, treeCell, treeCells, treeTups, untree, frameOf, TV.av, TR.av, ints, edgs, prs, fillV, splice, intsOf, trees, V1.tree, bx, Gr.v, Pa.v, dw0, dw1, dw2, dw3, opRd, opWr, opNew, opNewR, opArgs, argsRd, argRd, Arg.rd, AV.refs, V1.refs, refsL, dstL, gluV]
  refine dCall_ok (dangX_ok l g p m ht) ?_ ?_ ?_
  · rfl
  · rfl
  simp [rn0, rn1, rn2, rn3, rn4, rn5, rn6, rn7, evOp, Arg.ev, St.val, St.set, St.new, sliceOf, binInt2, binInt, AV.cells, rdAt, St.live, retOf, resOf, resAll, treeOf, treeCell, treeCells, treeTups, untree, frameOf, TV.av, TR.av, ints, edgs, prs, fillV, splice, intsOf, trees, V1.tree, bx, Gr.v, Pa.v, dw0, dw1, dw2, dw3, opRd, opWr, opNew, opNewR, opArgs, argsRd, argRd, Arg.rd, AV.refs, V1.refs, refsL, dstL, gluV]
  refine ⟨rfl, ?_⟩
  refine callS_tree (dang12X_ok l g p m ht) ?_ ?_ ?_
  · rfl
  · rfl
  simp [rn0, rn1, rn2, rn3, rn4, rn5, rn6, rn7, evOp, Arg.ev, St.val, St.set, St.new, sliceOf, binInt2, binInt, AV.cells, rdAt, St.live, retOf, resOf, resAll, treeOf, treeCell, treeCells, treeTups, untree, frameOf, TV.av, TR.av, ints, edgs, prs, fillV, splice, intsOf, trees, V1.tree, bx, Gr.v, Pa.v, dw0, dw1, dw2, dw3, opRd, opWr, opNew, opNewR, opArgs, argsRd, argRd, Arg.rd, AV.refs, V1.refs, refsL, dstL, gluV]
  refine dCall_ok (copied_ok p ht.tp) ?_ ?_ ?_
  · rfl
  · rfl
  simp [rn0, rn1, rn2, rn3, rn4, rn5, rn6, rn7, evOp, Arg.ev, St.val, St.set, St.new, sliceOf, binInt2, binInt, AV.cells, rdAt, St.live, retOf, resOf, resAll, treeOf, treeCell, treeCells, treeTups, untree, frameOf, TV.av, TR.av, ints, edgs, prs, fillV, splice, intsOf, trees, V1.tree, bx, Gr.v, Pa.v, dw0, dw1, dw2, dw3, opRd, opWr, opNew, opNewR, opArgs, argsRd, argRd, Arg.rd, AV.refs, V1.refs, refsL, dstL, gluV]
  refine dCall_ok (identX_ok l g p m ht) ?_ ?_ ?_
  · rfl
  · rfl
  simp [rn0, rn1, rn2, rn3, rn4, rn5, rn6, rn7, evOp, Arg.ev, St.val, St.set, St.new, sliceOf, binInt2, binInt, AV.cells, rdAt, St.live, retOf, resOf, resAll, treeOf, treeCell, treeCells, treeTups, untree, frameOf, TV.av, TR.av, ints, edgs, prs, fillV, splice, intsOf, trees, V1.tree, bx, Gr.v, Pa.v, dw0, dw1, dw2, dw3, opRd, opWr, opNew, opNewR, opArgs, argsRd, argRd, Arg.rd, AV.refs, V1.refs, refsL, dstL, gluV, identT]
  refine ⟨rfl, ?_⟩
  refine callS_tree (ident12X_ok l g p m ht) ?_ ?_ ?_
  · rfl
  · rfl
  simp [rn0, rn1, rn2, rn3, rn4, rn5, rn6, rn7, evOp, Arg.ev, St.val, St.set, St.new, sliceOf, binInt2, binInt, AV.cells, rdAt, St.live, retOf, resOf, resAll, treeOf, treeCell, treeCells, treeTups, untree, frameOf, TV.av, TR.av, ints, edgs, prs, fillV, splice, intsOf, trees, V1.tree, bx, Gr.v, Pa.v, dw0, dw1, dw2, dw3, opRd, opWr, opNew, opNewR, opArgs, argsRd, argRd, Arg.rd, AV.refs, V1.refs, refsL, dstL, gluV, identT]
  refine callS_tree (equal_ok (danglR l g p m).1 (danglR l g p m).1 (danglR_tiny ht) (danglR_tiny ht)) ?_ ?_ ?_
  · rfl
  · rfl
  simp [rn0, rn1, rn2, rn3, rn4, rn5, rn6, rn7, evOp, Arg.ev, St.val, St.set, St.new, sliceOf, binInt2, binInt, AV.cells, rdAt, St.live, retOf, resOf, resAll, treeOf, treeCell, treeCells, treeTups, untree, frameOf, TV.av, TR.av, ints, edgs, prs, fillV, splice, intsOf, trees, V1.tree, bx, Gr.v, Pa.v]
  refine callS_tree (equalP_ok (identR l g p m).1 identR_tiny.1) ?_ ?_ ?_
  · rfl
  · rfl
  simp [rn0, rn1, rn2, rn3, rn4, rn5, rn6, rn7, evOp, Arg.ev, St.val, St.set, St.new, sliceOf, binInt2, binInt, AV.cells, rdAt, St.live, retOf, resOf, resAll, treeOf, treeCell, treeCells, treeTups, untree, frameOf, TV.av, TR.av, ints, edgs, prs, fillV, splice, intsOf, trees, V1.tree, bx, Gr.v, Pa.v]
  refine callS_tree (equalP_ok (identR l g p m).2.1 identR_tiny.2) ?_ ?_ ?_
  · rfl
  · rfl
  simp [rn0, rn1, rn2, rn3, rn4, rn5, rn6, rn7, evOp, Arg.ev, St.val, St.set, St.new, sliceOf, binInt2, binInt, AV.cells, rdAt, St.live, retOf, resOf, resAll, treeOf, treeCell, treeCells, treeTups, untree, frameOf, TV.av, TR.av, ints, edgs, prs, fillV, splice, intsOf, trees, V1.tree, bx, Gr.v, Pa.v]

/-- Is it the complement? -/
def chkR (l g : Gr) (p m d : Pa) : Bool := decide ((ofR l g p m).2 = 0) && decide ((ofR l g p m).1.nodes = d.nodes) && decide ((ofR l g p m).1.edges = d.edges)

def c_checkX : MFunc := ⟨37, [.tmp 10], .seq (.region [⟨some 5, .box 0 25 (.tmp 0), none⟩, ⟨some 6, .box 1 25 (.tmp 1), none⟩, ⟨some 7, .box 2 27 (.tmp 2), none⟩, ⟨some 8, .box 3 28 (.tmp 3), none⟩, ⟨some 9, .box 4 27 (.tmp 4), none⟩, ⟨some 10, .mv (.c (.one (.t (.bool false)))), none⟩]) (.seq (.region [⟨some 14, .load true 2 (.tmp 5), none⟩, ⟨some 15, .load true 2 (.tmp 6), none⟩, ⟨some 16, .load true 2 (.tmp 7), none⟩, ⟨some 17, .load true 2 (.tmp 8), none⟩, ⟨some 18, .call (.c (.one (.fn 12 []))) 68 [.tmp 14, .tmp 15, .tmp 16, .tmp 17], none⟩, ⟨some 13, .mv (.tmp 18), none⟩, ⟨some 19, .extract (.tmp 13) 0, none⟩, ⟨some 20, .extract (.tmp 13) 1, none⟩, ⟨some 11, .alloc 72 27 [.nil, .nil], none⟩, ⟨none, .store 2 (.tmp 11) (.tmp 19), none⟩, ⟨some 12, .mv (.tmp 20), none⟩]) (.seq (.region [⟨some 21, .mv (.tmp 12), none⟩, ⟨some 22, .bin .eql (.tmp 21) (.c (.one (.t (.int .i64 0)))), none⟩, ⟨some 23, .mv (.tmp 22), none⟩, ⟨some 24, .fieldA 0 (.tmp 11), some (23, true)⟩, ⟨some 25, .load false 1 (.tmp 24), some (23, true)⟩, ⟨some 26, .fieldA 0 (.tmp 9), some (23, true)⟩, ⟨some 27, .load false 1 (.tmp 26), some (23, true)⟩, ⟨some 28, .call (.c (.one (.fn 27 []))) 135 [.tmp 25, .tmp 27], some (23, true)⟩, ⟨some 29, .pick (.tmp 23) (.tmp 28) (.c (.one (.t (.bool false)))), none⟩, ⟨some 30, .mv (.tmp 29), none⟩, ⟨some 31, .fieldA 1 (.tmp 11), some (30, true)⟩, ⟨some 32, .load false 1 (.tmp 31), some (30, true)⟩, ⟨some 33, .fieldA 1 (.tmp 9), some (30, true)⟩, ⟨some 34, .load false 1 (.tmp 33), some (30, true)⟩, ⟨some 35, .call (.c (.one (.fn 27 []))) 142 [.tmp 32, .tmp 34], some (30, true)⟩, ⟨some 36, .pick (.tmp 30) (.tmp 35) (.c (.one (.t (.bool false)))), none⟩, ⟨some 10, .mv (.tmp 36), none⟩]) .ret))⟩
theorem k_checkX : cFn Try.prog Try.f21 = some c_checkX := by kernel_rfl
theorem checkX_ok (l g : Gr) (p m d : Pa) (h : TinyCase l g p m) (hd : tinyP d) : CallOK Try.prog 21 [l.v, g.v, p.v, m.v, d.v] (.sv (false, [.bool (chkR l g p m d)])) := by
  refine callOK_W (callS_W (by kernel_rfl) Try.func21 k_checkX (callable_of Try.func21 (by kernel_rfl)) (by simp [c_checkX]) ?_)
  simp [c_checkX, rn0, rn1, rn2, rn3, rn4, rn5, rn6, rn7, evOp, Arg.ev, St.val, St.set, St.new, sliceOf, binInt2, binInt, AV.cells, rdAt, St.live, retOf, resOf, resAll, treeOf, treeCell, treeCells, treeTups, untree, frameOf, TV.av, TR.av, ints, edgs, prs, fillV, splice, intsOf, trees, V1.tree, bx, Gr.v, Pa.v]
  refine callS_tree (of_ok l g p m h) ?_ ?_ ?_
  · rfl
  · rfl
  by_cases h1 : (ofR l g p m).2 = 0
  case neg => simp [rn0, rn1, rn2, rn3, rn4, rn5, rn6, rn7, evOp, Arg.ev, St.val, St.set, St.new, sliceOf, binInt2, binInt, AV.cells, rdAt, St.live, retOf, resOf, resAll, treeOf, treeCell, treeCells, treeTups, untree, frameOf, TV.av, TR.av, ints, edgs, prs, fillV, splice, intsOf, trees, V1.tree, bx, Gr.v, Pa.v, chkR, h1]
  simp [rn0, rn1, rn2, rn3, rn4, rn5, rn6, rn7, evOp, Arg.ev, St.val, St.set, St.new, sliceOf, binInt2, binInt, AV.cells, rdAt, St.live, retOf, resOf, resAll, treeOf, treeCell, treeCells, treeTups, untree, frameOf, TV.av, TR.av, ints, edgs, prs, fillV, splice, intsOf, trees, V1.tree, bx, Gr.v, Pa.v, h1]
  refine callS_tree (equal_ok (ofR l g p m).1.nodes d.nodes (ofR_tiny h).1 hd.1) ?_ ?_ ?_
  · rfl
  · rfl
  by_cases h2 : (ofR l g p m).1.nodes = d.nodes
  case neg => simp [rn0, rn1, rn2, rn3, rn4, rn5, rn6, rn7, evOp, Arg.ev, St.val, St.set, St.new, sliceOf, binInt2, binInt, AV.cells, rdAt, St.live, retOf, resOf, resAll, treeOf, treeCell, treeCells, treeTups, untree, frameOf, TV.av, TR.av, ints, edgs, prs, fillV, splice, intsOf, trees, V1.tree, bx, Gr.v, Pa.v, chkR, h1, h2]
  simp [rn0, rn1, rn2, rn3, rn4, rn5, rn6, rn7, evOp, Arg.ev, St.val, St.set, St.new, sliceOf, binInt2, binInt, AV.cells, rdAt, St.live, retOf, resOf, resAll, treeOf, treeCell, treeCells, treeTups, untree, frameOf, TV.av, TR.av, ints, edgs, prs, fillV, splice, intsOf, trees, V1.tree, bx, Gr.v, Pa.v, h1, h2]
  refine callS_tree (equal_ok (ofR l g p m).1.edges d.edges (ofR_tiny h).2 hd.2) ?_ ?_ ?_
  · rfl
  · rfl
  simp [rn0, rn1, rn2, rn3, rn4, rn5, rn6, rn7, evOp, Arg.ev, St.val, St.set, St.new, sliceOf, binInt2, binInt, AV.cells, rdAt, St.live, retOf, resOf, resAll, treeOf, treeCell, treeCells, treeTups, untree, frameOf, TV.av, TR.av, ints, edgs, prs, fillV, splice, intsOf, trees, V1.tree, bx, Gr.v, Pa.v, chkR, h1, h2]

def c_check12X : MFunc := ⟨37, [.tmp 10], .seq (.region [⟨some 5, .box 0 25 (.tmp 0), none⟩, ⟨some 6, .box 1 25 (.tmp 1), none⟩, ⟨some 7, .box 2 27 (.tmp 2), none⟩, ⟨some 8, .box 3 28 (.tmp 3), none⟩, ⟨some 9, .box 4 27 (.tmp 4), none⟩, ⟨some 10, .mv (.c (.one (.t (.bool false)))), none⟩]) (.seq (.region [⟨some 14, .load true 2 (.tmp 5), none⟩, ⟨some 15, .load true 2 (.tmp 6), none⟩, ⟨some 16, .load true 2 (.tmp 7), none⟩, ⟨some 17, .load true 2 (.tmp 8), none⟩, ⟨some 18, .call (.c (.one (.fn 14 []))) 68 [.tmp 14, .tmp 15, .tmp 16, .tmp 17], none⟩, ⟨some 13, .mv (.tmp 18), none⟩, ⟨some 19, .extract (.tmp 13) 0, none⟩, ⟨some 20, .extract (.tmp 13) 1, none⟩, ⟨some 11, .alloc 72 27 [.nil, .nil], none⟩, ⟨none, .store 2 (.tmp 11) (.tmp 19), none⟩, ⟨some 12, .mv (.tmp 20), none⟩]) (.seq (.region [⟨some 21, .mv (.tmp 12), none⟩, ⟨some 22, .bin .eql (.tmp 21) (.c (.one (.t (.int .i64 0)))), none⟩, ⟨some 23, .mv (.tmp 22), none⟩, ⟨some 24, .fieldA 0 (.tmp 11), some (23, true)⟩, ⟨some 25, .load false 1 (.tmp 24), some (23, true)⟩, ⟨some 26, .fieldA 0 (.tmp 9), some (23, true)⟩, ⟨some 27, .load false 1 (.tmp 26), some (23, true)⟩, ⟨some 28, .call (.c (.one (.fn 51 []))) 135 [.tmp 25, .tmp 27], some (23, true)⟩, ⟨some 29, .pick (.tmp 23) (.tmp 28) (.c (.one (.t (.bool false)))), none⟩, ⟨some 30, .mv (.tmp 29), none⟩, ⟨some 31, .fieldA 1 (.tmp 11), some (30, true)⟩, ⟨some 32, .load false 1 (.tmp 31), some (30, true)⟩, ⟨some 33, .fieldA 1 (.tmp 9), some (30, true)⟩, ⟨some 34, .load false 1 (.tmp 33), some (30, true)⟩, ⟨some 35, .call (.c (.one (.fn 51 []))) 142 [.tmp 32, .tmp 34], some (30, true)⟩, ⟨some 36, .pick (.tmp 30) (.tmp 35) (.c (.one (.t (.bool false)))), none⟩, ⟨some 10, .mv (.tmp 36), none⟩]) .ret))⟩
theorem k_check12X : cFn Try.prog Try.f22 = some c_check12X := by kernel_rfl
theorem check12X_ok (l g : Gr) (p m d : Pa) (h : TinyCase l g p m) (hd : tinyP d) : CallOK Try.prog 22 [l.v, g.v, p.v, m.v, d.v] (.sv (false, [.bool (chkR l g p m d)])) := by
  refine callOK_W (callS_W (by kernel_rfl) Try.func22 k_check12X (callable_of Try.func22 (by kernel_rfl)) (by simp [c_check12X]) ?_)
  simp [c_check12X, rn0, rn1, rn2, rn3, rn4, rn5, rn6, rn7, evOp, Arg.ev, St.val, St.set, St.new, sliceOf, binInt2, binInt, AV.cells, rdAt, St.live, retOf, resOf, resAll, treeOf, treeCell, treeCells, treeTups, untree, frameOf, TV.av, TR.av, ints, edgs, prs, fillV, splice, intsOf, trees, V1.tree, bx, Gr.v, Pa.v]
  refine callS_tree (of12_ok l g p m h) ?_ ?_ ?_
  · rfl
  · rfl
  by_cases h1 : (ofR l g p m).2 = 0
  case neg => simp [rn0, rn1, rn2, rn3, rn4, rn5, rn6, rn7, evOp, Arg.ev, St.val, St.set, St.new, sliceOf, binInt2, binInt, AV.cells, rdAt, St.live, retOf, resOf, resAll, treeOf, treeCell, treeCells, treeTups, untree, frameOf, TV.av, TR.av, ints, edgs, prs, fillV, splice, intsOf, trees, V1.tree, bx, Gr.v, Pa.v, chkR, h1]
  simp [rn0, rn1, rn2, rn3, rn4, rn5, rn6, rn7, evOp, Arg.ev, St.val, St.set, St.new, sliceOf, binInt2, binInt, AV.cells, rdAt, St.live, retOf, resOf, resAll, treeOf, treeCell, treeCells, treeTups, untree, frameOf, TV.av, TR.av, ints, edgs, prs, fillV, splice, intsOf, trees, V1.tree, bx, Gr.v, Pa.v, h1]
  refine callS_tree (sameInts_ok (ofR l g p m).1.nodes d.nodes (ofR_tiny h).1 hd.1) ?_ ?_ ?_
  · rfl
  · rfl
  by_cases h2 : (ofR l g p m).1.nodes = d.nodes
  case neg => simp [rn0, rn1, rn2, rn3, rn4, rn5, rn6, rn7, evOp, Arg.ev, St.val, St.set, St.new, sliceOf, binInt2, binInt, AV.cells, rdAt, St.live, retOf, resOf, resAll, treeOf, treeCell, treeCells, treeTups, untree, frameOf, TV.av, TR.av, ints, edgs, prs, fillV, splice, intsOf, trees, V1.tree, bx, Gr.v, Pa.v, chkR, h1, h2]
  simp [rn0, rn1, rn2, rn3, rn4, rn5, rn6, rn7, evOp, Arg.ev, St.val, St.set, St.new, sliceOf, binInt2, binInt, AV.cells, rdAt, St.live, retOf, resOf, resAll, treeOf, treeCell, treeCells, treeTups, untree, frameOf, TV.av, TR.av, ints, edgs, prs, fillV, splice, intsOf, trees, V1.tree, bx, Gr.v, Pa.v, h1, h2]
  refine callS_tree (sameInts_ok (ofR l g p m).1.edges d.edges (ofR_tiny h).2 hd.2) ?_ ?_ ?_
  · rfl
  · rfl
  simp [rn0, rn1, rn2, rn3, rn4, rn5, rn6, rn7, evOp, Arg.ev, St.val, St.set, St.new, sliceOf, binInt2, binInt, AV.cells, rdAt, St.live, retOf, resOf, resAll, treeOf, treeCell, treeCells, treeTups, untree, frameOf, TV.av, TR.av, ints, edgs, prs, fillV, splice, intsOf, trees, V1.tree, bx, Gr.v, Pa.v, chkR, h1, h2]

/-- What the law of a case and a part is to answer. -/
def CaseLawP (f : FuncId) : Prop := ∀ (l g : Gr) (p m d : Pa), BoundC l g p m → bound d.nodes.length → bound d.edges.length → CallOK Try.prog f [gluV l g p m, d.v] (.sv (false, [.bool true]))

def c_lawCheck : MFunc := ⟨41, [.tmp 4], .seq (.region [⟨some 2, .box 0 30 (.tmp 0), none⟩, ⟨some 3, .box 1 27 (.tmp 1), none⟩, ⟨some 4, .mv (.c (.one (.t (.bool false)))), none⟩]) (.seq (.seq (.region [⟨some 5, .call (.c (.one (.fn 10 []))) 64 [], none⟩, ⟨some 6, .not (.tmp 5), none⟩, ⟨some 7, .mv (.tmp 6), none⟩, ⟨some 8, .load true 8 (.tmp 2), some (7, false)⟩, ⟨some 9, .call (.c (.one (.fn 11 []))) 68 [.tmp 8], some (7, false)⟩, ⟨some 10, .not (.tmp 9), some (7, false)⟩, ⟨some 11, .pick (.tmp 7) (.c (.one (.t (.bool true)))) (.tmp 10), none⟩, ⟨some 12, .mv (.tmp 11), none⟩, ⟨some 13, .load true 2 (.tmp 3), some (12, false)⟩, ⟨some 14, .call (.c (.one (.fn 20 []))) 73 [.tmp 13, .c (.one (.t (.int .i64 140)))], some (12, false)⟩, ⟨some 15, .not (.tmp 14), some (12, false)⟩, ⟨some 16, .pick (.tmp 12) (.c (.one (.t (.bool true)))) (.tmp 15), none⟩]) (.cond (.tmp 16) (.seq (.region [⟨some 17, .call (.c (.one (.fn 10 []))) 128 [], none⟩, ⟨some 4, .mv (.tmp 17), none⟩]) .ret) .skip)) (.seq (.draw [[], [0], [], [2], [], [4], [5], [], [7], [], [9, 6], [1, 3, 6, 8, 10, 10], [], [12], [], [14], [], [16], [], [18], [], [13, 15, 17, 19, 20, 11], [11, 21], [22, 21, 0, 1, 2, 3, 4, 5, 6, 7, 8, 9, 10, 11, 12, 13, 14, 15, 16, 17, 18, 19, 20, 21, 22]] [⟨some 18, .fieldA 0 (.tmp 2), none⟩, ⟨some 19, .load true 2 (.tmp 18), none⟩, ⟨some 20, .fieldA 2 (.tmp 2), none⟩, ⟨some 21, .load true 2 (.tmp 20), none⟩, ⟨some 22, .fieldA 4 (.tmp 2), none⟩, ⟨some 23, .load true 2 (.tmp 22), none⟩, ⟨some 24, .call (.c (.one (.fn 13 []))) 198 [.tmp 23], none⟩, ⟨some 25, .fieldA 6 (.tmp 2), none⟩, ⟨some 26, .load true 2 (.tmp 25), none⟩, ⟨some 27, .load true 2 (.tmp 3), none⟩, ⟨some 28, .call (.c (.one (.fn 13 []))) 202 [.tmp 27], none⟩, ⟨some 29, .call (.c (.one (.fn 21 []))) 203 [.tmp 19, .tmp 21, .tmp 24, .tmp 26, .tmp 28], none⟩, ⟨some 30, .fieldA 0 (.tmp 2), none⟩, ⟨some 31, .load true 2 (.tmp 30), none⟩, ⟨some 32, .fieldA 2 (.tmp 2), none⟩, ⟨some 33, .load true 2 (.tmp 32), none⟩, ⟨some 34, .fieldA 4 (.tmp 2), none⟩, ⟨some 35, .load true 2 (.tmp 34), none⟩, ⟨some 36, .fieldA 6 (.tmp 2), none⟩, ⟨some 37, .load true 2 (.tmp 36), none⟩, ⟨some 38, .load true 2 (.tmp 3), none⟩, ⟨some 39, .call (.c (.one (.fn 22 []))) 213 [.tmp 31, .tmp 33, .tmp 35, .tmp 37, .tmp 38], none⟩, ⟨some 40, .eqS false 0 (.tmp 29) (.tmp 39), none⟩, ⟨some 4, .mv (.tmp 40), none⟩]) .ret))⟩
theorem k_lawCheck : cFn Try.prog Try.f6 = some c_lawCheck := by kernel_rfl
theorem lawCheck : CaseLawP 6 := by
  intro l g p m d hb hd1 hd2
  have hu : huge d.nodes.length ∧ huge d.edges.length := by simp only [bound, huge] at *; omega
  refine callOK_W (callS_W (by kernel_rfl) Try.func6 k_lawCheck (callable_of Try.func6 (by kernel_rfl)) (by simp [c_lawCheck]) ?_)
  simp [c_lawCheck, rn0, rn1, rn2, rn3, rn4, rn5, rn6, rn7, evOp, Arg.ev, St.val, St.set, St.new, sliceOf, binInt2, binInt, AV.cells, rdAt, St.live, retOf, resOf, resAll, treeOf, treeCell, treeCells, treeTups, untree, frameOf, TV.av, TR.av, ints, edgs, prs, fillV, splice, intsOf, trees, V1.tree, bx, Gr.v, Pa.v, gluV]
  refine callS_tree awake_ok ?_ ?_ ?_
  · rfl
  · rfl
  simp [rn0, rn1, rn2, rn3, rn4, rn5, rn6, rn7, evOp, Arg.ev, St.val, St.set, St.new, sliceOf, binInt2, binInt, AV.cells, rdAt, St.live, retOf, resOf, resAll, treeOf, treeCell, treeCells, treeTups, untree, frameOf, TV.av, TR.av, ints, edgs, prs, fillV, splice, intsOf, trees, V1.tree, bx, Gr.v, Pa.v, gluV]
  refine callS_tree hb.few ?_ ?_ ?_
  · rfl
  · rfl
  cases hf : fewC l g p m
  · simp [rn0, rn1, rn2, rn3, rn4, rn5, rn6, rn7, evOp, Arg.ev, St.val, St.set, St.new, sliceOf, binInt2, binInt, AV.cells, rdAt, St.live, retOf, resOf, resAll, treeOf, treeCell, treeCells, treeTups, untree, frameOf, TV.av, TR.av, ints, edgs, prs, fillV, splice, intsOf, trees, V1.tree, bx, Gr.v, Pa.v, hf]
    refine callS_tree awake_ok ?_ ?_ ?_
    · rfl
    · rfl
    simp [rn0, rn1, rn2, rn3, rn4, rn5, rn6, rn7, evOp, Arg.ev, St.val, St.set, St.new, sliceOf, binInt2, binInt, AV.cells, rdAt, St.live, retOf, resOf, resAll, treeOf, treeCell, treeCells, treeTups, untree, frameOf, TV.av, TR.av, ints, edgs, prs, fillV, splice, intsOf, trees, V1.tree, bx, Gr.v, Pa.v]
  have ht := tiny_few hf
  simp [rn0, rn1, rn2, rn3, rn4, rn5, rn6, rn7, evOp, Arg.ev, St.val, St.set, St.new, sliceOf, binInt2, binInt, AV.cells, rdAt, St.live, retOf, resOf, resAll, treeOf, treeCell, treeCells, treeTups, untree, frameOf, TV.av, TR.av, ints, edgs, prs, fillV, splice, intsOf, trees, V1.tree, bx, Gr.v, Pa.v, dw0, dw1, dw2, dw3, opRd, opWr, opNew, opNewR, opArgs, argsRd, argRd, Arg.rd, AV.refs, V1.refs, refsL, dstL, gluV, hf]
  refine callS_tree (few7_ok d 140 hu.1 hu.2) ?_ ?_ ?_
  · rfl
  · rfl
  cases hf2 : fewP d 140
  · simp [rn0, rn1, rn2, rn3, rn4, rn5, rn6, rn7, evOp, Arg.ev, St.val, St.set, St.new, sliceOf, binInt2, binInt, AV.cells, rdAt, St.live, retOf, resOf, resAll, treeOf, treeCell, treeCells, treeTups, untree, frameOf, TV.av, TR.av, ints, edgs, prs, fillV, splice, intsOf, trees, V1.tree, bx, Gr.v, Pa.v, hf2]
    refine callS_tree awake_ok ?_ ?_ ?_
    · rfl
    · rfl
    simp [rn0, rn1, rn2, rn3, rn4, rn5, rn6, rn7, evOp, Arg.ev, St.val, St.set, St.new, sliceOf, binInt2, binInt, AV.cells, rdAt, St.live, retOf, resOf, resAll, treeOf, treeCell, treeCells, treeTups, untree, frameOf, TV.av, TR.av, ints, edgs, prs, fillV, splice, intsOf, trees, V1.tree, bx, Gr.v, Pa.v]
  have hd : tinyP d := by
    simp [fewP] at hf2
    exact ⟨by simp only [tiny]; omega, by simp only [tiny]; omega⟩
  simp [rn0, rn1, rn2, rn3, rn4, rn5, rn6, rn7, evOp, Arg.ev, St.val, St.set, St.new, sliceOf, binInt2, binInt, AV.cells, rdAt, St.live, retOf, resOf, resAll, treeOf, treeCell, treeCells, treeTups, untree, frameOf, TV.av, TR.av, ints, edgs, prs, fillV, splice, intsOf, trees, V1.tree, bx, Gr.v, Pa.v, dw0, dw1, dw2, dw3, opRd, opWr, opNew, opNewR, opArgs, argsRd, argRd, Arg.rd, AV.refs, V1.refs, refsL, dstL, gluV, hf2]
  refine dCall_ok (copied_ok p ht.tp) ?_ ?_ ?_
  · rfl
  · rfl
  simp [rn0, rn1, rn2, rn3, rn4, rn5, rn6, rn7, evOp, Arg.ev, St.val, St.set, St.new, sliceOf, binInt2, binInt, AV.cells, rdAt, St.live, retOf, resOf, resAll, treeOf, treeCell, treeCells, treeTups, untree, frameOf, TV.av, TR.av, ints, edgs, prs, fillV, splice, intsOf, trees, V1.tree, bx, Gr.v, Pa.v, dw0, dw1, dw2, dw3, opRd, opWr, opNew, opNewR, opArgs, argsRd, argRd, Arg.rd, AV.refs, V1.refs, refsL, dstL, gluV]
  refine dCall_ok (copied_ok d hd) ?_ ?_ ?_
  · rfl
  · rfl
  simp [rn0, rn1, rn2, rn3, rn4, rn5, rn6, rn7, evOp, Arg.ev, St.val, St.set, St.new, sliceOf, binInt2, binInt, AV.cells, rdAt, St.live, retOf, resOf, resAll, treeOf, treeCell, treeCells, treeTups, untree, frameOf, TV.av, TR.av, ints, edgs, prs, fillV, splice, intsOf, trees, V1.tree, bx, Gr.v, Pa.v, dw0, dw1, dw2, dw3, opRd, opWr, opNew, opNewR, opArgs, argsRd, argRd, Arg.rd, AV.refs, V1.refs, refsL, dstL, gluV]
  refine dCall_ok (checkX_ok l g p m d ht hd) ?_ ?_ ?_
  · rfl
  · rfl
  simp [rn0, rn1, rn2, rn3, rn4, rn5, rn6, rn7, evOp, Arg.ev, St.val, St.set, St.new, sliceOf, binInt2, binInt, AV.cells, rdAt, St.live, retOf, resOf, resAll, treeOf, treeCell, treeCells, treeTups, untree, frameOf, TV.av, TR.av, ints, edgs, prs, fillV, splice, intsOf, trees, V1.tree, bx, Gr.v, Pa.v, dw0, dw1, dw2, dw3, opRd, opWr, opNew, opNewR, opArgs, argsRd, argRd, Arg.rd, AV.refs, V1.refs, refsL, dstL, gluV]
  refine dCall_ok (check12X_ok l g p m d ht hd) ?_ ?_ ?_
  · rfl
  · rfl
  simp [rn0, rn1, rn2, rn3, rn4, rn5, rn6, rn7, evOp, Arg.ev, St.val, St.set, St.new, sliceOf, binInt2, binInt, AV.cells, rdAt, St.live, retOf, resOf, resAll, treeOf, treeCell, treeCells, treeTups, untree, frameOf, TV.av, TR.av, ints, edgs, prs, fillV, splice, intsOf, trees, V1.tree, bx, Gr.v, Pa.v, dw0, dw1, dw2, dw3, opRd, opWr, opNew, opNewR, opArgs, argsRd, argRd, Arg.rd, AV.refs, V1.refs, refsL, dstL, gluV]
  rfl
end Go.Proofs.Ythapbbpdcjmmfaa
