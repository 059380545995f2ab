/-
  The law of a repaired case. No condition beyond those that each statement names.
-/
import Derived.Test.YthapbbpdcjmmfaaF22
namespace Go.Proofs.Ythapbbpdcjmmfaa
open Abs
set_option linter.unusedSimpArgs false
set_option linter.unusedVariables false

def c_lawRep : MFunc := ⟨99, [.tmp 2], .seq (.region [⟨some 1, .box 0 30 (.tmp 0), none⟩, ⟨some 2, .mv (.c (.one (.t (.bool false)))), none⟩]) (.seq (.seq (.region [⟨some 11, .call (.c (.one (.fn 10 []))) 64 [], none⟩, ⟨some 12, .not (.tmp 11), none⟩, ⟨some 13, .mv (.tmp 12), none⟩, ⟨some 14, .load true 8 (.tmp 1), some (13, false)⟩, ⟨some 15, .call (.c (.one (.fn 11 []))) 68 [.tmp 14], some (13, false)⟩, ⟨some 16, .not (.tmp 15), some (13, false)⟩, ⟨some 17, .pick (.tmp 13) (.c (.one (.t (.bool true)))) (.tmp 16), none⟩]) (.cond (.tmp 17) (.seq (.region [⟨some 18, .call (.c (.one (.fn 10 []))) 128 [], none⟩, ⟨some 2, .mv (.tmp 18), none⟩]) .ret) .skip)) (.seq (.draw [[], [0], [], [2], [], [4], [5], [], [7], [1, 3, 6, 8, 6], [9], [10], [10], [], [13, 11, 9, 0, 1, 2, 3, 4, 5, 6, 7, 8, 9, 10, 11, 13], [12, 14, 0, 1, 2, 3, 4, 5, 6, 7, 8, 9, 10, 11, 12, 13, 14]] [⟨some 20, .fieldA 0 (.tmp 1), none⟩, ⟨some 21, .load true 2 (.tmp 20), none⟩, ⟨some 22, .fieldA 2 (.tmp 1), none⟩, ⟨some 23, .load true 2 (.tmp 22), none⟩, ⟨some 24, .fieldA 4 (.tmp 1), none⟩, ⟨some 25, .load true 2 (.tmp 24), none⟩, ⟨some 26, .call (.c (.one (.fn 13 []))) 198 [.tmp 25], none⟩, ⟨some 27, .fieldA 6 (.tmp 1), none⟩, ⟨some 28, .load true 2 (.tmp 27), none⟩, ⟨some 29, .call (.c (.one (.fn 16 []))) 201 [.tmp 21, .tmp 23, .tmp 26, .tmp 28], none⟩, ⟨some 19, .mv (.tmp 29), none⟩, ⟨some 30, .extract (.tmp 19) 0, none⟩, ⟨some 31, .extract (.tmp 19) 1, none⟩, ⟨some 3, .alloc 205 27 [.nil, .nil], none⟩, ⟨none, .store 2 (.tmp 3) (.tmp 30), none⟩, ⟨some 4, .mv (.tmp 31), none⟩]) (.seq (.region [⟨some 33, .fieldA 0 (.tmp 1), none⟩, ⟨some 34, .load true 2 (.tmp 33), none⟩, ⟨some 35, .fieldA 2 (.tmp 1), none⟩, ⟨some 36, .load true 2 (.tmp 35), none⟩, ⟨some 37, .fieldA 4 (.tmp 1), none⟩, ⟨some 38, .load true 2 (.tmp 37), none⟩, ⟨some 39, .fieldA 6 (.tmp 1), none⟩, ⟨some 40, .load true 2 (.tmp 39), none⟩, ⟨some 41, .call (.c (.one (.fn 17 []))) 264 [.tmp 34, .tmp 36, .tmp 38, .tmp 40], none⟩, ⟨some 32, .mv (.tmp 41), none⟩, ⟨some 42, .extract (.tmp 32) 0, none⟩, ⟨some 43, .extract (.tmp 32) 1, none⟩, ⟨some 5, .alloc 268 27 [.nil, .nil], none⟩, ⟨none, .store 2 (.tmp 5) (.tmp 42), none⟩, ⟨some 6, .mv (.tmp 43), none⟩]) (.seq (.seq (.region [⟨some 44, .mv (.tmp 4), none⟩, ⟨some 45, .mv (.tmp 6), none⟩, ⟨some 46, .bin .neq (.tmp 44) (.tmp 45), none⟩, ⟨some 47, .mv (.tmp 46), none⟩, ⟨some 48, .load true 2 (.tmp 3), some (47, false)⟩, ⟨some 49, .load true 2 (.tmp 5), some (47, false)⟩, ⟨some 50, .call (.c (.one (.fn 15 []))) 326 [.tmp 48, .tmp 49], some (47, false)⟩, ⟨some 51, .not (.tmp 50), some (47, false)⟩, ⟨some 52, .pick (.tmp 47) (.c (.one (.t (.bool true)))) (.tmp 51), none⟩, ⟨some 53, .mv (.tmp 52), none⟩, ⟨some 54, .mv (.tmp 4), some (53, false)⟩, ⟨some 55, .bin .neq (.tmp 54) (.c (.one (.t (.int .i64 0)))), some (53, false)⟩, ⟨some 56, .pick (.tmp 53) (.c (.one (.t (.bool true)))) (.tmp 55), none⟩]) (.cond (.tmp 56) (.seq (.region [⟨some 57, .mv (.tmp 4), none⟩, ⟨some 58, .mv (.tmp 6), none⟩, ⟨some 59, .bin .eql (.tmp 57) (.tmp 58), none⟩, ⟨some 60, .mv (.tmp 59), none⟩, ⟨some 61, .load true 2 (.tmp 3), some (60, true)⟩, ⟨some 62, .load true 2 (.tmp 5), some (60, true)⟩, ⟨some 63, .call (.c (.one (.fn 15 []))) 390 [.tmp 61, .tmp 62], some (60, true)⟩, ⟨some 64, .pick (.tmp 60) (.tmp 63) (.c (.one (.t (.bool false)))), none⟩, ⟨some 2, .mv (.tmp 64), none⟩]) .ret) .skip)) (.seq (.region [⟨some 66, .fieldA 0 (.tmp 1), none⟩, ⟨some 67, .load true 2 (.tmp 66), none⟩, ⟨some 68, .fieldA 2 (.tmp 1), none⟩, ⟨some 69, .load true 2 (.tmp 68), none⟩, ⟨some 70, .fieldA 4 (.tmp 1), none⟩, ⟨some 71, .load true 2 (.tmp 70), none⟩, ⟨some 72, .fieldA 6 (.tmp 1), none⟩, ⟨some 73, .load true 2 (.tmp 72), none⟩, ⟨some 74, .call (.c (.one (.fn 12 []))) 456 [.tmp 67, .tmp 69, .tmp 71, .tmp 73], none⟩, ⟨some 65, .mv (.tmp 74), none⟩, ⟨some 75, .extract (.tmp 65) 0, none⟩, ⟨some 76, .extract (.tmp 65) 1, none⟩, ⟨some 7, .alloc 460 27 [.nil, .nil], none⟩, ⟨none, .store 2 (.tmp 7) (.tmp 75), none⟩, ⟨some 8, .mv (.tmp 76), none⟩]) (.seq (.region [⟨some 78, .fieldA 0 (.tmp 1), none⟩, ⟨some 79, .load true 2 (.tmp 78), none⟩, ⟨some 80, .fieldA 2 (.tmp 1), none⟩, ⟨some 81, .load true 2 (.tmp 80), none⟩, ⟨some 82, .load true 2 (.tmp 3), none⟩, ⟨some 83, .fieldA 6 (.tmp 1), none⟩, ⟨some 84, .load true 2 (.tmp 83), none⟩, ⟨some 85, .call (.c (.one (.fn 12 []))) 519 [.tmp 79, .tmp 81, .tmp 82, .tmp 84], none⟩, ⟨some 77, .mv (.tmp 85), none⟩, ⟨some 86, .extract (.tmp 77) 0, none⟩, ⟨some 87, .extract (.tmp 77) 1, none⟩, ⟨some 9, .alloc 523 27 [.nil, .nil], none⟩, ⟨none, .store 2 (.tmp 9) (.tmp 86), none⟩, ⟨some 10, .mv (.tmp 87), none⟩]) (.seq (.region [⟨some 88, .mv (.tmp 10), none⟩, ⟨some 89, .bin .eql (.tmp 88) (.c (.one (.t (.int .i64 0)))), none⟩, ⟨some 90, .mv (.tmp 89), none⟩, ⟨some 91, .mv (.tmp 8), some (90, true)⟩, ⟨some 92, .bin .eql (.tmp 91) (.c (.one (.t (.int .i64 0)))), some (90, true)⟩, ⟨some 93, .load true 2 (.tmp 3), some (90, true)⟩, ⟨some 94, .fieldA 4 (.tmp 1), some (90, true)⟩, ⟨some 95, .load true 2 (.tmp 94), some (90, true)⟩, ⟨some 96, .call (.c (.one (.fn 15 []))) 584 [.tmp 93, .tmp 95], some (90, true)⟩, ⟨some 97, .eqS false 0 (.tmp 92) (.tmp 96), some (90, true)⟩, ⟨some 98, .pick (.tmp 90) (.tmp 97) (.c (.one (.t (.bool false)))), none⟩, ⟨some 2, .mv (.tmp 98), none⟩]) .ret)))))))⟩
theorem k_lawRep : cFn Try.prog Try.f4 = some c_lawRep := by kernel_rfl
theorem lawRepair : CaseLaw 4 := by
  intro l g p m hb
  refine callOK_W (callS_W (by kernel_rfl) Try.func4 k_lawRep (callable_of Try.func4 (by kernel_rfl)) (by simp [c_lawRep]) ?_)
  simp [c_lawRep, rn0, rn1, rn2, rn3, rn4, rn5, rn6, rn7, evOp, Arg.ev, St.val, St.set, St.new, sliceOf, binInt2, binInt, AV.cells, rdAt, St.live, retOf, resOf, resAll, treeOf, treeCell, treeCells, treeTups, untree, frameOf, TV.av, TR.av, ints, edgs, prs, fillV, splice, intsOf, trees, V1.tree, bx, Gr.v, Pa.v, gluV]
  refine callS_tree awake_ok ?_ ?_ ?_
  · rfl
  · rfl
  simp [rn0, rn1, rn2, rn3, rn4, rn5, rn6, rn7, evOp, Arg.ev, St.val, St.set, St.new, sliceOf, binInt2, binInt, AV.cells, rdAt, St.live, retOf, resOf, resAll, treeOf, treeCell, treeCells, treeTups, untree, frameOf, TV.av, TR.av, ints, edgs, prs, fillV, splice, intsOf, trees, V1.tree, bx, Gr.v, Pa.v, gluV]
  refine callS_tree hb.few ?_ ?_ ?_
  · rfl
  · rfl
  cases hf : fewC l g p m
  · simp [rn0, rn1, rn2, rn3, rn4, rn5, rn6, rn7, evOp, Arg.ev, St.val, St.set, St.new, sliceOf, binInt2, binInt, AV.cells, rdAt, St.live, retOf, resOf, resAll, treeOf, treeCell, treeCells, treeTups, untree, frameOf, TV.av, TR.av, ints, edgs, prs, fillV, splice, intsOf, trees, V1.tree, bx, Gr.v, Pa.v, hf]
    refine callS_tree awake_ok ?_ ?_ ?_
    · rfl
    · rfl
    simp [rn0, rn1, rn2, rn3, rn4, rn5, rn6, rn7, evOp, Arg.ev, St.val, St.set, St.new, sliceOf, binInt2, binInt, AV.cells, rdAt, St.live, retOf, resOf, resAll, treeOf, treeCell, treeCells, treeTups, untree, frameOf, TV.av, TR.av, ints, edgs, prs, fillV, splice, intsOf, trees, V1.tree, bx, Gr.v, Pa.v]
  have ht := tiny_few hf
  simp [rn0, rn1, rn2, rn3, rn4, rn5, rn6, rn7, evOp, Arg.ev, St.val, St.set, St.new, sliceOf, binInt2, binInt, AV.cells, rdAt, St.live, retOf, resOf, resAll, treeOf, treeCell, treeCells, treeTups, untree, frameOf, TV.av, TR.av, ints, edgs, prs, fillV, splice, intsOf, trees, V1.tree, bx, Gr.v, Pa.v, dw0, dw1, dw2, dw3, opRd, opWr, opNew, opNewR, opArgs, argsRd, argRd, Arg.rd, AV.refs, V1.refs, refsL, dstL, gluV, hf]
  refine dCall_ok (copied_ok p ht.tp) ?_ ?_ ?_
  · rfl
  · rfl
  simp [rn0, rn1, rn2, rn3, rn4, rn5, rn6, rn7, evOp, Arg.ev, St.val, St.set, St.new, sliceOf, binInt2, binInt, AV.cells, rdAt, St.live, retOf, resOf, resAll, treeOf, treeCell, treeCells, treeTups, untree, frameOf, TV.av, TR.av, ints, edgs, prs, fillV, splice, intsOf, trees, V1.tree, bx, Gr.v, Pa.v, dw0, dw1, dw2, dw3, opRd, opWr, opNew, opNewR, opArgs, argsRd, argRd, Arg.rd, AV.refs, V1.refs, refsL, dstL, gluV]
  refine dCall_ok (repair_ok l g p m ht) ?_ ?_ ?_
  · rfl
  · rfl
  simp [rn0, rn1, rn2, rn3, rn4, rn5, rn6, rn7, evOp, Arg.ev, St.val, St.set, St.new, sliceOf, binInt2, binInt, AV.cells, rdAt, St.live, retOf, resOf, resAll, treeOf, treeCell, treeCells, treeTups, untree, frameOf, TV.av, TR.av, ints, edgs, prs, fillV, splice, intsOf, trees, V1.tree, bx, Gr.v, Pa.v, dw0, dw1, dw2, dw3, opRd, opWr, opNew, opNewR, opArgs, argsRd, argRd, Arg.rd, AV.refs, V1.refs, refsL, dstL, gluV]
  refine ⟨rfl, ?_⟩
  refine callS_tree (repair12_ok l g p m ht) ?_ ?_ ?_
  · rfl
  · rfl
  simp [rn0, rn1, rn2, rn3, rn4, rn5, rn6, rn7, evOp, Arg.ev, St.val, St.set, St.new, sliceOf, binInt2, binInt, AV.cells, rdAt, St.live, retOf, resOf, resAll, treeOf, treeCell, treeCells, treeTups, untree, frameOf, TV.av, TR.av, ints, edgs, prs, fillV, splice, intsOf, trees, V1.tree, bx, Gr.v, Pa.v, gluV]
  refine callS_tree (same7_ok (repR l g p m).1 (repR l g p m).1 (repR_tiny ht) (repR_tiny ht)) ?_ ?_ ?_
  · rfl
  · rfl
  by_cases h1 : caseErr l g p m = 0
  case neg =>
    have e : (repR l g p m).2 = caseErr l g p m := by simp [repR, h1]
    simp [rn0, rn1, rn2, rn3, rn4, rn5, rn6, rn7, evOp, Arg.ev, St.val, St.set, St.new, sliceOf, binInt2, binInt, AV.cells, rdAt, St.live, retOf, resOf, resAll, treeOf, treeCell, treeCells, treeTups, untree, frameOf, TV.av, TR.av, ints, edgs, prs, fillV, splice, intsOf, trees, V1.tree, bx, Gr.v, Pa.v, gluV, e, h1]
    refine callS_tree (same7_ok (repR l g p m).1 (repR l g p m).1 (repR_tiny ht) (repR_tiny ht)) ?_ ?_ ?_
    · rfl
    · rfl
    simp [rn0, rn1, rn2, rn3, rn4, rn5, rn6, rn7, evOp, Arg.ev, St.val, St.set, St.new, sliceOf, binInt2, binInt, AV.cells, rdAt, St.live, retOf, resOf, resAll, treeOf, treeCell, treeCells, treeTups, untree, frameOf, TV.av, TR.av, ints, edgs, prs, fillV, splice, intsOf, trees, V1.tree, bx, Gr.v, Pa.v]
  have e : (repR l g p m).2 = 0 := by simp [repR, h1]
  obtain ⟨q1, q2⟩ := repR_law h1
  have ht2 : TinyCase l g (repR l g p m).1 m := ⟨ht.tl, ht.tg, repR_tiny ht, ht.tm⟩
  simp [rn0, rn1, rn2, rn3, rn4, rn5, rn6, rn7, evOp, Arg.ev, St.val, St.set, St.new, sliceOf, binInt2, binInt, AV.cells, rdAt, St.live, retOf, resOf, resAll, treeOf, treeCell, treeCells, treeTups, untree, frameOf, TV.av, TR.av, ints, edgs, prs, fillV, splice, intsOf, trees, V1.tree, bx, Gr.v, Pa.v, gluV, e]
  refine callS_tree (of_ok l g p m ht) ?_ ?_ ?_
  · rfl
  · rfl
  simp [rn0, rn1, rn2, rn3, rn4, rn5, rn6, rn7, evOp, Arg.ev, St.val, St.set, St.new, sliceOf, binInt2, binInt, AV.cells, rdAt, St.live, retOf, resOf, resAll, treeOf, treeCell, treeCells, treeTups, untree, frameOf, TV.av, TR.av, ints, edgs, prs, fillV, splice, intsOf, trees, V1.tree, bx, Gr.v, Pa.v, gluV]
  refine callS_tree (of_ok l g (repR l g p m).1 m ht2) ?_ ?_ ?_
  · rfl
  · rfl
  simp [rn0, rn1, rn2, rn3, rn4, rn5, rn6, rn7, evOp, Arg.ev, St.val, St.set, St.new, sliceOf, binInt2, binInt, AV.cells, rdAt, St.live, retOf, resOf, resAll, treeOf, treeCell, treeCells, treeTups, untree, frameOf, TV.av, TR.av, ints, edgs, prs, fillV, splice, intsOf, trees, V1.tree, bx, Gr.v, Pa.v, gluV, q1]
  refine callS_tree (same7_ok (repR l g p m).1 p (repR_tiny ht) ht.tp) ?_ ?_ ?_
  · rfl
  · rfl
  by_cases h2 : (ofR l g p m).2 = 0
  · obtain ⟨e1, e2⟩ := q2.1 h2
    simp [rn0, rn1, rn2, rn3, rn4, rn5, rn6, rn7, evOp, Arg.ev, St.val, St.set, St.new, sliceOf, binInt2, binInt, AV.cells, rdAt, St.live, retOf, resOf, resAll, treeOf, treeCell, treeCells, treeTups, untree, frameOf, TV.av, TR.av, ints, edgs, prs, fillV, splice, intsOf, trees, V1.tree, bx, Gr.v, Pa.v, h2, e1, e2]
  · have : (decide ((repR l g p m).1.nodes = p.nodes) && decide ((repR l g p m).1.edges = p.edges)) = false := by
      rw [Bool.eq_false_iff]
      intro h
      simp at h
      exact h2 (q2.2 h)
    rw [this]
    simp [rn0, rn1, rn2, rn3, rn4, rn5, rn6, rn7, evOp, Arg.ev, St.val, St.set, St.new, sliceOf, binInt2, binInt, AV.cells, rdAt, St.live, retOf, resOf, resAll, treeOf, treeCell, treeCells, treeTups, untree, frameOf, TV.av, TR.av, ints, edgs, prs, fillV, splice, intsOf, trees, V1.tree, bx, Gr.v, Pa.v, h2]
end Go.Proofs.Ythapbbpdcjmmfaa
