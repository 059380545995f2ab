/-
  The example of the chapter holds. No condition beyond those that each statement names.
-/
import Derived.Test.YthapbbpdcjmmfaaF20
import Derived.Test.YthapbbpdcjmmfaaF14
namespace Go.Proofs.Ythapbbpdcjmmfaa
open Abs
set_option linter.unusedSimpArgs false
set_option linter.unusedVariables false

def exL : Gr := ⟨[0, 0], [⟨0, 0, 1⟩]⟩
def exG : Gr := ⟨[0, 0, 0], [⟨0, 0, 1⟩, ⟨0, 2, 1⟩]⟩
def exM : Pa := ⟨[0, 1], [0]⟩
theorem exOf : ofR exL exG ⟨[0, 1], []⟩ exM = (⟨[0, 1, 2], [1]⟩, 0) := by kernel_rfl
theorem exDangl : danglR exL exG ⟨[0], []⟩ exM = ([1], 0) := by kernel_rfl
theorem exRep : repR exL exG ⟨[0], []⟩ exM = (⟨[0, 1], []⟩, 0) := by kernel_rfl
theorem exTiny (p : Pa) (h : tinyP p) : TinyCase exL exG p exM := ⟨⟨by decide, by decide⟩, ⟨by decide, by decide⟩, h, ⟨by decide, by decide⟩⟩

def c_awake : MFunc := ⟨77, [.tmp 0], .seq (.region [⟨some 0, .mv (.c (.one (.t (.bool false)))), none⟩]) (.seq (.region [⟨some 10, .mkrow 64 3 1 2 [.t (.int .i64 0), .t (.int .i64 0)] [(0, (1, .c (.one (.t (.int .i64 0))))), (1, (1, .c (.one (.t (.int .i64 0)))))], none⟩, ⟨some 11, .build [.t (.int .i64 0), .t (.int .i64 0), .t (.int .i64 0)] [(1, (1, .c (.one (.t (.int .i64 0))))), (2, (1, .c (.one (.t (.int .i64 1)))))], none⟩, ⟨some 12, .mkrow 66 73 3 1 [.t (.int .i64 0), .t (.int .i64 0), .t (.int .i64 0)] [(0, (3, .tmp 11))], none⟩, ⟨some 13, .build [.nil, .nil] [(0, (1, .tmp 10)), (1, (1, .tmp 12))], none⟩, ⟨some 1, .alloc 68 25 [.nil, .nil], none⟩, ⟨none, .store 2 (.tmp 1) (.tmp 13), none⟩]) (.seq (.region [⟨some 14, .mkrow 128 3 1 3 [.t (.int .i64 0), .t (.int .i64 0), .t (.int .i64 0)] [(0, (1, .c (.one (.t (.int .i64 0))))), (1, (1, .c (.one (.t (.int .i64 0))))), (2, (1, .c (.one (.t (.int .i64 0)))))], none⟩, ⟨some 15, .build [.t (.int .i64 0), .t (.int .i64 0), .t (.int .i64 0)] [(1, (1, .c (.one (.t (.int .i64 0))))), (2, (1, .c (.one (.t (.int .i64 1)))))], none⟩, ⟨some 16, .build [.t (.int .i64 0), .t (.int .i64 0), .t (.int .i64 0)] [(1, (1, .c (.one (.t (.int .i64 2))))), (2, (1, .c (.one (.t (.int .i64 1)))))], none⟩, ⟨some 17, .mkrow 131 73 3 2 [.t (.int .i64 0), .t (.int .i64 0), .t (.int .i64 0), .t (.int .i64 0), .t (.int .i64 0), .t (.int .i64 0)] [(0, (3, .tmp 15)), (3, (3, .tmp 16))], none⟩, ⟨some 18, .build [.nil, .nil] [(0, (1, .tmp 14)), (1, (1, .tmp 17))], none⟩, ⟨some 2, .alloc 133 25 [.nil, .nil], none⟩, ⟨none, .store 2 (.tmp 2) (.tmp 18), none⟩]) (.seq (.region [⟨some 19, .mkrow 192 3 1 2 [.t (.int .i64 0), .t (.int .i64 0)] [(0, (1, .c (.one (.t (.int .i64 0))))), (1, (1, .c (.one (.t (.int .i64 1)))))], none⟩, ⟨some 20, .mkrow 193 3 1 1 [.t (.int .i64 0)] [(0, (1, .c (.one (.t (.int .i64 0)))))], none⟩, ⟨some 21, .build [.nil, .nil] [(0, (1, .tmp 19)), (1, (1, .tmp 20))], none⟩, ⟨some 3, .alloc 195 28 [.nil, .nil], none⟩, ⟨none, .store 2 (.tmp 3) (.tmp 21), none⟩]) (.seq (.region [⟨some 23, .load true 2 (.tmp 1), none⟩, ⟨some 24, .load true 2 (.tmp 2), none⟩, ⟨some 25, .mkrow 258 3 1 2 [.t (.int .i64 0), .t (.int .i64 0)] [(0, (1, .c (.one (.t (.int .i64 0))))), (1, (1, .c (.one (.t (.int .i64 1)))))], none⟩, ⟨some 26, .build [.nil, .nil] [(0, (1, .tmp 25))], none⟩, ⟨some 27, .load true 2 (.tmp 3), none⟩, ⟨some 28, .call (.c (.one (.fn 12 []))) 261 [.tmp 23, .tmp 24, .tmp 26, .tmp 27], none⟩, ⟨some 22, .mv (.tmp 28), none⟩, ⟨some 29, .extract (.tmp 22) 0, none⟩, ⟨some 30, .extract (.tmp 22) 1, none⟩, ⟨some 4, .alloc 265 27 [.nil, .nil], none⟩, ⟨none, .store 2 (.tmp 4) (.tmp 29), none⟩, ⟨some 5, .mv (.tmp 30), none⟩]) (.seq (.region [⟨some 32, .load true 2 (.tmp 1), none⟩, ⟨some 33, .load true 2 (.tmp 2), none⟩, ⟨some 34, .mkrow 322 3 1 1 [.t (.int .i64 0)] [(0, (1, .c (.one (.t (.int .i64 0)))))], none⟩, ⟨some 35, .build [.nil, .nil] [(0, (1, .tmp 34))], none⟩, ⟨some 36, .load true 2 (.tmp 3), none⟩, ⟨some 37, .call (.c (.one (.fn 23 []))) 325 [.tmp 32, .tmp 33, .tmp 35, .tmp 36], none⟩, ⟨some 31, .mv (.tmp 37), none⟩, ⟨some 38, .extract (.tmp 31) 0, none⟩, ⟨some 39, .extract (.tmp 31) 1, none⟩, ⟨some 6, .mv (.tmp 38), none⟩, ⟨some 7, .mv (.tmp 39), none⟩]) (.seq (.region [⟨some 41, .load true 2 (.tmp 1), none⟩, ⟨some 42, .load true 2 (.tmp 2), none⟩, ⟨some 43, .mkrow 386 3 1 1 [.t (.int .i64 0)] [(0, (1, .c (.one (.t (.int .i64 0)))))], none⟩, ⟨some 44, .build [.nil, .nil] [(0, (1, .tmp 43))], none⟩, ⟨some 45, .load true 2 (.tmp 3), none⟩, ⟨some 46, .call (.c (.one (.fn 16 []))) 389 [.tmp 41, .tmp 42, .tmp 44, .tmp 45], none⟩, ⟨some 40, .mv (.tmp 46), none⟩, ⟨some 47, .extract (.tmp 40) 0, none⟩, ⟨some 48, .extract (.tmp 40) 1, none⟩, ⟨some 8, .alloc 393 27 [.nil, .nil], none⟩, ⟨none, .store 2 (.tmp 8) (.tmp 47), none⟩, ⟨some 9, .mv (.tmp 48), none⟩]) (.seq (.region [⟨some 49, .mv (.tmp 5), none⟩, ⟨some 50, .bin .eql (.tmp 49) (.c (.one (.t (.int .i64 0)))), none⟩, ⟨some 51, .mv (.tmp 50), none⟩, ⟨some 52, .load true 2 (.tmp 4), some (51, true)⟩, ⟨some 53, .mkrow 452 3 1 3 [.t (.int .i64 0), .t (.int .i64 0), .t (.int .i64 0)] [(0, (1, .c (.one (.t (.int .i64 0))))), (1, (1, .c (.one (.t (.int .i64 1))))), (2, (1, .c (.one (.t (.int .i64 2)))))], some (51, true)⟩, ⟨some 54, .mkrow 453 3 1 1 [.t (.int .i64 0)] [(0, (1, .c (.one (.t (.int .i64 1)))))], some (51, true)⟩, ⟨some 55, .build [.nil, .nil] [(0, (1, .tmp 53)), (1, (1, .tmp 54))], some (51, true)⟩, ⟨some 56, .call (.c (.one (.fn 15 []))) 455 [.tmp 52, .tmp 55], some (51, true)⟩, ⟨some 57, .pick (.tmp 51) (.tmp 56) (.c (.one (.t (.bool false)))), none⟩, ⟨some 58, .mv (.tmp 57), none⟩, ⟨some 59, .mv (.tmp 7), some (58, true)⟩, ⟨some 60, .bin .eql (.tmp 59) (.c (.one (.t (.int .i64 0)))), some (58, true)⟩, ⟨some 61, .pick (.tmp 58) (.tmp 60) (.c (.one (.t (.bool false)))), none⟩, ⟨some 62, .mv (.tmp 61), none⟩, ⟨some 63, .mv (.tmp 6), some (62, true)⟩, ⟨some 64, .mkrow 463 3 1 1 [.t (.int .i64 0)] [(0, (1, .c (.one (.t (.int .i64 1)))))], some (62, true)⟩, ⟨some 65, .call (.c (.one (.fn 27 []))) 464 [.tmp 63, .tmp 64], some (62, true)⟩, ⟨some 66, .pick (.tmp 62) (.tmp 65) (.c (.one (.t (.bool false)))), none⟩, ⟨some 67, .mv (.tmp 66), none⟩, ⟨some 68, .mv (.tmp 9), some (67, true)⟩, ⟨some 69, .bin .eql (.tmp 68) (.c (.one (.t (.int .i64 0)))), some (67, true)⟩, ⟨some 70, .pick (.tmp 67) (.tmp 69) (.c (.one (.t (.bool false)))), none⟩, ⟨some 71, .mv (.tmp 70), none⟩, ⟨some 72, .load true 2 (.tmp 8), some (71, true)⟩, ⟨some 73, .mkrow 472 3 1 2 [.t (.int .i64 0), .t (.int .i64 0)] [(0, (1, .c (.one (.t (.int .i64 0))))), (1, (1, .c (.one (.t (.int .i64 1)))))], some (71, true)⟩, ⟨some 74, .build [.nil, .nil] [(0, (1, .tmp 73))], some (71, true)⟩, ⟨some 75, .call (.c (.one (.fn 15 []))) 474 [.tmp 72, .tmp 74], some (71, true)⟩, ⟨some 76, .pick (.tmp 71) (.tmp 75) (.c (.one (.t (.bool false)))), none⟩, ⟨some 0, .mv (.tmp 76), none⟩]) .ret)))))))⟩
theorem k_awake : cFn Try.prog Try.f10 = some c_awake := by kernel_rfl
theorem awake_ok : Awake := by
  refine callOK_W (callS_W (by kernel_rfl) Try.func10 k_awake (callable_of Try.func10 (by kernel_rfl)) (by simp [c_awake]) ?_)
  simp [c_awake, rn0, rn1, rn2, rn3, rn4, rn5, rn6, rn7, evOp, Arg.ev, St.val, St.set, St.new, sliceOf, binInt2, binInt, AV.cells, rdAt, St.live, retOf, resOf, resAll, treeOf, treeCell, treeCells, treeTups, untree, frameOf, TV.av, TR.av, ints, edgs, prs, fillV, splice, intsOf, trees, V1.tree, bx, Gr.v, Pa.v]
  refine callS_freeze [(64, 0), (66, 0), (128, 0), (131, 0), (192, 0), (193, 0), (258, 0)] (callS_tree (of_ok exL exG ⟨[0, 1], []⟩ exM (exTiny _ ⟨by decide, by decide⟩)) ?_ ?_ ?_)
  · rfl
  · rfl
  rw [exOf]
  simp [rn0, rn1, rn2, rn3, rn4, rn5, rn6, rn7, evOp, Arg.ev, St.val, St.set, St.new, sliceOf, binInt2, binInt, AV.cells, rdAt, St.live, retOf, resOf, resAll, treeOf, treeCell, treeCells, treeTups, untree, frameOf, TV.av, TR.av, ints, edgs, prs, fillV, splice, intsOf, trees, V1.tree, bx, Gr.v, Pa.v, frzAll, frzOne]
  refine callS_freeze [(322, 0)] (callS_tree (dangX_ok exL exG ⟨[0], []⟩ exM (exTiny _ ⟨by decide, by decide⟩)) ?_ ?_ ?_)
  · rfl
  · rfl
  rw [exDangl]
  simp [rn0, rn1, rn2, rn3, rn4, rn5, rn6, rn7, evOp, Arg.ev, St.val, St.set, St.new, sliceOf, binInt2, binInt, AV.cells, rdAt, St.live, retOf, resOf, resAll, treeOf, treeCell, treeCells, treeTups, untree, frameOf, TV.av, TR.av, ints, edgs, prs, fillV, splice, intsOf, trees, V1.tree, bx, Gr.v, Pa.v, frzAll, frzOne]
  refine callS_freeze [(386, 0)] (callS_tree (repair_ok exL exG ⟨[0], []⟩ exM (exTiny _ ⟨by decide, by decide⟩)) ?_ ?_ ?_)
  · rfl
  · rfl
  rw [exRep]
  simp [rn0, rn1, rn2, rn3, rn4, rn5, rn6, rn7, evOp, Arg.ev, St.val, St.set, St.new, sliceOf, binInt2, binInt, AV.cells, rdAt, St.live, retOf, resOf, resAll, treeOf, treeCell, treeCells, treeTups, untree, frameOf, TV.av, TR.av, ints, edgs, prs, fillV, splice, intsOf, trees, V1.tree, bx, Gr.v, Pa.v, frzAll, frzOne]
  refine callS_tree (same7_ok ⟨[0, 1, 2], [1]⟩ ⟨[0, 1, 2], [1]⟩ ⟨by decide, by decide⟩ ⟨by decide, by decide⟩) ?_ ?_ ?_
  · rfl
  · rfl
  simp [rn0, rn1, rn2, rn3, rn4, rn5, rn6, rn7, evOp, Arg.ev, St.val, St.set, St.new, sliceOf, binInt2, binInt, AV.cells, rdAt, St.live, retOf, resOf, resAll, treeOf, treeCell, treeCells, treeTups, untree, frameOf, TV.av, TR.av, ints, edgs, prs, fillV, splice, intsOf, trees, V1.tree, bx, Gr.v, Pa.v]
  refine callS_tree (equal_ok [1] [1] (by decide) (by decide)) ?_ ?_ ?_
  · rfl
  · rfl
  simp [rn0, rn1, rn2, rn3, rn4, rn5, rn6, rn7, evOp, Arg.ev, St.val, St.set, St.new, sliceOf, binInt2, binInt, AV.cells, rdAt, St.live, retOf, resOf, resAll, treeOf, treeCell, treeCells, treeTups, untree, frameOf, TV.av, TR.av, ints, edgs, prs, fillV, splice, intsOf, trees, V1.tree, bx, Gr.v, Pa.v]
  refine callS_tree (same7_ok ⟨[0, 1], []⟩ ⟨[0, 1], []⟩ ⟨by decide, by decide⟩ ⟨by decide, by decide⟩) ?_ ?_ ?_
  · rfl
  · rfl
  simp [rn0, rn1, rn2, rn3, rn4, rn5, rn6, rn7, evOp, Arg.ev, St.val, St.set, St.new, sliceOf, binInt2, binInt, AV.cells, rdAt, St.live, retOf, resOf, resAll, treeOf, treeCell, treeCells, treeTups, untree, frameOf, TV.av, TR.av, ints, edgs, prs, fillV, splice, intsOf, trees, V1.tree, bx, Gr.v, Pa.v]

theorem lawOf : CaseLaw 3 := lawOf_ok awake_ok
end Go.Proofs.Ythapbbpdcjmmfaa
