/-
  Contracts: morphisms in the reference; the errors of the arguments. No condition beyond those that each statement names.
-/
import Derived.Test.YthapbbpdcjmmfaaF6
namespace Go.Proofs.Ythapbbpdcjmmfaa
open Abs
set_option linter.unusedSimpArgs false
set_option linter.unusedVariables false

def c_rvalid6 : MFunc := ⟨141, [.tmp 6], .seq (.region [⟨some 3, .box 0 25 (.tmp 0), none⟩, ⟨some 4, .box 1 25 (.tmp 1), none⟩, ⟨some 5, .box 2 28 (.tmp 2), none⟩, ⟨some 6, .mv (.c (.one (.t (.int .i64 0)))), none⟩]) (.seq (.seq (.region [⟨some 13, .load true 2 (.tmp 3), none⟩, ⟨some 14, .call (.c (.one (.fn 77 []))) 65 [.tmp 13], none⟩, ⟨some 7, .mv (.tmp 14), none⟩]) (.seq (.region [⟨some 15, .mv (.tmp 7), none⟩, ⟨some 16, .bin .neq (.tmp 15) (.c (.one (.t (.int .i64 0)))), none⟩]) (.cond (.tmp 16) (.seq (.region [⟨some 17, .mv (.tmp 7), none⟩, ⟨some 6, .mv (.tmp 17), none⟩]) .ret) .skip))) (.seq (.seq (.region [⟨some 18, .load true 2 (.tmp 4), none⟩, ⟨some 19, .call (.c (.one (.fn 77 []))) 257 [.tmp 18], none⟩, ⟨some 8, .mv (.tmp 19), none⟩]) (.seq (.region [⟨some 20, .mv (.tmp 8), none⟩, ⟨some 21, .bin .neq (.tmp 20) (.c (.one (.t (.int .i64 0)))), none⟩]) (.cond (.tmp 21) (.seq (.region [⟨some 22, .mv (.tmp 8), none⟩, ⟨some 6, .mv (.tmp 22), none⟩]) .ret) .skip))) (.seq (.seq (.region [⟨some 23, .fieldA 0 (.tmp 5), none⟩, ⟨some 24, .load false 1 (.tmp 23), none⟩, ⟨some 25, .len (.tmp 24), none⟩, ⟨some 26, .fieldA 0 (.tmp 3), none⟩, ⟨some 27, .load false 1 (.tmp 26), none⟩, ⟨some 28, .len (.tmp 27), none⟩, ⟨some 29, .bin .neq (.tmp 25) (.tmp 28), none⟩, ⟨some 30, .mv (.tmp 29), none⟩, ⟨some 31, .fieldA 1 (.tmp 5), some (30, false)⟩, ⟨some 32, .load false 1 (.tmp 31), some (30, false)⟩, ⟨some 33, .len (.tmp 32), some (30, false)⟩, ⟨some 34, .fieldA 1 (.tmp 3), some (30, false)⟩, ⟨some 35, .load false 1 (.tmp 34), some (30, false)⟩, ⟨some 36, .len (.tmp 35), some (30, false)⟩, ⟨some 37, .bin .neq (.tmp 33) (.tmp 36), some (30, false)⟩, ⟨some 38, .pick (.tmp 30) (.c (.one (.t (.bool true)))) (.tmp 37), none⟩]) (.cond (.tmp 38) (.seq (.region [⟨some 6, .mv (.c (.one (.t (.int .i64 20)))), none⟩]) .ret) .skip)) (.seq (.seq (.region [⟨some 9, .mv (.c (.one (.t (.int .i64 0)))), none⟩]) (.block 0 (.loop (.seq (.seq (.region [⟨some 39, .mv (.tmp 9), none⟩, ⟨some 40, .fieldA 0 (.tmp 3), none⟩, ⟨some 41, .load false 1 (.tmp 40), none⟩, ⟨some 42, .len (.tmp 41), none⟩, ⟨some 43, .bin .lss (.tmp 39) (.tmp 42), none⟩]) (.cond (.tmp 43) .skip (.exit 0))) (.seq (.block 1 (.seq (.seq (.draw [[], [0], [], [1, 2], [3], [4], [5], [6], [7, 6], [6], [8, 9, 6], [10, 6], [6], [12, 6], [13, 6], [11, 14, 6], [6, 15]] [⟨some 46, .fieldA 0 (.tmp 5), none⟩, ⟨some 47, .load false 1 (.tmp 46), none⟩, ⟨some 48, .mv (.tmp 9), none⟩, ⟨some 49, .idxA 1 (.tmp 47) (.tmp 48), none⟩, ⟨some 50, .load false 1 (.tmp 49), none⟩, ⟨some 51, .bin .lss (.tmp 50) (.c (.one (.t (.int .i64 0)))), none⟩, ⟨some 52, .mv (.tmp 51), none⟩, ⟨some 53, .fieldA 0 (.tmp 5), some (52, false)⟩, ⟨some 54, .load false 1 (.tmp 53), some (52, false)⟩, ⟨some 55, .mv (.tmp 9), some (52, false)⟩, ⟨some 56, .idxA 1 (.tmp 54) (.tmp 55), some (52, false)⟩, ⟨some 57, .load false 1 (.tmp 56), some (52, false)⟩, ⟨some 58, .fieldA 0 (.tmp 4), some (52, false)⟩, ⟨some 59, .load false 1 (.tmp 58), some (52, false)⟩, ⟨some 60, .len (.tmp 59), some (52, false)⟩, ⟨some 61, .bin .geq (.tmp 57) (.tmp 60), some (52, false)⟩, ⟨some 62, .pick (.tmp 52) (.c (.one (.t (.bool true)))) (.tmp 61), none⟩]) (.cond (.tmp 62) (.seq (.region [⟨some 6, .mv (.c (.one (.t (.int .i64 6)))), none⟩]) .ret) .skip)) (.seq (.draw [[], [0], [], [2], [], [3, 4], [5], [1, 6], [7], [], [9], [], [10, 11], [12], [8, 13]] [⟨some 63, .fieldA 0 (.tmp 4), none⟩, ⟨some 64, .load false 1 (.tmp 63), none⟩, ⟨some 65, .fieldA 0 (.tmp 5), none⟩, ⟨some 66, .load false 1 (.tmp 65), none⟩, ⟨some 67, .mv (.tmp 9), none⟩, ⟨some 68, .idxA 1 (.tmp 66) (.tmp 67), none⟩, ⟨some 69, .load false 1 (.tmp 68), none⟩, ⟨some 70, .idxA 1 (.tmp 64) (.tmp 69), none⟩, ⟨some 71, .load false 1 (.tmp 70), none⟩, ⟨some 72, .fieldA 0 (.tmp 3), none⟩, ⟨some 73, .load false 1 (.tmp 72), none⟩, ⟨some 74, .mv (.tmp 9), none⟩, ⟨some 75, .idxA 1 (.tmp 73) (.tmp 74), none⟩, ⟨some 76, .load false 1 (.tmp 75), none⟩, ⟨some 77, .bin .neq (.tmp 71) (.tmp 76), none⟩]) (.cond (.tmp 77) (.seq (.region [⟨some 6, .mv (.c (.one (.t (.int .i64 13)))), none⟩]) .ret) .skip)))) (.region [⟨some 44, .mv (.tmp 9), none⟩, ⟨some 45, .bin .add (.tmp 44) (.c (.one (.t (.int .i64 1)))), none⟩, ⟨some 9, .mv (.tmp 45), none⟩])))))) (.seq (.seq (.region [⟨some 10, .mv (.c (.one (.t (.int .i64 0)))), none⟩]) (.block 2 (.loop (.seq (.seq (.region [⟨some 78, .mv (.tmp 10), none⟩, ⟨some 79, .fieldA 1 (.tmp 3), none⟩, ⟨some 80, .load false 1 (.tmp 79), none⟩, ⟨some 81, .len (.tmp 80), none⟩, ⟨some 82, .bin .lss (.tmp 78) (.tmp 81), none⟩]) (.cond (.tmp 82) .skip (.exit 2))) (.seq (.block 3 (.seq (.seq (.draw [[], [0], [], [1, 2], [3], [4], [5], [6], [7, 6], [6], [8, 9, 6], [10, 6], [6], [12, 6], [13, 6], [11, 14, 6], [6, 15]] [⟨some 85, .fieldA 1 (.tmp 5), none⟩, ⟨some 86, .load false 1 (.tmp 85), none⟩, ⟨some 87, .mv (.tmp 10), none⟩, ⟨some 88, .idxA 1 (.tmp 86) (.tmp 87), none⟩, ⟨some 89, .load false 1 (.tmp 88), none⟩, ⟨some 90, .bin .lss (.tmp 89) (.c (.one (.t (.int .i64 0)))), none⟩, ⟨some 91, .mv (.tmp 90), none⟩, ⟨some 92, .fieldA 1 (.tmp 5), some (91, false)⟩, ⟨some 93, .load false 1 (.tmp 92), some (91, false)⟩, ⟨some 94, .mv (.tmp 10), some (91, false)⟩, ⟨some 95, .idxA 1 (.tmp 93) (.tmp 94), some (91, false)⟩, ⟨some 96, .load false 1 (.tmp 95), some (91, false)⟩, ⟨some 97, .fieldA 1 (.tmp 4), some (91, false)⟩, ⟨some 98, .load false 1 (.tmp 97), some (91, false)⟩, ⟨some 99, .len (.tmp 98), some (91, false)⟩, ⟨some 100, .bin .geq (.tmp 96) (.tmp 99), some (91, false)⟩, ⟨some 101, .pick (.tmp 91) (.c (.one (.t (.bool true)))) (.tmp 100), none⟩]) (.cond (.tmp 101) (.seq (.region [⟨some 6, .mv (.c (.one (.t (.int .i64 6)))), none⟩]) .ret) .skip)) (.seq (.draw [[], [0], [], [1, 2], [3], [], [5], [], [7], [], [8, 9], [10], [6, 11], [12], [], [], [14, 4, 0, 1, 2, 3, 4, 14, 15], [15, 13, 16, 0, 1, 2, 3, 4, 5, 6, 7, 8, 9, 10, 11, 12, 13, 14, 15, 16]] [⟨some 102, .fieldA 1 (.tmp 3), none⟩, ⟨some 103, .load false 1 (.tmp 102), none⟩, ⟨some 104, .mv (.tmp 10), none⟩, ⟨some 105, .idxA 3 (.tmp 103) (.tmp 104), none⟩, ⟨some 106, .load true 3 (.tmp 105), none⟩, ⟨some 107, .fieldA 1 (.tmp 4), none⟩, ⟨some 108, .load false 1 (.tmp 107), none⟩, ⟨some 109, .fieldA 1 (.tmp 5), none⟩, ⟨some 110, .load false 1 (.tmp 109), none⟩, ⟨some 111, .mv (.tmp 10), none⟩, ⟨some 112, .idxA 1 (.tmp 110) (.tmp 111), none⟩, ⟨some 113, .load false 1 (.tmp 112), none⟩, ⟨some 114, .idxA 3 (.tmp 108) (.tmp 113), none⟩, ⟨some 115, .load true 3 (.tmp 114), none⟩, ⟨some 11, .alloc 1358 73 [.t (.int .i64 0), .t (.int .i64 0), .t (.int .i64 0)], none⟩, ⟨some 12, .alloc 1359 73 [.t (.int .i64 0), .t (.int .i64 0), .t (.int .i64 0)], none⟩, ⟨none, .store 3 (.tmp 11) (.tmp 106), none⟩, ⟨none, .store 3 (.tmp 12) (.tmp 115), none⟩]) (.seq (.seq (.region [⟨some 116, .fieldA 0 (.tmp 11), none⟩, ⟨some 117, .load false 1 (.tmp 116), none⟩, ⟨some 118, .fieldA 0 (.tmp 12), none⟩, ⟨some 119, .load false 1 (.tmp 118), none⟩, ⟨some 120, .bin .neq (.tmp 117) (.tmp 119), none⟩]) (.cond (.tmp 120) (.seq (.region [⟨some 6, .mv (.c (.one (.t (.int .i64 13)))), none⟩]) .ret) .skip)) (.seq (.draw [[], [0], [], [2], [1, 3], [4], [], [6], [5, 7], [8], [9], [10, 9], [9], [12, 9], [11, 13, 9], [14, 9], [9], [16, 9], [15, 17, 9], [9, 18]] [⟨some 121, .fieldA 0 (.tmp 5), none⟩, ⟨some 122, .load false 1 (.tmp 121), none⟩, ⟨some 123, .fieldA 1 (.tmp 11), none⟩, ⟨some 124, .load false 1 (.tmp 123), none⟩, ⟨some 125, .idxA 1 (.tmp 122) (.tmp 124), none⟩, ⟨some 126, .load false 1 (.tmp 125), none⟩, ⟨some 127, .fieldA 1 (.tmp 12), none⟩, ⟨some 128, .load false 1 (.tmp 127), none⟩, ⟨some 129, .bin .neq (.tmp 126) (.tmp 128), none⟩, ⟨some 130, .mv (.tmp 129), none⟩, ⟨some 131, .fieldA 0 (.tmp 5), some (130, false)⟩, ⟨some 132, .load false 1 (.tmp 131), some (130, false)⟩, ⟨some 133, .fieldA 2 (.tmp 11), some (130, false)⟩, ⟨some 134, .load false 1 (.tmp 133), some (130, false)⟩, ⟨some 135, .idxA 1 (.tmp 132) (.tmp 134), some (130, false)⟩, ⟨some 136, .load false 1 (.tmp 135), some (130, false)⟩, ⟨some 137, .fieldA 2 (.tmp 12), some (130, false)⟩, ⟨some 138, .load false 1 (.tmp 137), some (130, false)⟩, ⟨some 139, .bin .neq (.tmp 136) (.tmp 138), some (130, false)⟩, ⟨some 140, .pick (.tmp 130) (.c (.one (.t (.bool true)))) (.tmp 139), none⟩]) (.cond (.tmp 140) (.seq (.region [⟨some 6, .mv (.c (.one (.t (.int .i64 11)))), none⟩]) .ret) .skip)))))) (.region [⟨some 83, .mv (.tmp 10), none⟩, ⟨some 84, .bin .add (.tmp 83) (.c (.one (.t (.int .i64 1)))), none⟩, ⟨some 10, .mv (.tmp 84), none⟩])))))) (.seq (.region [⟨some 6, .mv (.c (.one (.t (.int .i64 0)))), none⟩]) .ret))))))⟩
theorem k_rvalid6 : cFn Try.prog Try.f72 = some c_rvalid6 := by kernel_rfl
theorem rvalid6_ok (a b : Gr) (m : Pa) (ha : tinyG a) (hb : tinyG b) (hm : tinyP m) : CallOK Try.prog 72 [a.v, b.v, m.v] (.sv (false, [.int .i64 (morErr a b m)])) := by
  refine callOK_W (callS_W (by kernel_rfl) Try.func72 k_rvalid6 (callable_of Try.func72 (by kernel_rfl)) (by simp [c_rvalid6]) ?_)
  simp [c_rvalid6, rn0, rn1, rn2, rn3, rn4, rn5, rn6, rn7, evOp, Arg.ev, St.val, St.set, St.new, sliceOf, binInt2, binInt, AV.cells, rdAt, St.live, retOf, resOf, resAll, treeOf, treeCell, treeCells, treeTups, untree, frameOf, TV.av, TR.av, ints, edgs, prs, fillV, splice, intsOf, trees, V1.tree, bx, Gr.v, Pa.v]
  refine callS_tree (rvalid_ok a ha.1.small ha.2.small) ?_ ?_ ?_
  · rfl
  · rfl
  by_cases h1 : gErr a = 0
  case neg => simp [rn0, rn1, rn2, rn3, rn4, rn5, rn6, rn7, evOp, Arg.ev, St.val, St.set, St.new, sliceOf, binInt2, binInt, AV.cells, rdAt, St.live, retOf, resOf, resAll, treeOf, treeCell, treeCells, treeTups, untree, frameOf, TV.av, TR.av, ints, edgs, prs, fillV, splice, intsOf, trees, V1.tree, bx, Gr.v, Pa.v, h1, morErr]
  simp [rn0, rn1, rn2, rn3, rn4, rn5, rn6, rn7, evOp, Arg.ev, St.val, St.set, St.new, sliceOf, binInt2, binInt, AV.cells, rdAt, St.live, retOf, resOf, resAll, treeOf, treeCell, treeCells, treeTups, untree, frameOf, TV.av, TR.av, ints, edgs, prs, fillV, splice, intsOf, trees, V1.tree, bx, Gr.v, Pa.v, h1]
  refine callS_tree (rvalid_ok b hb.1.small hb.2.small) ?_ ?_ ?_
  · rfl
  · rfl
  by_cases h2 : gErr b = 0
  case neg => simp [rn0, rn1, rn2, rn3, rn4, rn5, rn6, rn7, evOp, Arg.ev, St.val, St.set, St.new, sliceOf, binInt2, binInt, AV.cells, rdAt, St.live, retOf, resOf, resAll, treeOf, treeCell, treeCells, treeTups, untree, frameOf, TV.av, TR.av, ints, edgs, prs, fillV, splice, intsOf, trees, V1.tree, bx, Gr.v, Pa.v, h1, h2, morErr]
  by_cases h3 : (m.nodes.length : Int) = a.nodes.length
  case neg => simp [rn0, rn1, rn2, rn3, rn4, rn5, rn6, rn7, evOp, Arg.ev, St.val, St.set, St.new, sliceOf, binInt2, binInt, AV.cells, rdAt, St.live, retOf, resOf, resAll, treeOf, treeCell, treeCells, treeTups, untree, frameOf, TV.av, TR.av, ints, edgs, prs, fillV, splice, intsOf, trees, V1.tree, bx, Gr.v, Pa.v, h1, h2, h3, morErr]
  by_cases h4 : (m.edges.length : Int) = a.edges.length
  case neg => simp [rn0, rn1, rn2, rn3, rn4, rn5, rn6, rn7, evOp, Arg.ev, St.val, St.set, St.new, sliceOf, binInt2, binInt, AV.cells, rdAt, St.live, retOf, resOf, resAll, treeOf, treeCell, treeCells, treeTups, untree, frameOf, TV.av, TR.av, ints, edgs, prs, fillV, splice, intsOf, trees, V1.tree, bx, Gr.v, Pa.v, h1, h2, h3, h4, morErr]
  simp [rn0, rn1, rn2, rn3, rn4, rn5, rn6, rn7, evOp, Arg.ev, St.val, St.set, St.new, sliceOf, binInt2, binInt, AV.cells, rdAt, St.live, retOf, resOf, resAll, treeOf, treeCell, treeCells, treeTups, untree, frameOf, TV.av, TR.av, ints, edgs, prs, fillV, splice, intsOf, trees, V1.tree, bx, Gr.v, Pa.v, h2, h3, h4]
  have e0 : morErr a b m = if fe (mnF a b m) m.nodes.length = 0 then fe (meF a b m) m.edges.length else fe (mnF a b m) m.nodes.length := by simp [morErr, h1, h2, h3, h4]
  have ga := gErr_ok h1
  have gb := gErr_ok h2
  have l3 : m.nodes.length = a.nodes.length := by omega
  have l4 : m.edges.length = a.edges.length := by omega
  refine loopW_count 9 m.nodes.length (fun k S => S.fr 3 = .one (.ptr (0, 0) 0) ∧ S.fr 4 = .one (.ptr (1, 0) 0) ∧ S.fr 5 = .one (.ptr (2, 0) 0) ∧
    S.ob (0, 0) = some (bx 25 (a.v.2.map .t)) ∧ S.ob (1, 0) = some (bx 25 (b.v.2.map .t)) ∧ S.ob (2, 0) = some (bx 28 (m.v.2.map .t)) ∧ ∀ j, j < k → mnF a b m j = 0) hm.1.small ?_ ?_ ?_
  · simp [rn0, rn1, rn2, rn3, rn4, rn5, rn6, rn7, evOp, Arg.ev, St.val, St.set, St.new, sliceOf, binInt2, binInt, AV.cells, rdAt, St.live, retOf, resOf, resAll, treeOf, treeCell, treeCells, treeTups, untree, frameOf, TV.av, TR.av, ints, edgs, prs, fillV, splice, intsOf, trees, V1.tree, bx, Gr.v, Pa.v, h3]
  · rintro k S hlt hw hc ⟨f3, f4, f5, o0, o1, o2, hp⟩
    have bad : mnF a b m k ≠ 0 → morErr a b m = mnF a b m k := fun h => by
      have := fe_at (n := m.nodes.length) hlt hp h
      rw [e0, this, if_neg h]
    have hlt2 : k < a.nodes.length := by omega
    by_cases e1 : nth m.nodes k < 0
    · have := bad (by simp [mnF, e1])
      rw [show mnF a b m k = 6 by simp [mnF, e1]] at this
      simp [rn0, rn1, rn2, rn3, rn4, rn5, rn6, rn7, evOp, Arg.ev, St.val, St.set, St.new, sliceOf, binInt2, binInt, AV.cells, rdAt, St.live, retOf, resOf, resAll, treeOf, treeCell, treeCells, treeTups, untree, frameOf, TV.av, TR.av, ints, edgs, prs, fillV, splice, intsOf, trees, V1.tree, bx, Gr.v, Pa.v, dw0, dw1, dw2, dw3, opRd, opWr, opNew, opNewR, opArgs, argsRd, argRd, Arg.rd, AV.refs, V1.refs, refsL, dstL, f3, f4, f5, o0, o1, o2, hc, hlt, hlt2, drop_nth hlt, e1, this]
      rfl
    by_cases e2 : (b.nodes.length : Int) ≤ nth m.nodes k
    · have := bad (by simp [mnF, e1, e2])
      rw [show mnF a b m k = 6 by simp [mnF, e1, e2]] at this
      simp [rn0, rn1, rn2, rn3, rn4, rn5, rn6, rn7, evOp, Arg.ev, St.val, St.set, St.new, sliceOf, binInt2, binInt, AV.cells, rdAt, St.live, retOf, resOf, resAll, treeOf, treeCell, treeCells, treeTups, untree, frameOf, TV.av, TR.av, ints, edgs, prs, fillV, splice, intsOf, trees, V1.tree, bx, Gr.v, Pa.v, dw0, dw1, dw2, dw3, opRd, opWr, opNew, opNewR, opArgs, argsRd, argRd, Arg.rd, AV.refs, V1.refs, refsL, dstL, f3, f4, f5, o0, o1, o2, hc, hlt, hlt2, drop_nth hlt, e1, e2, this]
      rfl
    obtain ⟨x, hx⟩ := Int.eq_ofNat_of_zero_le (show 0 ≤ nth m.nodes k by omega)
    have hx2 : x < b.nodes.length := by omega
    have e2' : ¬ b.nodes.length ≤ x := by omega
    by_cases e3 : nth b.nodes x = nth a.nodes k
    case neg =>
      have := bad (by simp [mnF, natNeg, e2', hx, e3])
      rw [show mnF a b m k = 13 by simp [mnF, natNeg, e2', hx, e3]] at this
      simp [rn0, rn1, rn2, rn3, rn4, rn5, rn6, rn7, evOp, Arg.ev, St.val, St.set, St.new, sliceOf, binInt2, binInt, AV.cells, rdAt, St.live, retOf, resOf, resAll, treeOf, treeCell, treeCells, treeTups, untree, frameOf, TV.av, TR.av, ints, edgs, prs, fillV, splice, intsOf, trees, V1.tree, bx, Gr.v, Pa.v, dw0, dw1, dw2, dw3, opRd, opWr, opNew, opNewR, opArgs, argsRd, argRd, Arg.rd, AV.refs, V1.refs, refsL, dstL, f3, f4, f5, o0, o1, o2, hc, hlt, hlt2, hx, hx2, e2', drop_nth hlt, drop_nth hx2, drop_nth hlt2, e3, this]
      exact ⟨rfl, rfl⟩
    simp [rn0, rn1, rn2, rn3, rn4, rn5, rn6, rn7, evOp, Arg.ev, St.val, St.set, St.new, sliceOf, binInt2, binInt, AV.cells, rdAt, St.live, retOf, resOf, resAll, treeOf, treeCell, treeCells, treeTups, untree, frameOf, TV.av, TR.av, ints, edgs, prs, fillV, splice, intsOf, trees, V1.tree, bx, Gr.v, Pa.v, dw0, dw1, dw2, dw3, opRd, opWr, opNew, opNewR, opArgs, argsRd, argRd, Arg.rd, AV.refs, V1.refs, refsL, dstL, f3, f4, f5, o0, o1, o2, hc, hlt, hlt2, hx, hx2, e2', drop_nth hlt, drop_nth hx2, drop_nth hlt2, e3, hw]
    exact ⟨rfl, rfl, lt_succ_all hp (by simp [mnF, natNeg, e2', hx, e3])⟩
  · rintro S hc ⟨f3, f4, f5, o0, o1, o2, hp⟩
    rw [fe_zero hp, if_pos rfl] at e0
    simp [rn0, rn1, rn2, rn3, rn4, rn5, rn6, rn7, evOp, Arg.ev, St.val, St.set, St.new, sliceOf, binInt2, binInt, AV.cells, rdAt, St.live, retOf, resOf, resAll, treeOf, treeCell, treeCells, treeTups, untree, frameOf, TV.av, TR.av, ints, edgs, prs, fillV, splice, intsOf, trees, V1.tree, bx, Gr.v, Pa.v, f3, f4, f5, o0, o1, o2, hc, l3]
    refine loopW_count 10 m.edges.length (fun k S => S.fr 3 = .one (.ptr (0, 0) 0) ∧ S.fr 4 = .one (.ptr (1, 0) 0) ∧ S.fr 5 = .one (.ptr (2, 0) 0) ∧
      S.ob (0, 0) = some (bx 25 (a.v.2.map .t)) ∧ S.ob (1, 0) = some (bx 25 (b.v.2.map .t)) ∧ S.ob (2, 0) = some (bx 28 (m.v.2.map .t)) ∧ ∀ j, j < k → meF a b m j = 0) hm.2.small ?_ ?_ ?_
    · simp [rn0, rn1, rn2, rn3, rn4, rn5, rn6, rn7, evOp, Arg.ev, St.val, St.set, St.new, sliceOf, binInt2, binInt, AV.cells, rdAt, St.live, retOf, resOf, resAll, treeOf, treeCell, treeCells, treeTups, untree, frameOf, TV.av, TR.av, ints, edgs, prs, fillV, splice, intsOf, trees, V1.tree, bx, Gr.v, Pa.v, f3, f4, f5, o0, o1, o2]
    · rintro k S hlt hw hc ⟨f3, f4, f5, o0, o1, o2, hp⟩
      have bad : meF a b m k ≠ 0 → morErr a b m = meF a b m k := fun h => by
        have := fe_at (n := m.edges.length) hlt hp h
        rw [e0, this]
      have hlt2 : k < a.edges.length := by omega
      have hlt3 : k * 3 < a.edges.length * 3 := by omega
      by_cases e1 : nth m.edges k < 0
      · have := bad (by simp [meF, e1])
        rw [show meF a b m k = 6 by simp [meF, e1]] at this
        simp [rn0, rn1, rn2, rn3, rn4, rn5, rn6, rn7, evOp, Arg.ev, St.val, St.set, St.new, sliceOf, binInt2, binInt, AV.cells, rdAt, St.live, retOf, resOf, resAll, treeOf, treeCell, treeCells, treeTups, untree, frameOf, TV.av, TR.av, ints, edgs, prs, fillV, splice, intsOf, trees, V1.tree, bx, Gr.v, Pa.v, dw0, dw1, dw2, dw3, opRd, opWr, opNew, opNewR, opArgs, argsRd, argRd, Arg.rd, AV.refs, V1.refs, refsL, dstL, f3, f4, f5, o0, o1, o2, hc, hlt, hlt2, drop_nth hlt, e1, this]
        rfl
      by_cases e2 : (b.edges.length : Int) ≤ nth m.edges k
      · have := bad (by simp [meF, e1, e2])
        rw [show meF a b m k = 6 by simp [meF, e1, e2]] at this
        simp [rn0, rn1, rn2, rn3, rn4, rn5, rn6, rn7, evOp, Arg.ev, St.val, St.set, St.new, sliceOf, binInt2, binInt, AV.cells, rdAt, St.live, retOf, resOf, resAll, treeOf, treeCell, treeCells, treeTups, untree, frameOf, TV.av, TR.av, ints, edgs, prs, fillV, splice, intsOf, trees, V1.tree, bx, Gr.v, Pa.v, dw0, dw1, dw2, dw3, opRd, opWr, opNew, opNewR, opArgs, argsRd, argRd, Arg.rd, AV.refs, V1.refs, refsL, dstL, f3, f4, f5, o0, o1, o2, hc, hlt, hlt2, drop_nth hlt, e1, e2, this]
        rfl
      obtain ⟨x, hx⟩ := Int.eq_ofNat_of_zero_le (show 0 ≤ nth m.edges k by omega)
      have hx2 : x < b.edges.length := by omega
      have hx3 : x * 3 < b.edges.length * 3 := by omega
      have e2' : ¬ b.edges.length ≤ x := by omega
      obtain ⟨_, _, q1, q2, q3, q4⟩ := ga.edges _ (eth_mem hlt2)
      obtain ⟨y, hy⟩ := Int.eq_ofNat_of_zero_le q1
      obtain ⟨z, hz⟩ := Int.eq_ofNat_of_zero_le q3
      have hy2 : y < m.nodes.length := by omega
      have hz2 : z < m.nodes.length := by omega
      by_cases e3 : (eth a.edges k).t = (eth b.edges x).t
      case neg =>
        have := bad (by simp [meF, natNeg, e2', hx, e3])
        rw [show meF a b m k = 13 by simp [meF, natNeg, e2', hx, e3]] at this
        simp [rn0, rn1, rn2, rn3, rn4, rn5, rn6, rn7, evOp, Arg.ev, St.val, St.set, St.new, sliceOf, binInt2, binInt, AV.cells, rdAt, St.live, retOf, resOf, resAll, treeOf, treeCell, treeCells, treeTups, untree, frameOf, TV.av, TR.av, ints, edgs, prs, fillV, splice, intsOf, trees, V1.tree, bx, Gr.v, Pa.v, dw0, dw1, dw2, dw3, opRd, opWr, opNew, opNewR, opArgs, argsRd, argRd, Arg.rd, AV.refs, V1.refs, refsL, dstL, f3, f4, f5, o0, o1, o2, hc, hlt, hlt2, hlt3, hx, hx2, hx3, e2', drop_nth hlt, drop_edL hx2, drop_edL hlt2, e3, this]
        exact ⟨rfl, rfl⟩
      by_cases e4 : nth m.nodes y = (eth b.edges x).f
      case neg =>
        have := bad (by simp [meF, natNeg, e2', hx, e3, hy, e4])
        rw [show meF a b m k = 11 by simp [meF, natNeg, e2', hx, e3, hy, e4]] at this
        simp [rn0, rn1, rn2, rn3, rn4, rn5, rn6, rn7, evOp, Arg.ev, St.val, St.set, St.new, sliceOf, binInt2, binInt, AV.cells, rdAt, St.live, retOf, resOf, resAll, treeOf, treeCell, treeCells, treeTups, untree, frameOf, TV.av, TR.av, ints, edgs, prs, fillV, splice, intsOf, trees, V1.tree, bx, Gr.v, Pa.v, dw0, dw1, dw2, dw3, opRd, opWr, opNew, opNewR, opArgs, argsRd, argRd, Arg.rd, AV.refs, V1.refs, refsL, dstL, f3, f4, f5, o0, o1, o2, hc, hlt, hlt2, hlt3, hx, hx2, hx3, e2', drop_nth hlt, drop_edL hx2, drop_edL hlt2, e3, hy, hy2, drop_nth hy2, e4, this]
        exact ⟨rfl, rfl, rfl⟩
      by_cases e5 : nth m.nodes z = (eth b.edges x).g
      case neg =>
        have := bad (by simp [meF, natNeg, e2', hx, e3, hy, e4, hz, e5])
        rw [show meF a b m k = 11 by simp [meF, natNeg, e2', hx, e3, hy, e4, hz, e5]] at this
        simp [rn0, rn1, rn2, rn3, rn4, rn5, rn6, rn7, evOp, Arg.ev, St.val, St.set, St.new, sliceOf, binInt2, binInt, AV.cells, rdAt, St.live, retOf, resOf, resAll, treeOf, treeCell, treeCells, treeTups, untree, frameOf, TV.av, TR.av, ints, edgs, prs, fillV, splice, intsOf, trees, V1.tree, bx, Gr.v, Pa.v, dw0, dw1, dw2, dw3, opRd, opWr, opNew, opNewR, opArgs, argsRd, argRd, Arg.rd, AV.refs, V1.refs, refsL, dstL, f3, f4, f5, o0, o1, o2, hc, hlt, hlt2, hlt3, hx, hx2, hx3, e2', drop_nth hlt, drop_edL hx2, drop_edL hlt2, e3, hy, hy2, drop_nth hy2, e4, hz, hz2, drop_nth hz2, e5, this]
        exact ⟨rfl, rfl, rfl⟩
      simp [rn0, rn1, rn2, rn3, rn4, rn5, rn6, rn7, evOp, Arg.ev, St.val, St.set, St.new, sliceOf, binInt2, binInt, AV.cells, rdAt, St.live, retOf, resOf, resAll, treeOf, treeCell, treeCells, treeTups, untree, frameOf, TV.av, TR.av, ints, edgs, prs, fillV, splice, intsOf, trees, V1.tree, bx, Gr.v, Pa.v, dw0, dw1, dw2, dw3, opRd, opWr, opNew, opNewR, opArgs, argsRd, argRd, Arg.rd, AV.refs, V1.refs, refsL, dstL, f3, f4, f5, o0, o1, o2, hc, hlt, hlt2, hlt3, hx, hx2, hx3, e2', drop_nth hlt, drop_edL hx2, drop_edL hlt2, e3, hy, hy2, drop_nth hy2, e4, hz, hz2, drop_nth hz2, e5, hw]
      exact ⟨rfl, rfl, rfl, lt_succ_all hp (by simp [meF, natNeg, e2', hx, e3, hy, e4, hz, e5])⟩
    · rintro S hc ⟨f3, f4, f5, o0, o1, o2, hp⟩
      rw [fe_zero hp] at e0
      simp [rn0, rn1, rn2, rn3, rn4, rn5, rn6, rn7, evOp, Arg.ev, St.val, St.set, St.new, sliceOf, binInt2, binInt, AV.cells, rdAt, St.live, retOf, resOf, resAll, treeOf, treeCell, treeCells, treeTups, untree, frameOf, TV.av, TR.av, ints, edgs, prs, fillV, splice, intsOf, trees, V1.tree, bx, Gr.v, Pa.v, f3, f4, f5, hc, o0, o1, o2, l4, e0]
end Go.Proofs.Ythapbbpdcjmmfaa
