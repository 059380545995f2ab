/-
  The laws of a case. No condition beyond those that each statement names.
-/
import Derived.Test.YthapbbpdcjmmfaaR2
namespace Go.Proofs.Ythapbbpdcjmmfaa
open Abs
set_option linter.unusedSimpArgs false
set_option linter.unusedVariables false

/-- The example of the chapter holds. -/
def Awake : Prop := CallOK Try.prog 10 [] (.sv (false, [.bool true]))

theorem tiny_few {l g : Gr} {p m : Pa} (h : fewC l g p m = true) : TinyCase l g p m := by
  simp [fewC, fewG, fewP] at h
  refine ⟨⟨?_, ?_⟩, ⟨?_, ?_⟩, ⟨?_, ?_⟩, ⟨?_, ?_⟩⟩ <;> simp only [tiny] <;> omega

theorem BoundC.few {l g : Gr} {p m : Pa} (h : BoundC l g p m) : CallOK Try.prog 11 [gluV l g p m] (.sv (false, [.bool (fewC l g p m)])) := by
  have h1 := h.p1; have h2 := h.p2; have h3 := h.m1; have h4 := h.m2
  simp only [bound] at h1 h2 h3 h4
  exact few_ok l g p m (by simp only [huge]; omega) (by simp only [huge]; omega) (by simp only [huge]; omega) (by simp only [huge]; omega)

theorem restL_len {n : Nat} {g : List Int} : (restL n g).length ≤ n := collect_len

theorem ofR_tiny {l g : Gr} {p m : Pa} (h : TinyCase l g p m) : tinyP (ofR l g p m).1 := by
  unfold ofR
  split
  · split
    · exact ⟨by simp [tiny], by simp [tiny]⟩
    · split
      · exact ⟨Nat.le_trans restL_len h.tg.1, Nat.le_trans restL_len h.tg.2⟩
      · exact ⟨by simp [tiny], by simp [tiny]⟩
  · exact ⟨by simp [tiny], by simp [tiny]⟩

def c_lawOf : MFunc := ⟨48, [.tmp 2], .seq (.region [⟨some 1, .box 0 30 (.tmp 0), none⟩, ⟨some 2, .mv (.c (.one (.t (.bool false)))), none⟩]) (.seq (.seq (.region [⟨some 7, .call (.c (.one (.fn 10 []))) 64 [], none⟩, ⟨some 8, .not (.tmp 7), none⟩, ⟨some 9, .mv (.tmp 8), none⟩, ⟨some 10, .load true 8 (.tmp 1), some (9, false)⟩, ⟨some 11, .call (.c (.one (.fn 11 []))) 68 [.tmp 10], some (9, false)⟩, ⟨some 12, .not (.tmp 11), some (9, false)⟩, ⟨some 13, .pick (.tmp 9) (.c (.one (.t (.bool true)))) (.tmp 12), none⟩]) (.cond (.tmp 13) (.seq (.region [⟨some 14, .call (.c (.one (.fn 10 []))) 128 [], none⟩, ⟨some 2, .mv (.tmp 14), none⟩]) .ret) .skip)) (.seq (.draw [[], [0], [], [2], [], [4], [5], [], [7], [1, 3, 6, 8, 6], [9], [10], [10], [], [13, 11, 9, 0, 1, 2, 3, 4, 5, 6, 7, 8, 9, 10, 11, 13], [12, 14, 0, 1, 2, 3, 4, 5, 6, 7, 8, 9, 10, 11, 12, 13, 14]] [⟨some 16, .fieldA 0 (.tmp 1), none⟩, ⟨some 17, .load true 2 (.tmp 16), none⟩, ⟨some 18, .fieldA 2 (.tmp 1), none⟩, ⟨some 19, .load true 2 (.tmp 18), none⟩, ⟨some 20, .fieldA 4 (.tmp 1), none⟩, ⟨some 21, .load true 2 (.tmp 20), none⟩, ⟨some 22, .call (.c (.one (.fn 13 []))) 198 [.tmp 21], none⟩, ⟨some 23, .fieldA 6 (.tmp 1), none⟩, ⟨some 24, .load true 2 (.tmp 23), none⟩, ⟨some 25, .call (.c (.one (.fn 12 []))) 201 [.tmp 17, .tmp 19, .tmp 22, .tmp 24], none⟩, ⟨some 15, .mv (.tmp 25), none⟩, ⟨some 26, .extract (.tmp 15) 0, none⟩, ⟨some 27, .extract (.tmp 15) 1, none⟩, ⟨some 3, .alloc 205 27 [.nil, .nil], none⟩, ⟨none, .store 2 (.tmp 3) (.tmp 26), none⟩, ⟨some 4, .mv (.tmp 27), none⟩]) (.seq (.region [⟨some 29, .fieldA 0 (.tmp 1), none⟩, ⟨some 30, .load true 2 (.tmp 29), none⟩, ⟨some 31, .fieldA 2 (.tmp 1), none⟩, ⟨some 32, .load true 2 (.tmp 31), none⟩, ⟨some 33, .fieldA 4 (.tmp 1), none⟩, ⟨some 34, .load true 2 (.tmp 33), none⟩, ⟨some 35, .fieldA 6 (.tmp 1), none⟩, ⟨some 36, .load true 2 (.tmp 35), none⟩, ⟨some 37, .call (.c (.one (.fn 14 []))) 264 [.tmp 30, .tmp 32, .tmp 34, .tmp 36], none⟩, ⟨some 28, .mv (.tmp 37), none⟩, ⟨some 38, .extract (.tmp 28) 0, none⟩, ⟨some 39, .extract (.tmp 28) 1, none⟩, ⟨some 5, .alloc 268 27 [.nil, .nil], none⟩, ⟨none, .store 2 (.tmp 5) (.tmp 38), none⟩, ⟨some 6, .mv (.tmp 39), none⟩]) (.seq (.region [⟨some 40, .mv (.tmp 4), none⟩, ⟨some 41, .mv (.tmp 6), none⟩, ⟨some 42, .bin .eql (.tmp 40) (.tmp 41), none⟩, ⟨some 43, .mv (.tmp 42), none⟩, ⟨some 44, .load true 2 (.tmp 3), some (43, true)⟩, ⟨some 45, .load true 2 (.tmp 5), some (43, true)⟩, ⟨some 46, .call (.c (.one (.fn 15 []))) 326 [.tmp 44, .tmp 45], some (43, true)⟩, ⟨some 47, .pick (.tmp 43) (.tmp 46) (.c (.one (.t (.bool false)))), none⟩, ⟨some 2, .mv (.tmp 47), none⟩]) .ret))))⟩
theorem k_lawOf : cFn Try.prog Try.f3 = some c_lawOf := by kernel_rfl
theorem lawOf_ok (aw : Awake) : CaseLaw 3 := by
  intro l g p m hb
  refine callOK_W (callS_W (by kernel_rfl) Try.func3 k_lawOf (callable_of Try.func3 (by kernel_rfl)) (by simp [c_lawOf]) ?_)
  simp [c_lawOf, rn0, rn1, rn2, rn3, rn4, rn5, rn6, rn7, evOp, Arg.ev, St.val, St.set, St.new, sliceOf, binInt2, binInt, AV.cells, rdAt, St.live, retOf, resOf, resAll, treeOf, treeCell, treeCells, treeTups, untree, frameOf, TV.av, TR.av, ints, edgs, prs, fillV, splice, intsOf, trees, V1.tree, bx, Gr.v, Pa.v, gluV]
  refine callS_tree aw ?_ ?_ ?_
  · rfl
  · rfl
  simp [rn0, rn1, rn2, rn3, rn4, rn5, rn6, rn7, evOp, Arg.ev, St.val, St.set, St.new, sliceOf, binInt2, binInt, AV.cells, rdAt, St.live, retOf, resOf, resAll, treeOf, treeCell, treeCells, treeTups, untree, frameOf, TV.av, TR.av, ints, edgs, prs, fillV, splice, intsOf, trees, V1.tree, bx, Gr.v, Pa.v, gluV]
  refine callS_tree hb.few ?_ ?_ ?_
  · rfl
  · rfl
  cases hf : fewC l g p m
  · simp [rn0, rn1, rn2, rn3, rn4, rn5, rn6, rn7, evOp, Arg.ev, St.val, St.set, St.new, sliceOf, binInt2, binInt, AV.cells, rdAt, St.live, retOf, resOf, resAll, treeOf, treeCell, treeCells, treeTups, untree, frameOf, TV.av, TR.av, ints, edgs, prs, fillV, splice, intsOf, trees, V1.tree, bx, Gr.v, Pa.v, hf]
    refine callS_tree aw ?_ ?_ ?_
    · rfl
    · rfl
    simp [rn0, rn1, rn2, rn3, rn4, rn5, rn6, rn7, evOp, Arg.ev, St.val, St.set, St.new, sliceOf, binInt2, binInt, AV.cells, rdAt, St.live, retOf, resOf, resAll, treeOf, treeCell, treeCells, treeTups, untree, frameOf, TV.av, TR.av, ints, edgs, prs, fillV, splice, intsOf, trees, V1.tree, bx, Gr.v, Pa.v]
  have ht := tiny_few hf
  simp [rn0, rn1, rn2, rn3, rn4, rn5, rn6, rn7, evOp, Arg.ev, St.val, St.set, St.new, sliceOf, binInt2, binInt, AV.cells, rdAt, St.live, retOf, resOf, resAll, treeOf, treeCell, treeCells, treeTups, untree, frameOf, TV.av, TR.av, ints, edgs, prs, fillV, splice, intsOf, trees, V1.tree, bx, Gr.v, Pa.v, dw0, dw1, dw2, dw3, opRd, opWr, opNew, opNewR, opArgs, argsRd, argRd, Arg.rd, AV.refs, V1.refs, refsL, dstL, gluV, hf]
  refine dCall_ok (copied_ok p ht.tp) ?_ ?_ ?_
  · rfl
  · rfl
  simp [rn0, rn1, rn2, rn3, rn4, rn5, rn6, rn7, evOp, Arg.ev, St.val, St.set, St.new, sliceOf, binInt2, binInt, AV.cells, rdAt, St.live, retOf, resOf, resAll, treeOf, treeCell, treeCells, treeTups, untree, frameOf, TV.av, TR.av, ints, edgs, prs, fillV, splice, intsOf, trees, V1.tree, bx, Gr.v, Pa.v, dw0, dw1, dw2, dw3, opRd, opWr, opNew, opNewR, opArgs, argsRd, argRd, Arg.rd, AV.refs, V1.refs, refsL, dstL, gluV]
  refine dCall_ok (of_ok l g p m ht) ?_ ?_ ?_
  · rfl
  · rfl
  simp [rn0, rn1, rn2, rn3, rn4, rn5, rn6, rn7, evOp, Arg.ev, St.val, St.set, St.new, sliceOf, binInt2, binInt, AV.cells, rdAt, St.live, retOf, resOf, resAll, treeOf, treeCell, treeCells, treeTups, untree, frameOf, TV.av, TR.av, ints, edgs, prs, fillV, splice, intsOf, trees, V1.tree, bx, Gr.v, Pa.v, dw0, dw1, dw2, dw3, opRd, opWr, opNew, opNewR, opArgs, argsRd, argRd, Arg.rd, AV.refs, V1.refs, refsL, dstL, gluV]
  refine ⟨rfl, ?_⟩
  refine callS_tree (of12_ok l g p m ht) ?_ ?_ ?_
  · rfl
  · rfl
  simp [rn0, rn1, rn2, rn3, rn4, rn5, rn6, rn7, evOp, Arg.ev, St.val, St.set, St.new, sliceOf, binInt2, binInt, AV.cells, rdAt, St.live, retOf, resOf, resAll, treeOf, treeCell, treeCells, treeTups, untree, frameOf, TV.av, TR.av, ints, edgs, prs, fillV, splice, intsOf, trees, V1.tree, bx, Gr.v, Pa.v, gluV]
  refine callS_tree (same7_ok (ofR l g p m).1 (ofR l g p m).1 (ofR_tiny ht) (ofR_tiny ht)) ?_ ?_ ?_
  · rfl
  · rfl
  simp [rn0, rn1, rn2, rn3, rn4, rn5, rn6, rn7, evOp, Arg.ev, St.val, St.set, St.new, sliceOf, binInt2, binInt, AV.cells, rdAt, St.live, retOf, resOf, resAll, treeOf, treeCell, treeCells, treeTups, untree, frameOf, TV.av, TR.av, ints, edgs, prs, fillV, splice, intsOf, trees, V1.tree, bx, Gr.v, Pa.v]
end Go.Proofs.Ythapbbpdcjmmfaa
