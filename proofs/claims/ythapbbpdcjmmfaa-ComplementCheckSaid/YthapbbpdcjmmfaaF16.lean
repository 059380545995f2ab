/-
  Contracts: the closure of some elements. No condition beyond those that each statement names.
-/
import Derived.Test.YthapbbpdcjmmfaaF15
namespace Go.Proofs.Ythapbbpdcjmmfaa
open Abs
set_option linter.unusedSimpArgs false
set_option linter.unusedVariables false

/-- All are numbers below n. -/
def allIn (l : List Int) (n : Nat) : Prop := ∀ x ∈ l, 0 ≤ x ∧ x < n

theorem take_succ_nth {l : List Int} {k : Nat} (h : k < l.length) : l.take (k + 1) = l.take k ++ [nth l k] := by
  rw [List.take_succ_eq_append_getElem h, nth_eq h]

def c_close : MFunc := ⟨85, [.cell 6 true 2, .tmp 7], .seq (.region [⟨some 3, .box 0 25 (.tmp 0), none⟩, ⟨some 6, .alloc 1 27 [.nil, .nil], none⟩, ⟨some 7, .mv (.c (.one (.t (.int .i64 0)))), none⟩]) (.seq (.seq (.region [⟨some 13, .load true 2 (.tmp 3), none⟩, ⟨some 14, .call (.c (.one (.fn 77 []))) 65 [.tmp 13], none⟩, ⟨some 8, .mv (.tmp 14), none⟩]) (.seq (.region [⟨some 15, .mv (.tmp 8), none⟩, ⟨some 16, .bin .neq (.tmp 15) (.c (.one (.t (.int .i64 0)))), none⟩]) (.cond (.tmp 16) (.seq (.region [⟨some 17, .build [.nil, .nil] [], none⟩, ⟨some 18, .mv (.tmp 8), none⟩, ⟨none, .store 2 (.tmp 6) (.tmp 17), none⟩, ⟨some 7, .mv (.tmp 18), none⟩]) .ret) .skip))) (.seq (.draw [[], [0], [1], [2, 2], [], [4], [5], [6, 6], [3, 0, 1, 2, 3], [7, 8, 0, 1, 2, 3, 4, 5, 6, 7, 8]] [⟨some 19, .fieldA 0 (.tmp 3), none⟩, ⟨some 20, .load false 1 (.tmp 19), none⟩, ⟨some 21, .len (.tmp 20), none⟩, ⟨some 22, .make 259 4 1 1 [.t (.bool false)] (.tmp 21) (.tmp 21), none⟩, ⟨some 23, .fieldA 1 (.tmp 3), none⟩, ⟨some 24, .load false 1 (.tmp 23), none⟩, ⟨some 25, .len (.tmp 24), none⟩, ⟨some 26, .make 263 4 1 1 [.t (.bool false)] (.tmp 25) (.tmp 25), none⟩, ⟨some 9, .mv (.tmp 22), none⟩, ⟨some 10, .mv (.tmp 26), none⟩]) (.seq (.seq (.region [⟨some 11, .mv (.c (.one (.t (.int .i64 0)))), none⟩]) (.block 0 (.loop (.seq (.seq (.region [⟨some 27, .mv (.tmp 11), none⟩, ⟨some 28, .mv (.tmp 1), none⟩, ⟨some 29, .len (.tmp 28), none⟩, ⟨some 30, .bin .lss (.tmp 27) (.tmp 29), none⟩]) (.cond (.tmp 30) .skip (.exit 0))) (.seq (.block 1 (.seq (.seq (.region [⟨some 33, .mv (.tmp 1), none⟩, ⟨some 34, .mv (.tmp 11), none⟩, ⟨some 35, .idxA 1 (.tmp 33) (.tmp 34), none⟩, ⟨some 36, .load false 1 (.tmp 35), none⟩, ⟨some 37, .bin .lss (.tmp 36) (.c (.one (.t (.int .i64 0)))), none⟩, ⟨some 38, .mv (.tmp 37), none⟩, ⟨some 39, .mv (.tmp 1), some (38, false)⟩, ⟨some 40, .mv (.tmp 11), some (38, false)⟩, ⟨some 41, .idxA 1 (.tmp 39) (.tmp 40), some (38, false)⟩, ⟨some 42, .load false 1 (.tmp 41), some (38, false)⟩, ⟨some 43, .mv (.tmp 9), some (38, false)⟩, ⟨some 44, .len (.tmp 43), some (38, false)⟩, ⟨some 45, .bin .geq (.tmp 42) (.tmp 44), some (38, false)⟩, ⟨some 46, .pick (.tmp 38) (.c (.one (.t (.bool true)))) (.tmp 45), none⟩]) (.cond (.tmp 46) (.seq (.region [⟨some 47, .build [.nil, .nil] [], none⟩, ⟨none, .store 2 (.tmp 6) (.tmp 47), none⟩, ⟨some 7, .mv (.c (.one (.t (.int .i64 6)))), none⟩]) .ret) .skip)) (.region [⟨some 48, .mv (.tmp 9), none⟩, ⟨some 49, .mv (.tmp 1), none⟩, ⟨some 50, .mv (.tmp 11), none⟩, ⟨some 51, .idxA 1 (.tmp 49) (.tmp 50), none⟩, ⟨some 52, .load false 1 (.tmp 51), none⟩, ⟨some 53, .idxA 1 (.tmp 48) (.tmp 52), none⟩, ⟨none, .store 1 (.tmp 53) (.c (.one (.t (.bool true)))), none⟩]))) (.region [⟨some 31, .mv (.tmp 11), none⟩, ⟨some 32, .bin .add (.tmp 31) (.c (.one (.t (.int .i64 1)))), none⟩, ⟨some 11, .mv (.tmp 32), none⟩])))))) (.seq (.seq (.region [⟨some 12, .mv (.c (.one (.t (.int .i64 0)))), none⟩]) (.block 2 (.loop (.seq (.seq (.region [⟨some 54, .mv (.tmp 12), none⟩, ⟨some 55, .mv (.tmp 2), none⟩, ⟨some 56, .len (.tmp 55), none⟩, ⟨some 57, .bin .lss (.tmp 54) (.tmp 56), none⟩]) (.cond (.tmp 57) .skip (.exit 2))) (.seq (.block 3 (.seq (.seq (.region [⟨some 60, .mv (.tmp 2), none⟩, ⟨some 61, .mv (.tmp 12), none⟩, ⟨some 62, .idxA 1 (.tmp 60) (.tmp 61), none⟩, ⟨some 63, .load false 1 (.tmp 62), none⟩, ⟨some 64, .bin .lss (.tmp 63) (.c (.one (.t (.int .i64 0)))), none⟩, ⟨some 65, .mv (.tmp 64), none⟩, ⟨some 66, .mv (.tmp 2), some (65, false)⟩, ⟨some 67, .mv (.tmp 12), some (65, false)⟩, ⟨some 68, .idxA 1 (.tmp 66) (.tmp 67), some (65, false)⟩, ⟨some 69, .load false 1 (.tmp 68), some (65, false)⟩, ⟨some 70, .mv (.tmp 10), some (65, false)⟩, ⟨some 71, .len (.tmp 70), some (65, false)⟩, ⟨some 72, .bin .geq (.tmp 69) (.tmp 71), some (65, false)⟩, ⟨some 73, .pick (.tmp 65) (.c (.one (.t (.bool true)))) (.tmp 72), none⟩]) (.cond (.tmp 73) (.seq (.region [⟨some 74, .build [.nil, .nil] [], none⟩, ⟨none, .store 2 (.tmp 6) (.tmp 74), none⟩, ⟨some 7, .mv (.c (.one (.t (.int .i64 6)))), none⟩]) .ret) .skip)) (.region [⟨some 75, .mv (.tmp 10), none⟩, ⟨some 76, .mv (.tmp 2), none⟩, ⟨some 77, .mv (.tmp 12), none⟩, ⟨some 78, .idxA 1 (.tmp 76) (.tmp 77), none⟩, ⟨some 79, .load false 1 (.tmp 78), none⟩, ⟨some 80, .idxA 1 (.tmp 75) (.tmp 79), none⟩, ⟨none, .store 1 (.tmp 80) (.c (.one (.t (.bool true)))), none⟩]))) (.region [⟨some 58, .mv (.tmp 12), none⟩, ⟨some 59, .bin .add (.tmp 58) (.c (.one (.t (.int .i64 1)))), none⟩, ⟨some 12, .mv (.tmp 59), none⟩])))))) (.seq (.region [⟨some 81, .load true 2 (.tmp 3), none⟩, ⟨some 82, .mv (.tmp 9), none⟩, ⟨some 83, .mv (.tmp 10), none⟩, ⟨some 84, .call (.c (.one (.fn 60 []))) 1091 [.tmp 81, .tmp 82, .tmp 83], none⟩, ⟨none, .store 2 (.tmp 6) (.tmp 84), none⟩, ⟨some 7, .mv (.c (.one (.t (.int .i64 0)))), none⟩]) .ret)))))⟩
theorem k_close : cFn Try.prog Try.f54 = some c_close := by kernel_rfl
theorem close_ok (g : Gr) (a b : List Int) (hg : tinyG g) (hk : gErr g = 0) (ha : allIn a g.nodes.length) (hb : allIn b g.edges.length) (hla : tiny a.length) (hlb : tiny b.length) :
    CallOK Try.prog 54 [g.v, (false, [ints a]), (false, [ints b])] (.tup [Pa.v ⟨canon g.nodes.length (a ++ endsL g b g.edges.length), canon g.edges.length b⟩, (false, [.int .i64 0])]) := by
  refine callOK_W (callS_W (by kernel_rfl) Try.func54 k_close (callable_of Try.func54 (by kernel_rfl)) (by simp [c_close]) ?_)
  have go := gErr_ok hk
  have hn := go.n
  have he := go.e
  have hn8 : g.nodes.length ≤ 140737488355328 := by omega
  have hn9 : (g.nodes.length : Int) ≤ 9223372036854775807 := by omega
  have he8 : g.edges.length ≤ 140737488355328 := by omega
  have he9 : (g.edges.length : Int) ≤ 9223372036854775807 := by omega
  simp [c_close, rn0, rn1, rn2, rn3, rn4, rn5, rn6, rn7, evOp, Arg.ev, St.val, St.set, St.new, sliceOf, binInt2, binInt, AV.cells, rdAt, St.live, retOf, resOf, resAll, treeOf, treeCell, treeCells, treeTups, untree, frameOf, TV.av, TR.av, ints, edgs, prs, fillV, splice, intsOf, trees, V1.tree, bx, Gr.v, Pa.v]
  refine callS_tree (rvalid_ok g hg.1.small hg.2.small) ?_ ?_ ?_
  · rfl
  · rfl
  simp [rn0, rn1, rn2, rn3, rn4, rn5, rn6, rn7, evOp, Arg.ev, St.val, St.set, St.new, sliceOf, binInt2, binInt, AV.cells, rdAt, St.live, retOf, resOf, resAll, treeOf, treeCell, treeCells, treeTups, untree, frameOf, TV.av, TR.av, ints, edgs, prs, fillV, splice, intsOf, trees, V1.tree, bx, Gr.v, Pa.v, dw0, dw1, dw2, dw3, opRd, opWr, opNew, opNewR, opArgs, argsRd, argRd, Arg.rd, AV.refs, V1.refs, refsL, dstL, hk, hn8, hn9, he8, he9, mark_nil]
  refine ⟨rfl, ?_⟩
  refine loopW_count 11 a.length (fun k S => S.fr 1 = .one (.t (ints a)) ∧ S.fr 2 = .one (.t (ints b)) ∧ S.fr 3 = .one (.ptr (0, 0) 0) ∧ S.fr 6 = .one (.ptr (1, 0) 0) ∧ S.fr 9 = .one (.row (259, 0)) ∧ S.fr 10 = .one (.row (263, 0)) ∧
    S.ob (0, 0) = some (bx 25 (g.v.2.map .t)) ∧ S.ob (1, 0) = some (bx 27 [.nil, .nil]) ∧
    S.ob (259, 0) = some ⟨true, true, false, 1, g.nodes.length, 4, markC (a.take k) g.nodes.length⟩ ∧ S.ob (263, 0) = some ⟨true, true, false, 1, g.edges.length, 4, markC [] g.edges.length⟩) hla.small ?_ ?_ ?_
  · simp [rn0, rn1, rn2, rn3, rn4, rn5, rn6, rn7, evOp, Arg.ev, St.val, St.set, St.new, sliceOf, binInt2, binInt, AV.cells, rdAt, St.live, retOf, resOf, resAll, treeOf, treeCell, treeCells, treeTups, untree, frameOf, TV.av, TR.av, ints, edgs, prs, fillV, splice, intsOf, trees, V1.tree, bx, Gr.v, Pa.v]
  · rintro k S hlt hw hc ⟨f1, f2, f3, f6, f9, f10, o0, o1, o2, o3⟩
    obtain ⟨q1, q2⟩ := ha _ (nth_mem hlt)
    obtain ⟨x, hx⟩ := Int.eq_ofNat_of_zero_le q1
    have hx2 : x < g.nodes.length := by omega
    have hx3 : x + 1 ≤ g.nodes.length := by omega
    have hx4 : ¬ g.nodes.length ≤ x := by omega
    simp [rn0, rn1, rn2, rn3, rn4, rn5, rn6, rn7, evOp, Arg.ev, St.val, St.set, St.new, sliceOf, binInt2, binInt, AV.cells, rdAt, St.live, retOf, resOf, resAll, treeOf, treeCell, treeCells, treeTups, untree, frameOf, TV.av, TR.av, ints, edgs, prs, fillV, splice, intsOf, trees, V1.tree, bx, Gr.v, Pa.v, f1, f2, f3, f6, f9, f10, o0, o1, o2, o3, hc, hlt, hw, drop_nth hlt, hx, hx2, hx3, hx4, len_mark, mark_set hx2, take_succ_nth hlt]
  · rintro S hc ⟨f1, f2, f3, f6, f9, f10, o0, o1, o2, o3⟩
    simp [rn0, rn1, rn2, rn3, rn4, rn5, rn6, rn7, evOp, Arg.ev, St.val, St.set, St.new, sliceOf, binInt2, binInt, AV.cells, rdAt, St.live, retOf, resOf, resAll, treeOf, treeCell, treeCells, treeTups, untree, frameOf, TV.av, TR.av, ints, edgs, prs, fillV, splice, intsOf, trees, V1.tree, bx, Gr.v, Pa.v, f1, f2, f3, f6, f9, f10, o0, o1, o2, o3, hc]
    refine loopW_count 12 b.length (fun k S => S.fr 2 = .one (.t (ints b)) ∧ S.fr 3 = .one (.ptr (0, 0) 0) ∧ S.fr 6 = .one (.ptr (1, 0) 0) ∧ S.fr 9 = .one (.row (259, 0)) ∧ S.fr 10 = .one (.row (263, 0)) ∧
      S.ob (0, 0) = some (bx 25 (g.v.2.map .t)) ∧ S.ob (1, 0) = some (bx 27 [.nil, .nil]) ∧
      S.ob (259, 0) = some ⟨true, true, false, 1, g.nodes.length, 4, markC a g.nodes.length⟩ ∧ S.ob (263, 0) = some ⟨true, true, false, 1, g.edges.length, 4, markC (b.take k) g.edges.length⟩) hlb.small ?_ ?_ ?_
    · simp [rn0, rn1, rn2, rn3, rn4, rn5, rn6, rn7, evOp, Arg.ev, St.val, St.set, St.new, sliceOf, binInt2, binInt, AV.cells, rdAt, St.live, retOf, resOf, resAll, treeOf, treeCell, treeCells, treeTups, untree, frameOf, TV.av, TR.av, ints, edgs, prs, fillV, splice, intsOf, trees, V1.tree, bx, Gr.v, Pa.v, f2, f3, f6, f9, f10, o0, o1, o2, o3]
    · rintro k S hlt hw hc ⟨f2, f3, f6, f9, f10, o0, o1, o2, o3⟩
      obtain ⟨q1, q2⟩ := hb _ (nth_mem hlt)
      obtain ⟨x, hx⟩ := Int.eq_ofNat_of_zero_le q1
      have hx2 : x < g.edges.length := by omega
      have hx3 : x + 1 ≤ g.edges.length := by omega
      have hx4 : ¬ g.edges.length ≤ x := by omega
      simp [rn0, rn1, rn2, rn3, rn4, rn5, rn6, rn7, evOp, Arg.ev, St.val, St.set, St.new, sliceOf, binInt2, binInt, AV.cells, rdAt, St.live, retOf, resOf, resAll, treeOf, treeCell, treeCells, treeTups, untree, frameOf, TV.av, TR.av, ints, edgs, prs, fillV, splice, intsOf, trees, V1.tree, bx, Gr.v, Pa.v, f2, f3, f6, f9, f10, o0, o1, o2, o3, hc, hlt, hw, drop_nth hlt, hx, hx2, hx3, hx4, len_mark, mark_set hx2, take_succ_nth hlt]
    · rintro S hc ⟨f2, f3, f6, f9, f10, o0, o1, o2, o3⟩
      simp [rn0, rn1, rn2, rn3, rn4, rn5, rn6, rn7, evOp, Arg.ev, St.val, St.set, St.new, sliceOf, binInt2, binInt, AV.cells, rdAt, St.live, retOf, resOf, resAll, treeOf, treeCell, treeCells, treeTups, untree, frameOf, TV.av, TR.av, ints, edgs, prs, fillV, splice, intsOf, trees, V1.tree, bx, Gr.v, Pa.v, f2, f3, f6, f9, f10, o0, o1, o2, o3, hc]
      refine callS_freeze [(259, 0), (263, 0)] (callS_tree (least_ok g a b go) ?_ ?_ ?_)
      · simp [argTrees, argTree, frzAll, frzOne, rn0, rn1, rn2, rn3, rn4, rn5, rn6, rn7, evOp, Arg.ev, St.val, St.set, St.new, sliceOf, binInt2, binInt, AV.cells, rdAt, St.live, retOf, resOf, resAll, treeOf, treeCell, treeCells, treeTups, untree, frameOf, TV.av, TR.av, ints, edgs, prs, fillV, splice, intsOf, trees, V1.tree, bx, Gr.v, Pa.v, o0, o1, o2, o3, markC_eq, untree_t]
      · simp [frzAll, frzOne, rn0, rn1, rn2, rn3, rn4, rn5, rn6, rn7, evOp, Arg.ev, St.val, St.set, St.new, sliceOf, binInt2, binInt, AV.cells, rdAt, St.live, retOf, resOf, resAll, treeOf, treeCell, treeCells, treeTups, untree, frameOf, TV.av, TR.av, ints, edgs, prs, fillV, splice, intsOf, trees, V1.tree, bx, Gr.v, Pa.v, o0, o1, o2, o3, AV.still, V1.still]
      simp [rn0, rn1, rn2, rn3, rn4, rn5, rn6, rn7, evOp, Arg.ev, St.val, St.set, St.new, sliceOf, binInt2, binInt, AV.cells, rdAt, St.live, retOf, resOf, resAll, treeOf, treeCell, treeCells, treeTups, untree, frameOf, TV.av, TR.av, ints, edgs, prs, fillV, splice, intsOf, trees, V1.tree, bx, Gr.v, Pa.v, frzAll, frzOne, f2, f3, f6, f9, f10, o0, o1, o2, o3, hc]
end Go.Proofs.Ythapbbpdcjmmfaa
