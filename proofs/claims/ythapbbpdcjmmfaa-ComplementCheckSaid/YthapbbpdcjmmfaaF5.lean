/-
  Contracts: parts of graphs (2). No condition beyond those that each statement names.
-/
import Derived.Test.YthapbbpdcjmmfaaF4
namespace Go.Proofs.Ythapbbpdcjmmfaa
open Abs
set_option linter.unusedSimpArgs false
set_option linter.unusedVariables false

abbrev tiny (n : Nat) : Prop := n ≤ 1000000
theorem tiny.small {n : Nat} (h : tiny n) : small n := Nat.le_trans h (by decide)

def c_has : MFunc := ⟨14, [.tmp 4], .seq (.region [⟨some 4, .mv (.c (.one (.t (.bool false)))), none⟩]) (.seq (.region [⟨some 8, .mv (.tmp 0), none⟩, ⟨some 9, .mv (.tmp 1), none⟩, ⟨some 10, .call (.c (.one (.fn 64 []))) 66 [.tmp 8, .tmp 9], none⟩, ⟨some 7, .mv (.tmp 10), none⟩, ⟨some 11, .extract (.tmp 7) 0, none⟩, ⟨some 12, .extract (.tmp 7) 1, none⟩, ⟨some 5, .mv (.tmp 11), none⟩, ⟨some 6, .mv (.tmp 12), none⟩]) (.seq (.region [⟨some 13, .mv (.tmp 6), none⟩, ⟨some 4, .mv (.tmp 13), none⟩]) .ret))⟩
theorem k_has : cFn Try.prog Try.f114 = some c_has := by kernel_rfl
theorem has_ok (l : List Int) (n : Int) (hl : tiny l.length) (ha : Asc l) : CallOK Try.prog 114 [(false, [ints l]), (false, [.int .i64 n])] (.sv (false, [.bool (decide (n ∈ l))])) := by
  refine callOK_W (callS_W (by kernel_rfl) Try.func114 k_has (callable_of Try.func114 (by kernel_rfl)) (by simp [c_has]) ?_)
  simp [c_has, rn0, rn1, rn2, rn3, rn4, rn5, rn6, rn7, evOp, Arg.ev, St.val, St.set, St.new, sliceOf, binInt2, binInt, AV.cells, rdAt, St.live, retOf, resOf, resAll, treeOf, treeCell, treeCells, treeTups, untree, frameOf, TV.av, TR.av, ints, edgs, prs, fillV, splice, intsOf, trees, V1.tree, bx, Gr.v, Pa.v]
  refine callS_tree (bsearch_ok l n hl ha) ?_ ?_ ?_
  · rfl
  · rfl
  simp [rn0, rn1, rn2, rn3, rn4, rn5, rn6, rn7, evOp, Arg.ev, St.val, St.set, St.new, sliceOf, binInt2, binInt, AV.cells, rdAt, St.live, retOf, resOf, resAll, treeOf, treeCell, treeCells, treeTups, untree, frameOf, TV.av, TR.av, ints, edgs, prs, fillV, splice, intsOf, trees, V1.tree, bx, Gr.v, Pa.v]

def danF (g : Gr) (p : Pa) (i : Nat) : Int := if (eth g.edges (nth p.edges i).toNat).f ∈ p.nodes ∧ (eth g.edges (nth p.edges i).toNat).g ∈ p.nodes then 0 else 14
/-- The error of a part of a valid graph. -/
def partErr (g : Gr) (p : Pa) : Int :=
  if ascErr p.nodes g.nodes.length = 0 then if ascErr p.edges g.edges.length = 0 then fe (danF g p) p.edges.length else ascErr p.edges g.edges.length else ascErr p.nodes g.nodes.length

def c_part : MFunc := ⟨57, [.tmp 4], .seq (.region [⟨some 2, .box 0 25 (.tmp 0), none⟩, ⟨some 3, .box 1 27 (.tmp 1), none⟩, ⟨some 4, .mv (.c (.one (.t (.int .i64 0)))), none⟩]) (.seq (.seq (.region [⟨some 9, .fieldA 0 (.tmp 3), none⟩, ⟨some 10, .load false 1 (.tmp 9), none⟩, ⟨some 11, .fieldA 0 (.tmp 2), none⟩, ⟨some 12, .load false 1 (.tmp 11), none⟩, ⟨some 13, .len (.tmp 12), none⟩, ⟨some 14, .call (.c (.one (.fn 113 []))) 69 [.tmp 10, .tmp 13], none⟩, ⟨some 5, .mv (.tmp 14), none⟩]) (.seq (.region [⟨some 15, .mv (.tmp 5), none⟩, ⟨some 16, .bin .neq (.tmp 15) (.c (.one (.t (.int .i64 0)))), none⟩]) (.cond (.tmp 16) (.seq (.region [⟨some 17, .mv (.tmp 5), none⟩, ⟨some 4, .mv (.tmp 17), none⟩]) .ret) .skip))) (.seq (.seq (.region [⟨some 18, .fieldA 1 (.tmp 3), none⟩, ⟨some 19, .load false 1 (.tmp 18), none⟩, ⟨some 20, .fieldA 1 (.tmp 2), none⟩, ⟨some 21, .load false 1 (.tmp 20), none⟩, ⟨some 22, .len (.tmp 21), none⟩, ⟨some 23, .call (.c (.one (.fn 113 []))) 261 [.tmp 19, .tmp 22], none⟩, ⟨some 6, .mv (.tmp 23), none⟩]) (.seq (.region [⟨some 24, .mv (.tmp 6), none⟩, ⟨some 25, .bin .neq (.tmp 24) (.c (.one (.t (.int .i64 0)))), none⟩]) (.cond (.tmp 25) (.seq (.region [⟨some 26, .mv (.tmp 6), none⟩, ⟨some 4, .mv (.tmp 26), none⟩]) .ret) .skip))) (.seq (.seq (.region [⟨some 27, .fieldA 1 (.tmp 3), none⟩, ⟨some 28, .load false 1 (.tmp 27), none⟩, ⟨some 29, .len (.tmp 28), none⟩, ⟨some 30, .mv (.c (.one (.t (.int .i64 0)))), none⟩]) (.block 0 (.loop (.seq (.region [⟨some 31, .bin .lss (.tmp 30) (.tmp 29), none⟩]) (.seq (.cond (.tmp 31) .skip (.exit 0)) (.seq (.block 1 (.seq (.region [⟨some 32, .idxA 1 (.tmp 28) (.tmp 30), none⟩, ⟨some 33, .load false 1 (.tmp 32), none⟩, ⟨some 8, .mv (.tmp 33), none⟩]) (.seq (.draw [[], [0], [], [2], [], [3, 4], [5], [6], [1, 7], [8], [9, 8], [10], [11, 10], [10], [13, 10], [10], [14, 15, 10], [16, 10], [17, 10], [12, 18, 10, 10], [19, 10], [10, 20]] [⟨some 34, .fieldA 0 (.tmp 3), none⟩, ⟨some 35, .load false 1 (.tmp 34), none⟩, ⟨some 36, .fieldA 1 (.tmp 2), none⟩, ⟨some 37, .load false 1 (.tmp 36), none⟩, ⟨some 38, .mv (.tmp 8), none⟩, ⟨some 39, .idxA 3 (.tmp 37) (.tmp 38), none⟩, ⟨some 40, .fieldA 1 (.tmp 39), none⟩, ⟨some 41, .load false 1 (.tmp 40), none⟩, ⟨some 42, .call (.c (.one (.fn 114 []))) 648 [.tmp 35, .tmp 41], none⟩, ⟨some 43, .not (.tmp 42), none⟩, ⟨some 44, .mv (.tmp 43), none⟩, ⟨some 45, .fieldA 0 (.tmp 3), some (44, false)⟩, ⟨some 46, .load false 1 (.tmp 45), some (44, false)⟩, ⟨some 47, .fieldA 1 (.tmp 2), some (44, false)⟩, ⟨some 48, .load false 1 (.tmp 47), some (44, false)⟩, ⟨some 49, .mv (.tmp 8), some (44, false)⟩, ⟨some 50, .idxA 3 (.tmp 48) (.tmp 49), some (44, false)⟩, ⟨some 51, .fieldA 2 (.tmp 50), some (44, false)⟩, ⟨some 52, .load false 1 (.tmp 51), some (44, false)⟩, ⟨some 53, .call (.c (.one (.fn 114 []))) 659 [.tmp 46, .tmp 52], some (44, false)⟩, ⟨some 54, .not (.tmp 53), some (44, false)⟩, ⟨some 55, .pick (.tmp 44) (.c (.one (.t (.bool true)))) (.tmp 54), none⟩]) (.cond (.tmp 55) (.seq (.region [⟨some 4, .mv (.c (.one (.t (.int .i64 14)))), none⟩]) .ret) .skip)))) (.region [⟨some 56, .bin .add (.tmp 30) (.c (.one (.t (.int .i64 1)))), none⟩, ⟨some 30, .mv (.tmp 56), none⟩]))))))) (.seq (.region [⟨some 4, .mv (.c (.one (.t (.int .i64 0)))), none⟩]) .ret))))⟩
theorem k_part : cFn Try.prog Try.f81 = some c_part := by kernel_rfl
theorem part_ok (g : Gr) (p : Pa) (hp1 : tiny p.nodes.length) (hp2 : tiny p.edges.length) : CallOK Try.prog 81 [g.v, p.v] (.sv (false, [.int .i64 (partErr g p)])) := by
  refine callOK_W (callS_W (by kernel_rfl) Try.func81 k_part (callable_of Try.func81 (by kernel_rfl)) (by simp [c_part]) ?_)
  simp [c_part, rn0, rn1, rn2, rn3, rn4, rn5, rn6, rn7, evOp, Arg.ev, St.val, St.set, St.new, sliceOf, binInt2, binInt, AV.cells, rdAt, St.live, retOf, resOf, resAll, treeOf, treeCell, treeCells, treeTups, untree, frameOf, TV.av, TR.av, ints, edgs, prs, fillV, splice, intsOf, trees, V1.tree, bx, Gr.v, Pa.v]
  refine callS_tree (list_ok p.nodes g.nodes.length hp1.small) ?_ ?_ ?_
  · rfl
  · rfl
  by_cases h1 : ascErr p.nodes g.nodes.length = 0
  case neg =>
    have e : partErr g p = ascErr p.nodes g.nodes.length := by simp [partErr, h1]
    simp [rn0, rn1, rn2, rn3, rn4, rn5, rn6, rn7, evOp, Arg.ev, St.val, St.set, St.new, sliceOf, binInt2, binInt, AV.cells, rdAt, St.live, retOf, resOf, resAll, treeOf, treeCell, treeCells, treeTups, untree, frameOf, TV.av, TR.av, ints, edgs, prs, fillV, splice, intsOf, trees, V1.tree, bx, Gr.v, Pa.v, h1, e]
  simp [rn0, rn1, rn2, rn3, rn4, rn5, rn6, rn7, evOp, Arg.ev, St.val, St.set, St.new, sliceOf, binInt2, binInt, AV.cells, rdAt, St.live, retOf, resOf, resAll, treeOf, treeCell, treeCells, treeTups, untree, frameOf, TV.av, TR.av, ints, edgs, prs, fillV, splice, intsOf, trees, V1.tree, bx, Gr.v, Pa.v, h1]
  refine callS_tree (list_ok p.edges g.edges.length hp2.small) ?_ ?_ ?_
  · rfl
  · rfl
  by_cases h2 : ascErr p.edges g.edges.length = 0
  case neg =>
    have e : partErr g p = ascErr p.edges g.edges.length := by simp [partErr, h1, h2]
    simp [rn0, rn1, rn2, rn3, rn4, rn5, rn6, rn7, evOp, Arg.ev, St.val, St.set, St.new, sliceOf, binInt2, binInt, AV.cells, rdAt, St.live, retOf, resOf, resAll, treeOf, treeCell, treeCells, treeTups, untree, frameOf, TV.av, TR.av, ints, edgs, prs, fillV, splice, intsOf, trees, V1.tree, bx, Gr.v, Pa.v, h2, e]
  have e : partErr g p = fe (danF g p) p.edges.length := by simp [partErr, h1, h2]
  rw [e]
  obtain ⟨ha1, hr1⟩ := asc_of h1
  obtain ⟨ha2, hr2⟩ := asc_of h2
  simp [rn0, rn1, rn2, rn3, rn4, rn5, rn6, rn7, evOp, Arg.ev, St.val, St.set, St.new, sliceOf, binInt2, binInt, AV.cells, rdAt, St.live, retOf, resOf, resAll, treeOf, treeCell, treeCells, treeTups, untree, frameOf, TV.av, TR.av, ints, edgs, prs, fillV, splice, intsOf, trees, V1.tree, bx, Gr.v, Pa.v, h2]
  refine loopW_count 30 p.edges.length (fun k S => S.fr 2 = .one (.ptr (0, 0) 0) ∧ S.fr 3 = .one (.ptr (1, 0) 0) ∧ S.fr 28 = .one (.t (ints p.edges)) ∧ S.fr 29 = .one (.t (.int .i64 p.edges.length)) ∧
    S.ob = upd (upd noOb (0, 0) (some (bx 25 (g.v.2.map .t)))) (1, 0) (some (bx 27 (p.v.2.map .t))) ∧ ∀ j, j < k → danF g p j = 0) hp2.small ?_ ?_ ?_
  · simp [rn0, rn1, rn2, rn3, rn4, rn5, rn6, rn7, evOp, Arg.ev, St.val, St.set, St.new, sliceOf, binInt2, binInt, AV.cells, rdAt, St.live, retOf, resOf, resAll, treeOf, treeCell, treeCells, treeTups, untree, frameOf, TV.av, TR.av, ints, edgs, prs, fillV, splice, intsOf, trees, V1.tree, bx, Gr.v, Pa.v]
  · rintro k S hlt hw hc ⟨f2, f3, f28, f29, hob, hp⟩
    have bad : danF g p k ≠ 0 → fe (danF g p) p.edges.length = danF g p k := fe_at hlt hp
    obtain ⟨q1, q2⟩ := hr2 _ (nth_mem hlt)
    obtain ⟨x, hx⟩ := Int.eq_ofNat_of_zero_le q1
    have hx2 : x < g.edges.length := by omega
    have hx3 : x * 3 < g.edges.length * 3 := by omega
    simp [rn0, rn1, rn2, rn3, rn4, rn5, rn6, rn7, evOp, Arg.ev, St.val, St.set, St.new, sliceOf, binInt2, binInt, AV.cells, rdAt, St.live, retOf, resOf, resAll, treeOf, treeCell, treeCells, treeTups, untree, frameOf, TV.av, TR.av, ints, edgs, prs, fillV, splice, intsOf, trees, V1.tree, bx, Gr.v, Pa.v, dw0, dw1, dw2, dw3, opRd, opWr, opNew, opNewR, opArgs, argsRd, argRd, Arg.rd, AV.refs, V1.refs, refsL, dstL, f2, f3, f28, f29, hob, hc, hlt, hx, hx2, hx3, drop_nth hlt, drop_edL hx2]
    refine dCall_ok (has_ok p.nodes (eth g.edges x).f hp1 ha1) ?_ ?_ ?_
    · rfl
    · rfl
    by_cases e1 : (eth g.edges x).f ∈ p.nodes
    case neg =>
      have := bad (by simp [danF, hx, e1])
      rw [show danF g p k = 14 by simp [danF, hx, e1]] at this
      simp [rn0, rn1, rn2, rn3, rn4, rn5, rn6, rn7, evOp, Arg.ev, St.val, St.set, St.new, sliceOf, binInt2, binInt, AV.cells, rdAt, St.live, retOf, resOf, resAll, treeOf, treeCell, treeCells, treeTups, untree, frameOf, TV.av, TR.av, ints, edgs, prs, fillV, splice, intsOf, trees, V1.tree, bx, Gr.v, Pa.v, dw0, dw1, dw2, dw3, opRd, opWr, opNew, opNewR, opArgs, argsRd, argRd, Arg.rd, AV.refs, V1.refs, refsL, dstL, f2, f3, f28, f29, hob, hc, hlt, hx, hx2, hx3, drop_edL hx2, e1, this]
      rfl
    simp [rn0, rn1, rn2, rn3, rn4, rn5, rn6, rn7, evOp, Arg.ev, St.val, St.set, St.new, sliceOf, binInt2, binInt, AV.cells, rdAt, St.live, retOf, resOf, resAll, treeOf, treeCell, treeCells, treeTups, untree, frameOf, TV.av, TR.av, ints, edgs, prs, fillV, splice, intsOf, trees, V1.tree, bx, Gr.v, Pa.v, dw0, dw1, dw2, dw3, opRd, opWr, opNew, opNewR, opArgs, argsRd, argRd, Arg.rd, AV.refs, V1.refs, refsL, dstL, f2, f3, f28, f29, hob, hc, hlt, hx, hx2, hx3, drop_edL hx2, e1]
    refine dCall_ok (has_ok p.nodes (eth g.edges x).g hp1 ha1) ?_ ?_ ?_
    · rfl
    · rfl
    by_cases e2 : (eth g.edges x).g ∈ p.nodes
    case neg =>
      have := bad (by simp [danF, hx, e1, e2])
      rw [show danF g p k = 14 by simp [danF, hx, e1, e2]] at this
      simp [rn0, rn1, rn2, rn3, rn4, rn5, rn6, rn7, evOp, Arg.ev, St.val, St.set, St.new, sliceOf, binInt2, binInt, AV.cells, rdAt, St.live, retOf, resOf, resAll, treeOf, treeCell, treeCells, treeTups, untree, frameOf, TV.av, TR.av, ints, edgs, prs, fillV, splice, intsOf, trees, V1.tree, bx, Gr.v, Pa.v, dw0, dw1, dw2, dw3, opRd, opWr, opNew, opNewR, opArgs, argsRd, argRd, Arg.rd, AV.refs, V1.refs, refsL, dstL, f2, f3, f28, f29, hob, hc, hlt, hx, hx2, hx3, drop_edL hx2, e1, e2, this]
      rfl
    simp [rn0, rn1, rn2, rn3, rn4, rn5, rn6, rn7, evOp, Arg.ev, St.val, St.set, St.new, sliceOf, binInt2, binInt, AV.cells, rdAt, St.live, retOf, resOf, resAll, treeOf, treeCell, treeCells, treeTups, untree, frameOf, TV.av, TR.av, ints, edgs, prs, fillV, splice, intsOf, trees, V1.tree, bx, Gr.v, Pa.v, dw0, dw1, dw2, dw3, opRd, opWr, opNew, opNewR, opArgs, argsRd, argRd, Arg.rd, AV.refs, V1.refs, refsL, dstL, f2, f3, f28, f29, hob, hc, hlt, hx, hx2, hx3, drop_edL hx2, e1, e2, hw]
    exact ⟨rfl, lt_succ_all hp (by simp [danF, hx, e1, e2])⟩
  · rintro S hc ⟨f2, f3, f28, f29, hob, hp⟩
    have : fe (danF g p) p.edges.length = 0 := fe_zero hp
    simp [rn0, rn1, rn2, rn3, rn4, rn5, rn6, rn7, evOp, Arg.ev, St.val, St.set, St.new, sliceOf, binInt2, binInt, AV.cells, rdAt, St.live, retOf, resOf, resAll, treeOf, treeCell, treeCells, treeTups, untree, frameOf, TV.av, TR.av, ints, edgs, prs, fillV, splice, intsOf, trees, V1.tree, bx, Gr.v, Pa.v, f2, f3, f28, f29, hob, hc, this]

def c_right7 : MFunc := ⟨57, [.tmp 4], .seq (.region [⟨some 2, .box 0 25 (.tmp 0), none⟩, ⟨some 3, .box 1 27 (.tmp 1), none⟩, ⟨some 4, .mv (.c (.one (.t (.int .i64 0)))), none⟩]) (.seq (.seq (.region [⟨some 9, .fieldA 0 (.tmp 3), none⟩, ⟨some 10, .load false 1 (.tmp 9), none⟩, ⟨some 11, .fieldA 0 (.tmp 2), none⟩, ⟨some 12, .load false 1 (.tmp 11), none⟩, ⟨some 13, .len (.tmp 12), none⟩, ⟨some 14, .call (.c (.one (.fn 126 []))) 69 [.tmp 10, .tmp 13], none⟩, ⟨some 5, .mv (.tmp 14), none⟩]) (.seq (.region [⟨some 15, .mv (.tmp 5), none⟩, ⟨some 16, .bin .neq (.tmp 15) (.c (.one (.t (.int .i64 0)))), none⟩]) (.cond (.tmp 16) (.seq (.region [⟨some 17, .mv (.tmp 5), none⟩, ⟨some 4, .mv (.tmp 17), none⟩]) .ret) .skip))) (.seq (.seq (.region [⟨some 18, .fieldA 1 (.tmp 3), none⟩, ⟨some 19, .load false 1 (.tmp 18), none⟩, ⟨some 20, .fieldA 1 (.tmp 2), none⟩, ⟨some 21, .load false 1 (.tmp 20), none⟩, ⟨some 22, .len (.tmp 21), none⟩, ⟨some 23, .call (.c (.one (.fn 126 []))) 261 [.tmp 19, .tmp 22], none⟩, ⟨some 6, .mv (.tmp 23), none⟩]) (.seq (.region [⟨some 24, .mv (.tmp 6), none⟩, ⟨some 25, .bin .neq (.tmp 24) (.c (.one (.t (.int .i64 0)))), none⟩]) (.cond (.tmp 25) (.seq (.region [⟨some 26, .mv (.tmp 6), none⟩, ⟨some 4, .mv (.tmp 26), none⟩]) .ret) .skip))) (.seq (.seq (.region [⟨some 7, .mv (.c (.one (.t (.int .i64 0)))), none⟩]) (.block 0 (.loop (.seq (.seq (.region [⟨some 27, .mv (.tmp 7), none⟩, ⟨some 28, .fieldA 1 (.tmp 3), none⟩, ⟨some 29, .load false 1 (.tmp 28), none⟩, ⟨some 30, .len (.tmp 29), none⟩, ⟨some 31, .bin .lss (.tmp 27) (.tmp 30), none⟩]) (.cond (.tmp 31) .skip (.exit 0))) (.seq (.block 1 (.seq (.draw [[], [0], [], [2], [], [3, 4], [5], [1, 6], [7], [], [9, 8, 0, 1, 2, 3, 4, 5, 6, 7, 8, 9]] [⟨some 34, .fieldA 1 (.tmp 2), none⟩, ⟨some 35, .load false 1 (.tmp 34), none⟩, ⟨some 36, .fieldA 1 (.tmp 3), none⟩, ⟨some 37, .load false 1 (.tmp 36), none⟩, ⟨some 38, .mv (.tmp 7), none⟩, ⟨some 39, .idxA 1 (.tmp 37) (.tmp 38), none⟩, ⟨some 40, .load false 1 (.tmp 39), none⟩, ⟨some 41, .idxA 3 (.tmp 35) (.tmp 40), none⟩, ⟨some 42, .load true 3 (.tmp 41), none⟩, ⟨some 8, .alloc 649 73 [.t (.int .i64 0), .t (.int .i64 0), .t (.int .i64 0)], none⟩, ⟨none, .store 3 (.tmp 8) (.tmp 42), none⟩]) (.seq (.region [⟨some 43, .fieldA 0 (.tmp 3), none⟩, ⟨some 44, .load false 1 (.tmp 43), none⟩, ⟨some 45, .fieldA 1 (.tmp 8), none⟩, ⟨some 46, .load false 1 (.tmp 45), none⟩, ⟨some 47, .call (.c (.one (.fn 84 []))) 708 [.tmp 44, .tmp 46], none⟩, ⟨some 48, .not (.tmp 47), none⟩, ⟨some 49, .mv (.tmp 48), none⟩, ⟨some 50, .fieldA 0 (.tmp 3), some (49, false)⟩, ⟨some 51, .load false 1 (.tmp 50), some (49, false)⟩, ⟨some 52, .fieldA 2 (.tmp 8), some (49, false)⟩, ⟨some 53, .load false 1 (.tmp 52), some (49, false)⟩, ⟨some 54, .call (.c (.one (.fn 84 []))) 715 [.tmp 51, .tmp 53], some (49, false)⟩, ⟨some 55, .not (.tmp 54), some (49, false)⟩, ⟨some 56, .pick (.tmp 49) (.c (.one (.t (.bool true)))) (.tmp 55), none⟩]) (.cond (.tmp 56) (.seq (.region [⟨some 4, .mv (.c (.one (.t (.int .i64 14)))), none⟩]) .ret) .skip)))) (.region [⟨some 32, .mv (.tmp 7), none⟩, ⟨some 33, .bin .add (.tmp 32) (.c (.one (.t (.int .i64 1)))), none⟩, ⟨some 7, .mv (.tmp 33), none⟩])))))) (.seq (.region [⟨some 4, .mv (.c (.one (.t (.int .i64 0)))), none⟩]) .ret))))⟩
theorem k_right7 : cFn Try.prog Try.f96 = some c_right7 := by kernel_rfl
theorem right7_ok (g : Gr) (p : Pa) (hp1 : tiny p.nodes.length) (hp2 : tiny p.edges.length) : CallOK Try.prog 96 [g.v, p.v] (.sv (false, [.int .i64 (partErr g p)])) := by
  refine callOK_W (callS_W (by kernel_rfl) Try.func96 k_right7 (callable_of Try.func96 (by kernel_rfl)) (by simp [c_right7]) ?_)
  simp [c_right7, rn0, rn1, rn2, rn3, rn4, rn5, rn6, rn7, evOp, Arg.ev, St.val, St.set, St.new, sliceOf, binInt2, binInt, AV.cells, rdAt, St.live, retOf, resOf, resAll, treeOf, treeCell, treeCells, treeTups, untree, frameOf, TV.av, TR.av, ints, edgs, prs, fillV, splice, intsOf, trees, V1.tree, bx, Gr.v, Pa.v]
  refine callS_tree (ascending_ok p.nodes g.nodes.length hp1.small) ?_ ?_ ?_
  · rfl
  · rfl
  by_cases h1 : ascErr p.nodes g.nodes.length = 0
  case neg =>
    have e : partErr g p = ascErr p.nodes g.nodes.length := by simp [partErr, h1]
    simp [rn0, rn1, rn2, rn3, rn4, rn5, rn6, rn7, evOp, Arg.ev, St.val, St.set, St.new, sliceOf, binInt2, binInt, AV.cells, rdAt, St.live, retOf, resOf, resAll, treeOf, treeCell, treeCells, treeTups, untree, frameOf, TV.av, TR.av, ints, edgs, prs, fillV, splice, intsOf, trees, V1.tree, bx, Gr.v, Pa.v, h1, e]
  simp [rn0, rn1, rn2, rn3, rn4, rn5, rn6, rn7, evOp, Arg.ev, St.val, St.set, St.new, sliceOf, binInt2, binInt, AV.cells, rdAt, St.live, retOf, resOf, resAll, treeOf, treeCell, treeCells, treeTups, untree, frameOf, TV.av, TR.av, ints, edgs, prs, fillV, splice, intsOf, trees, V1.tree, bx, Gr.v, Pa.v, h1]
  refine callS_tree (ascending_ok p.edges g.edges.length hp2.small) ?_ ?_ ?_
  · rfl
  · rfl
  by_cases h2 : ascErr p.edges g.edges.length = 0
  case neg =>
    have e : partErr g p = ascErr p.edges g.edges.length := by simp [partErr, h1, h2]
    simp [rn0, rn1, rn2, rn3, rn4, rn5, rn6, rn7, evOp, Arg.ev, St.val, St.set, St.new, sliceOf, binInt2, binInt, AV.cells, rdAt, St.live, retOf, resOf, resAll, treeOf, treeCell, treeCells, treeTups, untree, frameOf, TV.av, TR.av, ints, edgs, prs, fillV, splice, intsOf, trees, V1.tree, bx, Gr.v, Pa.v, h2, e]
  have e : partErr g p = fe (danF g p) p.edges.length := by simp [partErr, h1, h2]
  rw [e]
  obtain ⟨ha1, hr1⟩ := asc_of h1
  obtain ⟨ha2, hr2⟩ := asc_of h2
  simp [rn0, rn1, rn2, rn3, rn4, rn5, rn6, rn7, evOp, Arg.ev, St.val, St.set, St.new, sliceOf, binInt2, binInt, AV.cells, rdAt, St.live, retOf, resOf, resAll, treeOf, treeCell, treeCells, treeTups, untree, frameOf, TV.av, TR.av, ints, edgs, prs, fillV, splice, intsOf, trees, V1.tree, bx, Gr.v, Pa.v, h2]
  refine loopW_count 7 p.edges.length (fun k S => S.fr 2 = .one (.ptr (0, 0) 0) ∧ S.fr 3 = .one (.ptr (1, 0) 0) ∧
    S.ob (0, 0) = some (bx 25 (g.v.2.map .t)) ∧ S.ob (1, 0) = some (bx 27 (p.v.2.map .t)) ∧ ∀ j, j < k → danF g p j = 0) hp2.small ?_ ?_ ?_
  · simp [rn0, rn1, rn2, rn3, rn4, rn5, rn6, rn7, evOp, Arg.ev, St.val, St.set, St.new, sliceOf, binInt2, binInt, AV.cells, rdAt, St.live, retOf, resOf, resAll, treeOf, treeCell, treeCells, treeTups, untree, frameOf, TV.av, TR.av, ints, edgs, prs, fillV, splice, intsOf, trees, V1.tree, bx, Gr.v, Pa.v]
  · rintro k S hlt hw hc ⟨f2, f3, hob, hob1, hp⟩
    have bad : danF g p k ≠ 0 → fe (danF g p) p.edges.length = danF g p k := fe_at hlt hp
    obtain ⟨q1, q2⟩ := hr2 _ (nth_mem hlt)
    obtain ⟨x, hx⟩ := Int.eq_ofNat_of_zero_le q1
    have hx2 : x < g.edges.length := by omega
    have hx3 : x * 3 < g.edges.length * 3 := by omega
    simp [rn0, rn1, rn2, rn3, rn4, rn5, rn6, rn7, evOp, Arg.ev, St.val, St.set, St.new, sliceOf, binInt2, binInt, AV.cells, rdAt, St.live, retOf, resOf, resAll, treeOf, treeCell, treeCells, treeTups, untree, frameOf, TV.av, TR.av, ints, edgs, prs, fillV, splice, intsOf, trees, V1.tree, bx, Gr.v, Pa.v, dw0, dw1, dw2, dw3, opRd, opWr, opNew, opNewR, opArgs, argsRd, argRd, Arg.rd, AV.refs, V1.refs, refsL, dstL, f2, f3, hob, hob1, hc, hlt, hx, hx2, hx3, drop_nth hlt, drop_edL hx2]
    refine ⟨rfl, ?_⟩
    refine callS_tree (has07_ok p.nodes (eth g.edges x).f hp1.small) ?_ ?_ ?_
    · simp [argTrees, argTree, rn0, rn1, rn2, rn3, rn4, rn5, rn6, rn7, evOp, Arg.ev, St.val, St.set, St.new, sliceOf, binInt2, binInt, AV.cells, rdAt, St.live, retOf, resOf, resAll, treeOf, treeCell, treeCells, treeTups, untree, frameOf, TV.av, TR.av, ints, edgs, prs, fillV, splice, intsOf, trees, V1.tree, bx, Gr.v, Pa.v]
    · rfl
    by_cases e1 : (eth g.edges x).f ∈ p.nodes
    case neg =>
      have := bad (by simp [danF, hx, e1])
      rw [show danF g p k = 14 by simp [danF, hx, e1]] at this
      simp [rn0, rn1, rn2, rn3, rn4, rn5, rn6, rn7, evOp, Arg.ev, St.val, St.set, St.new, sliceOf, binInt2, binInt, AV.cells, rdAt, St.live, retOf, resOf, resAll, treeOf, treeCell, treeCells, treeTups, untree, frameOf, TV.av, TR.av, ints, edgs, prs, fillV, splice, intsOf, trees, V1.tree, bx, Gr.v, Pa.v, f2, f3, hob, hob1, hc, hx, e1, this]
    simp [rn0, rn1, rn2, rn3, rn4, rn5, rn6, rn7, evOp, Arg.ev, St.val, St.set, St.new, sliceOf, binInt2, binInt, AV.cells, rdAt, St.live, retOf, resOf, resAll, treeOf, treeCell, treeCells, treeTups, untree, frameOf, TV.av, TR.av, ints, edgs, prs, fillV, splice, intsOf, trees, V1.tree, bx, Gr.v, Pa.v, f2, f3, hob, hob1, hc, hx, e1]
    refine callS_tree (has07_ok p.nodes (eth g.edges x).g hp1.small) ?_ ?_ ?_
    · simp [argTrees, argTree, rn0, rn1, rn2, rn3, rn4, rn5, rn6, rn7, evOp, Arg.ev, St.val, St.set, St.new, sliceOf, binInt2, binInt, AV.cells, rdAt, St.live, retOf, resOf, resAll, treeOf, treeCell, treeCells, treeTups, untree, frameOf, TV.av, TR.av, ints, edgs, prs, fillV, splice, intsOf, trees, V1.tree, bx, Gr.v, Pa.v]
    · rfl
    by_cases e2 : (eth g.edges x).g ∈ p.nodes
    case neg =>
      have := bad (by simp [danF, hx, e1, e2])
      rw [show danF g p k = 14 by simp [danF, hx, e1, e2]] at this
      simp [rn0, rn1, rn2, rn3, rn4, rn5, rn6, rn7, evOp, Arg.ev, St.val, St.set, St.new, sliceOf, binInt2, binInt, AV.cells, rdAt, St.live, retOf, resOf, resAll, treeOf, treeCell, treeCells, treeTups, untree, frameOf, TV.av, TR.av, ints, edgs, prs, fillV, splice, intsOf, trees, V1.tree, bx, Gr.v, Pa.v, f2, f3, hob, hob1, hc, hx, e1, e2, this]
    simp [rn0, rn1, rn2, rn3, rn4, rn5, rn6, rn7, evOp, Arg.ev, St.val, St.set, St.new, sliceOf, binInt2, binInt, AV.cells, rdAt, St.live, retOf, resOf, resAll, treeOf, treeCell, treeCells, treeTups, untree, frameOf, TV.av, TR.av, ints, edgs, prs, fillV, splice, intsOf, trees, V1.tree, bx, Gr.v, Pa.v, f2, f3, hob, hob1, hc, hx, e1, e2, hw]
    exact lt_succ_all hp (by simp [danF, hx, e1, e2])
  · rintro S hc ⟨f2, f3, hob, hob1, hp⟩
    have : fe (danF g p) p.edges.length = 0 := fe_zero hp
    simp [rn0, rn1, rn2, rn3, rn4, rn5, rn6, rn7, evOp, Arg.ev, St.val, St.set, St.new, sliceOf, binInt2, binInt, AV.cells, rdAt, St.live, retOf, resOf, resAll, treeOf, treeCell, treeCells, treeTups, untree, frameOf, TV.av, TR.av, ints, edgs, prs, fillV, splice, intsOf, trees, V1.tree, bx, Gr.v, Pa.v, f2, f3, hob, hob1, hc, this]

def tinyG (g : Gr) : Prop := tiny g.nodes.length ∧ tiny g.edges.length
def tinyP (p : Pa) : Prop := tiny p.nodes.length ∧ tiny p.edges.length

/-- The error of a graph and a part. -/
def subErr (g : Gr) (p : Pa) : Int := if gErr g = 0 then partErr g p else gErr g

def c_svalid : MFunc := ⟨14, [.tmp 4], .seq (.region [⟨some 2, .box 0 25 (.tmp 0), none⟩, ⟨some 3, .box 1 27 (.tmp 1), none⟩, ⟨some 4, .mv (.c (.one (.t (.int .i64 0)))), none⟩]) (.seq (.seq (.region [⟨some 6, .load true 2 (.tmp 2), none⟩, ⟨some 7, .call (.c (.one (.fn 85 []))) 65 [.tmp 6], none⟩, ⟨some 5, .mv (.tmp 7), none⟩]) (.seq (.region [⟨some 8, .mv (.tmp 5), none⟩, ⟨some 9, .bin .neq (.tmp 8) (.c (.one (.t (.int .i64 0)))), none⟩]) (.cond (.tmp 9) (.seq (.region [⟨some 10, .mv (.tmp 5), none⟩, ⟨some 4, .mv (.tmp 10), none⟩]) .ret) .skip))) (.seq (.region [⟨some 11, .load true 2 (.tmp 2), none⟩, ⟨some 12, .load true 2 (.tmp 3), none⟩, ⟨some 13, .call (.c (.one (.fn 81 []))) 258 [.tmp 11, .tmp 12], none⟩, ⟨some 4, .mv (.tmp 13), none⟩]) .ret))⟩
theorem k_svalid : cFn Try.prog Try.f63 = some c_svalid := by kernel_rfl
theorem svalid_ok (g : Gr) (p : Pa) (hg : tinyG g) (hp : tinyP p) : CallOK Try.prog 63 [g.v, p.v] (.sv (false, [.int .i64 (subErr g p)])) := by
  refine callOK_W (callS_W (by kernel_rfl) Try.func63 k_svalid (callable_of Try.func63 (by kernel_rfl)) (by simp [c_svalid]) ?_)
  simp [c_svalid, rn0, rn1, rn2, rn3, rn4, rn5, rn6, rn7, evOp, Arg.ev, St.val, St.set, St.new, sliceOf, binInt2, binInt, AV.cells, rdAt, St.live, retOf, resOf, resAll, treeOf, treeCell, treeCells, treeTups, untree, frameOf, TV.av, TR.av, ints, edgs, prs, fillV, splice, intsOf, trees, V1.tree, bx, Gr.v, Pa.v]
  refine callS_tree (gvalid_ok g hg.1.small hg.2.small) ?_ ?_ ?_
  · rfl
  · rfl
  by_cases h1 : gErr g = 0
  case neg => simp [rn0, rn1, rn2, rn3, rn4, rn5, rn6, rn7, evOp, Arg.ev, St.val, St.set, St.new, sliceOf, binInt2, binInt, AV.cells, rdAt, St.live, retOf, resOf, resAll, treeOf, treeCell, treeCells, treeTups, untree, frameOf, TV.av, TR.av, ints, edgs, prs, fillV, splice, intsOf, trees, V1.tree, bx, Gr.v, Pa.v, h1, subErr]
  simp [rn0, rn1, rn2, rn3, rn4, rn5, rn6, rn7, evOp, Arg.ev, St.val, St.set, St.new, sliceOf, binInt2, binInt, AV.cells, rdAt, St.live, retOf, resOf, resAll, treeOf, treeCell, treeCells, treeTups, untree, frameOf, TV.av, TR.av, ints, edgs, prs, fillV, splice, intsOf, trees, V1.tree, bx, Gr.v, Pa.v, h1, subErr]
  refine callS_tree (part_ok g p hp.1 hp.2) ?_ ?_ ?_
  · rfl
  · rfl
  simp [rn0, rn1, rn2, rn3, rn4, rn5, rn6, rn7, evOp, Arg.ev, St.val, St.set, St.new, sliceOf, binInt2, binInt, AV.cells, rdAt, St.live, retOf, resOf, resAll, treeOf, treeCell, treeCells, treeTups, untree, frameOf, TV.av, TR.av, ints, edgs, prs, fillV, splice, intsOf, trees, V1.tree, bx, Gr.v, Pa.v]

def c_rvalid7 : MFunc := ⟨14, [.tmp 4], .seq (.region [⟨some 2, .box 0 25 (.tmp 0), none⟩, ⟨some 3, .box 1 27 (.tmp 1), none⟩, ⟨some 4, .mv (.c (.one (.t (.int .i64 0)))), none⟩]) (.seq (.seq (.region [⟨some 6, .load true 2 (.tmp 2), none⟩, ⟨some 7, .call (.c (.one (.fn 77 []))) 65 [.tmp 6], none⟩, ⟨some 5, .mv (.tmp 7), none⟩]) (.seq (.region [⟨some 8, .mv (.tmp 5), none⟩, ⟨some 9, .bin .neq (.tmp 8) (.c (.one (.t (.int .i64 0)))), none⟩]) (.cond (.tmp 9) (.seq (.region [⟨some 10, .mv (.tmp 5), none⟩, ⟨some 4, .mv (.tmp 10), none⟩]) .ret) .skip))) (.seq (.region [⟨some 11, .load true 2 (.tmp 2), none⟩, ⟨some 12, .load true 2 (.tmp 3), none⟩, ⟨some 13, .call (.c (.one (.fn 96 []))) 258 [.tmp 11, .tmp 12], none⟩, ⟨some 4, .mv (.tmp 13), none⟩]) .ret))⟩
theorem k_rvalid7 : cFn Try.prog Try.f73 = some c_rvalid7 := by kernel_rfl
theorem rvalid7_ok (g : Gr) (p : Pa) (hg : tinyG g) (hp : tinyP p) : CallOK Try.prog 73 [g.v, p.v] (.sv (false, [.int .i64 (subErr g p)])) := by
  refine callOK_W (callS_W (by kernel_rfl) Try.func73 k_rvalid7 (callable_of Try.func73 (by kernel_rfl)) (by simp [c_rvalid7]) ?_)
  simp [c_rvalid7, rn0, rn1, rn2, rn3, rn4, rn5, rn6, rn7, evOp, Arg.ev, St.val, St.set, St.new, sliceOf, binInt2, binInt, AV.cells, rdAt, St.live, retOf, resOf, resAll, treeOf, treeCell, treeCells, treeTups, untree, frameOf, TV.av, TR.av, ints, edgs, prs, fillV, splice, intsOf, trees, V1.tree, bx, Gr.v, Pa.v]
  refine callS_tree (rvalid_ok g hg.1.small hg.2.small) ?_ ?_ ?_
  · rfl
  · rfl
  by_cases h1 : gErr g = 0
  case neg => simp [rn0, rn1, rn2, rn3, rn4, rn5, rn6, rn7, evOp, Arg.ev, St.val, St.set, St.new, sliceOf, binInt2, binInt, AV.cells, rdAt, St.live, retOf, resOf, resAll, treeOf, treeCell, treeCells, treeTups, untree, frameOf, TV.av, TR.av, ints, edgs, prs, fillV, splice, intsOf, trees, V1.tree, bx, Gr.v, Pa.v, h1, subErr]
  simp [rn0, rn1, rn2, rn3, rn4, rn5, rn6, rn7, evOp, Arg.ev, St.val, St.set, St.new, sliceOf, binInt2, binInt, AV.cells, rdAt, St.live, retOf, resOf, resAll, treeOf, treeCell, treeCells, treeTups, untree, frameOf, TV.av, TR.av, ints, edgs, prs, fillV, splice, intsOf, trees, V1.tree, bx, Gr.v, Pa.v, h1, subErr]
  refine callS_tree (right7_ok g p hp.1 hp.2) ?_ ?_ ?_
  · rfl
  · rfl
  simp [rn0, rn1, rn2, rn3, rn4, rn5, rn6, rn7, evOp, Arg.ev, St.val, St.set, St.new, sliceOf, binInt2, binInt, AV.cells, rdAt, St.live, retOf, resOf, resAll, treeOf, treeCell, treeCells, treeTups, untree, frameOf, TV.av, TR.av, ints, edgs, prs, fillV, splice, intsOf, trees, V1.tree, bx, Gr.v, Pa.v]
end Go.Proofs.Ythapbbpdcjmmfaa
