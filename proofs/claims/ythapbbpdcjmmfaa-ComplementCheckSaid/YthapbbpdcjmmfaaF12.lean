/-
  Contracts: copies, comparisons, sizes. No condition beyond those that each statement names.
-/
import Derived.Test.YthapbbpdcjmmfaaF11
namespace Go.Proofs.Ythapbbpdcjmmfaa
open Abs
set_option linter.unusedSimpArgs false
set_option linter.unusedVariables false

theorem ofInts_inj {a b : List Int} (h : a.map (C.int .i64) = b.map (C.int .i64)) : a = b := by
  induction a generalizing b with
  | nil => cases b with
    | nil => rfl
    | cons y r => simp at h
  | cons x r ih => cases b with
    | nil => simp at h
    | cons y r' =>
      simp at h
      rw [h.1, ih (by simpa using h.2)]

theorem list_ext_nth {a b : List Int} (hl : a.length = b.length) (h : ∀ k, k < a.length → nth a k = nth b k) : a = b := by
  apply List.ext_getElem hl
  intro i h1 h2
  have := h i h1
  rwa [nth_eq h1, nth_eq h2] at this

def c_sameInts : MFunc := ⟨26, [.tmp 4], .seq (.region [⟨some 4, .mv (.c (.one (.t (.bool false)))), none⟩]) (.seq (.seq (.region [⟨some 6, .mv (.tmp 0), none⟩, ⟨some 7, .len (.tmp 6), none⟩, ⟨some 8, .mv (.tmp 1), none⟩, ⟨some 9, .len (.tmp 8), none⟩, ⟨some 10, .bin .neq (.tmp 7) (.tmp 9), none⟩]) (.cond (.tmp 10) (.seq (.region [⟨some 4, .mv (.c (.one (.t (.bool false)))), none⟩]) .ret) .skip)) (.seq (.seq (.region [⟨some 5, .mv (.c (.one (.t (.int .i64 0)))), none⟩]) (.block 0 (.loop (.seq (.seq (.region [⟨some 11, .mv (.tmp 5), none⟩, ⟨some 12, .mv (.tmp 0), none⟩, ⟨some 13, .len (.tmp 12), none⟩, ⟨some 14, .bin .lss (.tmp 11) (.tmp 13), none⟩]) (.cond (.tmp 14) .skip (.exit 0))) (.seq (.block 1 (.seq (.draw [[], [], [0, 1], [2], [], [], [4, 5], [6], [3, 7]] [⟨some 17, .mv (.tmp 0), none⟩, ⟨some 18, .mv (.tmp 5), none⟩, ⟨some 19, .idxA 1 (.tmp 17) (.tmp 18), none⟩, ⟨some 20, .load false 1 (.tmp 19), none⟩, ⟨some 21, .mv (.tmp 1), none⟩, ⟨some 22, .mv (.tmp 5), none⟩, ⟨some 23, .idxA 1 (.tmp 21) (.tmp 22), none⟩, ⟨some 24, .load false 1 (.tmp 23), none⟩, ⟨some 25, .bin .neq (.tmp 20) (.tmp 24), none⟩]) (.cond (.tmp 25) (.seq (.region [⟨some 4, .mv (.c (.one (.t (.bool false)))), none⟩]) .ret) .skip))) (.region [⟨some 15, .mv (.tmp 5), none⟩, ⟨some 16, .bin .add (.tmp 15) (.c (.one (.t (.int .i64 1)))), none⟩, ⟨some 5, .mv (.tmp 16), none⟩])))))) (.seq (.region [⟨some 4, .mv (.c (.one (.t (.bool true)))), none⟩]) .ret)))⟩
theorem k_sameInts : cFn Try.prog Try.f51 = some c_sameInts := by kernel_rfl
theorem sameInts_ok (a b : List Int) (ha : tiny a.length) (hb : tiny b.length) : CallOK Try.prog 51 [(false, [ints a]), (false, [ints b])] (.sv (false, [.bool (decide (a = b))])) := by
  refine callOK_W (callS_W (by kernel_rfl) Try.func51 k_sameInts (callable_of Try.func51 (by kernel_rfl)) (by simp [c_sameInts]) ?_)
  by_cases hl : (a.length : Int) = b.length
  case neg =>
    have : ¬ a = b := fun e => hl (by rw [e])
    simp [c_sameInts, rn0, rn1, rn2, rn3, rn4, rn5, rn6, rn7, evOp, Arg.ev, St.val, St.set, St.new, sliceOf, binInt2, binInt, AV.cells, rdAt, St.live, retOf, resOf, resAll, treeOf, treeCell, treeCells, treeTups, untree, frameOf, TV.av, TR.av, ints, edgs, prs, fillV, splice, intsOf, trees, V1.tree, bx, Gr.v, Pa.v, hl, this]
  simp [c_sameInts, rn0, rn1, rn2, rn3, rn4, rn5, rn6, rn7, evOp, Arg.ev, St.val, St.set, St.new, sliceOf, binInt2, binInt, AV.cells, rdAt, St.live, retOf, resOf, resAll, treeOf, treeCell, treeCells, treeTups, untree, frameOf, TV.av, TR.av, ints, edgs, prs, fillV, splice, intsOf, trees, V1.tree, bx, Gr.v, Pa.v, hl]
  have hl' : a.length = b.length := by omega
  refine loopW_count 5 a.length (fun k S => S.fr 0 = .one (.t (ints a)) ∧ S.fr 1 = .one (.t (ints b)) ∧ ∀ j, j < k → nth a j = nth b j) ha.small ?_ ?_ ?_
  · simp [rn0, rn1, rn2, rn3, rn4, rn5, rn6, rn7, evOp, Arg.ev, St.val, St.set, St.new, sliceOf, binInt2, binInt, AV.cells, rdAt, St.live, retOf, resOf, resAll, treeOf, treeCell, treeCells, treeTups, untree, frameOf, TV.av, TR.av, ints, edgs, prs, fillV, splice, intsOf, trees, V1.tree, bx, Gr.v, Pa.v, hl]
  · rintro k S hlt hw hc ⟨f0, f1, hp⟩
    have hlt2 : k < b.length := by omega
    by_cases e : nth a k = nth b k
    · simp [rn0, rn1, rn2, rn3, rn4, rn5, rn6, rn7, evOp, Arg.ev, St.val, St.set, St.new, sliceOf, binInt2, binInt, AV.cells, rdAt, St.live, retOf, resOf, resAll, treeOf, treeCell, treeCells, treeTups, untree, frameOf, TV.av, TR.av, ints, edgs, prs, fillV, splice, intsOf, trees, V1.tree, bx, Gr.v, Pa.v, dw0, dw1, dw2, dw3, opRd, opWr, opNew, opNewR, opArgs, argsRd, argRd, Arg.rd, AV.refs, V1.refs, refsL, dstL, f0, f1, hc, hlt, hlt2, drop_nth hlt, drop_nth hlt2, e, hw]
      exact ⟨rfl, lt_succ_all hp e⟩
    · have : ¬ a = b := fun h => e (by rw [h])
      simp [rn0, rn1, rn2, rn3, rn4, rn5, rn6, rn7, evOp, Arg.ev, St.val, St.set, St.new, sliceOf, binInt2, binInt, AV.cells, rdAt, St.live, retOf, resOf, resAll, treeOf, treeCell, treeCells, treeTups, untree, frameOf, TV.av, TR.av, ints, edgs, prs, fillV, splice, intsOf, trees, V1.tree, bx, Gr.v, Pa.v, dw0, dw1, dw2, dw3, opRd, opWr, opNew, opNewR, opArgs, argsRd, argRd, Arg.rd, AV.refs, V1.refs, refsL, dstL, f0, f1, hc, hlt, hlt2, drop_nth hlt, drop_nth hlt2, e, this]
      rfl
  · rintro S hc ⟨f0, f1, hp⟩
    have : a = b := list_ext_nth hl' hp
    simp [rn0, rn1, rn2, rn3, rn4, rn5, rn6, rn7, evOp, Arg.ev, St.val, St.set, St.new, sliceOf, binInt2, binInt, AV.cells, rdAt, St.live, retOf, resOf, resAll, treeOf, treeCell, treeCells, treeTups, untree, frameOf, TV.av, TR.av, ints, edgs, prs, fillV, splice, intsOf, trees, V1.tree, bx, Gr.v, Pa.v, f0, f1, hc, this]

def c_equal : MFunc := ⟨26, [.tmp 4], .seq (.region [⟨some 4, .mv (.c (.one (.t (.bool false)))), none⟩]) (.seq (.seq (.region [⟨some 6, .mv (.tmp 0), none⟩, ⟨some 7, .len (.tmp 6), none⟩, ⟨some 8, .mv (.tmp 1), none⟩, ⟨some 9, .len (.tmp 8), none⟩, ⟨some 10, .bin .neq (.tmp 7) (.tmp 9), none⟩]) (.cond (.tmp 10) (.seq (.region [⟨some 4, .mv (.c (.one (.t (.bool false)))), none⟩]) .ret) .skip)) (.seq (.seq (.region [⟨some 11, .mv (.tmp 0), none⟩, ⟨some 12, .len (.tmp 11), none⟩, ⟨some 13, .mv (.c (.one (.t (.int .i64 0)))), none⟩]) (.block 0 (.loop (.seq (.region [⟨some 14, .bin .lss (.tmp 13) (.tmp 12), none⟩]) (.seq (.cond (.tmp 14) .skip (.exit 0)) (.seq (.block 1 (.seq (.region [⟨some 15, .mv (.tmp 13), none⟩, ⟨some 5, .mv (.tmp 15), none⟩]) (.seq (.draw [[], [], [0, 1], [2], [], [], [4, 5], [6], [3, 7]] [⟨some 16, .mv (.tmp 0), none⟩, ⟨some 17, .mv (.tmp 5), none⟩, ⟨some 18, .idxA 1 (.tmp 16) (.tmp 17), none⟩, ⟨some 19, .load false 1 (.tmp 18), none⟩, ⟨some 20, .mv (.tmp 1), none⟩, ⟨some 21, .mv (.tmp 5), none⟩, ⟨some 22, .idxA 1 (.tmp 20) (.tmp 21), none⟩, ⟨some 23, .load false 1 (.tmp 22), none⟩, ⟨some 24, .bin .neq (.tmp 19) (.tmp 23), none⟩]) (.cond (.tmp 24) (.seq (.region [⟨some 4, .mv (.c (.one (.t (.bool false)))), none⟩]) .ret) .skip)))) (.region [⟨some 25, .bin .add (.tmp 13) (.c (.one (.t (.int .i64 1)))), none⟩, ⟨some 13, .mv (.tmp 25), none⟩]))))))) (.seq (.region [⟨some 4, .mv (.c (.one (.t (.bool true)))), none⟩]) .ret)))⟩
theorem k_equal : cFn Try.prog Try.f27 = some c_equal := by kernel_rfl
theorem equal_ok (a b : List Int) (ha : tiny a.length) (hb : tiny b.length) : CallOK Try.prog 27 [(false, [ints a]), (false, [ints b])] (.sv (false, [.bool (decide (a = b))])) := by
  refine callOK_W (callS_W (by kernel_rfl) Try.func27 k_equal (callable_of Try.func27 (by kernel_rfl)) (by simp [c_equal]) ?_)
  by_cases hl : (a.length : Int) = b.length
  case neg =>
    have : ¬ a = b := fun e => hl (by rw [e])
    simp [c_equal, rn0, rn1, rn2, rn3, rn4, rn5, rn6, rn7, evOp, Arg.ev, St.val, St.set, St.new, sliceOf, binInt2, binInt, AV.cells, rdAt, St.live, retOf, resOf, resAll, treeOf, treeCell, treeCells, treeTups, untree, frameOf, TV.av, TR.av, ints, edgs, prs, fillV, splice, intsOf, trees, V1.tree, bx, Gr.v, Pa.v, hl, this]
  simp [c_equal, rn0, rn1, rn2, rn3, rn4, rn5, rn6, rn7, evOp, Arg.ev, St.val, St.set, St.new, sliceOf, binInt2, binInt, AV.cells, rdAt, St.live, retOf, resOf, resAll, treeOf, treeCell, treeCells, treeTups, untree, frameOf, TV.av, TR.av, ints, edgs, prs, fillV, splice, intsOf, trees, V1.tree, bx, Gr.v, Pa.v, hl]
  have hl' : a.length = b.length := by omega
  refine loopW_count 13 a.length (fun k S => S.fr 0 = .one (.t (ints a)) ∧ S.fr 1 = .one (.t (ints b)) ∧ S.fr 12 = .one (.t (.int .i64 a.length)) ∧ ∀ j, j < k → nth a j = nth b j) ha.small ?_ ?_ ?_
  · simp [rn0, rn1, rn2, rn3, rn4, rn5, rn6, rn7, evOp, Arg.ev, St.val, St.set, St.new, sliceOf, binInt2, binInt, AV.cells, rdAt, St.live, retOf, resOf, resAll, treeOf, treeCell, treeCells, treeTups, untree, frameOf, TV.av, TR.av, ints, edgs, prs, fillV, splice, intsOf, trees, V1.tree, bx, Gr.v, Pa.v, hl]
  · rintro k S hlt hw hc ⟨f0, f1, f12, hp⟩
    have hlt2 : k < b.length := by omega
    by_cases e : nth a k = nth b k
    · simp [rn0, rn1, rn2, rn3, rn4, rn5, rn6, rn7, evOp, Arg.ev, St.val, St.set, St.new, sliceOf, binInt2, binInt, AV.cells, rdAt, St.live, retOf, resOf, resAll, treeOf, treeCell, treeCells, treeTups, untree, frameOf, TV.av, TR.av, ints, edgs, prs, fillV, splice, intsOf, trees, V1.tree, bx, Gr.v, Pa.v, dw0, dw1, dw2, dw3, opRd, opWr, opNew, opNewR, opArgs, argsRd, argRd, Arg.rd, AV.refs, V1.refs, refsL, dstL, f0, f1, f12, hc, hlt, hlt2, drop_nth hlt, drop_nth hlt2, e, hw]
      exact ⟨rfl, lt_succ_all hp e⟩
    · have : ¬ a = b := fun h => e (by rw [h])
      simp [rn0, rn1, rn2, rn3, rn4, rn5, rn6, rn7, evOp, Arg.ev, St.val, St.set, St.new, sliceOf, binInt2, binInt, AV.cells, rdAt, St.live, retOf, resOf, resAll, treeOf, treeCell, treeCells, treeTups, untree, frameOf, TV.av, TR.av, ints, edgs, prs, fillV, splice, intsOf, trees, V1.tree, bx, Gr.v, Pa.v, dw0, dw1, dw2, dw3, opRd, opWr, opNew, opNewR, opArgs, argsRd, argRd, Arg.rd, AV.refs, V1.refs, refsL, dstL, f0, f1, f12, hc, hlt, hlt2, drop_nth hlt, drop_nth hlt2, e, this]
      rfl
  · rintro S hc ⟨f0, f1, f12, hp⟩
    have : a = b := list_ext_nth hl' hp
    simp [rn0, rn1, rn2, rn3, rn4, rn5, rn6, rn7, evOp, Arg.ev, St.val, St.set, St.new, sliceOf, binInt2, binInt, AV.cells, rdAt, St.live, retOf, resOf, resAll, treeOf, treeCell, treeCells, treeTups, untree, frameOf, TV.av, TR.av, ints, edgs, prs, fillV, splice, intsOf, trees, V1.tree, bx, Gr.v, Pa.v, f0, f1, f12, hc, this]

def c_same7 : MFunc := ⟨17, [.tmp 4], .seq (.region [⟨some 2, .box 0 27 (.tmp 0), none⟩, ⟨some 3, .box 1 27 (.tmp 1), none⟩, ⟨some 4, .mv (.c (.one (.t (.bool false)))), none⟩]) (.seq (.region [⟨some 5, .fieldA 0 (.tmp 2), none⟩, ⟨some 6, .load false 1 (.tmp 5), none⟩, ⟨some 7, .fieldA 0 (.tmp 3), none⟩, ⟨some 8, .load false 1 (.tmp 7), none⟩, ⟨some 9, .call (.c (.one (.fn 51 []))) 68 [.tmp 6, .tmp 8], none⟩, ⟨some 10, .mv (.tmp 9), none⟩, ⟨some 11, .fieldA 1 (.tmp 2), some (10, true)⟩, ⟨some 12, .load false 1 (.tmp 11), some (10, true)⟩, ⟨some 13, .fieldA 1 (.tmp 3), some (10, true)⟩, ⟨some 14, .load false 1 (.tmp 13), some (10, true)⟩, ⟨some 15, .call (.c (.one (.fn 51 []))) 74 [.tmp 12, .tmp 14], some (10, true)⟩, ⟨some 16, .pick (.tmp 10) (.tmp 15) (.c (.one (.t (.bool false)))), none⟩, ⟨some 4, .mv (.tmp 16), none⟩]) .ret)⟩
theorem k_same7 : cFn Try.prog Try.f15 = some c_same7 := by kernel_rfl
theorem same7_ok (p q : Pa) (hp : tinyP p) (hq : tinyP q) : CallOK Try.prog 15 [p.v, q.v] (.sv (false, [.bool (decide (p.nodes = q.nodes) && decide (p.edges = q.edges))])) := by
  refine callOK_W (callS_W (by kernel_rfl) Try.func15 k_same7 (callable_of Try.func15 (by kernel_rfl)) (by simp [c_same7]) ?_)
  simp [c_same7, rn0, rn1, rn2, rn3, rn4, rn5, rn6, rn7, evOp, Arg.ev, St.val, St.set, St.new, sliceOf, binInt2, binInt, AV.cells, rdAt, St.live, retOf, resOf, resAll, treeOf, treeCell, treeCells, treeTups, untree, frameOf, TV.av, TR.av, ints, edgs, prs, fillV, splice, intsOf, trees, V1.tree, bx, Gr.v, Pa.v]
  refine callS_tree (sameInts_ok p.nodes q.nodes hp.1 hq.1) ?_ ?_ ?_
  · rfl
  · rfl
  by_cases h1 : p.nodes = q.nodes
  case neg => simp [rn0, rn1, rn2, rn3, rn4, rn5, rn6, rn7, evOp, Arg.ev, St.val, St.set, St.new, sliceOf, binInt2, binInt, AV.cells, rdAt, St.live, retOf, resOf, resAll, treeOf, treeCell, treeCells, treeTups, untree, frameOf, TV.av, TR.av, ints, edgs, prs, fillV, splice, intsOf, trees, V1.tree, bx, Gr.v, Pa.v, h1]
  simp [rn0, rn1, rn2, rn3, rn4, rn5, rn6, rn7, evOp, Arg.ev, St.val, St.set, St.new, sliceOf, binInt2, binInt, AV.cells, rdAt, St.live, retOf, resOf, resAll, treeOf, treeCell, treeCells, treeTups, untree, frameOf, TV.av, TR.av, ints, edgs, prs, fillV, splice, intsOf, trees, V1.tree, bx, Gr.v, Pa.v, h1]
  refine callS_tree (sameInts_ok p.edges q.edges hp.2 hq.2) ?_ ?_ ?_
  · rfl
  · rfl
  simp [rn0, rn1, rn2, rn3, rn4, rn5, rn6, rn7, evOp, Arg.ev, St.val, St.set, St.new, sliceOf, binInt2, binInt, AV.cells, rdAt, St.live, retOf, resOf, resAll, treeOf, treeCell, treeCells, treeTups, untree, frameOf, TV.av, TR.av, ints, edgs, prs, fillV, splice, intsOf, trees, V1.tree, bx, Gr.v, Pa.v, h1]

def c_clone : MFunc := ⟨8, [.tmp 2], .seq (.region [⟨some 2, .mv (.c (.one .nil)), none⟩]) (.seq (.seq (.region [⟨some 3, .mv (.tmp 0), none⟩, ⟨some 4, .isnil false (.tmp 3), none⟩]) (.cond (.tmp 4) (.seq (.region [⟨some 2, .mv (.c (.one .nil)), none⟩]) .ret) .skip)) (.seq (.region [⟨some 5, .mkrow 192 3 1 0 [] [], none⟩, ⟨some 6, .mv (.tmp 0), none⟩, ⟨some 7, .append 194 3 1 8 (.tmp 5) (.tmp 6), none⟩, ⟨some 2, .mv (.tmp 7), none⟩]) .ret))⟩
theorem k_clone : cFn Try.prog Try.f45 = some c_clone := by kernel_rfl
theorem clone_row (l : List Int) (hl : tiny l.length) : RowI Try.prog 45 [(false, [ints l])] 3 l := by
  refine callRow_W (plain_ints _) (by simp) (by omega) (callS_W (by kernel_rfl) Try.func45 k_clone (callable_of Try.func45 (by kernel_rfl)) (by simp [c_clone]) ?_)
  simp only [tiny] at hl
  simp [c_clone, rn0, rn1, rn2, rn3, rn4, rn5, rn6, rn7, evOp, Arg.ev, St.val, St.set, St.new, sliceOf, binInt2, binInt, AV.cells, rdAt, St.live, retOf, resOf, resAll, treeOf, treeCell, treeCells, treeTups, untree, frameOf, TV.av, TR.av, ints, edgs, prs, fillV, splice, intsOf, trees, V1.tree, bx, Gr.v, Pa.v, kNil]
  refine ⟨?_, fun h0 => by subst h0; simp [rowIs]⟩
  by_cases h0 : l = []
  · subst h0
    simp [rn0, rn1, rn2, rn3, rn4, rn5, rn6, rn7, evOp, Arg.ev, St.val, St.set, St.new, sliceOf, binInt2, binInt, AV.cells, rdAt, St.live, retOf, resOf, resAll, treeOf, treeCell, treeCells, treeTups, untree, frameOf, TV.av, TR.av, ints, edgs, prs, fillV, splice, intsOf, trees, V1.tree, bx, Gr.v, Pa.v, kApp, evApp, rowIs]
  · have hpos : 0 < l.length := List.length_pos_iff.2 h0
    refine kApp_grow (n := 0) (cs := []) (ts := l.map (.int .i64)) (by simp) outR_nil hpos (by simp) (by omega) (by omega) fun E hE hob hcnt => ?_
    obtain ⟨u, hu⟩ := hE.one
    rw [hu] at hE
    simp [rn0, rn1, rn2, rn3, rn4, rn5, rn6, rn7, evOp, Arg.ev, St.val, St.set, St.new, sliceOf, binInt2, binInt, AV.cells, rdAt, St.live, retOf, resOf, resAll, treeOf, treeCell, treeCells, treeTups, untree, frameOf, TV.av, TR.av, ints, edgs, prs, fillV, splice, intsOf, trees, V1.tree, bx, Gr.v, Pa.v, hu]
    simpa using hE.rowIs

def c_copied : MFunc := ⟨10, [.cell 2 true 2], .seq (.region [⟨some 1, .box 0 27 (.tmp 0), none⟩, ⟨some 2, .alloc 1 27 [.nil, .nil], none⟩]) (.seq (.draw [[], [0], [1], [], [3], [4, 2], [2, 5], [6, 5, 0, 1, 2, 3, 4, 5, 6]] [⟨some 3, .fieldA 0 (.tmp 1), none⟩, ⟨some 4, .load false 1 (.tmp 3), none⟩, ⟨some 5, .call (.c (.one (.fn 45 []))) 66 [.tmp 4], none⟩, ⟨some 6, .fieldA 1 (.tmp 1), none⟩, ⟨some 7, .load false 1 (.tmp 6), none⟩, ⟨some 8, .call (.c (.one (.fn 45 []))) 69 [.tmp 7], none⟩, ⟨some 9, .build [.nil, .nil] [(0, (1, .tmp 5)), (1, (1, .tmp 8))], none⟩, ⟨none, .store 2 (.tmp 2) (.tmp 9), none⟩]) .ret)⟩
theorem k_copied : cFn Try.prog Try.f13 = some c_copied := by kernel_rfl
theorem copied_ok (p : Pa) (hp : tinyP p) : CallOK Try.prog 13 [p.v] (.sv p.v) := by
  refine callOK_W (callS_W (by kernel_rfl) Try.func13 k_copied (callable_of Try.func13 (by kernel_rfl)) (by simp [c_copied]) ?_)
  simp [c_copied, rn0, rn1, rn2, rn3, rn4, rn5, rn6, rn7, evOp, Arg.ev, St.val, St.set, St.new, sliceOf, binInt2, binInt, AV.cells, rdAt, St.live, retOf, resOf, resAll, treeOf, treeCell, treeCells, treeTups, untree, frameOf, TV.av, TR.av, ints, edgs, prs, fillV, splice, intsOf, trees, V1.tree, bx, Gr.v, Pa.v, dw0, dw1, dw2, dw3, opRd, opWr, opNew, opNewR, opArgs, argsRd, argRd, Arg.rd, AV.refs, V1.refs, refsL, dstL]
  refine dCall_ok (clone_row p.nodes hp.1).ok ?_ ?_ ?_
  · rfl
  · rfl
  simp [rn0, rn1, rn2, rn3, rn4, rn5, rn6, rn7, evOp, Arg.ev, St.val, St.set, St.new, sliceOf, binInt2, binInt, AV.cells, rdAt, St.live, retOf, resOf, resAll, treeOf, treeCell, treeCells, treeTups, untree, frameOf, TV.av, TR.av, ints, edgs, prs, fillV, splice, intsOf, trees, V1.tree, bx, Gr.v, Pa.v, dw0, dw1, dw2, dw3, opRd, opWr, opNew, opNewR, opArgs, argsRd, argRd, Arg.rd, AV.refs, V1.refs, refsL, dstL]
  refine dCall_ok (clone_row p.edges hp.2).ok ?_ ?_ ?_
  · rfl
  · rfl
  simp [rn0, rn1, rn2, rn3, rn4, rn5, rn6, rn7, evOp, Arg.ev, St.val, St.set, St.new, sliceOf, binInt2, binInt, AV.cells, rdAt, St.live, retOf, resOf, resAll, treeOf, treeCell, treeCells, treeTups, untree, frameOf, TV.av, TR.av, ints, edgs, prs, fillV, splice, intsOf, trees, V1.tree, bx, Gr.v, Pa.v, dw0, dw1, dw2, dw3, opRd, opWr, opNew, opNewR, opArgs, argsRd, argRd, Arg.rd, AV.refs, V1.refs, refsL, dstL]
  rfl

def fewG (g : Gr) : Bool := decide ((g.nodes.length : Int) ≤ 45) && decide ((g.edges.length : Int) ≤ 90)
def fewP (p : Pa) (n : Int) : Bool := decide ((p.nodes.length : Int) + p.edges.length ≤ n)

def c_few5 : MFunc := ⟨13, [.tmp 2], .seq (.region [⟨some 1, .box 0 25 (.tmp 0), none⟩, ⟨some 2, .mv (.c (.one (.t (.bool false)))), none⟩]) (.seq (.region [⟨some 3, .fieldA 0 (.tmp 1), none⟩, ⟨some 4, .load false 1 (.tmp 3), none⟩, ⟨some 5, .len (.tmp 4), none⟩, ⟨some 6, .bin .leq (.tmp 5) (.c (.one (.t (.int .i64 45)))), none⟩, ⟨some 7, .mv (.tmp 6), none⟩, ⟨some 8, .fieldA 1 (.tmp 1), some (7, true)⟩, ⟨some 9, .load false 1 (.tmp 8), some (7, true)⟩, ⟨some 10, .len (.tmp 9), some (7, true)⟩, ⟨some 11, .bin .leq (.tmp 10) (.c (.one (.t (.int .i64 90)))), some (7, true)⟩, ⟨some 12, .pick (.tmp 7) (.tmp 11) (.c (.one (.t (.bool false)))), none⟩, ⟨some 2, .mv (.tmp 12), none⟩]) .ret)⟩
theorem k_few5 : cFn Try.prog Try.f39 = some c_few5 := by kernel_rfl
theorem few5_ok (g : Gr) : CallOK Try.prog 39 [g.v] (.sv (false, [.bool (fewG g)])) := by
  refine callOK_W (callS_W (by kernel_rfl) Try.func39 k_few5 (callable_of Try.func39 (by kernel_rfl)) (by simp [c_few5]) ?_)
  by_cases h : (g.nodes.length : Int) ≤ 45 <;> simp [c_few5, rn0, rn1, rn2, rn3, rn4, rn5, rn6, rn7, evOp, Arg.ev, St.val, St.set, St.new, sliceOf, binInt2, binInt, AV.cells, rdAt, St.live, retOf, resOf, resAll, treeOf, treeCell, treeCells, treeTups, untree, frameOf, TV.av, TR.av, ints, edgs, prs, fillV, splice, intsOf, trees, V1.tree, bx, Gr.v, Pa.v, fewG, h]

/-- Lengths that a slice in memory can have. -/
abbrev huge (n : Nat) : Prop := n ≤ 4000000000000000000

def c_few7 : MFunc := ⟨14, [.tmp 4], .seq (.region [⟨some 2, .box 0 27 (.tmp 0), none⟩, ⟨some 4, .mv (.c (.one (.t (.bool false)))), none⟩]) (.seq (.region [⟨some 5, .fieldA 0 (.tmp 2), none⟩, ⟨some 6, .load false 1 (.tmp 5), none⟩, ⟨some 7, .len (.tmp 6), none⟩, ⟨some 8, .fieldA 1 (.tmp 2), none⟩, ⟨some 9, .load false 1 (.tmp 8), none⟩, ⟨some 10, .len (.tmp 9), none⟩, ⟨some 11, .bin .add (.tmp 7) (.tmp 10), none⟩, ⟨some 12, .mv (.tmp 1), none⟩, ⟨some 13, .bin .leq (.tmp 11) (.tmp 12), none⟩, ⟨some 4, .mv (.tmp 13), none⟩]) .ret)⟩
theorem k_few7 : cFn Try.prog Try.f20 = some c_few7 := by kernel_rfl
theorem few7_ok (p : Pa) (n : Int) (h1 : huge p.nodes.length) (h2 : huge p.edges.length) : CallOK Try.prog 20 [p.v, (false, [.int .i64 n])] (.sv (false, [.bool (fewP p n)])) := by
  refine callOK_W (callS_W (by kernel_rfl) Try.func20 k_few7 (callable_of Try.func20 (by kernel_rfl)) (by simp [c_few7]) ?_)
  have hw : IntKind.i64.wrap ((p.nodes.length : Int) + p.edges.length) = (p.nodes.length : Int) + p.edges.length := by
    simp only [huge] at h1 h2
    rw [wrap64_id] <;> omega
  simp [c_few7, rn0, rn1, rn2, rn3, rn4, rn5, rn6, rn7, evOp, Arg.ev, St.val, St.set, St.new, sliceOf, binInt2, binInt, AV.cells, rdAt, St.live, retOf, resOf, resAll, treeOf, treeCell, treeCells, treeTups, untree, frameOf, TV.av, TR.av, ints, edgs, prs, fillV, splice, intsOf, trees, V1.tree, bx, Gr.v, Pa.v, fewP, hw]

def c_few6 : MFunc := ⟨14, [.tmp 4], .seq (.region [⟨some 2, .box 0 28 (.tmp 0), none⟩, ⟨some 4, .mv (.c (.one (.t (.bool false)))), none⟩]) (.seq (.region [⟨some 5, .fieldA 0 (.tmp 2), none⟩, ⟨some 6, .load false 1 (.tmp 5), none⟩, ⟨some 7, .len (.tmp 6), none⟩, ⟨some 8, .fieldA 1 (.tmp 2), none⟩, ⟨some 9, .load false 1 (.tmp 8), none⟩, ⟨some 10, .len (.tmp 9), none⟩, ⟨some 11, .bin .add (.tmp 7) (.tmp 10), none⟩, ⟨some 12, .mv (.tmp 1), none⟩, ⟨some 13, .bin .leq (.tmp 11) (.tmp 12), none⟩, ⟨some 4, .mv (.tmp 13), none⟩]) .ret)⟩
theorem k_few6 : cFn Try.prog Try.f40 = some c_few6 := by kernel_rfl
theorem few6_ok (p : Pa) (n : Int) (h1 : huge p.nodes.length) (h2 : huge p.edges.length) : CallOK Try.prog 40 [p.v, (false, [.int .i64 n])] (.sv (false, [.bool (fewP p n)])) := by
  refine callOK_W (callS_W (by kernel_rfl) Try.func40 k_few6 (callable_of Try.func40 (by kernel_rfl)) (by simp [c_few6]) ?_)
  have hw : IntKind.i64.wrap ((p.nodes.length : Int) + p.edges.length) = (p.nodes.length : Int) + p.edges.length := by
    simp only [huge] at h1 h2
    rw [wrap64_id] <;> omega
  simp [c_few6, rn0, rn1, rn2, rn3, rn4, rn5, rn6, rn7, evOp, Arg.ev, St.val, St.set, St.new, sliceOf, binInt2, binInt, AV.cells, rdAt, St.live, retOf, resOf, resAll, treeOf, treeCell, treeCells, treeTups, untree, frameOf, TV.av, TR.av, ints, edgs, prs, fillV, splice, intsOf, trees, V1.tree, bx, Gr.v, Pa.v, fewP, hw]

def fewC (l g : Gr) (p m : Pa) : Bool := fewG l && fewG g && fewP p 140 && fewP m 140
def c_few : MFunc := ⟨21, [.tmp 2], .seq (.region [⟨some 1, .box 0 30 (.tmp 0), none⟩, ⟨some 2, .mv (.c (.one (.t (.bool false)))), none⟩]) (.seq (.region [⟨some 3, .fieldA 0 (.tmp 1), none⟩, ⟨some 4, .load true 2 (.tmp 3), none⟩, ⟨some 5, .call (.c (.one (.fn 39 []))) 66 [.tmp 4], none⟩, ⟨some 6, .mv (.tmp 5), none⟩, ⟨some 7, .fieldA 2 (.tmp 1), some (6, true)⟩, ⟨some 8, .load true 2 (.tmp 7), some (6, true)⟩, ⟨some 9, .call (.c (.one (.fn 39 []))) 70 [.tmp 8], some (6, true)⟩, ⟨some 10, .pick (.tmp 6) (.tmp 9) (.c (.one (.t (.bool false)))), none⟩, ⟨some 11, .mv (.tmp 10), none⟩, ⟨some 12, .fieldA 4 (.tmp 1), some (11, true)⟩, ⟨some 13, .load true 2 (.tmp 12), some (11, true)⟩, ⟨some 14, .call (.c (.one (.fn 20 []))) 75 [.tmp 13, .c (.one (.t (.int .i64 140)))], some (11, true)⟩, ⟨some 15, .pick (.tmp 11) (.tmp 14) (.c (.one (.t (.bool false)))), none⟩, ⟨some 16, .mv (.tmp 15), none⟩, ⟨some 17, .fieldA 6 (.tmp 1), some (16, true)⟩, ⟨some 18, .load true 2 (.tmp 17), some (16, true)⟩, ⟨some 19, .call (.c (.one (.fn 40 []))) 80 [.tmp 18, .c (.one (.t (.int .i64 140)))], some (16, true)⟩, ⟨some 20, .pick (.tmp 16) (.tmp 19) (.c (.one (.t (.bool false)))), none⟩, ⟨some 2, .mv (.tmp 20), none⟩]) .ret)⟩
theorem k_few : cFn Try.prog Try.f11 = some c_few := by kernel_rfl
theorem few_ok (l g : Gr) (p m : Pa) (h1 : huge p.nodes.length) (h2 : huge p.edges.length) (h3 : huge m.nodes.length) (h4 : huge m.edges.length) : CallOK Try.prog 11 [gluV l g p m] (.sv (false, [.bool (fewC l g p m)])) := by
  refine callOK_W (callS_W (by kernel_rfl) Try.func11 k_few (callable_of Try.func11 (by kernel_rfl)) (by simp [c_few]) ?_)
  simp [c_few, rn0, rn1, rn2, rn3, rn4, rn5, rn6, rn7, evOp, Arg.ev, St.val, St.set, St.new, sliceOf, binInt2, binInt, AV.cells, rdAt, St.live, retOf, resOf, resAll, treeOf, treeCell, treeCells, treeTups, untree, frameOf, TV.av, TR.av, ints, edgs, prs, fillV, splice, intsOf, trees, V1.tree, bx, Gr.v, Pa.v, gluV]
  refine callS_tree (few5_ok l) ?_ ?_ ?_
  · rfl
  · rfl
  cases e1 : fewG l
  · simp [rn0, rn1, rn2, rn3, rn4, rn5, rn6, rn7, evOp, Arg.ev, St.val, St.set, St.new, sliceOf, binInt2, binInt, AV.cells, rdAt, St.live, retOf, resOf, resAll, treeOf, treeCell, treeCells, treeTups, untree, frameOf, TV.av, TR.av, ints, edgs, prs, fillV, splice, intsOf, trees, V1.tree, bx, Gr.v, Pa.v, fewC, e1]
  simp [rn0, rn1, rn2, rn3, rn4, rn5, rn6, rn7, evOp, Arg.ev, St.val, St.set, St.new, sliceOf, binInt2, binInt, AV.cells, rdAt, St.live, retOf, resOf, resAll, treeOf, treeCell, treeCells, treeTups, untree, frameOf, TV.av, TR.av, ints, edgs, prs, fillV, splice, intsOf, trees, V1.tree, bx, Gr.v, Pa.v, gluV, e1]
  refine callS_tree (few5_ok g) ?_ ?_ ?_
  · rfl
  · rfl
  cases e2 : fewG g
  · simp [rn0, rn1, rn2, rn3, rn4, rn5, rn6, rn7, evOp, Arg.ev, St.val, St.set, St.new, sliceOf, binInt2, binInt, AV.cells, rdAt, St.live, retOf, resOf, resAll, treeOf, treeCell, treeCells, treeTups, untree, frameOf, TV.av, TR.av, ints, edgs, prs, fillV, splice, intsOf, trees, V1.tree, bx, Gr.v, Pa.v, fewC, e1, e2]
  simp [rn0, rn1, rn2, rn3, rn4, rn5, rn6, rn7, evOp, Arg.ev, St.val, St.set, St.new, sliceOf, binInt2, binInt, AV.cells, rdAt, St.live, retOf, resOf, resAll, treeOf, treeCell, treeCells, treeTups, untree, frameOf, TV.av, TR.av, ints, edgs, prs, fillV, splice, intsOf, trees, V1.tree, bx, Gr.v, Pa.v, gluV, e1, e2]
  refine callS_tree (few7_ok p 140 h1 h2) ?_ ?_ ?_
  · rfl
  · rfl
  cases e3 : fewP p 140
  · simp [rn0, rn1, rn2, rn3, rn4, rn5, rn6, rn7, evOp, Arg.ev, St.val, St.set, St.new, sliceOf, binInt2, binInt, AV.cells, rdAt, St.live, retOf, resOf, resAll, treeOf, treeCell, treeCells, treeTups, untree, frameOf, TV.av, TR.av, ints, edgs, prs, fillV, splice, intsOf, trees, V1.tree, bx, Gr.v, Pa.v, fewC, e1, e2, e3]
  simp [rn0, rn1, rn2, rn3, rn4, rn5, rn6, rn7, evOp, Arg.ev, St.val, St.set, St.new, sliceOf, binInt2, binInt, AV.cells, rdAt, St.live, retOf, resOf, resAll, treeOf, treeCell, treeCells, treeTups, untree, frameOf, TV.av, TR.av, ints, edgs, prs, fillV, splice, intsOf, trees, V1.tree, bx, Gr.v, Pa.v, gluV, e1, e2, e3]
  refine callS_tree (few6_ok m 140 h3 h4) ?_ ?_ ?_
  · rfl
  · rfl
  simp [rn0, rn1, rn2, rn3, rn4, rn5, rn6, rn7, evOp, Arg.ev, St.val, St.set, St.new, sliceOf, binInt2, binInt, AV.cells, rdAt, St.live, retOf, resOf, resAll, treeOf, treeCell, treeCells, treeTups, untree, frameOf, TV.av, TR.av, ints, edgs, prs, fillV, splice, intsOf, trees, V1.tree, bx, Gr.v, Pa.v, fewC, e1, e2, e3]

/-- The dangling edges, or an error. -/
def danglR (l g : Gr) (p m : Pa) : List Int × Int := if caseErr l g p m = 0 then (danglL g p m, 0) else ([], caseErr l g p m)

def c_dangX : MFunc := ⟨24, [.tmp 8, .tmp 9], .seq (.region [⟨some 4, .box 0 25 (.tmp 0), none⟩, ⟨some 5, .box 1 25 (.tmp 1), none⟩, ⟨some 6, .box 2 27 (.tmp 2), none⟩, ⟨some 7, .box 3 28 (.tmp 3), none⟩, ⟨some 8, .mv (.c (.one .nil)), none⟩, ⟨some 9, .mv (.c (.one (.t (.int .i64 0)))), none⟩]) (.seq (.region [⟨some 12, .load true 2 (.tmp 4), none⟩, ⟨some 13, .load true 2 (.tmp 5), none⟩, ⟨some 14, .load true 2 (.tmp 6), none⟩, ⟨some 15, .load true 2 (.tmp 7), none⟩, ⟨some 16, .build [.nil, .nil, .nil, .nil, .nil, .nil, .nil, .nil] [(0, (2, .tmp 12)), (2, (2, .tmp 13)), (4, (2, .tmp 14)), (6, (2, .tmp 15))], none⟩, ⟨some 10, .alloc 69 77 [.nil, .nil, .nil, .nil, .nil, .nil, .nil, .nil], none⟩, ⟨none, .store 8 (.tmp 10) (.tmp 16), none⟩]) (.seq (.seq (.region [⟨some 17, .load true 8 (.tmp 10), none⟩, ⟨some 18, .call (.c (.one (.fn 41 []))) 129 [.tmp 17], none⟩, ⟨some 11, .mv (.tmp 18), none⟩]) (.seq (.region [⟨some 19, .mv (.tmp 11), none⟩, ⟨some 20, .bin .neq (.tmp 19) (.c (.one (.t (.int .i64 0)))), none⟩]) (.cond (.tmp 20) (.seq (.region [⟨some 21, .mv (.tmp 11), none⟩, ⟨some 8, .mv (.c (.one .nil)), none⟩, ⟨some 9, .mv (.tmp 21), none⟩]) .ret) .skip))) (.seq (.region [⟨some 22, .load true 8 (.tmp 10), none⟩, ⟨some 23, .call (.c (.one (.fn 43 []))) 321 [.tmp 22], none⟩, ⟨some 8, .mv (.tmp 23), none⟩, ⟨some 9, .mv (.c (.one (.t (.int .i64 0)))), none⟩]) .ret)))⟩
theorem k_dangX : cFn Try.prog Try.f23 = some c_dangX := by kernel_rfl
theorem dangX_ok (l g : Gr) (p m : Pa) (h : TinyCase l g p m) : CallOK Try.prog 23 [l.v, g.v, p.v, m.v] (.tup [(false, [ints (danglR l g p m).1]), (false, [.int .i64 (danglR l g p m).2])]) := by
  refine callOK_W (callS_W (by kernel_rfl) Try.func23 k_dangX (callable_of Try.func23 (by kernel_rfl)) (by simp [c_dangX]) ?_)
  simp [c_dangX, rn0, rn1, rn2, rn3, rn4, rn5, rn6, rn7, evOp, Arg.ev, St.val, St.set, St.new, sliceOf, binInt2, binInt, AV.cells, rdAt, St.live, retOf, resOf, resAll, treeOf, treeCell, treeCells, treeTups, untree, frameOf, TV.av, TR.av, ints, edgs, prs, fillV, splice, intsOf, trees, V1.tree, bx, Gr.v, Pa.v]
  refine callS_tree (given_ok l g p m h) ?_ ?_ ?_
  · rfl
  · rfl
  by_cases h1 : caseErr l g p m = 0
  case neg =>
    have e : danglR l g p m = ([], caseErr l g p m) := by simp [danglR, h1]
    simp [rn0, rn1, rn2, rn3, rn4, rn5, rn6, rn7, evOp, Arg.ev, St.val, St.set, St.new, sliceOf, binInt2, binInt, AV.cells, rdAt, St.live, retOf, resOf, resAll, treeOf, treeCell, treeCells, treeTups, untree, frameOf, TV.av, TR.av, ints, edgs, prs, fillV, splice, intsOf, trees, V1.tree, bx, Gr.v, Pa.v, h1, e]
  have e : danglR l g p m = (danglL g p m, 0) := by simp [danglR, h1]
  simp [rn0, rn1, rn2, rn3, rn4, rn5, rn6, rn7, evOp, Arg.ev, St.val, St.set, St.new, sliceOf, binInt2, binInt, AV.cells, rdAt, St.live, retOf, resOf, resAll, treeOf, treeCell, treeCells, treeTups, untree, frameOf, TV.av, TR.av, ints, edgs, prs, fillV, splice, intsOf, trees, V1.tree, bx, Gr.v, Pa.v, h1, e]
  refine callS_tree (dangling_row l g p m h.tg h.tm h.tp).ok ?_ ?_ ?_
  · rfl
  · rfl
  simp [rn0, rn1, rn2, rn3, rn4, rn5, rn6, rn7, evOp, Arg.ev, St.val, St.set, St.new, sliceOf, binInt2, binInt, AV.cells, rdAt, St.live, retOf, resOf, resAll, treeOf, treeCell, treeCells, treeTups, untree, frameOf, TV.av, TR.av, ints, edgs, prs, fillV, splice, intsOf, trees, V1.tree, bx, Gr.v, Pa.v, h1, e]
end Go.Proofs.Ythapbbpdcjmmfaa
