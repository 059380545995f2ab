/-
  Contract: the specified repair. No condition beyond those that each statement names.
-/
import Derived.Test.YthapbbpdcjmmfaaF19
namespace Go.Proofs.Ythapbbpdcjmmfaa
open Abs
set_option linter.unusedSimpArgs false
set_option linter.unusedVariables false

/-- Where a round of the specification begins. -/
def RefS (l g : Gr) (m q : Pa) (S : St) : Prop :=
  S.fr 4 = .one (.ptr (0, 0) 0) ∧ S.fr 5 = .one (.ptr (1, 0) 0) ∧ S.fr 6 = .one (.ptr (2, 0) 0) ∧ S.fr 7 = .one (.ptr (3, 0) 0) ∧ S.fr 8 = .one (.ptr (4, 0) 0) ∧
  S.ob (0, 0) = some (bx 25 [.t (ints l.nodes), .t (edgs l.edges)]) ∧ S.ob (1, 0) = some (bx 25 [.t (ints g.nodes), .t (edgs g.edges)]) ∧
  S.ob (2, 0) = some (bx 27 [.t (ints q.nodes), .t (ints q.edges)]) ∧
  S.ob (3, 0) = some (bx 28 [.t (ints m.nodes), .t (ints m.edges)]) ∧ S.ob (4, 0) = some (bx 27 [.nil, .nil])

def rmN : List Nat := [259, 652, 1539]
def rmE : List Nat := [323, 908]

def refMu (l : Gr) (S : St) : Nat := match S.ob (2, 0) with
  | some x => match x.cells with
    | [.t (.sl a _), .t (.sl b _)] => (l.nodes.length - a) + (l.edges.length - b)
    | _ => 0
  | none => 0

theorem gErr_sub {l : Gr} {p : Pa} (h : subErr l p = 0) : gErr l = 0 := by
  unfold subErr at h
  split at h
  · assumption
  · exact h

def c_repair12 : MFunc := ⟨148, [.cell 8 true 2, .tmp 9], .seq (.region [⟨some 4, .box 0 25 (.tmp 0), none⟩, ⟨some 5, .box 1 25 (.tmp 1), none⟩, ⟨some 6, .box 2 27 (.tmp 2), none⟩, ⟨some 7, .box 3 28 (.tmp 3), none⟩, ⟨some 8, .alloc 4 27 [.nil, .nil], none⟩, ⟨some 9, .mv (.c (.one (.t (.int .i64 0)))), none⟩]) (.seq (.seq (.region [⟨some 23, .load true 2 (.tmp 4), none⟩, ⟨some 24, .load true 2 (.tmp 5), none⟩, ⟨some 25, .load true 2 (.tmp 6), none⟩, ⟨some 26, .load true 2 (.tmp 7), none⟩, ⟨some 27, .call (.c (.one (.fn 46 []))) 68 [.tmp 23, .tmp 24, .tmp 25, .tmp 26], none⟩, ⟨some 10, .mv (.tmp 27), none⟩]) (.seq (.region [⟨some 28, .mv (.tmp 10), none⟩, ⟨some 29, .bin .neq (.tmp 28) (.c (.one (.t (.int .i64 0)))), none⟩]) (.cond (.tmp 29) (.seq (.region [⟨some 30, .build [.nil, .nil] [], none⟩, ⟨some 31, .mv (.tmp 10), none⟩, ⟨none, .store 2 (.tmp 8) (.tmp 30), none⟩, ⟨some 9, .mv (.tmp 31), none⟩]) .ret) .skip))) (.block 0 (.loop (.block 1 (.seq (.region [⟨some 32, .mkrow 256 3 1 0 [] [], none⟩, ⟨some 33, .fieldA 0 (.tmp 6), none⟩, ⟨some 34, .load false 1 (.tmp 33), none⟩, ⟨some 35, .append 259 3 1 8 (.tmp 32) (.tmp 34), none⟩, ⟨some 11, .mv (.tmp 35), none⟩]) (.seq (.region [⟨some 36, .mkrow 320 3 1 0 [] [], none⟩, ⟨some 37, .fieldA 1 (.tmp 6), none⟩, ⟨some 38, .load false 1 (.tmp 37), none⟩, ⟨some 39, .append 323 3 1 8 (.tmp 36) (.tmp 38), none⟩, ⟨some 12, .mv (.tmp 39), none⟩]) (.seq (.draw [[], [0], [], [2], [1, 3], [], [5], [], [7], [6, 8, 4], [4, 9, 0, 1, 2, 3, 4], [9, 10, 0, 1, 2, 3, 4, 5, 6, 7, 8, 9, 10]] [⟨some 40, .fieldA 0 (.tmp 7), none⟩, ⟨some 41, .load false 1 (.tmp 40), none⟩, ⟨some 42, .fieldA 0 (.tmp 6), none⟩, ⟨some 43, .load false 1 (.tmp 42), none⟩, ⟨some 44, .call (.c (.one (.fn 47 []))) 388 [.tmp 41, .tmp 43], none⟩, ⟨some 45, .fieldA 1 (.tmp 7), none⟩, ⟨some 46, .load false 1 (.tmp 45), none⟩, ⟨some 47, .fieldA 1 (.tmp 6), none⟩, ⟨some 48, .load false 1 (.tmp 47), none⟩, ⟨some 49, .call (.c (.one (.fn 47 []))) 393 [.tmp 46, .tmp 48], none⟩, ⟨some 13, .mv (.tmp 44), none⟩, ⟨some 14, .mv (.tmp 49), none⟩]) (.seq (.seq (.region [⟨some 15, .mv (.c (.one (.t (.int .i64 0)))), none⟩]) (.block 2 (.loop (.seq (.seq (.region [⟨some 50, .mv (.tmp 15), none⟩, ⟨some 51, .mv (.tmp 13), none⟩, ⟨some 52, .len (.tmp 51), none⟩, ⟨some 53, .bin .lss (.tmp 50) (.tmp 52), none⟩]) (.cond (.tmp 53) .skip (.exit 2))) (.seq (.block 3 (.draw [[], [], [], [1, 2], [3], [4], [], [], [6, 7], [8], [9], [5, 10], [0, 11], [12, 12, 0, 1, 2, 3, 4, 5, 6, 7, 8, 9, 10, 11, 12]] [⟨some 56, .mv (.tmp 11), none⟩, ⟨some 57, .mv (.tmp 13), none⟩, ⟨some 58, .mv (.tmp 15), none⟩, ⟨some 59, .idxA 2 (.tmp 57) (.tmp 58), none⟩, ⟨some 60, .fieldA 0 (.tmp 59), none⟩, ⟨some 61, .load false 1 (.tmp 60), none⟩, ⟨some 62, .mv (.tmp 13), none⟩, ⟨some 63, .mv (.tmp 15), none⟩, ⟨some 64, .idxA 2 (.tmp 62) (.tmp 63), none⟩, ⟨some 65, .fieldA 1 (.tmp 64), none⟩, ⟨some 66, .load false 1 (.tmp 65), none⟩, ⟨some 67, .mkrow 651 3 1 2 [.t (.int .i64 0), .t (.int .i64 0)] [(0, (1, .tmp 61)), (1, (1, .tmp 66))], none⟩, ⟨some 68, .append 652 3 1 8 (.tmp 56) (.tmp 67), none⟩, ⟨some 11, .mv (.tmp 68), none⟩])) (.region [⟨some 54, .mv (.tmp 15), none⟩, ⟨some 55, .bin .add (.tmp 54) (.c (.one (.t (.int .i64 1)))), none⟩, ⟨some 15, .mv (.tmp 55), none⟩])))))) (.seq (.seq (.region [⟨some 16, .mv (.c (.one (.t (.int .i64 0)))), none⟩]) (.block 4 (.loop (.seq (.seq (.region [⟨some 69, .mv (.tmp 16), none⟩, ⟨some 70, .mv (.tmp 14), none⟩, ⟨some 71, .len (.tmp 70), none⟩, ⟨some 72, .bin .lss (.tmp 69) (.tmp 71), none⟩]) (.cond (.tmp 72) .skip (.exit 4))) (.seq (.block 5 (.draw [[], [], [], [1, 2], [3], [4], [], [], [6, 7], [8], [9], [5, 10], [0, 11], [12, 12, 0, 1, 2, 3, 4, 5, 6, 7, 8, 9, 10, 11, 12]] [⟨some 75, .mv (.tmp 12), none⟩, ⟨some 76, .mv (.tmp 14), none⟩, ⟨some 77, .mv (.tmp 16), none⟩, ⟨some 78, .idxA 2 (.tmp 76) (.tmp 77), none⟩, ⟨some 79, .fieldA 0 (.tmp 78), none⟩, ⟨some 80, .load false 1 (.tmp 79), none⟩, ⟨some 81, .mv (.tmp 14), none⟩, ⟨some 82, .mv (.tmp 16), none⟩, ⟨some 83, .idxA 2 (.tmp 81) (.tmp 82), none⟩, ⟨some 84, .fieldA 1 (.tmp 83), none⟩, ⟨some 85, .load false 1 (.tmp 84), none⟩, ⟨some 86, .mkrow 907 3 1 2 [.t (.int .i64 0), .t (.int .i64 0)] [(0, (1, .tmp 80)), (1, (1, .tmp 85))], none⟩, ⟨some 87, .append 908 3 1 8 (.tmp 75) (.tmp 86), none⟩, ⟨some 12, .mv (.tmp 87), none⟩])) (.region [⟨some 73, .mv (.tmp 16), none⟩, ⟨some 74, .bin .add (.tmp 73) (.c (.one (.t (.int .i64 1)))), none⟩, ⟨some 16, .mv (.tmp 74), none⟩])))))) (.seq (.region [⟨some 88, .load true 2 (.tmp 4), none⟩, ⟨some 89, .load true 2 (.tmp 5), none⟩, ⟨some 90, .load true 2 (.tmp 6), none⟩, ⟨some 91, .load true 2 (.tmp 7), none⟩, ⟨some 92, .call (.c (.one (.fn 48 []))) 964 [.tmp 88, .tmp 89, .tmp 90, .tmp 91], none⟩, ⟨some 17, .mv (.tmp 92), none⟩]) (.seq (.seq (.region [⟨some 18, .mv (.c (.one (.t (.int .i64 0)))), none⟩]) (.block 6 (.loop (.seq (.seq (.region [⟨some 93, .mv (.tmp 18), none⟩, ⟨some 94, .mv (.tmp 17), none⟩, ⟨some 95, .len (.tmp 94), none⟩, ⟨some 96, .bin .lss (.tmp 93) (.tmp 95), none⟩]) (.cond (.tmp 96) .skip (.exit 6))) (.seq (.block 7 (.seq (.draw [[], [0], [], [], [2, 3], [4], [1, 5], [6], [], [8, 7, 0, 1, 2, 3, 4, 5, 6, 7, 8]] [⟨some 99, .fieldA 1 (.tmp 5), none⟩, ⟨some 100, .load false 1 (.tmp 99), none⟩, ⟨some 101, .mv (.tmp 17), none⟩, ⟨some 102, .mv (.tmp 18), none⟩, ⟨some 103, .idxA 1 (.tmp 101) (.tmp 102), none⟩, ⟨some 104, .load false 1 (.tmp 103), none⟩, ⟨some 105, .idxA 3 (.tmp 100) (.tmp 104), none⟩, ⟨some 106, .load true 3 (.tmp 105), none⟩, ⟨some 19, .alloc 1224 73 [.t (.int .i64 0), .t (.int .i64 0), .t (.int .i64 0)], none⟩, ⟨none, .store 3 (.tmp 19) (.tmp 106), none⟩]) (.seq (.region [⟨some 20, .mv (.c (.one (.t (.int .i64 0)))), none⟩]) (.block 8 (.loop (.seq (.seq (.region [⟨some 107, .mv (.tmp 20), none⟩, ⟨some 108, .fieldA 0 (.tmp 4), none⟩, ⟨some 109, .load false 1 (.tmp 108), none⟩, ⟨some 110, .len (.tmp 109), none⟩, ⟨some 111, .bin .lss (.tmp 107) (.tmp 110), none⟩]) (.cond (.tmp 111) .skip (.exit 8))) (.seq (.block 9 (.seq (.draw [[], [0], [], [1, 2], [3], [], [5], [4, 6], [7], [8], [9, 8], [8], [10, 11, 8], [12, 8], [8], [14, 8], [13, 15, 8], [8, 16]] [⟨some 114, .fieldA 0 (.tmp 7), none⟩, ⟨some 115, .load false 1 (.tmp 114), none⟩, ⟨some 116, .mv (.tmp 20), none⟩, ⟨some 117, .idxA 1 (.tmp 115) (.tmp 116), none⟩, ⟨some 118, .load false 1 (.tmp 117), none⟩, ⟨some 119, .fieldA 1 (.tmp 19), none⟩, ⟨some 120, .load false 1 (.tmp 119), none⟩, ⟨some 121, .bin .eql (.tmp 118) (.tmp 120), none⟩, ⟨some 122, .mv (.tmp 121), none⟩, ⟨some 123, .fieldA 0 (.tmp 7), some (122, false)⟩, ⟨some 124, .load false 1 (.tmp 123), some (122, false)⟩, ⟨some 125, .mv (.tmp 20), some (122, false)⟩, ⟨some 126, .idxA 1 (.tmp 124) (.tmp 125), some (122, false)⟩, ⟨some 127, .load false 1 (.tmp 126), some (122, false)⟩, ⟨some 128, .fieldA 2 (.tmp 19), some (122, false)⟩, ⟨some 129, .load false 1 (.tmp 128), some (122, false)⟩, ⟨some 130, .bin .eql (.tmp 127) (.tmp 129), some (122, false)⟩, ⟨some 131, .pick (.tmp 122) (.c (.one (.t (.bool true)))) (.tmp 130), none⟩]) (.cond (.tmp 131) (.region [⟨some 132, .mv (.tmp 11), none⟩, ⟨some 133, .mv (.tmp 20), none⟩, ⟨some 134, .mkrow 1538 3 1 1 [.t (.int .i64 0)] [(0, (1, .tmp 133))], none⟩, ⟨some 135, .append 1539 3 1 8 (.tmp 132) (.tmp 134), none⟩, ⟨some 11, .mv (.tmp 135), none⟩]) .skip))) (.region [⟨some 112, .mv (.tmp 20), none⟩, ⟨some 113, .bin .add (.tmp 112) (.c (.one (.t (.int .i64 1)))), none⟩, ⟨some 20, .mv (.tmp 113), none⟩])))))))) (.region [⟨some 97, .mv (.tmp 18), none⟩, ⟨some 98, .bin .add (.tmp 97) (.c (.one (.t (.int .i64 1)))), none⟩, ⟨some 18, .mv (.tmp 98), none⟩])))))) (.seq (.region [⟨some 137, .load true 2 (.tmp 4), none⟩, ⟨some 138, .mv (.tmp 11), none⟩, ⟨some 139, .mv (.tmp 12), none⟩, ⟨some 140, .call (.c (.one (.fn 54 []))) 1603 [.tmp 137, .tmp 138, .tmp 139], none⟩, ⟨some 136, .mv (.tmp 140), none⟩, ⟨some 141, .extract (.tmp 136) 0, none⟩, ⟨some 142, .extract (.tmp 136) 1, none⟩, ⟨some 21, .alloc 1607 27 [.nil, .nil], none⟩, ⟨none, .store 2 (.tmp 21) (.tmp 141), none⟩, ⟨some 22, .mv (.tmp 142), none⟩]) (.seq (.seq (.region [⟨some 143, .load true 2 (.tmp 21), none⟩, ⟨some 144, .load true 2 (.tmp 6), none⟩, ⟨some 145, .call (.c (.one (.fn 15 []))) 1666 [.tmp 143, .tmp 144], none⟩]) (.cond (.tmp 145) (.seq (.region [⟨some 146, .load true 2 (.tmp 21), none⟩, ⟨none, .store 2 (.tmp 8) (.tmp 146), none⟩, ⟨some 9, .mv (.c (.one (.t (.int .i64 0)))), none⟩]) .ret) .skip)) (.region [⟨some 147, .load true 2 (.tmp 21), none⟩, ⟨none, .store 2 (.tmp 6) (.tmp 147), none⟩]))))))))))))))⟩
theorem k_repair12 : cFn Try.prog Try.f17 = some c_repair12 := by kernel_rfl
theorem repair12_ok (l g : Gr) (p m : Pa) (h : TinyCase l g p m) : CallOK Try.prog 17 [l.v, g.v, p.v, m.v] (.tup [(repR l g p m).1.v, (false, [.int .i64 (repR l g p m).2])]) := by
  refine callOK_W (callS_W (by kernel_rfl) Try.func17 k_repair12 (callable_of Try.func17 (by kernel_rfl)) (by simp [c_repair12]) ?_)
  simp [c_repair12, rn0, rn1, rn2, rn3, rn4, rn5, rn6, rn7, evOp, Arg.ev, St.val, St.set, St.new, sliceOf, binInt2, binInt, AV.cells, rdAt, St.live, retOf, resOf, resAll, treeOf, treeCell, treeCells, treeTups, untree, frameOf, TV.av, TR.av, ints, edgs, prs, fillV, splice, intsOf, trees, V1.tree, bx, Gr.v, Pa.v]
  refine callS_tree (given12_ok l g p m h) ?_ ?_ ?_
  · rfl
  · rfl
  by_cases h1 : caseErr l g p m = 0
  case neg =>
    have e : repR l g p m = (⟨[], []⟩, caseErr l g p m) := by simp [repR, h1]
    simp [rn0, rn1, rn2, rn3, rn4, rn5, rn6, rn7, evOp, Arg.ev, St.val, St.set, St.new, sliceOf, binInt2, binInt, AV.cells, rdAt, St.live, retOf, resOf, resAll, treeOf, treeCell, treeCells, treeTups, untree, frameOf, TV.av, TR.av, ints, edgs, prs, fillV, splice, intsOf, trees, V1.tree, bx, Gr.v, Pa.v, h1, e]
  obtain ⟨mo, so⟩ := caseErr_ok h1
  have hp := partOk_of so
  have e : repR l g p m = (repN l g m (l.nodes.length + l.edges.length + 1) p, 0) := by simp [repR, h1]
  rw [e]
  have hR := rep_start (g := g) (m := m) hp
  generalize repN l g m (l.nodes.length + l.edges.length + 1) p = R at hR ⊢
  have b1 := mo.ga.n
  have b2 := mo.ga.e
  have b3 := mo.gb.n
  have b4 := mo.gb.e
  have b5 := mo.ln
  have b6 := mo.le
  simp [rn0, rn1, rn2, rn3, rn4, rn5, rn6, rn7, evOp, Arg.ev, St.val, St.set, St.new, sliceOf, binInt2, binInt, AV.cells, rdAt, St.live, retOf, resOf, resAll, treeOf, treeCell, treeCells, treeTups, untree, frameOf, TV.av, TR.av, ints, edgs, prs, fillV, splice, intsOf, trees, V1.tree, bx, Gr.v, Pa.v, h1]
  refine loopW_intro (fun S => ∃ q, RefS l g m q S ∧ RepAt l g m R q) (refMu l) ⟨p, by simp [RefS, rn0, rn1, rn2, rn3, rn4, rn5, rn6, rn7, evOp, Arg.ev, St.val, St.set, St.new, sliceOf, binInt2, binInt, AV.cells, rdAt, St.live, retOf, resOf, resAll, treeOf, treeCell, treeCells, treeTups, untree, frameOf, TV.av, TR.av, ints, edgs, prs, fillV, splice, intsOf, trees, V1.tree, bx, Gr.v, Pa.v], hR⟩ ?_
  rintro S ⟨q, ⟨f4, f5, f6, f7, f8, o0, o1, o2, o3, o4⟩, hq⟩
  have hμ : refMu l S = gap l q := by simp [refMu, o2, bx, ints, gap]
  rw [hμ]
  have c1 := hq.1.len
  have c2 := pairs_few (l := m.nodes) (k := q.nodes) (n := 40) (by omega)
  have c3 := pairs_few (l := m.edges) (k := q.edges) (n := 80) (by omega)
  have c4 := dangl_few (g := g) (p := q) (m := m)
  have tq : tinyP q := ⟨by simp only [tiny]; omega, by simp only [tiny]; omega⟩
  simp [rn0, rn1, rn2, rn3, rn4, rn5, rn6, rn7, evOp, Arg.ev, St.val, St.set, St.new, sliceOf, binInt2, binInt, AV.cells, rdAt, St.live, retOf, resOf, resAll, treeOf, treeCell, treeCells, treeTups, untree, frameOf, TV.av, TR.av, ints, edgs, prs, fillV, splice, intsOf, trees, V1.tree, bx, Gr.v, Pa.v, f4, f5, f6, f7, f8, o0, o1, o2, o3, o4]
  refine kApp_growL (nms := rmN) (n := 0) (cs := []) (ts := q.nodes.map (.int .i64)) (by simp [rmN]) (by simp) outL_nil (by simp) (by omega) (by omega) fun E hE hob hcnt => ?_
  have hob := fun a g h => (hob a g h).trans (by exact Eq.refl (S.ob (a, g)))
  simp [rn0, rn1, rn2, rn3, rn4, rn5, rn6, rn7, evOp, Arg.ev, St.val, St.set, St.new, sliceOf, binInt2, binInt, AV.cells, rdAt, St.live, retOf, resOf, resAll, treeOf, treeCell, treeCells, treeTups, untree, frameOf, TV.av, TR.av, ints, edgs, prs, fillV, splice, intsOf, trees, V1.tree, bx, Gr.v, Pa.v, f4, f5, f6, f7, f8, o0, o1, o2, o3, o4, hob, rmN]
  refine kApp_growL (nms := rmE) (n := 0) (cs := []) (ts := q.edges.map (.int .i64)) (by simp [rmE]) (by simp) outL_nil (by simp) (by omega) (by omega) fun E' hE' hob' hcnt' => ?_
  have hN := hE.keep (ob' := E'.ob) fun nm hm g => hob' _ _ (by simp [rmN] at hm; rcases hm with rfl | rfl | rfl <;> simp [rmE])
  simp [rn0, rn1, rn2, rn3, rn4, rn5, rn6, rn7, evOp, Arg.ev, St.val, St.set, St.new, sliceOf, binInt2, binInt, AV.cells, rdAt, St.live, retOf, resOf, resAll, treeOf, treeCell, treeCells, treeTups, untree, frameOf, TV.av, TR.av, ints, edgs, prs, fillV, splice, intsOf, trees, V1.tree, bx, Gr.v, Pa.v, dw0, dw1, dw2, dw3, opRd, opWr, opNew, opNewR, opArgs, argsRd, argRd, Arg.rd, AV.refs, V1.refs, refsL, dstL, f4, f5, f6, f7, f8, o0, o1, o2, o3, o4, hob, hob', rmN, rmE]
  refine dCall_ok (callOK_of_row (ident12_row m.nodes q.nodes (by omega) tq.1)) ?_ ?_ ?_
  · rfl
  · rfl
  simp [rn0, rn1, rn2, rn3, rn4, rn5, rn6, rn7, evOp, Arg.ev, St.val, St.set, St.new, sliceOf, binInt2, binInt, AV.cells, rdAt, St.live, retOf, resOf, resAll, treeOf, treeCell, treeCells, treeTups, untree, frameOf, TV.av, TR.av, ints, edgs, prs, fillV, splice, intsOf, trees, V1.tree, bx, Gr.v, Pa.v, dw0, dw1, dw2, dw3, opRd, opWr, opNew, opNewR, opArgs, argsRd, argRd, Arg.rd, AV.refs, V1.refs, refsL, dstL, f4, f5, f6, f7, f8, o0, o1, o2, o3, o4, hob, hob', rmN, rmE]
  refine dCall_ok (callOK_of_row (ident12_row m.edges q.edges (by omega) tq.2)) ?_ ?_ ?_
  · rfl
  · rfl
  simp [rn0, rn1, rn2, rn3, rn4, rn5, rn6, rn7, evOp, Arg.ev, St.val, St.set, St.new, sliceOf, binInt2, binInt, AV.cells, rdAt, St.live, retOf, resOf, resAll, treeOf, treeCell, treeCells, treeTups, untree, frameOf, TV.av, TR.av, ints, edgs, prs, fillV, splice, intsOf, trees, V1.tree, bx, Gr.v, Pa.v, dw0, dw1, dw2, dw3, opRd, opWr, opNew, opNewR, opArgs, argsRd, argRd, Arg.rd, AV.refs, V1.refs, refsL, dstL, f4, f5, f6, f7, f8, o0, o1, o2, o3, o4, hob, hob', rmN, rmE]
  refine ⟨rfl, ?_⟩
  refine loopW_count 15 (pairsL m.nodes q.nodes).length (fun k S => RefS l g m q S ∧ S.fr 13 = .one (.t (prs (pairsL m.nodes q.nodes))) ∧ S.fr 14 = .one (.t (prs (pairsL m.edges q.edges))) ∧
    outL rmN 3 1 (q.nodes ++ flatP ((pairsL m.nodes q.nodes).take k)).length ((q.nodes ++ flatP ((pairsL m.nodes q.nodes).take k)).map (.int .i64)) S.ob (S.fr 11) ∧ outL rmE 3 1 q.edges.length (q.edges.map (.int .i64)) S.ob (S.fr 12)) (by omega) ?_ ?_ ?_
  · simp [RefS, rn0, rn1, rn2, rn3, rn4, rn5, rn6, rn7, evOp, Arg.ev, St.val, St.set, St.new, sliceOf, binInt2, binInt, AV.cells, rdAt, St.live, retOf, resOf, resAll, treeOf, treeCell, treeCells, treeTups, untree, frameOf, TV.av, TR.av, ints, edgs, prs, fillV, splice, intsOf, trees, V1.tree, bx, Gr.v, Pa.v, f4, f5, f6, f7, f8, o0, o1, o2, o3, o4, hob, hob', rmN, rmE, flatP]
    exact ⟨by simpa [rmN] using hN, by simpa [rmE] using hE'⟩
  · rintro k S hlt hw hc ⟨⟨f4, f5, f6, f7, f8, o0, o1, o2, o3, o4⟩, f13, f14, hN, hM⟩
    have hlt2 : k * 2 < (pairsL m.nodes q.nodes).length * 2 := by omega
    have z1 := flatP_len (P := (pairsL m.nodes q.nodes).take k)
    rw [List.length_take] at z1
    have hN0 := hN
    rcases hN with ⟨nz, _, nv⟩ | ⟨npos, nm', hnm', g', nv, no⟩
    · have no : True := trivial
      (
        simp [rn0, rn1, rn2, rn3, rn4, rn5, rn6, rn7, evOp, Arg.ev, St.val, St.set, St.new, sliceOf, binInt2, binInt, AV.cells, rdAt, St.live, retOf, resOf, resAll, treeOf, treeCell, treeCells, treeTups, untree, frameOf, TV.av, TR.av, ints, edgs, prs, fillV, splice, intsOf, trees, V1.tree, bx, Gr.v, Pa.v, dw0, dw1, dw2, dw3, opRd, opWr, opNew, opNewR, opArgs, argsRd, argRd, Arg.rd, AV.refs, V1.refs, refsL, dstL, f4, f5, f6, f7, f8, o0, o1, o2, o3, o4, f13, f14, nv, no, hc, hlt, hlt2, drop_prL hlt]
        refine kApp_growL (nms := rmN) (ts := [.int .i64 (pth (pairsL m.nodes q.nodes) k).1, .int .i64 (pth (pairsL m.nodes q.nodes) k).2]) (by simp [rmN]) rfl (by rw [← nv]; exact hN0.keep fun nm hm g => by simp [rmN] at hm; rcases hm with rfl | rfl | rfl <;> simp [rn0, rn1, rn2, rn3, rn4, rn5, rn6, rn7, evOp, Arg.ev, St.val, St.set, St.new, sliceOf, binInt2, binInt, AV.cells, rdAt, St.live, retOf, resOf, resAll, treeOf, treeCell, treeCells, treeTups, untree, frameOf, TV.av, TR.av, ints, edgs, prs, fillV, splice, intsOf, trees, V1.tree, bx, Gr.v, Pa.v]) rfl (by simp [z1]; omega) (by simp [z1]; omega) fun E hE hob hcnt => ?_
        have hM2 := hM.keep (ob' := E.ob) fun nm hm g => by
          rw [hob _ _ (by simp [rmE] at hm; rcases hm with rfl | rfl <;> simp [rmN])]
          simp [rmE] at hm
          rcases hm with rfl | rfl <;> simp [rn0, rn1, rn2, rn3, rn4, rn5, rn6, rn7, evOp, Arg.ev, St.val, St.set, St.new, sliceOf, binInt2, binInt, AV.cells, rdAt, St.live, retOf, resOf, resAll, treeOf, treeCell, treeCells, treeTups, untree, frameOf, TV.av, TR.av, ints, edgs, prs, fillV, splice, intsOf, trees, V1.tree, bx, Gr.v, Pa.v]
        simp [rn0, rn1, rn2, rn3, rn4, rn5, rn6, rn7, evOp, Arg.ev, St.val, St.set, St.new, sliceOf, binInt2, binInt, AV.cells, rdAt, St.live, retOf, resOf, resAll, treeOf, treeCell, treeCells, treeTups, untree, frameOf, TV.av, TR.av, ints, edgs, prs, fillV, splice, intsOf, trees, V1.tree, bx, Gr.v, Pa.v, dw0, dw1, dw2, dw3, opRd, opWr, opNew, opNewR, opArgs, argsRd, argRd, Arg.rd, AV.refs, V1.refs, refsL, dstL]
        refine ⟨rfl, ?_⟩
        simp [RefS, rmN, rn0, rn1, rn2, rn3, rn4, rn5, rn6, rn7, evOp, Arg.ev, St.val, St.set, St.new, sliceOf, binInt2, binInt, AV.cells, rdAt, St.live, retOf, resOf, resAll, treeOf, treeCell, treeCells, treeTups, untree, frameOf, TV.av, TR.av, ints, edgs, prs, fillV, splice, intsOf, trees, V1.tree, bx, Gr.v, Pa.v, f4, f5, f6, f7, f8, o0, o1, o2, o3, o4, f13, f14, hc, hw, hob, flatP_take hlt]
        exact ⟨by simpa [rmN, Nat.add_assoc] using hE, hM2⟩)
    · simp [rmN] at hnm'
      rcases hnm' with rfl | rfl | rfl <;> (
        simp [rn0, rn1, rn2, rn3, rn4, rn5, rn6, rn7, evOp, Arg.ev, St.val, St.set, St.new, sliceOf, binInt2, binInt, AV.cells, rdAt, St.live, retOf, resOf, resAll, treeOf, treeCell, treeCells, treeTups, untree, frameOf, TV.av, TR.av, ints, edgs, prs, fillV, splice, intsOf, trees, V1.tree, bx, Gr.v, Pa.v, dw0, dw1, dw2, dw3, opRd, opWr, opNew, opNewR, opArgs, argsRd, argRd, Arg.rd, AV.refs, V1.refs, refsL, dstL, f4, f5, f6, f7, f8, o0, o1, o2, o3, o4, f13, f14, nv, no, hc, hlt, hlt2, drop_prL hlt]
        refine kApp_growL (nms := rmN) (ts := [.int .i64 (pth (pairsL m.nodes q.nodes) k).1, .int .i64 (pth (pairsL m.nodes q.nodes) k).2]) (by simp [rmN]) rfl (by rw [← nv]; exact hN0.keep fun nm hm g => by simp [rmN] at hm; rcases hm with rfl | rfl | rfl <;> simp [rn0, rn1, rn2, rn3, rn4, rn5, rn6, rn7, evOp, Arg.ev, St.val, St.set, St.new, sliceOf, binInt2, binInt, AV.cells, rdAt, St.live, retOf, resOf, resAll, treeOf, treeCell, treeCells, treeTups, untree, frameOf, TV.av, TR.av, ints, edgs, prs, fillV, splice, intsOf, trees, V1.tree, bx, Gr.v, Pa.v]) rfl (by simp [z1]; omega) (by simp [z1]; omega) fun E hE hob hcnt => ?_
        have hM2 := hM.keep (ob' := E.ob) fun nm hm g => by
          rw [hob _ _ (by simp [rmE] at hm; rcases hm with rfl | rfl <;> simp [rmN])]
          simp [rmE] at hm
          rcases hm with rfl | rfl <;> simp [rn0, rn1, rn2, rn3, rn4, rn5, rn6, rn7, evOp, Arg.ev, St.val, St.set, St.new, sliceOf, binInt2, binInt, AV.cells, rdAt, St.live, retOf, resOf, resAll, treeOf, treeCell, treeCells, treeTups, untree, frameOf, TV.av, TR.av, ints, edgs, prs, fillV, splice, intsOf, trees, V1.tree, bx, Gr.v, Pa.v]
        simp [rn0, rn1, rn2, rn3, rn4, rn5, rn6, rn7, evOp, Arg.ev, St.val, St.set, St.new, sliceOf, binInt2, binInt, AV.cells, rdAt, St.live, retOf, resOf, resAll, treeOf, treeCell, treeCells, treeTups, untree, frameOf, TV.av, TR.av, ints, edgs, prs, fillV, splice, intsOf, trees, V1.tree, bx, Gr.v, Pa.v, dw0, dw1, dw2, dw3, opRd, opWr, opNew, opNewR, opArgs, argsRd, argRd, Arg.rd, AV.refs, V1.refs, refsL, dstL]
        refine ⟨rfl, ?_⟩
        simp [RefS, rmN, rn0, rn1, rn2, rn3, rn4, rn5, rn6, rn7, evOp, Arg.ev, St.val, St.set, St.new, sliceOf, binInt2, binInt, AV.cells, rdAt, St.live, retOf, resOf, resAll, treeOf, treeCell, treeCells, treeTups, untree, frameOf, TV.av, TR.av, ints, edgs, prs, fillV, splice, intsOf, trees, V1.tree, bx, Gr.v, Pa.v, f4, f5, f6, f7, f8, o0, o1, o2, o3, o4, f13, f14, hc, hw, hob, flatP_take hlt]
        exact ⟨by simpa [rmN, Nat.add_assoc] using hE, hM2⟩)
  · rintro S hc ⟨⟨f4, f5, f6, f7, f8, o0, o1, o2, o3, o4⟩, f13, f14, hN, hM⟩
    rw [List.take_length] at hN
    simp [rn0, rn1, rn2, rn3, rn4, rn5, rn6, rn7, evOp, Arg.ev, St.val, St.set, St.new, sliceOf, binInt2, binInt, AV.cells, rdAt, St.live, retOf, resOf, resAll, treeOf, treeCell, treeCells, treeTups, untree, frameOf, TV.av, TR.av, ints, edgs, prs, fillV, splice, intsOf, trees, V1.tree, bx, Gr.v, Pa.v, f4, f5, f6, f7, f8, o0, o1, o2, o3, o4, f13, f14, hc]
    refine loopW_count 16 (pairsL m.edges q.edges).length (fun k S => RefS l g m q S ∧ S.fr 14 = .one (.t (prs (pairsL m.edges q.edges))) ∧
      outL rmN 3 1 (q.nodes ++ flatP (pairsL m.nodes q.nodes)).length ((q.nodes ++ flatP (pairsL m.nodes q.nodes)).map (.int .i64)) S.ob (S.fr 11) ∧
      outL rmE 3 1 (q.edges ++ flatP ((pairsL m.edges q.edges).take k)).length ((q.edges ++ flatP ((pairsL m.edges q.edges).take k)).map (.int .i64)) S.ob (S.fr 12)) (by omega) ?_ ?_ ?_
    · simp [RefS, rn0, rn1, rn2, rn3, rn4, rn5, rn6, rn7, evOp, Arg.ev, St.val, St.set, St.new, sliceOf, binInt2, binInt, AV.cells, rdAt, St.live, retOf, resOf, resAll, treeOf, treeCell, treeCells, treeTups, untree, frameOf, TV.av, TR.av, ints, edgs, prs, fillV, splice, intsOf, trees, V1.tree, bx, Gr.v, Pa.v, f4, f5, f6, f7, f8, o0, o1, o2, o3, o4, f14]
      exact ⟨by simpa using hN, by simpa [flatP] using hM⟩
    · rintro k S hlt hw hc ⟨⟨f4, f5, f6, f7, f8, o0, o1, o2, o3, o4⟩, f14, hN, hM⟩
      have hlt2 : k * 2 < (pairsL m.edges q.edges).length * 2 := by omega
      have z1 := flatP_len (P := (pairsL m.edges q.edges).take k)
      rw [List.length_take] at z1
      have hM0 := hM
      rcases hM with ⟨mz, _, mv⟩ | ⟨mpos, nm', hnm', g', mv, mo'⟩
      · have mo' : True := trivial
        (
          simp [rn0, rn1, rn2, rn3, rn4, rn5, rn6, rn7, evOp, Arg.ev, St.val, St.set, St.new, sliceOf, binInt2, binInt, AV.cells, rdAt, St.live, retOf, resOf, resAll, treeOf, treeCell, treeCells, treeTups, untree, frameOf, TV.av, TR.av, ints, edgs, prs, fillV, splice, intsOf, trees, V1.tree, bx, Gr.v, Pa.v, dw0, dw1, dw2, dw3, opRd, opWr, opNew, opNewR, opArgs, argsRd, argRd, Arg.rd, AV.refs, V1.refs, refsL, dstL, f4, f5, f6, f7, f8, o0, o1, o2, o3, o4, f14, mv, mo', hc, hlt, hlt2, drop_prL hlt]
          refine kApp_growL (nms := rmE) (ts := [.int .i64 (pth (pairsL m.edges q.edges) k).1, .int .i64 (pth (pairsL m.edges q.edges) k).2]) (by simp [rmE]) rfl (by rw [← mv]; exact hM0.keep fun nm hm g => by simp [rmE] at hm; rcases hm with rfl | rfl <;> simp [rn0, rn1, rn2, rn3, rn4, rn5, rn6, rn7, evOp, Arg.ev, St.val, St.set, St.new, sliceOf, binInt2, binInt, AV.cells, rdAt, St.live, retOf, resOf, resAll, treeOf, treeCell, treeCells, treeTups, untree, frameOf, TV.av, TR.av, ints, edgs, prs, fillV, splice, intsOf, trees, V1.tree, bx, Gr.v, Pa.v]) rfl (by simp [z1]; omega) (by simp [z1]; omega) fun E hE hob hcnt => ?_
          have hN2 := hN.keep (ob' := E.ob) fun nm hm g => by
            rw [hob _ _ (by simp [rmN] at hm; rcases hm with rfl | rfl | rfl <;> simp [rmE])]
            simp [rmN] at hm
            rcases hm with rfl | rfl | rfl <;> simp [rn0, rn1, rn2, rn3, rn4, rn5, rn6, rn7, evOp, Arg.ev, St.val, St.set, St.new, sliceOf, binInt2, binInt, AV.cells, rdAt, St.live, retOf, resOf, resAll, treeOf, treeCell, treeCells, treeTups, untree, frameOf, TV.av, TR.av, ints, edgs, prs, fillV, splice, intsOf, trees, V1.tree, bx, Gr.v, Pa.v]
          simp [rn0, rn1, rn2, rn3, rn4, rn5, rn6, rn7, evOp, Arg.ev, St.val, St.set, St.new, sliceOf, binInt2, binInt, AV.cells, rdAt, St.live, retOf, resOf, resAll, treeOf, treeCell, treeCells, treeTups, untree, frameOf, TV.av, TR.av, ints, edgs, prs, fillV, splice, intsOf, trees, V1.tree, bx, Gr.v, Pa.v, dw0, dw1, dw2, dw3, opRd, opWr, opNew, opNewR, opArgs, argsRd, argRd, Arg.rd, AV.refs, V1.refs, refsL, dstL]
          refine ⟨rfl, ?_⟩
          simp [RefS, rmE, rn0, rn1, rn2, rn3, rn4, rn5, rn6, rn7, evOp, Arg.ev, St.val, St.set, St.new, sliceOf, binInt2, binInt, AV.cells, rdAt, St.live, retOf, resOf, resAll, treeOf, treeCell, treeCells, treeTups, untree, frameOf, TV.av, TR.av, ints, edgs, prs, fillV, splice, intsOf, trees, V1.tree, bx, Gr.v, Pa.v, f4, f5, f6, f7, f8, o0, o1, o2, o3, o4, f14, hc, hw, hob, flatP_take hlt]
          exact ⟨by simpa using hN2, by simpa [rmE, Nat.add_assoc] using hE⟩)
      · simp [rmE] at hnm'
        rcases hnm' with rfl | rfl <;> (
          simp [rn0, rn1, rn2, rn3, rn4, rn5, rn6, rn7, evOp, Arg.ev, St.val, St.set, St.new, sliceOf, binInt2, binInt, AV.cells, rdAt, St.live, retOf, resOf, resAll, treeOf, treeCell, treeCells, treeTups, untree, frameOf, TV.av, TR.av, ints, edgs, prs, fillV, splice, intsOf, trees, V1.tree, bx, Gr.v, Pa.v, dw0, dw1, dw2, dw3, opRd, opWr, opNew, opNewR, opArgs, argsRd, argRd, Arg.rd, AV.refs, V1.refs, refsL, dstL, f4, f5, f6, f7, f8, o0, o1, o2, o3, o4, f14, mv, mo', hc, hlt, hlt2, drop_prL hlt]
          refine kApp_growL (nms := rmE) (ts := [.int .i64 (pth (pairsL m.edges q.edges) k).1, .int .i64 (pth (pairsL m.edges q.edges) k).2]) (by simp [rmE]) rfl (by rw [← mv]; exact hM0.keep fun nm hm g => by simp [rmE] at hm; rcases hm with rfl | rfl <;> simp [rn0, rn1, rn2, rn3, rn4, rn5, rn6, rn7, evOp, Arg.ev, St.val, St.set, St.new, sliceOf, binInt2, binInt, AV.cells, rdAt, St.live, retOf, resOf, resAll, treeOf, treeCell, treeCells, treeTups, untree, frameOf, TV.av, TR.av, ints, edgs, prs, fillV, splice, intsOf, trees, V1.tree, bx, Gr.v, Pa.v]) rfl (by simp [z1]; omega) (by simp [z1]; omega) fun E hE hob hcnt => ?_
          have hN2 := hN.keep (ob' := E.ob) fun nm hm g => by
            rw [hob _ _ (by simp [rmN] at hm; rcases hm with rfl | rfl | rfl <;> simp [rmE])]
            simp [rmN] at hm
            rcases hm with rfl | rfl | rfl <;> simp [rn0, rn1, rn2, rn3, rn4, rn5, rn6, rn7, evOp, Arg.ev, St.val, St.set, St.new, sliceOf, binInt2, binInt, AV.cells, rdAt, St.live, retOf, resOf, resAll, treeOf, treeCell, treeCells, treeTups, untree, frameOf, TV.av, TR.av, ints, edgs, prs, fillV, splice, intsOf, trees, V1.tree, bx, Gr.v, Pa.v]
          simp [rn0, rn1, rn2, rn3, rn4, rn5, rn6, rn7, evOp, Arg.ev, St.val, St.set, St.new, sliceOf, binInt2, binInt, AV.cells, rdAt, St.live, retOf, resOf, resAll, treeOf, treeCell, treeCells, treeTups, untree, frameOf, TV.av, TR.av, ints, edgs, prs, fillV, splice, intsOf, trees, V1.tree, bx, Gr.v, Pa.v, dw0, dw1, dw2, dw3, opRd, opWr, opNew, opNewR, opArgs, argsRd, argRd, Arg.rd, AV.refs, V1.refs, refsL, dstL]
          refine ⟨rfl, ?_⟩
          simp [RefS, rmE, rn0, rn1, rn2, rn3, rn4, rn5, rn6, rn7, evOp, Arg.ev, St.val, St.set, St.new, sliceOf, binInt2, binInt, AV.cells, rdAt, St.live, retOf, resOf, resAll, treeOf, treeCell, treeCells, treeTups, untree, frameOf, TV.av, TR.av, ints, edgs, prs, fillV, splice, intsOf, trees, V1.tree, bx, Gr.v, Pa.v, f4, f5, f6, f7, f8, o0, o1, o2, o3, o4, f14, hc, hw, hob, flatP_take hlt]
          exact ⟨by simpa using hN2, by simpa [rmE, Nat.add_assoc] using hE⟩)
    · rintro S hc ⟨⟨f4, f5, f6, f7, f8, o0, o1, o2, o3, o4⟩, f14, hN, hM⟩
      rw [List.take_length] at hM
      simp [rn0, rn1, rn2, rn3, rn4, rn5, rn6, rn7, evOp, Arg.ev, St.val, St.set, St.new, sliceOf, binInt2, binInt, AV.cells, rdAt, St.live, retOf, resOf, resAll, treeOf, treeCell, treeCells, treeTups, untree, frameOf, TV.av, TR.av, ints, edgs, prs, fillV, splice, intsOf, trees, V1.tree, bx, Gr.v, Pa.v, f4, f5, f6, f7, f8, o0, o1, o2, o3, o4, f14, hc]
      refine callS_tree (dangl12_row l g q m h.tg h.tm tq).ok ?_ ?_ ?_
      · rfl
      · rfl
      simp [rn0, rn1, rn2, rn3, rn4, rn5, rn6, rn7, evOp, Arg.ev, St.val, St.set, St.new, sliceOf, binInt2, binInt, AV.cells, rdAt, St.live, retOf, resOf, resAll, treeOf, treeCell, treeCells, treeTups, untree, frameOf, TV.av, TR.av, ints, edgs, prs, fillV, splice, intsOf, trees, V1.tree, bx, Gr.v, Pa.v, f4, f5, f6, f7, f8, o0, o1, o2, o3, o4]
      refine loopW_count 18 (danglL g q m).length (fun k S => RefS l g m q S ∧ S.fr 17 = .one (.t (ints (danglL g q m))) ∧
        outL rmN 3 1 (q.nodes ++ flatP (pairsL m.nodes q.nodes) ++ looseT g m (danglL g q m) k).length ((q.nodes ++ flatP (pairsL m.nodes q.nodes) ++ looseT g m (danglL g q m) k).map (.int .i64)) S.ob (S.fr 11) ∧
        outL rmE 3 1 (edgesS q m).length ((edgesS q m).map (.int .i64)) S.ob (S.fr 12)) (by omega) ?_ ?_ ?_
      · simp [RefS, rn0, rn1, rn2, rn3, rn4, rn5, rn6, rn7, evOp, Arg.ev, St.val, St.set, St.new, sliceOf, binInt2, binInt, AV.cells, rdAt, St.live, retOf, resOf, resAll, treeOf, treeCell, treeCells, treeTups, untree, frameOf, TV.av, TR.av, ints, edgs, prs, fillV, splice, intsOf, trees, V1.tree, bx, Gr.v, Pa.v, f4, f5, f6, f7, f8, o0, o1, o2, o3, o4]
        exact ⟨by simpa [looseT] using hN, by simpa [edgesS] using hM⟩
      · rintro k S hlt hw hc ⟨⟨f4, f5, f6, f7, f8, o0, o1, o2, o3, o4⟩, f17, hN, hM⟩
        obtain ⟨y1, y2⟩ := dangl_in _ (nth_mem hlt)
        obtain ⟨x, hx⟩ := Int.eq_ofNat_of_zero_le y1
        have hx2 : x < g.edges.length := by omega
        have hx3 : x * 3 < g.edges.length * 3 := by omega
        have z1 := flatP_len (P := pairsL m.nodes q.nodes)
        have z2 := looseT_len (g := g) (m := m) (D := danglL g q m) k
        have z3 : k * m.nodes.length ≤ 80 * 40 := Nat.mul_le_mul (by omega) (by omega)
        simp [rn0, rn1, rn2, rn3, rn4, rn5, rn6, rn7, evOp, Arg.ev, St.val, St.set, St.new, sliceOf, binInt2, binInt, AV.cells, rdAt, St.live, retOf, resOf, resAll, treeOf, treeCell, treeCells, treeTups, untree, frameOf, TV.av, TR.av, ints, edgs, prs, fillV, splice, intsOf, trees, V1.tree, bx, Gr.v, Pa.v, dw0, dw1, dw2, dw3, opRd, opWr, opNew, opNewR, opArgs, argsRd, argRd, Arg.rd, AV.refs, V1.refs, refsL, dstL, f4, f5, f6, f7, f8, o0, o1, o2, o3, o4, f17, hc, hlt, drop_nth hlt, hx, hx2, hx3, drop_edL hx2]
        refine ⟨rfl, ?_⟩
        refine loopW_count 20 l.nodes.length (fun j S' => RefS l g m q S' ∧ S'.fr 17 = .one (.t (ints (danglL g q m))) ∧ S'.fr 18 = .one (.t (.int .i64 k)) ∧
          S'.fr 19 = .one (.ptr (1224, S.cnt 1224) 0) ∧ S'.ob (1224, S.cnt 1224) = some (bx 73 [.t (.int .i64 (eth g.edges x).t), .t (.int .i64 (eth g.edges x).f), .t (.int .i64 (eth g.edges x).g)]) ∧
          outL rmN 3 1 (q.nodes ++ flatP (pairsL m.nodes q.nodes) ++ looseT g m (danglL g q m) k ++ collect (touchF m (eth g.edges x)) j).length ((q.nodes ++ flatP (pairsL m.nodes q.nodes) ++ looseT g m (danglL g q m) k ++ collect (touchF m (eth g.edges x)) j).map (.int .i64)) S'.ob (S'.fr 11) ∧
          outL rmE 3 1 (edgesS q m).length ((edgesS q m).map (.int .i64)) S'.ob (S'.fr 12)) (by omega) ?_ ?_ ?_
        · simp [RefS, rn0, rn1, rn2, rn3, rn4, rn5, rn6, rn7, evOp, Arg.ev, St.val, St.set, St.new, sliceOf, binInt2, binInt, AV.cells, rdAt, St.live, retOf, resOf, resAll, treeOf, treeCell, treeCells, treeTups, untree, frameOf, TV.av, TR.av, ints, edgs, prs, fillV, splice, intsOf, trees, V1.tree, bx, Gr.v, Pa.v, f4, f5, f6, f7, f8, o0, o1, o2, o3, o4, f17, hc, collect_zero]
          simp at hN
          exact ⟨hN.keep fun nm hm g => by simp [rmN] at hm; rcases hm with rfl | rfl | rfl <;> simp [rn0, rn1, rn2, rn3, rn4, rn5, rn6, rn7, evOp, Arg.ev, St.val, St.set, St.new, sliceOf, binInt2, binInt, AV.cells, rdAt, St.live, retOf, resOf, resAll, treeOf, treeCell, treeCells, treeTups, untree, frameOf, TV.av, TR.av, ints, edgs, prs, fillV, splice, intsOf, trees, V1.tree, bx, Gr.v, Pa.v], hM.keep fun nm hm g => by simp [rmE] at hm; rcases hm with rfl | rfl <;> simp [rn0, rn1, rn2, rn3, rn4, rn5, rn6, rn7, evOp, Arg.ev, St.val, St.set, St.new, sliceOf, binInt2, binInt, AV.cells, rdAt, St.live, retOf, resOf, resAll, treeOf, treeCell, treeCells, treeTups, untree, frameOf, TV.av, TR.av, ints, edgs, prs, fillV, splice, intsOf, trees, V1.tree, bx, Gr.v, Pa.v]⟩
        · rintro j S' hlt' hw' hc' ⟨⟨f4, f5, f6, f7, f8, o0, o1, o2, o3, o4⟩, f17, f18, f19, oe, hN, hM⟩
          have z4 := collect_len (f := touchF m (eth g.edges x)) (k := j)
          have hlt'' : j < m.nodes.length := by omega
          have hlen : (q.nodes ++ flatP (pairsL m.nodes q.nodes) ++ looseT g m (danglL g q m) k ++ collect (touchF m (eth g.edges x)) j).length ≤ 100000 := by simp; omega
          by_cases e1 : nth m.nodes j = (eth g.edges x).f
          · have e : touchF m (eth g.edges x) j = some (j : Int) := by simp [touchF, e1]
            simp [rn0, rn1, rn2, rn3, rn4, rn5, rn6, rn7, evOp, Arg.ev, St.val, St.set, St.new, sliceOf, binInt2, binInt, AV.cells, rdAt, St.live, retOf, resOf, resAll, treeOf, treeCell, treeCells, treeTups, untree, frameOf, TV.av, TR.av, ints, edgs, prs, fillV, splice, intsOf, trees, V1.tree, bx, Gr.v, Pa.v, dw0, dw1, dw2, dw3, opRd, opWr, opNew, opNewR, opArgs, argsRd, argRd, Arg.rd, AV.refs, V1.refs, refsL, dstL, f4, f5, f6, f7, f8, o0, o1, o2, o3, o4, f17, f18, f19, oe, hc', hlt', hlt'', drop_nth hlt'', e1]
            refine ⟨rfl, ?_⟩
            refine kApp_growL (nms := rmN) (ts := [.int .i64 j]) (by simp [rmN]) rfl (hN.keep fun nm hm g => by simp [rmN] at hm; rcases hm with rfl | rfl | rfl <;> simp [rn0, rn1, rn2, rn3, rn4, rn5, rn6, rn7, evOp, Arg.ev, St.val, St.set, St.new, sliceOf, binInt2, binInt, AV.cells, rdAt, St.live, retOf, resOf, resAll, treeOf, treeCell, treeCells, treeTups, untree, frameOf, TV.av, TR.av, ints, edgs, prs, fillV, splice, intsOf, trees, V1.tree, bx, Gr.v, Pa.v]) rfl (by omega) (by omega) fun E hE hob hcnt => ?_
            have hM2 := hM.keep (ob' := E.ob) fun nm hm g => by
              rw [hob _ _ (by simp [rmE] at hm; rcases hm with rfl | rfl <;> simp [rmN])]
              simp [rmE] at hm
              rcases hm with rfl | rfl <;> simp [rn0, rn1, rn2, rn3, rn4, rn5, rn6, rn7, evOp, Arg.ev, St.val, St.set, St.new, sliceOf, binInt2, binInt, AV.cells, rdAt, St.live, retOf, resOf, resAll, treeOf, treeCell, treeCells, treeTups, untree, frameOf, TV.av, TR.av, ints, edgs, prs, fillV, splice, intsOf, trees, V1.tree, bx, Gr.v, Pa.v]
            simp [RefS, rmN, rn0, rn1, rn2, rn3, rn4, rn5, rn6, rn7, evOp, Arg.ev, St.val, St.set, St.new, sliceOf, binInt2, binInt, AV.cells, rdAt, St.live, retOf, resOf, resAll, treeOf, treeCell, treeCells, treeTups, untree, frameOf, TV.av, TR.av, ints, edgs, prs, fillV, splice, intsOf, trees, V1.tree, bx, Gr.v, Pa.v, f4, f5, f6, f7, f8, o0, o1, o2, o3, o4, f17, f18, f19, oe, hc', hw', hob, collect_some e]
            exact ⟨by simpa [rmN, Nat.add_assoc] using hE, hM2⟩
          by_cases e2 : nth m.nodes j = (eth g.edges x).g
          · have e : touchF m (eth g.edges x) j = some (j : Int) := by simp [touchF, e2]
            have e1' : ¬ (eth g.edges x).g = (eth g.edges x).f := fun h => e1 (by rw [e2, h])
            simp [rn0, rn1, rn2, rn3, rn4, rn5, rn6, rn7, evOp, Arg.ev, St.val, St.set, St.new, sliceOf, binInt2, binInt, AV.cells, rdAt, St.live, retOf, resOf, resAll, treeOf, treeCell, treeCells, treeTups, untree, frameOf, TV.av, TR.av, ints, edgs, prs, fillV, splice, intsOf, trees, V1.tree, bx, Gr.v, Pa.v, dw0, dw1, dw2, dw3, opRd, opWr, opNew, opNewR, opArgs, argsRd, argRd, Arg.rd, AV.refs, V1.refs, refsL, dstL, f4, f5, f6, f7, f8, o0, o1, o2, o3, o4, f17, f18, f19, oe, hc', hlt', hlt'', drop_nth hlt'', e1, e2, e1']
            refine ⟨rfl, ?_⟩
            refine kApp_growL (nms := rmN) (ts := [.int .i64 j]) (by simp [rmN]) rfl (hN.keep fun nm hm g => by simp [rmN] at hm; rcases hm with rfl | rfl | rfl <;> simp [rn0, rn1, rn2, rn3, rn4, rn5, rn6, rn7, evOp, Arg.ev, St.val, St.set, St.new, sliceOf, binInt2, binInt, AV.cells, rdAt, St.live, retOf, resOf, resAll, treeOf, treeCell, treeCells, treeTups, untree, frameOf, TV.av, TR.av, ints, edgs, prs, fillV, splice, intsOf, trees, V1.tree, bx, Gr.v, Pa.v]) rfl (by omega) (by omega) fun E hE hob hcnt => ?_
            have hM2 := hM.keep (ob' := E.ob) fun nm hm g => by
              rw [hob _ _ (by simp [rmE] at hm; rcases hm with rfl | rfl <;> simp [rmN])]
              simp [rmE] at hm
              rcases hm with rfl | rfl <;> simp [rn0, rn1, rn2, rn3, rn4, rn5, rn6, rn7, evOp, Arg.ev, St.val, St.set, St.new, sliceOf, binInt2, binInt, AV.cells, rdAt, St.live, retOf, resOf, resAll, treeOf, treeCell, treeCells, treeTups, untree, frameOf, TV.av, TR.av, ints, edgs, prs, fillV, splice, intsOf, trees, V1.tree, bx, Gr.v, Pa.v]
            simp [RefS, rmN, rn0, rn1, rn2, rn3, rn4, rn5, rn6, rn7, evOp, Arg.ev, St.val, St.set, St.new, sliceOf, binInt2, binInt, AV.cells, rdAt, St.live, retOf, resOf, resAll, treeOf, treeCell, treeCells, treeTups, untree, frameOf, TV.av, TR.av, ints, edgs, prs, fillV, splice, intsOf, trees, V1.tree, bx, Gr.v, Pa.v, f4, f5, f6, f7, f8, o0, o1, o2, o3, o4, f17, f18, f19, oe, hc', hw', hob, collect_some e]
            exact ⟨by simpa [rmN, Nat.add_assoc] using hE, hM2⟩
          · have e : touchF m (eth g.edges x) j = none := by simp [touchF, e1, e2]
            simp [RefS, rn0, rn1, rn2, rn3, rn4, rn5, rn6, rn7, evOp, Arg.ev, St.val, St.set, St.new, sliceOf, binInt2, binInt, AV.cells, rdAt, St.live, retOf, resOf, resAll, treeOf, treeCell, treeCells, treeTups, untree, frameOf, TV.av, TR.av, ints, edgs, prs, fillV, splice, intsOf, trees, V1.tree, bx, Gr.v, Pa.v, dw0, dw1, dw2, dw3, opRd, opWr, opNew, opNewR, opArgs, argsRd, argRd, Arg.rd, AV.refs, V1.refs, refsL, dstL, f4, f5, f6, f7, f8, o0, o1, o2, o3, o4, f17, f18, f19, oe, hc', hlt', hlt'', hw', drop_nth hlt'', e1, e2, collect_none e]
            simp at hN
            exact ⟨rfl, hN, hM⟩
        · rintro S' hc' ⟨⟨f4, f5, f6, f7, f8, o0, o1, o2, o3, o4⟩, f17, f18, f19, oe, hN, hM⟩
          simp [RefS, rn0, rn1, rn2, rn3, rn4, rn5, rn6, rn7, evOp, Arg.ev, St.val, St.set, St.new, sliceOf, binInt2, binInt, AV.cells, rdAt, St.live, retOf, resOf, resAll, treeOf, treeCell, treeCells, treeTups, untree, frameOf, TV.av, TR.av, ints, edgs, prs, fillV, splice, intsOf, trees, V1.tree, bx, Gr.v, Pa.v, f4, f5, f6, f7, f8, o0, o1, o2, o3, o4, f17, f18, f19, hc', hw, looseT_succ hlt, hx, touchL, b5]
          simp [← b5] at hN ⊢
          exact ⟨hN, hM⟩
      · rintro S hc ⟨⟨f4, f5, f6, f7, f8, o0, o1, o2, o3, o4⟩, f17, hN, hM⟩
        rw [looseT_all] at hN
        have z0 : (edgesS q m).length ≤ 20000 := by
          have z1 := flatP_len (P := pairsL m.edges q.edges)
          simp only [edgesS, List.length_append]
          omega
        have z3 : (nodesS g q m).length ≤ 20000 := by
          have z1 := flatP_len (P := pairsL m.nodes q.nodes)
          have z4 := looseT_len (g := g) (m := m) (D := danglL g q m) (danglL g q m).length
          have z5 : (danglL g q m).length * m.nodes.length ≤ 80 * 40 := Nat.mul_le_mul (by omega) (by omega)
          rw [looseT_all] at z4
          simp only [nodesS, List.length_append]
          omega
        simp [rn0, rn1, rn2, rn3, rn4, rn5, rn6, rn7, evOp, Arg.ev, St.val, St.set, St.new, sliceOf, binInt2, binInt, AV.cells, rdAt, St.live, retOf, resOf, resAll, treeOf, treeCell, treeCells, treeTups, untree, frameOf, TV.av, TR.av, ints, edgs, prs, fillV, splice, intsOf, trees, V1.tree, bx, Gr.v, Pa.v, f4, f5, f6, f7, f8, o0, o1, o2, o3, o4, f17, hc]
        refine callS_lists2 (close_ok l (nodesS g q m) (edgesS q m) h.tl (gErr_sub so) (nodesS_in hq.1 mo.ln) (edgesS_in hq.1 mo.le) (by simp only [tiny]; omega) (by simp only [tiny]; omega)) (fun ob cnt => ⟨rfl, rfl⟩) hN hM (by decide) fun ob' hob => ?_
        have o0' := (hob 0 0 (by decide) (by decide)).trans o0
        have o1' := (hob 1 0 (by decide) (by decide)).trans o1
        have o2' := (hob 2 0 (by decide) (by decide)).trans o2
        have o3' := (hob 3 0 (by decide) (by decide)).trans o3
        have o4' := (hob 4 0 (by decide) (by decide)).trans o4
        have es : (⟨canon l.nodes.length (nodesS g q m ++ endsL l (edgesS q m) l.edges.length), canon l.edges.length (edgesS q m)⟩ : Pa) = stepP l g q m := rfl
        rw [es]
        have c5 := (stepP_ok (l := l) (g := g) (p := q) (m := m)).len
        simp [rn0, rn1, rn2, rn3, rn4, rn5, rn6, rn7, evOp, Arg.ev, St.val, St.set, St.new, sliceOf, binInt2, binInt, AV.cells, rdAt, St.live, retOf, resOf, resAll, treeOf, treeCell, treeCells, treeTups, untree, frameOf, TV.av, TR.av, ints, edgs, prs, fillV, splice, intsOf, trees, V1.tree, bx, Gr.v, Pa.v, f4, f5, f6, f7, f8, o0', o1', o2', o3', o4']
        refine callS_tree (same7_ok (stepP l g q m) q ⟨by simp only [tiny]; omega, by simp only [tiny]; omega⟩ tq) ?_ ?_ ?_
        · rfl
        · rfl
        by_cases hf : (stepP l g q m).nodes = q.nodes ∧ (stepP l g q m).edges = q.edges
        · have hs := rep_stop hq ((fixed_eq hq.1).2 hf)
          rw [hs] at hf
          simp [rn0, rn1, rn2, rn3, rn4, rn5, rn6, rn7, evOp, Arg.ev, St.val, St.set, St.new, sliceOf, binInt2, binInt, AV.cells, rdAt, St.live, retOf, resOf, resAll, treeOf, treeCell, treeCells, treeTups, untree, frameOf, TV.av, TR.av, ints, edgs, prs, fillV, splice, intsOf, trees, V1.tree, bx, Gr.v, Pa.v, f4, f5, f6, f7, f8, o0', o1', o2', o3', o4', hf.1, hf.2, hs]
        · obtain ⟨r1, r2⟩ := rep_go hq (fun h => hf ((fixed_eq hq.1).1 h))
          have hb : (decide ((stepP l g q m).nodes = q.nodes) && decide ((stepP l g q m).edges = q.edges)) = false := by
            rw [Bool.eq_false_iff]
            intro hb
            simp at hb
            exact hf hb
          rw [hb]
          simp [rn0, rn1, rn2, rn3, rn4, rn5, rn6, rn7, evOp, Arg.ev, St.val, St.set, St.new, sliceOf, binInt2, binInt, AV.cells, rdAt, St.live, retOf, resOf, resAll, treeOf, treeCell, treeCells, treeTups, untree, frameOf, TV.av, TR.av, ints, edgs, prs, fillV, splice, intsOf, trees, V1.tree, bx, Gr.v, Pa.v, f4, f5, f6, f7, f8, o0', o1', o2', o3', o4']
          refine ⟨⟨_, ?_, r1⟩, ?_⟩
          · simp [RefS, rn0, rn1, rn2, rn3, rn4, rn5, rn6, rn7, evOp, Arg.ev, St.val, St.set, St.new, sliceOf, binInt2, binInt, AV.cells, rdAt, St.live, retOf, resOf, resAll, treeOf, treeCell, treeCells, treeTups, untree, frameOf, TV.av, TR.av, ints, edgs, prs, fillV, splice, intsOf, trees, V1.tree, bx, Gr.v, Pa.v, f4, f5, f6, f7, f8, o0', o1', o2', o3', o4']
          · simp only [gap] at r2 ⊢
            simpa [refMu, rn0, rn1, rn2, rn3, rn4, rn5, rn6, rn7, evOp, Arg.ev, St.val, St.set, St.new, sliceOf, binInt2, binInt, AV.cells, rdAt, St.live, retOf, resOf, resAll, treeOf, treeCell, treeCells, treeTups, untree, frameOf, TV.av, TR.av, ints, edgs, prs, fillV, splice, intsOf, trees, V1.tree, bx, Gr.v, Pa.v, o2'] using r2
end Go.Proofs.Ythapbbpdcjmmfaa
