/-
  Contract: the program's repair. No condition beyond those that each statement names.
-/
import Derived.Test.YthapbbpdcjmmfaaF18
namespace Go.Proofs.Ythapbbpdcjmmfaa
open Abs
set_option linter.unusedSimpArgs false
set_option linter.unusedVariables false

/-- Where a round of the program begins. -/
def RepS (l g : Gr) (m q : Pa) (S : St) : Prop :=
  S.fr 4 = .one (.ptr (0, 0) 0) ∧ S.fr 5 = .one (.ptr (1, 0) 0) ∧ S.fr 7 = .one (.ptr (3, 0) 0) ∧ S.fr 8 = .one (.ptr (4, 0) 0) ∧ S.fr 10 = .one (.ptr (69, 0) 0) ∧
  S.ob (0, 0) = some (bx 25 [.t (ints l.nodes), .t (edgs l.edges)]) ∧ S.ob (1, 0) = some (bx 25 [.t (ints g.nodes), .t (edgs g.edges)]) ∧
  S.ob (3, 0) = some (bx 28 [.t (ints m.nodes), .t (ints m.edges)]) ∧ S.ob (4, 0) = some (bx 27 [.nil, .nil]) ∧
  S.ob (69, 0) = some (bx 77 [.t (ints l.nodes), .t (edgs l.edges), .t (ints g.nodes), .t (edgs g.edges), .t (ints q.nodes), .t (ints q.edges), .t (ints m.nodes), .t (ints m.edges)])

def nmN : List Nat := [323, 646, 1603, 1998]
def nmE : List Nat := [327, 966]

def repMu (l : Gr) (S : St) : Nat := match S.ob (69, 0) with
  | some x => match x.cells with
    | [_, _, _, _, .t (.sl a _), .t (.sl b _), _, _] => (l.nodes.length - a) + (l.edges.length - b)
    | _ => 0
  | none => 0

def c_repair : MFunc := ⟨168, [.cell 8 true 2, .tmp 9], .seq (.region [⟨some 4, .box 0 25 (.tmp 0), none⟩, ⟨some 5, .box 1 25 (.tmp 1), none⟩, ⟨some 6, .box 2 27 (.tmp 2), none⟩, ⟨some 7, .box 3 28 (.tmp 3), none⟩, ⟨some 8, .alloc 4 27 [.nil, .nil], none⟩, ⟨some 9, .mv (.c (.one (.t (.int .i64 0)))), none⟩]) (.seq (.region [⟨some 28, .load true 2 (.tmp 4), none⟩, ⟨some 29, .load true 2 (.tmp 5), none⟩, ⟨some 30, .load true 2 (.tmp 6), none⟩, ⟨some 31, .load true 2 (.tmp 7), none⟩, ⟨some 32, .build [.nil, .nil, .nil, .nil, .nil, .nil, .nil, .nil] [(0, (2, .tmp 28)), (2, (2, .tmp 29)), (4, (2, .tmp 30)), (6, (2, .tmp 31))], none⟩, ⟨some 10, .alloc 69 77 [.nil, .nil, .nil, .nil, .nil, .nil, .nil, .nil], none⟩, ⟨none, .store 8 (.tmp 10) (.tmp 32), none⟩]) (.seq (.seq (.region [⟨some 33, .load true 8 (.tmp 10), none⟩, ⟨some 34, .call (.c (.one (.fn 41 []))) 129 [.tmp 33], none⟩, ⟨some 11, .mv (.tmp 34), none⟩]) (.seq (.region [⟨some 35, .mv (.tmp 11), none⟩, ⟨some 36, .bin .neq (.tmp 35) (.c (.one (.t (.int .i64 0)))), none⟩]) (.cond (.tmp 36) (.seq (.region [⟨some 37, .build [.nil, .nil] [], none⟩, ⟨some 38, .mv (.tmp 11), none⟩, ⟨none, .store 2 (.tmp 8) (.tmp 37), none⟩, ⟨some 9, .mv (.tmp 38), none⟩]) .ret) .skip))) (.block 0 (.loop (.block 1 (.seq (.draw [[], [0], [1], [2], [], [4], [5], [6, 3], [3, 7, 0, 1, 2, 3], [7, 8, 0, 1, 2, 3, 4, 5, 6, 7, 8]] [⟨some 39, .fieldA 4 (.tmp 10), none⟩, ⟨some 40, .fieldA 0 (.tmp 39), none⟩, ⟨some 41, .load false 1 (.tmp 40), none⟩, ⟨some 42, .call (.c (.one (.fn 45 []))) 323 [.tmp 41], none⟩, ⟨some 43, .fieldA 4 (.tmp 10), none⟩, ⟨some 44, .fieldA 1 (.tmp 43), none⟩, ⟨some 45, .load false 1 (.tmp 44), none⟩, ⟨some 46, .call (.c (.one (.fn 45 []))) 327 [.tmp 45], none⟩, ⟨some 12, .mv (.tmp 42), none⟩, ⟨some 13, .mv (.tmp 46), none⟩]) (.seq (.region [⟨some 48, .load true 8 (.tmp 10), none⟩, ⟨some 49, .call (.c (.one (.fn 42 []))) 385 [.tmp 48], none⟩, ⟨some 47, .mv (.tmp 49), none⟩, ⟨some 50, .extract (.tmp 47) 0, none⟩, ⟨some 51, .extract (.tmp 47) 1, none⟩, ⟨some 14, .mv (.tmp 50), none⟩, ⟨some 15, .mv (.tmp 51), none⟩]) (.seq (.seq (.region [⟨some 52, .mv (.tmp 14), none⟩, ⟨some 53, .len (.tmp 52), none⟩, ⟨some 54, .mv (.c (.one (.t (.int .i64 0)))), none⟩]) (.block 2 (.loop (.seq (.region [⟨some 55, .bin .lss (.tmp 54) (.tmp 53), none⟩]) (.seq (.cond (.tmp 55) .skip (.exit 2)) (.seq (.block 3 (.seq (.region [⟨some 56, .idxA 2 (.tmp 52) (.tmp 54), none⟩, ⟨some 57, .load true 2 (.tmp 56), none⟩, ⟨some 17, .alloc 578 57 [.t (.int .i64 0), .t (.int .i64 0)], none⟩, ⟨none, .store 2 (.tmp 17) (.tmp 57), none⟩]) (.region [⟨some 58, .mv (.tmp 12), none⟩, ⟨some 59, .fieldA 0 (.tmp 17), none⟩, ⟨some 60, .load false 1 (.tmp 59), none⟩, ⟨some 61, .fieldA 1 (.tmp 17), none⟩, ⟨some 62, .load false 1 (.tmp 61), none⟩, ⟨some 63, .mkrow 645 3 1 2 [.t (.int .i64 0), .t (.int .i64 0)] [(0, (1, .tmp 60)), (1, (1, .tmp 62))], none⟩, ⟨some 64, .append 646 3 1 8 (.tmp 58) (.tmp 63), none⟩, ⟨some 12, .mv (.tmp 64), none⟩]))) (.region [⟨some 65, .bin .add (.tmp 54) (.c (.one (.t (.int .i64 1)))), none⟩, ⟨some 54, .mv (.tmp 65), none⟩]))))))) (.seq (.seq (.region [⟨some 66, .mv (.tmp 15), none⟩, ⟨some 67, .len (.tmp 66), none⟩, ⟨some 68, .mv (.c (.one (.t (.int .i64 0)))), none⟩]) (.block 4 (.loop (.seq (.region [⟨some 69, .bin .lss (.tmp 68) (.tmp 67), none⟩]) (.seq (.cond (.tmp 69) .skip (.exit 4)) (.seq (.block 5 (.seq (.region [⟨some 70, .idxA 2 (.tmp 66) (.tmp 68), none⟩, ⟨some 71, .load true 2 (.tmp 70), none⟩, ⟨some 19, .alloc 898 57 [.t (.int .i64 0), .t (.int .i64 0)], none⟩, ⟨none, .store 2 (.tmp 19) (.tmp 71), none⟩]) (.region [⟨some 72, .mv (.tmp 13), none⟩, ⟨some 73, .fieldA 0 (.tmp 19), none⟩, ⟨some 74, .load false 1 (.tmp 73), none⟩, ⟨some 75, .fieldA 1 (.tmp 19), none⟩, ⟨some 76, .load false 1 (.tmp 75), none⟩, ⟨some 77, .mkrow 965 3 1 2 [.t (.int .i64 0), .t (.int .i64 0)] [(0, (1, .tmp 74)), (1, (1, .tmp 76))], none⟩, ⟨some 78, .append 966 3 1 8 (.tmp 72) (.tmp 77), none⟩, ⟨some 13, .mv (.tmp 78), none⟩]))) (.region [⟨some 79, .bin .add (.tmp 68) (.c (.one (.t (.int .i64 1)))), none⟩, ⟨some 68, .mv (.tmp 79), none⟩]))))))) (.seq (.seq (.region [⟨some 80, .load true 8 (.tmp 10), none⟩, ⟨some 81, .call (.c (.one (.fn 43 []))) 1089 [.tmp 80], none⟩, ⟨some 82, .len (.tmp 81), none⟩, ⟨some 83, .mv (.c (.one (.t (.int .i64 0)))), none⟩]) (.block 6 (.loop (.seq (.region [⟨some 84, .bin .lss (.tmp 83) (.tmp 82), none⟩]) (.seq (.cond (.tmp 84) .skip (.exit 6)) (.seq (.block 7 (.seq (.region [⟨some 85, .idxA 1 (.tmp 81) (.tmp 83), none⟩, ⟨some 86, .load false 1 (.tmp 85), none⟩, ⟨some 21, .mv (.tmp 86), none⟩]) (.seq (.region [⟨some 87, .fieldA 1 (.tmp 5), none⟩, ⟨some 88, .load false 1 (.tmp 87), none⟩, ⟨some 89, .mv (.tmp 21), none⟩, ⟨some 90, .idxA 3 (.tmp 88) (.tmp 89), none⟩, ⟨some 91, .load true 3 (.tmp 90), none⟩, ⟨some 22, .alloc 1285 73 [.t (.int .i64 0), .t (.int .i64 0), .t (.int .i64 0)], none⟩, ⟨none, .store 3 (.tmp 22) (.tmp 91), none⟩]) (.seq (.region [⟨some 92, .fieldA 0 (.tmp 7), none⟩, ⟨some 93, .load false 1 (.tmp 92), none⟩, ⟨some 94, .len (.tmp 93), none⟩, ⟨some 95, .mv (.c (.one (.t (.int .i64 0)))), none⟩]) (.block 8 (.loop (.seq (.region [⟨some 96, .bin .lss (.tmp 95) (.tmp 94), none⟩]) (.seq (.cond (.tmp 96) .skip (.exit 8)) (.seq (.block 9 (.seq (.region [⟨some 97, .mv (.tmp 95), none⟩, ⟨some 98, .idxA 1 (.tmp 93) (.tmp 95), none⟩, ⟨some 99, .load false 1 (.tmp 98), none⟩, ⟨some 23, .mv (.tmp 97), none⟩, ⟨some 24, .mv (.tmp 99), none⟩]) (.seq (.region [⟨some 100, .mv (.tmp 24), none⟩, ⟨some 101, .fieldA 1 (.tmp 22), none⟩, ⟨some 102, .load false 1 (.tmp 101), none⟩, ⟨some 103, .bin .eql (.tmp 100) (.tmp 102), none⟩, ⟨some 104, .mv (.tmp 103), none⟩, ⟨some 105, .mv (.tmp 24), some (104, false)⟩, ⟨some 106, .fieldA 2 (.tmp 22), some (104, false)⟩, ⟨some 107, .load false 1 (.tmp 106), some (104, false)⟩, ⟨some 108, .bin .eql (.tmp 105) (.tmp 107), some (104, false)⟩, ⟨some 109, .pick (.tmp 104) (.c (.one (.t (.bool true)))) (.tmp 108), none⟩]) (.cond (.tmp 109) (.region [⟨some 110, .mv (.tmp 12), none⟩, ⟨some 111, .mv (.tmp 23), none⟩, ⟨some 112, .mkrow 1602 3 1 1 [.t (.int .i64 0)] [(0, (1, .tmp 111))], none⟩, ⟨some 113, .append 1603 3 1 8 (.tmp 110) (.tmp 112), none⟩, ⟨some 12, .mv (.tmp 113), none⟩]) .skip)))) (.region [⟨some 114, .bin .add (.tmp 95) (.c (.one (.t (.int .i64 1)))), none⟩, ⟨some 95, .mv (.tmp 114), none⟩])))))))))) (.region [⟨some 115, .bin .add (.tmp 83) (.c (.one (.t (.int .i64 1)))), none⟩, ⟨some 83, .mv (.tmp 115), none⟩]))))))) (.seq (.seq (.region [⟨some 116, .mv (.tmp 13), none⟩, ⟨some 117, .len (.tmp 116), none⟩, ⟨some 118, .mv (.c (.one (.t (.int .i64 0)))), none⟩]) (.block 10 (.loop (.seq (.region [⟨some 119, .bin .lss (.tmp 118) (.tmp 117), none⟩]) (.seq (.cond (.tmp 119) .skip (.exit 10)) (.seq (.block 11 (.seq (.region [⟨some 120, .idxA 1 (.tmp 116) (.tmp 118), none⟩, ⟨some 121, .load false 1 (.tmp 120), none⟩, ⟨some 26, .mv (.tmp 121), none⟩]) (.draw [[], [], [1], [], [2, 3], [4], [5], [], [7], [], [8, 9], [10], [11], [6, 12], [0, 13], [14, 14, 0, 1, 2, 3, 4, 5, 6, 7, 8, 9, 10, 11, 12, 13, 14]] [⟨some 122, .mv (.tmp 12), none⟩, ⟨some 123, .fieldA 1 (.tmp 4), none⟩, ⟨some 124, .load false 1 (.tmp 123), none⟩, ⟨some 125, .mv (.tmp 26), none⟩, ⟨some 126, .idxA 3 (.tmp 124) (.tmp 125), none⟩, ⟨some 127, .fieldA 1 (.tmp 126), none⟩, ⟨some 128, .load false 1 (.tmp 127), none⟩, ⟨some 129, .fieldA 1 (.tmp 4), none⟩, ⟨some 130, .load false 1 (.tmp 129), none⟩, ⟨some 131, .mv (.tmp 26), none⟩, ⟨some 132, .idxA 3 (.tmp 130) (.tmp 131), none⟩, ⟨some 133, .fieldA 2 (.tmp 132), none⟩, ⟨some 134, .load false 1 (.tmp 133), none⟩, ⟨some 135, .mkrow 1997 3 1 2 [.t (.int .i64 0), .t (.int .i64 0)] [(0, (1, .tmp 128)), (1, (1, .tmp 134))], none⟩, ⟨some 136, .append 1998 3 1 8 (.tmp 122) (.tmp 135), none⟩, ⟨some 12, .mv (.tmp 136), none⟩]))) (.region [⟨some 137, .bin .add (.tmp 118) (.c (.one (.t (.int .i64 1)))), none⟩, ⟨some 118, .mv (.tmp 137), none⟩]))))))) (.seq (.region [⟨some 138, .mv (.tmp 12), none⟩, ⟨some 139, .call (.c (.one (.fn 52 []))) 2113 [.tmp 138], none⟩]) (.seq (.region [⟨some 140, .mv (.tmp 13), none⟩, ⟨some 141, .call (.c (.one (.fn 52 []))) 2177 [.tmp 140], none⟩]) (.seq (.region [⟨some 142, .mv (.tmp 12), none⟩, ⟨some 143, .call (.c (.one (.fn 53 []))) 2241 [.tmp 142], none⟩, ⟨some 144, .mv (.tmp 13), none⟩, ⟨some 145, .call (.c (.one (.fn 53 []))) 2243 [.tmp 144], none⟩, ⟨some 146, .build [.nil, .nil] [(0, (1, .tmp 143)), (1, (1, .tmp 145))], none⟩, ⟨some 27, .alloc 2245 27 [.nil, .nil], none⟩, ⟨none, .store 2 (.tmp 27) (.tmp 146), none⟩]) (.seq (.seq (.region [⟨some 147, .fieldA 0 (.tmp 27), none⟩, ⟨some 148, .load false 1 (.tmp 147), none⟩, ⟨some 149, .len (.tmp 148), none⟩, ⟨some 150, .fieldA 4 (.tmp 10), none⟩, ⟨some 151, .fieldA 0 (.tmp 150), none⟩, ⟨some 152, .load false 1 (.tmp 151), none⟩, ⟨some 153, .len (.tmp 152), none⟩, ⟨some 154, .bin .eql (.tmp 149) (.tmp 153), none⟩, ⟨some 155, .mv (.tmp 154), none⟩, ⟨some 156, .fieldA 1 (.tmp 27), some (155, true)⟩, ⟨some 157, .load false 1 (.tmp 156), some (155, true)⟩, ⟨some 158, .len (.tmp 157), some (155, true)⟩, ⟨some 159, .fieldA 4 (.tmp 10), some (155, true)⟩, ⟨some 160, .fieldA 1 (.tmp 159), some (155, true)⟩, ⟨some 161, .load false 1 (.tmp 160), some (155, true)⟩, ⟨some 162, .len (.tmp 161), some (155, true)⟩, ⟨some 163, .bin .eql (.tmp 158) (.tmp 162), some (155, true)⟩, ⟨some 164, .pick (.tmp 155) (.tmp 163) (.c (.one (.t (.bool false)))), none⟩]) (.cond (.tmp 164) (.seq (.region [⟨some 165, .load true 2 (.tmp 27), none⟩, ⟨none, .store 2 (.tmp 8) (.tmp 165), none⟩, ⟨some 9, .mv (.c (.one (.t (.int .i64 0)))), none⟩]) .ret) .skip)) (.region [⟨some 166, .load true 2 (.tmp 27), none⟩, ⟨some 167, .fieldA 4 (.tmp 10), none⟩, ⟨none, .store 2 (.tmp 167) (.tmp 166), none⟩]))))))))))))))))⟩
theorem k_repair : cFn Try.prog Try.f16 = some c_repair := by kernel_rfl
theorem repair_ok (l g : Gr) (p m : Pa) (h : TinyCase l g p m) : CallOK Try.prog 16 [l.v, g.v, p.v, m.v] (.tup [(repR l g p m).1.v, (false, [.int .i64 (repR l g p m).2])]) := by
  refine callOK_W (callS_W (by kernel_rfl) Try.func16 k_repair (callable_of Try.func16 (by kernel_rfl)) (by simp [c_repair]) ?_)
  simp [c_repair, rn0, rn1, rn2, rn3, rn4, rn5, rn6, rn7, evOp, Arg.ev, St.val, St.set, St.new, sliceOf, binInt2, binInt, AV.cells, rdAt, St.live, retOf, resOf, resAll, treeOf, treeCell, treeCells, treeTups, untree, frameOf, TV.av, TR.av, ints, edgs, prs, fillV, splice, intsOf, trees, V1.tree, bx, Gr.v, Pa.v]
  refine callS_tree (given_ok l g p m h) ?_ ?_ ?_
  · rfl
  · rfl
  by_cases h1 : caseErr l g p m = 0
  case neg =>
    have e : repR l g p m = (⟨[], []⟩, caseErr l g p m) := by simp [repR, h1]
    simp [rn0, rn1, rn2, rn3, rn4, rn5, rn6, rn7, evOp, Arg.ev, St.val, St.set, St.new, sliceOf, binInt2, binInt, AV.cells, rdAt, St.live, retOf, resOf, resAll, treeOf, treeCell, treeCells, treeTups, untree, frameOf, TV.av, TR.av, ints, edgs, prs, fillV, splice, intsOf, trees, V1.tree, bx, Gr.v, Pa.v, h1, e]
  obtain ⟨mo, so⟩ := caseErr_ok h1
  have hp := partOk_of so
  have e : repR l g p m = (repN l g m (l.nodes.length + l.edges.length + 1) p, 0) := by simp [repR, h1]
  rw [e]
  have hR := rep_start (g := g) (m := m) hp
  generalize repN l g m (l.nodes.length + l.edges.length + 1) p = R at hR ⊢
  have b1 := mo.ga.n
  have b2 := mo.ga.e
  have b3 := mo.gb.n
  have b4 := mo.gb.e
  have b5 := mo.ln
  have b6 := mo.le
  simp [rn0, rn1, rn2, rn3, rn4, rn5, rn6, rn7, evOp, Arg.ev, St.val, St.set, St.new, sliceOf, binInt2, binInt, AV.cells, rdAt, St.live, retOf, resOf, resAll, treeOf, treeCell, treeCells, treeTups, untree, frameOf, TV.av, TR.av, ints, edgs, prs, fillV, splice, intsOf, trees, V1.tree, bx, Gr.v, Pa.v, h1]
  refine loopW_intro (fun S => ∃ q, RepS l g m q S ∧ RepAt l g m R q) (repMu l) ⟨p, by simp [RepS, rn0, rn1, rn2, rn3, rn4, rn5, rn6, rn7, evOp, Arg.ev, St.val, St.set, St.new, sliceOf, binInt2, binInt, AV.cells, rdAt, St.live, retOf, resOf, resAll, treeOf, treeCell, treeCells, treeTups, untree, frameOf, TV.av, TR.av, ints, edgs, prs, fillV, splice, intsOf, trees, V1.tree, bx, Gr.v, Pa.v, gluV], hR⟩ ?_
  rintro S ⟨q, ⟨f4, f5, f7, f8, f10, o0, o1, o3, o4, o69⟩, hq⟩
  have hμ : repMu l S = gap l q := by simp [repMu, o69, bx, ints, gap]
  rw [hμ]
  have c1 := hq.1.len
  have c2 := pairs_few (l := m.nodes) (k := q.nodes) (n := 40) (by omega)
  have c3 := pairs_few (l := m.edges) (k := q.edges) (n := 80) (by omega)
  have c4 := dangl_few (g := g) (p := q) (m := m)
  simp [rn0, rn1, rn2, rn3, rn4, rn5, rn6, rn7, evOp, Arg.ev, St.val, St.set, St.new, sliceOf, binInt2, binInt, AV.cells, rdAt, St.live, retOf, resOf, resAll, treeOf, treeCell, treeCells, treeTups, untree, frameOf, TV.av, TR.av, ints, edgs, prs, fillV, splice, intsOf, trees, V1.tree, bx, Gr.v, Pa.v, dw0, dw1, dw2, dw3, opRd, opWr, opNew, opNewR, opArgs, argsRd, argRd, Arg.rd, AV.refs, V1.refs, refsL, dstL, gluV, f4, f5, f7, f8, f10, o0, o1, o3, o4, o69]
  refine dCall_rowL (clone_row q.nodes (by simp only [tiny]; omega)) ?_ fun E hE hob hcnt => ?_
  · rfl
  simp [rn0, rn1, rn2, rn3, rn4, rn5, rn6, rn7, evOp, Arg.ev, St.val, St.set, St.new, sliceOf, binInt2, binInt, AV.cells, rdAt, St.live, retOf, resOf, resAll, treeOf, treeCell, treeCells, treeTups, untree, frameOf, TV.av, TR.av, ints, edgs, prs, fillV, splice, intsOf, trees, V1.tree, bx, Gr.v, Pa.v, dw0, dw1, dw2, dw3, opRd, opWr, opNew, opNewR, opArgs, argsRd, argRd, Arg.rd, AV.refs, V1.refs, refsL, dstL, gluV, f4, f5, f7, f8, f10, o0, o1, o3, o4, o69, hob]
  refine dCall_rowL (clone_row q.edges (by simp only [tiny]; omega)) ?_ fun E' hE' hob' hcnt' => ?_
  · rfl
  simp [rn0, rn1, rn2, rn3, rn4, rn5, rn6, rn7, evOp, Arg.ev, St.val, St.set, St.new, sliceOf, binInt2, binInt, AV.cells, rdAt, St.live, retOf, resOf, resAll, treeOf, treeCell, treeCells, treeTups, untree, frameOf, TV.av, TR.av, ints, edgs, prs, fillV, splice, intsOf, trees, V1.tree, bx, Gr.v, Pa.v, dw0, dw1, dw2, dw3, opRd, opWr, opNew, opNewR, opArgs, argsRd, argRd, Arg.rd, AV.refs, V1.refs, refsL, dstL, gluV, f4, f5, f7, f8, f10, o0, o1, o3, o4, o69, hob, hob']
  refine ⟨rfl, ?_⟩
  have hN := (hE.keep (ob' := E'.ob) (fun nm hm g => by simp at hm; subst hm; exact hob' _ _ (by decide))).wide (nms' := nmN) (by simp [nmN])
  have hM := hE'.wide (nms' := nmE) (by simp [nmE])
  refine callS_tree (identified_ok l g q m (by omega) (by omega) ⟨by simp only [tiny]; omega, by simp only [tiny]; omega⟩) ?_ ?_ ?_
  · rfl
  · rfl
  simp [rn0, rn1, rn2, rn3, rn4, rn5, rn6, rn7, evOp, Arg.ev, St.val, St.set, St.new, sliceOf, binInt2, binInt, AV.cells, rdAt, St.live, retOf, resOf, resAll, treeOf, treeCell, treeCells, treeTups, untree, frameOf, TV.av, TR.av, ints, edgs, prs, fillV, splice, intsOf, trees, V1.tree, bx, Gr.v, Pa.v, gluV, f4, f5, f7, f8, f10, o0, o1, o3, o4, o69, hob, hob']
  refine loopW_count 54 (pairsL m.nodes q.nodes).length (fun k S => RepS l g m q S ∧ S.fr 15 = .one (.t (prs (pairsL m.edges q.edges))) ∧ S.fr 52 = .one (.t (prs (pairsL m.nodes q.nodes))) ∧ S.fr 53 = .one (.t (.int .i64 (pairsL m.nodes q.nodes).length)) ∧
    outL nmN 3 1 (q.nodes ++ flatP ((pairsL m.nodes q.nodes).take k)).length ((q.nodes ++ flatP ((pairsL m.nodes q.nodes).take k)).map (.int .i64)) S.ob (S.fr 12) ∧ outL nmE 3 1 q.edges.length (q.edges.map (.int .i64)) S.ob (S.fr 13)) (by omega) ?_ ?_ ?_
  · simp [RepS, rn0, rn1, rn2, rn3, rn4, rn5, rn6, rn7, evOp, Arg.ev, St.val, St.set, St.new, sliceOf, binInt2, binInt, AV.cells, rdAt, St.live, retOf, resOf, resAll, treeOf, treeCell, treeCells, treeTups, untree, frameOf, TV.av, TR.av, ints, edgs, prs, fillV, splice, intsOf, trees, V1.tree, bx, Gr.v, Pa.v, gluV, f4, f5, f7, f8, f10, o0, o1, o3, o4, o69, hob, hob', hcnt, hcnt', flatP]
    exact ⟨hN, hM⟩
  · rintro k S hlt hw hc ⟨⟨f4, f5, f7, f8, f10, o0, o1, o3, o4, o69⟩, f15, f52, f53, hN, hM⟩
    have hlt2 : k * 2 < (pairsL m.nodes q.nodes).length * 2 := by omega
    have z1 := flatP_len (P := (pairsL m.nodes q.nodes).take k)
    rw [List.length_take] at z1
    simp [rn0, rn1, rn2, rn3, rn4, rn5, rn6, rn7, evOp, Arg.ev, St.val, St.set, St.new, sliceOf, binInt2, binInt, AV.cells, rdAt, St.live, retOf, resOf, resAll, treeOf, treeCell, treeCells, treeTups, untree, frameOf, TV.av, TR.av, ints, edgs, prs, fillV, splice, intsOf, trees, V1.tree, bx, Gr.v, Pa.v, f4, f5, f7, f8, f10, f15, f52, f53, o0, o1, o3, o4, o69, hc, hlt, hlt2, drop_prL hlt]
    refine kApp_growL (nms := nmN) (ts := [.int .i64 (pth (pairsL m.nodes q.nodes) k).1, .int .i64 (pth (pairsL m.nodes q.nodes) k).2]) (by simp [nmN]) rfl (hN.keep fun nm hm g => by simp [nmN] at hm; rcases hm with rfl | rfl | rfl | rfl <;> simp [rn0, rn1, rn2, rn3, rn4, rn5, rn6, rn7, evOp, Arg.ev, St.val, St.set, St.new, sliceOf, binInt2, binInt, AV.cells, rdAt, St.live, retOf, resOf, resAll, treeOf, treeCell, treeCells, treeTups, untree, frameOf, TV.av, TR.av, ints, edgs, prs, fillV, splice, intsOf, trees, V1.tree, bx, Gr.v, Pa.v]) rfl (by simp [z1]; omega) (by simp [z1]; omega) fun E hE hob hcnt => ?_
    have hM2 := hM.keep (ob' := E.ob) fun nm hm g => by
      rw [hob _ _ (by simp [nmE] at hm; rcases hm with rfl | rfl <;> simp [nmN])]
      simp [nmE] at hm
      rcases hm with rfl | rfl <;> simp [rn0, rn1, rn2, rn3, rn4, rn5, rn6, rn7, evOp, Arg.ev, St.val, St.set, St.new, sliceOf, binInt2, binInt, AV.cells, rdAt, St.live, retOf, resOf, resAll, treeOf, treeCell, treeCells, treeTups, untree, frameOf, TV.av, TR.av, ints, edgs, prs, fillV, splice, intsOf, trees, V1.tree, bx, Gr.v, Pa.v]
    simp [RepS, nmN, rn0, rn1, rn2, rn3, rn4, rn5, rn6, rn7, evOp, Arg.ev, St.val, St.set, St.new, sliceOf, binInt2, binInt, AV.cells, rdAt, St.live, retOf, resOf, resAll, treeOf, treeCell, treeCells, treeTups, untree, frameOf, TV.av, TR.av, ints, edgs, prs, fillV, splice, intsOf, trees, V1.tree, bx, Gr.v, Pa.v, f4, f5, f7, f8, f10, f15, f52, f53, o0, o1, o3, o4, o69, hc, hw, hob, flatP_take hlt]
    exact ⟨by simpa [nmN, Nat.add_assoc] using hE, hM2⟩
  · rintro S hc ⟨⟨f4, f5, f7, f8, f10, o0, o1, o3, o4, o69⟩, f15, f52, f53, hN, hM⟩
    rw [List.take_length] at hN
    simp [rn0, rn1, rn2, rn3, rn4, rn5, rn6, rn7, evOp, Arg.ev, St.val, St.set, St.new, sliceOf, binInt2, binInt, AV.cells, rdAt, St.live, retOf, resOf, resAll, treeOf, treeCell, treeCells, treeTups, untree, frameOf, TV.av, TR.av, ints, edgs, prs, fillV, splice, intsOf, trees, V1.tree, bx, Gr.v, Pa.v, f4, f5, f7, f8, f10, f15, f52, f53, o0, o1, o3, o4, o69, hc]
    refine loopW_count 68 (pairsL m.edges q.edges).length (fun k S => RepS l g m q S ∧ S.fr 66 = .one (.t (prs (pairsL m.edges q.edges))) ∧ S.fr 67 = .one (.t (.int .i64 (pairsL m.edges q.edges).length)) ∧
      outL nmN 3 1 (q.nodes ++ flatP (pairsL m.nodes q.nodes)).length ((q.nodes ++ flatP (pairsL m.nodes q.nodes)).map (.int .i64)) S.ob (S.fr 12) ∧ outL nmE 3 1 (q.edges ++ flatP ((pairsL m.edges q.edges).take k)).length ((q.edges ++ flatP ((pairsL m.edges q.edges).take k)).map (.int .i64)) S.ob (S.fr 13)) (by omega) ?_ ?_ ?_
    · simp [RepS, rn0, rn1, rn2, rn3, rn4, rn5, rn6, rn7, evOp, Arg.ev, St.val, St.set, St.new, sliceOf, binInt2, binInt, AV.cells, rdAt, St.live, retOf, resOf, resAll, treeOf, treeCell, treeCells, treeTups, untree, frameOf, TV.av, TR.av, ints, edgs, prs, fillV, splice, intsOf, trees, V1.tree, bx, Gr.v, Pa.v, f4, f5, f7, f8, f10, f15, o0, o1, o3, o4, o69]
      exact ⟨by simpa using hN, by simpa [flatP] using hM⟩
    · rintro k S hlt hw hc ⟨⟨f4, f5, f7, f8, f10, o0, o1, o3, o4, o69⟩, f66, f67, hN, hM⟩
      have hlt2 : k * 2 < (pairsL m.edges q.edges).length * 2 := by omega
      have z1 := flatP_len (P := (pairsL m.edges q.edges).take k)
      rw [List.length_take] at z1
      simp [rn0, rn1, rn2, rn3, rn4, rn5, rn6, rn7, evOp, Arg.ev, St.val, St.set, St.new, sliceOf, binInt2, binInt, AV.cells, rdAt, St.live, retOf, resOf, resAll, treeOf, treeCell, treeCells, treeTups, untree, frameOf, TV.av, TR.av, ints, edgs, prs, fillV, splice, intsOf, trees, V1.tree, bx, Gr.v, Pa.v, f4, f5, f7, f8, f10, f66, f67, o0, o1, o3, o4, o69, hc, hlt, hlt2, drop_prL hlt]
      refine kApp_growL (nms := nmE) (ts := [.int .i64 (pth (pairsL m.edges q.edges) k).1, .int .i64 (pth (pairsL m.edges q.edges) k).2]) (by simp [nmE]) rfl (hM.keep fun nm hm g => by simp [nmE] at hm; rcases hm with rfl | rfl <;> simp [rn0, rn1, rn2, rn3, rn4, rn5, rn6, rn7, evOp, Arg.ev, St.val, St.set, St.new, sliceOf, binInt2, binInt, AV.cells, rdAt, St.live, retOf, resOf, resAll, treeOf, treeCell, treeCells, treeTups, untree, frameOf, TV.av, TR.av, ints, edgs, prs, fillV, splice, intsOf, trees, V1.tree, bx, Gr.v, Pa.v]) rfl (by simp [z1]; omega) (by simp [z1]; omega) fun E hE hob hcnt => ?_
      have hN2 := hN.keep (ob' := E.ob) fun nm hm g => by
        rw [hob _ _ (by simp [nmN] at hm; rcases hm with rfl | rfl | rfl | rfl <;> simp [nmE])]
        simp [nmN] at hm
        rcases hm with rfl | rfl | rfl | rfl <;> simp [rn0, rn1, rn2, rn3, rn4, rn5, rn6, rn7, evOp, Arg.ev, St.val, St.set, St.new, sliceOf, binInt2, binInt, AV.cells, rdAt, St.live, retOf, resOf, resAll, treeOf, treeCell, treeCells, treeTups, untree, frameOf, TV.av, TR.av, ints, edgs, prs, fillV, splice, intsOf, trees, V1.tree, bx, Gr.v, Pa.v]
      simp [RepS, nmE, rn0, rn1, rn2, rn3, rn4, rn5, rn6, rn7, evOp, Arg.ev, St.val, St.set, St.new, sliceOf, binInt2, binInt, AV.cells, rdAt, St.live, retOf, resOf, resAll, treeOf, treeCell, treeCells, treeTups, untree, frameOf, TV.av, TR.av, ints, edgs, prs, fillV, splice, intsOf, trees, V1.tree, bx, Gr.v, Pa.v, f4, f5, f7, f8, f10, f66, f67, o0, o1, o3, o4, o69, hc, hw, hob, flatP_take hlt]
      exact ⟨by simpa using hN2, by simpa [nmE, Nat.add_assoc] using hE⟩
    · rintro S hc ⟨⟨f4, f5, f7, f8, f10, o0, o1, o3, o4, o69⟩, f66, f67, hN, hM⟩
      rw [List.take_length] at hM
      simp [rn0, rn1, rn2, rn3, rn4, rn5, rn6, rn7, evOp, Arg.ev, St.val, St.set, St.new, sliceOf, binInt2, binInt, AV.cells, rdAt, St.live, retOf, resOf, resAll, treeOf, treeCell, treeCells, treeTups, untree, frameOf, TV.av, TR.av, ints, edgs, prs, fillV, splice, intsOf, trees, V1.tree, bx, Gr.v, Pa.v, f4, f5, f7, f8, f10, f66, f67, o0, o1, o3, o4, o69, hc]
      refine callS_tree (dangling_row l g q m h.tg h.tm ⟨by simp only [tiny]; omega, by simp only [tiny]; omega⟩).ok ?_ ?_ ?_
      · rfl
      · rfl
      simp [rn0, rn1, rn2, rn3, rn4, rn5, rn6, rn7, evOp, Arg.ev, St.val, St.set, St.new, sliceOf, binInt2, binInt, AV.cells, rdAt, St.live, retOf, resOf, resAll, treeOf, treeCell, treeCells, treeTups, untree, frameOf, TV.av, TR.av, ints, edgs, prs, fillV, splice, intsOf, trees, V1.tree, bx, Gr.v, Pa.v, f4, f5, f7, f8, f10, o0, o1, o3, o4, o69]
      refine loopW_count 83 (danglL g q m).length (fun k S => RepS l g m q S ∧ S.fr 81 = .one (.t (ints (danglL g q m))) ∧ S.fr 82 = .one (.t (.int .i64 (danglL g q m).length)) ∧
        outL nmN 3 1 (q.nodes ++ flatP (pairsL m.nodes q.nodes) ++ looseT g m (danglL g q m) k).length ((q.nodes ++ flatP (pairsL m.nodes q.nodes) ++ looseT g m (danglL g q m) k).map (.int .i64)) S.ob (S.fr 12) ∧
        outL nmE 3 1 (edgesS q m).length ((edgesS q m).map (.int .i64)) S.ob (S.fr 13)) (by omega) ?_ ?_ ?_
      · simp [RepS, rn0, rn1, rn2, rn3, rn4, rn5, rn6, rn7, evOp, Arg.ev, St.val, St.set, St.new, sliceOf, binInt2, binInt, AV.cells, rdAt, St.live, retOf, resOf, resAll, treeOf, treeCell, treeCells, treeTups, untree, frameOf, TV.av, TR.av, ints, edgs, prs, fillV, splice, intsOf, trees, V1.tree, bx, Gr.v, Pa.v, f4, f5, f7, f8, f10, o0, o1, o3, o4, o69]
        exact ⟨by simpa [looseT] using hN, by simpa [edgesS] using hM⟩
      · rintro k S hlt hw hc ⟨⟨f4, f5, f7, f8, f10, o0, o1, o3, o4, o69⟩, f81, f82, hN, hM⟩
        obtain ⟨y1, y2⟩ := dangl_in _ (nth_mem hlt)
        obtain ⟨x, hx⟩ := Int.eq_ofNat_of_zero_le y1
        have hx2 : x < g.edges.length := by omega
        have hx3 : x * 3 < g.edges.length * 3 := by omega
        have z1 := flatP_len (P := pairsL m.nodes q.nodes)
        have z2 := looseT_len (g := g) (m := m) (D := danglL g q m) k
        have z3 : k * m.nodes.length ≤ 80 * 40 := Nat.mul_le_mul (by omega) (by omega)
        simp [rn0, rn1, rn2, rn3, rn4, rn5, rn6, rn7, evOp, Arg.ev, St.val, St.set, St.new, sliceOf, binInt2, binInt, AV.cells, rdAt, St.live, retOf, resOf, resAll, treeOf, treeCell, treeCells, treeTups, untree, frameOf, TV.av, TR.av, ints, edgs, prs, fillV, splice, intsOf, trees, V1.tree, bx, Gr.v, Pa.v, f4, f5, f7, f8, f10, f81, f82, o0, o1, o3, o4, o69, hc, hlt, drop_nth hlt, hx, hx2, hx3, drop_edL hx2]
        refine loopW_count 95 m.nodes.length (fun j S' => RepS l g m q S' ∧ S'.fr 81 = .one (.t (ints (danglL g q m))) ∧ S'.fr 82 = .one (.t (.int .i64 (danglL g q m).length)) ∧ S'.fr 83 = .one (.t (.int .i64 k)) ∧
          S'.fr 93 = .one (.t (ints m.nodes)) ∧ S'.fr 94 = .one (.t (.int .i64 m.nodes.length)) ∧ S'.fr 22 = .one (.ptr (1285, S.cnt 1285) 0) ∧ S'.ob (1285, S.cnt 1285) = some (bx 73 [.t (.int .i64 (eth g.edges x).t), .t (.int .i64 (eth g.edges x).f), .t (.int .i64 (eth g.edges x).g)]) ∧
          outL nmN 3 1 (q.nodes ++ flatP (pairsL m.nodes q.nodes) ++ looseT g m (danglL g q m) k ++ collect (touchF m (eth g.edges x)) j).length ((q.nodes ++ flatP (pairsL m.nodes q.nodes) ++ looseT g m (danglL g q m) k ++ collect (touchF m (eth g.edges x)) j).map (.int .i64)) S'.ob (S'.fr 12) ∧
          outL nmE 3 1 (edgesS q m).length ((edgesS q m).map (.int .i64)) S'.ob (S'.fr 13)) (by omega) ?_ ?_ ?_
        · simp [RepS, rn0, rn1, rn2, rn3, rn4, rn5, rn6, rn7, evOp, Arg.ev, St.val, St.set, St.new, sliceOf, binInt2, binInt, AV.cells, rdAt, St.live, retOf, resOf, resAll, treeOf, treeCell, treeCells, treeTups, untree, frameOf, TV.av, TR.av, ints, edgs, prs, fillV, splice, intsOf, trees, V1.tree, bx, Gr.v, Pa.v, f4, f5, f7, f8, f10, f81, f82, o0, o1, o3, o4, o69, hc, collect_zero]
          simp at hN
          exact ⟨hN.keep fun nm hm g => by simp [nmN] at hm; rcases hm with rfl | rfl | rfl | rfl <;> simp [rn0, rn1, rn2, rn3, rn4, rn5, rn6, rn7, evOp, Arg.ev, St.val, St.set, St.new, sliceOf, binInt2, binInt, AV.cells, rdAt, St.live, retOf, resOf, resAll, treeOf, treeCell, treeCells, treeTups, untree, frameOf, TV.av, TR.av, ints, edgs, prs, fillV, splice, intsOf, trees, V1.tree, bx, Gr.v, Pa.v], hM.keep fun nm hm g => by simp [nmE] at hm; rcases hm with rfl | rfl <;> simp [rn0, rn1, rn2, rn3, rn4, rn5, rn6, rn7, evOp, Arg.ev, St.val, St.set, St.new, sliceOf, binInt2, binInt, AV.cells, rdAt, St.live, retOf, resOf, resAll, treeOf, treeCell, treeCells, treeTups, untree, frameOf, TV.av, TR.av, ints, edgs, prs, fillV, splice, intsOf, trees, V1.tree, bx, Gr.v, Pa.v]⟩
        · rintro j S' hlt' hw' hc' ⟨⟨f4, f5, f7, f8, f10, o0, o1, o3, o4, o69⟩, f81, f82, f83, f93, f94, f22, oe, hN, hM⟩
          have z4 := collect_len (f := touchF m (eth g.edges x)) (k := j)
          have hlen : (q.nodes ++ flatP (pairsL m.nodes q.nodes) ++ looseT g m (danglL g q m) k ++ collect (touchF m (eth g.edges x)) j).length ≤ 100000 := by simp; omega
          by_cases e1 : nth m.nodes j = (eth g.edges x).f
          · have e : touchF m (eth g.edges x) j = some (j : Int) := by simp [touchF, e1]
            simp [rn0, rn1, rn2, rn3, rn4, rn5, rn6, rn7, evOp, Arg.ev, St.val, St.set, St.new, sliceOf, binInt2, binInt, AV.cells, rdAt, St.live, retOf, resOf, resAll, treeOf, treeCell, treeCells, treeTups, untree, frameOf, TV.av, TR.av, ints, edgs, prs, fillV, splice, intsOf, trees, V1.tree, bx, Gr.v, Pa.v, f4, f5, f7, f8, f10, f81, f82, f83, f93, f94, f22, oe, o0, o1, o3, o4, o69, hc', hlt', drop_nth hlt', e1]
            refine kApp_growL (nms := nmN) (ts := [.int .i64 j]) (by simp [nmN]) rfl (hN.keep fun nm hm g => by simp [nmN] at hm; rcases hm with rfl | rfl | rfl | rfl <;> simp [rn0, rn1, rn2, rn3, rn4, rn5, rn6, rn7, evOp, Arg.ev, St.val, St.set, St.new, sliceOf, binInt2, binInt, AV.cells, rdAt, St.live, retOf, resOf, resAll, treeOf, treeCell, treeCells, treeTups, untree, frameOf, TV.av, TR.av, ints, edgs, prs, fillV, splice, intsOf, trees, V1.tree, bx, Gr.v, Pa.v]) rfl (by omega) (by omega) fun E hE hob hcnt => ?_
            have hM2 := hM.keep (ob' := E.ob) fun nm hm g => by
              rw [hob _ _ (by simp [nmE] at hm; rcases hm with rfl | rfl <;> simp [nmN])]
              simp [nmE] at hm
              rcases hm with rfl | rfl <;> simp [rn0, rn1, rn2, rn3, rn4, rn5, rn6, rn7, evOp, Arg.ev, St.val, St.set, St.new, sliceOf, binInt2, binInt, AV.cells, rdAt, St.live, retOf, resOf, resAll, treeOf, treeCell, treeCells, treeTups, untree, frameOf, TV.av, TR.av, ints, edgs, prs, fillV, splice, intsOf, trees, V1.tree, bx, Gr.v, Pa.v]
            simp [RepS, nmN, rn0, rn1, rn2, rn3, rn4, rn5, rn6, rn7, evOp, Arg.ev, St.val, St.set, St.new, sliceOf, binInt2, binInt, AV.cells, rdAt, St.live, retOf, resOf, resAll, treeOf, treeCell, treeCells, treeTups, untree, frameOf, TV.av, TR.av, ints, edgs, prs, fillV, splice, intsOf, trees, V1.tree, bx, Gr.v, Pa.v, f4, f5, f7, f8, f10, f81, f82, f83, f93, f94, f22, oe, o0, o1, o3, o4, o69, hc', hw', hob, collect_some e]
            exact ⟨by simpa [nmN, Nat.add_assoc] using hE, hM2⟩
          by_cases e2 : nth m.nodes j = (eth g.edges x).g
          · have e : touchF m (eth g.edges x) j = some (j : Int) := by simp [touchF, e2]
            have e1' : ¬ (eth g.edges x).g = (eth g.edges x).f := fun h => e1 (by rw [e2, h])
            simp [rn0, rn1, rn2, rn3, rn4, rn5, rn6, rn7, evOp, Arg.ev, St.val, St.set, St.new, sliceOf, binInt2, binInt, AV.cells, rdAt, St.live, retOf, resOf, resAll, treeOf, treeCell, treeCells, treeTups, untree, frameOf, TV.av, TR.av, ints, edgs, prs, fillV, splice, intsOf, trees, V1.tree, bx, Gr.v, Pa.v, f4, f5, f7, f8, f10, f81, f82, f83, f93, f94, f22, oe, o0, o1, o3, o4, o69, hc', hlt', drop_nth hlt', e1, e2, e1']
            refine kApp_growL (nms := nmN) (ts := [.int .i64 j]) (by simp [nmN]) rfl (hN.keep fun nm hm g => by simp [nmN] at hm; rcases hm with rfl | rfl | rfl | rfl <;> simp [rn0, rn1, rn2, rn3, rn4, rn5, rn6, rn7, evOp, Arg.ev, St.val, St.set, St.new, sliceOf, binInt2, binInt, AV.cells, rdAt, St.live, retOf, resOf, resAll, treeOf, treeCell, treeCells, treeTups, untree, frameOf, TV.av, TR.av, ints, edgs, prs, fillV, splice, intsOf, trees, V1.tree, bx, Gr.v, Pa.v]) rfl (by omega) (by omega) fun E hE hob hcnt => ?_
            have hM2 := hM.keep (ob' := E.ob) fun nm hm g => by
              rw [hob _ _ (by simp [nmE] at hm; rcases hm with rfl | rfl <;> simp [nmN])]
              simp [nmE] at hm
              rcases hm with rfl | rfl <;> simp [rn0, rn1, rn2, rn3, rn4, rn5, rn6, rn7, evOp, Arg.ev, St.val, St.set, St.new, sliceOf, binInt2, binInt, AV.cells, rdAt, St.live, retOf, resOf, resAll, treeOf, treeCell, treeCells, treeTups, untree, frameOf, TV.av, TR.av, ints, edgs, prs, fillV, splice, intsOf, trees, V1.tree, bx, Gr.v, Pa.v]
            simp [RepS, nmN, rn0, rn1, rn2, rn3, rn4, rn5, rn6, rn7, evOp, Arg.ev, St.val, St.set, St.new, sliceOf, binInt2, binInt, AV.cells, rdAt, St.live, retOf, resOf, resAll, treeOf, treeCell, treeCells, treeTups, untree, frameOf, TV.av, TR.av, ints, edgs, prs, fillV, splice, intsOf, trees, V1.tree, bx, Gr.v, Pa.v, f4, f5, f7, f8, f10, f81, f82, f83, f93, f94, f22, oe, o0, o1, o3, o4, o69, hc', hw', hob, collect_some e]
            exact ⟨by simpa [nmN, Nat.add_assoc] using hE, hM2⟩
          · have e : touchF m (eth g.edges x) j = none := by simp [touchF, e1, e2]
            simp [RepS, rn0, rn1, rn2, rn3, rn4, rn5, rn6, rn7, evOp, Arg.ev, St.val, St.set, St.new, sliceOf, binInt2, binInt, AV.cells, rdAt, St.live, retOf, resOf, resAll, treeOf, treeCell, treeCells, treeTups, untree, frameOf, TV.av, TR.av, ints, edgs, prs, fillV, splice, intsOf, trees, V1.tree, bx, Gr.v, Pa.v, f4, f5, f7, f8, f10, f81, f82, f83, f93, f94, f22, oe, o0, o1, o3, o4, o69, hc', hlt', hw', drop_nth hlt', e1, e2, collect_none e]
            simp at hN
            exact ⟨hN, hM⟩
        · rintro S' hc' ⟨⟨f4, f5, f7, f8, f10, o0, o1, o3, o4, o69⟩, f81, f82, f83, f93, f94, f22, oe, hN, hM⟩
          simp [RepS, rn0, rn1, rn2, rn3, rn4, rn5, rn6, rn7, evOp, Arg.ev, St.val, St.set, St.new, sliceOf, binInt2, binInt, AV.cells, rdAt, St.live, retOf, resOf, resAll, treeOf, treeCell, treeCells, treeTups, untree, frameOf, TV.av, TR.av, ints, edgs, prs, fillV, splice, intsOf, trees, V1.tree, bx, Gr.v, Pa.v, f4, f5, f7, f8, f10, f81, f82, f83, f93, f94, f22, o0, o1, o3, o4, o69, hc', hw, looseT_succ hlt, hx, touchL]
          simp at hN
          exact ⟨hN, hM⟩
      · rintro S hc ⟨⟨f4, f5, f7, f8, f10, o0, o1, o3, o4, o69⟩, f81, f82, hN, hM⟩
        rw [looseT_all] at hN
        have hs := hM.slice
        have z0 : (edgesS q m).length ≤ 20000 := by
          have z1 := flatP_len (P := pairsL m.edges q.edges)
          simp only [edgesS, List.length_append]
          omega
        simp [rn0, rn1, rn2, rn3, rn4, rn5, rn6, rn7, evOp, Arg.ev, St.val, St.set, St.new, sliceOf, binInt2, binInt, AV.cells, rdAt, St.live, retOf, resOf, resAll, treeOf, treeCell, treeCells, treeTups, untree, frameOf, TV.av, TR.av, ints, edgs, prs, fillV, splice, intsOf, trees, V1.tree, bx, Gr.v, Pa.v, f4, f5, f7, f8, f10, f81, f82, o0, o1, o3, o4, o69, hc, hs, -sliceOf]
        refine loopW_count 118 (edgesS q m).length (fun k S => RepS l g m q S ∧ S.fr 116 = S.fr 13 ∧ S.fr 117 = .one (.t (.int .i64 (edgesS q m).length)) ∧
          outL nmN 3 1 (nodesS g q m ++ endsT l (edgesS q m) k).length ((nodesS g q m ++ endsT l (edgesS q m) k).map (.int .i64)) S.ob (S.fr 12) ∧
          outL nmE 3 1 (edgesS q m).length ((edgesS q m).map (.int .i64)) S.ob (S.fr 13)) (by omega) ?_ ?_ ?_
        · simp [RepS, rn0, rn1, rn2, rn3, rn4, rn5, rn6, rn7, evOp, Arg.ev, St.val, St.set, St.new, sliceOf, binInt2, binInt, AV.cells, rdAt, St.live, retOf, resOf, resAll, treeOf, treeCell, treeCells, treeTups, untree, frameOf, TV.av, TR.av, ints, edgs, prs, fillV, splice, intsOf, trees, V1.tree, bx, Gr.v, Pa.v, f4, f5, f7, f8, f10, o0, o1, o3, o4, o69]
          exact ⟨by simpa [endsT, nodesS] using hN, by simpa using hM⟩
        · rintro k S hlt hw hc ⟨⟨f4, f5, f7, f8, f10, o0, o1, o3, o4, o69⟩, f116, f117, hN, hM⟩
          obtain ⟨y1, y2⟩ := edgesS_in hq.1 (by omega) _ (nth_mem hlt)
          obtain ⟨x, hx⟩ := Int.eq_ofNat_of_zero_le y1
          have hx2 : x < l.edges.length := by omega
          have hx3 : x * 3 < l.edges.length * 3 := by omega
          have z2 := endsT_len (l := l) (E := edgesS q m) k
          have z3 : (nodesS g q m ++ endsT l (edgesS q m) k).length ≤ 100000 := by
            have z1 := flatP_len (P := pairsL m.nodes q.nodes)
            have z4 := looseT_len (g := g) (m := m) (D := danglL g q m) (danglL g q m).length
            have z5 : (danglL g q m).length * m.nodes.length ≤ 80 * 40 := Nat.mul_le_mul (by omega) (by omega)
            rw [looseT_all] at z4
            simp only [nodesS, List.length_append]
            omega
          have hM0 := hM
          rcases hM with ⟨hz, _, _⟩ | ⟨hpos, nm, hnm, gg, hv, ho⟩
          · omega
          have hv2 := f116.trans hv
          simp [nmE] at hnm
          have hlt1 : k + 1 ≤ (edgesS q m).length := hlt
          have hN0 := hN
          rcases hN with ⟨nz, _, nv⟩ | ⟨npos, nm', hnm', g', nv, no⟩
          · have no : True := trivial
            rcases hnm with rfl | rfl <;> (
                simp [rn0, rn1, rn2, rn3, rn4, rn5, rn6, rn7, evOp, Arg.ev, St.val, St.set, St.new, sliceOf, binInt2, binInt, AV.cells, rdAt, St.live, retOf, resOf, resAll, treeOf, treeCell, treeCells, treeTups, untree, frameOf, TV.av, TR.av, ints, edgs, prs, fillV, splice, intsOf, trees, V1.tree, bx, Gr.v, Pa.v, dw0, dw1, dw2, dw3, opRd, opWr, opNew, opNewR, opArgs, argsRd, argRd, Arg.rd, AV.refs, V1.refs, refsL, dstL, f4, f5, f7, f8, f10, f117, hv2, ho, nv, no, o0, o1, o3, o4, o69, hc, hlt, hlt1, drop_nthV hlt, hx, hx2, hx3, drop_edL hx2]
                refine kApp_growL (nms := nmN) (ts := [.int .i64 (eth l.edges x).f, .int .i64 (eth l.edges x).g]) (by simp [nmN]) rfl (by rw [← nv]; exact hN0.keep fun nm hm g => by simp [nmN] at hm; rcases hm with rfl | rfl | rfl | rfl <;> simp [rn0, rn1, rn2, rn3, rn4, rn5, rn6, rn7, evOp, Arg.ev, St.val, St.set, St.new, sliceOf, binInt2, binInt, AV.cells, rdAt, St.live, retOf, resOf, resAll, treeOf, treeCell, treeCells, treeTups, untree, frameOf, TV.av, TR.av, ints, edgs, prs, fillV, splice, intsOf, trees, V1.tree, bx, Gr.v, Pa.v]) rfl (by simp only [List.length_append] at *; omega) (by simp only [List.length_append] at *; omega) fun E hE hob hcnt => ?_
                have hM2 := hM0.keep (ob' := E.ob) fun nm hm g => by
                  rw [hob _ _ (by simp [nmE] at hm; rcases hm with rfl | rfl <;> simp [nmN])]
                  simp [nmE] at hm
                  rcases hm with rfl | rfl <;> simp [rn0, rn1, rn2, rn3, rn4, rn5, rn6, rn7, evOp, Arg.ev, St.val, St.set, St.new, sliceOf, binInt2, binInt, AV.cells, rdAt, St.live, retOf, resOf, resAll, treeOf, treeCell, treeCells, treeTups, untree, frameOf, TV.av, TR.av, ints, edgs, prs, fillV, splice, intsOf, trees, V1.tree, bx, Gr.v, Pa.v]
                simp [rn0, rn1, rn2, rn3, rn4, rn5, rn6, rn7, evOp, Arg.ev, St.val, St.set, St.new, sliceOf, binInt2, binInt, AV.cells, rdAt, St.live, retOf, resOf, resAll, treeOf, treeCell, treeCells, treeTups, untree, frameOf, TV.av, TR.av, ints, edgs, prs, fillV, splice, intsOf, trees, V1.tree, bx, Gr.v, Pa.v, dw0, dw1, dw2, dw3, opRd, opWr, opNew, opNewR, opArgs, argsRd, argRd, Arg.rd, AV.refs, V1.refs, refsL, dstL]
                refine ⟨rfl, ?_⟩
                simp [RepS, nmN, rn0, rn1, rn2, rn3, rn4, rn5, rn6, rn7, evOp, Arg.ev, St.val, St.set, St.new, sliceOf, binInt2, binInt, AV.cells, rdAt, St.live, retOf, resOf, resAll, treeOf, treeCell, treeCells, treeTups, untree, frameOf, TV.av, TR.av, ints, edgs, prs, fillV, splice, intsOf, trees, V1.tree, bx, Gr.v, Pa.v, f4, f5, f7, f8, f10, f117, hv2, hv, o0, o1, o3, o4, o69, hc, hw, hob, endsT_succ hlt, hx]
                rw [hv] at hM2
                exact ⟨by simpa [nmN, Nat.add_assoc] using hE, hM2⟩)
          · simp [nmN] at hnm'
            rcases hnm' with rfl | rfl | rfl | rfl <;> rcases hnm with rfl | rfl <;> (
                simp [rn0, rn1, rn2, rn3, rn4, rn5, rn6, rn7, evOp, Arg.ev, St.val, St.set, St.new, sliceOf, binInt2, binInt, AV.cells, rdAt, St.live, retOf, resOf, resAll, treeOf, treeCell, treeCells, treeTups, untree, frameOf, TV.av, TR.av, ints, edgs, prs, fillV, splice, intsOf, trees, V1.tree, bx, Gr.v, Pa.v, dw0, dw1, dw2, dw3, opRd, opWr, opNew, opNewR, opArgs, argsRd, argRd, Arg.rd, AV.refs, V1.refs, refsL, dstL, f4, f5, f7, f8, f10, f117, hv2, ho, nv, no, o0, o1, o3, o4, o69, hc, hlt, hlt1, drop_nthV hlt, hx, hx2, hx3, drop_edL hx2]
                refine kApp_growL (nms := nmN) (ts := [.int .i64 (eth l.edges x).f, .int .i64 (eth l.edges x).g]) (by simp [nmN]) rfl (by rw [← nv]; exact hN0.keep fun nm hm g => by simp [nmN] at hm; rcases hm with rfl | rfl | rfl | rfl <;> simp [rn0, rn1, rn2, rn3, rn4, rn5, rn6, rn7, evOp, Arg.ev, St.val, St.set, St.new, sliceOf, binInt2, binInt, AV.cells, rdAt, St.live, retOf, resOf, resAll, treeOf, treeCell, treeCells, treeTups, untree, frameOf, TV.av, TR.av, ints, edgs, prs, fillV, splice, intsOf, trees, V1.tree, bx, Gr.v, Pa.v]) rfl (by simp only [List.length_append] at *; omega) (by simp only [List.length_append] at *; omega) fun E hE hob hcnt => ?_
                have hM2 := hM0.keep (ob' := E.ob) fun nm hm g => by
                  rw [hob _ _ (by simp [nmE] at hm; rcases hm with rfl | rfl <;> simp [nmN])]
                  simp [nmE] at hm
                  rcases hm with rfl | rfl <;> simp [rn0, rn1, rn2, rn3, rn4, rn5, rn6, rn7, evOp, Arg.ev, St.val, St.set, St.new, sliceOf, binInt2, binInt, AV.cells, rdAt, St.live, retOf, resOf, resAll, treeOf, treeCell, treeCells, treeTups, untree, frameOf, TV.av, TR.av, ints, edgs, prs, fillV, splice, intsOf, trees, V1.tree, bx, Gr.v, Pa.v]
                simp [rn0, rn1, rn2, rn3, rn4, rn5, rn6, rn7, evOp, Arg.ev, St.val, St.set, St.new, sliceOf, binInt2, binInt, AV.cells, rdAt, St.live, retOf, resOf, resAll, treeOf, treeCell, treeCells, treeTups, untree, frameOf, TV.av, TR.av, ints, edgs, prs, fillV, splice, intsOf, trees, V1.tree, bx, Gr.v, Pa.v, dw0, dw1, dw2, dw3, opRd, opWr, opNew, opNewR, opArgs, argsRd, argRd, Arg.rd, AV.refs, V1.refs, refsL, dstL]
                refine ⟨rfl, ?_⟩
                simp [RepS, nmN, rn0, rn1, rn2, rn3, rn4, rn5, rn6, rn7, evOp, Arg.ev, St.val, St.set, St.new, sliceOf, binInt2, binInt, AV.cells, rdAt, St.live, retOf, resOf, resAll, treeOf, treeCell, treeCells, treeTups, untree, frameOf, TV.av, TR.av, ints, edgs, prs, fillV, splice, intsOf, trees, V1.tree, bx, Gr.v, Pa.v, f4, f5, f7, f8, f10, f117, hv2, hv, o0, o1, o3, o4, o69, hc, hw, hob, endsT_succ hlt, hx]
                rw [hv] at hM2
                exact ⟨by simpa [nmN, Nat.add_assoc] using hE, hM2⟩)
        · rintro S hc ⟨⟨f4, f5, f7, f8, f10, o0, o1, o3, o4, o69⟩, f116, f117, hN, hM⟩
          have z3 : (nodesS g q m ++ endsT l (edgesS q m) (edgesS q m).length).length ≤ 100000 := by
            have z1 := flatP_len (P := pairsL m.nodes q.nodes)
            have z2 := endsT_len (l := l) (E := edgesS q m) (edgesS q m).length
            have z4 := looseT_len (g := g) (m := m) (D := danglL g q m) (danglL g q m).length
            have z5 : (danglL g q m).length * m.nodes.length ≤ 80 * 40 := Nat.mul_le_mul (by omega) (by omega)
            rw [looseT_all] at z4
            simp only [nodesS, List.length_append]
            omega
          have kN : ∀ nm ∈ nmN, nm ∉ nmE := by decide
          have kE : ∀ nm ∈ nmE, nm ∉ nmN := by decide
          have k1 : ∀ nm ∈ [0, 1, 3, 4, 69], nm ∉ nmN ∧ nm ∉ nmE := by decide
          simp [rn0, rn1, rn2, rn3, rn4, rn5, rn6, rn7, evOp, Arg.ev, St.val, St.set, St.new, sliceOf, binInt2, binInt, AV.cells, rdAt, St.live, retOf, resOf, resAll, treeOf, treeCell, treeCells, treeTups, untree, frameOf, TV.av, TR.av, ints, edgs, prs, fillV, splice, intsOf, trees, V1.tree, bx, Gr.v, Pa.v, f4, f5, f7, f8, f10, f116, f117, o0, o1, o3, o4, o69, hc]
          refine callS_sortL sortSaid hN (by omega) fun ob1 hN1 hob1 => ?_
          simp [rn0, rn1, rn2, rn3, rn4, rn5, rn6, rn7, evOp, Arg.ev, St.val, St.set, St.new, sliceOf, binInt2, binInt, AV.cells, rdAt, St.live, retOf, resOf, resAll, treeOf, treeCell, treeCells, treeTups, untree, frameOf, TV.av, TR.av, ints, edgs, prs, fillV, splice, intsOf, trees, V1.tree, bx, Gr.v, Pa.v]
          refine callS_sortL sortSaid (hM.keep fun nm hm g => hob1 _ _ (kE nm hm)) (by omega) fun ob2 hM2 hob2 => ?_
          simp [rn0, rn1, rn2, rn3, rn4, rn5, rn6, rn7, evOp, Arg.ev, St.val, St.set, St.new, sliceOf, binInt2, binInt, AV.cells, rdAt, St.live, retOf, resOf, resAll, treeOf, treeCell, treeCells, treeTups, untree, frameOf, TV.av, TR.av, ints, edgs, prs, fillV, splice, intsOf, trees, V1.tree, bx, Gr.v, Pa.v]
          refine callS_compactL compSaid (hN1.keep fun nm hm g => hob2 _ _ (kN nm hm)) (by simp only [List.length_mergeSort]; omega) fun ob3 hob3 => ?_
          simp [rn0, rn1, rn2, rn3, rn4, rn5, rn6, rn7, evOp, Arg.ev, St.val, St.set, St.new, sliceOf, binInt2, binInt, AV.cells, rdAt, St.live, retOf, resOf, resAll, treeOf, treeCell, treeCells, treeTups, untree, frameOf, TV.av, TR.av, ints, edgs, prs, fillV, splice, intsOf, trees, V1.tree, bx, Gr.v, Pa.v]
          refine callS_compactL compSaid (hM2.keep fun nm hm g => hob3 _ _ (kE nm hm)) (by simp only [List.length_mergeSort]; omega) fun ob4 hob4 => ?_
          rw [step_nodes mo.ga hq.1 mo.ln mo.le, step_edges (g := g) hq.1 mo.le]
          have hob : ∀ nm ∈ [0, 1, 3, 4, 69], ∀ g, ob4 (nm, g) = S.ob (nm, g) := fun nm hm g => by
            have := k1 nm hm
            rw [hob4 _ _ this.2, hob3 _ _ this.1, hob2 _ _ this.2, hob1 _ _ this.1]
          have o0' := (hob 0 (by decide) 0).trans o0
          have o1' := (hob 1 (by decide) 0).trans o1
          have o3' := (hob 3 (by decide) 0).trans o3
          have o4' := (hob 4 (by decide) 0).trans o4
          have o69' := (hob 69 (by decide) 0).trans o69
          by_cases hf1 : (stepP l g q m).nodes.length = q.nodes.length
          case neg =>
            have hf : ¬ fixedP l g q m := fun h => hf1 h.1
            obtain ⟨r1, r2⟩ := rep_go hq hf
            have hf1' : ¬ ((stepP l g q m).nodes.length : Int) = q.nodes.length := by omega
            simp [rn0, rn1, rn2, rn3, rn4, rn5, rn6, rn7, evOp, Arg.ev, St.val, St.set, St.new, sliceOf, binInt2, binInt, AV.cells, rdAt, St.live, retOf, resOf, resAll, treeOf, treeCell, treeCells, treeTups, untree, frameOf, TV.av, TR.av, ints, edgs, prs, fillV, splice, intsOf, trees, V1.tree, bx, Gr.v, Pa.v, f4, f5, f7, f8, f10, o0', o1', o3', o4', o69', hf1', hf1]
            refine ⟨⟨_, ?_, r1⟩, ?_⟩
            · simp [RepS, rn0, rn1, rn2, rn3, rn4, rn5, rn6, rn7, evOp, Arg.ev, St.val, St.set, St.new, sliceOf, binInt2, binInt, AV.cells, rdAt, St.live, retOf, resOf, resAll, treeOf, treeCell, treeCells, treeTups, untree, frameOf, TV.av, TR.av, ints, edgs, prs, fillV, splice, intsOf, trees, V1.tree, bx, Gr.v, Pa.v, f4, f5, f7, f8, f10, o0', o1', o3', o4', o69']
            · simp only [gap] at r2 ⊢
              simpa [repMu, rn0, rn1, rn2, rn3, rn4, rn5, rn6, rn7, evOp, Arg.ev, St.val, St.set, St.new, sliceOf, binInt2, binInt, AV.cells, rdAt, St.live, retOf, resOf, resAll, treeOf, treeCell, treeCells, treeTups, untree, frameOf, TV.av, TR.av, ints, edgs, prs, fillV, splice, intsOf, trees, V1.tree, bx, Gr.v, Pa.v, o69'] using r2
          by_cases hf2 : (stepP l g q m).edges.length = q.edges.length
          case neg =>
            have hf : ¬ fixedP l g q m := fun h => hf2 h.2
            obtain ⟨r1, r2⟩ := rep_go hq hf
            have hf1' : ((stepP l g q m).nodes.length : Int) = q.nodes.length := by omega
            have hf2' : ¬ ((stepP l g q m).edges.length : Int) = q.edges.length := by omega
            simp [rn0, rn1, rn2, rn3, rn4, rn5, rn6, rn7, evOp, Arg.ev, St.val, St.set, St.new, sliceOf, binInt2, binInt, AV.cells, rdAt, St.live, retOf, resOf, resAll, treeOf, treeCell, treeCells, treeTups, untree, frameOf, TV.av, TR.av, ints, edgs, prs, fillV, splice, intsOf, trees, V1.tree, bx, Gr.v, Pa.v, f4, f5, f7, f8, f10, o0', o1', o3', o4', o69', hf1', hf1, hf2, hf2']
            refine ⟨⟨_, ?_, r1⟩, ?_⟩
            · simp [RepS, rn0, rn1, rn2, rn3, rn4, rn5, rn6, rn7, evOp, Arg.ev, St.val, St.set, St.new, sliceOf, binInt2, binInt, AV.cells, rdAt, St.live, retOf, resOf, resAll, treeOf, treeCell, treeCells, treeTups, untree, frameOf, TV.av, TR.av, ints, edgs, prs, fillV, splice, intsOf, trees, V1.tree, bx, Gr.v, Pa.v, f4, f5, f7, f8, f10, o0', o1', o3', o4', o69', hf1]
            · simp only [gap] at r2 ⊢
              simp [repMu, rn0, rn1, rn2, rn3, rn4, rn5, rn6, rn7, evOp, Arg.ev, St.val, St.set, St.new, sliceOf, binInt2, binInt, AV.cells, rdAt, St.live, retOf, resOf, resAll, treeOf, treeCell, treeCells, treeTups, untree, frameOf, TV.av, TR.av, ints, edgs, prs, fillV, splice, intsOf, trees, V1.tree, bx, Gr.v, Pa.v, o69']
              omega
          have hf := rep_stop hq ⟨hf1, hf2⟩
          have hf1' : ((stepP l g q m).nodes.length : Int) = q.nodes.length := by omega
          have hf2' : ((stepP l g q m).edges.length : Int) = q.edges.length := by omega
          rw [hf] at hf1 hf2 hf1' hf2'
          simp [rn0, rn1, rn2, rn3, rn4, rn5, rn6, rn7, evOp, Arg.ev, St.val, St.set, St.new, sliceOf, binInt2, binInt, AV.cells, rdAt, St.live, retOf, resOf, resAll, treeOf, treeCell, treeCells, treeTups, untree, frameOf, TV.av, TR.av, ints, edgs, prs, fillV, splice, intsOf, trees, V1.tree, bx, Gr.v, Pa.v, f4, f5, f7, f8, f10, o0', o1', o3', o4', o69', hf1', hf1, hf2, hf2', hf]
end Go.Proofs.Ythapbbpdcjmmfaa
