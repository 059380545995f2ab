/-
  Contracts: the errors of a case; complements. No condition beyond those that each statement names.
-/
import Derived.Test.YthapbbpdcjmmfaaF10
namespace Go.Proofs.Ythapbbpdcjmmfaa
open Abs
set_option linter.unusedSimpArgs false
set_option linter.unusedVariables false

structure MorOk (a b : Gr) (m : Pa) : Prop where
  ga : GrOk a
  gb : GrOk b
  ln : m.nodes.length = a.nodes.length
  le : m.edges.length = a.edges.length
  n : ∀ i, i < a.nodes.length → 0 ≤ nth m.nodes i ∧ nth m.nodes i < b.nodes.length ∧ nth b.nodes (nth m.nodes i).toNat = nth a.nodes i
  e : ∀ i, i < a.edges.length → 0 ≤ nth m.edges i ∧ nth m.edges i < b.edges.length ∧ (eth a.edges i).t = (eth b.edges (nth m.edges i).toNat).t ∧
    nth m.nodes (eth a.edges i).f.toNat = (eth b.edges (nth m.edges i).toNat).f ∧ nth m.nodes (eth a.edges i).g.toNat = (eth b.edges (nth m.edges i).toNat).g

theorem mor_ok {a b : Gr} {m : Pa} (h : morErr a b m = 0) : MorOk a b m := by
  by_cases h1 : gErr a = 0
  case neg => simp [morErr, h1] at h
  by_cases h2 : gErr b = 0
  case neg => simp [morErr, h1, h2] at h
  by_cases h3 : (m.nodes.length : Int) = a.nodes.length ∧ (m.edges.length : Int) = a.edges.length
  case neg => rw [morErr, if_pos h1, if_pos h2, if_neg h3] at h; cases h
  rw [morErr, if_pos h1, if_pos h2, if_pos h3] at h
  by_cases h4 : fe (mnF a b m) m.nodes.length = 0
  case neg => rw [if_neg h4] at h; exact absurd h h4
  rw [if_pos h4] at h
  have ln : m.nodes.length = a.nodes.length := by omega
  have le : m.edges.length = a.edges.length := by omega
  refine ⟨gErr_ok h1, gErr_ok h2, ln, le, fun i hi => ?_, fun i hi => ?_⟩
  · have := fe_eq h4 i (by omega)
    simp only [mnF] at this
    split at this
    · cases this
    split at this
    · cases this
    split at this
    · exact ⟨by omega, by omega, by assumption⟩
    · cases this
  · have := fe_eq h i (by omega)
    simp only [meF] at this
    split at this
    · cases this
    split at this
    · cases this
    split at this
    · split at this
      · split at this
        · exact ⟨by omega, by omega, by assumption, by assumption, by assumption⟩
        · cases this
      · cases this
    · cases this

theorem MorOk.rn {a b : Gr} {m : Pa} (h : MorOk a b m) : ∀ x ∈ m.nodes, 0 ≤ x ∧ x < b.nodes.length := fun x hx => by
  obtain ⟨k, hk, rfl⟩ := mem_nth hx
  have := h.n k (by rw [← h.ln]; exact hk)
  exact ⟨this.1, this.2.1⟩
theorem MorOk.re {a b : Gr} {m : Pa} (h : MorOk a b m) : ∀ x ∈ m.edges, 0 ≤ x ∧ x < b.edges.length := fun x hx => by
  obtain ⟨k, hk, rfl⟩ := mem_nth hx
  have := h.e k (by rw [← h.le]; exact hk)
  exact ⟨this.1, this.2.1⟩

/-- The error of a case. -/
def caseErr (l g : Gr) (p m : Pa) : Int := if morErr l g m = 0 then subErr l p else morErr l g m

structure TinyCase (l g : Gr) (p m : Pa) : Prop where
  tl : tinyG l
  tg : tinyG g
  tp : tinyP p
  tm : tinyP m

def c_given : MFunc := ⟨19, [.tmp 2], .seq (.region [⟨some 1, .box 0 77 (.tmp 0), none⟩, ⟨some 2, .mv (.c (.one (.t (.int .i64 0)))), none⟩]) (.seq (.seq (.region [⟨some 4, .fieldA 0 (.tmp 1), none⟩, ⟨some 5, .load true 2 (.tmp 4), none⟩, ⟨some 6, .fieldA 2 (.tmp 1), none⟩, ⟨some 7, .load true 2 (.tmp 6), none⟩, ⟨some 8, .fieldA 6 (.tmp 1), none⟩, ⟨some 9, .load true 2 (.tmp 8), none⟩, ⟨some 10, .call (.c (.one (.fn 69 []))) 70 [.tmp 5, .tmp 7, .tmp 9], none⟩, ⟨some 3, .mv (.tmp 10), none⟩]) (.seq (.region [⟨some 11, .mv (.tmp 3), none⟩, ⟨some 12, .bin .neq (.tmp 11) (.c (.one (.t (.int .i64 0)))), none⟩]) (.cond (.tmp 12) (.seq (.region [⟨some 13, .mv (.tmp 3), none⟩, ⟨some 2, .mv (.tmp 13), none⟩]) .ret) .skip))) (.seq (.region [⟨some 14, .fieldA 0 (.tmp 1), none⟩, ⟨some 15, .load true 2 (.tmp 14), none⟩, ⟨some 16, .fieldA 4 (.tmp 1), none⟩, ⟨some 17, .load true 2 (.tmp 16), none⟩, ⟨some 18, .call (.c (.one (.fn 63 []))) 260 [.tmp 15, .tmp 17], none⟩, ⟨some 2, .mv (.tmp 18), none⟩]) .ret))⟩
theorem k_given : cFn Try.prog Try.f41 = some c_given := by kernel_rfl
theorem given_ok (l g : Gr) (p m : Pa) (h : TinyCase l g p m) : CallOK Try.prog 41 [gluV l g p m] (.sv (false, [.int .i64 (caseErr l g p m)])) := by
  refine callOK_W (callS_W (by kernel_rfl) Try.func41 k_given (callable_of Try.func41 (by kernel_rfl)) (by simp [c_given]) ?_)
  simp [c_given, rn0, rn1, rn2, rn3, rn4, rn5, rn6, rn7, evOp, Arg.ev, St.val, St.set, St.new, sliceOf, binInt2, binInt, AV.cells, rdAt, St.live, retOf, resOf, resAll, treeOf, treeCell, treeCells, treeTups, untree, frameOf, TV.av, TR.av, ints, edgs, prs, fillV, splice, intsOf, trees, V1.tree, bx, Gr.v, Pa.v, gluV]
  refine callS_tree (mvalid_ok l g m h.tl h.tg h.tm) ?_ ?_ ?_
  · rfl
  · rfl
  by_cases h1 : morErr l g m = 0
  case neg => simp [rn0, rn1, rn2, rn3, rn4, rn5, rn6, rn7, evOp, Arg.ev, St.val, St.set, St.new, sliceOf, binInt2, binInt, AV.cells, rdAt, St.live, retOf, resOf, resAll, treeOf, treeCell, treeCells, treeTups, untree, frameOf, TV.av, TR.av, ints, edgs, prs, fillV, splice, intsOf, trees, V1.tree, bx, Gr.v, Pa.v, h1, caseErr]
  simp [rn0, rn1, rn2, rn3, rn4, rn5, rn6, rn7, evOp, Arg.ev, St.val, St.set, St.new, sliceOf, binInt2, binInt, AV.cells, rdAt, St.live, retOf, resOf, resAll, treeOf, treeCell, treeCells, treeTups, untree, frameOf, TV.av, TR.av, ints, edgs, prs, fillV, splice, intsOf, trees, V1.tree, bx, Gr.v, Pa.v, h1, caseErr]
  refine callS_tree (svalid_ok l p h.tl h.tp) ?_ ?_ ?_
  · rfl
  · rfl
  simp [rn0, rn1, rn2, rn3, rn4, rn5, rn6, rn7, evOp, Arg.ev, St.val, St.set, St.new, sliceOf, binInt2, binInt, AV.cells, rdAt, St.live, retOf, resOf, resAll, treeOf, treeCell, treeCells, treeTups, untree, frameOf, TV.av, TR.av, ints, edgs, prs, fillV, splice, intsOf, trees, V1.tree, bx, Gr.v, Pa.v]

def c_given12 : MFunc := ⟨20, [.tmp 8], .seq (.region [⟨some 4, .box 0 25 (.tmp 0), none⟩, ⟨some 5, .box 1 25 (.tmp 1), none⟩, ⟨some 6, .box 2 27 (.tmp 2), none⟩, ⟨some 7, .box 3 28 (.tmp 3), none⟩, ⟨some 8, .mv (.c (.one (.t (.int .i64 0)))), none⟩]) (.seq (.seq (.region [⟨some 10, .load true 2 (.tmp 4), none⟩, ⟨some 11, .load true 2 (.tmp 5), none⟩, ⟨some 12, .load true 2 (.tmp 7), none⟩, ⟨some 13, .call (.c (.one (.fn 72 []))) 67 [.tmp 10, .tmp 11, .tmp 12], none⟩, ⟨some 9, .mv (.tmp 13), none⟩]) (.seq (.region [⟨some 14, .mv (.tmp 9), none⟩, ⟨some 15, .bin .neq (.tmp 14) (.c (.one (.t (.int .i64 0)))), none⟩]) (.cond (.tmp 15) (.seq (.region [⟨some 16, .mv (.tmp 9), none⟩, ⟨some 8, .mv (.tmp 16), none⟩]) .ret) .skip))) (.seq (.region [⟨some 17, .load true 2 (.tmp 4), none⟩, ⟨some 18, .load true 2 (.tmp 6), none⟩, ⟨some 19, .call (.c (.one (.fn 73 []))) 258 [.tmp 17, .tmp 18], none⟩, ⟨some 8, .mv (.tmp 19), none⟩]) .ret))⟩
theorem k_given12 : cFn Try.prog Try.f46 = some c_given12 := by kernel_rfl
theorem given12_ok (l g : Gr) (p m : Pa) (h : TinyCase l g p m) : CallOK Try.prog 46 [l.v, g.v, p.v, m.v] (.sv (false, [.int .i64 (caseErr l g p m)])) := by
  refine callOK_W (callS_W (by kernel_rfl) Try.func46 k_given12 (callable_of Try.func46 (by kernel_rfl)) (by simp [c_given12]) ?_)
  simp [c_given12, rn0, rn1, rn2, rn3, rn4, rn5, rn6, rn7, evOp, Arg.ev, St.val, St.set, St.new, sliceOf, binInt2, binInt, AV.cells, rdAt, St.live, retOf, resOf, resAll, treeOf, treeCell, treeCells, treeTups, untree, frameOf, TV.av, TR.av, ints, edgs, prs, fillV, splice, intsOf, trees, V1.tree, bx, Gr.v, Pa.v]
  refine callS_tree (rvalid6_ok l g m h.tl h.tg h.tm) ?_ ?_ ?_
  · rfl
  · rfl
  by_cases h1 : morErr l g m = 0
  case neg => simp [rn0, rn1, rn2, rn3, rn4, rn5, rn6, rn7, evOp, Arg.ev, St.val, St.set, St.new, sliceOf, binInt2, binInt, AV.cells, rdAt, St.live, retOf, resOf, resAll, treeOf, treeCell, treeCells, treeTups, untree, frameOf, TV.av, TR.av, ints, edgs, prs, fillV, splice, intsOf, trees, V1.tree, bx, Gr.v, Pa.v, h1, caseErr]
  simp [rn0, rn1, rn2, rn3, rn4, rn5, rn6, rn7, evOp, Arg.ev, St.val, St.set, St.new, sliceOf, binInt2, binInt, AV.cells, rdAt, St.live, retOf, resOf, resAll, treeOf, treeCell, treeCells, treeTups, untree, frameOf, TV.av, TR.av, ints, edgs, prs, fillV, splice, intsOf, trees, V1.tree, bx, Gr.v, Pa.v, h1, caseErr]
  refine callS_tree (rvalid7_ok l p h.tl h.tp) ?_ ?_ ?_
  · rfl
  · rfl
  simp [rn0, rn1, rn2, rn3, rn4, rn5, rn6, rn7, evOp, Arg.ev, St.val, St.set, St.new, sliceOf, binInt2, binInt, AV.cells, rdAt, St.live, retOf, resOf, resAll, treeOf, treeCell, treeCells, treeTups, untree, frameOf, TV.av, TR.av, ints, edgs, prs, fillV, splice, intsOf, trees, V1.tree, bx, Gr.v, Pa.v]

def c_identified : MFunc := ⟨18, [.tmp 2, .tmp 3], .seq (.region [⟨some 1, .box 0 77 (.tmp 0), none⟩, ⟨some 2, .mv (.c (.one .nil)), none⟩, ⟨some 3, .mv (.c (.one .nil)), none⟩]) (.seq (.draw [[], [0], [1], [], [3], [4], [2, 5], [], [7], [8], [], [10], [11], [9, 12, 6], [6, 13, 0, 1, 2, 3, 4, 5, 6], [13, 14, 0, 1, 2, 3, 4, 5, 6, 7, 8, 9, 10, 11, 12, 13, 14]] [⟨some 4, .fieldA 6 (.tmp 1), none⟩, ⟨some 5, .fieldA 0 (.tmp 4), none⟩, ⟨some 6, .load false 1 (.tmp 5), none⟩, ⟨some 7, .fieldA 4 (.tmp 1), none⟩, ⟨some 8, .fieldA 0 (.tmp 7), none⟩, ⟨some 9, .load false 1 (.tmp 8), none⟩, ⟨some 10, .call (.c (.one (.fn 70 []))) 70 [.tmp 6, .tmp 9], none⟩, ⟨some 11, .fieldA 6 (.tmp 1), none⟩, ⟨some 12, .fieldA 1 (.tmp 11), none⟩, ⟨some 13, .load false 1 (.tmp 12), none⟩, ⟨some 14, .fieldA 4 (.tmp 1), none⟩, ⟨some 15, .fieldA 1 (.tmp 14), none⟩, ⟨some 16, .load false 1 (.tmp 15), none⟩, ⟨some 17, .call (.c (.one (.fn 70 []))) 77 [.tmp 13, .tmp 16], none⟩, ⟨some 2, .mv (.tmp 10), none⟩, ⟨some 3, .mv (.tmp 17), none⟩]) .ret)⟩
theorem k_identified : cFn Try.prog Try.f42 = some c_identified := by kernel_rfl
theorem identified_ok (l g : Gr) (p m : Pa) (h1 : m.nodes.length ≤ 1000) (h2 : m.edges.length ≤ 1000) (hp : tinyP p) : CallOK Try.prog 42 [gluV l g p m]
    (.tup [(false, [prs (pairsL m.nodes p.nodes)]), (false, [prs (pairsL m.edges p.edges)])]) := by
  refine callOK_W (callS_W (by kernel_rfl) Try.func42 k_identified (callable_of Try.func42 (by kernel_rfl)) (by simp [c_identified]) ?_)
  simp [c_identified, rn0, rn1, rn2, rn3, rn4, rn5, rn6, rn7, evOp, Arg.ev, St.val, St.set, St.new, sliceOf, binInt2, binInt, AV.cells, rdAt, St.live, retOf, resOf, resAll, treeOf, treeCell, treeCells, treeTups, untree, frameOf, TV.av, TR.av, ints, edgs, prs, fillV, splice, intsOf, trees, V1.tree, bx, Gr.v, Pa.v, dw0, dw1, dw2, dw3, opRd, opWr, opNew, opNewR, opArgs, argsRd, argRd, Arg.rd, AV.refs, V1.refs, refsL, dstL, gluV]
  refine dCall_ok (callOK_of_row (pairs_row m.nodes p.nodes h1 hp.1)) ?_ ?_ ?_
  · rfl
  · rfl
  simp [rn0, rn1, rn2, rn3, rn4, rn5, rn6, rn7, evOp, Arg.ev, St.val, St.set, St.new, sliceOf, binInt2, binInt, AV.cells, rdAt, St.live, retOf, resOf, resAll, treeOf, treeCell, treeCells, treeTups, untree, frameOf, TV.av, TR.av, ints, edgs, prs, fillV, splice, intsOf, trees, V1.tree, bx, Gr.v, Pa.v, dw0, dw1, dw2, dw3, opRd, opWr, opNew, opNewR, opArgs, argsRd, argRd, Arg.rd, AV.refs, V1.refs, refsL, dstL, gluV]
  refine dCall_ok (callOK_of_row (pairs_row m.edges p.edges h2 hp.2)) ?_ ?_ ?_
  · rfl
  · rfl
  simp [rn0, rn1, rn2, rn3, rn4, rn5, rn6, rn7, evOp, Arg.ev, St.val, St.set, St.new, sliceOf, binInt2, binInt, AV.cells, rdAt, St.live, retOf, resOf, resAll, treeOf, treeCell, treeCells, treeTups, untree, frameOf, TV.av, TR.av, ints, edgs, prs, fillV, splice, intsOf, trees, V1.tree, bx, Gr.v, Pa.v, dw0, dw1, dw2, dw3, opRd, opWr, opNew, opNewR, opArgs, argsRd, argRd, Arg.rd, AV.refs, V1.refs, refsL, dstL, gluV]
  rfl

/-- The complement, or an error. -/
def ofR (l g : Gr) (p m : Pa) : Pa × Int :=
  if caseErr l g p m = 0 then
    if (0 : Int) < (pairsL m.nodes p.nodes).length + (pairsL m.edges p.edges).length then (⟨[], []⟩, 15)
    else if danglL g p m = [] then (⟨restL g.nodes.length (goneL m.nodes p.nodes), restL g.edges.length (goneL m.edges p.edges)⟩, 0)
    else (⟨[], []⟩, 14)
  else (⟨[], []⟩, caseErr l g p m)

theorem pairsL_len {l k : List Int} (h : l.length ≤ 1000) : (pairsL l k).length ≤ 1000000 := by
  have := gather_len (f := fun a => collect (pairF l k a) l.length) (m := l.length) (fun j => collect_len) l.length
  have g2 : l.length * l.length ≤ 1000 * 1000 := Nat.mul_le_mul h h
  simp only [pairsL]
  omega

theorem caseErr_ok {l g : Gr} {p m : Pa} (h : caseErr l g p m = 0) : MorOk l g m ∧ subErr l p = 0 := by
  unfold caseErr at h
  split at h
  · exact ⟨mor_ok (by assumption), h⟩
  · exact absurd h (by assumption)

def c_of : MFunc := ⟨61, [.cell 8 true 2, .tmp 9], .seq (.region [⟨some 4, .box 0 25 (.tmp 0), none⟩, ⟨some 5, .box 1 25 (.tmp 1), none⟩, ⟨some 6, .box 2 27 (.tmp 2), none⟩, ⟨some 7, .box 3 28 (.tmp 3), none⟩, ⟨some 8, .alloc 4 27 [.nil, .nil], none⟩, ⟨some 9, .mv (.c (.one (.t (.int .i64 0)))), none⟩]) (.seq (.region [⟨some 14, .load true 2 (.tmp 4), none⟩, ⟨some 15, .load true 2 (.tmp 5), none⟩, ⟨some 16, .load true 2 (.tmp 6), none⟩, ⟨some 17, .load true 2 (.tmp 7), none⟩, ⟨some 18, .build [.nil, .nil, .nil, .nil, .nil, .nil, .nil, .nil] [(0, (2, .tmp 14)), (2, (2, .tmp 15)), (4, (2, .tmp 16)), (6, (2, .tmp 17))], none⟩, ⟨some 10, .alloc 69 77 [.nil, .nil, .nil, .nil, .nil, .nil, .nil, .nil], none⟩, ⟨none, .store 8 (.tmp 10) (.tmp 18), none⟩]) (.seq (.seq (.region [⟨some 19, .load true 8 (.tmp 10), none⟩, ⟨some 20, .call (.c (.one (.fn 41 []))) 129 [.tmp 19], none⟩, ⟨some 11, .mv (.tmp 20), none⟩]) (.seq (.region [⟨some 21, .mv (.tmp 11), none⟩, ⟨some 22, .bin .neq (.tmp 21) (.c (.one (.t (.int .i64 0)))), none⟩]) (.cond (.tmp 22) (.seq (.region [⟨some 23, .build [.nil, .nil] [], none⟩, ⟨some 24, .mv (.tmp 11), none⟩, ⟨none, .store 2 (.tmp 8) (.tmp 23), none⟩, ⟨some 9, .mv (.tmp 24), none⟩]) .ret) .skip))) (.seq (.region [⟨some 26, .load true 8 (.tmp 10), none⟩, ⟨some 27, .call (.c (.one (.fn 42 []))) 321 [.tmp 26], none⟩, ⟨some 25, .mv (.tmp 27), none⟩, ⟨some 28, .extract (.tmp 25) 0, none⟩, ⟨some 29, .extract (.tmp 25) 1, none⟩, ⟨some 12, .mv (.tmp 28), none⟩, ⟨some 13, .mv (.tmp 29), none⟩]) (.seq (.block 0 (.seq (.region [⟨some 31, .mv (.tmp 12), none⟩, ⟨some 32, .len (.tmp 31), none⟩, ⟨some 33, .mv (.tmp 13), none⟩, ⟨some 34, .len (.tmp 33), none⟩, ⟨some 35, .bin .add (.tmp 32) (.tmp 34), none⟩, ⟨some 36, .bin .gtr (.tmp 35) (.c (.one (.t (.int .i64 0)))), none⟩, ⟨some 30, .mv (.tmp 36), none⟩]) (.cond (.tmp 30) (.seq (.region [⟨some 37, .build [.nil, .nil] [], none⟩, ⟨none, .store 2 (.tmp 8) (.tmp 37), none⟩, ⟨some 9, .mv (.c (.one (.t (.int .i64 15)))), none⟩]) .ret) (.seq (.region [⟨some 39, .load true 8 (.tmp 10), none⟩, ⟨some 40, .call (.c (.one (.fn 43 []))) 513 [.tmp 39], none⟩, ⟨some 41, .len (.tmp 40), none⟩, ⟨some 42, .bin .gtr (.tmp 41) (.c (.one (.t (.int .i64 0)))), none⟩, ⟨some 38, .mv (.tmp 42), none⟩]) (.cond (.tmp 38) (.seq (.region [⟨some 43, .build [.nil, .nil] [], none⟩, ⟨none, .store 2 (.tmp 8) (.tmp 43), none⟩, ⟨some 9, .mv (.c (.one (.t (.int .i64 14)))), none⟩]) .ret) .skip))))) (.seq (.draw [[], [0], [1], [], [3], [], [5], [2, 4, 6], [], [8], [9], [], [11], [], [13], [10, 12, 14, 7], [7, 15], [16, 15, 0, 1, 2, 3, 4, 5, 6, 7, 8, 9, 10, 11, 12, 13, 14, 15, 16], [17, 0, 1, 2, 3, 4, 5, 6, 7, 8, 9, 10, 11, 12, 13, 14, 15, 16, 17]] [⟨some 44, .fieldA 0 (.tmp 5), none⟩, ⟨some 45, .load false 1 (.tmp 44), none⟩, ⟨some 46, .len (.tmp 45), none⟩, ⟨some 47, .fieldA 0 (.tmp 7), none⟩, ⟨some 48, .load false 1 (.tmp 47), none⟩, ⟨some 49, .fieldA 0 (.tmp 6), none⟩, ⟨some 50, .load false 1 (.tmp 49), none⟩, ⟨some 51, .call (.c (.one (.fn 44 []))) 647 [.tmp 46, .tmp 48, .tmp 50], none⟩, ⟨some 52, .fieldA 1 (.tmp 5), none⟩, ⟨some 53, .load false 1 (.tmp 52), none⟩, ⟨some 54, .len (.tmp 53), none⟩, ⟨some 55, .fieldA 1 (.tmp 7), none⟩, ⟨some 56, .load false 1 (.tmp 55), none⟩, ⟨some 57, .fieldA 1 (.tmp 6), none⟩, ⟨some 58, .load false 1 (.tmp 57), none⟩, ⟨some 59, .call (.c (.one (.fn 44 []))) 655 [.tmp 54, .tmp 56, .tmp 58], none⟩, ⟨some 60, .build [.nil, .nil] [(0, (1, .tmp 51)), (1, (1, .tmp 59))], none⟩, ⟨none, .store 2 (.tmp 8) (.tmp 60), none⟩, ⟨some 9, .mv (.c (.one (.t (.int .i64 0)))), none⟩]) .ret)))))⟩
theorem k_of : cFn Try.prog Try.f12 = some c_of := by kernel_rfl
theorem of_ok (l g : Gr) (p m : Pa) (h : TinyCase l g p m) : CallOK Try.prog 12 [l.v, g.v, p.v, m.v] (.tup [(ofR l g p m).1.v, (false, [.int .i64 (ofR l g p m).2])]) := by
  refine callOK_W (callS_W (by kernel_rfl) Try.func12 k_of (callable_of Try.func12 (by kernel_rfl)) (by simp [c_of]) ?_)
  simp [c_of, rn0, rn1, rn2, rn3, rn4, rn5, rn6, rn7, evOp, Arg.ev, St.val, St.set, St.new, sliceOf, binInt2, binInt, AV.cells, rdAt, St.live, retOf, resOf, resAll, treeOf, treeCell, treeCells, treeTups, untree, frameOf, TV.av, TR.av, ints, edgs, prs, fillV, splice, intsOf, trees, V1.tree, bx, Gr.v, Pa.v]
  refine callS_tree (given_ok l g p m h) ?_ ?_ ?_
  · rfl
  · rfl
  by_cases h1 : caseErr l g p m = 0
  case neg =>
    have e : ofR l g p m = (⟨[], []⟩, caseErr l g p m) := by simp [ofR, h1]
    simp [rn0, rn1, rn2, rn3, rn4, rn5, rn6, rn7, evOp, Arg.ev, St.val, St.set, St.new, sliceOf, binInt2, binInt, AV.cells, rdAt, St.live, retOf, resOf, resAll, treeOf, treeCell, treeCells, treeTups, untree, frameOf, TV.av, TR.av, ints, edgs, prs, fillV, splice, intsOf, trees, V1.tree, bx, Gr.v, Pa.v, h1, e]
  obtain ⟨mo, so⟩ := caseErr_ok h1
  have hn := mo.ln; have he := mo.le; have ha1 := mo.ga.n; have ha2 := mo.ga.e
  have l1 : m.nodes.length ≤ 1000 := by omega
  have l2 : m.edges.length ≤ 1000 := by omega
  simp [rn0, rn1, rn2, rn3, rn4, rn5, rn6, rn7, evOp, Arg.ev, St.val, St.set, St.new, sliceOf, binInt2, binInt, AV.cells, rdAt, St.live, retOf, resOf, resAll, treeOf, treeCell, treeCells, treeTups, untree, frameOf, TV.av, TR.av, ints, edgs, prs, fillV, splice, intsOf, trees, V1.tree, bx, Gr.v, Pa.v, h1]
  refine callS_tree (identified_ok l g p m l1 l2 h.tp) ?_ ?_ ?_
  · rfl
  · rfl
  have q1 := pairsL_len (k := p.nodes) l1
  have q2 := pairsL_len (k := p.edges) l2
  have hw : IntKind.i64.wrap (((pairsL m.nodes p.nodes).length : Int) + (pairsL m.edges p.edges).length) = ((pairsL m.nodes p.nodes).length : Int) + (pairsL m.edges p.edges).length := by rw [wrap64_id] <;> omega
  by_cases h2 : (0 : Int) < (pairsL m.nodes p.nodes).length + (pairsL m.edges p.edges).length
  · have e : ofR l g p m = (⟨[], []⟩, 15) := by simp [ofR, h1, h2]
    simp [rn0, rn1, rn2, rn3, rn4, rn5, rn6, rn7, evOp, Arg.ev, St.val, St.set, St.new, sliceOf, binInt2, binInt, AV.cells, rdAt, St.live, retOf, resOf, resAll, treeOf, treeCell, treeCells, treeTups, untree, frameOf, TV.av, TR.av, ints, edgs, prs, fillV, splice, intsOf, trees, V1.tree, bx, Gr.v, Pa.v, h1, hw, h2, e]
  simp [rn0, rn1, rn2, rn3, rn4, rn5, rn6, rn7, evOp, Arg.ev, St.val, St.set, St.new, sliceOf, binInt2, binInt, AV.cells, rdAt, St.live, retOf, resOf, resAll, treeOf, treeCell, treeCells, treeTups, untree, frameOf, TV.av, TR.av, ints, edgs, prs, fillV, splice, intsOf, trees, V1.tree, bx, Gr.v, Pa.v, h1, hw, h2]
  refine callS_tree (dangling_row l g p m h.tg h.tm h.tp).ok ?_ ?_ ?_
  · rfl
  · rfl
  by_cases h3 : danglL g p m = []
  case neg =>
    have e : ofR l g p m = (⟨[], []⟩, 14) := by rw [ofR, if_pos h1, if_neg h2, if_neg h3]
    simp [rn0, rn1, rn2, rn3, rn4, rn5, rn6, rn7, evOp, Arg.ev, St.val, St.set, St.new, sliceOf, binInt2, binInt, AV.cells, rdAt, St.live, retOf, resOf, resAll, treeOf, treeCell, treeCells, treeTups, untree, frameOf, TV.av, TR.av, ints, edgs, prs, fillV, splice, intsOf, trees, V1.tree, bx, Gr.v, Pa.v, h1, h3, e]
  have e : ofR l g p m = (⟨restL g.nodes.length (goneL m.nodes p.nodes), restL g.edges.length (goneL m.edges p.edges)⟩, 0) := by rw [ofR, if_pos h1, if_neg h2, if_pos h3]
  simp [rn0, rn1, rn2, rn3, rn4, rn5, rn6, rn7, evOp, Arg.ev, St.val, St.set, St.new, sliceOf, binInt2, binInt, AV.cells, rdAt, St.live, retOf, resOf, resAll, treeOf, treeCell, treeCells, treeTups, untree, frameOf, TV.av, TR.av, ints, edgs, prs, fillV, splice, intsOf, trees, V1.tree, bx, Gr.v, Pa.v, dw0, dw1, dw2, dw3, opRd, opWr, opNew, opNewR, opArgs, argsRd, argRd, Arg.rd, AV.refs, V1.refs, refsL, dstL, h1, h3, e]
  refine dCall_ok (rest_row g.nodes.length m.nodes p.nodes h.tg.1 h.tm.1 h.tp.1 mo.rn).ok ?_ ?_ ?_
  · rfl
  · rfl
  simp [rn0, rn1, rn2, rn3, rn4, rn5, rn6, rn7, evOp, Arg.ev, St.val, St.set, St.new, sliceOf, binInt2, binInt, AV.cells, rdAt, St.live, retOf, resOf, resAll, treeOf, treeCell, treeCells, treeTups, untree, frameOf, TV.av, TR.av, ints, edgs, prs, fillV, splice, intsOf, trees, V1.tree, bx, Gr.v, Pa.v, dw0, dw1, dw2, dw3, opRd, opWr, opNew, opNewR, opArgs, argsRd, argRd, Arg.rd, AV.refs, V1.refs, refsL, dstL]
  refine dCall_ok (rest_row g.edges.length m.edges p.edges h.tg.2 h.tm.2 h.tp.2 mo.re).ok ?_ ?_ ?_
  · rfl
  · rfl
  simp [rn0, rn1, rn2, rn3, rn4, rn5, rn6, rn7, evOp, Arg.ev, St.val, St.set, St.new, sliceOf, binInt2, binInt, AV.cells, rdAt, St.live, retOf, resOf, resAll, treeOf, treeCell, treeCells, treeTups, untree, frameOf, TV.av, TR.av, ints, edgs, prs, fillV, splice, intsOf, trees, V1.tree, bx, Gr.v, Pa.v, dw0, dw1, dw2, dw3, opRd, opWr, opNew, opNewR, opArgs, argsRd, argRd, Arg.rd, AV.refs, V1.refs, refsL, dstL]
  rfl

def c_of12 : MFunc := ⟨62, [.cell 8 true 2, .tmp 9], .seq (.region [⟨some 4, .box 0 25 (.tmp 0), none⟩, ⟨some 5, .box 1 25 (.tmp 1), none⟩, ⟨some 6, .box 2 27 (.tmp 2), none⟩, ⟨some 7, .box 3 28 (.tmp 3), none⟩, ⟨some 8, .alloc 4 27 [.nil, .nil], none⟩, ⟨some 9, .mv (.c (.one (.t (.int .i64 0)))), none⟩]) (.seq (.seq (.region [⟨some 11, .load true 2 (.tmp 4), none⟩, ⟨some 12, .load true 2 (.tmp 5), none⟩, ⟨some 13, .load true 2 (.tmp 6), none⟩, ⟨some 14, .load true 2 (.tmp 7), none⟩, ⟨some 15, .call (.c (.one (.fn 46 []))) 68 [.tmp 11, .tmp 12, .tmp 13, .tmp 14], none⟩, ⟨some 10, .mv (.tmp 15), none⟩]) (.seq (.region [⟨some 16, .mv (.tmp 10), none⟩, ⟨some 17, .bin .neq (.tmp 16) (.c (.one (.t (.int .i64 0)))), none⟩]) (.cond (.tmp 17) (.seq (.region [⟨some 18, .build [.nil, .nil] [], none⟩, ⟨some 19, .mv (.tmp 10), none⟩, ⟨none, .store 2 (.tmp 8) (.tmp 18), none⟩, ⟨some 9, .mv (.tmp 19), none⟩]) .ret) .skip))) (.seq (.seq (.draw [[], [0], [], [2], [1, 3], [4], [], [6], [], [8], [7, 9, 4], [10], [5, 11], [12]] [⟨some 20, .fieldA 0 (.tmp 7), none⟩, ⟨some 21, .load false 1 (.tmp 20), none⟩, ⟨some 22, .fieldA 0 (.tmp 6), none⟩, ⟨some 23, .load false 1 (.tmp 22), none⟩, ⟨some 24, .call (.c (.one (.fn 47 []))) 260 [.tmp 21, .tmp 23], none⟩, ⟨some 25, .len (.tmp 24), none⟩, ⟨some 26, .fieldA 1 (.tmp 7), none⟩, ⟨some 27, .load false 1 (.tmp 26), none⟩, ⟨some 28, .fieldA 1 (.tmp 6), none⟩, ⟨some 29, .load false 1 (.tmp 28), none⟩, ⟨some 30, .call (.c (.one (.fn 47 []))) 266 [.tmp 27, .tmp 29], none⟩, ⟨some 31, .len (.tmp 30), none⟩, ⟨some 32, .bin .add (.tmp 25) (.tmp 31), none⟩, ⟨some 33, .bin .gtr (.tmp 32) (.c (.one (.t (.int .i64 0)))), none⟩]) (.cond (.tmp 33) (.seq (.region [⟨some 34, .build [.nil, .nil] [], none⟩, ⟨none, .store 2 (.tmp 8) (.tmp 34), none⟩, ⟨some 9, .mv (.c (.one (.t (.int .i64 15)))), none⟩]) .ret) .skip)) (.seq (.seq (.region [⟨some 35, .load true 2 (.tmp 4), none⟩, ⟨some 36, .load true 2 (.tmp 5), none⟩, ⟨some 37, .load true 2 (.tmp 6), none⟩, ⟨some 38, .load true 2 (.tmp 7), none⟩, ⟨some 39, .call (.c (.one (.fn 48 []))) 388 [.tmp 35, .tmp 36, .tmp 37, .tmp 38], none⟩, ⟨some 40, .len (.tmp 39), none⟩, ⟨some 41, .bin .gtr (.tmp 40) (.c (.one (.t (.int .i64 0)))), none⟩]) (.cond (.tmp 41) (.seq (.region [⟨some 42, .build [.nil, .nil] [], none⟩, ⟨none, .store 2 (.tmp 8) (.tmp 42), none⟩, ⟨some 9, .mv (.c (.one (.t (.int .i64 14)))), none⟩]) .ret) .skip)) (.seq (.draw [[], [0], [1], [], [3], [], [5], [4, 6], [2, 7, 7], [], [9], [10], [], [12], [], [14], [13, 15, 8], [11, 16, 16], [8, 17], [18, 17, 0, 1, 2, 3, 4, 5, 6, 7, 8, 9, 10, 11, 12, 13, 14, 15, 16, 17, 18], [19, 0, 1, 2, 3, 4, 5, 6, 7, 8, 9, 10, 11, 12, 13, 14, 15, 16, 17, 18, 19]] [⟨some 43, .fieldA 0 (.tmp 5), none⟩, ⟨some 44, .load false 1 (.tmp 43), none⟩, ⟨some 45, .len (.tmp 44), none⟩, ⟨some 46, .fieldA 0 (.tmp 7), none⟩, ⟨some 47, .load false 1 (.tmp 46), none⟩, ⟨some 48, .fieldA 0 (.tmp 6), none⟩, ⟨some 49, .load false 1 (.tmp 48), none⟩, ⟨some 50, .call (.c (.one (.fn 50 []))) 519 [.tmp 47, .tmp 49], none⟩, ⟨some 51, .call (.c (.one (.fn 49 []))) 520 [.tmp 45, .tmp 50], none⟩, ⟨some 52, .fieldA 1 (.tmp 5), none⟩, ⟨some 53, .load false 1 (.tmp 52), none⟩, ⟨some 54, .len (.tmp 53), none⟩, ⟨some 55, .fieldA 1 (.tmp 7), none⟩, ⟨some 56, .load false 1 (.tmp 55), none⟩, ⟨some 57, .fieldA 1 (.tmp 6), none⟩, ⟨some 58, .load false 1 (.tmp 57), none⟩, ⟨some 59, .call (.c (.one (.fn 50 []))) 528 [.tmp 56, .tmp 58], none⟩, ⟨some 60, .call (.c (.one (.fn 49 []))) 529 [.tmp 54, .tmp 59], none⟩, ⟨some 61, .build [.nil, .nil] [(0, (1, .tmp 51)), (1, (1, .tmp 60))], none⟩, ⟨none, .store 2 (.tmp 8) (.tmp 61), none⟩, ⟨some 9, .mv (.c (.one (.t (.int .i64 0)))), none⟩]) .ret))))⟩
theorem k_of12 : cFn Try.prog Try.f14 = some c_of12 := by kernel_rfl
theorem of12_ok (l g : Gr) (p m : Pa) (h : TinyCase l g p m) : CallOK Try.prog 14 [l.v, g.v, p.v, m.v] (.tup [(ofR l g p m).1.v, (false, [.int .i64 (ofR l g p m).2])]) := by
  refine callOK_W (callS_W (by kernel_rfl) Try.func14 k_of12 (callable_of Try.func14 (by kernel_rfl)) (by simp [c_of12]) ?_)
  simp [c_of12, rn0, rn1, rn2, rn3, rn4, rn5, rn6, rn7, evOp, Arg.ev, St.val, St.set, St.new, sliceOf, binInt2, binInt, AV.cells, rdAt, St.live, retOf, resOf, resAll, treeOf, treeCell, treeCells, treeTups, untree, frameOf, TV.av, TR.av, ints, edgs, prs, fillV, splice, intsOf, trees, V1.tree, bx, Gr.v, Pa.v]
  refine callS_tree (given12_ok l g p m h) ?_ ?_ ?_
  · rfl
  · rfl
  by_cases h1 : caseErr l g p m = 0
  case neg =>
    have e : ofR l g p m = (⟨[], []⟩, caseErr l g p m) := by simp [ofR, h1]
    simp [rn0, rn1, rn2, rn3, rn4, rn5, rn6, rn7, evOp, Arg.ev, St.val, St.set, St.new, sliceOf, binInt2, binInt, AV.cells, rdAt, St.live, retOf, resOf, resAll, treeOf, treeCell, treeCells, treeTups, untree, frameOf, TV.av, TR.av, ints, edgs, prs, fillV, splice, intsOf, trees, V1.tree, bx, Gr.v, Pa.v, h1, e]
  obtain ⟨mo, so⟩ := caseErr_ok h1
  have hn := mo.ln; have he := mo.le; have ha1 := mo.ga.n; have ha2 := mo.ga.e
  have l1 : m.nodes.length ≤ 1000 := by omega
  have l2 : m.edges.length ≤ 1000 := by omega
  simp [rn0, rn1, rn2, rn3, rn4, rn5, rn6, rn7, evOp, Arg.ev, St.val, St.set, St.new, sliceOf, binInt2, binInt, AV.cells, rdAt, St.live, retOf, resOf, resAll, treeOf, treeCell, treeCells, treeTups, untree, frameOf, TV.av, TR.av, ints, edgs, prs, fillV, splice, intsOf, trees, V1.tree, bx, Gr.v, Pa.v, dw0, dw1, dw2, dw3, opRd, opWr, opNew, opNewR, opArgs, argsRd, argRd, Arg.rd, AV.refs, V1.refs, refsL, dstL, h1]
  refine dCall_ok (callOK_of_row (ident12_row m.nodes p.nodes l1 h.tp.1)) ?_ ?_ ?_
  · rfl
  · rfl
  simp [rn0, rn1, rn2, rn3, rn4, rn5, rn6, rn7, evOp, Arg.ev, St.val, St.set, St.new, sliceOf, binInt2, binInt, AV.cells, rdAt, St.live, retOf, resOf, resAll, treeOf, treeCell, treeCells, treeTups, untree, frameOf, TV.av, TR.av, ints, edgs, prs, fillV, splice, intsOf, trees, V1.tree, bx, Gr.v, Pa.v, dw0, dw1, dw2, dw3, opRd, opWr, opNew, opNewR, opArgs, argsRd, argRd, Arg.rd, AV.refs, V1.refs, refsL, dstL]
  refine dCall_ok (callOK_of_row (ident12_row m.edges p.edges l2 h.tp.2)) ?_ ?_ ?_
  · rfl
  · rfl
  have q1 := pairsL_len (k := p.nodes) l1
  have q2 := pairsL_len (k := p.edges) l2
  have hw : IntKind.i64.wrap (((pairsL m.nodes p.nodes).length : Int) + (pairsL m.edges p.edges).length) = ((pairsL m.nodes p.nodes).length : Int) + (pairsL m.edges p.edges).length := by rw [wrap64_id] <;> omega
  by_cases h2 : (0 : Int) < (pairsL m.nodes p.nodes).length + (pairsL m.edges p.edges).length
  · have e : ofR l g p m = (⟨[], []⟩, 15) := by simp [ofR, h1, h2]
    simp [rn0, rn1, rn2, rn3, rn4, rn5, rn6, rn7, evOp, Arg.ev, St.val, St.set, St.new, sliceOf, binInt2, binInt, AV.cells, rdAt, St.live, retOf, resOf, resAll, treeOf, treeCell, treeCells, treeTups, untree, frameOf, TV.av, TR.av, ints, edgs, prs, fillV, splice, intsOf, trees, V1.tree, bx, Gr.v, Pa.v, dw0, dw1, dw2, dw3, opRd, opWr, opNew, opNewR, opArgs, argsRd, argRd, Arg.rd, AV.refs, V1.refs, refsL, dstL, h1, hw, h2, e]
    rfl
  simp [rn0, rn1, rn2, rn3, rn4, rn5, rn6, rn7, evOp, Arg.ev, St.val, St.set, St.new, sliceOf, binInt2, binInt, AV.cells, rdAt, St.live, retOf, resOf, resAll, treeOf, treeCell, treeCells, treeTups, untree, frameOf, TV.av, TR.av, ints, edgs, prs, fillV, splice, intsOf, trees, V1.tree, bx, Gr.v, Pa.v, dw0, dw1, dw2, dw3, opRd, opWr, opNew, opNewR, opArgs, argsRd, argRd, Arg.rd, AV.refs, V1.refs, refsL, dstL, h1, hw, h2]
  refine ⟨rfl, ?_⟩
  refine callS_tree (dangl12_row l g p m h.tg h.tm h.tp).ok ?_ ?_ ?_
  · rfl
  · rfl
  by_cases h3 : danglL g p m = []
  case neg =>
    have e : ofR l g p m = (⟨[], []⟩, 14) := by rw [ofR, if_pos h1, if_neg h2, if_neg h3]
    simp [rn0, rn1, rn2, rn3, rn4, rn5, rn6, rn7, evOp, Arg.ev, St.val, St.set, St.new, sliceOf, binInt2, binInt, AV.cells, rdAt, St.live, retOf, resOf, resAll, treeOf, treeCell, treeCells, treeTups, untree, frameOf, TV.av, TR.av, ints, edgs, prs, fillV, splice, intsOf, trees, V1.tree, bx, Gr.v, Pa.v, h1, h3, e]
  have e : ofR l g p m = (⟨restL g.nodes.length (goneL m.nodes p.nodes), restL g.edges.length (goneL m.edges p.edges)⟩, 0) := by rw [ofR, if_pos h1, if_neg h2, if_pos h3]
  have g1 : tiny (goneL m.nodes p.nodes).length := Nat.le_trans goneL_len h.tm.1
  have g2 : tiny (goneL m.edges p.edges).length := Nat.le_trans goneL_len h.tm.2
  simp [rn0, rn1, rn2, rn3, rn4, rn5, rn6, rn7, evOp, Arg.ev, St.val, St.set, St.new, sliceOf, binInt2, binInt, AV.cells, rdAt, St.live, retOf, resOf, resAll, treeOf, treeCell, treeCells, treeTups, untree, frameOf, TV.av, TR.av, ints, edgs, prs, fillV, splice, intsOf, trees, V1.tree, bx, Gr.v, Pa.v, dw0, dw1, dw2, dw3, opRd, opWr, opNew, opNewR, opArgs, argsRd, argRd, Arg.rd, AV.refs, V1.refs, refsL, dstL, h1, h3, e]
  refine dCall_ok (gone12_row m.nodes p.nodes h.tm.1 h.tp.1).ok ?_ ?_ ?_
  · rfl
  · rfl
  simp [rn0, rn1, rn2, rn3, rn4, rn5, rn6, rn7, evOp, Arg.ev, St.val, St.set, St.new, sliceOf, binInt2, binInt, AV.cells, rdAt, St.live, retOf, resOf, resAll, treeOf, treeCell, treeCells, treeTups, untree, frameOf, TV.av, TR.av, ints, edgs, prs, fillV, splice, intsOf, trees, V1.tree, bx, Gr.v, Pa.v, dw0, dw1, dw2, dw3, opRd, opWr, opNew, opNewR, opArgs, argsRd, argRd, Arg.rd, AV.refs, V1.refs, refsL, dstL]
  refine dCall_ok (rest12_row g.nodes.length (goneL m.nodes p.nodes) h.tg.1 g1).ok ?_ ?_ ?_
  · rfl
  · rfl
  simp [rn0, rn1, rn2, rn3, rn4, rn5, rn6, rn7, evOp, Arg.ev, St.val, St.set, St.new, sliceOf, binInt2, binInt, AV.cells, rdAt, St.live, retOf, resOf, resAll, treeOf, treeCell, treeCells, treeTups, untree, frameOf, TV.av, TR.av, ints, edgs, prs, fillV, splice, intsOf, trees, V1.tree, bx, Gr.v, Pa.v, dw0, dw1, dw2, dw3, opRd, opWr, opNew, opNewR, opArgs, argsRd, argRd, Arg.rd, AV.refs, V1.refs, refsL, dstL]
  refine dCall_ok (gone12_row m.edges p.edges h.tm.2 h.tp.2).ok ?_ ?_ ?_
  · rfl
  · rfl
  simp [rn0, rn1, rn2, rn3, rn4, rn5, rn6, rn7, evOp, Arg.ev, St.val, St.set, St.new, sliceOf, binInt2, binInt, AV.cells, rdAt, St.live, retOf, resOf, resAll, treeOf, treeCell, treeCells, treeTups, untree, frameOf, TV.av, TR.av, ints, edgs, prs, fillV, splice, intsOf, trees, V1.tree, bx, Gr.v, Pa.v, dw0, dw1, dw2, dw3, opRd, opWr, opNew, opNewR, opArgs, argsRd, argRd, Arg.rd, AV.refs, V1.refs, refsL, dstL]
  refine dCall_ok (rest12_row g.edges.length (goneL m.edges p.edges) h.tg.2 g2).ok ?_ ?_ ?_
  · rfl
  · rfl
  simp [rn0, rn1, rn2, rn3, rn4, rn5, rn6, rn7, evOp, Arg.ev, St.val, St.set, St.new, sliceOf, binInt2, binInt, AV.cells, rdAt, St.live, retOf, resOf, resAll, treeOf, treeCell, treeCells, treeTups, untree, frameOf, TV.av, TR.av, ints, edgs, prs, fillV, splice, intsOf, trees, V1.tree, bx, Gr.v, Pa.v, dw0, dw1, dw2, dw3, opRd, opWr, opNew, opNewR, opArgs, argsRd, argRd, Arg.rd, AV.refs, V1.refs, refsL, dstL]
  rfl
end Go.Proofs.Ythapbbpdcjmmfaa
