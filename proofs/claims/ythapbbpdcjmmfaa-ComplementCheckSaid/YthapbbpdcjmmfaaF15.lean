/-
  Contracts: the least part with some elements. No condition beyond those that each statement names.
-/
import Derived.Test.YthapbbpdcjmmfaaF13
namespace Go.Proofs.Ythapbbpdcjmmfaa
open Abs
set_option linter.unusedSimpArgs false
set_option linter.unusedVariables false

theorem untree_t (cs : List C) : untree (cs.map .t) = some cs := by
  induction cs with
  | nil => rfl
  | cons c r ih => simp [untree, ih]

/-- Marks, as cells. -/
def markB (g : List Int) (n : Nat) : List C := (List.range n).map fun (i : Nat) => C.bool (decide ((i : Int) ∈ g))
theorem markC_eq {g : List Int} {n : Nat} : markC g n = (markB g n).map .t := by simp [markC, markB]
theorem len_markB {g : List Int} {n : Nat} : (markB g n).length = n := by simp [markB]
theorem drop_markB {g : List Int} {n k : Nat} (h : k < n) : (markB g n).drop k = .bool (decide ((k : Int) ∈ g)) :: (markB g n).drop (k + 1) := by
  rw [List.drop_eq_getElem_cons (by rw [len_markB]; exact h)]
  simp [markB]

def c_marked : MFunc := ⟨20, [.tmp 2], .seq (.region [⟨some 2, .mv (.c (.one .nil)), none⟩]) (.seq (.region [⟨some 3, .mv (.c (.one .nil)), none⟩]) (.seq (.seq (.region [⟨some 4, .mv (.c (.one (.t (.int .i64 0)))), none⟩]) (.block 0 (.loop (.seq (.seq (.region [⟨some 5, .mv (.tmp 4), none⟩, ⟨some 6, .mv (.tmp 0), none⟩, ⟨some 7, .len (.tmp 6), none⟩, ⟨some 8, .bin .lss (.tmp 5) (.tmp 7), none⟩]) (.cond (.tmp 8) .skip (.exit 0))) (.seq (.block 1 (.seq (.region [⟨some 11, .mv (.tmp 0), none⟩, ⟨some 12, .mv (.tmp 4), none⟩, ⟨some 13, .idxA 1 (.tmp 11) (.tmp 12), none⟩, ⟨some 14, .load false 1 (.tmp 13), none⟩]) (.cond (.tmp 14) (.region [⟨some 15, .mv (.tmp 3), none⟩, ⟨some 16, .mv (.tmp 4), none⟩, ⟨some 17, .mkrow 386 3 1 1 [.t (.int .i64 0)] [(0, (1, .tmp 16))], none⟩, ⟨some 18, .append 387 3 1 8 (.tmp 15) (.tmp 17), none⟩, ⟨some 3, .mv (.tmp 18), none⟩]) .skip))) (.region [⟨some 9, .mv (.tmp 4), none⟩, ⟨some 10, .bin .add (.tmp 9) (.c (.one (.t (.int .i64 1)))), none⟩, ⟨some 4, .mv (.tmp 10), none⟩])))))) (.seq (.region [⟨some 19, .mv (.tmp 3), none⟩, ⟨some 2, .mv (.tmp 19), none⟩]) .ret)))⟩
theorem k_marked : cFn Try.prog Try.f83 = some c_marked := by kernel_rfl
theorem marked_row (n : Nat) (g : List Int) (hn : tiny n) : RowI Try.prog 83 [(false, [.sl n (markB g n)])] 3 (canon n g) := by
  refine callRow_W (plain_ints _) (by simp) (by omega) (callS_W (by kernel_rfl) Try.func83 k_marked (callable_of Try.func83 (by kernel_rfl)) (by simp [c_marked]) ?_)
  simp [c_marked, rn0, rn1, rn2, rn3, rn4, rn5, rn6, rn7, evOp, Arg.ev, St.val, St.set, St.new, sliceOf, binInt2, binInt, AV.cells, rdAt, St.live, retOf, resOf, resAll, treeOf, treeCell, treeCells, treeTups, untree, frameOf, TV.av, TR.av, ints, edgs, prs, fillV, splice, intsOf, trees, V1.tree, bx, Gr.v, Pa.v]
  refine loopW_count 4 n (fun k S => S.fr 0 = .one (.t (.sl n (markB g n))) ∧ outR 387 3 1 (collect (canonF g) k).length ((collect (canonF g) k).map (.int .i64)) S.ob (S.fr 3)) hn.small ?_ ?_ ?_
  · simp [rn0, rn1, rn2, rn3, rn4, rn5, rn6, rn7, evOp, Arg.ev, St.val, St.set, St.new, sliceOf, binInt2, binInt, AV.cells, rdAt, St.live, retOf, resOf, resAll, treeOf, treeCell, treeCells, treeTups, untree, frameOf, TV.av, TR.av, ints, edgs, prs, fillV, splice, intsOf, trees, V1.tree, bx, Gr.v, Pa.v, collect_zero, outR_nil]
  · rintro k S hlt hw hc ⟨f0, ho⟩
    have hlen := collect_len (f := canonF g) (k := k)
    simp only [tiny] at hn
    by_cases hm : (k : Int) ∈ g
    · have e : canonF g k = some (k : Int) := by simp [canonF, hm]
      simp [rn0, rn1, rn2, rn3, rn4, rn5, rn6, rn7, evOp, Arg.ev, St.val, St.set, St.new, sliceOf, binInt2, binInt, AV.cells, rdAt, St.live, retOf, resOf, resAll, treeOf, treeCell, treeCells, treeTups, untree, frameOf, TV.av, TR.av, ints, edgs, prs, fillV, splice, intsOf, trees, V1.tree, bx, Gr.v, Pa.v, f0, hc, hlt, len_markB, drop_markB hlt, hm, hw]
      refine kApp_grow (ts := [.int .i64 k]) rfl (ho.keep fun g => by simp [rn0, rn1, rn2, rn3, rn4, rn5, rn6, rn7, evOp, Arg.ev, St.val, St.set, St.new, sliceOf, binInt2, binInt, AV.cells, rdAt, St.live, retOf, resOf, resAll, treeOf, treeCell, treeCells, treeTups, untree, frameOf, TV.av, TR.av, ints, edgs, prs, fillV, splice, intsOf, trees, V1.tree, bx, Gr.v, Pa.v]) (by omega) rfl (by omega) (by omega) fun E hE hob hcnt => ?_
      simp [rn0, rn1, rn2, rn3, rn4, rn5, rn6, rn7, evOp, Arg.ev, St.val, St.set, St.new, sliceOf, binInt2, binInt, AV.cells, rdAt, St.live, retOf, resOf, resAll, treeOf, treeCell, treeCells, treeTups, untree, frameOf, TV.av, TR.av, ints, edgs, prs, fillV, splice, intsOf, trees, V1.tree, bx, Gr.v, Pa.v, f0, hc, hw, collect_some e]
      simpa using hE
    · have e : canonF g k = none := by simp [canonF, hm]
      simp [rn0, rn1, rn2, rn3, rn4, rn5, rn6, rn7, evOp, Arg.ev, St.val, St.set, St.new, sliceOf, binInt2, binInt, AV.cells, rdAt, St.live, retOf, resOf, resAll, treeOf, treeCell, treeCells, treeTups, untree, frameOf, TV.av, TR.av, ints, edgs, prs, fillV, splice, intsOf, trees, V1.tree, bx, Gr.v, Pa.v, f0, hc, hlt, len_markB, drop_markB hlt, hm, hw, collect_none e, ho]
  · rintro S hc ⟨f0, ho⟩
    obtain ⟨u, hu⟩ := ho.one
    rw [hu] at ho
    simp [rn0, rn1, rn2, rn3, rn4, rn5, rn6, rn7, evOp, Arg.ev, St.val, St.set, St.new, sliceOf, binInt2, binInt, AV.cells, rdAt, St.live, retOf, resOf, resAll, treeOf, treeCell, treeCells, treeTups, untree, frameOf, TV.av, TR.av, ints, edgs, prs, fillV, splice, intsOf, trees, V1.tree, bx, Gr.v, Pa.v, f0, hc, hu]
    simpa [canon] using ho.rowIs

/-- The ends of the marked edges. -/
def endsL (g : Gr) (T : List Int) (k : Nat) : List Int := gather (fun i => if (i : Int) ∈ T then [(eth g.edges i).f, (eth g.edges i).g] else []) k

theorem leastM {g : Gr} {T S : List Int} {k : Nat} : S ++ endsL g T (k + 1) = S ++ endsL g T k ++ (if (k : Int) ∈ T then [(eth g.edges k).f, (eth g.edges k).g] else []) := by
  simp [endsL, gather_succ]

def c_least : MFunc := ⟨43, [.cell 6 true 2], .seq (.region [⟨some 3, .box 0 25 (.tmp 0), none⟩, ⟨some 6, .alloc 1 27 [.nil, .nil], none⟩]) (.seq (.region [⟨some 9, .mkrow 64 4 1 0 [] [], none⟩, ⟨some 10, .mv (.tmp 1), none⟩, ⟨some 11, .append 66 4 1 1 (.tmp 9) (.tmp 10), none⟩, ⟨some 7, .mv (.tmp 11), none⟩]) (.seq (.seq (.region [⟨some 8, .mv (.c (.one (.t (.int .i64 0)))), none⟩]) (.block 0 (.loop (.seq (.seq (.region [⟨some 12, .mv (.tmp 8), none⟩, ⟨some 13, .mv (.tmp 2), none⟩, ⟨some 14, .len (.tmp 13), none⟩, ⟨some 15, .bin .lss (.tmp 12) (.tmp 14), none⟩]) (.cond (.tmp 15) .skip (.exit 0))) (.seq (.block 1 (.seq (.region [⟨some 18, .mv (.tmp 2), none⟩, ⟨some 19, .mv (.tmp 8), none⟩, ⟨some 20, .idxA 1 (.tmp 18) (.tmp 19), none⟩, ⟨some 21, .load false 1 (.tmp 20), none⟩]) (.cond (.tmp 21) (.draw [[], [], [1], [], [2, 3], [4], [5], [], [], [8], [], [9, 10], [11], [12], [0, 6, 0, 1, 2, 3, 4, 5, 6, 13], [14, 0, 1, 2, 3, 4, 5, 6, 13], [7, 13, 0, 1, 2, 3, 4, 5, 6, 7, 8, 9, 10, 11, 12, 13, 14, 15], [16, 15, 0, 1, 2, 3, 4, 5, 6, 7, 8, 9, 10, 11, 12, 13, 14, 15]] [⟨some 22, .mv (.tmp 7), none⟩, ⟨some 23, .fieldA 1 (.tmp 3), none⟩, ⟨some 24, .load false 1 (.tmp 23), none⟩, ⟨some 25, .mv (.tmp 8), none⟩, ⟨some 26, .idxA 3 (.tmp 24) (.tmp 25), none⟩, ⟨some 27, .fieldA 1 (.tmp 26), none⟩, ⟨some 28, .load false 1 (.tmp 27), none⟩, ⟨some 29, .mv (.tmp 7), none⟩, ⟨some 30, .fieldA 1 (.tmp 3), none⟩, ⟨some 31, .load false 1 (.tmp 30), none⟩, ⟨some 32, .mv (.tmp 8), none⟩, ⟨some 33, .idxA 3 (.tmp 31) (.tmp 32), none⟩, ⟨some 34, .fieldA 2 (.tmp 33), none⟩, ⟨some 35, .load false 1 (.tmp 34), none⟩, ⟨some 36, .idxA 1 (.tmp 22) (.tmp 28), none⟩, ⟨none, .store 1 (.tmp 36) (.c (.one (.t (.bool true)))), none⟩, ⟨some 37, .idxA 1 (.tmp 29) (.tmp 35), none⟩, ⟨none, .store 1 (.tmp 37) (.c (.one (.t (.bool true)))), none⟩]) .skip))) (.region [⟨some 16, .mv (.tmp 8), none⟩, ⟨some 17, .bin .add (.tmp 16) (.c (.one (.t (.int .i64 1)))), none⟩, ⟨some 8, .mv (.tmp 17), none⟩])))))) (.seq (.region [⟨some 38, .mv (.tmp 7), none⟩, ⟨some 39, .call (.c (.one (.fn 83 []))) 449 [.tmp 38], none⟩, ⟨some 40, .mv (.tmp 2), none⟩, ⟨some 41, .call (.c (.one (.fn 83 []))) 451 [.tmp 40], none⟩, ⟨some 42, .build [.nil, .nil] [(0, (1, .tmp 39)), (1, (1, .tmp 41))], none⟩, ⟨none, .store 2 (.tmp 6) (.tmp 42), none⟩]) .ret)))⟩
theorem k_least : cFn Try.prog Try.f60 = some c_least := by kernel_rfl
theorem least_ok (g : Gr) (S T : List Int) (hg : GrOk g) : CallOK Try.prog 60 [g.v, (false, [.sl g.nodes.length (markB S g.nodes.length)]), (false, [.sl g.edges.length (markB T g.edges.length)])]
    (.sv (Pa.v ⟨canon g.nodes.length (S ++ endsL g T g.edges.length), canon g.edges.length T⟩)) := by
  refine callOK_W (callS_W (by kernel_rfl) Try.func60 k_least (callable_of Try.func60 (by kernel_rfl)) (by simp [c_least]) ?_)
  have hn := hg.n
  have he := hg.e
  have hn8 : g.nodes.length ≤ 140737488355328 := by omega
  have hn9 : g.nodes.length ≤ 9223372036854775807 := by omega
  have fin : ∀ (v : AV) (R : St → Prop), True := fun _ _ => trivial
  by_cases h0 : g.nodes.length = 0
  · have hE : g.edges = [] := by
      cases hh : g.edges with
      | nil => rfl
      | cons e r =>
        have := hg.edges e (by rw [hh]; simp)
        omega
    have hN : g.nodes = [] := List.eq_nil_of_length_eq_zero h0
    have r0 := (marked_row 0 (S ++ endsL g T 0) (by decide)).ok
    have hloop : True := trivial
    simp [c_least, rn0, rn1, rn2, rn3, rn4, rn5, rn6, rn7, evOp, Arg.ev, St.val, St.set, St.new, sliceOf, binInt2, binInt, AV.cells, rdAt, St.live, retOf, resOf, resAll, treeOf, treeCell, treeCells, treeTups, untree, frameOf, TV.av, TR.av, ints, edgs, prs, fillV, splice, intsOf, trees, V1.tree, bx, Gr.v, Pa.v, hE, hN, kApp, evApp, markB, trees_t]
    refine loopW_count 8 0 (fun _ (S' : St) => S'.fr 7 = .one .nil ∧ S'.fr 6 = .one (.ptr (1, 0) 0) ∧ S'.fr 2 = .one (.t (.sl 0 [])) ∧ S'.ob (1, 0) = some (bx 27 [.nil, .nil])) (by decide) ?_ ?_ ?_
    · simp [rn0, rn1, rn2, rn3, rn4, rn5, rn6, rn7, evOp, Arg.ev, St.val, St.set, St.new, sliceOf, binInt2, binInt, AV.cells, rdAt, St.live, retOf, resOf, resAll, treeOf, treeCell, treeCells, treeTups, untree, frameOf, TV.av, TR.av, ints, edgs, prs, fillV, splice, intsOf, trees, V1.tree, bx, Gr.v, Pa.v]
    · intro k S' hlt
      exact absurd hlt (by omega)
    · rintro S' hc ⟨f7, f6, f2, o1⟩
      have r1 := (marked_row 0 [] (by decide)).ok
      have ec : ∀ S, canon 0 S = [] := fun S => rfl
      rw [ec] at r1
      simp [rn0, rn1, rn2, rn3, rn4, rn5, rn6, rn7, evOp, Arg.ev, St.val, St.set, St.new, sliceOf, binInt2, binInt, AV.cells, rdAt, St.live, retOf, resOf, resAll, treeOf, treeCell, treeCells, treeTups, untree, frameOf, TV.av, TR.av, ints, edgs, prs, fillV, splice, intsOf, trees, V1.tree, bx, Gr.v, Pa.v, f7, f6, f2, o1, hc]
      refine callS_tree r1 ?_ ?_ ?_
      · rfl
      · rfl
      simp [rn0, rn1, rn2, rn3, rn4, rn5, rn6, rn7, evOp, Arg.ev, St.val, St.set, St.new, sliceOf, binInt2, binInt, AV.cells, rdAt, St.live, retOf, resOf, resAll, treeOf, treeCell, treeCells, treeTups, untree, frameOf, TV.av, TR.av, ints, edgs, prs, fillV, splice, intsOf, trees, V1.tree, bx, Gr.v, Pa.v, f7, f6, f2, o1, hc]
      refine callS_tree r1 ?_ ?_ ?_
      · rfl
      · rfl
      simp [rn0, rn1, rn2, rn3, rn4, rn5, rn6, rn7, evOp, Arg.ev, St.val, St.set, St.new, sliceOf, binInt2, binInt, AV.cells, rdAt, St.live, retOf, resOf, resAll, treeOf, treeCell, treeCells, treeTups, untree, frameOf, TV.av, TR.av, ints, edgs, prs, fillV, splice, intsOf, trees, V1.tree, bx, Gr.v, Pa.v, f7, f6, f2, o1, hc, ec]
  · simp [c_least, rn0, rn1, rn2, rn3, rn4, rn5, rn6, rn7, evOp, Arg.ev, St.val, St.set, St.new, sliceOf, binInt2, binInt, AV.cells, rdAt, St.live, retOf, resOf, resAll, treeOf, treeCell, treeCells, treeTups, untree, frameOf, TV.av, TR.av, ints, edgs, prs, fillV, splice, intsOf, trees, V1.tree, bx, Gr.v, Pa.v, kApp, evApp, trees_t, len_markB, h0, hn8, hn9]
    refine loopW_count 8 g.edges.length (fun k S' => S'.fr 3 = .one (.ptr (0, 0) 0) ∧ S'.fr 6 = .one (.ptr (1, 0) 0) ∧ S'.fr 2 = .one (.t (.sl g.edges.length (markB T g.edges.length))) ∧ S'.fr 7 = .one (.row (66, 0)) ∧
      S'.ob (0, 0) = some (bx 25 (g.v.2.map .t)) ∧ S'.ob (1, 0) = some (bx 27 [.nil, .nil]) ∧ S'.ob (66, 0) = some ⟨true, true, false, 1, g.nodes.length, 4, markC (S ++ endsL g T k) g.nodes.length⟩) (show _ ≤ _ by omega) ?_ ?_ ?_
    · simp [rn0, rn1, rn2, rn3, rn4, rn5, rn6, rn7, evOp, Arg.ev, St.val, St.set, St.new, sliceOf, binInt2, binInt, AV.cells, rdAt, St.live, retOf, resOf, resAll, treeOf, treeCell, treeCells, treeTups, untree, frameOf, TV.av, TR.av, ints, edgs, prs, fillV, splice, intsOf, trees, V1.tree, bx, Gr.v, Pa.v, markC_eq, endsL, gather_zero]
    · rintro k S' hlt hw hc ⟨f3, f6, f2, f7, o0, o1, o66⟩
      have hlt3 : k * 3 < g.edges.length * 3 := by omega
      by_cases hm : (k : Int) ∈ T
      · obtain ⟨_, _, q1, q2, q3, q4⟩ := hg.edges _ (eth_mem hlt)
        obtain ⟨x, hx⟩ := Int.eq_ofNat_of_zero_le q1
        obtain ⟨y, hy⟩ := Int.eq_ofNat_of_zero_le q3
        have hx2 : x < g.nodes.length := by omega
        have hy2 : y < g.nodes.length := by omega
        have hx3 : x + 1 ≤ g.nodes.length := by omega
        have hy3 : y + 1 ≤ g.nodes.length := by omega
        have e : S ++ endsL g T (k + 1) = S ++ (endsL g T k ++ [(x : Int), (y : Int)]) := by rw [leastM, if_pos hm, hx, hy]; simp
        simp [rn0, rn1, rn2, rn3, rn4, rn5, rn6, rn7, evOp, Arg.ev, St.val, St.set, St.new, sliceOf, binInt2, binInt, AV.cells, rdAt, St.live, retOf, resOf, resAll, treeOf, treeCell, treeCells, treeTups, untree, frameOf, TV.av, TR.av, ints, edgs, prs, fillV, splice, intsOf, trees, V1.tree, bx, Gr.v, Pa.v, dw0, dw1, dw2, dw3, opRd, opWr, opNew, opNewR, opArgs, argsRd, argRd, Arg.rd, AV.refs, V1.refs, refsL, dstL, f3, f6, f2, f7, o0, o1, o66, hc, hlt, hlt3, hw, len_markB, drop_markB hlt, hm, drop_edL hlt, hx, hy, hx2, hy2, hx3, hy3, len_mark, mark_set hx2, mark_set hy2, e]
        rfl
      · have e : endsL g T (k + 1) = endsL g T k := by simp [endsL, gather_succ, hm]
        simp [rn0, rn1, rn2, rn3, rn4, rn5, rn6, rn7, evOp, Arg.ev, St.val, St.set, St.new, sliceOf, binInt2, binInt, AV.cells, rdAt, St.live, retOf, resOf, resAll, treeOf, treeCell, treeCells, treeTups, untree, frameOf, TV.av, TR.av, ints, edgs, prs, fillV, splice, intsOf, trees, V1.tree, bx, Gr.v, Pa.v, f3, f6, f2, f7, o0, o1, o66, hc, hlt, hw, len_markB, drop_markB hlt, hm, e]
    · rintro S' hc ⟨f3, f6, f2, f7, o0, o1, o66⟩
      have r1 := (marked_row g.nodes.length (S ++ endsL g T g.edges.length) (by simp only [tiny]; omega)).ok
      have r2 := (marked_row g.edges.length T (by simp only [tiny]; omega)).ok
      simp [rn0, rn1, rn2, rn3, rn4, rn5, rn6, rn7, evOp, Arg.ev, St.val, St.set, St.new, sliceOf, binInt2, binInt, AV.cells, rdAt, St.live, retOf, resOf, resAll, treeOf, treeCell, treeCells, treeTups, untree, frameOf, TV.av, TR.av, ints, edgs, prs, fillV, splice, intsOf, trees, V1.tree, bx, Gr.v, Pa.v, f3, f6, f2, f7, o0, o1, o66, hc]
      refine callS_freeze [(66, 0)] (callS_tree r1 ?_ ?_ ?_)
      · simp [argTrees, argTree, frzAll, frzOne, rn0, rn1, rn2, rn3, rn4, rn5, rn6, rn7, evOp, Arg.ev, St.val, St.set, St.new, sliceOf, binInt2, binInt, AV.cells, rdAt, St.live, retOf, resOf, resAll, treeOf, treeCell, treeCells, treeTups, untree, frameOf, TV.av, TR.av, ints, edgs, prs, fillV, splice, intsOf, trees, V1.tree, bx, Gr.v, Pa.v, o66, markC_eq, untree_t]
      · simp [frzAll, frzOne, rn0, rn1, rn2, rn3, rn4, rn5, rn6, rn7, evOp, Arg.ev, St.val, St.set, St.new, sliceOf, binInt2, binInt, AV.cells, rdAt, St.live, retOf, resOf, resAll, treeOf, treeCell, treeCells, treeTups, untree, frameOf, TV.av, TR.av, ints, edgs, prs, fillV, splice, intsOf, trees, V1.tree, bx, Gr.v, Pa.v, o66, AV.still, V1.still]
      simp [rn0, rn1, rn2, rn3, rn4, rn5, rn6, rn7, evOp, Arg.ev, St.val, St.set, St.new, sliceOf, binInt2, binInt, AV.cells, rdAt, St.live, retOf, resOf, resAll, treeOf, treeCell, treeCells, treeTups, untree, frameOf, TV.av, TR.av, ints, edgs, prs, fillV, splice, intsOf, trees, V1.tree, bx, Gr.v, Pa.v, frzAll, frzOne, f3, f6, f2, f7, o0, o1, o66, hc]
      refine callS_tree r2 ?_ ?_ ?_
      · rfl
      · rfl
      simp [rn0, rn1, rn2, rn3, rn4, rn5, rn6, rn7, evOp, Arg.ev, St.val, St.set, St.new, sliceOf, binInt2, binInt, AV.cells, rdAt, St.live, retOf, resOf, resAll, treeOf, treeCell, treeCells, treeTups, untree, frameOf, TV.av, TR.av, ints, edgs, prs, fillV, splice, intsOf, trees, V1.tree, bx, Gr.v, Pa.v, f3, f6, f2, f7, o0, o1, o66, hc]
end Go.Proofs.Ythapbbpdcjmmfaa
