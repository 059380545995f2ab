/-
  Contracts: what the program deletes and keeps, dangling edges. No condition beyond those that each statement names.
-/
import Derived.Test.YthapbbpdcjmmfaaF8
namespace Go.Proofs.Ythapbbpdcjmmfaa
open Abs
set_option linter.unusedSimpArgs false
set_option linter.unusedVariables false

/-- A case: two graphs, a part and a morphism, as the eight cells of a gluing. -/
def gluV (l g : Gr) (p m : Pa) : TV := (true, [ints l.nodes, edgs l.edges, ints g.nodes, edgs g.edges, ints p.nodes, ints p.edges, ints m.nodes, ints m.edges])

def c_deleted : MFunc := ⟨27, [.tmp 2], .seq (.region [⟨some 1, .box 0 77 (.tmp 0), none⟩, ⟨some 2, .mv (.c (.one .nil)), none⟩]) (.seq (.region [⟨some 3, .mv (.c (.one .nil)), none⟩]) (.seq (.seq (.region [⟨some 6, .fieldA 6 (.tmp 1), none⟩, ⟨some 7, .fieldA 0 (.tmp 6), none⟩, ⟨some 8, .load false 1 (.tmp 7), none⟩, ⟨some 9, .len (.tmp 8), none⟩, ⟨some 10, .mv (.c (.one (.t (.int .i64 0)))), none⟩]) (.block 0 (.loop (.seq (.region [⟨some 11, .bin .lss (.tmp 10) (.tmp 9), none⟩]) (.seq (.cond (.tmp 11) .skip (.exit 0)) (.seq (.block 1 (.seq (.region [⟨some 12, .mv (.tmp 10), none⟩, ⟨some 13, .idxA 1 (.tmp 8) (.tmp 10), none⟩, ⟨some 14, .load false 1 (.tmp 13), none⟩, ⟨some 4, .mv (.tmp 12), none⟩, ⟨some 5, .mv (.tmp 14), none⟩]) (.seq (.region [⟨some 15, .fieldA 4 (.tmp 1), none⟩, ⟨some 16, .fieldA 0 (.tmp 15), none⟩, ⟨some 17, .load false 1 (.tmp 16), none⟩, ⟨some 18, .mv (.tmp 4), none⟩, ⟨some 19, .call (.c (.one (.fn 33 []))) 324 [.tmp 17, .tmp 18], none⟩, ⟨some 20, .not (.tmp 19), none⟩]) (.cond (.tmp 20) (.region [⟨some 21, .mv (.tmp 3), none⟩, ⟨some 22, .mv (.tmp 5), none⟩, ⟨some 23, .mkrow 386 3 1 1 [.t (.int .i64 0)] [(0, (1, .tmp 22))], none⟩, ⟨some 24, .append 387 3 1 8 (.tmp 21) (.tmp 23), none⟩, ⟨some 3, .mv (.tmp 24), none⟩]) .skip)))) (.region [⟨some 25, .bin .add (.tmp 10) (.c (.one (.t (.int .i64 1)))), none⟩, ⟨some 10, .mv (.tmp 25), none⟩]))))))) (.seq (.region [⟨some 26, .mv (.tmp 3), none⟩, ⟨some 2, .mv (.tmp 26), none⟩]) .ret)))⟩
theorem k_deleted : cFn Try.prog Try.f71 = some c_deleted := by kernel_rfl
theorem deleted_row (l g : Gr) (p m : Pa) (hm : tiny m.nodes.length) (hp : tiny p.nodes.length) : RowI Try.prog 71 [gluV l g p m] 3 (goneL m.nodes p.nodes) := by
  refine callRow_W (plain_ints _) (by simp) (by omega) (callS_W (by kernel_rfl) Try.func71 k_deleted (callable_of Try.func71 (by kernel_rfl)) (by simp [c_deleted]) ?_)
  simp [c_deleted, rn0, rn1, rn2, rn3, rn4, rn5, rn6, rn7, evOp, Arg.ev, St.val, St.set, St.new, sliceOf, binInt2, binInt, AV.cells, rdAt, St.live, retOf, resOf, resAll, treeOf, treeCell, treeCells, treeTups, untree, frameOf, TV.av, TR.av, ints, edgs, prs, fillV, splice, intsOf, trees, V1.tree, bx, Gr.v, Pa.v, gluV]
  refine loopW_count 10 m.nodes.length (fun k S => S.fr 1 = .one (.ptr (0, 0) 0) ∧ S.fr 8 = .one (.t (ints m.nodes)) ∧ S.fr 9 = .one (.t (.int .i64 m.nodes.length)) ∧ S.ob (0, 0) = some (bx 77 ((gluV l g p m).2.map .t)) ∧
    outR 387 3 1 (collect (goneF m.nodes p.nodes) k).length ((collect (goneF m.nodes p.nodes) k).map (.int .i64)) S.ob (S.fr 3)) hm.small ?_ ?_ ?_
  · simp [rn0, rn1, rn2, rn3, rn4, rn5, rn6, rn7, evOp, Arg.ev, St.val, St.set, St.new, sliceOf, binInt2, binInt, AV.cells, rdAt, St.live, retOf, resOf, resAll, treeOf, treeCell, treeCells, treeTups, untree, frameOf, TV.av, TR.av, ints, edgs, prs, fillV, splice, intsOf, trees, V1.tree, bx, Gr.v, Pa.v, gluV, collect_zero, outR_nil]
  · rintro k S hlt hw hc ⟨f1, f8, f9, o0, ho⟩
    simp [rn0, rn1, rn2, rn3, rn4, rn5, rn6, rn7, evOp, Arg.ev, St.val, St.set, St.new, sliceOf, binInt2, binInt, AV.cells, rdAt, St.live, retOf, resOf, resAll, treeOf, treeCell, treeCells, treeTups, untree, frameOf, TV.av, TR.av, ints, edgs, prs, fillV, splice, intsOf, trees, V1.tree, bx, Gr.v, Pa.v, gluV, f1, f8, f9, o0, hc, hlt, drop_nth hlt]
    refine callS_tree (contains_ok p.nodes k hp.small) ?_ ?_ ?_
    · rfl
    · rfl
    by_cases hm' : (k : Int) ∈ p.nodes
    · have e : goneF m.nodes p.nodes k = none := by simp [goneF, hm']
      simp [rn0, rn1, rn2, rn3, rn4, rn5, rn6, rn7, evOp, Arg.ev, St.val, St.set, St.new, sliceOf, binInt2, binInt, AV.cells, rdAt, St.live, retOf, resOf, resAll, treeOf, treeCell, treeCells, treeTups, untree, frameOf, TV.av, TR.av, ints, edgs, prs, fillV, splice, intsOf, trees, V1.tree, bx, Gr.v, Pa.v, gluV, f1, f8, f9, o0, hc, hlt, hm', hw, collect_none e, ho]
    · have e : goneF m.nodes p.nodes k = some (nth m.nodes k) := by simp [goneF, hm']
      have hlen := collect_len (f := goneF m.nodes p.nodes) (k := k)
      simp only [tiny] at hm
      simp [rn0, rn1, rn2, rn3, rn4, rn5, rn6, rn7, evOp, Arg.ev, St.val, St.set, St.new, sliceOf, binInt2, binInt, AV.cells, rdAt, St.live, retOf, resOf, resAll, treeOf, treeCell, treeCells, treeTups, untree, frameOf, TV.av, TR.av, ints, edgs, prs, fillV, splice, intsOf, trees, V1.tree, bx, Gr.v, Pa.v, gluV, f1, f8, f9, o0, hc, hlt, hm', hw, drop_nth hlt]
      refine kApp_grow (ts := [.int .i64 (nth m.nodes k)]) rfl (ho.keep fun g => by simp [rn0, rn1, rn2, rn3, rn4, rn5, rn6, rn7, evOp, Arg.ev, St.val, St.set, St.new, sliceOf, binInt2, binInt, AV.cells, rdAt, St.live, retOf, resOf, resAll, treeOf, treeCell, treeCells, treeTups, untree, frameOf, TV.av, TR.av, ints, edgs, prs, fillV, splice, intsOf, trees, V1.tree, bx, Gr.v, Pa.v]) (by omega) rfl (by omega) (by omega) fun E hE hob hcnt => ?_
      simp [rn0, rn1, rn2, rn3, rn4, rn5, rn6, rn7, evOp, Arg.ev, St.val, St.set, St.new, sliceOf, binInt2, binInt, AV.cells, rdAt, St.live, retOf, resOf, resAll, treeOf, treeCell, treeCells, treeTups, untree, frameOf, TV.av, TR.av, ints, edgs, prs, fillV, splice, intsOf, trees, V1.tree, bx, Gr.v, Pa.v, gluV, f1, f8, f9, hc, hw, collect_some e, hob, o0]
      simpa using hE
  · rintro S hc ⟨f1, f8, f9, o0, ho⟩
    obtain ⟨u, hu⟩ := ho.one
    rw [hu] at ho
    simp [rn0, rn1, rn2, rn3, rn4, rn5, rn6, rn7, evOp, Arg.ev, St.val, St.set, St.new, sliceOf, binInt2, binInt, AV.cells, rdAt, St.live, retOf, resOf, resAll, treeOf, treeCell, treeCells, treeTups, untree, frameOf, TV.av, TR.av, ints, edgs, prs, fillV, splice, intsOf, trees, V1.tree, bx, Gr.v, Pa.v, f1, f8, f9, hc, hu]
    simpa [goneL] using ho.rowIs

def danglF (g : Gr) (m : Pa) (gone : List Int) (i : Nat) : Option Int := if (i : Int) ∈ m.edges then none else if (eth g.edges i).f ∈ gone then some i else if (eth g.edges i).g ∈ gone then some i else none
/-- The dangling edges. -/
def danglL (g : Gr) (p m : Pa) : List Int := collect (danglF g m (goneL m.nodes p.nodes)) g.edges.length

theorem goneL_len {l k : List Int} : (goneL l k).length ≤ l.length := collect_len

def c_dangling : MFunc := ⟨42, [.tmp 2], .seq (.region [⟨some 1, .box 0 77 (.tmp 0), none⟩, ⟨some 2, .mv (.c (.one .nil)), none⟩]) (.seq (.region [⟨some 7, .load true 8 (.tmp 1), none⟩, ⟨some 8, .call (.c (.one (.fn 71 []))) 65 [.tmp 7], none⟩, ⟨some 3, .mv (.tmp 8), none⟩]) (.seq (.region [⟨some 4, .mv (.c (.one .nil)), none⟩]) (.seq (.seq (.region [⟨some 9, .fieldA 2 (.tmp 1), none⟩, ⟨some 10, .fieldA 1 (.tmp 9), none⟩, ⟨some 11, .load false 1 (.tmp 10), none⟩, ⟨some 12, .len (.tmp 11), none⟩, ⟨some 13, .mv (.c (.one (.t (.int .i64 0)))), none⟩]) (.block 0 (.loop (.seq (.region [⟨some 14, .bin .lss (.tmp 13) (.tmp 12), none⟩]) (.seq (.cond (.tmp 14) .skip (.exit 0)) (.seq (.block 1 (.seq (.region [⟨some 15, .mv (.tmp 13), none⟩, ⟨some 16, .idxA 3 (.tmp 11) (.tmp 13), none⟩, ⟨some 17, .load true 3 (.tmp 16), none⟩, ⟨some 6, .alloc 323 73 [.t (.int .i64 0), .t (.int .i64 0), .t (.int .i64 0)], none⟩, ⟨some 5, .mv (.tmp 15), none⟩, ⟨none, .store 3 (.tmp 6) (.tmp 17), none⟩]) (.seq (.region [⟨some 18, .fieldA 6 (.tmp 1), none⟩, ⟨some 19, .fieldA 1 (.tmp 18), none⟩, ⟨some 20, .load false 1 (.tmp 19), none⟩, ⟨some 21, .mv (.tmp 5), none⟩, ⟨some 22, .call (.c (.one (.fn 33 []))) 388 [.tmp 20, .tmp 21], none⟩, ⟨some 23, .not (.tmp 22), none⟩, ⟨some 24, .mv (.tmp 23), none⟩, ⟨some 25, .mv (.tmp 3), some (24, true)⟩, ⟨some 26, .fieldA 1 (.tmp 6), some (24, true)⟩, ⟨some 27, .load false 1 (.tmp 26), some (24, true)⟩, ⟨some 28, .call (.c (.one (.fn 33 []))) 394 [.tmp 25, .tmp 27], some (24, true)⟩, ⟨some 29, .mv (.tmp 28), some (24, true)⟩, ⟨some 30, .mv (.tmp 3), some (29, false)⟩, ⟨some 31, .fieldA 2 (.tmp 6), some (29, false)⟩, ⟨some 32, .load false 1 (.tmp 31), some (29, false)⟩, ⟨some 33, .call (.c (.one (.fn 33 []))) 399 [.tmp 30, .tmp 32], some (29, false)⟩, ⟨some 34, .pick (.tmp 29) (.c (.one (.t (.bool true)))) (.tmp 33), some (24, true)⟩, ⟨some 35, .pick (.tmp 24) (.tmp 34) (.c (.one (.t (.bool false)))), none⟩]) (.cond (.tmp 35) (.region [⟨some 36, .mv (.tmp 4), none⟩, ⟨some 37, .mv (.tmp 5), none⟩, ⟨some 38, .mkrow 450 3 1 1 [.t (.int .i64 0)] [(0, (1, .tmp 37))], none⟩, ⟨some 39, .append 451 3 1 8 (.tmp 36) (.tmp 38), none⟩, ⟨some 4, .mv (.tmp 39), none⟩]) .skip)))) (.region [⟨some 40, .bin .add (.tmp 13) (.c (.one (.t (.int .i64 1)))), none⟩, ⟨some 13, .mv (.tmp 40), none⟩]))))))) (.seq (.region [⟨some 41, .mv (.tmp 4), none⟩, ⟨some 2, .mv (.tmp 41), none⟩]) .ret))))⟩
theorem k_dangling : cFn Try.prog Try.f43 = some c_dangling := by kernel_rfl
theorem dangling_row (l g : Gr) (p m : Pa) (hg : tinyG g) (hm : tinyP m) (hp : tinyP p) : RowI Try.prog 43 [gluV l g p m] 3 (danglL g p m) := by
  refine callRow_W (plain_ints _) (by simp) (by omega) (callS_W (by kernel_rfl) Try.func43 k_dangling (callable_of Try.func43 (by kernel_rfl)) (by simp [c_dangling]) ?_)
  simp [c_dangling, rn0, rn1, rn2, rn3, rn4, rn5, rn6, rn7, evOp, Arg.ev, St.val, St.set, St.new, sliceOf, binInt2, binInt, AV.cells, rdAt, St.live, retOf, resOf, resAll, treeOf, treeCell, treeCells, treeTups, untree, frameOf, TV.av, TR.av, ints, edgs, prs, fillV, splice, intsOf, trees, V1.tree, bx, Gr.v, Pa.v, gluV]
  refine callS_tree (deleted_row l g p m hm.1 hp.1).ok ?_ ?_ ?_
  · rfl
  · rfl
  simp [rn0, rn1, rn2, rn3, rn4, rn5, rn6, rn7, evOp, Arg.ev, St.val, St.set, St.new, sliceOf, binInt2, binInt, AV.cells, rdAt, St.live, retOf, resOf, resAll, treeOf, treeCell, treeCells, treeTups, untree, frameOf, TV.av, TR.av, ints, edgs, prs, fillV, splice, intsOf, trees, V1.tree, bx, Gr.v, Pa.v, gluV]
  have hgl : tiny (goneL m.nodes p.nodes).length := Nat.le_trans goneL_len hm.1
  refine loopW_count 13 g.edges.length (fun k S => S.fr 1 = .one (.ptr (0, 0) 0) ∧ S.fr 3 = .one (.t (ints (goneL m.nodes p.nodes))) ∧ S.fr 11 = .one (.t (edgs g.edges)) ∧ S.fr 12 = .one (.t (.int .i64 g.edges.length)) ∧ S.ob (0, 0) = some (bx 77 ((gluV l g p m).2.map .t)) ∧
    outR 451 3 1 (collect (danglF g m (goneL m.nodes p.nodes)) k).length ((collect (danglF g m (goneL m.nodes p.nodes)) k).map (.int .i64)) S.ob (S.fr 4)) hg.2.small ?_ ?_ ?_
  · simp [rn0, rn1, rn2, rn3, rn4, rn5, rn6, rn7, evOp, Arg.ev, St.val, St.set, St.new, sliceOf, binInt2, binInt, AV.cells, rdAt, St.live, retOf, resOf, resAll, treeOf, treeCell, treeCells, treeTups, untree, frameOf, TV.av, TR.av, ints, edgs, prs, fillV, splice, intsOf, trees, V1.tree, bx, Gr.v, Pa.v, gluV, collect_zero, outR_nil]
  · rintro k S hlt hw hc ⟨f1, f3, f11, f12, o0, ho⟩
    have hlt3 : k * 3 < g.edges.length * 3 := by omega
    have hlen := collect_len (f := danglF g m (goneL m.nodes p.nodes)) (k := k)
    have hg2 := hg.2
    simp only [tiny] at hg2
    simp [rn0, rn1, rn2, rn3, rn4, rn5, rn6, rn7, evOp, Arg.ev, St.val, St.set, St.new, sliceOf, binInt2, binInt, AV.cells, rdAt, St.live, retOf, resOf, resAll, treeOf, treeCell, treeCells, treeTups, untree, frameOf, TV.av, TR.av, ints, edgs, prs, fillV, splice, intsOf, trees, V1.tree, bx, Gr.v, Pa.v, gluV, f1, f3, f11, f12, o0, hc, hlt, hlt3, drop_edL hlt]
    refine callS_tree (contains_ok m.edges k hm.2.small) ?_ ?_ ?_
    · rfl
    · rfl
    by_cases e1 : (k : Int) ∈ m.edges
    · have e : danglF g m (goneL m.nodes p.nodes) k = none := by simp [danglF, e1]
      simp [rn0, rn1, rn2, rn3, rn4, rn5, rn6, rn7, evOp, Arg.ev, St.val, St.set, St.new, sliceOf, binInt2, binInt, AV.cells, rdAt, St.live, retOf, resOf, resAll, treeOf, treeCell, treeCells, treeTups, untree, frameOf, TV.av, TR.av, ints, edgs, prs, fillV, splice, intsOf, trees, V1.tree, bx, Gr.v, Pa.v, gluV, f1, f3, f11, f12, o0, hc, hw, hlt, hlt3, e1, collect_none e]
      exact ho.keep fun g => by simp [rn0, rn1, rn2, rn3, rn4, rn5, rn6, rn7, evOp, Arg.ev, St.val, St.set, St.new, sliceOf, binInt2, binInt, AV.cells, rdAt, St.live, retOf, resOf, resAll, treeOf, treeCell, treeCells, treeTups, untree, frameOf, TV.av, TR.av, ints, edgs, prs, fillV, splice, intsOf, trees, V1.tree, bx, Gr.v, Pa.v]
    simp [rn0, rn1, rn2, rn3, rn4, rn5, rn6, rn7, evOp, Arg.ev, St.val, St.set, St.new, sliceOf, binInt2, binInt, AV.cells, rdAt, St.live, retOf, resOf, resAll, treeOf, treeCell, treeCells, treeTups, untree, frameOf, TV.av, TR.av, ints, edgs, prs, fillV, splice, intsOf, trees, V1.tree, bx, Gr.v, Pa.v, gluV, f1, f3, f11, f12, o0, hc, hlt, hlt3, e1]
    refine callS_tree (contains_ok (goneL m.nodes p.nodes) (eth g.edges k).f hgl.small) ?_ ?_ ?_
    · rfl
    · rfl
    by_cases e2 : (eth g.edges k).f ∈ goneL m.nodes p.nodes
    · have e : danglF g m (goneL m.nodes p.nodes) k = some (k : Int) := by simp [danglF, e1, e2]
      simp [rn0, rn1, rn2, rn3, rn4, rn5, rn6, rn7, evOp, Arg.ev, St.val, St.set, St.new, sliceOf, binInt2, binInt, AV.cells, rdAt, St.live, retOf, resOf, resAll, treeOf, treeCell, treeCells, treeTups, untree, frameOf, TV.av, TR.av, ints, edgs, prs, fillV, splice, intsOf, trees, V1.tree, bx, Gr.v, Pa.v, gluV, f1, f3, f11, f12, o0, hc, hlt, hlt3, e1, e2]
      refine kApp_grow (ts := [.int .i64 k]) rfl (ho.keep fun g => by simp [rn0, rn1, rn2, rn3, rn4, rn5, rn6, rn7, evOp, Arg.ev, St.val, St.set, St.new, sliceOf, binInt2, binInt, AV.cells, rdAt, St.live, retOf, resOf, resAll, treeOf, treeCell, treeCells, treeTups, untree, frameOf, TV.av, TR.av, ints, edgs, prs, fillV, splice, intsOf, trees, V1.tree, bx, Gr.v, Pa.v]) (by omega) rfl (by omega) (by omega) fun E hE hob hcnt => ?_
      simp [rn0, rn1, rn2, rn3, rn4, rn5, rn6, rn7, evOp, Arg.ev, St.val, St.set, St.new, sliceOf, binInt2, binInt, AV.cells, rdAt, St.live, retOf, resOf, resAll, treeOf, treeCell, treeCells, treeTups, untree, frameOf, TV.av, TR.av, ints, edgs, prs, fillV, splice, intsOf, trees, V1.tree, bx, Gr.v, Pa.v, gluV, f1, f3, f11, f12, hc, hw, collect_some e, hob, o0]
      simpa using hE
    simp [rn0, rn1, rn2, rn3, rn4, rn5, rn6, rn7, evOp, Arg.ev, St.val, St.set, St.new, sliceOf, binInt2, binInt, AV.cells, rdAt, St.live, retOf, resOf, resAll, treeOf, treeCell, treeCells, treeTups, untree, frameOf, TV.av, TR.av, ints, edgs, prs, fillV, splice, intsOf, trees, V1.tree, bx, Gr.v, Pa.v, gluV, f1, f3, f11, f12, o0, hc, hlt, hlt3, e1, e2]
    refine callS_tree (contains_ok (goneL m.nodes p.nodes) (eth g.edges k).g hgl.small) ?_ ?_ ?_
    · rfl
    · rfl
    by_cases e3 : (eth g.edges k).g ∈ goneL m.nodes p.nodes
    · have e : danglF g m (goneL m.nodes p.nodes) k = some (k : Int) := by simp [danglF, e1, e2, e3]
      simp [rn0, rn1, rn2, rn3, rn4, rn5, rn6, rn7, evOp, Arg.ev, St.val, St.set, St.new, sliceOf, binInt2, binInt, AV.cells, rdAt, St.live, retOf, resOf, resAll, treeOf, treeCell, treeCells, treeTups, untree, frameOf, TV.av, TR.av, ints, edgs, prs, fillV, splice, intsOf, trees, V1.tree, bx, Gr.v, Pa.v, gluV, f1, f3, f11, f12, o0, hc, hlt, hlt3, e1, e2, e3]
      refine kApp_grow (ts := [.int .i64 k]) rfl (ho.keep fun g => by simp [rn0, rn1, rn2, rn3, rn4, rn5, rn6, rn7, evOp, Arg.ev, St.val, St.set, St.new, sliceOf, binInt2, binInt, AV.cells, rdAt, St.live, retOf, resOf, resAll, treeOf, treeCell, treeCells, treeTups, untree, frameOf, TV.av, TR.av, ints, edgs, prs, fillV, splice, intsOf, trees, V1.tree, bx, Gr.v, Pa.v]) (by omega) rfl (by omega) (by omega) fun E hE hob hcnt => ?_
      simp [rn0, rn1, rn2, rn3, rn4, rn5, rn6, rn7, evOp, Arg.ev, St.val, St.set, St.new, sliceOf, binInt2, binInt, AV.cells, rdAt, St.live, retOf, resOf, resAll, treeOf, treeCell, treeCells, treeTups, untree, frameOf, TV.av, TR.av, ints, edgs, prs, fillV, splice, intsOf, trees, V1.tree, bx, Gr.v, Pa.v, gluV, f1, f3, f11, f12, hc, hw, collect_some e, hob, o0]
      simpa using hE
    · have e : danglF g m (goneL m.nodes p.nodes) k = none := by simp [danglF, e1, e2, e3]
      simp [rn0, rn1, rn2, rn3, rn4, rn5, rn6, rn7, evOp, Arg.ev, St.val, St.set, St.new, sliceOf, binInt2, binInt, AV.cells, rdAt, St.live, retOf, resOf, resAll, treeOf, treeCell, treeCells, treeTups, untree, frameOf, TV.av, TR.av, ints, edgs, prs, fillV, splice, intsOf, trees, V1.tree, bx, Gr.v, Pa.v, gluV, f1, f3, f11, f12, o0, hc, hw, hlt, hlt3, e1, e2, e3, collect_none e]
      exact ho.keep fun g => by simp [rn0, rn1, rn2, rn3, rn4, rn5, rn6, rn7, evOp, Arg.ev, St.val, St.set, St.new, sliceOf, binInt2, binInt, AV.cells, rdAt, St.live, retOf, resOf, resAll, treeOf, treeCell, treeCells, treeTups, untree, frameOf, TV.av, TR.av, ints, edgs, prs, fillV, splice, intsOf, trees, V1.tree, bx, Gr.v, Pa.v]
  · rintro S hc ⟨f1, f3, f11, f12, o0, ho⟩
    obtain ⟨u, hu⟩ := ho.one
    rw [hu] at ho
    simp [rn0, rn1, rn2, rn3, rn4, rn5, rn6, rn7, evOp, Arg.ev, St.val, St.set, St.new, sliceOf, binInt2, binInt, AV.cells, rdAt, St.live, retOf, resOf, resAll, treeOf, treeCell, treeCells, treeTups, untree, frameOf, TV.av, TR.av, ints, edgs, prs, fillV, splice, intsOf, trees, V1.tree, bx, Gr.v, Pa.v, f1, f11, f12, hc, hu]
    simpa [danglL] using ho.rowIs
end Go.Proofs.Ythapbbpdcjmmfaa
