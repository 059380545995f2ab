/-
  Contracts: what is to be deleted, what stays, which pairs are identified. No condition beyond those that each statement names.
-/
import Derived.Test.YthapbbpdcjmmfaaF7
namespace Go.Proofs.Ythapbbpdcjmmfaa
open Abs
set_option linter.unusedSimpArgs false
set_option linter.unusedVariables false

def goneF (l keep : List Int) (i : Nat) : Option Int := if (i : Int) ∈ keep then none else some (nth l i)
/-- The images of the elements that are not kept. -/
def goneL (l keep : List Int) : List Int := collect (goneF l keep) l.length
def restF (gone : List Int) (i : Nat) : Option Int := if (i : Int) ∈ gone then none else some i
/-- The numbers below n that are not in a list. -/
def restL (n : Nat) (gone : List Int) : List Int := collect (restF gone) n
def pairF (l keep : List Int) (a b : Nat) : Option (Int × Int) := if a < b ∧ nth l a = nth l b ∧ ¬ ((a : Int) ∈ keep ∧ (b : Int) ∈ keep) then some (a, b) else none
/-- The identified pairs. -/
def pairsL (l keep : List Int) : List (Int × Int) := gather (fun a => collect (pairF l keep a) l.length) l.length

def c_gone12 : MFunc := ⟨25, [.tmp 4], .seq (.region [⟨some 4, .mv (.c (.one .nil)), none⟩]) (.seq (.region [⟨some 5, .mv (.c (.one .nil)), none⟩]) (.seq (.seq (.region [⟨some 6, .mv (.c (.one (.t (.int .i64 0)))), none⟩]) (.block 0 (.loop (.seq (.seq (.region [⟨some 7, .mv (.tmp 6), none⟩, ⟨some 8, .mv (.tmp 0), none⟩, ⟨some 9, .len (.tmp 8), none⟩, ⟨some 10, .bin .lss (.tmp 7) (.tmp 9), none⟩]) (.cond (.tmp 10) .skip (.exit 0))) (.seq (.block 1 (.seq (.region [⟨some 13, .mv (.tmp 1), none⟩, ⟨some 14, .mv (.tmp 6), none⟩, ⟨some 15, .call (.c (.one (.fn 74 []))) 322 [.tmp 13, .tmp 14], none⟩, ⟨some 16, .not (.tmp 15), none⟩]) (.cond (.tmp 16) (.region [⟨some 17, .mv (.tmp 5), none⟩, ⟨some 18, .mv (.tmp 0), none⟩, ⟨some 19, .mv (.tmp 6), none⟩, ⟨some 20, .idxA 1 (.tmp 18) (.tmp 19), none⟩, ⟨some 21, .load false 1 (.tmp 20), none⟩, ⟨some 22, .mkrow 389 3 1 1 [.t (.int .i64 0)] [(0, (1, .tmp 21))], none⟩, ⟨some 23, .append 390 3 1 8 (.tmp 17) (.tmp 22), none⟩, ⟨some 5, .mv (.tmp 23), none⟩]) .skip))) (.region [⟨some 11, .mv (.tmp 6), none⟩, ⟨some 12, .bin .add (.tmp 11) (.c (.one (.t (.int .i64 1)))), none⟩, ⟨some 6, .mv (.tmp 12), none⟩])))))) (.seq (.region [⟨some 24, .mv (.tmp 5), none⟩, ⟨some 4, .mv (.tmp 24), none⟩]) .ret)))⟩
theorem k_gone12 : cFn Try.prog Try.f50 = some c_gone12 := by kernel_rfl
theorem gone12_row (l keep : List Int) (hl : tiny l.length) (hk : tiny keep.length) : RowI Try.prog 50 [(false, [ints l]), (false, [ints keep])] 3 (goneL l keep) := by
  refine callRow_W (plain_ints _) (by simp) (by omega) (callS_W (by kernel_rfl) Try.func50 k_gone12 (callable_of Try.func50 (by kernel_rfl)) (by simp [c_gone12]) ?_)
  simp [c_gone12, rn0, rn1, rn2, rn3, rn4, rn5, rn6, rn7, evOp, Arg.ev, St.val, St.set, St.new, sliceOf, binInt2, binInt, AV.cells, rdAt, St.live, retOf, resOf, resAll, treeOf, treeCell, treeCells, treeTups, untree, frameOf, TV.av, TR.av, ints, edgs, prs, fillV, splice, intsOf, trees, V1.tree, bx, Gr.v, Pa.v]
  refine loopW_count 6 l.length (fun k S => S.fr 0 = .one (.t (ints l)) ∧ S.fr 1 = .one (.t (ints keep)) ∧ outR 390 3 1 (collect (goneF l keep) k).length ((collect (goneF l keep) k).map (.int .i64)) S.ob (S.fr 5)) hl.small ?_ ?_ ?_
  · simp [rn0, rn1, rn2, rn3, rn4, rn5, rn6, rn7, evOp, Arg.ev, St.val, St.set, St.new, sliceOf, binInt2, binInt, AV.cells, rdAt, St.live, retOf, resOf, resAll, treeOf, treeCell, treeCells, treeTups, untree, frameOf, TV.av, TR.av, ints, edgs, prs, fillV, splice, intsOf, trees, V1.tree, bx, Gr.v, Pa.v, collect_zero, outR_nil]
  · rintro k S hlt hw hc ⟨f0, f1, ho⟩
    simp [rn0, rn1, rn2, rn3, rn4, rn5, rn6, rn7, evOp, Arg.ev, St.val, St.set, St.new, sliceOf, binInt2, binInt, AV.cells, rdAt, St.live, retOf, resOf, resAll, treeOf, treeCell, treeCells, treeTups, untree, frameOf, TV.av, TR.av, ints, edgs, prs, fillV, splice, intsOf, trees, V1.tree, bx, Gr.v, Pa.v, f0, f1, hc, hlt]
    refine callS_tree (has12_ok keep k hk.small) ?_ ?_ ?_
    · rfl
    · rfl
    by_cases hm : (k : Int) ∈ keep
    · have e : goneF l keep k = none := by simp [goneF, hm]
      simp [rn0, rn1, rn2, rn3, rn4, rn5, rn6, rn7, evOp, Arg.ev, St.val, St.set, St.new, sliceOf, binInt2, binInt, AV.cells, rdAt, St.live, retOf, resOf, resAll, treeOf, treeCell, treeCells, treeTups, untree, frameOf, TV.av, TR.av, ints, edgs, prs, fillV, splice, intsOf, trees, V1.tree, bx, Gr.v, Pa.v, f0, f1, hc, hlt, hm, hw, collect_none e, ho]
    · have e : goneF l keep k = some (nth l k) := by simp [goneF, hm]
      have hlen := collect_len (f := goneF l keep) (k := k)
      simp only [tiny] at hl
      simp [rn0, rn1, rn2, rn3, rn4, rn5, rn6, rn7, evOp, Arg.ev, St.val, St.set, St.new, sliceOf, binInt2, binInt, AV.cells, rdAt, St.live, retOf, resOf, resAll, treeOf, treeCell, treeCells, treeTups, untree, frameOf, TV.av, TR.av, ints, edgs, prs, fillV, splice, intsOf, trees, V1.tree, bx, Gr.v, Pa.v, f0, f1, hc, hlt, hm, hw, drop_nth hlt]
      refine kApp_grow (ts := [.int .i64 (nth l k)]) rfl (ho.keep fun g => by simp [rn0, rn1, rn2, rn3, rn4, rn5, rn6, rn7, evOp, Arg.ev, St.val, St.set, St.new, sliceOf, binInt2, binInt, AV.cells, rdAt, St.live, retOf, resOf, resAll, treeOf, treeCell, treeCells, treeTups, untree, frameOf, TV.av, TR.av, ints, edgs, prs, fillV, splice, intsOf, trees, V1.tree, bx, Gr.v, Pa.v]) (by omega) rfl (by omega) (by omega) fun E hE hob hcnt => ?_
      simp [rn0, rn1, rn2, rn3, rn4, rn5, rn6, rn7, evOp, Arg.ev, St.val, St.set, St.new, sliceOf, binInt2, binInt, AV.cells, rdAt, St.live, retOf, resOf, resAll, treeOf, treeCell, treeCells, treeTups, untree, frameOf, TV.av, TR.av, ints, edgs, prs, fillV, splice, intsOf, trees, V1.tree, bx, Gr.v, Pa.v, f0, f1, hc, hw, collect_some e]
      simpa using hE
  · rintro S hc ⟨f0, f1, ho⟩
    obtain ⟨u, hu⟩ := ho.one
    rw [hu] at ho
    simp [rn0, rn1, rn2, rn3, rn4, rn5, rn6, rn7, evOp, Arg.ev, St.val, St.set, St.new, sliceOf, binInt2, binInt, AV.cells, rdAt, St.live, retOf, resOf, resAll, treeOf, treeCell, treeCells, treeTups, untree, frameOf, TV.av, TR.av, ints, edgs, prs, fillV, splice, intsOf, trees, V1.tree, bx, Gr.v, Pa.v, f0, f1, hc, hu]
    simpa [goneL] using ho.rowIs

def c_rest12 : MFunc := ⟨21, [.tmp 4], .seq (.region [⟨some 4, .mv (.c (.one .nil)), none⟩]) (.seq (.region [⟨some 5, .mv (.c (.one .nil)), none⟩]) (.seq (.seq (.region [⟨some 6, .mv (.c (.one (.t (.int .i64 0)))), none⟩]) (.block 0 (.loop (.seq (.seq (.region [⟨some 7, .mv (.tmp 6), none⟩, ⟨some 8, .mv (.tmp 0), none⟩, ⟨some 9, .bin .lss (.tmp 7) (.tmp 8), none⟩]) (.cond (.tmp 9) .skip (.exit 0))) (.seq (.block 1 (.seq (.region [⟨some 12, .mv (.tmp 1), none⟩, ⟨some 13, .mv (.tmp 6), none⟩, ⟨some 14, .call (.c (.one (.fn 74 []))) 322 [.tmp 12, .tmp 13], none⟩, ⟨some 15, .not (.tmp 14), none⟩]) (.cond (.tmp 15) (.region [⟨some 16, .mv (.tmp 5), none⟩, ⟨some 17, .mv (.tmp 6), none⟩, ⟨some 18, .mkrow 386 3 1 1 [.t (.int .i64 0)] [(0, (1, .tmp 17))], none⟩, ⟨some 19, .append 387 3 1 8 (.tmp 16) (.tmp 18), none⟩, ⟨some 5, .mv (.tmp 19), none⟩]) .skip))) (.region [⟨some 10, .mv (.tmp 6), none⟩, ⟨some 11, .bin .add (.tmp 10) (.c (.one (.t (.int .i64 1)))), none⟩, ⟨some 6, .mv (.tmp 11), none⟩])))))) (.seq (.region [⟨some 20, .mv (.tmp 5), none⟩, ⟨some 4, .mv (.tmp 20), none⟩]) .ret)))⟩
theorem k_rest12 : cFn Try.prog Try.f49 = some c_rest12 := by kernel_rfl
theorem rest12_row (n : Nat) (gone : List Int) (hn : tiny n) (hk : tiny gone.length) : RowI Try.prog 49 [(false, [.int .i64 n]), (false, [ints gone])] 3 (restL n gone) := by
  refine callRow_W (plain_ints _) (by simp) (by omega) (callS_W (by kernel_rfl) Try.func49 k_rest12 (callable_of Try.func49 (by kernel_rfl)) (by simp [c_rest12]) ?_)
  simp [c_rest12, rn0, rn1, rn2, rn3, rn4, rn5, rn6, rn7, evOp, Arg.ev, St.val, St.set, St.new, sliceOf, binInt2, binInt, AV.cells, rdAt, St.live, retOf, resOf, resAll, treeOf, treeCell, treeCells, treeTups, untree, frameOf, TV.av, TR.av, ints, edgs, prs, fillV, splice, intsOf, trees, V1.tree, bx, Gr.v, Pa.v]
  refine loopW_count 6 n (fun k S => S.fr 0 = .one (.t (.int .i64 n)) ∧ S.fr 1 = .one (.t (ints gone)) ∧ outR 387 3 1 (collect (restF gone) k).length ((collect (restF gone) k).map (.int .i64)) S.ob (S.fr 5)) hn.small ?_ ?_ ?_
  · simp [rn0, rn1, rn2, rn3, rn4, rn5, rn6, rn7, evOp, Arg.ev, St.val, St.set, St.new, sliceOf, binInt2, binInt, AV.cells, rdAt, St.live, retOf, resOf, resAll, treeOf, treeCell, treeCells, treeTups, untree, frameOf, TV.av, TR.av, ints, edgs, prs, fillV, splice, intsOf, trees, V1.tree, bx, Gr.v, Pa.v, collect_zero, outR_nil]
  · rintro k S hlt hw hc ⟨f0, f1, ho⟩
    simp [rn0, rn1, rn2, rn3, rn4, rn5, rn6, rn7, evOp, Arg.ev, St.val, St.set, St.new, sliceOf, binInt2, binInt, AV.cells, rdAt, St.live, retOf, resOf, resAll, treeOf, treeCell, treeCells, treeTups, untree, frameOf, TV.av, TR.av, ints, edgs, prs, fillV, splice, intsOf, trees, V1.tree, bx, Gr.v, Pa.v, f0, f1, hc, hlt]
    refine callS_tree (has12_ok gone k hk.small) ?_ ?_ ?_
    · rfl
    · rfl
    by_cases hm : (k : Int) ∈ gone
    · have e : restF gone k = none := by simp [restF, hm]
      simp [rn0, rn1, rn2, rn3, rn4, rn5, rn6, rn7, evOp, Arg.ev, St.val, St.set, St.new, sliceOf, binInt2, binInt, AV.cells, rdAt, St.live, retOf, resOf, resAll, treeOf, treeCell, treeCells, treeTups, untree, frameOf, TV.av, TR.av, ints, edgs, prs, fillV, splice, intsOf, trees, V1.tree, bx, Gr.v, Pa.v, f0, f1, hc, hlt, hm, hw, collect_none e, ho]
    · have e : restF gone k = some (k : Int) := by simp [restF, hm]
      have hlen := collect_len (f := restF gone) (k := k)
      simp only [tiny] at hn
      simp [rn0, rn1, rn2, rn3, rn4, rn5, rn6, rn7, evOp, Arg.ev, St.val, St.set, St.new, sliceOf, binInt2, binInt, AV.cells, rdAt, St.live, retOf, resOf, resAll, treeOf, treeCell, treeCells, treeTups, untree, frameOf, TV.av, TR.av, ints, edgs, prs, fillV, splice, intsOf, trees, V1.tree, bx, Gr.v, Pa.v, f0, f1, hc, hlt, hm, hw]
      refine kApp_grow (ts := [.int .i64 k]) rfl (ho.keep fun g => by simp [rn0, rn1, rn2, rn3, rn4, rn5, rn6, rn7, evOp, Arg.ev, St.val, St.set, St.new, sliceOf, binInt2, binInt, AV.cells, rdAt, St.live, retOf, resOf, resAll, treeOf, treeCell, treeCells, treeTups, untree, frameOf, TV.av, TR.av, ints, edgs, prs, fillV, splice, intsOf, trees, V1.tree, bx, Gr.v, Pa.v]) (by omega) rfl (by omega) (by omega) fun E hE hob hcnt => ?_
      simp [rn0, rn1, rn2, rn3, rn4, rn5, rn6, rn7, evOp, Arg.ev, St.val, St.set, St.new, sliceOf, binInt2, binInt, AV.cells, rdAt, St.live, retOf, resOf, resAll, treeOf, treeCell, treeCells, treeTups, untree, frameOf, TV.av, TR.av, ints, edgs, prs, fillV, splice, intsOf, trees, V1.tree, bx, Gr.v, Pa.v, f0, f1, hc, hw, collect_some e]
      simpa using hE
  · rintro S hc ⟨f0, f1, ho⟩
    obtain ⟨u, hu⟩ := ho.one
    rw [hu] at ho
    simp [rn0, rn1, rn2, rn3, rn4, rn5, rn6, rn7, evOp, Arg.ev, St.val, St.set, St.new, sliceOf, binInt2, binInt, AV.cells, rdAt, St.live, retOf, resOf, resAll, treeOf, treeCell, treeCells, treeTups, untree, frameOf, TV.av, TR.av, ints, edgs, prs, fillV, splice, intsOf, trees, V1.tree, bx, Gr.v, Pa.v, f0, f1, hc, hu]
    simpa [restL] using ho.rowIs

def c_pairs : MFunc := ⟨50, [.tmp 4], .seq (.region [⟨some 4, .mv (.c (.one .nil)), none⟩]) (.seq (.region [⟨some 5, .mv (.c (.one .nil)), none⟩]) (.seq (.seq (.region [⟨some 8, .mv (.tmp 0), none⟩, ⟨some 9, .len (.tmp 8), none⟩, ⟨some 10, .mv (.c (.one (.t (.int .i64 0)))), none⟩]) (.block 0 (.loop (.seq (.region [⟨some 11, .bin .lss (.tmp 10) (.tmp 9), none⟩]) (.seq (.cond (.tmp 11) .skip (.exit 0)) (.seq (.block 1 (.seq (.region [⟨some 12, .mv (.tmp 10), none⟩, ⟨some 6, .mv (.tmp 12), none⟩]) (.seq (.region [⟨some 13, .mv (.tmp 6), none⟩, ⟨some 14, .bin .add (.tmp 13) (.c (.one (.t (.int .i64 1)))), none⟩, ⟨some 7, .mv (.tmp 14), none⟩]) (.block 2 (.loop (.seq (.seq (.region [⟨some 15, .mv (.tmp 7), none⟩, ⟨some 16, .mv (.tmp 0), none⟩, ⟨some 17, .len (.tmp 16), none⟩, ⟨some 18, .bin .lss (.tmp 15) (.tmp 17), none⟩]) (.cond (.tmp 18) .skip (.exit 2))) (.seq (.block 3 (.seq (.draw [[], [], [0, 1], [2], [], [], [4, 5], [6], [3, 7], [8], [9], [9], [10, 11, 9, 9], [12, 9], [13, 12, 9], [14], [14], [15, 16, 14, 14], [17, 14], [14, 18, 9], [9, 19]] [⟨some 21, .mv (.tmp 0), none⟩, ⟨some 22, .mv (.tmp 6), none⟩, ⟨some 23, .idxA 1 (.tmp 21) (.tmp 22), none⟩, ⟨some 24, .load false 1 (.tmp 23), none⟩, ⟨some 25, .mv (.tmp 0), none⟩, ⟨some 26, .mv (.tmp 7), none⟩, ⟨some 27, .idxA 1 (.tmp 25) (.tmp 26), none⟩, ⟨some 28, .load false 1 (.tmp 27), none⟩, ⟨some 29, .bin .eql (.tmp 24) (.tmp 28), none⟩, ⟨some 30, .mv (.tmp 29), none⟩, ⟨some 31, .mv (.tmp 1), some (30, true)⟩, ⟨some 32, .mv (.tmp 6), some (30, true)⟩, ⟨some 33, .call (.c (.one (.fn 33 []))) 524 [.tmp 31, .tmp 32], some (30, true)⟩, ⟨some 34, .not (.tmp 33), some (30, true)⟩, ⟨some 35, .mv (.tmp 34), some (30, true)⟩, ⟨some 36, .mv (.tmp 1), some (35, false)⟩, ⟨some 37, .mv (.tmp 7), some (35, false)⟩, ⟨some 38, .call (.c (.one (.fn 33 []))) 529 [.tmp 36, .tmp 37], some (35, false)⟩, ⟨some 39, .not (.tmp 38), some (35, false)⟩, ⟨some 40, .pick (.tmp 35) (.c (.one (.t (.bool true)))) (.tmp 39), some (30, true)⟩, ⟨some 41, .pick (.tmp 30) (.tmp 40) (.c (.one (.t (.bool false)))), none⟩]) (.cond (.tmp 41) (.region [⟨some 42, .mv (.tmp 5), none⟩, ⟨some 43, .mv (.tmp 6), none⟩, ⟨some 44, .mv (.tmp 7), none⟩, ⟨some 45, .build [.t (.int .i64 0), .t (.int .i64 0)] [(0, (1, .tmp 43)), (1, (1, .tmp 44))], none⟩, ⟨some 46, .mkrow 580 57 2 1 [.t (.int .i64 0), .t (.int .i64 0)] [(0, (2, .tmp 45))], none⟩, ⟨some 47, .append 581 57 2 16 (.tmp 42) (.tmp 46), none⟩, ⟨some 5, .mv (.tmp 47), none⟩]) .skip))) (.region [⟨some 19, .mv (.tmp 7), none⟩, ⟨some 20, .bin .add (.tmp 19) (.c (.one (.t (.int .i64 1)))), none⟩, ⟨some 7, .mv (.tmp 20), none⟩])))))))) (.region [⟨some 48, .bin .add (.tmp 10) (.c (.one (.t (.int .i64 1)))), none⟩, ⟨some 10, .mv (.tmp 48), none⟩]))))))) (.seq (.region [⟨some 49, .mv (.tmp 5), none⟩, ⟨some 4, .mv (.tmp 49), none⟩]) .ret)))⟩
theorem k_pairs : cFn Try.prog Try.f70 = some c_pairs := by kernel_rfl
theorem pairs_row (l keep : List Int) (hl : l.length ≤ 1000) (hk : tiny keep.length) : CallRow Try.prog 70 [(false, [ints l]), (false, [ints keep])] 57 2 (pairsL l keep).length (prL (pairsL l keep)) := by
  have hl' : small l.length := by simp only [small]; omega
  refine callRow_W (plain_prL _) (len_prL _) (by omega) (callS_W (by kernel_rfl) Try.func70 k_pairs (callable_of Try.func70 (by kernel_rfl)) (by simp [c_pairs]) ?_)
  simp [c_pairs, rn0, rn1, rn2, rn3, rn4, rn5, rn6, rn7, evOp, Arg.ev, St.val, St.set, St.new, sliceOf, binInt2, binInt, AV.cells, rdAt, St.live, retOf, resOf, resAll, treeOf, treeCell, treeCells, treeTups, untree, frameOf, TV.av, TR.av, ints, edgs, prs, fillV, splice, intsOf, trees, V1.tree, bx, Gr.v, Pa.v]
  refine loopW_count 10 l.length (fun k S => S.fr 0 = .one (.t (ints l)) ∧ S.fr 1 = .one (.t (ints keep)) ∧ S.fr 9 = .one (.t (.int .i64 l.length)) ∧
    outR 581 57 2 (gather (fun a => collect (pairF l keep a) l.length) k).length (prL (gather (fun a => collect (pairF l keep a) l.length) k)) S.ob (S.fr 5)) hl' ?_ ?_ ?_
  · simp [rn0, rn1, rn2, rn3, rn4, rn5, rn6, rn7, evOp, Arg.ev, St.val, St.set, St.new, sliceOf, binInt2, binInt, AV.cells, rdAt, St.live, retOf, resOf, resAll, treeOf, treeCell, treeCells, treeTups, untree, frameOf, TV.av, TR.av, ints, edgs, prs, fillV, splice, intsOf, trees, V1.tree, bx, Gr.v, Pa.v, gather_zero, prL, outR_nil]
  · rintro k S hlt hw hc ⟨f0, f1, f9, ho⟩
    simp [rn0, rn1, rn2, rn3, rn4, rn5, rn6, rn7, evOp, Arg.ev, St.val, St.set, St.new, sliceOf, binInt2, binInt, AV.cells, rdAt, St.live, retOf, resOf, resAll, treeOf, treeCell, treeCells, treeTups, untree, frameOf, TV.av, TR.av, ints, edgs, prs, fillV, splice, intsOf, trees, V1.tree, bx, Gr.v, Pa.v, f0, f1, f9, hc, hlt, hw]
    have glen := gather_len (f := fun a => collect (pairF l keep a) l.length) (m := l.length) (fun j => collect_len) k
    have g2 : k * l.length ≤ 1000 * 1000 := Nat.mul_le_mul (by omega) hl
    refine loopW_from 7 (k + 1) l.length (fun j S => S.fr 0 = .one (.t (ints l)) ∧ S.fr 1 = .one (.t (ints keep)) ∧ S.fr 9 = .one (.t (.int .i64 l.length)) ∧ S.fr 6 = .one (.t (.int .i64 k)) ∧ S.fr 10 = .one (.t (.int .i64 k)) ∧
      outR 581 57 2 (gather (fun a => collect (pairF l keep a) l.length) k ++ collect (pairF l keep k) j).length (prL (gather (fun a => collect (pairF l keep a) l.length) k ++ collect (pairF l keep k) j)) S.ob (S.fr 5)) (by omega) hl' ?_ ?_ ?_
    · have e : collect (pairF l keep k) (k + 1) = [] := collect_nil fun j hj => by simp [pairF]; omega
      simp [rn0, rn1, rn2, rn3, rn4, rn5, rn6, rn7, evOp, Arg.ev, St.val, St.set, St.new, sliceOf, binInt2, binInt, AV.cells, rdAt, St.live, retOf, resOf, resAll, treeOf, treeCell, treeCells, treeTups, untree, frameOf, TV.av, TR.av, ints, edgs, prs, fillV, splice, intsOf, trees, V1.tree, bx, Gr.v, Pa.v, f0, f1, f9, hc, e]
      simpa using ho
    · rintro j S' hkj hlt' hw' hc' ⟨f0, f1, f9, f6, f10, ho⟩
      have hlen : (gather (fun a => collect (pairF l keep a) l.length) k ++ collect (pairF l keep k) j).length ≤ 1000000 + 1000 := by
        have := collect_len (f := pairF l keep k) (k := j)
        rw [List.length_append]
        omega
      by_cases e1 : nth l k = nth l j
      case neg =>
        have e : pairF l keep k j = none := by simp [pairF, e1]
        simp [rn0, rn1, rn2, rn3, rn4, rn5, rn6, rn7, evOp, Arg.ev, St.val, St.set, St.new, sliceOf, binInt2, binInt, AV.cells, rdAt, St.live, retOf, resOf, resAll, treeOf, treeCell, treeCells, treeTups, untree, frameOf, TV.av, TR.av, ints, edgs, prs, fillV, splice, intsOf, trees, V1.tree, bx, Gr.v, Pa.v, dw0, dw1, dw2, dw3, opRd, opWr, opNew, opNewR, opArgs, argsRd, argRd, Arg.rd, AV.refs, V1.refs, refsL, dstL, f0, f1, f9, f6, f10, hc', hlt', hlt, e1, drop_nth hlt, drop_nth hlt', hw', collect_none e]
        exact ⟨rfl, by simpa using ho⟩
      simp [rn0, rn1, rn2, rn3, rn4, rn5, rn6, rn7, evOp, Arg.ev, St.val, St.set, St.new, sliceOf, binInt2, binInt, AV.cells, rdAt, St.live, retOf, resOf, resAll, treeOf, treeCell, treeCells, treeTups, untree, frameOf, TV.av, TR.av, ints, edgs, prs, fillV, splice, intsOf, trees, V1.tree, bx, Gr.v, Pa.v, dw0, dw1, dw2, dw3, opRd, opWr, opNew, opNewR, opArgs, argsRd, argRd, Arg.rd, AV.refs, V1.refs, refsL, dstL, f0, f1, f9, f6, f10, hc', hlt', hlt, e1, drop_nth hlt, drop_nth hlt']
      refine dCall_ok (contains_ok keep k hk.small) ?_ ?_ ?_
      · rfl
      · rfl
      by_cases e2 : (k : Int) ∈ keep
      case neg =>
        have e : pairF l keep k j = some ((k : Int), (j : Int)) := by simp [pairF, e1, e2]; omega
        simp [rn0, rn1, rn2, rn3, rn4, rn5, rn6, rn7, evOp, Arg.ev, St.val, St.set, St.new, sliceOf, binInt2, binInt, AV.cells, rdAt, St.live, retOf, resOf, resAll, treeOf, treeCell, treeCells, treeTups, untree, frameOf, TV.av, TR.av, ints, edgs, prs, fillV, splice, intsOf, trees, V1.tree, bx, Gr.v, Pa.v, dw0, dw1, dw2, dw3, opRd, opWr, opNew, opNewR, opArgs, argsRd, argRd, Arg.rd, AV.refs, V1.refs, refsL, dstL, f0, f1, f9, f6, f10, hc', hlt', hlt, e1, e2, drop_nth hlt, drop_nth hlt', hw']
        refine ⟨rfl, ?_⟩
        refine kApp_grow (ts := [.int .i64 k, .int .i64 j]) rfl (ho.keep fun g => by simp [rn0, rn1, rn2, rn3, rn4, rn5, rn6, rn7, evOp, Arg.ev, St.val, St.set, St.new, sliceOf, binInt2, binInt, AV.cells, rdAt, St.live, retOf, resOf, resAll, treeOf, treeCell, treeCells, treeTups, untree, frameOf, TV.av, TR.av, ints, edgs, prs, fillV, splice, intsOf, trees, V1.tree, bx, Gr.v, Pa.v]) (by omega) rfl (by omega) (by omega) fun E hE hob hcnt => ?_
        simp [rn0, rn1, rn2, rn3, rn4, rn5, rn6, rn7, evOp, Arg.ev, St.val, St.set, St.new, sliceOf, binInt2, binInt, AV.cells, rdAt, St.live, retOf, resOf, resAll, treeOf, treeCell, treeCells, treeTups, untree, frameOf, TV.av, TR.av, ints, edgs, prs, fillV, splice, intsOf, trees, V1.tree, bx, Gr.v, Pa.v, f0, f1, f9, f6, f10, hc', hw', collect_some e]
        simpa [prL, prC, Nat.add_assoc] using hE
      simp [rn0, rn1, rn2, rn3, rn4, rn5, rn6, rn7, evOp, Arg.ev, St.val, St.set, St.new, sliceOf, binInt2, binInt, AV.cells, rdAt, St.live, retOf, resOf, resAll, treeOf, treeCell, treeCells, treeTups, untree, frameOf, TV.av, TR.av, ints, edgs, prs, fillV, splice, intsOf, trees, V1.tree, bx, Gr.v, Pa.v, dw0, dw1, dw2, dw3, opRd, opWr, opNew, opNewR, opArgs, argsRd, argRd, Arg.rd, AV.refs, V1.refs, refsL, dstL, f0, f1, f9, f6, f10, hc', hlt', hlt, e1, e2, drop_nth hlt, drop_nth hlt']
      refine dCall_ok (contains_ok keep j hk.small) ?_ ?_ ?_
      · rfl
      · rfl
      by_cases e3 : (j : Int) ∈ keep
      case neg =>
        have e : pairF l keep k j = some ((k : Int), (j : Int)) := by simp [pairF, e1, e2, e3]; omega
        simp [rn0, rn1, rn2, rn3, rn4, rn5, rn6, rn7, evOp, Arg.ev, St.val, St.set, St.new, sliceOf, binInt2, binInt, AV.cells, rdAt, St.live, retOf, resOf, resAll, treeOf, treeCell, treeCells, treeTups, untree, frameOf, TV.av, TR.av, ints, edgs, prs, fillV, splice, intsOf, trees, V1.tree, bx, Gr.v, Pa.v, dw0, dw1, dw2, dw3, opRd, opWr, opNew, opNewR, opArgs, argsRd, argRd, Arg.rd, AV.refs, V1.refs, refsL, dstL, f0, f1, f9, f6, f10, hc', hlt', hlt, e1, e2, e3, drop_nth hlt, drop_nth hlt', hw']
        refine ⟨rfl, ?_⟩
        refine kApp_grow (ts := [.int .i64 k, .int .i64 j]) rfl (ho.keep fun g => by simp [rn0, rn1, rn2, rn3, rn4, rn5, rn6, rn7, evOp, Arg.ev, St.val, St.set, St.new, sliceOf, binInt2, binInt, AV.cells, rdAt, St.live, retOf, resOf, resAll, treeOf, treeCell, treeCells, treeTups, untree, frameOf, TV.av, TR.av, ints, edgs, prs, fillV, splice, intsOf, trees, V1.tree, bx, Gr.v, Pa.v]) (by omega) rfl (by omega) (by omega) fun E hE hob hcnt => ?_
        simp [rn0, rn1, rn2, rn3, rn4, rn5, rn6, rn7, evOp, Arg.ev, St.val, St.set, St.new, sliceOf, binInt2, binInt, AV.cells, rdAt, St.live, retOf, resOf, resAll, treeOf, treeCell, treeCells, treeTups, untree, frameOf, TV.av, TR.av, ints, edgs, prs, fillV, splice, intsOf, trees, V1.tree, bx, Gr.v, Pa.v, f0, f1, f9, f6, f10, hc', hw', collect_some e]
        simpa [prL, prC, Nat.add_assoc] using hE
      case pos =>
        have e : pairF l keep k j = none := by simp [pairF, e1, e2, e3]
        simp [rn0, rn1, rn2, rn3, rn4, rn5, rn6, rn7, evOp, Arg.ev, St.val, St.set, St.new, sliceOf, binInt2, binInt, AV.cells, rdAt, St.live, retOf, resOf, resAll, treeOf, treeCell, treeCells, treeTups, untree, frameOf, TV.av, TR.av, ints, edgs, prs, fillV, splice, intsOf, trees, V1.tree, bx, Gr.v, Pa.v, dw0, dw1, dw2, dw3, opRd, opWr, opNew, opNewR, opArgs, argsRd, argRd, Arg.rd, AV.refs, V1.refs, refsL, dstL, f0, f1, f9, f6, f10, hc', hlt', hlt, e1, e2, e3, drop_nth hlt, drop_nth hlt', hw', collect_none e]
        exact ⟨rfl, by simpa using ho⟩
    · rintro S' hc' ⟨f0, f1, f9, f6, f10, ho⟩
      simp [rn0, rn1, rn2, rn3, rn4, rn5, rn6, rn7, evOp, Arg.ev, St.val, St.set, St.new, sliceOf, binInt2, binInt, AV.cells, rdAt, St.live, retOf, resOf, resAll, treeOf, treeCell, treeCells, treeTups, untree, frameOf, TV.av, TR.av, ints, edgs, prs, fillV, splice, intsOf, trees, V1.tree, bx, Gr.v, Pa.v, f0, f1, f9, hc', f10, hw, gather_succ]
      simpa using ho
  · rintro S hc ⟨f0, f1, f9, ho⟩
    obtain ⟨u, hu⟩ := ho.one
    rw [hu] at ho
    simp [rn0, rn1, rn2, rn3, rn4, rn5, rn6, rn7, evOp, Arg.ev, St.val, St.set, St.new, sliceOf, binInt2, binInt, AV.cells, rdAt, St.live, retOf, resOf, resAll, treeOf, treeCell, treeCells, treeTups, untree, frameOf, TV.av, TR.av, ints, edgs, prs, fillV, splice, intsOf, trees, V1.tree, bx, Gr.v, Pa.v, f0, f1, f9, hc, hu]
    simpa [pairsL] using ho.rowIs
def c_ident12 : MFunc := ⟨50, [.tmp 4], .seq (.region [⟨some 4, .mv (.c (.one .nil)), none⟩]) (.seq (.region [⟨some 5, .mv (.c (.one .nil)), none⟩]) (.seq (.seq (.region [⟨some 6, .mv (.c (.one (.t (.int .i64 0)))), none⟩]) (.block 0 (.loop (.seq (.seq (.region [⟨some 8, .mv (.tmp 6), none⟩, ⟨some 9, .mv (.tmp 0), none⟩, ⟨some 10, .len (.tmp 9), none⟩, ⟨some 11, .bin .lss (.tmp 8) (.tmp 10), none⟩]) (.cond (.tmp 11) .skip (.exit 0))) (.seq (.block 1 (.seq (.region [⟨some 14, .mv (.tmp 6), none⟩, ⟨some 15, .bin .add (.tmp 14) (.c (.one (.t (.int .i64 1)))), none⟩, ⟨some 7, .mv (.tmp 15), none⟩]) (.block 2 (.loop (.seq (.seq (.region [⟨some 16, .mv (.tmp 7), none⟩, ⟨some 17, .mv (.tmp 0), none⟩, ⟨some 18, .len (.tmp 17), none⟩, ⟨some 19, .bin .lss (.tmp 16) (.tmp 18), none⟩]) (.cond (.tmp 19) .skip (.exit 2))) (.seq (.block 3 (.seq (.draw [[], [], [0, 1], [2], [], [], [4, 5], [6], [3, 7], [8], [9], [9], [10, 11, 9, 9], [12, 9], [13, 12, 9], [14], [14], [15, 16, 14, 14], [17, 14], [14, 18, 9], [9, 19]] [⟨some 22, .mv (.tmp 0), none⟩, ⟨some 23, .mv (.tmp 6), none⟩, ⟨some 24, .idxA 1 (.tmp 22) (.tmp 23), none⟩, ⟨some 25, .load false 1 (.tmp 24), none⟩, ⟨some 26, .mv (.tmp 0), none⟩, ⟨some 27, .mv (.tmp 7), none⟩, ⟨some 28, .idxA 1 (.tmp 26) (.tmp 27), none⟩, ⟨some 29, .load false 1 (.tmp 28), none⟩, ⟨some 30, .bin .eql (.tmp 25) (.tmp 29), none⟩, ⟨some 31, .mv (.tmp 30), none⟩, ⟨some 32, .mv (.tmp 1), some (31, true)⟩, ⟨some 33, .mv (.tmp 6), some (31, true)⟩, ⟨some 34, .call (.c (.one (.fn 74 []))) 524 [.tmp 32, .tmp 33], some (31, true)⟩, ⟨some 35, .not (.tmp 34), some (31, true)⟩, ⟨some 36, .mv (.tmp 35), some (31, true)⟩, ⟨some 37, .mv (.tmp 1), some (36, false)⟩, ⟨some 38, .mv (.tmp 7), some (36, false)⟩, ⟨some 39, .call (.c (.one (.fn 74 []))) 529 [.tmp 37, .tmp 38], some (36, false)⟩, ⟨some 40, .not (.tmp 39), some (36, false)⟩, ⟨some 41, .pick (.tmp 36) (.c (.one (.t (.bool true)))) (.tmp 40), some (31, true)⟩, ⟨some 42, .pick (.tmp 31) (.tmp 41) (.c (.one (.t (.bool false)))), none⟩]) (.cond (.tmp 42) (.region [⟨some 43, .mv (.tmp 5), none⟩, ⟨some 44, .mv (.tmp 6), none⟩, ⟨some 45, .mv (.tmp 7), none⟩, ⟨some 46, .build [.t (.int .i64 0), .t (.int .i64 0)] [(0, (1, .tmp 44)), (1, (1, .tmp 45))], none⟩, ⟨some 47, .mkrow 580 57 2 1 [.t (.int .i64 0), .t (.int .i64 0)] [(0, (2, .tmp 46))], none⟩, ⟨some 48, .append 581 57 2 16 (.tmp 43) (.tmp 47), none⟩, ⟨some 5, .mv (.tmp 48), none⟩]) .skip))) (.region [⟨some 20, .mv (.tmp 7), none⟩, ⟨some 21, .bin .add (.tmp 20) (.c (.one (.t (.int .i64 1)))), none⟩, ⟨some 7, .mv (.tmp 21), none⟩]))))))) (.region [⟨some 12, .mv (.tmp 6), none⟩, ⟨some 13, .bin .add (.tmp 12) (.c (.one (.t (.int .i64 1)))), none⟩, ⟨some 6, .mv (.tmp 13), none⟩])))))) (.seq (.region [⟨some 49, .mv (.tmp 5), none⟩, ⟨some 4, .mv (.tmp 49), none⟩]) .ret)))⟩
theorem k_ident12 : cFn Try.prog Try.f47 = some c_ident12 := by kernel_rfl
theorem ident12_row (l keep : List Int) (hl : l.length ≤ 1000) (hk : tiny keep.length) : CallRow Try.prog 47 [(false, [ints l]), (false, [ints keep])] 57 2 (pairsL l keep).length (prL (pairsL l keep)) := by
  have hl' : small l.length := by simp only [small]; omega
  refine callRow_W (plain_prL _) (len_prL _) (by omega) (callS_W (by kernel_rfl) Try.func47 k_ident12 (callable_of Try.func47 (by kernel_rfl)) (by simp [c_ident12]) ?_)
  simp [c_ident12, rn0, rn1, rn2, rn3, rn4, rn5, rn6, rn7, evOp, Arg.ev, St.val, St.set, St.new, sliceOf, binInt2, binInt, AV.cells, rdAt, St.live, retOf, resOf, resAll, treeOf, treeCell, treeCells, treeTups, untree, frameOf, TV.av, TR.av, ints, edgs, prs, fillV, splice, intsOf, trees, V1.tree, bx, Gr.v, Pa.v]
  refine loopW_count 6 l.length (fun k S => S.fr 0 = .one (.t (ints l)) ∧ S.fr 1 = .one (.t (ints keep)) ∧
    outR 581 57 2 (gather (fun a => collect (pairF l keep a) l.length) k).length (prL (gather (fun a => collect (pairF l keep a) l.length) k)) S.ob (S.fr 5)) hl' ?_ ?_ ?_
  · simp [rn0, rn1, rn2, rn3, rn4, rn5, rn6, rn7, evOp, Arg.ev, St.val, St.set, St.new, sliceOf, binInt2, binInt, AV.cells, rdAt, St.live, retOf, resOf, resAll, treeOf, treeCell, treeCells, treeTups, untree, frameOf, TV.av, TR.av, ints, edgs, prs, fillV, splice, intsOf, trees, V1.tree, bx, Gr.v, Pa.v, gather_zero, prL, outR_nil]
  · rintro k S hlt hw hc ⟨f0, f1, ho⟩
    simp [rn0, rn1, rn2, rn3, rn4, rn5, rn6, rn7, evOp, Arg.ev, St.val, St.set, St.new, sliceOf, binInt2, binInt, AV.cells, rdAt, St.live, retOf, resOf, resAll, treeOf, treeCell, treeCells, treeTups, untree, frameOf, TV.av, TR.av, ints, edgs, prs, fillV, splice, intsOf, trees, V1.tree, bx, Gr.v, Pa.v, f0, f1, hc, hlt, hw]
    have glen := gather_len (f := fun a => collect (pairF l keep a) l.length) (m := l.length) (fun j => collect_len) k
    have g2 : k * l.length ≤ 1000 * 1000 := Nat.mul_le_mul (by omega) hl
    refine loopW_from 7 (k + 1) l.length (fun j S => S.fr 0 = .one (.t (ints l)) ∧ S.fr 1 = .one (.t (ints keep)) ∧ S.fr 6 = .one (.t (.int .i64 k)) ∧
      outR 581 57 2 (gather (fun a => collect (pairF l keep a) l.length) k ++ collect (pairF l keep k) j).length (prL (gather (fun a => collect (pairF l keep a) l.length) k ++ collect (pairF l keep k) j)) S.ob (S.fr 5)) (by omega) hl' ?_ ?_ ?_
    · have e : collect (pairF l keep k) (k + 1) = [] := collect_nil fun j hj => by simp [pairF]; omega
      simp [rn0, rn1, rn2, rn3, rn4, rn5, rn6, rn7, evOp, Arg.ev, St.val, St.set, St.new, sliceOf, binInt2, binInt, AV.cells, rdAt, St.live, retOf, resOf, resAll, treeOf, treeCell, treeCells, treeTups, untree, frameOf, TV.av, TR.av, ints, edgs, prs, fillV, splice, intsOf, trees, V1.tree, bx, Gr.v, Pa.v, f0, f1, hc, e]
      simpa using ho
    · rintro j S' hkj hlt' hw' hc' ⟨f0, f1, f6, ho⟩
      have hlen : (gather (fun a => collect (pairF l keep a) l.length) k ++ collect (pairF l keep k) j).length ≤ 1000000 + 1000 := by
        have := collect_len (f := pairF l keep k) (k := j)
        rw [List.length_append]
        omega
      by_cases e1 : nth l k = nth l j
      case neg =>
        have e : pairF l keep k j = none := by simp [pairF, e1]
        simp [rn0, rn1, rn2, rn3, rn4, rn5, rn6, rn7, evOp, Arg.ev, St.val, St.set, St.new, sliceOf, binInt2, binInt, AV.cells, rdAt, St.live, retOf, resOf, resAll, treeOf, treeCell, treeCells, treeTups, untree, frameOf, TV.av, TR.av, ints, edgs, prs, fillV, splice, intsOf, trees, V1.tree, bx, Gr.v, Pa.v, dw0, dw1, dw2, dw3, opRd, opWr, opNew, opNewR, opArgs, argsRd, argRd, Arg.rd, AV.refs, V1.refs, refsL, dstL, f0, f1, f6, hc', hlt', hlt, e1, drop_nth hlt, drop_nth hlt', hw', collect_none e]
        exact ⟨rfl, by simpa using ho⟩
      simp [rn0, rn1, rn2, rn3, rn4, rn5, rn6, rn7, evOp, Arg.ev, St.val, St.set, St.new, sliceOf, binInt2, binInt, AV.cells, rdAt, St.live, retOf, resOf, resAll, treeOf, treeCell, treeCells, treeTups, untree, frameOf, TV.av, TR.av, ints, edgs, prs, fillV, splice, intsOf, trees, V1.tree, bx, Gr.v, Pa.v, dw0, dw1, dw2, dw3, opRd, opWr, opNew, opNewR, opArgs, argsRd, argRd, Arg.rd, AV.refs, V1.refs, refsL, dstL, f0, f1, f6, hc', hlt', hlt, e1, drop_nth hlt, drop_nth hlt']
      refine dCall_ok (has12_ok keep k hk.small) ?_ ?_ ?_
      · rfl
      · rfl
      by_cases e2 : (k : Int) ∈ keep
      case neg =>
        have e : pairF l keep k j = some ((k : Int), (j : Int)) := by simp [pairF, e1, e2]; omega
        simp [rn0, rn1, rn2, rn3, rn4, rn5, rn6, rn7, evOp, Arg.ev, St.val, St.set, St.new, sliceOf, binInt2, binInt, AV.cells, rdAt, St.live, retOf, resOf, resAll, treeOf, treeCell, treeCells, treeTups, untree, frameOf, TV.av, TR.av, ints, edgs, prs, fillV, splice, intsOf, trees, V1.tree, bx, Gr.v, Pa.v, dw0, dw1, dw2, dw3, opRd, opWr, opNew, opNewR, opArgs, argsRd, argRd, Arg.rd, AV.refs, V1.refs, refsL, dstL, f0, f1, f6, hc', hlt', hlt, e1, e2, drop_nth hlt, drop_nth hlt', hw']
        refine ⟨rfl, ?_⟩
        refine kApp_grow (ts := [.int .i64 k, .int .i64 j]) rfl (ho.keep fun g => by simp [rn0, rn1, rn2, rn3, rn4, rn5, rn6, rn7, evOp, Arg.ev, St.val, St.set, St.new, sliceOf, binInt2, binInt, AV.cells, rdAt, St.live, retOf, resOf, resAll, treeOf, treeCell, treeCells, treeTups, untree, frameOf, TV.av, TR.av, ints, edgs, prs, fillV, splice, intsOf, trees, V1.tree, bx, Gr.v, Pa.v]) (by omega) rfl (by omega) (by omega) fun E hE hob hcnt => ?_
        simp [rn0, rn1, rn2, rn3, rn4, rn5, rn6, rn7, evOp, Arg.ev, St.val, St.set, St.new, sliceOf, binInt2, binInt, AV.cells, rdAt, St.live, retOf, resOf, resAll, treeOf, treeCell, treeCells, treeTups, untree, frameOf, TV.av, TR.av, ints, edgs, prs, fillV, splice, intsOf, trees, V1.tree, bx, Gr.v, Pa.v, f0, f1, f6, hc', hw', collect_some e]
        simpa [prL, prC, Nat.add_assoc] using hE
      simp [rn0, rn1, rn2, rn3, rn4, rn5, rn6, rn7, evOp, Arg.ev, St.val, St.set, St.new, sliceOf, binInt2, binInt, AV.cells, rdAt, St.live, retOf, resOf, resAll, treeOf, treeCell, treeCells, treeTups, untree, frameOf, TV.av, TR.av, ints, edgs, prs, fillV, splice, intsOf, trees, V1.tree, bx, Gr.v, Pa.v, dw0, dw1, dw2, dw3, opRd, opWr, opNew, opNewR, opArgs, argsRd, argRd, Arg.rd, AV.refs, V1.refs, refsL, dstL, f0, f1, f6, hc', hlt', hlt, e1, e2, drop_nth hlt, drop_nth hlt']
      refine dCall_ok (has12_ok keep j hk.small) ?_ ?_ ?_
      · rfl
      · rfl
      by_cases e3 : (j : Int) ∈ keep
      case neg =>
        have e : pairF l keep k j = some ((k : Int), (j : Int)) := by simp [pairF, e1, e2, e3]; omega
        simp [rn0, rn1, rn2, rn3, rn4, rn5, rn6, rn7, evOp, Arg.ev, St.val, St.set, St.new, sliceOf, binInt2, binInt, AV.cells, rdAt, St.live, retOf, resOf, resAll, treeOf, treeCell, treeCells, treeTups, untree, frameOf, TV.av, TR.av, ints, edgs, prs, fillV, splice, intsOf, trees, V1.tree, bx, Gr.v, Pa.v, dw0, dw1, dw2, dw3, opRd, opWr, opNew, opNewR, opArgs, argsRd, argRd, Arg.rd, AV.refs, V1.refs, refsL, dstL, f0, f1, f6, hc', hlt', hlt, e1, e2, e3, drop_nth hlt, drop_nth hlt', hw']
        refine ⟨rfl, ?_⟩
        refine kApp_grow (ts := [.int .i64 k, .int .i64 j]) rfl (ho.keep fun g => by simp [rn0, rn1, rn2, rn3, rn4, rn5, rn6, rn7, evOp, Arg.ev, St.val, St.set, St.new, sliceOf, binInt2, binInt, AV.cells, rdAt, St.live, retOf, resOf, resAll, treeOf, treeCell, treeCells, treeTups, untree, frameOf, TV.av, TR.av, ints, edgs, prs, fillV, splice, intsOf, trees, V1.tree, bx, Gr.v, Pa.v]) (by omega) rfl (by omega) (by omega) fun E hE hob hcnt => ?_
        simp [rn0, rn1, rn2, rn3, rn4, rn5, rn6, rn7, evOp, Arg.ev, St.val, St.set, St.new, sliceOf, binInt2, binInt, AV.cells, rdAt, St.live, retOf, resOf, resAll, treeOf, treeCell, treeCells, treeTups, untree, frameOf, TV.av, TR.av, ints, edgs, prs, fillV, splice, intsOf, trees, V1.tree, bx, Gr.v, Pa.v, f0, f1, f6, hc', hw', collect_some e]
        simpa [prL, prC, Nat.add_assoc] using hE
      case pos =>
        have e : pairF l keep k j = none := by simp [pairF, e1, e2, e3]
        simp [rn0, rn1, rn2, rn3, rn4, rn5, rn6, rn7, evOp, Arg.ev, St.val, St.set, St.new, sliceOf, binInt2, binInt, AV.cells, rdAt, St.live, retOf, resOf, resAll, treeOf, treeCell, treeCells, treeTups, untree, frameOf, TV.av, TR.av, ints, edgs, prs, fillV, splice, intsOf, trees, V1.tree, bx, Gr.v, Pa.v, dw0, dw1, dw2, dw3, opRd, opWr, opNew, opNewR, opArgs, argsRd, argRd, Arg.rd, AV.refs, V1.refs, refsL, dstL, f0, f1, f6, hc', hlt', hlt, e1, e2, e3, drop_nth hlt, drop_nth hlt', hw', collect_none e]
        exact ⟨rfl, by simpa using ho⟩
    · rintro S' hc' ⟨f0, f1, f6, ho⟩
      simp [rn0, rn1, rn2, rn3, rn4, rn5, rn6, rn7, evOp, Arg.ev, St.val, St.set, St.new, sliceOf, binInt2, binInt, AV.cells, rdAt, St.live, retOf, resOf, resAll, treeOf, treeCell, treeCells, treeTups, untree, frameOf, TV.av, TR.av, ints, edgs, prs, fillV, splice, intsOf, trees, V1.tree, bx, Gr.v, Pa.v, f0, f1, f6, hc', hw, gather_succ]
      simpa using ho
  · rintro S hc ⟨f0, f1, ho⟩
    obtain ⟨u, hu⟩ := ho.one
    rw [hu] at ho
    simp [rn0, rn1, rn2, rn3, rn4, rn5, rn6, rn7, evOp, Arg.ev, St.val, St.set, St.new, sliceOf, binInt2, binInt, AV.cells, rdAt, St.live, retOf, resOf, resAll, treeOf, treeCell, treeCells, treeTups, untree, frameOf, TV.av, TR.av, ints, edgs, prs, fillV, splice, intsOf, trees, V1.tree, bx, Gr.v, Pa.v, f0, f1, hc, hu]
    simpa [pairsL] using ho.rowIs
end Go.Proofs.Ythapbbpdcjmmfaa
