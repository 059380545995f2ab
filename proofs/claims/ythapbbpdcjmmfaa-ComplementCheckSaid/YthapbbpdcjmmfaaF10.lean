/-
  Contracts: what the program keeps of the graph; the errors of a case; complements. No condition beyond those that each statement names.
-/
import Derived.Test.YthapbbpdcjmmfaaF9
namespace Go.Proofs.Ythapbbpdcjmmfaa
open Abs
set_option linter.unusedSimpArgs false
set_option linter.unusedVariables false

/-- A row of marks. -/
def markC (g : List Int) (n : Nat) : List V1 := (List.range n).map fun (i : Nat) => V1.t (.bool (decide ((i : Int) ∈ g)))
theorem len_mark {g : List Int} {n : Nat} : (markC g n).length = n := by simp [markC]
theorem mark_nil {n : Nat} : List.replicate n (V1.t (.bool false)) = markC [] n := by
  apply List.ext_getElem
  · simp [len_mark]
  · intro i h1 h2
    simp [markC]
theorem drop_mark {g : List Int} {n k : Nat} (h : k < n) : (markC g n).drop k = .t (.bool (decide ((k : Int) ∈ g))) :: (markC g n).drop (k + 1) := by
  rw [List.drop_eq_getElem_cons (by rw [len_mark]; exact h)]
  simp [markC]
theorem mark_set {g : List Int} {n x : Nat} (h : x < n) : (markC g n).take x ++ .t (.bool true) :: (markC g n).drop (x + 1) = markC (g ++ [(x : Int)]) n := by
  apply List.ext_getElem
  · simp [len_mark]
    omega
  · intro i h1 h2
    rw [len_mark] at h2
    rw [List.getElem_append]
    split
    · rename_i hi
      simp [len_mark] at hi
      have : ¬ (i : Int) = (x : Int) := by omega
      simp [markC, this]
    · rename_i hi
      simp [len_mark] at hi
      by_cases e : i = x
      · subst e
        simp [markC, len_mark, Nat.min_eq_left (Nat.le_of_lt h)]
      · have e1 : x < i := by omega
        obtain ⟨d, hd⟩ : ∃ d, i = x + 1 + d := ⟨i - x - 1, by omega⟩
        subst hd
        have : ¬ ((x + 1 + d : Nat) : Int) = (x : Int) := by omega
        have e2 : x + 1 + d - ((markC g n).take x).length = d + 1 := by simp [len_mark]; omega
        simp only [e2, List.getElem_cons_succ, List.getElem_drop]
        simp [markC]
        omega

def c_rest : MFunc := ⟨45, [.tmp 6], .seq (.region [⟨some 6, .mv (.c (.one .nil)), none⟩]) (.seq (.region [⟨some 13, .mv (.tmp 0), none⟩, ⟨some 14, .make 65 4 1 1 [.t (.bool false)] (.tmp 13) (.tmp 13), none⟩, ⟨some 7, .mv (.tmp 14), none⟩]) (.seq (.seq (.region [⟨some 15, .mv (.tmp 1), none⟩, ⟨some 16, .len (.tmp 15), none⟩, ⟨some 17, .mv (.c (.one (.t (.int .i64 0)))), none⟩]) (.block 0 (.loop (.seq (.region [⟨some 18, .bin .lss (.tmp 17) (.tmp 16), none⟩]) (.seq (.cond (.tmp 18) .skip (.exit 0)) (.seq (.block 1 (.seq (.region [⟨some 19, .mv (.tmp 17), none⟩, ⟨some 20, .idxA 1 (.tmp 15) (.tmp 17), none⟩, ⟨some 21, .load false 1 (.tmp 20), none⟩, ⟨some 8, .mv (.tmp 19), none⟩, ⟨some 9, .mv (.tmp 21), none⟩]) (.seq (.region [⟨some 22, .mv (.tmp 2), none⟩, ⟨some 23, .mv (.tmp 8), none⟩, ⟨some 24, .call (.c (.one (.fn 33 []))) 322 [.tmp 22, .tmp 23], none⟩, ⟨some 25, .not (.tmp 24), none⟩]) (.cond (.tmp 25) (.region [⟨some 26, .mv (.tmp 7), none⟩, ⟨some 27, .mv (.tmp 9), none⟩, ⟨some 28, .idxA 1 (.tmp 26) (.tmp 27), none⟩, ⟨none, .store 1 (.tmp 28) (.c (.one (.t (.bool true)))), none⟩]) .skip)))) (.region [⟨some 29, .bin .add (.tmp 17) (.c (.one (.t (.int .i64 1)))), none⟩, ⟨some 17, .mv (.tmp 29), none⟩]))))))) (.seq (.region [⟨some 10, .mv (.c (.one .nil)), none⟩]) (.seq (.seq (.region [⟨some 30, .mv (.tmp 7), none⟩, ⟨some 31, .len (.tmp 30), none⟩, ⟨some 32, .mv (.c (.one (.t (.int .i64 0)))), none⟩]) (.block 2 (.loop (.seq (.region [⟨some 33, .bin .lss (.tmp 32) (.tmp 31), none⟩]) (.seq (.cond (.tmp 33) .skip (.exit 2)) (.seq (.block 3 (.seq (.region [⟨some 34, .mv (.tmp 32), none⟩, ⟨some 35, .idxA 1 (.tmp 30) (.tmp 32), none⟩, ⟨some 36, .load false 1 (.tmp 35), none⟩, ⟨some 11, .mv (.tmp 34), none⟩, ⟨some 12, .mv (.tmp 36), none⟩]) (.seq (.region [⟨some 37, .mv (.tmp 12), none⟩, ⟨some 38, .not (.tmp 37), none⟩]) (.cond (.tmp 38) (.region [⟨some 39, .mv (.tmp 10), none⟩, ⟨some 40, .mv (.tmp 11), none⟩, ⟨some 41, .mkrow 834 3 1 1 [.t (.int .i64 0)] [(0, (1, .tmp 40))], none⟩, ⟨some 42, .append 835 3 1 8 (.tmp 39) (.tmp 41), none⟩, ⟨some 10, .mv (.tmp 42), none⟩]) .skip)))) (.region [⟨some 43, .bin .add (.tmp 32) (.c (.one (.t (.int .i64 1)))), none⟩, ⟨some 32, .mv (.tmp 43), none⟩]))))))) (.seq (.region [⟨some 44, .mv (.tmp 10), none⟩, ⟨some 6, .mv (.tmp 44), none⟩]) .ret)))))⟩
theorem k_rest : cFn Try.prog Try.f44 = some c_rest := by kernel_rfl
theorem rest_row (n : Nat) (l keep : List Int) (hn : tiny n) (hl : tiny l.length) (hk : tiny keep.length) (hr : ∀ x ∈ l, 0 ≤ x ∧ x < n) : RowI Try.prog 44 [(false, [.int .i64 n]), (false, [ints l]), (false, [ints keep])] 3 (restL n (goneL l keep)) := by
  refine callRow_W (plain_ints _) (by simp) (by omega) (callS_W (by kernel_rfl) Try.func44 k_rest (callable_of Try.func44 (by kernel_rfl)) (by simp [c_rest]) ?_)
  have hn' := hn
  simp only [tiny] at hn'
  have hn1 : n ≤ 140737488355328 := by omega
  have hn2 : (n : Int) ≤ 9223372036854775807 := by omega
  simp [c_rest, rn0, rn1, rn2, rn3, rn4, rn5, rn6, rn7, evOp, Arg.ev, St.val, St.set, St.new, sliceOf, binInt2, binInt, AV.cells, rdAt, St.live, retOf, resOf, resAll, treeOf, treeCell, treeCells, treeTups, untree, frameOf, TV.av, TR.av, ints, edgs, prs, fillV, splice, intsOf, trees, V1.tree, bx, Gr.v, Pa.v, hn1, hn2, mark_nil]
  refine loopW_count 17 l.length (fun k S => S.fr 7 = .one (.row (65, 0)) ∧ S.fr 2 = .one (.t (ints keep)) ∧ S.fr 15 = .one (.t (ints l)) ∧ S.fr 16 = .one (.t (.int .i64 l.length)) ∧ S.ob (65, 0) = some ⟨true, true, false, 1, n, 4, markC (collect (goneF l keep) k) n⟩) hl.small ?_ ?_ ?_
  · simp [rn0, rn1, rn2, rn3, rn4, rn5, rn6, rn7, evOp, Arg.ev, St.val, St.set, St.new, sliceOf, binInt2, binInt, AV.cells, rdAt, St.live, retOf, resOf, resAll, treeOf, treeCell, treeCells, treeTups, untree, frameOf, TV.av, TR.av, ints, edgs, prs, fillV, splice, intsOf, trees, V1.tree, bx, Gr.v, Pa.v, collect_zero]
  · rintro k S hlt hw hc ⟨f7, f2, f15, f16, o0⟩
    simp [rn0, rn1, rn2, rn3, rn4, rn5, rn6, rn7, evOp, Arg.ev, St.val, St.set, St.new, sliceOf, binInt2, binInt, AV.cells, rdAt, St.live, retOf, resOf, resAll, treeOf, treeCell, treeCells, treeTups, untree, frameOf, TV.av, TR.av, ints, edgs, prs, fillV, splice, intsOf, trees, V1.tree, bx, Gr.v, Pa.v, f7, f2, f15, f16, o0, hc, hlt, drop_nth hlt]
    refine callS_tree (contains_ok keep k hk.small) ?_ ?_ ?_
    · rfl
    · rfl
    by_cases hm : (k : Int) ∈ keep
    · have e : goneF l keep k = none := by simp [goneF, hm]
      simp [rn0, rn1, rn2, rn3, rn4, rn5, rn6, rn7, evOp, Arg.ev, St.val, St.set, St.new, sliceOf, binInt2, binInt, AV.cells, rdAt, St.live, retOf, resOf, resAll, treeOf, treeCell, treeCells, treeTups, untree, frameOf, TV.av, TR.av, ints, edgs, prs, fillV, splice, intsOf, trees, V1.tree, bx, Gr.v, Pa.v, f7, f2, f15, f16, o0, hc, hlt, hm, hw, collect_none e]
    · have e : goneF l keep k = some (nth l k) := by simp [goneF, hm]
      obtain ⟨q1, q2⟩ := hr _ (nth_mem hlt)
      obtain ⟨x, hx⟩ := Int.eq_ofNat_of_zero_le q1
      have hx2 : x < n := by omega
      have hx3 : x + 1 ≤ n := by omega
      simp [rn0, rn1, rn2, rn3, rn4, rn5, rn6, rn7, evOp, Arg.ev, St.val, St.set, St.new, sliceOf, binInt2, binInt, AV.cells, rdAt, St.live, retOf, resOf, resAll, treeOf, treeCell, treeCells, treeTups, untree, frameOf, TV.av, TR.av, ints, edgs, prs, fillV, splice, intsOf, trees, V1.tree, bx, Gr.v, Pa.v, f7, f2, f15, f16, o0, hc, hlt, hm, hw, hx, hx2, hx3, len_mark, collect_some e, mark_set hx2]
  · rintro S hc ⟨f7, f2, f15, f16, o0⟩
    simp [rn0, rn1, rn2, rn3, rn4, rn5, rn6, rn7, evOp, Arg.ev, St.val, St.set, St.new, sliceOf, binInt2, binInt, AV.cells, rdAt, St.live, retOf, resOf, resAll, treeOf, treeCell, treeCells, treeTups, untree, frameOf, TV.av, TR.av, ints, edgs, prs, fillV, splice, intsOf, trees, V1.tree, bx, Gr.v, Pa.v, f7, f2, f15, f16, o0, hc]
    refine loopW_count 32 n (fun k S => S.fr 30 = .one (.row (65, 0)) ∧ S.fr 31 = .one (.t (.int .i64 n)) ∧ S.ob (65, 0) = some ⟨true, true, false, 1, n, 4, markC (goneL l keep) n⟩ ∧
      outR 835 3 1 (collect (restF (goneL l keep)) k).length ((collect (restF (goneL l keep)) k).map (.int .i64)) S.ob (S.fr 10)) hn.small ?_ ?_ ?_
    · simp [rn0, rn1, rn2, rn3, rn4, rn5, rn6, rn7, evOp, Arg.ev, St.val, St.set, St.new, sliceOf, binInt2, binInt, AV.cells, rdAt, St.live, retOf, resOf, resAll, treeOf, treeCell, treeCells, treeTups, untree, frameOf, TV.av, TR.av, ints, edgs, prs, fillV, splice, intsOf, trees, V1.tree, bx, Gr.v, Pa.v, collect_zero, outR_nil, o0, goneL]
    · rintro k S hlt hw hc ⟨f30, f31, o0, ho⟩
      have hlt2 : k + 1 ≤ n := by omega
      have hlen := collect_len (f := restF (goneL l keep)) (k := k)
      by_cases hm : (k : Int) ∈ goneL l keep
      · have e : restF (goneL l keep) k = none := by simp [restF, hm]
        simp [rn0, rn1, rn2, rn3, rn4, rn5, rn6, rn7, evOp, Arg.ev, St.val, St.set, St.new, sliceOf, binInt2, binInt, AV.cells, rdAt, St.live, retOf, resOf, resAll, treeOf, treeCell, treeCells, treeTups, untree, frameOf, TV.av, TR.av, ints, edgs, prs, fillV, splice, intsOf, trees, V1.tree, bx, Gr.v, Pa.v, f30, f31, o0, hc, hlt, hlt2, len_mark, drop_mark hlt, hm, hw, collect_none e, ho]
      · have e : restF (goneL l keep) k = some (k : Int) := by simp [restF, hm]
        simp [rn0, rn1, rn2, rn3, rn4, rn5, rn6, rn7, evOp, Arg.ev, St.val, St.set, St.new, sliceOf, binInt2, binInt, AV.cells, rdAt, St.live, retOf, resOf, resAll, treeOf, treeCell, treeCells, treeTups, untree, frameOf, TV.av, TR.av, ints, edgs, prs, fillV, splice, intsOf, trees, V1.tree, bx, Gr.v, Pa.v, f30, f31, o0, hc, hlt, hlt2, len_mark, drop_mark hlt, hm, hw]
        refine kApp_grow (ts := [.int .i64 k]) rfl (ho.keep fun g => by simp [rn0, rn1, rn2, rn3, rn4, rn5, rn6, rn7, evOp, Arg.ev, St.val, St.set, St.new, sliceOf, binInt2, binInt, AV.cells, rdAt, St.live, retOf, resOf, resAll, treeOf, treeCell, treeCells, treeTups, untree, frameOf, TV.av, TR.av, ints, edgs, prs, fillV, splice, intsOf, trees, V1.tree, bx, Gr.v, Pa.v]) (by omega) rfl (by omega) (by omega) fun E hE hob hcnt => ?_
        simp [rn0, rn1, rn2, rn3, rn4, rn5, rn6, rn7, evOp, Arg.ev, St.val, St.set, St.new, sliceOf, binInt2, binInt, AV.cells, rdAt, St.live, retOf, resOf, resAll, treeOf, treeCell, treeCells, treeTups, untree, frameOf, TV.av, TR.av, ints, edgs, prs, fillV, splice, intsOf, trees, V1.tree, bx, Gr.v, Pa.v, f30, f31, hc, hw, collect_some e, hob, o0]
        simpa using hE
    · rintro S hc ⟨f30, f31, o0, ho⟩
      obtain ⟨u, hu⟩ := ho.one
      rw [hu] at ho
      simp [rn0, rn1, rn2, rn3, rn4, rn5, rn6, rn7, evOp, Arg.ev, St.val, St.set, St.new, sliceOf, binInt2, binInt, AV.cells, rdAt, St.live, retOf, resOf, resAll, treeOf, treeCell, treeCells, treeTups, untree, frameOf, TV.av, TR.av, ints, edgs, prs, fillV, splice, intsOf, trees, V1.tree, bx, Gr.v, Pa.v, f30, f31, hc, hu]
      simpa [restL] using ho.rowIs

def c_dangl12 : MFunc := ⟨54, [.tmp 8], .seq (.region [⟨some 4, .box 0 25 (.tmp 0), none⟩, ⟨some 5, .box 1 25 (.tmp 1), none⟩, ⟨some 6, .box 2 27 (.tmp 2), none⟩, ⟨some 7, .box 3 28 (.tmp 3), none⟩, ⟨some 8, .mv (.c (.one .nil)), none⟩]) (.seq (.region [⟨some 9, .mv (.c (.one .nil)), none⟩]) (.seq (.region [⟨some 12, .fieldA 0 (.tmp 7), none⟩, ⟨some 13, .load false 1 (.tmp 12), none⟩, ⟨some 14, .fieldA 0 (.tmp 6), none⟩, ⟨some 15, .load false 1 (.tmp 14), none⟩, ⟨some 16, .call (.c (.one (.fn 50 []))) 132 [.tmp 13, .tmp 15], none⟩, ⟨some 10, .mv (.tmp 16), none⟩]) (.seq (.seq (.region [⟨some 11, .mv (.c (.one (.t (.int .i64 0)))), none⟩]) (.block 0 (.loop (.seq (.seq (.region [⟨some 17, .mv (.tmp 11), none⟩, ⟨some 18, .fieldA 1 (.tmp 5), none⟩, ⟨some 19, .load false 1 (.tmp 18), none⟩, ⟨some 20, .len (.tmp 19), none⟩, ⟨some 21, .bin .lss (.tmp 17) (.tmp 20), none⟩]) (.cond (.tmp 21) .skip (.exit 0))) (.seq (.block 1 (.seq (.region [⟨some 24, .fieldA 1 (.tmp 7), none⟩, ⟨some 25, .load false 1 (.tmp 24), none⟩, ⟨some 26, .mv (.tmp 11), none⟩, ⟨some 27, .call (.c (.one (.fn 74 []))) 387 [.tmp 25, .tmp 26], none⟩, ⟨some 28, .not (.tmp 27), none⟩, ⟨some 29, .mv (.tmp 28), none⟩, ⟨some 30, .mv (.tmp 10), some (29, true)⟩, ⟨some 31, .fieldA 1 (.tmp 5), some (29, true)⟩, ⟨some 32, .load false 1 (.tmp 31), some (29, true)⟩, ⟨some 33, .mv (.tmp 11), some (29, true)⟩, ⟨some 34, .idxA 3 (.tmp 32) (.tmp 33), some (29, true)⟩, ⟨some 35, .fieldA 1 (.tmp 34), some (29, true)⟩, ⟨some 36, .load false 1 (.tmp 35), some (29, true)⟩, ⟨some 37, .call (.c (.one (.fn 74 []))) 397 [.tmp 30, .tmp 36], some (29, true)⟩, ⟨some 38, .mv (.tmp 37), some (29, true)⟩, ⟨some 39, .mv (.tmp 10), some (38, false)⟩, ⟨some 40, .fieldA 1 (.tmp 5), some (38, false)⟩, ⟨some 41, .load false 1 (.tmp 40), some (38, false)⟩, ⟨some 42, .mv (.tmp 11), some (38, false)⟩, ⟨some 43, .idxA 3 (.tmp 41) (.tmp 42), some (38, false)⟩, ⟨some 44, .fieldA 2 (.tmp 43), some (38, false)⟩, ⟨some 45, .load false 1 (.tmp 44), some (38, false)⟩, ⟨some 46, .call (.c (.one (.fn 74 []))) 406 [.tmp 39, .tmp 45], some (38, false)⟩, ⟨some 47, .pick (.tmp 38) (.c (.one (.t (.bool true)))) (.tmp 46), some (29, true)⟩, ⟨some 48, .pick (.tmp 29) (.tmp 47) (.c (.one (.t (.bool false)))), none⟩]) (.cond (.tmp 48) (.region [⟨some 49, .mv (.tmp 9), none⟩, ⟨some 50, .mv (.tmp 11), none⟩, ⟨some 51, .mkrow 450 3 1 1 [.t (.int .i64 0)] [(0, (1, .tmp 50))], none⟩, ⟨some 52, .append 451 3 1 8 (.tmp 49) (.tmp 51), none⟩, ⟨some 9, .mv (.tmp 52), none⟩]) .skip))) (.region [⟨some 22, .mv (.tmp 11), none⟩, ⟨some 23, .bin .add (.tmp 22) (.c (.one (.t (.int .i64 1)))), none⟩, ⟨some 11, .mv (.tmp 23), none⟩])))))) (.seq (.region [⟨some 53, .mv (.tmp 9), none⟩, ⟨some 8, .mv (.tmp 53), none⟩]) .ret))))⟩
theorem k_dangl12 : cFn Try.prog Try.f48 = some c_dangl12 := by kernel_rfl
theorem dangl12_row (l g : Gr) (p m : Pa) (hg : tinyG g) (hm : tinyP m) (hp : tinyP p) : RowI Try.prog 48 [l.v, g.v, p.v, m.v] 3 (danglL g p m) := by
  refine callRow_W (plain_ints _) (by simp) (by omega) (callS_W (by kernel_rfl) Try.func48 k_dangl12 (callable_of Try.func48 (by kernel_rfl)) (by simp [c_dangl12]) ?_)
  simp [c_dangl12, rn0, rn1, rn2, rn3, rn4, rn5, rn6, rn7, evOp, Arg.ev, St.val, St.set, St.new, sliceOf, binInt2, binInt, AV.cells, rdAt, St.live, retOf, resOf, resAll, treeOf, treeCell, treeCells, treeTups, untree, frameOf, TV.av, TR.av, ints, edgs, prs, fillV, splice, intsOf, trees, V1.tree, bx, Gr.v, Pa.v]
  refine callS_tree (gone12_row m.nodes p.nodes hm.1 hp.1).ok ?_ ?_ ?_
  · rfl
  · rfl
  simp [rn0, rn1, rn2, rn3, rn4, rn5, rn6, rn7, evOp, Arg.ev, St.val, St.set, St.new, sliceOf, binInt2, binInt, AV.cells, rdAt, St.live, retOf, resOf, resAll, treeOf, treeCell, treeCells, treeTups, untree, frameOf, TV.av, TR.av, ints, edgs, prs, fillV, splice, intsOf, trees, V1.tree, bx, Gr.v, Pa.v]
  have hgl : tiny (goneL m.nodes p.nodes).length := Nat.le_trans goneL_len hm.1
  refine loopW_count 11 g.edges.length (fun k S => S.fr 5 = .one (.ptr (1, 0) 0) ∧ S.fr 7 = .one (.ptr (3, 0) 0) ∧ S.fr 10 = .one (.t (ints (goneL m.nodes p.nodes))) ∧ S.ob (1, 0) = some (bx 25 (g.v.2.map .t)) ∧ S.ob (3, 0) = some (bx 28 (m.v.2.map .t)) ∧
    outR 451 3 1 (collect (danglF g m (goneL m.nodes p.nodes)) k).length ((collect (danglF g m (goneL m.nodes p.nodes)) k).map (.int .i64)) S.ob (S.fr 9)) hg.2.small ?_ ?_ ?_
  · simp [rn0, rn1, rn2, rn3, rn4, rn5, rn6, rn7, evOp, Arg.ev, St.val, St.set, St.new, sliceOf, binInt2, binInt, AV.cells, rdAt, St.live, retOf, resOf, resAll, treeOf, treeCell, treeCells, treeTups, untree, frameOf, TV.av, TR.av, ints, edgs, prs, fillV, splice, intsOf, trees, V1.tree, bx, Gr.v, Pa.v, collect_zero, outR_nil]
  · rintro k S hlt hw hc ⟨f5, f7, f10, o1, o3, ho⟩
    have hlt3 : k * 3 < g.edges.length * 3 := by omega
    have hlen := collect_len (f := danglF g m (goneL m.nodes p.nodes)) (k := k)
    have hg2 := hg.2
    simp only [tiny] at hg2
    simp [rn0, rn1, rn2, rn3, rn4, rn5, rn6, rn7, evOp, Arg.ev, St.val, St.set, St.new, sliceOf, binInt2, binInt, AV.cells, rdAt, St.live, retOf, resOf, resAll, treeOf, treeCell, treeCells, treeTups, untree, frameOf, TV.av, TR.av, ints, edgs, prs, fillV, splice, intsOf, trees, V1.tree, bx, Gr.v, Pa.v, f5, f7, f10, o1, o3, hc, hlt]
    refine callS_tree (has12_ok m.edges k hm.2.small) ?_ ?_ ?_
    · rfl
    · rfl
    by_cases e1 : (k : Int) ∈ m.edges
    · have e : danglF g m (goneL m.nodes p.nodes) k = none := by simp [danglF, e1]
      simp [rn0, rn1, rn2, rn3, rn4, rn5, rn6, rn7, evOp, Arg.ev, St.val, St.set, St.new, sliceOf, binInt2, binInt, AV.cells, rdAt, St.live, retOf, resOf, resAll, treeOf, treeCell, treeCells, treeTups, untree, frameOf, TV.av, TR.av, ints, edgs, prs, fillV, splice, intsOf, trees, V1.tree, bx, Gr.v, Pa.v, f5, f7, f10, o1, o3, hc, hw, hlt, e1, collect_none e, ho]
    simp [rn0, rn1, rn2, rn3, rn4, rn5, rn6, rn7, evOp, Arg.ev, St.val, St.set, St.new, sliceOf, binInt2, binInt, AV.cells, rdAt, St.live, retOf, resOf, resAll, treeOf, treeCell, treeCells, treeTups, untree, frameOf, TV.av, TR.av, ints, edgs, prs, fillV, splice, intsOf, trees, V1.tree, bx, Gr.v, Pa.v, f5, f7, f10, o1, o3, hc, hlt, hlt3, drop_edL hlt, e1]
    refine callS_tree (has12_ok (goneL m.nodes p.nodes) (eth g.edges k).f hgl.small) ?_ ?_ ?_
    · rfl
    · rfl
    by_cases e2 : (eth g.edges k).f ∈ goneL m.nodes p.nodes
    · have e : danglF g m (goneL m.nodes p.nodes) k = some (k : Int) := by simp [danglF, e1, e2]
      simp [rn0, rn1, rn2, rn3, rn4, rn5, rn6, rn7, evOp, Arg.ev, St.val, St.set, St.new, sliceOf, binInt2, binInt, AV.cells, rdAt, St.live, retOf, resOf, resAll, treeOf, treeCell, treeCells, treeTups, untree, frameOf, TV.av, TR.av, ints, edgs, prs, fillV, splice, intsOf, trees, V1.tree, bx, Gr.v, Pa.v, f5, f7, f10, o1, o3, hc, hlt, e1, e2]
      refine kApp_grow (ts := [.int .i64 k]) rfl (ho.keep fun g => by simp [rn0, rn1, rn2, rn3, rn4, rn5, rn6, rn7, evOp, Arg.ev, St.val, St.set, St.new, sliceOf, binInt2, binInt, AV.cells, rdAt, St.live, retOf, resOf, resAll, treeOf, treeCell, treeCells, treeTups, untree, frameOf, TV.av, TR.av, ints, edgs, prs, fillV, splice, intsOf, trees, V1.tree, bx, Gr.v, Pa.v]) (by omega) rfl (by omega) (by omega) fun E hE hob hcnt => ?_
      simp [rn0, rn1, rn2, rn3, rn4, rn5, rn6, rn7, evOp, Arg.ev, St.val, St.set, St.new, sliceOf, binInt2, binInt, AV.cells, rdAt, St.live, retOf, resOf, resAll, treeOf, treeCell, treeCells, treeTups, untree, frameOf, TV.av, TR.av, ints, edgs, prs, fillV, splice, intsOf, trees, V1.tree, bx, Gr.v, Pa.v, f5, f7, f10, hc, hw, collect_some e, hob, o1, o3]
      simpa using hE
    simp [rn0, rn1, rn2, rn3, rn4, rn5, rn6, rn7, evOp, Arg.ev, St.val, St.set, St.new, sliceOf, binInt2, binInt, AV.cells, rdAt, St.live, retOf, resOf, resAll, treeOf, treeCell, treeCells, treeTups, untree, frameOf, TV.av, TR.av, ints, edgs, prs, fillV, splice, intsOf, trees, V1.tree, bx, Gr.v, Pa.v, f5, f7, f10, o1, o3, hc, hlt, hlt3, drop_edL hlt, e1, e2]
    refine callS_tree (has12_ok (goneL m.nodes p.nodes) (eth g.edges k).g hgl.small) ?_ ?_ ?_
    · rfl
    · rfl
    by_cases e3 : (eth g.edges k).g ∈ goneL m.nodes p.nodes
    · have e : danglF g m (goneL m.nodes p.nodes) k = some (k : Int) := by simp [danglF, e1, e2, e3]
      simp [rn0, rn1, rn2, rn3, rn4, rn5, rn6, rn7, evOp, Arg.ev, St.val, St.set, St.new, sliceOf, binInt2, binInt, AV.cells, rdAt, St.live, retOf, resOf, resAll, treeOf, treeCell, treeCells, treeTups, untree, frameOf, TV.av, TR.av, ints, edgs, prs, fillV, splice, intsOf, trees, V1.tree, bx, Gr.v, Pa.v, f5, f7, f10, o1, o3, hc, hlt, e1, e2, e3]
      refine kApp_grow (ts := [.int .i64 k]) rfl (ho.keep fun g => by simp [rn0, rn1, rn2, rn3, rn4, rn5, rn6, rn7, evOp, Arg.ev, St.val, St.set, St.new, sliceOf, binInt2, binInt, AV.cells, rdAt, St.live, retOf, resOf, resAll, treeOf, treeCell, treeCells, treeTups, untree, frameOf, TV.av, TR.av, ints, edgs, prs, fillV, splice, intsOf, trees, V1.tree, bx, Gr.v, Pa.v]) (by omega) rfl (by omega) (by omega) fun E hE hob hcnt => ?_
      simp [rn0, rn1, rn2, rn3, rn4, rn5, rn6, rn7, evOp, Arg.ev, St.val, St.set, St.new, sliceOf, binInt2, binInt, AV.cells, rdAt, St.live, retOf, resOf, resAll, treeOf, treeCell, treeCells, treeTups, untree, frameOf, TV.av, TR.av, ints, edgs, prs, fillV, splice, intsOf, trees, V1.tree, bx, Gr.v, Pa.v, f5, f7, f10, hc, hw, collect_some e, hob, o1, o3]
      simpa using hE
    · have e : danglF g m (goneL m.nodes p.nodes) k = none := by simp [danglF, e1, e2, e3]
      simp [rn0, rn1, rn2, rn3, rn4, rn5, rn6, rn7, evOp, Arg.ev, St.val, St.set, St.new, sliceOf, binInt2, binInt, AV.cells, rdAt, St.live, retOf, resOf, resAll, treeOf, treeCell, treeCells, treeTups, untree, frameOf, TV.av, TR.av, ints, edgs, prs, fillV, splice, intsOf, trees, V1.tree, bx, Gr.v, Pa.v, f5, f7, f10, o1, o3, hc, hw, hlt, e1, e2, e3, collect_none e, ho]
  · rintro S hc ⟨f5, f7, f10, o1, o3, ho⟩
    obtain ⟨u, hu⟩ := ho.one
    rw [hu] at ho
    simp [rn0, rn1, rn2, rn3, rn4, rn5, rn6, rn7, evOp, Arg.ev, St.val, St.set, St.new, sliceOf, binInt2, binInt, AV.cells, rdAt, St.live, retOf, resOf, resAll, treeOf, treeCell, treeCells, treeTups, untree, frameOf, TV.av, TR.av, ints, edgs, prs, fillV, splice, intsOf, trees, V1.tree, bx, Gr.v, Pa.v, f5, f7, o1, hc, hu]
    simpa [danglL] using ho.rowIs
end Go.Proofs.Ythapbbpdcjmmfaa
