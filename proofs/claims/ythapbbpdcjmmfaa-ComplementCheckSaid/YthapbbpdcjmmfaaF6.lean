/-
  Contracts: morphisms. No condition beyond those that each statement names.
-/
import Derived.Test.YthapbbpdcjmmfaaF5
namespace Go.Proofs.Ythapbbpdcjmmfaa
open Abs
set_option linter.unusedSimpArgs false
set_option linter.unusedVariables false

structure GrOk (g : Gr) : Prop where
  n : g.nodes.length ≤ 40
  e : g.edges.length ≤ 80
  kinds : ∀ x ∈ g.nodes, 0 ≤ x ∧ x ≤ 99
  edges : ∀ e ∈ g.edges, 0 ≤ e.t ∧ e.t ≤ 99 ∧ 0 ≤ e.f ∧ e.f < g.nodes.length ∧ 0 ≤ e.g ∧ e.g < g.nodes.length

theorem gErr_ok {g : Gr} (h : gErr g = 0) : GrOk g := by
  unfold gErr at h
  split at h
  · cases h
  rename_i h0
  split at h
  · cases h
  rename_i h1
  split at h
  · cases h
  rename_i h2
  have h1 : nBad g.nodes = false := by simpa using h1
  have h2 : eBad g.nodes.length g.edges = false := by simpa using h2
  rw [nBad, List.any_eq_false] at h1
  rw [eBad, List.any_eq_false] at h2
  refine ⟨by omega, by omega, fun x hx => ?_, fun e he => ?_⟩
  · have := h1 x hx
    simpa [within] using this
  · have := h2 e he
    simp [eOk, within] at this
    omega

def mnF (a b : Gr) (m : Pa) (i : Nat) : Int := if nth m.nodes i < 0 then 6 else if (b.nodes.length : Int) ≤ nth m.nodes i then 6 else if nth b.nodes (nth m.nodes i).toNat = nth a.nodes i then 0 else 13
def meF (a b : Gr) (m : Pa) (i : Nat) : Int := if nth m.edges i < 0 then 6 else if (b.edges.length : Int) ≤ nth m.edges i then 6 else
  if (eth a.edges i).t = (eth b.edges (nth m.edges i).toNat).t then
    if nth m.nodes (eth a.edges i).f.toNat = (eth b.edges (nth m.edges i).toNat).f then if nth m.nodes (eth a.edges i).g.toNat = (eth b.edges (nth m.edges i).toNat).g then 0 else 11 else 11
  else 13
/-- The error of a morphism. -/
def morErr (a b : Gr) (m : Pa) : Int :=
  if gErr a = 0 then if gErr b = 0 then if (m.nodes.length : Int) = a.nodes.length ∧ (m.edges.length : Int) = a.edges.length then
    if fe (mnF a b m) m.nodes.length = 0 then fe (meF a b m) m.edges.length else fe (mnF a b m) m.nodes.length
  else 20 else gErr b else gErr a

def c_mvalid : MFunc := ⟨123, [.tmp 6], .seq (.region [⟨some 3, .box 0 25 (.tmp 0), none⟩, ⟨some 4, .box 1 25 (.tmp 1), none⟩, ⟨some 5, .box 2 28 (.tmp 2), none⟩, ⟨some 6, .mv (.c (.one (.t (.int .i64 0)))), none⟩]) (.seq (.seq (.region [⟨some 15, .load true 2 (.tmp 3), none⟩, ⟨some 16, .call (.c (.one (.fn 85 []))) 65 [.tmp 15], none⟩, ⟨some 7, .mv (.tmp 16), none⟩]) (.seq (.region [⟨some 17, .mv (.tmp 7), none⟩, ⟨some 18, .bin .neq (.tmp 17) (.c (.one (.t (.int .i64 0)))), none⟩]) (.cond (.tmp 18) (.seq (.region [⟨some 19, .mv (.tmp 7), none⟩, ⟨some 6, .mv (.tmp 19), none⟩]) .ret) .skip))) (.seq (.seq (.region [⟨some 20, .load true 2 (.tmp 4), none⟩, ⟨some 21, .call (.c (.one (.fn 85 []))) 257 [.tmp 20], none⟩, ⟨some 8, .mv (.tmp 21), none⟩]) (.seq (.region [⟨some 22, .mv (.tmp 8), none⟩, ⟨some 23, .bin .neq (.tmp 22) (.c (.one (.t (.int .i64 0)))), none⟩]) (.cond (.tmp 23) (.seq (.region [⟨some 24, .mv (.tmp 8), none⟩, ⟨some 6, .mv (.tmp 24), none⟩]) .ret) .skip))) (.seq (.seq (.region [⟨some 25, .fieldA 0 (.tmp 5), none⟩, ⟨some 26, .load false 1 (.tmp 25), none⟩, ⟨some 27, .len (.tmp 26), none⟩, ⟨some 28, .fieldA 0 (.tmp 3), none⟩, ⟨some 29, .load false 1 (.tmp 28), none⟩, ⟨some 30, .len (.tmp 29), none⟩, ⟨some 31, .bin .neq (.tmp 27) (.tmp 30), none⟩, ⟨some 32, .mv (.tmp 31), none⟩, ⟨some 33, .fieldA 1 (.tmp 5), some (32, false)⟩, ⟨some 34, .load false 1 (.tmp 33), some (32, false)⟩, ⟨some 35, .len (.tmp 34), some (32, false)⟩, ⟨some 36, .fieldA 1 (.tmp 3), some (32, false)⟩, ⟨some 37, .load false 1 (.tmp 36), some (32, false)⟩, ⟨some 38, .len (.tmp 37), some (32, false)⟩, ⟨some 39, .bin .neq (.tmp 35) (.tmp 38), some (32, false)⟩, ⟨some 40, .pick (.tmp 32) (.c (.one (.t (.bool true)))) (.tmp 39), none⟩]) (.cond (.tmp 40) (.seq (.region [⟨some 6, .mv (.c (.one (.t (.int .i64 20)))), none⟩]) .ret) .skip)) (.seq (.seq (.region [⟨some 41, .fieldA 0 (.tmp 5), none⟩, ⟨some 42, .load false 1 (.tmp 41), none⟩, ⟨some 43, .len (.tmp 42), none⟩, ⟨some 44, .mv (.c (.one (.t (.int .i64 0)))), none⟩]) (.block 0 (.loop (.seq (.region [⟨some 45, .bin .lss (.tmp 44) (.tmp 43), none⟩]) (.seq (.cond (.tmp 45) .skip (.exit 0)) (.seq (.block 1 (.seq (.region [⟨some 46, .mv (.tmp 44), none⟩, ⟨some 47, .idxA 1 (.tmp 42) (.tmp 44), none⟩, ⟨some 48, .load false 1 (.tmp 47), none⟩, ⟨some 9, .mv (.tmp 46), none⟩, ⟨some 10, .mv (.tmp 48), none⟩]) (.seq (.seq (.region [⟨some 49, .mv (.tmp 10), none⟩, ⟨some 50, .bin .lss (.tmp 49) (.c (.one (.t (.int .i64 0)))), none⟩, ⟨some 51, .mv (.tmp 50), none⟩, ⟨some 52, .mv (.tmp 10), some (51, false)⟩, ⟨some 53, .fieldA 0 (.tmp 4), some (51, false)⟩, ⟨some 54, .load false 1 (.tmp 53), some (51, false)⟩, ⟨some 55, .len (.tmp 54), some (51, false)⟩, ⟨some 56, .bin .geq (.tmp 52) (.tmp 55), some (51, false)⟩, ⟨some 57, .pick (.tmp 51) (.c (.one (.t (.bool true)))) (.tmp 56), none⟩]) (.cond (.tmp 57) (.seq (.region [⟨some 6, .mv (.c (.one (.t (.int .i64 6)))), none⟩]) .ret) .skip)) (.seq (.draw [[], [0], [], [1, 2], [3], [], [5], [], [6, 7], [8], [4, 9]] [⟨some 58, .fieldA 0 (.tmp 4), none⟩, ⟨some 59, .load false 1 (.tmp 58), none⟩, ⟨some 60, .mv (.tmp 10), none⟩, ⟨some 61, .idxA 1 (.tmp 59) (.tmp 60), none⟩, ⟨some 62, .load false 1 (.tmp 61), none⟩, ⟨some 63, .fieldA 0 (.tmp 3), none⟩, ⟨some 64, .load false 1 (.tmp 63), none⟩, ⟨some 65, .mv (.tmp 9), none⟩, ⟨some 66, .idxA 1 (.tmp 64) (.tmp 65), none⟩, ⟨some 67, .load false 1 (.tmp 66), none⟩, ⟨some 68, .bin .neq (.tmp 62) (.tmp 67), none⟩]) (.cond (.tmp 68) (.seq (.region [⟨some 6, .mv (.c (.one (.t (.int .i64 13)))), none⟩]) .ret) .skip))))) (.region [⟨some 69, .bin .add (.tmp 44) (.c (.one (.t (.int .i64 1)))), none⟩, ⟨some 44, .mv (.tmp 69), none⟩]))))))) (.seq (.seq (.region [⟨some 70, .fieldA 1 (.tmp 5), none⟩, ⟨some 71, .load false 1 (.tmp 70), none⟩, ⟨some 72, .len (.tmp 71), none⟩, ⟨some 73, .mv (.c (.one (.t (.int .i64 0)))), none⟩]) (.block 2 (.loop (.seq (.region [⟨some 74, .bin .lss (.tmp 73) (.tmp 72), none⟩]) (.seq (.cond (.tmp 74) .skip (.exit 2)) (.seq (.block 3 (.seq (.region [⟨some 75, .mv (.tmp 73), none⟩, ⟨some 76, .idxA 1 (.tmp 71) (.tmp 73), none⟩, ⟨some 77, .load false 1 (.tmp 76), none⟩, ⟨some 11, .mv (.tmp 75), none⟩, ⟨some 12, .mv (.tmp 77), none⟩]) (.seq (.seq (.region [⟨some 78, .mv (.tmp 12), none⟩, ⟨some 79, .bin .lss (.tmp 78) (.c (.one (.t (.int .i64 0)))), none⟩, ⟨some 80, .mv (.tmp 79), none⟩, ⟨some 81, .mv (.tmp 12), some (80, false)⟩, ⟨some 82, .fieldA 1 (.tmp 4), some (80, false)⟩, ⟨some 83, .load false 1 (.tmp 82), some (80, false)⟩, ⟨some 84, .len (.tmp 83), some (80, false)⟩, ⟨some 85, .bin .geq (.tmp 81) (.tmp 84), some (80, false)⟩, ⟨some 86, .pick (.tmp 80) (.c (.one (.t (.bool true)))) (.tmp 85), none⟩]) (.cond (.tmp 86) (.seq (.region [⟨some 6, .mv (.c (.one (.t (.int .i64 6)))), none⟩]) .ret) .skip)) (.seq (.draw [[], [0], [], [1, 2], [3], [], [5], [], [6, 7], [8], [], [], [10, 4, 0, 1, 2, 3, 4, 10, 11], [11, 9, 12, 0, 1, 2, 3, 4, 5, 6, 7, 8, 9, 10, 11, 12]] [⟨some 87, .fieldA 1 (.tmp 3), none⟩, ⟨some 88, .load false 1 (.tmp 87), none⟩, ⟨some 89, .mv (.tmp 11), none⟩, ⟨some 90, .idxA 3 (.tmp 88) (.tmp 89), none⟩, ⟨some 91, .load true 3 (.tmp 90), none⟩, ⟨some 92, .fieldA 1 (.tmp 4), none⟩, ⟨some 93, .load false 1 (.tmp 92), none⟩, ⟨some 94, .mv (.tmp 12), none⟩, ⟨some 95, .idxA 3 (.tmp 93) (.tmp 94), none⟩, ⟨some 96, .load true 3 (.tmp 95), none⟩, ⟨some 13, .alloc 1418 73 [.t (.int .i64 0), .t (.int .i64 0), .t (.int .i64 0)], none⟩, ⟨some 14, .alloc 1419 73 [.t (.int .i64 0), .t (.int .i64 0), .t (.int .i64 0)], none⟩, ⟨none, .store 3 (.tmp 13) (.tmp 91), none⟩, ⟨none, .store 3 (.tmp 14) (.tmp 96), none⟩]) (.seq (.seq (.region [⟨some 97, .fieldA 0 (.tmp 13), none⟩, ⟨some 98, .load false 1 (.tmp 97), none⟩, ⟨some 99, .fieldA 0 (.tmp 14), none⟩, ⟨some 100, .load false 1 (.tmp 99), none⟩, ⟨some 101, .bin .neq (.tmp 98) (.tmp 100), none⟩]) (.cond (.tmp 101) (.seq (.region [⟨some 6, .mv (.c (.one (.t (.int .i64 13)))), none⟩]) .ret) .skip)) (.seq (.draw [[], [0], [], [2], [1, 3], [4], [], [6], [5, 7], [8], [9], [10, 9], [9], [12, 9], [11, 13, 9], [14, 9], [9], [16, 9], [15, 17, 9], [9, 18]] [⟨some 102, .fieldA 0 (.tmp 5), none⟩, ⟨some 103, .load false 1 (.tmp 102), none⟩, ⟨some 104, .fieldA 1 (.tmp 13), none⟩, ⟨some 105, .load false 1 (.tmp 104), none⟩, ⟨some 106, .idxA 1 (.tmp 103) (.tmp 105), none⟩, ⟨some 107, .load false 1 (.tmp 106), none⟩, ⟨some 108, .fieldA 1 (.tmp 14), none⟩, ⟨some 109, .load false 1 (.tmp 108), none⟩, ⟨some 110, .bin .neq (.tmp 107) (.tmp 109), none⟩, ⟨some 111, .mv (.tmp 110), none⟩, ⟨some 112, .fieldA 0 (.tmp 5), some (111, false)⟩, ⟨some 113, .load false 1 (.tmp 112), some (111, false)⟩, ⟨some 114, .fieldA 2 (.tmp 13), some (111, false)⟩, ⟨some 115, .load false 1 (.tmp 114), some (111, false)⟩, ⟨some 116, .idxA 1 (.tmp 113) (.tmp 115), some (111, false)⟩, ⟨some 117, .load false 1 (.tmp 116), some (111, false)⟩, ⟨some 118, .fieldA 2 (.tmp 14), some (111, false)⟩, ⟨some 119, .load false 1 (.tmp 118), some (111, false)⟩, ⟨some 120, .bin .neq (.tmp 117) (.tmp 119), some (111, false)⟩, ⟨some 121, .pick (.tmp 111) (.c (.one (.t (.bool true)))) (.tmp 120), none⟩]) (.cond (.tmp 121) (.seq (.region [⟨some 6, .mv (.c (.one (.t (.int .i64 11)))), none⟩]) .ret) .skip))))))) (.region [⟨some 122, .bin .add (.tmp 73) (.c (.one (.t (.int .i64 1)))), none⟩, ⟨some 73, .mv (.tmp 122), none⟩]))))))) (.seq (.region [⟨some 6, .mv (.c (.one (.t (.int .i64 0)))), none⟩]) .ret))))))⟩
theorem k_mvalid : cFn Try.prog Try.f69 = some c_mvalid := by kernel_rfl
theorem mvalid_ok (a b : Gr) (m : Pa) (ha : tinyG a) (hb : tinyG b) (hm : tinyP m) : CallOK Try.prog 69 [a.v, b.v, m.v] (.sv (false, [.int .i64 (morErr a b m)])) := by
  refine callOK_W (callS_W (by kernel_rfl) Try.func69 k_mvalid (callable_of Try.func69 (by kernel_rfl)) (by simp [c_mvalid]) ?_)
  simp [c_mvalid, rn0, rn1, rn2, rn3, rn4, rn5, rn6, rn7, evOp, Arg.ev, St.val, St.set, St.new, sliceOf, binInt2, binInt, AV.cells, rdAt, St.live, retOf, resOf, resAll, treeOf, treeCell, treeCells, treeTups, untree, frameOf, TV.av, TR.av, ints, edgs, prs, fillV, splice, intsOf, trees, V1.tree, bx, Gr.v, Pa.v]
  refine callS_tree (gvalid_ok a ha.1.small ha.2.small) ?_ ?_ ?_
  · rfl
  · rfl
  by_cases h1 : gErr a = 0
  case neg => simp [rn0, rn1, rn2, rn3, rn4, rn5, rn6, rn7, evOp, Arg.ev, St.val, St.set, St.new, sliceOf, binInt2, binInt, AV.cells, rdAt, St.live, retOf, resOf, resAll, treeOf, treeCell, treeCells, treeTups, untree, frameOf, TV.av, TR.av, ints, edgs, prs, fillV, splice, intsOf, trees, V1.tree, bx, Gr.v, Pa.v, h1, morErr]
  simp [rn0, rn1, rn2, rn3, rn4, rn5, rn6, rn7, evOp, Arg.ev, St.val, St.set, St.new, sliceOf, binInt2, binInt, AV.cells, rdAt, St.live, retOf, resOf, resAll, treeOf, treeCell, treeCells, treeTups, untree, frameOf, TV.av, TR.av, ints, edgs, prs, fillV, splice, intsOf, trees, V1.tree, bx, Gr.v, Pa.v, h1]
  refine callS_tree (gvalid_ok b hb.1.small hb.2.small) ?_ ?_ ?_
  · rfl
  · rfl
  by_cases h2 : gErr b = 0
  case neg => simp [rn0, rn1, rn2, rn3, rn4, rn5, rn6, rn7, evOp, Arg.ev, St.val, St.set, St.new, sliceOf, binInt2, binInt, AV.cells, rdAt, St.live, retOf, resOf, resAll, treeOf, treeCell, treeCells, treeTups, untree, frameOf, TV.av, TR.av, ints, edgs, prs, fillV, splice, intsOf, trees, V1.tree, bx, Gr.v, Pa.v, h1, h2, morErr]
  by_cases h3 : (m.nodes.length : Int) = a.nodes.length
  case neg => simp [rn0, rn1, rn2, rn3, rn4, rn5, rn6, rn7, evOp, Arg.ev, St.val, St.set, St.new, sliceOf, binInt2, binInt, AV.cells, rdAt, St.live, retOf, resOf, resAll, treeOf, treeCell, treeCells, treeTups, untree, frameOf, TV.av, TR.av, ints, edgs, prs, fillV, splice, intsOf, trees, V1.tree, bx, Gr.v, Pa.v, h1, h2, h3, morErr]
  by_cases h4 : (m.edges.length : Int) = a.edges.length
  case neg => simp [rn0, rn1, rn2, rn3, rn4, rn5, rn6, rn7, evOp, Arg.ev, St.val, St.set, St.new, sliceOf, binInt2, binInt, AV.cells, rdAt, St.live, retOf, resOf, resAll, treeOf, treeCell, treeCells, treeTups, untree, frameOf, TV.av, TR.av, ints, edgs, prs, fillV, splice, intsOf, trees, V1.tree, bx, Gr.v, Pa.v, h1, h2, h3, h4, morErr]
  simp [rn0, rn1, rn2, rn3, rn4, rn5, rn6, rn7, evOp, Arg.ev, St.val, St.set, St.new, sliceOf, binInt2, binInt, AV.cells, rdAt, St.live, retOf, resOf, resAll, treeOf, treeCell, treeCells, treeTups, untree, frameOf, TV.av, TR.av, ints, edgs, prs, fillV, splice, intsOf, trees, V1.tree, bx, Gr.v, Pa.v, h2, h3, h4]
  have e0 : morErr a b m = if fe (mnF a b m) m.nodes.length = 0 then fe (meF a b m) m.edges.length else fe (mnF a b m) m.nodes.length := by simp [morErr, h1, h2, h3, h4]
  have ga := gErr_ok h1
  have gb := gErr_ok h2
  have l3 : m.nodes.length = a.nodes.length := by omega
  have l4 : m.edges.length = a.edges.length := by omega
  refine loopW_count 44 m.nodes.length (fun k S => S.fr 3 = .one (.ptr (0, 0) 0) ∧ S.fr 4 = .one (.ptr (1, 0) 0) ∧ S.fr 5 = .one (.ptr (2, 0) 0) ∧ S.fr 42 = .one (.t (ints m.nodes)) ∧ S.fr 43 = .one (.t (.int .i64 m.nodes.length)) ∧
    S.ob (0, 0) = some (bx 25 (a.v.2.map .t)) ∧ S.ob (1, 0) = some (bx 25 (b.v.2.map .t)) ∧ S.ob (2, 0) = some (bx 28 (m.v.2.map .t)) ∧ ∀ j, j < k → mnF a b m j = 0) hm.1.small ?_ ?_ ?_
  · simp [rn0, rn1, rn2, rn3, rn4, rn5, rn6, rn7, evOp, Arg.ev, St.val, St.set, St.new, sliceOf, binInt2, binInt, AV.cells, rdAt, St.live, retOf, resOf, resAll, treeOf, treeCell, treeCells, treeTups, untree, frameOf, TV.av, TR.av, ints, edgs, prs, fillV, splice, intsOf, trees, V1.tree, bx, Gr.v, Pa.v, h3]
  · rintro k S hlt hw hc ⟨f3, f4, f5, f42, f43, o0, o1, o2, hp⟩
    have bad : mnF a b m k ≠ 0 → morErr a b m = mnF a b m k := fun h => by
      have := fe_at (n := m.nodes.length) hlt hp h
      rw [e0, this, if_neg h]
    have hlt2 : k < a.nodes.length := by omega
    by_cases e1 : nth m.nodes k < 0
    · have := bad (by simp [mnF, e1])
      rw [show mnF a b m k = 6 by simp [mnF, e1]] at this
      simp [rn0, rn1, rn2, rn3, rn4, rn5, rn6, rn7, evOp, Arg.ev, St.val, St.set, St.new, sliceOf, binInt2, binInt, AV.cells, rdAt, St.live, retOf, resOf, resAll, treeOf, treeCell, treeCells, treeTups, untree, frameOf, TV.av, TR.av, ints, edgs, prs, fillV, splice, intsOf, trees, V1.tree, bx, Gr.v, Pa.v, f3, f4, f5, f42, f43, o0, o1, o2, hc, hlt, drop_nth hlt, e1, this]
    by_cases e2 : (b.nodes.length : Int) ≤ nth m.nodes k
    · have := bad (by simp [mnF, e1, e2])
      rw [show mnF a b m k = 6 by simp [mnF, e1, e2]] at this
      simp [rn0, rn1, rn2, rn3, rn4, rn5, rn6, rn7, evOp, Arg.ev, St.val, St.set, St.new, sliceOf, binInt2, binInt, AV.cells, rdAt, St.live, retOf, resOf, resAll, treeOf, treeCell, treeCells, treeTups, untree, frameOf, TV.av, TR.av, ints, edgs, prs, fillV, splice, intsOf, trees, V1.tree, bx, Gr.v, Pa.v, f3, f4, f5, f42, f43, o0, o1, o2, hc, hlt, drop_nth hlt, e1, e2, this]
    obtain ⟨x, hx⟩ := Int.eq_ofNat_of_zero_le (show 0 ≤ nth m.nodes k by omega)
    have hx2 : x < b.nodes.length := by omega
    have e2' : ¬ b.nodes.length ≤ x := by omega
    by_cases e3 : nth b.nodes x = nth a.nodes k
    case neg =>
      have := bad (by simp [mnF, natNeg, e2', hx, e3])
      rw [show mnF a b m k = 13 by simp [mnF, natNeg, e2', hx, e3]] at this
      simp [rn0, rn1, rn2, rn3, rn4, rn5, rn6, rn7, evOp, Arg.ev, St.val, St.set, St.new, sliceOf, binInt2, binInt, AV.cells, rdAt, St.live, retOf, resOf, resAll, treeOf, treeCell, treeCells, treeTups, untree, frameOf, TV.av, TR.av, ints, edgs, prs, fillV, splice, intsOf, trees, V1.tree, bx, Gr.v, Pa.v, dw0, dw1, dw2, dw3, opRd, opWr, opNew, opNewR, opArgs, argsRd, argRd, Arg.rd, AV.refs, V1.refs, refsL, dstL, f3, f4, f5, f42, f43, o0, o1, o2, hc, hlt, hlt2, hx, hx2, e2', drop_nth hlt, drop_nth hx2, drop_nth hlt2, e3, this]
      rfl
    simp [rn0, rn1, rn2, rn3, rn4, rn5, rn6, rn7, evOp, Arg.ev, St.val, St.set, St.new, sliceOf, binInt2, binInt, AV.cells, rdAt, St.live, retOf, resOf, resAll, treeOf, treeCell, treeCells, treeTups, untree, frameOf, TV.av, TR.av, ints, edgs, prs, fillV, splice, intsOf, trees, V1.tree, bx, Gr.v, Pa.v, dw0, dw1, dw2, dw3, opRd, opWr, opNew, opNewR, opArgs, argsRd, argRd, Arg.rd, AV.refs, V1.refs, refsL, dstL, f3, f4, f5, f42, f43, o0, o1, o2, hc, hlt, hlt2, hx, hx2, e2', drop_nth hlt, drop_nth hx2, drop_nth hlt2, e3, hw]
    exact ⟨rfl, lt_succ_all hp (by simp [mnF, natNeg, e2', hx, e3])⟩
  · rintro S hc ⟨f3, f4, f5, f42, f43, o0, o1, o2, hp⟩
    rw [fe_zero hp, if_pos rfl] at e0
    simp [rn0, rn1, rn2, rn3, rn4, rn5, rn6, rn7, evOp, Arg.ev, St.val, St.set, St.new, sliceOf, binInt2, binInt, AV.cells, rdAt, St.live, retOf, resOf, resAll, treeOf, treeCell, treeCells, treeTups, untree, frameOf, TV.av, TR.av, ints, edgs, prs, fillV, splice, intsOf, trees, V1.tree, bx, Gr.v, Pa.v, f3, f4, f5, f42, f43, o0, o1, o2, hc]
    refine loopW_count 73 m.edges.length (fun k S => S.fr 3 = .one (.ptr (0, 0) 0) ∧ S.fr 4 = .one (.ptr (1, 0) 0) ∧ S.fr 5 = .one (.ptr (2, 0) 0) ∧ S.fr 71 = .one (.t (ints m.edges)) ∧ S.fr 72 = .one (.t (.int .i64 m.edges.length)) ∧
      S.ob (0, 0) = some (bx 25 (a.v.2.map .t)) ∧ S.ob (1, 0) = some (bx 25 (b.v.2.map .t)) ∧ S.ob (2, 0) = some (bx 28 (m.v.2.map .t)) ∧ ∀ j, j < k → meF a b m j = 0) hm.2.small ?_ ?_ ?_
    · simp [rn0, rn1, rn2, rn3, rn4, rn5, rn6, rn7, evOp, Arg.ev, St.val, St.set, St.new, sliceOf, binInt2, binInt, AV.cells, rdAt, St.live, retOf, resOf, resAll, treeOf, treeCell, treeCells, treeTups, untree, frameOf, TV.av, TR.av, ints, edgs, prs, fillV, splice, intsOf, trees, V1.tree, bx, Gr.v, Pa.v, f3, f4, f5, o0, o1, o2]
    · rintro k S hlt hw hc ⟨f3, f4, f5, f71, f72, o0, o1, o2, hp⟩
      have bad : meF a b m k ≠ 0 → morErr a b m = meF a b m k := fun h => by
        have := fe_at (n := m.edges.length) hlt hp h
        rw [e0, this]
      have hlt2 : k < a.edges.length := by omega
      have hlt3 : k * 3 < a.edges.length * 3 := by omega
      by_cases e1 : nth m.edges k < 0
      · have := bad (by simp [meF, e1])
        rw [show meF a b m k = 6 by simp [meF, e1]] at this
        simp [rn0, rn1, rn2, rn3, rn4, rn5, rn6, rn7, evOp, Arg.ev, St.val, St.set, St.new, sliceOf, binInt2, binInt, AV.cells, rdAt, St.live, retOf, resOf, resAll, treeOf, treeCell, treeCells, treeTups, untree, frameOf, TV.av, TR.av, ints, edgs, prs, fillV, splice, intsOf, trees, V1.tree, bx, Gr.v, Pa.v, f3, f4, f5, f71, f72, o0, o1, o2, hc, hlt, drop_nth hlt, e1, this]
      by_cases e2 : (b.edges.length : Int) ≤ nth m.edges k
      · have := bad (by simp [meF, e1, e2])
        rw [show meF a b m k = 6 by simp [meF, e1, e2]] at this
        simp [rn0, rn1, rn2, rn3, rn4, rn5, rn6, rn7, evOp, Arg.ev, St.val, St.set, St.new, sliceOf, binInt2, binInt, AV.cells, rdAt, St.live, retOf, resOf, resAll, treeOf, treeCell, treeCells, treeTups, untree, frameOf, TV.av, TR.av, ints, edgs, prs, fillV, splice, intsOf, trees, V1.tree, bx, Gr.v, Pa.v, f3, f4, f5, f71, f72, o0, o1, o2, hc, hlt, drop_nth hlt, e1, e2, this]
      obtain ⟨x, hx⟩ := Int.eq_ofNat_of_zero_le (show 0 ≤ nth m.edges k by omega)
      have hx2 : x < b.edges.length := by omega
      have hx3 : x * 3 < b.edges.length * 3 := by omega
      have e2' : ¬ b.edges.length ≤ x := by omega
      obtain ⟨_, _, q1, q2, q3, q4⟩ := ga.edges _ (eth_mem hlt2)
      obtain ⟨y, hy⟩ := Int.eq_ofNat_of_zero_le q1
      obtain ⟨z, hz⟩ := Int.eq_ofNat_of_zero_le q3
      have hy2 : y < m.nodes.length := by omega
      have hz2 : z < m.nodes.length := by omega
      by_cases e3 : (eth a.edges k).t = (eth b.edges x).t
      case neg =>
        have := bad (by simp [meF, natNeg, e2', hx, e3])
        rw [show meF a b m k = 13 by simp [meF, natNeg, e2', hx, e3]] at this
        simp [rn0, rn1, rn2, rn3, rn4, rn5, rn6, rn7, evOp, Arg.ev, St.val, St.set, St.new, sliceOf, binInt2, binInt, AV.cells, rdAt, St.live, retOf, resOf, resAll, treeOf, treeCell, treeCells, treeTups, untree, frameOf, TV.av, TR.av, ints, edgs, prs, fillV, splice, intsOf, trees, V1.tree, bx, Gr.v, Pa.v, dw0, dw1, dw2, dw3, opRd, opWr, opNew, opNewR, opArgs, argsRd, argRd, Arg.rd, AV.refs, V1.refs, refsL, dstL, f3, f4, f5, f71, f72, o0, o1, o2, hc, hlt, hlt2, hlt3, hx, hx2, hx3, e2', drop_nth hlt, drop_edL hx2, drop_edL hlt2, e3, this]
        rfl
      by_cases e4 : nth m.nodes y = (eth b.edges x).f
      case neg =>
        have := bad (by simp [meF, natNeg, e2', hx, e3, hy, e4])
        rw [show meF a b m k = 11 by simp [meF, natNeg, e2', hx, e3, hy, e4]] at this
        simp [rn0, rn1, rn2, rn3, rn4, rn5, rn6, rn7, evOp, Arg.ev, St.val, St.set, St.new, sliceOf, binInt2, binInt, AV.cells, rdAt, St.live, retOf, resOf, resAll, treeOf, treeCell, treeCells, treeTups, untree, frameOf, TV.av, TR.av, ints, edgs, prs, fillV, splice, intsOf, trees, V1.tree, bx, Gr.v, Pa.v, dw0, dw1, dw2, dw3, opRd, opWr, opNew, opNewR, opArgs, argsRd, argRd, Arg.rd, AV.refs, V1.refs, refsL, dstL, f3, f4, f5, f71, f72, o0, o1, o2, hc, hlt, hlt2, hlt3, hx, hx2, hx3, e2', drop_nth hlt, drop_edL hx2, drop_edL hlt2, e3, hy, hy2, drop_nth hy2, e4, this]
        exact ⟨rfl, rfl⟩
      by_cases e5 : nth m.nodes z = (eth b.edges x).g
      case neg =>
        have := bad (by simp [meF, natNeg, e2', hx, e3, hy, e4, hz, e5])
        rw [show meF a b m k = 11 by simp [meF, natNeg, e2', hx, e3, hy, e4, hz, e5]] at this
        simp [rn0, rn1, rn2, rn3, rn4, rn5, rn6, rn7, evOp, Arg.ev, St.val, St.set, St.new, sliceOf, binInt2, binInt, AV.cells, rdAt, St.live, retOf, resOf, resAll, treeOf, treeCell, treeCells, treeTups, untree, frameOf, TV.av, TR.av, ints, edgs, prs, fillV, splice, intsOf, trees, V1.tree, bx, Gr.v, Pa.v, dw0, dw1, dw2, dw3, opRd, opWr, opNew, opNewR, opArgs, argsRd, argRd, Arg.rd, AV.refs, V1.refs, refsL, dstL, f3, f4, f5, f71, f72, o0, o1, o2, hc, hlt, hlt2, hlt3, hx, hx2, hx3, e2', drop_nth hlt, drop_edL hx2, drop_edL hlt2, e3, hy, hy2, drop_nth hy2, e4, hz, hz2, drop_nth hz2, e5, this]
        exact ⟨rfl, rfl⟩
      simp [rn0, rn1, rn2, rn3, rn4, rn5, rn6, rn7, evOp, Arg.ev, St.val, St.set, St.new, sliceOf, binInt2, binInt, AV.cells, rdAt, St.live, retOf, resOf, resAll, treeOf, treeCell, treeCells, treeTups, untree, frameOf, TV.av, TR.av, ints, edgs, prs, fillV, splice, intsOf, trees, V1.tree, bx, Gr.v, Pa.v, dw0, dw1, dw2, dw3, opRd, opWr, opNew, opNewR, opArgs, argsRd, argRd, Arg.rd, AV.refs, V1.refs, refsL, dstL, f3, f4, f5, f71, f72, o0, o1, o2, hc, hlt, hlt2, hlt3, hx, hx2, hx3, e2', drop_nth hlt, drop_edL hx2, drop_edL hlt2, e3, hy, hy2, drop_nth hy2, e4, hz, hz2, drop_nth hz2, e5, hw]
      exact ⟨rfl, rfl, lt_succ_all hp (by simp [meF, natNeg, e2', hx, e3, hy, e4, hz, e5])⟩
    · rintro S hc ⟨f3, f4, f5, f71, f72, o0, o1, o2, hp⟩
      rw [fe_zero hp] at e0
      simp [rn0, rn1, rn2, rn3, rn4, rn5, rn6, rn7, evOp, Arg.ev, St.val, St.set, St.new, sliceOf, binInt2, binInt, AV.cells, rdAt, St.live, retOf, resOf, resAll, treeOf, treeCell, treeCells, treeTups, untree, frameOf, TV.av, TR.av, ints, edgs, prs, fillV, splice, intsOf, trees, V1.tree, bx, Gr.v, Pa.v, f3, f4, f5, hc, f71, f72, e0]
end Go.Proofs.Ythapbbpdcjmmfaa
