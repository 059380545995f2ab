/-
  Contracts: what a valid graph is, in the program and in the reference. No condition beyond those that each statement names.
-/
import Derived.Test.YthapbbpdcjmmfaaF1
namespace Go.Proofs.Ythapbbpdcjmmfaa
open Abs
set_option linter.unusedSimpArgs false
set_option linter.unusedVariables false

def edV (e : Ed) : TV := (true, edC e)
def eOk (n : Int) (e : Ed) : Bool := within e.t 99 && within e.f (n - 1) && within e.g (n - 1)

theorem within_lt (a n : Int) : within a (n - 1) = (decide (0 ≤ a) && decide (a < n)) := by
  by_cases h : 0 ≤ a <;> simp [within, h] <;> omega

def c_right : MFunc := ⟨30, [.tmp 4], .seq (.region [⟨some 2, .box 0 73 (.tmp 0), none⟩, ⟨some 4, .mv (.c (.one (.t (.bool false)))), none⟩]) (.seq (.region [⟨some 5, .fieldA 0 (.tmp 2), none⟩, ⟨some 6, .load false 1 (.tmp 5), none⟩, ⟨some 7, .call (.c (.one (.fn 107 []))) 66 [.tmp 6], none⟩, ⟨some 8, .mv (.tmp 7), none⟩, ⟨some 9, .fieldA 1 (.tmp 2), some (8, true)⟩, ⟨some 10, .load false 1 (.tmp 9), some (8, true)⟩, ⟨some 11, .bin .geq (.tmp 10) (.c (.one (.t (.int .i64 0)))), some (8, true)⟩, ⟨some 12, .pick (.tmp 8) (.tmp 11) (.c (.one (.t (.bool false)))), none⟩, ⟨some 13, .mv (.tmp 12), none⟩, ⟨some 14, .fieldA 1 (.tmp 2), some (13, true)⟩, ⟨some 15, .load false 1 (.tmp 14), some (13, true)⟩, ⟨some 16, .mv (.tmp 1), some (13, true)⟩, ⟨some 17, .bin .lss (.tmp 15) (.tmp 16), some (13, true)⟩, ⟨some 18, .pick (.tmp 13) (.tmp 17) (.c (.one (.t (.bool false)))), none⟩, ⟨some 19, .mv (.tmp 18), none⟩, ⟨some 20, .fieldA 2 (.tmp 2), some (19, true)⟩, ⟨some 21, .load false 1 (.tmp 20), some (19, true)⟩, ⟨some 22, .bin .geq (.tmp 21) (.c (.one (.t (.int .i64 0)))), some (19, true)⟩, ⟨some 23, .pick (.tmp 19) (.tmp 22) (.c (.one (.t (.bool false)))), none⟩, ⟨some 24, .mv (.tmp 23), none⟩, ⟨some 25, .fieldA 2 (.tmp 2), some (24, true)⟩, ⟨some 26, .load false 1 (.tmp 25), some (24, true)⟩, ⟨some 27, .mv (.tmp 1), some (24, true)⟩, ⟨some 28, .bin .lss (.tmp 26) (.tmp 27), some (24, true)⟩, ⟨some 29, .pick (.tmp 24) (.tmp 28) (.c (.one (.t (.bool false)))), none⟩, ⟨some 4, .mv (.tmp 29), none⟩]) .ret)⟩
theorem k_right : cFn Try.prog Try.f108 = some c_right := by kernel_rfl
theorem right_ok (e : Ed) (n : Int) : CallOK Try.prog 108 [edV e, (false, [.int .i64 n])] (.sv (false, [.bool (eOk n e)])) := by
  refine callOK_W (callS_W (by kernel_rfl) Try.func108 k_right (callable_of Try.func108 (by kernel_rfl)) (by simp [c_right]) ?_)
  simp [c_right, rn0, rn1, rn2, rn3, rn4, rn5, rn6, rn7, evOp, Arg.ev, St.val, St.set, St.new, sliceOf, binInt2, binInt, AV.cells, rdAt, St.live, retOf, resOf, resAll, treeOf, treeCell, treeCells, treeTups, untree, frameOf, TV.av, TR.av, ints, edgs, prs, fillV, splice, intsOf, trees, V1.tree, bx, Gr.v, Pa.v, edV, edC]
  refine callS_tree (kind_ok e.t) ?_ ?_ ?_
  · rfl
  · rfl
  simp only [eOk, within_lt]
  cases h1 : within e.t 99 <;> by_cases h2 : 0 ≤ e.f <;> by_cases h3 : e.f < n <;> by_cases h4 : 0 ≤ e.g <;> by_cases h5 : e.g < n <;> simp [rn0, rn1, rn2, rn3, rn4, rn5, rn6, rn7, evOp, Arg.ev, St.val, St.set, St.new, sliceOf, binInt2, binInt, AV.cells, rdAt, St.live, retOf, resOf, resAll, treeOf, treeCell, treeCells, treeTups, untree, frameOf, TV.av, TR.av, ints, edgs, prs, fillV, splice, intsOf, trees, V1.tree, bx, Gr.v, Pa.v, h1, h2, h3, h4, h5]

def c_fits : MFunc := ⟨22, [.tmp 4], .seq (.region [⟨some 2, .box 0 73 (.tmp 0), none⟩, ⟨some 4, .mv (.c (.one (.t (.bool false)))), none⟩]) (.seq (.region [⟨some 5, .fieldA 0 (.tmp 2), none⟩, ⟨some 6, .load false 1 (.tmp 5), none⟩, ⟨some 7, .call (.c (.one (.fn 116 []))) 66 [.tmp 6, .c (.one (.t (.int .i64 99)))], none⟩, ⟨some 8, .mv (.tmp 7), none⟩, ⟨some 9, .fieldA 1 (.tmp 2), some (8, true)⟩, ⟨some 10, .load false 1 (.tmp 9), some (8, true)⟩, ⟨some 11, .mv (.tmp 1), some (8, true)⟩, ⟨some 12, .bin .sub (.tmp 11) (.c (.one (.t (.int .i64 1)))), some (8, true)⟩, ⟨some 13, .call (.c (.one (.fn 116 []))) 72 [.tmp 10, .tmp 12], some (8, true)⟩, ⟨some 14, .pick (.tmp 8) (.tmp 13) (.c (.one (.t (.bool false)))), none⟩, ⟨some 15, .mv (.tmp 14), none⟩, ⟨some 16, .fieldA 2 (.tmp 2), some (15, true)⟩, ⟨some 17, .load false 1 (.tmp 16), some (15, true)⟩, ⟨some 18, .mv (.tmp 1), some (15, true)⟩, ⟨some 19, .bin .sub (.tmp 18) (.c (.one (.t (.int .i64 1)))), some (15, true)⟩, ⟨some 20, .call (.c (.one (.fn 116 []))) 79 [.tmp 17, .tmp 19], some (15, true)⟩, ⟨some 21, .pick (.tmp 15) (.tmp 20) (.c (.one (.t (.bool false)))), none⟩, ⟨some 4, .mv (.tmp 21), none⟩]) .ret)⟩
theorem k_fits : cFn Try.prog Try.f119 = some c_fits := by kernel_rfl
theorem fits_ok (e : Ed) (n : Int) (hn : 0 ≤ n ∧ n ≤ 1000000) : CallOK Try.prog 119 [edV e, (false, [.int .i64 n])] (.sv (false, [.bool (eOk n e)])) := by
  refine callOK_W (callS_W (by kernel_rfl) Try.func119 k_fits (callable_of Try.func119 (by kernel_rfl)) (by simp [c_fits]) ?_)
  have hw : IntKind.i64.wrap (n - 1) = n - 1 := by rw [wrap64_id] <;> omega
  simp [c_fits, rn0, rn1, rn2, rn3, rn4, rn5, rn6, rn7, evOp, Arg.ev, St.val, St.set, St.new, sliceOf, binInt2, binInt, AV.cells, rdAt, St.live, retOf, resOf, resAll, treeOf, treeCell, treeCells, treeTups, untree, frameOf, TV.av, TR.av, ints, edgs, prs, fillV, splice, intsOf, trees, V1.tree, bx, Gr.v, Pa.v, edV, edC]
  refine callS_tree (within_ok e.t 99) ?_ ?_ ?_
  · rfl
  · rfl
  cases h1 : within e.t 99
  · simp [rn0, rn1, rn2, rn3, rn4, rn5, rn6, rn7, evOp, Arg.ev, St.val, St.set, St.new, sliceOf, binInt2, binInt, AV.cells, rdAt, St.live, retOf, resOf, resAll, treeOf, treeCell, treeCells, treeTups, untree, frameOf, TV.av, TR.av, ints, edgs, prs, fillV, splice, intsOf, trees, V1.tree, bx, Gr.v, Pa.v, eOk, h1]
  · simp [rn0, rn1, rn2, rn3, rn4, rn5, rn6, rn7, evOp, Arg.ev, St.val, St.set, St.new, sliceOf, binInt2, binInt, AV.cells, rdAt, St.live, retOf, resOf, resAll, treeOf, treeCell, treeCells, treeTups, untree, frameOf, TV.av, TR.av, ints, edgs, prs, fillV, splice, intsOf, trees, V1.tree, bx, Gr.v, Pa.v, h1, hw]
    refine callS_tree (within_ok e.f (n - 1)) ?_ ?_ ?_
    · rfl
    · rfl
    cases h2 : within e.f (n - 1)
    · simp [rn0, rn1, rn2, rn3, rn4, rn5, rn6, rn7, evOp, Arg.ev, St.val, St.set, St.new, sliceOf, binInt2, binInt, AV.cells, rdAt, St.live, retOf, resOf, resAll, treeOf, treeCell, treeCells, treeTups, untree, frameOf, TV.av, TR.av, ints, edgs, prs, fillV, splice, intsOf, trees, V1.tree, bx, Gr.v, Pa.v, eOk, h1, h2]
    · simp [rn0, rn1, rn2, rn3, rn4, rn5, rn6, rn7, evOp, Arg.ev, St.val, St.set, St.new, sliceOf, binInt2, binInt, AV.cells, rdAt, St.live, retOf, resOf, resAll, treeOf, treeCell, treeCells, treeTups, untree, frameOf, TV.av, TR.av, ints, edgs, prs, fillV, splice, intsOf, trees, V1.tree, bx, Gr.v, Pa.v, h1, h2, hw]
      refine callS_tree (within_ok e.g (n - 1)) ?_ ?_ ?_
      · rfl
      · rfl
      simp [rn0, rn1, rn2, rn3, rn4, rn5, rn6, rn7, evOp, Arg.ev, St.val, St.set, St.new, sliceOf, binInt2, binInt, AV.cells, rdAt, St.live, retOf, resOf, resAll, treeOf, treeCell, treeCells, treeTups, untree, frameOf, TV.av, TR.av, ints, edgs, prs, fillV, splice, intsOf, trees, V1.tree, bx, Gr.v, Pa.v, eOk, h1, h2]

/-- The first place where p holds, or -1. -/
def fidx {α : Type} (p : α → Bool) (l : List α) : Int := if l.any p then (l.findIdx p : Nat) else -1

theorem fidx_at {α : Type} {p : α → Bool} {l : List α} {k : Nat} (hk : k < l.length) (hn : ∀ j, (h : j < k) → p (l[j]'(by omega)) = false) (he : p l[k] = true) : fidx p l = k := by
  have ha : l.any p = true := List.any_eq_true.2 ⟨l[k], List.getElem_mem hk, he⟩
  have : l.findIdx p = k := List.findIdx_eq hk |>.2 ⟨he, hn⟩
  simp [fidx, ha, this]

theorem fidx_none {α : Type} {p : α → Bool} {l : List α} (hn : ∀ j, (h : j < l.length) → p l[j] = false) : fidx p l = -1 := by
  have ha : l.any p = false := by
    rw [List.any_eq_false]
    intro x hx
    obtain ⟨j, hj, rfl⟩ := List.mem_iff_getElem.1 hx
    simp [hn j hj]
  simp [fidx, ha]

def c_indexF : MFunc := ⟨19, [.tmp 4], .seq (.region [⟨some 4, .mv (.c (.one (.t (.int .i64 0)))), none⟩]) (.seq (.seq (.region [⟨some 6, .mv (.tmp 0), none⟩, ⟨some 7, .len (.tmp 6), none⟩, ⟨some 8, .mv (.c (.one (.t (.int .i64 0)))), none⟩]) (.block 0 (.loop (.seq (.region [⟨some 9, .bin .lss (.tmp 8) (.tmp 7), none⟩]) (.seq (.cond (.tmp 9) .skip (.exit 0)) (.seq (.block 1 (.seq (.region [⟨some 10, .mv (.tmp 8), none⟩, ⟨some 5, .mv (.tmp 10), none⟩]) (.seq (.region [⟨some 11, .mv (.tmp 1), none⟩, ⟨some 12, .mv (.tmp 0), none⟩, ⟨some 13, .mv (.tmp 5), none⟩, ⟨some 14, .idxA 1 (.tmp 12) (.tmp 13), none⟩, ⟨some 15, .load false 1 (.tmp 14), none⟩, ⟨some 16, .call (.tmp 11) 261 [.tmp 15], none⟩]) (.cond (.tmp 16) (.seq (.region [⟨some 17, .mv (.tmp 5), none⟩, ⟨some 4, .mv (.tmp 17), none⟩]) .ret) .skip)))) (.region [⟨some 18, .bin .add (.tmp 8) (.c (.one (.t (.int .i64 1)))), none⟩, ⟨some 8, .mv (.tmp 18), none⟩]))))))) (.seq (.region [⟨some 4, .mv (.c (.one (.t (.int .i64 (-1))))), none⟩]) .ret))⟩
theorem k_indexF : cFn Try.prog Try.f61 = some c_indexF := by kernel_rfl
theorem indexF_S {g : FuncId} {caps : List Nm} {ob : Nm → Option Ob} {cnt : Nat → Nat} {K : AV → (Nm → Option Ob) → (Nat → Nat) → Prop} (l : List Int) (p : Int → Bool) (hl : small l.length) (I : (Nm → Option Ob) → (Nat → Nat) → Prop)
    (h : ∀ x ∈ l, ∀ ob cnt, I ob cnt → ∀ K : AV → (Nm → Option Ob) → (Nat → Nat) → Prop, (∀ ob cnt, I ob cnt → K (.one (.t (.bool (p x)))) ob cnt) → CallS Try.prog g (.one (.t (.int .i64 x)) :: caps.map (fun n => .one (.ptr n 0))) ob cnt K)
    (hI : I ob cnt) (hK : ∀ ob cnt, I ob cnt → K (.one (.t (.int .i64 (fidx p l)))) ob cnt) : CallS Try.prog 61 [.one (.t (ints l)), .one (.fn g caps)] ob cnt K := by
  refine callS_W (by kernel_rfl) Try.func61 k_indexF (callable_of Try.func61 (by kernel_rfl)) (by simp [c_indexF]) ?_
  simp [c_indexF, rn0, rn1, rn2, rn3, rn4, rn5, rn6, rn7, evOp, Arg.ev, St.val, St.set, St.new, sliceOf, binInt2, binInt, AV.cells, rdAt, St.live, retOf, resOf, resAll, treeOf, treeCell, treeCells, treeTups, untree, frameOf, TV.av, TR.av, ints, edgs, prs, fillV, splice, intsOf, trees, V1.tree, bx, Gr.v, Pa.v]
  refine loopW_count 8 l.length (fun k S => S.fr 0 = .one (.t (ints l)) ∧ S.fr 1 = .one (.fn g caps) ∧ S.fr 7 = .one (.t (.int .i64 l.length)) ∧ I S.ob S.cnt ∧ ∀ j, (hj : j < l.length) → j < k → p l[j] = false) hl ?_ ?_ ?_
  · simp [rn0, rn1, rn2, rn3, rn4, rn5, rn6, rn7, evOp, Arg.ev, St.val, St.set, St.new, sliceOf, binInt2, binInt, AV.cells, rdAt, St.live, retOf, resOf, resAll, treeOf, treeCell, treeCells, treeTups, untree, frameOf, TV.av, TR.av, ints, edgs, prs, fillV, splice, intsOf, trees, V1.tree, bx, Gr.v, Pa.v, hI]
  · rintro k S hlt hw hc ⟨h0, h1, h7, hi, hp⟩
    simp [rn0, rn1, rn2, rn3, rn4, rn5, rn6, rn7, evOp, Arg.ev, St.val, St.set, St.new, sliceOf, binInt2, binInt, AV.cells, rdAt, St.live, retOf, resOf, resAll, treeOf, treeCell, treeCells, treeTups, untree, frameOf, TV.av, TR.av, ints, edgs, prs, fillV, splice, intsOf, trees, V1.tree, bx, Gr.v, Pa.v, h0, h1, h7, hc, hlt, drop_nth hlt, kCall_k]
    refine h _ (nth_mem hlt) _ _ hi _ fun ob cnt hi => ?_
    cases he : p (nth l k)
    · simp [rn0, rn1, rn2, rn3, rn4, rn5, rn6, rn7, evOp, Arg.ev, St.val, St.set, St.new, sliceOf, binInt2, binInt, AV.cells, rdAt, St.live, retOf, resOf, resAll, treeOf, treeCell, treeCells, treeTups, untree, frameOf, TV.av, TR.av, ints, edgs, prs, fillV, splice, intsOf, trees, V1.tree, bx, Gr.v, Pa.v, h0, h1, h7, hc, he, hw, hi]
      intro j hj hk
      rcases Nat.lt_succ_iff_lt_or_eq.1 hk with hk | rfl
      · exact hp j hj hk
      · rw [nth_eq hlt] at he
        exact he
    · have e : fidx p l = k := fidx_at hlt (fun j hj => hp j _ hj) (by rw [nth_eq hlt] at he; exact he)
      have hK := hK ob cnt hi
      simp [rn0, rn1, rn2, rn3, rn4, rn5, rn6, rn7, evOp, Arg.ev, St.val, St.set, St.new, sliceOf, binInt2, binInt, AV.cells, rdAt, St.live, retOf, resOf, resAll, treeOf, treeCell, treeCells, treeTups, untree, frameOf, TV.av, TR.av, ints, edgs, prs, fillV, splice, intsOf, trees, V1.tree, bx, Gr.v, Pa.v, h0, h1, h7, hc, he, hw, e] at hK ⊢
      exact hK
  · rintro S hc ⟨h0, h1, h7, hi, hp⟩
    have e : fidx p l = -1 := fidx_none fun j hj => hp j hj hj
    have hK := hK _ _ hi
    rw [e] at hK
    simpa [rn0, rn1, rn2, rn3, rn4, rn5, rn6, rn7, evOp, Arg.ev, St.val, St.set, St.new, sliceOf, binInt2, binInt, AV.cells, rdAt, St.live, retOf, resOf, resAll, treeOf, treeCell, treeCells, treeTups, untree, frameOf, TV.av, TR.av, ints, edgs, prs, fillV, splice, intsOf, trees, V1.tree, bx, Gr.v, Pa.v, h0, h1, h7, hc] using hK

def c_containsF : MFunc := ⟨9, [.tmp 4], .seq (.region [⟨some 4, .mv (.c (.one (.t (.bool false)))), none⟩]) (.seq (.region [⟨some 5, .mv (.tmp 0), none⟩, ⟨some 6, .mv (.tmp 1), none⟩, ⟨some 7, .call (.c (.one (.fn 61 []))) 66 [.tmp 5, .tmp 6], none⟩, ⟨some 8, .bin .geq (.tmp 7) (.c (.one (.t (.int .i64 0)))), none⟩, ⟨some 4, .mv (.tmp 8), none⟩]) .ret)⟩
theorem k_containsF : cFn Try.prog Try.f31 = some c_containsF := by kernel_rfl
theorem containsF_S {g : FuncId} {caps : List Nm} {ob : Nm → Option Ob} {cnt : Nat → Nat} {K : AV → (Nm → Option Ob) → (Nat → Nat) → Prop} (l : List Int) (p : Int → Bool) (hl : small l.length) (I : (Nm → Option Ob) → (Nat → Nat) → Prop)
    (h : ∀ x ∈ l, ∀ ob cnt, I ob cnt → ∀ K : AV → (Nm → Option Ob) → (Nat → Nat) → Prop, (∀ ob cnt, I ob cnt → K (.one (.t (.bool (p x)))) ob cnt) → CallS Try.prog g (.one (.t (.int .i64 x)) :: caps.map (fun n => .one (.ptr n 0))) ob cnt K)
    (hI : I ob cnt) (hK : ∀ ob cnt, I ob cnt → K (.one (.t (.bool (l.any p)))) ob cnt) : CallS Try.prog 31 [.one (.t (ints l)), .one (.fn g caps)] ob cnt K := by
  refine callS_W (by kernel_rfl) Try.func31 k_containsF (callable_of Try.func31 (by kernel_rfl)) (by simp [c_containsF]) ?_
  simp [c_containsF, rn0, rn1, rn2, rn3, rn4, rn5, rn6, rn7, evOp, Arg.ev, St.val, St.set, St.new, sliceOf, binInt2, binInt, AV.cells, rdAt, St.live, retOf, resOf, resAll, treeOf, treeCell, treeCells, treeTups, untree, frameOf, TV.av, TR.av, ints, edgs, prs, fillV, splice, intsOf, trees, V1.tree, bx, Gr.v, Pa.v]
  refine indexF_S l p hl I h hI fun ob cnt hi => ?_
  have hK := hK ob cnt hi
  cases ha : l.any p <;> (rw [ha] at hK; simpa [rn0, rn1, rn2, rn3, rn4, rn5, rn6, rn7, evOp, Arg.ev, St.val, St.set, St.new, sliceOf, binInt2, binInt, AV.cells, rdAt, St.live, retOf, resOf, resAll, treeOf, treeCell, treeCells, treeTups, untree, frameOf, TV.av, TR.av, ints, edgs, prs, fillV, splice, intsOf, trees, V1.tree, bx, Gr.v, Pa.v, fidx, ha] using hK)
end Go.Proofs.Ythapbbpdcjmmfaa
