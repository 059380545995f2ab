/-
  Contracts: what a valid graph is, in the program and in the reference (2). No condition beyond those that each statement names.
-/
import Derived.Test.YthapbbpdcjmmfaaF2
namespace Go.Proofs.Ythapbbpdcjmmfaa
open Abs
set_option linter.unusedSimpArgs false
set_option linter.unusedVariables false

def c_indexFE : MFunc := ⟨19, [.tmp 4], .seq (.region [⟨some 4, .mv (.c (.one (.t (.int .i64 0)))), none⟩]) (.seq (.seq (.region [⟨some 6, .mv (.tmp 0), none⟩, ⟨some 7, .len (.tmp 6), none⟩, ⟨some 8, .mv (.c (.one (.t (.int .i64 0)))), none⟩]) (.block 0 (.loop (.seq (.region [⟨some 9, .bin .lss (.tmp 8) (.tmp 7), none⟩]) (.seq (.cond (.tmp 9) .skip (.exit 0)) (.seq (.block 1 (.seq (.region [⟨some 10, .mv (.tmp 8), none⟩, ⟨some 5, .mv (.tmp 10), none⟩]) (.seq (.region [⟨some 11, .mv (.tmp 1), none⟩, ⟨some 12, .mv (.tmp 0), none⟩, ⟨some 13, .mv (.tmp 5), none⟩, ⟨some 14, .idxA 3 (.tmp 12) (.tmp 13), none⟩, ⟨some 15, .load true 3 (.tmp 14), none⟩, ⟨some 16, .call (.tmp 11) 261 [.tmp 15], none⟩]) (.cond (.tmp 16) (.seq (.region [⟨some 17, .mv (.tmp 5), none⟩, ⟨some 4, .mv (.tmp 17), none⟩]) .ret) .skip)))) (.region [⟨some 18, .bin .add (.tmp 8) (.c (.one (.t (.int .i64 1)))), none⟩, ⟨some 8, .mv (.tmp 18), none⟩]))))))) (.seq (.region [⟨some 4, .mv (.c (.one (.t (.int .i64 (-1))))), none⟩]) .ret))⟩
theorem k_indexFE : cFn Try.prog Try.f133 = some c_indexFE := by kernel_rfl
theorem indexFE_S {g : FuncId} {caps : List Nm} {ob : Nm → Option Ob} {cnt : Nat → Nat} {K : AV → (Nm → Option Ob) → (Nat → Nat) → Prop} (l : List Ed) (p : Ed → Bool) (hl : small l.length) (I : (Nm → Option Ob) → (Nat → Nat) → Prop)
    (h : ∀ x ∈ l, ∀ ob cnt, I ob cnt → ∀ K : AV → (Nm → Option Ob) → (Nat → Nat) → Prop, (∀ ob cnt, I ob cnt → K (.one (.t (.bool (p x)))) ob cnt) → CallS Try.prog g (.agg ((edC x).map .t) :: caps.map (fun n => .one (.ptr n 0))) ob cnt K)
    (hI : I ob cnt) (hK : ∀ ob cnt, I ob cnt → K (.one (.t (.int .i64 (fidx p l)))) ob cnt) : CallS Try.prog 133 [.one (.t (edgs l)), .one (.fn g caps)] ob cnt K := by
  refine callS_W (by kernel_rfl) Try.func133 k_indexFE (callable_of Try.func133 (by kernel_rfl)) (by simp [c_indexFE]) ?_
  simp [c_indexFE, rn0, rn1, rn2, rn3, rn4, rn5, rn6, rn7, evOp, Arg.ev, St.val, St.set, St.new, sliceOf, binInt2, binInt, AV.cells, rdAt, St.live, retOf, resOf, resAll, treeOf, treeCell, treeCells, treeTups, untree, frameOf, TV.av, TR.av, ints, edgs, prs, fillV, splice, intsOf, trees, V1.tree, bx, Gr.v, Pa.v]
  refine loopW_count 8 l.length (fun k S => S.fr 0 = .one (.t (edgs l)) ∧ S.fr 1 = .one (.fn g caps) ∧ S.fr 7 = .one (.t (.int .i64 l.length)) ∧ I S.ob S.cnt ∧ ∀ j, (hj : j < l.length) → j < k → p l[j] = false) hl ?_ ?_ ?_
  · simp [rn0, rn1, rn2, rn3, rn4, rn5, rn6, rn7, evOp, Arg.ev, St.val, St.set, St.new, sliceOf, binInt2, binInt, AV.cells, rdAt, St.live, retOf, resOf, resAll, treeOf, treeCell, treeCells, treeTups, untree, frameOf, TV.av, TR.av, ints, edgs, prs, fillV, splice, intsOf, trees, V1.tree, bx, Gr.v, Pa.v, hI]
  · rintro k S hlt hw hc ⟨h0, h1, h7, hi, hp⟩
    have hlt3 : k * 3 < l.length * 3 := by omega
    simp [rn0, rn1, rn2, rn3, rn4, rn5, rn6, rn7, evOp, Arg.ev, St.val, St.set, St.new, sliceOf, binInt2, binInt, AV.cells, rdAt, St.live, retOf, resOf, resAll, treeOf, treeCell, treeCells, treeTups, untree, frameOf, TV.av, TR.av, ints, edgs, prs, fillV, splice, intsOf, trees, V1.tree, bx, Gr.v, Pa.v, h0, h1, h7, hc, hlt, hlt3, drop_edL hlt, kCall_k]
    refine h _ (eth_mem hlt) _ _ hi _ fun ob cnt hi => ?_
    have he' : eth l k = l[k] := by simp [eth, hlt]
    cases he : p (eth l k)
    · simp [rn0, rn1, rn2, rn3, rn4, rn5, rn6, rn7, evOp, Arg.ev, St.val, St.set, St.new, sliceOf, binInt2, binInt, AV.cells, rdAt, St.live, retOf, resOf, resAll, treeOf, treeCell, treeCells, treeTups, untree, frameOf, TV.av, TR.av, ints, edgs, prs, fillV, splice, intsOf, trees, V1.tree, bx, Gr.v, Pa.v, h0, h1, h7, hc, he, hw, hi]
      intro j hj hk
      rcases Nat.lt_succ_iff_lt_or_eq.1 hk with hk | rfl
      · exact hp j hj hk
      · rw [he'] at he
        exact he
    · have e : fidx p l = k := fidx_at hlt (fun j hj => hp j _ hj) (by rw [he'] at he; exact he)
      have hK := hK ob cnt hi
      simp [rn0, rn1, rn2, rn3, rn4, rn5, rn6, rn7, evOp, Arg.ev, St.val, St.set, St.new, sliceOf, binInt2, binInt, AV.cells, rdAt, St.live, retOf, resOf, resAll, treeOf, treeCell, treeCells, treeTups, untree, frameOf, TV.av, TR.av, ints, edgs, prs, fillV, splice, intsOf, trees, V1.tree, bx, Gr.v, Pa.v, h0, h1, h7, hc, he, hw, e] at hK ⊢
      exact hK
  · rintro S hc ⟨h0, h1, h7, hi, hp⟩
    have e : fidx p l = -1 := fidx_none fun j hj => hp j hj hj
    have hK := hK _ _ hi
    rw [e] at hK
    simpa [rn0, rn1, rn2, rn3, rn4, rn5, rn6, rn7, evOp, Arg.ev, St.val, St.set, St.new, sliceOf, binInt2, binInt, AV.cells, rdAt, St.live, retOf, resOf, resAll, treeOf, treeCell, treeCells, treeTups, untree, frameOf, TV.av, TR.av, ints, edgs, prs, fillV, splice, intsOf, trees, V1.tree, bx, Gr.v, Pa.v, h0, h1, h7, hc] using hK

def c_containsFE : MFunc := ⟨9, [.tmp 4], .seq (.region [⟨some 4, .mv (.c (.one (.t (.bool false)))), none⟩]) (.seq (.region [⟨some 5, .mv (.tmp 0), none⟩, ⟨some 6, .mv (.tmp 1), none⟩, ⟨some 7, .call (.c (.one (.fn 133 []))) 66 [.tmp 5, .tmp 6], none⟩, ⟨some 8, .bin .geq (.tmp 7) (.c (.one (.t (.int .i64 0)))), none⟩, ⟨some 4, .mv (.tmp 8), none⟩]) .ret)⟩
theorem k_containsFE : cFn Try.prog Try.f117 = some c_containsFE := by kernel_rfl
theorem containsFE_S {g : FuncId} {caps : List Nm} {ob : Nm → Option Ob} {cnt : Nat → Nat} {K : AV → (Nm → Option Ob) → (Nat → Nat) → Prop} (l : List Ed) (p : Ed → Bool) (hl : small l.length) (I : (Nm → Option Ob) → (Nat → Nat) → Prop)
    (h : ∀ x ∈ l, ∀ ob cnt, I ob cnt → ∀ K : AV → (Nm → Option Ob) → (Nat → Nat) → Prop, (∀ ob cnt, I ob cnt → K (.one (.t (.bool (p x)))) ob cnt) → CallS Try.prog g (.agg ((edC x).map .t) :: caps.map (fun n => .one (.ptr n 0))) ob cnt K)
    (hI : I ob cnt) (hK : ∀ ob cnt, I ob cnt → K (.one (.t (.bool (l.any p)))) ob cnt) : CallS Try.prog 117 [.one (.t (edgs l)), .one (.fn g caps)] ob cnt K := by
  refine callS_W (by kernel_rfl) Try.func117 k_containsFE (callable_of Try.func117 (by kernel_rfl)) (by simp [c_containsFE]) ?_
  simp [c_containsFE, rn0, rn1, rn2, rn3, rn4, rn5, rn6, rn7, evOp, Arg.ev, St.val, St.set, St.new, sliceOf, binInt2, binInt, AV.cells, rdAt, St.live, retOf, resOf, resAll, treeOf, treeCell, treeCells, treeTups, untree, frameOf, TV.av, TR.av, ints, edgs, prs, fillV, splice, intsOf, trees, V1.tree, bx, Gr.v, Pa.v]
  refine indexFE_S l p hl I h hI fun ob cnt hi => ?_
  have hK := hK ob cnt hi
  cases ha : l.any p <;> (rw [ha] at hK; simpa [rn0, rn1, rn2, rn3, rn4, rn5, rn6, rn7, evOp, Arg.ev, St.val, St.set, St.new, sliceOf, binInt2, binInt, AV.cells, rdAt, St.live, retOf, resOf, resAll, treeOf, treeCell, treeCells, treeTups, untree, frameOf, TV.av, TR.av, ints, edgs, prs, fillV, splice, intsOf, trees, V1.tree, bx, Gr.v, Pa.v, fidx, ha] using hK)

def nBad (l : List Int) : Bool := l.any fun x => !within x 99
def eBad (n : Nat) (l : List Ed) : Bool := l.any fun e => !eOk n e
/-- The error of a graph. -/
def gErr (g : Gr) : Int :=
  if (40 : Int) < g.nodes.length ∨ (80 : Int) < g.edges.length then 3
  else if nBad g.nodes then 6
  else if eBad g.nodes.length g.edges then 6 else 0

def c_valid1 : MFunc := ⟨6, [.tmp 2], .seq (.region [⟨some 2, .mv (.c (.one (.t (.bool false)))), none⟩]) (.seq (.region [⟨some 3, .mv (.tmp 0), none⟩, ⟨some 4, .call (.c (.one (.fn 116 []))) 65 [.tmp 3, .c (.one (.t (.int .i64 99)))], none⟩, ⟨some 5, .not (.tmp 4), none⟩, ⟨some 2, .mv (.tmp 5), none⟩]) .ret)⟩
theorem k_valid1 : cFn Try.prog Try.f115 = some c_valid1 := by kernel_rfl
def c_valid2 : MFunc := ⟨10, [.tmp 3], .seq (.region [⟨some 2, .box 0 73 (.tmp 0), none⟩, ⟨some 3, .mv (.c (.one (.t (.bool false)))), none⟩]) (.seq (.region [⟨some 4, .load true 3 (.tmp 2), none⟩, ⟨some 5, .fieldA 0 (.tmp 1), none⟩, ⟨some 6, .load false 1 (.tmp 5), none⟩, ⟨some 7, .len (.tmp 6), none⟩, ⟨some 8, .call (.c (.one (.fn 119 []))) 68 [.tmp 4, .tmp 7], none⟩, ⟨some 9, .not (.tmp 8), none⟩, ⟨some 3, .mv (.tmp 9), none⟩]) .ret)⟩
theorem k_valid2 : cFn Try.prog Try.f118 = some c_valid2 := by kernel_rfl
def c_gvalid : MFunc := ⟨20, [.tmp 2], .seq (.region [⟨some 1, .box 0 25 (.tmp 0), none⟩, ⟨some 2, .mv (.c (.one (.t (.int .i64 0)))), none⟩]) (.seq (.seq (.region [⟨some 3, .fieldA 0 (.tmp 1), none⟩, ⟨some 4, .load false 1 (.tmp 3), none⟩, ⟨some 5, .len (.tmp 4), none⟩, ⟨some 6, .bin .gtr (.tmp 5) (.c (.one (.t (.int .i64 40)))), none⟩, ⟨some 7, .mv (.tmp 6), none⟩, ⟨some 8, .fieldA 1 (.tmp 1), some (7, false)⟩, ⟨some 9, .load false 1 (.tmp 8), some (7, false)⟩, ⟨some 10, .len (.tmp 9), some (7, false)⟩, ⟨some 11, .bin .gtr (.tmp 10) (.c (.one (.t (.int .i64 80)))), some (7, false)⟩, ⟨some 12, .pick (.tmp 7) (.c (.one (.t (.bool true)))) (.tmp 11), none⟩]) (.cond (.tmp 12) (.seq (.region [⟨some 2, .mv (.c (.one (.t (.int .i64 3)))), none⟩]) .ret) .skip)) (.seq (.seq (.region [⟨some 13, .fieldA 0 (.tmp 1), none⟩, ⟨some 14, .load false 1 (.tmp 13), none⟩, ⟨some 15, .call (.c (.one (.fn 31 []))) 194 [.tmp 14, .c (.one (.fn 115 []))], none⟩]) (.cond (.tmp 15) (.seq (.region [⟨some 2, .mv (.c (.one (.t (.int .i64 6)))), none⟩]) .ret) .skip)) (.seq (.seq (.region [⟨some 16, .fieldA 1 (.tmp 1), none⟩, ⟨some 17, .load false 1 (.tmp 16), none⟩, ⟨some 18, .mkfn 118 [.tmp 1], none⟩, ⟨some 19, .call (.c (.one (.fn 117 []))) 323 [.tmp 17, .tmp 18], none⟩]) (.cond (.tmp 19) (.seq (.region [⟨some 2, .mv (.c (.one (.t (.int .i64 6)))), none⟩]) .ret) .skip)) (.seq (.region [⟨some 2, .mv (.c (.one (.t (.int .i64 0)))), none⟩]) .ret))))⟩
theorem k_gvalid : cFn Try.prog Try.f85 = some c_gvalid := by kernel_rfl
theorem gvalid_ok (g : Gr) (hn : small g.nodes.length) (he : small g.edges.length) : CallOK Try.prog 85 [g.v] (.sv (false, [.int .i64 (gErr g)])) := by
  refine callOK_W (callS_W (by kernel_rfl) Try.func85 k_gvalid (callable_of Try.func85 (by kernel_rfl)) (by simp [c_gvalid]) ?_)
  by_cases h1 : (40 : Int) < g.nodes.length
  · simp [c_gvalid, rn0, rn1, rn2, rn3, rn4, rn5, rn6, rn7, evOp, Arg.ev, St.val, St.set, St.new, sliceOf, binInt2, binInt, AV.cells, rdAt, St.live, retOf, resOf, resAll, treeOf, treeCell, treeCells, treeTups, untree, frameOf, TV.av, TR.av, ints, edgs, prs, fillV, splice, intsOf, trees, V1.tree, bx, Gr.v, Pa.v, h1, gErr]
  by_cases h2 : (80 : Int) < g.edges.length
  · simp [c_gvalid, rn0, rn1, rn2, rn3, rn4, rn5, rn6, rn7, evOp, Arg.ev, St.val, St.set, St.new, sliceOf, binInt2, binInt, AV.cells, rdAt, St.live, retOf, resOf, resAll, treeOf, treeCell, treeCells, treeTups, untree, frameOf, TV.av, TR.av, ints, edgs, prs, fillV, splice, intsOf, trees, V1.tree, bx, Gr.v, Pa.v, h1, h2, gErr]
  simp [c_gvalid, rn0, rn1, rn2, rn3, rn4, rn5, rn6, rn7, evOp, Arg.ev, St.val, St.set, St.new, sliceOf, binInt2, binInt, AV.cells, rdAt, St.live, retOf, resOf, resAll, treeOf, treeCell, treeCells, treeTups, untree, frameOf, TV.av, TR.av, ints, edgs, prs, fillV, splice, intsOf, trees, V1.tree, bx, Gr.v, Pa.v, h1, h2]
  let I : (Nm → Option Ob) → (Nat → Nat) → Prop := fun ob cnt => ob (0, 0) = some (bx 25 (g.v.2.map .t)) ∧ 0 < cnt 0
  refine containsF_S (caps := []) g.nodes (fun x => !within x 99) hn I (fun x _ ob cnt hi K hK => ?_) ?_ ?_
  · refine callS_W (by kernel_rfl) Try.func115 k_valid1 (callable_of Try.func115 (by kernel_rfl)) (by simp [c_valid1]) ?_
    simp [c_valid1, rn0, rn1, rn2, rn3, rn4, rn5, rn6, rn7, evOp, Arg.ev, St.val, St.set, St.new, sliceOf, binInt2, binInt, AV.cells, rdAt, St.live, retOf, resOf, resAll, treeOf, treeCell, treeCells, treeTups, untree, frameOf, TV.av, TR.av, ints, edgs, prs, fillV, splice, intsOf, trees, V1.tree, bx, Gr.v, Pa.v]
    refine callS_tree (within_ok x 99) ?_ ?_ ?_
    · rfl
    · rfl
    simpa [rn0, rn1, rn2, rn3, rn4, rn5, rn6, rn7, evOp, Arg.ev, St.val, St.set, St.new, sliceOf, binInt2, binInt, AV.cells, rdAt, St.live, retOf, resOf, resAll, treeOf, treeCell, treeCells, treeTups, untree, frameOf, TV.av, TR.av, ints, edgs, prs, fillV, splice, intsOf, trees, V1.tree, bx, Gr.v, Pa.v] using hK _ _ hi
  · simp [I, rn0, rn1, rn2, rn3, rn4, rn5, rn6, rn7, evOp, Arg.ev, St.val, St.set, St.new, sliceOf, binInt2, binInt, AV.cells, rdAt, St.live, retOf, resOf, resAll, treeOf, treeCell, treeCells, treeTups, untree, frameOf, TV.av, TR.av, ints, edgs, prs, fillV, splice, intsOf, trees, V1.tree, bx, Gr.v, Pa.v]
  rintro ob cnt ⟨hi, hi2⟩
  rw [show (g.nodes.any fun x => !within x 99) = nBad g.nodes from rfl]
  cases h3 : nBad g.nodes
  case true => simp [rn0, rn1, rn2, rn3, rn4, rn5, rn6, rn7, evOp, Arg.ev, St.val, St.set, St.new, sliceOf, binInt2, binInt, AV.cells, rdAt, St.live, retOf, resOf, resAll, treeOf, treeCell, treeCells, treeTups, untree, frameOf, TV.av, TR.av, ints, edgs, prs, fillV, splice, intsOf, trees, V1.tree, bx, Gr.v, Pa.v, h3, h1, h2, hi, gErr]
  simp [rn0, rn1, rn2, rn3, rn4, rn5, rn6, rn7, evOp, Arg.ev, St.val, St.set, St.new, sliceOf, binInt2, binInt, AV.cells, rdAt, St.live, retOf, resOf, resAll, treeOf, treeCell, treeCells, treeTups, untree, frameOf, TV.av, TR.av, ints, edgs, prs, fillV, splice, intsOf, trees, V1.tree, bx, Gr.v, Pa.v, h3, h1, h2, hi, List.mapM_cons]
  refine containsFE_S (caps := [(0, 0)]) g.edges (fun e => !eOk g.nodes.length e) he I (fun x _ ob cnt hi K hK => ?_) ⟨hi, hi2⟩ ?_
  · obtain ⟨hi, hi2⟩ := hi
    refine callS_W (by kernel_rfl) Try.func118 k_valid2 (callable_of Try.func118 (by kernel_rfl)) (by simp [c_valid2]) ?_
    have hne : ¬ 0 = cnt 0 := by omega
    simp [c_valid2, rn0, rn1, rn2, rn3, rn4, rn5, rn6, rn7, evOp, Arg.ev, St.val, St.set, St.new, sliceOf, binInt2, binInt, AV.cells, rdAt, St.live, retOf, resOf, resAll, treeOf, treeCell, treeCells, treeTups, untree, frameOf, TV.av, TR.av, ints, edgs, prs, fillV, splice, intsOf, trees, V1.tree, bx, Gr.v, Pa.v, edC, hi, hne]
    refine callS_tree (fits_ok x g.nodes.length (by omega)) ?_ ?_ ?_
    · rfl
    · rfl
    simp [rn0, rn1, rn2, rn3, rn4, rn5, rn6, rn7, evOp, Arg.ev, St.val, St.set, St.new, sliceOf, binInt2, binInt, AV.cells, rdAt, St.live, retOf, resOf, resAll, treeOf, treeCell, treeCells, treeTups, untree, frameOf, TV.av, TR.av, ints, edgs, prs, fillV, splice, intsOf, trees, V1.tree, bx, Gr.v, Pa.v]
    exact hK _ _ ⟨by simp [rn0, rn1, rn2, rn3, rn4, rn5, rn6, rn7, evOp, Arg.ev, St.val, St.set, St.new, sliceOf, binInt2, binInt, AV.cells, rdAt, St.live, retOf, resOf, resAll, treeOf, treeCell, treeCells, treeTups, untree, frameOf, TV.av, TR.av, ints, edgs, prs, fillV, splice, intsOf, trees, V1.tree, bx, Gr.v, Pa.v, hne, hi], by simp [rn0, rn1, rn2, rn3, rn4, rn5, rn6, rn7, evOp, Arg.ev, St.val, St.set, St.new, sliceOf, binInt2, binInt, AV.cells, rdAt, St.live, retOf, resOf, resAll, treeOf, treeCell, treeCells, treeTups, untree, frameOf, TV.av, TR.av, ints, edgs, prs, fillV, splice, intsOf, trees, V1.tree, bx, Gr.v, Pa.v]⟩
  rintro ob cnt ⟨hi, hi2⟩
  rw [show (g.edges.any fun e => !eOk g.nodes.length e) = eBad g.nodes.length g.edges from rfl]
  cases h4 : eBad g.nodes.length g.edges <;> simp [rn0, rn1, rn2, rn3, rn4, rn5, rn6, rn7, evOp, Arg.ev, St.val, St.set, St.new, sliceOf, binInt2, binInt, AV.cells, rdAt, St.live, retOf, resOf, resAll, treeOf, treeCell, treeCells, treeTups, untree, frameOf, TV.av, TR.av, ints, edgs, prs, fillV, splice, intsOf, trees, V1.tree, bx, Gr.v, Pa.v, h4, h3, h1, h2, gErr]

def c_rvalid : MFunc := ⟨46, [.tmp 2], .seq (.region [⟨some 1, .box 0 25 (.tmp 0), none⟩, ⟨some 2, .mv (.c (.one (.t (.int .i64 0)))), none⟩]) (.seq (.seq (.region [⟨some 5, .fieldA 0 (.tmp 1), none⟩, ⟨some 6, .load false 1 (.tmp 5), none⟩, ⟨some 7, .len (.tmp 6), none⟩, ⟨some 8, .bin .gtr (.tmp 7) (.c (.one (.t (.int .i64 40)))), none⟩, ⟨some 9, .mv (.tmp 8), none⟩, ⟨some 10, .fieldA 1 (.tmp 1), some (9, false)⟩, ⟨some 11, .load false 1 (.tmp 10), some (9, false)⟩, ⟨some 12, .len (.tmp 11), some (9, false)⟩, ⟨some 13, .bin .gtr (.tmp 12) (.c (.one (.t (.int .i64 80)))), some (9, false)⟩, ⟨some 14, .pick (.tmp 9) (.c (.one (.t (.bool true)))) (.tmp 13), none⟩]) (.cond (.tmp 14) (.seq (.region [⟨some 2, .mv (.c (.one (.t (.int .i64 3)))), none⟩]) .ret) .skip)) (.seq (.seq (.region [⟨some 3, .mv (.c (.one (.t (.int .i64 0)))), none⟩]) (.block 0 (.loop (.seq (.seq (.region [⟨some 15, .mv (.tmp 3), none⟩, ⟨some 16, .fieldA 0 (.tmp 1), none⟩, ⟨some 17, .load false 1 (.tmp 16), none⟩, ⟨some 18, .len (.tmp 17), none⟩, ⟨some 19, .bin .lss (.tmp 15) (.tmp 18), none⟩]) (.cond (.tmp 19) .skip (.exit 0))) (.seq (.block 1 (.seq (.region [⟨some 22, .fieldA 0 (.tmp 1), none⟩, ⟨some 23, .load false 1 (.tmp 22), none⟩, ⟨some 24, .mv (.tmp 3), none⟩, ⟨some 25, .idxA 1 (.tmp 23) (.tmp 24), none⟩, ⟨some 26, .load false 1 (.tmp 25), none⟩, ⟨some 27, .call (.c (.one (.fn 107 []))) 389 [.tmp 26], none⟩, ⟨some 28, .not (.tmp 27), none⟩]) (.cond (.tmp 28) (.seq (.region [⟨some 2, .mv (.c (.one (.t (.int .i64 6)))), none⟩]) .ret) .skip))) (.region [⟨some 20, .mv (.tmp 3), none⟩, ⟨some 21, .bin .add (.tmp 20) (.c (.one (.t (.int .i64 1)))), none⟩, ⟨some 3, .mv (.tmp 21), none⟩])))))) (.seq (.seq (.region [⟨some 4, .mv (.c (.one (.t (.int .i64 0)))), none⟩]) (.block 2 (.loop (.seq (.seq (.region [⟨some 29, .mv (.tmp 4), none⟩, ⟨some 30, .fieldA 1 (.tmp 1), none⟩, ⟨some 31, .load false 1 (.tmp 30), none⟩, ⟨some 32, .len (.tmp 31), none⟩, ⟨some 33, .bin .lss (.tmp 29) (.tmp 32), none⟩]) (.cond (.tmp 33) .skip (.exit 2))) (.seq (.block 3 (.seq (.draw [[], [0], [], [1, 2], [3], [], [5], [6], [4, 7], [8]] [⟨some 36, .fieldA 1 (.tmp 1), none⟩, ⟨some 37, .load false 1 (.tmp 36), none⟩, ⟨some 38, .mv (.tmp 4), none⟩, ⟨some 39, .idxA 3 (.tmp 37) (.tmp 38), none⟩, ⟨some 40, .load true 3 (.tmp 39), none⟩, ⟨some 41, .fieldA 0 (.tmp 1), none⟩, ⟨some 42, .load false 1 (.tmp 41), none⟩, ⟨some 43, .len (.tmp 42), none⟩, ⟨some 44, .call (.c (.one (.fn 108 []))) 712 [.tmp 40, .tmp 43], none⟩, ⟨some 45, .not (.tmp 44), none⟩]) (.cond (.tmp 45) (.seq (.region [⟨some 2, .mv (.c (.one (.t (.int .i64 6)))), none⟩]) .ret) .skip))) (.region [⟨some 34, .mv (.tmp 4), none⟩, ⟨some 35, .bin .add (.tmp 34) (.c (.one (.t (.int .i64 1)))), none⟩, ⟨some 4, .mv (.tmp 35), none⟩])))))) (.seq (.region [⟨some 2, .mv (.c (.one (.t (.int .i64 0)))), none⟩]) .ret))))⟩
theorem k_rvalid : cFn Try.prog Try.f77 = some c_rvalid := by kernel_rfl
theorem rvalid_ok (g : Gr) (hn : small g.nodes.length) (he : small g.edges.length) : CallOK Try.prog 77 [g.v] (.sv (false, [.int .i64 (gErr g)])) := by
  refine callOK_W (callS_W (by kernel_rfl) Try.func77 k_rvalid (callable_of Try.func77 (by kernel_rfl)) (by simp [c_rvalid]) ?_)
  by_cases h1 : (40 : Int) < g.nodes.length
  · simp [c_rvalid, rn0, rn1, rn2, rn3, rn4, rn5, rn6, rn7, evOp, Arg.ev, St.val, St.set, St.new, sliceOf, binInt2, binInt, AV.cells, rdAt, St.live, retOf, resOf, resAll, treeOf, treeCell, treeCells, treeTups, untree, frameOf, TV.av, TR.av, ints, edgs, prs, fillV, splice, intsOf, trees, V1.tree, bx, Gr.v, Pa.v, h1, gErr]
  by_cases h2 : (80 : Int) < g.edges.length
  · simp [c_rvalid, rn0, rn1, rn2, rn3, rn4, rn5, rn6, rn7, evOp, Arg.ev, St.val, St.set, St.new, sliceOf, binInt2, binInt, AV.cells, rdAt, St.live, retOf, resOf, resAll, treeOf, treeCell, treeCells, treeTups, untree, frameOf, TV.av, TR.av, ints, edgs, prs, fillV, splice, intsOf, trees, V1.tree, bx, Gr.v, Pa.v, h1, h2, gErr]
  simp [c_rvalid, rn0, rn1, rn2, rn3, rn4, rn5, rn6, rn7, evOp, Arg.ev, St.val, St.set, St.new, sliceOf, binInt2, binInt, AV.cells, rdAt, St.live, retOf, resOf, resAll, treeOf, treeCell, treeCells, treeTups, untree, frameOf, TV.av, TR.av, ints, edgs, prs, fillV, splice, intsOf, trees, V1.tree, bx, Gr.v, Pa.v, h1, h2]
  refine loopW_count 3 g.nodes.length (fun k S => S.fr 1 = .one (.ptr (0, 0) 0) ∧ S.ob = upd noOb (0, 0) (some (bx 25 (g.v.2.map .t))) ∧ ∀ j, j < k → within (nth g.nodes j) 99 = true) hn ?_ ?_ ?_
  · simp [rn0, rn1, rn2, rn3, rn4, rn5, rn6, rn7, evOp, Arg.ev, St.val, St.set, St.new, sliceOf, binInt2, binInt, AV.cells, rdAt, St.live, retOf, resOf, resAll, treeOf, treeCell, treeCells, treeTups, untree, frameOf, TV.av, TR.av, ints, edgs, prs, fillV, splice, intsOf, trees, V1.tree, bx, Gr.v, Pa.v]
  · rintro k S hlt hw hc ⟨h0, hob, hp⟩
    simp [rn0, rn1, rn2, rn3, rn4, rn5, rn6, rn7, evOp, Arg.ev, St.val, St.set, St.new, sliceOf, binInt2, binInt, AV.cells, rdAt, St.live, retOf, resOf, resAll, treeOf, treeCell, treeCells, treeTups, untree, frameOf, TV.av, TR.av, ints, edgs, prs, fillV, splice, intsOf, trees, V1.tree, bx, Gr.v, Pa.v, h0, hc, hlt, drop_nth hlt, hob]
    refine callS_tree (kind_ok (nth g.nodes k)) ?_ ?_ ?_
    · rfl
    · rfl
    cases he : within (nth g.nodes k) 99
    · have : nBad g.nodes = true := List.any_eq_true.2 ⟨_, nth_mem hlt, by simp [he]⟩
      simp [rn0, rn1, rn2, rn3, rn4, rn5, rn6, rn7, evOp, Arg.ev, St.val, St.set, St.new, sliceOf, binInt2, binInt, AV.cells, rdAt, St.live, retOf, resOf, resAll, treeOf, treeCell, treeCells, treeTups, untree, frameOf, TV.av, TR.av, ints, edgs, prs, fillV, splice, intsOf, trees, V1.tree, bx, Gr.v, Pa.v, h0, hc, hob, he, this, h1, h2, gErr]
    · simp [rn0, rn1, rn2, rn3, rn4, rn5, rn6, rn7, evOp, Arg.ev, St.val, St.set, St.new, sliceOf, binInt2, binInt, AV.cells, rdAt, St.live, retOf, resOf, resAll, treeOf, treeCell, treeCells, treeTups, untree, frameOf, TV.av, TR.av, ints, edgs, prs, fillV, splice, intsOf, trees, V1.tree, bx, Gr.v, Pa.v, h0, hc, hob, he, hw]
      intro j hj
      rcases Nat.lt_succ_iff_lt_or_eq.1 hj with hj | rfl
      · exact hp j hj
      · exact he
  · rintro S hc ⟨h0, hob, hp⟩
    have h3 : nBad g.nodes = false := by
      rw [nBad, List.any_eq_false]
      intro x hx
      obtain ⟨j, hj, rfl⟩ := mem_nth hx
      simp [hp j hj]
    simp [rn0, rn1, rn2, rn3, rn4, rn5, rn6, rn7, evOp, Arg.ev, St.val, St.set, St.new, sliceOf, binInt2, binInt, AV.cells, rdAt, St.live, retOf, resOf, resAll, treeOf, treeCell, treeCells, treeTups, untree, frameOf, TV.av, TR.av, ints, edgs, prs, fillV, splice, intsOf, trees, V1.tree, bx, Gr.v, Pa.v, h0, hc, hob, h3]
    refine loopW_count 4 g.edges.length (fun k S => S.fr 1 = .one (.ptr (0, 0) 0) ∧ S.ob = upd noOb (0, 0) (some (bx 25 (g.v.2.map .t))) ∧ ∀ j, j < k → eOk g.nodes.length (eth g.edges j) = true) he ?_ ?_ ?_
    · simp [rn0, rn1, rn2, rn3, rn4, rn5, rn6, rn7, evOp, Arg.ev, St.val, St.set, St.new, sliceOf, binInt2, binInt, AV.cells, rdAt, St.live, retOf, resOf, resAll, treeOf, treeCell, treeCells, treeTups, untree, frameOf, TV.av, TR.av, ints, edgs, prs, fillV, splice, intsOf, trees, V1.tree, bx, Gr.v, Pa.v, h0, hob]
    · rintro k S hlt hw hc ⟨h0, hob, hp⟩
      have hlt3 : k * 3 < g.edges.length * 3 := by omega
      simp [rn0, rn1, rn2, rn3, rn4, rn5, rn6, rn7, evOp, Arg.ev, St.val, St.set, St.new, sliceOf, binInt2, binInt, AV.cells, rdAt, St.live, retOf, resOf, resAll, treeOf, treeCell, treeCells, treeTups, untree, frameOf, TV.av, TR.av, ints, edgs, prs, fillV, splice, intsOf, trees, V1.tree, bx, Gr.v, Pa.v, dw0, dw1, dw2, dw3, opRd, opWr, opNew, opNewR, opArgs, argsRd, argRd, Arg.rd, AV.refs, V1.refs, refsL, dstL, h0, hc, hlt, hlt3, drop_edL hlt, hob]
      refine dCall_ok (right_ok (eth g.edges k) g.nodes.length) ?_ ?_ ?_
      · rfl
      · rfl
      cases he : eOk g.nodes.length (eth g.edges k)
      · have : eBad g.nodes.length g.edges = true := List.any_eq_true.2 ⟨_, eth_mem hlt, by simp [he]⟩
        simp [rn0, rn1, rn2, rn3, rn4, rn5, rn6, rn7, evOp, Arg.ev, St.val, St.set, St.new, sliceOf, binInt2, binInt, AV.cells, rdAt, St.live, retOf, resOf, resAll, treeOf, treeCell, treeCells, treeTups, untree, frameOf, TV.av, TR.av, ints, edgs, prs, fillV, splice, intsOf, trees, V1.tree, bx, Gr.v, Pa.v, dw0, dw1, dw2, dw3, opRd, opWr, opNew, opNewR, opArgs, argsRd, argRd, Arg.rd, AV.refs, V1.refs, refsL, dstL, h0, hc, hob, he, this, h1, h2, h3, gErr]
        rfl
      · simp [rn0, rn1, rn2, rn3, rn4, rn5, rn6, rn7, evOp, Arg.ev, St.val, St.set, St.new, sliceOf, binInt2, binInt, AV.cells, rdAt, St.live, retOf, resOf, resAll, treeOf, treeCell, treeCells, treeTups, untree, frameOf, TV.av, TR.av, ints, edgs, prs, fillV, splice, intsOf, trees, V1.tree, bx, Gr.v, Pa.v, dw0, dw1, dw2, dw3, opRd, opWr, opNew, opNewR, opArgs, argsRd, argRd, Arg.rd, AV.refs, V1.refs, refsL, dstL, h0, hc, hob, he, hw]
        refine ⟨rfl, fun j hj => ?_⟩
        rcases Nat.lt_succ_iff_lt_or_eq.1 hj with hj | rfl
        · exact hp j hj
        · exact he
    · rintro S hc ⟨h0, hob, hp⟩
      have h4 : eBad g.nodes.length g.edges = false := by
        rw [eBad, List.any_eq_false]
        intro x hx
        obtain ⟨j, hj, rfl⟩ := mem_eth hx
        simp [hp j hj]
      simp [rn0, rn1, rn2, rn3, rn4, rn5, rn6, rn7, evOp, Arg.ev, St.val, St.set, St.new, sliceOf, binInt2, binInt, AV.cells, rdAt, St.live, retOf, resOf, resAll, treeOf, treeCell, treeCells, treeTups, untree, frameOf, TV.av, TR.av, ints, edgs, prs, fillV, splice, intsOf, trees, V1.tree, bx, Gr.v, Pa.v, h0, hc, hob, h3, h4, h1, h2, gErr]
end Go.Proofs.Ythapbbpdcjmmfaa
