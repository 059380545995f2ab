/-
  Joined texts: steps of this claim, part 5. No condition beyond those that each statement names.
-/
import Derived.Test.YthcnpnogfblkcaaGreatK4
import Derived.SizedLaws
import Derived.ChangeSlices
import Derived.Deep.Strs
import Derived.Deep.Slices
/- The example of the chapter holds; squares that are small; the law of kinds. -/
namespace Go.Proofs.YthcnpnogfblkcaaGreat
open Abs
set_option linter.unusedSimpArgs false
set_option linter.unusedVariables false
attribute [local simp] rn0 rn1 rn2 rn3 rn4 rn5 rn6 rn7 evOp nests Arg.ev St.val St.set St.new sliceOf binInt2 binInt AV.cells rdAt St.live retOf resOf resAll treeOf treeCell treeCells treeTups untree frameOf TV.av TR.av ints edgs prs fillV splice intsOf trees V1.tree bx Gr.v Pa.v

def exOne : Gr := ⟨[0], []⟩
def exPath : Gr := ⟨[0, 0], [⟨0, 0, 1⟩]⟩
def exInto : Pa := ⟨[0], []⟩
def exSq : Sq := ⟨exOne, exOne, exPath, exPath, exInto, exInto, exInto, ⟨[0, 1], [0]⟩⟩
theorem exBnU : bnU exInto exPath exPath.edges.length = [0] := by kernel_rfl
theorem exBnd : bndL exInto exPath = [0] := by rw [bndL, exBnU]; simp
theorem exCn : cnL exInto exPath = [0, 1] := by rw [cnL, exBnd]; kernel_rfl
theorem exIn : inR exOne exPath exInto = (exSq, 0) := by
  have h : inE exOne exPath exInto = 0 := by kernel_rfl
  have h2 : inS exOne exPath exInto = exSq := by
    rw [inS, inB, inC, inG, exBnd, exCn]
    kernel_rfl
  rw [inR, if_pos h, h2]
theorem exKind : kindR exSq = (3, 0) := by kernel_rfl

/-- The example of the chapter holds. -/
def Awake14 : Prop := CallOK Tryz.prog 11 [] (.sv (false, [.bool true]))

def c_awake14 : MFunc := ⟨48, [.tmp 0], .seq (.region [⟨some 0, .mv (.c (.one (.t (.bool false)))), none⟩]) (.seq (.region [⟨some 7, .mkrow 64 3 1 2 [.t (.int .i64 0), .t (.int .i64 0)] [(0, (1, .c (.one (.t (.int .i64 0))))), (1, (1, .c (.one (.t (.int .i64 0)))))], none⟩, ⟨some 8, .build [.t (.int .i64 0), .t (.int .i64 0), .t (.int .i64 0)] [(1, (1, .c (.one (.t (.int .i64 0))))), (2, (1, .c (.one (.t (.int .i64 1)))))], none⟩, ⟨some 9, .mkrow 66 76 3 1 [.t (.int .i64 0), .t (.int .i64 0), .t (.int .i64 0)] [(0, (3, .tmp 8))], none⟩, ⟨some 10, .build [.nil, .nil] [(0, (1, .tmp 7)), (1, (1, .tmp 9))], none⟩, ⟨some 1, .alloc 68 25 [.nil, .nil], none⟩, ⟨none, .store 2 (.tmp 1) (.tmp 10), none⟩]) (.seq (.region [⟨some 11, .mkrow 128 3 1 1 [.t (.int .i64 0)] [(0, (1, .c (.one (.t (.int .i64 0)))))], none⟩, ⟨some 12, .build [.nil, .nil] [(0, (1, .tmp 11))], none⟩, ⟨some 2, .alloc 130 25 [.nil, .nil], none⟩, ⟨none, .store 2 (.tmp 2) (.tmp 12), none⟩]) (.seq (.region [⟨some 14, .load true 2 (.tmp 2), none⟩, ⟨some 15, .load true 2 (.tmp 1), none⟩, ⟨some 16, .mkrow 194 3 1 1 [.t (.int .i64 0)] [(0, (1, .c (.one (.t (.int .i64 0)))))], none⟩, ⟨some 17, .build [.nil, .nil] [(0, (1, .tmp 16))], none⟩, ⟨some 18, .call (.c (.one (.fn 24 []))) 196 [.tmp 14, .tmp 15, .tmp 17], none⟩, ⟨some 13, .mv (.tmp 18), none⟩, ⟨some 19, .extract (.tmp 13) 0, none⟩, ⟨some 20, .extract (.tmp 13) 1, none⟩, ⟨some 3, .alloc 200 29 [.nil, .nil, .nil, .nil, .nil, .nil, .nil, .nil, .nil, .nil, .nil, .nil, .nil, .nil, .nil, .nil], none⟩, ⟨none, .store 16 (.tmp 3) (.tmp 19), none⟩, ⟨some 4, .mv (.tmp 20), none⟩]) (.seq (.region [⟨some 22, .load true 16 (.tmp 3), none⟩, ⟨some 23, .call (.c (.one (.fn 21 []))) 257 [.tmp 22], none⟩, ⟨some 21, .mv (.tmp 23), none⟩, ⟨some 24, .extract (.tmp 21) 0, none⟩, ⟨some 25, .extract (.tmp 21) 1, none⟩, ⟨some 5, .mv (.tmp 24), none⟩, ⟨some 6, .mv (.tmp 25), none⟩]) (.seq (.region [⟨some 26, .mv (.tmp 4), none⟩, ⟨some 27, .bin .eql (.tmp 26) (.c (.one (.t (.int .i64 0)))), none⟩, ⟨some 28, .mv (.tmp 27), none⟩, ⟨some 29, .mv (.tmp 6), some (28, true)⟩, ⟨some 30, .bin .eql (.tmp 29) (.c (.one (.t (.int .i64 0)))), some (28, true)⟩, ⟨some 31, .pick (.tmp 28) (.tmp 30) (.c (.one (.t (.bool false)))), none⟩, ⟨some 32, .mv (.tmp 31), none⟩, ⟨some 33, .mv (.tmp 5), some (32, true)⟩, ⟨some 34, .bin .eql (.tmp 33) (.c (.one (.t (.int .i64 3)))), some (32, true)⟩, ⟨some 35, .pick (.tmp 32) (.tmp 34) (.c (.one (.t (.bool false)))), none⟩, ⟨some 36, .mv (.tmp 35), none⟩, ⟨some 37, .fieldA 0 (.tmp 3), some (36, true)⟩, ⟨some 38, .load true 2 (.tmp 37), some (36, true)⟩, ⟨some 39, .load true 2 (.tmp 2), some (36, true)⟩, ⟨some 40, .call (.c (.one (.fn 22 []))) 334 [.tmp 38, .tmp 39], some (36, true)⟩, ⟨some 41, .pick (.tmp 36) (.tmp 40) (.c (.one (.t (.bool false)))), none⟩, ⟨some 42, .mv (.tmp 41), none⟩, ⟨some 43, .fieldA 4 (.tmp 3), some (42, true)⟩, ⟨some 44, .load true 2 (.tmp 43), some (42, true)⟩, ⟨some 45, .load true 2 (.tmp 1), some (42, true)⟩, ⟨some 46, .call (.c (.one (.fn 22 []))) 340 [.tmp 44, .tmp 45], some (42, true)⟩, ⟨some 47, .pick (.tmp 42) (.tmp 46) (.c (.one (.t (.bool false)))), none⟩, ⟨some 0, .mv (.tmp 47), none⟩]) .ret)))))⟩
theorem k_awake14 : cFn Tryz.prog Tryz.f11 = some c_awake14 := by kernel_rfl
theorem awake14_ok : Awake14 := by
  refine callOK_W (callS_W (by kernel_rfl) Tryz.func11 k_awake14 (callable_of Tryz.func11 (by kernel_rfl)) (by simp [c_awake14]) ?_)
  simp [c_awake14]
  refine callS_freeze [(64, 0), (66, 0), (128, 0), (194, 0)] (callS_tree (sInit_ok exOne exPath exInto ⟨by decide, by decide⟩ ⟨by decide, by decide⟩ ⟨by decide, by decide⟩) ?_ ?_ ?_)
  · rfl
  · rfl
  rw [exIn]
  simp [frzAll, frzOne, sqT, exSq, Sq.v, Sq.cs]
  refine callS_tree (sKind_ok exSq ⟨⟨by decide, by decide⟩, ⟨by decide, by decide⟩, ⟨by decide, by decide⟩, ⟨by decide, by decide⟩, ⟨by decide, by decide⟩, ⟨by decide, by decide⟩, ⟨by decide, by decide⟩, ⟨by decide, by decide⟩⟩) ?_ ?_ ?_
  · rfl
  · rfl
  rw [exKind]
  simp [kindT]
  refine callS_tree (ref5Same_ok exOne exOne ⟨by decide, by decide⟩ ⟨by decide, by decide⟩) ?_ ?_ ?_
  · rfl
  · rfl
  simp
  refine callS_tree (ref5Same_ok exPath exPath ⟨by decide, by decide⟩ ⟨by decide, by decide⟩) ?_ ?_ ?_
  · rfl
  · rfl
  simp

/-! ### Small squares -/
def fewQ (s : Sq) : Bool := fewG s.A && fewG s.B && fewG s.C && fewG s.D && fewP s.F 140 && fewP s.G 140 && fewP s.H 140 && fewP s.K 140
structure HugeQ (s : Sq) : Prop where
  F : huge s.F.nodes.length ∧ huge s.F.edges.length
  G : huge s.G.nodes.length ∧ huge s.G.edges.length
  H : huge s.H.nodes.length ∧ huge s.H.edges.length
  K : huge s.K.nodes.length ∧ huge s.K.edges.length
def c_few14 : MFunc := ⟨43, [.tmp 2], .seq (.region [⟨some 1, .box 0 29 (.tmp 0), none⟩, ⟨some 2, .mv (.c (.one (.t (.bool false)))), none⟩]) (.seq (.region [⟨some 4, .fieldA 0 (.tmp 1), none⟩, ⟨some 5, .load true 2 (.tmp 4), none⟩, ⟨some 6, .call (.c (.one (.fn 13 []))) 66 [.tmp 5], none⟩, ⟨some 7, .mv (.tmp 6), none⟩, ⟨some 8, .fieldA 2 (.tmp 1), some (7, true)⟩, ⟨some 9, .load true 2 (.tmp 8), some (7, true)⟩, ⟨some 10, .call (.c (.one (.fn 13 []))) 70 [.tmp 9], some (7, true)⟩, ⟨some 11, .pick (.tmp 7) (.tmp 10) (.c (.one (.t (.bool false)))), none⟩, ⟨some 12, .mv (.tmp 11), none⟩, ⟨some 13, .fieldA 4 (.tmp 1), some (12, true)⟩, ⟨some 14, .load true 2 (.tmp 13), some (12, true)⟩, ⟨some 15, .call (.c (.one (.fn 13 []))) 75 [.tmp 14], some (12, true)⟩, ⟨some 16, .pick (.tmp 12) (.tmp 15) (.c (.one (.t (.bool false)))), none⟩, ⟨some 17, .mv (.tmp 16), none⟩, ⟨some 18, .fieldA 6 (.tmp 1), some (17, true)⟩, ⟨some 19, .load true 2 (.tmp 18), some (17, true)⟩, ⟨some 20, .call (.c (.one (.fn 13 []))) 80 [.tmp 19], some (17, true)⟩, ⟨some 21, .pick (.tmp 17) (.tmp 20) (.c (.one (.t (.bool false)))), none⟩, ⟨some 3, .mv (.tmp 21), none⟩]) (.seq (.region [⟨some 22, .mv (.tmp 3), none⟩, ⟨some 23, .mv (.tmp 22), none⟩, ⟨some 24, .fieldA 8 (.tmp 1), some (23, true)⟩, ⟨some 25, .load true 2 (.tmp 24), some (23, true)⟩, ⟨some 26, .call (.c (.one (.fn 14 []))) 132 [.tmp 25, .c (.one (.t (.int .i64 140)))], some (23, true)⟩, ⟨some 27, .pick (.tmp 23) (.tmp 26) (.c (.one (.t (.bool false)))), none⟩, ⟨some 28, .mv (.tmp 27), none⟩, ⟨some 29, .fieldA 10 (.tmp 1), some (28, true)⟩, ⟨some 30, .load true 2 (.tmp 29), some (28, true)⟩, ⟨some 31, .call (.c (.one (.fn 14 []))) 137 [.tmp 30, .c (.one (.t (.int .i64 140)))], some (28, true)⟩, ⟨some 32, .pick (.tmp 28) (.tmp 31) (.c (.one (.t (.bool false)))), none⟩, ⟨some 33, .mv (.tmp 32), none⟩, ⟨some 34, .fieldA 12 (.tmp 1), some (33, true)⟩, ⟨some 35, .load true 2 (.tmp 34), some (33, true)⟩, ⟨some 36, .call (.c (.one (.fn 14 []))) 142 [.tmp 35, .c (.one (.t (.int .i64 140)))], some (33, true)⟩, ⟨some 37, .pick (.tmp 33) (.tmp 36) (.c (.one (.t (.bool false)))), none⟩, ⟨some 38, .mv (.tmp 37), none⟩, ⟨some 39, .fieldA 14 (.tmp 1), some (38, true)⟩, ⟨some 40, .load true 2 (.tmp 39), some (38, true)⟩, ⟨some 41, .call (.c (.one (.fn 14 []))) 147 [.tmp 40, .c (.one (.t (.int .i64 140)))], some (38, true)⟩, ⟨some 42, .pick (.tmp 38) (.tmp 41) (.c (.one (.t (.bool false)))), none⟩, ⟨some 2, .mv (.tmp 42), none⟩]) .ret))⟩
theorem k_few14 : cFn Tryz.prog Tryz.f12 = some c_few14 := by kernel_rfl
set_option maxHeartbeats 1000000 in
theorem few14_ok (s : Sq) (h : HugeQ s) : CallOK Tryz.prog 12 [s.v] (.sv (false, [.bool (fewQ s)])) := by
  refine callOK_W (callS_W (by kernel_rfl) Tryz.func12 k_few14 (callable_of Tryz.func12 (by kernel_rfl)) (by simp [c_few14]) ?_)
  simp [c_few14, Sq.v, Sq.cs]
  refine callS_tree (few5_ok s.A) ?_ ?_ ?_
  · rfl
  · rfl
  cases e1 : fewG s.A
  · simp [fewQ, e1]
  simp [e1]
  refine callS_tree (few5_ok s.B) ?_ ?_ ?_
  · rfl
  · rfl
  cases e2 : fewG s.B
  · simp [fewQ, e1, e2]
  simp [e1]
  refine callS_tree (few5_ok s.C) ?_ ?_ ?_
  · rfl
  · rfl
  cases e3 : fewG s.C
  · simp [fewQ, e1, e2, e3]
  simp [e1]
  refine callS_tree (few5_ok s.D) ?_ ?_ ?_
  · rfl
  · rfl
  cases e4 : fewG s.D
  · simp [fewQ, e1, e2, e3, e4]
  simp [e1]
  refine callS_tree (few6_ok s.F 140 h.F.1 h.F.2) ?_ ?_ ?_
  · rfl
  · rfl
  cases e5 : fewP s.F 140
  · simp [fewQ, e1, e2, e3, e4, e5]
  simp [e1]
  refine callS_tree (few6_ok s.G 140 h.G.1 h.G.2) ?_ ?_ ?_
  · rfl
  · rfl
  cases e6 : fewP s.G 140
  · simp [fewQ, e1, e2, e3, e4, e5, e6]
  simp [e1]
  refine callS_tree (few6_ok s.H 140 h.H.1 h.H.2) ?_ ?_ ?_
  · rfl
  · rfl
  cases e7 : fewP s.H 140
  · simp [fewQ, e1, e2, e3, e4, e5, e6, e7]
  simp [e1]
  refine callS_tree (few6_ok s.K 140 h.K.1 h.K.2) ?_ ?_ ?_
  · rfl
  · rfl
  simp [fewQ, e1, e2, e3, e4, e5, e6, e7]

theorem tiny_fewG {g : Gr} (h : fewG g = true) : tinyG g := by
  simp [fewG] at h
  exact ⟨by simp only [tiny]; omega, by simp only [tiny]; omega⟩
theorem tiny_fewP {p : Pa} (h : fewP p 140 = true) : tinyP p := by
  simp [fewP] at h
  exact ⟨by simp only [tiny]; omega, by simp only [tiny]; omega⟩
theorem tiny_fewQ {s : Sq} (h : fewQ s = true) : TinySq s := by
  simp only [fewQ, Bool.and_eq_true] at h
  obtain ⟨⟨⟨⟨⟨⟨⟨h1, h2⟩, h3⟩, h4⟩, h5⟩, h6⟩, h7⟩, h8⟩ := h
  exact ⟨tiny_fewG h1, tiny_fewG h2, tiny_fewG h3, tiny_fewG h4, tiny_fewP h5, tiny_fewP h6, tiny_fewP h7, tiny_fewP h8⟩

def c_lawKind : MFunc := ⟨57, [.tmp 2], .seq (.region [⟨some 1, .box 0 29 (.tmp 0), none⟩, ⟨some 2, .mv (.c (.one (.t (.bool false)))), none⟩]) (.seq (.seq (.region [⟨some 11, .call (.c (.one (.fn 11 []))) 64 [], none⟩, ⟨some 12, .not (.tmp 11), none⟩, ⟨some 13, .mv (.tmp 12), none⟩, ⟨some 14, .load true 16 (.tmp 1), some (13, false)⟩, ⟨some 15, .call (.c (.one (.fn 12 []))) 68 [.tmp 14], some (13, false)⟩, ⟨some 16, .not (.tmp 15), some (13, false)⟩, ⟨some 17, .pick (.tmp 13) (.c (.one (.t (.bool true)))) (.tmp 16), none⟩]) (.cond (.tmp 17) (.seq (.region [⟨some 18, .call (.c (.one (.fn 11 []))) 128 [], none⟩, ⟨some 2, .mv (.tmp 18), none⟩]) .ret) .skip)) (.seq (.region [⟨some 20, .load true 16 (.tmp 1), none⟩, ⟨some 21, .call (.c (.one (.fn 34 []))) 193 [.tmp 20], none⟩, ⟨some 19, .mv (.tmp 21), none⟩, ⟨some 22, .extract (.tmp 19) 0, none⟩, ⟨some 23, .extract (.tmp 19) 1, none⟩, ⟨some 3, .mv (.tmp 22), none⟩, ⟨some 4, .mv (.tmp 23), none⟩]) (.seq (.region [⟨some 25, .load true 16 (.tmp 1), none⟩, ⟨some 26, .call (.c (.one (.fn 35 []))) 257 [.tmp 25], none⟩, ⟨some 24, .mv (.tmp 26), none⟩, ⟨some 27, .extract (.tmp 24) 0, none⟩, ⟨some 28, .extract (.tmp 24) 1, none⟩, ⟨some 5, .mv (.tmp 27), none⟩, ⟨some 6, .mv (.tmp 28), none⟩]) (.seq (.region [⟨some 30, .load true 16 (.tmp 1), none⟩, ⟨some 31, .call (.c (.one (.fn 21 []))) 321 [.tmp 30], none⟩, ⟨some 29, .mv (.tmp 31), none⟩, ⟨some 32, .extract (.tmp 29) 0, none⟩, ⟨some 33, .extract (.tmp 29) 1, none⟩, ⟨some 7, .mv (.tmp 32), none⟩, ⟨some 8, .mv (.tmp 33), none⟩]) (.seq (.region [⟨some 35, .load true 16 (.tmp 1), none⟩, ⟨some 36, .call (.c (.one (.fn 36 []))) 385 [.tmp 35], none⟩, ⟨some 34, .mv (.tmp 36), none⟩, ⟨some 37, .extract (.tmp 34) 0, none⟩, ⟨some 38, .extract (.tmp 34) 1, none⟩, ⟨some 9, .mv (.tmp 37), none⟩, ⟨some 10, .mv (.tmp 38), none⟩]) (.seq (.region [⟨some 39, .mv (.tmp 3), none⟩, ⟨some 40, .mv (.tmp 5), none⟩, ⟨some 41, .eqS false 0 (.tmp 39) (.tmp 40), none⟩, ⟨some 42, .mv (.tmp 41), none⟩, ⟨some 43, .mv (.tmp 4), some (42, true)⟩, ⟨some 44, .mv (.tmp 6), some (42, true)⟩, ⟨some 45, .bin .eql (.tmp 43) (.tmp 44), some (42, true)⟩, ⟨some 46, .pick (.tmp 42) (.tmp 45) (.c (.one (.t (.bool false)))), none⟩, ⟨some 47, .mv (.tmp 46), none⟩, ⟨some 48, .mv (.tmp 7), some (47, true)⟩, ⟨some 49, .mv (.tmp 9), some (47, true)⟩, ⟨some 50, .bin .eql (.tmp 48) (.tmp 49), some (47, true)⟩, ⟨some 51, .pick (.tmp 47) (.tmp 50) (.c (.one (.t (.bool false)))), none⟩, ⟨some 52, .mv (.tmp 51), none⟩, ⟨some 53, .mv (.tmp 8), some (52, true)⟩, ⟨some 54, .mv (.tmp 10), some (52, true)⟩, ⟨some 55, .bin .eql (.tmp 53) (.tmp 54), some (52, true)⟩, ⟨some 56, .pick (.tmp 52) (.tmp 55) (.c (.one (.t (.bool false)))), none⟩, ⟨some 2, .mv (.tmp 56), none⟩]) .ret))))))⟩
theorem k_lawKind : cFn Tryz.prog Tryz.f8 = some c_lawKind := by kernel_rfl
set_option maxHeartbeats 1000000 in
theorem lawKind_ok (s : Sq) (h : HugeQ s) : CallOK Tryz.prog 8 [s.v] (.sv (false, [.bool true])) := by
  refine callOK_W (callS_W (by kernel_rfl) Tryz.func8 k_lawKind (callable_of Tryz.func8 (by kernel_rfl)) (by simp [c_lawKind]) ?_)
  simp [c_lawKind, Sq.v, Sq.cs]
  refine callS_tree awake14_ok ?_ ?_ ?_
  · rfl
  · rfl
  simp
  refine callS_tree (few14_ok s h) ?_ ?_ ?_
  · rfl
  · rfl
  cases hf : fewQ s
  · simp
    refine callS_tree awake14_ok ?_ ?_ ?_
    · rfl
    · rfl
    simp
  have ht := tiny_fewQ hf
  simp
  refine callS_tree (sCommX_ok s ht) ?_ ?_ ?_
  · rfl
  · rfl
  simp
  refine callS_tree (rCommX_ok s ht) ?_ ?_ ?_
  · rfl
  · rfl
  simp
  refine callS_tree (sKind_ok s ht) ?_ ?_ ?_
  · rfl
  · rfl
  simp [kindT]
  refine callS_tree (kind14_ok s ht) ?_ ?_ ?_
  · rfl
  · rfl
  simp [kindT]
end Go.Proofs.YthcnpnogfblkcaaGreat

/- What a row's argument reads as, opened into trees. -/
namespace Go.Proofs.YthcnpnogfblkcaaGreat.Abs
open Go.RowKit Go.ChangeShapes Go.WideShapes Go.Deep
set_option linter.unusedVariables false
set_option linter.unusedSimpArgs false

section
variable {H : Type} {enc : TypeId × Value → H} {P : Program} {w : World} {base : Nat} {spare : Nat → Bool} {held : Bool}

theorem open_int_list {t e : TypeId} {fuel : Nat} {cs : List Value} {x : DataW H × List MemPlace} (ht : P.underlying t = some (.slice e)) (he : P.underlying e = some (.int .i64)) (hc : P.cellsOf e = 1) (hB : P.bytesOf e = 8)
    (h : DataW.trod enc P w base spare held fuel t cs = some x) (hw : (x.1.weights P t).all (· ≤ reachBytes) = true) : ∃ l v, cs = [v] ∧ CR w (fun _ => False) (ints l) v ∧ l.length * 8 ≤ 140737488351232 := by
  rcases open_ints ht he hc h with ⟨rfl, _⟩ | ⟨a, len, cap, zs, rfl, hb, hl, hm, hz, rfl, hcell, _⟩
  · exact ⟨[], _, rfl, .sl 0 0 [] none (fun _ => default) (Nat.le_refl _) (fun h => by simp at h) (fun j c h => by simp at h), by simp⟩
  · have hlen : len ≤ zs.length := by
      rw [hz]
      split
      · exact hl
      · exact Nat.le_refl _
    refine ⟨zs.take len, _, rfl, ?_, ?_⟩
    · have e1 : ints (zs.take len) = .sl len ((zs.take len).map (.int .i64)) := by simp [ints, Nat.min_eq_left hlen]
      rw [e1]
      refine .sl len cap _ (some a) (fun j => .int .i64 (zs.getD j 0)) hl (fun _ => ⟨a, rfl, id, fun j hj => hcell j (by simp at hj; omega)⟩) (fun j c hj => ?_)
      simp only [List.getElem?_map, Option.map_eq_some_iff] at hj
      obtain ⟨z, hz', rfl⟩ := hj
      have hj2 : j < len ∧ zs[j]? = some z := by
        rw [List.getElem?_take] at hz'
        split at hz'
        · exact ⟨by assumption, hz'⟩
        · cases hz'
      have : zs.getD j 0 = z := by simp [List.getD, hj2.2]
      rw [this]
      exact .int _ _
    · have z := List.all_eq_true.1 hw _ (show (((lits (H := H) .i64 (zs.take len)).length + (lits (H := H) .i64 (zs.drop len)).length) * P.bytesOf e) ∈ _ by simp [DataW.weights, ht])
      rw [hB] at z
      simp [lits] at z
      simp only [reachBytes] at z
      simp [Nat.min_eq_left hlen]
      omega

instance : Inhabited Ed := ⟨⟨0, 0, 0⟩⟩

/-- A struct of three numbers. -/
theorem open_three {t e : TypeId} {f0 f1 f2 : Field} {fuel : Nat} {cs : List Value} {x : DataW H × List MemPlace} (ht : P.underlying t = some (.struct #[f0, f1, f2])) (h0 : f0.type = e) (h1 : f1.type = e) (h2 : f2.type = e) (o0 : f0.offset = 0) (o1 : f1.offset = 1) (o2 : f2.offset = 2)
    (he : P.underlying e = some (.int .i64)) (hc : P.cellsOf e = 1) (hct : P.cellsOf t = 3) (h : DataW.trod enc P w base spare held fuel t cs = some x) : ∃ d : Ed, cs = [.int .i64 d.t, .int .i64 d.f, .int .i64 d.g] := by
  obtain ⟨y0, y1, y2, n, _, hl, g0, g1, g2⟩ := trod_struct3 ht h
  rw [h0, o0, hc] at g0
  rw [h1, o1, hc] at g1
  rw [h2, o2, hc] at g2
  rw [hct] at hl
  match cs, hl with
  | [a, b, c], _ =>
    obtain ⟨p, e0, _⟩ := DataW.trod_int he g0
    obtain ⟨q, e1, _⟩ := DataW.trod_int he g1
    obtain ⟨r, e2, _⟩ := DataW.trod_int he g2
    simp at e0 e1 e2
    exact ⟨⟨p, q, r⟩, by rw [e0, e1, e2]⟩

theorem get_edL : ∀ {l : List Ed} {j : Nat} {c : C}, (edL l)[j]? = some c → j / 3 < l.length ∧ (edC (eth l (j / 3)))[j % 3]? = some c
  | [], j, c, h => by simp [edL] at h
  | e :: r, j, c, h => by
    have e1 : edL (e :: r) = edC e ++ edL r := by simp [edL]
    rw [e1] at h
    by_cases hj : j < 3
    · rw [List.getElem?_append_left (by simpa [edC] using hj)] at h
      have h1 : j / 3 = 0 := by omega
      have h2 : j % 3 = j := by omega
      rw [h1, h2]
      exact ⟨by simp, by simpa [eth] using h⟩
    · rw [List.getElem?_append_right (by simp [edC]; omega)] at h
      have hl : (edC e).length = 3 := rfl
      rw [hl] at h
      obtain ⟨i1, i2⟩ := get_edL h
      have h1 : j / 3 = (j - 3) / 3 + 1 := by omega
      have h2 : j % 3 = (j - 3) % 3 := by omega
      rw [h1, h2]
      exact ⟨by simpa using i1, by simpa [eth] using i2⟩

theorem open_edge_list {t e q : TypeId} {f0 f1 f2 : Field} {fuel : Nat} {cs : List Value} {x : DataW H × List MemPlace} (ht : P.underlying t = some (.slice e)) (he : P.underlying e = some (.struct #[f0, f1, f2])) (h0 : f0.type = q) (h1 : f1.type = q) (h2 : f2.type = q) (o0 : f0.offset = 0) (o1 : f1.offset = 1) (o2 : f2.offset = 2)
    (hq : P.underlying q = some (.int .i64)) (hc : P.cellsOf q = 1) (hct : P.cellsOf e = 3) (hB : P.bytesOf e = 24)
    (h : DataW.trod enc P w base spare held fuel t cs = some x) (hw : (x.1.weights P t).all (· ≤ reachBytes) = true) : ∃ l v, cs = [v] ∧ CR w (fun _ => False) (edgs l) v ∧ l.length * 24 ≤ 140737488351232 := by
  rcases open_slice ht h with ⟨rfl, _⟩ | ⟨a, len, cap, m, n, D, Pl, rfl, hb, hl, hm, hmm, rfl, hx⟩
  · exact ⟨[], _, rfl, .sl 0 0 [] none (fun _ => default) (Nat.le_refl _) (fun h => by simp [edL] at h) (fun j c h => by simp at h), by simp⟩
  · have hlen : len ≤ m := by
      rw [hmm]
      split
      · exact hl
      · exact Nat.le_refl _
    obtain ⟨F, hF⟩ := choose_lt (α := Ed) (p := fun i d => w.cell? (a.add (i * 3)) = some (.int .i64 d.t) ∧ w.cell? (a.add (i * 3 + 1)) = some (.int .i64 d.f) ∧ w.cell? (a.add (i * 3 + 2)) = some (.int .i64 d.g)) (fun i (hi : i < m) => by
      obtain ⟨cs', g1, g2⟩ := hx i hi
      rw [hct] at g1
      obtain ⟨_, _, g3⟩ := World.cells?_some g1
      obtain ⟨d, rfl⟩ := open_three he h0 h1 h2 o0 o1 o2 hq hc hct g2
      have c0 := g3 0 (by omega)
      have c1 := g3 1 (by omega)
      have c2 := g3 2 (by omega)
      rw [Addr.add_add] at c0 c1 c2
      exact ⟨d, by simpa using c0, by simpa using c1, by simpa using c2⟩)
    have hl2 : ((List.range len).map F).length = len := by simp
    refine ⟨(List.range len).map F, _, rfl, ?_, ?_⟩
    · have key : ∀ i, i < len → eth ((List.range len).map F) i = F i := fun i hi => by simp [eth, hi]
      have e1 : edgs ((List.range len).map F) = .sl len (edL ((List.range len).map F)) := by simp [edgs]
      rw [e1]
      let U : Nat → Value := fun j => if j % 3 = 0 then .int .i64 (F (j / 3)).t else if j % 3 = 1 then .int .i64 (F (j / 3)).f else .int .i64 (F (j / 3)).g
      refine .sl len cap _ (some a) U hl (fun _ => ⟨a, rfl, id, fun j hj => ?_⟩) (fun j c hj => ?_)
      · rw [len_edL, hl2] at hj
        obtain ⟨g0, g1, g2⟩ := hF (j / 3) (by omega)
        have hcase : j % 3 = 0 ∨ j % 3 = 1 ∨ j % 3 = 2 := by omega
        rcases hcase with e | e | e
        · have : j = j / 3 * 3 := by omega
          simp only [U, e, if_true]
          rw [this]; simpa using g0
        · have : j = j / 3 * 3 + 1 := by omega
          simp only [U, e]
          rw [show a.add j = a.add (j / 3 * 3 + 1) by rw [← this]]
          simpa using g1
        · have : j = j / 3 * 3 + 2 := by omega
          simp only [U, e]
          rw [show a.add j = a.add (j / 3 * 3 + 2) by rw [← this]]
          simpa using g2
      · obtain ⟨q1, q2⟩ := get_edL hj
        rw [hl2] at q1
        rw [key _ q1] at q2
        have hcase : j % 3 = 0 ∨ j % 3 = 1 ∨ j % 3 = 2 := by omega
        rcases hcase with e | e | e <;> (rw [e] at q2; simp [edC] at q2; subst q2; simp only [U, e]; exact CR.int _ _)
    · have z := List.all_eq_true.1 hw _ (show ((((List.range len).map D).length + ((List.range (m - len)).map fun j => D (len + j)).length) * P.bytesOf e) ∈ _ by simp [DataW.weights, ht])
      rw [hB] at z
      simp at z
      simp only [reachBytes] at z
      simp
      omega
end

/-! ### What opens, as words -/
def bound (n : Nat) : Prop := n * 8 ≤ 140737488351232
def OpensI (P : Program) (t : TypeId) : Prop := ∀ (H : Type) (enc : TypeId × Value → H) (w : World) (base : Nat) (spare : Nat → Bool) (held : Bool) (fuel : Nat) (cs : List Value) (x : DataW H × List MemPlace),
  DataW.trod enc P w base spare held fuel t cs = some x → (x.1.weights P t).all (· ≤ reachBytes) = true → ∃ l v, cs = [v] ∧ CR w (fun _ => False) (ints l) v ∧ bound l.length
def OpensE (P : Program) (t : TypeId) : Prop := ∀ (H : Type) (enc : TypeId × Value → H) (w : World) (base : Nat) (spare : Nat → Bool) (held : Bool) (fuel : Nat) (cs : List Value) (x : DataW H × List MemPlace),
  DataW.trod enc P w base spare held fuel t cs = some x → (x.1.weights P t).all (· ≤ reachBytes) = true → ∃ l v, cs = [v] ∧ CR w (fun _ => False) (edgs l) v ∧ bound l.length
def OpensG (P : Program) (t : TypeId) : Prop := ∀ (H : Type) (enc : TypeId × Value → H) (w : World) (base : Nat) (spare : Nat → Bool) (held : Bool) (fuel : Nat) (cs : List Value) (x : DataW H × List MemPlace),
  DataW.trod enc P w base spare held fuel t cs = some x → (x.1.weights P t).all (· ≤ reachBytes) = true → ∃ g : Gr, ∃ v0 v1, cs = [v0, v1] ∧ CR w (fun _ => False) (ints g.nodes) v0 ∧ CR w (fun _ => False) (edgs g.edges) v1 ∧ bound g.nodes.length ∧ bound g.edges.length
def OpensP (P : Program) (t : TypeId) : Prop := ∀ (H : Type) (enc : TypeId × Value → H) (w : World) (base : Nat) (spare : Nat → Bool) (held : Bool) (fuel : Nat) (cs : List Value) (x : DataW H × List MemPlace),
  DataW.trod enc P w base spare held fuel t cs = some x → (x.1.weights P t).all (· ≤ reachBytes) = true → ∃ g : Pa, ∃ v0 v1, cs = [v0, v1] ∧ CR w (fun _ => False) (ints g.nodes) v0 ∧ CR w (fun _ => False) (ints g.edges) v1 ∧ bound g.nodes.length ∧ bound g.edges.length

theorem opensI {P : Program} {t e : TypeId} (ht : P.underlying t = some (.slice e)) (he : P.underlying e = some (.int .i64)) (hc : P.cellsOf e = 1) (hB : P.bytesOf e = 8) : OpensI P t :=
  fun H enc w base spare held fuel cs x h hw => open_int_list ht he hc hB h hw

theorem opensE {P : Program} {t e q : TypeId} {f0 f1 f2 : Field} (ht : P.underlying t = some (.slice e)) (he : P.underlying e = some (.struct #[f0, f1, f2])) (h0 : f0.type = q ∧ f1.type = q ∧ f2.type = q ∧ f0.offset = 0 ∧ f1.offset = 1 ∧ f2.offset = 2)
    (hq : P.underlying q = some (.int .i64)) (hc : P.cellsOf q = 1) (hct : P.cellsOf e = 3) (hB : P.bytesOf e = 24) : OpensE P t := fun H enc w base spare held fuel cs x h hw => by
  obtain ⟨l, v, h1, h2, h3⟩ := open_edge_list ht he h0.1 h0.2.1 h0.2.2.1 h0.2.2.2.1 h0.2.2.2.2.1 h0.2.2.2.2.2 hq hc hct hB h hw
  exact ⟨l, v, h1, h2, by simp only [bound]; omega⟩

theorem opensG {P : Program} {t a b : TypeId} {f0 f1 : Field} (ht : P.underlying t = some (.struct #[f0, f1])) (hf : f0.type = a ∧ f1.type = b ∧ f0.offset = 0 ∧ f1.offset = 1) (hc : P.cellsOf t = 2) (ha : P.cellsOf a = 1) (hb : P.cellsOf b = 1) (oa : OpensI P a) (ob : OpensE P b) : OpensG P t := by
  intro H enc w base spare held fuel cs x h hw
  obtain ⟨y0, y1, n, rfl, hl, g0, g1⟩ := trod_struct2 ht h
  obtain ⟨rfl, rfl, o0, o1⟩ := hf
  rw [o0, ha] at g0
  rw [o1, hb] at g1
  rw [hc] at hl
  have hw : ((y0.1.weights P f0.type ++ (y1.1.weights P f1.type ++ [])).all (· ≤ reachBytes)) = true := by simpa [DataW.weights, ht, DataW.weightsEach] using hw
  rw [List.all_append, List.all_append, Bool.and_eq_true, Bool.and_eq_true] at hw
  match cs, hl with
  | [u, v], _ =>
    obtain ⟨l, v0, e0, c0, b0⟩ := oa _ _ _ _ _ _ _ _ _ g0 hw.1
    obtain ⟨l1, v1, e1, c1, b1⟩ := ob _ _ _ _ _ _ _ _ _ g1 hw.2.1
    simp at e0 e1
    subst e0 e1
    exact ⟨⟨l, l1⟩, _, _, rfl, c0, c1, b0, b1⟩

theorem opensP {P : Program} {t a : TypeId} {f0 f1 : Field} (ht : P.underlying t = some (.struct #[f0, f1])) (hf : f0.type = a ∧ f1.type = a ∧ f0.offset = 0 ∧ f1.offset = 1) (hc : P.cellsOf t = 2) (ha : P.cellsOf a = 1) (oa : OpensI P a) : OpensP P t := by
  intro H enc w base spare held fuel cs x h hw
  obtain ⟨y0, y1, n, rfl, hl, g0, g1⟩ := trod_struct2 ht h
  obtain ⟨h0, h1, o0, o1⟩ := hf
  rw [h0, o0, ha] at g0
  rw [h1, o1, ha] at g1
  rw [hc] at hl
  have hw : ((y0.1.weights P a ++ (y1.1.weights P a ++ [])).all (· ≤ reachBytes)) = true := by simpa [DataW.weights, ht, DataW.weightsEach, h0, h1] using hw
  rw [List.all_append, List.all_append, Bool.and_eq_true, Bool.and_eq_true] at hw
  match cs, hl with
  | [u, v], _ =>
    obtain ⟨l, v0, e0, c0, b0⟩ := oa _ _ _ _ _ _ _ _ _ g0 hw.1
    obtain ⟨l1, v1, e1, c1, b1⟩ := oa _ _ _ _ _ _ _ _ _ g1 hw.2.1
    simp at e0 e1
    subst e0 e1
    exact ⟨⟨l, l1⟩, _, _, rfl, c0, c1, b0, b1⟩
end Go.Proofs.YthcnpnogfblkcaaGreat.Abs

/- Lists of bytes, drafts and words as a row's arguments, opened into trees. -/
namespace Go.Proofs.YthcnpnogfblkcaaGreat.Abs
open Go.RowKit Go.ChangeShapes Go.WideShapes Go.Deep
set_option linter.unusedVariables false
set_option linter.unusedSimpArgs false

/-- Three bytes. -/
structure T3 where
  a : Nat
  b : Nat
  c : Nat
instance : Inhabited T3 := ⟨⟨0, 0, 0⟩⟩
def T3.small (e : T3) : Prop := e.a < 256 ∧ e.b < 256 ∧ e.c < 256
def byL (l : List Nat) : List C := l.map fun x => .int .u8 (x : Nat)
def bys (l : List Nat) : C := .sl l.length (byL l)
def t3C (e : T3) : List C := [.int .u8 (e.a : Nat), .int .u8 (e.b : Nat), .int .u8 (e.c : Nat)]
def t3L (l : List T3) : List C := l.flatMap t3C
def t3s (l : List T3) : C := .sl l.length (t3L l)
/-- A description of a graph, or of a graph over another one. -/
structure Dr where
  nodes : List Nat
  edges : List T3
def Dr.v (d : Dr) : TV := (true, [bys d.nodes, t3s d.edges])
def byV (l : List Nat) : TV := (false, [bys l])
def by2V (l : List Nat × List Nat) : TV := (true, [bys l.1, bys l.2])
def by3V (l : List Nat × List Nat × List Nat) : TV := (true, [bys l.1, bys l.2.1, bys l.2.2])
def u64V (n : Nat) : TV := (false, [.int .u64 (n : Nat)])
def u642V (n : Nat × Nat) : TV := (true, [.int .u64 (n.1 : Nat), .int .u64 (n.2 : Nat)])
def BoundB (l : List Nat) : Prop := (∀ x ∈ l, x < 256) ∧ l.length ≤ maxLen
def BoundD (d : Dr) : Prop := BoundB d.nodes ∧ (∀ x ∈ d.edges, x.small) ∧ d.edges.length ≤ maxLen
def BoundB2 (l : List Nat × List Nat) : Prop := BoundB l.1 ∧ BoundB l.2
def BoundB3 (l : List Nat × List Nat × List Nat) : Prop := BoundB l.1 ∧ BoundB l.2.1 ∧ BoundB l.2.2
def BoundU (n : Nat) : Prop := n < 18446744073709551616
def BoundUU (n : Nat × Nat) : Prop := BoundU n.1 ∧ BoundU n.2
def byth (l : List Nat) (k : Nat) : Nat := l.getD k 0
def t3th (l : List T3) (k : Nat) : T3 := l.getD k ⟨0, 0, 0⟩

theorem len_byL {l : List Nat} : (byL l).length = l.length := by simp [byL]
theorem len_t3L : ∀ {l : List T3}, (t3L l).length = l.length * 3
  | [] => rfl
  | e :: r => by
    have := len_t3L (l := r)
    simp only [t3L] at this
    simp only [t3L, List.flatMap_cons, List.length_append, this, List.length_cons]
    simp [t3C]
    omega
theorem byth_eq {l : List Nat} {k : Nat} (h : k < l.length) : byth l k = l[k] := by simp [byth, h]
theorem drop_byL {l : List Nat} {k : Nat} (h : k < l.length) : (byL l).drop k = .int .u8 (byth l k : Nat) :: (byL (l.drop (k + 1))) := by
  rw [byth_eq h, byL, ← List.map_drop, List.drop_eq_getElem_cons h, List.map_cons]
  rfl
theorem drop_t3L : ∀ {l : List T3} {k : Nat}, k < l.length → (t3L l).drop (k * 3) = .int .u8 ((t3th l k).a : Nat) :: .int .u8 ((t3th l k).b : Nat) :: .int .u8 ((t3th l k).c : Nat) :: t3L (l.drop (k + 1))
  | [], k, h => absurd h (by simp)
  | e :: r, 0, h => by simp [t3L, t3C, t3th]
  | e :: r, k + 1, h => by
    have ih := drop_t3L (l := r) (k := k) (by simpa using h)
    have e1 : (k + 1) * 3 = k * 3 + 3 := by omega
    rw [e1, t3L, List.flatMap_cons]
    rw [show (t3C e ++ List.flatMap t3C r).drop (k * 3 + 3) = ((t3C e ++ List.flatMap t3C r).drop 3).drop (k * 3) by rw [List.drop_drop, Nat.add_comm]]
    simpa [t3C, t3th, t3L] using ih
theorem byth_small {l : List Nat} (h : ∀ x ∈ l, x < 256) (k : Nat) : byth l k < 256 := by
  by_cases hk : k < l.length
  · rw [byth_eq hk]; exact h _ (List.getElem_mem hk)
  · simp [byth, List.getD, List.getElem?_eq_none (Nat.le_of_not_lt hk)]
theorem t3th_small {l : List T3} (h : ∀ x ∈ l, x.small) (k : Nat) : (t3th l k).small := by
  by_cases hk : k < l.length
  · have : t3th l k = l[k] := by simp [t3th, hk]
    rw [this]; exact h _ (List.getElem_mem hk)
  · have : t3th l k = ⟨0, 0, 0⟩ := by simp [t3th, List.getD, List.getElem?_eq_none (Nat.le_of_not_lt hk)]
    rw [this]
    exact ⟨by decide, by decide, by decide⟩

theorem wf_u8 {n : Int} (h : (Lit.int .u8 n).wf = true) : ∃ m : Nat, n = m ∧ m < 256 := by
  have m1 : IntKind.u8.min = 0 := by decide
  have m2 : IntKind.u8.max = 255 := by decide
  simp [Lit.wf, m1, m2] at h
  exact ⟨n.toNat, by omega, by omega⟩
theorem wf_u64 {n : Int} (h : (Lit.int .u64 n).wf = true) : ∃ m : Nat, n = m ∧ m < 18446744073709551616 := by
  have m1 : IntKind.u64.min = 0 := by decide
  have m2 : IntKind.u64.max = 18446744073709551615 := by decide
  simp [Lit.wf, m1, m2] at h
  exact ⟨n.toNat, by omega, by omega⟩

section
variable {H : Type} {enc : TypeId × Value → H} {P : Program} {w : World} {base : Nat} {spare : Nat → Bool} {held : Bool}

theorem get_byL {l : List Nat} {j : Nat} {c : C} (h : (byL l)[j]? = some c) : j < l.length ∧ c = .int .u8 (byth l j : Nat) := by
  have hj : j < l.length := by
    have := (List.getElem?_eq_some_iff.1 h).1
    rwa [len_byL] at this
  refine ⟨hj, ?_⟩
  rw [byL, List.getElem?_map, List.getElem?_eq_getElem hj] at h
  simp at h
  rw [byth_eq hj, ← h]
theorem open_by_list {t e : TypeId} {fuel : Nat} {cs : List Value} {x : DataW H × List MemPlace} (ht : P.underlying t = some (.slice e)) (he : P.underlying e = some (.int .u8)) (hc : P.cellsOf e = 1)
    (h : DataW.trod enc P w base spare held fuel t cs = some x) : ∃ l v, cs = [v] ∧ CR w (fun _ => False) (bys l) v ∧ BoundB l ∧ (l = [] ∨ ∃ es sp, x.1 = .slice es sp ∧ es.length = l.length) := by
  rcases open_ints ht he hc h with ⟨rfl, _⟩ | ⟨a, len, cap, zs, rfl, hb, hl, hm, hz, rfl, hcell, hwf⟩
  · exact ⟨[], _, rfl, .sl 0 0 [] none (fun _ => default) (Nat.le_refl _) (fun h => by simp at h) (fun j c h => by simp at h), ⟨by simp, by simp⟩, .inl rfl⟩
  · have hlen : len ≤ zs.length := by
      rw [hz]
      split
      · exact hl
      · exact Nat.le_refl _
    have hlen2 : ((zs.take len).map Int.toNat).length = len := by simp [Nat.min_eq_left hlen]
    have at_ : ∀ j, j < len → zs.getD j 0 = (byth ((zs.take len).map Int.toNat) j : Nat) ∧ byth ((zs.take len).map Int.toNat) j < 256 := fun j hj => by
      have h1 : zs[j]? = some (zs[j]'(by omega)) := List.getElem?_eq_getElem (by omega)
      obtain ⟨m, h2, h3⟩ := wf_u8 (hwf _ (List.getElem_mem (show j < zs.length by omega)))
      have h4 : byth ((zs.take len).map Int.toNat) j = m := by
        rw [byth_eq (by omega)]
        simp [h2]
      rw [h4]
      refine ⟨by rw [List.getD, h1]; exact h2, h3⟩
    refine ⟨(zs.take len).map Int.toNat, _, rfl, ?_, ⟨fun y hy => ?_, by rw [hlen2]; omega⟩, .inr ⟨_, _, rfl, by simp [lits]⟩⟩
    · have e1 : bys ((zs.take len).map Int.toNat) = .sl len (byL ((zs.take len).map Int.toNat)) := by rw [bys, hlen2]
      rw [e1]
      refine .sl len cap _ (some a) (fun j => .int .u8 (zs.getD j 0)) hl (fun _ => ⟨a, rfl, id, fun j hj => hcell j (by rw [len_byL, hlen2] at hj; omega)⟩) (fun j c hj => ?_)
      obtain ⟨h1, rfl⟩ := get_byL hj
      rw [hlen2] at h1
      rw [(at_ j h1).1]
      exact .int _ _
    · obtain ⟨j, hj, rfl⟩ := List.mem_iff_getElem.1 hy
      rw [hlen2] at hj
      rw [← byth_eq]
      exact (at_ j hj).2

theorem get_t3L : ∀ {l : List T3} {j : Nat} {c : C}, (t3L l)[j]? = some c → j / 3 < l.length ∧ (t3C (t3th l (j / 3)))[j % 3]? = some c
  | [], j, c, h => by simp [t3L] at h
  | e :: r, j, c, h => by
    have e1 : t3L (e :: r) = t3C e ++ t3L r := by simp [t3L]
    rw [e1] at h
    by_cases hj : j < 3
    · rw [List.getElem?_append_left (by simpa [t3C] using hj)] at h
      have h1 : j / 3 = 0 := by omega
      have h2 : j % 3 = j := by omega
      rw [h1, h2]
      exact ⟨by simp, by simpa [t3th] using h⟩
    · rw [List.getElem?_append_right (by simp [t3C]; omega)] at h
      have hl : (t3C e).length = 3 := rfl
      rw [hl] at h
      obtain ⟨i1, i2⟩ := get_t3L h
      have h1 : j / 3 = (j - 3) / 3 + 1 := by omega
      have h2 : j % 3 = (j - 3) % 3 := by omega
      rw [h1, h2]
      exact ⟨by simpa using i1, by simpa [t3th] using i2⟩

/-- An array, opened. -/
theorem trod_array {t e : TypeId} {n fuel : Nat} {cs : List Value} {x : DataW H × List MemPlace} (ht : P.underlying t = some (.array n e)) (h : DataW.trod enc P w base spare held fuel t cs = some x) :
    ∃ (xs : List (DataW H × List MemPlace)) (m : Nat), fuel = m + 1 ∧ x = (.agg (xs.map (·.1)), xs.flatMap (·.2)) ∧ cs.length = P.cellsOf t ∧ xs.length = n ∧
      ∀ (i : Nat), i < n → DataW.trod enc P w base spare held m e ((cs.drop (i * P.cellsOf e)).take (P.cellsOf e)) = xs[i]? := by
  cases fuel with
  | zero => simp [DataW.trod] at h
  | succ m =>
    unfold DataW.trod at h
    rw [ht] at h
    split at h <;> simp_all
    obtain ⟨hl, xs, hp, hd⟩ := h
    exact ⟨xs, hd.symm, by simpa using mapM_some_length hp, fun i hi => mapM_some_get hp i i (by simp [hi])⟩

theorem open_t3 {t e : TypeId} {fuel : Nat} {cs : List Value} {x : DataW H × List MemPlace} (ht : P.underlying t = some (.array 3 e)) (he : P.underlying e = some (.int .u8)) (hc : P.cellsOf e = 1) (hct : P.cellsOf t = 3)
    (h : DataW.trod enc P w base spare held fuel t cs = some x) : ∃ d : T3, d.small ∧ cs = [.int .u8 (d.a : Nat), .int .u8 (d.b : Nat), .int .u8 (d.c : Nat)] := by
  obtain ⟨xs, n, _, _, hl, hlen, hfs⟩ := trod_array ht h
  rw [hct] at hl
  rw [hc] at hfs
  match xs, hlen, cs, hl with
  | [y0, y1, y2], _, [a, b, c], _ =>
    have g0 := hfs 0 (by omega)
    have g1 := hfs 1 (by omega)
    have g2 := hfs 2 (by omega)
    obtain ⟨p, e0, _, w0⟩ := DataW.trod_int he g0
    obtain ⟨q, e1, _, w1⟩ := DataW.trod_int he g1
    obtain ⟨r, e2, _, w2⟩ := DataW.trod_int he g2
    obtain ⟨p', rfl, hp⟩ := wf_u8 w0
    obtain ⟨q', rfl, hq⟩ := wf_u8 w1
    obtain ⟨r', rfl, hr⟩ := wf_u8 w2
    simp at e0 e1 e2
    exact ⟨⟨p', q', r'⟩, ⟨hp, hq, hr⟩, by rw [e0, e1, e2]⟩

theorem open_t3_list {t e q : TypeId} {fuel : Nat} {cs : List Value} {x : DataW H × List MemPlace} (ht : P.underlying t = some (.slice e)) (he : P.underlying e = some (.array 3 q)) (hq : P.underlying q = some (.int .u8)) (hc : P.cellsOf q = 1) (hct : P.cellsOf e = 3)
    (h : DataW.trod enc P w base spare held fuel t cs = some x) : ∃ l v, cs = [v] ∧ CR w (fun _ => False) (t3s l) v ∧ (∀ x ∈ l, T3.small x) ∧ l.length ≤ maxLen := by
  rcases open_slice ht h with ⟨rfl, _⟩ | ⟨a, len, cap, m, n, D, Pl, rfl, hb, hl, hm, hmm, rfl, hx⟩
  · exact ⟨[], _, rfl, .sl 0 0 [] none (fun _ => default) (Nat.le_refl _) (fun h => by simp [t3L] at h) (fun j c h => by simp [t3L] at h), by simp, by simp⟩
  · have hlen : len ≤ m := by
      rw [hmm]
      split
      · exact hl
      · exact Nat.le_refl _
    obtain ⟨F, hF⟩ := choose_lt (α := T3) (p := fun i d => d.small ∧ w.cell? (a.add (i * 3)) = some (.int .u8 (d.a : Nat)) ∧ w.cell? (a.add (i * 3 + 1)) = some (.int .u8 (d.b : Nat)) ∧ w.cell? (a.add (i * 3 + 2)) = some (.int .u8 (d.c : Nat))) (fun i (hi : i < m) => by
      obtain ⟨cs', g1, g2⟩ := hx i hi
      rw [hct] at g1
      obtain ⟨_, _, g3⟩ := World.cells?_some g1
      obtain ⟨d, hs, rfl⟩ := open_t3 he hq hc hct g2
      have c0 := g3 0 (by omega)
      have c1 := g3 1 (by omega)
      have c2 := g3 2 (by omega)
      rw [Addr.add_add] at c0 c1 c2
      exact ⟨d, hs, by simpa using c0, by simpa using c1, by simpa using c2⟩)
    have hl2 : ((List.range len).map F).length = len := by simp
    have key : ∀ i, i < len → t3th ((List.range len).map F) i = F i := fun i hi => by simp [t3th, hi]
    refine ⟨(List.range len).map F, _, rfl, ?_, fun y hy => ?_, by rw [hl2]; omega⟩
    · have e1 : t3s ((List.range len).map F) = .sl len (t3L ((List.range len).map F)) := by rw [t3s, hl2]
      rw [e1]
      let U : Nat → Value := fun j => if j % 3 = 0 then .int .u8 ((F (j / 3)).a : Nat) else if j % 3 = 1 then .int .u8 ((F (j / 3)).b : Nat) else .int .u8 ((F (j / 3)).c : Nat)
      refine .sl len cap _ (some a) U hl (fun _ => ⟨a, rfl, id, fun j hj => ?_⟩) (fun j c hj => ?_)
      · rw [len_t3L, hl2] at hj
        obtain ⟨_, g0, g1, g2⟩ := hF (j / 3) (by omega)
        have hcase : j % 3 = 0 ∨ j % 3 = 1 ∨ j % 3 = 2 := by omega
        rcases hcase with e | e | e
        · have : j = j / 3 * 3 := by omega
          simp only [U, e, if_true]
          rw [this]; simpa using g0
        · have : j = j / 3 * 3 + 1 := by omega
          simp only [U, e]
          rw [show a.add j = a.add (j / 3 * 3 + 1) by rw [← this]]
          simpa using g1
        · have : j = j / 3 * 3 + 2 := by omega
          simp only [U, e]
          rw [show a.add j = a.add (j / 3 * 3 + 2) by rw [← this]]
          simpa using g2
      · obtain ⟨q1, q2⟩ := get_t3L hj
        rw [hl2] at q1
        rw [key _ q1] at q2
        have hcase : j % 3 = 0 ∨ j % 3 = 1 ∨ j % 3 = 2 := by omega
        rcases hcase with e | e | e <;> (rw [e] at q2; simp [t3C] at q2; subst q2; simp only [U, e]; exact CR.int _ _)
    · obtain ⟨i, hi, rfl⟩ := List.mem_map.1 hy
      exact (hF i (by have := List.mem_range.1 hi; omega)).1
end

/-! ### What opens, as words -/
def OpensB (P : Program) (t : TypeId) : Prop := ∀ (H : Type) (enc : TypeId × Value → H) (w : World) (base : Nat) (spare : Nat → Bool) (held : Bool) (fuel : Nat) (cs : List Value) (x : DataW H × List MemPlace),
  DataW.trod enc P w base spare held fuel t cs = some x → ∃ l v, cs = [v] ∧ CR w (fun _ => False) (bys l) v ∧ BoundB l ∧ (l = [] ∨ ∃ es sp, x.1 = .slice es sp ∧ es.length = l.length)
def OpensT (P : Program) (t : TypeId) : Prop := ∀ (H : Type) (enc : TypeId × Value → H) (w : World) (base : Nat) (spare : Nat → Bool) (held : Bool) (fuel : Nat) (cs : List Value) (x : DataW H × List MemPlace),
  DataW.trod enc P w base spare held fuel t cs = some x → ∃ l v, cs = [v] ∧ CR w (fun _ => False) (t3s l) v ∧ (∀ x ∈ l, T3.small x) ∧ l.length ≤ maxLen
def OpensD (P : Program) (t : TypeId) : Prop := ∀ (H : Type) (enc : TypeId × Value → H) (w : World) (base : Nat) (spare : Nat → Bool) (held : Bool) (v : Value) (d : DataW H) (ps : List MemPlace),
  DataW.Trod enc P w base spare held t v d ps → ∃ x : Dr, TVR w (fun _ => False) x.v v ∧ BoundD x

theorem tvr_cells {w : World} {Z : Nat → Prop} {us : Array Value} {cs : List C} {vs : List Value} (e : us.toList = vs) (hl : cs.length = vs.length) (h : ∀ (j : Nat) c u, cs[j]? = some c → vs[j]? = some u → CR w Z c u) : TVR w Z (true, cs) (.agg us) :=
  ⟨us, rfl, by rw [e]; exact hl, fun j c u hc hu => h j c u hc (by rw [← e]; exact hu)⟩
theorem agg_of {v : Value} {vs : List Value} (e : v.cells.toList = vs) (h : vs.length ≠ 1) : ∃ us : Array Value, v = .agg us ∧ us.toList = vs := by
  cases v <;> first | exact ⟨_, rfl, e⟩ | (simp [Value.cells] at e; subst e; simp at h)

theorem opensD {P : Program} {t a b : TypeId} {f0 f1 : Field} (ht : P.underlying t = some (.struct #[f0, f1])) (hf : f0.type = a ∧ f1.type = b ∧ f0.offset = 0 ∧ f1.offset = 1) (hc : P.cellsOf t = 2) (ha : P.cellsOf a = 1) (hb : P.cellsOf b = 1) (oa : OpensB P a) (ob : OpensT P b) : OpensD P t := by
  rintro H enc w base spare held v d ps ⟨fuel, h⟩
  obtain ⟨y0, y1, n, _, hl, g0, g1⟩ := trod_struct2 ht h
  obtain ⟨rfl, rfl, o0, o1⟩ := hf
  rw [o0, ha] at g0
  rw [o1, hb] at g1
  rw [hc] at hl
  match hu : v.cells.toList, hl with
  | [u, v'], _ =>
    rw [hu] at g0 g1
    obtain ⟨l, v0, e0, c0, b0, _⟩ := oa _ _ _ _ _ _ _ _ _ g0
    obtain ⟨l1, v1, e1, c1, b1, b2⟩ := ob _ _ _ _ _ _ _ _ _ g1
    simp at e0 e1
    subst e0 e1
    obtain ⟨us, rfl, e⟩ := agg_of hu (by simp)
    refine ⟨⟨l, l1⟩, tvr_cells e rfl fun j c u hc hu' => ?_, b0, b1, b2⟩
    match j, hc, hu' with
    | 0, hc, hu' | 1, hc, hu' =>
      simp at hc hu'
      subst hc hu'
      assumption
    | j + 2, hc, _ => simp at hc

section
variable {H : Type} {enc : TypeId × Value → H} {P : Program} {w : World} {base : Nat} {spare : Nat → Bool} {held : Bool} {v : Value} {d : DataW H} {ps : List MemPlace} {t e : TypeId}
theorem opens_bytes (o : OpensB P t) (h : DataW.Trod enc P w base spare held t v d ps) (hv : v.cells.toList.length = 1 → v.cells.toList = [v]) : ∃ l, TVR w (fun _ => False) (byV l) v ∧ BoundB l ∧ (l = [] ∨ ∃ es sp, d = .slice es sp ∧ es.length = l.length) := by
  obtain ⟨fuel, h⟩ := h
  obtain ⟨l, u, e, c, b, k⟩ := o _ _ _ _ _ _ _ _ _ h
  have := hv (by rw [e]; rfl)
  rw [e] at this
  simp at this
  subst this
  exact ⟨l, ⟨_, rfl, c⟩, b, k⟩
theorem opens_bytes2 (o : OpensB P e) (ht : P.underlying t = some (.array 2 e)) (hc : P.cellsOf e = 1) (hct : P.cellsOf t = 2) (h : DataW.Trod enc P w base spare held t v d ps) : ∃ l, TVR w (fun _ => False) (by2V l) v ∧ BoundB2 l := by
  obtain ⟨fuel, h⟩ := h
  obtain ⟨xs, n, _, _, hl, hlen, hfs⟩ := trod_array ht h
  rw [hct] at hl
  rw [hc] at hfs
  match xs, hlen, hu : v.cells.toList, hl with
  | [y0, y1], _, [a, b], _ =>
    rw [hu] at hfs
    obtain ⟨l0, v0, e0, c0, b0, _⟩ := o _ _ _ _ _ _ _ _ _ (hfs 0 (by omega))
    obtain ⟨l1, v1, e1, c1, b1, _⟩ := o _ _ _ _ _ _ _ _ _ (hfs 1 (by omega))
    simp at e0 e1
    subst e0 e1
    obtain ⟨us, rfl, e⟩ := agg_of hu (by simp)
    refine ⟨(l0, l1), tvr_cells e rfl fun j c u hc hu' => ?_, b0, b1⟩
    match j, hc, hu' with
    | 0, hc, hu' | 1, hc, hu' =>
      simp at hc hu'
      subst hc hu'
      assumption
    | j + 2, hc, _ => simp at hc
theorem opens_bytes3 (o : OpensB P e) (ht : P.underlying t = some (.array 3 e)) (hc : P.cellsOf e = 1) (hct : P.cellsOf t = 3) (h : DataW.Trod enc P w base spare held t v d ps) : ∃ l, TVR w (fun _ => False) (by3V l) v ∧ BoundB3 l := by
  obtain ⟨fuel, h⟩ := h
  obtain ⟨xs, n, _, _, hl, hlen, hfs⟩ := trod_array ht h
  rw [hct] at hl
  rw [hc] at hfs
  match xs, hlen, hu : v.cells.toList, hl with
  | [y0, y1, y2], _, [a, b, c], _ =>
    rw [hu] at hfs
    obtain ⟨l0, v0, e0, c0, b0, _⟩ := o _ _ _ _ _ _ _ _ _ (hfs 0 (by omega))
    obtain ⟨l1, v1, e1, c1, b1, _⟩ := o _ _ _ _ _ _ _ _ _ (hfs 1 (by omega))
    obtain ⟨l2, v2, e2, c2, b2, _⟩ := o _ _ _ _ _ _ _ _ _ (hfs 2 (by omega))
    simp at e0 e1 e2
    subst e0 e1 e2
    obtain ⟨us, rfl, e⟩ := agg_of hu (by simp)
    refine ⟨(l0, l1, l2), tvr_cells e rfl fun j c u hc hu' => ?_, b0, b1, b2⟩
    match j, hc, hu' with
    | 0, hc, hu' | 1, hc, hu' | 2, hc, hu' =>
      simp at hc hu'
      subst hc hu'
      assumption
    | j + 3, hc, _ => simp at hc
theorem opens_u64 (ht : P.underlying t = some (.int .u64)) (h : DataW.Trod enc P w base spare held t v d ps) (hv : v.cells.toList.length = 1 → v.cells.toList = [v]) : ∃ n, TVR w (fun _ => False) (u64V n) v ∧ BoundU n := by
  obtain ⟨fuel, h⟩ := h
  obtain ⟨n, e, _, hw⟩ := DataW.trod_int ht h
  obtain ⟨m, rfl, hm⟩ := wf_u64 hw
  have := hv (by rw [e]; rfl)
  rw [e] at this
  simp at this
  subst this
  exact ⟨m, ⟨_, rfl, .int _ _⟩, hm⟩
theorem opens_u64s (ht : P.underlying t = some (.array 2 e)) (he : P.underlying e = some (.int .u64)) (hc : P.cellsOf e = 1) (hct : P.cellsOf t = 2) (h : DataW.Trod enc P w base spare held t v d ps) : ∃ l, TVR w (fun _ => False) (u642V l) v ∧ BoundUU l := by
  obtain ⟨fuel, h⟩ := h
  obtain ⟨xs, n, _, _, hl, hlen, hfs⟩ := trod_array ht h
  rw [hct] at hl
  rw [hc] at hfs
  match xs, hlen, hu : v.cells.toList, hl with
  | [y0, y1], _, [a, b], _ =>
    rw [hu] at hfs
    obtain ⟨p, e0, _, w0⟩ := DataW.trod_int he (hfs 0 (by omega))
    obtain ⟨q, e1, _, w1⟩ := DataW.trod_int he (hfs 1 (by omega))
    obtain ⟨p', rfl, hp⟩ := wf_u64 w0
    obtain ⟨q', rfl, hq⟩ := wf_u64 w1
    simp at e0 e1
    subst e0 e1
    obtain ⟨us, rfl, e⟩ := agg_of hu (by simp)
    refine ⟨(p', q'), tvr_cells e rfl fun j c u hc hu' => ?_, hp, hq⟩
    match j, hc, hu' with
    | 0, hc, hu' | 1, hc, hu' =>
      simp at hc hu'
      subst hc hu'
      exact .int _ _
    | j + 2, hc, _ => simp at hc
end
end Go.Proofs.YthcnpnogfblkcaaGreat.Abs

/- Contracts: numbers out of bytes; the graph of a description. -/
namespace Go.Proofs.YthcnpnogfblkcaaGreat
open Abs
set_option linter.unusedSimpArgs false
set_option linter.unusedVariables false
attribute [local simp] rn0 rn1 rn2 rn3 rn4 rn5 rn6 rn7 evOp nests Arg.ev St.val St.set St.new sliceOf binInt2 binInt AV.cells rdAt St.live retOf resOf resAll treeOf treeCell treeCells treeTups untree frameOf TV.av TR.av ints edgs prs fillV splice intsOf trees V1.tree bx Gr.v Pa.v opRd opWr opNew opNewR opArgs argsRd argRd Arg.rd AV.refs V1.refs refsL dstL

theorem nat_rem {a b : Nat} : ((a : Int)).tmod (b : Int) = ((a % b : Nat) : Int) := (Int.ofNat_tmod a b).symm
theorem nat_quo {a b : Nat} : ((a : Int)).tdiv (b : Int) = ((a / b : Nat) : Int) := (Int.ofNat_tdiv a b).symm
theorem rem2 {a : Nat} : ((a : Int)).tmod 2 = ((a % 2 : Nat) : Int) := nat_rem
theorem rem3 {a : Nat} : ((a : Int)).tmod 3 = ((a % 3 : Nat) : Int) := nat_rem
theorem quo2 {a : Nat} : ((a : Int)).tdiv 2 = ((a / 2 : Nat) : Int) := nat_quo
theorem quo16 {a : Nat} : ((a : Int)).tdiv 16 = ((a / 16 : Nat) : Int) := nat_quo
theorem wrap8 {a : Nat} (h : a < 256) : IntKind.u8.wrap (a : Int) = a := by
  simp [IntKind.wrap, IntKind.bits, IntKind.signed]
  omega

/-- The numbers that bytes mean, at least one. -/
def numsL (l : List Nat) : List Int := if l.length = 0 then [0] else l.map fun (x : Nat) => (x : Int)
def numK (l : List Nat) (k : Nat) : List Int := (l.take k).map fun (x : Nat) => (x : Int)
theorem numK_succ {l : List Nat} {k : Nat} (h : k < l.length) : numK l (k + 1) = numK l k ++ [(byth l k : Int)] := by
  rw [numK, List.take_succ_eq_append_getElem h, List.map_append, byth_eq h]
  rfl
theorem numK_len {l : List Nat} {k : Nat} (h : k ≤ l.length) : (numK l k).length = k := by simp [numK]; omega
theorem numsL_nat {l : List Nat} : (numsL l).length ≠ 0 := by
  unfold numsL
  split
  · simp
  · rename_i h
    rw [List.length_map]
    exact h

def c_numbers06 : MFunc := ⟨25, [.tmp 2], .seq (.region [⟨some 2, .mv (.c (.one .nil)), none⟩]) (.seq (.region [⟨some 5, .mkrow 64 3 1 0 [] [], none⟩, ⟨some 3, .mv (.tmp 5), none⟩]) (.seq (.seq (.region [⟨some 4, .mv (.c (.one (.t (.int .i64 0)))), none⟩]) (.block 0 (.loop (.seq (.seq (.region [⟨some 6, .mv (.tmp 4), none⟩, ⟨some 7, .mv (.tmp 0), none⟩, ⟨some 8, .len (.tmp 7), none⟩, ⟨some 9, .bin .lss (.tmp 6) (.tmp 8), none⟩]) (.cond (.tmp 9) .skip (.exit 0))) (.seq (.block 1 (.region [⟨some 12, .mv (.tmp 3), none⟩, ⟨some 13, .mv (.tmp 0), none⟩, ⟨some 14, .mv (.tmp 4), none⟩, ⟨some 15, .idxA 1 (.tmp 13) (.tmp 14), none⟩, ⟨some 16, .load false 1 (.tmp 15), none⟩, ⟨some 17, .conv .i64 (.tmp 16), none⟩, ⟨some 18, .mkrow 326 3 1 1 [.t (.int .i64 0)] [(0, (1, .tmp 17))], none⟩, ⟨some 19, .append 327 3 1 8 (.tmp 12) (.tmp 18), none⟩, ⟨some 3, .mv (.tmp 19), none⟩])) (.region [⟨some 10, .mv (.tmp 4), none⟩, ⟨some 11, .bin .add (.tmp 10) (.c (.one (.t (.int .i64 1)))), none⟩, ⟨some 4, .mv (.tmp 11), none⟩])))))) (.seq (.seq (.region [⟨some 20, .mv (.tmp 3), none⟩, ⟨some 21, .len (.tmp 20), none⟩, ⟨some 22, .bin .eql (.tmp 21) (.c (.one (.t (.int .i64 0)))), none⟩]) (.cond (.tmp 22) (.region [⟨some 23, .mkrow 448 3 1 1 [.t (.int .i64 0)] [(0, (1, .c (.one (.t (.int .i64 0)))))], none⟩, ⟨some 3, .mv (.tmp 23), none⟩]) .skip)) (.seq (.region [⟨some 24, .mv (.tmp 3), none⟩, ⟨some 2, .mv (.tmp 24), none⟩]) .ret))))⟩
theorem k_numbers06 : cFn Tryz.prog Tryz.f109 = some c_numbers06 := by kernel_rfl
theorem numbers06_ok (l : List Nat) (hl : l.length ≤ 1048576) (hs : ∀ x ∈ l, x < 256) : CallOK Tryz.prog 109 [byV l] (.sv (false, [ints (numsL l)])) := by
  refine callOK_W (callS_W (by kernel_rfl) Tryz.func109 k_numbers06 (callable_of Tryz.func109 (by kernel_rfl)) (by simp [c_numbers06]) ?_)
  simp [c_numbers06, byV, bys, len_byL]
  refine loopW_count 4 l.length (fun k S => S.fr 0 = .one (.t (bys l)) ∧ S.cnt 448 = 0 ∧ ∃ u, S.fr 3 = .one u ∧ outR 327 3 1 (numK l k).length ((numK l k).map (.int .i64)) S.ob (.one u)) (by omega) ?_ ?_ ?_
  · simp [bys, numK, outR_nil]
  · rintro k S hlt hw hc ⟨f0, n0, u, f3, hU⟩
    have q1 := numK_len (l := l) (k := k) (by omega)
    have w0 : IntKind.i64.wrap (byth l k : Int) = byth l k := by
      have := byth_small hs k
      rw [wrap64_id] <;> omega
    simp [f0, f3, hc, hlt, bys, len_byL, drop_byL hlt, w0]
    refine kApp_grow (ts := [.int .i64 (byth l k : Nat)]) rfl (hU.keep fun g => by simp) (by omega) rfl (by omega) (by omega) fun E3 hE3 hob3 hcnt3 => ?_
    obtain ⟨w, hu3⟩ := hE3.one
    rw [hu3] at hE3
    simp [f0, f3, hc, hw, hob3, hcnt3, hu3, bys, n0, numK_succ hlt]
    simpa using hE3
  · rintro S hc ⟨f0, n0, u, f3, hU⟩
    have q1 := numK_len (l := l) (k := l.length) (by omega)
    rcases hU with ⟨m1, m2, m3⟩ | ⟨m1, g1, m3, m4⟩
    · cases m3
      have z : l.length = 0 := by omega
      simp [f0, f3, hc, bys, len_byL, n0, numsL, z]
    · cases m3
      have z : ¬ l.length = 0 := by omega
      have e : numK l l.length = numsL l := by rw [numsL, if_neg z, numK, List.take_length]
      rw [e] at m4 q1
      have z2 : ¬ (numsL l).length = 0 := by omega
      have z3 : ¬ (numK l l.length).length = 0 := by rw [e]; exact z2
      simp [f0, f3, hc, bys, len_byL, n0, m4, z2, e]
      exact untreeI _

/-! ### Graphs of descriptions -/
def mdN (d : Dr) (k : Nat) : List Int := (List.range k).map fun i => ((byth d.nodes i % 3 : Nat) : Int)
def mdn (d : Dr) : Nat := min d.nodes.length 8
def mdX (d : Dr) (i : Nat) : Ed := ⟨((t3th d.edges i).a % 2 : Nat), ((t3th d.edges i).b % mdn d : Nat), ((t3th d.edges i).c % mdn d : Nat)⟩
def mdE (d : Dr) (k : Nat) : List Ed := (List.range k).map (mdX d)
def mde (d : Dr) : Nat := if mdn d = 0 then 0 else min d.edges.length 10
def mdG (d : Dr) : Gr := ⟨mdN d (mdn d), mdE d (mde d)⟩
theorem mdN_len {d : Dr} {k : Nat} : (mdN d k).length = k := by simp [mdN]
theorem mdE_len {d : Dr} {k : Nat} : (mdE d k).length = k := by simp [mdE]
theorem mdN_succ {d : Dr} {k : Nat} : mdN d (k + 1) = mdN d k ++ [((byth d.nodes k % 3 : Nat) : Int)] := by simp [mdN, List.range_succ]
theorem mdE_succ {d : Dr} {k : Nat} : mdE d (k + 1) = mdE d k ++ [mdX d k] := by simp [mdE, List.range_succ]

def c_made05 : MFunc := ⟨81, [.cell 2 true 2], .seq (.region [⟨some 1, .box 0 42 (.tmp 0), none⟩, ⟨some 2, .alloc 1 25 [.nil, .nil], none⟩]) (.seq (.region [⟨some 3, .alloc 64 25 [.nil, .nil], none⟩]) (.seq (.seq (.region [⟨some 4, .mv (.c (.one (.t (.int .i64 0)))), none⟩]) (.block 0 (.loop (.seq (.seq (.region [⟨some 7, .mv (.tmp 4), none⟩, ⟨some 8, .fieldA 0 (.tmp 1), none⟩, ⟨some 9, .load false 1 (.tmp 8), none⟩, ⟨some 10, .len (.tmp 9), none⟩, ⟨some 11, .bin .lss (.tmp 7) (.tmp 10), none⟩, ⟨some 12, .mv (.tmp 11), none⟩, ⟨some 13, .mv (.tmp 4), some (12, true)⟩, ⟨some 14, .bin .lss (.tmp 13) (.c (.one (.t (.int .i64 8)))), some (12, true)⟩, ⟨some 15, .pick (.tmp 12) (.tmp 14) (.c (.one (.t (.bool false)))), none⟩]) (.cond (.tmp 15) .skip (.exit 0))) (.seq (.block 1 (.draw [[], [0], [], [2], [], [3, 4], [5], [6], [7], [8], [1, 9], [0, 1, 2, 3, 4, 5, 6, 7, 8, 9, 10], [11, 10, 10, 0, 1, 2, 3, 4, 5, 6, 7, 8, 9, 10]] [⟨some 18, .fieldA 0 (.tmp 3), none⟩, ⟨some 19, .load false 1 (.tmp 18), none⟩, ⟨some 20, .fieldA 0 (.tmp 1), none⟩, ⟨some 21, .load false 1 (.tmp 20), none⟩, ⟨some 22, .mv (.tmp 4), none⟩, ⟨some 23, .idxA 1 (.tmp 21) (.tmp 22), none⟩, ⟨some 24, .load false 1 (.tmp 23), none⟩, ⟨some 25, .bin .rem (.tmp 24) (.c (.one (.t (.int .u8 3)))), none⟩, ⟨some 26, .conv .i64 (.tmp 25), none⟩, ⟨some 27, .mkrow 329 3 1 1 [.t (.int .i64 0)] [(0, (1, .tmp 26))], none⟩, ⟨some 28, .append 330 3 1 8 (.tmp 19) (.tmp 27), none⟩, ⟨some 29, .fieldA 0 (.tmp 3), none⟩, ⟨none, .store 1 (.tmp 29) (.tmp 28), none⟩])) (.region [⟨some 16, .mv (.tmp 4), none⟩, ⟨some 17, .bin .add (.tmp 16) (.c (.one (.t (.int .i64 1)))), none⟩, ⟨some 4, .mv (.tmp 17), none⟩])))))) (.seq (.region [⟨some 30, .fieldA 0 (.tmp 3), none⟩, ⟨some 31, .load false 1 (.tmp 30), none⟩, ⟨some 32, .len (.tmp 31), none⟩, ⟨some 5, .mv (.tmp 32), none⟩]) (.seq (.seq (.region [⟨some 6, .mv (.c (.one (.t (.int .i64 0)))), none⟩]) (.block 2 (.loop (.seq (.seq (.region [⟨some 33, .mv (.tmp 6), none⟩, ⟨some 34, .fieldA 1 (.tmp 1), none⟩, ⟨some 35, .load false 1 (.tmp 34), none⟩, ⟨some 36, .len (.tmp 35), none⟩, ⟨some 37, .bin .lss (.tmp 33) (.tmp 36), none⟩, ⟨some 38, .mv (.tmp 37), none⟩, ⟨some 39, .mv (.tmp 6), some (38, true)⟩, ⟨some 40, .bin .lss (.tmp 39) (.c (.one (.t (.int .i64 10)))), some (38, true)⟩, ⟨some 41, .pick (.tmp 38) (.tmp 40) (.c (.one (.t (.bool false)))), none⟩, ⟨some 42, .mv (.tmp 41), none⟩, ⟨some 43, .mv (.tmp 5), some (42, true)⟩, ⟨some 44, .bin .gtr (.tmp 43) (.c (.one (.t (.int .i64 0)))), some (42, true)⟩, ⟨some 45, .pick (.tmp 42) (.tmp 44) (.c (.one (.t (.bool false)))), none⟩]) (.cond (.tmp 45) .skip (.exit 2))) (.seq (.block 3 (.draw [[], [0], [], [2], [], [3, 4], [5], [6], [7], [8], [], [10], [], [11, 12], [13], [14], [15], [], [16, 17], [], [19], [], [20, 21], [22], [23], [24], [], [25, 26], [9, 18, 27], [28], [1, 29], [0, 1, 2, 3, 4, 5, 6, 7, 8, 9, 10, 11, 12, 13, 14, 15, 16, 17, 18, 19, 20, 21, 22, 23, 24, 25, 26, 27, 28, 29, 30], [31, 30, 30, 0, 1, 2, 3, 4, 5, 6, 7, 8, 9, 10, 11, 12, 13, 14, 15, 16, 17, 18, 19, 20, 21, 22, 23, 24, 25, 26, 27, 28, 29, 30]] [⟨some 48, .fieldA 1 (.tmp 3), none⟩, ⟨some 49, .load false 1 (.tmp 48), none⟩, ⟨some 50, .fieldA 1 (.tmp 1), none⟩, ⟨some 51, .load false 1 (.tmp 50), none⟩, ⟨some 52, .mv (.tmp 6), none⟩, ⟨some 53, .idxA 3 (.tmp 51) (.tmp 52), none⟩, ⟨some 54, .idxArr 3 1 (.tmp 53) (.c (.one (.t (.int .i64 0)))), none⟩, ⟨some 55, .load false 1 (.tmp 54), none⟩, ⟨some 56, .bin .rem (.tmp 55) (.c (.one (.t (.int .u8 2)))), none⟩, ⟨some 57, .conv .i64 (.tmp 56), none⟩, ⟨some 58, .fieldA 1 (.tmp 1), none⟩, ⟨some 59, .load false 1 (.tmp 58), none⟩, ⟨some 60, .mv (.tmp 6), none⟩, ⟨some 61, .idxA 3 (.tmp 59) (.tmp 60), none⟩, ⟨some 62, .idxArr 3 1 (.tmp 61) (.c (.one (.t (.int .i64 1)))), none⟩, ⟨some 63, .load false 1 (.tmp 62), none⟩, ⟨some 64, .conv .i64 (.tmp 63), none⟩, ⟨some 65, .mv (.tmp 5), none⟩, ⟨some 66, .bin .rem (.tmp 64) (.tmp 65), none⟩, ⟨some 67, .fieldA 1 (.tmp 1), none⟩, ⟨some 68, .load false 1 (.tmp 67), none⟩, ⟨some 69, .mv (.tmp 6), none⟩, ⟨some 70, .idxA 3 (.tmp 68) (.tmp 69), none⟩, ⟨some 71, .idxArr 3 1 (.tmp 70) (.c (.one (.t (.int .i64 2)))), none⟩, ⟨some 72, .load false 1 (.tmp 71), none⟩, ⟨some 73, .conv .i64 (.tmp 72), none⟩, ⟨some 74, .mv (.tmp 5), none⟩, ⟨some 75, .bin .rem (.tmp 73) (.tmp 74), none⟩, ⟨some 76, .build [.t (.int .i64 0), .t (.int .i64 0), .t (.int .i64 0)] [(0, (1, .tmp 57)), (1, (1, .tmp 66)), (2, (1, .tmp 75))], none⟩, ⟨some 77, .mkrow 669 76 3 1 [.t (.int .i64 0), .t (.int .i64 0), .t (.int .i64 0)] [(0, (3, .tmp 76))], none⟩, ⟨some 78, .append 670 76 3 24 (.tmp 49) (.tmp 77), none⟩, ⟨some 79, .fieldA 1 (.tmp 3), none⟩, ⟨none, .store 1 (.tmp 79) (.tmp 78), none⟩])) (.region [⟨some 46, .mv (.tmp 6), none⟩, ⟨some 47, .bin .add (.tmp 46) (.c (.one (.t (.int .i64 1)))), none⟩, ⟨some 6, .mv (.tmp 47), none⟩])))))) (.seq (.region [⟨some 80, .load true 2 (.tmp 3), none⟩, ⟨none, .store 2 (.tmp 2) (.tmp 80), none⟩]) .ret)))))⟩
theorem k_made05 : cFn Tryz.prog Tryz.f28 = some c_made05 := by kernel_rfl
set_option maxHeartbeats 4000000 in
set_option maxRecDepth 20000 in
theorem made05_ok (d : Dr) (hb : BoundD d) : CallOK Tryz.prog 28 [d.v] (.sv (mdG d).v) := by
  refine callOK_W (callS_W (by kernel_rfl) Tryz.func28 k_made05 (callable_of Tryz.func28 (by kernel_rfl)) (by simp [c_made05]) ?_)
  have l8 : mdn d ≤ 8 := by simp only [mdn]; omega
  have l9 : mdn d ≤ d.nodes.length := by simp only [mdn]; omega
  have l10 : mde d ≤ 10 := by simp only [mde]; split <;> omega
  have ml := hb.1.2
  have ml2 := hb.2.2
  simp [c_made05, Dr.v, bys, t3s]
  refine loopW_count 4 (mdn d) (fun k S => S.fr 1 = .one (.ptr (0, 0) 0) ∧ S.fr 2 = .one (.ptr (1, 0) 0) ∧ S.fr 3 = .one (.ptr (64, 0) 0) ∧
    S.ob (0, 0) = some (bx 42 (d.v.2.map .t)) ∧ S.ob (1, 0) = some (bx 25 [.nil, .nil]) ∧
    ∃ vN, S.ob (64, 0) = some (bx 25 [vN, .nil]) ∧ outR 330 3 1 (mdN d k).length ((mdN d k).map (.int .i64)) S.ob (.one vN)) (by omega) ?_ ?_ ?_
  · simp [mdN, outR_nil, Dr.v, bys, t3s]
  · rintro k S hlt hw hc ⟨f1, f2, f3, o0, o1, vN, o64, hN⟩
    have k1 : k < d.nodes.length := by omega
    have k2 : (k : Int) < 8 := by omega
    have w0 : IntKind.i64.wrap ((byth d.nodes k % 3 : Nat) : Int) = ((byth d.nodes k % 3 : Nat) : Int) := by rw [wrap64_id] <;> omega
    have q1 := mdN_len (d := d) (k := k)
    have hN0 := hN
    rcases hN0 with ⟨m1, m2, m3⟩ | ⟨m1, g1, m3, m4⟩
    all_goals
      cases m3
      simp [dw0, dw1, dw2, dw3, f1, f2, f3, o0, o1, o64, hc, Dr.v, bys, t3s, len_byL, k1, k2, drop_byL k1, rem3, w0, -Int.natCast_emod]
      refine kApp_grow (ts := [.int .i64 ((byth d.nodes k % 3 : Nat) : Int)]) rfl (hN.keep fun g => by simp) (by omega) rfl (by omega) (by omega) fun E3 hE3 hob3 hcnt3 => ?_
      obtain ⟨u, hu3⟩ := hE3.one
      rw [hu3] at hE3
      simp [dw0, dw1, dw2, dw3, f1, f2, f3, o0, o1, o64, hc, hw, hob3, hcnt3, hu3, mdN_succ, Dr.v, bys, t3s, -Int.natCast_emod]
      refine ⟨by kernel_rfl, ?_⟩
      try simp [f1, f2, f3, o0, o1, o64, hc, hw, hob3, hcnt3, hu3, mdN_succ, Dr.v, bys, t3s, -Int.natCast_emod]
      exact outR.keep (by simpa using hE3) fun g => by simp
  · rintro S hc ⟨f1, f2, f3, o0, o1, vN, o64, hN⟩
    have q1 := mdN_len (d := d) (k := mdn d)
    have stop : (mdn d < d.nodes.length ∧ ¬ (mdn d : Int) < 8) ∨ ¬ mdn d < d.nodes.length := by
      simp only [mdn]
      omega
    have hN0 := hN
    rcases hN0 with ⟨m1, m2, m3⟩ | ⟨m1, g1, m3, m4⟩
    · cases m3
      have z : mdn d = 0 := by omega
      have z2 : mde d = 0 := by simp [mde, z]
      have z3 : d.nodes.length = 0 := by simp only [mdn] at z; omega
      have e1 : mdG d = ⟨[], []⟩ := by simp [mdG, z, z2, mdN, mdE]
      rw [z] at hc
      rw [e1]
      simp [f1, f2, f3, o0, o1, o64, hc, Dr.v, bys, t3s, len_byL, z3]
      refine loopW_count 6 0 (fun k S => S.fr 1 = .one (.ptr (0, 0) 0) ∧ S.fr 2 = .one (.ptr (1, 0) 0) ∧ S.fr 3 = .one (.ptr (64, 0) 0) ∧ S.fr 5 = .one (.t (.int .i64 0)) ∧
        S.ob (0, 0) = some (bx 42 (d.v.2.map .t)) ∧ S.ob (1, 0) = some (bx 25 [.nil, .nil]) ∧ S.ob (64, 0) = some (bx 25 [.nil, .nil])) (by omega) ?_ ?_ ?_
      · simp [f1, f2, f3, o0, o1, o64, Dr.v, bys, t3s]
      · rintro k S hlt hw hc _
        omega
      · rintro S hc ⟨f1, f2, f3, f5, o0, o1, o64⟩
        by_cases y1 : 0 < d.edges.length
        · have y2 : 0 < d.edges.length := y1
          simp [f1, f2, f3, f5, o0, o1, o64, hc, Dr.v, bys, t3s, len_byL, y1, edL]
        · simp [f1, f2, f3, f5, o0, o1, o64, hc, Dr.v, bys, t3s, len_byL, y1, edL]
    · cases m3
      have z : 0 < mdn d := by omega
      have z2 : mde d = min d.edges.length 10 := by simp only [mde]; rw [if_neg (by omega)]
      have zw : IntKind.i64.wrap (mdn d : Int) = mdn d := by rw [wrap64_id] <;> omega
      rcases stop with ⟨y1, y2⟩ | y1
      all_goals
        first
        | simp [f1, f2, f3, o0, o1, o64, hc, Dr.v, bys, t3s, len_byL, y1, y2, m4]
        | simp [f1, f2, f3, o0, o1, o64, hc, Dr.v, bys, t3s, len_byL, y1, m4]
        refine loopW_count 6 (mde d) (fun k S => S.fr 1 = .one (.ptr (0, 0) 0) ∧ S.fr 2 = .one (.ptr (1, 0) 0) ∧ S.fr 3 = .one (.ptr (64, 0) 0) ∧ S.fr 5 = .one (.t (.int .i64 (mdn d))) ∧
          S.ob (0, 0) = some (bx 42 (d.v.2.map .t)) ∧ S.ob (1, 0) = some (bx 25 [.nil, .nil]) ∧ S.ob (330, g1) = some ⟨true, true, false, 1, mdn d, 3, ((mdN d (mdn d)).map (.int .i64)).map .t⟩ ∧
          ∃ vE, S.ob (64, 0) = some (bx 25 [.row (330, g1), vE]) ∧ outR 670 76 3 (mdE d k).length (edL (mdE d k)) S.ob (.one vE)) (by omega) ?_ ?_ ?_
        · simp [f1, f2, f3, o0, o1, o64, m4, q1, Dr.v, bys, t3s, mdE, edL, outR_nil]
        · rintro k S hlt hw hc ⟨f1, f2, f3, f5, o0, o1, o330, vE, o64, hE⟩
          have k1 : k < d.edges.length := by omega
          have k2 : (k : Int) < 10 := by omega
          have k3 : k * 3 < d.edges.length * 3 := by omega
          obtain ⟨s1, s2, s3⟩ := t3th_small hb.2.1 k
          have r1 := Nat.mod_lt (t3th d.edges k).b z
          have r2 := Nat.mod_lt (t3th d.edges k).c z
          have w1 : IntKind.i64.wrap (((t3th d.edges k).a % 2 : Nat) : Int) = (((t3th d.edges k).a % 2 : Nat) : Int) := by rw [wrap64_id] <;> omega
          have w2 : IntKind.i64.wrap ((t3th d.edges k).b : Int) = (t3th d.edges k).b := by rw [wrap64_id] <;> omega
          have w3 : IntKind.i64.wrap ((t3th d.edges k).c : Int) = (t3th d.edges k).c := by rw [wrap64_id] <;> omega
          have qe := mdE_len (d := d) (k := k)
          have zn : ¬ mdn d = 0 := by omega
          have hE0 := hE
          rcases hE0 with ⟨t1, t2, t3⟩ | ⟨t1, g2, t3, t4⟩
          all_goals
            cases t3
            simp [dw0, dw1, dw2, dw3, f1, f2, f3, f5, o0, o1, o330, o64, hc, Dr.v, bys, t3s, len_t3L, k1, k2, k3, drop_t3L k1, rem2, nat_rem, w1, w2, w3, z, zn, -Int.natCast_emod]
            refine kApp_grow (ts := edC (mdX d k)) rfl (hE.keep fun g => by simp) (by omega) rfl (by omega) (by omega) fun E3 hE3 hob3 hcnt3 => ?_
            obtain ⟨u, hu3⟩ := hE3.one
            rw [hu3] at hE3
            simp [dw0, dw1, dw2, dw3, f1, f2, f3, f5, o0, o1, o330, o64, hc, hw, hob3, hcnt3, hu3, mdE_succ, Dr.v, bys, t3s]
            refine ⟨by kernel_rfl, ?_⟩
            try simp [f1, f2, f3, f5, o0, o1, o330, o64, hc, hw, hob3, hcnt3, hu3, mdE_succ, Dr.v, bys, t3s]
            refine outR.keep (by simpa [edL] using hE3) fun g => by simp
        · rintro S hc ⟨f1, f2, f3, f5, o0, o1, o330, vE, o64, hE⟩
          have qe := mdE_len (d := d) (k := mde d)
          have stop2 : (mde d < d.edges.length ∧ ¬ (mde d : Int) < 10) ∨ ¬ mde d < d.edges.length := by
            rw [z2]
            omega
          have hE0 := hE
          rcases hE0 with ⟨t1, t2, t3⟩ | ⟨t1, g2, t3, t4⟩
          all_goals
            cases t3
            rcases stop2 with ⟨u1, u2⟩ | u1
            all_goals
              first
              | simp [f1, f2, f3, f5, o0, o1, o330, o64, hc, Dr.v, bys, t3s, len_t3L, u1, u2, z, mdG, q1, qe, t4, untreeI, untreeT]
              | simp [f1, f2, f3, f5, o0, o1, o330, o64, hc, Dr.v, bys, t3s, len_t3L, u1, z, mdG, q1, qe, t4, untreeI, untreeT]
              | simp [f1, f2, f3, f5, o0, o1, o330, o64, hc, Dr.v, bys, t3s, len_t3L, u1, u2, z, mdG, q1, qe, t2, untreeI, untreeT]
              | simp [f1, f2, f3, f5, o0, o1, o330, o64, hc, Dr.v, bys, t3s, len_t3L, u1, z, mdG, q1, qe, t2, untreeI, untreeT]
              try omega
end Go.Proofs.YthcnpnogfblkcaaGreat

/- Contract: the image of a graph that numbers describe. -/
namespace Go.Proofs.YthcnpnogfblkcaaGreat
open Abs
set_option linter.unusedSimpArgs false
set_option linter.unusedVariables false
attribute [local simp] rn0 rn1 rn2 rn3 rn4 rn5 rn6 rn7 evOp nests Arg.ev St.val St.set St.new sliceOf binInt2 binInt AV.cells rdAt St.live retOf resOf resAll treeOf treeCell treeCells treeTups untree frameOf TV.av TR.av ints edgs prs fillV splice intsOf trees V1.tree bx Gr.v Pa.v opRd opWr opNew opNewR opArgs argsRd argRd Arg.rd AV.refs V1.refs refsL dstL

/-- A number out of a list that is read round and round. -/
def rnd (c : List Int) (j : Nat) : Nat := (nth c (j % c.length)).toNat
def Nums (c : List Int) : Prop := c.length ≠ 0 ∧ ∀ x ∈ c, 0 ≤ x ∧ x < 256
theorem rnd_at {c : List Int} (h : Nums c) (j : Nat) : j % c.length < c.length ∧ nth c (j % c.length) = (rnd c j : Nat) ∧ rnd c j < 256 := by
  have h1 := Nat.mod_lt j (Nat.pos_of_ne_zero h.1)
  have := h.2 _ (nth_mem h1)
  exact ⟨h1, by simp only [rnd]; omega, by simp only [rnd]; omega⟩
theorem numsL_ok {l : List Nat} (hs : ∀ x ∈ l, x < 256) : Nums (numsL l) := by
  refine ⟨numsL_nat, fun x hx => ?_⟩
  unfold numsL at hx
  split at hx
  · simp at hx; omega
  · obtain ⟨y, hy, rfl⟩ := List.mem_map.1 hx
    have := hs y hy
    omega

/-- The pairs of nodes that are put together. -/
def imF (g : Gr) (c : List Int) (j : Nat) : Option (Int × Int) :=
  if rnd c (j + 1) % (j + 2) < j + 1 ∧ nth g.nodes (rnd c (j + 1) % (j + 2)) = nth g.nodes (j + 1) then some (((rnd c (j + 1) % (j + 2) : Nat) : Int), ((j + 1 : Nat) : Int)) else none
def imL (g : Gr) (c : List Int) (k : Nat) : List (Int × Int) := collect (imF g c) k
def imP (g : Gr) (c : List Int) (k : Nat) : List Int := genL g.nodes.length (imL g c k)
theorem imL_in {g : Gr} {c : List Int} {k : Nat} (h : k + 1 ≤ g.nodes.length ∨ k = 0) : pairsIn (imL g c k) g.nodes.length := fun q hq => by
  obtain ⟨j, hj, e⟩ := mem_collect.1 hq
  unfold imF at e
  split at e
  · rename_i h1
    injection e with e
    subst e
    have := h1.1
    simp only
    omega
  · cases e
theorem imL_same {g : Gr} {c : List Int} {k : Nat} : ∀ q ∈ imL g c k, nth g.nodes q.1.toNat = nth g.nodes q.2.toNat := fun q hq => by
  obtain ⟨j, hj, e⟩ := mem_collect.1 hq
  unfold imF at e
  split at e
  · rename_i h1
    injection e with e
    subst e
    exact h1.2
  · cases e
theorem imP_len {g : Gr} {c : List Int} {k : Nat} : (imP g c k).length = g.nodes.length := genL_len
theorem imP_flat {g : Gr} {c : List Int} {k : Nat} (h : k + 1 ≤ g.nodes.length ∨ k = 0) : Flat (imP g c k) := genL_flat (imL_in h)
theorem imP_zero {g : Gr} {c : List Int} : imP g c 0 = idL g.nodes.length := rfl
theorem imP_some {g : Gr} {c : List Int} {k a b : Nat} (h : imF g c k = some ((a : Int), (b : Int))) : imP g c (k + 1) = mergeL (imP g c k) a b := by
  rw [imP, imL, collect_some h, genL, List.foldl_append]
  rfl
theorem imP_none {g : Gr} {c : List Int} {k : Nat} (h : imF g c k = none) : imP g c (k + 1) = imP g c k := by
  rw [imP, imL, collect_none h]
  rfl

/-- The edges. -/
def imX (g : Gr) (q : List Int) (i : Nat) : Ed := ⟨(eth g.edges i).t, nth q (eth g.edges i).f.toNat, nth q (eth g.edges i).g.toNat⟩
def okC (c : List Int) (i k : Nat) : Prop := rnd c (i + k) % 2 = 0
instance (c : List Int) (i k : Nat) : Decidable (okC c i k) := inferInstanceAs (Decidable (_ = _))
def imAt (E : List Ed) (x : Ed) (c : List Int) (i : Nat) : Nat → Int
  | 0 => -1
  | k + 1 => if eth E k = x ∧ okC c i k then (k : Int) else imAt E x c i k
def imS (g : Gr) (c q : List Int) : Nat → List Ed × List Int
  | 0 => ([], [])
  | i + 1 => if imAt (imS g c q i).1 (imX g q i) c i (imS g c q i).1.length < 0 then ((imS g c q i).1 ++ [imX g q i], (imS g c q i).2 ++ [((imS g c q i).1.length : Int)])
    else ((imS g c q i).1, (imS g c q i).2 ++ [imAt (imS g c q i).1 (imX g q i) c i (imS g c q i).1.length])
theorem imS_len {g : Gr} {c q : List Int} : ∀ i, (imS g c q i).1.length ≤ i ∧ (imS g c q i).2.length = i
  | 0 => ⟨Nat.le_refl _, rfl⟩
  | i + 1 => by
    obtain ⟨h1, h2⟩ := imS_len (g := g) (c := c) (q := q) i
    unfold imS
    split <;> simp <;> omega
theorem imAt_lt {E : List Ed} {x : Ed} {c : List Int} {i : Nat} : ∀ k, -1 ≤ imAt E x c i k ∧ imAt E x c i k < k
  | 0 => ⟨by simp [imAt], by simp [imAt]⟩
  | k + 1 => by
    have := imAt_lt (E := E) (x := x) (c := c) (i := i) k
    unfold imAt
    split <;> omega
def imT (g : Gr) (c : List Int) : List Int := imP g c (g.nodes.length - 1)
def imQ (g : Gr) (c : List Int) : List Int := quotL (imT g c)
def imG (g : Gr) (c : List Int) : Gr := ⟨collect (clsF (imT g c) (nth g.nodes)) g.nodes.length, (imS g c (imQ g c) g.edges.length).1⟩
def imM (g : Gr) (c : List Int) : Pa := ⟨imQ g c, (imS g c (imQ g c) g.edges.length).2⟩

theorem drop_edLR {l : List Ed} {k : Nat} (h : k < l.length) : ((edL l).map V1.t).drop (k * 3) = .t (.int .i64 (eth l k).t) :: .t (.int .i64 (eth l k).f) :: .t (.int .i64 (eth l k).g) :: (edL (l.drop (k + 1))).map V1.t := by
  rw [← List.map_drop, drop_edL h]
  rfl

def c_image06 : MFunc := ⟨172, [.cell 4 true 2, .cell 5 true 2], .seq (.region [⟨some 2, .box 0 25 (.tmp 0), none⟩, ⟨some 4, .alloc 1 25 [.nil, .nil], none⟩, ⟨some 5, .alloc 2 27 [.nil, .nil], none⟩]) (.seq (.region [⟨some 20, .mv (.tmp 1), none⟩, ⟨some 21, .call (.c (.one (.fn 109 []))) 65 [.tmp 20], none⟩, ⟨some 6, .mv (.tmp 21), none⟩]) (.seq (.region [⟨some 22, .fieldA 0 (.tmp 2), none⟩, ⟨some 23, .load false 1 (.tmp 22), none⟩, ⟨some 24, .len (.tmp 23), none⟩, ⟨some 25, .call (.c (.one (.fn 105 []))) 131 [.tmp 24], none⟩, ⟨some 7, .mv (.tmp 25), none⟩]) (.seq (.seq (.region [⟨some 8, .mv (.c (.one (.t (.int .i64 1)))), none⟩]) (.block 0 (.loop (.seq (.seq (.region [⟨some 26, .mv (.tmp 8), none⟩, ⟨some 27, .fieldA 0 (.tmp 2), none⟩, ⟨some 28, .load false 1 (.tmp 27), none⟩, ⟨some 29, .len (.tmp 28), none⟩, ⟨some 30, .bin .lss (.tmp 26) (.tmp 29), none⟩]) (.cond (.tmp 30) .skip (.exit 0))) (.seq (.block 1 (.seq (.region [⟨some 33, .mv (.tmp 6), none⟩, ⟨some 34, .mv (.tmp 8), none⟩, ⟨some 35, .mv (.tmp 6), none⟩, ⟨some 36, .len (.tmp 35), none⟩, ⟨some 37, .bin .rem (.tmp 34) (.tmp 36), none⟩, ⟨some 38, .idxA 1 (.tmp 33) (.tmp 37), none⟩, ⟨some 39, .load false 1 (.tmp 38), none⟩, ⟨some 40, .mv (.tmp 8), none⟩, ⟨some 41, .bin .add (.tmp 40) (.c (.one (.t (.int .i64 1)))), none⟩, ⟨some 42, .bin .rem (.tmp 39) (.tmp 41), none⟩, ⟨some 9, .mv (.tmp 42), none⟩]) (.seq (.draw [[], [], [0, 1], [2], [3], [4, 3], [3], [5, 6, 3], [7, 3], [3], [9, 3], [3], [10, 11, 3], [12, 3], [8, 13, 3], [3, 14]] [⟨some 43, .mv (.tmp 9), none⟩, ⟨some 44, .mv (.tmp 8), none⟩, ⟨some 45, .bin .lss (.tmp 43) (.tmp 44), none⟩, ⟨some 46, .mv (.tmp 45), none⟩, ⟨some 47, .fieldA 0 (.tmp 2), some (46, true)⟩, ⟨some 48, .load false 1 (.tmp 47), some (46, true)⟩, ⟨some 49, .mv (.tmp 9), some (46, true)⟩, ⟨some 50, .idxA 1 (.tmp 48) (.tmp 49), some (46, true)⟩, ⟨some 51, .load false 1 (.tmp 50), some (46, true)⟩, ⟨some 52, .fieldA 0 (.tmp 2), some (46, true)⟩, ⟨some 53, .load false 1 (.tmp 52), some (46, true)⟩, ⟨some 54, .mv (.tmp 8), some (46, true)⟩, ⟨some 55, .idxA 1 (.tmp 53) (.tmp 54), some (46, true)⟩, ⟨some 56, .load false 1 (.tmp 55), some (46, true)⟩, ⟨some 57, .bin .eql (.tmp 51) (.tmp 56), some (46, true)⟩, ⟨some 58, .pick (.tmp 46) (.tmp 57) (.c (.one (.t (.bool false)))), none⟩]) (.cond (.tmp 58) (.region [⟨some 59, .mv (.tmp 7), none⟩, ⟨some 60, .mv (.tmp 9), none⟩, ⟨some 61, .mv (.tmp 8), none⟩, ⟨some 62, .call (.c (.one (.fn 110 []))) 515 [.tmp 59, .tmp 60, .tmp 61], none⟩, ⟨some 7, .mv (.tmp 62), none⟩]) .skip)))) (.region [⟨some 31, .mv (.tmp 8), none⟩, ⟨some 32, .bin .add (.tmp 31) (.c (.one (.t (.int .i64 1)))), none⟩, ⟨some 8, .mv (.tmp 32), none⟩])))))) (.seq (.region [⟨some 64, .mv (.tmp 7), none⟩, ⟨some 65, .call (.c (.one (.fn 111 []))) 577 [.tmp 64], none⟩, ⟨some 63, .mv (.tmp 65), none⟩, ⟨some 66, .extract (.tmp 63) 0, none⟩, ⟨some 67, .extract (.tmp 63) 1, none⟩, ⟨some 68, .extract (.tmp 63) 2, none⟩, ⟨some 10, .mv (.tmp 66), none⟩, ⟨some 11, .mv (.tmp 67), none⟩, ⟨some 12, .mv (.tmp 68), none⟩]) (.seq (.region [⟨some 69, .mv (.tmp 11), none⟩, ⟨some 70, .make 641 3 1 8 [.t (.int .i64 0)] (.tmp 69) (.tmp 69), none⟩, ⟨some 71, .build [.nil, .nil] [(0, (1, .tmp 70))], none⟩, ⟨some 13, .alloc 643 25 [.nil, .nil], none⟩, ⟨none, .store 2 (.tmp 13) (.tmp 71), none⟩]) (.seq (.region [⟨some 72, .mv (.tmp 10), none⟩, ⟨some 73, .build [.nil, .nil] [(0, (1, .tmp 72))], none⟩, ⟨some 14, .alloc 706 27 [.nil, .nil], none⟩, ⟨none, .store 2 (.tmp 14) (.tmp 73), none⟩]) (.seq (.seq (.region [⟨some 15, .mv (.c (.one (.t (.int .i64 0)))), none⟩]) (.block 2 (.loop (.seq (.seq (.region [⟨some 74, .mv (.tmp 15), none⟩, ⟨some 75, .fieldA 0 (.tmp 2), none⟩, ⟨some 76, .load false 1 (.tmp 75), none⟩, ⟨some 77, .len (.tmp 76), none⟩, ⟨some 78, .bin .lss (.tmp 74) (.tmp 77), none⟩]) (.cond (.tmp 78) .skip (.exit 2))) (.seq (.block 3 (.draw [[], [0], [], [], [2, 3], [4], [], [6], [], [7, 8], [9], [1, 5, 0, 1, 2, 3, 4, 5, 6, 7, 8, 9, 10], [11, 10, 0, 1, 2, 3, 4, 5, 6, 7, 8, 9, 10]] [⟨some 81, .fieldA 0 (.tmp 13), none⟩, ⟨some 82, .load false 1 (.tmp 81), none⟩, ⟨some 83, .mv (.tmp 10), none⟩, ⟨some 84, .mv (.tmp 15), none⟩, ⟨some 85, .idxA 1 (.tmp 83) (.tmp 84), none⟩, ⟨some 86, .load false 1 (.tmp 85), none⟩, ⟨some 87, .fieldA 0 (.tmp 2), none⟩, ⟨some 88, .load false 1 (.tmp 87), none⟩, ⟨some 89, .mv (.tmp 15), none⟩, ⟨some 90, .idxA 1 (.tmp 88) (.tmp 89), none⟩, ⟨some 91, .load false 1 (.tmp 90), none⟩, ⟨some 92, .idxA 1 (.tmp 82) (.tmp 86), none⟩, ⟨none, .store 1 (.tmp 92) (.tmp 91), none⟩])) (.region [⟨some 79, .mv (.tmp 15), none⟩, ⟨some 80, .bin .add (.tmp 79) (.c (.one (.t (.int .i64 1)))), none⟩, ⟨some 15, .mv (.tmp 80), none⟩])))))) (.seq (.seq (.region [⟨some 16, .mv (.c (.one (.t (.int .i64 0)))), none⟩]) (.block 4 (.loop (.seq (.seq (.region [⟨some 93, .mv (.tmp 16), none⟩, ⟨some 94, .fieldA 1 (.tmp 2), none⟩, ⟨some 95, .load false 1 (.tmp 94), none⟩, ⟨some 96, .len (.tmp 95), none⟩, ⟨some 97, .bin .lss (.tmp 93) (.tmp 96), none⟩]) (.cond (.tmp 97) .skip (.exit 4))) (.seq (.block 5 (.seq (.draw [[], [0], [], [1, 2], [3], [4], [], [], [7], [], [8, 9], [10], [11], [6, 12], [13], [], [], [16], [], [17, 18], [19], [20], [15, 21], [22], [5, 14, 23], [], [25, 24, 0, 1, 2, 3, 4, 5, 6, 7, 8, 9, 10, 11, 12, 13, 14, 15, 16, 17, 18, 19, 20, 21, 22, 23, 24, 25]] [⟨some 100, .fieldA 1 (.tmp 2), none⟩, ⟨some 101, .load false 1 (.tmp 100), none⟩, ⟨some 102, .mv (.tmp 16), none⟩, ⟨some 103, .idxA 3 (.tmp 101) (.tmp 102), none⟩, ⟨some 104, .fieldA 0 (.tmp 103), none⟩, ⟨some 105, .load false 1 (.tmp 104), none⟩, ⟨some 106, .mv (.tmp 10), none⟩, ⟨some 107, .fieldA 1 (.tmp 2), none⟩, ⟨some 108, .load false 1 (.tmp 107), none⟩, ⟨some 109, .mv (.tmp 16), none⟩, ⟨some 110, .idxA 3 (.tmp 108) (.tmp 109), none⟩, ⟨some 111, .fieldA 1 (.tmp 110), none⟩, ⟨some 112, .load false 1 (.tmp 111), none⟩, ⟨some 113, .idxA 1 (.tmp 106) (.tmp 112), none⟩, ⟨some 114, .load false 1 (.tmp 113), none⟩, ⟨some 115, .mv (.tmp 10), none⟩, ⟨some 116, .fieldA 1 (.tmp 2), none⟩, ⟨some 117, .load false 1 (.tmp 116), none⟩, ⟨some 118, .mv (.tmp 16), none⟩, ⟨some 119, .idxA 3 (.tmp 117) (.tmp 118), none⟩, ⟨some 120, .fieldA 2 (.tmp 119), none⟩, ⟨some 121, .load false 1 (.tmp 120), none⟩, ⟨some 122, .idxA 1 (.tmp 115) (.tmp 121), none⟩, ⟨some 123, .load false 1 (.tmp 122), none⟩, ⟨some 124, .build [.t (.int .i64 0), .t (.int .i64 0), .t (.int .i64 0)] [(0, (1, .tmp 105)), (1, (1, .tmp 114)), (2, (1, .tmp 123))], none⟩, ⟨some 17, .alloc 1241 76 [.t (.int .i64 0), .t (.int .i64 0), .t (.int .i64 0)], none⟩, ⟨none, .store 3 (.tmp 17) (.tmp 124), none⟩]) (.seq (.region [⟨some 18, .mv (.c (.one (.t (.int .i64 (-1))))), none⟩]) (.seq (.seq (.region [⟨some 19, .mv (.c (.one (.t (.int .i64 0)))), none⟩]) (.block 6 (.loop (.seq (.seq (.region [⟨some 125, .mv (.tmp 19), none⟩, ⟨some 126, .fieldA 1 (.tmp 13), none⟩, ⟨some 127, .load false 1 (.tmp 126), none⟩, ⟨some 128, .len (.tmp 127), none⟩, ⟨some 129, .bin .lss (.tmp 125) (.tmp 128), none⟩]) (.cond (.tmp 129) .skip (.exit 6))) (.seq (.block 7 (.seq (.draw [[], [0], [], [1, 2], [3], [], [4, 5], [6], [7], [7], [7], [9, 10, 7], [7], [12, 7], [11, 13, 7], [8, 14, 7], [15, 7], [16, 7], [17, 7], [7, 18]] [⟨some 132, .fieldA 1 (.tmp 13), none⟩, ⟨some 133, .load false 1 (.tmp 132), none⟩, ⟨some 134, .mv (.tmp 19), none⟩, ⟨some 135, .idxA 3 (.tmp 133) (.tmp 134), none⟩, ⟨some 136, .load true 3 (.tmp 135), none⟩, ⟨some 137, .load true 3 (.tmp 17), none⟩, ⟨some 138, .eqS false 3 (.tmp 136) (.tmp 137), none⟩, ⟨some 139, .mv (.tmp 138), none⟩, ⟨some 140, .mv (.tmp 6), some (139, true)⟩, ⟨some 141, .mv (.tmp 16), some (139, true)⟩, ⟨some 142, .mv (.tmp 19), some (139, true)⟩, ⟨some 143, .bin .add (.tmp 141) (.tmp 142), some (139, true)⟩, ⟨some 144, .mv (.tmp 6), some (139, true)⟩, ⟨some 145, .len (.tmp 144), some (139, true)⟩, ⟨some 146, .bin .rem (.tmp 143) (.tmp 145), some (139, true)⟩, ⟨some 147, .idxA 1 (.tmp 140) (.tmp 146), some (139, true)⟩, ⟨some 148, .load false 1 (.tmp 147), some (139, true)⟩, ⟨some 149, .bin .rem (.tmp 148) (.c (.one (.t (.int .i64 2)))), some (139, true)⟩, ⟨some 150, .bin .eql (.tmp 149) (.c (.one (.t (.int .i64 0)))), some (139, true)⟩, ⟨some 151, .pick (.tmp 139) (.tmp 150) (.c (.one (.t (.bool false)))), none⟩]) (.cond (.tmp 151) (.region [⟨some 152, .mv (.tmp 19), none⟩, ⟨some 18, .mv (.tmp 152), none⟩]) .skip))) (.region [⟨some 130, .mv (.tmp 19), none⟩, ⟨some 131, .bin .add (.tmp 130) (.c (.one (.t (.int .i64 1)))), none⟩, ⟨some 19, .mv (.tmp 131), none⟩])))))) (.seq (.seq (.region [⟨some 153, .mv (.tmp 18), none⟩, ⟨some 154, .bin .lss (.tmp 153) (.c (.one (.t (.int .i64 0)))), none⟩]) (.cond (.tmp 154) (.seq (.region [⟨some 155, .fieldA 1 (.tmp 13), none⟩, ⟨some 156, .load false 1 (.tmp 155), none⟩, ⟨some 157, .len (.tmp 156), none⟩, ⟨some 18, .mv (.tmp 157), none⟩]) (.region [⟨some 158, .fieldA 1 (.tmp 13), none⟩, ⟨some 159, .load false 1 (.tmp 158), none⟩, ⟨some 160, .load true 3 (.tmp 17), none⟩, ⟨some 161, .mkrow 1795 76 3 1 [.t (.int .i64 0), .t (.int .i64 0), .t (.int .i64 0)] [(0, (3, .tmp 160))], none⟩, ⟨some 162, .append 1796 76 3 24 (.tmp 159) (.tmp 161), none⟩, ⟨some 163, .fieldA 1 (.tmp 13), none⟩, ⟨none, .store 1 (.tmp 163) (.tmp 162), none⟩])) .skip)) (.region [⟨some 164, .fieldA 1 (.tmp 14), none⟩, ⟨some 165, .load false 1 (.tmp 164), none⟩, ⟨some 166, .mv (.tmp 18), none⟩, ⟨some 167, .mkrow 1859 3 1 1 [.t (.int .i64 0)] [(0, (1, .tmp 166))], none⟩, ⟨some 168, .append 1860 3 1 8 (.tmp 165) (.tmp 167), none⟩, ⟨some 169, .fieldA 1 (.tmp 14), none⟩, ⟨none, .store 1 (.tmp 169) (.tmp 168), none⟩])))))) (.region [⟨some 98, .mv (.tmp 16), none⟩, ⟨some 99, .bin .add (.tmp 98) (.c (.one (.t (.int .i64 1)))), none⟩, ⟨some 16, .mv (.tmp 99), none⟩])))))) (.seq (.draw [[], [], [0, 0], [1, 2, 0, 1, 2]] [⟨some 170, .load true 2 (.tmp 13), none⟩, ⟨some 171, .load true 2 (.tmp 14), none⟩, ⟨none, .store 2 (.tmp 4) (.tmp 170), none⟩, ⟨none, .store 2 (.tmp 5) (.tmp 171), none⟩]) .ret)))))))))⟩
theorem k_image06 : cFn Tryz.prog Tryz.f70 = some c_image06 := by kernel_rfl
set_option maxHeartbeats 8000000 in
set_option maxRecDepth 20000 in
theorem image06_ok (g : Gr) (l : List Nat) (gg : GrOk g) (hl : l.length ≤ 1048576) (hs : ∀ x ∈ l, x < 256) : CallOK Tryz.prog 70 [g.v, byV l] (.tup [(imG g (numsL l)).v, (imM g (numsL l)).v]) := by
  refine callOK_W (callS_W (by kernel_rfl) Tryz.func70 k_image06 (callable_of Tryz.func70 (by kernel_rfl)) (by simp [c_image06]) ?_)
  have b1 := gg.n
  have b2 := gg.e
  simp [c_image06, byV, bys]
  refine callS_tree (numbers06_ok l hl hs) ?_ ?_ ?_
  · rfl
  · rfl
  have nc := numsL_ok hs
  have cl : (numsL l).length ≤ 1048576 := by
    unfold numsL
    split
    · simp
    · simpa using hl
  generalize numsL l = c at nc cl ⊢
  have c0 := nc.1
  have c1 : ¬ c = [] := fun h => c0 (by rw [h]; rfl)
  simp
  refine callS_tree (finest02_row g.nodes.length (by show _ ≤ _; omega)).ok ?_ ?_ ?_
  · rfl
  · rfl
  simp
  have im1 : 1 ≤ max 1 g.nodes.length := by omega
  refine loopW_from 8 1 (max 1 g.nodes.length) (fun k S => S.fr 2 = .one (.ptr (0, 0) 0) ∧ S.fr 4 = .one (.ptr (1, 0) 0) ∧ S.fr 5 = .one (.ptr (2, 0) 0) ∧ S.fr 6 = .one (.t (ints c)) ∧ S.fr 7 = .one (.t (ints (imP g c (k - 1)))) ∧
    S.ob (0, 0) = some (bx 25 (g.v.2.map .t)) ∧ S.ob (1, 0) = some (bx 25 [.nil, .nil]) ∧ S.ob (2, 0) = some (bx 27 [.nil, .nil]) ∧ S.cnt 641 = 0 ∧ S.cnt 643 = 0 ∧ S.cnt 706 = 0) im1 (by omega) ?_ ?_ ?_
  · simp [imP_zero, idL_len]
  · rintro i S h1 hlt hw hc ⟨f2, f4, f5, f6, f7, o0, o1, o2, n1, n2, n3⟩
    have k1 : i < g.nodes.length := by omega
    obtain ⟨j, hj⟩ : ∃ j, i = j + 1 := ⟨i - 1, by omega⟩
    have hj1 : i - 1 = j := by omega
    rw [hj1] at f7
    have pl := imP_len (g := g) (c := c) (k := j)
    obtain ⟨r1, r2, r3⟩ := rnd_at nc i
    obtain ⟨m, hm⟩ : ∃ m, m = i % c.length := ⟨_, rfl⟩
    obtain ⟨v, hv⟩ : ∃ v, v = rnd c i := ⟨_, rfl⟩
    obtain ⟨k, hk⟩ : ∃ k, k = v % (i + 1) := ⟨_, rfl⟩
    have r4 : k < i + 1 := by rw [hk]; exact Nat.mod_lt _ (by omega)
    have e1 : (i : Int).tmod (c.length : Int) = (m : Int) := by rw [hm]; exact nat_rem
    have e2 : (v : Int).tmod ((i : Int) + 1) = (k : Int) := by rw [hk]; exact nat_rem (b := i + 1)
    have e3 : ¬ ((i : Int) + 1 = 0) := by omega
    rw [← hm] at r1 r2
    rw [← hv] at r2 r3
    have k2 : k < g.nodes.length := by omega
    have imf : imF g c j = if k < i ∧ nth g.nodes k = nth g.nodes i then some ((k : Int), (i : Int)) else none := by
      simp only [imF, ← hj, ← hv]
      rw [show j + 2 = i + 1 by omega, ← hk]
    have w1 : IntKind.i64.wrap ((i : Int) + 1) = (i : Int) + 1 := by rw [wrap64_id] <;> omega
    simp [dw0, dw1, dw2, dw3, f2, f4, f5, f6, f7, o0, o1, o2, hc, k1, c1, e1, r1, drop_nth r1, r2, w1, e2, e3]
    by_cases h1 : k < i
    · by_cases h2 : nth g.nodes k = nth g.nodes i
      · rw [if_pos ⟨h1, h2⟩] at imf
        have ps : imP g c i = mergeL (imP g c j) k i := by rw [hj] at imf ⊢; exact imP_some imf
        simp [dw0, dw1, dw2, dw3, f2, f4, f5, f6, f7, o0, o1, o2, hc, k1, c1, e1, r1, drop_nth r1, r2, w1, e2, e3, h1, k2, drop_nth k2, drop_nth k1, h2]
        refine ⟨by kernel_rfl, ?_⟩
        refine callS_tree (merge02_row (imP g c j) k i (by omega) (by omega) (by show _ ≤ _; omega)).ok ?_ ?_ ?_
        · rfl
        · rfl
        rw [← ps]
        simp [f2, f4, f5, f6, f7, o0, o1, o2, n1, n2, n3, hc, w1]
      · rw [if_neg fun h => h2 h.2] at imf
        have ps : imP g c i = imP g c j := by rw [hj]; exact imP_none imf
        simp [dw0, dw1, dw2, dw3, f2, f4, f5, f6, f7, o0, o1, o2, n1, n2, n3, hc, k1, c1, e1, r1, drop_nth r1, r2, w1, e2, e3, h1, k2, drop_nth k2, drop_nth k1, h2, ps]
        first | kernel_rfl | rfl | trace_state
    · rw [if_neg fun h => h1 h.1] at imf
      have ps : imP g c i = imP g c j := by rw [hj]; exact imP_none imf
      simp [dw0, dw1, dw2, dw3, f2, f4, f5, f6, f7, o0, o1, o2, n1, n2, n3, hc, k1, c1, e1, r1, drop_nth r1, r2, w1, e2, e3, h1, ps]
      first | kernel_rfl | rfl | trace_state
  · rintro S hc ⟨f2, f4, f5, f6, f7, o0, o1, o2, n1, n2, n3⟩
    have ex : ¬ max 1 g.nodes.length < g.nodes.length := by omega
    have mx : max 1 g.nodes.length - 1 = g.nodes.length - 1 := by omega
    rw [mx] at f7
    have hp : Flat (imT g c) := imP_flat (by omega)
    have lp : (imT g c).length = g.nodes.length := imP_len
    have hcon : ∀ i, i < g.nodes.length → nth g.nodes (nth (imT g c) i).toNat = nth g.nodes i := fun i hi => genL_inv (f := nth g.nodes) (imL_in (by omega)) imL_same hi
    have f7 : S.fr 7 = .one (.t (ints (imT g c))) := f7
    obtain ⟨mm, hmm⟩ : ∃ mm, mm = max 1 g.nodes.length := ⟨_, rfl⟩
    rw [← hmm] at hc ex
    simp [f2, f4, f5, f6, f7, o0, o1, o2, n1, n2, n3, hc, ex]
    refine callS_tree (quot02_ok (imT g c) hp (by omega)) ?_ ?_ ?_
    · rfl
    · rfl
    rw [lp]
    have cp := clsN_le (p := imT g c) g.nodes.length
    have y1 : clsN (imT g c) g.nodes.length * 8 ≤ 140737488355328 := by omega
    have y2 : (clsN (imT g c) g.nodes.length : Int) ≤ 9223372036854775807 := by omega
    have QN := quotL_len (p := imT g c)
    simp [f2, f4, f5, f6, f7, o0, o1, o2, n1, n2, n3, hc, y1, y2]
    refine loopW_count 15 g.nodes.length (fun k S => S.fr 2 = .one (.ptr (0, 0) 0) ∧ S.fr 4 = .one (.ptr (1, 0) 0) ∧ S.fr 5 = .one (.ptr (2, 0) 0) ∧ S.fr 6 = .one (.t (ints c)) ∧ S.fr 10 = .one (.t (ints (imQ g c))) ∧ S.fr 13 = .one (.ptr (643, 0) 0) ∧ S.fr 14 = .one (.ptr (706, 0) 0) ∧
      S.ob (0, 0) = some (bx 25 (g.v.2.map .t)) ∧ S.ob (1, 0) = some (bx 25 [.nil, .nil]) ∧ S.ob (2, 0) = some (bx 27 [.nil, .nil]) ∧ S.ob (643, 0) = some (bx 25 [.row (641, 0), .nil]) ∧ S.ob (706, 0) = some (bx 27 [.t (ints (imQ g c)), .nil]) ∧
      S.ob (641, 0) = some (rowO (clsL (imT g c) (nth g.nodes) 0 g.nodes.length k))) (by omega) ?_ ?_ ?_
    · simp [f2, f4, f5, f6, f7, o0, o1, o2, n1, n2, n3, rowO, clsL_zero, imQ]
    · rintro k S hlt hw hc ⟨f2, f4, f5, f6, f10, f13, f14, o0, o1, o2, o643, o706, o641⟩
      have hltq : k < (quotL (imT g c)).length := by omega
      have hltp : k < (imT g c).length := by omega
      have e1 := quotL_nth hltp
      obtain ⟨j, hj, hle⟩ := hp.fo.at hltp
      have hfx := hp.fx k hltp
      rw [hj, Int.toNat_natCast] at hfx
      rw [hj, Int.toNat_natCast] at e1
      have l1 := clsL_len (p := imT g c) (f := nth g.nodes) (z := 0) (m := g.nodes.length) (k := k) (by omega)
      have l2 := clsL_len (p := imT g c) (f := nth g.nodes) (z := 0) (m := g.nodes.length) (k := k + 1) (by omega)
      have hl : clsN (imT g c) j < clsN (imT g c) g.nodes.length := clsN_lt hfx (by omega)
      have hl1 : clsN (imT g c) j + 1 ≤ clsN (imT g c) g.nodes.length := hl
      have hl2 : clsN (imT g c) j < (clsL (imT g c) (nth g.nodes) 0 g.nodes.length k).length := by omega
      have e2 := row_set (v := nth g.nodes k) hl2
      have e3 := clsL_set (f := nth g.nodes) (z := 0) hp lp hlt (hcon k hlt)
      rw [hj, Int.toNat_natCast] at e3
      simp [dw0, dw1, dw2, dw3, f2, f4, f5, f6, f10, f13, f14, o0, o1, o2, o643, o706, o641, hc, hlt, imQ, hltq, drop_nth hltq, drop_nth hlt, e1, rowO, l1, hl, hl1, e2, e3, hw, l2]
      first | kernel_rfl | rfl | trace_state
    · rintro S hc ⟨f2, f4, f5, f6, f10, f13, f14, o0, o1, o2, o643, o706, o641⟩
      rw [clsL_all] at o641
      have eN : collect (clsF (imT g c) (nth g.nodes)) g.nodes.length = (imG g c).nodes := rfl
      rw [eN] at o641
      simp [f2, f4, f5, f6, f10, f13, f14, o0, o1, o2, o643, o706, o641, hc]
      refine loopW_count 16 g.edges.length (fun k S => S.fr 2 = .one (.ptr (0, 0) 0) ∧ S.fr 4 = .one (.ptr (1, 0) 0) ∧ S.fr 5 = .one (.ptr (2, 0) 0) ∧ S.fr 6 = .one (.t (ints c)) ∧ S.fr 10 = .one (.t (ints (imQ g c))) ∧ S.fr 13 = .one (.ptr (643, 0) 0) ∧ S.fr 14 = .one (.ptr (706, 0) 0) ∧
        S.ob (0, 0) = some (bx 25 (g.v.2.map .t)) ∧ S.ob (1, 0) = some (bx 25 [.nil, .nil]) ∧ S.ob (2, 0) = some (bx 27 [.nil, .nil]) ∧ S.ob (641, 0) = some (rowO (imG g c).nodes) ∧
        ∃ vE vM, S.ob (643, 0) = some (bx 25 [.row (641, 0), vE]) ∧ S.ob (706, 0) = some (bx 27 [.t (ints (imQ g c)), vM]) ∧
          outR 1796 76 3 (imS g c (imQ g c) k).1.length (edL (imS g c (imQ g c) k).1) S.ob (.one vE) ∧ outR 1860 3 1 (imS g c (imQ g c) k).2.length ((imS g c (imQ g c) k).2.map (.int .i64)) S.ob (.one vM)) (by omega) ?_ ?_ ?_
      · simp [f2, f4, f5, f6, f10, f13, f14, o0, o1, o2, o643, o706, o641, imS, edL, outR_nil]
      · rintro k S hlt hw hc ⟨f2, f4, f5, f6, f10, f13, f14, o0, o1, o2, o641, vE, vM, o643, o706, hE, hM⟩
        have hlt3 : k * 3 < g.edges.length * 3 := by omega
        obtain ⟨_, _, g1, g2, g3, g4⟩ := gg.edges _ (eth_mem hlt)
        obtain ⟨x, hx⟩ := Int.eq_ofNat_of_zero_le g1
        obtain ⟨y, hy⟩ := Int.eq_ofNat_of_zero_le g3
        have iq : (imQ g c).length = g.nodes.length := by rw [imQ, QN, lp]
        have hx2 : x < (imQ g c).length := by omega
        have hy2 : y < (imQ g c).length := by omega
        have eX : imX g (imQ g c) k = ⟨(eth g.edges k).t, nth (imQ g c) x, nth (imQ g c) y⟩ := by simp [imX, hx, hy]
        simp [dw0, dw1, dw2, dw3, f2, f4, f5, f6, f10, f13, f14, o0, o1, o2, o643, o706, o641, hc, hlt, hlt3, drop_edL hlt, hx, hy, hx2, hy2, drop_nth hx2, drop_nth hy2]
        refine ⟨by kernel_rfl, ?_⟩
        obtain ⟨gX, hgX⟩ : ∃ gX, gX = S.cnt 1241 := ⟨_, rfl⟩
        rw [← hgX]
        obtain ⟨l1, l2⟩ := imS_len (g := g) (c := c) (q := imQ g c) k
        have zs : imS g c (imQ g c) (k + 1) = if imAt (imS g c (imQ g c) k).1 (imX g (imQ g c) k) c k (imS g c (imQ g c) k).1.length < 0 then ((imS g c (imQ g c) k).1 ++ [imX g (imQ g c) k], (imS g c (imQ g c) k).2 ++ [((imS g c (imQ g c) k).1.length : Int)])
          else ((imS g c (imQ g c) k).1, (imS g c (imQ g c) k).2 ++ [imAt (imS g c (imQ g c) k).1 (imX g (imQ g c) k) c k (imS g c (imQ g c) k).1.length]) := rfl
        generalize (imS g c (imQ g c) k).1 = E at hE l1 zs
        generalize (imS g c (imQ g c) k).2 = M at hM l2 zs
        generalize imX g (imQ g c) k = X at eX zs
        have x1 : X.t = (eth g.edges k).t := by rw [eX]
        have x2 : X.f = nth (imQ g c) x := by rw [eX]
        have x3 : X.g = nth (imQ g c) y := by rw [eX]
        rw [← x1, ← x2, ← x3]
        have hE0 := hE
        rcases hE0 with ⟨t1, t2, t3⟩ | ⟨t1, gE, t3, t4⟩
        · cases t3
          refine loopW_count 19 E.length (fun j S => S.fr 2 = .one (.ptr (0, 0) 0) ∧ S.fr 4 = .one (.ptr (1, 0) 0) ∧ S.fr 5 = .one (.ptr (2, 0) 0) ∧ S.fr 6 = .one (.t (ints c)) ∧ S.fr 10 = .one (.t (ints (imQ g c))) ∧ S.fr 13 = .one (.ptr (643, 0) 0) ∧ S.fr 14 = .one (.ptr (706, 0) 0) ∧ S.fr 16 = .one (.t (.int .i64 k)) ∧ S.fr 17 = .one (.ptr (1241, gX) 0) ∧ S.fr 18 = .one (.t (.int .i64 (imAt E X c k j))) ∧
            S.ob (0, 0) = some (bx 25 (g.v.2.map .t)) ∧ S.ob (1, 0) = some (bx 25 [.nil, .nil]) ∧ S.ob (2, 0) = some (bx 27 [.nil, .nil]) ∧ S.ob (641, 0) = some (rowO (imG g c).nodes) ∧ S.ob (643, 0) = some (bx 25 [.row (641, 0), .nil]) ∧ S.ob (706, 0) = some (bx 27 [.t (ints (imQ g c)), vM]) ∧
            S.ob (1241, gX) = some (bx 76 [.t (.int .i64 X.t), .t (.int .i64 X.f), .t (.int .i64 X.g)]) ∧ outR 1796 76 3 E.length (edL E) S.ob (.one .nil) ∧ outR 1860 3 1 M.length (M.map (.int .i64)) S.ob (.one vM)) (by omega) ?_ ?_ ?_
          · simp [f2, f4, f5, f6, f10, f13, f14, o0, o1, o2, o641, o643, o706, hc, imAt]
            exact ⟨hE.keep fun g => by simp, hM.keep fun g => by simp⟩
          · rintro j S hj _ _ _
            omega
          · rintro S hcj ⟨f2, f4, f5, f6, f10, f13, f14, f16, f17, f18, o0, o1, o2, o641, o643, o706, o1241, hE, hM⟩
            have zl : imAt E X c k E.length < 0 := by rw [t1]; simp [imAt]
            rw [if_pos zl] at zs
            rw [t1] at hcj zs f18
            have t1' : E = [] := List.eq_nil_of_length_eq_zero t1
            have zz : (imAt E X c k 0) = -1 := rfl
            rw [zz] at f18
            subst t1'
            simp [f2, f4, f5, f6, f10, f13, f14, f16, f17, f18, o0, o1, o2, o641, o643, o706, o1241, hcj]
            refine kApp_grow (ts := edC X) rfl (hE.keep fun g => by simp) (by omega) rfl (by simp) (by simp) fun E3 hE3 hob3 hcnt3 => ?_
            obtain ⟨u, hu3⟩ := hE3.one
            rw [hu3] at hE3
            have hM3 := hM.keep (ob' := E3.ob) fun g => by rw [hob3 _ _ (by decide)]; simp
            simp [f2, f4, f5, f6, f10, f13, f14, f16, f17, f18, o0, o1, o2, o641, o643, o706, o1241, hcj, hob3, hcnt3, hu3]
            refine kApp_grow (ts := [.int .i64 0]) rfl (hM3.keep fun g => by simp) (by omega) rfl (by omega) (by omega) fun E4 hE4 hob4 hcnt4 => ?_
            obtain ⟨w, hw4⟩ := hE4.one
            rw [hw4] at hE4
            have hE5 := hE3.keep (ob' := E4.ob) fun g => by rw [hob4 _ _ (by decide)]; simp
            simp [f2, f4, f5, f6, f10, f13, f14, f16, f17, f18, o0, o1, o2, o641, o643, o706, o1241, hcj, hw, hob3, hcnt3, hu3, hob4, hcnt4, hw4, zs]
            exact ⟨outR.keep (by simpa [edL] using hE5) fun g => by simp, outR.keep (by simpa using hE4) fun g => by simp⟩
        · cases t3
          refine loopW_count 19 E.length (fun j S => S.fr 2 = .one (.ptr (0, 0) 0) ∧ S.fr 4 = .one (.ptr (1, 0) 0) ∧ S.fr 5 = .one (.ptr (2, 0) 0) ∧ S.fr 6 = .one (.t (ints c)) ∧ S.fr 10 = .one (.t (ints (imQ g c))) ∧ S.fr 13 = .one (.ptr (643, 0) 0) ∧ S.fr 14 = .one (.ptr (706, 0) 0) ∧ S.fr 16 = .one (.t (.int .i64 k)) ∧ S.fr 17 = .one (.ptr (1241, gX) 0) ∧ S.fr 18 = .one (.t (.int .i64 (imAt E X c k j))) ∧
            S.ob (0, 0) = some (bx 25 (g.v.2.map .t)) ∧ S.ob (1, 0) = some (bx 25 [.nil, .nil]) ∧ S.ob (2, 0) = some (bx 27 [.nil, .nil]) ∧ S.ob (641, 0) = some (rowO (imG g c).nodes) ∧ S.ob (643, 0) = some (bx 25 [.row (641, 0), .row (1796, gE)]) ∧ S.ob (706, 0) = some (bx 27 [.t (ints (imQ g c)), vM]) ∧
            S.ob (1241, gX) = some (bx 76 [.t (.int .i64 X.t), .t (.int .i64 X.f), .t (.int .i64 X.g)]) ∧ outR 1796 76 3 E.length (edL E) S.ob (.one (.row (1796, gE))) ∧ outR 1860 3 1 M.length (M.map (.int .i64)) S.ob (.one vM)) (by omega) ?_ ?_ ?_
          · simp [f2, f4, f5, f6, f10, f13, f14, o0, o1, o2, o641, o643, o706, hc, imAt]
            exact ⟨hE.keep fun g => by simp, hM.keep fun g => by simp⟩
          · rintro j S hj hwj hcj ⟨f2, f4, f5, f6, f10, f13, f14, f16, f17, f18, o0, o1, o2, o641, o643, o706, o1241, hE, hM⟩
            have hE1 := hE
            rcases hE1 with ⟨u1, _, _⟩ | ⟨u1, gE', u3, u4⟩
            · omega
            cases u3
            have hj3 : j * 3 < E.length * 3 := by omega
            have hj33 : j * 3 + 3 ≤ E.length * 3 := by omega
            have de := drop_edLR hj
            obtain ⟨r1, r2, r3⟩ := rnd_at nc (k + j)
            obtain ⟨m, hm⟩ : ∃ m, m = (k + j) % c.length := ⟨_, rfl⟩
            obtain ⟨v, hv⟩ : ∃ v, v = rnd c (k + j) := ⟨_, rfl⟩
            have e1 : ((k : Int) + (j : Int)).tmod (c.length : Int) = (m : Int) := by rw [hm, show (k : Int) + (j : Int) = ((k + j : Nat) : Int) by omega]; exact nat_rem
            have w1 : IntKind.i64.wrap ((k : Int) + (j : Int)) = (k : Int) + (j : Int) := by rw [wrap64_id] <;> omega
            rw [← hm] at r1 r2
            rw [← hv] at r2 r3
            have ok : okC c k j ↔ v % 2 = 0 := by rw [okC, ← hv]
            obtain ⟨p, hp2⟩ : ∃ p, p = v % 2 := ⟨_, rfl⟩
            have e2 : (v : Int).tmod 2 = (p : Int) := by rw [hp2]; exact rem2
            rw [← hp2] at ok
            by_cases e : eth E j = X
            · have e' := ed_eq.1 e
              by_cases hq : p = 0
              · have im : imAt E X c k (j + 1) = j := if_pos ⟨e, ok.2 hq⟩
                simp [dw0, dw1, dw2, dw3, f2, f4, f5, f6, f10, f13, f14, f16, f17, f18, o0, o1, o2, o641, o643, o706, o1241, u4, hcj, hj, hj3, hj33, de, e'.1, e'.2.1, e'.2.2, w1, e1, c1, r1, drop_nth r1, r2, e2, hq, hwj, im]
                exact ⟨by first | kernel_rfl | rfl, hE, hM⟩
              · have im : imAt E X c k (j + 1) = imAt E X c k j := if_neg fun h => hq (ok.1 h.2)
                simp [dw0, dw1, dw2, dw3, f2, f4, f5, f6, f10, f13, f14, f16, f17, f18, o0, o1, o2, o641, o643, o706, o1241, u4, hcj, hj, hj3, hj33, de, e'.1, e'.2.1, e'.2.2, w1, e1, c1, r1, drop_nth r1, r2, e2, hq, hwj, im]
                exact ⟨by first | kernel_rfl | rfl, hE, hM⟩
            · have im : imAt E X c k (j + 1) = imAt E X c k j := if_neg fun h => e h.1
              have e' : ¬ (eth E j).t = X.t ∨ ((eth E j).t = X.t ∧ ¬ (eth E j).f = X.f) ∨ ((eth E j).t = X.t ∧ (eth E j).f = X.f ∧ ¬ (eth E j).g = X.g) := by
                by_cases q1 : (eth E j).t = X.t
                · by_cases q2 : (eth E j).f = X.f
                  · by_cases q3 : (eth E j).g = X.g
                    · exact absurd (ed_eq.2 ⟨q1, q2, q3⟩) e
                    · exact .inr (.inr ⟨q1, q2, q3⟩)
                  · exact .inr (.inl ⟨q1, q2⟩)
                · exact .inl q1
              rcases e' with q1 | ⟨q1, q2⟩ | ⟨q1, q2, q3⟩
              · simp [dw0, dw1, dw2, dw3, f2, f4, f5, f6, f10, f13, f14, f16, f17, f18, o0, o1, o2, o641, o643, o706, o1241, u4, hcj, hj, hj3, hj33, de, q1, hwj, im]
                exact ⟨by first | kernel_rfl | rfl, hE, hM⟩
              · simp [dw0, dw1, dw2, dw3, f2, f4, f5, f6, f10, f13, f14, f16, f17, f18, o0, o1, o2, o641, o643, o706, o1241, u4, hcj, hj, hj3, hj33, de, q1, q2, hwj, im]
                exact ⟨by first | kernel_rfl | rfl, hE, hM⟩
              · simp [dw0, dw1, dw2, dw3, f2, f4, f5, f6, f10, f13, f14, f16, f17, f18, o0, o1, o2, o641, o643, o706, o1241, u4, hcj, hj, hj3, hj33, de, q1, q2, q3, hwj, im]
                exact ⟨by first | kernel_rfl | rfl, hE, hM⟩
          · rintro S hcj ⟨f2, f4, f5, f6, f10, f13, f14, f16, f17, f18, o0, o1, o2, o641, o643, o706, o1241, hE, hM⟩
            have hE1 := hE
            rcases hE1 with ⟨u1, _, _⟩ | ⟨u1, gE', u3, u4⟩
            · omega
            cases u3
            by_cases zl : imAt E X c k E.length < 0
            · rw [if_pos zl] at zs
              simp [f2, f4, f5, f6, f10, f13, f14, f16, f17, f18, o0, o1, o2, o641, o643, o706, o1241, u4, hcj, zl]
              refine kApp_grow (ts := edC X) rfl (hE.keep fun g => by simp) (by omega) rfl (by omega) (by omega) fun E3 hE3 hob3 hcnt3 => ?_
              obtain ⟨u, hu3⟩ := hE3.one
              rw [hu3] at hE3
              have hM3 := hM.keep (ob' := E3.ob) fun g => by rw [hob3 _ _ (by decide)]; simp
              simp [f2, f4, f5, f6, f10, f13, f14, f16, f17, f18, o0, o1, o2, o641, o643, o706, o1241, hcj, hob3, hcnt3, hu3]
              refine kApp_grow (ts := [.int .i64 E.length]) rfl (hM3.keep fun g => by simp) (by omega) rfl (by omega) (by omega) fun E4 hE4 hob4 hcnt4 => ?_
              obtain ⟨w, hw4⟩ := hE4.one
              rw [hw4] at hE4
              have hE5 := hE3.keep (ob' := E4.ob) fun g => by rw [hob4 _ _ (by decide)]; simp
              simp [f2, f4, f5, f6, f10, f13, f14, f16, f17, f18, o0, o1, o2, o641, o643, o706, o1241, hcj, hw, hob3, hcnt3, hu3, hob4, hcnt4, hw4, zs]
              exact ⟨outR.keep (by simpa [edL] using hE5) fun g => by simp, outR.keep (by simpa using hE4) fun g => by simp⟩
            · rw [if_neg zl] at zs
              simp [f2, f4, f5, f6, f10, f13, f14, f16, f17, f18, o0, o1, o2, o641, o643, o706, o1241, u4, hcj, zl]
              refine kApp_grow (ts := [.int .i64 (imAt E X c k E.length)]) rfl (hM.keep fun g => by simp) (by omega) rfl (by omega) (by omega) fun E4 hE4 hob4 hcnt4 => ?_
              obtain ⟨w, hw4⟩ := hE4.one
              rw [hw4] at hE4
              have hE5 := hE.keep (ob' := E4.ob) fun g => by rw [hob4 _ _ (by decide)]; simp
              simp [f2, f4, f5, f6, f10, f13, f14, f16, f17, f18, o0, o1, o2, o641, o643, o706, o1241, hcj, hw, hob4, hcnt4, hw4, zs]
              exact ⟨outR.keep (by simpa using hE5) fun g => by simp, outR.keep (by simpa using hE4) fun g => by simp⟩
      · rintro S hc ⟨f2, f4, f5, f6, f10, f13, f14, o0, o1, o2, o641, vE, vM, o643, o706, hE, hM⟩
        have eE : (imS g c (imQ g c) g.edges.length).1 = (imG g c).edges := rfl
        have eM : (imS g c (imQ g c) g.edges.length).2 = (imM g c).edges := rfl
        have eQ : imQ g c = (imM g c).nodes := rfl
        rw [eE] at hE
        rw [eM] at hM
        rw [eQ] at o706
        generalize imG g c = G at hE o641 ⊢
        generalize imM g c = MM at hM o706 ⊢
        rcases hE with ⟨t1, t2, t3⟩ | ⟨t1, gE, t3, t4⟩ <;> rcases hM with ⟨u1, u2, u3⟩ | ⟨u1, gM, u3, u4⟩
        all_goals
          cases t3
          cases u3
          simp [dw0, dw1, dw2, dw3, f2, f4, f5, f6, f10, f13, f14, o0, o1, o2, o641, o643, o706, hc, rowO]
          refine ⟨by first | kernel_rfl | rfl, ?_⟩
          first
          | simp [t4, u4, untreeI, untreeT]
          | simp [t4, u1, u2, untreeI, untreeT]
          | simp [t1, t2, u4, untreeI, untreeT]
          | simp [t1, t2, u1, u2, untreeI, untreeT]
          try omega
end Go.Proofs.YthcnpnogfblkcaaGreat

/- Contract: the identity of a graph of any size. -/
namespace Go.Proofs.YthcnpnogfblkcaaGreat
open Abs
set_option linter.unusedSimpArgs false
set_option linter.unusedVariables false
attribute [local simp] rn0 rn1 rn2 rn3 rn4 rn5 rn6 rn7 evOp nests Arg.ev St.val St.set St.new sliceOf binInt2 binInt AV.cells rdAt St.live retOf resOf resAll treeOf treeCell treeCells treeTups untree frameOf TV.av TR.av ints edgs prs fillV splice intsOf trees V1.tree bx Gr.v Pa.v opRd opWr opNew opNewR opArgs argsRd argRd Arg.rd AV.refs V1.refs refsL dstL

def idP (g : Gr) : Pa := ⟨idL g.nodes.length, idL g.edges.length⟩
def c_of06 : MFunc := ⟨12, [.cell 2 true 2], .seq (.region [⟨some 1, .box 0 25 (.tmp 0), none⟩, ⟨some 2, .alloc 1 27 [.nil, .nil], none⟩]) (.seq (.draw [[], [0], [1], [2], [], [4], [5], [6, 3], [3, 7], [8, 7, 0, 1, 2, 3, 4, 5, 6, 7, 8]] [⟨some 3, .fieldA 0 (.tmp 1), none⟩, ⟨some 4, .load false 1 (.tmp 3), none⟩, ⟨some 5, .len (.tmp 4), none⟩, ⟨some 6, .call (.c (.one (.fn 105 []))) 67 [.tmp 5], none⟩, ⟨some 7, .fieldA 1 (.tmp 1), none⟩, ⟨some 8, .load false 1 (.tmp 7), none⟩, ⟨some 9, .len (.tmp 8), none⟩, ⟨some 10, .call (.c (.one (.fn 105 []))) 71 [.tmp 9], none⟩, ⟨some 11, .build [.nil, .nil] [(0, (1, .tmp 6)), (1, (1, .tmp 10))], none⟩, ⟨none, .store 2 (.tmp 2) (.tmp 11), none⟩]) .ret)⟩
theorem k_of06 : cFn Tryz.prog Tryz.f67 = some c_of06 := by kernel_rfl
theorem of06_ok (g : Gr) (h : tinyG g) : CallOK Tryz.prog 67 [g.v] (.sv (idP g).v) := by
  refine callOK_W (callS_W (by kernel_rfl) Tryz.func67 k_of06 (callable_of Tryz.func67 (by kernel_rfl)) (by simp [c_of06]) ?_)
  simp [c_of06, dw0, dw1, dw2, dw3]
  refine dCall_ok (finest02_row g.nodes.length h.1).ok ?_ ?_ ?_
  · rfl
  · rfl
  simp [dw0, dw1, dw2, dw3]
  refine dCall_ok (finest02_row g.edges.length h.2).ok ?_ ?_ ?_
  · rfl
  · rfl
  simp [dw0, dw1, dw2, dw3, idP]
  rfl
end Go.Proofs.YthcnpnogfblkcaaGreat

/- Contract: the grown image of a graph. -/
namespace Go.Proofs.YthcnpnogfblkcaaGreat
open Abs
set_option linter.unusedSimpArgs false
set_option linter.unusedVariables false
attribute [local simp] rn0 rn1 rn2 rn3 rn4 rn5 rn6 rn7 evOp nests Arg.ev St.val St.set St.new sliceOf binInt2 binInt AV.cells rdAt St.live retOf resOf resAll treeOf treeCell treeCells treeTups untree frameOf TV.av TR.av ints edgs prs fillV splice intsOf trees V1.tree bx Gr.v Pa.v opRd opWr opNew opNewR opArgs argsRd argRd Arg.rd AV.refs V1.refs refsL dstL

def imB (l : List Nat) : Bool := decide (0 < l.length) && decide (byth l 0 < 255)
/-- What a graph grows from. -/
def grG (g : Gr) (l : List Nat) : Gr := if imB l = true then imG g (numsL l) else g
def grM (g : Gr) (l : List Nat) : Pa := if imB l = true then imM g (numsL l) else idP g
def gnF (l : List Nat) (j : Nat) : Option Int := if byth l (j + 1) % 2 = 1 then some ((byth l (j + 1) / 2 % 3 : Nat) : Int) else none
def grN (g : Gr) (l : List Nat) (k : Nat) : List Int := (grG g l).nodes ++ collect (gnF l) k
def gnc (l : List Nat) : Nat := min l.length 4 - 1
def grn (g : Gr) (l : List Nat) : List Int := grN g l (gnc l)
def geX (l : List Nat) (n j : Nat) : Ed := ⟨(byth l (j + 4) % 2 : Nat), (byth l (j + 4) / 2 % n : Nat), (byth l (j + 4) / 16 % n : Nat)⟩
def grE (g : Gr) (l : List Nat) (k : Nat) : List Ed := (grG g l).edges ++ (List.range k).map (geX l (grn g l).length)
def gec (g : Gr) (l : List Nat) : Nat := if (grn g l).length = 0 then 0 else min l.length 8 - 4
/-- The grown graph. -/
def growG (g : Gr) (l : List Nat) : Gr := ⟨grn g l, grE g l (gec g l)⟩
theorem outL2 {a b typ esz n : Nat} {cs : List Abs.C} {ob : Nm → Option Ob} {v : V1} (h : outL [a, b] typ esz n cs ob (.one v)) :
    (n = 0 ∧ cs = [] ∧ v = .nil) ∨ (0 < n ∧ ∃ g, v = .row (a, g) ∧ ob (a, g) = some ⟨true, true, false, esz, n, typ, cs.map .t⟩) ∨ (0 < n ∧ ∃ g, v = .row (b, g) ∧ ob (b, g) = some ⟨true, true, false, esz, n, typ, cs.map .t⟩) := by
  rcases h with ⟨h1, h2, h3⟩ | ⟨h1, nm, hm, g, h3, h4⟩
  · injection h3 with h3
    exact .inl ⟨h1, h2, h3⟩
  · injection h3 with h3
    simp at hm
    rcases hm with rfl | rfl
    · exact .inr (.inl ⟨h1, g, h3, h4⟩)
    · exact .inr (.inr ⟨h1, g, h3, h4⟩)
theorem outL1 {a typ esz n : Nat} {cs : List Abs.C} {ob : Nm → Option Ob} {v : V1} (h : outL [a] typ esz n cs ob (.one v)) :
    (n = 0 ∧ cs = [] ∧ v = .nil) ∨ (0 < n ∧ ∃ g, v = .row (a, g) ∧ ob (a, g) = some ⟨true, true, false, esz, n, typ, cs.map .t⟩) := by
  rcases h with ⟨h1, h2, h3⟩ | ⟨h1, nm, hm, g, h3, h4⟩
  · injection h3 with h3
    exact .inl ⟨h1, h2, h3⟩
  · injection h3 with h3
    simp at hm
    subst hm
    exact .inr ⟨h1, g, h3, h4⟩
theorem keep1 {a typ esz n : Nat} {cs : List Abs.C} {ob ob' : Nm → Option Ob} {v : AV} (h : outL [a] typ esz n cs ob v) (ho : ∀ g, ob' (a, g) = ob (a, g)) : outL [a] typ esz n cs ob' v := h.keep fun nm hm g => by simp at hm; subst hm; exact ho g
theorem keep2 {a b typ esz n : Nat} {cs : List Abs.C} {ob ob' : Nm → Option Ob} {v : AV} (h : outL [a, b] typ esz n cs ob v) (ho : ∀ g, ob' (a, g) = ob (a, g)) (ho2 : ∀ g, ob' (b, g) = ob (b, g)) : outL [a, b] typ esz n cs ob' v := h.keep fun nm hm g => by
  simp at hm
  rcases hm with rfl | rfl
  · exact ho g
  · exact ho2 g
theorem grN_some {g : Gr} {l : List Nat} {j : Nat} {x : Int} (h : gnF l j = some x) : grN g l (j + 1) = grN g l j ++ [x] := by simp only [grN, collect_some h, List.append_assoc]
theorem grN_none {g : Gr} {l : List Nat} {j : Nat} (h : gnF l j = none) : grN g l (j + 1) = grN g l j := by simp only [grN, collect_none h]
theorem grE_succ {g : Gr} {l : List Nat} {k : Nat} : grE g l (k + 1) = grE g l k ++ [geX l (grn g l).length k] := by simp [grE, List.range_succ]
theorem grE_len {g : Gr} {l : List Nat} {k : Nat} : (grE g l k).length = (grG g l).edges.length + k := by simp [grE]
theorem grN_len {g : Gr} {l : List Nat} {k : Nat} : (grN g l k).length ≤ (grG g l).nodes.length + k := by
  have := collect_len (f := gnF l) (k := k)
  simp only [grN, List.length_append]
  omega
theorem imG_few {g : Gr} {c : List Int} : (imG g c).nodes.length ≤ g.nodes.length ∧ (imG g c).edges.length ≤ g.edges.length := ⟨collect_len, (imS_len _).1⟩
theorem grG_few {g : Gr} {l : List Nat} : (grG g l).nodes.length ≤ g.nodes.length ∧ (grG g l).edges.length ≤ g.edges.length := by
  unfold grG
  split
  · exact imG_few
  · exact ⟨Nat.le_refl _, Nat.le_refl _⟩

theorem drop_byL0 {l : List Nat} (h : 0 < l.length) : byL l = .int .u8 (byth l 0 : Nat) :: byL l.tail := by
  have := drop_byL h
  rwa [List.drop_zero, List.drop_one] at this

def c_grown10 : MFunc := ⟨109, [.cell 4 true 2, .cell 5 true 2], .seq (.region [⟨some 2, .box 0 25 (.tmp 0), none⟩, ⟨some 4, .alloc 1 25 [.nil, .nil], none⟩, ⟨some 5, .alloc 2 27 [.nil, .nil], none⟩]) (.seq (.draw [[], [0], [], [2, 1], [], [], [4, 1, 3, 0, 1, 4, 5], [5, 3, 6, 0, 1, 2, 3, 4, 5, 6]] [⟨some 10, .load true 2 (.tmp 2), none⟩, ⟨some 11, .call (.c (.one (.fn 52 []))) 65 [.tmp 10], none⟩, ⟨some 12, .load true 2 (.tmp 2), none⟩, ⟨some 13, .call (.c (.one (.fn 67 []))) 67 [.tmp 12], none⟩, ⟨some 6, .alloc 68 25 [.nil, .nil], none⟩, ⟨some 7, .alloc 69 27 [.nil, .nil], none⟩, ⟨none, .store 2 (.tmp 6) (.tmp 11), none⟩, ⟨none, .store 2 (.tmp 7) (.tmp 13), none⟩]) (.seq (.seq (.region [⟨some 14, .mv (.tmp 1), none⟩, ⟨some 15, .len (.tmp 14), none⟩, ⟨some 16, .bin .gtr (.tmp 15) (.c (.one (.t (.int .i64 0)))), none⟩, ⟨some 17, .mv (.tmp 16), none⟩, ⟨some 18, .mv (.tmp 1), some (17, true)⟩, ⟨some 19, .idxA 1 (.tmp 18) (.c (.one (.t (.int .i64 0)))), some (17, true)⟩, ⟨some 20, .load false 1 (.tmp 19), some (17, true)⟩, ⟨some 21, .bin .lss (.tmp 20) (.c (.one (.t (.int .u8 255)))), some (17, true)⟩, ⟨some 22, .pick (.tmp 17) (.tmp 21) (.c (.one (.t (.bool false)))), none⟩]) (.cond (.tmp 22) (.region [⟨some 24, .load true 2 (.tmp 2), none⟩, ⟨some 25, .mv (.tmp 1), none⟩, ⟨some 26, .call (.c (.one (.fn 70 []))) 194 [.tmp 24, .tmp 25], none⟩, ⟨some 23, .mv (.tmp 26), none⟩, ⟨some 27, .extract (.tmp 23) 0, none⟩, ⟨some 28, .extract (.tmp 23) 1, none⟩, ⟨none, .store 2 (.tmp 6) (.tmp 27), none⟩, ⟨none, .store 2 (.tmp 7) (.tmp 28), none⟩]) .skip)) (.seq (.region [⟨some 29, .load true 2 (.tmp 6), none⟩, ⟨some 30, .call (.c (.one (.fn 52 []))) 257 [.tmp 29], none⟩, ⟨none, .store 2 (.tmp 6) (.tmp 30), none⟩]) (.seq (.seq (.region [⟨some 8, .mv (.c (.one (.t (.int .i64 1)))), none⟩]) (.block 0 (.loop (.seq (.seq (.region [⟨some 31, .mv (.tmp 8), none⟩, ⟨some 32, .mv (.tmp 1), none⟩, ⟨some 33, .len (.tmp 32), none⟩, ⟨some 34, .bin .lss (.tmp 31) (.tmp 33), none⟩, ⟨some 35, .mv (.tmp 34), none⟩, ⟨some 36, .mv (.tmp 8), some (35, true)⟩, ⟨some 37, .bin .leq (.tmp 36) (.c (.one (.t (.int .i64 3)))), some (35, true)⟩, ⟨some 38, .pick (.tmp 35) (.tmp 37) (.c (.one (.t (.bool false)))), none⟩]) (.cond (.tmp 38) .skip (.exit 0))) (.seq (.block 1 (.seq (.region [⟨some 41, .mv (.tmp 1), none⟩, ⟨some 42, .mv (.tmp 8), none⟩, ⟨some 43, .idxA 1 (.tmp 41) (.tmp 42), none⟩, ⟨some 44, .load false 1 (.tmp 43), none⟩, ⟨some 45, .bin .rem (.tmp 44) (.c (.one (.t (.int .u8 2)))), none⟩, ⟨some 46, .bin .eql (.tmp 45) (.c (.one (.t (.int .u8 1)))), none⟩]) (.cond (.tmp 46) (.draw [[], [0], [], [], [2, 3], [4], [5], [6], [7], [8], [1, 9], [0, 1, 2, 3, 4, 5, 6, 7, 8, 9, 10], [11, 10, 10, 0, 1, 2, 3, 4, 5, 6, 7, 8, 9, 10]] [⟨some 47, .fieldA 0 (.tmp 6), none⟩, ⟨some 48, .load false 1 (.tmp 47), none⟩, ⟨some 49, .mv (.tmp 1), none⟩, ⟨some 50, .mv (.tmp 8), none⟩, ⟨some 51, .idxA 1 (.tmp 49) (.tmp 50), none⟩, ⟨some 52, .load false 1 (.tmp 51), none⟩, ⟨some 53, .bin .quo (.tmp 52) (.c (.one (.t (.int .u8 2)))), none⟩, ⟨some 54, .conv .i64 (.tmp 53), none⟩, ⟨some 55, .bin .rem (.tmp 54) (.c (.one (.t (.int .i64 3)))), none⟩, ⟨some 56, .mkrow 585 3 1 1 [.t (.int .i64 0)] [(0, (1, .tmp 55))], none⟩, ⟨some 57, .append 586 3 1 8 (.tmp 48) (.tmp 56), none⟩, ⟨some 58, .fieldA 0 (.tmp 6), none⟩, ⟨none, .store 1 (.tmp 58) (.tmp 57), none⟩]) .skip))) (.region [⟨some 39, .mv (.tmp 8), none⟩, ⟨some 40, .bin .add (.tmp 39) (.c (.one (.t (.int .i64 1)))), none⟩, ⟨some 8, .mv (.tmp 40), none⟩])))))) (.seq (.seq (.region [⟨some 9, .mv (.c (.one (.t (.int .i64 4)))), none⟩]) (.block 2 (.loop (.seq (.seq (.region [⟨some 59, .mv (.tmp 9), none⟩, ⟨some 60, .mv (.tmp 1), none⟩, ⟨some 61, .len (.tmp 60), none⟩, ⟨some 62, .bin .lss (.tmp 59) (.tmp 61), none⟩, ⟨some 63, .mv (.tmp 62), none⟩, ⟨some 64, .mv (.tmp 9), some (63, true)⟩, ⟨some 65, .bin .leq (.tmp 64) (.c (.one (.t (.int .i64 7)))), some (63, true)⟩, ⟨some 66, .pick (.tmp 63) (.tmp 65) (.c (.one (.t (.bool false)))), none⟩, ⟨some 67, .mv (.tmp 66), none⟩, ⟨some 68, .fieldA 0 (.tmp 6), some (67, true)⟩, ⟨some 69, .load false 1 (.tmp 68), some (67, true)⟩, ⟨some 70, .len (.tmp 69), some (67, true)⟩, ⟨some 71, .bin .gtr (.tmp 70) (.c (.one (.t (.int .i64 0)))), some (67, true)⟩, ⟨some 72, .pick (.tmp 67) (.tmp 71) (.c (.one (.t (.bool false)))), none⟩]) (.cond (.tmp 72) .skip (.exit 2))) (.seq (.block 3 (.draw [[], [0], [], [], [2, 3], [4], [5], [6], [], [], [8, 9], [10], [11], [12], [], [14], [15], [13, 16], [], [], [18, 19], [20], [21], [22], [], [24], [25], [23, 26], [7, 17, 27], [28], [1, 29], [0, 1, 2, 3, 4, 5, 6, 7, 8, 9, 10, 11, 12, 13, 14, 15, 16, 17, 18, 19, 20, 21, 22, 23, 24, 25, 26, 27, 28, 29, 30], [31, 30, 30, 0, 1, 2, 3, 4, 5, 6, 7, 8, 9, 10, 11, 12, 13, 14, 15, 16, 17, 18, 19, 20, 21, 22, 23, 24, 25, 26, 27, 28, 29, 30]] [⟨some 75, .fieldA 1 (.tmp 6), none⟩, ⟨some 76, .load false 1 (.tmp 75), none⟩, ⟨some 77, .mv (.tmp 1), none⟩, ⟨some 78, .mv (.tmp 9), none⟩, ⟨some 79, .idxA 1 (.tmp 77) (.tmp 78), none⟩, ⟨some 80, .load false 1 (.tmp 79), none⟩, ⟨some 81, .conv .i64 (.tmp 80), none⟩, ⟨some 82, .bin .rem (.tmp 81) (.c (.one (.t (.int .i64 2)))), none⟩, ⟨some 83, .mv (.tmp 1), none⟩, ⟨some 84, .mv (.tmp 9), none⟩, ⟨some 85, .idxA 1 (.tmp 83) (.tmp 84), none⟩, ⟨some 86, .load false 1 (.tmp 85), none⟩, ⟨some 87, .bin .quo (.tmp 86) (.c (.one (.t (.int .u8 2)))), none⟩, ⟨some 88, .conv .i64 (.tmp 87), none⟩, ⟨some 89, .fieldA 0 (.tmp 6), none⟩, ⟨some 90, .load false 1 (.tmp 89), none⟩, ⟨some 91, .len (.tmp 90), none⟩, ⟨some 92, .bin .rem (.tmp 88) (.tmp 91), none⟩, ⟨some 93, .mv (.tmp 1), none⟩, ⟨some 94, .mv (.tmp 9), none⟩, ⟨some 95, .idxA 1 (.tmp 93) (.tmp 94), none⟩, ⟨some 96, .load false 1 (.tmp 95), none⟩, ⟨some 97, .bin .quo (.tmp 96) (.c (.one (.t (.int .u8 16)))), none⟩, ⟨some 98, .conv .i64 (.tmp 97), none⟩, ⟨some 99, .fieldA 0 (.tmp 6), none⟩, ⟨some 100, .load false 1 (.tmp 99), none⟩, ⟨some 101, .len (.tmp 100), none⟩, ⟨some 102, .bin .rem (.tmp 98) (.tmp 101), none⟩, ⟨some 103, .build [.t (.int .i64 0), .t (.int .i64 0), .t (.int .i64 0)] [(0, (1, .tmp 82)), (1, (1, .tmp 92)), (2, (1, .tmp 102))], none⟩, ⟨some 104, .mkrow 861 76 3 1 [.t (.int .i64 0), .t (.int .i64 0), .t (.int .i64 0)] [(0, (3, .tmp 103))], none⟩, ⟨some 105, .append 862 76 3 24 (.tmp 76) (.tmp 104), none⟩, ⟨some 106, .fieldA 1 (.tmp 6), none⟩, ⟨none, .store 1 (.tmp 106) (.tmp 105), none⟩])) (.region [⟨some 73, .mv (.tmp 9), none⟩, ⟨some 74, .bin .add (.tmp 73) (.c (.one (.t (.int .i64 1)))), none⟩, ⟨some 9, .mv (.tmp 74), none⟩])))))) (.seq (.draw [[], [], [0, 0], [1, 2, 0, 1, 2]] [⟨some 107, .load true 2 (.tmp 6), none⟩, ⟨some 108, .load true 2 (.tmp 7), none⟩, ⟨none, .store 2 (.tmp 4) (.tmp 107), none⟩, ⟨none, .store 2 (.tmp 5) (.tmp 108), none⟩]) .ret))))))⟩
theorem k_grown10 : cFn Tryz.prog Tryz.f29 = some c_grown10 := by kernel_rfl
set_option maxHeartbeats 8000000 in
set_option maxRecDepth 20000 in
theorem grown10_ok (g : Gr) (l : List Nat) (gg : GrOk g) (hl : l.length ≤ 1048576) (hs : ∀ x ∈ l, x < 256) : CallOK Tryz.prog 29 [g.v, byV l] (.tup [(growG g l).v, (grM g l).v]) := by
  refine callOK_W (callS_W (by kernel_rfl) Tryz.func29 k_grown10 (callable_of Tryz.func29 (by kernel_rfl)) (by simp [c_grown10]) ?_)
  have b1 := gg.n
  have b2 := gg.e
  have tg : tinyG g := ⟨by show _ ≤ _; omega, by show _ ≤ _; omega⟩
  obtain ⟨s1, s2⟩ := grG_few (g := g) (l := l)
  have tG : tinyG (grG g l) := ⟨by show _ ≤ _; omega, by show _ ≤ _; omega⟩
  simp [c_grown10, dw0, dw1, dw2, dw3, byV, bys]
  refine dCall_ok (copied5_ok g tg) ?_ ?_ ?_
  · rfl
  · rfl
  simp [dw0, dw1, dw2, dw3]
  refine dCall_ok (of06_ok g tg) ?_ ?_ ?_
  · rfl
  · rfl
  simp [dw0, dw1, dw2, dw3]
  refine ⟨by first | kernel_rfl | rfl, ?_⟩
  have eb : 0 < l.length ∧ (imB l = true ∧ ((byth l 0 : Nat) : Int) < 255 ∨ ¬ imB l = true ∧ ¬ ((byth l 0 : Nat) : Int) < 255) ∨ ¬ 0 < l.length ∧ ¬ imB l = true := by
    by_cases z : 0 < l.length
    · by_cases y : byth l 0 < 255
      · exact .inl ⟨z, .inl ⟨by simp [imB, z, y], by omega⟩⟩
      · exact .inl ⟨z, .inr ⟨by simp [imB, y], by omega⟩⟩
    · exact .inr ⟨z, by simp [imB]; omega⟩
  rcases eb with ⟨z, ⟨hb, i1⟩ | ⟨hb, i1⟩⟩ | ⟨z, hb⟩
  all_goals
    first
    | (have q1 : grG g l = imG g (numsL l) := if_pos hb
       have q2 : grM g l = imM g (numsL l) := if_pos hb
       simp [len_byL, z, drop_byL0 z, i1]
       simp only [← drop_byL0 z]
       refine callS_tree (image06_ok g l gg hl hs) ?_ ?_ ?_
       · rfl
       · rfl
       rw [← q1, ← q2]
       simp
       refine copied5S (grG g l) tG fun v1 v2 ob' cnt' h1 h2 k1 k2 k3 => ?_
       have p0 := k2 0 0 (by simp)
       have p1 := k2 1 0 (by simp)
       have p2 := k1 2 0 (by decide) (by decide) (by decide) (by decide)
       have p6 := k1 68 0 (by decide) (by decide) (by decide) (by decide)
       have p7 := k1 69 0 (by decide) (by decide) (by decide) (by decide)
       simp at p0 p1 p2 p6 p7
       simp [p6])
    | (have q1 : grG g l = g := if_neg hb
       have q2 : grM g l = idP g := if_neg hb
       simp [len_byL, z, drop_byL0 z, i1]
       simp only [← drop_byL0 z]
       refine copied5S g tg fun v1 v2 ob' cnt' h1 h2 k1 k2 k3 => ?_
       have p0 := k2 0 0 (by simp)
       have p1 := k2 1 0 (by simp)
       have p2 := k1 2 0 (by decide) (by decide) (by decide) (by decide)
       have p6 := k1 68 0 (by decide) (by decide) (by decide) (by decide)
       have p7 := k1 69 0 (by decide) (by decide) (by decide) (by decide)
       simp at p0 p1 p2 p6 p7
       rw [← q2] at p7
       rw [← q1] at h1 h2
       simp [p6])
    | (have q1 : grG g l = g := if_neg hb
       have q2 : grM g l = idP g := if_neg hb
       simp [len_byL, z]
       refine copied5S g tg fun v1 v2 ob' cnt' h1 h2 k1 k2 k3 => ?_
       have p0 := k2 0 0 (by simp)
       have p1 := k2 1 0 (by simp)
       have p2 := k1 2 0 (by decide) (by decide) (by decide) (by decide)
       have p6 := k1 68 0 (by decide) (by decide) (by decide) (by decide)
       have p7 := k1 69 0 (by decide) (by decide) (by decide) (by decide)
       simp at p0 p1 p2 p6 p7
       rw [← q2] at p7
       rw [← q1] at h1 h2
       simp [p6])
    clear p6 k1 k2 k3 z hb q1 q2
    refine loopW_from 8 1 (max 1 (min l.length 4)) (fun k S => S.fr 1 = .one (.t (bys l)) ∧ S.fr 4 = .one (.ptr (1, 0) 0) ∧ S.fr 5 = .one (.ptr (2, 0) 0) ∧ S.fr 6 = .one (.ptr (68, 0) 0) ∧ S.fr 7 = .one (.ptr (69, 0) 0) ∧
      S.ob (1, 0) = some (bx 25 [.nil, .nil]) ∧ S.ob (2, 0) = some (bx 27 [.nil, .nil]) ∧ S.ob (69, 0) = some (bx 27 [.t (ints (grM g l).nodes), .t (ints (grM g l).edges)]) ∧
      outL [71] 76 3 (grG g l).edges.length (edL (grG g l).edges) S.ob (.one v2) ∧
      ∃ vN, S.ob (68, 0) = some (bx 25 [vN, v2]) ∧ outL [67, 586] 3 1 (grN g l (k - 1)).length ((grN g l (k - 1)).map (.int .i64)) S.ob (.one vN)) (by omega) (by omega) ?_ ?_ ?_
    · simp [p1, p2, p7, bys, len_byL, grN, collect_zero]
      refine ⟨outL.keep h2 fun nm hm gg => ?_, outL.keep (outL.wide h1 (by simp)) fun nm hm gg => ?_⟩
      · simp at hm
        subst hm
        simp
      · simp at hm
        rcases hm with rfl | rfl <;> simp
    · rintro k S hk1 hlt hw hc ⟨f1, f4, f5, f6, f7, o1, o2, o69, hE, vN, o68, hN⟩
      obtain ⟨j, hj⟩ : ∃ j, k = j + 1 := ⟨k - 1, by omega⟩
      have k1 : k < l.length := by omega
      have k2 : (k : Int) ≤ 3 := by omega
      obtain ⟨v, hv⟩ : ∃ v, v = byth l k := ⟨_, rfl⟩
      have v1' : v < 256 := by rw [hv]; exact byth_small hs k
      obtain ⟨p, hp⟩ : ∃ p, p = v % 2 := ⟨_, rfl⟩
      obtain ⟨q, hq⟩ : ∃ q, q = v / 2 := ⟨_, rfl⟩
      obtain ⟨r, hr⟩ : ∃ r, r = q % 3 := ⟨_, rfl⟩
      have e1 : (v : Int).tmod 2 = (p : Int) := by rw [hp]; exact rem2
      have e2 : (v : Int).tdiv 2 = (q : Int) := by rw [hq]; exact quo2
      have e3 : (q : Int).tmod 3 = (r : Int) := by rw [hr]; exact rem3
      have w1 : IntKind.u8.wrap (q : Int) = q := wrap8 (by omega)
      have w2 : IntKind.i64.wrap (q : Int) = q := by rw [wrap64_id] <;> omega
      have dv := drop_byL k1
      rw [← hv] at dv
      have cl := grN_len (g := g) (l := l) (k := k - 1)
      have gk : gnF l j = if p = 1 then some (r : Int) else none := by
        simp only [gnF, ← hj, ← hv, hp, hr, hq]
      by_cases h3 : p = 1
      · rw [if_pos h3] at gk
        have gs : grN g l k = grN g l (k - 1) ++ [(r : Int)] := by rw [hj, Nat.add_sub_cancel]; exact grN_some gk
        rcases outL2 hN with ⟨t1, t2, t3⟩ | ⟨t1, gN, t3, t4⟩ | ⟨t1, gN, t3, t4⟩
        all_goals
          subst t3
          simp [dw0, dw1, dw2, dw3, f1, f4, f5, f6, f7, o1, o2, o69, o68, hc, bys, len_byL, k1, k2, dv, e1, e2, e3, w1, w2, h3]
          refine kApp_growL (nm := 586) (ts := [.int .i64 r]) (by simp) rfl (keep2 hN (fun g => by simp) fun g => by simp) rfl (by omega) (by omega) fun E3 hE3 hob3 hcnt3 => ?_
          obtain ⟨u, hu3⟩ := hE3.one
          rw [hu3] at hE3
          have hE4 := keep1 hE (ob' := E3.ob) fun g => by rw [hob3 _ _ (by decide)]; simp
          simp [dw0, dw1, dw2, dw3, f1, f4, f5, f6, f7, o1, o2, o69, o68, hc, hw, hob3, hcnt3, hu3, gs, bys, len_byL]
          refine ⟨by first | kernel_rfl | rfl, ?_⟩
          try simp [f1, f4, f5, f6, f7, o1, o2, o69, o68, hc, hw, hob3, hcnt3, hu3, gs, bys, len_byL]
          exact ⟨keep1 hE4 fun g => by simp, keep2 (by simpa using hE3) (fun g => by simp) fun g => by simp⟩
      · rw [if_neg h3] at gk
        have gs : grN g l k = grN g l (k - 1) := by rw [hj, Nat.add_sub_cancel]; exact grN_none gk
        have h3' : ¬ (p : Int) = 1 := by omega
        simp [f1, f4, f5, f6, f7, o1, o2, o69, o68, hc, bys, len_byL, k1, k2, dv, e1, h3, h3', hw, gs]
        exact ⟨by simpa using hE, by simpa using hN⟩
    · rintro S hc ⟨f1, f4, f5, f6, f7, o1, o2, o69, hE, vN, o68, hN⟩
      have stop : (max 1 (min l.length 4) < l.length ∧ ¬ ((max 1 (min l.length 4) : Nat) : Int) ≤ 3) ∨ ¬ max 1 (min l.length 4) < l.length := by omega
      have eN : grN g l (max 1 (min l.length 4) - 1) = grn g l := by
        rw [grn]
        congr 1
        simp only [gnc]
        omega
      rw [eN] at hN
      have gl : (grn g l).length ≤ 43 := by
        have := grN_len (g := g) (l := l) (k := gnc l)
        have : gnc l ≤ 3 := by simp only [gnc]; omega
        have e : (grn g l).length = (grN g l (gnc l)).length := rfl
        omega
      have ge0 : grE g l 0 = (grG g l).edges := by simp [grE]
      generalize max 1 (min l.length 4) = mx at hc stop
      rcases outL2 hN with ⟨t1, t2, t3⟩ | ⟨t1, gN, t3, t4⟩ | ⟨t1, gN, t3, t4⟩
      · subst t3
        have z2 : gec g l = 0 := by simp [gec, t1]
        have e1 : growG g l = ⟨grn g l, (grG g l).edges⟩ := by rw [growG, z2, ge0]
        rw [e1]
        rcases stop with ⟨y1, y2⟩ | y1
        all_goals
          first
          | simp [f1, f4, f5, f6, f7, o1, o2, o69, o68, hc, bys, len_byL, y1, y2]
          | simp [f1, f4, f5, f6, f7, o1, o2, o69, o68, hc, bys, len_byL, y1]
          refine loopW_from 9 4 4 (fun k S => S.fr 1 = .one (.t (bys l)) ∧ S.fr 4 = .one (.ptr (1, 0) 0) ∧ S.fr 5 = .one (.ptr (2, 0) 0) ∧ S.fr 6 = .one (.ptr (68, 0) 0) ∧ S.fr 7 = .one (.ptr (69, 0) 0) ∧
        S.ob (1, 0) = some (bx 25 [.nil, .nil]) ∧ S.ob (2, 0) = some (bx 27 [.nil, .nil]) ∧ S.ob (69, 0) = some (bx 27 [.t (ints (grM g l).nodes), .t (ints (grM g l).edges)]) ∧
        outL [67, 586] 3 1 (grn g l).length ((grn g l).map (.int .i64)) S.ob (.one .nil) ∧
        ∃ vE, S.ob (68, 0) = some (bx 25 [.nil, vE]) ∧ outL [71, 862] 76 3 (grE g l (k - 4)).length (edL (grE g l (k - 4))) S.ob (.one vE)) (by omega) (by omega) ?_ ?_ ?_
          · simp [f1, f4, f5, f6, f7, o1, o2, o69, o68, hc, bys, len_byL, ge0]
            exact ⟨by simpa using hN, outL.wide (by simpa using hE) (by simp)⟩
          · rintro k S hk1 hlt _ _ _
            omega
          · rintro S hc ⟨f1, f4, f5, f6, f7, o1, o2, o69, hN, vE, o68, hE⟩
            rw [show (4 - 4 : Nat) = 0 from rfl, ge0] at hE
            have hx : (4 : Int) < l.length ∨ ¬ (4 : Int) < l.length := by omega
            have t1' : grn g l = [] := List.eq_nil_of_length_eq_zero t1
            rcases hx with hx | hx <;> rcases outL2 hE with ⟨u1, u2, u3⟩ | ⟨u1, gE, u3, u4⟩ | ⟨u1, gE, u3, u4⟩
            all_goals
              subst u3
              simp [dw0, dw1, dw2, dw3, f1, f4, f5, f6, f7, o1, o2, o69, o68, hc, bys, len_byL, hx]
              refine ⟨by first | kernel_rfl | rfl, ?_⟩
              first
              | (simp [u4, t1', untreeI, untreeT]; done)
              | exact ⟨⟨t1.symm, t1'⟩, u1.symm, u2⟩
      · subst t3
        have zn : ¬ (grn g l).length = 0 := by omega
        have z2 : gec g l = min l.length 8 - 4 := by rw [gec, if_neg zn]
        have zp : (0 : Int) < (grn g l).length := by omega
        rcases stop with ⟨y1, y2⟩ | y1
        all_goals
          first
          | simp [f1, f4, f5, f6, f7, o1, o2, o69, o68, hc, bys, len_byL, y1, y2]
          | simp [f1, f4, f5, f6, f7, o1, o2, o69, o68, hc, bys, len_byL, y1]
          refine loopW_from 9 4 (max 4 (min l.length 8)) (fun k S => S.fr 1 = .one (.t (bys l)) ∧ S.fr 4 = .one (.ptr (1, 0) 0) ∧ S.fr 5 = .one (.ptr (2, 0) 0) ∧ S.fr 6 = .one (.ptr (68, 0) 0) ∧ S.fr 7 = .one (.ptr (69, 0) 0) ∧
        S.ob (1, 0) = some (bx 25 [.nil, .nil]) ∧ S.ob (2, 0) = some (bx 27 [.nil, .nil]) ∧ S.ob (69, 0) = some (bx 27 [.t (ints (grM g l).nodes), .t (ints (grM g l).edges)]) ∧
        S.ob (67, gN) = some ⟨true, true, false, 1, (grn g l).length, 3, ((grn g l).map (.int .i64)).map .t⟩ ∧
        ∃ vE, S.ob (68, 0) = some (bx 25 [.row (67, gN), vE]) ∧ outL [71, 862] 76 3 (grE g l (k - 4)).length (edL (grE g l (k - 4))) S.ob (.one vE)) (by omega) (by omega) ?_ ?_ ?_
          · simp [f1, f4, f5, f6, f7, o1, o2, o69, o68, hc, bys, len_byL, ge0, t4]
            exact outL.wide (by simpa using hE) (by simp)
          · rintro k S hk1 hlt hw hc ⟨f1, f4, f5, f6, f7, o1, o2, o69, t4, vE, o68, hE⟩
            obtain ⟨j, hj⟩ : ∃ j, k = j + 4 := ⟨k - 4, by omega⟩
            have k1 : k < l.length := by omega
            have k2 : (k : Int) ≤ 7 := by omega
            obtain ⟨v, hv⟩ : ∃ v, v = byth l k := ⟨_, rfl⟩
            have v1' : v < 256 := by rw [hv]; exact byth_small hs k
            obtain ⟨n, hn⟩ : ∃ n, n = (grn g l).length := ⟨_, rfl⟩
            obtain ⟨p, hp⟩ : ∃ p, p = v % 2 := ⟨_, rfl⟩
            obtain ⟨q, hq⟩ : ∃ q, q = v / 2 := ⟨_, rfl⟩
            obtain ⟨s, hs'⟩ : ∃ s, s = v / 16 := ⟨_, rfl⟩
            obtain ⟨a, ha⟩ : ∃ a, a = q % n := ⟨_, rfl⟩
            obtain ⟨b, hb⟩ : ∃ b, b = s % n := ⟨_, rfl⟩
            have e1 : (v : Int).tmod 2 = (p : Int) := by rw [hp]; exact rem2
            have e2 : (v : Int).tdiv 2 = (q : Int) := by rw [hq]; exact quo2
            have e3 : (v : Int).tdiv 16 = (s : Int) := by rw [hs']; exact quo16
            have e4 : (q : Int).tmod (n : Int) = (a : Int) := by rw [ha]; exact nat_rem
            have e5 : (s : Int).tmod (n : Int) = (b : Int) := by rw [hb]; exact nat_rem
            have w0 : IntKind.i64.wrap (v : Int) = v := by rw [wrap64_id] <;> omega
            have w1 : IntKind.u8.wrap (q : Int) = q := wrap8 (by omega)
            have w2 : IntKind.i64.wrap (q : Int) = q := by rw [wrap64_id] <;> omega
            have w3 : IntKind.u8.wrap (s : Int) = s := wrap8 (by omega)
            have w4 : IntKind.i64.wrap (s : Int) = s := by rw [wrap64_id] <;> omega
            have dv := drop_byL k1
            rw [← hv] at dv
            have gx : geX l n j = ⟨(p : Nat), (a : Nat), (b : Nat)⟩ := by simp only [geX, ← hj, ← hv, ← hp, ← hq, ← hs', ← ha, ← hb]
            have gs : grE g l (k - 3) = grE g l (k - 4) ++ [⟨(p : Nat), (a : Nat), (b : Nat)⟩] := by
              rw [show k - 3 = j + 1 by omega, show k - 4 = j by omega, grE_succ, ← hn, gx]
            have cl := grE_len (g := g) (l := l) (k := k - 4)
            have zn' : ¬ n = 0 := by omega
            have zp' : 0 < n := by omega
            rw [← hn] at t4
            rcases outL2 hE with ⟨u1, u2, u3⟩ | ⟨u1, gE, u3, u4⟩ | ⟨u1, gE, u3, u4⟩
            all_goals
              subst u3
              simp [dw0, dw1, dw2, dw3, f1, f4, f5, f6, f7, o1, o2, o69, o68, t4, hc, bys, len_byL, k1, k2, dv, zn', zp', e1, e2, e3, e4, e5, w0, w1, w2, w3, w4]
              refine kApp_growL (nm := 862) (ts := [.int .i64 p, .int .i64 a, .int .i64 b]) (by simp) rfl (keep2 hE (fun g => by simp) fun g => by simp) rfl (by omega) (by omega) fun E3 hE3 hob3 hcnt3 => ?_
              obtain ⟨u, hu3⟩ := hE3.one
              rw [hu3] at hE3
              simp [dw0, dw1, dw2, dw3, f1, f4, f5, f6, f7, o1, o2, o69, o68, t4, hc, hw, hob3, hcnt3, hu3, gs, bys, len_byL, ← hn]
              refine ⟨by first | kernel_rfl | rfl, ?_⟩
              try simp [f1, f4, f5, f6, f7, o1, o2, o69, o68, t4, hc, hw, hob3, hcnt3, hu3, gs, bys, len_byL, ← hn]
              exact keep2 (by simpa [edL, edC] using hE3) (fun g => by simp) fun g => by simp
          · rintro S hc ⟨f1, f4, f5, f6, f7, o1, o2, o69, t4, vE, o68, hE⟩
            have stop2 : (max 4 (min l.length 8) < l.length ∧ ¬ ((max 4 (min l.length 8) : Nat) : Int) ≤ 7) ∨ ¬ max 4 (min l.length 8) < l.length := by omega
            have eE : grE g l (max 4 (min l.length 8) - 4) = (growG g l).edges := by
              show _ = grE g l (gec g l)
              congr 1
              rw [z2]
              omega
            have eN : grn g l = (growG g l).nodes := rfl
            rw [eE] at hE
            rw [eN] at t4
            generalize growG g l = GG at hE t4 ⊢
            generalize grM g l = MM at o69 ⊢
            generalize max 4 (min l.length 8) = my at hc stop2
            rcases stop2 with ⟨y1, y2⟩ | y1 <;> rcases outL2 hE with ⟨u1, u2, u3⟩ | ⟨u1, gE, u3, u4⟩ | ⟨u1, gE, u3, u4⟩
            all_goals
              subst u3
              first
              | simp [dw0, dw1, dw2, dw3, f1, f4, f5, f6, f7, o1, o2, o69, o68, t4, hc, bys, len_byL, y1, y2]
              | simp [dw0, dw1, dw2, dw3, f1, f4, f5, f6, f7, o1, o2, o69, o68, t4, hc, bys, len_byL, y1]
              refine ⟨by first | kernel_rfl | rfl, ?_⟩
              first
              | simp [u4, t4, untreeI, untreeT]
              | simp [u1, u2, t4, untreeI, untreeT]
              try omega
      · subst t3
        have zn : ¬ (grn g l).length = 0 := by omega
        have z2 : gec g l = min l.length 8 - 4 := by rw [gec, if_neg zn]
        have zp : (0 : Int) < (grn g l).length := by omega
        rcases stop with ⟨y1, y2⟩ | y1
        all_goals
          first
          | simp [f1, f4, f5, f6, f7, o1, o2, o69, o68, hc, bys, len_byL, y1, y2]
          | simp [f1, f4, f5, f6, f7, o1, o2, o69, o68, hc, bys, len_byL, y1]
          refine loopW_from 9 4 (max 4 (min l.length 8)) (fun k S => S.fr 1 = .one (.t (bys l)) ∧ S.fr 4 = .one (.ptr (1, 0) 0) ∧ S.fr 5 = .one (.ptr (2, 0) 0) ∧ S.fr 6 = .one (.ptr (68, 0) 0) ∧ S.fr 7 = .one (.ptr (69, 0) 0) ∧
        S.ob (1, 0) = some (bx 25 [.nil, .nil]) ∧ S.ob (2, 0) = some (bx 27 [.nil, .nil]) ∧ S.ob (69, 0) = some (bx 27 [.t (ints (grM g l).nodes), .t (ints (grM g l).edges)]) ∧
        S.ob (586, gN) = some ⟨true, true, false, 1, (grn g l).length, 3, ((grn g l).map (.int .i64)).map .t⟩ ∧
        ∃ vE, S.ob (68, 0) = some (bx 25 [.row (586, gN), vE]) ∧ outL [71, 862] 76 3 (grE g l (k - 4)).length (edL (grE g l (k - 4))) S.ob (.one vE)) (by omega) (by omega) ?_ ?_ ?_
          · simp [f1, f4, f5, f6, f7, o1, o2, o69, o68, hc, bys, len_byL, ge0, t4]
            exact outL.wide (by simpa using hE) (by simp)
          · rintro k S hk1 hlt hw hc ⟨f1, f4, f5, f6, f7, o1, o2, o69, t4, vE, o68, hE⟩
            obtain ⟨j, hj⟩ : ∃ j, k = j + 4 := ⟨k - 4, by omega⟩
            have k1 : k < l.length := by omega
            have k2 : (k : Int) ≤ 7 := by omega
            obtain ⟨v, hv⟩ : ∃ v, v = byth l k := ⟨_, rfl⟩
            have v1' : v < 256 := by rw [hv]; exact byth_small hs k
            obtain ⟨n, hn⟩ : ∃ n, n = (grn g l).length := ⟨_, rfl⟩
            obtain ⟨p, hp⟩ : ∃ p, p = v % 2 := ⟨_, rfl⟩
            obtain ⟨q, hq⟩ : ∃ q, q = v / 2 := ⟨_, rfl⟩
            obtain ⟨s, hs'⟩ : ∃ s, s = v / 16 := ⟨_, rfl⟩
            obtain ⟨a, ha⟩ : ∃ a, a = q % n := ⟨_, rfl⟩
            obtain ⟨b, hb⟩ : ∃ b, b = s % n := ⟨_, rfl⟩
            have e1 : (v : Int).tmod 2 = (p : Int) := by rw [hp]; exact rem2
            have e2 : (v : Int).tdiv 2 = (q : Int) := by rw [hq]; exact quo2
            have e3 : (v : Int).tdiv 16 = (s : Int) := by rw [hs']; exact quo16
            have e4 : (q : Int).tmod (n : Int) = (a : Int) := by rw [ha]; exact nat_rem
            have e5 : (s : Int).tmod (n : Int) = (b : Int) := by rw [hb]; exact nat_rem
            have w0 : IntKind.i64.wrap (v : Int) = v := by rw [wrap64_id] <;> omega
            have w1 : IntKind.u8.wrap (q : Int) = q := wrap8 (by omega)
            have w2 : IntKind.i64.wrap (q : Int) = q := by rw [wrap64_id] <;> omega
            have w3 : IntKind.u8.wrap (s : Int) = s := wrap8 (by omega)
            have w4 : IntKind.i64.wrap (s : Int) = s := by rw [wrap64_id] <;> omega
            have dv := drop_byL k1
            rw [← hv] at dv
            have gx : geX l n j = ⟨(p : Nat), (a : Nat), (b : Nat)⟩ := by simp only [geX, ← hj, ← hv, ← hp, ← hq, ← hs', ← ha, ← hb]
            have gs : grE g l (k - 3) = grE g l (k - 4) ++ [⟨(p : Nat), (a : Nat), (b : Nat)⟩] := by
              rw [show k - 3 = j + 1 by omega, show k - 4 = j by omega, grE_succ, ← hn, gx]
            have cl := grE_len (g := g) (l := l) (k := k - 4)
            have zn' : ¬ n = 0 := by omega
            have zp' : 0 < n := by omega
            rw [← hn] at t4
            rcases outL2 hE with ⟨u1, u2, u3⟩ | ⟨u1, gE, u3, u4⟩ | ⟨u1, gE, u3, u4⟩
            all_goals
              subst u3
              simp [dw0, dw1, dw2, dw3, f1, f4, f5, f6, f7, o1, o2, o69, o68, t4, hc, bys, len_byL, k1, k2, dv, zn', zp', e1, e2, e3, e4, e5, w0, w1, w2, w3, w4]
              refine kApp_growL (nm := 862) (ts := [.int .i64 p, .int .i64 a, .int .i64 b]) (by simp) rfl (keep2 hE (fun g => by simp) fun g => by simp) rfl (by omega) (by omega) fun E3 hE3 hob3 hcnt3 => ?_
              obtain ⟨u, hu3⟩ := hE3.one
              rw [hu3] at hE3
              simp [dw0, dw1, dw2, dw3, f1, f4, f5, f6, f7, o1, o2, o69, o68, t4, hc, hw, hob3, hcnt3, hu3, gs, bys, len_byL, ← hn]
              refine ⟨by first | kernel_rfl | rfl, ?_⟩
              try simp [f1, f4, f5, f6, f7, o1, o2, o69, o68, t4, hc, hw, hob3, hcnt3, hu3, gs, bys, len_byL, ← hn]
              exact keep2 (by simpa [edL, edC] using hE3) (fun g => by simp) fun g => by simp
          · rintro S hc ⟨f1, f4, f5, f6, f7, o1, o2, o69, t4, vE, o68, hE⟩
            have stop2 : (max 4 (min l.length 8) < l.length ∧ ¬ ((max 4 (min l.length 8) : Nat) : Int) ≤ 7) ∨ ¬ max 4 (min l.length 8) < l.length := by omega
            have eE : grE g l (max 4 (min l.length 8) - 4) = (growG g l).edges := by
              show _ = grE g l (gec g l)
              congr 1
              rw [z2]
              omega
            have eN : grn g l = (growG g l).nodes := rfl
            rw [eE] at hE
            rw [eN] at t4
            generalize growG g l = GG at hE t4 ⊢
            generalize grM g l = MM at o69 ⊢
            generalize max 4 (min l.length 8) = my at hc stop2
            rcases stop2 with ⟨y1, y2⟩ | y1 <;> rcases outL2 hE with ⟨u1, u2, u3⟩ | ⟨u1, gE, u3, u4⟩ | ⟨u1, gE, u3, u4⟩
            all_goals
              subst u3
              first
              | simp [dw0, dw1, dw2, dw3, f1, f4, f5, f6, f7, o1, o2, o69, o68, t4, hc, bys, len_byL, y1, y2]
              | simp [dw0, dw1, dw2, dw3, f1, f4, f5, f6, f7, o1, o2, o69, o68, t4, hc, bys, len_byL, y1]
              refine ⟨by first | kernel_rfl | rfl, ?_⟩
              first
              | simp [u4, t4, untreeI, untreeT]
              | simp [u1, u2, t4, untreeI, untreeT]
              try omega
end Go.Proofs.YthcnpnogfblkcaaGreat

/- Contracts: spans of descriptions; squares of standard pushouts. -/
namespace Go.Proofs.YthcnpnogfblkcaaGreat
open Abs
set_option linter.unusedSimpArgs false
set_option linter.unusedVariables false
attribute [local simp] rn0 rn1 rn2 rn3 rn4 rn5 rn6 rn7 evOp nests Arg.ev St.val St.set St.new sliceOf binInt2 binInt AV.cells rdAt St.live retOf resOf resAll treeOf treeCell treeCells treeTups untree frameOf TV.av TR.av ints edgs prs fillV splice intsOf trees V1.tree bx Gr.v Pa.v

theorem mdN_nth {d : Dr} {k i : Nat} (h : i < k) : nth (mdN d k) i = ((byth d.nodes i % 3 : Nat) : Int) := by
  rw [nth_eq (by rw [mdN_len]; exact h)]; simp [mdN]
theorem mdE_eth {d : Dr} {k i : Nat} (h : i < k) : eth (mdE d k) i = mdX d i := by
  rw [eth_eq (by rw [mdE_len]; exact h)]; simp [mdE]
theorem mdG_few {d : Dr} : (mdG d).nodes.length ≤ 8 ∧ (mdG d).edges.length ≤ 10 := by
  refine ⟨?_, ?_⟩
  · simp only [mdG, mdN_len, mdn]
    omega
  · simp only [mdG, mdE_len, mde]
    split <;> omega
theorem mdG_ok {d : Dr} : GrOk (mdG d) := by
  have hf := mdG_few (d := d)
  refine ⟨by omega, by omega, fun x hx => ?_, fun e he => ?_⟩
  · obtain ⟨i, hi, rfl⟩ := mem_nth hx
    simp only [mdG, mdN_len] at hi
    simp only [mdG]
    rw [mdN_nth hi]
    omega
  · obtain ⟨i, hi, rfl⟩ := mem_eth he
    simp only [mdG, mdE_len] at hi
    have z : mdn d ≠ 0 := by
      intro h
      simp [mde, h] at hi
    have z1 := Nat.mod_lt (t3th d.edges i).b (Nat.pos_of_ne_zero z)
    have z2 := Nat.mod_lt (t3th d.edges i).c (Nat.pos_of_ne_zero z)
    simp only [mdG]
    rw [mdE_eth hi, mdX, mdN_len]
    simp only
    omega

def mdS (d : Dr) (b c : List Nat) : Sp := ⟨mdG d, growG (mdG d) b, growG (mdG d) c, grM (mdG d) b, grM (mdG d) c⟩
def c_made10 : MFunc := ⟨30, [.cell 6 true 10], .seq (.region [⟨some 3, .box 0 42 (.tmp 0), none⟩, ⟨some 6, .alloc 1 47 [.nil, .nil, .nil, .nil, .nil, .nil, .nil, .nil, .nil, .nil], none⟩]) (.seq (.region [⟨some 8, .load true 2 (.tmp 3), none⟩, ⟨some 9, .call (.c (.one (.fn 28 []))) 65 [.tmp 8], none⟩, ⟨some 10, .build [.nil, .nil, .nil, .nil, .nil, .nil, .nil, .nil, .nil, .nil] [(0, (2, .tmp 9))], none⟩, ⟨some 7, .alloc 67 47 [.nil, .nil, .nil, .nil, .nil, .nil, .nil, .nil, .nil, .nil], none⟩, ⟨none, .store 10 (.tmp 7) (.tmp 10), none⟩]) (.seq (.region [⟨some 12, .fieldA 0 (.tmp 7), none⟩, ⟨some 13, .load true 2 (.tmp 12), none⟩, ⟨some 14, .mv (.tmp 1), none⟩, ⟨some 15, .call (.c (.one (.fn 29 []))) 131 [.tmp 13, .tmp 14], none⟩, ⟨some 11, .mv (.tmp 15), none⟩, ⟨some 16, .extract (.tmp 11) 0, none⟩, ⟨some 17, .extract (.tmp 11) 1, none⟩, ⟨some 18, .fieldA 2 (.tmp 7), none⟩, ⟨none, .store 2 (.tmp 18) (.tmp 16), none⟩, ⟨some 19, .fieldA 6 (.tmp 7), none⟩, ⟨none, .store 2 (.tmp 19) (.tmp 17), none⟩]) (.seq (.region [⟨some 21, .fieldA 0 (.tmp 7), none⟩, ⟨some 22, .load true 2 (.tmp 21), none⟩, ⟨some 23, .mv (.tmp 2), none⟩, ⟨some 24, .call (.c (.one (.fn 29 []))) 195 [.tmp 22, .tmp 23], none⟩, ⟨some 20, .mv (.tmp 24), none⟩, ⟨some 25, .extract (.tmp 20) 0, none⟩, ⟨some 26, .extract (.tmp 20) 1, none⟩, ⟨some 27, .fieldA 4 (.tmp 7), none⟩, ⟨none, .store 2 (.tmp 27) (.tmp 25), none⟩, ⟨some 28, .fieldA 8 (.tmp 7), none⟩, ⟨none, .store 2 (.tmp 28) (.tmp 26), none⟩]) (.seq (.region [⟨some 29, .load true 10 (.tmp 7), none⟩, ⟨none, .store 10 (.tmp 6) (.tmp 29), none⟩]) .ret))))⟩
theorem k_made10 : cFn Tryz.prog Tryz.f19 = some c_made10 := by kernel_rfl
set_option maxHeartbeats 1000000 in
theorem made10_ok (d : Dr) (b c : List Nat) (hd : BoundD d) (hb : b.length ≤ 1048576) (hbs : ∀ x ∈ b, x < 256) (hc : c.length ≤ 1048576) (hcs : ∀ x ∈ c, x < 256) : CallOK Tryz.prog 19 [d.v, byV b, byV c] (.sv (mdS d b c).v) := by
  refine callOK_W (callS_W (by kernel_rfl) Tryz.func19 k_made10 (callable_of Tryz.func19 (by kernel_rfl)) (by simp [c_made10]) ?_)
  simp [c_made10, byV, bys, Dr.v]
  refine callS_tree (made05_ok d hd) ?_ ?_ ?_
  · rfl
  · rfl
  simp
  refine callS_tree (grown10_ok (mdG d) b mdG_ok hb hbs) ?_ ?_ ?_
  · rfl
  · rfl
  simp
  refine callS_tree (grown10_ok (mdG d) c mdG_ok hc hcs) ?_ ?_ ?_
  · rfl
  · rfl
  simp [Sp.v, Sp.cs, mdS]

def glS (s : Sp) : Sq := ⟨s.A, s.B, s.C, (poR s).1, s.F, s.G, (poR s).2.1, (poR s).2.2.1⟩
def c_glued14 : MFunc := ⟨28, [.cell 2 true 16], .seq (.region [⟨some 1, .box 0 47 (.tmp 0), none⟩, ⟨some 2, .alloc 1 29 [.nil, .nil, .nil, .nil, .nil, .nil, .nil, .nil, .nil, .nil, .nil, .nil, .nil, .nil, .nil, .nil], none⟩]) (.seq (.region [⟨some 8, .load true 10 (.tmp 1), none⟩, ⟨some 9, .call (.c (.one (.fn 53 []))) 65 [.tmp 8], none⟩, ⟨some 7, .mv (.tmp 9), none⟩, ⟨some 10, .extract (.tmp 7) 0, none⟩, ⟨some 11, .extract (.tmp 7) 1, none⟩, ⟨some 12, .extract (.tmp 7) 2, none⟩, ⟨some 13, .extract (.tmp 7) 3, none⟩, ⟨some 3, .alloc 71 25 [.nil, .nil], none⟩, ⟨some 4, .alloc 72 27 [.nil, .nil], none⟩, ⟨some 5, .alloc 73 27 [.nil, .nil], none⟩, ⟨none, .store 2 (.tmp 3) (.tmp 10), none⟩, ⟨none, .store 2 (.tmp 4) (.tmp 11), none⟩, ⟨none, .store 2 (.tmp 5) (.tmp 12), none⟩, ⟨some 6, .mv (.tmp 13), none⟩]) (.seq (.region [⟨some 14, .fieldA 0 (.tmp 1), none⟩, ⟨some 15, .load true 2 (.tmp 14), none⟩, ⟨some 16, .fieldA 2 (.tmp 1), none⟩, ⟨some 17, .load true 2 (.tmp 16), none⟩, ⟨some 18, .fieldA 4 (.tmp 1), none⟩, ⟨some 19, .load true 2 (.tmp 18), none⟩, ⟨some 20, .load true 2 (.tmp 3), none⟩, ⟨some 21, .fieldA 6 (.tmp 1), none⟩, ⟨some 22, .load true 2 (.tmp 21), none⟩, ⟨some 23, .fieldA 8 (.tmp 1), none⟩, ⟨some 24, .load true 2 (.tmp 23), none⟩, ⟨some 25, .load true 2 (.tmp 4), none⟩, ⟨some 26, .load true 2 (.tmp 5), none⟩, ⟨some 27, .build [.nil, .nil, .nil, .nil, .nil, .nil, .nil, .nil, .nil, .nil, .nil, .nil, .nil, .nil, .nil, .nil] [(0, (2, .tmp 15)), (2, (2, .tmp 17)), (4, (2, .tmp 19)), (6, (2, .tmp 20)), (8, (2, .tmp 22)), (10, (2, .tmp 24)), (12, (2, .tmp 25)), (14, (2, .tmp 26))], none⟩, ⟨none, .store 16 (.tmp 2) (.tmp 27), none⟩]) .ret))⟩
theorem k_glued14 : cFn Tryz.prog Tryz.f18 = some c_glued14 := by kernel_rfl
theorem glued14_ok (s : Sp) (h : TinySp s) : CallOK Tryz.prog 18 [s.v] (.sv (glS s).v) := by
  refine callOK_W (callS_W (by kernel_rfl) Tryz.func18 k_glued14 (callable_of Tryz.func18 (by kernel_rfl)) (by simp [c_glued14]) ?_)
  simp [c_glued14, Sp.v, Sp.cs]
  refine callS_tree (of10_ok s h) ?_ ?_ ?_
  · rfl
  · rfl
  simp [gluT, glS, Sq.v, Sq.cs]
end Go.Proofs.YthcnpnogfblkcaaGreat

/- Plain laws on pushouts and pullbacks of functions between the numbers below bounds. -/
namespace Go.Proofs.YthcnpnogfblkcaaGreat.Po
set_option linter.unusedVariables false

/-- f takes the numbers below n to numbers below m. -/
def Maps (n m : Nat) (f : Nat → Nat) : Prop := ∀ i, i < n → f i < m

structure PO (nA nB nC nD : Nat) (f g h k : Nat → Nat) : Prop where
  comm : ∀ a, a < nA → h (f a) = k (g a)
  cover : ∀ d, d < nD → (∃ b, b < nB ∧ h b = d) ∨ (∃ c, c < nC ∧ k c = d)
  univ : ∀ φ ψ : Nat → Nat, (∀ a, a < nA → φ (f a) = ψ (g a)) → ∃ u : Nat → Nat, (∀ b, b < nB → u (h b) = φ b) ∧ (∀ c, c < nC → u (k c) = ψ c)

structure PB (nA nB nC : Nat) (f g h k : Nat → Nat) : Prop where
  comm : ∀ a, a < nA → h (f a) = k (g a)
  ex : ∀ b c, b < nB → c < nC → h b = k c → ∃ a, a < nA ∧ f a = b ∧ g a = c
  uniq : ∀ a a', a < nA → a' < nA → f a = f a' → g a = g a' → a = a'

theorem PO.symm {nA nB nC nD : Nat} {f g h k : Nat → Nat} (p : PO nA nB nC nD f g h k) : PO nA nC nB nD g f k h where
  comm := fun a ha => (p.comm a ha).symm
  cover := fun d hd => (p.cover d hd).symm
  univ := fun φ ψ hc => by
    obtain ⟨u, h1, h2⟩ := p.univ ψ φ (fun a ha => (hc a ha).symm)
    exact ⟨u, h2, h1⟩

theorem PB.symm {nA nB nC : Nat} {f g h k : Nat → Nat} (p : PB nA nB nC f g h k) : PB nA nC nB g f k h where
  comm := fun a ha => (p.comm a ha).symm
  ex := fun b c hb hc e => by
    obtain ⟨a, h1, h2, h3⟩ := p.ex c b hc hb e.symm
    exact ⟨a, h1, h3, h2⟩
  uniq := fun a a' h1 h2 e1 e2 => p.uniq a a' h1 h2 e2 e1

/-- Only the values below the bounds count. -/
theorem PO.congr {nA nB nC nD : Nat} {f g h k f' g' h' k' : Nat → Nat} (p : PO nA nB nC nD f g h k) (mf : Maps nA nB f) (mg : Maps nA nC g)
    (ef : ∀ i, i < nA → f' i = f i) (eg : ∀ i, i < nA → g' i = g i) (eh : ∀ i, i < nB → h' i = h i) (ek : ∀ i, i < nC → k' i = k i) : PO nA nB nC nD f' g' h' k' where
  comm := fun a ha => by rw [ef a ha, eg a ha, eh _ (mf a ha), ek _ (mg a ha)]; exact p.comm a ha
  cover := fun d hd => by
    rcases p.cover d hd with ⟨b, hb, e⟩ | ⟨c, hc, e⟩
    · exact .inl ⟨b, hb, by rw [eh b hb]; exact e⟩
    · exact .inr ⟨c, hc, by rw [ek c hc]; exact e⟩
  univ := fun φ ψ hc => by
    obtain ⟨u, h1, h2⟩ := p.univ φ ψ (fun a ha => by rw [← ef a ha, ← eg a ha]; exact hc a ha)
    exact ⟨u, fun b hb => by rw [eh b hb]; exact h1 b hb, fun c hc => by rw [ek c hc]; exact h2 c hc⟩

theorem PB.congr {nA nB nC : Nat} {f g h k f' g' h' k' : Nat → Nat} (p : PB nA nB nC f g h k) (mf : Maps nA nB f) (mg : Maps nA nC g)
    (ef : ∀ i, i < nA → f' i = f i) (eg : ∀ i, i < nA → g' i = g i) (eh : ∀ i, i < nB → h' i = h i) (ek : ∀ i, i < nC → k' i = k i) : PB nA nB nC f' g' h' k' where
  comm := fun a ha => by rw [ef a ha, eg a ha, eh _ (mf a ha), ek _ (mg a ha)]; exact p.comm a ha
  ex := fun b c hb hc e => by
    rw [eh b hb, ek c hc] at e
    obtain ⟨a, ha, h1, h2⟩ := p.ex b c hb hc e
    exact ⟨a, ha, by rw [ef a ha]; exact h1, by rw [eg a ha]; exact h2⟩
  uniq := fun a a' h1 h2 e1 e2 => by
    rw [ef a h1, ef a' h2] at e1
    rw [eg a h1, eg a' h2] at e2
    exact p.uniq a a' h1 h2 e1 e2

/-- The outer square of two pushouts is a pushout. -/
theorem po_paste {nA nB nC nD nE nF : Nat} {f g h k f2 h2 k2 : Nat → Nat} (p : PO nA nB nC nD f g h k) (q : PO nB nE nD nF f2 h h2 k2)
    (mf : Maps nA nB f) (mg : Maps nA nC g) (mh : Maps nB nD h) (mk : Maps nC nD k) (mf2 : Maps nB nE f2) :
    PO nA nE nC nF (fun a => f2 (f a)) g h2 (fun c => k2 (k c)) where
  comm := fun a ha => by
    show h2 (f2 (f a)) = k2 (k (g a))
    rw [q.comm (f a) (mf a ha), p.comm a ha]
  cover := fun d hd => by
    rcases q.cover d hd with ⟨b, hb, e⟩ | ⟨c, hc, e⟩
    · exact .inl ⟨b, hb, e⟩
    · rcases p.cover c hc with ⟨b, hb, e'⟩ | ⟨c', hc', e'⟩
      · refine .inl ⟨f2 b, ?_, ?_⟩
        · exact mf2 b hb
        · rw [q.comm b hb, e', e]
      · exact .inr ⟨c', hc', by show k2 (k c') = d; rw [e', e]⟩
  univ := fun φ ψ hc => by
    obtain ⟨u, h1, h2⟩ := p.univ (fun b => φ (f2 b)) ψ hc
    obtain ⟨v, h3, h4⟩ := q.univ φ u (fun b hb => (h1 b hb).symm)
    exact ⟨v, h3, fun c hc => by rw [h4 (k c) (mk c hc)]; exact h2 c hc⟩

/-- If the outer square and the first one are pushouts, so is the second one. -/
theorem po_second {nA nB nC nD nE nF : Nat} {f g h k f2 h2 k2 : Nat → Nat} (p : PO nA nB nC nD f g h k)
    (o : PO nA nE nC nF (fun a => f2 (f a)) g h2 (fun c => k2 (k c)))
    (cm : ∀ b, b < nB → h2 (f2 b) = k2 (h b)) (mf : Maps nA nB f) (mg : Maps nA nC g) (mk : Maps nC nD k) (mf2 : Maps nB nE f2) : PO nB nE nD nF f2 h h2 k2 where
  comm := cm
  cover := fun d hd => by
    rcases o.cover d hd with ⟨b, hb, e⟩ | ⟨c, hc, e⟩
    · exact .inl ⟨b, hb, e⟩
    · exact .inr ⟨k c, mk c hc, e⟩
  univ := fun φ u hc => by
    obtain ⟨v, h3, h4⟩ := o.univ φ (fun c => u (k c)) (fun a ha => by
      show φ (f2 (f a)) = u (k (g a))
      rw [hc (f a) (mf a ha), p.comm a ha])
    refine ⟨v, h3, fun d hd => ?_⟩
    rcases p.cover d hd with ⟨b, hb, e⟩ | ⟨c, hc', e⟩
    · rw [← e, ← cm b hb, h3 _ (mf2 b hb), hc b hb]
    · rw [← e]; exact h4 c hc'

open Classical in
/-- A pushout that is pulled back along m is a pushout. -/
theorem po_lift {nA nB nC nD nX nA' nB' nC' : Nat} {f g h k m pa xa pb xb pc xc f' g' : Nat → Nat} (p : PO nA nB nC nD f g h k)
    (mf : Maps nA nB f) (mg : Maps nA nC g) (mm : Maps nX nD m)
    (B : PB nB' nB nX pb xb h m) (C : PB nC' nC nX pc xc k m) (A : PB nA' nA nX pa xa (fun a => h (f a)) m)
    (mpb : Maps nB' nB pb) (mxb : Maps nB' nX xb) (mpc : Maps nC' nC pc) (mxc : Maps nC' nX xc) (mpa : Maps nA' nA pa)
    (mf' : Maps nA' nB' f') (mg' : Maps nA' nC' g')
    (ef : ∀ a, a < nA' → pb (f' a) = f (pa a)) (ef2 : ∀ a, a < nA' → xb (f' a) = xa a)
    (eg : ∀ a, a < nA' → pc (g' a) = g (pa a)) (eg2 : ∀ a, a < nA' → xc (g' a) = xa a) : PO nA' nB' nC' nX f' g' xb xc where
  comm := fun a ha => by rw [ef2 a ha, eg2 a ha]
  cover := fun x hx => by
    rcases p.cover (m x) (mm x hx) with ⟨b, hb, e⟩ | ⟨c, hc, e⟩
    · obtain ⟨b', h1, _, h3⟩ := B.ex b x hb hx e
      exact .inl ⟨b', h1, h3⟩
    · obtain ⟨c', h1, _, h3⟩ := C.ex c x hc hx e
      exact .inr ⟨c', h1, h3⟩
  univ := fun φ ψ hc => by
    let φx : Nat → Nat → Nat := fun x b => if e : ∃ b', b' < nB' ∧ pb b' = b ∧ xb b' = x then φ e.choose + 1 else 0
    let ψx : Nat → Nat → Nat := fun x c => if e : ∃ c', c' < nC' ∧ pc c' = c ∧ xc c' = x then ψ e.choose + 1 else 0
    have hφ : ∀ b', b' < nB' → φx (xb b') (pb b') = φ b' + 1 := fun b' hb' => by
      have e : ∃ b'', b'' < nB' ∧ pb b'' = pb b' ∧ xb b'' = xb b' := ⟨b', hb', rfl, rfl⟩
      have := e.choose_spec
      show (if e : ∃ b'', b'' < nB' ∧ pb b'' = pb b' ∧ xb b'' = xb b' then φ e.choose + 1 else 0) = _
      rw [dif_pos e, B.uniq _ _ this.1 hb' this.2.1 this.2.2]
    have hψ : ∀ c', c' < nC' → ψx (xc c') (pc c') = ψ c' + 1 := fun c' hc' => by
      have e : ∃ c'', c'' < nC' ∧ pc c'' = pc c' ∧ xc c'' = xc c' := ⟨c', hc', rfl, rfl⟩
      have := e.choose_spec
      show (if e : ∃ c'', c'' < nC' ∧ pc c'' = pc c' ∧ xc c'' = xc c' then ψ e.choose + 1 else 0) = _
      rw [dif_pos e, C.uniq _ _ this.1 hc' this.2.1 this.2.2]
    have cone : ∀ x, x < nX → ∃ u : Nat → Nat, (∀ b, b < nB → u (h b) = φx x b) ∧ (∀ c, c < nC → u (k c) = ψx x c) := fun x hx => by
      refine p.univ _ _ fun a ha => ?_
      by_cases e : h (f a) = m x
      · obtain ⟨a', h1, h2, h3⟩ := A.ex a x ha hx e
        have e1 := hφ (f' a') (mf' a' h1)
        have e2 := hψ (g' a') (mg' a' h1)
        rw [ef a' h1, ef2 a' h1, h2, h3] at e1
        rw [eg a' h1, eg2 a' h1, h2, h3] at e2
        rw [e1, e2, hc a' h1]
      · have n1 : ¬ ∃ b', b' < nB' ∧ pb b' = f a ∧ xb b' = x := by
          rintro ⟨b', h1, h2, h3⟩
          have := B.comm b' h1
          rw [h2, h3] at this
          exact e this
        have n2 : ¬ ∃ c', c' < nC' ∧ pc c' = g a ∧ xc c' = x := by
          rintro ⟨c', h1, h2, h3⟩
          have := C.comm c' h1
          rw [h2, h3, ← p.comm a ha] at this
          exact e this
        show (if e : ∃ b', b' < nB' ∧ pb b' = f a ∧ xb b' = x then φ e.choose + 1 else 0) = (if e : ∃ c', c' < nC' ∧ pc c' = g a ∧ xc c' = x then ψ e.choose + 1 else 0)
        rw [dif_neg n1, dif_neg n2]
    refine ⟨fun x => if e : x < nX then (cone x e).choose (m x) - 1 else 0, fun b hb => ?_, fun c hc => ?_⟩
    · have hx := mxb b hb
      have := (cone _ hx).choose_spec.1 (pb b) (mpb b hb)
      show (if e : xb b < nX then (cone (xb b) e).choose (m (xb b)) - 1 else 0) = φ b
      rw [dif_pos hx, ← B.comm b hb, this, hφ b hb]
      rfl
    · have hx := mxc c hc
      have := (cone _ hx).choose_spec.2 (pc c) (mpc c hc)
      show (if e : xc c < nX then (cone (xc c) e).choose (m (xc c)) - 1 else 0) = ψ c
      rw [dif_pos hx, ← C.comm c hc, this, hψ c hc]
      rfl

open Classical in
/-- A pushout along an injective map is a pullback. -/
theorem po_inj {nA nB nC nD : Nat} {f g h k : Nat → Nat} (p : PO nA nB nC nD f g h k) (mf : Maps nA nB f)
    (inj : ∀ a a', a < nA → a' < nA → f a = f a' → a = a') : PB nA nB nC f g h k where
  comm := p.comm
  uniq := fun a a' h1 h2 e _ => inj a a' h1 h2 e
  ex := fun b c hb hc e => by
    obtain ⟨u, h1, h2⟩ := p.univ (fun b => if e : ∃ a, a < nA ∧ f a = b then g e.choose + 1 else 0) (fun c => c + 1) (fun a ha => by
      have e : ∃ a', a' < nA ∧ f a' = f a := ⟨a, ha, rfl⟩
      show (if e : ∃ a', a' < nA ∧ f a' = f a then g e.choose + 1 else 0) = g a + 1
      rw [dif_pos e, inj _ _ e.choose_spec.1 ha e.choose_spec.2])
    have e1 := h1 b hb
    rw [e, h2 c hc] at e1
    by_cases ex : ∃ a, a < nA ∧ f a = b
    · have e2 : c + 1 = g ex.choose + 1 := by rw [dif_pos ex] at e1; exact e1
      exact ⟨ex.choose, ex.choose_spec.1, ex.choose_spec.2, by omega⟩
    · rw [dif_neg ex] at e1
      omega

open Classical in
/-- Two parts that cover a set: what is kept (F) of L lies in the part (K) of G, and nothing else of L does. -/
theorem po_parts {nF nL nK nG : Nat} {f g m k : Nat → Nat} (cm : ∀ a, a < nF → m (f a) = k (g a))
    (ink : ∀ c c', c < nK → c' < nK → k c = k c' → c = c')
    (cover : ∀ d, d < nG → (∃ b, b < nL ∧ m b = d) ∨ (∃ c, c < nK ∧ k c = d))
    (both : ∀ b c, b < nL → c < nK → m b = k c → ∃ a, a < nF ∧ f a = b ∧ g a = c)
    (one : ∀ b b', b < nL → b' < nL → m b = m b' → b = b' ∨ ∃ c, c < nK ∧ k c = m b) : PO nF nL nK nG f g m k where
  comm := cm
  cover := cover
  univ := fun φ ψ hc => by
    let u : Nat → Nat := fun y => if e : ∃ c, c < nK ∧ k c = y then ψ e.choose else if e : ∃ b, b < nL ∧ m b = y then φ e.choose else 0
    have hk : ∀ c, c < nK → u (k c) = ψ c := fun c hc => by
      have e : ∃ c', c' < nK ∧ k c' = k c := ⟨c, hc, rfl⟩
      show (if e : ∃ c', c' < nK ∧ k c' = k c then ψ e.choose else if e : ∃ b, b < nL ∧ m b = k c then φ e.choose else 0) = ψ c
      rw [dif_pos e, ink _ _ e.choose_spec.1 hc e.choose_spec.2]
    refine ⟨u, fun b hb => ?_, hk⟩
    by_cases e : ∃ c, c < nK ∧ k c = m b
    · obtain ⟨c, h1, h2⟩ := e
      obtain ⟨a, h3, h4, h5⟩ := both b c hb h1 h2.symm
      rw [← h2, hk c h1, ← h5, ← hc a h3, h4]
    · have e2 : ∃ b', b' < nL ∧ m b' = m b := ⟨b, hb, rfl⟩
      show (if e : ∃ c', c' < nK ∧ k c' = m b then ψ e.choose else if e : ∃ b', b' < nL ∧ m b' = m b then φ e.choose else 0) = φ b
      rw [dif_neg e, dif_pos e2]
      rcases one _ _ e2.choose_spec.1 hb e2.choose_spec.2 with h | h
      · rw [h]
      · rw [e2.choose_spec.2] at h
        exact absurd h e

theorem pb_parts {nF nL nK : Nat} {f g m k : Nat → Nat} (cm : ∀ a, a < nF → m (f a) = k (g a))
    (inf : ∀ a a', a < nF → a' < nF → f a = f a' → a = a')
    (both : ∀ b c, b < nL → c < nK → m b = k c → ∃ a, a < nF ∧ f a = b ∧ g a = c) : PB nF nL nK f g m k where
  comm := cm
  ex := both
  uniq := fun a a' h1 h2 e _ => inf a a' h1 h2 e

/-- What mediates from a pushout (E) to a pushout (D) is one to one and onto. -/
theorem po_iso {nA nB nC nD nE : Nat} {f g h k p q m : Nat → Nat} (D : PO nA nB nC nD f g h k) (E : PO nA nB nC nE f g p q)
    (mp : Maps nB nE p) (mq : Maps nC nE q) (hm : ∀ b, b < nB → m (p b) = h b) (km : ∀ c, c < nC → m (q c) = k c) :
    (∀ e e', e < nE → e' < nE → m e = m e' → e = e') ∧ (∀ d, d < nD → ∃ e, e < nE ∧ m e = d) := by
  obtain ⟨u, h1, h2⟩ := D.univ p q E.comm
  have hu : ∀ e, e < nE → u (m e) = e := fun e he => by
    rcases E.cover e he with ⟨b, hb, rfl⟩ | ⟨c, hc, rfl⟩
    · rw [hm b hb, h1 b hb]
    · rw [km c hc, h2 c hc]
  refine ⟨fun e e' he he' eq => ?_, fun d hd => ?_⟩
  · rw [← hu e he, ← hu e' he', eq]
  · rcases D.cover d hd with ⟨b, hb, e⟩ | ⟨c, hc, e⟩
    · exact ⟨p b, mp b hb, by rw [hm b hb, e]⟩
    · exact ⟨q c, mq c hc, by rw [km c hc, e]⟩

open Classical in
/-- What a pushout (E) is taken to, one to one and onto, is a pushout. -/
theorem po_of_iso {nA nB nC nD nE : Nat} {f g h k p q m : Nat → Nat} (E : PO nA nB nC nE f g p q)
    (mp : Maps nB nE p) (mq : Maps nC nE q) (hm : ∀ b, b < nB → m (p b) = h b) (km : ∀ c, c < nC → m (q c) = k c)
    (mf : Maps nA nB f) (mg : Maps nA nC g)
    (inj : ∀ e e', e < nE → e' < nE → m e = m e' → e = e') (sur : ∀ d, d < nD → ∃ e, e < nE ∧ m e = d) : PO nA nB nC nD f g h k where
  comm := fun a ha => by rw [← hm _ (mf a ha), ← km _ (mg a ha), E.comm a ha]
  cover := fun d hd => by
    obtain ⟨e, he, rfl⟩ := sur d hd
    rcases E.cover e he with ⟨b, hb, rfl⟩ | ⟨c, hc, rfl⟩
    · exact .inl ⟨b, hb, (hm b hb).symm⟩
    · exact .inr ⟨c, hc, (km c hc).symm⟩
  univ := fun φ ψ hc => by
    obtain ⟨v, h1, h2⟩ := E.univ φ ψ hc
    have inv : ∀ e, e < nE → ∀ x : ∃ e', e' < nE ∧ m e' = m e, x.choose = e := fun e he x => inj _ _ x.choose_spec.1 he x.choose_spec.2
    refine ⟨fun d => if x : ∃ e, e < nE ∧ m e = d then v x.choose else 0, fun b hb => ?_, fun c hc => ?_⟩
    · have x : ∃ e, e < nE ∧ m e = m (p b) := ⟨_, mp b hb, rfl⟩
      rw [← hm b hb]
      show (if x : ∃ e, e < nE ∧ m e = m (p b) then v x.choose else 0) = φ b
      rw [dif_pos x, inv _ (mp b hb) x, h1 b hb]
    · have x : ∃ e, e < nE ∧ m e = m (q c) := ⟨_, mq c hc, rfl⟩
      rw [← km c hc]
      show (if x : ∃ e, e < nE ∧ m e = m (q c) then v x.choose else 0) = ψ c
      rw [dif_pos x, inv _ (mq c hc) x, h2 c hc]

/-- A cone is a pullback exactly if what mediates to a pullback (E) is one to one and onto. -/
theorem pb_iso {nA nB nC nE : Nat} {f g h k p q m : Nat → Nat} (A : PB nA nB nC f g h k) (E : PB nE nB nC p q h k)
    (mp : Maps nE nB p) (mq : Maps nE nC q) (mm : Maps nA nE m) (fm : ∀ a, a < nA → p (m a) = f a) (gm : ∀ a, a < nA → q (m a) = g a) :
    (∀ a a', a < nA → a' < nA → m a = m a' → a = a') ∧ (∀ e, e < nE → ∃ a, a < nA ∧ m a = e) := by
  refine ⟨fun a a' ha ha' e => A.uniq a a' ha ha' (by rw [← fm a ha, ← fm a' ha', e]) (by rw [← gm a ha, ← gm a' ha', e]), fun e he => ?_⟩
  obtain ⟨a, h1, h2, h3⟩ := A.ex (p e) (q e) (mp e he) (mq e he) (E.comm e he)
  exact ⟨a, h1, E.uniq _ _ (mm a h1) he (by rw [fm a h1, h2]) (by rw [gm a h1, h3])⟩

theorem pb_of_iso {nA nB nC nE : Nat} {f g h k p q m : Nat → Nat} (E : PB nE nB nC p q h k)
    (mm : Maps nA nE m) (fm : ∀ a, a < nA → p (m a) = f a) (gm : ∀ a, a < nA → q (m a) = g a)
    (inj : ∀ a a', a < nA → a' < nA → m a = m a' → a = a') (sur : ∀ e, e < nE → ∃ a, a < nA ∧ m a = e) : PB nA nB nC f g h k where
  comm := fun a ha => by rw [← fm a ha, ← gm a ha, E.comm _ (mm a ha)]
  ex := fun b c hb hc e => by
    obtain ⟨x, h1, h2, h3⟩ := E.ex b c hb hc e
    obtain ⟨a, ha, rfl⟩ := sur x h1
    exact ⟨a, ha, by rw [← fm a ha, h2], by rw [← gm a ha, h3]⟩
  uniq := fun a a' ha ha' e1 e2 => inj a a' ha ha' (E.uniq _ _ (mm a ha) (mm a' ha') (by rw [fm a ha, fm a' ha', e1]) (by rw [gm a ha, gm a' ha', e2]))
end Go.Proofs.YthcnpnogfblkcaaGreat.Po

/- The standard pushout is a pushout; what mediates out of it. No program in sight. -/
namespace Go.Proofs.YthcnpnogfblkcaaGreat
open Abs Po
set_option linter.unusedSimpArgs false
set_option linter.unusedVariables false

/-- A list of numbers as a function. -/
def fn (l : List Int) (i : Nat) : Nat := (nth l i).toNat
theorem fn_at {l : List Int} {n i : Nat} (h : placesIn l n) (hi : i < l.length) : nth l i = (fn l i : Nat) ∧ fn l i < n := by
  have := h _ (nth_mem hi)
  simp only [fn]
  omega
theorem fn_maps {l : List Int} {n m : Nat} (h : placesIn l n) (hl : l.length = m) : Maps m n (fn l) := fun i hi => (fn_at h (by omega)).2
theorem fn_thru {a b : List Int} {i : Nat} (h : i < a.length) : fn (thru a b) i = fn b (fn a i) := by simp only [fn, thru_nth h]
theorem fn_num {a n i : Nat} (h : i < n) : fn (numL a n) i = a + i := by simp only [fn, numL_nth h, Int.toNat_natCast]

theorem cls_surj {p : List Int} : ∀ {n d : Nat}, d < clsN p n → ∃ r : Nat, r < n ∧ nth p r = r ∧ clsN p r = d
  | 0, d, h => absurd h (by simp [clsN])
  | n + 1, d, h => by
    simp only [clsN] at h
    by_cases e : nth p n = n
    · rw [if_pos e] at h
      by_cases e2 : d < clsN p n
      · obtain ⟨r, h1, h2, h3⟩ := cls_surj e2
        exact ⟨r, by omega, h2, h3⟩
      · exact ⟨n, by omega, e, by omega⟩
    · rw [if_neg e] at h
      obtain ⟨r, h1, h2, h3⟩ := cls_surj h
      exact ⟨r, by omega, h2, h3⟩
theorem cls_inj {p : List Int} {a b : Nat} (ha : nth p a = a) (hb : nth p b = b) (h : clsN p a = clsN p b) : a = b := by
  rcases Nat.lt_trichotomy a b with e | e | e
  · have := clsN_lt ha e
    omega
  · exact e
  · have := clsN_lt hb e
    omega
/-- The root of an element's class. -/
theorem root_of {p : List Int} {n i : Nat} (hp : Flat p) (hn : p.length = n) (hi : i < n) : ∃ r : Nat, nth p i = r ∧ r < n ∧ nth p r = r := by
  obtain ⟨j, hj, hle⟩ := hp.fo.at (i := i) (by omega)
  have := hp.fx i (by omega)
  rw [hj, Int.toNat_natCast] at this
  exact ⟨j, hj, by omega, this⟩

section lists
variable {nA nB nC : Nat} {F G : List Int}
def glL (nA nB nC : Nat) (F G : List Int) : List (Int × Int) := pgK F G (numL 0 nB) (numL nB nC) nA
theorem glL_in (lF : F.length = nA) (lG : G.length = nA) (pF : placesIn F nB) (pG : placesIn G nC) : pairsIn (glL nA nB nC F G) (nB + nC) := fun q hq => by
  simp only [glL, pgK, List.mem_map, List.mem_range] at hq
  obtain ⟨i, hi, rfl⟩ := hq
  obtain ⟨a1, a2⟩ := fn_at pF (show i < F.length by omega)
  obtain ⟨b1, b2⟩ := fn_at pG (show i < G.length by omega)
  simp only [a1, b1, Int.toNat_natCast]
  rw [numL_nth a2, numL_nth b2]
  omega
theorem glL_at (lF : F.length = nA) (lG : G.length = nA) (pF : placesIn F nB) (pG : placesIn G nC) {i : Nat} (hi : i < nA) : (((fn F i : Nat) : Int), ((nB + fn G i : Nat) : Int)) ∈ glL nA nB nC F G := by
  simp only [glL, pgK, List.mem_map, List.mem_range]
  obtain ⟨a1, a2⟩ := fn_at pF (show i < F.length by omega)
  obtain ⟨b1, b2⟩ := fn_at pG (show i < G.length by omega)
  refine ⟨i, hi, ?_⟩
  simp only [a1, b1, Int.toNat_natCast]
  rw [numL_nth a2, numL_nth b2]
  simp
theorem glL_mem (lF : F.length = nA) (lG : G.length = nA) (pF : placesIn F nB) (pG : placesIn G nC) {q : Int × Int} (hq : q ∈ glL nA nB nC F G) : ∃ i, i < nA ∧ q = (((fn F i : Nat) : Int), ((nB + fn G i : Nat) : Int)) := by
  simp only [glL, pgK, List.mem_map, List.mem_range] at hq
  obtain ⟨i, hi, rfl⟩ := hq
  obtain ⟨a1, a2⟩ := fn_at pF (show i < F.length by omega)
  obtain ⟨b1, b2⟩ := fn_at pG (show i < G.length by omega)
  refine ⟨i, hi, ?_⟩
  simp only [a1, b1, Int.toNat_natCast]
  rw [numL_nth a2, numL_nth b2]
  simp
def prt (nA nB nC : Nat) (F G : List Int) : List Int := genL (nB + nC) (glL nA nB nC F G)
def qL (nA nB nC : Nat) (F G : List Int) : List Int := thru (numL 0 nB) (quotL (prt nA nB nC F G))
def qR (nA nB nC : Nat) (F G : List Int) : List Int := thru (numL nB nC) (quotL (prt nA nB nC F G))
theorem prt_len : (prt nA nB nC F G).length = nB + nC := genL_len
theorem qL_at {b : Nat} (hb : b < nB) : fn (qL nA nB nC F G) b = clsN (prt nA nB nC F G) (nth (prt nA nB nC F G) b).toNat := by
  rw [qL, fn_thru (by rw [numL_len]; exact hb), fn_num hb, Nat.zero_add, fn, quotL_nth (by rw [prt_len]; omega), Int.toNat_natCast]
theorem qR_at {c : Nat} (hc : c < nC) : fn (qR nA nB nC F G) c = clsN (prt nA nB nC F G) (nth (prt nA nB nC F G) (nB + c)).toNat := by
  rw [qR, fn_thru (by rw [numL_len]; exact hc), fn_num hc, fn, quotL_nth (by rw [prt_len]; omega), Int.toNat_natCast]

open Classical in
/-- The standard pushout of lists of numbers is one. -/
theorem po_lists (lF : F.length = nA) (lG : G.length = nA) (pF : placesIn F nB) (pG : placesIn G nC) :
    PO nA nB nC (clsN (prt nA nB nC F G) (nB + nC)) (fn F) (fn G) (fn (qL nA nB nC F G)) (fn (qR nA nB nC F G)) := by
  have hin := glL_in lF lG pF pG
  have hp : Flat (prt nA nB nC F G) := genL_flat hin
  refine ⟨fun a ha => ?_, fun d hd => ?_, fun φ ψ hc => ?_⟩
  · obtain ⟨_, a2⟩ := fn_at pF (show a < F.length by omega)
    obtain ⟨_, b2⟩ := fn_at pG (show a < G.length by omega)
    rw [qL_at a2, qR_at b2]
    have := genL_pair hin (glL_at lF lG pF pG ha)
    simp only [Int.toNat_natCast] at this
    rw [← prt] at this
    rw [this]
  · obtain ⟨r, h1, h2, h3⟩ := cls_surj hd
    by_cases hb : r < nB
    · exact .inl ⟨r, hb, by rw [qL_at hb, h2, Int.toNat_natCast, h3]⟩
    · refine .inr ⟨r - nB, by omega, ?_⟩
      rw [qR_at (by omega), show nB + (r - nB) = r by omega, h2, Int.toNat_natCast, h3]
  · let f : Nat → Nat := fun i => if i < nB then φ i else ψ (i - nB)
    have hf : ∀ i, i < nB + nC → f (nth (prt nA nB nC F G) i).toNat = f i := fun i hi => genL_inv hin (fun q hq => by
      obtain ⟨j, hj, rfl⟩ := glL_mem lF lG pF pG hq
      obtain ⟨_, a2⟩ := fn_at pF (show j < F.length by omega)
      simp only [Int.toNat_natCast, f]
      rw [if_pos a2, if_neg (by omega), show nB + fn G j - nB = fn G j by omega]
      exact hc j hj) hi
    let u : Nat → Nat := fun d => if e : ∃ r : Nat, nth (prt nA nB nC F G) r = r ∧ clsN (prt nA nB nC F G) r = d then f e.choose else 0
    have hu : ∀ i, i < nB + nC → u (clsN (prt nA nB nC F G) (nth (prt nA nB nC F G) i).toNat) = f i := fun i hi => by
      obtain ⟨r, h1, h2, h3⟩ := root_of hp prt_len hi
      have e : ∃ r' : Nat, nth (prt nA nB nC F G) r' = r' ∧ clsN (prt nA nB nC F G) r' = clsN (prt nA nB nC F G) r := ⟨r, h3, rfl⟩
      have h4 := hf i hi
      rw [h1, Int.toNat_natCast] at h4
      rw [h1, Int.toNat_natCast]
      show (if e : ∃ r' : Nat, nth (prt nA nB nC F G) r' = r' ∧ clsN (prt nA nB nC F G) r' = clsN (prt nA nB nC F G) r then f e.choose else 0) = f i
      rw [dif_pos e, cls_inj e.choose_spec.1 h3 e.choose_spec.2, h4]
    refine ⟨u, fun b hb => ?_, fun c hc' => ?_⟩
    · rw [qL_at hb, hu b (by omega)]
      exact if_pos hb
    · rw [qR_at hc', hu (nB + c) (by omega)]
      simp only [f]
      rw [if_neg (by omega), show nB + c - nB = c by omega]
end lists

/-! ### Writing a list at some places -/
theorem wr_fold {u : Nat → Int} {n : Nat} : ∀ {ws : List (Int × Int)} {o : List Int}, o.length = n → (∀ w ∈ ws, 0 ≤ w.1 ∧ w.1 < n ∧ w.2 = u w.1.toNat) →
    ∀ j, nth (ws.foldl (fun o w => o.set w.1.toNat w.2) o) j = if ∃ w ∈ ws, w.1.toNat = j then u j else nth o j
  | [], o, ho, _, j => by simp
  | w :: r, o, ho, h, j => by
    rw [List.foldl_cons, wr_fold (n := n) (by rw [List.length_set]; exact ho) (fun x hx => h x (List.mem_cons_of_mem _ hx)) j]
    obtain ⟨h1, h2, h3⟩ := h w (List.mem_cons_self ..)
    by_cases e : ∃ x ∈ r, x.1.toNat = j
    · obtain ⟨x, hx, hj⟩ := e
      rw [if_pos ⟨x, hx, hj⟩, if_pos ⟨x, List.mem_cons_of_mem _ hx, hj⟩]
    · rw [if_neg e, nth_set (by omega)]
      by_cases ej : j = w.1.toNat
      · rw [if_pos ej, if_pos ⟨w, List.mem_cons_self .., ej.symm⟩, h3, ej]
      · rw [if_neg ej, if_neg]
        rintro ⟨x, hx, hj⟩
        rcases List.mem_cons.1 hx with rfl | hx
        · exact ej hj.symm
        · exact e ⟨x, hx, hj⟩
theorem wrL_at {u : Nat → Int} {n : Nat} {ws : List (Int × Int)} (h : ∀ w ∈ ws, 0 ≤ w.1 ∧ w.1 < n ∧ w.2 = u w.1.toNat) {w : Int × Int} (hw : w ∈ ws) : nth (wrL n ws) w.1.toNat = w.2 := by
  rw [wrL, wr_fold (n := n) (by simp) h, if_pos ⟨w, hw, rfl⟩, (h w hw).2.2]
end Go.Proofs.YthcnpnogfblkcaaGreat

/- The standard pushout of graphs: its morphisms; what mediates out of it; when a cocone is a pushout. No program in sight. -/
namespace Go.Proofs.YthcnpnogfblkcaaGreat
open Abs Po
set_option linter.unusedSimpArgs false
set_option linter.unusedVariables false

/-! ### Errors that there are not -/
theorem gErr_of {g : Gr} (h : GrOk g) : gErr g = 0 := by
  have h1 := h.n
  have h2 := h.e
  have b1 : nBad g.nodes = false := by
    rw [nBad, List.any_eq_false]
    intro x hx
    have := h.kinds x hx
    simp [within]
    omega
  have b2 : eBad g.nodes.length g.edges = false := by
    rw [eBad, List.any_eq_false]
    intro e he
    have := h.edges e he
    simp [eOk, within]
    omega
  rw [gErr, if_neg (by omega), b1, b2]
  rfl
theorem mor_zero {a b : Gr} {m : Pa} (h : MorOk a b m) : morErr a b m = 0 := by
  have l1 := h.ln
  have l2 := h.le
  rw [morErr, if_pos (gErr_of h.ga), if_pos (gErr_of h.gb), if_pos (by omega)]
  have e1 : fe (mnF a b m) m.nodes.length = 0 := fe_zero fun i hi => by
    obtain ⟨a1, a2, a3⟩ := h.n i (by omega)
    rw [mnF, if_neg (by omega), if_neg (by omega), if_pos a3]
  have e2 : fe (meF a b m) m.edges.length = 0 := fe_zero fun i hi => by
    obtain ⟨a1, a2, a3, a4, a5⟩ := h.e i (by omega)
    rw [meF, if_neg (by omega), if_neg (by omega), if_pos a3, if_pos a4, if_pos a5]
  rw [if_pos e1, e2]
theorem mor_iff {a b : Gr} {m : Pa} : morErr a b m = 0 ↔ MorOk a b m := ⟨mor_ok, mor_zero⟩

/-- A morphism in functions. -/
structure Hom (a b : Gr) (m : Pa) : Prop where
  ln : m.nodes.length = a.nodes.length
  le : m.edges.length = a.edges.length
  pn : placesIn m.nodes b.nodes.length
  pe : placesIn m.edges b.edges.length
  kn : ∀ i, i < a.nodes.length → nth b.nodes (fn m.nodes i) = nth a.nodes i
  ke : ∀ i, i < a.edges.length → (eth b.edges (fn m.edges i)).t = (eth a.edges i).t ∧ (eth b.edges (fn m.edges i)).f = nth m.nodes (eth a.edges i).f.toNat ∧ (eth b.edges (fn m.edges i)).g = nth m.nodes (eth a.edges i).g.toNat
theorem MorOk.hom {a b : Gr} {m : Pa} (h : MorOk a b m) : Hom a b m := by
  refine ⟨h.ln, h.le, h.rn, h.re, fun i hi => (h.n i hi).2.2, fun i hi => ?_⟩
  obtain ⟨_, _, e1, e2, e3⟩ := h.e i hi
  exact ⟨e1.symm, e2.symm, e3.symm⟩
theorem Hom.ok {a b : Gr} {m : Pa} (h : Hom a b m) (ga : GrOk a) (gb : GrOk b) : MorOk a b m := by
  refine ⟨ga, gb, h.ln, h.le, fun i hi => ?_, fun i hi => ?_⟩
  · have := h.pn _ (nth_mem (l := m.nodes) (k := i) (by rw [h.ln]; exact hi))
    exact ⟨this.1, this.2, h.kn i hi⟩
  · have := h.pe _ (nth_mem (l := m.edges) (k := i) (by rw [h.le]; exact hi))
    obtain ⟨e1, e2, e3⟩ := h.ke i hi
    exact ⟨this.1, this.2, e1.symm, e2.symm, e3.symm⟩
theorem Hom.mn {a b : Gr} {m : Pa} (h : Hom a b m) : Maps a.nodes.length b.nodes.length (fn m.nodes) := fn_maps h.pn h.ln
theorem Hom.me {a b : Gr} {m : Pa} (h : Hom a b m) : Maps a.edges.length b.edges.length (fn m.edges) := fn_maps h.pe h.le

/-- The two squares of functions of a span with a cocone are pushouts. -/
def IsPO (s : Sp) (d : Gr) (h k : Pa) : Prop :=
  PO s.A.nodes.length s.B.nodes.length s.C.nodes.length d.nodes.length (fn s.F.nodes) (fn s.G.nodes) (fn h.nodes) (fn k.nodes) ∧
  PO s.A.edges.length s.B.edges.length s.C.edges.length d.edges.length (fn s.F.edges) (fn s.G.edges) (fn h.edges) (fn k.edges)

theorem poP_prt {s : Sp} : poP s = prt s.F.nodes.length s.B.nodes.length s.C.nodes.length s.F.nodes s.G.nodes := by rw [poP, poU, unG_nlen]; rfl
theorem poQ_prt {s : Sp} : poQ s = prt s.F.edges.length s.B.edges.length s.C.edges.length s.F.edges s.G.edges := by rw [poQ, poU, unG_elen]; rfl
theorem poI_q {s : Sp} : (poI s).nodes = qL s.F.nodes.length s.B.nodes.length s.C.nodes.length s.F.nodes s.G.nodes ∧ (poI s).edges = qL s.F.edges.length s.B.edges.length s.C.edges.length s.F.edges s.G.edges := by
  rw [qL, qL, ← poP_prt, ← poQ_prt]; exact ⟨rfl, rfl⟩
theorem poJ_q {s : Sp} : (poJ s).nodes = qR s.F.nodes.length s.B.nodes.length s.C.nodes.length s.F.nodes s.G.nodes ∧ (poJ s).edges = qR s.F.edges.length s.B.edges.length s.C.edges.length s.F.edges s.G.edges := by
  rw [qR, qR, ← poP_prt, ← poQ_prt]; exact ⟨rfl, rfl⟩
theorem poG_len {s : Sp} : (poG s).nodes.length = clsN (poP s) (s.B.nodes.length + s.C.nodes.length) ∧ (poG s).edges.length = clsN (poQ s) (s.B.edges.length + s.C.edges.length) := by
  rw [poG, quoG_nlen, quoG_elen, poU, unG_nlen, unG_elen]; exact ⟨rfl, rfl⟩
/-- The standard pushout is one. -/
theorem po_std {s : Sp} (ok : SpOk s) : IsPO s (poG s) (poI s) (poJ s) := by
  have l1 := ok.F.ln
  have l2 := ok.F.le
  refine ⟨?_, ?_⟩
  · rw [poI_q.1, poJ_q.1, poG_len.1, poP_prt, ← l1]
    exact po_lists rfl (by rw [ok.G.ln, l1]) ok.F.rn ok.G.rn
  · rw [poI_q.2, poJ_q.2, poG_len.2, poQ_prt, ← l2]
    exact po_lists rfl (by rw [ok.G.le, l2]) ok.F.re ok.G.re

theorem poI_nat {s : Sp} {b : Nat} (hb : b < s.B.nodes.length) : nth (poI s).nodes b = (clsN (poP s) (nth (poP s) b).toNat : Nat) := by
  show nth (thru (numL 0 s.B.nodes.length) (quotL (poP s))) b = _
  rw [thru_nth (by rw [numL_len]; exact hb), numL_nth hb, Int.toNat_natCast, Nat.zero_add, quotL_nth (by rw [poP_len]; omega)]
theorem poJ_nat {s : Sp} {c : Nat} (hc : c < s.C.nodes.length) : nth (poJ s).nodes c = (clsN (poP s) (nth (poP s) (s.B.nodes.length + c)).toNat : Nat) := by
  show nth (thru (numL s.B.nodes.length s.C.nodes.length) (quotL (poP s))) c = _
  rw [thru_nth (by rw [numL_len]; exact hc), numL_nth hc, Int.toNat_natCast, quotL_nth (by rw [poP_len]; omega)]
theorem poI_eat {s : Sp} {b : Nat} (hb : b < s.B.edges.length) : nth (poI s).edges b = (clsN (poQ s) (nth (poQ s) b).toNat : Nat) := by
  show nth (thru (numL 0 s.B.edges.length) (quotL (poQ s))) b = _
  rw [thru_nth (by rw [numL_len]; exact hb), numL_nth hb, Int.toNat_natCast, Nat.zero_add, quotL_nth (by rw [poQ_len]; omega)]
theorem poJ_eat {s : Sp} {c : Nat} (hc : c < s.C.edges.length) : nth (poJ s).edges c = (clsN (poQ s) (nth (poQ s) (s.B.edges.length + c)).toNat : Nat) := by
  show nth (thru (numL s.B.edges.length s.C.edges.length) (quotL (poQ s))) c = _
  rw [thru_nth (by rw [numL_len]; exact hc), numL_nth hc, Int.toNat_natCast, quotL_nth (by rw [poQ_len]; omega)]

theorem poG_node {s : Sp} (ok : SpOk s) {i : Nat} (hi : i < s.B.nodes.length + s.C.nodes.length) : nth (poG s).nodes (clsN (poP s) (nth (poP s) i).toNat) = nth (poU s).nodes i := by
  obtain ⟨r, h1, h2, h3⟩ := root_of (poP_flat ok) poP_len hi
  have hc := poN_const ok i (by rw [poU, unG_nlen]; exact hi)
  rw [h1, Int.toNat_natCast] at hc ⊢
  have := clsF_get (f := nth (poU s).nodes) h3 (k := (poU s).nodes.length) (by rw [poU, unG_nlen]; exact h2)
  rw [← hc]
  show ((collect (clsF (poP s) (nth (poU s).nodes)) (poU s).nodes.length).getD (clsN (poP s) r) 0) = _
  rw [List.getD, this]
  rfl
theorem poG_edge {s : Sp} (ok : SpOk s) {i : Nat} (hi : i < s.B.edges.length + s.C.edges.length) : eth (poG s).edges (clsN (poQ s) (nth (poQ s) i).toNat) = qE (poU s) (poP s) i := by
  obtain ⟨r, h1, h2, h3⟩ := root_of (poQ_flat ok) poQ_len hi
  have hc := poE_const ok i (by rw [poU, unG_elen]; exact hi)
  rw [h1, Int.toNat_natCast] at hc ⊢
  have := clsF_get (f := qE (poU s) (poP s)) h3 (k := (poU s).edges.length) (by rw [poU, unG_elen]; exact h2)
  rw [← hc]
  show ((collect (clsF (poQ s) (qE (poU s) (poP s))) (poU s).edges.length).getD (clsN (poQ s) r) ⟨0, 0, 0⟩) = _
  rw [List.getD, this]
  rfl

theorem poI_hom {s : Sp} (ok : SpOk s) : Hom s.B (poG s) (poI s) := by
  refine ⟨poI_len.1, poI_len.2, poI_nin ok, poI_ein ok, fun i hi => ?_, fun i hi => ?_⟩
  · rw [fn, poI_nat hi, Int.toNat_natCast, poG_node ok (by omega), poU_nL hi]
  · rw [fn, poI_eat hi, Int.toNat_natCast, poG_edge ok (by omega), qE, poU_eL hi]
    obtain ⟨_, _, g1, g2, g3, g4⟩ := ok.F.gb.edges _ (eth_mem hi)
    have l := poP_len (s := s)
    rw [poI_nat (by omega), poI_nat (by omega), quotL_nth (by omega), quotL_nth (by omega)]
    exact ⟨rfl, rfl, rfl⟩
theorem poJ_hom {s : Sp} (ok : SpOk s) : Hom s.C (poG s) (poJ s) := by
  refine ⟨poJ_len.1, poJ_len.2, poJ_nin ok, poJ_ein ok, fun i hi => ?_, fun i hi => ?_⟩
  · rw [fn, poJ_nat hi, Int.toNat_natCast, poG_node ok (by omega), poU_nR hi]
  · rw [fn, poJ_eat hi, Int.toNat_natCast, poG_edge ok (by omega), qE, poU_eR hi]
    obtain ⟨_, _, g1, g2, g3, g4⟩ := ok.G.gb.edges _ (eth_mem hi)
    have l := poP_len (s := s)
    obtain ⟨x, hx⟩ := Int.eq_ofNat_of_zero_le g1
    obtain ⟨y, hy⟩ := Int.eq_ofNat_of_zero_le g3
    have z1 : ((x : Int) + s.B.nodes.length).toNat = s.B.nodes.length + x := by omega
    have z2 : ((y : Int) + s.B.nodes.length).toNat = s.B.nodes.length + y := by omega
    simp only [shiftE, hx, hy, Int.toNat_natCast, z1, z2]
    rw [poJ_nat (by omega), poJ_nat (by omega), quotL_nth (by omega), quotL_nth (by omega)]
    refine ⟨?_, ?_, ?_⟩ <;> first | rfl | trivial
theorem poG_ok {s : Sp} (ok : SpOk s) (hu : unErr s.B s.C = 0) : GrOk (poG s) := by
  have hf := poG_few hu
  have po := po_std ok
  have hi := poI_hom ok
  have hj := poJ_hom ok
  refine ⟨hf.1, hf.2, fun x hx => ?_, fun e he => ?_⟩
  · obtain ⟨d, hd, rfl⟩ := mem_nth hx
    rcases po.1.cover d hd with ⟨b, hb, rfl⟩ | ⟨c, hc, rfl⟩
    · rw [hi.kn b hb]; exact ok.F.gb.kinds _ (nth_mem hb)
    · rw [hj.kn c hc]; exact ok.G.gb.kinds _ (nth_mem hc)
  · obtain ⟨d, hd, rfl⟩ := mem_eth he
    rcases po.2.cover d hd with ⟨b, hb, rfl⟩ | ⟨c, hc, rfl⟩
    · obtain ⟨e1, e2, e3⟩ := hi.ke b hb
      obtain ⟨t1, t2, g1, g2, g3, g4⟩ := ok.F.gb.edges _ (eth_mem hb)
      have l := hi.ln
      have p1 := hi.pn _ (nth_mem (l := (poI s).nodes) (k := (eth s.B.edges b).f.toNat) (by omega))
      have p2 := hi.pn _ (nth_mem (l := (poI s).nodes) (k := (eth s.B.edges b).g.toNat) (by omega))
      rw [e1, e2, e3]
      exact ⟨t1, t2, p1.1, p1.2, p2.1, p2.2⟩
    · obtain ⟨e1, e2, e3⟩ := hj.ke c hc
      obtain ⟨t1, t2, g1, g2, g3, g4⟩ := ok.G.gb.edges _ (eth_mem hc)
      have l := hj.ln
      have p1 := hj.pn _ (nth_mem (l := (poJ s).nodes) (k := (eth s.C.edges c).f.toNat) (by omega))
      have p2 := hj.pn _ (nth_mem (l := (poJ s).nodes) (k := (eth s.C.edges c).g.toNat) (by omega))
      rw [e1, e2, e3]
      exact ⟨t1, t2, p1.1, p1.2, p2.1, p2.2⟩

/-! ### What mediates -/
theorem zip_mem {p h : List Int} (hl : p.length = h.length) {w : Int × Int} : w ∈ p.zip h ↔ ∃ i, i < p.length ∧ w = (nth p i, nth h i) := by
  constructor
  · intro hw
    obtain ⟨i, hi, rfl⟩ := List.mem_iff_getElem.1 hw
    simp only [List.length_zip] at hi
    exact ⟨i, by omega, by rw [List.getElem_zip, nth_eq (by omega), nth_eq (by omega)]⟩
  · rintro ⟨i, hi, rfl⟩
    refine List.mem_iff_getElem.2 ⟨i, by simp; omega, ?_⟩
    rw [List.getElem_zip, nth_eq hi, nth_eq (by omega)]
theorem med_lists {n m nB nC : Nat} {p q h k : List Int} (lp : p.length = nB) (lq : q.length = nC) (lh : h.length = nB) (lk : k.length = nC) (pp : placesIn p n) (pq : placesIn q n) (ph : placesIn h m) (pk : placesIn k m)
    {u : Nat → Nat} (hu : ∀ b, b < nB → u (fn p b) = fn h b) (hv : ∀ c, c < nC → u (fn q c) = fn k c) :
    (∀ b, b < nB → nth (wrL n (p.zip h ++ q.zip k)) (fn p b) = nth h b) ∧ (∀ c, c < nC → nth (wrL n (p.zip h ++ q.zip k)) (fn q c) = nth k c) := by
  have key : ∀ w ∈ p.zip h ++ q.zip k, 0 ≤ w.1 ∧ w.1 < n ∧ w.2 = ((u w.1.toNat : Nat) : Int) := fun w hw => by
    rcases List.mem_append.1 hw with hw | hw
    · obtain ⟨i, hi, rfl⟩ := (zip_mem (by omega)).1 hw
      have h1 := pp _ (nth_mem hi)
      obtain ⟨h2, _⟩ := fn_at ph (show i < h.length by omega)
      exact ⟨h1.1, h1.2, by rw [h2, ← hu i (by omega)]; rfl⟩
    · obtain ⟨i, hi, rfl⟩ := (zip_mem (by omega)).1 hw
      have h1 := pq _ (nth_mem hi)
      obtain ⟨h2, _⟩ := fn_at pk (show i < k.length by omega)
      exact ⟨h1.1, h1.2, by rw [h2, ← hv i (by omega)]; rfl⟩
  refine ⟨fun b hb => ?_, fun c hc => ?_⟩
  · exact wrL_at (u := fun i => (u i : Nat)) key (w := (nth p b, nth h b)) (List.mem_append_left _ ((zip_mem (by omega)).2 ⟨b, by omega, rfl⟩))
  · exact wrL_at (u := fun i => (u i : Nat)) key (w := (nth q c, nth k c)) (List.mem_append_right _ ((zip_mem (by omega)).2 ⟨c, by omega, rfl⟩))

theorem same_thru {a b f g : List Int} (h : thru a f = thru b g) {i : Nat} (ha : i < a.length) (hb : i < b.length) : fn f (fn a i) = fn g (fn b i) := by
  have := congrArg (fun l => (nth l i).toNat) h
  simp only [thru_nth ha, thru_nth hb] at this
  exact this

/-- A cocone: valid morphisms with equal compositions. -/
structure Cone (s : Sp) (d : Gr) (h k : Pa) : Prop where
  ok : SpOk s
  mp : MorOk s.B d h
  mq : MorOk s.C d k
  un : unErr s.B s.C = 0
  cn : ∀ i, i < s.A.nodes.length → fn h.nodes (fn s.F.nodes i) = fn k.nodes (fn s.G.nodes i)
  ce : ∀ i, i < s.A.edges.length → fn h.edges (fn s.F.edges i) = fn k.edges (fn s.G.edges i)
theorem pm_cone {s : Sp} {d : Gr} {h k : Pa} (e : pmE s d h k = 0) : Cone s d h k := by
  obtain ⟨h1, h2, h3, h4, h5⟩ := pmE_ok e
  have ok := spErr_ok h1
  have l1 := ok.F.ln
  have l2 := ok.F.le
  have l3 := ok.G.ln
  have l4 := ok.G.le
  have h6 := sameP_iff.1 h5
  injection h6 with h6 h7
  exact ⟨ok, mor_ok h2, mor_ok h3, h4, fun i hi => same_thru h6 (by omega) (by omega), fun i hi => same_thru h7 (by omega) (by omega)⟩

theorem pm_at {s : Sp} {d : Gr} {h k : Pa} (c : Cone s d h k) :
    ((∀ b, b < s.B.nodes.length → nth (pmC s h k).nodes (fn (poI s).nodes b) = nth h.nodes b) ∧ (∀ b, b < s.C.nodes.length → nth (pmC s h k).nodes (fn (poJ s).nodes b) = nth k.nodes b)) ∧
    ((∀ b, b < s.B.edges.length → nth (pmC s h k).edges (fn (poI s).edges b) = nth h.edges b) ∧ (∀ b, b < s.C.edges.length → nth (pmC s h k).edges (fn (poJ s).edges b) = nth k.edges b)) := by
  have po := po_std c.ok
  have hi := poI_hom c.ok
  have hj := poJ_hom c.ok
  obtain ⟨u, u1, u2⟩ := po.1.univ (fn h.nodes) (fn k.nodes) c.cn
  obtain ⟨v, v1, v2⟩ := po.2.univ (fn h.edges) (fn k.edges) c.ce
  exact ⟨med_lists hi.ln hj.ln c.mp.ln c.mq.ln hi.pn hj.pn c.mp.rn c.mq.rn u1 u2, med_lists hi.le hj.le c.mp.le c.mq.le hi.pe hj.pe c.mp.re c.mq.re v1 v2⟩
theorem pmC_len {s : Sp} {h k : Pa} : (pmC s h k).nodes.length = (poG s).nodes.length ∧ (pmC s h k).edges.length = (poG s).edges.length := ⟨wrL_len, wrL_len⟩
theorem pm_hom {s : Sp} {d : Gr} {h k : Pa} (c : Cone s d h k) : Hom (poG s) d (pmC s h k) := by
  have po := po_std c.ok
  have hi := poI_hom c.ok
  have hj := poJ_hom c.ok
  obtain ⟨⟨n1, n2⟩, e1, e2⟩ := pm_at c
  have hh := c.mp.hom
  have hk := c.mq.hom
  refine ⟨pmC_len.1, pmC_len.2, fun x hx => ?_, fun x hx => ?_, fun i hi' => ?_, fun i hi' => ?_⟩
  · obtain ⟨i, hi', rfl⟩ := mem_nth hx
    rw [pmC_len.1] at hi'
    rcases po.1.cover i hi' with ⟨b, hb, rfl⟩ | ⟨b, hb, rfl⟩
    · rw [n1 b hb]; exact hh.pn _ (nth_mem (by rw [hh.ln]; exact hb))
    · rw [n2 b hb]; exact hk.pn _ (nth_mem (by rw [hk.ln]; exact hb))
  · obtain ⟨i, hi', rfl⟩ := mem_nth hx
    rw [pmC_len.2] at hi'
    rcases po.2.cover i hi' with ⟨b, hb, rfl⟩ | ⟨b, hb, rfl⟩
    · rw [e1 b hb]; exact hh.pe _ (nth_mem (by rw [hh.le]; exact hb))
    · rw [e2 b hb]; exact hk.pe _ (nth_mem (by rw [hk.le]; exact hb))
  · rcases po.1.cover i hi' with ⟨b, hb, rfl⟩ | ⟨b, hb, rfl⟩
    · rw [fn, n1 b hb, hi.kn b hb]; exact hh.kn b hb
    · rw [fn, n2 b hb, hj.kn b hb]; exact hk.kn b hb
  · rcases po.2.cover i hi' with ⟨b, hb, rfl⟩ | ⟨b, hb, rfl⟩
    · obtain ⟨a1, a2, a3⟩ := hi.ke b hb
      obtain ⟨b1, b2, b3⟩ := hh.ke b hb
      obtain ⟨_, _, g1, g2, g3, g4⟩ := c.ok.F.gb.edges _ (eth_mem hb)
      have m1 := n1 (eth s.B.edges b).f.toNat (by omega)
      have m2 := n1 (eth s.B.edges b).g.toNat (by omega)
      rw [fn] at m1 m2
      rw [fn, e1 b hb, a1, a2, a3, m1, m2]
      exact ⟨b1, b2, b3⟩
    · obtain ⟨a1, a2, a3⟩ := hj.ke b hb
      obtain ⟨b1, b2, b3⟩ := hk.ke b hb
      obtain ⟨_, _, g1, g2, g3, g4⟩ := c.ok.G.gb.edges _ (eth_mem hb)
      have m1 := n2 (eth s.C.edges b).f.toNat (by omega)
      have m2 := n2 (eth s.C.edges b).g.toNat (by omega)
      rw [fn] at m1 m2
      rw [fn, e2 b hb, a1, a2, a3, m1, m2]
      exact ⟨b1, b2, b3⟩

/-! ### One to one and onto -/
theorem nodup_fn {l : List Int} {n m : Nat} (hl : l.length = n) (pl : placesIn l m) : l.Nodup ↔ ∀ i j, i < n → j < n → fn l i = fn l j → i = j := by
  rw [List.nodup_iff_pairwise_ne, List.pairwise_iff_getElem]
  constructor
  · intro h i j hi hj e
    have e2 : l[i]'(by omega) = l[j]'(by omega) := by
      rw [← nth_eq, ← nth_eq, (fn_at pl (show i < l.length by omega)).1, (fn_at pl (show j < l.length by omega)).1, e]
    rcases Nat.lt_trichotomy i j with h3 | h3 | h3
    · exact absurd e2 (h i j _ _ h3)
    · exact h3
    · exact absurd e2.symm (h j i _ _ h3)
  · intro h i j hi hj hij e
    have := h i j (by omega) (by omega) (by rw [fn, fn, nth_eq hi, nth_eq hj, e])
    omega
theorem cov_fn {l : List Int} {n m : Nat} (hl : l.length = n) (pl : placesIn l m) : covB l m = true ↔ ∀ d, d < m → ∃ i, i < n ∧ fn l i = d := by
  simp only [covB, decide_eq_true_eq]
  refine forall_congr' fun d => imp_congr_right fun hd => ?_
  constructor
  · intro h
    obtain ⟨i, hi, e⟩ := mem_nth h
    exact ⟨i, by omega, by rw [fn, e]; rfl⟩
  · rintro ⟨i, hi, rfl⟩
    rw [← (fn_at pl (show i < l.length by omega)).1]
    exact nth_mem (by omega)

/-- A cocone is accepted exactly if it is a pushout. -/
theorem poChk_iff {s : Sp} {d : Gr} {h k : Pa} (e : pmE s d h k = 0) : poChk s d h k = true ↔ IsPO s d h k := by
  have c := pm_cone e
  have po := po_std c.ok
  have hm := pm_hom c
  have hi := poI_hom c.ok
  have hj := poJ_hom c.ok
  have em := mor_zero (hm.ok (poG_ok c.ok c.un) c.mp.gb)
  obtain ⟨⟨n1, n2⟩, e1, e2⟩ := pm_at c
  have z1 : ∀ b, b < s.B.nodes.length → fn (pmC s h k).nodes (fn (poI s).nodes b) = fn h.nodes b := fun b hb => by rw [fn, n1 b hb]; rfl
  have z2 : ∀ b, b < s.C.nodes.length → fn (pmC s h k).nodes (fn (poJ s).nodes b) = fn k.nodes b := fun b hb => by rw [fn, n2 b hb]; rfl
  have z3 : ∀ b, b < s.B.edges.length → fn (pmC s h k).edges (fn (poI s).edges b) = fn h.edges b := fun b hb => by rw [fn, e1 b hb]; rfl
  have z4 : ∀ b, b < s.C.edges.length → fn (pmC s h k).edges (fn (poJ s).edges b) = fn k.edges b := fun b hb => by rw [fn, e2 b hb]; rfl
  have key : poChk s d h k = true ↔ (((pmC s h k).nodes.Nodup ∧ (pmC s h k).edges.Nodup) ∧ (covB (pmC s h k).nodes d.nodes.length = true ∧ covB (pmC s h k).edges d.edges.length = true)) := by
    simp [poChk, e, injB, surjB, em]
  rw [key, nodup_fn hm.ln hm.pn, nodup_fn hm.le hm.pe, cov_fn hm.ln hm.pn, cov_fn hm.le hm.pe]
  constructor
  · rintro ⟨⟨a1, a2⟩, b1, b2⟩
    exact ⟨po_of_iso po.1 hi.mn hj.mn z1 z2 c.ok.F.hom.mn c.ok.G.hom.mn a1 b1, po_of_iso po.2 hi.me hj.me z3 z4 c.ok.F.hom.me c.ok.G.hom.me a2 b2⟩
  · rintro ⟨p1, p2⟩
    obtain ⟨a1, b1⟩ := po_iso p1 po.1 hi.mn hj.mn z1 z2
    obtain ⟨a2, b2⟩ := po_iso p2 po.2 hi.me hj.me z3 z4
    exact ⟨⟨a1, a2⟩, b1, b2⟩
end Go.Proofs.YthcnpnogfblkcaaGreat

/- The standard pullback of graphs; what mediates into it; when a cone is a pullback. No program in sight. -/
namespace Go.Proofs.YthcnpnogfblkcaaGreat
open Abs Po
set_option linter.unusedSimpArgs false
set_option linter.unusedVariables false

theorem collect_pb_nodup {f g : List Int} {i : Nat} : ∀ n, (collect (pbF f g i) n).Nodup ∧ ∀ q ∈ collect (pbF f g i) n, q.1 = i ∧ q.2 < n
  | 0 => ⟨List.nodup_nil, fun q hq => by simp [collect_zero] at hq⟩
  | n + 1 => by
    obtain ⟨h1, h2⟩ := collect_pb_nodup (f := f) (g := g) (i := i) n
    by_cases e : nth f i = nth g n
    · rw [collect_some (x := ((i : Int), (n : Int))) (by rw [pbF, if_pos e])]
      refine ⟨List.nodup_append.2 ⟨h1, by simp, fun a ha b hb => ?_⟩, fun q hq => ?_⟩
      · simp at hb
        subst hb
        rintro rfl
        have := (h2 _ ha).2
        simp at this
      · rcases List.mem_append.1 hq with hq | hq
        · have := h2 q hq
          exact ⟨this.1, by omega⟩
        · simp at hq
          subst hq
          exact ⟨rfl, by show (n : Int) < (n + 1 : Nat); omega⟩
    · rw [collect_none (by rw [pbF, if_neg e])]
      exact ⟨h1, fun q hq => ⟨(h2 q hq).1, by have := (h2 q hq).2; omega⟩⟩
theorem gather_pb_nodup {f g : List Int} : ∀ n, (gather (fun i => collect (pbF f g i) g.length) n).Nodup ∧ ∀ q ∈ gather (fun i => collect (pbF f g i) g.length) n, q.1 < n
  | 0 => ⟨List.nodup_nil, fun q hq => by simp [gather_zero] at hq⟩
  | n + 1 => by
    obtain ⟨h1, h2⟩ := gather_pb_nodup (f := f) (g := g) n
    obtain ⟨k1, k2⟩ := collect_pb_nodup (f := f) (g := g) (i := n) g.length
    rw [gather_succ]
    refine ⟨List.nodup_append.2 ⟨h1, k1, fun a ha b hb => ?_⟩, fun q hq => ?_⟩
    · rintro rfl
      have e1 := h2 _ ha
      have e2 := (k2 _ hb).1
      omega
    · rcases List.mem_append.1 hq with hq | hq
      · have := h2 q hq
        omega
      · have := (k2 q hq).1
        omega
theorem pbP_nodup {f g : List Int} : (pbP f g).Nodup := (gather_pb_nodup f.length).1
theorem pth_inj {l : List (Int × Int)} (h : l.Nodup) {i j : Nat} (hi : i < l.length) (hj : j < l.length) (e : pth l i = pth l j) : i = j := by
  rw [List.nodup_iff_pairwise_ne, List.pairwise_iff_getElem] at h
  rw [pth_eq' hi, pth_eq' hj] at e
  rcases Nat.lt_trichotomy i j with h3 | h3 | h3
  · exact absurd e (h i j hi hj h3)
  · exact h3
  · exact absurd e.symm (h j i hj hi h3)
theorem nth_fst {l : List (Int × Int)} {i : Nat} (h : i < l.length) : nth (fstL l) i = (pth l i).1 := by
  rw [nth_eq (by rw [fstL_len]; exact h), pth_eq' h]; simp [fstL]
theorem nth_snd {l : List (Int × Int)} {i : Nat} (h : i < l.length) : nth (sndL l) i = (pth l i).2 := by
  rw [nth_eq (by rw [sndL_len]; exact h), pth_eq' h]; simp [sndL]

/-- The standard pullback of lists of numbers is one. -/
theorem pb_lists {nB nC m : Nat} {F G : List Int} (lF : F.length = nB) (lG : G.length = nC) (pF : placesIn F m) (pG : placesIn G m) :
    PB (pbP F G).length nB nC (fn (fstL (pbP F G))) (fn (sndL (pbP F G))) (fn F) (fn G) := by
  have at_ : ∀ a, a < (pbP F G).length → ∃ i k : Nat, i < nB ∧ k < nC ∧ nth F i = nth G k ∧ fn (fstL (pbP F G)) a = i ∧ fn (sndL (pbP F G)) a = k ∧ pth (pbP F G) a = ((i : Int), (k : Int)) := fun a ha => by
    obtain ⟨i, k, h1, h2, h3, h4⟩ := mem_pbP.1 (pth_mem ha)
    exact ⟨i, k, by omega, by omega, h3, by rw [fn, nth_fst ha, h4]; rfl, by rw [fn, nth_snd ha, h4]; rfl, h4⟩
  refine ⟨fun a ha => ?_, fun b c hb hc e => ?_, fun a a' ha ha' e1 e2 => ?_⟩
  · obtain ⟨i, k, h1, h2, h3, h4, h5, _⟩ := at_ a ha
    rw [h4, h5, fn, fn, h3]
  · have hm : ((b : Int), (c : Int)) ∈ pbP F G := mem_pbP.2 ⟨b, c, by omega, by omega, by rw [(fn_at pF (show b < F.length by omega)).1, (fn_at pG (show c < G.length by omega)).1, e], rfl⟩
    have h1 := idxP_lt hm
    have h0 := idxP_pos.2 hm
    have h2 := idxP_get hm
    have hl : (idxP (pbP F G) ((b : Int), (c : Int))).toNat < (pbP F G).length := by omega
    exact ⟨_, hl, by rw [fn, nth_fst hl, h2]; rfl, by rw [fn, nth_snd hl, h2]; rfl⟩
  · obtain ⟨i, k, h1, h2, h3, h4, h5, h6⟩ := at_ a ha
    obtain ⟨i', k', h1', h2', h3', h4', h5', h6'⟩ := at_ a' ha'
    refine pth_inj pbP_nodup ha ha' ?_
    rw [h6, h6', ← h4, ← h4', ← h5, ← h5', e1, e2]

/-- The two squares of functions of a cospan with a cone are pullbacks. -/
def IsPB (s : Co) (a : Gr) (h k : Pa) : Prop :=
  PB a.nodes.length s.B.nodes.length s.C.nodes.length (fn h.nodes) (fn k.nodes) (fn s.F.nodes) (fn s.G.nodes) ∧
  PB a.edges.length s.B.edges.length s.C.edges.length (fn h.edges) (fn k.edges) (fn s.F.edges) (fn s.G.edges)

theorem pbG_len {s : Co} : (pbG s).nodes.length = (pbNs s).length ∧ (pbG s).edges.length = (pbEs s).length := by simp [pbG]
theorem pbG_nth {s : Co} {i : Nat} (h : i < (pbNs s).length) : nth (pbG s).nodes i = pbNode s (pth (pbNs s) i) := by
  rw [nth_eq (by rw [pbG_len.1]; exact h), pth_eq' h]; simp [pbG]
theorem pbG_eth {s : Co} {i : Nat} (h : i < (pbEs s).length) : eth (pbG s).edges i = pbEdge s (pth (pbEs s) i) := by
  rw [eth_eq (by rw [pbG_len.2]; exact h), pth_eq' h]; simp [pbG]

def pbDown (c : Co) : Pa := ⟨fstL (pbNs c), fstL (pbEs c)⟩
def pbUpp (c : Co) : Pa := ⟨sndL (pbNs c), sndL (pbEs c)⟩
/-- The standard pullback is one. -/
theorem pb_std {s : Co} (ok : CoOk s) : IsPB s (pbG s) (pbDown s) (pbUpp s) := by
  refine ⟨?_, ?_⟩
  · rw [pbG_len.1]; exact pb_lists ok.F.ln ok.G.ln ok.F.rn ok.G.rn
  · rw [pbG_len.2]; exact pb_lists ok.F.le ok.G.le ok.F.re ok.G.re

/-- The ends of a pair of edges are pairs of nodes. -/
theorem pb_ends {s : Co} (ok : CoOk s) {i k : Nat} (hi : i < s.B.edges.length) (hk : k < s.C.edges.length) (e : nth s.F.edges i = nth s.G.edges k) :
    ((eth s.B.edges i).f, (eth s.C.edges k).f) ∈ pbNs s ∧ ((eth s.B.edges i).g, (eth s.C.edges k).g) ∈ pbNs s := by
  obtain ⟨_, _, t1, u1, v1⟩ := ok.F.e i hi
  obtain ⟨_, _, t2, u2, v2⟩ := ok.G.e k hk
  rw [e] at u1 v1
  obtain ⟨_, _, g1, g2, g3, g4⟩ := ok.F.ga.edges _ (eth_mem hi)
  obtain ⟨_, _, p1, p2, p3, p4⟩ := ok.G.ga.edges _ (eth_mem hk)
  have l1 := ok.F.ln
  have l2 := ok.G.ln
  exact ⟨mem_pbP.2 ⟨(eth s.B.edges i).f.toNat, (eth s.C.edges k).f.toNat, by omega, by omega, by rw [u1, u2], by rw [Int.toNat_of_nonneg g1, Int.toNat_of_nonneg p1]⟩,
    mem_pbP.2 ⟨(eth s.B.edges i).g.toNat, (eth s.C.edges k).g.toNat, by omega, by omega, by rw [v1, v2], by rw [Int.toNat_of_nonneg g3, Int.toNat_of_nonneg p3]⟩⟩

theorem pbG_ok {s : Co} (h : pbErr s = 0) : GrOk (pbG s) := by
  obtain ⟨ok, h1, h2⟩ := pbErr_few h
  refine ⟨by rw [pbG_len.1]; exact h1, by rw [pbG_len.2]; exact h2, fun x hx => ?_, fun e he => ?_⟩
  · obtain ⟨d, hd, rfl⟩ := mem_nth hx
    rw [pbG_len.1] at hd
    obtain ⟨i, k, hi, hk, e⟩ := pbNs_at ok (pth_mem hd)
    rw [pbG_nth hd, e, pbNode]
    exact ok.F.ga.kinds _ (nth_mem hi)
  · obtain ⟨d, hd, rfl⟩ := mem_eth he
    rw [pbG_len.2] at hd
    obtain ⟨i, k, hi, hk, h3, e⟩ := mem_pbP.1 (pth_mem (show d < (pbP s.F.edges s.G.edges).length from hd))
    have e : pth (pbEs s) d = ((i : Int), (k : Int)) := e
    rw [ok.F.le] at hi
    rw [ok.G.le] at hk
    obtain ⟨m1, m2⟩ := pb_ends ok hi hk h3
    obtain ⟨t1, t2, _⟩ := ok.F.ga.edges _ (eth_mem hi)
    have a1 := idxP_pos.2 m1
    have a2 := idxP_lt m1
    have a3 := idxP_pos.2 m2
    have a4 := idxP_lt m2
    rw [pbG_eth hd, e, pbEdge, pbG_len.1]
    exact ⟨t1, t2, a1, a2, a3, a4⟩
theorem pbDown_hom {s : Co} (ok : CoOk s) : Hom (pbG s) s.B (pbDown s) := by
  refine ⟨by rw [pbG_len.1]; exact fstL_len, by rw [pbG_len.2]; exact fstL_len, fun x hx => ?_, fun x hx => ?_, fun i hi => ?_, fun i hi => ?_⟩
  · obtain ⟨q, hq, rfl⟩ := List.mem_map.1 hx
    obtain ⟨i, k, hi, hk, rfl⟩ := pbNs_at ok hq
    exact ⟨by simp, by simpa using hi⟩
  · obtain ⟨q, hq, rfl⟩ := List.mem_map.1 hx
    obtain ⟨i, k, hi, hk, rfl⟩ := pbEs_at ok hq
    exact ⟨by simp, by simpa using hi⟩
  · rw [pbG_len.1] at hi
    rw [pbG_nth hi, pbNode, fn, pbDown, nth_fst hi]
  · rw [pbG_len.2] at hi
    obtain ⟨a, b, ha, hb, h3, e⟩ := mem_pbP.1 (pth_mem (show i < (pbP s.F.edges s.G.edges).length from hi))
    have e : pth (pbEs s) i = ((a : Int), (b : Int)) := e
    rw [ok.F.le] at ha
    rw [ok.G.le] at hb
    obtain ⟨m1, m2⟩ := pb_ends ok ha hb h3
    have a1 := idxP_pos.2 m1
    have a2 := idxP_lt m1
    have a3 := idxP_pos.2 m2
    have a4 := idxP_lt m2
    have q1 := idxP_get m1
    have q2 := idxP_get m2
    rw [pbG_eth hi, e, pbEdge, fn, pbDown, nth_fst hi, e]
    simp only [Int.toNat_natCast]
    rw [nth_fst (by omega), nth_fst (by omega), q1, q2]
    refine ⟨?_, ?_, ?_⟩ <;> first | rfl | trivial
theorem pbUpp_hom {s : Co} (ok : CoOk s) : Hom (pbG s) s.C (pbUpp s) := by
  refine ⟨by rw [pbG_len.1]; exact sndL_len, by rw [pbG_len.2]; exact sndL_len, fun x hx => ?_, fun x hx => ?_, fun i hi => ?_, fun i hi => ?_⟩
  · obtain ⟨q, hq, rfl⟩ := List.mem_map.1 hx
    obtain ⟨i, k, hi, hk, rfl⟩ := pbNs_at ok hq
    exact ⟨by simp, by simpa using hk⟩
  · obtain ⟨q, hq, rfl⟩ := List.mem_map.1 hx
    obtain ⟨i, k, hi, hk, rfl⟩ := pbEs_at ok hq
    exact ⟨by simp, by simpa using hk⟩
  · rw [pbG_len.1] at hi
    obtain ⟨a, b, ha, hb, h3, e⟩ := mem_pbP.1 (pth_mem (show i < (pbP s.F.nodes s.G.nodes).length from hi))
    have e : pth (pbNs s) i = ((a : Int), (b : Int)) := e
    rw [ok.F.ln] at ha
    rw [ok.G.ln] at hb
    have k1 := (ok.F.n a ha).2.2
    have k2 := (ok.G.n b hb).2.2
    rw [pbG_nth hi, pbNode, fn, pbUpp, nth_snd hi, e]
    simp only [Int.toNat_natCast]
    rw [← k1, ← k2, h3]
  · rw [pbG_len.2] at hi
    obtain ⟨a, b, ha, hb, h3, e⟩ := mem_pbP.1 (pth_mem (show i < (pbP s.F.edges s.G.edges).length from hi))
    have e : pth (pbEs s) i = ((a : Int), (b : Int)) := e
    rw [ok.F.le] at ha
    rw [ok.G.le] at hb
    obtain ⟨m1, m2⟩ := pb_ends ok ha hb h3
    have a1 := idxP_pos.2 m1
    have a2 := idxP_lt m1
    have a3 := idxP_pos.2 m2
    have a4 := idxP_lt m2
    have q1 := idxP_get m1
    have q2 := idxP_get m2
    have k1 := (ok.F.e a ha).2.2.1
    have k2 := (ok.G.e b hb).2.2.1
    rw [h3] at k1
    rw [pbG_eth hi, e, pbEdge, fn, pbUpp, nth_snd hi, e]
    simp only [Int.toNat_natCast]
    rw [nth_snd (by omega), nth_snd (by omega), q1, q2, k1, k2]
    refine ⟨?_, ?_, ?_⟩ <;> first | rfl | trivial

/-! ### What mediates -/
structure Cone' (s : Co) (a : Gr) (h k : Pa) : Prop where
  e : pbErr s = 0
  ok : CoOk s
  mp : MorOk a s.B h
  mq : MorOk a s.C k
  cn : ∀ i, i < a.nodes.length → fn s.F.nodes (fn h.nodes i) = fn s.G.nodes (fn k.nodes i)
  ce : ∀ i, i < a.edges.length → fn s.F.edges (fn h.edges i) = fn s.G.edges (fn k.edges i)
theorem med_cone {s : Co} {a : Gr} {h k : Pa} (e : medE s a h k = 0) : Cone' s a h k := by
  obtain ⟨h1, h2, h3, h5⟩ := medE_ok e
  have ok := (pbErr_few h1).1
  have m1 := mor_ok h2
  have m2 := mor_ok h3
  have l1 := m1.ln
  have l2 := m1.le
  have l3 := m2.ln
  have l4 := m2.le
  have h6 := sameP_iff.1 h5
  injection h6 with h6 h7
  exact ⟨h1, ok, m1, m2, fun i hi => same_thru h6 (by omega) (by omega), fun i hi => same_thru h7 (by omega) (by omega)⟩
theorem meet_nth {l : List (Int × Int)} {h k : List Int} {n i : Nat} (hi : i < n) : nth (meetL l h k n) i = idxP l (nth h i, nth k i) := by
  rw [nth_eq (by rw [meetL_len]; exact hi)]; simp [meetL]
theorem med_memN {s : Co} {a : Gr} {h k : Pa} (c : Cone' s a h k) {i : Nat} (hi : i < a.nodes.length) : (nth h.nodes i, nth k.nodes i) ∈ pbNs s := by
  obtain ⟨e1, b1⟩ := fn_at c.mp.rn (show i < h.nodes.length by rw [c.mp.ln]; exact hi)
  obtain ⟨e2, b2⟩ := fn_at c.mq.rn (show i < k.nodes.length by rw [c.mq.ln]; exact hi)
  have l1 := c.ok.F.ln
  have l2 := c.ok.G.ln
  refine mem_pbP.2 ⟨fn h.nodes i, fn k.nodes i, by omega, by omega, ?_, by rw [e1, e2]⟩
  rw [(fn_at c.ok.F.rn (by omega)).1, (fn_at c.ok.G.rn (by omega)).1, c.cn i hi]
theorem med_memE {s : Co} {a : Gr} {h k : Pa} (c : Cone' s a h k) {i : Nat} (hi : i < a.edges.length) : (nth h.edges i, nth k.edges i) ∈ pbEs s := by
  obtain ⟨e1, b1⟩ := fn_at c.mp.re (show i < h.edges.length by rw [c.mp.le]; exact hi)
  obtain ⟨e2, b2⟩ := fn_at c.mq.re (show i < k.edges.length by rw [c.mq.le]; exact hi)
  have l1 := c.ok.F.le
  have l2 := c.ok.G.le
  refine mem_pbP.2 ⟨fn h.edges i, fn k.edges i, by omega, by omega, ?_, by rw [e1, e2]⟩
  rw [(fn_at c.ok.F.re (by omega)).1, (fn_at c.ok.G.re (by omega)).1, c.ce i hi]
theorem med_n {s : Co} {a : Gr} {h k : Pa} (c : Cone' s a h k) {i : Nat} (hi : i < a.nodes.length) :
    nth (medC s h k).nodes i = idxP (pbNs s) (nth h.nodes i, nth k.nodes i) ∧ nth (pbDown s).nodes (fn (medC s h k).nodes i) = nth h.nodes i ∧ nth (pbUpp s).nodes (fn (medC s h k).nodes i) = nth k.nodes i := by
  have hm := med_memN c hi
  have h1 := idxP_lt hm
  have h0 := idxP_pos.2 hm
  have h2 := idxP_get hm
  have e : nth (medC s h k).nodes i = idxP (pbNs s) (nth h.nodes i, nth k.nodes i) := meet_nth (by rw [c.mp.ln]; exact hi)
  refine ⟨e, ?_, ?_⟩
  · rw [fn, e, pbDown, nth_fst (by omega), h2]
  · rw [fn, e, pbUpp, nth_snd (by omega), h2]
theorem med_e {s : Co} {a : Gr} {h k : Pa} (c : Cone' s a h k) {i : Nat} (hi : i < a.edges.length) :
    nth (medC s h k).edges i = idxP (pbEs s) (nth h.edges i, nth k.edges i) ∧ nth (pbDown s).edges (fn (medC s h k).edges i) = nth h.edges i ∧ nth (pbUpp s).edges (fn (medC s h k).edges i) = nth k.edges i := by
  have hm := med_memE c hi
  have h1 := idxP_lt hm
  have h0 := idxP_pos.2 hm
  have h2 := idxP_get hm
  have e : nth (medC s h k).edges i = idxP (pbEs s) (nth h.edges i, nth k.edges i) := meet_nth (by rw [c.mp.le]; exact hi)
  refine ⟨e, ?_, ?_⟩
  · rw [fn, e, pbDown, nth_fst (by omega), h2]
  · rw [fn, e, pbUpp, nth_snd (by omega), h2]
theorem med_hom {s : Co} {a : Gr} {h k : Pa} (c : Cone' s a h k) : Hom a (pbG s) (medC s h k) := by
  have l1 : (medC s h k).nodes.length = a.nodes.length := by simp only [medC, meetL_len, c.mp.ln]
  have l2 : (medC s h k).edges.length = a.edges.length := by simp only [medC, meetL_len, c.mp.le]
  have pd := pbDown_hom c.ok
  refine ⟨l1, l2, fun x hx => ?_, fun x hx => ?_, fun i hi => ?_, fun i hi => ?_⟩
  · obtain ⟨i, hi, rfl⟩ := mem_nth hx
    rw [l1] at hi
    have hm := med_memN c hi
    have h1 := idxP_lt hm
    have h0 := idxP_pos.2 hm
    rw [(med_n c hi).1, pbG_len.1]
    exact ⟨h0, h1⟩
  · obtain ⟨i, hi, rfl⟩ := mem_nth hx
    rw [l2] at hi
    have hm := med_memE c hi
    have h1 := idxP_lt hm
    have h0 := idxP_pos.2 hm
    rw [(med_e c hi).1, pbG_len.2]
    exact ⟨h0, h1⟩
  · have hm := med_memN c hi
    have h1 := idxP_lt hm
    have h0 := idxP_pos.2 hm
    have h2 := idxP_get hm
    rw [fn, (med_n c hi).1, pbG_nth (by omega), h2, pbNode]
    exact (c.mp.n i hi).2.2
  · have hm := med_memE c hi
    have h1 := idxP_lt hm
    have h0 := idxP_pos.2 hm
    have h2 := idxP_get hm
    obtain ⟨_, _, g1, g2, g3, g4⟩ := c.mp.ga.edges _ (eth_mem hi)
    obtain ⟨_, _, t1, u1, v1⟩ := c.mp.e i hi
    obtain ⟨_, _, t2, u2, v2⟩ := c.mq.e i hi
    rw [fn, (med_e c hi).1, pbG_eth (by omega), h2, pbEdge, (med_n c (show (eth a.edges i).f.toNat < a.nodes.length by omega)).1, (med_n c (show (eth a.edges i).g.toNat < a.nodes.length by omega)).1]
    simp only [← t1, ← u1, ← v1, ← u2, ← v2]
    refine ⟨?_, ?_, ?_⟩ <;> first | rfl | trivial

/-- A cone is accepted exactly if it is a pullback. -/
theorem pbChk_iff {s : Co} {a : Gr} {h k : Pa} (e : medE s a h k = 0) : pbChk s a h k = true ↔ IsPB s a h k := by
  have c := med_cone e
  have pb := pb_std c.ok
  have hm := med_hom c
  have hi := pbDown_hom c.ok
  have hj := pbUpp_hom c.ok
  have em := mor_zero (hm.ok c.mp.ga (pbG_ok c.e))
  have z1 : ∀ i, i < a.nodes.length → fn (pbDown s).nodes (fn (medC s h k).nodes i) = fn h.nodes i := fun i hi => by rw [fn, (med_n c hi).2.1]; rfl
  have z2 : ∀ i, i < a.nodes.length → fn (pbUpp s).nodes (fn (medC s h k).nodes i) = fn k.nodes i := fun i hi => by rw [fn, (med_n c hi).2.2]; rfl
  have z3 : ∀ i, i < a.edges.length → fn (pbDown s).edges (fn (medC s h k).edges i) = fn h.edges i := fun i hi => by rw [fn, (med_e c hi).2.1]; rfl
  have z4 : ∀ i, i < a.edges.length → fn (pbUpp s).edges (fn (medC s h k).edges i) = fn k.edges i := fun i hi => by rw [fn, (med_e c hi).2.2]; rfl
  have key : pbChk s a h k = true ↔ (((medC s h k).nodes.Nodup ∧ (medC s h k).edges.Nodup) ∧ (covB (medC s h k).nodes (pbG s).nodes.length = true ∧ covB (medC s h k).edges (pbG s).edges.length = true)) := by
    simp [pbChk, e, injB, surjB, em]
  rw [key, nodup_fn hm.ln hm.pn, nodup_fn hm.le hm.pe, cov_fn hm.ln hm.pn, cov_fn hm.le hm.pe]
  constructor
  · rintro ⟨⟨a1, a2⟩, b1, b2⟩
    exact ⟨pb_of_iso pb.1 hm.mn z1 z2 a1 b1, pb_of_iso pb.2 hm.me z3 z4 a2 b2⟩
  · rintro ⟨p1, p2⟩
    obtain ⟨a1, b1⟩ := pb_iso p1 pb.1 hi.mn hj.mn hm.mn z1 z2
    obtain ⟨a2, b2⟩ := pb_iso p2 pb.2 hi.me hj.me hm.me z3 z4
    exact ⟨⟨a1, a2⟩, b1, b2⟩
end Go.Proofs.YthcnpnogfblkcaaGreat

/- The kind of a valid square that commutes. No program in sight. -/
namespace Go.Proofs.YthcnpnogfblkcaaGreat
open Abs Po
set_option linter.unusedSimpArgs false
set_option linter.unusedVariables false

theorem sq_parts {s : Sq} (h1 : sqErr s = 0) : morErr s.A s.B s.F = 0 ∧ morErr s.A s.C s.G = 0 ∧ morErr s.B s.D s.H = 0 ∧ morErr s.C s.D s.K = 0 := by
  have ok := sqErr_ok h1
  exact ⟨mor_zero ok.F, mor_zero ok.G, mor_zero ok.H, mor_zero ok.K⟩
theorem sq_zero {s : Sq} (F : MorOk s.A s.B s.F) (G : MorOk s.A s.C s.G) (H : MorOk s.B s.D s.H) (K : MorOk s.C s.D s.K) : sqErr s = 0 := by
  simp [sqErr, mor_zero F, mor_zero G, mor_zero H, mor_zero K]
theorem down_err {s : Sq} (h1 : sqErr s = 0) : spErr (downS s) = 0 := by
  obtain ⟨a, b, _, _⟩ := sq_parts h1
  show (if morErr s.A s.B s.F = 0 then morErr s.A s.C s.G else morErr s.A s.B s.F) = 0
  rw [if_pos a, b]
theorem up_err {s : Sq} (h1 : sqErr s = 0) : coErr (upS s) = 0 := by
  obtain ⟨_, _, a, b⟩ := sq_parts h1
  show (if morErr s.B s.D s.H = 0 then morErr s.C s.D s.K else morErr s.B s.D s.H) = 0
  rw [if_pos a, b]
theorem pm_zero {s : Sq} (h1 : sqErr s = 0) (h2 : commB s = true) (h3 : unErr s.B s.C = 0) : pmE (downS s) s.D s.H s.K = 0 := by
  obtain ⟨a, b, c, d⟩ := sq_parts h1
  rw [pmE, if_pos (down_err h1), if_pos (show morErr (downS s).B s.D s.H = 0 from c), if_pos (show morErr (downS s).C s.D s.K = 0 from d), if_pos (show unErr (downS s).B (downS s).C = 0 from h3)]
  exact if_pos h2
theorem med_zero {s : Sq} (h1 : sqErr s = 0) (h2 : commB s = true) (h3 : pbErr (upS s) = 0) : medE (upS s) s.A s.F s.G = 0 := by
  obtain ⟨a, b, c, d⟩ := sq_parts h1
  rw [medE, if_pos h3, if_pos (show morErr s.A (upS s).B s.F = 0 from a), if_pos (show morErr s.A (upS s).C s.G = 0 from b)]
  exact if_pos h2
theorem pb_errs {s : Sq} (h1 : sqErr s = 0) : pbErr (upS s) = 0 ∨ pbErr (upS s) = 3 := by
  rw [pbErr, if_pos (up_err h1)]
  split
  · exact .inr rfl
  · exact .inl rfl
theorem un_errs {a b : Gr} (ga : GrOk a) (gb : GrOk b) : unErr a b = 0 ∨ unErr a b = 3 := by
  rw [unErr, if_pos (gErr_of ga), if_pos (gErr_of gb)]
  split
  · exact .inr rfl
  · exact .inl rfl
theorem un_zero {a b : Gr} (ga : GrOk a) (gb : GrOk b) (hn : a.nodes.length + b.nodes.length ≤ 40) (he : a.edges.length + b.edges.length ≤ 80) : unErr a b = 0 := by
  rw [unErr, if_pos (gErr_of ga), if_pos (gErr_of gb), if_neg]
  simp only [unBig]
  omega

/-- Pushout, pullback. -/
def SqPO (s : Sq) : Prop := IsPO (downS s) s.D s.H s.K
def SqPB (s : Sq) : Prop := IsPB (upS s) s.A s.F s.G

open Classical in
theorem kind_is {s : Sq} (h1 : sqErr s = 0) (h2 : commB s = true) (h3 : unErr s.B s.C = 0) :
    kindR s = (0, 3) ∨ kindR s = ((if SqPO s then 1 else 0) + (if SqPB s then 2 else 0), 0) := by
  have e1 : poErr (downS s) = 0 := by rw [poErr, if_pos (down_err h1)]; exact h3
  rcases pb_errs h1 with e | e
  · refine .inr ?_
    have k1 := poChk_iff (pm_zero h1 h2 h3)
    have k2 := pbChk_iff (med_zero h1 h2 e)
    rw [kindR, if_pos h1, if_pos h2, if_pos e1, if_pos e, kindN]
    have c1 : (poChk (downS s) s.D s.H s.K = true) = SqPO s := propext k1
    have c2 : (pbChk (upS s) s.A s.F s.G = true) = SqPB s := propext k2
    congr 1
    congr 1
    · by_cases h : SqPO s
      · rw [if_pos (k1.2 h), if_pos h]
      · rw [if_neg (fun x => h (k1.1 x)), if_neg h]
    · by_cases h : SqPB s
      · rw [if_pos (k2.2 h), if_pos h]
      · rw [if_neg (fun x => h (k2.1 x)), if_neg h]
  · refine .inl ?_
    rw [kindR, if_pos h1, if_pos h2, if_pos e1, if_neg (by omega), e]
theorem kind_too {s : Sq} (h1 : sqErr s = 0) (h2 : commB s = true) (h3 : unErr s.B s.C = 3) : kindR s = (0, 3) := by
  have e1 : poErr (downS s) = 3 := by rw [poErr, if_pos (down_err h1)]; exact h3
  rw [kindR, if_pos h1, if_pos h2, if_neg (by omega), e1]

theorem comm_of {s : Sq} (F : MorOk s.A s.B s.F) (G : MorOk s.A s.C s.G) (H : MorOk s.B s.D s.H) (K : MorOk s.C s.D s.K)
    (cn : ∀ i, i < s.A.nodes.length → fn s.H.nodes (fn s.F.nodes i) = fn s.K.nodes (fn s.G.nodes i)) (ce : ∀ i, i < s.A.edges.length → fn s.H.edges (fn s.F.edges i) = fn s.K.edges (fn s.G.edges i)) : commB s = true := by
  have l1 := F.ln
  have l2 := G.ln
  have l3 := F.le
  have l4 := G.le
  refine sameP_iff.2 ?_
  have key : ∀ {m : Nat} {f g h k : List Int} {nB nC nD : Nat}, f.length = m → g.length = m → placesIn f nB → placesIn g nC → h.length = nB → k.length = nC → placesIn h nD → placesIn k nD →
      (∀ i, i < m → fn h (fn f i) = fn k (fn g i)) → thru f h = thru g k := fun {m f g h k nB nC nD} e1 e2 pf pg e3 e4 ph pk hc => (thru_eq e1 e2).2 fun i hi => by
    have b1 := (fn_at pf (show i < f.length by omega)).2
    have b2 := (fn_at pg (show i < g.length by omega)).2
    have := hc i hi
    have c1 := (fn_at ph (show fn f i < h.length by omega)).1
    have c2 := (fn_at pk (show fn g i < k.length by omega)).1
    show nth h (fn f i) = nth k (fn g i)
    rw [c1, c2, this]
  have a1 := key F.ln G.ln F.rn G.rn H.ln K.ln H.rn K.rn cn
  have a2 := key F.le G.le F.re G.re H.le K.le H.re K.re ce
  simp only [thenP, a1, a2]
theorem comm_at {s : Sq} (h1 : sqErr s = 0) (h2 : commB s = true) :
    (∀ i, i < s.A.nodes.length → fn s.H.nodes (fn s.F.nodes i) = fn s.K.nodes (fn s.G.nodes i)) ∧ (∀ i, i < s.A.edges.length → fn s.H.edges (fn s.F.edges i) = fn s.K.edges (fn s.G.edges i)) := by
  have ok := sqErr_ok h1
  have l1 := ok.F.ln
  have l2 := ok.G.ln
  have l3 := ok.F.le
  have l4 := ok.G.le
  have h6 := sameP_iff.1 h2
  injection h6 with h6 h7
  exact ⟨fun i hi => same_thru h6 (by omega) (by omega), fun i hi => same_thru h7 (by omega) (by omega)⟩
theorem then_ok {a b c : Gr} {m n : Pa} (hm : MorOk a b m) (hn : MorOk b c n) : MorOk a c (thenP m n) := by
  have h := hm.hom
  have k := hn.hom
  refine Hom.ok ⟨by simp only [thenP, thru_len]; exact h.ln, by simp only [thenP, thru_len]; exact h.le, thru_in k.pn (by rw [k.ln]; exact h.pn), thru_in k.pe (by rw [k.le]; exact h.pe), fun i hi => ?_, fun i hi => ?_⟩ hm.ga hn.gb
  · have b1 := (fn_at h.pn (show i < m.nodes.length by rw [h.ln]; exact hi)).2
    simp only [thenP]
    rw [fn_thru (by rw [h.ln]; exact hi), k.kn _ b1, h.kn i hi]
  · have b1 := (fn_at h.pe (show i < m.edges.length by rw [h.le]; exact hi)).2
    simp only [thenP]
    obtain ⟨x1, x2, x3⟩ := h.ke i hi
    obtain ⟨y1, y2, y3⟩ := k.ke _ b1
    obtain ⟨_, _, g1, g2, g3, g4⟩ := hm.ga.edges _ (eth_mem hi)
    have l := h.ln
    rw [fn_thru (by rw [h.le]; exact hi), y1, y2, y3, x1, x2, x3, thru_nth (by omega), thru_nth (by omega)]
    exact ⟨rfl, rfl, rfl⟩
end Go.Proofs.YthcnpnogfblkcaaGreat

/- Images of graphs and grown graphs: their morphisms; spans of descriptions; squares of standard pushouts. No program in sight. -/
namespace Go.Proofs.YthcnpnogfblkcaaGreat
open Abs Po
set_option linter.unusedSimpArgs false
set_option linter.unusedVariables false

theorem imT_flat {g : Gr} {c : List Int} : Flat (imT g c) := imP_flat (by omega)
theorem imT_len {g : Gr} {c : List Int} : (imT g c).length = g.nodes.length := imP_len
theorem imT_con {g : Gr} {c : List Int} : ∀ i, i < g.nodes.length → nth g.nodes (nth (imT g c) i).toNat = nth g.nodes i := fun i hi => genL_inv (f := nth g.nodes) (imL_in (by omega)) imL_same hi
theorem imQ_nth {g : Gr} {c : List Int} {i : Nat} (hi : i < g.nodes.length) : ∃ r : Nat, nth (imQ g c) i = (clsN (imT g c) r : Nat) ∧ r < g.nodes.length ∧ nth (imT g c) r = r ∧ nth g.nodes r = nth g.nodes i := by
  obtain ⟨r, h1, h2, h3⟩ := root_of imT_flat imT_len hi
  have h4 := imT_con (g := g) (c := c) i hi
  rw [h1, Int.toNat_natCast] at h4
  refine ⟨r, ?_, h2, h3, h4⟩
  rw [imQ, quotL_nth (by rw [imT_len]; exact hi), h1, Int.toNat_natCast]
theorem imG_nlen {g : Gr} {c : List Int} : (imG g c).nodes.length = clsN (imT g c) g.nodes.length := clsF_len
theorem imQ_in {g : Gr} {c : List Int} : placesIn (imQ g c) (imG g c).nodes.length := by
  rw [imG_nlen]
  exact quotL_in imT_flat imT_len
theorem imQ_len {g : Gr} {c : List Int} : (imQ g c).length = g.nodes.length := by rw [imQ, quotL_len, imT_len]
theorem imAt_ok {E : List Ed} {x : Ed} {c : List Int} {i : Nat} : ∀ k, 0 ≤ imAt E x c i k → eth E (imAt E x c i k).toNat = x
  | 0, h => absurd h (by simp [imAt])
  | k + 1, h => by
    unfold imAt at h ⊢
    split
    · rename_i h1
      rw [Int.toNat_natCast]
      exact h1.1
    · rename_i h1
      rw [if_neg h1] at h
      exact imAt_ok k h
/-- Where the edges go. -/
theorem imS_at {g : Gr} {c q : List Int} : ∀ k i, i < k → 0 ≤ nth (imS g c q k).2 i ∧ nth (imS g c q k).2 i < (imS g c q k).1.length ∧ eth (imS g c q k).1 (nth (imS g c q k).2 i).toNat = imX g q i
  | 0, i, h => absurd h (by omega)
  | k + 1, i, h => by
    have ih := imS_at (g := g) (c := c) (q := q) k
    have hl := (imS_len (g := g) (c := c) (q := q) k).2
    have ha := imAt_lt (E := (imS g c q k).1) (x := imX g q k) (c := c) (i := k) (imS g c q k).1.length
    have hok := imAt_ok (E := (imS g c q k).1) (x := imX g q k) (c := c) (i := k) (imS g c q k).1.length
    unfold imS
    split
    · by_cases e : i = k
      · subst e
        have e1 : nth ((imS g c q i).2 ++ [((imS g c q i).1.length : Int)]) i = (imS g c q i).1.length := by
          rw [nth_eq (by simp; omega), List.getElem_append_right (by omega)]
          simp
        simp only [e1, Int.toNat_natCast]
        refine ⟨by omega, by simp only [List.length_append, List.length_singleton]; omega, ?_⟩
        rw [eth_eq (by simp), List.getElem_append_right (Nat.le_refl _)]
        simp
      · obtain ⟨h1, h2, h3⟩ := ih i (by omega)
        have e1 : nth ((imS g c q k).2 ++ [((imS g c q k).1.length : Int)]) i = nth (imS g c q k).2 i := nth_appL (by omega)
        simp only [e1]
        refine ⟨h1, by simp; omega, ?_⟩
        rw [eth_appL (by omega)]
        exact h3
    · rename_i hn
      by_cases e : i = k
      · subst e
        have e1 : nth ((imS g c q i).2 ++ [imAt (imS g c q i).1 (imX g q i) c i (imS g c q i).1.length]) i = imAt (imS g c q i).1 (imX g q i) c i (imS g c q i).1.length := by
          rw [nth_eq (by simp; omega), List.getElem_append_right (by omega)]
          simp
        simp only [e1]
        exact ⟨by omega, ha.2, hok (by omega)⟩
      · obtain ⟨h1, h2, h3⟩ := ih i (by omega)
        have e1 : nth ((imS g c q k).2 ++ [imAt (imS g c q k).1 (imX g q k) c k (imS g c q k).1.length]) i = nth (imS g c q k).2 i := nth_appL (by omega)
        simp only [e1]
        exact ⟨h1, h2, h3⟩
theorem imS_mem {g : Gr} {c q : List Int} : ∀ k, ∀ e ∈ (imS g c q k).1, ∃ i, i < k ∧ e = imX g q i
  | 0, e, h => by simp [imS] at h
  | k + 1, e, h => by
    unfold imS at h
    split at h
    · rcases List.mem_append.1 h with h | h
      · obtain ⟨i, hi, he⟩ := imS_mem k e h
        exact ⟨i, by omega, he⟩
      · simp at h
        exact ⟨k, by omega, h⟩
    · obtain ⟨i, hi, he⟩ := imS_mem k e h
      exact ⟨i, by omega, he⟩
theorem imG_ok {g : Gr} {c : List Int} (gg : GrOk g) : GrOk (imG g c) := by
  have hf := imG_few (g := g) (c := c)
  have b1 := gg.n
  have b2 := gg.e
  refine ⟨by omega, by omega, fun x hx => ?_, fun e he => ?_⟩
  · obtain ⟨j, hj, hx⟩ := mem_collect.1 hx
    unfold clsF at hx
    split at hx
    · injection hx with hx
      rw [← hx]
      exact gg.kinds _ (nth_mem hj)
    · cases hx
  · obtain ⟨i, hi, rfl⟩ := imS_mem _ e he
    obtain ⟨t1, t2, g1, g2, g3, g4⟩ := gg.edges _ (eth_mem hi)
    have l := imQ_len (g := g) (c := c)
    have p1 := imQ_in _ (nth_mem (l := imQ g c) (k := (eth g.edges i).f.toNat) (by omega))
    have p2 := imQ_in _ (nth_mem (l := imQ g c) (k := (eth g.edges i).g.toNat) (by omega))
    exact ⟨t1, t2, p1.1, p1.2, p2.1, p2.2⟩
theorem im_mor {g : Gr} {c : List Int} (gg : GrOk g) : MorOk g (imG g c) (imM g c) := by
  refine Hom.ok ⟨imQ_len, (imS_len _).2, imQ_in, fun x hx => ?_, fun i hi => ?_, fun i hi => ?_⟩ gg (imG_ok gg)
  · obtain ⟨i, hi, rfl⟩ := mem_nth hx
    have hi : i < (imS g c (imQ g c) g.edges.length).2.length := hi
    rw [(imS_len _).2] at hi
    obtain ⟨h1, h2, _⟩ := imS_at _ i hi
    exact ⟨h1, h2⟩
  · obtain ⟨r, h1, h2, h3, h4⟩ := imQ_nth (c := c) hi
    have := clsF_get (f := nth g.nodes) h3 (k := g.nodes.length) h2
    have e : fn (imM g c).nodes i = clsN (imT g c) r := by
      show fn (imQ g c) i = _
      rw [fn, h1]; rfl
    rw [e, ← h4]
    show ((collect (clsF (imT g c) (nth g.nodes)) g.nodes.length).getD (clsN (imT g c) r) 0) = _
    rw [List.getD, this]
    rfl
  · obtain ⟨h1, h2, h3⟩ := imS_at (g := g) (c := c) (q := imQ g c) _ i hi
    have e : eth (imG g c).edges (fn (imM g c).edges i) = imX g (imQ g c) i := h3
    rw [e]
    exact ⟨rfl, rfl, rfl⟩
theorem id_mor {g : Gr} (gg : GrOk g) : MorOk g g (idP g) := by
  refine Hom.ok ⟨idL_len, idL_len, fun x hx => ?_, fun x hx => ?_, fun i hi => ?_, fun i hi => ?_⟩ gg gg
  · obtain ⟨i, hi, rfl⟩ := mem_nth hx
    have hi : i < (idL g.nodes.length).length := hi
    rw [idL_len] at hi
    have e : nth (idP g).nodes i = i := idL_nth hi
    rw [e]
    omega
  · obtain ⟨i, hi, rfl⟩ := mem_nth hx
    have hi : i < (idL g.edges.length).length := hi
    rw [idL_len] at hi
    have e : nth (idP g).edges i = i := idL_nth hi
    rw [e]
    omega
  · have e : fn (idP g).nodes i = i := by
      show fn (idL g.nodes.length) i = i
      rw [fn, idL_nth hi]; rfl
    rw [e]
  · have e : fn (idP g).edges i = i := by
      show fn (idL g.edges.length) i = i
      rw [fn, idL_nth hi]; rfl
    obtain ⟨_, _, g1, g2, g3, g4⟩ := gg.edges _ (eth_mem hi)
    rw [e]
    have e1 : nth (idP g).nodes (eth g.edges i).f.toNat = (eth g.edges i).f := by
      show nth (idL g.nodes.length) _ = _
      rw [idL_nth (by omega)]; omega
    have e2 : nth (idP g).nodes (eth g.edges i).g.toNat = (eth g.edges i).g := by
      show nth (idL g.nodes.length) _ = _
      rw [idL_nth (by omega)]; omega
    rw [e1, e2]
    exact ⟨rfl, rfl, rfl⟩
theorem gr_base {g : Gr} {l : List Nat} (gg : GrOk g) : MorOk g (grG g l) (grM g l) := by
  unfold grG grM
  split
  · exact im_mor gg
  · exact id_mor gg

/-- More nodes and edges. -/
theorem more_mor {a b : Gr} {m : Pa} {x : List Int} {y : List Ed} (h : MorOk a b m) (gb : GrOk ⟨b.nodes ++ x, b.edges ++ y⟩) : MorOk a ⟨b.nodes ++ x, b.edges ++ y⟩ m := by
  have hh := h.hom
  refine Hom.ok ⟨hh.ln, hh.le, fun z hz => ?_, fun z hz => ?_, fun i hi => ?_, fun i hi => ?_⟩ h.ga gb
  · have := hh.pn z hz
    simp only [List.length_append]
    omega
  · have := hh.pe z hz
    simp only [List.length_append]
    omega
  · have := hh.mn i hi
    show nth (b.nodes ++ x) _ = _
    rw [nth_appL this]
    exact hh.kn i hi
  · have := hh.me i hi
    show (eth (b.edges ++ y) _).t = _ ∧ (eth (b.edges ++ y) _).f = _ ∧ (eth (b.edges ++ y) _).g = _
    rw [eth_appL this]
    exact hh.ke i hi
theorem grow_few {g : Gr} {l : List Nat} : (growG g l).nodes.length ≤ g.nodes.length + 3 ∧ (growG g l).edges.length ≤ g.edges.length + 4 := by
  have hf := grG_few (g := g) (l := l)
  have h1 : (growG g l).nodes.length ≤ (grG g l).nodes.length + gnc l := grN_len
  have h2 : (growG g l).edges.length = (grG g l).edges.length + gec g l := grE_len
  have h3 : gnc l ≤ 3 := by simp only [gnc]; omega
  have h4 : gec g l ≤ 4 := by
    simp only [gec]
    split <;> omega
  omega
theorem grow_ok {g : Gr} {l : List Nat} (gg : GrOk g) (hn : g.nodes.length ≤ 37) (he : g.edges.length ≤ 76) : GrOk (growG g l) := by
  have hb := (gr_base (l := l) gg).gb
  have hf := grow_few (g := g) (l := l)
  have hl : (grG g l).nodes.length ≤ (grn g l).length := by
    simp only [grn, grN, List.length_append]
    omega
  refine ⟨by omega, by omega, fun x hx => ?_, fun e h => ?_⟩
  · have hx : x ∈ (grG g l).nodes ++ collect (gnF l) (gnc l) := hx
    rcases List.mem_append.1 hx with hx | hx
    · exact hb.kinds x hx
    · obtain ⟨j, _, hj⟩ := mem_collect.1 hx
      unfold gnF at hj
      split at hj
      · injection hj with hj
        omega
      · cases hj
  · have h : e ∈ (grG g l).edges ++ (List.range (gec g l)).map (geX l (grn g l).length) := h
    rcases List.mem_append.1 h with h | h
    · obtain ⟨t1, t2, g1, g2, g3, g4⟩ := hb.edges e h
      have e1 : (growG g l).nodes.length = (grn g l).length := rfl
      exact ⟨t1, t2, g1, by omega, g3, by omega⟩
    · obtain ⟨j, hj, rfl⟩ := List.mem_map.1 h
      have hj := List.mem_range.1 hj
      have z : (grn g l).length ≠ 0 := by
        intro z
        simp [gec, z] at hj
      have z1 := Nat.mod_lt (byth l (j + 4) / 2) (Nat.pos_of_ne_zero z)
      have z2 := Nat.mod_lt (byth l (j + 4) / 16) (Nat.pos_of_ne_zero z)
      have e1 : (growG g l).nodes.length = (grn g l).length := rfl
      rw [e1]
      simp only [geX]
      omega
theorem grow_mor {g : Gr} {l : List Nat} (gg : GrOk g) (hn : g.nodes.length ≤ 37) (he : g.edges.length ≤ 76) : MorOk g (growG g l) (grM g l) :=
  more_mor (gr_base gg) (grow_ok gg hn he)

theorem mdS_ok {d : Dr} {b c : List Nat} : SpOk (mdS d b c) := by
  have hf := mdG_few (d := d)
  have h1 := grow_mor (l := b) (mdG_ok (d := d)) (by omega) (by omega)
  have h2 := grow_mor (l := c) (mdG_ok (d := d)) (by omega) (by omega)
  exact ⟨h1, h2⟩
theorem mdS_few {d : Dr} {b c : List Nat} : (mdS d b c).B.nodes.length ≤ 11 ∧ (mdS d b c).B.edges.length ≤ 14 ∧ (mdS d b c).C.nodes.length ≤ 11 ∧ (mdS d b c).C.edges.length ≤ 14 := by
  have hf := mdG_few (d := d)
  have h1 := grow_few (g := mdG d) (l := b)
  have h2 := grow_few (g := mdG d) (l := c)
  simp only [mdS]
  omega

theorem mdS_un' {d : Dr} {b c : List Nat} : unErr (mdS d b c).B (mdS d b c).C = 0 := by
  have hf := mdS_few (d := d) (b := b) (c := c)
  exact un_zero mdS_ok.F.gb mdS_ok.G.gb (by omega) (by omega)

/-! ### The square of a standard pushout -/
theorem gl_is {s : Sp} (ok : SpOk s) (hu : unErr s.B s.C = 0) : glS s = ⟨s.A, s.B, s.C, poG s, s.F, s.G, poI s, poJ s⟩ := by
  have e1 : poErr s = 0 := by
    rw [poErr, if_pos]
    · exact hu
    · rw [spErr, if_pos (mor_zero ok.F)]
      exact mor_zero ok.G
  simp [glS, poR, e1]
theorem gl_sq {s : Sp} (ok : SpOk s) (hu : unErr s.B s.C = 0) : sqErr (glS s) = 0 ∧ commB (glS s) = true ∧ SqPO (glS s) := by
  rw [gl_is ok hu]
  have g := poG_ok ok hu
  have po := po_std ok
  have hH := (poI_hom ok).ok ok.F.gb g
  have hK := (poJ_hom ok).ok ok.G.gb g
  exact ⟨sq_zero ok.F ok.G hH hK, comm_of ok.F ok.G hH hK po.1.comm po.2.comm, po⟩
theorem po_pb {s : Sq} (h1 : sqErr s = 0) (po : SqPO s) (hi : injB s.A s.B s.F = true ∨ injB s.A s.C s.G = true) : SqPB s := by
  have ok := sqErr_ok h1
  rcases hi with hi | hi
  · simp [injB] at hi
    exact ⟨po_inj po.1 ok.F.hom.mn ((nodup_fn ok.F.ln ok.F.rn).1 hi.1.2), po_inj po.2 ok.F.hom.me ((nodup_fn ok.F.le ok.F.re).1 hi.2)⟩
  · simp [injB] at hi
    exact ⟨(po_inj po.1.symm ok.G.hom.mn ((nodup_fn ok.G.ln ok.G.rn).1 hi.1.2)).symm, (po_inj po.2.symm ok.G.hom.me ((nodup_fn ok.G.le ok.G.re).1 hi.2)).symm⟩
open Classical in
theorem gl_kind {s : Sp} (ok : SpOk s) (hu : unErr s.B s.C = 0) :
    kindR (glS s) = (0, 3) ∨ kindR (glS s) = (3, 0) ∨ kindR (glS s) = (1, 0) ∧ injB s.A s.B s.F = false ∧ injB s.A s.C s.G = false := by
  obtain ⟨h1, h2, h3⟩ := gl_sq ok hu
  rcases kind_is h1 h2 (by rw [gl_is ok hu]; exact hu) with e | e
  · exact .inl e
  · rw [if_pos h3] at e
    by_cases hp : SqPB (glS s)
    · rw [if_pos hp] at e
      exact .inr (.inl e)
    · rw [if_neg hp] at e
      refine .inr (.inr ⟨e, ?_, ?_⟩)
      · cases hi : injB s.A s.B s.F
        · rfl
        · exact absurd (po_pb h1 h3 (.inl hi)) hp
      · cases hi : injB s.A s.C s.G
        · rfl
        · exact absurd (po_pb h1 h3 (.inr hi)) hp
end Go.Proofs.YthcnpnogfblkcaaGreat

/- The law of gluing. -/
namespace Go.Proofs.YthcnpnogfblkcaaGreat
open Abs
set_option linter.unusedSimpArgs false
set_option linter.unusedVariables false
attribute [local simp] rn0 rn1 rn2 rn3 rn4 rn5 rn6 rn7 evOp nests Arg.ev St.val St.set St.new sliceOf binInt2 binInt AV.cells rdAt St.live retOf resOf resAll treeOf treeCell treeCells treeTups untree frameOf TV.av TR.av ints edgs prs fillV splice intsOf trees V1.tree bx Gr.v Pa.v

theorem tiny_ok {g : Gr} (h : GrOk g) : tinyG g := by
  have h1 := h.n
  have h2 := h.e
  exact ⟨by show _ ≤ _; omega, by show _ ≤ _; omega⟩
theorem tiny_mor {a b : Gr} {m : Pa} (h : MorOk a b m) : tinyP m := by
  have h1 := h.ga.n
  have h2 := h.ga.e
  have l1 := h.ln
  have l2 := h.le
  exact ⟨by show _ ≤ _; omega, by show _ ≤ _; omega⟩
theorem tiny_sp {s : Sp} (h : SpOk s) : TinySp s := ⟨tiny_ok h.F.ga, tiny_ok h.F.gb, tiny_ok h.G.gb, tiny_mor h.F, tiny_mor h.G⟩
theorem tiny_sq {s : Sq} (h : sqErr s = 0) : TinySq s := by
  have ok := sqErr_ok h
  exact ⟨tiny_ok ok.F.ga, tiny_ok ok.F.gb, tiny_ok ok.G.gb, tiny_ok ok.H.gb, tiny_mor ok.F, tiny_mor ok.G, tiny_mor ok.H, tiny_mor ok.K⟩
theorem mdS_un {d : Dr} {b c : List Nat} : unErr (mdS d b c).B (mdS d b c).C = 0 := by
  have hf := mdS_few (d := d) (b := b) (c := c)
  exact un_zero mdS_ok.F.gb mdS_ok.G.gb (by omega) (by omega)

def c_lawGlues : MFunc := ⟨70, [.tmp 4], .seq (.region [⟨some 2, .box 0 42 (.tmp 0), none⟩, ⟨some 3, .box 1 43 (.tmp 1), none⟩, ⟨some 4, .mv (.c (.one (.t (.bool false)))), none⟩]) (.seq (.seq (.region [⟨some 9, .call (.c (.one (.fn 11 []))) 64 [], none⟩, ⟨some 10, .not (.tmp 9), none⟩, ⟨some 11, .mv (.tmp 10), none⟩, ⟨some 12, .idxArr 2 1 (.tmp 3) (.c (.one (.t (.int .i64 0)))), some (11, false)⟩, ⟨some 13, .load false 1 (.tmp 12), some (11, false)⟩, ⟨some 14, .len (.tmp 13), some (11, false)⟩, ⟨some 15, .bin .gtr (.tmp 14) (.c (.one (.t (.int .i64 10)))), some (11, false)⟩, ⟨some 16, .pick (.tmp 11) (.c (.one (.t (.bool true)))) (.tmp 15), none⟩, ⟨some 17, .mv (.tmp 16), none⟩, ⟨some 18, .idxArr 2 1 (.tmp 3) (.c (.one (.t (.int .i64 1)))), some (17, false)⟩, ⟨some 19, .load false 1 (.tmp 18), some (17, false)⟩, ⟨some 20, .len (.tmp 19), some (17, false)⟩, ⟨some 21, .bin .gtr (.tmp 20) (.c (.one (.t (.int .i64 10)))), some (17, false)⟩, ⟨some 22, .pick (.tmp 17) (.c (.one (.t (.bool true)))) (.tmp 21), none⟩]) (.cond (.tmp 22) (.seq (.region [⟨some 23, .call (.c (.one (.fn 11 []))) 128 [], none⟩, ⟨some 4, .mv (.tmp 23), none⟩]) .ret) .skip)) (.seq (.region [⟨some 24, .load true 2 (.tmp 2), none⟩, ⟨some 25, .idxArr 2 1 (.tmp 3) (.c (.one (.t (.int .i64 0)))), none⟩, ⟨some 26, .load false 1 (.tmp 25), none⟩, ⟨some 27, .idxArr 2 1 (.tmp 3) (.c (.one (.t (.int .i64 1)))), none⟩, ⟨some 28, .load false 1 (.tmp 27), none⟩, ⟨some 29, .call (.c (.one (.fn 19 []))) 197 [.tmp 24, .tmp 26, .tmp 28], none⟩, ⟨some 30, .call (.c (.one (.fn 18 []))) 198 [.tmp 29], none⟩, ⟨some 5, .alloc 199 29 [.nil, .nil, .nil, .nil, .nil, .nil, .nil, .nil, .nil, .nil, .nil, .nil, .nil, .nil, .nil, .nil], none⟩, ⟨none, .store 16 (.tmp 5) (.tmp 30), none⟩]) (.seq (.region [⟨some 32, .load true 16 (.tmp 5), none⟩, ⟨some 33, .call (.c (.one (.fn 21 []))) 257 [.tmp 32], none⟩, ⟨some 31, .mv (.tmp 33), none⟩, ⟨some 34, .extract (.tmp 31) 0, none⟩, ⟨some 35, .extract (.tmp 31) 1, none⟩, ⟨some 6, .mv (.tmp 34), none⟩, ⟨some 7, .mv (.tmp 35), none⟩]) (.seq (.region [⟨some 36, .fieldA 0 (.tmp 5), none⟩, ⟨some 37, .load true 2 (.tmp 36), none⟩, ⟨some 38, .fieldA 2 (.tmp 5), none⟩, ⟨some 39, .load true 2 (.tmp 38), none⟩, ⟨some 40, .fieldA 8 (.tmp 5), none⟩, ⟨some 41, .load true 2 (.tmp 40), none⟩, ⟨some 42, .call (.c (.one (.fn 27 []))) 326 [.tmp 37, .tmp 39, .tmp 41], none⟩, ⟨some 43, .mv (.tmp 42), none⟩, ⟨some 44, .fieldA 0 (.tmp 5), some (43, false)⟩, ⟨some 45, .load true 2 (.tmp 44), some (43, false)⟩, ⟨some 46, .fieldA 4 (.tmp 5), some (43, false)⟩, ⟨some 47, .load true 2 (.tmp 46), some (43, false)⟩, ⟨some 48, .fieldA 10 (.tmp 5), some (43, false)⟩, ⟨some 49, .load true 2 (.tmp 48), some (43, false)⟩, ⟨some 50, .call (.c (.one (.fn 27 []))) 334 [.tmp 45, .tmp 47, .tmp 49], some (43, false)⟩, ⟨some 51, .pick (.tmp 43) (.c (.one (.t (.bool true)))) (.tmp 50), none⟩, ⟨some 8, .mv (.tmp 51), none⟩]) (.seq (.region [⟨some 52, .mv (.tmp 7), none⟩, ⟨some 53, .bin .eql (.tmp 52) (.c (.one (.t (.int .i64 3)))), none⟩, ⟨some 54, .mv (.tmp 53), none⟩, ⟨some 55, .mv (.tmp 7), some (54, false)⟩, ⟨some 56, .bin .eql (.tmp 55) (.c (.one (.t (.int .i64 0)))), some (54, false)⟩, ⟨some 57, .mv (.tmp 56), some (54, false)⟩, ⟨some 58, .mv (.tmp 6), some (57, true)⟩, ⟨some 59, .bin .eql (.tmp 58) (.c (.one (.t (.int .i64 3)))), some (57, true)⟩, ⟨some 60, .mv (.tmp 59), some (57, true)⟩, ⟨some 61, .mv (.tmp 6), some (60, false)⟩, ⟨some 62, .bin .eql (.tmp 61) (.c (.one (.t (.int .i64 1)))), some (60, false)⟩, ⟨some 63, .mv (.tmp 62), some (60, false)⟩, ⟨some 64, .mv (.tmp 8), some (63, true)⟩, ⟨some 65, .not (.tmp 64), some (63, true)⟩, ⟨some 66, .pick (.tmp 63) (.tmp 65) (.c (.one (.t (.bool false)))), some (60, false)⟩, ⟨some 67, .pick (.tmp 60) (.c (.one (.t (.bool true)))) (.tmp 66), some (57, true)⟩, ⟨some 68, .pick (.tmp 57) (.tmp 67) (.c (.one (.t (.bool false)))), some (54, false)⟩, ⟨some 69, .pick (.tmp 54) (.c (.one (.t (.bool true)))) (.tmp 68), none⟩, ⟨some 4, .mv (.tmp 69), none⟩]) .ret)))))⟩
theorem k_lawGlues : cFn Tryz.prog Tryz.f6 = some c_lawGlues := by kernel_rfl
set_option maxHeartbeats 2000000 in
theorem lawGlues_ok (d : Dr) (x : List Nat × List Nat) (hd : BoundD d) (hx : BoundB2 x) : CallOK Tryz.prog 6 [d.v, by2V x] (.sv (false, [.bool true])) := by
  refine callOK_W (callS_W (by kernel_rfl) Tryz.func6 k_lawGlues (callable_of Tryz.func6 (by kernel_rfl)) (by simp [c_lawGlues]) ?_)
  simp [c_lawGlues, Dr.v, by2V, bys]
  refine callS_tree awake14_ok ?_ ?_ ?_
  · rfl
  · rfl
  simp
  by_cases h1 : (10 : Int) < x.1.length
  · simp [h1]
    refine callS_tree awake14_ok ?_ ?_ ?_
    · rfl
    · rfl
    simp
  by_cases h2 : (10 : Int) < x.2.length
  · simp [h1, h2]
    refine callS_tree awake14_ok ?_ ?_ ?_
    · rfl
    · rfl
    simp
  simp [h1, h2]
  refine callS_tree (made10_ok d x.1 x.2 hd (by omega) hx.1.1 (by omega) hx.2.1) ?_ ?_ ?_
  · rfl
  · rfl
  have ok := mdS_ok (d := d) (b := x.1) (c := x.2)
  have hu := mdS_un (d := d) (b := x.1) (c := x.2)
  generalize mdS d x.1 x.2 = s at ok hu ⊢
  simp [Sp.v, Sp.cs]
  refine callS_tree (glued14_ok s (tiny_sp ok)) ?_ ?_ ?_
  · rfl
  · rfl
  have ts := tiny_sq (gl_sq ok hu).1
  have kd := gl_kind ok hu
  have eA : (glS s).A = s.A := rfl
  have eB : (glS s).B = s.B := rfl
  have eC : (glS s).C = s.C := rfl
  have eF : (glS s).F = s.F := rfl
  have eG : (glS s).G = s.G := rfl
  rw [← eA, ← eB, ← eC, ← eF, ← eG] at kd
  generalize glS s = q at ts kd ⊢
  simp [Sq.v, Sq.cs]
  refine callS_tree (sKind_ok q ts) ?_ ?_ ?_
  · rfl
  · rfl
  simp [kindT]
  refine callS_tree (injX_ok q.A q.B q.F ts.A ts.B ts.F) ?_ ?_ ?_
  · rfl
  · rfl
  rcases kd with e | e | ⟨e, i1, i2⟩
  · rw [e]
    cases i1 : injB q.A q.B q.F
    · simp
      refine callS_tree (injX_ok q.A q.C q.G ts.A ts.C ts.G) ?_ ?_ ?_
      · rfl
      · rfl
      simp
    · simp
  · rw [e]
    cases i1 : injB q.A q.B q.F
    · simp
      refine callS_tree (injX_ok q.A q.C q.G ts.A ts.C ts.G) ?_ ?_ ?_
      · rfl
      · rfl
      simp
    · simp
  · rw [e, i1]
    simp
    refine callS_tree (injX_ok q.A q.C q.G ts.A ts.C ts.G) ?_ ?_ ?_
    · rfl
    · rfl
    rw [i2]
    simp
end Go.Proofs.YthcnpnogfblkcaaGreat

/- Contracts: pasting squares; lifting squares. -/
namespace Go.Proofs.YthcnpnogfblkcaaGreat
open Abs
set_option linter.unusedSimpArgs false
set_option linter.unusedVariables false
attribute [local simp] rn0 rn1 rn2 rn3 rn4 rn5 rn6 rn7 evOp nests Arg.ev St.val St.set St.new sliceOf binInt2 binInt AV.cells rdAt St.live retOf resOf resAll treeOf treeCell treeCells treeTups untree frameOf TV.av TR.av ints edgs prs fillV splice intsOf trees V1.tree bx Gr.v Pa.v opRd opWr opNew opNewR opArgs argsRd argRd Arg.rd AV.refs V1.refs refsL dstL

/-- The outer square, or an error. -/
def pasE (s t : Sq) : Int := if sqErr s = 0 then if sqErr t = 0 then if sameG t.A s.B = true ∧ sameG t.C s.D = true ∧ sameP t.G s.H = true then 0 else 11 else sqErr t else sqErr s
def pasS (s t : Sq) : Sq := ⟨s.A, t.B, s.C, t.D, thenP s.F t.F, s.G, t.H, thenP s.K t.K⟩
def pasR (s t : Sq) : Sq × Int := if pasE s t = 0 then (pasS s t, 0) else (noS, pasE s t)

def c_sPaste : MFunc := ⟨72, [.cell 4 true 16, .tmp 5], .seq (.region [⟨some 2, .box 0 29 (.tmp 0), none⟩, ⟨some 3, .box 1 29 (.tmp 1), none⟩, ⟨some 4, .alloc 2 29 [.nil, .nil, .nil, .nil, .nil, .nil, .nil, .nil, .nil, .nil, .nil, .nil, .nil, .nil, .nil, .nil], none⟩, ⟨some 5, .mv (.c (.one (.t (.int .i64 0)))), none⟩]) (.seq (.seq (.region [⟨some 8, .load true 16 (.tmp 2), none⟩, ⟨some 9, .call (.c (.one (.fn 40 []))) 65 [.tmp 8], none⟩, ⟨some 6, .mv (.tmp 9), none⟩]) (.seq (.region [⟨some 10, .mv (.tmp 6), none⟩, ⟨some 11, .bin .neq (.tmp 10) (.c (.one (.t (.int .i64 0)))), none⟩]) (.cond (.tmp 11) (.seq (.region [⟨some 12, .build [.nil, .nil, .nil, .nil, .nil, .nil, .nil, .nil, .nil, .nil, .nil, .nil, .nil, .nil, .nil, .nil] [], none⟩, ⟨some 13, .mv (.tmp 6), none⟩, ⟨none, .store 16 (.tmp 4) (.tmp 12), none⟩, ⟨some 5, .mv (.tmp 13), none⟩]) .ret) .skip))) (.seq (.seq (.region [⟨some 14, .load true 16 (.tmp 3), none⟩, ⟨some 15, .call (.c (.one (.fn 40 []))) 257 [.tmp 14], none⟩, ⟨some 7, .mv (.tmp 15), none⟩]) (.seq (.region [⟨some 16, .mv (.tmp 7), none⟩, ⟨some 17, .bin .neq (.tmp 16) (.c (.one (.t (.int .i64 0)))), none⟩]) (.cond (.tmp 17) (.seq (.region [⟨some 18, .build [.nil, .nil, .nil, .nil, .nil, .nil, .nil, .nil, .nil, .nil, .nil, .nil, .nil, .nil, .nil, .nil] [], none⟩, ⟨some 19, .mv (.tmp 7), none⟩, ⟨none, .store 16 (.tmp 4) (.tmp 18), none⟩, ⟨some 5, .mv (.tmp 19), none⟩]) .ret) .skip))) (.seq (.seq (.region [⟨some 20, .fieldA 0 (.tmp 3), none⟩, ⟨some 21, .load true 2 (.tmp 20), none⟩, ⟨some 22, .fieldA 2 (.tmp 2), none⟩, ⟨some 23, .load true 2 (.tmp 22), none⟩, ⟨some 24, .call (.c (.one (.fn 79 []))) 452 [.tmp 21, .tmp 23], none⟩, ⟨some 25, .not (.tmp 24), none⟩, ⟨some 26, .mv (.tmp 25), none⟩, ⟨some 27, .fieldA 4 (.tmp 3), some (26, false)⟩, ⟨some 28, .load true 2 (.tmp 27), some (26, false)⟩, ⟨some 29, .fieldA 6 (.tmp 2), some (26, false)⟩, ⟨some 30, .load true 2 (.tmp 29), some (26, false)⟩, ⟨some 31, .call (.c (.one (.fn 79 []))) 459 [.tmp 28, .tmp 30], some (26, false)⟩, ⟨some 32, .not (.tmp 31), some (26, false)⟩, ⟨some 33, .pick (.tmp 26) (.c (.one (.t (.bool true)))) (.tmp 32), none⟩, ⟨some 34, .mv (.tmp 33), none⟩, ⟨some 35, .fieldA 10 (.tmp 3), some (34, false)⟩, ⟨some 36, .load true 2 (.tmp 35), some (34, false)⟩, ⟨some 37, .fieldA 12 (.tmp 2), some (34, false)⟩, ⟨some 38, .load true 2 (.tmp 37), some (34, false)⟩, ⟨some 39, .call (.c (.one (.fn 80 []))) 467 [.tmp 36, .tmp 38], some (34, false)⟩, ⟨some 40, .not (.tmp 39), some (34, false)⟩, ⟨some 41, .pick (.tmp 34) (.c (.one (.t (.bool true)))) (.tmp 40), none⟩]) (.cond (.tmp 41) (.seq (.region [⟨some 42, .build [.nil, .nil, .nil, .nil, .nil, .nil, .nil, .nil, .nil, .nil, .nil, .nil, .nil, .nil, .nil, .nil] [], none⟩, ⟨none, .store 16 (.tmp 4) (.tmp 42), none⟩, ⟨some 5, .mv (.c (.one (.t (.int .i64 11)))), none⟩]) .ret) .skip)) (.seq (.draw [[], [0], [1], [], [3], [4, 2], [], [6], [7, 5], [], [9], [10, 8], [], [12], [], [14], [13, 15, 11], [], [17], [18, 16], [], [20], [21, 19], [], [23], [], [25], [24, 26, 22], [2, 5, 8, 11, 16, 19, 22, 27], [28, 27, 0, 1, 2, 3, 4, 5, 6, 7, 8, 9, 10, 11, 12, 13, 14, 15, 16, 17, 18, 19, 20, 21, 22, 23, 24, 25, 26, 27, 28], [29, 0, 1, 2, 3, 4, 5, 6, 7, 8, 9, 10, 11, 12, 13, 14, 15, 16, 17, 18, 19, 20, 21, 22, 23, 24, 25, 26, 27, 28, 29]] [⟨some 43, .fieldA 0 (.tmp 2), none⟩, ⟨some 44, .load true 2 (.tmp 43), none⟩, ⟨some 45, .call (.c (.one (.fn 46 []))) 578 [.tmp 44], none⟩, ⟨some 46, .fieldA 2 (.tmp 3), none⟩, ⟨some 47, .load true 2 (.tmp 46), none⟩, ⟨some 48, .call (.c (.one (.fn 46 []))) 581 [.tmp 47], none⟩, ⟨some 49, .fieldA 4 (.tmp 2), none⟩, ⟨some 50, .load true 2 (.tmp 49), none⟩, ⟨some 51, .call (.c (.one (.fn 46 []))) 584 [.tmp 50], none⟩, ⟨some 52, .fieldA 6 (.tmp 3), none⟩, ⟨some 53, .load true 2 (.tmp 52), none⟩, ⟨some 54, .call (.c (.one (.fn 46 []))) 587 [.tmp 53], none⟩, ⟨some 55, .fieldA 8 (.tmp 2), none⟩, ⟨some 56, .load true 2 (.tmp 55), none⟩, ⟨some 57, .fieldA 8 (.tmp 3), none⟩, ⟨some 58, .load true 2 (.tmp 57), none⟩, ⟨some 59, .call (.c (.one (.fn 44 []))) 592 [.tmp 56, .tmp 58], none⟩, ⟨some 60, .fieldA 10 (.tmp 2), none⟩, ⟨some 61, .load true 2 (.tmp 60), none⟩, ⟨some 62, .call (.c (.one (.fn 63 []))) 595 [.tmp 61], none⟩, ⟨some 63, .fieldA 12 (.tmp 3), none⟩, ⟨some 64, .load true 2 (.tmp 63), none⟩, ⟨some 65, .call (.c (.one (.fn 63 []))) 598 [.tmp 64], none⟩, ⟨some 66, .fieldA 14 (.tmp 2), none⟩, ⟨some 67, .load true 2 (.tmp 66), none⟩, ⟨some 68, .fieldA 14 (.tmp 3), none⟩, ⟨some 69, .load true 2 (.tmp 68), none⟩, ⟨some 70, .call (.c (.one (.fn 44 []))) 603 [.tmp 67, .tmp 69], none⟩, ⟨some 71, .build [.nil, .nil, .nil, .nil, .nil, .nil, .nil, .nil, .nil, .nil, .nil, .nil, .nil, .nil, .nil, .nil] [(0, (2, .tmp 45)), (2, (2, .tmp 48)), (4, (2, .tmp 51)), (6, (2, .tmp 54)), (8, (2, .tmp 59)), (10, (2, .tmp 62)), (12, (2, .tmp 65)), (14, (2, .tmp 70))], none⟩, ⟨none, .store 16 (.tmp 4) (.tmp 71), none⟩, ⟨some 5, .mv (.c (.one (.t (.int .i64 0)))), none⟩]) .ret))))⟩
theorem k_sPaste : cFn Tryz.prog Tryz.f37 = some c_sPaste := by kernel_rfl
set_option maxHeartbeats 4000000 in
theorem sPaste_ok (s t : Sq) (h : TinySq s) (k : TinySq t) : CallOK Tryz.prog 37 [s.v, t.v] (sqT (pasR s t)) := by
  refine callOK_W (callS_W (by kernel_rfl) Tryz.func37 k_sPaste (callable_of Tryz.func37 (by kernel_rfl)) (by simp [c_sPaste]) ?_)
  simp [c_sPaste, Sq.v, Sq.cs]
  refine callS_tree (svalidS_ok s h) ?_ ?_ ?_
  · rfl
  · rfl
  by_cases h1 : sqErr s = 0
  case neg =>
    have e : pasR s t = (noS, sqErr s) := by simp [pasR, pasE, h1]
    simp [h1, sqT, e, noS, Sq.v, Sq.cs, edL]
  simp [h1]
  refine callS_tree (svalidS_ok t k) ?_ ?_ ?_
  · rfl
  · rfl
  by_cases h2 : sqErr t = 0
  case neg =>
    have e : pasR s t = (noS, sqErr t) := by simp [pasR, pasE, h1, h2]
    simp [h2, sqT, e, noS, Sq.v, Sq.cs, edL]
  simp [h2]
  refine callS_tree (ssame_ok t.A s.B k.A h.B) ?_ ?_ ?_
  · rfl
  · rfl
  cases h3 : sameG t.A s.B
  · have e : pasR s t = (noS, 11) := by simp [pasR, pasE, h1, h2, h3]
    simp [sqT, e, noS, Sq.v, Sq.cs, edL]
  simp
  refine callS_tree (ssame_ok t.C s.D k.C h.D) ?_ ?_ ?_
  · rfl
  · rfl
  cases h4 : sameG t.C s.D
  · have e : pasR s t = (noS, 11) := by simp [pasR, pasE, h1, h2, h3, h4]
    simp [sqT, e, noS, Sq.v, Sq.cs, edL]
  simp
  refine callS_tree (msame_ok t.G s.H k.G h.H) ?_ ?_ ?_
  · rfl
  · rfl
  cases h5 : sameP t.G s.H
  · have e : pasR s t = (noS, 11) := by simp [pasR, pasE, h1, h2, h3, h4, h5]
    simp [sqT, e, noS, Sq.v, Sq.cs, edL]
  have e : pasR s t = (pasS s t, 0) := by simp [pasR, pasE, h1, h2, h3, h4, h5]
  have o1 := sqErr_ok h1
  have o2 := sqErr_ok h2
  have f1 : FitsP s.F t.F := o1.F.fits (by rw [← sameG_iff.1 h3]; exact o2.F)
  have f2 : FitsP s.K t.K := o1.K.fits (by rw [← sameG_iff.1 h4]; exact o2.K)
  simp [dw0, dw1, dw2, dw3]
  refine dCall_ok (scopied_ok s.A h.A) ?_ ?_ ?_
  · rfl
  · rfl
  simp [dw0, dw1, dw2, dw3]
  refine dCall_ok (scopied_ok t.B k.B) ?_ ?_ ?_
  · rfl
  · rfl
  simp [dw0, dw1, dw2, dw3]
  refine dCall_ok (scopied_ok s.C h.C) ?_ ?_ ?_
  · rfl
  · rfl
  simp [dw0, dw1, dw2, dw3]
  refine dCall_ok (scopied_ok t.D k.D) ?_ ?_ ?_
  · rfl
  · rfl
  simp [dw0, dw1, dw2, dw3]
  refine dCall_ok (sthen_ok s.F t.F h.F f1) ?_ ?_ ?_
  · rfl
  · rfl
  simp [dw0, dw1, dw2, dw3]
  refine dCall_ok (arrow_ok s.G h.G) ?_ ?_ ?_
  · rfl
  · rfl
  simp [dw0, dw1, dw2, dw3]
  refine dCall_ok (arrow_ok t.H k.H) ?_ ?_ ?_
  · rfl
  · rfl
  simp [dw0, dw1, dw2, dw3]
  refine dCall_ok (sthen_ok s.K t.K h.K f2) ?_ ?_ ?_
  · rfl
  · rfl
  simp [dw0, dw1, dw2, dw3, sqT, e, pasS, Sq.v, Sq.cs]
  rfl

def c_rPaste : MFunc := ⟨66, [.cell 4 true 16, .tmp 5], .seq (.region [⟨some 2, .box 0 29 (.tmp 0), none⟩, ⟨some 3, .box 1 29 (.tmp 1), none⟩, ⟨some 4, .alloc 2 29 [.nil, .nil, .nil, .nil, .nil, .nil, .nil, .nil, .nil, .nil, .nil, .nil, .nil, .nil, .nil, .nil], none⟩, ⟨some 5, .mv (.c (.one (.t (.int .i64 0)))), none⟩]) (.seq (.seq (.region [⟨some 8, .load true 16 (.tmp 2), none⟩, ⟨some 9, .call (.c (.one (.fn 47 []))) 65 [.tmp 8], none⟩, ⟨some 6, .mv (.tmp 9), none⟩]) (.seq (.region [⟨some 10, .mv (.tmp 6), none⟩, ⟨some 11, .bin .neq (.tmp 10) (.c (.one (.t (.int .i64 0)))), none⟩]) (.cond (.tmp 11) (.seq (.region [⟨some 12, .build [.nil, .nil, .nil, .nil, .nil, .nil, .nil, .nil, .nil, .nil, .nil, .nil, .nil, .nil, .nil, .nil] [], none⟩, ⟨some 13, .mv (.tmp 6), none⟩, ⟨none, .store 16 (.tmp 4) (.tmp 12), none⟩, ⟨some 5, .mv (.tmp 13), none⟩]) .ret) .skip))) (.seq (.seq (.region [⟨some 14, .load true 16 (.tmp 3), none⟩, ⟨some 15, .call (.c (.one (.fn 47 []))) 257 [.tmp 14], none⟩, ⟨some 7, .mv (.tmp 15), none⟩]) (.seq (.region [⟨some 16, .mv (.tmp 7), none⟩, ⟨some 17, .bin .neq (.tmp 16) (.c (.one (.t (.int .i64 0)))), none⟩]) (.cond (.tmp 17) (.seq (.region [⟨some 18, .build [.nil, .nil, .nil, .nil, .nil, .nil, .nil, .nil, .nil, .nil, .nil, .nil, .nil, .nil, .nil, .nil] [], none⟩, ⟨some 19, .mv (.tmp 7), none⟩, ⟨none, .store 16 (.tmp 4) (.tmp 18), none⟩, ⟨some 5, .mv (.tmp 19), none⟩]) .ret) .skip))) (.seq (.seq (.region [⟨some 20, .fieldA 0 (.tmp 3), none⟩, ⟨some 21, .load true 2 (.tmp 20), none⟩, ⟨some 22, .fieldA 2 (.tmp 2), none⟩, ⟨some 23, .load true 2 (.tmp 22), none⟩, ⟨some 24, .call (.c (.one (.fn 22 []))) 452 [.tmp 21, .tmp 23], none⟩, ⟨some 25, .not (.tmp 24), none⟩, ⟨some 26, .mv (.tmp 25), none⟩, ⟨some 27, .fieldA 4 (.tmp 3), some (26, false)⟩, ⟨some 28, .load true 2 (.tmp 27), some (26, false)⟩, ⟨some 29, .fieldA 6 (.tmp 2), some (26, false)⟩, ⟨some 30, .load true 2 (.tmp 29), some (26, false)⟩, ⟨some 31, .call (.c (.one (.fn 22 []))) 459 [.tmp 28, .tmp 30], some (26, false)⟩, ⟨some 32, .not (.tmp 31), some (26, false)⟩, ⟨some 33, .pick (.tmp 26) (.c (.one (.t (.bool true)))) (.tmp 32), none⟩, ⟨some 34, .mv (.tmp 33), none⟩, ⟨some 35, .fieldA 10 (.tmp 3), some (34, false)⟩, ⟨some 36, .load true 2 (.tmp 35), some (34, false)⟩, ⟨some 37, .fieldA 12 (.tmp 2), some (34, false)⟩, ⟨some 38, .load true 2 (.tmp 37), some (34, false)⟩, ⟨some 39, .call (.c (.one (.fn 23 []))) 467 [.tmp 36, .tmp 38], some (34, false)⟩, ⟨some 40, .not (.tmp 39), some (34, false)⟩, ⟨some 41, .pick (.tmp 34) (.c (.one (.t (.bool true)))) (.tmp 40), none⟩]) (.cond (.tmp 41) (.seq (.region [⟨some 42, .build [.nil, .nil, .nil, .nil, .nil, .nil, .nil, .nil, .nil, .nil, .nil, .nil, .nil, .nil, .nil, .nil] [], none⟩, ⟨none, .store 16 (.tmp 4) (.tmp 42), none⟩, ⟨some 5, .mv (.c (.one (.t (.int .i64 11)))), none⟩]) .ret) .skip)) (.seq (.draw [[], [0], [], [2], [], [4], [], [6], [], [8], [], [10], [9, 11], [], [13], [], [15], [], [17], [], [19], [18, 20, 12], [1, 3, 5, 7, 12, 14, 16, 21], [22, 21, 0, 1, 2, 3, 4, 5, 6, 7, 8, 9, 10, 11, 12, 13, 14, 15, 16, 17, 18, 19, 20, 21, 22], [23, 0, 1, 2, 3, 4, 5, 6, 7, 8, 9, 10, 11, 12, 13, 14, 15, 16, 17, 18, 19, 20, 21, 22, 23]] [⟨some 43, .fieldA 0 (.tmp 2), none⟩, ⟨some 44, .load true 2 (.tmp 43), none⟩, ⟨some 45, .fieldA 2 (.tmp 3), none⟩, ⟨some 46, .load true 2 (.tmp 45), none⟩, ⟨some 47, .fieldA 4 (.tmp 2), none⟩, ⟨some 48, .load true 2 (.tmp 47), none⟩, ⟨some 49, .fieldA 6 (.tmp 3), none⟩, ⟨some 50, .load true 2 (.tmp 49), none⟩, ⟨some 51, .fieldA 8 (.tmp 2), none⟩, ⟨some 52, .load true 2 (.tmp 51), none⟩, ⟨some 53, .fieldA 8 (.tmp 3), none⟩, ⟨some 54, .load true 2 (.tmp 53), none⟩, ⟨some 55, .call (.c (.one (.fn 39 []))) 588 [.tmp 52, .tmp 54], none⟩, ⟨some 56, .fieldA 10 (.tmp 2), none⟩, ⟨some 57, .load true 2 (.tmp 56), none⟩, ⟨some 58, .fieldA 12 (.tmp 3), none⟩, ⟨some 59, .load true 2 (.tmp 58), none⟩, ⟨some 60, .fieldA 14 (.tmp 2), none⟩, ⟨some 61, .load true 2 (.tmp 60), none⟩, ⟨some 62, .fieldA 14 (.tmp 3), none⟩, ⟨some 63, .load true 2 (.tmp 62), none⟩, ⟨some 64, .call (.c (.one (.fn 39 []))) 597 [.tmp 61, .tmp 63], none⟩, ⟨some 65, .build [.nil, .nil, .nil, .nil, .nil, .nil, .nil, .nil, .nil, .nil, .nil, .nil, .nil, .nil, .nil, .nil] [(0, (2, .tmp 44)), (2, (2, .tmp 46)), (4, (2, .tmp 48)), (6, (2, .tmp 50)), (8, (2, .tmp 55)), (10, (2, .tmp 57)), (12, (2, .tmp 59)), (14, (2, .tmp 64))], none⟩, ⟨none, .store 16 (.tmp 4) (.tmp 65), none⟩, ⟨some 5, .mv (.c (.one (.t (.int .i64 0)))), none⟩]) .ret))))⟩
theorem k_rPaste : cFn Tryz.prog Tryz.f38 = some c_rPaste := by kernel_rfl
set_option maxHeartbeats 4000000 in
theorem rPaste_ok (s t : Sq) (h : TinySq s) (k : TinySq t) : CallOK Tryz.prog 38 [s.v, t.v] (sqT (pasR s t)) := by
  refine callOK_W (callS_W (by kernel_rfl) Tryz.func38 k_rPaste (callable_of Tryz.func38 (by kernel_rfl)) (by simp [c_rPaste]) ?_)
  simp [c_rPaste, Sq.v, Sq.cs]
  refine callS_tree (rvalidS_ok s h) ?_ ?_ ?_
  · rfl
  · rfl
  by_cases h1 : sqErr s = 0
  case neg =>
    have e : pasR s t = (noS, sqErr s) := by simp [pasR, pasE, h1]
    simp [h1, sqT, e, noS, Sq.v, Sq.cs, edL]
  simp [h1]
  refine callS_tree (rvalidS_ok t k) ?_ ?_ ?_
  · rfl
  · rfl
  by_cases h2 : sqErr t = 0
  case neg =>
    have e : pasR s t = (noS, sqErr t) := by simp [pasR, pasE, h1, h2]
    simp [h2, sqT, e, noS, Sq.v, Sq.cs, edL]
  simp [h2]
  refine callS_tree (ref5Same_ok t.A s.B k.A h.B) ?_ ?_ ?_
  · rfl
  · rfl
  cases h3 : sameG t.A s.B
  · have e : pasR s t = (noS, 11) := by simp [pasR, pasE, h1, h2, h3]
    rw [← sameG, h3]
    simp [sqT, e, noS, Sq.v, Sq.cs, edL]
  rw [← sameG, h3]
  simp
  refine callS_tree (ref5Same_ok t.C s.D k.C h.D) ?_ ?_ ?_
  · rfl
  · rfl
  cases h4 : sameG t.C s.D
  · have e : pasR s t = (noS, 11) := by simp [pasR, pasE, h1, h2, h3, h4]
    rw [← sameG, h4]
    simp [sqT, e, noS, Sq.v, Sq.cs, edL]
  rw [← sameG, h4]
  simp
  refine callS_tree (rsame_ok t.G s.H k.G h.H) ?_ ?_ ?_
  · rfl
  · rfl
  cases h5 : sameP t.G s.H
  · have e : pasR s t = (noS, 11) := by simp [pasR, pasE, h1, h2, h3, h4, h5]
    simp [sqT, e, noS, Sq.v, Sq.cs, edL]
  have e : pasR s t = (pasS s t, 0) := by simp [pasR, pasE, h1, h2, h3, h4, h5]
  have o1 := sqErr_ok h1
  have o2 := sqErr_ok h2
  have f1 : FitsP s.F t.F := o1.F.fits (by rw [← sameG_iff.1 h3]; exact o2.F)
  have f2 : FitsP s.K t.K := o1.K.fits (by rw [← sameG_iff.1 h4]; exact o2.K)
  simp [dw0, dw1, dw2, dw3]
  refine dCall_ok (then6_ok s.F t.F h.F f1) ?_ ?_ ?_
  · rfl
  · rfl
  simp [dw0, dw1, dw2, dw3]
  refine dCall_ok (then6_ok s.K t.K h.K f2) ?_ ?_ ?_
  · rfl
  · rfl
  simp [dw0, dw1, dw2, dw3, sqT, e, pasS, Sq.v, Sq.cs]
  rfl
end Go.Proofs.YthcnpnogfblkcaaGreat

/- Contracts: equal squares; the law of pasting. -/
namespace Go.Proofs.YthcnpnogfblkcaaGreat
open Abs
set_option linter.unusedSimpArgs false
set_option linter.unusedVariables false
attribute [local simp] rn0 rn1 rn2 rn3 rn4 rn5 rn6 rn7 evOp nests Arg.ev St.val St.set St.new sliceOf binInt2 binInt AV.cells rdAt St.live retOf resOf resAll treeOf treeCell treeCells treeTups untree frameOf TV.av TR.av ints edgs prs fillV splice intsOf trees V1.tree bx Gr.v Pa.v

def c_same14 : MFunc := ⟨61, [.tmp 4], .seq (.region [⟨some 2, .box 0 29 (.tmp 0), none⟩, ⟨some 3, .box 1 29 (.tmp 1), none⟩, ⟨some 4, .mv (.c (.one (.t (.bool false)))), none⟩]) (.seq (.region [⟨some 6, .fieldA 0 (.tmp 2), none⟩, ⟨some 7, .load true 2 (.tmp 6), none⟩, ⟨some 8, .fieldA 0 (.tmp 3), none⟩, ⟨some 9, .load true 2 (.tmp 8), none⟩, ⟨some 10, .call (.c (.one (.fn 22 []))) 68 [.tmp 7, .tmp 9], none⟩, ⟨some 11, .mv (.tmp 10), none⟩, ⟨some 12, .fieldA 2 (.tmp 2), some (11, true)⟩, ⟨some 13, .load true 2 (.tmp 12), some (11, true)⟩, ⟨some 14, .fieldA 2 (.tmp 3), some (11, true)⟩, ⟨some 15, .load true 2 (.tmp 14), some (11, true)⟩, ⟨some 16, .call (.c (.one (.fn 22 []))) 74 [.tmp 13, .tmp 15], some (11, true)⟩, ⟨some 17, .pick (.tmp 11) (.tmp 16) (.c (.one (.t (.bool false)))), none⟩, ⟨some 18, .mv (.tmp 17), none⟩, ⟨some 19, .fieldA 4 (.tmp 2), some (18, true)⟩, ⟨some 20, .load true 2 (.tmp 19), some (18, true)⟩, ⟨some 21, .fieldA 4 (.tmp 3), some (18, true)⟩, ⟨some 22, .load true 2 (.tmp 21), some (18, true)⟩, ⟨some 23, .call (.c (.one (.fn 22 []))) 81 [.tmp 20, .tmp 22], some (18, true)⟩, ⟨some 24, .pick (.tmp 18) (.tmp 23) (.c (.one (.t (.bool false)))), none⟩, ⟨some 25, .mv (.tmp 24), none⟩, ⟨some 26, .fieldA 6 (.tmp 2), some (25, true)⟩, ⟨some 27, .load true 2 (.tmp 26), some (25, true)⟩, ⟨some 28, .fieldA 6 (.tmp 3), some (25, true)⟩, ⟨some 29, .load true 2 (.tmp 28), some (25, true)⟩, ⟨some 30, .call (.c (.one (.fn 22 []))) 88 [.tmp 27, .tmp 29], some (25, true)⟩, ⟨some 31, .pick (.tmp 25) (.tmp 30) (.c (.one (.t (.bool false)))), none⟩, ⟨some 5, .mv (.tmp 31), none⟩]) (.seq (.region [⟨some 32, .mv (.tmp 5), none⟩, ⟨some 33, .mv (.tmp 32), none⟩, ⟨some 34, .fieldA 8 (.tmp 2), some (33, true)⟩, ⟨some 35, .load true 2 (.tmp 34), some (33, true)⟩, ⟨some 36, .fieldA 8 (.tmp 3), some (33, true)⟩, ⟨some 37, .load true 2 (.tmp 36), some (33, true)⟩, ⟨some 38, .call (.c (.one (.fn 23 []))) 134 [.tmp 35, .tmp 37], some (33, true)⟩, ⟨some 39, .pick (.tmp 33) (.tmp 38) (.c (.one (.t (.bool false)))), none⟩, ⟨some 40, .mv (.tmp 39), none⟩, ⟨some 41, .fieldA 10 (.tmp 2), some (40, true)⟩, ⟨some 42, .load true 2 (.tmp 41), some (40, true)⟩, ⟨some 43, .fieldA 10 (.tmp 3), some (40, true)⟩, ⟨some 44, .load true 2 (.tmp 43), some (40, true)⟩, ⟨some 45, .call (.c (.one (.fn 23 []))) 141 [.tmp 42, .tmp 44], some (40, true)⟩, ⟨some 46, .pick (.tmp 40) (.tmp 45) (.c (.one (.t (.bool false)))), none⟩, ⟨some 47, .mv (.tmp 46), none⟩, ⟨some 48, .fieldA 12 (.tmp 2), some (47, true)⟩, ⟨some 49, .load true 2 (.tmp 48), some (47, true)⟩, ⟨some 50, .fieldA 12 (.tmp 3), some (47, true)⟩, ⟨some 51, .load true 2 (.tmp 50), some (47, true)⟩, ⟨some 52, .call (.c (.one (.fn 23 []))) 148 [.tmp 49, .tmp 51], some (47, true)⟩, ⟨some 53, .pick (.tmp 47) (.tmp 52) (.c (.one (.t (.bool false)))), none⟩, ⟨some 54, .mv (.tmp 53), none⟩, ⟨some 55, .fieldA 14 (.tmp 2), some (54, true)⟩, ⟨some 56, .load true 2 (.tmp 55), some (54, true)⟩, ⟨some 57, .fieldA 14 (.tmp 3), some (54, true)⟩, ⟨some 58, .load true 2 (.tmp 57), some (54, true)⟩, ⟨some 59, .call (.c (.one (.fn 23 []))) 155 [.tmp 56, .tmp 58], some (54, true)⟩, ⟨some 60, .pick (.tmp 54) (.tmp 59) (.c (.one (.t (.bool false)))), none⟩, ⟨some 4, .mv (.tmp 60), none⟩]) .ret))⟩
theorem k_same14 : cFn Tryz.prog Tryz.f17 = some c_same14 := by kernel_rfl
set_option maxHeartbeats 2000000 in
theorem same14_ok (s : Sq) (h : TinySq s) : CallOK Tryz.prog 17 [s.v, s.v] (.sv (false, [.bool true])) := by
  refine callOK_W (callS_W (by kernel_rfl) Tryz.func17 k_same14 (callable_of Tryz.func17 (by kernel_rfl)) (by simp [c_same14]) ?_)
  simp [c_same14, Sq.v, Sq.cs]
  refine callS_tree (ref5Same_ok s.A s.A h.A h.A) ?_ ?_ ?_
  · rfl
  · rfl
  simp
  refine callS_tree (ref5Same_ok s.B s.B h.B h.B) ?_ ?_ ?_
  · rfl
  · rfl
  simp
  refine callS_tree (ref5Same_ok s.C s.C h.C h.C) ?_ ?_ ?_
  · rfl
  · rfl
  simp
  refine callS_tree (ref5Same_ok s.D s.D h.D h.D) ?_ ?_ ?_
  · rfl
  · rfl
  simp
  refine callS_tree (rsame_ok s.F s.F h.F h.F) ?_ ?_ ?_
  · rfl
  · rfl
  rw [sameP_iff.2 rfl]
  simp
  refine callS_tree (rsame_ok s.G s.G h.G h.G) ?_ ?_ ?_
  · rfl
  · rfl
  rw [sameP_iff.2 rfl]
  simp
  refine callS_tree (rsame_ok s.H s.H h.H h.H) ?_ ?_ ?_
  · rfl
  · rfl
  rw [sameP_iff.2 rfl]
  simp
  refine callS_tree (rsame_ok s.K s.K h.K h.K) ?_ ?_ ?_
  · rfl
  · rfl
  rw [sameP_iff.2 rfl]
  simp

theorem noS_tiny : TinySq noS := by
  refine ⟨⟨?_, ?_⟩, ⟨?_, ?_⟩, ⟨?_, ?_⟩, ⟨?_, ?_⟩, ⟨?_, ?_⟩, ⟨?_, ?_⟩, ⟨?_, ?_⟩, ⟨?_, ?_⟩⟩ <;> simp [noS, tiny]
theorem pasR_tiny {s t : Sq} (h : TinySq s) (k : TinySq t) : TinySq (pasR s t).1 := by
  unfold pasR
  split
  · exact ⟨h.A, k.B, h.C, k.D, thenP_tiny h.F, h.G, k.H, thenP_tiny h.K⟩
  · exact noS_tiny

def c_lawPaste : MFunc := ⟨42, [.tmp 4], .seq (.region [⟨some 2, .box 0 29 (.tmp 0), none⟩, ⟨some 3, .box 1 29 (.tmp 1), none⟩, ⟨some 4, .mv (.c (.one (.t (.bool false)))), none⟩]) (.seq (.seq (.region [⟨some 9, .call (.c (.one (.fn 11 []))) 64 [], none⟩, ⟨some 10, .not (.tmp 9), none⟩, ⟨some 11, .mv (.tmp 10), none⟩, ⟨some 12, .load true 16 (.tmp 2), some (11, false)⟩, ⟨some 13, .call (.c (.one (.fn 12 []))) 68 [.tmp 12], some (11, false)⟩, ⟨some 14, .not (.tmp 13), some (11, false)⟩, ⟨some 15, .pick (.tmp 11) (.c (.one (.t (.bool true)))) (.tmp 14), none⟩, ⟨some 16, .mv (.tmp 15), none⟩, ⟨some 17, .load true 16 (.tmp 3), some (16, false)⟩, ⟨some 18, .call (.c (.one (.fn 12 []))) 73 [.tmp 17], some (16, false)⟩, ⟨some 19, .not (.tmp 18), some (16, false)⟩, ⟨some 20, .pick (.tmp 16) (.c (.one (.t (.bool true)))) (.tmp 19), none⟩]) (.cond (.tmp 20) (.seq (.region [⟨some 21, .call (.c (.one (.fn 11 []))) 128 [], none⟩, ⟨some 4, .mv (.tmp 21), none⟩]) .ret) .skip)) (.seq (.region [⟨some 23, .load true 16 (.tmp 2), none⟩, ⟨some 24, .load true 16 (.tmp 3), none⟩, ⟨some 25, .call (.c (.one (.fn 37 []))) 194 [.tmp 23, .tmp 24], none⟩, ⟨some 22, .mv (.tmp 25), none⟩, ⟨some 26, .extract (.tmp 22) 0, none⟩, ⟨some 27, .extract (.tmp 22) 1, none⟩, ⟨some 5, .alloc 198 29 [.nil, .nil, .nil, .nil, .nil, .nil, .nil, .nil, .nil, .nil, .nil, .nil, .nil, .nil, .nil, .nil], none⟩, ⟨none, .store 16 (.tmp 5) (.tmp 26), none⟩, ⟨some 6, .mv (.tmp 27), none⟩]) (.seq (.region [⟨some 29, .load true 16 (.tmp 2), none⟩, ⟨some 30, .load true 16 (.tmp 3), none⟩, ⟨some 31, .call (.c (.one (.fn 38 []))) 258 [.tmp 29, .tmp 30], none⟩, ⟨some 28, .mv (.tmp 31), none⟩, ⟨some 32, .extract (.tmp 28) 0, none⟩, ⟨some 33, .extract (.tmp 28) 1, none⟩, ⟨some 7, .alloc 262 29 [.nil, .nil, .nil, .nil, .nil, .nil, .nil, .nil, .nil, .nil, .nil, .nil, .nil, .nil, .nil, .nil], none⟩, ⟨none, .store 16 (.tmp 7) (.tmp 32), none⟩, ⟨some 8, .mv (.tmp 33), none⟩]) (.seq (.region [⟨some 34, .mv (.tmp 6), none⟩, ⟨some 35, .mv (.tmp 8), none⟩, ⟨some 36, .bin .eql (.tmp 34) (.tmp 35), none⟩, ⟨some 37, .mv (.tmp 36), none⟩, ⟨some 38, .load true 16 (.tmp 5), some (37, true)⟩, ⟨some 39, .load true 16 (.tmp 7), some (37, true)⟩, ⟨some 40, .call (.c (.one (.fn 17 []))) 326 [.tmp 38, .tmp 39], some (37, true)⟩, ⟨some 41, .pick (.tmp 37) (.tmp 40) (.c (.one (.t (.bool false)))), none⟩, ⟨some 4, .mv (.tmp 41), none⟩]) .ret))))⟩
theorem k_lawPaste : cFn Tryz.prog Tryz.f9 = some c_lawPaste := by kernel_rfl
set_option maxHeartbeats 2000000 in
theorem lawPaste_ok (s t : Sq) (h : HugeQ s) (k : HugeQ t) : CallOK Tryz.prog 9 [s.v, t.v] (.sv (false, [.bool true])) := by
  refine callOK_W (callS_W (by kernel_rfl) Tryz.func9 k_lawPaste (callable_of Tryz.func9 (by kernel_rfl)) (by simp [c_lawPaste]) ?_)
  simp [c_lawPaste, Sq.v, Sq.cs]
  refine callS_tree awake14_ok ?_ ?_ ?_
  · rfl
  · rfl
  simp
  refine callS_tree (few14_ok s h) ?_ ?_ ?_
  · rfl
  · rfl
  cases hf : fewQ s
  · simp
    refine callS_tree awake14_ok ?_ ?_ ?_
    · rfl
    · rfl
    simp
  simp
  refine callS_tree (few14_ok t k) ?_ ?_ ?_
  · rfl
  · rfl
  cases hk : fewQ t
  · simp
    refine callS_tree awake14_ok ?_ ?_ ?_
    · rfl
    · rfl
    simp
  have hs := tiny_fewQ hf
  have ht := tiny_fewQ hk
  simp
  refine callS_tree (sPaste_ok s t hs ht) ?_ ?_ ?_
  · rfl
  · rfl
  simp [sqT, Sq.v, Sq.cs]
  refine callS_tree (rPaste_ok s t hs ht) ?_ ?_ ?_
  · rfl
  · rfl
  simp [sqT, Sq.v, Sq.cs]
  refine callS_tree (same14_ok (pasR s t).1 (pasR_tiny hs ht)) ?_ ?_ ?_
  · rfl
  · rfl
  simp
end Go.Proofs.YthcnpnogfblkcaaGreat

/- Pasting of squares, in functions; the squares of the law of pasting. No program in sight. -/
namespace Go.Proofs.YthcnpnogfblkcaaGreat
open Abs Po
set_option linter.unusedSimpArgs false
set_option linter.unusedVariables false

theorem fn_then {m n : Pa} {i : Nat} (h : i < m.nodes.length) : fn (thenP m n).nodes i = fn n.nodes (fn m.nodes i) := fn_thru h
theorem fe_then {m n : Pa} {i : Nat} (h : i < m.edges.length) : fn (thenP m n).edges i = fn n.edges (fn m.edges i) := fn_thru h

theorem paste_sq {s t : Sq} (hs : sqErr s = 0) (cs : commB s = true) (ht : sqErr t = 0) (ct : commB t = true) (eA : t.A = s.B) (eC : t.C = s.D) (eG : t.G = s.H) :
    pasE s t = 0 ∧ sqErr (pasS s t) = 0 ∧ commB (pasS s t) = true ∧ (SqPO s → (SqPO (pasS s t) ↔ SqPO t)) := by
  have os := sqErr_ok hs
  have ot := sqErr_ok ht
  obtain ⟨A, B, C, D, F, G, H, K⟩ := s
  obtain ⟨A', B', C', D', F', G', H', K'⟩ := t
  simp only at eA eC eG
  subst eA eC eG
  have p1 : pasE ⟨A, A', C, C', F, G, G', K⟩ ⟨A', B', C', D', F', G', H', K'⟩ = 0 := by
    rw [pasE, if_pos hs, if_pos ht, if_pos ⟨sameG_iff.2 rfl, sameG_iff.2 rfl, sameP_iff.2 rfl⟩]
  have F1 : MorOk A A' F := os.F
  have G1 : MorOk A C G := os.G
  have H1 : MorOk A' C' G' := os.H
  have K1 : MorOk C C' K := os.K
  have F2 : MorOk A' B' F' := ot.F
  have H2 : MorOk B' D' H' := ot.H
  have K2 : MorOk C' D' K' := ot.K
  have FF := then_ok F1 F2
  have KK := then_ok K1 K2
  have l1 := F1.ln
  have l2 := F1.le
  have l3 := K1.ln
  have l4 := K1.le
  obtain ⟨c1, c2⟩ := comm_at hs cs
  obtain ⟨c3, c4⟩ := comm_at ht ct
  have c1 : ∀ i, i < A.nodes.length → fn G'.nodes (fn F.nodes i) = fn K.nodes (fn G.nodes i) := c1
  have c2 : ∀ i, i < A.edges.length → fn G'.edges (fn F.edges i) = fn K.edges (fn G.edges i) := c2
  have c3 : ∀ i, i < A'.nodes.length → fn H'.nodes (fn F'.nodes i) = fn K'.nodes (fn G'.nodes i) := c3
  have c4 : ∀ i, i < A'.edges.length → fn H'.edges (fn F'.edges i) = fn K'.edges (fn G'.edges i) := c4
  have p2 : sqErr (pasS ⟨A, A', C, C', F, G, G', K⟩ ⟨A', B', C', D', F', G', H', K'⟩) = 0 := sq_zero FF G1 H2 KK
  refine ⟨p1, p2, comm_of FF G1 H2 KK (fun i hi => ?_) (fun i hi => ?_), fun po => ⟨fun o => ?_, fun o => ?_⟩⟩
  · have hi : i < A.nodes.length := hi
    have g1 := G1.hom.mn i hi
    show fn H'.nodes (fn (thenP F F').nodes i) = fn (thenP K K').nodes (fn G.nodes i)
    rw [fn_then (by omega), fn_then (by omega), c3 _ (F1.hom.mn i hi), c1 i hi]
  · have hi : i < A.edges.length := hi
    have g1 := G1.hom.me i hi
    show fn H'.edges (fn (thenP F F').edges i) = fn (thenP K K').edges (fn G.edges i)
    rw [fe_then (by omega), fe_then (by omega), c4 _ (F1.hom.me i hi), c2 i hi]
  · have o1 : PO A.nodes.length B'.nodes.length C.nodes.length D'.nodes.length (fn (thenP F F').nodes) (fn G.nodes) (fn H'.nodes) (fn (thenP K K').nodes) := o.1
    have o2 : PO A.edges.length B'.edges.length C.edges.length D'.edges.length (fn (thenP F F').edges) (fn G.edges) (fn H'.edges) (fn (thenP K K').edges) := o.2
    have q1 := o1.congr FF.hom.mn G1.hom.mn (fun i hi => (fn_then (n := F') (show i < F.nodes.length by omega)).symm) (fun _ _ => rfl) (fun _ _ => rfl) (fun i hi => (fn_then (n := K') (show i < K.nodes.length by omega)).symm)
    have q2 := o2.congr FF.hom.me G1.hom.me (fun i hi => (fe_then (n := F') (show i < F.edges.length by omega)).symm) (fun _ _ => rfl) (fun _ _ => rfl) (fun i hi => (fe_then (n := K') (show i < K.edges.length by omega)).symm)
    exact ⟨po_second po.1 q1 c3 F1.hom.mn G1.hom.mn K1.hom.mn F2.hom.mn, po_second po.2 q2 c4 F1.hom.me G1.hom.me K1.hom.me F2.hom.me⟩
  · have q1 := po_paste po.1 o.1 F1.hom.mn G1.hom.mn H1.hom.mn K1.hom.mn F2.hom.mn
    have q2 := po_paste po.2 o.2 F1.hom.me G1.hom.me H1.hom.me K1.hom.me F2.hom.me
    have r1 : PO A.nodes.length B'.nodes.length C.nodes.length D'.nodes.length (fun i => fn F'.nodes (fn F.nodes i)) (fn G.nodes) (fn H'.nodes) (fun i => fn K'.nodes (fn K.nodes i)) := q1
    have r2 : PO A.edges.length B'.edges.length C.edges.length D'.edges.length (fun i => fn F'.edges (fn F.edges i)) (fn G.edges) (fn H'.edges) (fun i => fn K'.edges (fn K.edges i)) := q2
    refine ⟨?_, ?_⟩
    · exact r1.congr (fun i hi => F2.hom.mn _ (F1.hom.mn i hi)) G1.hom.mn (fun i hi => fn_then (n := F') (show i < F.nodes.length by omega)) (fun _ _ => rfl) (fun _ _ => rfl) (fun i hi => fn_then (n := K') (show i < K.nodes.length by omega))
    · exact r2.congr (fun i hi => F2.hom.me _ (F1.hom.me i hi)) G1.hom.me (fun i hi => fe_then (n := F') (show i < F.edges.length by omega)) (fun _ _ => rfl) (fun _ _ => rfl) (fun i hi => fe_then (n := K') (show i < K.edges.length by omega))

/-- A square, led on. -/
def onS (t : Sq) (y : Gr) (m : Pa) : Sq := ⟨t.A, t.B, t.C, y, t.F, t.G, thenP t.H m, thenP t.K m⟩
theorem on_sq {t : Sq} {y : Gr} {m : Pa} (ht : sqErr t = 0) (ct : commB t = true) (hm : MorOk t.D y m) : sqErr (onS t y m) = 0 ∧ commB (onS t y m) = true := by
  have ot := sqErr_ok ht
  have H := then_ok ot.H hm
  have K := then_ok ot.K hm
  have l1 := ot.H.ln
  have l2 := ot.H.le
  have l3 := ot.K.ln
  have l4 := ot.K.le
  obtain ⟨c1, c2⟩ := comm_at ht ct
  refine ⟨sq_zero ot.F ot.G H K, comm_of ot.F ot.G H K (fun i hi => ?_) (fun i hi => ?_)⟩
  · have g1 := ot.F.hom.mn i hi
    have g2 := ot.G.hom.mn i hi
    show fn (thenP t.H m).nodes (fn t.F.nodes i) = fn (thenP t.K m).nodes (fn t.G.nodes i)
    rw [fn_then (by omega), fn_then (by omega)]
    rw [c1 i hi]
  · have g1 := ot.F.hom.me i hi
    have g2 := ot.G.hom.me i hi
    show fn (thenP t.H m).edges (fn t.F.edges i) = fn (thenP t.K m).edges (fn t.G.edges i)
    rw [fe_then (by omega), fe_then (by omega)]
    rw [c2 i hi]

theorem gl_few {s : Sp} (ok : SpOk s) (hu : unErr s.B s.C = 0) : (glS s).D.nodes.length ≤ s.B.nodes.length + s.C.nodes.length ∧ (glS s).D.edges.length ≤ s.B.edges.length + s.C.edges.length := by
  rw [gl_is ok hu]
  have h3 : (poG s).nodes.length ≤ (unG s.B s.C).nodes.length := collect_len
  have h4 : (poG s).edges.length ≤ (unG s.B s.C).edges.length := collect_len
  rw [unG_nlen] at h3
  rw [unG_elen] at h4
  exact ⟨h3, h4⟩

/-! ### The squares of the law -/
def p1S (d : Dr) (a b : List Nat) : Sq := glS (mdS d a b)
def p2P (d : Dr) (a b c : List Nat) : Sp := ⟨(p1S d a b).B, growG (p1S d a b).B c, (p1S d a b).D, grM (p1S d a b).B c, (p1S d a b).H⟩
def p2S (d : Dr) (a b c : List Nat) : Sq := glS (p2P d a b c)
def p3S (d : Dr) (a b c e : List Nat) : Sq := onS (p2S d a b c) (growG (p2S d a b c).D e) (grM (p2S d a b c).D e)
section
variable {d : Dr} {a b c e : List Nat}
theorem p1_sq : sqErr (p1S d a b) = 0 ∧ commB (p1S d a b) = true ∧ SqPO (p1S d a b) := gl_sq mdS_ok mdS_un'
theorem p1_few : (p1S d a b).B.nodes.length ≤ 11 ∧ (p1S d a b).B.edges.length ≤ 14 ∧ (p1S d a b).C.nodes.length ≤ 11 ∧ (p1S d a b).C.edges.length ≤ 14 ∧ (p1S d a b).D.nodes.length ≤ 22 ∧ (p1S d a b).D.edges.length ≤ 28 := by
  have h1 := mdS_few (d := d) (b := a) (c := b)
  have h2 := gl_few (mdS_ok (d := d) (b := a) (c := b)) mdS_un'
  have e1 : (p1S d a b).B = (mdS d a b).B := rfl
  have e2 : (p1S d a b).C = (mdS d a b).C := rfl
  have e3 : (p1S d a b).D = (glS (mdS d a b)).D := rfl
  rw [e1, e2, e3]
  omega
theorem p2_ok : SpOk (p2P d a b c) := by
  have ok := sqErr_ok (p1_sq (d := d) (a := a) (b := b)).1
  have hf := p1_few (d := d) (a := a) (b := b)
  have h1 := grow_mor (l := c) ok.F.gb (by omega) (by omega)
  exact ⟨h1, ok.H⟩
theorem p2_few : (p2P d a b c).B.nodes.length ≤ 14 ∧ (p2P d a b c).B.edges.length ≤ 18 := by
  have hf := p1_few (d := d) (a := a) (b := b)
  have h1 := grow_few (g := (p1S d a b).B) (l := c)
  simp only [p2P]
  omega
theorem p2_un : unErr (p2P d a b c).B (p2P d a b c).C = 0 := by
  have hf := p1_few (d := d) (a := a) (b := b)
  have h1 := p2_few (d := d) (a := a) (b := b) (c := c)
  have ok := p2_ok (d := d) (a := a) (b := b) (c := c)
  refine un_zero ok.F.gb ok.G.gb ?_ ?_
  · show _ + (p1S d a b).D.nodes.length ≤ 40
    omega
  · show _ + (p1S d a b).D.edges.length ≤ 80
    omega
theorem p2_sq : sqErr (p2S d a b c) = 0 ∧ commB (p2S d a b c) = true ∧ SqPO (p2S d a b c) := gl_sq p2_ok p2_un
theorem p2_D : (p2S d a b c).D.nodes.length ≤ 36 ∧ (p2S d a b c).D.edges.length ≤ 46 := by
  have hf := p1_few (d := d) (a := a) (b := b)
  have h1 := p2_few (d := d) (a := a) (b := b) (c := c)
  have h2 := gl_few (p2_ok (d := d) (a := a) (b := b) (c := c)) p2_un
  have e3 : (p2S d a b c).D = (glS (p2P d a b c)).D := rfl
  have e4 : (p2P d a b c).C = (p1S d a b).D := rfl
  rw [e4] at h2
  rw [e3]
  omega
theorem p3_mor : MorOk (p2S d a b c).D (growG (p2S d a b c).D e) (grM (p2S d a b c).D e) := by
  have ok := sqErr_ok (p2_sq (d := d) (a := a) (b := b) (c := c)).1
  have hf := p2_D (d := d) (a := a) (b := b) (c := c)
  exact grow_mor ok.H.gb (by omega) (by omega)
theorem p3_sq : sqErr (p3S d a b c e) = 0 ∧ commB (p3S d a b c e) = true := on_sq p2_sq.1 p2_sq.2.1 p3_mor
open Classical in
/-- What the law of pasting compares. -/
theorem pastes_kind (a b c e : List Nat) : pasE (p1S d a b) (p2S d a b c) = 0 ∧ sqErr (pasS (p1S d a b) (p2S d a b c)) = 0 ∧ pasE (p1S d a b) (p3S d a b c e) = 0 ∧ sqErr (pasS (p1S d a b) (p3S d a b c e)) = 0 ∧
    (kindR (pasS (p1S d a b) (p2S d a b c)) = (0, 3) ∨ kindR (pasS (p1S d a b) (p2S d a b c)) = (1, 0) ∨ kindR (pasS (p1S d a b) (p2S d a b c)) = (3, 0)) ∧
    (kindR (pasS (p1S d a b) (p3S d a b c e)) = (0, 3) ∨ kindR (p3S d a b c e) = (0, 3) ∧ (kindR (pasS (p1S d a b) (p3S d a b c e))).2 = 0 ∨
      ∃ p x y : Int, (p = 0 ∨ p = 1) ∧ (x = 0 ∨ x = 2) ∧ (y = 0 ∨ y = 2) ∧ kindR (pasS (p1S d a b) (p3S d a b c e)) = (p + x, 0) ∧ kindR (p3S d a b c e) = (p + y, 0)) := by
  obtain ⟨s1, s2, s3⟩ := p1_sq (d := d) (a := a) (b := b)
  obtain ⟨t1, t2, t3⟩ := p2_sq (d := d) (a := a) (b := b) (c := c)
  obtain ⟨u1, u2⟩ := p3_sq (d := d) (a := a) (b := b) (c := c) (e := e)
  obtain ⟨v1, v2, v3, v4⟩ := paste_sq s1 s2 t1 t2 rfl rfl rfl
  obtain ⟨w1, w2, w3, w4⟩ := paste_sq s1 s2 u1 u2 rfl rfl rfl
  have hf := p1_few (d := d) (a := a) (b := b)
  have h1 := p2_few (d := d) (a := a) (b := b) (c := c)
  have ok := p2_ok (d := d) (a := a) (b := b) (c := c)
  have os := sqErr_ok s1
  have un : unErr (p2P d a b c).B (p1S d a b).C = 0 := un_zero ok.F.gb os.G.gb (by omega) (by omega)
  refine ⟨v1, v2, w1, w2, ?_, ?_⟩
  · rcases kind_is v2 v3 un with h | h
    · exact .inl h
    · rw [if_pos ((v4 s3).2 t3)] at h
      by_cases hp : SqPB (pasS (p1S d a b) (p2S d a b c))
      · rw [if_pos hp] at h
        exact .inr (.inr h)
      · rw [if_neg hp] at h
        exact .inr (.inl h)
  · rcases kind_is w2 w3 un with h | h
    · exact .inl h
    · rcases kind_is u1 u2 (p2_un (d := d) (a := a) (b := b) (c := c)) with k | k
      · exact .inr (.inl ⟨k, by rw [h]⟩)
      · refine .inr (.inr ⟨if SqPO (p3S d a b c e) then 1 else 0, if SqPB (pasS (p1S d a b) (p3S d a b c e)) then 2 else 0, if SqPB (p3S d a b c e) then 2 else 0, ?_, ?_, ?_, ?_, k⟩)
        · split
          · exact .inr rfl
          · exact .inl rfl
        · split
          · exact .inr rfl
          · exact .inl rfl
        · split
          · exact .inr rfl
          · exact .inl rfl
        · rw [h]
          have := w4 s3
          by_cases hp : SqPO (p3S d a b c e)
          · rw [if_pos hp, if_pos (this.2 hp)]
          · rw [if_neg hp, if_neg fun h => hp (this.1 h)]
end
end Go.Proofs.YthcnpnogfblkcaaGreat
