/-
  Joined texts: the theorem of this claim and its last steps. No condition beyond those that each statement names.
-/
import Derived.Test.YthcnpnogfblkcaaGreatK4
import Derived.SizedLaws
import Derived.ChangeSlices
import Derived.Deep.Strs
import Derived.Deep.Slices
import Derived.Test.YthcnpnogfblkcaaGreatRows
import Derived.WalkKit
import Derived.ProofKit
import Derived.OpenShut
import Derived.ChangeOld
import Derived.Below
import Derived.Carry
/- The example of the chapter holds; squares that are small; the law of kinds. -/
namespace Go.Proofs.YthcnpnogfblkcaaGreat
open Abs
set_option linter.unusedSimpArgs false
set_option linter.unusedVariables false
attribute [local simp] rn0 rn1 rn2 rn3 rn4 rn5 rn6 rn7 evOp nests Arg.ev St.val St.set St.new sliceOf binInt2 binInt AV.cells rdAt St.live retOf resOf resAll treeOf treeCell treeCells treeTups untree frameOf TV.av TR.av ints edgs prs fillV splice intsOf trees V1.tree bx Gr.v Pa.v

def exOne : Gr := ⟨[0], []⟩
def exPath : Gr := ⟨[0, 0], [⟨0, 0, 1⟩]⟩
def exInto : Pa := ⟨[0], []⟩
def exSq : Sq := ⟨exOne, exOne, exPath, exPath, exInto, exInto, exInto, ⟨[0, 1], [0]⟩⟩
theorem exBnU : bnU exInto exPath exPath.edges.length = [0] := by kernel_rfl
theorem exBnd : bndL exInto exPath = [0] := by rw [bndL, exBnU]; simp
theorem exCn : cnL exInto exPath = [0, 1] := by rw [cnL, exBnd]; kernel_rfl
theorem exIn : inR exOne exPath exInto = (exSq, 0) := by
  have h : inE exOne exPath exInto = 0 := by kernel_rfl
  have h2 : inS exOne exPath exInto = exSq := by
    rw [inS, inB, inC, inG, exBnd, exCn]
    kernel_rfl
  rw [inR, if_pos h, h2]
theorem exKind : kindR exSq = (3, 0) := by kernel_rfl

/-- The example of the chapter holds. -/
def Awake14 : Prop := CallOK Tryz.prog 11 [] (.sv (false, [.bool true]))

def c_awake14 : MFunc := ⟨48, [.tmp 0], .seq (.region [⟨some 0, .mv (.c (.one (.t (.bool false)))), none⟩]) (.seq (.region [⟨some 7, .mkrow 64 3 1 2 [.t (.int .i64 0), .t (.int .i64 0)] [(0, (1, .c (.one (.t (.int .i64 0))))), (1, (1, .c (.one (.t (.int .i64 0)))))], none⟩, ⟨some 8, .build [.t (.int .i64 0), .t (.int .i64 0), .t (.int .i64 0)] [(1, (1, .c (.one (.t (.int .i64 0))))), (2, (1, .c (.one (.t (.int .i64 1)))))], none⟩, ⟨some 9, .mkrow 66 76 3 1 [.t (.int .i64 0), .t (.int .i64 0), .t (.int .i64 0)] [(0, (3, .tmp 8))], none⟩, ⟨some 10, .build [.nil, .nil] [(0, (1, .tmp 7)), (1, (1, .tmp 9))], none⟩, ⟨some 1, .alloc 68 25 [.nil, .nil], none⟩, ⟨none, .store 2 (.tmp 1) (.tmp 10), none⟩]) (.seq (.region [⟨some 11, .mkrow 128 3 1 1 [.t (.int .i64 0)] [(0, (1, .c (.one (.t (.int .i64 0)))))], none⟩, ⟨some 12, .build [.nil, .nil] [(0, (1, .tmp 11))], none⟩, ⟨some 2, .alloc 130 25 [.nil, .nil], none⟩, ⟨none, .store 2 (.tmp 2) (.tmp 12), none⟩]) (.seq (.region [⟨some 14, .load true 2 (.tmp 2), none⟩, ⟨some 15, .load true 2 (.tmp 1), none⟩, ⟨some 16, .mkrow 194 3 1 1 [.t (.int .i64 0)] [(0, (1, .c (.one (.t (.int .i64 0)))))], none⟩, ⟨some 17, .build [.nil, .nil] [(0, (1, .tmp 16))], none⟩, ⟨some 18, .call (.c (.one (.fn 24 []))) 196 [.tmp 14, .tmp 15, .tmp 17], none⟩, ⟨some 13, .mv (.tmp 18), none⟩, ⟨some 19, .extract (.tmp 13) 0, none⟩, ⟨some 20, .extract (.tmp 13) 1, none⟩, ⟨some 3, .alloc 200 29 [.nil, .nil, .nil, .nil, .nil, .nil, .nil, .nil, .nil, .nil, .nil, .nil, .nil, .nil, .nil, .nil], none⟩, ⟨none, .store 16 (.tmp 3) (.tmp 19), none⟩, ⟨some 4, .mv (.tmp 20), none⟩]) (.seq (.region [⟨some 22, .load true 16 (.tmp 3), none⟩, ⟨some 23, .call (.c (.one (.fn 21 []))) 257 [.tmp 22], none⟩, ⟨some 21, .mv (.tmp 23), none⟩, ⟨some 24, .extract (.tmp 21) 0, none⟩, ⟨some 25, .extract (.tmp 21) 1, none⟩, ⟨some 5, .mv (.tmp 24), none⟩, ⟨some 6, .mv (.tmp 25), none⟩]) (.seq (.region [⟨some 26, .mv (.tmp 4), none⟩, ⟨some 27, .bin .eql (.tmp 26) (.c (.one (.t (.int .i64 0)))), none⟩, ⟨some 28, .mv (.tmp 27), none⟩, ⟨some 29, .mv (.tmp 6), some (28, true)⟩, ⟨some 30, .bin .eql (.tmp 29) (.c (.one (.t (.int .i64 0)))), some (28, true)⟩, ⟨some 31, .pick (.tmp 28) (.tmp 30) (.c (.one (.t (.bool false)))), none⟩, ⟨some 32, .mv (.tmp 31), none⟩, ⟨some 33, .mv (.tmp 5), some (32, true)⟩, ⟨some 34, .bin .eql (.tmp 33) (.c (.one (.t (.int .i64 3)))), some (32, true)⟩, ⟨some 35, .pick (.tmp 32) (.tmp 34) (.c (.one (.t (.bool false)))), none⟩, ⟨some 36, .mv (.tmp 35), none⟩, ⟨some 37, .fieldA 0 (.tmp 3), some (36, true)⟩, ⟨some 38, .load true 2 (.tmp 37), some (36, true)⟩, ⟨some 39, .load true 2 (.tmp 2), some (36, true)⟩, ⟨some 40, .call (.c (.one (.fn 22 []))) 334 [.tmp 38, .tmp 39], some (36, true)⟩, ⟨some 41, .pick (.tmp 36) (.tmp 40) (.c (.one (.t (.bool false)))), none⟩, ⟨some 42, .mv (.tmp 41), none⟩, ⟨some 43, .fieldA 4 (.tmp 3), some (42, true)⟩, ⟨some 44, .load true 2 (.tmp 43), some (42, true)⟩, ⟨some 45, .load true 2 (.tmp 1), some (42, true)⟩, ⟨some 46, .call (.c (.one (.fn 22 []))) 340 [.tmp 44, .tmp 45], some (42, true)⟩, ⟨some 47, .pick (.tmp 42) (.tmp 46) (.c (.one (.t (.bool false)))), none⟩, ⟨some 0, .mv (.tmp 47), none⟩]) .ret)))))⟩
theorem k_awake14 : cFn Tryz.prog Tryz.f11 = some c_awake14 := by kernel_rfl
theorem awake14_ok : Awake14 := by
  refine callOK_W (callS_W (by kernel_rfl) Tryz.func11 k_awake14 (callable_of Tryz.func11 (by kernel_rfl)) (by simp [c_awake14]) ?_)
  simp [c_awake14]
  refine callS_freeze [(64, 0), (66, 0), (128, 0), (194, 0)] (callS_tree (sInit_ok exOne exPath exInto ⟨by decide, by decide⟩ ⟨by decide, by decide⟩ ⟨by decide, by decide⟩) ?_ ?_ ?_)
  · rfl
  · rfl
  rw [exIn]
  simp [frzAll, frzOne, sqT, exSq, Sq.v, Sq.cs]
  refine callS_tree (sKind_ok exSq ⟨⟨by decide, by decide⟩, ⟨by decide, by decide⟩, ⟨by decide, by decide⟩, ⟨by decide, by decide⟩, ⟨by decide, by decide⟩, ⟨by decide, by decide⟩, ⟨by decide, by decide⟩, ⟨by decide, by decide⟩⟩) ?_ ?_ ?_
  · rfl
  · rfl
  rw [exKind]
  simp [kindT]
  refine callS_tree (ref5Same_ok exOne exOne ⟨by decide, by decide⟩ ⟨by decide, by decide⟩) ?_ ?_ ?_
  · rfl
  · rfl
  simp
  refine callS_tree (ref5Same_ok exPath exPath ⟨by decide, by decide⟩ ⟨by decide, by decide⟩) ?_ ?_ ?_
  · rfl
  · rfl
  simp

/-! ### Small squares -/
def fewQ (s : Sq) : Bool := fewG s.A && fewG s.B && fewG s.C && fewG s.D && fewP s.F 140 && fewP s.G 140 && fewP s.H 140 && fewP s.K 140
structure HugeQ (s : Sq) : Prop where
  F : huge s.F.nodes.length ∧ huge s.F.edges.length
  G : huge s.G.nodes.length ∧ huge s.G.edges.length
  H : huge s.H.nodes.length ∧ huge s.H.edges.length
  K : huge s.K.nodes.length ∧ huge s.K.edges.length
def c_few14 : MFunc := ⟨43, [.tmp 2], .seq (.region [⟨some 1, .box 0 29 (.tmp 0), none⟩, ⟨some 2, .mv (.c (.one (.t (.bool false)))), none⟩]) (.seq (.region [⟨some 4, .fieldA 0 (.tmp 1), none⟩, ⟨some 5, .load true 2 (.tmp 4), none⟩, ⟨some 6, .call (.c (.one (.fn 13 []))) 66 [.tmp 5], none⟩, ⟨some 7, .mv (.tmp 6), none⟩, ⟨some 8, .fieldA 2 (.tmp 1), some (7, true)⟩, ⟨some 9, .load true 2 (.tmp 8), some (7, true)⟩, ⟨some 10, .call (.c (.one (.fn 13 []))) 70 [.tmp 9], some (7, true)⟩, ⟨some 11, .pick (.tmp 7) (.tmp 10) (.c (.one (.t (.bool false)))), none⟩, ⟨some 12, .mv (.tmp 11), none⟩, ⟨some 13, .fieldA 4 (.tmp 1), some (12, true)⟩, ⟨some 14, .load true 2 (.tmp 13), some (12, true)⟩, ⟨some 15, .call (.c (.one (.fn 13 []))) 75 [.tmp 14], some (12, true)⟩, ⟨some 16, .pick (.tmp 12) (.tmp 15) (.c (.one (.t (.bool false)))), none⟩, ⟨some 17, .mv (.tmp 16), none⟩, ⟨some 18, .fieldA 6 (.tmp 1), some (17, true)⟩, ⟨some 19, .load true 2 (.tmp 18), some (17, true)⟩, ⟨some 20, .call (.c (.one (.fn 13 []))) 80 [.tmp 19], some (17, true)⟩, ⟨some 21, .pick (.tmp 17) (.tmp 20) (.c (.one (.t (.bool false)))), none⟩, ⟨some 3, .mv (.tmp 21), none⟩]) (.seq (.region [⟨some 22, .mv (.tmp 3), none⟩, ⟨some 23, .mv (.tmp 22), none⟩, ⟨some 24, .fieldA 8 (.tmp 1), some (23, true)⟩, ⟨some 25, .load true 2 (.tmp 24), some (23, true)⟩, ⟨some 26, .call (.c (.one (.fn 14 []))) 132 [.tmp 25, .c (.one (.t (.int .i64 140)))], some (23, true)⟩, ⟨some 27, .pick (.tmp 23) (.tmp 26) (.c (.one (.t (.bool false)))), none⟩, ⟨some 28, .mv (.tmp 27), none⟩, ⟨some 29, .fieldA 10 (.tmp 1), some (28, true)⟩, ⟨some 30, .load true 2 (.tmp 29), some (28, true)⟩, ⟨some 31, .call (.c (.one (.fn 14 []))) 137 [.tmp 30, .c (.one (.t (.int .i64 140)))], some (28, true)⟩, ⟨some 32, .pick (.tmp 28) (.tmp 31) (.c (.one (.t (.bool false)))), none⟩, ⟨some 33, .mv (.tmp 32), none⟩, ⟨some 34, .fieldA 12 (.tmp 1), some (33, true)⟩, ⟨some 35, .load true 2 (.tmp 34), some (33, true)⟩, ⟨some 36, .call (.c (.one (.fn 14 []))) 142 [.tmp 35, .c (.one (.t (.int .i64 140)))], some (33, true)⟩, ⟨some 37, .pick (.tmp 33) (.tmp 36) (.c (.one (.t (.bool false)))), none⟩, ⟨some 38, .mv (.tmp 37), none⟩, ⟨some 39, .fieldA 14 (.tmp 1), some (38, true)⟩, ⟨some 40, .load true 2 (.tmp 39), some (38, true)⟩, ⟨some 41, .call (.c (.one (.fn 14 []))) 147 [.tmp 40, .c (.one (.t (.int .i64 140)))], some (38, true)⟩, ⟨some 42, .pick (.tmp 38) (.tmp 41) (.c (.one (.t (.bool false)))), none⟩, ⟨some 2, .mv (.tmp 42), none⟩]) .ret))⟩
theorem k_few14 : cFn Tryz.prog Tryz.f12 = some c_few14 := by kernel_rfl
set_option maxHeartbeats 1000000 in
theorem few14_ok (s : Sq) (h : HugeQ s) : CallOK Tryz.prog 12 [s.v] (.sv (false, [.bool (fewQ s)])) := by
  refine callOK_W (callS_W (by kernel_rfl) Tryz.func12 k_few14 (callable_of Tryz.func12 (by kernel_rfl)) (by simp [c_few14]) ?_)
  simp [c_few14, Sq.v, Sq.cs]
  refine callS_tree (few5_ok s.A) ?_ ?_ ?_
  · rfl
  · rfl
  cases e1 : fewG s.A
  · simp [fewQ, e1]
  simp [e1]
  refine callS_tree (few5_ok s.B) ?_ ?_ ?_
  · rfl
  · rfl
  cases e2 : fewG s.B
  · simp [fewQ, e1, e2]
  simp [e1]
  refine callS_tree (few5_ok s.C) ?_ ?_ ?_
  · rfl
  · rfl
  cases e3 : fewG s.C
  · simp [fewQ, e1, e2, e3]
  simp [e1]
  refine callS_tree (few5_ok s.D) ?_ ?_ ?_
  · rfl
  · rfl
  cases e4 : fewG s.D
  · simp [fewQ, e1, e2, e3, e4]
  simp [e1]
  refine callS_tree (few6_ok s.F 140 h.F.1 h.F.2) ?_ ?_ ?_
  · rfl
  · rfl
  cases e5 : fewP s.F 140
  · simp [fewQ, e1, e2, e3, e4, e5]
  simp [e1]
  refine callS_tree (few6_ok s.G 140 h.G.1 h.G.2) ?_ ?_ ?_
  · rfl
  · rfl
  cases e6 : fewP s.G 140
  · simp [fewQ, e1, e2, e3, e4, e5, e6]
  simp [e1]
  refine callS_tree (few6_ok s.H 140 h.H.1 h.H.2) ?_ ?_ ?_
  · rfl
  · rfl
  cases e7 : fewP s.H 140
  · simp [fewQ, e1, e2, e3, e4, e5, e6, e7]
  simp [e1]
  refine callS_tree (few6_ok s.K 140 h.K.1 h.K.2) ?_ ?_ ?_
  · rfl
  · rfl
  simp [fewQ, e1, e2, e3, e4, e5, e6, e7]

theorem tiny_fewG {g : Gr} (h : fewG g = true) : tinyG g := by
  simp [fewG] at h
  exact ⟨by simp only [tiny]; omega, by simp only [tiny]; omega⟩
theorem tiny_fewP {p : Pa} (h : fewP p 140 = true) : tinyP p := by
  simp [fewP] at h
  exact ⟨by simp only [tiny]; omega, by simp only [tiny]; omega⟩
theorem tiny_fewQ {s : Sq} (h : fewQ s = true) : TinySq s := by
  simp only [fewQ, Bool.and_eq_true] at h
  obtain ⟨⟨⟨⟨⟨⟨⟨h1, h2⟩, h3⟩, h4⟩, h5⟩, h6⟩, h7⟩, h8⟩ := h
  exact ⟨tiny_fewG h1, tiny_fewG h2, tiny_fewG h3, tiny_fewG h4, tiny_fewP h5, tiny_fewP h6, tiny_fewP h7, tiny_fewP h8⟩

def c_lawKind : MFunc := ⟨57, [.tmp 2], .seq (.region [⟨some 1, .box 0 29 (.tmp 0), none⟩, ⟨some 2, .mv (.c (.one (.t (.bool false)))), none⟩]) (.seq (.seq (.region [⟨some 11, .call (.c (.one (.fn 11 []))) 64 [], none⟩, ⟨some 12, .not (.tmp 11), none⟩, ⟨some 13, .mv (.tmp 12), none⟩, ⟨some 14, .load true 16 (.tmp 1), some (13, false)⟩, ⟨some 15, .call (.c (.one (.fn 12 []))) 68 [.tmp 14], some (13, false)⟩, ⟨some 16, .not (.tmp 15), some (13, false)⟩, ⟨some 17, .pick (.tmp 13) (.c (.one (.t (.bool true)))) (.tmp 16), none⟩]) (.cond (.tmp 17) (.seq (.region [⟨some 18, .call (.c (.one (.fn 11 []))) 128 [], none⟩, ⟨some 2, .mv (.tmp 18), none⟩]) .ret) .skip)) (.seq (.region [⟨some 20, .load true 16 (.tmp 1), none⟩, ⟨some 21, .call (.c (.one (.fn 34 []))) 193 [.tmp 20], none⟩, ⟨some 19, .mv (.tmp 21), none⟩, ⟨some 22, .extract (.tmp 19) 0, none⟩, ⟨some 23, .extract (.tmp 19) 1, none⟩, ⟨some 3, .mv (.tmp 22), none⟩, ⟨some 4, .mv (.tmp 23), none⟩]) (.seq (.region [⟨some 25, .load true 16 (.tmp 1), none⟩, ⟨some 26, .call (.c (.one (.fn 35 []))) 257 [.tmp 25], none⟩, ⟨some 24, .mv (.tmp 26), none⟩, ⟨some 27, .extract (.tmp 24) 0, none⟩, ⟨some 28, .extract (.tmp 24) 1, none⟩, ⟨some 5, .mv (.tmp 27), none⟩, ⟨some 6, .mv (.tmp 28), none⟩]) (.seq (.region [⟨some 30, .load true 16 (.tmp 1), none⟩, ⟨some 31, .call (.c (.one (.fn 21 []))) 321 [.tmp 30], none⟩, ⟨some 29, .mv (.tmp 31), none⟩, ⟨some 32, .extract (.tmp 29) 0, none⟩, ⟨some 33, .extract (.tmp 29) 1, none⟩, ⟨some 7, .mv (.tmp 32), none⟩, ⟨some 8, .mv (.tmp 33), none⟩]) (.seq (.region [⟨some 35, .load true 16 (.tmp 1), none⟩, ⟨some 36, .call (.c (.one (.fn 36 []))) 385 [.tmp 35], none⟩, ⟨some 34, .mv (.tmp 36), none⟩, ⟨some 37, .extract (.tmp 34) 0, none⟩, ⟨some 38, .extract (.tmp 34) 1, none⟩, ⟨some 9, .mv (.tmp 37), none⟩, ⟨some 10, .mv (.tmp 38), none⟩]) (.seq (.region [⟨some 39, .mv (.tmp 3), none⟩, ⟨some 40, .mv (.tmp 5), none⟩, ⟨some 41, .eqS false 0 (.tmp 39) (.tmp 40), none⟩, ⟨some 42, .mv (.tmp 41), none⟩, ⟨some 43, .mv (.tmp 4), some (42, true)⟩, ⟨some 44, .mv (.tmp 6), some (42, true)⟩, ⟨some 45, .bin .eql (.tmp 43) (.tmp 44), some (42, true)⟩, ⟨some 46, .pick (.tmp 42) (.tmp 45) (.c (.one (.t (.bool false)))), none⟩, ⟨some 47, .mv (.tmp 46), none⟩, ⟨some 48, .mv (.tmp 7), some (47, true)⟩, ⟨some 49, .mv (.tmp 9), some (47, true)⟩, ⟨some 50, .bin .eql (.tmp 48) (.tmp 49), some (47, true)⟩, ⟨some 51, .pick (.tmp 47) (.tmp 50) (.c (.one (.t (.bool false)))), none⟩, ⟨some 52, .mv (.tmp 51), none⟩, ⟨some 53, .mv (.tmp 8), some (52, true)⟩, ⟨some 54, .mv (.tmp 10), some (52, true)⟩, ⟨some 55, .bin .eql (.tmp 53) (.tmp 54), some (52, true)⟩, ⟨some 56, .pick (.tmp 52) (.tmp 55) (.c (.one (.t (.bool false)))), none⟩, ⟨some 2, .mv (.tmp 56), none⟩]) .ret))))))⟩
theorem k_lawKind : cFn Tryz.prog Tryz.f8 = some c_lawKind := by kernel_rfl
set_option maxHeartbeats 1000000 in
theorem lawKind_ok (s : Sq) (h : HugeQ s) : CallOK Tryz.prog 8 [s.v] (.sv (false, [.bool true])) := by
  refine callOK_W (callS_W (by kernel_rfl) Tryz.func8 k_lawKind (callable_of Tryz.func8 (by kernel_rfl)) (by simp [c_lawKind]) ?_)
  simp [c_lawKind, Sq.v, Sq.cs]
  refine callS_tree awake14_ok ?_ ?_ ?_
  · rfl
  · rfl
  simp
  refine callS_tree (few14_ok s h) ?_ ?_ ?_
  · rfl
  · rfl
  cases hf : fewQ s
  · simp
    refine callS_tree awake14_ok ?_ ?_ ?_
    · rfl
    · rfl
    simp
  have ht := tiny_fewQ hf
  simp
  refine callS_tree (sCommX_ok s ht) ?_ ?_ ?_
  · rfl
  · rfl
  simp
  refine callS_tree (rCommX_ok s ht) ?_ ?_ ?_
  · rfl
  · rfl
  simp
  refine callS_tree (sKind_ok s ht) ?_ ?_ ?_
  · rfl
  · rfl
  simp [kindT]
  refine callS_tree (kind14_ok s ht) ?_ ?_ ?_
  · rfl
  · rfl
  simp [kindT]
end Go.Proofs.YthcnpnogfblkcaaGreat

/- Contracts: pasting squares; lifting squares. -/
namespace Go.Proofs.YthcnpnogfblkcaaGreat
open Abs
set_option linter.unusedSimpArgs false
set_option linter.unusedVariables false
attribute [local simp] rn0 rn1 rn2 rn3 rn4 rn5 rn6 rn7 evOp nests Arg.ev St.val St.set St.new sliceOf binInt2 binInt AV.cells rdAt St.live retOf resOf resAll treeOf treeCell treeCells treeTups untree frameOf TV.av TR.av ints edgs prs fillV splice intsOf trees V1.tree bx Gr.v Pa.v opRd opWr opNew opNewR opArgs argsRd argRd Arg.rd AV.refs V1.refs refsL dstL

/-- The outer square, or an error. -/
def pasE (s t : Sq) : Int := if sqErr s = 0 then if sqErr t = 0 then if sameG t.A s.B = true ∧ sameG t.C s.D = true ∧ sameP t.G s.H = true then 0 else 11 else sqErr t else sqErr s
def pasS (s t : Sq) : Sq := ⟨s.A, t.B, s.C, t.D, thenP s.F t.F, s.G, t.H, thenP s.K t.K⟩
def pasR (s t : Sq) : Sq × Int := if pasE s t = 0 then (pasS s t, 0) else (noS, pasE s t)

def c_sPaste : MFunc := ⟨72, [.cell 4 true 16, .tmp 5], .seq (.region [⟨some 2, .box 0 29 (.tmp 0), none⟩, ⟨some 3, .box 1 29 (.tmp 1), none⟩, ⟨some 4, .alloc 2 29 [.nil, .nil, .nil, .nil, .nil, .nil, .nil, .nil, .nil, .nil, .nil, .nil, .nil, .nil, .nil, .nil], none⟩, ⟨some 5, .mv (.c (.one (.t (.int .i64 0)))), none⟩]) (.seq (.seq (.region [⟨some 8, .load true 16 (.tmp 2), none⟩, ⟨some 9, .call (.c (.one (.fn 40 []))) 65 [.tmp 8], none⟩, ⟨some 6, .mv (.tmp 9), none⟩]) (.seq (.region [⟨some 10, .mv (.tmp 6), none⟩, ⟨some 11, .bin .neq (.tmp 10) (.c (.one (.t (.int .i64 0)))), none⟩]) (.cond (.tmp 11) (.seq (.region [⟨some 12, .build [.nil, .nil, .nil, .nil, .nil, .nil, .nil, .nil, .nil, .nil, .nil, .nil, .nil, .nil, .nil, .nil] [], none⟩, ⟨some 13, .mv (.tmp 6), none⟩, ⟨none, .store 16 (.tmp 4) (.tmp 12), none⟩, ⟨some 5, .mv (.tmp 13), none⟩]) .ret) .skip))) (.seq (.seq (.region [⟨some 14, .load true 16 (.tmp 3), none⟩, ⟨some 15, .call (.c (.one (.fn 40 []))) 257 [.tmp 14], none⟩, ⟨some 7, .mv (.tmp 15), none⟩]) (.seq (.region [⟨some 16, .mv (.tmp 7), none⟩, ⟨some 17, .bin .neq (.tmp 16) (.c (.one (.t (.int .i64 0)))), none⟩]) (.cond (.tmp 17) (.seq (.region [⟨some 18, .build [.nil, .nil, .nil, .nil, .nil, .nil, .nil, .nil, .nil, .nil, .nil, .nil, .nil, .nil, .nil, .nil] [], none⟩, ⟨some 19, .mv (.tmp 7), none⟩, ⟨none, .store 16 (.tmp 4) (.tmp 18), none⟩, ⟨some 5, .mv (.tmp 19), none⟩]) .ret) .skip))) (.seq (.seq (.region [⟨some 20, .fieldA 0 (.tmp 3), none⟩, ⟨some 21, .load true 2 (.tmp 20), none⟩, ⟨some 22, .fieldA 2 (.tmp 2), none⟩, ⟨some 23, .load true 2 (.tmp 22), none⟩, ⟨some 24, .call (.c (.one (.fn 79 []))) 452 [.tmp 21, .tmp 23], none⟩, ⟨some 25, .not (.tmp 24), none⟩, ⟨some 26, .mv (.tmp 25), none⟩, ⟨some 27, .fieldA 4 (.tmp 3), some (26, false)⟩, ⟨some 28, .load true 2 (.tmp 27), some (26, false)⟩, ⟨some 29, .fieldA 6 (.tmp 2), some (26, false)⟩, ⟨some 30, .load true 2 (.tmp 29), some (26, false)⟩, ⟨some 31, .call (.c (.one (.fn 79 []))) 459 [.tmp 28, .tmp 30], some (26, false)⟩, ⟨some 32, .not (.tmp 31), some (26, false)⟩, ⟨some 33, .pick (.tmp 26) (.c (.one (.t (.bool true)))) (.tmp 32), none⟩, ⟨some 34, .mv (.tmp 33), none⟩, ⟨some 35, .fieldA 10 (.tmp 3), some (34, false)⟩, ⟨some 36, .load true 2 (.tmp 35), some (34, false)⟩, ⟨some 37, .fieldA 12 (.tmp 2), some (34, false)⟩, ⟨some 38, .load true 2 (.tmp 37), some (34, false)⟩, ⟨some 39, .call (.c (.one (.fn 80 []))) 467 [.tmp 36, .tmp 38], some (34, false)⟩, ⟨some 40, .not (.tmp 39), some (34, false)⟩, ⟨some 41, .pick (.tmp 34) (.c (.one (.t (.bool true)))) (.tmp 40), none⟩]) (.cond (.tmp 41) (.seq (.region [⟨some 42, .build [.nil, .nil, .nil, .nil, .nil, .nil, .nil, .nil, .nil, .nil, .nil, .nil, .nil, .nil, .nil, .nil] [], none⟩, ⟨none, .store 16 (.tmp 4) (.tmp 42), none⟩, ⟨some 5, .mv (.c (.one (.t (.int .i64 11)))), none⟩]) .ret) .skip)) (.seq (.draw [[], [0], [1], [], [3], [4, 2], [], [6], [7, 5], [], [9], [10, 8], [], [12], [], [14], [13, 15, 11], [], [17], [18, 16], [], [20], [21, 19], [], [23], [], [25], [24, 26, 22], [2, 5, 8, 11, 16, 19, 22, 27], [28, 27, 0, 1, 2, 3, 4, 5, 6, 7, 8, 9, 10, 11, 12, 13, 14, 15, 16, 17, 18, 19, 20, 21, 22, 23, 24, 25, 26, 27, 28], [29, 0, 1, 2, 3, 4, 5, 6, 7, 8, 9, 10, 11, 12, 13, 14, 15, 16, 17, 18, 19, 20, 21, 22, 23, 24, 25, 26, 27, 28, 29]] [⟨some 43, .fieldA 0 (.tmp 2), none⟩, ⟨some 44, .load true 2 (.tmp 43), none⟩, ⟨some 45, .call (.c (.one (.fn 46 []))) 578 [.tmp 44], none⟩, ⟨some 46, .fieldA 2 (.tmp 3), none⟩, ⟨some 47, .load true 2 (.tmp 46), none⟩, ⟨some 48, .call (.c (.one (.fn 46 []))) 581 [.tmp 47], none⟩, ⟨some 49, .fieldA 4 (.tmp 2), none⟩, ⟨some 50, .load true 2 (.tmp 49), none⟩, ⟨some 51, .call (.c (.one (.fn 46 []))) 584 [.tmp 50], none⟩, ⟨some 52, .fieldA 6 (.tmp 3), none⟩, ⟨some 53, .load true 2 (.tmp 52), none⟩, ⟨some 54, .call (.c (.one (.fn 46 []))) 587 [.tmp 53], none⟩, ⟨some 55, .fieldA 8 (.tmp 2), none⟩, ⟨some 56, .load true 2 (.tmp 55), none⟩, ⟨some 57, .fieldA 8 (.tmp 3), none⟩, ⟨some 58, .load true 2 (.tmp 57), none⟩, ⟨some 59, .call (.c (.one (.fn 44 []))) 592 [.tmp 56, .tmp 58], none⟩, ⟨some 60, .fieldA 10 (.tmp 2), none⟩, ⟨some 61, .load true 2 (.tmp 60), none⟩, ⟨some 62, .call (.c (.one (.fn 63 []))) 595 [.tmp 61], none⟩, ⟨some 63, .fieldA 12 (.tmp 3), none⟩, ⟨some 64, .load true 2 (.tmp 63), none⟩, ⟨some 65, .call (.c (.one (.fn 63 []))) 598 [.tmp 64], none⟩, ⟨some 66, .fieldA 14 (.tmp 2), none⟩, ⟨some 67, .load true 2 (.tmp 66), none⟩, ⟨some 68, .fieldA 14 (.tmp 3), none⟩, ⟨some 69, .load true 2 (.tmp 68), none⟩, ⟨some 70, .call (.c (.one (.fn 44 []))) 603 [.tmp 67, .tmp 69], none⟩, ⟨some 71, .build [.nil, .nil, .nil, .nil, .nil, .nil, .nil, .nil, .nil, .nil, .nil, .nil, .nil, .nil, .nil, .nil] [(0, (2, .tmp 45)), (2, (2, .tmp 48)), (4, (2, .tmp 51)), (6, (2, .tmp 54)), (8, (2, .tmp 59)), (10, (2, .tmp 62)), (12, (2, .tmp 65)), (14, (2, .tmp 70))], none⟩, ⟨none, .store 16 (.tmp 4) (.tmp 71), none⟩, ⟨some 5, .mv (.c (.one (.t (.int .i64 0)))), none⟩]) .ret))))⟩
theorem k_sPaste : cFn Tryz.prog Tryz.f37 = some c_sPaste := by kernel_rfl
set_option maxHeartbeats 4000000 in
theorem sPaste_ok (s t : Sq) (h : TinySq s) (k : TinySq t) : CallOK Tryz.prog 37 [s.v, t.v] (sqT (pasR s t)) := by
  refine callOK_W (callS_W (by kernel_rfl) Tryz.func37 k_sPaste (callable_of Tryz.func37 (by kernel_rfl)) (by simp [c_sPaste]) ?_)
  simp [c_sPaste, Sq.v, Sq.cs]
  refine callS_tree (svalidS_ok s h) ?_ ?_ ?_
  · rfl
  · rfl
  by_cases h1 : sqErr s = 0
  case neg =>
    have e : pasR s t = (noS, sqErr s) := by simp [pasR, pasE, h1]
    simp [h1, sqT, e, noS, Sq.v, Sq.cs, edL]
  simp [h1]
  refine callS_tree (svalidS_ok t k) ?_ ?_ ?_
  · rfl
  · rfl
  by_cases h2 : sqErr t = 0
  case neg =>
    have e : pasR s t = (noS, sqErr t) := by simp [pasR, pasE, h1, h2]
    simp [h2, sqT, e, noS, Sq.v, Sq.cs, edL]
  simp [h2]
  refine callS_tree (ssame_ok t.A s.B k.A h.B) ?_ ?_ ?_
  · rfl
  · rfl
  cases h3 : sameG t.A s.B
  · have e : pasR s t = (noS, 11) := by simp [pasR, pasE, h1, h2, h3]
    simp [sqT, e, noS, Sq.v, Sq.cs, edL]
  simp
  refine callS_tree (ssame_ok t.C s.D k.C h.D) ?_ ?_ ?_
  · rfl
  · rfl
  cases h4 : sameG t.C s.D
  · have e : pasR s t = (noS, 11) := by simp [pasR, pasE, h1, h2, h3, h4]
    simp [sqT, e, noS, Sq.v, Sq.cs, edL]
  simp
  refine callS_tree (msame_ok t.G s.H k.G h.H) ?_ ?_ ?_
  · rfl
  · rfl
  cases h5 : sameP t.G s.H
  · have e : pasR s t = (noS, 11) := by simp [pasR, pasE, h1, h2, h3, h4, h5]
    simp [sqT, e, noS, Sq.v, Sq.cs, edL]
  have e : pasR s t = (pasS s t, 0) := by simp [pasR, pasE, h1, h2, h3, h4, h5]
  have o1 := sqErr_ok h1
  have o2 := sqErr_ok h2
  have f1 : FitsP s.F t.F := o1.F.fits (by rw [← sameG_iff.1 h3]; exact o2.F)
  have f2 : FitsP s.K t.K := o1.K.fits (by rw [← sameG_iff.1 h4]; exact o2.K)
  simp [dw0, dw1, dw2, dw3]
  refine dCall_ok (scopied_ok s.A h.A) ?_ ?_ ?_
  · rfl
  · rfl
  simp [dw0, dw1, dw2, dw3]
  refine dCall_ok (scopied_ok t.B k.B) ?_ ?_ ?_
  · rfl
  · rfl
  simp [dw0, dw1, dw2, dw3]
  refine dCall_ok (scopied_ok s.C h.C) ?_ ?_ ?_
  · rfl
  · rfl
  simp [dw0, dw1, dw2, dw3]
  refine dCall_ok (scopied_ok t.D k.D) ?_ ?_ ?_
  · rfl
  · rfl
  simp [dw0, dw1, dw2, dw3]
  refine dCall_ok (sthen_ok s.F t.F h.F f1) ?_ ?_ ?_
  · rfl
  · rfl
  simp [dw0, dw1, dw2, dw3]
  refine dCall_ok (arrow_ok s.G h.G) ?_ ?_ ?_
  · rfl
  · rfl
  simp [dw0, dw1, dw2, dw3]
  refine dCall_ok (arrow_ok t.H k.H) ?_ ?_ ?_
  · rfl
  · rfl
  simp [dw0, dw1, dw2, dw3]
  refine dCall_ok (sthen_ok s.K t.K h.K f2) ?_ ?_ ?_
  · rfl
  · rfl
  simp [dw0, dw1, dw2, dw3, sqT, e, pasS, Sq.v, Sq.cs]
  rfl

def c_rPaste : MFunc := ⟨66, [.cell 4 true 16, .tmp 5], .seq (.region [⟨some 2, .box 0 29 (.tmp 0), none⟩, ⟨some 3, .box 1 29 (.tmp 1), none⟩, ⟨some 4, .alloc 2 29 [.nil, .nil, .nil, .nil, .nil, .nil, .nil, .nil, .nil, .nil, .nil, .nil, .nil, .nil, .nil, .nil], none⟩, ⟨some 5, .mv (.c (.one (.t (.int .i64 0)))), none⟩]) (.seq (.seq (.region [⟨some 8, .load true 16 (.tmp 2), none⟩, ⟨some 9, .call (.c (.one (.fn 47 []))) 65 [.tmp 8], none⟩, ⟨some 6, .mv (.tmp 9), none⟩]) (.seq (.region [⟨some 10, .mv (.tmp 6), none⟩, ⟨some 11, .bin .neq (.tmp 10) (.c (.one (.t (.int .i64 0)))), none⟩]) (.cond (.tmp 11) (.seq (.region [⟨some 12, .build [.nil, .nil, .nil, .nil, .nil, .nil, .nil, .nil, .nil, .nil, .nil, .nil, .nil, .nil, .nil, .nil] [], none⟩, ⟨some 13, .mv (.tmp 6), none⟩, ⟨none, .store 16 (.tmp 4) (.tmp 12), none⟩, ⟨some 5, .mv (.tmp 13), none⟩]) .ret) .skip))) (.seq (.seq (.region [⟨some 14, .load true 16 (.tmp 3), none⟩, ⟨some 15, .call (.c (.one (.fn 47 []))) 257 [.tmp 14], none⟩, ⟨some 7, .mv (.tmp 15), none⟩]) (.seq (.region [⟨some 16, .mv (.tmp 7), none⟩, ⟨some 17, .bin .neq (.tmp 16) (.c (.one (.t (.int .i64 0)))), none⟩]) (.cond (.tmp 17) (.seq (.region [⟨some 18, .build [.nil, .nil, .nil, .nil, .nil, .nil, .nil, .nil, .nil, .nil, .nil, .nil, .nil, .nil, .nil, .nil] [], none⟩, ⟨some 19, .mv (.tmp 7), none⟩, ⟨none, .store 16 (.tmp 4) (.tmp 18), none⟩, ⟨some 5, .mv (.tmp 19), none⟩]) .ret) .skip))) (.seq (.seq (.region [⟨some 20, .fieldA 0 (.tmp 3), none⟩, ⟨some 21, .load true 2 (.tmp 20), none⟩, ⟨some 22, .fieldA 2 (.tmp 2), none⟩, ⟨some 23, .load true 2 (.tmp 22), none⟩, ⟨some 24, .call (.c (.one (.fn 22 []))) 452 [.tmp 21, .tmp 23], none⟩, ⟨some 25, .not (.tmp 24), none⟩, ⟨some 26, .mv (.tmp 25), none⟩, ⟨some 27, .fieldA 4 (.tmp 3), some (26, false)⟩, ⟨some 28, .load true 2 (.tmp 27), some (26, false)⟩, ⟨some 29, .fieldA 6 (.tmp 2), some (26, false)⟩, ⟨some 30, .load true 2 (.tmp 29), some (26, false)⟩, ⟨some 31, .call (.c (.one (.fn 22 []))) 459 [.tmp 28, .tmp 30], some (26, false)⟩, ⟨some 32, .not (.tmp 31), some (26, false)⟩, ⟨some 33, .pick (.tmp 26) (.c (.one (.t (.bool true)))) (.tmp 32), none⟩, ⟨some 34, .mv (.tmp 33), none⟩, ⟨some 35, .fieldA 10 (.tmp 3), some (34, false)⟩, ⟨some 36, .load true 2 (.tmp 35), some (34, false)⟩, ⟨some 37, .fieldA 12 (.tmp 2), some (34, false)⟩, ⟨some 38, .load true 2 (.tmp 37), some (34, false)⟩, ⟨some 39, .call (.c (.one (.fn 23 []))) 467 [.tmp 36, .tmp 38], some (34, false)⟩, ⟨some 40, .not (.tmp 39), some (34, false)⟩, ⟨some 41, .pick (.tmp 34) (.c (.one (.t (.bool true)))) (.tmp 40), none⟩]) (.cond (.tmp 41) (.seq (.region [⟨some 42, .build [.nil, .nil, .nil, .nil, .nil, .nil, .nil, .nil, .nil, .nil, .nil, .nil, .nil, .nil, .nil, .nil] [], none⟩, ⟨none, .store 16 (.tmp 4) (.tmp 42), none⟩, ⟨some 5, .mv (.c (.one (.t (.int .i64 11)))), none⟩]) .ret) .skip)) (.seq (.draw [[], [0], [], [2], [], [4], [], [6], [], [8], [], [10], [9, 11], [], [13], [], [15], [], [17], [], [19], [18, 20, 12], [1, 3, 5, 7, 12, 14, 16, 21], [22, 21, 0, 1, 2, 3, 4, 5, 6, 7, 8, 9, 10, 11, 12, 13, 14, 15, 16, 17, 18, 19, 20, 21, 22], [23, 0, 1, 2, 3, 4, 5, 6, 7, 8, 9, 10, 11, 12, 13, 14, 15, 16, 17, 18, 19, 20, 21, 22, 23]] [⟨some 43, .fieldA 0 (.tmp 2), none⟩, ⟨some 44, .load true 2 (.tmp 43), none⟩, ⟨some 45, .fieldA 2 (.tmp 3), none⟩, ⟨some 46, .load true 2 (.tmp 45), none⟩, ⟨some 47, .fieldA 4 (.tmp 2), none⟩, ⟨some 48, .load true 2 (.tmp 47), none⟩, ⟨some 49, .fieldA 6 (.tmp 3), none⟩, ⟨some 50, .load true 2 (.tmp 49), none⟩, ⟨some 51, .fieldA 8 (.tmp 2), none⟩, ⟨some 52, .load true 2 (.tmp 51), none⟩, ⟨some 53, .fieldA 8 (.tmp 3), none⟩, ⟨some 54, .load true 2 (.tmp 53), none⟩, ⟨some 55, .call (.c (.one (.fn 39 []))) 588 [.tmp 52, .tmp 54], none⟩, ⟨some 56, .fieldA 10 (.tmp 2), none⟩, ⟨some 57, .load true 2 (.tmp 56), none⟩, ⟨some 58, .fieldA 12 (.tmp 3), none⟩, ⟨some 59, .load true 2 (.tmp 58), none⟩, ⟨some 60, .fieldA 14 (.tmp 2), none⟩, ⟨some 61, .load true 2 (.tmp 60), none⟩, ⟨some 62, .fieldA 14 (.tmp 3), none⟩, ⟨some 63, .load true 2 (.tmp 62), none⟩, ⟨some 64, .call (.c (.one (.fn 39 []))) 597 [.tmp 61, .tmp 63], none⟩, ⟨some 65, .build [.nil, .nil, .nil, .nil, .nil, .nil, .nil, .nil, .nil, .nil, .nil, .nil, .nil, .nil, .nil, .nil] [(0, (2, .tmp 44)), (2, (2, .tmp 46)), (4, (2, .tmp 48)), (6, (2, .tmp 50)), (8, (2, .tmp 55)), (10, (2, .tmp 57)), (12, (2, .tmp 59)), (14, (2, .tmp 64))], none⟩, ⟨none, .store 16 (.tmp 4) (.tmp 65), none⟩, ⟨some 5, .mv (.c (.one (.t (.int .i64 0)))), none⟩]) .ret))))⟩
theorem k_rPaste : cFn Tryz.prog Tryz.f38 = some c_rPaste := by kernel_rfl
set_option maxHeartbeats 4000000 in
theorem rPaste_ok (s t : Sq) (h : TinySq s) (k : TinySq t) : CallOK Tryz.prog 38 [s.v, t.v] (sqT (pasR s t)) := by
  refine callOK_W (callS_W (by kernel_rfl) Tryz.func38 k_rPaste (callable_of Tryz.func38 (by kernel_rfl)) (by simp [c_rPaste]) ?_)
  simp [c_rPaste, Sq.v, Sq.cs]
  refine callS_tree (rvalidS_ok s h) ?_ ?_ ?_
  · rfl
  · rfl
  by_cases h1 : sqErr s = 0
  case neg =>
    have e : pasR s t = (noS, sqErr s) := by simp [pasR, pasE, h1]
    simp [h1, sqT, e, noS, Sq.v, Sq.cs, edL]
  simp [h1]
  refine callS_tree (rvalidS_ok t k) ?_ ?_ ?_
  · rfl
  · rfl
  by_cases h2 : sqErr t = 0
  case neg =>
    have e : pasR s t = (noS, sqErr t) := by simp [pasR, pasE, h1, h2]
    simp [h2, sqT, e, noS, Sq.v, Sq.cs, edL]
  simp [h2]
  refine callS_tree (ref5Same_ok t.A s.B k.A h.B) ?_ ?_ ?_
  · rfl
  · rfl
  cases h3 : sameG t.A s.B
  · have e : pasR s t = (noS, 11) := by simp [pasR, pasE, h1, h2, h3]
    rw [← sameG, h3]
    simp [sqT, e, noS, Sq.v, Sq.cs, edL]
  rw [← sameG, h3]
  simp
  refine callS_tree (ref5Same_ok t.C s.D k.C h.D) ?_ ?_ ?_
  · rfl
  · rfl
  cases h4 : sameG t.C s.D
  · have e : pasR s t = (noS, 11) := by simp [pasR, pasE, h1, h2, h3, h4]
    rw [← sameG, h4]
    simp [sqT, e, noS, Sq.v, Sq.cs, edL]
  rw [← sameG, h4]
  simp
  refine callS_tree (rsame_ok t.G s.H k.G h.H) ?_ ?_ ?_
  · rfl
  · rfl
  cases h5 : sameP t.G s.H
  · have e : pasR s t = (noS, 11) := by simp [pasR, pasE, h1, h2, h3, h4, h5]
    simp [sqT, e, noS, Sq.v, Sq.cs, edL]
  have e : pasR s t = (pasS s t, 0) := by simp [pasR, pasE, h1, h2, h3, h4, h5]
  have o1 := sqErr_ok h1
  have o2 := sqErr_ok h2
  have f1 : FitsP s.F t.F := o1.F.fits (by rw [← sameG_iff.1 h3]; exact o2.F)
  have f2 : FitsP s.K t.K := o1.K.fits (by rw [← sameG_iff.1 h4]; exact o2.K)
  simp [dw0, dw1, dw2, dw3]
  refine dCall_ok (then6_ok s.F t.F h.F f1) ?_ ?_ ?_
  · rfl
  · rfl
  simp [dw0, dw1, dw2, dw3]
  refine dCall_ok (then6_ok s.K t.K h.K f2) ?_ ?_ ?_
  · rfl
  · rfl
  simp [dw0, dw1, dw2, dw3, sqT, e, pasS, Sq.v, Sq.cs]
  rfl
end Go.Proofs.YthcnpnogfblkcaaGreat

/- Contracts: equal squares; the law of pasting. -/
namespace Go.Proofs.YthcnpnogfblkcaaGreat
open Abs
set_option linter.unusedSimpArgs false
set_option linter.unusedVariables false
attribute [local simp] rn0 rn1 rn2 rn3 rn4 rn5 rn6 rn7 evOp nests Arg.ev St.val St.set St.new sliceOf binInt2 binInt AV.cells rdAt St.live retOf resOf resAll treeOf treeCell treeCells treeTups untree frameOf TV.av TR.av ints edgs prs fillV splice intsOf trees V1.tree bx Gr.v Pa.v

def c_same14 : MFunc := ⟨61, [.tmp 4], .seq (.region [⟨some 2, .box 0 29 (.tmp 0), none⟩, ⟨some 3, .box 1 29 (.tmp 1), none⟩, ⟨some 4, .mv (.c (.one (.t (.bool false)))), none⟩]) (.seq (.region [⟨some 6, .fieldA 0 (.tmp 2), none⟩, ⟨some 7, .load true 2 (.tmp 6), none⟩, ⟨some 8, .fieldA 0 (.tmp 3), none⟩, ⟨some 9, .load true 2 (.tmp 8), none⟩, ⟨some 10, .call (.c (.one (.fn 22 []))) 68 [.tmp 7, .tmp 9], none⟩, ⟨some 11, .mv (.tmp 10), none⟩, ⟨some 12, .fieldA 2 (.tmp 2), some (11, true)⟩, ⟨some 13, .load true 2 (.tmp 12), some (11, true)⟩, ⟨some 14, .fieldA 2 (.tmp 3), some (11, true)⟩, ⟨some 15, .load true 2 (.tmp 14), some (11, true)⟩, ⟨some 16, .call (.c (.one (.fn 22 []))) 74 [.tmp 13, .tmp 15], some (11, true)⟩, ⟨some 17, .pick (.tmp 11) (.tmp 16) (.c (.one (.t (.bool false)))), none⟩, ⟨some 18, .mv (.tmp 17), none⟩, ⟨some 19, .fieldA 4 (.tmp 2), some (18, true)⟩, ⟨some 20, .load true 2 (.tmp 19), some (18, true)⟩, ⟨some 21, .fieldA 4 (.tmp 3), some (18, true)⟩, ⟨some 22, .load true 2 (.tmp 21), some (18, true)⟩, ⟨some 23, .call (.c (.one (.fn 22 []))) 81 [.tmp 20, .tmp 22], some (18, true)⟩, ⟨some 24, .pick (.tmp 18) (.tmp 23) (.c (.one (.t (.bool false)))), none⟩, ⟨some 25, .mv (.tmp 24), none⟩, ⟨some 26, .fieldA 6 (.tmp 2), some (25, true)⟩, ⟨some 27, .load true 2 (.tmp 26), some (25, true)⟩, ⟨some 28, .fieldA 6 (.tmp 3), some (25, true)⟩, ⟨some 29, .load true 2 (.tmp 28), some (25, true)⟩, ⟨some 30, .call (.c (.one (.fn 22 []))) 88 [.tmp 27, .tmp 29], some (25, true)⟩, ⟨some 31, .pick (.tmp 25) (.tmp 30) (.c (.one (.t (.bool false)))), none⟩, ⟨some 5, .mv (.tmp 31), none⟩]) (.seq (.region [⟨some 32, .mv (.tmp 5), none⟩, ⟨some 33, .mv (.tmp 32), none⟩, ⟨some 34, .fieldA 8 (.tmp 2), some (33, true)⟩, ⟨some 35, .load true 2 (.tmp 34), some (33, true)⟩, ⟨some 36, .fieldA 8 (.tmp 3), some (33, true)⟩, ⟨some 37, .load true 2 (.tmp 36), some (33, true)⟩, ⟨some 38, .call (.c (.one (.fn 23 []))) 134 [.tmp 35, .tmp 37], some (33, true)⟩, ⟨some 39, .pick (.tmp 33) (.tmp 38) (.c (.one (.t (.bool false)))), none⟩, ⟨some 40, .mv (.tmp 39), none⟩, ⟨some 41, .fieldA 10 (.tmp 2), some (40, true)⟩, ⟨some 42, .load true 2 (.tmp 41), some (40, true)⟩, ⟨some 43, .fieldA 10 (.tmp 3), some (40, true)⟩, ⟨some 44, .load true 2 (.tmp 43), some (40, true)⟩, ⟨some 45, .call (.c (.one (.fn 23 []))) 141 [.tmp 42, .tmp 44], some (40, true)⟩, ⟨some 46, .pick (.tmp 40) (.tmp 45) (.c (.one (.t (.bool false)))), none⟩, ⟨some 47, .mv (.tmp 46), none⟩, ⟨some 48, .fieldA 12 (.tmp 2), some (47, true)⟩, ⟨some 49, .load true 2 (.tmp 48), some (47, true)⟩, ⟨some 50, .fieldA 12 (.tmp 3), some (47, true)⟩, ⟨some 51, .load true 2 (.tmp 50), some (47, true)⟩, ⟨some 52, .call (.c (.one (.fn 23 []))) 148 [.tmp 49, .tmp 51], some (47, true)⟩, ⟨some 53, .pick (.tmp 47) (.tmp 52) (.c (.one (.t (.bool false)))), none⟩, ⟨some 54, .mv (.tmp 53), none⟩, ⟨some 55, .fieldA 14 (.tmp 2), some (54, true)⟩, ⟨some 56, .load true 2 (.tmp 55), some (54, true)⟩, ⟨some 57, .fieldA 14 (.tmp 3), some (54, true)⟩, ⟨some 58, .load true 2 (.tmp 57), some (54, true)⟩, ⟨some 59, .call (.c (.one (.fn 23 []))) 155 [.tmp 56, .tmp 58], some (54, true)⟩, ⟨some 60, .pick (.tmp 54) (.tmp 59) (.c (.one (.t (.bool false)))), none⟩, ⟨some 4, .mv (.tmp 60), none⟩]) .ret))⟩
theorem k_same14 : cFn Tryz.prog Tryz.f17 = some c_same14 := by kernel_rfl
set_option maxHeartbeats 2000000 in
theorem same14_ok (s : Sq) (h : TinySq s) : CallOK Tryz.prog 17 [s.v, s.v] (.sv (false, [.bool true])) := by
  refine callOK_W (callS_W (by kernel_rfl) Tryz.func17 k_same14 (callable_of Tryz.func17 (by kernel_rfl)) (by simp [c_same14]) ?_)
  simp [c_same14, Sq.v, Sq.cs]
  refine callS_tree (ref5Same_ok s.A s.A h.A h.A) ?_ ?_ ?_
  · rfl
  · rfl
  simp
  refine callS_tree (ref5Same_ok s.B s.B h.B h.B) ?_ ?_ ?_
  · rfl
  · rfl
  simp
  refine callS_tree (ref5Same_ok s.C s.C h.C h.C) ?_ ?_ ?_
  · rfl
  · rfl
  simp
  refine callS_tree (ref5Same_ok s.D s.D h.D h.D) ?_ ?_ ?_
  · rfl
  · rfl
  simp
  refine callS_tree (rsame_ok s.F s.F h.F h.F) ?_ ?_ ?_
  · rfl
  · rfl
  rw [sameP_iff.2 rfl]
  simp
  refine callS_tree (rsame_ok s.G s.G h.G h.G) ?_ ?_ ?_
  · rfl
  · rfl
  rw [sameP_iff.2 rfl]
  simp
  refine callS_tree (rsame_ok s.H s.H h.H h.H) ?_ ?_ ?_
  · rfl
  · rfl
  rw [sameP_iff.2 rfl]
  simp
  refine callS_tree (rsame_ok s.K s.K h.K h.K) ?_ ?_ ?_
  · rfl
  · rfl
  rw [sameP_iff.2 rfl]
  simp

theorem noS_tiny : TinySq noS := by
  refine ⟨⟨?_, ?_⟩, ⟨?_, ?_⟩, ⟨?_, ?_⟩, ⟨?_, ?_⟩, ⟨?_, ?_⟩, ⟨?_, ?_⟩, ⟨?_, ?_⟩, ⟨?_, ?_⟩⟩ <;> simp [noS, tiny]
theorem pasR_tiny {s t : Sq} (h : TinySq s) (k : TinySq t) : TinySq (pasR s t).1 := by
  unfold pasR
  split
  · exact ⟨h.A, k.B, h.C, k.D, thenP_tiny h.F, h.G, k.H, thenP_tiny h.K⟩
  · exact noS_tiny

def c_lawPaste : MFunc := ⟨42, [.tmp 4], .seq (.region [⟨some 2, .box 0 29 (.tmp 0), none⟩, ⟨some 3, .box 1 29 (.tmp 1), none⟩, ⟨some 4, .mv (.c (.one (.t (.bool false)))), none⟩]) (.seq (.seq (.region [⟨some 9, .call (.c (.one (.fn 11 []))) 64 [], none⟩, ⟨some 10, .not (.tmp 9), none⟩, ⟨some 11, .mv (.tmp 10), none⟩, ⟨some 12, .load true 16 (.tmp 2), some (11, false)⟩, ⟨some 13, .call (.c (.one (.fn 12 []))) 68 [.tmp 12], some (11, false)⟩, ⟨some 14, .not (.tmp 13), some (11, false)⟩, ⟨some 15, .pick (.tmp 11) (.c (.one (.t (.bool true)))) (.tmp 14), none⟩, ⟨some 16, .mv (.tmp 15), none⟩, ⟨some 17, .load true 16 (.tmp 3), some (16, false)⟩, ⟨some 18, .call (.c (.one (.fn 12 []))) 73 [.tmp 17], some (16, false)⟩, ⟨some 19, .not (.tmp 18), some (16, false)⟩, ⟨some 20, .pick (.tmp 16) (.c (.one (.t (.bool true)))) (.tmp 19), none⟩]) (.cond (.tmp 20) (.seq (.region [⟨some 21, .call (.c (.one (.fn 11 []))) 128 [], none⟩, ⟨some 4, .mv (.tmp 21), none⟩]) .ret) .skip)) (.seq (.region [⟨some 23, .load true 16 (.tmp 2), none⟩, ⟨some 24, .load true 16 (.tmp 3), none⟩, ⟨some 25, .call (.c (.one (.fn 37 []))) 194 [.tmp 23, .tmp 24], none⟩, ⟨some 22, .mv (.tmp 25), none⟩, ⟨some 26, .extract (.tmp 22) 0, none⟩, ⟨some 27, .extract (.tmp 22) 1, none⟩, ⟨some 5, .alloc 198 29 [.nil, .nil, .nil, .nil, .nil, .nil, .nil, .nil, .nil, .nil, .nil, .nil, .nil, .nil, .nil, .nil], none⟩, ⟨none, .store 16 (.tmp 5) (.tmp 26), none⟩, ⟨some 6, .mv (.tmp 27), none⟩]) (.seq (.region [⟨some 29, .load true 16 (.tmp 2), none⟩, ⟨some 30, .load true 16 (.tmp 3), none⟩, ⟨some 31, .call (.c (.one (.fn 38 []))) 258 [.tmp 29, .tmp 30], none⟩, ⟨some 28, .mv (.tmp 31), none⟩, ⟨some 32, .extract (.tmp 28) 0, none⟩, ⟨some 33, .extract (.tmp 28) 1, none⟩, ⟨some 7, .alloc 262 29 [.nil, .nil, .nil, .nil, .nil, .nil, .nil, .nil, .nil, .nil, .nil, .nil, .nil, .nil, .nil, .nil], none⟩, ⟨none, .store 16 (.tmp 7) (.tmp 32), none⟩, ⟨some 8, .mv (.tmp 33), none⟩]) (.seq (.region [⟨some 34, .mv (.tmp 6), none⟩, ⟨some 35, .mv (.tmp 8), none⟩, ⟨some 36, .bin .eql (.tmp 34) (.tmp 35), none⟩, ⟨some 37, .mv (.tmp 36), none⟩, ⟨some 38, .load true 16 (.tmp 5), some (37, true)⟩, ⟨some 39, .load true 16 (.tmp 7), some (37, true)⟩, ⟨some 40, .call (.c (.one (.fn 17 []))) 326 [.tmp 38, .tmp 39], some (37, true)⟩, ⟨some 41, .pick (.tmp 37) (.tmp 40) (.c (.one (.t (.bool false)))), none⟩, ⟨some 4, .mv (.tmp 41), none⟩]) .ret))))⟩
theorem k_lawPaste : cFn Tryz.prog Tryz.f9 = some c_lawPaste := by kernel_rfl
set_option maxHeartbeats 2000000 in
theorem lawPaste_ok (s t : Sq) (h : HugeQ s) (k : HugeQ t) : CallOK Tryz.prog 9 [s.v, t.v] (.sv (false, [.bool true])) := by
  refine callOK_W (callS_W (by kernel_rfl) Tryz.func9 k_lawPaste (callable_of Tryz.func9 (by kernel_rfl)) (by simp [c_lawPaste]) ?_)
  simp [c_lawPaste, Sq.v, Sq.cs]
  refine callS_tree awake14_ok ?_ ?_ ?_
  · rfl
  · rfl
  simp
  refine callS_tree (few14_ok s h) ?_ ?_ ?_
  · rfl
  · rfl
  cases hf : fewQ s
  · simp
    refine callS_tree awake14_ok ?_ ?_ ?_
    · rfl
    · rfl
    simp
  simp
  refine callS_tree (few14_ok t k) ?_ ?_ ?_
  · rfl
  · rfl
  cases hk : fewQ t
  · simp
    refine callS_tree awake14_ok ?_ ?_ ?_
    · rfl
    · rfl
    simp
  have hs := tiny_fewQ hf
  have ht := tiny_fewQ hk
  simp
  refine callS_tree (sPaste_ok s t hs ht) ?_ ?_ ?_
  · rfl
  · rfl
  simp [sqT, Sq.v, Sq.cs]
  refine callS_tree (rPaste_ok s t hs ht) ?_ ?_ ?_
  · rfl
  · rfl
  simp [sqT, Sq.v, Sq.cs]
  refine callS_tree (same14_ok (pasR s t).1 (pasR_tiny hs ht)) ?_ ?_ ?_
  · rfl
  · rfl
  simp
end Go.Proofs.YthcnpnogfblkcaaGreat

/- Contracts: lifting squares; their law. -/
namespace Go.Proofs.YthcnpnogfblkcaaGreat
open Abs
set_option linter.unusedSimpArgs false
set_option linter.unusedVariables false
attribute [local simp] rn0 rn1 rn2 rn3 rn4 rn5 rn6 rn7 evOp nests Arg.ev St.val St.set St.new sliceOf binInt2 binInt AV.cells rdAt St.live retOf resOf resAll treeOf treeCell treeCells treeTups untree frameOf TV.av TR.av ints edgs prs fillV splice intsOf trees V1.tree bx Gr.v Pa.v opRd opWr opNew opNewR opArgs argsRd argRd Arg.rd AV.refs V1.refs refsL dstL

def cornB (s : Sq) (x : Gr) (m : Pa) : Co := ⟨s.B, x, s.D, s.H, m⟩
def cornC (s : Sq) (x : Gr) (m : Pa) : Co := ⟨s.C, x, s.D, s.K, m⟩
def cornA (s : Sq) (x : Gr) (m : Pa) : Co := ⟨s.A, x, s.D, thenP s.F s.H, m⟩
def pbDn (c : Co) : Pa := ⟨fstL (pbNs c), fstL (pbEs c)⟩
def pbUp (c : Co) : Pa := ⟨sndL (pbNs c), sndL (pbEs c)⟩
def lfF (s : Sq) (x : Gr) (m : Pa) : Pa := thenP (pbDn (cornA s x m)) s.F
def lfG (s : Sq) (x : Gr) (m : Pa) : Pa := thenP (pbDn (cornA s x m)) s.G
def lfU (s : Sq) (x : Gr) (m : Pa) : Pa := pbUp (cornA s x m)
/-- The lifted square, or an error. -/
def lfE (s : Sq) (x : Gr) (m : Pa) : Int :=
  if sqErr s = 0 then if morErr x s.D m = 0 then if commB s = true then
    if pbErr (cornB s x m) = 0 then if pbErr (cornC s x m) = 0 then if pbErr (cornA s x m) = 0 then
      if medE (cornB s x m) (pbG (cornA s x m)) (lfF s x m) (lfU s x m) = 0 then medE (cornC s x m) (pbG (cornA s x m)) (lfG s x m) (lfU s x m)
      else medE (cornB s x m) (pbG (cornA s x m)) (lfF s x m) (lfU s x m)
    else pbErr (cornA s x m) else pbErr (cornC s x m) else pbErr (cornB s x m)
  else 11 else morErr x s.D m else sqErr s
def lfS (s : Sq) (x : Gr) (m : Pa) : Sq := ⟨pbG (cornA s x m), pbG (cornB s x m), pbG (cornC s x m), x,
  medC (cornB s x m) (lfF s x m) (lfU s x m), medC (cornC s x m) (lfG s x m) (lfU s x m), pbUp (cornB s x m), pbUp (cornC s x m)⟩
def lfR (s : Sq) (x : Gr) (m : Pa) : Sq × Int := if lfE s x m = 0 then (lfS s x m, 0) else (noS, lfE s x m)

theorem pbR_ok {c : Co} (h : pbErr c = 0) : pbR c = (pbG c, pbDn c, pbUp c, 0) := by simp [pbR, h, pbDn, pbUp]
theorem pbR_no {c : Co} (h : ¬ pbErr c = 0) : pbR c = (⟨[], []⟩, ⟨[], []⟩, ⟨[], []⟩, pbErr c) := by simp [pbR, h]
theorem medR_ok {c : Co} {x : Gr} {h k : Pa} (e : medE c x h k = 0) : medR c x h k = (medC c h k, 0) := by simp [medR, e]
theorem medR_no {c : Co} {x : Gr} {h k : Pa} (e : ¬ medE c x h k = 0) : medR c x h k = (⟨[], []⟩, medE c x h k) := by simp [medR, e]
theorem pbDn_len {c : Co} : (pbDn c).nodes.length = (pbNs c).length ∧ (pbDn c).edges.length = (pbEs c).length := ⟨fstL_len, fstL_len⟩
theorem pbUp_len {c : Co} : (pbUp c).nodes.length = (pbNs c).length ∧ (pbUp c).edges.length = (pbEs c).length := ⟨sndL_len, sndL_len⟩
theorem pbDn_tiny {c : Co} (h : pbErr c = 0) : tinyP (pbDn c) := by
  obtain ⟨_, h1, h2⟩ := pbErr_few h
  obtain ⟨h3, h4⟩ := pbDn_len (c := c)
  exact ⟨by simp only [tiny]; omega, by simp only [tiny]; omega⟩
theorem pbUp_tiny {c : Co} (h : pbErr c = 0) : tinyP (pbUp c) := by
  obtain ⟨_, h1, h2⟩ := pbErr_few h
  obtain ⟨h3, h4⟩ := pbUp_len (c := c)
  exact ⟨by simp only [tiny]; omega, by simp only [tiny]; omega⟩
theorem pbDn_in {c : Co} (h : CoOk c) : placesIn (pbDn c).nodes c.B.nodes.length ∧ placesIn (pbDn c).edges c.B.edges.length := by
  refine ⟨fun x hx => ?_, fun x hx => ?_⟩
  · obtain ⟨q, hq, rfl⟩ := List.mem_map.1 hx
    obtain ⟨i, k, hi, _, rfl⟩ := pbNs_at h hq
    exact ⟨by simp, by simpa using hi⟩
  · obtain ⟨q, hq, rfl⟩ := List.mem_map.1 hx
    obtain ⟨i, k, hi, _, rfl⟩ := pbEs_at h hq
    exact ⟨by simp, by simpa using hi⟩
theorem pbUp_in {c : Co} (h : CoOk c) : placesIn (pbUp c).nodes c.C.nodes.length ∧ placesIn (pbUp c).edges c.C.edges.length := by
  refine ⟨fun x hx => ?_, fun x hx => ?_⟩
  · obtain ⟨q, hq, rfl⟩ := List.mem_map.1 hx
    obtain ⟨i, k, _, hk, rfl⟩ := pbNs_at h hq
    exact ⟨by simp, by simpa using hk⟩
  · obtain ⟨q, hq, rfl⟩ := List.mem_map.1 hx
    obtain ⟨i, k, _, hk, rfl⟩ := pbEs_at h hq
    exact ⟨by simp, by simpa using hk⟩
theorem fits_dn {c : Co} {d : Gr} {f : Pa} (h : CoOk c) (hf : MorOk c.B d f) : FitsP (pbDn c) f := by
  obtain ⟨h1, h2⟩ := pbDn_in h
  exact ⟨by rw [hf.ln]; exact h1, by rw [hf.le]; exact h2⟩

def plT (c : Co) : TR := .tup [(true, c.cs ++ [ints (pbR c).1.nodes, edgs (pbR c).1.edges, ints (pbR c).2.1.nodes, ints (pbR c).2.1.edges, ints (pbR c).2.2.1.nodes, ints (pbR c).2.2.1.edges]), (false, [.int .i64 (pbR c).2.2.2])]

def c_spull : MFunc := ⟨36, [.cell 10 true 16, .tmp 11], .seq (.region [⟨some 5, .box 0 25 (.tmp 0), none⟩, ⟨some 6, .box 1 25 (.tmp 1), none⟩, ⟨some 7, .box 2 25 (.tmp 2), none⟩, ⟨some 8, .box 3 27 (.tmp 3), none⟩, ⟨some 9, .box 4 27 (.tmp 4), none⟩, ⟨some 10, .alloc 5 82 [.nil, .nil, .nil, .nil, .nil, .nil, .nil, .nil, .nil, .nil, .nil, .nil, .nil, .nil, .nil, .nil], none⟩, ⟨some 11, .mv (.c (.one (.t (.int .i64 0)))), none⟩]) (.seq (.region [⟨some 17, .load true 2 (.tmp 5), none⟩, ⟨some 18, .load true 2 (.tmp 7), none⟩, ⟨some 19, .load true 2 (.tmp 6), none⟩, ⟨some 20, .load true 2 (.tmp 8), none⟩, ⟨some 21, .load true 2 (.tmp 9), none⟩, ⟨some 22, .build [.nil, .nil, .nil, .nil, .nil, .nil, .nil, .nil, .nil, .nil] [(0, (2, .tmp 17)), (2, (2, .tmp 18)), (4, (2, .tmp 19)), (6, (2, .tmp 20)), (8, (2, .tmp 21))], none⟩, ⟨some 12, .alloc 70 80 [.nil, .nil, .nil, .nil, .nil, .nil, .nil, .nil, .nil, .nil], none⟩, ⟨none, .store 10 (.tmp 12) (.tmp 22), none⟩]) (.seq (.region [⟨some 24, .load true 10 (.tmp 12), none⟩, ⟨some 25, .call (.c (.one (.fn 56 []))) 129 [.tmp 24], none⟩, ⟨some 23, .mv (.tmp 25), none⟩, ⟨some 26, .extract (.tmp 23) 0, none⟩, ⟨some 27, .extract (.tmp 23) 1, none⟩, ⟨some 28, .extract (.tmp 23) 2, none⟩, ⟨some 29, .extract (.tmp 23) 3, none⟩, ⟨some 13, .alloc 135 25 [.nil, .nil], none⟩, ⟨some 14, .alloc 136 27 [.nil, .nil], none⟩, ⟨some 15, .alloc 137 27 [.nil, .nil], none⟩, ⟨none, .store 2 (.tmp 13) (.tmp 26), none⟩, ⟨none, .store 2 (.tmp 14) (.tmp 27), none⟩, ⟨none, .store 2 (.tmp 15) (.tmp 28), none⟩, ⟨some 16, .mv (.tmp 29), none⟩]) (.seq (.region [⟨some 30, .load true 10 (.tmp 12), none⟩, ⟨some 31, .load true 2 (.tmp 13), none⟩, ⟨some 32, .load true 2 (.tmp 14), none⟩, ⟨some 33, .load true 2 (.tmp 15), none⟩, ⟨some 34, .build [.nil, .nil, .nil, .nil, .nil, .nil, .nil, .nil, .nil, .nil, .nil, .nil, .nil, .nil, .nil, .nil] [(0, (10, .tmp 30)), (10, (2, .tmp 31)), (12, (2, .tmp 32)), (14, (2, .tmp 33))], none⟩, ⟨some 35, .mv (.tmp 16), none⟩, ⟨none, .store 16 (.tmp 10) (.tmp 34), none⟩, ⟨some 11, .mv (.tmp 35), none⟩]) .ret)))⟩
theorem k_spull : cFn Tryz.prog Tryz.f43 = some c_spull := by kernel_rfl
theorem spull_ok (c : Co) (h : TinyCo c) : CallOK Tryz.prog 43 [c.B.v, c.D.v, c.C.v, c.F.v, c.G.v] (plT c) := by
  refine callOK_W (callS_W (by kernel_rfl) Tryz.func43 k_spull (callable_of Tryz.func43 (by kernel_rfl)) (by simp [c_spull]) ?_)
  simp [c_spull, dw0, dw1, dw2, dw3]
  first
  | refine callS_tree (pOf_ok c h) ?_ ?_ ?_
  | refine dCall_ok (pOf_ok c h) ?_ ?_ ?_
  · rfl
  · rfl
  simp [dw0, dw1, dw2, dw3, pbRt, plT, Co.cs]
  try rfl

def c_sLift : MFunc := ⟨139, [.cell 6 true 16, .tmp 7], .seq (.region [⟨some 3, .box 0 29 (.tmp 0), none⟩, ⟨some 4, .box 1 25 (.tmp 1), none⟩, ⟨some 5, .box 2 27 (.tmp 2), none⟩, ⟨some 6, .alloc 3 29 [.nil, .nil, .nil, .nil, .nil, .nil, .nil, .nil, .nil, .nil, .nil, .nil, .nil, .nil, .nil, .nil], none⟩, ⟨some 7, .mv (.c (.one (.t (.int .i64 0)))), none⟩]) (.seq (.seq (.region [⟨some 16, .load true 16 (.tmp 3), none⟩, ⟨some 17, .call (.c (.one (.fn 40 []))) 65 [.tmp 16], none⟩, ⟨some 8, .mv (.tmp 17), none⟩]) (.seq (.region [⟨some 18, .mv (.tmp 8), none⟩, ⟨some 19, .bin .neq (.tmp 18) (.c (.one (.t (.int .i64 0)))), none⟩]) (.cond (.tmp 19) (.seq (.region [⟨some 20, .build [.nil, .nil, .nil, .nil, .nil, .nil, .nil, .nil, .nil, .nil, .nil, .nil, .nil, .nil, .nil, .nil] [], none⟩, ⟨some 21, .mv (.tmp 8), none⟩, ⟨none, .store 16 (.tmp 6) (.tmp 20), none⟩, ⟨some 7, .mv (.tmp 21), none⟩]) .ret) .skip))) (.seq (.seq (.region [⟨some 22, .load true 2 (.tmp 4), none⟩, ⟨some 23, .fieldA 6 (.tmp 3), none⟩, ⟨some 24, .load true 2 (.tmp 23), none⟩, ⟨some 25, .load true 2 (.tmp 5), none⟩, ⟨some 26, .call (.c (.one (.fn 41 []))) 260 [.tmp 22, .tmp 24, .tmp 25], none⟩, ⟨some 9, .mv (.tmp 26), none⟩]) (.seq (.region [⟨some 27, .mv (.tmp 9), none⟩, ⟨some 28, .bin .neq (.tmp 27) (.c (.one (.t (.int .i64 0)))), none⟩]) (.cond (.tmp 28) (.seq (.region [⟨some 29, .build [.nil, .nil, .nil, .nil, .nil, .nil, .nil, .nil, .nil, .nil, .nil, .nil, .nil, .nil, .nil, .nil] [], none⟩, ⟨some 30, .mv (.tmp 9), none⟩, ⟨none, .store 16 (.tmp 6) (.tmp 29), none⟩, ⟨some 7, .mv (.tmp 30), none⟩]) .ret) .skip))) (.seq (.seq (.region [⟨some 31, .load true 16 (.tmp 3), none⟩, ⟨some 32, .call (.c (.one (.fn 42 []))) 449 [.tmp 31], none⟩, ⟨some 33, .not (.tmp 32), none⟩]) (.cond (.tmp 33) (.seq (.region [⟨some 34, .build [.nil, .nil, .nil, .nil, .nil, .nil, .nil, .nil, .nil, .nil, .nil, .nil, .nil, .nil, .nil, .nil] [], none⟩, ⟨none, .store 16 (.tmp 6) (.tmp 34), none⟩, ⟨some 7, .mv (.c (.one (.t (.int .i64 11)))), none⟩]) .ret) .skip)) (.seq (.region [⟨some 36, .fieldA 2 (.tmp 3), none⟩, ⟨some 37, .load true 2 (.tmp 36), none⟩, ⟨some 38, .fieldA 6 (.tmp 3), none⟩, ⟨some 39, .load true 2 (.tmp 38), none⟩, ⟨some 40, .load true 2 (.tmp 4), none⟩, ⟨some 41, .fieldA 12 (.tmp 3), none⟩, ⟨some 42, .load true 2 (.tmp 41), none⟩, ⟨some 43, .load true 2 (.tmp 5), none⟩, ⟨some 44, .call (.c (.one (.fn 43 []))) 584 [.tmp 37, .tmp 39, .tmp 40, .tmp 42, .tmp 43], none⟩, ⟨some 35, .mv (.tmp 44), none⟩, ⟨some 45, .extract (.tmp 35) 0, none⟩, ⟨some 46, .extract (.tmp 35) 1, none⟩, ⟨some 10, .alloc 588 82 [.nil, .nil, .nil, .nil, .nil, .nil, .nil, .nil, .nil, .nil, .nil, .nil, .nil, .nil, .nil, .nil], none⟩, ⟨none, .store 16 (.tmp 10) (.tmp 45), none⟩, ⟨some 11, .mv (.tmp 46), none⟩]) (.seq (.seq (.region [⟨some 47, .mv (.tmp 11), none⟩, ⟨some 48, .bin .neq (.tmp 47) (.c (.one (.t (.int .i64 0)))), none⟩]) (.cond (.tmp 48) (.seq (.region [⟨some 49, .build [.nil, .nil, .nil, .nil, .nil, .nil, .nil, .nil, .nil, .nil, .nil, .nil, .nil, .nil, .nil, .nil] [], none⟩, ⟨some 50, .mv (.tmp 11), none⟩, ⟨none, .store 16 (.tmp 6) (.tmp 49), none⟩, ⟨some 7, .mv (.tmp 50), none⟩]) .ret) .skip)) (.seq (.region [⟨some 52, .fieldA 4 (.tmp 3), none⟩, ⟨some 53, .load true 2 (.tmp 52), none⟩, ⟨some 54, .fieldA 6 (.tmp 3), none⟩, ⟨some 55, .load true 2 (.tmp 54), none⟩, ⟨some 56, .load true 2 (.tmp 4), none⟩, ⟨some 57, .fieldA 14 (.tmp 3), none⟩, ⟨some 58, .load true 2 (.tmp 57), none⟩, ⟨some 59, .load true 2 (.tmp 5), none⟩, ⟨some 60, .call (.c (.one (.fn 43 []))) 776 [.tmp 53, .tmp 55, .tmp 56, .tmp 58, .tmp 59], none⟩, ⟨some 51, .mv (.tmp 60), none⟩, ⟨some 61, .extract (.tmp 51) 0, none⟩, ⟨some 62, .extract (.tmp 51) 1, none⟩, ⟨some 12, .alloc 780 82 [.nil, .nil, .nil, .nil, .nil, .nil, .nil, .nil, .nil, .nil, .nil, .nil, .nil, .nil, .nil, .nil], none⟩, ⟨none, .store 16 (.tmp 12) (.tmp 61), none⟩, ⟨some 11, .mv (.tmp 62), none⟩]) (.seq (.seq (.region [⟨some 63, .mv (.tmp 11), none⟩, ⟨some 64, .bin .neq (.tmp 63) (.c (.one (.t (.int .i64 0)))), none⟩]) (.cond (.tmp 64) (.seq (.region [⟨some 65, .build [.nil, .nil, .nil, .nil, .nil, .nil, .nil, .nil, .nil, .nil, .nil, .nil, .nil, .nil, .nil, .nil] [], none⟩, ⟨some 66, .mv (.tmp 11), none⟩, ⟨none, .store 16 (.tmp 6) (.tmp 65), none⟩, ⟨some 7, .mv (.tmp 66), none⟩]) .ret) .skip)) (.seq (.draw [[], [0], [], [2], [], [], [5], [], [7], [6, 8], [], [1, 3, 4, 9, 10, 9], [11], [12], [12], [], [15, 13, 11, 0, 1, 2, 3, 4, 5, 6, 7, 8, 9, 10, 11, 12, 13, 15], [14, 16, 0, 1, 2, 3, 4, 5, 6, 7, 8, 9, 10, 11, 12, 13, 14, 15, 16]] [⟨some 68, .fieldA 0 (.tmp 3), none⟩, ⟨some 69, .load true 2 (.tmp 68), none⟩, ⟨some 70, .fieldA 6 (.tmp 3), none⟩, ⟨some 71, .load true 2 (.tmp 70), none⟩, ⟨some 72, .load true 2 (.tmp 4), none⟩, ⟨some 73, .fieldA 8 (.tmp 3), none⟩, ⟨some 74, .load true 2 (.tmp 73), none⟩, ⟨some 75, .fieldA 12 (.tmp 3), none⟩, ⟨some 76, .load true 2 (.tmp 75), none⟩, ⟨some 77, .call (.c (.one (.fn 44 []))) 969 [.tmp 74, .tmp 76], none⟩, ⟨some 78, .load true 2 (.tmp 5), none⟩, ⟨some 79, .call (.c (.one (.fn 43 []))) 971 [.tmp 69, .tmp 71, .tmp 72, .tmp 77, .tmp 78], none⟩, ⟨some 67, .mv (.tmp 79), none⟩, ⟨some 80, .extract (.tmp 67) 0, none⟩, ⟨some 81, .extract (.tmp 67) 1, none⟩, ⟨some 13, .alloc 975 82 [.nil, .nil, .nil, .nil, .nil, .nil, .nil, .nil, .nil, .nil, .nil, .nil, .nil, .nil, .nil, .nil], none⟩, ⟨none, .store 16 (.tmp 13) (.tmp 80), none⟩, ⟨some 11, .mv (.tmp 81), none⟩]) (.seq (.seq (.region [⟨some 82, .mv (.tmp 11), none⟩, ⟨some 83, .bin .neq (.tmp 82) (.c (.one (.t (.int .i64 0)))), none⟩]) (.cond (.tmp 83) (.seq (.region [⟨some 84, .build [.nil, .nil, .nil, .nil, .nil, .nil, .nil, .nil, .nil, .nil, .nil, .nil, .nil, .nil, .nil, .nil] [], none⟩, ⟨some 85, .mv (.tmp 11), none⟩, ⟨none, .store 16 (.tmp 6) (.tmp 84), none⟩, ⟨some 7, .mv (.tmp 85), none⟩]) .ret) .skip)) (.seq (.draw [[], [0], [], [2], [], [4], [], [6], [5, 7], [], [9], [1, 3, 8, 10, 8], [11], [12], [12], [], [15, 13, 11, 0, 1, 2, 3, 4, 5, 6, 7, 8, 9, 10, 11, 12, 13, 15], [14, 16, 0, 1, 2, 3, 4, 5, 6, 7, 8, 9, 10, 11, 12, 13, 14, 15, 16]] [⟨some 87, .fieldA 0 (.tmp 10), none⟩, ⟨some 88, .load true 10 (.tmp 87), none⟩, ⟨some 89, .fieldA 10 (.tmp 13), none⟩, ⟨some 90, .load true 2 (.tmp 89), none⟩, ⟨some 91, .fieldA 12 (.tmp 13), none⟩, ⟨some 92, .load true 2 (.tmp 91), none⟩, ⟨some 93, .fieldA 8 (.tmp 3), none⟩, ⟨some 94, .load true 2 (.tmp 93), none⟩, ⟨some 95, .call (.c (.one (.fn 44 []))) 1160 [.tmp 92, .tmp 94], none⟩, ⟨some 96, .fieldA 14 (.tmp 13), none⟩, ⟨some 97, .load true 2 (.tmp 96), none⟩, ⟨some 98, .call (.c (.one (.fn 45 []))) 1163 [.tmp 88, .tmp 90, .tmp 95, .tmp 97], none⟩, ⟨some 86, .mv (.tmp 98), none⟩, ⟨some 99, .extract (.tmp 86) 0, none⟩, ⟨some 100, .extract (.tmp 86) 1, none⟩, ⟨some 14, .alloc 1167 27 [.nil, .nil], none⟩, ⟨none, .store 2 (.tmp 14) (.tmp 99), none⟩, ⟨some 11, .mv (.tmp 100), none⟩]) (.seq (.seq (.region [⟨some 101, .mv (.tmp 11), none⟩, ⟨some 102, .bin .neq (.tmp 101) (.c (.one (.t (.int .i64 0)))), none⟩]) (.cond (.tmp 102) (.seq (.region [⟨some 103, .build [.nil, .nil, .nil, .nil, .nil, .nil, .nil, .nil, .nil, .nil, .nil, .nil, .nil, .nil, .nil, .nil] [], none⟩, ⟨some 104, .mv (.tmp 11), none⟩, ⟨none, .store 16 (.tmp 6) (.tmp 103), none⟩, ⟨some 7, .mv (.tmp 104), none⟩]) .ret) .skip)) (.seq (.draw [[], [0], [], [2], [], [4], [], [6], [5, 7], [], [9], [1, 3, 8, 10, 8], [11], [12], [12], [], [15, 13, 11, 0, 1, 2, 3, 4, 5, 6, 7, 8, 9, 10, 11, 12, 13, 15], [14, 16, 0, 1, 2, 3, 4, 5, 6, 7, 8, 9, 10, 11, 12, 13, 14, 15, 16]] [⟨some 106, .fieldA 0 (.tmp 12), none⟩, ⟨some 107, .load true 10 (.tmp 106), none⟩, ⟨some 108, .fieldA 10 (.tmp 13), none⟩, ⟨some 109, .load true 2 (.tmp 108), none⟩, ⟨some 110, .fieldA 12 (.tmp 13), none⟩, ⟨some 111, .load true 2 (.tmp 110), none⟩, ⟨some 112, .fieldA 10 (.tmp 3), none⟩, ⟨some 113, .load true 2 (.tmp 112), none⟩, ⟨some 114, .call (.c (.one (.fn 44 []))) 1352 [.tmp 111, .tmp 113], none⟩, ⟨some 115, .fieldA 14 (.tmp 13), none⟩, ⟨some 116, .load true 2 (.tmp 115), none⟩, ⟨some 117, .call (.c (.one (.fn 45 []))) 1355 [.tmp 107, .tmp 109, .tmp 114, .tmp 116], none⟩, ⟨some 105, .mv (.tmp 117), none⟩, ⟨some 118, .extract (.tmp 105) 0, none⟩, ⟨some 119, .extract (.tmp 105) 1, none⟩, ⟨some 15, .alloc 1359 27 [.nil, .nil], none⟩, ⟨none, .store 2 (.tmp 15) (.tmp 118), none⟩, ⟨some 11, .mv (.tmp 119), none⟩]) (.seq (.seq (.region [⟨some 120, .mv (.tmp 11), none⟩, ⟨some 121, .bin .neq (.tmp 120) (.c (.one (.t (.int .i64 0)))), none⟩]) (.cond (.tmp 121) (.seq (.region [⟨some 122, .build [.nil, .nil, .nil, .nil, .nil, .nil, .nil, .nil, .nil, .nil, .nil, .nil, .nil, .nil, .nil, .nil] [], none⟩, ⟨some 123, .mv (.tmp 11), none⟩, ⟨none, .store 16 (.tmp 6) (.tmp 122), none⟩, ⟨some 7, .mv (.tmp 123), none⟩]) .ret) .skip)) (.seq (.draw [[], [0], [], [2], [], [4], [], [6], [], [], [], [10], [], [12], [1, 3, 5, 7, 8, 9, 11, 13], [14, 7, 0, 1, 2, 3, 4, 5, 6, 7, 8, 9, 10, 11, 12, 13, 14], [15, 0, 1, 2, 3, 4, 5, 6, 7, 8, 9, 10, 11, 12, 13, 14, 15]] [⟨some 124, .fieldA 10 (.tmp 13), none⟩, ⟨some 125, .load true 2 (.tmp 124), none⟩, ⟨some 126, .fieldA 10 (.tmp 10), none⟩, ⟨some 127, .load true 2 (.tmp 126), none⟩, ⟨some 128, .fieldA 10 (.tmp 12), none⟩, ⟨some 129, .load true 2 (.tmp 128), none⟩, ⟨some 130, .load true 2 (.tmp 4), none⟩, ⟨some 131, .call (.c (.one (.fn 46 []))) 1543 [.tmp 130], none⟩, ⟨some 132, .load true 2 (.tmp 14), none⟩, ⟨some 133, .load true 2 (.tmp 15), none⟩, ⟨some 134, .fieldA 14 (.tmp 10), none⟩, ⟨some 135, .load true 2 (.tmp 134), none⟩, ⟨some 136, .fieldA 14 (.tmp 12), none⟩, ⟨some 137, .load true 2 (.tmp 136), none⟩, ⟨some 138, .build [.nil, .nil, .nil, .nil, .nil, .nil, .nil, .nil, .nil, .nil, .nil, .nil, .nil, .nil, .nil, .nil] [(0, (2, .tmp 125)), (2, (2, .tmp 127)), (4, (2, .tmp 129)), (6, (2, .tmp 131)), (8, (2, .tmp 132)), (10, (2, .tmp 133)), (12, (2, .tmp 135)), (14, (2, .tmp 137))], none⟩, ⟨none, .store 16 (.tmp 6) (.tmp 138), none⟩, ⟨some 7, .mv (.c (.one (.t (.int .i64 0)))), none⟩]) .ret))))))))))))))⟩
theorem k_sLift : cFn Tryz.prog Tryz.f15 = some c_sLift := by kernel_rfl
set_option maxHeartbeats 4000000 in
theorem sLift_ok (s : Sq) (x : Gr) (m : Pa) (h : TinySq s) (tx : tinyG x) (tm : tinyP m) : CallOK Tryz.prog 15 [s.v, x.v, m.v] (sqT (lfR s x m)) := by
  refine callOK_W (callS_W (by kernel_rfl) Tryz.func15 k_sLift (callable_of Tryz.func15 (by kernel_rfl)) (by simp [c_sLift]) ?_)
  simp [c_sLift, Sq.v, Sq.cs]
  refine callS_tree (svalidS_ok s h) ?_ ?_ ?_
  · rfl
  · rfl
  by_cases h1 : sqErr s = 0
  case neg =>
    have e : lfR s x m = (noS, sqErr s) := by simp [lfR, lfE, h1]
    simp [h1, sqT, e, noS, Sq.v, Sq.cs, edL]
  simp [h1]
  refine callS_tree (mvalid_ok x s.D m tx h.D tm) ?_ ?_ ?_
  · rfl
  · rfl
  by_cases h2 : morErr x s.D m = 0
  case neg =>
    have e : lfR s x m = (noS, morErr x s.D m) := by simp [lfR, lfE, h1, h2]
    simp [h2, sqT, e, noS, Sq.v, Sq.cs, edL]
  simp [h2]
  have ok := sqErr_ok h1
  refine callS_tree (scomm_ok s h ok) ?_ ?_ ?_
  · rfl
  · rfl
  cases h3 : commB s
  · have e : lfR s x m = (noS, 11) := by simp [lfR, lfE, h1, h2, h3]
    simp [sqT, e, noS, Sq.v, Sq.cs, edL]
  simp
  refine callS_tree (spull_ok (cornB s x m) ⟨h.B, tx, h.D, h.H, tm⟩) ?_ ?_ ?_
  · rfl
  · rfl
  by_cases h4 : pbErr (cornB s x m) = 0
  case neg =>
    have e : lfR s x m = (noS, pbErr (cornB s x m)) := by simp [lfR, lfE, h1, h2, h3, h4]
    simp [plT, pbR_no h4, h4, sqT, e, noS, Sq.v, Sq.cs, edL, Co.cs]
  simp [plT, pbR_ok h4, Co.cs]
  refine callS_tree (spull_ok (cornC s x m) ⟨h.C, tx, h.D, h.K, tm⟩) ?_ ?_ ?_
  · rfl
  · rfl
  by_cases h5 : pbErr (cornC s x m) = 0
  case neg =>
    have e : lfR s x m = (noS, pbErr (cornC s x m)) := by simp [lfR, lfE, h1, h2, h3, h4, h5]
    simp [plT, pbR_no h5, h5, sqT, e, noS, Sq.v, Sq.cs, edL, Co.cs]
  simp [dw0, dw1, dw2, dw3, plT, pbR_ok h5, Co.cs]
  first
  | refine callS_tree (sthen_ok s.F s.H h.F (ok.F.fits ok.H)) ?_ ?_ ?_
  | refine dCall_ok (sthen_ok s.F s.H h.F (ok.F.fits ok.H)) ?_ ?_ ?_
  · rfl
  · rfl
  simp [dw0, dw1, dw2, dw3]
  refine dCall_ok (spull_ok (cornA s x m) ⟨h.A, tx, h.D, thenP_tiny h.F, tm⟩) ?_ ?_ ?_
  · rfl
  · rfl
  by_cases h6 : pbErr (cornA s x m) = 0
  case neg =>
    have e : lfR s x m = (noS, pbErr (cornA s x m)) := by simp [lfR, lfE, h1, h2, h3, h4, h5, h6]
    simp [dw0, dw1, dw2, dw3, plT, pbR_no h6, h6, sqT, e, noS, Sq.v, Sq.cs, edL, Co.cs]
    try rfl
  have okA := (pbErr_few h6).1
  have tA : tinyG (pbG (cornA s x m)) := pbG_tiny h6
  have tD := pbDn_tiny h6
  have tU := pbUp_tiny h6
  simp [dw0, dw1, dw2, dw3, plT, pbR_ok h6, Co.cs]
  refine ⟨rfl, ?_⟩
  refine dCall_ok (sthen_ok (pbDn (cornA s x m)) s.F tD (fits_dn okA ok.F)) ?_ ?_ ?_
  · rfl
  · rfl
  simp [dw0, dw1, dw2, dw3]
  refine dCall_ok (pMed_ok (cornB s x m) (pbG (cornA s x m)) (lfF s x m) (lfU s x m) ⟨h.B, tx, h.D, h.H, tm⟩ tA (thenP_tiny tD) tU) ?_ ?_ ?_
  · rfl
  · rfl
  by_cases h7 : medE (cornB s x m) (pbG (cornA s x m)) (lfF s x m) (lfU s x m) = 0
  case neg =>
    have e : lfR s x m = (noS, medE (cornB s x m) (pbG (cornA s x m)) (lfF s x m) (lfU s x m)) := by simp [lfR, lfE, h1, h2, h3, h4, h5, h6, h7]
    simp [dw0, dw1, dw2, dw3, medT, medR_no h7, h7, sqT, e, noS, Sq.v, Sq.cs, edL, Co.cs]
    try rfl
  simp [dw0, dw1, dw2, dw3, medT, medR_ok h7]
  refine ⟨rfl, ?_⟩
  refine dCall_ok (sthen_ok (pbDn (cornA s x m)) s.G tD (fits_dn okA ok.G)) ?_ ?_ ?_
  · rfl
  · rfl
  simp [dw0, dw1, dw2, dw3]
  refine dCall_ok (pMed_ok (cornC s x m) (pbG (cornA s x m)) (lfG s x m) (lfU s x m) ⟨h.C, tx, h.D, h.K, tm⟩ tA (thenP_tiny tD) tU) ?_ ?_ ?_
  · rfl
  · rfl
  by_cases h8 : medE (cornC s x m) (pbG (cornA s x m)) (lfG s x m) (lfU s x m) = 0
  case neg =>
    have e : lfR s x m = (noS, medE (cornC s x m) (pbG (cornA s x m)) (lfG s x m) (lfU s x m)) := by simp [lfR, lfE, h1, h2, h3, h4, h5, h6, h7, h8]
    simp [dw0, dw1, dw2, dw3, medT, medR_no h8, h8, sqT, e, noS, Sq.v, Sq.cs, edL, Co.cs]
    try rfl
  have e : lfR s x m = (lfS s x m, 0) := by simp [lfR, lfE, h1, h2, h3, h4, h5, h6, h7, h8]
  simp [dw0, dw1, dw2, dw3, medT, medR_ok h8]
  refine ⟨rfl, ?_⟩
  first
  | refine dCall_ok (scopied_ok x tx) ?_ ?_ ?_
  | refine callS_tree (scopied_ok x tx) ?_ ?_ ?_
  · rfl
  · rfl
  simp [dw0, dw1, dw2, dw3, sqT, e, lfS, Sq.v, Sq.cs]
  try rfl

def c_rLift : MFunc := ⟨145, [.cell 6 true 16, .tmp 7], .seq (.region [⟨some 3, .box 0 29 (.tmp 0), none⟩, ⟨some 4, .box 1 25 (.tmp 1), none⟩, ⟨some 5, .box 2 27 (.tmp 2), none⟩, ⟨some 6, .alloc 3 29 [.nil, .nil, .nil, .nil, .nil, .nil, .nil, .nil, .nil, .nil, .nil, .nil, .nil, .nil, .nil, .nil], none⟩, ⟨some 7, .mv (.c (.one (.t (.int .i64 0)))), none⟩]) (.seq (.seq (.region [⟨some 24, .load true 16 (.tmp 3), none⟩, ⟨some 25, .call (.c (.one (.fn 47 []))) 65 [.tmp 24], none⟩, ⟨some 8, .mv (.tmp 25), none⟩]) (.seq (.region [⟨some 26, .mv (.tmp 8), none⟩, ⟨some 27, .bin .neq (.tmp 26) (.c (.one (.t (.int .i64 0)))), none⟩]) (.cond (.tmp 27) (.seq (.region [⟨some 28, .build [.nil, .nil, .nil, .nil, .nil, .nil, .nil, .nil, .nil, .nil, .nil, .nil, .nil, .nil, .nil, .nil] [], none⟩, ⟨some 29, .mv (.tmp 8), none⟩, ⟨none, .store 16 (.tmp 6) (.tmp 28), none⟩, ⟨some 7, .mv (.tmp 29), none⟩]) .ret) .skip))) (.seq (.seq (.region [⟨some 30, .load true 2 (.tmp 4), none⟩, ⟨some 31, .fieldA 6 (.tmp 3), none⟩, ⟨some 32, .load true 2 (.tmp 31), none⟩, ⟨some 33, .load true 2 (.tmp 5), none⟩, ⟨some 34, .call (.c (.one (.fn 48 []))) 260 [.tmp 30, .tmp 32, .tmp 33], none⟩, ⟨some 9, .mv (.tmp 34), none⟩]) (.seq (.region [⟨some 35, .mv (.tmp 9), none⟩, ⟨some 36, .bin .neq (.tmp 35) (.c (.one (.t (.int .i64 0)))), none⟩]) (.cond (.tmp 36) (.seq (.region [⟨some 37, .build [.nil, .nil, .nil, .nil, .nil, .nil, .nil, .nil, .nil, .nil, .nil, .nil, .nil, .nil, .nil, .nil] [], none⟩, ⟨some 38, .mv (.tmp 9), none⟩, ⟨none, .store 16 (.tmp 6) (.tmp 37), none⟩, ⟨some 7, .mv (.tmp 38), none⟩]) .ret) .skip))) (.seq (.seq (.region [⟨some 39, .load true 16 (.tmp 3), none⟩, ⟨some 40, .call (.c (.one (.fn 49 []))) 449 [.tmp 39], none⟩, ⟨some 41, .not (.tmp 40), none⟩]) (.cond (.tmp 41) (.seq (.region [⟨some 42, .build [.nil, .nil, .nil, .nil, .nil, .nil, .nil, .nil, .nil, .nil, .nil, .nil, .nil, .nil, .nil, .nil] [], none⟩, ⟨none, .store 16 (.tmp 6) (.tmp 42), none⟩, ⟨some 7, .mv (.c (.one (.t (.int .i64 11)))), none⟩]) .ret) .skip)) (.seq (.region [⟨some 43, .fieldA 2 (.tmp 3), none⟩, ⟨some 44, .load true 2 (.tmp 43), none⟩, ⟨some 45, .load true 2 (.tmp 4), none⟩, ⟨some 46, .fieldA 6 (.tmp 3), none⟩, ⟨some 47, .load true 2 (.tmp 46), none⟩, ⟨some 48, .fieldA 12 (.tmp 3), none⟩, ⟨some 49, .load true 2 (.tmp 48), none⟩, ⟨some 50, .load true 2 (.tmp 5), none⟩, ⟨some 51, .build [.nil, .nil, .nil, .nil, .nil, .nil, .nil, .nil, .nil, .nil] [(0, (2, .tmp 44)), (2, (2, .tmp 45)), (4, (2, .tmp 47)), (6, (2, .tmp 49)), (8, (2, .tmp 50))], none⟩, ⟨some 10, .alloc 585 80 [.nil, .nil, .nil, .nil, .nil, .nil, .nil, .nil, .nil, .nil], none⟩, ⟨none, .store 10 (.tmp 10) (.tmp 51), none⟩]) (.seq (.region [⟨some 53, .load true 10 (.tmp 10), none⟩, ⟨some 54, .call (.c (.one (.fn 50 []))) 641 [.tmp 53], none⟩, ⟨some 52, .mv (.tmp 54), none⟩, ⟨some 55, .extract (.tmp 52) 0, none⟩, ⟨some 56, .extract (.tmp 52) 1, none⟩, ⟨some 57, .extract (.tmp 52) 2, none⟩, ⟨some 58, .extract (.tmp 52) 3, none⟩, ⟨some 11, .alloc 647 25 [.nil, .nil], none⟩, ⟨some 12, .alloc 648 27 [.nil, .nil], none⟩, ⟨some 13, .alloc 649 27 [.nil, .nil], none⟩, ⟨none, .store 2 (.tmp 11) (.tmp 55), none⟩, ⟨none, .store 2 (.tmp 12) (.tmp 56), none⟩, ⟨none, .store 2 (.tmp 13) (.tmp 57), none⟩, ⟨some 14, .mv (.tmp 58), none⟩]) (.seq (.seq (.region [⟨some 59, .mv (.tmp 14), none⟩, ⟨some 60, .bin .neq (.tmp 59) (.c (.one (.t (.int .i64 0)))), none⟩]) (.cond (.tmp 60) (.seq (.region [⟨some 61, .build [.nil, .nil, .nil, .nil, .nil, .nil, .nil, .nil, .nil, .nil, .nil, .nil, .nil, .nil, .nil, .nil] [], none⟩, ⟨some 62, .mv (.tmp 14), none⟩, ⟨none, .store 16 (.tmp 6) (.tmp 61), none⟩, ⟨some 7, .mv (.tmp 62), none⟩]) .ret) .skip)) (.seq (.region [⟨some 63, .fieldA 4 (.tmp 3), none⟩, ⟨some 64, .load true 2 (.tmp 63), none⟩, ⟨some 65, .load true 2 (.tmp 4), none⟩, ⟨some 66, .fieldA 6 (.tmp 3), none⟩, ⟨some 67, .load true 2 (.tmp 66), none⟩, ⟨some 68, .fieldA 14 (.tmp 3), none⟩, ⟨some 69, .load true 2 (.tmp 68), none⟩, ⟨some 70, .load true 2 (.tmp 5), none⟩, ⟨some 71, .build [.nil, .nil, .nil, .nil, .nil, .nil, .nil, .nil, .nil, .nil] [(0, (2, .tmp 64)), (2, (2, .tmp 65)), (4, (2, .tmp 67)), (6, (2, .tmp 69)), (8, (2, .tmp 70))], none⟩, ⟨some 15, .alloc 841 80 [.nil, .nil, .nil, .nil, .nil, .nil, .nil, .nil, .nil, .nil], none⟩, ⟨none, .store 10 (.tmp 15) (.tmp 71), none⟩]) (.seq (.region [⟨some 73, .load true 10 (.tmp 15), none⟩, ⟨some 74, .call (.c (.one (.fn 50 []))) 897 [.tmp 73], none⟩, ⟨some 72, .mv (.tmp 74), none⟩, ⟨some 75, .extract (.tmp 72) 0, none⟩, ⟨some 76, .extract (.tmp 72) 1, none⟩, ⟨some 77, .extract (.tmp 72) 2, none⟩, ⟨some 78, .extract (.tmp 72) 3, none⟩, ⟨some 16, .alloc 903 25 [.nil, .nil], none⟩, ⟨some 17, .alloc 904 27 [.nil, .nil], none⟩, ⟨some 18, .alloc 905 27 [.nil, .nil], none⟩, ⟨none, .store 2 (.tmp 16) (.tmp 75), none⟩, ⟨none, .store 2 (.tmp 17) (.tmp 76), none⟩, ⟨none, .store 2 (.tmp 18) (.tmp 77), none⟩, ⟨some 14, .mv (.tmp 78), none⟩]) (.seq (.seq (.region [⟨some 79, .mv (.tmp 14), none⟩, ⟨some 80, .bin .neq (.tmp 79) (.c (.one (.t (.int .i64 0)))), none⟩]) (.cond (.tmp 80) (.seq (.region [⟨some 81, .build [.nil, .nil, .nil, .nil, .nil, .nil, .nil, .nil, .nil, .nil, .nil, .nil, .nil, .nil, .nil, .nil] [], none⟩, ⟨some 82, .mv (.tmp 14), none⟩, ⟨none, .store 16 (.tmp 6) (.tmp 81), none⟩, ⟨some 7, .mv (.tmp 82), none⟩]) .ret) .skip)) (.seq (.draw [[], [0], [], [], [3], [], [5], [], [7], [6, 8], [], [1, 2, 4, 9, 10], [11, 9], [12], [13], [13], [13], [13], [], [], [], [18, 14, 12, 0, 1, 2, 3, 4, 5, 6, 7, 8, 9, 10, 11, 12, 13, 14, 18, 19, 20], [19, 15, 21, 0, 1, 2, 3, 4, 5, 6, 7, 8, 9, 10, 11, 12, 13, 14, 15, 18, 19, 20, 21], [20, 16, 22, 0, 1, 2, 3, 4, 5, 6, 7, 8, 9, 10, 11, 12, 13, 14, 15, 16, 18, 19, 20, 21, 22], [17, 23, 0, 1, 2, 3, 4, 5, 6, 7, 8, 9, 10, 11, 12, 13, 14, 15, 16, 17, 18, 19, 20, 21, 22, 23]] [⟨some 84, .fieldA 0 (.tmp 3), none⟩, ⟨some 85, .load true 2 (.tmp 84), none⟩, ⟨some 86, .load true 2 (.tmp 4), none⟩, ⟨some 87, .fieldA 6 (.tmp 3), none⟩, ⟨some 88, .load true 2 (.tmp 87), none⟩, ⟨some 89, .fieldA 8 (.tmp 3), none⟩, ⟨some 90, .load true 2 (.tmp 89), none⟩, ⟨some 91, .fieldA 12 (.tmp 3), none⟩, ⟨some 92, .load true 2 (.tmp 91), none⟩, ⟨some 93, .call (.c (.one (.fn 39 []))) 1097 [.tmp 90, .tmp 92], none⟩, ⟨some 94, .load true 2 (.tmp 5), none⟩, ⟨some 95, .build [.nil, .nil, .nil, .nil, .nil, .nil, .nil, .nil, .nil, .nil] [(0, (2, .tmp 85)), (2, (2, .tmp 86)), (4, (2, .tmp 88)), (6, (2, .tmp 93)), (8, (2, .tmp 94))], none⟩, ⟨some 96, .call (.c (.one (.fn 50 []))) 1100 [.tmp 95], none⟩, ⟨some 83, .mv (.tmp 96), none⟩, ⟨some 97, .extract (.tmp 83) 0, none⟩, ⟨some 98, .extract (.tmp 83) 1, none⟩, ⟨some 99, .extract (.tmp 83) 2, none⟩, ⟨some 100, .extract (.tmp 83) 3, none⟩, ⟨some 19, .alloc 1106 25 [.nil, .nil], none⟩, ⟨some 20, .alloc 1107 27 [.nil, .nil], none⟩, ⟨some 21, .alloc 1108 27 [.nil, .nil], none⟩, ⟨none, .store 2 (.tmp 19) (.tmp 97), none⟩, ⟨none, .store 2 (.tmp 20) (.tmp 98), none⟩, ⟨none, .store 2 (.tmp 21) (.tmp 99), none⟩, ⟨some 14, .mv (.tmp 100), none⟩]) (.seq (.seq (.region [⟨some 101, .mv (.tmp 14), none⟩, ⟨some 102, .bin .neq (.tmp 101) (.c (.one (.t (.int .i64 0)))), none⟩]) (.cond (.tmp 102) (.seq (.region [⟨some 103, .build [.nil, .nil, .nil, .nil, .nil, .nil, .nil, .nil, .nil, .nil, .nil, .nil, .nil, .nil, .nil, .nil] [], none⟩, ⟨some 104, .mv (.tmp 14), none⟩, ⟨none, .store 16 (.tmp 6) (.tmp 103), none⟩, ⟨some 7, .mv (.tmp 104), none⟩]) .ret) .skip)) (.seq (.draw [[], [], [], [], [3], [2, 4], [], [0, 1, 5, 6, 5], [7], [8], [8], [], [11, 9, 7, 0, 1, 2, 3, 4, 5, 6, 7, 8, 9, 11], [10, 12, 0, 1, 2, 3, 4, 5, 6, 7, 8, 9, 10, 11, 12]] [⟨some 106, .load true 10 (.tmp 10), none⟩, ⟨some 107, .load true 2 (.tmp 19), none⟩, ⟨some 108, .load true 2 (.tmp 20), none⟩, ⟨some 109, .fieldA 8 (.tmp 3), none⟩, ⟨some 110, .load true 2 (.tmp 109), none⟩, ⟨some 111, .call (.c (.one (.fn 39 []))) 1285 [.tmp 108, .tmp 110], none⟩, ⟨some 112, .load true 2 (.tmp 21), none⟩, ⟨some 113, .call (.c (.one (.fn 51 []))) 1287 [.tmp 106, .tmp 107, .tmp 111, .tmp 112], none⟩, ⟨some 105, .mv (.tmp 113), none⟩, ⟨some 114, .extract (.tmp 105) 0, none⟩, ⟨some 115, .extract (.tmp 105) 1, none⟩, ⟨some 22, .alloc 1291 27 [.nil, .nil], none⟩, ⟨none, .store 2 (.tmp 22) (.tmp 114), none⟩, ⟨some 14, .mv (.tmp 115), none⟩]) (.seq (.seq (.region [⟨some 116, .mv (.tmp 14), none⟩, ⟨some 117, .bin .neq (.tmp 116) (.c (.one (.t (.int .i64 0)))), none⟩]) (.cond (.tmp 117) (.seq (.region [⟨some 118, .build [.nil, .nil, .nil, .nil, .nil, .nil, .nil, .nil, .nil, .nil, .nil, .nil, .nil, .nil, .nil, .nil] [], none⟩, ⟨some 119, .mv (.tmp 14), none⟩, ⟨none, .store 16 (.tmp 6) (.tmp 118), none⟩, ⟨some 7, .mv (.tmp 119), none⟩]) .ret) .skip)) (.seq (.draw [[], [], [], [], [3], [2, 4], [], [0, 1, 5, 6, 5], [7], [8], [8], [], [11, 9, 7, 0, 1, 2, 3, 4, 5, 6, 7, 8, 9, 11], [10, 12, 0, 1, 2, 3, 4, 5, 6, 7, 8, 9, 10, 11, 12]] [⟨some 121, .load true 10 (.tmp 15), none⟩, ⟨some 122, .load true 2 (.tmp 19), none⟩, ⟨some 123, .load true 2 (.tmp 20), none⟩, ⟨some 124, .fieldA 10 (.tmp 3), none⟩, ⟨some 125, .load true 2 (.tmp 124), none⟩, ⟨some 126, .call (.c (.one (.fn 39 []))) 1477 [.tmp 123, .tmp 125], none⟩, ⟨some 127, .load true 2 (.tmp 21), none⟩, ⟨some 128, .call (.c (.one (.fn 51 []))) 1479 [.tmp 121, .tmp 122, .tmp 126, .tmp 127], none⟩, ⟨some 120, .mv (.tmp 128), none⟩, ⟨some 129, .extract (.tmp 120) 0, none⟩, ⟨some 130, .extract (.tmp 120) 1, none⟩, ⟨some 23, .alloc 1483 27 [.nil, .nil], none⟩, ⟨none, .store 2 (.tmp 23) (.tmp 129), none⟩, ⟨some 14, .mv (.tmp 130), none⟩]) (.seq (.seq (.region [⟨some 131, .mv (.tmp 14), none⟩, ⟨some 132, .bin .neq (.tmp 131) (.c (.one (.t (.int .i64 0)))), none⟩]) (.cond (.tmp 132) (.seq (.region [⟨some 133, .build [.nil, .nil, .nil, .nil, .nil, .nil, .nil, .nil, .nil, .nil, .nil, .nil, .nil, .nil, .nil, .nil] [], none⟩, ⟨some 134, .mv (.tmp 14), none⟩, ⟨none, .store 16 (.tmp 6) (.tmp 133), none⟩, ⟨some 7, .mv (.tmp 134), none⟩]) .ret) .skip)) (.seq (.draw [[], [], [], [], [3], [], [], [], [], [0, 1, 2, 4, 5, 6, 7, 8], [9, 4, 0, 1, 2, 3, 4, 5, 6, 7, 8, 9], [10, 0, 1, 2, 3, 4, 5, 6, 7, 8, 9, 10]] [⟨some 135, .load true 2 (.tmp 19), none⟩, ⟨some 136, .load true 2 (.tmp 11), none⟩, ⟨some 137, .load true 2 (.tmp 16), none⟩, ⟨some 138, .load true 2 (.tmp 4), none⟩, ⟨some 139, .call (.c (.one (.fn 52 []))) 1668 [.tmp 138], none⟩, ⟨some 140, .load true 2 (.tmp 22), none⟩, ⟨some 141, .load true 2 (.tmp 23), none⟩, ⟨some 142, .load true 2 (.tmp 13), none⟩, ⟨some 143, .load true 2 (.tmp 18), none⟩, ⟨some 144, .build [.nil, .nil, .nil, .nil, .nil, .nil, .nil, .nil, .nil, .nil, .nil, .nil, .nil, .nil, .nil, .nil] [(0, (2, .tmp 135)), (2, (2, .tmp 136)), (4, (2, .tmp 137)), (6, (2, .tmp 139)), (8, (2, .tmp 140)), (10, (2, .tmp 141)), (12, (2, .tmp 142)), (14, (2, .tmp 143))], none⟩, ⟨none, .store 16 (.tmp 6) (.tmp 144), none⟩, ⟨some 7, .mv (.c (.one (.t (.int .i64 0)))), none⟩]) .ret))))))))))))))))⟩
theorem k_rLift : cFn Tryz.prog Tryz.f16 = some c_rLift := by kernel_rfl
set_option maxHeartbeats 4000000 in
theorem rLift_ok (s : Sq) (x : Gr) (m : Pa) (h : TinySq s) (tx : tinyG x) (tm : tinyP m) : CallOK Tryz.prog 16 [s.v, x.v, m.v] (sqT (lfR s x m)) := by
  refine callOK_W (callS_W (by kernel_rfl) Tryz.func16 k_rLift (callable_of Tryz.func16 (by kernel_rfl)) (by simp [c_rLift]) ?_)
  simp [c_rLift, Sq.v, Sq.cs]
  refine callS_tree (rvalidS_ok s h) ?_ ?_ ?_
  · rfl
  · rfl
  by_cases h1 : sqErr s = 0
  case neg =>
    have e : lfR s x m = (noS, sqErr s) := by simp [lfR, lfE, h1]
    simp [h1, sqT, e, noS, Sq.v, Sq.cs, edL]
  simp [h1]
  refine callS_tree (rvalid6_ok x s.D m tx h.D tm) ?_ ?_ ?_
  · rfl
  · rfl
  by_cases h2 : morErr x s.D m = 0
  case neg =>
    have e : lfR s x m = (noS, morErr x s.D m) := by simp [lfR, lfE, h1, h2]
    simp [h2, sqT, e, noS, Sq.v, Sq.cs, edL]
  simp [h2]
  have ok := sqErr_ok h1
  refine callS_tree (rcomm_ok s h ok) ?_ ?_ ?_
  · rfl
  · rfl
  cases h3 : commB s
  · have e : lfR s x m = (noS, 11) := by simp [lfR, lfE, h1, h2, h3]
    simp [sqT, e, noS, Sq.v, Sq.cs, edL]
  simp
  refine callS_tree (rOf_ok (cornB s x m) ⟨h.B, tx, h.D, h.H, tm⟩) ?_ ?_ ?_
  · rfl
  · rfl
  by_cases h4 : pbErr (cornB s x m) = 0
  case neg =>
    have e : lfR s x m = (noS, pbErr (cornB s x m)) := by simp [lfR, lfE, h1, h2, h3, h4]
    simp [pbRt, pbR_no h4, h4, sqT, e, noS, Sq.v, Sq.cs, edL, Co.cs]
  simp [pbRt, pbR_ok h4, Co.cs]
  refine callS_tree (rOf_ok (cornC s x m) ⟨h.C, tx, h.D, h.K, tm⟩) ?_ ?_ ?_
  · rfl
  · rfl
  by_cases h5 : pbErr (cornC s x m) = 0
  case neg =>
    have e : lfR s x m = (noS, pbErr (cornC s x m)) := by simp [lfR, lfE, h1, h2, h3, h4, h5]
    simp [pbRt, pbR_no h5, h5, sqT, e, noS, Sq.v, Sq.cs, edL, Co.cs]
  simp [dw0, dw1, dw2, dw3, pbRt, pbR_ok h5, Co.cs]
  first
  | refine callS_tree (then6_ok s.F s.H h.F (ok.F.fits ok.H)) ?_ ?_ ?_
  | refine dCall_ok (then6_ok s.F s.H h.F (ok.F.fits ok.H)) ?_ ?_ ?_
  · rfl
  · rfl
  simp [dw0, dw1, dw2, dw3]
  first
  | refine callS_tree (rOf_ok (cornA s x m) ⟨h.A, tx, h.D, thenP_tiny h.F, tm⟩) ?_ ?_ ?_
  | refine dCall_ok (rOf_ok (cornA s x m) ⟨h.A, tx, h.D, thenP_tiny h.F, tm⟩) ?_ ?_ ?_
  · rfl
  · rfl
  by_cases h6 : pbErr (cornA s x m) = 0
  case neg =>
    have e : lfR s x m = (noS, pbErr (cornA s x m)) := by simp [lfR, lfE, h1, h2, h3, h4, h5, h6]
    simp [dw0, dw1, dw2, dw3, pbRt, pbR_no h6, h6, sqT, e, noS, Sq.v, Sq.cs, edL, Co.cs]
    try rfl
  have okA := (pbErr_few h6).1
  have tA : tinyG (pbG (cornA s x m)) := pbG_tiny h6
  have tD := pbDn_tiny h6
  have tU := pbUp_tiny h6
  simp [dw0, dw1, dw2, dw3, pbRt, pbR_ok h6, Co.cs]
  refine ⟨rfl, ?_⟩
  refine dCall_ok (then6_ok (pbDn (cornA s x m)) s.F tD (fits_dn okA ok.F)) ?_ ?_ ?_
  · rfl
  · rfl
  simp [dw0, dw1, dw2, dw3]
  refine dCall_ok (rMed_ok (cornB s x m) (pbG (cornA s x m)) (lfF s x m) (lfU s x m) ⟨h.B, tx, h.D, h.H, tm⟩ tA (thenP_tiny tD) tU) ?_ ?_ ?_
  · rfl
  · rfl
  by_cases h7 : medE (cornB s x m) (pbG (cornA s x m)) (lfF s x m) (lfU s x m) = 0
  case neg =>
    have e : lfR s x m = (noS, medE (cornB s x m) (pbG (cornA s x m)) (lfF s x m) (lfU s x m)) := by simp [lfR, lfE, h1, h2, h3, h4, h5, h6, h7]
    simp [dw0, dw1, dw2, dw3, medT, medR_no h7, h7, sqT, e, noS, Sq.v, Sq.cs, edL, Co.cs]
    try rfl
  simp [dw0, dw1, dw2, dw3, medT, medR_ok h7]
  refine ⟨rfl, ?_⟩
  refine dCall_ok (then6_ok (pbDn (cornA s x m)) s.G tD (fits_dn okA ok.G)) ?_ ?_ ?_
  · rfl
  · rfl
  simp [dw0, dw1, dw2, dw3]
  refine dCall_ok (rMed_ok (cornC s x m) (pbG (cornA s x m)) (lfG s x m) (lfU s x m) ⟨h.C, tx, h.D, h.K, tm⟩ tA (thenP_tiny tD) tU) ?_ ?_ ?_
  · rfl
  · rfl
  by_cases h8 : medE (cornC s x m) (pbG (cornA s x m)) (lfG s x m) (lfU s x m) = 0
  case neg =>
    have e : lfR s x m = (noS, medE (cornC s x m) (pbG (cornA s x m)) (lfG s x m) (lfU s x m)) := by simp [lfR, lfE, h1, h2, h3, h4, h5, h6, h7, h8]
    simp [dw0, dw1, dw2, dw3, medT, medR_no h8, h8, sqT, e, noS, Sq.v, Sq.cs, edL, Co.cs]
    try rfl
  have e : lfR s x m = (lfS s x m, 0) := by simp [lfR, lfE, h1, h2, h3, h4, h5, h6, h7, h8]
  simp [dw0, dw1, dw2, dw3, medT, medR_ok h8]
  refine ⟨rfl, ?_⟩
  first
  | refine dCall_ok (copied5_ok x tx) ?_ ?_ ?_
  | refine callS_tree (copied5_ok x tx) ?_ ?_ ?_
  · rfl
  · rfl
  simp [dw0, dw1, dw2, dw3, sqT, e, lfS, Sq.v, Sq.cs]
  try rfl

theorem medC_tiny' {c : Co} {h k : Pa} (th : tinyP h) : tinyP (medC c h k) := medC_tiny th
theorem lfR_tiny {s : Sq} {x : Gr} {m : Pa} (tx : tinyG x) : TinySq (lfR s x m).1 := by
  unfold lfR
  split
  · rename_i h
    have h4 : pbErr (cornB s x m) = 0 ∧ pbErr (cornC s x m) = 0 ∧ pbErr (cornA s x m) = 0 := by
      unfold lfE at h
      repeat' split at h
      all_goals first | exact ⟨by assumption, by assumption, by assumption⟩ | (exact absurd h (by assumption)) | cases h
    have tD := pbDn_tiny h4.2.2
    exact ⟨pbG_tiny h4.2.2, pbG_tiny h4.1, pbG_tiny h4.2.1, tx, medC_tiny (thenP_tiny tD), medC_tiny (thenP_tiny tD), pbUp_tiny h4.1, pbUp_tiny h4.2.1⟩
  · exact noS_tiny

def c_lawLift : MFunc := ⟨51, [.tmp 6], .seq (.region [⟨some 3, .box 0 29 (.tmp 0), none⟩, ⟨some 4, .box 1 25 (.tmp 1), none⟩, ⟨some 5, .box 2 27 (.tmp 2), none⟩, ⟨some 6, .mv (.c (.one (.t (.bool false)))), none⟩]) (.seq (.seq (.region [⟨some 11, .call (.c (.one (.fn 11 []))) 64 [], none⟩, ⟨some 12, .not (.tmp 11), none⟩, ⟨some 13, .mv (.tmp 12), none⟩, ⟨some 14, .load true 16 (.tmp 3), some (13, false)⟩, ⟨some 15, .call (.c (.one (.fn 12 []))) 68 [.tmp 14], some (13, false)⟩, ⟨some 16, .not (.tmp 15), some (13, false)⟩, ⟨some 17, .pick (.tmp 13) (.c (.one (.t (.bool true)))) (.tmp 16), none⟩, ⟨some 18, .mv (.tmp 17), none⟩, ⟨some 19, .load true 2 (.tmp 4), some (18, false)⟩, ⟨some 20, .call (.c (.one (.fn 13 []))) 73 [.tmp 19], some (18, false)⟩, ⟨some 21, .not (.tmp 20), some (18, false)⟩, ⟨some 22, .pick (.tmp 18) (.c (.one (.t (.bool true)))) (.tmp 21), none⟩, ⟨some 23, .mv (.tmp 22), none⟩, ⟨some 24, .load true 2 (.tmp 5), some (23, false)⟩, ⟨some 25, .call (.c (.one (.fn 14 []))) 78 [.tmp 24, .c (.one (.t (.int .i64 140)))], some (23, false)⟩, ⟨some 26, .not (.tmp 25), some (23, false)⟩, ⟨some 27, .pick (.tmp 23) (.c (.one (.t (.bool true)))) (.tmp 26), none⟩]) (.cond (.tmp 27) (.seq (.region [⟨some 28, .call (.c (.one (.fn 11 []))) 128 [], none⟩, ⟨some 6, .mv (.tmp 28), none⟩]) .ret) .skip)) (.seq (.region [⟨some 30, .load true 16 (.tmp 3), none⟩, ⟨some 31, .load true 2 (.tmp 4), none⟩, ⟨some 32, .load true 2 (.tmp 5), none⟩, ⟨some 33, .call (.c (.one (.fn 15 []))) 195 [.tmp 30, .tmp 31, .tmp 32], none⟩, ⟨some 29, .mv (.tmp 33), none⟩, ⟨some 34, .extract (.tmp 29) 0, none⟩, ⟨some 35, .extract (.tmp 29) 1, none⟩, ⟨some 7, .alloc 199 29 [.nil, .nil, .nil, .nil, .nil, .nil, .nil, .nil, .nil, .nil, .nil, .nil, .nil, .nil, .nil, .nil], none⟩, ⟨none, .store 16 (.tmp 7) (.tmp 34), none⟩, ⟨some 8, .mv (.tmp 35), none⟩]) (.seq (.region [⟨some 37, .load true 16 (.tmp 3), none⟩, ⟨some 38, .load true 2 (.tmp 4), none⟩, ⟨some 39, .load true 2 (.tmp 5), none⟩, ⟨some 40, .call (.c (.one (.fn 16 []))) 259 [.tmp 37, .tmp 38, .tmp 39], none⟩, ⟨some 36, .mv (.tmp 40), none⟩, ⟨some 41, .extract (.tmp 36) 0, none⟩, ⟨some 42, .extract (.tmp 36) 1, none⟩, ⟨some 9, .alloc 263 29 [.nil, .nil, .nil, .nil, .nil, .nil, .nil, .nil, .nil, .nil, .nil, .nil, .nil, .nil, .nil, .nil], none⟩, ⟨none, .store 16 (.tmp 9) (.tmp 41), none⟩, ⟨some 10, .mv (.tmp 42), none⟩]) (.seq (.region [⟨some 43, .mv (.tmp 8), none⟩, ⟨some 44, .mv (.tmp 10), none⟩, ⟨some 45, .bin .eql (.tmp 43) (.tmp 44), none⟩, ⟨some 46, .mv (.tmp 45), none⟩, ⟨some 47, .load true 16 (.tmp 7), some (46, true)⟩, ⟨some 48, .load true 16 (.tmp 9), some (46, true)⟩, ⟨some 49, .call (.c (.one (.fn 17 []))) 326 [.tmp 47, .tmp 48], some (46, true)⟩, ⟨some 50, .pick (.tmp 46) (.tmp 49) (.c (.one (.t (.bool false)))), none⟩, ⟨some 6, .mv (.tmp 50), none⟩]) .ret))))⟩
theorem k_lawLift : cFn Tryz.prog Tryz.f3 = some c_lawLift := by kernel_rfl
set_option maxHeartbeats 2000000 in
theorem lawLift_ok (s : Sq) (x : Gr) (m : Pa) (h : HugeQ s) (hm : huge m.nodes.length ∧ huge m.edges.length) : CallOK Tryz.prog 3 [s.v, x.v, m.v] (.sv (false, [.bool true])) := by
  refine callOK_W (callS_W (by kernel_rfl) Tryz.func3 k_lawLift (callable_of Tryz.func3 (by kernel_rfl)) (by simp [c_lawLift]) ?_)
  simp [c_lawLift, Sq.v, Sq.cs]
  refine callS_tree awake14_ok ?_ ?_ ?_
  · rfl
  · rfl
  simp
  refine callS_tree (few14_ok s h) ?_ ?_ ?_
  · rfl
  · rfl
  cases hf : fewQ s
  · simp
    refine callS_tree awake14_ok ?_ ?_ ?_
    · rfl
    · rfl
    simp
  simp
  refine callS_tree (few5_ok x) ?_ ?_ ?_
  · rfl
  · rfl
  cases hx : fewG x
  · simp
    refine callS_tree awake14_ok ?_ ?_ ?_
    · rfl
    · rfl
    simp
  simp
  refine callS_tree (few6_ok m 140 hm.1 hm.2) ?_ ?_ ?_
  · rfl
  · rfl
  cases hk : fewP m 140
  · simp
    refine callS_tree awake14_ok ?_ ?_ ?_
    · rfl
    · rfl
    simp
  have hs := tiny_fewQ hf
  have tx := tiny_fewG hx
  have tm := tiny_fewP hk
  simp
  refine callS_tree (sLift_ok s x m hs tx tm) ?_ ?_ ?_
  · rfl
  · rfl
  simp [sqT, Sq.v, Sq.cs]
  refine callS_tree (rLift_ok s x m hs tx tm) ?_ ?_ ?_
  · rfl
  · rfl
  simp [sqT, Sq.v, Sq.cs]
  refine callS_tree (same14_ok (lfR s x m).1 (lfR_tiny tx)) ?_ ?_ ?_
  · rfl
  · rfl
  simp
end Go.Proofs.YthcnpnogfblkcaaGreat

/- What a row's argument reads as, opened into trees. -/
namespace Go.Proofs.YthcnpnogfblkcaaGreat.Abs
open Go.RowKit Go.ChangeShapes Go.WideShapes Go.Deep
set_option linter.unusedVariables false
set_option linter.unusedSimpArgs false

section
variable {H : Type} {enc : TypeId × Value → H} {P : Program} {w : World} {base : Nat} {spare : Nat → Bool} {held : Bool}

theorem open_int_list {t e : TypeId} {fuel : Nat} {cs : List Value} {x : DataW H × List MemPlace} (ht : P.underlying t = some (.slice e)) (he : P.underlying e = some (.int .i64)) (hc : P.cellsOf e = 1) (hB : P.bytesOf e = 8)
    (h : DataW.trod enc P w base spare held fuel t cs = some x) (hw : (x.1.weights P t).all (· ≤ reachBytes) = true) : ∃ l v, cs = [v] ∧ CR w (fun _ => False) (ints l) v ∧ l.length * 8 ≤ 140737488351232 := by
  rcases open_ints ht he hc h with ⟨rfl, _⟩ | ⟨a, len, cap, zs, rfl, hb, hl, hm, hz, rfl, hcell, _⟩
  · exact ⟨[], _, rfl, .sl 0 0 [] none (fun _ => default) (Nat.le_refl _) (fun h => by simp at h) (fun j c h => by simp at h), by simp⟩
  · have hlen : len ≤ zs.length := by
      rw [hz]
      split
      · exact hl
      · exact Nat.le_refl _
    refine ⟨zs.take len, _, rfl, ?_, ?_⟩
    · have e1 : ints (zs.take len) = .sl len ((zs.take len).map (.int .i64)) := by simp [ints, Nat.min_eq_left hlen]
      rw [e1]
      refine .sl len cap _ (some a) (fun j => .int .i64 (zs.getD j 0)) hl (fun _ => ⟨a, rfl, id, fun j hj => hcell j (by simp at hj; omega)⟩) (fun j c hj => ?_)
      simp only [List.getElem?_map, Option.map_eq_some_iff] at hj
      obtain ⟨z, hz', rfl⟩ := hj
      have hj2 : j < len ∧ zs[j]? = some z := by
        rw [List.getElem?_take] at hz'
        split at hz'
        · exact ⟨by assumption, hz'⟩
        · cases hz'
      have : zs.getD j 0 = z := by simp [List.getD, hj2.2]
      rw [this]
      exact .int _ _
    · have z := List.all_eq_true.1 hw _ (show (((lits (H := H) .i64 (zs.take len)).length + (lits (H := H) .i64 (zs.drop len)).length) * P.bytesOf e) ∈ _ by simp [DataW.weights, ht])
      rw [hB] at z
      simp [lits] at z
      simp only [reachBytes] at z
      simp [Nat.min_eq_left hlen]
      omega

instance : Inhabited Ed := ⟨⟨0, 0, 0⟩⟩

/-- A struct of three numbers. -/
theorem open_three {t e : TypeId} {f0 f1 f2 : Field} {fuel : Nat} {cs : List Value} {x : DataW H × List MemPlace} (ht : P.underlying t = some (.struct #[f0, f1, f2])) (h0 : f0.type = e) (h1 : f1.type = e) (h2 : f2.type = e) (o0 : f0.offset = 0) (o1 : f1.offset = 1) (o2 : f2.offset = 2)
    (he : P.underlying e = some (.int .i64)) (hc : P.cellsOf e = 1) (hct : P.cellsOf t = 3) (h : DataW.trod enc P w base spare held fuel t cs = some x) : ∃ d : Ed, cs = [.int .i64 d.t, .int .i64 d.f, .int .i64 d.g] := by
  obtain ⟨y0, y1, y2, n, _, hl, g0, g1, g2⟩ := trod_struct3 ht h
  rw [h0, o0, hc] at g0
  rw [h1, o1, hc] at g1
  rw [h2, o2, hc] at g2
  rw [hct] at hl
  match cs, hl with
  | [a, b, c], _ =>
    obtain ⟨p, e0, _⟩ := DataW.trod_int he g0
    obtain ⟨q, e1, _⟩ := DataW.trod_int he g1
    obtain ⟨r, e2, _⟩ := DataW.trod_int he g2
    simp at e0 e1 e2
    exact ⟨⟨p, q, r⟩, by rw [e0, e1, e2]⟩

theorem get_edL : ∀ {l : List Ed} {j : Nat} {c : C}, (edL l)[j]? = some c → j / 3 < l.length ∧ (edC (eth l (j / 3)))[j % 3]? = some c
  | [], j, c, h => by simp [edL] at h
  | e :: r, j, c, h => by
    have e1 : edL (e :: r) = edC e ++ edL r := by simp [edL]
    rw [e1] at h
    by_cases hj : j < 3
    · rw [List.getElem?_append_left (by simpa [edC] using hj)] at h
      have h1 : j / 3 = 0 := by omega
      have h2 : j % 3 = j := by omega
      rw [h1, h2]
      exact ⟨by simp, by simpa [eth] using h⟩
    · rw [List.getElem?_append_right (by simp [edC]; omega)] at h
      have hl : (edC e).length = 3 := rfl
      rw [hl] at h
      obtain ⟨i1, i2⟩ := get_edL h
      have h1 : j / 3 = (j - 3) / 3 + 1 := by omega
      have h2 : j % 3 = (j - 3) % 3 := by omega
      rw [h1, h2]
      exact ⟨by simpa using i1, by simpa [eth] using i2⟩

theorem open_edge_list {t e q : TypeId} {f0 f1 f2 : Field} {fuel : Nat} {cs : List Value} {x : DataW H × List MemPlace} (ht : P.underlying t = some (.slice e)) (he : P.underlying e = some (.struct #[f0, f1, f2])) (h0 : f0.type = q) (h1 : f1.type = q) (h2 : f2.type = q) (o0 : f0.offset = 0) (o1 : f1.offset = 1) (o2 : f2.offset = 2)
    (hq : P.underlying q = some (.int .i64)) (hc : P.cellsOf q = 1) (hct : P.cellsOf e = 3) (hB : P.bytesOf e = 24)
    (h : DataW.trod enc P w base spare held fuel t cs = some x) (hw : (x.1.weights P t).all (· ≤ reachBytes) = true) : ∃ l v, cs = [v] ∧ CR w (fun _ => False) (edgs l) v ∧ l.length * 24 ≤ 140737488351232 := by
  rcases open_slice ht h with ⟨rfl, _⟩ | ⟨a, len, cap, m, n, D, Pl, rfl, hb, hl, hm, hmm, rfl, hx⟩
  · exact ⟨[], _, rfl, .sl 0 0 [] none (fun _ => default) (Nat.le_refl _) (fun h => by simp [edL] at h) (fun j c h => by simp at h), by simp⟩
  · have hlen : len ≤ m := by
      rw [hmm]
      split
      · exact hl
      · exact Nat.le_refl _
    obtain ⟨F, hF⟩ := choose_lt (α := Ed) (p := fun i d => w.cell? (a.add (i * 3)) = some (.int .i64 d.t) ∧ w.cell? (a.add (i * 3 + 1)) = some (.int .i64 d.f) ∧ w.cell? (a.add (i * 3 + 2)) = some (.int .i64 d.g)) (fun i (hi : i < m) => by
      obtain ⟨cs', g1, g2⟩ := hx i hi
      rw [hct] at g1
      obtain ⟨_, _, g3⟩ := World.cells?_some g1
      obtain ⟨d, rfl⟩ := open_three he h0 h1 h2 o0 o1 o2 hq hc hct g2
      have c0 := g3 0 (by omega)
      have c1 := g3 1 (by omega)
      have c2 := g3 2 (by omega)
      rw [Addr.add_add] at c0 c1 c2
      exact ⟨d, by simpa using c0, by simpa using c1, by simpa using c2⟩)
    have hl2 : ((List.range len).map F).length = len := by simp
    refine ⟨(List.range len).map F, _, rfl, ?_, ?_⟩
    · have key : ∀ i, i < len → eth ((List.range len).map F) i = F i := fun i hi => by simp [eth, hi]
      have e1 : edgs ((List.range len).map F) = .sl len (edL ((List.range len).map F)) := by simp [edgs]
      rw [e1]
      let U : Nat → Value := fun j => if j % 3 = 0 then .int .i64 (F (j / 3)).t else if j % 3 = 1 then .int .i64 (F (j / 3)).f else .int .i64 (F (j / 3)).g
      refine .sl len cap _ (some a) U hl (fun _ => ⟨a, rfl, id, fun j hj => ?_⟩) (fun j c hj => ?_)
      · rw [len_edL, hl2] at hj
        obtain ⟨g0, g1, g2⟩ := hF (j / 3) (by omega)
        have hcase : j % 3 = 0 ∨ j % 3 = 1 ∨ j % 3 = 2 := by omega
        rcases hcase with e | e | e
        · have : j = j / 3 * 3 := by omega
          simp only [U, e, if_true]
          rw [this]; simpa using g0
        · have : j = j / 3 * 3 + 1 := by omega
          simp only [U, e]
          rw [show a.add j = a.add (j / 3 * 3 + 1) by rw [← this]]
          simpa using g1
        · have : j = j / 3 * 3 + 2 := by omega
          simp only [U, e]
          rw [show a.add j = a.add (j / 3 * 3 + 2) by rw [← this]]
          simpa using g2
      · obtain ⟨q1, q2⟩ := get_edL hj
        rw [hl2] at q1
        rw [key _ q1] at q2
        have hcase : j % 3 = 0 ∨ j % 3 = 1 ∨ j % 3 = 2 := by omega
        rcases hcase with e | e | e <;> (rw [e] at q2; simp [edC] at q2; subst q2; simp only [U, e]; exact CR.int _ _)
    · have z := List.all_eq_true.1 hw _ (show ((((List.range len).map D).length + ((List.range (m - len)).map fun j => D (len + j)).length) * P.bytesOf e) ∈ _ by simp [DataW.weights, ht])
      rw [hB] at z
      simp at z
      simp only [reachBytes] at z
      simp
      omega
end

/-! ### What opens, as words -/
def bound (n : Nat) : Prop := n * 8 ≤ 140737488351232
def OpensI (P : Program) (t : TypeId) : Prop := ∀ (H : Type) (enc : TypeId × Value → H) (w : World) (base : Nat) (spare : Nat → Bool) (held : Bool) (fuel : Nat) (cs : List Value) (x : DataW H × List MemPlace),
  DataW.trod enc P w base spare held fuel t cs = some x → (x.1.weights P t).all (· ≤ reachBytes) = true → ∃ l v, cs = [v] ∧ CR w (fun _ => False) (ints l) v ∧ bound l.length
def OpensE (P : Program) (t : TypeId) : Prop := ∀ (H : Type) (enc : TypeId × Value → H) (w : World) (base : Nat) (spare : Nat → Bool) (held : Bool) (fuel : Nat) (cs : List Value) (x : DataW H × List MemPlace),
  DataW.trod enc P w base spare held fuel t cs = some x → (x.1.weights P t).all (· ≤ reachBytes) = true → ∃ l v, cs = [v] ∧ CR w (fun _ => False) (edgs l) v ∧ bound l.length
def OpensG (P : Program) (t : TypeId) : Prop := ∀ (H : Type) (enc : TypeId × Value → H) (w : World) (base : Nat) (spare : Nat → Bool) (held : Bool) (fuel : Nat) (cs : List Value) (x : DataW H × List MemPlace),
  DataW.trod enc P w base spare held fuel t cs = some x → (x.1.weights P t).all (· ≤ reachBytes) = true → ∃ g : Gr, ∃ v0 v1, cs = [v0, v1] ∧ CR w (fun _ => False) (ints g.nodes) v0 ∧ CR w (fun _ => False) (edgs g.edges) v1 ∧ bound g.nodes.length ∧ bound g.edges.length
def OpensP (P : Program) (t : TypeId) : Prop := ∀ (H : Type) (enc : TypeId × Value → H) (w : World) (base : Nat) (spare : Nat → Bool) (held : Bool) (fuel : Nat) (cs : List Value) (x : DataW H × List MemPlace),
  DataW.trod enc P w base spare held fuel t cs = some x → (x.1.weights P t).all (· ≤ reachBytes) = true → ∃ g : Pa, ∃ v0 v1, cs = [v0, v1] ∧ CR w (fun _ => False) (ints g.nodes) v0 ∧ CR w (fun _ => False) (ints g.edges) v1 ∧ bound g.nodes.length ∧ bound g.edges.length

theorem opensI {P : Program} {t e : TypeId} (ht : P.underlying t = some (.slice e)) (he : P.underlying e = some (.int .i64)) (hc : P.cellsOf e = 1) (hB : P.bytesOf e = 8) : OpensI P t :=
  fun H enc w base spare held fuel cs x h hw => open_int_list ht he hc hB h hw

theorem opensE {P : Program} {t e q : TypeId} {f0 f1 f2 : Field} (ht : P.underlying t = some (.slice e)) (he : P.underlying e = some (.struct #[f0, f1, f2])) (h0 : f0.type = q ∧ f1.type = q ∧ f2.type = q ∧ f0.offset = 0 ∧ f1.offset = 1 ∧ f2.offset = 2)
    (hq : P.underlying q = some (.int .i64)) (hc : P.cellsOf q = 1) (hct : P.cellsOf e = 3) (hB : P.bytesOf e = 24) : OpensE P t := fun H enc w base spare held fuel cs x h hw => by
  obtain ⟨l, v, h1, h2, h3⟩ := open_edge_list ht he h0.1 h0.2.1 h0.2.2.1 h0.2.2.2.1 h0.2.2.2.2.1 h0.2.2.2.2.2 hq hc hct hB h hw
  exact ⟨l, v, h1, h2, by simp only [bound]; omega⟩

theorem opensG {P : Program} {t a b : TypeId} {f0 f1 : Field} (ht : P.underlying t = some (.struct #[f0, f1])) (hf : f0.type = a ∧ f1.type = b ∧ f0.offset = 0 ∧ f1.offset = 1) (hc : P.cellsOf t = 2) (ha : P.cellsOf a = 1) (hb : P.cellsOf b = 1) (oa : OpensI P a) (ob : OpensE P b) : OpensG P t := by
  intro H enc w base spare held fuel cs x h hw
  obtain ⟨y0, y1, n, rfl, hl, g0, g1⟩ := trod_struct2 ht h
  obtain ⟨rfl, rfl, o0, o1⟩ := hf
  rw [o0, ha] at g0
  rw [o1, hb] at g1
  rw [hc] at hl
  have hw : ((y0.1.weights P f0.type ++ (y1.1.weights P f1.type ++ [])).all (· ≤ reachBytes)) = true := by simpa [DataW.weights, ht, DataW.weightsEach] using hw
  rw [List.all_append, List.all_append, Bool.and_eq_true, Bool.and_eq_true] at hw
  match cs, hl with
  | [u, v], _ =>
    obtain ⟨l, v0, e0, c0, b0⟩ := oa _ _ _ _ _ _ _ _ _ g0 hw.1
    obtain ⟨l1, v1, e1, c1, b1⟩ := ob _ _ _ _ _ _ _ _ _ g1 hw.2.1
    simp at e0 e1
    subst e0 e1
    exact ⟨⟨l, l1⟩, _, _, rfl, c0, c1, b0, b1⟩

theorem opensP {P : Program} {t a : TypeId} {f0 f1 : Field} (ht : P.underlying t = some (.struct #[f0, f1])) (hf : f0.type = a ∧ f1.type = a ∧ f0.offset = 0 ∧ f1.offset = 1) (hc : P.cellsOf t = 2) (ha : P.cellsOf a = 1) (oa : OpensI P a) : OpensP P t := by
  intro H enc w base spare held fuel cs x h hw
  obtain ⟨y0, y1, n, rfl, hl, g0, g1⟩ := trod_struct2 ht h
  obtain ⟨h0, h1, o0, o1⟩ := hf
  rw [h0, o0, ha] at g0
  rw [h1, o1, ha] at g1
  rw [hc] at hl
  have hw : ((y0.1.weights P a ++ (y1.1.weights P a ++ [])).all (· ≤ reachBytes)) = true := by simpa [DataW.weights, ht, DataW.weightsEach, h0, h1] using hw
  rw [List.all_append, List.all_append, Bool.and_eq_true, Bool.and_eq_true] at hw
  match cs, hl with
  | [u, v], _ =>
    obtain ⟨l, v0, e0, c0, b0⟩ := oa _ _ _ _ _ _ _ _ _ g0 hw.1
    obtain ⟨l1, v1, e1, c1, b1⟩ := oa _ _ _ _ _ _ _ _ _ g1 hw.2.1
    simp at e0 e1
    subst e0 e1
    exact ⟨⟨l, l1⟩, _, _, rfl, c0, c1, b0, b1⟩
end Go.Proofs.YthcnpnogfblkcaaGreat.Abs

/- Squares, graphs and morphisms as arguments, opened. -/
namespace Go.Proofs.YthcnpnogfblkcaaGreat
open Abs
open Go.ChangeShapes Go.WideShapes Go.ChangeAt Go.RowKit
set_option linter.unusedSimpArgs false
set_option linter.unusedVariables false

theorem own : ownKnob Tryz.prog.godebug = none := by kernel_rfl
theorem laidOut : laidOutB Tryz.prog = true := by kernel_rfl
theorem oI : OpensI Tryz.prog 22 := opensI Tryz.underlying22 Tryz.underlying3 (by kernel_rfl) (by kernel_rfl)
theorem oE : OpensE Tryz.prog 23 := opensE Tryz.underlying23 Tryz.underlying76 ⟨rfl, rfl, rfl, rfl, rfl, rfl⟩ Tryz.underlying3 (by kernel_rfl) (by kernel_rfl) (by kernel_rfl)
theorem oG : OpensG Tryz.prog 25 := opensG Tryz.underlying25 ⟨rfl, rfl, rfl, rfl⟩ (by kernel_rfl) (by kernel_rfl) (by kernel_rfl) oI oE
theorem oM : OpensP Tryz.prog 27 := opensP Tryz.underlying27 ⟨rfl, rfl, rfl, rfl⟩ (by kernel_rfl) (by kernel_rfl) oI
theorem cG : Tryz.prog.cellsOf 25 = 2 := by kernel_rfl
theorem cM : Tryz.prog.cellsOf 27 = 2 := by kernel_rfl
theorem cS : Tryz.prog.cellsOf 29 = 16 := by kernel_rfl

def BoundG (g : Gr) : Prop := bound g.nodes.length ∧ bound g.edges.length
def BoundP (g : Pa) : Prop := bound g.nodes.length ∧ bound g.edges.length
structure BoundSq (s : Sq) : Prop where
  A : BoundG s.A
  B : BoundG s.B
  C : BoundG s.C
  D : BoundG s.D
  F : BoundP s.F
  G : BoundP s.G
  H : BoundP s.H
  K : BoundP s.K

theorem two_cells {w : World} {Z : Nat → Prop} {us : Array Value} {v0 v1 : Value} {c0 c1 : Abs.C} (e : us.toList = [v0, v1]) (h0 : CR w Z c0 v0) (h1 : CR w Z c1 v1) : TVR w Z (true, [c0, c1]) (.agg us) := by
  refine ⟨us, rfl, by simp [e], fun j c u hc hu => ?_⟩
  rw [e] at hu
  match j, hc, hu with
  | 0, hc, hu | 1, hc, hu =>
    simp at hc hu
    subst hc hu
    assumption
  | j + 2, hc, _ => simp at hc

/-- A graph, opened. -/
theorem open_graph {H : Type} {enc : TypeId × Value → H} {w : World} {base : Nat} {spare : Nat → Bool} {held : Bool} {v : Value} {d : DataW H} {ps : List MemPlace} (h : DataW.Trod enc Tryz.prog w base spare held 25 v d ps)
    (hw : (d.weights Tryz.prog 25).all (· ≤ reachBytes) = true) : ∃ g : Gr, TVR w (fun _ => False) g.v v ∧ BoundG g := by
  obtain ⟨fuel, hf⟩ := h
  obtain ⟨p, v0, v1, e, c0, c1, b0, b1⟩ := oG _ _ _ _ _ _ _ _ _ hf hw
  have hv : ∃ us : Array Value, v = .agg us := by
    cases v <;> first | exact ⟨_, rfl⟩ | (simp [Value.cells] at e)
  obtain ⟨us, rfl⟩ := hv
  have e : us.toList = [v0, v1] := e
  exact ⟨p, two_cells e c0 c1, b0, b1⟩

/-- A morphism, opened. -/
theorem open_mor {H : Type} {enc : TypeId × Value → H} {w : World} {base : Nat} {spare : Nat → Bool} {held : Bool} {v : Value} {d : DataW H} {ps : List MemPlace} (h : DataW.Trod enc Tryz.prog w base spare held 27 v d ps)
    (hw : (d.weights Tryz.prog 27).all (· ≤ reachBytes) = true) : ∃ g : Pa, TVR w (fun _ => False) g.v v ∧ BoundP g := by
  obtain ⟨fuel, hf⟩ := h
  obtain ⟨p, v0, v1, e, c0, c1, b0, b1⟩ := oM _ _ _ _ _ _ _ _ _ hf hw
  have hv : ∃ us : Array Value, v = .agg us := by
    cases v <;> first | exact ⟨_, rfl⟩ | (simp [Value.cells] at e)
  obtain ⟨us, rfl⟩ := hv
  have e : us.toList = [v0, v1] := e
  exact ⟨p, two_cells e c0 c1, b0, b1⟩

/-- A square, opened. -/
theorem open_sq {H : Type} {enc : TypeId × Value → H} {w : World} {base : Nat} {spare : Nat → Bool} {held : Bool} {v : Value} {d : DataW H} {ps : List MemPlace} (h : DataW.Trod enc Tryz.prog w base spare held 29 v d ps)
    (hw : (d.weights Tryz.prog 29).all (· ≤ reachBytes) = true) : ∃ s : Sq, TVR w (fun _ => False) s.v v ∧ BoundSq s := by
  obtain ⟨fuel, hf⟩ := h
  obtain ⟨xs, n, _, hx, hl, hlen, hfs⟩ := DataW.trod_struct Tryz.underlying29 hf
  rw [cS] at hl
  match xs, hlen with
  | [y0, y1, y2, y3, y4, y5, y6, y7], _ =>
    have g0 := hfs 0 _ rfl
    have g1 := hfs 1 _ rfl
    have g2 := hfs 2 _ rfl
    have g3 := hfs 3 _ rfl
    have g4 := hfs 4 _ rfl
    have g5 := hfs 5 _ rfl
    have g6 := hfs 6 _ rfl
    have g7 := hfs 7 _ rfl
    obtain ⟨rfl, rfl⟩ := Prod.mk.inj hx
    have hw : ((y0.1.weights Tryz.prog 25 ++ (y1.1.weights Tryz.prog 25 ++ (y2.1.weights Tryz.prog 25 ++ (y3.1.weights Tryz.prog 25 ++ (y4.1.weights Tryz.prog 27 ++ (y5.1.weights Tryz.prog 27 ++ (y6.1.weights Tryz.prog 27 ++ (y7.1.weights Tryz.prog 27 ++ [])))))))).all (· ≤ reachBytes)) = true := by
      simpa [DataW.weights, Tryz.underlying29, DataW.weightsEach] using hw
    simp only [List.all_append, Bool.and_eq_true] at hw
    obtain ⟨w0, w1, w2, w3, w4, w5, w6, w7, _⟩ := hw
    have hv : ∃ us : Array Value, v = .agg us := by
      cases v <;> first | exact ⟨_, rfl⟩ | (simp [Value.cells] at hl)
    obtain ⟨us, rfl⟩ := hv
    have hl : us.toList.length = 16 := hl
    match hu : us.toList, hl with
    | [a0, a1, a2, a3, a4, a5, a6, a7, a8, a9, a10, a11, a12, a13, a14, a15], _ =>
      simp only [Value.cells, hu] at g0 g1 g2 g3 g4 g5 g6 g7
      obtain ⟨x0, v0, v1, e0, c0, c1, b0, b1⟩ := oG _ _ _ _ _ _ _ _ _ g0 w0
      obtain ⟨x1, v2, v3, e1, c2, c3, b2, b3⟩ := oG _ _ _ _ _ _ _ _ _ g1 w1
      obtain ⟨x2, v4, v5, e2, c4, c5, b4, b5⟩ := oG _ _ _ _ _ _ _ _ _ g2 w2
      obtain ⟨x3, v6, v7, e3, c6, c7, b6, b7⟩ := oG _ _ _ _ _ _ _ _ _ g3 w3
      obtain ⟨x4, v8, v9, e4, c8, c9, b8, b9⟩ := oM _ _ _ _ _ _ _ _ _ g4 w4
      obtain ⟨x5, v10, v11, e5, c10, c11, b10, b11⟩ := oM _ _ _ _ _ _ _ _ _ g5 w5
      obtain ⟨x6, v12, v13, e6, c12, c13, b12, b13⟩ := oM _ _ _ _ _ _ _ _ _ g6 w6
      obtain ⟨x7, v14, v15, e7, c14, c15, b14, b15⟩ := oM _ _ _ _ _ _ _ _ _ g7 w7
      simp [cG, cM] at e0 e1 e2 e3 e4 e5 e6 e7
      obtain ⟨rfl, rfl⟩ := e0
      obtain ⟨rfl, rfl⟩ := e1
      obtain ⟨rfl, rfl⟩ := e2
      obtain ⟨rfl, rfl⟩ := e3
      obtain ⟨rfl, rfl⟩ := e4
      obtain ⟨rfl, rfl⟩ := e5
      obtain ⟨rfl, rfl⟩ := e6
      obtain ⟨rfl, rfl⟩ := e7
      refine ⟨⟨x0, x1, x2, x3, x4, x5, x6, x7⟩, ⟨us, rfl, by simp [hu, Sq.cs], fun j c u hc hu' => ?_⟩, ⟨⟨b0, b1⟩, ⟨b2, b3⟩, ⟨b4, b5⟩, ⟨b6, b7⟩, ⟨b8, b9⟩, ⟨b10, b11⟩, ⟨b12, b13⟩, ⟨b14, b15⟩⟩⟩
      rw [hu] at hu'
      match j, hc, hu' with
      | 0, hc, hu' | 1, hc, hu' | 2, hc, hu' | 3, hc, hu' | 4, hc, hu' | 5, hc, hu' | 6, hc, hu' | 7, hc, hu' | 8, hc, hu' | 9, hc, hu' | 10, hc, hu' | 11, hc, hu' | 12, hc, hu' | 13, hc, hu' | 14, hc, hu' | 15, hc, hu' =>
        simp [Sq.cs] at hc hu'
        subst hc hu'
        assumption
      | j + 16, hc, _ => simp [Sq.cs] at hc
end Go.Proofs.YthcnpnogfblkcaaGreat

/- The row of SquareLift, closed, if the law answers true for every input. -/
namespace Go.Proofs.YthcnpnogfblkcaaGreat
open Abs
open Go.ChangeShapes Go.WideShapes Go.ChangeAt Go.RowKit
set_option linter.unusedSimpArgs false
set_option linter.unusedVariables false

namespace squareLift
/-- What the law is to answer. -/
def Law : Prop := ∀ (x0 : Sq) (x1 : Gr) (x2 : Pa), BoundSq x0 → BoundG x1 → BoundP x2 → CallOK Tryz.prog 3 [x0.v, x1.v, x2.v] (.sv (false, [.bool true]))

theorem calls (h : Law) {H : Type} {enc : TypeId × Value → H} {w : World} {base : Nat} {spare : Nat → Bool} {held : Bool} {v0 v1 v2 : Value} {d0 d1 d2 : DataW H} {p0 p1 p2 : List MemPlace}
    (h0 : DataW.Trod enc Tryz.prog w base spare held 29 v0 d0 p0) (hw0 : (d0.weights Tryz.prog 29).all (· ≤ reachBytes) = true)
    (h1 : DataW.Trod enc Tryz.prog w base spare held 25 v1 d1 p1) (hw1 : (d1.weights Tryz.prog 25).all (· ≤ reachBytes) = true)
    (h2 : DataW.Trod enc Tryz.prog w base spare held 27 v2 d2 p2) (hw2 : (d2.weights Tryz.prog 27).all (· ≤ reachBytes) = true)
    : Calls Tryz.prog 3 #[v0, v1, v2] w fun e w' => e = .returned (.bool true) ∧ Below w.heap.size w w' := by
  obtain ⟨x0, hx0, hb0⟩ := open_sq h0 hw0
  obtain ⟨x1, hx1, hb1⟩ := open_graph h1 hw1
  obtain ⟨x2, hx2, hb2⟩ := open_mor h2 hw2
  refine ((h x0 x1 x2 hb0 hb1 hb2).2 w (fun _ => False) #[v0, v1, v2] (fun b hb => hb.elim) rfl (fun j s u hs hu => ?_)).mono ?_
  · match j, hs, hu with
    | 0, hs, hu =>
      simp at hs hu
      subst hs hu
      exact hx0
    | 1, hs, hu =>
      simp at hs hu
      subst hs hu
      exact hx1
    | 2, hs, hu =>
      simp at hs hu
      subst hs hu
      exact hx2
    | j + 3, hs, _ => simp at hs
  · rintro e w' ⟨u, rfl, hu, hbel⟩
    obtain ⟨c, hc, hc2⟩ := hu
    simp at hc
    subst hc
    cases hc2
    exact ⟨rfl, hbel⟩

set_option maxRecDepth 100000 in
theorem lifted (law : Law) (os : Os) (started : os.Started) (H : Type) (enc : TypeId × Value → H) :
    ReturnsInHanded {} Tryz.checked os 3 .any (Rows.squareLiftSpec.pre6 enc Tryz.prog Tryz.f3 Rows.squareLiftRow.domain false) (Rows.squareLiftSpec.post enc Tryz.prog Tryz.f3 false true false false) := by
  refine returnsInHanded_of_change_sized (C := Tryz.checked) own started (by kernel_rfl) Tryz.func3
    (ChangeSpec.witness6 (enc := enc) (C := Tryz.checked) false ⟨#[], #[.agg #[.slice none 0 0, .slice none 0 0, .slice none 0 0, .slice none 0 0, .slice none 0 0, .slice none 0 0, .slice none 0 0, .slice none 0 0, .slice none 0 0, .slice none 0 0, .slice none 0 0, .slice none 0 0, .slice none 0 0, .slice none 0 0, .slice none 0 0, .slice none 0 0], .agg #[.slice none 0 0, .slice none 0 0], .agg #[.slice none 0 0, .slice none 0 0]], []⟩ 8 (by kernel_rfl) (by kernel_rfl) (by kernel_rfl) (by kernel_rfl)) ?_
  intro W base args ds gs before hval0 hW hcnd hsz0 _
  have hsz : (DataW.weightsEach Tryz.prog (Tryz.f3.params.toList ++ Rows.squareLiftSpec.plain.varTypes Tryz.prog) (ds ++ gs)).all (· ≤ reachBytes) = true := hsz0
  have hW' := hW
  obtain ⟨p, q, hA0, hV, rfl, hfz, hnd⟩ := hW
  have hA : DataW.TrodAll enc Tryz.prog W 0 (fun _ => true) true Tryz.f3.params.toList args.toList ds p := hA0
  rw [Tryz.params3] at hA hsz
  obtain ⟨v0, vs0, d0, ds0, p0, q0, hargs0, rfl, rfl, h0, r0⟩ := trodAll_cons hA
  obtain ⟨v1, vs1, d1, ds1, p1, q1, hargs1, rfl, rfl, h1, r1⟩ := trodAll_cons r0
  obtain ⟨v2, vs2, d2, ds2, p2, q2, hargs2, rfl, rfl, h2, r2⟩ := trodAll_cons r1
  obtain ⟨rfl, rfl, rfl⟩ := trodAll_nil r2
  obtain rfl : args = #[v0, v1, v2] := by cases args; simp_all
  obtain ⟨rfl, rfl⟩ := trodVars_none hV
  have hw0 : (d0.weights Tryz.prog 29).all (· ≤ reachBytes) = true := by
    refine List.all_eq_true.2 fun n hn => List.all_eq_true.1 hsz n ?_
    exact DataW.weights_mem_each (j := 0) (t := 29) (d := d0) rfl rfl n hn
  have lt0 : ∀ x ∈ p0, x.block < W.heap.size := by obtain ⟨m, hm⟩ := h0; exact DataW.trod_lt m _ _ _ hm
  have hw1 : (d1.weights Tryz.prog 25).all (· ≤ reachBytes) = true := by
    refine List.all_eq_true.2 fun n hn => List.all_eq_true.1 hsz n ?_
    exact DataW.weights_mem_each (j := 1) (t := 25) (d := d1) rfl rfl n hn
  have lt1 : ∀ x ∈ p1, x.block < W.heap.size := by obtain ⟨m, hm⟩ := h1; exact DataW.trod_lt m _ _ _ hm
  have hw2 : (d2.weights Tryz.prog 27).all (· ≤ reachBytes) = true := by
    refine List.all_eq_true.2 fun n hn => List.all_eq_true.1 hsz n ?_
    exact DataW.weights_mem_each (j := 2) (t := 27) (d := d2) rfl rfl n hn
  have lt2 : ∀ x ∈ p2, x.block < W.heap.size := by obtain ⟨m, hm⟩ := h2; exact DataW.trod_lt m _ _ _ hm
  clear hA0 hval0 hsz0 hsz
  refine (calls law h0 hw0 h1 hw1 h2 hw2).mono fun e W' ⟨he, bel⟩ => ?_
  subst he
  exact ⟨_, rfl, _, _, _, [], _, [], hW', trodAll_mk1 (shut_bool Tryz.underlying4 _), (trodAll_cons_mk (Below.trod laidOut (by kernel_rfl) (of_decide_eq_true (by kernel_rfl)) h0 bel lt0) (trodAll_cons_mk (Below.trod laidOut (by kernel_rfl) (of_decide_eq_true (by kernel_rfl)) h1 bel lt1) (trodAll_cons_mk (Below.trod laidOut (by kernel_rfl) (of_decide_eq_true (by kernel_rfl)) h2 bel lt2) trodAll_mk0))), rfl, bel.frame _, fun h => by cases h⟩

theorem over (law : Law) : Rows.squareLiftRow.holds Tryz.pinned (OpenSpec.ofChange Rows.squareLiftSpec) :=
  OpenClaim.holds_of_wide 3 Tryz.f3 rfl rfl rfl rfl rfl rfl rfl ⟨rfl, rfl, rfl, rfl, rfl⟩ rfl rfl rfl rfl rfl (by kernel_rfl) Tryz.func3 (by kernel_rfl)
    (of_decide_eq_true (by kernel_rfl)) (by unfold Func.isWrapper; first | (rw [if_pos (by decide +kernel)]; kernel_rfl) | (rw [if_neg (by decide +kernel)]; exact ⟨rfl, rfl⟩))
    (fun os started H enc _ => lifted law os started H enc)
end squareLift
end Go.Proofs.YthcnpnogfblkcaaGreat

/- What a row's bounds say of the sizes. -/
namespace Go.Proofs.YthcnpnogfblkcaaGreat
open Abs
theorem hugeG {g : Gr} (h : BoundG g) : huge g.nodes.length ∧ huge g.edges.length := by
  have h1 := h.1; have h2 := h.2
  simp only [bound] at h1 h2
  exact ⟨by simp only [huge]; omega, by simp only [huge]; omega⟩
theorem hugeP {g : Pa} (h : BoundP g) : huge g.nodes.length ∧ huge g.edges.length := by
  have h1 := h.1; have h2 := h.2
  simp only [bound] at h1 h2
  exact ⟨by simp only [huge]; omega, by simp only [huge]; omega⟩
theorem BoundSq.huge {s : Sq} (h : BoundSq s) : HugeQ s := ⟨hugeP h.F, hugeP h.G, hugeP h.H, hugeP h.K⟩
end Go.Proofs.YthcnpnogfblkcaaGreat

/- SquareLift answers true for every square, graph and morphism. -/
namespace Go.Proofs.YthcnpnogfblkcaaGreat
open Abs
theorem squareLift_holds : Rows.SquareLiftSaid := squareLift.over fun s x m h _ hm => lawLift_ok s x m h.huge (hugeP hm)
end Go.Proofs.YthcnpnogfblkcaaGreat
