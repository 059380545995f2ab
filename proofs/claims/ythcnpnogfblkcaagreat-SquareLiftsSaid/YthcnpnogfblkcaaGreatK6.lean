/-
  Joined texts: the theorem of this claim and its last steps. No condition beyond those that each statement names.
-/
import Derived.Test.YthcnpnogfblkcaaGreatK5
import Derived.Test.YthcnpnogfblkcaaGreatRows
import Derived.WalkKit
import Derived.ProofKit
import Derived.OpenShut
import Derived.ChangeOld
import Derived.Below
import Derived.Carry
import Derived.Test.YthcnpnogfblkcaaGreatProg
import Derived.KernelRfl
/- Contracts: lifting squares; their law. -/
namespace Go.Proofs.YthcnpnogfblkcaaGreat
open Abs
set_option linter.unusedSimpArgs false
set_option linter.unusedVariables false
attribute [local simp] rn0 rn1 rn2 rn3 rn4 rn5 rn6 rn7 evOp nests Arg.ev St.val St.set St.new sliceOf binInt2 binInt AV.cells rdAt St.live retOf resOf resAll treeOf treeCell treeCells treeTups untree frameOf TV.av TR.av ints edgs prs fillV splice intsOf trees V1.tree bx Gr.v Pa.v opRd opWr opNew opNewR opArgs argsRd argRd Arg.rd AV.refs V1.refs refsL dstL

def cornB (s : Sq) (x : Gr) (m : Pa) : Co := ⟨s.B, x, s.D, s.H, m⟩
def cornC (s : Sq) (x : Gr) (m : Pa) : Co := ⟨s.C, x, s.D, s.K, m⟩
def cornA (s : Sq) (x : Gr) (m : Pa) : Co := ⟨s.A, x, s.D, thenP s.F s.H, m⟩
def pbDn (c : Co) : Pa := ⟨fstL (pbNs c), fstL (pbEs c)⟩
def pbUp (c : Co) : Pa := ⟨sndL (pbNs c), sndL (pbEs c)⟩
def lfF (s : Sq) (x : Gr) (m : Pa) : Pa := thenP (pbDn (cornA s x m)) s.F
def lfG (s : Sq) (x : Gr) (m : Pa) : Pa := thenP (pbDn (cornA s x m)) s.G
def lfU (s : Sq) (x : Gr) (m : Pa) : Pa := pbUp (cornA s x m)
/-- The lifted square, or an error. -/
def lfE (s : Sq) (x : Gr) (m : Pa) : Int :=
  if sqErr s = 0 then if morErr x s.D m = 0 then if commB s = true then
    if pbErr (cornB s x m) = 0 then if pbErr (cornC s x m) = 0 then if pbErr (cornA s x m) = 0 then
      if medE (cornB s x m) (pbG (cornA s x m)) (lfF s x m) (lfU s x m) = 0 then medE (cornC s x m) (pbG (cornA s x m)) (lfG s x m) (lfU s x m)
      else medE (cornB s x m) (pbG (cornA s x m)) (lfF s x m) (lfU s x m)
    else pbErr (cornA s x m) else pbErr (cornC s x m) else pbErr (cornB s x m)
  else 11 else morErr x s.D m else sqErr s
def lfS (s : Sq) (x : Gr) (m : Pa) : Sq := ⟨pbG (cornA s x m), pbG (cornB s x m), pbG (cornC s x m), x,
  medC (cornB s x m) (lfF s x m) (lfU s x m), medC (cornC s x m) (lfG s x m) (lfU s x m), pbUp (cornB s x m), pbUp (cornC s x m)⟩
def lfR (s : Sq) (x : Gr) (m : Pa) : Sq × Int := if lfE s x m = 0 then (lfS s x m, 0) else (noS, lfE s x m)

theorem pbR_ok {c : Co} (h : pbErr c = 0) : pbR c = (pbG c, pbDn c, pbUp c, 0) := by simp [pbR, h, pbDn, pbUp]
theorem pbR_no {c : Co} (h : ¬ pbErr c = 0) : pbR c = (⟨[], []⟩, ⟨[], []⟩, ⟨[], []⟩, pbErr c) := by simp [pbR, h]
theorem medR_ok {c : Co} {x : Gr} {h k : Pa} (e : medE c x h k = 0) : medR c x h k = (medC c h k, 0) := by simp [medR, e]
theorem medR_no {c : Co} {x : Gr} {h k : Pa} (e : ¬ medE c x h k = 0) : medR c x h k = (⟨[], []⟩, medE c x h k) := by simp [medR, e]
theorem pbDn_len {c : Co} : (pbDn c).nodes.length = (pbNs c).length ∧ (pbDn c).edges.length = (pbEs c).length := ⟨fstL_len, fstL_len⟩
theorem pbUp_len {c : Co} : (pbUp c).nodes.length = (pbNs c).length ∧ (pbUp c).edges.length = (pbEs c).length := ⟨sndL_len, sndL_len⟩
theorem pbDn_tiny {c : Co} (h : pbErr c = 0) : tinyP (pbDn c) := by
  obtain ⟨_, h1, h2⟩ := pbErr_few h
  obtain ⟨h3, h4⟩ := pbDn_len (c := c)
  exact ⟨by simp only [tiny]; omega, by simp only [tiny]; omega⟩
theorem pbUp_tiny {c : Co} (h : pbErr c = 0) : tinyP (pbUp c) := by
  obtain ⟨_, h1, h2⟩ := pbErr_few h
  obtain ⟨h3, h4⟩ := pbUp_len (c := c)
  exact ⟨by simp only [tiny]; omega, by simp only [tiny]; omega⟩
theorem pbDn_in {c : Co} (h : CoOk c) : placesIn (pbDn c).nodes c.B.nodes.length ∧ placesIn (pbDn c).edges c.B.edges.length := by
  refine ⟨fun x hx => ?_, fun x hx => ?_⟩
  · obtain ⟨q, hq, rfl⟩ := List.mem_map.1 hx
    obtain ⟨i, k, hi, _, rfl⟩ := pbNs_at h hq
    exact ⟨by simp, by simpa using hi⟩
  · obtain ⟨q, hq, rfl⟩ := List.mem_map.1 hx
    obtain ⟨i, k, hi, _, rfl⟩ := pbEs_at h hq
    exact ⟨by simp, by simpa using hi⟩
theorem pbUp_in {c : Co} (h : CoOk c) : placesIn (pbUp c).nodes c.C.nodes.length ∧ placesIn (pbUp c).edges c.C.edges.length := by
  refine ⟨fun x hx => ?_, fun x hx => ?_⟩
  · obtain ⟨q, hq, rfl⟩ := List.mem_map.1 hx
    obtain ⟨i, k, _, hk, rfl⟩ := pbNs_at h hq
    exact ⟨by simp, by simpa using hk⟩
  · obtain ⟨q, hq, rfl⟩ := List.mem_map.1 hx
    obtain ⟨i, k, _, hk, rfl⟩ := pbEs_at h hq
    exact ⟨by simp, by simpa using hk⟩
theorem fits_dn {c : Co} {d : Gr} {f : Pa} (h : CoOk c) (hf : MorOk c.B d f) : FitsP (pbDn c) f := by
  obtain ⟨h1, h2⟩ := pbDn_in h
  exact ⟨by rw [hf.ln]; exact h1, by rw [hf.le]; exact h2⟩

def plT (c : Co) : TR := .tup [(true, c.cs ++ [ints (pbR c).1.nodes, edgs (pbR c).1.edges, ints (pbR c).2.1.nodes, ints (pbR c).2.1.edges, ints (pbR c).2.2.1.nodes, ints (pbR c).2.2.1.edges]), (false, [.int .i64 (pbR c).2.2.2])]

def c_spull : MFunc := ⟨36, [.cell 10 true 16, .tmp 11], .seq (.region [⟨some 5, .box 0 25 (.tmp 0), none⟩, ⟨some 6, .box 1 25 (.tmp 1), none⟩, ⟨some 7, .box 2 25 (.tmp 2), none⟩, ⟨some 8, .box 3 27 (.tmp 3), none⟩, ⟨some 9, .box 4 27 (.tmp 4), none⟩, ⟨some 10, .alloc 5 82 [.nil, .nil, .nil, .nil, .nil, .nil, .nil, .nil, .nil, .nil, .nil, .nil, .nil, .nil, .nil, .nil], none⟩, ⟨some 11, .mv (.c (.one (.t (.int .i64 0)))), none⟩]) (.seq (.region [⟨some 17, .load true 2 (.tmp 5), none⟩, ⟨some 18, .load true 2 (.tmp 7), none⟩, ⟨some 19, .load true 2 (.tmp 6), none⟩, ⟨some 20, .load true 2 (.tmp 8), none⟩, ⟨some 21, .load true 2 (.tmp 9), none⟩, ⟨some 22, .build [.nil, .nil, .nil, .nil, .nil, .nil, .nil, .nil, .nil, .nil] [(0, (2, .tmp 17)), (2, (2, .tmp 18)), (4, (2, .tmp 19)), (6, (2, .tmp 20)), (8, (2, .tmp 21))], none⟩, ⟨some 12, .alloc 70 80 [.nil, .nil, .nil, .nil, .nil, .nil, .nil, .nil, .nil, .nil], none⟩, ⟨none, .store 10 (.tmp 12) (.tmp 22), none⟩]) (.seq (.region [⟨some 24, .load true 10 (.tmp 12), none⟩, ⟨some 25, .call (.c (.one (.fn 56 []))) 129 [.tmp 24], none⟩, ⟨some 23, .mv (.tmp 25), none⟩, ⟨some 26, .extract (.tmp 23) 0, none⟩, ⟨some 27, .extract (.tmp 23) 1, none⟩, ⟨some 28, .extract (.tmp 23) 2, none⟩, ⟨some 29, .extract (.tmp 23) 3, none⟩, ⟨some 13, .alloc 135 25 [.nil, .nil], none⟩, ⟨some 14, .alloc 136 27 [.nil, .nil], none⟩, ⟨some 15, .alloc 137 27 [.nil, .nil], none⟩, ⟨none, .store 2 (.tmp 13) (.tmp 26), none⟩, ⟨none, .store 2 (.tmp 14) (.tmp 27), none⟩, ⟨none, .store 2 (.tmp 15) (.tmp 28), none⟩, ⟨some 16, .mv (.tmp 29), none⟩]) (.seq (.region [⟨some 30, .load true 10 (.tmp 12), none⟩, ⟨some 31, .load true 2 (.tmp 13), none⟩, ⟨some 32, .load true 2 (.tmp 14), none⟩, ⟨some 33, .load true 2 (.tmp 15), none⟩, ⟨some 34, .build [.nil, .nil, .nil, .nil, .nil, .nil, .nil, .nil, .nil, .nil, .nil, .nil, .nil, .nil, .nil, .nil] [(0, (10, .tmp 30)), (10, (2, .tmp 31)), (12, (2, .tmp 32)), (14, (2, .tmp 33))], none⟩, ⟨some 35, .mv (.tmp 16), none⟩, ⟨none, .store 16 (.tmp 10) (.tmp 34), none⟩, ⟨some 11, .mv (.tmp 35), none⟩]) .ret)))⟩
theorem k_spull : cFn Tryz.prog Tryz.f43 = some c_spull := by kernel_rfl
theorem spull_ok (c : Co) (h : TinyCo c) : CallOK Tryz.prog 43 [c.B.v, c.D.v, c.C.v, c.F.v, c.G.v] (plT c) := by
  refine callOK_W (callS_W (by kernel_rfl) Tryz.func43 k_spull (callable_of Tryz.func43 (by kernel_rfl)) (by simp [c_spull]) ?_)
  simp [c_spull, dw0, dw1, dw2, dw3]
  first
  | refine callS_tree (pOf_ok c h) ?_ ?_ ?_
  | refine dCall_ok (pOf_ok c h) ?_ ?_ ?_
  · rfl
  · rfl
  simp [dw0, dw1, dw2, dw3, pbRt, plT, Co.cs]
  try rfl

def c_sLift : MFunc := ⟨139, [.cell 6 true 16, .tmp 7], .seq (.region [⟨some 3, .box 0 29 (.tmp 0), none⟩, ⟨some 4, .box 1 25 (.tmp 1), none⟩, ⟨some 5, .box 2 27 (.tmp 2), none⟩, ⟨some 6, .alloc 3 29 [.nil, .nil, .nil, .nil, .nil, .nil, .nil, .nil, .nil, .nil, .nil, .nil, .nil, .nil, .nil, .nil], none⟩, ⟨some 7, .mv (.c (.one (.t (.int .i64 0)))), none⟩]) (.seq (.seq (.region [⟨some 16, .load true 16 (.tmp 3), none⟩, ⟨some 17, .call (.c (.one (.fn 40 []))) 65 [.tmp 16], none⟩, ⟨some 8, .mv (.tmp 17), none⟩]) (.seq (.region [⟨some 18, .mv (.tmp 8), none⟩, ⟨some 19, .bin .neq (.tmp 18) (.c (.one (.t (.int .i64 0)))), none⟩]) (.cond (.tmp 19) (.seq (.region [⟨some 20, .build [.nil, .nil, .nil, .nil, .nil, .nil, .nil, .nil, .nil, .nil, .nil, .nil, .nil, .nil, .nil, .nil] [], none⟩, ⟨some 21, .mv (.tmp 8), none⟩, ⟨none, .store 16 (.tmp 6) (.tmp 20), none⟩, ⟨some 7, .mv (.tmp 21), none⟩]) .ret) .skip))) (.seq (.seq (.region [⟨some 22, .load true 2 (.tmp 4), none⟩, ⟨some 23, .fieldA 6 (.tmp 3), none⟩, ⟨some 24, .load true 2 (.tmp 23), none⟩, ⟨some 25, .load true 2 (.tmp 5), none⟩, ⟨some 26, .call (.c (.one (.fn 41 []))) 260 [.tmp 22, .tmp 24, .tmp 25], none⟩, ⟨some 9, .mv (.tmp 26), none⟩]) (.seq (.region [⟨some 27, .mv (.tmp 9), none⟩, ⟨some 28, .bin .neq (.tmp 27) (.c (.one (.t (.int .i64 0)))), none⟩]) (.cond (.tmp 28) (.seq (.region [⟨some 29, .build [.nil, .nil, .nil, .nil, .nil, .nil, .nil, .nil, .nil, .nil, .nil, .nil, .nil, .nil, .nil, .nil] [], none⟩, ⟨some 30, .mv (.tmp 9), none⟩, ⟨none, .store 16 (.tmp 6) (.tmp 29), none⟩, ⟨some 7, .mv (.tmp 30), none⟩]) .ret) .skip))) (.seq (.seq (.region [⟨some 31, .load true 16 (.tmp 3), none⟩, ⟨some 32, .call (.c (.one (.fn 42 []))) 449 [.tmp 31], none⟩, ⟨some 33, .not (.tmp 32), none⟩]) (.cond (.tmp 33) (.seq (.region [⟨some 34, .build [.nil, .nil, .nil, .nil, .nil, .nil, .nil, .nil, .nil, .nil, .nil, .nil, .nil, .nil, .nil, .nil] [], none⟩, ⟨none, .store 16 (.tmp 6) (.tmp 34), none⟩, ⟨some 7, .mv (.c (.one (.t (.int .i64 11)))), none⟩]) .ret) .skip)) (.seq (.region [⟨some 36, .fieldA 2 (.tmp 3), none⟩, ⟨some 37, .load true 2 (.tmp 36), none⟩, ⟨some 38, .fieldA 6 (.tmp 3), none⟩, ⟨some 39, .load true 2 (.tmp 38), none⟩, ⟨some 40, .load true 2 (.tmp 4), none⟩, ⟨some 41, .fieldA 12 (.tmp 3), none⟩, ⟨some 42, .load true 2 (.tmp 41), none⟩, ⟨some 43, .load true 2 (.tmp 5), none⟩, ⟨some 44, .call (.c (.one (.fn 43 []))) 584 [.tmp 37, .tmp 39, .tmp 40, .tmp 42, .tmp 43], none⟩, ⟨some 35, .mv (.tmp 44), none⟩, ⟨some 45, .extract (.tmp 35) 0, none⟩, ⟨some 46, .extract (.tmp 35) 1, none⟩, ⟨some 10, .alloc 588 82 [.nil, .nil, .nil, .nil, .nil, .nil, .nil, .nil, .nil, .nil, .nil, .nil, .nil, .nil, .nil, .nil], none⟩, ⟨none, .store 16 (.tmp 10) (.tmp 45), none⟩, ⟨some 11, .mv (.tmp 46), none⟩]) (.seq (.seq (.region [⟨some 47, .mv (.tmp 11), none⟩, ⟨some 48, .bin .neq (.tmp 47) (.c (.one (.t (.int .i64 0)))), none⟩]) (.cond (.tmp 48) (.seq (.region [⟨some 49, .build [.nil, .nil, .nil, .nil, .nil, .nil, .nil, .nil, .nil, .nil, .nil, .nil, .nil, .nil, .nil, .nil] [], none⟩, ⟨some 50, .mv (.tmp 11), none⟩, ⟨none, .store 16 (.tmp 6) (.tmp 49), none⟩, ⟨some 7, .mv (.tmp 50), none⟩]) .ret) .skip)) (.seq (.region [⟨some 52, .fieldA 4 (.tmp 3), none⟩, ⟨some 53, .load true 2 (.tmp 52), none⟩, ⟨some 54, .fieldA 6 (.tmp 3), none⟩, ⟨some 55, .load true 2 (.tmp 54), none⟩, ⟨some 56, .load true 2 (.tmp 4), none⟩, ⟨some 57, .fieldA 14 (.tmp 3), none⟩, ⟨some 58, .load true 2 (.tmp 57), none⟩, ⟨some 59, .load true 2 (.tmp 5), none⟩, ⟨some 60, .call (.c (.one (.fn 43 []))) 776 [.tmp 53, .tmp 55, .tmp 56, .tmp 58, .tmp 59], none⟩, ⟨some 51, .mv (.tmp 60), none⟩, ⟨some 61, .extract (.tmp 51) 0, none⟩, ⟨some 62, .extract (.tmp 51) 1, none⟩, ⟨some 12, .alloc 780 82 [.nil, .nil, .nil, .nil, .nil, .nil, .nil, .nil, .nil, .nil, .nil, .nil, .nil, .nil, .nil, .nil], none⟩, ⟨none, .store 16 (.tmp 12) (.tmp 61), none⟩, ⟨some 11, .mv (.tmp 62), none⟩]) (.seq (.seq (.region [⟨some 63, .mv (.tmp 11), none⟩, ⟨some 64, .bin .neq (.tmp 63) (.c (.one (.t (.int .i64 0)))), none⟩]) (.cond (.tmp 64) (.seq (.region [⟨some 65, .build [.nil, .nil, .nil, .nil, .nil, .nil, .nil, .nil, .nil, .nil, .nil, .nil, .nil, .nil, .nil, .nil] [], none⟩, ⟨some 66, .mv (.tmp 11), none⟩, ⟨none, .store 16 (.tmp 6) (.tmp 65), none⟩, ⟨some 7, .mv (.tmp 66), none⟩]) .ret) .skip)) (.seq (.draw [[], [0], [], [2], [], [], [5], [], [7], [6, 8], [], [1, 3, 4, 9, 10, 9], [11], [12], [12], [], [15, 13, 11, 0, 1, 2, 3, 4, 5, 6, 7, 8, 9, 10, 11, 12, 13, 15], [14, 16, 0, 1, 2, 3, 4, 5, 6, 7, 8, 9, 10, 11, 12, 13, 14, 15, 16]] [⟨some 68, .fieldA 0 (.tmp 3), none⟩, ⟨some 69, .load true 2 (.tmp 68), none⟩, ⟨some 70, .fieldA 6 (.tmp 3), none⟩, ⟨some 71, .load true 2 (.tmp 70), none⟩, ⟨some 72, .load true 2 (.tmp 4), none⟩, ⟨some 73, .fieldA 8 (.tmp 3), none⟩, ⟨some 74, .load true 2 (.tmp 73), none⟩, ⟨some 75, .fieldA 12 (.tmp 3), none⟩, ⟨some 76, .load true 2 (.tmp 75), none⟩, ⟨some 77, .call (.c (.one (.fn 44 []))) 969 [.tmp 74, .tmp 76], none⟩, ⟨some 78, .load true 2 (.tmp 5), none⟩, ⟨some 79, .call (.c (.one (.fn 43 []))) 971 [.tmp 69, .tmp 71, .tmp 72, .tmp 77, .tmp 78], none⟩, ⟨some 67, .mv (.tmp 79), none⟩, ⟨some 80, .extract (.tmp 67) 0, none⟩, ⟨some 81, .extract (.tmp 67) 1, none⟩, ⟨some 13, .alloc 975 82 [.nil, .nil, .nil, .nil, .nil, .nil, .nil, .nil, .nil, .nil, .nil, .nil, .nil, .nil, .nil, .nil], none⟩, ⟨none, .store 16 (.tmp 13) (.tmp 80), none⟩, ⟨some 11, .mv (.tmp 81), none⟩]) (.seq (.seq (.region [⟨some 82, .mv (.tmp 11), none⟩, ⟨some 83, .bin .neq (.tmp 82) (.c (.one (.t (.int .i64 0)))), none⟩]) (.cond (.tmp 83) (.seq (.region [⟨some 84, .build [.nil, .nil, .nil, .nil, .nil, .nil, .nil, .nil, .nil, .nil, .nil, .nil, .nil, .nil, .nil, .nil] [], none⟩, ⟨some 85, .mv (.tmp 11), none⟩, ⟨none, .store 16 (.tmp 6) (.tmp 84), none⟩, ⟨some 7, .mv (.tmp 85), none⟩]) .ret) .skip)) (.seq (.draw [[], [0], [], [2], [], [4], [], [6], [5, 7], [], [9], [1, 3, 8, 10, 8], [11], [12], [12], [], [15, 13, 11, 0, 1, 2, 3, 4, 5, 6, 7, 8, 9, 10, 11, 12, 13, 15], [14, 16, 0, 1, 2, 3, 4, 5, 6, 7, 8, 9, 10, 11, 12, 13, 14, 15, 16]] [⟨some 87, .fieldA 0 (.tmp 10), none⟩, ⟨some 88, .load true 10 (.tmp 87), none⟩, ⟨some 89, .fieldA 10 (.tmp 13), none⟩, ⟨some 90, .load true 2 (.tmp 89), none⟩, ⟨some 91, .fieldA 12 (.tmp 13), none⟩, ⟨some 92, .load true 2 (.tmp 91), none⟩, ⟨some 93, .fieldA 8 (.tmp 3), none⟩, ⟨some 94, .load true 2 (.tmp 93), none⟩, ⟨some 95, .call (.c (.one (.fn 44 []))) 1160 [.tmp 92, .tmp 94], none⟩, ⟨some 96, .fieldA 14 (.tmp 13), none⟩, ⟨some 97, .load true 2 (.tmp 96), none⟩, ⟨some 98, .call (.c (.one (.fn 45 []))) 1163 [.tmp 88, .tmp 90, .tmp 95, .tmp 97], none⟩, ⟨some 86, .mv (.tmp 98), none⟩, ⟨some 99, .extract (.tmp 86) 0, none⟩, ⟨some 100, .extract (.tmp 86) 1, none⟩, ⟨some 14, .alloc 1167 27 [.nil, .nil], none⟩, ⟨none, .store 2 (.tmp 14) (.tmp 99), none⟩, ⟨some 11, .mv (.tmp 100), none⟩]) (.seq (.seq (.region [⟨some 101, .mv (.tmp 11), none⟩, ⟨some 102, .bin .neq (.tmp 101) (.c (.one (.t (.int .i64 0)))), none⟩]) (.cond (.tmp 102) (.seq (.region [⟨some 103, .build [.nil, .nil, .nil, .nil, .nil, .nil, .nil, .nil, .nil, .nil, .nil, .nil, .nil, .nil, .nil, .nil] [], none⟩, ⟨some 104, .mv (.tmp 11), none⟩, ⟨none, .store 16 (.tmp 6) (.tmp 103), none⟩, ⟨some 7, .mv (.tmp 104), none⟩]) .ret) .skip)) (.seq (.draw [[], [0], [], [2], [], [4], [], [6], [5, 7], [], [9], [1, 3, 8, 10, 8], [11], [12], [12], [], [15, 13, 11, 0, 1, 2, 3, 4, 5, 6, 7, 8, 9, 10, 11, 12, 13, 15], [14, 16, 0, 1, 2, 3, 4, 5, 6, 7, 8, 9, 10, 11, 12, 13, 14, 15, 16]] [⟨some 106, .fieldA 0 (.tmp 12), none⟩, ⟨some 107, .load true 10 (.tmp 106), none⟩, ⟨some 108, .fieldA 10 (.tmp 13), none⟩, ⟨some 109, .load true 2 (.tmp 108), none⟩, ⟨some 110, .fieldA 12 (.tmp 13), none⟩, ⟨some 111, .load true 2 (.tmp 110), none⟩, ⟨some 112, .fieldA 10 (.tmp 3), none⟩, ⟨some 113, .load true 2 (.tmp 112), none⟩, ⟨some 114, .call (.c (.one (.fn 44 []))) 1352 [.tmp 111, .tmp 113], none⟩, ⟨some 115, .fieldA 14 (.tmp 13), none⟩, ⟨some 116, .load true 2 (.tmp 115), none⟩, ⟨some 117, .call (.c (.one (.fn 45 []))) 1355 [.tmp 107, .tmp 109, .tmp 114, .tmp 116], none⟩, ⟨some 105, .mv (.tmp 117), none⟩, ⟨some 118, .extract (.tmp 105) 0, none⟩, ⟨some 119, .extract (.tmp 105) 1, none⟩, ⟨some 15, .alloc 1359 27 [.nil, .nil], none⟩, ⟨none, .store 2 (.tmp 15) (.tmp 118), none⟩, ⟨some 11, .mv (.tmp 119), none⟩]) (.seq (.seq (.region [⟨some 120, .mv (.tmp 11), none⟩, ⟨some 121, .bin .neq (.tmp 120) (.c (.one (.t (.int .i64 0)))), none⟩]) (.cond (.tmp 121) (.seq (.region [⟨some 122, .build [.nil, .nil, .nil, .nil, .nil, .nil, .nil, .nil, .nil, .nil, .nil, .nil, .nil, .nil, .nil, .nil] [], none⟩, ⟨some 123, .mv (.tmp 11), none⟩, ⟨none, .store 16 (.tmp 6) (.tmp 122), none⟩, ⟨some 7, .mv (.tmp 123), none⟩]) .ret) .skip)) (.seq (.draw [[], [0], [], [2], [], [4], [], [6], [], [], [], [10], [], [12], [1, 3, 5, 7, 8, 9, 11, 13], [14, 7, 0, 1, 2, 3, 4, 5, 6, 7, 8, 9, 10, 11, 12, 13, 14], [15, 0, 1, 2, 3, 4, 5, 6, 7, 8, 9, 10, 11, 12, 13, 14, 15]] [⟨some 124, .fieldA 10 (.tmp 13), none⟩, ⟨some 125, .load true 2 (.tmp 124), none⟩, ⟨some 126, .fieldA 10 (.tmp 10), none⟩, ⟨some 127, .load true 2 (.tmp 126), none⟩, ⟨some 128, .fieldA 10 (.tmp 12), none⟩, ⟨some 129, .load true 2 (.tmp 128), none⟩, ⟨some 130, .load true 2 (.tmp 4), none⟩, ⟨some 131, .call (.c (.one (.fn 46 []))) 1543 [.tmp 130], none⟩, ⟨some 132, .load true 2 (.tmp 14), none⟩, ⟨some 133, .load true 2 (.tmp 15), none⟩, ⟨some 134, .fieldA 14 (.tmp 10), none⟩, ⟨some 135, .load true 2 (.tmp 134), none⟩, ⟨some 136, .fieldA 14 (.tmp 12), none⟩, ⟨some 137, .load true 2 (.tmp 136), none⟩, ⟨some 138, .build [.nil, .nil, .nil, .nil, .nil, .nil, .nil, .nil, .nil, .nil, .nil, .nil, .nil, .nil, .nil, .nil] [(0, (2, .tmp 125)), (2, (2, .tmp 127)), (4, (2, .tmp 129)), (6, (2, .tmp 131)), (8, (2, .tmp 132)), (10, (2, .tmp 133)), (12, (2, .tmp 135)), (14, (2, .tmp 137))], none⟩, ⟨none, .store 16 (.tmp 6) (.tmp 138), none⟩, ⟨some 7, .mv (.c (.one (.t (.int .i64 0)))), none⟩]) .ret))))))))))))))⟩
theorem k_sLift : cFn Tryz.prog Tryz.f15 = some c_sLift := by kernel_rfl
set_option maxHeartbeats 4000000 in
theorem sLift_ok (s : Sq) (x : Gr) (m : Pa) (h : TinySq s) (tx : tinyG x) (tm : tinyP m) : CallOK Tryz.prog 15 [s.v, x.v, m.v] (sqT (lfR s x m)) := by
  refine callOK_W (callS_W (by kernel_rfl) Tryz.func15 k_sLift (callable_of Tryz.func15 (by kernel_rfl)) (by simp [c_sLift]) ?_)
  simp [c_sLift, Sq.v, Sq.cs]
  refine callS_tree (svalidS_ok s h) ?_ ?_ ?_
  · rfl
  · rfl
  by_cases h1 : sqErr s = 0
  case neg =>
    have e : lfR s x m = (noS, sqErr s) := by simp [lfR, lfE, h1]
    simp [h1, sqT, e, noS, Sq.v, Sq.cs, edL]
  simp [h1]
  refine callS_tree (mvalid_ok x s.D m tx h.D tm) ?_ ?_ ?_
  · rfl
  · rfl
  by_cases h2 : morErr x s.D m = 0
  case neg =>
    have e : lfR s x m = (noS, morErr x s.D m) := by simp [lfR, lfE, h1, h2]
    simp [h2, sqT, e, noS, Sq.v, Sq.cs, edL]
  simp [h2]
  have ok := sqErr_ok h1
  refine callS_tree (scomm_ok s h ok) ?_ ?_ ?_
  · rfl
  · rfl
  cases h3 : commB s
  · have e : lfR s x m = (noS, 11) := by simp [lfR, lfE, h1, h2, h3]
    simp [sqT, e, noS, Sq.v, Sq.cs, edL]
  simp
  refine callS_tree (spull_ok (cornB s x m) ⟨h.B, tx, h.D, h.H, tm⟩) ?_ ?_ ?_
  · rfl
  · rfl
  by_cases h4 : pbErr (cornB s x m) = 0
  case neg =>
    have e : lfR s x m = (noS, pbErr (cornB s x m)) := by simp [lfR, lfE, h1, h2, h3, h4]
    simp [plT, pbR_no h4, h4, sqT, e, noS, Sq.v, Sq.cs, edL, Co.cs]
  simp [plT, pbR_ok h4, Co.cs]
  refine callS_tree (spull_ok (cornC s x m) ⟨h.C, tx, h.D, h.K, tm⟩) ?_ ?_ ?_
  · rfl
  · rfl
  by_cases h5 : pbErr (cornC s x m) = 0
  case neg =>
    have e : lfR s x m = (noS, pbErr (cornC s x m)) := by simp [lfR, lfE, h1, h2, h3, h4, h5]
    simp [plT, pbR_no h5, h5, sqT, e, noS, Sq.v, Sq.cs, edL, Co.cs]
  simp [dw0, dw1, dw2, dw3, plT, pbR_ok h5, Co.cs]
  first
  | refine callS_tree (sthen_ok s.F s.H h.F (ok.F.fits ok.H)) ?_ ?_ ?_
  | refine dCall_ok (sthen_ok s.F s.H h.F (ok.F.fits ok.H)) ?_ ?_ ?_
  · rfl
  · rfl
  simp [dw0, dw1, dw2, dw3]
  refine dCall_ok (spull_ok (cornA s x m) ⟨h.A, tx, h.D, thenP_tiny h.F, tm⟩) ?_ ?_ ?_
  · rfl
  · rfl
  by_cases h6 : pbErr (cornA s x m) = 0
  case neg =>
    have e : lfR s x m = (noS, pbErr (cornA s x m)) := by simp [lfR, lfE, h1, h2, h3, h4, h5, h6]
    simp [dw0, dw1, dw2, dw3, plT, pbR_no h6, h6, sqT, e, noS, Sq.v, Sq.cs, edL, Co.cs]
    try rfl
  have okA := (pbErr_few h6).1
  have tA : tinyG (pbG (cornA s x m)) := pbG_tiny h6
  have tD := pbDn_tiny h6
  have tU := pbUp_tiny h6
  simp [dw0, dw1, dw2, dw3, plT, pbR_ok h6, Co.cs]
  refine ⟨rfl, ?_⟩
  refine dCall_ok (sthen_ok (pbDn (cornA s x m)) s.F tD (fits_dn okA ok.F)) ?_ ?_ ?_
  · rfl
  · rfl
  simp [dw0, dw1, dw2, dw3]
  refine dCall_ok (pMed_ok (cornB s x m) (pbG (cornA s x m)) (lfF s x m) (lfU s x m) ⟨h.B, tx, h.D, h.H, tm⟩ tA (thenP_tiny tD) tU) ?_ ?_ ?_
  · rfl
  · rfl
  by_cases h7 : medE (cornB s x m) (pbG (cornA s x m)) (lfF s x m) (lfU s x m) = 0
  case neg =>
    have e : lfR s x m = (noS, medE (cornB s x m) (pbG (cornA s x m)) (lfF s x m) (lfU s x m)) := by simp [lfR, lfE, h1, h2, h3, h4, h5, h6, h7]
    simp [dw0, dw1, dw2, dw3, medT, medR_no h7, h7, sqT, e, noS, Sq.v, Sq.cs, edL, Co.cs]
    try rfl
  simp [dw0, dw1, dw2, dw3, medT, medR_ok h7]
  refine ⟨rfl, ?_⟩
  refine dCall_ok (sthen_ok (pbDn (cornA s x m)) s.G tD (fits_dn okA ok.G)) ?_ ?_ ?_
  · rfl
  · rfl
  simp [dw0, dw1, dw2, dw3]
  refine dCall_ok (pMed_ok (cornC s x m) (pbG (cornA s x m)) (lfG s x m) (lfU s x m) ⟨h.C, tx, h.D, h.K, tm⟩ tA (thenP_tiny tD) tU) ?_ ?_ ?_
  · rfl
  · rfl
  by_cases h8 : medE (cornC s x m) (pbG (cornA s x m)) (lfG s x m) (lfU s x m) = 0
  case neg =>
    have e : lfR s x m = (noS, medE (cornC s x m) (pbG (cornA s x m)) (lfG s x m) (lfU s x m)) := by simp [lfR, lfE, h1, h2, h3, h4, h5, h6, h7, h8]
    simp [dw0, dw1, dw2, dw3, medT, medR_no h8, h8, sqT, e, noS, Sq.v, Sq.cs, edL, Co.cs]
    try rfl
  have e : lfR s x m = (lfS s x m, 0) := by simp [lfR, lfE, h1, h2, h3, h4, h5, h6, h7, h8]
  simp [dw0, dw1, dw2, dw3, medT, medR_ok h8]
  refine ⟨rfl, ?_⟩
  first
  | refine dCall_ok (scopied_ok x tx) ?_ ?_ ?_
  | refine callS_tree (scopied_ok x tx) ?_ ?_ ?_
  · rfl
  · rfl
  simp [dw0, dw1, dw2, dw3, sqT, e, lfS, Sq.v, Sq.cs]
  try rfl

def c_rLift : MFunc := ⟨145, [.cell 6 true 16, .tmp 7], .seq (.region [⟨some 3, .box 0 29 (.tmp 0), none⟩, ⟨some 4, .box 1 25 (.tmp 1), none⟩, ⟨some 5, .box 2 27 (.tmp 2), none⟩, ⟨some 6, .alloc 3 29 [.nil, .nil, .nil, .nil, .nil, .nil, .nil, .nil, .nil, .nil, .nil, .nil, .nil, .nil, .nil, .nil], none⟩, ⟨some 7, .mv (.c (.one (.t (.int .i64 0)))), none⟩]) (.seq (.seq (.region [⟨some 24, .load true 16 (.tmp 3), none⟩, ⟨some 25, .call (.c (.one (.fn 47 []))) 65 [.tmp 24], none⟩, ⟨some 8, .mv (.tmp 25), none⟩]) (.seq (.region [⟨some 26, .mv (.tmp 8), none⟩, ⟨some 27, .bin .neq (.tmp 26) (.c (.one (.t (.int .i64 0)))), none⟩]) (.cond (.tmp 27) (.seq (.region [⟨some 28, .build [.nil, .nil, .nil, .nil, .nil, .nil, .nil, .nil, .nil, .nil, .nil, .nil, .nil, .nil, .nil, .nil] [], none⟩, ⟨some 29, .mv (.tmp 8), none⟩, ⟨none, .store 16 (.tmp 6) (.tmp 28), none⟩, ⟨some 7, .mv (.tmp 29), none⟩]) .ret) .skip))) (.seq (.seq (.region [⟨some 30, .load true 2 (.tmp 4), none⟩, ⟨some 31, .fieldA 6 (.tmp 3), none⟩, ⟨some 32, .load true 2 (.tmp 31), none⟩, ⟨some 33, .load true 2 (.tmp 5), none⟩, ⟨some 34, .call (.c (.one (.fn 48 []))) 260 [.tmp 30, .tmp 32, .tmp 33], none⟩, ⟨some 9, .mv (.tmp 34), none⟩]) (.seq (.region [⟨some 35, .mv (.tmp 9), none⟩, ⟨some 36, .bin .neq (.tmp 35) (.c (.one (.t (.int .i64 0)))), none⟩]) (.cond (.tmp 36) (.seq (.region [⟨some 37, .build [.nil, .nil, .nil, .nil, .nil, .nil, .nil, .nil, .nil, .nil, .nil, .nil, .nil, .nil, .nil, .nil] [], none⟩, ⟨some 38, .mv (.tmp 9), none⟩, ⟨none, .store 16 (.tmp 6) (.tmp 37), none⟩, ⟨some 7, .mv (.tmp 38), none⟩]) .ret) .skip))) (.seq (.seq (.region [⟨some 39, .load true 16 (.tmp 3), none⟩, ⟨some 40, .call (.c (.one (.fn 49 []))) 449 [.tmp 39], none⟩, ⟨some 41, .not (.tmp 40), none⟩]) (.cond (.tmp 41) (.seq (.region [⟨some 42, .build [.nil, .nil, .nil, .nil, .nil, .nil, .nil, .nil, .nil, .nil, .nil, .nil, .nil, .nil, .nil, .nil] [], none⟩, ⟨none, .store 16 (.tmp 6) (.tmp 42), none⟩, ⟨some 7, .mv (.c (.one (.t (.int .i64 11)))), none⟩]) .ret) .skip)) (.seq (.region [⟨some 43, .fieldA 2 (.tmp 3), none⟩, ⟨some 44, .load true 2 (.tmp 43), none⟩, ⟨some 45, .load true 2 (.tmp 4), none⟩, ⟨some 46, .fieldA 6 (.tmp 3), none⟩, ⟨some 47, .load true 2 (.tmp 46), none⟩, ⟨some 48, .fieldA 12 (.tmp 3), none⟩, ⟨some 49, .load true 2 (.tmp 48), none⟩, ⟨some 50, .load true 2 (.tmp 5), none⟩, ⟨some 51, .build [.nil, .nil, .nil, .nil, .nil, .nil, .nil, .nil, .nil, .nil] [(0, (2, .tmp 44)), (2, (2, .tmp 45)), (4, (2, .tmp 47)), (6, (2, .tmp 49)), (8, (2, .tmp 50))], none⟩, ⟨some 10, .alloc 585 80 [.nil, .nil, .nil, .nil, .nil, .nil, .nil, .nil, .nil, .nil], none⟩, ⟨none, .store 10 (.tmp 10) (.tmp 51), none⟩]) (.seq (.region [⟨some 53, .load true 10 (.tmp 10), none⟩, ⟨some 54, .call (.c (.one (.fn 50 []))) 641 [.tmp 53], none⟩, ⟨some 52, .mv (.tmp 54), none⟩, ⟨some 55, .extract (.tmp 52) 0, none⟩, ⟨some 56, .extract (.tmp 52) 1, none⟩, ⟨some 57, .extract (.tmp 52) 2, none⟩, ⟨some 58, .extract (.tmp 52) 3, none⟩, ⟨some 11, .alloc 647 25 [.nil, .nil], none⟩, ⟨some 12, .alloc 648 27 [.nil, .nil], none⟩, ⟨some 13, .alloc 649 27 [.nil, .nil], none⟩, ⟨none, .store 2 (.tmp 11) (.tmp 55), none⟩, ⟨none, .store 2 (.tmp 12) (.tmp 56), none⟩, ⟨none, .store 2 (.tmp 13) (.tmp 57), none⟩, ⟨some 14, .mv (.tmp 58), none⟩]) (.seq (.seq (.region [⟨some 59, .mv (.tmp 14), none⟩, ⟨some 60, .bin .neq (.tmp 59) (.c (.one (.t (.int .i64 0)))), none⟩]) (.cond (.tmp 60) (.seq (.region [⟨some 61, .build [.nil, .nil, .nil, .nil, .nil, .nil, .nil, .nil, .nil, .nil, .nil, .nil, .nil, .nil, .nil, .nil] [], none⟩, ⟨some 62, .mv (.tmp 14), none⟩, ⟨none, .store 16 (.tmp 6) (.tmp 61), none⟩, ⟨some 7, .mv (.tmp 62), none⟩]) .ret) .skip)) (.seq (.region [⟨some 63, .fieldA 4 (.tmp 3), none⟩, ⟨some 64, .load true 2 (.tmp 63), none⟩, ⟨some 65, .load true 2 (.tmp 4), none⟩, ⟨some 66, .fieldA 6 (.tmp 3), none⟩, ⟨some 67, .load true 2 (.tmp 66), none⟩, ⟨some 68, .fieldA 14 (.tmp 3), none⟩, ⟨some 69, .load true 2 (.tmp 68), none⟩, ⟨some 70, .load true 2 (.tmp 5), none⟩, ⟨some 71, .build [.nil, .nil, .nil, .nil, .nil, .nil, .nil, .nil, .nil, .nil] [(0, (2, .tmp 64)), (2, (2, .tmp 65)), (4, (2, .tmp 67)), (6, (2, .tmp 69)), (8, (2, .tmp 70))], none⟩, ⟨some 15, .alloc 841 80 [.nil, .nil, .nil, .nil, .nil, .nil, .nil, .nil, .nil, .nil], none⟩, ⟨none, .store 10 (.tmp 15) (.tmp 71), none⟩]) (.seq (.region [⟨some 73, .load true 10 (.tmp 15), none⟩, ⟨some 74, .call (.c (.one (.fn 50 []))) 897 [.tmp 73], none⟩, ⟨some 72, .mv (.tmp 74), none⟩, ⟨some 75, .extract (.tmp 72) 0, none⟩, ⟨some 76, .extract (.tmp 72) 1, none⟩, ⟨some 77, .extract (.tmp 72) 2, none⟩, ⟨some 78, .extract (.tmp 72) 3, none⟩, ⟨some 16, .alloc 903 25 [.nil, .nil], none⟩, ⟨some 17, .alloc 904 27 [.nil, .nil], none⟩, ⟨some 18, .alloc 905 27 [.nil, .nil], none⟩, ⟨none, .store 2 (.tmp 16) (.tmp 75), none⟩, ⟨none, .store 2 (.tmp 17) (.tmp 76), none⟩, ⟨none, .store 2 (.tmp 18) (.tmp 77), none⟩, ⟨some 14, .mv (.tmp 78), none⟩]) (.seq (.seq (.region [⟨some 79, .mv (.tmp 14), none⟩, ⟨some 80, .bin .neq (.tmp 79) (.c (.one (.t (.int .i64 0)))), none⟩]) (.cond (.tmp 80) (.seq (.region [⟨some 81, .build [.nil, .nil, .nil, .nil, .nil, .nil, .nil, .nil, .nil, .nil, .nil, .nil, .nil, .nil, .nil, .nil] [], none⟩, ⟨some 82, .mv (.tmp 14), none⟩, ⟨none, .store 16 (.tmp 6) (.tmp 81), none⟩, ⟨some 7, .mv (.tmp 82), none⟩]) .ret) .skip)) (.seq (.draw [[], [0], [], [], [3], [], [5], [], [7], [6, 8], [], [1, 2, 4, 9, 10], [11, 9], [12], [13], [13], [13], [13], [], [], [], [18, 14, 12, 0, 1, 2, 3, 4, 5, 6, 7, 8, 9, 10, 11, 12, 13, 14, 18, 19, 20], [19, 15, 21, 0, 1, 2, 3, 4, 5, 6, 7, 8, 9, 10, 11, 12, 13, 14, 15, 18, 19, 20, 21], [20, 16, 22, 0, 1, 2, 3, 4, 5, 6, 7, 8, 9, 10, 11, 12, 13, 14, 15, 16, 18, 19, 20, 21, 22], [17, 23, 0, 1, 2, 3, 4, 5, 6, 7, 8, 9, 10, 11, 12, 13, 14, 15, 16, 17, 18, 19, 20, 21, 22, 23]] [⟨some 84, .fieldA 0 (.tmp 3), none⟩, ⟨some 85, .load true 2 (.tmp 84), none⟩, ⟨some 86, .load true 2 (.tmp 4), none⟩, ⟨some 87, .fieldA 6 (.tmp 3), none⟩, ⟨some 88, .load true 2 (.tmp 87), none⟩, ⟨some 89, .fieldA 8 (.tmp 3), none⟩, ⟨some 90, .load true 2 (.tmp 89), none⟩, ⟨some 91, .fieldA 12 (.tmp 3), none⟩, ⟨some 92, .load true 2 (.tmp 91), none⟩, ⟨some 93, .call (.c (.one (.fn 39 []))) 1097 [.tmp 90, .tmp 92], none⟩, ⟨some 94, .load true 2 (.tmp 5), none⟩, ⟨some 95, .build [.nil, .nil, .nil, .nil, .nil, .nil, .nil, .nil, .nil, .nil] [(0, (2, .tmp 85)), (2, (2, .tmp 86)), (4, (2, .tmp 88)), (6, (2, .tmp 93)), (8, (2, .tmp 94))], none⟩, ⟨some 96, .call (.c (.one (.fn 50 []))) 1100 [.tmp 95], none⟩, ⟨some 83, .mv (.tmp 96), none⟩, ⟨some 97, .extract (.tmp 83) 0, none⟩, ⟨some 98, .extract (.tmp 83) 1, none⟩, ⟨some 99, .extract (.tmp 83) 2, none⟩, ⟨some 100, .extract (.tmp 83) 3, none⟩, ⟨some 19, .alloc 1106 25 [.nil, .nil], none⟩, ⟨some 20, .alloc 1107 27 [.nil, .nil], none⟩, ⟨some 21, .alloc 1108 27 [.nil, .nil], none⟩, ⟨none, .store 2 (.tmp 19) (.tmp 97), none⟩, ⟨none, .store 2 (.tmp 20) (.tmp 98), none⟩, ⟨none, .store 2 (.tmp 21) (.tmp 99), none⟩, ⟨some 14, .mv (.tmp 100), none⟩]) (.seq (.seq (.region [⟨some 101, .mv (.tmp 14), none⟩, ⟨some 102, .bin .neq (.tmp 101) (.c (.one (.t (.int .i64 0)))), none⟩]) (.cond (.tmp 102) (.seq (.region [⟨some 103, .build [.nil, .nil, .nil, .nil, .nil, .nil, .nil, .nil, .nil, .nil, .nil, .nil, .nil, .nil, .nil, .nil] [], none⟩, ⟨some 104, .mv (.tmp 14), none⟩, ⟨none, .store 16 (.tmp 6) (.tmp 103), none⟩, ⟨some 7, .mv (.tmp 104), none⟩]) .ret) .skip)) (.seq (.draw [[], [], [], [], [3], [2, 4], [], [0, 1, 5, 6, 5], [7], [8], [8], [], [11, 9, 7, 0, 1, 2, 3, 4, 5, 6, 7, 8, 9, 11], [10, 12, 0, 1, 2, 3, 4, 5, 6, 7, 8, 9, 10, 11, 12]] [⟨some 106, .load true 10 (.tmp 10), none⟩, ⟨some 107, .load true 2 (.tmp 19), none⟩, ⟨some 108, .load true 2 (.tmp 20), none⟩, ⟨some 109, .fieldA 8 (.tmp 3), none⟩, ⟨some 110, .load true 2 (.tmp 109), none⟩, ⟨some 111, .call (.c (.one (.fn 39 []))) 1285 [.tmp 108, .tmp 110], none⟩, ⟨some 112, .load true 2 (.tmp 21), none⟩, ⟨some 113, .call (.c (.one (.fn 51 []))) 1287 [.tmp 106, .tmp 107, .tmp 111, .tmp 112], none⟩, ⟨some 105, .mv (.tmp 113), none⟩, ⟨some 114, .extract (.tmp 105) 0, none⟩, ⟨some 115, .extract (.tmp 105) 1, none⟩, ⟨some 22, .alloc 1291 27 [.nil, .nil], none⟩, ⟨none, .store 2 (.tmp 22) (.tmp 114), none⟩, ⟨some 14, .mv (.tmp 115), none⟩]) (.seq (.seq (.region [⟨some 116, .mv (.tmp 14), none⟩, ⟨some 117, .bin .neq (.tmp 116) (.c (.one (.t (.int .i64 0)))), none⟩]) (.cond (.tmp 117) (.seq (.region [⟨some 118, .build [.nil, .nil, .nil, .nil, .nil, .nil, .nil, .nil, .nil, .nil, .nil, .nil, .nil, .nil, .nil, .nil] [], none⟩, ⟨some 119, .mv (.tmp 14), none⟩, ⟨none, .store 16 (.tmp 6) (.tmp 118), none⟩, ⟨some 7, .mv (.tmp 119), none⟩]) .ret) .skip)) (.seq (.draw [[], [], [], [], [3], [2, 4], [], [0, 1, 5, 6, 5], [7], [8], [8], [], [11, 9, 7, 0, 1, 2, 3, 4, 5, 6, 7, 8, 9, 11], [10, 12, 0, 1, 2, 3, 4, 5, 6, 7, 8, 9, 10, 11, 12]] [⟨some 121, .load true 10 (.tmp 15), none⟩, ⟨some 122, .load true 2 (.tmp 19), none⟩, ⟨some 123, .load true 2 (.tmp 20), none⟩, ⟨some 124, .fieldA 10 (.tmp 3), none⟩, ⟨some 125, .load true 2 (.tmp 124), none⟩, ⟨some 126, .call (.c (.one (.fn 39 []))) 1477 [.tmp 123, .tmp 125], none⟩, ⟨some 127, .load true 2 (.tmp 21), none⟩, ⟨some 128, .call (.c (.one (.fn 51 []))) 1479 [.tmp 121, .tmp 122, .tmp 126, .tmp 127], none⟩, ⟨some 120, .mv (.tmp 128), none⟩, ⟨some 129, .extract (.tmp 120) 0, none⟩, ⟨some 130, .extract (.tmp 120) 1, none⟩, ⟨some 23, .alloc 1483 27 [.nil, .nil], none⟩, ⟨none, .store 2 (.tmp 23) (.tmp 129), none⟩, ⟨some 14, .mv (.tmp 130), none⟩]) (.seq (.seq (.region [⟨some 131, .mv (.tmp 14), none⟩, ⟨some 132, .bin .neq (.tmp 131) (.c (.one (.t (.int .i64 0)))), none⟩]) (.cond (.tmp 132) (.seq (.region [⟨some 133, .build [.nil, .nil, .nil, .nil, .nil, .nil, .nil, .nil, .nil, .nil, .nil, .nil, .nil, .nil, .nil, .nil] [], none⟩, ⟨some 134, .mv (.tmp 14), none⟩, ⟨none, .store 16 (.tmp 6) (.tmp 133), none⟩, ⟨some 7, .mv (.tmp 134), none⟩]) .ret) .skip)) (.seq (.draw [[], [], [], [], [3], [], [], [], [], [0, 1, 2, 4, 5, 6, 7, 8], [9, 4, 0, 1, 2, 3, 4, 5, 6, 7, 8, 9], [10, 0, 1, 2, 3, 4, 5, 6, 7, 8, 9, 10]] [⟨some 135, .load true 2 (.tmp 19), none⟩, ⟨some 136, .load true 2 (.tmp 11), none⟩, ⟨some 137, .load true 2 (.tmp 16), none⟩, ⟨some 138, .load true 2 (.tmp 4), none⟩, ⟨some 139, .call (.c (.one (.fn 52 []))) 1668 [.tmp 138], none⟩, ⟨some 140, .load true 2 (.tmp 22), none⟩, ⟨some 141, .load true 2 (.tmp 23), none⟩, ⟨some 142, .load true 2 (.tmp 13), none⟩, ⟨some 143, .load true 2 (.tmp 18), none⟩, ⟨some 144, .build [.nil, .nil, .nil, .nil, .nil, .nil, .nil, .nil, .nil, .nil, .nil, .nil, .nil, .nil, .nil, .nil] [(0, (2, .tmp 135)), (2, (2, .tmp 136)), (4, (2, .tmp 137)), (6, (2, .tmp 139)), (8, (2, .tmp 140)), (10, (2, .tmp 141)), (12, (2, .tmp 142)), (14, (2, .tmp 143))], none⟩, ⟨none, .store 16 (.tmp 6) (.tmp 144), none⟩, ⟨some 7, .mv (.c (.one (.t (.int .i64 0)))), none⟩]) .ret))))))))))))))))⟩
theorem k_rLift : cFn Tryz.prog Tryz.f16 = some c_rLift := by kernel_rfl
set_option maxHeartbeats 4000000 in
theorem rLift_ok (s : Sq) (x : Gr) (m : Pa) (h : TinySq s) (tx : tinyG x) (tm : tinyP m) : CallOK Tryz.prog 16 [s.v, x.v, m.v] (sqT (lfR s x m)) := by
  refine callOK_W (callS_W (by kernel_rfl) Tryz.func16 k_rLift (callable_of Tryz.func16 (by kernel_rfl)) (by simp [c_rLift]) ?_)
  simp [c_rLift, Sq.v, Sq.cs]
  refine callS_tree (rvalidS_ok s h) ?_ ?_ ?_
  · rfl
  · rfl
  by_cases h1 : sqErr s = 0
  case neg =>
    have e : lfR s x m = (noS, sqErr s) := by simp [lfR, lfE, h1]
    simp [h1, sqT, e, noS, Sq.v, Sq.cs, edL]
  simp [h1]
  refine callS_tree (rvalid6_ok x s.D m tx h.D tm) ?_ ?_ ?_
  · rfl
  · rfl
  by_cases h2 : morErr x s.D m = 0
  case neg =>
    have e : lfR s x m = (noS, morErr x s.D m) := by simp [lfR, lfE, h1, h2]
    simp [h2, sqT, e, noS, Sq.v, Sq.cs, edL]
  simp [h2]
  have ok := sqErr_ok h1
  refine callS_tree (rcomm_ok s h ok) ?_ ?_ ?_
  · rfl
  · rfl
  cases h3 : commB s
  · have e : lfR s x m = (noS, 11) := by simp [lfR, lfE, h1, h2, h3]
    simp [sqT, e, noS, Sq.v, Sq.cs, edL]
  simp
  refine callS_tree (rOf_ok (cornB s x m) ⟨h.B, tx, h.D, h.H, tm⟩) ?_ ?_ ?_
  · rfl
  · rfl
  by_cases h4 : pbErr (cornB s x m) = 0
  case neg =>
    have e : lfR s x m = (noS, pbErr (cornB s x m)) := by simp [lfR, lfE, h1, h2, h3, h4]
    simp [pbRt, pbR_no h4, h4, sqT, e, noS, Sq.v, Sq.cs, edL, Co.cs]
  simp [pbRt, pbR_ok h4, Co.cs]
  refine callS_tree (rOf_ok (cornC s x m) ⟨h.C, tx, h.D, h.K, tm⟩) ?_ ?_ ?_
  · rfl
  · rfl
  by_cases h5 : pbErr (cornC s x m) = 0
  case neg =>
    have e : lfR s x m = (noS, pbErr (cornC s x m)) := by simp [lfR, lfE, h1, h2, h3, h4, h5]
    simp [pbRt, pbR_no h5, h5, sqT, e, noS, Sq.v, Sq.cs, edL, Co.cs]
  simp [dw0, dw1, dw2, dw3, pbRt, pbR_ok h5, Co.cs]
  first
  | refine callS_tree (then6_ok s.F s.H h.F (ok.F.fits ok.H)) ?_ ?_ ?_
  | refine dCall_ok (then6_ok s.F s.H h.F (ok.F.fits ok.H)) ?_ ?_ ?_
  · rfl
  · rfl
  simp [dw0, dw1, dw2, dw3]
  first
  | refine callS_tree (rOf_ok (cornA s x m) ⟨h.A, tx, h.D, thenP_tiny h.F, tm⟩) ?_ ?_ ?_
  | refine dCall_ok (rOf_ok (cornA s x m) ⟨h.A, tx, h.D, thenP_tiny h.F, tm⟩) ?_ ?_ ?_
  · rfl
  · rfl
  by_cases h6 : pbErr (cornA s x m) = 0
  case neg =>
    have e : lfR s x m = (noS, pbErr (cornA s x m)) := by simp [lfR, lfE, h1, h2, h3, h4, h5, h6]
    simp [dw0, dw1, dw2, dw3, pbRt, pbR_no h6, h6, sqT, e, noS, Sq.v, Sq.cs, edL, Co.cs]
    try rfl
  have okA := (pbErr_few h6).1
  have tA : tinyG (pbG (cornA s x m)) := pbG_tiny h6
  have tD := pbDn_tiny h6
  have tU := pbUp_tiny h6
  simp [dw0, dw1, dw2, dw3, pbRt, pbR_ok h6, Co.cs]
  refine ⟨rfl, ?_⟩
  refine dCall_ok (then6_ok (pbDn (cornA s x m)) s.F tD (fits_dn okA ok.F)) ?_ ?_ ?_
  · rfl
  · rfl
  simp [dw0, dw1, dw2, dw3]
  refine dCall_ok (rMed_ok (cornB s x m) (pbG (cornA s x m)) (lfF s x m) (lfU s x m) ⟨h.B, tx, h.D, h.H, tm⟩ tA (thenP_tiny tD) tU) ?_ ?_ ?_
  · rfl
  · rfl
  by_cases h7 : medE (cornB s x m) (pbG (cornA s x m)) (lfF s x m) (lfU s x m) = 0
  case neg =>
    have e : lfR s x m = (noS, medE (cornB s x m) (pbG (cornA s x m)) (lfF s x m) (lfU s x m)) := by simp [lfR, lfE, h1, h2, h3, h4, h5, h6, h7]
    simp [dw0, dw1, dw2, dw3, medT, medR_no h7, h7, sqT, e, noS, Sq.v, Sq.cs, edL, Co.cs]
    try rfl
  simp [dw0, dw1, dw2, dw3, medT, medR_ok h7]
  refine ⟨rfl, ?_⟩
  refine dCall_ok (then6_ok (pbDn (cornA s x m)) s.G tD (fits_dn okA ok.G)) ?_ ?_ ?_
  · rfl
  · rfl
  simp [dw0, dw1, dw2, dw3]
  refine dCall_ok (rMed_ok (cornC s x m) (pbG (cornA s x m)) (lfG s x m) (lfU s x m) ⟨h.C, tx, h.D, h.K, tm⟩ tA (thenP_tiny tD) tU) ?_ ?_ ?_
  · rfl
  · rfl
  by_cases h8 : medE (cornC s x m) (pbG (cornA s x m)) (lfG s x m) (lfU s x m) = 0
  case neg =>
    have e : lfR s x m = (noS, medE (cornC s x m) (pbG (cornA s x m)) (lfG s x m) (lfU s x m)) := by simp [lfR, lfE, h1, h2, h3, h4, h5, h6, h7, h8]
    simp [dw0, dw1, dw2, dw3, medT, medR_no h8, h8, sqT, e, noS, Sq.v, Sq.cs, edL, Co.cs]
    try rfl
  have e : lfR s x m = (lfS s x m, 0) := by simp [lfR, lfE, h1, h2, h3, h4, h5, h6, h7, h8]
  simp [dw0, dw1, dw2, dw3, medT, medR_ok h8]
  refine ⟨rfl, ?_⟩
  first
  | refine dCall_ok (copied5_ok x tx) ?_ ?_ ?_
  | refine callS_tree (copied5_ok x tx) ?_ ?_ ?_
  · rfl
  · rfl
  simp [dw0, dw1, dw2, dw3, sqT, e, lfS, Sq.v, Sq.cs]
  try rfl

theorem medC_tiny' {c : Co} {h k : Pa} (th : tinyP h) : tinyP (medC c h k) := medC_tiny th
theorem lfR_tiny {s : Sq} {x : Gr} {m : Pa} (tx : tinyG x) : TinySq (lfR s x m).1 := by
  unfold lfR
  split
  · rename_i h
    have h4 : pbErr (cornB s x m) = 0 ∧ pbErr (cornC s x m) = 0 ∧ pbErr (cornA s x m) = 0 := by
      unfold lfE at h
      repeat' split at h
      all_goals first | exact ⟨by assumption, by assumption, by assumption⟩ | (exact absurd h (by assumption)) | cases h
    have tD := pbDn_tiny h4.2.2
    exact ⟨pbG_tiny h4.2.2, pbG_tiny h4.1, pbG_tiny h4.2.1, tx, medC_tiny (thenP_tiny tD), medC_tiny (thenP_tiny tD), pbUp_tiny h4.1, pbUp_tiny h4.2.1⟩
  · exact noS_tiny

def c_lawLift : MFunc := ⟨51, [.tmp 6], .seq (.region [⟨some 3, .box 0 29 (.tmp 0), none⟩, ⟨some 4, .box 1 25 (.tmp 1), none⟩, ⟨some 5, .box 2 27 (.tmp 2), none⟩, ⟨some 6, .mv (.c (.one (.t (.bool false)))), none⟩]) (.seq (.seq (.region [⟨some 11, .call (.c (.one (.fn 11 []))) 64 [], none⟩, ⟨some 12, .not (.tmp 11), none⟩, ⟨some 13, .mv (.tmp 12), none⟩, ⟨some 14, .load true 16 (.tmp 3), some (13, false)⟩, ⟨some 15, .call (.c (.one (.fn 12 []))) 68 [.tmp 14], some (13, false)⟩, ⟨some 16, .not (.tmp 15), some (13, false)⟩, ⟨some 17, .pick (.tmp 13) (.c (.one (.t (.bool true)))) (.tmp 16), none⟩, ⟨some 18, .mv (.tmp 17), none⟩, ⟨some 19, .load true 2 (.tmp 4), some (18, false)⟩, ⟨some 20, .call (.c (.one (.fn 13 []))) 73 [.tmp 19], some (18, false)⟩, ⟨some 21, .not (.tmp 20), some (18, false)⟩, ⟨some 22, .pick (.tmp 18) (.c (.one (.t (.bool true)))) (.tmp 21), none⟩, ⟨some 23, .mv (.tmp 22), none⟩, ⟨some 24, .load true 2 (.tmp 5), some (23, false)⟩, ⟨some 25, .call (.c (.one (.fn 14 []))) 78 [.tmp 24, .c (.one (.t (.int .i64 140)))], some (23, false)⟩, ⟨some 26, .not (.tmp 25), some (23, false)⟩, ⟨some 27, .pick (.tmp 23) (.c (.one (.t (.bool true)))) (.tmp 26), none⟩]) (.cond (.tmp 27) (.seq (.region [⟨some 28, .call (.c (.one (.fn 11 []))) 128 [], none⟩, ⟨some 6, .mv (.tmp 28), none⟩]) .ret) .skip)) (.seq (.region [⟨some 30, .load true 16 (.tmp 3), none⟩, ⟨some 31, .load true 2 (.tmp 4), none⟩, ⟨some 32, .load true 2 (.tmp 5), none⟩, ⟨some 33, .call (.c (.one (.fn 15 []))) 195 [.tmp 30, .tmp 31, .tmp 32], none⟩, ⟨some 29, .mv (.tmp 33), none⟩, ⟨some 34, .extract (.tmp 29) 0, none⟩, ⟨some 35, .extract (.tmp 29) 1, none⟩, ⟨some 7, .alloc 199 29 [.nil, .nil, .nil, .nil, .nil, .nil, .nil, .nil, .nil, .nil, .nil, .nil, .nil, .nil, .nil, .nil], none⟩, ⟨none, .store 16 (.tmp 7) (.tmp 34), none⟩, ⟨some 8, .mv (.tmp 35), none⟩]) (.seq (.region [⟨some 37, .load true 16 (.tmp 3), none⟩, ⟨some 38, .load true 2 (.tmp 4), none⟩, ⟨some 39, .load true 2 (.tmp 5), none⟩, ⟨some 40, .call (.c (.one (.fn 16 []))) 259 [.tmp 37, .tmp 38, .tmp 39], none⟩, ⟨some 36, .mv (.tmp 40), none⟩, ⟨some 41, .extract (.tmp 36) 0, none⟩, ⟨some 42, .extract (.tmp 36) 1, none⟩, ⟨some 9, .alloc 263 29 [.nil, .nil, .nil, .nil, .nil, .nil, .nil, .nil, .nil, .nil, .nil, .nil, .nil, .nil, .nil, .nil], none⟩, ⟨none, .store 16 (.tmp 9) (.tmp 41), none⟩, ⟨some 10, .mv (.tmp 42), none⟩]) (.seq (.region [⟨some 43, .mv (.tmp 8), none⟩, ⟨some 44, .mv (.tmp 10), none⟩, ⟨some 45, .bin .eql (.tmp 43) (.tmp 44), none⟩, ⟨some 46, .mv (.tmp 45), none⟩, ⟨some 47, .load true 16 (.tmp 7), some (46, true)⟩, ⟨some 48, .load true 16 (.tmp 9), some (46, true)⟩, ⟨some 49, .call (.c (.one (.fn 17 []))) 326 [.tmp 47, .tmp 48], some (46, true)⟩, ⟨some 50, .pick (.tmp 46) (.tmp 49) (.c (.one (.t (.bool false)))), none⟩, ⟨some 6, .mv (.tmp 50), none⟩]) .ret))))⟩
theorem k_lawLift : cFn Tryz.prog Tryz.f3 = some c_lawLift := by kernel_rfl
set_option maxHeartbeats 2000000 in
theorem lawLift_ok (s : Sq) (x : Gr) (m : Pa) (h : HugeQ s) (hm : huge m.nodes.length ∧ huge m.edges.length) : CallOK Tryz.prog 3 [s.v, x.v, m.v] (.sv (false, [.bool true])) := by
  refine callOK_W (callS_W (by kernel_rfl) Tryz.func3 k_lawLift (callable_of Tryz.func3 (by kernel_rfl)) (by simp [c_lawLift]) ?_)
  simp [c_lawLift, Sq.v, Sq.cs]
  refine callS_tree awake14_ok ?_ ?_ ?_
  · rfl
  · rfl
  simp
  refine callS_tree (few14_ok s h) ?_ ?_ ?_
  · rfl
  · rfl
  cases hf : fewQ s
  · simp
    refine callS_tree awake14_ok ?_ ?_ ?_
    · rfl
    · rfl
    simp
  simp
  refine callS_tree (few5_ok x) ?_ ?_ ?_
  · rfl
  · rfl
  cases hx : fewG x
  · simp
    refine callS_tree awake14_ok ?_ ?_ ?_
    · rfl
    · rfl
    simp
  simp
  refine callS_tree (few6_ok m 140 hm.1 hm.2) ?_ ?_ ?_
  · rfl
  · rfl
  cases hk : fewP m 140
  · simp
    refine callS_tree awake14_ok ?_ ?_ ?_
    · rfl
    · rfl
    simp
  have hs := tiny_fewQ hf
  have tx := tiny_fewG hx
  have tm := tiny_fewP hk
  simp
  refine callS_tree (sLift_ok s x m hs tx tm) ?_ ?_ ?_
  · rfl
  · rfl
  simp [sqT, Sq.v, Sq.cs]
  refine callS_tree (rLift_ok s x m hs tx tm) ?_ ?_ ?_
  · rfl
  · rfl
  simp [sqT, Sq.v, Sq.cs]
  refine callS_tree (same14_ok (lfR s x m).1 (lfR_tiny tx)) ?_ ?_ ?_
  · rfl
  · rfl
  simp
end Go.Proofs.YthcnpnogfblkcaaGreat

/- Contract: a graph over another one. -/
namespace Go.Proofs.YthcnpnogfblkcaaGreat
open Abs
set_option linter.unusedSimpArgs false
set_option linter.unusedVariables false
attribute [local simp] rn0 rn1 rn2 rn3 rn4 rn5 rn6 rn7 evOp nests Arg.ev St.val St.set St.new sliceOf binInt2 binInt AV.cells rdAt St.live retOf resOf resAll treeOf treeCell treeCells treeTups untree frameOf TV.av TR.av ints edgs prs fillV splice intsOf trees V1.tree bx Gr.v Pa.v opRd opWr opNew opNewR opArgs argsRd argRd Arg.rd AV.refs V1.refs refsL dstL

def overF (l : List Int) (n : Int) (i : Nat) : Option Int := if nth l i = n then some (i : Int) else none
def overL (l : List Int) (n : Int) : List Int := collect (overF l n) l.length
def c_over11 : MFunc := ⟨24, [.tmp 4], .seq (.region [⟨some 4, .mv (.c (.one .nil)), none⟩]) (.seq (.region [⟨some 5, .mv (.c (.one .nil)), none⟩]) (.seq (.seq (.region [⟨some 6, .mv (.c (.one (.t (.int .i64 0)))), none⟩]) (.block 0 (.loop (.seq (.seq (.region [⟨some 7, .mv (.tmp 6), none⟩, ⟨some 8, .mv (.tmp 0), none⟩, ⟨some 9, .len (.tmp 8), none⟩, ⟨some 10, .bin .lss (.tmp 7) (.tmp 9), none⟩]) (.cond (.tmp 10) .skip (.exit 0))) (.seq (.block 1 (.seq (.region [⟨some 13, .mv (.tmp 0), none⟩, ⟨some 14, .mv (.tmp 6), none⟩, ⟨some 15, .idxA 1 (.tmp 13) (.tmp 14), none⟩, ⟨some 16, .load false 1 (.tmp 15), none⟩, ⟨some 17, .mv (.tmp 1), none⟩, ⟨some 18, .bin .eql (.tmp 16) (.tmp 17), none⟩]) (.cond (.tmp 18) (.region [⟨some 19, .mv (.tmp 5), none⟩, ⟨some 20, .mv (.tmp 6), none⟩, ⟨some 21, .mkrow 386 3 1 1 [.t (.int .i64 0)] [(0, (1, .tmp 20))], none⟩, ⟨some 22, .append 387 3 1 8 (.tmp 19) (.tmp 21), none⟩, ⟨some 5, .mv (.tmp 22), none⟩]) .skip))) (.region [⟨some 11, .mv (.tmp 6), none⟩, ⟨some 12, .bin .add (.tmp 11) (.c (.one (.t (.int .i64 1)))), none⟩, ⟨some 6, .mv (.tmp 12), none⟩])))))) (.seq (.region [⟨some 23, .mv (.tmp 5), none⟩, ⟨some 4, .mv (.tmp 23), none⟩]) .ret)))⟩
theorem k_over11 : cFn Tryz.prog Tryz.f54 = some c_over11 := by kernel_rfl
theorem over11_row (l : List Int) (n : Int) (hl : tiny l.length) : RowI Tryz.prog 54 [(false, [ints l]), (false, [.int .i64 n])] 3 (overL l n) := by
  refine callRow_W (plain_ints _) (by simp) (by omega) (callS_W (by kernel_rfl) Tryz.func54 k_over11 (callable_of Tryz.func54 (by kernel_rfl)) (by simp [c_over11]) ?_)
  simp only [tiny] at hl
  simp [c_over11]
  refine loopW_count 6 l.length (fun k S => S.fr 0 = .one (.t (ints l)) ∧ S.fr 1 = .one (.t (.int .i64 n)) ∧ ∃ u, S.fr 5 = .one u ∧ outR 387 3 1 (collect (overF l n) k).length ((collect (overF l n) k).map (.int .i64)) S.ob (.one u)) (by omega) ?_ ?_ ?_
  · simp [collect_zero, outR_nil]
  · rintro k S hlt hw hc ⟨f0, f1, u, f5, hU⟩
    have q1 := collect_len (f := overF l n) (k := k)
    by_cases h : nth l k = n
    · have q2 : collect (overF l n) (k + 1) = collect (overF l n) k ++ [(k : Int)] := collect_some (by simp [overF, h])
      simp [f0, f1, f5, hc, hlt, drop_nth hlt, h]
      refine kApp_grow (ts := [.int .i64 k]) rfl (hU.keep fun g => by simp) (by omega) rfl (by omega) (by omega) fun E3 hE3 hob3 hcnt3 => ?_
      obtain ⟨w, hu3⟩ := hE3.one
      rw [hu3] at hE3
      simp [f0, f1, f5, hc, hw, hob3, hcnt3, hu3, q2]
      simpa using hE3
    · have q2 : collect (overF l n) (k + 1) = collect (overF l n) k := collect_none (by simp [overF, h])
      simp [f0, f1, f5, hc, hlt, drop_nth hlt, h, hw, q2]
      simpa using hU
  · rintro S hc ⟨f0, f1, u, f5, hU⟩
    have eU : collect (overF l n) l.length = overL l n := rfl
    rw [eU] at hU
    simp [f0, f1, f5, hc]
    exact hU.rowIs

/-- How many nodes, and where they go. -/
def ovn (d : Gr) (x : Dr) : Nat := if d.nodes.length = 0 then 0 else min x.nodes.length 8
def ovM (d : Gr) (x : Dr) (k : Nat) : List Int := (List.range k).map fun i => ((byth x.nodes i % d.nodes.length : Nat) : Int)
def ovN (d : Gr) (x : Dr) (k : Nat) : List Int := (List.range k).map fun i => nth d.nodes (byth x.nodes i % d.nodes.length)
theorem ovM_len {d : Gr} {x : Dr} {k : Nat} : (ovM d x k).length = k := by simp [ovM]
theorem ovN_len {d : Gr} {x : Dr} {k : Nat} : (ovN d x k).length = k := by simp [ovN]
theorem ovM_succ {d : Gr} {x : Dr} {k : Nat} : ovM d x (k + 1) = ovM d x k ++ [((byth x.nodes k % d.nodes.length : Nat) : Int)] := by simp [ovM, List.range_succ]
theorem ovN_succ {d : Gr} {x : Dr} {k : Nat} : ovN d x (k + 1) = ovN d x k ++ [nth d.nodes (byth x.nodes k % d.nodes.length)] := by simp [ovN, List.range_succ]
def ovm (d : Gr) (x : Dr) : List Int := ovM d x (ovn d x)
def ove (d : Gr) (x : Dr) : Nat := if d.edges.length = 0 then 0 else min x.edges.length 10
def ovk (d : Gr) (x : Dr) (i : Nat) : Nat := (t3th x.edges i).a % d.edges.length
def ovA (d : Gr) (x : Dr) (i : Nat) : List Int := overL (ovm d x) (eth d.edges (ovk d x i)).f
def ovB (d : Gr) (x : Dr) (i : Nat) : List Int := overL (ovm d x) (eth d.edges (ovk d x i)).g
def ovX (d : Gr) (x : Dr) (i : Nat) : Ed := ⟨(eth d.edges (ovk d x i)).t, nth (ovA d x i) ((t3th x.edges i).b % (ovA d x i).length), nth (ovB d x i) ((t3th x.edges i).c % (ovB d x i).length)⟩
def ovEF (d : Gr) (x : Dr) (i : Nat) : Option Ed := if (ovA d x i).length = 0 ∨ (ovB d x i).length = 0 then none else some (ovX d x i)
def ovMF (d : Gr) (x : Dr) (i : Nat) : Option Int := if (ovA d x i).length = 0 ∨ (ovB d x i).length = 0 then none else some (ovk d x i : Nat)
def overG (d : Gr) (x : Dr) : Gr := ⟨ovN d x (ovn d x), collect (ovEF d x) (ove d x)⟩
def overM (d : Gr) (x : Dr) : Pa := ⟨ovm d x, collect (ovMF d x) (ove d x)⟩

theorem outR1 {a typ esz n : Nat} {cs : List Abs.C} {ob : Nm → Option Ob} {v : V1} (h : outR a typ esz n cs ob (.one v)) :
    (n = 0 ∧ cs = [] ∧ v = .nil) ∨ (0 < n ∧ ∃ g, v = .row (a, g) ∧ ob (a, g) = some ⟨true, true, false, esz, n, typ, cs.map .t⟩) := by
  rcases h with ⟨h1, h2, h3⟩ | ⟨h1, g, h3, h4⟩
  · injection h3 with h3
    exact .inl ⟨h1, h2, h3⟩
  · injection h3 with h3
    exact .inr ⟨h1, g, h3, h4⟩

theorem argTreesR {nm typ esz n : Nat} {cs : List Abs.C} {ob : Nm → Option Ob} {u : V1} {c : Abs.C} (h : outR nm typ esz n cs ob (.one u)) (fr : Nat → AV) (cnt : Nat → Nat) : argTrees ⟨fr, ob, cnt⟩ [.one u, .one (.t c)] = some [(false, [.sl n cs]), (false, [c])] := by
  simp only [argTrees, argTree_one, h.treeC fr cnt]
  rfl

def c_over11G : MFunc := ⟨157, [.cell 4 true 2, .cell 5 true 2], .seq (.region [⟨some 2, .box 0 25 (.tmp 0), none⟩, ⟨some 3, .box 1 44 (.tmp 1), none⟩, ⟨some 4, .alloc 2 25 [.nil, .nil], none⟩, ⟨some 5, .alloc 3 27 [.nil, .nil], none⟩]) (.seq (.region [⟨some 6, .alloc 64 25 [.nil, .nil], none⟩]) (.seq (.region [⟨some 7, .alloc 128 27 [.nil, .nil], none⟩]) (.seq (.seq (.region [⟨some 8, .mv (.c (.one (.t (.int .i64 0)))), none⟩]) (.block 0 (.loop (.seq (.seq (.region [⟨some 14, .mv (.tmp 8), none⟩, ⟨some 15, .fieldA 0 (.tmp 3), none⟩, ⟨some 16, .load false 1 (.tmp 15), none⟩, ⟨some 17, .len (.tmp 16), none⟩, ⟨some 18, .bin .lss (.tmp 14) (.tmp 17), none⟩, ⟨some 19, .mv (.tmp 18), none⟩, ⟨some 20, .mv (.tmp 8), some (19, true)⟩, ⟨some 21, .bin .lss (.tmp 20) (.c (.one (.t (.int .i64 8)))), some (19, true)⟩, ⟨some 22, .pick (.tmp 19) (.tmp 21) (.c (.one (.t (.bool false)))), none⟩, ⟨some 23, .mv (.tmp 22), none⟩, ⟨some 24, .fieldA 0 (.tmp 2), some (23, true)⟩, ⟨some 25, .load false 1 (.tmp 24), some (23, true)⟩, ⟨some 26, .len (.tmp 25), some (23, true)⟩, ⟨some 27, .bin .gtr (.tmp 26) (.c (.one (.t (.int .i64 0)))), some (23, true)⟩, ⟨some 28, .pick (.tmp 23) (.tmp 27) (.c (.one (.t (.bool false)))), none⟩]) (.cond (.tmp 28) .skip (.exit 0))) (.seq (.block 1 (.seq (.draw [[], [0], [], [1, 2], [3], [4], [], [6], [7], [5, 8], [9, 0, 1, 2, 3, 4, 5, 6, 7, 8, 9]] [⟨some 31, .fieldA 0 (.tmp 3), none⟩, ⟨some 32, .load false 1 (.tmp 31), none⟩, ⟨some 33, .mv (.tmp 8), none⟩, ⟨some 34, .idxA 1 (.tmp 32) (.tmp 33), none⟩, ⟨some 35, .load false 1 (.tmp 34), none⟩, ⟨some 36, .conv .i64 (.tmp 35), none⟩, ⟨some 37, .fieldA 0 (.tmp 2), none⟩, ⟨some 38, .load false 1 (.tmp 37), none⟩, ⟨some 39, .len (.tmp 38), none⟩, ⟨some 40, .bin .rem (.tmp 36) (.tmp 39), none⟩, ⟨some 9, .mv (.tmp 40), none⟩]) (.draw [[], [0], [], [2], [], [3, 4], [5], [6], [1, 7], [], [9], [], [11], [10, 12, 8], [0, 1, 2, 3, 4, 5, 6, 7, 8], [14, 8, 13, 0, 1, 2, 3, 4, 5, 6, 7, 8], [0, 1, 2, 3, 4, 5, 6, 7, 8, 9, 10, 11, 12, 13, 14, 15], [16, 13, 15, 0, 1, 2, 3, 4, 5, 6, 7, 8, 9, 10, 11, 12, 13, 14, 15]] [⟨some 41, .fieldA 0 (.tmp 6), none⟩, ⟨some 42, .load false 1 (.tmp 41), none⟩, ⟨some 43, .fieldA 0 (.tmp 2), none⟩, ⟨some 44, .load false 1 (.tmp 43), none⟩, ⟨some 45, .mv (.tmp 9), none⟩, ⟨some 46, .idxA 1 (.tmp 44) (.tmp 45), none⟩, ⟨some 47, .load false 1 (.tmp 46), none⟩, ⟨some 48, .mkrow 455 3 1 1 [.t (.int .i64 0)] [(0, (1, .tmp 47))], none⟩, ⟨some 49, .append 456 3 1 8 (.tmp 42) (.tmp 48), none⟩, ⟨some 50, .fieldA 0 (.tmp 7), none⟩, ⟨some 51, .load false 1 (.tmp 50), none⟩, ⟨some 52, .mv (.tmp 9), none⟩, ⟨some 53, .mkrow 460 3 1 1 [.t (.int .i64 0)] [(0, (1, .tmp 52))], none⟩, ⟨some 54, .append 461 3 1 8 (.tmp 51) (.tmp 53), none⟩, ⟨some 55, .fieldA 0 (.tmp 6), none⟩, ⟨none, .store 1 (.tmp 55) (.tmp 49), none⟩, ⟨some 56, .fieldA 0 (.tmp 7), none⟩, ⟨none, .store 1 (.tmp 56) (.tmp 54), none⟩]))) (.region [⟨some 29, .mv (.tmp 8), none⟩, ⟨some 30, .bin .add (.tmp 29) (.c (.one (.t (.int .i64 1)))), none⟩, ⟨some 8, .mv (.tmp 30), none⟩])))))) (.seq (.seq (.region [⟨some 10, .mv (.c (.one (.t (.int .i64 0)))), none⟩]) (.block 2 (.loop (.seq (.seq (.region [⟨some 57, .mv (.tmp 10), none⟩, ⟨some 58, .fieldA 1 (.tmp 3), none⟩, ⟨some 59, .load false 1 (.tmp 58), none⟩, ⟨some 60, .len (.tmp 59), none⟩, ⟨some 61, .bin .lss (.tmp 57) (.tmp 60), none⟩, ⟨some 62, .mv (.tmp 61), none⟩, ⟨some 63, .mv (.tmp 10), some (62, true)⟩, ⟨some 64, .bin .lss (.tmp 63) (.c (.one (.t (.int .i64 10)))), some (62, true)⟩, ⟨some 65, .pick (.tmp 62) (.tmp 64) (.c (.one (.t (.bool false)))), none⟩, ⟨some 66, .mv (.tmp 65), none⟩, ⟨some 67, .fieldA 1 (.tmp 2), some (66, true)⟩, ⟨some 68, .load false 1 (.tmp 67), some (66, true)⟩, ⟨some 69, .len (.tmp 68), some (66, true)⟩, ⟨some 70, .bin .gtr (.tmp 69) (.c (.one (.t (.int .i64 0)))), some (66, true)⟩, ⟨some 71, .pick (.tmp 66) (.tmp 70) (.c (.one (.t (.bool false)))), none⟩]) (.cond (.tmp 71) .skip (.exit 2))) (.seq (.block 3 (.seq (.draw [[], [0], [], [1, 2], [3], [4], [5], [], [7], [8], [6, 9], [10, 0, 1, 2, 3, 4, 5, 6, 7, 8, 9, 10]] [⟨some 74, .fieldA 1 (.tmp 3), none⟩, ⟨some 75, .load false 1 (.tmp 74), none⟩, ⟨some 76, .mv (.tmp 10), none⟩, ⟨some 77, .idxA 3 (.tmp 75) (.tmp 76), none⟩, ⟨some 78, .idxArr 3 1 (.tmp 77) (.c (.one (.t (.int .i64 0)))), none⟩, ⟨some 79, .load false 1 (.tmp 78), none⟩, ⟨some 80, .conv .i64 (.tmp 79), none⟩, ⟨some 81, .fieldA 1 (.tmp 2), none⟩, ⟨some 82, .load false 1 (.tmp 81), none⟩, ⟨some 83, .len (.tmp 82), none⟩, ⟨some 84, .bin .rem (.tmp 80) (.tmp 83), none⟩, ⟨some 11, .mv (.tmp 84), none⟩]) (.seq (.draw [[], [0], [], [2], [], [3, 4], [5], [6], [1, 7], [], [9], [], [11], [], [12, 13], [14], [15], [10, 16, 8], [8, 17, 0, 1, 2, 3, 4, 5, 6, 7, 8], [17, 18, 0, 1, 2, 3, 4, 5, 6, 7, 8, 9, 10, 11, 12, 13, 14, 15, 16, 17, 18]] [⟨some 85, .fieldA 0 (.tmp 7), none⟩, ⟨some 86, .load false 1 (.tmp 85), none⟩, ⟨some 87, .fieldA 1 (.tmp 2), none⟩, ⟨some 88, .load false 1 (.tmp 87), none⟩, ⟨some 89, .mv (.tmp 11), none⟩, ⟨some 90, .idxA 3 (.tmp 88) (.tmp 89), none⟩, ⟨some 91, .fieldA 1 (.tmp 90), none⟩, ⟨some 92, .load false 1 (.tmp 91), none⟩, ⟨some 93, .call (.c (.one (.fn 54 []))) 776 [.tmp 86, .tmp 92], none⟩, ⟨some 94, .fieldA 0 (.tmp 7), none⟩, ⟨some 95, .load false 1 (.tmp 94), none⟩, ⟨some 96, .fieldA 1 (.tmp 2), none⟩, ⟨some 97, .load false 1 (.tmp 96), none⟩, ⟨some 98, .mv (.tmp 11), none⟩, ⟨some 99, .idxA 3 (.tmp 97) (.tmp 98), none⟩, ⟨some 100, .fieldA 2 (.tmp 99), none⟩, ⟨some 101, .load false 1 (.tmp 100), none⟩, ⟨some 102, .call (.c (.one (.fn 54 []))) 785 [.tmp 95, .tmp 101], none⟩, ⟨some 12, .mv (.tmp 93), none⟩, ⟨some 13, .mv (.tmp 102), none⟩]) (.seq (.seq (.region [⟨some 103, .mv (.tmp 12), none⟩, ⟨some 104, .len (.tmp 103), none⟩, ⟨some 105, .bin .eql (.tmp 104) (.c (.one (.t (.int .i64 0)))), none⟩, ⟨some 106, .mv (.tmp 105), none⟩, ⟨some 107, .mv (.tmp 13), some (106, false)⟩, ⟨some 108, .len (.tmp 107), some (106, false)⟩, ⟨some 109, .bin .eql (.tmp 108) (.c (.one (.t (.int .i64 0)))), some (106, false)⟩, ⟨some 110, .pick (.tmp 106) (.c (.one (.t (.bool true)))) (.tmp 109), none⟩]) (.cond (.tmp 110) (.exit 3) .skip)) (.seq (.draw [[], [0], [], [2], [], [3, 4], [5], [6], [], [], [9], [], [10, 11], [12], [13], [14], [], [16], [15, 17], [8, 18], [19], [], [], [22], [], [23, 24], [25], [26], [27], [], [29], [28, 30], [21, 31], [32], [7, 20, 33], [34], [1, 35], [0, 1, 2, 3, 4, 5, 6, 7, 8, 9, 10, 11, 12, 13, 14, 15, 16, 17, 18, 19, 20, 21, 22, 23, 24, 25, 26, 27, 28, 29, 30, 31, 32, 33, 34, 35, 36], [37, 36, 36, 0, 1, 2, 3, 4, 5, 6, 7, 8, 9, 10, 11, 12, 13, 14, 15, 16, 17, 18, 19, 20, 21, 22, 23, 24, 25, 26, 27, 28, 29, 30, 31, 32, 33, 34, 35, 36]] [⟨some 111, .fieldA 1 (.tmp 6), none⟩, ⟨some 112, .load false 1 (.tmp 111), none⟩, ⟨some 113, .fieldA 1 (.tmp 2), none⟩, ⟨some 114, .load false 1 (.tmp 113), none⟩, ⟨some 115, .mv (.tmp 11), none⟩, ⟨some 116, .idxA 3 (.tmp 114) (.tmp 115), none⟩, ⟨some 117, .fieldA 0 (.tmp 116), none⟩, ⟨some 118, .load false 1 (.tmp 117), none⟩, ⟨some 119, .mv (.tmp 12), none⟩, ⟨some 120, .fieldA 1 (.tmp 3), none⟩, ⟨some 121, .load false 1 (.tmp 120), none⟩, ⟨some 122, .mv (.tmp 10), none⟩, ⟨some 123, .idxA 3 (.tmp 121) (.tmp 122), none⟩, ⟨some 124, .idxArr 3 1 (.tmp 123) (.c (.one (.t (.int .i64 1)))), none⟩, ⟨some 125, .load false 1 (.tmp 124), none⟩, ⟨some 126, .conv .i64 (.tmp 125), none⟩, ⟨some 127, .mv (.tmp 12), none⟩, ⟨some 128, .len (.tmp 127), none⟩, ⟨some 129, .bin .rem (.tmp 126) (.tmp 128), none⟩, ⟨some 130, .idxA 1 (.tmp 119) (.tmp 129), none⟩, ⟨some 131, .load false 1 (.tmp 130), none⟩, ⟨some 132, .mv (.tmp 13), none⟩, ⟨some 133, .fieldA 1 (.tmp 3), none⟩, ⟨some 134, .load false 1 (.tmp 133), none⟩, ⟨some 135, .mv (.tmp 10), none⟩, ⟨some 136, .idxA 3 (.tmp 134) (.tmp 135), none⟩, ⟨some 137, .idxArr 3 1 (.tmp 136) (.c (.one (.t (.int .i64 2)))), none⟩, ⟨some 138, .load false 1 (.tmp 137), none⟩, ⟨some 139, .conv .i64 (.tmp 138), none⟩, ⟨some 140, .mv (.tmp 13), none⟩, ⟨some 141, .len (.tmp 140), none⟩, ⟨some 142, .bin .rem (.tmp 139) (.tmp 141), none⟩, ⟨some 143, .idxA 1 (.tmp 132) (.tmp 142), none⟩, ⟨some 144, .load false 1 (.tmp 143), none⟩, ⟨some 145, .build [.t (.int .i64 0), .t (.int .i64 0), .t (.int .i64 0)] [(0, (1, .tmp 118)), (1, (1, .tmp 131)), (2, (1, .tmp 144))], none⟩, ⟨some 146, .mkrow 931 76 3 1 [.t (.int .i64 0), .t (.int .i64 0), .t (.int .i64 0)] [(0, (3, .tmp 145))], none⟩, ⟨some 147, .append 932 76 3 24 (.tmp 112) (.tmp 146), none⟩, ⟨some 148, .fieldA 1 (.tmp 6), none⟩, ⟨none, .store 1 (.tmp 148) (.tmp 147), none⟩]) (.region [⟨some 149, .fieldA 1 (.tmp 7), none⟩, ⟨some 150, .load false 1 (.tmp 149), none⟩, ⟨some 151, .mv (.tmp 11), none⟩, ⟨some 152, .mkrow 963 3 1 1 [.t (.int .i64 0)] [(0, (1, .tmp 151))], none⟩, ⟨some 153, .append 964 3 1 8 (.tmp 150) (.tmp 152), none⟩, ⟨some 154, .fieldA 1 (.tmp 7), none⟩, ⟨none, .store 1 (.tmp 154) (.tmp 153), none⟩])))))) (.region [⟨some 72, .mv (.tmp 10), none⟩, ⟨some 73, .bin .add (.tmp 72) (.c (.one (.t (.int .i64 1)))), none⟩, ⟨some 10, .mv (.tmp 73), none⟩])))))) (.seq (.draw [[], [], [0, 0], [1, 2, 0, 1, 2]] [⟨some 155, .load true 2 (.tmp 6), none⟩, ⟨some 156, .load true 2 (.tmp 7), none⟩, ⟨none, .store 2 (.tmp 4) (.tmp 155), none⟩, ⟨none, .store 2 (.tmp 5) (.tmp 156), none⟩]) .ret)))))⟩
theorem k_over11G : cFn Tryz.prog Tryz.f20 = some c_over11G := by kernel_rfl
set_option maxHeartbeats 8000000 in
set_option maxRecDepth 20000 in
theorem overG_ok (d : Gr) (x : Dr) (gd : GrOk d) (hx : BoundD x) : CallOK Tryz.prog 20 [d.v, x.v] (.tup [(overG d x).v, (overM d x).v]) := by
  refine callOK_W (callS_W (by kernel_rfl) Tryz.func20 k_over11G (callable_of Tryz.func20 (by kernel_rfl)) (by simp [c_over11G]) ?_)
  have b1 := gd.n
  have b2 := gd.e
  have l8 : ovn d x ≤ 8 := by simp only [ovn]; split <;> omega
  have l10 : ove d x ≤ 10 := by simp only [ove]; split <;> omega
  simp [c_over11G, Dr.v, bys, t3s]
  refine loopW_count 8 (ovn d x) (fun k S => S.fr 2 = .one (.ptr (0, 0) 0) ∧ S.fr 3 = .one (.ptr (1, 0) 0) ∧ S.fr 4 = .one (.ptr (2, 0) 0) ∧ S.fr 5 = .one (.ptr (3, 0) 0) ∧ S.fr 6 = .one (.ptr (64, 0) 0) ∧ S.fr 7 = .one (.ptr (128, 0) 0) ∧
    S.ob (0, 0) = some (bx 25 (d.v.2.map .t)) ∧ S.ob (1, 0) = some (bx 44 (x.v.2.map .t)) ∧ S.ob (2, 0) = some (bx 25 [.nil, .nil]) ∧ S.ob (3, 0) = some (bx 27 [.nil, .nil]) ∧
    ∃ vN vM, S.ob (64, 0) = some (bx 25 [vN, .nil]) ∧ S.ob (128, 0) = some (bx 27 [vM, .nil]) ∧ outR 456 3 1 (ovN d x k).length ((ovN d x k).map (.int .i64)) S.ob (.one vN) ∧ outR 461 3 1 (ovM d x k).length ((ovM d x k).map (.int .i64)) S.ob (.one vM)) (by omega) ?_ ?_ ?_
  · simp [Dr.v, bys, t3s, ovN, ovM, outR_nil]
  · rintro k S hlt hw hc ⟨f2, f3, f4, f5, f6, f7, o0, o1, o2, o3, vN, vM, o64, o128, hN, hM⟩
    have dn : 0 < d.nodes.length := by
      by_cases z : d.nodes.length = 0
      · simp only [ovn, if_pos z] at hlt
        omega
      · omega
    have nn : ovn d x = min x.nodes.length 8 := by simp only [ovn, if_neg (show ¬ d.nodes.length = 0 by omega)]
    have k1 : k < x.nodes.length := by omega
    have k2 : (k : Int) < 8 := by omega
    obtain ⟨v, hv⟩ : ∃ v, v = byth x.nodes k := ⟨_, rfl⟩
    have v1 : v < 256 := by rw [hv]; exact byth_small hx.1.1 k
    obtain ⟨p, hp⟩ : ∃ p, p = v % d.nodes.length := ⟨_, rfl⟩
    have p1 : p < d.nodes.length := by rw [hp]; exact Nat.mod_lt _ dn
    have e1 : (v : Int).tmod (d.nodes.length : Int) = (p : Int) := by rw [hp]; exact nat_rem
    have w1 : IntKind.i64.wrap (v : Int) = v := by rw [wrap64_id] <;> omega
    have dv := drop_byL k1
    rw [← hv] at dv
    have zn : ¬ d.nodes.length = 0 := by omega
    have zl : ¬ d.nodes = [] := fun h => zn (by rw [h]; rfl)
    have s1 := ovN_succ (d := d) (x := x) (k := k)
    have s2 := ovM_succ (d := d) (x := x) (k := k)
    rw [← hv, ← hp] at s1 s2
    have q1 := ovN_len (d := d) (x := x) (k := k)
    have q2 := ovM_len (d := d) (x := x) (k := k)
    have hN0 := hN
    have hM0 := hM
    rcases hN0 with ⟨m1, m2, m3⟩ | ⟨m1, g1, m3, m4⟩ <;> rcases hM0 with ⟨t1, t2, t3⟩ | ⟨t1, g2, t3, t4⟩
    all_goals
      first
      | (exfalso; omega)
      | skip
    all_goals
      cases m3
      cases t3
      simp [dw0, dw1, dw2, dw3, f2, f3, f4, f5, f6, f7, o0, o1, o2, o3, o64, o128, hc, Dr.v, bys, t3s, len_byL, k1, k2, dn, zn, zl, dv, e1, w1]
      refine ⟨by first | kernel_rfl | rfl, ?_⟩
      simp [dw0, dw1, dw2, dw3, f2, f3, f4, f5, f6, f7, o0, o1, o2, o3, o64, o128, hc, p1, drop_nth p1]
      refine kApp_grow (ts := [.int .i64 (nth d.nodes p)]) rfl (hN.keep fun g => by simp) (by omega) rfl (by omega) (by omega) fun E3 hE3 hob3 hcnt3 => ?_
      obtain ⟨u, hu3⟩ := hE3.one
      rw [hu3] at hE3
      have hM3 := hM.keep (ob' := E3.ob) fun g => by rw [hob3 _ _ (by decide)]; simp
      simp [dw0, dw1, dw2, dw3, f2, f3, f4, f5, f6, f7, o0, o1, o2, o3, o64, o128, hc, hob3, hcnt3, hu3]
      refine kApp_grow (ts := [.int .i64 p]) rfl (hM3.keep fun g => by simp) (by omega) rfl (by omega) (by omega) fun E4 hE4 hob4 hcnt4 => ?_
      obtain ⟨w, hw4⟩ := hE4.one
      rw [hw4] at hE4
      have hE5 := hE3.keep (ob' := E4.ob) fun g => by rw [hob4 _ _ (by decide)]; simp
      simp [dw0, dw1, dw2, dw3, f2, f3, f4, f5, f6, f7, o0, o1, o2, o3, o64, o128, hc, hw, hob3, hcnt3, hu3, hob4, hcnt4, hw4, s1, s2, Dr.v, bys, t3s, -Int.natCast_emod]
      refine ⟨by first | kernel_rfl | rfl, ?_⟩
      try simp [f2, f3, f4, f5, f6, f7, o0, o1, o2, o3, o64, o128, hc, hw, hob3, hcnt3, hu3, hob4, hcnt4, hw4, s1, s2, Dr.v, bys, t3s, -Int.natCast_emod]
      exact ⟨outR.keep (by simpa using hE5) fun g => by simp, outR.keep (by simpa using hE4) fun g => by simp⟩
  · rintro S hc ⟨f2, f3, f4, f5, f6, f7, o0, o1, o2, o3, vN, vM, o64, o128, hN, hM⟩
    have eM : ovM d x (ovn d x) = ovm d x := rfl
    rw [eM] at hM
    have ml : (ovm d x).length = ovn d x := ovM_len
    have stop : ¬ ovn d x < x.nodes.length ∨ (ovn d x < x.nodes.length ∧ ¬ (ovn d x : Int) < 8) ∨ (ovn d x < x.nodes.length ∧ (ovn d x : Int) < 8 ∧ d.nodes = []) := by
      by_cases z : d.nodes.length = 0
      · have zl : d.nodes = [] := List.eq_nil_of_length_eq_zero z
        have : ovn d x = 0 := by simp only [ovn, if_pos z]
        by_cases z2 : ovn d x < x.nodes.length
        · exact .inr (.inr ⟨z2, by omega, zl⟩)
        · exact .inl z2
      · have : ovn d x = min x.nodes.length 8 := by simp only [ovn, if_neg z]
        omega
    generalize hnn : ovn d x = nn at hc stop
    have body : ∀ (VM : V1) (S : St), outR 461 3 1 (ovm d x).length ((ovm d x).map (.int .i64)) S.ob (.one VM) → (VM = .nil ∨ ∃ g, VM = .row (461, g)) := fun VM S h => by
      rcases h with ⟨_, _, h⟩ | ⟨_, g, h, _⟩
      · injection h with h; exact .inl h
      · injection h with h; exact .inr ⟨g, h⟩
    rcases stop with y1 | ⟨y1, y2⟩ | ⟨y1, y2, y3⟩
    all_goals
      first
      | simp [f2, f3, f4, f5, f6, f7, o0, o1, o2, o3, o64, o128, hc, Dr.v, bys, t3s, len_byL, y1, y2, y3]
      | simp [f2, f3, f4, f5, f6, f7, o0, o1, o2, o3, o64, o128, hc, Dr.v, bys, t3s, len_byL, y1, y2]
      | simp [f2, f3, f4, f5, f6, f7, o0, o1, o2, o3, o64, o128, hc, Dr.v, bys, t3s, len_byL, y1]
      refine loopW_count 10 (ove d x) (fun k S => S.fr 2 = .one (.ptr (0, 0) 0) ∧ S.fr 3 = .one (.ptr (1, 0) 0) ∧ S.fr 4 = .one (.ptr (2, 0) 0) ∧ S.fr 5 = .one (.ptr (3, 0) 0) ∧ S.fr 6 = .one (.ptr (64, 0) 0) ∧ S.fr 7 = .one (.ptr (128, 0) 0) ∧
    S.ob (0, 0) = some (bx 25 (d.v.2.map .t)) ∧ S.ob (1, 0) = some (bx 44 (x.v.2.map .t)) ∧ S.ob (2, 0) = some (bx 25 [.nil, .nil]) ∧ S.ob (3, 0) = some (bx 27 [.nil, .nil]) ∧
    outR 456 3 1 (ovN d x (ovn d x)).length ((ovN d x (ovn d x)).map (.int .i64)) S.ob (.one vN) ∧ outR 461 3 1 (ovm d x).length ((ovm d x).map (.int .i64)) S.ob (.one vM) ∧
    ∃ vE vF, S.ob (64, 0) = some (bx 25 [vN, vE]) ∧ S.ob (128, 0) = some (bx 27 [vM, vF]) ∧ outR 932 76 3 (collect (ovEF d x) k).length (edL (collect (ovEF d x) k)) S.ob (.one vE) ∧ outR 964 3 1 (collect (ovMF d x) k).length ((collect (ovMF d x) k).map (.int .i64)) S.ob (.one vF)) (by omega) ?_ ?_ ?_
      · simp [f2, f3, f4, f5, f6, f7, o0, o1, o2, o3, o64, o128, hc, Dr.v, bys, t3s, collect_zero, edL, outR_nil]
        exact ⟨by simpa using hN, by simpa using hM⟩
      · rintro k S hlt hw hc ⟨f2, f3, f4, f5, f6, f7, o0, o1, o2, o3, hN, hM, vE, vF, o64, o128, hE, hF⟩
        have dn : 0 < d.edges.length := by
          by_cases z : d.edges.length = 0
          · simp only [ove, if_pos z] at hlt
            omega
          · omega
        have zn : ¬ d.edges.length = 0 := by omega
        have zl : ¬ d.edges = [] := fun h => zn (by rw [h]; rfl)
        have ne : ove d x = min x.edges.length 10 := by simp only [ove, if_neg zn]
        have k1 : k < x.edges.length := by omega
        have k2 : (k : Int) < 10 := by omega
        have k3 : k * 3 < x.edges.length * 3 := by omega
        obtain ⟨s1, s2, s3⟩ := t3th_small hx.2.1 k
        have dv := drop_t3L k1
        have ck := show ovk d x k = (t3th x.edges k).a % d.edges.length from rfl
        have cA := show ovA d x k = overL (ovm d x) (eth d.edges (ovk d x k)).f from rfl
        have cB := show ovB d x k = overL (ovm d x) (eth d.edges (ovk d x k)).g from rfl
        have cX := show ovX d x k = ⟨(eth d.edges (ovk d x k)).t, nth (ovA d x k) ((t3th x.edges k).b % (ovA d x k).length), nth (ovB d x k) ((t3th x.edges k).c % (ovB d x k).length)⟩ from rfl
        have cE := show ovEF d x k = if (ovA d x k).length = 0 ∨ (ovB d x k).length = 0 then none else some (ovX d x k) from rfl
        have cM := show ovMF d x k = if (ovA d x k).length = 0 ∨ (ovB d x k).length = 0 then none else some ((ovk d x k : Nat) : Int) from rfl
        have nA : (ovA d x k).length ≤ (ovm d x).length := by rw [cA]; exact collect_len
        have nB : (ovB d x k).length ≤ (ovm d x).length := by rw [cB]; exact collect_len
        generalize t3th x.edges k = v at s1 s2 s3 dv ck cX
        obtain ⟨v1, v2, v3⟩ := v
        simp only at s1 s2 s3 dv ck cX
        generalize ovX d x k = X at cX cE
        generalize ovA d x k = A at cA cX cE cM nA
        generalize ovB d x k = B at cB cX cE cM nB
        generalize ovk d x k = p at ck cA cB cX cM
        have p1 : p < d.edges.length := by rw [ck]; exact Nat.mod_lt _ dn
        have p3 : p * 3 < d.edges.length * 3 := by omega
        have e1 : (v1 : Int).tmod (d.edges.length : Int) = (p : Int) := by rw [ck]; exact nat_rem
        have w1 : IntKind.i64.wrap (v1 : Int) = v1 := by rw [wrap64_id] <;> omega
        have w2 : IntKind.i64.wrap (v2 : Int) = v2 := by rw [wrap64_id] <;> omega
        have w3 : IntKind.i64.wrap (v3 : Int) = v3 := by rw [wrap64_id] <;> omega
        have qE := collect_len (f := ovEF d x) (k := k)
        have qM := collect_len (f := ovMF d x) (k := k)
        by_cases zA : A.length = 0
        · have zA' : A = [] := List.eq_nil_of_length_eq_zero zA
          rw [if_pos (.inl zA)] at cE cM
          have r1 := collect_none cE
          have r2 := collect_none cM
          by_cases zB : B.length = 0
          all_goals
            rcases body vM S hM with hv | ⟨gM, hv⟩
            all_goals
              subst hv
              simp [dw0, dw1, dw2, dw3, f2, f3, f4, f5, f6, f7, o0, o1, o2, o3, o64, o128, hc, Dr.v, bys, t3s, len_t3L, k1, k2, k3, dn, zn, zl, dv, w1, e1]
              refine ⟨by first | kernel_rfl | rfl, ?_⟩
              simp [dw0, dw1, dw2, dw3, f2, f3, f4, f5, f6, f7, o0, o1, o2, o3, o64, o128, hc, p1, p3, drop_edL p1]
              refine dCall_row (over11_row (ovm d x) (eth d.edges p).f (by show _ ≤ _; omega)) ?_ ?_
              · exact argTreesR hM _ _
              rw [← cA]
              simp [dw0, dw1, dw2, dw3, f2, f3, f4, f5, f6, f7, o0, o1, o2, o3, o64, o128, hc, p1, p3, drop_edL p1, rowEff, zA, zA']
              refine dCall_row (over11_row (ovm d x) (eth d.edges p).g (by show _ ≤ _; omega)) ?_ ?_
              · exact argTreesR (hM.keep fun g => by simp) _ _
              rw [← cB]
              simp [dw0, dw1, dw2, dw3, f2, f3, f4, f5, f6, f7, o0, o1, o2, o3, o64, o128, hc, rowEff, zA, zA', zB, hw, r1, r2, Dr.v, bys, t3s]
              first
              | exact ⟨by first | kernel_rfl | rfl, hN, hM, hE, hF⟩
              | exact ⟨by first | kernel_rfl | rfl, hN.keep fun g => by simp, hM.keep fun g => by simp, hE.keep fun g => by simp, hF.keep fun g => by simp⟩
        have zA' : ¬ A = [] := fun h => zA (by rw [h]; rfl)
        by_cases zB : B.length = 0
        · have zB' : B = [] := List.eq_nil_of_length_eq_zero zB
          rw [if_pos (.inr zB)] at cE cM
          have r1 := collect_none cE
          have r2 := collect_none cM
          rcases body vM S hM with hv | ⟨gM, hv⟩
          all_goals
            subst hv
            simp [dw0, dw1, dw2, dw3, f2, f3, f4, f5, f6, f7, o0, o1, o2, o3, o64, o128, hc, Dr.v, bys, t3s, len_t3L, k1, k2, k3, dn, zn, zl, dv, w1, e1]
            refine ⟨by first | kernel_rfl | rfl, ?_⟩
            simp [dw0, dw1, dw2, dw3, f2, f3, f4, f5, f6, f7, o0, o1, o2, o3, o64, o128, hc, p1, p3, drop_edL p1]
            refine dCall_row (over11_row (ovm d x) (eth d.edges p).f (by show _ ≤ _; omega)) ?_ ?_
            · exact argTreesR hM _ _
            rw [← cA]
            simp [dw0, dw1, dw2, dw3, f2, f3, f4, f5, f6, f7, o0, o1, o2, o3, o64, o128, hc, p1, p3, drop_edL p1, rowEff, zA, zA']
            refine dCall_row (over11_row (ovm d x) (eth d.edges p).g (by show _ ≤ _; omega)) ?_ ?_
            · exact argTreesR (hM.keep fun g => by simp) _ _
            rw [← cB]
            simp [dw0, dw1, dw2, dw3, f2, f3, f4, f5, f6, f7, o0, o1, o2, o3, o64, o128, hc, rowEff, zA, zA', zB, zB', hw, r1, r2, Dr.v, bys, t3s]
            exact ⟨by first | kernel_rfl | rfl, hN.keep fun g => by simp, hM.keep fun g => by simp, hE.keep fun g => by simp, hF.keep fun g => by simp⟩
        have zB' : ¬ B = [] := fun h => zB (by rw [h]; rfl)
        have zo : ¬ (A.length = 0 ∨ B.length = 0) := fun h => h.elim zA zB
        rw [if_neg zo] at cE cM
        have r1 := collect_some cE
        have r2 := collect_some cM
        obtain ⟨q, hq⟩ : ∃ q, q = v2 % A.length := ⟨_, rfl⟩
        obtain ⟨r, hr⟩ : ∃ r, r = v3 % B.length := ⟨_, rfl⟩
        have q1 : q < A.length := by rw [hq]; exact Nat.mod_lt _ (by omega)
        have r3 : r < B.length := by rw [hr]; exact Nat.mod_lt _ (by omega)
        have e2 : (v2 : Int).tmod (A.length : Int) = (q : Int) := by rw [hq]; exact nat_rem
        have e3 : (v3 : Int).tmod (B.length : Int) = (r : Int) := by rw [hr]; exact nat_rem
        rw [← hq, ← hr] at cX
        rcases body vM S hM with hv | ⟨gM, hv⟩
        all_goals
          subst hv
          simp [dw0, dw1, dw2, dw3, f2, f3, f4, f5, f6, f7, o0, o1, o2, o3, o64, o128, hc, Dr.v, bys, t3s, len_t3L, k1, k2, k3, dn, zn, zl, dv, w1, e1]
          refine ⟨by first | kernel_rfl | rfl, ?_⟩
          simp [dw0, dw1, dw2, dw3, f2, f3, f4, f5, f6, f7, o0, o1, o2, o3, o64, o128, hc, p1, p3, drop_edL p1]
          refine dCall_row (over11_row (ovm d x) (eth d.edges p).f (by show _ ≤ _; omega)) ?_ ?_
          · exact argTreesR hM _ _
          rw [← cA]
          simp [dw0, dw1, dw2, dw3, f2, f3, f4, f5, f6, f7, o0, o1, o2, o3, o64, o128, hc, p1, p3, drop_edL p1, rowEff, zA, zA']
          refine dCall_row (over11_row (ovm d x) (eth d.edges p).g (by show _ ≤ _; omega)) ?_ ?_
          · exact argTreesR (hM.keep fun g => by simp) _ _
          rw [← cB]
          simp [dw0, dw1, dw2, dw3, f2, f3, f4, f5, f6, f7, o0, o1, o2, o3, o64, o128, hc, rowEff, zA, zA', zB, zB']
          refine ⟨by first | kernel_rfl | rfl, ?_⟩
          rcases outR1 hE with ⟨t1, t2, t3⟩ | ⟨t1, gE, t3, t4⟩
          all_goals
            subst t3
            simp [dw0, dw1, dw2, dw3, f2, f3, f4, f5, f6, f7, o0, o1, o2, o3, o64, o128, hc, Dr.v, bys, t3s, len_t3L, k1, k2, k3, dv, w2, w3, e2, e3, zA, zA', zB, zB', p1, p3, drop_edL p1, q1, drop_nthR q1, r3, drop_nthR r3, (show q + 1 ≤ A.length from q1), (show r + 1 ≤ B.length from r3)]
            refine kApp_grow (ts := edC X) (by rw [cX]; rfl) (hE.keep fun g => by simp) (by omega) rfl (by omega) (by omega) fun E3 hE3 hob3 hcnt3 => ?_
            obtain ⟨u, hu3⟩ := hE3.one
            rw [hu3] at hE3
            have hN3 := hN.keep (ob' := E3.ob) fun g => by rw [hob3 _ _ (by decide)]; simp
            have hM3 := hM.keep (ob' := E3.ob) fun g => by rw [hob3 _ _ (by decide)]; simp
            have hF3 := hF.keep (ob' := E3.ob) fun g => by rw [hob3 _ _ (by decide)]; simp
            simp [dw0, dw1, dw2, dw3, f2, f3, f4, f5, f6, f7, o0, o1, o2, o3, o64, o128, hc, hob3, hcnt3, hu3]
            refine ⟨by first | kernel_rfl | rfl, ?_⟩
            refine kApp_grow (ts := [.int .i64 p]) rfl (hF3.keep fun g => by simp) (by omega) rfl (by omega) (by omega) fun E4 hE4 hob4 hcnt4 => ?_
            obtain ⟨w, hw4⟩ := hE4.one
            rw [hw4] at hE4
            have hE5 := hE3.keep (ob' := E4.ob) fun g => by rw [hob4 _ _ (by decide)]; simp
            have hN5 := hN3.keep (ob' := E4.ob) fun g => by rw [hob4 _ _ (by decide)]; simp
            have hM5 := hM3.keep (ob' := E4.ob) fun g => by rw [hob4 _ _ (by decide)]; simp
            simp [f2, f3, f4, f5, f6, f7, o0, o1, o2, o3, o64, o128, hc, hw, hob3, hcnt3, hu3, hob4, hcnt4, hw4, r1, r2, Dr.v, bys, t3s]
            exact ⟨outR.keep (by simpa using hN5) fun g => by simp, outR.keep (by simpa using hM5) fun g => by simp, outR.keep (by simpa [edL] using hE5) fun g => by simp, outR.keep (by simpa using hE4) fun g => by simp⟩
      · rintro S hc ⟨f2, f3, f4, f5, f6, f7, o0, o1, o2, o3, hN, hM, vE, vF, o64, o128, hE, hF⟩
        have stop2 : ¬ ove d x < x.edges.length ∨ (ove d x < x.edges.length ∧ ¬ (ove d x : Int) < 10) ∨ (ove d x < x.edges.length ∧ (ove d x : Int) < 10 ∧ d.edges = []) := by
          by_cases z : d.edges.length = 0
          · have zl : d.edges = [] := List.eq_nil_of_length_eq_zero z
            have : ove d x = 0 := by simp only [ove, if_pos z]
            by_cases z2 : ove d x < x.edges.length
            · exact .inr (.inr ⟨z2, by omega, zl⟩)
            · exact .inl z2
          · have : ove d x = min x.edges.length 10 := by simp only [ove, if_neg z]
            omega
        have eE : collect (ovEF d x) (ove d x) = (overG d x).edges := rfl
        have eF : collect (ovMF d x) (ove d x) = (overM d x).edges := rfl
        have eN : ovN d x (ovn d x) = (overG d x).nodes := rfl
        have eM : ovm d x = (overM d x).nodes := rfl
        rw [eE] at hE
        rw [eF] at hF
        rw [eN] at hN
        rw [eM] at hM
        generalize overG d x = G at hE hN ⊢
        generalize overM d x = M at hM hF ⊢
        generalize ove d x = oe at hc stop2
        rcases stop2 with z1 | ⟨z1, z2⟩ | ⟨z1, z2, z3⟩
        all_goals
          rcases outR1 hE with ⟨t1, t2, t3⟩ | ⟨t1, gE, t3, t4⟩ <;> rcases outR1 hF with ⟨u1, u2, u3⟩ | ⟨u1, gF, u3, u4⟩ <;> rcases outR1 hN with ⟨a1, a2, a3⟩ | ⟨a1, gN, a3, a4⟩ <;> rcases outR1 hM with ⟨c1, c2, c3⟩ | ⟨c1, gM, c3, c4⟩
        all_goals
          subst t3 u3 a3 c3
          first
          | simp [dw0, dw1, dw2, dw3, f2, f3, f4, f5, f6, f7, o0, o1, o2, o3, o64, o128, hc, Dr.v, bys, t3s, len_t3L, z1, z2, z3]
          | simp [dw0, dw1, dw2, dw3, f2, f3, f4, f5, f6, f7, o0, o1, o2, o3, o64, o128, hc, Dr.v, bys, t3s, len_t3L, z1, z2]
          | simp [dw0, dw1, dw2, dw3, f2, f3, f4, f5, f6, f7, o0, o1, o2, o3, o64, o128, hc, Dr.v, bys, t3s, len_t3L, z1]
          refine ⟨by first | kernel_rfl | rfl, ?_⟩
          simp_all [untreeI, untreeT]
          try omega
end Go.Proofs.YthcnpnogfblkcaaGreat

/- Graphs over graphs; lifted squares. No program in sight. -/
namespace Go.Proofs.YthcnpnogfblkcaaGreat
open Abs Po
set_option linter.unusedSimpArgs false
set_option linter.unusedVariables false

/-! ### Graphs over graphs -/
theorem overL_at {l : List Int} {n : Int} {i : Nat} (h : i < (overL l n).length) : ∃ j : Nat, nth (overL l n) i = j ∧ j < l.length ∧ nth l j = n := by
  obtain ⟨j, hj, e⟩ := mem_collect.1 (nth_mem h)
  unfold overF at e
  split at e
  · injection e with e
    exact ⟨j, e.symm, hj, by assumption⟩
  · cases e
def ovH (d : Gr) (x : Dr) (i : Nat) : Option (Ed × Int) := if (ovA d x i).length = 0 ∨ (ovB d x i).length = 0 then none else some (ovX d x i, ((ovk d x i : Nat) : Int))
theorem collect_map {α β : Type} {f : Nat → Option α} {g : Nat → Option β} {φ : α → β} (h : ∀ i, g i = (f i).map φ) (n : Nat) : collect g n = (collect f n).map φ := by
  induction n with
  | zero => rfl
  | succ n ih =>
    cases e : f n with
    | none => rw [collect_none e, collect_none (by rw [h, e]; rfl), ih]
    | some a => rw [collect_some e, collect_some (x := φ a) (by rw [h, e]; rfl), ih]; simp
theorem ov_edges {d : Gr} {x : Dr} : (overG d x).edges = (collect (ovH d x) (ove d x)).map (·.1) ∧ (overM d x).edges = (collect (ovH d x) (ove d x)).map (·.2) := by
  refine ⟨collect_map (fun i => ?_) _, collect_map (fun i => ?_) _⟩
  · unfold ovEF ovH
    split <;> rfl
  · unfold ovMF ovH
    split <;> rfl
theorem ov_at {d : Gr} {x : Dr} {i : Nat} (h : i < (collect (ovH d x) (ove d x)).length) : ∃ j, j < ove d x ∧ eth (overG d x).edges i = ovX d x j ∧ nth (overM d x).edges i = ((ovk d x j : Nat) : Int) ∧ (ovA d x j).length ≠ 0 ∧ (ovB d x j).length ≠ 0 := by
  obtain ⟨j, hj, e⟩ := mem_collect.1 (List.getElem_mem h)
  obtain ⟨z, hz0⟩ : ∃ z, z = (collect (ovH d x) (ove d x))[i] := ⟨_, rfl⟩
  rw [← hz0] at e
  unfold ovH at e
  split at e
  · cases e
  · rename_i hz
    injection e with e
    refine ⟨j, hj, ?_, ?_, fun h => hz (.inl h), fun h => hz (.inr h)⟩
    · rw [ov_edges.1, eth_eq (by simpa using h), List.getElem_map, ← hz0, ← e]
    · rw [ov_edges.2, nth_eq (by simpa using h), List.getElem_map, ← hz0, ← e]
theorem ovm_at {d : Gr} {x : Dr} {i : Nat} (h : i < ovn d x) : nth (ovm d x) i = ((byth x.nodes i % d.nodes.length : Nat) : Int) ∧ byth x.nodes i % d.nodes.length < d.nodes.length := by
  have dn : 0 < d.nodes.length := by
    by_cases z : d.nodes.length = 0
    · simp only [ovn, if_pos z] at h
      omega
    · omega
  refine ⟨?_, Nat.mod_lt _ dn⟩
  rw [nth_eq (by rw [ovm, ovM_len]; exact h)]
  simp [ovm, ovM]
theorem over_mor {d : Gr} {x : Dr} (gd : GrOk d) : MorOk (overG d x) d (overM d x) := by
  have l1 : (overM d x).nodes.length = ovn d x := ovM_len
  have l2 : (overG d x).nodes.length = ovn d x := ovN_len
  have l3 : (overM d x).edges.length = (overG d x).edges.length := by rw [ov_edges.1, ov_edges.2, List.length_map, List.length_map]
  have l4 : (overG d x).edges.length = (collect (ovH d x) (ove d x)).length := by rw [ov_edges.1, List.length_map]
  have l5 : (overM d x).edges.length = (collect (ovH d x) (ove d x)).length := by rw [ov_edges.2, List.length_map]
  have nn : ∀ i, i < ovn d x → nth (overG d x).nodes i = nth d.nodes (byth x.nodes i % d.nodes.length) := fun i hi => by
    rw [nth_eq (by rw [l2]; exact hi)]
    simp [overG, ovN]
  have hk : ∀ j, j < ove d x → ovk d x j < d.edges.length := fun j hj => by
    refine Nat.mod_lt _ ?_
    by_cases z : d.edges.length = 0
    · simp only [ove, if_pos z] at hj
      omega
    · omega
  have l8 : ovn d x ≤ 8 := by simp only [ovn]; split <;> omega
  have l10 : ove d x ≤ 10 := by simp only [ove]; split <;> omega
  have lc : (collect (ovH d x) (ove d x)).length ≤ ove d x := collect_len
  have ends : ∀ j, (ovA d x j).length ≠ 0 → (ovB d x j).length ≠ 0 → (∃ a : Nat, (ovX d x j).f = a ∧ a < ovn d x ∧ nth (ovm d x) a = (eth d.edges (ovk d x j)).f) ∧ (∃ a : Nat, (ovX d x j).g = a ∧ a < ovn d x ∧ nth (ovm d x) a = (eth d.edges (ovk d x j)).g) := fun j h1 h2 => by
    obtain ⟨a, e1, e2, e3⟩ := overL_at (Nat.mod_lt (t3th x.edges j).b (Nat.pos_of_ne_zero h1))
    obtain ⟨b, f1, f2, f3⟩ := overL_at (Nat.mod_lt (t3th x.edges j).c (Nat.pos_of_ne_zero h2))
    have lm : (ovm d x).length = ovn d x := ovM_len
    exact ⟨⟨a, e1, by omega, e3⟩, ⟨b, f1, by omega, f3⟩⟩
  refine Hom.ok ⟨by rw [l1, l2], l3, fun z hz => ?_, fun z hz => ?_, fun i hi => ?_, fun i hi => ?_⟩ ⟨by omega, by omega, fun z hz => ?_, fun e he => ?_⟩ gd
  · obtain ⟨i, hi, rfl⟩ := mem_nth hz
    rw [l1] at hi
    obtain ⟨h1, h2⟩ := ovm_at hi
    have h1 : nth (overM d x).nodes i = _ := h1
    rw [h1]
    omega
  · obtain ⟨i, hi, rfl⟩ := mem_nth hz
    rw [l5] at hi
    obtain ⟨j, hj, _, h2, _⟩ := ov_at hi
    have := hk j hj
    rw [h2]
    omega
  · rw [l2] at hi
    obtain ⟨h1, h2⟩ := ovm_at hi
    have h1 : nth (overM d x).nodes i = _ := h1
    rw [nn i hi, fn, h1, Int.toNat_natCast]
  · rw [l4] at hi
    obtain ⟨j, hj, e1, e2, e3, e4⟩ := ov_at hi
    obtain ⟨⟨a, f1, f2, f3⟩, ⟨b, g1, g2, g3⟩⟩ := ends j e3 e4
    rw [fn, e2, Int.toNat_natCast, e1, f1, g1, Int.toNat_natCast, Int.toNat_natCast]
    exact ⟨rfl, f3.symm, g3.symm⟩
  · obtain ⟨i, hi, rfl⟩ := mem_nth hz
    rw [l2] at hi
    rw [nn i hi]
    exact gd.kinds _ (nth_mem (ovm_at hi).2)
  · obtain ⟨i, hi, rfl⟩ := mem_eth he
    rw [l4] at hi
    obtain ⟨j, hj, e1, e2, e3, e4⟩ := ov_at hi
    obtain ⟨⟨a, f1, f2, f3⟩, ⟨b, g1, g2, g3⟩⟩ := ends j e3 e4
    obtain ⟨t1, t2, _⟩ := gd.edges _ (eth_mem (hk j hj))
    rw [e1, l2]
    refine ⟨t1, t2, ?_, ?_, ?_, ?_⟩ <;> omega

/-! ### Lifted squares -/
def trS (s : Sq) : Sq := ⟨s.A, s.C, s.B, s.D, s.G, s.F, s.K, s.H⟩
theorem tr_sq {s : Sq} (h1 : sqErr s = 0) (h2 : commB s = true) : sqErr (trS s) = 0 ∧ commB (trS s) = true := by
  have ok := sqErr_ok h1
  obtain ⟨c1, c2⟩ := comm_at h1 h2
  exact ⟨sq_zero ok.G ok.F ok.K ok.H, comm_of ok.G ok.F ok.K ok.H (fun i hi => (c1 i hi).symm) (fun i hi => (c2 i hi).symm)⟩
theorem tr_then {s : Sq} (h2 : commB s = true) : thenP s.F s.H = thenP s.G s.K := sameP_iff.1 h2
theorem co_errs {c : Co} (h : CoOk c) : pbErr c = 0 ∨ pbErr c = 3 := by
  rw [pbErr, if_pos]
  · split
    · exact .inr rfl
    · exact .inl rfl
  · rw [coErr, if_pos (mor_zero h.F)]
    exact mor_zero h.G
section lift
variable {s : Sq} {x : Gr} {m : Pa}
/-- What mediates does so. -/
theorem lf_med (h1 : sqErr s = 0) (h2 : commB s = true) (hm : MorOk x s.D m) (hA : pbErr (cornA s x m) = 0) (hB : pbErr (cornB s x m) = 0) : medE (cornB s x m) (pbG (cornA s x m)) (lfF s x m) (lfU s x m) = 0 := by
  have ok := sqErr_ok h1
  have okA := (pbErr_few hA).1
  have okB := (pbErr_few hB).1
  have gA := pbG_ok hA
  have dn := (pbDown_hom okA).ok gA ok.F.ga
  have up := (pbUpp_hom okA).ok gA hm.ga
  have F := then_ok dn ok.F
  have pb := pb_std okA
  have l1 := F.ln
  have l2 := up.ln
  have l3 := F.le
  have l4 := up.le
  have k1 := dn.ln
  have k2 := dn.le
  have f1 := ok.F.ln
  have f2 := ok.F.le
  have H1 := ok.H.ln
  have H2 := ok.H.le
  have m1 := hm.ln
  have m2 := hm.le
  have c1 : ∀ i, i < (pbG (cornA s x m)).nodes.length → fn (thenP s.F s.H).nodes (fn (pbDown (cornA s x m)).nodes i) = fn m.nodes (fn (pbUpp (cornA s x m)).nodes i) := pb.1.comm
  have c2 : ∀ i, i < (pbG (cornA s x m)).edges.length → fn (thenP s.F s.H).edges (fn (pbDown (cornA s x m)).edges i) = fn m.edges (fn (pbUpp (cornA s x m)).edges i) := pb.2.comm
  have same : sameP (thenP (lfF s x m) s.H) (thenP (lfU s x m) m) = true := by
    refine sameP_iff.2 ?_
    have a1 : thru (lfF s x m).nodes s.H.nodes = thru (lfU s x m).nodes m.nodes := (thru_eq l1 l2).2 fun i hi => by
      have d1 : fn (pbDown (cornA s x m)).nodes i < s.A.nodes.length := dn.hom.mn i hi
      have d2 := ok.F.hom.mn _ d1
      have u1 : fn (pbUpp (cornA s x m)).nodes i < x.nodes.length := up.hom.mn i hi
      have := c1 i hi
      rw [fn_then (by omega)] at this
      have e1 : fn (lfF s x m).nodes i = fn s.F.nodes (fn (pbDown (cornA s x m)).nodes i) := fn_then (m := pbDown (cornA s x m)) (n := s.F) (by omega)
      have e2 := (fn_at ok.H.rn (show fn s.F.nodes (fn (pbDown (cornA s x m)).nodes i) < s.H.nodes.length by omega)).1
      have e3 := (fn_at hm.rn (show fn (pbUpp (cornA s x m)).nodes i < m.nodes.length by omega)).1
      show nth s.H.nodes (fn (lfF s x m).nodes i) = nth m.nodes (fn (pbUpp (cornA s x m)).nodes i)
      rw [e1, e2, e3, this]
    have a2 : thru (lfF s x m).edges s.H.edges = thru (lfU s x m).edges m.edges := (thru_eq l3 l4).2 fun i hi => by
      have d1 : fn (pbDown (cornA s x m)).edges i < s.A.edges.length := dn.hom.me i hi
      have d2 := ok.F.hom.me _ d1
      have u1 : fn (pbUpp (cornA s x m)).edges i < x.edges.length := up.hom.me i hi
      have := c2 i hi
      rw [fe_then (by omega)] at this
      have e1 : fn (lfF s x m).edges i = fn s.F.edges (fn (pbDown (cornA s x m)).edges i) := fe_then (m := pbDown (cornA s x m)) (n := s.F) (by omega)
      have e2 := (fn_at ok.H.re (show fn s.F.edges (fn (pbDown (cornA s x m)).edges i) < s.H.edges.length by omega)).1
      have e3 := (fn_at hm.re (show fn (pbUpp (cornA s x m)).edges i < m.edges.length by omega)).1
      show nth s.H.edges (fn (lfF s x m).edges i) = nth m.edges (fn (pbUpp (cornA s x m)).edges i)
      rw [e1, e2, e3, this]
    show (Pa.mk (thru (lfF s x m).nodes s.H.nodes) (thru (lfF s x m).edges s.H.edges)) = ⟨thru (lfU s x m).nodes m.nodes, thru (lfU s x m).edges m.edges⟩
    rw [a1, a2]
  rw [medE, if_pos hB, if_pos (show morErr (pbG (cornA s x m)) (cornB s x m).B (lfF s x m) = 0 from mor_zero F), if_pos (show morErr (pbG (cornA s x m)) (cornB s x m).C (lfU s x m) = 0 from mor_zero up)]
  exact if_pos same
theorem corn_tr (h2 : commB s = true) : cornA (trS s) x m = cornA s x m ∧ cornB (trS s) x m = cornC s x m ∧ cornC (trS s) x m = cornB s x m := by
  refine ⟨?_, rfl, rfl⟩
  show (⟨s.A, x, s.D, thenP s.G s.K, m⟩ : Co) = ⟨s.A, x, s.D, thenP s.F s.H, m⟩
  rw [tr_then h2]
theorem lf_med' (h1 : sqErr s = 0) (h2 : commB s = true) (hm : MorOk x s.D m) (hA : pbErr (cornA s x m) = 0) (hC : pbErr (cornC s x m) = 0) : medE (cornC s x m) (pbG (cornA s x m)) (lfG s x m) (lfU s x m) = 0 := by
  obtain ⟨t1, t2⟩ := tr_sq h1 h2
  obtain ⟨e1, e2, e3⟩ := corn_tr (x := x) (m := m) h2
  have := lf_med (s := trS s) (x := x) (m := m) t1 t2 hm (by rw [e1]; exact hA) (by rw [e2]; exact hC)
  rw [e2] at this
  have eF : lfF (trS s) x m = lfG s x m := by rw [lfF, e1]; rfl
  have eU : lfU (trS s) x m = lfU s x m := by rw [lfU, e1]; rfl
  rw [e1, eF, eU] at this
  exact this
theorem co_A (h1 : sqErr s = 0) (hm : MorOk x s.D m) : CoOk (cornA s x m) ∧ CoOk (cornB s x m) ∧ CoOk (cornC s x m) := by
  have ok := sqErr_ok h1
  exact ⟨⟨then_ok ok.F ok.H, hm⟩, ⟨ok.H, hm⟩, ⟨ok.K, hm⟩⟩
/-- The lifted square, or it is too large. -/
theorem lf_is (h1 : sqErr s = 0) (h2 : commB s = true) (hm : MorOk x s.D m) :
    lfR s x m = (noS, 3) ∨ (pbErr (cornA s x m) = 0 ∧ pbErr (cornB s x m) = 0 ∧ pbErr (cornC s x m) = 0 ∧ lfR s x m = (lfS s x m, 0)) := by
  obtain ⟨cA, cB, cC⟩ := co_A h1 hm
  rcases co_errs cB with b | b
  · rcases co_errs cC with c | c
    · rcases co_errs cA with a | a
      · refine .inr ⟨a, b, c, ?_⟩
        have e : lfE s x m = 0 := by
          rw [lfE, if_pos h1, if_pos (mor_zero hm), if_pos h2, if_pos b, if_pos c, if_pos a, if_pos (lf_med h1 h2 hm a b)]
          exact lf_med' h1 h2 hm a c
        rw [lfR, if_pos e]
      · have e : lfE s x m = 3 := by
          rw [lfE, if_pos h1, if_pos (mor_zero hm), if_pos h2, if_pos b, if_pos c, if_neg (by omega), a]
        exact .inl (by rw [lfR, if_neg (by omega), e])
    · have e : lfE s x m = 3 := by
        rw [lfE, if_pos h1, if_pos (mor_zero hm), if_pos h2, if_pos b, if_neg (by omega), c]
      exact .inl (by rw [lfR, if_neg (by omega), e])
  · have e : lfE s x m = 3 := by
      rw [lfE, if_pos h1, if_pos (mor_zero hm), if_pos h2, if_neg (by omega), b]
    exact .inl (by rw [lfR, if_neg (by omega), e])
theorem lf_sq (h1 : sqErr s = 0) (h2 : commB s = true) (hm : MorOk x s.D m) (hA : pbErr (cornA s x m) = 0) (hB : pbErr (cornB s x m) = 0) (hC : pbErr (cornC s x m) = 0) :
    sqErr (lfS s x m) = 0 ∧ commB (lfS s x m) = true ∧ (SqPO s → SqPO (lfS s x m)) := by
  have ok := sqErr_ok h1
  have c1 := med_cone (lf_med h1 h2 hm hA hB)
  have c2 := med_cone (lf_med' h1 h2 hm hA hC)
  have gA := pbG_ok hA
  have gB := pbG_ok hB
  have gC := pbG_ok hC
  have F := (med_hom c1).ok gA gB
  have G := (med_hom c2).ok gA gC
  have okA := (pbErr_few hA).1
  have H := (pbUpp_hom c1.ok).ok gB hm.ga
  have K := (pbUpp_hom c2.ok).ok gC hm.ga
  have dA := (pbDown_hom okA).ok gA ok.F.ga
  have uA := (pbUpp_hom okA).ok gA hm.ga
  have dB := (pbDown_hom c1.ok).ok gB ok.F.gb
  have dC := (pbDown_hom c2.ok).ok gC ok.G.gb
  have lA := dA.ln
  have lAe := dA.le
  have n1 : ∀ i, i < (pbG (cornA s x m)).nodes.length → fn (pbUpp (cornB s x m)).nodes (fn (medC (cornB s x m) (lfF s x m) (lfU s x m)).nodes i) = fn (lfU s x m).nodes i := fun i hi => by rw [fn, (med_n c1 hi).2.2]; rfl
  have n2 : ∀ i, i < (pbG (cornA s x m)).nodes.length → fn (pbUpp (cornC s x m)).nodes (fn (medC (cornC s x m) (lfG s x m) (lfU s x m)).nodes i) = fn (lfU s x m).nodes i := fun i hi => by rw [fn, (med_n c2 hi).2.2]; rfl
  have n3 : ∀ i, i < (pbG (cornA s x m)).edges.length → fn (pbUpp (cornB s x m)).edges (fn (medC (cornB s x m) (lfF s x m) (lfU s x m)).edges i) = fn (lfU s x m).edges i := fun i hi => by rw [fn, (med_e c1 hi).2.2]; rfl
  have n4 : ∀ i, i < (pbG (cornA s x m)).edges.length → fn (pbUpp (cornC s x m)).edges (fn (medC (cornC s x m) (lfG s x m) (lfU s x m)).edges i) = fn (lfU s x m).edges i := fun i hi => by rw [fn, (med_e c2 hi).2.2]; rfl
  have m1 : ∀ i, i < (pbG (cornA s x m)).nodes.length → fn (pbDown (cornB s x m)).nodes (fn (medC (cornB s x m) (lfF s x m) (lfU s x m)).nodes i) = fn s.F.nodes (fn (pbDown (cornA s x m)).nodes i) := fun i hi => by
    rw [fn, (med_n c1 hi).2.1]
    exact fn_then (m := pbDown (cornA s x m)) (n := s.F) (by omega)
  have m2 : ∀ i, i < (pbG (cornA s x m)).nodes.length → fn (pbDown (cornC s x m)).nodes (fn (medC (cornC s x m) (lfG s x m) (lfU s x m)).nodes i) = fn s.G.nodes (fn (pbDown (cornA s x m)).nodes i) := fun i hi => by
    rw [fn, (med_n c2 hi).2.1]
    exact fn_then (m := pbDown (cornA s x m)) (n := s.G) (by omega)
  have m3 : ∀ i, i < (pbG (cornA s x m)).edges.length → fn (pbDown (cornB s x m)).edges (fn (medC (cornB s x m) (lfF s x m) (lfU s x m)).edges i) = fn s.F.edges (fn (pbDown (cornA s x m)).edges i) := fun i hi => by
    rw [fn, (med_e c1 hi).2.1]
    exact fe_then (m := pbDown (cornA s x m)) (n := s.F) (by omega)
  have m4 : ∀ i, i < (pbG (cornA s x m)).edges.length → fn (pbDown (cornC s x m)).edges (fn (medC (cornC s x m) (lfG s x m) (lfU s x m)).edges i) = fn s.G.edges (fn (pbDown (cornA s x m)).edges i) := fun i hi => by
    rw [fn, (med_e c2 hi).2.1]
    exact fe_then (m := pbDown (cornA s x m)) (n := s.G) (by omega)
  have hs : sqErr (lfS s x m) = 0 := sq_zero F G H K
  refine ⟨hs, comm_of F G H K (fun i hi => (n1 i hi).trans (n2 i hi).symm) (fun i hi => (n3 i hi).trans (n4 i hi).symm), fun po => ⟨?_, ?_⟩⟩
  · have pA := (pb_std okA).1
    have pA' : PB (pbG (cornA s x m)).nodes.length s.A.nodes.length x.nodes.length (fn (pbDown (cornA s x m)).nodes) (fn (pbUpp (cornA s x m)).nodes) (fn (thenP s.F s.H).nodes) (fn m.nodes) := pA
    have f1 := ok.F.ln
    have q := pA'.congr dA.hom.mn uA.hom.mn (fun _ _ => rfl) (fun _ _ => rfl) (h' := fun a => fn s.H.nodes (fn s.F.nodes a)) (fun i hi => (fn_then (by omega)).symm) (fun _ _ => rfl)
    exact po_lift po.1 ok.F.hom.mn ok.G.hom.mn hm.hom.mn (pb_std c1.ok).1 (pb_std c2.ok).1 q dB.hom.mn H.hom.mn dC.hom.mn K.hom.mn dA.hom.mn F.hom.mn G.hom.mn m1 n1 m2 n2
  · have pA := (pb_std okA).2
    have pA' : PB (pbG (cornA s x m)).edges.length s.A.edges.length x.edges.length (fn (pbDown (cornA s x m)).edges) (fn (pbUpp (cornA s x m)).edges) (fn (thenP s.F s.H).edges) (fn m.edges) := pA
    have f1 := ok.F.le
    have q := pA'.congr dA.hom.me uA.hom.me (fun _ _ => rfl) (fun _ _ => rfl) (h' := fun a => fn s.H.edges (fn s.F.edges a)) (fun i hi => (fe_then (by omega)).symm) (fun _ _ => rfl)
    exact po_lift po.2 ok.F.hom.me ok.G.hom.me hm.hom.me (pb_std c1.ok).2 (pb_std c2.ok).2 q dB.hom.me H.hom.me dC.hom.me K.hom.me dA.hom.me F.hom.me G.hom.me m3 n3 m4 n4
open Classical in
theorem lf_kind (h1 : sqErr s = 0) (h2 : commB s = true) (po : SqPO s) (hm : MorOk x s.D m) (hA : pbErr (cornA s x m) = 0) (hB : pbErr (cornB s x m) = 0) (hC : pbErr (cornC s x m) = 0) :
    kindR (lfS s x m) = (0, 3) ∨ kindR (lfS s x m) = (1, 0) ∨ kindR (lfS s x m) = (3, 0) := by
  obtain ⟨k1, k2, k3⟩ := lf_sq h1 h2 hm hA hB hC
  have ok := sqErr_ok k1
  rcases un_errs ok.F.gb ok.G.gb with h | h
  · rcases kind_is k1 k2 h with e | e
    · exact .inl e
    · rw [if_pos (k3 po)] at e
      by_cases hp : SqPB (lfS s x m)
      · rw [if_pos hp] at e
        exact .inr (.inr e)
      · rw [if_neg hp] at e
        exact .inr (.inl e)
  · exact .inl (kind_too k1 k2 h)
/-- The lifted square of the turned square. -/
theorem lf_tr (h1 : sqErr s = 0) (h2 : commB s = true) (hm : MorOk x s.D m) (hA : pbErr (cornA s x m) = 0) (hB : pbErr (cornB s x m) = 0) (hC : pbErr (cornC s x m) = 0) :
    lfR (trS s) x m = (trS (lfS s x m), 0) := by
  obtain ⟨t1, t2⟩ := tr_sq h1 h2
  obtain ⟨e1, e2, e3⟩ := corn_tr (x := x) (m := m) h2
  rcases lf_is (s := trS s) (x := x) (m := m) t1 t2 hm with h | ⟨_, _, _, h⟩
  · exfalso
    have e : lfE (trS s) x m = 0 := by
      have q1 := lf_med (s := trS s) (x := x) (m := m) t1 t2 hm (by rw [e1]; exact hA) (by rw [e2]; exact hC)
      have q2 := lf_med' (s := trS s) (x := x) (m := m) t1 t2 hm (by rw [e1]; exact hA) (by rw [e3]; exact hB)
      rw [lfE, if_pos t1, if_pos (show morErr x (trS s).D m = 0 from mor_zero hm), if_pos t2, if_pos (by rw [e2]; exact hC), if_pos (by rw [e3]; exact hB), if_pos (by rw [e1]; exact hA), if_pos q1]
      exact q2
    rw [lfR, if_pos e] at h
    injection h with _ h
    cases h
  · rw [h]
    have eF : lfF (trS s) x m = lfG s x m := by rw [lfF, e1]; rfl
    have eG : lfG (trS s) x m = lfF s x m := by rw [lfG, e1]; rfl
    have eU : lfU (trS s) x m = lfU s x m := by rw [lfU, e1]; rfl
    have e : lfS (trS s) x m = trS (lfS s x m) := by
      rw [lfS, e1, e2, e3, eF, eG, eU]
      rfl
    rw [e]
end lift
end Go.Proofs.YthcnpnogfblkcaaGreat

/- The law of lifted pushouts. -/
namespace Go.Proofs.YthcnpnogfblkcaaGreat
open Abs
set_option linter.unusedSimpArgs false
set_option linter.unusedVariables false
attribute [local simp] rn0 rn1 rn2 rn3 rn4 rn5 rn6 rn7 evOp nests Arg.ev St.val St.set St.new sliceOf binInt2 binInt AV.cells rdAt St.live retOf resOf resAll treeOf treeCell treeCells treeTups untree frameOf TV.av TR.av ints edgs prs fillV splice intsOf trees V1.tree bx Gr.v Pa.v

def c_lawLifts : MFunc := ⟨124, [.tmp 6], .seq (.region [⟨some 3, .box 0 42 (.tmp 0), none⟩, ⟨some 4, .box 1 43 (.tmp 1), none⟩, ⟨some 5, .box 2 44 (.tmp 2), none⟩, ⟨some 6, .mv (.c (.one (.t (.bool false)))), none⟩]) (.seq (.seq (.region [⟨some 16, .call (.c (.one (.fn 11 []))) 64 [], none⟩, ⟨some 17, .not (.tmp 16), none⟩, ⟨some 18, .mv (.tmp 17), none⟩, ⟨some 19, .idxArr 2 1 (.tmp 4) (.c (.one (.t (.int .i64 0)))), some (18, false)⟩, ⟨some 20, .load false 1 (.tmp 19), some (18, false)⟩, ⟨some 21, .len (.tmp 20), some (18, false)⟩, ⟨some 22, .bin .gtr (.tmp 21) (.c (.one (.t (.int .i64 8)))), some (18, false)⟩, ⟨some 23, .pick (.tmp 18) (.c (.one (.t (.bool true)))) (.tmp 22), none⟩, ⟨some 24, .mv (.tmp 23), none⟩, ⟨some 25, .idxArr 2 1 (.tmp 4) (.c (.one (.t (.int .i64 1)))), some (24, false)⟩, ⟨some 26, .load false 1 (.tmp 25), some (24, false)⟩, ⟨some 27, .len (.tmp 26), some (24, false)⟩, ⟨some 28, .bin .gtr (.tmp 27) (.c (.one (.t (.int .i64 8)))), some (24, false)⟩, ⟨some 29, .pick (.tmp 24) (.c (.one (.t (.bool true)))) (.tmp 28), none⟩]) (.cond (.tmp 29) (.seq (.region [⟨some 30, .call (.c (.one (.fn 11 []))) 128 [], none⟩, ⟨some 6, .mv (.tmp 30), none⟩]) .ret) .skip)) (.seq (.region [⟨some 31, .load true 2 (.tmp 3), none⟩, ⟨some 32, .idxArr 2 1 (.tmp 4) (.c (.one (.t (.int .i64 0)))), none⟩, ⟨some 33, .load false 1 (.tmp 32), none⟩, ⟨some 34, .idxArr 2 1 (.tmp 4) (.c (.one (.t (.int .i64 1)))), none⟩, ⟨some 35, .load false 1 (.tmp 34), none⟩, ⟨some 36, .call (.c (.one (.fn 19 []))) 197 [.tmp 31, .tmp 33, .tmp 35], none⟩, ⟨some 37, .call (.c (.one (.fn 18 []))) 198 [.tmp 36], none⟩, ⟨some 7, .alloc 199 29 [.nil, .nil, .nil, .nil, .nil, .nil, .nil, .nil, .nil, .nil, .nil, .nil, .nil, .nil, .nil, .nil], none⟩, ⟨none, .store 16 (.tmp 7) (.tmp 37), none⟩]) (.seq (.region [⟨some 39, .fieldA 6 (.tmp 7), none⟩, ⟨some 40, .load true 2 (.tmp 39), none⟩, ⟨some 41, .load true 2 (.tmp 5), none⟩, ⟨some 42, .call (.c (.one (.fn 20 []))) 259 [.tmp 40, .tmp 41], none⟩, ⟨some 38, .mv (.tmp 42), none⟩, ⟨some 43, .extract (.tmp 38) 0, none⟩, ⟨some 44, .extract (.tmp 38) 1, none⟩, ⟨some 8, .alloc 263 25 [.nil, .nil], none⟩, ⟨some 9, .alloc 264 27 [.nil, .nil], none⟩, ⟨none, .store 2 (.tmp 8) (.tmp 43), none⟩, ⟨none, .store 2 (.tmp 9) (.tmp 44), none⟩]) (.seq (.region [⟨some 46, .load true 16 (.tmp 7), none⟩, ⟨some 47, .load true 2 (.tmp 8), none⟩, ⟨some 48, .load true 2 (.tmp 9), none⟩, ⟨some 49, .call (.c (.one (.fn 15 []))) 323 [.tmp 46, .tmp 47, .tmp 48], none⟩, ⟨some 45, .mv (.tmp 49), none⟩, ⟨some 50, .extract (.tmp 45) 0, none⟩, ⟨some 51, .extract (.tmp 45) 1, none⟩, ⟨some 10, .alloc 327 29 [.nil, .nil, .nil, .nil, .nil, .nil, .nil, .nil, .nil, .nil, .nil, .nil, .nil, .nil, .nil, .nil], none⟩, ⟨none, .store 16 (.tmp 10) (.tmp 50), none⟩, ⟨some 11, .mv (.tmp 51), none⟩]) (.seq (.region [⟨some 53, .load true 16 (.tmp 10), none⟩, ⟨some 54, .call (.c (.one (.fn 21 []))) 385 [.tmp 53], none⟩, ⟨some 52, .mv (.tmp 54), none⟩, ⟨some 55, .extract (.tmp 52) 0, none⟩, ⟨some 56, .extract (.tmp 52) 1, none⟩, ⟨some 12, .mv (.tmp 55), none⟩, ⟨some 13, .mv (.tmp 56), none⟩]) (.seq (.seq (.region [⟨some 57, .mv (.tmp 11), none⟩, ⟨some 58, .bin .neq (.tmp 57) (.c (.one (.t (.int .i64 0)))), none⟩, ⟨some 59, .mv (.tmp 58), none⟩, ⟨some 60, .mv (.tmp 13), some (59, false)⟩, ⟨some 61, .bin .neq (.tmp 60) (.c (.one (.t (.int .i64 0)))), some (59, false)⟩, ⟨some 62, .pick (.tmp 59) (.c (.one (.t (.bool true)))) (.tmp 61), none⟩]) (.cond (.tmp 62) (.seq (.region [⟨some 63, .mv (.tmp 11), none⟩, ⟨some 64, .bin .eql (.tmp 63) (.c (.one (.t (.int .i64 3)))), none⟩, ⟨some 65, .mv (.tmp 64), none⟩, ⟨some 66, .mv (.tmp 11), some (65, false)⟩, ⟨some 67, .bin .eql (.tmp 66) (.c (.one (.t (.int .i64 0)))), some (65, false)⟩, ⟨some 68, .mv (.tmp 67), some (65, false)⟩, ⟨some 69, .mv (.tmp 13), some (68, true)⟩, ⟨some 70, .bin .eql (.tmp 69) (.c (.one (.t (.int .i64 3)))), some (68, true)⟩, ⟨some 71, .pick (.tmp 68) (.tmp 70) (.c (.one (.t (.bool false)))), some (65, false)⟩, ⟨some 72, .pick (.tmp 65) (.c (.one (.t (.bool true)))) (.tmp 71), none⟩, ⟨some 6, .mv (.tmp 72), none⟩]) .ret) .skip)) (.seq (.region [⟨some 74, .fieldA 0 (.tmp 7), none⟩, ⟨some 75, .load true 2 (.tmp 74), none⟩, ⟨some 76, .fieldA 4 (.tmp 7), none⟩, ⟨some 77, .load true 2 (.tmp 76), none⟩, ⟨some 78, .fieldA 2 (.tmp 7), none⟩, ⟨some 79, .load true 2 (.tmp 78), none⟩, ⟨some 80, .fieldA 6 (.tmp 7), none⟩, ⟨some 81, .load true 2 (.tmp 80), none⟩, ⟨some 82, .fieldA 10 (.tmp 7), none⟩, ⟨some 83, .load true 2 (.tmp 82), none⟩, ⟨some 84, .fieldA 8 (.tmp 7), none⟩, ⟨some 85, .load true 2 (.tmp 84), none⟩, ⟨some 86, .fieldA 14 (.tmp 7), none⟩, ⟨some 87, .load true 2 (.tmp 86), none⟩, ⟨some 88, .fieldA 12 (.tmp 7), none⟩, ⟨some 89, .load true 2 (.tmp 88), none⟩, ⟨some 90, .build [.nil, .nil, .nil, .nil, .nil, .nil, .nil, .nil, .nil, .nil, .nil, .nil, .nil, .nil, .nil, .nil] [(0, (2, .tmp 75)), (2, (2, .tmp 77)), (4, (2, .tmp 79)), (6, (2, .tmp 81)), (8, (2, .tmp 83)), (10, (2, .tmp 85)), (12, (2, .tmp 87)), (14, (2, .tmp 89))], none⟩, ⟨some 91, .load true 2 (.tmp 8), none⟩, ⟨some 92, .load true 2 (.tmp 9), none⟩, ⟨some 93, .call (.c (.one (.fn 15 []))) 595 [.tmp 90, .tmp 91, .tmp 92], none⟩, ⟨some 73, .mv (.tmp 93), none⟩, ⟨some 94, .extract (.tmp 73) 0, none⟩, ⟨some 95, .extract (.tmp 73) 1, none⟩, ⟨some 14, .alloc 599 29 [.nil, .nil, .nil, .nil, .nil, .nil, .nil, .nil, .nil, .nil, .nil, .nil, .nil, .nil, .nil, .nil], none⟩, ⟨none, .store 16 (.tmp 14) (.tmp 94), none⟩, ⟨some 15, .mv (.tmp 95), none⟩]) (.seq (.region [⟨some 96, .mv (.tmp 12), none⟩, ⟨some 97, .bin .and (.tmp 96) (.c (.one (.t (.int .i64 1)))), none⟩, ⟨some 98, .bin .neq (.tmp 97) (.c (.one (.t (.int .i64 0)))), none⟩, ⟨some 99, .mv (.tmp 98), none⟩, ⟨some 100, .mv (.tmp 15), some (99, true)⟩, ⟨some 101, .bin .eql (.tmp 100) (.c (.one (.t (.int .i64 0)))), some (99, true)⟩, ⟨some 102, .pick (.tmp 99) (.tmp 101) (.c (.one (.t (.bool false)))), none⟩, ⟨some 103, .mv (.tmp 102), none⟩, ⟨some 104, .fieldA 0 (.tmp 10), some (103, true)⟩, ⟨some 105, .load true 2 (.tmp 104), some (103, true)⟩, ⟨some 106, .fieldA 0 (.tmp 14), some (103, true)⟩, ⟨some 107, .load true 2 (.tmp 106), some (103, true)⟩, ⟨some 108, .call (.c (.one (.fn 22 []))) 652 [.tmp 105, .tmp 107], some (103, true)⟩, ⟨some 109, .pick (.tmp 103) (.tmp 108) (.c (.one (.t (.bool false)))), none⟩, ⟨some 110, .mv (.tmp 109), none⟩, ⟨some 111, .fieldA 2 (.tmp 10), some (110, true)⟩, ⟨some 112, .load true 2 (.tmp 111), some (110, true)⟩, ⟨some 113, .fieldA 4 (.tmp 14), some (110, true)⟩, ⟨some 114, .load true 2 (.tmp 113), some (110, true)⟩, ⟨some 115, .call (.c (.one (.fn 22 []))) 659 [.tmp 112, .tmp 114], some (110, true)⟩, ⟨some 116, .pick (.tmp 110) (.tmp 115) (.c (.one (.t (.bool false)))), none⟩, ⟨some 117, .mv (.tmp 116), none⟩, ⟨some 118, .fieldA 8 (.tmp 10), some (117, true)⟩, ⟨some 119, .load true 2 (.tmp 118), some (117, true)⟩, ⟨some 120, .fieldA 10 (.tmp 14), some (117, true)⟩, ⟨some 121, .load true 2 (.tmp 120), some (117, true)⟩, ⟨some 122, .call (.c (.one (.fn 23 []))) 666 [.tmp 119, .tmp 121], some (117, true)⟩, ⟨some 123, .pick (.tmp 117) (.tmp 122) (.c (.one (.t (.bool false)))), none⟩, ⟨some 6, .mv (.tmp 123), none⟩]) .ret))))))))⟩
theorem k_lawLifts : cFn Tryz.prog Tryz.f4 = some c_lawLifts := by kernel_rfl
set_option maxHeartbeats 8000000 in
theorem lawLifts_ok (d : Dr) (z : List Nat × List Nat) (y : Dr) (hd : BoundD d) (hz : BoundB2 z) (hy : BoundD y) : CallOK Tryz.prog 4 [d.v, by2V z, y.v] (.sv (false, [.bool true])) := by
  obtain ⟨a, b⟩ := z
  obtain ⟨ha, hb⟩ := hz
  have ha1 := ha.1
  have hb1 := hb.1
  simp only at ha1 hb1
  refine callOK_W (callS_W (by kernel_rfl) Tryz.func4 k_lawLifts (callable_of Tryz.func4 (by kernel_rfl)) (by simp [c_lawLifts]) ?_)
  simp [c_lawLifts, Dr.v, by2V, bys, t3s]
  refine callS_tree awake14_ok ?_ ?_ ?_
  · rfl
  · rfl
  simp
  by_cases h1 : (8 : Int) < a.length
  · simp [h1]
    refine callS_tree awake14_ok ?_ ?_ ?_
    · rfl
    · rfl
    simp
  by_cases h2 : (8 : Int) < b.length
  · simp [h1, h2]
    refine callS_tree awake14_ok ?_ ?_ ?_
    · rfl
    · rfl
    simp
  obtain ⟨p1, p2, p3⟩ := p1_sq (d := d) (a := a) (b := b)
  have t1 := tiny_sq p1
  have os := sqErr_ok p1
  have hm := over_mor (x := y) os.H.gb
  have tx := tiny_ok hm.ga
  have tm := tiny_mor hm
  have pt := tr_sq p1 p2
  have tt := tiny_sq pt.1
  simp [h1, h2]
  refine callS_tree (made10_ok d a b hd (by omega) ha1 (by omega) hb1) ?_ ?_ ?_
  · rfl
  · rfl
  simp [Sp.v, Sp.cs]
  refine callS_tree (glued14_ok (mdS d a b) (tiny_sp mdS_ok)) ?_ ?_ ?_
  · rfl
  · rfl
  rw [← p1S]
  simp [Sq.v, Sq.cs]
  refine callS_tree (overG_ok (p1S d a b).D y os.H.gb hy) ?_ ?_ ?_
  · rfl
  · rfl
  generalize p1S d a b = s at p1 p2 p3 t1 os hm tx tm pt tt ⊢
  generalize overG s.D y = x at hm tx ⊢
  generalize overM s.D y = m at hm tm ⊢
  simp
  refine callS_tree (sLift_ok s x m t1 tx tm) ?_ ?_ ?_
  · rfl
  · rfl
  have tl := lfR_tiny (s := s) (m := m) tx
  rcases lf_is p1 p2 hm with e | ⟨hA, hB, hC, e⟩
  · rw [e] at tl ⊢
    simp [sqT, Sq.v, Sq.cs]
    refine callS_tree (sKind_ok noS noS_tiny) ?_ ?_ ?_
    · rfl
    · rfl
    simp [kindT]
  rw [e] at tl ⊢
  have tl : TinySq (lfS s x m) := tl
  simp [sqT, Sq.v, Sq.cs]
  refine callS_tree (sKind_ok (lfS s x m) tl) ?_ ?_ ?_
  · rfl
  · rfl
  have a1 : IntKind.i64.wrap (1 % 2 ^ IntKind.i64.bits) = 1 := by decide
  have a3 : IntKind.i64.wrap ((3 % 2 ^ IntKind.i64.bits &&& 1 % 2 ^ IntKind.i64.bits : Nat) : Int) = 1 := by decide
  have el := lf_tr p1 p2 hm hA hB hC
  rcases lf_kind p1 p2 p3 hm hA hB hC with k | k | k
  · rw [k]
    simp [kindT]
  all_goals
    rw [k]
    simp [kindT]
    refine callS_tree (sLift_ok (trS s) x m tt tx tm) ?_ ?_ ?_
    · rfl
    · rfl
    rw [el]
    simp [sqT, Sq.v, Sq.cs, a1, a3]
    refine callS_tree (ref5Same_ok (lfS s x m).A (lfS s x m).A tl.A tl.A) ?_ ?_ ?_
    · rfl
    · rfl
    simp
    refine callS_tree (ref5Same_ok (lfS s x m).B (lfS s x m).B tl.B tl.B) ?_ ?_ ?_
    · rfl
    · rfl
    simp
    refine callS_tree (rsame_ok (lfS s x m).F (lfS s x m).F tl.F tl.F) ?_ ?_ ?_
    · rfl
    · rfl
    rw [sameP_iff.2 rfl]
    simp
end Go.Proofs.YthcnpnogfblkcaaGreat

/- Squares, graphs and morphisms as arguments, opened. -/
namespace Go.Proofs.YthcnpnogfblkcaaGreat
open Abs
open Go.ChangeShapes Go.WideShapes Go.ChangeAt Go.RowKit
set_option linter.unusedSimpArgs false
set_option linter.unusedVariables false

theorem own : ownKnob Tryz.prog.godebug = none := by kernel_rfl
theorem laidOut : laidOutB Tryz.prog = true := by kernel_rfl
theorem oI : OpensI Tryz.prog 22 := opensI Tryz.underlying22 Tryz.underlying3 (by kernel_rfl) (by kernel_rfl)
theorem oE : OpensE Tryz.prog 23 := opensE Tryz.underlying23 Tryz.underlying76 ⟨rfl, rfl, rfl, rfl, rfl, rfl⟩ Tryz.underlying3 (by kernel_rfl) (by kernel_rfl) (by kernel_rfl)
theorem oG : OpensG Tryz.prog 25 := opensG Tryz.underlying25 ⟨rfl, rfl, rfl, rfl⟩ (by kernel_rfl) (by kernel_rfl) (by kernel_rfl) oI oE
theorem oM : OpensP Tryz.prog 27 := opensP Tryz.underlying27 ⟨rfl, rfl, rfl, rfl⟩ (by kernel_rfl) (by kernel_rfl) oI
theorem cG : Tryz.prog.cellsOf 25 = 2 := by kernel_rfl
theorem cM : Tryz.prog.cellsOf 27 = 2 := by kernel_rfl
theorem cS : Tryz.prog.cellsOf 29 = 16 := by kernel_rfl

def BoundG (g : Gr) : Prop := bound g.nodes.length ∧ bound g.edges.length
def BoundP (g : Pa) : Prop := bound g.nodes.length ∧ bound g.edges.length
structure BoundSq (s : Sq) : Prop where
  A : BoundG s.A
  B : BoundG s.B
  C : BoundG s.C
  D : BoundG s.D
  F : BoundP s.F
  G : BoundP s.G
  H : BoundP s.H
  K : BoundP s.K

theorem two_cells {w : World} {Z : Nat → Prop} {us : Array Value} {v0 v1 : Value} {c0 c1 : Abs.C} (e : us.toList = [v0, v1]) (h0 : CR w Z c0 v0) (h1 : CR w Z c1 v1) : TVR w Z (true, [c0, c1]) (.agg us) := by
  refine ⟨us, rfl, by simp [e], fun j c u hc hu => ?_⟩
  rw [e] at hu
  match j, hc, hu with
  | 0, hc, hu | 1, hc, hu =>
    simp at hc hu
    subst hc hu
    assumption
  | j + 2, hc, _ => simp at hc

/-- A graph, opened. -/
theorem open_graph {H : Type} {enc : TypeId × Value → H} {w : World} {base : Nat} {spare : Nat → Bool} {held : Bool} {v : Value} {d : DataW H} {ps : List MemPlace} (h : DataW.Trod enc Tryz.prog w base spare held 25 v d ps)
    (hw : (d.weights Tryz.prog 25).all (· ≤ reachBytes) = true) : ∃ g : Gr, TVR w (fun _ => False) g.v v ∧ BoundG g := by
  obtain ⟨fuel, hf⟩ := h
  obtain ⟨p, v0, v1, e, c0, c1, b0, b1⟩ := oG _ _ _ _ _ _ _ _ _ hf hw
  have hv : ∃ us : Array Value, v = .agg us := by
    cases v <;> first | exact ⟨_, rfl⟩ | (simp [Value.cells] at e)
  obtain ⟨us, rfl⟩ := hv
  have e : us.toList = [v0, v1] := e
  exact ⟨p, two_cells e c0 c1, b0, b1⟩

/-- A morphism, opened. -/
theorem open_mor {H : Type} {enc : TypeId × Value → H} {w : World} {base : Nat} {spare : Nat → Bool} {held : Bool} {v : Value} {d : DataW H} {ps : List MemPlace} (h : DataW.Trod enc Tryz.prog w base spare held 27 v d ps)
    (hw : (d.weights Tryz.prog 27).all (· ≤ reachBytes) = true) : ∃ g : Pa, TVR w (fun _ => False) g.v v ∧ BoundP g := by
  obtain ⟨fuel, hf⟩ := h
  obtain ⟨p, v0, v1, e, c0, c1, b0, b1⟩ := oM _ _ _ _ _ _ _ _ _ hf hw
  have hv : ∃ us : Array Value, v = .agg us := by
    cases v <;> first | exact ⟨_, rfl⟩ | (simp [Value.cells] at e)
  obtain ⟨us, rfl⟩ := hv
  have e : us.toList = [v0, v1] := e
  exact ⟨p, two_cells e c0 c1, b0, b1⟩

/-- A square, opened. -/
theorem open_sq {H : Type} {enc : TypeId × Value → H} {w : World} {base : Nat} {spare : Nat → Bool} {held : Bool} {v : Value} {d : DataW H} {ps : List MemPlace} (h : DataW.Trod enc Tryz.prog w base spare held 29 v d ps)
    (hw : (d.weights Tryz.prog 29).all (· ≤ reachBytes) = true) : ∃ s : Sq, TVR w (fun _ => False) s.v v ∧ BoundSq s := by
  obtain ⟨fuel, hf⟩ := h
  obtain ⟨xs, n, _, hx, hl, hlen, hfs⟩ := DataW.trod_struct Tryz.underlying29 hf
  rw [cS] at hl
  match xs, hlen with
  | [y0, y1, y2, y3, y4, y5, y6, y7], _ =>
    have g0 := hfs 0 _ rfl
    have g1 := hfs 1 _ rfl
    have g2 := hfs 2 _ rfl
    have g3 := hfs 3 _ rfl
    have g4 := hfs 4 _ rfl
    have g5 := hfs 5 _ rfl
    have g6 := hfs 6 _ rfl
    have g7 := hfs 7 _ rfl
    obtain ⟨rfl, rfl⟩ := Prod.mk.inj hx
    have hw : ((y0.1.weights Tryz.prog 25 ++ (y1.1.weights Tryz.prog 25 ++ (y2.1.weights Tryz.prog 25 ++ (y3.1.weights Tryz.prog 25 ++ (y4.1.weights Tryz.prog 27 ++ (y5.1.weights Tryz.prog 27 ++ (y6.1.weights Tryz.prog 27 ++ (y7.1.weights Tryz.prog 27 ++ [])))))))).all (· ≤ reachBytes)) = true := by
      simpa [DataW.weights, Tryz.underlying29, DataW.weightsEach] using hw
    simp only [List.all_append, Bool.and_eq_true] at hw
    obtain ⟨w0, w1, w2, w3, w4, w5, w6, w7, _⟩ := hw
    have hv : ∃ us : Array Value, v = .agg us := by
      cases v <;> first | exact ⟨_, rfl⟩ | (simp [Value.cells] at hl)
    obtain ⟨us, rfl⟩ := hv
    have hl : us.toList.length = 16 := hl
    match hu : us.toList, hl with
    | [a0, a1, a2, a3, a4, a5, a6, a7, a8, a9, a10, a11, a12, a13, a14, a15], _ =>
      simp only [Value.cells, hu] at g0 g1 g2 g3 g4 g5 g6 g7
      obtain ⟨x0, v0, v1, e0, c0, c1, b0, b1⟩ := oG _ _ _ _ _ _ _ _ _ g0 w0
      obtain ⟨x1, v2, v3, e1, c2, c3, b2, b3⟩ := oG _ _ _ _ _ _ _ _ _ g1 w1
      obtain ⟨x2, v4, v5, e2, c4, c5, b4, b5⟩ := oG _ _ _ _ _ _ _ _ _ g2 w2
      obtain ⟨x3, v6, v7, e3, c6, c7, b6, b7⟩ := oG _ _ _ _ _ _ _ _ _ g3 w3
      obtain ⟨x4, v8, v9, e4, c8, c9, b8, b9⟩ := oM _ _ _ _ _ _ _ _ _ g4 w4
      obtain ⟨x5, v10, v11, e5, c10, c11, b10, b11⟩ := oM _ _ _ _ _ _ _ _ _ g5 w5
      obtain ⟨x6, v12, v13, e6, c12, c13, b12, b13⟩ := oM _ _ _ _ _ _ _ _ _ g6 w6
      obtain ⟨x7, v14, v15, e7, c14, c15, b14, b15⟩ := oM _ _ _ _ _ _ _ _ _ g7 w7
      simp [cG, cM] at e0 e1 e2 e3 e4 e5 e6 e7
      obtain ⟨rfl, rfl⟩ := e0
      obtain ⟨rfl, rfl⟩ := e1
      obtain ⟨rfl, rfl⟩ := e2
      obtain ⟨rfl, rfl⟩ := e3
      obtain ⟨rfl, rfl⟩ := e4
      obtain ⟨rfl, rfl⟩ := e5
      obtain ⟨rfl, rfl⟩ := e6
      obtain ⟨rfl, rfl⟩ := e7
      refine ⟨⟨x0, x1, x2, x3, x4, x5, x6, x7⟩, ⟨us, rfl, by simp [hu, Sq.cs], fun j c u hc hu' => ?_⟩, ⟨⟨b0, b1⟩, ⟨b2, b3⟩, ⟨b4, b5⟩, ⟨b6, b7⟩, ⟨b8, b9⟩, ⟨b10, b11⟩, ⟨b12, b13⟩, ⟨b14, b15⟩⟩⟩
      rw [hu] at hu'
      match j, hc, hu' with
      | 0, hc, hu' | 1, hc, hu' | 2, hc, hu' | 3, hc, hu' | 4, hc, hu' | 5, hc, hu' | 6, hc, hu' | 7, hc, hu' | 8, hc, hu' | 9, hc, hu' | 10, hc, hu' | 11, hc, hu' | 12, hc, hu' | 13, hc, hu' | 14, hc, hu' | 15, hc, hu' =>
        simp [Sq.cs] at hc hu'
        subst hc hu'
        assumption
      | j + 16, hc, _ => simp [Sq.cs] at hc
end Go.Proofs.YthcnpnogfblkcaaGreat

/- Descriptions, lists of bytes and words as arguments, opened. -/
namespace Go.Proofs.YthcnpnogfblkcaaGreat
open Abs
open Go.ChangeShapes Go.WideShapes Go.RowKit
set_option linter.unusedSimpArgs false
set_option linter.unusedVariables false

theorem oB : OpensB Tryz.prog 39 := fun H enc w base spare held fuel cs x h => open_by_list Tryz.underlying39 Tryz.underlying5 (by kernel_rfl) h
theorem oT : OpensT Tryz.prog 40 := fun H enc w base spare held fuel cs x h => open_t3_list Tryz.underlying40 Tryz.underlying91 Tryz.underlying5 (by kernel_rfl) (by kernel_rfl) h

theorem oD : OpensD Tryz.prog 42 := opensD Tryz.underlying42 ⟨rfl, rfl, rfl, rfl⟩ (by kernel_rfl) (by kernel_rfl) (by kernel_rfl) oB oT

theorem oA : OpensD Tryz.prog 44 := opensD Tryz.underlying44 ⟨rfl, rfl, rfl, rfl⟩ (by kernel_rfl) (by kernel_rfl) (by kernel_rfl) oB oT

theorem open_draft {H : Type} {enc : TypeId × Value → H} {w : World} {base : Nat} {spare : Nat → Bool} {held : Bool} {v : Value} {d : DataW H} {ps : List MemPlace} (h : DataW.Trod enc Tryz.prog w base spare held 42 v d ps)
    (hw : (d.weights Tryz.prog 42).all (· ≤ reachBytes) = true) : ∃ x : Dr, TVR w (fun _ => False) x.v v ∧ BoundD x := oD _ _ _ _ _ _ _ _ _ h

theorem open_above {H : Type} {enc : TypeId × Value → H} {w : World} {base : Nat} {spare : Nat → Bool} {held : Bool} {v : Value} {d : DataW H} {ps : List MemPlace} (h : DataW.Trod enc Tryz.prog w base spare held 44 v d ps)
    (hw : (d.weights Tryz.prog 44).all (· ≤ reachBytes) = true) : ∃ x : Dr, TVR w (fun _ => False) x.v v ∧ BoundD x := oA _ _ _ _ _ _ _ _ _ h

theorem open_bytes2 {H : Type} {enc : TypeId × Value → H} {w : World} {base : Nat} {spare : Nat → Bool} {held : Bool} {v : Value} {d : DataW H} {ps : List MemPlace} (h : DataW.Trod enc Tryz.prog w base spare held 43 v d ps)
    (hw : (d.weights Tryz.prog 43).all (· ≤ reachBytes) = true) : ∃ x, TVR w (fun _ => False) (by2V x) v ∧ BoundB2 x := opens_bytes2 oB Tryz.underlying43 (by kernel_rfl) (by kernel_rfl) h

theorem open_bytes3 {H : Type} {enc : TypeId × Value → H} {w : World} {base : Nat} {spare : Nat → Bool} {held : Bool} {v : Value} {d : DataW H} {ps : List MemPlace} (h : DataW.Trod enc Tryz.prog w base spare held 72 v d ps)
    (hw : (d.weights Tryz.prog 72).all (· ≤ reachBytes) = true) : ∃ x, TVR w (fun _ => False) (by3V x) v ∧ BoundB3 x := opens_bytes3 oB Tryz.underlying72 (by kernel_rfl) (by kernel_rfl) h

theorem open_bytes {H : Type} {enc : TypeId × Value → H} {w : World} {base : Nat} {spare : Nat → Bool} {held : Bool} {v : Value} {d : DataW H} {ps : List MemPlace} (h : DataW.Trod enc Tryz.prog w base spare held 39 v d ps)
    (hw : (d.weights Tryz.prog 39).all (· ≤ reachBytes) = true) (hs : ∃ a len cap, v = Value.slice a len cap) : ∃ x, TVR w (fun _ => False) (byV x) v ∧ BoundB x ∧ (x = [] ∨ ∃ es sp, d = .slice es sp ∧ es.length = x.length) := by
  obtain ⟨a, len, cap, rfl⟩ := hs
  exact opens_bytes oB h fun _ => rfl

theorem open_u64 {H : Type} {enc : TypeId × Value → H} {w : World} {base : Nat} {spare : Nat → Bool} {held : Bool} {v : Value} {d : DataW H} {ps : List MemPlace} (h : DataW.Trod enc Tryz.prog w base spare held 60 v d ps)
    (hw : (d.weights Tryz.prog 60).all (· ≤ reachBytes) = true) (hs : ∃ n, v = Value.int .u64 n) : ∃ x, TVR w (fun _ => False) (u64V x) v ∧ BoundU x := by
  obtain ⟨n, rfl⟩ := hs
  exact opens_u64 Tryz.underlying60 h fun _ => rfl

end Go.Proofs.YthcnpnogfblkcaaGreat

/- The row of SquareLifts, closed, if the law answers true for every input. -/
namespace Go.Proofs.YthcnpnogfblkcaaGreat
open Abs
open Go.ChangeShapes Go.WideShapes Go.ChangeAt Go.RowKit
set_option linter.unusedSimpArgs false
set_option linter.unusedVariables false

namespace squareLifts
/-- What the law is to answer. -/
def Law : Prop := ∀ (x0 : Dr) (x1 : List Nat × List Nat) (x2 : Dr), BoundD x0 → BoundB2 x1 → BoundD x2 → CallOK Tryz.prog 4 [x0.v, by2V x1, x2.v] (.sv (false, [.bool true]))

theorem calls (h : Law) {H : Type} {enc : TypeId × Value → H} {w : World} {base : Nat} {spare : Nat → Bool} {held : Bool} {v0 v1 v2 : Value} {d0 d1 d2 : DataW H} {p0 p1 p2 : List MemPlace}
    (h0 : DataW.Trod enc Tryz.prog w base spare held 42 v0 d0 p0) (hw0 : (d0.weights Tryz.prog 42).all (· ≤ reachBytes) = true)
    (h1 : DataW.Trod enc Tryz.prog w base spare held 43 v1 d1 p1) (hw1 : (d1.weights Tryz.prog 43).all (· ≤ reachBytes) = true)
    (h2 : DataW.Trod enc Tryz.prog w base spare held 44 v2 d2 p2) (hw2 : (d2.weights Tryz.prog 44).all (· ≤ reachBytes) = true)
    : Calls Tryz.prog 4 #[v0, v1, v2] w fun e w' => e = .returned (.bool true) ∧ Below w.heap.size w w' := by
  obtain ⟨x0, hx0, hb0⟩ := open_draft h0 hw0
  obtain ⟨x1, hx1, hb1⟩ := open_bytes2 h1 hw1
  obtain ⟨x2, hx2, hb2⟩ := open_above h2 hw2
  refine ((h x0 x1 x2 hb0 hb1 hb2).2 w (fun _ => False) #[v0, v1, v2] (fun b hb => hb.elim) rfl (fun j s u hs hu => ?_)).mono ?_
  · match j, hs, hu with
    | 0, hs, hu =>
      simp at hs hu
      subst hs hu
      exact hx0
    | 1, hs, hu =>
      simp at hs hu
      subst hs hu
      exact hx1
    | 2, hs, hu =>
      simp at hs hu
      subst hs hu
      exact hx2
    | j + 3, hs, _ => simp at hs
  · rintro e w' ⟨u, rfl, hu, hbel⟩
    obtain ⟨c, hc, hc2⟩ := hu
    simp at hc
    subst hc
    cases hc2
    exact ⟨rfl, hbel⟩

set_option maxRecDepth 100000 in
theorem lifted (law : Law) (os : Os) (started : os.Started) (H : Type) (enc : TypeId × Value → H) :
    ReturnsInHanded {} Tryz.checked os 4 .any (Rows.squareLiftsSpec.pre6 enc Tryz.prog Tryz.f4 Rows.squareLiftsRow.domain false) (Rows.squareLiftsSpec.post enc Tryz.prog Tryz.f4 false true false false) := by
  refine returnsInHanded_of_change_sized (C := Tryz.checked) own started (by kernel_rfl) Tryz.func4
    (ChangeSpec.witness6 (enc := enc) (C := Tryz.checked) false ⟨#[], #[.agg #[.slice none 0 0, .slice none 0 0], .agg #[.slice none 0 0, .slice none 0 0], .agg #[.slice none 0 0, .slice none 0 0]], []⟩ 8 (by kernel_rfl) (by kernel_rfl) (by kernel_rfl) (by kernel_rfl)) ?_
  intro W base args ds gs before hval0 hW hcnd hsz0 _
  have hsz : (DataW.weightsEach Tryz.prog (Tryz.f4.params.toList ++ Rows.squareLiftsSpec.plain.varTypes Tryz.prog) (ds ++ gs)).all (· ≤ reachBytes) = true := hsz0
  have hW' := hW
  obtain ⟨p, q, hA0, hV, rfl, hfz, hnd⟩ := hW
  have hA : DataW.TrodAll enc Tryz.prog W 0 (fun _ => true) true Tryz.f4.params.toList args.toList ds p := hA0
  rw [Tryz.params4] at hA hsz
  obtain ⟨v0, vs0, d0, ds0, p0, q0, hargs0, rfl, rfl, h0, r0⟩ := trodAll_cons hA
  obtain ⟨v1, vs1, d1, ds1, p1, q1, hargs1, rfl, rfl, h1, r1⟩ := trodAll_cons r0
  obtain ⟨v2, vs2, d2, ds2, p2, q2, hargs2, rfl, rfl, h2, r2⟩ := trodAll_cons r1
  obtain ⟨rfl, rfl, rfl⟩ := trodAll_nil r2
  obtain rfl : args = #[v0, v1, v2] := by cases args; simp_all
  obtain ⟨rfl, rfl⟩ := trodVars_none hV
  have hw0 : (d0.weights Tryz.prog 42).all (· ≤ reachBytes) = true := by
    refine List.all_eq_true.2 fun n hn => List.all_eq_true.1 hsz n ?_
    exact DataW.weights_mem_each (j := 0) (t := 42) (d := d0) rfl rfl n hn
  have lt0 : ∀ x ∈ p0, x.block < W.heap.size := by obtain ⟨m, hm⟩ := h0; exact DataW.trod_lt m _ _ _ hm
  have hw1 : (d1.weights Tryz.prog 43).all (· ≤ reachBytes) = true := by
    refine List.all_eq_true.2 fun n hn => List.all_eq_true.1 hsz n ?_
    exact DataW.weights_mem_each (j := 1) (t := 43) (d := d1) rfl rfl n hn
  have lt1 : ∀ x ∈ p1, x.block < W.heap.size := by obtain ⟨m, hm⟩ := h1; exact DataW.trod_lt m _ _ _ hm
  have hw2 : (d2.weights Tryz.prog 44).all (· ≤ reachBytes) = true := by
    refine List.all_eq_true.2 fun n hn => List.all_eq_true.1 hsz n ?_
    exact DataW.weights_mem_each (j := 2) (t := 44) (d := d2) rfl rfl n hn
  have lt2 : ∀ x ∈ p2, x.block < W.heap.size := by obtain ⟨m, hm⟩ := h2; exact DataW.trod_lt m _ _ _ hm
  clear hA0 hval0 hsz0 hsz
  refine (calls law h0 hw0 h1 hw1 h2 hw2).mono fun e W' ⟨he, bel⟩ => ?_
  subst he
  exact ⟨_, rfl, _, _, _, [], _, [], hW', trodAll_mk1 (shut_bool Tryz.underlying4 _), (trodAll_cons_mk (Below.trod laidOut (by kernel_rfl) (of_decide_eq_true (by kernel_rfl)) h0 bel lt0) (trodAll_cons_mk (Below.trod laidOut (by kernel_rfl) (of_decide_eq_true (by kernel_rfl)) h1 bel lt1) (trodAll_cons_mk (Below.trod laidOut (by kernel_rfl) (of_decide_eq_true (by kernel_rfl)) h2 bel lt2) trodAll_mk0))), rfl, bel.frame _, fun h => by cases h⟩

theorem over (law : Law) : Rows.squareLiftsRow.holds Tryz.pinned (OpenSpec.ofChange Rows.squareLiftsSpec) :=
  OpenClaim.holds_of_wide 4 Tryz.f4 rfl rfl rfl rfl rfl rfl rfl ⟨rfl, rfl, rfl, rfl, rfl⟩ rfl rfl rfl rfl rfl (by kernel_rfl) Tryz.func4 (by kernel_rfl)
    (of_decide_eq_true (by kernel_rfl)) (by unfold Func.isWrapper; first | (rw [if_pos (by decide +kernel)]; kernel_rfl) | (rw [if_neg (by decide +kernel)]; exact ⟨rfl, rfl⟩))
    (fun os started H enc _ => lifted law os started H enc)
end squareLifts
end Go.Proofs.YthcnpnogfblkcaaGreat

/- SquareLifts answers true for every input. -/
namespace Go.Proofs.YthcnpnogfblkcaaGreat
open Abs
theorem squareLifts_holds : Rows.SquareLiftsSaid := squareLifts.over fun d z y hd hz hy => lawLifts_ok d z y hd hz hy
end Go.Proofs.YthcnpnogfblkcaaGreat
