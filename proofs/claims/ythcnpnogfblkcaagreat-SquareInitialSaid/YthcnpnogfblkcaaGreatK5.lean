/-
  Joined texts: the theorem of this claim and its last steps. No condition beyond those that each statement names.
-/
import Derived.Test.YthcnpnogfblkcaaGreatK4
import Derived.SizedLaws
import Derived.ChangeSlices
import Derived.Deep.Strs
import Derived.Deep.Slices
import Derived.Test.YthcnpnogfblkcaaGreatRows
import Derived.WalkKit
import Derived.ProofKit
import Derived.OpenShut
import Derived.ChangeOld
import Derived.Below
import Derived.Carry
/- Contract: the reference's initial pushouts (2). -/
namespace Go.Proofs.YthcnpnogfblkcaaGreat
open Abs
set_option linter.unusedSimpArgs false
set_option linter.unusedVariables false
attribute [local simp] rn0 rn1 rn2 rn3 rn4 rn5 rn6 rn7 evOp nests Arg.ev St.val St.set St.new sliceOf binInt2 binInt AV.cells rdAt St.live retOf resOf resAll treeOf treeCell treeCells treeTups untree frameOf TV.av TR.av ints edgs prs fillV splice intsOf trees V1.tree bx Gr.v Pa.v opRd opWr opNew opNewR opArgs argsRd argRd Arg.rd AV.refs V1.refs refsL dstL

/-- What all loops keep. -/
def rI (a b : Gr) (m : Pa) (S : St) : Prop := S.fr 3 = .one (.ptr (0, 0) 0) ∧ S.fr 4 = .one (.ptr (1, 0) 0) ∧ S.fr 5 = .one (.ptr (2, 0) 0) ∧ S.fr 6 = .one (.ptr (3, 0) 0) ∧ S.fr 10 = .one (.ptr (448, 0) 0) ∧
  S.ob (0, 0) = some (bx 25 (a.v.2.map .t)) ∧ S.ob (1, 0) = some (bx 25 (b.v.2.map .t)) ∧ S.ob (2, 0) = some (bx 27 (m.v.2.map .t)) ∧
  S.ob (3, 0) = some (bx 29 [.nil, .nil, .nil, .nil, .nil, .nil, .nil, .nil, .nil, .nil, .nil, .nil, .nil, .nil, .nil, .nil])

def c_rInit : MFunc := ⟨165, [.cell 6 true 16, .tmp 7], .seq (.region [⟨some 3, .box 0 25 (.tmp 0), none⟩, ⟨some 4, .box 1 25 (.tmp 1), none⟩, ⟨some 5, .box 2 27 (.tmp 2), none⟩, ⟨some 6, .alloc 3 29 [.nil, .nil, .nil, .nil, .nil, .nil, .nil, .nil, .nil, .nil, .nil, .nil, .nil, .nil, .nil, .nil], none⟩, ⟨some 7, .mv (.c (.one (.t (.int .i64 0)))), none⟩]) (.seq (.seq (.region [⟨some 17, .load true 2 (.tmp 3), none⟩, ⟨some 18, .load true 2 (.tmp 4), none⟩, ⟨some 19, .load true 2 (.tmp 5), none⟩, ⟨some 20, .call (.c (.one (.fn 48 []))) 67 [.tmp 17, .tmp 18, .tmp 19], none⟩, ⟨some 8, .mv (.tmp 20), none⟩]) (.seq (.region [⟨some 21, .mv (.tmp 8), none⟩, ⟨some 22, .bin .neq (.tmp 21) (.c (.one (.t (.int .i64 0)))), none⟩]) (.cond (.tmp 22) (.seq (.region [⟨some 23, .build [.nil, .nil, .nil, .nil, .nil, .nil, .nil, .nil, .nil, .nil, .nil, .nil, .nil, .nil, .nil, .nil] [], none⟩, ⟨some 24, .mv (.tmp 8), none⟩, ⟨none, .store 16 (.tmp 6) (.tmp 23), none⟩, ⟨some 7, .mv (.tmp 24), none⟩]) .ret) .skip))) (.seq (.seq (.region [⟨some 25, .load true 2 (.tmp 3), none⟩, ⟨some 26, .load true 2 (.tmp 4), none⟩, ⟨some 27, .load true 2 (.tmp 5), none⟩, ⟨some 28, .call (.c (.one (.fn 64 []))) 259 [.tmp 25, .tmp 26, .tmp 27], none⟩, ⟨some 29, .not (.tmp 28), none⟩]) (.cond (.tmp 29) (.seq (.region [⟨some 30, .build [.nil, .nil, .nil, .nil, .nil, .nil, .nil, .nil, .nil, .nil, .nil, .nil, .nil, .nil, .nil, .nil] [], none⟩, ⟨none, .store 16 (.tmp 6) (.tmp 30), none⟩, ⟨some 7, .mv (.c (.one (.t (.int .i64 15)))), none⟩]) .ret) .skip)) (.seq (.region [⟨some 9, .mv (.c (.one .nil)), none⟩]) (.seq (.region [⟨some 10, .alloc 448 63 [.nil, .nil], none⟩]) (.seq (.seq (.region [⟨some 11, .mv (.c (.one (.t (.int .i64 0)))), none⟩]) (.block 0 (.loop (.seq (.seq (.region [⟨some 31, .mv (.tmp 11), none⟩, ⟨some 32, .fieldA 1 (.tmp 4), none⟩, ⟨some 33, .load false 1 (.tmp 32), none⟩, ⟨some 34, .len (.tmp 33), none⟩, ⟨some 35, .bin .lss (.tmp 31) (.tmp 34), none⟩]) (.cond (.tmp 35) .skip (.exit 0))) (.seq (.block 1 (.seq (.region [⟨some 38, .fieldA 1 (.tmp 5), none⟩, ⟨some 39, .load false 1 (.tmp 38), none⟩, ⟨some 40, .mv (.tmp 11), none⟩, ⟨some 41, .call (.c (.one (.fn 65 []))) 707 [.tmp 39, .tmp 40], none⟩, ⟨some 42, .not (.tmp 41), none⟩]) (.cond (.tmp 42) (.seq (.region [⟨some 43, .fieldA 1 (.tmp 10), none⟩, ⟨some 44, .load false 1 (.tmp 43), none⟩, ⟨some 45, .mv (.tmp 11), none⟩, ⟨some 46, .mkrow 771 3 1 1 [.t (.int .i64 0)] [(0, (1, .tmp 45))], none⟩, ⟨some 47, .append 772 3 1 8 (.tmp 44) (.tmp 46), none⟩, ⟨some 48, .fieldA 1 (.tmp 10), none⟩, ⟨none, .store 1 (.tmp 48) (.tmp 47), none⟩]) (.draw [[], [], [1], [], [2, 3], [4], [5], [], [7], [], [8, 9], [10], [11], [6, 12], [0, 13], [14, 14, 0, 1, 2, 3, 4, 5, 6, 7, 8, 9, 10, 11, 12, 13, 14]] [⟨some 49, .mv (.tmp 9), none⟩, ⟨some 50, .fieldA 1 (.tmp 4), none⟩, ⟨some 51, .load false 1 (.tmp 50), none⟩, ⟨some 52, .mv (.tmp 11), none⟩, ⟨some 53, .idxA 3 (.tmp 51) (.tmp 52), none⟩, ⟨some 54, .fieldA 1 (.tmp 53), none⟩, ⟨some 55, .load false 1 (.tmp 54), none⟩, ⟨some 56, .fieldA 1 (.tmp 4), none⟩, ⟨some 57, .load false 1 (.tmp 56), none⟩, ⟨some 58, .mv (.tmp 11), none⟩, ⟨some 59, .idxA 3 (.tmp 57) (.tmp 58), none⟩, ⟨some 60, .fieldA 2 (.tmp 59), none⟩, ⟨some 61, .load false 1 (.tmp 60), none⟩, ⟨some 62, .mkrow 845 3 1 2 [.t (.int .i64 0), .t (.int .i64 0)] [(0, (1, .tmp 55)), (1, (1, .tmp 61))], none⟩, ⟨some 63, .append 846 3 1 8 (.tmp 49) (.tmp 62), none⟩, ⟨some 9, .mv (.tmp 63), none⟩])) .skip))) (.region [⟨some 36, .mv (.tmp 11), none⟩, ⟨some 37, .bin .add (.tmp 36) (.c (.one (.t (.int .i64 1)))), none⟩, ⟨some 11, .mv (.tmp 37), none⟩])))))) (.seq (.region [⟨some 12, .alloc 896 63 [.nil, .nil], none⟩]) (.seq (.seq (.region [⟨some 13, .mv (.c (.one (.t (.int .i64 0)))), none⟩]) (.block 2 (.loop (.seq (.seq (.region [⟨some 64, .mv (.tmp 13), none⟩, ⟨some 65, .fieldA 0 (.tmp 3), none⟩, ⟨some 66, .load false 1 (.tmp 65), none⟩, ⟨some 67, .len (.tmp 66), none⟩, ⟨some 68, .bin .lss (.tmp 64) (.tmp 67), none⟩]) (.cond (.tmp 68) .skip (.exit 2))) (.seq (.block 3 (.seq (.region [⟨some 71, .mv (.tmp 9), none⟩, ⟨some 72, .fieldA 0 (.tmp 5), none⟩, ⟨some 73, .load false 1 (.tmp 72), none⟩, ⟨some 74, .mv (.tmp 13), none⟩, ⟨some 75, .idxA 1 (.tmp 73) (.tmp 74), none⟩, ⟨some 76, .load false 1 (.tmp 75), none⟩, ⟨some 77, .call (.c (.one (.fn 65 []))) 1158 [.tmp 71, .tmp 76], none⟩]) (.cond (.tmp 77) (.region [⟨some 78, .fieldA 0 (.tmp 12), none⟩, ⟨some 79, .load false 1 (.tmp 78), none⟩, ⟨some 80, .mv (.tmp 13), none⟩, ⟨some 81, .mkrow 1219 3 1 1 [.t (.int .i64 0)] [(0, (1, .tmp 80))], none⟩, ⟨some 82, .append 1220 3 1 8 (.tmp 79) (.tmp 81), none⟩, ⟨some 83, .fieldA 0 (.tmp 12), none⟩, ⟨none, .store 1 (.tmp 83) (.tmp 82), none⟩]) .skip))) (.region [⟨some 69, .mv (.tmp 13), none⟩, ⟨some 70, .bin .add (.tmp 69) (.c (.one (.t (.int .i64 1)))), none⟩, ⟨some 13, .mv (.tmp 70), none⟩])))))) (.seq (.seq (.region [⟨some 14, .mv (.c (.one (.t (.int .i64 0)))), none⟩]) (.block 4 (.loop (.seq (.seq (.region [⟨some 84, .mv (.tmp 14), none⟩, ⟨some 85, .fieldA 0 (.tmp 4), none⟩, ⟨some 86, .load false 1 (.tmp 85), none⟩, ⟨some 87, .len (.tmp 86), none⟩, ⟨some 88, .bin .lss (.tmp 84) (.tmp 87), none⟩]) (.cond (.tmp 88) .skip (.exit 4))) (.seq (.block 5 (.seq (.draw [[], [0], [], [1, 2], [3], [4, 3], [5], [6, 5], [5], [8, 5], [5], [9, 10, 5, 5], [7, 11, 11, 5], [5, 12]] [⟨some 91, .fieldA 0 (.tmp 5), none⟩, ⟨some 92, .load false 1 (.tmp 91), none⟩, ⟨some 93, .mv (.tmp 14), none⟩, ⟨some 94, .call (.c (.one (.fn 65 []))) 1475 [.tmp 92, .tmp 93], none⟩, ⟨some 95, .not (.tmp 94), none⟩, ⟨some 96, .mv (.tmp 95), none⟩, ⟨some 97, .fieldA 0 (.tmp 12), some (96, false)⟩, ⟨some 98, .load false 1 (.tmp 97), some (96, false)⟩, ⟨some 99, .fieldA 0 (.tmp 5), some (96, false)⟩, ⟨some 100, .load false 1 (.tmp 99), some (96, false)⟩, ⟨some 101, .mv (.tmp 14), some (96, false)⟩, ⟨some 102, .call (.c (.one (.fn 66 []))) 1483 [.tmp 100, .tmp 101], some (96, false)⟩, ⟨some 103, .call (.c (.one (.fn 65 []))) 1484 [.tmp 98, .tmp 102], some (96, false)⟩, ⟨some 104, .pick (.tmp 96) (.c (.one (.t (.bool true)))) (.tmp 103), none⟩]) (.cond (.tmp 104) (.region [⟨some 105, .fieldA 0 (.tmp 10), none⟩, ⟨some 106, .load false 1 (.tmp 105), none⟩, ⟨some 107, .mv (.tmp 14), none⟩, ⟨some 108, .mkrow 1539 3 1 1 [.t (.int .i64 0)] [(0, (1, .tmp 107))], none⟩, ⟨some 109, .append 1540 3 1 8 (.tmp 106) (.tmp 108), none⟩, ⟨some 110, .fieldA 0 (.tmp 10), none⟩, ⟨none, .store 1 (.tmp 110) (.tmp 109), none⟩]) .skip))) (.region [⟨some 89, .mv (.tmp 14), none⟩, ⟨some 90, .bin .add (.tmp 89) (.c (.one (.t (.int .i64 1)))), none⟩, ⟨some 14, .mv (.tmp 90), none⟩])))))) (.seq (.draw [[], [0], [], [2, 1], [], [4, 3], [], [5, 6, 5], [1, 3, 7], [], [9, 8, 7, 0, 1, 2, 3, 4, 5, 6, 7, 8, 9]] [⟨some 111, .load true 2 (.tmp 3), none⟩, ⟨some 112, .call (.c (.one (.fn 52 []))) 1601 [.tmp 111], none⟩, ⟨some 113, .load true 2 (.tmp 4), none⟩, ⟨some 114, .call (.c (.one (.fn 52 []))) 1603 [.tmp 113], none⟩, ⟨some 115, .load true 2 (.tmp 3), none⟩, ⟨some 116, .call (.c (.one (.fn 67 []))) 1605 [.tmp 115], none⟩, ⟨some 117, .load true 2 (.tmp 5), none⟩, ⟨some 118, .call (.c (.one (.fn 39 []))) 1607 [.tmp 116, .tmp 117], none⟩, ⟨some 119, .build [.nil, .nil, .nil, .nil, .nil, .nil, .nil, .nil, .nil, .nil, .nil, .nil, .nil, .nil, .nil, .nil] [(2, (2, .tmp 112)), (6, (2, .tmp 114)), (12, (2, .tmp 118))], none⟩, ⟨some 15, .alloc 1609 29 [.nil, .nil, .nil, .nil, .nil, .nil, .nil, .nil, .nil, .nil, .nil, .nil, .nil, .nil, .nil, .nil], none⟩, ⟨none, .store 16 (.tmp 15) (.tmp 119), none⟩]) (.seq (.region [⟨some 121, .load true 2 (.tmp 3), none⟩, ⟨some 122, .load true 2 (.tmp 12), none⟩, ⟨some 123, .call (.c (.one (.fn 68 []))) 1666 [.tmp 121, .tmp 122], none⟩, ⟨some 120, .mv (.tmp 123), none⟩, ⟨some 124, .extract (.tmp 120) 0, none⟩, ⟨some 125, .extract (.tmp 120) 1, none⟩, ⟨some 126, .extract (.tmp 120) 2, none⟩, ⟨some 127, .fieldA 0 (.tmp 15), none⟩, ⟨none, .store 2 (.tmp 127) (.tmp 124), none⟩, ⟨some 128, .fieldA 8 (.tmp 15), none⟩, ⟨none, .store 2 (.tmp 128) (.tmp 125), none⟩]) (.seq (.region [⟨some 130, .load true 2 (.tmp 4), none⟩, ⟨some 131, .load true 2 (.tmp 10), none⟩, ⟨some 132, .call (.c (.one (.fn 68 []))) 1730 [.tmp 130, .tmp 131], none⟩, ⟨some 129, .mv (.tmp 132), none⟩, ⟨some 133, .extract (.tmp 129) 0, none⟩, ⟨some 134, .extract (.tmp 129) 1, none⟩, ⟨some 135, .extract (.tmp 129) 2, none⟩, ⟨some 136, .fieldA 4 (.tmp 15), none⟩, ⟨none, .store 2 (.tmp 136) (.tmp 133), none⟩, ⟨some 137, .fieldA 14 (.tmp 15), none⟩, ⟨none, .store 2 (.tmp 137) (.tmp 134), none⟩]) (.seq (.seq (.region [⟨some 16, .mv (.c (.one (.t (.int .i64 0)))), none⟩]) (.block 6 (.loop (.seq (.seq (.region [⟨some 138, .mv (.tmp 16), none⟩, ⟨some 139, .fieldA 0 (.tmp 12), none⟩, ⟨some 140, .load false 1 (.tmp 139), none⟩, ⟨some 141, .len (.tmp 140), none⟩, ⟨some 142, .bin .lss (.tmp 138) (.tmp 141), none⟩]) (.cond (.tmp 142) .skip (.exit 6))) (.seq (.block 7 (.draw [[], [0], [1], [], [3], [], [5], [], [7], [], [8, 9], [10], [6, 11], [12], [4, 13], [14], [2, 15, 14], [0, 1, 2, 3, 4, 5, 6, 7, 8, 9, 10, 11, 12, 13, 14, 15, 16], [17, 0, 1, 2, 3, 4, 5, 6, 7, 8, 9, 10, 11, 12, 13, 14, 15, 16], [18, 16, 16, 0, 1, 2, 3, 4, 5, 6, 7, 8, 9, 10, 11, 12, 13, 14, 15, 16]] [⟨some 145, .fieldA 10 (.tmp 15), none⟩, ⟨some 146, .fieldA 0 (.tmp 145), none⟩, ⟨some 147, .load false 1 (.tmp 146), none⟩, ⟨some 148, .fieldA 0 (.tmp 10), none⟩, ⟨some 149, .load false 1 (.tmp 148), none⟩, ⟨some 150, .fieldA 0 (.tmp 5), none⟩, ⟨some 151, .load false 1 (.tmp 150), none⟩, ⟨some 152, .fieldA 0 (.tmp 12), none⟩, ⟨some 153, .load false 1 (.tmp 152), none⟩, ⟨some 154, .mv (.tmp 16), none⟩, ⟨some 155, .idxA 1 (.tmp 153) (.tmp 154), none⟩, ⟨some 156, .load false 1 (.tmp 155), none⟩, ⟨some 157, .idxA 1 (.tmp 151) (.tmp 156), none⟩, ⟨some 158, .load false 1 (.tmp 157), none⟩, ⟨some 159, .call (.c (.one (.fn 66 []))) 1998 [.tmp 149, .tmp 158], none⟩, ⟨some 160, .mkrow 1999 3 1 1 [.t (.int .i64 0)] [(0, (1, .tmp 159))], none⟩, ⟨some 161, .append 2000 3 1 8 (.tmp 147) (.tmp 160), none⟩, ⟨some 162, .fieldA 10 (.tmp 15), none⟩, ⟨some 163, .fieldA 0 (.tmp 162), none⟩, ⟨none, .store 1 (.tmp 163) (.tmp 161), none⟩])) (.region [⟨some 143, .mv (.tmp 16), none⟩, ⟨some 144, .bin .add (.tmp 143) (.c (.one (.t (.int .i64 1)))), none⟩, ⟨some 16, .mv (.tmp 144), none⟩])))))) (.seq (.region [⟨some 164, .load true 16 (.tmp 15), none⟩, ⟨none, .store 16 (.tmp 6) (.tmp 164), none⟩, ⟨some 7, .mv (.c (.one (.t (.int .i64 0)))), none⟩]) .ret)))))))))))))⟩
theorem k_rInit : cFn Tryz.prog Tryz.f26 = some c_rInit := by kernel_rfl
set_option maxHeartbeats 8000000 in
theorem rInit_ok (a b : Gr) (m : Pa) (ta : tinyG a) (tb : tinyG b) (tm : tinyP m) : CallOK Tryz.prog 26 [a.v, b.v, m.v] (sqT (inR a b m)) := by
  refine callOK_W (callS_W (by kernel_rfl) Tryz.func26 k_rInit (callable_of Tryz.func26 (by kernel_rfl)) (by simp [c_rInit]) ?_)
  simp [c_rInit]
  refine callS_tree (rvalid6_ok a b m ta tb tm) ?_ ?_ ?_
  · rfl
  · rfl
  by_cases h1 : morErr a b m = 0
  case neg =>
    have e : inR a b m = (noS, morErr a b m) := by simp [inR, inE, h1]
    simp [h1, sqT, e, noS, Sq.v, Sq.cs, edL]
  simp [h1]
  refine callS_tree (rinj_ok a b m ta tb tm) ?_ ?_ ?_
  · rfl
  · rfl
  cases h2 : injB a b m
  · have e : inR a b m = (noS, 15) := by simp [inR, inE, h1, h2]
    simp [sqT, e, noS, Sq.v, Sq.cs, edL]
  have e : inR a b m = (inS a b m, 0) := by simp [inR, inE, h1, h2]
  have mo := mor_ok h1
  have b1 := mo.ga.n
  have b2 := mo.ga.e
  have b3 := mo.gb.n
  have b4 := mo.gb.e
  have l1 := mo.ln
  have l2 := mo.le
  have hnd : m.nodes.Nodup := by simp [injB] at h2; exact h2.1.2
  simp
  refine loopW_count 11 b.edges.length (fun k S => rI a b m S ∧ S.cnt 896 = 0 ∧ S.cnt 1609 = 0 ∧ ∃ vE u9, S.ob (448, 0) = some (bx 63 [.nil, vE]) ∧ S.fr 9 = .one u9 ∧
    outR 772 3 1 (collect (cxF m) k).length ((collect (cxF m) k).map (.int .i64)) S.ob (.one vE) ∧ outR 846 3 1 (enL m b k).length ((enL m b k).map (.int .i64)) S.ob (.one u9)) (by omega) ?_ ?_ ?_
  · simp [rI, enL, gather_zero, collect_zero, outR_nil]
  · rintro k S hlt hw hc ⟨⟨f3, f4, f5, f6, f10, o0, o1, o2, o3⟩, n1, n2, vE, u9, o448, f9, hE, hU⟩
    have hlt3 : k * 3 < b.edges.length * 3 := by omega
    have el := enL_len (m := m) (b := b) (k := k)
    have q3 := collect_len (f := cxF m) (k := k)
    simp [f3, f4, f5, f6, f9, f10, o0, o1, o2, o3, n1, n2, o448, hc, hlt]
    refine callS_tree (has14_ok m.edges k tm.2.small) ?_ ?_ ?_
    · rfl
    · rfl
    by_cases hm : (k : Int) ∈ m.edges
    · have q1 : enL m b (k + 1) = enL m b k := by simp [enL, gather_succ, enF, hm]
      have q2 : collect (cxF m) (k + 1) = collect (cxF m) k := collect_none (by simp [cxF, hm])
      simp [rI, f3, f4, f5, f6, f9, f10, o0, o1, o2, o3, n1, n2, o448, hc, hm, hw, q1, q2]
      exact ⟨hE.keep fun g => by simp, hU.keep fun g => by simp⟩
    have q1 : enL m b (k + 1) = enL m b k ++ [(eth b.edges k).f, (eth b.edges k).g] := by simp [enL, gather_succ, enF, hm]
    have q2 : collect (cxF m) (k + 1) = collect (cxF m) k ++ [(k : Int)] := collect_some (by simp [cxF, hm])
    simp [f3, f4, f5, f6, f9, f10, o0, o1, o2, o3, n1, n2, o448, hc, hm]
    refine kApp_grow (ts := [.int .i64 k]) rfl (hE.keep fun g => by simp) (by omega) rfl (by omega) (by omega) fun E hE2 hob hcnt => ?_
    obtain ⟨w, hu⟩ := hE2.one
    rw [hu] at hE2
    have hU2 := hU.keep (ob' := E.ob) fun g => by rw [hob _ _ (by decide)]; simp
    have hU3 := hU2
    rcases hU3 with ⟨m1, m2, m3⟩ | ⟨m1, g1, m3, m4⟩
    all_goals
      cases m3
      simp [dw0, dw1, dw2, dw3, f3, f4, f5, f6, f9, f10, o0, o1, o2, o3, n1, n2, o448, hc, hm, hob, hcnt, hu, hlt, hlt3, drop_edL hlt]
      refine kApp_grow (ts := [.int .i64 (eth b.edges k).f, .int .i64 (eth b.edges k).g]) rfl (hU2.keep fun g => by simp) (by omega) rfl (by omega) (by omega) fun E3 hE3 hob3 hcnt3 => ?_
      obtain ⟨u, hu3⟩ := hE3.one
      rw [hu3] at hE3
      have hE4 := hE2.keep (ob' := E3.ob) fun g => by rw [hob3 _ _ (by decide)]; simp
      simp [dw0, dw1, dw2, dw3, f3, f4, f5, f6, f9, f10, o0, o1, o2, o3, n1, n2, o448, hc, hw, hob, hcnt, hob3, hcnt3, hu3, q1, q2]
      refine ⟨rfl, ?_⟩
      try simp [rI, f3, f4, f5, f6, f9, f10, o0, o1, o2, o3, n1, n2, o448, hc, hw, hob, hcnt, hob3, hcnt3, hu3, q1, q2]
      first
      | exact ⟨outR.keep (by simpa using hE4) fun g => by simp, outR.keep (by simpa using hE3) fun g => by simp⟩
      | trace_state
  · rintro S hc ⟨⟨f3, f4, f5, f6, f10, o0, o1, o2, o3⟩, n1, n2, vE, u9, o448, f9, hE, hU⟩
    have el := enL_len (m := m) (b := b) (k := b.edges.length)
    simp [f3, f4, f5, f6, f9, f10, o0, o1, o2, o3, n1, n2, o448, hc]
    refine loopW_count 13 a.nodes.length (fun k S => rI a b m S ∧ S.cnt 1609 = 0 ∧ S.fr 12 = .one (.ptr (896, 0) 0) ∧ S.ob (448, 0) = some (bx 63 [.nil, vE]) ∧ S.fr 9 = .one u9 ∧
      outR 772 3 1 (cxL m b).length ((cxL m b).map (.int .i64)) S.ob (.one vE) ∧ outR 846 3 1 (enL m b b.edges.length).length ((enL m b b.edges.length).map (.int .i64)) S.ob (.one u9) ∧
      ∃ vB, S.ob (896, 0) = some (bx 63 [vB, .nil]) ∧ outR 1220 3 1 (collect (bdF m b) k).length ((collect (bdF m b) k).map (.int .i64)) S.ob (.one vB)) (by omega) ?_ ?_ ?_
    · simp [rI, f3, f4, f5, f6, f9, f10, o0, o1, o2, o3, n1, n2, o448, hc, collect_zero, outR_nil]
      exact ⟨hE.keep fun g => by simp, hU.keep fun g => by simp⟩
    · rintro k S hlt hw hc ⟨⟨f3, f4, f5, f6, f10, o0, o1, o2, o3⟩, n2, f12, o448, f9, hE, hU, vB, o896, hB⟩
      have hk : k < m.nodes.length := by omega
      have q3 := collect_len (f := bdF m b) (k := k)
      simp [f3, f4, f5, f6, f9, f10, f12, o0, o1, o2, o3, n2, o448, o896, hc, hlt, hk, drop_nth hk]
      refine callS_tree (has14_ok (enL m b b.edges.length) (nth m.nodes k) (by show _ ≤ _; omega)) ?_ ?_ ?_
      · exact argTrees_row hU _ _
      · rfl
      by_cases hm : nth m.nodes k ∈ enL m b b.edges.length
      · have q1 : collect (bdF m b) (k + 1) = collect (bdF m b) k ++ [(k : Int)] := collect_some (by simp [bdF, hm])
        simp [f3, f4, f5, f6, f9, f10, f12, o0, o1, o2, o3, n2, o448, o896, hc, hm]
        refine kApp_grow (ts := [.int .i64 k]) rfl (hB.keep fun g => by simp) (by omega) rfl (by omega) (by omega) fun E3 hE3 hob3 hcnt3 => ?_
        obtain ⟨u, hu3⟩ := hE3.one
        rw [hu3] at hE3
        have hE4 := hE.keep (ob' := E3.ob) fun g => by rw [hob3 _ _ (by decide)]; simp
        have hU4 := hU.keep (ob' := E3.ob) fun g => by rw [hob3 _ _ (by decide)]; simp
        simp [rI, f3, f4, f5, f6, f9, f10, f12, o0, o1, o2, o3, n2, o448, o896, hc, hw, hob3, hcnt3, hu3, q1]
        exact ⟨outR.keep (by simpa using hE4) fun g => by simp, outR.keep (by simpa using hU4) fun g => by simp, outR.keep (by simpa using hE3) fun g => by simp⟩
      · have q1 : collect (bdF m b) (k + 1) = collect (bdF m b) k := collect_none (by simp [bdF, hm])
        simp [rI, f3, f4, f5, f6, f9, f10, f12, o0, o1, o2, o3, n2, o448, o896, hc, hw, hm, q1]
        exact ⟨by simpa using hE, by simpa using hU, by simpa using hB⟩
    · rintro S hc ⟨⟨f3, f4, f5, f6, f10, o0, o1, o2, o3⟩, n2, f12, o448, f9, hE, hU, vB, o896, hB⟩
      rw [bd_same mo hnd] at hB
      clear hU f9
      have bl : (bndL m b).length ≤ 40 := by rw [← bd_same mo hnd]; exact Nat.le_trans collect_len b1
      simp [f3, f4, f5, f6, f10, f12, o0, o1, o2, o3, n2, o448, o896, hc]
      refine loopW_count 14 b.nodes.length (fun k S => rI a b m S ∧ S.cnt 1609 = 0 ∧ S.fr 12 = .one (.ptr (896, 0) 0) ∧ S.ob (896, 0) = some (bx 63 [vB, .nil]) ∧
        outR 772 3 1 (cxL m b).length ((cxL m b).map (.int .i64)) S.ob (.one vE) ∧ outR 1220 3 1 (bndL m b).length ((bndL m b).map (.int .i64)) S.ob (.one vB) ∧
        ∃ vN, S.ob (448, 0) = some (bx 63 [vN, vE]) ∧ outR 1540 3 1 (collect (cnF m (bndL m b)) k).length ((collect (cnF m (bndL m b)) k).map (.int .i64)) S.ob (.one vN)) (by omega) ?_ ?_ ?_
      · simp [rI, f3, f4, f5, f6, f10, f12, o0, o1, o2, o3, n2, o448, o896, hc, collect_zero, outR_nil]
        exact ⟨by simpa using hE, by simpa using hB⟩
      · rintro k S hlt hw hc ⟨⟨f3, f4, f5, f6, f10, o0, o1, o2, o3⟩, n2, f12, o896, hE, hB, vN, o448, hN⟩
        have q3 := collect_len (f := cnF m (bndL m b)) (k := k)
        have hB0 := hB
        rcases hB0 with ⟨m1, m2, m3⟩ | ⟨m1, g1, m3, m4⟩
        all_goals
          cases m3
          simp [dw0, dw1, dw2, dw3, f3, f4, f5, f6, f10, f12, o0, o1, o2, o3, n2, o448, o896, hc, hlt]
          refine dCall_ok (has14_ok m.nodes k tm.1.small) ?_ ?_ ?_
          · rfl
          · rfl
          by_cases hx : (k : Int) ∈ m.nodes
          · have hx' : ¬ idx m.nodes k < 0 := fun h => idx_neg.1 h hx
            simp [dw0, dw1, dw2, dw3, f3, f4, f5, f6, f10, f12, o0, o1, o2, o3, n2, o448, o896, hc, hlt, hx]
            refine dCall_ok (at14_ok m.nodes k tm.1.small) ?_ ?_ ?_
            · rfl
            · rfl
            simp [dw0, dw1, dw2, dw3, f3, f4, f5, f6, f10, f12, o0, o1, o2, o3, n2, o448, o896, hc, hlt, hx]
            refine dCall_ok (has14_ok (bndL m b) (idx m.nodes k) (by show _ ≤ _; omega)) ?_ ?_ ?_
            · exact argTrees_row hB _ _
            · rfl
            by_cases hy : idx m.nodes k ∈ bndL m b
            · have q1 : collect (cnF m (bndL m b)) (k + 1) = collect (cnF m (bndL m b)) k ++ [(k : Int)] := collect_some (by simp [cnF, hy])
              simp [dw0, dw1, dw2, dw3, f3, f4, f5, f6, f10, f12, o0, o1, o2, o3, n2, o448, o896, hc, hlt, hx, hy]
              refine ⟨rfl, ?_⟩
              refine kApp_grow (ts := [.int .i64 k]) rfl (hN.keep fun g => by simp) (by omega) rfl (by omega) (by omega) fun E3 hE3 hob3 hcnt3 => ?_
              obtain ⟨u, hu3⟩ := hE3.one
              rw [hu3] at hE3
              have hE4 := hE.keep (ob' := E3.ob) fun g => by rw [hob3 _ _ (by decide)]; simp
              have hB4 := hB.keep (ob' := E3.ob) fun g => by rw [hob3 _ _ (by decide)]; simp
              simp [rI, f3, f4, f5, f6, f10, f12, o0, o1, o2, o3, n2, o448, o896, hc, hw, hob3, hcnt3, hu3, q1]
              exact ⟨outR.keep (by simpa using hE4) fun g => by simp, outR.keep (by simpa using hB4) fun g => by simp, outR.keep (by simpa using hE3) fun g => by simp⟩
            · have q1 : collect (cnF m (bndL m b)) (k + 1) = collect (cnF m (bndL m b)) k := collect_none (by simp [cnF, hy, hx'])
              simp [dw0, dw1, dw2, dw3, rI, f3, f4, f5, f6, f10, f12, o0, o1, o2, o3, n2, o448, o896, hc, hlt, hw, hx, hy, q1]
              first
              | exact ⟨rfl, by simpa using hE, by simpa using hB, by simpa using hN⟩
              | trace_state
          · have hx' : idx m.nodes k < 0 := idx_neg.2 hx
            have q1 : collect (cnF m (bndL m b)) (k + 1) = collect (cnF m (bndL m b)) k ++ [(k : Int)] := collect_some (by simp [cnF, hx'])
            simp [dw0, dw1, dw2, dw3, f3, f4, f5, f6, f10, f12, o0, o1, o2, o3, n2, o448, o896, hc, hlt, hx]
            refine ⟨rfl, ?_⟩
            refine kApp_grow (ts := [.int .i64 k]) rfl (hN.keep fun g => by simp) (by omega) rfl (by omega) (by omega) fun E3 hE3 hob3 hcnt3 => ?_
            obtain ⟨u, hu3⟩ := hE3.one
            rw [hu3] at hE3
            have hE4 := hE.keep (ob' := E3.ob) fun g => by rw [hob3 _ _ (by decide)]; simp
            have hB4 := hB.keep (ob' := E3.ob) fun g => by rw [hob3 _ _ (by decide)]; simp
            simp [rI, f3, f4, f5, f6, f10, f12, o0, o1, o2, o3, n2, o448, o896, hc, hw, hob3, hcnt3, hu3, q1]
            exact ⟨outR.keep (by simpa using hE4) fun g => by simp, outR.keep (by simpa using hB4) fun g => by simp, outR.keep (by simpa using hE3) fun g => by simp⟩
      · rintro S hc ⟨⟨f3, f4, f5, f6, f10, o0, o1, o2, o3⟩, n2, f12, o896, hE, hB, vN, o448, hN⟩
        have eX : collect (cnF m (bndL m b)) b.nodes.length = cnL m b := rfl
        rw [eX] at hN
        have cl : (cnL m b).length ≤ 40 := by have := collect_len (f := cnF m (bndL m b)) (k := b.nodes.length); rw [eX] at this; omega
        have cl2 : (cxL m b).length ≤ 80 := by have : (cxL m b).length ≤ b.edges.length := collect_len; omega
        have r1 := extract07_ok a (inB m b) ta ⟨by show _ ≤ _; simp only [inB]; omega, by show _ ≤ _; simp [inB]⟩
        have r2 := extract07_ok b (inC m b) tb ⟨by show _ ≤ _; simp only [inC]; omega, by show _ ≤ _; simp only [inC]; omega⟩
        have e1 : exR a (inB m b) = (exG a (inB m b), inB m b, 0) := by rw [exR, if_pos (inB_ok (mor_g h1).1 l1)]
        have e2 : exR b (inC m b) = (exG b (inC m b), inC m b, 0) := by rw [exR, if_pos (inC_ok (mor_g h1).2)]
        rw [e1] at r1
        rw [e2] at r2
        have it : thenP (idP a) m = m := id_then mo
        simp [dw0, dw1, dw2, dw3, f3, f4, f5, f6, f10, f12, o0, o1, o2, o3, n2, o448, o896, hc]
        refine dCall_ok (copied5_ok a ta) ?_ ?_ ?_
        · rfl
        · rfl
        simp [dw0, dw1, dw2, dw3, f3, f4, f5, f6, f10, f12, o0, o1, o2, o3, n2, o448, o896, hc]
        refine dCall_ok (copied5_ok b tb) ?_ ?_ ?_
        · rfl
        · rfl
        simp [dw0, dw1, dw2, dw3, f3, f4, f5, f6, f10, f12, o0, o1, o2, o3, n2, o448, o896, hc]
        refine dCall_ok (of06_ok a ta) ?_ ?_ ?_
        · rfl
        · rfl
        simp [dw0, dw1, dw2, dw3, f3, f4, f5, f6, f10, f12, o0, o1, o2, o3, n2, o448, o896, hc]
        refine dCall_ok (then6_ok (idP a) m ⟨by show _ ≤ _; simp only [idP, idL_len]; omega, by show _ ≤ _; simp only [idP, idL_len]; omega⟩ ⟨?_, ?_⟩) ?_ ?_ ?_
        · intro x hx
          obtain ⟨j, hj, rfl⟩ := mem_nth hx
          simp only [idP, idL_len] at hj
          rw [idP, idL_nth hj]
          omega
        · intro x hx
          obtain ⟨j, hj, rfl⟩ := mem_nth hx
          simp only [idP, idL_len] at hj
          rw [idP, idL_nth hj]
          omega
        · rfl
        · rfl
        rw [it]
        simp [dw0, dw1, dw2, dw3, f3, f4, f5, f6, f10, f12, o0, o1, o2, o3, n2, o448, o896, hc]
        refine ⟨rfl, ?_⟩
        refine callS_part r1 (fun ob cnt => ⟨rfl, rfl⟩) (hB.keep fun g => by simp) (outR_nil (nm := 9999) (typ := 0) (esz := 1)) (by decide) fun ob1 hB1 _ hob1 => ?_
        have p0 := hob1 0 0 (by decide) (by decide)
        have p1 := hob1 1 0 (by decide) (by decide)
        have p2 := hob1 2 0 (by decide) (by decide)
        have p3 := hob1 3 0 (by decide) (by decide)
        have p4 := hob1 448 0 (by decide) (by decide)
        have p5 := hob1 896 0 (by decide) (by decide)
        have p6 := hob1 1609 0 (by decide) (by decide)
        simp [o0] at p0
        simp [o1] at p1
        simp [o2] at p2
        simp [o3] at p3
        simp [o448] at p4
        simp [o896] at p5
        simp at p6
        have hE1 := hE.keep (ob' := ob1) fun g => by rw [hob1 _ _ (by decide) (by decide)]; simp
        have hN1 := hN.keep (ob' := ob1) fun g => by rw [hob1 _ _ (by decide) (by decide)]; simp
        clear hob1 hB hE hN
        simp [f3, f4, f5, f6, f10, f12, p0, p1, p2, p3, p4, p5, p6, exT]
        refine callS_part r2 (fun ob cnt => ⟨rfl, rfl⟩) (hN1.keep fun g => by simp) (hE1.keep fun g => by simp) (by decide) fun ob2 hN2 hE2 hob2 => ?_
        have z0 := hob2 0 0 (by decide) (by decide)
        have z1 := hob2 1 0 (by decide) (by decide)
        have z2 := hob2 2 0 (by decide) (by decide)
        have z3 := hob2 3 0 (by decide) (by decide)
        have z4 := hob2 448 0 (by decide) (by decide)
        have z5 := hob2 896 0 (by decide) (by decide)
        have z6 := hob2 1609 0 (by decide) (by decide)
        simp [p0] at z0
        simp [p1] at z1
        simp [p2] at z2
        simp [p3] at z3
        simp [p4] at z4
        simp [p5] at z5
        simp [p6] at z6
        have hB2 := hB1.keep (ob' := ob2) fun g => by rw [hob2 _ _ (by decide) (by decide)]; simp
        clear hob2 hB1 hE1 hN1 p0 p1 p2 p3 p4 p5 p6
        have lC : (cnL m b).length ≤ 9000000000000000000 := by omega
        have hr : (sqT (inR a b m)) = .tup [(true, [ints (exG a (inB m b)).nodes, edgs (exG a (inB m b)).edges, ints a.nodes, edgs a.edges, ints (exG b (inC m b)).nodes, edgs (exG b (inC m b)).edges, ints b.nodes, edgs b.edges, ints (inB m b).nodes, ints (inB m b).edges, ints (inG m b), ints [], ints m.nodes, ints m.edges, ints (inC m b).nodes, ints (inC m b).edges]), (false, [.int .i64 0])] := by rw [e]; rfl
        have q1 : (inC m b).nodes = cnL m b := rfl
        have q2 : (inB m b).nodes = bndL m b := rfl
        have q3 : (inC m b).edges = cxL m b := rfl
        have q4 : (inB m b).edges = [] := rfl
        rw [q1, q2, q3, q4] at hr
        rw [q1] at hN2
        rw [q2] at hB2
        simp only [q1, q2, q3, q4] at z6
        generalize exG a (inB m b) = X at z6 hr ⊢
        generalize exG b (inC m b) = Y at hr ⊢
        have hB6 := hB2
        rcases hB2 with ⟨v1, v2, v3⟩ | ⟨v1, gB, v3, v4⟩
        · cases v3
          simp [f3, f4, f5, f6, f10, f12, z0, z1, z2, z3, z4, z5, z6, exT]
          refine loopW_count 16 (bndL m b).length (fun k S => S.fr 3 = .one (.ptr (0, 0) 0) ∧ S.fr 4 = .one (.ptr (1, 0) 0) ∧ S.fr 5 = .one (.ptr (2, 0) 0) ∧ S.fr 6 = .one (.ptr (3, 0) 0) ∧ S.fr 10 = .one (.ptr (448, 0) 0) ∧ S.fr 12 = .one (.ptr (896, 0) 0) ∧ S.fr 15 = .one (.ptr (1609, 0) 0) ∧
          S.ob (2, 0) = some (bx 27 (m.v.2.map .t)) ∧ S.ob (3, 0) = some (bx 29 [.nil, .nil, .nil, .nil, .nil, .nil, .nil, .nil, .nil, .nil, .nil, .nil, .nil, .nil, .nil, .nil]) ∧
          S.ob (448, 0) = some (bx 63 [vN, vE]) ∧ S.ob (896, 0) = some (bx 63 [.nil, .nil]) ∧ outF 1540 3 1 (cnL m b).length ((cnL m b).map (.int .i64)) S.ob (.one vN) ∧ outF 1220 3 1 (bndL m b).length ((bndL m b).map (.int .i64)) S.ob (.one .nil) ∧
          ∃ vG, S.ob (1609, 0) = some (bx 29 [.t (ints X.nodes), .t (edgs X.edges), .t (ints a.nodes), .t (edgs a.edges), .t (ints Y.nodes), .t (edgs Y.edges), .t (ints b.nodes), .t (edgs b.edges), .t (ints (bndL m b)), .t (ints []), vG, .nil, .t (ints m.nodes), .t (ints m.edges), .t (ints (cnL m b)), .t (ints (cxL m b))]) ∧
            outR 2000 3 1 (inK m b k).length ((inK m b k).map (.int .i64)) S.ob (.one vG)) (by omega) ?_ ?_ ?_
          · simp [f3, f4, f5, f6, f10, f12, z0, z1, z2, z3, z4, z5, z6, q1, q2, q3, q4]
            refine ⟨hN2.keep fun g => by simp, hB6.keep fun g => by simp, outR_inK⟩
          · rintro k S hlt hw hc _
            omega
          · rintro S hc ⟨f3, f4, f5, f6, f10, f12, f15, o2, o3, o448, o896, hN3, hB3, vG, o1609, hG⟩
            have vz : (bndL m b).length = 0 := v1
            rw [vz] at hc
            rw [inK_all] at hG
            rw [hr]
            rcases hG with ⟨m1, m2, m3⟩ | ⟨m1, g1, m3, m4⟩
            · cases m3
              have gg : inG m b = [] := List.eq_nil_of_length_eq_zero m1
              simp [f3, f4, f5, f6, f10, f12, f15, o2, o3, o448, o896, o1609, hc, gg, inB, inC, untreeT, untreeI]
            · cases m3
              simp [f3, f4, f5, f6, f10, f12, f15, o2, o3, o448, o896, o1609, hc, m4, inB, inC, untreeT, untreeI]
        · cases v3
          simp [f3, f4, f5, f6, f10, f12, z0, z1, z2, z3, z4, z5, z6, v4, exT]
          refine loopW_count 16 (bndL m b).length (fun k S => S.fr 3 = .one (.ptr (0, 0) 0) ∧ S.fr 4 = .one (.ptr (1, 0) 0) ∧ S.fr 5 = .one (.ptr (2, 0) 0) ∧ S.fr 6 = .one (.ptr (3, 0) 0) ∧ S.fr 10 = .one (.ptr (448, 0) 0) ∧ S.fr 12 = .one (.ptr (896, 0) 0) ∧ S.fr 15 = .one (.ptr (1609, 0) 0) ∧
          S.ob (2, 0) = some (bx 27 (m.v.2.map .t)) ∧ S.ob (3, 0) = some (bx 29 [.nil, .nil, .nil, .nil, .nil, .nil, .nil, .nil, .nil, .nil, .nil, .nil, .nil, .nil, .nil, .nil]) ∧
          S.ob (448, 0) = some (bx 63 [vN, vE]) ∧ S.ob (896, 0) = some (bx 63 [.row (1220, gB), .nil]) ∧ outF 1540 3 1 (cnL m b).length ((cnL m b).map (.int .i64)) S.ob (.one vN) ∧ outF 1220 3 1 (bndL m b).length ((bndL m b).map (.int .i64)) S.ob (.one (.row (1220, gB))) ∧
          ∃ vG, S.ob (1609, 0) = some (bx 29 [.t (ints X.nodes), .t (edgs X.edges), .t (ints a.nodes), .t (edgs a.edges), .t (ints Y.nodes), .t (edgs Y.edges), .t (ints b.nodes), .t (edgs b.edges), .t (ints (bndL m b)), .t (ints []), vG, .nil, .t (ints m.nodes), .t (ints m.edges), .t (ints (cnL m b)), .t (ints (cxL m b))]) ∧
            outR 2000 3 1 (inK m b k).length ((inK m b k).map (.int .i64)) S.ob (.one vG)) (by omega) ?_ ?_ ?_
          · simp [f3, f4, f5, f6, f10, f12, z0, z1, z2, z3, z4, z5, z6, v4, q1, q2, q3, q4]
            refine ⟨hN2.keep fun g => by simp, hB6.keep fun g => by simp, outR_inK⟩
          · rintro k S hlt hw hc ⟨f3, f4, f5, f6, f10, f12, f15, o2, o3, o448, o896, hN3, hB3, vG, o1609, hG⟩
            obtain ⟨x1, x2⟩ := bndL_in (nth_mem hlt)
            obtain ⟨x, hx⟩ := Int.eq_ofNat_of_zero_le x1
            have hx2 : x < m.nodes.length := by omega
            have zk := inK_len (m := m) (b := b) (k := k) (by omega)
            have zs := inK_succ hlt
            rw [hx, Int.toNat_natCast] at zs
            have hB4 := hB3
            rcases hB4 with ⟨w1, _, _⟩ | ⟨w1, gB', w3, w4⟩
            · omega
            cases w3
            have hG0 := hG
            have hN0 := hN3
            rcases hG with ⟨m1, m2, m3⟩ | ⟨m1, g1, m3, m4⟩ <;> rcases hN0 with ⟨t1, t2, t3⟩ | ⟨t1, g2, t3, t4⟩
            all_goals
              cases m3
              cases t3
              simp [dw0, dw1, dw2, dw3, f3, f4, f5, f6, f10, f12, f15, o2, o3, o448, o896, o1609, hc, hlt, (show k + 1 ≤ (bndL m b).length from hlt), w4, drop_nthR hlt, hx, hx2, drop_nth hx2]
              refine dCall_ok (at14_ok (cnL m b) (nth m.nodes x) (by show _ ≤ _; omega)) ?_ ?_ ?_
              · exact argTrees_rowF hN3 _ _
              · rfl
              simp [dw0, dw1, dw2, dw3, f3, f4, f5, f6, f10, f12, f15, o2, o3, o448, o896, o1609, hc]
              refine kApp_grow (ts := [.int .i64 (idx (cnL m b) (nth m.nodes x))]) rfl (hG0.keep fun g => by simp) (by omega) rfl (by omega) (by omega) fun E3 hE3 hob3 hcnt3 => ?_
              obtain ⟨u, hu3⟩ := hE3.one
              rw [hu3] at hE3
              have hN4 := hN3.keep (ob' := E3.ob) fun g => by rw [hob3 _ _ (by decide)]; simp
              have hB5 := hB3.keep (ob' := E3.ob) fun g => by rw [hob3 _ _ (by decide)]; simp
              simp [dw0, dw1, dw2, dw3, f3, f4, f5, f6, f10, f12, f15, o2, o3, o448, o896, o1609, hc, hw, hob3, hcnt3, hu3, zs]
              refine ⟨rfl, ?_⟩
              try simp [f3, f4, f5, f6, f10, f12, f15, o2, o3, o448, o896, o1609, hc, hw, hob3, hcnt3, hu3, zs]
              exact ⟨hN4.keep fun g => by simp, hB5.keep fun g => by simp, outR.keep (by simpa using hE3) fun g => by simp⟩
          · rintro S hc ⟨f3, f4, f5, f6, f10, f12, f15, o2, o3, o448, o896, hN3, hB3, vG, o1609, hG⟩
            have hB4 := hB3
            rcases hB4 with ⟨w1, _, _⟩ | ⟨w1, gB', w3, w4⟩
            · omega
            cases w3
            rw [inK_all] at hG
            rw [hr]
            rcases hG with ⟨m1, m2, m3⟩ | ⟨m1, g1, m3, m4⟩
            · cases m3
              have gg : inG m b = [] := List.eq_nil_of_length_eq_zero m1
              simp [f3, f4, f5, f6, f10, f12, f15, o2, o3, o448, o896, o1609, hc, w4, gg, inB, inC, untreeT, untreeI]
            · cases m3
              simp [f3, f4, f5, f6, f10, f12, f15, o2, o3, o448, o896, o1609, hc, w4, m4, inB, inC, untreeT, untreeI]
end Go.Proofs.YthcnpnogfblkcaaGreat

/- The example of the chapter holds; squares that are small; the law of kinds. -/
namespace Go.Proofs.YthcnpnogfblkcaaGreat
open Abs
set_option linter.unusedSimpArgs false
set_option linter.unusedVariables false
attribute [local simp] rn0 rn1 rn2 rn3 rn4 rn5 rn6 rn7 evOp nests Arg.ev St.val St.set St.new sliceOf binInt2 binInt AV.cells rdAt St.live retOf resOf resAll treeOf treeCell treeCells treeTups untree frameOf TV.av TR.av ints edgs prs fillV splice intsOf trees V1.tree bx Gr.v Pa.v

def exOne : Gr := ⟨[0], []⟩
def exPath : Gr := ⟨[0, 0], [⟨0, 0, 1⟩]⟩
def exInto : Pa := ⟨[0], []⟩
def exSq : Sq := ⟨exOne, exOne, exPath, exPath, exInto, exInto, exInto, ⟨[0, 1], [0]⟩⟩
theorem exBnU : bnU exInto exPath exPath.edges.length = [0] := by kernel_rfl
theorem exBnd : bndL exInto exPath = [0] := by rw [bndL, exBnU]; simp
theorem exCn : cnL exInto exPath = [0, 1] := by rw [cnL, exBnd]; kernel_rfl
theorem exIn : inR exOne exPath exInto = (exSq, 0) := by
  have h : inE exOne exPath exInto = 0 := by kernel_rfl
  have h2 : inS exOne exPath exInto = exSq := by
    rw [inS, inB, inC, inG, exBnd, exCn]
    kernel_rfl
  rw [inR, if_pos h, h2]
theorem exKind : kindR exSq = (3, 0) := by kernel_rfl

/-- The example of the chapter holds. -/
def Awake14 : Prop := CallOK Tryz.prog 11 [] (.sv (false, [.bool true]))

def c_awake14 : MFunc := ⟨48, [.tmp 0], .seq (.region [⟨some 0, .mv (.c (.one (.t (.bool false)))), none⟩]) (.seq (.region [⟨some 7, .mkrow 64 3 1 2 [.t (.int .i64 0), .t (.int .i64 0)] [(0, (1, .c (.one (.t (.int .i64 0))))), (1, (1, .c (.one (.t (.int .i64 0)))))], none⟩, ⟨some 8, .build [.t (.int .i64 0), .t (.int .i64 0), .t (.int .i64 0)] [(1, (1, .c (.one (.t (.int .i64 0))))), (2, (1, .c (.one (.t (.int .i64 1)))))], none⟩, ⟨some 9, .mkrow 66 76 3 1 [.t (.int .i64 0), .t (.int .i64 0), .t (.int .i64 0)] [(0, (3, .tmp 8))], none⟩, ⟨some 10, .build [.nil, .nil] [(0, (1, .tmp 7)), (1, (1, .tmp 9))], none⟩, ⟨some 1, .alloc 68 25 [.nil, .nil], none⟩, ⟨none, .store 2 (.tmp 1) (.tmp 10), none⟩]) (.seq (.region [⟨some 11, .mkrow 128 3 1 1 [.t (.int .i64 0)] [(0, (1, .c (.one (.t (.int .i64 0)))))], none⟩, ⟨some 12, .build [.nil, .nil] [(0, (1, .tmp 11))], none⟩, ⟨some 2, .alloc 130 25 [.nil, .nil], none⟩, ⟨none, .store 2 (.tmp 2) (.tmp 12), none⟩]) (.seq (.region [⟨some 14, .load true 2 (.tmp 2), none⟩, ⟨some 15, .load true 2 (.tmp 1), none⟩, ⟨some 16, .mkrow 194 3 1 1 [.t (.int .i64 0)] [(0, (1, .c (.one (.t (.int .i64 0)))))], none⟩, ⟨some 17, .build [.nil, .nil] [(0, (1, .tmp 16))], none⟩, ⟨some 18, .call (.c (.one (.fn 24 []))) 196 [.tmp 14, .tmp 15, .tmp 17], none⟩, ⟨some 13, .mv (.tmp 18), none⟩, ⟨some 19, .extract (.tmp 13) 0, none⟩, ⟨some 20, .extract (.tmp 13) 1, none⟩, ⟨some 3, .alloc 200 29 [.nil, .nil, .nil, .nil, .nil, .nil, .nil, .nil, .nil, .nil, .nil, .nil, .nil, .nil, .nil, .nil], none⟩, ⟨none, .store 16 (.tmp 3) (.tmp 19), none⟩, ⟨some 4, .mv (.tmp 20), none⟩]) (.seq (.region [⟨some 22, .load true 16 (.tmp 3), none⟩, ⟨some 23, .call (.c (.one (.fn 21 []))) 257 [.tmp 22], none⟩, ⟨some 21, .mv (.tmp 23), none⟩, ⟨some 24, .extract (.tmp 21) 0, none⟩, ⟨some 25, .extract (.tmp 21) 1, none⟩, ⟨some 5, .mv (.tmp 24), none⟩, ⟨some 6, .mv (.tmp 25), none⟩]) (.seq (.region [⟨some 26, .mv (.tmp 4), none⟩, ⟨some 27, .bin .eql (.tmp 26) (.c (.one (.t (.int .i64 0)))), none⟩, ⟨some 28, .mv (.tmp 27), none⟩, ⟨some 29, .mv (.tmp 6), some (28, true)⟩, ⟨some 30, .bin .eql (.tmp 29) (.c (.one (.t (.int .i64 0)))), some (28, true)⟩, ⟨some 31, .pick (.tmp 28) (.tmp 30) (.c (.one (.t (.bool false)))), none⟩, ⟨some 32, .mv (.tmp 31), none⟩, ⟨some 33, .mv (.tmp 5), some (32, true)⟩, ⟨some 34, .bin .eql (.tmp 33) (.c (.one (.t (.int .i64 3)))), some (32, true)⟩, ⟨some 35, .pick (.tmp 32) (.tmp 34) (.c (.one (.t (.bool false)))), none⟩, ⟨some 36, .mv (.tmp 35), none⟩, ⟨some 37, .fieldA 0 (.tmp 3), some (36, true)⟩, ⟨some 38, .load true 2 (.tmp 37), some (36, true)⟩, ⟨some 39, .load true 2 (.tmp 2), some (36, true)⟩, ⟨some 40, .call (.c (.one (.fn 22 []))) 334 [.tmp 38, .tmp 39], some (36, true)⟩, ⟨some 41, .pick (.tmp 36) (.tmp 40) (.c (.one (.t (.bool false)))), none⟩, ⟨some 42, .mv (.tmp 41), none⟩, ⟨some 43, .fieldA 4 (.tmp 3), some (42, true)⟩, ⟨some 44, .load true 2 (.tmp 43), some (42, true)⟩, ⟨some 45, .load true 2 (.tmp 1), some (42, true)⟩, ⟨some 46, .call (.c (.one (.fn 22 []))) 340 [.tmp 44, .tmp 45], some (42, true)⟩, ⟨some 47, .pick (.tmp 42) (.tmp 46) (.c (.one (.t (.bool false)))), none⟩, ⟨some 0, .mv (.tmp 47), none⟩]) .ret)))))⟩
theorem k_awake14 : cFn Tryz.prog Tryz.f11 = some c_awake14 := by kernel_rfl
theorem awake14_ok : Awake14 := by
  refine callOK_W (callS_W (by kernel_rfl) Tryz.func11 k_awake14 (callable_of Tryz.func11 (by kernel_rfl)) (by simp [c_awake14]) ?_)
  simp [c_awake14]
  refine callS_freeze [(64, 0), (66, 0), (128, 0), (194, 0)] (callS_tree (sInit_ok exOne exPath exInto ⟨by decide, by decide⟩ ⟨by decide, by decide⟩ ⟨by decide, by decide⟩) ?_ ?_ ?_)
  · rfl
  · rfl
  rw [exIn]
  simp [frzAll, frzOne, sqT, exSq, Sq.v, Sq.cs]
  refine callS_tree (sKind_ok exSq ⟨⟨by decide, by decide⟩, ⟨by decide, by decide⟩, ⟨by decide, by decide⟩, ⟨by decide, by decide⟩, ⟨by decide, by decide⟩, ⟨by decide, by decide⟩, ⟨by decide, by decide⟩, ⟨by decide, by decide⟩⟩) ?_ ?_ ?_
  · rfl
  · rfl
  rw [exKind]
  simp [kindT]
  refine callS_tree (ref5Same_ok exOne exOne ⟨by decide, by decide⟩ ⟨by decide, by decide⟩) ?_ ?_ ?_
  · rfl
  · rfl
  simp
  refine callS_tree (ref5Same_ok exPath exPath ⟨by decide, by decide⟩ ⟨by decide, by decide⟩) ?_ ?_ ?_
  · rfl
  · rfl
  simp

/-! ### Small squares -/
def fewQ (s : Sq) : Bool := fewG s.A && fewG s.B && fewG s.C && fewG s.D && fewP s.F 140 && fewP s.G 140 && fewP s.H 140 && fewP s.K 140
structure HugeQ (s : Sq) : Prop where
  F : huge s.F.nodes.length ∧ huge s.F.edges.length
  G : huge s.G.nodes.length ∧ huge s.G.edges.length
  H : huge s.H.nodes.length ∧ huge s.H.edges.length
  K : huge s.K.nodes.length ∧ huge s.K.edges.length
def c_few14 : MFunc := ⟨43, [.tmp 2], .seq (.region [⟨some 1, .box 0 29 (.tmp 0), none⟩, ⟨some 2, .mv (.c (.one (.t (.bool false)))), none⟩]) (.seq (.region [⟨some 4, .fieldA 0 (.tmp 1), none⟩, ⟨some 5, .load true 2 (.tmp 4), none⟩, ⟨some 6, .call (.c (.one (.fn 13 []))) 66 [.tmp 5], none⟩, ⟨some 7, .mv (.tmp 6), none⟩, ⟨some 8, .fieldA 2 (.tmp 1), some (7, true)⟩, ⟨some 9, .load true 2 (.tmp 8), some (7, true)⟩, ⟨some 10, .call (.c (.one (.fn 13 []))) 70 [.tmp 9], some (7, true)⟩, ⟨some 11, .pick (.tmp 7) (.tmp 10) (.c (.one (.t (.bool false)))), none⟩, ⟨some 12, .mv (.tmp 11), none⟩, ⟨some 13, .fieldA 4 (.tmp 1), some (12, true)⟩, ⟨some 14, .load true 2 (.tmp 13), some (12, true)⟩, ⟨some 15, .call (.c (.one (.fn 13 []))) 75 [.tmp 14], some (12, true)⟩, ⟨some 16, .pick (.tmp 12) (.tmp 15) (.c (.one (.t (.bool false)))), none⟩, ⟨some 17, .mv (.tmp 16), none⟩, ⟨some 18, .fieldA 6 (.tmp 1), some (17, true)⟩, ⟨some 19, .load true 2 (.tmp 18), some (17, true)⟩, ⟨some 20, .call (.c (.one (.fn 13 []))) 80 [.tmp 19], some (17, true)⟩, ⟨some 21, .pick (.tmp 17) (.tmp 20) (.c (.one (.t (.bool false)))), none⟩, ⟨some 3, .mv (.tmp 21), none⟩]) (.seq (.region [⟨some 22, .mv (.tmp 3), none⟩, ⟨some 23, .mv (.tmp 22), none⟩, ⟨some 24, .fieldA 8 (.tmp 1), some (23, true)⟩, ⟨some 25, .load true 2 (.tmp 24), some (23, true)⟩, ⟨some 26, .call (.c (.one (.fn 14 []))) 132 [.tmp 25, .c (.one (.t (.int .i64 140)))], some (23, true)⟩, ⟨some 27, .pick (.tmp 23) (.tmp 26) (.c (.one (.t (.bool false)))), none⟩, ⟨some 28, .mv (.tmp 27), none⟩, ⟨some 29, .fieldA 10 (.tmp 1), some (28, true)⟩, ⟨some 30, .load true 2 (.tmp 29), some (28, true)⟩, ⟨some 31, .call (.c (.one (.fn 14 []))) 137 [.tmp 30, .c (.one (.t (.int .i64 140)))], some (28, true)⟩, ⟨some 32, .pick (.tmp 28) (.tmp 31) (.c (.one (.t (.bool false)))), none⟩, ⟨some 33, .mv (.tmp 32), none⟩, ⟨some 34, .fieldA 12 (.tmp 1), some (33, true)⟩, ⟨some 35, .load true 2 (.tmp 34), some (33, true)⟩, ⟨some 36, .call (.c (.one (.fn 14 []))) 142 [.tmp 35, .c (.one (.t (.int .i64 140)))], some (33, true)⟩, ⟨some 37, .pick (.tmp 33) (.tmp 36) (.c (.one (.t (.bool false)))), none⟩, ⟨some 38, .mv (.tmp 37), none⟩, ⟨some 39, .fieldA 14 (.tmp 1), some (38, true)⟩, ⟨some 40, .load true 2 (.tmp 39), some (38, true)⟩, ⟨some 41, .call (.c (.one (.fn 14 []))) 147 [.tmp 40, .c (.one (.t (.int .i64 140)))], some (38, true)⟩, ⟨some 42, .pick (.tmp 38) (.tmp 41) (.c (.one (.t (.bool false)))), none⟩, ⟨some 2, .mv (.tmp 42), none⟩]) .ret))⟩
theorem k_few14 : cFn Tryz.prog Tryz.f12 = some c_few14 := by kernel_rfl
set_option maxHeartbeats 1000000 in
theorem few14_ok (s : Sq) (h : HugeQ s) : CallOK Tryz.prog 12 [s.v] (.sv (false, [.bool (fewQ s)])) := by
  refine callOK_W (callS_W (by kernel_rfl) Tryz.func12 k_few14 (callable_of Tryz.func12 (by kernel_rfl)) (by simp [c_few14]) ?_)
  simp [c_few14, Sq.v, Sq.cs]
  refine callS_tree (few5_ok s.A) ?_ ?_ ?_
  · rfl
  · rfl
  cases e1 : fewG s.A
  · simp [fewQ, e1]
  simp [e1]
  refine callS_tree (few5_ok s.B) ?_ ?_ ?_
  · rfl
  · rfl
  cases e2 : fewG s.B
  · simp [fewQ, e1, e2]
  simp [e1]
  refine callS_tree (few5_ok s.C) ?_ ?_ ?_
  · rfl
  · rfl
  cases e3 : fewG s.C
  · simp [fewQ, e1, e2, e3]
  simp [e1]
  refine callS_tree (few5_ok s.D) ?_ ?_ ?_
  · rfl
  · rfl
  cases e4 : fewG s.D
  · simp [fewQ, e1, e2, e3, e4]
  simp [e1]
  refine callS_tree (few6_ok s.F 140 h.F.1 h.F.2) ?_ ?_ ?_
  · rfl
  · rfl
  cases e5 : fewP s.F 140
  · simp [fewQ, e1, e2, e3, e4, e5]
  simp [e1]
  refine callS_tree (few6_ok s.G 140 h.G.1 h.G.2) ?_ ?_ ?_
  · rfl
  · rfl
  cases e6 : fewP s.G 140
  · simp [fewQ, e1, e2, e3, e4, e5, e6]
  simp [e1]
  refine callS_tree (few6_ok s.H 140 h.H.1 h.H.2) ?_ ?_ ?_
  · rfl
  · rfl
  cases e7 : fewP s.H 140
  · simp [fewQ, e1, e2, e3, e4, e5, e6, e7]
  simp [e1]
  refine callS_tree (few6_ok s.K 140 h.K.1 h.K.2) ?_ ?_ ?_
  · rfl
  · rfl
  simp [fewQ, e1, e2, e3, e4, e5, e6, e7]

theorem tiny_fewG {g : Gr} (h : fewG g = true) : tinyG g := by
  simp [fewG] at h
  exact ⟨by simp only [tiny]; omega, by simp only [tiny]; omega⟩
theorem tiny_fewP {p : Pa} (h : fewP p 140 = true) : tinyP p := by
  simp [fewP] at h
  exact ⟨by simp only [tiny]; omega, by simp only [tiny]; omega⟩
theorem tiny_fewQ {s : Sq} (h : fewQ s = true) : TinySq s := by
  simp only [fewQ, Bool.and_eq_true] at h
  obtain ⟨⟨⟨⟨⟨⟨⟨h1, h2⟩, h3⟩, h4⟩, h5⟩, h6⟩, h7⟩, h8⟩ := h
  exact ⟨tiny_fewG h1, tiny_fewG h2, tiny_fewG h3, tiny_fewG h4, tiny_fewP h5, tiny_fewP h6, tiny_fewP h7, tiny_fewP h8⟩

def c_lawKind : MFunc := ⟨57, [.tmp 2], .seq (.region [⟨some 1, .box 0 29 (.tmp 0), none⟩, ⟨some 2, .mv (.c (.one (.t (.bool false)))), none⟩]) (.seq (.seq (.region [⟨some 11, .call (.c (.one (.fn 11 []))) 64 [], none⟩, ⟨some 12, .not (.tmp 11), none⟩, ⟨some 13, .mv (.tmp 12), none⟩, ⟨some 14, .load true 16 (.tmp 1), some (13, false)⟩, ⟨some 15, .call (.c (.one (.fn 12 []))) 68 [.tmp 14], some (13, false)⟩, ⟨some 16, .not (.tmp 15), some (13, false)⟩, ⟨some 17, .pick (.tmp 13) (.c (.one (.t (.bool true)))) (.tmp 16), none⟩]) (.cond (.tmp 17) (.seq (.region [⟨some 18, .call (.c (.one (.fn 11 []))) 128 [], none⟩, ⟨some 2, .mv (.tmp 18), none⟩]) .ret) .skip)) (.seq (.region [⟨some 20, .load true 16 (.tmp 1), none⟩, ⟨some 21, .call (.c (.one (.fn 34 []))) 193 [.tmp 20], none⟩, ⟨some 19, .mv (.tmp 21), none⟩, ⟨some 22, .extract (.tmp 19) 0, none⟩, ⟨some 23, .extract (.tmp 19) 1, none⟩, ⟨some 3, .mv (.tmp 22), none⟩, ⟨some 4, .mv (.tmp 23), none⟩]) (.seq (.region [⟨some 25, .load true 16 (.tmp 1), none⟩, ⟨some 26, .call (.c (.one (.fn 35 []))) 257 [.tmp 25], none⟩, ⟨some 24, .mv (.tmp 26), none⟩, ⟨some 27, .extract (.tmp 24) 0, none⟩, ⟨some 28, .extract (.tmp 24) 1, none⟩, ⟨some 5, .mv (.tmp 27), none⟩, ⟨some 6, .mv (.tmp 28), none⟩]) (.seq (.region [⟨some 30, .load true 16 (.tmp 1), none⟩, ⟨some 31, .call (.c (.one (.fn 21 []))) 321 [.tmp 30], none⟩, ⟨some 29, .mv (.tmp 31), none⟩, ⟨some 32, .extract (.tmp 29) 0, none⟩, ⟨some 33, .extract (.tmp 29) 1, none⟩, ⟨some 7, .mv (.tmp 32), none⟩, ⟨some 8, .mv (.tmp 33), none⟩]) (.seq (.region [⟨some 35, .load true 16 (.tmp 1), none⟩, ⟨some 36, .call (.c (.one (.fn 36 []))) 385 [.tmp 35], none⟩, ⟨some 34, .mv (.tmp 36), none⟩, ⟨some 37, .extract (.tmp 34) 0, none⟩, ⟨some 38, .extract (.tmp 34) 1, none⟩, ⟨some 9, .mv (.tmp 37), none⟩, ⟨some 10, .mv (.tmp 38), none⟩]) (.seq (.region [⟨some 39, .mv (.tmp 3), none⟩, ⟨some 40, .mv (.tmp 5), none⟩, ⟨some 41, .eqS false 0 (.tmp 39) (.tmp 40), none⟩, ⟨some 42, .mv (.tmp 41), none⟩, ⟨some 43, .mv (.tmp 4), some (42, true)⟩, ⟨some 44, .mv (.tmp 6), some (42, true)⟩, ⟨some 45, .bin .eql (.tmp 43) (.tmp 44), some (42, true)⟩, ⟨some 46, .pick (.tmp 42) (.tmp 45) (.c (.one (.t (.bool false)))), none⟩, ⟨some 47, .mv (.tmp 46), none⟩, ⟨some 48, .mv (.tmp 7), some (47, true)⟩, ⟨some 49, .mv (.tmp 9), some (47, true)⟩, ⟨some 50, .bin .eql (.tmp 48) (.tmp 49), some (47, true)⟩, ⟨some 51, .pick (.tmp 47) (.tmp 50) (.c (.one (.t (.bool false)))), none⟩, ⟨some 52, .mv (.tmp 51), none⟩, ⟨some 53, .mv (.tmp 8), some (52, true)⟩, ⟨some 54, .mv (.tmp 10), some (52, true)⟩, ⟨some 55, .bin .eql (.tmp 53) (.tmp 54), some (52, true)⟩, ⟨some 56, .pick (.tmp 52) (.tmp 55) (.c (.one (.t (.bool false)))), none⟩, ⟨some 2, .mv (.tmp 56), none⟩]) .ret))))))⟩
theorem k_lawKind : cFn Tryz.prog Tryz.f8 = some c_lawKind := by kernel_rfl
set_option maxHeartbeats 1000000 in
theorem lawKind_ok (s : Sq) (h : HugeQ s) : CallOK Tryz.prog 8 [s.v] (.sv (false, [.bool true])) := by
  refine callOK_W (callS_W (by kernel_rfl) Tryz.func8 k_lawKind (callable_of Tryz.func8 (by kernel_rfl)) (by simp [c_lawKind]) ?_)
  simp [c_lawKind, Sq.v, Sq.cs]
  refine callS_tree awake14_ok ?_ ?_ ?_
  · rfl
  · rfl
  simp
  refine callS_tree (few14_ok s h) ?_ ?_ ?_
  · rfl
  · rfl
  cases hf : fewQ s
  · simp
    refine callS_tree awake14_ok ?_ ?_ ?_
    · rfl
    · rfl
    simp
  have ht := tiny_fewQ hf
  simp
  refine callS_tree (sCommX_ok s ht) ?_ ?_ ?_
  · rfl
  · rfl
  simp
  refine callS_tree (rCommX_ok s ht) ?_ ?_ ?_
  · rfl
  · rfl
  simp
  refine callS_tree (sKind_ok s ht) ?_ ?_ ?_
  · rfl
  · rfl
  simp [kindT]
  refine callS_tree (kind14_ok s ht) ?_ ?_ ?_
  · rfl
  · rfl
  simp [kindT]
end Go.Proofs.YthcnpnogfblkcaaGreat

/- Contracts: pasting squares; lifting squares. -/
namespace Go.Proofs.YthcnpnogfblkcaaGreat
open Abs
set_option linter.unusedSimpArgs false
set_option linter.unusedVariables false
attribute [local simp] rn0 rn1 rn2 rn3 rn4 rn5 rn6 rn7 evOp nests Arg.ev St.val St.set St.new sliceOf binInt2 binInt AV.cells rdAt St.live retOf resOf resAll treeOf treeCell treeCells treeTups untree frameOf TV.av TR.av ints edgs prs fillV splice intsOf trees V1.tree bx Gr.v Pa.v opRd opWr opNew opNewR opArgs argsRd argRd Arg.rd AV.refs V1.refs refsL dstL

/-- The outer square, or an error. -/
def pasE (s t : Sq) : Int := if sqErr s = 0 then if sqErr t = 0 then if sameG t.A s.B = true ∧ sameG t.C s.D = true ∧ sameP t.G s.H = true then 0 else 11 else sqErr t else sqErr s
def pasS (s t : Sq) : Sq := ⟨s.A, t.B, s.C, t.D, thenP s.F t.F, s.G, t.H, thenP s.K t.K⟩
def pasR (s t : Sq) : Sq × Int := if pasE s t = 0 then (pasS s t, 0) else (noS, pasE s t)

def c_sPaste : MFunc := ⟨72, [.cell 4 true 16, .tmp 5], .seq (.region [⟨some 2, .box 0 29 (.tmp 0), none⟩, ⟨some 3, .box 1 29 (.tmp 1), none⟩, ⟨some 4, .alloc 2 29 [.nil, .nil, .nil, .nil, .nil, .nil, .nil, .nil, .nil, .nil, .nil, .nil, .nil, .nil, .nil, .nil], none⟩, ⟨some 5, .mv (.c (.one (.t (.int .i64 0)))), none⟩]) (.seq (.seq (.region [⟨some 8, .load true 16 (.tmp 2), none⟩, ⟨some 9, .call (.c (.one (.fn 40 []))) 65 [.tmp 8], none⟩, ⟨some 6, .mv (.tmp 9), none⟩]) (.seq (.region [⟨some 10, .mv (.tmp 6), none⟩, ⟨some 11, .bin .neq (.tmp 10) (.c (.one (.t (.int .i64 0)))), none⟩]) (.cond (.tmp 11) (.seq (.region [⟨some 12, .build [.nil, .nil, .nil, .nil, .nil, .nil, .nil, .nil, .nil, .nil, .nil, .nil, .nil, .nil, .nil, .nil] [], none⟩, ⟨some 13, .mv (.tmp 6), none⟩, ⟨none, .store 16 (.tmp 4) (.tmp 12), none⟩, ⟨some 5, .mv (.tmp 13), none⟩]) .ret) .skip))) (.seq (.seq (.region [⟨some 14, .load true 16 (.tmp 3), none⟩, ⟨some 15, .call (.c (.one (.fn 40 []))) 257 [.tmp 14], none⟩, ⟨some 7, .mv (.tmp 15), none⟩]) (.seq (.region [⟨some 16, .mv (.tmp 7), none⟩, ⟨some 17, .bin .neq (.tmp 16) (.c (.one (.t (.int .i64 0)))), none⟩]) (.cond (.tmp 17) (.seq (.region [⟨some 18, .build [.nil, .nil, .nil, .nil, .nil, .nil, .nil, .nil, .nil, .nil, .nil, .nil, .nil, .nil, .nil, .nil] [], none⟩, ⟨some 19, .mv (.tmp 7), none⟩, ⟨none, .store 16 (.tmp 4) (.tmp 18), none⟩, ⟨some 5, .mv (.tmp 19), none⟩]) .ret) .skip))) (.seq (.seq (.region [⟨some 20, .fieldA 0 (.tmp 3), none⟩, ⟨some 21, .load true 2 (.tmp 20), none⟩, ⟨some 22, .fieldA 2 (.tmp 2), none⟩, ⟨some 23, .load true 2 (.tmp 22), none⟩, ⟨some 24, .call (.c (.one (.fn 79 []))) 452 [.tmp 21, .tmp 23], none⟩, ⟨some 25, .not (.tmp 24), none⟩, ⟨some 26, .mv (.tmp 25), none⟩, ⟨some 27, .fieldA 4 (.tmp 3), some (26, false)⟩, ⟨some 28, .load true 2 (.tmp 27), some (26, false)⟩, ⟨some 29, .fieldA 6 (.tmp 2), some (26, false)⟩, ⟨some 30, .load true 2 (.tmp 29), some (26, false)⟩, ⟨some 31, .call (.c (.one (.fn 79 []))) 459 [.tmp 28, .tmp 30], some (26, false)⟩, ⟨some 32, .not (.tmp 31), some (26, false)⟩, ⟨some 33, .pick (.tmp 26) (.c (.one (.t (.bool true)))) (.tmp 32), none⟩, ⟨some 34, .mv (.tmp 33), none⟩, ⟨some 35, .fieldA 10 (.tmp 3), some (34, false)⟩, ⟨some 36, .load true 2 (.tmp 35), some (34, false)⟩, ⟨some 37, .fieldA 12 (.tmp 2), some (34, false)⟩, ⟨some 38, .load true 2 (.tmp 37), some (34, false)⟩, ⟨some 39, .call (.c (.one (.fn 80 []))) 467 [.tmp 36, .tmp 38], some (34, false)⟩, ⟨some 40, .not (.tmp 39), some (34, false)⟩, ⟨some 41, .pick (.tmp 34) (.c (.one (.t (.bool true)))) (.tmp 40), none⟩]) (.cond (.tmp 41) (.seq (.region [⟨some 42, .build [.nil, .nil, .nil, .nil, .nil, .nil, .nil, .nil, .nil, .nil, .nil, .nil, .nil, .nil, .nil, .nil] [], none⟩, ⟨none, .store 16 (.tmp 4) (.tmp 42), none⟩, ⟨some 5, .mv (.c (.one (.t (.int .i64 11)))), none⟩]) .ret) .skip)) (.seq (.draw [[], [0], [1], [], [3], [4, 2], [], [6], [7, 5], [], [9], [10, 8], [], [12], [], [14], [13, 15, 11], [], [17], [18, 16], [], [20], [21, 19], [], [23], [], [25], [24, 26, 22], [2, 5, 8, 11, 16, 19, 22, 27], [28, 27, 0, 1, 2, 3, 4, 5, 6, 7, 8, 9, 10, 11, 12, 13, 14, 15, 16, 17, 18, 19, 20, 21, 22, 23, 24, 25, 26, 27, 28], [29, 0, 1, 2, 3, 4, 5, 6, 7, 8, 9, 10, 11, 12, 13, 14, 15, 16, 17, 18, 19, 20, 21, 22, 23, 24, 25, 26, 27, 28, 29]] [⟨some 43, .fieldA 0 (.tmp 2), none⟩, ⟨some 44, .load true 2 (.tmp 43), none⟩, ⟨some 45, .call (.c (.one (.fn 46 []))) 578 [.tmp 44], none⟩, ⟨some 46, .fieldA 2 (.tmp 3), none⟩, ⟨some 47, .load true 2 (.tmp 46), none⟩, ⟨some 48, .call (.c (.one (.fn 46 []))) 581 [.tmp 47], none⟩, ⟨some 49, .fieldA 4 (.tmp 2), none⟩, ⟨some 50, .load true 2 (.tmp 49), none⟩, ⟨some 51, .call (.c (.one (.fn 46 []))) 584 [.tmp 50], none⟩, ⟨some 52, .fieldA 6 (.tmp 3), none⟩, ⟨some 53, .load true 2 (.tmp 52), none⟩, ⟨some 54, .call (.c (.one (.fn 46 []))) 587 [.tmp 53], none⟩, ⟨some 55, .fieldA 8 (.tmp 2), none⟩, ⟨some 56, .load true 2 (.tmp 55), none⟩, ⟨some 57, .fieldA 8 (.tmp 3), none⟩, ⟨some 58, .load true 2 (.tmp 57), none⟩, ⟨some 59, .call (.c (.one (.fn 44 []))) 592 [.tmp 56, .tmp 58], none⟩, ⟨some 60, .fieldA 10 (.tmp 2), none⟩, ⟨some 61, .load true 2 (.tmp 60), none⟩, ⟨some 62, .call (.c (.one (.fn 63 []))) 595 [.tmp 61], none⟩, ⟨some 63, .fieldA 12 (.tmp 3), none⟩, ⟨some 64, .load true 2 (.tmp 63), none⟩, ⟨some 65, .call (.c (.one (.fn 63 []))) 598 [.tmp 64], none⟩, ⟨some 66, .fieldA 14 (.tmp 2), none⟩, ⟨some 67, .load true 2 (.tmp 66), none⟩, ⟨some 68, .fieldA 14 (.tmp 3), none⟩, ⟨some 69, .load true 2 (.tmp 68), none⟩, ⟨some 70, .call (.c (.one (.fn 44 []))) 603 [.tmp 67, .tmp 69], none⟩, ⟨some 71, .build [.nil, .nil, .nil, .nil, .nil, .nil, .nil, .nil, .nil, .nil, .nil, .nil, .nil, .nil, .nil, .nil] [(0, (2, .tmp 45)), (2, (2, .tmp 48)), (4, (2, .tmp 51)), (6, (2, .tmp 54)), (8, (2, .tmp 59)), (10, (2, .tmp 62)), (12, (2, .tmp 65)), (14, (2, .tmp 70))], none⟩, ⟨none, .store 16 (.tmp 4) (.tmp 71), none⟩, ⟨some 5, .mv (.c (.one (.t (.int .i64 0)))), none⟩]) .ret))))⟩
theorem k_sPaste : cFn Tryz.prog Tryz.f37 = some c_sPaste := by kernel_rfl
set_option maxHeartbeats 4000000 in
theorem sPaste_ok (s t : Sq) (h : TinySq s) (k : TinySq t) : CallOK Tryz.prog 37 [s.v, t.v] (sqT (pasR s t)) := by
  refine callOK_W (callS_W (by kernel_rfl) Tryz.func37 k_sPaste (callable_of Tryz.func37 (by kernel_rfl)) (by simp [c_sPaste]) ?_)
  simp [c_sPaste, Sq.v, Sq.cs]
  refine callS_tree (svalidS_ok s h) ?_ ?_ ?_
  · rfl
  · rfl
  by_cases h1 : sqErr s = 0
  case neg =>
    have e : pasR s t = (noS, sqErr s) := by simp [pasR, pasE, h1]
    simp [h1, sqT, e, noS, Sq.v, Sq.cs, edL]
  simp [h1]
  refine callS_tree (svalidS_ok t k) ?_ ?_ ?_
  · rfl
  · rfl
  by_cases h2 : sqErr t = 0
  case neg =>
    have e : pasR s t = (noS, sqErr t) := by simp [pasR, pasE, h1, h2]
    simp [h2, sqT, e, noS, Sq.v, Sq.cs, edL]
  simp [h2]
  refine callS_tree (ssame_ok t.A s.B k.A h.B) ?_ ?_ ?_
  · rfl
  · rfl
  cases h3 : sameG t.A s.B
  · have e : pasR s t = (noS, 11) := by simp [pasR, pasE, h1, h2, h3]
    simp [sqT, e, noS, Sq.v, Sq.cs, edL]
  simp
  refine callS_tree (ssame_ok t.C s.D k.C h.D) ?_ ?_ ?_
  · rfl
  · rfl
  cases h4 : sameG t.C s.D
  · have e : pasR s t = (noS, 11) := by simp [pasR, pasE, h1, h2, h3, h4]
    simp [sqT, e, noS, Sq.v, Sq.cs, edL]
  simp
  refine callS_tree (msame_ok t.G s.H k.G h.H) ?_ ?_ ?_
  · rfl
  · rfl
  cases h5 : sameP t.G s.H
  · have e : pasR s t = (noS, 11) := by simp [pasR, pasE, h1, h2, h3, h4, h5]
    simp [sqT, e, noS, Sq.v, Sq.cs, edL]
  have e : pasR s t = (pasS s t, 0) := by simp [pasR, pasE, h1, h2, h3, h4, h5]
  have o1 := sqErr_ok h1
  have o2 := sqErr_ok h2
  have f1 : FitsP s.F t.F := o1.F.fits (by rw [← sameG_iff.1 h3]; exact o2.F)
  have f2 : FitsP s.K t.K := o1.K.fits (by rw [← sameG_iff.1 h4]; exact o2.K)
  simp [dw0, dw1, dw2, dw3]
  refine dCall_ok (scopied_ok s.A h.A) ?_ ?_ ?_
  · rfl
  · rfl
  simp [dw0, dw1, dw2, dw3]
  refine dCall_ok (scopied_ok t.B k.B) ?_ ?_ ?_
  · rfl
  · rfl
  simp [dw0, dw1, dw2, dw3]
  refine dCall_ok (scopied_ok s.C h.C) ?_ ?_ ?_
  · rfl
  · rfl
  simp [dw0, dw1, dw2, dw3]
  refine dCall_ok (scopied_ok t.D k.D) ?_ ?_ ?_
  · rfl
  · rfl
  simp [dw0, dw1, dw2, dw3]
  refine dCall_ok (sthen_ok s.F t.F h.F f1) ?_ ?_ ?_
  · rfl
  · rfl
  simp [dw0, dw1, dw2, dw3]
  refine dCall_ok (arrow_ok s.G h.G) ?_ ?_ ?_
  · rfl
  · rfl
  simp [dw0, dw1, dw2, dw3]
  refine dCall_ok (arrow_ok t.H k.H) ?_ ?_ ?_
  · rfl
  · rfl
  simp [dw0, dw1, dw2, dw3]
  refine dCall_ok (sthen_ok s.K t.K h.K f2) ?_ ?_ ?_
  · rfl
  · rfl
  simp [dw0, dw1, dw2, dw3, sqT, e, pasS, Sq.v, Sq.cs]
  rfl

def c_rPaste : MFunc := ⟨66, [.cell 4 true 16, .tmp 5], .seq (.region [⟨some 2, .box 0 29 (.tmp 0), none⟩, ⟨some 3, .box 1 29 (.tmp 1), none⟩, ⟨some 4, .alloc 2 29 [.nil, .nil, .nil, .nil, .nil, .nil, .nil, .nil, .nil, .nil, .nil, .nil, .nil, .nil, .nil, .nil], none⟩, ⟨some 5, .mv (.c (.one (.t (.int .i64 0)))), none⟩]) (.seq (.seq (.region [⟨some 8, .load true 16 (.tmp 2), none⟩, ⟨some 9, .call (.c (.one (.fn 47 []))) 65 [.tmp 8], none⟩, ⟨some 6, .mv (.tmp 9), none⟩]) (.seq (.region [⟨some 10, .mv (.tmp 6), none⟩, ⟨some 11, .bin .neq (.tmp 10) (.c (.one (.t (.int .i64 0)))), none⟩]) (.cond (.tmp 11) (.seq (.region [⟨some 12, .build [.nil, .nil, .nil, .nil, .nil, .nil, .nil, .nil, .nil, .nil, .nil, .nil, .nil, .nil, .nil, .nil] [], none⟩, ⟨some 13, .mv (.tmp 6), none⟩, ⟨none, .store 16 (.tmp 4) (.tmp 12), none⟩, ⟨some 5, .mv (.tmp 13), none⟩]) .ret) .skip))) (.seq (.seq (.region [⟨some 14, .load true 16 (.tmp 3), none⟩, ⟨some 15, .call (.c (.one (.fn 47 []))) 257 [.tmp 14], none⟩, ⟨some 7, .mv (.tmp 15), none⟩]) (.seq (.region [⟨some 16, .mv (.tmp 7), none⟩, ⟨some 17, .bin .neq (.tmp 16) (.c (.one (.t (.int .i64 0)))), none⟩]) (.cond (.tmp 17) (.seq (.region [⟨some 18, .build [.nil, .nil, .nil, .nil, .nil, .nil, .nil, .nil, .nil, .nil, .nil, .nil, .nil, .nil, .nil, .nil] [], none⟩, ⟨some 19, .mv (.tmp 7), none⟩, ⟨none, .store 16 (.tmp 4) (.tmp 18), none⟩, ⟨some 5, .mv (.tmp 19), none⟩]) .ret) .skip))) (.seq (.seq (.region [⟨some 20, .fieldA 0 (.tmp 3), none⟩, ⟨some 21, .load true 2 (.tmp 20), none⟩, ⟨some 22, .fieldA 2 (.tmp 2), none⟩, ⟨some 23, .load true 2 (.tmp 22), none⟩, ⟨some 24, .call (.c (.one (.fn 22 []))) 452 [.tmp 21, .tmp 23], none⟩, ⟨some 25, .not (.tmp 24), none⟩, ⟨some 26, .mv (.tmp 25), none⟩, ⟨some 27, .fieldA 4 (.tmp 3), some (26, false)⟩, ⟨some 28, .load true 2 (.tmp 27), some (26, false)⟩, ⟨some 29, .fieldA 6 (.tmp 2), some (26, false)⟩, ⟨some 30, .load true 2 (.tmp 29), some (26, false)⟩, ⟨some 31, .call (.c (.one (.fn 22 []))) 459 [.tmp 28, .tmp 30], some (26, false)⟩, ⟨some 32, .not (.tmp 31), some (26, false)⟩, ⟨some 33, .pick (.tmp 26) (.c (.one (.t (.bool true)))) (.tmp 32), none⟩, ⟨some 34, .mv (.tmp 33), none⟩, ⟨some 35, .fieldA 10 (.tmp 3), some (34, false)⟩, ⟨some 36, .load true 2 (.tmp 35), some (34, false)⟩, ⟨some 37, .fieldA 12 (.tmp 2), some (34, false)⟩, ⟨some 38, .load true 2 (.tmp 37), some (34, false)⟩, ⟨some 39, .call (.c (.one (.fn 23 []))) 467 [.tmp 36, .tmp 38], some (34, false)⟩, ⟨some 40, .not (.tmp 39), some (34, false)⟩, ⟨some 41, .pick (.tmp 34) (.c (.one (.t (.bool true)))) (.tmp 40), none⟩]) (.cond (.tmp 41) (.seq (.region [⟨some 42, .build [.nil, .nil, .nil, .nil, .nil, .nil, .nil, .nil, .nil, .nil, .nil, .nil, .nil, .nil, .nil, .nil] [], none⟩, ⟨none, .store 16 (.tmp 4) (.tmp 42), none⟩, ⟨some 5, .mv (.c (.one (.t (.int .i64 11)))), none⟩]) .ret) .skip)) (.seq (.draw [[], [0], [], [2], [], [4], [], [6], [], [8], [], [10], [9, 11], [], [13], [], [15], [], [17], [], [19], [18, 20, 12], [1, 3, 5, 7, 12, 14, 16, 21], [22, 21, 0, 1, 2, 3, 4, 5, 6, 7, 8, 9, 10, 11, 12, 13, 14, 15, 16, 17, 18, 19, 20, 21, 22], [23, 0, 1, 2, 3, 4, 5, 6, 7, 8, 9, 10, 11, 12, 13, 14, 15, 16, 17, 18, 19, 20, 21, 22, 23]] [⟨some 43, .fieldA 0 (.tmp 2), none⟩, ⟨some 44, .load true 2 (.tmp 43), none⟩, ⟨some 45, .fieldA 2 (.tmp 3), none⟩, ⟨some 46, .load true 2 (.tmp 45), none⟩, ⟨some 47, .fieldA 4 (.tmp 2), none⟩, ⟨some 48, .load true 2 (.tmp 47), none⟩, ⟨some 49, .fieldA 6 (.tmp 3), none⟩, ⟨some 50, .load true 2 (.tmp 49), none⟩, ⟨some 51, .fieldA 8 (.tmp 2), none⟩, ⟨some 52, .load true 2 (.tmp 51), none⟩, ⟨some 53, .fieldA 8 (.tmp 3), none⟩, ⟨some 54, .load true 2 (.tmp 53), none⟩, ⟨some 55, .call (.c (.one (.fn 39 []))) 588 [.tmp 52, .tmp 54], none⟩, ⟨some 56, .fieldA 10 (.tmp 2), none⟩, ⟨some 57, .load true 2 (.tmp 56), none⟩, ⟨some 58, .fieldA 12 (.tmp 3), none⟩, ⟨some 59, .load true 2 (.tmp 58), none⟩, ⟨some 60, .fieldA 14 (.tmp 2), none⟩, ⟨some 61, .load true 2 (.tmp 60), none⟩, ⟨some 62, .fieldA 14 (.tmp 3), none⟩, ⟨some 63, .load true 2 (.tmp 62), none⟩, ⟨some 64, .call (.c (.one (.fn 39 []))) 597 [.tmp 61, .tmp 63], none⟩, ⟨some 65, .build [.nil, .nil, .nil, .nil, .nil, .nil, .nil, .nil, .nil, .nil, .nil, .nil, .nil, .nil, .nil, .nil] [(0, (2, .tmp 44)), (2, (2, .tmp 46)), (4, (2, .tmp 48)), (6, (2, .tmp 50)), (8, (2, .tmp 55)), (10, (2, .tmp 57)), (12, (2, .tmp 59)), (14, (2, .tmp 64))], none⟩, ⟨none, .store 16 (.tmp 4) (.tmp 65), none⟩, ⟨some 5, .mv (.c (.one (.t (.int .i64 0)))), none⟩]) .ret))))⟩
theorem k_rPaste : cFn Tryz.prog Tryz.f38 = some c_rPaste := by kernel_rfl
set_option maxHeartbeats 4000000 in
theorem rPaste_ok (s t : Sq) (h : TinySq s) (k : TinySq t) : CallOK Tryz.prog 38 [s.v, t.v] (sqT (pasR s t)) := by
  refine callOK_W (callS_W (by kernel_rfl) Tryz.func38 k_rPaste (callable_of Tryz.func38 (by kernel_rfl)) (by simp [c_rPaste]) ?_)
  simp [c_rPaste, Sq.v, Sq.cs]
  refine callS_tree (rvalidS_ok s h) ?_ ?_ ?_
  · rfl
  · rfl
  by_cases h1 : sqErr s = 0
  case neg =>
    have e : pasR s t = (noS, sqErr s) := by simp [pasR, pasE, h1]
    simp [h1, sqT, e, noS, Sq.v, Sq.cs, edL]
  simp [h1]
  refine callS_tree (rvalidS_ok t k) ?_ ?_ ?_
  · rfl
  · rfl
  by_cases h2 : sqErr t = 0
  case neg =>
    have e : pasR s t = (noS, sqErr t) := by simp [pasR, pasE, h1, h2]
    simp [h2, sqT, e, noS, Sq.v, Sq.cs, edL]
  simp [h2]
  refine callS_tree (ref5Same_ok t.A s.B k.A h.B) ?_ ?_ ?_
  · rfl
  · rfl
  cases h3 : sameG t.A s.B
  · have e : pasR s t = (noS, 11) := by simp [pasR, pasE, h1, h2, h3]
    rw [← sameG, h3]
    simp [sqT, e, noS, Sq.v, Sq.cs, edL]
  rw [← sameG, h3]
  simp
  refine callS_tree (ref5Same_ok t.C s.D k.C h.D) ?_ ?_ ?_
  · rfl
  · rfl
  cases h4 : sameG t.C s.D
  · have e : pasR s t = (noS, 11) := by simp [pasR, pasE, h1, h2, h3, h4]
    rw [← sameG, h4]
    simp [sqT, e, noS, Sq.v, Sq.cs, edL]
  rw [← sameG, h4]
  simp
  refine callS_tree (rsame_ok t.G s.H k.G h.H) ?_ ?_ ?_
  · rfl
  · rfl
  cases h5 : sameP t.G s.H
  · have e : pasR s t = (noS, 11) := by simp [pasR, pasE, h1, h2, h3, h4, h5]
    simp [sqT, e, noS, Sq.v, Sq.cs, edL]
  have e : pasR s t = (pasS s t, 0) := by simp [pasR, pasE, h1, h2, h3, h4, h5]
  have o1 := sqErr_ok h1
  have o2 := sqErr_ok h2
  have f1 : FitsP s.F t.F := o1.F.fits (by rw [← sameG_iff.1 h3]; exact o2.F)
  have f2 : FitsP s.K t.K := o1.K.fits (by rw [← sameG_iff.1 h4]; exact o2.K)
  simp [dw0, dw1, dw2, dw3]
  refine dCall_ok (then6_ok s.F t.F h.F f1) ?_ ?_ ?_
  · rfl
  · rfl
  simp [dw0, dw1, dw2, dw3]
  refine dCall_ok (then6_ok s.K t.K h.K f2) ?_ ?_ ?_
  · rfl
  · rfl
  simp [dw0, dw1, dw2, dw3, sqT, e, pasS, Sq.v, Sq.cs]
  rfl
end Go.Proofs.YthcnpnogfblkcaaGreat

/- Contracts: equal squares; the law of pasting. -/
namespace Go.Proofs.YthcnpnogfblkcaaGreat
open Abs
set_option linter.unusedSimpArgs false
set_option linter.unusedVariables false
attribute [local simp] rn0 rn1 rn2 rn3 rn4 rn5 rn6 rn7 evOp nests Arg.ev St.val St.set St.new sliceOf binInt2 binInt AV.cells rdAt St.live retOf resOf resAll treeOf treeCell treeCells treeTups untree frameOf TV.av TR.av ints edgs prs fillV splice intsOf trees V1.tree bx Gr.v Pa.v

def c_same14 : MFunc := ⟨61, [.tmp 4], .seq (.region [⟨some 2, .box 0 29 (.tmp 0), none⟩, ⟨some 3, .box 1 29 (.tmp 1), none⟩, ⟨some 4, .mv (.c (.one (.t (.bool false)))), none⟩]) (.seq (.region [⟨some 6, .fieldA 0 (.tmp 2), none⟩, ⟨some 7, .load true 2 (.tmp 6), none⟩, ⟨some 8, .fieldA 0 (.tmp 3), none⟩, ⟨some 9, .load true 2 (.tmp 8), none⟩, ⟨some 10, .call (.c (.one (.fn 22 []))) 68 [.tmp 7, .tmp 9], none⟩, ⟨some 11, .mv (.tmp 10), none⟩, ⟨some 12, .fieldA 2 (.tmp 2), some (11, true)⟩, ⟨some 13, .load true 2 (.tmp 12), some (11, true)⟩, ⟨some 14, .fieldA 2 (.tmp 3), some (11, true)⟩, ⟨some 15, .load true 2 (.tmp 14), some (11, true)⟩, ⟨some 16, .call (.c (.one (.fn 22 []))) 74 [.tmp 13, .tmp 15], some (11, true)⟩, ⟨some 17, .pick (.tmp 11) (.tmp 16) (.c (.one (.t (.bool false)))), none⟩, ⟨some 18, .mv (.tmp 17), none⟩, ⟨some 19, .fieldA 4 (.tmp 2), some (18, true)⟩, ⟨some 20, .load true 2 (.tmp 19), some (18, true)⟩, ⟨some 21, .fieldA 4 (.tmp 3), some (18, true)⟩, ⟨some 22, .load true 2 (.tmp 21), some (18, true)⟩, ⟨some 23, .call (.c (.one (.fn 22 []))) 81 [.tmp 20, .tmp 22], some (18, true)⟩, ⟨some 24, .pick (.tmp 18) (.tmp 23) (.c (.one (.t (.bool false)))), none⟩, ⟨some 25, .mv (.tmp 24), none⟩, ⟨some 26, .fieldA 6 (.tmp 2), some (25, true)⟩, ⟨some 27, .load true 2 (.tmp 26), some (25, true)⟩, ⟨some 28, .fieldA 6 (.tmp 3), some (25, true)⟩, ⟨some 29, .load true 2 (.tmp 28), some (25, true)⟩, ⟨some 30, .call (.c (.one (.fn 22 []))) 88 [.tmp 27, .tmp 29], some (25, true)⟩, ⟨some 31, .pick (.tmp 25) (.tmp 30) (.c (.one (.t (.bool false)))), none⟩, ⟨some 5, .mv (.tmp 31), none⟩]) (.seq (.region [⟨some 32, .mv (.tmp 5), none⟩, ⟨some 33, .mv (.tmp 32), none⟩, ⟨some 34, .fieldA 8 (.tmp 2), some (33, true)⟩, ⟨some 35, .load true 2 (.tmp 34), some (33, true)⟩, ⟨some 36, .fieldA 8 (.tmp 3), some (33, true)⟩, ⟨some 37, .load true 2 (.tmp 36), some (33, true)⟩, ⟨some 38, .call (.c (.one (.fn 23 []))) 134 [.tmp 35, .tmp 37], some (33, true)⟩, ⟨some 39, .pick (.tmp 33) (.tmp 38) (.c (.one (.t (.bool false)))), none⟩, ⟨some 40, .mv (.tmp 39), none⟩, ⟨some 41, .fieldA 10 (.tmp 2), some (40, true)⟩, ⟨some 42, .load true 2 (.tmp 41), some (40, true)⟩, ⟨some 43, .fieldA 10 (.tmp 3), some (40, true)⟩, ⟨some 44, .load true 2 (.tmp 43), some (40, true)⟩, ⟨some 45, .call (.c (.one (.fn 23 []))) 141 [.tmp 42, .tmp 44], some (40, true)⟩, ⟨some 46, .pick (.tmp 40) (.tmp 45) (.c (.one (.t (.bool false)))), none⟩, ⟨some 47, .mv (.tmp 46), none⟩, ⟨some 48, .fieldA 12 (.tmp 2), some (47, true)⟩, ⟨some 49, .load true 2 (.tmp 48), some (47, true)⟩, ⟨some 50, .fieldA 12 (.tmp 3), some (47, true)⟩, ⟨some 51, .load true 2 (.tmp 50), some (47, true)⟩, ⟨some 52, .call (.c (.one (.fn 23 []))) 148 [.tmp 49, .tmp 51], some (47, true)⟩, ⟨some 53, .pick (.tmp 47) (.tmp 52) (.c (.one (.t (.bool false)))), none⟩, ⟨some 54, .mv (.tmp 53), none⟩, ⟨some 55, .fieldA 14 (.tmp 2), some (54, true)⟩, ⟨some 56, .load true 2 (.tmp 55), some (54, true)⟩, ⟨some 57, .fieldA 14 (.tmp 3), some (54, true)⟩, ⟨some 58, .load true 2 (.tmp 57), some (54, true)⟩, ⟨some 59, .call (.c (.one (.fn 23 []))) 155 [.tmp 56, .tmp 58], some (54, true)⟩, ⟨some 60, .pick (.tmp 54) (.tmp 59) (.c (.one (.t (.bool false)))), none⟩, ⟨some 4, .mv (.tmp 60), none⟩]) .ret))⟩
theorem k_same14 : cFn Tryz.prog Tryz.f17 = some c_same14 := by kernel_rfl
set_option maxHeartbeats 2000000 in
theorem same14_ok (s : Sq) (h : TinySq s) : CallOK Tryz.prog 17 [s.v, s.v] (.sv (false, [.bool true])) := by
  refine callOK_W (callS_W (by kernel_rfl) Tryz.func17 k_same14 (callable_of Tryz.func17 (by kernel_rfl)) (by simp [c_same14]) ?_)
  simp [c_same14, Sq.v, Sq.cs]
  refine callS_tree (ref5Same_ok s.A s.A h.A h.A) ?_ ?_ ?_
  · rfl
  · rfl
  simp
  refine callS_tree (ref5Same_ok s.B s.B h.B h.B) ?_ ?_ ?_
  · rfl
  · rfl
  simp
  refine callS_tree (ref5Same_ok s.C s.C h.C h.C) ?_ ?_ ?_
  · rfl
  · rfl
  simp
  refine callS_tree (ref5Same_ok s.D s.D h.D h.D) ?_ ?_ ?_
  · rfl
  · rfl
  simp
  refine callS_tree (rsame_ok s.F s.F h.F h.F) ?_ ?_ ?_
  · rfl
  · rfl
  rw [sameP_iff.2 rfl]
  simp
  refine callS_tree (rsame_ok s.G s.G h.G h.G) ?_ ?_ ?_
  · rfl
  · rfl
  rw [sameP_iff.2 rfl]
  simp
  refine callS_tree (rsame_ok s.H s.H h.H h.H) ?_ ?_ ?_
  · rfl
  · rfl
  rw [sameP_iff.2 rfl]
  simp
  refine callS_tree (rsame_ok s.K s.K h.K h.K) ?_ ?_ ?_
  · rfl
  · rfl
  rw [sameP_iff.2 rfl]
  simp

theorem noS_tiny : TinySq noS := by
  refine ⟨⟨?_, ?_⟩, ⟨?_, ?_⟩, ⟨?_, ?_⟩, ⟨?_, ?_⟩, ⟨?_, ?_⟩, ⟨?_, ?_⟩, ⟨?_, ?_⟩, ⟨?_, ?_⟩⟩ <;> simp [noS, tiny]
theorem pasR_tiny {s t : Sq} (h : TinySq s) (k : TinySq t) : TinySq (pasR s t).1 := by
  unfold pasR
  split
  · exact ⟨h.A, k.B, h.C, k.D, thenP_tiny h.F, h.G, k.H, thenP_tiny h.K⟩
  · exact noS_tiny

def c_lawPaste : MFunc := ⟨42, [.tmp 4], .seq (.region [⟨some 2, .box 0 29 (.tmp 0), none⟩, ⟨some 3, .box 1 29 (.tmp 1), none⟩, ⟨some 4, .mv (.c (.one (.t (.bool false)))), none⟩]) (.seq (.seq (.region [⟨some 9, .call (.c (.one (.fn 11 []))) 64 [], none⟩, ⟨some 10, .not (.tmp 9), none⟩, ⟨some 11, .mv (.tmp 10), none⟩, ⟨some 12, .load true 16 (.tmp 2), some (11, false)⟩, ⟨some 13, .call (.c (.one (.fn 12 []))) 68 [.tmp 12], some (11, false)⟩, ⟨some 14, .not (.tmp 13), some (11, false)⟩, ⟨some 15, .pick (.tmp 11) (.c (.one (.t (.bool true)))) (.tmp 14), none⟩, ⟨some 16, .mv (.tmp 15), none⟩, ⟨some 17, .load true 16 (.tmp 3), some (16, false)⟩, ⟨some 18, .call (.c (.one (.fn 12 []))) 73 [.tmp 17], some (16, false)⟩, ⟨some 19, .not (.tmp 18), some (16, false)⟩, ⟨some 20, .pick (.tmp 16) (.c (.one (.t (.bool true)))) (.tmp 19), none⟩]) (.cond (.tmp 20) (.seq (.region [⟨some 21, .call (.c (.one (.fn 11 []))) 128 [], none⟩, ⟨some 4, .mv (.tmp 21), none⟩]) .ret) .skip)) (.seq (.region [⟨some 23, .load true 16 (.tmp 2), none⟩, ⟨some 24, .load true 16 (.tmp 3), none⟩, ⟨some 25, .call (.c (.one (.fn 37 []))) 194 [.tmp 23, .tmp 24], none⟩, ⟨some 22, .mv (.tmp 25), none⟩, ⟨some 26, .extract (.tmp 22) 0, none⟩, ⟨some 27, .extract (.tmp 22) 1, none⟩, ⟨some 5, .alloc 198 29 [.nil, .nil, .nil, .nil, .nil, .nil, .nil, .nil, .nil, .nil, .nil, .nil, .nil, .nil, .nil, .nil], none⟩, ⟨none, .store 16 (.tmp 5) (.tmp 26), none⟩, ⟨some 6, .mv (.tmp 27), none⟩]) (.seq (.region [⟨some 29, .load true 16 (.tmp 2), none⟩, ⟨some 30, .load true 16 (.tmp 3), none⟩, ⟨some 31, .call (.c (.one (.fn 38 []))) 258 [.tmp 29, .tmp 30], none⟩, ⟨some 28, .mv (.tmp 31), none⟩, ⟨some 32, .extract (.tmp 28) 0, none⟩, ⟨some 33, .extract (.tmp 28) 1, none⟩, ⟨some 7, .alloc 262 29 [.nil, .nil, .nil, .nil, .nil, .nil, .nil, .nil, .nil, .nil, .nil, .nil, .nil, .nil, .nil, .nil], none⟩, ⟨none, .store 16 (.tmp 7) (.tmp 32), none⟩, ⟨some 8, .mv (.tmp 33), none⟩]) (.seq (.region [⟨some 34, .mv (.tmp 6), none⟩, ⟨some 35, .mv (.tmp 8), none⟩, ⟨some 36, .bin .eql (.tmp 34) (.tmp 35), none⟩, ⟨some 37, .mv (.tmp 36), none⟩, ⟨some 38, .load true 16 (.tmp 5), some (37, true)⟩, ⟨some 39, .load true 16 (.tmp 7), some (37, true)⟩, ⟨some 40, .call (.c (.one (.fn 17 []))) 326 [.tmp 38, .tmp 39], some (37, true)⟩, ⟨some 41, .pick (.tmp 37) (.tmp 40) (.c (.one (.t (.bool false)))), none⟩, ⟨some 4, .mv (.tmp 41), none⟩]) .ret))))⟩
theorem k_lawPaste : cFn Tryz.prog Tryz.f9 = some c_lawPaste := by kernel_rfl
set_option maxHeartbeats 2000000 in
theorem lawPaste_ok (s t : Sq) (h : HugeQ s) (k : HugeQ t) : CallOK Tryz.prog 9 [s.v, t.v] (.sv (false, [.bool true])) := by
  refine callOK_W (callS_W (by kernel_rfl) Tryz.func9 k_lawPaste (callable_of Tryz.func9 (by kernel_rfl)) (by simp [c_lawPaste]) ?_)
  simp [c_lawPaste, Sq.v, Sq.cs]
  refine callS_tree awake14_ok ?_ ?_ ?_
  · rfl
  · rfl
  simp
  refine callS_tree (few14_ok s h) ?_ ?_ ?_
  · rfl
  · rfl
  cases hf : fewQ s
  · simp
    refine callS_tree awake14_ok ?_ ?_ ?_
    · rfl
    · rfl
    simp
  simp
  refine callS_tree (few14_ok t k) ?_ ?_ ?_
  · rfl
  · rfl
  cases hk : fewQ t
  · simp
    refine callS_tree awake14_ok ?_ ?_ ?_
    · rfl
    · rfl
    simp
  have hs := tiny_fewQ hf
  have ht := tiny_fewQ hk
  simp
  refine callS_tree (sPaste_ok s t hs ht) ?_ ?_ ?_
  · rfl
  · rfl
  simp [sqT, Sq.v, Sq.cs]
  refine callS_tree (rPaste_ok s t hs ht) ?_ ?_ ?_
  · rfl
  · rfl
  simp [sqT, Sq.v, Sq.cs]
  refine callS_tree (same14_ok (pasR s t).1 (pasR_tiny hs ht)) ?_ ?_ ?_
  · rfl
  · rfl
  simp
end Go.Proofs.YthcnpnogfblkcaaGreat

/- Plain laws on pushouts and pullbacks of functions between the numbers below bounds. -/
namespace Go.Proofs.YthcnpnogfblkcaaGreat.Po
set_option linter.unusedVariables false

/-- f takes the numbers below n to numbers below m. -/
def Maps (n m : Nat) (f : Nat → Nat) : Prop := ∀ i, i < n → f i < m

structure PO (nA nB nC nD : Nat) (f g h k : Nat → Nat) : Prop where
  comm : ∀ a, a < nA → h (f a) = k (g a)
  cover : ∀ d, d < nD → (∃ b, b < nB ∧ h b = d) ∨ (∃ c, c < nC ∧ k c = d)
  univ : ∀ φ ψ : Nat → Nat, (∀ a, a < nA → φ (f a) = ψ (g a)) → ∃ u : Nat → Nat, (∀ b, b < nB → u (h b) = φ b) ∧ (∀ c, c < nC → u (k c) = ψ c)

structure PB (nA nB nC : Nat) (f g h k : Nat → Nat) : Prop where
  comm : ∀ a, a < nA → h (f a) = k (g a)
  ex : ∀ b c, b < nB → c < nC → h b = k c → ∃ a, a < nA ∧ f a = b ∧ g a = c
  uniq : ∀ a a', a < nA → a' < nA → f a = f a' → g a = g a' → a = a'

theorem PO.symm {nA nB nC nD : Nat} {f g h k : Nat → Nat} (p : PO nA nB nC nD f g h k) : PO nA nC nB nD g f k h where
  comm := fun a ha => (p.comm a ha).symm
  cover := fun d hd => (p.cover d hd).symm
  univ := fun φ ψ hc => by
    obtain ⟨u, h1, h2⟩ := p.univ ψ φ (fun a ha => (hc a ha).symm)
    exact ⟨u, h2, h1⟩

theorem PB.symm {nA nB nC : Nat} {f g h k : Nat → Nat} (p : PB nA nB nC f g h k) : PB nA nC nB g f k h where
  comm := fun a ha => (p.comm a ha).symm
  ex := fun b c hb hc e => by
    obtain ⟨a, h1, h2, h3⟩ := p.ex c b hc hb e.symm
    exact ⟨a, h1, h3, h2⟩
  uniq := fun a a' h1 h2 e1 e2 => p.uniq a a' h1 h2 e2 e1

/-- Only the values below the bounds count. -/
theorem PO.congr {nA nB nC nD : Nat} {f g h k f' g' h' k' : Nat → Nat} (p : PO nA nB nC nD f g h k) (mf : Maps nA nB f) (mg : Maps nA nC g)
    (ef : ∀ i, i < nA → f' i = f i) (eg : ∀ i, i < nA → g' i = g i) (eh : ∀ i, i < nB → h' i = h i) (ek : ∀ i, i < nC → k' i = k i) : PO nA nB nC nD f' g' h' k' where
  comm := fun a ha => by rw [ef a ha, eg a ha, eh _ (mf a ha), ek _ (mg a ha)]; exact p.comm a ha
  cover := fun d hd => by
    rcases p.cover d hd with ⟨b, hb, e⟩ | ⟨c, hc, e⟩
    · exact .inl ⟨b, hb, by rw [eh b hb]; exact e⟩
    · exact .inr ⟨c, hc, by rw [ek c hc]; exact e⟩
  univ := fun φ ψ hc => by
    obtain ⟨u, h1, h2⟩ := p.univ φ ψ (fun a ha => by rw [← ef a ha, ← eg a ha]; exact hc a ha)
    exact ⟨u, fun b hb => by rw [eh b hb]; exact h1 b hb, fun c hc => by rw [ek c hc]; exact h2 c hc⟩

theorem PB.congr {nA nB nC : Nat} {f g h k f' g' h' k' : Nat → Nat} (p : PB nA nB nC f g h k) (mf : Maps nA nB f) (mg : Maps nA nC g)
    (ef : ∀ i, i < nA → f' i = f i) (eg : ∀ i, i < nA → g' i = g i) (eh : ∀ i, i < nB → h' i = h i) (ek : ∀ i, i < nC → k' i = k i) : PB nA nB nC f' g' h' k' where
  comm := fun a ha => by rw [ef a ha, eg a ha, eh _ (mf a ha), ek _ (mg a ha)]; exact p.comm a ha
  ex := fun b c hb hc e => by
    rw [eh b hb, ek c hc] at e
    obtain ⟨a, ha, h1, h2⟩ := p.ex b c hb hc e
    exact ⟨a, ha, by rw [ef a ha]; exact h1, by rw [eg a ha]; exact h2⟩
  uniq := fun a a' h1 h2 e1 e2 => by
    rw [ef a h1, ef a' h2] at e1
    rw [eg a h1, eg a' h2] at e2
    exact p.uniq a a' h1 h2 e1 e2

/-- The outer square of two pushouts is a pushout. -/
theorem po_paste {nA nB nC nD nE nF : Nat} {f g h k f2 h2 k2 : Nat → Nat} (p : PO nA nB nC nD f g h k) (q : PO nB nE nD nF f2 h h2 k2)
    (mf : Maps nA nB f) (mg : Maps nA nC g) (mh : Maps nB nD h) (mk : Maps nC nD k) (mf2 : Maps nB nE f2) :
    PO nA nE nC nF (fun a => f2 (f a)) g h2 (fun c => k2 (k c)) where
  comm := fun a ha => by
    show h2 (f2 (f a)) = k2 (k (g a))
    rw [q.comm (f a) (mf a ha), p.comm a ha]
  cover := fun d hd => by
    rcases q.cover d hd with ⟨b, hb, e⟩ | ⟨c, hc, e⟩
    · exact .inl ⟨b, hb, e⟩
    · rcases p.cover c hc with ⟨b, hb, e'⟩ | ⟨c', hc', e'⟩
      · refine .inl ⟨f2 b, ?_, ?_⟩
        · exact mf2 b hb
        · rw [q.comm b hb, e', e]
      · exact .inr ⟨c', hc', by show k2 (k c') = d; rw [e', e]⟩
  univ := fun φ ψ hc => by
    obtain ⟨u, h1, h2⟩ := p.univ (fun b => φ (f2 b)) ψ hc
    obtain ⟨v, h3, h4⟩ := q.univ φ u (fun b hb => (h1 b hb).symm)
    exact ⟨v, h3, fun c hc => by rw [h4 (k c) (mk c hc)]; exact h2 c hc⟩

/-- If the outer square and the first one are pushouts, so is the second one. -/
theorem po_second {nA nB nC nD nE nF : Nat} {f g h k f2 h2 k2 : Nat → Nat} (p : PO nA nB nC nD f g h k)
    (o : PO nA nE nC nF (fun a => f2 (f a)) g h2 (fun c => k2 (k c)))
    (cm : ∀ b, b < nB → h2 (f2 b) = k2 (h b)) (mf : Maps nA nB f) (mg : Maps nA nC g) (mk : Maps nC nD k) (mf2 : Maps nB nE f2) : PO nB nE nD nF f2 h h2 k2 where
  comm := cm
  cover := fun d hd => by
    rcases o.cover d hd with ⟨b, hb, e⟩ | ⟨c, hc, e⟩
    · exact .inl ⟨b, hb, e⟩
    · exact .inr ⟨k c, mk c hc, e⟩
  univ := fun φ u hc => by
    obtain ⟨v, h3, h4⟩ := o.univ φ (fun c => u (k c)) (fun a ha => by
      show φ (f2 (f a)) = u (k (g a))
      rw [hc (f a) (mf a ha), p.comm a ha])
    refine ⟨v, h3, fun d hd => ?_⟩
    rcases p.cover d hd with ⟨b, hb, e⟩ | ⟨c, hc', e⟩
    · rw [← e, ← cm b hb, h3 _ (mf2 b hb), hc b hb]
    · rw [← e]; exact h4 c hc'

open Classical in
/-- A pushout that is pulled back along m is a pushout. -/
theorem po_lift {nA nB nC nD nX nA' nB' nC' : Nat} {f g h k m pa xa pb xb pc xc f' g' : Nat → Nat} (p : PO nA nB nC nD f g h k)
    (mf : Maps nA nB f) (mg : Maps nA nC g) (mm : Maps nX nD m)
    (B : PB nB' nB nX pb xb h m) (C : PB nC' nC nX pc xc k m) (A : PB nA' nA nX pa xa (fun a => h (f a)) m)
    (mpb : Maps nB' nB pb) (mxb : Maps nB' nX xb) (mpc : Maps nC' nC pc) (mxc : Maps nC' nX xc) (mpa : Maps nA' nA pa)
    (mf' : Maps nA' nB' f') (mg' : Maps nA' nC' g')
    (ef : ∀ a, a < nA' → pb (f' a) = f (pa a)) (ef2 : ∀ a, a < nA' → xb (f' a) = xa a)
    (eg : ∀ a, a < nA' → pc (g' a) = g (pa a)) (eg2 : ∀ a, a < nA' → xc (g' a) = xa a) : PO nA' nB' nC' nX f' g' xb xc where
  comm := fun a ha => by rw [ef2 a ha, eg2 a ha]
  cover := fun x hx => by
    rcases p.cover (m x) (mm x hx) with ⟨b, hb, e⟩ | ⟨c, hc, e⟩
    · obtain ⟨b', h1, _, h3⟩ := B.ex b x hb hx e
      exact .inl ⟨b', h1, h3⟩
    · obtain ⟨c', h1, _, h3⟩ := C.ex c x hc hx e
      exact .inr ⟨c', h1, h3⟩
  univ := fun φ ψ hc => by
    let φx : Nat → Nat → Nat := fun x b => if e : ∃ b', b' < nB' ∧ pb b' = b ∧ xb b' = x then φ e.choose + 1 else 0
    let ψx : Nat → Nat → Nat := fun x c => if e : ∃ c', c' < nC' ∧ pc c' = c ∧ xc c' = x then ψ e.choose + 1 else 0
    have hφ : ∀ b', b' < nB' → φx (xb b') (pb b') = φ b' + 1 := fun b' hb' => by
      have e : ∃ b'', b'' < nB' ∧ pb b'' = pb b' ∧ xb b'' = xb b' := ⟨b', hb', rfl, rfl⟩
      have := e.choose_spec
      show (if e : ∃ b'', b'' < nB' ∧ pb b'' = pb b' ∧ xb b'' = xb b' then φ e.choose + 1 else 0) = _
      rw [dif_pos e, B.uniq _ _ this.1 hb' this.2.1 this.2.2]
    have hψ : ∀ c', c' < nC' → ψx (xc c') (pc c') = ψ c' + 1 := fun c' hc' => by
      have e : ∃ c'', c'' < nC' ∧ pc c'' = pc c' ∧ xc c'' = xc c' := ⟨c', hc', rfl, rfl⟩
      have := e.choose_spec
      show (if e : ∃ c'', c'' < nC' ∧ pc c'' = pc c' ∧ xc c'' = xc c' then ψ e.choose + 1 else 0) = _
      rw [dif_pos e, C.uniq _ _ this.1 hc' this.2.1 this.2.2]
    have cone : ∀ x, x < nX → ∃ u : Nat → Nat, (∀ b, b < nB → u (h b) = φx x b) ∧ (∀ c, c < nC → u (k c) = ψx x c) := fun x hx => by
      refine p.univ _ _ fun a ha => ?_
      by_cases e : h (f a) = m x
      · obtain ⟨a', h1, h2, h3⟩ := A.ex a x ha hx e
        have e1 := hφ (f' a') (mf' a' h1)
        have e2 := hψ (g' a') (mg' a' h1)
        rw [ef a' h1, ef2 a' h1, h2, h3] at e1
        rw [eg a' h1, eg2 a' h1, h2, h3] at e2
        rw [e1, e2, hc a' h1]
      · have n1 : ¬ ∃ b', b' < nB' ∧ pb b' = f a ∧ xb b' = x := by
          rintro ⟨b', h1, h2, h3⟩
          have := B.comm b' h1
          rw [h2, h3] at this
          exact e this
        have n2 : ¬ ∃ c', c' < nC' ∧ pc c' = g a ∧ xc c' = x := by
          rintro ⟨c', h1, h2, h3⟩
          have := C.comm c' h1
          rw [h2, h3, ← p.comm a ha] at this
          exact e this
        show (if e : ∃ b', b' < nB' ∧ pb b' = f a ∧ xb b' = x then φ e.choose + 1 else 0) = (if e : ∃ c', c' < nC' ∧ pc c' = g a ∧ xc c' = x then ψ e.choose + 1 else 0)
        rw [dif_neg n1, dif_neg n2]
    refine ⟨fun x => if e : x < nX then (cone x e).choose (m x) - 1 else 0, fun b hb => ?_, fun c hc => ?_⟩
    · have hx := mxb b hb
      have := (cone _ hx).choose_spec.1 (pb b) (mpb b hb)
      show (if e : xb b < nX then (cone (xb b) e).choose (m (xb b)) - 1 else 0) = φ b
      rw [dif_pos hx, ← B.comm b hb, this, hφ b hb]
      rfl
    · have hx := mxc c hc
      have := (cone _ hx).choose_spec.2 (pc c) (mpc c hc)
      show (if e : xc c < nX then (cone (xc c) e).choose (m (xc c)) - 1 else 0) = ψ c
      rw [dif_pos hx, ← C.comm c hc, this, hψ c hc]
      rfl

open Classical in
/-- A pushout along an injective map is a pullback. -/
theorem po_inj {nA nB nC nD : Nat} {f g h k : Nat → Nat} (p : PO nA nB nC nD f g h k) (mf : Maps nA nB f)
    (inj : ∀ a a', a < nA → a' < nA → f a = f a' → a = a') : PB nA nB nC f g h k where
  comm := p.comm
  uniq := fun a a' h1 h2 e _ => inj a a' h1 h2 e
  ex := fun b c hb hc e => by
    obtain ⟨u, h1, h2⟩ := p.univ (fun b => if e : ∃ a, a < nA ∧ f a = b then g e.choose + 1 else 0) (fun c => c + 1) (fun a ha => by
      have e : ∃ a', a' < nA ∧ f a' = f a := ⟨a, ha, rfl⟩
      show (if e : ∃ a', a' < nA ∧ f a' = f a then g e.choose + 1 else 0) = g a + 1
      rw [dif_pos e, inj _ _ e.choose_spec.1 ha e.choose_spec.2])
    have e1 := h1 b hb
    rw [e, h2 c hc] at e1
    by_cases ex : ∃ a, a < nA ∧ f a = b
    · have e2 : c + 1 = g ex.choose + 1 := by rw [dif_pos ex] at e1; exact e1
      exact ⟨ex.choose, ex.choose_spec.1, ex.choose_spec.2, by omega⟩
    · rw [dif_neg ex] at e1
      omega

open Classical in
/-- Two parts that cover a set: what is kept (F) of L lies in the part (K) of G, and nothing else of L does. -/
theorem po_parts {nF nL nK nG : Nat} {f g m k : Nat → Nat} (cm : ∀ a, a < nF → m (f a) = k (g a))
    (ink : ∀ c c', c < nK → c' < nK → k c = k c' → c = c')
    (cover : ∀ d, d < nG → (∃ b, b < nL ∧ m b = d) ∨ (∃ c, c < nK ∧ k c = d))
    (both : ∀ b c, b < nL → c < nK → m b = k c → ∃ a, a < nF ∧ f a = b ∧ g a = c)
    (one : ∀ b b', b < nL → b' < nL → m b = m b' → b = b' ∨ ∃ c, c < nK ∧ k c = m b) : PO nF nL nK nG f g m k where
  comm := cm
  cover := cover
  univ := fun φ ψ hc => by
    let u : Nat → Nat := fun y => if e : ∃ c, c < nK ∧ k c = y then ψ e.choose else if e : ∃ b, b < nL ∧ m b = y then φ e.choose else 0
    have hk : ∀ c, c < nK → u (k c) = ψ c := fun c hc => by
      have e : ∃ c', c' < nK ∧ k c' = k c := ⟨c, hc, rfl⟩
      show (if e : ∃ c', c' < nK ∧ k c' = k c then ψ e.choose else if e : ∃ b, b < nL ∧ m b = k c then φ e.choose else 0) = ψ c
      rw [dif_pos e, ink _ _ e.choose_spec.1 hc e.choose_spec.2]
    refine ⟨u, fun b hb => ?_, hk⟩
    by_cases e : ∃ c, c < nK ∧ k c = m b
    · obtain ⟨c, h1, h2⟩ := e
      obtain ⟨a, h3, h4, h5⟩ := both b c hb h1 h2.symm
      rw [← h2, hk c h1, ← h5, ← hc a h3, h4]
    · have e2 : ∃ b', b' < nL ∧ m b' = m b := ⟨b, hb, rfl⟩
      show (if e : ∃ c', c' < nK ∧ k c' = m b then ψ e.choose else if e : ∃ b', b' < nL ∧ m b' = m b then φ e.choose else 0) = φ b
      rw [dif_neg e, dif_pos e2]
      rcases one _ _ e2.choose_spec.1 hb e2.choose_spec.2 with h | h
      · rw [h]
      · rw [e2.choose_spec.2] at h
        exact absurd h e

theorem pb_parts {nF nL nK : Nat} {f g m k : Nat → Nat} (cm : ∀ a, a < nF → m (f a) = k (g a))
    (inf : ∀ a a', a < nF → a' < nF → f a = f a' → a = a')
    (both : ∀ b c, b < nL → c < nK → m b = k c → ∃ a, a < nF ∧ f a = b ∧ g a = c) : PB nF nL nK f g m k where
  comm := cm
  ex := both
  uniq := fun a a' h1 h2 e _ => inf a a' h1 h2 e

/-- What mediates from a pushout (E) to a pushout (D) is one to one and onto. -/
theorem po_iso {nA nB nC nD nE : Nat} {f g h k p q m : Nat → Nat} (D : PO nA nB nC nD f g h k) (E : PO nA nB nC nE f g p q)
    (mp : Maps nB nE p) (mq : Maps nC nE q) (hm : ∀ b, b < nB → m (p b) = h b) (km : ∀ c, c < nC → m (q c) = k c) :
    (∀ e e', e < nE → e' < nE → m e = m e' → e = e') ∧ (∀ d, d < nD → ∃ e, e < nE ∧ m e = d) := by
  obtain ⟨u, h1, h2⟩ := D.univ p q E.comm
  have hu : ∀ e, e < nE → u (m e) = e := fun e he => by
    rcases E.cover e he with ⟨b, hb, rfl⟩ | ⟨c, hc, rfl⟩
    · rw [hm b hb, h1 b hb]
    · rw [km c hc, h2 c hc]
  refine ⟨fun e e' he he' eq => ?_, fun d hd => ?_⟩
  · rw [← hu e he, ← hu e' he', eq]
  · rcases D.cover d hd with ⟨b, hb, e⟩ | ⟨c, hc, e⟩
    · exact ⟨p b, mp b hb, by rw [hm b hb, e]⟩
    · exact ⟨q c, mq c hc, by rw [km c hc, e]⟩

open Classical in
/-- What a pushout (E) is taken to, one to one and onto, is a pushout. -/
theorem po_of_iso {nA nB nC nD nE : Nat} {f g h k p q m : Nat → Nat} (E : PO nA nB nC nE f g p q)
    (mp : Maps nB nE p) (mq : Maps nC nE q) (hm : ∀ b, b < nB → m (p b) = h b) (km : ∀ c, c < nC → m (q c) = k c)
    (mf : Maps nA nB f) (mg : Maps nA nC g)
    (inj : ∀ e e', e < nE → e' < nE → m e = m e' → e = e') (sur : ∀ d, d < nD → ∃ e, e < nE ∧ m e = d) : PO nA nB nC nD f g h k where
  comm := fun a ha => by rw [← hm _ (mf a ha), ← km _ (mg a ha), E.comm a ha]
  cover := fun d hd => by
    obtain ⟨e, he, rfl⟩ := sur d hd
    rcases E.cover e he with ⟨b, hb, rfl⟩ | ⟨c, hc, rfl⟩
    · exact .inl ⟨b, hb, (hm b hb).symm⟩
    · exact .inr ⟨c, hc, (km c hc).symm⟩
  univ := fun φ ψ hc => by
    obtain ⟨v, h1, h2⟩ := E.univ φ ψ hc
    have inv : ∀ e, e < nE → ∀ x : ∃ e', e' < nE ∧ m e' = m e, x.choose = e := fun e he x => inj _ _ x.choose_spec.1 he x.choose_spec.2
    refine ⟨fun d => if x : ∃ e, e < nE ∧ m e = d then v x.choose else 0, fun b hb => ?_, fun c hc => ?_⟩
    · have x : ∃ e, e < nE ∧ m e = m (p b) := ⟨_, mp b hb, rfl⟩
      rw [← hm b hb]
      show (if x : ∃ e, e < nE ∧ m e = m (p b) then v x.choose else 0) = φ b
      rw [dif_pos x, inv _ (mp b hb) x, h1 b hb]
    · have x : ∃ e, e < nE ∧ m e = m (q c) := ⟨_, mq c hc, rfl⟩
      rw [← km c hc]
      show (if x : ∃ e, e < nE ∧ m e = m (q c) then v x.choose else 0) = ψ c
      rw [dif_pos x, inv _ (mq c hc) x, h2 c hc]

/-- A cone is a pullback exactly if what mediates to a pullback (E) is one to one and onto. -/
theorem pb_iso {nA nB nC nE : Nat} {f g h k p q m : Nat → Nat} (A : PB nA nB nC f g h k) (E : PB nE nB nC p q h k)
    (mp : Maps nE nB p) (mq : Maps nE nC q) (mm : Maps nA nE m) (fm : ∀ a, a < nA → p (m a) = f a) (gm : ∀ a, a < nA → q (m a) = g a) :
    (∀ a a', a < nA → a' < nA → m a = m a' → a = a') ∧ (∀ e, e < nE → ∃ a, a < nA ∧ m a = e) := by
  refine ⟨fun a a' ha ha' e => A.uniq a a' ha ha' (by rw [← fm a ha, ← fm a' ha', e]) (by rw [← gm a ha, ← gm a' ha', e]), fun e he => ?_⟩
  obtain ⟨a, h1, h2, h3⟩ := A.ex (p e) (q e) (mp e he) (mq e he) (E.comm e he)
  exact ⟨a, h1, E.uniq _ _ (mm a h1) he (by rw [fm a h1, h2]) (by rw [gm a h1, h3])⟩

theorem pb_of_iso {nA nB nC nE : Nat} {f g h k p q m : Nat → Nat} (E : PB nE nB nC p q h k)
    (mm : Maps nA nE m) (fm : ∀ a, a < nA → p (m a) = f a) (gm : ∀ a, a < nA → q (m a) = g a)
    (inj : ∀ a a', a < nA → a' < nA → m a = m a' → a = a') (sur : ∀ e, e < nE → ∃ a, a < nA ∧ m a = e) : PB nA nB nC f g h k where
  comm := fun a ha => by rw [← fm a ha, ← gm a ha, E.comm _ (mm a ha)]
  ex := fun b c hb hc e => by
    obtain ⟨x, h1, h2, h3⟩ := E.ex b c hb hc e
    obtain ⟨a, ha, rfl⟩ := sur x h1
    exact ⟨a, ha, by rw [← fm a ha, h2], by rw [← gm a ha, h3]⟩
  uniq := fun a a' ha ha' e1 e2 => inj a a' ha ha' (E.uniq _ _ (mm a ha) (mm a' ha') (by rw [fm a ha, fm a' ha', e1]) (by rw [gm a ha, gm a' ha', e2]))
end Go.Proofs.YthcnpnogfblkcaaGreat.Po

/- The standard pushout is a pushout; what mediates out of it. No program in sight. -/
namespace Go.Proofs.YthcnpnogfblkcaaGreat
open Abs Po
set_option linter.unusedSimpArgs false
set_option linter.unusedVariables false

/-- A list of numbers as a function. -/
def fn (l : List Int) (i : Nat) : Nat := (nth l i).toNat
theorem fn_at {l : List Int} {n i : Nat} (h : placesIn l n) (hi : i < l.length) : nth l i = (fn l i : Nat) ∧ fn l i < n := by
  have := h _ (nth_mem hi)
  simp only [fn]
  omega
theorem fn_maps {l : List Int} {n m : Nat} (h : placesIn l n) (hl : l.length = m) : Maps m n (fn l) := fun i hi => (fn_at h (by omega)).2
theorem fn_thru {a b : List Int} {i : Nat} (h : i < a.length) : fn (thru a b) i = fn b (fn a i) := by simp only [fn, thru_nth h]
theorem fn_num {a n i : Nat} (h : i < n) : fn (numL a n) i = a + i := by simp only [fn, numL_nth h, Int.toNat_natCast]

theorem cls_surj {p : List Int} : ∀ {n d : Nat}, d < clsN p n → ∃ r : Nat, r < n ∧ nth p r = r ∧ clsN p r = d
  | 0, d, h => absurd h (by simp [clsN])
  | n + 1, d, h => by
    simp only [clsN] at h
    by_cases e : nth p n = n
    · rw [if_pos e] at h
      by_cases e2 : d < clsN p n
      · obtain ⟨r, h1, h2, h3⟩ := cls_surj e2
        exact ⟨r, by omega, h2, h3⟩
      · exact ⟨n, by omega, e, by omega⟩
    · rw [if_neg e] at h
      obtain ⟨r, h1, h2, h3⟩ := cls_surj h
      exact ⟨r, by omega, h2, h3⟩
theorem cls_inj {p : List Int} {a b : Nat} (ha : nth p a = a) (hb : nth p b = b) (h : clsN p a = clsN p b) : a = b := by
  rcases Nat.lt_trichotomy a b with e | e | e
  · have := clsN_lt ha e
    omega
  · exact e
  · have := clsN_lt hb e
    omega
/-- The root of an element's class. -/
theorem root_of {p : List Int} {n i : Nat} (hp : Flat p) (hn : p.length = n) (hi : i < n) : ∃ r : Nat, nth p i = r ∧ r < n ∧ nth p r = r := by
  obtain ⟨j, hj, hle⟩ := hp.fo.at (i := i) (by omega)
  have := hp.fx i (by omega)
  rw [hj, Int.toNat_natCast] at this
  exact ⟨j, hj, by omega, this⟩

section lists
variable {nA nB nC : Nat} {F G : List Int}
def glL (nA nB nC : Nat) (F G : List Int) : List (Int × Int) := pgK F G (numL 0 nB) (numL nB nC) nA
theorem glL_in (lF : F.length = nA) (lG : G.length = nA) (pF : placesIn F nB) (pG : placesIn G nC) : pairsIn (glL nA nB nC F G) (nB + nC) := fun q hq => by
  simp only [glL, pgK, List.mem_map, List.mem_range] at hq
  obtain ⟨i, hi, rfl⟩ := hq
  obtain ⟨a1, a2⟩ := fn_at pF (show i < F.length by omega)
  obtain ⟨b1, b2⟩ := fn_at pG (show i < G.length by omega)
  simp only [a1, b1, Int.toNat_natCast]
  rw [numL_nth a2, numL_nth b2]
  omega
theorem glL_at (lF : F.length = nA) (lG : G.length = nA) (pF : placesIn F nB) (pG : placesIn G nC) {i : Nat} (hi : i < nA) : (((fn F i : Nat) : Int), ((nB + fn G i : Nat) : Int)) ∈ glL nA nB nC F G := by
  simp only [glL, pgK, List.mem_map, List.mem_range]
  obtain ⟨a1, a2⟩ := fn_at pF (show i < F.length by omega)
  obtain ⟨b1, b2⟩ := fn_at pG (show i < G.length by omega)
  refine ⟨i, hi, ?_⟩
  simp only [a1, b1, Int.toNat_natCast]
  rw [numL_nth a2, numL_nth b2]
  simp
theorem glL_mem (lF : F.length = nA) (lG : G.length = nA) (pF : placesIn F nB) (pG : placesIn G nC) {q : Int × Int} (hq : q ∈ glL nA nB nC F G) : ∃ i, i < nA ∧ q = (((fn F i : Nat) : Int), ((nB + fn G i : Nat) : Int)) := by
  simp only [glL, pgK, List.mem_map, List.mem_range] at hq
  obtain ⟨i, hi, rfl⟩ := hq
  obtain ⟨a1, a2⟩ := fn_at pF (show i < F.length by omega)
  obtain ⟨b1, b2⟩ := fn_at pG (show i < G.length by omega)
  refine ⟨i, hi, ?_⟩
  simp only [a1, b1, Int.toNat_natCast]
  rw [numL_nth a2, numL_nth b2]
  simp
def prt (nA nB nC : Nat) (F G : List Int) : List Int := genL (nB + nC) (glL nA nB nC F G)
def qL (nA nB nC : Nat) (F G : List Int) : List Int := thru (numL 0 nB) (quotL (prt nA nB nC F G))
def qR (nA nB nC : Nat) (F G : List Int) : List Int := thru (numL nB nC) (quotL (prt nA nB nC F G))
theorem prt_len : (prt nA nB nC F G).length = nB + nC := genL_len
theorem qL_at {b : Nat} (hb : b < nB) : fn (qL nA nB nC F G) b = clsN (prt nA nB nC F G) (nth (prt nA nB nC F G) b).toNat := by
  rw [qL, fn_thru (by rw [numL_len]; exact hb), fn_num hb, Nat.zero_add, fn, quotL_nth (by rw [prt_len]; omega), Int.toNat_natCast]
theorem qR_at {c : Nat} (hc : c < nC) : fn (qR nA nB nC F G) c = clsN (prt nA nB nC F G) (nth (prt nA nB nC F G) (nB + c)).toNat := by
  rw [qR, fn_thru (by rw [numL_len]; exact hc), fn_num hc, fn, quotL_nth (by rw [prt_len]; omega), Int.toNat_natCast]

open Classical in
/-- The standard pushout of lists of numbers is one. -/
theorem po_lists (lF : F.length = nA) (lG : G.length = nA) (pF : placesIn F nB) (pG : placesIn G nC) :
    PO nA nB nC (clsN (prt nA nB nC F G) (nB + nC)) (fn F) (fn G) (fn (qL nA nB nC F G)) (fn (qR nA nB nC F G)) := by
  have hin := glL_in lF lG pF pG
  have hp : Flat (prt nA nB nC F G) := genL_flat hin
  refine ⟨fun a ha => ?_, fun d hd => ?_, fun φ ψ hc => ?_⟩
  · obtain ⟨_, a2⟩ := fn_at pF (show a < F.length by omega)
    obtain ⟨_, b2⟩ := fn_at pG (show a < G.length by omega)
    rw [qL_at a2, qR_at b2]
    have := genL_pair hin (glL_at lF lG pF pG ha)
    simp only [Int.toNat_natCast] at this
    rw [← prt] at this
    rw [this]
  · obtain ⟨r, h1, h2, h3⟩ := cls_surj hd
    by_cases hb : r < nB
    · exact .inl ⟨r, hb, by rw [qL_at hb, h2, Int.toNat_natCast, h3]⟩
    · refine .inr ⟨r - nB, by omega, ?_⟩
      rw [qR_at (by omega), show nB + (r - nB) = r by omega, h2, Int.toNat_natCast, h3]
  · let f : Nat → Nat := fun i => if i < nB then φ i else ψ (i - nB)
    have hf : ∀ i, i < nB + nC → f (nth (prt nA nB nC F G) i).toNat = f i := fun i hi => genL_inv hin (fun q hq => by
      obtain ⟨j, hj, rfl⟩ := glL_mem lF lG pF pG hq
      obtain ⟨_, a2⟩ := fn_at pF (show j < F.length by omega)
      simp only [Int.toNat_natCast, f]
      rw [if_pos a2, if_neg (by omega), show nB + fn G j - nB = fn G j by omega]
      exact hc j hj) hi
    let u : Nat → Nat := fun d => if e : ∃ r : Nat, nth (prt nA nB nC F G) r = r ∧ clsN (prt nA nB nC F G) r = d then f e.choose else 0
    have hu : ∀ i, i < nB + nC → u (clsN (prt nA nB nC F G) (nth (prt nA nB nC F G) i).toNat) = f i := fun i hi => by
      obtain ⟨r, h1, h2, h3⟩ := root_of hp prt_len hi
      have e : ∃ r' : Nat, nth (prt nA nB nC F G) r' = r' ∧ clsN (prt nA nB nC F G) r' = clsN (prt nA nB nC F G) r := ⟨r, h3, rfl⟩
      have h4 := hf i hi
      rw [h1, Int.toNat_natCast] at h4
      rw [h1, Int.toNat_natCast]
      show (if e : ∃ r' : Nat, nth (prt nA nB nC F G) r' = r' ∧ clsN (prt nA nB nC F G) r' = clsN (prt nA nB nC F G) r then f e.choose else 0) = f i
      rw [dif_pos e, cls_inj e.choose_spec.1 h3 e.choose_spec.2, h4]
    refine ⟨u, fun b hb => ?_, fun c hc' => ?_⟩
    · rw [qL_at hb, hu b (by omega)]
      exact if_pos hb
    · rw [qR_at hc', hu (nB + c) (by omega)]
      simp only [f]
      rw [if_neg (by omega), show nB + c - nB = c by omega]
end lists

/-! ### Writing a list at some places -/
theorem wr_fold {u : Nat → Int} {n : Nat} : ∀ {ws : List (Int × Int)} {o : List Int}, o.length = n → (∀ w ∈ ws, 0 ≤ w.1 ∧ w.1 < n ∧ w.2 = u w.1.toNat) →
    ∀ j, nth (ws.foldl (fun o w => o.set w.1.toNat w.2) o) j = if ∃ w ∈ ws, w.1.toNat = j then u j else nth o j
  | [], o, ho, _, j => by simp
  | w :: r, o, ho, h, j => by
    rw [List.foldl_cons, wr_fold (n := n) (by rw [List.length_set]; exact ho) (fun x hx => h x (List.mem_cons_of_mem _ hx)) j]
    obtain ⟨h1, h2, h3⟩ := h w (List.mem_cons_self ..)
    by_cases e : ∃ x ∈ r, x.1.toNat = j
    · obtain ⟨x, hx, hj⟩ := e
      rw [if_pos ⟨x, hx, hj⟩, if_pos ⟨x, List.mem_cons_of_mem _ hx, hj⟩]
    · rw [if_neg e, nth_set (by omega)]
      by_cases ej : j = w.1.toNat
      · rw [if_pos ej, if_pos ⟨w, List.mem_cons_self .., ej.symm⟩, h3, ej]
      · rw [if_neg ej, if_neg]
        rintro ⟨x, hx, hj⟩
        rcases List.mem_cons.1 hx with rfl | hx
        · exact ej hj.symm
        · exact e ⟨x, hx, hj⟩
theorem wrL_at {u : Nat → Int} {n : Nat} {ws : List (Int × Int)} (h : ∀ w ∈ ws, 0 ≤ w.1 ∧ w.1 < n ∧ w.2 = u w.1.toNat) {w : Int × Int} (hw : w ∈ ws) : nth (wrL n ws) w.1.toNat = w.2 := by
  rw [wrL, wr_fold (n := n) (by simp) h, if_pos ⟨w, hw, rfl⟩, (h w hw).2.2]
end Go.Proofs.YthcnpnogfblkcaaGreat

/- The standard pushout of graphs: its morphisms; what mediates out of it; when a cocone is a pushout. No program in sight. -/
namespace Go.Proofs.YthcnpnogfblkcaaGreat
open Abs Po
set_option linter.unusedSimpArgs false
set_option linter.unusedVariables false

/-! ### Errors that there are not -/
theorem gErr_of {g : Gr} (h : GrOk g) : gErr g = 0 := by
  have h1 := h.n
  have h2 := h.e
  have b1 : nBad g.nodes = false := by
    rw [nBad, List.any_eq_false]
    intro x hx
    have := h.kinds x hx
    simp [within]
    omega
  have b2 : eBad g.nodes.length g.edges = false := by
    rw [eBad, List.any_eq_false]
    intro e he
    have := h.edges e he
    simp [eOk, within]
    omega
  rw [gErr, if_neg (by omega), b1, b2]
  rfl
theorem mor_zero {a b : Gr} {m : Pa} (h : MorOk a b m) : morErr a b m = 0 := by
  have l1 := h.ln
  have l2 := h.le
  rw [morErr, if_pos (gErr_of h.ga), if_pos (gErr_of h.gb), if_pos (by omega)]
  have e1 : fe (mnF a b m) m.nodes.length = 0 := fe_zero fun i hi => by
    obtain ⟨a1, a2, a3⟩ := h.n i (by omega)
    rw [mnF, if_neg (by omega), if_neg (by omega), if_pos a3]
  have e2 : fe (meF a b m) m.edges.length = 0 := fe_zero fun i hi => by
    obtain ⟨a1, a2, a3, a4, a5⟩ := h.e i (by omega)
    rw [meF, if_neg (by omega), if_neg (by omega), if_pos a3, if_pos a4, if_pos a5]
  rw [if_pos e1, e2]
theorem mor_iff {a b : Gr} {m : Pa} : morErr a b m = 0 ↔ MorOk a b m := ⟨mor_ok, mor_zero⟩

/-- A morphism in functions. -/
structure Hom (a b : Gr) (m : Pa) : Prop where
  ln : m.nodes.length = a.nodes.length
  le : m.edges.length = a.edges.length
  pn : placesIn m.nodes b.nodes.length
  pe : placesIn m.edges b.edges.length
  kn : ∀ i, i < a.nodes.length → nth b.nodes (fn m.nodes i) = nth a.nodes i
  ke : ∀ i, i < a.edges.length → (eth b.edges (fn m.edges i)).t = (eth a.edges i).t ∧ (eth b.edges (fn m.edges i)).f = nth m.nodes (eth a.edges i).f.toNat ∧ (eth b.edges (fn m.edges i)).g = nth m.nodes (eth a.edges i).g.toNat
theorem MorOk.hom {a b : Gr} {m : Pa} (h : MorOk a b m) : Hom a b m := by
  refine ⟨h.ln, h.le, h.rn, h.re, fun i hi => (h.n i hi).2.2, fun i hi => ?_⟩
  obtain ⟨_, _, e1, e2, e3⟩ := h.e i hi
  exact ⟨e1.symm, e2.symm, e3.symm⟩
theorem Hom.ok {a b : Gr} {m : Pa} (h : Hom a b m) (ga : GrOk a) (gb : GrOk b) : MorOk a b m := by
  refine ⟨ga, gb, h.ln, h.le, fun i hi => ?_, fun i hi => ?_⟩
  · have := h.pn _ (nth_mem (l := m.nodes) (k := i) (by rw [h.ln]; exact hi))
    exact ⟨this.1, this.2, h.kn i hi⟩
  · have := h.pe _ (nth_mem (l := m.edges) (k := i) (by rw [h.le]; exact hi))
    obtain ⟨e1, e2, e3⟩ := h.ke i hi
    exact ⟨this.1, this.2, e1.symm, e2.symm, e3.symm⟩
theorem Hom.mn {a b : Gr} {m : Pa} (h : Hom a b m) : Maps a.nodes.length b.nodes.length (fn m.nodes) := fn_maps h.pn h.ln
theorem Hom.me {a b : Gr} {m : Pa} (h : Hom a b m) : Maps a.edges.length b.edges.length (fn m.edges) := fn_maps h.pe h.le

/-- The two squares of functions of a span with a cocone are pushouts. -/
def IsPO (s : Sp) (d : Gr) (h k : Pa) : Prop :=
  PO s.A.nodes.length s.B.nodes.length s.C.nodes.length d.nodes.length (fn s.F.nodes) (fn s.G.nodes) (fn h.nodes) (fn k.nodes) ∧
  PO s.A.edges.length s.B.edges.length s.C.edges.length d.edges.length (fn s.F.edges) (fn s.G.edges) (fn h.edges) (fn k.edges)

theorem poP_prt {s : Sp} : poP s = prt s.F.nodes.length s.B.nodes.length s.C.nodes.length s.F.nodes s.G.nodes := by rw [poP, poU, unG_nlen]; rfl
theorem poQ_prt {s : Sp} : poQ s = prt s.F.edges.length s.B.edges.length s.C.edges.length s.F.edges s.G.edges := by rw [poQ, poU, unG_elen]; rfl
theorem poI_q {s : Sp} : (poI s).nodes = qL s.F.nodes.length s.B.nodes.length s.C.nodes.length s.F.nodes s.G.nodes ∧ (poI s).edges = qL s.F.edges.length s.B.edges.length s.C.edges.length s.F.edges s.G.edges := by
  rw [qL, qL, ← poP_prt, ← poQ_prt]; exact ⟨rfl, rfl⟩
theorem poJ_q {s : Sp} : (poJ s).nodes = qR s.F.nodes.length s.B.nodes.length s.C.nodes.length s.F.nodes s.G.nodes ∧ (poJ s).edges = qR s.F.edges.length s.B.edges.length s.C.edges.length s.F.edges s.G.edges := by
  rw [qR, qR, ← poP_prt, ← poQ_prt]; exact ⟨rfl, rfl⟩
theorem poG_len {s : Sp} : (poG s).nodes.length = clsN (poP s) (s.B.nodes.length + s.C.nodes.length) ∧ (poG s).edges.length = clsN (poQ s) (s.B.edges.length + s.C.edges.length) := by
  rw [poG, quoG_nlen, quoG_elen, poU, unG_nlen, unG_elen]; exact ⟨rfl, rfl⟩
/-- The standard pushout is one. -/
theorem po_std {s : Sp} (ok : SpOk s) : IsPO s (poG s) (poI s) (poJ s) := by
  have l1 := ok.F.ln
  have l2 := ok.F.le
  refine ⟨?_, ?_⟩
  · rw [poI_q.1, poJ_q.1, poG_len.1, poP_prt, ← l1]
    exact po_lists rfl (by rw [ok.G.ln, l1]) ok.F.rn ok.G.rn
  · rw [poI_q.2, poJ_q.2, poG_len.2, poQ_prt, ← l2]
    exact po_lists rfl (by rw [ok.G.le, l2]) ok.F.re ok.G.re

theorem poI_nat {s : Sp} {b : Nat} (hb : b < s.B.nodes.length) : nth (poI s).nodes b = (clsN (poP s) (nth (poP s) b).toNat : Nat) := by
  show nth (thru (numL 0 s.B.nodes.length) (quotL (poP s))) b = _
  rw [thru_nth (by rw [numL_len]; exact hb), numL_nth hb, Int.toNat_natCast, Nat.zero_add, quotL_nth (by rw [poP_len]; omega)]
theorem poJ_nat {s : Sp} {c : Nat} (hc : c < s.C.nodes.length) : nth (poJ s).nodes c = (clsN (poP s) (nth (poP s) (s.B.nodes.length + c)).toNat : Nat) := by
  show nth (thru (numL s.B.nodes.length s.C.nodes.length) (quotL (poP s))) c = _
  rw [thru_nth (by rw [numL_len]; exact hc), numL_nth hc, Int.toNat_natCast, quotL_nth (by rw [poP_len]; omega)]
theorem poI_eat {s : Sp} {b : Nat} (hb : b < s.B.edges.length) : nth (poI s).edges b = (clsN (poQ s) (nth (poQ s) b).toNat : Nat) := by
  show nth (thru (numL 0 s.B.edges.length) (quotL (poQ s))) b = _
  rw [thru_nth (by rw [numL_len]; exact hb), numL_nth hb, Int.toNat_natCast, Nat.zero_add, quotL_nth (by rw [poQ_len]; omega)]
theorem poJ_eat {s : Sp} {c : Nat} (hc : c < s.C.edges.length) : nth (poJ s).edges c = (clsN (poQ s) (nth (poQ s) (s.B.edges.length + c)).toNat : Nat) := by
  show nth (thru (numL s.B.edges.length s.C.edges.length) (quotL (poQ s))) c = _
  rw [thru_nth (by rw [numL_len]; exact hc), numL_nth hc, Int.toNat_natCast, quotL_nth (by rw [poQ_len]; omega)]

theorem poG_node {s : Sp} (ok : SpOk s) {i : Nat} (hi : i < s.B.nodes.length + s.C.nodes.length) : nth (poG s).nodes (clsN (poP s) (nth (poP s) i).toNat) = nth (poU s).nodes i := by
  obtain ⟨r, h1, h2, h3⟩ := root_of (poP_flat ok) poP_len hi
  have hc := poN_const ok i (by rw [poU, unG_nlen]; exact hi)
  rw [h1, Int.toNat_natCast] at hc ⊢
  have := clsF_get (f := nth (poU s).nodes) h3 (k := (poU s).nodes.length) (by rw [poU, unG_nlen]; exact h2)
  rw [← hc]
  show ((collect (clsF (poP s) (nth (poU s).nodes)) (poU s).nodes.length).getD (clsN (poP s) r) 0) = _
  rw [List.getD, this]
  rfl
theorem poG_edge {s : Sp} (ok : SpOk s) {i : Nat} (hi : i < s.B.edges.length + s.C.edges.length) : eth (poG s).edges (clsN (poQ s) (nth (poQ s) i).toNat) = qE (poU s) (poP s) i := by
  obtain ⟨r, h1, h2, h3⟩ := root_of (poQ_flat ok) poQ_len hi
  have hc := poE_const ok i (by rw [poU, unG_elen]; exact hi)
  rw [h1, Int.toNat_natCast] at hc ⊢
  have := clsF_get (f := qE (poU s) (poP s)) h3 (k := (poU s).edges.length) (by rw [poU, unG_elen]; exact h2)
  rw [← hc]
  show ((collect (clsF (poQ s) (qE (poU s) (poP s))) (poU s).edges.length).getD (clsN (poQ s) r) ⟨0, 0, 0⟩) = _
  rw [List.getD, this]
  rfl

theorem poI_hom {s : Sp} (ok : SpOk s) : Hom s.B (poG s) (poI s) := by
  refine ⟨poI_len.1, poI_len.2, poI_nin ok, poI_ein ok, fun i hi => ?_, fun i hi => ?_⟩
  · rw [fn, poI_nat hi, Int.toNat_natCast, poG_node ok (by omega), poU_nL hi]
  · rw [fn, poI_eat hi, Int.toNat_natCast, poG_edge ok (by omega), qE, poU_eL hi]
    obtain ⟨_, _, g1, g2, g3, g4⟩ := ok.F.gb.edges _ (eth_mem hi)
    have l := poP_len (s := s)
    rw [poI_nat (by omega), poI_nat (by omega), quotL_nth (by omega), quotL_nth (by omega)]
    exact ⟨rfl, rfl, rfl⟩
theorem poJ_hom {s : Sp} (ok : SpOk s) : Hom s.C (poG s) (poJ s) := by
  refine ⟨poJ_len.1, poJ_len.2, poJ_nin ok, poJ_ein ok, fun i hi => ?_, fun i hi => ?_⟩
  · rw [fn, poJ_nat hi, Int.toNat_natCast, poG_node ok (by omega), poU_nR hi]
  · rw [fn, poJ_eat hi, Int.toNat_natCast, poG_edge ok (by omega), qE, poU_eR hi]
    obtain ⟨_, _, g1, g2, g3, g4⟩ := ok.G.gb.edges _ (eth_mem hi)
    have l := poP_len (s := s)
    obtain ⟨x, hx⟩ := Int.eq_ofNat_of_zero_le g1
    obtain ⟨y, hy⟩ := Int.eq_ofNat_of_zero_le g3
    have z1 : ((x : Int) + s.B.nodes.length).toNat = s.B.nodes.length + x := by omega
    have z2 : ((y : Int) + s.B.nodes.length).toNat = s.B.nodes.length + y := by omega
    simp only [shiftE, hx, hy, Int.toNat_natCast, z1, z2]
    rw [poJ_nat (by omega), poJ_nat (by omega), quotL_nth (by omega), quotL_nth (by omega)]
    refine ⟨?_, ?_, ?_⟩ <;> first | rfl | trivial
theorem poG_ok {s : Sp} (ok : SpOk s) (hu : unErr s.B s.C = 0) : GrOk (poG s) := by
  have hf := poG_few hu
  have po := po_std ok
  have hi := poI_hom ok
  have hj := poJ_hom ok
  refine ⟨hf.1, hf.2, fun x hx => ?_, fun e he => ?_⟩
  · obtain ⟨d, hd, rfl⟩ := mem_nth hx
    rcases po.1.cover d hd with ⟨b, hb, rfl⟩ | ⟨c, hc, rfl⟩
    · rw [hi.kn b hb]; exact ok.F.gb.kinds _ (nth_mem hb)
    · rw [hj.kn c hc]; exact ok.G.gb.kinds _ (nth_mem hc)
  · obtain ⟨d, hd, rfl⟩ := mem_eth he
    rcases po.2.cover d hd with ⟨b, hb, rfl⟩ | ⟨c, hc, rfl⟩
    · obtain ⟨e1, e2, e3⟩ := hi.ke b hb
      obtain ⟨t1, t2, g1, g2, g3, g4⟩ := ok.F.gb.edges _ (eth_mem hb)
      have l := hi.ln
      have p1 := hi.pn _ (nth_mem (l := (poI s).nodes) (k := (eth s.B.edges b).f.toNat) (by omega))
      have p2 := hi.pn _ (nth_mem (l := (poI s).nodes) (k := (eth s.B.edges b).g.toNat) (by omega))
      rw [e1, e2, e3]
      exact ⟨t1, t2, p1.1, p1.2, p2.1, p2.2⟩
    · obtain ⟨e1, e2, e3⟩ := hj.ke c hc
      obtain ⟨t1, t2, g1, g2, g3, g4⟩ := ok.G.gb.edges _ (eth_mem hc)
      have l := hj.ln
      have p1 := hj.pn _ (nth_mem (l := (poJ s).nodes) (k := (eth s.C.edges c).f.toNat) (by omega))
      have p2 := hj.pn _ (nth_mem (l := (poJ s).nodes) (k := (eth s.C.edges c).g.toNat) (by omega))
      rw [e1, e2, e3]
      exact ⟨t1, t2, p1.1, p1.2, p2.1, p2.2⟩

/-! ### What mediates -/
theorem zip_mem {p h : List Int} (hl : p.length = h.length) {w : Int × Int} : w ∈ p.zip h ↔ ∃ i, i < p.length ∧ w = (nth p i, nth h i) := by
  constructor
  · intro hw
    obtain ⟨i, hi, rfl⟩ := List.mem_iff_getElem.1 hw
    simp only [List.length_zip] at hi
    exact ⟨i, by omega, by rw [List.getElem_zip, nth_eq (by omega), nth_eq (by omega)]⟩
  · rintro ⟨i, hi, rfl⟩
    refine List.mem_iff_getElem.2 ⟨i, by simp; omega, ?_⟩
    rw [List.getElem_zip, nth_eq hi, nth_eq (by omega)]
theorem med_lists {n m nB nC : Nat} {p q h k : List Int} (lp : p.length = nB) (lq : q.length = nC) (lh : h.length = nB) (lk : k.length = nC) (pp : placesIn p n) (pq : placesIn q n) (ph : placesIn h m) (pk : placesIn k m)
    {u : Nat → Nat} (hu : ∀ b, b < nB → u (fn p b) = fn h b) (hv : ∀ c, c < nC → u (fn q c) = fn k c) :
    (∀ b, b < nB → nth (wrL n (p.zip h ++ q.zip k)) (fn p b) = nth h b) ∧ (∀ c, c < nC → nth (wrL n (p.zip h ++ q.zip k)) (fn q c) = nth k c) := by
  have key : ∀ w ∈ p.zip h ++ q.zip k, 0 ≤ w.1 ∧ w.1 < n ∧ w.2 = ((u w.1.toNat : Nat) : Int) := fun w hw => by
    rcases List.mem_append.1 hw with hw | hw
    · obtain ⟨i, hi, rfl⟩ := (zip_mem (by omega)).1 hw
      have h1 := pp _ (nth_mem hi)
      obtain ⟨h2, _⟩ := fn_at ph (show i < h.length by omega)
      exact ⟨h1.1, h1.2, by rw [h2, ← hu i (by omega)]; rfl⟩
    · obtain ⟨i, hi, rfl⟩ := (zip_mem (by omega)).1 hw
      have h1 := pq _ (nth_mem hi)
      obtain ⟨h2, _⟩ := fn_at pk (show i < k.length by omega)
      exact ⟨h1.1, h1.2, by rw [h2, ← hv i (by omega)]; rfl⟩
  refine ⟨fun b hb => ?_, fun c hc => ?_⟩
  · exact wrL_at (u := fun i => (u i : Nat)) key (w := (nth p b, nth h b)) (List.mem_append_left _ ((zip_mem (by omega)).2 ⟨b, by omega, rfl⟩))
  · exact wrL_at (u := fun i => (u i : Nat)) key (w := (nth q c, nth k c)) (List.mem_append_right _ ((zip_mem (by omega)).2 ⟨c, by omega, rfl⟩))

theorem same_thru {a b f g : List Int} (h : thru a f = thru b g) {i : Nat} (ha : i < a.length) (hb : i < b.length) : fn f (fn a i) = fn g (fn b i) := by
  have := congrArg (fun l => (nth l i).toNat) h
  simp only [thru_nth ha, thru_nth hb] at this
  exact this

/-- A cocone: valid morphisms with equal compositions. -/
structure Cone (s : Sp) (d : Gr) (h k : Pa) : Prop where
  ok : SpOk s
  mp : MorOk s.B d h
  mq : MorOk s.C d k
  un : unErr s.B s.C = 0
  cn : ∀ i, i < s.A.nodes.length → fn h.nodes (fn s.F.nodes i) = fn k.nodes (fn s.G.nodes i)
  ce : ∀ i, i < s.A.edges.length → fn h.edges (fn s.F.edges i) = fn k.edges (fn s.G.edges i)
theorem pm_cone {s : Sp} {d : Gr} {h k : Pa} (e : pmE s d h k = 0) : Cone s d h k := by
  obtain ⟨h1, h2, h3, h4, h5⟩ := pmE_ok e
  have ok := spErr_ok h1
  have l1 := ok.F.ln
  have l2 := ok.F.le
  have l3 := ok.G.ln
  have l4 := ok.G.le
  have h6 := sameP_iff.1 h5
  injection h6 with h6 h7
  exact ⟨ok, mor_ok h2, mor_ok h3, h4, fun i hi => same_thru h6 (by omega) (by omega), fun i hi => same_thru h7 (by omega) (by omega)⟩

theorem pm_at {s : Sp} {d : Gr} {h k : Pa} (c : Cone s d h k) :
    ((∀ b, b < s.B.nodes.length → nth (pmC s h k).nodes (fn (poI s).nodes b) = nth h.nodes b) ∧ (∀ b, b < s.C.nodes.length → nth (pmC s h k).nodes (fn (poJ s).nodes b) = nth k.nodes b)) ∧
    ((∀ b, b < s.B.edges.length → nth (pmC s h k).edges (fn (poI s).edges b) = nth h.edges b) ∧ (∀ b, b < s.C.edges.length → nth (pmC s h k).edges (fn (poJ s).edges b) = nth k.edges b)) := by
  have po := po_std c.ok
  have hi := poI_hom c.ok
  have hj := poJ_hom c.ok
  obtain ⟨u, u1, u2⟩ := po.1.univ (fn h.nodes) (fn k.nodes) c.cn
  obtain ⟨v, v1, v2⟩ := po.2.univ (fn h.edges) (fn k.edges) c.ce
  exact ⟨med_lists hi.ln hj.ln c.mp.ln c.mq.ln hi.pn hj.pn c.mp.rn c.mq.rn u1 u2, med_lists hi.le hj.le c.mp.le c.mq.le hi.pe hj.pe c.mp.re c.mq.re v1 v2⟩
theorem pmC_len {s : Sp} {h k : Pa} : (pmC s h k).nodes.length = (poG s).nodes.length ∧ (pmC s h k).edges.length = (poG s).edges.length := ⟨wrL_len, wrL_len⟩
theorem pm_hom {s : Sp} {d : Gr} {h k : Pa} (c : Cone s d h k) : Hom (poG s) d (pmC s h k) := by
  have po := po_std c.ok
  have hi := poI_hom c.ok
  have hj := poJ_hom c.ok
  obtain ⟨⟨n1, n2⟩, e1, e2⟩ := pm_at c
  have hh := c.mp.hom
  have hk := c.mq.hom
  refine ⟨pmC_len.1, pmC_len.2, fun x hx => ?_, fun x hx => ?_, fun i hi' => ?_, fun i hi' => ?_⟩
  · obtain ⟨i, hi', rfl⟩ := mem_nth hx
    rw [pmC_len.1] at hi'
    rcases po.1.cover i hi' with ⟨b, hb, rfl⟩ | ⟨b, hb, rfl⟩
    · rw [n1 b hb]; exact hh.pn _ (nth_mem (by rw [hh.ln]; exact hb))
    · rw [n2 b hb]; exact hk.pn _ (nth_mem (by rw [hk.ln]; exact hb))
  · obtain ⟨i, hi', rfl⟩ := mem_nth hx
    rw [pmC_len.2] at hi'
    rcases po.2.cover i hi' with ⟨b, hb, rfl⟩ | ⟨b, hb, rfl⟩
    · rw [e1 b hb]; exact hh.pe _ (nth_mem (by rw [hh.le]; exact hb))
    · rw [e2 b hb]; exact hk.pe _ (nth_mem (by rw [hk.le]; exact hb))
  · rcases po.1.cover i hi' with ⟨b, hb, rfl⟩ | ⟨b, hb, rfl⟩
    · rw [fn, n1 b hb, hi.kn b hb]; exact hh.kn b hb
    · rw [fn, n2 b hb, hj.kn b hb]; exact hk.kn b hb
  · rcases po.2.cover i hi' with ⟨b, hb, rfl⟩ | ⟨b, hb, rfl⟩
    · obtain ⟨a1, a2, a3⟩ := hi.ke b hb
      obtain ⟨b1, b2, b3⟩ := hh.ke b hb
      obtain ⟨_, _, g1, g2, g3, g4⟩ := c.ok.F.gb.edges _ (eth_mem hb)
      have m1 := n1 (eth s.B.edges b).f.toNat (by omega)
      have m2 := n1 (eth s.B.edges b).g.toNat (by omega)
      rw [fn] at m1 m2
      rw [fn, e1 b hb, a1, a2, a3, m1, m2]
      exact ⟨b1, b2, b3⟩
    · obtain ⟨a1, a2, a3⟩ := hj.ke b hb
      obtain ⟨b1, b2, b3⟩ := hk.ke b hb
      obtain ⟨_, _, g1, g2, g3, g4⟩ := c.ok.G.gb.edges _ (eth_mem hb)
      have m1 := n2 (eth s.C.edges b).f.toNat (by omega)
      have m2 := n2 (eth s.C.edges b).g.toNat (by omega)
      rw [fn] at m1 m2
      rw [fn, e2 b hb, a1, a2, a3, m1, m2]
      exact ⟨b1, b2, b3⟩

/-! ### One to one and onto -/
theorem nodup_fn {l : List Int} {n m : Nat} (hl : l.length = n) (pl : placesIn l m) : l.Nodup ↔ ∀ i j, i < n → j < n → fn l i = fn l j → i = j := by
  rw [List.nodup_iff_pairwise_ne, List.pairwise_iff_getElem]
  constructor
  · intro h i j hi hj e
    have e2 : l[i]'(by omega) = l[j]'(by omega) := by
      rw [← nth_eq, ← nth_eq, (fn_at pl (show i < l.length by omega)).1, (fn_at pl (show j < l.length by omega)).1, e]
    rcases Nat.lt_trichotomy i j with h3 | h3 | h3
    · exact absurd e2 (h i j _ _ h3)
    · exact h3
    · exact absurd e2.symm (h j i _ _ h3)
  · intro h i j hi hj hij e
    have := h i j (by omega) (by omega) (by rw [fn, fn, nth_eq hi, nth_eq hj, e])
    omega
theorem cov_fn {l : List Int} {n m : Nat} (hl : l.length = n) (pl : placesIn l m) : covB l m = true ↔ ∀ d, d < m → ∃ i, i < n ∧ fn l i = d := by
  simp only [covB, decide_eq_true_eq]
  refine forall_congr' fun d => imp_congr_right fun hd => ?_
  constructor
  · intro h
    obtain ⟨i, hi, e⟩ := mem_nth h
    exact ⟨i, by omega, by rw [fn, e]; rfl⟩
  · rintro ⟨i, hi, rfl⟩
    rw [← (fn_at pl (show i < l.length by omega)).1]
    exact nth_mem (by omega)

/-- A cocone is accepted exactly if it is a pushout. -/
theorem poChk_iff {s : Sp} {d : Gr} {h k : Pa} (e : pmE s d h k = 0) : poChk s d h k = true ↔ IsPO s d h k := by
  have c := pm_cone e
  have po := po_std c.ok
  have hm := pm_hom c
  have hi := poI_hom c.ok
  have hj := poJ_hom c.ok
  have em := mor_zero (hm.ok (poG_ok c.ok c.un) c.mp.gb)
  obtain ⟨⟨n1, n2⟩, e1, e2⟩ := pm_at c
  have z1 : ∀ b, b < s.B.nodes.length → fn (pmC s h k).nodes (fn (poI s).nodes b) = fn h.nodes b := fun b hb => by rw [fn, n1 b hb]; rfl
  have z2 : ∀ b, b < s.C.nodes.length → fn (pmC s h k).nodes (fn (poJ s).nodes b) = fn k.nodes b := fun b hb => by rw [fn, n2 b hb]; rfl
  have z3 : ∀ b, b < s.B.edges.length → fn (pmC s h k).edges (fn (poI s).edges b) = fn h.edges b := fun b hb => by rw [fn, e1 b hb]; rfl
  have z4 : ∀ b, b < s.C.edges.length → fn (pmC s h k).edges (fn (poJ s).edges b) = fn k.edges b := fun b hb => by rw [fn, e2 b hb]; rfl
  have key : poChk s d h k = true ↔ (((pmC s h k).nodes.Nodup ∧ (pmC s h k).edges.Nodup) ∧ (covB (pmC s h k).nodes d.nodes.length = true ∧ covB (pmC s h k).edges d.edges.length = true)) := by
    simp [poChk, e, injB, surjB, em]
  rw [key, nodup_fn hm.ln hm.pn, nodup_fn hm.le hm.pe, cov_fn hm.ln hm.pn, cov_fn hm.le hm.pe]
  constructor
  · rintro ⟨⟨a1, a2⟩, b1, b2⟩
    exact ⟨po_of_iso po.1 hi.mn hj.mn z1 z2 c.ok.F.hom.mn c.ok.G.hom.mn a1 b1, po_of_iso po.2 hi.me hj.me z3 z4 c.ok.F.hom.me c.ok.G.hom.me a2 b2⟩
  · rintro ⟨p1, p2⟩
    obtain ⟨a1, b1⟩ := po_iso p1 po.1 hi.mn hj.mn z1 z2
    obtain ⟨a2, b2⟩ := po_iso p2 po.2 hi.me hj.me z3 z4
    exact ⟨⟨a1, a2⟩, b1, b2⟩
end Go.Proofs.YthcnpnogfblkcaaGreat

/- The standard pullback of graphs; what mediates into it; when a cone is a pullback. No program in sight. -/
namespace Go.Proofs.YthcnpnogfblkcaaGreat
open Abs Po
set_option linter.unusedSimpArgs false
set_option linter.unusedVariables false

theorem collect_pb_nodup {f g : List Int} {i : Nat} : ∀ n, (collect (pbF f g i) n).Nodup ∧ ∀ q ∈ collect (pbF f g i) n, q.1 = i ∧ q.2 < n
  | 0 => ⟨List.nodup_nil, fun q hq => by simp [collect_zero] at hq⟩
  | n + 1 => by
    obtain ⟨h1, h2⟩ := collect_pb_nodup (f := f) (g := g) (i := i) n
    by_cases e : nth f i = nth g n
    · rw [collect_some (x := ((i : Int), (n : Int))) (by rw [pbF, if_pos e])]
      refine ⟨List.nodup_append.2 ⟨h1, by simp, fun a ha b hb => ?_⟩, fun q hq => ?_⟩
      · simp at hb
        subst hb
        rintro rfl
        have := (h2 _ ha).2
        simp at this
      · rcases List.mem_append.1 hq with hq | hq
        · have := h2 q hq
          exact ⟨this.1, by omega⟩
        · simp at hq
          subst hq
          exact ⟨rfl, by show (n : Int) < (n + 1 : Nat); omega⟩
    · rw [collect_none (by rw [pbF, if_neg e])]
      exact ⟨h1, fun q hq => ⟨(h2 q hq).1, by have := (h2 q hq).2; omega⟩⟩
theorem gather_pb_nodup {f g : List Int} : ∀ n, (gather (fun i => collect (pbF f g i) g.length) n).Nodup ∧ ∀ q ∈ gather (fun i => collect (pbF f g i) g.length) n, q.1 < n
  | 0 => ⟨List.nodup_nil, fun q hq => by simp [gather_zero] at hq⟩
  | n + 1 => by
    obtain ⟨h1, h2⟩ := gather_pb_nodup (f := f) (g := g) n
    obtain ⟨k1, k2⟩ := collect_pb_nodup (f := f) (g := g) (i := n) g.length
    rw [gather_succ]
    refine ⟨List.nodup_append.2 ⟨h1, k1, fun a ha b hb => ?_⟩, fun q hq => ?_⟩
    · rintro rfl
      have e1 := h2 _ ha
      have e2 := (k2 _ hb).1
      omega
    · rcases List.mem_append.1 hq with hq | hq
      · have := h2 q hq
        omega
      · have := (k2 q hq).1
        omega
theorem pbP_nodup {f g : List Int} : (pbP f g).Nodup := (gather_pb_nodup f.length).1
theorem pth_inj {l : List (Int × Int)} (h : l.Nodup) {i j : Nat} (hi : i < l.length) (hj : j < l.length) (e : pth l i = pth l j) : i = j := by
  rw [List.nodup_iff_pairwise_ne, List.pairwise_iff_getElem] at h
  rw [pth_eq' hi, pth_eq' hj] at e
  rcases Nat.lt_trichotomy i j with h3 | h3 | h3
  · exact absurd e (h i j hi hj h3)
  · exact h3
  · exact absurd e.symm (h j i hj hi h3)
theorem nth_fst {l : List (Int × Int)} {i : Nat} (h : i < l.length) : nth (fstL l) i = (pth l i).1 := by
  rw [nth_eq (by rw [fstL_len]; exact h), pth_eq' h]; simp [fstL]
theorem nth_snd {l : List (Int × Int)} {i : Nat} (h : i < l.length) : nth (sndL l) i = (pth l i).2 := by
  rw [nth_eq (by rw [sndL_len]; exact h), pth_eq' h]; simp [sndL]

/-- The standard pullback of lists of numbers is one. -/
theorem pb_lists {nB nC m : Nat} {F G : List Int} (lF : F.length = nB) (lG : G.length = nC) (pF : placesIn F m) (pG : placesIn G m) :
    PB (pbP F G).length nB nC (fn (fstL (pbP F G))) (fn (sndL (pbP F G))) (fn F) (fn G) := by
  have at_ : ∀ a, a < (pbP F G).length → ∃ i k : Nat, i < nB ∧ k < nC ∧ nth F i = nth G k ∧ fn (fstL (pbP F G)) a = i ∧ fn (sndL (pbP F G)) a = k ∧ pth (pbP F G) a = ((i : Int), (k : Int)) := fun a ha => by
    obtain ⟨i, k, h1, h2, h3, h4⟩ := mem_pbP.1 (pth_mem ha)
    exact ⟨i, k, by omega, by omega, h3, by rw [fn, nth_fst ha, h4]; rfl, by rw [fn, nth_snd ha, h4]; rfl, h4⟩
  refine ⟨fun a ha => ?_, fun b c hb hc e => ?_, fun a a' ha ha' e1 e2 => ?_⟩
  · obtain ⟨i, k, h1, h2, h3, h4, h5, _⟩ := at_ a ha
    rw [h4, h5, fn, fn, h3]
  · have hm : ((b : Int), (c : Int)) ∈ pbP F G := mem_pbP.2 ⟨b, c, by omega, by omega, by rw [(fn_at pF (show b < F.length by omega)).1, (fn_at pG (show c < G.length by omega)).1, e], rfl⟩
    have h1 := idxP_lt hm
    have h0 := idxP_pos.2 hm
    have h2 := idxP_get hm
    have hl : (idxP (pbP F G) ((b : Int), (c : Int))).toNat < (pbP F G).length := by omega
    exact ⟨_, hl, by rw [fn, nth_fst hl, h2]; rfl, by rw [fn, nth_snd hl, h2]; rfl⟩
  · obtain ⟨i, k, h1, h2, h3, h4, h5, h6⟩ := at_ a ha
    obtain ⟨i', k', h1', h2', h3', h4', h5', h6'⟩ := at_ a' ha'
    refine pth_inj pbP_nodup ha ha' ?_
    rw [h6, h6', ← h4, ← h4', ← h5, ← h5', e1, e2]

/-- The two squares of functions of a cospan with a cone are pullbacks. -/
def IsPB (s : Co) (a : Gr) (h k : Pa) : Prop :=
  PB a.nodes.length s.B.nodes.length s.C.nodes.length (fn h.nodes) (fn k.nodes) (fn s.F.nodes) (fn s.G.nodes) ∧
  PB a.edges.length s.B.edges.length s.C.edges.length (fn h.edges) (fn k.edges) (fn s.F.edges) (fn s.G.edges)

theorem pbG_len {s : Co} : (pbG s).nodes.length = (pbNs s).length ∧ (pbG s).edges.length = (pbEs s).length := by simp [pbG]
theorem pbG_nth {s : Co} {i : Nat} (h : i < (pbNs s).length) : nth (pbG s).nodes i = pbNode s (pth (pbNs s) i) := by
  rw [nth_eq (by rw [pbG_len.1]; exact h), pth_eq' h]; simp [pbG]
theorem pbG_eth {s : Co} {i : Nat} (h : i < (pbEs s).length) : eth (pbG s).edges i = pbEdge s (pth (pbEs s) i) := by
  rw [eth_eq (by rw [pbG_len.2]; exact h), pth_eq' h]; simp [pbG]

def pbDown (c : Co) : Pa := ⟨fstL (pbNs c), fstL (pbEs c)⟩
def pbUpp (c : Co) : Pa := ⟨sndL (pbNs c), sndL (pbEs c)⟩
/-- The standard pullback is one. -/
theorem pb_std {s : Co} (ok : CoOk s) : IsPB s (pbG s) (pbDown s) (pbUpp s) := by
  refine ⟨?_, ?_⟩
  · rw [pbG_len.1]; exact pb_lists ok.F.ln ok.G.ln ok.F.rn ok.G.rn
  · rw [pbG_len.2]; exact pb_lists ok.F.le ok.G.le ok.F.re ok.G.re

/-- The ends of a pair of edges are pairs of nodes. -/
theorem pb_ends {s : Co} (ok : CoOk s) {i k : Nat} (hi : i < s.B.edges.length) (hk : k < s.C.edges.length) (e : nth s.F.edges i = nth s.G.edges k) :
    ((eth s.B.edges i).f, (eth s.C.edges k).f) ∈ pbNs s ∧ ((eth s.B.edges i).g, (eth s.C.edges k).g) ∈ pbNs s := by
  obtain ⟨_, _, t1, u1, v1⟩ := ok.F.e i hi
  obtain ⟨_, _, t2, u2, v2⟩ := ok.G.e k hk
  rw [e] at u1 v1
  obtain ⟨_, _, g1, g2, g3, g4⟩ := ok.F.ga.edges _ (eth_mem hi)
  obtain ⟨_, _, p1, p2, p3, p4⟩ := ok.G.ga.edges _ (eth_mem hk)
  have l1 := ok.F.ln
  have l2 := ok.G.ln
  exact ⟨mem_pbP.2 ⟨(eth s.B.edges i).f.toNat, (eth s.C.edges k).f.toNat, by omega, by omega, by rw [u1, u2], by rw [Int.toNat_of_nonneg g1, Int.toNat_of_nonneg p1]⟩,
    mem_pbP.2 ⟨(eth s.B.edges i).g.toNat, (eth s.C.edges k).g.toNat, by omega, by omega, by rw [v1, v2], by rw [Int.toNat_of_nonneg g3, Int.toNat_of_nonneg p3]⟩⟩

theorem pbG_ok {s : Co} (h : pbErr s = 0) : GrOk (pbG s) := by
  obtain ⟨ok, h1, h2⟩ := pbErr_few h
  refine ⟨by rw [pbG_len.1]; exact h1, by rw [pbG_len.2]; exact h2, fun x hx => ?_, fun e he => ?_⟩
  · obtain ⟨d, hd, rfl⟩ := mem_nth hx
    rw [pbG_len.1] at hd
    obtain ⟨i, k, hi, hk, e⟩ := pbNs_at ok (pth_mem hd)
    rw [pbG_nth hd, e, pbNode]
    exact ok.F.ga.kinds _ (nth_mem hi)
  · obtain ⟨d, hd, rfl⟩ := mem_eth he
    rw [pbG_len.2] at hd
    obtain ⟨i, k, hi, hk, h3, e⟩ := mem_pbP.1 (pth_mem (show d < (pbP s.F.edges s.G.edges).length from hd))
    have e : pth (pbEs s) d = ((i : Int), (k : Int)) := e
    rw [ok.F.le] at hi
    rw [ok.G.le] at hk
    obtain ⟨m1, m2⟩ := pb_ends ok hi hk h3
    obtain ⟨t1, t2, _⟩ := ok.F.ga.edges _ (eth_mem hi)
    have a1 := idxP_pos.2 m1
    have a2 := idxP_lt m1
    have a3 := idxP_pos.2 m2
    have a4 := idxP_lt m2
    rw [pbG_eth hd, e, pbEdge, pbG_len.1]
    exact ⟨t1, t2, a1, a2, a3, a4⟩
theorem pbDown_hom {s : Co} (ok : CoOk s) : Hom (pbG s) s.B (pbDown s) := by
  refine ⟨by rw [pbG_len.1]; exact fstL_len, by rw [pbG_len.2]; exact fstL_len, fun x hx => ?_, fun x hx => ?_, fun i hi => ?_, fun i hi => ?_⟩
  · obtain ⟨q, hq, rfl⟩ := List.mem_map.1 hx
    obtain ⟨i, k, hi, hk, rfl⟩ := pbNs_at ok hq
    exact ⟨by simp, by simpa using hi⟩
  · obtain ⟨q, hq, rfl⟩ := List.mem_map.1 hx
    obtain ⟨i, k, hi, hk, rfl⟩ := pbEs_at ok hq
    exact ⟨by simp, by simpa using hi⟩
  · rw [pbG_len.1] at hi
    rw [pbG_nth hi, pbNode, fn, pbDown, nth_fst hi]
  · rw [pbG_len.2] at hi
    obtain ⟨a, b, ha, hb, h3, e⟩ := mem_pbP.1 (pth_mem (show i < (pbP s.F.edges s.G.edges).length from hi))
    have e : pth (pbEs s) i = ((a : Int), (b : Int)) := e
    rw [ok.F.le] at ha
    rw [ok.G.le] at hb
    obtain ⟨m1, m2⟩ := pb_ends ok ha hb h3
    have a1 := idxP_pos.2 m1
    have a2 := idxP_lt m1
    have a3 := idxP_pos.2 m2
    have a4 := idxP_lt m2
    have q1 := idxP_get m1
    have q2 := idxP_get m2
    rw [pbG_eth hi, e, pbEdge, fn, pbDown, nth_fst hi, e]
    simp only [Int.toNat_natCast]
    rw [nth_fst (by omega), nth_fst (by omega), q1, q2]
    refine ⟨?_, ?_, ?_⟩ <;> first | rfl | trivial
theorem pbUpp_hom {s : Co} (ok : CoOk s) : Hom (pbG s) s.C (pbUpp s) := by
  refine ⟨by rw [pbG_len.1]; exact sndL_len, by rw [pbG_len.2]; exact sndL_len, fun x hx => ?_, fun x hx => ?_, fun i hi => ?_, fun i hi => ?_⟩
  · obtain ⟨q, hq, rfl⟩ := List.mem_map.1 hx
    obtain ⟨i, k, hi, hk, rfl⟩ := pbNs_at ok hq
    exact ⟨by simp, by simpa using hk⟩
  · obtain ⟨q, hq, rfl⟩ := List.mem_map.1 hx
    obtain ⟨i, k, hi, hk, rfl⟩ := pbEs_at ok hq
    exact ⟨by simp, by simpa using hk⟩
  · rw [pbG_len.1] at hi
    obtain ⟨a, b, ha, hb, h3, e⟩ := mem_pbP.1 (pth_mem (show i < (pbP s.F.nodes s.G.nodes).length from hi))
    have e : pth (pbNs s) i = ((a : Int), (b : Int)) := e
    rw [ok.F.ln] at ha
    rw [ok.G.ln] at hb
    have k1 := (ok.F.n a ha).2.2
    have k2 := (ok.G.n b hb).2.2
    rw [pbG_nth hi, pbNode, fn, pbUpp, nth_snd hi, e]
    simp only [Int.toNat_natCast]
    rw [← k1, ← k2, h3]
  · rw [pbG_len.2] at hi
    obtain ⟨a, b, ha, hb, h3, e⟩ := mem_pbP.1 (pth_mem (show i < (pbP s.F.edges s.G.edges).length from hi))
    have e : pth (pbEs s) i = ((a : Int), (b : Int)) := e
    rw [ok.F.le] at ha
    rw [ok.G.le] at hb
    obtain ⟨m1, m2⟩ := pb_ends ok ha hb h3
    have a1 := idxP_pos.2 m1
    have a2 := idxP_lt m1
    have a3 := idxP_pos.2 m2
    have a4 := idxP_lt m2
    have q1 := idxP_get m1
    have q2 := idxP_get m2
    have k1 := (ok.F.e a ha).2.2.1
    have k2 := (ok.G.e b hb).2.2.1
    rw [h3] at k1
    rw [pbG_eth hi, e, pbEdge, fn, pbUpp, nth_snd hi, e]
    simp only [Int.toNat_natCast]
    rw [nth_snd (by omega), nth_snd (by omega), q1, q2, k1, k2]
    refine ⟨?_, ?_, ?_⟩ <;> first | rfl | trivial

/-! ### What mediates -/
structure Cone' (s : Co) (a : Gr) (h k : Pa) : Prop where
  e : pbErr s = 0
  ok : CoOk s
  mp : MorOk a s.B h
  mq : MorOk a s.C k
  cn : ∀ i, i < a.nodes.length → fn s.F.nodes (fn h.nodes i) = fn s.G.nodes (fn k.nodes i)
  ce : ∀ i, i < a.edges.length → fn s.F.edges (fn h.edges i) = fn s.G.edges (fn k.edges i)
theorem med_cone {s : Co} {a : Gr} {h k : Pa} (e : medE s a h k = 0) : Cone' s a h k := by
  obtain ⟨h1, h2, h3, h5⟩ := medE_ok e
  have ok := (pbErr_few h1).1
  have m1 := mor_ok h2
  have m2 := mor_ok h3
  have l1 := m1.ln
  have l2 := m1.le
  have l3 := m2.ln
  have l4 := m2.le
  have h6 := sameP_iff.1 h5
  injection h6 with h6 h7
  exact ⟨h1, ok, m1, m2, fun i hi => same_thru h6 (by omega) (by omega), fun i hi => same_thru h7 (by omega) (by omega)⟩
theorem meet_nth {l : List (Int × Int)} {h k : List Int} {n i : Nat} (hi : i < n) : nth (meetL l h k n) i = idxP l (nth h i, nth k i) := by
  rw [nth_eq (by rw [meetL_len]; exact hi)]; simp [meetL]
theorem med_memN {s : Co} {a : Gr} {h k : Pa} (c : Cone' s a h k) {i : Nat} (hi : i < a.nodes.length) : (nth h.nodes i, nth k.nodes i) ∈ pbNs s := by
  obtain ⟨e1, b1⟩ := fn_at c.mp.rn (show i < h.nodes.length by rw [c.mp.ln]; exact hi)
  obtain ⟨e2, b2⟩ := fn_at c.mq.rn (show i < k.nodes.length by rw [c.mq.ln]; exact hi)
  have l1 := c.ok.F.ln
  have l2 := c.ok.G.ln
  refine mem_pbP.2 ⟨fn h.nodes i, fn k.nodes i, by omega, by omega, ?_, by rw [e1, e2]⟩
  rw [(fn_at c.ok.F.rn (by omega)).1, (fn_at c.ok.G.rn (by omega)).1, c.cn i hi]
theorem med_memE {s : Co} {a : Gr} {h k : Pa} (c : Cone' s a h k) {i : Nat} (hi : i < a.edges.length) : (nth h.edges i, nth k.edges i) ∈ pbEs s := by
  obtain ⟨e1, b1⟩ := fn_at c.mp.re (show i < h.edges.length by rw [c.mp.le]; exact hi)
  obtain ⟨e2, b2⟩ := fn_at c.mq.re (show i < k.edges.length by rw [c.mq.le]; exact hi)
  have l1 := c.ok.F.le
  have l2 := c.ok.G.le
  refine mem_pbP.2 ⟨fn h.edges i, fn k.edges i, by omega, by omega, ?_, by rw [e1, e2]⟩
  rw [(fn_at c.ok.F.re (by omega)).1, (fn_at c.ok.G.re (by omega)).1, c.ce i hi]
theorem med_n {s : Co} {a : Gr} {h k : Pa} (c : Cone' s a h k) {i : Nat} (hi : i < a.nodes.length) :
    nth (medC s h k).nodes i = idxP (pbNs s) (nth h.nodes i, nth k.nodes i) ∧ nth (pbDown s).nodes (fn (medC s h k).nodes i) = nth h.nodes i ∧ nth (pbUpp s).nodes (fn (medC s h k).nodes i) = nth k.nodes i := by
  have hm := med_memN c hi
  have h1 := idxP_lt hm
  have h0 := idxP_pos.2 hm
  have h2 := idxP_get hm
  have e : nth (medC s h k).nodes i = idxP (pbNs s) (nth h.nodes i, nth k.nodes i) := meet_nth (by rw [c.mp.ln]; exact hi)
  refine ⟨e, ?_, ?_⟩
  · rw [fn, e, pbDown, nth_fst (by omega), h2]
  · rw [fn, e, pbUpp, nth_snd (by omega), h2]
theorem med_e {s : Co} {a : Gr} {h k : Pa} (c : Cone' s a h k) {i : Nat} (hi : i < a.edges.length) :
    nth (medC s h k).edges i = idxP (pbEs s) (nth h.edges i, nth k.edges i) ∧ nth (pbDown s).edges (fn (medC s h k).edges i) = nth h.edges i ∧ nth (pbUpp s).edges (fn (medC s h k).edges i) = nth k.edges i := by
  have hm := med_memE c hi
  have h1 := idxP_lt hm
  have h0 := idxP_pos.2 hm
  have h2 := idxP_get hm
  have e : nth (medC s h k).edges i = idxP (pbEs s) (nth h.edges i, nth k.edges i) := meet_nth (by rw [c.mp.le]; exact hi)
  refine ⟨e, ?_, ?_⟩
  · rw [fn, e, pbDown, nth_fst (by omega), h2]
  · rw [fn, e, pbUpp, nth_snd (by omega), h2]
theorem med_hom {s : Co} {a : Gr} {h k : Pa} (c : Cone' s a h k) : Hom a (pbG s) (medC s h k) := by
  have l1 : (medC s h k).nodes.length = a.nodes.length := by simp only [medC, meetL_len, c.mp.ln]
  have l2 : (medC s h k).edges.length = a.edges.length := by simp only [medC, meetL_len, c.mp.le]
  have pd := pbDown_hom c.ok
  refine ⟨l1, l2, fun x hx => ?_, fun x hx => ?_, fun i hi => ?_, fun i hi => ?_⟩
  · obtain ⟨i, hi, rfl⟩ := mem_nth hx
    rw [l1] at hi
    have hm := med_memN c hi
    have h1 := idxP_lt hm
    have h0 := idxP_pos.2 hm
    rw [(med_n c hi).1, pbG_len.1]
    exact ⟨h0, h1⟩
  · obtain ⟨i, hi, rfl⟩ := mem_nth hx
    rw [l2] at hi
    have hm := med_memE c hi
    have h1 := idxP_lt hm
    have h0 := idxP_pos.2 hm
    rw [(med_e c hi).1, pbG_len.2]
    exact ⟨h0, h1⟩
  · have hm := med_memN c hi
    have h1 := idxP_lt hm
    have h0 := idxP_pos.2 hm
    have h2 := idxP_get hm
    rw [fn, (med_n c hi).1, pbG_nth (by omega), h2, pbNode]
    exact (c.mp.n i hi).2.2
  · have hm := med_memE c hi
    have h1 := idxP_lt hm
    have h0 := idxP_pos.2 hm
    have h2 := idxP_get hm
    obtain ⟨_, _, g1, g2, g3, g4⟩ := c.mp.ga.edges _ (eth_mem hi)
    obtain ⟨_, _, t1, u1, v1⟩ := c.mp.e i hi
    obtain ⟨_, _, t2, u2, v2⟩ := c.mq.e i hi
    rw [fn, (med_e c hi).1, pbG_eth (by omega), h2, pbEdge, (med_n c (show (eth a.edges i).f.toNat < a.nodes.length by omega)).1, (med_n c (show (eth a.edges i).g.toNat < a.nodes.length by omega)).1]
    simp only [← t1, ← u1, ← v1, ← u2, ← v2]
    refine ⟨?_, ?_, ?_⟩ <;> first | rfl | trivial

/-- A cone is accepted exactly if it is a pullback. -/
theorem pbChk_iff {s : Co} {a : Gr} {h k : Pa} (e : medE s a h k = 0) : pbChk s a h k = true ↔ IsPB s a h k := by
  have c := med_cone e
  have pb := pb_std c.ok
  have hm := med_hom c
  have hi := pbDown_hom c.ok
  have hj := pbUpp_hom c.ok
  have em := mor_zero (hm.ok c.mp.ga (pbG_ok c.e))
  have z1 : ∀ i, i < a.nodes.length → fn (pbDown s).nodes (fn (medC s h k).nodes i) = fn h.nodes i := fun i hi => by rw [fn, (med_n c hi).2.1]; rfl
  have z2 : ∀ i, i < a.nodes.length → fn (pbUpp s).nodes (fn (medC s h k).nodes i) = fn k.nodes i := fun i hi => by rw [fn, (med_n c hi).2.2]; rfl
  have z3 : ∀ i, i < a.edges.length → fn (pbDown s).edges (fn (medC s h k).edges i) = fn h.edges i := fun i hi => by rw [fn, (med_e c hi).2.1]; rfl
  have z4 : ∀ i, i < a.edges.length → fn (pbUpp s).edges (fn (medC s h k).edges i) = fn k.edges i := fun i hi => by rw [fn, (med_e c hi).2.2]; rfl
  have key : pbChk s a h k = true ↔ (((medC s h k).nodes.Nodup ∧ (medC s h k).edges.Nodup) ∧ (covB (medC s h k).nodes (pbG s).nodes.length = true ∧ covB (medC s h k).edges (pbG s).edges.length = true)) := by
    simp [pbChk, e, injB, surjB, em]
  rw [key, nodup_fn hm.ln hm.pn, nodup_fn hm.le hm.pe, cov_fn hm.ln hm.pn, cov_fn hm.le hm.pe]
  constructor
  · rintro ⟨⟨a1, a2⟩, b1, b2⟩
    exact ⟨pb_of_iso pb.1 hm.mn z1 z2 a1 b1, pb_of_iso pb.2 hm.me z3 z4 a2 b2⟩
  · rintro ⟨p1, p2⟩
    obtain ⟨a1, b1⟩ := pb_iso p1 pb.1 hi.mn hj.mn hm.mn z1 z2
    obtain ⟨a2, b2⟩ := pb_iso p2 pb.2 hi.me hj.me hm.me z3 z4
    exact ⟨⟨a1, a2⟩, b1, b2⟩
end Go.Proofs.YthcnpnogfblkcaaGreat

/- The kind of a valid square that commutes. No program in sight. -/
namespace Go.Proofs.YthcnpnogfblkcaaGreat
open Abs Po
set_option linter.unusedSimpArgs false
set_option linter.unusedVariables false

theorem sq_parts {s : Sq} (h1 : sqErr s = 0) : morErr s.A s.B s.F = 0 ∧ morErr s.A s.C s.G = 0 ∧ morErr s.B s.D s.H = 0 ∧ morErr s.C s.D s.K = 0 := by
  have ok := sqErr_ok h1
  exact ⟨mor_zero ok.F, mor_zero ok.G, mor_zero ok.H, mor_zero ok.K⟩
theorem sq_zero {s : Sq} (F : MorOk s.A s.B s.F) (G : MorOk s.A s.C s.G) (H : MorOk s.B s.D s.H) (K : MorOk s.C s.D s.K) : sqErr s = 0 := by
  simp [sqErr, mor_zero F, mor_zero G, mor_zero H, mor_zero K]
theorem down_err {s : Sq} (h1 : sqErr s = 0) : spErr (downS s) = 0 := by
  obtain ⟨a, b, _, _⟩ := sq_parts h1
  show (if morErr s.A s.B s.F = 0 then morErr s.A s.C s.G else morErr s.A s.B s.F) = 0
  rw [if_pos a, b]
theorem up_err {s : Sq} (h1 : sqErr s = 0) : coErr (upS s) = 0 := by
  obtain ⟨_, _, a, b⟩ := sq_parts h1
  show (if morErr s.B s.D s.H = 0 then morErr s.C s.D s.K else morErr s.B s.D s.H) = 0
  rw [if_pos a, b]
theorem pm_zero {s : Sq} (h1 : sqErr s = 0) (h2 : commB s = true) (h3 : unErr s.B s.C = 0) : pmE (downS s) s.D s.H s.K = 0 := by
  obtain ⟨a, b, c, d⟩ := sq_parts h1
  rw [pmE, if_pos (down_err h1), if_pos (show morErr (downS s).B s.D s.H = 0 from c), if_pos (show morErr (downS s).C s.D s.K = 0 from d), if_pos (show unErr (downS s).B (downS s).C = 0 from h3)]
  exact if_pos h2
theorem med_zero {s : Sq} (h1 : sqErr s = 0) (h2 : commB s = true) (h3 : pbErr (upS s) = 0) : medE (upS s) s.A s.F s.G = 0 := by
  obtain ⟨a, b, c, d⟩ := sq_parts h1
  rw [medE, if_pos h3, if_pos (show morErr s.A (upS s).B s.F = 0 from a), if_pos (show morErr s.A (upS s).C s.G = 0 from b)]
  exact if_pos h2
theorem pb_errs {s : Sq} (h1 : sqErr s = 0) : pbErr (upS s) = 0 ∨ pbErr (upS s) = 3 := by
  rw [pbErr, if_pos (up_err h1)]
  split
  · exact .inr rfl
  · exact .inl rfl
theorem un_errs {a b : Gr} (ga : GrOk a) (gb : GrOk b) : unErr a b = 0 ∨ unErr a b = 3 := by
  rw [unErr, if_pos (gErr_of ga), if_pos (gErr_of gb)]
  split
  · exact .inr rfl
  · exact .inl rfl
theorem un_zero {a b : Gr} (ga : GrOk a) (gb : GrOk b) (hn : a.nodes.length + b.nodes.length ≤ 40) (he : a.edges.length + b.edges.length ≤ 80) : unErr a b = 0 := by
  rw [unErr, if_pos (gErr_of ga), if_pos (gErr_of gb), if_neg]
  simp only [unBig]
  omega

/-- Pushout, pullback. -/
def SqPO (s : Sq) : Prop := IsPO (downS s) s.D s.H s.K
def SqPB (s : Sq) : Prop := IsPB (upS s) s.A s.F s.G

open Classical in
theorem kind_is {s : Sq} (h1 : sqErr s = 0) (h2 : commB s = true) (h3 : unErr s.B s.C = 0) :
    kindR s = (0, 3) ∨ kindR s = ((if SqPO s then 1 else 0) + (if SqPB s then 2 else 0), 0) := by
  have e1 : poErr (downS s) = 0 := by rw [poErr, if_pos (down_err h1)]; exact h3
  rcases pb_errs h1 with e | e
  · refine .inr ?_
    have k1 := poChk_iff (pm_zero h1 h2 h3)
    have k2 := pbChk_iff (med_zero h1 h2 e)
    rw [kindR, if_pos h1, if_pos h2, if_pos e1, if_pos e, kindN]
    have c1 : (poChk (downS s) s.D s.H s.K = true) = SqPO s := propext k1
    have c2 : (pbChk (upS s) s.A s.F s.G = true) = SqPB s := propext k2
    congr 1
    congr 1
    · by_cases h : SqPO s
      · rw [if_pos (k1.2 h), if_pos h]
      · rw [if_neg (fun x => h (k1.1 x)), if_neg h]
    · by_cases h : SqPB s
      · rw [if_pos (k2.2 h), if_pos h]
      · rw [if_neg (fun x => h (k2.1 x)), if_neg h]
  · refine .inl ?_
    rw [kindR, if_pos h1, if_pos h2, if_pos e1, if_neg (by omega), e]
theorem kind_too {s : Sq} (h1 : sqErr s = 0) (h2 : commB s = true) (h3 : unErr s.B s.C = 3) : kindR s = (0, 3) := by
  have e1 : poErr (downS s) = 3 := by rw [poErr, if_pos (down_err h1)]; exact h3
  rw [kindR, if_pos h1, if_pos h2, if_neg (by omega), e1]

theorem comm_of {s : Sq} (F : MorOk s.A s.B s.F) (G : MorOk s.A s.C s.G) (H : MorOk s.B s.D s.H) (K : MorOk s.C s.D s.K)
    (cn : ∀ i, i < s.A.nodes.length → fn s.H.nodes (fn s.F.nodes i) = fn s.K.nodes (fn s.G.nodes i)) (ce : ∀ i, i < s.A.edges.length → fn s.H.edges (fn s.F.edges i) = fn s.K.edges (fn s.G.edges i)) : commB s = true := by
  have l1 := F.ln
  have l2 := G.ln
  have l3 := F.le
  have l4 := G.le
  refine sameP_iff.2 ?_
  have key : ∀ {m : Nat} {f g h k : List Int} {nB nC nD : Nat}, f.length = m → g.length = m → placesIn f nB → placesIn g nC → h.length = nB → k.length = nC → placesIn h nD → placesIn k nD →
      (∀ i, i < m → fn h (fn f i) = fn k (fn g i)) → thru f h = thru g k := fun {m f g h k nB nC nD} e1 e2 pf pg e3 e4 ph pk hc => (thru_eq e1 e2).2 fun i hi => by
    have b1 := (fn_at pf (show i < f.length by omega)).2
    have b2 := (fn_at pg (show i < g.length by omega)).2
    have := hc i hi
    have c1 := (fn_at ph (show fn f i < h.length by omega)).1
    have c2 := (fn_at pk (show fn g i < k.length by omega)).1
    show nth h (fn f i) = nth k (fn g i)
    rw [c1, c2, this]
  have a1 := key F.ln G.ln F.rn G.rn H.ln K.ln H.rn K.rn cn
  have a2 := key F.le G.le F.re G.re H.le K.le H.re K.re ce
  simp only [thenP, a1, a2]
theorem comm_at {s : Sq} (h1 : sqErr s = 0) (h2 : commB s = true) :
    (∀ i, i < s.A.nodes.length → fn s.H.nodes (fn s.F.nodes i) = fn s.K.nodes (fn s.G.nodes i)) ∧ (∀ i, i < s.A.edges.length → fn s.H.edges (fn s.F.edges i) = fn s.K.edges (fn s.G.edges i)) := by
  have ok := sqErr_ok h1
  have l1 := ok.F.ln
  have l2 := ok.G.ln
  have l3 := ok.F.le
  have l4 := ok.G.le
  have h6 := sameP_iff.1 h2
  injection h6 with h6 h7
  exact ⟨fun i hi => same_thru h6 (by omega) (by omega), fun i hi => same_thru h7 (by omega) (by omega)⟩
theorem then_ok {a b c : Gr} {m n : Pa} (hm : MorOk a b m) (hn : MorOk b c n) : MorOk a c (thenP m n) := by
  have h := hm.hom
  have k := hn.hom
  refine Hom.ok ⟨by simp only [thenP, thru_len]; exact h.ln, by simp only [thenP, thru_len]; exact h.le, thru_in k.pn (by rw [k.ln]; exact h.pn), thru_in k.pe (by rw [k.le]; exact h.pe), fun i hi => ?_, fun i hi => ?_⟩ hm.ga hn.gb
  · have b1 := (fn_at h.pn (show i < m.nodes.length by rw [h.ln]; exact hi)).2
    simp only [thenP]
    rw [fn_thru (by rw [h.ln]; exact hi), k.kn _ b1, h.kn i hi]
  · have b1 := (fn_at h.pe (show i < m.edges.length by rw [h.le]; exact hi)).2
    simp only [thenP]
    obtain ⟨x1, x2, x3⟩ := h.ke i hi
    obtain ⟨y1, y2, y3⟩ := k.ke _ b1
    obtain ⟨_, _, g1, g2, g3, g4⟩ := hm.ga.edges _ (eth_mem hi)
    have l := h.ln
    rw [fn_thru (by rw [h.le]; exact hi), y1, y2, y3, x1, x2, x3, thru_nth (by omega), thru_nth (by omega)]
    exact ⟨rfl, rfl, rfl⟩
end Go.Proofs.YthcnpnogfblkcaaGreat

/- The graph of a part and its inclusion; the initial pushout is a pushout and a pullback. No program in sight. -/
namespace Go.Proofs.YthcnpnogfblkcaaGreat
open Abs Po
set_option linter.unusedSimpArgs false
set_option linter.unusedVariables false

/-- The inclusion of a part. -/
theorem ex_mor {g : Gr} {p : Pa} (h : SubOk g p) : MorOk (exG g p) g p := by
  have ln := asc_len h.an h.rn
  have le := asc_len h.ae h.re
  have g1 := h.gr.n
  have g2 := h.gr.e
  have nn : ∀ i, i < p.nodes.length → nth (exG g p).nodes i = nth g.nodes (nth p.nodes i).toNat := fun i hi => by
    rw [nth_eq (by simp [exG]; exact hi), nth_eq hi]
    simp [exG]
  have ee : ∀ i, i < p.edges.length → eth (exG g p).edges i = exD g p (nth p.edges i) := fun i hi => by
    rw [eth_eq (by simp [exG]; exact hi), nth_eq hi]
    simp [exG]
  have l1 : p.nodes.length = (exG g p).nodes.length := by simp [exG]
  have l2 : p.edges.length = (exG g p).edges.length := by simp [exG]
  refine ⟨⟨by rw [← l1]; omega, by rw [← l2]; omega, fun x hx => ?_, fun e he => ?_⟩, h.gr, l1, l2, fun i hi => ?_, fun i hi => ?_⟩
  · obtain ⟨i, hi, rfl⟩ := mem_nth hx
    rw [← l1] at hi
    rw [nn i hi]
    have := h.rn _ (nth_mem hi)
    exact h.gr.kinds _ (nth_mem (by omega))
  · obtain ⟨i, hi, rfl⟩ := mem_eth he
    rw [← l2] at hi
    have hm := nth_mem hi
    have := h.re _ hm
    obtain ⟨d1, d2⟩ := h.de _ hm
    obtain ⟨t1, t2, _⟩ := h.gr.edges _ (eth_mem (l := g.edges) (k := (nth p.edges i).toNat) (by omega))
    have a1 := idx_lt d1
    have a2 := idx_lt d2
    rw [ee i hi, exD, ← l1]
    exact ⟨t1, t2, a1.1, a1.2.1, a2.1, a2.2.1⟩
  · rw [← l1] at hi
    have := h.rn _ (nth_mem hi)
    exact ⟨this.1, this.2, (nn i hi).symm⟩
  · rw [← l2] at hi
    have hm := nth_mem hi
    have := h.re _ hm
    obtain ⟨d1, d2⟩ := h.de _ hm
    have a1 := idx_lt d1
    have a2 := idx_lt d2
    rw [ee i hi, exD]
    exact ⟨this.1, this.2, rfl, a1.2.2, a2.2.2⟩
theorem asc_nodup {l : List Int} (h : Asc l) : l.Nodup := by
  rw [List.nodup_iff_pairwise_ne]
  exact (asc_iff.1 h).imp fun h => by omega

theorem fn_inj {l : List Int} {n m : Nat} (hl : l.length = n) (pl : placesIn l m) (h : l.Nodup) {i j : Nat} (hi : i < n) (hj : j < n) (e : fn l i = fn l j) : i = j := (nodup_fn hl pl).1 h i j hi hj e
theorem fn_idx {l : List Int} {x : Int} (h : x ∈ l) : (idx l x).toNat < l.length ∧ nth l (idx l x).toNat = x := by
  have := idx_lt h
  exact ⟨by omega, this.2.2⟩
theorem idx_nth {l : List Int} (h : l.Nodup) {i : Nat} (hi : i < l.length) : idx l (nth l i) = i := by
  have h1 := idx_lt (nth_mem hi)
  obtain ⟨j, hj⟩ := Int.eq_ofNat_of_zero_le h1.1
  have h3 := h1.2.2
  have h4 := h1.2.1
  rw [hj, Int.toNat_natCast] at h3
  rw [hj] at h4 ⊢
  rw [List.nodup_iff_pairwise_ne, List.pairwise_iff_getElem] at h
  rw [nth_eq (by omega), nth_eq hi] at h3
  rcases Nat.lt_trichotomy i j with e | e | e
  · exact absurd h3.symm (h i j hi (by omega) e)
  · rw [e]
  · exact absurd h3 (h j i (by omega) hi e)

section initial
variable {a b : Gr} {m : Pa}
/-- The initial pushout over an injective morphism is a pushout and a pullback. -/
theorem in_sq (h1 : morErr a b m = 0) (h2 : injB a b m = true) : sqErr (inS a b m) = 0 ∧ commB (inS a b m) = true ∧ SqPO (inS a b m) ∧ SqPB (inS a b m) := by
  have mo := mor_ok h1
  have mn : m.nodes.Nodup := by simp [injB] at h2; exact h2.1.2
  have me : m.edges.Nodup := by simp [injB] at h2; exact h2.2
  have sB := sub_of (inB_ok (b := b) (mor_g h1).1 mo.ln)
  have sC := sub_of (inC_ok (m := m) (mor_g h1).2)
  have F := ex_mor sB
  have K := ex_mor sC
  have lA : (exG a (inB m b)).nodes.length = (bndL m b).length := by simp [exG, inB]
  have lAe : (exG a (inB m b)).edges.length = 0 := by simp [exG, inB]
  have lC : (exG b (inC m b)).nodes.length = (cnL m b).length := by simp [exG, inC]
  have lCe : (exG b (inC m b)).edges.length = (cxL m b).length := by simp [exG, inC]
  have nB : (bndL m b).Nodup := asc_nodup sB.an
  have nC : (cnL m b).Nodup := asc_nodup sC.an
  have nX : (cxL m b).Nodup := asc_nodup sC.ae
  have pB : placesIn (bndL m b) a.nodes.length := sB.rn
  have pC : placesIn (cnL m b) b.nodes.length := sC.rn
  have pX : placesIn (cxL m b) b.edges.length := sC.re
  have lm := mo.ln
  have le := mo.le
  have incn : ∀ i, i < (bndL m b).length → nth m.nodes (fn (bndL m b) i) ∈ cnL m b := fun i hi => by
    obtain ⟨e1, e2⟩ := fn_at pB hi
    obtain ⟨e3, e4⟩ := fn_at mo.rn (show fn (bndL m b) i < m.nodes.length by omega)
    refine cn_mem.2 ⟨_, e3, e4, .inr ?_⟩
    rw [idx_nth mn (by omega), ← e1]
    exact nth_mem hi
  have gn : ∀ i, i < (bndL m b).length → nth (inG m b) i = idx (cnL m b) (nth m.nodes (fn (bndL m b) i)) := fun i hi => by
    rw [nth_eq (by simp [inG]; exact hi)]
    simp only [inG, List.getElem_map, fn, nth_eq hi]
  have lG : (inG m b).length = (bndL m b).length := by simp [inG]
  have gk : ∀ i, i < (bndL m b).length → fn (inG m b) i < (cnL m b).length ∧ nth (cnL m b) (fn (inG m b) i) = nth m.nodes (fn (bndL m b) i) := fun i hi => by
    have := fn_idx (incn i hi)
    rw [fn, gn i hi]
    exact this
  have pG : placesIn (inG m b) (cnL m b).length := fun x hx => by
    obtain ⟨i, hi, rfl⟩ := mem_nth hx
    rw [lG] at hi
    have := idx_lt (incn i hi)
    rw [gn i hi]
    exact ⟨this.1, this.2.1⟩
  have G : MorOk (exG a (inB m b)) (exG b (inC m b)) ⟨inG m b, []⟩ := by
    refine Hom.ok ⟨?_, ?_, ?_, ?_, fun i hi => ?_, fun i hi => ?_⟩ F.ga K.ga
    · rw [lA]; exact lG
    · rw [lAe]; rfl
    · rw [lC]; exact pG
    · intro x hx; simp at hx
    · rw [lA] at hi
      have f1 := F.hom.kn i (by rw [lA]; exact hi)
      obtain ⟨k1, k2⟩ := gk i hi
      have c1 := K.hom.kn (fn (inG m b) i) (by rw [lC]; exact k1)
      have c2 : fn (cnL m b) (fn (inG m b) i) = fn m.nodes (fn (bndL m b) i) := by rw [fn, k2]; rfl
      have c3 := mo.hom.kn (fn (bndL m b) i) (fn_at pB hi).2
      rw [← c1, ← f1]
      show nth b.nodes (fn (cnL m b) (fn (inG m b) i)) = nth a.nodes (fn (bndL m b) i)
      rw [c2, c3]
    · rw [lAe] at hi; omega
  have cm : ∀ i, i < (bndL m b).length → fn m.nodes (fn (bndL m b) i) = fn (cnL m b) (fn (inG m b) i) := fun i hi => by
    rw [fn, ← (gk i hi).2]; rfl
  have hsq : sqErr (inS a b m) = 0 := sq_zero F G mo K
  have both : ∀ x c, x < a.nodes.length → c < (cnL m b).length → fn m.nodes x = fn (cnL m b) c → ∃ i, i < (bndL m b).length ∧ fn (bndL m b) i = x ∧ fn (inG m b) i = c := fun x c hx hc e => by
    obtain ⟨e1, e2⟩ := fn_at pC hc
    obtain ⟨e3, e4⟩ := fn_at mo.rn (show x < m.nodes.length by omega)
    have hin := nth_mem hc
    obtain ⟨y, hy, hy2, hy3⟩ := cn_mem.1 hin
    have e5 : nth m.nodes x = nth (cnL m b) c := by rw [e1, e3, e]
    rw [← e5] at hy3
    have hm := nth_mem (l := m.nodes) (k := x) (by omega)
    rcases hy3 with h | h
    · exact absurd hm h
    · rw [idx_nth mn (by omega)] at h
      obtain ⟨i, hi, hi2⟩ := mem_nth h
      have b1 : fn (bndL m b) i = x := by rw [fn, hi2]; rfl
      refine ⟨i, hi, b1, ?_⟩
      obtain ⟨k1, k2⟩ := gk i hi
      refine fn_inj rfl pC nC k1 hc ?_
      rw [fn, k2, b1, e5]
      rfl
  have coverN : ∀ d, d < b.nodes.length → (∃ x, x < a.nodes.length ∧ fn m.nodes x = d) ∨ (∃ c, c < (cnL m b).length ∧ fn (cnL m b) c = d) := fun d hd => by
    by_cases h : (d : Int) ∈ m.nodes
    · obtain ⟨x, hx, e⟩ := mem_nth h
      exact .inl ⟨x, by omega, by rw [fn, e]; rfl⟩
    · obtain ⟨c, hc, e⟩ := mem_nth (cn_mem.2 ⟨d, rfl, hd, .inl h⟩ : (d : Int) ∈ cnL m b)
      exact .inr ⟨c, hc, by rw [fn, e]; rfl⟩
  have coverE : ∀ d, d < b.edges.length → (∃ x, x < a.edges.length ∧ fn m.edges x = d) ∨ (∃ c, c < (cxL m b).length ∧ fn (cxL m b) c = d) := fun d hd => by
    by_cases h : (d : Int) ∈ m.edges
    · obtain ⟨x, hx, e⟩ := mem_nth h
      exact .inl ⟨x, by omega, by rw [fn, e]; rfl⟩
    · obtain ⟨c, hc, e⟩ := mem_nth (cx_mem.2 ⟨d, rfl, hd, h⟩ : (d : Int) ∈ cxL m b)
      exact .inr ⟨c, hc, by rw [fn, e]; rfl⟩
  have noE : ∀ x c, x < a.edges.length → c < (cxL m b).length → fn m.edges x = fn (cxL m b) c → False := fun x c hx hc e => by
    obtain ⟨e1, e2⟩ := fn_at pX hc
    obtain ⟨e3, e4⟩ := fn_at mo.re (show x < m.edges.length by omega)
    obtain ⟨y, hy, hy2, hy3⟩ := cx_mem.1 (nth_mem hc)
    have hm := nth_mem (l := m.edges) (k := x) (by omega)
    rw [e3, e, ← e1, hy] at hm
    exact hy3 hm
  refine ⟨hsq, comm_of F G mo K (fun i hi => cm i (by rw [← lA]; exact hi)) (fun i hi => ?_), ⟨?_, ?_⟩, ⟨?_, ?_⟩⟩
  · have : i < (exG a (inB m b)).edges.length := hi
    rw [lAe] at this
    omega
  · show PO (exG a (inB m b)).nodes.length a.nodes.length (exG b (inC m b)).nodes.length b.nodes.length (fn (bndL m b)) (fn (inG m b)) (fn m.nodes) (fn (cnL m b))
    rw [lA, lC]
    exact po_parts cm (fun c c' hc hc' e => fn_inj rfl pC nC hc hc' e) coverN both (fun x y hx hy e => .inl (fn_inj lm mo.rn mn hx hy e))
  · show PO (exG a (inB m b)).edges.length a.edges.length (exG b (inC m b)).edges.length b.edges.length (fn []) (fn []) (fn m.edges) (fn (cxL m b))
    rw [lAe, lCe]
    exact po_parts (fun i hi => absurd hi (by omega)) (fun c c' hc hc' e => fn_inj rfl pX nX hc hc' e) coverE (fun x c hx hc e => (noE x c hx hc e).elim) (fun x y hx hy e => .inl (fn_inj le mo.re me hx hy e))
  · show PB (exG a (inB m b)).nodes.length a.nodes.length (exG b (inC m b)).nodes.length (fn (bndL m b)) (fn (inG m b)) (fn m.nodes) (fn (cnL m b))
    rw [lA, lC]
    exact pb_parts cm (fun i j hi hj e => fn_inj rfl pB nB hi hj e) both
  · show PB (exG a (inB m b)).edges.length a.edges.length (exG b (inC m b)).edges.length (fn []) (fn []) (fn m.edges) (fn (cxL m b))
    rw [lAe, lCe]
    exact pb_parts (fun i hi => absurd hi (by omega)) (fun i j hi hj e => absurd hi (by omega)) (fun x c hx hc e => (noE x c hx hc e).elim)
theorem in_kind (h1 : morErr a b m = 0) (h2 : injB a b m = true) : kindR (inS a b m) = (0, 3) ∨ kindR (inS a b m) = (3, 0) := by
  obtain ⟨k1, k2, k3, k4⟩ := in_sq h1 h2
  have ok := sqErr_ok k1
  rcases un_errs ok.F.gb ok.G.gb with h | h
  · rcases kind_is k1 k2 h with e | e
    · exact .inl e
    · rw [if_pos k3, if_pos k4] at e
      exact .inr e
  · exact .inl (kind_too k1 k2 h)
end initial
end Go.Proofs.YthcnpnogfblkcaaGreat

/- The law of initial pushouts. -/
namespace Go.Proofs.YthcnpnogfblkcaaGreat
open Abs
set_option linter.unusedSimpArgs false
set_option linter.unusedVariables false
attribute [local simp] rn0 rn1 rn2 rn3 rn4 rn5 rn6 rn7 evOp nests Arg.ev St.val St.set St.new sliceOf binInt2 binInt AV.cells rdAt St.live retOf resOf resAll treeOf treeCell treeCells treeTups untree frameOf TV.av TR.av ints edgs prs fillV splice intsOf trees V1.tree bx Gr.v Pa.v opRd opWr opNew opNewR opArgs argsRd argRd Arg.rd AV.refs V1.refs refsL dstL

theorem inR_tiny {a b : Gr} {m : Pa} (ta : tinyG a) (tb : tinyG b) (tm : tinyP m) : TinySq (inR a b m).1 := by
  unfold inR
  split
  · rename_i h
    have h1 : morErr a b m = 0 := by
      unfold inE at h
      split at h
      · assumption
      · exact absurd h (by assumption)
    have sB := sub_of (inB_ok (b := b) (mor_g h1).1 (mor_ok h1).ln)
    have sC := sub_of (inC_ok (m := m) (mor_g h1).2)
    have e1 := (ex_mor sB).ga
    have e2 := (ex_mor sC).ga
    have l1 := asc_len sB.an sB.rn
    have l2 := asc_len sC.an sC.rn
    have l3 := asc_len sC.ae sC.re
    have g1 := e1.n
    have g2 := e1.e
    have g3 := e2.n
    have g4 := e2.e
    have t1 := ta.1
    have t2 := tb.1
    have t3 := tb.2
    simp only [tiny] at t1 t2 t3
    refine ⟨⟨?_, ?_⟩, ta, ⟨?_, ?_⟩, tb, ⟨?_, ?_⟩, ⟨?_, ?_⟩, tm, ⟨?_, ?_⟩⟩
    · show _ ≤ _; simp only [inS]; omega
    · show _ ≤ _; simp only [inS]; omega
    · show _ ≤ _; simp only [inS]; omega
    · show _ ≤ _; simp only [inS]; omega
    · show (inB m b).nodes.length ≤ _; omega
    · show (inB m b).edges.length ≤ _; simp [inB]
    · show (inG m b).length ≤ _
      have : (inG m b).length = (inB m b).nodes.length := by simp [inG, inB]
      omega
    · show ([] : List Int).length ≤ _; simp
    · show (inC m b).nodes.length ≤ _; omega
    · show (inC m b).edges.length ≤ _; omega
  · exact noS_tiny

def c_lawInit : MFunc := ⟨87, [.tmp 6], .seq (.region [⟨some 3, .box 0 25 (.tmp 0), none⟩, ⟨some 4, .box 1 25 (.tmp 1), none⟩, ⟨some 5, .box 2 27 (.tmp 2), none⟩, ⟨some 6, .mv (.c (.one (.t (.bool false)))), none⟩]) (.seq (.seq (.region [⟨some 13, .call (.c (.one (.fn 11 []))) 64 [], none⟩, ⟨some 14, .not (.tmp 13), none⟩, ⟨some 15, .mv (.tmp 14), none⟩, ⟨some 16, .load true 2 (.tmp 3), some (15, false)⟩, ⟨some 17, .call (.c (.one (.fn 13 []))) 68 [.tmp 16], some (15, false)⟩, ⟨some 18, .not (.tmp 17), some (15, false)⟩, ⟨some 19, .pick (.tmp 15) (.c (.one (.t (.bool true)))) (.tmp 18), none⟩, ⟨some 20, .mv (.tmp 19), none⟩, ⟨some 21, .load true 2 (.tmp 4), some (20, false)⟩, ⟨some 22, .call (.c (.one (.fn 13 []))) 73 [.tmp 21], some (20, false)⟩, ⟨some 23, .not (.tmp 22), some (20, false)⟩, ⟨some 24, .pick (.tmp 20) (.c (.one (.t (.bool true)))) (.tmp 23), none⟩, ⟨some 25, .mv (.tmp 24), none⟩, ⟨some 26, .load true 2 (.tmp 5), some (25, false)⟩, ⟨some 27, .call (.c (.one (.fn 14 []))) 78 [.tmp 26, .c (.one (.t (.int .i64 140)))], some (25, false)⟩, ⟨some 28, .not (.tmp 27), some (25, false)⟩, ⟨some 29, .pick (.tmp 25) (.c (.one (.t (.bool true)))) (.tmp 28), none⟩]) (.cond (.tmp 29) (.seq (.region [⟨some 30, .call (.c (.one (.fn 11 []))) 128 [], none⟩, ⟨some 6, .mv (.tmp 30), none⟩]) .ret) .skip)) (.seq (.draw [[], [], [], [2], [3], [], [5], [6, 4], [4, 7], [0, 1, 8, 7], [9], [10], [10], [], [13, 11, 9, 0, 1, 2, 3, 4, 5, 6, 7, 8, 9, 10, 11, 13], [12, 14, 0, 1, 2, 3, 4, 5, 6, 7, 8, 9, 10, 11, 12, 13, 14]] [⟨some 32, .load true 2 (.tmp 3), none⟩, ⟨some 33, .load true 2 (.tmp 4), none⟩, ⟨some 34, .fieldA 0 (.tmp 5), none⟩, ⟨some 35, .load false 1 (.tmp 34), none⟩, ⟨some 36, .call (.c (.one (.fn 25 []))) 196 [.tmp 35], none⟩, ⟨some 37, .fieldA 1 (.tmp 5), none⟩, ⟨some 38, .load false 1 (.tmp 37), none⟩, ⟨some 39, .call (.c (.one (.fn 25 []))) 199 [.tmp 38], none⟩, ⟨some 40, .build [.nil, .nil] [(0, (1, .tmp 36)), (1, (1, .tmp 39))], none⟩, ⟨some 41, .call (.c (.one (.fn 24 []))) 201 [.tmp 32, .tmp 33, .tmp 40], none⟩, ⟨some 31, .mv (.tmp 41), none⟩, ⟨some 42, .extract (.tmp 31) 0, none⟩, ⟨some 43, .extract (.tmp 31) 1, none⟩, ⟨some 7, .alloc 205 29 [.nil, .nil, .nil, .nil, .nil, .nil, .nil, .nil, .nil, .nil, .nil, .nil, .nil, .nil, .nil, .nil], none⟩, ⟨none, .store 16 (.tmp 7) (.tmp 42), none⟩, ⟨some 8, .mv (.tmp 43), none⟩]) (.seq (.region [⟨some 45, .load true 2 (.tmp 3), none⟩, ⟨some 46, .load true 2 (.tmp 4), none⟩, ⟨some 47, .load true 2 (.tmp 5), none⟩, ⟨some 48, .call (.c (.one (.fn 26 []))) 259 [.tmp 45, .tmp 46, .tmp 47], none⟩, ⟨some 44, .mv (.tmp 48), none⟩, ⟨some 49, .extract (.tmp 44) 0, none⟩, ⟨some 50, .extract (.tmp 44) 1, none⟩, ⟨some 9, .alloc 263 29 [.nil, .nil, .nil, .nil, .nil, .nil, .nil, .nil, .nil, .nil, .nil, .nil, .nil, .nil, .nil, .nil], none⟩, ⟨none, .store 16 (.tmp 9) (.tmp 49), none⟩, ⟨some 10, .mv (.tmp 50), none⟩]) (.seq (.seq (.region [⟨some 51, .mv (.tmp 8), none⟩, ⟨some 52, .mv (.tmp 10), none⟩, ⟨some 53, .bin .neq (.tmp 51) (.tmp 52), none⟩, ⟨some 54, .mv (.tmp 53), none⟩, ⟨some 55, .load true 16 (.tmp 7), some (54, false)⟩, ⟨some 56, .load true 16 (.tmp 9), some (54, false)⟩, ⟨some 57, .call (.c (.one (.fn 17 []))) 326 [.tmp 55, .tmp 56], some (54, false)⟩, ⟨some 58, .not (.tmp 57), some (54, false)⟩, ⟨some 59, .pick (.tmp 54) (.c (.one (.t (.bool true)))) (.tmp 58), none⟩, ⟨some 60, .mv (.tmp 59), none⟩, ⟨some 61, .mv (.tmp 8), some (60, false)⟩, ⟨some 62, .bin .neq (.tmp 61) (.c (.one (.t (.int .i64 0)))), some (60, false)⟩, ⟨some 63, .pick (.tmp 60) (.c (.one (.t (.bool true)))) (.tmp 62), none⟩]) (.cond (.tmp 63) (.seq (.region [⟨some 64, .mv (.tmp 8), none⟩, ⟨some 65, .mv (.tmp 10), none⟩, ⟨some 66, .bin .eql (.tmp 64) (.tmp 65), none⟩, ⟨some 67, .mv (.tmp 66), none⟩, ⟨some 68, .load true 16 (.tmp 7), some (67, true)⟩, ⟨some 69, .load true 16 (.tmp 9), some (67, true)⟩, ⟨some 70, .call (.c (.one (.fn 17 []))) 390 [.tmp 68, .tmp 69], some (67, true)⟩, ⟨some 71, .pick (.tmp 67) (.tmp 70) (.c (.one (.t (.bool false)))), none⟩, ⟨some 6, .mv (.tmp 71), none⟩]) .ret) .skip)) (.seq (.region [⟨some 73, .load true 16 (.tmp 7), none⟩, ⟨some 74, .call (.c (.one (.fn 21 []))) 449 [.tmp 73], none⟩, ⟨some 72, .mv (.tmp 74), none⟩, ⟨some 75, .extract (.tmp 72) 0, none⟩, ⟨some 76, .extract (.tmp 72) 1, none⟩, ⟨some 11, .mv (.tmp 75), none⟩, ⟨some 12, .mv (.tmp 76), none⟩]) (.seq (.region [⟨some 77, .mv (.tmp 12), none⟩, ⟨some 78, .bin .eql (.tmp 77) (.c (.one (.t (.int .i64 3)))), none⟩, ⟨some 79, .mv (.tmp 78), none⟩, ⟨some 80, .mv (.tmp 12), some (79, false)⟩, ⟨some 81, .bin .eql (.tmp 80) (.c (.one (.t (.int .i64 0)))), some (79, false)⟩, ⟨some 82, .mv (.tmp 81), some (79, false)⟩, ⟨some 83, .mv (.tmp 11), some (82, true)⟩, ⟨some 84, .bin .eql (.tmp 83) (.c (.one (.t (.int .i64 3)))), some (82, true)⟩, ⟨some 85, .pick (.tmp 82) (.tmp 84) (.c (.one (.t (.bool false)))), some (79, false)⟩, ⟨some 86, .pick (.tmp 79) (.c (.one (.t (.bool true)))) (.tmp 85), none⟩, ⟨some 6, .mv (.tmp 86), none⟩]) .ret))))))⟩
theorem k_lawInit : cFn Tryz.prog Tryz.f5 = some c_lawInit := by kernel_rfl
set_option maxHeartbeats 2000000 in
theorem lawInit_ok (a b : Gr) (m : Pa) (hm : huge m.nodes.length ∧ huge m.edges.length) : CallOK Tryz.prog 5 [a.v, b.v, m.v] (.sv (false, [.bool true])) := by
  refine callOK_W (callS_W (by kernel_rfl) Tryz.func5 k_lawInit (callable_of Tryz.func5 (by kernel_rfl)) (by simp [c_lawInit]) ?_)
  simp [c_lawInit]
  refine callS_tree awake14_ok ?_ ?_ ?_
  · rfl
  · rfl
  simp
  refine callS_tree (few5_ok a) ?_ ?_ ?_
  · rfl
  · rfl
  cases ha : fewG a
  · simp
    refine callS_tree awake14_ok ?_ ?_ ?_
    · rfl
    · rfl
    simp
  simp
  refine callS_tree (few5_ok b) ?_ ?_ ?_
  · rfl
  · rfl
  cases hb : fewG b
  · simp
    refine callS_tree awake14_ok ?_ ?_ ?_
    · rfl
    · rfl
    simp
  simp
  refine callS_tree (few6_ok m 140 hm.1 hm.2) ?_ ?_ ?_
  · rfl
  · rfl
  cases hk : fewP m 140
  · simp
    refine callS_tree awake14_ok ?_ ?_ ?_
    · rfl
    · rfl
    simp
  have ta := tiny_fewG ha
  have tb := tiny_fewG hb
  have tm := tiny_fewP hk
  have tr := inR_tiny (m := m) ta tb tm
  simp [dw0, dw1, dw2, dw3]
  refine dCall_ok (clone_row m.nodes tm.1).ok ?_ ?_ ?_
  · rfl
  · rfl
  simp [dw0, dw1, dw2, dw3]
  refine dCall_ok (clone_row m.edges tm.2).ok ?_ ?_ ?_
  · rfl
  · rfl
  simp [dw0, dw1, dw2, dw3]
  refine dCall_ok (sInit_ok a b m ta tb tm) ?_ ?_ ?_
  · rfl
  · rfl
  simp [dw0, dw1, dw2, dw3, sqT, Sq.v, Sq.cs]
  refine ⟨rfl, ?_⟩
  refine callS_tree (rInit_ok a b m ta tb tm) ?_ ?_ ?_
  · rfl
  · rfl
  simp [sqT, Sq.v, Sq.cs]
  refine callS_tree (same14_ok (inR a b m).1 tr) ?_ ?_ ?_
  · rfl
  · rfl
  simp
  by_cases h1 : inE a b m = 0
  case neg =>
    have e : (inR a b m).2 = inE a b m := by simp [inR, h1]
    simp [e, h1]
    refine callS_tree (same14_ok (inR a b m).1 tr) ?_ ?_ ?_
    · rfl
    · rfl
    simp
  have e : inR a b m = (inS a b m, 0) := by simp [inR, h1]
  rw [e] at tr ⊢
  have z1 : morErr a b m = 0 ∧ injB a b m = true := by
    unfold inE at h1
    split at h1
    · split at h1
      · exact ⟨by assumption, by assumption⟩
      · cases h1
    · exact absurd h1 (by assumption)
  simp
  refine callS_tree (sKind_ok (inS a b m) tr) ?_ ?_ ?_
  · rfl
  · rfl
  rcases in_kind z1.1 z1.2 with e2 | e2
  · rw [e2]
    simp [kindT]
  · rw [e2]
    simp [kindT]
end Go.Proofs.YthcnpnogfblkcaaGreat

/- What a row's argument reads as, opened into trees. -/
namespace Go.Proofs.YthcnpnogfblkcaaGreat.Abs
open Go.RowKit Go.ChangeShapes Go.WideShapes Go.Deep
set_option linter.unusedVariables false
set_option linter.unusedSimpArgs false

section
variable {H : Type} {enc : TypeId × Value → H} {P : Program} {w : World} {base : Nat} {spare : Nat → Bool} {held : Bool}

theorem open_int_list {t e : TypeId} {fuel : Nat} {cs : List Value} {x : DataW H × List MemPlace} (ht : P.underlying t = some (.slice e)) (he : P.underlying e = some (.int .i64)) (hc : P.cellsOf e = 1) (hB : P.bytesOf e = 8)
    (h : DataW.trod enc P w base spare held fuel t cs = some x) (hw : (x.1.weights P t).all (· ≤ reachBytes) = true) : ∃ l v, cs = [v] ∧ CR w (fun _ => False) (ints l) v ∧ l.length * 8 ≤ 140737488351232 := by
  rcases open_ints ht he hc h with ⟨rfl, _⟩ | ⟨a, len, cap, zs, rfl, hb, hl, hm, hz, rfl, hcell, _⟩
  · exact ⟨[], _, rfl, .sl 0 0 [] none (fun _ => default) (Nat.le_refl _) (fun h => by simp at h) (fun j c h => by simp at h), by simp⟩
  · have hlen : len ≤ zs.length := by
      rw [hz]
      split
      · exact hl
      · exact Nat.le_refl _
    refine ⟨zs.take len, _, rfl, ?_, ?_⟩
    · have e1 : ints (zs.take len) = .sl len ((zs.take len).map (.int .i64)) := by simp [ints, Nat.min_eq_left hlen]
      rw [e1]
      refine .sl len cap _ (some a) (fun j => .int .i64 (zs.getD j 0)) hl (fun _ => ⟨a, rfl, id, fun j hj => hcell j (by simp at hj; omega)⟩) (fun j c hj => ?_)
      simp only [List.getElem?_map, Option.map_eq_some_iff] at hj
      obtain ⟨z, hz', rfl⟩ := hj
      have hj2 : j < len ∧ zs[j]? = some z := by
        rw [List.getElem?_take] at hz'
        split at hz'
        · exact ⟨by assumption, hz'⟩
        · cases hz'
      have : zs.getD j 0 = z := by simp [List.getD, hj2.2]
      rw [this]
      exact .int _ _
    · have z := List.all_eq_true.1 hw _ (show (((lits (H := H) .i64 (zs.take len)).length + (lits (H := H) .i64 (zs.drop len)).length) * P.bytesOf e) ∈ _ by simp [DataW.weights, ht])
      rw [hB] at z
      simp [lits] at z
      simp only [reachBytes] at z
      simp [Nat.min_eq_left hlen]
      omega

instance : Inhabited Ed := ⟨⟨0, 0, 0⟩⟩

/-- A struct of three numbers. -/
theorem open_three {t e : TypeId} {f0 f1 f2 : Field} {fuel : Nat} {cs : List Value} {x : DataW H × List MemPlace} (ht : P.underlying t = some (.struct #[f0, f1, f2])) (h0 : f0.type = e) (h1 : f1.type = e) (h2 : f2.type = e) (o0 : f0.offset = 0) (o1 : f1.offset = 1) (o2 : f2.offset = 2)
    (he : P.underlying e = some (.int .i64)) (hc : P.cellsOf e = 1) (hct : P.cellsOf t = 3) (h : DataW.trod enc P w base spare held fuel t cs = some x) : ∃ d : Ed, cs = [.int .i64 d.t, .int .i64 d.f, .int .i64 d.g] := by
  obtain ⟨y0, y1, y2, n, _, hl, g0, g1, g2⟩ := trod_struct3 ht h
  rw [h0, o0, hc] at g0
  rw [h1, o1, hc] at g1
  rw [h2, o2, hc] at g2
  rw [hct] at hl
  match cs, hl with
  | [a, b, c], _ =>
    obtain ⟨p, e0, _⟩ := DataW.trod_int he g0
    obtain ⟨q, e1, _⟩ := DataW.trod_int he g1
    obtain ⟨r, e2, _⟩ := DataW.trod_int he g2
    simp at e0 e1 e2
    exact ⟨⟨p, q, r⟩, by rw [e0, e1, e2]⟩

theorem get_edL : ∀ {l : List Ed} {j : Nat} {c : C}, (edL l)[j]? = some c → j / 3 < l.length ∧ (edC (eth l (j / 3)))[j % 3]? = some c
  | [], j, c, h => by simp [edL] at h
  | e :: r, j, c, h => by
    have e1 : edL (e :: r) = edC e ++ edL r := by simp [edL]
    rw [e1] at h
    by_cases hj : j < 3
    · rw [List.getElem?_append_left (by simpa [edC] using hj)] at h
      have h1 : j / 3 = 0 := by omega
      have h2 : j % 3 = j := by omega
      rw [h1, h2]
      exact ⟨by simp, by simpa [eth] using h⟩
    · rw [List.getElem?_append_right (by simp [edC]; omega)] at h
      have hl : (edC e).length = 3 := rfl
      rw [hl] at h
      obtain ⟨i1, i2⟩ := get_edL h
      have h1 : j / 3 = (j - 3) / 3 + 1 := by omega
      have h2 : j % 3 = (j - 3) % 3 := by omega
      rw [h1, h2]
      exact ⟨by simpa using i1, by simpa [eth] using i2⟩

theorem open_edge_list {t e q : TypeId} {f0 f1 f2 : Field} {fuel : Nat} {cs : List Value} {x : DataW H × List MemPlace} (ht : P.underlying t = some (.slice e)) (he : P.underlying e = some (.struct #[f0, f1, f2])) (h0 : f0.type = q) (h1 : f1.type = q) (h2 : f2.type = q) (o0 : f0.offset = 0) (o1 : f1.offset = 1) (o2 : f2.offset = 2)
    (hq : P.underlying q = some (.int .i64)) (hc : P.cellsOf q = 1) (hct : P.cellsOf e = 3) (hB : P.bytesOf e = 24)
    (h : DataW.trod enc P w base spare held fuel t cs = some x) (hw : (x.1.weights P t).all (· ≤ reachBytes) = true) : ∃ l v, cs = [v] ∧ CR w (fun _ => False) (edgs l) v ∧ l.length * 24 ≤ 140737488351232 := by
  rcases open_slice ht h with ⟨rfl, _⟩ | ⟨a, len, cap, m, n, D, Pl, rfl, hb, hl, hm, hmm, rfl, hx⟩
  · exact ⟨[], _, rfl, .sl 0 0 [] none (fun _ => default) (Nat.le_refl _) (fun h => by simp [edL] at h) (fun j c h => by simp at h), by simp⟩
  · have hlen : len ≤ m := by
      rw [hmm]
      split
      · exact hl
      · exact Nat.le_refl _
    obtain ⟨F, hF⟩ := choose_lt (α := Ed) (p := fun i d => w.cell? (a.add (i * 3)) = some (.int .i64 d.t) ∧ w.cell? (a.add (i * 3 + 1)) = some (.int .i64 d.f) ∧ w.cell? (a.add (i * 3 + 2)) = some (.int .i64 d.g)) (fun i (hi : i < m) => by
      obtain ⟨cs', g1, g2⟩ := hx i hi
      rw [hct] at g1
      obtain ⟨_, _, g3⟩ := World.cells?_some g1
      obtain ⟨d, rfl⟩ := open_three he h0 h1 h2 o0 o1 o2 hq hc hct g2
      have c0 := g3 0 (by omega)
      have c1 := g3 1 (by omega)
      have c2 := g3 2 (by omega)
      rw [Addr.add_add] at c0 c1 c2
      exact ⟨d, by simpa using c0, by simpa using c1, by simpa using c2⟩)
    have hl2 : ((List.range len).map F).length = len := by simp
    refine ⟨(List.range len).map F, _, rfl, ?_, ?_⟩
    · have key : ∀ i, i < len → eth ((List.range len).map F) i = F i := fun i hi => by simp [eth, hi]
      have e1 : edgs ((List.range len).map F) = .sl len (edL ((List.range len).map F)) := by simp [edgs]
      rw [e1]
      let U : Nat → Value := fun j => if j % 3 = 0 then .int .i64 (F (j / 3)).t else if j % 3 = 1 then .int .i64 (F (j / 3)).f else .int .i64 (F (j / 3)).g
      refine .sl len cap _ (some a) U hl (fun _ => ⟨a, rfl, id, fun j hj => ?_⟩) (fun j c hj => ?_)
      · rw [len_edL, hl2] at hj
        obtain ⟨g0, g1, g2⟩ := hF (j / 3) (by omega)
        have hcase : j % 3 = 0 ∨ j % 3 = 1 ∨ j % 3 = 2 := by omega
        rcases hcase with e | e | e
        · have : j = j / 3 * 3 := by omega
          simp only [U, e, if_true]
          rw [this]; simpa using g0
        · have : j = j / 3 * 3 + 1 := by omega
          simp only [U, e]
          rw [show a.add j = a.add (j / 3 * 3 + 1) by rw [← this]]
          simpa using g1
        · have : j = j / 3 * 3 + 2 := by omega
          simp only [U, e]
          rw [show a.add j = a.add (j / 3 * 3 + 2) by rw [← this]]
          simpa using g2
      · obtain ⟨q1, q2⟩ := get_edL hj
        rw [hl2] at q1
        rw [key _ q1] at q2
        have hcase : j % 3 = 0 ∨ j % 3 = 1 ∨ j % 3 = 2 := by omega
        rcases hcase with e | e | e <;> (rw [e] at q2; simp [edC] at q2; subst q2; simp only [U, e]; exact CR.int _ _)
    · have z := List.all_eq_true.1 hw _ (show ((((List.range len).map D).length + ((List.range (m - len)).map fun j => D (len + j)).length) * P.bytesOf e) ∈ _ by simp [DataW.weights, ht])
      rw [hB] at z
      simp at z
      simp only [reachBytes] at z
      simp
      omega
end

/-! ### What opens, as words -/
def bound (n : Nat) : Prop := n * 8 ≤ 140737488351232
def OpensI (P : Program) (t : TypeId) : Prop := ∀ (H : Type) (enc : TypeId × Value → H) (w : World) (base : Nat) (spare : Nat → Bool) (held : Bool) (fuel : Nat) (cs : List Value) (x : DataW H × List MemPlace),
  DataW.trod enc P w base spare held fuel t cs = some x → (x.1.weights P t).all (· ≤ reachBytes) = true → ∃ l v, cs = [v] ∧ CR w (fun _ => False) (ints l) v ∧ bound l.length
def OpensE (P : Program) (t : TypeId) : Prop := ∀ (H : Type) (enc : TypeId × Value → H) (w : World) (base : Nat) (spare : Nat → Bool) (held : Bool) (fuel : Nat) (cs : List Value) (x : DataW H × List MemPlace),
  DataW.trod enc P w base spare held fuel t cs = some x → (x.1.weights P t).all (· ≤ reachBytes) = true → ∃ l v, cs = [v] ∧ CR w (fun _ => False) (edgs l) v ∧ bound l.length
def OpensG (P : Program) (t : TypeId) : Prop := ∀ (H : Type) (enc : TypeId × Value → H) (w : World) (base : Nat) (spare : Nat → Bool) (held : Bool) (fuel : Nat) (cs : List Value) (x : DataW H × List MemPlace),
  DataW.trod enc P w base spare held fuel t cs = some x → (x.1.weights P t).all (· ≤ reachBytes) = true → ∃ g : Gr, ∃ v0 v1, cs = [v0, v1] ∧ CR w (fun _ => False) (ints g.nodes) v0 ∧ CR w (fun _ => False) (edgs g.edges) v1 ∧ bound g.nodes.length ∧ bound g.edges.length
def OpensP (P : Program) (t : TypeId) : Prop := ∀ (H : Type) (enc : TypeId × Value → H) (w : World) (base : Nat) (spare : Nat → Bool) (held : Bool) (fuel : Nat) (cs : List Value) (x : DataW H × List MemPlace),
  DataW.trod enc P w base spare held fuel t cs = some x → (x.1.weights P t).all (· ≤ reachBytes) = true → ∃ g : Pa, ∃ v0 v1, cs = [v0, v1] ∧ CR w (fun _ => False) (ints g.nodes) v0 ∧ CR w (fun _ => False) (ints g.edges) v1 ∧ bound g.nodes.length ∧ bound g.edges.length

theorem opensI {P : Program} {t e : TypeId} (ht : P.underlying t = some (.slice e)) (he : P.underlying e = some (.int .i64)) (hc : P.cellsOf e = 1) (hB : P.bytesOf e = 8) : OpensI P t :=
  fun H enc w base spare held fuel cs x h hw => open_int_list ht he hc hB h hw

theorem opensE {P : Program} {t e q : TypeId} {f0 f1 f2 : Field} (ht : P.underlying t = some (.slice e)) (he : P.underlying e = some (.struct #[f0, f1, f2])) (h0 : f0.type = q ∧ f1.type = q ∧ f2.type = q ∧ f0.offset = 0 ∧ f1.offset = 1 ∧ f2.offset = 2)
    (hq : P.underlying q = some (.int .i64)) (hc : P.cellsOf q = 1) (hct : P.cellsOf e = 3) (hB : P.bytesOf e = 24) : OpensE P t := fun H enc w base spare held fuel cs x h hw => by
  obtain ⟨l, v, h1, h2, h3⟩ := open_edge_list ht he h0.1 h0.2.1 h0.2.2.1 h0.2.2.2.1 h0.2.2.2.2.1 h0.2.2.2.2.2 hq hc hct hB h hw
  exact ⟨l, v, h1, h2, by simp only [bound]; omega⟩

theorem opensG {P : Program} {t a b : TypeId} {f0 f1 : Field} (ht : P.underlying t = some (.struct #[f0, f1])) (hf : f0.type = a ∧ f1.type = b ∧ f0.offset = 0 ∧ f1.offset = 1) (hc : P.cellsOf t = 2) (ha : P.cellsOf a = 1) (hb : P.cellsOf b = 1) (oa : OpensI P a) (ob : OpensE P b) : OpensG P t := by
  intro H enc w base spare held fuel cs x h hw
  obtain ⟨y0, y1, n, rfl, hl, g0, g1⟩ := trod_struct2 ht h
  obtain ⟨rfl, rfl, o0, o1⟩ := hf
  rw [o0, ha] at g0
  rw [o1, hb] at g1
  rw [hc] at hl
  have hw : ((y0.1.weights P f0.type ++ (y1.1.weights P f1.type ++ [])).all (· ≤ reachBytes)) = true := by simpa [DataW.weights, ht, DataW.weightsEach] using hw
  rw [List.all_append, List.all_append, Bool.and_eq_true, Bool.and_eq_true] at hw
  match cs, hl with
  | [u, v], _ =>
    obtain ⟨l, v0, e0, c0, b0⟩ := oa _ _ _ _ _ _ _ _ _ g0 hw.1
    obtain ⟨l1, v1, e1, c1, b1⟩ := ob _ _ _ _ _ _ _ _ _ g1 hw.2.1
    simp at e0 e1
    subst e0 e1
    exact ⟨⟨l, l1⟩, _, _, rfl, c0, c1, b0, b1⟩

theorem opensP {P : Program} {t a : TypeId} {f0 f1 : Field} (ht : P.underlying t = some (.struct #[f0, f1])) (hf : f0.type = a ∧ f1.type = a ∧ f0.offset = 0 ∧ f1.offset = 1) (hc : P.cellsOf t = 2) (ha : P.cellsOf a = 1) (oa : OpensI P a) : OpensP P t := by
  intro H enc w base spare held fuel cs x h hw
  obtain ⟨y0, y1, n, rfl, hl, g0, g1⟩ := trod_struct2 ht h
  obtain ⟨h0, h1, o0, o1⟩ := hf
  rw [h0, o0, ha] at g0
  rw [h1, o1, ha] at g1
  rw [hc] at hl
  have hw : ((y0.1.weights P a ++ (y1.1.weights P a ++ [])).all (· ≤ reachBytes)) = true := by simpa [DataW.weights, ht, DataW.weightsEach, h0, h1] using hw
  rw [List.all_append, List.all_append, Bool.and_eq_true, Bool.and_eq_true] at hw
  match cs, hl with
  | [u, v], _ =>
    obtain ⟨l, v0, e0, c0, b0⟩ := oa _ _ _ _ _ _ _ _ _ g0 hw.1
    obtain ⟨l1, v1, e1, c1, b1⟩ := oa _ _ _ _ _ _ _ _ _ g1 hw.2.1
    simp at e0 e1
    subst e0 e1
    exact ⟨⟨l, l1⟩, _, _, rfl, c0, c1, b0, b1⟩
end Go.Proofs.YthcnpnogfblkcaaGreat.Abs

/- Squares, graphs and morphisms as arguments, opened. -/
namespace Go.Proofs.YthcnpnogfblkcaaGreat
open Abs
open Go.ChangeShapes Go.WideShapes Go.ChangeAt Go.RowKit
set_option linter.unusedSimpArgs false
set_option linter.unusedVariables false

theorem own : ownKnob Tryz.prog.godebug = none := by kernel_rfl
theorem laidOut : laidOutB Tryz.prog = true := by kernel_rfl
theorem oI : OpensI Tryz.prog 22 := opensI Tryz.underlying22 Tryz.underlying3 (by kernel_rfl) (by kernel_rfl)
theorem oE : OpensE Tryz.prog 23 := opensE Tryz.underlying23 Tryz.underlying76 ⟨rfl, rfl, rfl, rfl, rfl, rfl⟩ Tryz.underlying3 (by kernel_rfl) (by kernel_rfl) (by kernel_rfl)
theorem oG : OpensG Tryz.prog 25 := opensG Tryz.underlying25 ⟨rfl, rfl, rfl, rfl⟩ (by kernel_rfl) (by kernel_rfl) (by kernel_rfl) oI oE
theorem oM : OpensP Tryz.prog 27 := opensP Tryz.underlying27 ⟨rfl, rfl, rfl, rfl⟩ (by kernel_rfl) (by kernel_rfl) oI
theorem cG : Tryz.prog.cellsOf 25 = 2 := by kernel_rfl
theorem cM : Tryz.prog.cellsOf 27 = 2 := by kernel_rfl
theorem cS : Tryz.prog.cellsOf 29 = 16 := by kernel_rfl

def BoundG (g : Gr) : Prop := bound g.nodes.length ∧ bound g.edges.length
def BoundP (g : Pa) : Prop := bound g.nodes.length ∧ bound g.edges.length
structure BoundSq (s : Sq) : Prop where
  A : BoundG s.A
  B : BoundG s.B
  C : BoundG s.C
  D : BoundG s.D
  F : BoundP s.F
  G : BoundP s.G
  H : BoundP s.H
  K : BoundP s.K

theorem two_cells {w : World} {Z : Nat → Prop} {us : Array Value} {v0 v1 : Value} {c0 c1 : Abs.C} (e : us.toList = [v0, v1]) (h0 : CR w Z c0 v0) (h1 : CR w Z c1 v1) : TVR w Z (true, [c0, c1]) (.agg us) := by
  refine ⟨us, rfl, by simp [e], fun j c u hc hu => ?_⟩
  rw [e] at hu
  match j, hc, hu with
  | 0, hc, hu | 1, hc, hu =>
    simp at hc hu
    subst hc hu
    assumption
  | j + 2, hc, _ => simp at hc

/-- A graph, opened. -/
theorem open_graph {H : Type} {enc : TypeId × Value → H} {w : World} {base : Nat} {spare : Nat → Bool} {held : Bool} {v : Value} {d : DataW H} {ps : List MemPlace} (h : DataW.Trod enc Tryz.prog w base spare held 25 v d ps)
    (hw : (d.weights Tryz.prog 25).all (· ≤ reachBytes) = true) : ∃ g : Gr, TVR w (fun _ => False) g.v v ∧ BoundG g := by
  obtain ⟨fuel, hf⟩ := h
  obtain ⟨p, v0, v1, e, c0, c1, b0, b1⟩ := oG _ _ _ _ _ _ _ _ _ hf hw
  have hv : ∃ us : Array Value, v = .agg us := by
    cases v <;> first | exact ⟨_, rfl⟩ | (simp [Value.cells] at e)
  obtain ⟨us, rfl⟩ := hv
  have e : us.toList = [v0, v1] := e
  exact ⟨p, two_cells e c0 c1, b0, b1⟩

/-- A morphism, opened. -/
theorem open_mor {H : Type} {enc : TypeId × Value → H} {w : World} {base : Nat} {spare : Nat → Bool} {held : Bool} {v : Value} {d : DataW H} {ps : List MemPlace} (h : DataW.Trod enc Tryz.prog w base spare held 27 v d ps)
    (hw : (d.weights Tryz.prog 27).all (· ≤ reachBytes) = true) : ∃ g : Pa, TVR w (fun _ => False) g.v v ∧ BoundP g := by
  obtain ⟨fuel, hf⟩ := h
  obtain ⟨p, v0, v1, e, c0, c1, b0, b1⟩ := oM _ _ _ _ _ _ _ _ _ hf hw
  have hv : ∃ us : Array Value, v = .agg us := by
    cases v <;> first | exact ⟨_, rfl⟩ | (simp [Value.cells] at e)
  obtain ⟨us, rfl⟩ := hv
  have e : us.toList = [v0, v1] := e
  exact ⟨p, two_cells e c0 c1, b0, b1⟩

/-- A square, opened. -/
theorem open_sq {H : Type} {enc : TypeId × Value → H} {w : World} {base : Nat} {spare : Nat → Bool} {held : Bool} {v : Value} {d : DataW H} {ps : List MemPlace} (h : DataW.Trod enc Tryz.prog w base spare held 29 v d ps)
    (hw : (d.weights Tryz.prog 29).all (· ≤ reachBytes) = true) : ∃ s : Sq, TVR w (fun _ => False) s.v v ∧ BoundSq s := by
  obtain ⟨fuel, hf⟩ := h
  obtain ⟨xs, n, _, hx, hl, hlen, hfs⟩ := DataW.trod_struct Tryz.underlying29 hf
  rw [cS] at hl
  match xs, hlen with
  | [y0, y1, y2, y3, y4, y5, y6, y7], _ =>
    have g0 := hfs 0 _ rfl
    have g1 := hfs 1 _ rfl
    have g2 := hfs 2 _ rfl
    have g3 := hfs 3 _ rfl
    have g4 := hfs 4 _ rfl
    have g5 := hfs 5 _ rfl
    have g6 := hfs 6 _ rfl
    have g7 := hfs 7 _ rfl
    obtain ⟨rfl, rfl⟩ := Prod.mk.inj hx
    have hw : ((y0.1.weights Tryz.prog 25 ++ (y1.1.weights Tryz.prog 25 ++ (y2.1.weights Tryz.prog 25 ++ (y3.1.weights Tryz.prog 25 ++ (y4.1.weights Tryz.prog 27 ++ (y5.1.weights Tryz.prog 27 ++ (y6.1.weights Tryz.prog 27 ++ (y7.1.weights Tryz.prog 27 ++ [])))))))).all (· ≤ reachBytes)) = true := by
      simpa [DataW.weights, Tryz.underlying29, DataW.weightsEach] using hw
    simp only [List.all_append, Bool.and_eq_true] at hw
    obtain ⟨w0, w1, w2, w3, w4, w5, w6, w7, _⟩ := hw
    have hv : ∃ us : Array Value, v = .agg us := by
      cases v <;> first | exact ⟨_, rfl⟩ | (simp [Value.cells] at hl)
    obtain ⟨us, rfl⟩ := hv
    have hl : us.toList.length = 16 := hl
    match hu : us.toList, hl with
    | [a0, a1, a2, a3, a4, a5, a6, a7, a8, a9, a10, a11, a12, a13, a14, a15], _ =>
      simp only [Value.cells, hu] at g0 g1 g2 g3 g4 g5 g6 g7
      obtain ⟨x0, v0, v1, e0, c0, c1, b0, b1⟩ := oG _ _ _ _ _ _ _ _ _ g0 w0
      obtain ⟨x1, v2, v3, e1, c2, c3, b2, b3⟩ := oG _ _ _ _ _ _ _ _ _ g1 w1
      obtain ⟨x2, v4, v5, e2, c4, c5, b4, b5⟩ := oG _ _ _ _ _ _ _ _ _ g2 w2
      obtain ⟨x3, v6, v7, e3, c6, c7, b6, b7⟩ := oG _ _ _ _ _ _ _ _ _ g3 w3
      obtain ⟨x4, v8, v9, e4, c8, c9, b8, b9⟩ := oM _ _ _ _ _ _ _ _ _ g4 w4
      obtain ⟨x5, v10, v11, e5, c10, c11, b10, b11⟩ := oM _ _ _ _ _ _ _ _ _ g5 w5
      obtain ⟨x6, v12, v13, e6, c12, c13, b12, b13⟩ := oM _ _ _ _ _ _ _ _ _ g6 w6
      obtain ⟨x7, v14, v15, e7, c14, c15, b14, b15⟩ := oM _ _ _ _ _ _ _ _ _ g7 w7
      simp [cG, cM] at e0 e1 e2 e3 e4 e5 e6 e7
      obtain ⟨rfl, rfl⟩ := e0
      obtain ⟨rfl, rfl⟩ := e1
      obtain ⟨rfl, rfl⟩ := e2
      obtain ⟨rfl, rfl⟩ := e3
      obtain ⟨rfl, rfl⟩ := e4
      obtain ⟨rfl, rfl⟩ := e5
      obtain ⟨rfl, rfl⟩ := e6
      obtain ⟨rfl, rfl⟩ := e7
      refine ⟨⟨x0, x1, x2, x3, x4, x5, x6, x7⟩, ⟨us, rfl, by simp [hu, Sq.cs], fun j c u hc hu' => ?_⟩, ⟨⟨b0, b1⟩, ⟨b2, b3⟩, ⟨b4, b5⟩, ⟨b6, b7⟩, ⟨b8, b9⟩, ⟨b10, b11⟩, ⟨b12, b13⟩, ⟨b14, b15⟩⟩⟩
      rw [hu] at hu'
      match j, hc, hu' with
      | 0, hc, hu' | 1, hc, hu' | 2, hc, hu' | 3, hc, hu' | 4, hc, hu' | 5, hc, hu' | 6, hc, hu' | 7, hc, hu' | 8, hc, hu' | 9, hc, hu' | 10, hc, hu' | 11, hc, hu' | 12, hc, hu' | 13, hc, hu' | 14, hc, hu' | 15, hc, hu' =>
        simp [Sq.cs] at hc hu'
        subst hc hu'
        assumption
      | j + 16, hc, _ => simp [Sq.cs] at hc
end Go.Proofs.YthcnpnogfblkcaaGreat

/- The row of SquareInitial, closed, if the law answers true for every input. -/
namespace Go.Proofs.YthcnpnogfblkcaaGreat
open Abs
open Go.ChangeShapes Go.WideShapes Go.ChangeAt Go.RowKit
set_option linter.unusedSimpArgs false
set_option linter.unusedVariables false

namespace squareInitial
/-- What the law is to answer. -/
def Law : Prop := ∀ (x0 : Gr) (x1 : Gr) (x2 : Pa), BoundG x0 → BoundG x1 → BoundP x2 → CallOK Tryz.prog 5 [x0.v, x1.v, x2.v] (.sv (false, [.bool true]))

theorem calls (h : Law) {H : Type} {enc : TypeId × Value → H} {w : World} {base : Nat} {spare : Nat → Bool} {held : Bool} {v0 v1 v2 : Value} {d0 d1 d2 : DataW H} {p0 p1 p2 : List MemPlace}
    (h0 : DataW.Trod enc Tryz.prog w base spare held 25 v0 d0 p0) (hw0 : (d0.weights Tryz.prog 25).all (· ≤ reachBytes) = true)
    (h1 : DataW.Trod enc Tryz.prog w base spare held 25 v1 d1 p1) (hw1 : (d1.weights Tryz.prog 25).all (· ≤ reachBytes) = true)
    (h2 : DataW.Trod enc Tryz.prog w base spare held 27 v2 d2 p2) (hw2 : (d2.weights Tryz.prog 27).all (· ≤ reachBytes) = true)
    : Calls Tryz.prog 5 #[v0, v1, v2] w fun e w' => e = .returned (.bool true) ∧ Below w.heap.size w w' := by
  obtain ⟨x0, hx0, hb0⟩ := open_graph h0 hw0
  obtain ⟨x1, hx1, hb1⟩ := open_graph h1 hw1
  obtain ⟨x2, hx2, hb2⟩ := open_mor h2 hw2
  refine ((h x0 x1 x2 hb0 hb1 hb2).2 w (fun _ => False) #[v0, v1, v2] (fun b hb => hb.elim) rfl (fun j s u hs hu => ?_)).mono ?_
  · match j, hs, hu with
    | 0, hs, hu =>
      simp at hs hu
      subst hs hu
      exact hx0
    | 1, hs, hu =>
      simp at hs hu
      subst hs hu
      exact hx1
    | 2, hs, hu =>
      simp at hs hu
      subst hs hu
      exact hx2
    | j + 3, hs, _ => simp at hs
  · rintro e w' ⟨u, rfl, hu, hbel⟩
    obtain ⟨c, hc, hc2⟩ := hu
    simp at hc
    subst hc
    cases hc2
    exact ⟨rfl, hbel⟩

set_option maxRecDepth 100000 in
theorem lifted (law : Law) (os : Os) (started : os.Started) (H : Type) (enc : TypeId × Value → H) :
    ReturnsInHanded {} Tryz.checked os 5 .any (Rows.squareInitialSpec.pre6 enc Tryz.prog Tryz.f5 Rows.squareInitialRow.domain false) (Rows.squareInitialSpec.post enc Tryz.prog Tryz.f5 false true false false) := by
  refine returnsInHanded_of_change_sized (C := Tryz.checked) own started (by kernel_rfl) Tryz.func5
    (ChangeSpec.witness6 (enc := enc) (C := Tryz.checked) false ⟨#[], #[.agg #[.slice none 0 0, .slice none 0 0], .agg #[.slice none 0 0, .slice none 0 0], .agg #[.slice none 0 0, .slice none 0 0]], []⟩ 8 (by kernel_rfl) (by kernel_rfl) (by kernel_rfl) (by kernel_rfl)) ?_
  intro W base args ds gs before hval0 hW hcnd hsz0 _
  have hsz : (DataW.weightsEach Tryz.prog (Tryz.f5.params.toList ++ Rows.squareInitialSpec.plain.varTypes Tryz.prog) (ds ++ gs)).all (· ≤ reachBytes) = true := hsz0
  have hW' := hW
  obtain ⟨p, q, hA0, hV, rfl, hfz, hnd⟩ := hW
  have hA : DataW.TrodAll enc Tryz.prog W 0 (fun _ => true) true Tryz.f5.params.toList args.toList ds p := hA0
  rw [Tryz.params5] at hA hsz
  obtain ⟨v0, vs0, d0, ds0, p0, q0, hargs0, rfl, rfl, h0, r0⟩ := trodAll_cons hA
  obtain ⟨v1, vs1, d1, ds1, p1, q1, hargs1, rfl, rfl, h1, r1⟩ := trodAll_cons r0
  obtain ⟨v2, vs2, d2, ds2, p2, q2, hargs2, rfl, rfl, h2, r2⟩ := trodAll_cons r1
  obtain ⟨rfl, rfl, rfl⟩ := trodAll_nil r2
  obtain rfl : args = #[v0, v1, v2] := by cases args; simp_all
  obtain ⟨rfl, rfl⟩ := trodVars_none hV
  have hw0 : (d0.weights Tryz.prog 25).all (· ≤ reachBytes) = true := by
    refine List.all_eq_true.2 fun n hn => List.all_eq_true.1 hsz n ?_
    exact DataW.weights_mem_each (j := 0) (t := 25) (d := d0) rfl rfl n hn
  have lt0 : ∀ x ∈ p0, x.block < W.heap.size := by obtain ⟨m, hm⟩ := h0; exact DataW.trod_lt m _ _ _ hm
  have hw1 : (d1.weights Tryz.prog 25).all (· ≤ reachBytes) = true := by
    refine List.all_eq_true.2 fun n hn => List.all_eq_true.1 hsz n ?_
    exact DataW.weights_mem_each (j := 1) (t := 25) (d := d1) rfl rfl n hn
  have lt1 : ∀ x ∈ p1, x.block < W.heap.size := by obtain ⟨m, hm⟩ := h1; exact DataW.trod_lt m _ _ _ hm
  have hw2 : (d2.weights Tryz.prog 27).all (· ≤ reachBytes) = true := by
    refine List.all_eq_true.2 fun n hn => List.all_eq_true.1 hsz n ?_
    exact DataW.weights_mem_each (j := 2) (t := 27) (d := d2) rfl rfl n hn
  have lt2 : ∀ x ∈ p2, x.block < W.heap.size := by obtain ⟨m, hm⟩ := h2; exact DataW.trod_lt m _ _ _ hm
  clear hA0 hval0 hsz0 hsz
  refine (calls law h0 hw0 h1 hw1 h2 hw2).mono fun e W' ⟨he, bel⟩ => ?_
  subst he
  exact ⟨_, rfl, _, _, _, [], _, [], hW', trodAll_mk1 (shut_bool Tryz.underlying4 _), (trodAll_cons_mk (Below.trod laidOut (by kernel_rfl) (of_decide_eq_true (by kernel_rfl)) h0 bel lt0) (trodAll_cons_mk (Below.trod laidOut (by kernel_rfl) (of_decide_eq_true (by kernel_rfl)) h1 bel lt1) (trodAll_cons_mk (Below.trod laidOut (by kernel_rfl) (of_decide_eq_true (by kernel_rfl)) h2 bel lt2) trodAll_mk0))), rfl, bel.frame _, fun h => by cases h⟩

theorem over (law : Law) : Rows.squareInitialRow.holds Tryz.pinned (OpenSpec.ofChange Rows.squareInitialSpec) :=
  OpenClaim.holds_of_wide 5 Tryz.f5 rfl rfl rfl rfl rfl rfl rfl ⟨rfl, rfl, rfl, rfl, rfl⟩ rfl rfl rfl rfl rfl (by kernel_rfl) Tryz.func5 (by kernel_rfl)
    (of_decide_eq_true (by kernel_rfl)) (by unfold Func.isWrapper; first | (rw [if_pos (by decide +kernel)]; kernel_rfl) | (rw [if_neg (by decide +kernel)]; exact ⟨rfl, rfl⟩))
    (fun os started H enc _ => lifted law os started H enc)
end squareInitial
end Go.Proofs.YthcnpnogfblkcaaGreat

/- What a row's bounds say of the sizes. -/
namespace Go.Proofs.YthcnpnogfblkcaaGreat
open Abs
theorem hugeG {g : Gr} (h : BoundG g) : huge g.nodes.length ∧ huge g.edges.length := by
  have h1 := h.1; have h2 := h.2
  simp only [bound] at h1 h2
  exact ⟨by simp only [huge]; omega, by simp only [huge]; omega⟩
theorem hugeP {g : Pa} (h : BoundP g) : huge g.nodes.length ∧ huge g.edges.length := by
  have h1 := h.1; have h2 := h.2
  simp only [bound] at h1 h2
  exact ⟨by simp only [huge]; omega, by simp only [huge]; omega⟩
theorem BoundSq.huge {s : Sq} (h : BoundSq s) : HugeQ s := ⟨hugeP h.F, hugeP h.G, hugeP h.H, hugeP h.K⟩
end Go.Proofs.YthcnpnogfblkcaaGreat

/- SquareInitial answers true for every two graphs and morphism. -/
namespace Go.Proofs.YthcnpnogfblkcaaGreat
open Abs
theorem squareInitial_holds : Rows.SquareInitialSaid := squareInitial.over fun a b m _ _ hm => lawInit_ok a b m (hugeP hm)
end Go.Proofs.YthcnpnogfblkcaaGreat
