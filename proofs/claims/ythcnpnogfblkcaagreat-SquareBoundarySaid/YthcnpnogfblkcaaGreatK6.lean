/-
  Joined texts: the theorem of this claim and its last steps. No condition beyond those that each statement names.
-/
import Derived.Test.YthcnpnogfblkcaaGreatK5
import Derived.Test.YthcnpnogfblkcaaGreatRows
import Derived.WalkKit
import Derived.ProofKit
import Derived.OpenShut
import Derived.ChangeOld
import Derived.Below
import Derived.Carry
import Derived.Test.YthcnpnogfblkcaaGreatProg
import Derived.KernelRfl
/- The law of boundaries. -/
namespace Go.Proofs.YthcnpnogfblkcaaGreat
open Abs
set_option linter.unusedSimpArgs false
set_option linter.unusedVariables false
attribute [local simp] rn0 rn1 rn2 rn3 rn4 rn5 rn6 rn7 evOp nests Arg.ev St.val St.set St.new sliceOf binInt2 binInt AV.cells rdAt St.live retOf resOf resAll treeOf treeCell treeCells treeTups untree frameOf TV.av TR.av ints edgs prs fillV splice intsOf trees V1.tree bx Gr.v Pa.v opRd opWr opNew opNewR opArgs argsRd argRd Arg.rd AV.refs V1.refs refsL dstL

theorem kApp_row2 {nm nm' g typ esz bytes n k : Nat} {cs ts : List Abs.C} {S : St} {K : Eff → Prop} {news : List V1} (hnews : news = ts.map .t) (ho : S.ob (nm', g) = some ⟨true, true, false, esz, n, typ, cs.map .t⟩) (hl : ts.length = k * esz) (hb : (n + k) * bytes ≤ 140737488355328) (hn : n + k ≤ 9223372036854775807)
    (hK : ∀ E : Eff, E.v = .one (.row (nm, S.cnt nm)) → E.ob (nm, S.cnt nm) = some ⟨true, true, false, esz, n + k, typ, (cs ++ ts).map .t⟩ → (∀ a g, a ≠ nm → a ≠ nm' → E.ob (a, g) = S.ob (a, g)) → (∀ a, a ≠ nm → E.cnt a = S.cnt a) → K E) : kApp nm typ esz bytes (.one (.row (nm', g))) (some (k, news)) S K := by
  subst hnews
  unfold kApp evApp
  simp only [trees_t, St.live, ho, if_true]
  rw [if_pos ⟨trivial, trivial, trivial, trivial, hb, by simpa using hl, by omega⟩]
  refine ⟨_, rfl, hK _ rfl (by simp [upd_same]) (fun a g' h1 h2 => ?_) (fun a h => upd_ne _ _ h)⟩
  have e1 : (a, g') ≠ (nm, S.cnt nm) := fun e => h1 (Prod.mk.inj e).1
  have e2 : (a, g') ≠ (nm', g) := fun e => h2 (Prod.mk.inj e).1
  show upd (upd S.ob (nm', g) _) (nm, S.cnt nm) _ (a, g') = S.ob (a, g')
  rw [upd_ne _ _ e1, upd_ne _ _ e2]

def allK (B p : List Int) (k : Nat) : Bool := (B.take k).all fun x => decide (x ∈ p)
theorem allK_succ {B p : List Int} {k : Nat} (h : k < B.length) : allK B p (k + 1) = (allK B p k && decide (nth B k ∈ p)) := by
  rw [allK, take_succ_nth' h, List.all_append]
  simp [allK]
theorem allK_all {B p : List Int} : allK B p B.length = true ↔ ∀ x ∈ B, x ∈ p := by
  rw [allK, List.take_length]
  simp

def c_lawBoundary : MFunc := ⟨141, [.tmp 6], .seq (.region [⟨some 3, .box 0 42 (.tmp 0), none⟩, ⟨some 6, .mv (.c (.one (.t (.bool false)))), none⟩]) (.seq (.seq (.region [⟨some 21, .call (.c (.one (.fn 11 []))) 64 [], none⟩, ⟨some 22, .not (.tmp 21), none⟩, ⟨some 23, .mv (.tmp 22), none⟩, ⟨some 24, .mv (.tmp 1), some (23, false)⟩, ⟨some 25, .len (.tmp 24), some (23, false)⟩, ⟨some 26, .bin .gtr (.tmp 25) (.c (.one (.t (.int .i64 10)))), some (23, false)⟩, ⟨some 27, .pick (.tmp 23) (.c (.one (.t (.bool true)))) (.tmp 26), none⟩]) (.cond (.tmp 27) (.seq (.region [⟨some 28, .call (.c (.one (.fn 11 []))) 128 [], none⟩, ⟨some 6, .mv (.tmp 28), none⟩]) .ret) .skip)) (.seq (.region [⟨some 29, .load true 2 (.tmp 3), none⟩, ⟨some 30, .call (.c (.one (.fn 28 []))) 193 [.tmp 29], none⟩, ⟨some 7, .alloc 194 25 [.nil, .nil], none⟩, ⟨none, .store 2 (.tmp 7) (.tmp 30), none⟩]) (.seq (.draw [[], [], [], [1, 2], [0, 3, 3], [4], [5], [5], [], [], [8, 6, 4, 0, 1, 2, 3, 4, 5, 6, 8, 9], [9, 7, 10, 0, 1, 2, 3, 4, 5, 6, 7, 8, 9, 10]] [⟨some 32, .load true 2 (.tmp 7), none⟩, ⟨some 33, .mkrow 257 5 1 1 [.t (.int .u8 0)] [(0, (1, .c (.one (.t (.int .u8 255)))))], none⟩, ⟨some 34, .mv (.tmp 1), none⟩, ⟨some 35, .append 259 5 1 1 (.tmp 33) (.tmp 34), none⟩, ⟨some 36, .call (.c (.one (.fn 29 []))) 260 [.tmp 32, .tmp 35], none⟩, ⟨some 31, .mv (.tmp 36), none⟩, ⟨some 37, .extract (.tmp 31) 0, none⟩, ⟨some 38, .extract (.tmp 31) 1, none⟩, ⟨some 8, .alloc 264 25 [.nil, .nil], none⟩, ⟨some 9, .alloc 265 27 [.nil, .nil], none⟩, ⟨none, .store 2 (.tmp 8) (.tmp 37), none⟩, ⟨none, .store 2 (.tmp 9) (.tmp 38), none⟩]) (.seq (.region [⟨some 40, .load true 2 (.tmp 7), none⟩, ⟨some 41, .load true 2 (.tmp 8), none⟩, ⟨some 42, .load true 2 (.tmp 9), none⟩, ⟨some 43, .call (.c (.one (.fn 24 []))) 323 [.tmp 40, .tmp 41, .tmp 42], none⟩, ⟨some 39, .mv (.tmp 43), none⟩, ⟨some 44, .extract (.tmp 39) 0, none⟩, ⟨some 45, .extract (.tmp 39) 1, none⟩, ⟨some 10, .alloc 327 29 [.nil, .nil, .nil, .nil, .nil, .nil, .nil, .nil, .nil, .nil, .nil, .nil, .nil, .nil, .nil, .nil], none⟩, ⟨none, .store 16 (.tmp 10) (.tmp 44), none⟩, ⟨some 11, .mv (.tmp 45), none⟩]) (.seq (.region [⟨some 46, .load true 2 (.tmp 7), none⟩, ⟨some 47, .mv (.tmp 2), none⟩, ⟨some 48, .call (.c (.one (.fn 30 []))) 386 [.tmp 46, .tmp 47], none⟩, ⟨some 12, .alloc 387 63 [.nil, .nil], none⟩, ⟨none, .store 2 (.tmp 12) (.tmp 48), none⟩]) (.seq (.seq (.region [⟨some 49, .mv (.tmp 11), none⟩, ⟨some 50, .bin .neq (.tmp 49) (.c (.one (.t (.int .i64 0)))), none⟩, ⟨some 51, .mv (.tmp 50), none⟩, ⟨some 52, .fieldA 8 (.tmp 10), some (51, false)⟩, ⟨some 53, .fieldA 0 (.tmp 52), some (51, false)⟩, ⟨some 54, .load false 1 (.tmp 53), some (51, false)⟩, ⟨some 55, .len (.tmp 54), some (51, false)⟩, ⟨some 56, .fieldA 0 (.tmp 10), some (51, false)⟩, ⟨some 57, .fieldA 0 (.tmp 56), some (51, false)⟩, ⟨some 58, .load false 1 (.tmp 57), some (51, false)⟩, ⟨some 59, .len (.tmp 58), some (51, false)⟩, ⟨some 60, .bin .neq (.tmp 55) (.tmp 59), some (51, false)⟩, ⟨some 61, .pick (.tmp 51) (.c (.one (.t (.bool true)))) (.tmp 60), none⟩, ⟨some 62, .mv (.tmp 61), none⟩, ⟨some 63, .fieldA 8 (.tmp 10), some (62, false)⟩, ⟨some 64, .fieldA 1 (.tmp 63), some (62, false)⟩, ⟨some 65, .load false 1 (.tmp 64), some (62, false)⟩, ⟨some 66, .len (.tmp 65), some (62, false)⟩, ⟨some 67, .bin .neq (.tmp 66) (.c (.one (.t (.int .i64 0)))), some (62, false)⟩, ⟨some 68, .pick (.tmp 62) (.c (.one (.t (.bool true)))) (.tmp 67), none⟩]) (.cond (.tmp 68) (.seq (.region [⟨some 6, .mv (.c (.one (.t (.bool false)))), none⟩]) .ret) .skip)) (.seq (.region [⟨some 13, .alloc 576 63 [.nil, .nil], none⟩]) (.seq (.seq (.region [⟨some 69, .fieldA 0 (.tmp 8), none⟩, ⟨some 70, .load false 1 (.tmp 69), none⟩, ⟨some 71, .len (.tmp 70), none⟩, ⟨some 72, .mv (.c (.one (.t (.int .i64 0)))), none⟩]) (.block 0 (.loop (.seq (.region [⟨some 73, .bin .lss (.tmp 72) (.tmp 71), none⟩]) (.seq (.cond (.tmp 73) .skip (.exit 0)) (.seq (.block 1 (.seq (.region [⟨some 74, .mv (.tmp 72), none⟩, ⟨some 14, .mv (.tmp 74), none⟩]) (.seq (.region [⟨some 75, .fieldA 0 (.tmp 9), none⟩, ⟨some 76, .load false 1 (.tmp 75), none⟩, ⟨some 77, .mv (.tmp 14), none⟩, ⟨some 78, .call (.c (.one (.fn 31 []))) 835 [.tmp 76, .tmp 77], none⟩, ⟨some 15, .mv (.tmp 78), none⟩]) (.seq (.region [⟨some 79, .mv (.tmp 15), none⟩, ⟨some 80, .bin .lss (.tmp 79) (.c (.one (.t (.int .i64 0)))), none⟩, ⟨some 81, .mv (.tmp 80), none⟩, ⟨some 82, .fieldA 0 (.tmp 12), some (81, false)⟩, ⟨some 83, .load false 1 (.tmp 82), some (81, false)⟩, ⟨some 84, .mv (.tmp 15), some (81, false)⟩, ⟨some 85, .call (.c (.one (.fn 32 []))) 902 [.tmp 83, .tmp 84], some (81, false)⟩, ⟨some 86, .pick (.tmp 81) (.c (.one (.t (.bool true)))) (.tmp 85), none⟩]) (.cond (.tmp 86) (.region [⟨some 87, .fieldA 0 (.tmp 13), none⟩, ⟨some 88, .load false 1 (.tmp 87), none⟩, ⟨some 89, .mv (.tmp 14), none⟩, ⟨some 90, .mkrow 963 3 1 1 [.t (.int .i64 0)] [(0, (1, .tmp 89))], none⟩, ⟨some 91, .append 964 3 1 8 (.tmp 88) (.tmp 90), none⟩, ⟨some 92, .fieldA 0 (.tmp 13), none⟩, ⟨none, .store 1 (.tmp 92) (.tmp 91), none⟩]) .skip))))) (.region [⟨some 93, .bin .add (.tmp 72) (.c (.one (.t (.int .i64 1)))), none⟩, ⟨some 72, .mv (.tmp 93), none⟩]))))))) (.seq (.seq (.region [⟨some 94, .fieldA 1 (.tmp 8), none⟩, ⟨some 95, .load false 1 (.tmp 94), none⟩, ⟨some 96, .len (.tmp 95), none⟩, ⟨some 97, .mv (.c (.one (.t (.int .i64 0)))), none⟩]) (.block 2 (.loop (.seq (.region [⟨some 98, .bin .lss (.tmp 97) (.tmp 96), none⟩]) (.seq (.cond (.tmp 98) .skip (.exit 2)) (.seq (.block 3 (.seq (.region [⟨some 99, .mv (.tmp 97), none⟩, ⟨some 16, .mv (.tmp 99), none⟩]) (.seq (.region [⟨some 100, .fieldA 1 (.tmp 9), none⟩, ⟨some 101, .load false 1 (.tmp 100), none⟩, ⟨some 102, .mv (.tmp 16), none⟩, ⟨some 103, .call (.c (.one (.fn 31 []))) 1283 [.tmp 101, .tmp 102], none⟩, ⟨some 17, .mv (.tmp 103), none⟩]) (.seq (.region [⟨some 104, .mv (.tmp 17), none⟩, ⟨some 105, .bin .lss (.tmp 104) (.c (.one (.t (.int .i64 0)))), none⟩, ⟨some 106, .mv (.tmp 105), none⟩, ⟨some 107, .fieldA 1 (.tmp 12), some (106, false)⟩, ⟨some 108, .load false 1 (.tmp 107), some (106, false)⟩, ⟨some 109, .mv (.tmp 17), some (106, false)⟩, ⟨some 110, .call (.c (.one (.fn 32 []))) 1350 [.tmp 108, .tmp 109], some (106, false)⟩, ⟨some 111, .pick (.tmp 106) (.c (.one (.t (.bool true)))) (.tmp 110), none⟩]) (.cond (.tmp 111) (.region [⟨some 112, .fieldA 1 (.tmp 13), none⟩, ⟨some 113, .load false 1 (.tmp 112), none⟩, ⟨some 114, .mv (.tmp 16), none⟩, ⟨some 115, .mkrow 1411 3 1 1 [.t (.int .i64 0)] [(0, (1, .tmp 114))], none⟩, ⟨some 116, .append 1412 3 1 8 (.tmp 113) (.tmp 115), none⟩, ⟨some 117, .fieldA 1 (.tmp 13), none⟩, ⟨none, .store 1 (.tmp 117) (.tmp 116), none⟩]) .skip))))) (.region [⟨some 118, .bin .add (.tmp 97) (.c (.one (.t (.int .i64 1)))), none⟩, ⟨some 97, .mv (.tmp 118), none⟩]))))))) (.seq (.region [⟨some 18, .mv (.c (.one (.t (.bool true)))), none⟩]) (.seq (.seq (.region [⟨some 119, .fieldA 8 (.tmp 10), none⟩, ⟨some 120, .fieldA 0 (.tmp 119), none⟩, ⟨some 121, .load false 1 (.tmp 120), none⟩, ⟨some 122, .len (.tmp 121), none⟩, ⟨some 123, .mv (.c (.one (.t (.int .i64 0)))), none⟩]) (.block 4 (.loop (.seq (.region [⟨some 124, .bin .lss (.tmp 123) (.tmp 122), none⟩]) (.seq (.cond (.tmp 124) .skip (.exit 4)) (.seq (.block 5 (.seq (.region [⟨some 125, .idxA 1 (.tmp 121) (.tmp 123), none⟩, ⟨some 126, .load false 1 (.tmp 125), none⟩, ⟨some 20, .mv (.tmp 126), none⟩]) (.region [⟨some 127, .mv (.tmp 18), none⟩, ⟨some 128, .mv (.tmp 127), none⟩, ⟨some 129, .fieldA 0 (.tmp 12), some (128, true)⟩, ⟨some 130, .load false 1 (.tmp 129), some (128, true)⟩, ⟨some 131, .mv (.tmp 20), some (128, true)⟩, ⟨some 132, .call (.c (.one (.fn 32 []))) 1797 [.tmp 130, .tmp 131], some (128, true)⟩, ⟨some 133, .pick (.tmp 128) (.tmp 132) (.c (.one (.t (.bool false)))), none⟩, ⟨some 18, .mv (.tmp 133), none⟩]))) (.region [⟨some 134, .bin .add (.tmp 123) (.c (.one (.t (.int .i64 1)))), none⟩, ⟨some 123, .mv (.tmp 134), none⟩]))))))) (.seq (.region [⟨some 135, .mv (.tmp 18), none⟩, ⟨some 136, .load true 2 (.tmp 8), none⟩, ⟨some 137, .load true 2 (.tmp 13), none⟩, ⟨some 138, .call (.c (.one (.fn 33 []))) 1923 [.tmp 136, .tmp 137], none⟩, ⟨some 139, .bin .eql (.tmp 138) (.c (.one (.t (.int .i64 0)))), none⟩, ⟨some 140, .eqS false 0 (.tmp 135) (.tmp 139), none⟩, ⟨some 6, .mv (.tmp 140), none⟩]) .ret))))))))))))⟩
theorem k_lawBoundary : cFn Tryz.prog Tryz.f7 = some c_lawBoundary := by kernel_rfl
set_option maxHeartbeats 8000000 in
theorem lawBoundary_ok (d : Dr) (c : List Nat) (s : Nat) (hd : BoundD d) (hc : BoundB c) (hs : BoundU s) : CallOK Tryz.prog 7 [d.v, byV c, u64V s] (.sv (false, [.bool true])) := by
  refine callOK_W (callS_W (by kernel_rfl) Tryz.func7 k_lawBoundary (callable_of Tryz.func7 (by kernel_rfl)) (by simp [c_lawBoundary]) ?_)
  have go := mdG_ok (d := d)
  have f1 := mdG_few (d := d)
  simp [c_lawBoundary, byV, bys, Dr.v, u64V]
  refine callS_tree awake14_ok ?_ ?_ ?_
  · rfl
  · rfl
  have cast : ((c.length : Int) > 10) = (10 < c.length) := by
    apply propext
    omega
  by_cases hlen : 10 < c.length
  case pos =>
    simp [hlen, cast]
    refine callS_tree awake14_ok ?_ ?_ ?_
    · rfl
    · rfl
    simp
  simp [hlen, cast]
  refine callS_tree (made05_ok d hd) ?_ ?_ ?_
  · rfl
  · rfl
  have mo := grow_mor_id (c := c) go (by omega) (by omega)
  have hi := id_inj mo
  have gf := grow_few (g := mdG d) (l := 255 :: c)
  have r1 := grown10_ok (mdG d) (255 :: c) go (by simp; omega) (fun x hx => by
    rcases List.mem_cons.1 hx with rfl | h
    · omega
    · exact hc.1 x h)
  rw [grow_id.2] at r1
  have r2 := made7_ok (mdG d) s go
  have ps := sub_of (mask_sub14 (s := s) go)
  generalize mdG d = a at *
  generalize growG a (255 :: c) = b at *
  generalize maskP a s = p at *
  simp [dw0, dw1, dw2, dw3]
  refine kApp_row2 (n := 1) (cs := [.int .u8 255]) (ts := byL c) (by simp) (by simp) (by simp [byL]) (by omega) (by omega) fun E hv hob hob2 hcnt => ?_
  have q0 : E.ob (194, 0) = some (bx 25 (a.v.2.map .t)) := by rw [hob2 _ _ (by decide) (by decide)]; simp
  have c1 : E.cnt 264 = 0 := by rw [hcnt _ (by decide)]; simp
  have c2 : E.cnt 265 = 0 := by rw [hcnt _ (by decide)]; simp
  have c3 : E.cnt 327 = 0 := by rw [hcnt _ (by decide)]; simp
  have c4 : E.cnt 387 = 0 := by rw [hcnt _ (by decide)]; simp
  have c5 : E.cnt 576 = 0 := by rw [hcnt _ (by decide)]; simp
  simp at hv hob
  clear hob2 hcnt
  have ho : E.ob (259, 0) = some ⟨true, true, false, 1, (255 :: c).length, 5, (byL (255 :: c)).map .t⟩ := by
    rw [hob]
    simp [byL]
    omega
  simp [dw0, dw1, dw2, dw3, hv]
  refine dCall_frz (by decide) r1 (fun ob cnt => ⟨rfl, rfl⟩) ho ?_
  simp [dw0, dw1, dw2, dw3, c1, c2]
  refine ⟨by first | kernel_rfl | rfl, ?_⟩
  have tb : tinyG b := ⟨by simp only [tiny]; omega, by simp only [tiny]; omega⟩
  have ta : tinyG a := ⟨by simp only [tiny]; omega, by simp only [tiny]; omega⟩
  have lm := mo.ln
  have le := mo.le
  have tm : tinyP (idP a) := ⟨by simp only [tiny]; omega, by simp only [tiny]; omega⟩
  have r3 := sInit_ok a b (idP a) ta tb tm
  have x1 : inR a b (idP a) = (inS a b (idP a), 0) := if_pos (by rw [inE, if_pos (mor_zero mo), if_pos hi])
  rw [x1] at r3
  have law := bnd_left mo idL_nodup ps
  have bl := asc_len (n := (idP a).nodes.length) (asc_iff.2 bndL_asc) (fun x hx => bndL_in (m := idP a) (b := b) hx)
  have hS : inS a b (idP a) = ⟨exG a ⟨bndL (idP a) b, []⟩, a, exG b (inC (idP a) b), b, ⟨bndL (idP a) b, []⟩, ⟨inG (idP a) b, []⟩, idP a, inC (idP a) b⟩ := rfl
  have lA : (exG a ⟨bndL (idP a) b, []⟩).nodes.length = (bndL (idP a) b).length := by simp [exG]
  rw [hS] at r3
  clear hS x1 r1
  have pl1 := asc_len ps.an ps.rn
  have pl2 := asc_len ps.ae ps.re
  have tp : tinyP p := ⟨by simp only [tiny]; omega, by simp only [tiny]; omega⟩
  generalize exG a ⟨bndL (idP a) b, []⟩ = A at *
  generalize exG b (inC (idP a) b) = X at *
  generalize inG (idP a) b = G at *
  generalize inC (idP a) b = Cc at *
  generalize bndL (idP a) b = B at *
  generalize idP a = m at *
  simp [q0, c1, c2, c3, c4, c5]
  refine callS_tree r3 ?_ ?_ ?_
  · rfl
  · rfl
  simp [sqT, Sq.v, Sq.cs, q0, c3, c4, c5]
  refine callS_tree r2 ?_ ?_ ?_
  · rfl
  · rfl
  simp [q0, c4, c5, lA]
  refine loopW_count 72 b.nodes.length (fun k S => S.fr 8 = .one (.ptr (264, 0) 0) ∧ S.fr 9 = .one (.ptr (265, 0) 0) ∧ S.fr 10 = .one (.ptr (327, 0) 0) ∧ S.fr 12 = .one (.ptr (387, 0) 0) ∧ S.fr 13 = .one (.ptr (576, 0) 0) ∧ S.fr 71 = .one (.t (.int .i64 b.nodes.length)) ∧
    S.ob (264, 0) = some (bx 25 (b.v.2.map .t)) ∧ S.ob (265, 0) = some (bx 27 (m.v.2.map .t)) ∧ S.ob (327, 0) = some (bx 29 ((Sq.v ⟨A, a, X, b, ⟨B, []⟩, ⟨G, []⟩, m, Cc⟩).2.map .t)) ∧ S.ob (387, 0) = some (bx 63 (p.v.2.map .t)) ∧
    ∃ vN, S.ob (576, 0) = some (bx 63 [vN, .nil]) ∧ outR 964 3 1 (collect (lftF m.nodes p.nodes) k).length ((collect (lftF m.nodes p.nodes) k).map (.int .i64)) S.ob (.one vN)) (by omega) ?_ ?_ ?_
  · simp [collect_zero, outR_nil, Sq.v, Sq.cs, lA]
  · rintro k S hlt hw hk ⟨f8, f9, f10, f12, f13, f71, o1, o2, o3, o4, vN, o5, hN⟩
    simp [f8, f9, f10, f12, f13, f71, o1, o2, o3, o4, o5, hk, hlt]
    refine callS_tree (index_ok m.nodes k (by have := tm.1; exact this.small)) ?_ ?_ ?_
    · rfl
    · rfl
    have lc := collect_len (f := lftF m.nodes p.nodes) (k := k)
    by_cases h1 : idx m.nodes (k : Int) < 0
    · have e : lftF m.nodes p.nodes k = some (k : Int) := if_pos (.inl h1)
      simp [f8, f9, f10, f12, f13, f71, o1, o2, o3, o4, o5, hk, hlt, h1]
      refine kApp_grow (ts := [.int .i64 k]) rfl (hN.keep fun g => by simp) (by omega) rfl (by omega) (by omega) fun E hE hob hcnt => ?_
      obtain ⟨w, hu⟩ := hE.one
      rw [hu] at hE
      simp [f8, f9, f10, f12, f13, f71, o1, o2, o3, o4, o5, hk, hw, hob, hu, collect_some e]
      exact outR.keep (by simpa using hE) fun g => by simp
    · simp [f8, f9, f10, f12, f13, f71, o1, o2, o3, o4, o5, hk, hlt, h1]
      refine callS_tree (contains_ok p.nodes (idx m.nodes k) (by have := tp.1; exact this.small)) ?_ ?_ ?_
      · rfl
      · rfl
      by_cases h2 : idx m.nodes (k : Int) ∈ p.nodes
      · have e : lftF m.nodes p.nodes k = some (k : Int) := if_pos (.inr h2)
        simp [f8, f9, f10, f12, f13, f71, o1, o2, o3, o4, o5, hk, hlt, h1, h2]
        refine kApp_grow (ts := [.int .i64 k]) rfl (hN.keep fun g => by simp) (by omega) rfl (by omega) (by omega) fun E hE hob hcnt => ?_
        obtain ⟨w, hu⟩ := hE.one
        rw [hu] at hE
        simp [f8, f9, f10, f12, f13, f71, o1, o2, o3, o4, o5, hk, hw, hob, hu, collect_some e]
        exact outR.keep (by simpa using hE) fun g => by simp
      · have e : lftF m.nodes p.nodes k = none := if_neg fun h => h.elim h1 h2
        simp [f8, f9, f10, f12, f13, f71, o1, o2, o3, o4, o5, hk, hw, hlt, h1, h2, collect_none e]
        exact hN
  · rintro S hk ⟨f8, f9, f10, f12, f13, f71, o1, o2, o3, o4, vN, o5, hM⟩
    simp [f8, f9, f10, f12, f13, f71, o1, o2, o3, o4, o5, hk]
    refine loopW_count 97 b.edges.length (fun k S => S.fr 8 = .one (.ptr (264, 0) 0) ∧ S.fr 9 = .one (.ptr (265, 0) 0) ∧ S.fr 10 = .one (.ptr (327, 0) 0) ∧ S.fr 12 = .one (.ptr (387, 0) 0) ∧ S.fr 13 = .one (.ptr (576, 0) 0) ∧ S.fr 96 = .one (.t (.int .i64 b.edges.length)) ∧
      S.ob (264, 0) = some (bx 25 (b.v.2.map .t)) ∧ S.ob (265, 0) = some (bx 27 (m.v.2.map .t)) ∧ S.ob (327, 0) = some (bx 29 ((Sq.v ⟨A, a, X, b, ⟨B, []⟩, ⟨G, []⟩, m, Cc⟩).2.map .t)) ∧ S.ob (387, 0) = some (bx 63 (p.v.2.map .t)) ∧
      outR 964 3 1 (lftP b m p).nodes.length ((lftP b m p).nodes.map (.int .i64)) S.ob (.one vN) ∧
      ∃ vE, S.ob (576, 0) = some (bx 63 [vN, vE]) ∧ outR 1412 3 1 (collect (lftF m.edges p.edges) k).length ((collect (lftF m.edges p.edges) k).map (.int .i64)) S.ob (.one vE)) (by omega) ?_ ?_ ?_
    · simp [collect_zero, outR_nil, Sq.v, Sq.cs, f8, f9, f10, f12, f13, o1, o2, o3, o4, o5, lA]
      simpa [lftP] using hM
    · rintro k S hlt hw hk ⟨f8, f9, f10, f12, f13, f96, o1, o2, o3, o4, hM, vE, o5, hN⟩
      simp [f8, f9, f10, f12, f13, f96, o1, o2, o3, o4, o5, hk, hlt]
      refine callS_tree (index_ok m.edges k (by have := tm.2; exact this.small)) ?_ ?_ ?_
      · rfl
      · rfl
      have lc := collect_len (f := lftF m.edges p.edges) (k := k)
      by_cases h1 : idx m.edges (k : Int) < 0
      · have e : lftF m.edges p.edges k = some (k : Int) := if_pos (.inl h1)
        simp [f8, f9, f10, f12, f13, f96, o1, o2, o3, o4, o5, hk, hlt, h1]
        refine kApp_grow (ts := [.int .i64 k]) rfl (hN.keep fun g => by simp) (by omega) rfl (by omega) (by omega) fun E hE hob hcnt => ?_
        obtain ⟨w, hu⟩ := hE.one
        rw [hu] at hE
        have hM2 := hM.keep (ob' := E.ob) fun g => by rw [hob _ _ (by decide)]; simp
        simp [f8, f9, f10, f12, f13, f96, o1, o2, o3, o4, o5, hk, hw, hob, hu, collect_some e]
        exact ⟨outR.keep (by simpa using hM2) fun g => by simp, outR.keep (by simpa using hE) fun g => by simp⟩
      · simp [f8, f9, f10, f12, f13, f96, o1, o2, o3, o4, o5, hk, hlt, h1]
        refine callS_tree (contains_ok p.edges (idx m.edges k) (by have := tp.2; exact this.small)) ?_ ?_ ?_
        · rfl
        · rfl
        by_cases h2 : idx m.edges (k : Int) ∈ p.edges
        · have e : lftF m.edges p.edges k = some (k : Int) := if_pos (.inr h2)
          simp [f8, f9, f10, f12, f13, f96, o1, o2, o3, o4, o5, hk, hlt, h1, h2]
          refine kApp_grow (ts := [.int .i64 k]) rfl (hN.keep fun g => by simp) (by omega) rfl (by omega) (by omega) fun E hE hob hcnt => ?_
          obtain ⟨w, hu⟩ := hE.one
          rw [hu] at hE
          have hM2 := hM.keep (ob' := E.ob) fun g => by rw [hob _ _ (by decide)]; simp
          simp [f8, f9, f10, f12, f13, f96, o1, o2, o3, o4, o5, hk, hw, hob, hu, collect_some e]
          exact ⟨outR.keep (by simpa using hM2) fun g => by simp, outR.keep (by simpa using hE) fun g => by simp⟩
        · have e : lftF m.edges p.edges k = none := if_neg fun h => h.elim h1 h2
          simp [f8, f9, f10, f12, f13, f96, o1, o2, o3, o4, o5, hk, hw, hlt, h1, h2, collect_none e]
          exact ⟨hM, hN⟩
    · rintro S hk ⟨f8, f9, f10, f12, f13, f96, o1, o2, o3, o4, hM, vE, o5, hN⟩
      simp [f8, f9, f10, f12, f13, f96, o1, o2, o3, o4, o5, hk, Sq.v, Sq.cs]
      refine loopW_count 123 B.length (fun k S => S.fr 8 = .one (.ptr (264, 0) 0) ∧ S.fr 9 = .one (.ptr (265, 0) 0) ∧ S.fr 10 = .one (.ptr (327, 0) 0) ∧ S.fr 12 = .one (.ptr (387, 0) 0) ∧ S.fr 13 = .one (.ptr (576, 0) 0) ∧ S.fr 121 = .one (.t (ints B)) ∧ S.fr 122 = .one (.t (.int .i64 B.length)) ∧ S.fr 18 = .one (.t (.bool (allK B p.nodes k))) ∧
        S.ob (264, 0) = some (bx 25 (b.v.2.map .t)) ∧ S.ob (265, 0) = some (bx 27 (m.v.2.map .t)) ∧ S.ob (327, 0) = some (bx 29 ((Sq.v ⟨A, a, X, b, ⟨B, []⟩, ⟨G, []⟩, m, Cc⟩).2.map .t)) ∧ S.ob (387, 0) = some (bx 63 (p.v.2.map .t)) ∧
        outR 964 3 1 (lftP b m p).nodes.length ((lftP b m p).nodes.map (.int .i64)) S.ob (.one vN) ∧
        S.ob (576, 0) = some (bx 63 [vN, vE]) ∧ outR 1412 3 1 (lftP b m p).edges.length ((lftP b m p).edges.map (.int .i64)) S.ob (.one vE)) (by omega) ?_ ?_ ?_
      · simp [f8, f9, f10, f12, f13, o1, o2, o3, o4, o5, Sq.v, Sq.cs, lA]
        exact ⟨rfl, hM, hN⟩
      · rintro k S hlt hw hk ⟨f8, f9, f10, f12, f13, f121, f122, f18, o1, o2, o3, o4, hM, o5, hN⟩
        have tk := allK_succ (p := p.nodes) hlt
        cases h : allK B p.nodes k
        · rw [h] at f18
          rw [h, Bool.false_and] at tk
          simp [f8, f9, f10, f12, f13, f121, f122, f18, o1, o2, o3, o4, o5, hk, hw, hlt, drop_nth hlt]
          exact ⟨tk, hM, hN⟩
        · rw [h] at f18
          rw [h, Bool.true_and] at tk
          simp [f8, f9, f10, f12, f13, f121, f122, f18, o1, o2, o3, o4, o5, hk, hlt, drop_nth hlt]
          refine callS_tree (contains_ok p.nodes (nth B k) (by have := tp.1; exact this.small)) ?_ ?_ ?_
          · rfl
          · rfl
          simp [f8, f9, f10, f12, f13, f121, f122, f18, o1, o2, o3, o4, o5, hk, hw, hlt]
          exact ⟨tk.symm, hM, hN⟩
      · rintro S hk ⟨f8, f9, f10, f12, f13, f121, f122, f18, o1, o2, o3, o4, hM, o5, hN⟩
        have lq1 : (lftP b m p).nodes.length ≤ b.nodes.length := collect_len
        have lq2 : (lftP b m p).edges.length ≤ b.edges.length := collect_len
        simp [f8, f9, f10, f12, f13, f121, f122, f18, o1, o2, o3, o4, o5, hk]
        refine callS_part (right7_ok b (lftP b m p) (by simp only [tiny]; omega) (by simp only [tiny]; omega)) (fun ob cnt => ⟨rfl, rfl⟩) hM hN (by decide) fun ob1 _ _ _ => ?_
        have e : allK B p.nodes B.length = decide (partErr b (lftP b m p) = 0) := by
          by_cases g : partErr b (lftP b m p) = 0
          · rw [decide_eq_true g]
            exact allK_all.2 (law.2 g)
          · rw [decide_eq_false g]
            exact Bool.eq_false_iff.2 fun h => g (law.1 (allK_all.1 h))
        simp [f8, f9, f10, f12, f13, f121, f122, f18, o1, o2, o3, o4, o5, hk]
        exact e
end Go.Proofs.YthcnpnogfblkcaaGreat

/- Squares, graphs and morphisms as arguments, opened. -/
namespace Go.Proofs.YthcnpnogfblkcaaGreat
open Abs
open Go.ChangeShapes Go.WideShapes Go.ChangeAt Go.RowKit
set_option linter.unusedSimpArgs false
set_option linter.unusedVariables false

theorem own : ownKnob Tryz.prog.godebug = none := by kernel_rfl
theorem laidOut : laidOutB Tryz.prog = true := by kernel_rfl
theorem oI : OpensI Tryz.prog 22 := opensI Tryz.underlying22 Tryz.underlying3 (by kernel_rfl) (by kernel_rfl)
theorem oE : OpensE Tryz.prog 23 := opensE Tryz.underlying23 Tryz.underlying76 ⟨rfl, rfl, rfl, rfl, rfl, rfl⟩ Tryz.underlying3 (by kernel_rfl) (by kernel_rfl) (by kernel_rfl)
theorem oG : OpensG Tryz.prog 25 := opensG Tryz.underlying25 ⟨rfl, rfl, rfl, rfl⟩ (by kernel_rfl) (by kernel_rfl) (by kernel_rfl) oI oE
theorem oM : OpensP Tryz.prog 27 := opensP Tryz.underlying27 ⟨rfl, rfl, rfl, rfl⟩ (by kernel_rfl) (by kernel_rfl) oI
theorem cG : Tryz.prog.cellsOf 25 = 2 := by kernel_rfl
theorem cM : Tryz.prog.cellsOf 27 = 2 := by kernel_rfl
theorem cS : Tryz.prog.cellsOf 29 = 16 := by kernel_rfl

def BoundG (g : Gr) : Prop := bound g.nodes.length ∧ bound g.edges.length
def BoundP (g : Pa) : Prop := bound g.nodes.length ∧ bound g.edges.length
structure BoundSq (s : Sq) : Prop where
  A : BoundG s.A
  B : BoundG s.B
  C : BoundG s.C
  D : BoundG s.D
  F : BoundP s.F
  G : BoundP s.G
  H : BoundP s.H
  K : BoundP s.K

theorem two_cells {w : World} {Z : Nat → Prop} {us : Array Value} {v0 v1 : Value} {c0 c1 : Abs.C} (e : us.toList = [v0, v1]) (h0 : CR w Z c0 v0) (h1 : CR w Z c1 v1) : TVR w Z (true, [c0, c1]) (.agg us) := by
  refine ⟨us, rfl, by simp [e], fun j c u hc hu => ?_⟩
  rw [e] at hu
  match j, hc, hu with
  | 0, hc, hu | 1, hc, hu =>
    simp at hc hu
    subst hc hu
    assumption
  | j + 2, hc, _ => simp at hc

/-- A graph, opened. -/
theorem open_graph {H : Type} {enc : TypeId × Value → H} {w : World} {base : Nat} {spare : Nat → Bool} {held : Bool} {v : Value} {d : DataW H} {ps : List MemPlace} (h : DataW.Trod enc Tryz.prog w base spare held 25 v d ps)
    (hw : (d.weights Tryz.prog 25).all (· ≤ reachBytes) = true) : ∃ g : Gr, TVR w (fun _ => False) g.v v ∧ BoundG g := by
  obtain ⟨fuel, hf⟩ := h
  obtain ⟨p, v0, v1, e, c0, c1, b0, b1⟩ := oG _ _ _ _ _ _ _ _ _ hf hw
  have hv : ∃ us : Array Value, v = .agg us := by
    cases v <;> first | exact ⟨_, rfl⟩ | (simp [Value.cells] at e)
  obtain ⟨us, rfl⟩ := hv
  have e : us.toList = [v0, v1] := e
  exact ⟨p, two_cells e c0 c1, b0, b1⟩

/-- A morphism, opened. -/
theorem open_mor {H : Type} {enc : TypeId × Value → H} {w : World} {base : Nat} {spare : Nat → Bool} {held : Bool} {v : Value} {d : DataW H} {ps : List MemPlace} (h : DataW.Trod enc Tryz.prog w base spare held 27 v d ps)
    (hw : (d.weights Tryz.prog 27).all (· ≤ reachBytes) = true) : ∃ g : Pa, TVR w (fun _ => False) g.v v ∧ BoundP g := by
  obtain ⟨fuel, hf⟩ := h
  obtain ⟨p, v0, v1, e, c0, c1, b0, b1⟩ := oM _ _ _ _ _ _ _ _ _ hf hw
  have hv : ∃ us : Array Value, v = .agg us := by
    cases v <;> first | exact ⟨_, rfl⟩ | (simp [Value.cells] at e)
  obtain ⟨us, rfl⟩ := hv
  have e : us.toList = [v0, v1] := e
  exact ⟨p, two_cells e c0 c1, b0, b1⟩

/-- A square, opened. -/
theorem open_sq {H : Type} {enc : TypeId × Value → H} {w : World} {base : Nat} {spare : Nat → Bool} {held : Bool} {v : Value} {d : DataW H} {ps : List MemPlace} (h : DataW.Trod enc Tryz.prog w base spare held 29 v d ps)
    (hw : (d.weights Tryz.prog 29).all (· ≤ reachBytes) = true) : ∃ s : Sq, TVR w (fun _ => False) s.v v ∧ BoundSq s := by
  obtain ⟨fuel, hf⟩ := h
  obtain ⟨xs, n, _, hx, hl, hlen, hfs⟩ := DataW.trod_struct Tryz.underlying29 hf
  rw [cS] at hl
  match xs, hlen with
  | [y0, y1, y2, y3, y4, y5, y6, y7], _ =>
    have g0 := hfs 0 _ rfl
    have g1 := hfs 1 _ rfl
    have g2 := hfs 2 _ rfl
    have g3 := hfs 3 _ rfl
    have g4 := hfs 4 _ rfl
    have g5 := hfs 5 _ rfl
    have g6 := hfs 6 _ rfl
    have g7 := hfs 7 _ rfl
    obtain ⟨rfl, rfl⟩ := Prod.mk.inj hx
    have hw : ((y0.1.weights Tryz.prog 25 ++ (y1.1.weights Tryz.prog 25 ++ (y2.1.weights Tryz.prog 25 ++ (y3.1.weights Tryz.prog 25 ++ (y4.1.weights Tryz.prog 27 ++ (y5.1.weights Tryz.prog 27 ++ (y6.1.weights Tryz.prog 27 ++ (y7.1.weights Tryz.prog 27 ++ [])))))))).all (· ≤ reachBytes)) = true := by
      simpa [DataW.weights, Tryz.underlying29, DataW.weightsEach] using hw
    simp only [List.all_append, Bool.and_eq_true] at hw
    obtain ⟨w0, w1, w2, w3, w4, w5, w6, w7, _⟩ := hw
    have hv : ∃ us : Array Value, v = .agg us := by
      cases v <;> first | exact ⟨_, rfl⟩ | (simp [Value.cells] at hl)
    obtain ⟨us, rfl⟩ := hv
    have hl : us.toList.length = 16 := hl
    match hu : us.toList, hl with
    | [a0, a1, a2, a3, a4, a5, a6, a7, a8, a9, a10, a11, a12, a13, a14, a15], _ =>
      simp only [Value.cells, hu] at g0 g1 g2 g3 g4 g5 g6 g7
      obtain ⟨x0, v0, v1, e0, c0, c1, b0, b1⟩ := oG _ _ _ _ _ _ _ _ _ g0 w0
      obtain ⟨x1, v2, v3, e1, c2, c3, b2, b3⟩ := oG _ _ _ _ _ _ _ _ _ g1 w1
      obtain ⟨x2, v4, v5, e2, c4, c5, b4, b5⟩ := oG _ _ _ _ _ _ _ _ _ g2 w2
      obtain ⟨x3, v6, v7, e3, c6, c7, b6, b7⟩ := oG _ _ _ _ _ _ _ _ _ g3 w3
      obtain ⟨x4, v8, v9, e4, c8, c9, b8, b9⟩ := oM _ _ _ _ _ _ _ _ _ g4 w4
      obtain ⟨x5, v10, v11, e5, c10, c11, b10, b11⟩ := oM _ _ _ _ _ _ _ _ _ g5 w5
      obtain ⟨x6, v12, v13, e6, c12, c13, b12, b13⟩ := oM _ _ _ _ _ _ _ _ _ g6 w6
      obtain ⟨x7, v14, v15, e7, c14, c15, b14, b15⟩ := oM _ _ _ _ _ _ _ _ _ g7 w7
      simp [cG, cM] at e0 e1 e2 e3 e4 e5 e6 e7
      obtain ⟨rfl, rfl⟩ := e0
      obtain ⟨rfl, rfl⟩ := e1
      obtain ⟨rfl, rfl⟩ := e2
      obtain ⟨rfl, rfl⟩ := e3
      obtain ⟨rfl, rfl⟩ := e4
      obtain ⟨rfl, rfl⟩ := e5
      obtain ⟨rfl, rfl⟩ := e6
      obtain ⟨rfl, rfl⟩ := e7
      refine ⟨⟨x0, x1, x2, x3, x4, x5, x6, x7⟩, ⟨us, rfl, by simp [hu, Sq.cs], fun j c u hc hu' => ?_⟩, ⟨⟨b0, b1⟩, ⟨b2, b3⟩, ⟨b4, b5⟩, ⟨b6, b7⟩, ⟨b8, b9⟩, ⟨b10, b11⟩, ⟨b12, b13⟩, ⟨b14, b15⟩⟩⟩
      rw [hu] at hu'
      match j, hc, hu' with
      | 0, hc, hu' | 1, hc, hu' | 2, hc, hu' | 3, hc, hu' | 4, hc, hu' | 5, hc, hu' | 6, hc, hu' | 7, hc, hu' | 8, hc, hu' | 9, hc, hu' | 10, hc, hu' | 11, hc, hu' | 12, hc, hu' | 13, hc, hu' | 14, hc, hu' | 15, hc, hu' =>
        simp [Sq.cs] at hc hu'
        subst hc hu'
        assumption
      | j + 16, hc, _ => simp [Sq.cs] at hc
end Go.Proofs.YthcnpnogfblkcaaGreat

/- Descriptions, lists of bytes and words as arguments, opened. -/
namespace Go.Proofs.YthcnpnogfblkcaaGreat
open Abs
open Go.ChangeShapes Go.WideShapes Go.RowKit
set_option linter.unusedSimpArgs false
set_option linter.unusedVariables false

theorem oB : OpensB Tryz.prog 39 := fun H enc w base spare held fuel cs x h => open_by_list Tryz.underlying39 Tryz.underlying5 (by kernel_rfl) h
theorem oT : OpensT Tryz.prog 40 := fun H enc w base spare held fuel cs x h => open_t3_list Tryz.underlying40 Tryz.underlying91 Tryz.underlying5 (by kernel_rfl) (by kernel_rfl) h

theorem oD : OpensD Tryz.prog 42 := opensD Tryz.underlying42 ⟨rfl, rfl, rfl, rfl⟩ (by kernel_rfl) (by kernel_rfl) (by kernel_rfl) oB oT

theorem oA : OpensD Tryz.prog 44 := opensD Tryz.underlying44 ⟨rfl, rfl, rfl, rfl⟩ (by kernel_rfl) (by kernel_rfl) (by kernel_rfl) oB oT

theorem open_draft {H : Type} {enc : TypeId × Value → H} {w : World} {base : Nat} {spare : Nat → Bool} {held : Bool} {v : Value} {d : DataW H} {ps : List MemPlace} (h : DataW.Trod enc Tryz.prog w base spare held 42 v d ps)
    (hw : (d.weights Tryz.prog 42).all (· ≤ reachBytes) = true) : ∃ x : Dr, TVR w (fun _ => False) x.v v ∧ BoundD x := oD _ _ _ _ _ _ _ _ _ h

theorem open_above {H : Type} {enc : TypeId × Value → H} {w : World} {base : Nat} {spare : Nat → Bool} {held : Bool} {v : Value} {d : DataW H} {ps : List MemPlace} (h : DataW.Trod enc Tryz.prog w base spare held 44 v d ps)
    (hw : (d.weights Tryz.prog 44).all (· ≤ reachBytes) = true) : ∃ x : Dr, TVR w (fun _ => False) x.v v ∧ BoundD x := oA _ _ _ _ _ _ _ _ _ h

theorem open_bytes2 {H : Type} {enc : TypeId × Value → H} {w : World} {base : Nat} {spare : Nat → Bool} {held : Bool} {v : Value} {d : DataW H} {ps : List MemPlace} (h : DataW.Trod enc Tryz.prog w base spare held 43 v d ps)
    (hw : (d.weights Tryz.prog 43).all (· ≤ reachBytes) = true) : ∃ x, TVR w (fun _ => False) (by2V x) v ∧ BoundB2 x := opens_bytes2 oB Tryz.underlying43 (by kernel_rfl) (by kernel_rfl) h

theorem open_bytes3 {H : Type} {enc : TypeId × Value → H} {w : World} {base : Nat} {spare : Nat → Bool} {held : Bool} {v : Value} {d : DataW H} {ps : List MemPlace} (h : DataW.Trod enc Tryz.prog w base spare held 72 v d ps)
    (hw : (d.weights Tryz.prog 72).all (· ≤ reachBytes) = true) : ∃ x, TVR w (fun _ => False) (by3V x) v ∧ BoundB3 x := opens_bytes3 oB Tryz.underlying72 (by kernel_rfl) (by kernel_rfl) h

theorem open_bytes {H : Type} {enc : TypeId × Value → H} {w : World} {base : Nat} {spare : Nat → Bool} {held : Bool} {v : Value} {d : DataW H} {ps : List MemPlace} (h : DataW.Trod enc Tryz.prog w base spare held 39 v d ps)
    (hw : (d.weights Tryz.prog 39).all (· ≤ reachBytes) = true) (hs : ∃ a len cap, v = Value.slice a len cap) : ∃ x, TVR w (fun _ => False) (byV x) v ∧ BoundB x ∧ (x = [] ∨ ∃ es sp, d = .slice es sp ∧ es.length = x.length) := by
  obtain ⟨a, len, cap, rfl⟩ := hs
  exact opens_bytes oB h fun _ => rfl

theorem open_u64 {H : Type} {enc : TypeId × Value → H} {w : World} {base : Nat} {spare : Nat → Bool} {held : Bool} {v : Value} {d : DataW H} {ps : List MemPlace} (h : DataW.Trod enc Tryz.prog w base spare held 60 v d ps)
    (hw : (d.weights Tryz.prog 60).all (· ≤ reachBytes) = true) (hs : ∃ n, v = Value.int .u64 n) : ∃ x, TVR w (fun _ => False) (u64V x) v ∧ BoundU x := by
  obtain ⟨n, rfl⟩ := hs
  exact opens_u64 Tryz.underlying60 h fun _ => rfl

end Go.Proofs.YthcnpnogfblkcaaGreat

/- The row of SquareBoundary, closed, if the law answers true for every input. -/
namespace Go.Proofs.YthcnpnogfblkcaaGreat
open Abs
open Go.ChangeShapes Go.WideShapes Go.ChangeAt Go.RowKit
set_option linter.unusedSimpArgs false
set_option linter.unusedVariables false

namespace squareBoundary
/-- What the law is to answer. -/
def Law : Prop := ∀ (x0 : Dr) (x1 : List Nat) (x2 : Nat), BoundD x0 → BoundB x1 → BoundU x2 → CallOK Tryz.prog 7 [x0.v, byV x1, u64V x2] (.sv (false, [.bool true]))

theorem calls (h : Law) {H : Type} {enc : TypeId × Value → H} {w : World} {base : Nat} {spare : Nat → Bool} {held : Bool} {v0 v1 v2 : Value} {d0 d1 d2 : DataW H} {p0 p1 p2 : List MemPlace}
    (h0 : DataW.Trod enc Tryz.prog w base spare held 42 v0 d0 p0) (hw0 : (d0.weights Tryz.prog 42).all (· ≤ reachBytes) = true)
    (h1 : DataW.Trod enc Tryz.prog w base spare held 39 v1 d1 p1) (hw1 : (d1.weights Tryz.prog 39).all (· ≤ reachBytes) = true) (hs1 : ∃ a len cap, v1 = Value.slice a len cap)
    (h2 : DataW.Trod enc Tryz.prog w base spare held 60 v2 d2 p2) (hw2 : (d2.weights Tryz.prog 60).all (· ≤ reachBytes) = true) (hs2 : ∃ n, v2 = Value.int .u64 n)
    : Calls Tryz.prog 7 #[v0, v1, v2] w fun e w' => e = .returned (.bool true) ∧ Below w.heap.size w w' := by
  obtain ⟨x0, hx0, hb0⟩ := open_draft h0 hw0
  obtain ⟨x1, hx1, hb1, _⟩ := open_bytes h1 hw1 hs1
  obtain ⟨x2, hx2, hb2⟩ := open_u64 h2 hw2 hs2
  refine ((h x0 x1 x2 hb0 hb1 hb2).2 w (fun _ => False) #[v0, v1, v2] (fun b hb => hb.elim) rfl (fun j s u hs hu => ?_)).mono ?_
  · match j, hs, hu with
    | 0, hs, hu =>
      simp at hs hu
      subst hs hu
      exact hx0
    | 1, hs, hu =>
      simp at hs hu
      subst hs hu
      exact hx1
    | 2, hs, hu =>
      simp at hs hu
      subst hs hu
      exact hx2
    | j + 3, hs, _ => simp at hs
  · rintro e w' ⟨u, rfl, hu, hbel⟩
    obtain ⟨c, hc, hc2⟩ := hu
    simp at hc
    subst hc
    cases hc2
    exact ⟨rfl, hbel⟩

set_option maxRecDepth 100000 in
theorem lifted (law : Law) (os : Os) (started : os.Started) (H : Type) (enc : TypeId × Value → H) :
    ReturnsInHanded {} Tryz.checked os 7 .any (Rows.squareBoundarySpec.pre6 enc Tryz.prog Tryz.f7 Rows.squareBoundaryRow.domain false) (Rows.squareBoundarySpec.post enc Tryz.prog Tryz.f7 false true false false) := by
  refine returnsInHanded_of_change_sized (C := Tryz.checked) own started (by kernel_rfl) Tryz.func7
    (ChangeSpec.witness6 (enc := enc) (C := Tryz.checked) false ⟨#[], #[.agg #[.slice none 0 0, .slice none 0 0], .slice none 0 0, .int .u64 0], []⟩ 8 (by kernel_rfl) (by kernel_rfl) (by kernel_rfl) (by kernel_rfl)) ?_
  intro W base args ds gs before hval0 hW hcnd hsz0 _
  have hsz : (DataW.weightsEach Tryz.prog (Tryz.f7.params.toList ++ Rows.squareBoundarySpec.plain.varTypes Tryz.prog) (ds ++ gs)).all (· ≤ reachBytes) = true := hsz0
  have hW' := hW
  obtain ⟨p, q, hA0, hV, rfl, hfz, hnd⟩ := hW
  have hA : DataW.TrodAll enc Tryz.prog W 0 (fun _ => true) true Tryz.f7.params.toList args.toList ds p := hA0
  rw [Tryz.params7] at hA hsz
  obtain ⟨v0, vs0, d0, ds0, p0, q0, hargs0, rfl, rfl, h0, r0⟩ := trodAll_cons hA
  obtain ⟨v1, vs1, d1, ds1, p1, q1, hargs1, rfl, rfl, h1, r1⟩ := trodAll_cons r0
  obtain ⟨v2, vs2, d2, ds2, p2, q2, hargs2, rfl, rfl, h2, r2⟩ := trodAll_cons r1
  obtain ⟨rfl, rfl, rfl⟩ := trodAll_nil r2
  obtain rfl : args = #[v0, v1, v2] := by cases args; simp_all
  obtain ⟨rfl, rfl⟩ := trodVars_none hV
  have hw0 : (d0.weights Tryz.prog 42).all (· ≤ reachBytes) = true := by
    refine List.all_eq_true.2 fun n hn => List.all_eq_true.1 hsz n ?_
    exact DataW.weights_mem_each (j := 0) (t := 42) (d := d0) rfl rfl n hn
  have lt0 : ∀ x ∈ p0, x.block < W.heap.size := by obtain ⟨m, hm⟩ := h0; exact DataW.trod_lt m _ _ _ hm
  have hw1 : (d1.weights Tryz.prog 39).all (· ≤ reachBytes) = true := by
    refine List.all_eq_true.2 fun n hn => List.all_eq_true.1 hsz n ?_
    exact DataW.weights_mem_each (j := 1) (t := 39) (d := d1) rfl rfl n hn
  have lt1 : ∀ x ∈ p1, x.block < W.heap.size := by obtain ⟨m, hm⟩ := h1; exact DataW.trod_lt m _ _ _ hm
  have hw2 : (d2.weights Tryz.prog 60).all (· ≤ reachBytes) = true := by
    refine List.all_eq_true.2 fun n hn => List.all_eq_true.1 hsz n ?_
    exact DataW.weights_mem_each (j := 2) (t := 60) (d := d2) rfl rfl n hn
  have lt2 : ∀ x ∈ p2, x.block < W.heap.size := by obtain ⟨m, hm⟩ := h2; exact DataW.trod_lt m _ _ _ hm
  have hs1 := okWide_slice Tryz.underlying39 (hval0 1 _ _ (by rw [← Array.getElem?_toList, Tryz.params7]; rfl) rfl)
  have hs2 := okWide_int Tryz.underlying60 (hval0 2 _ _ (by rw [← Array.getElem?_toList, Tryz.params7]; rfl) rfl)
  clear hA0 hval0 hsz0 hsz
  refine (calls law h0 hw0 h1 hw1 hs1 h2 hw2 hs2).mono fun e W' ⟨he, bel⟩ => ?_
  subst he
  exact ⟨_, rfl, _, _, _, [], _, [], hW', trodAll_mk1 (shut_bool Tryz.underlying4 _), (trodAll_cons_mk (Below.trod laidOut (by kernel_rfl) (of_decide_eq_true (by kernel_rfl)) h0 bel lt0) (trodAll_cons_mk (Below.trod laidOut (by kernel_rfl) (of_decide_eq_true (by kernel_rfl)) h1 bel lt1) (trodAll_cons_mk (Below.trod laidOut (by kernel_rfl) (of_decide_eq_true (by kernel_rfl)) h2 bel lt2) trodAll_mk0))), rfl, bel.frame _, fun h => by cases h⟩

theorem over (law : Law) : Rows.squareBoundaryRow.holds Tryz.pinned (OpenSpec.ofChange Rows.squareBoundarySpec) :=
  OpenClaim.holds_of_wide 7 Tryz.f7 rfl rfl rfl rfl rfl rfl rfl ⟨rfl, rfl, rfl, rfl, rfl⟩ rfl rfl rfl rfl rfl (by kernel_rfl) Tryz.func7 (by kernel_rfl)
    (of_decide_eq_true (by kernel_rfl)) (by unfold Func.isWrapper; first | (rw [if_pos (by decide +kernel)]; kernel_rfl) | (rw [if_neg (by decide +kernel)]; exact ⟨rfl, rfl⟩))
    (fun os started H enc _ => lifted law os started H enc)
end squareBoundary
end Go.Proofs.YthcnpnogfblkcaaGreat

/- SquareBoundary answers true for every input. -/
namespace Go.Proofs.YthcnpnogfblkcaaGreat
open Abs
theorem squareBoundary_holds : Rows.SquareBoundarySaid := squareBoundary.over fun d c s hd hc hs => lawBoundary_ok d c s hd hc hs
end Go.Proofs.YthcnpnogfblkcaaGreat
