/-
  Joined texts: steps of this claim, part 5. No condition beyond those that each statement names.
-/
import Derived.Test.YthcnpnogfblkcaaGreatK4
/- Contracts: the reference's mediating morphisms and checks of pushouts; the reference's kind of a square. -/
namespace Go.Proofs.YthcnpnogfblkcaaGreat
open Abs
set_option linter.unusedSimpArgs false
set_option linter.unusedVariables false
attribute [local simp] rn0 rn1 rn2 rn3 rn4 rn5 rn6 rn7 evOp nests Arg.ev St.val St.set St.new sliceOf binInt2 binInt AV.cells rdAt St.live retOf resOf resAll treeOf treeCell treeCells treeTups untree frameOf TV.av TR.av ints edgs prs fillV splice intsOf trees V1.tree bx Gr.v Pa.v opRd opWr opNew opNewR opArgs argsRd argRd Arg.rd AV.refs V1.refs refsL dstL

def c_rMed10 : MFunc := ⟨60, [.cell 8 true 2, .tmp 9], .seq (.region [⟨some 4, .box 0 47 (.tmp 0), none⟩, ⟨some 5, .box 1 25 (.tmp 1), none⟩, ⟨some 6, .box 2 27 (.tmp 2), none⟩, ⟨some 7, .box 3 27 (.tmp 3), none⟩, ⟨some 8, .alloc 4 27 [.nil, .nil], none⟩, ⟨some 9, .mv (.c (.one (.t (.int .i64 0)))), none⟩]) (.seq (.seq (.region [⟨some 15, .load true 10 (.tmp 4), none⟩, ⟨some 16, .load true 2 (.tmp 5), none⟩, ⟨some 17, .load true 2 (.tmp 6), none⟩, ⟨some 18, .load true 2 (.tmp 7), none⟩, ⟨some 19, .call (.c (.one (.fn 152 []))) 68 [.tmp 15, .tmp 16, .tmp 17, .tmp 18], none⟩, ⟨some 10, .mv (.tmp 19), none⟩]) (.seq (.region [⟨some 20, .mv (.tmp 10), none⟩, ⟨some 21, .bin .neq (.tmp 20) (.c (.one (.t (.int .i64 0)))), none⟩]) (.cond (.tmp 21) (.seq (.region [⟨some 22, .build [.nil, .nil] [], none⟩, ⟨some 23, .mv (.tmp 10), none⟩, ⟨none, .store 2 (.tmp 8) (.tmp 22), none⟩, ⟨some 9, .mv (.tmp 23), none⟩]) .ret) .skip))) (.seq (.region [⟨some 25, .load true 10 (.tmp 4), none⟩, ⟨some 26, .call (.c (.one (.fn 53 []))) 257 [.tmp 25], none⟩, ⟨some 24, .mv (.tmp 26), none⟩, ⟨some 27, .extract (.tmp 24) 0, none⟩, ⟨some 28, .extract (.tmp 24) 1, none⟩, ⟨some 29, .extract (.tmp 24) 2, none⟩, ⟨some 30, .extract (.tmp 24) 3, none⟩, ⟨some 11, .alloc 263 25 [.nil, .nil], none⟩, ⟨some 12, .alloc 264 27 [.nil, .nil], none⟩, ⟨some 13, .alloc 265 27 [.nil, .nil], none⟩, ⟨none, .store 2 (.tmp 11) (.tmp 27), none⟩, ⟨none, .store 2 (.tmp 12) (.tmp 28), none⟩, ⟨none, .store 2 (.tmp 13) (.tmp 29), none⟩, ⟨some 14, .mv (.tmp 30), none⟩]) (.seq (.seq (.region [⟨some 31, .mv (.tmp 14), none⟩, ⟨some 32, .bin .neq (.tmp 31) (.c (.one (.t (.int .i64 0)))), none⟩]) (.cond (.tmp 32) (.seq (.region [⟨some 33, .build [.nil, .nil] [], none⟩, ⟨some 34, .mv (.tmp 14), none⟩, ⟨none, .store 2 (.tmp 8) (.tmp 33), none⟩, ⟨some 9, .mv (.tmp 34), none⟩]) .ret) .skip)) (.seq (.draw [[], [0], [1], [], [3], [], [5], [], [7], [], [9], [2, 4, 6, 8, 10], [], [12], [13], [], [15], [], [17], [], [19], [], [21], [14, 16, 18, 20, 22, 11], [11, 23], [24, 23, 0, 1, 2, 3, 4, 5, 6, 7, 8, 9, 10, 11, 12, 13, 14, 15, 16, 17, 18, 19, 20, 21, 22, 23, 24], [25, 0, 1, 2, 3, 4, 5, 6, 7, 8, 9, 10, 11, 12, 13, 14, 15, 16, 17, 18, 19, 20, 21, 22, 23, 24, 25]] [⟨some 35, .fieldA 0 (.tmp 11), none⟩, ⟨some 36, .load false 1 (.tmp 35), none⟩, ⟨some 37, .len (.tmp 36), none⟩, ⟨some 38, .fieldA 0 (.tmp 12), none⟩, ⟨some 39, .load false 1 (.tmp 38), none⟩, ⟨some 40, .fieldA 0 (.tmp 6), none⟩, ⟨some 41, .load false 1 (.tmp 40), none⟩, ⟨some 42, .fieldA 0 (.tmp 13), none⟩, ⟨some 43, .load false 1 (.tmp 42), none⟩, ⟨some 44, .fieldA 0 (.tmp 7), none⟩, ⟨some 45, .load false 1 (.tmp 44), none⟩, ⟨some 46, .call (.c (.one (.fn 153 []))) 459 [.tmp 37, .tmp 39, .tmp 41, .tmp 43, .tmp 45], none⟩, ⟨some 47, .fieldA 1 (.tmp 11), none⟩, ⟨some 48, .load false 1 (.tmp 47), none⟩, ⟨some 49, .len (.tmp 48), none⟩, ⟨some 50, .fieldA 1 (.tmp 12), none⟩, ⟨some 51, .load false 1 (.tmp 50), none⟩, ⟨some 52, .fieldA 1 (.tmp 6), none⟩, ⟨some 53, .load false 1 (.tmp 52), none⟩, ⟨some 54, .fieldA 1 (.tmp 13), none⟩, ⟨some 55, .load false 1 (.tmp 54), none⟩, ⟨some 56, .fieldA 1 (.tmp 7), none⟩, ⟨some 57, .load false 1 (.tmp 56), none⟩, ⟨some 58, .call (.c (.one (.fn 153 []))) 471 [.tmp 49, .tmp 51, .tmp 53, .tmp 55, .tmp 57], none⟩, ⟨some 59, .build [.nil, .nil] [(0, (1, .tmp 46)), (1, (1, .tmp 58))], none⟩, ⟨none, .store 2 (.tmp 8) (.tmp 59), none⟩, ⟨some 9, .mv (.c (.one (.t (.int .i64 0)))), none⟩]) .ret))))⟩
theorem k_rMed10 : cFn Tryz.prog Tryz.f114 = some c_rMed10 := by kernel_rfl
set_option maxHeartbeats 1000000 in
theorem rMed10_ok (s : Sp) (x : Gr) (h k : Pa) (ts : TinySp s) (tx : tinyG x) (th : tinyP h) (tk : tinyP k) : CallOK Tryz.prog 114 [s.v, x.v, h.v, k.v] (pmT (pmR s x h k)) := by
  refine callOK_W (callS_W (by kernel_rfl) Tryz.func114 k_rMed10 (callable_of Tryz.func114 (by kernel_rfl)) (by simp [c_rMed10]) ?_)
  simp [c_rMed10, Sp.v, Sp.cs]
  refine callS_tree (cocone_ok s x h k ts tx th tk) ?_ ?_ ?_
  · rfl
  · rfl
  by_cases h1 : pmE s x h k = 0
  case neg =>
    have e : pmR s x h k = (⟨[], []⟩, pmE s x h k) := by simp [pmR, h1]
    simp [h1, pmT, e]
  have e : pmR s x h k = (pmC s h k, 0) := by simp [pmR, h1]
  obtain ⟨q1, q2, q3, q4, q5⟩ := pmE_ok h1
  have ok := spErr_ok q1
  have m1 := mor_ok q2
  have m2 := mor_ok q3
  have l1 := m1.ln
  have l2 := m2.ln
  have l3 := m1.le
  have l4 := m2.le
  obtain ⟨g1, g2⟩ := poG_few q4
  have i1 := poI_len (s := s)
  have j1 := poJ_len (s := s)
  have tn : tiny (poG s).nodes.length := by simp only [tiny]; omega
  have te : tiny (poG s).edges.length := by simp only [tiny]; omega
  have e2 : poR s = (poG s, poI s, poJ s, 0) := by simp [poR, poErr, q1, q4]
  simp [h1]
  refine callS_tree (of10_ok s ts) ?_ ?_ ?_
  · rfl
  · rfl
  simp [dw0, dw1, dw2, dw3, gluT, e2]
  refine dCall_ok (onto_ok (poG s).nodes.length (poI s).nodes h.nodes (poJ s).nodes k.nodes tn (poI_nin ok) (poJ_nin ok) (by omega) (by omega) (by have := ts.B.1; simp only [tiny] at *; omega) (by have := ts.C.1; simp only [tiny] at *; omega)) ?_ ?_ ?_
  · rfl
  · rfl
  simp [dw0, dw1, dw2, dw3]
  refine dCall_ok (onto_ok (poG s).edges.length (poI s).edges h.edges (poJ s).edges k.edges te (poI_ein ok) (poJ_ein ok) (by omega) (by omega) (by have := ts.B.2; simp only [tiny] at *; omega) (by have := ts.C.2; simp only [tiny] at *; omega)) ?_ ?_ ?_
  · rfl
  · rfl
  simp [dw0, dw1, dw2, dw3, pmT, e, pmC]
  rfl

/-- The last place of a number among the first j of a list (or -1). -/
def bkV (l : List Int) (k : Nat) : Nat → Int
  | 0 => -1
  | j + 1 => if nth l j = k then j else bkV l k j
def bkL (l : List Int) (n : Nat) : List Int := (List.range n).map fun k => bkV l k l.length
theorem bkL_len {l : List Int} {n : Nat} : (bkL l n).length = n := by simp [bkL]
theorem bkL_succ {l : List Int} {n : Nat} : bkL l (n + 1) = bkL l n ++ [bkV l n l.length] := by simp [bkL, List.range_succ]
theorem set_last {a : List Int} {x y : Int} {n : Nat} (h : a.length = n) : (a ++ [x]).set n y = a ++ [y] := by
  rw [List.set_append_right _ _ (by omega), h, Nat.sub_self]
  rfl

def c_back06 : MFunc := ⟨33, [.tmp 4], .seq (.region [⟨some 4, .mv (.c (.one .nil)), none⟩]) (.seq (.region [⟨some 5, .mv (.c (.one .nil)), none⟩]) (.seq (.seq (.region [⟨some 6, .mv (.c (.one (.t (.int .i64 0)))), none⟩]) (.block 0 (.loop (.seq (.seq (.region [⟨some 8, .mv (.tmp 6), none⟩, ⟨some 9, .mv (.tmp 1), none⟩, ⟨some 10, .bin .lss (.tmp 8) (.tmp 9), none⟩]) (.cond (.tmp 10) .skip (.exit 0))) (.seq (.block 1 (.seq (.region [⟨some 13, .mv (.tmp 5), none⟩, ⟨some 14, .mkrow 321 3 1 1 [.t (.int .i64 0)] [(0, (1, .c (.one (.t (.int .i64 (-1))))))], none⟩, ⟨some 15, .append 322 3 1 8 (.tmp 13) (.tmp 14), none⟩, ⟨some 5, .mv (.tmp 15), none⟩]) (.seq (.region [⟨some 7, .mv (.c (.one (.t (.int .i64 0)))), none⟩]) (.block 2 (.loop (.seq (.seq (.region [⟨some 16, .mv (.tmp 7), none⟩, ⟨some 17, .mv (.tmp 0), none⟩, ⟨some 18, .len (.tmp 17), none⟩, ⟨some 19, .bin .lss (.tmp 16) (.tmp 18), none⟩]) (.cond (.tmp 19) .skip (.exit 2))) (.seq (.block 3 (.seq (.region [⟨some 22, .mv (.tmp 0), none⟩, ⟨some 23, .mv (.tmp 7), none⟩, ⟨some 24, .idxA 1 (.tmp 22) (.tmp 23), none⟩, ⟨some 25, .load false 1 (.tmp 24), none⟩, ⟨some 26, .mv (.tmp 6), none⟩, ⟨some 27, .bin .eql (.tmp 25) (.tmp 26), none⟩]) (.cond (.tmp 27) (.region [⟨some 28, .mv (.tmp 5), none⟩, ⟨some 29, .mv (.tmp 6), none⟩, ⟨some 30, .mv (.tmp 7), none⟩, ⟨some 31, .idxA 1 (.tmp 28) (.tmp 29), none⟩, ⟨none, .store 1 (.tmp 31) (.tmp 30), none⟩]) .skip))) (.region [⟨some 20, .mv (.tmp 7), none⟩, ⟨some 21, .bin .add (.tmp 20) (.c (.one (.t (.int .i64 1)))), none⟩, ⟨some 7, .mv (.tmp 21), none⟩])))))))) (.region [⟨some 11, .mv (.tmp 6), none⟩, ⟨some 12, .bin .add (.tmp 11) (.c (.one (.t (.int .i64 1)))), none⟩, ⟨some 6, .mv (.tmp 12), none⟩])))))) (.seq (.region [⟨some 32, .mv (.tmp 5), none⟩, ⟨some 4, .mv (.tmp 32), none⟩]) .ret)))⟩
theorem k_back06 : cFn Tryz.prog Tryz.f154 = some c_back06 := by kernel_rfl
theorem back06_row (l : List Int) (n : Nat) (hl : tiny l.length) (hn : tiny n) : RowI Tryz.prog 154 [(false, [ints l]), (false, [.int .i64 n])] 3 (bkL l n) := by
  refine callRow_W (plain_ints _) (by simp) (by omega) (callS_W (by kernel_rfl) Tryz.func154 k_back06 (callable_of Tryz.func154 (by kernel_rfl)) (by simp [c_back06]) ?_)
  simp [c_back06]
  refine loopW_count 6 n (fun k S => S.fr 0 = .one (.t (ints l)) ∧ S.fr 1 = .one (.t (.int .i64 n)) ∧ outR 322 3 1 (bkL l k).length ((bkL l k).map (.int .i64)) S.ob (S.fr 5)) hn.small ?_ ?_ ?_
  · simp [bkL, outR_nil]
  · rintro k S hlt hw hc ⟨f0, f1, ho⟩
    have z := bkL_len (l := l) (n := k)
    simp only [tiny] at hn hl
    simp [f0, f1, hc, hlt]
    refine kApp_grow (ts := [.int .i64 (-1)]) (by simp) (ho.keep fun g => by simp) (by omega) rfl (by omega) (by omega) fun E hE hob hcnt => ?_
    obtain ⟨u, hu⟩ := hE.one
    rw [hu] at hE
    have hz : (bkL l k).length + 1 ≠ 0 := by omega
    rcases hE with ⟨a1, _, _⟩ | ⟨a1, g, a3, a4⟩
    · exact absurd a1 hz
    cases a3
    simp [f0, f1, hc, hu]
    refine loopW_count 7 l.length (fun j S => S.fr 0 = .one (.t (ints l)) ∧ S.fr 1 = .one (.t (.int .i64 n)) ∧ S.fr 6 = .one (.t (.int .i64 k)) ∧ S.fr 5 = .one (.row (322, g)) ∧ S.ob (322, g) = some (rowO (bkL l k ++ [bkV l k j]))) (by omega) ?_ ?_ ?_
    · simp [f0, f1, hc, a4, rowO, bkV]
    · rintro j S' hlt' hw' hc' ⟨f0, f1, f6, f5, o⟩
      by_cases e : nth l j = k
      · have h1 : k < (bkL l k ++ [bkV l k j]).length := by simp; omega
        have e2 := row_set (v := (j : Int)) h1
        rw [set_last z] at e2
        have e4 : (bkL l k ++ [bkV l k j]).length = k + 1 := by simp [z]
        have e6 : (k : Int) < (k : Int) + 1 := by omega
        have e5 : bkV l k (j + 1) = j := by simp [bkV, e]
        generalize bkL l k ++ [bkV l k j] = L at *
        simp [f0, f1, f5, f6, hc', hlt', drop_nth hlt', e, o, rowO, e2, e4, hw', e5, z, e6]
      · simp [f0, f1, f5, f6, hc', hlt', drop_nth hlt', e, o, rowO, hw', bkV]
    · rintro S' hc' ⟨f0, f1, f6, f5, o⟩
      simp [f0, f1, f5, f6, hc', hw]
      refine .inr ⟨by simp [bkL_succ], g, rfl, ?_⟩
      rw [o, rowO, bkL_succ]
  · rintro S hc ⟨f0, f1, ho⟩
    obtain ⟨u, hu⟩ := ho.one
    rw [hu] at ho
    simp [f0, f1, hc, hu]
    exact ho.rowIs

/-- The error of an inverse. -/
def invE (a b : Gr) (m : Pa) : Int := if morErr a b m = 0 then if injB a b m = true then if surjB a b m = true then 0 else 10 else 10 else morErr a b m
def invR (a b : Gr) (m : Pa) : Pa := if invE a b m = 0 then ⟨bkL m.nodes b.nodes.length, bkL m.edges b.edges.length⟩ else ⟨[], []⟩
def c_inv06 : MFunc := ⟨43, [.cell 6 true 2, .tmp 7], .seq (.region [⟨some 3, .box 0 25 (.tmp 0), none⟩, ⟨some 4, .box 1 25 (.tmp 1), none⟩, ⟨some 5, .box 2 27 (.tmp 2), none⟩, ⟨some 6, .alloc 3 27 [.nil, .nil], none⟩, ⟨some 7, .mv (.c (.one (.t (.int .i64 0)))), none⟩]) (.seq (.seq (.region [⟨some 9, .load true 2 (.tmp 3), none⟩, ⟨some 10, .load true 2 (.tmp 4), none⟩, ⟨some 11, .load true 2 (.tmp 5), none⟩, ⟨some 12, .call (.c (.one (.fn 48 []))) 67 [.tmp 9, .tmp 10, .tmp 11], none⟩, ⟨some 8, .mv (.tmp 12), none⟩]) (.seq (.region [⟨some 13, .mv (.tmp 8), none⟩, ⟨some 14, .bin .neq (.tmp 13) (.c (.one (.t (.int .i64 0)))), none⟩]) (.cond (.tmp 14) (.seq (.region [⟨some 15, .build [.nil, .nil] [], none⟩, ⟨some 16, .mv (.tmp 8), none⟩, ⟨none, .store 2 (.tmp 6) (.tmp 15), none⟩, ⟨some 7, .mv (.tmp 16), none⟩]) .ret) .skip))) (.seq (.seq (.region [⟨some 17, .load true 2 (.tmp 3), none⟩, ⟨some 18, .load true 2 (.tmp 4), none⟩, ⟨some 19, .load true 2 (.tmp 5), none⟩, ⟨some 20, .call (.c (.one (.fn 64 []))) 259 [.tmp 17, .tmp 18, .tmp 19], none⟩, ⟨some 21, .not (.tmp 20), none⟩, ⟨some 22, .mv (.tmp 21), none⟩, ⟨some 23, .load true 2 (.tmp 3), some (22, false)⟩, ⟨some 24, .load true 2 (.tmp 4), some (22, false)⟩, ⟨some 25, .load true 2 (.tmp 5), some (22, false)⟩, ⟨some 26, .call (.c (.one (.fn 116 []))) 265 [.tmp 23, .tmp 24, .tmp 25], some (22, false)⟩, ⟨some 27, .not (.tmp 26), some (22, false)⟩, ⟨some 28, .pick (.tmp 22) (.c (.one (.t (.bool true)))) (.tmp 27), none⟩]) (.cond (.tmp 28) (.seq (.region [⟨some 29, .build [.nil, .nil] [], none⟩, ⟨none, .store 2 (.tmp 6) (.tmp 29), none⟩, ⟨some 7, .mv (.c (.one (.t (.int .i64 10)))), none⟩]) .ret) .skip)) (.seq (.draw [[], [0], [], [2], [3], [1, 4], [], [6], [], [8], [9], [7, 10, 5], [5, 11], [12, 11, 0, 1, 2, 3, 4, 5, 6, 7, 8, 9, 10, 11, 12], [13, 0, 1, 2, 3, 4, 5, 6, 7, 8, 9, 10, 11, 12, 13]] [⟨some 30, .fieldA 0 (.tmp 5), none⟩, ⟨some 31, .load false 1 (.tmp 30), none⟩, ⟨some 32, .fieldA 0 (.tmp 4), none⟩, ⟨some 33, .load false 1 (.tmp 32), none⟩, ⟨some 34, .len (.tmp 33), none⟩, ⟨some 35, .call (.c (.one (.fn 154 []))) 389 [.tmp 31, .tmp 34], none⟩, ⟨some 36, .fieldA 1 (.tmp 5), none⟩, ⟨some 37, .load false 1 (.tmp 36), none⟩, ⟨some 38, .fieldA 1 (.tmp 4), none⟩, ⟨some 39, .load false 1 (.tmp 38), none⟩, ⟨some 40, .len (.tmp 39), none⟩, ⟨some 41, .call (.c (.one (.fn 154 []))) 395 [.tmp 37, .tmp 40], none⟩, ⟨some 42, .build [.nil, .nil] [(0, (1, .tmp 35)), (1, (1, .tmp 41))], none⟩, ⟨none, .store 2 (.tmp 6) (.tmp 42), none⟩, ⟨some 7, .mv (.c (.one (.t (.int .i64 0)))), none⟩]) .ret)))⟩
theorem k_inv06 : cFn Tryz.prog Tryz.f115 = some c_inv06 := by kernel_rfl
set_option maxHeartbeats 1000000 in
theorem inv06_ok (a b : Gr) (m : Pa) (ta : tinyG a) (tb : tinyG b) (tm : tinyP m) : CallOK Tryz.prog 115 [a.v, b.v, m.v] (.tup [(invR a b m).v, (false, [.int .i64 (invE a b m)])]) := by
  refine callOK_W (callS_W (by kernel_rfl) Tryz.func115 k_inv06 (callable_of Tryz.func115 (by kernel_rfl)) (by simp [c_inv06]) ?_)
  simp [c_inv06]
  refine callS_tree (rvalid6_ok a b m ta tb tm) ?_ ?_ ?_
  · rfl
  · rfl
  by_cases h1 : morErr a b m = 0
  case neg => simp [h1, invE, invR]
  simp [h1]
  refine callS_tree (rinj_ok a b m ta tb tm) ?_ ?_ ?_
  · rfl
  · rfl
  cases h2 : injB a b m
  · simp [h1, h2, invE, invR]
  simp
  refine callS_tree (rsurj_ok a b m ta tb tm) ?_ ?_ ?_
  · rfl
  · rfl
  cases h3 : surjB a b m
  · simp [h1, h2, h3, invE, invR]
  simp [dw0, dw1, dw2, dw3]
  refine dCall_ok (back06_row m.nodes b.nodes.length tm.1 tb.1).ok ?_ ?_ ?_
  · rfl
  · rfl
  simp [dw0, dw1, dw2, dw3]
  refine dCall_ok (back06_row m.edges b.edges.length tm.2 tb.2).ok ?_ ?_ ?_
  · rfl
  · rfl
  simp [dw0, dw1, dw2, dw3, h1, h2, h3, invE, invR]
  rfl

theorem poR_tiny {s : Sp} (h : unErr s.B s.C = 0) : tinyG (poG s) := poG_tiny h
theorem invE_zero {a b : Gr} {m : Pa} (h : morErr a b m = 0 ∨ injB a b m = true) : decide (invE a b m = 0) = (injB a b m && surjB a b m) := by
  by_cases h1 : morErr a b m = 0
  · cases h2 : injB a b m <;> cases h3 : surjB a b m <;> simp [invE, h1, h2, h3]
  · have : injB a b m = false := by simp [injB, h1]
    simp [invE, h1, this]
theorem invE_iff {a b : Gr} {m : Pa} : decide (invE a b m = 0) = (injB a b m && surjB a b m) := by
  by_cases h1 : morErr a b m = 0
  · exact invE_zero (.inl h1)
  · have : injB a b m = false := by simp [injB, h1]
    simp [invE, h1, this]

def c_check10 : MFunc := ⟨42, [.tmp 8], .seq (.region [⟨some 4, .box 0 47 (.tmp 0), none⟩, ⟨some 5, .box 1 25 (.tmp 1), none⟩, ⟨some 6, .box 2 27 (.tmp 2), none⟩, ⟨some 7, .box 3 27 (.tmp 3), none⟩, ⟨some 8, .mv (.c (.one (.t (.bool false)))), none⟩]) (.seq (.region [⟨some 15, .load true 10 (.tmp 4), none⟩, ⟨some 16, .load true 2 (.tmp 5), none⟩, ⟨some 17, .load true 2 (.tmp 6), none⟩, ⟨some 18, .load true 2 (.tmp 7), none⟩, ⟨some 19, .call (.c (.one (.fn 114 []))) 68 [.tmp 15, .tmp 16, .tmp 17, .tmp 18], none⟩, ⟨some 14, .mv (.tmp 19), none⟩, ⟨some 20, .extract (.tmp 14) 0, none⟩, ⟨some 21, .extract (.tmp 14) 1, none⟩, ⟨some 9, .alloc 72 27 [.nil, .nil], none⟩, ⟨none, .store 2 (.tmp 9) (.tmp 20), none⟩, ⟨some 10, .mv (.tmp 21), none⟩]) (.seq (.seq (.region [⟨some 22, .mv (.tmp 10), none⟩, ⟨some 23, .bin .neq (.tmp 22) (.c (.one (.t (.int .i64 0)))), none⟩]) (.cond (.tmp 23) (.seq (.region [⟨some 8, .mv (.c (.one (.t (.bool false)))), none⟩]) .ret) .skip)) (.seq (.region [⟨some 25, .load true 10 (.tmp 4), none⟩, ⟨some 26, .call (.c (.one (.fn 53 []))) 257 [.tmp 25], none⟩, ⟨some 24, .mv (.tmp 26), none⟩, ⟨some 27, .extract (.tmp 24) 0, none⟩, ⟨some 28, .extract (.tmp 24) 1, none⟩, ⟨some 29, .extract (.tmp 24) 2, none⟩, ⟨some 30, .extract (.tmp 24) 3, none⟩, ⟨some 11, .alloc 263 25 [.nil, .nil], none⟩, ⟨some 12, .alloc 264 27 [.nil, .nil], none⟩, ⟨some 13, .alloc 265 27 [.nil, .nil], none⟩, ⟨none, .store 2 (.tmp 11) (.tmp 27), none⟩, ⟨none, .store 2 (.tmp 12) (.tmp 28), none⟩, ⟨none, .store 2 (.tmp 13) (.tmp 29), none⟩, ⟨some 10, .mv (.tmp 30), none⟩]) (.seq (.seq (.region [⟨some 31, .mv (.tmp 10), none⟩, ⟨some 32, .bin .neq (.tmp 31) (.c (.one (.t (.int .i64 0)))), none⟩]) (.cond (.tmp 32) (.seq (.region [⟨some 8, .mv (.c (.one (.t (.bool false)))), none⟩]) .ret) .skip)) (.seq (.region [⟨some 34, .load true 2 (.tmp 11), none⟩, ⟨some 35, .load true 2 (.tmp 5), none⟩, ⟨some 36, .load true 2 (.tmp 9), none⟩, ⟨some 37, .call (.c (.one (.fn 115 []))) 451 [.tmp 34, .tmp 35, .tmp 36], none⟩, ⟨some 33, .mv (.tmp 37), none⟩, ⟨some 38, .extract (.tmp 33) 0, none⟩, ⟨some 39, .extract (.tmp 33) 1, none⟩, ⟨some 10, .mv (.tmp 39), none⟩]) (.seq (.region [⟨some 40, .mv (.tmp 10), none⟩, ⟨some 41, .bin .eql (.tmp 40) (.c (.one (.t (.int .i64 0)))), none⟩, ⟨some 8, .mv (.tmp 41), none⟩]) .ret))))))⟩
theorem k_check10 : cFn Tryz.prog Tryz.f76 = some c_check10 := by kernel_rfl
set_option maxHeartbeats 1000000 in
theorem check10_ok (s : Sp) (x : Gr) (h k : Pa) (ts : TinySp s) (tx : tinyG x) (th : tinyP h) (tk : tinyP k) : CallOK Tryz.prog 76 [s.v, x.v, h.v, k.v] (.sv (false, [.bool (poChk s x h k)])) := by
  refine callOK_W (callS_W (by kernel_rfl) Tryz.func76 k_check10 (callable_of Tryz.func76 (by kernel_rfl)) (by simp [c_check10]) ?_)
  simp [c_check10, Sp.v, Sp.cs]
  refine callS_tree (rMed10_ok s x h k ts tx th tk) ?_ ?_ ?_
  · rfl
  · rfl
  by_cases h1 : pmE s x h k = 0
  case neg =>
    have e : pmR s x h k = (⟨[], []⟩, pmE s x h k) := by simp [pmR, h1]
    simp [pmT, e, h1, poChk]
  have e : pmR s x h k = (pmC s h k, 0) := by simp [pmR, h1]
  obtain ⟨q1, q2, q3, q4, q5⟩ := pmE_ok h1
  have e2 : poR s = (poG s, poI s, poJ s, 0) := by simp [poR, poErr, q1, q4]
  simp [pmT, e, h1]
  refine callS_tree (of10_ok s ts) ?_ ?_ ?_
  · rfl
  · rfl
  simp [gluT, e2]
  refine callS_tree (inv06_ok (poG s) x (pmC s h k) (poG_tiny q4) tx (pmC_tiny q4)) ?_ ?_ ?_
  · rfl
  · rfl
  have e3 := invE_iff (a := poG s) (b := x) (m := pmC s h k)
  have e4 : poChk s x h k = decide (invE (poG s) x (pmC s h k) = 0) := by rw [e3, poChk]; simp [h1]
  rw [e4]
  by_cases h5 : invE (poG s) x (pmC s h k) = 0
  all_goals simp [h5]

def c_span14 : MFunc := ⟨14, [.cell 2 true 10], .seq (.region [⟨some 1, .box 0 29 (.tmp 0), none⟩, ⟨some 2, .alloc 1 47 [.nil, .nil, .nil, .nil, .nil, .nil, .nil, .nil, .nil, .nil], none⟩]) (.seq (.region [⟨some 3, .fieldA 0 (.tmp 1), none⟩, ⟨some 4, .load true 2 (.tmp 3), none⟩, ⟨some 5, .fieldA 2 (.tmp 1), none⟩, ⟨some 6, .load true 2 (.tmp 5), none⟩, ⟨some 7, .fieldA 4 (.tmp 1), none⟩, ⟨some 8, .load true 2 (.tmp 7), none⟩, ⟨some 9, .fieldA 8 (.tmp 1), none⟩, ⟨some 10, .load true 2 (.tmp 9), none⟩, ⟨some 11, .fieldA 10 (.tmp 1), none⟩, ⟨some 12, .load true 2 (.tmp 11), none⟩, ⟨some 13, .build [.nil, .nil, .nil, .nil, .nil, .nil, .nil, .nil, .nil, .nil] [(0, (2, .tmp 4)), (2, (2, .tmp 6)), (4, (2, .tmp 8)), (6, (2, .tmp 10)), (8, (2, .tmp 12))], none⟩, ⟨none, .store 10 (.tmp 2) (.tmp 13), none⟩]) .ret)⟩
theorem k_span14 : cFn Tryz.prog Tryz.f77 = some c_span14 := by kernel_rfl
theorem span14_ok (s : Sq) : CallOK Tryz.prog 77 [s.v] (.sv (downS s).v) := by
  refine callOK_W (callS_W (by kernel_rfl) Tryz.func77 k_span14 (callable_of Tryz.func77 (by kernel_rfl)) (by simp [c_span14]) ?_)
  simp [c_span14, dw0, dw1, dw2, dw3, Sq.v, Sq.cs, Sp.v, Sp.cs, downS]
  try rfl

def c_cospan14 : MFunc := ⟨14, [.cell 2 true 10], .seq (.region [⟨some 1, .box 0 29 (.tmp 0), none⟩, ⟨some 2, .alloc 1 80 [.nil, .nil, .nil, .nil, .nil, .nil, .nil, .nil, .nil, .nil], none⟩]) (.seq (.region [⟨some 3, .fieldA 2 (.tmp 1), none⟩, ⟨some 4, .load true 2 (.tmp 3), none⟩, ⟨some 5, .fieldA 4 (.tmp 1), none⟩, ⟨some 6, .load true 2 (.tmp 5), none⟩, ⟨some 7, .fieldA 6 (.tmp 1), none⟩, ⟨some 8, .load true 2 (.tmp 7), none⟩, ⟨some 9, .fieldA 12 (.tmp 1), none⟩, ⟨some 10, .load true 2 (.tmp 9), none⟩, ⟨some 11, .fieldA 14 (.tmp 1), none⟩, ⟨some 12, .load true 2 (.tmp 11), none⟩, ⟨some 13, .build [.nil, .nil, .nil, .nil, .nil, .nil, .nil, .nil, .nil, .nil] [(0, (2, .tmp 4)), (2, (2, .tmp 6)), (4, (2, .tmp 8)), (6, (2, .tmp 10)), (8, (2, .tmp 12))], none⟩, ⟨none, .store 10 (.tmp 2) (.tmp 13), none⟩]) .ret)⟩
theorem k_cospan14 : cFn Tryz.prog Tryz.f75 = some c_cospan14 := by kernel_rfl
theorem cospan14_ok (s : Sq) : CallOK Tryz.prog 75 [s.v] (.sv (upS s).v) := by
  refine callOK_W (callS_W (by kernel_rfl) Tryz.func75 k_cospan14 (callable_of Tryz.func75 (by kernel_rfl)) (by simp [c_cospan14]) ?_)
  simp [c_cospan14, dw0, dw1, dw2, dw3, Sq.v, Sq.cs, Co.v, Co.cs, upS]
  try rfl

def c_kind14 : MFunc := ⟨69, [.tmp 2, .tmp 3], .seq (.region [⟨some 1, .box 0 29 (.tmp 0), none⟩, ⟨some 2, .mv (.c (.one (.t (.int .i64 0)))), none⟩, ⟨some 3, .mv (.c (.one (.t (.int .i64 0)))), none⟩]) (.seq (.seq (.region [⟨some 14, .load true 16 (.tmp 1), none⟩, ⟨some 15, .call (.c (.one (.fn 47 []))) 65 [.tmp 14], none⟩, ⟨some 4, .mv (.tmp 15), none⟩]) (.seq (.region [⟨some 16, .mv (.tmp 4), none⟩, ⟨some 17, .bin .neq (.tmp 16) (.c (.one (.t (.int .i64 0)))), none⟩]) (.cond (.tmp 17) (.seq (.region [⟨some 18, .mv (.tmp 4), none⟩, ⟨some 2, .mv (.c (.one (.t (.int .i64 0)))), none⟩, ⟨some 3, .mv (.tmp 18), none⟩]) .ret) .skip))) (.seq (.seq (.region [⟨some 19, .load true 16 (.tmp 1), none⟩, ⟨some 20, .call (.c (.one (.fn 49 []))) 257 [.tmp 19], none⟩, ⟨some 21, .not (.tmp 20), none⟩]) (.cond (.tmp 21) (.seq (.region [⟨some 2, .mv (.c (.one (.t (.int .i64 0)))), none⟩, ⟨some 3, .mv (.c (.one (.t (.int .i64 0)))), none⟩]) .ret) .skip)) (.seq (.seq (.region [⟨some 23, .fieldA 2 (.tmp 1), none⟩, ⟨some 24, .load true 2 (.tmp 23), none⟩, ⟨some 25, .fieldA 4 (.tmp 1), none⟩, ⟨some 26, .load true 2 (.tmp 25), none⟩, ⟨some 27, .call (.c (.one (.fn 74 []))) 388 [.tmp 24, .tmp 26], none⟩, ⟨some 22, .mv (.tmp 27), none⟩, ⟨some 28, .extract (.tmp 22) 0, none⟩, ⟨some 29, .extract (.tmp 22) 1, none⟩, ⟨some 30, .extract (.tmp 22) 2, none⟩, ⟨some 31, .extract (.tmp 22) 3, none⟩, ⟨some 5, .alloc 394 25 [.nil, .nil], none⟩, ⟨some 6, .alloc 395 27 [.nil, .nil], none⟩, ⟨some 7, .alloc 396 27 [.nil, .nil], none⟩, ⟨none, .store 2 (.tmp 5) (.tmp 28), none⟩, ⟨none, .store 2 (.tmp 6) (.tmp 29), none⟩, ⟨none, .store 2 (.tmp 7) (.tmp 30), none⟩, ⟨some 8, .mv (.tmp 31), none⟩]) (.seq (.region [⟨some 32, .mv (.tmp 8), none⟩, ⟨some 33, .bin .neq (.tmp 32) (.c (.one (.t (.int .i64 0)))), none⟩]) (.cond (.tmp 33) (.seq (.region [⟨some 34, .mv (.tmp 8), none⟩, ⟨some 2, .mv (.c (.one (.t (.int .i64 0)))), none⟩, ⟨some 3, .mv (.tmp 34), none⟩]) .ret) .skip))) (.seq (.seq (.region [⟨some 36, .load true 16 (.tmp 1), none⟩, ⟨some 37, .call (.c (.one (.fn 75 []))) 577 [.tmp 36], none⟩, ⟨some 38, .call (.c (.one (.fn 50 []))) 578 [.tmp 37], none⟩, ⟨some 35, .mv (.tmp 38), none⟩, ⟨some 39, .extract (.tmp 35) 0, none⟩, ⟨some 40, .extract (.tmp 35) 1, none⟩, ⟨some 41, .extract (.tmp 35) 2, none⟩, ⟨some 42, .extract (.tmp 35) 3, none⟩, ⟨some 9, .alloc 584 25 [.nil, .nil], none⟩, ⟨some 10, .alloc 585 27 [.nil, .nil], none⟩, ⟨some 11, .alloc 586 27 [.nil, .nil], none⟩, ⟨none, .store 2 (.tmp 9) (.tmp 39), none⟩, ⟨none, .store 2 (.tmp 10) (.tmp 40), none⟩, ⟨none, .store 2 (.tmp 11) (.tmp 41), none⟩, ⟨some 12, .mv (.tmp 42), none⟩]) (.seq (.region [⟨some 43, .mv (.tmp 12), none⟩, ⟨some 44, .bin .neq (.tmp 43) (.c (.one (.t (.int .i64 0)))), none⟩]) (.cond (.tmp 44) (.seq (.region [⟨some 45, .mv (.tmp 12), none⟩, ⟨some 2, .mv (.c (.one (.t (.int .i64 0)))), none⟩, ⟨some 3, .mv (.tmp 45), none⟩]) .ret) .skip))) (.seq (.region [⟨some 13, .mv (.c (.one (.t (.int .i64 0)))), none⟩]) (.seq (.seq (.draw [[], [0], [], [2], [], [4], [], [6], [1, 3, 5, 7, 1]] [⟨some 46, .load true 16 (.tmp 1), none⟩, ⟨some 47, .call (.c (.one (.fn 77 []))) 833 [.tmp 46], none⟩, ⟨some 48, .fieldA 6 (.tmp 1), none⟩, ⟨some 49, .load true 2 (.tmp 48), none⟩, ⟨some 50, .fieldA 12 (.tmp 1), none⟩, ⟨some 51, .load true 2 (.tmp 50), none⟩, ⟨some 52, .fieldA 14 (.tmp 1), none⟩, ⟨some 53, .load true 2 (.tmp 52), none⟩, ⟨some 54, .call (.c (.one (.fn 76 []))) 840 [.tmp 47, .tmp 49, .tmp 51, .tmp 53], none⟩]) (.cond (.tmp 54) (.region [⟨some 55, .mv (.tmp 13), none⟩, ⟨some 56, .bin .add (.tmp 55) (.c (.one (.t (.int .i64 1)))), none⟩, ⟨some 13, .mv (.tmp 56), none⟩]) .skip)) (.seq (.seq (.draw [[], [0], [], [2], [], [4], [], [6], [1, 3, 5, 7, 1]] [⟨some 57, .load true 16 (.tmp 1), none⟩, ⟨some 58, .call (.c (.one (.fn 75 []))) 961 [.tmp 57], none⟩, ⟨some 59, .fieldA 0 (.tmp 1), none⟩, ⟨some 60, .load true 2 (.tmp 59), none⟩, ⟨some 61, .fieldA 8 (.tmp 1), none⟩, ⟨some 62, .load true 2 (.tmp 61), none⟩, ⟨some 63, .fieldA 10 (.tmp 1), none⟩, ⟨some 64, .load true 2 (.tmp 63), none⟩, ⟨some 65, .call (.c (.one (.fn 78 []))) 968 [.tmp 58, .tmp 60, .tmp 62, .tmp 64], none⟩]) (.cond (.tmp 65) (.region [⟨some 66, .mv (.tmp 13), none⟩, ⟨some 67, .bin .add (.tmp 66) (.c (.one (.t (.int .i64 2)))), none⟩, ⟨some 13, .mv (.tmp 67), none⟩]) .skip)) (.seq (.region [⟨some 68, .mv (.tmp 13), none⟩, ⟨some 2, .mv (.tmp 68), none⟩, ⟨some 3, .mv (.c (.one (.t (.int .i64 0)))), none⟩]) .ret))))))))⟩
theorem k_kind14 : cFn Tryz.prog Tryz.f36 = some c_kind14 := by kernel_rfl
set_option maxHeartbeats 4000000 in
theorem kind14_ok (s : Sq) (h : TinySq s) : CallOK Tryz.prog 36 [s.v] (kindT (kindR s)) := by
  refine callOK_W (callS_W (by kernel_rfl) Tryz.func36 k_kind14 (callable_of Tryz.func36 (by kernel_rfl)) (by simp [c_kind14]) ?_)
  simp [c_kind14, Sq.v, Sq.cs]
  refine callS_tree (rvalidS_ok s h) ?_ ?_ ?_
  · rfl
  · rfl
  by_cases h1 : sqErr s = 0
  case neg =>
    have e : kindR s = (0, sqErr s) := by simp [kindR, h1]
    simp [h1, kindT, e]
  have ok := sqErr_ok h1
  simp [h1]
  refine callS_tree (rcomm_ok s h ok) ?_ ?_ ?_
  · rfl
  · rfl
  cases h2 : commB s
  · have e : kindR s = (0, 0) := by simp [kindR, h1, h2]
    simp [kindT, e]
  simp
  refine callS_tree (union05_ok s.B s.C h.B h.C) ?_ ?_ ?_
  · rfl
  · simp [AV.still, V1.still]
  have q0 : spErr (downS s) = 0 := by
    unfold sqErr at h1
    split at h1
    · split at h1
      · have a1 : morErr s.A s.B s.F = 0 := by assumption
        have a2 : morErr s.A s.C s.G = 0 := by assumption
        exact (if_pos a1).trans a2
      · exact absurd h1 (by assumption)
    · exact absurd h1 (by assumption)
  have hpo : poErr (downS s) = unErr s.B s.C := if_pos q0
  by_cases h3 : unErr s.B s.C = 0
  case neg =>
    have e : kindR s = (0, unErr s.B s.C) := by simp [kindR, h1, h2, hpo, h3]
    simp [unT, h3, kindT, e]
  simp [unT, h3]
  refine callS_tree (cospan14_ok s) ?_ ?_ ?_
  · rfl
  · rfl
  simp [Co.v, Co.cs]
  refine callS_tree (rOf_ok (upS s) h.up) ?_ ?_ ?_
  · rfl
  · rfl
  have h3' : poErr (downS s) = 0 := by rw [hpo, h3]
  by_cases h4 : pbErr (upS s) = 0
  case neg =>
    have e : kindR s = (0, pbErr (upS s)) := by simp [kindR, h1, h2, h3', h4]
    have e3 : pbR (upS s) = (⟨[], []⟩, ⟨[], []⟩, ⟨[], []⟩, pbErr (upS s)) := by simp [pbR, h4]
    simp [pbRt, e3, h4, kindT, e]
  have e3 : pbR (upS s) = (pbG (upS s), ⟨fstL (pbNs (upS s)), fstL (pbEs (upS s))⟩, ⟨sndL (pbNs (upS s)), sndL (pbEs (upS s))⟩, 0) := by simp [pbR, h4]
  have e : kindR s = (kindN s, 0) := by simp [kindR, h1, h2, h3', h4]
  simp [dw0, dw1, dw2, dw3, pbRt, e3]
  refine dCall_ok (span14_ok s) ?_ ?_ ?_
  · rfl
  · rfl
  simp [dw0, dw1, dw2, dw3, Sp.v, Sp.cs]
  refine dCall_ok (check10_ok (downS s) s.D s.H s.K h.down h.D h.H h.K) ?_ ?_ ?_
  · rfl
  · rfl
  cases h5 : poChk (downS s) s.D s.H s.K
  all_goals
    simp [dw0, dw1, dw2, dw3]
    first | refine ⟨rfl, ?_⟩ | skip
    refine dCall_ok (cospan14_ok s) ?_ ?_ ?_
    · rfl
    · rfl
    simp [dw0, dw1, dw2, dw3, Co.v, Co.cs]
    refine dCall_ok (rCheck11_ok (upS s) s.A s.F s.G h.up h.A h.F h.G) ?_ ?_ ?_
    · rfl
    · rfl
    cases h6 : pbChk (upS s) s.A s.F s.G
    all_goals
      have w1 : IntKind.i64.wrap (0 + 1) = 1 := by decide
      have w2 : IntKind.i64.wrap (0 + 2) = 2 := by decide
      have w3 : IntKind.i64.wrap (1 + 2) = 3 := by decide
      have w4 : IntKind.i64.wrap 1 = 1 := by decide
      have w5 : IntKind.i64.wrap 2 = 2 := by decide
      have w6 : IntKind.i64.wrap 3 = 3 := by decide
      simp [dw0, dw1, dw2, dw3, kindT, e, kindN, h5, h6, w1, w2, w3, w4, w5, w6]
      first | rfl | skip
end Go.Proofs.YthcnpnogfblkcaaGreat

/- Plain laws on pushouts and pullbacks of functions between the numbers below bounds. -/
namespace Go.Proofs.YthcnpnogfblkcaaGreat.Po
set_option linter.unusedVariables false

/-- f takes the numbers below n to numbers below m. -/
def Maps (n m : Nat) (f : Nat → Nat) : Prop := ∀ i, i < n → f i < m

structure PO (nA nB nC nD : Nat) (f g h k : Nat → Nat) : Prop where
  comm : ∀ a, a < nA → h (f a) = k (g a)
  cover : ∀ d, d < nD → (∃ b, b < nB ∧ h b = d) ∨ (∃ c, c < nC ∧ k c = d)
  univ : ∀ φ ψ : Nat → Nat, (∀ a, a < nA → φ (f a) = ψ (g a)) → ∃ u : Nat → Nat, (∀ b, b < nB → u (h b) = φ b) ∧ (∀ c, c < nC → u (k c) = ψ c)

structure PB (nA nB nC : Nat) (f g h k : Nat → Nat) : Prop where
  comm : ∀ a, a < nA → h (f a) = k (g a)
  ex : ∀ b c, b < nB → c < nC → h b = k c → ∃ a, a < nA ∧ f a = b ∧ g a = c
  uniq : ∀ a a', a < nA → a' < nA → f a = f a' → g a = g a' → a = a'

theorem PO.symm {nA nB nC nD : Nat} {f g h k : Nat → Nat} (p : PO nA nB nC nD f g h k) : PO nA nC nB nD g f k h where
  comm := fun a ha => (p.comm a ha).symm
  cover := fun d hd => (p.cover d hd).symm
  univ := fun φ ψ hc => by
    obtain ⟨u, h1, h2⟩ := p.univ ψ φ (fun a ha => (hc a ha).symm)
    exact ⟨u, h2, h1⟩

theorem PB.symm {nA nB nC : Nat} {f g h k : Nat → Nat} (p : PB nA nB nC f g h k) : PB nA nC nB g f k h where
  comm := fun a ha => (p.comm a ha).symm
  ex := fun b c hb hc e => by
    obtain ⟨a, h1, h2, h3⟩ := p.ex c b hc hb e.symm
    exact ⟨a, h1, h3, h2⟩
  uniq := fun a a' h1 h2 e1 e2 => p.uniq a a' h1 h2 e2 e1

/-- Only the values below the bounds count. -/
theorem PO.congr {nA nB nC nD : Nat} {f g h k f' g' h' k' : Nat → Nat} (p : PO nA nB nC nD f g h k) (mf : Maps nA nB f) (mg : Maps nA nC g)
    (ef : ∀ i, i < nA → f' i = f i) (eg : ∀ i, i < nA → g' i = g i) (eh : ∀ i, i < nB → h' i = h i) (ek : ∀ i, i < nC → k' i = k i) : PO nA nB nC nD f' g' h' k' where
  comm := fun a ha => by rw [ef a ha, eg a ha, eh _ (mf a ha), ek _ (mg a ha)]; exact p.comm a ha
  cover := fun d hd => by
    rcases p.cover d hd with ⟨b, hb, e⟩ | ⟨c, hc, e⟩
    · exact .inl ⟨b, hb, by rw [eh b hb]; exact e⟩
    · exact .inr ⟨c, hc, by rw [ek c hc]; exact e⟩
  univ := fun φ ψ hc => by
    obtain ⟨u, h1, h2⟩ := p.univ φ ψ (fun a ha => by rw [← ef a ha, ← eg a ha]; exact hc a ha)
    exact ⟨u, fun b hb => by rw [eh b hb]; exact h1 b hb, fun c hc => by rw [ek c hc]; exact h2 c hc⟩

theorem PB.congr {nA nB nC : Nat} {f g h k f' g' h' k' : Nat → Nat} (p : PB nA nB nC f g h k) (mf : Maps nA nB f) (mg : Maps nA nC g)
    (ef : ∀ i, i < nA → f' i = f i) (eg : ∀ i, i < nA → g' i = g i) (eh : ∀ i, i < nB → h' i = h i) (ek : ∀ i, i < nC → k' i = k i) : PB nA nB nC f' g' h' k' where
  comm := fun a ha => by rw [ef a ha, eg a ha, eh _ (mf a ha), ek _ (mg a ha)]; exact p.comm a ha
  ex := fun b c hb hc e => by
    rw [eh b hb, ek c hc] at e
    obtain ⟨a, ha, h1, h2⟩ := p.ex b c hb hc e
    exact ⟨a, ha, by rw [ef a ha]; exact h1, by rw [eg a ha]; exact h2⟩
  uniq := fun a a' h1 h2 e1 e2 => by
    rw [ef a h1, ef a' h2] at e1
    rw [eg a h1, eg a' h2] at e2
    exact p.uniq a a' h1 h2 e1 e2

/-- The outer square of two pushouts is a pushout. -/
theorem po_paste {nA nB nC nD nE nF : Nat} {f g h k f2 h2 k2 : Nat → Nat} (p : PO nA nB nC nD f g h k) (q : PO nB nE nD nF f2 h h2 k2)
    (mf : Maps nA nB f) (mg : Maps nA nC g) (mh : Maps nB nD h) (mk : Maps nC nD k) (mf2 : Maps nB nE f2) :
    PO nA nE nC nF (fun a => f2 (f a)) g h2 (fun c => k2 (k c)) where
  comm := fun a ha => by
    show h2 (f2 (f a)) = k2 (k (g a))
    rw [q.comm (f a) (mf a ha), p.comm a ha]
  cover := fun d hd => by
    rcases q.cover d hd with ⟨b, hb, e⟩ | ⟨c, hc, e⟩
    · exact .inl ⟨b, hb, e⟩
    · rcases p.cover c hc with ⟨b, hb, e'⟩ | ⟨c', hc', e'⟩
      · refine .inl ⟨f2 b, ?_, ?_⟩
        · exact mf2 b hb
        · rw [q.comm b hb, e', e]
      · exact .inr ⟨c', hc', by show k2 (k c') = d; rw [e', e]⟩
  univ := fun φ ψ hc => by
    obtain ⟨u, h1, h2⟩ := p.univ (fun b => φ (f2 b)) ψ hc
    obtain ⟨v, h3, h4⟩ := q.univ φ u (fun b hb => (h1 b hb).symm)
    exact ⟨v, h3, fun c hc => by rw [h4 (k c) (mk c hc)]; exact h2 c hc⟩

/-- If the outer square and the first one are pushouts, so is the second one. -/
theorem po_second {nA nB nC nD nE nF : Nat} {f g h k f2 h2 k2 : Nat → Nat} (p : PO nA nB nC nD f g h k)
    (o : PO nA nE nC nF (fun a => f2 (f a)) g h2 (fun c => k2 (k c)))
    (cm : ∀ b, b < nB → h2 (f2 b) = k2 (h b)) (mf : Maps nA nB f) (mg : Maps nA nC g) (mk : Maps nC nD k) (mf2 : Maps nB nE f2) : PO nB nE nD nF f2 h h2 k2 where
  comm := cm
  cover := fun d hd => by
    rcases o.cover d hd with ⟨b, hb, e⟩ | ⟨c, hc, e⟩
    · exact .inl ⟨b, hb, e⟩
    · exact .inr ⟨k c, mk c hc, e⟩
  univ := fun φ u hc => by
    obtain ⟨v, h3, h4⟩ := o.univ φ (fun c => u (k c)) (fun a ha => by
      show φ (f2 (f a)) = u (k (g a))
      rw [hc (f a) (mf a ha), p.comm a ha])
    refine ⟨v, h3, fun d hd => ?_⟩
    rcases p.cover d hd with ⟨b, hb, e⟩ | ⟨c, hc', e⟩
    · rw [← e, ← cm b hb, h3 _ (mf2 b hb), hc b hb]
    · rw [← e]; exact h4 c hc'

open Classical in
/-- A pushout that is pulled back along m is a pushout. -/
theorem po_lift {nA nB nC nD nX nA' nB' nC' : Nat} {f g h k m pa xa pb xb pc xc f' g' : Nat → Nat} (p : PO nA nB nC nD f g h k)
    (mf : Maps nA nB f) (mg : Maps nA nC g) (mm : Maps nX nD m)
    (B : PB nB' nB nX pb xb h m) (C : PB nC' nC nX pc xc k m) (A : PB nA' nA nX pa xa (fun a => h (f a)) m)
    (mpb : Maps nB' nB pb) (mxb : Maps nB' nX xb) (mpc : Maps nC' nC pc) (mxc : Maps nC' nX xc) (mpa : Maps nA' nA pa)
    (mf' : Maps nA' nB' f') (mg' : Maps nA' nC' g')
    (ef : ∀ a, a < nA' → pb (f' a) = f (pa a)) (ef2 : ∀ a, a < nA' → xb (f' a) = xa a)
    (eg : ∀ a, a < nA' → pc (g' a) = g (pa a)) (eg2 : ∀ a, a < nA' → xc (g' a) = xa a) : PO nA' nB' nC' nX f' g' xb xc where
  comm := fun a ha => by rw [ef2 a ha, eg2 a ha]
  cover := fun x hx => by
    rcases p.cover (m x) (mm x hx) with ⟨b, hb, e⟩ | ⟨c, hc, e⟩
    · obtain ⟨b', h1, _, h3⟩ := B.ex b x hb hx e
      exact .inl ⟨b', h1, h3⟩
    · obtain ⟨c', h1, _, h3⟩ := C.ex c x hc hx e
      exact .inr ⟨c', h1, h3⟩
  univ := fun φ ψ hc => by
    let φx : Nat → Nat → Nat := fun x b => if e : ∃ b', b' < nB' ∧ pb b' = b ∧ xb b' = x then φ e.choose + 1 else 0
    let ψx : Nat → Nat → Nat := fun x c => if e : ∃ c', c' < nC' ∧ pc c' = c ∧ xc c' = x then ψ e.choose + 1 else 0
    have hφ : ∀ b', b' < nB' → φx (xb b') (pb b') = φ b' + 1 := fun b' hb' => by
      have e : ∃ b'', b'' < nB' ∧ pb b'' = pb b' ∧ xb b'' = xb b' := ⟨b', hb', rfl, rfl⟩
      have := e.choose_spec
      show (if e : ∃ b'', b'' < nB' ∧ pb b'' = pb b' ∧ xb b'' = xb b' then φ e.choose + 1 else 0) = _
      rw [dif_pos e, B.uniq _ _ this.1 hb' this.2.1 this.2.2]
    have hψ : ∀ c', c' < nC' → ψx (xc c') (pc c') = ψ c' + 1 := fun c' hc' => by
      have e : ∃ c'', c'' < nC' ∧ pc c'' = pc c' ∧ xc c'' = xc c' := ⟨c', hc', rfl, rfl⟩
      have := e.choose_spec
      show (if e : ∃ c'', c'' < nC' ∧ pc c'' = pc c' ∧ xc c'' = xc c' then ψ e.choose + 1 else 0) = _
      rw [dif_pos e, C.uniq _ _ this.1 hc' this.2.1 this.2.2]
    have cone : ∀ x, x < nX → ∃ u : Nat → Nat, (∀ b, b < nB → u (h b) = φx x b) ∧ (∀ c, c < nC → u (k c) = ψx x c) := fun x hx => by
      refine p.univ _ _ fun a ha => ?_
      by_cases e : h (f a) = m x
      · obtain ⟨a', h1, h2, h3⟩ := A.ex a x ha hx e
        have e1 := hφ (f' a') (mf' a' h1)
        have e2 := hψ (g' a') (mg' a' h1)
        rw [ef a' h1, ef2 a' h1, h2, h3] at e1
        rw [eg a' h1, eg2 a' h1, h2, h3] at e2
        rw [e1, e2, hc a' h1]
      · have n1 : ¬ ∃ b', b' < nB' ∧ pb b' = f a ∧ xb b' = x := by
          rintro ⟨b', h1, h2, h3⟩
          have := B.comm b' h1
          rw [h2, h3] at this
          exact e this
        have n2 : ¬ ∃ c', c' < nC' ∧ pc c' = g a ∧ xc c' = x := by
          rintro ⟨c', h1, h2, h3⟩
          have := C.comm c' h1
          rw [h2, h3, ← p.comm a ha] at this
          exact e this
        show (if e : ∃ b', b' < nB' ∧ pb b' = f a ∧ xb b' = x then φ e.choose + 1 else 0) = (if e : ∃ c', c' < nC' ∧ pc c' = g a ∧ xc c' = x then ψ e.choose + 1 else 0)
        rw [dif_neg n1, dif_neg n2]
    refine ⟨fun x => if e : x < nX then (cone x e).choose (m x) - 1 else 0, fun b hb => ?_, fun c hc => ?_⟩
    · have hx := mxb b hb
      have := (cone _ hx).choose_spec.1 (pb b) (mpb b hb)
      show (if e : xb b < nX then (cone (xb b) e).choose (m (xb b)) - 1 else 0) = φ b
      rw [dif_pos hx, ← B.comm b hb, this, hφ b hb]
      rfl
    · have hx := mxc c hc
      have := (cone _ hx).choose_spec.2 (pc c) (mpc c hc)
      show (if e : xc c < nX then (cone (xc c) e).choose (m (xc c)) - 1 else 0) = ψ c
      rw [dif_pos hx, ← C.comm c hc, this, hψ c hc]
      rfl

open Classical in
/-- A pushout along an injective map is a pullback. -/
theorem po_inj {nA nB nC nD : Nat} {f g h k : Nat → Nat} (p : PO nA nB nC nD f g h k) (mf : Maps nA nB f)
    (inj : ∀ a a', a < nA → a' < nA → f a = f a' → a = a') : PB nA nB nC f g h k where
  comm := p.comm
  uniq := fun a a' h1 h2 e _ => inj a a' h1 h2 e
  ex := fun b c hb hc e => by
    obtain ⟨u, h1, h2⟩ := p.univ (fun b => if e : ∃ a, a < nA ∧ f a = b then g e.choose + 1 else 0) (fun c => c + 1) (fun a ha => by
      have e : ∃ a', a' < nA ∧ f a' = f a := ⟨a, ha, rfl⟩
      show (if e : ∃ a', a' < nA ∧ f a' = f a then g e.choose + 1 else 0) = g a + 1
      rw [dif_pos e, inj _ _ e.choose_spec.1 ha e.choose_spec.2])
    have e1 := h1 b hb
    rw [e, h2 c hc] at e1
    by_cases ex : ∃ a, a < nA ∧ f a = b
    · have e2 : c + 1 = g ex.choose + 1 := by rw [dif_pos ex] at e1; exact e1
      exact ⟨ex.choose, ex.choose_spec.1, ex.choose_spec.2, by omega⟩
    · rw [dif_neg ex] at e1
      omega

open Classical in
/-- Two parts that cover a set: what is kept (F) of L lies in the part (K) of G, and nothing else of L does. -/
theorem po_parts {nF nL nK nG : Nat} {f g m k : Nat → Nat} (cm : ∀ a, a < nF → m (f a) = k (g a))
    (ink : ∀ c c', c < nK → c' < nK → k c = k c' → c = c')
    (cover : ∀ d, d < nG → (∃ b, b < nL ∧ m b = d) ∨ (∃ c, c < nK ∧ k c = d))
    (both : ∀ b c, b < nL → c < nK → m b = k c → ∃ a, a < nF ∧ f a = b ∧ g a = c)
    (one : ∀ b b', b < nL → b' < nL → m b = m b' → b = b' ∨ ∃ c, c < nK ∧ k c = m b) : PO nF nL nK nG f g m k where
  comm := cm
  cover := cover
  univ := fun φ ψ hc => by
    let u : Nat → Nat := fun y => if e : ∃ c, c < nK ∧ k c = y then ψ e.choose else if e : ∃ b, b < nL ∧ m b = y then φ e.choose else 0
    have hk : ∀ c, c < nK → u (k c) = ψ c := fun c hc => by
      have e : ∃ c', c' < nK ∧ k c' = k c := ⟨c, hc, rfl⟩
      show (if e : ∃ c', c' < nK ∧ k c' = k c then ψ e.choose else if e : ∃ b, b < nL ∧ m b = k c then φ e.choose else 0) = ψ c
      rw [dif_pos e, ink _ _ e.choose_spec.1 hc e.choose_spec.2]
    refine ⟨u, fun b hb => ?_, hk⟩
    by_cases e : ∃ c, c < nK ∧ k c = m b
    · obtain ⟨c, h1, h2⟩ := e
      obtain ⟨a, h3, h4, h5⟩ := both b c hb h1 h2.symm
      rw [← h2, hk c h1, ← h5, ← hc a h3, h4]
    · have e2 : ∃ b', b' < nL ∧ m b' = m b := ⟨b, hb, rfl⟩
      show (if e : ∃ c', c' < nK ∧ k c' = m b then ψ e.choose else if e : ∃ b', b' < nL ∧ m b' = m b then φ e.choose else 0) = φ b
      rw [dif_neg e, dif_pos e2]
      rcases one _ _ e2.choose_spec.1 hb e2.choose_spec.2 with h | h
      · rw [h]
      · rw [e2.choose_spec.2] at h
        exact absurd h e

theorem pb_parts {nF nL nK : Nat} {f g m k : Nat → Nat} (cm : ∀ a, a < nF → m (f a) = k (g a))
    (inf : ∀ a a', a < nF → a' < nF → f a = f a' → a = a')
    (both : ∀ b c, b < nL → c < nK → m b = k c → ∃ a, a < nF ∧ f a = b ∧ g a = c) : PB nF nL nK f g m k where
  comm := cm
  ex := both
  uniq := fun a a' h1 h2 e _ => inf a a' h1 h2 e

/-- What mediates from a pushout (E) to a pushout (D) is one to one and onto. -/
theorem po_iso {nA nB nC nD nE : Nat} {f g h k p q m : Nat → Nat} (D : PO nA nB nC nD f g h k) (E : PO nA nB nC nE f g p q)
    (mp : Maps nB nE p) (mq : Maps nC nE q) (hm : ∀ b, b < nB → m (p b) = h b) (km : ∀ c, c < nC → m (q c) = k c) :
    (∀ e e', e < nE → e' < nE → m e = m e' → e = e') ∧ (∀ d, d < nD → ∃ e, e < nE ∧ m e = d) := by
  obtain ⟨u, h1, h2⟩ := D.univ p q E.comm
  have hu : ∀ e, e < nE → u (m e) = e := fun e he => by
    rcases E.cover e he with ⟨b, hb, rfl⟩ | ⟨c, hc, rfl⟩
    · rw [hm b hb, h1 b hb]
    · rw [km c hc, h2 c hc]
  refine ⟨fun e e' he he' eq => ?_, fun d hd => ?_⟩
  · rw [← hu e he, ← hu e' he', eq]
  · rcases D.cover d hd with ⟨b, hb, e⟩ | ⟨c, hc, e⟩
    · exact ⟨p b, mp b hb, by rw [hm b hb, e]⟩
    · exact ⟨q c, mq c hc, by rw [km c hc, e]⟩

open Classical in
/-- What a pushout (E) is taken to, one to one and onto, is a pushout. -/
theorem po_of_iso {nA nB nC nD nE : Nat} {f g h k p q m : Nat → Nat} (E : PO nA nB nC nE f g p q)
    (mp : Maps nB nE p) (mq : Maps nC nE q) (hm : ∀ b, b < nB → m (p b) = h b) (km : ∀ c, c < nC → m (q c) = k c)
    (mf : Maps nA nB f) (mg : Maps nA nC g)
    (inj : ∀ e e', e < nE → e' < nE → m e = m e' → e = e') (sur : ∀ d, d < nD → ∃ e, e < nE ∧ m e = d) : PO nA nB nC nD f g h k where
  comm := fun a ha => by rw [← hm _ (mf a ha), ← km _ (mg a ha), E.comm a ha]
  cover := fun d hd => by
    obtain ⟨e, he, rfl⟩ := sur d hd
    rcases E.cover e he with ⟨b, hb, rfl⟩ | ⟨c, hc, rfl⟩
    · exact .inl ⟨b, hb, (hm b hb).symm⟩
    · exact .inr ⟨c, hc, (km c hc).symm⟩
  univ := fun φ ψ hc => by
    obtain ⟨v, h1, h2⟩ := E.univ φ ψ hc
    have inv : ∀ e, e < nE → ∀ x : ∃ e', e' < nE ∧ m e' = m e, x.choose = e := fun e he x => inj _ _ x.choose_spec.1 he x.choose_spec.2
    refine ⟨fun d => if x : ∃ e, e < nE ∧ m e = d then v x.choose else 0, fun b hb => ?_, fun c hc => ?_⟩
    · have x : ∃ e, e < nE ∧ m e = m (p b) := ⟨_, mp b hb, rfl⟩
      rw [← hm b hb]
      show (if x : ∃ e, e < nE ∧ m e = m (p b) then v x.choose else 0) = φ b
      rw [dif_pos x, inv _ (mp b hb) x, h1 b hb]
    · have x : ∃ e, e < nE ∧ m e = m (q c) := ⟨_, mq c hc, rfl⟩
      rw [← km c hc]
      show (if x : ∃ e, e < nE ∧ m e = m (q c) then v x.choose else 0) = ψ c
      rw [dif_pos x, inv _ (mq c hc) x, h2 c hc]

/-- A cone is a pullback exactly if what mediates to a pullback (E) is one to one and onto. -/
theorem pb_iso {nA nB nC nE : Nat} {f g h k p q m : Nat → Nat} (A : PB nA nB nC f g h k) (E : PB nE nB nC p q h k)
    (mp : Maps nE nB p) (mq : Maps nE nC q) (mm : Maps nA nE m) (fm : ∀ a, a < nA → p (m a) = f a) (gm : ∀ a, a < nA → q (m a) = g a) :
    (∀ a a', a < nA → a' < nA → m a = m a' → a = a') ∧ (∀ e, e < nE → ∃ a, a < nA ∧ m a = e) := by
  refine ⟨fun a a' ha ha' e => A.uniq a a' ha ha' (by rw [← fm a ha, ← fm a' ha', e]) (by rw [← gm a ha, ← gm a' ha', e]), fun e he => ?_⟩
  obtain ⟨a, h1, h2, h3⟩ := A.ex (p e) (q e) (mp e he) (mq e he) (E.comm e he)
  exact ⟨a, h1, E.uniq _ _ (mm a h1) he (by rw [fm a h1, h2]) (by rw [gm a h1, h3])⟩

theorem pb_of_iso {nA nB nC nE : Nat} {f g h k p q m : Nat → Nat} (E : PB nE nB nC p q h k)
    (mm : Maps nA nE m) (fm : ∀ a, a < nA → p (m a) = f a) (gm : ∀ a, a < nA → q (m a) = g a)
    (inj : ∀ a a', a < nA → a' < nA → m a = m a' → a = a') (sur : ∀ e, e < nE → ∃ a, a < nA ∧ m a = e) : PB nA nB nC f g h k where
  comm := fun a ha => by rw [← fm a ha, ← gm a ha, E.comm _ (mm a ha)]
  ex := fun b c hb hc e => by
    obtain ⟨x, h1, h2, h3⟩ := E.ex b c hb hc e
    obtain ⟨a, ha, rfl⟩ := sur x h1
    exact ⟨a, ha, by rw [← fm a ha, h2], by rw [← gm a ha, h3]⟩
  uniq := fun a a' ha ha' e1 e2 => inj a a' ha ha' (E.uniq _ _ (mm a ha) (mm a' ha') (by rw [fm a ha, fm a' ha', e1]) (by rw [gm a ha, gm a' ha', e2]))
end Go.Proofs.YthcnpnogfblkcaaGreat.Po

/- The standard pushout is a pushout; what mediates out of it. No program in sight. -/
namespace Go.Proofs.YthcnpnogfblkcaaGreat
open Abs Po
set_option linter.unusedSimpArgs false
set_option linter.unusedVariables false

/-- A list of numbers as a function. -/
def fn (l : List Int) (i : Nat) : Nat := (nth l i).toNat
theorem fn_at {l : List Int} {n i : Nat} (h : placesIn l n) (hi : i < l.length) : nth l i = (fn l i : Nat) ∧ fn l i < n := by
  have := h _ (nth_mem hi)
  simp only [fn]
  omega
theorem fn_maps {l : List Int} {n m : Nat} (h : placesIn l n) (hl : l.length = m) : Maps m n (fn l) := fun i hi => (fn_at h (by omega)).2
theorem fn_thru {a b : List Int} {i : Nat} (h : i < a.length) : fn (thru a b) i = fn b (fn a i) := by simp only [fn, thru_nth h]
theorem fn_num {a n i : Nat} (h : i < n) : fn (numL a n) i = a + i := by simp only [fn, numL_nth h, Int.toNat_natCast]

theorem cls_surj {p : List Int} : ∀ {n d : Nat}, d < clsN p n → ∃ r : Nat, r < n ∧ nth p r = r ∧ clsN p r = d
  | 0, d, h => absurd h (by simp [clsN])
  | n + 1, d, h => by
    simp only [clsN] at h
    by_cases e : nth p n = n
    · rw [if_pos e] at h
      by_cases e2 : d < clsN p n
      · obtain ⟨r, h1, h2, h3⟩ := cls_surj e2
        exact ⟨r, by omega, h2, h3⟩
      · exact ⟨n, by omega, e, by omega⟩
    · rw [if_neg e] at h
      obtain ⟨r, h1, h2, h3⟩ := cls_surj h
      exact ⟨r, by omega, h2, h3⟩
theorem cls_inj {p : List Int} {a b : Nat} (ha : nth p a = a) (hb : nth p b = b) (h : clsN p a = clsN p b) : a = b := by
  rcases Nat.lt_trichotomy a b with e | e | e
  · have := clsN_lt ha e
    omega
  · exact e
  · have := clsN_lt hb e
    omega
/-- The root of an element's class. -/
theorem root_of {p : List Int} {n i : Nat} (hp : Flat p) (hn : p.length = n) (hi : i < n) : ∃ r : Nat, nth p i = r ∧ r < n ∧ nth p r = r := by
  obtain ⟨j, hj, hle⟩ := hp.fo.at (i := i) (by omega)
  have := hp.fx i (by omega)
  rw [hj, Int.toNat_natCast] at this
  exact ⟨j, hj, by omega, this⟩

section lists
variable {nA nB nC : Nat} {F G : List Int}
def glL (nA nB nC : Nat) (F G : List Int) : List (Int × Int) := pgK F G (numL 0 nB) (numL nB nC) nA
theorem glL_in (lF : F.length = nA) (lG : G.length = nA) (pF : placesIn F nB) (pG : placesIn G nC) : pairsIn (glL nA nB nC F G) (nB + nC) := fun q hq => by
  simp only [glL, pgK, List.mem_map, List.mem_range] at hq
  obtain ⟨i, hi, rfl⟩ := hq
  obtain ⟨a1, a2⟩ := fn_at pF (show i < F.length by omega)
  obtain ⟨b1, b2⟩ := fn_at pG (show i < G.length by omega)
  simp only [a1, b1, Int.toNat_natCast]
  rw [numL_nth a2, numL_nth b2]
  omega
theorem glL_at (lF : F.length = nA) (lG : G.length = nA) (pF : placesIn F nB) (pG : placesIn G nC) {i : Nat} (hi : i < nA) : (((fn F i : Nat) : Int), ((nB + fn G i : Nat) : Int)) ∈ glL nA nB nC F G := by
  simp only [glL, pgK, List.mem_map, List.mem_range]
  obtain ⟨a1, a2⟩ := fn_at pF (show i < F.length by omega)
  obtain ⟨b1, b2⟩ := fn_at pG (show i < G.length by omega)
  refine ⟨i, hi, ?_⟩
  simp only [a1, b1, Int.toNat_natCast]
  rw [numL_nth a2, numL_nth b2]
  simp
theorem glL_mem (lF : F.length = nA) (lG : G.length = nA) (pF : placesIn F nB) (pG : placesIn G nC) {q : Int × Int} (hq : q ∈ glL nA nB nC F G) : ∃ i, i < nA ∧ q = (((fn F i : Nat) : Int), ((nB + fn G i : Nat) : Int)) := by
  simp only [glL, pgK, List.mem_map, List.mem_range] at hq
  obtain ⟨i, hi, rfl⟩ := hq
  obtain ⟨a1, a2⟩ := fn_at pF (show i < F.length by omega)
  obtain ⟨b1, b2⟩ := fn_at pG (show i < G.length by omega)
  refine ⟨i, hi, ?_⟩
  simp only [a1, b1, Int.toNat_natCast]
  rw [numL_nth a2, numL_nth b2]
  simp
def prt (nA nB nC : Nat) (F G : List Int) : List Int := genL (nB + nC) (glL nA nB nC F G)
def qL (nA nB nC : Nat) (F G : List Int) : List Int := thru (numL 0 nB) (quotL (prt nA nB nC F G))
def qR (nA nB nC : Nat) (F G : List Int) : List Int := thru (numL nB nC) (quotL (prt nA nB nC F G))
theorem prt_len : (prt nA nB nC F G).length = nB + nC := genL_len
theorem qL_at {b : Nat} (hb : b < nB) : fn (qL nA nB nC F G) b = clsN (prt nA nB nC F G) (nth (prt nA nB nC F G) b).toNat := by
  rw [qL, fn_thru (by rw [numL_len]; exact hb), fn_num hb, Nat.zero_add, fn, quotL_nth (by rw [prt_len]; omega), Int.toNat_natCast]
theorem qR_at {c : Nat} (hc : c < nC) : fn (qR nA nB nC F G) c = clsN (prt nA nB nC F G) (nth (prt nA nB nC F G) (nB + c)).toNat := by
  rw [qR, fn_thru (by rw [numL_len]; exact hc), fn_num hc, fn, quotL_nth (by rw [prt_len]; omega), Int.toNat_natCast]

open Classical in
/-- The standard pushout of lists of numbers is one. -/
theorem po_lists (lF : F.length = nA) (lG : G.length = nA) (pF : placesIn F nB) (pG : placesIn G nC) :
    PO nA nB nC (clsN (prt nA nB nC F G) (nB + nC)) (fn F) (fn G) (fn (qL nA nB nC F G)) (fn (qR nA nB nC F G)) := by
  have hin := glL_in lF lG pF pG
  have hp : Flat (prt nA nB nC F G) := genL_flat hin
  refine ⟨fun a ha => ?_, fun d hd => ?_, fun φ ψ hc => ?_⟩
  · obtain ⟨_, a2⟩ := fn_at pF (show a < F.length by omega)
    obtain ⟨_, b2⟩ := fn_at pG (show a < G.length by omega)
    rw [qL_at a2, qR_at b2]
    have := genL_pair hin (glL_at lF lG pF pG ha)
    simp only [Int.toNat_natCast] at this
    rw [← prt] at this
    rw [this]
  · obtain ⟨r, h1, h2, h3⟩ := cls_surj hd
    by_cases hb : r < nB
    · exact .inl ⟨r, hb, by rw [qL_at hb, h2, Int.toNat_natCast, h3]⟩
    · refine .inr ⟨r - nB, by omega, ?_⟩
      rw [qR_at (by omega), show nB + (r - nB) = r by omega, h2, Int.toNat_natCast, h3]
  · let f : Nat → Nat := fun i => if i < nB then φ i else ψ (i - nB)
    have hf : ∀ i, i < nB + nC → f (nth (prt nA nB nC F G) i).toNat = f i := fun i hi => genL_inv hin (fun q hq => by
      obtain ⟨j, hj, rfl⟩ := glL_mem lF lG pF pG hq
      obtain ⟨_, a2⟩ := fn_at pF (show j < F.length by omega)
      simp only [Int.toNat_natCast, f]
      rw [if_pos a2, if_neg (by omega), show nB + fn G j - nB = fn G j by omega]
      exact hc j hj) hi
    let u : Nat → Nat := fun d => if e : ∃ r : Nat, nth (prt nA nB nC F G) r = r ∧ clsN (prt nA nB nC F G) r = d then f e.choose else 0
    have hu : ∀ i, i < nB + nC → u (clsN (prt nA nB nC F G) (nth (prt nA nB nC F G) i).toNat) = f i := fun i hi => by
      obtain ⟨r, h1, h2, h3⟩ := root_of hp prt_len hi
      have e : ∃ r' : Nat, nth (prt nA nB nC F G) r' = r' ∧ clsN (prt nA nB nC F G) r' = clsN (prt nA nB nC F G) r := ⟨r, h3, rfl⟩
      have h4 := hf i hi
      rw [h1, Int.toNat_natCast] at h4
      rw [h1, Int.toNat_natCast]
      show (if e : ∃ r' : Nat, nth (prt nA nB nC F G) r' = r' ∧ clsN (prt nA nB nC F G) r' = clsN (prt nA nB nC F G) r then f e.choose else 0) = f i
      rw [dif_pos e, cls_inj e.choose_spec.1 h3 e.choose_spec.2, h4]
    refine ⟨u, fun b hb => ?_, fun c hc' => ?_⟩
    · rw [qL_at hb, hu b (by omega)]
      exact if_pos hb
    · rw [qR_at hc', hu (nB + c) (by omega)]
      simp only [f]
      rw [if_neg (by omega), show nB + c - nB = c by omega]
end lists

/-! ### Writing a list at some places -/
theorem wr_fold {u : Nat → Int} {n : Nat} : ∀ {ws : List (Int × Int)} {o : List Int}, o.length = n → (∀ w ∈ ws, 0 ≤ w.1 ∧ w.1 < n ∧ w.2 = u w.1.toNat) →
    ∀ j, nth (ws.foldl (fun o w => o.set w.1.toNat w.2) o) j = if ∃ w ∈ ws, w.1.toNat = j then u j else nth o j
  | [], o, ho, _, j => by simp
  | w :: r, o, ho, h, j => by
    rw [List.foldl_cons, wr_fold (n := n) (by rw [List.length_set]; exact ho) (fun x hx => h x (List.mem_cons_of_mem _ hx)) j]
    obtain ⟨h1, h2, h3⟩ := h w (List.mem_cons_self ..)
    by_cases e : ∃ x ∈ r, x.1.toNat = j
    · obtain ⟨x, hx, hj⟩ := e
      rw [if_pos ⟨x, hx, hj⟩, if_pos ⟨x, List.mem_cons_of_mem _ hx, hj⟩]
    · rw [if_neg e, nth_set (by omega)]
      by_cases ej : j = w.1.toNat
      · rw [if_pos ej, if_pos ⟨w, List.mem_cons_self .., ej.symm⟩, h3, ej]
      · rw [if_neg ej, if_neg]
        rintro ⟨x, hx, hj⟩
        rcases List.mem_cons.1 hx with rfl | hx
        · exact ej hj.symm
        · exact e ⟨x, hx, hj⟩
theorem wrL_at {u : Nat → Int} {n : Nat} {ws : List (Int × Int)} (h : ∀ w ∈ ws, 0 ≤ w.1 ∧ w.1 < n ∧ w.2 = u w.1.toNat) {w : Int × Int} (hw : w ∈ ws) : nth (wrL n ws) w.1.toNat = w.2 := by
  rw [wrL, wr_fold (n := n) (by simp) h, if_pos ⟨w, hw, rfl⟩, (h w hw).2.2]
end Go.Proofs.YthcnpnogfblkcaaGreat

/- The standard pushout of graphs: its morphisms; what mediates out of it; when a cocone is a pushout. No program in sight. -/
namespace Go.Proofs.YthcnpnogfblkcaaGreat
open Abs Po
set_option linter.unusedSimpArgs false
set_option linter.unusedVariables false

/-! ### Errors that there are not -/
theorem gErr_of {g : Gr} (h : GrOk g) : gErr g = 0 := by
  have h1 := h.n
  have h2 := h.e
  have b1 : nBad g.nodes = false := by
    rw [nBad, List.any_eq_false]
    intro x hx
    have := h.kinds x hx
    simp [within]
    omega
  have b2 : eBad g.nodes.length g.edges = false := by
    rw [eBad, List.any_eq_false]
    intro e he
    have := h.edges e he
    simp [eOk, within]
    omega
  rw [gErr, if_neg (by omega), b1, b2]
  rfl
theorem mor_zero {a b : Gr} {m : Pa} (h : MorOk a b m) : morErr a b m = 0 := by
  have l1 := h.ln
  have l2 := h.le
  rw [morErr, if_pos (gErr_of h.ga), if_pos (gErr_of h.gb), if_pos (by omega)]
  have e1 : fe (mnF a b m) m.nodes.length = 0 := fe_zero fun i hi => by
    obtain ⟨a1, a2, a3⟩ := h.n i (by omega)
    rw [mnF, if_neg (by omega), if_neg (by omega), if_pos a3]
  have e2 : fe (meF a b m) m.edges.length = 0 := fe_zero fun i hi => by
    obtain ⟨a1, a2, a3, a4, a5⟩ := h.e i (by omega)
    rw [meF, if_neg (by omega), if_neg (by omega), if_pos a3, if_pos a4, if_pos a5]
  rw [if_pos e1, e2]
theorem mor_iff {a b : Gr} {m : Pa} : morErr a b m = 0 ↔ MorOk a b m := ⟨mor_ok, mor_zero⟩

/-- A morphism in functions. -/
structure Hom (a b : Gr) (m : Pa) : Prop where
  ln : m.nodes.length = a.nodes.length
  le : m.edges.length = a.edges.length
  pn : placesIn m.nodes b.nodes.length
  pe : placesIn m.edges b.edges.length
  kn : ∀ i, i < a.nodes.length → nth b.nodes (fn m.nodes i) = nth a.nodes i
  ke : ∀ i, i < a.edges.length → (eth b.edges (fn m.edges i)).t = (eth a.edges i).t ∧ (eth b.edges (fn m.edges i)).f = nth m.nodes (eth a.edges i).f.toNat ∧ (eth b.edges (fn m.edges i)).g = nth m.nodes (eth a.edges i).g.toNat
theorem MorOk.hom {a b : Gr} {m : Pa} (h : MorOk a b m) : Hom a b m := by
  refine ⟨h.ln, h.le, h.rn, h.re, fun i hi => (h.n i hi).2.2, fun i hi => ?_⟩
  obtain ⟨_, _, e1, e2, e3⟩ := h.e i hi
  exact ⟨e1.symm, e2.symm, e3.symm⟩
theorem Hom.ok {a b : Gr} {m : Pa} (h : Hom a b m) (ga : GrOk a) (gb : GrOk b) : MorOk a b m := by
  refine ⟨ga, gb, h.ln, h.le, fun i hi => ?_, fun i hi => ?_⟩
  · have := h.pn _ (nth_mem (l := m.nodes) (k := i) (by rw [h.ln]; exact hi))
    exact ⟨this.1, this.2, h.kn i hi⟩
  · have := h.pe _ (nth_mem (l := m.edges) (k := i) (by rw [h.le]; exact hi))
    obtain ⟨e1, e2, e3⟩ := h.ke i hi
    exact ⟨this.1, this.2, e1.symm, e2.symm, e3.symm⟩
theorem Hom.mn {a b : Gr} {m : Pa} (h : Hom a b m) : Maps a.nodes.length b.nodes.length (fn m.nodes) := fn_maps h.pn h.ln
theorem Hom.me {a b : Gr} {m : Pa} (h : Hom a b m) : Maps a.edges.length b.edges.length (fn m.edges) := fn_maps h.pe h.le

/-- The two squares of functions of a span with a cocone are pushouts. -/
def IsPO (s : Sp) (d : Gr) (h k : Pa) : Prop :=
  PO s.A.nodes.length s.B.nodes.length s.C.nodes.length d.nodes.length (fn s.F.nodes) (fn s.G.nodes) (fn h.nodes) (fn k.nodes) ∧
  PO s.A.edges.length s.B.edges.length s.C.edges.length d.edges.length (fn s.F.edges) (fn s.G.edges) (fn h.edges) (fn k.edges)

theorem poP_prt {s : Sp} : poP s = prt s.F.nodes.length s.B.nodes.length s.C.nodes.length s.F.nodes s.G.nodes := by rw [poP, poU, unG_nlen]; rfl
theorem poQ_prt {s : Sp} : poQ s = prt s.F.edges.length s.B.edges.length s.C.edges.length s.F.edges s.G.edges := by rw [poQ, poU, unG_elen]; rfl
theorem poI_q {s : Sp} : (poI s).nodes = qL s.F.nodes.length s.B.nodes.length s.C.nodes.length s.F.nodes s.G.nodes ∧ (poI s).edges = qL s.F.edges.length s.B.edges.length s.C.edges.length s.F.edges s.G.edges := by
  rw [qL, qL, ← poP_prt, ← poQ_prt]; exact ⟨rfl, rfl⟩
theorem poJ_q {s : Sp} : (poJ s).nodes = qR s.F.nodes.length s.B.nodes.length s.C.nodes.length s.F.nodes s.G.nodes ∧ (poJ s).edges = qR s.F.edges.length s.B.edges.length s.C.edges.length s.F.edges s.G.edges := by
  rw [qR, qR, ← poP_prt, ← poQ_prt]; exact ⟨rfl, rfl⟩
theorem poG_len {s : Sp} : (poG s).nodes.length = clsN (poP s) (s.B.nodes.length + s.C.nodes.length) ∧ (poG s).edges.length = clsN (poQ s) (s.B.edges.length + s.C.edges.length) := by
  rw [poG, quoG_nlen, quoG_elen, poU, unG_nlen, unG_elen]; exact ⟨rfl, rfl⟩
/-- The standard pushout is one. -/
theorem po_std {s : Sp} (ok : SpOk s) : IsPO s (poG s) (poI s) (poJ s) := by
  have l1 := ok.F.ln
  have l2 := ok.F.le
  refine ⟨?_, ?_⟩
  · rw [poI_q.1, poJ_q.1, poG_len.1, poP_prt, ← l1]
    exact po_lists rfl (by rw [ok.G.ln, l1]) ok.F.rn ok.G.rn
  · rw [poI_q.2, poJ_q.2, poG_len.2, poQ_prt, ← l2]
    exact po_lists rfl (by rw [ok.G.le, l2]) ok.F.re ok.G.re

theorem poI_nat {s : Sp} {b : Nat} (hb : b < s.B.nodes.length) : nth (poI s).nodes b = (clsN (poP s) (nth (poP s) b).toNat : Nat) := by
  show nth (thru (numL 0 s.B.nodes.length) (quotL (poP s))) b = _
  rw [thru_nth (by rw [numL_len]; exact hb), numL_nth hb, Int.toNat_natCast, Nat.zero_add, quotL_nth (by rw [poP_len]; omega)]
theorem poJ_nat {s : Sp} {c : Nat} (hc : c < s.C.nodes.length) : nth (poJ s).nodes c = (clsN (poP s) (nth (poP s) (s.B.nodes.length + c)).toNat : Nat) := by
  show nth (thru (numL s.B.nodes.length s.C.nodes.length) (quotL (poP s))) c = _
  rw [thru_nth (by rw [numL_len]; exact hc), numL_nth hc, Int.toNat_natCast, quotL_nth (by rw [poP_len]; omega)]
theorem poI_eat {s : Sp} {b : Nat} (hb : b < s.B.edges.length) : nth (poI s).edges b = (clsN (poQ s) (nth (poQ s) b).toNat : Nat) := by
  show nth (thru (numL 0 s.B.edges.length) (quotL (poQ s))) b = _
  rw [thru_nth (by rw [numL_len]; exact hb), numL_nth hb, Int.toNat_natCast, Nat.zero_add, quotL_nth (by rw [poQ_len]; omega)]
theorem poJ_eat {s : Sp} {c : Nat} (hc : c < s.C.edges.length) : nth (poJ s).edges c = (clsN (poQ s) (nth (poQ s) (s.B.edges.length + c)).toNat : Nat) := by
  show nth (thru (numL s.B.edges.length s.C.edges.length) (quotL (poQ s))) c = _
  rw [thru_nth (by rw [numL_len]; exact hc), numL_nth hc, Int.toNat_natCast, quotL_nth (by rw [poQ_len]; omega)]

theorem poG_node {s : Sp} (ok : SpOk s) {i : Nat} (hi : i < s.B.nodes.length + s.C.nodes.length) : nth (poG s).nodes (clsN (poP s) (nth (poP s) i).toNat) = nth (poU s).nodes i := by
  obtain ⟨r, h1, h2, h3⟩ := root_of (poP_flat ok) poP_len hi
  have hc := poN_const ok i (by rw [poU, unG_nlen]; exact hi)
  rw [h1, Int.toNat_natCast] at hc ⊢
  have := clsF_get (f := nth (poU s).nodes) h3 (k := (poU s).nodes.length) (by rw [poU, unG_nlen]; exact h2)
  rw [← hc]
  show ((collect (clsF (poP s) (nth (poU s).nodes)) (poU s).nodes.length).getD (clsN (poP s) r) 0) = _
  rw [List.getD, this]
  rfl
theorem poG_edge {s : Sp} (ok : SpOk s) {i : Nat} (hi : i < s.B.edges.length + s.C.edges.length) : eth (poG s).edges (clsN (poQ s) (nth (poQ s) i).toNat) = qE (poU s) (poP s) i := by
  obtain ⟨r, h1, h2, h3⟩ := root_of (poQ_flat ok) poQ_len hi
  have hc := poE_const ok i (by rw [poU, unG_elen]; exact hi)
  rw [h1, Int.toNat_natCast] at hc ⊢
  have := clsF_get (f := qE (poU s) (poP s)) h3 (k := (poU s).edges.length) (by rw [poU, unG_elen]; exact h2)
  rw [← hc]
  show ((collect (clsF (poQ s) (qE (poU s) (poP s))) (poU s).edges.length).getD (clsN (poQ s) r) ⟨0, 0, 0⟩) = _
  rw [List.getD, this]
  rfl

theorem poI_hom {s : Sp} (ok : SpOk s) : Hom s.B (poG s) (poI s) := by
  refine ⟨poI_len.1, poI_len.2, poI_nin ok, poI_ein ok, fun i hi => ?_, fun i hi => ?_⟩
  · rw [fn, poI_nat hi, Int.toNat_natCast, poG_node ok (by omega), poU_nL hi]
  · rw [fn, poI_eat hi, Int.toNat_natCast, poG_edge ok (by omega), qE, poU_eL hi]
    obtain ⟨_, _, g1, g2, g3, g4⟩ := ok.F.gb.edges _ (eth_mem hi)
    have l := poP_len (s := s)
    rw [poI_nat (by omega), poI_nat (by omega), quotL_nth (by omega), quotL_nth (by omega)]
    exact ⟨rfl, rfl, rfl⟩
theorem poJ_hom {s : Sp} (ok : SpOk s) : Hom s.C (poG s) (poJ s) := by
  refine ⟨poJ_len.1, poJ_len.2, poJ_nin ok, poJ_ein ok, fun i hi => ?_, fun i hi => ?_⟩
  · rw [fn, poJ_nat hi, Int.toNat_natCast, poG_node ok (by omega), poU_nR hi]
  · rw [fn, poJ_eat hi, Int.toNat_natCast, poG_edge ok (by omega), qE, poU_eR hi]
    obtain ⟨_, _, g1, g2, g3, g4⟩ := ok.G.gb.edges _ (eth_mem hi)
    have l := poP_len (s := s)
    obtain ⟨x, hx⟩ := Int.eq_ofNat_of_zero_le g1
    obtain ⟨y, hy⟩ := Int.eq_ofNat_of_zero_le g3
    have z1 : ((x : Int) + s.B.nodes.length).toNat = s.B.nodes.length + x := by omega
    have z2 : ((y : Int) + s.B.nodes.length).toNat = s.B.nodes.length + y := by omega
    simp only [shiftE, hx, hy, Int.toNat_natCast, z1, z2]
    rw [poJ_nat (by omega), poJ_nat (by omega), quotL_nth (by omega), quotL_nth (by omega)]
    refine ⟨?_, ?_, ?_⟩ <;> first | rfl | trivial
theorem poG_ok {s : Sp} (ok : SpOk s) (hu : unErr s.B s.C = 0) : GrOk (poG s) := by
  have hf := poG_few hu
  have po := po_std ok
  have hi := poI_hom ok
  have hj := poJ_hom ok
  refine ⟨hf.1, hf.2, fun x hx => ?_, fun e he => ?_⟩
  · obtain ⟨d, hd, rfl⟩ := mem_nth hx
    rcases po.1.cover d hd with ⟨b, hb, rfl⟩ | ⟨c, hc, rfl⟩
    · rw [hi.kn b hb]; exact ok.F.gb.kinds _ (nth_mem hb)
    · rw [hj.kn c hc]; exact ok.G.gb.kinds _ (nth_mem hc)
  · obtain ⟨d, hd, rfl⟩ := mem_eth he
    rcases po.2.cover d hd with ⟨b, hb, rfl⟩ | ⟨c, hc, rfl⟩
    · obtain ⟨e1, e2, e3⟩ := hi.ke b hb
      obtain ⟨t1, t2, g1, g2, g3, g4⟩ := ok.F.gb.edges _ (eth_mem hb)
      have l := hi.ln
      have p1 := hi.pn _ (nth_mem (l := (poI s).nodes) (k := (eth s.B.edges b).f.toNat) (by omega))
      have p2 := hi.pn _ (nth_mem (l := (poI s).nodes) (k := (eth s.B.edges b).g.toNat) (by omega))
      rw [e1, e2, e3]
      exact ⟨t1, t2, p1.1, p1.2, p2.1, p2.2⟩
    · obtain ⟨e1, e2, e3⟩ := hj.ke c hc
      obtain ⟨t1, t2, g1, g2, g3, g4⟩ := ok.G.gb.edges _ (eth_mem hc)
      have l := hj.ln
      have p1 := hj.pn _ (nth_mem (l := (poJ s).nodes) (k := (eth s.C.edges c).f.toNat) (by omega))
      have p2 := hj.pn _ (nth_mem (l := (poJ s).nodes) (k := (eth s.C.edges c).g.toNat) (by omega))
      rw [e1, e2, e3]
      exact ⟨t1, t2, p1.1, p1.2, p2.1, p2.2⟩

/-! ### What mediates -/
theorem zip_mem {p h : List Int} (hl : p.length = h.length) {w : Int × Int} : w ∈ p.zip h ↔ ∃ i, i < p.length ∧ w = (nth p i, nth h i) := by
  constructor
  · intro hw
    obtain ⟨i, hi, rfl⟩ := List.mem_iff_getElem.1 hw
    simp only [List.length_zip] at hi
    exact ⟨i, by omega, by rw [List.getElem_zip, nth_eq (by omega), nth_eq (by omega)]⟩
  · rintro ⟨i, hi, rfl⟩
    refine List.mem_iff_getElem.2 ⟨i, by simp; omega, ?_⟩
    rw [List.getElem_zip, nth_eq hi, nth_eq (by omega)]
theorem med_lists {n m nB nC : Nat} {p q h k : List Int} (lp : p.length = nB) (lq : q.length = nC) (lh : h.length = nB) (lk : k.length = nC) (pp : placesIn p n) (pq : placesIn q n) (ph : placesIn h m) (pk : placesIn k m)
    {u : Nat → Nat} (hu : ∀ b, b < nB → u (fn p b) = fn h b) (hv : ∀ c, c < nC → u (fn q c) = fn k c) :
    (∀ b, b < nB → nth (wrL n (p.zip h ++ q.zip k)) (fn p b) = nth h b) ∧ (∀ c, c < nC → nth (wrL n (p.zip h ++ q.zip k)) (fn q c) = nth k c) := by
  have key : ∀ w ∈ p.zip h ++ q.zip k, 0 ≤ w.1 ∧ w.1 < n ∧ w.2 = ((u w.1.toNat : Nat) : Int) := fun w hw => by
    rcases List.mem_append.1 hw with hw | hw
    · obtain ⟨i, hi, rfl⟩ := (zip_mem (by omega)).1 hw
      have h1 := pp _ (nth_mem hi)
      obtain ⟨h2, _⟩ := fn_at ph (show i < h.length by omega)
      exact ⟨h1.1, h1.2, by rw [h2, ← hu i (by omega)]; rfl⟩
    · obtain ⟨i, hi, rfl⟩ := (zip_mem (by omega)).1 hw
      have h1 := pq _ (nth_mem hi)
      obtain ⟨h2, _⟩ := fn_at pk (show i < k.length by omega)
      exact ⟨h1.1, h1.2, by rw [h2, ← hv i (by omega)]; rfl⟩
  refine ⟨fun b hb => ?_, fun c hc => ?_⟩
  · exact wrL_at (u := fun i => (u i : Nat)) key (w := (nth p b, nth h b)) (List.mem_append_left _ ((zip_mem (by omega)).2 ⟨b, by omega, rfl⟩))
  · exact wrL_at (u := fun i => (u i : Nat)) key (w := (nth q c, nth k c)) (List.mem_append_right _ ((zip_mem (by omega)).2 ⟨c, by omega, rfl⟩))

theorem same_thru {a b f g : List Int} (h : thru a f = thru b g) {i : Nat} (ha : i < a.length) (hb : i < b.length) : fn f (fn a i) = fn g (fn b i) := by
  have := congrArg (fun l => (nth l i).toNat) h
  simp only [thru_nth ha, thru_nth hb] at this
  exact this

/-- A cocone: valid morphisms with equal compositions. -/
structure Cone (s : Sp) (d : Gr) (h k : Pa) : Prop where
  ok : SpOk s
  mp : MorOk s.B d h
  mq : MorOk s.C d k
  un : unErr s.B s.C = 0
  cn : ∀ i, i < s.A.nodes.length → fn h.nodes (fn s.F.nodes i) = fn k.nodes (fn s.G.nodes i)
  ce : ∀ i, i < s.A.edges.length → fn h.edges (fn s.F.edges i) = fn k.edges (fn s.G.edges i)
theorem pm_cone {s : Sp} {d : Gr} {h k : Pa} (e : pmE s d h k = 0) : Cone s d h k := by
  obtain ⟨h1, h2, h3, h4, h5⟩ := pmE_ok e
  have ok := spErr_ok h1
  have l1 := ok.F.ln
  have l2 := ok.F.le
  have l3 := ok.G.ln
  have l4 := ok.G.le
  have h6 := sameP_iff.1 h5
  injection h6 with h6 h7
  exact ⟨ok, mor_ok h2, mor_ok h3, h4, fun i hi => same_thru h6 (by omega) (by omega), fun i hi => same_thru h7 (by omega) (by omega)⟩

theorem pm_at {s : Sp} {d : Gr} {h k : Pa} (c : Cone s d h k) :
    ((∀ b, b < s.B.nodes.length → nth (pmC s h k).nodes (fn (poI s).nodes b) = nth h.nodes b) ∧ (∀ b, b < s.C.nodes.length → nth (pmC s h k).nodes (fn (poJ s).nodes b) = nth k.nodes b)) ∧
    ((∀ b, b < s.B.edges.length → nth (pmC s h k).edges (fn (poI s).edges b) = nth h.edges b) ∧ (∀ b, b < s.C.edges.length → nth (pmC s h k).edges (fn (poJ s).edges b) = nth k.edges b)) := by
  have po := po_std c.ok
  have hi := poI_hom c.ok
  have hj := poJ_hom c.ok
  obtain ⟨u, u1, u2⟩ := po.1.univ (fn h.nodes) (fn k.nodes) c.cn
  obtain ⟨v, v1, v2⟩ := po.2.univ (fn h.edges) (fn k.edges) c.ce
  exact ⟨med_lists hi.ln hj.ln c.mp.ln c.mq.ln hi.pn hj.pn c.mp.rn c.mq.rn u1 u2, med_lists hi.le hj.le c.mp.le c.mq.le hi.pe hj.pe c.mp.re c.mq.re v1 v2⟩
theorem pmC_len {s : Sp} {h k : Pa} : (pmC s h k).nodes.length = (poG s).nodes.length ∧ (pmC s h k).edges.length = (poG s).edges.length := ⟨wrL_len, wrL_len⟩
theorem pm_hom {s : Sp} {d : Gr} {h k : Pa} (c : Cone s d h k) : Hom (poG s) d (pmC s h k) := by
  have po := po_std c.ok
  have hi := poI_hom c.ok
  have hj := poJ_hom c.ok
  obtain ⟨⟨n1, n2⟩, e1, e2⟩ := pm_at c
  have hh := c.mp.hom
  have hk := c.mq.hom
  refine ⟨pmC_len.1, pmC_len.2, fun x hx => ?_, fun x hx => ?_, fun i hi' => ?_, fun i hi' => ?_⟩
  · obtain ⟨i, hi', rfl⟩ := mem_nth hx
    rw [pmC_len.1] at hi'
    rcases po.1.cover i hi' with ⟨b, hb, rfl⟩ | ⟨b, hb, rfl⟩
    · rw [n1 b hb]; exact hh.pn _ (nth_mem (by rw [hh.ln]; exact hb))
    · rw [n2 b hb]; exact hk.pn _ (nth_mem (by rw [hk.ln]; exact hb))
  · obtain ⟨i, hi', rfl⟩ := mem_nth hx
    rw [pmC_len.2] at hi'
    rcases po.2.cover i hi' with ⟨b, hb, rfl⟩ | ⟨b, hb, rfl⟩
    · rw [e1 b hb]; exact hh.pe _ (nth_mem (by rw [hh.le]; exact hb))
    · rw [e2 b hb]; exact hk.pe _ (nth_mem (by rw [hk.le]; exact hb))
  · rcases po.1.cover i hi' with ⟨b, hb, rfl⟩ | ⟨b, hb, rfl⟩
    · rw [fn, n1 b hb, hi.kn b hb]; exact hh.kn b hb
    · rw [fn, n2 b hb, hj.kn b hb]; exact hk.kn b hb
  · rcases po.2.cover i hi' with ⟨b, hb, rfl⟩ | ⟨b, hb, rfl⟩
    · obtain ⟨a1, a2, a3⟩ := hi.ke b hb
      obtain ⟨b1, b2, b3⟩ := hh.ke b hb
      obtain ⟨_, _, g1, g2, g3, g4⟩ := c.ok.F.gb.edges _ (eth_mem hb)
      have m1 := n1 (eth s.B.edges b).f.toNat (by omega)
      have m2 := n1 (eth s.B.edges b).g.toNat (by omega)
      rw [fn] at m1 m2
      rw [fn, e1 b hb, a1, a2, a3, m1, m2]
      exact ⟨b1, b2, b3⟩
    · obtain ⟨a1, a2, a3⟩ := hj.ke b hb
      obtain ⟨b1, b2, b3⟩ := hk.ke b hb
      obtain ⟨_, _, g1, g2, g3, g4⟩ := c.ok.G.gb.edges _ (eth_mem hb)
      have m1 := n2 (eth s.C.edges b).f.toNat (by omega)
      have m2 := n2 (eth s.C.edges b).g.toNat (by omega)
      rw [fn] at m1 m2
      rw [fn, e2 b hb, a1, a2, a3, m1, m2]
      exact ⟨b1, b2, b3⟩

/-! ### One to one and onto -/
theorem nodup_fn {l : List Int} {n m : Nat} (hl : l.length = n) (pl : placesIn l m) : l.Nodup ↔ ∀ i j, i < n → j < n → fn l i = fn l j → i = j := by
  rw [List.nodup_iff_pairwise_ne, List.pairwise_iff_getElem]
  constructor
  · intro h i j hi hj e
    have e2 : l[i]'(by omega) = l[j]'(by omega) := by
      rw [← nth_eq, ← nth_eq, (fn_at pl (show i < l.length by omega)).1, (fn_at pl (show j < l.length by omega)).1, e]
    rcases Nat.lt_trichotomy i j with h3 | h3 | h3
    · exact absurd e2 (h i j _ _ h3)
    · exact h3
    · exact absurd e2.symm (h j i _ _ h3)
  · intro h i j hi hj hij e
    have := h i j (by omega) (by omega) (by rw [fn, fn, nth_eq hi, nth_eq hj, e])
    omega
theorem cov_fn {l : List Int} {n m : Nat} (hl : l.length = n) (pl : placesIn l m) : covB l m = true ↔ ∀ d, d < m → ∃ i, i < n ∧ fn l i = d := by
  simp only [covB, decide_eq_true_eq]
  refine forall_congr' fun d => imp_congr_right fun hd => ?_
  constructor
  · intro h
    obtain ⟨i, hi, e⟩ := mem_nth h
    exact ⟨i, by omega, by rw [fn, e]; rfl⟩
  · rintro ⟨i, hi, rfl⟩
    rw [← (fn_at pl (show i < l.length by omega)).1]
    exact nth_mem (by omega)

/-- A cocone is accepted exactly if it is a pushout. -/
theorem poChk_iff {s : Sp} {d : Gr} {h k : Pa} (e : pmE s d h k = 0) : poChk s d h k = true ↔ IsPO s d h k := by
  have c := pm_cone e
  have po := po_std c.ok
  have hm := pm_hom c
  have hi := poI_hom c.ok
  have hj := poJ_hom c.ok
  have em := mor_zero (hm.ok (poG_ok c.ok c.un) c.mp.gb)
  obtain ⟨⟨n1, n2⟩, e1, e2⟩ := pm_at c
  have z1 : ∀ b, b < s.B.nodes.length → fn (pmC s h k).nodes (fn (poI s).nodes b) = fn h.nodes b := fun b hb => by rw [fn, n1 b hb]; rfl
  have z2 : ∀ b, b < s.C.nodes.length → fn (pmC s h k).nodes (fn (poJ s).nodes b) = fn k.nodes b := fun b hb => by rw [fn, n2 b hb]; rfl
  have z3 : ∀ b, b < s.B.edges.length → fn (pmC s h k).edges (fn (poI s).edges b) = fn h.edges b := fun b hb => by rw [fn, e1 b hb]; rfl
  have z4 : ∀ b, b < s.C.edges.length → fn (pmC s h k).edges (fn (poJ s).edges b) = fn k.edges b := fun b hb => by rw [fn, e2 b hb]; rfl
  have key : poChk s d h k = true ↔ (((pmC s h k).nodes.Nodup ∧ (pmC s h k).edges.Nodup) ∧ (covB (pmC s h k).nodes d.nodes.length = true ∧ covB (pmC s h k).edges d.edges.length = true)) := by
    simp [poChk, e, injB, surjB, em]
  rw [key, nodup_fn hm.ln hm.pn, nodup_fn hm.le hm.pe, cov_fn hm.ln hm.pn, cov_fn hm.le hm.pe]
  constructor
  · rintro ⟨⟨a1, a2⟩, b1, b2⟩
    exact ⟨po_of_iso po.1 hi.mn hj.mn z1 z2 c.ok.F.hom.mn c.ok.G.hom.mn a1 b1, po_of_iso po.2 hi.me hj.me z3 z4 c.ok.F.hom.me c.ok.G.hom.me a2 b2⟩
  · rintro ⟨p1, p2⟩
    obtain ⟨a1, b1⟩ := po_iso p1 po.1 hi.mn hj.mn z1 z2
    obtain ⟨a2, b2⟩ := po_iso p2 po.2 hi.me hj.me z3 z4
    exact ⟨⟨a1, a2⟩, b1, b2⟩
end Go.Proofs.YthcnpnogfblkcaaGreat

/- The standard pullback of graphs; what mediates into it; when a cone is a pullback. No program in sight. -/
namespace Go.Proofs.YthcnpnogfblkcaaGreat
open Abs Po
set_option linter.unusedSimpArgs false
set_option linter.unusedVariables false

theorem collect_pb_nodup {f g : List Int} {i : Nat} : ∀ n, (collect (pbF f g i) n).Nodup ∧ ∀ q ∈ collect (pbF f g i) n, q.1 = i ∧ q.2 < n
  | 0 => ⟨List.nodup_nil, fun q hq => by simp [collect_zero] at hq⟩
  | n + 1 => by
    obtain ⟨h1, h2⟩ := collect_pb_nodup (f := f) (g := g) (i := i) n
    by_cases e : nth f i = nth g n
    · rw [collect_some (x := ((i : Int), (n : Int))) (by rw [pbF, if_pos e])]
      refine ⟨List.nodup_append.2 ⟨h1, by simp, fun a ha b hb => ?_⟩, fun q hq => ?_⟩
      · simp at hb
        subst hb
        rintro rfl
        have := (h2 _ ha).2
        simp at this
      · rcases List.mem_append.1 hq with hq | hq
        · have := h2 q hq
          exact ⟨this.1, by omega⟩
        · simp at hq
          subst hq
          exact ⟨rfl, by show (n : Int) < (n + 1 : Nat); omega⟩
    · rw [collect_none (by rw [pbF, if_neg e])]
      exact ⟨h1, fun q hq => ⟨(h2 q hq).1, by have := (h2 q hq).2; omega⟩⟩
theorem gather_pb_nodup {f g : List Int} : ∀ n, (gather (fun i => collect (pbF f g i) g.length) n).Nodup ∧ ∀ q ∈ gather (fun i => collect (pbF f g i) g.length) n, q.1 < n
  | 0 => ⟨List.nodup_nil, fun q hq => by simp [gather_zero] at hq⟩
  | n + 1 => by
    obtain ⟨h1, h2⟩ := gather_pb_nodup (f := f) (g := g) n
    obtain ⟨k1, k2⟩ := collect_pb_nodup (f := f) (g := g) (i := n) g.length
    rw [gather_succ]
    refine ⟨List.nodup_append.2 ⟨h1, k1, fun a ha b hb => ?_⟩, fun q hq => ?_⟩
    · rintro rfl
      have e1 := h2 _ ha
      have e2 := (k2 _ hb).1
      omega
    · rcases List.mem_append.1 hq with hq | hq
      · have := h2 q hq
        omega
      · have := (k2 q hq).1
        omega
theorem pbP_nodup {f g : List Int} : (pbP f g).Nodup := (gather_pb_nodup f.length).1
theorem pth_inj {l : List (Int × Int)} (h : l.Nodup) {i j : Nat} (hi : i < l.length) (hj : j < l.length) (e : pth l i = pth l j) : i = j := by
  rw [List.nodup_iff_pairwise_ne, List.pairwise_iff_getElem] at h
  rw [pth_eq' hi, pth_eq' hj] at e
  rcases Nat.lt_trichotomy i j with h3 | h3 | h3
  · exact absurd e (h i j hi hj h3)
  · exact h3
  · exact absurd e.symm (h j i hj hi h3)
theorem nth_fst {l : List (Int × Int)} {i : Nat} (h : i < l.length) : nth (fstL l) i = (pth l i).1 := by
  rw [nth_eq (by rw [fstL_len]; exact h), pth_eq' h]; simp [fstL]
theorem nth_snd {l : List (Int × Int)} {i : Nat} (h : i < l.length) : nth (sndL l) i = (pth l i).2 := by
  rw [nth_eq (by rw [sndL_len]; exact h), pth_eq' h]; simp [sndL]

/-- The standard pullback of lists of numbers is one. -/
theorem pb_lists {nB nC m : Nat} {F G : List Int} (lF : F.length = nB) (lG : G.length = nC) (pF : placesIn F m) (pG : placesIn G m) :
    PB (pbP F G).length nB nC (fn (fstL (pbP F G))) (fn (sndL (pbP F G))) (fn F) (fn G) := by
  have at_ : ∀ a, a < (pbP F G).length → ∃ i k : Nat, i < nB ∧ k < nC ∧ nth F i = nth G k ∧ fn (fstL (pbP F G)) a = i ∧ fn (sndL (pbP F G)) a = k ∧ pth (pbP F G) a = ((i : Int), (k : Int)) := fun a ha => by
    obtain ⟨i, k, h1, h2, h3, h4⟩ := mem_pbP.1 (pth_mem ha)
    exact ⟨i, k, by omega, by omega, h3, by rw [fn, nth_fst ha, h4]; rfl, by rw [fn, nth_snd ha, h4]; rfl, h4⟩
  refine ⟨fun a ha => ?_, fun b c hb hc e => ?_, fun a a' ha ha' e1 e2 => ?_⟩
  · obtain ⟨i, k, h1, h2, h3, h4, h5, _⟩ := at_ a ha
    rw [h4, h5, fn, fn, h3]
  · have hm : ((b : Int), (c : Int)) ∈ pbP F G := mem_pbP.2 ⟨b, c, by omega, by omega, by rw [(fn_at pF (show b < F.length by omega)).1, (fn_at pG (show c < G.length by omega)).1, e], rfl⟩
    have h1 := idxP_lt hm
    have h0 := idxP_pos.2 hm
    have h2 := idxP_get hm
    have hl : (idxP (pbP F G) ((b : Int), (c : Int))).toNat < (pbP F G).length := by omega
    exact ⟨_, hl, by rw [fn, nth_fst hl, h2]; rfl, by rw [fn, nth_snd hl, h2]; rfl⟩
  · obtain ⟨i, k, h1, h2, h3, h4, h5, h6⟩ := at_ a ha
    obtain ⟨i', k', h1', h2', h3', h4', h5', h6'⟩ := at_ a' ha'
    refine pth_inj pbP_nodup ha ha' ?_
    rw [h6, h6', ← h4, ← h4', ← h5, ← h5', e1, e2]

/-- The two squares of functions of a cospan with a cone are pullbacks. -/
def IsPB (s : Co) (a : Gr) (h k : Pa) : Prop :=
  PB a.nodes.length s.B.nodes.length s.C.nodes.length (fn h.nodes) (fn k.nodes) (fn s.F.nodes) (fn s.G.nodes) ∧
  PB a.edges.length s.B.edges.length s.C.edges.length (fn h.edges) (fn k.edges) (fn s.F.edges) (fn s.G.edges)

theorem pbG_len {s : Co} : (pbG s).nodes.length = (pbNs s).length ∧ (pbG s).edges.length = (pbEs s).length := by simp [pbG]
theorem pbG_nth {s : Co} {i : Nat} (h : i < (pbNs s).length) : nth (pbG s).nodes i = pbNode s (pth (pbNs s) i) := by
  rw [nth_eq (by rw [pbG_len.1]; exact h), pth_eq' h]; simp [pbG]
theorem pbG_eth {s : Co} {i : Nat} (h : i < (pbEs s).length) : eth (pbG s).edges i = pbEdge s (pth (pbEs s) i) := by
  rw [eth_eq (by rw [pbG_len.2]; exact h), pth_eq' h]; simp [pbG]

def pbDown (c : Co) : Pa := ⟨fstL (pbNs c), fstL (pbEs c)⟩
def pbUpp (c : Co) : Pa := ⟨sndL (pbNs c), sndL (pbEs c)⟩
/-- The standard pullback is one. -/
theorem pb_std {s : Co} (ok : CoOk s) : IsPB s (pbG s) (pbDown s) (pbUpp s) := by
  refine ⟨?_, ?_⟩
  · rw [pbG_len.1]; exact pb_lists ok.F.ln ok.G.ln ok.F.rn ok.G.rn
  · rw [pbG_len.2]; exact pb_lists ok.F.le ok.G.le ok.F.re ok.G.re

/-- The ends of a pair of edges are pairs of nodes. -/
theorem pb_ends {s : Co} (ok : CoOk s) {i k : Nat} (hi : i < s.B.edges.length) (hk : k < s.C.edges.length) (e : nth s.F.edges i = nth s.G.edges k) :
    ((eth s.B.edges i).f, (eth s.C.edges k).f) ∈ pbNs s ∧ ((eth s.B.edges i).g, (eth s.C.edges k).g) ∈ pbNs s := by
  obtain ⟨_, _, t1, u1, v1⟩ := ok.F.e i hi
  obtain ⟨_, _, t2, u2, v2⟩ := ok.G.e k hk
  rw [e] at u1 v1
  obtain ⟨_, _, g1, g2, g3, g4⟩ := ok.F.ga.edges _ (eth_mem hi)
  obtain ⟨_, _, p1, p2, p3, p4⟩ := ok.G.ga.edges _ (eth_mem hk)
  have l1 := ok.F.ln
  have l2 := ok.G.ln
  exact ⟨mem_pbP.2 ⟨(eth s.B.edges i).f.toNat, (eth s.C.edges k).f.toNat, by omega, by omega, by rw [u1, u2], by rw [Int.toNat_of_nonneg g1, Int.toNat_of_nonneg p1]⟩,
    mem_pbP.2 ⟨(eth s.B.edges i).g.toNat, (eth s.C.edges k).g.toNat, by omega, by omega, by rw [v1, v2], by rw [Int.toNat_of_nonneg g3, Int.toNat_of_nonneg p3]⟩⟩

theorem pbG_ok {s : Co} (h : pbErr s = 0) : GrOk (pbG s) := by
  obtain ⟨ok, h1, h2⟩ := pbErr_few h
  refine ⟨by rw [pbG_len.1]; exact h1, by rw [pbG_len.2]; exact h2, fun x hx => ?_, fun e he => ?_⟩
  · obtain ⟨d, hd, rfl⟩ := mem_nth hx
    rw [pbG_len.1] at hd
    obtain ⟨i, k, hi, hk, e⟩ := pbNs_at ok (pth_mem hd)
    rw [pbG_nth hd, e, pbNode]
    exact ok.F.ga.kinds _ (nth_mem hi)
  · obtain ⟨d, hd, rfl⟩ := mem_eth he
    rw [pbG_len.2] at hd
    obtain ⟨i, k, hi, hk, h3, e⟩ := mem_pbP.1 (pth_mem (show d < (pbP s.F.edges s.G.edges).length from hd))
    have e : pth (pbEs s) d = ((i : Int), (k : Int)) := e
    rw [ok.F.le] at hi
    rw [ok.G.le] at hk
    obtain ⟨m1, m2⟩ := pb_ends ok hi hk h3
    obtain ⟨t1, t2, _⟩ := ok.F.ga.edges _ (eth_mem hi)
    have a1 := idxP_pos.2 m1
    have a2 := idxP_lt m1
    have a3 := idxP_pos.2 m2
    have a4 := idxP_lt m2
    rw [pbG_eth hd, e, pbEdge, pbG_len.1]
    exact ⟨t1, t2, a1, a2, a3, a4⟩
theorem pbDown_hom {s : Co} (ok : CoOk s) : Hom (pbG s) s.B (pbDown s) := by
  refine ⟨by rw [pbG_len.1]; exact fstL_len, by rw [pbG_len.2]; exact fstL_len, fun x hx => ?_, fun x hx => ?_, fun i hi => ?_, fun i hi => ?_⟩
  · obtain ⟨q, hq, rfl⟩ := List.mem_map.1 hx
    obtain ⟨i, k, hi, hk, rfl⟩ := pbNs_at ok hq
    exact ⟨by simp, by simpa using hi⟩
  · obtain ⟨q, hq, rfl⟩ := List.mem_map.1 hx
    obtain ⟨i, k, hi, hk, rfl⟩ := pbEs_at ok hq
    exact ⟨by simp, by simpa using hi⟩
  · rw [pbG_len.1] at hi
    rw [pbG_nth hi, pbNode, fn, pbDown, nth_fst hi]
  · rw [pbG_len.2] at hi
    obtain ⟨a, b, ha, hb, h3, e⟩ := mem_pbP.1 (pth_mem (show i < (pbP s.F.edges s.G.edges).length from hi))
    have e : pth (pbEs s) i = ((a : Int), (b : Int)) := e
    rw [ok.F.le] at ha
    rw [ok.G.le] at hb
    obtain ⟨m1, m2⟩ := pb_ends ok ha hb h3
    have a1 := idxP_pos.2 m1
    have a2 := idxP_lt m1
    have a3 := idxP_pos.2 m2
    have a4 := idxP_lt m2
    have q1 := idxP_get m1
    have q2 := idxP_get m2
    rw [pbG_eth hi, e, pbEdge, fn, pbDown, nth_fst hi, e]
    simp only [Int.toNat_natCast]
    rw [nth_fst (by omega), nth_fst (by omega), q1, q2]
    refine ⟨?_, ?_, ?_⟩ <;> first | rfl | trivial
theorem pbUpp_hom {s : Co} (ok : CoOk s) : Hom (pbG s) s.C (pbUpp s) := by
  refine ⟨by rw [pbG_len.1]; exact sndL_len, by rw [pbG_len.2]; exact sndL_len, fun x hx => ?_, fun x hx => ?_, fun i hi => ?_, fun i hi => ?_⟩
  · obtain ⟨q, hq, rfl⟩ := List.mem_map.1 hx
    obtain ⟨i, k, hi, hk, rfl⟩ := pbNs_at ok hq
    exact ⟨by simp, by simpa using hk⟩
  · obtain ⟨q, hq, rfl⟩ := List.mem_map.1 hx
    obtain ⟨i, k, hi, hk, rfl⟩ := pbEs_at ok hq
    exact ⟨by simp, by simpa using hk⟩
  · rw [pbG_len.1] at hi
    obtain ⟨a, b, ha, hb, h3, e⟩ := mem_pbP.1 (pth_mem (show i < (pbP s.F.nodes s.G.nodes).length from hi))
    have e : pth (pbNs s) i = ((a : Int), (b : Int)) := e
    rw [ok.F.ln] at ha
    rw [ok.G.ln] at hb
    have k1 := (ok.F.n a ha).2.2
    have k2 := (ok.G.n b hb).2.2
    rw [pbG_nth hi, pbNode, fn, pbUpp, nth_snd hi, e]
    simp only [Int.toNat_natCast]
    rw [← k1, ← k2, h3]
  · rw [pbG_len.2] at hi
    obtain ⟨a, b, ha, hb, h3, e⟩ := mem_pbP.1 (pth_mem (show i < (pbP s.F.edges s.G.edges).length from hi))
    have e : pth (pbEs s) i = ((a : Int), (b : Int)) := e
    rw [ok.F.le] at ha
    rw [ok.G.le] at hb
    obtain ⟨m1, m2⟩ := pb_ends ok ha hb h3
    have a1 := idxP_pos.2 m1
    have a2 := idxP_lt m1
    have a3 := idxP_pos.2 m2
    have a4 := idxP_lt m2
    have q1 := idxP_get m1
    have q2 := idxP_get m2
    have k1 := (ok.F.e a ha).2.2.1
    have k2 := (ok.G.e b hb).2.2.1
    rw [h3] at k1
    rw [pbG_eth hi, e, pbEdge, fn, pbUpp, nth_snd hi, e]
    simp only [Int.toNat_natCast]
    rw [nth_snd (by omega), nth_snd (by omega), q1, q2, k1, k2]
    refine ⟨?_, ?_, ?_⟩ <;> first | rfl | trivial

/-! ### What mediates -/
structure Cone' (s : Co) (a : Gr) (h k : Pa) : Prop where
  e : pbErr s = 0
  ok : CoOk s
  mp : MorOk a s.B h
  mq : MorOk a s.C k
  cn : ∀ i, i < a.nodes.length → fn s.F.nodes (fn h.nodes i) = fn s.G.nodes (fn k.nodes i)
  ce : ∀ i, i < a.edges.length → fn s.F.edges (fn h.edges i) = fn s.G.edges (fn k.edges i)
theorem med_cone {s : Co} {a : Gr} {h k : Pa} (e : medE s a h k = 0) : Cone' s a h k := by
  obtain ⟨h1, h2, h3, h5⟩ := medE_ok e
  have ok := (pbErr_few h1).1
  have m1 := mor_ok h2
  have m2 := mor_ok h3
  have l1 := m1.ln
  have l2 := m1.le
  have l3 := m2.ln
  have l4 := m2.le
  have h6 := sameP_iff.1 h5
  injection h6 with h6 h7
  exact ⟨h1, ok, m1, m2, fun i hi => same_thru h6 (by omega) (by omega), fun i hi => same_thru h7 (by omega) (by omega)⟩
theorem meet_nth {l : List (Int × Int)} {h k : List Int} {n i : Nat} (hi : i < n) : nth (meetL l h k n) i = idxP l (nth h i, nth k i) := by
  rw [nth_eq (by rw [meetL_len]; exact hi)]; simp [meetL]
theorem med_memN {s : Co} {a : Gr} {h k : Pa} (c : Cone' s a h k) {i : Nat} (hi : i < a.nodes.length) : (nth h.nodes i, nth k.nodes i) ∈ pbNs s := by
  obtain ⟨e1, b1⟩ := fn_at c.mp.rn (show i < h.nodes.length by rw [c.mp.ln]; exact hi)
  obtain ⟨e2, b2⟩ := fn_at c.mq.rn (show i < k.nodes.length by rw [c.mq.ln]; exact hi)
  have l1 := c.ok.F.ln
  have l2 := c.ok.G.ln
  refine mem_pbP.2 ⟨fn h.nodes i, fn k.nodes i, by omega, by omega, ?_, by rw [e1, e2]⟩
  rw [(fn_at c.ok.F.rn (by omega)).1, (fn_at c.ok.G.rn (by omega)).1, c.cn i hi]
theorem med_memE {s : Co} {a : Gr} {h k : Pa} (c : Cone' s a h k) {i : Nat} (hi : i < a.edges.length) : (nth h.edges i, nth k.edges i) ∈ pbEs s := by
  obtain ⟨e1, b1⟩ := fn_at c.mp.re (show i < h.edges.length by rw [c.mp.le]; exact hi)
  obtain ⟨e2, b2⟩ := fn_at c.mq.re (show i < k.edges.length by rw [c.mq.le]; exact hi)
  have l1 := c.ok.F.le
  have l2 := c.ok.G.le
  refine mem_pbP.2 ⟨fn h.edges i, fn k.edges i, by omega, by omega, ?_, by rw [e1, e2]⟩
  rw [(fn_at c.ok.F.re (by omega)).1, (fn_at c.ok.G.re (by omega)).1, c.ce i hi]
theorem med_n {s : Co} {a : Gr} {h k : Pa} (c : Cone' s a h k) {i : Nat} (hi : i < a.nodes.length) :
    nth (medC s h k).nodes i = idxP (pbNs s) (nth h.nodes i, nth k.nodes i) ∧ nth (pbDown s).nodes (fn (medC s h k).nodes i) = nth h.nodes i ∧ nth (pbUpp s).nodes (fn (medC s h k).nodes i) = nth k.nodes i := by
  have hm := med_memN c hi
  have h1 := idxP_lt hm
  have h0 := idxP_pos.2 hm
  have h2 := idxP_get hm
  have e : nth (medC s h k).nodes i = idxP (pbNs s) (nth h.nodes i, nth k.nodes i) := meet_nth (by rw [c.mp.ln]; exact hi)
  refine ⟨e, ?_, ?_⟩
  · rw [fn, e, pbDown, nth_fst (by omega), h2]
  · rw [fn, e, pbUpp, nth_snd (by omega), h2]
theorem med_e {s : Co} {a : Gr} {h k : Pa} (c : Cone' s a h k) {i : Nat} (hi : i < a.edges.length) :
    nth (medC s h k).edges i = idxP (pbEs s) (nth h.edges i, nth k.edges i) ∧ nth (pbDown s).edges (fn (medC s h k).edges i) = nth h.edges i ∧ nth (pbUpp s).edges (fn (medC s h k).edges i) = nth k.edges i := by
  have hm := med_memE c hi
  have h1 := idxP_lt hm
  have h0 := idxP_pos.2 hm
  have h2 := idxP_get hm
  have e : nth (medC s h k).edges i = idxP (pbEs s) (nth h.edges i, nth k.edges i) := meet_nth (by rw [c.mp.le]; exact hi)
  refine ⟨e, ?_, ?_⟩
  · rw [fn, e, pbDown, nth_fst (by omega), h2]
  · rw [fn, e, pbUpp, nth_snd (by omega), h2]
theorem med_hom {s : Co} {a : Gr} {h k : Pa} (c : Cone' s a h k) : Hom a (pbG s) (medC s h k) := by
  have l1 : (medC s h k).nodes.length = a.nodes.length := by simp only [medC, meetL_len, c.mp.ln]
  have l2 : (medC s h k).edges.length = a.edges.length := by simp only [medC, meetL_len, c.mp.le]
  have pd := pbDown_hom c.ok
  refine ⟨l1, l2, fun x hx => ?_, fun x hx => ?_, fun i hi => ?_, fun i hi => ?_⟩
  · obtain ⟨i, hi, rfl⟩ := mem_nth hx
    rw [l1] at hi
    have hm := med_memN c hi
    have h1 := idxP_lt hm
    have h0 := idxP_pos.2 hm
    rw [(med_n c hi).1, pbG_len.1]
    exact ⟨h0, h1⟩
  · obtain ⟨i, hi, rfl⟩ := mem_nth hx
    rw [l2] at hi
    have hm := med_memE c hi
    have h1 := idxP_lt hm
    have h0 := idxP_pos.2 hm
    rw [(med_e c hi).1, pbG_len.2]
    exact ⟨h0, h1⟩
  · have hm := med_memN c hi
    have h1 := idxP_lt hm
    have h0 := idxP_pos.2 hm
    have h2 := idxP_get hm
    rw [fn, (med_n c hi).1, pbG_nth (by omega), h2, pbNode]
    exact (c.mp.n i hi).2.2
  · have hm := med_memE c hi
    have h1 := idxP_lt hm
    have h0 := idxP_pos.2 hm
    have h2 := idxP_get hm
    obtain ⟨_, _, g1, g2, g3, g4⟩ := c.mp.ga.edges _ (eth_mem hi)
    obtain ⟨_, _, t1, u1, v1⟩ := c.mp.e i hi
    obtain ⟨_, _, t2, u2, v2⟩ := c.mq.e i hi
    rw [fn, (med_e c hi).1, pbG_eth (by omega), h2, pbEdge, (med_n c (show (eth a.edges i).f.toNat < a.nodes.length by omega)).1, (med_n c (show (eth a.edges i).g.toNat < a.nodes.length by omega)).1]
    simp only [← t1, ← u1, ← v1, ← u2, ← v2]
    refine ⟨?_, ?_, ?_⟩ <;> first | rfl | trivial

/-- A cone is accepted exactly if it is a pullback. -/
theorem pbChk_iff {s : Co} {a : Gr} {h k : Pa} (e : medE s a h k = 0) : pbChk s a h k = true ↔ IsPB s a h k := by
  have c := med_cone e
  have pb := pb_std c.ok
  have hm := med_hom c
  have hi := pbDown_hom c.ok
  have hj := pbUpp_hom c.ok
  have em := mor_zero (hm.ok c.mp.ga (pbG_ok c.e))
  have z1 : ∀ i, i < a.nodes.length → fn (pbDown s).nodes (fn (medC s h k).nodes i) = fn h.nodes i := fun i hi => by rw [fn, (med_n c hi).2.1]; rfl
  have z2 : ∀ i, i < a.nodes.length → fn (pbUpp s).nodes (fn (medC s h k).nodes i) = fn k.nodes i := fun i hi => by rw [fn, (med_n c hi).2.2]; rfl
  have z3 : ∀ i, i < a.edges.length → fn (pbDown s).edges (fn (medC s h k).edges i) = fn h.edges i := fun i hi => by rw [fn, (med_e c hi).2.1]; rfl
  have z4 : ∀ i, i < a.edges.length → fn (pbUpp s).edges (fn (medC s h k).edges i) = fn k.edges i := fun i hi => by rw [fn, (med_e c hi).2.2]; rfl
  have key : pbChk s a h k = true ↔ (((medC s h k).nodes.Nodup ∧ (medC s h k).edges.Nodup) ∧ (covB (medC s h k).nodes (pbG s).nodes.length = true ∧ covB (medC s h k).edges (pbG s).edges.length = true)) := by
    simp [pbChk, e, injB, surjB, em]
  rw [key, nodup_fn hm.ln hm.pn, nodup_fn hm.le hm.pe, cov_fn hm.ln hm.pn, cov_fn hm.le hm.pe]
  constructor
  · rintro ⟨⟨a1, a2⟩, b1, b2⟩
    exact ⟨pb_of_iso pb.1 hm.mn z1 z2 a1 b1, pb_of_iso pb.2 hm.me z3 z4 a2 b2⟩
  · rintro ⟨p1, p2⟩
    obtain ⟨a1, b1⟩ := pb_iso p1 pb.1 hi.mn hj.mn hm.mn z1 z2
    obtain ⟨a2, b2⟩ := pb_iso p2 pb.2 hi.me hj.me hm.me z3 z4
    exact ⟨⟨a1, a2⟩, b1, b2⟩
end Go.Proofs.YthcnpnogfblkcaaGreat

/- The kind of a valid square that commutes. No program in sight. -/
namespace Go.Proofs.YthcnpnogfblkcaaGreat
open Abs Po
set_option linter.unusedSimpArgs false
set_option linter.unusedVariables false

theorem sq_parts {s : Sq} (h1 : sqErr s = 0) : morErr s.A s.B s.F = 0 ∧ morErr s.A s.C s.G = 0 ∧ morErr s.B s.D s.H = 0 ∧ morErr s.C s.D s.K = 0 := by
  have ok := sqErr_ok h1
  exact ⟨mor_zero ok.F, mor_zero ok.G, mor_zero ok.H, mor_zero ok.K⟩
theorem sq_zero {s : Sq} (F : MorOk s.A s.B s.F) (G : MorOk s.A s.C s.G) (H : MorOk s.B s.D s.H) (K : MorOk s.C s.D s.K) : sqErr s = 0 := by
  simp [sqErr, mor_zero F, mor_zero G, mor_zero H, mor_zero K]
theorem down_err {s : Sq} (h1 : sqErr s = 0) : spErr (downS s) = 0 := by
  obtain ⟨a, b, _, _⟩ := sq_parts h1
  show (if morErr s.A s.B s.F = 0 then morErr s.A s.C s.G else morErr s.A s.B s.F) = 0
  rw [if_pos a, b]
theorem up_err {s : Sq} (h1 : sqErr s = 0) : coErr (upS s) = 0 := by
  obtain ⟨_, _, a, b⟩ := sq_parts h1
  show (if morErr s.B s.D s.H = 0 then morErr s.C s.D s.K else morErr s.B s.D s.H) = 0
  rw [if_pos a, b]
theorem pm_zero {s : Sq} (h1 : sqErr s = 0) (h2 : commB s = true) (h3 : unErr s.B s.C = 0) : pmE (downS s) s.D s.H s.K = 0 := by
  obtain ⟨a, b, c, d⟩ := sq_parts h1
  rw [pmE, if_pos (down_err h1), if_pos (show morErr (downS s).B s.D s.H = 0 from c), if_pos (show morErr (downS s).C s.D s.K = 0 from d), if_pos (show unErr (downS s).B (downS s).C = 0 from h3)]
  exact if_pos h2
theorem med_zero {s : Sq} (h1 : sqErr s = 0) (h2 : commB s = true) (h3 : pbErr (upS s) = 0) : medE (upS s) s.A s.F s.G = 0 := by
  obtain ⟨a, b, c, d⟩ := sq_parts h1
  rw [medE, if_pos h3, if_pos (show morErr s.A (upS s).B s.F = 0 from a), if_pos (show morErr s.A (upS s).C s.G = 0 from b)]
  exact if_pos h2
theorem pb_errs {s : Sq} (h1 : sqErr s = 0) : pbErr (upS s) = 0 ∨ pbErr (upS s) = 3 := by
  rw [pbErr, if_pos (up_err h1)]
  split
  · exact .inr rfl
  · exact .inl rfl
theorem un_errs {a b : Gr} (ga : GrOk a) (gb : GrOk b) : unErr a b = 0 ∨ unErr a b = 3 := by
  rw [unErr, if_pos (gErr_of ga), if_pos (gErr_of gb)]
  split
  · exact .inr rfl
  · exact .inl rfl
theorem un_zero {a b : Gr} (ga : GrOk a) (gb : GrOk b) (hn : a.nodes.length + b.nodes.length ≤ 40) (he : a.edges.length + b.edges.length ≤ 80) : unErr a b = 0 := by
  rw [unErr, if_pos (gErr_of ga), if_pos (gErr_of gb), if_neg]
  simp only [unBig]
  omega

/-- Pushout, pullback. -/
def SqPO (s : Sq) : Prop := IsPO (downS s) s.D s.H s.K
def SqPB (s : Sq) : Prop := IsPB (upS s) s.A s.F s.G

open Classical in
theorem kind_is {s : Sq} (h1 : sqErr s = 0) (h2 : commB s = true) (h3 : unErr s.B s.C = 0) :
    kindR s = (0, 3) ∨ kindR s = ((if SqPO s then 1 else 0) + (if SqPB s then 2 else 0), 0) := by
  have e1 : poErr (downS s) = 0 := by rw [poErr, if_pos (down_err h1)]; exact h3
  rcases pb_errs h1 with e | e
  · refine .inr ?_
    have k1 := poChk_iff (pm_zero h1 h2 h3)
    have k2 := pbChk_iff (med_zero h1 h2 e)
    rw [kindR, if_pos h1, if_pos h2, if_pos e1, if_pos e, kindN]
    have c1 : (poChk (downS s) s.D s.H s.K = true) = SqPO s := propext k1
    have c2 : (pbChk (upS s) s.A s.F s.G = true) = SqPB s := propext k2
    congr 1
    congr 1
    · by_cases h : SqPO s
      · rw [if_pos (k1.2 h), if_pos h]
      · rw [if_neg (fun x => h (k1.1 x)), if_neg h]
    · by_cases h : SqPB s
      · rw [if_pos (k2.2 h), if_pos h]
      · rw [if_neg (fun x => h (k2.1 x)), if_neg h]
  · refine .inl ?_
    rw [kindR, if_pos h1, if_pos h2, if_pos e1, if_neg (by omega), e]
theorem kind_too {s : Sq} (h1 : sqErr s = 0) (h2 : commB s = true) (h3 : unErr s.B s.C = 3) : kindR s = (0, 3) := by
  have e1 : poErr (downS s) = 3 := by rw [poErr, if_pos (down_err h1)]; exact h3
  rw [kindR, if_pos h1, if_pos h2, if_neg (by omega), e1]

theorem comm_of {s : Sq} (F : MorOk s.A s.B s.F) (G : MorOk s.A s.C s.G) (H : MorOk s.B s.D s.H) (K : MorOk s.C s.D s.K)
    (cn : ∀ i, i < s.A.nodes.length → fn s.H.nodes (fn s.F.nodes i) = fn s.K.nodes (fn s.G.nodes i)) (ce : ∀ i, i < s.A.edges.length → fn s.H.edges (fn s.F.edges i) = fn s.K.edges (fn s.G.edges i)) : commB s = true := by
  have l1 := F.ln
  have l2 := G.ln
  have l3 := F.le
  have l4 := G.le
  refine sameP_iff.2 ?_
  have key : ∀ {m : Nat} {f g h k : List Int} {nB nC nD : Nat}, f.length = m → g.length = m → placesIn f nB → placesIn g nC → h.length = nB → k.length = nC → placesIn h nD → placesIn k nD →
      (∀ i, i < m → fn h (fn f i) = fn k (fn g i)) → thru f h = thru g k := fun {m f g h k nB nC nD} e1 e2 pf pg e3 e4 ph pk hc => (thru_eq e1 e2).2 fun i hi => by
    have b1 := (fn_at pf (show i < f.length by omega)).2
    have b2 := (fn_at pg (show i < g.length by omega)).2
    have := hc i hi
    have c1 := (fn_at ph (show fn f i < h.length by omega)).1
    have c2 := (fn_at pk (show fn g i < k.length by omega)).1
    show nth h (fn f i) = nth k (fn g i)
    rw [c1, c2, this]
  have a1 := key F.ln G.ln F.rn G.rn H.ln K.ln H.rn K.rn cn
  have a2 := key F.le G.le F.re G.re H.le K.le H.re K.re ce
  simp only [thenP, a1, a2]
theorem comm_at {s : Sq} (h1 : sqErr s = 0) (h2 : commB s = true) :
    (∀ i, i < s.A.nodes.length → fn s.H.nodes (fn s.F.nodes i) = fn s.K.nodes (fn s.G.nodes i)) ∧ (∀ i, i < s.A.edges.length → fn s.H.edges (fn s.F.edges i) = fn s.K.edges (fn s.G.edges i)) := by
  have ok := sqErr_ok h1
  have l1 := ok.F.ln
  have l2 := ok.G.ln
  have l3 := ok.F.le
  have l4 := ok.G.le
  have h6 := sameP_iff.1 h2
  injection h6 with h6 h7
  exact ⟨fun i hi => same_thru h6 (by omega) (by omega), fun i hi => same_thru h7 (by omega) (by omega)⟩
theorem then_ok {a b c : Gr} {m n : Pa} (hm : MorOk a b m) (hn : MorOk b c n) : MorOk a c (thenP m n) := by
  have h := hm.hom
  have k := hn.hom
  refine Hom.ok ⟨by simp only [thenP, thru_len]; exact h.ln, by simp only [thenP, thru_len]; exact h.le, thru_in k.pn (by rw [k.ln]; exact h.pn), thru_in k.pe (by rw [k.le]; exact h.pe), fun i hi => ?_, fun i hi => ?_⟩ hm.ga hn.gb
  · have b1 := (fn_at h.pn (show i < m.nodes.length by rw [h.ln]; exact hi)).2
    simp only [thenP]
    rw [fn_thru (by rw [h.ln]; exact hi), k.kn _ b1, h.kn i hi]
  · have b1 := (fn_at h.pe (show i < m.edges.length by rw [h.le]; exact hi)).2
    simp only [thenP]
    obtain ⟨x1, x2, x3⟩ := h.ke i hi
    obtain ⟨y1, y2, y3⟩ := k.ke _ b1
    obtain ⟨_, _, g1, g2, g3, g4⟩ := hm.ga.edges _ (eth_mem hi)
    have l := h.ln
    rw [fn_thru (by rw [h.le]; exact hi), y1, y2, y3, x1, x2, x3, thru_nth (by omega), thru_nth (by omega)]
    exact ⟨rfl, rfl, rfl⟩
end Go.Proofs.YthcnpnogfblkcaaGreat

/- Images of graphs and grown graphs: their morphisms; spans of descriptions; squares of standard pushouts. No program in sight. -/
namespace Go.Proofs.YthcnpnogfblkcaaGreat
open Abs Po
set_option linter.unusedSimpArgs false
set_option linter.unusedVariables false

theorem imT_flat {g : Gr} {c : List Int} : Flat (imT g c) := imP_flat (by omega)
theorem imT_len {g : Gr} {c : List Int} : (imT g c).length = g.nodes.length := imP_len
theorem imT_con {g : Gr} {c : List Int} : ∀ i, i < g.nodes.length → nth g.nodes (nth (imT g c) i).toNat = nth g.nodes i := fun i hi => genL_inv (f := nth g.nodes) (imL_in (by omega)) imL_same hi
theorem imQ_nth {g : Gr} {c : List Int} {i : Nat} (hi : i < g.nodes.length) : ∃ r : Nat, nth (imQ g c) i = (clsN (imT g c) r : Nat) ∧ r < g.nodes.length ∧ nth (imT g c) r = r ∧ nth g.nodes r = nth g.nodes i := by
  obtain ⟨r, h1, h2, h3⟩ := root_of imT_flat imT_len hi
  have h4 := imT_con (g := g) (c := c) i hi
  rw [h1, Int.toNat_natCast] at h4
  refine ⟨r, ?_, h2, h3, h4⟩
  rw [imQ, quotL_nth (by rw [imT_len]; exact hi), h1, Int.toNat_natCast]
theorem imG_nlen {g : Gr} {c : List Int} : (imG g c).nodes.length = clsN (imT g c) g.nodes.length := clsF_len
theorem imQ_in {g : Gr} {c : List Int} : placesIn (imQ g c) (imG g c).nodes.length := by
  rw [imG_nlen]
  exact quotL_in imT_flat imT_len
theorem imQ_len {g : Gr} {c : List Int} : (imQ g c).length = g.nodes.length := by rw [imQ, quotL_len, imT_len]
theorem imAt_ok {E : List Ed} {x : Ed} {c : List Int} {i : Nat} : ∀ k, 0 ≤ imAt E x c i k → eth E (imAt E x c i k).toNat = x
  | 0, h => absurd h (by simp [imAt])
  | k + 1, h => by
    unfold imAt at h ⊢
    split
    · rename_i h1
      rw [Int.toNat_natCast]
      exact h1.1
    · rename_i h1
      rw [if_neg h1] at h
      exact imAt_ok k h
/-- Where the edges go. -/
theorem imS_at {g : Gr} {c q : List Int} : ∀ k i, i < k → 0 ≤ nth (imS g c q k).2 i ∧ nth (imS g c q k).2 i < (imS g c q k).1.length ∧ eth (imS g c q k).1 (nth (imS g c q k).2 i).toNat = imX g q i
  | 0, i, h => absurd h (by omega)
  | k + 1, i, h => by
    have ih := imS_at (g := g) (c := c) (q := q) k
    have hl := (imS_len (g := g) (c := c) (q := q) k).2
    have ha := imAt_lt (E := (imS g c q k).1) (x := imX g q k) (c := c) (i := k) (imS g c q k).1.length
    have hok := imAt_ok (E := (imS g c q k).1) (x := imX g q k) (c := c) (i := k) (imS g c q k).1.length
    unfold imS
    split
    · by_cases e : i = k
      · subst e
        have e1 : nth ((imS g c q i).2 ++ [((imS g c q i).1.length : Int)]) i = (imS g c q i).1.length := by
          rw [nth_eq (by simp; omega), List.getElem_append_right (by omega)]
          simp
        simp only [e1, Int.toNat_natCast]
        refine ⟨by omega, by simp only [List.length_append, List.length_singleton]; omega, ?_⟩
        rw [eth_eq (by simp), List.getElem_append_right (Nat.le_refl _)]
        simp
      · obtain ⟨h1, h2, h3⟩ := ih i (by omega)
        have e1 : nth ((imS g c q k).2 ++ [((imS g c q k).1.length : Int)]) i = nth (imS g c q k).2 i := nth_appL (by omega)
        simp only [e1]
        refine ⟨h1, by simp; omega, ?_⟩
        rw [eth_appL (by omega)]
        exact h3
    · rename_i hn
      by_cases e : i = k
      · subst e
        have e1 : nth ((imS g c q i).2 ++ [imAt (imS g c q i).1 (imX g q i) c i (imS g c q i).1.length]) i = imAt (imS g c q i).1 (imX g q i) c i (imS g c q i).1.length := by
          rw [nth_eq (by simp; omega), List.getElem_append_right (by omega)]
          simp
        simp only [e1]
        exact ⟨by omega, ha.2, hok (by omega)⟩
      · obtain ⟨h1, h2, h3⟩ := ih i (by omega)
        have e1 : nth ((imS g c q k).2 ++ [imAt (imS g c q k).1 (imX g q k) c k (imS g c q k).1.length]) i = nth (imS g c q k).2 i := nth_appL (by omega)
        simp only [e1]
        exact ⟨h1, h2, h3⟩
theorem imS_mem {g : Gr} {c q : List Int} : ∀ k, ∀ e ∈ (imS g c q k).1, ∃ i, i < k ∧ e = imX g q i
  | 0, e, h => by simp [imS] at h
  | k + 1, e, h => by
    unfold imS at h
    split at h
    · rcases List.mem_append.1 h with h | h
      · obtain ⟨i, hi, he⟩ := imS_mem k e h
        exact ⟨i, by omega, he⟩
      · simp at h
        exact ⟨k, by omega, h⟩
    · obtain ⟨i, hi, he⟩ := imS_mem k e h
      exact ⟨i, by omega, he⟩
theorem imG_ok {g : Gr} {c : List Int} (gg : GrOk g) : GrOk (imG g c) := by
  have hf := imG_few (g := g) (c := c)
  have b1 := gg.n
  have b2 := gg.e
  refine ⟨by omega, by omega, fun x hx => ?_, fun e he => ?_⟩
  · obtain ⟨j, hj, hx⟩ := mem_collect.1 hx
    unfold clsF at hx
    split at hx
    · injection hx with hx
      rw [← hx]
      exact gg.kinds _ (nth_mem hj)
    · cases hx
  · obtain ⟨i, hi, rfl⟩ := imS_mem _ e he
    obtain ⟨t1, t2, g1, g2, g3, g4⟩ := gg.edges _ (eth_mem hi)
    have l := imQ_len (g := g) (c := c)
    have p1 := imQ_in _ (nth_mem (l := imQ g c) (k := (eth g.edges i).f.toNat) (by omega))
    have p2 := imQ_in _ (nth_mem (l := imQ g c) (k := (eth g.edges i).g.toNat) (by omega))
    exact ⟨t1, t2, p1.1, p1.2, p2.1, p2.2⟩
theorem im_mor {g : Gr} {c : List Int} (gg : GrOk g) : MorOk g (imG g c) (imM g c) := by
  refine Hom.ok ⟨imQ_len, (imS_len _).2, imQ_in, fun x hx => ?_, fun i hi => ?_, fun i hi => ?_⟩ gg (imG_ok gg)
  · obtain ⟨i, hi, rfl⟩ := mem_nth hx
    have hi : i < (imS g c (imQ g c) g.edges.length).2.length := hi
    rw [(imS_len _).2] at hi
    obtain ⟨h1, h2, _⟩ := imS_at _ i hi
    exact ⟨h1, h2⟩
  · obtain ⟨r, h1, h2, h3, h4⟩ := imQ_nth (c := c) hi
    have := clsF_get (f := nth g.nodes) h3 (k := g.nodes.length) h2
    have e : fn (imM g c).nodes i = clsN (imT g c) r := by
      show fn (imQ g c) i = _
      rw [fn, h1]; rfl
    rw [e, ← h4]
    show ((collect (clsF (imT g c) (nth g.nodes)) g.nodes.length).getD (clsN (imT g c) r) 0) = _
    rw [List.getD, this]
    rfl
  · obtain ⟨h1, h2, h3⟩ := imS_at (g := g) (c := c) (q := imQ g c) _ i hi
    have e : eth (imG g c).edges (fn (imM g c).edges i) = imX g (imQ g c) i := h3
    rw [e]
    exact ⟨rfl, rfl, rfl⟩
theorem id_mor {g : Gr} (gg : GrOk g) : MorOk g g (idP g) := by
  refine Hom.ok ⟨idL_len, idL_len, fun x hx => ?_, fun x hx => ?_, fun i hi => ?_, fun i hi => ?_⟩ gg gg
  · obtain ⟨i, hi, rfl⟩ := mem_nth hx
    have hi : i < (idL g.nodes.length).length := hi
    rw [idL_len] at hi
    have e : nth (idP g).nodes i = i := idL_nth hi
    rw [e]
    omega
  · obtain ⟨i, hi, rfl⟩ := mem_nth hx
    have hi : i < (idL g.edges.length).length := hi
    rw [idL_len] at hi
    have e : nth (idP g).edges i = i := idL_nth hi
    rw [e]
    omega
  · have e : fn (idP g).nodes i = i := by
      show fn (idL g.nodes.length) i = i
      rw [fn, idL_nth hi]; rfl
    rw [e]
  · have e : fn (idP g).edges i = i := by
      show fn (idL g.edges.length) i = i
      rw [fn, idL_nth hi]; rfl
    obtain ⟨_, _, g1, g2, g3, g4⟩ := gg.edges _ (eth_mem hi)
    rw [e]
    have e1 : nth (idP g).nodes (eth g.edges i).f.toNat = (eth g.edges i).f := by
      show nth (idL g.nodes.length) _ = _
      rw [idL_nth (by omega)]; omega
    have e2 : nth (idP g).nodes (eth g.edges i).g.toNat = (eth g.edges i).g := by
      show nth (idL g.nodes.length) _ = _
      rw [idL_nth (by omega)]; omega
    rw [e1, e2]
    exact ⟨rfl, rfl, rfl⟩
theorem gr_base {g : Gr} {l : List Nat} (gg : GrOk g) : MorOk g (grG g l) (grM g l) := by
  unfold grG grM
  split
  · exact im_mor gg
  · exact id_mor gg

/-- More nodes and edges. -/
theorem more_mor {a b : Gr} {m : Pa} {x : List Int} {y : List Ed} (h : MorOk a b m) (gb : GrOk ⟨b.nodes ++ x, b.edges ++ y⟩) : MorOk a ⟨b.nodes ++ x, b.edges ++ y⟩ m := by
  have hh := h.hom
  refine Hom.ok ⟨hh.ln, hh.le, fun z hz => ?_, fun z hz => ?_, fun i hi => ?_, fun i hi => ?_⟩ h.ga gb
  · have := hh.pn z hz
    simp only [List.length_append]
    omega
  · have := hh.pe z hz
    simp only [List.length_append]
    omega
  · have := hh.mn i hi
    show nth (b.nodes ++ x) _ = _
    rw [nth_appL this]
    exact hh.kn i hi
  · have := hh.me i hi
    show (eth (b.edges ++ y) _).t = _ ∧ (eth (b.edges ++ y) _).f = _ ∧ (eth (b.edges ++ y) _).g = _
    rw [eth_appL this]
    exact hh.ke i hi
theorem grow_few {g : Gr} {l : List Nat} : (growG g l).nodes.length ≤ g.nodes.length + 3 ∧ (growG g l).edges.length ≤ g.edges.length + 4 := by
  have hf := grG_few (g := g) (l := l)
  have h1 : (growG g l).nodes.length ≤ (grG g l).nodes.length + gnc l := grN_len
  have h2 : (growG g l).edges.length = (grG g l).edges.length + gec g l := grE_len
  have h3 : gnc l ≤ 3 := by simp only [gnc]; omega
  have h4 : gec g l ≤ 4 := by
    simp only [gec]
    split <;> omega
  omega
theorem grow_ok {g : Gr} {l : List Nat} (gg : GrOk g) (hn : g.nodes.length ≤ 37) (he : g.edges.length ≤ 76) : GrOk (growG g l) := by
  have hb := (gr_base (l := l) gg).gb
  have hf := grow_few (g := g) (l := l)
  have hl : (grG g l).nodes.length ≤ (grn g l).length := by
    simp only [grn, grN, List.length_append]
    omega
  refine ⟨by omega, by omega, fun x hx => ?_, fun e h => ?_⟩
  · have hx : x ∈ (grG g l).nodes ++ collect (gnF l) (gnc l) := hx
    rcases List.mem_append.1 hx with hx | hx
    · exact hb.kinds x hx
    · obtain ⟨j, _, hj⟩ := mem_collect.1 hx
      unfold gnF at hj
      split at hj
      · injection hj with hj
        omega
      · cases hj
  · have h : e ∈ (grG g l).edges ++ (List.range (gec g l)).map (geX l (grn g l).length) := h
    rcases List.mem_append.1 h with h | h
    · obtain ⟨t1, t2, g1, g2, g3, g4⟩ := hb.edges e h
      have e1 : (growG g l).nodes.length = (grn g l).length := rfl
      exact ⟨t1, t2, g1, by omega, g3, by omega⟩
    · obtain ⟨j, hj, rfl⟩ := List.mem_map.1 h
      have hj := List.mem_range.1 hj
      have z : (grn g l).length ≠ 0 := by
        intro z
        simp [gec, z] at hj
      have z1 := Nat.mod_lt (byth l (j + 4) / 2) (Nat.pos_of_ne_zero z)
      have z2 := Nat.mod_lt (byth l (j + 4) / 16) (Nat.pos_of_ne_zero z)
      have e1 : (growG g l).nodes.length = (grn g l).length := rfl
      rw [e1]
      simp only [geX]
      omega
theorem grow_mor {g : Gr} {l : List Nat} (gg : GrOk g) (hn : g.nodes.length ≤ 37) (he : g.edges.length ≤ 76) : MorOk g (growG g l) (grM g l) :=
  more_mor (gr_base gg) (grow_ok gg hn he)

theorem mdS_ok {d : Dr} {b c : List Nat} : SpOk (mdS d b c) := by
  have hf := mdG_few (d := d)
  have h1 := grow_mor (l := b) (mdG_ok (d := d)) (by omega) (by omega)
  have h2 := grow_mor (l := c) (mdG_ok (d := d)) (by omega) (by omega)
  exact ⟨h1, h2⟩
theorem mdS_few {d : Dr} {b c : List Nat} : (mdS d b c).B.nodes.length ≤ 11 ∧ (mdS d b c).B.edges.length ≤ 14 ∧ (mdS d b c).C.nodes.length ≤ 11 ∧ (mdS d b c).C.edges.length ≤ 14 := by
  have hf := mdG_few (d := d)
  have h1 := grow_few (g := mdG d) (l := b)
  have h2 := grow_few (g := mdG d) (l := c)
  simp only [mdS]
  omega

theorem mdS_un' {d : Dr} {b c : List Nat} : unErr (mdS d b c).B (mdS d b c).C = 0 := by
  have hf := mdS_few (d := d) (b := b) (c := c)
  exact un_zero mdS_ok.F.gb mdS_ok.G.gb (by omega) (by omega)

/-! ### The square of a standard pushout -/
theorem gl_is {s : Sp} (ok : SpOk s) (hu : unErr s.B s.C = 0) : glS s = ⟨s.A, s.B, s.C, poG s, s.F, s.G, poI s, poJ s⟩ := by
  have e1 : poErr s = 0 := by
    rw [poErr, if_pos]
    · exact hu
    · rw [spErr, if_pos (mor_zero ok.F)]
      exact mor_zero ok.G
  simp [glS, poR, e1]
theorem gl_sq {s : Sp} (ok : SpOk s) (hu : unErr s.B s.C = 0) : sqErr (glS s) = 0 ∧ commB (glS s) = true ∧ SqPO (glS s) := by
  rw [gl_is ok hu]
  have g := poG_ok ok hu
  have po := po_std ok
  have hH := (poI_hom ok).ok ok.F.gb g
  have hK := (poJ_hom ok).ok ok.G.gb g
  exact ⟨sq_zero ok.F ok.G hH hK, comm_of ok.F ok.G hH hK po.1.comm po.2.comm, po⟩
theorem po_pb {s : Sq} (h1 : sqErr s = 0) (po : SqPO s) (hi : injB s.A s.B s.F = true ∨ injB s.A s.C s.G = true) : SqPB s := by
  have ok := sqErr_ok h1
  rcases hi with hi | hi
  · simp [injB] at hi
    exact ⟨po_inj po.1 ok.F.hom.mn ((nodup_fn ok.F.ln ok.F.rn).1 hi.1.2), po_inj po.2 ok.F.hom.me ((nodup_fn ok.F.le ok.F.re).1 hi.2)⟩
  · simp [injB] at hi
    exact ⟨(po_inj po.1.symm ok.G.hom.mn ((nodup_fn ok.G.ln ok.G.rn).1 hi.1.2)).symm, (po_inj po.2.symm ok.G.hom.me ((nodup_fn ok.G.le ok.G.re).1 hi.2)).symm⟩
open Classical in
theorem gl_kind {s : Sp} (ok : SpOk s) (hu : unErr s.B s.C = 0) :
    kindR (glS s) = (0, 3) ∨ kindR (glS s) = (3, 0) ∨ kindR (glS s) = (1, 0) ∧ injB s.A s.B s.F = false ∧ injB s.A s.C s.G = false := by
  obtain ⟨h1, h2, h3⟩ := gl_sq ok hu
  rcases kind_is h1 h2 (by rw [gl_is ok hu]; exact hu) with e | e
  · exact .inl e
  · rw [if_pos h3] at e
    by_cases hp : SqPB (glS s)
    · rw [if_pos hp] at e
      exact .inr (.inl e)
    · rw [if_neg hp] at e
      refine .inr (.inr ⟨e, ?_, ?_⟩)
      · cases hi : injB s.A s.B s.F
        · rfl
        · exact absurd (po_pb h1 h3 (.inl hi)) hp
      · cases hi : injB s.A s.C s.G
        · rfl
        · exact absurd (po_pb h1 h3 (.inr hi)) hp
end Go.Proofs.YthcnpnogfblkcaaGreat

/- Contracts: graphs of parts. -/
namespace Go.Proofs.YthcnpnogfblkcaaGreat
open Abs
set_option linter.unusedSimpArgs false
set_option linter.unusedVariables false
attribute [local simp] rn0 rn1 rn2 rn3 rn4 rn5 rn6 rn7 evOp nests Arg.ev St.val St.set St.new sliceOf binInt2 binInt AV.cells rdAt St.live retOf resOf resAll treeOf treeCell treeCells treeTups untree frameOf TV.av TR.av ints edgs prs fillV splice intsOf trees V1.tree bx Gr.v Pa.v opRd opWr opNew opNewR opArgs argsRd argRd Arg.rd AV.refs V1.refs refsL dstL

def c_has14 : MFunc := ⟨18, [.tmp 4], .seq (.region [⟨some 4, .mv (.c (.one (.t (.bool false)))), none⟩]) (.seq (.seq (.region [⟨some 5, .mv (.c (.one (.t (.int .i64 0)))), none⟩]) (.block 0 (.loop (.seq (.seq (.region [⟨some 6, .mv (.tmp 5), none⟩, ⟨some 7, .mv (.tmp 0), none⟩, ⟨some 8, .len (.tmp 7), none⟩, ⟨some 9, .bin .lss (.tmp 6) (.tmp 8), none⟩]) (.cond (.tmp 9) .skip (.exit 0))) (.seq (.block 1 (.seq (.region [⟨some 12, .mv (.tmp 0), none⟩, ⟨some 13, .mv (.tmp 5), none⟩, ⟨some 14, .idxA 1 (.tmp 12) (.tmp 13), none⟩, ⟨some 15, .load false 1 (.tmp 14), none⟩, ⟨some 16, .mv (.tmp 1), none⟩, ⟨some 17, .bin .eql (.tmp 15) (.tmp 16), none⟩]) (.cond (.tmp 17) (.seq (.region [⟨some 4, .mv (.c (.one (.t (.bool true)))), none⟩]) .ret) .skip))) (.region [⟨some 10, .mv (.tmp 5), none⟩, ⟨some 11, .bin .add (.tmp 10) (.c (.one (.t (.int .i64 1)))), none⟩, ⟨some 5, .mv (.tmp 11), none⟩])))))) (.seq (.region [⟨some 4, .mv (.c (.one (.t (.bool false)))), none⟩]) .ret))⟩
theorem k_has14 : cFn Tryz.prog Tryz.f65 = some c_has14 := by kernel_rfl
theorem has14_ok (l : List Int) (n : Int) (hl : small l.length) : CallOK Tryz.prog 65 [(false, [ints l]), (false, [.int .i64 n])] (.sv (false, [.bool (decide (n ∈ l))])) := by
  refine callOK_W (callS_W (by kernel_rfl) Tryz.func65 k_has14 (callable_of Tryz.func65 (by kernel_rfl)) (by simp [c_has14]) ?_)
  simp [c_has14]
  refine loopW_count 5 l.length (fun k S => S.fr 0 = .one (.t (ints l)) ∧ S.fr 1 = .one (.t (.int .i64 n)) ∧ S.ob = noOb ∧ S.cnt = noCnt ∧ n ∉ l.take k) hl ?_ ?_ ?_
  · simp
  · rintro k S hlt hw hc ⟨h0, h1, hob, hcnt, hp⟩
    by_cases he : nth l k = n
    · simp [h0, h1, hc, hlt, drop_nth hlt, he, show n ∈ l from he ▸ nth_mem hlt]
    · simp [h0, h1, hc, hlt, drop_nth hlt, he, hw, hob, hcnt]
      exact take_nth hlt hp he
  · rintro S hc ⟨h0, h1, hob, hcnt, hp⟩
    simp [h0, h1, hc]
    simpa using hp

def c_at14 : MFunc := ⟨19, [.tmp 4], .seq (.region [⟨some 4, .mv (.c (.one (.t (.int .i64 0)))), none⟩]) (.seq (.seq (.region [⟨some 5, .mv (.c (.one (.t (.int .i64 0)))), none⟩]) (.block 0 (.loop (.seq (.seq (.region [⟨some 6, .mv (.tmp 5), none⟩, ⟨some 7, .mv (.tmp 0), none⟩, ⟨some 8, .len (.tmp 7), none⟩, ⟨some 9, .bin .lss (.tmp 6) (.tmp 8), none⟩]) (.cond (.tmp 9) .skip (.exit 0))) (.seq (.block 1 (.seq (.region [⟨some 12, .mv (.tmp 0), none⟩, ⟨some 13, .mv (.tmp 5), none⟩, ⟨some 14, .idxA 1 (.tmp 12) (.tmp 13), none⟩, ⟨some 15, .load false 1 (.tmp 14), none⟩, ⟨some 16, .mv (.tmp 1), none⟩, ⟨some 17, .bin .eql (.tmp 15) (.tmp 16), none⟩]) (.cond (.tmp 17) (.seq (.region [⟨some 18, .mv (.tmp 5), none⟩, ⟨some 4, .mv (.tmp 18), none⟩]) .ret) .skip))) (.region [⟨some 10, .mv (.tmp 5), none⟩, ⟨some 11, .bin .add (.tmp 10) (.c (.one (.t (.int .i64 1)))), none⟩, ⟨some 5, .mv (.tmp 11), none⟩])))))) (.seq (.region [⟨some 4, .mv (.c (.one (.t (.int .i64 (-1))))), none⟩]) .ret))⟩
theorem k_at14 : cFn Tryz.prog Tryz.f66 = some c_at14 := by kernel_rfl
theorem at14_ok (l : List Int) (n : Int) (hl : small l.length) : CallOK Tryz.prog 66 [(false, [ints l]), (false, [.int .i64 n])] (.sv (false, [.int .i64 (idx l n)])) := by
  refine callOK_W (callS_W (by kernel_rfl) Tryz.func66 k_at14 (callable_of Tryz.func66 (by kernel_rfl)) (by simp [c_at14]) ?_)
  simp [c_at14]
  refine loopW_count 5 l.length (fun k S => S.fr 0 = .one (.t (ints l)) ∧ S.fr 1 = .one (.t (.int .i64 n)) ∧ S.ob = noOb ∧ S.cnt = noCnt ∧ n ∉ l.take k) hl ?_ ?_ ?_
  · simp
  · rintro k S hlt hw hc ⟨h0, h1, hob, hcnt, hp⟩
    by_cases he : nth l k = n
    · simp [h0, h1, hc, hlt, drop_nth hlt, he, idx_at hlt hp he]
    · simp [h0, h1, hc, hlt, drop_nth hlt, he, hw, hob, hcnt]
      exact take_nth hlt hp he
  · rintro S hc ⟨h0, h1, hob, hcnt, hp⟩
    simp [h0, h1, hc]
    simpa [idx] using hp

def c_index07 : MFunc := ⟨19, [.tmp 4], .seq (.region [⟨some 4, .mv (.c (.one (.t (.int .i64 0)))), none⟩]) (.seq (.seq (.region [⟨some 5, .mv (.c (.one (.t (.int .i64 0)))), none⟩]) (.block 0 (.loop (.seq (.seq (.region [⟨some 6, .mv (.tmp 5), none⟩, ⟨some 7, .mv (.tmp 0), none⟩, ⟨some 8, .len (.tmp 7), none⟩, ⟨some 9, .bin .lss (.tmp 6) (.tmp 8), none⟩]) (.cond (.tmp 9) .skip (.exit 0))) (.seq (.block 1 (.seq (.region [⟨some 12, .mv (.tmp 0), none⟩, ⟨some 13, .mv (.tmp 5), none⟩, ⟨some 14, .idxA 1 (.tmp 12) (.tmp 13), none⟩, ⟨some 15, .load false 1 (.tmp 14), none⟩, ⟨some 16, .mv (.tmp 1), none⟩, ⟨some 17, .bin .eql (.tmp 15) (.tmp 16), none⟩]) (.cond (.tmp 17) (.seq (.region [⟨some 18, .mv (.tmp 5), none⟩, ⟨some 4, .mv (.tmp 18), none⟩]) .ret) .skip))) (.region [⟨some 10, .mv (.tmp 5), none⟩, ⟨some 11, .bin .add (.tmp 10) (.c (.one (.t (.int .i64 1)))), none⟩, ⟨some 5, .mv (.tmp 11), none⟩])))))) (.seq (.region [⟨some 4, .mv (.c (.one (.t (.int .i64 (-1))))), none⟩]) .ret))⟩
theorem k_index07 : cFn Tryz.prog Tryz.f107 = some c_index07 := by kernel_rfl
theorem index07_ok (l : List Int) (n : Int) (hl : small l.length) : CallOK Tryz.prog 107 [(false, [ints l]), (false, [.int .i64 n])] (.sv (false, [.int .i64 (idx l n)])) := by
  refine callOK_W (callS_W (by kernel_rfl) Tryz.func107 k_index07 (callable_of Tryz.func107 (by kernel_rfl)) (by simp [c_index07]) ?_)
  simp [c_index07]
  refine loopW_count 5 l.length (fun k S => S.fr 0 = .one (.t (ints l)) ∧ S.fr 1 = .one (.t (.int .i64 n)) ∧ S.ob = noOb ∧ S.cnt = noCnt ∧ n ∉ l.take k) hl ?_ ?_ ?_
  · simp
  · rintro k S hlt hw hc ⟨h0, h1, hob, hcnt, hp⟩
    by_cases he : nth l k = n
    · simp [h0, h1, hc, hlt, drop_nth hlt, he, idx_at hlt hp he]
    · simp [h0, h1, hc, hlt, drop_nth hlt, he, hw, hob, hcnt]
      exact take_nth hlt hp he
  · rintro S hc ⟨h0, h1, hob, hcnt, hp⟩
    simp [h0, h1, hc]
    simpa [idx] using hp

/-! ### Parts without error -/
structure SubOk (g : Gr) (p : Pa) : Prop where
  gr : GrOk g
  an : Asc p.nodes
  ae : Asc p.edges
  rn : ∀ x ∈ p.nodes, 0 ≤ x ∧ x < g.nodes.length
  re : ∀ x ∈ p.edges, 0 ≤ x ∧ x < g.edges.length
  de : ∀ x ∈ p.edges, (eth g.edges x.toNat).f ∈ p.nodes ∧ (eth g.edges x.toNat).g ∈ p.nodes
theorem sub_of {g : Gr} {p : Pa} (h : subErr g p = 0) : SubOk g p := by
  have h0 : gErr g = 0 := by
    unfold subErr at h
    split at h
    · assumption
    · exact h
  have h1 : partErr g p = 0 := by
    unfold subErr at h
    rw [if_pos h0] at h
    exact h
  have h2 : ascErr p.nodes g.nodes.length = 0 := by
    unfold partErr at h1
    split at h1
    · assumption
    · exact h1
  have h3 : ascErr p.edges g.edges.length = 0 := by
    unfold partErr at h1
    rw [if_pos h2] at h1
    split at h1
    · assumption
    · exact h1
  have h4 : fe (danF g p) p.edges.length = 0 := by
    unfold partErr at h1
    rw [if_pos h2, if_pos h3] at h1
    exact h1
  obtain ⟨a1, a2⟩ := asc_of h2
  obtain ⟨b1, b2⟩ := asc_of h3
  refine ⟨gErr_ok h0, a1, b1, a2, b2, fun x hx => ?_⟩
  obtain ⟨i, hi, rfl⟩ := mem_nth hx
  have := fe_eq h4 i hi
  unfold danF at this
  split at this
  · assumption
  · cases this
theorem asc_len {l : List Int} {n : Nat} (ha : Asc l) (hr : ∀ x ∈ l, 0 ≤ x ∧ x < n) : l.length ≤ n := by
  have h : ∀ k, k < l.length → (k : Int) ≤ nth l k := by
    intro k
    induction k with
    | zero => intro hk; have := (hr _ (nth_mem hk)).1; omega
    | succ k ih => intro hk; have := ih (by omega); have := ha k (k + 1) (by omega) hk; omega
  rcases Nat.eq_zero_or_pos l.length with h0 | h0
  · omega
  · have h1 := h (l.length - 1) (by omega)
    have h2 := (hr _ (nth_mem (l := l) (k := l.length - 1) (by omega))).2
    omega
theorem bs_idx {l : List Int} {x : Int} (ha : Asc l) (hx : x ∈ l) : bs l x = idx l x := by
  obtain ⟨k, hk, rfl⟩ := mem_nth hx
  have h1 : bs l (nth l k) = k := by
    unfold bs
    rw [count_at (i := k) (by omega) (fun j hj => ha j k hj hk) (fun j h1 h2 => by
      rcases Nat.eq_or_lt_of_le h1 with e | e
      · rw [e]; exact Int.le_refl _
      · exact Int.le_of_lt (ha k j e h2))]
  have h2 : idx l (nth l k) = k := idx_at hk (fun h => by
    obtain ⟨j, hj, he⟩ := mem_nth h
    simp only [List.length_take] at hj
    have : nth (l.take k) j = nth l j := by
      rw [nth_eq (by simp; omega), nth_eq (by omega)]
      simp
    rw [this] at he
    have := ha j k (by omega) hk
    omega) rfl
  rw [h1, h2]

/-! ### The graph of a part -/
def exN (g : Gr) (p : Pa) (k : Nat) : List Int := (p.nodes.take k).map fun x => nth g.nodes x.toNat
def exD (g : Gr) (p : Pa) (x : Int) : Ed := ⟨(eth g.edges x.toNat).t, idx p.nodes (eth g.edges x.toNat).f, idx p.nodes (eth g.edges x.toNat).g⟩
def exE (g : Gr) (p : Pa) (k : Nat) : List Ed := (p.edges.take k).map (exD g p)
def exG (g : Gr) (p : Pa) : Gr := ⟨p.nodes.map fun x => nth g.nodes x.toNat, p.edges.map (exD g p)⟩
theorem exN_succ {g : Gr} {p : Pa} {k : Nat} (h : k < p.nodes.length) : exN g p (k + 1) = exN g p k ++ [nth g.nodes (nth p.nodes k).toNat] := by
  rw [exN, take_succ_nth' h]
  simp [exN]
theorem exE_succ {g : Gr} {p : Pa} {k : Nat} (h : k < p.edges.length) : exE g p (k + 1) = exE g p k ++ [exD g p (nth p.edges k)] := by
  rw [exE, take_succ_nth' h]
  simp [exE]
theorem exN_all {g : Gr} {p : Pa} : exN g p p.nodes.length = (exG g p).nodes := by simp [exN, exG]
theorem exE_all {g : Gr} {p : Pa} : exE g p p.edges.length = (exG g p).edges := by simp [exE, exG]
theorem exN_len {g : Gr} {p : Pa} {k : Nat} (h : k ≤ p.nodes.length) : (exN g p k).length = k := by simp [exN]; omega
theorem exE_len {g : Gr} {p : Pa} {k : Nat} (h : k ≤ p.edges.length) : (exE g p k).length = k := by simp [exE]; omega
/-- The graph of a part and its inclusion, or an error. -/
def exR (g : Gr) (p : Pa) : Gr × Pa × Int := if subErr g p = 0 then (exG g p, p, 0) else (⟨[], []⟩, ⟨[], []⟩, subErr g p)
def exT (x : Gr × Pa × Int) : TR := .tup [x.1.v, x.2.1.v, (false, [.int .i64 x.2.2])]

def c_extract07 : MFunc := ⟨85, [.cell 4 true 2, .cell 5 true 2, .tmp 6], .seq (.region [⟨some 2, .box 0 25 (.tmp 0), none⟩, ⟨some 3, .box 1 63 (.tmp 1), none⟩, ⟨some 4, .alloc 2 25 [.nil, .nil], none⟩, ⟨some 5, .alloc 3 27 [.nil, .nil], none⟩, ⟨some 6, .mv (.c (.one (.t (.int .i64 0)))), none⟩]) (.seq (.seq (.region [⟨some 12, .load true 2 (.tmp 2), none⟩, ⟨some 13, .load true 2 (.tmp 3), none⟩, ⟨some 14, .call (.c (.one (.fn 106 []))) 66 [.tmp 12, .tmp 13], none⟩, ⟨some 7, .mv (.tmp 14), none⟩]) (.seq (.region [⟨some 15, .mv (.tmp 7), none⟩, ⟨some 16, .bin .neq (.tmp 15) (.c (.one (.t (.int .i64 0)))), none⟩]) (.cond (.tmp 16) (.seq (.region [⟨some 17, .build [.nil, .nil] [], none⟩, ⟨some 18, .build [.nil, .nil] [], none⟩, ⟨some 19, .mv (.tmp 7), none⟩, ⟨none, .store 2 (.tmp 4) (.tmp 17), none⟩, ⟨none, .store 2 (.tmp 5) (.tmp 18), none⟩, ⟨some 6, .mv (.tmp 19), none⟩]) .ret) .skip))) (.seq (.region [⟨some 8, .alloc 256 25 [.nil, .nil], none⟩]) (.seq (.seq (.region [⟨some 9, .mv (.c (.one (.t (.int .i64 0)))), none⟩]) (.block 0 (.loop (.seq (.seq (.region [⟨some 20, .mv (.tmp 9), none⟩, ⟨some 21, .fieldA 0 (.tmp 3), none⟩, ⟨some 22, .load false 1 (.tmp 21), none⟩, ⟨some 23, .len (.tmp 22), none⟩, ⟨some 24, .bin .lss (.tmp 20) (.tmp 23), none⟩]) (.cond (.tmp 24) .skip (.exit 0))) (.seq (.block 1 (.draw [[], [0], [], [2], [], [4], [], [5, 6], [7], [3, 8], [9], [10], [1, 11], [0, 1, 2, 3, 4, 5, 6, 7, 8, 9, 10, 11, 12], [13, 12, 12, 0, 1, 2, 3, 4, 5, 6, 7, 8, 9, 10, 11, 12]] [⟨some 27, .fieldA 0 (.tmp 8), none⟩, ⟨some 28, .load false 1 (.tmp 27), none⟩, ⟨some 29, .fieldA 0 (.tmp 2), none⟩, ⟨some 30, .load false 1 (.tmp 29), none⟩, ⟨some 31, .fieldA 0 (.tmp 3), none⟩, ⟨some 32, .load false 1 (.tmp 31), none⟩, ⟨some 33, .mv (.tmp 9), none⟩, ⟨some 34, .idxA 1 (.tmp 32) (.tmp 33), none⟩, ⟨some 35, .load false 1 (.tmp 34), none⟩, ⟨some 36, .idxA 1 (.tmp 30) (.tmp 35), none⟩, ⟨some 37, .load false 1 (.tmp 36), none⟩, ⟨some 38, .mkrow 523 3 1 1 [.t (.int .i64 0)] [(0, (1, .tmp 37))], none⟩, ⟨some 39, .append 524 3 1 8 (.tmp 28) (.tmp 38), none⟩, ⟨some 40, .fieldA 0 (.tmp 8), none⟩, ⟨none, .store 1 (.tmp 40) (.tmp 39), none⟩])) (.region [⟨some 25, .mv (.tmp 9), none⟩, ⟨some 26, .bin .add (.tmp 25) (.c (.one (.t (.int .i64 1)))), none⟩, ⟨some 9, .mv (.tmp 26), none⟩])))))) (.seq (.seq (.region [⟨some 10, .mv (.c (.one (.t (.int .i64 0)))), none⟩]) (.block 2 (.loop (.seq (.seq (.region [⟨some 41, .mv (.tmp 10), none⟩, ⟨some 42, .fieldA 1 (.tmp 3), none⟩, ⟨some 43, .load false 1 (.tmp 42), none⟩, ⟨some 44, .len (.tmp 43), none⟩, ⟨some 45, .bin .lss (.tmp 41) (.tmp 44), none⟩]) (.cond (.tmp 45) .skip (.exit 2))) (.seq (.block 3 (.seq (.draw [[], [0], [], [2], [], [3, 4], [5], [1, 6], [7], [], [9, 8, 0, 1, 2, 3, 4, 5, 6, 7, 8, 9]] [⟨some 48, .fieldA 1 (.tmp 2), none⟩, ⟨some 49, .load false 1 (.tmp 48), none⟩, ⟨some 50, .fieldA 1 (.tmp 3), none⟩, ⟨some 51, .load false 1 (.tmp 50), none⟩, ⟨some 52, .mv (.tmp 10), none⟩, ⟨some 53, .idxA 1 (.tmp 51) (.tmp 52), none⟩, ⟨some 54, .load false 1 (.tmp 53), none⟩, ⟨some 55, .idxA 3 (.tmp 49) (.tmp 54), none⟩, ⟨some 56, .load true 3 (.tmp 55), none⟩, ⟨some 11, .alloc 777 76 [.t (.int .i64 0), .t (.int .i64 0), .t (.int .i64 0)], none⟩, ⟨none, .store 3 (.tmp 11) (.tmp 56), none⟩]) (.draw [[], [0], [], [2], [], [4], [], [6], [5, 7], [], [9], [], [11], [10, 12, 8], [3, 8, 13], [14], [1, 15, 13], [0, 1, 2, 3, 4, 5, 6, 7, 8, 9, 10, 11, 12, 13, 14, 15, 16], [17, 16, 16, 0, 1, 2, 3, 4, 5, 6, 7, 8, 9, 10, 11, 12, 13, 14, 15, 16]] [⟨some 57, .fieldA 1 (.tmp 8), none⟩, ⟨some 58, .load false 1 (.tmp 57), none⟩, ⟨some 59, .fieldA 0 (.tmp 11), none⟩, ⟨some 60, .load false 1 (.tmp 59), none⟩, ⟨some 61, .fieldA 0 (.tmp 3), none⟩, ⟨some 62, .load false 1 (.tmp 61), none⟩, ⟨some 63, .fieldA 1 (.tmp 11), none⟩, ⟨some 64, .load false 1 (.tmp 63), none⟩, ⟨some 65, .call (.c (.one (.fn 107 []))) 840 [.tmp 62, .tmp 64], none⟩, ⟨some 66, .fieldA 0 (.tmp 3), none⟩, ⟨some 67, .load false 1 (.tmp 66), none⟩, ⟨some 68, .fieldA 2 (.tmp 11), none⟩, ⟨some 69, .load false 1 (.tmp 68), none⟩, ⟨some 70, .call (.c (.one (.fn 107 []))) 845 [.tmp 67, .tmp 69], none⟩, ⟨some 71, .build [.t (.int .i64 0), .t (.int .i64 0), .t (.int .i64 0)] [(0, (1, .tmp 60)), (1, (1, .tmp 65)), (2, (1, .tmp 70))], none⟩, ⟨some 72, .mkrow 847 76 3 1 [.t (.int .i64 0), .t (.int .i64 0), .t (.int .i64 0)] [(0, (3, .tmp 71))], none⟩, ⟨some 73, .append 848 76 3 24 (.tmp 58) (.tmp 72), none⟩, ⟨some 74, .fieldA 1 (.tmp 8), none⟩, ⟨none, .store 1 (.tmp 74) (.tmp 73), none⟩]))) (.region [⟨some 46, .mv (.tmp 10), none⟩, ⟨some 47, .bin .add (.tmp 46) (.c (.one (.t (.int .i64 1)))), none⟩, ⟨some 10, .mv (.tmp 47), none⟩])))))) (.seq (.draw [[], [], [], [2], [1, 3], [], [], [6], [5, 7, 4], [4, 8], [0, 8, 0], [9, 10, 0, 1, 2, 3, 4, 5, 6, 7, 8, 9, 10], [11, 0, 1, 2, 3, 4, 5, 6, 7, 8, 9, 10, 11]] [⟨some 75, .load true 2 (.tmp 8), none⟩, ⟨some 76, .mkrow 897 3 1 0 [] [], none⟩, ⟨some 77, .fieldA 0 (.tmp 3), none⟩, ⟨some 78, .load false 1 (.tmp 77), none⟩, ⟨some 79, .append 900 3 1 8 (.tmp 76) (.tmp 78), none⟩, ⟨some 80, .mkrow 901 3 1 0 [] [], none⟩, ⟨some 81, .fieldA 1 (.tmp 3), none⟩, ⟨some 82, .load false 1 (.tmp 81), none⟩, ⟨some 83, .append 904 3 1 8 (.tmp 80) (.tmp 82), none⟩, ⟨some 84, .build [.nil, .nil] [(0, (1, .tmp 79)), (1, (1, .tmp 83))], none⟩, ⟨none, .store 2 (.tmp 4) (.tmp 75), none⟩, ⟨none, .store 2 (.tmp 5) (.tmp 84), none⟩, ⟨some 6, .mv (.c (.one (.t (.int .i64 0)))), none⟩]) .ret)))))⟩
theorem k_extract07 : cFn Tryz.prog Tryz.f68 = some c_extract07 := by kernel_rfl
set_option maxHeartbeats 4000000 in
theorem extract07_ok (g : Gr) (p : Pa) (tg : tinyG g) (tp : tinyP p) : CallOK Tryz.prog 68 [g.v, p.v] (exT (exR g p)) := by
  refine callOK_W (callS_W (by kernel_rfl) Tryz.func68 k_extract07 (callable_of Tryz.func68 (by kernel_rfl)) (by simp [c_extract07]) ?_)
  simp [c_extract07]
  refine callS_tree (rvalid7_ok g p tg tp) ?_ ?_ ?_
  · rfl
  · rfl
  by_cases h1 : subErr g p = 0
  case neg =>
    have e : exR g p = (⟨[], []⟩, ⟨[], []⟩, subErr g p) := by simp [exR, h1]
    simp [h1, exT, e, edL]
  have e : exR g p = (exG g p, p, 0) := by simp [exR, h1]
  have ok := sub_of h1
  have b1 := ok.gr.n
  have b2 := ok.gr.e
  have b3 := asc_len ok.an ok.rn
  have b4 := asc_len ok.ae ok.re
  simp [h1]
  refine loopW_count 9 p.nodes.length (fun k S => S.fr 2 = .one (.ptr (0, 0) 0) ∧ S.fr 3 = .one (.ptr (1, 0) 0) ∧ S.fr 4 = .one (.ptr (2, 0) 0) ∧ S.fr 5 = .one (.ptr (3, 0) 0) ∧ S.fr 8 = .one (.ptr (256, 0) 0) ∧
    S.ob (0, 0) = some (bx 25 (g.v.2.map .t)) ∧ S.ob (1, 0) = some (bx 63 (p.v.2.map .t)) ∧ S.ob (2, 0) = some (bx 25 [.nil, .nil]) ∧ S.ob (3, 0) = some (bx 27 [.nil, .nil]) ∧
    ∃ vN, S.ob (256, 0) = some (bx 25 [vN, .nil]) ∧ outR 524 3 1 (exN g p k).length ((exN g p k).map (.int .i64)) S.ob (.one vN)) (by omega) ?_ ?_ ?_
  · simp [exN, outR_nil]
  · rintro k S hlt hw hc ⟨f2, f3, f4, f5, f8, o0, o1, o2, o3, vN, o256, ho⟩
    obtain ⟨x1, x2⟩ := ok.rn _ (nth_mem hlt)
    obtain ⟨x, hx⟩ := Int.eq_ofNat_of_zero_le x1
    have hx2 : x < g.nodes.length := by omega
    have z := exN_len (g := g) (p := p) (k := k) (by omega)
    have zs := exN_succ (g := g) hlt
    rw [hx, Int.toNat_natCast] at zs
    have ho0 := ho
    rcases ho with ⟨a1, _, a3⟩ | ⟨a1, ga, a3, a4⟩
    all_goals
      cases a3
      simp [dw0, dw1, dw2, dw3, f2, f3, f4, f5, f8, o0, o1, o2, o3, o256, hc, hlt, drop_nth hlt, hx, hx2, drop_nth hx2]
      refine kApp_grow (ts := [.int .i64 (nth g.nodes x)]) rfl (ho0.keep fun g => by simp) (by omega) rfl (by omega) (by omega) fun E hE hob hcnt => ?_
      obtain ⟨w, hu⟩ := hE.one
      rw [hu] at hE
      simp [dw0, dw1, dw2, dw3, f2, f3, f4, f5, f8, o0, o1, o2, o3, o256, hc, hob, hu]
      refine ⟨rfl, ?_⟩
      simp [f2, f3, f4, f5, f8, o0, o1, o2, o3, o256, hc, hw, hob, hu, zs]
      exact outR.keep (by simpa using hE) fun g => by simp
  · rintro S hc ⟨f2, f3, f4, f5, f8, o0, o1, o2, o3, vN, o256, ho⟩
    rw [exN_all] at ho
    simp [f2, f3, f4, f5, f8, o0, o1, o2, o3, o256, hc]
    refine loopW_count 10 p.edges.length (fun k S => S.fr 2 = .one (.ptr (0, 0) 0) ∧ S.fr 3 = .one (.ptr (1, 0) 0) ∧ S.fr 4 = .one (.ptr (2, 0) 0) ∧ S.fr 5 = .one (.ptr (3, 0) 0) ∧ S.fr 8 = .one (.ptr (256, 0) 0) ∧
      S.ob (0, 0) = some (bx 25 (g.v.2.map .t)) ∧ S.ob (1, 0) = some (bx 63 (p.v.2.map .t)) ∧ S.ob (2, 0) = some (bx 25 [.nil, .nil]) ∧ S.ob (3, 0) = some (bx 27 [.nil, .nil]) ∧
      outR 524 3 1 (exG g p).nodes.length ((exG g p).nodes.map (.int .i64)) S.ob (.one vN) ∧
      ∃ vE, S.ob (256, 0) = some (bx 25 [vN, vE]) ∧ outR 848 76 3 (exE g p k).length (edL (exE g p k)) S.ob (.one vE)) (by omega) ?_ ?_ ?_
    · simp [f2, f3, f4, f5, f8, o0, o1, o2, o3, o256, exE, edL, outR_nil]
      simpa using ho
    · rintro k S hlt hw hc ⟨f2, f3, f4, f5, f8, o0, o1, o2, o3, hN, vE, o256, ho⟩
      obtain ⟨x1, x2⟩ := ok.re _ (nth_mem hlt)
      obtain ⟨x, hx⟩ := Int.eq_ofNat_of_zero_le x1
      have hx2 : x < g.edges.length := by omega
      have hx3 : x * 3 < g.edges.length * 3 := by omega
      have z := exE_len (g := g) (p := p) (k := k) (by omega)
      have zs := exE_succ (g := g) hlt
      have zd : exD g p (nth p.edges k) = ⟨(eth g.edges x).t, idx p.nodes (eth g.edges x).f, idx p.nodes (eth g.edges x).g⟩ := by simp [exD, hx]
      have ho0 := ho
      rcases ho with ⟨a1, _, a3⟩ | ⟨a1, ga, a3, a4⟩
      all_goals
        cases a3
        simp [dw0, dw1, dw2, dw3, f2, f3, f4, f5, f8, o0, o1, o2, o3, o256, hc, hlt, drop_nth hlt, hx, hx2, hx3, drop_edL hx2]
        refine ⟨rfl, ?_⟩
        refine dCall_ok (index07_ok p.nodes (eth g.edges x).f (by have := tp.1; exact this.small)) ?_ ?_ ?_
        · rfl
        · rfl
        simp [dw0, dw1, dw2, dw3, f2, f3, f4, f5, f8, o0, o1, o2, o3, o256, hc]
        refine dCall_ok (index07_ok p.nodes (eth g.edges x).g (by have := tp.1; exact this.small)) ?_ ?_ ?_
        · rfl
        · rfl
        simp [dw0, dw1, dw2, dw3, f2, f3, f4, f5, f8, o0, o1, o2, o3, o256, hc]
        refine kApp_grow (ts := edC ⟨(eth g.edges x).t, idx p.nodes (eth g.edges x).f, idx p.nodes (eth g.edges x).g⟩) rfl (ho0.keep fun g => by simp) (by omega) rfl (by omega) (by omega) fun E hE hob hcnt => ?_
        obtain ⟨w, hu⟩ := hE.one
        rw [hu] at hE
        have hN2 := hN.keep (ob' := E.ob) fun g => by rw [hob _ _ (by decide)]; simp
        simp [dw0, dw1, dw2, dw3, f2, f3, f4, f5, f8, o0, o1, o2, o3, o256, hc, hob, hu]
        refine ⟨rfl, ?_⟩
        simp [f2, f3, f4, f5, f8, o0, o1, o2, o3, o256, hc, hw, hob, hu, zs, zd]
        exact ⟨outR.keep (by simpa using hN2) fun g => by simp, outR.keep (by simpa [edL, Nat.add_assoc] using hE) fun g => by simp⟩
    · rintro S hc ⟨f2, f3, f4, f5, f8, o0, o1, o2, o3, hN, vE, o256, ho⟩
      rw [exE_all] at ho
      have eN : (exG g p).nodes.length = p.nodes.length := by simp [exG]
      have eE : (exG g p).edges.length = p.edges.length := by simp [exG]
      rw [e, exT]
      generalize exG g p = X at hN ho eN eE ⊢
      rcases hN with ⟨n1, n2, n3⟩ | ⟨n1, gg, n3, n4⟩ <;> rcases ho with ⟨m1, m2, m3⟩ | ⟨m1, gg', m3, m4⟩
      all_goals
        cases n3
        cases m3
      · have p1 : p.nodes = [] := List.eq_nil_of_length_eq_zero (by omega)
        have p2 : p.edges = [] := List.eq_nil_of_length_eq_zero (by omega)
        have x1 : X.nodes = [] := List.eq_nil_of_length_eq_zero (by omega)
        have x2 : X.edges = [] := List.eq_nil_of_length_eq_zero (by omega)
        simp [dw0, dw1, dw2, dw3, f2, f3, f4, f5, f8, o0, o1, o2, o3, o256, hc, p1, p2]
        refine kApp_nil (ts := []) rfl rfl (by omega) (by omega) ?_
        simp [dw0, dw1, dw2, dw3, rowEff, f2, f3, f4, f5, f8, o0, o1, o2, o3, o256, hc, p1, p2]
        refine kApp_nil (ts := []) rfl rfl (by omega) (by omega) ?_
        simp [dw0, dw1, dw2, dw3, rowEff, f2, f3, f4, f5, f8, o0, o1, o2, o3, o256, hc, p1, p2, x1, x2, edL]
        rfl
      · have p1 : p.nodes = [] := List.eq_nil_of_length_eq_zero (by omega)
        have p2 : ¬ p.edges = [] := fun h => by rw [h] at eE; simp at eE; rw [eE] at m1; simp at m1
        have x1 : X.nodes = [] := List.eq_nil_of_length_eq_zero (by omega)
        simp [dw0, dw1, dw2, dw3, f2, f3, f4, f5, f8, o0, o1, o2, o3, o256, hc, p1, p2]
        refine kApp_nil (ts := []) rfl rfl (by omega) (by omega) ?_
        simp [dw0, dw1, dw2, dw3, rowEff, f2, f3, f4, f5, f8, o0, o1, o2, o3, o256, hc, p1, p2]
        refine kApp_nil (ts := p.edges.map (.int .i64)) (by simp) (by simp) (by omega) (by omega) ?_
        simp [dw0, dw1, dw2, dw3, rowEff, f2, f3, f4, f5, f8, o0, o1, o2, o3, o256, hc, p1, p2, x1, m4, edL, untreeT, untreeI]
        rfl
      · have p1 : ¬ p.nodes = [] := fun h => by rw [h] at eN; simp at eN; rw [eN] at n1; simp at n1
        have p2 : p.edges = [] := List.eq_nil_of_length_eq_zero (by omega)
        have x2 : X.edges = [] := List.eq_nil_of_length_eq_zero (by omega)
        simp [dw0, dw1, dw2, dw3, f2, f3, f4, f5, f8, o0, o1, o2, o3, o256, hc, p1, p2]
        refine kApp_nil (ts := p.nodes.map (.int .i64)) (by simp) (by simp) (by omega) (by omega) ?_
        simp [dw0, dw1, dw2, dw3, rowEff, f2, f3, f4, f5, f8, o0, o1, o2, o3, o256, hc, p1, p2]
        refine kApp_nil (ts := []) rfl rfl (by omega) (by omega) ?_
        simp [dw0, dw1, dw2, dw3, rowEff, f2, f3, f4, f5, f8, o0, o1, o2, o3, o256, hc, p1, p2, x2, n4, edL, untreeT, untreeI]
        rfl
      · have p1 : ¬ p.nodes = [] := fun h => by rw [h] at eN; simp at eN; rw [eN] at n1; simp at n1
        have p2 : ¬ p.edges = [] := fun h => by rw [h] at eE; simp at eE; rw [eE] at m1; simp at m1
        simp [dw0, dw1, dw2, dw3, f2, f3, f4, f5, f8, o0, o1, o2, o3, o256, hc, p1, p2]
        refine kApp_nil (ts := p.nodes.map (.int .i64)) (by simp) (by simp) (by omega) (by omega) ?_
        simp [dw0, dw1, dw2, dw3, rowEff, f2, f3, f4, f5, f8, o0, o1, o2, o3, o256, hc, p1, p2]
        refine kApp_nil (ts := p.edges.map (.int .i64)) (by simp) (by simp) (by omega) (by omega) ?_
        simp [dw0, dw1, dw2, dw3, rowEff, f2, f3, f4, f5, f8, o0, o1, o2, o3, o256, hc, p1, p2, n4, m4, untreeT, untreeI]
        rfl

def c_sextract : MFunc := ⟨85, [.cell 4 true 2, .cell 5 true 2, .tmp 6], .seq (.region [⟨some 2, .box 0 25 (.tmp 0), none⟩, ⟨some 3, .box 1 63 (.tmp 1), none⟩, ⟨some 4, .alloc 2 25 [.nil, .nil], none⟩, ⟨some 5, .alloc 3 27 [.nil, .nil], none⟩, ⟨some 6, .mv (.c (.one (.t (.int .i64 0)))), none⟩]) (.seq (.seq (.region [⟨some 14, .load true 2 (.tmp 2), none⟩, ⟨some 15, .load true 2 (.tmp 3), none⟩, ⟨some 16, .call (.c (.one (.fn 102 []))) 66 [.tmp 14, .tmp 15], none⟩, ⟨some 7, .mv (.tmp 16), none⟩]) (.seq (.region [⟨some 17, .mv (.tmp 7), none⟩, ⟨some 18, .bin .neq (.tmp 17) (.c (.one (.t (.int .i64 0)))), none⟩]) (.cond (.tmp 18) (.seq (.region [⟨some 19, .build [.nil, .nil] [], none⟩, ⟨some 20, .build [.nil, .nil] [], none⟩, ⟨some 21, .mv (.tmp 7), none⟩, ⟨none, .store 2 (.tmp 4) (.tmp 19), none⟩, ⟨none, .store 2 (.tmp 5) (.tmp 20), none⟩, ⟨some 6, .mv (.tmp 21), none⟩]) .ret) .skip))) (.seq (.region [⟨some 8, .alloc 256 25 [.nil, .nil], none⟩]) (.seq (.seq (.region [⟨some 22, .fieldA 0 (.tmp 3), none⟩, ⟨some 23, .load false 1 (.tmp 22), none⟩, ⟨some 24, .len (.tmp 23), none⟩, ⟨some 25, .mv (.c (.one (.t (.int .i64 0)))), none⟩]) (.block 0 (.loop (.seq (.region [⟨some 26, .bin .lss (.tmp 25) (.tmp 24), none⟩]) (.seq (.cond (.tmp 26) .skip (.exit 0)) (.seq (.block 1 (.seq (.region [⟨some 27, .idxA 1 (.tmp 23) (.tmp 25), none⟩, ⟨some 28, .load false 1 (.tmp 27), none⟩, ⟨some 10, .mv (.tmp 28), none⟩]) (.draw [[], [0], [], [2], [], [3, 4], [5], [6], [1, 7], [0, 1, 2, 3, 4, 5, 6, 7, 8], [9, 8, 8, 0, 1, 2, 3, 4, 5, 6, 7, 8]] [⟨some 29, .fieldA 0 (.tmp 8), none⟩, ⟨some 30, .load false 1 (.tmp 29), none⟩, ⟨some 31, .fieldA 0 (.tmp 2), none⟩, ⟨some 32, .load false 1 (.tmp 31), none⟩, ⟨some 33, .mv (.tmp 10), none⟩, ⟨some 34, .idxA 1 (.tmp 32) (.tmp 33), none⟩, ⟨some 35, .load false 1 (.tmp 34), none⟩, ⟨some 36, .mkrow 519 3 1 1 [.t (.int .i64 0)] [(0, (1, .tmp 35))], none⟩, ⟨some 37, .append 520 3 1 8 (.tmp 30) (.tmp 36), none⟩, ⟨some 38, .fieldA 0 (.tmp 8), none⟩, ⟨none, .store 1 (.tmp 38) (.tmp 37), none⟩]))) (.region [⟨some 39, .bin .add (.tmp 25) (.c (.one (.t (.int .i64 1)))), none⟩, ⟨some 25, .mv (.tmp 39), none⟩]))))))) (.seq (.seq (.region [⟨some 40, .fieldA 1 (.tmp 3), none⟩, ⟨some 41, .load false 1 (.tmp 40), none⟩, ⟨some 42, .len (.tmp 41), none⟩, ⟨some 43, .mv (.c (.one (.t (.int .i64 0)))), none⟩]) (.block 2 (.loop (.seq (.region [⟨some 44, .bin .lss (.tmp 43) (.tmp 42), none⟩]) (.seq (.cond (.tmp 44) .skip (.exit 2)) (.seq (.block 3 (.seq (.region [⟨some 45, .idxA 1 (.tmp 41) (.tmp 43), none⟩, ⟨some 46, .load false 1 (.tmp 45), none⟩, ⟨some 12, .mv (.tmp 46), none⟩]) (.seq (.region [⟨some 47, .fieldA 1 (.tmp 2), none⟩, ⟨some 48, .load false 1 (.tmp 47), none⟩, ⟨some 49, .mv (.tmp 12), none⟩, ⟨some 50, .idxA 3 (.tmp 48) (.tmp 49), none⟩, ⟨some 51, .load true 3 (.tmp 50), none⟩, ⟨some 13, .alloc 837 76 [.t (.int .i64 0), .t (.int .i64 0), .t (.int .i64 0)], none⟩, ⟨none, .store 3 (.tmp 13) (.tmp 51), none⟩]) (.seq (.region [⟨some 53, .fieldA 0 (.tmp 3), none⟩, ⟨some 54, .load false 1 (.tmp 53), none⟩, ⟨some 55, .fieldA 1 (.tmp 13), none⟩, ⟨some 56, .load false 1 (.tmp 55), none⟩, ⟨some 57, .call (.c (.one (.fn 103 []))) 900 [.tmp 54, .tmp 56], none⟩, ⟨some 52, .mv (.tmp 57), none⟩, ⟨some 58, .extract (.tmp 52) 0, none⟩, ⟨some 59, .extract (.tmp 52) 1, none⟩, ⟨some 60, .fieldA 1 (.tmp 13), none⟩, ⟨none, .store 1 (.tmp 60) (.tmp 58), none⟩]) (.seq (.region [⟨some 62, .fieldA 0 (.tmp 3), none⟩, ⟨some 63, .load false 1 (.tmp 62), none⟩, ⟨some 64, .fieldA 2 (.tmp 13), none⟩, ⟨some 65, .load false 1 (.tmp 64), none⟩, ⟨some 66, .call (.c (.one (.fn 103 []))) 964 [.tmp 63, .tmp 65], none⟩, ⟨some 61, .mv (.tmp 66), none⟩, ⟨some 67, .extract (.tmp 61) 0, none⟩, ⟨some 68, .extract (.tmp 61) 1, none⟩, ⟨some 69, .fieldA 2 (.tmp 13), none⟩, ⟨none, .store 1 (.tmp 69) (.tmp 67), none⟩]) (.region [⟨some 70, .fieldA 1 (.tmp 8), none⟩, ⟨some 71, .load false 1 (.tmp 70), none⟩, ⟨some 72, .load true 3 (.tmp 13), none⟩, ⟨some 73, .mkrow 1027 76 3 1 [.t (.int .i64 0), .t (.int .i64 0), .t (.int .i64 0)] [(0, (3, .tmp 72))], none⟩, ⟨some 74, .append 1028 76 3 24 (.tmp 71) (.tmp 73), none⟩, ⟨some 75, .fieldA 1 (.tmp 8), none⟩, ⟨none, .store 1 (.tmp 75) (.tmp 74), none⟩])))))) (.region [⟨some 76, .bin .add (.tmp 43) (.c (.one (.t (.int .i64 1)))), none⟩, ⟨some 43, .mv (.tmp 76), none⟩]))))))) (.seq (.draw [[], [], [1], [2], [], [4], [5, 3], [3, 6], [0, 6, 0], [7, 8, 0, 1, 2, 3, 4, 5, 6, 7, 8], [9, 0, 1, 2, 3, 4, 5, 6, 7, 8, 9]] [⟨some 77, .load true 2 (.tmp 8), none⟩, ⟨some 78, .fieldA 0 (.tmp 3), none⟩, ⟨some 79, .load false 1 (.tmp 78), none⟩, ⟨some 80, .call (.c (.one (.fn 25 []))) 1155 [.tmp 79], none⟩, ⟨some 81, .fieldA 1 (.tmp 3), none⟩, ⟨some 82, .load false 1 (.tmp 81), none⟩, ⟨some 83, .call (.c (.one (.fn 25 []))) 1158 [.tmp 82], none⟩, ⟨some 84, .build [.nil, .nil] [(0, (1, .tmp 80)), (1, (1, .tmp 83))], none⟩, ⟨none, .store 2 (.tmp 4) (.tmp 77), none⟩, ⟨none, .store 2 (.tmp 5) (.tmp 84), none⟩, ⟨some 6, .mv (.c (.one (.t (.int .i64 0)))), none⟩]) .ret)))))⟩
theorem k_sextract : cFn Tryz.prog Tryz.f62 = some c_sextract := by kernel_rfl
set_option maxHeartbeats 4000000 in
theorem sextract_ok (g : Gr) (p : Pa) (tg : tinyG g) (tp : tinyP p) : CallOK Tryz.prog 62 [g.v, p.v] (exT (exR g p)) := by
  refine callOK_W (callS_W (by kernel_rfl) Tryz.func62 k_sextract (callable_of Tryz.func62 (by kernel_rfl)) (by simp [c_sextract]) ?_)
  simp [c_sextract]
  refine callS_tree (svalid_ok g p tg tp) ?_ ?_ ?_
  · rfl
  · rfl
  by_cases h1 : subErr g p = 0
  case neg =>
    have e : exR g p = (⟨[], []⟩, ⟨[], []⟩, subErr g p) := by simp [exR, h1]
    simp [h1, exT, e, edL]
  have e : exR g p = (exG g p, p, 0) := by simp [exR, h1]
  have ok := sub_of h1
  have b1 := ok.gr.n
  have b2 := ok.gr.e
  have b3 := asc_len ok.an ok.rn
  have b4 := asc_len ok.ae ok.re
  simp [h1]
  refine loopW_count 25 p.nodes.length (fun k S => S.fr 2 = .one (.ptr (0, 0) 0) ∧ S.fr 3 = .one (.ptr (1, 0) 0) ∧ S.fr 4 = .one (.ptr (2, 0) 0) ∧ S.fr 5 = .one (.ptr (3, 0) 0) ∧ S.fr 8 = .one (.ptr (256, 0) 0) ∧ S.fr 23 = .one (.t (ints p.nodes)) ∧ S.fr 24 = .one (.t (.int .i64 p.nodes.length)) ∧
    S.ob (0, 0) = some (bx 25 (g.v.2.map .t)) ∧ S.ob (1, 0) = some (bx 63 (p.v.2.map .t)) ∧ S.ob (2, 0) = some (bx 25 [.nil, .nil]) ∧ S.ob (3, 0) = some (bx 27 [.nil, .nil]) ∧
    ∃ vN, S.ob (256, 0) = some (bx 25 [vN, .nil]) ∧ outR 520 3 1 (exN g p k).length ((exN g p k).map (.int .i64)) S.ob (.one vN)) (by omega) ?_ ?_ ?_
  · simp [exN, outR_nil]
  · rintro k S hlt hw hc ⟨f2, f3, f4, f5, f8, f23, f24, o0, o1, o2, o3, vN, o256, ho⟩
    obtain ⟨x1, x2⟩ := ok.rn _ (nth_mem hlt)
    obtain ⟨x, hx⟩ := Int.eq_ofNat_of_zero_le x1
    have hx2 : x < g.nodes.length := by omega
    have z := exN_len (g := g) (p := p) (k := k) (by omega)
    have zs := exN_succ (g := g) hlt
    rw [hx, Int.toNat_natCast] at zs
    have ho0 := ho
    rcases ho with ⟨a1, _, a3⟩ | ⟨a1, ga, a3, a4⟩
    all_goals
      cases a3
      simp [dw0, dw1, dw2, dw3, f2, f3, f4, f5, f8, f23, f24, o0, o1, o2, o3, o256, hc, hlt, drop_nth hlt, hx, hx2, drop_nth hx2]
      refine kApp_grow (ts := [.int .i64 (nth g.nodes x)]) rfl (ho0.keep fun g => by simp) (by omega) rfl (by omega) (by omega) fun E hE hob hcnt => ?_
      obtain ⟨w, hu⟩ := hE.one
      rw [hu] at hE
      simp [dw0, dw1, dw2, dw3, f2, f3, f4, f5, f8, f23, f24, o0, o1, o2, o3, o256, hc, hob, hu]
      refine ⟨rfl, ?_⟩
      simp [f2, f3, f4, f5, f8, f23, f24, o0, o1, o2, o3, o256, hc, hw, hob, hu, zs]
      exact outR.keep (by simpa using hE) fun g => by simp
  · rintro S hc ⟨f2, f3, f4, f5, f8, f23, f24, o0, o1, o2, o3, vN, o256, ho⟩
    rw [exN_all] at ho
    simp [f2, f3, f4, f5, f8, f23, f24, o0, o1, o2, o3, o256, hc]
    refine loopW_count 43 p.edges.length (fun k S => S.fr 2 = .one (.ptr (0, 0) 0) ∧ S.fr 3 = .one (.ptr (1, 0) 0) ∧ S.fr 4 = .one (.ptr (2, 0) 0) ∧ S.fr 5 = .one (.ptr (3, 0) 0) ∧ S.fr 8 = .one (.ptr (256, 0) 0) ∧ S.fr 41 = .one (.t (ints p.edges)) ∧ S.fr 42 = .one (.t (.int .i64 p.edges.length)) ∧
      S.ob (0, 0) = some (bx 25 (g.v.2.map .t)) ∧ S.ob (1, 0) = some (bx 63 (p.v.2.map .t)) ∧ S.ob (2, 0) = some (bx 25 [.nil, .nil]) ∧ S.ob (3, 0) = some (bx 27 [.nil, .nil]) ∧
      outR 520 3 1 (exG g p).nodes.length ((exG g p).nodes.map (.int .i64)) S.ob (.one vN) ∧
      ∃ vE, S.ob (256, 0) = some (bx 25 [vN, vE]) ∧ outR 1028 76 3 (exE g p k).length (edL (exE g p k)) S.ob (.one vE)) (by omega) ?_ ?_ ?_
    · simp [f2, f3, f4, f5, f8, o0, o1, o2, o3, o256, exE, edL, outR_nil]
      simpa using ho
    · rintro k S hlt hw hc ⟨f2, f3, f4, f5, f8, f41, f42, o0, o1, o2, o3, hN, vE, o256, ho⟩
      obtain ⟨x1, x2⟩ := ok.re _ (nth_mem hlt)
      obtain ⟨d1, d2⟩ := ok.de _ (nth_mem hlt)
      obtain ⟨x, hx⟩ := Int.eq_ofNat_of_zero_le x1
      rw [hx, Int.toNat_natCast] at d1 d2
      have hx2 : x < g.edges.length := by omega
      have hx3 : x * 3 < g.edges.length * 3 := by omega
      have z := exE_len (g := g) (p := p) (k := k) (by omega)
      have zs := exE_succ (g := g) hlt
      have zd : exD g p (nth p.edges k) = ⟨(eth g.edges x).t, idx p.nodes (eth g.edges x).f, idx p.nodes (eth g.edges x).g⟩ := by simp [exD, hx]
      have s1 := bs_idx ok.an d1
      have s2 := bs_idx ok.an d2
      have ho0 := ho
      rcases ho with ⟨a1, _, a3⟩ | ⟨a1, ga, a3, a4⟩
      all_goals
        cases a3
        simp [f2, f3, f4, f5, f8, f41, f42, o0, o1, o2, o3, o256, hc, hlt, drop_nth hlt, hx, hx2, hx3, drop_edL hx2]
        refine callS_tree (bsearch_ok p.nodes (eth g.edges x).f tp.1 ok.an) ?_ ?_ ?_
        · rfl
        · rfl
        simp [f2, f3, f4, f5, f8, f41, f42, o0, o1, o2, o3, o256, hc, s1]
        refine callS_tree (bsearch_ok p.nodes (eth g.edges x).g tp.1 ok.an) ?_ ?_ ?_
        · rfl
        · rfl
        simp [f2, f3, f4, f5, f8, f41, f42, o0, o1, o2, o3, o256, hc, s2]
        refine kApp_grow (ts := edC ⟨(eth g.edges x).t, idx p.nodes (eth g.edges x).f, idx p.nodes (eth g.edges x).g⟩) rfl (ho0.keep fun g => by simp) (by omega) rfl (by omega) (by omega) fun E hE hob hcnt => ?_
        obtain ⟨w, hu⟩ := hE.one
        rw [hu] at hE
        have hN2 := hN.keep (ob' := E.ob) fun g => by rw [hob _ _ (by decide)]; simp
        simp [f2, f3, f4, f5, f8, f41, f42, o0, o1, o2, o3, o256, hc, hw, hob, hu, zs, zd]
        exact ⟨outR.keep (by simpa using hN2) fun g => by simp, outR.keep (by simpa [edL, Nat.add_assoc] using hE) fun g => by simp⟩
    · rintro S hc ⟨f2, f3, f4, f5, f8, f41, f42, o0, o1, o2, o3, hN, vE, o256, ho⟩
      rw [exE_all] at ho
      rw [e, exT]
      generalize exG g p = X at hN ho ⊢
      rcases hN with ⟨n1, n2, n3⟩ | ⟨n1, gg, n3, n4⟩ <;> rcases ho with ⟨m1, m2, m3⟩ | ⟨m1, gg', m3, m4⟩
      all_goals
        cases n3
        cases m3
        simp [dw0, dw1, dw2, dw3, f2, f3, f4, f5, f8, f41, f42, o0, o1, o2, o3, o256, hc]
        refine dCall_ok (clone_row p.nodes tp.1).ok ?_ ?_ ?_
        · rfl
        · rfl
        simp [dw0, dw1, dw2, dw3, f2, f3, f4, f5, f8, f41, f42, o0, o1, o2, o3, o256, hc]
        refine dCall_ok (clone_row p.edges tp.2).ok ?_ ?_ ?_
        · rfl
        · rfl
      · have x1 : X.nodes = [] := List.eq_nil_of_length_eq_zero (by omega)
        have x2 : X.edges = [] := List.eq_nil_of_length_eq_zero (by omega)
        simp [dw0, dw1, dw2, dw3, f2, f3, f4, f5, f8, f41, f42, o0, o1, o2, o3, o256, hc, x1, x2, edL]
        rfl
      · have x1 : X.nodes = [] := List.eq_nil_of_length_eq_zero (by omega)
        simp [dw0, dw1, dw2, dw3, f2, f3, f4, f5, f8, f41, f42, o0, o1, o2, o3, o256, hc, x1, m4, edL, untreeT, untreeI]
        rfl
      · have x2 : X.edges = [] := List.eq_nil_of_length_eq_zero (by omega)
        simp [dw0, dw1, dw2, dw3, f2, f3, f4, f5, f8, f41, f42, o0, o1, o2, o3, o256, hc, x2, n4, edL, untreeT, untreeI]
        rfl
      · simp [dw0, dw1, dw2, dw3, f2, f3, f4, f5, f8, f41, f42, o0, o1, o2, o3, o256, hc, n4, m4, untreeT, untreeI]
        rfl
end Go.Proofs.YthcnpnogfblkcaaGreat

/- Contract: initial pushouts (program). -/
namespace Go.Proofs.YthcnpnogfblkcaaGreat
open Abs
set_option linter.unusedSimpArgs false
set_option linter.unusedVariables false

/-! ### Rows in a pair that is handed over -/
def outF (nm typ esz n : Nat) (cs : List Abs.C) (ob : Nm → Option Ob) (v : AV) : Prop :=
  (n = 0 ∧ cs = [] ∧ v = .one .nil) ∨ (0 < n ∧ ∃ g, v = .one (.row (nm, g)) ∧ ob (nm, g) = some ⟨true, true, true, esz, n, typ, cs.map .t⟩)
theorem outF.keep {nm typ esz n : Nat} {cs : List Abs.C} {ob ob' : Nm → Option Ob} {v : AV} (h : outF nm typ esz n cs ob v) (ho : ∀ g, ob' (nm, g) = ob (nm, g)) : outF nm typ esz n cs ob' v := by
  rcases h with h | ⟨h1, g, h2, h3⟩
  · exact .inl h
  · exact .inr ⟨h1, g, h2, by rw [ho]; exact h3⟩
theorem outF.treeC {nm typ esz n : Nat} {cs : List Abs.C} {ob : Nm → Option Ob} {u : V1} (h : outF nm typ esz n cs ob (.one u)) (fr : Nat → AV) (cnt : Nat → Nat) : treeCell ⟨fr, ob, cnt⟩ u = some (.sl n cs) := by
  rcases h with ⟨rfl, rfl, h3⟩ | ⟨h1, g, h3, h4⟩
  · cases h3
    rfl
  · cases h3
    exact treeCell_row h4
theorem argTree_two {S : St} {u v : V1} : argTree S (.agg [u, v]) = (treeCell S u).bind fun c => (treeCell S v).map fun d => (true, [c, d]) := by
  cases h1 : treeCell S u <;> cases h2 : treeCell S v <;> simp [argTree, treeCells, h1, h2]
theorem still_two {S : St} {u v : V1} : AV.still S (.agg [u, v]) = (u.still S && (v.still S && true)) := Eq.trans rfl rfl
theorem still_nil {S : St} : V1.still S .nil = true := Eq.trans rfl rfl
theorem still_row {fr : Nat → AV} {ob : Nm → Option Ob} {cnt : Nat → Nat} {o : Nm} {esz n typ : Nat} {cs : List V1} (h : ob o = some ⟨true, true, true, esz, n, typ, cs⟩) : V1.still ⟨fr, ob, cnt⟩ (.row o) = true := by simp [V1.still, St.live, h]
theorem callS_part {P : Program} {f : FuncId} {x : AV} {tx : TV} {v1 v2 : V1} {n1 n2 t1 t2 k1 k2 e1 e2 : Nat} {a b : List Abs.C} {r : TR} {ob : Nm → Option Ob} {cnt : Nat → Nat} {R : AV → (Nm → Option Ob) → (Nat → Nat) → Prop}
    (h : CallOK P f [tx, (true, [.sl n1 a, .sl n2 b])] r) (hx : ∀ ob cnt, argTree ⟨fun _ => .undef, ob, cnt⟩ x = some tx ∧ x.still ⟨fun _ => .undef, ob, cnt⟩ = true)
    (h1 : outR k1 t1 e1 n1 a ob (.one v1)) (h2 : outR k2 t2 e2 n2 b ob (.one v2)) (hd : k1 ≠ k2)
    (hR : ∀ ob', outF k1 t1 e1 n1 a ob' (.one v1) → outF k2 t2 e2 n2 b ob' (.one v2) → (∀ nm g, nm ≠ k1 → nm ≠ k2 → ob' (nm, g) = ob (nm, g)) → R r.av ob' cnt) : CallS P f [x, .agg [v1, v2]] ob cnt R := by
  have hx1 := fun ob => (hx ob cnt).1
  have hx2 := fun ob => (hx ob cnt).2
  have fin : ∀ ob', outF k1 t1 e1 n1 a ob' (.one v1) → outF k2 t2 e2 n2 b ob' (.one v2) → (∀ nm g, nm ≠ k1 → nm ≠ k2 → ob' (nm, g) = ob (nm, g)) → CallS P f [x, .agg [v1, v2]] ob' cnt R := by
    intro ob' g1 g2 g3
    refine callS_tree h ?_ ?_ (hR ob' g1 g2 g3)
    · simp [argTrees, hx1, argTree_two, g1.treeC, g2.treeC]
    · have s1 : V1.still ⟨fun _ => .undef, ob', cnt⟩ v1 = true := by
        rcases g1 with ⟨_, _, q⟩ | ⟨_, g, q, q'⟩ <;> cases q
        · exact still_nil
        · exact still_row q'
      have s2 : V1.still ⟨fun _ => .undef, ob', cnt⟩ v2 = true := by
        rcases g2 with ⟨_, _, q⟩ | ⟨_, g, q, q'⟩ <;> cases q
        · exact still_nil
        · exact still_row q'
      simp [hx2, still_two, s1, s2]
  rcases h1 with ⟨p1, p2, p3⟩ | ⟨p1, g1, p3, o1⟩ <;> rcases h2 with ⟨q1, q2, q3⟩ | ⟨q1, g2, q3, o2⟩
  · exact fin ob (.inl ⟨p1, p2, p3⟩) (.inl ⟨q1, q2, q3⟩) fun _ _ _ _ => rfl
  · refine callS_freeze [(k2, g2)] (fin _ (.inl ⟨p1, p2, p3⟩) (.inr ⟨q1, g2, q3, ?_⟩) fun nm g e1 e2 => ?_)
    · simp [frzAll, frzOne, o2, upd_same]
    · have : (nm, g) ≠ (k2, g2) := fun e => e2 (by cases e; rfl)
      simp [frzAll, frzOne, o2, upd_ne _ _ this]
  · refine callS_freeze [(k1, g1)] (fin _ (.inr ⟨p1, g1, p3, ?_⟩) (.inl ⟨q1, q2, q3⟩) fun nm g e1 e2 => ?_)
    · simp [frzAll, frzOne, o1, upd_same]
    · have : (nm, g) ≠ (k1, g1) := fun e => e1 (by cases e; rfl)
      simp [frzAll, frzOne, o1, upd_ne _ _ this]
  · have hne : (k2, g2) ≠ (k1, g1) := fun e => hd (by cases e; rfl)
    have hne' : (k1, g1) ≠ (k2, g2) := fun e => hne e.symm
    have w1 : frzAll [(k1, g1), (k2, g2)] ob = upd (upd ob (k1, g1) (some ⟨true, true, true, e1, n1, t1, a.map .t⟩)) (k2, g2) (some ⟨true, true, true, e2, n2, t2, b.map .t⟩) := by
      simp [frzAll, frzOne, o1, upd_ne _ _ hne, o2]
    refine callS_freeze [(k1, g1), (k2, g2)] ?_
    rw [w1]
    refine fin _ (.inr ⟨p1, g1, p3, ?_⟩) (.inr ⟨q1, g2, q3, ?_⟩) fun nm g f1 f2 => ?_
    · rw [upd_ne _ _ hne', upd_same]
    · rw [upd_same]
    · have f1 : (nm, g) ≠ (k1, g1) := fun e => f1 (by cases e; rfl)
      have f2 : (nm, g) ≠ (k2, g2) := fun e => f2 (by cases e; rfl)
      rw [upd_ne _ _ f2, upd_ne _ _ f1]

/-! ### What the initial pushout is made of -/
def bnS (m : Pa) (l : List Int) (x : Int) : List Int := if 0 ≤ idx m.nodes x ∧ idx m.nodes x ∉ l then l ++ [idx m.nodes x] else l
def bnU (m : Pa) (b : Gr) : Nat → List Int
  | 0 => []
  | k + 1 => if (k : Int) ∈ m.edges then bnU m b k else bnS m (bnS m (bnU m b k) (eth b.edges k).f) (eth b.edges k).g
theorem bnS_len {m : Pa} {l : List Int} {x : Int} : (bnS m l x).length ≤ l.length + 1 := by
  unfold bnS
  split <;> simp
theorem bnU_len {m : Pa} {b : Gr} : ∀ k, (bnU m b k).length ≤ 2 * k
  | 0 => by simp [bnU]
  | k + 1 => by
    have ih := bnU_len (m := m) (b := b) k
    unfold bnU
    split
    · omega
    · have h1 := bnS_len (m := m) (l := bnU m b k) (x := (eth b.edges k).f)
      have h2 := bnS_len (m := m) (l := bnS m (bnU m b k) (eth b.edges k).f) (x := (eth b.edges k).g)
      omega
def bndL (m : Pa) (b : Gr) : List Int := (bnU m b b.edges.length).mergeSort fun x y => decide (x ≤ y)
def cxF (m : Pa) (k : Nat) : Option Int := if (k : Int) ∈ m.edges then none else some (k : Int)
def cxL (m : Pa) (b : Gr) : List Int := collect (cxF m) b.edges.length
def cnF (m : Pa) (B : List Int) (k : Nat) : Option Int := if idx m.nodes k < 0 ∨ idx m.nodes k ∈ B then some (k : Int) else none
def cnL (m : Pa) (b : Gr) : List Int := collect (cnF m (bndL m b)) b.nodes.length
def inK (m : Pa) (b : Gr) (k : Nat) : List Int := ((bndL m b).take k).map fun i => idx (cnL m b) (nth m.nodes i.toNat)
def inG (m : Pa) (b : Gr) : List Int := (bndL m b).map fun i => idx (cnL m b) (nth m.nodes i.toNat)
theorem inK_succ {m : Pa} {b : Gr} {k : Nat} (h : k < (bndL m b).length) : inK m b (k + 1) = inK m b k ++ [idx (cnL m b) (nth m.nodes (nth (bndL m b) k).toNat)] := by
  rw [inK, take_succ_nth' h]
  simp [inK]
theorem inK_all {m : Pa} {b : Gr} : inK m b (bndL m b).length = inG m b := by simp [inK, inG]
theorem inK_len {m : Pa} {b : Gr} {k : Nat} (h : k ≤ (bndL m b).length) : (inK m b k).length = k := by simp [inK]; omega
def inB (m : Pa) (b : Gr) : Pa := ⟨bndL m b, []⟩
def inC (m : Pa) (b : Gr) : Pa := ⟨cnL m b, cxL m b⟩
/-- The initial pushout over an injective morphism. -/
def inS (a b : Gr) (m : Pa) : Sq := ⟨exG a (inB m b), a, exG b (inC m b), b, inB m b, ⟨inG m b, []⟩, m, inC m b⟩
def noS : Sq := ⟨⟨[], []⟩, ⟨[], []⟩, ⟨[], []⟩, ⟨[], []⟩, ⟨[], []⟩, ⟨[], []⟩, ⟨[], []⟩, ⟨[], []⟩⟩
def inE (a b : Gr) (m : Pa) : Int := if morErr a b m = 0 then if injB a b m = true then 0 else 15 else morErr a b m
def inR (a b : Gr) (m : Pa) : Sq × Int := if inE a b m = 0 then (inS a b m, 0) else (noS, inE a b m)
def sqT (x : Sq × Int) : TR := .tup [x.1.v, (false, [.int .i64 x.2])]

theorem idx_lt {l : List Int} {x : Int} (h : x ∈ l) : 0 ≤ idx l x ∧ idx l x < l.length ∧ nth l (idx l x).toNat = x := by
  have h1 : l.idxOf x < l.length := List.idxOf_lt_length_iff.2 h
  simp only [idx, if_pos h, Int.toNat_natCast]
  refine ⟨by omega, by omega, ?_⟩
  rw [nth_eq h1, List.getElem_idxOf]
theorem idx_neg {l : List Int} {x : Int} : idx l x < 0 ↔ x ∉ l := by
  unfold idx
  split
  · exact ⟨fun h => by omega, fun h => absurd (by assumption) h⟩
  · exact ⟨fun _ => by assumption, fun _ => by omega⟩
theorem bnS_mem {m : Pa} {l : List Int} {x y : Int} : y ∈ bnS m l x ↔ y ∈ l ∨ (0 ≤ y ∧ y = idx m.nodes x) := by
  unfold bnS
  split
  · rename_i h
    simp only [List.mem_append, List.mem_singleton]
    exact ⟨fun h' => h'.imp id fun e => ⟨by rw [e]; exact h.1, e⟩, fun h' => h'.imp id fun e => e.2⟩
  · rename_i h
    refine ⟨.inl, fun h' => h'.elim id fun e => ?_⟩
    rcases e with ⟨e1, rfl⟩
    by_cases e3 : idx m.nodes x ∈ l
    · exact e3
    · exact absurd ⟨e1, e3⟩ h
theorem bnS_nodup {m : Pa} {l : List Int} {x : Int} (h : l.Nodup) : (bnS m l x).Nodup := by
  unfold bnS
  split
  · rename_i h'
    rw [List.nodup_append]
    refine ⟨h, by simp, fun a ha b hb => ?_⟩
    simp only [List.mem_singleton] at hb
    subst hb
    exact fun e => h'.2 (e ▸ ha)
  · exact h
theorem bnU_nodup {m : Pa} {b : Gr} : ∀ k, (bnU m b k).Nodup
  | 0 => by simp [bnU]
  | k + 1 => by
    unfold bnU
    split
    · exact bnU_nodup k
    · exact bnS_nodup (bnS_nodup (bnU_nodup k))
theorem bnU_mem {m : Pa} {b : Gr} {y : Int} : ∀ {k : Nat}, y ∈ bnU m b k ↔ ∃ i : Nat, i < k ∧ (i : Int) ∉ m.edges ∧ 0 ≤ y ∧ (y = idx m.nodes (eth b.edges i).f ∨ y = idx m.nodes (eth b.edges i).g)
  | 0 => by simp [bnU]
  | k + 1 => by
    have ih := bnU_mem (m := m) (b := b) (y := y) (k := k)
    unfold bnU
    split
    · rename_i h
      rw [ih]
      refine ⟨fun ⟨i, h1, h2⟩ => ⟨i, by omega, h2⟩, fun ⟨i, h1, h2, h3⟩ => ⟨i, ?_, h2, h3⟩⟩
      rcases Nat.lt_or_ge i k with e | e
      · exact e
      · have : i = k := by omega
        subst this
        exact absurd h h2
    · rename_i h
      rw [bnS_mem, bnS_mem, ih]
      constructor
      · rintro ((⟨i, h1, h2⟩ | ⟨h1, h2⟩) | ⟨h1, h2⟩)
        · exact ⟨i, by omega, h2⟩
        · exact ⟨k, by omega, h, h1, .inl h2⟩
        · exact ⟨k, by omega, h, h1, .inr h2⟩
      · rintro ⟨i, h1, h2, h3, h4⟩
        rcases Nat.lt_or_ge i k with e | e
        · exact .inl (.inl ⟨i, e, h2, h3, h4⟩)
        · have : i = k := by omega
          subst this
          rcases h4 with h4 | h4
          · exact .inl (.inr ⟨h3, h4⟩)
          · exact .inr ⟨h3, h4⟩
theorem bndL_mem {m : Pa} {b : Gr} {y : Int} : y ∈ bndL m b ↔ y ∈ bnU m b b.edges.length := (List.mergeSort_perm ..).mem_iff
theorem bndL_asc {m : Pa} {b : Gr} : (bndL m b).Pairwise (· < ·) := by
  have h1 : (bndL m b).Pairwise fun x y => decide (x ≤ y) = true := List.pairwise_mergeSort (fun a b c h1 h2 => by simp at *; omega) (fun a b => by simp; omega) _
  have h2 : (bndL m b).Nodup := (List.mergeSort_perm ..).nodup_iff.2 (bnU_nodup _)
  refine (h1.and h2).imp fun {x y} h => ?_
  have := h.1
  have := h.2
  simp at *
  omega
theorem bndL_in {m : Pa} {b : Gr} {y : Int} (h : y ∈ bndL m b) : 0 ≤ y ∧ y < m.nodes.length := by
  rw [bndL_mem, bnU_mem] at h
  obtain ⟨i, _, _, h1, h2⟩ := h
  refine ⟨h1, ?_⟩
  have key : ∀ x, 0 ≤ idx m.nodes x → idx m.nodes x < m.nodes.length := fun x h => by
    by_cases e : x ∈ m.nodes
    · exact (idx_lt e).2.1
    · have := idx_neg.2 e
      omega
  rcases h2 with rfl | rfl
  · exact key _ h1
  · exact key _ h1
end Go.Proofs.YthcnpnogfblkcaaGreat

/- Contract: initial pushouts (program, 2). -/
namespace Go.Proofs.YthcnpnogfblkcaaGreat
open Abs
set_option linter.unusedSimpArgs false
set_option linter.unusedVariables false
attribute [local simp] rn0 rn1 rn2 rn3 rn4 rn5 rn6 rn7 evOp nests Arg.ev St.val St.set St.new sliceOf binInt2 binInt AV.cells rdAt St.live retOf resOf resAll treeOf treeCell treeCells treeTups untree frameOf TV.av TR.av ints edgs prs fillV splice intsOf trees V1.tree bx Gr.v Pa.v opRd opWr opNew opNewR opArgs argsRd argRd Arg.rd AV.refs V1.refs refsL dstL

theorem asc_zero {l : List Int} {n : Nat} (ha : Asc l) (hr : ∀ x ∈ l, 0 ≤ x ∧ x < n) : ascErr l n = 0 := fe_zero fun j hj => by
  have h1 := hr _ (nth_mem hj)
  have h2 : ¬ nth l j < 0 := by omega
  have h3 : ¬ (n : Int) ≤ nth l j := by omega
  have h4 : ¬ (0 < j ∧ nth l j ≤ nth l (j - 1)) := fun h => by
    have := ha (j - 1) j (by omega) hj
    omega
  simp only [ascF, if_neg h2, if_neg h3, if_neg h4]
theorem sub_zero {g : Gr} {p : Pa} (h0 : gErr g = 0) (an : Asc p.nodes) (ae : Asc p.edges) (rn : ∀ x ∈ p.nodes, 0 ≤ x ∧ x < g.nodes.length) (re : ∀ x ∈ p.edges, 0 ≤ x ∧ x < g.edges.length)
    (de : ∀ x ∈ p.edges, (eth g.edges x.toNat).f ∈ p.nodes ∧ (eth g.edges x.toNat).g ∈ p.nodes) : subErr g p = 0 := by
  rw [subErr, if_pos h0, partErr, if_pos (asc_zero an rn), if_pos (asc_zero ae re)]
  refine fe_zero fun j hj => ?_
  rw [danF, if_pos (de _ (nth_mem hj))]
theorem mor_g {a b : Gr} {m : Pa} (h : morErr a b m = 0) : gErr a = 0 ∧ gErr b = 0 := by
  unfold morErr at h
  split at h
  · split at h
    · exact ⟨by assumption, by assumption⟩
    · exact absurd h (by assumption)
  · exact absurd h (by assumption)
theorem collect_asc {f : Nat → Option Int} (hf : ∀ k x, f k = some x → x = k) : ∀ {n : Nat}, (collect f n).Pairwise (· < ·)
  | 0 => List.Pairwise.nil
  | n + 1 => by
    have ih := collect_asc hf (n := n)
    cases h : f n with
    | none => rw [collect_none h]; exact ih
    | some x =>
      rw [collect_some h, List.pairwise_append]
      refine ⟨ih, by simp, fun a ha b hb => ?_⟩
      obtain ⟨j, hj, hj'⟩ := mem_collect.1 ha
      have h1 := hf _ _ hj'
      have h2 := hf _ _ h
      simp only [List.mem_singleton] at hb
      omega
theorem cxF_eq (m : Pa) : ∀ k x, cxF m k = some x → x = k := fun k x h => by
  unfold cxF at h
  split at h
  · cases h
  · injection h with h; exact h.symm
theorem cnF_eq (m : Pa) (B : List Int) : ∀ k x, cnF m B k = some x → x = k := fun k x h => by
  unfold cnF at h
  split at h
  · injection h with h; exact h.symm
  · cases h
theorem cx_mem {m : Pa} {b : Gr} {x : Int} : x ∈ cxL m b ↔ ∃ i : Nat, x = i ∧ i < b.edges.length ∧ (i : Int) ∉ m.edges := by
  rw [cxL, mem_collect]
  constructor
  · rintro ⟨j, hj, h⟩
    have := cxF_eq m _ _ h
    unfold cxF at h
    split at h
    · cases h
    · exact ⟨j, this, hj, by assumption⟩
  · rintro ⟨i, rfl, h1, h2⟩
    exact ⟨i, h1, by simp [cxF, h2]⟩
theorem cn_mem {m : Pa} {b : Gr} {x : Int} : x ∈ cnL m b ↔ ∃ i : Nat, x = i ∧ i < b.nodes.length ∧ (x ∉ m.nodes ∨ idx m.nodes x ∈ bndL m b) := by
  rw [cnL, mem_collect]
  constructor
  · rintro ⟨j, hj, h⟩
    have := cnF_eq m _ _ _ h
    unfold cnF at h
    split at h
    · rename_i h'
      rw [idx_neg] at h'
      exact ⟨j, this, hj, this ▸ h'⟩
    · cases h
  · rintro ⟨i, rfl, h1, h2⟩
    rw [← idx_neg] at h2
    exact ⟨i, h1, by simp only [cnF, if_pos h2]⟩
theorem end_in {m : Pa} {b : Gr} {i : Nat} (gb : GrOk b) (hi : i < b.edges.length) (hm : (i : Int) ∉ m.edges) : (eth b.edges i).f ∈ cnL m b ∧ (eth b.edges i).g ∈ cnL m b := by
  obtain ⟨_, _, g1, g2, g3, g4⟩ := gb.edges _ (eth_mem hi)
  obtain ⟨x, hx⟩ := Int.eq_ofNat_of_zero_le g1
  obtain ⟨y, hy⟩ := Int.eq_ofNat_of_zero_le g3
  have key : ∀ e : Int, (e = (eth b.edges i).f ∨ e = (eth b.edges i).g) → e ∉ m.nodes ∨ idx m.nodes e ∈ bndL m b := fun e he => by
    by_cases h : e ∈ m.nodes
    · refine .inr (bndL_mem.2 (bnU_mem.2 ⟨i, hi, hm, (idx_lt h).1, ?_⟩))
      rcases he with rfl | rfl
      · exact .inl rfl
      · exact .inr rfl
    · exact .inl h
  exact ⟨cn_mem.2 ⟨x, hx, by omega, key _ (.inl rfl)⟩, cn_mem.2 ⟨y, hy, by omega, key _ (.inr rfl)⟩⟩
theorem inB_ok {a b : Gr} {m : Pa} (h0 : gErr a = 0) (hl : m.nodes.length = a.nodes.length) : subErr a (inB m b) = 0 :=
  sub_zero h0 (asc_iff.2 bndL_asc) (fun i j _ h => absurd h (by simp [inB])) (fun x hx => by have := bndL_in hx; omega) (fun x hx => by simp [inB] at hx) (fun x hx => by simp [inB] at hx)
theorem inC_ok {b : Gr} {m : Pa} (h0 : gErr b = 0) : subErr b (inC m b) = 0 := by
  have gb := gErr_ok h0
  refine sub_zero h0 (asc_iff.2 (collect_asc (cnF_eq m _))) (asc_iff.2 (collect_asc (cxF_eq m))) (fun x hx => ?_) (fun x hx => ?_) (fun x hx => ?_)
  · obtain ⟨i, rfl, h1, _⟩ := cn_mem.1 hx
    omega
  · obtain ⟨i, rfl, h1, _⟩ := cx_mem.1 hx
    omega
  · obtain ⟨i, rfl, h1, h2⟩ := cx_mem.1 hx
    exact end_in gb h1 h2

theorem Abs.outR.outL {nm typ esz n : Nat} {cs : List Abs.C} {ob : Nm → Option Ob} {v : AV} (h : outR nm typ esz n cs ob v) : Abs.outL [nm] typ esz n cs ob v := by
  rcases h with ⟨h1, h2, h3⟩ | ⟨h1, g, h3, h4⟩
  · exact .inl ⟨h1, h2, h3⟩
  · exact .inr ⟨h1, nm, by simp, g, h3, h4⟩
theorem Abs.outL.outR {nm typ esz n : Nat} {cs : List Abs.C} {ob : Nm → Option Ob} {v : AV} (h : Abs.outL [nm] typ esz n cs ob v) : outR nm typ esz n cs ob v := by
  rcases h with ⟨h1, h2, h3⟩ | ⟨h1, nm', hm, g, h3, h4⟩
  · exact .inl ⟨h1, h2, h3⟩
  · simp at hm
    subst hm
    exact .inr ⟨h1, g, h3, h4⟩
theorem argTrees_row {nm typ esz n : Nat} {cs : List Abs.C} {ob : Nm → Option Ob} {u : V1} {c : Abs.C} (h : outR nm typ esz n cs ob (.one u)) (fr : Nat → AV) (cnt : Nat → Nat) : argTrees ⟨fr, ob, cnt⟩ [.one u, .one (.t c)] = some [(false, [.sl n cs]), (false, [c])] := by
  simp only [argTrees, argTree_one, h.treeC fr cnt]
  rfl
theorem argTrees_rowF {nm typ esz n : Nat} {cs : List Abs.C} {ob : Nm → Option Ob} {u : V1} {c : Abs.C} (h : outF nm typ esz n cs ob (.one u)) (fr : Nat → AV) (cnt : Nat → Nat) : argTrees ⟨fr, ob, cnt⟩ [.one u, .one (.t c)] = some [(false, [.sl n cs]), (false, [c])] := by
  simp only [argTrees, argTree_one, h.treeC fr cnt]
  rfl
theorem outR_inK {m : Pa} {b : Gr} {nm typ : Nat} {ob : Nm → Option Ob} : outR nm typ 1 (inK m b 0).length ((inK m b 0).map (.int .i64)) ob (.one .nil) := .inl ⟨by simp [inK], by simp [inK], rfl⟩
def bnV (m : Pa) (l : List Int) (f g : Int) (j : Nat) : List Int := if j = 0 then l else if j = 1 then bnS m l f else bnS m (bnS m l f) g


def c_sInit : MFunc := ⟨172, [.cell 6 true 16, .tmp 7], .seq (.region [⟨some 3, .box 0 25 (.tmp 0), none⟩, ⟨some 4, .box 1 25 (.tmp 1), none⟩, ⟨some 5, .box 2 27 (.tmp 2), none⟩, ⟨some 6, .alloc 3 29 [.nil, .nil, .nil, .nil, .nil, .nil, .nil, .nil, .nil, .nil, .nil, .nil, .nil, .nil, .nil, .nil], none⟩, ⟨some 7, .mv (.c (.one (.t (.int .i64 0)))), none⟩]) (.seq (.seq (.region [⟨some 26, .load true 2 (.tmp 3), none⟩, ⟨some 27, .load true 2 (.tmp 4), none⟩, ⟨some 28, .load true 2 (.tmp 5), none⟩, ⟨some 29, .call (.c (.one (.fn 41 []))) 67 [.tmp 26, .tmp 27, .tmp 28], none⟩, ⟨some 8, .mv (.tmp 29), none⟩]) (.seq (.region [⟨some 30, .mv (.tmp 8), none⟩, ⟨some 31, .bin .neq (.tmp 30) (.c (.one (.t (.int .i64 0)))), none⟩]) (.cond (.tmp 31) (.seq (.region [⟨some 32, .build [.nil, .nil, .nil, .nil, .nil, .nil, .nil, .nil, .nil, .nil, .nil, .nil, .nil, .nil, .nil, .nil] [], none⟩, ⟨some 33, .mv (.tmp 8), none⟩, ⟨none, .store 16 (.tmp 6) (.tmp 32), none⟩, ⟨some 7, .mv (.tmp 33), none⟩]) .ret) .skip))) (.seq (.seq (.region [⟨some 34, .load true 2 (.tmp 3), none⟩, ⟨some 35, .load true 2 (.tmp 4), none⟩, ⟨some 36, .load true 2 (.tmp 5), none⟩, ⟨some 37, .call (.c (.one (.fn 27 []))) 259 [.tmp 34, .tmp 35, .tmp 36], none⟩, ⟨some 38, .not (.tmp 37), none⟩]) (.cond (.tmp 38) (.seq (.region [⟨some 39, .build [.nil, .nil, .nil, .nil, .nil, .nil, .nil, .nil, .nil, .nil, .nil, .nil, .nil, .nil, .nil, .nil] [], none⟩, ⟨none, .store 16 (.tmp 6) (.tmp 39), none⟩, ⟨some 7, .mv (.c (.one (.t (.int .i64 15)))), none⟩]) .ret) .skip)) (.seq (.region [⟨some 9, .alloc 384 63 [.nil, .nil], none⟩, ⟨some 10, .alloc 385 63 [.nil, .nil], none⟩]) (.seq (.seq (.region [⟨some 40, .fieldA 1 (.tmp 4), none⟩, ⟨some 41, .load false 1 (.tmp 40), none⟩, ⟨some 42, .len (.tmp 41), none⟩, ⟨some 43, .mv (.c (.one (.t (.int .i64 0)))), none⟩]) (.block 0 (.loop (.seq (.region [⟨some 44, .bin .lss (.tmp 43) (.tmp 42), none⟩]) (.seq (.cond (.tmp 44) .skip (.exit 0)) (.seq (.block 1 (.seq (.region [⟨some 45, .mv (.tmp 43), none⟩, ⟨some 46, .idxA 3 (.tmp 41) (.tmp 43), none⟩, ⟨some 47, .load true 3 (.tmp 46), none⟩, ⟨some 12, .alloc 579 76 [.t (.int .i64 0), .t (.int .i64 0), .t (.int .i64 0)], none⟩, ⟨some 11, .mv (.tmp 45), none⟩, ⟨none, .store 3 (.tmp 12) (.tmp 47), none⟩]) (.seq (.seq (.region [⟨some 48, .fieldA 1 (.tmp 5), none⟩, ⟨some 49, .load false 1 (.tmp 48), none⟩, ⟨some 50, .mv (.tmp 11), none⟩, ⟨some 51, .call (.c (.one (.fn 32 []))) 643 [.tmp 49, .tmp 50], none⟩]) (.cond (.tmp 51) (.exit 1) .skip)) (.seq (.region [⟨some 52, .fieldA 1 (.tmp 10), none⟩, ⟨some 53, .load false 1 (.tmp 52), none⟩, ⟨some 54, .mv (.tmp 11), none⟩, ⟨some 55, .mkrow 707 3 1 1 [.t (.int .i64 0)] [(0, (1, .tmp 54))], none⟩, ⟨some 56, .append 708 3 1 8 (.tmp 53) (.tmp 55), none⟩, ⟨some 57, .fieldA 1 (.tmp 10), none⟩, ⟨none, .store 1 (.tmp 57) (.tmp 56), none⟩]) (.seq (.region [⟨some 58, .fieldA 1 (.tmp 12), none⟩, ⟨some 59, .load false 1 (.tmp 58), none⟩, ⟨some 60, .fieldA 2 (.tmp 12), none⟩, ⟨some 61, .load false 1 (.tmp 60), none⟩, ⟨some 62, .mkrow 772 3 1 2 [.t (.int .i64 0), .t (.int .i64 0)] [(0, (1, .tmp 59)), (1, (1, .tmp 61))], none⟩, ⟨some 63, .len (.tmp 62), none⟩, ⟨some 64, .mv (.c (.one (.t (.int .i64 0)))), none⟩]) (.block 2 (.loop (.seq (.region [⟨some 65, .bin .lss (.tmp 64) (.tmp 63), none⟩]) (.seq (.cond (.tmp 65) .skip (.exit 2)) (.seq (.block 3 (.seq (.region [⟨some 66, .idxA 1 (.tmp 62) (.tmp 64), none⟩, ⟨some 67, .load false 1 (.tmp 66), none⟩, ⟨some 14, .mv (.tmp 67), none⟩]) (.seq (.region [⟨some 68, .fieldA 0 (.tmp 5), none⟩, ⟨some 69, .load false 1 (.tmp 68), none⟩, ⟨some 70, .mv (.tmp 14), none⟩, ⟨some 71, .call (.c (.one (.fn 31 []))) 963 [.tmp 69, .tmp 70], none⟩, ⟨some 15, .mv (.tmp 71), none⟩]) (.seq (.region [⟨some 72, .mv (.tmp 15), none⟩, ⟨some 73, .bin .geq (.tmp 72) (.c (.one (.t (.int .i64 0)))), none⟩, ⟨some 74, .mv (.tmp 73), none⟩, ⟨some 75, .fieldA 0 (.tmp 9), some (74, true)⟩, ⟨some 76, .load false 1 (.tmp 75), some (74, true)⟩, ⟨some 77, .mv (.tmp 15), some (74, true)⟩, ⟨some 78, .call (.c (.one (.fn 32 []))) 1030 [.tmp 76, .tmp 77], some (74, true)⟩, ⟨some 79, .not (.tmp 78), some (74, true)⟩, ⟨some 80, .pick (.tmp 74) (.tmp 79) (.c (.one (.t (.bool false)))), none⟩]) (.cond (.tmp 80) (.region [⟨some 81, .fieldA 0 (.tmp 9), none⟩, ⟨some 82, .load false 1 (.tmp 81), none⟩, ⟨some 83, .mv (.tmp 15), none⟩, ⟨some 84, .mkrow 1091 3 1 1 [.t (.int .i64 0)] [(0, (1, .tmp 83))], none⟩, ⟨some 85, .append 1092 3 1 8 (.tmp 82) (.tmp 84), none⟩, ⟨some 86, .fieldA 0 (.tmp 9), none⟩, ⟨none, .store 1 (.tmp 86) (.tmp 85), none⟩]) .skip))))) (.region [⟨some 87, .bin .add (.tmp 64) (.c (.one (.t (.int .i64 1)))), none⟩, ⟨some 64, .mv (.tmp 87), none⟩]))))))))))) (.region [⟨some 88, .bin .add (.tmp 43) (.c (.one (.t (.int .i64 1)))), none⟩, ⟨some 43, .mv (.tmp 88), none⟩]))))))) (.seq (.region [⟨some 89, .fieldA 0 (.tmp 9), none⟩, ⟨some 90, .load false 1 (.tmp 89), none⟩, ⟨some 91, .call (.c (.one (.fn 61 []))) 1282 [.tmp 90], none⟩]) (.seq (.seq (.region [⟨some 92, .fieldA 0 (.tmp 4), none⟩, ⟨some 93, .load false 1 (.tmp 92), none⟩, ⟨some 94, .len (.tmp 93), none⟩, ⟨some 95, .mv (.c (.one (.t (.int .i64 0)))), none⟩]) (.block 4 (.loop (.seq (.region [⟨some 96, .bin .lss (.tmp 95) (.tmp 94), none⟩]) (.seq (.cond (.tmp 96) .skip (.exit 4)) (.seq (.block 5 (.seq (.region [⟨some 97, .mv (.tmp 95), none⟩, ⟨some 16, .mv (.tmp 97), none⟩]) (.seq (.region [⟨some 98, .fieldA 0 (.tmp 5), none⟩, ⟨some 99, .load false 1 (.tmp 98), none⟩, ⟨some 100, .mv (.tmp 16), none⟩, ⟨some 101, .call (.c (.one (.fn 31 []))) 1539 [.tmp 99, .tmp 100], none⟩, ⟨some 17, .mv (.tmp 101), none⟩]) (.seq (.region [⟨some 102, .mv (.tmp 17), none⟩, ⟨some 103, .bin .lss (.tmp 102) (.c (.one (.t (.int .i64 0)))), none⟩, ⟨some 104, .mv (.tmp 103), none⟩, ⟨some 105, .fieldA 0 (.tmp 9), some (104, false)⟩, ⟨some 106, .load false 1 (.tmp 105), some (104, false)⟩, ⟨some 107, .mv (.tmp 17), some (104, false)⟩, ⟨some 108, .call (.c (.one (.fn 32 []))) 1606 [.tmp 106, .tmp 107], some (104, false)⟩, ⟨some 109, .pick (.tmp 104) (.c (.one (.t (.bool true)))) (.tmp 108), none⟩]) (.cond (.tmp 109) (.region [⟨some 110, .fieldA 0 (.tmp 10), none⟩, ⟨some 111, .load false 1 (.tmp 110), none⟩, ⟨some 112, .mv (.tmp 16), none⟩, ⟨some 113, .mkrow 1667 3 1 1 [.t (.int .i64 0)] [(0, (1, .tmp 112))], none⟩, ⟨some 114, .append 1668 3 1 8 (.tmp 111) (.tmp 113), none⟩, ⟨some 115, .fieldA 0 (.tmp 10), none⟩, ⟨none, .store 1 (.tmp 115) (.tmp 114), none⟩]) .skip))))) (.region [⟨some 116, .bin .add (.tmp 95) (.c (.one (.t (.int .i64 1)))), none⟩, ⟨some 95, .mv (.tmp 116), none⟩]))))))) (.seq (.region [⟨some 118, .load true 2 (.tmp 3), none⟩, ⟨some 119, .load true 2 (.tmp 9), none⟩, ⟨some 120, .call (.c (.one (.fn 62 []))) 1794 [.tmp 118, .tmp 119], none⟩, ⟨some 117, .mv (.tmp 120), none⟩, ⟨some 121, .extract (.tmp 117) 0, none⟩, ⟨some 122, .extract (.tmp 117) 1, none⟩, ⟨some 123, .extract (.tmp 117) 2, none⟩, ⟨some 18, .alloc 1799 25 [.nil, .nil], none⟩, ⟨some 19, .alloc 1800 27 [.nil, .nil], none⟩, ⟨none, .store 2 (.tmp 18) (.tmp 121), none⟩, ⟨none, .store 2 (.tmp 19) (.tmp 122), none⟩, ⟨some 20, .mv (.tmp 123), none⟩]) (.seq (.seq (.region [⟨some 124, .mv (.tmp 20), none⟩, ⟨some 125, .bin .neq (.tmp 124) (.c (.one (.t (.int .i64 0)))), none⟩]) (.cond (.tmp 125) (.seq (.region [⟨some 126, .build [.nil, .nil, .nil, .nil, .nil, .nil, .nil, .nil, .nil, .nil, .nil, .nil, .nil, .nil, .nil, .nil] [], none⟩, ⟨some 127, .mv (.tmp 20), none⟩, ⟨none, .store 16 (.tmp 6) (.tmp 126), none⟩, ⟨some 7, .mv (.tmp 127), none⟩]) .ret) .skip)) (.seq (.region [⟨some 129, .load true 2 (.tmp 4), none⟩, ⟨some 130, .load true 2 (.tmp 10), none⟩, ⟨some 131, .call (.c (.one (.fn 62 []))) 1986 [.tmp 129, .tmp 130], none⟩, ⟨some 128, .mv (.tmp 131), none⟩, ⟨some 132, .extract (.tmp 128) 0, none⟩, ⟨some 133, .extract (.tmp 128) 1, none⟩, ⟨some 134, .extract (.tmp 128) 2, none⟩, ⟨some 21, .alloc 1991 25 [.nil, .nil], none⟩, ⟨some 22, .alloc 1992 27 [.nil, .nil], none⟩, ⟨none, .store 2 (.tmp 21) (.tmp 132), none⟩, ⟨none, .store 2 (.tmp 22) (.tmp 133), none⟩, ⟨some 20, .mv (.tmp 134), none⟩]) (.seq (.seq (.region [⟨some 135, .mv (.tmp 20), none⟩, ⟨some 136, .bin .neq (.tmp 135) (.c (.one (.t (.int .i64 0)))), none⟩]) (.cond (.tmp 136) (.seq (.region [⟨some 137, .build [.nil, .nil, .nil, .nil, .nil, .nil, .nil, .nil, .nil, .nil, .nil, .nil, .nil, .nil, .nil, .nil] [], none⟩, ⟨some 138, .mv (.tmp 20), none⟩, ⟨none, .store 16 (.tmp 6) (.tmp 137), none⟩, ⟨some 7, .mv (.tmp 138), none⟩]) .ret) .skip)) (.seq (.region [⟨some 23, .alloc 2176 27 [.nil, .nil], none⟩]) (.seq (.seq (.region [⟨some 139, .fieldA 0 (.tmp 9), none⟩, ⟨some 140, .load false 1 (.tmp 139), none⟩, ⟨some 141, .len (.tmp 140), none⟩, ⟨some 142, .mv (.c (.one (.t (.int .i64 0)))), none⟩]) (.block 6 (.loop (.seq (.region [⟨some 143, .bin .lss (.tmp 142) (.tmp 141), none⟩]) (.seq (.cond (.tmp 143) .skip (.exit 6)) (.seq (.block 7 (.seq (.region [⟨some 144, .idxA 1 (.tmp 140) (.tmp 142), none⟩, ⟨some 145, .load false 1 (.tmp 144), none⟩, ⟨some 25, .mv (.tmp 145), none⟩]) (.draw [[], [0], [], [2], [], [4], [], [5, 6], [7], [3, 8], [9], [1, 10, 9], [0, 1, 2, 3, 4, 5, 6, 7, 8, 9, 10, 11], [12, 11, 11, 0, 1, 2, 3, 4, 5, 6, 7, 8, 9, 10, 11]] [⟨some 146, .fieldA 0 (.tmp 23), none⟩, ⟨some 147, .load false 1 (.tmp 146), none⟩, ⟨some 148, .fieldA 0 (.tmp 10), none⟩, ⟨some 149, .load false 1 (.tmp 148), none⟩, ⟨some 150, .fieldA 0 (.tmp 5), none⟩, ⟨some 151, .load false 1 (.tmp 150), none⟩, ⟨some 152, .mv (.tmp 25), none⟩, ⟨some 153, .idxA 1 (.tmp 151) (.tmp 152), none⟩, ⟨some 154, .load false 1 (.tmp 153), none⟩, ⟨some 155, .call (.c (.one (.fn 31 []))) 2441 [.tmp 149, .tmp 154], none⟩, ⟨some 156, .mkrow 2442 3 1 1 [.t (.int .i64 0)] [(0, (1, .tmp 155))], none⟩, ⟨some 157, .append 2443 3 1 8 (.tmp 147) (.tmp 156), none⟩, ⟨some 158, .fieldA 0 (.tmp 23), none⟩, ⟨none, .store 1 (.tmp 158) (.tmp 157), none⟩]))) (.region [⟨some 159, .bin .add (.tmp 142) (.c (.one (.t (.int .i64 1)))), none⟩, ⟨some 142, .mv (.tmp 159), none⟩]))))))) (.seq (.draw [[], [], [1], [], [], [4, 2], [], [], [], [8, 5], [], [0, 2, 3, 5, 6, 7, 9, 10], [11, 9, 0, 1, 2, 3, 4, 5, 6, 7, 8, 9, 10, 11], [12, 0, 1, 2, 3, 4, 5, 6, 7, 8, 9, 10, 11, 12]] [⟨some 160, .load true 2 (.tmp 18), none⟩, ⟨some 161, .load true 2 (.tmp 3), none⟩, ⟨some 162, .call (.c (.one (.fn 46 []))) 2562 [.tmp 161], none⟩, ⟨some 163, .load true 2 (.tmp 21), none⟩, ⟨some 164, .load true 2 (.tmp 4), none⟩, ⟨some 165, .call (.c (.one (.fn 46 []))) 2565 [.tmp 164], none⟩, ⟨some 166, .load true 2 (.tmp 19), none⟩, ⟨some 167, .load true 2 (.tmp 23), none⟩, ⟨some 168, .load true 2 (.tmp 5), none⟩, ⟨some 169, .call (.c (.one (.fn 63 []))) 2569 [.tmp 168], none⟩, ⟨some 170, .load true 2 (.tmp 22), none⟩, ⟨some 171, .build [.nil, .nil, .nil, .nil, .nil, .nil, .nil, .nil, .nil, .nil, .nil, .nil, .nil, .nil, .nil, .nil] [(0, (2, .tmp 160)), (2, (2, .tmp 162)), (4, (2, .tmp 163)), (6, (2, .tmp 165)), (8, (2, .tmp 166)), (10, (2, .tmp 167)), (12, (2, .tmp 169)), (14, (2, .tmp 170))], none⟩, ⟨none, .store 16 (.tmp 6) (.tmp 171), none⟩, ⟨some 7, .mv (.c (.one (.t (.int .i64 0)))), none⟩]) .ret)))))))))))))⟩
theorem k_sInit : cFn Tryz.prog Tryz.f24 = some c_sInit := by kernel_rfl
set_option maxHeartbeats 8000000 in
theorem sInit_ok (a b : Gr) (m : Pa) (ta : tinyG a) (tb : tinyG b) (tm : tinyP m) : CallOK Tryz.prog 24 [a.v, b.v, m.v] (sqT (inR a b m)) := by
  refine callOK_W (callS_W (by kernel_rfl) Tryz.func24 k_sInit (callable_of Tryz.func24 (by kernel_rfl)) (by simp [c_sInit]) ?_)
  simp [c_sInit]
  refine callS_tree (mvalid_ok a b m ta tb tm) ?_ ?_ ?_
  · rfl
  · rfl
  by_cases h1 : morErr a b m = 0
  case neg =>
    have e : inR a b m = (noS, morErr a b m) := by simp [inR, inE, h1]
    simp [h1, sqT, e, noS, Sq.v, Sq.cs, edL]
  simp [h1]
  refine callS_tree (injX_ok a b m ta tb tm) ?_ ?_ ?_
  · rfl
  · rfl
  cases h2 : injB a b m
  · have e : inR a b m = (noS, 15) := by simp [inR, inE, h1, h2]
    simp [sqT, e, noS, Sq.v, Sq.cs, edL]
  have e : inR a b m = (inS a b m, 0) := by simp [inR, inE, h1, h2]
  have mo := mor_ok h1
  have b1 := mo.ga.n
  have b2 := mo.ga.e
  have b3 := mo.gb.n
  have b4 := mo.gb.e
  have l1 := mo.ln
  have l2 := mo.le
  have ubn := bnU_len (m := m) (b := b)
  simp
  refine loopW_count 43 b.edges.length (fun k S => S.fr 3 = .one (.ptr (0, 0) 0) ∧ S.fr 4 = .one (.ptr (1, 0) 0) ∧ S.fr 5 = .one (.ptr (2, 0) 0) ∧ S.fr 6 = .one (.ptr (3, 0) 0) ∧ S.fr 9 = .one (.ptr (384, 0) 0) ∧ S.fr 10 = .one (.ptr (385, 0) 0) ∧ S.fr 41 = .one (.t (edgs b.edges)) ∧ S.fr 42 = .one (.t (.int .i64 b.edges.length)) ∧
    S.ob (0, 0) = some (bx 25 (a.v.2.map .t)) ∧ S.ob (1, 0) = some (bx 25 (b.v.2.map .t)) ∧ S.ob (2, 0) = some (bx 27 (m.v.2.map .t)) ∧ S.ob (3, 0) = some (bx 29 [.nil, .nil, .nil, .nil, .nil, .nil, .nil, .nil, .nil, .nil, .nil, .nil, .nil, .nil, .nil, .nil]) ∧ S.cnt 1799 = 0 ∧ S.cnt 1800 = 0 ∧ S.cnt 1991 = 0 ∧ S.cnt 1992 = 0 ∧ S.cnt 2176 = 0 ∧
    ∃ vB vE, S.ob (384, 0) = some (bx 63 [vB, .nil]) ∧ S.ob (385, 0) = some (bx 63 [.nil, vE]) ∧ outR 1092 3 1 (bnU m b k).length ((bnU m b k).map (.int .i64)) S.ob (.one vB) ∧ outR 708 3 1 (collect (cxF m) k).length ((collect (cxF m) k).map (.int .i64)) S.ob (.one vE)) (by omega) ?_ ?_ ?_
  · simp [bnU, collect_zero, outR_nil]
  · rintro k S hlt hw hc ⟨f3, f4, f5, f6, f9, f10, f41, f42, o0, o1, o2, o3, n1, n2, n3, n4, n5, vB, vE, o384, o385, hB, hE⟩
    have hlt3 : k * 3 < b.edges.length * 3 := by omega
    simp [f3, f4, f5, f6, f9, f10, f41, f42, o0, o1, o2, o3, n1, n2, n3, n4, n5, o384, o385, hc, hlt, hlt3, drop_edL hlt]
    refine callS_tree (contains_ok m.edges k (tm.2.small)) ?_ ?_ ?_
    · rfl
    · rfl
    by_cases hm : (k : Int) ∈ m.edges
    · have q1 : bnU m b (k + 1) = bnU m b k := by simp [bnU, hm]
      have q2 : collect (cxF m) (k + 1) = collect (cxF m) k := collect_none (by simp [cxF, hm])
      simp [f3, f4, f5, f6, f9, f10, f41, f42, o0, o1, o2, o3, n1, n2, n3, n4, n5, o384, o385, hc, hm, hw, q1, q2]
      exact ⟨hB.keep fun g => by simp, hE.keep fun g => by simp⟩
    have q1 : bnU m b (k + 1) = bnS m (bnS m (bnU m b k) (eth b.edges k).f) (eth b.edges k).g := by simp [bnU, hm]
    have q2 : collect (cxF m) (k + 1) = collect (cxF m) k ++ [(k : Int)] := collect_some (by simp [cxF, hm])
    have q3 := collect_len (f := cxF m) (k := k)
    simp [f3, f4, f5, f6, f9, f10, f41, f42, o0, o1, o2, o3, n1, n2, n3, n4, n5, o384, o385, hc, hm]
    refine kApp_grow (ts := [.int .i64 k]) rfl (hE.keep fun g => by simp) (by omega) rfl (by omega) (by omega) fun E hE2 hob hcnt => ?_
    obtain ⟨w, hu⟩ := hE2.one
    rw [hu] at hE2
    have hB2 := hB.keep (ob' := E.ob) fun g => by rw [hob _ _ (by decide)]; simp
    simp [f3, f4, f5, f6, f9, f10, f41, f42, o0, o1, o2, o3, n1, n2, n3, n4, n5, o384, o385, hc, hm, hob, hcnt, hu]
    generalize hg : S.cnt 772 = g772
    have u1 := ubn k
    have u2 := bnS_len (m := m) (l := bnU m b k) (x := (eth b.edges k).f)
    refine loopW_count 64 2 (fun j S' => S'.fr 3 = .one (.ptr (0, 0) 0) ∧ S'.fr 4 = .one (.ptr (1, 0) 0) ∧ S'.fr 5 = .one (.ptr (2, 0) 0) ∧ S'.fr 6 = .one (.ptr (3, 0) 0) ∧ S'.fr 9 = .one (.ptr (384, 0) 0) ∧ S'.fr 10 = .one (.ptr (385, 0) 0) ∧ S'.fr 41 = .one (.t (edgs b.edges)) ∧ S'.fr 42 = .one (.t (.int .i64 b.edges.length)) ∧ S'.fr 43 = .one (.t (.int .i64 k)) ∧ S'.fr 62 = .one (.row (772, g772)) ∧ S'.fr 63 = .one (.t (.int .i64 2)) ∧
      S'.ob (0, 0) = some (bx 25 (a.v.2.map .t)) ∧ S'.ob (1, 0) = some (bx 25 (b.v.2.map .t)) ∧ S'.ob (2, 0) = some (bx 27 (m.v.2.map .t)) ∧ S'.ob (3, 0) = some (bx 29 [.nil, .nil, .nil, .nil, .nil, .nil, .nil, .nil, .nil, .nil, .nil, .nil, .nil, .nil, .nil, .nil]) ∧ S'.cnt 1799 = 0 ∧ S'.cnt 1800 = 0 ∧ S'.cnt 1991 = 0 ∧ S'.cnt 1992 = 0 ∧ S'.cnt 2176 = 0 ∧
      S'.ob (772, g772) = some ⟨true, true, false, 1, 2, 3, [.t (.int .i64 (eth b.edges k).f), .t (.int .i64 (eth b.edges k).g)]⟩ ∧
      ∃ vB, S'.ob (384, 0) = some (bx 63 [vB, .nil]) ∧ S'.ob (385, 0) = some (bx 63 [.nil, w]) ∧ outR 1092 3 1 (bnV m (bnU m b k) (eth b.edges k).f (eth b.edges k).g j).length ((bnV m (bnU m b k) (eth b.edges k).f (eth b.edges k).g j).map (.int .i64)) S'.ob (.one vB) ∧ outR 708 3 1 ((collect (cxF m) k).length + 1) ((collect (cxF m) k).map (.int .i64) ++ [.int .i64 k]) S'.ob (.one w)) (by omega) ?_ ?_ ?_
    · simp [f3, f4, f5, f6, f9, f10, f41, f42, o0, o1, o2, o3, n1, n2, n3, n4, n5, o384, o385, hob, hcnt, bnV, hc]
      exact ⟨hB2.keep fun g => by simp, outR.keep hE2 fun g => by simp⟩
    · rintro j S' hlt' hw' hc' ⟨f3, f4, f5, f6, f9, f10, f41, f42, f43, f62, f63, o0, o1, o2, o3, n1, n2, n3, n4, n5, o772, vB, o384, o385, hB, hE2⟩
      have hk : j = 0 ∨ j = 1 := by omega
      rcases hk with rfl | rfl
      · simp at hc' hw'
        have z0 : bnV m (bnU m b k) (eth b.edges k).f (eth b.edges k).g 0 = bnU m b k := by simp [bnV]
        rw [z0] at hB
        have zl : (bnU m b k).length ≤ 1000 := by omega
        obtain ⟨L, hL⟩ : ∃ L, L = bnU m b k := ⟨_, rfl⟩
        rw [← hL] at hB zl
        have z1 : bnV m (bnU m b k) (eth b.edges k).f (eth b.edges k).g (0 + 1) = bnS m L (eth b.edges k).f := by rw [hL]; simp [bnV]
        simp [f3, f4, f5, f6, f9, f10, f41, f42, f43, f62, f63, o0, o1, o2, o3, n1, n2, n3, n4, n5, o772, o384, o385, hc']
        refine callS_tree (index_ok m.nodes (eth b.edges k).f tm.1.small) ?_ ?_ ?_
        · rfl
        · rfl
        by_cases hx : 0 ≤ idx m.nodes (eth b.edges k).f
        case neg =>
          have z2 : bnS m L (eth b.edges k).f = L := by simp [bnS, hx]
          rw [z2] at z1
          rw [show (0 + 1 : Nat) = 1 from rfl] at z1
          simp [f3, f4, f5, f6, f9, f10, f41, f42, f43, f62, f63, o0, o1, o2, o3, n1, n2, n3, n4, n5, o772, o384, o385, hc', hw', hx, z1]
          exact ⟨hB.keep fun g => by simp, hE2.keep fun g => by simp⟩
        simp [f3, f4, f5, f6, f9, f10, f41, f42, f43, f62, f63, o0, o1, o2, o3, n1, n2, n3, n4, n5, o772, o384, o385, hc', hx]
        refine callS_tree (contains_ok L (idx m.nodes (eth b.edges k).f) (by show _ ≤ _; omega)) ?_ ?_ ?_
        · exact argTrees_row hB _ _
        · rfl
        by_cases hy : idx m.nodes (eth b.edges k).f ∈ L
        · have z2 : bnS m L (eth b.edges k).f = L := by simp [bnS, hy]
          rw [z2] at z1
          rw [show (0 + 1 : Nat) = 1 from rfl] at z1
          simp [f3, f4, f5, f6, f9, f10, f41, f42, f43, f62, f63, o0, o1, o2, o3, n1, n2, n3, n4, n5, o772, o384, o385, hc', hw', hx, hy, z1]
          exact ⟨hB.keep fun g => by simp, hE2.keep fun g => by simp⟩
        have z2 : bnS m L (eth b.edges k).f = L ++ [idx m.nodes (eth b.edges k).f] := by simp [bnS, hx, hy]
        rw [z2] at z1
        rw [show (0 + 1 : Nat) = 1 from rfl] at z1
        simp [f3, f4, f5, f6, f9, f10, f41, f42, f43, f62, f63, o0, o1, o2, o3, n1, n2, n3, n4, n5, o772, o384, o385, hc', hw', hx, hy, z1]
        refine kApp_grow (ts := [.int .i64 (idx m.nodes (eth b.edges k).f)]) rfl (hB.keep fun g => by simp) (by omega) rfl (by omega) (by omega) fun E3 hE3 hob3 hcnt3 => ?_
        obtain ⟨u, hu3⟩ := hE3.one
        rw [hu3] at hE3
        have hE4 := hE2.keep (ob' := E3.ob) fun g => by rw [hob3 _ _ (by decide)]; simp
        simp [f3, f4, f5, f6, f9, f10, f41, f42, f43, f62, f63, o0, o1, o2, o3, n1, n2, n3, n4, n5, o772, o384, o385, hc', hw', hob3, hcnt3, hu3, z1]
        exact ⟨outR.keep (by simpa using hE3) fun g => by simp, outR.keep hE4 fun g => by simp⟩
      · simp at hc' hw'
        have z0 : bnV m (bnU m b k) (eth b.edges k).f (eth b.edges k).g 1 = bnS m (bnU m b k) (eth b.edges k).f := by simp [bnV]
        rw [z0] at hB
        have zl : (bnS m (bnU m b k) (eth b.edges k).f).length ≤ 1000 := by omega
        obtain ⟨L, hL⟩ : ∃ L, L = bnS m (bnU m b k) (eth b.edges k).f := ⟨_, rfl⟩
        rw [← hL] at hB zl
        have z1 : bnV m (bnU m b k) (eth b.edges k).f (eth b.edges k).g (1 + 1) = bnS m L (eth b.edges k).g := by rw [hL]; simp [bnV]
        simp [f3, f4, f5, f6, f9, f10, f41, f42, f43, f62, f63, o0, o1, o2, o3, n1, n2, n3, n4, n5, o772, o384, o385, hc']
        refine callS_tree (index_ok m.nodes (eth b.edges k).g tm.1.small) ?_ ?_ ?_
        · rfl
        · rfl
        by_cases hx : 0 ≤ idx m.nodes (eth b.edges k).g
        case neg =>
          have z2 : bnS m L (eth b.edges k).g = L := by simp [bnS, hx]
          rw [z2] at z1
          rw [show (1 + 1 : Nat) = 2 from rfl] at z1
          simp [f3, f4, f5, f6, f9, f10, f41, f42, f43, f62, f63, o0, o1, o2, o3, n1, n2, n3, n4, n5, o772, o384, o385, hc', hw', hx, z1]
          exact ⟨hB.keep fun g => by simp, hE2.keep fun g => by simp⟩
        simp [f3, f4, f5, f6, f9, f10, f41, f42, f43, f62, f63, o0, o1, o2, o3, n1, n2, n3, n4, n5, o772, o384, o385, hc', hx]
        refine callS_tree (contains_ok L (idx m.nodes (eth b.edges k).g) (by show _ ≤ _; omega)) ?_ ?_ ?_
        · exact argTrees_row hB _ _
        · rfl
        by_cases hy : idx m.nodes (eth b.edges k).g ∈ L
        · have z2 : bnS m L (eth b.edges k).g = L := by simp [bnS, hy]
          rw [z2] at z1
          rw [show (1 + 1 : Nat) = 2 from rfl] at z1
          simp [f3, f4, f5, f6, f9, f10, f41, f42, f43, f62, f63, o0, o1, o2, o3, n1, n2, n3, n4, n5, o772, o384, o385, hc', hw', hx, hy, z1]
          exact ⟨hB.keep fun g => by simp, hE2.keep fun g => by simp⟩
        have z2 : bnS m L (eth b.edges k).g = L ++ [idx m.nodes (eth b.edges k).g] := by simp [bnS, hx, hy]
        rw [z2] at z1
        rw [show (1 + 1 : Nat) = 2 from rfl] at z1
        simp [f3, f4, f5, f6, f9, f10, f41, f42, f43, f62, f63, o0, o1, o2, o3, n1, n2, n3, n4, n5, o772, o384, o385, hc', hw', hx, hy, z1]
        refine kApp_grow (ts := [.int .i64 (idx m.nodes (eth b.edges k).g)]) rfl (hB.keep fun g => by simp) (by omega) rfl (by omega) (by omega) fun E3 hE3 hob3 hcnt3 => ?_
        obtain ⟨u, hu3⟩ := hE3.one
        rw [hu3] at hE3
        have hE4 := hE2.keep (ob' := E3.ob) fun g => by rw [hob3 _ _ (by decide)]; simp
        simp [f3, f4, f5, f6, f9, f10, f41, f42, f43, f62, f63, o0, o1, o2, o3, n1, n2, n3, n4, n5, o772, o384, o385, hc', hw', hob3, hcnt3, hu3, z1]
        exact ⟨outR.keep (by simpa using hE3) fun g => by simp, outR.keep hE4 fun g => by simp⟩
    · rintro S' hc' ⟨f3, f4, f5, f6, f9, f10, f41, f42, f43, f62, f63, o0, o1, o2, o3, n1, n2, n3, n4, n5, o772, vB, o384, o385, hB, hE2⟩
      have z0 : bnV m (bnU m b k) (eth b.edges k).f (eth b.edges k).g 2 = bnS m (bnS m (bnU m b k) (eth b.edges k).f) (eth b.edges k).g := by simp [bnV]
      rw [z0] at hB
      simp [f3, f4, f5, f6, f9, f10, f41, f42, f43, f62, f63, o0, o1, o2, o3, n1, n2, n3, n4, n5, o772, o384, o385, hc', hw, q1, q2]
      exact ⟨hB, hE2⟩
  · rintro S hc ⟨f3, f4, f5, f6, f9, f10, f41, f42, o0, o1, o2, o3, n1, n2, n3, n4, n5, vB, vE, o384, o385, hB, hE⟩
    have ub := ubn b.edges.length
    have eX : collect (cxF m) b.edges.length = cxL m b := rfl
    rw [eX] at hE
    simp [f3, f4, f5, f6, f9, f10, f41, f42, o0, o1, o2, o3, n1, n2, n3, n4, n5, o384, o385, hc]
    refine callS_sortL sortSaid (nms := [1092]) hB.outL (by omega) fun ob1 hB1 hob1 => ?_
    have hS : (bnU m b b.edges.length).mergeSort (fun x y => decide (x ≤ y)) = bndL m b := rfl
    rw [hS] at hB1
    have hB2 := hB1.outR
    have hE2 := hE.keep (ob' := ob1) fun g => hob1 _ _ (by decide)
    have p0 : ob1 (0, 0) = S.ob (0, 0) := hob1 _ _ (by decide)
    have p1 : ob1 (1, 0) = S.ob (1, 0) := hob1 _ _ (by decide)
    have p2 : ob1 (2, 0) = S.ob (2, 0) := hob1 _ _ (by decide)
    have p3 : ob1 (3, 0) = S.ob (3, 0) := hob1 _ _ (by decide)
    have p4 : ob1 (384, 0) = S.ob (384, 0) := hob1 _ _ (by decide)
    have p5 : ob1 (385, 0) = S.ob (385, 0) := hob1 _ _ (by decide)
    rw [o0] at p0
    rw [o1] at p1
    rw [o2] at p2
    rw [o3] at p3
    rw [o384] at p4
    rw [o385] at p5
    clear hB hE hB1
    have lB : (bndL m b).length ≤ 160 := by rw [bndL, List.length_mergeSort]; omega
    simp [f3, f4, f5, f6, f9, f10, f41, f42, p0, p1, p2, p3, p4, p5, hc]
    refine loopW_count 95 b.nodes.length (fun k S => S.fr 3 = .one (.ptr (0, 0) 0) ∧ S.fr 4 = .one (.ptr (1, 0) 0) ∧ S.fr 5 = .one (.ptr (2, 0) 0) ∧ S.fr 6 = .one (.ptr (3, 0) 0) ∧ S.fr 9 = .one (.ptr (384, 0) 0) ∧ S.fr 10 = .one (.ptr (385, 0) 0) ∧ S.fr 94 = .one (.t (.int .i64 b.nodes.length)) ∧
      S.ob (0, 0) = some (bx 25 (a.v.2.map .t)) ∧ S.ob (1, 0) = some (bx 25 (b.v.2.map .t)) ∧ S.ob (2, 0) = some (bx 27 (m.v.2.map .t)) ∧ S.ob (3, 0) = some (bx 29 [.nil, .nil, .nil, .nil, .nil, .nil, .nil, .nil, .nil, .nil, .nil, .nil, .nil, .nil, .nil, .nil]) ∧ S.cnt 1799 = 0 ∧ S.cnt 1800 = 0 ∧ S.cnt 1991 = 0 ∧ S.cnt 1992 = 0 ∧ S.cnt 2176 = 0 ∧
      S.ob (384, 0) = some (bx 63 [vB, .nil]) ∧ outR 1092 3 1 (bndL m b).length ((bndL m b).map (.int .i64)) S.ob (.one vB) ∧ outR 708 3 1 (cxL m b).length ((cxL m b).map (.int .i64)) S.ob (.one vE) ∧
      ∃ vN, S.ob (385, 0) = some (bx 63 [vN, vE]) ∧ outR 1668 3 1 (collect (cnF m (bndL m b)) k).length ((collect (cnF m (bndL m b)) k).map (.int .i64)) S.ob (.one vN)) (by omega) ?_ ?_ ?_
    · simp [f3, f4, f5, f6, f9, f10, f41, f42, p0, p1, p2, p3, p4, p5, n1, n2, n3, n4, n5, collect_zero, outR_nil]
      exact ⟨by simpa using hB2, by simpa using hE2⟩
    · rintro k S hlt hw hc ⟨f3, f4, f5, f6, f9, f10, f94, o0, o1, o2, o3, n1, n2, n3, n4, n5, o384, hB, hE, vN, o385, hN⟩
      have q3 := collect_len (f := cnF m (bndL m b)) (k := k)
      simp [f3, f4, f5, f6, f9, f10, f94, o0, o1, o2, o3, n1, n2, n3, n4, n5, o384, o385, hc, hlt]
      refine callS_tree (index_ok m.nodes k tm.1.small) ?_ ?_ ?_
      · rfl
      · rfl
      have fin : cnF m (bndL m b) k = some (k : Int) → ∀ E : Eff, outR 1668 3 1 ((collect (cnF m (bndL m b)) k).length + 1) ((collect (cnF m (bndL m b)) k).map (.int .i64) ++ [.int .i64 k]) E.ob E.v → True := fun _ _ _ => trivial
      by_cases hx : idx m.nodes k < 0
      · have q1 : collect (cnF m (bndL m b)) (k + 1) = collect (cnF m (bndL m b)) k ++ [(k : Int)] := collect_some (by simp [cnF, hx])
        simp [f3, f4, f5, f6, f9, f10, f94, o0, o1, o2, o3, n1, n2, n3, n4, n5, o384, o385, hc, hx]
        refine kApp_grow (ts := [.int .i64 k]) rfl (hN.keep fun g => by simp) (by omega) rfl (by omega) (by omega) fun E3 hE3 hob3 hcnt3 => ?_
        obtain ⟨u, hu3⟩ := hE3.one
        rw [hu3] at hE3
        have hE4 := hE.keep (ob' := E3.ob) fun g => by rw [hob3 _ _ (by decide)]; simp
        have hB4 := hB.keep (ob' := E3.ob) fun g => by rw [hob3 _ _ (by decide)]; simp
        simp [f3, f4, f5, f6, f9, f10, f94, o0, o1, o2, o3, n1, n2, n3, n4, n5, o384, o385, hc, hw, hob3, hcnt3, hu3, q1]
        exact ⟨outR.keep (by simpa using hB4) fun g => by simp, outR.keep (by simpa using hE4) fun g => by simp, outR.keep (by simpa using hE3) fun g => by simp⟩
      simp [f3, f4, f5, f6, f9, f10, f94, o0, o1, o2, o3, n1, n2, n3, n4, n5, o384, o385, hc, hx]
      refine callS_tree (contains_ok (bndL m b) (idx m.nodes k) (by show _ ≤ _; omega)) ?_ ?_ ?_
      · exact argTrees_row hB _ _
      · rfl
      by_cases hy : idx m.nodes k ∈ bndL m b
      · have q1 : collect (cnF m (bndL m b)) (k + 1) = collect (cnF m (bndL m b)) k ++ [(k : Int)] := collect_some (by simp [cnF, hy])
        simp [f3, f4, f5, f6, f9, f10, f94, o0, o1, o2, o3, n1, n2, n3, n4, n5, o384, o385, hc, hx, hy]
        refine kApp_grow (ts := [.int .i64 k]) rfl (hN.keep fun g => by simp) (by omega) rfl (by omega) (by omega) fun E3 hE3 hob3 hcnt3 => ?_
        obtain ⟨u, hu3⟩ := hE3.one
        rw [hu3] at hE3
        have hE4 := hE.keep (ob' := E3.ob) fun g => by rw [hob3 _ _ (by decide)]; simp
        have hB4 := hB.keep (ob' := E3.ob) fun g => by rw [hob3 _ _ (by decide)]; simp
        simp [f3, f4, f5, f6, f9, f10, f94, o0, o1, o2, o3, n1, n2, n3, n4, n5, o384, o385, hc, hw, hob3, hcnt3, hu3, q1]
        exact ⟨outR.keep (by simpa using hB4) fun g => by simp, outR.keep (by simpa using hE4) fun g => by simp, outR.keep (by simpa using hE3) fun g => by simp⟩
      · have q1 : collect (cnF m (bndL m b)) (k + 1) = collect (cnF m (bndL m b)) k := collect_none (by simp [cnF, hy, hx])
        simp [f3, f4, f5, f6, f9, f10, f94, o0, o1, o2, o3, n1, n2, n3, n4, n5, o384, o385, hc, hw, hx, hy, q1]
        exact ⟨by simpa using hB, by simpa using hE, by simpa using hN⟩
    · rintro S hc ⟨f3, f4, f5, f6, f9, f10, f94, o0, o1, o2, o3, n1, n2, n3, n4, n5, o384, hB, hE, vN, o385, hN⟩
      have eX : collect (cnF m (bndL m b)) b.nodes.length = cnL m b := rfl
      rw [eX] at hN
      have cl : (cnL m b).length ≤ 40 := by have := collect_len (f := cnF m (bndL m b)) (k := b.nodes.length); rw [eX] at this; omega
      have cl2 : (cxL m b).length ≤ 80 := by have : (cxL m b).length ≤ b.edges.length := collect_len; omega
      have r1 := sextract_ok a (inB m b) ta ⟨by show _ ≤ _; simp only [inB]; omega, by show _ ≤ _; simp [inB]⟩
      have r2 := sextract_ok b (inC m b) tb ⟨by show _ ≤ _; simp only [inC]; omega, by show _ ≤ _; simp only [inC]; omega⟩
      have e1 : exR a (inB m b) = (exG a (inB m b), inB m b, 0) := by rw [exR, if_pos (inB_ok (mor_g h1).1 l1)]
      have e2 : exR b (inC m b) = (exG b (inC m b), inC m b, 0) := by rw [exR, if_pos (inC_ok (mor_g h1).2)]
      rw [e1] at r1
      rw [e2] at r2
      simp [f3, f4, f5, f6, f9, f10, f94, o0, o1, o2, o3, n1, n2, n3, n4, n5, o384, o385, hc]
      refine callS_part r1 (fun ob cnt => ⟨rfl, rfl⟩) hB (outR_nil (nm := 9999) (typ := 0) (esz := 1)) (by decide) fun ob1 hB1 _ hob1 => ?_
      have p0 : ob1 (0, 0) = S.ob (0, 0) := hob1 _ _ (by decide) (by decide)
      have p1 : ob1 (1, 0) = S.ob (1, 0) := hob1 _ _ (by decide) (by decide)
      have p2 : ob1 (2, 0) = S.ob (2, 0) := hob1 _ _ (by decide) (by decide)
      have p3 : ob1 (3, 0) = S.ob (3, 0) := hob1 _ _ (by decide) (by decide)
      have p4 : ob1 (384, 0) = S.ob (384, 0) := hob1 _ _ (by decide) (by decide)
      have p5 : ob1 (385, 0) = S.ob (385, 0) := hob1 _ _ (by decide) (by decide)
      rw [o0] at p0
      rw [o1] at p1
      rw [o2] at p2
      rw [o3] at p3
      rw [o384] at p4
      rw [o385] at p5
      have hE1 := hE.keep (ob' := ob1) fun g => hob1 _ _ (by decide) (by decide)
      have hN1 := hN.keep (ob' := ob1) fun g => hob1 _ _ (by decide) (by decide)
      clear hob1 hB hE hN
      simp [f3, f4, f5, f6, f9, f10, f94, n1, n2, n3, n4, n5, p0, p1, p2, p3, p4, p5, exT]
      refine callS_part r2 (fun ob cnt => ⟨rfl, rfl⟩) (hN1.keep fun g => by simp) (hE1.keep fun g => by simp) (by decide) fun ob2 hN2 hE2 hob2 => ?_
      have z0 : ob2 (0, 0) = some (bx 25 (a.v.2.map .t)) := by rw [hob2 _ _ (by decide) (by decide)]; simp [p0]
      have z1 : ob2 (1, 0) = some (bx 25 (b.v.2.map .t)) := by rw [hob2 _ _ (by decide) (by decide)]; simp [p1]
      have z2 : ob2 (2, 0) = some (bx 27 (m.v.2.map .t)) := by rw [hob2 _ _ (by decide) (by decide)]; simp [p2]
      have z3 : ob2 (3, 0) = some (bx 29 [.nil, .nil, .nil, .nil, .nil, .nil, .nil, .nil, .nil, .nil, .nil, .nil, .nil, .nil, .nil, .nil]) := by rw [hob2 _ _ (by decide) (by decide)]; simp [p3]
      have z4 : ob2 (384, 0) = some (bx 63 [vB, .nil]) := by rw [hob2 _ _ (by decide) (by decide)]; simp [p4]
      have z5 : ob2 (385, 0) = some (bx 63 [vN, vE]) := by rw [hob2 _ _ (by decide) (by decide)]; simp [p5]
      have z6 : ob2 (1799, 0) = some (bx 25 ((exG a (inB m b)).v.2.map .t)) := by rw [hob2 _ _ (by decide) (by decide)]; simp [p5]
      have z7 : ob2 (1800, 0) = some (bx 27 ((inB m b).v.2.map .t)) := by rw [hob2 _ _ (by decide) (by decide)]; simp [p5]
      have hB2 := hB1.keep (ob' := ob2) fun g => by rw [hob2 _ _ (by decide) (by decide)]; simp
      clear hob2 hB1 hE1 hN1 p0 p1 p2 p3 p4 p5
      have lC : (cnL m b).length ≤ 9000000000000000000 := by omega
      have hr : (sqT (inR a b m)) = .tup [(true, [ints (exG a (inB m b)).nodes, edgs (exG a (inB m b)).edges, ints a.nodes, edgs a.edges, ints (exG b (inC m b)).nodes, edgs (exG b (inC m b)).edges, ints b.nodes, edgs b.edges, ints (inB m b).nodes, ints (inB m b).edges, ints (inG m b), ints [], ints m.nodes, ints m.edges, ints (inC m b).nodes, ints (inC m b).edges]), (false, [.int .i64 0])] := by rw [e]; rfl
      generalize exG a (inB m b) = X at z6 hr ⊢
      generalize exG b (inC m b) = Y at hr ⊢
      have hB6 := hB2
      rcases hB2 with ⟨v1', v2, v3⟩ | ⟨v1, gB, v3, v4⟩
      · have v1 : (bndL m b).length = 0 := v1'
        cases v3
        simp [f3, f4, f5, f6, f9, f10, f94, n1, n2, n3, n4, n5, z0, z1, z2, z3, z4, z5, z6, z7, exT]
        refine loopW_count 142 (bndL m b).length (fun k S => S.fr 3 = .one (.ptr (0, 0) 0) ∧ S.fr 4 = .one (.ptr (1, 0) 0) ∧ S.fr 5 = .one (.ptr (2, 0) 0) ∧ S.fr 6 = .one (.ptr (3, 0) 0) ∧ S.fr 10 = .one (.ptr (385, 0) 0) ∧ S.fr 18 = .one (.ptr (1799, 0) 0) ∧ S.fr 19 = .one (.ptr (1800, 0) 0) ∧ S.fr 21 = .one (.ptr (1991, 0) 0) ∧ S.fr 22 = .one (.ptr (1992, 0) 0) ∧ S.fr 23 = .one (.ptr (2176, 0) 0) ∧ S.fr 140 = .one .nil ∧ S.fr 141 = .one (.t (.int .i64 (bndL m b).length)) ∧
        S.ob (0, 0) = some (bx 25 (a.v.2.map .t)) ∧ S.ob (1, 0) = some (bx 25 (b.v.2.map .t)) ∧ S.ob (2, 0) = some (bx 27 (m.v.2.map .t)) ∧ S.ob (3, 0) = some (bx 29 [.nil, .nil, .nil, .nil, .nil, .nil, .nil, .nil, .nil, .nil, .nil, .nil, .nil, .nil, .nil, .nil]) ∧
        S.ob (385, 0) = some (bx 63 [vN, vE]) ∧ S.ob (1799, 0) = some (bx 25 (X.v.2.map .t)) ∧ S.ob (1800, 0) = some (bx 27 ((inB m b).v.2.map .t)) ∧ S.ob (1991, 0) = some (bx 25 (Y.v.2.map .t)) ∧ S.ob (1992, 0) = some (bx 27 ((inC m b).v.2.map .t)) ∧
        outF 1668 3 1 (cnL m b).length ((cnL m b).map (.int .i64)) S.ob (.one vN) ∧ outF 1092 3 1 (bndL m b).length ((bndL m b).map (.int .i64)) S.ob (.one .nil) ∧
        ∃ vG, S.ob (2176, 0) = some (bx 27 [vG, .nil]) ∧ outR 2443 3 1 (inK m b k).length ((inK m b k).map (.int .i64)) S.ob (.one vG)) (by omega) ?_ ?_ ?_
        · simp [f3, f4, f5, f6, f9, f10, f94, n1, n2, n3, n4, n5, z0, z1, z2, z3, z4, z5, z6, z7, inB, v1]
          refine ⟨hN2.keep fun g => by simp, .inl ⟨by first | exact v1 | rfl, v2, rfl⟩, outR_inK⟩
        · rintro k S hlt hw hc ⟨f3, f4, f5, f6, f10, f18, f19, f21, f22, f23, f140, f141, z0, z1, z2, z3, z5, z6, z7, z8, z9, hN2, hB3, vG, z10, hG⟩
          have ltb : (bndL m b).length = (inB m b).nodes.length := rfl
          omega
        · rintro S hc ⟨f3, f4, f5, f6, f10, f18, f19, f21, f22, f23, f140, f141, z0, z1, z2, z3, z5, z6, z7, z8, z9, hN2, hB3, vG, z10, hG⟩
          rw [inK_all] at hG
          rw [hr]
          rcases hG with ⟨m1, m2, m3⟩ | ⟨m1, g1, m3, m4⟩
          all_goals
            cases m3
            simp [dw0, dw1, dw2, dw3, f3, f4, f5, f6, f10, f18, f19, f21, f22, f23, f140, f141, z0, z1, z2, z3, z5, z6, z7, z8, z9, z10, hc]
            refine dCall_ok (scopied_ok a ta) ?_ ?_ ?_
            · rfl
            · rfl
            simp [dw0, dw1, dw2, dw3, f3, f4, f5, f6, f10, f18, f19, f21, f22, f23, f140, f141, z0, z1, z2, z3, z5, z6, z7, z8, z9, z10, hc]
            refine dCall_ok (scopied_ok b tb) ?_ ?_ ?_
            · rfl
            · rfl
            simp [dw0, dw1, dw2, dw3, f3, f4, f5, f6, f10, f18, f19, f21, f22, f23, f140, f141, z0, z1, z2, z3, z5, z6, z7, z8, z9, z10, hc]
            refine dCall_ok (arrow_ok m tm) ?_ ?_ ?_
            · rfl
            · rfl
          · have gg : inG m b = [] := List.eq_nil_of_length_eq_zero m1
            simp [dw0, dw1, dw2, dw3, f3, f4, f5, f6, f10, f18, f19, f21, f22, f23, f140, f141, z0, z1, z2, z3, z5, z6, z7, z8, z9, z10, hc, gg]
            rfl
          · simp [dw0, dw1, dw2, dw3, f3, f4, f5, f6, f10, f18, f19, f21, f22, f23, f140, f141, z0, z1, z2, z3, z5, z6, z7, z8, z9, z10, hc, m4, untreeT, untreeI]
            rfl
      · cases v3
        simp [f3, f4, f5, f6, f9, f10, f94, n1, n2, n3, n4, n5, z0, z1, z2, z3, z4, z5, z6, z7, v4, exT]
        refine loopW_count 142 (bndL m b).length (fun k S => S.fr 3 = .one (.ptr (0, 0) 0) ∧ S.fr 4 = .one (.ptr (1, 0) 0) ∧ S.fr 5 = .one (.ptr (2, 0) 0) ∧ S.fr 6 = .one (.ptr (3, 0) 0) ∧ S.fr 10 = .one (.ptr (385, 0) 0) ∧ S.fr 18 = .one (.ptr (1799, 0) 0) ∧ S.fr 19 = .one (.ptr (1800, 0) 0) ∧ S.fr 21 = .one (.ptr (1991, 0) 0) ∧ S.fr 22 = .one (.ptr (1992, 0) 0) ∧ S.fr 23 = .one (.ptr (2176, 0) 0) ∧ S.fr 140 = .one (.row (1092, gB)) ∧ S.fr 141 = .one (.t (.int .i64 (bndL m b).length)) ∧
        S.ob (0, 0) = some (bx 25 (a.v.2.map .t)) ∧ S.ob (1, 0) = some (bx 25 (b.v.2.map .t)) ∧ S.ob (2, 0) = some (bx 27 (m.v.2.map .t)) ∧ S.ob (3, 0) = some (bx 29 [.nil, .nil, .nil, .nil, .nil, .nil, .nil, .nil, .nil, .nil, .nil, .nil, .nil, .nil, .nil, .nil]) ∧
        S.ob (385, 0) = some (bx 63 [vN, vE]) ∧ S.ob (1799, 0) = some (bx 25 (X.v.2.map .t)) ∧ S.ob (1800, 0) = some (bx 27 ((inB m b).v.2.map .t)) ∧ S.ob (1991, 0) = some (bx 25 (Y.v.2.map .t)) ∧ S.ob (1992, 0) = some (bx 27 ((inC m b).v.2.map .t)) ∧
        outF 1668 3 1 (cnL m b).length ((cnL m b).map (.int .i64)) S.ob (.one vN) ∧ outF 1092 3 1 (bndL m b).length ((bndL m b).map (.int .i64)) S.ob (.one (.row (1092, gB))) ∧
        ∃ vG, S.ob (2176, 0) = some (bx 27 [vG, .nil]) ∧ outR 2443 3 1 (inK m b k).length ((inK m b k).map (.int .i64)) S.ob (.one vG)) (by omega) ?_ ?_ ?_
        · simp [f3, f4, f5, f6, f9, f10, f94, n1, n2, n3, n4, n5, z0, z1, z2, z3, z4, z5, z6, z7, v4, inB, v1]
          refine ⟨hN2.keep fun g => by simp, hB6.keep fun g => by simp, outR_inK⟩
        · rintro k S hlt hw hc ⟨f3, f4, f5, f6, f10, f18, f19, f21, f22, f23, f140, f141, z0, z1, z2, z3, z5, z6, z7, z8, z9, hN2, hB3, vG, z10, hG⟩
          have ltb : (bndL m b).length = (inB m b).nodes.length := rfl
          obtain ⟨x1, x2⟩ := bndL_in (nth_mem hlt)
          obtain ⟨x, hx⟩ := Int.eq_ofNat_of_zero_le x1
          have hx2 : x < m.nodes.length := by omega
          have zk := inK_len (m := m) (b := b) (k := k) (by omega)
          have zs := inK_succ hlt
          rw [hx, Int.toNat_natCast] at zs
          have hB4 := hB3
          rcases hB4 with ⟨w1, _, _⟩ | ⟨w1, gB', w3, w4⟩
          · omega
          cases w3
          have hG0 := hG
          have hN0 := hN2
          rcases hG with ⟨m1, m2, m3⟩ | ⟨m1, g1, m3, m4⟩ <;> rcases hN0 with ⟨t1, t2, t3⟩ | ⟨t1, g2, t3, t4⟩
          all_goals
            cases m3
            cases t3
            simp [dw0, dw1, dw2, dw3, f3, f4, f5, f6, f10, f18, f19, f21, f22, f23, f140, f141, z0, z1, z2, z3, z5, z6, z7, z8, z9, z10, hc, hlt, (show k + 1 ≤ (bndL m b).length from hlt), w4, drop_nthR hlt, hx, hx2, drop_nth hx2]
            refine dCall_ok (index_ok (cnL m b) (nth m.nodes x) lC) ?_ ?_ ?_
            · exact argTrees_rowF hN2 _ _
            · rfl
            simp [dw0, dw1, dw2, dw3, f3, f4, f5, f6, f10, f18, f19, f21, f22, f23, f140, f141, z0, z1, z2, z3, z5, z6, z7, z8, z9, z10, hc]
            refine kApp_grow (ts := [.int .i64 (idx (cnL m b) (nth m.nodes x))]) rfl (hG0.keep fun g => by simp) (by omega) rfl (by omega) (by omega) fun E3 hE3 hob3 hcnt3 => ?_
            obtain ⟨u, hu3⟩ := hE3.one
            rw [hu3] at hE3
            have hN4 := hN2.keep (ob' := E3.ob) fun g => by rw [hob3 _ _ (by decide)]; simp
            have hB5 := hB3.keep (ob' := E3.ob) fun g => by rw [hob3 _ _ (by decide)]; simp
            simp [dw0, dw1, dw2, dw3, f3, f4, f5, f6, f10, f18, f19, f21, f22, f23, f140, f141, z0, z1, z2, z3, z5, z6, z7, z8, z9, z10, hc, hw, hob3, hcnt3, hu3, zs]
            refine ⟨rfl, ?_⟩
            try simp [f3, f4, f5, f6, f10, f18, f19, f21, f22, f23, f140, f141, z0, z1, z2, z3, z5, z6, z7, z8, z9, z10, hc, hw, hob3, hcnt3, hu3, zs]
            exact ⟨hN4.keep fun g => by simp, hB5.keep fun g => by simp, outR.keep (by simpa using hE3) fun g => by simp⟩
        · rintro S hc ⟨f3, f4, f5, f6, f10, f18, f19, f21, f22, f23, f140, f141, z0, z1, z2, z3, z5, z6, z7, z8, z9, hN2, hB3, vG, z10, hG⟩
          rw [inK_all] at hG
          rw [hr]
          rcases hG with ⟨m1, m2, m3⟩ | ⟨m1, g1, m3, m4⟩
          all_goals
            cases m3
            simp [dw0, dw1, dw2, dw3, f3, f4, f5, f6, f10, f18, f19, f21, f22, f23, f140, f141, z0, z1, z2, z3, z5, z6, z7, z8, z9, z10, hc]
            refine dCall_ok (scopied_ok a ta) ?_ ?_ ?_
            · rfl
            · rfl
            simp [dw0, dw1, dw2, dw3, f3, f4, f5, f6, f10, f18, f19, f21, f22, f23, f140, f141, z0, z1, z2, z3, z5, z6, z7, z8, z9, z10, hc]
            refine dCall_ok (scopied_ok b tb) ?_ ?_ ?_
            · rfl
            · rfl
            simp [dw0, dw1, dw2, dw3, f3, f4, f5, f6, f10, f18, f19, f21, f22, f23, f140, f141, z0, z1, z2, z3, z5, z6, z7, z8, z9, z10, hc]
            refine dCall_ok (arrow_ok m tm) ?_ ?_ ?_
            · rfl
            · rfl
          · have gg : inG m b = [] := List.eq_nil_of_length_eq_zero m1
            simp [dw0, dw1, dw2, dw3, f3, f4, f5, f6, f10, f18, f19, f21, f22, f23, f140, f141, z0, z1, z2, z3, z5, z6, z7, z8, z9, z10, hc, gg]
            rfl
          · simp [dw0, dw1, dw2, dw3, f3, f4, f5, f6, f10, f18, f19, f21, f22, f23, f140, f141, z0, z1, z2, z3, z5, z6, z7, z8, z9, z10, hc, m4, untreeT, untreeI]
            rfl
end Go.Proofs.YthcnpnogfblkcaaGreat

/- The graph of a part and its inclusion; the initial pushout is a pushout and a pullback. No program in sight. -/
namespace Go.Proofs.YthcnpnogfblkcaaGreat
open Abs Po
set_option linter.unusedSimpArgs false
set_option linter.unusedVariables false

/-- The inclusion of a part. -/
theorem ex_mor {g : Gr} {p : Pa} (h : SubOk g p) : MorOk (exG g p) g p := by
  have ln := asc_len h.an h.rn
  have le := asc_len h.ae h.re
  have g1 := h.gr.n
  have g2 := h.gr.e
  have nn : ∀ i, i < p.nodes.length → nth (exG g p).nodes i = nth g.nodes (nth p.nodes i).toNat := fun i hi => by
    rw [nth_eq (by simp [exG]; exact hi), nth_eq hi]
    simp [exG]
  have ee : ∀ i, i < p.edges.length → eth (exG g p).edges i = exD g p (nth p.edges i) := fun i hi => by
    rw [eth_eq (by simp [exG]; exact hi), nth_eq hi]
    simp [exG]
  have l1 : p.nodes.length = (exG g p).nodes.length := by simp [exG]
  have l2 : p.edges.length = (exG g p).edges.length := by simp [exG]
  refine ⟨⟨by rw [← l1]; omega, by rw [← l2]; omega, fun x hx => ?_, fun e he => ?_⟩, h.gr, l1, l2, fun i hi => ?_, fun i hi => ?_⟩
  · obtain ⟨i, hi, rfl⟩ := mem_nth hx
    rw [← l1] at hi
    rw [nn i hi]
    have := h.rn _ (nth_mem hi)
    exact h.gr.kinds _ (nth_mem (by omega))
  · obtain ⟨i, hi, rfl⟩ := mem_eth he
    rw [← l2] at hi
    have hm := nth_mem hi
    have := h.re _ hm
    obtain ⟨d1, d2⟩ := h.de _ hm
    obtain ⟨t1, t2, _⟩ := h.gr.edges _ (eth_mem (l := g.edges) (k := (nth p.edges i).toNat) (by omega))
    have a1 := idx_lt d1
    have a2 := idx_lt d2
    rw [ee i hi, exD, ← l1]
    exact ⟨t1, t2, a1.1, a1.2.1, a2.1, a2.2.1⟩
  · rw [← l1] at hi
    have := h.rn _ (nth_mem hi)
    exact ⟨this.1, this.2, (nn i hi).symm⟩
  · rw [← l2] at hi
    have hm := nth_mem hi
    have := h.re _ hm
    obtain ⟨d1, d2⟩ := h.de _ hm
    have a1 := idx_lt d1
    have a2 := idx_lt d2
    rw [ee i hi, exD]
    exact ⟨this.1, this.2, rfl, a1.2.2, a2.2.2⟩
theorem asc_nodup {l : List Int} (h : Asc l) : l.Nodup := by
  rw [List.nodup_iff_pairwise_ne]
  exact (asc_iff.1 h).imp fun h => by omega

theorem fn_inj {l : List Int} {n m : Nat} (hl : l.length = n) (pl : placesIn l m) (h : l.Nodup) {i j : Nat} (hi : i < n) (hj : j < n) (e : fn l i = fn l j) : i = j := (nodup_fn hl pl).1 h i j hi hj e
theorem fn_idx {l : List Int} {x : Int} (h : x ∈ l) : (idx l x).toNat < l.length ∧ nth l (idx l x).toNat = x := by
  have := idx_lt h
  exact ⟨by omega, this.2.2⟩
theorem idx_nth {l : List Int} (h : l.Nodup) {i : Nat} (hi : i < l.length) : idx l (nth l i) = i := by
  have h1 := idx_lt (nth_mem hi)
  obtain ⟨j, hj⟩ := Int.eq_ofNat_of_zero_le h1.1
  have h3 := h1.2.2
  have h4 := h1.2.1
  rw [hj, Int.toNat_natCast] at h3
  rw [hj] at h4 ⊢
  rw [List.nodup_iff_pairwise_ne, List.pairwise_iff_getElem] at h
  rw [nth_eq (by omega), nth_eq hi] at h3
  rcases Nat.lt_trichotomy i j with e | e | e
  · exact absurd h3.symm (h i j hi (by omega) e)
  · rw [e]
  · exact absurd h3 (h j i (by omega) hi e)

section initial
variable {a b : Gr} {m : Pa}
/-- The initial pushout over an injective morphism is a pushout and a pullback. -/
theorem in_sq (h1 : morErr a b m = 0) (h2 : injB a b m = true) : sqErr (inS a b m) = 0 ∧ commB (inS a b m) = true ∧ SqPO (inS a b m) ∧ SqPB (inS a b m) := by
  have mo := mor_ok h1
  have mn : m.nodes.Nodup := by simp [injB] at h2; exact h2.1.2
  have me : m.edges.Nodup := by simp [injB] at h2; exact h2.2
  have sB := sub_of (inB_ok (b := b) (mor_g h1).1 mo.ln)
  have sC := sub_of (inC_ok (m := m) (mor_g h1).2)
  have F := ex_mor sB
  have K := ex_mor sC
  have lA : (exG a (inB m b)).nodes.length = (bndL m b).length := by simp [exG, inB]
  have lAe : (exG a (inB m b)).edges.length = 0 := by simp [exG, inB]
  have lC : (exG b (inC m b)).nodes.length = (cnL m b).length := by simp [exG, inC]
  have lCe : (exG b (inC m b)).edges.length = (cxL m b).length := by simp [exG, inC]
  have nB : (bndL m b).Nodup := asc_nodup sB.an
  have nC : (cnL m b).Nodup := asc_nodup sC.an
  have nX : (cxL m b).Nodup := asc_nodup sC.ae
  have pB : placesIn (bndL m b) a.nodes.length := sB.rn
  have pC : placesIn (cnL m b) b.nodes.length := sC.rn
  have pX : placesIn (cxL m b) b.edges.length := sC.re
  have lm := mo.ln
  have le := mo.le
  have incn : ∀ i, i < (bndL m b).length → nth m.nodes (fn (bndL m b) i) ∈ cnL m b := fun i hi => by
    obtain ⟨e1, e2⟩ := fn_at pB hi
    obtain ⟨e3, e4⟩ := fn_at mo.rn (show fn (bndL m b) i < m.nodes.length by omega)
    refine cn_mem.2 ⟨_, e3, e4, .inr ?_⟩
    rw [idx_nth mn (by omega), ← e1]
    exact nth_mem hi
  have gn : ∀ i, i < (bndL m b).length → nth (inG m b) i = idx (cnL m b) (nth m.nodes (fn (bndL m b) i)) := fun i hi => by
    rw [nth_eq (by simp [inG]; exact hi)]
    simp only [inG, List.getElem_map, fn, nth_eq hi]
  have lG : (inG m b).length = (bndL m b).length := by simp [inG]
  have gk : ∀ i, i < (bndL m b).length → fn (inG m b) i < (cnL m b).length ∧ nth (cnL m b) (fn (inG m b) i) = nth m.nodes (fn (bndL m b) i) := fun i hi => by
    have := fn_idx (incn i hi)
    rw [fn, gn i hi]
    exact this
  have pG : placesIn (inG m b) (cnL m b).length := fun x hx => by
    obtain ⟨i, hi, rfl⟩ := mem_nth hx
    rw [lG] at hi
    have := idx_lt (incn i hi)
    rw [gn i hi]
    exact ⟨this.1, this.2.1⟩
  have G : MorOk (exG a (inB m b)) (exG b (inC m b)) ⟨inG m b, []⟩ := by
    refine Hom.ok ⟨?_, ?_, ?_, ?_, fun i hi => ?_, fun i hi => ?_⟩ F.ga K.ga
    · rw [lA]; exact lG
    · rw [lAe]; rfl
    · rw [lC]; exact pG
    · intro x hx; simp at hx
    · rw [lA] at hi
      have f1 := F.hom.kn i (by rw [lA]; exact hi)
      obtain ⟨k1, k2⟩ := gk i hi
      have c1 := K.hom.kn (fn (inG m b) i) (by rw [lC]; exact k1)
      have c2 : fn (cnL m b) (fn (inG m b) i) = fn m.nodes (fn (bndL m b) i) := by rw [fn, k2]; rfl
      have c3 := mo.hom.kn (fn (bndL m b) i) (fn_at pB hi).2
      rw [← c1, ← f1]
      show nth b.nodes (fn (cnL m b) (fn (inG m b) i)) = nth a.nodes (fn (bndL m b) i)
      rw [c2, c3]
    · rw [lAe] at hi; omega
  have cm : ∀ i, i < (bndL m b).length → fn m.nodes (fn (bndL m b) i) = fn (cnL m b) (fn (inG m b) i) := fun i hi => by
    rw [fn, ← (gk i hi).2]; rfl
  have hsq : sqErr (inS a b m) = 0 := sq_zero F G mo K
  have both : ∀ x c, x < a.nodes.length → c < (cnL m b).length → fn m.nodes x = fn (cnL m b) c → ∃ i, i < (bndL m b).length ∧ fn (bndL m b) i = x ∧ fn (inG m b) i = c := fun x c hx hc e => by
    obtain ⟨e1, e2⟩ := fn_at pC hc
    obtain ⟨e3, e4⟩ := fn_at mo.rn (show x < m.nodes.length by omega)
    have hin := nth_mem hc
    obtain ⟨y, hy, hy2, hy3⟩ := cn_mem.1 hin
    have e5 : nth m.nodes x = nth (cnL m b) c := by rw [e1, e3, e]
    rw [← e5] at hy3
    have hm := nth_mem (l := m.nodes) (k := x) (by omega)
    rcases hy3 with h | h
    · exact absurd hm h
    · rw [idx_nth mn (by omega)] at h
      obtain ⟨i, hi, hi2⟩ := mem_nth h
      have b1 : fn (bndL m b) i = x := by rw [fn, hi2]; rfl
      refine ⟨i, hi, b1, ?_⟩
      obtain ⟨k1, k2⟩ := gk i hi
      refine fn_inj rfl pC nC k1 hc ?_
      rw [fn, k2, b1, e5]
      rfl
  have coverN : ∀ d, d < b.nodes.length → (∃ x, x < a.nodes.length ∧ fn m.nodes x = d) ∨ (∃ c, c < (cnL m b).length ∧ fn (cnL m b) c = d) := fun d hd => by
    by_cases h : (d : Int) ∈ m.nodes
    · obtain ⟨x, hx, e⟩ := mem_nth h
      exact .inl ⟨x, by omega, by rw [fn, e]; rfl⟩
    · obtain ⟨c, hc, e⟩ := mem_nth (cn_mem.2 ⟨d, rfl, hd, .inl h⟩ : (d : Int) ∈ cnL m b)
      exact .inr ⟨c, hc, by rw [fn, e]; rfl⟩
  have coverE : ∀ d, d < b.edges.length → (∃ x, x < a.edges.length ∧ fn m.edges x = d) ∨ (∃ c, c < (cxL m b).length ∧ fn (cxL m b) c = d) := fun d hd => by
    by_cases h : (d : Int) ∈ m.edges
    · obtain ⟨x, hx, e⟩ := mem_nth h
      exact .inl ⟨x, by omega, by rw [fn, e]; rfl⟩
    · obtain ⟨c, hc, e⟩ := mem_nth (cx_mem.2 ⟨d, rfl, hd, h⟩ : (d : Int) ∈ cxL m b)
      exact .inr ⟨c, hc, by rw [fn, e]; rfl⟩
  have noE : ∀ x c, x < a.edges.length → c < (cxL m b).length → fn m.edges x = fn (cxL m b) c → False := fun x c hx hc e => by
    obtain ⟨e1, e2⟩ := fn_at pX hc
    obtain ⟨e3, e4⟩ := fn_at mo.re (show x < m.edges.length by omega)
    obtain ⟨y, hy, hy2, hy3⟩ := cx_mem.1 (nth_mem hc)
    have hm := nth_mem (l := m.edges) (k := x) (by omega)
    rw [e3, e, ← e1, hy] at hm
    exact hy3 hm
  refine ⟨hsq, comm_of F G mo K (fun i hi => cm i (by rw [← lA]; exact hi)) (fun i hi => ?_), ⟨?_, ?_⟩, ⟨?_, ?_⟩⟩
  · have : i < (exG a (inB m b)).edges.length := hi
    rw [lAe] at this
    omega
  · show PO (exG a (inB m b)).nodes.length a.nodes.length (exG b (inC m b)).nodes.length b.nodes.length (fn (bndL m b)) (fn (inG m b)) (fn m.nodes) (fn (cnL m b))
    rw [lA, lC]
    exact po_parts cm (fun c c' hc hc' e => fn_inj rfl pC nC hc hc' e) coverN both (fun x y hx hy e => .inl (fn_inj lm mo.rn mn hx hy e))
  · show PO (exG a (inB m b)).edges.length a.edges.length (exG b (inC m b)).edges.length b.edges.length (fn []) (fn []) (fn m.edges) (fn (cxL m b))
    rw [lAe, lCe]
    exact po_parts (fun i hi => absurd hi (by omega)) (fun c c' hc hc' e => fn_inj rfl pX nX hc hc' e) coverE (fun x c hx hc e => (noE x c hx hc e).elim) (fun x y hx hy e => .inl (fn_inj le mo.re me hx hy e))
  · show PB (exG a (inB m b)).nodes.length a.nodes.length (exG b (inC m b)).nodes.length (fn (bndL m b)) (fn (inG m b)) (fn m.nodes) (fn (cnL m b))
    rw [lA, lC]
    exact pb_parts cm (fun i j hi hj e => fn_inj rfl pB nB hi hj e) both
  · show PB (exG a (inB m b)).edges.length a.edges.length (exG b (inC m b)).edges.length (fn []) (fn []) (fn m.edges) (fn (cxL m b))
    rw [lAe, lCe]
    exact pb_parts (fun i hi => absurd hi (by omega)) (fun i j hi hj e => absurd hi (by omega)) (fun x c hx hc e => (noE x c hx hc e).elim)
theorem in_kind (h1 : morErr a b m = 0) (h2 : injB a b m = true) : kindR (inS a b m) = (0, 3) ∨ kindR (inS a b m) = (3, 0) := by
  obtain ⟨k1, k2, k3, k4⟩ := in_sq h1 h2
  have ok := sqErr_ok k1
  rcases un_errs ok.F.gb ok.G.gb with h | h
  · rcases kind_is k1 k2 h with e | e
    · exact .inl e
    · rw [if_pos k3, if_pos k4] at e
      exact .inr e
  · exact .inl (kind_too k1 k2 h)
end initial
end Go.Proofs.YthcnpnogfblkcaaGreat

/- Contracts: the least part with some elements. -/
namespace Go.Proofs.YthcnpnogfblkcaaGreat
open Abs
set_option linter.unusedSimpArgs false
set_option linter.unusedVariables false
attribute [local simp] rn0 rn1 rn2 rn3 rn4 rn5 rn6 rn7 evOp nests Arg.ev St.val St.set St.new sliceOf binInt2 binInt AV.cells rdAt St.live retOf resOf resAll treeOf treeCell treeCells treeTups untree frameOf TV.av TR.av ints edgs prs fillV splice intsOf trees V1.tree bx Gr.v Pa.v opRd opWr opNew opNewR opArgs argsRd argRd Arg.rd AV.refs V1.refs refsL dstL

theorem untree_t (cs : List C) : untree (cs.map .t) = some cs := by
  induction cs with
  | nil => rfl
  | cons c r ih => simp [untree, ih]

/-- Marks, as cells. -/
def markB (g : List Int) (n : Nat) : List C := (List.range n).map fun (i : Nat) => C.bool (decide ((i : Int) ∈ g))
theorem markC_eq {g : List Int} {n : Nat} : markC g n = (markB g n).map .t := by simp [markC, markB]
theorem len_markB {g : List Int} {n : Nat} : (markB g n).length = n := by simp [markB]
theorem drop_markB {g : List Int} {n k : Nat} (h : k < n) : (markB g n).drop k = .bool (decide ((k : Int) ∈ g)) :: (markB g n).drop (k + 1) := by
  rw [List.drop_eq_getElem_cons (by rw [len_markB]; exact h)]
  simp [markB]

def c_marked : MFunc := ⟨20, [.tmp 2], .seq (.region [⟨some 2, .mv (.c (.one .nil)), none⟩]) (.seq (.region [⟨some 3, .mv (.c (.one .nil)), none⟩]) (.seq (.seq (.region [⟨some 4, .mv (.c (.one (.t (.int .i64 0)))), none⟩]) (.block 0 (.loop (.seq (.seq (.region [⟨some 5, .mv (.tmp 4), none⟩, ⟨some 6, .mv (.tmp 0), none⟩, ⟨some 7, .len (.tmp 6), none⟩, ⟨some 8, .bin .lss (.tmp 5) (.tmp 7), none⟩]) (.cond (.tmp 8) .skip (.exit 0))) (.seq (.block 1 (.seq (.region [⟨some 11, .mv (.tmp 0), none⟩, ⟨some 12, .mv (.tmp 4), none⟩, ⟨some 13, .idxA 1 (.tmp 11) (.tmp 12), none⟩, ⟨some 14, .load false 1 (.tmp 13), none⟩]) (.cond (.tmp 14) (.region [⟨some 15, .mv (.tmp 3), none⟩, ⟨some 16, .mv (.tmp 4), none⟩, ⟨some 17, .mkrow 386 3 1 1 [.t (.int .i64 0)] [(0, (1, .tmp 16))], none⟩, ⟨some 18, .append 387 3 1 8 (.tmp 15) (.tmp 17), none⟩, ⟨some 3, .mv (.tmp 18), none⟩]) .skip))) (.region [⟨some 9, .mv (.tmp 4), none⟩, ⟨some 10, .bin .add (.tmp 9) (.c (.one (.t (.int .i64 1)))), none⟩, ⟨some 4, .mv (.tmp 10), none⟩])))))) (.seq (.region [⟨some 19, .mv (.tmp 3), none⟩, ⟨some 2, .mv (.tmp 19), none⟩]) .ret)))⟩
theorem k_marked : cFn Tryz.prog Tryz.f112 = some c_marked := by kernel_rfl
theorem marked_row (n : Nat) (g : List Int) (hn : tiny n) : RowI Tryz.prog 112 [(false, [.sl n (markB g n)])] 3 (canon n g) := by
  refine callRow_W (plain_ints _) (by simp) (by omega) (callS_W (by kernel_rfl) Tryz.func112 k_marked (callable_of Tryz.func112 (by kernel_rfl)) (by simp [c_marked]) ?_)
  simp [c_marked]
  refine loopW_count 4 n (fun k S => S.fr 0 = .one (.t (.sl n (markB g n))) ∧ outR 387 3 1 (collect (canonF g) k).length ((collect (canonF g) k).map (.int .i64)) S.ob (S.fr 3)) hn.small ?_ ?_ ?_
  · simp [collect_zero, outR_nil]
  · rintro k S hlt hw hc ⟨f0, ho⟩
    have hlen := collect_len (f := canonF g) (k := k)
    simp only [tiny] at hn
    by_cases hm : (k : Int) ∈ g
    · have e : canonF g k = some (k : Int) := by simp [canonF, hm]
      simp [f0, hc, hlt, len_markB, drop_markB hlt, hm, hw]
      refine kApp_grow (ts := [.int .i64 k]) rfl (ho.keep fun g => by simp) (by omega) rfl (by omega) (by omega) fun E hE hob hcnt => ?_
      simp [f0, hc, hw, collect_some e]
      simpa using hE
    · have e : canonF g k = none := by simp [canonF, hm]
      simp [f0, hc, hlt, len_markB, drop_markB hlt, hm, hw, collect_none e, ho]
  · rintro S hc ⟨f0, ho⟩
    obtain ⟨u, hu⟩ := ho.one
    rw [hu] at ho
    simp [f0, hc, hu]
    simpa [canon] using ho.rowIs

/-- The ends of the marked edges. -/
def endsL (g : Gr) (T : List Int) (k : Nat) : List Int := gather (fun i => if (i : Int) ∈ T then [(eth g.edges i).f, (eth g.edges i).g] else []) k

theorem leastM {g : Gr} {T S : List Int} {k : Nat} : S ++ endsL g T (k + 1) = S ++ endsL g T k ++ (if (k : Int) ∈ T then [(eth g.edges k).f, (eth g.edges k).g] else []) := by
  simp [endsL, gather_succ]

def c_least : MFunc := ⟨43, [.cell 6 true 2], .seq (.region [⟨some 3, .box 0 25 (.tmp 0), none⟩, ⟨some 6, .alloc 1 63 [.nil, .nil], none⟩]) (.seq (.region [⟨some 9, .mkrow 64 4 1 0 [] [], none⟩, ⟨some 10, .mv (.tmp 1), none⟩, ⟨some 11, .append 66 4 1 1 (.tmp 9) (.tmp 10), none⟩, ⟨some 7, .mv (.tmp 11), none⟩]) (.seq (.seq (.region [⟨some 8, .mv (.c (.one (.t (.int .i64 0)))), none⟩]) (.block 0 (.loop (.seq (.seq (.region [⟨some 12, .mv (.tmp 8), none⟩, ⟨some 13, .mv (.tmp 2), none⟩, ⟨some 14, .len (.tmp 13), none⟩, ⟨some 15, .bin .lss (.tmp 12) (.tmp 14), none⟩]) (.cond (.tmp 15) .skip (.exit 0))) (.seq (.block 1 (.seq (.region [⟨some 18, .mv (.tmp 2), none⟩, ⟨some 19, .mv (.tmp 8), none⟩, ⟨some 20, .idxA 1 (.tmp 18) (.tmp 19), none⟩, ⟨some 21, .load false 1 (.tmp 20), none⟩]) (.cond (.tmp 21) (.draw [[], [], [1], [], [2, 3], [4], [5], [], [], [8], [], [9, 10], [11], [12], [0, 6, 0, 1, 2, 3, 4, 5, 6, 13], [14, 0, 1, 2, 3, 4, 5, 6, 13], [7, 13, 0, 1, 2, 3, 4, 5, 6, 7, 8, 9, 10, 11, 12, 13, 14, 15], [16, 15, 0, 1, 2, 3, 4, 5, 6, 7, 8, 9, 10, 11, 12, 13, 14, 15]] [⟨some 22, .mv (.tmp 7), none⟩, ⟨some 23, .fieldA 1 (.tmp 3), none⟩, ⟨some 24, .load false 1 (.tmp 23), none⟩, ⟨some 25, .mv (.tmp 8), none⟩, ⟨some 26, .idxA 3 (.tmp 24) (.tmp 25), none⟩, ⟨some 27, .fieldA 1 (.tmp 26), none⟩, ⟨some 28, .load false 1 (.tmp 27), none⟩, ⟨some 29, .mv (.tmp 7), none⟩, ⟨some 30, .fieldA 1 (.tmp 3), none⟩, ⟨some 31, .load false 1 (.tmp 30), none⟩, ⟨some 32, .mv (.tmp 8), none⟩, ⟨some 33, .idxA 3 (.tmp 31) (.tmp 32), none⟩, ⟨some 34, .fieldA 2 (.tmp 33), none⟩, ⟨some 35, .load false 1 (.tmp 34), none⟩, ⟨some 36, .idxA 1 (.tmp 22) (.tmp 28), none⟩, ⟨none, .store 1 (.tmp 36) (.c (.one (.t (.bool true)))), none⟩, ⟨some 37, .idxA 1 (.tmp 29) (.tmp 35), none⟩, ⟨none, .store 1 (.tmp 37) (.c (.one (.t (.bool true)))), none⟩]) .skip))) (.region [⟨some 16, .mv (.tmp 8), none⟩, ⟨some 17, .bin .add (.tmp 16) (.c (.one (.t (.int .i64 1)))), none⟩, ⟨some 8, .mv (.tmp 17), none⟩])))))) (.seq (.region [⟨some 38, .mv (.tmp 7), none⟩, ⟨some 39, .call (.c (.one (.fn 112 []))) 449 [.tmp 38], none⟩, ⟨some 40, .mv (.tmp 2), none⟩, ⟨some 41, .call (.c (.one (.fn 112 []))) 451 [.tmp 40], none⟩, ⟨some 42, .build [.nil, .nil] [(0, (1, .tmp 39)), (1, (1, .tmp 41))], none⟩, ⟨none, .store 2 (.tmp 6) (.tmp 42), none⟩]) .ret)))⟩
theorem k_least : cFn Tryz.prog Tryz.f71 = some c_least := by kernel_rfl
theorem least_ok (g : Gr) (S T : List Int) (hg : GrOk g) : CallOK Tryz.prog 71 [g.v, (false, [.sl g.nodes.length (markB S g.nodes.length)]), (false, [.sl g.edges.length (markB T g.edges.length)])]
    (.sv (Pa.v ⟨canon g.nodes.length (S ++ endsL g T g.edges.length), canon g.edges.length T⟩)) := by
  refine callOK_W (callS_W (by kernel_rfl) Tryz.func71 k_least (callable_of Tryz.func71 (by kernel_rfl)) (by simp [c_least]) ?_)
  have hn := hg.n
  have he := hg.e
  have hn8 : g.nodes.length ≤ 140737488355328 := by omega
  have hn9 : g.nodes.length ≤ 9223372036854775807 := by omega
  have fin : ∀ (v : AV) (R : St → Prop), True := fun _ _ => trivial
  by_cases h0 : g.nodes.length = 0
  · have hE : g.edges = [] := by
      cases hh : g.edges with
      | nil => rfl
      | cons e r =>
        have := hg.edges e (by rw [hh]; simp)
        omega
    have hN : g.nodes = [] := List.eq_nil_of_length_eq_zero h0
    have r0 := (marked_row 0 (S ++ endsL g T 0) (by decide)).ok
    have hloop : True := trivial
    simp [c_least, hE, hN, kApp, evApp, markB, trees_t]
    refine loopW_count 8 0 (fun _ (S' : St) => S'.fr 7 = .one .nil ∧ S'.fr 6 = .one (.ptr (1, 0) 0) ∧ S'.fr 2 = .one (.t (.sl 0 [])) ∧ S'.ob (1, 0) = some (bx 63 [.nil, .nil])) (by decide) ?_ ?_ ?_
    · simp
    · intro k S' hlt
      exact absurd hlt (by omega)
    · rintro S' hc ⟨f7, f6, f2, o1⟩
      have r1 := (marked_row 0 [] (by decide)).ok
      have ec : ∀ S, canon 0 S = [] := fun S => rfl
      rw [ec] at r1
      simp [f7, f6, f2, o1, hc]
      refine callS_tree r1 ?_ ?_ ?_
      · rfl
      · rfl
      simp [f7, f6, f2, o1, hc]
      refine callS_tree r1 ?_ ?_ ?_
      · rfl
      · rfl
      simp [f7, f6, f2, o1, hc, ec]
  · simp [c_least, kApp, evApp, trees_t, len_markB, h0, hn8, hn9]
    refine loopW_count 8 g.edges.length (fun k S' => S'.fr 3 = .one (.ptr (0, 0) 0) ∧ S'.fr 6 = .one (.ptr (1, 0) 0) ∧ S'.fr 2 = .one (.t (.sl g.edges.length (markB T g.edges.length))) ∧ S'.fr 7 = .one (.row (66, 0)) ∧
      S'.ob (0, 0) = some (bx 25 (g.v.2.map .t)) ∧ S'.ob (1, 0) = some (bx 63 [.nil, .nil]) ∧ S'.ob (66, 0) = some ⟨true, true, false, 1, g.nodes.length, 4, markC (S ++ endsL g T k) g.nodes.length⟩) (show _ ≤ _ by omega) ?_ ?_ ?_
    · simp [markC_eq, endsL, gather_zero]
    · rintro k S' hlt hw hc ⟨f3, f6, f2, f7, o0, o1, o66⟩
      have hlt3 : k * 3 < g.edges.length * 3 := by omega
      by_cases hm : (k : Int) ∈ T
      · obtain ⟨_, _, q1, q2, q3, q4⟩ := hg.edges _ (eth_mem hlt)
        obtain ⟨x, hx⟩ := Int.eq_ofNat_of_zero_le q1
        obtain ⟨y, hy⟩ := Int.eq_ofNat_of_zero_le q3
        have hx2 : x < g.nodes.length := by omega
        have hy2 : y < g.nodes.length := by omega
        have hx3 : x + 1 ≤ g.nodes.length := by omega
        have hy3 : y + 1 ≤ g.nodes.length := by omega
        have e : S ++ endsL g T (k + 1) = S ++ (endsL g T k ++ [(x : Int), (y : Int)]) := by rw [leastM, if_pos hm, hx, hy]; simp
        simp [dw0, dw1, dw2, dw3, f3, f6, f2, f7, o0, o1, o66, hc, hlt, hlt3, hw, len_markB, drop_markB hlt, hm, drop_edL hlt, hx, hy, hx2, hy2, hx3, hy3, len_mark, mark_set hx2, mark_set hy2, e]
        rfl
      · have e : endsL g T (k + 1) = endsL g T k := by simp [endsL, gather_succ, hm]
        simp [f3, f6, f2, f7, o0, o1, o66, hc, hlt, hw, len_markB, drop_markB hlt, hm, e]
    · rintro S' hc ⟨f3, f6, f2, f7, o0, o1, o66⟩
      have r1 := (marked_row g.nodes.length (S ++ endsL g T g.edges.length) (by simp only [tiny]; omega)).ok
      have r2 := (marked_row g.edges.length T (by simp only [tiny]; omega)).ok
      simp [f3, f6, f2, f7, o0, o1, o66, hc]
      refine callS_freeze [(66, 0)] (callS_tree r1 ?_ ?_ ?_)
      · simp [argTrees, argTree, frzAll, frzOne, o66, markC_eq, untree_t]
      · simp [frzAll, frzOne, o66, AV.still, V1.still]
      simp [frzAll, frzOne, f3, f6, f2, f7, o0, o1, o66, hc]
      refine callS_tree r2 ?_ ?_ ?_
      · rfl
      · rfl
      simp [f3, f6, f2, f7, o0, o1, o66, hc]
end Go.Proofs.YthcnpnogfblkcaaGreat

/- Contracts: the closure of some elements. -/
namespace Go.Proofs.YthcnpnogfblkcaaGreat
open Abs
set_option linter.unusedSimpArgs false
set_option linter.unusedVariables false

/-- All are numbers below n. -/
def allIn (l : List Int) (n : Nat) : Prop := ∀ x ∈ l, 0 ≤ x ∧ x < n

theorem take_succ_nth {l : List Int} {k : Nat} (h : k < l.length) : l.take (k + 1) = l.take k ++ [nth l k] := by
  rw [List.take_succ_eq_append_getElem h, nth_eq h]

end Go.Proofs.YthcnpnogfblkcaaGreat

/- Contracts: the part that bits mean. -/
namespace Go.Proofs.YthcnpnogfblkcaaGreat
open Abs
set_option linter.unusedSimpArgs false
set_option linter.unusedVariables false
attribute [local simp] rn0 rn1 rn2 rn3 rn4 rn5 rn6 rn7 evOp nests Arg.ev St.val St.set St.new sliceOf binInt2 binInt AV.cells rdAt St.live retOf resOf resAll treeOf treeCell treeCells treeTups untree frameOf TV.av TR.av ints edgs prs fillV splice intsOf trees V1.tree bx Gr.v Pa.v opRd opWr opNew opNewR opArgs argsRd argRd Arg.rd AV.refs V1.refs refsL dstL

def bitN (set k : Nat) : Bool := decide (set / 2 ^ (k % 64) % 2 = 1)
def bitF (set off i : Nat) : Option Int := if bitN set (off + i) = true then some (i : Int) else none
/-- The numbers below k whose bits are set. -/
def bitsL (set off k : Nat) : List Int := collect (bitF set off) k
theorem mem_bits {set off k : Nat} {x : Int} : x ∈ bitsL set off k ↔ ∃ i : Nat, i < k ∧ bitN set (off + i) = true ∧ x = i := by
  simp only [bitsL, mem_collect, bitF]
  constructor
  · rintro ⟨i, h1, h2⟩
    split at h2
    · rename_i h
      exact ⟨i, h1, h, by simpa using h2.symm⟩
    · cases h2
  · rintro ⟨i, h1, h2, rfl⟩
    exact ⟨i, h1, by rw [if_pos h2]⟩
theorem mark_bit {set off n k : Nat} (h : k < n) : (markC (bitsL set off k) n).take k ++ .t (.bool (bitN set (off + k))) :: (markC (bitsL set off k) n).drop (k + 1) = markC (bitsL set off (k + 1)) n := by
  by_cases hb : bitN set (off + k) = true
  · have e : bitsL set off (k + 1) = bitsL set off k ++ [(k : Int)] := collect_some (by simp [bitF, hb])
    rw [e, hb]
    exact mark_set h
  · have e : bitsL set off (k + 1) = bitsL set off k := collect_none (by simp [bitF, hb])
    have hn : (k : Int) ∉ bitsL set off k := fun hm => by
      obtain ⟨i, h1, _, h3⟩ := mem_bits.1 hm
      omega
    have hb2 : bitN set (off + k) = false := by simpa using hb
    rw [e, hb2]
    have d := drop_mark (g := bitsL set off k) h
    rw [decide_eq_false hn] at d
    rw [← d, List.take_append_drop]
theorem rem64 {a : Nat} : ((a : Int)).tmod 64 = ((a % 64 : Nat) : Int) := (Int.ofNat_tmod a 64).symm
theorem bit_at {set k : Nat} : decide (IntKind.u64.wrap ((((set : Int).fdiv (2 ^ min (k % 64) IntKind.u64.bits) % ((2 ^ IntKind.u64.bits : Nat) : Int)).toNat &&& 1 % 2 ^ IntKind.u64.bits : Nat) : Int) = 1) = bitN set k := by
  have hb : IntKind.u64.bits = 64 := rfl
  have e : min (k % 64) 64 = k % 64 := by omega
  have e2 : (set : Int).fdiv (2 ^ (k % 64)) = ((set / 2 ^ (k % 64) : Nat) : Int) := by
    rw [Int.fdiv_eq_ediv_of_nonneg _ (Int.pow_nonneg (by decide))]
    simp
  rw [hb, e, e2]
  have e3 : (((set / 2 ^ (k % 64) : Nat) : Int) % ((2 ^ 64 : Nat) : Int)).toNat = set / 2 ^ (k % 64) % 2 ^ 64 := by
    rw [← Int.natCast_emod, Int.toNat_natCast]
  have e4 : (1 % 2 ^ 64 : Nat) = 1 := by decide
  rw [e3, e4, Nat.and_one_is_mod]
  have e5 : set / 2 ^ (k % 64) % 2 ^ 64 % 2 = set / 2 ^ (k % 64) % 2 := by omega
  rw [e5]
  have h2 : set / 2 ^ (k % 64) % 2 < 2 := Nat.mod_lt _ (by decide)
  have e6 : IntKind.u64.wrap ((set / 2 ^ (k % 64) % 2 : Nat) : Int) = ((set / 2 ^ (k % 64) % 2 : Nat) : Int) := by
    simp only [IntKind.wrap, IntKind.signed, hb]
    generalize set / 2 ^ (k % 64) % 2 = z at *
    simp
    omega
  rw [e6]
  unfold bitN
  congr 1
  apply propext
  omega

/-- The part that bits mean. -/
def maskP (g : Gr) (set : Nat) : Pa := ⟨canon g.nodes.length (bitsL set 0 g.nodes.length ++ endsL g (bitsL set g.nodes.length g.edges.length) g.edges.length), canon g.edges.length (bitsL set g.nodes.length g.edges.length)⟩

def c_made7 : MFunc := ⟨54, [.cell 4 true 2], .seq (.region [⟨some 2, .box 0 25 (.tmp 0), none⟩, ⟨some 4, .alloc 1 63 [.nil, .nil], none⟩]) (.seq (.draw [[], [0], [1], [2, 2], [], [4], [5], [6, 6], [3, 0, 1, 2, 3], [7, 8, 0, 1, 2, 3, 4, 5, 6, 7, 8]] [⟨some 9, .fieldA 0 (.tmp 2), none⟩, ⟨some 10, .load false 1 (.tmp 9), none⟩, ⟨some 11, .len (.tmp 10), none⟩, ⟨some 12, .make 67 4 1 1 [.t (.bool false)] (.tmp 11) (.tmp 11), none⟩, ⟨some 13, .fieldA 1 (.tmp 2), none⟩, ⟨some 14, .load false 1 (.tmp 13), none⟩, ⟨some 15, .len (.tmp 14), none⟩, ⟨some 16, .make 71 4 1 1 [.t (.bool false)] (.tmp 15) (.tmp 15), none⟩, ⟨some 5, .mv (.tmp 12), none⟩, ⟨some 6, .mv (.tmp 16), none⟩]) (.seq (.seq (.region [⟨some 7, .mv (.c (.one (.t (.int .i64 0)))), none⟩]) (.block 0 (.loop (.seq (.seq (.region [⟨some 17, .mv (.tmp 7), none⟩, ⟨some 18, .mv (.tmp 5), none⟩, ⟨some 19, .len (.tmp 18), none⟩, ⟨some 20, .bin .lss (.tmp 17) (.tmp 19), none⟩]) (.cond (.tmp 20) .skip (.exit 0))) (.seq (.block 1 (.region [⟨some 23, .mv (.tmp 5), none⟩, ⟨some 24, .mv (.tmp 7), none⟩, ⟨some 25, .mv (.tmp 1), none⟩, ⟨some 26, .mv (.tmp 7), none⟩, ⟨some 27, .bin .rem (.tmp 26) (.c (.one (.t (.int .i64 64)))), none⟩, ⟨some 28, .bin .shr (.tmp 25) (.tmp 27), none⟩, ⟨some 29, .bin .and (.tmp 28) (.c (.one (.t (.int .u64 1)))), none⟩, ⟨some 30, .bin .eql (.tmp 29) (.c (.one (.t (.int .u64 1)))), none⟩, ⟨some 31, .idxA 1 (.tmp 23) (.tmp 24), none⟩, ⟨none, .store 1 (.tmp 31) (.tmp 30), none⟩])) (.region [⟨some 21, .mv (.tmp 7), none⟩, ⟨some 22, .bin .add (.tmp 21) (.c (.one (.t (.int .i64 1)))), none⟩, ⟨some 7, .mv (.tmp 22), none⟩])))))) (.seq (.seq (.region [⟨some 8, .mv (.c (.one (.t (.int .i64 0)))), none⟩]) (.block 2 (.loop (.seq (.seq (.region [⟨some 32, .mv (.tmp 8), none⟩, ⟨some 33, .mv (.tmp 6), none⟩, ⟨some 34, .len (.tmp 33), none⟩, ⟨some 35, .bin .lss (.tmp 32) (.tmp 34), none⟩]) (.cond (.tmp 35) .skip (.exit 2))) (.seq (.block 3 (.region [⟨some 38, .mv (.tmp 6), none⟩, ⟨some 39, .mv (.tmp 8), none⟩, ⟨some 40, .mv (.tmp 1), none⟩, ⟨some 41, .mv (.tmp 5), none⟩, ⟨some 42, .len (.tmp 41), none⟩, ⟨some 43, .mv (.tmp 8), none⟩, ⟨some 44, .bin .add (.tmp 42) (.tmp 43), none⟩, ⟨some 45, .bin .rem (.tmp 44) (.c (.one (.t (.int .i64 64)))), none⟩, ⟨some 46, .bin .shr (.tmp 40) (.tmp 45), none⟩, ⟨some 47, .bin .and (.tmp 46) (.c (.one (.t (.int .u64 1)))), none⟩, ⟨some 48, .bin .eql (.tmp 47) (.c (.one (.t (.int .u64 1)))), none⟩, ⟨some 49, .idxA 1 (.tmp 38) (.tmp 39), none⟩, ⟨none, .store 1 (.tmp 49) (.tmp 48), none⟩])) (.region [⟨some 36, .mv (.tmp 8), none⟩, ⟨some 37, .bin .add (.tmp 36) (.c (.one (.t (.int .i64 1)))), none⟩, ⟨some 8, .mv (.tmp 37), none⟩])))))) (.seq (.region [⟨some 50, .load true 2 (.tmp 2), none⟩, ⟨some 51, .mv (.tmp 5), none⟩, ⟨some 52, .mv (.tmp 6), none⟩, ⟨some 53, .call (.c (.one (.fn 71 []))) 643 [.tmp 50, .tmp 51, .tmp 52], none⟩, ⟨none, .store 2 (.tmp 4) (.tmp 53), none⟩]) .ret))))⟩
theorem k_made7 : cFn Tryz.prog Tryz.f30 = some c_made7 := by kernel_rfl
set_option maxHeartbeats 2000000 in
theorem made7_ok (g : Gr) (set : Nat) (go : GrOk g) : CallOK Tryz.prog 30 [g.v, u64V set] (.sv (maskP g set).v) := by
  refine callOK_W (callS_W (by kernel_rfl) Tryz.func30 k_made7 (callable_of Tryz.func30 (by kernel_rfl)) (by simp [c_made7]) ?_)
  have hn := go.n
  have he := go.e
  have hn8 : g.nodes.length ≤ 140737488355328 := by omega
  have hn9 : (g.nodes.length : Int) ≤ 9223372036854775807 := by omega
  have he8 : g.edges.length ≤ 140737488355328 := by omega
  have he9 : (g.edges.length : Int) ≤ 9223372036854775807 := by omega
  simp [c_made7, dw0, dw1, dw2, dw3, u64V, hn8, hn9, he8, he9, mark_nil]
  refine ⟨rfl, ?_⟩
  refine loopW_count 7 g.nodes.length (fun k S => S.fr 1 = .one (.t (.int .u64 set)) ∧ S.fr 2 = .one (.ptr (0, 0) 0) ∧ S.fr 4 = .one (.ptr (1, 0) 0) ∧ S.fr 5 = .one (.row (67, 0)) ∧ S.fr 6 = .one (.row (71, 0)) ∧
    S.ob (0, 0) = some (bx 25 (g.v.2.map .t)) ∧ S.ob (1, 0) = some (bx 63 [.nil, .nil]) ∧
    S.ob (67, 0) = some ⟨true, true, false, 1, g.nodes.length, 4, markC (bitsL set 0 k) g.nodes.length⟩ ∧ S.ob (71, 0) = some ⟨true, true, false, 1, g.edges.length, 4, markC [] g.edges.length⟩) (show g.nodes.length ≤ 9000000000000000000 by omega) ?_ ?_ ?_
  · simp [bitsL, collect]
  · rintro k S hlt hw hc ⟨f1, f2, f4, f5, f6, o0, o1, o2, o3⟩
    have ms := mark_bit (set := set) (off := 0) hlt
    have hx3 : k + 1 ≤ g.nodes.length := by omega
    rw [Nat.zero_add] at ms
    simp [f1, f2, f4, f5, f6, o0, o1, o2, o3, hc, hlt, hw, hx3, len_mark, rem64, bit_at, ms, -Int.natCast_emod, -Int.natCast_ediv, -Int.natCast_pow]
  · rintro S hc ⟨f1, f2, f4, f5, f6, o0, o1, o2, o3⟩
    simp [f1, f2, f4, f5, f6, o0, o1, o2, o3, hc]
    refine loopW_count 8 g.edges.length (fun k S => S.fr 1 = .one (.t (.int .u64 set)) ∧ S.fr 2 = .one (.ptr (0, 0) 0) ∧ S.fr 4 = .one (.ptr (1, 0) 0) ∧ S.fr 5 = .one (.row (67, 0)) ∧ S.fr 6 = .one (.row (71, 0)) ∧
      S.ob (0, 0) = some (bx 25 (g.v.2.map .t)) ∧ S.ob (1, 0) = some (bx 63 [.nil, .nil]) ∧
      S.ob (67, 0) = some ⟨true, true, false, 1, g.nodes.length, 4, markC (bitsL set 0 g.nodes.length) g.nodes.length⟩ ∧ S.ob (71, 0) = some ⟨true, true, false, 1, g.edges.length, 4, markC (bitsL set g.nodes.length k) g.edges.length⟩) (show g.edges.length ≤ 9000000000000000000 by omega) ?_ ?_ ?_
    · simp [f1, f2, f4, f5, f6, o0, o1, o2, o3, bitsL, collect]
    · rintro k S hlt hw hc ⟨f1, f2, f4, f5, f6, o0, o1, o2, o3⟩
      have ms := mark_bit (set := set) (off := g.nodes.length) hlt
      have hx3 : k + 1 ≤ g.edges.length := by omega
      have hw2 : IntKind.i64.wrap ((g.nodes.length : Int) + (k : Int)) = ((g.nodes.length + k : Nat) : Int) := by
        rw [wrap64_id] <;> omega
      simp [f1, f2, f4, f5, f6, o0, o1, o2, o3, hc, hlt, hw, hw2, hx3, len_mark, rem64, bit_at, ms, -Int.natCast_emod, -Int.natCast_ediv, -Int.natCast_pow, -Int.natCast_add]
    · rintro S hc ⟨f1, f2, f4, f5, f6, o0, o1, o2, o3⟩
      simp [f1, f2, f4, f5, f6, o0, o1, o2, o3, hc]
      refine callS_freeze [(67, 0), (71, 0)] (callS_tree (least_ok g (bitsL set 0 g.nodes.length) (bitsL set g.nodes.length g.edges.length) go) ?_ ?_ ?_)
      · simp [argTrees, argTree, frzAll, frzOne, o0, o1, o2, o3, markC_eq, untree_t]
      · simp [frzAll, frzOne, o0, o1, o2, o3, AV.still, V1.still]
      simp [frzAll, frzOne, f1, f2, f4, f5, f6, o0, o1, o2, o3, hc, maskP]
end Go.Proofs.YthcnpnogfblkcaaGreat

/- The boundary of an initial pushout lies in a part exactly if what is left of b is a part of it. No program in sight. -/
namespace Go.Proofs.YthcnpnogfblkcaaGreat
open Abs Po
set_option linter.unusedSimpArgs false
set_option linter.unusedVariables false

/-- What is left of b without what is in a and not in the part. -/
def lftF (im kp : List Int) (i : Nat) : Option Int := if idx im i < 0 ∨ idx im i ∈ kp then some (i : Int) else none
def lftP (b : Gr) (m p : Pa) : Pa := ⟨collect (lftF m.nodes p.nodes) b.nodes.length, collect (lftF m.edges p.edges) b.edges.length⟩
theorem lft_mem {im kp : List Int} {n : Nat} {x : Int} : x ∈ collect (lftF im kp) n ↔ ∃ i : Nat, x = i ∧ i < n ∧ (idx im i < 0 ∨ idx im i ∈ kp) := by
  rw [mem_collect]
  constructor
  · rintro ⟨j, hj, h⟩
    unfold lftF at h
    split at h
    · rename_i h2
      injection h with h
      exact ⟨j, h.symm, hj, h2⟩
    · cases h
  · rintro ⟨i, rfl, hi, h⟩
    exact ⟨i, hi, by rw [lftF, if_pos h]⟩
theorem lft_in {im kp : List Int} {n : Nat} : ∀ x ∈ collect (lftF im kp) n, 0 ≤ x ∧ x < n := fun x hx => by
  obtain ⟨i, rfl, hi, _⟩ := lft_mem.1 hx
  omega
theorem lft_asc {im kp : List Int} {n : Nat} : Asc (collect (lftF im kp) n) := asc_iff.2 (collect_asc fun k x h => by
  unfold lftF at h
  split at h
  · injection h with h
    exact h.symm
  · cases h)

theorem bnd_left {a b : Gr} {m p : Pa} (mo : MorOk a b m) (mn : m.nodes.Nodup) (ok : SubOk a p) : (∀ k ∈ bndL m b, k ∈ p.nodes) ↔ partErr b (lftP b m p) = 0 := by
  have l1 := mo.ln
  have l2 := mo.le
  have hg := gErr_of mo.gb
  have hsub : partErr b (lftP b m p) = 0 ↔ subErr b (lftP b m p) = 0 := by rw [subErr, if_pos hg]
  rw [hsub]
  constructor
  · intro hin
    refine sub_zero hg lft_asc lft_asc lft_in lft_in fun x hx => ?_
    obtain ⟨i, rfl, hi, hc⟩ := lft_mem.1 hx
    rw [Int.toNat_natCast]
    obtain ⟨_, _, q1, q2, q3, q4⟩ := mo.gb.edges _ (eth_mem hi)
    have key : ∀ y : Int, 0 ≤ y → y < b.nodes.length → (0 ≤ idx m.nodes y → idx m.nodes y ∈ p.nodes) → y ∈ (lftP b m p).nodes := fun y h1 h2 h3 => by
      obtain ⟨z, rfl⟩ := Int.eq_ofNat_of_zero_le h1
      refine lft_mem.2 ⟨z, rfl, by omega, ?_⟩
      by_cases h : idx m.nodes (z : Int) < 0
      · exact .inl h
      · exact .inr (h3 (by omega))
    by_cases hm : (i : Int) ∈ m.edges
    · obtain ⟨e1, e2, e3⟩ := idx_lt hm
      have hp : idx m.edges (i : Int) ∈ p.edges := hc.resolve_left (by omega)
      obtain ⟨j, hj⟩ := Int.eq_ofNat_of_zero_le e1
      rw [hj] at hp e2 e3
      rw [Int.toNat_natCast] at e3
      obtain ⟨d1, d2⟩ := ok.de _ hp
      rw [Int.toNat_natCast] at d1 d2
      obtain ⟨_, _, _, c1, c2⟩ := mo.e j (by omega)
      rw [e3, Int.toNat_natCast] at c1 c2
      obtain ⟨_, _, r1, r2, r3, r4⟩ := mo.ga.edges _ (eth_mem (l := a.edges) (k := j) (by omega))
      have back : ∀ y : Int, 0 ≤ y → y < a.nodes.length → idx m.nodes (nth m.nodes y.toNat) = y := fun y h1 h2 => by
        rw [idx_nth mn (by omega)]
        omega
      refine ⟨key _ q1 q2 fun _ => ?_, key _ q3 q4 fun _ => ?_⟩
      · rw [← c1, back _ r1 r2]
        exact d1
      · rw [← c2, back _ r3 r4]
        exact d2
    · refine ⟨key _ q1 q2 fun h => hin _ ?_, key _ q3 q4 fun h => hin _ ?_⟩
      · exact bndL_mem.2 (bnU_mem.2 ⟨i, hi, hm, h, .inl rfl⟩)
      · exact bndL_mem.2 (bnU_mem.2 ⟨i, hi, hm, h, .inr rfl⟩)
  · intro h0 k hk
    have sq := sub_of h0
    obtain ⟨i, hi, hm, hk0, he⟩ := bnU_mem.1 (bndL_mem.1 hk)
    have hq : (i : Int) ∈ (lftP b m p).edges := lft_mem.2 ⟨i, rfl, hi, .inl (idx_neg.2 hm)⟩
    obtain ⟨d1, d2⟩ := sq.de _ hq
    rw [Int.toNat_natCast] at d1 d2
    rcases he with rfl | rfl
    · obtain ⟨z, hz, _, hc⟩ := lft_mem.1 d1
      rw [hz] at hk0 ⊢
      exact hc.resolve_left (by omega)
    · obtain ⟨z, hz, _, hc⟩ := lft_mem.1 d2
      rw [hz] at hk0 ⊢
      exact hc.resolve_left (by omega)

/-- The part that bits mean has no error. -/
theorem mask_sub14 {g : Gr} {s : Nat} (go : GrOk g) : subErr g (maskP g s) = 0 := by
  refine sub_zero (gErr_of go) (asc_iff.2 canon_asc) (asc_iff.2 canon_asc) (fun x hx => ⟨(mem_canon.1 hx).1, (mem_canon.1 hx).2.1⟩) (fun x hx => ⟨(mem_canon.1 hx).1, (mem_canon.1 hx).2.1⟩) fun k hk => ?_
  obtain ⟨h1, h2, h3⟩ := mem_canon.1 hk
  obtain ⟨i, hi, _, he⟩ := mem_bits.1 h3
  obtain ⟨_, _, q1, q2, q3, q4⟩ := go.edges _ (eth_mem hi)
  rw [he, Int.toNat_natCast]
  rw [he] at h3
  have hend : ∀ x : Int, x = (eth g.edges i).f ∨ x = (eth g.edges i).g → x ∈ endsL g (bitsL s g.nodes.length g.edges.length) g.edges.length := fun x hx => mem_gather.2 ⟨i, hi, by rw [if_pos h3]; simpa using hx⟩
  exact ⟨mem_canon.2 ⟨q1, q2, List.mem_append.2 (.inr (hend _ (.inl rfl)))⟩, mem_canon.2 ⟨q3, q4, List.mem_append.2 (.inr (hend _ (.inr rfl)))⟩⟩

/-- Growth without identification. -/
theorem grow_id {g : Gr} {c : List Nat} : grG g (255 :: c) = g ∧ grM g (255 :: c) = idP g := by
  have h : ¬ imB (255 :: c) = true := by simp [imB, byth]
  exact ⟨if_neg h, if_neg h⟩
theorem idL_nodup {n : Nat} : (idL n).Nodup := by
  rw [idL, List.nodup_iff_pairwise_ne, List.pairwise_map]
  exact List.nodup_range.imp fun h e => h (by omega)
theorem grow_mor_id {g : Gr} {c : List Nat} (gg : GrOk g) (hn : g.nodes.length ≤ 37) (he : g.edges.length ≤ 76) : MorOk g (growG g (255 :: c)) (idP g) := by
  have := grow_mor (l := 255 :: c) gg hn he
  rwa [grow_id.2] at this
theorem id_inj {g b : Gr} (h : MorOk g b (idP g)) : injB g b (idP g) = true := by
  have h1 := mor_zero h
  have h2 : (idP g).nodes.Nodup := idL_nodup
  have h3 : (idP g).edges.Nodup := idL_nodup
  simp [injB, h1, h2, h3]
end Go.Proofs.YthcnpnogfblkcaaGreat

/- A call in an open region that is given a row which was made there. -/
namespace Go.Proofs.YthcnpnogfblkcaaGreat.Abs
open Go.RowKit
set_option linter.unusedVariables false
set_option linter.unusedSimpArgs false

/-- The row is frozen: it stays what it is. -/
theorem dCall_frz {P : Program} {S : St} {K : Eff → Prop} {g : FuncId} {nm : Nat} {x : AV} {tx : TV} {o : Nm} {esz n typ : Nat} {cs : List C} {r : TR} (hm : decide (g = 29) = true) (h : CallOK P g [tx, (false, [.sl n cs])] r)
    (hx : ∀ ob cnt, argTree ⟨fun _ => .undef, ob, cnt⟩ x = some tx ∧ x.still ⟨fun _ => .undef, ob, cnt⟩ = true) (ho : S.ob o = some ⟨true, true, false, esz, n, typ, cs.map .t⟩)
    (hk : K ⟨r.av, upd S.ob o (some ⟨true, true, true, esz, n, typ, cs.map .t⟩), S.cnt⟩) : dCall P (.one (.fn g [])) nm [x, .one (.row o)] S K := by
  have h2 : CallM P g nm [x, .one (.row o)] S.ob [(o, ⟨true, true, true, esz, n, typ, cs.map .t⟩)] none (fun _ => r.av) := by
    refine ⟨fun p hp => ?_, fun ob cnt hob => ?_⟩
    · simp at hp
      subst hp
      simp [AV.refs, V1.refs]
    · have h3 : ob o = some ⟨true, true, false, esz, n, typ, cs.map .t⟩ := (hob o (by simp [AV.refs, V1.refs])).trans ho
      have hx1 := fun ob => (hx ob cnt).1
      have hx2 := fun ob => (hx ob cnt).2
      have e : frzAll [o] ob = upd ob o (some ⟨true, true, true, esz, n, typ, cs.map .t⟩) := by simp [frzAll, frzOne, h3]
      refine callS_freeze [o] ?_
      rw [e]
      refine callS_tree h ?_ ?_ ⟨rfl, rfl, rfl⟩
      · simp [argTrees, hx1, argTree_one, treeCell_row (upd_same ..)]
      · simp [hx2, still_one, V1.still, St.live, upd_same]
  exact dCall_mut hm h2 hk
end Go.Proofs.YthcnpnogfblkcaaGreat.Abs

/- The example of the chapter holds; squares that are small; the law of kinds. -/
namespace Go.Proofs.YthcnpnogfblkcaaGreat
open Abs
set_option linter.unusedSimpArgs false
set_option linter.unusedVariables false
attribute [local simp] rn0 rn1 rn2 rn3 rn4 rn5 rn6 rn7 evOp nests Arg.ev St.val St.set St.new sliceOf binInt2 binInt AV.cells rdAt St.live retOf resOf resAll treeOf treeCell treeCells treeTups untree frameOf TV.av TR.av ints edgs prs fillV splice intsOf trees V1.tree bx Gr.v Pa.v

def exOne : Gr := ⟨[0], []⟩
def exPath : Gr := ⟨[0, 0], [⟨0, 0, 1⟩]⟩
def exInto : Pa := ⟨[0], []⟩
def exSq : Sq := ⟨exOne, exOne, exPath, exPath, exInto, exInto, exInto, ⟨[0, 1], [0]⟩⟩
theorem exBnU : bnU exInto exPath exPath.edges.length = [0] := by kernel_rfl
theorem exBnd : bndL exInto exPath = [0] := by rw [bndL, exBnU]; simp
theorem exCn : cnL exInto exPath = [0, 1] := by rw [cnL, exBnd]; kernel_rfl
theorem exIn : inR exOne exPath exInto = (exSq, 0) := by
  have h : inE exOne exPath exInto = 0 := by kernel_rfl
  have h2 : inS exOne exPath exInto = exSq := by
    rw [inS, inB, inC, inG, exBnd, exCn]
    kernel_rfl
  rw [inR, if_pos h, h2]
theorem exKind : kindR exSq = (3, 0) := by kernel_rfl

/-- The example of the chapter holds. -/
def Awake14 : Prop := CallOK Tryz.prog 11 [] (.sv (false, [.bool true]))

def c_awake14 : MFunc := ⟨48, [.tmp 0], .seq (.region [⟨some 0, .mv (.c (.one (.t (.bool false)))), none⟩]) (.seq (.region [⟨some 7, .mkrow 64 3 1 2 [.t (.int .i64 0), .t (.int .i64 0)] [(0, (1, .c (.one (.t (.int .i64 0))))), (1, (1, .c (.one (.t (.int .i64 0)))))], none⟩, ⟨some 8, .build [.t (.int .i64 0), .t (.int .i64 0), .t (.int .i64 0)] [(1, (1, .c (.one (.t (.int .i64 0))))), (2, (1, .c (.one (.t (.int .i64 1)))))], none⟩, ⟨some 9, .mkrow 66 76 3 1 [.t (.int .i64 0), .t (.int .i64 0), .t (.int .i64 0)] [(0, (3, .tmp 8))], none⟩, ⟨some 10, .build [.nil, .nil] [(0, (1, .tmp 7)), (1, (1, .tmp 9))], none⟩, ⟨some 1, .alloc 68 25 [.nil, .nil], none⟩, ⟨none, .store 2 (.tmp 1) (.tmp 10), none⟩]) (.seq (.region [⟨some 11, .mkrow 128 3 1 1 [.t (.int .i64 0)] [(0, (1, .c (.one (.t (.int .i64 0)))))], none⟩, ⟨some 12, .build [.nil, .nil] [(0, (1, .tmp 11))], none⟩, ⟨some 2, .alloc 130 25 [.nil, .nil], none⟩, ⟨none, .store 2 (.tmp 2) (.tmp 12), none⟩]) (.seq (.region [⟨some 14, .load true 2 (.tmp 2), none⟩, ⟨some 15, .load true 2 (.tmp 1), none⟩, ⟨some 16, .mkrow 194 3 1 1 [.t (.int .i64 0)] [(0, (1, .c (.one (.t (.int .i64 0)))))], none⟩, ⟨some 17, .build [.nil, .nil] [(0, (1, .tmp 16))], none⟩, ⟨some 18, .call (.c (.one (.fn 24 []))) 196 [.tmp 14, .tmp 15, .tmp 17], none⟩, ⟨some 13, .mv (.tmp 18), none⟩, ⟨some 19, .extract (.tmp 13) 0, none⟩, ⟨some 20, .extract (.tmp 13) 1, none⟩, ⟨some 3, .alloc 200 29 [.nil, .nil, .nil, .nil, .nil, .nil, .nil, .nil, .nil, .nil, .nil, .nil, .nil, .nil, .nil, .nil], none⟩, ⟨none, .store 16 (.tmp 3) (.tmp 19), none⟩, ⟨some 4, .mv (.tmp 20), none⟩]) (.seq (.region [⟨some 22, .load true 16 (.tmp 3), none⟩, ⟨some 23, .call (.c (.one (.fn 21 []))) 257 [.tmp 22], none⟩, ⟨some 21, .mv (.tmp 23), none⟩, ⟨some 24, .extract (.tmp 21) 0, none⟩, ⟨some 25, .extract (.tmp 21) 1, none⟩, ⟨some 5, .mv (.tmp 24), none⟩, ⟨some 6, .mv (.tmp 25), none⟩]) (.seq (.region [⟨some 26, .mv (.tmp 4), none⟩, ⟨some 27, .bin .eql (.tmp 26) (.c (.one (.t (.int .i64 0)))), none⟩, ⟨some 28, .mv (.tmp 27), none⟩, ⟨some 29, .mv (.tmp 6), some (28, true)⟩, ⟨some 30, .bin .eql (.tmp 29) (.c (.one (.t (.int .i64 0)))), some (28, true)⟩, ⟨some 31, .pick (.tmp 28) (.tmp 30) (.c (.one (.t (.bool false)))), none⟩, ⟨some 32, .mv (.tmp 31), none⟩, ⟨some 33, .mv (.tmp 5), some (32, true)⟩, ⟨some 34, .bin .eql (.tmp 33) (.c (.one (.t (.int .i64 3)))), some (32, true)⟩, ⟨some 35, .pick (.tmp 32) (.tmp 34) (.c (.one (.t (.bool false)))), none⟩, ⟨some 36, .mv (.tmp 35), none⟩, ⟨some 37, .fieldA 0 (.tmp 3), some (36, true)⟩, ⟨some 38, .load true 2 (.tmp 37), some (36, true)⟩, ⟨some 39, .load true 2 (.tmp 2), some (36, true)⟩, ⟨some 40, .call (.c (.one (.fn 22 []))) 334 [.tmp 38, .tmp 39], some (36, true)⟩, ⟨some 41, .pick (.tmp 36) (.tmp 40) (.c (.one (.t (.bool false)))), none⟩, ⟨some 42, .mv (.tmp 41), none⟩, ⟨some 43, .fieldA 4 (.tmp 3), some (42, true)⟩, ⟨some 44, .load true 2 (.tmp 43), some (42, true)⟩, ⟨some 45, .load true 2 (.tmp 1), some (42, true)⟩, ⟨some 46, .call (.c (.one (.fn 22 []))) 340 [.tmp 44, .tmp 45], some (42, true)⟩, ⟨some 47, .pick (.tmp 42) (.tmp 46) (.c (.one (.t (.bool false)))), none⟩, ⟨some 0, .mv (.tmp 47), none⟩]) .ret)))))⟩
theorem k_awake14 : cFn Tryz.prog Tryz.f11 = some c_awake14 := by kernel_rfl
theorem awake14_ok : Awake14 := by
  refine callOK_W (callS_W (by kernel_rfl) Tryz.func11 k_awake14 (callable_of Tryz.func11 (by kernel_rfl)) (by simp [c_awake14]) ?_)
  simp [c_awake14]
  refine callS_freeze [(64, 0), (66, 0), (128, 0), (194, 0)] (callS_tree (sInit_ok exOne exPath exInto ⟨by decide, by decide⟩ ⟨by decide, by decide⟩ ⟨by decide, by decide⟩) ?_ ?_ ?_)
  · rfl
  · rfl
  rw [exIn]
  simp [frzAll, frzOne, sqT, exSq, Sq.v, Sq.cs]
  refine callS_tree (sKind_ok exSq ⟨⟨by decide, by decide⟩, ⟨by decide, by decide⟩, ⟨by decide, by decide⟩, ⟨by decide, by decide⟩, ⟨by decide, by decide⟩, ⟨by decide, by decide⟩, ⟨by decide, by decide⟩, ⟨by decide, by decide⟩⟩) ?_ ?_ ?_
  · rfl
  · rfl
  rw [exKind]
  simp [kindT]
  refine callS_tree (ref5Same_ok exOne exOne ⟨by decide, by decide⟩ ⟨by decide, by decide⟩) ?_ ?_ ?_
  · rfl
  · rfl
  simp
  refine callS_tree (ref5Same_ok exPath exPath ⟨by decide, by decide⟩ ⟨by decide, by decide⟩) ?_ ?_ ?_
  · rfl
  · rfl
  simp

/-! ### Small squares -/
def fewQ (s : Sq) : Bool := fewG s.A && fewG s.B && fewG s.C && fewG s.D && fewP s.F 140 && fewP s.G 140 && fewP s.H 140 && fewP s.K 140
structure HugeQ (s : Sq) : Prop where
  F : huge s.F.nodes.length ∧ huge s.F.edges.length
  G : huge s.G.nodes.length ∧ huge s.G.edges.length
  H : huge s.H.nodes.length ∧ huge s.H.edges.length
  K : huge s.K.nodes.length ∧ huge s.K.edges.length
def c_few14 : MFunc := ⟨43, [.tmp 2], .seq (.region [⟨some 1, .box 0 29 (.tmp 0), none⟩, ⟨some 2, .mv (.c (.one (.t (.bool false)))), none⟩]) (.seq (.region [⟨some 4, .fieldA 0 (.tmp 1), none⟩, ⟨some 5, .load true 2 (.tmp 4), none⟩, ⟨some 6, .call (.c (.one (.fn 13 []))) 66 [.tmp 5], none⟩, ⟨some 7, .mv (.tmp 6), none⟩, ⟨some 8, .fieldA 2 (.tmp 1), some (7, true)⟩, ⟨some 9, .load true 2 (.tmp 8), some (7, true)⟩, ⟨some 10, .call (.c (.one (.fn 13 []))) 70 [.tmp 9], some (7, true)⟩, ⟨some 11, .pick (.tmp 7) (.tmp 10) (.c (.one (.t (.bool false)))), none⟩, ⟨some 12, .mv (.tmp 11), none⟩, ⟨some 13, .fieldA 4 (.tmp 1), some (12, true)⟩, ⟨some 14, .load true 2 (.tmp 13), some (12, true)⟩, ⟨some 15, .call (.c (.one (.fn 13 []))) 75 [.tmp 14], some (12, true)⟩, ⟨some 16, .pick (.tmp 12) (.tmp 15) (.c (.one (.t (.bool false)))), none⟩, ⟨some 17, .mv (.tmp 16), none⟩, ⟨some 18, .fieldA 6 (.tmp 1), some (17, true)⟩, ⟨some 19, .load true 2 (.tmp 18), some (17, true)⟩, ⟨some 20, .call (.c (.one (.fn 13 []))) 80 [.tmp 19], some (17, true)⟩, ⟨some 21, .pick (.tmp 17) (.tmp 20) (.c (.one (.t (.bool false)))), none⟩, ⟨some 3, .mv (.tmp 21), none⟩]) (.seq (.region [⟨some 22, .mv (.tmp 3), none⟩, ⟨some 23, .mv (.tmp 22), none⟩, ⟨some 24, .fieldA 8 (.tmp 1), some (23, true)⟩, ⟨some 25, .load true 2 (.tmp 24), some (23, true)⟩, ⟨some 26, .call (.c (.one (.fn 14 []))) 132 [.tmp 25, .c (.one (.t (.int .i64 140)))], some (23, true)⟩, ⟨some 27, .pick (.tmp 23) (.tmp 26) (.c (.one (.t (.bool false)))), none⟩, ⟨some 28, .mv (.tmp 27), none⟩, ⟨some 29, .fieldA 10 (.tmp 1), some (28, true)⟩, ⟨some 30, .load true 2 (.tmp 29), some (28, true)⟩, ⟨some 31, .call (.c (.one (.fn 14 []))) 137 [.tmp 30, .c (.one (.t (.int .i64 140)))], some (28, true)⟩, ⟨some 32, .pick (.tmp 28) (.tmp 31) (.c (.one (.t (.bool false)))), none⟩, ⟨some 33, .mv (.tmp 32), none⟩, ⟨some 34, .fieldA 12 (.tmp 1), some (33, true)⟩, ⟨some 35, .load true 2 (.tmp 34), some (33, true)⟩, ⟨some 36, .call (.c (.one (.fn 14 []))) 142 [.tmp 35, .c (.one (.t (.int .i64 140)))], some (33, true)⟩, ⟨some 37, .pick (.tmp 33) (.tmp 36) (.c (.one (.t (.bool false)))), none⟩, ⟨some 38, .mv (.tmp 37), none⟩, ⟨some 39, .fieldA 14 (.tmp 1), some (38, true)⟩, ⟨some 40, .load true 2 (.tmp 39), some (38, true)⟩, ⟨some 41, .call (.c (.one (.fn 14 []))) 147 [.tmp 40, .c (.one (.t (.int .i64 140)))], some (38, true)⟩, ⟨some 42, .pick (.tmp 38) (.tmp 41) (.c (.one (.t (.bool false)))), none⟩, ⟨some 2, .mv (.tmp 42), none⟩]) .ret))⟩
theorem k_few14 : cFn Tryz.prog Tryz.f12 = some c_few14 := by kernel_rfl
set_option maxHeartbeats 1000000 in
theorem few14_ok (s : Sq) (h : HugeQ s) : CallOK Tryz.prog 12 [s.v] (.sv (false, [.bool (fewQ s)])) := by
  refine callOK_W (callS_W (by kernel_rfl) Tryz.func12 k_few14 (callable_of Tryz.func12 (by kernel_rfl)) (by simp [c_few14]) ?_)
  simp [c_few14, Sq.v, Sq.cs]
  refine callS_tree (few5_ok s.A) ?_ ?_ ?_
  · rfl
  · rfl
  cases e1 : fewG s.A
  · simp [fewQ, e1]
  simp [e1]
  refine callS_tree (few5_ok s.B) ?_ ?_ ?_
  · rfl
  · rfl
  cases e2 : fewG s.B
  · simp [fewQ, e1, e2]
  simp [e1]
  refine callS_tree (few5_ok s.C) ?_ ?_ ?_
  · rfl
  · rfl
  cases e3 : fewG s.C
  · simp [fewQ, e1, e2, e3]
  simp [e1]
  refine callS_tree (few5_ok s.D) ?_ ?_ ?_
  · rfl
  · rfl
  cases e4 : fewG s.D
  · simp [fewQ, e1, e2, e3, e4]
  simp [e1]
  refine callS_tree (few6_ok s.F 140 h.F.1 h.F.2) ?_ ?_ ?_
  · rfl
  · rfl
  cases e5 : fewP s.F 140
  · simp [fewQ, e1, e2, e3, e4, e5]
  simp [e1]
  refine callS_tree (few6_ok s.G 140 h.G.1 h.G.2) ?_ ?_ ?_
  · rfl
  · rfl
  cases e6 : fewP s.G 140
  · simp [fewQ, e1, e2, e3, e4, e5, e6]
  simp [e1]
  refine callS_tree (few6_ok s.H 140 h.H.1 h.H.2) ?_ ?_ ?_
  · rfl
  · rfl
  cases e7 : fewP s.H 140
  · simp [fewQ, e1, e2, e3, e4, e5, e6, e7]
  simp [e1]
  refine callS_tree (few6_ok s.K 140 h.K.1 h.K.2) ?_ ?_ ?_
  · rfl
  · rfl
  simp [fewQ, e1, e2, e3, e4, e5, e6, e7]

theorem tiny_fewG {g : Gr} (h : fewG g = true) : tinyG g := by
  simp [fewG] at h
  exact ⟨by simp only [tiny]; omega, by simp only [tiny]; omega⟩
theorem tiny_fewP {p : Pa} (h : fewP p 140 = true) : tinyP p := by
  simp [fewP] at h
  exact ⟨by simp only [tiny]; omega, by simp only [tiny]; omega⟩
theorem tiny_fewQ {s : Sq} (h : fewQ s = true) : TinySq s := by
  simp only [fewQ, Bool.and_eq_true] at h
  obtain ⟨⟨⟨⟨⟨⟨⟨h1, h2⟩, h3⟩, h4⟩, h5⟩, h6⟩, h7⟩, h8⟩ := h
  exact ⟨tiny_fewG h1, tiny_fewG h2, tiny_fewG h3, tiny_fewG h4, tiny_fewP h5, tiny_fewP h6, tiny_fewP h7, tiny_fewP h8⟩

def c_lawKind : MFunc := ⟨57, [.tmp 2], .seq (.region [⟨some 1, .box 0 29 (.tmp 0), none⟩, ⟨some 2, .mv (.c (.one (.t (.bool false)))), none⟩]) (.seq (.seq (.region [⟨some 11, .call (.c (.one (.fn 11 []))) 64 [], none⟩, ⟨some 12, .not (.tmp 11), none⟩, ⟨some 13, .mv (.tmp 12), none⟩, ⟨some 14, .load true 16 (.tmp 1), some (13, false)⟩, ⟨some 15, .call (.c (.one (.fn 12 []))) 68 [.tmp 14], some (13, false)⟩, ⟨some 16, .not (.tmp 15), some (13, false)⟩, ⟨some 17, .pick (.tmp 13) (.c (.one (.t (.bool true)))) (.tmp 16), none⟩]) (.cond (.tmp 17) (.seq (.region [⟨some 18, .call (.c (.one (.fn 11 []))) 128 [], none⟩, ⟨some 2, .mv (.tmp 18), none⟩]) .ret) .skip)) (.seq (.region [⟨some 20, .load true 16 (.tmp 1), none⟩, ⟨some 21, .call (.c (.one (.fn 34 []))) 193 [.tmp 20], none⟩, ⟨some 19, .mv (.tmp 21), none⟩, ⟨some 22, .extract (.tmp 19) 0, none⟩, ⟨some 23, .extract (.tmp 19) 1, none⟩, ⟨some 3, .mv (.tmp 22), none⟩, ⟨some 4, .mv (.tmp 23), none⟩]) (.seq (.region [⟨some 25, .load true 16 (.tmp 1), none⟩, ⟨some 26, .call (.c (.one (.fn 35 []))) 257 [.tmp 25], none⟩, ⟨some 24, .mv (.tmp 26), none⟩, ⟨some 27, .extract (.tmp 24) 0, none⟩, ⟨some 28, .extract (.tmp 24) 1, none⟩, ⟨some 5, .mv (.tmp 27), none⟩, ⟨some 6, .mv (.tmp 28), none⟩]) (.seq (.region [⟨some 30, .load true 16 (.tmp 1), none⟩, ⟨some 31, .call (.c (.one (.fn 21 []))) 321 [.tmp 30], none⟩, ⟨some 29, .mv (.tmp 31), none⟩, ⟨some 32, .extract (.tmp 29) 0, none⟩, ⟨some 33, .extract (.tmp 29) 1, none⟩, ⟨some 7, .mv (.tmp 32), none⟩, ⟨some 8, .mv (.tmp 33), none⟩]) (.seq (.region [⟨some 35, .load true 16 (.tmp 1), none⟩, ⟨some 36, .call (.c (.one (.fn 36 []))) 385 [.tmp 35], none⟩, ⟨some 34, .mv (.tmp 36), none⟩, ⟨some 37, .extract (.tmp 34) 0, none⟩, ⟨some 38, .extract (.tmp 34) 1, none⟩, ⟨some 9, .mv (.tmp 37), none⟩, ⟨some 10, .mv (.tmp 38), none⟩]) (.seq (.region [⟨some 39, .mv (.tmp 3), none⟩, ⟨some 40, .mv (.tmp 5), none⟩, ⟨some 41, .eqS false 0 (.tmp 39) (.tmp 40), none⟩, ⟨some 42, .mv (.tmp 41), none⟩, ⟨some 43, .mv (.tmp 4), some (42, true)⟩, ⟨some 44, .mv (.tmp 6), some (42, true)⟩, ⟨some 45, .bin .eql (.tmp 43) (.tmp 44), some (42, true)⟩, ⟨some 46, .pick (.tmp 42) (.tmp 45) (.c (.one (.t (.bool false)))), none⟩, ⟨some 47, .mv (.tmp 46), none⟩, ⟨some 48, .mv (.tmp 7), some (47, true)⟩, ⟨some 49, .mv (.tmp 9), some (47, true)⟩, ⟨some 50, .bin .eql (.tmp 48) (.tmp 49), some (47, true)⟩, ⟨some 51, .pick (.tmp 47) (.tmp 50) (.c (.one (.t (.bool false)))), none⟩, ⟨some 52, .mv (.tmp 51), none⟩, ⟨some 53, .mv (.tmp 8), some (52, true)⟩, ⟨some 54, .mv (.tmp 10), some (52, true)⟩, ⟨some 55, .bin .eql (.tmp 53) (.tmp 54), some (52, true)⟩, ⟨some 56, .pick (.tmp 52) (.tmp 55) (.c (.one (.t (.bool false)))), none⟩, ⟨some 2, .mv (.tmp 56), none⟩]) .ret))))))⟩
theorem k_lawKind : cFn Tryz.prog Tryz.f8 = some c_lawKind := by kernel_rfl
set_option maxHeartbeats 1000000 in
theorem lawKind_ok (s : Sq) (h : HugeQ s) : CallOK Tryz.prog 8 [s.v] (.sv (false, [.bool true])) := by
  refine callOK_W (callS_W (by kernel_rfl) Tryz.func8 k_lawKind (callable_of Tryz.func8 (by kernel_rfl)) (by simp [c_lawKind]) ?_)
  simp [c_lawKind, Sq.v, Sq.cs]
  refine callS_tree awake14_ok ?_ ?_ ?_
  · rfl
  · rfl
  simp
  refine callS_tree (few14_ok s h) ?_ ?_ ?_
  · rfl
  · rfl
  cases hf : fewQ s
  · simp
    refine callS_tree awake14_ok ?_ ?_ ?_
    · rfl
    · rfl
    simp
  have ht := tiny_fewQ hf
  simp
  refine callS_tree (sCommX_ok s ht) ?_ ?_ ?_
  · rfl
  · rfl
  simp
  refine callS_tree (rCommX_ok s ht) ?_ ?_ ?_
  · rfl
  · rfl
  simp
  refine callS_tree (sKind_ok s ht) ?_ ?_ ?_
  · rfl
  · rfl
  simp [kindT]
  refine callS_tree (kind14_ok s ht) ?_ ?_ ?_
  · rfl
  · rfl
  simp [kindT]
end Go.Proofs.YthcnpnogfblkcaaGreat
