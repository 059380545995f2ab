/-
  Joined texts: steps of this claim, part 4. No condition beyond those that each statement names.
-/
import Derived.Test.YthcnpnogfblkcaaGreatK3
/- Contracts: standard pushouts. -/
namespace Go.Proofs.YthcnpnogfblkcaaGreat
open Abs
set_option linter.unusedSimpArgs false
set_option linter.unusedVariables false
attribute [local simp] rn0 rn1 rn2 rn3 rn4 rn5 rn6 rn7 evOp nests Arg.ev St.val St.set St.new sliceOf binInt2 binInt AV.cells rdAt St.live retOf resOf resAll treeOf treeCell treeCells treeTups untree frameOf TV.av TR.av ints edgs prs fillV splice intsOf trees V1.tree bx Gr.v Pa.v opRd opWr opNew opNewR opArgs argsRd argRd Arg.rd AV.refs V1.refs refsL dstL

structure Sp where
  A : Gr
  B : Gr
  C : Gr
  F : Pa
  G : Pa
def Sp.cs (s : Sp) : List Abs.C := [ints s.A.nodes, edgs s.A.edges, ints s.B.nodes, edgs s.B.edges, ints s.C.nodes, edgs s.C.edges, ints s.F.nodes, ints s.F.edges, ints s.G.nodes, ints s.G.edges]
def Sp.v (s : Sp) : TV := (true, s.cs)
structure TinySp (s : Sp) : Prop where
  A : tinyG s.A
  B : tinyG s.B
  C : tinyG s.C
  F : tinyP s.F
  G : tinyP s.G
/-- The error of a span. -/
def spErr (s : Sp) : Int := if morErr s.A s.B s.F = 0 then morErr s.A s.C s.G else morErr s.A s.B s.F
structure SpOk (s : Sp) : Prop where
  F : MorOk s.A s.B s.F
  G : MorOk s.A s.C s.G
theorem spErr_ok {s : Sp} (h : spErr s = 0) : SpOk s := by
  unfold spErr at h
  split at h
  · exact ⟨mor_ok (by assumption), mor_ok h⟩
  · exact absurd h (by assumption)

def c_pspan : MFunc := ⟨21, [.tmp 2], .seq (.region [⟨some 1, .box 0 47 (.tmp 0), none⟩, ⟨some 2, .mv (.c (.one (.t (.int .i64 0)))), none⟩]) (.seq (.seq (.region [⟨some 4, .fieldA 0 (.tmp 1), none⟩, ⟨some 5, .load true 2 (.tmp 4), none⟩, ⟨some 6, .fieldA 2 (.tmp 1), none⟩, ⟨some 7, .load true 2 (.tmp 6), none⟩, ⟨some 8, .fieldA 6 (.tmp 1), none⟩, ⟨some 9, .load true 2 (.tmp 8), none⟩, ⟨some 10, .call (.c (.one (.fn 41 []))) 70 [.tmp 5, .tmp 7, .tmp 9], none⟩, ⟨some 3, .mv (.tmp 10), none⟩]) (.seq (.region [⟨some 11, .mv (.tmp 3), none⟩, ⟨some 12, .bin .neq (.tmp 11) (.c (.one (.t (.int .i64 0)))), none⟩]) (.cond (.tmp 12) (.seq (.region [⟨some 13, .mv (.tmp 3), none⟩, ⟨some 2, .mv (.tmp 13), none⟩]) .ret) .skip))) (.seq (.region [⟨some 14, .fieldA 0 (.tmp 1), none⟩, ⟨some 15, .load true 2 (.tmp 14), none⟩, ⟨some 16, .fieldA 4 (.tmp 1), none⟩, ⟨some 17, .load true 2 (.tmp 16), none⟩, ⟨some 18, .fieldA 8 (.tmp 1), none⟩, ⟨some 19, .load true 2 (.tmp 18), none⟩, ⟨some 20, .call (.c (.one (.fn 41 []))) 262 [.tmp 15, .tmp 17, .tmp 19], none⟩, ⟨some 2, .mv (.tmp 20), none⟩]) .ret))⟩
theorem k_pspan : cFn Tryz.prog Tryz.f95 = some c_pspan := by kernel_rfl
theorem pspan_ok (s : Sp) (h : TinySp s) : CallOK Tryz.prog 95 [s.v] (.sv (false, [.int .i64 (spErr s)])) := by
  refine callOK_W (callS_W (by kernel_rfl) Tryz.func95 k_pspan (callable_of Tryz.func95 (by kernel_rfl)) (by simp [c_pspan]) ?_)
  simp [c_pspan, Sp.v, Sp.cs]
  refine callS_tree (mvalid_ok s.A s.B s.F h.A h.B h.F) ?_ ?_ ?_
  · rfl
  · rfl
  by_cases h1 : morErr s.A s.B s.F = 0
  case neg => simp [h1, spErr]
  simp [h1]
  refine callS_tree (mvalid_ok s.A s.C s.G h.A h.C h.G) ?_ ?_ ?_
  · rfl
  · rfl
  simp [h1, spErr]

def c_span10 : MFunc := ⟨21, [.tmp 2], .seq (.region [⟨some 1, .box 0 47 (.tmp 0), none⟩, ⟨some 2, .mv (.c (.one (.t (.int .i64 0)))), none⟩]) (.seq (.seq (.region [⟨some 4, .fieldA 0 (.tmp 1), none⟩, ⟨some 5, .load true 2 (.tmp 4), none⟩, ⟨some 6, .fieldA 2 (.tmp 1), none⟩, ⟨some 7, .load true 2 (.tmp 6), none⟩, ⟨some 8, .fieldA 6 (.tmp 1), none⟩, ⟨some 9, .load true 2 (.tmp 8), none⟩, ⟨some 10, .call (.c (.one (.fn 48 []))) 70 [.tmp 5, .tmp 7, .tmp 9], none⟩, ⟨some 3, .mv (.tmp 10), none⟩]) (.seq (.region [⟨some 11, .mv (.tmp 3), none⟩, ⟨some 12, .bin .neq (.tmp 11) (.c (.one (.t (.int .i64 0)))), none⟩]) (.cond (.tmp 12) (.seq (.region [⟨some 13, .mv (.tmp 3), none⟩, ⟨some 2, .mv (.tmp 13), none⟩]) .ret) .skip))) (.seq (.region [⟨some 14, .fieldA 0 (.tmp 1), none⟩, ⟨some 15, .load true 2 (.tmp 14), none⟩, ⟨some 16, .fieldA 4 (.tmp 1), none⟩, ⟨some 17, .load true 2 (.tmp 16), none⟩, ⟨some 18, .fieldA 8 (.tmp 1), none⟩, ⟨some 19, .load true 2 (.tmp 18), none⟩, ⟨some 20, .call (.c (.one (.fn 48 []))) 262 [.tmp 15, .tmp 17, .tmp 19], none⟩, ⟨some 2, .mv (.tmp 20), none⟩]) .ret))⟩
theorem k_span10 : cFn Tryz.prog Tryz.f93 = some c_span10 := by kernel_rfl
theorem span10_ok (s : Sp) (h : TinySp s) : CallOK Tryz.prog 93 [s.v] (.sv (false, [.int .i64 (spErr s)])) := by
  refine callOK_W (callS_W (by kernel_rfl) Tryz.func93 k_span10 (callable_of Tryz.func93 (by kernel_rfl)) (by simp [c_span10]) ?_)
  simp [c_span10, Sp.v, Sp.cs]
  refine callS_tree (rvalid6_ok s.A s.B s.F h.A h.B h.F) ?_ ?_ ?_
  · rfl
  · rfl
  by_cases h1 : morErr s.A s.B s.F = 0
  case neg => simp [h1, spErr]
  simp [h1]
  refine callS_tree (rvalid6_ok s.A s.C s.G h.A h.C h.G) ?_ ?_ ?_
  · rfl
  · rfl
  simp [h1, spErr]

def poU (s : Sp) : Gr := unG s.B s.C
def glN (s : Sp) : List (Int × Int) := pgK s.F.nodes s.G.nodes (unL s.B).nodes (unR s.B s.C).nodes s.F.nodes.length
def glE (s : Sp) : List (Int × Int) := pgK s.F.edges s.G.edges (unL s.B).edges (unR s.B s.C).edges s.F.edges.length
def poP (s : Sp) : List Int := genL (poU s).nodes.length (glN s)
def poQ (s : Sp) : List Int := genL (poU s).edges.length (glE s)
/-- The standard pushout: graph, and the morphisms into it. -/
def poG (s : Sp) : Gr := quoG (poU s) (poP s) (poQ s)
def poM (s : Sp) : Pa := quoM (poP s) (poQ s)
def poI (s : Sp) : Pa := thenP (unL s.B) (poM s)
def poJ (s : Sp) : Pa := thenP (unR s.B s.C) (poM s)
def gluR (s : Sp) : Gr × Pa × Pa × Int := if unErr s.B s.C = 0 then (poG s, poI s, poJ s, 0) else (⟨[], []⟩, ⟨[], []⟩, ⟨[], []⟩, unErr s.B s.C)
def gluT (x : Gr × Pa × Pa × Int) : TR := .tup [x.1.v, x.2.1.v, x.2.2.1.v, (false, [.int .i64 x.2.2.2])]
def poErr (s : Sp) : Int := if spErr s = 0 then unErr s.B s.C else spErr s
def poR (s : Sp) : Gr × Pa × Pa × Int := if poErr s = 0 then (poG s, poI s, poJ s, 0) else (⟨[], []⟩, ⟨[], []⟩, ⟨[], []⟩, poErr s)

theorem unErr_few {a b : Gr} (h : unErr a b = 0) : GrOk a ∧ GrOk b ∧ a.nodes.length + b.nodes.length ≤ 40 ∧ a.edges.length + b.edges.length ≤ 80 := by
  unfold unErr at h
  split at h
  · split at h
    · split at h
      · cases h
      · rename_i h1 h2 h3
        simp only [unBig] at h3
        exact ⟨gErr_ok h1, gErr_ok h2, by omega, by omega⟩
    · exact absurd h (by assumption)
  · exact absurd h (by assumption)
theorem unG_nlen {a b : Gr} : (unG a b).nodes.length = a.nodes.length + b.nodes.length := by simp [unG]
theorem unG_elen {a b : Gr} : (unG a b).edges.length = a.edges.length + b.edges.length := by simp [unG]
theorem unG_ok {a b : Gr} (h : unErr a b = 0) : GrOk (unG a b) := by
  obtain ⟨ga, gb, h1, h2⟩ := unErr_few h
  refine ⟨by rw [unG_nlen]; exact h1, by rw [unG_elen]; exact h2, fun x hx => ?_, fun e he => ?_⟩
  · simp only [unG, List.mem_append] at hx
    rcases hx with hx | hx
    · exact ga.kinds x hx
    · exact gb.kinds x hx
  · rw [unG_nlen]
    simp only [unG, List.mem_append, List.mem_map] at he
    rcases he with he | ⟨x, hx, rfl⟩
    · have := ga.edges e he
      omega
    · have := gb.edges x hx
      simp only [shiftE]
      omega
theorem glN_in {s : Sp} (ok : SpOk s) : pairsIn (glN s) (poU s).nodes.length := fun q hq => by
  simp only [glN, pgK, List.mem_map, List.mem_range] at hq
  obtain ⟨i, hi, rfl⟩ := hq
  have l1 := ok.F.ln
  have l2 := ok.G.ln
  obtain ⟨a1, a2, _⟩ := ok.F.n i (by omega)
  obtain ⟨b1, b2, _⟩ := ok.G.n i (by omega)
  obtain ⟨a, ha⟩ := Int.eq_ofNat_of_zero_le a1
  obtain ⟨b, hb⟩ := Int.eq_ofNat_of_zero_le b1
  simp only [ha, hb, Int.toNat_natCast, unL, unR, poU]
  rw [numL_nth (by omega), numL_nth (by omega), unG_nlen]
  omega
theorem glE_in {s : Sp} (ok : SpOk s) : pairsIn (glE s) (poU s).edges.length := fun q hq => by
  simp only [glE, pgK, List.mem_map, List.mem_range] at hq
  obtain ⟨i, hi, rfl⟩ := hq
  have l1 := ok.F.le
  have l2 := ok.G.le
  obtain ⟨a1, a2, _⟩ := ok.F.e i (by omega)
  obtain ⟨b1, b2, _⟩ := ok.G.e i (by omega)
  obtain ⟨a, ha⟩ := Int.eq_ofNat_of_zero_le a1
  obtain ⟨b, hb⟩ := Int.eq_ofNat_of_zero_le b1
  simp only [ha, hb, Int.toNat_natCast, unL, unR, poU]
  rw [numL_nth (by omega), numL_nth (by omega), unG_elen]
  omega
theorem numL_in {a n m : Nat} (h : a + n ≤ m) : placesIn (numL a n) m := fun x hx => by
  simp only [numL, List.mem_map, List.mem_range] at hx
  obtain ⟨i, hi, rfl⟩ := hx
  omega
theorem poM_len {s : Sp} : (poM s).nodes.length = s.B.nodes.length + s.C.nodes.length ∧ (poM s).edges.length = s.B.edges.length + s.C.edges.length := by
  simp only [poM, quoM, quotL_len, poP, poQ, genL_len, poU, unG_nlen, unG_elen]
  exact ⟨trivial, trivial⟩
theorem fitL {s : Sp} : FitsP (unL s.B) (poM s) := ⟨numL_in (by rw [poM_len.1]; omega), numL_in (by rw [poM_len.2]; omega)⟩
theorem fitR {s : Sp} : FitsP (unR s.B s.C) (poM s) := ⟨numL_in (by rw [poM_len.1]; omega), numL_in (by rw [poM_len.2]; omega)⟩
theorem tinyL {a : Gr} (h : tinyG a) : tinyP (unL a) := ⟨by simp only [unL, numL_len]; exact h.1, by simp only [unL, numL_len]; exact h.2⟩
theorem tinyR {a b : Gr} (h : tinyG b) : tinyP (unR a b) := ⟨by simp only [unR, numL_len]; exact h.1, by simp only [unR, numL_len]; exact h.2⟩

def c_pglue : MFunc := ⟨69, [.cell 2 true 2, .cell 3 true 2, .cell 4 true 2, .tmp 5], .seq (.region [⟨some 1, .box 0 47 (.tmp 0), none⟩, ⟨some 2, .alloc 1 25 [.nil, .nil], none⟩, ⟨some 3, .alloc 2 27 [.nil, .nil], none⟩, ⟨some 4, .alloc 3 27 [.nil, .nil], none⟩, ⟨some 5, .mv (.c (.one (.t (.int .i64 0)))), none⟩]) (.seq (.region [⟨some 13, .fieldA 2 (.tmp 1), none⟩, ⟨some 14, .load true 2 (.tmp 13), none⟩, ⟨some 15, .fieldA 4 (.tmp 1), none⟩, ⟨some 16, .load true 2 (.tmp 15), none⟩, ⟨some 17, .call (.c (.one (.fn 133 []))) 68 [.tmp 14, .tmp 16], none⟩, ⟨some 12, .mv (.tmp 17), none⟩, ⟨some 18, .extract (.tmp 12) 0, none⟩, ⟨some 19, .extract (.tmp 12) 1, none⟩, ⟨some 20, .extract (.tmp 12) 2, none⟩, ⟨some 21, .extract (.tmp 12) 3, none⟩, ⟨some 6, .alloc 74 25 [.nil, .nil], none⟩, ⟨some 7, .alloc 75 27 [.nil, .nil], none⟩, ⟨some 8, .alloc 76 27 [.nil, .nil], none⟩, ⟨none, .store 2 (.tmp 6) (.tmp 18), none⟩, ⟨none, .store 2 (.tmp 7) (.tmp 19), none⟩, ⟨none, .store 2 (.tmp 8) (.tmp 20), none⟩, ⟨some 9, .mv (.tmp 21), none⟩]) (.seq (.seq (.region [⟨some 22, .mv (.tmp 9), none⟩, ⟨some 23, .bin .neq (.tmp 22) (.c (.one (.t (.int .i64 0)))), none⟩]) (.cond (.tmp 23) (.seq (.region [⟨some 24, .build [.nil, .nil] [], none⟩, ⟨some 25, .build [.nil, .nil] [], none⟩, ⟨some 26, .build [.nil, .nil] [], none⟩, ⟨some 27, .mv (.tmp 9), none⟩, ⟨none, .store 2 (.tmp 2) (.tmp 24), none⟩, ⟨none, .store 2 (.tmp 3) (.tmp 25), none⟩, ⟨none, .store 2 (.tmp 4) (.tmp 26), none⟩, ⟨some 5, .mv (.tmp 27), none⟩]) .ret) .skip)) (.seq (.draw [[], [], [1], [2], [], [4], [5], [], [7], [], [9], [3, 6, 8, 10], [], [12], [13], [], [15], [16], [], [18], [], [20], [14, 17, 19, 21, 11], [0, 11, 22, 22], [23], [24], [24], [24], [], [], [28, 25, 23, 0, 1, 2, 3, 4, 5, 6, 7, 8, 9, 10, 11, 12, 13, 14, 15, 16, 17, 18, 19, 20, 21, 22, 23, 24, 25, 28, 29], [29, 26, 30, 0, 1, 2, 3, 4, 5, 6, 7, 8, 9, 10, 11, 12, 13, 14, 15, 16, 17, 18, 19, 20, 21, 22, 23, 24, 25, 26, 28, 29, 30], [27, 31, 0, 1, 2, 3, 4, 5, 6, 7, 8, 9, 10, 11, 12, 13, 14, 15, 16, 17, 18, 19, 20, 21, 22, 23, 24, 25, 26, 27, 28, 29, 30, 31]] [⟨some 29, .load true 2 (.tmp 6), none⟩, ⟨some 30, .fieldA 6 (.tmp 1), none⟩, ⟨some 31, .fieldA 0 (.tmp 30), none⟩, ⟨some 32, .load false 1 (.tmp 31), none⟩, ⟨some 33, .fieldA 8 (.tmp 1), none⟩, ⟨some 34, .fieldA 0 (.tmp 33), none⟩, ⟨some 35, .load false 1 (.tmp 34), none⟩, ⟨some 36, .fieldA 0 (.tmp 7), none⟩, ⟨some 37, .load false 1 (.tmp 36), none⟩, ⟨some 38, .fieldA 0 (.tmp 8), none⟩, ⟨some 39, .load false 1 (.tmp 38), none⟩, ⟨some 40, .call (.c (.one (.fn 135 []))) 267 [.tmp 32, .tmp 35, .tmp 37, .tmp 39], none⟩, ⟨some 41, .fieldA 6 (.tmp 1), none⟩, ⟨some 42, .fieldA 1 (.tmp 41), none⟩, ⟨some 43, .load false 1 (.tmp 42), none⟩, ⟨some 44, .fieldA 8 (.tmp 1), none⟩, ⟨some 45, .fieldA 1 (.tmp 44), none⟩, ⟨some 46, .load false 1 (.tmp 45), none⟩, ⟨some 47, .fieldA 1 (.tmp 7), none⟩, ⟨some 48, .load false 1 (.tmp 47), none⟩, ⟨some 49, .fieldA 1 (.tmp 8), none⟩, ⟨some 50, .load false 1 (.tmp 49), none⟩, ⟨some 51, .call (.c (.one (.fn 135 []))) 278 [.tmp 43, .tmp 46, .tmp 48, .tmp 50], none⟩, ⟨some 52, .call (.c (.one (.fn 134 []))) 279 [.tmp 29, .tmp 40, .tmp 51], none⟩, ⟨some 28, .mv (.tmp 52), none⟩, ⟨some 53, .extract (.tmp 28) 0, none⟩, ⟨some 54, .extract (.tmp 28) 1, none⟩, ⟨some 55, .extract (.tmp 28) 2, none⟩, ⟨some 10, .alloc 284 25 [.nil, .nil], none⟩, ⟨some 11, .alloc 285 27 [.nil, .nil], none⟩, ⟨none, .store 2 (.tmp 10) (.tmp 53), none⟩, ⟨none, .store 2 (.tmp 11) (.tmp 54), none⟩, ⟨some 9, .mv (.tmp 55), none⟩]) (.seq (.seq (.region [⟨some 56, .mv (.tmp 9), none⟩, ⟨some 57, .bin .neq (.tmp 56) (.c (.one (.t (.int .i64 0)))), none⟩]) (.cond (.tmp 57) (.seq (.region [⟨some 58, .build [.nil, .nil] [], none⟩, ⟨some 59, .build [.nil, .nil] [], none⟩, ⟨some 60, .build [.nil, .nil] [], none⟩, ⟨some 61, .mv (.tmp 9), none⟩, ⟨none, .store 2 (.tmp 2) (.tmp 58), none⟩, ⟨none, .store 2 (.tmp 3) (.tmp 59), none⟩, ⟨none, .store 2 (.tmp 4) (.tmp 60), none⟩, ⟨some 5, .mv (.tmp 61), none⟩]) .ret) .skip)) (.seq (.draw [[], [], [], [1, 2], [], [], [4, 5, 3], [0, 6, 0], [3, 7, 0, 1, 2, 3, 7], [6, 8, 0, 1, 2, 3, 4, 5, 6, 7, 8], [9, 0, 1, 2, 3, 4, 5, 6, 7, 8, 9]] [⟨some 62, .load true 2 (.tmp 10), none⟩, ⟨some 63, .load true 2 (.tmp 7), none⟩, ⟨some 64, .load true 2 (.tmp 11), none⟩, ⟨some 65, .call (.c (.one (.fn 136 []))) 451 [.tmp 63, .tmp 64], none⟩, ⟨some 66, .load true 2 (.tmp 8), none⟩, ⟨some 67, .load true 2 (.tmp 11), none⟩, ⟨some 68, .call (.c (.one (.fn 136 []))) 454 [.tmp 66, .tmp 67], none⟩, ⟨none, .store 2 (.tmp 2) (.tmp 62), none⟩, ⟨none, .store 2 (.tmp 3) (.tmp 65), none⟩, ⟨none, .store 2 (.tmp 4) (.tmp 68), none⟩, ⟨some 5, .mv (.c (.one (.t (.int .i64 0)))), none⟩]) .ret)))))⟩
theorem k_pglue : cFn Tryz.prog Tryz.f96 = some c_pglue := by kernel_rfl
set_option maxHeartbeats 4000000 in
theorem pglue_ok (s : Sp) (h : TinySp s) (ok : SpOk s) : CallOK Tryz.prog 96 [s.v] (gluT (gluR s)) := by
  refine callOK_W (callS_W (by kernel_rfl) Tryz.func96 k_pglue (callable_of Tryz.func96 (by kernel_rfl)) (by simp [c_pglue]) ?_)
  simp [c_pglue, Sp.v, Sp.cs]
  refine callS_tree (gunion_ok s.B s.C h.B h.C) ?_ ?_ ?_
  · rfl
  · simp [AV.still, V1.still]
  by_cases h1 : unErr s.B s.C = 0
  case neg =>
    have e : gluR s = (⟨[], []⟩, ⟨[], []⟩, ⟨[], []⟩, unErr s.B s.C) := by simp [gluR, h1]
    simp [unT, h1, gluT, e, edL]
  have e : gluR s = (poG s, poI s, poJ s, 0) := by simp [gluR, h1]
  obtain ⟨ga, gb, n1, n2⟩ := unErr_few h1
  have l1 := ok.F.ln
  have l2 := ok.G.ln
  have l3 := ok.F.le
  have l4 := ok.G.le
  have b1 := ok.F.ga.n
  have b2 := ok.F.ga.e
  simp [dw0, dw1, dw2, dw3, unT, h1]
  refine dCall_ok (callOK_of_row (ppairs_row s.F.nodes s.G.nodes (unL s.B).nodes (unR s.B s.C).nodes (by omega) (by omega) (fun x hx => by have := ok.F.rn x hx; simp only [unL, numL_len]; exact this) (fun x hx => by have := ok.G.rn x hx; simp only [unR, numL_len]; exact this))) ?_ ?_ ?_
  · rfl
  · rfl
  simp [dw0, dw1, dw2, dw3]
  refine dCall_ok (callOK_of_row (ppairs_row s.F.edges s.G.edges (unL s.B).edges (unR s.B s.C).edges (by omega) (by omega) (fun x hx => by have := ok.F.re x hx; simp only [unL, numL_len]; exact this) (fun x hx => by have := ok.G.re x hx; simp only [unR, numL_len]; exact this))) ?_ ?_ ?_
  · rfl
  · rfl
  simp [dw0, dw1, dw2, dw3]
  refine dCall_ok (pquotient_ok (poU s) (glN s) (glE s) (unG_ok h1) (by simp only [glN, pgK_len, tiny]; omega) (by simp only [glE, pgK_len, tiny]; omega) (glN_in ok) (glE_in ok)) ?_ ?_ ?_
  · rfl
  · rfl
  have eG : quoG (poU s) (genL (poU s).nodes.length (glN s)) (genL (poU s).edges.length (glE s)) = poG s := rfl
  have eM : quoM (genL (poU s).nodes.length (glN s)) (genL (poU s).edges.length (glE s)) = poM s := rfl
  rw [eG, eM]
  simp [dw0, dw1, dw2, dw3]
  refine ⟨rfl, ?_⟩
  refine dCall_ok (pthen_ok (unL s.B) (poM s) (tinyL h.B) fitL) ?_ ?_ ?_
  · rfl
  · rfl
  simp [dw0, dw1, dw2, dw3]
  refine dCall_ok (pthen_ok (unR s.B s.C) (poM s) (tinyR h.C) fitR) ?_ ?_ ?_
  · rfl
  · rfl
  simp [dw0, dw1, dw2, dw3, gluT, e, poI, poJ]
  rfl

def c_poOf : MFunc := ⟨21, [.cell 2 true 2, .cell 3 true 2, .cell 4 true 2, .tmp 5], .seq (.region [⟨some 1, .box 0 47 (.tmp 0), none⟩, ⟨some 2, .alloc 1 25 [.nil, .nil], none⟩, ⟨some 3, .alloc 2 27 [.nil, .nil], none⟩, ⟨some 4, .alloc 3 27 [.nil, .nil], none⟩, ⟨some 5, .mv (.c (.one (.t (.int .i64 0)))), none⟩]) (.seq (.seq (.region [⟨some 7, .load true 10 (.tmp 1), none⟩, ⟨some 8, .call (.c (.one (.fn 95 []))) 65 [.tmp 7], none⟩, ⟨some 6, .mv (.tmp 8), none⟩]) (.seq (.region [⟨some 9, .mv (.tmp 6), none⟩, ⟨some 10, .bin .neq (.tmp 9) (.c (.one (.t (.int .i64 0)))), none⟩]) (.cond (.tmp 10) (.seq (.region [⟨some 11, .build [.nil, .nil] [], none⟩, ⟨some 12, .build [.nil, .nil] [], none⟩, ⟨some 13, .build [.nil, .nil] [], none⟩, ⟨some 14, .mv (.tmp 6), none⟩, ⟨none, .store 2 (.tmp 2) (.tmp 11), none⟩, ⟨none, .store 2 (.tmp 3) (.tmp 12), none⟩, ⟨none, .store 2 (.tmp 4) (.tmp 13), none⟩, ⟨some 5, .mv (.tmp 14), none⟩]) .ret) .skip))) (.seq (.region [⟨some 15, .load true 10 (.tmp 1), none⟩, ⟨some 16, .call (.c (.one (.fn 96 []))) 257 [.tmp 15], none⟩, ⟨some 17, .extract (.tmp 16) 0, none⟩, ⟨some 18, .extract (.tmp 16) 1, none⟩, ⟨some 19, .extract (.tmp 16) 2, none⟩, ⟨some 20, .extract (.tmp 16) 3, none⟩, ⟨none, .store 2 (.tmp 2) (.tmp 17), none⟩, ⟨none, .store 2 (.tmp 3) (.tmp 18), none⟩, ⟨none, .store 2 (.tmp 4) (.tmp 19), none⟩, ⟨some 5, .mv (.tmp 20), none⟩]) .ret))⟩
theorem k_poOf : cFn Tryz.prog Tryz.f55 = some c_poOf := by kernel_rfl
theorem poOf_ok (s : Sp) (h : TinySp s) : CallOK Tryz.prog 55 [s.v] (gluT (poR s)) := by
  refine callOK_W (callS_W (by kernel_rfl) Tryz.func55 k_poOf (callable_of Tryz.func55 (by kernel_rfl)) (by simp [c_poOf]) ?_)
  simp [c_poOf, Sp.v, Sp.cs]
  refine callS_tree (pspan_ok s h) ?_ ?_ ?_
  · rfl
  · rfl
  by_cases h1 : spErr s = 0
  case neg =>
    have e : poR s = (⟨[], []⟩, ⟨[], []⟩, ⟨[], []⟩, spErr s) := by simp [poR, poErr, h1]
    simp [h1, gluT, e, edL]
  have e : poR s = gluR s := by simp only [poR, gluR, poErr, if_pos h1]
  rw [e]
  simp [h1]
  refine callS_tree (pglue_ok s h (spErr_ok h1)) ?_ ?_ ?_
  · rfl
  · rfl
  simp [gluT]
end Go.Proofs.YthcnpnogfblkcaaGreat

/- Contracts: mediating morphisms out of pushouts; checks of pushouts. -/
namespace Go.Proofs.YthcnpnogfblkcaaGreat
open Abs
set_option linter.unusedSimpArgs false
set_option linter.unusedVariables false
attribute [local simp] rn0 rn1 rn2 rn3 rn4 rn5 rn6 rn7 evOp nests Arg.ev St.val St.set St.new sliceOf binInt2 binInt AV.cells rdAt St.live retOf resOf resAll treeOf treeCell treeCells treeTups untree frameOf TV.av TR.av ints edgs prs fillV splice intsOf trees V1.tree bx Gr.v Pa.v

/-- A list of zeros into which numbers are written. -/
def wrL (n : Nat) (ws : List (Int × Int)) : List Int := ws.foldl (fun o w => o.set w.1.toNat w.2) (List.replicate n 0)
theorem wr_len {ws : List (Int × Int)} {o : List Int} : (ws.foldl (fun o w => o.set w.1.toNat w.2) o).length = o.length := by
  induction ws generalizing o with
  | nil => rfl
  | cons w r ih => rw [List.foldl_cons, ih, List.length_set]
theorem wrL_len {n : Nat} {ws : List (Int × Int)} : (wrL n ws).length = n := by rw [wrL, wr_len, List.length_replicate]
theorem wrL_snoc {n : Nat} {ws : List (Int × Int)} {w : Int × Int} : wrL n (ws ++ [w]) = (wrL n ws).set w.1.toNat w.2 := by simp [wrL]
theorem zip_take_succ {a b : List Int} {k : Nat} (h : k < a.length) (h2 : a.length ≤ b.length) : (a.zip b).take (k + 1) = (a.zip b).take k ++ [(nth a k, nth b k)] := by
  have hz : k < (a.zip b).length := by simp; omega
  rw [List.take_succ_eq_append_getElem hz, nth_eq h, nth_eq (show k < b.length by omega)]
  simp
theorem zip_take_all {a b : List Int} (h2 : a.length ≤ b.length) : (a.zip b).take a.length = a.zip b := List.take_of_length_le (by simp; omega)

def c_filled : MFunc := ⟨41, [.tmp 6], .seq (.region [⟨some 6, .mv (.c (.one .nil)), none⟩]) (.seq (.region [⟨some 12, .mv (.tmp 0), none⟩, ⟨some 13, .make 65 3 1 8 [.t (.int .i64 0)] (.tmp 12) (.tmp 12), none⟩, ⟨some 7, .mv (.tmp 13), none⟩]) (.seq (.seq (.region [⟨some 14, .mv (.tmp 1), none⟩, ⟨some 15, .len (.tmp 14), none⟩, ⟨some 16, .mv (.c (.one (.t (.int .i64 0)))), none⟩]) (.block 0 (.loop (.seq (.region [⟨some 17, .bin .lss (.tmp 16) (.tmp 15), none⟩]) (.seq (.cond (.tmp 17) .skip (.exit 0)) (.seq (.block 1 (.seq (.region [⟨some 18, .mv (.tmp 16), none⟩, ⟨some 19, .idxA 1 (.tmp 14) (.tmp 16), none⟩, ⟨some 20, .load false 1 (.tmp 19), none⟩, ⟨some 8, .mv (.tmp 18), none⟩, ⟨some 9, .mv (.tmp 20), none⟩]) (.seq (.region [⟨some 21, .mv (.tmp 9), none⟩, ⟨some 22, .len (.tmp 21), none⟩, ⟨some 23, .mv (.c (.one (.t (.int .i64 0)))), none⟩]) (.block 2 (.loop (.seq (.region [⟨some 24, .bin .lss (.tmp 23) (.tmp 22), none⟩]) (.seq (.cond (.tmp 24) .skip (.exit 2)) (.seq (.block 3 (.seq (.region [⟨some 25, .mv (.tmp 23), none⟩, ⟨some 26, .idxA 1 (.tmp 21) (.tmp 23), none⟩, ⟨some 27, .load false 1 (.tmp 26), none⟩, ⟨some 10, .mv (.tmp 25), none⟩, ⟨some 11, .mv (.tmp 27), none⟩]) (.region [⟨some 28, .mv (.tmp 7), none⟩, ⟨some 29, .mv (.tmp 11), none⟩, ⟨some 30, .mv (.tmp 2), none⟩, ⟨some 31, .mv (.tmp 8), none⟩, ⟨some 32, .idxA 1 (.tmp 30) (.tmp 31), none⟩, ⟨some 33, .load false 1 (.tmp 32), none⟩, ⟨some 34, .mv (.tmp 10), none⟩, ⟨some 35, .idxA 1 (.tmp 33) (.tmp 34), none⟩, ⟨some 36, .load false 1 (.tmp 35), none⟩, ⟨some 37, .idxA 1 (.tmp 28) (.tmp 29), none⟩, ⟨none, .store 1 (.tmp 37) (.tmp 36), none⟩]))) (.region [⟨some 38, .bin .add (.tmp 23) (.c (.one (.t (.int .i64 1)))), none⟩, ⟨some 23, .mv (.tmp 38), none⟩]))))))))) (.region [⟨some 39, .bin .add (.tmp 16) (.c (.one (.t (.int .i64 1)))), none⟩, ⟨some 16, .mv (.tmp 39), none⟩]))))))) (.seq (.region [⟨some 40, .mv (.tmp 7), none⟩, ⟨some 6, .mv (.tmp 40), none⟩]) .ret)))⟩
theorem k_filled : cFn Tryz.prog Tryz.f137 = some c_filled := by kernel_rfl
set_option maxHeartbeats 1000000 in
theorem filled_ok (n : Nat) (a b c d : List Int) (hn : tiny n) (ha : placesIn a n) (hb : placesIn b n) (hac : a.length ≤ c.length) (hbd : b.length ≤ d.length) (la : tiny a.length) (lb : tiny b.length) :
    CallOK Tryz.prog 137 [(false, [.int .i64 n]), (false, [twoL a b]), (false, [twoL c d])] (.sv (false, [ints (wrL n (a.zip c ++ b.zip d))])) := by
  refine callOK_W (callS_W (by kernel_rfl) Tryz.func137 k_filled (callable_of Tryz.func137 (by kernel_rfl)) (by simp [c_filled]) ?_)
  have hn' := hn
  simp only [tiny] at hn'
  have n1 : n * 8 ≤ 140737488355328 := by omega
  have n2 : (n : Int) ≤ 9223372036854775807 := by omega
  simp [c_filled, twoL, n1, n2]
  refine loopW_count 16 2 (fun k S => S.fr 2 = .one (.t (twoL c d)) ∧ S.fr 7 = .one (.row (65, 0)) ∧ S.fr 14 = .one (.t (twoL a b)) ∧ S.fr 15 = .one (.t (.int .i64 2)) ∧ S.ob (65, 0) = some (rowO (wrL n (if k = 0 then [] else if k = 1 then a.zip c else a.zip c ++ b.zip d)))) (by omega) ?_ ?_ ?_
  · simp [twoL, rowO, wrL]
  · rintro k S hlt hw hc ⟨f2, f7, f14, f15, o65⟩
    have hk : k = 0 ∨ k = 1 := by omega
    rcases hk with rfl | rfl
    · simp at hc hw o65
      simp [twoL, f2, f7, f14, f15, hc]
      refine loopW_count 23 a.length (fun j S => S.fr 2 = .one (.t (twoL c d)) ∧ S.fr 7 = .one (.row (65, 0)) ∧ S.fr 8 = .one (.t (.int .i64 0)) ∧ S.fr 14 = .one (.t (twoL a b)) ∧ S.fr 15 = .one (.t (.int .i64 2)) ∧ S.fr 16 = .one (.t (.int .i64 0)) ∧ S.fr 21 = .one (.t (ints a)) ∧ S.fr 22 = .one (.t (.int .i64 a.length)) ∧ S.ob (65, 0) = some (rowO (wrL n ((a.zip c).take j)))) la.small ?_ ?_ ?_
      · simp [twoL, f2, f7, f14, f15, hc, o65]
      · rintro j S' hlt' hw' hc' ⟨f2, f7, f8, f14, f15, f16, f21, f22, o65⟩
        have hj2 : j < c.length := by omega
        obtain ⟨x1, x2⟩ := ha _ (nth_mem hlt')
        obtain ⟨x, hx⟩ := Int.eq_ofNat_of_zero_le x1
        have hxn : x < n := by omega
        have hxn1 : x + 1 ≤ n := by omega
        have hxl : x < (wrL n ((a.zip c).take j)).length := by rw [wrL_len]; exact hxn
        have e2 := row_set (v := nth c j) hxl
        have e3 : wrL n ((a.zip c).take (j + 1)) = (wrL n ((a.zip c).take j)).set x (nth c j) := by rw [zip_take_succ hlt' hac, wrL_snoc, hx]; rfl
        have e4 := wrL_len (n := n) (ws := (a.zip c).take j)
        have e5 := wrL_len (n := n) (ws := (a.zip c).take (j + 1))
        simp [twoL, f2, f7, f8, f14, f15, f16, f21, f22, hc', hlt', drop_nth hlt', hx, hj2, drop_nth hj2, o65, rowO, e4, hxn, hxn1, hw', e2, e3]
      · rintro S' hc' ⟨f2, f7, f8, f14, f15, f16, f21, f22, o65⟩
        rw [zip_take_all hac] at o65
        simp [twoL, f2, f7, f8, f14, f15, f16, f21, f22, hc', hw, o65]
    · simp at hc hw o65
      simp [twoL, f2, f7, f14, f15, hc]
      refine loopW_count 23 b.length (fun j S => S.fr 2 = .one (.t (twoL c d)) ∧ S.fr 7 = .one (.row (65, 0)) ∧ S.fr 8 = .one (.t (.int .i64 1)) ∧ S.fr 14 = .one (.t (twoL a b)) ∧ S.fr 15 = .one (.t (.int .i64 2)) ∧ S.fr 16 = .one (.t (.int .i64 1)) ∧ S.fr 21 = .one (.t (ints b)) ∧ S.fr 22 = .one (.t (.int .i64 b.length)) ∧ S.ob (65, 0) = some (rowO (wrL n (a.zip c ++ (b.zip d).take j)))) lb.small ?_ ?_ ?_
      · simp [twoL, f2, f7, f14, f15, hc, o65]
      · rintro j S' hlt' hw' hc' ⟨f2, f7, f8, f14, f15, f16, f21, f22, o65⟩
        have hj2 : j < d.length := by omega
        obtain ⟨x1, x2⟩ := hb _ (nth_mem hlt')
        obtain ⟨x, hx⟩ := Int.eq_ofNat_of_zero_le x1
        have hxn : x < n := by omega
        have hxn1 : x + 1 ≤ n := by omega
        have hxl : x < (wrL n (a.zip c ++ (b.zip d).take j)).length := by rw [wrL_len]; exact hxn
        have e2 := row_set (v := nth d j) hxl
        have e3 : wrL n (a.zip c ++ (b.zip d).take (j + 1)) = (wrL n (a.zip c ++ (b.zip d).take j)).set x (nth d j) := by rw [zip_take_succ hlt' hbd, ← List.append_assoc, wrL_snoc, hx]; rfl
        have e4 := wrL_len (n := n) (ws := a.zip c ++ (b.zip d).take j)
        have e5 := wrL_len (n := n) (ws := a.zip c ++ (b.zip d).take (j + 1))
        simp [twoL, f2, f7, f8, f14, f15, f16, f21, f22, hc', hlt', drop_nth hlt', hx, hj2, drop_nth hj2, o65, rowO, e4, hxn, hxn1, hw', e2, e3]
      · rintro S' hc' ⟨f2, f7, f8, f14, f15, f16, f21, f22, o65⟩
        rw [zip_take_all hbd] at o65
        simp [twoL, f2, f7, f8, f14, f15, f16, f21, f22, hc', hw, o65]
  · rintro S hc ⟨f2, f7, f14, f15, o65⟩
    simp at o65
    have et := fun fr cnt => rowO_tree (fr := fr) (cnt := cnt) o65
    simp [f2, f7, f14, f15, hc, -treeCell, treeCell_t, et]
end Go.Proofs.YthcnpnogfblkcaaGreat

/- Contracts: mediating morphisms out of pushouts (2); checks of pushouts. -/
namespace Go.Proofs.YthcnpnogfblkcaaGreat
open Abs
set_option linter.unusedSimpArgs false
set_option linter.unusedVariables false
attribute [local simp] rn0 rn1 rn2 rn3 rn4 rn5 rn6 rn7 evOp nests Arg.ev St.val St.set St.new sliceOf binInt2 binInt AV.cells rdAt St.live retOf resOf resAll treeOf treeCell treeCells treeTups untree frameOf TV.av TR.av ints edgs prs fillV splice intsOf trees V1.tree bx Gr.v Pa.v opRd opWr opNew opNewR opArgs argsRd argRd Arg.rd AV.refs V1.refs refsL dstL

theorem cls_collect {α : Type} {p : List Int} {f : Nat → α} : ∀ {n : Nat}, (collect (fun i => if nth p i = i then some (f i) else none) n).length = clsN p n
  | 0 => rfl
  | n + 1 => by
    have ih := cls_collect (p := p) (f := f) (n := n)
    by_cases e : nth p n = n
    · rw [collect_some (x := f n) (by rw [if_pos e]), List.length_append, ih]
      simp [clsN, e]
    · rw [collect_none (by rw [if_neg e]), ih]
      simp [clsN, e]
theorem quoG_nlen {u : Gr} {p q : List Int} : (quoG u p q).nodes.length = clsN p u.nodes.length := cls_collect
theorem quoG_elen {u : Gr} {p q : List Int} : (quoG u p q).edges.length = clsN q u.edges.length := cls_collect
theorem quotL_in {p : List Int} {n : Nat} (hp : Flat p) (hn : p.length = n) : placesIn (quotL p) (clsN p n) := fun x hx => by
  obtain ⟨i, hi, rfl⟩ := mem_nth hx
  rw [quotL_len] at hi
  obtain ⟨j, hj, hle⟩ := hp.fo.at hi
  have hf := hp.fx i hi
  rw [hj, Int.toNat_natCast] at hf
  rw [quotL_nth hi, hj, Int.toNat_natCast]
  have := clsN_lt (p := p) (a := j) (b := n) hf (by omega)
  omega
theorem thru_in {a b : List Int} {n : Nat} (h : placesIn b n) (hf : placesIn a b.length) : placesIn (thru a b) n := fun x hx => by
  simp only [thru, List.mem_map] at hx
  obtain ⟨y, hy, rfl⟩ := hx
  obtain ⟨h1, h2⟩ := hf y hy
  exact h _ (nth_mem (by omega))

theorem poP_flat {s : Sp} (ok : SpOk s) : Flat (poP s) := genL_flat (glN_in ok)
theorem poQ_flat {s : Sp} (ok : SpOk s) : Flat (poQ s) := genL_flat (glE_in ok)
theorem poI_nin {s : Sp} (ok : SpOk s) : placesIn (poI s).nodes (poG s).nodes.length := by
  rw [poG, quoG_nlen]
  exact thru_in (quotL_in (poP_flat ok) genL_len) fitL.fn
theorem poI_ein {s : Sp} (ok : SpOk s) : placesIn (poI s).edges (poG s).edges.length := by
  rw [poG, quoG_elen]
  exact thru_in (quotL_in (poQ_flat ok) genL_len) fitL.fe
theorem poJ_nin {s : Sp} (ok : SpOk s) : placesIn (poJ s).nodes (poG s).nodes.length := by
  rw [poG, quoG_nlen]
  exact thru_in (quotL_in (poP_flat ok) genL_len) fitR.fn
theorem poJ_ein {s : Sp} (ok : SpOk s) : placesIn (poJ s).edges (poG s).edges.length := by
  rw [poG, quoG_elen]
  exact thru_in (quotL_in (poQ_flat ok) genL_len) fitR.fe
theorem poI_len {s : Sp} : (poI s).nodes.length = s.B.nodes.length ∧ (poI s).edges.length = s.B.edges.length := by simp [poI, thenP, thru_len, unL, numL_len]
theorem poJ_len {s : Sp} : (poJ s).nodes.length = s.C.nodes.length ∧ (poJ s).edges.length = s.C.edges.length := by simp [poJ, thenP, thru_len, unR, numL_len]
theorem poG_few {s : Sp} (h : unErr s.B s.C = 0) : (poG s).nodes.length ≤ 40 ∧ (poG s).edges.length ≤ 80 := by
  have g := unG_ok h
  have h1 := g.n
  have h2 := g.e
  have h3 : (poG s).nodes.length ≤ (unG s.B s.C).nodes.length := collect_len
  have h4 : (poG s).edges.length ≤ (unG s.B s.C).edges.length := collect_len
  omega

/-- The mediating morphism of a cocone, or an error. -/
def pmE (s : Sp) (x : Gr) (h k : Pa) : Int :=
  if spErr s = 0 then if morErr s.B x h = 0 then if morErr s.C x k = 0 then if unErr s.B s.C = 0 then if sameP (thenP s.F h) (thenP s.G k) = true then 0 else 11 else unErr s.B s.C else morErr s.C x k else morErr s.B x h else spErr s
def pmC (s : Sp) (h k : Pa) : Pa := ⟨wrL (poG s).nodes.length ((poI s).nodes.zip h.nodes ++ (poJ s).nodes.zip k.nodes), wrL (poG s).edges.length ((poI s).edges.zip h.edges ++ (poJ s).edges.zip k.edges)⟩
def pmR (s : Sp) (x : Gr) (h k : Pa) : Pa × Int := if pmE s x h k = 0 then (pmC s h k, 0) else (⟨[], []⟩, pmE s x h k)
def pmT (y : Pa × Int) : TR := .tup [y.1.v, (false, [.int .i64 y.2])]

def c_poMed : MFunc := ⟨92, [.cell 8 true 2, .tmp 9], .seq (.region [⟨some 4, .box 0 47 (.tmp 0), none⟩, ⟨some 5, .box 1 25 (.tmp 1), none⟩, ⟨some 6, .box 2 27 (.tmp 2), none⟩, ⟨some 7, .box 3 27 (.tmp 3), none⟩, ⟨some 8, .alloc 4 27 [.nil, .nil], none⟩, ⟨some 9, .mv (.c (.one (.t (.int .i64 0)))), none⟩]) (.seq (.seq (.region [⟨some 17, .load true 10 (.tmp 4), none⟩, ⟨some 18, .call (.c (.one (.fn 95 []))) 65 [.tmp 17], none⟩, ⟨some 10, .mv (.tmp 18), none⟩]) (.seq (.region [⟨some 19, .mv (.tmp 10), none⟩, ⟨some 20, .bin .neq (.tmp 19) (.c (.one (.t (.int .i64 0)))), none⟩]) (.cond (.tmp 20) (.seq (.region [⟨some 21, .build [.nil, .nil] [], none⟩, ⟨some 22, .mv (.tmp 10), none⟩, ⟨none, .store 2 (.tmp 8) (.tmp 21), none⟩, ⟨some 9, .mv (.tmp 22), none⟩]) .ret) .skip))) (.seq (.seq (.region [⟨some 23, .fieldA 2 (.tmp 4), none⟩, ⟨some 24, .load true 2 (.tmp 23), none⟩, ⟨some 25, .load true 2 (.tmp 5), none⟩, ⟨some 26, .load true 2 (.tmp 6), none⟩, ⟨some 27, .call (.c (.one (.fn 41 []))) 260 [.tmp 24, .tmp 25, .tmp 26], none⟩, ⟨some 11, .mv (.tmp 27), none⟩]) (.seq (.region [⟨some 28, .mv (.tmp 11), none⟩, ⟨some 29, .bin .neq (.tmp 28) (.c (.one (.t (.int .i64 0)))), none⟩]) (.cond (.tmp 29) (.seq (.region [⟨some 30, .build [.nil, .nil] [], none⟩, ⟨some 31, .mv (.tmp 11), none⟩, ⟨none, .store 2 (.tmp 8) (.tmp 30), none⟩, ⟨some 9, .mv (.tmp 31), none⟩]) .ret) .skip))) (.seq (.seq (.region [⟨some 32, .fieldA 4 (.tmp 4), none⟩, ⟨some 33, .load true 2 (.tmp 32), none⟩, ⟨some 34, .load true 2 (.tmp 5), none⟩, ⟨some 35, .load true 2 (.tmp 7), none⟩, ⟨some 36, .call (.c (.one (.fn 41 []))) 452 [.tmp 33, .tmp 34, .tmp 35], none⟩, ⟨some 12, .mv (.tmp 36), none⟩]) (.seq (.region [⟨some 37, .mv (.tmp 12), none⟩, ⟨some 38, .bin .neq (.tmp 37) (.c (.one (.t (.int .i64 0)))), none⟩]) (.cond (.tmp 38) (.seq (.region [⟨some 39, .build [.nil, .nil] [], none⟩, ⟨some 40, .mv (.tmp 12), none⟩, ⟨none, .store 2 (.tmp 8) (.tmp 39), none⟩, ⟨some 9, .mv (.tmp 40), none⟩]) .ret) .skip))) (.seq (.region [⟨some 42, .load true 10 (.tmp 4), none⟩, ⟨some 43, .call (.c (.one (.fn 96 []))) 641 [.tmp 42], none⟩, ⟨some 41, .mv (.tmp 43), none⟩, ⟨some 44, .extract (.tmp 41) 0, none⟩, ⟨some 45, .extract (.tmp 41) 1, none⟩, ⟨some 46, .extract (.tmp 41) 2, none⟩, ⟨some 47, .extract (.tmp 41) 3, none⟩, ⟨some 13, .alloc 647 25 [.nil, .nil], none⟩, ⟨some 14, .alloc 648 27 [.nil, .nil], none⟩, ⟨some 15, .alloc 649 27 [.nil, .nil], none⟩, ⟨none, .store 2 (.tmp 13) (.tmp 44), none⟩, ⟨none, .store 2 (.tmp 14) (.tmp 45), none⟩, ⟨none, .store 2 (.tmp 15) (.tmp 46), none⟩, ⟨some 16, .mv (.tmp 47), none⟩]) (.seq (.seq (.region [⟨some 48, .mv (.tmp 16), none⟩, ⟨some 49, .bin .neq (.tmp 48) (.c (.one (.t (.int .i64 0)))), none⟩]) (.cond (.tmp 49) (.seq (.region [⟨some 50, .build [.nil, .nil] [], none⟩, ⟨some 51, .mv (.tmp 16), none⟩, ⟨none, .store 2 (.tmp 8) (.tmp 50), none⟩, ⟨some 9, .mv (.tmp 51), none⟩]) .ret) .skip)) (.seq (.seq (.draw [[], [0], [], [1, 2], [], [4], [], [5, 6, 3], [3, 7, 7], [8]] [⟨some 52, .fieldA 6 (.tmp 4), none⟩, ⟨some 53, .load true 2 (.tmp 52), none⟩, ⟨some 54, .load true 2 (.tmp 6), none⟩, ⟨some 55, .call (.c (.one (.fn 136 []))) 835 [.tmp 53, .tmp 54], none⟩, ⟨some 56, .fieldA 8 (.tmp 4), none⟩, ⟨some 57, .load true 2 (.tmp 56), none⟩, ⟨some 58, .load true 2 (.tmp 7), none⟩, ⟨some 59, .call (.c (.one (.fn 136 []))) 839 [.tmp 57, .tmp 58], none⟩, ⟨some 60, .call (.c (.one (.fn 80 []))) 840 [.tmp 55, .tmp 59], none⟩, ⟨some 61, .not (.tmp 60), none⟩]) (.cond (.tmp 61) (.seq (.region [⟨some 62, .build [.nil, .nil] [], none⟩, ⟨none, .store 2 (.tmp 8) (.tmp 62), none⟩, ⟨some 9, .mv (.c (.one (.t (.int .i64 11)))), none⟩]) .ret) .skip)) (.seq (.draw [[], [0], [1], [], [3], [], [5], [4, 6], [], [8], [], [10], [9, 11], [2, 7, 12], [], [14], [15], [], [17], [], [19], [18, 20], [], [22], [], [24], [23, 25], [16, 21, 26, 13], [13, 27], [28, 27, 0, 1, 2, 3, 4, 5, 6, 7, 8, 9, 10, 11, 12, 13, 14, 15, 16, 17, 18, 19, 20, 21, 22, 23, 24, 25, 26, 27, 28], [29, 0, 1, 2, 3, 4, 5, 6, 7, 8, 9, 10, 11, 12, 13, 14, 15, 16, 17, 18, 19, 20, 21, 22, 23, 24, 25, 26, 27, 28, 29]] [⟨some 63, .fieldA 0 (.tmp 13), none⟩, ⟨some 64, .load false 1 (.tmp 63), none⟩, ⟨some 65, .len (.tmp 64), none⟩, ⟨some 66, .fieldA 0 (.tmp 14), none⟩, ⟨some 67, .load false 1 (.tmp 66), none⟩, ⟨some 68, .fieldA 0 (.tmp 15), none⟩, ⟨some 69, .load false 1 (.tmp 68), none⟩, ⟨some 70, .mkrow 967 22 1 2 [.nil, .nil] [(0, (1, .tmp 67)), (1, (1, .tmp 69))], none⟩, ⟨some 71, .fieldA 0 (.tmp 6), none⟩, ⟨some 72, .load false 1 (.tmp 71), none⟩, ⟨some 73, .fieldA 0 (.tmp 7), none⟩, ⟨some 74, .load false 1 (.tmp 73), none⟩, ⟨some 75, .mkrow 972 22 1 2 [.nil, .nil] [(0, (1, .tmp 72)), (1, (1, .tmp 74))], none⟩, ⟨some 76, .call (.c (.one (.fn 137 []))) 973 [.tmp 65, .tmp 70, .tmp 75], none⟩, ⟨some 77, .fieldA 1 (.tmp 13), none⟩, ⟨some 78, .load false 1 (.tmp 77), none⟩, ⟨some 79, .len (.tmp 78), none⟩, ⟨some 80, .fieldA 1 (.tmp 14), none⟩, ⟨some 81, .load false 1 (.tmp 80), none⟩, ⟨some 82, .fieldA 1 (.tmp 15), none⟩, ⟨some 83, .load false 1 (.tmp 82), none⟩, ⟨some 84, .mkrow 981 22 1 2 [.nil, .nil] [(0, (1, .tmp 81)), (1, (1, .tmp 83))], none⟩, ⟨some 85, .fieldA 1 (.tmp 6), none⟩, ⟨some 86, .load false 1 (.tmp 85), none⟩, ⟨some 87, .fieldA 1 (.tmp 7), none⟩, ⟨some 88, .load false 1 (.tmp 87), none⟩, ⟨some 89, .mkrow 986 22 1 2 [.nil, .nil] [(0, (1, .tmp 86)), (1, (1, .tmp 88))], none⟩, ⟨some 90, .call (.c (.one (.fn 137 []))) 987 [.tmp 79, .tmp 84, .tmp 89], none⟩, ⟨some 91, .build [.nil, .nil] [(0, (1, .tmp 76)), (1, (1, .tmp 90))], none⟩, ⟨none, .store 2 (.tmp 8) (.tmp 91), none⟩, ⟨some 9, .mv (.c (.one (.t (.int .i64 0)))), none⟩]) .ret)))))))⟩
theorem k_poMed : cFn Tryz.prog Tryz.f98 = some c_poMed := by kernel_rfl
set_option maxHeartbeats 4000000 in
theorem poMed_ok (s : Sp) (x : Gr) (h k : Pa) (ts : TinySp s) (tx : tinyG x) (th : tinyP h) (tk : tinyP k) : CallOK Tryz.prog 98 [s.v, x.v, h.v, k.v] (pmT (pmR s x h k)) := by
  refine callOK_W (callS_W (by kernel_rfl) Tryz.func98 k_poMed (callable_of Tryz.func98 (by kernel_rfl)) (by simp [c_poMed]) ?_)
  simp [c_poMed, Sp.v, Sp.cs]
  refine callS_tree (pspan_ok s ts) ?_ ?_ ?_
  · rfl
  · rfl
  by_cases h1 : spErr s = 0
  case neg =>
    have e : pmR s x h k = (⟨[], []⟩, spErr s) := by simp [pmR, pmE, h1]
    simp [h1, pmT, e]
  have ok := spErr_ok h1
  simp [h1]
  refine callS_tree (mvalid_ok s.B x h ts.B tx th) ?_ ?_ ?_
  · rfl
  · rfl
  by_cases h2 : morErr s.B x h = 0
  case neg =>
    have e : pmR s x h k = (⟨[], []⟩, morErr s.B x h) := by simp [pmR, pmE, h1, h2]
    simp [h2, pmT, e]
  simp [h2]
  refine callS_tree (mvalid_ok s.C x k ts.C tx tk) ?_ ?_ ?_
  · rfl
  · rfl
  by_cases h3 : morErr s.C x k = 0
  case neg =>
    have e : pmR s x h k = (⟨[], []⟩, morErr s.C x k) := by simp [pmR, pmE, h1, h2, h3]
    simp [h3, pmT, e]
  have m1 := mor_ok h2
  have m2 := mor_ok h3
  have l1 := m1.ln
  have l2 := m2.ln
  have l3 := m1.le
  have l4 := m2.le
  simp [h3]
  refine callS_tree (pglue_ok s ts ok) ?_ ?_ ?_
  · rfl
  · rfl
  by_cases h4 : unErr s.B s.C = 0
  case neg =>
    have e : pmR s x h k = (⟨[], []⟩, unErr s.B s.C) := by simp [pmR, pmE, h1, h2, h3, h4]
    have e2 : gluR s = (⟨[], []⟩, ⟨[], []⟩, ⟨[], []⟩, unErr s.B s.C) := by simp [gluR, h4]
    simp [h4, gluT, e2, pmT, e]
  have e2 : gluR s = (poG s, poI s, poJ s, 0) := by simp [gluR, h4]
  obtain ⟨g1, g2⟩ := poG_few h4
  have i1 := poI_len (s := s)
  have j1 := poJ_len (s := s)
  have tn : tiny (poG s).nodes.length := by simp only [tiny]; omega
  have te : tiny (poG s).edges.length := by simp only [tiny]; omega
  simp [dw0, dw1, dw2, dw3, gluT, e2]
  refine dCall_ok (pthen_ok s.F h ts.F (ok.F.fits m1)) ?_ ?_ ?_
  · rfl
  · rfl
  simp [dw0, dw1, dw2, dw3]
  refine dCall_ok (pthen_ok s.G k ts.G (ok.G.fits m2)) ?_ ?_ ?_
  · rfl
  · rfl
  simp [dw0, dw1, dw2, dw3]
  refine dCall_ok (msame_ok (thenP s.F h) (thenP s.G k) (thenP_tiny ts.F) (thenP_tiny ts.G)) ?_ ?_ ?_
  · rfl
  · rfl
  cases hs : sameP (thenP s.F h) (thenP s.G k)
  · have e : pmR s x h k = (⟨[], []⟩, 11) := by simp [pmR, pmE, h1, h2, h3, h4, hs]
    simp [dw0, dw1, dw2, dw3, pmT, e]
    rfl
  have e : pmR s x h k = (pmC s h k, 0) := by simp [pmR, pmE, h1, h2, h3, h4, hs]
  simp [dw0, dw1, dw2, dw3, pmT, e]
  refine ⟨rfl, ?_⟩
  refine dCall_ok (filled_ok (poG s).nodes.length (poI s).nodes (poJ s).nodes h.nodes k.nodes tn (poI_nin ok) (poJ_nin ok) (by omega) (by omega) (by have := ts.B.1; simp only [tiny] at *; omega) (by have := ts.C.1; simp only [tiny] at *; omega)) ?_ ?_ ?_
  · rfl
  · rfl
  simp [dw0, dw1, dw2, dw3]
  refine dCall_ok (filled_ok (poG s).edges.length (poI s).edges (poJ s).edges h.edges k.edges te (poI_ein ok) (poJ_ein ok) (by omega) (by omega) (by have := ts.B.2; simp only [tiny] at *; omega) (by have := ts.C.2; simp only [tiny] at *; omega)) ?_ ?_ ?_
  · rfl
  · rfl
  simp [dw0, dw1, dw2, dw3, pmC]
  rfl

theorem pmE_ok {s : Sp} {x : Gr} {h k : Pa} (e : pmE s x h k = 0) : spErr s = 0 ∧ morErr s.B x h = 0 ∧ morErr s.C x k = 0 ∧ unErr s.B s.C = 0 ∧ sameP (thenP s.F h) (thenP s.G k) = true := by
  unfold pmE at e
  split at e
  · split at e
    · split at e
      · split at e
        · split at e
          · exact ⟨by assumption, by assumption, by assumption, by assumption, by assumption⟩
          · cases e
        · exact absurd e (by assumption)
      · exact absurd e (by assumption)
    · exact absurd e (by assumption)
  · exact absurd e (by assumption)
theorem poG_tiny {s : Sp} (h : unErr s.B s.C = 0) : tinyG (poG s) := by
  obtain ⟨h1, h2⟩ := poG_few h
  exact ⟨by simp only [tiny]; omega, by simp only [tiny]; omega⟩
theorem pmC_tiny {s : Sp} {h k : Pa} (e : unErr s.B s.C = 0) : tinyP (pmC s h k) := ⟨by simp only [pmC, wrL_len]; exact (poG_tiny e).1, by simp only [pmC, wrL_len]; exact (poG_tiny e).2⟩

/-- Is a cocone a pushout? -/
def poChk (s : Sp) (d : Gr) (h k : Pa) : Bool := decide (pmE s d h k = 0) && (injB (poG s) d (pmC s h k) && surjB (poG s) d (pmC s h k))

def c_poCheck : MFunc := ⟨45, [.tmp 8], .seq (.region [⟨some 4, .box 0 47 (.tmp 0), none⟩, ⟨some 5, .box 1 25 (.tmp 1), none⟩, ⟨some 6, .box 2 27 (.tmp 2), none⟩, ⟨some 7, .box 3 27 (.tmp 3), none⟩, ⟨some 8, .mv (.c (.one (.t (.bool false)))), none⟩]) (.seq (.region [⟨some 15, .load true 10 (.tmp 4), none⟩, ⟨some 16, .load true 2 (.tmp 5), none⟩, ⟨some 17, .load true 2 (.tmp 6), none⟩, ⟨some 18, .load true 2 (.tmp 7), none⟩, ⟨some 19, .call (.c (.one (.fn 98 []))) 68 [.tmp 15, .tmp 16, .tmp 17, .tmp 18], none⟩, ⟨some 14, .mv (.tmp 19), none⟩, ⟨some 20, .extract (.tmp 14) 0, none⟩, ⟨some 21, .extract (.tmp 14) 1, none⟩, ⟨some 9, .alloc 72 27 [.nil, .nil], none⟩, ⟨none, .store 2 (.tmp 9) (.tmp 20), none⟩, ⟨some 10, .mv (.tmp 21), none⟩]) (.seq (.seq (.region [⟨some 22, .mv (.tmp 10), none⟩, ⟨some 23, .bin .neq (.tmp 22) (.c (.one (.t (.int .i64 0)))), none⟩]) (.cond (.tmp 23) (.seq (.region [⟨some 8, .mv (.c (.one (.t (.bool false)))), none⟩]) .ret) .skip)) (.seq (.region [⟨some 25, .load true 10 (.tmp 4), none⟩, ⟨some 26, .call (.c (.one (.fn 96 []))) 257 [.tmp 25], none⟩, ⟨some 24, .mv (.tmp 26), none⟩, ⟨some 27, .extract (.tmp 24) 0, none⟩, ⟨some 28, .extract (.tmp 24) 1, none⟩, ⟨some 29, .extract (.tmp 24) 2, none⟩, ⟨some 30, .extract (.tmp 24) 3, none⟩, ⟨some 11, .alloc 263 25 [.nil, .nil], none⟩, ⟨some 12, .alloc 264 27 [.nil, .nil], none⟩, ⟨some 13, .alloc 265 27 [.nil, .nil], none⟩, ⟨none, .store 2 (.tmp 11) (.tmp 27), none⟩, ⟨none, .store 2 (.tmp 12) (.tmp 28), none⟩, ⟨none, .store 2 (.tmp 13) (.tmp 29), none⟩, ⟨some 10, .mv (.tmp 30), none⟩]) (.seq (.region [⟨some 31, .mv (.tmp 10), none⟩, ⟨some 32, .bin .eql (.tmp 31) (.c (.one (.t (.int .i64 0)))), none⟩, ⟨some 33, .mv (.tmp 32), none⟩, ⟨some 34, .load true 2 (.tmp 11), some (33, true)⟩, ⟨some 35, .load true 2 (.tmp 5), some (33, true)⟩, ⟨some 36, .load true 2 (.tmp 9), some (33, true)⟩, ⟨some 37, .call (.c (.one (.fn 27 []))) 326 [.tmp 34, .tmp 35, .tmp 36], some (33, true)⟩, ⟨some 38, .pick (.tmp 33) (.tmp 37) (.c (.one (.t (.bool false)))), none⟩, ⟨some 39, .mv (.tmp 38), none⟩, ⟨some 40, .load true 2 (.tmp 11), some (39, true)⟩, ⟨some 41, .load true 2 (.tmp 5), some (39, true)⟩, ⟨some 42, .load true 2 (.tmp 9), some (39, true)⟩, ⟨some 43, .call (.c (.one (.fn 99 []))) 332 [.tmp 40, .tmp 41, .tmp 42], some (39, true)⟩, ⟨some 44, .pick (.tmp 39) (.tmp 43) (.c (.one (.t (.bool false)))), none⟩, ⟨some 8, .mv (.tmp 44), none⟩]) .ret))))⟩
theorem k_poCheck : cFn Tryz.prog Tryz.f57 = some c_poCheck := by kernel_rfl
theorem poCheck_ok (s : Sp) (x : Gr) (h k : Pa) (ts : TinySp s) (tx : tinyG x) (th : tinyP h) (tk : tinyP k) : CallOK Tryz.prog 57 [s.v, x.v, h.v, k.v] (.sv (false, [.bool (poChk s x h k)])) := by
  refine callOK_W (callS_W (by kernel_rfl) Tryz.func57 k_poCheck (callable_of Tryz.func57 (by kernel_rfl)) (by simp [c_poCheck]) ?_)
  simp [c_poCheck, Sp.v, Sp.cs]
  refine callS_tree (poMed_ok s x h k ts tx th tk) ?_ ?_ ?_
  · rfl
  · rfl
  by_cases h1 : pmE s x h k = 0
  case neg =>
    have e : pmR s x h k = (⟨[], []⟩, pmE s x h k) := by simp [pmR, h1]
    simp [pmT, e, h1, poChk]
  have e : pmR s x h k = (pmC s h k, 0) := by simp [pmR, h1]
  obtain ⟨q1, q2, q3, q4, q5⟩ := pmE_ok h1
  have e2 : gluR s = (poG s, poI s, poJ s, 0) := by simp [gluR, q4]
  simp [pmT, e, h1]
  refine callS_tree (pglue_ok s ts (spErr_ok q1)) ?_ ?_ ?_
  · rfl
  · rfl
  simp [gluT, e2]
  refine callS_tree (injX_ok (poG s) x (pmC s h k) (poG_tiny q4) tx (pmC_tiny q4)) ?_ ?_ ?_
  · rfl
  · rfl
  cases h3 : injB (poG s) x (pmC s h k)
  · simp [poChk, h3]
  simp
  refine callS_tree (surjX_ok (poG s) x (pmC s h k) (poG_tiny q4) tx (pmC_tiny q4)) ?_ ?_ ?_
  · rfl
  · rfl
  simp [poChk, h1, h3]
end Go.Proofs.YthcnpnogfblkcaaGreat

/- Contract: the kind of a square. -/
namespace Go.Proofs.YthcnpnogfblkcaaGreat
open Abs
set_option linter.unusedSimpArgs false
set_option linter.unusedVariables false
attribute [local simp] rn0 rn1 rn2 rn3 rn4 rn5 rn6 rn7 evOp nests Arg.ev St.val St.set St.new sliceOf binInt2 binInt AV.cells rdAt St.live retOf resOf resAll treeOf treeCell treeCells treeTups untree frameOf TV.av TR.av ints edgs prs fillV splice intsOf trees V1.tree bx Gr.v Pa.v

def downS (s : Sq) : Sp := ⟨s.A, s.B, s.C, s.F, s.G⟩
def upS (s : Sq) : Co := ⟨s.B, s.C, s.D, s.H, s.K⟩
theorem TinySq.down {s : Sq} (h : TinySq s) : TinySp (downS s) := ⟨h.A, h.B, h.C, h.F, h.G⟩
theorem TinySq.up {s : Sq} (h : TinySq s) : TinyCo (upS s) := ⟨h.B, h.C, h.D, h.H, h.K⟩
def kindN (s : Sq) : Int := (if poChk (downS s) s.D s.H s.K = true then 1 else 0) + (if pbChk (upS s) s.A s.F s.G = true then 2 else 0)
/-- The kind of a square, or an error. -/
def kindR (s : Sq) : Int × Int :=
  if sqErr s = 0 then if commB s = true then if poErr (downS s) = 0 then if pbErr (upS s) = 0 then (kindN s, 0) else (0, pbErr (upS s)) else (0, poErr (downS s)) else (0, 0) else (0, sqErr s)
def kindT (x : Int × Int) : TR := .tup [(false, [.int .i64 x.1]), (false, [.int .i64 x.2])]

def c_sKind : MFunc := ⟨87, [.tmp 2, .tmp 3], .seq (.region [⟨some 1, .box 0 29 (.tmp 0), none⟩, ⟨some 2, .mv (.c (.one (.t (.int .i64 0)))), none⟩, ⟨some 3, .mv (.c (.one (.t (.int .i64 0)))), none⟩]) (.seq (.seq (.region [⟨some 16, .load true 16 (.tmp 1), none⟩, ⟨some 17, .call (.c (.one (.fn 40 []))) 65 [.tmp 16], none⟩, ⟨some 4, .mv (.tmp 17), none⟩]) (.seq (.region [⟨some 18, .mv (.tmp 4), none⟩, ⟨some 19, .bin .neq (.tmp 18) (.c (.one (.t (.int .i64 0)))), none⟩]) (.cond (.tmp 19) (.seq (.region [⟨some 20, .mv (.tmp 4), none⟩, ⟨some 2, .mv (.c (.one (.t (.int .i64 0)))), none⟩, ⟨some 3, .mv (.tmp 20), none⟩]) .ret) .skip))) (.seq (.seq (.region [⟨some 21, .load true 16 (.tmp 1), none⟩, ⟨some 22, .call (.c (.one (.fn 42 []))) 257 [.tmp 21], none⟩, ⟨some 23, .not (.tmp 22), none⟩]) (.cond (.tmp 23) (.seq (.region [⟨some 2, .mv (.c (.one (.t (.int .i64 0)))), none⟩, ⟨some 3, .mv (.c (.one (.t (.int .i64 0)))), none⟩]) .ret) .skip)) (.seq (.region [⟨some 24, .fieldA 0 (.tmp 1), none⟩, ⟨some 25, .load true 2 (.tmp 24), none⟩, ⟨some 26, .fieldA 2 (.tmp 1), none⟩, ⟨some 27, .load true 2 (.tmp 26), none⟩, ⟨some 28, .fieldA 4 (.tmp 1), none⟩, ⟨some 29, .load true 2 (.tmp 28), none⟩, ⟨some 30, .fieldA 8 (.tmp 1), none⟩, ⟨some 31, .load true 2 (.tmp 30), none⟩, ⟨some 32, .fieldA 10 (.tmp 1), none⟩, ⟨some 33, .load true 2 (.tmp 32), none⟩, ⟨some 34, .build [.nil, .nil, .nil, .nil, .nil, .nil, .nil, .nil, .nil, .nil] [(0, (2, .tmp 25)), (2, (2, .tmp 27)), (4, (2, .tmp 29)), (6, (2, .tmp 31)), (8, (2, .tmp 33))], none⟩, ⟨some 5, .alloc 395 47 [.nil, .nil, .nil, .nil, .nil, .nil, .nil, .nil, .nil, .nil], none⟩, ⟨none, .store 10 (.tmp 5) (.tmp 34), none⟩]) (.seq (.region [⟨some 35, .fieldA 2 (.tmp 1), none⟩, ⟨some 36, .load true 2 (.tmp 35), none⟩, ⟨some 37, .fieldA 4 (.tmp 1), none⟩, ⟨some 38, .load true 2 (.tmp 37), none⟩, ⟨some 39, .fieldA 6 (.tmp 1), none⟩, ⟨some 40, .load true 2 (.tmp 39), none⟩, ⟨some 41, .fieldA 12 (.tmp 1), none⟩, ⟨some 42, .load true 2 (.tmp 41), none⟩, ⟨some 43, .fieldA 14 (.tmp 1), none⟩, ⟨some 44, .load true 2 (.tmp 43), none⟩, ⟨some 45, .build [.nil, .nil, .nil, .nil, .nil, .nil, .nil, .nil, .nil, .nil] [(0, (2, .tmp 36)), (2, (2, .tmp 38)), (4, (2, .tmp 40)), (6, (2, .tmp 42)), (8, (2, .tmp 44))], none⟩, ⟨some 6, .alloc 459 80 [.nil, .nil, .nil, .nil, .nil, .nil, .nil, .nil, .nil, .nil], none⟩, ⟨none, .store 10 (.tmp 6) (.tmp 45), none⟩]) (.seq (.seq (.region [⟨some 47, .load true 10 (.tmp 5), none⟩, ⟨some 48, .call (.c (.one (.fn 55 []))) 513 [.tmp 47], none⟩, ⟨some 46, .mv (.tmp 48), none⟩, ⟨some 49, .extract (.tmp 46) 0, none⟩, ⟨some 50, .extract (.tmp 46) 1, none⟩, ⟨some 51, .extract (.tmp 46) 2, none⟩, ⟨some 52, .extract (.tmp 46) 3, none⟩, ⟨some 7, .alloc 519 25 [.nil, .nil], none⟩, ⟨some 8, .alloc 520 27 [.nil, .nil], none⟩, ⟨some 9, .alloc 521 27 [.nil, .nil], none⟩, ⟨none, .store 2 (.tmp 7) (.tmp 49), none⟩, ⟨none, .store 2 (.tmp 8) (.tmp 50), none⟩, ⟨none, .store 2 (.tmp 9) (.tmp 51), none⟩, ⟨some 10, .mv (.tmp 52), none⟩]) (.seq (.region [⟨some 53, .mv (.tmp 10), none⟩, ⟨some 54, .bin .neq (.tmp 53) (.c (.one (.t (.int .i64 0)))), none⟩]) (.cond (.tmp 54) (.seq (.region [⟨some 55, .mv (.tmp 10), none⟩, ⟨some 2, .mv (.c (.one (.t (.int .i64 0)))), none⟩, ⟨some 3, .mv (.tmp 55), none⟩]) .ret) .skip))) (.seq (.seq (.region [⟨some 57, .load true 10 (.tmp 6), none⟩, ⟨some 58, .call (.c (.one (.fn 56 []))) 705 [.tmp 57], none⟩, ⟨some 56, .mv (.tmp 58), none⟩, ⟨some 59, .extract (.tmp 56) 0, none⟩, ⟨some 60, .extract (.tmp 56) 1, none⟩, ⟨some 61, .extract (.tmp 56) 2, none⟩, ⟨some 62, .extract (.tmp 56) 3, none⟩, ⟨some 11, .alloc 711 25 [.nil, .nil], none⟩, ⟨some 12, .alloc 712 27 [.nil, .nil], none⟩, ⟨some 13, .alloc 713 27 [.nil, .nil], none⟩, ⟨none, .store 2 (.tmp 11) (.tmp 59), none⟩, ⟨none, .store 2 (.tmp 12) (.tmp 60), none⟩, ⟨none, .store 2 (.tmp 13) (.tmp 61), none⟩, ⟨some 14, .mv (.tmp 62), none⟩]) (.seq (.region [⟨some 63, .mv (.tmp 14), none⟩, ⟨some 64, .bin .neq (.tmp 63) (.c (.one (.t (.int .i64 0)))), none⟩]) (.cond (.tmp 64) (.seq (.region [⟨some 65, .mv (.tmp 14), none⟩, ⟨some 2, .mv (.c (.one (.t (.int .i64 0)))), none⟩, ⟨some 3, .mv (.tmp 65), none⟩]) .ret) .skip))) (.seq (.region [⟨some 15, .mv (.c (.one (.t (.int .i64 0)))), none⟩]) (.seq (.seq (.region [⟨some 66, .load true 10 (.tmp 5), none⟩, ⟨some 67, .fieldA 6 (.tmp 1), none⟩, ⟨some 68, .load true 2 (.tmp 67), none⟩, ⟨some 69, .fieldA 12 (.tmp 1), none⟩, ⟨some 70, .load true 2 (.tmp 69), none⟩, ⟨some 71, .fieldA 14 (.tmp 1), none⟩, ⟨some 72, .load true 2 (.tmp 71), none⟩, ⟨some 73, .call (.c (.one (.fn 57 []))) 967 [.tmp 66, .tmp 68, .tmp 70, .tmp 72], none⟩]) (.cond (.tmp 73) (.region [⟨some 74, .mv (.tmp 15), none⟩, ⟨some 75, .bin .add (.tmp 74) (.c (.one (.t (.int .i64 1)))), none⟩, ⟨some 15, .mv (.tmp 75), none⟩]) .skip)) (.seq (.seq (.region [⟨some 76, .load true 10 (.tmp 6), none⟩, ⟨some 77, .fieldA 0 (.tmp 1), none⟩, ⟨some 78, .load true 2 (.tmp 77), none⟩, ⟨some 79, .fieldA 8 (.tmp 1), none⟩, ⟨some 80, .load true 2 (.tmp 79), none⟩, ⟨some 81, .fieldA 10 (.tmp 1), none⟩, ⟨some 82, .load true 2 (.tmp 81), none⟩, ⟨some 83, .call (.c (.one (.fn 58 []))) 1095 [.tmp 76, .tmp 78, .tmp 80, .tmp 82], none⟩]) (.cond (.tmp 83) (.region [⟨some 84, .mv (.tmp 15), none⟩, ⟨some 85, .bin .add (.tmp 84) (.c (.one (.t (.int .i64 2)))), none⟩, ⟨some 15, .mv (.tmp 85), none⟩]) .skip)) (.seq (.region [⟨some 86, .mv (.tmp 15), none⟩, ⟨some 2, .mv (.tmp 86), none⟩, ⟨some 3, .mv (.c (.one (.t (.int .i64 0)))), none⟩]) .ret))))))))))⟩
theorem k_sKind : cFn Tryz.prog Tryz.f21 = some c_sKind := by kernel_rfl
set_option maxHeartbeats 4000000 in
theorem sKind_ok (s : Sq) (h : TinySq s) : CallOK Tryz.prog 21 [s.v] (kindT (kindR s)) := by
  refine callOK_W (callS_W (by kernel_rfl) Tryz.func21 k_sKind (callable_of Tryz.func21 (by kernel_rfl)) (by simp [c_sKind]) ?_)
  simp [c_sKind, Sq.v, Sq.cs]
  refine callS_tree (svalidS_ok s h) ?_ ?_ ?_
  · rfl
  · rfl
  by_cases h1 : sqErr s = 0
  case neg =>
    have e : kindR s = (0, sqErr s) := by simp [kindR, h1]
    simp [h1, kindT, e]
  simp [h1]
  refine callS_tree (scomm_ok s h (sqErr_ok h1)) ?_ ?_ ?_
  · rfl
  · rfl
  cases h2 : commB s
  · have e : kindR s = (0, 0) := by simp [kindR, h1, h2]
    simp [kindT, e]
  simp
  refine callS_tree (poOf_ok (downS s) h.down) ?_ ?_ ?_
  · rfl
  · rfl
  by_cases h3 : poErr (downS s) = 0
  case neg =>
    have e : kindR s = (0, poErr (downS s)) := by simp [kindR, h1, h2, h3]
    have e2 : poR (downS s) = (⟨[], []⟩, ⟨[], []⟩, ⟨[], []⟩, poErr (downS s)) := by simp [poR, h3]
    simp [gluT, e2, h3, kindT, e]
  have e2 : poR (downS s) = (poG (downS s), poI (downS s), poJ (downS s), 0) := by simp [poR, h3]
  simp [gluT, e2]
  refine callS_tree (pOf_ok (upS s) h.up) ?_ ?_ ?_
  · rfl
  · rfl
  by_cases h4 : pbErr (upS s) = 0
  case neg =>
    have e : kindR s = (0, pbErr (upS s)) := by simp [kindR, h1, h2, h3, h4]
    have e3 : pbR (upS s) = (⟨[], []⟩, ⟨[], []⟩, ⟨[], []⟩, pbErr (upS s)) := by simp [pbR, h4]
    simp [pbRt, e3, h4, kindT, e]
  have e3 : pbR (upS s) = (pbG (upS s), ⟨fstL (pbNs (upS s)), fstL (pbEs (upS s))⟩, ⟨sndL (pbNs (upS s)), sndL (pbEs (upS s))⟩, 0) := by simp [pbR, h4]
  have e : kindR s = (kindN s, 0) := by simp [kindR, h1, h2, h3, h4]
  simp [pbRt, e3]
  refine callS_tree (poCheck_ok (downS s) s.D s.H s.K h.down h.D h.H h.K) ?_ ?_ ?_
  · rfl
  · rfl
  cases h5 : poChk (downS s) s.D s.H s.K
  all_goals
    simp
    refine callS_tree (pbCheck_ok (upS s) s.A s.F s.G h.up h.A h.F h.G) ?_ ?_ ?_
    · rfl
    · rfl
    cases h6 : pbChk (upS s) s.A s.F s.G
    all_goals
      have w1 : IntKind.i64.wrap (0 + 1) = 1 := by decide
      have w2 : IntKind.i64.wrap (0 + 2) = 2 := by decide
      have w3 : IntKind.i64.wrap (1 + 2) = 3 := by decide
      have w4 : IntKind.i64.wrap 1 = 1 := by decide
      have w5 : IntKind.i64.wrap 2 = 2 := by decide
      have w6 : IntKind.i64.wrap 3 = 3 := by decide
      simp [kindT, e, kindN, h5, h6, w1, w2, w3, w4, w5, w6]
end Go.Proofs.YthcnpnogfblkcaaGreat

/- Contracts: the reference's generated partitions and unions of graphs. -/
namespace Go.Proofs.YthcnpnogfblkcaaGreat
open Abs
set_option linter.unusedSimpArgs false
set_option linter.unusedVariables false
attribute [local simp] rn0 rn1 rn2 rn3 rn4 rn5 rn6 rn7 evOp nests Arg.ev St.val St.set St.new sliceOf binInt2 binInt AV.cells rdAt St.live retOf resOf resAll treeOf treeCell treeCells treeTups untree frameOf TV.av TR.av ints edgs prs fillV splice intsOf trees V1.tree bx Gr.v Pa.v opRd opWr opNew opNewR opArgs argsRd argRd Arg.rd AV.refs V1.refs refsL dstL

def c_numbers05 : MFunc := ⟨19, [.tmp 4], .seq (.region [⟨some 4, .mv (.c (.one .nil)), none⟩]) (.seq (.region [⟨some 5, .mv (.c (.one .nil)), none⟩]) (.seq (.seq (.region [⟨some 6, .mv (.c (.one (.t (.int .i64 0)))), none⟩]) (.block 0 (.loop (.seq (.seq (.region [⟨some 7, .mv (.tmp 6), none⟩, ⟨some 8, .mv (.tmp 1), none⟩, ⟨some 9, .bin .lss (.tmp 7) (.tmp 8), none⟩]) (.cond (.tmp 9) .skip (.exit 0))) (.seq (.block 1 (.region [⟨some 12, .mv (.tmp 5), none⟩, ⟨some 13, .mv (.tmp 0), none⟩, ⟨some 14, .mv (.tmp 6), none⟩, ⟨some 15, .bin .add (.tmp 13) (.tmp 14), none⟩, ⟨some 16, .mkrow 324 3 1 1 [.t (.int .i64 0)] [(0, (1, .tmp 15))], none⟩, ⟨some 17, .append 325 3 1 8 (.tmp 12) (.tmp 16), none⟩, ⟨some 5, .mv (.tmp 17), none⟩])) (.region [⟨some 10, .mv (.tmp 6), none⟩, ⟨some 11, .bin .add (.tmp 10) (.c (.one (.t (.int .i64 1)))), none⟩, ⟨some 6, .mv (.tmp 11), none⟩])))))) (.seq (.region [⟨some 18, .mv (.tmp 5), none⟩, ⟨some 4, .mv (.tmp 18), none⟩]) .ret)))⟩
theorem k_numbers05 : cFn Tryz.prog Tryz.f113 = some c_numbers05 := by kernel_rfl
theorem numbers05_row (a n : Nat) (ha : tiny a) (hn : tiny n) : RowI Tryz.prog 113 [(false, [.int .i64 a]), (false, [.int .i64 n])] 3 (numL a n) := by
  refine callRow_W (plain_ints _) (by simp) (by omega) (callS_W (by kernel_rfl) Tryz.func113 k_numbers05 (callable_of Tryz.func113 (by kernel_rfl)) (by simp [c_numbers05]) ?_)
  simp [c_numbers05]
  refine loopW_count 6 n (fun k S => S.fr 0 = .one (.t (.int .i64 a)) ∧ S.fr 1 = .one (.t (.int .i64 n)) ∧ outR 325 3 1 (numL a k).length ((numL a k).map (.int .i64)) S.ob (S.fr 5)) hn.small ?_ ?_ ?_
  · simp [numL, outR_nil]
  · rintro k S hlt hw hc ⟨f0, f1, ho⟩
    have z := numL_len (a := a) (n := k)
    simp only [tiny] at hn ha
    have v1 : IntKind.i64.wrap ((a : Int) + k) = ((a + k : Nat) : Int) := by rw [wrap64_id] <;> omega
    simp [f0, f1, hc, hlt, v1]
    refine kApp_grow (ts := [.int .i64 ((a + k : Nat) : Int)]) (by simp) (ho.keep fun g => by simp) (by omega) rfl (by omega) (by omega) fun E hE hob hcnt => ?_
    simp [f0, f1, hc, hw, numL_succ]
    simpa using hE
  · rintro S hc ⟨f0, f1, ho⟩
    obtain ⟨u, hu⟩ := ho.one
    rw [hu] at ho
    simp [f0, f1, hc, hu]
    exact ho.rowIs

/-- Pairs out of two lists. -/
def zpK (f g : List Int) (k : Nat) : List (Int × Int) := (List.range k).map fun i => (nth f i, nth g i)
theorem zpK_succ {f g : List Int} {k : Nat} : zpK f g (k + 1) = zpK f g k ++ [(nth f k, nth g k)] := by simp [zpK, List.range_succ]
theorem zpK_len {f g : List Int} {k : Nat} : (zpK f g k).length = k := by simp [zpK]
theorem thru_nth' {a b : List Int} {i : Nat} (h : i < a.length) : nth (thru a b) i = nth b (nth a i).toNat := by
  rw [nth_eq (by rw [thru_len]; exact h), nth_eq h]
  simp [thru]
theorem zpK_thru {a l b r : List Int} {k : Nat} (h1 : k ≤ a.length) (h2 : k ≤ b.length) : zpK (thru a l) (thru b r) k = pgK a b l r k := by
  simp only [zpK, pgK]
  apply List.map_congr_left
  intro i hi
  simp only [List.mem_range] at hi
  rw [thru_nth' (by omega), thru_nth' (by omega)]

def c_pairs10 : MFunc := ⟨26, [.tmp 4], .seq (.region [⟨some 4, .mv (.c (.one .nil)), none⟩]) (.seq (.region [⟨some 5, .mv (.c (.one .nil)), none⟩]) (.seq (.seq (.region [⟨some 6, .mv (.c (.one (.t (.int .i64 0)))), none⟩]) (.block 0 (.loop (.seq (.seq (.region [⟨some 7, .mv (.tmp 6), none⟩, ⟨some 8, .mv (.tmp 0), none⟩, ⟨some 9, .len (.tmp 8), none⟩, ⟨some 10, .bin .lss (.tmp 7) (.tmp 9), none⟩]) (.cond (.tmp 10) .skip (.exit 0))) (.seq (.block 1 (.draw [[], [], [], [1, 2], [3], [], [], [5, 6], [7], [4, 8], [9], [0, 10], [11, 11, 0, 1, 2, 3, 4, 5, 6, 7, 8, 9, 10, 11]] [⟨some 13, .mv (.tmp 5), none⟩, ⟨some 14, .mv (.tmp 0), none⟩, ⟨some 15, .mv (.tmp 6), none⟩, ⟨some 16, .idxA 1 (.tmp 14) (.tmp 15), none⟩, ⟨some 17, .load false 1 (.tmp 16), none⟩, ⟨some 18, .mv (.tmp 1), none⟩, ⟨some 19, .mv (.tmp 6), none⟩, ⟨some 20, .idxA 1 (.tmp 18) (.tmp 19), none⟩, ⟨some 21, .load false 1 (.tmp 20), none⟩, ⟨some 22, .build [.t (.int .i64 0), .t (.int .i64 0)] [(0, (1, .tmp 17)), (1, (1, .tmp 21))], none⟩, ⟨some 23, .mkrow 330 121 2 1 [.t (.int .i64 0), .t (.int .i64 0)] [(0, (2, .tmp 22))], none⟩, ⟨some 24, .append 331 121 2 16 (.tmp 13) (.tmp 23), none⟩, ⟨some 5, .mv (.tmp 24), none⟩])) (.region [⟨some 11, .mv (.tmp 6), none⟩, ⟨some 12, .bin .add (.tmp 11) (.c (.one (.t (.int .i64 1)))), none⟩, ⟨some 6, .mv (.tmp 12), none⟩])))))) (.seq (.region [⟨some 25, .mv (.tmp 5), none⟩, ⟨some 4, .mv (.tmp 25), none⟩]) .ret)))⟩
theorem k_pairs10 : cFn Tryz.prog Tryz.f131 = some c_pairs10 := by kernel_rfl
theorem pairs10_row (f g : List Int) (hf : f.length ≤ 1000) (hg : f.length ≤ g.length) : CallRow Tryz.prog 131 [(false, [ints f]), (false, [ints g])] 121 2 (zpK f g f.length).length (prL (zpK f g f.length)) := by
  refine callRow_W (plain_prL _) (len_prL _) (by omega) (callS_W (by kernel_rfl) Tryz.func131 k_pairs10 (callable_of Tryz.func131 (by kernel_rfl)) (by simp [c_pairs10]) ?_)
  simp [c_pairs10]
  refine loopW_count 6 f.length (fun k S => S.fr 0 = .one (.t (ints f)) ∧ S.fr 1 = .one (.t (ints g)) ∧ outR 331 121 2 (zpK f g k).length (prL (zpK f g k)) S.ob (S.fr 5)) (by omega) ?_ ?_ ?_
  · simp [zpK, prL, outR_nil]
  · rintro k S hlt hw hc ⟨f0, f1, ho⟩
    have hlt' : k < g.length := by omega
    have z := zpK_len (f := f) (g := g) (k := k)
    have zs := zpK_succ (f := f) (g := g) (k := k)
    have ho0 := ho
    rcases ho with ⟨c1, _, c3⟩ | ⟨c1, gg, c3, c4⟩
    all_goals
      simp [dw0, dw1, dw2, dw3, f0, f1, c3, hc, hlt, hlt', drop_nth hlt, drop_nth hlt']
      refine kApp_grow (ts := [.int .i64 (nth f k), .int .i64 (nth g k)]) rfl (by rw [← c3]; exact ho0.keep fun g => by simp) (by omega) rfl (by omega) (by omega) fun E hE hob hcnt => ?_
      simp [dw0, dw1, dw2, dw3]
      refine ⟨rfl, ?_⟩
      simp [f0, f1, hc, hw, zs]
      simpa [prL, prC, Nat.add_assoc] using hE
  · rintro S hc ⟨f0, f1, ho⟩
    obtain ⟨u, hu⟩ := ho.one
    rw [hu] at ho
    simp [f0, f1, hc, hu]
    exact ho.rowIs

def c_gen02 : MFunc := ⟨72, [.tmp 4, .tmp 5], .seq (.region [⟨some 4, .mv (.c (.one .nil)), none⟩, ⟨some 5, .mv (.c (.one (.t (.int .i64 0)))), none⟩]) (.seq (.seq (.region [⟨some 9, .mv (.tmp 0), none⟩, ⟨some 10, .bin .gtr (.tmp 9) (.c (.one (.t (.int .i64 80)))), none⟩]) (.cond (.tmp 10) (.seq (.region [⟨some 4, .mv (.c (.one .nil)), none⟩, ⟨some 5, .mv (.c (.one (.t (.int .i64 3)))), none⟩]) .ret) .skip)) (.seq (.seq (.region [⟨some 11, .mv (.tmp 0), none⟩, ⟨some 12, .bin .lss (.tmp 11) (.c (.one (.t (.int .i64 0)))), none⟩]) (.cond (.tmp 12) (.seq (.region [⟨some 4, .mv (.c (.one .nil)), none⟩, ⟨some 5, .mv (.c (.one (.t (.int .i64 6)))), none⟩]) .ret) .skip)) (.seq (.seq (.region [⟨some 6, .mv (.c (.one (.t (.int .i64 0)))), none⟩]) (.block 0 (.loop (.seq (.seq (.region [⟨some 13, .mv (.tmp 6), none⟩, ⟨some 14, .mv (.tmp 1), none⟩, ⟨some 15, .len (.tmp 14), none⟩, ⟨some 16, .bin .lss (.tmp 13) (.tmp 15), none⟩]) (.cond (.tmp 16) .skip (.exit 0))) (.seq (.block 1 (.seq (.region [⟨some 19, .mv (.tmp 1), none⟩, ⟨some 20, .mv (.tmp 6), none⟩, ⟨some 21, .idxA 2 (.tmp 19) (.tmp 20), none⟩, ⟨some 22, .fieldA 0 (.tmp 21), none⟩, ⟨some 23, .load false 1 (.tmp 22), none⟩, ⟨some 24, .bin .lss (.tmp 23) (.c (.one (.t (.int .i64 0)))), none⟩, ⟨some 25, .mv (.tmp 24), none⟩, ⟨some 26, .mv (.tmp 1), some (25, false)⟩, ⟨some 27, .mv (.tmp 6), some (25, false)⟩, ⟨some 28, .idxA 2 (.tmp 26) (.tmp 27), some (25, false)⟩, ⟨some 29, .fieldA 0 (.tmp 28), some (25, false)⟩, ⟨some 30, .load false 1 (.tmp 29), some (25, false)⟩, ⟨some 31, .mv (.tmp 0), some (25, false)⟩, ⟨some 32, .bin .geq (.tmp 30) (.tmp 31), some (25, false)⟩, ⟨some 33, .pick (.tmp 25) (.c (.one (.t (.bool true)))) (.tmp 32), none⟩, ⟨some 34, .mv (.tmp 33), none⟩, ⟨some 35, .mv (.tmp 1), some (34, false)⟩, ⟨some 36, .mv (.tmp 6), some (34, false)⟩, ⟨some 37, .idxA 2 (.tmp 35) (.tmp 36), some (34, false)⟩, ⟨some 38, .fieldA 1 (.tmp 37), some (34, false)⟩, ⟨some 39, .load false 1 (.tmp 38), some (34, false)⟩, ⟨some 40, .bin .lss (.tmp 39) (.c (.one (.t (.int .i64 0)))), some (34, false)⟩, ⟨some 41, .pick (.tmp 34) (.c (.one (.t (.bool true)))) (.tmp 40), none⟩, ⟨some 42, .mv (.tmp 41), none⟩, ⟨some 43, .mv (.tmp 1), some (42, false)⟩, ⟨some 44, .mv (.tmp 6), some (42, false)⟩, ⟨some 45, .idxA 2 (.tmp 43) (.tmp 44), some (42, false)⟩, ⟨some 46, .fieldA 1 (.tmp 45), some (42, false)⟩, ⟨some 47, .load false 1 (.tmp 46), some (42, false)⟩, ⟨some 48, .mv (.tmp 0), some (42, false)⟩, ⟨some 49, .bin .geq (.tmp 47) (.tmp 48), some (42, false)⟩, ⟨some 50, .pick (.tmp 42) (.c (.one (.t (.bool true)))) (.tmp 49), none⟩]) (.cond (.tmp 50) (.seq (.region [⟨some 4, .mv (.c (.one .nil)), none⟩, ⟨some 5, .mv (.c (.one (.t (.int .i64 6)))), none⟩]) .ret) .skip))) (.region [⟨some 17, .mv (.tmp 6), none⟩, ⟨some 18, .bin .add (.tmp 17) (.c (.one (.t (.int .i64 1)))), none⟩, ⟨some 6, .mv (.tmp 18), none⟩])))))) (.seq (.region [⟨some 51, .mv (.tmp 0), none⟩, ⟨some 52, .call (.c (.one (.fn 105 []))) 641 [.tmp 51], none⟩, ⟨some 7, .mv (.tmp 52), none⟩]) (.seq (.seq (.region [⟨some 8, .mv (.c (.one (.t (.int .i64 0)))), none⟩]) (.block 2 (.loop (.seq (.seq (.region [⟨some 53, .mv (.tmp 8), none⟩, ⟨some 54, .mv (.tmp 1), none⟩, ⟨some 55, .len (.tmp 54), none⟩, ⟨some 56, .bin .lss (.tmp 53) (.tmp 55), none⟩]) (.cond (.tmp 56) .skip (.exit 2))) (.seq (.block 3 (.draw [[], [], [], [1, 2], [3], [4], [], [], [6, 7], [8], [9], [0, 5, 10], [11, 11, 0, 1, 2, 3, 4, 5, 6, 7, 8, 9, 10, 11]] [⟨some 59, .mv (.tmp 7), none⟩, ⟨some 60, .mv (.tmp 1), none⟩, ⟨some 61, .mv (.tmp 8), none⟩, ⟨some 62, .idxA 2 (.tmp 60) (.tmp 61), none⟩, ⟨some 63, .fieldA 0 (.tmp 62), none⟩, ⟨some 64, .load false 1 (.tmp 63), none⟩, ⟨some 65, .mv (.tmp 1), none⟩, ⟨some 66, .mv (.tmp 8), none⟩, ⟨some 67, .idxA 2 (.tmp 65) (.tmp 66), none⟩, ⟨some 68, .fieldA 1 (.tmp 67), none⟩, ⟨some 69, .load false 1 (.tmp 68), none⟩, ⟨some 70, .call (.c (.one (.fn 110 []))) 907 [.tmp 59, .tmp 64, .tmp 69], none⟩, ⟨some 7, .mv (.tmp 70), none⟩])) (.region [⟨some 57, .mv (.tmp 8), none⟩, ⟨some 58, .bin .add (.tmp 57) (.c (.one (.t (.int .i64 1)))), none⟩, ⟨some 8, .mv (.tmp 58), none⟩])))))) (.seq (.region [⟨some 71, .mv (.tmp 7), none⟩, ⟨some 4, .mv (.tmp 71), none⟩, ⟨some 5, .mv (.c (.one (.t (.int .i64 0)))), none⟩]) .ret))))))⟩
theorem k_gen02 : cFn Tryz.prog Tryz.f130 = some c_gen02 := by kernel_rfl
set_option maxHeartbeats 1000000 in
theorem gen02_ok (n : Nat) (l : List (Int × Int)) (hn : n ≤ 80) (hl : tiny l.length) (hi : pairsIn l n) : CallOK Tryz.prog 130 [(false, [.int .i64 n]), (false, [prs l])] (.tup [(false, [ints (genL n l)]), (false, [.int .i64 0])]) := by
  refine callOK_W (callS_W (by kernel_rfl) Tryz.func130 k_gen02 (callable_of Tryz.func130 (by kernel_rfl)) (by simp [c_gen02]) ?_)
  have n1 : ¬ (80 : Int) < n := by omega
  have n2 : ¬ (n : Int) < 0 := by omega
  have n3 : ¬ 80 < n := by omega
  simp [c_gen02, n1, n2, n3]
  refine loopW_count 6 l.length (fun k S => S.fr 0 = .one (.t (.int .i64 n)) ∧ S.fr 1 = .one (.t (prs l))) hl.small ?_ ?_ ?_
  · simp
  · rintro k S hlt hw hc ⟨f0, f1⟩
    obtain ⟨a1, a2, b1, b2⟩ := hi _ (pth_mem hlt)
    have hlt2 : k * 2 < l.length * 2 := by omega
    have a3 : ¬ (pth l k).1 < 0 := by omega
    have a4 : ¬ (n : Int) ≤ (pth l k).1 := by omega
    have b3 : ¬ (pth l k).2 < 0 := by omega
    have b4 : ¬ (n : Int) ≤ (pth l k).2 := by omega
    simp [f0, f1, hc, hlt, hlt2, hw, drop_prL hlt, a3, a4, b3, b4]
  · rintro S hc ⟨f0, f1⟩
    simp [f0, f1, hc]
    refine callS_tree (finest02_row n (by simp only [tiny]; omega)).ok ?_ ?_ ?_
    · rfl
    · rfl
    simp [f0, f1]
    refine loopW_count 8 l.length (fun k S => S.fr 0 = .one (.t (.int .i64 n)) ∧ S.fr 1 = .one (.t (prs l)) ∧ S.fr 7 = .one (.t (ints (genL n (l.take k))))) hl.small ?_ ?_ ?_
    · simp [genL, f0, f1]
    · rintro k S hlt hw hc ⟨f0, f1, f7⟩
      obtain ⟨a1, a2, b1, b2⟩ := hi _ (pth_mem hlt)
      obtain ⟨a, ha⟩ := Int.eq_ofNat_of_zero_le a1
      obtain ⟨b, hb⟩ := Int.eq_ofNat_of_zero_le b1
      have hlt2 : k * 2 < l.length * 2 := by omega
      have zl := genL_len (n := n) (l := l.take k)
      have zs := genL_take (n := n) hlt
      rw [ha, hb, Int.toNat_natCast, Int.toNat_natCast] at zs
      simp [dw0, dw1, dw2, dw3, f0, f1, f7, hc, hlt, hlt2, hw, drop_prL hlt, ha, hb]
      refine dCall_ok (merge02_row (genL n (l.take k)) a b (by omega) (by omega) (by simp only [tiny]; omega)).ok ?_ ?_ ?_
      · rfl
      · rfl
      simp [dw0, dw1, dw2, dw3]
      refine ⟨rfl, ?_⟩
      simp [f0, f1, f7, hc, hw, zs]
    · rintro S hc ⟨f0, f1, f7⟩
      rw [List.take_length] at f7
      simp [f0, f1, f7, hc]

theorem copied5S (g : Gr) (h : tinyG g) {ob : Nm → Option Ob} {cnt : Nat → Nat} {R : AV → (Nm → Option Ob) → (Nat → Nat) → Prop}
    (hR : ∀ v1 v2 ob' cnt', outL [67] 3 1 g.nodes.length (g.nodes.map (.int .i64)) ob' (.one v1) → outL [71] 76 3 g.edges.length (edL g.edges) ob' (.one v2) →
      (∀ a k, a ≠ 0 → a ≠ 1 → a ≠ 67 → a ≠ 71 → ob' (a, k) = ob (a, k)) → (∀ a k, k < cnt a → ob' (a, k) = ob (a, k)) → (∀ a, a ≠ 0 → a ≠ 1 → a ≠ 67 → a ≠ 71 → cnt' a = cnt a) → R (.agg [v1, v2]) ob' cnt') :
    CallS Tryz.prog 52 [g.v.av] ob cnt R := by
  refine callS_W (by kernel_rfl) Tryz.func52 k_copied5 (callable_of Tryz.func52 (by kernel_rfl)) (by simp [c_copied5]) ?_
  have h1 := h.1
  have h2 := h.2
  simp only [tiny] at h1 h2
  simp [c_copied5, dw0, dw1, dw2, dw3]
  refine kApp_nil (ts := g.nodes.map (.int .i64)) (by simp) (by simp) (by omega) (by omega) ?_
  by_cases e1 : g.nodes.length = 0 <;> by_cases e2 : g.edges.length = 0
  · have n1 : g.nodes = [] := List.eq_nil_of_length_eq_zero e1
    have n2 : g.edges = [] := List.eq_nil_of_length_eq_zero e2
    simp [dw0, dw1, dw2, dw3, rowEff, n1, n2]
    refine kApp_nil (ts := []) rfl rfl (by omega) (by omega) ?_
    simp [dw0, dw1, dw2, dw3, rowEff, n1, n2, edL]
    refine ⟨rfl, hR _ _ _ _ ?_ ?_ ?_ ?_ ?_⟩
    · exact .inl ⟨by simp [n1], by simp [n1], rfl⟩
    · exact .inl ⟨by simp [n2], by simp [n2, edL], rfl⟩
    all_goals
      first
      | (intro a k q0 q1 q2 q3; simp [upd_app, q0, q1, q2, q3]; done)
      | (intro a q0 q1 q2 q3; simp [upd_app, q0, q1, q2, q3]; done)
      | (intro a k hk
         have w0 : ¬ (a = 0 ∧ k = cnt 0) := fun q => by rw [q.1, q.2] at hk; exact Nat.lt_irrefl _ hk
         have w1 : ¬ (a = 1 ∧ k = cnt 1) := fun q => by rw [q.1, q.2] at hk; exact Nat.lt_irrefl _ hk
         have w2 : ¬ (a = 67 ∧ k = cnt 67) := fun q => by rw [q.1, q.2] at hk; exact Nat.lt_irrefl _ hk
         have w3 : ¬ (a = 71 ∧ k = cnt 71) := fun q => by rw [q.1, q.2] at hk; exact Nat.lt_irrefl _ hk
         simp [upd_app, w0, w1, w2, w3]; done)
  · have n1 : g.nodes = [] := List.eq_nil_of_length_eq_zero e1
    simp [dw0, dw1, dw2, dw3, rowEff, n1]
    refine kApp_nil (ts := edL g.edges) (by simp) (len_edL _) (by omega) (by omega) ?_
    simp [dw0, dw1, dw2, dw3, rowEff, e2, untreeT]
    refine ⟨rfl, hR _ _ _ _ ?_ ?_ ?_ ?_ ?_⟩
    · exact .inl ⟨by simp [n1], by simp [n1], rfl⟩
    · exact .inr ⟨by omega, 71, by simp, cnt 71, rfl, by simp⟩
    all_goals
      first
      | (intro a k q0 q1 q2 q3; simp [upd_app, q0, q1, q2, q3]; done)
      | (intro a q0 q1 q2 q3; simp [upd_app, q0, q1, q2, q3]; done)
      | (intro a k hk
         have w0 : ¬ (a = 0 ∧ k = cnt 0) := fun q => by rw [q.1, q.2] at hk; exact Nat.lt_irrefl _ hk
         have w1 : ¬ (a = 1 ∧ k = cnt 1) := fun q => by rw [q.1, q.2] at hk; exact Nat.lt_irrefl _ hk
         have w2 : ¬ (a = 67 ∧ k = cnt 67) := fun q => by rw [q.1, q.2] at hk; exact Nat.lt_irrefl _ hk
         have w3 : ¬ (a = 71 ∧ k = cnt 71) := fun q => by rw [q.1, q.2] at hk; exact Nat.lt_irrefl _ hk
         simp [upd_app, w0, w1, w2, w3]; done)
  · have n2 : g.edges = [] := List.eq_nil_of_length_eq_zero e2
    have n1 : ¬ g.nodes = [] := fun h => e1 (by rw [h]; rfl)
    simp [dw0, dw1, dw2, dw3, rowEff, n1, n2]
    refine kApp_nil (ts := []) rfl rfl (by omega) (by omega) ?_
    simp [dw0, dw1, dw2, dw3, rowEff, n1, n2, edL, untreeT, untreeI]
    refine ⟨rfl, hR _ _ _ _ ?_ ?_ ?_ ?_ ?_⟩
    · exact .inr ⟨by omega, 67, by simp, cnt 67, rfl, by simp⟩
    · exact .inl ⟨by simp [n2], by simp [n2, edL], rfl⟩
    all_goals
      first
      | (intro a k q0 q1 q2 q3; simp [upd_app, q0, q1, q2, q3]; done)
      | (intro a q0 q1 q2 q3; simp [upd_app, q0, q1, q2, q3]; done)
      | (intro a k hk
         have w0 : ¬ (a = 0 ∧ k = cnt 0) := fun q => by rw [q.1, q.2] at hk; exact Nat.lt_irrefl _ hk
         have w1 : ¬ (a = 1 ∧ k = cnt 1) := fun q => by rw [q.1, q.2] at hk; exact Nat.lt_irrefl _ hk
         have w2 : ¬ (a = 67 ∧ k = cnt 67) := fun q => by rw [q.1, q.2] at hk; exact Nat.lt_irrefl _ hk
         have w3 : ¬ (a = 71 ∧ k = cnt 71) := fun q => by rw [q.1, q.2] at hk; exact Nat.lt_irrefl _ hk
         simp [upd_app, w0, w1, w2, w3]; done)
  · have n1 : ¬ g.nodes = [] := fun h => e1 (by rw [h]; rfl)
    simp [dw0, dw1, dw2, dw3, rowEff, n1]
    refine kApp_nil (ts := edL g.edges) (by simp) (len_edL _) (by omega) (by omega) ?_
    simp [dw0, dw1, dw2, dw3, rowEff, e2, untreeT, untreeI]
    refine ⟨rfl, hR _ _ _ _ ?_ ?_ ?_ ?_ ?_⟩
    · exact .inr ⟨by omega, 67, by simp, cnt 67, rfl, by simp⟩
    · exact .inr ⟨by omega, 71, by simp, cnt 71, rfl, by simp⟩
    all_goals
      first
      | (intro a k q0 q1 q2 q3; simp [upd_app, q0, q1, q2, q3]; done)
      | (intro a q0 q1 q2 q3; simp [upd_app, q0, q1, q2, q3]; done)
      | (intro a k hk
         have w0 : ¬ (a = 0 ∧ k = cnt 0) := fun q => by rw [q.1, q.2] at hk; exact Nat.lt_irrefl _ hk
         have w1 : ¬ (a = 1 ∧ k = cnt 1) := fun q => by rw [q.1, q.2] at hk; exact Nat.lt_irrefl _ hk
         have w2 : ¬ (a = 67 ∧ k = cnt 67) := fun q => by rw [q.1, q.2] at hk; exact Nat.lt_irrefl _ hk
         have w3 : ¬ (a = 71 ∧ k = cnt 71) := fun q => by rw [q.1, q.2] at hk; exact Nat.lt_irrefl _ hk
         simp [upd_app, w0, w1, w2, w3]; done)

def c_union05 : MFunc := ⟨107, [.cell 4 true 2, .cell 5 true 2, .cell 6 true 2, .tmp 7], .seq (.region [⟨some 2, .box 0 25 (.tmp 0), none⟩, ⟨some 3, .box 1 25 (.tmp 1), none⟩, ⟨some 4, .alloc 2 25 [.nil, .nil], none⟩, ⟨some 5, .alloc 3 27 [.nil, .nil], none⟩, ⟨some 6, .alloc 4 27 [.nil, .nil], none⟩, ⟨some 7, .mv (.c (.one (.t (.int .i64 0)))), none⟩]) (.seq (.seq (.region [⟨some 15, .load true 2 (.tmp 2), none⟩, ⟨some 16, .call (.c (.one (.fn 87 []))) 65 [.tmp 15], none⟩, ⟨some 8, .mv (.tmp 16), none⟩]) (.seq (.region [⟨some 17, .mv (.tmp 8), none⟩, ⟨some 18, .bin .neq (.tmp 17) (.c (.one (.t (.int .i64 0)))), none⟩]) (.cond (.tmp 18) (.seq (.region [⟨some 19, .build [.nil, .nil] [], none⟩, ⟨some 20, .build [.nil, .nil] [], none⟩, ⟨some 21, .build [.nil, .nil] [], none⟩, ⟨some 22, .mv (.tmp 8), none⟩, ⟨none, .store 2 (.tmp 4) (.tmp 19), none⟩, ⟨none, .store 2 (.tmp 5) (.tmp 20), none⟩, ⟨none, .store 2 (.tmp 6) (.tmp 21), none⟩, ⟨some 7, .mv (.tmp 22), none⟩]) .ret) .skip))) (.seq (.seq (.region [⟨some 23, .load true 2 (.tmp 3), none⟩, ⟨some 24, .call (.c (.one (.fn 87 []))) 257 [.tmp 23], none⟩, ⟨some 9, .mv (.tmp 24), none⟩]) (.seq (.region [⟨some 25, .mv (.tmp 9), none⟩, ⟨some 26, .bin .neq (.tmp 25) (.c (.one (.t (.int .i64 0)))), none⟩]) (.cond (.tmp 26) (.seq (.region [⟨some 27, .build [.nil, .nil] [], none⟩, ⟨some 28, .build [.nil, .nil] [], none⟩, ⟨some 29, .build [.nil, .nil] [], none⟩, ⟨some 30, .mv (.tmp 9), none⟩, ⟨none, .store 2 (.tmp 4) (.tmp 27), none⟩, ⟨none, .store 2 (.tmp 5) (.tmp 28), none⟩, ⟨none, .store 2 (.tmp 6) (.tmp 29), none⟩, ⟨some 7, .mv (.tmp 30), none⟩]) .ret) .skip))) (.seq (.draw [[], [0], [1], [], [3], [4], [2, 0, 1, 2], [5, 6, 0, 1, 2, 3, 4, 5, 6]] [⟨some 31, .fieldA 0 (.tmp 2), none⟩, ⟨some 32, .load false 1 (.tmp 31), none⟩, ⟨some 33, .len (.tmp 32), none⟩, ⟨some 34, .fieldA 1 (.tmp 2), none⟩, ⟨some 35, .load false 1 (.tmp 34), none⟩, ⟨some 36, .len (.tmp 35), none⟩, ⟨some 10, .mv (.tmp 33), none⟩, ⟨some 11, .mv (.tmp 36), none⟩]) (.seq (.seq (.region [⟨some 37, .mv (.tmp 10), none⟩, ⟨some 38, .fieldA 0 (.tmp 3), none⟩, ⟨some 39, .load false 1 (.tmp 38), none⟩, ⟨some 40, .len (.tmp 39), none⟩, ⟨some 41, .bin .add (.tmp 37) (.tmp 40), none⟩, ⟨some 42, .bin .gtr (.tmp 41) (.c (.one (.t (.int .i64 40)))), none⟩, ⟨some 43, .mv (.tmp 42), none⟩, ⟨some 44, .mv (.tmp 11), some (43, false)⟩, ⟨some 45, .fieldA 1 (.tmp 3), some (43, false)⟩, ⟨some 46, .load false 1 (.tmp 45), some (43, false)⟩, ⟨some 47, .len (.tmp 46), some (43, false)⟩, ⟨some 48, .bin .add (.tmp 44) (.tmp 47), some (43, false)⟩, ⟨some 49, .bin .gtr (.tmp 48) (.c (.one (.t (.int .i64 80)))), some (43, false)⟩, ⟨some 50, .pick (.tmp 43) (.c (.one (.t (.bool true)))) (.tmp 49), none⟩]) (.cond (.tmp 50) (.seq (.region [⟨some 51, .build [.nil, .nil] [], none⟩, ⟨some 52, .build [.nil, .nil] [], none⟩, ⟨some 53, .build [.nil, .nil] [], none⟩, ⟨none, .store 2 (.tmp 4) (.tmp 51), none⟩, ⟨none, .store 2 (.tmp 5) (.tmp 52), none⟩, ⟨none, .store 2 (.tmp 6) (.tmp 53), none⟩, ⟨some 7, .mv (.c (.one (.t (.int .i64 3)))), none⟩]) .ret) .skip)) (.seq (.region [⟨some 54, .load true 2 (.tmp 2), none⟩, ⟨some 55, .call (.c (.one (.fn 52 []))) 641 [.tmp 54], none⟩, ⟨some 12, .alloc 642 25 [.nil, .nil], none⟩, ⟨none, .store 2 (.tmp 12) (.tmp 55), none⟩]) (.seq (.region [⟨some 56, .fieldA 0 (.tmp 12), none⟩, ⟨some 57, .load false 1 (.tmp 56), none⟩, ⟨some 58, .fieldA 0 (.tmp 3), none⟩, ⟨some 59, .load false 1 (.tmp 58), none⟩, ⟨some 60, .append 708 3 1 8 (.tmp 57) (.tmp 59), none⟩, ⟨some 61, .fieldA 0 (.tmp 12), none⟩, ⟨none, .store 1 (.tmp 61) (.tmp 60), none⟩]) (.seq (.seq (.region [⟨some 13, .mv (.c (.one (.t (.int .i64 0)))), none⟩]) (.block 0 (.loop (.seq (.seq (.region [⟨some 62, .mv (.tmp 13), none⟩, ⟨some 63, .fieldA 1 (.tmp 3), none⟩, ⟨some 64, .load false 1 (.tmp 63), none⟩, ⟨some 65, .len (.tmp 64), none⟩, ⟨some 66, .bin .lss (.tmp 62) (.tmp 65), none⟩]) (.cond (.tmp 66) .skip (.exit 0))) (.seq (.block 1 (.seq (.region [⟨some 69, .fieldA 1 (.tmp 3), none⟩, ⟨some 70, .load false 1 (.tmp 69), none⟩, ⟨some 71, .mv (.tmp 13), none⟩, ⟨some 72, .idxA 3 (.tmp 70) (.tmp 71), none⟩, ⟨some 73, .load true 3 (.tmp 72), none⟩, ⟨some 14, .alloc 965 76 [.t (.int .i64 0), .t (.int .i64 0), .t (.int .i64 0)], none⟩, ⟨none, .store 3 (.tmp 14) (.tmp 73), none⟩]) (.region [⟨some 74, .fieldA 1 (.tmp 12), none⟩, ⟨some 75, .load false 1 (.tmp 74), none⟩, ⟨some 76, .fieldA 0 (.tmp 14), none⟩, ⟨some 77, .load false 1 (.tmp 76), none⟩, ⟨some 78, .fieldA 1 (.tmp 14), none⟩, ⟨some 79, .load false 1 (.tmp 78), none⟩, ⟨some 80, .mv (.tmp 10), none⟩, ⟨some 81, .bin .add (.tmp 79) (.tmp 80), none⟩, ⟨some 82, .fieldA 2 (.tmp 14), none⟩, ⟨some 83, .load false 1 (.tmp 82), none⟩, ⟨some 84, .mv (.tmp 10), none⟩, ⟨some 85, .bin .add (.tmp 83) (.tmp 84), none⟩, ⟨some 86, .build [.t (.int .i64 0), .t (.int .i64 0), .t (.int .i64 0)] [(0, (1, .tmp 77)), (1, (1, .tmp 81)), (2, (1, .tmp 85))], none⟩, ⟨some 87, .mkrow 1037 76 3 1 [.t (.int .i64 0), .t (.int .i64 0), .t (.int .i64 0)] [(0, (3, .tmp 86))], none⟩, ⟨some 88, .append 1038 76 3 24 (.tmp 75) (.tmp 87), none⟩, ⟨some 89, .fieldA 1 (.tmp 12), none⟩, ⟨none, .store 1 (.tmp 89) (.tmp 88), none⟩]))) (.region [⟨some 67, .mv (.tmp 13), none⟩, ⟨some 68, .bin .add (.tmp 67) (.c (.one (.t (.int .i64 1)))), none⟩, ⟨some 13, .mv (.tmp 68), none⟩])))))) (.seq (.draw [[], [], [1], [], [3, 2], [2, 4], [], [], [7], [8], [6, 9, 4], [], [], [12], [13], [11, 14, 10], [10, 15], [0, 15, 0], [5, 17, 0, 1, 2, 3, 4, 5, 17], [16, 18, 0, 1, 2, 3, 4, 5, 6, 7, 8, 9, 10, 11, 12, 13, 14, 15, 16, 17, 18], [19, 0, 1, 2, 3, 4, 5, 6, 7, 8, 9, 10, 11, 12, 13, 14, 15, 16, 17, 18, 19]] [⟨some 90, .load true 2 (.tmp 12), none⟩, ⟨some 91, .mv (.tmp 10), none⟩, ⟨some 92, .call (.c (.one (.fn 113 []))) 1090 [.c (.one (.t (.int .i64 0))), .tmp 91], none⟩, ⟨some 93, .mv (.tmp 11), none⟩, ⟨some 94, .call (.c (.one (.fn 113 []))) 1092 [.c (.one (.t (.int .i64 0))), .tmp 93], none⟩, ⟨some 95, .build [.nil, .nil] [(0, (1, .tmp 92)), (1, (1, .tmp 94))], none⟩, ⟨some 96, .mv (.tmp 10), none⟩, ⟨some 97, .fieldA 0 (.tmp 3), none⟩, ⟨some 98, .load false 1 (.tmp 97), none⟩, ⟨some 99, .len (.tmp 98), none⟩, ⟨some 100, .call (.c (.one (.fn 113 []))) 1098 [.tmp 96, .tmp 99], none⟩, ⟨some 101, .mv (.tmp 11), none⟩, ⟨some 102, .fieldA 1 (.tmp 3), none⟩, ⟨some 103, .load false 1 (.tmp 102), none⟩, ⟨some 104, .len (.tmp 103), none⟩, ⟨some 105, .call (.c (.one (.fn 113 []))) 1103 [.tmp 101, .tmp 104], none⟩, ⟨some 106, .build [.nil, .nil] [(0, (1, .tmp 100)), (1, (1, .tmp 105))], none⟩, ⟨none, .store 2 (.tmp 4) (.tmp 90), none⟩, ⟨none, .store 2 (.tmp 5) (.tmp 95), none⟩, ⟨none, .store 2 (.tmp 6) (.tmp 106), none⟩, ⟨some 7, .mv (.c (.one (.t (.int .i64 0)))), none⟩]) .ret))))))))⟩
theorem k_union05 : cFn Tryz.prog Tryz.f74 = some c_union05 := by kernel_rfl
set_option maxHeartbeats 4000000 in
theorem union05_ok (a b : Gr) (ta : tinyG a) (tb : tinyG b) : CallOK Tryz.prog 74 [a.v, b.v] (unT a b) := by
  refine callOK_W (callS_W (by kernel_rfl) Tryz.func74 k_union05 (callable_of Tryz.func74 (by kernel_rfl)) (by simp [c_union05]) ?_)
  simp [c_union05]
  refine callS_tree (rvalid_ok a ta.1.small ta.2.small) ?_ ?_ ?_
  · rfl
  · rfl
  by_cases h1 : gErr a = 0
  case neg =>
    have e : unErr a b = gErr a := by simp [unErr, h1]
    simp [h1, unT, e, edL]
  simp [h1]
  refine callS_tree (rvalid_ok b tb.1.small tb.2.small) ?_ ?_ ?_
  · rfl
  · rfl
  by_cases h2 : gErr b = 0
  case neg =>
    have e : unErr a b = gErr b := by simp [unErr, h1, h2]
    simp [h2, unT, e, edL]
  have ga := gErr_ok h1
  have gb := gErr_ok h2
  have b1 := ga.n
  have b2 := ga.e
  have b3 := gb.n
  have b4 := gb.e
  have w1 : IntKind.i64.wrap ((a.nodes.length : Int) + b.nodes.length) = (a.nodes.length : Int) + b.nodes.length := by rw [wrap64_id] <;> omega
  have w2 : IntKind.i64.wrap ((a.edges.length : Int) + b.edges.length) = (a.edges.length : Int) + b.edges.length := by rw [wrap64_id] <;> omega
  simp [dw0, dw1, dw2, dw3, h2]
  refine ⟨rfl, ?_⟩
  by_cases hb : unBig a b
  case pos =>
    have e : unErr a b = 3 := by simp [unErr, h1, h2, hb]
    by_cases q1 : 40 < a.nodes.length + b.nodes.length
    · have q1' : (40 : Int) < (a.nodes.length : Int) + b.nodes.length := by omega
      simp [w1, q1', unT, e, edL]
    · have q2 : 80 < a.edges.length + b.edges.length := hb.resolve_left q1
      have q1' : ¬ (40 : Int) < (a.nodes.length : Int) + b.nodes.length := by omega
      have q2' : (80 : Int) < (a.edges.length : Int) + b.edges.length := by omega
      simp [w1, w2, q1', q2', unT, e, edL]
  have e : unErr a b = 0 := by simp [unErr, h1, h2, hb]
  have n1 : ¬ (40 : Int) < (a.nodes.length : Int) + b.nodes.length := by simp only [unBig] at hb; omega
  have n2 : ¬ (80 : Int) < (a.edges.length : Int) + b.edges.length := by simp only [unBig] at hb; omega
  have hres : unT a b = .tup [(true, [ints (unG a b).nodes, edgs (unG a b).edges]), (unL a).v, (unR a b).v, (false, [.int .i64 0])] := by rw [unT, if_pos e]; rfl
  rw [hres]
  simp [dw0, dw1, dw2, dw3, w1, w2, n1, n2]
  refine copied5S a ta fun v1 v2 ob cnt oN oE hob hold hcnt => ?_
  have o0 : ob (0, 0) = some (bx 25 (a.v.2.map .t)) := by rw [hold 0 0 (by simp)]; simp
  have o1 : ob (1, 0) = some (bx 25 (b.v.2.map .t)) := by rw [hold 1 0 (by simp)]; simp
  have o2 : ob (2, 0) = some (bx 25 [.nil, .nil]) := by rw [hold 2 0 (by simp)]; simp
  have o3 : ob (3, 0) = some (bx 27 [.nil, .nil]) := by rw [hold 3 0 (by simp)]; simp
  have o4 : ob (4, 0) = some (bx 27 [.nil, .nil]) := by rw [hold 4 0 (by simp)]; simp
  have c642 : cnt 642 = 0 := by rw [hcnt 642 (by decide) (by decide) (by decide) (by decide)]; simp
  clear hob hold hcnt
  simp [o0, o1, o2, o3, o4, c642]
  refine kApp_growL (nms := [67, 708]) (ts := b.nodes.map (.int .i64)) (by simp) (by simp) ((oN.wide (by simp)).keep fun nm hm g => by simp at hm; rcases hm with rfl | rfl <;> simp) (by simp) (by omega) (by omega) fun E hE hob hcnt => ?_
  obtain ⟨u, hu⟩ := hE.one
  rw [hu] at hE
  have oE2 := oE.keep (ob' := E.ob) fun nm hm g => by
    simp at hm
    subst hm
    rw [hob _ _ (by decide)]
    simp
  have e2 : (unG a b).nodes.length = a.nodes.length + b.nodes.length := unG_nlen
  have e3 : (unG a b).nodes.map (C.int .i64) = a.nodes.map (.int .i64) ++ b.nodes.map (.int .i64) := by simp [unG]
  rw [← e2, ← e3] at hE
  simp [o0, o1, o2, o3, o4, c642, hob, hcnt, hu]
  refine loopW_count 13 b.edges.length (fun k S => S.fr 2 = .one (.ptr (0, 0) 0) ∧ S.fr 3 = .one (.ptr (1, 0) 0) ∧ S.fr 4 = .one (.ptr (2, 0) 0) ∧ S.fr 5 = .one (.ptr (3, 0) 0) ∧ S.fr 6 = .one (.ptr (4, 0) 0) ∧ S.fr 10 = .one (.t (.int .i64 a.nodes.length)) ∧ S.fr 11 = .one (.t (.int .i64 a.edges.length)) ∧ S.fr 12 = .one (.ptr (642, 0) 0) ∧
    S.ob (0, 0) = some (bx 25 (a.v.2.map .t)) ∧ S.ob (1, 0) = some (bx 25 (b.v.2.map .t)) ∧ S.ob (2, 0) = some (bx 25 [.nil, .nil]) ∧ S.ob (3, 0) = some (bx 27 [.nil, .nil]) ∧ S.ob (4, 0) = some (bx 27 [.nil, .nil]) ∧
    ∃ vN vE, S.ob (642, 0) = some (bx 25 [vN, vE]) ∧ outL [67, 708] 3 1 (unG a b).nodes.length ((unG a b).nodes.map (.int .i64)) S.ob (.one vN) ∧ outL [71, 1038] 76 3 (unE a b k).length (edL (unE a b k)) S.ob (.one vE)) (by omega) ?_ ?_ ?_
  · have q0 := unE_zero (a := a) (b := b)
    simp [o0, o1, o2, o3, o4]
    refine ⟨by simp [hob, o0, o1, o2, o3, o4], by simp [hob, o0, o1, o2, o3, o4], by simp [hob, o0, o1, o2, o3, o4], by simp [hob, o0, o1, o2, o3, o4], by simp [hob, o0, o1, o2, o3, o4], _, _, ⟨rfl, rfl⟩, ?_, ?_⟩
    · exact outL.keep (by simpa using hE) fun nm hm g => by simp at hm; rcases hm with rfl | rfl <;> simp
    · rw [q0]
      exact (oE2.wide (by simp)).keep fun nm hm g => by simp at hm; rcases hm with rfl | rfl <;> simp
  · rintro k S hlt hw hc ⟨f2, f3, f4, f5, f6, f10, f11, f12, o0, o1, o2, o3, o4, vN, vE, o642, hN, ho⟩
    have hlt3 : k * 3 < b.edges.length * 3 := by omega
    have hed := gb.edges _ (eth_mem hlt)
    have v1 : IntKind.i64.wrap ((eth b.edges k).f + a.nodes.length) = (eth b.edges k).f + a.nodes.length := by rw [wrap64_id] <;> omega
    have v2 : IntKind.i64.wrap ((eth b.edges k).g + a.nodes.length) = (eth b.edges k).g + a.nodes.length := by rw [wrap64_id] <;> omega
    have z := unE_len (a := a) (b := b) (k := k)
    have zs := unE_succ (a := a) hlt
    simp [f2, f3, f4, f5, f6, f10, f11, f12, o0, o1, o2, o3, o4, o642, hc, hlt, hlt3, drop_edL hlt, v1, v2]
    refine kApp_growL (nms := [71, 1038]) (ts := edC (shiftE a.nodes.length (eth b.edges k))) (by simp) (by simp [edC, shiftE]) (ho.keep fun nm hm g => by simp at hm; rcases hm with rfl | rfl <;> simp) rfl (by omega) (by omega) fun E hE hob hcnt => ?_
    obtain ⟨u, hu⟩ := hE.one
    rw [hu] at hE
    have hN2 := hN.keep (ob' := E.ob) fun nm hm g => by
      simp at hm
      rcases hm with rfl | rfl
      all_goals
        rw [hob _ _ (by decide)]
        simp
    simp [f2, f3, f4, f5, f6, f10, f11, f12, o0, o1, o2, o3, o4, o642, hc, hw, hob, hcnt, hu, zs]
    refine ⟨vN, u, ⟨rfl, rfl⟩, outL.keep (by simpa using hN2) fun nm hm g => by simp at hm; rcases hm with rfl | rfl <;> simp, outL.keep (by simpa [edL] using hE) fun nm hm g => by simp at hm; rcases hm with rfl | rfl <;> simp⟩
  · rintro S hc ⟨f2, f3, f4, f5, f6, f10, f11, f12, o0, o1, o2, o3, o4, vN, vE, o642, hN, ho⟩
    rw [unE_all] at ho
    simp [dw0, dw1, dw2, dw3, f2, f3, f4, f5, f6, f10, f11, f12, o0, o1, o2, o3, o4, o642, hc]
    refine dCall_ok (numbers05_row 0 a.nodes.length (by simp only [tiny]; omega) ta.1).ok ?_ ?_ ?_
    · rfl
    · rfl
    simp [dw0, dw1, dw2, dw3, f2, f3, f4, f5, f6, f10, f11, f12, o0, o1, o2, o3, o4, o642]
    refine dCall_ok (numbers05_row 0 a.edges.length (by simp only [tiny]; omega) ta.2).ok ?_ ?_ ?_
    · rfl
    · rfl
    simp [dw0, dw1, dw2, dw3, f2, f3, f4, f5, f6, f10, f11, f12, o0, o1, o2, o3, o4, o642]
    refine dCall_ok (numbers05_row a.nodes.length b.nodes.length ta.1 tb.1).ok ?_ ?_ ?_
    · rfl
    · rfl
    simp [dw0, dw1, dw2, dw3, f2, f3, f4, f5, f6, f10, f11, f12, o0, o1, o2, o3, o4, o642]
    refine dCall_ok (numbers05_row a.edges.length b.edges.length ta.2 tb.2).ok ?_ ?_ ?_
    · rfl
    · rfl
    clear hres
    generalize hLN : (unG a b).nodes = LN at *
    generalize (unG a b).edges = LE at *
    rcases hN with ⟨n1, n2, n3⟩ | ⟨n1, nm, n2, gg, n3, n4⟩ <;> rcases ho with ⟨m1, m2, m3⟩ | ⟨m1, nm', m2, gg', m3, m4⟩
    · cases n3
      cases m3
      have q1 : LN = [] := List.eq_nil_of_length_eq_zero n1
      have q2 : LE = [] := List.eq_nil_of_length_eq_zero m1
      simp [dw0, dw1, dw2, dw3, f2, f3, f4, f5, f6, f10, f11, f12, o0, o1, o2, o3, o4, o642, q1, q2, edL, unL, unR]
      first | rfl | exact ⟨rfl, rfl⟩ | exact ⟨rfl, rfl, rfl⟩
    · cases n3
      cases m3
      have q1 : LN = [] := List.eq_nil_of_length_eq_zero n1
      simp at m2
      rcases m2 with rfl | rfl
      all_goals
        simp [dw0, dw1, dw2, dw3, f2, f3, f4, f5, f6, f10, f11, f12, o0, o1, o2, o3, o4, o642, q1, m4, untreeT, unL, unR]
        first | rfl | exact ⟨rfl, rfl⟩ | exact ⟨rfl, rfl, rfl⟩
    · cases n3
      cases m3
      have q2 : LE = [] := List.eq_nil_of_length_eq_zero m1
      simp at n2
      rcases n2 with rfl | rfl
      all_goals
        simp [dw0, dw1, dw2, dw3, f2, f3, f4, f5, f6, f10, f11, f12, o0, o1, o2, o3, o4, o642, q2, n4, untreeT, untreeI, edL, unL, unR]
        first | rfl | exact ⟨rfl, rfl⟩ | exact ⟨rfl, rfl, rfl⟩
    · cases n3
      cases m3
      simp at n2 m2
      rcases n2 with rfl | rfl <;> rcases m2 with rfl | rfl
      all_goals
        simp [dw0, dw1, dw2, dw3, f2, f3, f4, f5, f6, f10, f11, f12, o0, o1, o2, o3, o4, o642, n4, m4, untreeT, untreeI, unL, unR]
        first | rfl | exact ⟨rfl, rfl⟩ | exact ⟨rfl, rfl, rfl⟩
end Go.Proofs.YthcnpnogfblkcaaGreat

/- Contracts: the reference's quotients of graphs. -/
namespace Go.Proofs.YthcnpnogfblkcaaGreat
open Abs
set_option linter.unusedSimpArgs false
set_option linter.unusedVariables false
attribute [local simp] rn0 rn1 rn2 rn3 rn4 rn5 rn6 rn7 evOp nests Arg.ev St.val St.set St.new sliceOf binInt2 binInt AV.cells rdAt St.live retOf resOf resAll treeOf treeCell treeCells treeTups untree frameOf TV.av TR.av ints edgs prs fillV splice intsOf trees V1.tree bx Gr.v Pa.v opRd opWr opNew opNewR opArgs argsRd argRd Arg.rd AV.refs V1.refs refsL dstL

/-! ### What is constant on the classes of a generated partition -/
theorem genL_const {α : Type} {n : Nat} {f : Nat → α} : ∀ {l : List (Int × Int)} {p : List Int}, p.length = n → pairsIn l n → (∀ i, i < n → 0 ≤ nth p i) → (∀ i, i < n → f (nth p i).toNat = f i) → (∀ q ∈ l, f q.1.toNat = f q.2.toNat) →
    (∀ i, i < n → f (nth (l.foldl (fun p q => mergeL p q.1.toNat q.2.toNat) p) i).toNat = f i)
  | [], _, _, _, _, h, _ => h
  | q :: r, p, hl, hi, h0, h, hq => by
    rw [List.foldl_cons]
    obtain ⟨a1, a2, b1, b2⟩ := hi q (List.mem_cons_self ..)
    obtain ⟨a, ha⟩ := Int.eq_ofNat_of_zero_le a1
    obtain ⟨b, hb⟩ := Int.eq_ofNat_of_zero_le b1
    have e := hq q (List.mem_cons_self ..)
    rw [ha, hb] at e ⊢
    simp only [Int.toNat_natCast] at e ⊢
    have ha2 : a < n := by omega
    have hb2 : b < n := by omega
    have p1 := h0 a ha2
    have p2 := h0 b hb2
    have c1 := h a ha2
    have c2 := h b hb2
    refine genL_const (by rw [mergeL_len, hl]) (fun x hx => hi x (List.mem_cons_of_mem _ hx)) (fun i hi' => ?_) (fun i hi' => ?_) (fun x hx => hq x (List.mem_cons_of_mem _ hx))
    · rw [mergeL_nth (by omega)]
      split
      · omega
      · exact h0 i hi'
    · rw [mergeL_nth (by omega)]
      split
      · rename_i hm
        have c3 := h i hi'
        rw [hm] at c3
        rcases Int.le_total (nth p a) (nth p b) with hab | hab
        · rw [Int.min_eq_left hab, c1, e, ← c2, ← c3, Int.max_eq_right hab]
        · rw [Int.min_eq_right hab, c2, ← e, ← c1, ← c3, Int.max_eq_left hab]
      · exact h i hi'
theorem genL_inv {α : Type} {n : Nat} {f : Nat → α} {l : List (Int × Int)} (hi : pairsIn l n) (hq : ∀ q ∈ l, f q.1.toNat = f q.2.toNat) {i : Nat} (h : i < n) : f (nth (genL n l) i).toNat = f i :=
  genL_const idL_len hi (fun i h => by rw [idL_nth h]; omega) (fun i h => by rw [idL_nth h]; rfl) hq i h
theorem merge_eq {p : List Int} {a b i j : Nat} (hi : i < p.length) (hj : j < p.length) (h : nth p i = nth p j) : nth (mergeL p a b) i = nth (mergeL p a b) j := by
  rw [mergeL_nth hi, mergeL_nth hj, h]
theorem merge_ab {p : List Int} {a b : Nat} (hi : a < p.length) (hj : b < p.length) : nth (mergeL p a b) a = nth (mergeL p a b) b := by
  rw [mergeL_nth hi, mergeL_nth hj]
  split <;> split <;> omega
theorem fold_eq {n : Nat} : ∀ {l : List (Int × Int)} {p : List Int} {i j : Nat}, p.length = n → i < n → j < n → nth p i = nth p j → nth (l.foldl (fun p q => mergeL p q.1.toNat q.2.toNat) p) i = nth (l.foldl (fun p q => mergeL p q.1.toNat q.2.toNat) p) j
  | [], _, _, _, _, _, _, h => h
  | q :: r, p, i, j, hl, hi, hj, h => by
    rw [List.foldl_cons]
    exact fold_eq (by rw [mergeL_len, hl]) hi hj (merge_eq (by omega) (by omega) h)
theorem fold_pair {n : Nat} : ∀ {l : List (Int × Int)} {p : List Int}, p.length = n → pairsIn l n → ∀ q ∈ l, nth (l.foldl (fun p q => mergeL p q.1.toNat q.2.toNat) p) q.1.toNat = nth (l.foldl (fun p q => mergeL p q.1.toNat q.2.toNat) p) q.2.toNat
  | [], _, _, _, _, h => absurd h (by simp)
  | x :: r, p, hl, hi, q, hq => by
    rw [List.foldl_cons]
    rcases List.mem_cons.1 hq with rfl | hq
    · obtain ⟨a1, a2, b1, b2⟩ := hi q (List.mem_cons_self ..)
      exact fold_eq (n := n) (by rw [mergeL_len, hl]) (by omega) (by omega) (merge_ab (by omega) (by omega))
    · exact fold_pair (by rw [mergeL_len, hl]) (fun x hx => hi x (List.mem_cons_of_mem _ hx)) q hq
/-- The elements of a pair are in one class. -/
theorem genL_pair {n : Nat} {l : List (Int × Int)} (hi : pairsIn l n) {q : Int × Int} (hq : q ∈ l) : nth (genL n l) q.1.toNat = nth (genL n l) q.2.toNat := fold_pair idL_len hi q hq

/-! ### Classes written one by one -/
def clsF {α : Type} (p : List Int) (f : Nat → α) (i : Nat) : Option α := if nth p i = i then some (f i) else none
def clsL {α : Type} (p : List Int) (f : Nat → α) (z : α) (m k : Nat) : List α := collect (clsF p f) k ++ List.replicate (clsN p m - clsN p k) z
theorem clsF_len {α : Type} {p : List Int} {f : Nat → α} {n : Nat} : (collect (clsF p f) n).length = clsN p n := cls_collect
theorem clsL_len {α : Type} {p : List Int} {f : Nat → α} {z : α} {m k : Nat} (h : k ≤ m) : (clsL p f z m k).length = clsN p m := by
  have := clsN_mono (p := p) h
  simp only [clsL, List.length_append, clsF_len, List.length_replicate]
  omega
theorem clsL_zero {α : Type} {p : List Int} {f : Nat → α} {z : α} {m : Nat} : clsL p f z m 0 = List.replicate (clsN p m) z := by simp [clsL, collect_zero, clsN]
theorem clsL_all {α : Type} {p : List Int} {f : Nat → α} {z : α} {m : Nat} : clsL p f z m m = collect (clsF p f) m := by simp [clsL]
theorem clsF_get {α : Type} {p : List Int} {f : Nat → α} {j : Nat} (hj : nth p j = j) : ∀ {k : Nat}, j < k → (collect (clsF p f) k)[clsN p j]? = some (f j)
  | 0, h => absurd h (by omega)
  | k + 1, h => by
    by_cases e : j = k
    · subst e
      rw [collect_some (x := f j) (by simp [clsF, hj]), List.getElem?_append_right (by rw [clsF_len]; omega), clsF_len]
      simp
    · have ih := clsF_get (f := f) hj (k := k) (by omega)
      by_cases e2 : nth p k = k
      · rw [collect_some (x := f k) (by simp [clsF, e2]), List.getElem?_append_left (by rw [clsF_len]; exact clsN_lt hj (by omega)), ih]
      · rw [collect_none (by simp [clsF, e2]), ih]
theorem clsL_set {α : Type} {p : List Int} {f : Nat → α} {z : α} {m k : Nat} (hp : Flat p) (hm : p.length = m) (hk : k < m) (hf : f (nth p k).toNat = f k) : (clsL p f z m k).set (clsN p (nth p k).toNat) (f k) = clsL p f z m (k + 1) := by
  obtain ⟨j, hj, hle⟩ := hp.fo.at (show k < p.length by omega)
  have hx := hp.fx k (by omega)
  rw [hj, Int.toNat_natCast] at hx hf ⊢
  by_cases e : j = k
  · subst e
    have c1 : clsN p (j + 1) = clsN p j + 1 := by simp only [clsN, if_pos hj]
    have c2 := clsN_mono (p := p) (show j + 1 ≤ m by omega)
    have c3 : clsN p m - clsN p j = (clsN p m - clsN p (j + 1)) + 1 := by omega
    rw [clsL, c3, List.replicate_succ, List.set_append_right _ _ (by rw [clsF_len]; exact Nat.le_refl _), clsF_len, Nat.sub_self, List.set_cons_zero, clsL, collect_some (x := f j) (by simp [clsF, hj]), List.append_assoc]
    rfl
  · have e2 : ¬ (j : Int) = k := by omega
    have c1 : clsN p (k + 1) = clsN p k := by simp only [clsN, hj, if_neg e2]
    have hlt := clsN_lt (p := p) hx (show j < k by omega)
    have g := clsF_get (f := f) hx (show j < k by omega)
    rw [clsL, clsL, c1, collect_none (by simp [clsF, hj, e2]), List.set_append_left _ _ (by rw [clsF_len]; exact hlt)]
    congr 1
    apply List.ext_getElem?
    intro i
    rw [List.getElem?_set]
    split
    · rename_i h
      subst h
      rw [if_pos (by rw [clsF_len]; exact hlt), g, hf]
    · rfl

/-! ### A row of edges -/
def rowE (l : List Ed) : Ob := ⟨true, true, false, 3, l.length, 76, (edL l).map .t⟩
theorem edL_append {a b : List Ed} : edL (a ++ b) = edL a ++ edL b := by simp [edL]
theorem rowE_set {l : List Ed} {k : Nat} {e : Ed} (hk : k < l.length) : ((edL l).map V1.t).take (k * 3) ++ V1.t (.int .i64 e.t) :: V1.t (.int .i64 e.f) :: V1.t (.int .i64 e.g) :: ((edL l).map V1.t).drop (k * 3 + 3) = (edL (l.set k e)).map V1.t := by
  have h1 : l.set k e = l.take k ++ e :: l.drop (k + 1) := by rw [List.set_eq_take_append_cons_drop, if_pos hk]
  have h2 : edL l = edL (l.take k) ++ edL (l.drop k) := by rw [← edL_append, List.take_append_drop]
  have h3 : edL l = edL (l.take (k + 1)) ++ edL (l.drop (k + 1)) := by rw [← edL_append, List.take_append_drop]
  have h4 : (edL l).take (k * 3) = edL (l.take k) := by rw [h2, List.take_left' (by rw [len_edL, List.length_take, Nat.min_eq_left (by omega)])]
  have h5 : (edL l).drop (k * 3 + 3) = edL (l.drop (k + 1)) := by rw [h3, List.drop_left' (by rw [len_edL, List.length_take, Nat.min_eq_left (by omega)]; omega)]
  rw [← List.map_take, ← List.map_drop, h4, h5, h1, edL_append]
  simp [edL, edC]

theorem repl_edL {n : Nat} : (edL (List.replicate n ⟨0, 0, 0⟩)).map V1.t = (List.replicate n [V1.t (.int .i64 0), .t (.int .i64 0), .t (.int .i64 0)]).flatten := by
  induction n with
  | zero => rfl
  | succ n ih => rw [List.replicate_succ, List.replicate_succ, List.flatten_cons, ← ih]; simp [edL, edC]

def c_quot10 : MFunc := ⟨96, [.cell 6 true 2, .cell 7 true 2], .seq (.region [⟨some 3, .box 0 25 (.tmp 0), none⟩, ⟨some 6, .alloc 1 25 [.nil, .nil], none⟩, ⟨some 7, .alloc 2 27 [.nil, .nil], none⟩]) (.seq (.region [⟨some 18, .mv (.tmp 1), none⟩, ⟨some 19, .call (.c (.one (.fn 111 []))) 65 [.tmp 18], none⟩, ⟨some 17, .mv (.tmp 19), none⟩, ⟨some 20, .extract (.tmp 17) 0, none⟩, ⟨some 21, .extract (.tmp 17) 1, none⟩, ⟨some 22, .extract (.tmp 17) 2, none⟩, ⟨some 8, .mv (.tmp 20), none⟩, ⟨some 9, .mv (.tmp 21), none⟩, ⟨some 10, .mv (.tmp 22), none⟩]) (.seq (.region [⟨some 24, .mv (.tmp 2), none⟩, ⟨some 25, .call (.c (.one (.fn 111 []))) 129 [.tmp 24], none⟩, ⟨some 23, .mv (.tmp 25), none⟩, ⟨some 26, .extract (.tmp 23) 0, none⟩, ⟨some 27, .extract (.tmp 23) 1, none⟩, ⟨some 28, .extract (.tmp 23) 2, none⟩, ⟨some 11, .mv (.tmp 26), none⟩, ⟨some 12, .mv (.tmp 27), none⟩, ⟨some 13, .mv (.tmp 28), none⟩]) (.seq (.draw [[], [0, 0], [], [2, 2], [1, 3], [], [5, 4, 0, 1, 2, 3, 4, 5]] [⟨some 29, .mv (.tmp 9), none⟩, ⟨some 30, .make 193 3 1 8 [.t (.int .i64 0)] (.tmp 29) (.tmp 29), none⟩, ⟨some 31, .mv (.tmp 12), none⟩, ⟨some 32, .make 195 76 3 24 [.t (.int .i64 0), .t (.int .i64 0), .t (.int .i64 0)] (.tmp 31) (.tmp 31), none⟩, ⟨some 33, .build [.nil, .nil] [(0, (1, .tmp 30)), (1, (1, .tmp 32))], none⟩, ⟨some 14, .alloc 197 25 [.nil, .nil], none⟩, ⟨none, .store 2 (.tmp 14) (.tmp 33), none⟩]) (.seq (.seq (.region [⟨some 15, .mv (.c (.one (.t (.int .i64 0)))), none⟩]) (.block 0 (.loop (.seq (.seq (.region [⟨some 34, .mv (.tmp 15), none⟩, ⟨some 35, .fieldA 0 (.tmp 3), none⟩, ⟨some 36, .load false 1 (.tmp 35), none⟩, ⟨some 37, .len (.tmp 36), none⟩, ⟨some 38, .bin .lss (.tmp 34) (.tmp 37), none⟩]) (.cond (.tmp 38) .skip (.exit 0))) (.seq (.block 1 (.draw [[], [0], [], [], [2, 3], [4], [], [6], [], [7, 8], [9], [1, 5, 0, 1, 2, 3, 4, 5, 6, 7, 8, 9, 10], [11, 10, 0, 1, 2, 3, 4, 5, 6, 7, 8, 9, 10]] [⟨some 41, .fieldA 0 (.tmp 14), none⟩, ⟨some 42, .load false 1 (.tmp 41), none⟩, ⟨some 43, .mv (.tmp 8), none⟩, ⟨some 44, .mv (.tmp 15), none⟩, ⟨some 45, .idxA 1 (.tmp 43) (.tmp 44), none⟩, ⟨some 46, .load false 1 (.tmp 45), none⟩, ⟨some 47, .fieldA 0 (.tmp 3), none⟩, ⟨some 48, .load false 1 (.tmp 47), none⟩, ⟨some 49, .mv (.tmp 15), none⟩, ⟨some 50, .idxA 1 (.tmp 48) (.tmp 49), none⟩, ⟨some 51, .load false 1 (.tmp 50), none⟩, ⟨some 52, .idxA 1 (.tmp 42) (.tmp 46), none⟩, ⟨none, .store 1 (.tmp 52) (.tmp 51), none⟩])) (.region [⟨some 39, .mv (.tmp 15), none⟩, ⟨some 40, .bin .add (.tmp 39) (.c (.one (.t (.int .i64 1)))), none⟩, ⟨some 15, .mv (.tmp 40), none⟩])))))) (.seq (.seq (.region [⟨some 16, .mv (.c (.one (.t (.int .i64 0)))), none⟩]) (.block 2 (.loop (.seq (.seq (.region [⟨some 53, .mv (.tmp 16), none⟩, ⟨some 54, .fieldA 1 (.tmp 3), none⟩, ⟨some 55, .load false 1 (.tmp 54), none⟩, ⟨some 56, .len (.tmp 55), none⟩, ⟨some 57, .bin .lss (.tmp 53) (.tmp 56), none⟩]) (.cond (.tmp 57) .skip (.exit 2))) (.seq (.block 3 (.draw [[], [0], [], [], [2, 3], [4], [], [6], [], [7, 8], [9], [10], [], [], [13], [], [14, 15], [16], [17], [12, 18], [19], [], [], [22], [], [23, 24], [25], [26], [21, 27], [28], [11, 20, 29], [1, 5, 0, 1, 2, 3, 4, 5, 6, 7, 8, 9, 10, 11, 12, 13, 14, 15, 16, 17, 18, 19, 20, 21, 22, 23, 24, 25, 26, 27, 28, 29, 30], [31, 30, 0, 1, 2, 3, 4, 5, 6, 7, 8, 9, 10, 11, 12, 13, 14, 15, 16, 17, 18, 19, 20, 21, 22, 23, 24, 25, 26, 27, 28, 29, 30]] [⟨some 60, .fieldA 1 (.tmp 14), none⟩, ⟨some 61, .load false 1 (.tmp 60), none⟩, ⟨some 62, .mv (.tmp 11), none⟩, ⟨some 63, .mv (.tmp 16), none⟩, ⟨some 64, .idxA 1 (.tmp 62) (.tmp 63), none⟩, ⟨some 65, .load false 1 (.tmp 64), none⟩, ⟨some 66, .fieldA 1 (.tmp 3), none⟩, ⟨some 67, .load false 1 (.tmp 66), none⟩, ⟨some 68, .mv (.tmp 16), none⟩, ⟨some 69, .idxA 3 (.tmp 67) (.tmp 68), none⟩, ⟨some 70, .fieldA 0 (.tmp 69), none⟩, ⟨some 71, .load false 1 (.tmp 70), none⟩, ⟨some 72, .mv (.tmp 8), none⟩, ⟨some 73, .fieldA 1 (.tmp 3), none⟩, ⟨some 74, .load false 1 (.tmp 73), none⟩, ⟨some 75, .mv (.tmp 16), none⟩, ⟨some 76, .idxA 3 (.tmp 74) (.tmp 75), none⟩, ⟨some 77, .fieldA 1 (.tmp 76), none⟩, ⟨some 78, .load false 1 (.tmp 77), none⟩, ⟨some 79, .idxA 1 (.tmp 72) (.tmp 78), none⟩, ⟨some 80, .load false 1 (.tmp 79), none⟩, ⟨some 81, .mv (.tmp 8), none⟩, ⟨some 82, .fieldA 1 (.tmp 3), none⟩, ⟨some 83, .load false 1 (.tmp 82), none⟩, ⟨some 84, .mv (.tmp 16), none⟩, ⟨some 85, .idxA 3 (.tmp 83) (.tmp 84), none⟩, ⟨some 86, .fieldA 2 (.tmp 85), none⟩, ⟨some 87, .load false 1 (.tmp 86), none⟩, ⟨some 88, .idxA 1 (.tmp 81) (.tmp 87), none⟩, ⟨some 89, .load false 1 (.tmp 88), none⟩, ⟨some 90, .build [.t (.int .i64 0), .t (.int .i64 0), .t (.int .i64 0)] [(0, (1, .tmp 71)), (1, (1, .tmp 80)), (2, (1, .tmp 89))], none⟩, ⟨some 91, .idxA 3 (.tmp 61) (.tmp 65), none⟩, ⟨none, .store 3 (.tmp 91) (.tmp 90), none⟩])) (.region [⟨some 58, .mv (.tmp 16), none⟩, ⟨some 59, .bin .add (.tmp 58) (.c (.one (.t (.int .i64 1)))), none⟩, ⟨some 16, .mv (.tmp 59), none⟩])))))) (.seq (.region [⟨some 92, .load true 2 (.tmp 14), none⟩, ⟨some 93, .mv (.tmp 8), none⟩, ⟨some 94, .mv (.tmp 11), none⟩, ⟨some 95, .build [.nil, .nil] [(0, (1, .tmp 93)), (1, (1, .tmp 94))], none⟩, ⟨none, .store 2 (.tmp 6) (.tmp 92), none⟩, ⟨none, .store 2 (.tmp 7) (.tmp 95), none⟩]) .ret))))))⟩
theorem k_quot10 : cFn Tryz.prog Tryz.f132 = some c_quot10 := by kernel_rfl
set_option maxHeartbeats 4000000 in
theorem quot10_ok (u : Gr) (p q : List Int) (gu : GrOk u) (fp : Flat p) (fq : Flat q) (lp : p.length = u.nodes.length) (lq : q.length = u.edges.length)
    (hn : ∀ i, i < u.nodes.length → nth u.nodes (nth p i).toNat = nth u.nodes i) (he : ∀ i, i < u.edges.length → qE u p (nth q i).toNat = qE u p i) :
    CallOK Tryz.prog 132 [u.v, (false, [ints p]), (false, [ints q])] (.tup [(quoG u p q).v, (quoM p q).v]) := by
  refine callOK_W (callS_W (by kernel_rfl) Tryz.func132 k_quot10 (callable_of Tryz.func132 (by kernel_rfl)) (by simp [c_quot10]) ?_)
  have b1 := gu.n
  have b2 := gu.e
  have cp := clsN_le (p := p) p.length
  have cq := clsN_le (p := q) q.length
  simp [c_quot10]
  refine callS_tree (quot02_ok p fp (by omega)) ?_ ?_ ?_
  · rfl
  · rfl
  simp
  refine callS_tree (quot02_ok q fq (by omega)) ?_ ?_ ?_
  · rfl
  · rfl
  rw [lp] at cp ⊢
  rw [lq] at cq ⊢
  have n1 : clsN p u.nodes.length * 8 ≤ 140737488355328 := by omega
  have n2 : (clsN p u.nodes.length : Int) ≤ 9223372036854775807 := by omega
  have n3 : clsN q u.edges.length * 24 ≤ 140737488355328 := by omega
  have n4 : (clsN q u.edges.length : Int) ≤ 9223372036854775807 := by omega
  simp [dw0, dw1, dw2, dw3, n1, n2, n3, n4]
  refine ⟨rfl, ?_⟩
  have QN := quotL_len (p := p)
  have QE := quotL_len (p := q)
  refine loopW_count 15 u.nodes.length (fun k S => S.fr 3 = .one (.ptr (0, 0) 0) ∧ S.fr 6 = .one (.ptr (1, 0) 0) ∧ S.fr 7 = .one (.ptr (2, 0) 0) ∧ S.fr 8 = .one (.t (ints (quotL p))) ∧ S.fr 11 = .one (.t (ints (quotL q))) ∧ S.fr 14 = .one (.ptr (197, 0) 0) ∧
    S.ob (0, 0) = some (bx 25 (u.v.2.map .t)) ∧ S.ob (1, 0) = some (bx 25 [.nil, .nil]) ∧ S.ob (2, 0) = some (bx 27 [.nil, .nil]) ∧ S.ob (197, 0) = some (bx 25 [.row (193, 0), .row (195, 0)]) ∧
    S.ob (193, 0) = some (rowO (clsL p (nth u.nodes) 0 u.nodes.length k)) ∧ S.ob (195, 0) = some (rowE (List.replicate (clsN q u.edges.length) ⟨0, 0, 0⟩))) (by omega) ?_ ?_ ?_
  · simp [rowO, rowE, clsL_zero, repl_edL]
  · rintro k S hlt hw hc ⟨f3, f6, f7, f8, f11, f14, o0, o1, o2, o197, o193, o195⟩
    have hltq : k < (quotL p).length := by omega
    have hltp : k < p.length := by omega
    have e1 := quotL_nth hltp
    have hx := fp.fo.at hltp
    obtain ⟨j, hj, hle⟩ := hx
    have hfx := fp.fx k hltp
    rw [hj, Int.toNat_natCast] at hfx
    rw [hj, Int.toNat_natCast] at e1
    have l1 := clsL_len (p := p) (f := nth u.nodes) (z := 0) (m := u.nodes.length) (k := k) (by omega)
    have l2 := clsL_len (p := p) (f := nth u.nodes) (z := 0) (m := u.nodes.length) (k := k + 1) (by omega)
    have hl : clsN p j < clsN p u.nodes.length := clsN_lt hfx (by omega)
    have hl1 : clsN p j + 1 ≤ clsN p u.nodes.length := hl
    have hl2 : clsN p j < (clsL p (nth u.nodes) 0 u.nodes.length k).length := by omega
    have e2 := row_set (v := nth u.nodes k) hl2
    have e3 := clsL_set (f := nth u.nodes) (z := 0) fp lp hlt (hn k hlt)
    rw [hj, Int.toNat_natCast] at e3
    simp [dw0, dw1, dw2, dw3, f3, f6, f7, f8, f11, f14, o0, o1, o2, o197, o193, o195, hc, hlt, hltq, drop_nth hltq, drop_nth hlt, e1, rowO, rowE, l1, hl, hl1, e2, e3, hw, l2]
    rfl
  · rintro S hc ⟨f3, f6, f7, f8, f11, f14, o0, o1, o2, o197, o193, o195⟩
    rw [clsL_all] at o193
    have eN : collect (clsF p (nth u.nodes)) u.nodes.length = (quoG u p q).nodes := rfl
    rw [eN] at o193
    simp [f3, f6, f7, f8, f11, f14, o0, o1, o2, o197, o193, o195, hc]
    refine loopW_count 16 u.edges.length (fun k S => S.fr 3 = .one (.ptr (0, 0) 0) ∧ S.fr 6 = .one (.ptr (1, 0) 0) ∧ S.fr 7 = .one (.ptr (2, 0) 0) ∧ S.fr 8 = .one (.t (ints (quotL p))) ∧ S.fr 11 = .one (.t (ints (quotL q))) ∧ S.fr 14 = .one (.ptr (197, 0) 0) ∧
      S.ob (0, 0) = some (bx 25 (u.v.2.map .t)) ∧ S.ob (1, 0) = some (bx 25 [.nil, .nil]) ∧ S.ob (2, 0) = some (bx 27 [.nil, .nil]) ∧ S.ob (197, 0) = some (bx 25 [.row (193, 0), .row (195, 0)]) ∧
      S.ob (193, 0) = some (rowO (quoG u p q).nodes) ∧ S.ob (195, 0) = some (rowE (clsL q (qE u p) ⟨0, 0, 0⟩ u.edges.length k))) (by omega) ?_ ?_ ?_
    · simp [f3, f6, f7, f8, f11, f14, o0, o1, o2, o197, o193, o195, clsL_zero]
    · rintro k S hlt hw hc ⟨f3, f6, f7, f8, f11, f14, o0, o1, o2, o197, o193, o195⟩
      have hltq : k < (quotL q).length := by omega
      have hltp : k < q.length := by omega
      have hlt3 : k * 3 < u.edges.length * 3 := by omega
      have e1 := quotL_nth hltp
      have hx := fq.fo.at hltp
      obtain ⟨j, hj, hle⟩ := hx
      have hfx := fq.fx k hltp
      rw [hj, Int.toNat_natCast] at hfx
      rw [hj, Int.toNat_natCast] at e1
      obtain ⟨_, _, g1, g2, g3, g4⟩ := gu.edges _ (eth_mem hlt)
      obtain ⟨x, hx⟩ := Int.eq_ofNat_of_zero_le g1
      obtain ⟨y, hy⟩ := Int.eq_ofNat_of_zero_le g3
      have hx2 : x < (quotL p).length := by omega
      have hy2 : y < (quotL p).length := by omega
      have eq : qE u p k = ⟨(eth u.edges k).t, nth (quotL p) x, nth (quotL p) y⟩ := by simp [qE, hx, hy]
      have l1 := clsL_len (p := q) (f := qE u p) (z := ⟨0, 0, 0⟩) (m := u.edges.length) (k := k) (by omega)
      have l2 := clsL_len (p := q) (f := qE u p) (z := ⟨0, 0, 0⟩) (m := u.edges.length) (k := k + 1) (by omega)
      have hl : clsN q j < clsN q u.edges.length := clsN_lt hfx (by omega)
      have hl1 : clsN q j + 1 ≤ clsN q u.edges.length := hl
      have hl3 : clsN q j * 3 + 3 ≤ clsN q u.edges.length * 3 := by omega
      have hl2 : clsN q j < (clsL q (qE u p) ⟨0, 0, 0⟩ u.edges.length k).length := by omega
      have e2 := rowE_set (e := qE u p k) hl2
      have e3 := clsL_set (f := qE u p) (z := ⟨0, 0, 0⟩) fq lq hlt (he k hlt)
      rw [hj, Int.toNat_natCast] at e3
      rw [e3, eq] at e2
      simp only at e2
      have e4 := len_edL (clsL q (qE u p) ⟨0, 0, 0⟩ u.edges.length k)
      simp [dw0, dw1, dw2, dw3, f3, f6, f7, f8, f11, f14, o0, o1, o2, o197, o193, o195, hc, hlt, hlt3, hltq, drop_nth hltq, drop_edL hlt, hx, hy, hx2, hy2, drop_nth hx2, drop_nth hy2, e1, rowO, rowE, l1, hl, hl1, hl3, e2, e4, hw, l2]
      rfl
    · rintro S hc ⟨f3, f6, f7, f8, f11, f14, o0, o1, o2, o197, o193, o195⟩
      rw [clsL_all] at o195
      have eE : collect (clsF q (qE u p)) u.edges.length = (quoG u p q).edges := rfl
      rw [eE] at o195
      simp [f3, f6, f7, f8, f11, f14, o0, o1, o2, o197, o193, o195, hc, rowO, rowE, untreeT, untreeI, quoM]
end Go.Proofs.YthcnpnogfblkcaaGreat

/- Contracts: the reference's standard pushouts. -/
namespace Go.Proofs.YthcnpnogfblkcaaGreat
open Abs
set_option linter.unusedSimpArgs false
set_option linter.unusedVariables false
attribute [local simp] rn0 rn1 rn2 rn3 rn4 rn5 rn6 rn7 evOp nests Arg.ev St.val St.set St.new sliceOf binInt2 binInt AV.cells rdAt St.live retOf resOf resAll treeOf treeCell treeCells treeTups untree frameOf TV.av TR.av ints edgs prs fillV splice intsOf trees V1.tree bx Gr.v Pa.v opRd opWr opNew opNewR opArgs argsRd argRd Arg.rd AV.refs V1.refs refsL dstL

/-! ### The types of what a span identifies -/
theorem nth_appL {a b : List Int} {i : Nat} (h : i < a.length) : nth (a ++ b) i = nth a i := by
  rw [nth_eq (by simp; omega), nth_eq h, List.getElem_append_left h]
theorem nth_appR {a b : List Int} {i : Nat} (h : i < b.length) : nth (a ++ b) (a.length + i) = nth b i := by
  rw [nth_eq (by simp; omega), nth_eq h, List.getElem_append_right (by omega)]
  simp
theorem eth_appL {a b : List Ed} {i : Nat} (h : i < a.length) : eth (a ++ b) i = eth a i := by
  rw [eth_eq (by simp; omega), eth_eq h, List.getElem_append_left h]
theorem eth_appR {a b : List Ed} {i : Nat} (h : i < b.length) : eth (a ++ b) (a.length + i) = eth b i := by
  rw [eth_eq (by simp; omega), eth_eq h, List.getElem_append_right (by omega)]
  simp
theorem eth_map {b : List Ed} {g : Ed → Ed} {i : Nat} (h : i < b.length) : eth (b.map g) i = g (eth b i) := by
  rw [eth_eq (by simpa using h), eth_eq h]
  simp
theorem glN_mem {s : Sp} (ok : SpOk s) {q : Int × Int} (h : q ∈ glN s) : ∃ i a b : Nat, i < s.A.nodes.length ∧ nth s.F.nodes i = a ∧ nth s.G.nodes i = b ∧ a < s.B.nodes.length ∧ b < s.C.nodes.length ∧ q = ((a : Int), ((s.B.nodes.length + b : Nat) : Int)) := by
  simp only [glN, pgK, List.mem_map, List.mem_range] at h
  obtain ⟨i, hi, rfl⟩ := h
  have l1 := ok.F.ln
  have l2 := ok.G.ln
  obtain ⟨a1, a2, _⟩ := ok.F.n i (by omega)
  obtain ⟨b1, b2, _⟩ := ok.G.n i (by omega)
  obtain ⟨a, ha⟩ := Int.eq_ofNat_of_zero_le a1
  obtain ⟨b, hb⟩ := Int.eq_ofNat_of_zero_le b1
  refine ⟨i, a, b, by omega, ha, hb, by omega, by omega, ?_⟩
  simp only [ha, hb, Int.toNat_natCast, unL, unR]
  rw [numL_nth (by omega), numL_nth (by omega)]
  simp
theorem glE_mem {s : Sp} (ok : SpOk s) {q : Int × Int} (h : q ∈ glE s) : ∃ i a b : Nat, i < s.A.edges.length ∧ nth s.F.edges i = a ∧ nth s.G.edges i = b ∧ a < s.B.edges.length ∧ b < s.C.edges.length ∧ q = ((a : Int), ((s.B.edges.length + b : Nat) : Int)) := by
  simp only [glE, pgK, List.mem_map, List.mem_range] at h
  obtain ⟨i, hi, rfl⟩ := h
  have l1 := ok.F.le
  have l2 := ok.G.le
  obtain ⟨a1, a2, _⟩ := ok.F.e i (by omega)
  obtain ⟨b1, b2, _⟩ := ok.G.e i (by omega)
  obtain ⟨a, ha⟩ := Int.eq_ofNat_of_zero_le a1
  obtain ⟨b, hb⟩ := Int.eq_ofNat_of_zero_le b1
  refine ⟨i, a, b, by omega, ha, hb, by omega, by omega, ?_⟩
  simp only [ha, hb, Int.toNat_natCast, unL, unR]
  rw [numL_nth (by omega), numL_nth (by omega)]
  simp
theorem glN_at {s : Sp} (ok : SpOk s) {i a b : Nat} (hi : i < s.A.nodes.length) (ha : nth s.F.nodes i = a) (hb : nth s.G.nodes i = b) : ((a : Int), ((s.B.nodes.length + b : Nat) : Int)) ∈ glN s := by
  simp only [glN, pgK, List.mem_map, List.mem_range]
  have l1 := ok.F.ln
  obtain ⟨a1, a2, _⟩ := ok.F.n i hi
  obtain ⟨b1, b2, _⟩ := ok.G.n i hi
  refine ⟨i, by omega, ?_⟩
  simp only [ha, hb, Int.toNat_natCast, unL, unR]
  rw [numL_nth (by omega), numL_nth (by omega)]
  simp
theorem glE_at {s : Sp} (ok : SpOk s) {i a b : Nat} (hi : i < s.A.edges.length) (ha : nth s.F.edges i = a) (hb : nth s.G.edges i = b) : ((a : Int), ((s.B.edges.length + b : Nat) : Int)) ∈ glE s := by
  simp only [glE, pgK, List.mem_map, List.mem_range]
  have l1 := ok.F.le
  obtain ⟨a1, a2, _⟩ := ok.F.e i hi
  obtain ⟨b1, b2, _⟩ := ok.G.e i hi
  refine ⟨i, by omega, ?_⟩
  simp only [ha, hb, Int.toNat_natCast, unL, unR]
  rw [numL_nth (by omega), numL_nth (by omega)]
  simp
/-- Images of a node are in one class. -/
theorem poP_pair {s : Sp} (ok : SpOk s) {i a b : Nat} (hi : i < s.A.nodes.length) (ha : nth s.F.nodes i = a) (hb : nth s.G.nodes i = b) : nth (poP s) a = nth (poP s) (s.B.nodes.length + b) :=
  genL_pair (glN_in ok) (glN_at ok hi ha hb)
theorem poQ_pair {s : Sp} (ok : SpOk s) {i a b : Nat} (hi : i < s.A.edges.length) (ha : nth s.F.edges i = a) (hb : nth s.G.edges i = b) : nth (poQ s) a = nth (poQ s) (s.B.edges.length + b) :=
  genL_pair (glE_in ok) (glE_at ok hi ha hb)
theorem poP_len {s : Sp} : (poP s).length = s.B.nodes.length + s.C.nodes.length := by rw [poP, genL_len, poU, unG_nlen]
theorem poQ_len {s : Sp} : (poQ s).length = s.B.edges.length + s.C.edges.length := by rw [poQ, genL_len, poU, unG_elen]
theorem poU_nL {s : Sp} {i : Nat} (h : i < s.B.nodes.length) : nth (poU s).nodes i = nth s.B.nodes i := nth_appL h
theorem poU_nR {s : Sp} {i : Nat} (h : i < s.C.nodes.length) : nth (poU s).nodes (s.B.nodes.length + i) = nth s.C.nodes i := nth_appR h
theorem poU_eL {s : Sp} {i : Nat} (h : i < s.B.edges.length) : eth (poU s).edges i = eth s.B.edges i := eth_appL h
theorem poU_eR {s : Sp} {i : Nat} (h : i < s.C.edges.length) : eth (poU s).edges (s.B.edges.length + i) = shiftE s.B.nodes.length (eth s.C.edges i) := by
  rw [poU, unG]
  simp only
  rw [eth_appR (by simpa using h), eth_map h]
theorem poN_const {s : Sp} (ok : SpOk s) : ∀ i, i < (poU s).nodes.length → nth (poU s).nodes (nth (poP s) i).toNat = nth (poU s).nodes i := fun i hi =>
  genL_inv (f := nth (poU s).nodes) (glN_in ok) (fun q hq => by
    obtain ⟨k, a, b, hk, ha, hb, ha2, hb2, rfl⟩ := glN_mem ok hq
    simp only [Int.toNat_natCast]
    rw [poU_nL ha2, poU_nR hb2]
    have h1 := (ok.F.n k hk).2.2
    have h2 := (ok.G.n k hk).2.2
    rw [ha, Int.toNat_natCast] at h1
    rw [hb, Int.toNat_natCast] at h2
    rw [h1, h2]) hi
theorem poE_const {s : Sp} (ok : SpOk s) : ∀ i, i < (poU s).edges.length → qE (poU s) (poP s) (nth (poQ s) i).toNat = qE (poU s) (poP s) i := fun i hi =>
  genL_inv (f := qE (poU s) (poP s)) (glE_in ok) (fun q hq => by
    obtain ⟨k, a, b, hk, ha, hb, ha2, hb2, rfl⟩ := glE_mem ok hq
    simp only [Int.toNat_natCast]
    obtain ⟨_, _, t1, u1, v1⟩ := ok.F.e k hk
    obtain ⟨_, _, t2, u2, v2⟩ := ok.G.e k hk
    rw [ha, Int.toNat_natCast] at t1 u1 v1
    rw [hb, Int.toNat_natCast] at t2 u2 v2
    obtain ⟨_, _, g1, g2, g3, g4⟩ := ok.F.ga.edges _ (eth_mem hk)
    obtain ⟨_, _, p1, p2, p3, p4⟩ := ok.F.gb.edges _ (eth_mem ha2)
    obtain ⟨_, _, q1, q2, q3, q4⟩ := ok.G.gb.edges _ (eth_mem hb2)
    have l := poP_len (s := s)
    obtain ⟨x, hx⟩ := Int.eq_ofNat_of_zero_le p1
    obtain ⟨y, hy⟩ := Int.eq_ofNat_of_zero_le p3
    obtain ⟨z, hz⟩ := Int.eq_ofNat_of_zero_le q1
    obtain ⟨w, hw⟩ := Int.eq_ofNat_of_zero_le q3
    have c1 := poP_pair ok (i := (eth s.A.edges k).f.toNat) (a := x) (b := z) (by omega) (by rw [u1, hx]) (by rw [u2, hz])
    have c2 := poP_pair ok (i := (eth s.A.edges k).g.toNat) (a := y) (b := w) (by omega) (by rw [v1, hy]) (by rw [v2, hw])
    have z1 : ((z : Int) + s.B.nodes.length).toNat = s.B.nodes.length + z := by omega
    have z2 : ((w : Int) + s.B.nodes.length).toNat = s.B.nodes.length + w := by omega
    rw [qE, qE, poU_eL ha2, poU_eR hb2]
    simp only [shiftE, hx, hy, hz, hw, Int.toNat_natCast, z1, z2, ← t1, ← t2]
    rw [quotL_nth (by omega), quotL_nth (by omega), quotL_nth (by omega), quotL_nth (by omega), c1, c2]) hi

def c_glue10 : MFunc := ⟨42, [.cell 6 true 2, .cell 7 true 2], .seq (.region [⟨some 3, .box 0 25 (.tmp 0), none⟩, ⟨some 4, .box 1 27 (.tmp 1), none⟩, ⟨some 5, .box 2 27 (.tmp 2), none⟩, ⟨some 6, .alloc 3 25 [.nil, .nil], none⟩, ⟨some 7, .alloc 4 27 [.nil, .nil], none⟩]) (.seq (.draw [[], [0], [1], [], [3], [], [5], [4, 6], [2, 7, 7], [8], [9], [9], [10, 8, 0, 1, 2, 3, 4, 5, 6, 7, 8, 9, 10], [11, 12, 0, 1, 2, 3, 4, 5, 6, 7, 8, 9, 10, 11, 12]] [⟨some 13, .fieldA 0 (.tmp 3), none⟩, ⟨some 14, .load false 1 (.tmp 13), none⟩, ⟨some 15, .len (.tmp 14), none⟩, ⟨some 16, .fieldA 0 (.tmp 4), none⟩, ⟨some 17, .load false 1 (.tmp 16), none⟩, ⟨some 18, .fieldA 0 (.tmp 5), none⟩, ⟨some 19, .load false 1 (.tmp 18), none⟩, ⟨some 20, .call (.c (.one (.fn 131 []))) 71 [.tmp 17, .tmp 19], none⟩, ⟨some 21, .call (.c (.one (.fn 130 []))) 72 [.tmp 15, .tmp 20], none⟩, ⟨some 12, .mv (.tmp 21), none⟩, ⟨some 22, .extract (.tmp 12) 0, none⟩, ⟨some 23, .extract (.tmp 12) 1, none⟩, ⟨some 8, .mv (.tmp 22), none⟩, ⟨some 9, .mv (.tmp 23), none⟩]) (.seq (.draw [[], [0], [1], [], [3], [], [5], [4, 6], [2, 7, 7], [8], [9], [9], [10, 8, 0, 1, 2, 3, 4, 5, 6, 7, 8, 9, 10], [11, 12, 0, 1, 2, 3, 4, 5, 6, 7, 8, 9, 10, 11, 12]] [⟨some 25, .fieldA 1 (.tmp 3), none⟩, ⟨some 26, .load false 1 (.tmp 25), none⟩, ⟨some 27, .len (.tmp 26), none⟩, ⟨some 28, .fieldA 1 (.tmp 4), none⟩, ⟨some 29, .load false 1 (.tmp 28), none⟩, ⟨some 30, .fieldA 1 (.tmp 5), none⟩, ⟨some 31, .load false 1 (.tmp 30), none⟩, ⟨some 32, .call (.c (.one (.fn 131 []))) 135 [.tmp 29, .tmp 31], none⟩, ⟨some 33, .call (.c (.one (.fn 130 []))) 136 [.tmp 27, .tmp 32], none⟩, ⟨some 24, .mv (.tmp 33), none⟩, ⟨some 34, .extract (.tmp 24) 0, none⟩, ⟨some 35, .extract (.tmp 24) 1, none⟩, ⟨some 10, .mv (.tmp 34), none⟩, ⟨some 11, .mv (.tmp 35), none⟩]) (.seq (.region [⟨some 36, .load true 2 (.tmp 3), none⟩, ⟨some 37, .mv (.tmp 8), none⟩, ⟨some 38, .mv (.tmp 10), none⟩, ⟨some 39, .call (.c (.one (.fn 132 []))) 195 [.tmp 36, .tmp 37, .tmp 38], none⟩, ⟨some 40, .extract (.tmp 39) 0, none⟩, ⟨some 41, .extract (.tmp 39) 1, none⟩, ⟨none, .store 2 (.tmp 6) (.tmp 40), none⟩, ⟨none, .store 2 (.tmp 7) (.tmp 41), none⟩]) .ret)))⟩
theorem k_glue10 : cFn Tryz.prog Tryz.f94 = some c_glue10 := by kernel_rfl
set_option maxHeartbeats 1000000 in
theorem glue10_ok (s : Sp) (h : TinySp s) (ok : SpOk s) (h1 : unErr s.B s.C = 0) : CallOK Tryz.prog 94 [(poU s).v, (thenP s.F (unL s.B)).v, (thenP s.G (unR s.B s.C)).v] (.tup [(poG s).v, (poM s).v]) := by
  refine callOK_W (callS_W (by kernel_rfl) Tryz.func94 k_glue10 (callable_of Tryz.func94 (by kernel_rfl)) (by simp [c_glue10]) ?_)
  have gu := unG_ok h1
  have b1 := gu.n
  have b2 := gu.e
  have l1 := ok.F.ln
  have l2 := ok.G.ln
  have l3 := ok.F.le
  have l4 := ok.G.le
  have a1 := ok.F.ga.n
  have a2 := ok.F.ga.e
  have z1 : zpK (thru s.F.nodes (unL s.B).nodes) (thru s.G.nodes (unR s.B s.C).nodes) s.F.nodes.length = glN s := zpK_thru (by omega) (by omega)
  have z2 : zpK (thru s.F.edges (unL s.B).edges) (thru s.G.edges (unR s.B s.C).edges) s.F.edges.length = glE s := zpK_thru (by omega) (by omega)
  have y1 := thru_len (l := s.F.nodes) (b := (unL s.B).nodes)
  have y2 := thru_len (l := s.G.nodes) (b := (unR s.B s.C).nodes)
  have y3 := thru_len (l := s.F.edges) (b := (unL s.B).edges)
  have y4 := thru_len (l := s.G.edges) (b := (unR s.B s.C).edges)
  have r1 := callOK_of_row (pairs10_row (thru s.F.nodes (unL s.B).nodes) (thru s.G.nodes (unR s.B s.C).nodes) (by omega) (by omega))
  have r2 := callOK_of_row (pairs10_row (thru s.F.edges (unL s.B).edges) (thru s.G.edges (unR s.B s.C).edges) (by omega) (by omega))
  rw [y1, z1] at r1
  rw [y3, z2] at r2
  have tn : tiny (glN s).length := by simp only [glN, pgK_len, tiny]; omega
  have te : tiny (glE s).length := by simp only [glE, pgK_len, tiny]; omega
  simp [c_glue10, dw0, dw1, dw2, dw3, thenP]
  refine dCall_ok r1 ?_ ?_ ?_
  · rfl
  · rfl
  simp [dw0, dw1, dw2, dw3]
  refine dCall_ok (gen02_ok (poU s).nodes.length (glN s) (by simp only [poU]; omega) tn (glN_in ok)) ?_ ?_ ?_
  · rfl
  · rfl
  simp [dw0, dw1, dw2, dw3]
  refine ⟨rfl, ?_⟩
  refine dCall_ok r2 ?_ ?_ ?_
  · rfl
  · rfl
  simp [dw0, dw1, dw2, dw3]
  refine dCall_ok (gen02_ok (poU s).edges.length (glE s) (by simp only [poU]; omega) te (glE_in ok)) ?_ ?_ ?_
  · rfl
  · rfl
  simp [dw0, dw1, dw2, dw3]
  refine ⟨rfl, ?_⟩
  refine callS_tree (quot10_ok (poU s) (poP s) (poQ s) gu (poP_flat ok) (poQ_flat ok) (by rw [poP, genL_len]) (by rw [poQ, genL_len]) (poN_const ok) (poE_const ok)) ?_ ?_ ?_
  · rfl
  · rfl
  have eG : quoG (poU s) (poP s) (poQ s) = poG s := rfl
  have eM : quoM (poP s) (poQ s) = poM s := rfl
  rw [eG, eM]
  simp

def c_of10 : MFunc := ⟨57, [.cell 2 true 2, .cell 3 true 2, .cell 4 true 2, .tmp 5], .seq (.region [⟨some 1, .box 0 47 (.tmp 0), none⟩, ⟨some 2, .alloc 1 25 [.nil, .nil], none⟩, ⟨some 3, .alloc 2 27 [.nil, .nil], none⟩, ⟨some 4, .alloc 3 27 [.nil, .nil], none⟩, ⟨some 5, .mv (.c (.one (.t (.int .i64 0)))), none⟩]) (.seq (.seq (.region [⟨some 13, .load true 10 (.tmp 1), none⟩, ⟨some 14, .call (.c (.one (.fn 93 []))) 65 [.tmp 13], none⟩, ⟨some 6, .mv (.tmp 14), none⟩]) (.seq (.region [⟨some 15, .mv (.tmp 6), none⟩, ⟨some 16, .bin .neq (.tmp 15) (.c (.one (.t (.int .i64 0)))), none⟩]) (.cond (.tmp 16) (.seq (.region [⟨some 17, .build [.nil, .nil] [], none⟩, ⟨some 18, .build [.nil, .nil] [], none⟩, ⟨some 19, .build [.nil, .nil] [], none⟩, ⟨some 20, .mv (.tmp 6), none⟩, ⟨none, .store 2 (.tmp 2) (.tmp 17), none⟩, ⟨none, .store 2 (.tmp 3) (.tmp 18), none⟩, ⟨none, .store 2 (.tmp 4) (.tmp 19), none⟩, ⟨some 5, .mv (.tmp 20), none⟩]) .ret) .skip))) (.seq (.region [⟨some 22, .fieldA 2 (.tmp 1), none⟩, ⟨some 23, .load true 2 (.tmp 22), none⟩, ⟨some 24, .fieldA 4 (.tmp 1), none⟩, ⟨some 25, .load true 2 (.tmp 24), none⟩, ⟨some 26, .call (.c (.one (.fn 74 []))) 260 [.tmp 23, .tmp 25], none⟩, ⟨some 21, .mv (.tmp 26), none⟩, ⟨some 27, .extract (.tmp 21) 0, none⟩, ⟨some 28, .extract (.tmp 21) 1, none⟩, ⟨some 29, .extract (.tmp 21) 2, none⟩, ⟨some 30, .extract (.tmp 21) 3, none⟩, ⟨some 7, .alloc 266 25 [.nil, .nil], none⟩, ⟨some 8, .alloc 267 27 [.nil, .nil], none⟩, ⟨some 9, .alloc 268 27 [.nil, .nil], none⟩, ⟨none, .store 2 (.tmp 7) (.tmp 27), none⟩, ⟨none, .store 2 (.tmp 8) (.tmp 28), none⟩, ⟨none, .store 2 (.tmp 9) (.tmp 29), none⟩, ⟨some 10, .mv (.tmp 30), none⟩]) (.seq (.seq (.region [⟨some 31, .mv (.tmp 10), none⟩, ⟨some 32, .bin .neq (.tmp 31) (.c (.one (.t (.int .i64 0)))), none⟩]) (.cond (.tmp 32) (.seq (.region [⟨some 33, .build [.nil, .nil] [], none⟩, ⟨some 34, .build [.nil, .nil] [], none⟩, ⟨some 35, .build [.nil, .nil] [], none⟩, ⟨some 36, .mv (.tmp 10), none⟩, ⟨none, .store 2 (.tmp 2) (.tmp 33), none⟩, ⟨none, .store 2 (.tmp 3) (.tmp 34), none⟩, ⟨none, .store 2 (.tmp 4) (.tmp 35), none⟩, ⟨some 5, .mv (.tmp 36), none⟩]) .ret) .skip)) (.seq (.draw [[], [], [1], [], [2, 3], [], [5], [], [6, 7, 4], [0, 4, 8, 8], [9], [10], [10], [], [], [13, 11, 9, 0, 1, 2, 3, 4, 5, 6, 7, 8, 9, 10, 11, 13, 14], [14, 12, 15, 0, 1, 2, 3, 4, 5, 6, 7, 8, 9, 10, 11, 12, 13, 14, 15]] [⟨some 38, .load true 2 (.tmp 7), none⟩, ⟨some 39, .fieldA 6 (.tmp 1), none⟩, ⟨some 40, .load true 2 (.tmp 39), none⟩, ⟨some 41, .load true 2 (.tmp 8), none⟩, ⟨some 42, .call (.c (.one (.fn 39 []))) 452 [.tmp 40, .tmp 41], none⟩, ⟨some 43, .fieldA 8 (.tmp 1), none⟩, ⟨some 44, .load true 2 (.tmp 43), none⟩, ⟨some 45, .load true 2 (.tmp 9), none⟩, ⟨some 46, .call (.c (.one (.fn 39 []))) 456 [.tmp 44, .tmp 45], none⟩, ⟨some 47, .call (.c (.one (.fn 94 []))) 457 [.tmp 38, .tmp 42, .tmp 46], none⟩, ⟨some 37, .mv (.tmp 47), none⟩, ⟨some 48, .extract (.tmp 37) 0, none⟩, ⟨some 49, .extract (.tmp 37) 1, none⟩, ⟨some 11, .alloc 461 25 [.nil, .nil], none⟩, ⟨some 12, .alloc 462 27 [.nil, .nil], none⟩, ⟨none, .store 2 (.tmp 11) (.tmp 48), none⟩, ⟨none, .store 2 (.tmp 12) (.tmp 49), none⟩]) (.seq (.draw [[], [], [], [1, 2], [], [], [4, 5, 3], [0, 6, 0], [3, 7, 0, 1, 2, 3, 7], [6, 8, 0, 1, 2, 3, 4, 5, 6, 7, 8], [9, 0, 1, 2, 3, 4, 5, 6, 7, 8, 9]] [⟨some 50, .load true 2 (.tmp 11), none⟩, ⟨some 51, .load true 2 (.tmp 8), none⟩, ⟨some 52, .load true 2 (.tmp 12), none⟩, ⟨some 53, .call (.c (.one (.fn 39 []))) 515 [.tmp 51, .tmp 52], none⟩, ⟨some 54, .load true 2 (.tmp 9), none⟩, ⟨some 55, .load true 2 (.tmp 12), none⟩, ⟨some 56, .call (.c (.one (.fn 39 []))) 518 [.tmp 54, .tmp 55], none⟩, ⟨none, .store 2 (.tmp 2) (.tmp 50), none⟩, ⟨none, .store 2 (.tmp 3) (.tmp 53), none⟩, ⟨none, .store 2 (.tmp 4) (.tmp 56), none⟩, ⟨some 5, .mv (.c (.one (.t (.int .i64 0)))), none⟩]) .ret)))))⟩
theorem k_of10 : cFn Tryz.prog Tryz.f53 = some c_of10 := by kernel_rfl
set_option maxHeartbeats 1000000 in
theorem of10_ok (s : Sp) (h : TinySp s) : CallOK Tryz.prog 53 [s.v] (gluT (poR s)) := by
  refine callOK_W (callS_W (by kernel_rfl) Tryz.func53 k_of10 (callable_of Tryz.func53 (by kernel_rfl)) (by simp [c_of10]) ?_)
  simp [c_of10, Sp.v, Sp.cs]
  refine callS_tree (span10_ok s h) ?_ ?_ ?_
  · rfl
  · rfl
  by_cases h1 : spErr s = 0
  case neg =>
    have e : poR s = (⟨[], []⟩, ⟨[], []⟩, ⟨[], []⟩, spErr s) := by simp [poR, poErr, h1]
    simp [h1, gluT, e, edL]
  have ok := spErr_ok h1
  simp [h1]
  refine callS_tree (union05_ok s.B s.C h.B h.C) ?_ ?_ ?_
  · rfl
  · simp [AV.still, V1.still]
  by_cases h2 : unErr s.B s.C = 0
  case neg =>
    have e : poR s = (⟨[], []⟩, ⟨[], []⟩, ⟨[], []⟩, unErr s.B s.C) := by simp [poR, poErr, h1, h2]
    simp [unT, h2, gluT, e, edL]
  have e : poR s = (poG s, poI s, poJ s, 0) := by simp [poR, poErr, h1, h2]
  simp [dw0, dw1, dw2, dw3, unT, h2]
  have f1 : FitsP s.F (unL s.B) := ⟨fun x hx => by have := ok.F.rn x hx; simp only [unL, numL_len]; exact this, fun x hx => by have := ok.F.re x hx; simp only [unL, numL_len]; exact this⟩
  have f2 : FitsP s.G (unR s.B s.C) := ⟨fun x hx => by have := ok.G.rn x hx; simp only [unR, numL_len]; exact this, fun x hx => by have := ok.G.re x hx; simp only [unR, numL_len]; exact this⟩
  refine dCall_ok (then6_ok s.F (unL s.B) h.F f1) ?_ ?_ ?_
  · rfl
  · rfl
  simp [dw0, dw1, dw2, dw3]
  refine dCall_ok (then6_ok s.G (unR s.B s.C) h.G f2) ?_ ?_ ?_
  · rfl
  · rfl
  simp [dw0, dw1, dw2, dw3]
  refine dCall_ok (glue10_ok s h ok h2) ?_ ?_ ?_
  · rfl
  · rfl
  simp [dw0, dw1, dw2, dw3]
  refine ⟨rfl, ?_⟩
  refine dCall_ok (then6_ok (unL s.B) (poM s) (tinyL h.B) fitL) ?_ ?_ ?_
  · rfl
  · rfl
  simp [dw0, dw1, dw2, dw3]
  refine dCall_ok (then6_ok (unR s.B s.C) (poM s) (tinyR h.C) fitR) ?_ ?_ ?_
  · rfl
  · rfl
  simp [dw0, dw1, dw2, dw3, gluT, e, poI, poJ]
  rfl

def c_cocone : MFunc := ⟨60, [.tmp 8], .seq (.region [⟨some 4, .box 0 47 (.tmp 0), none⟩, ⟨some 5, .box 1 25 (.tmp 1), none⟩, ⟨some 6, .box 2 27 (.tmp 2), none⟩, ⟨some 7, .box 3 27 (.tmp 3), none⟩, ⟨some 8, .mv (.c (.one (.t (.int .i64 0)))), none⟩]) (.seq (.seq (.region [⟨some 16, .load true 10 (.tmp 4), none⟩, ⟨some 17, .call (.c (.one (.fn 93 []))) 65 [.tmp 16], none⟩, ⟨some 9, .mv (.tmp 17), none⟩]) (.seq (.region [⟨some 18, .mv (.tmp 9), none⟩, ⟨some 19, .bin .neq (.tmp 18) (.c (.one (.t (.int .i64 0)))), none⟩]) (.cond (.tmp 19) (.seq (.region [⟨some 20, .mv (.tmp 9), none⟩, ⟨some 8, .mv (.tmp 20), none⟩]) .ret) .skip))) (.seq (.seq (.region [⟨some 21, .fieldA 2 (.tmp 4), none⟩, ⟨some 22, .load true 2 (.tmp 21), none⟩, ⟨some 23, .load true 2 (.tmp 5), none⟩, ⟨some 24, .load true 2 (.tmp 6), none⟩, ⟨some 25, .call (.c (.one (.fn 48 []))) 260 [.tmp 22, .tmp 23, .tmp 24], none⟩, ⟨some 10, .mv (.tmp 25), none⟩]) (.seq (.region [⟨some 26, .mv (.tmp 10), none⟩, ⟨some 27, .bin .neq (.tmp 26) (.c (.one (.t (.int .i64 0)))), none⟩]) (.cond (.tmp 27) (.seq (.region [⟨some 28, .mv (.tmp 10), none⟩, ⟨some 8, .mv (.tmp 28), none⟩]) .ret) .skip))) (.seq (.seq (.region [⟨some 29, .fieldA 4 (.tmp 4), none⟩, ⟨some 30, .load true 2 (.tmp 29), none⟩, ⟨some 31, .load true 2 (.tmp 5), none⟩, ⟨some 32, .load true 2 (.tmp 7), none⟩, ⟨some 33, .call (.c (.one (.fn 48 []))) 452 [.tmp 30, .tmp 31, .tmp 32], none⟩, ⟨some 11, .mv (.tmp 33), none⟩]) (.seq (.region [⟨some 34, .mv (.tmp 11), none⟩, ⟨some 35, .bin .neq (.tmp 34) (.c (.one (.t (.int .i64 0)))), none⟩]) (.cond (.tmp 35) (.seq (.region [⟨some 36, .mv (.tmp 11), none⟩, ⟨some 8, .mv (.tmp 36), none⟩]) .ret) .skip))) (.seq (.seq (.region [⟨some 38, .fieldA 2 (.tmp 4), none⟩, ⟨some 39, .load true 2 (.tmp 38), none⟩, ⟨some 40, .fieldA 4 (.tmp 4), none⟩, ⟨some 41, .load true 2 (.tmp 40), none⟩, ⟨some 42, .call (.c (.one (.fn 74 []))) 644 [.tmp 39, .tmp 41], none⟩, ⟨some 37, .mv (.tmp 42), none⟩, ⟨some 43, .extract (.tmp 37) 0, none⟩, ⟨some 44, .extract (.tmp 37) 1, none⟩, ⟨some 45, .extract (.tmp 37) 2, none⟩, ⟨some 46, .extract (.tmp 37) 3, none⟩, ⟨some 12, .alloc 650 25 [.nil, .nil], none⟩, ⟨some 13, .alloc 651 27 [.nil, .nil], none⟩, ⟨some 14, .alloc 652 27 [.nil, .nil], none⟩, ⟨none, .store 2 (.tmp 12) (.tmp 43), none⟩, ⟨none, .store 2 (.tmp 13) (.tmp 44), none⟩, ⟨none, .store 2 (.tmp 14) (.tmp 45), none⟩, ⟨some 15, .mv (.tmp 46), none⟩]) (.seq (.region [⟨some 47, .mv (.tmp 15), none⟩, ⟨some 48, .bin .neq (.tmp 47) (.c (.one (.t (.int .i64 0)))), none⟩]) (.cond (.tmp 48) (.seq (.region [⟨some 49, .mv (.tmp 15), none⟩, ⟨some 8, .mv (.tmp 49), none⟩]) .ret) .skip))) (.seq (.seq (.draw [[], [0], [], [1, 2], [], [4], [], [5, 6, 3], [3, 7, 7], [8]] [⟨some 50, .fieldA 6 (.tmp 4), none⟩, ⟨some 51, .load true 2 (.tmp 50), none⟩, ⟨some 52, .load true 2 (.tmp 6), none⟩, ⟨some 53, .call (.c (.one (.fn 39 []))) 835 [.tmp 51, .tmp 52], none⟩, ⟨some 54, .fieldA 8 (.tmp 4), none⟩, ⟨some 55, .load true 2 (.tmp 54), none⟩, ⟨some 56, .load true 2 (.tmp 7), none⟩, ⟨some 57, .call (.c (.one (.fn 39 []))) 839 [.tmp 55, .tmp 56], none⟩, ⟨some 58, .call (.c (.one (.fn 23 []))) 840 [.tmp 53, .tmp 57], none⟩, ⟨some 59, .not (.tmp 58), none⟩]) (.cond (.tmp 59) (.seq (.region [⟨some 8, .mv (.c (.one (.t (.int .i64 11)))), none⟩]) .ret) .skip)) (.seq (.region [⟨some 8, .mv (.c (.one (.t (.int .i64 0)))), none⟩]) .ret))))))⟩
theorem k_cocone : cFn Tryz.prog Tryz.f152 = some c_cocone := by kernel_rfl
set_option maxHeartbeats 1000000 in
theorem cocone_ok (s : Sp) (x : Gr) (h k : Pa) (ts : TinySp s) (tx : tinyG x) (th : tinyP h) (tk : tinyP k) : CallOK Tryz.prog 152 [s.v, x.v, h.v, k.v] (.sv (false, [.int .i64 (pmE s x h k)])) := by
  refine callOK_W (callS_W (by kernel_rfl) Tryz.func152 k_cocone (callable_of Tryz.func152 (by kernel_rfl)) (by simp [c_cocone]) ?_)
  simp [c_cocone, Sp.v, Sp.cs]
  refine callS_tree (span10_ok s ts) ?_ ?_ ?_
  · rfl
  · rfl
  by_cases h1 : spErr s = 0
  case neg => simp [h1, pmE]
  have ok := spErr_ok h1
  simp [h1]
  refine callS_tree (rvalid6_ok s.B x h ts.B tx th) ?_ ?_ ?_
  · rfl
  · rfl
  by_cases h2 : morErr s.B x h = 0
  case neg => simp [h1, h2, pmE]
  simp [h2]
  refine callS_tree (rvalid6_ok s.C x k ts.C tx tk) ?_ ?_ ?_
  · rfl
  · rfl
  by_cases h3 : morErr s.C x k = 0
  case neg => simp [h1, h2, h3, pmE]
  have m1 := mor_ok h2
  have m2 := mor_ok h3
  simp [h3]
  refine callS_tree (union05_ok s.B s.C ts.B ts.C) ?_ ?_ ?_
  · rfl
  · simp [AV.still, V1.still]
  by_cases h4 : unErr s.B s.C = 0
  case neg => simp [unT, h1, h2, h3, h4, pmE]
  simp [dw0, dw1, dw2, dw3, unT, h4]
  refine dCall_ok (then6_ok s.F h ts.F (ok.F.fits m1)) ?_ ?_ ?_
  · rfl
  · rfl
  simp [dw0, dw1, dw2, dw3]
  refine dCall_ok (then6_ok s.G k ts.G (ok.G.fits m2)) ?_ ?_ ?_
  · rfl
  · rfl
  simp [dw0, dw1, dw2, dw3]
  refine dCall_ok (rsame_ok (thenP s.F h) (thenP s.G k) (thenP_tiny ts.F) (thenP_tiny ts.G)) ?_ ?_ ?_
  · rfl
  · rfl
  cases hs : sameP (thenP s.F h) (thenP s.G k)
  all_goals
    simp [dw0, dw1, dw2, dw3, pmE, h1, h2, h3, h4, hs]
    rfl

def c_onto : MFunc := ⟨49, [.tmp 10], .seq (.region [⟨some 10, .mv (.c (.one .nil)), none⟩]) (.seq (.region [⟨some 14, .mv (.tmp 0), none⟩, ⟨some 15, .make 65 3 1 8 [.t (.int .i64 0)] (.tmp 14) (.tmp 14), none⟩, ⟨some 11, .mv (.tmp 15), none⟩]) (.seq (.seq (.region [⟨some 12, .mv (.c (.one (.t (.int .i64 0)))), none⟩]) (.block 0 (.loop (.seq (.seq (.region [⟨some 16, .mv (.tmp 12), none⟩, ⟨some 17, .mv (.tmp 1), none⟩, ⟨some 18, .len (.tmp 17), none⟩, ⟨some 19, .bin .lss (.tmp 16) (.tmp 18), none⟩]) (.cond (.tmp 19) .skip (.exit 0))) (.seq (.block 1 (.draw [[], [], [], [1, 2], [3], [], [], [5, 6], [7], [0, 4, 0, 1, 2, 3, 4, 5, 6, 7, 8], [9, 8, 0, 1, 2, 3, 4, 5, 6, 7, 8]] [⟨some 22, .mv (.tmp 11), none⟩, ⟨some 23, .mv (.tmp 1), none⟩, ⟨some 24, .mv (.tmp 12), none⟩, ⟨some 25, .idxA 1 (.tmp 23) (.tmp 24), none⟩, ⟨some 26, .load false 1 (.tmp 25), none⟩, ⟨some 27, .mv (.tmp 2), none⟩, ⟨some 28, .mv (.tmp 12), none⟩, ⟨some 29, .idxA 1 (.tmp 27) (.tmp 28), none⟩, ⟨some 30, .load false 1 (.tmp 29), none⟩, ⟨some 31, .idxA 1 (.tmp 22) (.tmp 26), none⟩, ⟨none, .store 1 (.tmp 31) (.tmp 30), none⟩])) (.region [⟨some 20, .mv (.tmp 12), none⟩, ⟨some 21, .bin .add (.tmp 20) (.c (.one (.t (.int .i64 1)))), none⟩, ⟨some 12, .mv (.tmp 21), none⟩])))))) (.seq (.seq (.region [⟨some 13, .mv (.c (.one (.t (.int .i64 0)))), none⟩]) (.block 2 (.loop (.seq (.seq (.region [⟨some 32, .mv (.tmp 13), none⟩, ⟨some 33, .mv (.tmp 3), none⟩, ⟨some 34, .len (.tmp 33), none⟩, ⟨some 35, .bin .lss (.tmp 32) (.tmp 34), none⟩]) (.cond (.tmp 35) .skip (.exit 2))) (.seq (.block 3 (.draw [[], [], [], [1, 2], [3], [], [], [5, 6], [7], [0, 4, 0, 1, 2, 3, 4, 5, 6, 7, 8], [9, 8, 0, 1, 2, 3, 4, 5, 6, 7, 8]] [⟨some 38, .mv (.tmp 11), none⟩, ⟨some 39, .mv (.tmp 3), none⟩, ⟨some 40, .mv (.tmp 13), none⟩, ⟨some 41, .idxA 1 (.tmp 39) (.tmp 40), none⟩, ⟨some 42, .load false 1 (.tmp 41), none⟩, ⟨some 43, .mv (.tmp 4), none⟩, ⟨some 44, .mv (.tmp 13), none⟩, ⟨some 45, .idxA 1 (.tmp 43) (.tmp 44), none⟩, ⟨some 46, .load false 1 (.tmp 45), none⟩, ⟨some 47, .idxA 1 (.tmp 38) (.tmp 42), none⟩, ⟨none, .store 1 (.tmp 47) (.tmp 46), none⟩])) (.region [⟨some 36, .mv (.tmp 13), none⟩, ⟨some 37, .bin .add (.tmp 36) (.c (.one (.t (.int .i64 1)))), none⟩, ⟨some 13, .mv (.tmp 37), none⟩])))))) (.seq (.region [⟨some 48, .mv (.tmp 11), none⟩, ⟨some 10, .mv (.tmp 48), none⟩]) .ret))))⟩
theorem k_onto : cFn Tryz.prog Tryz.f153 = some c_onto := by kernel_rfl
set_option maxHeartbeats 1000000 in
theorem onto_ok (n : Nat) (a c b d : List Int) (hn : tiny n) (ha : placesIn a n) (hb : placesIn b n) (hac : a.length ≤ c.length) (hbd : b.length ≤ d.length) (la : tiny a.length) (lb : tiny b.length) :
    CallOK Tryz.prog 153 [(false, [.int .i64 n]), (false, [ints a]), (false, [ints c]), (false, [ints b]), (false, [ints d])] (.sv (false, [ints (wrL n (a.zip c ++ b.zip d))])) := by
  refine callOK_W (callS_W (by kernel_rfl) Tryz.func153 k_onto (callable_of Tryz.func153 (by kernel_rfl)) (by simp [c_onto]) ?_)
  have hn' := hn
  simp only [tiny] at hn'
  have n1 : n * 8 ≤ 140737488355328 := by omega
  have n2 : (n : Int) ≤ 9223372036854775807 := by omega
  simp [c_onto, n1, n2]
  refine loopW_count 12 a.length (fun j S => S.fr 1 = .one (.t (ints a)) ∧ S.fr 2 = .one (.t (ints c)) ∧ S.fr 3 = .one (.t (ints b)) ∧ S.fr 4 = .one (.t (ints d)) ∧ S.fr 11 = .one (.row (65, 0)) ∧ S.ob (65, 0) = some (rowO (wrL n ((a.zip c).take j)))) la.small ?_ ?_ ?_
  · simp [rowO, wrL]
  · rintro j S' hlt' hw' hc' ⟨f1, f2, f3, f4, f11, o65⟩
    have hj2 : j < c.length := by omega
    obtain ⟨x1, x2⟩ := ha _ (nth_mem hlt')
    obtain ⟨x, hx⟩ := Int.eq_ofNat_of_zero_le x1
    have hxn : x < n := by omega
    have hxn1 : x + 1 ≤ n := by omega
    have hxl : x < (wrL n ((a.zip c).take j)).length := by rw [wrL_len]; exact hxn
    have e2 := row_set (v := nth c j) hxl
    have e3 : wrL n ((a.zip c).take (j + 1)) = (wrL n ((a.zip c).take j)).set x (nth c j) := by rw [zip_take_succ hlt' hac, wrL_snoc, hx]; rfl
    have e4 := wrL_len (n := n) (ws := (a.zip c).take j)
    have e5 := wrL_len (n := n) (ws := (a.zip c).take (j + 1))
    simp [dw0, dw1, dw2, dw3, f1, f2, f3, f4, f11, hc', hlt', drop_nth hlt', hx, hj2, drop_nth hj2, o65, rowO, e4, hxn, hxn1, hw', e2, e3]
    rfl
  rintro S hc ⟨f1, f2, f3, f4, f11, o65⟩
  rw [zip_take_all hac] at o65
  simp [f1, f2, f3, f4, f11, hc, o65]
  refine loopW_count 13 b.length (fun j S => S.fr 1 = .one (.t (ints a)) ∧ S.fr 2 = .one (.t (ints c)) ∧ S.fr 3 = .one (.t (ints b)) ∧ S.fr 4 = .one (.t (ints d)) ∧ S.fr 11 = .one (.row (65, 0)) ∧ S.ob (65, 0) = some (rowO (wrL n (a.zip c ++ (b.zip d).take j)))) lb.small ?_ ?_ ?_
  · simp [f1, f2, f3, f4, f11, o65]
  · rintro j S' hlt' hw' hc' ⟨f1, f2, f3, f4, f11, o65⟩
    have hj2 : j < d.length := by omega
    obtain ⟨x1, x2⟩ := hb _ (nth_mem hlt')
    obtain ⟨x, hx⟩ := Int.eq_ofNat_of_zero_le x1
    have hxn : x < n := by omega
    have hxn1 : x + 1 ≤ n := by omega
    have hxl : x < (wrL n (a.zip c ++ (b.zip d).take j)).length := by rw [wrL_len]; exact hxn
    have e2 := row_set (v := nth d j) hxl
    have e3 : wrL n (a.zip c ++ (b.zip d).take (j + 1)) = (wrL n (a.zip c ++ (b.zip d).take j)).set x (nth d j) := by rw [zip_take_succ hlt' hbd, ← List.append_assoc, wrL_snoc, hx]; rfl
    have e4 := wrL_len (n := n) (ws := a.zip c ++ (b.zip d).take j)
    have e5 := wrL_len (n := n) (ws := a.zip c ++ (b.zip d).take (j + 1))
    simp [dw0, dw1, dw2, dw3, f1, f2, f3, f4, f11, hc', hlt', drop_nth hlt', hx, hj2, drop_nth hj2, o65, rowO, e4, hxn, hxn1, hw', e2, e3]
    rfl
  rintro S hc ⟨f1, f2, f3, f4, f11, o65⟩
  rw [zip_take_all hbd] at o65
  have et := fun fr cnt => rowO_tree (fr := fr) (cnt := cnt) o65
  simp [f1, f2, f3, f4, f11, hc, -treeCell, treeCell_t, et]
end Go.Proofs.YthcnpnogfblkcaaGreat

/- Contracts: the reference's mediating morphisms and checks of pushouts; the reference's kind of a square. -/
namespace Go.Proofs.YthcnpnogfblkcaaGreat
open Abs
set_option linter.unusedSimpArgs false
set_option linter.unusedVariables false
attribute [local simp] rn0 rn1 rn2 rn3 rn4 rn5 rn6 rn7 evOp nests Arg.ev St.val St.set St.new sliceOf binInt2 binInt AV.cells rdAt St.live retOf resOf resAll treeOf treeCell treeCells treeTups untree frameOf TV.av TR.av ints edgs prs fillV splice intsOf trees V1.tree bx Gr.v Pa.v opRd opWr opNew opNewR opArgs argsRd argRd Arg.rd AV.refs V1.refs refsL dstL

def c_rMed10 : MFunc := ⟨60, [.cell 8 true 2, .tmp 9], .seq (.region [⟨some 4, .box 0 47 (.tmp 0), none⟩, ⟨some 5, .box 1 25 (.tmp 1), none⟩, ⟨some 6, .box 2 27 (.tmp 2), none⟩, ⟨some 7, .box 3 27 (.tmp 3), none⟩, ⟨some 8, .alloc 4 27 [.nil, .nil], none⟩, ⟨some 9, .mv (.c (.one (.t (.int .i64 0)))), none⟩]) (.seq (.seq (.region [⟨some 15, .load true 10 (.tmp 4), none⟩, ⟨some 16, .load true 2 (.tmp 5), none⟩, ⟨some 17, .load true 2 (.tmp 6), none⟩, ⟨some 18, .load true 2 (.tmp 7), none⟩, ⟨some 19, .call (.c (.one (.fn 152 []))) 68 [.tmp 15, .tmp 16, .tmp 17, .tmp 18], none⟩, ⟨some 10, .mv (.tmp 19), none⟩]) (.seq (.region [⟨some 20, .mv (.tmp 10), none⟩, ⟨some 21, .bin .neq (.tmp 20) (.c (.one (.t (.int .i64 0)))), none⟩]) (.cond (.tmp 21) (.seq (.region [⟨some 22, .build [.nil, .nil] [], none⟩, ⟨some 23, .mv (.tmp 10), none⟩, ⟨none, .store 2 (.tmp 8) (.tmp 22), none⟩, ⟨some 9, .mv (.tmp 23), none⟩]) .ret) .skip))) (.seq (.region [⟨some 25, .load true 10 (.tmp 4), none⟩, ⟨some 26, .call (.c (.one (.fn 53 []))) 257 [.tmp 25], none⟩, ⟨some 24, .mv (.tmp 26), none⟩, ⟨some 27, .extract (.tmp 24) 0, none⟩, ⟨some 28, .extract (.tmp 24) 1, none⟩, ⟨some 29, .extract (.tmp 24) 2, none⟩, ⟨some 30, .extract (.tmp 24) 3, none⟩, ⟨some 11, .alloc 263 25 [.nil, .nil], none⟩, ⟨some 12, .alloc 264 27 [.nil, .nil], none⟩, ⟨some 13, .alloc 265 27 [.nil, .nil], none⟩, ⟨none, .store 2 (.tmp 11) (.tmp 27), none⟩, ⟨none, .store 2 (.tmp 12) (.tmp 28), none⟩, ⟨none, .store 2 (.tmp 13) (.tmp 29), none⟩, ⟨some 14, .mv (.tmp 30), none⟩]) (.seq (.seq (.region [⟨some 31, .mv (.tmp 14), none⟩, ⟨some 32, .bin .neq (.tmp 31) (.c (.one (.t (.int .i64 0)))), none⟩]) (.cond (.tmp 32) (.seq (.region [⟨some 33, .build [.nil, .nil] [], none⟩, ⟨some 34, .mv (.tmp 14), none⟩, ⟨none, .store 2 (.tmp 8) (.tmp 33), none⟩, ⟨some 9, .mv (.tmp 34), none⟩]) .ret) .skip)) (.seq (.draw [[], [0], [1], [], [3], [], [5], [], [7], [], [9], [2, 4, 6, 8, 10], [], [12], [13], [], [15], [], [17], [], [19], [], [21], [14, 16, 18, 20, 22, 11], [11, 23], [24, 23, 0, 1, 2, 3, 4, 5, 6, 7, 8, 9, 10, 11, 12, 13, 14, 15, 16, 17, 18, 19, 20, 21, 22, 23, 24], [25, 0, 1, 2, 3, 4, 5, 6, 7, 8, 9, 10, 11, 12, 13, 14, 15, 16, 17, 18, 19, 20, 21, 22, 23, 24, 25]] [⟨some 35, .fieldA 0 (.tmp 11), none⟩, ⟨some 36, .load false 1 (.tmp 35), none⟩, ⟨some 37, .len (.tmp 36), none⟩, ⟨some 38, .fieldA 0 (.tmp 12), none⟩, ⟨some 39, .load false 1 (.tmp 38), none⟩, ⟨some 40, .fieldA 0 (.tmp 6), none⟩, ⟨some 41, .load false 1 (.tmp 40), none⟩, ⟨some 42, .fieldA 0 (.tmp 13), none⟩, ⟨some 43, .load false 1 (.tmp 42), none⟩, ⟨some 44, .fieldA 0 (.tmp 7), none⟩, ⟨some 45, .load false 1 (.tmp 44), none⟩, ⟨some 46, .call (.c (.one (.fn 153 []))) 459 [.tmp 37, .tmp 39, .tmp 41, .tmp 43, .tmp 45], none⟩, ⟨some 47, .fieldA 1 (.tmp 11), none⟩, ⟨some 48, .load false 1 (.tmp 47), none⟩, ⟨some 49, .len (.tmp 48), none⟩, ⟨some 50, .fieldA 1 (.tmp 12), none⟩, ⟨some 51, .load false 1 (.tmp 50), none⟩, ⟨some 52, .fieldA 1 (.tmp 6), none⟩, ⟨some 53, .load false 1 (.tmp 52), none⟩, ⟨some 54, .fieldA 1 (.tmp 13), none⟩, ⟨some 55, .load false 1 (.tmp 54), none⟩, ⟨some 56, .fieldA 1 (.tmp 7), none⟩, ⟨some 57, .load false 1 (.tmp 56), none⟩, ⟨some 58, .call (.c (.one (.fn 153 []))) 471 [.tmp 49, .tmp 51, .tmp 53, .tmp 55, .tmp 57], none⟩, ⟨some 59, .build [.nil, .nil] [(0, (1, .tmp 46)), (1, (1, .tmp 58))], none⟩, ⟨none, .store 2 (.tmp 8) (.tmp 59), none⟩, ⟨some 9, .mv (.c (.one (.t (.int .i64 0)))), none⟩]) .ret))))⟩
theorem k_rMed10 : cFn Tryz.prog Tryz.f114 = some c_rMed10 := by kernel_rfl
set_option maxHeartbeats 1000000 in
theorem rMed10_ok (s : Sp) (x : Gr) (h k : Pa) (ts : TinySp s) (tx : tinyG x) (th : tinyP h) (tk : tinyP k) : CallOK Tryz.prog 114 [s.v, x.v, h.v, k.v] (pmT (pmR s x h k)) := by
  refine callOK_W (callS_W (by kernel_rfl) Tryz.func114 k_rMed10 (callable_of Tryz.func114 (by kernel_rfl)) (by simp [c_rMed10]) ?_)
  simp [c_rMed10, Sp.v, Sp.cs]
  refine callS_tree (cocone_ok s x h k ts tx th tk) ?_ ?_ ?_
  · rfl
  · rfl
  by_cases h1 : pmE s x h k = 0
  case neg =>
    have e : pmR s x h k = (⟨[], []⟩, pmE s x h k) := by simp [pmR, h1]
    simp [h1, pmT, e]
  have e : pmR s x h k = (pmC s h k, 0) := by simp [pmR, h1]
  obtain ⟨q1, q2, q3, q4, q5⟩ := pmE_ok h1
  have ok := spErr_ok q1
  have m1 := mor_ok q2
  have m2 := mor_ok q3
  have l1 := m1.ln
  have l2 := m2.ln
  have l3 := m1.le
  have l4 := m2.le
  obtain ⟨g1, g2⟩ := poG_few q4
  have i1 := poI_len (s := s)
  have j1 := poJ_len (s := s)
  have tn : tiny (poG s).nodes.length := by simp only [tiny]; omega
  have te : tiny (poG s).edges.length := by simp only [tiny]; omega
  have e2 : poR s = (poG s, poI s, poJ s, 0) := by simp [poR, poErr, q1, q4]
  simp [h1]
  refine callS_tree (of10_ok s ts) ?_ ?_ ?_
  · rfl
  · rfl
  simp [dw0, dw1, dw2, dw3, gluT, e2]
  refine dCall_ok (onto_ok (poG s).nodes.length (poI s).nodes h.nodes (poJ s).nodes k.nodes tn (poI_nin ok) (poJ_nin ok) (by omega) (by omega) (by have := ts.B.1; simp only [tiny] at *; omega) (by have := ts.C.1; simp only [tiny] at *; omega)) ?_ ?_ ?_
  · rfl
  · rfl
  simp [dw0, dw1, dw2, dw3]
  refine dCall_ok (onto_ok (poG s).edges.length (poI s).edges h.edges (poJ s).edges k.edges te (poI_ein ok) (poJ_ein ok) (by omega) (by omega) (by have := ts.B.2; simp only [tiny] at *; omega) (by have := ts.C.2; simp only [tiny] at *; omega)) ?_ ?_ ?_
  · rfl
  · rfl
  simp [dw0, dw1, dw2, dw3, pmT, e, pmC]
  rfl

/-- The last place of a number among the first j of a list (or -1). -/
def bkV (l : List Int) (k : Nat) : Nat → Int
  | 0 => -1
  | j + 1 => if nth l j = k then j else bkV l k j
def bkL (l : List Int) (n : Nat) : List Int := (List.range n).map fun k => bkV l k l.length
theorem bkL_len {l : List Int} {n : Nat} : (bkL l n).length = n := by simp [bkL]
theorem bkL_succ {l : List Int} {n : Nat} : bkL l (n + 1) = bkL l n ++ [bkV l n l.length] := by simp [bkL, List.range_succ]
theorem set_last {a : List Int} {x y : Int} {n : Nat} (h : a.length = n) : (a ++ [x]).set n y = a ++ [y] := by
  rw [List.set_append_right _ _ (by omega), h, Nat.sub_self]
  rfl

def c_back06 : MFunc := ⟨33, [.tmp 4], .seq (.region [⟨some 4, .mv (.c (.one .nil)), none⟩]) (.seq (.region [⟨some 5, .mv (.c (.one .nil)), none⟩]) (.seq (.seq (.region [⟨some 6, .mv (.c (.one (.t (.int .i64 0)))), none⟩]) (.block 0 (.loop (.seq (.seq (.region [⟨some 8, .mv (.tmp 6), none⟩, ⟨some 9, .mv (.tmp 1), none⟩, ⟨some 10, .bin .lss (.tmp 8) (.tmp 9), none⟩]) (.cond (.tmp 10) .skip (.exit 0))) (.seq (.block 1 (.seq (.region [⟨some 13, .mv (.tmp 5), none⟩, ⟨some 14, .mkrow 321 3 1 1 [.t (.int .i64 0)] [(0, (1, .c (.one (.t (.int .i64 (-1))))))], none⟩, ⟨some 15, .append 322 3 1 8 (.tmp 13) (.tmp 14), none⟩, ⟨some 5, .mv (.tmp 15), none⟩]) (.seq (.region [⟨some 7, .mv (.c (.one (.t (.int .i64 0)))), none⟩]) (.block 2 (.loop (.seq (.seq (.region [⟨some 16, .mv (.tmp 7), none⟩, ⟨some 17, .mv (.tmp 0), none⟩, ⟨some 18, .len (.tmp 17), none⟩, ⟨some 19, .bin .lss (.tmp 16) (.tmp 18), none⟩]) (.cond (.tmp 19) .skip (.exit 2))) (.seq (.block 3 (.seq (.region [⟨some 22, .mv (.tmp 0), none⟩, ⟨some 23, .mv (.tmp 7), none⟩, ⟨some 24, .idxA 1 (.tmp 22) (.tmp 23), none⟩, ⟨some 25, .load false 1 (.tmp 24), none⟩, ⟨some 26, .mv (.tmp 6), none⟩, ⟨some 27, .bin .eql (.tmp 25) (.tmp 26), none⟩]) (.cond (.tmp 27) (.region [⟨some 28, .mv (.tmp 5), none⟩, ⟨some 29, .mv (.tmp 6), none⟩, ⟨some 30, .mv (.tmp 7), none⟩, ⟨some 31, .idxA 1 (.tmp 28) (.tmp 29), none⟩, ⟨none, .store 1 (.tmp 31) (.tmp 30), none⟩]) .skip))) (.region [⟨some 20, .mv (.tmp 7), none⟩, ⟨some 21, .bin .add (.tmp 20) (.c (.one (.t (.int .i64 1)))), none⟩, ⟨some 7, .mv (.tmp 21), none⟩])))))))) (.region [⟨some 11, .mv (.tmp 6), none⟩, ⟨some 12, .bin .add (.tmp 11) (.c (.one (.t (.int .i64 1)))), none⟩, ⟨some 6, .mv (.tmp 12), none⟩])))))) (.seq (.region [⟨some 32, .mv (.tmp 5), none⟩, ⟨some 4, .mv (.tmp 32), none⟩]) .ret)))⟩
theorem k_back06 : cFn Tryz.prog Tryz.f154 = some c_back06 := by kernel_rfl
theorem back06_row (l : List Int) (n : Nat) (hl : tiny l.length) (hn : tiny n) : RowI Tryz.prog 154 [(false, [ints l]), (false, [.int .i64 n])] 3 (bkL l n) := by
  refine callRow_W (plain_ints _) (by simp) (by omega) (callS_W (by kernel_rfl) Tryz.func154 k_back06 (callable_of Tryz.func154 (by kernel_rfl)) (by simp [c_back06]) ?_)
  simp [c_back06]
  refine loopW_count 6 n (fun k S => S.fr 0 = .one (.t (ints l)) ∧ S.fr 1 = .one (.t (.int .i64 n)) ∧ outR 322 3 1 (bkL l k).length ((bkL l k).map (.int .i64)) S.ob (S.fr 5)) hn.small ?_ ?_ ?_
  · simp [bkL, outR_nil]
  · rintro k S hlt hw hc ⟨f0, f1, ho⟩
    have z := bkL_len (l := l) (n := k)
    simp only [tiny] at hn hl
    simp [f0, f1, hc, hlt]
    refine kApp_grow (ts := [.int .i64 (-1)]) (by simp) (ho.keep fun g => by simp) (by omega) rfl (by omega) (by omega) fun E hE hob hcnt => ?_
    obtain ⟨u, hu⟩ := hE.one
    rw [hu] at hE
    have hz : (bkL l k).length + 1 ≠ 0 := by omega
    rcases hE with ⟨a1, _, _⟩ | ⟨a1, g, a3, a4⟩
    · exact absurd a1 hz
    cases a3
    simp [f0, f1, hc, hu]
    refine loopW_count 7 l.length (fun j S => S.fr 0 = .one (.t (ints l)) ∧ S.fr 1 = .one (.t (.int .i64 n)) ∧ S.fr 6 = .one (.t (.int .i64 k)) ∧ S.fr 5 = .one (.row (322, g)) ∧ S.ob (322, g) = some (rowO (bkL l k ++ [bkV l k j]))) (by omega) ?_ ?_ ?_
    · simp [f0, f1, hc, a4, rowO, bkV]
    · rintro j S' hlt' hw' hc' ⟨f0, f1, f6, f5, o⟩
      by_cases e : nth l j = k
      · have h1 : k < (bkL l k ++ [bkV l k j]).length := by simp; omega
        have e2 := row_set (v := (j : Int)) h1
        rw [set_last z] at e2
        have e4 : (bkL l k ++ [bkV l k j]).length = k + 1 := by simp [z]
        have e6 : (k : Int) < (k : Int) + 1 := by omega
        have e5 : bkV l k (j + 1) = j := by simp [bkV, e]
        generalize bkL l k ++ [bkV l k j] = L at *
        simp [f0, f1, f5, f6, hc', hlt', drop_nth hlt', e, o, rowO, e2, e4, hw', e5, z, e6]
      · simp [f0, f1, f5, f6, hc', hlt', drop_nth hlt', e, o, rowO, hw', bkV]
    · rintro S' hc' ⟨f0, f1, f6, f5, o⟩
      simp [f0, f1, f5, f6, hc', hw]
      refine .inr ⟨by simp [bkL_succ], g, rfl, ?_⟩
      rw [o, rowO, bkL_succ]
  · rintro S hc ⟨f0, f1, ho⟩
    obtain ⟨u, hu⟩ := ho.one
    rw [hu] at ho
    simp [f0, f1, hc, hu]
    exact ho.rowIs

/-- The error of an inverse. -/
def invE (a b : Gr) (m : Pa) : Int := if morErr a b m = 0 then if injB a b m = true then if surjB a b m = true then 0 else 10 else 10 else morErr a b m
def invR (a b : Gr) (m : Pa) : Pa := if invE a b m = 0 then ⟨bkL m.nodes b.nodes.length, bkL m.edges b.edges.length⟩ else ⟨[], []⟩
def c_inv06 : MFunc := ⟨43, [.cell 6 true 2, .tmp 7], .seq (.region [⟨some 3, .box 0 25 (.tmp 0), none⟩, ⟨some 4, .box 1 25 (.tmp 1), none⟩, ⟨some 5, .box 2 27 (.tmp 2), none⟩, ⟨some 6, .alloc 3 27 [.nil, .nil], none⟩, ⟨some 7, .mv (.c (.one (.t (.int .i64 0)))), none⟩]) (.seq (.seq (.region [⟨some 9, .load true 2 (.tmp 3), none⟩, ⟨some 10, .load true 2 (.tmp 4), none⟩, ⟨some 11, .load true 2 (.tmp 5), none⟩, ⟨some 12, .call (.c (.one (.fn 48 []))) 67 [.tmp 9, .tmp 10, .tmp 11], none⟩, ⟨some 8, .mv (.tmp 12), none⟩]) (.seq (.region [⟨some 13, .mv (.tmp 8), none⟩, ⟨some 14, .bin .neq (.tmp 13) (.c (.one (.t (.int .i64 0)))), none⟩]) (.cond (.tmp 14) (.seq (.region [⟨some 15, .build [.nil, .nil] [], none⟩, ⟨some 16, .mv (.tmp 8), none⟩, ⟨none, .store 2 (.tmp 6) (.tmp 15), none⟩, ⟨some 7, .mv (.tmp 16), none⟩]) .ret) .skip))) (.seq (.seq (.region [⟨some 17, .load true 2 (.tmp 3), none⟩, ⟨some 18, .load true 2 (.tmp 4), none⟩, ⟨some 19, .load true 2 (.tmp 5), none⟩, ⟨some 20, .call (.c (.one (.fn 64 []))) 259 [.tmp 17, .tmp 18, .tmp 19], none⟩, ⟨some 21, .not (.tmp 20), none⟩, ⟨some 22, .mv (.tmp 21), none⟩, ⟨some 23, .load true 2 (.tmp 3), some (22, false)⟩, ⟨some 24, .load true 2 (.tmp 4), some (22, false)⟩, ⟨some 25, .load true 2 (.tmp 5), some (22, false)⟩, ⟨some 26, .call (.c (.one (.fn 116 []))) 265 [.tmp 23, .tmp 24, .tmp 25], some (22, false)⟩, ⟨some 27, .not (.tmp 26), some (22, false)⟩, ⟨some 28, .pick (.tmp 22) (.c (.one (.t (.bool true)))) (.tmp 27), none⟩]) (.cond (.tmp 28) (.seq (.region [⟨some 29, .build [.nil, .nil] [], none⟩, ⟨none, .store 2 (.tmp 6) (.tmp 29), none⟩, ⟨some 7, .mv (.c (.one (.t (.int .i64 10)))), none⟩]) .ret) .skip)) (.seq (.draw [[], [0], [], [2], [3], [1, 4], [], [6], [], [8], [9], [7, 10, 5], [5, 11], [12, 11, 0, 1, 2, 3, 4, 5, 6, 7, 8, 9, 10, 11, 12], [13, 0, 1, 2, 3, 4, 5, 6, 7, 8, 9, 10, 11, 12, 13]] [⟨some 30, .fieldA 0 (.tmp 5), none⟩, ⟨some 31, .load false 1 (.tmp 30), none⟩, ⟨some 32, .fieldA 0 (.tmp 4), none⟩, ⟨some 33, .load false 1 (.tmp 32), none⟩, ⟨some 34, .len (.tmp 33), none⟩, ⟨some 35, .call (.c (.one (.fn 154 []))) 389 [.tmp 31, .tmp 34], none⟩, ⟨some 36, .fieldA 1 (.tmp 5), none⟩, ⟨some 37, .load false 1 (.tmp 36), none⟩, ⟨some 38, .fieldA 1 (.tmp 4), none⟩, ⟨some 39, .load false 1 (.tmp 38), none⟩, ⟨some 40, .len (.tmp 39), none⟩, ⟨some 41, .call (.c (.one (.fn 154 []))) 395 [.tmp 37, .tmp 40], none⟩, ⟨some 42, .build [.nil, .nil] [(0, (1, .tmp 35)), (1, (1, .tmp 41))], none⟩, ⟨none, .store 2 (.tmp 6) (.tmp 42), none⟩, ⟨some 7, .mv (.c (.one (.t (.int .i64 0)))), none⟩]) .ret)))⟩
theorem k_inv06 : cFn Tryz.prog Tryz.f115 = some c_inv06 := by kernel_rfl
set_option maxHeartbeats 1000000 in
theorem inv06_ok (a b : Gr) (m : Pa) (ta : tinyG a) (tb : tinyG b) (tm : tinyP m) : CallOK Tryz.prog 115 [a.v, b.v, m.v] (.tup [(invR a b m).v, (false, [.int .i64 (invE a b m)])]) := by
  refine callOK_W (callS_W (by kernel_rfl) Tryz.func115 k_inv06 (callable_of Tryz.func115 (by kernel_rfl)) (by simp [c_inv06]) ?_)
  simp [c_inv06]
  refine callS_tree (rvalid6_ok a b m ta tb tm) ?_ ?_ ?_
  · rfl
  · rfl
  by_cases h1 : morErr a b m = 0
  case neg => simp [h1, invE, invR]
  simp [h1]
  refine callS_tree (rinj_ok a b m ta tb tm) ?_ ?_ ?_
  · rfl
  · rfl
  cases h2 : injB a b m
  · simp [h1, h2, invE, invR]
  simp
  refine callS_tree (rsurj_ok a b m ta tb tm) ?_ ?_ ?_
  · rfl
  · rfl
  cases h3 : surjB a b m
  · simp [h1, h2, h3, invE, invR]
  simp [dw0, dw1, dw2, dw3]
  refine dCall_ok (back06_row m.nodes b.nodes.length tm.1 tb.1).ok ?_ ?_ ?_
  · rfl
  · rfl
  simp [dw0, dw1, dw2, dw3]
  refine dCall_ok (back06_row m.edges b.edges.length tm.2 tb.2).ok ?_ ?_ ?_
  · rfl
  · rfl
  simp [dw0, dw1, dw2, dw3, h1, h2, h3, invE, invR]
  rfl

theorem poR_tiny {s : Sp} (h : unErr s.B s.C = 0) : tinyG (poG s) := poG_tiny h
theorem invE_zero {a b : Gr} {m : Pa} (h : morErr a b m = 0 ∨ injB a b m = true) : decide (invE a b m = 0) = (injB a b m && surjB a b m) := by
  by_cases h1 : morErr a b m = 0
  · cases h2 : injB a b m <;> cases h3 : surjB a b m <;> simp [invE, h1, h2, h3]
  · have : injB a b m = false := by simp [injB, h1]
    simp [invE, h1, this]
theorem invE_iff {a b : Gr} {m : Pa} : decide (invE a b m = 0) = (injB a b m && surjB a b m) := by
  by_cases h1 : morErr a b m = 0
  · exact invE_zero (.inl h1)
  · have : injB a b m = false := by simp [injB, h1]
    simp [invE, h1, this]

def c_check10 : MFunc := ⟨42, [.tmp 8], .seq (.region [⟨some 4, .box 0 47 (.tmp 0), none⟩, ⟨some 5, .box 1 25 (.tmp 1), none⟩, ⟨some 6, .box 2 27 (.tmp 2), none⟩, ⟨some 7, .box 3 27 (.tmp 3), none⟩, ⟨some 8, .mv (.c (.one (.t (.bool false)))), none⟩]) (.seq (.region [⟨some 15, .load true 10 (.tmp 4), none⟩, ⟨some 16, .load true 2 (.tmp 5), none⟩, ⟨some 17, .load true 2 (.tmp 6), none⟩, ⟨some 18, .load true 2 (.tmp 7), none⟩, ⟨some 19, .call (.c (.one (.fn 114 []))) 68 [.tmp 15, .tmp 16, .tmp 17, .tmp 18], none⟩, ⟨some 14, .mv (.tmp 19), none⟩, ⟨some 20, .extract (.tmp 14) 0, none⟩, ⟨some 21, .extract (.tmp 14) 1, none⟩, ⟨some 9, .alloc 72 27 [.nil, .nil], none⟩, ⟨none, .store 2 (.tmp 9) (.tmp 20), none⟩, ⟨some 10, .mv (.tmp 21), none⟩]) (.seq (.seq (.region [⟨some 22, .mv (.tmp 10), none⟩, ⟨some 23, .bin .neq (.tmp 22) (.c (.one (.t (.int .i64 0)))), none⟩]) (.cond (.tmp 23) (.seq (.region [⟨some 8, .mv (.c (.one (.t (.bool false)))), none⟩]) .ret) .skip)) (.seq (.region [⟨some 25, .load true 10 (.tmp 4), none⟩, ⟨some 26, .call (.c (.one (.fn 53 []))) 257 [.tmp 25], none⟩, ⟨some 24, .mv (.tmp 26), none⟩, ⟨some 27, .extract (.tmp 24) 0, none⟩, ⟨some 28, .extract (.tmp 24) 1, none⟩, ⟨some 29, .extract (.tmp 24) 2, none⟩, ⟨some 30, .extract (.tmp 24) 3, none⟩, ⟨some 11, .alloc 263 25 [.nil, .nil], none⟩, ⟨some 12, .alloc 264 27 [.nil, .nil], none⟩, ⟨some 13, .alloc 265 27 [.nil, .nil], none⟩, ⟨none, .store 2 (.tmp 11) (.tmp 27), none⟩, ⟨none, .store 2 (.tmp 12) (.tmp 28), none⟩, ⟨none, .store 2 (.tmp 13) (.tmp 29), none⟩, ⟨some 10, .mv (.tmp 30), none⟩]) (.seq (.seq (.region [⟨some 31, .mv (.tmp 10), none⟩, ⟨some 32, .bin .neq (.tmp 31) (.c (.one (.t (.int .i64 0)))), none⟩]) (.cond (.tmp 32) (.seq (.region [⟨some 8, .mv (.c (.one (.t (.bool false)))), none⟩]) .ret) .skip)) (.seq (.region [⟨some 34, .load true 2 (.tmp 11), none⟩, ⟨some 35, .load true 2 (.tmp 5), none⟩, ⟨some 36, .load true 2 (.tmp 9), none⟩, ⟨some 37, .call (.c (.one (.fn 115 []))) 451 [.tmp 34, .tmp 35, .tmp 36], none⟩, ⟨some 33, .mv (.tmp 37), none⟩, ⟨some 38, .extract (.tmp 33) 0, none⟩, ⟨some 39, .extract (.tmp 33) 1, none⟩, ⟨some 10, .mv (.tmp 39), none⟩]) (.seq (.region [⟨some 40, .mv (.tmp 10), none⟩, ⟨some 41, .bin .eql (.tmp 40) (.c (.one (.t (.int .i64 0)))), none⟩, ⟨some 8, .mv (.tmp 41), none⟩]) .ret))))))⟩
theorem k_check10 : cFn Tryz.prog Tryz.f76 = some c_check10 := by kernel_rfl
set_option maxHeartbeats 1000000 in
theorem check10_ok (s : Sp) (x : Gr) (h k : Pa) (ts : TinySp s) (tx : tinyG x) (th : tinyP h) (tk : tinyP k) : CallOK Tryz.prog 76 [s.v, x.v, h.v, k.v] (.sv (false, [.bool (poChk s x h k)])) := by
  refine callOK_W (callS_W (by kernel_rfl) Tryz.func76 k_check10 (callable_of Tryz.func76 (by kernel_rfl)) (by simp [c_check10]) ?_)
  simp [c_check10, Sp.v, Sp.cs]
  refine callS_tree (rMed10_ok s x h k ts tx th tk) ?_ ?_ ?_
  · rfl
  · rfl
  by_cases h1 : pmE s x h k = 0
  case neg =>
    have e : pmR s x h k = (⟨[], []⟩, pmE s x h k) := by simp [pmR, h1]
    simp [pmT, e, h1, poChk]
  have e : pmR s x h k = (pmC s h k, 0) := by simp [pmR, h1]
  obtain ⟨q1, q2, q3, q4, q5⟩ := pmE_ok h1
  have e2 : poR s = (poG s, poI s, poJ s, 0) := by simp [poR, poErr, q1, q4]
  simp [pmT, e, h1]
  refine callS_tree (of10_ok s ts) ?_ ?_ ?_
  · rfl
  · rfl
  simp [gluT, e2]
  refine callS_tree (inv06_ok (poG s) x (pmC s h k) (poG_tiny q4) tx (pmC_tiny q4)) ?_ ?_ ?_
  · rfl
  · rfl
  have e3 := invE_iff (a := poG s) (b := x) (m := pmC s h k)
  have e4 : poChk s x h k = decide (invE (poG s) x (pmC s h k) = 0) := by rw [e3, poChk]; simp [h1]
  rw [e4]
  by_cases h5 : invE (poG s) x (pmC s h k) = 0
  all_goals simp [h5]

def c_span14 : MFunc := ⟨14, [.cell 2 true 10], .seq (.region [⟨some 1, .box 0 29 (.tmp 0), none⟩, ⟨some 2, .alloc 1 47 [.nil, .nil, .nil, .nil, .nil, .nil, .nil, .nil, .nil, .nil], none⟩]) (.seq (.region [⟨some 3, .fieldA 0 (.tmp 1), none⟩, ⟨some 4, .load true 2 (.tmp 3), none⟩, ⟨some 5, .fieldA 2 (.tmp 1), none⟩, ⟨some 6, .load true 2 (.tmp 5), none⟩, ⟨some 7, .fieldA 4 (.tmp 1), none⟩, ⟨some 8, .load true 2 (.tmp 7), none⟩, ⟨some 9, .fieldA 8 (.tmp 1), none⟩, ⟨some 10, .load true 2 (.tmp 9), none⟩, ⟨some 11, .fieldA 10 (.tmp 1), none⟩, ⟨some 12, .load true 2 (.tmp 11), none⟩, ⟨some 13, .build [.nil, .nil, .nil, .nil, .nil, .nil, .nil, .nil, .nil, .nil] [(0, (2, .tmp 4)), (2, (2, .tmp 6)), (4, (2, .tmp 8)), (6, (2, .tmp 10)), (8, (2, .tmp 12))], none⟩, ⟨none, .store 10 (.tmp 2) (.tmp 13), none⟩]) .ret)⟩
theorem k_span14 : cFn Tryz.prog Tryz.f77 = some c_span14 := by kernel_rfl
theorem span14_ok (s : Sq) : CallOK Tryz.prog 77 [s.v] (.sv (downS s).v) := by
  refine callOK_W (callS_W (by kernel_rfl) Tryz.func77 k_span14 (callable_of Tryz.func77 (by kernel_rfl)) (by simp [c_span14]) ?_)
  simp [c_span14, dw0, dw1, dw2, dw3, Sq.v, Sq.cs, Sp.v, Sp.cs, downS]
  try rfl

def c_cospan14 : MFunc := ⟨14, [.cell 2 true 10], .seq (.region [⟨some 1, .box 0 29 (.tmp 0), none⟩, ⟨some 2, .alloc 1 80 [.nil, .nil, .nil, .nil, .nil, .nil, .nil, .nil, .nil, .nil], none⟩]) (.seq (.region [⟨some 3, .fieldA 2 (.tmp 1), none⟩, ⟨some 4, .load true 2 (.tmp 3), none⟩, ⟨some 5, .fieldA 4 (.tmp 1), none⟩, ⟨some 6, .load true 2 (.tmp 5), none⟩, ⟨some 7, .fieldA 6 (.tmp 1), none⟩, ⟨some 8, .load true 2 (.tmp 7), none⟩, ⟨some 9, .fieldA 12 (.tmp 1), none⟩, ⟨some 10, .load true 2 (.tmp 9), none⟩, ⟨some 11, .fieldA 14 (.tmp 1), none⟩, ⟨some 12, .load true 2 (.tmp 11), none⟩, ⟨some 13, .build [.nil, .nil, .nil, .nil, .nil, .nil, .nil, .nil, .nil, .nil] [(0, (2, .tmp 4)), (2, (2, .tmp 6)), (4, (2, .tmp 8)), (6, (2, .tmp 10)), (8, (2, .tmp 12))], none⟩, ⟨none, .store 10 (.tmp 2) (.tmp 13), none⟩]) .ret)⟩
theorem k_cospan14 : cFn Tryz.prog Tryz.f75 = some c_cospan14 := by kernel_rfl
theorem cospan14_ok (s : Sq) : CallOK Tryz.prog 75 [s.v] (.sv (upS s).v) := by
  refine callOK_W (callS_W (by kernel_rfl) Tryz.func75 k_cospan14 (callable_of Tryz.func75 (by kernel_rfl)) (by simp [c_cospan14]) ?_)
  simp [c_cospan14, dw0, dw1, dw2, dw3, Sq.v, Sq.cs, Co.v, Co.cs, upS]
  try rfl

def c_kind14 : MFunc := ⟨69, [.tmp 2, .tmp 3], .seq (.region [⟨some 1, .box 0 29 (.tmp 0), none⟩, ⟨some 2, .mv (.c (.one (.t (.int .i64 0)))), none⟩, ⟨some 3, .mv (.c (.one (.t (.int .i64 0)))), none⟩]) (.seq (.seq (.region [⟨some 14, .load true 16 (.tmp 1), none⟩, ⟨some 15, .call (.c (.one (.fn 47 []))) 65 [.tmp 14], none⟩, ⟨some 4, .mv (.tmp 15), none⟩]) (.seq (.region [⟨some 16, .mv (.tmp 4), none⟩, ⟨some 17, .bin .neq (.tmp 16) (.c (.one (.t (.int .i64 0)))), none⟩]) (.cond (.tmp 17) (.seq (.region [⟨some 18, .mv (.tmp 4), none⟩, ⟨some 2, .mv (.c (.one (.t (.int .i64 0)))), none⟩, ⟨some 3, .mv (.tmp 18), none⟩]) .ret) .skip))) (.seq (.seq (.region [⟨some 19, .load true 16 (.tmp 1), none⟩, ⟨some 20, .call (.c (.one (.fn 49 []))) 257 [.tmp 19], none⟩, ⟨some 21, .not (.tmp 20), none⟩]) (.cond (.tmp 21) (.seq (.region [⟨some 2, .mv (.c (.one (.t (.int .i64 0)))), none⟩, ⟨some 3, .mv (.c (.one (.t (.int .i64 0)))), none⟩]) .ret) .skip)) (.seq (.seq (.region [⟨some 23, .fieldA 2 (.tmp 1), none⟩, ⟨some 24, .load true 2 (.tmp 23), none⟩, ⟨some 25, .fieldA 4 (.tmp 1), none⟩, ⟨some 26, .load true 2 (.tmp 25), none⟩, ⟨some 27, .call (.c (.one (.fn 74 []))) 388 [.tmp 24, .tmp 26], none⟩, ⟨some 22, .mv (.tmp 27), none⟩, ⟨some 28, .extract (.tmp 22) 0, none⟩, ⟨some 29, .extract (.tmp 22) 1, none⟩, ⟨some 30, .extract (.tmp 22) 2, none⟩, ⟨some 31, .extract (.tmp 22) 3, none⟩, ⟨some 5, .alloc 394 25 [.nil, .nil], none⟩, ⟨some 6, .alloc 395 27 [.nil, .nil], none⟩, ⟨some 7, .alloc 396 27 [.nil, .nil], none⟩, ⟨none, .store 2 (.tmp 5) (.tmp 28), none⟩, ⟨none, .store 2 (.tmp 6) (.tmp 29), none⟩, ⟨none, .store 2 (.tmp 7) (.tmp 30), none⟩, ⟨some 8, .mv (.tmp 31), none⟩]) (.seq (.region [⟨some 32, .mv (.tmp 8), none⟩, ⟨some 33, .bin .neq (.tmp 32) (.c (.one (.t (.int .i64 0)))), none⟩]) (.cond (.tmp 33) (.seq (.region [⟨some 34, .mv (.tmp 8), none⟩, ⟨some 2, .mv (.c (.one (.t (.int .i64 0)))), none⟩, ⟨some 3, .mv (.tmp 34), none⟩]) .ret) .skip))) (.seq (.seq (.region [⟨some 36, .load true 16 (.tmp 1), none⟩, ⟨some 37, .call (.c (.one (.fn 75 []))) 577 [.tmp 36], none⟩, ⟨some 38, .call (.c (.one (.fn 50 []))) 578 [.tmp 37], none⟩, ⟨some 35, .mv (.tmp 38), none⟩, ⟨some 39, .extract (.tmp 35) 0, none⟩, ⟨some 40, .extract (.tmp 35) 1, none⟩, ⟨some 41, .extract (.tmp 35) 2, none⟩, ⟨some 42, .extract (.tmp 35) 3, none⟩, ⟨some 9, .alloc 584 25 [.nil, .nil], none⟩, ⟨some 10, .alloc 585 27 [.nil, .nil], none⟩, ⟨some 11, .alloc 586 27 [.nil, .nil], none⟩, ⟨none, .store 2 (.tmp 9) (.tmp 39), none⟩, ⟨none, .store 2 (.tmp 10) (.tmp 40), none⟩, ⟨none, .store 2 (.tmp 11) (.tmp 41), none⟩, ⟨some 12, .mv (.tmp 42), none⟩]) (.seq (.region [⟨some 43, .mv (.tmp 12), none⟩, ⟨some 44, .bin .neq (.tmp 43) (.c (.one (.t (.int .i64 0)))), none⟩]) (.cond (.tmp 44) (.seq (.region [⟨some 45, .mv (.tmp 12), none⟩, ⟨some 2, .mv (.c (.one (.t (.int .i64 0)))), none⟩, ⟨some 3, .mv (.tmp 45), none⟩]) .ret) .skip))) (.seq (.region [⟨some 13, .mv (.c (.one (.t (.int .i64 0)))), none⟩]) (.seq (.seq (.draw [[], [0], [], [2], [], [4], [], [6], [1, 3, 5, 7, 1]] [⟨some 46, .load true 16 (.tmp 1), none⟩, ⟨some 47, .call (.c (.one (.fn 77 []))) 833 [.tmp 46], none⟩, ⟨some 48, .fieldA 6 (.tmp 1), none⟩, ⟨some 49, .load true 2 (.tmp 48), none⟩, ⟨some 50, .fieldA 12 (.tmp 1), none⟩, ⟨some 51, .load true 2 (.tmp 50), none⟩, ⟨some 52, .fieldA 14 (.tmp 1), none⟩, ⟨some 53, .load true 2 (.tmp 52), none⟩, ⟨some 54, .call (.c (.one (.fn 76 []))) 840 [.tmp 47, .tmp 49, .tmp 51, .tmp 53], none⟩]) (.cond (.tmp 54) (.region [⟨some 55, .mv (.tmp 13), none⟩, ⟨some 56, .bin .add (.tmp 55) (.c (.one (.t (.int .i64 1)))), none⟩, ⟨some 13, .mv (.tmp 56), none⟩]) .skip)) (.seq (.seq (.draw [[], [0], [], [2], [], [4], [], [6], [1, 3, 5, 7, 1]] [⟨some 57, .load true 16 (.tmp 1), none⟩, ⟨some 58, .call (.c (.one (.fn 75 []))) 961 [.tmp 57], none⟩, ⟨some 59, .fieldA 0 (.tmp 1), none⟩, ⟨some 60, .load true 2 (.tmp 59), none⟩, ⟨some 61, .fieldA 8 (.tmp 1), none⟩, ⟨some 62, .load true 2 (.tmp 61), none⟩, ⟨some 63, .fieldA 10 (.tmp 1), none⟩, ⟨some 64, .load true 2 (.tmp 63), none⟩, ⟨some 65, .call (.c (.one (.fn 78 []))) 968 [.tmp 58, .tmp 60, .tmp 62, .tmp 64], none⟩]) (.cond (.tmp 65) (.region [⟨some 66, .mv (.tmp 13), none⟩, ⟨some 67, .bin .add (.tmp 66) (.c (.one (.t (.int .i64 2)))), none⟩, ⟨some 13, .mv (.tmp 67), none⟩]) .skip)) (.seq (.region [⟨some 68, .mv (.tmp 13), none⟩, ⟨some 2, .mv (.tmp 68), none⟩, ⟨some 3, .mv (.c (.one (.t (.int .i64 0)))), none⟩]) .ret))))))))⟩
theorem k_kind14 : cFn Tryz.prog Tryz.f36 = some c_kind14 := by kernel_rfl
set_option maxHeartbeats 4000000 in
theorem kind14_ok (s : Sq) (h : TinySq s) : CallOK Tryz.prog 36 [s.v] (kindT (kindR s)) := by
  refine callOK_W (callS_W (by kernel_rfl) Tryz.func36 k_kind14 (callable_of Tryz.func36 (by kernel_rfl)) (by simp [c_kind14]) ?_)
  simp [c_kind14, Sq.v, Sq.cs]
  refine callS_tree (rvalidS_ok s h) ?_ ?_ ?_
  · rfl
  · rfl
  by_cases h1 : sqErr s = 0
  case neg =>
    have e : kindR s = (0, sqErr s) := by simp [kindR, h1]
    simp [h1, kindT, e]
  have ok := sqErr_ok h1
  simp [h1]
  refine callS_tree (rcomm_ok s h ok) ?_ ?_ ?_
  · rfl
  · rfl
  cases h2 : commB s
  · have e : kindR s = (0, 0) := by simp [kindR, h1, h2]
    simp [kindT, e]
  simp
  refine callS_tree (union05_ok s.B s.C h.B h.C) ?_ ?_ ?_
  · rfl
  · simp [AV.still, V1.still]
  have q0 : spErr (downS s) = 0 := by
    unfold sqErr at h1
    split at h1
    · split at h1
      · have a1 : morErr s.A s.B s.F = 0 := by assumption
        have a2 : morErr s.A s.C s.G = 0 := by assumption
        exact (if_pos a1).trans a2
      · exact absurd h1 (by assumption)
    · exact absurd h1 (by assumption)
  have hpo : poErr (downS s) = unErr s.B s.C := if_pos q0
  by_cases h3 : unErr s.B s.C = 0
  case neg =>
    have e : kindR s = (0, unErr s.B s.C) := by simp [kindR, h1, h2, hpo, h3]
    simp [unT, h3, kindT, e]
  simp [unT, h3]
  refine callS_tree (cospan14_ok s) ?_ ?_ ?_
  · rfl
  · rfl
  simp [Co.v, Co.cs]
  refine callS_tree (rOf_ok (upS s) h.up) ?_ ?_ ?_
  · rfl
  · rfl
  have h3' : poErr (downS s) = 0 := by rw [hpo, h3]
  by_cases h4 : pbErr (upS s) = 0
  case neg =>
    have e : kindR s = (0, pbErr (upS s)) := by simp [kindR, h1, h2, h3', h4]
    have e3 : pbR (upS s) = (⟨[], []⟩, ⟨[], []⟩, ⟨[], []⟩, pbErr (upS s)) := by simp [pbR, h4]
    simp [pbRt, e3, h4, kindT, e]
  have e3 : pbR (upS s) = (pbG (upS s), ⟨fstL (pbNs (upS s)), fstL (pbEs (upS s))⟩, ⟨sndL (pbNs (upS s)), sndL (pbEs (upS s))⟩, 0) := by simp [pbR, h4]
  have e : kindR s = (kindN s, 0) := by simp [kindR, h1, h2, h3', h4]
  simp [dw0, dw1, dw2, dw3, pbRt, e3]
  refine dCall_ok (span14_ok s) ?_ ?_ ?_
  · rfl
  · rfl
  simp [dw0, dw1, dw2, dw3, Sp.v, Sp.cs]
  refine dCall_ok (check10_ok (downS s) s.D s.H s.K h.down h.D h.H h.K) ?_ ?_ ?_
  · rfl
  · rfl
  cases h5 : poChk (downS s) s.D s.H s.K
  all_goals
    simp [dw0, dw1, dw2, dw3]
    first | refine ⟨rfl, ?_⟩ | skip
    refine dCall_ok (cospan14_ok s) ?_ ?_ ?_
    · rfl
    · rfl
    simp [dw0, dw1, dw2, dw3, Co.v, Co.cs]
    refine dCall_ok (rCheck11_ok (upS s) s.A s.F s.G h.up h.A h.F h.G) ?_ ?_ ?_
    · rfl
    · rfl
    cases h6 : pbChk (upS s) s.A s.F s.G
    all_goals
      have w1 : IntKind.i64.wrap (0 + 1) = 1 := by decide
      have w2 : IntKind.i64.wrap (0 + 2) = 2 := by decide
      have w3 : IntKind.i64.wrap (1 + 2) = 3 := by decide
      have w4 : IntKind.i64.wrap 1 = 1 := by decide
      have w5 : IntKind.i64.wrap 2 = 2 := by decide
      have w6 : IntKind.i64.wrap 3 = 3 := by decide
      simp [dw0, dw1, dw2, dw3, kindT, e, kindN, h5, h6, w1, w2, w3, w4, w5, w6]
      first | rfl | skip
end Go.Proofs.YthcnpnogfblkcaaGreat

/- Contracts: graphs of parts. -/
namespace Go.Proofs.YthcnpnogfblkcaaGreat
open Abs
set_option linter.unusedSimpArgs false
set_option linter.unusedVariables false
attribute [local simp] rn0 rn1 rn2 rn3 rn4 rn5 rn6 rn7 evOp nests Arg.ev St.val St.set St.new sliceOf binInt2 binInt AV.cells rdAt St.live retOf resOf resAll treeOf treeCell treeCells treeTups untree frameOf TV.av TR.av ints edgs prs fillV splice intsOf trees V1.tree bx Gr.v Pa.v opRd opWr opNew opNewR opArgs argsRd argRd Arg.rd AV.refs V1.refs refsL dstL

def c_has14 : MFunc := ⟨18, [.tmp 4], .seq (.region [⟨some 4, .mv (.c (.one (.t (.bool false)))), none⟩]) (.seq (.seq (.region [⟨some 5, .mv (.c (.one (.t (.int .i64 0)))), none⟩]) (.block 0 (.loop (.seq (.seq (.region [⟨some 6, .mv (.tmp 5), none⟩, ⟨some 7, .mv (.tmp 0), none⟩, ⟨some 8, .len (.tmp 7), none⟩, ⟨some 9, .bin .lss (.tmp 6) (.tmp 8), none⟩]) (.cond (.tmp 9) .skip (.exit 0))) (.seq (.block 1 (.seq (.region [⟨some 12, .mv (.tmp 0), none⟩, ⟨some 13, .mv (.tmp 5), none⟩, ⟨some 14, .idxA 1 (.tmp 12) (.tmp 13), none⟩, ⟨some 15, .load false 1 (.tmp 14), none⟩, ⟨some 16, .mv (.tmp 1), none⟩, ⟨some 17, .bin .eql (.tmp 15) (.tmp 16), none⟩]) (.cond (.tmp 17) (.seq (.region [⟨some 4, .mv (.c (.one (.t (.bool true)))), none⟩]) .ret) .skip))) (.region [⟨some 10, .mv (.tmp 5), none⟩, ⟨some 11, .bin .add (.tmp 10) (.c (.one (.t (.int .i64 1)))), none⟩, ⟨some 5, .mv (.tmp 11), none⟩])))))) (.seq (.region [⟨some 4, .mv (.c (.one (.t (.bool false)))), none⟩]) .ret))⟩
theorem k_has14 : cFn Tryz.prog Tryz.f65 = some c_has14 := by kernel_rfl
theorem has14_ok (l : List Int) (n : Int) (hl : small l.length) : CallOK Tryz.prog 65 [(false, [ints l]), (false, [.int .i64 n])] (.sv (false, [.bool (decide (n ∈ l))])) := by
  refine callOK_W (callS_W (by kernel_rfl) Tryz.func65 k_has14 (callable_of Tryz.func65 (by kernel_rfl)) (by simp [c_has14]) ?_)
  simp [c_has14]
  refine loopW_count 5 l.length (fun k S => S.fr 0 = .one (.t (ints l)) ∧ S.fr 1 = .one (.t (.int .i64 n)) ∧ S.ob = noOb ∧ S.cnt = noCnt ∧ n ∉ l.take k) hl ?_ ?_ ?_
  · simp
  · rintro k S hlt hw hc ⟨h0, h1, hob, hcnt, hp⟩
    by_cases he : nth l k = n
    · simp [h0, h1, hc, hlt, drop_nth hlt, he, show n ∈ l from he ▸ nth_mem hlt]
    · simp [h0, h1, hc, hlt, drop_nth hlt, he, hw, hob, hcnt]
      exact take_nth hlt hp he
  · rintro S hc ⟨h0, h1, hob, hcnt, hp⟩
    simp [h0, h1, hc]
    simpa using hp

def c_at14 : MFunc := ⟨19, [.tmp 4], .seq (.region [⟨some 4, .mv (.c (.one (.t (.int .i64 0)))), none⟩]) (.seq (.seq (.region [⟨some 5, .mv (.c (.one (.t (.int .i64 0)))), none⟩]) (.block 0 (.loop (.seq (.seq (.region [⟨some 6, .mv (.tmp 5), none⟩, ⟨some 7, .mv (.tmp 0), none⟩, ⟨some 8, .len (.tmp 7), none⟩, ⟨some 9, .bin .lss (.tmp 6) (.tmp 8), none⟩]) (.cond (.tmp 9) .skip (.exit 0))) (.seq (.block 1 (.seq (.region [⟨some 12, .mv (.tmp 0), none⟩, ⟨some 13, .mv (.tmp 5), none⟩, ⟨some 14, .idxA 1 (.tmp 12) (.tmp 13), none⟩, ⟨some 15, .load false 1 (.tmp 14), none⟩, ⟨some 16, .mv (.tmp 1), none⟩, ⟨some 17, .bin .eql (.tmp 15) (.tmp 16), none⟩]) (.cond (.tmp 17) (.seq (.region [⟨some 18, .mv (.tmp 5), none⟩, ⟨some 4, .mv (.tmp 18), none⟩]) .ret) .skip))) (.region [⟨some 10, .mv (.tmp 5), none⟩, ⟨some 11, .bin .add (.tmp 10) (.c (.one (.t (.int .i64 1)))), none⟩, ⟨some 5, .mv (.tmp 11), none⟩])))))) (.seq (.region [⟨some 4, .mv (.c (.one (.t (.int .i64 (-1))))), none⟩]) .ret))⟩
theorem k_at14 : cFn Tryz.prog Tryz.f66 = some c_at14 := by kernel_rfl
theorem at14_ok (l : List Int) (n : Int) (hl : small l.length) : CallOK Tryz.prog 66 [(false, [ints l]), (false, [.int .i64 n])] (.sv (false, [.int .i64 (idx l n)])) := by
  refine callOK_W (callS_W (by kernel_rfl) Tryz.func66 k_at14 (callable_of Tryz.func66 (by kernel_rfl)) (by simp [c_at14]) ?_)
  simp [c_at14]
  refine loopW_count 5 l.length (fun k S => S.fr 0 = .one (.t (ints l)) ∧ S.fr 1 = .one (.t (.int .i64 n)) ∧ S.ob = noOb ∧ S.cnt = noCnt ∧ n ∉ l.take k) hl ?_ ?_ ?_
  · simp
  · rintro k S hlt hw hc ⟨h0, h1, hob, hcnt, hp⟩
    by_cases he : nth l k = n
    · simp [h0, h1, hc, hlt, drop_nth hlt, he, idx_at hlt hp he]
    · simp [h0, h1, hc, hlt, drop_nth hlt, he, hw, hob, hcnt]
      exact take_nth hlt hp he
  · rintro S hc ⟨h0, h1, hob, hcnt, hp⟩
    simp [h0, h1, hc]
    simpa [idx] using hp

def c_index07 : MFunc := ⟨19, [.tmp 4], .seq (.region [⟨some 4, .mv (.c (.one (.t (.int .i64 0)))), none⟩]) (.seq (.seq (.region [⟨some 5, .mv (.c (.one (.t (.int .i64 0)))), none⟩]) (.block 0 (.loop (.seq (.seq (.region [⟨some 6, .mv (.tmp 5), none⟩, ⟨some 7, .mv (.tmp 0), none⟩, ⟨some 8, .len (.tmp 7), none⟩, ⟨some 9, .bin .lss (.tmp 6) (.tmp 8), none⟩]) (.cond (.tmp 9) .skip (.exit 0))) (.seq (.block 1 (.seq (.region [⟨some 12, .mv (.tmp 0), none⟩, ⟨some 13, .mv (.tmp 5), none⟩, ⟨some 14, .idxA 1 (.tmp 12) (.tmp 13), none⟩, ⟨some 15, .load false 1 (.tmp 14), none⟩, ⟨some 16, .mv (.tmp 1), none⟩, ⟨some 17, .bin .eql (.tmp 15) (.tmp 16), none⟩]) (.cond (.tmp 17) (.seq (.region [⟨some 18, .mv (.tmp 5), none⟩, ⟨some 4, .mv (.tmp 18), none⟩]) .ret) .skip))) (.region [⟨some 10, .mv (.tmp 5), none⟩, ⟨some 11, .bin .add (.tmp 10) (.c (.one (.t (.int .i64 1)))), none⟩, ⟨some 5, .mv (.tmp 11), none⟩])))))) (.seq (.region [⟨some 4, .mv (.c (.one (.t (.int .i64 (-1))))), none⟩]) .ret))⟩
theorem k_index07 : cFn Tryz.prog Tryz.f107 = some c_index07 := by kernel_rfl
theorem index07_ok (l : List Int) (n : Int) (hl : small l.length) : CallOK Tryz.prog 107 [(false, [ints l]), (false, [.int .i64 n])] (.sv (false, [.int .i64 (idx l n)])) := by
  refine callOK_W (callS_W (by kernel_rfl) Tryz.func107 k_index07 (callable_of Tryz.func107 (by kernel_rfl)) (by simp [c_index07]) ?_)
  simp [c_index07]
  refine loopW_count 5 l.length (fun k S => S.fr 0 = .one (.t (ints l)) ∧ S.fr 1 = .one (.t (.int .i64 n)) ∧ S.ob = noOb ∧ S.cnt = noCnt ∧ n ∉ l.take k) hl ?_ ?_ ?_
  · simp
  · rintro k S hlt hw hc ⟨h0, h1, hob, hcnt, hp⟩
    by_cases he : nth l k = n
    · simp [h0, h1, hc, hlt, drop_nth hlt, he, idx_at hlt hp he]
    · simp [h0, h1, hc, hlt, drop_nth hlt, he, hw, hob, hcnt]
      exact take_nth hlt hp he
  · rintro S hc ⟨h0, h1, hob, hcnt, hp⟩
    simp [h0, h1, hc]
    simpa [idx] using hp

/-! ### Parts without error -/
structure SubOk (g : Gr) (p : Pa) : Prop where
  gr : GrOk g
  an : Asc p.nodes
  ae : Asc p.edges
  rn : ∀ x ∈ p.nodes, 0 ≤ x ∧ x < g.nodes.length
  re : ∀ x ∈ p.edges, 0 ≤ x ∧ x < g.edges.length
  de : ∀ x ∈ p.edges, (eth g.edges x.toNat).f ∈ p.nodes ∧ (eth g.edges x.toNat).g ∈ p.nodes
theorem sub_of {g : Gr} {p : Pa} (h : subErr g p = 0) : SubOk g p := by
  have h0 : gErr g = 0 := by
    unfold subErr at h
    split at h
    · assumption
    · exact h
  have h1 : partErr g p = 0 := by
    unfold subErr at h
    rw [if_pos h0] at h
    exact h
  have h2 : ascErr p.nodes g.nodes.length = 0 := by
    unfold partErr at h1
    split at h1
    · assumption
    · exact h1
  have h3 : ascErr p.edges g.edges.length = 0 := by
    unfold partErr at h1
    rw [if_pos h2] at h1
    split at h1
    · assumption
    · exact h1
  have h4 : fe (danF g p) p.edges.length = 0 := by
    unfold partErr at h1
    rw [if_pos h2, if_pos h3] at h1
    exact h1
  obtain ⟨a1, a2⟩ := asc_of h2
  obtain ⟨b1, b2⟩ := asc_of h3
  refine ⟨gErr_ok h0, a1, b1, a2, b2, fun x hx => ?_⟩
  obtain ⟨i, hi, rfl⟩ := mem_nth hx
  have := fe_eq h4 i hi
  unfold danF at this
  split at this
  · assumption
  · cases this
theorem asc_len {l : List Int} {n : Nat} (ha : Asc l) (hr : ∀ x ∈ l, 0 ≤ x ∧ x < n) : l.length ≤ n := by
  have h : ∀ k, k < l.length → (k : Int) ≤ nth l k := by
    intro k
    induction k with
    | zero => intro hk; have := (hr _ (nth_mem hk)).1; omega
    | succ k ih => intro hk; have := ih (by omega); have := ha k (k + 1) (by omega) hk; omega
  rcases Nat.eq_zero_or_pos l.length with h0 | h0
  · omega
  · have h1 := h (l.length - 1) (by omega)
    have h2 := (hr _ (nth_mem (l := l) (k := l.length - 1) (by omega))).2
    omega
theorem bs_idx {l : List Int} {x : Int} (ha : Asc l) (hx : x ∈ l) : bs l x = idx l x := by
  obtain ⟨k, hk, rfl⟩ := mem_nth hx
  have h1 : bs l (nth l k) = k := by
    unfold bs
    rw [count_at (i := k) (by omega) (fun j hj => ha j k hj hk) (fun j h1 h2 => by
      rcases Nat.eq_or_lt_of_le h1 with e | e
      · rw [e]; exact Int.le_refl _
      · exact Int.le_of_lt (ha k j e h2))]
  have h2 : idx l (nth l k) = k := idx_at hk (fun h => by
    obtain ⟨j, hj, he⟩ := mem_nth h
    simp only [List.length_take] at hj
    have : nth (l.take k) j = nth l j := by
      rw [nth_eq (by simp; omega), nth_eq (by omega)]
      simp
    rw [this] at he
    have := ha j k (by omega) hk
    omega) rfl
  rw [h1, h2]

/-! ### The graph of a part -/
def exN (g : Gr) (p : Pa) (k : Nat) : List Int := (p.nodes.take k).map fun x => nth g.nodes x.toNat
def exD (g : Gr) (p : Pa) (x : Int) : Ed := ⟨(eth g.edges x.toNat).t, idx p.nodes (eth g.edges x.toNat).f, idx p.nodes (eth g.edges x.toNat).g⟩
def exE (g : Gr) (p : Pa) (k : Nat) : List Ed := (p.edges.take k).map (exD g p)
def exG (g : Gr) (p : Pa) : Gr := ⟨p.nodes.map fun x => nth g.nodes x.toNat, p.edges.map (exD g p)⟩
theorem exN_succ {g : Gr} {p : Pa} {k : Nat} (h : k < p.nodes.length) : exN g p (k + 1) = exN g p k ++ [nth g.nodes (nth p.nodes k).toNat] := by
  rw [exN, take_succ_nth' h]
  simp [exN]
theorem exE_succ {g : Gr} {p : Pa} {k : Nat} (h : k < p.edges.length) : exE g p (k + 1) = exE g p k ++ [exD g p (nth p.edges k)] := by
  rw [exE, take_succ_nth' h]
  simp [exE]
theorem exN_all {g : Gr} {p : Pa} : exN g p p.nodes.length = (exG g p).nodes := by simp [exN, exG]
theorem exE_all {g : Gr} {p : Pa} : exE g p p.edges.length = (exG g p).edges := by simp [exE, exG]
theorem exN_len {g : Gr} {p : Pa} {k : Nat} (h : k ≤ p.nodes.length) : (exN g p k).length = k := by simp [exN]; omega
theorem exE_len {g : Gr} {p : Pa} {k : Nat} (h : k ≤ p.edges.length) : (exE g p k).length = k := by simp [exE]; omega
/-- The graph of a part and its inclusion, or an error. -/
def exR (g : Gr) (p : Pa) : Gr × Pa × Int := if subErr g p = 0 then (exG g p, p, 0) else (⟨[], []⟩, ⟨[], []⟩, subErr g p)
def exT (x : Gr × Pa × Int) : TR := .tup [x.1.v, x.2.1.v, (false, [.int .i64 x.2.2])]

def c_extract07 : MFunc := ⟨85, [.cell 4 true 2, .cell 5 true 2, .tmp 6], .seq (.region [⟨some 2, .box 0 25 (.tmp 0), none⟩, ⟨some 3, .box 1 63 (.tmp 1), none⟩, ⟨some 4, .alloc 2 25 [.nil, .nil], none⟩, ⟨some 5, .alloc 3 27 [.nil, .nil], none⟩, ⟨some 6, .mv (.c (.one (.t (.int .i64 0)))), none⟩]) (.seq (.seq (.region [⟨some 12, .load true 2 (.tmp 2), none⟩, ⟨some 13, .load true 2 (.tmp 3), none⟩, ⟨some 14, .call (.c (.one (.fn 106 []))) 66 [.tmp 12, .tmp 13], none⟩, ⟨some 7, .mv (.tmp 14), none⟩]) (.seq (.region [⟨some 15, .mv (.tmp 7), none⟩, ⟨some 16, .bin .neq (.tmp 15) (.c (.one (.t (.int .i64 0)))), none⟩]) (.cond (.tmp 16) (.seq (.region [⟨some 17, .build [.nil, .nil] [], none⟩, ⟨some 18, .build [.nil, .nil] [], none⟩, ⟨some 19, .mv (.tmp 7), none⟩, ⟨none, .store 2 (.tmp 4) (.tmp 17), none⟩, ⟨none, .store 2 (.tmp 5) (.tmp 18), none⟩, ⟨some 6, .mv (.tmp 19), none⟩]) .ret) .skip))) (.seq (.region [⟨some 8, .alloc 256 25 [.nil, .nil], none⟩]) (.seq (.seq (.region [⟨some 9, .mv (.c (.one (.t (.int .i64 0)))), none⟩]) (.block 0 (.loop (.seq (.seq (.region [⟨some 20, .mv (.tmp 9), none⟩, ⟨some 21, .fieldA 0 (.tmp 3), none⟩, ⟨some 22, .load false 1 (.tmp 21), none⟩, ⟨some 23, .len (.tmp 22), none⟩, ⟨some 24, .bin .lss (.tmp 20) (.tmp 23), none⟩]) (.cond (.tmp 24) .skip (.exit 0))) (.seq (.block 1 (.draw [[], [0], [], [2], [], [4], [], [5, 6], [7], [3, 8], [9], [10], [1, 11], [0, 1, 2, 3, 4, 5, 6, 7, 8, 9, 10, 11, 12], [13, 12, 12, 0, 1, 2, 3, 4, 5, 6, 7, 8, 9, 10, 11, 12]] [⟨some 27, .fieldA 0 (.tmp 8), none⟩, ⟨some 28, .load false 1 (.tmp 27), none⟩, ⟨some 29, .fieldA 0 (.tmp 2), none⟩, ⟨some 30, .load false 1 (.tmp 29), none⟩, ⟨some 31, .fieldA 0 (.tmp 3), none⟩, ⟨some 32, .load false 1 (.tmp 31), none⟩, ⟨some 33, .mv (.tmp 9), none⟩, ⟨some 34, .idxA 1 (.tmp 32) (.tmp 33), none⟩, ⟨some 35, .load false 1 (.tmp 34), none⟩, ⟨some 36, .idxA 1 (.tmp 30) (.tmp 35), none⟩, ⟨some 37, .load false 1 (.tmp 36), none⟩, ⟨some 38, .mkrow 523 3 1 1 [.t (.int .i64 0)] [(0, (1, .tmp 37))], none⟩, ⟨some 39, .append 524 3 1 8 (.tmp 28) (.tmp 38), none⟩, ⟨some 40, .fieldA 0 (.tmp 8), none⟩, ⟨none, .store 1 (.tmp 40) (.tmp 39), none⟩])) (.region [⟨some 25, .mv (.tmp 9), none⟩, ⟨some 26, .bin .add (.tmp 25) (.c (.one (.t (.int .i64 1)))), none⟩, ⟨some 9, .mv (.tmp 26), none⟩])))))) (.seq (.seq (.region [⟨some 10, .mv (.c (.one (.t (.int .i64 0)))), none⟩]) (.block 2 (.loop (.seq (.seq (.region [⟨some 41, .mv (.tmp 10), none⟩, ⟨some 42, .fieldA 1 (.tmp 3), none⟩, ⟨some 43, .load false 1 (.tmp 42), none⟩, ⟨some 44, .len (.tmp 43), none⟩, ⟨some 45, .bin .lss (.tmp 41) (.tmp 44), none⟩]) (.cond (.tmp 45) .skip (.exit 2))) (.seq (.block 3 (.seq (.draw [[], [0], [], [2], [], [3, 4], [5], [1, 6], [7], [], [9, 8, 0, 1, 2, 3, 4, 5, 6, 7, 8, 9]] [⟨some 48, .fieldA 1 (.tmp 2), none⟩, ⟨some 49, .load false 1 (.tmp 48), none⟩, ⟨some 50, .fieldA 1 (.tmp 3), none⟩, ⟨some 51, .load false 1 (.tmp 50), none⟩, ⟨some 52, .mv (.tmp 10), none⟩, ⟨some 53, .idxA 1 (.tmp 51) (.tmp 52), none⟩, ⟨some 54, .load false 1 (.tmp 53), none⟩, ⟨some 55, .idxA 3 (.tmp 49) (.tmp 54), none⟩, ⟨some 56, .load true 3 (.tmp 55), none⟩, ⟨some 11, .alloc 777 76 [.t (.int .i64 0), .t (.int .i64 0), .t (.int .i64 0)], none⟩, ⟨none, .store 3 (.tmp 11) (.tmp 56), none⟩]) (.draw [[], [0], [], [2], [], [4], [], [6], [5, 7], [], [9], [], [11], [10, 12, 8], [3, 8, 13], [14], [1, 15, 13], [0, 1, 2, 3, 4, 5, 6, 7, 8, 9, 10, 11, 12, 13, 14, 15, 16], [17, 16, 16, 0, 1, 2, 3, 4, 5, 6, 7, 8, 9, 10, 11, 12, 13, 14, 15, 16]] [⟨some 57, .fieldA 1 (.tmp 8), none⟩, ⟨some 58, .load false 1 (.tmp 57), none⟩, ⟨some 59, .fieldA 0 (.tmp 11), none⟩, ⟨some 60, .load false 1 (.tmp 59), none⟩, ⟨some 61, .fieldA 0 (.tmp 3), none⟩, ⟨some 62, .load false 1 (.tmp 61), none⟩, ⟨some 63, .fieldA 1 (.tmp 11), none⟩, ⟨some 64, .load false 1 (.tmp 63), none⟩, ⟨some 65, .call (.c (.one (.fn 107 []))) 840 [.tmp 62, .tmp 64], none⟩, ⟨some 66, .fieldA 0 (.tmp 3), none⟩, ⟨some 67, .load false 1 (.tmp 66), none⟩, ⟨some 68, .fieldA 2 (.tmp 11), none⟩, ⟨some 69, .load false 1 (.tmp 68), none⟩, ⟨some 70, .call (.c (.one (.fn 107 []))) 845 [.tmp 67, .tmp 69], none⟩, ⟨some 71, .build [.t (.int .i64 0), .t (.int .i64 0), .t (.int .i64 0)] [(0, (1, .tmp 60)), (1, (1, .tmp 65)), (2, (1, .tmp 70))], none⟩, ⟨some 72, .mkrow 847 76 3 1 [.t (.int .i64 0), .t (.int .i64 0), .t (.int .i64 0)] [(0, (3, .tmp 71))], none⟩, ⟨some 73, .append 848 76 3 24 (.tmp 58) (.tmp 72), none⟩, ⟨some 74, .fieldA 1 (.tmp 8), none⟩, ⟨none, .store 1 (.tmp 74) (.tmp 73), none⟩]))) (.region [⟨some 46, .mv (.tmp 10), none⟩, ⟨some 47, .bin .add (.tmp 46) (.c (.one (.t (.int .i64 1)))), none⟩, ⟨some 10, .mv (.tmp 47), none⟩])))))) (.seq (.draw [[], [], [], [2], [1, 3], [], [], [6], [5, 7, 4], [4, 8], [0, 8, 0], [9, 10, 0, 1, 2, 3, 4, 5, 6, 7, 8, 9, 10], [11, 0, 1, 2, 3, 4, 5, 6, 7, 8, 9, 10, 11]] [⟨some 75, .load true 2 (.tmp 8), none⟩, ⟨some 76, .mkrow 897 3 1 0 [] [], none⟩, ⟨some 77, .fieldA 0 (.tmp 3), none⟩, ⟨some 78, .load false 1 (.tmp 77), none⟩, ⟨some 79, .append 900 3 1 8 (.tmp 76) (.tmp 78), none⟩, ⟨some 80, .mkrow 901 3 1 0 [] [], none⟩, ⟨some 81, .fieldA 1 (.tmp 3), none⟩, ⟨some 82, .load false 1 (.tmp 81), none⟩, ⟨some 83, .append 904 3 1 8 (.tmp 80) (.tmp 82), none⟩, ⟨some 84, .build [.nil, .nil] [(0, (1, .tmp 79)), (1, (1, .tmp 83))], none⟩, ⟨none, .store 2 (.tmp 4) (.tmp 75), none⟩, ⟨none, .store 2 (.tmp 5) (.tmp 84), none⟩, ⟨some 6, .mv (.c (.one (.t (.int .i64 0)))), none⟩]) .ret)))))⟩
theorem k_extract07 : cFn Tryz.prog Tryz.f68 = some c_extract07 := by kernel_rfl
set_option maxHeartbeats 4000000 in
theorem extract07_ok (g : Gr) (p : Pa) (tg : tinyG g) (tp : tinyP p) : CallOK Tryz.prog 68 [g.v, p.v] (exT (exR g p)) := by
  refine callOK_W (callS_W (by kernel_rfl) Tryz.func68 k_extract07 (callable_of Tryz.func68 (by kernel_rfl)) (by simp [c_extract07]) ?_)
  simp [c_extract07]
  refine callS_tree (rvalid7_ok g p tg tp) ?_ ?_ ?_
  · rfl
  · rfl
  by_cases h1 : subErr g p = 0
  case neg =>
    have e : exR g p = (⟨[], []⟩, ⟨[], []⟩, subErr g p) := by simp [exR, h1]
    simp [h1, exT, e, edL]
  have e : exR g p = (exG g p, p, 0) := by simp [exR, h1]
  have ok := sub_of h1
  have b1 := ok.gr.n
  have b2 := ok.gr.e
  have b3 := asc_len ok.an ok.rn
  have b4 := asc_len ok.ae ok.re
  simp [h1]
  refine loopW_count 9 p.nodes.length (fun k S => S.fr 2 = .one (.ptr (0, 0) 0) ∧ S.fr 3 = .one (.ptr (1, 0) 0) ∧ S.fr 4 = .one (.ptr (2, 0) 0) ∧ S.fr 5 = .one (.ptr (3, 0) 0) ∧ S.fr 8 = .one (.ptr (256, 0) 0) ∧
    S.ob (0, 0) = some (bx 25 (g.v.2.map .t)) ∧ S.ob (1, 0) = some (bx 63 (p.v.2.map .t)) ∧ S.ob (2, 0) = some (bx 25 [.nil, .nil]) ∧ S.ob (3, 0) = some (bx 27 [.nil, .nil]) ∧
    ∃ vN, S.ob (256, 0) = some (bx 25 [vN, .nil]) ∧ outR 524 3 1 (exN g p k).length ((exN g p k).map (.int .i64)) S.ob (.one vN)) (by omega) ?_ ?_ ?_
  · simp [exN, outR_nil]
  · rintro k S hlt hw hc ⟨f2, f3, f4, f5, f8, o0, o1, o2, o3, vN, o256, ho⟩
    obtain ⟨x1, x2⟩ := ok.rn _ (nth_mem hlt)
    obtain ⟨x, hx⟩ := Int.eq_ofNat_of_zero_le x1
    have hx2 : x < g.nodes.length := by omega
    have z := exN_len (g := g) (p := p) (k := k) (by omega)
    have zs := exN_succ (g := g) hlt
    rw [hx, Int.toNat_natCast] at zs
    have ho0 := ho
    rcases ho with ⟨a1, _, a3⟩ | ⟨a1, ga, a3, a4⟩
    all_goals
      cases a3
      simp [dw0, dw1, dw2, dw3, f2, f3, f4, f5, f8, o0, o1, o2, o3, o256, hc, hlt, drop_nth hlt, hx, hx2, drop_nth hx2]
      refine kApp_grow (ts := [.int .i64 (nth g.nodes x)]) rfl (ho0.keep fun g => by simp) (by omega) rfl (by omega) (by omega) fun E hE hob hcnt => ?_
      obtain ⟨w, hu⟩ := hE.one
      rw [hu] at hE
      simp [dw0, dw1, dw2, dw3, f2, f3, f4, f5, f8, o0, o1, o2, o3, o256, hc, hob, hu]
      refine ⟨rfl, ?_⟩
      simp [f2, f3, f4, f5, f8, o0, o1, o2, o3, o256, hc, hw, hob, hu, zs]
      exact outR.keep (by simpa using hE) fun g => by simp
  · rintro S hc ⟨f2, f3, f4, f5, f8, o0, o1, o2, o3, vN, o256, ho⟩
    rw [exN_all] at ho
    simp [f2, f3, f4, f5, f8, o0, o1, o2, o3, o256, hc]
    refine loopW_count 10 p.edges.length (fun k S => S.fr 2 = .one (.ptr (0, 0) 0) ∧ S.fr 3 = .one (.ptr (1, 0) 0) ∧ S.fr 4 = .one (.ptr (2, 0) 0) ∧ S.fr 5 = .one (.ptr (3, 0) 0) ∧ S.fr 8 = .one (.ptr (256, 0) 0) ∧
      S.ob (0, 0) = some (bx 25 (g.v.2.map .t)) ∧ S.ob (1, 0) = some (bx 63 (p.v.2.map .t)) ∧ S.ob (2, 0) = some (bx 25 [.nil, .nil]) ∧ S.ob (3, 0) = some (bx 27 [.nil, .nil]) ∧
      outR 524 3 1 (exG g p).nodes.length ((exG g p).nodes.map (.int .i64)) S.ob (.one vN) ∧
      ∃ vE, S.ob (256, 0) = some (bx 25 [vN, vE]) ∧ outR 848 76 3 (exE g p k).length (edL (exE g p k)) S.ob (.one vE)) (by omega) ?_ ?_ ?_
    · simp [f2, f3, f4, f5, f8, o0, o1, o2, o3, o256, exE, edL, outR_nil]
      simpa using ho
    · rintro k S hlt hw hc ⟨f2, f3, f4, f5, f8, o0, o1, o2, o3, hN, vE, o256, ho⟩
      obtain ⟨x1, x2⟩ := ok.re _ (nth_mem hlt)
      obtain ⟨x, hx⟩ := Int.eq_ofNat_of_zero_le x1
      have hx2 : x < g.edges.length := by omega
      have hx3 : x * 3 < g.edges.length * 3 := by omega
      have z := exE_len (g := g) (p := p) (k := k) (by omega)
      have zs := exE_succ (g := g) hlt
      have zd : exD g p (nth p.edges k) = ⟨(eth g.edges x).t, idx p.nodes (eth g.edges x).f, idx p.nodes (eth g.edges x).g⟩ := by simp [exD, hx]
      have ho0 := ho
      rcases ho with ⟨a1, _, a3⟩ | ⟨a1, ga, a3, a4⟩
      all_goals
        cases a3
        simp [dw0, dw1, dw2, dw3, f2, f3, f4, f5, f8, o0, o1, o2, o3, o256, hc, hlt, drop_nth hlt, hx, hx2, hx3, drop_edL hx2]
        refine ⟨rfl, ?_⟩
        refine dCall_ok (index07_ok p.nodes (eth g.edges x).f (by have := tp.1; exact this.small)) ?_ ?_ ?_
        · rfl
        · rfl
        simp [dw0, dw1, dw2, dw3, f2, f3, f4, f5, f8, o0, o1, o2, o3, o256, hc]
        refine dCall_ok (index07_ok p.nodes (eth g.edges x).g (by have := tp.1; exact this.small)) ?_ ?_ ?_
        · rfl
        · rfl
        simp [dw0, dw1, dw2, dw3, f2, f3, f4, f5, f8, o0, o1, o2, o3, o256, hc]
        refine kApp_grow (ts := edC ⟨(eth g.edges x).t, idx p.nodes (eth g.edges x).f, idx p.nodes (eth g.edges x).g⟩) rfl (ho0.keep fun g => by simp) (by omega) rfl (by omega) (by omega) fun E hE hob hcnt => ?_
        obtain ⟨w, hu⟩ := hE.one
        rw [hu] at hE
        have hN2 := hN.keep (ob' := E.ob) fun g => by rw [hob _ _ (by decide)]; simp
        simp [dw0, dw1, dw2, dw3, f2, f3, f4, f5, f8, o0, o1, o2, o3, o256, hc, hob, hu]
        refine ⟨rfl, ?_⟩
        simp [f2, f3, f4, f5, f8, o0, o1, o2, o3, o256, hc, hw, hob, hu, zs, zd]
        exact ⟨outR.keep (by simpa using hN2) fun g => by simp, outR.keep (by simpa [edL, Nat.add_assoc] using hE) fun g => by simp⟩
    · rintro S hc ⟨f2, f3, f4, f5, f8, o0, o1, o2, o3, hN, vE, o256, ho⟩
      rw [exE_all] at ho
      have eN : (exG g p).nodes.length = p.nodes.length := by simp [exG]
      have eE : (exG g p).edges.length = p.edges.length := by simp [exG]
      rw [e, exT]
      generalize exG g p = X at hN ho eN eE ⊢
      rcases hN with ⟨n1, n2, n3⟩ | ⟨n1, gg, n3, n4⟩ <;> rcases ho with ⟨m1, m2, m3⟩ | ⟨m1, gg', m3, m4⟩
      all_goals
        cases n3
        cases m3
      · have p1 : p.nodes = [] := List.eq_nil_of_length_eq_zero (by omega)
        have p2 : p.edges = [] := List.eq_nil_of_length_eq_zero (by omega)
        have x1 : X.nodes = [] := List.eq_nil_of_length_eq_zero (by omega)
        have x2 : X.edges = [] := List.eq_nil_of_length_eq_zero (by omega)
        simp [dw0, dw1, dw2, dw3, f2, f3, f4, f5, f8, o0, o1, o2, o3, o256, hc, p1, p2]
        refine kApp_nil (ts := []) rfl rfl (by omega) (by omega) ?_
        simp [dw0, dw1, dw2, dw3, rowEff, f2, f3, f4, f5, f8, o0, o1, o2, o3, o256, hc, p1, p2]
        refine kApp_nil (ts := []) rfl rfl (by omega) (by omega) ?_
        simp [dw0, dw1, dw2, dw3, rowEff, f2, f3, f4, f5, f8, o0, o1, o2, o3, o256, hc, p1, p2, x1, x2, edL]
        rfl
      · have p1 : p.nodes = [] := List.eq_nil_of_length_eq_zero (by omega)
        have p2 : ¬ p.edges = [] := fun h => by rw [h] at eE; simp at eE; rw [eE] at m1; simp at m1
        have x1 : X.nodes = [] := List.eq_nil_of_length_eq_zero (by omega)
        simp [dw0, dw1, dw2, dw3, f2, f3, f4, f5, f8, o0, o1, o2, o3, o256, hc, p1, p2]
        refine kApp_nil (ts := []) rfl rfl (by omega) (by omega) ?_
        simp [dw0, dw1, dw2, dw3, rowEff, f2, f3, f4, f5, f8, o0, o1, o2, o3, o256, hc, p1, p2]
        refine kApp_nil (ts := p.edges.map (.int .i64)) (by simp) (by simp) (by omega) (by omega) ?_
        simp [dw0, dw1, dw2, dw3, rowEff, f2, f3, f4, f5, f8, o0, o1, o2, o3, o256, hc, p1, p2, x1, m4, edL, untreeT, untreeI]
        rfl
      · have p1 : ¬ p.nodes = [] := fun h => by rw [h] at eN; simp at eN; rw [eN] at n1; simp at n1
        have p2 : p.edges = [] := List.eq_nil_of_length_eq_zero (by omega)
        have x2 : X.edges = [] := List.eq_nil_of_length_eq_zero (by omega)
        simp [dw0, dw1, dw2, dw3, f2, f3, f4, f5, f8, o0, o1, o2, o3, o256, hc, p1, p2]
        refine kApp_nil (ts := p.nodes.map (.int .i64)) (by simp) (by simp) (by omega) (by omega) ?_
        simp [dw0, dw1, dw2, dw3, rowEff, f2, f3, f4, f5, f8, o0, o1, o2, o3, o256, hc, p1, p2]
        refine kApp_nil (ts := []) rfl rfl (by omega) (by omega) ?_
        simp [dw0, dw1, dw2, dw3, rowEff, f2, f3, f4, f5, f8, o0, o1, o2, o3, o256, hc, p1, p2, x2, n4, edL, untreeT, untreeI]
        rfl
      · have p1 : ¬ p.nodes = [] := fun h => by rw [h] at eN; simp at eN; rw [eN] at n1; simp at n1
        have p2 : ¬ p.edges = [] := fun h => by rw [h] at eE; simp at eE; rw [eE] at m1; simp at m1
        simp [dw0, dw1, dw2, dw3, f2, f3, f4, f5, f8, o0, o1, o2, o3, o256, hc, p1, p2]
        refine kApp_nil (ts := p.nodes.map (.int .i64)) (by simp) (by simp) (by omega) (by omega) ?_
        simp [dw0, dw1, dw2, dw3, rowEff, f2, f3, f4, f5, f8, o0, o1, o2, o3, o256, hc, p1, p2]
        refine kApp_nil (ts := p.edges.map (.int .i64)) (by simp) (by simp) (by omega) (by omega) ?_
        simp [dw0, dw1, dw2, dw3, rowEff, f2, f3, f4, f5, f8, o0, o1, o2, o3, o256, hc, p1, p2, n4, m4, untreeT, untreeI]
        rfl

def c_sextract : MFunc := ⟨85, [.cell 4 true 2, .cell 5 true 2, .tmp 6], .seq (.region [⟨some 2, .box 0 25 (.tmp 0), none⟩, ⟨some 3, .box 1 63 (.tmp 1), none⟩, ⟨some 4, .alloc 2 25 [.nil, .nil], none⟩, ⟨some 5, .alloc 3 27 [.nil, .nil], none⟩, ⟨some 6, .mv (.c (.one (.t (.int .i64 0)))), none⟩]) (.seq (.seq (.region [⟨some 14, .load true 2 (.tmp 2), none⟩, ⟨some 15, .load true 2 (.tmp 3), none⟩, ⟨some 16, .call (.c (.one (.fn 102 []))) 66 [.tmp 14, .tmp 15], none⟩, ⟨some 7, .mv (.tmp 16), none⟩]) (.seq (.region [⟨some 17, .mv (.tmp 7), none⟩, ⟨some 18, .bin .neq (.tmp 17) (.c (.one (.t (.int .i64 0)))), none⟩]) (.cond (.tmp 18) (.seq (.region [⟨some 19, .build [.nil, .nil] [], none⟩, ⟨some 20, .build [.nil, .nil] [], none⟩, ⟨some 21, .mv (.tmp 7), none⟩, ⟨none, .store 2 (.tmp 4) (.tmp 19), none⟩, ⟨none, .store 2 (.tmp 5) (.tmp 20), none⟩, ⟨some 6, .mv (.tmp 21), none⟩]) .ret) .skip))) (.seq (.region [⟨some 8, .alloc 256 25 [.nil, .nil], none⟩]) (.seq (.seq (.region [⟨some 22, .fieldA 0 (.tmp 3), none⟩, ⟨some 23, .load false 1 (.tmp 22), none⟩, ⟨some 24, .len (.tmp 23), none⟩, ⟨some 25, .mv (.c (.one (.t (.int .i64 0)))), none⟩]) (.block 0 (.loop (.seq (.region [⟨some 26, .bin .lss (.tmp 25) (.tmp 24), none⟩]) (.seq (.cond (.tmp 26) .skip (.exit 0)) (.seq (.block 1 (.seq (.region [⟨some 27, .idxA 1 (.tmp 23) (.tmp 25), none⟩, ⟨some 28, .load false 1 (.tmp 27), none⟩, ⟨some 10, .mv (.tmp 28), none⟩]) (.draw [[], [0], [], [2], [], [3, 4], [5], [6], [1, 7], [0, 1, 2, 3, 4, 5, 6, 7, 8], [9, 8, 8, 0, 1, 2, 3, 4, 5, 6, 7, 8]] [⟨some 29, .fieldA 0 (.tmp 8), none⟩, ⟨some 30, .load false 1 (.tmp 29), none⟩, ⟨some 31, .fieldA 0 (.tmp 2), none⟩, ⟨some 32, .load false 1 (.tmp 31), none⟩, ⟨some 33, .mv (.tmp 10), none⟩, ⟨some 34, .idxA 1 (.tmp 32) (.tmp 33), none⟩, ⟨some 35, .load false 1 (.tmp 34), none⟩, ⟨some 36, .mkrow 519 3 1 1 [.t (.int .i64 0)] [(0, (1, .tmp 35))], none⟩, ⟨some 37, .append 520 3 1 8 (.tmp 30) (.tmp 36), none⟩, ⟨some 38, .fieldA 0 (.tmp 8), none⟩, ⟨none, .store 1 (.tmp 38) (.tmp 37), none⟩]))) (.region [⟨some 39, .bin .add (.tmp 25) (.c (.one (.t (.int .i64 1)))), none⟩, ⟨some 25, .mv (.tmp 39), none⟩]))))))) (.seq (.seq (.region [⟨some 40, .fieldA 1 (.tmp 3), none⟩, ⟨some 41, .load false 1 (.tmp 40), none⟩, ⟨some 42, .len (.tmp 41), none⟩, ⟨some 43, .mv (.c (.one (.t (.int .i64 0)))), none⟩]) (.block 2 (.loop (.seq (.region [⟨some 44, .bin .lss (.tmp 43) (.tmp 42), none⟩]) (.seq (.cond (.tmp 44) .skip (.exit 2)) (.seq (.block 3 (.seq (.region [⟨some 45, .idxA 1 (.tmp 41) (.tmp 43), none⟩, ⟨some 46, .load false 1 (.tmp 45), none⟩, ⟨some 12, .mv (.tmp 46), none⟩]) (.seq (.region [⟨some 47, .fieldA 1 (.tmp 2), none⟩, ⟨some 48, .load false 1 (.tmp 47), none⟩, ⟨some 49, .mv (.tmp 12), none⟩, ⟨some 50, .idxA 3 (.tmp 48) (.tmp 49), none⟩, ⟨some 51, .load true 3 (.tmp 50), none⟩, ⟨some 13, .alloc 837 76 [.t (.int .i64 0), .t (.int .i64 0), .t (.int .i64 0)], none⟩, ⟨none, .store 3 (.tmp 13) (.tmp 51), none⟩]) (.seq (.region [⟨some 53, .fieldA 0 (.tmp 3), none⟩, ⟨some 54, .load false 1 (.tmp 53), none⟩, ⟨some 55, .fieldA 1 (.tmp 13), none⟩, ⟨some 56, .load false 1 (.tmp 55), none⟩, ⟨some 57, .call (.c (.one (.fn 103 []))) 900 [.tmp 54, .tmp 56], none⟩, ⟨some 52, .mv (.tmp 57), none⟩, ⟨some 58, .extract (.tmp 52) 0, none⟩, ⟨some 59, .extract (.tmp 52) 1, none⟩, ⟨some 60, .fieldA 1 (.tmp 13), none⟩, ⟨none, .store 1 (.tmp 60) (.tmp 58), none⟩]) (.seq (.region [⟨some 62, .fieldA 0 (.tmp 3), none⟩, ⟨some 63, .load false 1 (.tmp 62), none⟩, ⟨some 64, .fieldA 2 (.tmp 13), none⟩, ⟨some 65, .load false 1 (.tmp 64), none⟩, ⟨some 66, .call (.c (.one (.fn 103 []))) 964 [.tmp 63, .tmp 65], none⟩, ⟨some 61, .mv (.tmp 66), none⟩, ⟨some 67, .extract (.tmp 61) 0, none⟩, ⟨some 68, .extract (.tmp 61) 1, none⟩, ⟨some 69, .fieldA 2 (.tmp 13), none⟩, ⟨none, .store 1 (.tmp 69) (.tmp 67), none⟩]) (.region [⟨some 70, .fieldA 1 (.tmp 8), none⟩, ⟨some 71, .load false 1 (.tmp 70), none⟩, ⟨some 72, .load true 3 (.tmp 13), none⟩, ⟨some 73, .mkrow 1027 76 3 1 [.t (.int .i64 0), .t (.int .i64 0), .t (.int .i64 0)] [(0, (3, .tmp 72))], none⟩, ⟨some 74, .append 1028 76 3 24 (.tmp 71) (.tmp 73), none⟩, ⟨some 75, .fieldA 1 (.tmp 8), none⟩, ⟨none, .store 1 (.tmp 75) (.tmp 74), none⟩])))))) (.region [⟨some 76, .bin .add (.tmp 43) (.c (.one (.t (.int .i64 1)))), none⟩, ⟨some 43, .mv (.tmp 76), none⟩]))))))) (.seq (.draw [[], [], [1], [2], [], [4], [5, 3], [3, 6], [0, 6, 0], [7, 8, 0, 1, 2, 3, 4, 5, 6, 7, 8], [9, 0, 1, 2, 3, 4, 5, 6, 7, 8, 9]] [⟨some 77, .load true 2 (.tmp 8), none⟩, ⟨some 78, .fieldA 0 (.tmp 3), none⟩, ⟨some 79, .load false 1 (.tmp 78), none⟩, ⟨some 80, .call (.c (.one (.fn 25 []))) 1155 [.tmp 79], none⟩, ⟨some 81, .fieldA 1 (.tmp 3), none⟩, ⟨some 82, .load false 1 (.tmp 81), none⟩, ⟨some 83, .call (.c (.one (.fn 25 []))) 1158 [.tmp 82], none⟩, ⟨some 84, .build [.nil, .nil] [(0, (1, .tmp 80)), (1, (1, .tmp 83))], none⟩, ⟨none, .store 2 (.tmp 4) (.tmp 77), none⟩, ⟨none, .store 2 (.tmp 5) (.tmp 84), none⟩, ⟨some 6, .mv (.c (.one (.t (.int .i64 0)))), none⟩]) .ret)))))⟩
theorem k_sextract : cFn Tryz.prog Tryz.f62 = some c_sextract := by kernel_rfl
set_option maxHeartbeats 4000000 in
theorem sextract_ok (g : Gr) (p : Pa) (tg : tinyG g) (tp : tinyP p) : CallOK Tryz.prog 62 [g.v, p.v] (exT (exR g p)) := by
  refine callOK_W (callS_W (by kernel_rfl) Tryz.func62 k_sextract (callable_of Tryz.func62 (by kernel_rfl)) (by simp [c_sextract]) ?_)
  simp [c_sextract]
  refine callS_tree (svalid_ok g p tg tp) ?_ ?_ ?_
  · rfl
  · rfl
  by_cases h1 : subErr g p = 0
  case neg =>
    have e : exR g p = (⟨[], []⟩, ⟨[], []⟩, subErr g p) := by simp [exR, h1]
    simp [h1, exT, e, edL]
  have e : exR g p = (exG g p, p, 0) := by simp [exR, h1]
  have ok := sub_of h1
  have b1 := ok.gr.n
  have b2 := ok.gr.e
  have b3 := asc_len ok.an ok.rn
  have b4 := asc_len ok.ae ok.re
  simp [h1]
  refine loopW_count 25 p.nodes.length (fun k S => S.fr 2 = .one (.ptr (0, 0) 0) ∧ S.fr 3 = .one (.ptr (1, 0) 0) ∧ S.fr 4 = .one (.ptr (2, 0) 0) ∧ S.fr 5 = .one (.ptr (3, 0) 0) ∧ S.fr 8 = .one (.ptr (256, 0) 0) ∧ S.fr 23 = .one (.t (ints p.nodes)) ∧ S.fr 24 = .one (.t (.int .i64 p.nodes.length)) ∧
    S.ob (0, 0) = some (bx 25 (g.v.2.map .t)) ∧ S.ob (1, 0) = some (bx 63 (p.v.2.map .t)) ∧ S.ob (2, 0) = some (bx 25 [.nil, .nil]) ∧ S.ob (3, 0) = some (bx 27 [.nil, .nil]) ∧
    ∃ vN, S.ob (256, 0) = some (bx 25 [vN, .nil]) ∧ outR 520 3 1 (exN g p k).length ((exN g p k).map (.int .i64)) S.ob (.one vN)) (by omega) ?_ ?_ ?_
  · simp [exN, outR_nil]
  · rintro k S hlt hw hc ⟨f2, f3, f4, f5, f8, f23, f24, o0, o1, o2, o3, vN, o256, ho⟩
    obtain ⟨x1, x2⟩ := ok.rn _ (nth_mem hlt)
    obtain ⟨x, hx⟩ := Int.eq_ofNat_of_zero_le x1
    have hx2 : x < g.nodes.length := by omega
    have z := exN_len (g := g) (p := p) (k := k) (by omega)
    have zs := exN_succ (g := g) hlt
    rw [hx, Int.toNat_natCast] at zs
    have ho0 := ho
    rcases ho with ⟨a1, _, a3⟩ | ⟨a1, ga, a3, a4⟩
    all_goals
      cases a3
      simp [dw0, dw1, dw2, dw3, f2, f3, f4, f5, f8, f23, f24, o0, o1, o2, o3, o256, hc, hlt, drop_nth hlt, hx, hx2, drop_nth hx2]
      refine kApp_grow (ts := [.int .i64 (nth g.nodes x)]) rfl (ho0.keep fun g => by simp) (by omega) rfl (by omega) (by omega) fun E hE hob hcnt => ?_
      obtain ⟨w, hu⟩ := hE.one
      rw [hu] at hE
      simp [dw0, dw1, dw2, dw3, f2, f3, f4, f5, f8, f23, f24, o0, o1, o2, o3, o256, hc, hob, hu]
      refine ⟨rfl, ?_⟩
      simp [f2, f3, f4, f5, f8, f23, f24, o0, o1, o2, o3, o256, hc, hw, hob, hu, zs]
      exact outR.keep (by simpa using hE) fun g => by simp
  · rintro S hc ⟨f2, f3, f4, f5, f8, f23, f24, o0, o1, o2, o3, vN, o256, ho⟩
    rw [exN_all] at ho
    simp [f2, f3, f4, f5, f8, f23, f24, o0, o1, o2, o3, o256, hc]
    refine loopW_count 43 p.edges.length (fun k S => S.fr 2 = .one (.ptr (0, 0) 0) ∧ S.fr 3 = .one (.ptr (1, 0) 0) ∧ S.fr 4 = .one (.ptr (2, 0) 0) ∧ S.fr 5 = .one (.ptr (3, 0) 0) ∧ S.fr 8 = .one (.ptr (256, 0) 0) ∧ S.fr 41 = .one (.t (ints p.edges)) ∧ S.fr 42 = .one (.t (.int .i64 p.edges.length)) ∧
      S.ob (0, 0) = some (bx 25 (g.v.2.map .t)) ∧ S.ob (1, 0) = some (bx 63 (p.v.2.map .t)) ∧ S.ob (2, 0) = some (bx 25 [.nil, .nil]) ∧ S.ob (3, 0) = some (bx 27 [.nil, .nil]) ∧
      outR 520 3 1 (exG g p).nodes.length ((exG g p).nodes.map (.int .i64)) S.ob (.one vN) ∧
      ∃ vE, S.ob (256, 0) = some (bx 25 [vN, vE]) ∧ outR 1028 76 3 (exE g p k).length (edL (exE g p k)) S.ob (.one vE)) (by omega) ?_ ?_ ?_
    · simp [f2, f3, f4, f5, f8, o0, o1, o2, o3, o256, exE, edL, outR_nil]
      simpa using ho
    · rintro k S hlt hw hc ⟨f2, f3, f4, f5, f8, f41, f42, o0, o1, o2, o3, hN, vE, o256, ho⟩
      obtain ⟨x1, x2⟩ := ok.re _ (nth_mem hlt)
      obtain ⟨d1, d2⟩ := ok.de _ (nth_mem hlt)
      obtain ⟨x, hx⟩ := Int.eq_ofNat_of_zero_le x1
      rw [hx, Int.toNat_natCast] at d1 d2
      have hx2 : x < g.edges.length := by omega
      have hx3 : x * 3 < g.edges.length * 3 := by omega
      have z := exE_len (g := g) (p := p) (k := k) (by omega)
      have zs := exE_succ (g := g) hlt
      have zd : exD g p (nth p.edges k) = ⟨(eth g.edges x).t, idx p.nodes (eth g.edges x).f, idx p.nodes (eth g.edges x).g⟩ := by simp [exD, hx]
      have s1 := bs_idx ok.an d1
      have s2 := bs_idx ok.an d2
      have ho0 := ho
      rcases ho with ⟨a1, _, a3⟩ | ⟨a1, ga, a3, a4⟩
      all_goals
        cases a3
        simp [f2, f3, f4, f5, f8, f41, f42, o0, o1, o2, o3, o256, hc, hlt, drop_nth hlt, hx, hx2, hx3, drop_edL hx2]
        refine callS_tree (bsearch_ok p.nodes (eth g.edges x).f tp.1 ok.an) ?_ ?_ ?_
        · rfl
        · rfl
        simp [f2, f3, f4, f5, f8, f41, f42, o0, o1, o2, o3, o256, hc, s1]
        refine callS_tree (bsearch_ok p.nodes (eth g.edges x).g tp.1 ok.an) ?_ ?_ ?_
        · rfl
        · rfl
        simp [f2, f3, f4, f5, f8, f41, f42, o0, o1, o2, o3, o256, hc, s2]
        refine kApp_grow (ts := edC ⟨(eth g.edges x).t, idx p.nodes (eth g.edges x).f, idx p.nodes (eth g.edges x).g⟩) rfl (ho0.keep fun g => by simp) (by omega) rfl (by omega) (by omega) fun E hE hob hcnt => ?_
        obtain ⟨w, hu⟩ := hE.one
        rw [hu] at hE
        have hN2 := hN.keep (ob' := E.ob) fun g => by rw [hob _ _ (by decide)]; simp
        simp [f2, f3, f4, f5, f8, f41, f42, o0, o1, o2, o3, o256, hc, hw, hob, hu, zs, zd]
        exact ⟨outR.keep (by simpa using hN2) fun g => by simp, outR.keep (by simpa [edL, Nat.add_assoc] using hE) fun g => by simp⟩
    · rintro S hc ⟨f2, f3, f4, f5, f8, f41, f42, o0, o1, o2, o3, hN, vE, o256, ho⟩
      rw [exE_all] at ho
      rw [e, exT]
      generalize exG g p = X at hN ho ⊢
      rcases hN with ⟨n1, n2, n3⟩ | ⟨n1, gg, n3, n4⟩ <;> rcases ho with ⟨m1, m2, m3⟩ | ⟨m1, gg', m3, m4⟩
      all_goals
        cases n3
        cases m3
        simp [dw0, dw1, dw2, dw3, f2, f3, f4, f5, f8, f41, f42, o0, o1, o2, o3, o256, hc]
        refine dCall_ok (clone_row p.nodes tp.1).ok ?_ ?_ ?_
        · rfl
        · rfl
        simp [dw0, dw1, dw2, dw3, f2, f3, f4, f5, f8, f41, f42, o0, o1, o2, o3, o256, hc]
        refine dCall_ok (clone_row p.edges tp.2).ok ?_ ?_ ?_
        · rfl
        · rfl
      · have x1 : X.nodes = [] := List.eq_nil_of_length_eq_zero (by omega)
        have x2 : X.edges = [] := List.eq_nil_of_length_eq_zero (by omega)
        simp [dw0, dw1, dw2, dw3, f2, f3, f4, f5, f8, f41, f42, o0, o1, o2, o3, o256, hc, x1, x2, edL]
        rfl
      · have x1 : X.nodes = [] := List.eq_nil_of_length_eq_zero (by omega)
        simp [dw0, dw1, dw2, dw3, f2, f3, f4, f5, f8, f41, f42, o0, o1, o2, o3, o256, hc, x1, m4, edL, untreeT, untreeI]
        rfl
      · have x2 : X.edges = [] := List.eq_nil_of_length_eq_zero (by omega)
        simp [dw0, dw1, dw2, dw3, f2, f3, f4, f5, f8, f41, f42, o0, o1, o2, o3, o256, hc, x2, n4, edL, untreeT, untreeI]
        rfl
      · simp [dw0, dw1, dw2, dw3, f2, f3, f4, f5, f8, f41, f42, o0, o1, o2, o3, o256, hc, n4, m4, untreeT, untreeI]
        rfl
end Go.Proofs.YthcnpnogfblkcaaGreat

/- Contract: initial pushouts (program). -/
namespace Go.Proofs.YthcnpnogfblkcaaGreat
open Abs
set_option linter.unusedSimpArgs false
set_option linter.unusedVariables false

/-! ### Rows in a pair that is handed over -/
def outF (nm typ esz n : Nat) (cs : List Abs.C) (ob : Nm → Option Ob) (v : AV) : Prop :=
  (n = 0 ∧ cs = [] ∧ v = .one .nil) ∨ (0 < n ∧ ∃ g, v = .one (.row (nm, g)) ∧ ob (nm, g) = some ⟨true, true, true, esz, n, typ, cs.map .t⟩)
theorem outF.keep {nm typ esz n : Nat} {cs : List Abs.C} {ob ob' : Nm → Option Ob} {v : AV} (h : outF nm typ esz n cs ob v) (ho : ∀ g, ob' (nm, g) = ob (nm, g)) : outF nm typ esz n cs ob' v := by
  rcases h with h | ⟨h1, g, h2, h3⟩
  · exact .inl h
  · exact .inr ⟨h1, g, h2, by rw [ho]; exact h3⟩
theorem outF.treeC {nm typ esz n : Nat} {cs : List Abs.C} {ob : Nm → Option Ob} {u : V1} (h : outF nm typ esz n cs ob (.one u)) (fr : Nat → AV) (cnt : Nat → Nat) : treeCell ⟨fr, ob, cnt⟩ u = some (.sl n cs) := by
  rcases h with ⟨rfl, rfl, h3⟩ | ⟨h1, g, h3, h4⟩
  · cases h3
    rfl
  · cases h3
    exact treeCell_row h4
theorem argTree_two {S : St} {u v : V1} : argTree S (.agg [u, v]) = (treeCell S u).bind fun c => (treeCell S v).map fun d => (true, [c, d]) := by
  cases h1 : treeCell S u <;> cases h2 : treeCell S v <;> simp [argTree, treeCells, h1, h2]
theorem still_two {S : St} {u v : V1} : AV.still S (.agg [u, v]) = (u.still S && (v.still S && true)) := Eq.trans rfl rfl
theorem still_nil {S : St} : V1.still S .nil = true := Eq.trans rfl rfl
theorem still_row {fr : Nat → AV} {ob : Nm → Option Ob} {cnt : Nat → Nat} {o : Nm} {esz n typ : Nat} {cs : List V1} (h : ob o = some ⟨true, true, true, esz, n, typ, cs⟩) : V1.still ⟨fr, ob, cnt⟩ (.row o) = true := by simp [V1.still, St.live, h]
theorem callS_part {P : Program} {f : FuncId} {x : AV} {tx : TV} {v1 v2 : V1} {n1 n2 t1 t2 k1 k2 e1 e2 : Nat} {a b : List Abs.C} {r : TR} {ob : Nm → Option Ob} {cnt : Nat → Nat} {R : AV → (Nm → Option Ob) → (Nat → Nat) → Prop}
    (h : CallOK P f [tx, (true, [.sl n1 a, .sl n2 b])] r) (hx : ∀ ob cnt, argTree ⟨fun _ => .undef, ob, cnt⟩ x = some tx ∧ x.still ⟨fun _ => .undef, ob, cnt⟩ = true)
    (h1 : outR k1 t1 e1 n1 a ob (.one v1)) (h2 : outR k2 t2 e2 n2 b ob (.one v2)) (hd : k1 ≠ k2)
    (hR : ∀ ob', outF k1 t1 e1 n1 a ob' (.one v1) → outF k2 t2 e2 n2 b ob' (.one v2) → (∀ nm g, nm ≠ k1 → nm ≠ k2 → ob' (nm, g) = ob (nm, g)) → R r.av ob' cnt) : CallS P f [x, .agg [v1, v2]] ob cnt R := by
  have hx1 := fun ob => (hx ob cnt).1
  have hx2 := fun ob => (hx ob cnt).2
  have fin : ∀ ob', outF k1 t1 e1 n1 a ob' (.one v1) → outF k2 t2 e2 n2 b ob' (.one v2) → (∀ nm g, nm ≠ k1 → nm ≠ k2 → ob' (nm, g) = ob (nm, g)) → CallS P f [x, .agg [v1, v2]] ob' cnt R := by
    intro ob' g1 g2 g3
    refine callS_tree h ?_ ?_ (hR ob' g1 g2 g3)
    · simp [argTrees, hx1, argTree_two, g1.treeC, g2.treeC]
    · have s1 : V1.still ⟨fun _ => .undef, ob', cnt⟩ v1 = true := by
        rcases g1 with ⟨_, _, q⟩ | ⟨_, g, q, q'⟩ <;> cases q
        · exact still_nil
        · exact still_row q'
      have s2 : V1.still ⟨fun _ => .undef, ob', cnt⟩ v2 = true := by
        rcases g2 with ⟨_, _, q⟩ | ⟨_, g, q, q'⟩ <;> cases q
        · exact still_nil
        · exact still_row q'
      simp [hx2, still_two, s1, s2]
  rcases h1 with ⟨p1, p2, p3⟩ | ⟨p1, g1, p3, o1⟩ <;> rcases h2 with ⟨q1, q2, q3⟩ | ⟨q1, g2, q3, o2⟩
  · exact fin ob (.inl ⟨p1, p2, p3⟩) (.inl ⟨q1, q2, q3⟩) fun _ _ _ _ => rfl
  · refine callS_freeze [(k2, g2)] (fin _ (.inl ⟨p1, p2, p3⟩) (.inr ⟨q1, g2, q3, ?_⟩) fun nm g e1 e2 => ?_)
    · simp [frzAll, frzOne, o2, upd_same]
    · have : (nm, g) ≠ (k2, g2) := fun e => e2 (by cases e; rfl)
      simp [frzAll, frzOne, o2, upd_ne _ _ this]
  · refine callS_freeze [(k1, g1)] (fin _ (.inr ⟨p1, g1, p3, ?_⟩) (.inl ⟨q1, q2, q3⟩) fun nm g e1 e2 => ?_)
    · simp [frzAll, frzOne, o1, upd_same]
    · have : (nm, g) ≠ (k1, g1) := fun e => e1 (by cases e; rfl)
      simp [frzAll, frzOne, o1, upd_ne _ _ this]
  · have hne : (k2, g2) ≠ (k1, g1) := fun e => hd (by cases e; rfl)
    have hne' : (k1, g1) ≠ (k2, g2) := fun e => hne e.symm
    have w1 : frzAll [(k1, g1), (k2, g2)] ob = upd (upd ob (k1, g1) (some ⟨true, true, true, e1, n1, t1, a.map .t⟩)) (k2, g2) (some ⟨true, true, true, e2, n2, t2, b.map .t⟩) := by
      simp [frzAll, frzOne, o1, upd_ne _ _ hne, o2]
    refine callS_freeze [(k1, g1), (k2, g2)] ?_
    rw [w1]
    refine fin _ (.inr ⟨p1, g1, p3, ?_⟩) (.inr ⟨q1, g2, q3, ?_⟩) fun nm g f1 f2 => ?_
    · rw [upd_ne _ _ hne', upd_same]
    · rw [upd_same]
    · have f1 : (nm, g) ≠ (k1, g1) := fun e => f1 (by cases e; rfl)
      have f2 : (nm, g) ≠ (k2, g2) := fun e => f2 (by cases e; rfl)
      rw [upd_ne _ _ f2, upd_ne _ _ f1]

/-! ### What the initial pushout is made of -/
def bnS (m : Pa) (l : List Int) (x : Int) : List Int := if 0 ≤ idx m.nodes x ∧ idx m.nodes x ∉ l then l ++ [idx m.nodes x] else l
def bnU (m : Pa) (b : Gr) : Nat → List Int
  | 0 => []
  | k + 1 => if (k : Int) ∈ m.edges then bnU m b k else bnS m (bnS m (bnU m b k) (eth b.edges k).f) (eth b.edges k).g
theorem bnS_len {m : Pa} {l : List Int} {x : Int} : (bnS m l x).length ≤ l.length + 1 := by
  unfold bnS
  split <;> simp
theorem bnU_len {m : Pa} {b : Gr} : ∀ k, (bnU m b k).length ≤ 2 * k
  | 0 => by simp [bnU]
  | k + 1 => by
    have ih := bnU_len (m := m) (b := b) k
    unfold bnU
    split
    · omega
    · have h1 := bnS_len (m := m) (l := bnU m b k) (x := (eth b.edges k).f)
      have h2 := bnS_len (m := m) (l := bnS m (bnU m b k) (eth b.edges k).f) (x := (eth b.edges k).g)
      omega
def bndL (m : Pa) (b : Gr) : List Int := (bnU m b b.edges.length).mergeSort fun x y => decide (x ≤ y)
def cxF (m : Pa) (k : Nat) : Option Int := if (k : Int) ∈ m.edges then none else some (k : Int)
def cxL (m : Pa) (b : Gr) : List Int := collect (cxF m) b.edges.length
def cnF (m : Pa) (B : List Int) (k : Nat) : Option Int := if idx m.nodes k < 0 ∨ idx m.nodes k ∈ B then some (k : Int) else none
def cnL (m : Pa) (b : Gr) : List Int := collect (cnF m (bndL m b)) b.nodes.length
def inK (m : Pa) (b : Gr) (k : Nat) : List Int := ((bndL m b).take k).map fun i => idx (cnL m b) (nth m.nodes i.toNat)
def inG (m : Pa) (b : Gr) : List Int := (bndL m b).map fun i => idx (cnL m b) (nth m.nodes i.toNat)
theorem inK_succ {m : Pa} {b : Gr} {k : Nat} (h : k < (bndL m b).length) : inK m b (k + 1) = inK m b k ++ [idx (cnL m b) (nth m.nodes (nth (bndL m b) k).toNat)] := by
  rw [inK, take_succ_nth' h]
  simp [inK]
theorem inK_all {m : Pa} {b : Gr} : inK m b (bndL m b).length = inG m b := by simp [inK, inG]
theorem inK_len {m : Pa} {b : Gr} {k : Nat} (h : k ≤ (bndL m b).length) : (inK m b k).length = k := by simp [inK]; omega
def inB (m : Pa) (b : Gr) : Pa := ⟨bndL m b, []⟩
def inC (m : Pa) (b : Gr) : Pa := ⟨cnL m b, cxL m b⟩
/-- The initial pushout over an injective morphism. -/
def inS (a b : Gr) (m : Pa) : Sq := ⟨exG a (inB m b), a, exG b (inC m b), b, inB m b, ⟨inG m b, []⟩, m, inC m b⟩
def noS : Sq := ⟨⟨[], []⟩, ⟨[], []⟩, ⟨[], []⟩, ⟨[], []⟩, ⟨[], []⟩, ⟨[], []⟩, ⟨[], []⟩, ⟨[], []⟩⟩
def inE (a b : Gr) (m : Pa) : Int := if morErr a b m = 0 then if injB a b m = true then 0 else 15 else morErr a b m
def inR (a b : Gr) (m : Pa) : Sq × Int := if inE a b m = 0 then (inS a b m, 0) else (noS, inE a b m)
def sqT (x : Sq × Int) : TR := .tup [x.1.v, (false, [.int .i64 x.2])]

theorem idx_lt {l : List Int} {x : Int} (h : x ∈ l) : 0 ≤ idx l x ∧ idx l x < l.length ∧ nth l (idx l x).toNat = x := by
  have h1 : l.idxOf x < l.length := List.idxOf_lt_length_iff.2 h
  simp only [idx, if_pos h, Int.toNat_natCast]
  refine ⟨by omega, by omega, ?_⟩
  rw [nth_eq h1, List.getElem_idxOf]
theorem idx_neg {l : List Int} {x : Int} : idx l x < 0 ↔ x ∉ l := by
  unfold idx
  split
  · exact ⟨fun h => by omega, fun h => absurd (by assumption) h⟩
  · exact ⟨fun _ => by assumption, fun _ => by omega⟩
theorem bnS_mem {m : Pa} {l : List Int} {x y : Int} : y ∈ bnS m l x ↔ y ∈ l ∨ (0 ≤ y ∧ y = idx m.nodes x) := by
  unfold bnS
  split
  · rename_i h
    simp only [List.mem_append, List.mem_singleton]
    exact ⟨fun h' => h'.imp id fun e => ⟨by rw [e]; exact h.1, e⟩, fun h' => h'.imp id fun e => e.2⟩
  · rename_i h
    refine ⟨.inl, fun h' => h'.elim id fun e => ?_⟩
    rcases e with ⟨e1, rfl⟩
    by_cases e3 : idx m.nodes x ∈ l
    · exact e3
    · exact absurd ⟨e1, e3⟩ h
theorem bnS_nodup {m : Pa} {l : List Int} {x : Int} (h : l.Nodup) : (bnS m l x).Nodup := by
  unfold bnS
  split
  · rename_i h'
    rw [List.nodup_append]
    refine ⟨h, by simp, fun a ha b hb => ?_⟩
    simp only [List.mem_singleton] at hb
    subst hb
    exact fun e => h'.2 (e ▸ ha)
  · exact h
theorem bnU_nodup {m : Pa} {b : Gr} : ∀ k, (bnU m b k).Nodup
  | 0 => by simp [bnU]
  | k + 1 => by
    unfold bnU
    split
    · exact bnU_nodup k
    · exact bnS_nodup (bnS_nodup (bnU_nodup k))
theorem bnU_mem {m : Pa} {b : Gr} {y : Int} : ∀ {k : Nat}, y ∈ bnU m b k ↔ ∃ i : Nat, i < k ∧ (i : Int) ∉ m.edges ∧ 0 ≤ y ∧ (y = idx m.nodes (eth b.edges i).f ∨ y = idx m.nodes (eth b.edges i).g)
  | 0 => by simp [bnU]
  | k + 1 => by
    have ih := bnU_mem (m := m) (b := b) (y := y) (k := k)
    unfold bnU
    split
    · rename_i h
      rw [ih]
      refine ⟨fun ⟨i, h1, h2⟩ => ⟨i, by omega, h2⟩, fun ⟨i, h1, h2, h3⟩ => ⟨i, ?_, h2, h3⟩⟩
      rcases Nat.lt_or_ge i k with e | e
      · exact e
      · have : i = k := by omega
        subst this
        exact absurd h h2
    · rename_i h
      rw [bnS_mem, bnS_mem, ih]
      constructor
      · rintro ((⟨i, h1, h2⟩ | ⟨h1, h2⟩) | ⟨h1, h2⟩)
        · exact ⟨i, by omega, h2⟩
        · exact ⟨k, by omega, h, h1, .inl h2⟩
        · exact ⟨k, by omega, h, h1, .inr h2⟩
      · rintro ⟨i, h1, h2, h3, h4⟩
        rcases Nat.lt_or_ge i k with e | e
        · exact .inl (.inl ⟨i, e, h2, h3, h4⟩)
        · have : i = k := by omega
          subst this
          rcases h4 with h4 | h4
          · exact .inl (.inr ⟨h3, h4⟩)
          · exact .inr ⟨h3, h4⟩
theorem bndL_mem {m : Pa} {b : Gr} {y : Int} : y ∈ bndL m b ↔ y ∈ bnU m b b.edges.length := (List.mergeSort_perm ..).mem_iff
theorem bndL_asc {m : Pa} {b : Gr} : (bndL m b).Pairwise (· < ·) := by
  have h1 : (bndL m b).Pairwise fun x y => decide (x ≤ y) = true := List.pairwise_mergeSort (fun a b c h1 h2 => by simp at *; omega) (fun a b => by simp; omega) _
  have h2 : (bndL m b).Nodup := (List.mergeSort_perm ..).nodup_iff.2 (bnU_nodup _)
  refine (h1.and h2).imp fun {x y} h => ?_
  have := h.1
  have := h.2
  simp at *
  omega
theorem bndL_in {m : Pa} {b : Gr} {y : Int} (h : y ∈ bndL m b) : 0 ≤ y ∧ y < m.nodes.length := by
  rw [bndL_mem, bnU_mem] at h
  obtain ⟨i, _, _, h1, h2⟩ := h
  refine ⟨h1, ?_⟩
  have key : ∀ x, 0 ≤ idx m.nodes x → idx m.nodes x < m.nodes.length := fun x h => by
    by_cases e : x ∈ m.nodes
    · exact (idx_lt e).2.1
    · have := idx_neg.2 e
      omega
  rcases h2 with rfl | rfl
  · exact key _ h1
  · exact key _ h1
end Go.Proofs.YthcnpnogfblkcaaGreat

/- Contract: initial pushouts (program, 2). -/
namespace Go.Proofs.YthcnpnogfblkcaaGreat
open Abs
set_option linter.unusedSimpArgs false
set_option linter.unusedVariables false
attribute [local simp] rn0 rn1 rn2 rn3 rn4 rn5 rn6 rn7 evOp nests Arg.ev St.val St.set St.new sliceOf binInt2 binInt AV.cells rdAt St.live retOf resOf resAll treeOf treeCell treeCells treeTups untree frameOf TV.av TR.av ints edgs prs fillV splice intsOf trees V1.tree bx Gr.v Pa.v opRd opWr opNew opNewR opArgs argsRd argRd Arg.rd AV.refs V1.refs refsL dstL

theorem asc_zero {l : List Int} {n : Nat} (ha : Asc l) (hr : ∀ x ∈ l, 0 ≤ x ∧ x < n) : ascErr l n = 0 := fe_zero fun j hj => by
  have h1 := hr _ (nth_mem hj)
  have h2 : ¬ nth l j < 0 := by omega
  have h3 : ¬ (n : Int) ≤ nth l j := by omega
  have h4 : ¬ (0 < j ∧ nth l j ≤ nth l (j - 1)) := fun h => by
    have := ha (j - 1) j (by omega) hj
    omega
  simp only [ascF, if_neg h2, if_neg h3, if_neg h4]
theorem sub_zero {g : Gr} {p : Pa} (h0 : gErr g = 0) (an : Asc p.nodes) (ae : Asc p.edges) (rn : ∀ x ∈ p.nodes, 0 ≤ x ∧ x < g.nodes.length) (re : ∀ x ∈ p.edges, 0 ≤ x ∧ x < g.edges.length)
    (de : ∀ x ∈ p.edges, (eth g.edges x.toNat).f ∈ p.nodes ∧ (eth g.edges x.toNat).g ∈ p.nodes) : subErr g p = 0 := by
  rw [subErr, if_pos h0, partErr, if_pos (asc_zero an rn), if_pos (asc_zero ae re)]
  refine fe_zero fun j hj => ?_
  rw [danF, if_pos (de _ (nth_mem hj))]
theorem mor_g {a b : Gr} {m : Pa} (h : morErr a b m = 0) : gErr a = 0 ∧ gErr b = 0 := by
  unfold morErr at h
  split at h
  · split at h
    · exact ⟨by assumption, by assumption⟩
    · exact absurd h (by assumption)
  · exact absurd h (by assumption)
theorem collect_asc {f : Nat → Option Int} (hf : ∀ k x, f k = some x → x = k) : ∀ {n : Nat}, (collect f n).Pairwise (· < ·)
  | 0 => List.Pairwise.nil
  | n + 1 => by
    have ih := collect_asc hf (n := n)
    cases h : f n with
    | none => rw [collect_none h]; exact ih
    | some x =>
      rw [collect_some h, List.pairwise_append]
      refine ⟨ih, by simp, fun a ha b hb => ?_⟩
      obtain ⟨j, hj, hj'⟩ := mem_collect.1 ha
      have h1 := hf _ _ hj'
      have h2 := hf _ _ h
      simp only [List.mem_singleton] at hb
      omega
theorem cxF_eq (m : Pa) : ∀ k x, cxF m k = some x → x = k := fun k x h => by
  unfold cxF at h
  split at h
  · cases h
  · injection h with h; exact h.symm
theorem cnF_eq (m : Pa) (B : List Int) : ∀ k x, cnF m B k = some x → x = k := fun k x h => by
  unfold cnF at h
  split at h
  · injection h with h; exact h.symm
  · cases h
theorem cx_mem {m : Pa} {b : Gr} {x : Int} : x ∈ cxL m b ↔ ∃ i : Nat, x = i ∧ i < b.edges.length ∧ (i : Int) ∉ m.edges := by
  rw [cxL, mem_collect]
  constructor
  · rintro ⟨j, hj, h⟩
    have := cxF_eq m _ _ h
    unfold cxF at h
    split at h
    · cases h
    · exact ⟨j, this, hj, by assumption⟩
  · rintro ⟨i, rfl, h1, h2⟩
    exact ⟨i, h1, by simp [cxF, h2]⟩
theorem cn_mem {m : Pa} {b : Gr} {x : Int} : x ∈ cnL m b ↔ ∃ i : Nat, x = i ∧ i < b.nodes.length ∧ (x ∉ m.nodes ∨ idx m.nodes x ∈ bndL m b) := by
  rw [cnL, mem_collect]
  constructor
  · rintro ⟨j, hj, h⟩
    have := cnF_eq m _ _ _ h
    unfold cnF at h
    split at h
    · rename_i h'
      rw [idx_neg] at h'
      exact ⟨j, this, hj, this ▸ h'⟩
    · cases h
  · rintro ⟨i, rfl, h1, h2⟩
    rw [← idx_neg] at h2
    exact ⟨i, h1, by simp only [cnF, if_pos h2]⟩
theorem end_in {m : Pa} {b : Gr} {i : Nat} (gb : GrOk b) (hi : i < b.edges.length) (hm : (i : Int) ∉ m.edges) : (eth b.edges i).f ∈ cnL m b ∧ (eth b.edges i).g ∈ cnL m b := by
  obtain ⟨_, _, g1, g2, g3, g4⟩ := gb.edges _ (eth_mem hi)
  obtain ⟨x, hx⟩ := Int.eq_ofNat_of_zero_le g1
  obtain ⟨y, hy⟩ := Int.eq_ofNat_of_zero_le g3
  have key : ∀ e : Int, (e = (eth b.edges i).f ∨ e = (eth b.edges i).g) → e ∉ m.nodes ∨ idx m.nodes e ∈ bndL m b := fun e he => by
    by_cases h : e ∈ m.nodes
    · refine .inr (bndL_mem.2 (bnU_mem.2 ⟨i, hi, hm, (idx_lt h).1, ?_⟩))
      rcases he with rfl | rfl
      · exact .inl rfl
      · exact .inr rfl
    · exact .inl h
  exact ⟨cn_mem.2 ⟨x, hx, by omega, key _ (.inl rfl)⟩, cn_mem.2 ⟨y, hy, by omega, key _ (.inr rfl)⟩⟩
theorem inB_ok {a b : Gr} {m : Pa} (h0 : gErr a = 0) (hl : m.nodes.length = a.nodes.length) : subErr a (inB m b) = 0 :=
  sub_zero h0 (asc_iff.2 bndL_asc) (fun i j _ h => absurd h (by simp [inB])) (fun x hx => by have := bndL_in hx; omega) (fun x hx => by simp [inB] at hx) (fun x hx => by simp [inB] at hx)
theorem inC_ok {b : Gr} {m : Pa} (h0 : gErr b = 0) : subErr b (inC m b) = 0 := by
  have gb := gErr_ok h0
  refine sub_zero h0 (asc_iff.2 (collect_asc (cnF_eq m _))) (asc_iff.2 (collect_asc (cxF_eq m))) (fun x hx => ?_) (fun x hx => ?_) (fun x hx => ?_)
  · obtain ⟨i, rfl, h1, _⟩ := cn_mem.1 hx
    omega
  · obtain ⟨i, rfl, h1, _⟩ := cx_mem.1 hx
    omega
  · obtain ⟨i, rfl, h1, h2⟩ := cx_mem.1 hx
    exact end_in gb h1 h2

theorem Abs.outR.outL {nm typ esz n : Nat} {cs : List Abs.C} {ob : Nm → Option Ob} {v : AV} (h : outR nm typ esz n cs ob v) : Abs.outL [nm] typ esz n cs ob v := by
  rcases h with ⟨h1, h2, h3⟩ | ⟨h1, g, h3, h4⟩
  · exact .inl ⟨h1, h2, h3⟩
  · exact .inr ⟨h1, nm, by simp, g, h3, h4⟩
theorem Abs.outL.outR {nm typ esz n : Nat} {cs : List Abs.C} {ob : Nm → Option Ob} {v : AV} (h : Abs.outL [nm] typ esz n cs ob v) : outR nm typ esz n cs ob v := by
  rcases h with ⟨h1, h2, h3⟩ | ⟨h1, nm', hm, g, h3, h4⟩
  · exact .inl ⟨h1, h2, h3⟩
  · simp at hm
    subst hm
    exact .inr ⟨h1, g, h3, h4⟩
theorem argTrees_row {nm typ esz n : Nat} {cs : List Abs.C} {ob : Nm → Option Ob} {u : V1} {c : Abs.C} (h : outR nm typ esz n cs ob (.one u)) (fr : Nat → AV) (cnt : Nat → Nat) : argTrees ⟨fr, ob, cnt⟩ [.one u, .one (.t c)] = some [(false, [.sl n cs]), (false, [c])] := by
  simp only [argTrees, argTree_one, h.treeC fr cnt]
  rfl
theorem argTrees_rowF {nm typ esz n : Nat} {cs : List Abs.C} {ob : Nm → Option Ob} {u : V1} {c : Abs.C} (h : outF nm typ esz n cs ob (.one u)) (fr : Nat → AV) (cnt : Nat → Nat) : argTrees ⟨fr, ob, cnt⟩ [.one u, .one (.t c)] = some [(false, [.sl n cs]), (false, [c])] := by
  simp only [argTrees, argTree_one, h.treeC fr cnt]
  rfl
theorem outR_inK {m : Pa} {b : Gr} {nm typ : Nat} {ob : Nm → Option Ob} : outR nm typ 1 (inK m b 0).length ((inK m b 0).map (.int .i64)) ob (.one .nil) := .inl ⟨by simp [inK], by simp [inK], rfl⟩
def bnV (m : Pa) (l : List Int) (f g : Int) (j : Nat) : List Int := if j = 0 then l else if j = 1 then bnS m l f else bnS m (bnS m l f) g


def c_sInit : MFunc := ⟨172, [.cell 6 true 16, .tmp 7], .seq (.region [⟨some 3, .box 0 25 (.tmp 0), none⟩, ⟨some 4, .box 1 25 (.tmp 1), none⟩, ⟨some 5, .box 2 27 (.tmp 2), none⟩, ⟨some 6, .alloc 3 29 [.nil, .nil, .nil, .nil, .nil, .nil, .nil, .nil, .nil, .nil, .nil, .nil, .nil, .nil, .nil, .nil], none⟩, ⟨some 7, .mv (.c (.one (.t (.int .i64 0)))), none⟩]) (.seq (.seq (.region [⟨some 26, .load true 2 (.tmp 3), none⟩, ⟨some 27, .load true 2 (.tmp 4), none⟩, ⟨some 28, .load true 2 (.tmp 5), none⟩, ⟨some 29, .call (.c (.one (.fn 41 []))) 67 [.tmp 26, .tmp 27, .tmp 28], none⟩, ⟨some 8, .mv (.tmp 29), none⟩]) (.seq (.region [⟨some 30, .mv (.tmp 8), none⟩, ⟨some 31, .bin .neq (.tmp 30) (.c (.one (.t (.int .i64 0)))), none⟩]) (.cond (.tmp 31) (.seq (.region [⟨some 32, .build [.nil, .nil, .nil, .nil, .nil, .nil, .nil, .nil, .nil, .nil, .nil, .nil, .nil, .nil, .nil, .nil] [], none⟩, ⟨some 33, .mv (.tmp 8), none⟩, ⟨none, .store 16 (.tmp 6) (.tmp 32), none⟩, ⟨some 7, .mv (.tmp 33), none⟩]) .ret) .skip))) (.seq (.seq (.region [⟨some 34, .load true 2 (.tmp 3), none⟩, ⟨some 35, .load true 2 (.tmp 4), none⟩, ⟨some 36, .load true 2 (.tmp 5), none⟩, ⟨some 37, .call (.c (.one (.fn 27 []))) 259 [.tmp 34, .tmp 35, .tmp 36], none⟩, ⟨some 38, .not (.tmp 37), none⟩]) (.cond (.tmp 38) (.seq (.region [⟨some 39, .build [.nil, .nil, .nil, .nil, .nil, .nil, .nil, .nil, .nil, .nil, .nil, .nil, .nil, .nil, .nil, .nil] [], none⟩, ⟨none, .store 16 (.tmp 6) (.tmp 39), none⟩, ⟨some 7, .mv (.c (.one (.t (.int .i64 15)))), none⟩]) .ret) .skip)) (.seq (.region [⟨some 9, .alloc 384 63 [.nil, .nil], none⟩, ⟨some 10, .alloc 385 63 [.nil, .nil], none⟩]) (.seq (.seq (.region [⟨some 40, .fieldA 1 (.tmp 4), none⟩, ⟨some 41, .load false 1 (.tmp 40), none⟩, ⟨some 42, .len (.tmp 41), none⟩, ⟨some 43, .mv (.c (.one (.t (.int .i64 0)))), none⟩]) (.block 0 (.loop (.seq (.region [⟨some 44, .bin .lss (.tmp 43) (.tmp 42), none⟩]) (.seq (.cond (.tmp 44) .skip (.exit 0)) (.seq (.block 1 (.seq (.region [⟨some 45, .mv (.tmp 43), none⟩, ⟨some 46, .idxA 3 (.tmp 41) (.tmp 43), none⟩, ⟨some 47, .load true 3 (.tmp 46), none⟩, ⟨some 12, .alloc 579 76 [.t (.int .i64 0), .t (.int .i64 0), .t (.int .i64 0)], none⟩, ⟨some 11, .mv (.tmp 45), none⟩, ⟨none, .store 3 (.tmp 12) (.tmp 47), none⟩]) (.seq (.seq (.region [⟨some 48, .fieldA 1 (.tmp 5), none⟩, ⟨some 49, .load false 1 (.tmp 48), none⟩, ⟨some 50, .mv (.tmp 11), none⟩, ⟨some 51, .call (.c (.one (.fn 32 []))) 643 [.tmp 49, .tmp 50], none⟩]) (.cond (.tmp 51) (.exit 1) .skip)) (.seq (.region [⟨some 52, .fieldA 1 (.tmp 10), none⟩, ⟨some 53, .load false 1 (.tmp 52), none⟩, ⟨some 54, .mv (.tmp 11), none⟩, ⟨some 55, .mkrow 707 3 1 1 [.t (.int .i64 0)] [(0, (1, .tmp 54))], none⟩, ⟨some 56, .append 708 3 1 8 (.tmp 53) (.tmp 55), none⟩, ⟨some 57, .fieldA 1 (.tmp 10), none⟩, ⟨none, .store 1 (.tmp 57) (.tmp 56), none⟩]) (.seq (.region [⟨some 58, .fieldA 1 (.tmp 12), none⟩, ⟨some 59, .load false 1 (.tmp 58), none⟩, ⟨some 60, .fieldA 2 (.tmp 12), none⟩, ⟨some 61, .load false 1 (.tmp 60), none⟩, ⟨some 62, .mkrow 772 3 1 2 [.t (.int .i64 0), .t (.int .i64 0)] [(0, (1, .tmp 59)), (1, (1, .tmp 61))], none⟩, ⟨some 63, .len (.tmp 62), none⟩, ⟨some 64, .mv (.c (.one (.t (.int .i64 0)))), none⟩]) (.block 2 (.loop (.seq (.region [⟨some 65, .bin .lss (.tmp 64) (.tmp 63), none⟩]) (.seq (.cond (.tmp 65) .skip (.exit 2)) (.seq (.block 3 (.seq (.region [⟨some 66, .idxA 1 (.tmp 62) (.tmp 64), none⟩, ⟨some 67, .load false 1 (.tmp 66), none⟩, ⟨some 14, .mv (.tmp 67), none⟩]) (.seq (.region [⟨some 68, .fieldA 0 (.tmp 5), none⟩, ⟨some 69, .load false 1 (.tmp 68), none⟩, ⟨some 70, .mv (.tmp 14), none⟩, ⟨some 71, .call (.c (.one (.fn 31 []))) 963 [.tmp 69, .tmp 70], none⟩, ⟨some 15, .mv (.tmp 71), none⟩]) (.seq (.region [⟨some 72, .mv (.tmp 15), none⟩, ⟨some 73, .bin .geq (.tmp 72) (.c (.one (.t (.int .i64 0)))), none⟩, ⟨some 74, .mv (.tmp 73), none⟩, ⟨some 75, .fieldA 0 (.tmp 9), some (74, true)⟩, ⟨some 76, .load false 1 (.tmp 75), some (74, true)⟩, ⟨some 77, .mv (.tmp 15), some (74, true)⟩, ⟨some 78, .call (.c (.one (.fn 32 []))) 1030 [.tmp 76, .tmp 77], some (74, true)⟩, ⟨some 79, .not (.tmp 78), some (74, true)⟩, ⟨some 80, .pick (.tmp 74) (.tmp 79) (.c (.one (.t (.bool false)))), none⟩]) (.cond (.tmp 80) (.region [⟨some 81, .fieldA 0 (.tmp 9), none⟩, ⟨some 82, .load false 1 (.tmp 81), none⟩, ⟨some 83, .mv (.tmp 15), none⟩, ⟨some 84, .mkrow 1091 3 1 1 [.t (.int .i64 0)] [(0, (1, .tmp 83))], none⟩, ⟨some 85, .append 1092 3 1 8 (.tmp 82) (.tmp 84), none⟩, ⟨some 86, .fieldA 0 (.tmp 9), none⟩, ⟨none, .store 1 (.tmp 86) (.tmp 85), none⟩]) .skip))))) (.region [⟨some 87, .bin .add (.tmp 64) (.c (.one (.t (.int .i64 1)))), none⟩, ⟨some 64, .mv (.tmp 87), none⟩]))))))))))) (.region [⟨some 88, .bin .add (.tmp 43) (.c (.one (.t (.int .i64 1)))), none⟩, ⟨some 43, .mv (.tmp 88), none⟩]))))))) (.seq (.region [⟨some 89, .fieldA 0 (.tmp 9), none⟩, ⟨some 90, .load false 1 (.tmp 89), none⟩, ⟨some 91, .call (.c (.one (.fn 61 []))) 1282 [.tmp 90], none⟩]) (.seq (.seq (.region [⟨some 92, .fieldA 0 (.tmp 4), none⟩, ⟨some 93, .load false 1 (.tmp 92), none⟩, ⟨some 94, .len (.tmp 93), none⟩, ⟨some 95, .mv (.c (.one (.t (.int .i64 0)))), none⟩]) (.block 4 (.loop (.seq (.region [⟨some 96, .bin .lss (.tmp 95) (.tmp 94), none⟩]) (.seq (.cond (.tmp 96) .skip (.exit 4)) (.seq (.block 5 (.seq (.region [⟨some 97, .mv (.tmp 95), none⟩, ⟨some 16, .mv (.tmp 97), none⟩]) (.seq (.region [⟨some 98, .fieldA 0 (.tmp 5), none⟩, ⟨some 99, .load false 1 (.tmp 98), none⟩, ⟨some 100, .mv (.tmp 16), none⟩, ⟨some 101, .call (.c (.one (.fn 31 []))) 1539 [.tmp 99, .tmp 100], none⟩, ⟨some 17, .mv (.tmp 101), none⟩]) (.seq (.region [⟨some 102, .mv (.tmp 17), none⟩, ⟨some 103, .bin .lss (.tmp 102) (.c (.one (.t (.int .i64 0)))), none⟩, ⟨some 104, .mv (.tmp 103), none⟩, ⟨some 105, .fieldA 0 (.tmp 9), some (104, false)⟩, ⟨some 106, .load false 1 (.tmp 105), some (104, false)⟩, ⟨some 107, .mv (.tmp 17), some (104, false)⟩, ⟨some 108, .call (.c (.one (.fn 32 []))) 1606 [.tmp 106, .tmp 107], some (104, false)⟩, ⟨some 109, .pick (.tmp 104) (.c (.one (.t (.bool true)))) (.tmp 108), none⟩]) (.cond (.tmp 109) (.region [⟨some 110, .fieldA 0 (.tmp 10), none⟩, ⟨some 111, .load false 1 (.tmp 110), none⟩, ⟨some 112, .mv (.tmp 16), none⟩, ⟨some 113, .mkrow 1667 3 1 1 [.t (.int .i64 0)] [(0, (1, .tmp 112))], none⟩, ⟨some 114, .append 1668 3 1 8 (.tmp 111) (.tmp 113), none⟩, ⟨some 115, .fieldA 0 (.tmp 10), none⟩, ⟨none, .store 1 (.tmp 115) (.tmp 114), none⟩]) .skip))))) (.region [⟨some 116, .bin .add (.tmp 95) (.c (.one (.t (.int .i64 1)))), none⟩, ⟨some 95, .mv (.tmp 116), none⟩]))))))) (.seq (.region [⟨some 118, .load true 2 (.tmp 3), none⟩, ⟨some 119, .load true 2 (.tmp 9), none⟩, ⟨some 120, .call (.c (.one (.fn 62 []))) 1794 [.tmp 118, .tmp 119], none⟩, ⟨some 117, .mv (.tmp 120), none⟩, ⟨some 121, .extract (.tmp 117) 0, none⟩, ⟨some 122, .extract (.tmp 117) 1, none⟩, ⟨some 123, .extract (.tmp 117) 2, none⟩, ⟨some 18, .alloc 1799 25 [.nil, .nil], none⟩, ⟨some 19, .alloc 1800 27 [.nil, .nil], none⟩, ⟨none, .store 2 (.tmp 18) (.tmp 121), none⟩, ⟨none, .store 2 (.tmp 19) (.tmp 122), none⟩, ⟨some 20, .mv (.tmp 123), none⟩]) (.seq (.seq (.region [⟨some 124, .mv (.tmp 20), none⟩, ⟨some 125, .bin .neq (.tmp 124) (.c (.one (.t (.int .i64 0)))), none⟩]) (.cond (.tmp 125) (.seq (.region [⟨some 126, .build [.nil, .nil, .nil, .nil, .nil, .nil, .nil, .nil, .nil, .nil, .nil, .nil, .nil, .nil, .nil, .nil] [], none⟩, ⟨some 127, .mv (.tmp 20), none⟩, ⟨none, .store 16 (.tmp 6) (.tmp 126), none⟩, ⟨some 7, .mv (.tmp 127), none⟩]) .ret) .skip)) (.seq (.region [⟨some 129, .load true 2 (.tmp 4), none⟩, ⟨some 130, .load true 2 (.tmp 10), none⟩, ⟨some 131, .call (.c (.one (.fn 62 []))) 1986 [.tmp 129, .tmp 130], none⟩, ⟨some 128, .mv (.tmp 131), none⟩, ⟨some 132, .extract (.tmp 128) 0, none⟩, ⟨some 133, .extract (.tmp 128) 1, none⟩, ⟨some 134, .extract (.tmp 128) 2, none⟩, ⟨some 21, .alloc 1991 25 [.nil, .nil], none⟩, ⟨some 22, .alloc 1992 27 [.nil, .nil], none⟩, ⟨none, .store 2 (.tmp 21) (.tmp 132), none⟩, ⟨none, .store 2 (.tmp 22) (.tmp 133), none⟩, ⟨some 20, .mv (.tmp 134), none⟩]) (.seq (.seq (.region [⟨some 135, .mv (.tmp 20), none⟩, ⟨some 136, .bin .neq (.tmp 135) (.c (.one (.t (.int .i64 0)))), none⟩]) (.cond (.tmp 136) (.seq (.region [⟨some 137, .build [.nil, .nil, .nil, .nil, .nil, .nil, .nil, .nil, .nil, .nil, .nil, .nil, .nil, .nil, .nil, .nil] [], none⟩, ⟨some 138, .mv (.tmp 20), none⟩, ⟨none, .store 16 (.tmp 6) (.tmp 137), none⟩, ⟨some 7, .mv (.tmp 138), none⟩]) .ret) .skip)) (.seq (.region [⟨some 23, .alloc 2176 27 [.nil, .nil], none⟩]) (.seq (.seq (.region [⟨some 139, .fieldA 0 (.tmp 9), none⟩, ⟨some 140, .load false 1 (.tmp 139), none⟩, ⟨some 141, .len (.tmp 140), none⟩, ⟨some 142, .mv (.c (.one (.t (.int .i64 0)))), none⟩]) (.block 6 (.loop (.seq (.region [⟨some 143, .bin .lss (.tmp 142) (.tmp 141), none⟩]) (.seq (.cond (.tmp 143) .skip (.exit 6)) (.seq (.block 7 (.seq (.region [⟨some 144, .idxA 1 (.tmp 140) (.tmp 142), none⟩, ⟨some 145, .load false 1 (.tmp 144), none⟩, ⟨some 25, .mv (.tmp 145), none⟩]) (.draw [[], [0], [], [2], [], [4], [], [5, 6], [7], [3, 8], [9], [1, 10, 9], [0, 1, 2, 3, 4, 5, 6, 7, 8, 9, 10, 11], [12, 11, 11, 0, 1, 2, 3, 4, 5, 6, 7, 8, 9, 10, 11]] [⟨some 146, .fieldA 0 (.tmp 23), none⟩, ⟨some 147, .load false 1 (.tmp 146), none⟩, ⟨some 148, .fieldA 0 (.tmp 10), none⟩, ⟨some 149, .load false 1 (.tmp 148), none⟩, ⟨some 150, .fieldA 0 (.tmp 5), none⟩, ⟨some 151, .load false 1 (.tmp 150), none⟩, ⟨some 152, .mv (.tmp 25), none⟩, ⟨some 153, .idxA 1 (.tmp 151) (.tmp 152), none⟩, ⟨some 154, .load false 1 (.tmp 153), none⟩, ⟨some 155, .call (.c (.one (.fn 31 []))) 2441 [.tmp 149, .tmp 154], none⟩, ⟨some 156, .mkrow 2442 3 1 1 [.t (.int .i64 0)] [(0, (1, .tmp 155))], none⟩, ⟨some 157, .append 2443 3 1 8 (.tmp 147) (.tmp 156), none⟩, ⟨some 158, .fieldA 0 (.tmp 23), none⟩, ⟨none, .store 1 (.tmp 158) (.tmp 157), none⟩]))) (.region [⟨some 159, .bin .add (.tmp 142) (.c (.one (.t (.int .i64 1)))), none⟩, ⟨some 142, .mv (.tmp 159), none⟩]))))))) (.seq (.draw [[], [], [1], [], [], [4, 2], [], [], [], [8, 5], [], [0, 2, 3, 5, 6, 7, 9, 10], [11, 9, 0, 1, 2, 3, 4, 5, 6, 7, 8, 9, 10, 11], [12, 0, 1, 2, 3, 4, 5, 6, 7, 8, 9, 10, 11, 12]] [⟨some 160, .load true 2 (.tmp 18), none⟩, ⟨some 161, .load true 2 (.tmp 3), none⟩, ⟨some 162, .call (.c (.one (.fn 46 []))) 2562 [.tmp 161], none⟩, ⟨some 163, .load true 2 (.tmp 21), none⟩, ⟨some 164, .load true 2 (.tmp 4), none⟩, ⟨some 165, .call (.c (.one (.fn 46 []))) 2565 [.tmp 164], none⟩, ⟨some 166, .load true 2 (.tmp 19), none⟩, ⟨some 167, .load true 2 (.tmp 23), none⟩, ⟨some 168, .load true 2 (.tmp 5), none⟩, ⟨some 169, .call (.c (.one (.fn 63 []))) 2569 [.tmp 168], none⟩, ⟨some 170, .load true 2 (.tmp 22), none⟩, ⟨some 171, .build [.nil, .nil, .nil, .nil, .nil, .nil, .nil, .nil, .nil, .nil, .nil, .nil, .nil, .nil, .nil, .nil] [(0, (2, .tmp 160)), (2, (2, .tmp 162)), (4, (2, .tmp 163)), (6, (2, .tmp 165)), (8, (2, .tmp 166)), (10, (2, .tmp 167)), (12, (2, .tmp 169)), (14, (2, .tmp 170))], none⟩, ⟨none, .store 16 (.tmp 6) (.tmp 171), none⟩, ⟨some 7, .mv (.c (.one (.t (.int .i64 0)))), none⟩]) .ret)))))))))))))⟩
theorem k_sInit : cFn Tryz.prog Tryz.f24 = some c_sInit := by kernel_rfl
set_option maxHeartbeats 8000000 in
theorem sInit_ok (a b : Gr) (m : Pa) (ta : tinyG a) (tb : tinyG b) (tm : tinyP m) : CallOK Tryz.prog 24 [a.v, b.v, m.v] (sqT (inR a b m)) := by
  refine callOK_W (callS_W (by kernel_rfl) Tryz.func24 k_sInit (callable_of Tryz.func24 (by kernel_rfl)) (by simp [c_sInit]) ?_)
  simp [c_sInit]
  refine callS_tree (mvalid_ok a b m ta tb tm) ?_ ?_ ?_
  · rfl
  · rfl
  by_cases h1 : morErr a b m = 0
  case neg =>
    have e : inR a b m = (noS, morErr a b m) := by simp [inR, inE, h1]
    simp [h1, sqT, e, noS, Sq.v, Sq.cs, edL]
  simp [h1]
  refine callS_tree (injX_ok a b m ta tb tm) ?_ ?_ ?_
  · rfl
  · rfl
  cases h2 : injB a b m
  · have e : inR a b m = (noS, 15) := by simp [inR, inE, h1, h2]
    simp [sqT, e, noS, Sq.v, Sq.cs, edL]
  have e : inR a b m = (inS a b m, 0) := by simp [inR, inE, h1, h2]
  have mo := mor_ok h1
  have b1 := mo.ga.n
  have b2 := mo.ga.e
  have b3 := mo.gb.n
  have b4 := mo.gb.e
  have l1 := mo.ln
  have l2 := mo.le
  have ubn := bnU_len (m := m) (b := b)
  simp
  refine loopW_count 43 b.edges.length (fun k S => S.fr 3 = .one (.ptr (0, 0) 0) ∧ S.fr 4 = .one (.ptr (1, 0) 0) ∧ S.fr 5 = .one (.ptr (2, 0) 0) ∧ S.fr 6 = .one (.ptr (3, 0) 0) ∧ S.fr 9 = .one (.ptr (384, 0) 0) ∧ S.fr 10 = .one (.ptr (385, 0) 0) ∧ S.fr 41 = .one (.t (edgs b.edges)) ∧ S.fr 42 = .one (.t (.int .i64 b.edges.length)) ∧
    S.ob (0, 0) = some (bx 25 (a.v.2.map .t)) ∧ S.ob (1, 0) = some (bx 25 (b.v.2.map .t)) ∧ S.ob (2, 0) = some (bx 27 (m.v.2.map .t)) ∧ S.ob (3, 0) = some (bx 29 [.nil, .nil, .nil, .nil, .nil, .nil, .nil, .nil, .nil, .nil, .nil, .nil, .nil, .nil, .nil, .nil]) ∧ S.cnt 1799 = 0 ∧ S.cnt 1800 = 0 ∧ S.cnt 1991 = 0 ∧ S.cnt 1992 = 0 ∧ S.cnt 2176 = 0 ∧
    ∃ vB vE, S.ob (384, 0) = some (bx 63 [vB, .nil]) ∧ S.ob (385, 0) = some (bx 63 [.nil, vE]) ∧ outR 1092 3 1 (bnU m b k).length ((bnU m b k).map (.int .i64)) S.ob (.one vB) ∧ outR 708 3 1 (collect (cxF m) k).length ((collect (cxF m) k).map (.int .i64)) S.ob (.one vE)) (by omega) ?_ ?_ ?_
  · simp [bnU, collect_zero, outR_nil]
  · rintro k S hlt hw hc ⟨f3, f4, f5, f6, f9, f10, f41, f42, o0, o1, o2, o3, n1, n2, n3, n4, n5, vB, vE, o384, o385, hB, hE⟩
    have hlt3 : k * 3 < b.edges.length * 3 := by omega
    simp [f3, f4, f5, f6, f9, f10, f41, f42, o0, o1, o2, o3, n1, n2, n3, n4, n5, o384, o385, hc, hlt, hlt3, drop_edL hlt]
    refine callS_tree (contains_ok m.edges k (tm.2.small)) ?_ ?_ ?_
    · rfl
    · rfl
    by_cases hm : (k : Int) ∈ m.edges
    · have q1 : bnU m b (k + 1) = bnU m b k := by simp [bnU, hm]
      have q2 : collect (cxF m) (k + 1) = collect (cxF m) k := collect_none (by simp [cxF, hm])
      simp [f3, f4, f5, f6, f9, f10, f41, f42, o0, o1, o2, o3, n1, n2, n3, n4, n5, o384, o385, hc, hm, hw, q1, q2]
      exact ⟨hB.keep fun g => by simp, hE.keep fun g => by simp⟩
    have q1 : bnU m b (k + 1) = bnS m (bnS m (bnU m b k) (eth b.edges k).f) (eth b.edges k).g := by simp [bnU, hm]
    have q2 : collect (cxF m) (k + 1) = collect (cxF m) k ++ [(k : Int)] := collect_some (by simp [cxF, hm])
    have q3 := collect_len (f := cxF m) (k := k)
    simp [f3, f4, f5, f6, f9, f10, f41, f42, o0, o1, o2, o3, n1, n2, n3, n4, n5, o384, o385, hc, hm]
    refine kApp_grow (ts := [.int .i64 k]) rfl (hE.keep fun g => by simp) (by omega) rfl (by omega) (by omega) fun E hE2 hob hcnt => ?_
    obtain ⟨w, hu⟩ := hE2.one
    rw [hu] at hE2
    have hB2 := hB.keep (ob' := E.ob) fun g => by rw [hob _ _ (by decide)]; simp
    simp [f3, f4, f5, f6, f9, f10, f41, f42, o0, o1, o2, o3, n1, n2, n3, n4, n5, o384, o385, hc, hm, hob, hcnt, hu]
    generalize hg : S.cnt 772 = g772
    have u1 := ubn k
    have u2 := bnS_len (m := m) (l := bnU m b k) (x := (eth b.edges k).f)
    refine loopW_count 64 2 (fun j S' => S'.fr 3 = .one (.ptr (0, 0) 0) ∧ S'.fr 4 = .one (.ptr (1, 0) 0) ∧ S'.fr 5 = .one (.ptr (2, 0) 0) ∧ S'.fr 6 = .one (.ptr (3, 0) 0) ∧ S'.fr 9 = .one (.ptr (384, 0) 0) ∧ S'.fr 10 = .one (.ptr (385, 0) 0) ∧ S'.fr 41 = .one (.t (edgs b.edges)) ∧ S'.fr 42 = .one (.t (.int .i64 b.edges.length)) ∧ S'.fr 43 = .one (.t (.int .i64 k)) ∧ S'.fr 62 = .one (.row (772, g772)) ∧ S'.fr 63 = .one (.t (.int .i64 2)) ∧
      S'.ob (0, 0) = some (bx 25 (a.v.2.map .t)) ∧ S'.ob (1, 0) = some (bx 25 (b.v.2.map .t)) ∧ S'.ob (2, 0) = some (bx 27 (m.v.2.map .t)) ∧ S'.ob (3, 0) = some (bx 29 [.nil, .nil, .nil, .nil, .nil, .nil, .nil, .nil, .nil, .nil, .nil, .nil, .nil, .nil, .nil, .nil]) ∧ S'.cnt 1799 = 0 ∧ S'.cnt 1800 = 0 ∧ S'.cnt 1991 = 0 ∧ S'.cnt 1992 = 0 ∧ S'.cnt 2176 = 0 ∧
      S'.ob (772, g772) = some ⟨true, true, false, 1, 2, 3, [.t (.int .i64 (eth b.edges k).f), .t (.int .i64 (eth b.edges k).g)]⟩ ∧
      ∃ vB, S'.ob (384, 0) = some (bx 63 [vB, .nil]) ∧ S'.ob (385, 0) = some (bx 63 [.nil, w]) ∧ outR 1092 3 1 (bnV m (bnU m b k) (eth b.edges k).f (eth b.edges k).g j).length ((bnV m (bnU m b k) (eth b.edges k).f (eth b.edges k).g j).map (.int .i64)) S'.ob (.one vB) ∧ outR 708 3 1 ((collect (cxF m) k).length + 1) ((collect (cxF m) k).map (.int .i64) ++ [.int .i64 k]) S'.ob (.one w)) (by omega) ?_ ?_ ?_
    · simp [f3, f4, f5, f6, f9, f10, f41, f42, o0, o1, o2, o3, n1, n2, n3, n4, n5, o384, o385, hob, hcnt, bnV, hc]
      exact ⟨hB2.keep fun g => by simp, outR.keep hE2 fun g => by simp⟩
    · rintro j S' hlt' hw' hc' ⟨f3, f4, f5, f6, f9, f10, f41, f42, f43, f62, f63, o0, o1, o2, o3, n1, n2, n3, n4, n5, o772, vB, o384, o385, hB, hE2⟩
      have hk : j = 0 ∨ j = 1 := by omega
      rcases hk with rfl | rfl
      · simp at hc' hw'
        have z0 : bnV m (bnU m b k) (eth b.edges k).f (eth b.edges k).g 0 = bnU m b k := by simp [bnV]
        rw [z0] at hB
        have zl : (bnU m b k).length ≤ 1000 := by omega
        obtain ⟨L, hL⟩ : ∃ L, L = bnU m b k := ⟨_, rfl⟩
        rw [← hL] at hB zl
        have z1 : bnV m (bnU m b k) (eth b.edges k).f (eth b.edges k).g (0 + 1) = bnS m L (eth b.edges k).f := by rw [hL]; simp [bnV]
        simp [f3, f4, f5, f6, f9, f10, f41, f42, f43, f62, f63, o0, o1, o2, o3, n1, n2, n3, n4, n5, o772, o384, o385, hc']
        refine callS_tree (index_ok m.nodes (eth b.edges k).f tm.1.small) ?_ ?_ ?_
        · rfl
        · rfl
        by_cases hx : 0 ≤ idx m.nodes (eth b.edges k).f
        case neg =>
          have z2 : bnS m L (eth b.edges k).f = L := by simp [bnS, hx]
          rw [z2] at z1
          rw [show (0 + 1 : Nat) = 1 from rfl] at z1
          simp [f3, f4, f5, f6, f9, f10, f41, f42, f43, f62, f63, o0, o1, o2, o3, n1, n2, n3, n4, n5, o772, o384, o385, hc', hw', hx, z1]
          exact ⟨hB.keep fun g => by simp, hE2.keep fun g => by simp⟩
        simp [f3, f4, f5, f6, f9, f10, f41, f42, f43, f62, f63, o0, o1, o2, o3, n1, n2, n3, n4, n5, o772, o384, o385, hc', hx]
        refine callS_tree (contains_ok L (idx m.nodes (eth b.edges k).f) (by show _ ≤ _; omega)) ?_ ?_ ?_
        · exact argTrees_row hB _ _
        · rfl
        by_cases hy : idx m.nodes (eth b.edges k).f ∈ L
        · have z2 : bnS m L (eth b.edges k).f = L := by simp [bnS, hy]
          rw [z2] at z1
          rw [show (0 + 1 : Nat) = 1 from rfl] at z1
          simp [f3, f4, f5, f6, f9, f10, f41, f42, f43, f62, f63, o0, o1, o2, o3, n1, n2, n3, n4, n5, o772, o384, o385, hc', hw', hx, hy, z1]
          exact ⟨hB.keep fun g => by simp, hE2.keep fun g => by simp⟩
        have z2 : bnS m L (eth b.edges k).f = L ++ [idx m.nodes (eth b.edges k).f] := by simp [bnS, hx, hy]
        rw [z2] at z1
        rw [show (0 + 1 : Nat) = 1 from rfl] at z1
        simp [f3, f4, f5, f6, f9, f10, f41, f42, f43, f62, f63, o0, o1, o2, o3, n1, n2, n3, n4, n5, o772, o384, o385, hc', hw', hx, hy, z1]
        refine kApp_grow (ts := [.int .i64 (idx m.nodes (eth b.edges k).f)]) rfl (hB.keep fun g => by simp) (by omega) rfl (by omega) (by omega) fun E3 hE3 hob3 hcnt3 => ?_
        obtain ⟨u, hu3⟩ := hE3.one
        rw [hu3] at hE3
        have hE4 := hE2.keep (ob' := E3.ob) fun g => by rw [hob3 _ _ (by decide)]; simp
        simp [f3, f4, f5, f6, f9, f10, f41, f42, f43, f62, f63, o0, o1, o2, o3, n1, n2, n3, n4, n5, o772, o384, o385, hc', hw', hob3, hcnt3, hu3, z1]
        exact ⟨outR.keep (by simpa using hE3) fun g => by simp, outR.keep hE4 fun g => by simp⟩
      · simp at hc' hw'
        have z0 : bnV m (bnU m b k) (eth b.edges k).f (eth b.edges k).g 1 = bnS m (bnU m b k) (eth b.edges k).f := by simp [bnV]
        rw [z0] at hB
        have zl : (bnS m (bnU m b k) (eth b.edges k).f).length ≤ 1000 := by omega
        obtain ⟨L, hL⟩ : ∃ L, L = bnS m (bnU m b k) (eth b.edges k).f := ⟨_, rfl⟩
        rw [← hL] at hB zl
        have z1 : bnV m (bnU m b k) (eth b.edges k).f (eth b.edges k).g (1 + 1) = bnS m L (eth b.edges k).g := by rw [hL]; simp [bnV]
        simp [f3, f4, f5, f6, f9, f10, f41, f42, f43, f62, f63, o0, o1, o2, o3, n1, n2, n3, n4, n5, o772, o384, o385, hc']
        refine callS_tree (index_ok m.nodes (eth b.edges k).g tm.1.small) ?_ ?_ ?_
        · rfl
        · rfl
        by_cases hx : 0 ≤ idx m.nodes (eth b.edges k).g
        case neg =>
          have z2 : bnS m L (eth b.edges k).g = L := by simp [bnS, hx]
          rw [z2] at z1
          rw [show (1 + 1 : Nat) = 2 from rfl] at z1
          simp [f3, f4, f5, f6, f9, f10, f41, f42, f43, f62, f63, o0, o1, o2, o3, n1, n2, n3, n4, n5, o772, o384, o385, hc', hw', hx, z1]
          exact ⟨hB.keep fun g => by simp, hE2.keep fun g => by simp⟩
        simp [f3, f4, f5, f6, f9, f10, f41, f42, f43, f62, f63, o0, o1, o2, o3, n1, n2, n3, n4, n5, o772, o384, o385, hc', hx]
        refine callS_tree (contains_ok L (idx m.nodes (eth b.edges k).g) (by show _ ≤ _; omega)) ?_ ?_ ?_
        · exact argTrees_row hB _ _
        · rfl
        by_cases hy : idx m.nodes (eth b.edges k).g ∈ L
        · have z2 : bnS m L (eth b.edges k).g = L := by simp [bnS, hy]
          rw [z2] at z1
          rw [show (1 + 1 : Nat) = 2 from rfl] at z1
          simp [f3, f4, f5, f6, f9, f10, f41, f42, f43, f62, f63, o0, o1, o2, o3, n1, n2, n3, n4, n5, o772, o384, o385, hc', hw', hx, hy, z1]
          exact ⟨hB.keep fun g => by simp, hE2.keep fun g => by simp⟩
        have z2 : bnS m L (eth b.edges k).g = L ++ [idx m.nodes (eth b.edges k).g] := by simp [bnS, hx, hy]
        rw [z2] at z1
        rw [show (1 + 1 : Nat) = 2 from rfl] at z1
        simp [f3, f4, f5, f6, f9, f10, f41, f42, f43, f62, f63, o0, o1, o2, o3, n1, n2, n3, n4, n5, o772, o384, o385, hc', hw', hx, hy, z1]
        refine kApp_grow (ts := [.int .i64 (idx m.nodes (eth b.edges k).g)]) rfl (hB.keep fun g => by simp) (by omega) rfl (by omega) (by omega) fun E3 hE3 hob3 hcnt3 => ?_
        obtain ⟨u, hu3⟩ := hE3.one
        rw [hu3] at hE3
        have hE4 := hE2.keep (ob' := E3.ob) fun g => by rw [hob3 _ _ (by decide)]; simp
        simp [f3, f4, f5, f6, f9, f10, f41, f42, f43, f62, f63, o0, o1, o2, o3, n1, n2, n3, n4, n5, o772, o384, o385, hc', hw', hob3, hcnt3, hu3, z1]
        exact ⟨outR.keep (by simpa using hE3) fun g => by simp, outR.keep hE4 fun g => by simp⟩
    · rintro S' hc' ⟨f3, f4, f5, f6, f9, f10, f41, f42, f43, f62, f63, o0, o1, o2, o3, n1, n2, n3, n4, n5, o772, vB, o384, o385, hB, hE2⟩
      have z0 : bnV m (bnU m b k) (eth b.edges k).f (eth b.edges k).g 2 = bnS m (bnS m (bnU m b k) (eth b.edges k).f) (eth b.edges k).g := by simp [bnV]
      rw [z0] at hB
      simp [f3, f4, f5, f6, f9, f10, f41, f42, f43, f62, f63, o0, o1, o2, o3, n1, n2, n3, n4, n5, o772, o384, o385, hc', hw, q1, q2]
      exact ⟨hB, hE2⟩
  · rintro S hc ⟨f3, f4, f5, f6, f9, f10, f41, f42, o0, o1, o2, o3, n1, n2, n3, n4, n5, vB, vE, o384, o385, hB, hE⟩
    have ub := ubn b.edges.length
    have eX : collect (cxF m) b.edges.length = cxL m b := rfl
    rw [eX] at hE
    simp [f3, f4, f5, f6, f9, f10, f41, f42, o0, o1, o2, o3, n1, n2, n3, n4, n5, o384, o385, hc]
    refine callS_sortL sortSaid (nms := [1092]) hB.outL (by omega) fun ob1 hB1 hob1 => ?_
    have hS : (bnU m b b.edges.length).mergeSort (fun x y => decide (x ≤ y)) = bndL m b := rfl
    rw [hS] at hB1
    have hB2 := hB1.outR
    have hE2 := hE.keep (ob' := ob1) fun g => hob1 _ _ (by decide)
    have p0 : ob1 (0, 0) = S.ob (0, 0) := hob1 _ _ (by decide)
    have p1 : ob1 (1, 0) = S.ob (1, 0) := hob1 _ _ (by decide)
    have p2 : ob1 (2, 0) = S.ob (2, 0) := hob1 _ _ (by decide)
    have p3 : ob1 (3, 0) = S.ob (3, 0) := hob1 _ _ (by decide)
    have p4 : ob1 (384, 0) = S.ob (384, 0) := hob1 _ _ (by decide)
    have p5 : ob1 (385, 0) = S.ob (385, 0) := hob1 _ _ (by decide)
    rw [o0] at p0
    rw [o1] at p1
    rw [o2] at p2
    rw [o3] at p3
    rw [o384] at p4
    rw [o385] at p5
    clear hB hE hB1
    have lB : (bndL m b).length ≤ 160 := by rw [bndL, List.length_mergeSort]; omega
    simp [f3, f4, f5, f6, f9, f10, f41, f42, p0, p1, p2, p3, p4, p5, hc]
    refine loopW_count 95 b.nodes.length (fun k S => S.fr 3 = .one (.ptr (0, 0) 0) ∧ S.fr 4 = .one (.ptr (1, 0) 0) ∧ S.fr 5 = .one (.ptr (2, 0) 0) ∧ S.fr 6 = .one (.ptr (3, 0) 0) ∧ S.fr 9 = .one (.ptr (384, 0) 0) ∧ S.fr 10 = .one (.ptr (385, 0) 0) ∧ S.fr 94 = .one (.t (.int .i64 b.nodes.length)) ∧
      S.ob (0, 0) = some (bx 25 (a.v.2.map .t)) ∧ S.ob (1, 0) = some (bx 25 (b.v.2.map .t)) ∧ S.ob (2, 0) = some (bx 27 (m.v.2.map .t)) ∧ S.ob (3, 0) = some (bx 29 [.nil, .nil, .nil, .nil, .nil, .nil, .nil, .nil, .nil, .nil, .nil, .nil, .nil, .nil, .nil, .nil]) ∧ S.cnt 1799 = 0 ∧ S.cnt 1800 = 0 ∧ S.cnt 1991 = 0 ∧ S.cnt 1992 = 0 ∧ S.cnt 2176 = 0 ∧
      S.ob (384, 0) = some (bx 63 [vB, .nil]) ∧ outR 1092 3 1 (bndL m b).length ((bndL m b).map (.int .i64)) S.ob (.one vB) ∧ outR 708 3 1 (cxL m b).length ((cxL m b).map (.int .i64)) S.ob (.one vE) ∧
      ∃ vN, S.ob (385, 0) = some (bx 63 [vN, vE]) ∧ outR 1668 3 1 (collect (cnF m (bndL m b)) k).length ((collect (cnF m (bndL m b)) k).map (.int .i64)) S.ob (.one vN)) (by omega) ?_ ?_ ?_
    · simp [f3, f4, f5, f6, f9, f10, f41, f42, p0, p1, p2, p3, p4, p5, n1, n2, n3, n4, n5, collect_zero, outR_nil]
      exact ⟨by simpa using hB2, by simpa using hE2⟩
    · rintro k S hlt hw hc ⟨f3, f4, f5, f6, f9, f10, f94, o0, o1, o2, o3, n1, n2, n3, n4, n5, o384, hB, hE, vN, o385, hN⟩
      have q3 := collect_len (f := cnF m (bndL m b)) (k := k)
      simp [f3, f4, f5, f6, f9, f10, f94, o0, o1, o2, o3, n1, n2, n3, n4, n5, o384, o385, hc, hlt]
      refine callS_tree (index_ok m.nodes k tm.1.small) ?_ ?_ ?_
      · rfl
      · rfl
      have fin : cnF m (bndL m b) k = some (k : Int) → ∀ E : Eff, outR 1668 3 1 ((collect (cnF m (bndL m b)) k).length + 1) ((collect (cnF m (bndL m b)) k).map (.int .i64) ++ [.int .i64 k]) E.ob E.v → True := fun _ _ _ => trivial
      by_cases hx : idx m.nodes k < 0
      · have q1 : collect (cnF m (bndL m b)) (k + 1) = collect (cnF m (bndL m b)) k ++ [(k : Int)] := collect_some (by simp [cnF, hx])
        simp [f3, f4, f5, f6, f9, f10, f94, o0, o1, o2, o3, n1, n2, n3, n4, n5, o384, o385, hc, hx]
        refine kApp_grow (ts := [.int .i64 k]) rfl (hN.keep fun g => by simp) (by omega) rfl (by omega) (by omega) fun E3 hE3 hob3 hcnt3 => ?_
        obtain ⟨u, hu3⟩ := hE3.one
        rw [hu3] at hE3
        have hE4 := hE.keep (ob' := E3.ob) fun g => by rw [hob3 _ _ (by decide)]; simp
        have hB4 := hB.keep (ob' := E3.ob) fun g => by rw [hob3 _ _ (by decide)]; simp
        simp [f3, f4, f5, f6, f9, f10, f94, o0, o1, o2, o3, n1, n2, n3, n4, n5, o384, o385, hc, hw, hob3, hcnt3, hu3, q1]
        exact ⟨outR.keep (by simpa using hB4) fun g => by simp, outR.keep (by simpa using hE4) fun g => by simp, outR.keep (by simpa using hE3) fun g => by simp⟩
      simp [f3, f4, f5, f6, f9, f10, f94, o0, o1, o2, o3, n1, n2, n3, n4, n5, o384, o385, hc, hx]
      refine callS_tree (contains_ok (bndL m b) (idx m.nodes k) (by show _ ≤ _; omega)) ?_ ?_ ?_
      · exact argTrees_row hB _ _
      · rfl
      by_cases hy : idx m.nodes k ∈ bndL m b
      · have q1 : collect (cnF m (bndL m b)) (k + 1) = collect (cnF m (bndL m b)) k ++ [(k : Int)] := collect_some (by simp [cnF, hy])
        simp [f3, f4, f5, f6, f9, f10, f94, o0, o1, o2, o3, n1, n2, n3, n4, n5, o384, o385, hc, hx, hy]
        refine kApp_grow (ts := [.int .i64 k]) rfl (hN.keep fun g => by simp) (by omega) rfl (by omega) (by omega) fun E3 hE3 hob3 hcnt3 => ?_
        obtain ⟨u, hu3⟩ := hE3.one
        rw [hu3] at hE3
        have hE4 := hE.keep (ob' := E3.ob) fun g => by rw [hob3 _ _ (by decide)]; simp
        have hB4 := hB.keep (ob' := E3.ob) fun g => by rw [hob3 _ _ (by decide)]; simp
        simp [f3, f4, f5, f6, f9, f10, f94, o0, o1, o2, o3, n1, n2, n3, n4, n5, o384, o385, hc, hw, hob3, hcnt3, hu3, q1]
        exact ⟨outR.keep (by simpa using hB4) fun g => by simp, outR.keep (by simpa using hE4) fun g => by simp, outR.keep (by simpa using hE3) fun g => by simp⟩
      · have q1 : collect (cnF m (bndL m b)) (k + 1) = collect (cnF m (bndL m b)) k := collect_none (by simp [cnF, hy, hx])
        simp [f3, f4, f5, f6, f9, f10, f94, o0, o1, o2, o3, n1, n2, n3, n4, n5, o384, o385, hc, hw, hx, hy, q1]
        exact ⟨by simpa using hB, by simpa using hE, by simpa using hN⟩
    · rintro S hc ⟨f3, f4, f5, f6, f9, f10, f94, o0, o1, o2, o3, n1, n2, n3, n4, n5, o384, hB, hE, vN, o385, hN⟩
      have eX : collect (cnF m (bndL m b)) b.nodes.length = cnL m b := rfl
      rw [eX] at hN
      have cl : (cnL m b).length ≤ 40 := by have := collect_len (f := cnF m (bndL m b)) (k := b.nodes.length); rw [eX] at this; omega
      have cl2 : (cxL m b).length ≤ 80 := by have : (cxL m b).length ≤ b.edges.length := collect_len; omega
      have r1 := sextract_ok a (inB m b) ta ⟨by show _ ≤ _; simp only [inB]; omega, by show _ ≤ _; simp [inB]⟩
      have r2 := sextract_ok b (inC m b) tb ⟨by show _ ≤ _; simp only [inC]; omega, by show _ ≤ _; simp only [inC]; omega⟩
      have e1 : exR a (inB m b) = (exG a (inB m b), inB m b, 0) := by rw [exR, if_pos (inB_ok (mor_g h1).1 l1)]
      have e2 : exR b (inC m b) = (exG b (inC m b), inC m b, 0) := by rw [exR, if_pos (inC_ok (mor_g h1).2)]
      rw [e1] at r1
      rw [e2] at r2
      simp [f3, f4, f5, f6, f9, f10, f94, o0, o1, o2, o3, n1, n2, n3, n4, n5, o384, o385, hc]
      refine callS_part r1 (fun ob cnt => ⟨rfl, rfl⟩) hB (outR_nil (nm := 9999) (typ := 0) (esz := 1)) (by decide) fun ob1 hB1 _ hob1 => ?_
      have p0 : ob1 (0, 0) = S.ob (0, 0) := hob1 _ _ (by decide) (by decide)
      have p1 : ob1 (1, 0) = S.ob (1, 0) := hob1 _ _ (by decide) (by decide)
      have p2 : ob1 (2, 0) = S.ob (2, 0) := hob1 _ _ (by decide) (by decide)
      have p3 : ob1 (3, 0) = S.ob (3, 0) := hob1 _ _ (by decide) (by decide)
      have p4 : ob1 (384, 0) = S.ob (384, 0) := hob1 _ _ (by decide) (by decide)
      have p5 : ob1 (385, 0) = S.ob (385, 0) := hob1 _ _ (by decide) (by decide)
      rw [o0] at p0
      rw [o1] at p1
      rw [o2] at p2
      rw [o3] at p3
      rw [o384] at p4
      rw [o385] at p5
      have hE1 := hE.keep (ob' := ob1) fun g => hob1 _ _ (by decide) (by decide)
      have hN1 := hN.keep (ob' := ob1) fun g => hob1 _ _ (by decide) (by decide)
      clear hob1 hB hE hN
      simp [f3, f4, f5, f6, f9, f10, f94, n1, n2, n3, n4, n5, p0, p1, p2, p3, p4, p5, exT]
      refine callS_part r2 (fun ob cnt => ⟨rfl, rfl⟩) (hN1.keep fun g => by simp) (hE1.keep fun g => by simp) (by decide) fun ob2 hN2 hE2 hob2 => ?_
      have z0 : ob2 (0, 0) = some (bx 25 (a.v.2.map .t)) := by rw [hob2 _ _ (by decide) (by decide)]; simp [p0]
      have z1 : ob2 (1, 0) = some (bx 25 (b.v.2.map .t)) := by rw [hob2 _ _ (by decide) (by decide)]; simp [p1]
      have z2 : ob2 (2, 0) = some (bx 27 (m.v.2.map .t)) := by rw [hob2 _ _ (by decide) (by decide)]; simp [p2]
      have z3 : ob2 (3, 0) = some (bx 29 [.nil, .nil, .nil, .nil, .nil, .nil, .nil, .nil, .nil, .nil, .nil, .nil, .nil, .nil, .nil, .nil]) := by rw [hob2 _ _ (by decide) (by decide)]; simp [p3]
      have z4 : ob2 (384, 0) = some (bx 63 [vB, .nil]) := by rw [hob2 _ _ (by decide) (by decide)]; simp [p4]
      have z5 : ob2 (385, 0) = some (bx 63 [vN, vE]) := by rw [hob2 _ _ (by decide) (by decide)]; simp [p5]
      have z6 : ob2 (1799, 0) = some (bx 25 ((exG a (inB m b)).v.2.map .t)) := by rw [hob2 _ _ (by decide) (by decide)]; simp [p5]
      have z7 : ob2 (1800, 0) = some (bx 27 ((inB m b).v.2.map .t)) := by rw [hob2 _ _ (by decide) (by decide)]; simp [p5]
      have hB2 := hB1.keep (ob' := ob2) fun g => by rw [hob2 _ _ (by decide) (by decide)]; simp
      clear hob2 hB1 hE1 hN1 p0 p1 p2 p3 p4 p5
      have lC : (cnL m b).length ≤ 9000000000000000000 := by omega
      have hr : (sqT (inR a b m)) = .tup [(true, [ints (exG a (inB m b)).nodes, edgs (exG a (inB m b)).edges, ints a.nodes, edgs a.edges, ints (exG b (inC m b)).nodes, edgs (exG b (inC m b)).edges, ints b.nodes, edgs b.edges, ints (inB m b).nodes, ints (inB m b).edges, ints (inG m b), ints [], ints m.nodes, ints m.edges, ints (inC m b).nodes, ints (inC m b).edges]), (false, [.int .i64 0])] := by rw [e]; rfl
      generalize exG a (inB m b) = X at z6 hr ⊢
      generalize exG b (inC m b) = Y at hr ⊢
      have hB6 := hB2
      rcases hB2 with ⟨v1', v2, v3⟩ | ⟨v1, gB, v3, v4⟩
      · have v1 : (bndL m b).length = 0 := v1'
        cases v3
        simp [f3, f4, f5, f6, f9, f10, f94, n1, n2, n3, n4, n5, z0, z1, z2, z3, z4, z5, z6, z7, exT]
        refine loopW_count 142 (bndL m b).length (fun k S => S.fr 3 = .one (.ptr (0, 0) 0) ∧ S.fr 4 = .one (.ptr (1, 0) 0) ∧ S.fr 5 = .one (.ptr (2, 0) 0) ∧ S.fr 6 = .one (.ptr (3, 0) 0) ∧ S.fr 10 = .one (.ptr (385, 0) 0) ∧ S.fr 18 = .one (.ptr (1799, 0) 0) ∧ S.fr 19 = .one (.ptr (1800, 0) 0) ∧ S.fr 21 = .one (.ptr (1991, 0) 0) ∧ S.fr 22 = .one (.ptr (1992, 0) 0) ∧ S.fr 23 = .one (.ptr (2176, 0) 0) ∧ S.fr 140 = .one .nil ∧ S.fr 141 = .one (.t (.int .i64 (bndL m b).length)) ∧
        S.ob (0, 0) = some (bx 25 (a.v.2.map .t)) ∧ S.ob (1, 0) = some (bx 25 (b.v.2.map .t)) ∧ S.ob (2, 0) = some (bx 27 (m.v.2.map .t)) ∧ S.ob (3, 0) = some (bx 29 [.nil, .nil, .nil, .nil, .nil, .nil, .nil, .nil, .nil, .nil, .nil, .nil, .nil, .nil, .nil, .nil]) ∧
        S.ob (385, 0) = some (bx 63 [vN, vE]) ∧ S.ob (1799, 0) = some (bx 25 (X.v.2.map .t)) ∧ S.ob (1800, 0) = some (bx 27 ((inB m b).v.2.map .t)) ∧ S.ob (1991, 0) = some (bx 25 (Y.v.2.map .t)) ∧ S.ob (1992, 0) = some (bx 27 ((inC m b).v.2.map .t)) ∧
        outF 1668 3 1 (cnL m b).length ((cnL m b).map (.int .i64)) S.ob (.one vN) ∧ outF 1092 3 1 (bndL m b).length ((bndL m b).map (.int .i64)) S.ob (.one .nil) ∧
        ∃ vG, S.ob (2176, 0) = some (bx 27 [vG, .nil]) ∧ outR 2443 3 1 (inK m b k).length ((inK m b k).map (.int .i64)) S.ob (.one vG)) (by omega) ?_ ?_ ?_
        · simp [f3, f4, f5, f6, f9, f10, f94, n1, n2, n3, n4, n5, z0, z1, z2, z3, z4, z5, z6, z7, inB, v1]
          refine ⟨hN2.keep fun g => by simp, .inl ⟨by first | exact v1 | rfl, v2, rfl⟩, outR_inK⟩
        · rintro k S hlt hw hc ⟨f3, f4, f5, f6, f10, f18, f19, f21, f22, f23, f140, f141, z0, z1, z2, z3, z5, z6, z7, z8, z9, hN2, hB3, vG, z10, hG⟩
          have ltb : (bndL m b).length = (inB m b).nodes.length := rfl
          omega
        · rintro S hc ⟨f3, f4, f5, f6, f10, f18, f19, f21, f22, f23, f140, f141, z0, z1, z2, z3, z5, z6, z7, z8, z9, hN2, hB3, vG, z10, hG⟩
          rw [inK_all] at hG
          rw [hr]
          rcases hG with ⟨m1, m2, m3⟩ | ⟨m1, g1, m3, m4⟩
          all_goals
            cases m3
            simp [dw0, dw1, dw2, dw3, f3, f4, f5, f6, f10, f18, f19, f21, f22, f23, f140, f141, z0, z1, z2, z3, z5, z6, z7, z8, z9, z10, hc]
            refine dCall_ok (scopied_ok a ta) ?_ ?_ ?_
            · rfl
            · rfl
            simp [dw0, dw1, dw2, dw3, f3, f4, f5, f6, f10, f18, f19, f21, f22, f23, f140, f141, z0, z1, z2, z3, z5, z6, z7, z8, z9, z10, hc]
            refine dCall_ok (scopied_ok b tb) ?_ ?_ ?_
            · rfl
            · rfl
            simp [dw0, dw1, dw2, dw3, f3, f4, f5, f6, f10, f18, f19, f21, f22, f23, f140, f141, z0, z1, z2, z3, z5, z6, z7, z8, z9, z10, hc]
            refine dCall_ok (arrow_ok m tm) ?_ ?_ ?_
            · rfl
            · rfl
          · have gg : inG m b = [] := List.eq_nil_of_length_eq_zero m1
            simp [dw0, dw1, dw2, dw3, f3, f4, f5, f6, f10, f18, f19, f21, f22, f23, f140, f141, z0, z1, z2, z3, z5, z6, z7, z8, z9, z10, hc, gg]
            rfl
          · simp [dw0, dw1, dw2, dw3, f3, f4, f5, f6, f10, f18, f19, f21, f22, f23, f140, f141, z0, z1, z2, z3, z5, z6, z7, z8, z9, z10, hc, m4, untreeT, untreeI]
            rfl
      · cases v3
        simp [f3, f4, f5, f6, f9, f10, f94, n1, n2, n3, n4, n5, z0, z1, z2, z3, z4, z5, z6, z7, v4, exT]
        refine loopW_count 142 (bndL m b).length (fun k S => S.fr 3 = .one (.ptr (0, 0) 0) ∧ S.fr 4 = .one (.ptr (1, 0) 0) ∧ S.fr 5 = .one (.ptr (2, 0) 0) ∧ S.fr 6 = .one (.ptr (3, 0) 0) ∧ S.fr 10 = .one (.ptr (385, 0) 0) ∧ S.fr 18 = .one (.ptr (1799, 0) 0) ∧ S.fr 19 = .one (.ptr (1800, 0) 0) ∧ S.fr 21 = .one (.ptr (1991, 0) 0) ∧ S.fr 22 = .one (.ptr (1992, 0) 0) ∧ S.fr 23 = .one (.ptr (2176, 0) 0) ∧ S.fr 140 = .one (.row (1092, gB)) ∧ S.fr 141 = .one (.t (.int .i64 (bndL m b).length)) ∧
        S.ob (0, 0) = some (bx 25 (a.v.2.map .t)) ∧ S.ob (1, 0) = some (bx 25 (b.v.2.map .t)) ∧ S.ob (2, 0) = some (bx 27 (m.v.2.map .t)) ∧ S.ob (3, 0) = some (bx 29 [.nil, .nil, .nil, .nil, .nil, .nil, .nil, .nil, .nil, .nil, .nil, .nil, .nil, .nil, .nil, .nil]) ∧
        S.ob (385, 0) = some (bx 63 [vN, vE]) ∧ S.ob (1799, 0) = some (bx 25 (X.v.2.map .t)) ∧ S.ob (1800, 0) = some (bx 27 ((inB m b).v.2.map .t)) ∧ S.ob (1991, 0) = some (bx 25 (Y.v.2.map .t)) ∧ S.ob (1992, 0) = some (bx 27 ((inC m b).v.2.map .t)) ∧
        outF 1668 3 1 (cnL m b).length ((cnL m b).map (.int .i64)) S.ob (.one vN) ∧ outF 1092 3 1 (bndL m b).length ((bndL m b).map (.int .i64)) S.ob (.one (.row (1092, gB))) ∧
        ∃ vG, S.ob (2176, 0) = some (bx 27 [vG, .nil]) ∧ outR 2443 3 1 (inK m b k).length ((inK m b k).map (.int .i64)) S.ob (.one vG)) (by omega) ?_ ?_ ?_
        · simp [f3, f4, f5, f6, f9, f10, f94, n1, n2, n3, n4, n5, z0, z1, z2, z3, z4, z5, z6, z7, v4, inB, v1]
          refine ⟨hN2.keep fun g => by simp, hB6.keep fun g => by simp, outR_inK⟩
        · rintro k S hlt hw hc ⟨f3, f4, f5, f6, f10, f18, f19, f21, f22, f23, f140, f141, z0, z1, z2, z3, z5, z6, z7, z8, z9, hN2, hB3, vG, z10, hG⟩
          have ltb : (bndL m b).length = (inB m b).nodes.length := rfl
          obtain ⟨x1, x2⟩ := bndL_in (nth_mem hlt)
          obtain ⟨x, hx⟩ := Int.eq_ofNat_of_zero_le x1
          have hx2 : x < m.nodes.length := by omega
          have zk := inK_len (m := m) (b := b) (k := k) (by omega)
          have zs := inK_succ hlt
          rw [hx, Int.toNat_natCast] at zs
          have hB4 := hB3
          rcases hB4 with ⟨w1, _, _⟩ | ⟨w1, gB', w3, w4⟩
          · omega
          cases w3
          have hG0 := hG
          have hN0 := hN2
          rcases hG with ⟨m1, m2, m3⟩ | ⟨m1, g1, m3, m4⟩ <;> rcases hN0 with ⟨t1, t2, t3⟩ | ⟨t1, g2, t3, t4⟩
          all_goals
            cases m3
            cases t3
            simp [dw0, dw1, dw2, dw3, f3, f4, f5, f6, f10, f18, f19, f21, f22, f23, f140, f141, z0, z1, z2, z3, z5, z6, z7, z8, z9, z10, hc, hlt, (show k + 1 ≤ (bndL m b).length from hlt), w4, drop_nthR hlt, hx, hx2, drop_nth hx2]
            refine dCall_ok (index_ok (cnL m b) (nth m.nodes x) lC) ?_ ?_ ?_
            · exact argTrees_rowF hN2 _ _
            · rfl
            simp [dw0, dw1, dw2, dw3, f3, f4, f5, f6, f10, f18, f19, f21, f22, f23, f140, f141, z0, z1, z2, z3, z5, z6, z7, z8, z9, z10, hc]
            refine kApp_grow (ts := [.int .i64 (idx (cnL m b) (nth m.nodes x))]) rfl (hG0.keep fun g => by simp) (by omega) rfl (by omega) (by omega) fun E3 hE3 hob3 hcnt3 => ?_
            obtain ⟨u, hu3⟩ := hE3.one
            rw [hu3] at hE3
            have hN4 := hN2.keep (ob' := E3.ob) fun g => by rw [hob3 _ _ (by decide)]; simp
            have hB5 := hB3.keep (ob' := E3.ob) fun g => by rw [hob3 _ _ (by decide)]; simp
            simp [dw0, dw1, dw2, dw3, f3, f4, f5, f6, f10, f18, f19, f21, f22, f23, f140, f141, z0, z1, z2, z3, z5, z6, z7, z8, z9, z10, hc, hw, hob3, hcnt3, hu3, zs]
            refine ⟨rfl, ?_⟩
            try simp [f3, f4, f5, f6, f10, f18, f19, f21, f22, f23, f140, f141, z0, z1, z2, z3, z5, z6, z7, z8, z9, z10, hc, hw, hob3, hcnt3, hu3, zs]
            exact ⟨hN4.keep fun g => by simp, hB5.keep fun g => by simp, outR.keep (by simpa using hE3) fun g => by simp⟩
        · rintro S hc ⟨f3, f4, f5, f6, f10, f18, f19, f21, f22, f23, f140, f141, z0, z1, z2, z3, z5, z6, z7, z8, z9, hN2, hB3, vG, z10, hG⟩
          rw [inK_all] at hG
          rw [hr]
          rcases hG with ⟨m1, m2, m3⟩ | ⟨m1, g1, m3, m4⟩
          all_goals
            cases m3
            simp [dw0, dw1, dw2, dw3, f3, f4, f5, f6, f10, f18, f19, f21, f22, f23, f140, f141, z0, z1, z2, z3, z5, z6, z7, z8, z9, z10, hc]
            refine dCall_ok (scopied_ok a ta) ?_ ?_ ?_
            · rfl
            · rfl
            simp [dw0, dw1, dw2, dw3, f3, f4, f5, f6, f10, f18, f19, f21, f22, f23, f140, f141, z0, z1, z2, z3, z5, z6, z7, z8, z9, z10, hc]
            refine dCall_ok (scopied_ok b tb) ?_ ?_ ?_
            · rfl
            · rfl
            simp [dw0, dw1, dw2, dw3, f3, f4, f5, f6, f10, f18, f19, f21, f22, f23, f140, f141, z0, z1, z2, z3, z5, z6, z7, z8, z9, z10, hc]
            refine dCall_ok (arrow_ok m tm) ?_ ?_ ?_
            · rfl
            · rfl
          · have gg : inG m b = [] := List.eq_nil_of_length_eq_zero m1
            simp [dw0, dw1, dw2, dw3, f3, f4, f5, f6, f10, f18, f19, f21, f22, f23, f140, f141, z0, z1, z2, z3, z5, z6, z7, z8, z9, z10, hc, gg]
            rfl
          · simp [dw0, dw1, dw2, dw3, f3, f4, f5, f6, f10, f18, f19, f21, f22, f23, f140, f141, z0, z1, z2, z3, z5, z6, z7, z8, z9, z10, hc, m4, untreeT, untreeI]
            rfl
end Go.Proofs.YthcnpnogfblkcaaGreat
