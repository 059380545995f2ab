/-
  Joined texts: steps of this claim, part 4. No condition beyond those that each statement names.
-/
import Derived.Test.YthcnpnogfblkcaaGreatK3
import Derived.SizedLaws
import Derived.ChangeSlices
import Derived.Deep.Strs
import Derived.Deep.Slices
/- Contracts: standard pushouts. -/
namespace Go.Proofs.YthcnpnogfblkcaaGreat
open Abs
set_option linter.unusedSimpArgs false
set_option linter.unusedVariables false
attribute [local simp] rn0 rn1 rn2 rn3 rn4 rn5 rn6 rn7 evOp nests Arg.ev St.val St.set St.new sliceOf binInt2 binInt AV.cells rdAt St.live retOf resOf resAll treeOf treeCell treeCells treeTups untree frameOf TV.av TR.av ints edgs prs fillV splice intsOf trees V1.tree bx Gr.v Pa.v opRd opWr opNew opNewR opArgs argsRd argRd Arg.rd AV.refs V1.refs refsL dstL

structure Sp where
  A : Gr
  B : Gr
  C : Gr
  F : Pa
  G : Pa
def Sp.cs (s : Sp) : List Abs.C := [ints s.A.nodes, edgs s.A.edges, ints s.B.nodes, edgs s.B.edges, ints s.C.nodes, edgs s.C.edges, ints s.F.nodes, ints s.F.edges, ints s.G.nodes, ints s.G.edges]
def Sp.v (s : Sp) : TV := (true, s.cs)
structure TinySp (s : Sp) : Prop where
  A : tinyG s.A
  B : tinyG s.B
  C : tinyG s.C
  F : tinyP s.F
  G : tinyP s.G
/-- The error of a span. -/
def spErr (s : Sp) : Int := if morErr s.A s.B s.F = 0 then morErr s.A s.C s.G else morErr s.A s.B s.F
structure SpOk (s : Sp) : Prop where
  F : MorOk s.A s.B s.F
  G : MorOk s.A s.C s.G
theorem spErr_ok {s : Sp} (h : spErr s = 0) : SpOk s := by
  unfold spErr at h
  split at h
  · exact ⟨mor_ok (by assumption), mor_ok h⟩
  · exact absurd h (by assumption)

def c_pspan : MFunc := ⟨21, [.tmp 2], .seq (.region [⟨some 1, .box 0 47 (.tmp 0), none⟩, ⟨some 2, .mv (.c (.one (.t (.int .i64 0)))), none⟩]) (.seq (.seq (.region [⟨some 4, .fieldA 0 (.tmp 1), none⟩, ⟨some 5, .load true 2 (.tmp 4), none⟩, ⟨some 6, .fieldA 2 (.tmp 1), none⟩, ⟨some 7, .load true 2 (.tmp 6), none⟩, ⟨some 8, .fieldA 6 (.tmp 1), none⟩, ⟨some 9, .load true 2 (.tmp 8), none⟩, ⟨some 10, .call (.c (.one (.fn 41 []))) 70 [.tmp 5, .tmp 7, .tmp 9], none⟩, ⟨some 3, .mv (.tmp 10), none⟩]) (.seq (.region [⟨some 11, .mv (.tmp 3), none⟩, ⟨some 12, .bin .neq (.tmp 11) (.c (.one (.t (.int .i64 0)))), none⟩]) (.cond (.tmp 12) (.seq (.region [⟨some 13, .mv (.tmp 3), none⟩, ⟨some 2, .mv (.tmp 13), none⟩]) .ret) .skip))) (.seq (.region [⟨some 14, .fieldA 0 (.tmp 1), none⟩, ⟨some 15, .load true 2 (.tmp 14), none⟩, ⟨some 16, .fieldA 4 (.tmp 1), none⟩, ⟨some 17, .load true 2 (.tmp 16), none⟩, ⟨some 18, .fieldA 8 (.tmp 1), none⟩, ⟨some 19, .load true 2 (.tmp 18), none⟩, ⟨some 20, .call (.c (.one (.fn 41 []))) 262 [.tmp 15, .tmp 17, .tmp 19], none⟩, ⟨some 2, .mv (.tmp 20), none⟩]) .ret))⟩
theorem k_pspan : cFn Tryz.prog Tryz.f95 = some c_pspan := by kernel_rfl
theorem pspan_ok (s : Sp) (h : TinySp s) : CallOK Tryz.prog 95 [s.v] (.sv (false, [.int .i64 (spErr s)])) := by
  refine callOK_W (callS_W (by kernel_rfl) Tryz.func95 k_pspan (callable_of Tryz.func95 (by kernel_rfl)) (by simp [c_pspan]) ?_)
  simp [c_pspan, Sp.v, Sp.cs]
  refine callS_tree (mvalid_ok s.A s.B s.F h.A h.B h.F) ?_ ?_ ?_
  · rfl
  · rfl
  by_cases h1 : morErr s.A s.B s.F = 0
  case neg => simp [h1, spErr]
  simp [h1]
  refine callS_tree (mvalid_ok s.A s.C s.G h.A h.C h.G) ?_ ?_ ?_
  · rfl
  · rfl
  simp [h1, spErr]

def c_span10 : MFunc := ⟨21, [.tmp 2], .seq (.region [⟨some 1, .box 0 47 (.tmp 0), none⟩, ⟨some 2, .mv (.c (.one (.t (.int .i64 0)))), none⟩]) (.seq (.seq (.region [⟨some 4, .fieldA 0 (.tmp 1), none⟩, ⟨some 5, .load true 2 (.tmp 4), none⟩, ⟨some 6, .fieldA 2 (.tmp 1), none⟩, ⟨some 7, .load true 2 (.tmp 6), none⟩, ⟨some 8, .fieldA 6 (.tmp 1), none⟩, ⟨some 9, .load true 2 (.tmp 8), none⟩, ⟨some 10, .call (.c (.one (.fn 48 []))) 70 [.tmp 5, .tmp 7, .tmp 9], none⟩, ⟨some 3, .mv (.tmp 10), none⟩]) (.seq (.region [⟨some 11, .mv (.tmp 3), none⟩, ⟨some 12, .bin .neq (.tmp 11) (.c (.one (.t (.int .i64 0)))), none⟩]) (.cond (.tmp 12) (.seq (.region [⟨some 13, .mv (.tmp 3), none⟩, ⟨some 2, .mv (.tmp 13), none⟩]) .ret) .skip))) (.seq (.region [⟨some 14, .fieldA 0 (.tmp 1), none⟩, ⟨some 15, .load true 2 (.tmp 14), none⟩, ⟨some 16, .fieldA 4 (.tmp 1), none⟩, ⟨some 17, .load true 2 (.tmp 16), none⟩, ⟨some 18, .fieldA 8 (.tmp 1), none⟩, ⟨some 19, .load true 2 (.tmp 18), none⟩, ⟨some 20, .call (.c (.one (.fn 48 []))) 262 [.tmp 15, .tmp 17, .tmp 19], none⟩, ⟨some 2, .mv (.tmp 20), none⟩]) .ret))⟩
theorem k_span10 : cFn Tryz.prog Tryz.f93 = some c_span10 := by kernel_rfl
theorem span10_ok (s : Sp) (h : TinySp s) : CallOK Tryz.prog 93 [s.v] (.sv (false, [.int .i64 (spErr s)])) := by
  refine callOK_W (callS_W (by kernel_rfl) Tryz.func93 k_span10 (callable_of Tryz.func93 (by kernel_rfl)) (by simp [c_span10]) ?_)
  simp [c_span10, Sp.v, Sp.cs]
  refine callS_tree (rvalid6_ok s.A s.B s.F h.A h.B h.F) ?_ ?_ ?_
  · rfl
  · rfl
  by_cases h1 : morErr s.A s.B s.F = 0
  case neg => simp [h1, spErr]
  simp [h1]
  refine callS_tree (rvalid6_ok s.A s.C s.G h.A h.C h.G) ?_ ?_ ?_
  · rfl
  · rfl
  simp [h1, spErr]

def poU (s : Sp) : Gr := unG s.B s.C
def glN (s : Sp) : List (Int × Int) := pgK s.F.nodes s.G.nodes (unL s.B).nodes (unR s.B s.C).nodes s.F.nodes.length
def glE (s : Sp) : List (Int × Int) := pgK s.F.edges s.G.edges (unL s.B).edges (unR s.B s.C).edges s.F.edges.length
def poP (s : Sp) : List Int := genL (poU s).nodes.length (glN s)
def poQ (s : Sp) : List Int := genL (poU s).edges.length (glE s)
/-- The standard pushout: graph, and the morphisms into it. -/
def poG (s : Sp) : Gr := quoG (poU s) (poP s) (poQ s)
def poM (s : Sp) : Pa := quoM (poP s) (poQ s)
def poI (s : Sp) : Pa := thenP (unL s.B) (poM s)
def poJ (s : Sp) : Pa := thenP (unR s.B s.C) (poM s)
def gluR (s : Sp) : Gr × Pa × Pa × Int := if unErr s.B s.C = 0 then (poG s, poI s, poJ s, 0) else (⟨[], []⟩, ⟨[], []⟩, ⟨[], []⟩, unErr s.B s.C)
def gluT (x : Gr × Pa × Pa × Int) : TR := .tup [x.1.v, x.2.1.v, x.2.2.1.v, (false, [.int .i64 x.2.2.2])]
def poErr (s : Sp) : Int := if spErr s = 0 then unErr s.B s.C else spErr s
def poR (s : Sp) : Gr × Pa × Pa × Int := if poErr s = 0 then (poG s, poI s, poJ s, 0) else (⟨[], []⟩, ⟨[], []⟩, ⟨[], []⟩, poErr s)

theorem unErr_few {a b : Gr} (h : unErr a b = 0) : GrOk a ∧ GrOk b ∧ a.nodes.length + b.nodes.length ≤ 40 ∧ a.edges.length + b.edges.length ≤ 80 := by
  unfold unErr at h
  split at h
  · split at h
    · split at h
      · cases h
      · rename_i h1 h2 h3
        simp only [unBig] at h3
        exact ⟨gErr_ok h1, gErr_ok h2, by omega, by omega⟩
    · exact absurd h (by assumption)
  · exact absurd h (by assumption)
theorem unG_nlen {a b : Gr} : (unG a b).nodes.length = a.nodes.length + b.nodes.length := by simp [unG]
theorem unG_elen {a b : Gr} : (unG a b).edges.length = a.edges.length + b.edges.length := by simp [unG]
theorem unG_ok {a b : Gr} (h : unErr a b = 0) : GrOk (unG a b) := by
  obtain ⟨ga, gb, h1, h2⟩ := unErr_few h
  refine ⟨by rw [unG_nlen]; exact h1, by rw [unG_elen]; exact h2, fun x hx => ?_, fun e he => ?_⟩
  · simp only [unG, List.mem_append] at hx
    rcases hx with hx | hx
    · exact ga.kinds x hx
    · exact gb.kinds x hx
  · rw [unG_nlen]
    simp only [unG, List.mem_append, List.mem_map] at he
    rcases he with he | ⟨x, hx, rfl⟩
    · have := ga.edges e he
      omega
    · have := gb.edges x hx
      simp only [shiftE]
      omega
theorem glN_in {s : Sp} (ok : SpOk s) : pairsIn (glN s) (poU s).nodes.length := fun q hq => by
  simp only [glN, pgK, List.mem_map, List.mem_range] at hq
  obtain ⟨i, hi, rfl⟩ := hq
  have l1 := ok.F.ln
  have l2 := ok.G.ln
  obtain ⟨a1, a2, _⟩ := ok.F.n i (by omega)
  obtain ⟨b1, b2, _⟩ := ok.G.n i (by omega)
  obtain ⟨a, ha⟩ := Int.eq_ofNat_of_zero_le a1
  obtain ⟨b, hb⟩ := Int.eq_ofNat_of_zero_le b1
  simp only [ha, hb, Int.toNat_natCast, unL, unR, poU]
  rw [numL_nth (by omega), numL_nth (by omega), unG_nlen]
  omega
theorem glE_in {s : Sp} (ok : SpOk s) : pairsIn (glE s) (poU s).edges.length := fun q hq => by
  simp only [glE, pgK, List.mem_map, List.mem_range] at hq
  obtain ⟨i, hi, rfl⟩ := hq
  have l1 := ok.F.le
  have l2 := ok.G.le
  obtain ⟨a1, a2, _⟩ := ok.F.e i (by omega)
  obtain ⟨b1, b2, _⟩ := ok.G.e i (by omega)
  obtain ⟨a, ha⟩ := Int.eq_ofNat_of_zero_le a1
  obtain ⟨b, hb⟩ := Int.eq_ofNat_of_zero_le b1
  simp only [ha, hb, Int.toNat_natCast, unL, unR, poU]
  rw [numL_nth (by omega), numL_nth (by omega), unG_elen]
  omega
theorem numL_in {a n m : Nat} (h : a + n ≤ m) : placesIn (numL a n) m := fun x hx => by
  simp only [numL, List.mem_map, List.mem_range] at hx
  obtain ⟨i, hi, rfl⟩ := hx
  omega
theorem poM_len {s : Sp} : (poM s).nodes.length = s.B.nodes.length + s.C.nodes.length ∧ (poM s).edges.length = s.B.edges.length + s.C.edges.length := by
  simp only [poM, quoM, quotL_len, poP, poQ, genL_len, poU, unG_nlen, unG_elen]
  exact ⟨trivial, trivial⟩
theorem fitL {s : Sp} : FitsP (unL s.B) (poM s) := ⟨numL_in (by rw [poM_len.1]; omega), numL_in (by rw [poM_len.2]; omega)⟩
theorem fitR {s : Sp} : FitsP (unR s.B s.C) (poM s) := ⟨numL_in (by rw [poM_len.1]; omega), numL_in (by rw [poM_len.2]; omega)⟩
theorem tinyL {a : Gr} (h : tinyG a) : tinyP (unL a) := ⟨by simp only [unL, numL_len]; exact h.1, by simp only [unL, numL_len]; exact h.2⟩
theorem tinyR {a b : Gr} (h : tinyG b) : tinyP (unR a b) := ⟨by simp only [unR, numL_len]; exact h.1, by simp only [unR, numL_len]; exact h.2⟩

def c_pglue : MFunc := ⟨69, [.cell 2 true 2, .cell 3 true 2, .cell 4 true 2, .tmp 5], .seq (.region [⟨some 1, .box 0 47 (.tmp 0), none⟩, ⟨some 2, .alloc 1 25 [.nil, .nil], none⟩, ⟨some 3, .alloc 2 27 [.nil, .nil], none⟩, ⟨some 4, .alloc 3 27 [.nil, .nil], none⟩, ⟨some 5, .mv (.c (.one (.t (.int .i64 0)))), none⟩]) (.seq (.region [⟨some 13, .fieldA 2 (.tmp 1), none⟩, ⟨some 14, .load true 2 (.tmp 13), none⟩, ⟨some 15, .fieldA 4 (.tmp 1), none⟩, ⟨some 16, .load true 2 (.tmp 15), none⟩, ⟨some 17, .call (.c (.one (.fn 133 []))) 68 [.tmp 14, .tmp 16], none⟩, ⟨some 12, .mv (.tmp 17), none⟩, ⟨some 18, .extract (.tmp 12) 0, none⟩, ⟨some 19, .extract (.tmp 12) 1, none⟩, ⟨some 20, .extract (.tmp 12) 2, none⟩, ⟨some 21, .extract (.tmp 12) 3, none⟩, ⟨some 6, .alloc 74 25 [.nil, .nil], none⟩, ⟨some 7, .alloc 75 27 [.nil, .nil], none⟩, ⟨some 8, .alloc 76 27 [.nil, .nil], none⟩, ⟨none, .store 2 (.tmp 6) (.tmp 18), none⟩, ⟨none, .store 2 (.tmp 7) (.tmp 19), none⟩, ⟨none, .store 2 (.tmp 8) (.tmp 20), none⟩, ⟨some 9, .mv (.tmp 21), none⟩]) (.seq (.seq (.region [⟨some 22, .mv (.tmp 9), none⟩, ⟨some 23, .bin .neq (.tmp 22) (.c (.one (.t (.int .i64 0)))), none⟩]) (.cond (.tmp 23) (.seq (.region [⟨some 24, .build [.nil, .nil] [], none⟩, ⟨some 25, .build [.nil, .nil] [], none⟩, ⟨some 26, .build [.nil, .nil] [], none⟩, ⟨some 27, .mv (.tmp 9), none⟩, ⟨none, .store 2 (.tmp 2) (.tmp 24), none⟩, ⟨none, .store 2 (.tmp 3) (.tmp 25), none⟩, ⟨none, .store 2 (.tmp 4) (.tmp 26), none⟩, ⟨some 5, .mv (.tmp 27), none⟩]) .ret) .skip)) (.seq (.draw [[], [], [1], [2], [], [4], [5], [], [7], [], [9], [3, 6, 8, 10], [], [12], [13], [], [15], [16], [], [18], [], [20], [14, 17, 19, 21, 11], [0, 11, 22, 22], [23], [24], [24], [24], [], [], [28, 25, 23, 0, 1, 2, 3, 4, 5, 6, 7, 8, 9, 10, 11, 12, 13, 14, 15, 16, 17, 18, 19, 20, 21, 22, 23, 24, 25, 28, 29], [29, 26, 30, 0, 1, 2, 3, 4, 5, 6, 7, 8, 9, 10, 11, 12, 13, 14, 15, 16, 17, 18, 19, 20, 21, 22, 23, 24, 25, 26, 28, 29, 30], [27, 31, 0, 1, 2, 3, 4, 5, 6, 7, 8, 9, 10, 11, 12, 13, 14, 15, 16, 17, 18, 19, 20, 21, 22, 23, 24, 25, 26, 27, 28, 29, 30, 31]] [⟨some 29, .load true 2 (.tmp 6), none⟩, ⟨some 30, .fieldA 6 (.tmp 1), none⟩, ⟨some 31, .fieldA 0 (.tmp 30), none⟩, ⟨some 32, .load false 1 (.tmp 31), none⟩, ⟨some 33, .fieldA 8 (.tmp 1), none⟩, ⟨some 34, .fieldA 0 (.tmp 33), none⟩, ⟨some 35, .load false 1 (.tmp 34), none⟩, ⟨some 36, .fieldA 0 (.tmp 7), none⟩, ⟨some 37, .load false 1 (.tmp 36), none⟩, ⟨some 38, .fieldA 0 (.tmp 8), none⟩, ⟨some 39, .load false 1 (.tmp 38), none⟩, ⟨some 40, .call (.c (.one (.fn 135 []))) 267 [.tmp 32, .tmp 35, .tmp 37, .tmp 39], none⟩, ⟨some 41, .fieldA 6 (.tmp 1), none⟩, ⟨some 42, .fieldA 1 (.tmp 41), none⟩, ⟨some 43, .load false 1 (.tmp 42), none⟩, ⟨some 44, .fieldA 8 (.tmp 1), none⟩, ⟨some 45, .fieldA 1 (.tmp 44), none⟩, ⟨some 46, .load false 1 (.tmp 45), none⟩, ⟨some 47, .fieldA 1 (.tmp 7), none⟩, ⟨some 48, .load false 1 (.tmp 47), none⟩, ⟨some 49, .fieldA 1 (.tmp 8), none⟩, ⟨some 50, .load false 1 (.tmp 49), none⟩, ⟨some 51, .call (.c (.one (.fn 135 []))) 278 [.tmp 43, .tmp 46, .tmp 48, .tmp 50], none⟩, ⟨some 52, .call (.c (.one (.fn 134 []))) 279 [.tmp 29, .tmp 40, .tmp 51], none⟩, ⟨some 28, .mv (.tmp 52), none⟩, ⟨some 53, .extract (.tmp 28) 0, none⟩, ⟨some 54, .extract (.tmp 28) 1, none⟩, ⟨some 55, .extract (.tmp 28) 2, none⟩, ⟨some 10, .alloc 284 25 [.nil, .nil], none⟩, ⟨some 11, .alloc 285 27 [.nil, .nil], none⟩, ⟨none, .store 2 (.tmp 10) (.tmp 53), none⟩, ⟨none, .store 2 (.tmp 11) (.tmp 54), none⟩, ⟨some 9, .mv (.tmp 55), none⟩]) (.seq (.seq (.region [⟨some 56, .mv (.tmp 9), none⟩, ⟨some 57, .bin .neq (.tmp 56) (.c (.one (.t (.int .i64 0)))), none⟩]) (.cond (.tmp 57) (.seq (.region [⟨some 58, .build [.nil, .nil] [], none⟩, ⟨some 59, .build [.nil, .nil] [], none⟩, ⟨some 60, .build [.nil, .nil] [], none⟩, ⟨some 61, .mv (.tmp 9), none⟩, ⟨none, .store 2 (.tmp 2) (.tmp 58), none⟩, ⟨none, .store 2 (.tmp 3) (.tmp 59), none⟩, ⟨none, .store 2 (.tmp 4) (.tmp 60), none⟩, ⟨some 5, .mv (.tmp 61), none⟩]) .ret) .skip)) (.seq (.draw [[], [], [], [1, 2], [], [], [4, 5, 3], [0, 6, 0], [3, 7, 0, 1, 2, 3, 7], [6, 8, 0, 1, 2, 3, 4, 5, 6, 7, 8], [9, 0, 1, 2, 3, 4, 5, 6, 7, 8, 9]] [⟨some 62, .load true 2 (.tmp 10), none⟩, ⟨some 63, .load true 2 (.tmp 7), none⟩, ⟨some 64, .load true 2 (.tmp 11), none⟩, ⟨some 65, .call (.c (.one (.fn 136 []))) 451 [.tmp 63, .tmp 64], none⟩, ⟨some 66, .load true 2 (.tmp 8), none⟩, ⟨some 67, .load true 2 (.tmp 11), none⟩, ⟨some 68, .call (.c (.one (.fn 136 []))) 454 [.tmp 66, .tmp 67], none⟩, ⟨none, .store 2 (.tmp 2) (.tmp 62), none⟩, ⟨none, .store 2 (.tmp 3) (.tmp 65), none⟩, ⟨none, .store 2 (.tmp 4) (.tmp 68), none⟩, ⟨some 5, .mv (.c (.one (.t (.int .i64 0)))), none⟩]) .ret)))))⟩
theorem k_pglue : cFn Tryz.prog Tryz.f96 = some c_pglue := by kernel_rfl
set_option maxHeartbeats 4000000 in
theorem pglue_ok (s : Sp) (h : TinySp s) (ok : SpOk s) : CallOK Tryz.prog 96 [s.v] (gluT (gluR s)) := by
  refine callOK_W (callS_W (by kernel_rfl) Tryz.func96 k_pglue (callable_of Tryz.func96 (by kernel_rfl)) (by simp [c_pglue]) ?_)
  simp [c_pglue, Sp.v, Sp.cs]
  refine callS_tree (gunion_ok s.B s.C h.B h.C) ?_ ?_ ?_
  · rfl
  · simp [AV.still, V1.still]
  by_cases h1 : unErr s.B s.C = 0
  case neg =>
    have e : gluR s = (⟨[], []⟩, ⟨[], []⟩, ⟨[], []⟩, unErr s.B s.C) := by simp [gluR, h1]
    simp [unT, h1, gluT, e, edL]
  have e : gluR s = (poG s, poI s, poJ s, 0) := by simp [gluR, h1]
  obtain ⟨ga, gb, n1, n2⟩ := unErr_few h1
  have l1 := ok.F.ln
  have l2 := ok.G.ln
  have l3 := ok.F.le
  have l4 := ok.G.le
  have b1 := ok.F.ga.n
  have b2 := ok.F.ga.e
  simp [dw0, dw1, dw2, dw3, unT, h1]
  refine dCall_ok (callOK_of_row (ppairs_row s.F.nodes s.G.nodes (unL s.B).nodes (unR s.B s.C).nodes (by omega) (by omega) (fun x hx => by have := ok.F.rn x hx; simp only [unL, numL_len]; exact this) (fun x hx => by have := ok.G.rn x hx; simp only [unR, numL_len]; exact this))) ?_ ?_ ?_
  · rfl
  · rfl
  simp [dw0, dw1, dw2, dw3]
  refine dCall_ok (callOK_of_row (ppairs_row s.F.edges s.G.edges (unL s.B).edges (unR s.B s.C).edges (by omega) (by omega) (fun x hx => by have := ok.F.re x hx; simp only [unL, numL_len]; exact this) (fun x hx => by have := ok.G.re x hx; simp only [unR, numL_len]; exact this))) ?_ ?_ ?_
  · rfl
  · rfl
  simp [dw0, dw1, dw2, dw3]
  refine dCall_ok (pquotient_ok (poU s) (glN s) (glE s) (unG_ok h1) (by simp only [glN, pgK_len, tiny]; omega) (by simp only [glE, pgK_len, tiny]; omega) (glN_in ok) (glE_in ok)) ?_ ?_ ?_
  · rfl
  · rfl
  have eG : quoG (poU s) (genL (poU s).nodes.length (glN s)) (genL (poU s).edges.length (glE s)) = poG s := rfl
  have eM : quoM (genL (poU s).nodes.length (glN s)) (genL (poU s).edges.length (glE s)) = poM s := rfl
  rw [eG, eM]
  simp [dw0, dw1, dw2, dw3]
  refine ⟨rfl, ?_⟩
  refine dCall_ok (pthen_ok (unL s.B) (poM s) (tinyL h.B) fitL) ?_ ?_ ?_
  · rfl
  · rfl
  simp [dw0, dw1, dw2, dw3]
  refine dCall_ok (pthen_ok (unR s.B s.C) (poM s) (tinyR h.C) fitR) ?_ ?_ ?_
  · rfl
  · rfl
  simp [dw0, dw1, dw2, dw3, gluT, e, poI, poJ]
  rfl

def c_poOf : MFunc := ⟨21, [.cell 2 true 2, .cell 3 true 2, .cell 4 true 2, .tmp 5], .seq (.region [⟨some 1, .box 0 47 (.tmp 0), none⟩, ⟨some 2, .alloc 1 25 [.nil, .nil], none⟩, ⟨some 3, .alloc 2 27 [.nil, .nil], none⟩, ⟨some 4, .alloc 3 27 [.nil, .nil], none⟩, ⟨some 5, .mv (.c (.one (.t (.int .i64 0)))), none⟩]) (.seq (.seq (.region [⟨some 7, .load true 10 (.tmp 1), none⟩, ⟨some 8, .call (.c (.one (.fn 95 []))) 65 [.tmp 7], none⟩, ⟨some 6, .mv (.tmp 8), none⟩]) (.seq (.region [⟨some 9, .mv (.tmp 6), none⟩, ⟨some 10, .bin .neq (.tmp 9) (.c (.one (.t (.int .i64 0)))), none⟩]) (.cond (.tmp 10) (.seq (.region [⟨some 11, .build [.nil, .nil] [], none⟩, ⟨some 12, .build [.nil, .nil] [], none⟩, ⟨some 13, .build [.nil, .nil] [], none⟩, ⟨some 14, .mv (.tmp 6), none⟩, ⟨none, .store 2 (.tmp 2) (.tmp 11), none⟩, ⟨none, .store 2 (.tmp 3) (.tmp 12), none⟩, ⟨none, .store 2 (.tmp 4) (.tmp 13), none⟩, ⟨some 5, .mv (.tmp 14), none⟩]) .ret) .skip))) (.seq (.region [⟨some 15, .load true 10 (.tmp 1), none⟩, ⟨some 16, .call (.c (.one (.fn 96 []))) 257 [.tmp 15], none⟩, ⟨some 17, .extract (.tmp 16) 0, none⟩, ⟨some 18, .extract (.tmp 16) 1, none⟩, ⟨some 19, .extract (.tmp 16) 2, none⟩, ⟨some 20, .extract (.tmp 16) 3, none⟩, ⟨none, .store 2 (.tmp 2) (.tmp 17), none⟩, ⟨none, .store 2 (.tmp 3) (.tmp 18), none⟩, ⟨none, .store 2 (.tmp 4) (.tmp 19), none⟩, ⟨some 5, .mv (.tmp 20), none⟩]) .ret))⟩
theorem k_poOf : cFn Tryz.prog Tryz.f55 = some c_poOf := by kernel_rfl
theorem poOf_ok (s : Sp) (h : TinySp s) : CallOK Tryz.prog 55 [s.v] (gluT (poR s)) := by
  refine callOK_W (callS_W (by kernel_rfl) Tryz.func55 k_poOf (callable_of Tryz.func55 (by kernel_rfl)) (by simp [c_poOf]) ?_)
  simp [c_poOf, Sp.v, Sp.cs]
  refine callS_tree (pspan_ok s h) ?_ ?_ ?_
  · rfl
  · rfl
  by_cases h1 : spErr s = 0
  case neg =>
    have e : poR s = (⟨[], []⟩, ⟨[], []⟩, ⟨[], []⟩, spErr s) := by simp [poR, poErr, h1]
    simp [h1, gluT, e, edL]
  have e : poR s = gluR s := by simp only [poR, gluR, poErr, if_pos h1]
  rw [e]
  simp [h1]
  refine callS_tree (pglue_ok s h (spErr_ok h1)) ?_ ?_ ?_
  · rfl
  · rfl
  simp [gluT]
end Go.Proofs.YthcnpnogfblkcaaGreat

/- Contracts: mediating morphisms out of pushouts; checks of pushouts. -/
namespace Go.Proofs.YthcnpnogfblkcaaGreat
open Abs
set_option linter.unusedSimpArgs false
set_option linter.unusedVariables false
attribute [local simp] rn0 rn1 rn2 rn3 rn4 rn5 rn6 rn7 evOp nests Arg.ev St.val St.set St.new sliceOf binInt2 binInt AV.cells rdAt St.live retOf resOf resAll treeOf treeCell treeCells treeTups untree frameOf TV.av TR.av ints edgs prs fillV splice intsOf trees V1.tree bx Gr.v Pa.v

/-- A list of zeros into which numbers are written. -/
def wrL (n : Nat) (ws : List (Int × Int)) : List Int := ws.foldl (fun o w => o.set w.1.toNat w.2) (List.replicate n 0)
theorem wr_len {ws : List (Int × Int)} {o : List Int} : (ws.foldl (fun o w => o.set w.1.toNat w.2) o).length = o.length := by
  induction ws generalizing o with
  | nil => rfl
  | cons w r ih => rw [List.foldl_cons, ih, List.length_set]
theorem wrL_len {n : Nat} {ws : List (Int × Int)} : (wrL n ws).length = n := by rw [wrL, wr_len, List.length_replicate]
theorem wrL_snoc {n : Nat} {ws : List (Int × Int)} {w : Int × Int} : wrL n (ws ++ [w]) = (wrL n ws).set w.1.toNat w.2 := by simp [wrL]
theorem zip_take_succ {a b : List Int} {k : Nat} (h : k < a.length) (h2 : a.length ≤ b.length) : (a.zip b).take (k + 1) = (a.zip b).take k ++ [(nth a k, nth b k)] := by
  have hz : k < (a.zip b).length := by simp; omega
  rw [List.take_succ_eq_append_getElem hz, nth_eq h, nth_eq (show k < b.length by omega)]
  simp
theorem zip_take_all {a b : List Int} (h2 : a.length ≤ b.length) : (a.zip b).take a.length = a.zip b := List.take_of_length_le (by simp; omega)

def c_filled : MFunc := ⟨41, [.tmp 6], .seq (.region [⟨some 6, .mv (.c (.one .nil)), none⟩]) (.seq (.region [⟨some 12, .mv (.tmp 0), none⟩, ⟨some 13, .make 65 3 1 8 [.t (.int .i64 0)] (.tmp 12) (.tmp 12), none⟩, ⟨some 7, .mv (.tmp 13), none⟩]) (.seq (.seq (.region [⟨some 14, .mv (.tmp 1), none⟩, ⟨some 15, .len (.tmp 14), none⟩, ⟨some 16, .mv (.c (.one (.t (.int .i64 0)))), none⟩]) (.block 0 (.loop (.seq (.region [⟨some 17, .bin .lss (.tmp 16) (.tmp 15), none⟩]) (.seq (.cond (.tmp 17) .skip (.exit 0)) (.seq (.block 1 (.seq (.region [⟨some 18, .mv (.tmp 16), none⟩, ⟨some 19, .idxA 1 (.tmp 14) (.tmp 16), none⟩, ⟨some 20, .load false 1 (.tmp 19), none⟩, ⟨some 8, .mv (.tmp 18), none⟩, ⟨some 9, .mv (.tmp 20), none⟩]) (.seq (.region [⟨some 21, .mv (.tmp 9), none⟩, ⟨some 22, .len (.tmp 21), none⟩, ⟨some 23, .mv (.c (.one (.t (.int .i64 0)))), none⟩]) (.block 2 (.loop (.seq (.region [⟨some 24, .bin .lss (.tmp 23) (.tmp 22), none⟩]) (.seq (.cond (.tmp 24) .skip (.exit 2)) (.seq (.block 3 (.seq (.region [⟨some 25, .mv (.tmp 23), none⟩, ⟨some 26, .idxA 1 (.tmp 21) (.tmp 23), none⟩, ⟨some 27, .load false 1 (.tmp 26), none⟩, ⟨some 10, .mv (.tmp 25), none⟩, ⟨some 11, .mv (.tmp 27), none⟩]) (.region [⟨some 28, .mv (.tmp 7), none⟩, ⟨some 29, .mv (.tmp 11), none⟩, ⟨some 30, .mv (.tmp 2), none⟩, ⟨some 31, .mv (.tmp 8), none⟩, ⟨some 32, .idxA 1 (.tmp 30) (.tmp 31), none⟩, ⟨some 33, .load false 1 (.tmp 32), none⟩, ⟨some 34, .mv (.tmp 10), none⟩, ⟨some 35, .idxA 1 (.tmp 33) (.tmp 34), none⟩, ⟨some 36, .load false 1 (.tmp 35), none⟩, ⟨some 37, .idxA 1 (.tmp 28) (.tmp 29), none⟩, ⟨none, .store 1 (.tmp 37) (.tmp 36), none⟩]))) (.region [⟨some 38, .bin .add (.tmp 23) (.c (.one (.t (.int .i64 1)))), none⟩, ⟨some 23, .mv (.tmp 38), none⟩]))))))))) (.region [⟨some 39, .bin .add (.tmp 16) (.c (.one (.t (.int .i64 1)))), none⟩, ⟨some 16, .mv (.tmp 39), none⟩]))))))) (.seq (.region [⟨some 40, .mv (.tmp 7), none⟩, ⟨some 6, .mv (.tmp 40), none⟩]) .ret)))⟩
theorem k_filled : cFn Tryz.prog Tryz.f137 = some c_filled := by kernel_rfl
set_option maxHeartbeats 1000000 in
theorem filled_ok (n : Nat) (a b c d : List Int) (hn : tiny n) (ha : placesIn a n) (hb : placesIn b n) (hac : a.length ≤ c.length) (hbd : b.length ≤ d.length) (la : tiny a.length) (lb : tiny b.length) :
    CallOK Tryz.prog 137 [(false, [.int .i64 n]), (false, [twoL a b]), (false, [twoL c d])] (.sv (false, [ints (wrL n (a.zip c ++ b.zip d))])) := by
  refine callOK_W (callS_W (by kernel_rfl) Tryz.func137 k_filled (callable_of Tryz.func137 (by kernel_rfl)) (by simp [c_filled]) ?_)
  have hn' := hn
  simp only [tiny] at hn'
  have n1 : n * 8 ≤ 140737488355328 := by omega
  have n2 : (n : Int) ≤ 9223372036854775807 := by omega
  simp [c_filled, twoL, n1, n2]
  refine loopW_count 16 2 (fun k S => S.fr 2 = .one (.t (twoL c d)) ∧ S.fr 7 = .one (.row (65, 0)) ∧ S.fr 14 = .one (.t (twoL a b)) ∧ S.fr 15 = .one (.t (.int .i64 2)) ∧ S.ob (65, 0) = some (rowO (wrL n (if k = 0 then [] else if k = 1 then a.zip c else a.zip c ++ b.zip d)))) (by omega) ?_ ?_ ?_
  · simp [twoL, rowO, wrL]
  · rintro k S hlt hw hc ⟨f2, f7, f14, f15, o65⟩
    have hk : k = 0 ∨ k = 1 := by omega
    rcases hk with rfl | rfl
    · simp at hc hw o65
      simp [twoL, f2, f7, f14, f15, hc]
      refine loopW_count 23 a.length (fun j S => S.fr 2 = .one (.t (twoL c d)) ∧ S.fr 7 = .one (.row (65, 0)) ∧ S.fr 8 = .one (.t (.int .i64 0)) ∧ S.fr 14 = .one (.t (twoL a b)) ∧ S.fr 15 = .one (.t (.int .i64 2)) ∧ S.fr 16 = .one (.t (.int .i64 0)) ∧ S.fr 21 = .one (.t (ints a)) ∧ S.fr 22 = .one (.t (.int .i64 a.length)) ∧ S.ob (65, 0) = some (rowO (wrL n ((a.zip c).take j)))) la.small ?_ ?_ ?_
      · simp [twoL, f2, f7, f14, f15, hc, o65]
      · rintro j S' hlt' hw' hc' ⟨f2, f7, f8, f14, f15, f16, f21, f22, o65⟩
        have hj2 : j < c.length := by omega
        obtain ⟨x1, x2⟩ := ha _ (nth_mem hlt')
        obtain ⟨x, hx⟩ := Int.eq_ofNat_of_zero_le x1
        have hxn : x < n := by omega
        have hxn1 : x + 1 ≤ n := by omega
        have hxl : x < (wrL n ((a.zip c).take j)).length := by rw [wrL_len]; exact hxn
        have e2 := row_set (v := nth c j) hxl
        have e3 : wrL n ((a.zip c).take (j + 1)) = (wrL n ((a.zip c).take j)).set x (nth c j) := by rw [zip_take_succ hlt' hac, wrL_snoc, hx]; rfl
        have e4 := wrL_len (n := n) (ws := (a.zip c).take j)
        have e5 := wrL_len (n := n) (ws := (a.zip c).take (j + 1))
        simp [twoL, f2, f7, f8, f14, f15, f16, f21, f22, hc', hlt', drop_nth hlt', hx, hj2, drop_nth hj2, o65, rowO, e4, hxn, hxn1, hw', e2, e3]
      · rintro S' hc' ⟨f2, f7, f8, f14, f15, f16, f21, f22, o65⟩
        rw [zip_take_all hac] at o65
        simp [twoL, f2, f7, f8, f14, f15, f16, f21, f22, hc', hw, o65]
    · simp at hc hw o65
      simp [twoL, f2, f7, f14, f15, hc]
      refine loopW_count 23 b.length (fun j S => S.fr 2 = .one (.t (twoL c d)) ∧ S.fr 7 = .one (.row (65, 0)) ∧ S.fr 8 = .one (.t (.int .i64 1)) ∧ S.fr 14 = .one (.t (twoL a b)) ∧ S.fr 15 = .one (.t (.int .i64 2)) ∧ S.fr 16 = .one (.t (.int .i64 1)) ∧ S.fr 21 = .one (.t (ints b)) ∧ S.fr 22 = .one (.t (.int .i64 b.length)) ∧ S.ob (65, 0) = some (rowO (wrL n (a.zip c ++ (b.zip d).take j)))) lb.small ?_ ?_ ?_
      · simp [twoL, f2, f7, f14, f15, hc, o65]
      · rintro j S' hlt' hw' hc' ⟨f2, f7, f8, f14, f15, f16, f21, f22, o65⟩
        have hj2 : j < d.length := by omega
        obtain ⟨x1, x2⟩ := hb _ (nth_mem hlt')
        obtain ⟨x, hx⟩ := Int.eq_ofNat_of_zero_le x1
        have hxn : x < n := by omega
        have hxn1 : x + 1 ≤ n := by omega
        have hxl : x < (wrL n (a.zip c ++ (b.zip d).take j)).length := by rw [wrL_len]; exact hxn
        have e2 := row_set (v := nth d j) hxl
        have e3 : wrL n (a.zip c ++ (b.zip d).take (j + 1)) = (wrL n (a.zip c ++ (b.zip d).take j)).set x (nth d j) := by rw [zip_take_succ hlt' hbd, ← List.append_assoc, wrL_snoc, hx]; rfl
        have e4 := wrL_len (n := n) (ws := a.zip c ++ (b.zip d).take j)
        have e5 := wrL_len (n := n) (ws := a.zip c ++ (b.zip d).take (j + 1))
        simp [twoL, f2, f7, f8, f14, f15, f16, f21, f22, hc', hlt', drop_nth hlt', hx, hj2, drop_nth hj2, o65, rowO, e4, hxn, hxn1, hw', e2, e3]
      · rintro S' hc' ⟨f2, f7, f8, f14, f15, f16, f21, f22, o65⟩
        rw [zip_take_all hbd] at o65
        simp [twoL, f2, f7, f8, f14, f15, f16, f21, f22, hc', hw, o65]
  · rintro S hc ⟨f2, f7, f14, f15, o65⟩
    simp at o65
    have et := fun fr cnt => rowO_tree (fr := fr) (cnt := cnt) o65
    simp [f2, f7, f14, f15, hc, -treeCell, treeCell_t, et]
end Go.Proofs.YthcnpnogfblkcaaGreat

/- Contracts: mediating morphisms out of pushouts (2); checks of pushouts. -/
namespace Go.Proofs.YthcnpnogfblkcaaGreat
open Abs
set_option linter.unusedSimpArgs false
set_option linter.unusedVariables false
attribute [local simp] rn0 rn1 rn2 rn3 rn4 rn5 rn6 rn7 evOp nests Arg.ev St.val St.set St.new sliceOf binInt2 binInt AV.cells rdAt St.live retOf resOf resAll treeOf treeCell treeCells treeTups untree frameOf TV.av TR.av ints edgs prs fillV splice intsOf trees V1.tree bx Gr.v Pa.v opRd opWr opNew opNewR opArgs argsRd argRd Arg.rd AV.refs V1.refs refsL dstL

theorem cls_collect {α : Type} {p : List Int} {f : Nat → α} : ∀ {n : Nat}, (collect (fun i => if nth p i = i then some (f i) else none) n).length = clsN p n
  | 0 => rfl
  | n + 1 => by
    have ih := cls_collect (p := p) (f := f) (n := n)
    by_cases e : nth p n = n
    · rw [collect_some (x := f n) (by rw [if_pos e]), List.length_append, ih]
      simp [clsN, e]
    · rw [collect_none (by rw [if_neg e]), ih]
      simp [clsN, e]
theorem quoG_nlen {u : Gr} {p q : List Int} : (quoG u p q).nodes.length = clsN p u.nodes.length := cls_collect
theorem quoG_elen {u : Gr} {p q : List Int} : (quoG u p q).edges.length = clsN q u.edges.length := cls_collect
theorem quotL_in {p : List Int} {n : Nat} (hp : Flat p) (hn : p.length = n) : placesIn (quotL p) (clsN p n) := fun x hx => by
  obtain ⟨i, hi, rfl⟩ := mem_nth hx
  rw [quotL_len] at hi
  obtain ⟨j, hj, hle⟩ := hp.fo.at hi
  have hf := hp.fx i hi
  rw [hj, Int.toNat_natCast] at hf
  rw [quotL_nth hi, hj, Int.toNat_natCast]
  have := clsN_lt (p := p) (a := j) (b := n) hf (by omega)
  omega
theorem thru_in {a b : List Int} {n : Nat} (h : placesIn b n) (hf : placesIn a b.length) : placesIn (thru a b) n := fun x hx => by
  simp only [thru, List.mem_map] at hx
  obtain ⟨y, hy, rfl⟩ := hx
  obtain ⟨h1, h2⟩ := hf y hy
  exact h _ (nth_mem (by omega))

theorem poP_flat {s : Sp} (ok : SpOk s) : Flat (poP s) := genL_flat (glN_in ok)
theorem poQ_flat {s : Sp} (ok : SpOk s) : Flat (poQ s) := genL_flat (glE_in ok)
theorem poI_nin {s : Sp} (ok : SpOk s) : placesIn (poI s).nodes (poG s).nodes.length := by
  rw [poG, quoG_nlen]
  exact thru_in (quotL_in (poP_flat ok) genL_len) fitL.fn
theorem poI_ein {s : Sp} (ok : SpOk s) : placesIn (poI s).edges (poG s).edges.length := by
  rw [poG, quoG_elen]
  exact thru_in (quotL_in (poQ_flat ok) genL_len) fitL.fe
theorem poJ_nin {s : Sp} (ok : SpOk s) : placesIn (poJ s).nodes (poG s).nodes.length := by
  rw [poG, quoG_nlen]
  exact thru_in (quotL_in (poP_flat ok) genL_len) fitR.fn
theorem poJ_ein {s : Sp} (ok : SpOk s) : placesIn (poJ s).edges (poG s).edges.length := by
  rw [poG, quoG_elen]
  exact thru_in (quotL_in (poQ_flat ok) genL_len) fitR.fe
theorem poI_len {s : Sp} : (poI s).nodes.length = s.B.nodes.length ∧ (poI s).edges.length = s.B.edges.length := by simp [poI, thenP, thru_len, unL, numL_len]
theorem poJ_len {s : Sp} : (poJ s).nodes.length = s.C.nodes.length ∧ (poJ s).edges.length = s.C.edges.length := by simp [poJ, thenP, thru_len, unR, numL_len]
theorem poG_few {s : Sp} (h : unErr s.B s.C = 0) : (poG s).nodes.length ≤ 40 ∧ (poG s).edges.length ≤ 80 := by
  have g := unG_ok h
  have h1 := g.n
  have h2 := g.e
  have h3 : (poG s).nodes.length ≤ (unG s.B s.C).nodes.length := collect_len
  have h4 : (poG s).edges.length ≤ (unG s.B s.C).edges.length := collect_len
  omega

/-- The mediating morphism of a cocone, or an error. -/
def pmE (s : Sp) (x : Gr) (h k : Pa) : Int :=
  if spErr s = 0 then if morErr s.B x h = 0 then if morErr s.C x k = 0 then if unErr s.B s.C = 0 then if sameP (thenP s.F h) (thenP s.G k) = true then 0 else 11 else unErr s.B s.C else morErr s.C x k else morErr s.B x h else spErr s
def pmC (s : Sp) (h k : Pa) : Pa := ⟨wrL (poG s).nodes.length ((poI s).nodes.zip h.nodes ++ (poJ s).nodes.zip k.nodes), wrL (poG s).edges.length ((poI s).edges.zip h.edges ++ (poJ s).edges.zip k.edges)⟩
def pmR (s : Sp) (x : Gr) (h k : Pa) : Pa × Int := if pmE s x h k = 0 then (pmC s h k, 0) else (⟨[], []⟩, pmE s x h k)
def pmT (y : Pa × Int) : TR := .tup [y.1.v, (false, [.int .i64 y.2])]

def c_poMed : MFunc := ⟨92, [.cell 8 true 2, .tmp 9], .seq (.region [⟨some 4, .box 0 47 (.tmp 0), none⟩, ⟨some 5, .box 1 25 (.tmp 1), none⟩, ⟨some 6, .box 2 27 (.tmp 2), none⟩, ⟨some 7, .box 3 27 (.tmp 3), none⟩, ⟨some 8, .alloc 4 27 [.nil, .nil], none⟩, ⟨some 9, .mv (.c (.one (.t (.int .i64 0)))), none⟩]) (.seq (.seq (.region [⟨some 17, .load true 10 (.tmp 4), none⟩, ⟨some 18, .call (.c (.one (.fn 95 []))) 65 [.tmp 17], none⟩, ⟨some 10, .mv (.tmp 18), none⟩]) (.seq (.region [⟨some 19, .mv (.tmp 10), none⟩, ⟨some 20, .bin .neq (.tmp 19) (.c (.one (.t (.int .i64 0)))), none⟩]) (.cond (.tmp 20) (.seq (.region [⟨some 21, .build [.nil, .nil] [], none⟩, ⟨some 22, .mv (.tmp 10), none⟩, ⟨none, .store 2 (.tmp 8) (.tmp 21), none⟩, ⟨some 9, .mv (.tmp 22), none⟩]) .ret) .skip))) (.seq (.seq (.region [⟨some 23, .fieldA 2 (.tmp 4), none⟩, ⟨some 24, .load true 2 (.tmp 23), none⟩, ⟨some 25, .load true 2 (.tmp 5), none⟩, ⟨some 26, .load true 2 (.tmp 6), none⟩, ⟨some 27, .call (.c (.one (.fn 41 []))) 260 [.tmp 24, .tmp 25, .tmp 26], none⟩, ⟨some 11, .mv (.tmp 27), none⟩]) (.seq (.region [⟨some 28, .mv (.tmp 11), none⟩, ⟨some 29, .bin .neq (.tmp 28) (.c (.one (.t (.int .i64 0)))), none⟩]) (.cond (.tmp 29) (.seq (.region [⟨some 30, .build [.nil, .nil] [], none⟩, ⟨some 31, .mv (.tmp 11), none⟩, ⟨none, .store 2 (.tmp 8) (.tmp 30), none⟩, ⟨some 9, .mv (.tmp 31), none⟩]) .ret) .skip))) (.seq (.seq (.region [⟨some 32, .fieldA 4 (.tmp 4), none⟩, ⟨some 33, .load true 2 (.tmp 32), none⟩, ⟨some 34, .load true 2 (.tmp 5), none⟩, ⟨some 35, .load true 2 (.tmp 7), none⟩, ⟨some 36, .call (.c (.one (.fn 41 []))) 452 [.tmp 33, .tmp 34, .tmp 35], none⟩, ⟨some 12, .mv (.tmp 36), none⟩]) (.seq (.region [⟨some 37, .mv (.tmp 12), none⟩, ⟨some 38, .bin .neq (.tmp 37) (.c (.one (.t (.int .i64 0)))), none⟩]) (.cond (.tmp 38) (.seq (.region [⟨some 39, .build [.nil, .nil] [], none⟩, ⟨some 40, .mv (.tmp 12), none⟩, ⟨none, .store 2 (.tmp 8) (.tmp 39), none⟩, ⟨some 9, .mv (.tmp 40), none⟩]) .ret) .skip))) (.seq (.region [⟨some 42, .load true 10 (.tmp 4), none⟩, ⟨some 43, .call (.c (.one (.fn 96 []))) 641 [.tmp 42], none⟩, ⟨some 41, .mv (.tmp 43), none⟩, ⟨some 44, .extract (.tmp 41) 0, none⟩, ⟨some 45, .extract (.tmp 41) 1, none⟩, ⟨some 46, .extract (.tmp 41) 2, none⟩, ⟨some 47, .extract (.tmp 41) 3, none⟩, ⟨some 13, .alloc 647 25 [.nil, .nil], none⟩, ⟨some 14, .alloc 648 27 [.nil, .nil], none⟩, ⟨some 15, .alloc 649 27 [.nil, .nil], none⟩, ⟨none, .store 2 (.tmp 13) (.tmp 44), none⟩, ⟨none, .store 2 (.tmp 14) (.tmp 45), none⟩, ⟨none, .store 2 (.tmp 15) (.tmp 46), none⟩, ⟨some 16, .mv (.tmp 47), none⟩]) (.seq (.seq (.region [⟨some 48, .mv (.tmp 16), none⟩, ⟨some 49, .bin .neq (.tmp 48) (.c (.one (.t (.int .i64 0)))), none⟩]) (.cond (.tmp 49) (.seq (.region [⟨some 50, .build [.nil, .nil] [], none⟩, ⟨some 51, .mv (.tmp 16), none⟩, ⟨none, .store 2 (.tmp 8) (.tmp 50), none⟩, ⟨some 9, .mv (.tmp 51), none⟩]) .ret) .skip)) (.seq (.seq (.draw [[], [0], [], [1, 2], [], [4], [], [5, 6, 3], [3, 7, 7], [8]] [⟨some 52, .fieldA 6 (.tmp 4), none⟩, ⟨some 53, .load true 2 (.tmp 52), none⟩, ⟨some 54, .load true 2 (.tmp 6), none⟩, ⟨some 55, .call (.c (.one (.fn 136 []))) 835 [.tmp 53, .tmp 54], none⟩, ⟨some 56, .fieldA 8 (.tmp 4), none⟩, ⟨some 57, .load true 2 (.tmp 56), none⟩, ⟨some 58, .load true 2 (.tmp 7), none⟩, ⟨some 59, .call (.c (.one (.fn 136 []))) 839 [.tmp 57, .tmp 58], none⟩, ⟨some 60, .call (.c (.one (.fn 80 []))) 840 [.tmp 55, .tmp 59], none⟩, ⟨some 61, .not (.tmp 60), none⟩]) (.cond (.tmp 61) (.seq (.region [⟨some 62, .build [.nil, .nil] [], none⟩, ⟨none, .store 2 (.tmp 8) (.tmp 62), none⟩, ⟨some 9, .mv (.c (.one (.t (.int .i64 11)))), none⟩]) .ret) .skip)) (.seq (.draw [[], [0], [1], [], [3], [], [5], [4, 6], [], [8], [], [10], [9, 11], [2, 7, 12], [], [14], [15], [], [17], [], [19], [18, 20], [], [22], [], [24], [23, 25], [16, 21, 26, 13], [13, 27], [28, 27, 0, 1, 2, 3, 4, 5, 6, 7, 8, 9, 10, 11, 12, 13, 14, 15, 16, 17, 18, 19, 20, 21, 22, 23, 24, 25, 26, 27, 28], [29, 0, 1, 2, 3, 4, 5, 6, 7, 8, 9, 10, 11, 12, 13, 14, 15, 16, 17, 18, 19, 20, 21, 22, 23, 24, 25, 26, 27, 28, 29]] [⟨some 63, .fieldA 0 (.tmp 13), none⟩, ⟨some 64, .load false 1 (.tmp 63), none⟩, ⟨some 65, .len (.tmp 64), none⟩, ⟨some 66, .fieldA 0 (.tmp 14), none⟩, ⟨some 67, .load false 1 (.tmp 66), none⟩, ⟨some 68, .fieldA 0 (.tmp 15), none⟩, ⟨some 69, .load false 1 (.tmp 68), none⟩, ⟨some 70, .mkrow 967 22 1 2 [.nil, .nil] [(0, (1, .tmp 67)), (1, (1, .tmp 69))], none⟩, ⟨some 71, .fieldA 0 (.tmp 6), none⟩, ⟨some 72, .load false 1 (.tmp 71), none⟩, ⟨some 73, .fieldA 0 (.tmp 7), none⟩, ⟨some 74, .load false 1 (.tmp 73), none⟩, ⟨some 75, .mkrow 972 22 1 2 [.nil, .nil] [(0, (1, .tmp 72)), (1, (1, .tmp 74))], none⟩, ⟨some 76, .call (.c (.one (.fn 137 []))) 973 [.tmp 65, .tmp 70, .tmp 75], none⟩, ⟨some 77, .fieldA 1 (.tmp 13), none⟩, ⟨some 78, .load false 1 (.tmp 77), none⟩, ⟨some 79, .len (.tmp 78), none⟩, ⟨some 80, .fieldA 1 (.tmp 14), none⟩, ⟨some 81, .load false 1 (.tmp 80), none⟩, ⟨some 82, .fieldA 1 (.tmp 15), none⟩, ⟨some 83, .load false 1 (.tmp 82), none⟩, ⟨some 84, .mkrow 981 22 1 2 [.nil, .nil] [(0, (1, .tmp 81)), (1, (1, .tmp 83))], none⟩, ⟨some 85, .fieldA 1 (.tmp 6), none⟩, ⟨some 86, .load false 1 (.tmp 85), none⟩, ⟨some 87, .fieldA 1 (.tmp 7), none⟩, ⟨some 88, .load false 1 (.tmp 87), none⟩, ⟨some 89, .mkrow 986 22 1 2 [.nil, .nil] [(0, (1, .tmp 86)), (1, (1, .tmp 88))], none⟩, ⟨some 90, .call (.c (.one (.fn 137 []))) 987 [.tmp 79, .tmp 84, .tmp 89], none⟩, ⟨some 91, .build [.nil, .nil] [(0, (1, .tmp 76)), (1, (1, .tmp 90))], none⟩, ⟨none, .store 2 (.tmp 8) (.tmp 91), none⟩, ⟨some 9, .mv (.c (.one (.t (.int .i64 0)))), none⟩]) .ret)))))))⟩
theorem k_poMed : cFn Tryz.prog Tryz.f98 = some c_poMed := by kernel_rfl
set_option maxHeartbeats 4000000 in
theorem poMed_ok (s : Sp) (x : Gr) (h k : Pa) (ts : TinySp s) (tx : tinyG x) (th : tinyP h) (tk : tinyP k) : CallOK Tryz.prog 98 [s.v, x.v, h.v, k.v] (pmT (pmR s x h k)) := by
  refine callOK_W (callS_W (by kernel_rfl) Tryz.func98 k_poMed (callable_of Tryz.func98 (by kernel_rfl)) (by simp [c_poMed]) ?_)
  simp [c_poMed, Sp.v, Sp.cs]
  refine callS_tree (pspan_ok s ts) ?_ ?_ ?_
  · rfl
  · rfl
  by_cases h1 : spErr s = 0
  case neg =>
    have e : pmR s x h k = (⟨[], []⟩, spErr s) := by simp [pmR, pmE, h1]
    simp [h1, pmT, e]
  have ok := spErr_ok h1
  simp [h1]
  refine callS_tree (mvalid_ok s.B x h ts.B tx th) ?_ ?_ ?_
  · rfl
  · rfl
  by_cases h2 : morErr s.B x h = 0
  case neg =>
    have e : pmR s x h k = (⟨[], []⟩, morErr s.B x h) := by simp [pmR, pmE, h1, h2]
    simp [h2, pmT, e]
  simp [h2]
  refine callS_tree (mvalid_ok s.C x k ts.C tx tk) ?_ ?_ ?_
  · rfl
  · rfl
  by_cases h3 : morErr s.C x k = 0
  case neg =>
    have e : pmR s x h k = (⟨[], []⟩, morErr s.C x k) := by simp [pmR, pmE, h1, h2, h3]
    simp [h3, pmT, e]
  have m1 := mor_ok h2
  have m2 := mor_ok h3
  have l1 := m1.ln
  have l2 := m2.ln
  have l3 := m1.le
  have l4 := m2.le
  simp [h3]
  refine callS_tree (pglue_ok s ts ok) ?_ ?_ ?_
  · rfl
  · rfl
  by_cases h4 : unErr s.B s.C = 0
  case neg =>
    have e : pmR s x h k = (⟨[], []⟩, unErr s.B s.C) := by simp [pmR, pmE, h1, h2, h3, h4]
    have e2 : gluR s = (⟨[], []⟩, ⟨[], []⟩, ⟨[], []⟩, unErr s.B s.C) := by simp [gluR, h4]
    simp [h4, gluT, e2, pmT, e]
  have e2 : gluR s = (poG s, poI s, poJ s, 0) := by simp [gluR, h4]
  obtain ⟨g1, g2⟩ := poG_few h4
  have i1 := poI_len (s := s)
  have j1 := poJ_len (s := s)
  have tn : tiny (poG s).nodes.length := by simp only [tiny]; omega
  have te : tiny (poG s).edges.length := by simp only [tiny]; omega
  simp [dw0, dw1, dw2, dw3, gluT, e2]
  refine dCall_ok (pthen_ok s.F h ts.F (ok.F.fits m1)) ?_ ?_ ?_
  · rfl
  · rfl
  simp [dw0, dw1, dw2, dw3]
  refine dCall_ok (pthen_ok s.G k ts.G (ok.G.fits m2)) ?_ ?_ ?_
  · rfl
  · rfl
  simp [dw0, dw1, dw2, dw3]
  refine dCall_ok (msame_ok (thenP s.F h) (thenP s.G k) (thenP_tiny ts.F) (thenP_tiny ts.G)) ?_ ?_ ?_
  · rfl
  · rfl
  cases hs : sameP (thenP s.F h) (thenP s.G k)
  · have e : pmR s x h k = (⟨[], []⟩, 11) := by simp [pmR, pmE, h1, h2, h3, h4, hs]
    simp [dw0, dw1, dw2, dw3, pmT, e]
    rfl
  have e : pmR s x h k = (pmC s h k, 0) := by simp [pmR, pmE, h1, h2, h3, h4, hs]
  simp [dw0, dw1, dw2, dw3, pmT, e]
  refine ⟨rfl, ?_⟩
  refine dCall_ok (filled_ok (poG s).nodes.length (poI s).nodes (poJ s).nodes h.nodes k.nodes tn (poI_nin ok) (poJ_nin ok) (by omega) (by omega) (by have := ts.B.1; simp only [tiny] at *; omega) (by have := ts.C.1; simp only [tiny] at *; omega)) ?_ ?_ ?_
  · rfl
  · rfl
  simp [dw0, dw1, dw2, dw3]
  refine dCall_ok (filled_ok (poG s).edges.length (poI s).edges (poJ s).edges h.edges k.edges te (poI_ein ok) (poJ_ein ok) (by omega) (by omega) (by have := ts.B.2; simp only [tiny] at *; omega) (by have := ts.C.2; simp only [tiny] at *; omega)) ?_ ?_ ?_
  · rfl
  · rfl
  simp [dw0, dw1, dw2, dw3, pmC]
  rfl

theorem pmE_ok {s : Sp} {x : Gr} {h k : Pa} (e : pmE s x h k = 0) : spErr s = 0 ∧ morErr s.B x h = 0 ∧ morErr s.C x k = 0 ∧ unErr s.B s.C = 0 ∧ sameP (thenP s.F h) (thenP s.G k) = true := by
  unfold pmE at e
  split at e
  · split at e
    · split at e
      · split at e
        · split at e
          · exact ⟨by assumption, by assumption, by assumption, by assumption, by assumption⟩
          · cases e
        · exact absurd e (by assumption)
      · exact absurd e (by assumption)
    · exact absurd e (by assumption)
  · exact absurd e (by assumption)
theorem poG_tiny {s : Sp} (h : unErr s.B s.C = 0) : tinyG (poG s) := by
  obtain ⟨h1, h2⟩ := poG_few h
  exact ⟨by simp only [tiny]; omega, by simp only [tiny]; omega⟩
theorem pmC_tiny {s : Sp} {h k : Pa} (e : unErr s.B s.C = 0) : tinyP (pmC s h k) := ⟨by simp only [pmC, wrL_len]; exact (poG_tiny e).1, by simp only [pmC, wrL_len]; exact (poG_tiny e).2⟩

/-- Is a cocone a pushout? -/
def poChk (s : Sp) (d : Gr) (h k : Pa) : Bool := decide (pmE s d h k = 0) && (injB (poG s) d (pmC s h k) && surjB (poG s) d (pmC s h k))

def c_poCheck : MFunc := ⟨45, [.tmp 8], .seq (.region [⟨some 4, .box 0 47 (.tmp 0), none⟩, ⟨some 5, .box 1 25 (.tmp 1), none⟩, ⟨some 6, .box 2 27 (.tmp 2), none⟩, ⟨some 7, .box 3 27 (.tmp 3), none⟩, ⟨some 8, .mv (.c (.one (.t (.bool false)))), none⟩]) (.seq (.region [⟨some 15, .load true 10 (.tmp 4), none⟩, ⟨some 16, .load true 2 (.tmp 5), none⟩, ⟨some 17, .load true 2 (.tmp 6), none⟩, ⟨some 18, .load true 2 (.tmp 7), none⟩, ⟨some 19, .call (.c (.one (.fn 98 []))) 68 [.tmp 15, .tmp 16, .tmp 17, .tmp 18], none⟩, ⟨some 14, .mv (.tmp 19), none⟩, ⟨some 20, .extract (.tmp 14) 0, none⟩, ⟨some 21, .extract (.tmp 14) 1, none⟩, ⟨some 9, .alloc 72 27 [.nil, .nil], none⟩, ⟨none, .store 2 (.tmp 9) (.tmp 20), none⟩, ⟨some 10, .mv (.tmp 21), none⟩]) (.seq (.seq (.region [⟨some 22, .mv (.tmp 10), none⟩, ⟨some 23, .bin .neq (.tmp 22) (.c (.one (.t (.int .i64 0)))), none⟩]) (.cond (.tmp 23) (.seq (.region [⟨some 8, .mv (.c (.one (.t (.bool false)))), none⟩]) .ret) .skip)) (.seq (.region [⟨some 25, .load true 10 (.tmp 4), none⟩, ⟨some 26, .call (.c (.one (.fn 96 []))) 257 [.tmp 25], none⟩, ⟨some 24, .mv (.tmp 26), none⟩, ⟨some 27, .extract (.tmp 24) 0, none⟩, ⟨some 28, .extract (.tmp 24) 1, none⟩, ⟨some 29, .extract (.tmp 24) 2, none⟩, ⟨some 30, .extract (.tmp 24) 3, none⟩, ⟨some 11, .alloc 263 25 [.nil, .nil], none⟩, ⟨some 12, .alloc 264 27 [.nil, .nil], none⟩, ⟨some 13, .alloc 265 27 [.nil, .nil], none⟩, ⟨none, .store 2 (.tmp 11) (.tmp 27), none⟩, ⟨none, .store 2 (.tmp 12) (.tmp 28), none⟩, ⟨none, .store 2 (.tmp 13) (.tmp 29), none⟩, ⟨some 10, .mv (.tmp 30), none⟩]) (.seq (.region [⟨some 31, .mv (.tmp 10), none⟩, ⟨some 32, .bin .eql (.tmp 31) (.c (.one (.t (.int .i64 0)))), none⟩, ⟨some 33, .mv (.tmp 32), none⟩, ⟨some 34, .load true 2 (.tmp 11), some (33, true)⟩, ⟨some 35, .load true 2 (.tmp 5), some (33, true)⟩, ⟨some 36, .load true 2 (.tmp 9), some (33, true)⟩, ⟨some 37, .call (.c (.one (.fn 27 []))) 326 [.tmp 34, .tmp 35, .tmp 36], some (33, true)⟩, ⟨some 38, .pick (.tmp 33) (.tmp 37) (.c (.one (.t (.bool false)))), none⟩, ⟨some 39, .mv (.tmp 38), none⟩, ⟨some 40, .load true 2 (.tmp 11), some (39, true)⟩, ⟨some 41, .load true 2 (.tmp 5), some (39, true)⟩, ⟨some 42, .load true 2 (.tmp 9), some (39, true)⟩, ⟨some 43, .call (.c (.one (.fn 99 []))) 332 [.tmp 40, .tmp 41, .tmp 42], some (39, true)⟩, ⟨some 44, .pick (.tmp 39) (.tmp 43) (.c (.one (.t (.bool false)))), none⟩, ⟨some 8, .mv (.tmp 44), none⟩]) .ret))))⟩
theorem k_poCheck : cFn Tryz.prog Tryz.f57 = some c_poCheck := by kernel_rfl
theorem poCheck_ok (s : Sp) (x : Gr) (h k : Pa) (ts : TinySp s) (tx : tinyG x) (th : tinyP h) (tk : tinyP k) : CallOK Tryz.prog 57 [s.v, x.v, h.v, k.v] (.sv (false, [.bool (poChk s x h k)])) := by
  refine callOK_W (callS_W (by kernel_rfl) Tryz.func57 k_poCheck (callable_of Tryz.func57 (by kernel_rfl)) (by simp [c_poCheck]) ?_)
  simp [c_poCheck, Sp.v, Sp.cs]
  refine callS_tree (poMed_ok s x h k ts tx th tk) ?_ ?_ ?_
  · rfl
  · rfl
  by_cases h1 : pmE s x h k = 0
  case neg =>
    have e : pmR s x h k = (⟨[], []⟩, pmE s x h k) := by simp [pmR, h1]
    simp [pmT, e, h1, poChk]
  have e : pmR s x h k = (pmC s h k, 0) := by simp [pmR, h1]
  obtain ⟨q1, q2, q3, q4, q5⟩ := pmE_ok h1
  have e2 : gluR s = (poG s, poI s, poJ s, 0) := by simp [gluR, q4]
  simp [pmT, e, h1]
  refine callS_tree (pglue_ok s ts (spErr_ok q1)) ?_ ?_ ?_
  · rfl
  · rfl
  simp [gluT, e2]
  refine callS_tree (injX_ok (poG s) x (pmC s h k) (poG_tiny q4) tx (pmC_tiny q4)) ?_ ?_ ?_
  · rfl
  · rfl
  cases h3 : injB (poG s) x (pmC s h k)
  · simp [poChk, h3]
  simp
  refine callS_tree (surjX_ok (poG s) x (pmC s h k) (poG_tiny q4) tx (pmC_tiny q4)) ?_ ?_ ?_
  · rfl
  · rfl
  simp [poChk, h1, h3]
end Go.Proofs.YthcnpnogfblkcaaGreat

/- Contract: the kind of a square. -/
namespace Go.Proofs.YthcnpnogfblkcaaGreat
open Abs
set_option linter.unusedSimpArgs false
set_option linter.unusedVariables false
attribute [local simp] rn0 rn1 rn2 rn3 rn4 rn5 rn6 rn7 evOp nests Arg.ev St.val St.set St.new sliceOf binInt2 binInt AV.cells rdAt St.live retOf resOf resAll treeOf treeCell treeCells treeTups untree frameOf TV.av TR.av ints edgs prs fillV splice intsOf trees V1.tree bx Gr.v Pa.v

def downS (s : Sq) : Sp := ⟨s.A, s.B, s.C, s.F, s.G⟩
def upS (s : Sq) : Co := ⟨s.B, s.C, s.D, s.H, s.K⟩
theorem TinySq.down {s : Sq} (h : TinySq s) : TinySp (downS s) := ⟨h.A, h.B, h.C, h.F, h.G⟩
theorem TinySq.up {s : Sq} (h : TinySq s) : TinyCo (upS s) := ⟨h.B, h.C, h.D, h.H, h.K⟩
def kindN (s : Sq) : Int := (if poChk (downS s) s.D s.H s.K = true then 1 else 0) + (if pbChk (upS s) s.A s.F s.G = true then 2 else 0)
/-- The kind of a square, or an error. -/
def kindR (s : Sq) : Int × Int :=
  if sqErr s = 0 then if commB s = true then if poErr (downS s) = 0 then if pbErr (upS s) = 0 then (kindN s, 0) else (0, pbErr (upS s)) else (0, poErr (downS s)) else (0, 0) else (0, sqErr s)
def kindT (x : Int × Int) : TR := .tup [(false, [.int .i64 x.1]), (false, [.int .i64 x.2])]

def c_sKind : MFunc := ⟨87, [.tmp 2, .tmp 3], .seq (.region [⟨some 1, .box 0 29 (.tmp 0), none⟩, ⟨some 2, .mv (.c (.one (.t (.int .i64 0)))), none⟩, ⟨some 3, .mv (.c (.one (.t (.int .i64 0)))), none⟩]) (.seq (.seq (.region [⟨some 16, .load true 16 (.tmp 1), none⟩, ⟨some 17, .call (.c (.one (.fn 40 []))) 65 [.tmp 16], none⟩, ⟨some 4, .mv (.tmp 17), none⟩]) (.seq (.region [⟨some 18, .mv (.tmp 4), none⟩, ⟨some 19, .bin .neq (.tmp 18) (.c (.one (.t (.int .i64 0)))), none⟩]) (.cond (.tmp 19) (.seq (.region [⟨some 20, .mv (.tmp 4), none⟩, ⟨some 2, .mv (.c (.one (.t (.int .i64 0)))), none⟩, ⟨some 3, .mv (.tmp 20), none⟩]) .ret) .skip))) (.seq (.seq (.region [⟨some 21, .load true 16 (.tmp 1), none⟩, ⟨some 22, .call (.c (.one (.fn 42 []))) 257 [.tmp 21], none⟩, ⟨some 23, .not (.tmp 22), none⟩]) (.cond (.tmp 23) (.seq (.region [⟨some 2, .mv (.c (.one (.t (.int .i64 0)))), none⟩, ⟨some 3, .mv (.c (.one (.t (.int .i64 0)))), none⟩]) .ret) .skip)) (.seq (.region [⟨some 24, .fieldA 0 (.tmp 1), none⟩, ⟨some 25, .load true 2 (.tmp 24), none⟩, ⟨some 26, .fieldA 2 (.tmp 1), none⟩, ⟨some 27, .load true 2 (.tmp 26), none⟩, ⟨some 28, .fieldA 4 (.tmp 1), none⟩, ⟨some 29, .load true 2 (.tmp 28), none⟩, ⟨some 30, .fieldA 8 (.tmp 1), none⟩, ⟨some 31, .load true 2 (.tmp 30), none⟩, ⟨some 32, .fieldA 10 (.tmp 1), none⟩, ⟨some 33, .load true 2 (.tmp 32), none⟩, ⟨some 34, .build [.nil, .nil, .nil, .nil, .nil, .nil, .nil, .nil, .nil, .nil] [(0, (2, .tmp 25)), (2, (2, .tmp 27)), (4, (2, .tmp 29)), (6, (2, .tmp 31)), (8, (2, .tmp 33))], none⟩, ⟨some 5, .alloc 395 47 [.nil, .nil, .nil, .nil, .nil, .nil, .nil, .nil, .nil, .nil], none⟩, ⟨none, .store 10 (.tmp 5) (.tmp 34), none⟩]) (.seq (.region [⟨some 35, .fieldA 2 (.tmp 1), none⟩, ⟨some 36, .load true 2 (.tmp 35), none⟩, ⟨some 37, .fieldA 4 (.tmp 1), none⟩, ⟨some 38, .load true 2 (.tmp 37), none⟩, ⟨some 39, .fieldA 6 (.tmp 1), none⟩, ⟨some 40, .load true 2 (.tmp 39), none⟩, ⟨some 41, .fieldA 12 (.tmp 1), none⟩, ⟨some 42, .load true 2 (.tmp 41), none⟩, ⟨some 43, .fieldA 14 (.tmp 1), none⟩, ⟨some 44, .load true 2 (.tmp 43), none⟩, ⟨some 45, .build [.nil, .nil, .nil, .nil, .nil, .nil, .nil, .nil, .nil, .nil] [(0, (2, .tmp 36)), (2, (2, .tmp 38)), (4, (2, .tmp 40)), (6, (2, .tmp 42)), (8, (2, .tmp 44))], none⟩, ⟨some 6, .alloc 459 80 [.nil, .nil, .nil, .nil, .nil, .nil, .nil, .nil, .nil, .nil], none⟩, ⟨none, .store 10 (.tmp 6) (.tmp 45), none⟩]) (.seq (.seq (.region [⟨some 47, .load true 10 (.tmp 5), none⟩, ⟨some 48, .call (.c (.one (.fn 55 []))) 513 [.tmp 47], none⟩, ⟨some 46, .mv (.tmp 48), none⟩, ⟨some 49, .extract (.tmp 46) 0, none⟩, ⟨some 50, .extract (.tmp 46) 1, none⟩, ⟨some 51, .extract (.tmp 46) 2, none⟩, ⟨some 52, .extract (.tmp 46) 3, none⟩, ⟨some 7, .alloc 519 25 [.nil, .nil], none⟩, ⟨some 8, .alloc 520 27 [.nil, .nil], none⟩, ⟨some 9, .alloc 521 27 [.nil, .nil], none⟩, ⟨none, .store 2 (.tmp 7) (.tmp 49), none⟩, ⟨none, .store 2 (.tmp 8) (.tmp 50), none⟩, ⟨none, .store 2 (.tmp 9) (.tmp 51), none⟩, ⟨some 10, .mv (.tmp 52), none⟩]) (.seq (.region [⟨some 53, .mv (.tmp 10), none⟩, ⟨some 54, .bin .neq (.tmp 53) (.c (.one (.t (.int .i64 0)))), none⟩]) (.cond (.tmp 54) (.seq (.region [⟨some 55, .mv (.tmp 10), none⟩, ⟨some 2, .mv (.c (.one (.t (.int .i64 0)))), none⟩, ⟨some 3, .mv (.tmp 55), none⟩]) .ret) .skip))) (.seq (.seq (.region [⟨some 57, .load true 10 (.tmp 6), none⟩, ⟨some 58, .call (.c (.one (.fn 56 []))) 705 [.tmp 57], none⟩, ⟨some 56, .mv (.tmp 58), none⟩, ⟨some 59, .extract (.tmp 56) 0, none⟩, ⟨some 60, .extract (.tmp 56) 1, none⟩, ⟨some 61, .extract (.tmp 56) 2, none⟩, ⟨some 62, .extract (.tmp 56) 3, none⟩, ⟨some 11, .alloc 711 25 [.nil, .nil], none⟩, ⟨some 12, .alloc 712 27 [.nil, .nil], none⟩, ⟨some 13, .alloc 713 27 [.nil, .nil], none⟩, ⟨none, .store 2 (.tmp 11) (.tmp 59), none⟩, ⟨none, .store 2 (.tmp 12) (.tmp 60), none⟩, ⟨none, .store 2 (.tmp 13) (.tmp 61), none⟩, ⟨some 14, .mv (.tmp 62), none⟩]) (.seq (.region [⟨some 63, .mv (.tmp 14), none⟩, ⟨some 64, .bin .neq (.tmp 63) (.c (.one (.t (.int .i64 0)))), none⟩]) (.cond (.tmp 64) (.seq (.region [⟨some 65, .mv (.tmp 14), none⟩, ⟨some 2, .mv (.c (.one (.t (.int .i64 0)))), none⟩, ⟨some 3, .mv (.tmp 65), none⟩]) .ret) .skip))) (.seq (.region [⟨some 15, .mv (.c (.one (.t (.int .i64 0)))), none⟩]) (.seq (.seq (.region [⟨some 66, .load true 10 (.tmp 5), none⟩, ⟨some 67, .fieldA 6 (.tmp 1), none⟩, ⟨some 68, .load true 2 (.tmp 67), none⟩, ⟨some 69, .fieldA 12 (.tmp 1), none⟩, ⟨some 70, .load true 2 (.tmp 69), none⟩, ⟨some 71, .fieldA 14 (.tmp 1), none⟩, ⟨some 72, .load true 2 (.tmp 71), none⟩, ⟨some 73, .call (.c (.one (.fn 57 []))) 967 [.tmp 66, .tmp 68, .tmp 70, .tmp 72], none⟩]) (.cond (.tmp 73) (.region [⟨some 74, .mv (.tmp 15), none⟩, ⟨some 75, .bin .add (.tmp 74) (.c (.one (.t (.int .i64 1)))), none⟩, ⟨some 15, .mv (.tmp 75), none⟩]) .skip)) (.seq (.seq (.region [⟨some 76, .load true 10 (.tmp 6), none⟩, ⟨some 77, .fieldA 0 (.tmp 1), none⟩, ⟨some 78, .load true 2 (.tmp 77), none⟩, ⟨some 79, .fieldA 8 (.tmp 1), none⟩, ⟨some 80, .load true 2 (.tmp 79), none⟩, ⟨some 81, .fieldA 10 (.tmp 1), none⟩, ⟨some 82, .load true 2 (.tmp 81), none⟩, ⟨some 83, .call (.c (.one (.fn 58 []))) 1095 [.tmp 76, .tmp 78, .tmp 80, .tmp 82], none⟩]) (.cond (.tmp 83) (.region [⟨some 84, .mv (.tmp 15), none⟩, ⟨some 85, .bin .add (.tmp 84) (.c (.one (.t (.int .i64 2)))), none⟩, ⟨some 15, .mv (.tmp 85), none⟩]) .skip)) (.seq (.region [⟨some 86, .mv (.tmp 15), none⟩, ⟨some 2, .mv (.tmp 86), none⟩, ⟨some 3, .mv (.c (.one (.t (.int .i64 0)))), none⟩]) .ret))))))))))⟩
theorem k_sKind : cFn Tryz.prog Tryz.f21 = some c_sKind := by kernel_rfl
set_option maxHeartbeats 4000000 in
theorem sKind_ok (s : Sq) (h : TinySq s) : CallOK Tryz.prog 21 [s.v] (kindT (kindR s)) := by
  refine callOK_W (callS_W (by kernel_rfl) Tryz.func21 k_sKind (callable_of Tryz.func21 (by kernel_rfl)) (by simp [c_sKind]) ?_)
  simp [c_sKind, Sq.v, Sq.cs]
  refine callS_tree (svalidS_ok s h) ?_ ?_ ?_
  · rfl
  · rfl
  by_cases h1 : sqErr s = 0
  case neg =>
    have e : kindR s = (0, sqErr s) := by simp [kindR, h1]
    simp [h1, kindT, e]
  simp [h1]
  refine callS_tree (scomm_ok s h (sqErr_ok h1)) ?_ ?_ ?_
  · rfl
  · rfl
  cases h2 : commB s
  · have e : kindR s = (0, 0) := by simp [kindR, h1, h2]
    simp [kindT, e]
  simp
  refine callS_tree (poOf_ok (downS s) h.down) ?_ ?_ ?_
  · rfl
  · rfl
  by_cases h3 : poErr (downS s) = 0
  case neg =>
    have e : kindR s = (0, poErr (downS s)) := by simp [kindR, h1, h2, h3]
    have e2 : poR (downS s) = (⟨[], []⟩, ⟨[], []⟩, ⟨[], []⟩, poErr (downS s)) := by simp [poR, h3]
    simp [gluT, e2, h3, kindT, e]
  have e2 : poR (downS s) = (poG (downS s), poI (downS s), poJ (downS s), 0) := by simp [poR, h3]
  simp [gluT, e2]
  refine callS_tree (pOf_ok (upS s) h.up) ?_ ?_ ?_
  · rfl
  · rfl
  by_cases h4 : pbErr (upS s) = 0
  case neg =>
    have e : kindR s = (0, pbErr (upS s)) := by simp [kindR, h1, h2, h3, h4]
    have e3 : pbR (upS s) = (⟨[], []⟩, ⟨[], []⟩, ⟨[], []⟩, pbErr (upS s)) := by simp [pbR, h4]
    simp [pbRt, e3, h4, kindT, e]
  have e3 : pbR (upS s) = (pbG (upS s), ⟨fstL (pbNs (upS s)), fstL (pbEs (upS s))⟩, ⟨sndL (pbNs (upS s)), sndL (pbEs (upS s))⟩, 0) := by simp [pbR, h4]
  have e : kindR s = (kindN s, 0) := by simp [kindR, h1, h2, h3, h4]
  simp [pbRt, e3]
  refine callS_tree (poCheck_ok (downS s) s.D s.H s.K h.down h.D h.H h.K) ?_ ?_ ?_
  · rfl
  · rfl
  cases h5 : poChk (downS s) s.D s.H s.K
  all_goals
    simp
    refine callS_tree (pbCheck_ok (upS s) s.A s.F s.G h.up h.A h.F h.G) ?_ ?_ ?_
    · rfl
    · rfl
    cases h6 : pbChk (upS s) s.A s.F s.G
    all_goals
      have w1 : IntKind.i64.wrap (0 + 1) = 1 := by decide
      have w2 : IntKind.i64.wrap (0 + 2) = 2 := by decide
      have w3 : IntKind.i64.wrap (1 + 2) = 3 := by decide
      have w4 : IntKind.i64.wrap 1 = 1 := by decide
      have w5 : IntKind.i64.wrap 2 = 2 := by decide
      have w6 : IntKind.i64.wrap 3 = 3 := by decide
      simp [kindT, e, kindN, h5, h6, w1, w2, w3, w4, w5, w6]
end Go.Proofs.YthcnpnogfblkcaaGreat

/- Contracts: the reference's generated partitions and unions of graphs. -/
namespace Go.Proofs.YthcnpnogfblkcaaGreat
open Abs
set_option linter.unusedSimpArgs false
set_option linter.unusedVariables false
attribute [local simp] rn0 rn1 rn2 rn3 rn4 rn5 rn6 rn7 evOp nests Arg.ev St.val St.set St.new sliceOf binInt2 binInt AV.cells rdAt St.live retOf resOf resAll treeOf treeCell treeCells treeTups untree frameOf TV.av TR.av ints edgs prs fillV splice intsOf trees V1.tree bx Gr.v Pa.v opRd opWr opNew opNewR opArgs argsRd argRd Arg.rd AV.refs V1.refs refsL dstL

def c_numbers05 : MFunc := ⟨19, [.tmp 4], .seq (.region [⟨some 4, .mv (.c (.one .nil)), none⟩]) (.seq (.region [⟨some 5, .mv (.c (.one .nil)), none⟩]) (.seq (.seq (.region [⟨some 6, .mv (.c (.one (.t (.int .i64 0)))), none⟩]) (.block 0 (.loop (.seq (.seq (.region [⟨some 7, .mv (.tmp 6), none⟩, ⟨some 8, .mv (.tmp 1), none⟩, ⟨some 9, .bin .lss (.tmp 7) (.tmp 8), none⟩]) (.cond (.tmp 9) .skip (.exit 0))) (.seq (.block 1 (.region [⟨some 12, .mv (.tmp 5), none⟩, ⟨some 13, .mv (.tmp 0), none⟩, ⟨some 14, .mv (.tmp 6), none⟩, ⟨some 15, .bin .add (.tmp 13) (.tmp 14), none⟩, ⟨some 16, .mkrow 324 3 1 1 [.t (.int .i64 0)] [(0, (1, .tmp 15))], none⟩, ⟨some 17, .append 325 3 1 8 (.tmp 12) (.tmp 16), none⟩, ⟨some 5, .mv (.tmp 17), none⟩])) (.region [⟨some 10, .mv (.tmp 6), none⟩, ⟨some 11, .bin .add (.tmp 10) (.c (.one (.t (.int .i64 1)))), none⟩, ⟨some 6, .mv (.tmp 11), none⟩])))))) (.seq (.region [⟨some 18, .mv (.tmp 5), none⟩, ⟨some 4, .mv (.tmp 18), none⟩]) .ret)))⟩
theorem k_numbers05 : cFn Tryz.prog Tryz.f113 = some c_numbers05 := by kernel_rfl
theorem numbers05_row (a n : Nat) (ha : tiny a) (hn : tiny n) : RowI Tryz.prog 113 [(false, [.int .i64 a]), (false, [.int .i64 n])] 3 (numL a n) := by
  refine callRow_W (plain_ints _) (by simp) (by omega) (callS_W (by kernel_rfl) Tryz.func113 k_numbers05 (callable_of Tryz.func113 (by kernel_rfl)) (by simp [c_numbers05]) ?_)
  simp [c_numbers05]
  refine loopW_count 6 n (fun k S => S.fr 0 = .one (.t (.int .i64 a)) ∧ S.fr 1 = .one (.t (.int .i64 n)) ∧ outR 325 3 1 (numL a k).length ((numL a k).map (.int .i64)) S.ob (S.fr 5)) hn.small ?_ ?_ ?_
  · simp [numL, outR_nil]
  · rintro k S hlt hw hc ⟨f0, f1, ho⟩
    have z := numL_len (a := a) (n := k)
    simp only [tiny] at hn ha
    have v1 : IntKind.i64.wrap ((a : Int) + k) = ((a + k : Nat) : Int) := by rw [wrap64_id] <;> omega
    simp [f0, f1, hc, hlt, v1]
    refine kApp_grow (ts := [.int .i64 ((a + k : Nat) : Int)]) (by simp) (ho.keep fun g => by simp) (by omega) rfl (by omega) (by omega) fun E hE hob hcnt => ?_
    simp [f0, f1, hc, hw, numL_succ]
    simpa using hE
  · rintro S hc ⟨f0, f1, ho⟩
    obtain ⟨u, hu⟩ := ho.one
    rw [hu] at ho
    simp [f0, f1, hc, hu]
    exact ho.rowIs

/-- Pairs out of two lists. -/
def zpK (f g : List Int) (k : Nat) : List (Int × Int) := (List.range k).map fun i => (nth f i, nth g i)
theorem zpK_succ {f g : List Int} {k : Nat} : zpK f g (k + 1) = zpK f g k ++ [(nth f k, nth g k)] := by simp [zpK, List.range_succ]
theorem zpK_len {f g : List Int} {k : Nat} : (zpK f g k).length = k := by simp [zpK]
theorem thru_nth' {a b : List Int} {i : Nat} (h : i < a.length) : nth (thru a b) i = nth b (nth a i).toNat := by
  rw [nth_eq (by rw [thru_len]; exact h), nth_eq h]
  simp [thru]
theorem zpK_thru {a l b r : List Int} {k : Nat} (h1 : k ≤ a.length) (h2 : k ≤ b.length) : zpK (thru a l) (thru b r) k = pgK a b l r k := by
  simp only [zpK, pgK]
  apply List.map_congr_left
  intro i hi
  simp only [List.mem_range] at hi
  rw [thru_nth' (by omega), thru_nth' (by omega)]

def c_pairs10 : MFunc := ⟨26, [.tmp 4], .seq (.region [⟨some 4, .mv (.c (.one .nil)), none⟩]) (.seq (.region [⟨some 5, .mv (.c (.one .nil)), none⟩]) (.seq (.seq (.region [⟨some 6, .mv (.c (.one (.t (.int .i64 0)))), none⟩]) (.block 0 (.loop (.seq (.seq (.region [⟨some 7, .mv (.tmp 6), none⟩, ⟨some 8, .mv (.tmp 0), none⟩, ⟨some 9, .len (.tmp 8), none⟩, ⟨some 10, .bin .lss (.tmp 7) (.tmp 9), none⟩]) (.cond (.tmp 10) .skip (.exit 0))) (.seq (.block 1 (.draw [[], [], [], [1, 2], [3], [], [], [5, 6], [7], [4, 8], [9], [0, 10], [11, 11, 0, 1, 2, 3, 4, 5, 6, 7, 8, 9, 10, 11]] [⟨some 13, .mv (.tmp 5), none⟩, ⟨some 14, .mv (.tmp 0), none⟩, ⟨some 15, .mv (.tmp 6), none⟩, ⟨some 16, .idxA 1 (.tmp 14) (.tmp 15), none⟩, ⟨some 17, .load false 1 (.tmp 16), none⟩, ⟨some 18, .mv (.tmp 1), none⟩, ⟨some 19, .mv (.tmp 6), none⟩, ⟨some 20, .idxA 1 (.tmp 18) (.tmp 19), none⟩, ⟨some 21, .load false 1 (.tmp 20), none⟩, ⟨some 22, .build [.t (.int .i64 0), .t (.int .i64 0)] [(0, (1, .tmp 17)), (1, (1, .tmp 21))], none⟩, ⟨some 23, .mkrow 330 121 2 1 [.t (.int .i64 0), .t (.int .i64 0)] [(0, (2, .tmp 22))], none⟩, ⟨some 24, .append 331 121 2 16 (.tmp 13) (.tmp 23), none⟩, ⟨some 5, .mv (.tmp 24), none⟩])) (.region [⟨some 11, .mv (.tmp 6), none⟩, ⟨some 12, .bin .add (.tmp 11) (.c (.one (.t (.int .i64 1)))), none⟩, ⟨some 6, .mv (.tmp 12), none⟩])))))) (.seq (.region [⟨some 25, .mv (.tmp 5), none⟩, ⟨some 4, .mv (.tmp 25), none⟩]) .ret)))⟩
theorem k_pairs10 : cFn Tryz.prog Tryz.f131 = some c_pairs10 := by kernel_rfl
theorem pairs10_row (f g : List Int) (hf : f.length ≤ 1000) (hg : f.length ≤ g.length) : CallRow Tryz.prog 131 [(false, [ints f]), (false, [ints g])] 121 2 (zpK f g f.length).length (prL (zpK f g f.length)) := by
  refine callRow_W (plain_prL _) (len_prL _) (by omega) (callS_W (by kernel_rfl) Tryz.func131 k_pairs10 (callable_of Tryz.func131 (by kernel_rfl)) (by simp [c_pairs10]) ?_)
  simp [c_pairs10]
  refine loopW_count 6 f.length (fun k S => S.fr 0 = .one (.t (ints f)) ∧ S.fr 1 = .one (.t (ints g)) ∧ outR 331 121 2 (zpK f g k).length (prL (zpK f g k)) S.ob (S.fr 5)) (by omega) ?_ ?_ ?_
  · simp [zpK, prL, outR_nil]
  · rintro k S hlt hw hc ⟨f0, f1, ho⟩
    have hlt' : k < g.length := by omega
    have z := zpK_len (f := f) (g := g) (k := k)
    have zs := zpK_succ (f := f) (g := g) (k := k)
    have ho0 := ho
    rcases ho with ⟨c1, _, c3⟩ | ⟨c1, gg, c3, c4⟩
    all_goals
      simp [dw0, dw1, dw2, dw3, f0, f1, c3, hc, hlt, hlt', drop_nth hlt, drop_nth hlt']
      refine kApp_grow (ts := [.int .i64 (nth f k), .int .i64 (nth g k)]) rfl (by rw [← c3]; exact ho0.keep fun g => by simp) (by omega) rfl (by omega) (by omega) fun E hE hob hcnt => ?_
      simp [dw0, dw1, dw2, dw3]
      refine ⟨rfl, ?_⟩
      simp [f0, f1, hc, hw, zs]
      simpa [prL, prC, Nat.add_assoc] using hE
  · rintro S hc ⟨f0, f1, ho⟩
    obtain ⟨u, hu⟩ := ho.one
    rw [hu] at ho
    simp [f0, f1, hc, hu]
    exact ho.rowIs

def c_gen02 : MFunc := ⟨72, [.tmp 4, .tmp 5], .seq (.region [⟨some 4, .mv (.c (.one .nil)), none⟩, ⟨some 5, .mv (.c (.one (.t (.int .i64 0)))), none⟩]) (.seq (.seq (.region [⟨some 9, .mv (.tmp 0), none⟩, ⟨some 10, .bin .gtr (.tmp 9) (.c (.one (.t (.int .i64 80)))), none⟩]) (.cond (.tmp 10) (.seq (.region [⟨some 4, .mv (.c (.one .nil)), none⟩, ⟨some 5, .mv (.c (.one (.t (.int .i64 3)))), none⟩]) .ret) .skip)) (.seq (.seq (.region [⟨some 11, .mv (.tmp 0), none⟩, ⟨some 12, .bin .lss (.tmp 11) (.c (.one (.t (.int .i64 0)))), none⟩]) (.cond (.tmp 12) (.seq (.region [⟨some 4, .mv (.c (.one .nil)), none⟩, ⟨some 5, .mv (.c (.one (.t (.int .i64 6)))), none⟩]) .ret) .skip)) (.seq (.seq (.region [⟨some 6, .mv (.c (.one (.t (.int .i64 0)))), none⟩]) (.block 0 (.loop (.seq (.seq (.region [⟨some 13, .mv (.tmp 6), none⟩, ⟨some 14, .mv (.tmp 1), none⟩, ⟨some 15, .len (.tmp 14), none⟩, ⟨some 16, .bin .lss (.tmp 13) (.tmp 15), none⟩]) (.cond (.tmp 16) .skip (.exit 0))) (.seq (.block 1 (.seq (.region [⟨some 19, .mv (.tmp 1), none⟩, ⟨some 20, .mv (.tmp 6), none⟩, ⟨some 21, .idxA 2 (.tmp 19) (.tmp 20), none⟩, ⟨some 22, .fieldA 0 (.tmp 21), none⟩, ⟨some 23, .load false 1 (.tmp 22), none⟩, ⟨some 24, .bin .lss (.tmp 23) (.c (.one (.t (.int .i64 0)))), none⟩, ⟨some 25, .mv (.tmp 24), none⟩, ⟨some 26, .mv (.tmp 1), some (25, false)⟩, ⟨some 27, .mv (.tmp 6), some (25, false)⟩, ⟨some 28, .idxA 2 (.tmp 26) (.tmp 27), some (25, false)⟩, ⟨some 29, .fieldA 0 (.tmp 28), some (25, false)⟩, ⟨some 30, .load false 1 (.tmp 29), some (25, false)⟩, ⟨some 31, .mv (.tmp 0), some (25, false)⟩, ⟨some 32, .bin .geq (.tmp 30) (.tmp 31), some (25, false)⟩, ⟨some 33, .pick (.tmp 25) (.c (.one (.t (.bool true)))) (.tmp 32), none⟩, ⟨some 34, .mv (.tmp 33), none⟩, ⟨some 35, .mv (.tmp 1), some (34, false)⟩, ⟨some 36, .mv (.tmp 6), some (34, false)⟩, ⟨some 37, .idxA 2 (.tmp 35) (.tmp 36), some (34, false)⟩, ⟨some 38, .fieldA 1 (.tmp 37), some (34, false)⟩, ⟨some 39, .load false 1 (.tmp 38), some (34, false)⟩, ⟨some 40, .bin .lss (.tmp 39) (.c (.one (.t (.int .i64 0)))), some (34, false)⟩, ⟨some 41, .pick (.tmp 34) (.c (.one (.t (.bool true)))) (.tmp 40), none⟩, ⟨some 42, .mv (.tmp 41), none⟩, ⟨some 43, .mv (.tmp 1), some (42, false)⟩, ⟨some 44, .mv (.tmp 6), some (42, false)⟩, ⟨some 45, .idxA 2 (.tmp 43) (.tmp 44), some (42, false)⟩, ⟨some 46, .fieldA 1 (.tmp 45), some (42, false)⟩, ⟨some 47, .load false 1 (.tmp 46), some (42, false)⟩, ⟨some 48, .mv (.tmp 0), some (42, false)⟩, ⟨some 49, .bin .geq (.tmp 47) (.tmp 48), some (42, false)⟩, ⟨some 50, .pick (.tmp 42) (.c (.one (.t (.bool true)))) (.tmp 49), none⟩]) (.cond (.tmp 50) (.seq (.region [⟨some 4, .mv (.c (.one .nil)), none⟩, ⟨some 5, .mv (.c (.one (.t (.int .i64 6)))), none⟩]) .ret) .skip))) (.region [⟨some 17, .mv (.tmp 6), none⟩, ⟨some 18, .bin .add (.tmp 17) (.c (.one (.t (.int .i64 1)))), none⟩, ⟨some 6, .mv (.tmp 18), none⟩])))))) (.seq (.region [⟨some 51, .mv (.tmp 0), none⟩, ⟨some 52, .call (.c (.one (.fn 105 []))) 641 [.tmp 51], none⟩, ⟨some 7, .mv (.tmp 52), none⟩]) (.seq (.seq (.region [⟨some 8, .mv (.c (.one (.t (.int .i64 0)))), none⟩]) (.block 2 (.loop (.seq (.seq (.region [⟨some 53, .mv (.tmp 8), none⟩, ⟨some 54, .mv (.tmp 1), none⟩, ⟨some 55, .len (.tmp 54), none⟩, ⟨some 56, .bin .lss (.tmp 53) (.tmp 55), none⟩]) (.cond (.tmp 56) .skip (.exit 2))) (.seq (.block 3 (.draw [[], [], [], [1, 2], [3], [4], [], [], [6, 7], [8], [9], [0, 5, 10], [11, 11, 0, 1, 2, 3, 4, 5, 6, 7, 8, 9, 10, 11]] [⟨some 59, .mv (.tmp 7), none⟩, ⟨some 60, .mv (.tmp 1), none⟩, ⟨some 61, .mv (.tmp 8), none⟩, ⟨some 62, .idxA 2 (.tmp 60) (.tmp 61), none⟩, ⟨some 63, .fieldA 0 (.tmp 62), none⟩, ⟨some 64, .load false 1 (.tmp 63), none⟩, ⟨some 65, .mv (.tmp 1), none⟩, ⟨some 66, .mv (.tmp 8), none⟩, ⟨some 67, .idxA 2 (.tmp 65) (.tmp 66), none⟩, ⟨some 68, .fieldA 1 (.tmp 67), none⟩, ⟨some 69, .load false 1 (.tmp 68), none⟩, ⟨some 70, .call (.c (.one (.fn 110 []))) 907 [.tmp 59, .tmp 64, .tmp 69], none⟩, ⟨some 7, .mv (.tmp 70), none⟩])) (.region [⟨some 57, .mv (.tmp 8), none⟩, ⟨some 58, .bin .add (.tmp 57) (.c (.one (.t (.int .i64 1)))), none⟩, ⟨some 8, .mv (.tmp 58), none⟩])))))) (.seq (.region [⟨some 71, .mv (.tmp 7), none⟩, ⟨some 4, .mv (.tmp 71), none⟩, ⟨some 5, .mv (.c (.one (.t (.int .i64 0)))), none⟩]) .ret))))))⟩
theorem k_gen02 : cFn Tryz.prog Tryz.f130 = some c_gen02 := by kernel_rfl
set_option maxHeartbeats 1000000 in
theorem gen02_ok (n : Nat) (l : List (Int × Int)) (hn : n ≤ 80) (hl : tiny l.length) (hi : pairsIn l n) : CallOK Tryz.prog 130 [(false, [.int .i64 n]), (false, [prs l])] (.tup [(false, [ints (genL n l)]), (false, [.int .i64 0])]) := by
  refine callOK_W (callS_W (by kernel_rfl) Tryz.func130 k_gen02 (callable_of Tryz.func130 (by kernel_rfl)) (by simp [c_gen02]) ?_)
  have n1 : ¬ (80 : Int) < n := by omega
  have n2 : ¬ (n : Int) < 0 := by omega
  have n3 : ¬ 80 < n := by omega
  simp [c_gen02, n1, n2, n3]
  refine loopW_count 6 l.length (fun k S => S.fr 0 = .one (.t (.int .i64 n)) ∧ S.fr 1 = .one (.t (prs l))) hl.small ?_ ?_ ?_
  · simp
  · rintro k S hlt hw hc ⟨f0, f1⟩
    obtain ⟨a1, a2, b1, b2⟩ := hi _ (pth_mem hlt)
    have hlt2 : k * 2 < l.length * 2 := by omega
    have a3 : ¬ (pth l k).1 < 0 := by omega
    have a4 : ¬ (n : Int) ≤ (pth l k).1 := by omega
    have b3 : ¬ (pth l k).2 < 0 := by omega
    have b4 : ¬ (n : Int) ≤ (pth l k).2 := by omega
    simp [f0, f1, hc, hlt, hlt2, hw, drop_prL hlt, a3, a4, b3, b4]
  · rintro S hc ⟨f0, f1⟩
    simp [f0, f1, hc]
    refine callS_tree (finest02_row n (by simp only [tiny]; omega)).ok ?_ ?_ ?_
    · rfl
    · rfl
    simp [f0, f1]
    refine loopW_count 8 l.length (fun k S => S.fr 0 = .one (.t (.int .i64 n)) ∧ S.fr 1 = .one (.t (prs l)) ∧ S.fr 7 = .one (.t (ints (genL n (l.take k))))) hl.small ?_ ?_ ?_
    · simp [genL, f0, f1]
    · rintro k S hlt hw hc ⟨f0, f1, f7⟩
      obtain ⟨a1, a2, b1, b2⟩ := hi _ (pth_mem hlt)
      obtain ⟨a, ha⟩ := Int.eq_ofNat_of_zero_le a1
      obtain ⟨b, hb⟩ := Int.eq_ofNat_of_zero_le b1
      have hlt2 : k * 2 < l.length * 2 := by omega
      have zl := genL_len (n := n) (l := l.take k)
      have zs := genL_take (n := n) hlt
      rw [ha, hb, Int.toNat_natCast, Int.toNat_natCast] at zs
      simp [dw0, dw1, dw2, dw3, f0, f1, f7, hc, hlt, hlt2, hw, drop_prL hlt, ha, hb]
      refine dCall_ok (merge02_row (genL n (l.take k)) a b (by omega) (by omega) (by simp only [tiny]; omega)).ok ?_ ?_ ?_
      · rfl
      · rfl
      simp [dw0, dw1, dw2, dw3]
      refine ⟨rfl, ?_⟩
      simp [f0, f1, f7, hc, hw, zs]
    · rintro S hc ⟨f0, f1, f7⟩
      rw [List.take_length] at f7
      simp [f0, f1, f7, hc]

theorem copied5S (g : Gr) (h : tinyG g) {ob : Nm → Option Ob} {cnt : Nat → Nat} {R : AV → (Nm → Option Ob) → (Nat → Nat) → Prop}
    (hR : ∀ v1 v2 ob' cnt', outL [67] 3 1 g.nodes.length (g.nodes.map (.int .i64)) ob' (.one v1) → outL [71] 76 3 g.edges.length (edL g.edges) ob' (.one v2) →
      (∀ a k, a ≠ 0 → a ≠ 1 → a ≠ 67 → a ≠ 71 → ob' (a, k) = ob (a, k)) → (∀ a k, k < cnt a → ob' (a, k) = ob (a, k)) → (∀ a, a ≠ 0 → a ≠ 1 → a ≠ 67 → a ≠ 71 → cnt' a = cnt a) → R (.agg [v1, v2]) ob' cnt') :
    CallS Tryz.prog 52 [g.v.av] ob cnt R := by
  refine callS_W (by kernel_rfl) Tryz.func52 k_copied5 (callable_of Tryz.func52 (by kernel_rfl)) (by simp [c_copied5]) ?_
  have h1 := h.1
  have h2 := h.2
  simp only [tiny] at h1 h2
  simp [c_copied5, dw0, dw1, dw2, dw3]
  refine kApp_nil (ts := g.nodes.map (.int .i64)) (by simp) (by simp) (by omega) (by omega) ?_
  by_cases e1 : g.nodes.length = 0 <;> by_cases e2 : g.edges.length = 0
  · have n1 : g.nodes = [] := List.eq_nil_of_length_eq_zero e1
    have n2 : g.edges = [] := List.eq_nil_of_length_eq_zero e2
    simp [dw0, dw1, dw2, dw3, rowEff, n1, n2]
    refine kApp_nil (ts := []) rfl rfl (by omega) (by omega) ?_
    simp [dw0, dw1, dw2, dw3, rowEff, n1, n2, edL]
    refine ⟨rfl, hR _ _ _ _ ?_ ?_ ?_ ?_ ?_⟩
    · exact .inl ⟨by simp [n1], by simp [n1], rfl⟩
    · exact .inl ⟨by simp [n2], by simp [n2, edL], rfl⟩
    all_goals
      first
      | (intro a k q0 q1 q2 q3; simp [upd_app, q0, q1, q2, q3]; done)
      | (intro a q0 q1 q2 q3; simp [upd_app, q0, q1, q2, q3]; done)
      | (intro a k hk
         have w0 : ¬ (a = 0 ∧ k = cnt 0) := fun q => by rw [q.1, q.2] at hk; exact Nat.lt_irrefl _ hk
         have w1 : ¬ (a = 1 ∧ k = cnt 1) := fun q => by rw [q.1, q.2] at hk; exact Nat.lt_irrefl _ hk
         have w2 : ¬ (a = 67 ∧ k = cnt 67) := fun q => by rw [q.1, q.2] at hk; exact Nat.lt_irrefl _ hk
         have w3 : ¬ (a = 71 ∧ k = cnt 71) := fun q => by rw [q.1, q.2] at hk; exact Nat.lt_irrefl _ hk
         simp [upd_app, w0, w1, w2, w3]; done)
  · have n1 : g.nodes = [] := List.eq_nil_of_length_eq_zero e1
    simp [dw0, dw1, dw2, dw3, rowEff, n1]
    refine kApp_nil (ts := edL g.edges) (by simp) (len_edL _) (by omega) (by omega) ?_
    simp [dw0, dw1, dw2, dw3, rowEff, e2, untreeT]
    refine ⟨rfl, hR _ _ _ _ ?_ ?_ ?_ ?_ ?_⟩
    · exact .inl ⟨by simp [n1], by simp [n1], rfl⟩
    · exact .inr ⟨by omega, 71, by simp, cnt 71, rfl, by simp⟩
    all_goals
      first
      | (intro a k q0 q1 q2 q3; simp [upd_app, q0, q1, q2, q3]; done)
      | (intro a q0 q1 q2 q3; simp [upd_app, q0, q1, q2, q3]; done)
      | (intro a k hk
         have w0 : ¬ (a = 0 ∧ k = cnt 0) := fun q => by rw [q.1, q.2] at hk; exact Nat.lt_irrefl _ hk
         have w1 : ¬ (a = 1 ∧ k = cnt 1) := fun q => by rw [q.1, q.2] at hk; exact Nat.lt_irrefl _ hk
         have w2 : ¬ (a = 67 ∧ k = cnt 67) := fun q => by rw [q.1, q.2] at hk; exact Nat.lt_irrefl _ hk
         have w3 : ¬ (a = 71 ∧ k = cnt 71) := fun q => by rw [q.1, q.2] at hk; exact Nat.lt_irrefl _ hk
         simp [upd_app, w0, w1, w2, w3]; done)
  · have n2 : g.edges = [] := List.eq_nil_of_length_eq_zero e2
    have n1 : ¬ g.nodes = [] := fun h => e1 (by rw [h]; rfl)
    simp [dw0, dw1, dw2, dw3, rowEff, n1, n2]
    refine kApp_nil (ts := []) rfl rfl (by omega) (by omega) ?_
    simp [dw0, dw1, dw2, dw3, rowEff, n1, n2, edL, untreeT, untreeI]
    refine ⟨rfl, hR _ _ _ _ ?_ ?_ ?_ ?_ ?_⟩
    · exact .inr ⟨by omega, 67, by simp, cnt 67, rfl, by simp⟩
    · exact .inl ⟨by simp [n2], by simp [n2, edL], rfl⟩
    all_goals
      first
      | (intro a k q0 q1 q2 q3; simp [upd_app, q0, q1, q2, q3]; done)
      | (intro a q0 q1 q2 q3; simp [upd_app, q0, q1, q2, q3]; done)
      | (intro a k hk
         have w0 : ¬ (a = 0 ∧ k = cnt 0) := fun q => by rw [q.1, q.2] at hk; exact Nat.lt_irrefl _ hk
         have w1 : ¬ (a = 1 ∧ k = cnt 1) := fun q => by rw [q.1, q.2] at hk; exact Nat.lt_irrefl _ hk
         have w2 : ¬ (a = 67 ∧ k = cnt 67) := fun q => by rw [q.1, q.2] at hk; exact Nat.lt_irrefl _ hk
         have w3 : ¬ (a = 71 ∧ k = cnt 71) := fun q => by rw [q.1, q.2] at hk; exact Nat.lt_irrefl _ hk
         simp [upd_app, w0, w1, w2, w3]; done)
  · have n1 : ¬ g.nodes = [] := fun h => e1 (by rw [h]; rfl)
    simp [dw0, dw1, dw2, dw3, rowEff, n1]
    refine kApp_nil (ts := edL g.edges) (by simp) (len_edL _) (by omega) (by omega) ?_
    simp [dw0, dw1, dw2, dw3, rowEff, e2, untreeT, untreeI]
    refine ⟨rfl, hR _ _ _ _ ?_ ?_ ?_ ?_ ?_⟩
    · exact .inr ⟨by omega, 67, by simp, cnt 67, rfl, by simp⟩
    · exact .inr ⟨by omega, 71, by simp, cnt 71, rfl, by simp⟩
    all_goals
      first
      | (intro a k q0 q1 q2 q3; simp [upd_app, q0, q1, q2, q3]; done)
      | (intro a q0 q1 q2 q3; simp [upd_app, q0, q1, q2, q3]; done)
      | (intro a k hk
         have w0 : ¬ (a = 0 ∧ k = cnt 0) := fun q => by rw [q.1, q.2] at hk; exact Nat.lt_irrefl _ hk
         have w1 : ¬ (a = 1 ∧ k = cnt 1) := fun q => by rw [q.1, q.2] at hk; exact Nat.lt_irrefl _ hk
         have w2 : ¬ (a = 67 ∧ k = cnt 67) := fun q => by rw [q.1, q.2] at hk; exact Nat.lt_irrefl _ hk
         have w3 : ¬ (a = 71 ∧ k = cnt 71) := fun q => by rw [q.1, q.2] at hk; exact Nat.lt_irrefl _ hk
         simp [upd_app, w0, w1, w2, w3]; done)

def c_union05 : MFunc := ⟨107, [.cell 4 true 2, .cell 5 true 2, .cell 6 true 2, .tmp 7], .seq (.region [⟨some 2, .box 0 25 (.tmp 0), none⟩, ⟨some 3, .box 1 25 (.tmp 1), none⟩, ⟨some 4, .alloc 2 25 [.nil, .nil], none⟩, ⟨some 5, .alloc 3 27 [.nil, .nil], none⟩, ⟨some 6, .alloc 4 27 [.nil, .nil], none⟩, ⟨some 7, .mv (.c (.one (.t (.int .i64 0)))), none⟩]) (.seq (.seq (.region [⟨some 15, .load true 2 (.tmp 2), none⟩, ⟨some 16, .call (.c (.one (.fn 87 []))) 65 [.tmp 15], none⟩, ⟨some 8, .mv (.tmp 16), none⟩]) (.seq (.region [⟨some 17, .mv (.tmp 8), none⟩, ⟨some 18, .bin .neq (.tmp 17) (.c (.one (.t (.int .i64 0)))), none⟩]) (.cond (.tmp 18) (.seq (.region [⟨some 19, .build [.nil, .nil] [], none⟩, ⟨some 20, .build [.nil, .nil] [], none⟩, ⟨some 21, .build [.nil, .nil] [], none⟩, ⟨some 22, .mv (.tmp 8), none⟩, ⟨none, .store 2 (.tmp 4) (.tmp 19), none⟩, ⟨none, .store 2 (.tmp 5) (.tmp 20), none⟩, ⟨none, .store 2 (.tmp 6) (.tmp 21), none⟩, ⟨some 7, .mv (.tmp 22), none⟩]) .ret) .skip))) (.seq (.seq (.region [⟨some 23, .load true 2 (.tmp 3), none⟩, ⟨some 24, .call (.c (.one (.fn 87 []))) 257 [.tmp 23], none⟩, ⟨some 9, .mv (.tmp 24), none⟩]) (.seq (.region [⟨some 25, .mv (.tmp 9), none⟩, ⟨some 26, .bin .neq (.tmp 25) (.c (.one (.t (.int .i64 0)))), none⟩]) (.cond (.tmp 26) (.seq (.region [⟨some 27, .build [.nil, .nil] [], none⟩, ⟨some 28, .build [.nil, .nil] [], none⟩, ⟨some 29, .build [.nil, .nil] [], none⟩, ⟨some 30, .mv (.tmp 9), none⟩, ⟨none, .store 2 (.tmp 4) (.tmp 27), none⟩, ⟨none, .store 2 (.tmp 5) (.tmp 28), none⟩, ⟨none, .store 2 (.tmp 6) (.tmp 29), none⟩, ⟨some 7, .mv (.tmp 30), none⟩]) .ret) .skip))) (.seq (.draw [[], [0], [1], [], [3], [4], [2, 0, 1, 2], [5, 6, 0, 1, 2, 3, 4, 5, 6]] [⟨some 31, .fieldA 0 (.tmp 2), none⟩, ⟨some 32, .load false 1 (.tmp 31), none⟩, ⟨some 33, .len (.tmp 32), none⟩, ⟨some 34, .fieldA 1 (.tmp 2), none⟩, ⟨some 35, .load false 1 (.tmp 34), none⟩, ⟨some 36, .len (.tmp 35), none⟩, ⟨some 10, .mv (.tmp 33), none⟩, ⟨some 11, .mv (.tmp 36), none⟩]) (.seq (.seq (.region [⟨some 37, .mv (.tmp 10), none⟩, ⟨some 38, .fieldA 0 (.tmp 3), none⟩, ⟨some 39, .load false 1 (.tmp 38), none⟩, ⟨some 40, .len (.tmp 39), none⟩, ⟨some 41, .bin .add (.tmp 37) (.tmp 40), none⟩, ⟨some 42, .bin .gtr (.tmp 41) (.c (.one (.t (.int .i64 40)))), none⟩, ⟨some 43, .mv (.tmp 42), none⟩, ⟨some 44, .mv (.tmp 11), some (43, false)⟩, ⟨some 45, .fieldA 1 (.tmp 3), some (43, false)⟩, ⟨some 46, .load false 1 (.tmp 45), some (43, false)⟩, ⟨some 47, .len (.tmp 46), some (43, false)⟩, ⟨some 48, .bin .add (.tmp 44) (.tmp 47), some (43, false)⟩, ⟨some 49, .bin .gtr (.tmp 48) (.c (.one (.t (.int .i64 80)))), some (43, false)⟩, ⟨some 50, .pick (.tmp 43) (.c (.one (.t (.bool true)))) (.tmp 49), none⟩]) (.cond (.tmp 50) (.seq (.region [⟨some 51, .build [.nil, .nil] [], none⟩, ⟨some 52, .build [.nil, .nil] [], none⟩, ⟨some 53, .build [.nil, .nil] [], none⟩, ⟨none, .store 2 (.tmp 4) (.tmp 51), none⟩, ⟨none, .store 2 (.tmp 5) (.tmp 52), none⟩, ⟨none, .store 2 (.tmp 6) (.tmp 53), none⟩, ⟨some 7, .mv (.c (.one (.t (.int .i64 3)))), none⟩]) .ret) .skip)) (.seq (.region [⟨some 54, .load true 2 (.tmp 2), none⟩, ⟨some 55, .call (.c (.one (.fn 52 []))) 641 [.tmp 54], none⟩, ⟨some 12, .alloc 642 25 [.nil, .nil], none⟩, ⟨none, .store 2 (.tmp 12) (.tmp 55), none⟩]) (.seq (.region [⟨some 56, .fieldA 0 (.tmp 12), none⟩, ⟨some 57, .load false 1 (.tmp 56), none⟩, ⟨some 58, .fieldA 0 (.tmp 3), none⟩, ⟨some 59, .load false 1 (.tmp 58), none⟩, ⟨some 60, .append 708 3 1 8 (.tmp 57) (.tmp 59), none⟩, ⟨some 61, .fieldA 0 (.tmp 12), none⟩, ⟨none, .store 1 (.tmp 61) (.tmp 60), none⟩]) (.seq (.seq (.region [⟨some 13, .mv (.c (.one (.t (.int .i64 0)))), none⟩]) (.block 0 (.loop (.seq (.seq (.region [⟨some 62, .mv (.tmp 13), none⟩, ⟨some 63, .fieldA 1 (.tmp 3), none⟩, ⟨some 64, .load false 1 (.tmp 63), none⟩, ⟨some 65, .len (.tmp 64), none⟩, ⟨some 66, .bin .lss (.tmp 62) (.tmp 65), none⟩]) (.cond (.tmp 66) .skip (.exit 0))) (.seq (.block 1 (.seq (.region [⟨some 69, .fieldA 1 (.tmp 3), none⟩, ⟨some 70, .load false 1 (.tmp 69), none⟩, ⟨some 71, .mv (.tmp 13), none⟩, ⟨some 72, .idxA 3 (.tmp 70) (.tmp 71), none⟩, ⟨some 73, .load true 3 (.tmp 72), none⟩, ⟨some 14, .alloc 965 76 [.t (.int .i64 0), .t (.int .i64 0), .t (.int .i64 0)], none⟩, ⟨none, .store 3 (.tmp 14) (.tmp 73), none⟩]) (.region [⟨some 74, .fieldA 1 (.tmp 12), none⟩, ⟨some 75, .load false 1 (.tmp 74), none⟩, ⟨some 76, .fieldA 0 (.tmp 14), none⟩, ⟨some 77, .load false 1 (.tmp 76), none⟩, ⟨some 78, .fieldA 1 (.tmp 14), none⟩, ⟨some 79, .load false 1 (.tmp 78), none⟩, ⟨some 80, .mv (.tmp 10), none⟩, ⟨some 81, .bin .add (.tmp 79) (.tmp 80), none⟩, ⟨some 82, .fieldA 2 (.tmp 14), none⟩, ⟨some 83, .load false 1 (.tmp 82), none⟩, ⟨some 84, .mv (.tmp 10), none⟩, ⟨some 85, .bin .add (.tmp 83) (.tmp 84), none⟩, ⟨some 86, .build [.t (.int .i64 0), .t (.int .i64 0), .t (.int .i64 0)] [(0, (1, .tmp 77)), (1, (1, .tmp 81)), (2, (1, .tmp 85))], none⟩, ⟨some 87, .mkrow 1037 76 3 1 [.t (.int .i64 0), .t (.int .i64 0), .t (.int .i64 0)] [(0, (3, .tmp 86))], none⟩, ⟨some 88, .append 1038 76 3 24 (.tmp 75) (.tmp 87), none⟩, ⟨some 89, .fieldA 1 (.tmp 12), none⟩, ⟨none, .store 1 (.tmp 89) (.tmp 88), none⟩]))) (.region [⟨some 67, .mv (.tmp 13), none⟩, ⟨some 68, .bin .add (.tmp 67) (.c (.one (.t (.int .i64 1)))), none⟩, ⟨some 13, .mv (.tmp 68), none⟩])))))) (.seq (.draw [[], [], [1], [], [3, 2], [2, 4], [], [], [7], [8], [6, 9, 4], [], [], [12], [13], [11, 14, 10], [10, 15], [0, 15, 0], [5, 17, 0, 1, 2, 3, 4, 5, 17], [16, 18, 0, 1, 2, 3, 4, 5, 6, 7, 8, 9, 10, 11, 12, 13, 14, 15, 16, 17, 18], [19, 0, 1, 2, 3, 4, 5, 6, 7, 8, 9, 10, 11, 12, 13, 14, 15, 16, 17, 18, 19]] [⟨some 90, .load true 2 (.tmp 12), none⟩, ⟨some 91, .mv (.tmp 10), none⟩, ⟨some 92, .call (.c (.one (.fn 113 []))) 1090 [.c (.one (.t (.int .i64 0))), .tmp 91], none⟩, ⟨some 93, .mv (.tmp 11), none⟩, ⟨some 94, .call (.c (.one (.fn 113 []))) 1092 [.c (.one (.t (.int .i64 0))), .tmp 93], none⟩, ⟨some 95, .build [.nil, .nil] [(0, (1, .tmp 92)), (1, (1, .tmp 94))], none⟩, ⟨some 96, .mv (.tmp 10), none⟩, ⟨some 97, .fieldA 0 (.tmp 3), none⟩, ⟨some 98, .load false 1 (.tmp 97), none⟩, ⟨some 99, .len (.tmp 98), none⟩, ⟨some 100, .call (.c (.one (.fn 113 []))) 1098 [.tmp 96, .tmp 99], none⟩, ⟨some 101, .mv (.tmp 11), none⟩, ⟨some 102, .fieldA 1 (.tmp 3), none⟩, ⟨some 103, .load false 1 (.tmp 102), none⟩, ⟨some 104, .len (.tmp 103), none⟩, ⟨some 105, .call (.c (.one (.fn 113 []))) 1103 [.tmp 101, .tmp 104], none⟩, ⟨some 106, .build [.nil, .nil] [(0, (1, .tmp 100)), (1, (1, .tmp 105))], none⟩, ⟨none, .store 2 (.tmp 4) (.tmp 90), none⟩, ⟨none, .store 2 (.tmp 5) (.tmp 95), none⟩, ⟨none, .store 2 (.tmp 6) (.tmp 106), none⟩, ⟨some 7, .mv (.c (.one (.t (.int .i64 0)))), none⟩]) .ret))))))))⟩
theorem k_union05 : cFn Tryz.prog Tryz.f74 = some c_union05 := by kernel_rfl
set_option maxHeartbeats 4000000 in
theorem union05_ok (a b : Gr) (ta : tinyG a) (tb : tinyG b) : CallOK Tryz.prog 74 [a.v, b.v] (unT a b) := by
  refine callOK_W (callS_W (by kernel_rfl) Tryz.func74 k_union05 (callable_of Tryz.func74 (by kernel_rfl)) (by simp [c_union05]) ?_)
  simp [c_union05]
  refine callS_tree (rvalid_ok a ta.1.small ta.2.small) ?_ ?_ ?_
  · rfl
  · rfl
  by_cases h1 : gErr a = 0
  case neg =>
    have e : unErr a b = gErr a := by simp [unErr, h1]
    simp [h1, unT, e, edL]
  simp [h1]
  refine callS_tree (rvalid_ok b tb.1.small tb.2.small) ?_ ?_ ?_
  · rfl
  · rfl
  by_cases h2 : gErr b = 0
  case neg =>
    have e : unErr a b = gErr b := by simp [unErr, h1, h2]
    simp [h2, unT, e, edL]
  have ga := gErr_ok h1
  have gb := gErr_ok h2
  have b1 := ga.n
  have b2 := ga.e
  have b3 := gb.n
  have b4 := gb.e
  have w1 : IntKind.i64.wrap ((a.nodes.length : Int) + b.nodes.length) = (a.nodes.length : Int) + b.nodes.length := by rw [wrap64_id] <;> omega
  have w2 : IntKind.i64.wrap ((a.edges.length : Int) + b.edges.length) = (a.edges.length : Int) + b.edges.length := by rw [wrap64_id] <;> omega
  simp [dw0, dw1, dw2, dw3, h2]
  refine ⟨rfl, ?_⟩
  by_cases hb : unBig a b
  case pos =>
    have e : unErr a b = 3 := by simp [unErr, h1, h2, hb]
    by_cases q1 : 40 < a.nodes.length + b.nodes.length
    · have q1' : (40 : Int) < (a.nodes.length : Int) + b.nodes.length := by omega
      simp [w1, q1', unT, e, edL]
    · have q2 : 80 < a.edges.length + b.edges.length := hb.resolve_left q1
      have q1' : ¬ (40 : Int) < (a.nodes.length : Int) + b.nodes.length := by omega
      have q2' : (80 : Int) < (a.edges.length : Int) + b.edges.length := by omega
      simp [w1, w2, q1', q2', unT, e, edL]
  have e : unErr a b = 0 := by simp [unErr, h1, h2, hb]
  have n1 : ¬ (40 : Int) < (a.nodes.length : Int) + b.nodes.length := by simp only [unBig] at hb; omega
  have n2 : ¬ (80 : Int) < (a.edges.length : Int) + b.edges.length := by simp only [unBig] at hb; omega
  have hres : unT a b = .tup [(true, [ints (unG a b).nodes, edgs (unG a b).edges]), (unL a).v, (unR a b).v, (false, [.int .i64 0])] := by rw [unT, if_pos e]; rfl
  rw [hres]
  simp [dw0, dw1, dw2, dw3, w1, w2, n1, n2]
  refine copied5S a ta fun v1 v2 ob cnt oN oE hob hold hcnt => ?_
  have o0 : ob (0, 0) = some (bx 25 (a.v.2.map .t)) := by rw [hold 0 0 (by simp)]; simp
  have o1 : ob (1, 0) = some (bx 25 (b.v.2.map .t)) := by rw [hold 1 0 (by simp)]; simp
  have o2 : ob (2, 0) = some (bx 25 [.nil, .nil]) := by rw [hold 2 0 (by simp)]; simp
  have o3 : ob (3, 0) = some (bx 27 [.nil, .nil]) := by rw [hold 3 0 (by simp)]; simp
  have o4 : ob (4, 0) = some (bx 27 [.nil, .nil]) := by rw [hold 4 0 (by simp)]; simp
  have c642 : cnt 642 = 0 := by rw [hcnt 642 (by decide) (by decide) (by decide) (by decide)]; simp
  clear hob hold hcnt
  simp [o0, o1, o2, o3, o4, c642]
  refine kApp_growL (nms := [67, 708]) (ts := b.nodes.map (.int .i64)) (by simp) (by simp) ((oN.wide (by simp)).keep fun nm hm g => by simp at hm; rcases hm with rfl | rfl <;> simp) (by simp) (by omega) (by omega) fun E hE hob hcnt => ?_
  obtain ⟨u, hu⟩ := hE.one
  rw [hu] at hE
  have oE2 := oE.keep (ob' := E.ob) fun nm hm g => by
    simp at hm
    subst hm
    rw [hob _ _ (by decide)]
    simp
  have e2 : (unG a b).nodes.length = a.nodes.length + b.nodes.length := unG_nlen
  have e3 : (unG a b).nodes.map (C.int .i64) = a.nodes.map (.int .i64) ++ b.nodes.map (.int .i64) := by simp [unG]
  rw [← e2, ← e3] at hE
  simp [o0, o1, o2, o3, o4, c642, hob, hcnt, hu]
  refine loopW_count 13 b.edges.length (fun k S => S.fr 2 = .one (.ptr (0, 0) 0) ∧ S.fr 3 = .one (.ptr (1, 0) 0) ∧ S.fr 4 = .one (.ptr (2, 0) 0) ∧ S.fr 5 = .one (.ptr (3, 0) 0) ∧ S.fr 6 = .one (.ptr (4, 0) 0) ∧ S.fr 10 = .one (.t (.int .i64 a.nodes.length)) ∧ S.fr 11 = .one (.t (.int .i64 a.edges.length)) ∧ S.fr 12 = .one (.ptr (642, 0) 0) ∧
    S.ob (0, 0) = some (bx 25 (a.v.2.map .t)) ∧ S.ob (1, 0) = some (bx 25 (b.v.2.map .t)) ∧ S.ob (2, 0) = some (bx 25 [.nil, .nil]) ∧ S.ob (3, 0) = some (bx 27 [.nil, .nil]) ∧ S.ob (4, 0) = some (bx 27 [.nil, .nil]) ∧
    ∃ vN vE, S.ob (642, 0) = some (bx 25 [vN, vE]) ∧ outL [67, 708] 3 1 (unG a b).nodes.length ((unG a b).nodes.map (.int .i64)) S.ob (.one vN) ∧ outL [71, 1038] 76 3 (unE a b k).length (edL (unE a b k)) S.ob (.one vE)) (by omega) ?_ ?_ ?_
  · have q0 := unE_zero (a := a) (b := b)
    simp [o0, o1, o2, o3, o4]
    refine ⟨by simp [hob, o0, o1, o2, o3, o4], by simp [hob, o0, o1, o2, o3, o4], by simp [hob, o0, o1, o2, o3, o4], by simp [hob, o0, o1, o2, o3, o4], by simp [hob, o0, o1, o2, o3, o4], _, _, ⟨rfl, rfl⟩, ?_, ?_⟩
    · exact outL.keep (by simpa using hE) fun nm hm g => by simp at hm; rcases hm with rfl | rfl <;> simp
    · rw [q0]
      exact (oE2.wide (by simp)).keep fun nm hm g => by simp at hm; rcases hm with rfl | rfl <;> simp
  · rintro k S hlt hw hc ⟨f2, f3, f4, f5, f6, f10, f11, f12, o0, o1, o2, o3, o4, vN, vE, o642, hN, ho⟩
    have hlt3 : k * 3 < b.edges.length * 3 := by omega
    have hed := gb.edges _ (eth_mem hlt)
    have v1 : IntKind.i64.wrap ((eth b.edges k).f + a.nodes.length) = (eth b.edges k).f + a.nodes.length := by rw [wrap64_id] <;> omega
    have v2 : IntKind.i64.wrap ((eth b.edges k).g + a.nodes.length) = (eth b.edges k).g + a.nodes.length := by rw [wrap64_id] <;> omega
    have z := unE_len (a := a) (b := b) (k := k)
    have zs := unE_succ (a := a) hlt
    simp [f2, f3, f4, f5, f6, f10, f11, f12, o0, o1, o2, o3, o4, o642, hc, hlt, hlt3, drop_edL hlt, v1, v2]
    refine kApp_growL (nms := [71, 1038]) (ts := edC (shiftE a.nodes.length (eth b.edges k))) (by simp) (by simp [edC, shiftE]) (ho.keep fun nm hm g => by simp at hm; rcases hm with rfl | rfl <;> simp) rfl (by omega) (by omega) fun E hE hob hcnt => ?_
    obtain ⟨u, hu⟩ := hE.one
    rw [hu] at hE
    have hN2 := hN.keep (ob' := E.ob) fun nm hm g => by
      simp at hm
      rcases hm with rfl | rfl
      all_goals
        rw [hob _ _ (by decide)]
        simp
    simp [f2, f3, f4, f5, f6, f10, f11, f12, o0, o1, o2, o3, o4, o642, hc, hw, hob, hcnt, hu, zs]
    refine ⟨vN, u, ⟨rfl, rfl⟩, outL.keep (by simpa using hN2) fun nm hm g => by simp at hm; rcases hm with rfl | rfl <;> simp, outL.keep (by simpa [edL] using hE) fun nm hm g => by simp at hm; rcases hm with rfl | rfl <;> simp⟩
  · rintro S hc ⟨f2, f3, f4, f5, f6, f10, f11, f12, o0, o1, o2, o3, o4, vN, vE, o642, hN, ho⟩
    rw [unE_all] at ho
    simp [dw0, dw1, dw2, dw3, f2, f3, f4, f5, f6, f10, f11, f12, o0, o1, o2, o3, o4, o642, hc]
    refine dCall_ok (numbers05_row 0 a.nodes.length (by simp only [tiny]; omega) ta.1).ok ?_ ?_ ?_
    · rfl
    · rfl
    simp [dw0, dw1, dw2, dw3, f2, f3, f4, f5, f6, f10, f11, f12, o0, o1, o2, o3, o4, o642]
    refine dCall_ok (numbers05_row 0 a.edges.length (by simp only [tiny]; omega) ta.2).ok ?_ ?_ ?_
    · rfl
    · rfl
    simp [dw0, dw1, dw2, dw3, f2, f3, f4, f5, f6, f10, f11, f12, o0, o1, o2, o3, o4, o642]
    refine dCall_ok (numbers05_row a.nodes.length b.nodes.length ta.1 tb.1).ok ?_ ?_ ?_
    · rfl
    · rfl
    simp [dw0, dw1, dw2, dw3, f2, f3, f4, f5, f6, f10, f11, f12, o0, o1, o2, o3, o4, o642]
    refine dCall_ok (numbers05_row a.edges.length b.edges.length ta.2 tb.2).ok ?_ ?_ ?_
    · rfl
    · rfl
    clear hres
    generalize hLN : (unG a b).nodes = LN at *
    generalize (unG a b).edges = LE at *
    rcases hN with ⟨n1, n2, n3⟩ | ⟨n1, nm, n2, gg, n3, n4⟩ <;> rcases ho with ⟨m1, m2, m3⟩ | ⟨m1, nm', m2, gg', m3, m4⟩
    · cases n3
      cases m3
      have q1 : LN = [] := List.eq_nil_of_length_eq_zero n1
      have q2 : LE = [] := List.eq_nil_of_length_eq_zero m1
      simp [dw0, dw1, dw2, dw3, f2, f3, f4, f5, f6, f10, f11, f12, o0, o1, o2, o3, o4, o642, q1, q2, edL, unL, unR]
      first | rfl | exact ⟨rfl, rfl⟩ | exact ⟨rfl, rfl, rfl⟩
    · cases n3
      cases m3
      have q1 : LN = [] := List.eq_nil_of_length_eq_zero n1
      simp at m2
      rcases m2 with rfl | rfl
      all_goals
        simp [dw0, dw1, dw2, dw3, f2, f3, f4, f5, f6, f10, f11, f12, o0, o1, o2, o3, o4, o642, q1, m4, untreeT, unL, unR]
        first | rfl | exact ⟨rfl, rfl⟩ | exact ⟨rfl, rfl, rfl⟩
    · cases n3
      cases m3
      have q2 : LE = [] := List.eq_nil_of_length_eq_zero m1
      simp at n2
      rcases n2 with rfl | rfl
      all_goals
        simp [dw0, dw1, dw2, dw3, f2, f3, f4, f5, f6, f10, f11, f12, o0, o1, o2, o3, o4, o642, q2, n4, untreeT, untreeI, edL, unL, unR]
        first | rfl | exact ⟨rfl, rfl⟩ | exact ⟨rfl, rfl, rfl⟩
    · cases n3
      cases m3
      simp at n2 m2
      rcases n2 with rfl | rfl <;> rcases m2 with rfl | rfl
      all_goals
        simp [dw0, dw1, dw2, dw3, f2, f3, f4, f5, f6, f10, f11, f12, o0, o1, o2, o3, o4, o642, n4, m4, untreeT, untreeI, unL, unR]
        first | rfl | exact ⟨rfl, rfl⟩ | exact ⟨rfl, rfl, rfl⟩
end Go.Proofs.YthcnpnogfblkcaaGreat

/- What a row's argument reads as, opened into trees. -/
namespace Go.Proofs.YthcnpnogfblkcaaGreat.Abs
open Go.RowKit Go.ChangeShapes Go.WideShapes Go.Deep
set_option linter.unusedVariables false
set_option linter.unusedSimpArgs false

section
variable {H : Type} {enc : TypeId × Value → H} {P : Program} {w : World} {base : Nat} {spare : Nat → Bool} {held : Bool}

theorem open_int_list {t e : TypeId} {fuel : Nat} {cs : List Value} {x : DataW H × List MemPlace} (ht : P.underlying t = some (.slice e)) (he : P.underlying e = some (.int .i64)) (hc : P.cellsOf e = 1) (hB : P.bytesOf e = 8)
    (h : DataW.trod enc P w base spare held fuel t cs = some x) (hw : (x.1.weights P t).all (· ≤ reachBytes) = true) : ∃ l v, cs = [v] ∧ CR w (fun _ => False) (ints l) v ∧ l.length * 8 ≤ 140737488351232 := by
  rcases open_ints ht he hc h with ⟨rfl, _⟩ | ⟨a, len, cap, zs, rfl, hb, hl, hm, hz, rfl, hcell, _⟩
  · exact ⟨[], _, rfl, .sl 0 0 [] none (fun _ => default) (Nat.le_refl _) (fun h => by simp at h) (fun j c h => by simp at h), by simp⟩
  · have hlen : len ≤ zs.length := by
      rw [hz]
      split
      · exact hl
      · exact Nat.le_refl _
    refine ⟨zs.take len, _, rfl, ?_, ?_⟩
    · have e1 : ints (zs.take len) = .sl len ((zs.take len).map (.int .i64)) := by simp [ints, Nat.min_eq_left hlen]
      rw [e1]
      refine .sl len cap _ (some a) (fun j => .int .i64 (zs.getD j 0)) hl (fun _ => ⟨a, rfl, id, fun j hj => hcell j (by simp at hj; omega)⟩) (fun j c hj => ?_)
      simp only [List.getElem?_map, Option.map_eq_some_iff] at hj
      obtain ⟨z, hz', rfl⟩ := hj
      have hj2 : j < len ∧ zs[j]? = some z := by
        rw [List.getElem?_take] at hz'
        split at hz'
        · exact ⟨by assumption, hz'⟩
        · cases hz'
      have : zs.getD j 0 = z := by simp [List.getD, hj2.2]
      rw [this]
      exact .int _ _
    · have z := List.all_eq_true.1 hw _ (show (((lits (H := H) .i64 (zs.take len)).length + (lits (H := H) .i64 (zs.drop len)).length) * P.bytesOf e) ∈ _ by simp [DataW.weights, ht])
      rw [hB] at z
      simp [lits] at z
      simp only [reachBytes] at z
      simp [Nat.min_eq_left hlen]
      omega

instance : Inhabited Ed := ⟨⟨0, 0, 0⟩⟩

/-- A struct of three numbers. -/
theorem open_three {t e : TypeId} {f0 f1 f2 : Field} {fuel : Nat} {cs : List Value} {x : DataW H × List MemPlace} (ht : P.underlying t = some (.struct #[f0, f1, f2])) (h0 : f0.type = e) (h1 : f1.type = e) (h2 : f2.type = e) (o0 : f0.offset = 0) (o1 : f1.offset = 1) (o2 : f2.offset = 2)
    (he : P.underlying e = some (.int .i64)) (hc : P.cellsOf e = 1) (hct : P.cellsOf t = 3) (h : DataW.trod enc P w base spare held fuel t cs = some x) : ∃ d : Ed, cs = [.int .i64 d.t, .int .i64 d.f, .int .i64 d.g] := by
  obtain ⟨y0, y1, y2, n, _, hl, g0, g1, g2⟩ := trod_struct3 ht h
  rw [h0, o0, hc] at g0
  rw [h1, o1, hc] at g1
  rw [h2, o2, hc] at g2
  rw [hct] at hl
  match cs, hl with
  | [a, b, c], _ =>
    obtain ⟨p, e0, _⟩ := DataW.trod_int he g0
    obtain ⟨q, e1, _⟩ := DataW.trod_int he g1
    obtain ⟨r, e2, _⟩ := DataW.trod_int he g2
    simp at e0 e1 e2
    exact ⟨⟨p, q, r⟩, by rw [e0, e1, e2]⟩

theorem get_edL : ∀ {l : List Ed} {j : Nat} {c : C}, (edL l)[j]? = some c → j / 3 < l.length ∧ (edC (eth l (j / 3)))[j % 3]? = some c
  | [], j, c, h => by simp [edL] at h
  | e :: r, j, c, h => by
    have e1 : edL (e :: r) = edC e ++ edL r := by simp [edL]
    rw [e1] at h
    by_cases hj : j < 3
    · rw [List.getElem?_append_left (by simpa [edC] using hj)] at h
      have h1 : j / 3 = 0 := by omega
      have h2 : j % 3 = j := by omega
      rw [h1, h2]
      exact ⟨by simp, by simpa [eth] using h⟩
    · rw [List.getElem?_append_right (by simp [edC]; omega)] at h
      have hl : (edC e).length = 3 := rfl
      rw [hl] at h
      obtain ⟨i1, i2⟩ := get_edL h
      have h1 : j / 3 = (j - 3) / 3 + 1 := by omega
      have h2 : j % 3 = (j - 3) % 3 := by omega
      rw [h1, h2]
      exact ⟨by simpa using i1, by simpa [eth] using i2⟩

theorem open_edge_list {t e q : TypeId} {f0 f1 f2 : Field} {fuel : Nat} {cs : List Value} {x : DataW H × List MemPlace} (ht : P.underlying t = some (.slice e)) (he : P.underlying e = some (.struct #[f0, f1, f2])) (h0 : f0.type = q) (h1 : f1.type = q) (h2 : f2.type = q) (o0 : f0.offset = 0) (o1 : f1.offset = 1) (o2 : f2.offset = 2)
    (hq : P.underlying q = some (.int .i64)) (hc : P.cellsOf q = 1) (hct : P.cellsOf e = 3) (hB : P.bytesOf e = 24)
    (h : DataW.trod enc P w base spare held fuel t cs = some x) (hw : (x.1.weights P t).all (· ≤ reachBytes) = true) : ∃ l v, cs = [v] ∧ CR w (fun _ => False) (edgs l) v ∧ l.length * 24 ≤ 140737488351232 := by
  rcases open_slice ht h with ⟨rfl, _⟩ | ⟨a, len, cap, m, n, D, Pl, rfl, hb, hl, hm, hmm, rfl, hx⟩
  · exact ⟨[], _, rfl, .sl 0 0 [] none (fun _ => default) (Nat.le_refl _) (fun h => by simp [edL] at h) (fun j c h => by simp at h), by simp⟩
  · have hlen : len ≤ m := by
      rw [hmm]
      split
      · exact hl
      · exact Nat.le_refl _
    obtain ⟨F, hF⟩ := choose_lt (α := Ed) (p := fun i d => w.cell? (a.add (i * 3)) = some (.int .i64 d.t) ∧ w.cell? (a.add (i * 3 + 1)) = some (.int .i64 d.f) ∧ w.cell? (a.add (i * 3 + 2)) = some (.int .i64 d.g)) (fun i (hi : i < m) => by
      obtain ⟨cs', g1, g2⟩ := hx i hi
      rw [hct] at g1
      obtain ⟨_, _, g3⟩ := World.cells?_some g1
      obtain ⟨d, rfl⟩ := open_three he h0 h1 h2 o0 o1 o2 hq hc hct g2
      have c0 := g3 0 (by omega)
      have c1 := g3 1 (by omega)
      have c2 := g3 2 (by omega)
      rw [Addr.add_add] at c0 c1 c2
      exact ⟨d, by simpa using c0, by simpa using c1, by simpa using c2⟩)
    have hl2 : ((List.range len).map F).length = len := by simp
    refine ⟨(List.range len).map F, _, rfl, ?_, ?_⟩
    · have key : ∀ i, i < len → eth ((List.range len).map F) i = F i := fun i hi => by simp [eth, hi]
      have e1 : edgs ((List.range len).map F) = .sl len (edL ((List.range len).map F)) := by simp [edgs]
      rw [e1]
      let U : Nat → Value := fun j => if j % 3 = 0 then .int .i64 (F (j / 3)).t else if j % 3 = 1 then .int .i64 (F (j / 3)).f else .int .i64 (F (j / 3)).g
      refine .sl len cap _ (some a) U hl (fun _ => ⟨a, rfl, id, fun j hj => ?_⟩) (fun j c hj => ?_)
      · rw [len_edL, hl2] at hj
        obtain ⟨g0, g1, g2⟩ := hF (j / 3) (by omega)
        have hcase : j % 3 = 0 ∨ j % 3 = 1 ∨ j % 3 = 2 := by omega
        rcases hcase with e | e | e
        · have : j = j / 3 * 3 := by omega
          simp only [U, e, if_true]
          rw [this]; simpa using g0
        · have : j = j / 3 * 3 + 1 := by omega
          simp only [U, e]
          rw [show a.add j = a.add (j / 3 * 3 + 1) by rw [← this]]
          simpa using g1
        · have : j = j / 3 * 3 + 2 := by omega
          simp only [U, e]
          rw [show a.add j = a.add (j / 3 * 3 + 2) by rw [← this]]
          simpa using g2
      · obtain ⟨q1, q2⟩ := get_edL hj
        rw [hl2] at q1
        rw [key _ q1] at q2
        have hcase : j % 3 = 0 ∨ j % 3 = 1 ∨ j % 3 = 2 := by omega
        rcases hcase with e | e | e <;> (rw [e] at q2; simp [edC] at q2; subst q2; simp only [U, e]; exact CR.int _ _)
    · have z := List.all_eq_true.1 hw _ (show ((((List.range len).map D).length + ((List.range (m - len)).map fun j => D (len + j)).length) * P.bytesOf e) ∈ _ by simp [DataW.weights, ht])
      rw [hB] at z
      simp at z
      simp only [reachBytes] at z
      simp
      omega
end

/-! ### What opens, as words -/
def bound (n : Nat) : Prop := n * 8 ≤ 140737488351232
def OpensI (P : Program) (t : TypeId) : Prop := ∀ (H : Type) (enc : TypeId × Value → H) (w : World) (base : Nat) (spare : Nat → Bool) (held : Bool) (fuel : Nat) (cs : List Value) (x : DataW H × List MemPlace),
  DataW.trod enc P w base spare held fuel t cs = some x → (x.1.weights P t).all (· ≤ reachBytes) = true → ∃ l v, cs = [v] ∧ CR w (fun _ => False) (ints l) v ∧ bound l.length
def OpensE (P : Program) (t : TypeId) : Prop := ∀ (H : Type) (enc : TypeId × Value → H) (w : World) (base : Nat) (spare : Nat → Bool) (held : Bool) (fuel : Nat) (cs : List Value) (x : DataW H × List MemPlace),
  DataW.trod enc P w base spare held fuel t cs = some x → (x.1.weights P t).all (· ≤ reachBytes) = true → ∃ l v, cs = [v] ∧ CR w (fun _ => False) (edgs l) v ∧ bound l.length
def OpensG (P : Program) (t : TypeId) : Prop := ∀ (H : Type) (enc : TypeId × Value → H) (w : World) (base : Nat) (spare : Nat → Bool) (held : Bool) (fuel : Nat) (cs : List Value) (x : DataW H × List MemPlace),
  DataW.trod enc P w base spare held fuel t cs = some x → (x.1.weights P t).all (· ≤ reachBytes) = true → ∃ g : Gr, ∃ v0 v1, cs = [v0, v1] ∧ CR w (fun _ => False) (ints g.nodes) v0 ∧ CR w (fun _ => False) (edgs g.edges) v1 ∧ bound g.nodes.length ∧ bound g.edges.length
def OpensP (P : Program) (t : TypeId) : Prop := ∀ (H : Type) (enc : TypeId × Value → H) (w : World) (base : Nat) (spare : Nat → Bool) (held : Bool) (fuel : Nat) (cs : List Value) (x : DataW H × List MemPlace),
  DataW.trod enc P w base spare held fuel t cs = some x → (x.1.weights P t).all (· ≤ reachBytes) = true → ∃ g : Pa, ∃ v0 v1, cs = [v0, v1] ∧ CR w (fun _ => False) (ints g.nodes) v0 ∧ CR w (fun _ => False) (ints g.edges) v1 ∧ bound g.nodes.length ∧ bound g.edges.length

theorem opensI {P : Program} {t e : TypeId} (ht : P.underlying t = some (.slice e)) (he : P.underlying e = some (.int .i64)) (hc : P.cellsOf e = 1) (hB : P.bytesOf e = 8) : OpensI P t :=
  fun H enc w base spare held fuel cs x h hw => open_int_list ht he hc hB h hw

theorem opensE {P : Program} {t e q : TypeId} {f0 f1 f2 : Field} (ht : P.underlying t = some (.slice e)) (he : P.underlying e = some (.struct #[f0, f1, f2])) (h0 : f0.type = q ∧ f1.type = q ∧ f2.type = q ∧ f0.offset = 0 ∧ f1.offset = 1 ∧ f2.offset = 2)
    (hq : P.underlying q = some (.int .i64)) (hc : P.cellsOf q = 1) (hct : P.cellsOf e = 3) (hB : P.bytesOf e = 24) : OpensE P t := fun H enc w base spare held fuel cs x h hw => by
  obtain ⟨l, v, h1, h2, h3⟩ := open_edge_list ht he h0.1 h0.2.1 h0.2.2.1 h0.2.2.2.1 h0.2.2.2.2.1 h0.2.2.2.2.2 hq hc hct hB h hw
  exact ⟨l, v, h1, h2, by simp only [bound]; omega⟩

theorem opensG {P : Program} {t a b : TypeId} {f0 f1 : Field} (ht : P.underlying t = some (.struct #[f0, f1])) (hf : f0.type = a ∧ f1.type = b ∧ f0.offset = 0 ∧ f1.offset = 1) (hc : P.cellsOf t = 2) (ha : P.cellsOf a = 1) (hb : P.cellsOf b = 1) (oa : OpensI P a) (ob : OpensE P b) : OpensG P t := by
  intro H enc w base spare held fuel cs x h hw
  obtain ⟨y0, y1, n, rfl, hl, g0, g1⟩ := trod_struct2 ht h
  obtain ⟨rfl, rfl, o0, o1⟩ := hf
  rw [o0, ha] at g0
  rw [o1, hb] at g1
  rw [hc] at hl
  have hw : ((y0.1.weights P f0.type ++ (y1.1.weights P f1.type ++ [])).all (· ≤ reachBytes)) = true := by simpa [DataW.weights, ht, DataW.weightsEach] using hw
  rw [List.all_append, List.all_append, Bool.and_eq_true, Bool.and_eq_true] at hw
  match cs, hl with
  | [u, v], _ =>
    obtain ⟨l, v0, e0, c0, b0⟩ := oa _ _ _ _ _ _ _ _ _ g0 hw.1
    obtain ⟨l1, v1, e1, c1, b1⟩ := ob _ _ _ _ _ _ _ _ _ g1 hw.2.1
    simp at e0 e1
    subst e0 e1
    exact ⟨⟨l, l1⟩, _, _, rfl, c0, c1, b0, b1⟩

theorem opensP {P : Program} {t a : TypeId} {f0 f1 : Field} (ht : P.underlying t = some (.struct #[f0, f1])) (hf : f0.type = a ∧ f1.type = a ∧ f0.offset = 0 ∧ f1.offset = 1) (hc : P.cellsOf t = 2) (ha : P.cellsOf a = 1) (oa : OpensI P a) : OpensP P t := by
  intro H enc w base spare held fuel cs x h hw
  obtain ⟨y0, y1, n, rfl, hl, g0, g1⟩ := trod_struct2 ht h
  obtain ⟨h0, h1, o0, o1⟩ := hf
  rw [h0, o0, ha] at g0
  rw [h1, o1, ha] at g1
  rw [hc] at hl
  have hw : ((y0.1.weights P a ++ (y1.1.weights P a ++ [])).all (· ≤ reachBytes)) = true := by simpa [DataW.weights, ht, DataW.weightsEach, h0, h1] using hw
  rw [List.all_append, List.all_append, Bool.and_eq_true, Bool.and_eq_true] at hw
  match cs, hl with
  | [u, v], _ =>
    obtain ⟨l, v0, e0, c0, b0⟩ := oa _ _ _ _ _ _ _ _ _ g0 hw.1
    obtain ⟨l1, v1, e1, c1, b1⟩ := oa _ _ _ _ _ _ _ _ _ g1 hw.2.1
    simp at e0 e1
    subst e0 e1
    exact ⟨⟨l, l1⟩, _, _, rfl, c0, c1, b0, b1⟩
end Go.Proofs.YthcnpnogfblkcaaGreat.Abs

/- Lists of bytes, drafts and words as a row's arguments, opened into trees. -/
namespace Go.Proofs.YthcnpnogfblkcaaGreat.Abs
open Go.RowKit Go.ChangeShapes Go.WideShapes Go.Deep
set_option linter.unusedVariables false
set_option linter.unusedSimpArgs false

/-- Three bytes. -/
structure T3 where
  a : Nat
  b : Nat
  c : Nat
instance : Inhabited T3 := ⟨⟨0, 0, 0⟩⟩
def T3.small (e : T3) : Prop := e.a < 256 ∧ e.b < 256 ∧ e.c < 256
def byL (l : List Nat) : List C := l.map fun x => .int .u8 (x : Nat)
def bys (l : List Nat) : C := .sl l.length (byL l)
def t3C (e : T3) : List C := [.int .u8 (e.a : Nat), .int .u8 (e.b : Nat), .int .u8 (e.c : Nat)]
def t3L (l : List T3) : List C := l.flatMap t3C
def t3s (l : List T3) : C := .sl l.length (t3L l)
/-- A description of a graph, or of a graph over another one. -/
structure Dr where
  nodes : List Nat
  edges : List T3
def Dr.v (d : Dr) : TV := (true, [bys d.nodes, t3s d.edges])
def byV (l : List Nat) : TV := (false, [bys l])
def by2V (l : List Nat × List Nat) : TV := (true, [bys l.1, bys l.2])
def by3V (l : List Nat × List Nat × List Nat) : TV := (true, [bys l.1, bys l.2.1, bys l.2.2])
def u64V (n : Nat) : TV := (false, [.int .u64 (n : Nat)])
def u642V (n : Nat × Nat) : TV := (true, [.int .u64 (n.1 : Nat), .int .u64 (n.2 : Nat)])
def BoundB (l : List Nat) : Prop := (∀ x ∈ l, x < 256) ∧ l.length ≤ maxLen
def BoundD (d : Dr) : Prop := BoundB d.nodes ∧ (∀ x ∈ d.edges, x.small) ∧ d.edges.length ≤ maxLen
def BoundB2 (l : List Nat × List Nat) : Prop := BoundB l.1 ∧ BoundB l.2
def BoundB3 (l : List Nat × List Nat × List Nat) : Prop := BoundB l.1 ∧ BoundB l.2.1 ∧ BoundB l.2.2
def BoundU (n : Nat) : Prop := n < 18446744073709551616
def BoundUU (n : Nat × Nat) : Prop := BoundU n.1 ∧ BoundU n.2
def byth (l : List Nat) (k : Nat) : Nat := l.getD k 0
def t3th (l : List T3) (k : Nat) : T3 := l.getD k ⟨0, 0, 0⟩

theorem len_byL {l : List Nat} : (byL l).length = l.length := by simp [byL]
theorem len_t3L : ∀ {l : List T3}, (t3L l).length = l.length * 3
  | [] => rfl
  | e :: r => by
    have := len_t3L (l := r)
    simp only [t3L] at this
    simp only [t3L, List.flatMap_cons, List.length_append, this, List.length_cons]
    simp [t3C]
    omega
theorem byth_eq {l : List Nat} {k : Nat} (h : k < l.length) : byth l k = l[k] := by simp [byth, h]
theorem drop_byL {l : List Nat} {k : Nat} (h : k < l.length) : (byL l).drop k = .int .u8 (byth l k : Nat) :: (byL (l.drop (k + 1))) := by
  rw [byth_eq h, byL, ← List.map_drop, List.drop_eq_getElem_cons h, List.map_cons]
  rfl
theorem drop_t3L : ∀ {l : List T3} {k : Nat}, k < l.length → (t3L l).drop (k * 3) = .int .u8 ((t3th l k).a : Nat) :: .int .u8 ((t3th l k).b : Nat) :: .int .u8 ((t3th l k).c : Nat) :: t3L (l.drop (k + 1))
  | [], k, h => absurd h (by simp)
  | e :: r, 0, h => by simp [t3L, t3C, t3th]
  | e :: r, k + 1, h => by
    have ih := drop_t3L (l := r) (k := k) (by simpa using h)
    have e1 : (k + 1) * 3 = k * 3 + 3 := by omega
    rw [e1, t3L, List.flatMap_cons]
    rw [show (t3C e ++ List.flatMap t3C r).drop (k * 3 + 3) = ((t3C e ++ List.flatMap t3C r).drop 3).drop (k * 3) by rw [List.drop_drop, Nat.add_comm]]
    simpa [t3C, t3th, t3L] using ih
theorem byth_small {l : List Nat} (h : ∀ x ∈ l, x < 256) (k : Nat) : byth l k < 256 := by
  by_cases hk : k < l.length
  · rw [byth_eq hk]; exact h _ (List.getElem_mem hk)
  · simp [byth, List.getD, List.getElem?_eq_none (Nat.le_of_not_lt hk)]
theorem t3th_small {l : List T3} (h : ∀ x ∈ l, x.small) (k : Nat) : (t3th l k).small := by
  by_cases hk : k < l.length
  · have : t3th l k = l[k] := by simp [t3th, hk]
    rw [this]; exact h _ (List.getElem_mem hk)
  · have : t3th l k = ⟨0, 0, 0⟩ := by simp [t3th, List.getD, List.getElem?_eq_none (Nat.le_of_not_lt hk)]
    rw [this]
    exact ⟨by decide, by decide, by decide⟩

theorem wf_u8 {n : Int} (h : (Lit.int .u8 n).wf = true) : ∃ m : Nat, n = m ∧ m < 256 := by
  have m1 : IntKind.u8.min = 0 := by decide
  have m2 : IntKind.u8.max = 255 := by decide
  simp [Lit.wf, m1, m2] at h
  exact ⟨n.toNat, by omega, by omega⟩
theorem wf_u64 {n : Int} (h : (Lit.int .u64 n).wf = true) : ∃ m : Nat, n = m ∧ m < 18446744073709551616 := by
  have m1 : IntKind.u64.min = 0 := by decide
  have m2 : IntKind.u64.max = 18446744073709551615 := by decide
  simp [Lit.wf, m1, m2] at h
  exact ⟨n.toNat, by omega, by omega⟩

section
variable {H : Type} {enc : TypeId × Value → H} {P : Program} {w : World} {base : Nat} {spare : Nat → Bool} {held : Bool}

theorem get_byL {l : List Nat} {j : Nat} {c : C} (h : (byL l)[j]? = some c) : j < l.length ∧ c = .int .u8 (byth l j : Nat) := by
  have hj : j < l.length := by
    have := (List.getElem?_eq_some_iff.1 h).1
    rwa [len_byL] at this
  refine ⟨hj, ?_⟩
  rw [byL, List.getElem?_map, List.getElem?_eq_getElem hj] at h
  simp at h
  rw [byth_eq hj, ← h]
theorem open_by_list {t e : TypeId} {fuel : Nat} {cs : List Value} {x : DataW H × List MemPlace} (ht : P.underlying t = some (.slice e)) (he : P.underlying e = some (.int .u8)) (hc : P.cellsOf e = 1)
    (h : DataW.trod enc P w base spare held fuel t cs = some x) : ∃ l v, cs = [v] ∧ CR w (fun _ => False) (bys l) v ∧ BoundB l ∧ (l = [] ∨ ∃ es sp, x.1 = .slice es sp ∧ es.length = l.length) := by
  rcases open_ints ht he hc h with ⟨rfl, _⟩ | ⟨a, len, cap, zs, rfl, hb, hl, hm, hz, rfl, hcell, hwf⟩
  · exact ⟨[], _, rfl, .sl 0 0 [] none (fun _ => default) (Nat.le_refl _) (fun h => by simp at h) (fun j c h => by simp at h), ⟨by simp, by simp⟩, .inl rfl⟩
  · have hlen : len ≤ zs.length := by
      rw [hz]
      split
      · exact hl
      · exact Nat.le_refl _
    have hlen2 : ((zs.take len).map Int.toNat).length = len := by simp [Nat.min_eq_left hlen]
    have at_ : ∀ j, j < len → zs.getD j 0 = (byth ((zs.take len).map Int.toNat) j : Nat) ∧ byth ((zs.take len).map Int.toNat) j < 256 := fun j hj => by
      have h1 : zs[j]? = some (zs[j]'(by omega)) := List.getElem?_eq_getElem (by omega)
      obtain ⟨m, h2, h3⟩ := wf_u8 (hwf _ (List.getElem_mem (show j < zs.length by omega)))
      have h4 : byth ((zs.take len).map Int.toNat) j = m := by
        rw [byth_eq (by omega)]
        simp [h2]
      rw [h4]
      refine ⟨by rw [List.getD, h1]; exact h2, h3⟩
    refine ⟨(zs.take len).map Int.toNat, _, rfl, ?_, ⟨fun y hy => ?_, by rw [hlen2]; omega⟩, .inr ⟨_, _, rfl, by simp [lits]⟩⟩
    · have e1 : bys ((zs.take len).map Int.toNat) = .sl len (byL ((zs.take len).map Int.toNat)) := by rw [bys, hlen2]
      rw [e1]
      refine .sl len cap _ (some a) (fun j => .int .u8 (zs.getD j 0)) hl (fun _ => ⟨a, rfl, id, fun j hj => hcell j (by rw [len_byL, hlen2] at hj; omega)⟩) (fun j c hj => ?_)
      obtain ⟨h1, rfl⟩ := get_byL hj
      rw [hlen2] at h1
      rw [(at_ j h1).1]
      exact .int _ _
    · obtain ⟨j, hj, rfl⟩ := List.mem_iff_getElem.1 hy
      rw [hlen2] at hj
      rw [← byth_eq]
      exact (at_ j hj).2

theorem get_t3L : ∀ {l : List T3} {j : Nat} {c : C}, (t3L l)[j]? = some c → j / 3 < l.length ∧ (t3C (t3th l (j / 3)))[j % 3]? = some c
  | [], j, c, h => by simp [t3L] at h
  | e :: r, j, c, h => by
    have e1 : t3L (e :: r) = t3C e ++ t3L r := by simp [t3L]
    rw [e1] at h
    by_cases hj : j < 3
    · rw [List.getElem?_append_left (by simpa [t3C] using hj)] at h
      have h1 : j / 3 = 0 := by omega
      have h2 : j % 3 = j := by omega
      rw [h1, h2]
      exact ⟨by simp, by simpa [t3th] using h⟩
    · rw [List.getElem?_append_right (by simp [t3C]; omega)] at h
      have hl : (t3C e).length = 3 := rfl
      rw [hl] at h
      obtain ⟨i1, i2⟩ := get_t3L h
      have h1 : j / 3 = (j - 3) / 3 + 1 := by omega
      have h2 : j % 3 = (j - 3) % 3 := by omega
      rw [h1, h2]
      exact ⟨by simpa using i1, by simpa [t3th] using i2⟩

/-- An array, opened. -/
theorem trod_array {t e : TypeId} {n fuel : Nat} {cs : List Value} {x : DataW H × List MemPlace} (ht : P.underlying t = some (.array n e)) (h : DataW.trod enc P w base spare held fuel t cs = some x) :
    ∃ (xs : List (DataW H × List MemPlace)) (m : Nat), fuel = m + 1 ∧ x = (.agg (xs.map (·.1)), xs.flatMap (·.2)) ∧ cs.length = P.cellsOf t ∧ xs.length = n ∧
      ∀ (i : Nat), i < n → DataW.trod enc P w base spare held m e ((cs.drop (i * P.cellsOf e)).take (P.cellsOf e)) = xs[i]? := by
  cases fuel with
  | zero => simp [DataW.trod] at h
  | succ m =>
    unfold DataW.trod at h
    rw [ht] at h
    split at h <;> simp_all
    obtain ⟨hl, xs, hp, hd⟩ := h
    exact ⟨xs, hd.symm, by simpa using mapM_some_length hp, fun i hi => mapM_some_get hp i i (by simp [hi])⟩

theorem open_t3 {t e : TypeId} {fuel : Nat} {cs : List Value} {x : DataW H × List MemPlace} (ht : P.underlying t = some (.array 3 e)) (he : P.underlying e = some (.int .u8)) (hc : P.cellsOf e = 1) (hct : P.cellsOf t = 3)
    (h : DataW.trod enc P w base spare held fuel t cs = some x) : ∃ d : T3, d.small ∧ cs = [.int .u8 (d.a : Nat), .int .u8 (d.b : Nat), .int .u8 (d.c : Nat)] := by
  obtain ⟨xs, n, _, _, hl, hlen, hfs⟩ := trod_array ht h
  rw [hct] at hl
  rw [hc] at hfs
  match xs, hlen, cs, hl with
  | [y0, y1, y2], _, [a, b, c], _ =>
    have g0 := hfs 0 (by omega)
    have g1 := hfs 1 (by omega)
    have g2 := hfs 2 (by omega)
    obtain ⟨p, e0, _, w0⟩ := DataW.trod_int he g0
    obtain ⟨q, e1, _, w1⟩ := DataW.trod_int he g1
    obtain ⟨r, e2, _, w2⟩ := DataW.trod_int he g2
    obtain ⟨p', rfl, hp⟩ := wf_u8 w0
    obtain ⟨q', rfl, hq⟩ := wf_u8 w1
    obtain ⟨r', rfl, hr⟩ := wf_u8 w2
    simp at e0 e1 e2
    exact ⟨⟨p', q', r'⟩, ⟨hp, hq, hr⟩, by rw [e0, e1, e2]⟩

theorem open_t3_list {t e q : TypeId} {fuel : Nat} {cs : List Value} {x : DataW H × List MemPlace} (ht : P.underlying t = some (.slice e)) (he : P.underlying e = some (.array 3 q)) (hq : P.underlying q = some (.int .u8)) (hc : P.cellsOf q = 1) (hct : P.cellsOf e = 3)
    (h : DataW.trod enc P w base spare held fuel t cs = some x) : ∃ l v, cs = [v] ∧ CR w (fun _ => False) (t3s l) v ∧ (∀ x ∈ l, T3.small x) ∧ l.length ≤ maxLen := by
  rcases open_slice ht h with ⟨rfl, _⟩ | ⟨a, len, cap, m, n, D, Pl, rfl, hb, hl, hm, hmm, rfl, hx⟩
  · exact ⟨[], _, rfl, .sl 0 0 [] none (fun _ => default) (Nat.le_refl _) (fun h => by simp [t3L] at h) (fun j c h => by simp [t3L] at h), by simp, by simp⟩
  · have hlen : len ≤ m := by
      rw [hmm]
      split
      · exact hl
      · exact Nat.le_refl _
    obtain ⟨F, hF⟩ := choose_lt (α := T3) (p := fun i d => d.small ∧ w.cell? (a.add (i * 3)) = some (.int .u8 (d.a : Nat)) ∧ w.cell? (a.add (i * 3 + 1)) = some (.int .u8 (d.b : Nat)) ∧ w.cell? (a.add (i * 3 + 2)) = some (.int .u8 (d.c : Nat))) (fun i (hi : i < m) => by
      obtain ⟨cs', g1, g2⟩ := hx i hi
      rw [hct] at g1
      obtain ⟨_, _, g3⟩ := World.cells?_some g1
      obtain ⟨d, hs, rfl⟩ := open_t3 he hq hc hct g2
      have c0 := g3 0 (by omega)
      have c1 := g3 1 (by omega)
      have c2 := g3 2 (by omega)
      rw [Addr.add_add] at c0 c1 c2
      exact ⟨d, hs, by simpa using c0, by simpa using c1, by simpa using c2⟩)
    have hl2 : ((List.range len).map F).length = len := by simp
    have key : ∀ i, i < len → t3th ((List.range len).map F) i = F i := fun i hi => by simp [t3th, hi]
    refine ⟨(List.range len).map F, _, rfl, ?_, fun y hy => ?_, by rw [hl2]; omega⟩
    · have e1 : t3s ((List.range len).map F) = .sl len (t3L ((List.range len).map F)) := by rw [t3s, hl2]
      rw [e1]
      let U : Nat → Value := fun j => if j % 3 = 0 then .int .u8 ((F (j / 3)).a : Nat) else if j % 3 = 1 then .int .u8 ((F (j / 3)).b : Nat) else .int .u8 ((F (j / 3)).c : Nat)
      refine .sl len cap _ (some a) U hl (fun _ => ⟨a, rfl, id, fun j hj => ?_⟩) (fun j c hj => ?_)
      · rw [len_t3L, hl2] at hj
        obtain ⟨_, g0, g1, g2⟩ := hF (j / 3) (by omega)
        have hcase : j % 3 = 0 ∨ j % 3 = 1 ∨ j % 3 = 2 := by omega
        rcases hcase with e | e | e
        · have : j = j / 3 * 3 := by omega
          simp only [U, e, if_true]
          rw [this]; simpa using g0
        · have : j = j / 3 * 3 + 1 := by omega
          simp only [U, e]
          rw [show a.add j = a.add (j / 3 * 3 + 1) by rw [← this]]
          simpa using g1
        · have : j = j / 3 * 3 + 2 := by omega
          simp only [U, e]
          rw [show a.add j = a.add (j / 3 * 3 + 2) by rw [← this]]
          simpa using g2
      · obtain ⟨q1, q2⟩ := get_t3L hj
        rw [hl2] at q1
        rw [key _ q1] at q2
        have hcase : j % 3 = 0 ∨ j % 3 = 1 ∨ j % 3 = 2 := by omega
        rcases hcase with e | e | e <;> (rw [e] at q2; simp [t3C] at q2; subst q2; simp only [U, e]; exact CR.int _ _)
    · obtain ⟨i, hi, rfl⟩ := List.mem_map.1 hy
      exact (hF i (by have := List.mem_range.1 hi; omega)).1
end

/-! ### What opens, as words -/
def OpensB (P : Program) (t : TypeId) : Prop := ∀ (H : Type) (enc : TypeId × Value → H) (w : World) (base : Nat) (spare : Nat → Bool) (held : Bool) (fuel : Nat) (cs : List Value) (x : DataW H × List MemPlace),
  DataW.trod enc P w base spare held fuel t cs = some x → ∃ l v, cs = [v] ∧ CR w (fun _ => False) (bys l) v ∧ BoundB l ∧ (l = [] ∨ ∃ es sp, x.1 = .slice es sp ∧ es.length = l.length)
def OpensT (P : Program) (t : TypeId) : Prop := ∀ (H : Type) (enc : TypeId × Value → H) (w : World) (base : Nat) (spare : Nat → Bool) (held : Bool) (fuel : Nat) (cs : List Value) (x : DataW H × List MemPlace),
  DataW.trod enc P w base spare held fuel t cs = some x → ∃ l v, cs = [v] ∧ CR w (fun _ => False) (t3s l) v ∧ (∀ x ∈ l, T3.small x) ∧ l.length ≤ maxLen
def OpensD (P : Program) (t : TypeId) : Prop := ∀ (H : Type) (enc : TypeId × Value → H) (w : World) (base : Nat) (spare : Nat → Bool) (held : Bool) (v : Value) (d : DataW H) (ps : List MemPlace),
  DataW.Trod enc P w base spare held t v d ps → ∃ x : Dr, TVR w (fun _ => False) x.v v ∧ BoundD x

theorem tvr_cells {w : World} {Z : Nat → Prop} {us : Array Value} {cs : List C} {vs : List Value} (e : us.toList = vs) (hl : cs.length = vs.length) (h : ∀ (j : Nat) c u, cs[j]? = some c → vs[j]? = some u → CR w Z c u) : TVR w Z (true, cs) (.agg us) :=
  ⟨us, rfl, by rw [e]; exact hl, fun j c u hc hu => h j c u hc (by rw [← e]; exact hu)⟩
theorem agg_of {v : Value} {vs : List Value} (e : v.cells.toList = vs) (h : vs.length ≠ 1) : ∃ us : Array Value, v = .agg us ∧ us.toList = vs := by
  cases v <;> first | exact ⟨_, rfl, e⟩ | (simp [Value.cells] at e; subst e; simp at h)

theorem opensD {P : Program} {t a b : TypeId} {f0 f1 : Field} (ht : P.underlying t = some (.struct #[f0, f1])) (hf : f0.type = a ∧ f1.type = b ∧ f0.offset = 0 ∧ f1.offset = 1) (hc : P.cellsOf t = 2) (ha : P.cellsOf a = 1) (hb : P.cellsOf b = 1) (oa : OpensB P a) (ob : OpensT P b) : OpensD P t := by
  rintro H enc w base spare held v d ps ⟨fuel, h⟩
  obtain ⟨y0, y1, n, _, hl, g0, g1⟩ := trod_struct2 ht h
  obtain ⟨rfl, rfl, o0, o1⟩ := hf
  rw [o0, ha] at g0
  rw [o1, hb] at g1
  rw [hc] at hl
  match hu : v.cells.toList, hl with
  | [u, v'], _ =>
    rw [hu] at g0 g1
    obtain ⟨l, v0, e0, c0, b0, _⟩ := oa _ _ _ _ _ _ _ _ _ g0
    obtain ⟨l1, v1, e1, c1, b1, b2⟩ := ob _ _ _ _ _ _ _ _ _ g1
    simp at e0 e1
    subst e0 e1
    obtain ⟨us, rfl, e⟩ := agg_of hu (by simp)
    refine ⟨⟨l, l1⟩, tvr_cells e rfl fun j c u hc hu' => ?_, b0, b1, b2⟩
    match j, hc, hu' with
    | 0, hc, hu' | 1, hc, hu' =>
      simp at hc hu'
      subst hc hu'
      assumption
    | j + 2, hc, _ => simp at hc

section
variable {H : Type} {enc : TypeId × Value → H} {P : Program} {w : World} {base : Nat} {spare : Nat → Bool} {held : Bool} {v : Value} {d : DataW H} {ps : List MemPlace} {t e : TypeId}
theorem opens_bytes (o : OpensB P t) (h : DataW.Trod enc P w base spare held t v d ps) (hv : v.cells.toList.length = 1 → v.cells.toList = [v]) : ∃ l, TVR w (fun _ => False) (byV l) v ∧ BoundB l ∧ (l = [] ∨ ∃ es sp, d = .slice es sp ∧ es.length = l.length) := by
  obtain ⟨fuel, h⟩ := h
  obtain ⟨l, u, e, c, b, k⟩ := o _ _ _ _ _ _ _ _ _ h
  have := hv (by rw [e]; rfl)
  rw [e] at this
  simp at this
  subst this
  exact ⟨l, ⟨_, rfl, c⟩, b, k⟩
theorem opens_bytes2 (o : OpensB P e) (ht : P.underlying t = some (.array 2 e)) (hc : P.cellsOf e = 1) (hct : P.cellsOf t = 2) (h : DataW.Trod enc P w base spare held t v d ps) : ∃ l, TVR w (fun _ => False) (by2V l) v ∧ BoundB2 l := by
  obtain ⟨fuel, h⟩ := h
  obtain ⟨xs, n, _, _, hl, hlen, hfs⟩ := trod_array ht h
  rw [hct] at hl
  rw [hc] at hfs
  match xs, hlen, hu : v.cells.toList, hl with
  | [y0, y1], _, [a, b], _ =>
    rw [hu] at hfs
    obtain ⟨l0, v0, e0, c0, b0, _⟩ := o _ _ _ _ _ _ _ _ _ (hfs 0 (by omega))
    obtain ⟨l1, v1, e1, c1, b1, _⟩ := o _ _ _ _ _ _ _ _ _ (hfs 1 (by omega))
    simp at e0 e1
    subst e0 e1
    obtain ⟨us, rfl, e⟩ := agg_of hu (by simp)
    refine ⟨(l0, l1), tvr_cells e rfl fun j c u hc hu' => ?_, b0, b1⟩
    match j, hc, hu' with
    | 0, hc, hu' | 1, hc, hu' =>
      simp at hc hu'
      subst hc hu'
      assumption
    | j + 2, hc, _ => simp at hc
theorem opens_bytes3 (o : OpensB P e) (ht : P.underlying t = some (.array 3 e)) (hc : P.cellsOf e = 1) (hct : P.cellsOf t = 3) (h : DataW.Trod enc P w base spare held t v d ps) : ∃ l, TVR w (fun _ => False) (by3V l) v ∧ BoundB3 l := by
  obtain ⟨fuel, h⟩ := h
  obtain ⟨xs, n, _, _, hl, hlen, hfs⟩ := trod_array ht h
  rw [hct] at hl
  rw [hc] at hfs
  match xs, hlen, hu : v.cells.toList, hl with
  | [y0, y1, y2], _, [a, b, c], _ =>
    rw [hu] at hfs
    obtain ⟨l0, v0, e0, c0, b0, _⟩ := o _ _ _ _ _ _ _ _ _ (hfs 0 (by omega))
    obtain ⟨l1, v1, e1, c1, b1, _⟩ := o _ _ _ _ _ _ _ _ _ (hfs 1 (by omega))
    obtain ⟨l2, v2, e2, c2, b2, _⟩ := o _ _ _ _ _ _ _ _ _ (hfs 2 (by omega))
    simp at e0 e1 e2
    subst e0 e1 e2
    obtain ⟨us, rfl, e⟩ := agg_of hu (by simp)
    refine ⟨(l0, l1, l2), tvr_cells e rfl fun j c u hc hu' => ?_, b0, b1, b2⟩
    match j, hc, hu' with
    | 0, hc, hu' | 1, hc, hu' | 2, hc, hu' =>
      simp at hc hu'
      subst hc hu'
      assumption
    | j + 3, hc, _ => simp at hc
theorem opens_u64 (ht : P.underlying t = some (.int .u64)) (h : DataW.Trod enc P w base spare held t v d ps) (hv : v.cells.toList.length = 1 → v.cells.toList = [v]) : ∃ n, TVR w (fun _ => False) (u64V n) v ∧ BoundU n := by
  obtain ⟨fuel, h⟩ := h
  obtain ⟨n, e, _, hw⟩ := DataW.trod_int ht h
  obtain ⟨m, rfl, hm⟩ := wf_u64 hw
  have := hv (by rw [e]; rfl)
  rw [e] at this
  simp at this
  subst this
  exact ⟨m, ⟨_, rfl, .int _ _⟩, hm⟩
theorem opens_u64s (ht : P.underlying t = some (.array 2 e)) (he : P.underlying e = some (.int .u64)) (hc : P.cellsOf e = 1) (hct : P.cellsOf t = 2) (h : DataW.Trod enc P w base spare held t v d ps) : ∃ l, TVR w (fun _ => False) (u642V l) v ∧ BoundUU l := by
  obtain ⟨fuel, h⟩ := h
  obtain ⟨xs, n, _, _, hl, hlen, hfs⟩ := trod_array ht h
  rw [hct] at hl
  rw [hc] at hfs
  match xs, hlen, hu : v.cells.toList, hl with
  | [y0, y1], _, [a, b], _ =>
    rw [hu] at hfs
    obtain ⟨p, e0, _, w0⟩ := DataW.trod_int he (hfs 0 (by omega))
    obtain ⟨q, e1, _, w1⟩ := DataW.trod_int he (hfs 1 (by omega))
    obtain ⟨p', rfl, hp⟩ := wf_u64 w0
    obtain ⟨q', rfl, hq⟩ := wf_u64 w1
    simp at e0 e1
    subst e0 e1
    obtain ⟨us, rfl, e⟩ := agg_of hu (by simp)
    refine ⟨(p', q'), tvr_cells e rfl fun j c u hc hu' => ?_, hp, hq⟩
    match j, hc, hu' with
    | 0, hc, hu' | 1, hc, hu' =>
      simp at hc hu'
      subst hc hu'
      exact .int _ _
    | j + 2, hc, _ => simp at hc
end
end Go.Proofs.YthcnpnogfblkcaaGreat.Abs

/- Contracts: numbers out of bytes; the graph of a description. -/
namespace Go.Proofs.YthcnpnogfblkcaaGreat
open Abs
set_option linter.unusedSimpArgs false
set_option linter.unusedVariables false
attribute [local simp] rn0 rn1 rn2 rn3 rn4 rn5 rn6 rn7 evOp nests Arg.ev St.val St.set St.new sliceOf binInt2 binInt AV.cells rdAt St.live retOf resOf resAll treeOf treeCell treeCells treeTups untree frameOf TV.av TR.av ints edgs prs fillV splice intsOf trees V1.tree bx Gr.v Pa.v opRd opWr opNew opNewR opArgs argsRd argRd Arg.rd AV.refs V1.refs refsL dstL

theorem nat_rem {a b : Nat} : ((a : Int)).tmod (b : Int) = ((a % b : Nat) : Int) := (Int.ofNat_tmod a b).symm
theorem nat_quo {a b : Nat} : ((a : Int)).tdiv (b : Int) = ((a / b : Nat) : Int) := (Int.ofNat_tdiv a b).symm
theorem rem2 {a : Nat} : ((a : Int)).tmod 2 = ((a % 2 : Nat) : Int) := nat_rem
theorem rem3 {a : Nat} : ((a : Int)).tmod 3 = ((a % 3 : Nat) : Int) := nat_rem
theorem quo2 {a : Nat} : ((a : Int)).tdiv 2 = ((a / 2 : Nat) : Int) := nat_quo
theorem quo16 {a : Nat} : ((a : Int)).tdiv 16 = ((a / 16 : Nat) : Int) := nat_quo
theorem wrap8 {a : Nat} (h : a < 256) : IntKind.u8.wrap (a : Int) = a := by
  simp [IntKind.wrap, IntKind.bits, IntKind.signed]
  omega

/-- The numbers that bytes mean, at least one. -/
def numsL (l : List Nat) : List Int := if l.length = 0 then [0] else l.map fun (x : Nat) => (x : Int)
def numK (l : List Nat) (k : Nat) : List Int := (l.take k).map fun (x : Nat) => (x : Int)
theorem numK_succ {l : List Nat} {k : Nat} (h : k < l.length) : numK l (k + 1) = numK l k ++ [(byth l k : Int)] := by
  rw [numK, List.take_succ_eq_append_getElem h, List.map_append, byth_eq h]
  rfl
theorem numK_len {l : List Nat} {k : Nat} (h : k ≤ l.length) : (numK l k).length = k := by simp [numK]; omega
theorem numsL_nat {l : List Nat} : (numsL l).length ≠ 0 := by
  unfold numsL
  split
  · simp
  · rename_i h
    rw [List.length_map]
    exact h

def c_numbers06 : MFunc := ⟨25, [.tmp 2], .seq (.region [⟨some 2, .mv (.c (.one .nil)), none⟩]) (.seq (.region [⟨some 5, .mkrow 64 3 1 0 [] [], none⟩, ⟨some 3, .mv (.tmp 5), none⟩]) (.seq (.seq (.region [⟨some 4, .mv (.c (.one (.t (.int .i64 0)))), none⟩]) (.block 0 (.loop (.seq (.seq (.region [⟨some 6, .mv (.tmp 4), none⟩, ⟨some 7, .mv (.tmp 0), none⟩, ⟨some 8, .len (.tmp 7), none⟩, ⟨some 9, .bin .lss (.tmp 6) (.tmp 8), none⟩]) (.cond (.tmp 9) .skip (.exit 0))) (.seq (.block 1 (.region [⟨some 12, .mv (.tmp 3), none⟩, ⟨some 13, .mv (.tmp 0), none⟩, ⟨some 14, .mv (.tmp 4), none⟩, ⟨some 15, .idxA 1 (.tmp 13) (.tmp 14), none⟩, ⟨some 16, .load false 1 (.tmp 15), none⟩, ⟨some 17, .conv .i64 (.tmp 16), none⟩, ⟨some 18, .mkrow 326 3 1 1 [.t (.int .i64 0)] [(0, (1, .tmp 17))], none⟩, ⟨some 19, .append 327 3 1 8 (.tmp 12) (.tmp 18), none⟩, ⟨some 3, .mv (.tmp 19), none⟩])) (.region [⟨some 10, .mv (.tmp 4), none⟩, ⟨some 11, .bin .add (.tmp 10) (.c (.one (.t (.int .i64 1)))), none⟩, ⟨some 4, .mv (.tmp 11), none⟩])))))) (.seq (.seq (.region [⟨some 20, .mv (.tmp 3), none⟩, ⟨some 21, .len (.tmp 20), none⟩, ⟨some 22, .bin .eql (.tmp 21) (.c (.one (.t (.int .i64 0)))), none⟩]) (.cond (.tmp 22) (.region [⟨some 23, .mkrow 448 3 1 1 [.t (.int .i64 0)] [(0, (1, .c (.one (.t (.int .i64 0)))))], none⟩, ⟨some 3, .mv (.tmp 23), none⟩]) .skip)) (.seq (.region [⟨some 24, .mv (.tmp 3), none⟩, ⟨some 2, .mv (.tmp 24), none⟩]) .ret))))⟩
theorem k_numbers06 : cFn Tryz.prog Tryz.f109 = some c_numbers06 := by kernel_rfl
theorem numbers06_ok (l : List Nat) (hl : l.length ≤ 1048576) (hs : ∀ x ∈ l, x < 256) : CallOK Tryz.prog 109 [byV l] (.sv (false, [ints (numsL l)])) := by
  refine callOK_W (callS_W (by kernel_rfl) Tryz.func109 k_numbers06 (callable_of Tryz.func109 (by kernel_rfl)) (by simp [c_numbers06]) ?_)
  simp [c_numbers06, byV, bys, len_byL]
  refine loopW_count 4 l.length (fun k S => S.fr 0 = .one (.t (bys l)) ∧ S.cnt 448 = 0 ∧ ∃ u, S.fr 3 = .one u ∧ outR 327 3 1 (numK l k).length ((numK l k).map (.int .i64)) S.ob (.one u)) (by omega) ?_ ?_ ?_
  · simp [bys, numK, outR_nil]
  · rintro k S hlt hw hc ⟨f0, n0, u, f3, hU⟩
    have q1 := numK_len (l := l) (k := k) (by omega)
    have w0 : IntKind.i64.wrap (byth l k : Int) = byth l k := by
      have := byth_small hs k
      rw [wrap64_id] <;> omega
    simp [f0, f3, hc, hlt, bys, len_byL, drop_byL hlt, w0]
    refine kApp_grow (ts := [.int .i64 (byth l k : Nat)]) rfl (hU.keep fun g => by simp) (by omega) rfl (by omega) (by omega) fun E3 hE3 hob3 hcnt3 => ?_
    obtain ⟨w, hu3⟩ := hE3.one
    rw [hu3] at hE3
    simp [f0, f3, hc, hw, hob3, hcnt3, hu3, bys, n0, numK_succ hlt]
    simpa using hE3
  · rintro S hc ⟨f0, n0, u, f3, hU⟩
    have q1 := numK_len (l := l) (k := l.length) (by omega)
    rcases hU with ⟨m1, m2, m3⟩ | ⟨m1, g1, m3, m4⟩
    · cases m3
      have z : l.length = 0 := by omega
      simp [f0, f3, hc, bys, len_byL, n0, numsL, z]
    · cases m3
      have z : ¬ l.length = 0 := by omega
      have e : numK l l.length = numsL l := by rw [numsL, if_neg z, numK, List.take_length]
      rw [e] at m4 q1
      have z2 : ¬ (numsL l).length = 0 := by omega
      have z3 : ¬ (numK l l.length).length = 0 := by rw [e]; exact z2
      simp [f0, f3, hc, bys, len_byL, n0, m4, z2, e]
      exact untreeI _

/-! ### Graphs of descriptions -/
def mdN (d : Dr) (k : Nat) : List Int := (List.range k).map fun i => ((byth d.nodes i % 3 : Nat) : Int)
def mdn (d : Dr) : Nat := min d.nodes.length 8
def mdX (d : Dr) (i : Nat) : Ed := ⟨((t3th d.edges i).a % 2 : Nat), ((t3th d.edges i).b % mdn d : Nat), ((t3th d.edges i).c % mdn d : Nat)⟩
def mdE (d : Dr) (k : Nat) : List Ed := (List.range k).map (mdX d)
def mde (d : Dr) : Nat := if mdn d = 0 then 0 else min d.edges.length 10
def mdG (d : Dr) : Gr := ⟨mdN d (mdn d), mdE d (mde d)⟩
theorem mdN_len {d : Dr} {k : Nat} : (mdN d k).length = k := by simp [mdN]
theorem mdE_len {d : Dr} {k : Nat} : (mdE d k).length = k := by simp [mdE]
theorem mdN_succ {d : Dr} {k : Nat} : mdN d (k + 1) = mdN d k ++ [((byth d.nodes k % 3 : Nat) : Int)] := by simp [mdN, List.range_succ]
theorem mdE_succ {d : Dr} {k : Nat} : mdE d (k + 1) = mdE d k ++ [mdX d k] := by simp [mdE, List.range_succ]

def c_made05 : MFunc := ⟨81, [.cell 2 true 2], .seq (.region [⟨some 1, .box 0 42 (.tmp 0), none⟩, ⟨some 2, .alloc 1 25 [.nil, .nil], none⟩]) (.seq (.region [⟨some 3, .alloc 64 25 [.nil, .nil], none⟩]) (.seq (.seq (.region [⟨some 4, .mv (.c (.one (.t (.int .i64 0)))), none⟩]) (.block 0 (.loop (.seq (.seq (.region [⟨some 7, .mv (.tmp 4), none⟩, ⟨some 8, .fieldA 0 (.tmp 1), none⟩, ⟨some 9, .load false 1 (.tmp 8), none⟩, ⟨some 10, .len (.tmp 9), none⟩, ⟨some 11, .bin .lss (.tmp 7) (.tmp 10), none⟩, ⟨some 12, .mv (.tmp 11), none⟩, ⟨some 13, .mv (.tmp 4), some (12, true)⟩, ⟨some 14, .bin .lss (.tmp 13) (.c (.one (.t (.int .i64 8)))), some (12, true)⟩, ⟨some 15, .pick (.tmp 12) (.tmp 14) (.c (.one (.t (.bool false)))), none⟩]) (.cond (.tmp 15) .skip (.exit 0))) (.seq (.block 1 (.draw [[], [0], [], [2], [], [3, 4], [5], [6], [7], [8], [1, 9], [0, 1, 2, 3, 4, 5, 6, 7, 8, 9, 10], [11, 10, 10, 0, 1, 2, 3, 4, 5, 6, 7, 8, 9, 10]] [⟨some 18, .fieldA 0 (.tmp 3), none⟩, ⟨some 19, .load false 1 (.tmp 18), none⟩, ⟨some 20, .fieldA 0 (.tmp 1), none⟩, ⟨some 21, .load false 1 (.tmp 20), none⟩, ⟨some 22, .mv (.tmp 4), none⟩, ⟨some 23, .idxA 1 (.tmp 21) (.tmp 22), none⟩, ⟨some 24, .load false 1 (.tmp 23), none⟩, ⟨some 25, .bin .rem (.tmp 24) (.c (.one (.t (.int .u8 3)))), none⟩, ⟨some 26, .conv .i64 (.tmp 25), none⟩, ⟨some 27, .mkrow 329 3 1 1 [.t (.int .i64 0)] [(0, (1, .tmp 26))], none⟩, ⟨some 28, .append 330 3 1 8 (.tmp 19) (.tmp 27), none⟩, ⟨some 29, .fieldA 0 (.tmp 3), none⟩, ⟨none, .store 1 (.tmp 29) (.tmp 28), none⟩])) (.region [⟨some 16, .mv (.tmp 4), none⟩, ⟨some 17, .bin .add (.tmp 16) (.c (.one (.t (.int .i64 1)))), none⟩, ⟨some 4, .mv (.tmp 17), none⟩])))))) (.seq (.region [⟨some 30, .fieldA 0 (.tmp 3), none⟩, ⟨some 31, .load false 1 (.tmp 30), none⟩, ⟨some 32, .len (.tmp 31), none⟩, ⟨some 5, .mv (.tmp 32), none⟩]) (.seq (.seq (.region [⟨some 6, .mv (.c (.one (.t (.int .i64 0)))), none⟩]) (.block 2 (.loop (.seq (.seq (.region [⟨some 33, .mv (.tmp 6), none⟩, ⟨some 34, .fieldA 1 (.tmp 1), none⟩, ⟨some 35, .load false 1 (.tmp 34), none⟩, ⟨some 36, .len (.tmp 35), none⟩, ⟨some 37, .bin .lss (.tmp 33) (.tmp 36), none⟩, ⟨some 38, .mv (.tmp 37), none⟩, ⟨some 39, .mv (.tmp 6), some (38, true)⟩, ⟨some 40, .bin .lss (.tmp 39) (.c (.one (.t (.int .i64 10)))), some (38, true)⟩, ⟨some 41, .pick (.tmp 38) (.tmp 40) (.c (.one (.t (.bool false)))), none⟩, ⟨some 42, .mv (.tmp 41), none⟩, ⟨some 43, .mv (.tmp 5), some (42, true)⟩, ⟨some 44, .bin .gtr (.tmp 43) (.c (.one (.t (.int .i64 0)))), some (42, true)⟩, ⟨some 45, .pick (.tmp 42) (.tmp 44) (.c (.one (.t (.bool false)))), none⟩]) (.cond (.tmp 45) .skip (.exit 2))) (.seq (.block 3 (.draw [[], [0], [], [2], [], [3, 4], [5], [6], [7], [8], [], [10], [], [11, 12], [13], [14], [15], [], [16, 17], [], [19], [], [20, 21], [22], [23], [24], [], [25, 26], [9, 18, 27], [28], [1, 29], [0, 1, 2, 3, 4, 5, 6, 7, 8, 9, 10, 11, 12, 13, 14, 15, 16, 17, 18, 19, 20, 21, 22, 23, 24, 25, 26, 27, 28, 29, 30], [31, 30, 30, 0, 1, 2, 3, 4, 5, 6, 7, 8, 9, 10, 11, 12, 13, 14, 15, 16, 17, 18, 19, 20, 21, 22, 23, 24, 25, 26, 27, 28, 29, 30]] [⟨some 48, .fieldA 1 (.tmp 3), none⟩, ⟨some 49, .load false 1 (.tmp 48), none⟩, ⟨some 50, .fieldA 1 (.tmp 1), none⟩, ⟨some 51, .load false 1 (.tmp 50), none⟩, ⟨some 52, .mv (.tmp 6), none⟩, ⟨some 53, .idxA 3 (.tmp 51) (.tmp 52), none⟩, ⟨some 54, .idxArr 3 1 (.tmp 53) (.c (.one (.t (.int .i64 0)))), none⟩, ⟨some 55, .load false 1 (.tmp 54), none⟩, ⟨some 56, .bin .rem (.tmp 55) (.c (.one (.t (.int .u8 2)))), none⟩, ⟨some 57, .conv .i64 (.tmp 56), none⟩, ⟨some 58, .fieldA 1 (.tmp 1), none⟩, ⟨some 59, .load false 1 (.tmp 58), none⟩, ⟨some 60, .mv (.tmp 6), none⟩, ⟨some 61, .idxA 3 (.tmp 59) (.tmp 60), none⟩, ⟨some 62, .idxArr 3 1 (.tmp 61) (.c (.one (.t (.int .i64 1)))), none⟩, ⟨some 63, .load false 1 (.tmp 62), none⟩, ⟨some 64, .conv .i64 (.tmp 63), none⟩, ⟨some 65, .mv (.tmp 5), none⟩, ⟨some 66, .bin .rem (.tmp 64) (.tmp 65), none⟩, ⟨some 67, .fieldA 1 (.tmp 1), none⟩, ⟨some 68, .load false 1 (.tmp 67), none⟩, ⟨some 69, .mv (.tmp 6), none⟩, ⟨some 70, .idxA 3 (.tmp 68) (.tmp 69), none⟩, ⟨some 71, .idxArr 3 1 (.tmp 70) (.c (.one (.t (.int .i64 2)))), none⟩, ⟨some 72, .load false 1 (.tmp 71), none⟩, ⟨some 73, .conv .i64 (.tmp 72), none⟩, ⟨some 74, .mv (.tmp 5), none⟩, ⟨some 75, .bin .rem (.tmp 73) (.tmp 74), none⟩, ⟨some 76, .build [.t (.int .i64 0), .t (.int .i64 0), .t (.int .i64 0)] [(0, (1, .tmp 57)), (1, (1, .tmp 66)), (2, (1, .tmp 75))], none⟩, ⟨some 77, .mkrow 669 76 3 1 [.t (.int .i64 0), .t (.int .i64 0), .t (.int .i64 0)] [(0, (3, .tmp 76))], none⟩, ⟨some 78, .append 670 76 3 24 (.tmp 49) (.tmp 77), none⟩, ⟨some 79, .fieldA 1 (.tmp 3), none⟩, ⟨none, .store 1 (.tmp 79) (.tmp 78), none⟩])) (.region [⟨some 46, .mv (.tmp 6), none⟩, ⟨some 47, .bin .add (.tmp 46) (.c (.one (.t (.int .i64 1)))), none⟩, ⟨some 6, .mv (.tmp 47), none⟩])))))) (.seq (.region [⟨some 80, .load true 2 (.tmp 3), none⟩, ⟨none, .store 2 (.tmp 2) (.tmp 80), none⟩]) .ret)))))⟩
theorem k_made05 : cFn Tryz.prog Tryz.f28 = some c_made05 := by kernel_rfl
set_option maxHeartbeats 4000000 in
set_option maxRecDepth 20000 in
theorem made05_ok (d : Dr) (hb : BoundD d) : CallOK Tryz.prog 28 [d.v] (.sv (mdG d).v) := by
  refine callOK_W (callS_W (by kernel_rfl) Tryz.func28 k_made05 (callable_of Tryz.func28 (by kernel_rfl)) (by simp [c_made05]) ?_)
  have l8 : mdn d ≤ 8 := by simp only [mdn]; omega
  have l9 : mdn d ≤ d.nodes.length := by simp only [mdn]; omega
  have l10 : mde d ≤ 10 := by simp only [mde]; split <;> omega
  have ml := hb.1.2
  have ml2 := hb.2.2
  simp [c_made05, Dr.v, bys, t3s]
  refine loopW_count 4 (mdn d) (fun k S => S.fr 1 = .one (.ptr (0, 0) 0) ∧ S.fr 2 = .one (.ptr (1, 0) 0) ∧ S.fr 3 = .one (.ptr (64, 0) 0) ∧
    S.ob (0, 0) = some (bx 42 (d.v.2.map .t)) ∧ S.ob (1, 0) = some (bx 25 [.nil, .nil]) ∧
    ∃ vN, S.ob (64, 0) = some (bx 25 [vN, .nil]) ∧ outR 330 3 1 (mdN d k).length ((mdN d k).map (.int .i64)) S.ob (.one vN)) (by omega) ?_ ?_ ?_
  · simp [mdN, outR_nil, Dr.v, bys, t3s]
  · rintro k S hlt hw hc ⟨f1, f2, f3, o0, o1, vN, o64, hN⟩
    have k1 : k < d.nodes.length := by omega
    have k2 : (k : Int) < 8 := by omega
    have w0 : IntKind.i64.wrap ((byth d.nodes k % 3 : Nat) : Int) = ((byth d.nodes k % 3 : Nat) : Int) := by rw [wrap64_id] <;> omega
    have q1 := mdN_len (d := d) (k := k)
    have hN0 := hN
    rcases hN0 with ⟨m1, m2, m3⟩ | ⟨m1, g1, m3, m4⟩
    all_goals
      cases m3
      simp [dw0, dw1, dw2, dw3, f1, f2, f3, o0, o1, o64, hc, Dr.v, bys, t3s, len_byL, k1, k2, drop_byL k1, rem3, w0, -Int.natCast_emod]
      refine kApp_grow (ts := [.int .i64 ((byth d.nodes k % 3 : Nat) : Int)]) rfl (hN.keep fun g => by simp) (by omega) rfl (by omega) (by omega) fun E3 hE3 hob3 hcnt3 => ?_
      obtain ⟨u, hu3⟩ := hE3.one
      rw [hu3] at hE3
      simp [dw0, dw1, dw2, dw3, f1, f2, f3, o0, o1, o64, hc, hw, hob3, hcnt3, hu3, mdN_succ, Dr.v, bys, t3s, -Int.natCast_emod]
      refine ⟨by kernel_rfl, ?_⟩
      try simp [f1, f2, f3, o0, o1, o64, hc, hw, hob3, hcnt3, hu3, mdN_succ, Dr.v, bys, t3s, -Int.natCast_emod]
      exact outR.keep (by simpa using hE3) fun g => by simp
  · rintro S hc ⟨f1, f2, f3, o0, o1, vN, o64, hN⟩
    have q1 := mdN_len (d := d) (k := mdn d)
    have stop : (mdn d < d.nodes.length ∧ ¬ (mdn d : Int) < 8) ∨ ¬ mdn d < d.nodes.length := by
      simp only [mdn]
      omega
    have hN0 := hN
    rcases hN0 with ⟨m1, m2, m3⟩ | ⟨m1, g1, m3, m4⟩
    · cases m3
      have z : mdn d = 0 := by omega
      have z2 : mde d = 0 := by simp [mde, z]
      have z3 : d.nodes.length = 0 := by simp only [mdn] at z; omega
      have e1 : mdG d = ⟨[], []⟩ := by simp [mdG, z, z2, mdN, mdE]
      rw [z] at hc
      rw [e1]
      simp [f1, f2, f3, o0, o1, o64, hc, Dr.v, bys, t3s, len_byL, z3]
      refine loopW_count 6 0 (fun k S => S.fr 1 = .one (.ptr (0, 0) 0) ∧ S.fr 2 = .one (.ptr (1, 0) 0) ∧ S.fr 3 = .one (.ptr (64, 0) 0) ∧ S.fr 5 = .one (.t (.int .i64 0)) ∧
        S.ob (0, 0) = some (bx 42 (d.v.2.map .t)) ∧ S.ob (1, 0) = some (bx 25 [.nil, .nil]) ∧ S.ob (64, 0) = some (bx 25 [.nil, .nil])) (by omega) ?_ ?_ ?_
      · simp [f1, f2, f3, o0, o1, o64, Dr.v, bys, t3s]
      · rintro k S hlt hw hc _
        omega
      · rintro S hc ⟨f1, f2, f3, f5, o0, o1, o64⟩
        by_cases y1 : 0 < d.edges.length
        · have y2 : 0 < d.edges.length := y1
          simp [f1, f2, f3, f5, o0, o1, o64, hc, Dr.v, bys, t3s, len_byL, y1, edL]
        · simp [f1, f2, f3, f5, o0, o1, o64, hc, Dr.v, bys, t3s, len_byL, y1, edL]
    · cases m3
      have z : 0 < mdn d := by omega
      have z2 : mde d = min d.edges.length 10 := by simp only [mde]; rw [if_neg (by omega)]
      have zw : IntKind.i64.wrap (mdn d : Int) = mdn d := by rw [wrap64_id] <;> omega
      rcases stop with ⟨y1, y2⟩ | y1
      all_goals
        first
        | simp [f1, f2, f3, o0, o1, o64, hc, Dr.v, bys, t3s, len_byL, y1, y2, m4]
        | simp [f1, f2, f3, o0, o1, o64, hc, Dr.v, bys, t3s, len_byL, y1, m4]
        refine loopW_count 6 (mde d) (fun k S => S.fr 1 = .one (.ptr (0, 0) 0) ∧ S.fr 2 = .one (.ptr (1, 0) 0) ∧ S.fr 3 = .one (.ptr (64, 0) 0) ∧ S.fr 5 = .one (.t (.int .i64 (mdn d))) ∧
          S.ob (0, 0) = some (bx 42 (d.v.2.map .t)) ∧ S.ob (1, 0) = some (bx 25 [.nil, .nil]) ∧ S.ob (330, g1) = some ⟨true, true, false, 1, mdn d, 3, ((mdN d (mdn d)).map (.int .i64)).map .t⟩ ∧
          ∃ vE, S.ob (64, 0) = some (bx 25 [.row (330, g1), vE]) ∧ outR 670 76 3 (mdE d k).length (edL (mdE d k)) S.ob (.one vE)) (by omega) ?_ ?_ ?_
        · simp [f1, f2, f3, o0, o1, o64, m4, q1, Dr.v, bys, t3s, mdE, edL, outR_nil]
        · rintro k S hlt hw hc ⟨f1, f2, f3, f5, o0, o1, o330, vE, o64, hE⟩
          have k1 : k < d.edges.length := by omega
          have k2 : (k : Int) < 10 := by omega
          have k3 : k * 3 < d.edges.length * 3 := by omega
          obtain ⟨s1, s2, s3⟩ := t3th_small hb.2.1 k
          have r1 := Nat.mod_lt (t3th d.edges k).b z
          have r2 := Nat.mod_lt (t3th d.edges k).c z
          have w1 : IntKind.i64.wrap (((t3th d.edges k).a % 2 : Nat) : Int) = (((t3th d.edges k).a % 2 : Nat) : Int) := by rw [wrap64_id] <;> omega
          have w2 : IntKind.i64.wrap ((t3th d.edges k).b : Int) = (t3th d.edges k).b := by rw [wrap64_id] <;> omega
          have w3 : IntKind.i64.wrap ((t3th d.edges k).c : Int) = (t3th d.edges k).c := by rw [wrap64_id] <;> omega
          have qe := mdE_len (d := d) (k := k)
          have zn : ¬ mdn d = 0 := by omega
          have hE0 := hE
          rcases hE0 with ⟨t1, t2, t3⟩ | ⟨t1, g2, t3, t4⟩
          all_goals
            cases t3
            simp [dw0, dw1, dw2, dw3, f1, f2, f3, f5, o0, o1, o330, o64, hc, Dr.v, bys, t3s, len_t3L, k1, k2, k3, drop_t3L k1, rem2, nat_rem, w1, w2, w3, z, zn, -Int.natCast_emod]
            refine kApp_grow (ts := edC (mdX d k)) rfl (hE.keep fun g => by simp) (by omega) rfl (by omega) (by omega) fun E3 hE3 hob3 hcnt3 => ?_
            obtain ⟨u, hu3⟩ := hE3.one
            rw [hu3] at hE3
            simp [dw0, dw1, dw2, dw3, f1, f2, f3, f5, o0, o1, o330, o64, hc, hw, hob3, hcnt3, hu3, mdE_succ, Dr.v, bys, t3s]
            refine ⟨by kernel_rfl, ?_⟩
            try simp [f1, f2, f3, f5, o0, o1, o330, o64, hc, hw, hob3, hcnt3, hu3, mdE_succ, Dr.v, bys, t3s]
            refine outR.keep (by simpa [edL] using hE3) fun g => by simp
        · rintro S hc ⟨f1, f2, f3, f5, o0, o1, o330, vE, o64, hE⟩
          have qe := mdE_len (d := d) (k := mde d)
          have stop2 : (mde d < d.edges.length ∧ ¬ (mde d : Int) < 10) ∨ ¬ mde d < d.edges.length := by
            rw [z2]
            omega
          have hE0 := hE
          rcases hE0 with ⟨t1, t2, t3⟩ | ⟨t1, g2, t3, t4⟩
          all_goals
            cases t3
            rcases stop2 with ⟨u1, u2⟩ | u1
            all_goals
              first
              | simp [f1, f2, f3, f5, o0, o1, o330, o64, hc, Dr.v, bys, t3s, len_t3L, u1, u2, z, mdG, q1, qe, t4, untreeI, untreeT]
              | simp [f1, f2, f3, f5, o0, o1, o330, o64, hc, Dr.v, bys, t3s, len_t3L, u1, z, mdG, q1, qe, t4, untreeI, untreeT]
              | simp [f1, f2, f3, f5, o0, o1, o330, o64, hc, Dr.v, bys, t3s, len_t3L, u1, u2, z, mdG, q1, qe, t2, untreeI, untreeT]
              | simp [f1, f2, f3, f5, o0, o1, o330, o64, hc, Dr.v, bys, t3s, len_t3L, u1, z, mdG, q1, qe, t2, untreeI, untreeT]
              try omega
end Go.Proofs.YthcnpnogfblkcaaGreat

/- Contracts: the reference's quotients of graphs. -/
namespace Go.Proofs.YthcnpnogfblkcaaGreat
open Abs
set_option linter.unusedSimpArgs false
set_option linter.unusedVariables false
attribute [local simp] rn0 rn1 rn2 rn3 rn4 rn5 rn6 rn7 evOp nests Arg.ev St.val St.set St.new sliceOf binInt2 binInt AV.cells rdAt St.live retOf resOf resAll treeOf treeCell treeCells treeTups untree frameOf TV.av TR.av ints edgs prs fillV splice intsOf trees V1.tree bx Gr.v Pa.v opRd opWr opNew opNewR opArgs argsRd argRd Arg.rd AV.refs V1.refs refsL dstL

/-! ### What is constant on the classes of a generated partition -/
theorem genL_const {α : Type} {n : Nat} {f : Nat → α} : ∀ {l : List (Int × Int)} {p : List Int}, p.length = n → pairsIn l n → (∀ i, i < n → 0 ≤ nth p i) → (∀ i, i < n → f (nth p i).toNat = f i) → (∀ q ∈ l, f q.1.toNat = f q.2.toNat) →
    (∀ i, i < n → f (nth (l.foldl (fun p q => mergeL p q.1.toNat q.2.toNat) p) i).toNat = f i)
  | [], _, _, _, _, h, _ => h
  | q :: r, p, hl, hi, h0, h, hq => by
    rw [List.foldl_cons]
    obtain ⟨a1, a2, b1, b2⟩ := hi q (List.mem_cons_self ..)
    obtain ⟨a, ha⟩ := Int.eq_ofNat_of_zero_le a1
    obtain ⟨b, hb⟩ := Int.eq_ofNat_of_zero_le b1
    have e := hq q (List.mem_cons_self ..)
    rw [ha, hb] at e ⊢
    simp only [Int.toNat_natCast] at e ⊢
    have ha2 : a < n := by omega
    have hb2 : b < n := by omega
    have p1 := h0 a ha2
    have p2 := h0 b hb2
    have c1 := h a ha2
    have c2 := h b hb2
    refine genL_const (by rw [mergeL_len, hl]) (fun x hx => hi x (List.mem_cons_of_mem _ hx)) (fun i hi' => ?_) (fun i hi' => ?_) (fun x hx => hq x (List.mem_cons_of_mem _ hx))
    · rw [mergeL_nth (by omega)]
      split
      · omega
      · exact h0 i hi'
    · rw [mergeL_nth (by omega)]
      split
      · rename_i hm
        have c3 := h i hi'
        rw [hm] at c3
        rcases Int.le_total (nth p a) (nth p b) with hab | hab
        · rw [Int.min_eq_left hab, c1, e, ← c2, ← c3, Int.max_eq_right hab]
        · rw [Int.min_eq_right hab, c2, ← e, ← c1, ← c3, Int.max_eq_left hab]
      · exact h i hi'
theorem genL_inv {α : Type} {n : Nat} {f : Nat → α} {l : List (Int × Int)} (hi : pairsIn l n) (hq : ∀ q ∈ l, f q.1.toNat = f q.2.toNat) {i : Nat} (h : i < n) : f (nth (genL n l) i).toNat = f i :=
  genL_const idL_len hi (fun i h => by rw [idL_nth h]; omega) (fun i h => by rw [idL_nth h]; rfl) hq i h
theorem merge_eq {p : List Int} {a b i j : Nat} (hi : i < p.length) (hj : j < p.length) (h : nth p i = nth p j) : nth (mergeL p a b) i = nth (mergeL p a b) j := by
  rw [mergeL_nth hi, mergeL_nth hj, h]
theorem merge_ab {p : List Int} {a b : Nat} (hi : a < p.length) (hj : b < p.length) : nth (mergeL p a b) a = nth (mergeL p a b) b := by
  rw [mergeL_nth hi, mergeL_nth hj]
  split <;> split <;> omega
theorem fold_eq {n : Nat} : ∀ {l : List (Int × Int)} {p : List Int} {i j : Nat}, p.length = n → i < n → j < n → nth p i = nth p j → nth (l.foldl (fun p q => mergeL p q.1.toNat q.2.toNat) p) i = nth (l.foldl (fun p q => mergeL p q.1.toNat q.2.toNat) p) j
  | [], _, _, _, _, _, _, h => h
  | q :: r, p, i, j, hl, hi, hj, h => by
    rw [List.foldl_cons]
    exact fold_eq (by rw [mergeL_len, hl]) hi hj (merge_eq (by omega) (by omega) h)
theorem fold_pair {n : Nat} : ∀ {l : List (Int × Int)} {p : List Int}, p.length = n → pairsIn l n → ∀ q ∈ l, nth (l.foldl (fun p q => mergeL p q.1.toNat q.2.toNat) p) q.1.toNat = nth (l.foldl (fun p q => mergeL p q.1.toNat q.2.toNat) p) q.2.toNat
  | [], _, _, _, _, h => absurd h (by simp)
  | x :: r, p, hl, hi, q, hq => by
    rw [List.foldl_cons]
    rcases List.mem_cons.1 hq with rfl | hq
    · obtain ⟨a1, a2, b1, b2⟩ := hi q (List.mem_cons_self ..)
      exact fold_eq (n := n) (by rw [mergeL_len, hl]) (by omega) (by omega) (merge_ab (by omega) (by omega))
    · exact fold_pair (by rw [mergeL_len, hl]) (fun x hx => hi x (List.mem_cons_of_mem _ hx)) q hq
/-- The elements of a pair are in one class. -/
theorem genL_pair {n : Nat} {l : List (Int × Int)} (hi : pairsIn l n) {q : Int × Int} (hq : q ∈ l) : nth (genL n l) q.1.toNat = nth (genL n l) q.2.toNat := fold_pair idL_len hi q hq

/-! ### Classes written one by one -/
def clsF {α : Type} (p : List Int) (f : Nat → α) (i : Nat) : Option α := if nth p i = i then some (f i) else none
def clsL {α : Type} (p : List Int) (f : Nat → α) (z : α) (m k : Nat) : List α := collect (clsF p f) k ++ List.replicate (clsN p m - clsN p k) z
theorem clsF_len {α : Type} {p : List Int} {f : Nat → α} {n : Nat} : (collect (clsF p f) n).length = clsN p n := cls_collect
theorem clsL_len {α : Type} {p : List Int} {f : Nat → α} {z : α} {m k : Nat} (h : k ≤ m) : (clsL p f z m k).length = clsN p m := by
  have := clsN_mono (p := p) h
  simp only [clsL, List.length_append, clsF_len, List.length_replicate]
  omega
theorem clsL_zero {α : Type} {p : List Int} {f : Nat → α} {z : α} {m : Nat} : clsL p f z m 0 = List.replicate (clsN p m) z := by simp [clsL, collect_zero, clsN]
theorem clsL_all {α : Type} {p : List Int} {f : Nat → α} {z : α} {m : Nat} : clsL p f z m m = collect (clsF p f) m := by simp [clsL]
theorem clsF_get {α : Type} {p : List Int} {f : Nat → α} {j : Nat} (hj : nth p j = j) : ∀ {k : Nat}, j < k → (collect (clsF p f) k)[clsN p j]? = some (f j)
  | 0, h => absurd h (by omega)
  | k + 1, h => by
    by_cases e : j = k
    · subst e
      rw [collect_some (x := f j) (by simp [clsF, hj]), List.getElem?_append_right (by rw [clsF_len]; omega), clsF_len]
      simp
    · have ih := clsF_get (f := f) hj (k := k) (by omega)
      by_cases e2 : nth p k = k
      · rw [collect_some (x := f k) (by simp [clsF, e2]), List.getElem?_append_left (by rw [clsF_len]; exact clsN_lt hj (by omega)), ih]
      · rw [collect_none (by simp [clsF, e2]), ih]
theorem clsL_set {α : Type} {p : List Int} {f : Nat → α} {z : α} {m k : Nat} (hp : Flat p) (hm : p.length = m) (hk : k < m) (hf : f (nth p k).toNat = f k) : (clsL p f z m k).set (clsN p (nth p k).toNat) (f k) = clsL p f z m (k + 1) := by
  obtain ⟨j, hj, hle⟩ := hp.fo.at (show k < p.length by omega)
  have hx := hp.fx k (by omega)
  rw [hj, Int.toNat_natCast] at hx hf ⊢
  by_cases e : j = k
  · subst e
    have c1 : clsN p (j + 1) = clsN p j + 1 := by simp only [clsN, if_pos hj]
    have c2 := clsN_mono (p := p) (show j + 1 ≤ m by omega)
    have c3 : clsN p m - clsN p j = (clsN p m - clsN p (j + 1)) + 1 := by omega
    rw [clsL, c3, List.replicate_succ, List.set_append_right _ _ (by rw [clsF_len]; exact Nat.le_refl _), clsF_len, Nat.sub_self, List.set_cons_zero, clsL, collect_some (x := f j) (by simp [clsF, hj]), List.append_assoc]
    rfl
  · have e2 : ¬ (j : Int) = k := by omega
    have c1 : clsN p (k + 1) = clsN p k := by simp only [clsN, hj, if_neg e2]
    have hlt := clsN_lt (p := p) hx (show j < k by omega)
    have g := clsF_get (f := f) hx (show j < k by omega)
    rw [clsL, clsL, c1, collect_none (by simp [clsF, hj, e2]), List.set_append_left _ _ (by rw [clsF_len]; exact hlt)]
    congr 1
    apply List.ext_getElem?
    intro i
    rw [List.getElem?_set]
    split
    · rename_i h
      subst h
      rw [if_pos (by rw [clsF_len]; exact hlt), g, hf]
    · rfl

/-! ### A row of edges -/
def rowE (l : List Ed) : Ob := ⟨true, true, false, 3, l.length, 76, (edL l).map .t⟩
theorem edL_append {a b : List Ed} : edL (a ++ b) = edL a ++ edL b := by simp [edL]
theorem rowE_set {l : List Ed} {k : Nat} {e : Ed} (hk : k < l.length) : ((edL l).map V1.t).take (k * 3) ++ V1.t (.int .i64 e.t) :: V1.t (.int .i64 e.f) :: V1.t (.int .i64 e.g) :: ((edL l).map V1.t).drop (k * 3 + 3) = (edL (l.set k e)).map V1.t := by
  have h1 : l.set k e = l.take k ++ e :: l.drop (k + 1) := by rw [List.set_eq_take_append_cons_drop, if_pos hk]
  have h2 : edL l = edL (l.take k) ++ edL (l.drop k) := by rw [← edL_append, List.take_append_drop]
  have h3 : edL l = edL (l.take (k + 1)) ++ edL (l.drop (k + 1)) := by rw [← edL_append, List.take_append_drop]
  have h4 : (edL l).take (k * 3) = edL (l.take k) := by rw [h2, List.take_left' (by rw [len_edL, List.length_take, Nat.min_eq_left (by omega)])]
  have h5 : (edL l).drop (k * 3 + 3) = edL (l.drop (k + 1)) := by rw [h3, List.drop_left' (by rw [len_edL, List.length_take, Nat.min_eq_left (by omega)]; omega)]
  rw [← List.map_take, ← List.map_drop, h4, h5, h1, edL_append]
  simp [edL, edC]

theorem repl_edL {n : Nat} : (edL (List.replicate n ⟨0, 0, 0⟩)).map V1.t = (List.replicate n [V1.t (.int .i64 0), .t (.int .i64 0), .t (.int .i64 0)]).flatten := by
  induction n with
  | zero => rfl
  | succ n ih => rw [List.replicate_succ, List.replicate_succ, List.flatten_cons, ← ih]; simp [edL, edC]

def c_quot10 : MFunc := ⟨96, [.cell 6 true 2, .cell 7 true 2], .seq (.region [⟨some 3, .box 0 25 (.tmp 0), none⟩, ⟨some 6, .alloc 1 25 [.nil, .nil], none⟩, ⟨some 7, .alloc 2 27 [.nil, .nil], none⟩]) (.seq (.region [⟨some 18, .mv (.tmp 1), none⟩, ⟨some 19, .call (.c (.one (.fn 111 []))) 65 [.tmp 18], none⟩, ⟨some 17, .mv (.tmp 19), none⟩, ⟨some 20, .extract (.tmp 17) 0, none⟩, ⟨some 21, .extract (.tmp 17) 1, none⟩, ⟨some 22, .extract (.tmp 17) 2, none⟩, ⟨some 8, .mv (.tmp 20), none⟩, ⟨some 9, .mv (.tmp 21), none⟩, ⟨some 10, .mv (.tmp 22), none⟩]) (.seq (.region [⟨some 24, .mv (.tmp 2), none⟩, ⟨some 25, .call (.c (.one (.fn 111 []))) 129 [.tmp 24], none⟩, ⟨some 23, .mv (.tmp 25), none⟩, ⟨some 26, .extract (.tmp 23) 0, none⟩, ⟨some 27, .extract (.tmp 23) 1, none⟩, ⟨some 28, .extract (.tmp 23) 2, none⟩, ⟨some 11, .mv (.tmp 26), none⟩, ⟨some 12, .mv (.tmp 27), none⟩, ⟨some 13, .mv (.tmp 28), none⟩]) (.seq (.draw [[], [0, 0], [], [2, 2], [1, 3], [], [5, 4, 0, 1, 2, 3, 4, 5]] [⟨some 29, .mv (.tmp 9), none⟩, ⟨some 30, .make 193 3 1 8 [.t (.int .i64 0)] (.tmp 29) (.tmp 29), none⟩, ⟨some 31, .mv (.tmp 12), none⟩, ⟨some 32, .make 195 76 3 24 [.t (.int .i64 0), .t (.int .i64 0), .t (.int .i64 0)] (.tmp 31) (.tmp 31), none⟩, ⟨some 33, .build [.nil, .nil] [(0, (1, .tmp 30)), (1, (1, .tmp 32))], none⟩, ⟨some 14, .alloc 197 25 [.nil, .nil], none⟩, ⟨none, .store 2 (.tmp 14) (.tmp 33), none⟩]) (.seq (.seq (.region [⟨some 15, .mv (.c (.one (.t (.int .i64 0)))), none⟩]) (.block 0 (.loop (.seq (.seq (.region [⟨some 34, .mv (.tmp 15), none⟩, ⟨some 35, .fieldA 0 (.tmp 3), none⟩, ⟨some 36, .load false 1 (.tmp 35), none⟩, ⟨some 37, .len (.tmp 36), none⟩, ⟨some 38, .bin .lss (.tmp 34) (.tmp 37), none⟩]) (.cond (.tmp 38) .skip (.exit 0))) (.seq (.block 1 (.draw [[], [0], [], [], [2, 3], [4], [], [6], [], [7, 8], [9], [1, 5, 0, 1, 2, 3, 4, 5, 6, 7, 8, 9, 10], [11, 10, 0, 1, 2, 3, 4, 5, 6, 7, 8, 9, 10]] [⟨some 41, .fieldA 0 (.tmp 14), none⟩, ⟨some 42, .load false 1 (.tmp 41), none⟩, ⟨some 43, .mv (.tmp 8), none⟩, ⟨some 44, .mv (.tmp 15), none⟩, ⟨some 45, .idxA 1 (.tmp 43) (.tmp 44), none⟩, ⟨some 46, .load false 1 (.tmp 45), none⟩, ⟨some 47, .fieldA 0 (.tmp 3), none⟩, ⟨some 48, .load false 1 (.tmp 47), none⟩, ⟨some 49, .mv (.tmp 15), none⟩, ⟨some 50, .idxA 1 (.tmp 48) (.tmp 49), none⟩, ⟨some 51, .load false 1 (.tmp 50), none⟩, ⟨some 52, .idxA 1 (.tmp 42) (.tmp 46), none⟩, ⟨none, .store 1 (.tmp 52) (.tmp 51), none⟩])) (.region [⟨some 39, .mv (.tmp 15), none⟩, ⟨some 40, .bin .add (.tmp 39) (.c (.one (.t (.int .i64 1)))), none⟩, ⟨some 15, .mv (.tmp 40), none⟩])))))) (.seq (.seq (.region [⟨some 16, .mv (.c (.one (.t (.int .i64 0)))), none⟩]) (.block 2 (.loop (.seq (.seq (.region [⟨some 53, .mv (.tmp 16), none⟩, ⟨some 54, .fieldA 1 (.tmp 3), none⟩, ⟨some 55, .load false 1 (.tmp 54), none⟩, ⟨some 56, .len (.tmp 55), none⟩, ⟨some 57, .bin .lss (.tmp 53) (.tmp 56), none⟩]) (.cond (.tmp 57) .skip (.exit 2))) (.seq (.block 3 (.draw [[], [0], [], [], [2, 3], [4], [], [6], [], [7, 8], [9], [10], [], [], [13], [], [14, 15], [16], [17], [12, 18], [19], [], [], [22], [], [23, 24], [25], [26], [21, 27], [28], [11, 20, 29], [1, 5, 0, 1, 2, 3, 4, 5, 6, 7, 8, 9, 10, 11, 12, 13, 14, 15, 16, 17, 18, 19, 20, 21, 22, 23, 24, 25, 26, 27, 28, 29, 30], [31, 30, 0, 1, 2, 3, 4, 5, 6, 7, 8, 9, 10, 11, 12, 13, 14, 15, 16, 17, 18, 19, 20, 21, 22, 23, 24, 25, 26, 27, 28, 29, 30]] [⟨some 60, .fieldA 1 (.tmp 14), none⟩, ⟨some 61, .load false 1 (.tmp 60), none⟩, ⟨some 62, .mv (.tmp 11), none⟩, ⟨some 63, .mv (.tmp 16), none⟩, ⟨some 64, .idxA 1 (.tmp 62) (.tmp 63), none⟩, ⟨some 65, .load false 1 (.tmp 64), none⟩, ⟨some 66, .fieldA 1 (.tmp 3), none⟩, ⟨some 67, .load false 1 (.tmp 66), none⟩, ⟨some 68, .mv (.tmp 16), none⟩, ⟨some 69, .idxA 3 (.tmp 67) (.tmp 68), none⟩, ⟨some 70, .fieldA 0 (.tmp 69), none⟩, ⟨some 71, .load false 1 (.tmp 70), none⟩, ⟨some 72, .mv (.tmp 8), none⟩, ⟨some 73, .fieldA 1 (.tmp 3), none⟩, ⟨some 74, .load false 1 (.tmp 73), none⟩, ⟨some 75, .mv (.tmp 16), none⟩, ⟨some 76, .idxA 3 (.tmp 74) (.tmp 75), none⟩, ⟨some 77, .fieldA 1 (.tmp 76), none⟩, ⟨some 78, .load false 1 (.tmp 77), none⟩, ⟨some 79, .idxA 1 (.tmp 72) (.tmp 78), none⟩, ⟨some 80, .load false 1 (.tmp 79), none⟩, ⟨some 81, .mv (.tmp 8), none⟩, ⟨some 82, .fieldA 1 (.tmp 3), none⟩, ⟨some 83, .load false 1 (.tmp 82), none⟩, ⟨some 84, .mv (.tmp 16), none⟩, ⟨some 85, .idxA 3 (.tmp 83) (.tmp 84), none⟩, ⟨some 86, .fieldA 2 (.tmp 85), none⟩, ⟨some 87, .load false 1 (.tmp 86), none⟩, ⟨some 88, .idxA 1 (.tmp 81) (.tmp 87), none⟩, ⟨some 89, .load false 1 (.tmp 88), none⟩, ⟨some 90, .build [.t (.int .i64 0), .t (.int .i64 0), .t (.int .i64 0)] [(0, (1, .tmp 71)), (1, (1, .tmp 80)), (2, (1, .tmp 89))], none⟩, ⟨some 91, .idxA 3 (.tmp 61) (.tmp 65), none⟩, ⟨none, .store 3 (.tmp 91) (.tmp 90), none⟩])) (.region [⟨some 58, .mv (.tmp 16), none⟩, ⟨some 59, .bin .add (.tmp 58) (.c (.one (.t (.int .i64 1)))), none⟩, ⟨some 16, .mv (.tmp 59), none⟩])))))) (.seq (.region [⟨some 92, .load true 2 (.tmp 14), none⟩, ⟨some 93, .mv (.tmp 8), none⟩, ⟨some 94, .mv (.tmp 11), none⟩, ⟨some 95, .build [.nil, .nil] [(0, (1, .tmp 93)), (1, (1, .tmp 94))], none⟩, ⟨none, .store 2 (.tmp 6) (.tmp 92), none⟩, ⟨none, .store 2 (.tmp 7) (.tmp 95), none⟩]) .ret))))))⟩
theorem k_quot10 : cFn Tryz.prog Tryz.f132 = some c_quot10 := by kernel_rfl
set_option maxHeartbeats 4000000 in
theorem quot10_ok (u : Gr) (p q : List Int) (gu : GrOk u) (fp : Flat p) (fq : Flat q) (lp : p.length = u.nodes.length) (lq : q.length = u.edges.length)
    (hn : ∀ i, i < u.nodes.length → nth u.nodes (nth p i).toNat = nth u.nodes i) (he : ∀ i, i < u.edges.length → qE u p (nth q i).toNat = qE u p i) :
    CallOK Tryz.prog 132 [u.v, (false, [ints p]), (false, [ints q])] (.tup [(quoG u p q).v, (quoM p q).v]) := by
  refine callOK_W (callS_W (by kernel_rfl) Tryz.func132 k_quot10 (callable_of Tryz.func132 (by kernel_rfl)) (by simp [c_quot10]) ?_)
  have b1 := gu.n
  have b2 := gu.e
  have cp := clsN_le (p := p) p.length
  have cq := clsN_le (p := q) q.length
  simp [c_quot10]
  refine callS_tree (quot02_ok p fp (by omega)) ?_ ?_ ?_
  · rfl
  · rfl
  simp
  refine callS_tree (quot02_ok q fq (by omega)) ?_ ?_ ?_
  · rfl
  · rfl
  rw [lp] at cp ⊢
  rw [lq] at cq ⊢
  have n1 : clsN p u.nodes.length * 8 ≤ 140737488355328 := by omega
  have n2 : (clsN p u.nodes.length : Int) ≤ 9223372036854775807 := by omega
  have n3 : clsN q u.edges.length * 24 ≤ 140737488355328 := by omega
  have n4 : (clsN q u.edges.length : Int) ≤ 9223372036854775807 := by omega
  simp [dw0, dw1, dw2, dw3, n1, n2, n3, n4]
  refine ⟨rfl, ?_⟩
  have QN := quotL_len (p := p)
  have QE := quotL_len (p := q)
  refine loopW_count 15 u.nodes.length (fun k S => S.fr 3 = .one (.ptr (0, 0) 0) ∧ S.fr 6 = .one (.ptr (1, 0) 0) ∧ S.fr 7 = .one (.ptr (2, 0) 0) ∧ S.fr 8 = .one (.t (ints (quotL p))) ∧ S.fr 11 = .one (.t (ints (quotL q))) ∧ S.fr 14 = .one (.ptr (197, 0) 0) ∧
    S.ob (0, 0) = some (bx 25 (u.v.2.map .t)) ∧ S.ob (1, 0) = some (bx 25 [.nil, .nil]) ∧ S.ob (2, 0) = some (bx 27 [.nil, .nil]) ∧ S.ob (197, 0) = some (bx 25 [.row (193, 0), .row (195, 0)]) ∧
    S.ob (193, 0) = some (rowO (clsL p (nth u.nodes) 0 u.nodes.length k)) ∧ S.ob (195, 0) = some (rowE (List.replicate (clsN q u.edges.length) ⟨0, 0, 0⟩))) (by omega) ?_ ?_ ?_
  · simp [rowO, rowE, clsL_zero, repl_edL]
  · rintro k S hlt hw hc ⟨f3, f6, f7, f8, f11, f14, o0, o1, o2, o197, o193, o195⟩
    have hltq : k < (quotL p).length := by omega
    have hltp : k < p.length := by omega
    have e1 := quotL_nth hltp
    have hx := fp.fo.at hltp
    obtain ⟨j, hj, hle⟩ := hx
    have hfx := fp.fx k hltp
    rw [hj, Int.toNat_natCast] at hfx
    rw [hj, Int.toNat_natCast] at e1
    have l1 := clsL_len (p := p) (f := nth u.nodes) (z := 0) (m := u.nodes.length) (k := k) (by omega)
    have l2 := clsL_len (p := p) (f := nth u.nodes) (z := 0) (m := u.nodes.length) (k := k + 1) (by omega)
    have hl : clsN p j < clsN p u.nodes.length := clsN_lt hfx (by omega)
    have hl1 : clsN p j + 1 ≤ clsN p u.nodes.length := hl
    have hl2 : clsN p j < (clsL p (nth u.nodes) 0 u.nodes.length k).length := by omega
    have e2 := row_set (v := nth u.nodes k) hl2
    have e3 := clsL_set (f := nth u.nodes) (z := 0) fp lp hlt (hn k hlt)
    rw [hj, Int.toNat_natCast] at e3
    simp [dw0, dw1, dw2, dw3, f3, f6, f7, f8, f11, f14, o0, o1, o2, o197, o193, o195, hc, hlt, hltq, drop_nth hltq, drop_nth hlt, e1, rowO, rowE, l1, hl, hl1, e2, e3, hw, l2]
    rfl
  · rintro S hc ⟨f3, f6, f7, f8, f11, f14, o0, o1, o2, o197, o193, o195⟩
    rw [clsL_all] at o193
    have eN : collect (clsF p (nth u.nodes)) u.nodes.length = (quoG u p q).nodes := rfl
    rw [eN] at o193
    simp [f3, f6, f7, f8, f11, f14, o0, o1, o2, o197, o193, o195, hc]
    refine loopW_count 16 u.edges.length (fun k S => S.fr 3 = .one (.ptr (0, 0) 0) ∧ S.fr 6 = .one (.ptr (1, 0) 0) ∧ S.fr 7 = .one (.ptr (2, 0) 0) ∧ S.fr 8 = .one (.t (ints (quotL p))) ∧ S.fr 11 = .one (.t (ints (quotL q))) ∧ S.fr 14 = .one (.ptr (197, 0) 0) ∧
      S.ob (0, 0) = some (bx 25 (u.v.2.map .t)) ∧ S.ob (1, 0) = some (bx 25 [.nil, .nil]) ∧ S.ob (2, 0) = some (bx 27 [.nil, .nil]) ∧ S.ob (197, 0) = some (bx 25 [.row (193, 0), .row (195, 0)]) ∧
      S.ob (193, 0) = some (rowO (quoG u p q).nodes) ∧ S.ob (195, 0) = some (rowE (clsL q (qE u p) ⟨0, 0, 0⟩ u.edges.length k))) (by omega) ?_ ?_ ?_
    · simp [f3, f6, f7, f8, f11, f14, o0, o1, o2, o197, o193, o195, clsL_zero]
    · rintro k S hlt hw hc ⟨f3, f6, f7, f8, f11, f14, o0, o1, o2, o197, o193, o195⟩
      have hltq : k < (quotL q).length := by omega
      have hltp : k < q.length := by omega
      have hlt3 : k * 3 < u.edges.length * 3 := by omega
      have e1 := quotL_nth hltp
      have hx := fq.fo.at hltp
      obtain ⟨j, hj, hle⟩ := hx
      have hfx := fq.fx k hltp
      rw [hj, Int.toNat_natCast] at hfx
      rw [hj, Int.toNat_natCast] at e1
      obtain ⟨_, _, g1, g2, g3, g4⟩ := gu.edges _ (eth_mem hlt)
      obtain ⟨x, hx⟩ := Int.eq_ofNat_of_zero_le g1
      obtain ⟨y, hy⟩ := Int.eq_ofNat_of_zero_le g3
      have hx2 : x < (quotL p).length := by omega
      have hy2 : y < (quotL p).length := by omega
      have eq : qE u p k = ⟨(eth u.edges k).t, nth (quotL p) x, nth (quotL p) y⟩ := by simp [qE, hx, hy]
      have l1 := clsL_len (p := q) (f := qE u p) (z := ⟨0, 0, 0⟩) (m := u.edges.length) (k := k) (by omega)
      have l2 := clsL_len (p := q) (f := qE u p) (z := ⟨0, 0, 0⟩) (m := u.edges.length) (k := k + 1) (by omega)
      have hl : clsN q j < clsN q u.edges.length := clsN_lt hfx (by omega)
      have hl1 : clsN q j + 1 ≤ clsN q u.edges.length := hl
      have hl3 : clsN q j * 3 + 3 ≤ clsN q u.edges.length * 3 := by omega
      have hl2 : clsN q j < (clsL q (qE u p) ⟨0, 0, 0⟩ u.edges.length k).length := by omega
      have e2 := rowE_set (e := qE u p k) hl2
      have e3 := clsL_set (f := qE u p) (z := ⟨0, 0, 0⟩) fq lq hlt (he k hlt)
      rw [hj, Int.toNat_natCast] at e3
      rw [e3, eq] at e2
      simp only at e2
      have e4 := len_edL (clsL q (qE u p) ⟨0, 0, 0⟩ u.edges.length k)
      simp [dw0, dw1, dw2, dw3, f3, f6, f7, f8, f11, f14, o0, o1, o2, o197, o193, o195, hc, hlt, hlt3, hltq, drop_nth hltq, drop_edL hlt, hx, hy, hx2, hy2, drop_nth hx2, drop_nth hy2, e1, rowO, rowE, l1, hl, hl1, hl3, e2, e4, hw, l2]
      rfl
    · rintro S hc ⟨f3, f6, f7, f8, f11, f14, o0, o1, o2, o197, o193, o195⟩
      rw [clsL_all] at o195
      have eE : collect (clsF q (qE u p)) u.edges.length = (quoG u p q).edges := rfl
      rw [eE] at o195
      simp [f3, f6, f7, f8, f11, f14, o0, o1, o2, o197, o193, o195, hc, rowO, rowE, untreeT, untreeI, quoM]
end Go.Proofs.YthcnpnogfblkcaaGreat

/- Contract: the image of a graph that numbers describe. -/
namespace Go.Proofs.YthcnpnogfblkcaaGreat
open Abs
set_option linter.unusedSimpArgs false
set_option linter.unusedVariables false
attribute [local simp] rn0 rn1 rn2 rn3 rn4 rn5 rn6 rn7 evOp nests Arg.ev St.val St.set St.new sliceOf binInt2 binInt AV.cells rdAt St.live retOf resOf resAll treeOf treeCell treeCells treeTups untree frameOf TV.av TR.av ints edgs prs fillV splice intsOf trees V1.tree bx Gr.v Pa.v opRd opWr opNew opNewR opArgs argsRd argRd Arg.rd AV.refs V1.refs refsL dstL

/-- A number out of a list that is read round and round. -/
def rnd (c : List Int) (j : Nat) : Nat := (nth c (j % c.length)).toNat
def Nums (c : List Int) : Prop := c.length ≠ 0 ∧ ∀ x ∈ c, 0 ≤ x ∧ x < 256
theorem rnd_at {c : List Int} (h : Nums c) (j : Nat) : j % c.length < c.length ∧ nth c (j % c.length) = (rnd c j : Nat) ∧ rnd c j < 256 := by
  have h1 := Nat.mod_lt j (Nat.pos_of_ne_zero h.1)
  have := h.2 _ (nth_mem h1)
  exact ⟨h1, by simp only [rnd]; omega, by simp only [rnd]; omega⟩
theorem numsL_ok {l : List Nat} (hs : ∀ x ∈ l, x < 256) : Nums (numsL l) := by
  refine ⟨numsL_nat, fun x hx => ?_⟩
  unfold numsL at hx
  split at hx
  · simp at hx; omega
  · obtain ⟨y, hy, rfl⟩ := List.mem_map.1 hx
    have := hs y hy
    omega

/-- The pairs of nodes that are put together. -/
def imF (g : Gr) (c : List Int) (j : Nat) : Option (Int × Int) :=
  if rnd c (j + 1) % (j + 2) < j + 1 ∧ nth g.nodes (rnd c (j + 1) % (j + 2)) = nth g.nodes (j + 1) then some (((rnd c (j + 1) % (j + 2) : Nat) : Int), ((j + 1 : Nat) : Int)) else none
def imL (g : Gr) (c : List Int) (k : Nat) : List (Int × Int) := collect (imF g c) k
def imP (g : Gr) (c : List Int) (k : Nat) : List Int := genL g.nodes.length (imL g c k)
theorem imL_in {g : Gr} {c : List Int} {k : Nat} (h : k + 1 ≤ g.nodes.length ∨ k = 0) : pairsIn (imL g c k) g.nodes.length := fun q hq => by
  obtain ⟨j, hj, e⟩ := mem_collect.1 hq
  unfold imF at e
  split at e
  · rename_i h1
    injection e with e
    subst e
    have := h1.1
    simp only
    omega
  · cases e
theorem imL_same {g : Gr} {c : List Int} {k : Nat} : ∀ q ∈ imL g c k, nth g.nodes q.1.toNat = nth g.nodes q.2.toNat := fun q hq => by
  obtain ⟨j, hj, e⟩ := mem_collect.1 hq
  unfold imF at e
  split at e
  · rename_i h1
    injection e with e
    subst e
    exact h1.2
  · cases e
theorem imP_len {g : Gr} {c : List Int} {k : Nat} : (imP g c k).length = g.nodes.length := genL_len
theorem imP_flat {g : Gr} {c : List Int} {k : Nat} (h : k + 1 ≤ g.nodes.length ∨ k = 0) : Flat (imP g c k) := genL_flat (imL_in h)
theorem imP_zero {g : Gr} {c : List Int} : imP g c 0 = idL g.nodes.length := rfl
theorem imP_some {g : Gr} {c : List Int} {k a b : Nat} (h : imF g c k = some ((a : Int), (b : Int))) : imP g c (k + 1) = mergeL (imP g c k) a b := by
  rw [imP, imL, collect_some h, genL, List.foldl_append]
  rfl
theorem imP_none {g : Gr} {c : List Int} {k : Nat} (h : imF g c k = none) : imP g c (k + 1) = imP g c k := by
  rw [imP, imL, collect_none h]
  rfl

/-- The edges. -/
def imX (g : Gr) (q : List Int) (i : Nat) : Ed := ⟨(eth g.edges i).t, nth q (eth g.edges i).f.toNat, nth q (eth g.edges i).g.toNat⟩
def okC (c : List Int) (i k : Nat) : Prop := rnd c (i + k) % 2 = 0
instance (c : List Int) (i k : Nat) : Decidable (okC c i k) := inferInstanceAs (Decidable (_ = _))
def imAt (E : List Ed) (x : Ed) (c : List Int) (i : Nat) : Nat → Int
  | 0 => -1
  | k + 1 => if eth E k = x ∧ okC c i k then (k : Int) else imAt E x c i k
def imS (g : Gr) (c q : List Int) : Nat → List Ed × List Int
  | 0 => ([], [])
  | i + 1 => if imAt (imS g c q i).1 (imX g q i) c i (imS g c q i).1.length < 0 then ((imS g c q i).1 ++ [imX g q i], (imS g c q i).2 ++ [((imS g c q i).1.length : Int)])
    else ((imS g c q i).1, (imS g c q i).2 ++ [imAt (imS g c q i).1 (imX g q i) c i (imS g c q i).1.length])
theorem imS_len {g : Gr} {c q : List Int} : ∀ i, (imS g c q i).1.length ≤ i ∧ (imS g c q i).2.length = i
  | 0 => ⟨Nat.le_refl _, rfl⟩
  | i + 1 => by
    obtain ⟨h1, h2⟩ := imS_len (g := g) (c := c) (q := q) i
    unfold imS
    split <;> simp <;> omega
theorem imAt_lt {E : List Ed} {x : Ed} {c : List Int} {i : Nat} : ∀ k, -1 ≤ imAt E x c i k ∧ imAt E x c i k < k
  | 0 => ⟨by simp [imAt], by simp [imAt]⟩
  | k + 1 => by
    have := imAt_lt (E := E) (x := x) (c := c) (i := i) k
    unfold imAt
    split <;> omega
def imT (g : Gr) (c : List Int) : List Int := imP g c (g.nodes.length - 1)
def imQ (g : Gr) (c : List Int) : List Int := quotL (imT g c)
def imG (g : Gr) (c : List Int) : Gr := ⟨collect (clsF (imT g c) (nth g.nodes)) g.nodes.length, (imS g c (imQ g c) g.edges.length).1⟩
def imM (g : Gr) (c : List Int) : Pa := ⟨imQ g c, (imS g c (imQ g c) g.edges.length).2⟩

theorem drop_edLR {l : List Ed} {k : Nat} (h : k < l.length) : ((edL l).map V1.t).drop (k * 3) = .t (.int .i64 (eth l k).t) :: .t (.int .i64 (eth l k).f) :: .t (.int .i64 (eth l k).g) :: (edL (l.drop (k + 1))).map V1.t := by
  rw [← List.map_drop, drop_edL h]
  rfl

def c_image06 : MFunc := ⟨172, [.cell 4 true 2, .cell 5 true 2], .seq (.region [⟨some 2, .box 0 25 (.tmp 0), none⟩, ⟨some 4, .alloc 1 25 [.nil, .nil], none⟩, ⟨some 5, .alloc 2 27 [.nil, .nil], none⟩]) (.seq (.region [⟨some 20, .mv (.tmp 1), none⟩, ⟨some 21, .call (.c (.one (.fn 109 []))) 65 [.tmp 20], none⟩, ⟨some 6, .mv (.tmp 21), none⟩]) (.seq (.region [⟨some 22, .fieldA 0 (.tmp 2), none⟩, ⟨some 23, .load false 1 (.tmp 22), none⟩, ⟨some 24, .len (.tmp 23), none⟩, ⟨some 25, .call (.c (.one (.fn 105 []))) 131 [.tmp 24], none⟩, ⟨some 7, .mv (.tmp 25), none⟩]) (.seq (.seq (.region [⟨some 8, .mv (.c (.one (.t (.int .i64 1)))), none⟩]) (.block 0 (.loop (.seq (.seq (.region [⟨some 26, .mv (.tmp 8), none⟩, ⟨some 27, .fieldA 0 (.tmp 2), none⟩, ⟨some 28, .load false 1 (.tmp 27), none⟩, ⟨some 29, .len (.tmp 28), none⟩, ⟨some 30, .bin .lss (.tmp 26) (.tmp 29), none⟩]) (.cond (.tmp 30) .skip (.exit 0))) (.seq (.block 1 (.seq (.region [⟨some 33, .mv (.tmp 6), none⟩, ⟨some 34, .mv (.tmp 8), none⟩, ⟨some 35, .mv (.tmp 6), none⟩, ⟨some 36, .len (.tmp 35), none⟩, ⟨some 37, .bin .rem (.tmp 34) (.tmp 36), none⟩, ⟨some 38, .idxA 1 (.tmp 33) (.tmp 37), none⟩, ⟨some 39, .load false 1 (.tmp 38), none⟩, ⟨some 40, .mv (.tmp 8), none⟩, ⟨some 41, .bin .add (.tmp 40) (.c (.one (.t (.int .i64 1)))), none⟩, ⟨some 42, .bin .rem (.tmp 39) (.tmp 41), none⟩, ⟨some 9, .mv (.tmp 42), none⟩]) (.seq (.draw [[], [], [0, 1], [2], [3], [4, 3], [3], [5, 6, 3], [7, 3], [3], [9, 3], [3], [10, 11, 3], [12, 3], [8, 13, 3], [3, 14]] [⟨some 43, .mv (.tmp 9), none⟩, ⟨some 44, .mv (.tmp 8), none⟩, ⟨some 45, .bin .lss (.tmp 43) (.tmp 44), none⟩, ⟨some 46, .mv (.tmp 45), none⟩, ⟨some 47, .fieldA 0 (.tmp 2), some (46, true)⟩, ⟨some 48, .load false 1 (.tmp 47), some (46, true)⟩, ⟨some 49, .mv (.tmp 9), some (46, true)⟩, ⟨some 50, .idxA 1 (.tmp 48) (.tmp 49), some (46, true)⟩, ⟨some 51, .load false 1 (.tmp 50), some (46, true)⟩, ⟨some 52, .fieldA 0 (.tmp 2), some (46, true)⟩, ⟨some 53, .load false 1 (.tmp 52), some (46, true)⟩, ⟨some 54, .mv (.tmp 8), some (46, true)⟩, ⟨some 55, .idxA 1 (.tmp 53) (.tmp 54), some (46, true)⟩, ⟨some 56, .load false 1 (.tmp 55), some (46, true)⟩, ⟨some 57, .bin .eql (.tmp 51) (.tmp 56), some (46, true)⟩, ⟨some 58, .pick (.tmp 46) (.tmp 57) (.c (.one (.t (.bool false)))), none⟩]) (.cond (.tmp 58) (.region [⟨some 59, .mv (.tmp 7), none⟩, ⟨some 60, .mv (.tmp 9), none⟩, ⟨some 61, .mv (.tmp 8), none⟩, ⟨some 62, .call (.c (.one (.fn 110 []))) 515 [.tmp 59, .tmp 60, .tmp 61], none⟩, ⟨some 7, .mv (.tmp 62), none⟩]) .skip)))) (.region [⟨some 31, .mv (.tmp 8), none⟩, ⟨some 32, .bin .add (.tmp 31) (.c (.one (.t (.int .i64 1)))), none⟩, ⟨some 8, .mv (.tmp 32), none⟩])))))) (.seq (.region [⟨some 64, .mv (.tmp 7), none⟩, ⟨some 65, .call (.c (.one (.fn 111 []))) 577 [.tmp 64], none⟩, ⟨some 63, .mv (.tmp 65), none⟩, ⟨some 66, .extract (.tmp 63) 0, none⟩, ⟨some 67, .extract (.tmp 63) 1, none⟩, ⟨some 68, .extract (.tmp 63) 2, none⟩, ⟨some 10, .mv (.tmp 66), none⟩, ⟨some 11, .mv (.tmp 67), none⟩, ⟨some 12, .mv (.tmp 68), none⟩]) (.seq (.region [⟨some 69, .mv (.tmp 11), none⟩, ⟨some 70, .make 641 3 1 8 [.t (.int .i64 0)] (.tmp 69) (.tmp 69), none⟩, ⟨some 71, .build [.nil, .nil] [(0, (1, .tmp 70))], none⟩, ⟨some 13, .alloc 643 25 [.nil, .nil], none⟩, ⟨none, .store 2 (.tmp 13) (.tmp 71), none⟩]) (.seq (.region [⟨some 72, .mv (.tmp 10), none⟩, ⟨some 73, .build [.nil, .nil] [(0, (1, .tmp 72))], none⟩, ⟨some 14, .alloc 706 27 [.nil, .nil], none⟩, ⟨none, .store 2 (.tmp 14) (.tmp 73), none⟩]) (.seq (.seq (.region [⟨some 15, .mv (.c (.one (.t (.int .i64 0)))), none⟩]) (.block 2 (.loop (.seq (.seq (.region [⟨some 74, .mv (.tmp 15), none⟩, ⟨some 75, .fieldA 0 (.tmp 2), none⟩, ⟨some 76, .load false 1 (.tmp 75), none⟩, ⟨some 77, .len (.tmp 76), none⟩, ⟨some 78, .bin .lss (.tmp 74) (.tmp 77), none⟩]) (.cond (.tmp 78) .skip (.exit 2))) (.seq (.block 3 (.draw [[], [0], [], [], [2, 3], [4], [], [6], [], [7, 8], [9], [1, 5, 0, 1, 2, 3, 4, 5, 6, 7, 8, 9, 10], [11, 10, 0, 1, 2, 3, 4, 5, 6, 7, 8, 9, 10]] [⟨some 81, .fieldA 0 (.tmp 13), none⟩, ⟨some 82, .load false 1 (.tmp 81), none⟩, ⟨some 83, .mv (.tmp 10), none⟩, ⟨some 84, .mv (.tmp 15), none⟩, ⟨some 85, .idxA 1 (.tmp 83) (.tmp 84), none⟩, ⟨some 86, .load false 1 (.tmp 85), none⟩, ⟨some 87, .fieldA 0 (.tmp 2), none⟩, ⟨some 88, .load false 1 (.tmp 87), none⟩, ⟨some 89, .mv (.tmp 15), none⟩, ⟨some 90, .idxA 1 (.tmp 88) (.tmp 89), none⟩, ⟨some 91, .load false 1 (.tmp 90), none⟩, ⟨some 92, .idxA 1 (.tmp 82) (.tmp 86), none⟩, ⟨none, .store 1 (.tmp 92) (.tmp 91), none⟩])) (.region [⟨some 79, .mv (.tmp 15), none⟩, ⟨some 80, .bin .add (.tmp 79) (.c (.one (.t (.int .i64 1)))), none⟩, ⟨some 15, .mv (.tmp 80), none⟩])))))) (.seq (.seq (.region [⟨some 16, .mv (.c (.one (.t (.int .i64 0)))), none⟩]) (.block 4 (.loop (.seq (.seq (.region [⟨some 93, .mv (.tmp 16), none⟩, ⟨some 94, .fieldA 1 (.tmp 2), none⟩, ⟨some 95, .load false 1 (.tmp 94), none⟩, ⟨some 96, .len (.tmp 95), none⟩, ⟨some 97, .bin .lss (.tmp 93) (.tmp 96), none⟩]) (.cond (.tmp 97) .skip (.exit 4))) (.seq (.block 5 (.seq (.draw [[], [0], [], [1, 2], [3], [4], [], [], [7], [], [8, 9], [10], [11], [6, 12], [13], [], [], [16], [], [17, 18], [19], [20], [15, 21], [22], [5, 14, 23], [], [25, 24, 0, 1, 2, 3, 4, 5, 6, 7, 8, 9, 10, 11, 12, 13, 14, 15, 16, 17, 18, 19, 20, 21, 22, 23, 24, 25]] [⟨some 100, .fieldA 1 (.tmp 2), none⟩, ⟨some 101, .load false 1 (.tmp 100), none⟩, ⟨some 102, .mv (.tmp 16), none⟩, ⟨some 103, .idxA 3 (.tmp 101) (.tmp 102), none⟩, ⟨some 104, .fieldA 0 (.tmp 103), none⟩, ⟨some 105, .load false 1 (.tmp 104), none⟩, ⟨some 106, .mv (.tmp 10), none⟩, ⟨some 107, .fieldA 1 (.tmp 2), none⟩, ⟨some 108, .load false 1 (.tmp 107), none⟩, ⟨some 109, .mv (.tmp 16), none⟩, ⟨some 110, .idxA 3 (.tmp 108) (.tmp 109), none⟩, ⟨some 111, .fieldA 1 (.tmp 110), none⟩, ⟨some 112, .load false 1 (.tmp 111), none⟩, ⟨some 113, .idxA 1 (.tmp 106) (.tmp 112), none⟩, ⟨some 114, .load false 1 (.tmp 113), none⟩, ⟨some 115, .mv (.tmp 10), none⟩, ⟨some 116, .fieldA 1 (.tmp 2), none⟩, ⟨some 117, .load false 1 (.tmp 116), none⟩, ⟨some 118, .mv (.tmp 16), none⟩, ⟨some 119, .idxA 3 (.tmp 117) (.tmp 118), none⟩, ⟨some 120, .fieldA 2 (.tmp 119), none⟩, ⟨some 121, .load false 1 (.tmp 120), none⟩, ⟨some 122, .idxA 1 (.tmp 115) (.tmp 121), none⟩, ⟨some 123, .load false 1 (.tmp 122), none⟩, ⟨some 124, .build [.t (.int .i64 0), .t (.int .i64 0), .t (.int .i64 0)] [(0, (1, .tmp 105)), (1, (1, .tmp 114)), (2, (1, .tmp 123))], none⟩, ⟨some 17, .alloc 1241 76 [.t (.int .i64 0), .t (.int .i64 0), .t (.int .i64 0)], none⟩, ⟨none, .store 3 (.tmp 17) (.tmp 124), none⟩]) (.seq (.region [⟨some 18, .mv (.c (.one (.t (.int .i64 (-1))))), none⟩]) (.seq (.seq (.region [⟨some 19, .mv (.c (.one (.t (.int .i64 0)))), none⟩]) (.block 6 (.loop (.seq (.seq (.region [⟨some 125, .mv (.tmp 19), none⟩, ⟨some 126, .fieldA 1 (.tmp 13), none⟩, ⟨some 127, .load false 1 (.tmp 126), none⟩, ⟨some 128, .len (.tmp 127), none⟩, ⟨some 129, .bin .lss (.tmp 125) (.tmp 128), none⟩]) (.cond (.tmp 129) .skip (.exit 6))) (.seq (.block 7 (.seq (.draw [[], [0], [], [1, 2], [3], [], [4, 5], [6], [7], [7], [7], [9, 10, 7], [7], [12, 7], [11, 13, 7], [8, 14, 7], [15, 7], [16, 7], [17, 7], [7, 18]] [⟨some 132, .fieldA 1 (.tmp 13), none⟩, ⟨some 133, .load false 1 (.tmp 132), none⟩, ⟨some 134, .mv (.tmp 19), none⟩, ⟨some 135, .idxA 3 (.tmp 133) (.tmp 134), none⟩, ⟨some 136, .load true 3 (.tmp 135), none⟩, ⟨some 137, .load true 3 (.tmp 17), none⟩, ⟨some 138, .eqS false 3 (.tmp 136) (.tmp 137), none⟩, ⟨some 139, .mv (.tmp 138), none⟩, ⟨some 140, .mv (.tmp 6), some (139, true)⟩, ⟨some 141, .mv (.tmp 16), some (139, true)⟩, ⟨some 142, .mv (.tmp 19), some (139, true)⟩, ⟨some 143, .bin .add (.tmp 141) (.tmp 142), some (139, true)⟩, ⟨some 144, .mv (.tmp 6), some (139, true)⟩, ⟨some 145, .len (.tmp 144), some (139, true)⟩, ⟨some 146, .bin .rem (.tmp 143) (.tmp 145), some (139, true)⟩, ⟨some 147, .idxA 1 (.tmp 140) (.tmp 146), some (139, true)⟩, ⟨some 148, .load false 1 (.tmp 147), some (139, true)⟩, ⟨some 149, .bin .rem (.tmp 148) (.c (.one (.t (.int .i64 2)))), some (139, true)⟩, ⟨some 150, .bin .eql (.tmp 149) (.c (.one (.t (.int .i64 0)))), some (139, true)⟩, ⟨some 151, .pick (.tmp 139) (.tmp 150) (.c (.one (.t (.bool false)))), none⟩]) (.cond (.tmp 151) (.region [⟨some 152, .mv (.tmp 19), none⟩, ⟨some 18, .mv (.tmp 152), none⟩]) .skip))) (.region [⟨some 130, .mv (.tmp 19), none⟩, ⟨some 131, .bin .add (.tmp 130) (.c (.one (.t (.int .i64 1)))), none⟩, ⟨some 19, .mv (.tmp 131), none⟩])))))) (.seq (.seq (.region [⟨some 153, .mv (.tmp 18), none⟩, ⟨some 154, .bin .lss (.tmp 153) (.c (.one (.t (.int .i64 0)))), none⟩]) (.cond (.tmp 154) (.seq (.region [⟨some 155, .fieldA 1 (.tmp 13), none⟩, ⟨some 156, .load false 1 (.tmp 155), none⟩, ⟨some 157, .len (.tmp 156), none⟩, ⟨some 18, .mv (.tmp 157), none⟩]) (.region [⟨some 158, .fieldA 1 (.tmp 13), none⟩, ⟨some 159, .load false 1 (.tmp 158), none⟩, ⟨some 160, .load true 3 (.tmp 17), none⟩, ⟨some 161, .mkrow 1795 76 3 1 [.t (.int .i64 0), .t (.int .i64 0), .t (.int .i64 0)] [(0, (3, .tmp 160))], none⟩, ⟨some 162, .append 1796 76 3 24 (.tmp 159) (.tmp 161), none⟩, ⟨some 163, .fieldA 1 (.tmp 13), none⟩, ⟨none, .store 1 (.tmp 163) (.tmp 162), none⟩])) .skip)) (.region [⟨some 164, .fieldA 1 (.tmp 14), none⟩, ⟨some 165, .load false 1 (.tmp 164), none⟩, ⟨some 166, .mv (.tmp 18), none⟩, ⟨some 167, .mkrow 1859 3 1 1 [.t (.int .i64 0)] [(0, (1, .tmp 166))], none⟩, ⟨some 168, .append 1860 3 1 8 (.tmp 165) (.tmp 167), none⟩, ⟨some 169, .fieldA 1 (.tmp 14), none⟩, ⟨none, .store 1 (.tmp 169) (.tmp 168), none⟩])))))) (.region [⟨some 98, .mv (.tmp 16), none⟩, ⟨some 99, .bin .add (.tmp 98) (.c (.one (.t (.int .i64 1)))), none⟩, ⟨some 16, .mv (.tmp 99), none⟩])))))) (.seq (.draw [[], [], [0, 0], [1, 2, 0, 1, 2]] [⟨some 170, .load true 2 (.tmp 13), none⟩, ⟨some 171, .load true 2 (.tmp 14), none⟩, ⟨none, .store 2 (.tmp 4) (.tmp 170), none⟩, ⟨none, .store 2 (.tmp 5) (.tmp 171), none⟩]) .ret)))))))))⟩
theorem k_image06 : cFn Tryz.prog Tryz.f70 = some c_image06 := by kernel_rfl
set_option maxHeartbeats 8000000 in
set_option maxRecDepth 20000 in
theorem image06_ok (g : Gr) (l : List Nat) (gg : GrOk g) (hl : l.length ≤ 1048576) (hs : ∀ x ∈ l, x < 256) : CallOK Tryz.prog 70 [g.v, byV l] (.tup [(imG g (numsL l)).v, (imM g (numsL l)).v]) := by
  refine callOK_W (callS_W (by kernel_rfl) Tryz.func70 k_image06 (callable_of Tryz.func70 (by kernel_rfl)) (by simp [c_image06]) ?_)
  have b1 := gg.n
  have b2 := gg.e
  simp [c_image06, byV, bys]
  refine callS_tree (numbers06_ok l hl hs) ?_ ?_ ?_
  · rfl
  · rfl
  have nc := numsL_ok hs
  have cl : (numsL l).length ≤ 1048576 := by
    unfold numsL
    split
    · simp
    · simpa using hl
  generalize numsL l = c at nc cl ⊢
  have c0 := nc.1
  have c1 : ¬ c = [] := fun h => c0 (by rw [h]; rfl)
  simp
  refine callS_tree (finest02_row g.nodes.length (by show _ ≤ _; omega)).ok ?_ ?_ ?_
  · rfl
  · rfl
  simp
  have im1 : 1 ≤ max 1 g.nodes.length := by omega
  refine loopW_from 8 1 (max 1 g.nodes.length) (fun k S => S.fr 2 = .one (.ptr (0, 0) 0) ∧ S.fr 4 = .one (.ptr (1, 0) 0) ∧ S.fr 5 = .one (.ptr (2, 0) 0) ∧ S.fr 6 = .one (.t (ints c)) ∧ S.fr 7 = .one (.t (ints (imP g c (k - 1)))) ∧
    S.ob (0, 0) = some (bx 25 (g.v.2.map .t)) ∧ S.ob (1, 0) = some (bx 25 [.nil, .nil]) ∧ S.ob (2, 0) = some (bx 27 [.nil, .nil]) ∧ S.cnt 641 = 0 ∧ S.cnt 643 = 0 ∧ S.cnt 706 = 0) im1 (by omega) ?_ ?_ ?_
  · simp [imP_zero, idL_len]
  · rintro i S h1 hlt hw hc ⟨f2, f4, f5, f6, f7, o0, o1, o2, n1, n2, n3⟩
    have k1 : i < g.nodes.length := by omega
    obtain ⟨j, hj⟩ : ∃ j, i = j + 1 := ⟨i - 1, by omega⟩
    have hj1 : i - 1 = j := by omega
    rw [hj1] at f7
    have pl := imP_len (g := g) (c := c) (k := j)
    obtain ⟨r1, r2, r3⟩ := rnd_at nc i
    obtain ⟨m, hm⟩ : ∃ m, m = i % c.length := ⟨_, rfl⟩
    obtain ⟨v, hv⟩ : ∃ v, v = rnd c i := ⟨_, rfl⟩
    obtain ⟨k, hk⟩ : ∃ k, k = v % (i + 1) := ⟨_, rfl⟩
    have r4 : k < i + 1 := by rw [hk]; exact Nat.mod_lt _ (by omega)
    have e1 : (i : Int).tmod (c.length : Int) = (m : Int) := by rw [hm]; exact nat_rem
    have e2 : (v : Int).tmod ((i : Int) + 1) = (k : Int) := by rw [hk]; exact nat_rem (b := i + 1)
    have e3 : ¬ ((i : Int) + 1 = 0) := by omega
    rw [← hm] at r1 r2
    rw [← hv] at r2 r3
    have k2 : k < g.nodes.length := by omega
    have imf : imF g c j = if k < i ∧ nth g.nodes k = nth g.nodes i then some ((k : Int), (i : Int)) else none := by
      simp only [imF, ← hj, ← hv]
      rw [show j + 2 = i + 1 by omega, ← hk]
    have w1 : IntKind.i64.wrap ((i : Int) + 1) = (i : Int) + 1 := by rw [wrap64_id] <;> omega
    simp [dw0, dw1, dw2, dw3, f2, f4, f5, f6, f7, o0, o1, o2, hc, k1, c1, e1, r1, drop_nth r1, r2, w1, e2, e3]
    by_cases h1 : k < i
    · by_cases h2 : nth g.nodes k = nth g.nodes i
      · rw [if_pos ⟨h1, h2⟩] at imf
        have ps : imP g c i = mergeL (imP g c j) k i := by rw [hj] at imf ⊢; exact imP_some imf
        simp [dw0, dw1, dw2, dw3, f2, f4, f5, f6, f7, o0, o1, o2, hc, k1, c1, e1, r1, drop_nth r1, r2, w1, e2, e3, h1, k2, drop_nth k2, drop_nth k1, h2]
        refine ⟨by kernel_rfl, ?_⟩
        refine callS_tree (merge02_row (imP g c j) k i (by omega) (by omega) (by show _ ≤ _; omega)).ok ?_ ?_ ?_
        · rfl
        · rfl
        rw [← ps]
        simp [f2, f4, f5, f6, f7, o0, o1, o2, n1, n2, n3, hc, w1]
      · rw [if_neg fun h => h2 h.2] at imf
        have ps : imP g c i = imP g c j := by rw [hj]; exact imP_none imf
        simp [dw0, dw1, dw2, dw3, f2, f4, f5, f6, f7, o0, o1, o2, n1, n2, n3, hc, k1, c1, e1, r1, drop_nth r1, r2, w1, e2, e3, h1, k2, drop_nth k2, drop_nth k1, h2, ps]
        first | kernel_rfl | rfl | trace_state
    · rw [if_neg fun h => h1 h.1] at imf
      have ps : imP g c i = imP g c j := by rw [hj]; exact imP_none imf
      simp [dw0, dw1, dw2, dw3, f2, f4, f5, f6, f7, o0, o1, o2, n1, n2, n3, hc, k1, c1, e1, r1, drop_nth r1, r2, w1, e2, e3, h1, ps]
      first | kernel_rfl | rfl | trace_state
  · rintro S hc ⟨f2, f4, f5, f6, f7, o0, o1, o2, n1, n2, n3⟩
    have ex : ¬ max 1 g.nodes.length < g.nodes.length := by omega
    have mx : max 1 g.nodes.length - 1 = g.nodes.length - 1 := by omega
    rw [mx] at f7
    have hp : Flat (imT g c) := imP_flat (by omega)
    have lp : (imT g c).length = g.nodes.length := imP_len
    have hcon : ∀ i, i < g.nodes.length → nth g.nodes (nth (imT g c) i).toNat = nth g.nodes i := fun i hi => genL_inv (f := nth g.nodes) (imL_in (by omega)) imL_same hi
    have f7 : S.fr 7 = .one (.t (ints (imT g c))) := f7
    obtain ⟨mm, hmm⟩ : ∃ mm, mm = max 1 g.nodes.length := ⟨_, rfl⟩
    rw [← hmm] at hc ex
    simp [f2, f4, f5, f6, f7, o0, o1, o2, n1, n2, n3, hc, ex]
    refine callS_tree (quot02_ok (imT g c) hp (by omega)) ?_ ?_ ?_
    · rfl
    · rfl
    rw [lp]
    have cp := clsN_le (p := imT g c) g.nodes.length
    have y1 : clsN (imT g c) g.nodes.length * 8 ≤ 140737488355328 := by omega
    have y2 : (clsN (imT g c) g.nodes.length : Int) ≤ 9223372036854775807 := by omega
    have QN := quotL_len (p := imT g c)
    simp [f2, f4, f5, f6, f7, o0, o1, o2, n1, n2, n3, hc, y1, y2]
    refine loopW_count 15 g.nodes.length (fun k S => S.fr 2 = .one (.ptr (0, 0) 0) ∧ S.fr 4 = .one (.ptr (1, 0) 0) ∧ S.fr 5 = .one (.ptr (2, 0) 0) ∧ S.fr 6 = .one (.t (ints c)) ∧ S.fr 10 = .one (.t (ints (imQ g c))) ∧ S.fr 13 = .one (.ptr (643, 0) 0) ∧ S.fr 14 = .one (.ptr (706, 0) 0) ∧
      S.ob (0, 0) = some (bx 25 (g.v.2.map .t)) ∧ S.ob (1, 0) = some (bx 25 [.nil, .nil]) ∧ S.ob (2, 0) = some (bx 27 [.nil, .nil]) ∧ S.ob (643, 0) = some (bx 25 [.row (641, 0), .nil]) ∧ S.ob (706, 0) = some (bx 27 [.t (ints (imQ g c)), .nil]) ∧
      S.ob (641, 0) = some (rowO (clsL (imT g c) (nth g.nodes) 0 g.nodes.length k))) (by omega) ?_ ?_ ?_
    · simp [f2, f4, f5, f6, f7, o0, o1, o2, n1, n2, n3, rowO, clsL_zero, imQ]
    · rintro k S hlt hw hc ⟨f2, f4, f5, f6, f10, f13, f14, o0, o1, o2, o643, o706, o641⟩
      have hltq : k < (quotL (imT g c)).length := by omega
      have hltp : k < (imT g c).length := by omega
      have e1 := quotL_nth hltp
      obtain ⟨j, hj, hle⟩ := hp.fo.at hltp
      have hfx := hp.fx k hltp
      rw [hj, Int.toNat_natCast] at hfx
      rw [hj, Int.toNat_natCast] at e1
      have l1 := clsL_len (p := imT g c) (f := nth g.nodes) (z := 0) (m := g.nodes.length) (k := k) (by omega)
      have l2 := clsL_len (p := imT g c) (f := nth g.nodes) (z := 0) (m := g.nodes.length) (k := k + 1) (by omega)
      have hl : clsN (imT g c) j < clsN (imT g c) g.nodes.length := clsN_lt hfx (by omega)
      have hl1 : clsN (imT g c) j + 1 ≤ clsN (imT g c) g.nodes.length := hl
      have hl2 : clsN (imT g c) j < (clsL (imT g c) (nth g.nodes) 0 g.nodes.length k).length := by omega
      have e2 := row_set (v := nth g.nodes k) hl2
      have e3 := clsL_set (f := nth g.nodes) (z := 0) hp lp hlt (hcon k hlt)
      rw [hj, Int.toNat_natCast] at e3
      simp [dw0, dw1, dw2, dw3, f2, f4, f5, f6, f10, f13, f14, o0, o1, o2, o643, o706, o641, hc, hlt, imQ, hltq, drop_nth hltq, drop_nth hlt, e1, rowO, l1, hl, hl1, e2, e3, hw, l2]
      first | kernel_rfl | rfl | trace_state
    · rintro S hc ⟨f2, f4, f5, f6, f10, f13, f14, o0, o1, o2, o643, o706, o641⟩
      rw [clsL_all] at o641
      have eN : collect (clsF (imT g c) (nth g.nodes)) g.nodes.length = (imG g c).nodes := rfl
      rw [eN] at o641
      simp [f2, f4, f5, f6, f10, f13, f14, o0, o1, o2, o643, o706, o641, hc]
      refine loopW_count 16 g.edges.length (fun k S => S.fr 2 = .one (.ptr (0, 0) 0) ∧ S.fr 4 = .one (.ptr (1, 0) 0) ∧ S.fr 5 = .one (.ptr (2, 0) 0) ∧ S.fr 6 = .one (.t (ints c)) ∧ S.fr 10 = .one (.t (ints (imQ g c))) ∧ S.fr 13 = .one (.ptr (643, 0) 0) ∧ S.fr 14 = .one (.ptr (706, 0) 0) ∧
        S.ob (0, 0) = some (bx 25 (g.v.2.map .t)) ∧ S.ob (1, 0) = some (bx 25 [.nil, .nil]) ∧ S.ob (2, 0) = some (bx 27 [.nil, .nil]) ∧ S.ob (641, 0) = some (rowO (imG g c).nodes) ∧
        ∃ vE vM, S.ob (643, 0) = some (bx 25 [.row (641, 0), vE]) ∧ S.ob (706, 0) = some (bx 27 [.t (ints (imQ g c)), vM]) ∧
          outR 1796 76 3 (imS g c (imQ g c) k).1.length (edL (imS g c (imQ g c) k).1) S.ob (.one vE) ∧ outR 1860 3 1 (imS g c (imQ g c) k).2.length ((imS g c (imQ g c) k).2.map (.int .i64)) S.ob (.one vM)) (by omega) ?_ ?_ ?_
      · simp [f2, f4, f5, f6, f10, f13, f14, o0, o1, o2, o643, o706, o641, imS, edL, outR_nil]
      · rintro k S hlt hw hc ⟨f2, f4, f5, f6, f10, f13, f14, o0, o1, o2, o641, vE, vM, o643, o706, hE, hM⟩
        have hlt3 : k * 3 < g.edges.length * 3 := by omega
        obtain ⟨_, _, g1, g2, g3, g4⟩ := gg.edges _ (eth_mem hlt)
        obtain ⟨x, hx⟩ := Int.eq_ofNat_of_zero_le g1
        obtain ⟨y, hy⟩ := Int.eq_ofNat_of_zero_le g3
        have iq : (imQ g c).length = g.nodes.length := by rw [imQ, QN, lp]
        have hx2 : x < (imQ g c).length := by omega
        have hy2 : y < (imQ g c).length := by omega
        have eX : imX g (imQ g c) k = ⟨(eth g.edges k).t, nth (imQ g c) x, nth (imQ g c) y⟩ := by simp [imX, hx, hy]
        simp [dw0, dw1, dw2, dw3, f2, f4, f5, f6, f10, f13, f14, o0, o1, o2, o643, o706, o641, hc, hlt, hlt3, drop_edL hlt, hx, hy, hx2, hy2, drop_nth hx2, drop_nth hy2]
        refine ⟨by kernel_rfl, ?_⟩
        obtain ⟨gX, hgX⟩ : ∃ gX, gX = S.cnt 1241 := ⟨_, rfl⟩
        rw [← hgX]
        obtain ⟨l1, l2⟩ := imS_len (g := g) (c := c) (q := imQ g c) k
        have zs : imS g c (imQ g c) (k + 1) = if imAt (imS g c (imQ g c) k).1 (imX g (imQ g c) k) c k (imS g c (imQ g c) k).1.length < 0 then ((imS g c (imQ g c) k).1 ++ [imX g (imQ g c) k], (imS g c (imQ g c) k).2 ++ [((imS g c (imQ g c) k).1.length : Int)])
          else ((imS g c (imQ g c) k).1, (imS g c (imQ g c) k).2 ++ [imAt (imS g c (imQ g c) k).1 (imX g (imQ g c) k) c k (imS g c (imQ g c) k).1.length]) := rfl
        generalize (imS g c (imQ g c) k).1 = E at hE l1 zs
        generalize (imS g c (imQ g c) k).2 = M at hM l2 zs
        generalize imX g (imQ g c) k = X at eX zs
        have x1 : X.t = (eth g.edges k).t := by rw [eX]
        have x2 : X.f = nth (imQ g c) x := by rw [eX]
        have x3 : X.g = nth (imQ g c) y := by rw [eX]
        rw [← x1, ← x2, ← x3]
        have hE0 := hE
        rcases hE0 with ⟨t1, t2, t3⟩ | ⟨t1, gE, t3, t4⟩
        · cases t3
          refine loopW_count 19 E.length (fun j S => S.fr 2 = .one (.ptr (0, 0) 0) ∧ S.fr 4 = .one (.ptr (1, 0) 0) ∧ S.fr 5 = .one (.ptr (2, 0) 0) ∧ S.fr 6 = .one (.t (ints c)) ∧ S.fr 10 = .one (.t (ints (imQ g c))) ∧ S.fr 13 = .one (.ptr (643, 0) 0) ∧ S.fr 14 = .one (.ptr (706, 0) 0) ∧ S.fr 16 = .one (.t (.int .i64 k)) ∧ S.fr 17 = .one (.ptr (1241, gX) 0) ∧ S.fr 18 = .one (.t (.int .i64 (imAt E X c k j))) ∧
            S.ob (0, 0) = some (bx 25 (g.v.2.map .t)) ∧ S.ob (1, 0) = some (bx 25 [.nil, .nil]) ∧ S.ob (2, 0) = some (bx 27 [.nil, .nil]) ∧ S.ob (641, 0) = some (rowO (imG g c).nodes) ∧ S.ob (643, 0) = some (bx 25 [.row (641, 0), .nil]) ∧ S.ob (706, 0) = some (bx 27 [.t (ints (imQ g c)), vM]) ∧
            S.ob (1241, gX) = some (bx 76 [.t (.int .i64 X.t), .t (.int .i64 X.f), .t (.int .i64 X.g)]) ∧ outR 1796 76 3 E.length (edL E) S.ob (.one .nil) ∧ outR 1860 3 1 M.length (M.map (.int .i64)) S.ob (.one vM)) (by omega) ?_ ?_ ?_
          · simp [f2, f4, f5, f6, f10, f13, f14, o0, o1, o2, o641, o643, o706, hc, imAt]
            exact ⟨hE.keep fun g => by simp, hM.keep fun g => by simp⟩
          · rintro j S hj _ _ _
            omega
          · rintro S hcj ⟨f2, f4, f5, f6, f10, f13, f14, f16, f17, f18, o0, o1, o2, o641, o643, o706, o1241, hE, hM⟩
            have zl : imAt E X c k E.length < 0 := by rw [t1]; simp [imAt]
            rw [if_pos zl] at zs
            rw [t1] at hcj zs f18
            have t1' : E = [] := List.eq_nil_of_length_eq_zero t1
            have zz : (imAt E X c k 0) = -1 := rfl
            rw [zz] at f18
            subst t1'
            simp [f2, f4, f5, f6, f10, f13, f14, f16, f17, f18, o0, o1, o2, o641, o643, o706, o1241, hcj]
            refine kApp_grow (ts := edC X) rfl (hE.keep fun g => by simp) (by omega) rfl (by simp) (by simp) fun E3 hE3 hob3 hcnt3 => ?_
            obtain ⟨u, hu3⟩ := hE3.one
            rw [hu3] at hE3
            have hM3 := hM.keep (ob' := E3.ob) fun g => by rw [hob3 _ _ (by decide)]; simp
            simp [f2, f4, f5, f6, f10, f13, f14, f16, f17, f18, o0, o1, o2, o641, o643, o706, o1241, hcj, hob3, hcnt3, hu3]
            refine kApp_grow (ts := [.int .i64 0]) rfl (hM3.keep fun g => by simp) (by omega) rfl (by omega) (by omega) fun E4 hE4 hob4 hcnt4 => ?_
            obtain ⟨w, hw4⟩ := hE4.one
            rw [hw4] at hE4
            have hE5 := hE3.keep (ob' := E4.ob) fun g => by rw [hob4 _ _ (by decide)]; simp
            simp [f2, f4, f5, f6, f10, f13, f14, f16, f17, f18, o0, o1, o2, o641, o643, o706, o1241, hcj, hw, hob3, hcnt3, hu3, hob4, hcnt4, hw4, zs]
            exact ⟨outR.keep (by simpa [edL] using hE5) fun g => by simp, outR.keep (by simpa using hE4) fun g => by simp⟩
        · cases t3
          refine loopW_count 19 E.length (fun j S => S.fr 2 = .one (.ptr (0, 0) 0) ∧ S.fr 4 = .one (.ptr (1, 0) 0) ∧ S.fr 5 = .one (.ptr (2, 0) 0) ∧ S.fr 6 = .one (.t (ints c)) ∧ S.fr 10 = .one (.t (ints (imQ g c))) ∧ S.fr 13 = .one (.ptr (643, 0) 0) ∧ S.fr 14 = .one (.ptr (706, 0) 0) ∧ S.fr 16 = .one (.t (.int .i64 k)) ∧ S.fr 17 = .one (.ptr (1241, gX) 0) ∧ S.fr 18 = .one (.t (.int .i64 (imAt E X c k j))) ∧
            S.ob (0, 0) = some (bx 25 (g.v.2.map .t)) ∧ S.ob (1, 0) = some (bx 25 [.nil, .nil]) ∧ S.ob (2, 0) = some (bx 27 [.nil, .nil]) ∧ S.ob (641, 0) = some (rowO (imG g c).nodes) ∧ S.ob (643, 0) = some (bx 25 [.row (641, 0), .row (1796, gE)]) ∧ S.ob (706, 0) = some (bx 27 [.t (ints (imQ g c)), vM]) ∧
            S.ob (1241, gX) = some (bx 76 [.t (.int .i64 X.t), .t (.int .i64 X.f), .t (.int .i64 X.g)]) ∧ outR 1796 76 3 E.length (edL E) S.ob (.one (.row (1796, gE))) ∧ outR 1860 3 1 M.length (M.map (.int .i64)) S.ob (.one vM)) (by omega) ?_ ?_ ?_
          · simp [f2, f4, f5, f6, f10, f13, f14, o0, o1, o2, o641, o643, o706, hc, imAt]
            exact ⟨hE.keep fun g => by simp, hM.keep fun g => by simp⟩
          · rintro j S hj hwj hcj ⟨f2, f4, f5, f6, f10, f13, f14, f16, f17, f18, o0, o1, o2, o641, o643, o706, o1241, hE, hM⟩
            have hE1 := hE
            rcases hE1 with ⟨u1, _, _⟩ | ⟨u1, gE', u3, u4⟩
            · omega
            cases u3
            have hj3 : j * 3 < E.length * 3 := by omega
            have hj33 : j * 3 + 3 ≤ E.length * 3 := by omega
            have de := drop_edLR hj
            obtain ⟨r1, r2, r3⟩ := rnd_at nc (k + j)
            obtain ⟨m, hm⟩ : ∃ m, m = (k + j) % c.length := ⟨_, rfl⟩
            obtain ⟨v, hv⟩ : ∃ v, v = rnd c (k + j) := ⟨_, rfl⟩
            have e1 : ((k : Int) + (j : Int)).tmod (c.length : Int) = (m : Int) := by rw [hm, show (k : Int) + (j : Int) = ((k + j : Nat) : Int) by omega]; exact nat_rem
            have w1 : IntKind.i64.wrap ((k : Int) + (j : Int)) = (k : Int) + (j : Int) := by rw [wrap64_id] <;> omega
            rw [← hm] at r1 r2
            rw [← hv] at r2 r3
            have ok : okC c k j ↔ v % 2 = 0 := by rw [okC, ← hv]
            obtain ⟨p, hp2⟩ : ∃ p, p = v % 2 := ⟨_, rfl⟩
            have e2 : (v : Int).tmod 2 = (p : Int) := by rw [hp2]; exact rem2
            rw [← hp2] at ok
            by_cases e : eth E j = X
            · have e' := ed_eq.1 e
              by_cases hq : p = 0
              · have im : imAt E X c k (j + 1) = j := if_pos ⟨e, ok.2 hq⟩
                simp [dw0, dw1, dw2, dw3, f2, f4, f5, f6, f10, f13, f14, f16, f17, f18, o0, o1, o2, o641, o643, o706, o1241, u4, hcj, hj, hj3, hj33, de, e'.1, e'.2.1, e'.2.2, w1, e1, c1, r1, drop_nth r1, r2, e2, hq, hwj, im]
                exact ⟨by first | kernel_rfl | rfl, hE, hM⟩
              · have im : imAt E X c k (j + 1) = imAt E X c k j := if_neg fun h => hq (ok.1 h.2)
                simp [dw0, dw1, dw2, dw3, f2, f4, f5, f6, f10, f13, f14, f16, f17, f18, o0, o1, o2, o641, o643, o706, o1241, u4, hcj, hj, hj3, hj33, de, e'.1, e'.2.1, e'.2.2, w1, e1, c1, r1, drop_nth r1, r2, e2, hq, hwj, im]
                exact ⟨by first | kernel_rfl | rfl, hE, hM⟩
            · have im : imAt E X c k (j + 1) = imAt E X c k j := if_neg fun h => e h.1
              have e' : ¬ (eth E j).t = X.t ∨ ((eth E j).t = X.t ∧ ¬ (eth E j).f = X.f) ∨ ((eth E j).t = X.t ∧ (eth E j).f = X.f ∧ ¬ (eth E j).g = X.g) := by
                by_cases q1 : (eth E j).t = X.t
                · by_cases q2 : (eth E j).f = X.f
                  · by_cases q3 : (eth E j).g = X.g
                    · exact absurd (ed_eq.2 ⟨q1, q2, q3⟩) e
                    · exact .inr (.inr ⟨q1, q2, q3⟩)
                  · exact .inr (.inl ⟨q1, q2⟩)
                · exact .inl q1
              rcases e' with q1 | ⟨q1, q2⟩ | ⟨q1, q2, q3⟩
              · simp [dw0, dw1, dw2, dw3, f2, f4, f5, f6, f10, f13, f14, f16, f17, f18, o0, o1, o2, o641, o643, o706, o1241, u4, hcj, hj, hj3, hj33, de, q1, hwj, im]
                exact ⟨by first | kernel_rfl | rfl, hE, hM⟩
              · simp [dw0, dw1, dw2, dw3, f2, f4, f5, f6, f10, f13, f14, f16, f17, f18, o0, o1, o2, o641, o643, o706, o1241, u4, hcj, hj, hj3, hj33, de, q1, q2, hwj, im]
                exact ⟨by first | kernel_rfl | rfl, hE, hM⟩
              · simp [dw0, dw1, dw2, dw3, f2, f4, f5, f6, f10, f13, f14, f16, f17, f18, o0, o1, o2, o641, o643, o706, o1241, u4, hcj, hj, hj3, hj33, de, q1, q2, q3, hwj, im]
                exact ⟨by first | kernel_rfl | rfl, hE, hM⟩
          · rintro S hcj ⟨f2, f4, f5, f6, f10, f13, f14, f16, f17, f18, o0, o1, o2, o641, o643, o706, o1241, hE, hM⟩
            have hE1 := hE
            rcases hE1 with ⟨u1, _, _⟩ | ⟨u1, gE', u3, u4⟩
            · omega
            cases u3
            by_cases zl : imAt E X c k E.length < 0
            · rw [if_pos zl] at zs
              simp [f2, f4, f5, f6, f10, f13, f14, f16, f17, f18, o0, o1, o2, o641, o643, o706, o1241, u4, hcj, zl]
              refine kApp_grow (ts := edC X) rfl (hE.keep fun g => by simp) (by omega) rfl (by omega) (by omega) fun E3 hE3 hob3 hcnt3 => ?_
              obtain ⟨u, hu3⟩ := hE3.one
              rw [hu3] at hE3
              have hM3 := hM.keep (ob' := E3.ob) fun g => by rw [hob3 _ _ (by decide)]; simp
              simp [f2, f4, f5, f6, f10, f13, f14, f16, f17, f18, o0, o1, o2, o641, o643, o706, o1241, hcj, hob3, hcnt3, hu3]
              refine kApp_grow (ts := [.int .i64 E.length]) rfl (hM3.keep fun g => by simp) (by omega) rfl (by omega) (by omega) fun E4 hE4 hob4 hcnt4 => ?_
              obtain ⟨w, hw4⟩ := hE4.one
              rw [hw4] at hE4
              have hE5 := hE3.keep (ob' := E4.ob) fun g => by rw [hob4 _ _ (by decide)]; simp
              simp [f2, f4, f5, f6, f10, f13, f14, f16, f17, f18, o0, o1, o2, o641, o643, o706, o1241, hcj, hw, hob3, hcnt3, hu3, hob4, hcnt4, hw4, zs]
              exact ⟨outR.keep (by simpa [edL] using hE5) fun g => by simp, outR.keep (by simpa using hE4) fun g => by simp⟩
            · rw [if_neg zl] at zs
              simp [f2, f4, f5, f6, f10, f13, f14, f16, f17, f18, o0, o1, o2, o641, o643, o706, o1241, u4, hcj, zl]
              refine kApp_grow (ts := [.int .i64 (imAt E X c k E.length)]) rfl (hM.keep fun g => by simp) (by omega) rfl (by omega) (by omega) fun E4 hE4 hob4 hcnt4 => ?_
              obtain ⟨w, hw4⟩ := hE4.one
              rw [hw4] at hE4
              have hE5 := hE.keep (ob' := E4.ob) fun g => by rw [hob4 _ _ (by decide)]; simp
              simp [f2, f4, f5, f6, f10, f13, f14, f16, f17, f18, o0, o1, o2, o641, o643, o706, o1241, hcj, hw, hob4, hcnt4, hw4, zs]
              exact ⟨outR.keep (by simpa using hE5) fun g => by simp, outR.keep (by simpa using hE4) fun g => by simp⟩
      · rintro S hc ⟨f2, f4, f5, f6, f10, f13, f14, o0, o1, o2, o641, vE, vM, o643, o706, hE, hM⟩
        have eE : (imS g c (imQ g c) g.edges.length).1 = (imG g c).edges := rfl
        have eM : (imS g c (imQ g c) g.edges.length).2 = (imM g c).edges := rfl
        have eQ : imQ g c = (imM g c).nodes := rfl
        rw [eE] at hE
        rw [eM] at hM
        rw [eQ] at o706
        generalize imG g c = G at hE o641 ⊢
        generalize imM g c = MM at hM o706 ⊢
        rcases hE with ⟨t1, t2, t3⟩ | ⟨t1, gE, t3, t4⟩ <;> rcases hM with ⟨u1, u2, u3⟩ | ⟨u1, gM, u3, u4⟩
        all_goals
          cases t3
          cases u3
          simp [dw0, dw1, dw2, dw3, f2, f4, f5, f6, f10, f13, f14, o0, o1, o2, o641, o643, o706, hc, rowO]
          refine ⟨by first | kernel_rfl | rfl, ?_⟩
          first
          | simp [t4, u4, untreeI, untreeT]
          | simp [t4, u1, u2, untreeI, untreeT]
          | simp [t1, t2, u4, untreeI, untreeT]
          | simp [t1, t2, u1, u2, untreeI, untreeT]
          try omega
end Go.Proofs.YthcnpnogfblkcaaGreat

/- Contract: the identity of a graph of any size. -/
namespace Go.Proofs.YthcnpnogfblkcaaGreat
open Abs
set_option linter.unusedSimpArgs false
set_option linter.unusedVariables false
attribute [local simp] rn0 rn1 rn2 rn3 rn4 rn5 rn6 rn7 evOp nests Arg.ev St.val St.set St.new sliceOf binInt2 binInt AV.cells rdAt St.live retOf resOf resAll treeOf treeCell treeCells treeTups untree frameOf TV.av TR.av ints edgs prs fillV splice intsOf trees V1.tree bx Gr.v Pa.v opRd opWr opNew opNewR opArgs argsRd argRd Arg.rd AV.refs V1.refs refsL dstL

def idP (g : Gr) : Pa := ⟨idL g.nodes.length, idL g.edges.length⟩
def c_of06 : MFunc := ⟨12, [.cell 2 true 2], .seq (.region [⟨some 1, .box 0 25 (.tmp 0), none⟩, ⟨some 2, .alloc 1 27 [.nil, .nil], none⟩]) (.seq (.draw [[], [0], [1], [2], [], [4], [5], [6, 3], [3, 7], [8, 7, 0, 1, 2, 3, 4, 5, 6, 7, 8]] [⟨some 3, .fieldA 0 (.tmp 1), none⟩, ⟨some 4, .load false 1 (.tmp 3), none⟩, ⟨some 5, .len (.tmp 4), none⟩, ⟨some 6, .call (.c (.one (.fn 105 []))) 67 [.tmp 5], none⟩, ⟨some 7, .fieldA 1 (.tmp 1), none⟩, ⟨some 8, .load false 1 (.tmp 7), none⟩, ⟨some 9, .len (.tmp 8), none⟩, ⟨some 10, .call (.c (.one (.fn 105 []))) 71 [.tmp 9], none⟩, ⟨some 11, .build [.nil, .nil] [(0, (1, .tmp 6)), (1, (1, .tmp 10))], none⟩, ⟨none, .store 2 (.tmp 2) (.tmp 11), none⟩]) .ret)⟩
theorem k_of06 : cFn Tryz.prog Tryz.f67 = some c_of06 := by kernel_rfl
theorem of06_ok (g : Gr) (h : tinyG g) : CallOK Tryz.prog 67 [g.v] (.sv (idP g).v) := by
  refine callOK_W (callS_W (by kernel_rfl) Tryz.func67 k_of06 (callable_of Tryz.func67 (by kernel_rfl)) (by simp [c_of06]) ?_)
  simp [c_of06, dw0, dw1, dw2, dw3]
  refine dCall_ok (finest02_row g.nodes.length h.1).ok ?_ ?_ ?_
  · rfl
  · rfl
  simp [dw0, dw1, dw2, dw3]
  refine dCall_ok (finest02_row g.edges.length h.2).ok ?_ ?_ ?_
  · rfl
  · rfl
  simp [dw0, dw1, dw2, dw3, idP]
  rfl
end Go.Proofs.YthcnpnogfblkcaaGreat

/- Contract: the grown image of a graph. -/
namespace Go.Proofs.YthcnpnogfblkcaaGreat
open Abs
set_option linter.unusedSimpArgs false
set_option linter.unusedVariables false
attribute [local simp] rn0 rn1 rn2 rn3 rn4 rn5 rn6 rn7 evOp nests Arg.ev St.val St.set St.new sliceOf binInt2 binInt AV.cells rdAt St.live retOf resOf resAll treeOf treeCell treeCells treeTups untree frameOf TV.av TR.av ints edgs prs fillV splice intsOf trees V1.tree bx Gr.v Pa.v opRd opWr opNew opNewR opArgs argsRd argRd Arg.rd AV.refs V1.refs refsL dstL

def imB (l : List Nat) : Bool := decide (0 < l.length) && decide (byth l 0 < 255)
/-- What a graph grows from. -/
def grG (g : Gr) (l : List Nat) : Gr := if imB l = true then imG g (numsL l) else g
def grM (g : Gr) (l : List Nat) : Pa := if imB l = true then imM g (numsL l) else idP g
def gnF (l : List Nat) (j : Nat) : Option Int := if byth l (j + 1) % 2 = 1 then some ((byth l (j + 1) / 2 % 3 : Nat) : Int) else none
def grN (g : Gr) (l : List Nat) (k : Nat) : List Int := (grG g l).nodes ++ collect (gnF l) k
def gnc (l : List Nat) : Nat := min l.length 4 - 1
def grn (g : Gr) (l : List Nat) : List Int := grN g l (gnc l)
def geX (l : List Nat) (n j : Nat) : Ed := ⟨(byth l (j + 4) % 2 : Nat), (byth l (j + 4) / 2 % n : Nat), (byth l (j + 4) / 16 % n : Nat)⟩
def grE (g : Gr) (l : List Nat) (k : Nat) : List Ed := (grG g l).edges ++ (List.range k).map (geX l (grn g l).length)
def gec (g : Gr) (l : List Nat) : Nat := if (grn g l).length = 0 then 0 else min l.length 8 - 4
/-- The grown graph. -/
def growG (g : Gr) (l : List Nat) : Gr := ⟨grn g l, grE g l (gec g l)⟩
theorem outL2 {a b typ esz n : Nat} {cs : List Abs.C} {ob : Nm → Option Ob} {v : V1} (h : outL [a, b] typ esz n cs ob (.one v)) :
    (n = 0 ∧ cs = [] ∧ v = .nil) ∨ (0 < n ∧ ∃ g, v = .row (a, g) ∧ ob (a, g) = some ⟨true, true, false, esz, n, typ, cs.map .t⟩) ∨ (0 < n ∧ ∃ g, v = .row (b, g) ∧ ob (b, g) = some ⟨true, true, false, esz, n, typ, cs.map .t⟩) := by
  rcases h with ⟨h1, h2, h3⟩ | ⟨h1, nm, hm, g, h3, h4⟩
  · injection h3 with h3
    exact .inl ⟨h1, h2, h3⟩
  · injection h3 with h3
    simp at hm
    rcases hm with rfl | rfl
    · exact .inr (.inl ⟨h1, g, h3, h4⟩)
    · exact .inr (.inr ⟨h1, g, h3, h4⟩)
theorem outL1 {a typ esz n : Nat} {cs : List Abs.C} {ob : Nm → Option Ob} {v : V1} (h : outL [a] typ esz n cs ob (.one v)) :
    (n = 0 ∧ cs = [] ∧ v = .nil) ∨ (0 < n ∧ ∃ g, v = .row (a, g) ∧ ob (a, g) = some ⟨true, true, false, esz, n, typ, cs.map .t⟩) := by
  rcases h with ⟨h1, h2, h3⟩ | ⟨h1, nm, hm, g, h3, h4⟩
  · injection h3 with h3
    exact .inl ⟨h1, h2, h3⟩
  · injection h3 with h3
    simp at hm
    subst hm
    exact .inr ⟨h1, g, h3, h4⟩
theorem keep1 {a typ esz n : Nat} {cs : List Abs.C} {ob ob' : Nm → Option Ob} {v : AV} (h : outL [a] typ esz n cs ob v) (ho : ∀ g, ob' (a, g) = ob (a, g)) : outL [a] typ esz n cs ob' v := h.keep fun nm hm g => by simp at hm; subst hm; exact ho g
theorem keep2 {a b typ esz n : Nat} {cs : List Abs.C} {ob ob' : Nm → Option Ob} {v : AV} (h : outL [a, b] typ esz n cs ob v) (ho : ∀ g, ob' (a, g) = ob (a, g)) (ho2 : ∀ g, ob' (b, g) = ob (b, g)) : outL [a, b] typ esz n cs ob' v := h.keep fun nm hm g => by
  simp at hm
  rcases hm with rfl | rfl
  · exact ho g
  · exact ho2 g
theorem grN_some {g : Gr} {l : List Nat} {j : Nat} {x : Int} (h : gnF l j = some x) : grN g l (j + 1) = grN g l j ++ [x] := by simp only [grN, collect_some h, List.append_assoc]
theorem grN_none {g : Gr} {l : List Nat} {j : Nat} (h : gnF l j = none) : grN g l (j + 1) = grN g l j := by simp only [grN, collect_none h]
theorem grE_succ {g : Gr} {l : List Nat} {k : Nat} : grE g l (k + 1) = grE g l k ++ [geX l (grn g l).length k] := by simp [grE, List.range_succ]
theorem grE_len {g : Gr} {l : List Nat} {k : Nat} : (grE g l k).length = (grG g l).edges.length + k := by simp [grE]
theorem grN_len {g : Gr} {l : List Nat} {k : Nat} : (grN g l k).length ≤ (grG g l).nodes.length + k := by
  have := collect_len (f := gnF l) (k := k)
  simp only [grN, List.length_append]
  omega
theorem imG_few {g : Gr} {c : List Int} : (imG g c).nodes.length ≤ g.nodes.length ∧ (imG g c).edges.length ≤ g.edges.length := ⟨collect_len, (imS_len _).1⟩
theorem grG_few {g : Gr} {l : List Nat} : (grG g l).nodes.length ≤ g.nodes.length ∧ (grG g l).edges.length ≤ g.edges.length := by
  unfold grG
  split
  · exact imG_few
  · exact ⟨Nat.le_refl _, Nat.le_refl _⟩

theorem drop_byL0 {l : List Nat} (h : 0 < l.length) : byL l = .int .u8 (byth l 0 : Nat) :: byL l.tail := by
  have := drop_byL h
  rwa [List.drop_zero, List.drop_one] at this

def c_grown10 : MFunc := ⟨109, [.cell 4 true 2, .cell 5 true 2], .seq (.region [⟨some 2, .box 0 25 (.tmp 0), none⟩, ⟨some 4, .alloc 1 25 [.nil, .nil], none⟩, ⟨some 5, .alloc 2 27 [.nil, .nil], none⟩]) (.seq (.draw [[], [0], [], [2, 1], [], [], [4, 1, 3, 0, 1, 4, 5], [5, 3, 6, 0, 1, 2, 3, 4, 5, 6]] [⟨some 10, .load true 2 (.tmp 2), none⟩, ⟨some 11, .call (.c (.one (.fn 52 []))) 65 [.tmp 10], none⟩, ⟨some 12, .load true 2 (.tmp 2), none⟩, ⟨some 13, .call (.c (.one (.fn 67 []))) 67 [.tmp 12], none⟩, ⟨some 6, .alloc 68 25 [.nil, .nil], none⟩, ⟨some 7, .alloc 69 27 [.nil, .nil], none⟩, ⟨none, .store 2 (.tmp 6) (.tmp 11), none⟩, ⟨none, .store 2 (.tmp 7) (.tmp 13), none⟩]) (.seq (.seq (.region [⟨some 14, .mv (.tmp 1), none⟩, ⟨some 15, .len (.tmp 14), none⟩, ⟨some 16, .bin .gtr (.tmp 15) (.c (.one (.t (.int .i64 0)))), none⟩, ⟨some 17, .mv (.tmp 16), none⟩, ⟨some 18, .mv (.tmp 1), some (17, true)⟩, ⟨some 19, .idxA 1 (.tmp 18) (.c (.one (.t (.int .i64 0)))), some (17, true)⟩, ⟨some 20, .load false 1 (.tmp 19), some (17, true)⟩, ⟨some 21, .bin .lss (.tmp 20) (.c (.one (.t (.int .u8 255)))), some (17, true)⟩, ⟨some 22, .pick (.tmp 17) (.tmp 21) (.c (.one (.t (.bool false)))), none⟩]) (.cond (.tmp 22) (.region [⟨some 24, .load true 2 (.tmp 2), none⟩, ⟨some 25, .mv (.tmp 1), none⟩, ⟨some 26, .call (.c (.one (.fn 70 []))) 194 [.tmp 24, .tmp 25], none⟩, ⟨some 23, .mv (.tmp 26), none⟩, ⟨some 27, .extract (.tmp 23) 0, none⟩, ⟨some 28, .extract (.tmp 23) 1, none⟩, ⟨none, .store 2 (.tmp 6) (.tmp 27), none⟩, ⟨none, .store 2 (.tmp 7) (.tmp 28), none⟩]) .skip)) (.seq (.region [⟨some 29, .load true 2 (.tmp 6), none⟩, ⟨some 30, .call (.c (.one (.fn 52 []))) 257 [.tmp 29], none⟩, ⟨none, .store 2 (.tmp 6) (.tmp 30), none⟩]) (.seq (.seq (.region [⟨some 8, .mv (.c (.one (.t (.int .i64 1)))), none⟩]) (.block 0 (.loop (.seq (.seq (.region [⟨some 31, .mv (.tmp 8), none⟩, ⟨some 32, .mv (.tmp 1), none⟩, ⟨some 33, .len (.tmp 32), none⟩, ⟨some 34, .bin .lss (.tmp 31) (.tmp 33), none⟩, ⟨some 35, .mv (.tmp 34), none⟩, ⟨some 36, .mv (.tmp 8), some (35, true)⟩, ⟨some 37, .bin .leq (.tmp 36) (.c (.one (.t (.int .i64 3)))), some (35, true)⟩, ⟨some 38, .pick (.tmp 35) (.tmp 37) (.c (.one (.t (.bool false)))), none⟩]) (.cond (.tmp 38) .skip (.exit 0))) (.seq (.block 1 (.seq (.region [⟨some 41, .mv (.tmp 1), none⟩, ⟨some 42, .mv (.tmp 8), none⟩, ⟨some 43, .idxA 1 (.tmp 41) (.tmp 42), none⟩, ⟨some 44, .load false 1 (.tmp 43), none⟩, ⟨some 45, .bin .rem (.tmp 44) (.c (.one (.t (.int .u8 2)))), none⟩, ⟨some 46, .bin .eql (.tmp 45) (.c (.one (.t (.int .u8 1)))), none⟩]) (.cond (.tmp 46) (.draw [[], [0], [], [], [2, 3], [4], [5], [6], [7], [8], [1, 9], [0, 1, 2, 3, 4, 5, 6, 7, 8, 9, 10], [11, 10, 10, 0, 1, 2, 3, 4, 5, 6, 7, 8, 9, 10]] [⟨some 47, .fieldA 0 (.tmp 6), none⟩, ⟨some 48, .load false 1 (.tmp 47), none⟩, ⟨some 49, .mv (.tmp 1), none⟩, ⟨some 50, .mv (.tmp 8), none⟩, ⟨some 51, .idxA 1 (.tmp 49) (.tmp 50), none⟩, ⟨some 52, .load false 1 (.tmp 51), none⟩, ⟨some 53, .bin .quo (.tmp 52) (.c (.one (.t (.int .u8 2)))), none⟩, ⟨some 54, .conv .i64 (.tmp 53), none⟩, ⟨some 55, .bin .rem (.tmp 54) (.c (.one (.t (.int .i64 3)))), none⟩, ⟨some 56, .mkrow 585 3 1 1 [.t (.int .i64 0)] [(0, (1, .tmp 55))], none⟩, ⟨some 57, .append 586 3 1 8 (.tmp 48) (.tmp 56), none⟩, ⟨some 58, .fieldA 0 (.tmp 6), none⟩, ⟨none, .store 1 (.tmp 58) (.tmp 57), none⟩]) .skip))) (.region [⟨some 39, .mv (.tmp 8), none⟩, ⟨some 40, .bin .add (.tmp 39) (.c (.one (.t (.int .i64 1)))), none⟩, ⟨some 8, .mv (.tmp 40), none⟩])))))) (.seq (.seq (.region [⟨some 9, .mv (.c (.one (.t (.int .i64 4)))), none⟩]) (.block 2 (.loop (.seq (.seq (.region [⟨some 59, .mv (.tmp 9), none⟩, ⟨some 60, .mv (.tmp 1), none⟩, ⟨some 61, .len (.tmp 60), none⟩, ⟨some 62, .bin .lss (.tmp 59) (.tmp 61), none⟩, ⟨some 63, .mv (.tmp 62), none⟩, ⟨some 64, .mv (.tmp 9), some (63, true)⟩, ⟨some 65, .bin .leq (.tmp 64) (.c (.one (.t (.int .i64 7)))), some (63, true)⟩, ⟨some 66, .pick (.tmp 63) (.tmp 65) (.c (.one (.t (.bool false)))), none⟩, ⟨some 67, .mv (.tmp 66), none⟩, ⟨some 68, .fieldA 0 (.tmp 6), some (67, true)⟩, ⟨some 69, .load false 1 (.tmp 68), some (67, true)⟩, ⟨some 70, .len (.tmp 69), some (67, true)⟩, ⟨some 71, .bin .gtr (.tmp 70) (.c (.one (.t (.int .i64 0)))), some (67, true)⟩, ⟨some 72, .pick (.tmp 67) (.tmp 71) (.c (.one (.t (.bool false)))), none⟩]) (.cond (.tmp 72) .skip (.exit 2))) (.seq (.block 3 (.draw [[], [0], [], [], [2, 3], [4], [5], [6], [], [], [8, 9], [10], [11], [12], [], [14], [15], [13, 16], [], [], [18, 19], [20], [21], [22], [], [24], [25], [23, 26], [7, 17, 27], [28], [1, 29], [0, 1, 2, 3, 4, 5, 6, 7, 8, 9, 10, 11, 12, 13, 14, 15, 16, 17, 18, 19, 20, 21, 22, 23, 24, 25, 26, 27, 28, 29, 30], [31, 30, 30, 0, 1, 2, 3, 4, 5, 6, 7, 8, 9, 10, 11, 12, 13, 14, 15, 16, 17, 18, 19, 20, 21, 22, 23, 24, 25, 26, 27, 28, 29, 30]] [⟨some 75, .fieldA 1 (.tmp 6), none⟩, ⟨some 76, .load false 1 (.tmp 75), none⟩, ⟨some 77, .mv (.tmp 1), none⟩, ⟨some 78, .mv (.tmp 9), none⟩, ⟨some 79, .idxA 1 (.tmp 77) (.tmp 78), none⟩, ⟨some 80, .load false 1 (.tmp 79), none⟩, ⟨some 81, .conv .i64 (.tmp 80), none⟩, ⟨some 82, .bin .rem (.tmp 81) (.c (.one (.t (.int .i64 2)))), none⟩, ⟨some 83, .mv (.tmp 1), none⟩, ⟨some 84, .mv (.tmp 9), none⟩, ⟨some 85, .idxA 1 (.tmp 83) (.tmp 84), none⟩, ⟨some 86, .load false 1 (.tmp 85), none⟩, ⟨some 87, .bin .quo (.tmp 86) (.c (.one (.t (.int .u8 2)))), none⟩, ⟨some 88, .conv .i64 (.tmp 87), none⟩, ⟨some 89, .fieldA 0 (.tmp 6), none⟩, ⟨some 90, .load false 1 (.tmp 89), none⟩, ⟨some 91, .len (.tmp 90), none⟩, ⟨some 92, .bin .rem (.tmp 88) (.tmp 91), none⟩, ⟨some 93, .mv (.tmp 1), none⟩, ⟨some 94, .mv (.tmp 9), none⟩, ⟨some 95, .idxA 1 (.tmp 93) (.tmp 94), none⟩, ⟨some 96, .load false 1 (.tmp 95), none⟩, ⟨some 97, .bin .quo (.tmp 96) (.c (.one (.t (.int .u8 16)))), none⟩, ⟨some 98, .conv .i64 (.tmp 97), none⟩, ⟨some 99, .fieldA 0 (.tmp 6), none⟩, ⟨some 100, .load false 1 (.tmp 99), none⟩, ⟨some 101, .len (.tmp 100), none⟩, ⟨some 102, .bin .rem (.tmp 98) (.tmp 101), none⟩, ⟨some 103, .build [.t (.int .i64 0), .t (.int .i64 0), .t (.int .i64 0)] [(0, (1, .tmp 82)), (1, (1, .tmp 92)), (2, (1, .tmp 102))], none⟩, ⟨some 104, .mkrow 861 76 3 1 [.t (.int .i64 0), .t (.int .i64 0), .t (.int .i64 0)] [(0, (3, .tmp 103))], none⟩, ⟨some 105, .append 862 76 3 24 (.tmp 76) (.tmp 104), none⟩, ⟨some 106, .fieldA 1 (.tmp 6), none⟩, ⟨none, .store 1 (.tmp 106) (.tmp 105), none⟩])) (.region [⟨some 73, .mv (.tmp 9), none⟩, ⟨some 74, .bin .add (.tmp 73) (.c (.one (.t (.int .i64 1)))), none⟩, ⟨some 9, .mv (.tmp 74), none⟩])))))) (.seq (.draw [[], [], [0, 0], [1, 2, 0, 1, 2]] [⟨some 107, .load true 2 (.tmp 6), none⟩, ⟨some 108, .load true 2 (.tmp 7), none⟩, ⟨none, .store 2 (.tmp 4) (.tmp 107), none⟩, ⟨none, .store 2 (.tmp 5) (.tmp 108), none⟩]) .ret))))))⟩
theorem k_grown10 : cFn Tryz.prog Tryz.f29 = some c_grown10 := by kernel_rfl
set_option maxHeartbeats 8000000 in
set_option maxRecDepth 20000 in
theorem grown10_ok (g : Gr) (l : List Nat) (gg : GrOk g) (hl : l.length ≤ 1048576) (hs : ∀ x ∈ l, x < 256) : CallOK Tryz.prog 29 [g.v, byV l] (.tup [(growG g l).v, (grM g l).v]) := by
  refine callOK_W (callS_W (by kernel_rfl) Tryz.func29 k_grown10 (callable_of Tryz.func29 (by kernel_rfl)) (by simp [c_grown10]) ?_)
  have b1 := gg.n
  have b2 := gg.e
  have tg : tinyG g := ⟨by show _ ≤ _; omega, by show _ ≤ _; omega⟩
  obtain ⟨s1, s2⟩ := grG_few (g := g) (l := l)
  have tG : tinyG (grG g l) := ⟨by show _ ≤ _; omega, by show _ ≤ _; omega⟩
  simp [c_grown10, dw0, dw1, dw2, dw3, byV, bys]
  refine dCall_ok (copied5_ok g tg) ?_ ?_ ?_
  · rfl
  · rfl
  simp [dw0, dw1, dw2, dw3]
  refine dCall_ok (of06_ok g tg) ?_ ?_ ?_
  · rfl
  · rfl
  simp [dw0, dw1, dw2, dw3]
  refine ⟨by first | kernel_rfl | rfl, ?_⟩
  have eb : 0 < l.length ∧ (imB l = true ∧ ((byth l 0 : Nat) : Int) < 255 ∨ ¬ imB l = true ∧ ¬ ((byth l 0 : Nat) : Int) < 255) ∨ ¬ 0 < l.length ∧ ¬ imB l = true := by
    by_cases z : 0 < l.length
    · by_cases y : byth l 0 < 255
      · exact .inl ⟨z, .inl ⟨by simp [imB, z, y], by omega⟩⟩
      · exact .inl ⟨z, .inr ⟨by simp [imB, y], by omega⟩⟩
    · exact .inr ⟨z, by simp [imB]; omega⟩
  rcases eb with ⟨z, ⟨hb, i1⟩ | ⟨hb, i1⟩⟩ | ⟨z, hb⟩
  all_goals
    first
    | (have q1 : grG g l = imG g (numsL l) := if_pos hb
       have q2 : grM g l = imM g (numsL l) := if_pos hb
       simp [len_byL, z, drop_byL0 z, i1]
       simp only [← drop_byL0 z]
       refine callS_tree (image06_ok g l gg hl hs) ?_ ?_ ?_
       · rfl
       · rfl
       rw [← q1, ← q2]
       simp
       refine copied5S (grG g l) tG fun v1 v2 ob' cnt' h1 h2 k1 k2 k3 => ?_
       have p0 := k2 0 0 (by simp)
       have p1 := k2 1 0 (by simp)
       have p2 := k1 2 0 (by decide) (by decide) (by decide) (by decide)
       have p6 := k1 68 0 (by decide) (by decide) (by decide) (by decide)
       have p7 := k1 69 0 (by decide) (by decide) (by decide) (by decide)
       simp at p0 p1 p2 p6 p7
       simp [p6])
    | (have q1 : grG g l = g := if_neg hb
       have q2 : grM g l = idP g := if_neg hb
       simp [len_byL, z, drop_byL0 z, i1]
       simp only [← drop_byL0 z]
       refine copied5S g tg fun v1 v2 ob' cnt' h1 h2 k1 k2 k3 => ?_
       have p0 := k2 0 0 (by simp)
       have p1 := k2 1 0 (by simp)
       have p2 := k1 2 0 (by decide) (by decide) (by decide) (by decide)
       have p6 := k1 68 0 (by decide) (by decide) (by decide) (by decide)
       have p7 := k1 69 0 (by decide) (by decide) (by decide) (by decide)
       simp at p0 p1 p2 p6 p7
       rw [← q2] at p7
       rw [← q1] at h1 h2
       simp [p6])
    | (have q1 : grG g l = g := if_neg hb
       have q2 : grM g l = idP g := if_neg hb
       simp [len_byL, z]
       refine copied5S g tg fun v1 v2 ob' cnt' h1 h2 k1 k2 k3 => ?_
       have p0 := k2 0 0 (by simp)
       have p1 := k2 1 0 (by simp)
       have p2 := k1 2 0 (by decide) (by decide) (by decide) (by decide)
       have p6 := k1 68 0 (by decide) (by decide) (by decide) (by decide)
       have p7 := k1 69 0 (by decide) (by decide) (by decide) (by decide)
       simp at p0 p1 p2 p6 p7
       rw [← q2] at p7
       rw [← q1] at h1 h2
       simp [p6])
    clear p6 k1 k2 k3 z hb q1 q2
    refine loopW_from 8 1 (max 1 (min l.length 4)) (fun k S => S.fr 1 = .one (.t (bys l)) ∧ S.fr 4 = .one (.ptr (1, 0) 0) ∧ S.fr 5 = .one (.ptr (2, 0) 0) ∧ S.fr 6 = .one (.ptr (68, 0) 0) ∧ S.fr 7 = .one (.ptr (69, 0) 0) ∧
      S.ob (1, 0) = some (bx 25 [.nil, .nil]) ∧ S.ob (2, 0) = some (bx 27 [.nil, .nil]) ∧ S.ob (69, 0) = some (bx 27 [.t (ints (grM g l).nodes), .t (ints (grM g l).edges)]) ∧
      outL [71] 76 3 (grG g l).edges.length (edL (grG g l).edges) S.ob (.one v2) ∧
      ∃ vN, S.ob (68, 0) = some (bx 25 [vN, v2]) ∧ outL [67, 586] 3 1 (grN g l (k - 1)).length ((grN g l (k - 1)).map (.int .i64)) S.ob (.one vN)) (by omega) (by omega) ?_ ?_ ?_
    · simp [p1, p2, p7, bys, len_byL, grN, collect_zero]
      refine ⟨outL.keep h2 fun nm hm gg => ?_, outL.keep (outL.wide h1 (by simp)) fun nm hm gg => ?_⟩
      · simp at hm
        subst hm
        simp
      · simp at hm
        rcases hm with rfl | rfl <;> simp
    · rintro k S hk1 hlt hw hc ⟨f1, f4, f5, f6, f7, o1, o2, o69, hE, vN, o68, hN⟩
      obtain ⟨j, hj⟩ : ∃ j, k = j + 1 := ⟨k - 1, by omega⟩
      have k1 : k < l.length := by omega
      have k2 : (k : Int) ≤ 3 := by omega
      obtain ⟨v, hv⟩ : ∃ v, v = byth l k := ⟨_, rfl⟩
      have v1' : v < 256 := by rw [hv]; exact byth_small hs k
      obtain ⟨p, hp⟩ : ∃ p, p = v % 2 := ⟨_, rfl⟩
      obtain ⟨q, hq⟩ : ∃ q, q = v / 2 := ⟨_, rfl⟩
      obtain ⟨r, hr⟩ : ∃ r, r = q % 3 := ⟨_, rfl⟩
      have e1 : (v : Int).tmod 2 = (p : Int) := by rw [hp]; exact rem2
      have e2 : (v : Int).tdiv 2 = (q : Int) := by rw [hq]; exact quo2
      have e3 : (q : Int).tmod 3 = (r : Int) := by rw [hr]; exact rem3
      have w1 : IntKind.u8.wrap (q : Int) = q := wrap8 (by omega)
      have w2 : IntKind.i64.wrap (q : Int) = q := by rw [wrap64_id] <;> omega
      have dv := drop_byL k1
      rw [← hv] at dv
      have cl := grN_len (g := g) (l := l) (k := k - 1)
      have gk : gnF l j = if p = 1 then some (r : Int) else none := by
        simp only [gnF, ← hj, ← hv, hp, hr, hq]
      by_cases h3 : p = 1
      · rw [if_pos h3] at gk
        have gs : grN g l k = grN g l (k - 1) ++ [(r : Int)] := by rw [hj, Nat.add_sub_cancel]; exact grN_some gk
        rcases outL2 hN with ⟨t1, t2, t3⟩ | ⟨t1, gN, t3, t4⟩ | ⟨t1, gN, t3, t4⟩
        all_goals
          subst t3
          simp [dw0, dw1, dw2, dw3, f1, f4, f5, f6, f7, o1, o2, o69, o68, hc, bys, len_byL, k1, k2, dv, e1, e2, e3, w1, w2, h3]
          refine kApp_growL (nm := 586) (ts := [.int .i64 r]) (by simp) rfl (keep2 hN (fun g => by simp) fun g => by simp) rfl (by omega) (by omega) fun E3 hE3 hob3 hcnt3 => ?_
          obtain ⟨u, hu3⟩ := hE3.one
          rw [hu3] at hE3
          have hE4 := keep1 hE (ob' := E3.ob) fun g => by rw [hob3 _ _ (by decide)]; simp
          simp [dw0, dw1, dw2, dw3, f1, f4, f5, f6, f7, o1, o2, o69, o68, hc, hw, hob3, hcnt3, hu3, gs, bys, len_byL]
          refine ⟨by first | kernel_rfl | rfl, ?_⟩
          try simp [f1, f4, f5, f6, f7, o1, o2, o69, o68, hc, hw, hob3, hcnt3, hu3, gs, bys, len_byL]
          exact ⟨keep1 hE4 fun g => by simp, keep2 (by simpa using hE3) (fun g => by simp) fun g => by simp⟩
      · rw [if_neg h3] at gk
        have gs : grN g l k = grN g l (k - 1) := by rw [hj, Nat.add_sub_cancel]; exact grN_none gk
        have h3' : ¬ (p : Int) = 1 := by omega
        simp [f1, f4, f5, f6, f7, o1, o2, o69, o68, hc, bys, len_byL, k1, k2, dv, e1, h3, h3', hw, gs]
        exact ⟨by simpa using hE, by simpa using hN⟩
    · rintro S hc ⟨f1, f4, f5, f6, f7, o1, o2, o69, hE, vN, o68, hN⟩
      have stop : (max 1 (min l.length 4) < l.length ∧ ¬ ((max 1 (min l.length 4) : Nat) : Int) ≤ 3) ∨ ¬ max 1 (min l.length 4) < l.length := by omega
      have eN : grN g l (max 1 (min l.length 4) - 1) = grn g l := by
        rw [grn]
        congr 1
        simp only [gnc]
        omega
      rw [eN] at hN
      have gl : (grn g l).length ≤ 43 := by
        have := grN_len (g := g) (l := l) (k := gnc l)
        have : gnc l ≤ 3 := by simp only [gnc]; omega
        have e : (grn g l).length = (grN g l (gnc l)).length := rfl
        omega
      have ge0 : grE g l 0 = (grG g l).edges := by simp [grE]
      generalize max 1 (min l.length 4) = mx at hc stop
      rcases outL2 hN with ⟨t1, t2, t3⟩ | ⟨t1, gN, t3, t4⟩ | ⟨t1, gN, t3, t4⟩
      · subst t3
        have z2 : gec g l = 0 := by simp [gec, t1]
        have e1 : growG g l = ⟨grn g l, (grG g l).edges⟩ := by rw [growG, z2, ge0]
        rw [e1]
        rcases stop with ⟨y1, y2⟩ | y1
        all_goals
          first
          | simp [f1, f4, f5, f6, f7, o1, o2, o69, o68, hc, bys, len_byL, y1, y2]
          | simp [f1, f4, f5, f6, f7, o1, o2, o69, o68, hc, bys, len_byL, y1]
          refine loopW_from 9 4 4 (fun k S => S.fr 1 = .one (.t (bys l)) ∧ S.fr 4 = .one (.ptr (1, 0) 0) ∧ S.fr 5 = .one (.ptr (2, 0) 0) ∧ S.fr 6 = .one (.ptr (68, 0) 0) ∧ S.fr 7 = .one (.ptr (69, 0) 0) ∧
        S.ob (1, 0) = some (bx 25 [.nil, .nil]) ∧ S.ob (2, 0) = some (bx 27 [.nil, .nil]) ∧ S.ob (69, 0) = some (bx 27 [.t (ints (grM g l).nodes), .t (ints (grM g l).edges)]) ∧
        outL [67, 586] 3 1 (grn g l).length ((grn g l).map (.int .i64)) S.ob (.one .nil) ∧
        ∃ vE, S.ob (68, 0) = some (bx 25 [.nil, vE]) ∧ outL [71, 862] 76 3 (grE g l (k - 4)).length (edL (grE g l (k - 4))) S.ob (.one vE)) (by omega) (by omega) ?_ ?_ ?_
          · simp [f1, f4, f5, f6, f7, o1, o2, o69, o68, hc, bys, len_byL, ge0]
            exact ⟨by simpa using hN, outL.wide (by simpa using hE) (by simp)⟩
          · rintro k S hk1 hlt _ _ _
            omega
          · rintro S hc ⟨f1, f4, f5, f6, f7, o1, o2, o69, hN, vE, o68, hE⟩
            rw [show (4 - 4 : Nat) = 0 from rfl, ge0] at hE
            have hx : (4 : Int) < l.length ∨ ¬ (4 : Int) < l.length := by omega
            have t1' : grn g l = [] := List.eq_nil_of_length_eq_zero t1
            rcases hx with hx | hx <;> rcases outL2 hE with ⟨u1, u2, u3⟩ | ⟨u1, gE, u3, u4⟩ | ⟨u1, gE, u3, u4⟩
            all_goals
              subst u3
              simp [dw0, dw1, dw2, dw3, f1, f4, f5, f6, f7, o1, o2, o69, o68, hc, bys, len_byL, hx]
              refine ⟨by first | kernel_rfl | rfl, ?_⟩
              first
              | (simp [u4, t1', untreeI, untreeT]; done)
              | exact ⟨⟨t1.symm, t1'⟩, u1.symm, u2⟩
      · subst t3
        have zn : ¬ (grn g l).length = 0 := by omega
        have z2 : gec g l = min l.length 8 - 4 := by rw [gec, if_neg zn]
        have zp : (0 : Int) < (grn g l).length := by omega
        rcases stop with ⟨y1, y2⟩ | y1
        all_goals
          first
          | simp [f1, f4, f5, f6, f7, o1, o2, o69, o68, hc, bys, len_byL, y1, y2]
          | simp [f1, f4, f5, f6, f7, o1, o2, o69, o68, hc, bys, len_byL, y1]
          refine loopW_from 9 4 (max 4 (min l.length 8)) (fun k S => S.fr 1 = .one (.t (bys l)) ∧ S.fr 4 = .one (.ptr (1, 0) 0) ∧ S.fr 5 = .one (.ptr (2, 0) 0) ∧ S.fr 6 = .one (.ptr (68, 0) 0) ∧ S.fr 7 = .one (.ptr (69, 0) 0) ∧
        S.ob (1, 0) = some (bx 25 [.nil, .nil]) ∧ S.ob (2, 0) = some (bx 27 [.nil, .nil]) ∧ S.ob (69, 0) = some (bx 27 [.t (ints (grM g l).nodes), .t (ints (grM g l).edges)]) ∧
        S.ob (67, gN) = some ⟨true, true, false, 1, (grn g l).length, 3, ((grn g l).map (.int .i64)).map .t⟩ ∧
        ∃ vE, S.ob (68, 0) = some (bx 25 [.row (67, gN), vE]) ∧ outL [71, 862] 76 3 (grE g l (k - 4)).length (edL (grE g l (k - 4))) S.ob (.one vE)) (by omega) (by omega) ?_ ?_ ?_
          · simp [f1, f4, f5, f6, f7, o1, o2, o69, o68, hc, bys, len_byL, ge0, t4]
            exact outL.wide (by simpa using hE) (by simp)
          · rintro k S hk1 hlt hw hc ⟨f1, f4, f5, f6, f7, o1, o2, o69, t4, vE, o68, hE⟩
            obtain ⟨j, hj⟩ : ∃ j, k = j + 4 := ⟨k - 4, by omega⟩
            have k1 : k < l.length := by omega
            have k2 : (k : Int) ≤ 7 := by omega
            obtain ⟨v, hv⟩ : ∃ v, v = byth l k := ⟨_, rfl⟩
            have v1' : v < 256 := by rw [hv]; exact byth_small hs k
            obtain ⟨n, hn⟩ : ∃ n, n = (grn g l).length := ⟨_, rfl⟩
            obtain ⟨p, hp⟩ : ∃ p, p = v % 2 := ⟨_, rfl⟩
            obtain ⟨q, hq⟩ : ∃ q, q = v / 2 := ⟨_, rfl⟩
            obtain ⟨s, hs'⟩ : ∃ s, s = v / 16 := ⟨_, rfl⟩
            obtain ⟨a, ha⟩ : ∃ a, a = q % n := ⟨_, rfl⟩
            obtain ⟨b, hb⟩ : ∃ b, b = s % n := ⟨_, rfl⟩
            have e1 : (v : Int).tmod 2 = (p : Int) := by rw [hp]; exact rem2
            have e2 : (v : Int).tdiv 2 = (q : Int) := by rw [hq]; exact quo2
            have e3 : (v : Int).tdiv 16 = (s : Int) := by rw [hs']; exact quo16
            have e4 : (q : Int).tmod (n : Int) = (a : Int) := by rw [ha]; exact nat_rem
            have e5 : (s : Int).tmod (n : Int) = (b : Int) := by rw [hb]; exact nat_rem
            have w0 : IntKind.i64.wrap (v : Int) = v := by rw [wrap64_id] <;> omega
            have w1 : IntKind.u8.wrap (q : Int) = q := wrap8 (by omega)
            have w2 : IntKind.i64.wrap (q : Int) = q := by rw [wrap64_id] <;> omega
            have w3 : IntKind.u8.wrap (s : Int) = s := wrap8 (by omega)
            have w4 : IntKind.i64.wrap (s : Int) = s := by rw [wrap64_id] <;> omega
            have dv := drop_byL k1
            rw [← hv] at dv
            have gx : geX l n j = ⟨(p : Nat), (a : Nat), (b : Nat)⟩ := by simp only [geX, ← hj, ← hv, ← hp, ← hq, ← hs', ← ha, ← hb]
            have gs : grE g l (k - 3) = grE g l (k - 4) ++ [⟨(p : Nat), (a : Nat), (b : Nat)⟩] := by
              rw [show k - 3 = j + 1 by omega, show k - 4 = j by omega, grE_succ, ← hn, gx]
            have cl := grE_len (g := g) (l := l) (k := k - 4)
            have zn' : ¬ n = 0 := by omega
            have zp' : 0 < n := by omega
            rw [← hn] at t4
            rcases outL2 hE with ⟨u1, u2, u3⟩ | ⟨u1, gE, u3, u4⟩ | ⟨u1, gE, u3, u4⟩
            all_goals
              subst u3
              simp [dw0, dw1, dw2, dw3, f1, f4, f5, f6, f7, o1, o2, o69, o68, t4, hc, bys, len_byL, k1, k2, dv, zn', zp', e1, e2, e3, e4, e5, w0, w1, w2, w3, w4]
              refine kApp_growL (nm := 862) (ts := [.int .i64 p, .int .i64 a, .int .i64 b]) (by simp) rfl (keep2 hE (fun g => by simp) fun g => by simp) rfl (by omega) (by omega) fun E3 hE3 hob3 hcnt3 => ?_
              obtain ⟨u, hu3⟩ := hE3.one
              rw [hu3] at hE3
              simp [dw0, dw1, dw2, dw3, f1, f4, f5, f6, f7, o1, o2, o69, o68, t4, hc, hw, hob3, hcnt3, hu3, gs, bys, len_byL, ← hn]
              refine ⟨by first | kernel_rfl | rfl, ?_⟩
              try simp [f1, f4, f5, f6, f7, o1, o2, o69, o68, t4, hc, hw, hob3, hcnt3, hu3, gs, bys, len_byL, ← hn]
              exact keep2 (by simpa [edL, edC] using hE3) (fun g => by simp) fun g => by simp
          · rintro S hc ⟨f1, f4, f5, f6, f7, o1, o2, o69, t4, vE, o68, hE⟩
            have stop2 : (max 4 (min l.length 8) < l.length ∧ ¬ ((max 4 (min l.length 8) : Nat) : Int) ≤ 7) ∨ ¬ max 4 (min l.length 8) < l.length := by omega
            have eE : grE g l (max 4 (min l.length 8) - 4) = (growG g l).edges := by
              show _ = grE g l (gec g l)
              congr 1
              rw [z2]
              omega
            have eN : grn g l = (growG g l).nodes := rfl
            rw [eE] at hE
            rw [eN] at t4
            generalize growG g l = GG at hE t4 ⊢
            generalize grM g l = MM at o69 ⊢
            generalize max 4 (min l.length 8) = my at hc stop2
            rcases stop2 with ⟨y1, y2⟩ | y1 <;> rcases outL2 hE with ⟨u1, u2, u3⟩ | ⟨u1, gE, u3, u4⟩ | ⟨u1, gE, u3, u4⟩
            all_goals
              subst u3
              first
              | simp [dw0, dw1, dw2, dw3, f1, f4, f5, f6, f7, o1, o2, o69, o68, t4, hc, bys, len_byL, y1, y2]
              | simp [dw0, dw1, dw2, dw3, f1, f4, f5, f6, f7, o1, o2, o69, o68, t4, hc, bys, len_byL, y1]
              refine ⟨by first | kernel_rfl | rfl, ?_⟩
              first
              | simp [u4, t4, untreeI, untreeT]
              | simp [u1, u2, t4, untreeI, untreeT]
              try omega
      · subst t3
        have zn : ¬ (grn g l).length = 0 := by omega
        have z2 : gec g l = min l.length 8 - 4 := by rw [gec, if_neg zn]
        have zp : (0 : Int) < (grn g l).length := by omega
        rcases stop with ⟨y1, y2⟩ | y1
        all_goals
          first
          | simp [f1, f4, f5, f6, f7, o1, o2, o69, o68, hc, bys, len_byL, y1, y2]
          | simp [f1, f4, f5, f6, f7, o1, o2, o69, o68, hc, bys, len_byL, y1]
          refine loopW_from 9 4 (max 4 (min l.length 8)) (fun k S => S.fr 1 = .one (.t (bys l)) ∧ S.fr 4 = .one (.ptr (1, 0) 0) ∧ S.fr 5 = .one (.ptr (2, 0) 0) ∧ S.fr 6 = .one (.ptr (68, 0) 0) ∧ S.fr 7 = .one (.ptr (69, 0) 0) ∧
        S.ob (1, 0) = some (bx 25 [.nil, .nil]) ∧ S.ob (2, 0) = some (bx 27 [.nil, .nil]) ∧ S.ob (69, 0) = some (bx 27 [.t (ints (grM g l).nodes), .t (ints (grM g l).edges)]) ∧
        S.ob (586, gN) = some ⟨true, true, false, 1, (grn g l).length, 3, ((grn g l).map (.int .i64)).map .t⟩ ∧
        ∃ vE, S.ob (68, 0) = some (bx 25 [.row (586, gN), vE]) ∧ outL [71, 862] 76 3 (grE g l (k - 4)).length (edL (grE g l (k - 4))) S.ob (.one vE)) (by omega) (by omega) ?_ ?_ ?_
          · simp [f1, f4, f5, f6, f7, o1, o2, o69, o68, hc, bys, len_byL, ge0, t4]
            exact outL.wide (by simpa using hE) (by simp)
          · rintro k S hk1 hlt hw hc ⟨f1, f4, f5, f6, f7, o1, o2, o69, t4, vE, o68, hE⟩
            obtain ⟨j, hj⟩ : ∃ j, k = j + 4 := ⟨k - 4, by omega⟩
            have k1 : k < l.length := by omega
            have k2 : (k : Int) ≤ 7 := by omega
            obtain ⟨v, hv⟩ : ∃ v, v = byth l k := ⟨_, rfl⟩
            have v1' : v < 256 := by rw [hv]; exact byth_small hs k
            obtain ⟨n, hn⟩ : ∃ n, n = (grn g l).length := ⟨_, rfl⟩
            obtain ⟨p, hp⟩ : ∃ p, p = v % 2 := ⟨_, rfl⟩
            obtain ⟨q, hq⟩ : ∃ q, q = v / 2 := ⟨_, rfl⟩
            obtain ⟨s, hs'⟩ : ∃ s, s = v / 16 := ⟨_, rfl⟩
            obtain ⟨a, ha⟩ : ∃ a, a = q % n := ⟨_, rfl⟩
            obtain ⟨b, hb⟩ : ∃ b, b = s % n := ⟨_, rfl⟩
            have e1 : (v : Int).tmod 2 = (p : Int) := by rw [hp]; exact rem2
            have e2 : (v : Int).tdiv 2 = (q : Int) := by rw [hq]; exact quo2
            have e3 : (v : Int).tdiv 16 = (s : Int) := by rw [hs']; exact quo16
            have e4 : (q : Int).tmod (n : Int) = (a : Int) := by rw [ha]; exact nat_rem
            have e5 : (s : Int).tmod (n : Int) = (b : Int) := by rw [hb]; exact nat_rem
            have w0 : IntKind.i64.wrap (v : Int) = v := by rw [wrap64_id] <;> omega
            have w1 : IntKind.u8.wrap (q : Int) = q := wrap8 (by omega)
            have w2 : IntKind.i64.wrap (q : Int) = q := by rw [wrap64_id] <;> omega
            have w3 : IntKind.u8.wrap (s : Int) = s := wrap8 (by omega)
            have w4 : IntKind.i64.wrap (s : Int) = s := by rw [wrap64_id] <;> omega
            have dv := drop_byL k1
            rw [← hv] at dv
            have gx : geX l n j = ⟨(p : Nat), (a : Nat), (b : Nat)⟩ := by simp only [geX, ← hj, ← hv, ← hp, ← hq, ← hs', ← ha, ← hb]
            have gs : grE g l (k - 3) = grE g l (k - 4) ++ [⟨(p : Nat), (a : Nat), (b : Nat)⟩] := by
              rw [show k - 3 = j + 1 by omega, show k - 4 = j by omega, grE_succ, ← hn, gx]
            have cl := grE_len (g := g) (l := l) (k := k - 4)
            have zn' : ¬ n = 0 := by omega
            have zp' : 0 < n := by omega
            rw [← hn] at t4
            rcases outL2 hE with ⟨u1, u2, u3⟩ | ⟨u1, gE, u3, u4⟩ | ⟨u1, gE, u3, u4⟩
            all_goals
              subst u3
              simp [dw0, dw1, dw2, dw3, f1, f4, f5, f6, f7, o1, o2, o69, o68, t4, hc, bys, len_byL, k1, k2, dv, zn', zp', e1, e2, e3, e4, e5, w0, w1, w2, w3, w4]
              refine kApp_growL (nm := 862) (ts := [.int .i64 p, .int .i64 a, .int .i64 b]) (by simp) rfl (keep2 hE (fun g => by simp) fun g => by simp) rfl (by omega) (by omega) fun E3 hE3 hob3 hcnt3 => ?_
              obtain ⟨u, hu3⟩ := hE3.one
              rw [hu3] at hE3
              simp [dw0, dw1, dw2, dw3, f1, f4, f5, f6, f7, o1, o2, o69, o68, t4, hc, hw, hob3, hcnt3, hu3, gs, bys, len_byL, ← hn]
              refine ⟨by first | kernel_rfl | rfl, ?_⟩
              try simp [f1, f4, f5, f6, f7, o1, o2, o69, o68, t4, hc, hw, hob3, hcnt3, hu3, gs, bys, len_byL, ← hn]
              exact keep2 (by simpa [edL, edC] using hE3) (fun g => by simp) fun g => by simp
          · rintro S hc ⟨f1, f4, f5, f6, f7, o1, o2, o69, t4, vE, o68, hE⟩
            have stop2 : (max 4 (min l.length 8) < l.length ∧ ¬ ((max 4 (min l.length 8) : Nat) : Int) ≤ 7) ∨ ¬ max 4 (min l.length 8) < l.length := by omega
            have eE : grE g l (max 4 (min l.length 8) - 4) = (growG g l).edges := by
              show _ = grE g l (gec g l)
              congr 1
              rw [z2]
              omega
            have eN : grn g l = (growG g l).nodes := rfl
            rw [eE] at hE
            rw [eN] at t4
            generalize growG g l = GG at hE t4 ⊢
            generalize grM g l = MM at o69 ⊢
            generalize max 4 (min l.length 8) = my at hc stop2
            rcases stop2 with ⟨y1, y2⟩ | y1 <;> rcases outL2 hE with ⟨u1, u2, u3⟩ | ⟨u1, gE, u3, u4⟩ | ⟨u1, gE, u3, u4⟩
            all_goals
              subst u3
              first
              | simp [dw0, dw1, dw2, dw3, f1, f4, f5, f6, f7, o1, o2, o69, o68, t4, hc, bys, len_byL, y1, y2]
              | simp [dw0, dw1, dw2, dw3, f1, f4, f5, f6, f7, o1, o2, o69, o68, t4, hc, bys, len_byL, y1]
              refine ⟨by first | kernel_rfl | rfl, ?_⟩
              first
              | simp [u4, t4, untreeI, untreeT]
              | simp [u1, u2, t4, untreeI, untreeT]
              try omega
end Go.Proofs.YthcnpnogfblkcaaGreat

/- Contracts: the reference's standard pushouts. -/
namespace Go.Proofs.YthcnpnogfblkcaaGreat
open Abs
set_option linter.unusedSimpArgs false
set_option linter.unusedVariables false
attribute [local simp] rn0 rn1 rn2 rn3 rn4 rn5 rn6 rn7 evOp nests Arg.ev St.val St.set St.new sliceOf binInt2 binInt AV.cells rdAt St.live retOf resOf resAll treeOf treeCell treeCells treeTups untree frameOf TV.av TR.av ints edgs prs fillV splice intsOf trees V1.tree bx Gr.v Pa.v opRd opWr opNew opNewR opArgs argsRd argRd Arg.rd AV.refs V1.refs refsL dstL

/-! ### The types of what a span identifies -/
theorem nth_appL {a b : List Int} {i : Nat} (h : i < a.length) : nth (a ++ b) i = nth a i := by
  rw [nth_eq (by simp; omega), nth_eq h, List.getElem_append_left h]
theorem nth_appR {a b : List Int} {i : Nat} (h : i < b.length) : nth (a ++ b) (a.length + i) = nth b i := by
  rw [nth_eq (by simp; omega), nth_eq h, List.getElem_append_right (by omega)]
  simp
theorem eth_appL {a b : List Ed} {i : Nat} (h : i < a.length) : eth (a ++ b) i = eth a i := by
  rw [eth_eq (by simp; omega), eth_eq h, List.getElem_append_left h]
theorem eth_appR {a b : List Ed} {i : Nat} (h : i < b.length) : eth (a ++ b) (a.length + i) = eth b i := by
  rw [eth_eq (by simp; omega), eth_eq h, List.getElem_append_right (by omega)]
  simp
theorem eth_map {b : List Ed} {g : Ed → Ed} {i : Nat} (h : i < b.length) : eth (b.map g) i = g (eth b i) := by
  rw [eth_eq (by simpa using h), eth_eq h]
  simp
theorem glN_mem {s : Sp} (ok : SpOk s) {q : Int × Int} (h : q ∈ glN s) : ∃ i a b : Nat, i < s.A.nodes.length ∧ nth s.F.nodes i = a ∧ nth s.G.nodes i = b ∧ a < s.B.nodes.length ∧ b < s.C.nodes.length ∧ q = ((a : Int), ((s.B.nodes.length + b : Nat) : Int)) := by
  simp only [glN, pgK, List.mem_map, List.mem_range] at h
  obtain ⟨i, hi, rfl⟩ := h
  have l1 := ok.F.ln
  have l2 := ok.G.ln
  obtain ⟨a1, a2, _⟩ := ok.F.n i (by omega)
  obtain ⟨b1, b2, _⟩ := ok.G.n i (by omega)
  obtain ⟨a, ha⟩ := Int.eq_ofNat_of_zero_le a1
  obtain ⟨b, hb⟩ := Int.eq_ofNat_of_zero_le b1
  refine ⟨i, a, b, by omega, ha, hb, by omega, by omega, ?_⟩
  simp only [ha, hb, Int.toNat_natCast, unL, unR]
  rw [numL_nth (by omega), numL_nth (by omega)]
  simp
theorem glE_mem {s : Sp} (ok : SpOk s) {q : Int × Int} (h : q ∈ glE s) : ∃ i a b : Nat, i < s.A.edges.length ∧ nth s.F.edges i = a ∧ nth s.G.edges i = b ∧ a < s.B.edges.length ∧ b < s.C.edges.length ∧ q = ((a : Int), ((s.B.edges.length + b : Nat) : Int)) := by
  simp only [glE, pgK, List.mem_map, List.mem_range] at h
  obtain ⟨i, hi, rfl⟩ := h
  have l1 := ok.F.le
  have l2 := ok.G.le
  obtain ⟨a1, a2, _⟩ := ok.F.e i (by omega)
  obtain ⟨b1, b2, _⟩ := ok.G.e i (by omega)
  obtain ⟨a, ha⟩ := Int.eq_ofNat_of_zero_le a1
  obtain ⟨b, hb⟩ := Int.eq_ofNat_of_zero_le b1
  refine ⟨i, a, b, by omega, ha, hb, by omega, by omega, ?_⟩
  simp only [ha, hb, Int.toNat_natCast, unL, unR]
  rw [numL_nth (by omega), numL_nth (by omega)]
  simp
theorem glN_at {s : Sp} (ok : SpOk s) {i a b : Nat} (hi : i < s.A.nodes.length) (ha : nth s.F.nodes i = a) (hb : nth s.G.nodes i = b) : ((a : Int), ((s.B.nodes.length + b : Nat) : Int)) ∈ glN s := by
  simp only [glN, pgK, List.mem_map, List.mem_range]
  have l1 := ok.F.ln
  obtain ⟨a1, a2, _⟩ := ok.F.n i hi
  obtain ⟨b1, b2, _⟩ := ok.G.n i hi
  refine ⟨i, by omega, ?_⟩
  simp only [ha, hb, Int.toNat_natCast, unL, unR]
  rw [numL_nth (by omega), numL_nth (by omega)]
  simp
theorem glE_at {s : Sp} (ok : SpOk s) {i a b : Nat} (hi : i < s.A.edges.length) (ha : nth s.F.edges i = a) (hb : nth s.G.edges i = b) : ((a : Int), ((s.B.edges.length + b : Nat) : Int)) ∈ glE s := by
  simp only [glE, pgK, List.mem_map, List.mem_range]
  have l1 := ok.F.le
  obtain ⟨a1, a2, _⟩ := ok.F.e i hi
  obtain ⟨b1, b2, _⟩ := ok.G.e i hi
  refine ⟨i, by omega, ?_⟩
  simp only [ha, hb, Int.toNat_natCast, unL, unR]
  rw [numL_nth (by omega), numL_nth (by omega)]
  simp
/-- Images of a node are in one class. -/
theorem poP_pair {s : Sp} (ok : SpOk s) {i a b : Nat} (hi : i < s.A.nodes.length) (ha : nth s.F.nodes i = a) (hb : nth s.G.nodes i = b) : nth (poP s) a = nth (poP s) (s.B.nodes.length + b) :=
  genL_pair (glN_in ok) (glN_at ok hi ha hb)
theorem poQ_pair {s : Sp} (ok : SpOk s) {i a b : Nat} (hi : i < s.A.edges.length) (ha : nth s.F.edges i = a) (hb : nth s.G.edges i = b) : nth (poQ s) a = nth (poQ s) (s.B.edges.length + b) :=
  genL_pair (glE_in ok) (glE_at ok hi ha hb)
theorem poP_len {s : Sp} : (poP s).length = s.B.nodes.length + s.C.nodes.length := by rw [poP, genL_len, poU, unG_nlen]
theorem poQ_len {s : Sp} : (poQ s).length = s.B.edges.length + s.C.edges.length := by rw [poQ, genL_len, poU, unG_elen]
theorem poU_nL {s : Sp} {i : Nat} (h : i < s.B.nodes.length) : nth (poU s).nodes i = nth s.B.nodes i := nth_appL h
theorem poU_nR {s : Sp} {i : Nat} (h : i < s.C.nodes.length) : nth (poU s).nodes (s.B.nodes.length + i) = nth s.C.nodes i := nth_appR h
theorem poU_eL {s : Sp} {i : Nat} (h : i < s.B.edges.length) : eth (poU s).edges i = eth s.B.edges i := eth_appL h
theorem poU_eR {s : Sp} {i : Nat} (h : i < s.C.edges.length) : eth (poU s).edges (s.B.edges.length + i) = shiftE s.B.nodes.length (eth s.C.edges i) := by
  rw [poU, unG]
  simp only
  rw [eth_appR (by simpa using h), eth_map h]
theorem poN_const {s : Sp} (ok : SpOk s) : ∀ i, i < (poU s).nodes.length → nth (poU s).nodes (nth (poP s) i).toNat = nth (poU s).nodes i := fun i hi =>
  genL_inv (f := nth (poU s).nodes) (glN_in ok) (fun q hq => by
    obtain ⟨k, a, b, hk, ha, hb, ha2, hb2, rfl⟩ := glN_mem ok hq
    simp only [Int.toNat_natCast]
    rw [poU_nL ha2, poU_nR hb2]
    have h1 := (ok.F.n k hk).2.2
    have h2 := (ok.G.n k hk).2.2
    rw [ha, Int.toNat_natCast] at h1
    rw [hb, Int.toNat_natCast] at h2
    rw [h1, h2]) hi
theorem poE_const {s : Sp} (ok : SpOk s) : ∀ i, i < (poU s).edges.length → qE (poU s) (poP s) (nth (poQ s) i).toNat = qE (poU s) (poP s) i := fun i hi =>
  genL_inv (f := qE (poU s) (poP s)) (glE_in ok) (fun q hq => by
    obtain ⟨k, a, b, hk, ha, hb, ha2, hb2, rfl⟩ := glE_mem ok hq
    simp only [Int.toNat_natCast]
    obtain ⟨_, _, t1, u1, v1⟩ := ok.F.e k hk
    obtain ⟨_, _, t2, u2, v2⟩ := ok.G.e k hk
    rw [ha, Int.toNat_natCast] at t1 u1 v1
    rw [hb, Int.toNat_natCast] at t2 u2 v2
    obtain ⟨_, _, g1, g2, g3, g4⟩ := ok.F.ga.edges _ (eth_mem hk)
    obtain ⟨_, _, p1, p2, p3, p4⟩ := ok.F.gb.edges _ (eth_mem ha2)
    obtain ⟨_, _, q1, q2, q3, q4⟩ := ok.G.gb.edges _ (eth_mem hb2)
    have l := poP_len (s := s)
    obtain ⟨x, hx⟩ := Int.eq_ofNat_of_zero_le p1
    obtain ⟨y, hy⟩ := Int.eq_ofNat_of_zero_le p3
    obtain ⟨z, hz⟩ := Int.eq_ofNat_of_zero_le q1
    obtain ⟨w, hw⟩ := Int.eq_ofNat_of_zero_le q3
    have c1 := poP_pair ok (i := (eth s.A.edges k).f.toNat) (a := x) (b := z) (by omega) (by rw [u1, hx]) (by rw [u2, hz])
    have c2 := poP_pair ok (i := (eth s.A.edges k).g.toNat) (a := y) (b := w) (by omega) (by rw [v1, hy]) (by rw [v2, hw])
    have z1 : ((z : Int) + s.B.nodes.length).toNat = s.B.nodes.length + z := by omega
    have z2 : ((w : Int) + s.B.nodes.length).toNat = s.B.nodes.length + w := by omega
    rw [qE, qE, poU_eL ha2, poU_eR hb2]
    simp only [shiftE, hx, hy, hz, hw, Int.toNat_natCast, z1, z2, ← t1, ← t2]
    rw [quotL_nth (by omega), quotL_nth (by omega), quotL_nth (by omega), quotL_nth (by omega), c1, c2]) hi

def c_glue10 : MFunc := ⟨42, [.cell 6 true 2, .cell 7 true 2], .seq (.region [⟨some 3, .box 0 25 (.tmp 0), none⟩, ⟨some 4, .box 1 27 (.tmp 1), none⟩, ⟨some 5, .box 2 27 (.tmp 2), none⟩, ⟨some 6, .alloc 3 25 [.nil, .nil], none⟩, ⟨some 7, .alloc 4 27 [.nil, .nil], none⟩]) (.seq (.draw [[], [0], [1], [], [3], [], [5], [4, 6], [2, 7, 7], [8], [9], [9], [10, 8, 0, 1, 2, 3, 4, 5, 6, 7, 8, 9, 10], [11, 12, 0, 1, 2, 3, 4, 5, 6, 7, 8, 9, 10, 11, 12]] [⟨some 13, .fieldA 0 (.tmp 3), none⟩, ⟨some 14, .load false 1 (.tmp 13), none⟩, ⟨some 15, .len (.tmp 14), none⟩, ⟨some 16, .fieldA 0 (.tmp 4), none⟩, ⟨some 17, .load false 1 (.tmp 16), none⟩, ⟨some 18, .fieldA 0 (.tmp 5), none⟩, ⟨some 19, .load false 1 (.tmp 18), none⟩, ⟨some 20, .call (.c (.one (.fn 131 []))) 71 [.tmp 17, .tmp 19], none⟩, ⟨some 21, .call (.c (.one (.fn 130 []))) 72 [.tmp 15, .tmp 20], none⟩, ⟨some 12, .mv (.tmp 21), none⟩, ⟨some 22, .extract (.tmp 12) 0, none⟩, ⟨some 23, .extract (.tmp 12) 1, none⟩, ⟨some 8, .mv (.tmp 22), none⟩, ⟨some 9, .mv (.tmp 23), none⟩]) (.seq (.draw [[], [0], [1], [], [3], [], [5], [4, 6], [2, 7, 7], [8], [9], [9], [10, 8, 0, 1, 2, 3, 4, 5, 6, 7, 8, 9, 10], [11, 12, 0, 1, 2, 3, 4, 5, 6, 7, 8, 9, 10, 11, 12]] [⟨some 25, .fieldA 1 (.tmp 3), none⟩, ⟨some 26, .load false 1 (.tmp 25), none⟩, ⟨some 27, .len (.tmp 26), none⟩, ⟨some 28, .fieldA 1 (.tmp 4), none⟩, ⟨some 29, .load false 1 (.tmp 28), none⟩, ⟨some 30, .fieldA 1 (.tmp 5), none⟩, ⟨some 31, .load false 1 (.tmp 30), none⟩, ⟨some 32, .call (.c (.one (.fn 131 []))) 135 [.tmp 29, .tmp 31], none⟩, ⟨some 33, .call (.c (.one (.fn 130 []))) 136 [.tmp 27, .tmp 32], none⟩, ⟨some 24, .mv (.tmp 33), none⟩, ⟨some 34, .extract (.tmp 24) 0, none⟩, ⟨some 35, .extract (.tmp 24) 1, none⟩, ⟨some 10, .mv (.tmp 34), none⟩, ⟨some 11, .mv (.tmp 35), none⟩]) (.seq (.region [⟨some 36, .load true 2 (.tmp 3), none⟩, ⟨some 37, .mv (.tmp 8), none⟩, ⟨some 38, .mv (.tmp 10), none⟩, ⟨some 39, .call (.c (.one (.fn 132 []))) 195 [.tmp 36, .tmp 37, .tmp 38], none⟩, ⟨some 40, .extract (.tmp 39) 0, none⟩, ⟨some 41, .extract (.tmp 39) 1, none⟩, ⟨none, .store 2 (.tmp 6) (.tmp 40), none⟩, ⟨none, .store 2 (.tmp 7) (.tmp 41), none⟩]) .ret)))⟩
theorem k_glue10 : cFn Tryz.prog Tryz.f94 = some c_glue10 := by kernel_rfl
set_option maxHeartbeats 1000000 in
theorem glue10_ok (s : Sp) (h : TinySp s) (ok : SpOk s) (h1 : unErr s.B s.C = 0) : CallOK Tryz.prog 94 [(poU s).v, (thenP s.F (unL s.B)).v, (thenP s.G (unR s.B s.C)).v] (.tup [(poG s).v, (poM s).v]) := by
  refine callOK_W (callS_W (by kernel_rfl) Tryz.func94 k_glue10 (callable_of Tryz.func94 (by kernel_rfl)) (by simp [c_glue10]) ?_)
  have gu := unG_ok h1
  have b1 := gu.n
  have b2 := gu.e
  have l1 := ok.F.ln
  have l2 := ok.G.ln
  have l3 := ok.F.le
  have l4 := ok.G.le
  have a1 := ok.F.ga.n
  have a2 := ok.F.ga.e
  have z1 : zpK (thru s.F.nodes (unL s.B).nodes) (thru s.G.nodes (unR s.B s.C).nodes) s.F.nodes.length = glN s := zpK_thru (by omega) (by omega)
  have z2 : zpK (thru s.F.edges (unL s.B).edges) (thru s.G.edges (unR s.B s.C).edges) s.F.edges.length = glE s := zpK_thru (by omega) (by omega)
  have y1 := thru_len (l := s.F.nodes) (b := (unL s.B).nodes)
  have y2 := thru_len (l := s.G.nodes) (b := (unR s.B s.C).nodes)
  have y3 := thru_len (l := s.F.edges) (b := (unL s.B).edges)
  have y4 := thru_len (l := s.G.edges) (b := (unR s.B s.C).edges)
  have r1 := callOK_of_row (pairs10_row (thru s.F.nodes (unL s.B).nodes) (thru s.G.nodes (unR s.B s.C).nodes) (by omega) (by omega))
  have r2 := callOK_of_row (pairs10_row (thru s.F.edges (unL s.B).edges) (thru s.G.edges (unR s.B s.C).edges) (by omega) (by omega))
  rw [y1, z1] at r1
  rw [y3, z2] at r2
  have tn : tiny (glN s).length := by simp only [glN, pgK_len, tiny]; omega
  have te : tiny (glE s).length := by simp only [glE, pgK_len, tiny]; omega
  simp [c_glue10, dw0, dw1, dw2, dw3, thenP]
  refine dCall_ok r1 ?_ ?_ ?_
  · rfl
  · rfl
  simp [dw0, dw1, dw2, dw3]
  refine dCall_ok (gen02_ok (poU s).nodes.length (glN s) (by simp only [poU]; omega) tn (glN_in ok)) ?_ ?_ ?_
  · rfl
  · rfl
  simp [dw0, dw1, dw2, dw3]
  refine ⟨rfl, ?_⟩
  refine dCall_ok r2 ?_ ?_ ?_
  · rfl
  · rfl
  simp [dw0, dw1, dw2, dw3]
  refine dCall_ok (gen02_ok (poU s).edges.length (glE s) (by simp only [poU]; omega) te (glE_in ok)) ?_ ?_ ?_
  · rfl
  · rfl
  simp [dw0, dw1, dw2, dw3]
  refine ⟨rfl, ?_⟩
  refine callS_tree (quot10_ok (poU s) (poP s) (poQ s) gu (poP_flat ok) (poQ_flat ok) (by rw [poP, genL_len]) (by rw [poQ, genL_len]) (poN_const ok) (poE_const ok)) ?_ ?_ ?_
  · rfl
  · rfl
  have eG : quoG (poU s) (poP s) (poQ s) = poG s := rfl
  have eM : quoM (poP s) (poQ s) = poM s := rfl
  rw [eG, eM]
  simp

def c_of10 : MFunc := ⟨57, [.cell 2 true 2, .cell 3 true 2, .cell 4 true 2, .tmp 5], .seq (.region [⟨some 1, .box 0 47 (.tmp 0), none⟩, ⟨some 2, .alloc 1 25 [.nil, .nil], none⟩, ⟨some 3, .alloc 2 27 [.nil, .nil], none⟩, ⟨some 4, .alloc 3 27 [.nil, .nil], none⟩, ⟨some 5, .mv (.c (.one (.t (.int .i64 0)))), none⟩]) (.seq (.seq (.region [⟨some 13, .load true 10 (.tmp 1), none⟩, ⟨some 14, .call (.c (.one (.fn 93 []))) 65 [.tmp 13], none⟩, ⟨some 6, .mv (.tmp 14), none⟩]) (.seq (.region [⟨some 15, .mv (.tmp 6), none⟩, ⟨some 16, .bin .neq (.tmp 15) (.c (.one (.t (.int .i64 0)))), none⟩]) (.cond (.tmp 16) (.seq (.region [⟨some 17, .build [.nil, .nil] [], none⟩, ⟨some 18, .build [.nil, .nil] [], none⟩, ⟨some 19, .build [.nil, .nil] [], none⟩, ⟨some 20, .mv (.tmp 6), none⟩, ⟨none, .store 2 (.tmp 2) (.tmp 17), none⟩, ⟨none, .store 2 (.tmp 3) (.tmp 18), none⟩, ⟨none, .store 2 (.tmp 4) (.tmp 19), none⟩, ⟨some 5, .mv (.tmp 20), none⟩]) .ret) .skip))) (.seq (.region [⟨some 22, .fieldA 2 (.tmp 1), none⟩, ⟨some 23, .load true 2 (.tmp 22), none⟩, ⟨some 24, .fieldA 4 (.tmp 1), none⟩, ⟨some 25, .load true 2 (.tmp 24), none⟩, ⟨some 26, .call (.c (.one (.fn 74 []))) 260 [.tmp 23, .tmp 25], none⟩, ⟨some 21, .mv (.tmp 26), none⟩, ⟨some 27, .extract (.tmp 21) 0, none⟩, ⟨some 28, .extract (.tmp 21) 1, none⟩, ⟨some 29, .extract (.tmp 21) 2, none⟩, ⟨some 30, .extract (.tmp 21) 3, none⟩, ⟨some 7, .alloc 266 25 [.nil, .nil], none⟩, ⟨some 8, .alloc 267 27 [.nil, .nil], none⟩, ⟨some 9, .alloc 268 27 [.nil, .nil], none⟩, ⟨none, .store 2 (.tmp 7) (.tmp 27), none⟩, ⟨none, .store 2 (.tmp 8) (.tmp 28), none⟩, ⟨none, .store 2 (.tmp 9) (.tmp 29), none⟩, ⟨some 10, .mv (.tmp 30), none⟩]) (.seq (.seq (.region [⟨some 31, .mv (.tmp 10), none⟩, ⟨some 32, .bin .neq (.tmp 31) (.c (.one (.t (.int .i64 0)))), none⟩]) (.cond (.tmp 32) (.seq (.region [⟨some 33, .build [.nil, .nil] [], none⟩, ⟨some 34, .build [.nil, .nil] [], none⟩, ⟨some 35, .build [.nil, .nil] [], none⟩, ⟨some 36, .mv (.tmp 10), none⟩, ⟨none, .store 2 (.tmp 2) (.tmp 33), none⟩, ⟨none, .store 2 (.tmp 3) (.tmp 34), none⟩, ⟨none, .store 2 (.tmp 4) (.tmp 35), none⟩, ⟨some 5, .mv (.tmp 36), none⟩]) .ret) .skip)) (.seq (.draw [[], [], [1], [], [2, 3], [], [5], [], [6, 7, 4], [0, 4, 8, 8], [9], [10], [10], [], [], [13, 11, 9, 0, 1, 2, 3, 4, 5, 6, 7, 8, 9, 10, 11, 13, 14], [14, 12, 15, 0, 1, 2, 3, 4, 5, 6, 7, 8, 9, 10, 11, 12, 13, 14, 15]] [⟨some 38, .load true 2 (.tmp 7), none⟩, ⟨some 39, .fieldA 6 (.tmp 1), none⟩, ⟨some 40, .load true 2 (.tmp 39), none⟩, ⟨some 41, .load true 2 (.tmp 8), none⟩, ⟨some 42, .call (.c (.one (.fn 39 []))) 452 [.tmp 40, .tmp 41], none⟩, ⟨some 43, .fieldA 8 (.tmp 1), none⟩, ⟨some 44, .load true 2 (.tmp 43), none⟩, ⟨some 45, .load true 2 (.tmp 9), none⟩, ⟨some 46, .call (.c (.one (.fn 39 []))) 456 [.tmp 44, .tmp 45], none⟩, ⟨some 47, .call (.c (.one (.fn 94 []))) 457 [.tmp 38, .tmp 42, .tmp 46], none⟩, ⟨some 37, .mv (.tmp 47), none⟩, ⟨some 48, .extract (.tmp 37) 0, none⟩, ⟨some 49, .extract (.tmp 37) 1, none⟩, ⟨some 11, .alloc 461 25 [.nil, .nil], none⟩, ⟨some 12, .alloc 462 27 [.nil, .nil], none⟩, ⟨none, .store 2 (.tmp 11) (.tmp 48), none⟩, ⟨none, .store 2 (.tmp 12) (.tmp 49), none⟩]) (.seq (.draw [[], [], [], [1, 2], [], [], [4, 5, 3], [0, 6, 0], [3, 7, 0, 1, 2, 3, 7], [6, 8, 0, 1, 2, 3, 4, 5, 6, 7, 8], [9, 0, 1, 2, 3, 4, 5, 6, 7, 8, 9]] [⟨some 50, .load true 2 (.tmp 11), none⟩, ⟨some 51, .load true 2 (.tmp 8), none⟩, ⟨some 52, .load true 2 (.tmp 12), none⟩, ⟨some 53, .call (.c (.one (.fn 39 []))) 515 [.tmp 51, .tmp 52], none⟩, ⟨some 54, .load true 2 (.tmp 9), none⟩, ⟨some 55, .load true 2 (.tmp 12), none⟩, ⟨some 56, .call (.c (.one (.fn 39 []))) 518 [.tmp 54, .tmp 55], none⟩, ⟨none, .store 2 (.tmp 2) (.tmp 50), none⟩, ⟨none, .store 2 (.tmp 3) (.tmp 53), none⟩, ⟨none, .store 2 (.tmp 4) (.tmp 56), none⟩, ⟨some 5, .mv (.c (.one (.t (.int .i64 0)))), none⟩]) .ret)))))⟩
theorem k_of10 : cFn Tryz.prog Tryz.f53 = some c_of10 := by kernel_rfl
set_option maxHeartbeats 1000000 in
theorem of10_ok (s : Sp) (h : TinySp s) : CallOK Tryz.prog 53 [s.v] (gluT (poR s)) := by
  refine callOK_W (callS_W (by kernel_rfl) Tryz.func53 k_of10 (callable_of Tryz.func53 (by kernel_rfl)) (by simp [c_of10]) ?_)
  simp [c_of10, Sp.v, Sp.cs]
  refine callS_tree (span10_ok s h) ?_ ?_ ?_
  · rfl
  · rfl
  by_cases h1 : spErr s = 0
  case neg =>
    have e : poR s = (⟨[], []⟩, ⟨[], []⟩, ⟨[], []⟩, spErr s) := by simp [poR, poErr, h1]
    simp [h1, gluT, e, edL]
  have ok := spErr_ok h1
  simp [h1]
  refine callS_tree (union05_ok s.B s.C h.B h.C) ?_ ?_ ?_
  · rfl
  · simp [AV.still, V1.still]
  by_cases h2 : unErr s.B s.C = 0
  case neg =>
    have e : poR s = (⟨[], []⟩, ⟨[], []⟩, ⟨[], []⟩, unErr s.B s.C) := by simp [poR, poErr, h1, h2]
    simp [unT, h2, gluT, e, edL]
  have e : poR s = (poG s, poI s, poJ s, 0) := by simp [poR, poErr, h1, h2]
  simp [dw0, dw1, dw2, dw3, unT, h2]
  have f1 : FitsP s.F (unL s.B) := ⟨fun x hx => by have := ok.F.rn x hx; simp only [unL, numL_len]; exact this, fun x hx => by have := ok.F.re x hx; simp only [unL, numL_len]; exact this⟩
  have f2 : FitsP s.G (unR s.B s.C) := ⟨fun x hx => by have := ok.G.rn x hx; simp only [unR, numL_len]; exact this, fun x hx => by have := ok.G.re x hx; simp only [unR, numL_len]; exact this⟩
  refine dCall_ok (then6_ok s.F (unL s.B) h.F f1) ?_ ?_ ?_
  · rfl
  · rfl
  simp [dw0, dw1, dw2, dw3]
  refine dCall_ok (then6_ok s.G (unR s.B s.C) h.G f2) ?_ ?_ ?_
  · rfl
  · rfl
  simp [dw0, dw1, dw2, dw3]
  refine dCall_ok (glue10_ok s h ok h2) ?_ ?_ ?_
  · rfl
  · rfl
  simp [dw0, dw1, dw2, dw3]
  refine ⟨rfl, ?_⟩
  refine dCall_ok (then6_ok (unL s.B) (poM s) (tinyL h.B) fitL) ?_ ?_ ?_
  · rfl
  · rfl
  simp [dw0, dw1, dw2, dw3]
  refine dCall_ok (then6_ok (unR s.B s.C) (poM s) (tinyR h.C) fitR) ?_ ?_ ?_
  · rfl
  · rfl
  simp [dw0, dw1, dw2, dw3, gluT, e, poI, poJ]
  rfl

def c_cocone : MFunc := ⟨60, [.tmp 8], .seq (.region [⟨some 4, .box 0 47 (.tmp 0), none⟩, ⟨some 5, .box 1 25 (.tmp 1), none⟩, ⟨some 6, .box 2 27 (.tmp 2), none⟩, ⟨some 7, .box 3 27 (.tmp 3), none⟩, ⟨some 8, .mv (.c (.one (.t (.int .i64 0)))), none⟩]) (.seq (.seq (.region [⟨some 16, .load true 10 (.tmp 4), none⟩, ⟨some 17, .call (.c (.one (.fn 93 []))) 65 [.tmp 16], none⟩, ⟨some 9, .mv (.tmp 17), none⟩]) (.seq (.region [⟨some 18, .mv (.tmp 9), none⟩, ⟨some 19, .bin .neq (.tmp 18) (.c (.one (.t (.int .i64 0)))), none⟩]) (.cond (.tmp 19) (.seq (.region [⟨some 20, .mv (.tmp 9), none⟩, ⟨some 8, .mv (.tmp 20), none⟩]) .ret) .skip))) (.seq (.seq (.region [⟨some 21, .fieldA 2 (.tmp 4), none⟩, ⟨some 22, .load true 2 (.tmp 21), none⟩, ⟨some 23, .load true 2 (.tmp 5), none⟩, ⟨some 24, .load true 2 (.tmp 6), none⟩, ⟨some 25, .call (.c (.one (.fn 48 []))) 260 [.tmp 22, .tmp 23, .tmp 24], none⟩, ⟨some 10, .mv (.tmp 25), none⟩]) (.seq (.region [⟨some 26, .mv (.tmp 10), none⟩, ⟨some 27, .bin .neq (.tmp 26) (.c (.one (.t (.int .i64 0)))), none⟩]) (.cond (.tmp 27) (.seq (.region [⟨some 28, .mv (.tmp 10), none⟩, ⟨some 8, .mv (.tmp 28), none⟩]) .ret) .skip))) (.seq (.seq (.region [⟨some 29, .fieldA 4 (.tmp 4), none⟩, ⟨some 30, .load true 2 (.tmp 29), none⟩, ⟨some 31, .load true 2 (.tmp 5), none⟩, ⟨some 32, .load true 2 (.tmp 7), none⟩, ⟨some 33, .call (.c (.one (.fn 48 []))) 452 [.tmp 30, .tmp 31, .tmp 32], none⟩, ⟨some 11, .mv (.tmp 33), none⟩]) (.seq (.region [⟨some 34, .mv (.tmp 11), none⟩, ⟨some 35, .bin .neq (.tmp 34) (.c (.one (.t (.int .i64 0)))), none⟩]) (.cond (.tmp 35) (.seq (.region [⟨some 36, .mv (.tmp 11), none⟩, ⟨some 8, .mv (.tmp 36), none⟩]) .ret) .skip))) (.seq (.seq (.region [⟨some 38, .fieldA 2 (.tmp 4), none⟩, ⟨some 39, .load true 2 (.tmp 38), none⟩, ⟨some 40, .fieldA 4 (.tmp 4), none⟩, ⟨some 41, .load true 2 (.tmp 40), none⟩, ⟨some 42, .call (.c (.one (.fn 74 []))) 644 [.tmp 39, .tmp 41], none⟩, ⟨some 37, .mv (.tmp 42), none⟩, ⟨some 43, .extract (.tmp 37) 0, none⟩, ⟨some 44, .extract (.tmp 37) 1, none⟩, ⟨some 45, .extract (.tmp 37) 2, none⟩, ⟨some 46, .extract (.tmp 37) 3, none⟩, ⟨some 12, .alloc 650 25 [.nil, .nil], none⟩, ⟨some 13, .alloc 651 27 [.nil, .nil], none⟩, ⟨some 14, .alloc 652 27 [.nil, .nil], none⟩, ⟨none, .store 2 (.tmp 12) (.tmp 43), none⟩, ⟨none, .store 2 (.tmp 13) (.tmp 44), none⟩, ⟨none, .store 2 (.tmp 14) (.tmp 45), none⟩, ⟨some 15, .mv (.tmp 46), none⟩]) (.seq (.region [⟨some 47, .mv (.tmp 15), none⟩, ⟨some 48, .bin .neq (.tmp 47) (.c (.one (.t (.int .i64 0)))), none⟩]) (.cond (.tmp 48) (.seq (.region [⟨some 49, .mv (.tmp 15), none⟩, ⟨some 8, .mv (.tmp 49), none⟩]) .ret) .skip))) (.seq (.seq (.draw [[], [0], [], [1, 2], [], [4], [], [5, 6, 3], [3, 7, 7], [8]] [⟨some 50, .fieldA 6 (.tmp 4), none⟩, ⟨some 51, .load true 2 (.tmp 50), none⟩, ⟨some 52, .load true 2 (.tmp 6), none⟩, ⟨some 53, .call (.c (.one (.fn 39 []))) 835 [.tmp 51, .tmp 52], none⟩, ⟨some 54, .fieldA 8 (.tmp 4), none⟩, ⟨some 55, .load true 2 (.tmp 54), none⟩, ⟨some 56, .load true 2 (.tmp 7), none⟩, ⟨some 57, .call (.c (.one (.fn 39 []))) 839 [.tmp 55, .tmp 56], none⟩, ⟨some 58, .call (.c (.one (.fn 23 []))) 840 [.tmp 53, .tmp 57], none⟩, ⟨some 59, .not (.tmp 58), none⟩]) (.cond (.tmp 59) (.seq (.region [⟨some 8, .mv (.c (.one (.t (.int .i64 11)))), none⟩]) .ret) .skip)) (.seq (.region [⟨some 8, .mv (.c (.one (.t (.int .i64 0)))), none⟩]) .ret))))))⟩
theorem k_cocone : cFn Tryz.prog Tryz.f152 = some c_cocone := by kernel_rfl
set_option maxHeartbeats 1000000 in
theorem cocone_ok (s : Sp) (x : Gr) (h k : Pa) (ts : TinySp s) (tx : tinyG x) (th : tinyP h) (tk : tinyP k) : CallOK Tryz.prog 152 [s.v, x.v, h.v, k.v] (.sv (false, [.int .i64 (pmE s x h k)])) := by
  refine callOK_W (callS_W (by kernel_rfl) Tryz.func152 k_cocone (callable_of Tryz.func152 (by kernel_rfl)) (by simp [c_cocone]) ?_)
  simp [c_cocone, Sp.v, Sp.cs]
  refine callS_tree (span10_ok s ts) ?_ ?_ ?_
  · rfl
  · rfl
  by_cases h1 : spErr s = 0
  case neg => simp [h1, pmE]
  have ok := spErr_ok h1
  simp [h1]
  refine callS_tree (rvalid6_ok s.B x h ts.B tx th) ?_ ?_ ?_
  · rfl
  · rfl
  by_cases h2 : morErr s.B x h = 0
  case neg => simp [h1, h2, pmE]
  simp [h2]
  refine callS_tree (rvalid6_ok s.C x k ts.C tx tk) ?_ ?_ ?_
  · rfl
  · rfl
  by_cases h3 : morErr s.C x k = 0
  case neg => simp [h1, h2, h3, pmE]
  have m1 := mor_ok h2
  have m2 := mor_ok h3
  simp [h3]
  refine callS_tree (union05_ok s.B s.C ts.B ts.C) ?_ ?_ ?_
  · rfl
  · simp [AV.still, V1.still]
  by_cases h4 : unErr s.B s.C = 0
  case neg => simp [unT, h1, h2, h3, h4, pmE]
  simp [dw0, dw1, dw2, dw3, unT, h4]
  refine dCall_ok (then6_ok s.F h ts.F (ok.F.fits m1)) ?_ ?_ ?_
  · rfl
  · rfl
  simp [dw0, dw1, dw2, dw3]
  refine dCall_ok (then6_ok s.G k ts.G (ok.G.fits m2)) ?_ ?_ ?_
  · rfl
  · rfl
  simp [dw0, dw1, dw2, dw3]
  refine dCall_ok (rsame_ok (thenP s.F h) (thenP s.G k) (thenP_tiny ts.F) (thenP_tiny ts.G)) ?_ ?_ ?_
  · rfl
  · rfl
  cases hs : sameP (thenP s.F h) (thenP s.G k)
  all_goals
    simp [dw0, dw1, dw2, dw3, pmE, h1, h2, h3, h4, hs]
    rfl

def c_onto : MFunc := ⟨49, [.tmp 10], .seq (.region [⟨some 10, .mv (.c (.one .nil)), none⟩]) (.seq (.region [⟨some 14, .mv (.tmp 0), none⟩, ⟨some 15, .make 65 3 1 8 [.t (.int .i64 0)] (.tmp 14) (.tmp 14), none⟩, ⟨some 11, .mv (.tmp 15), none⟩]) (.seq (.seq (.region [⟨some 12, .mv (.c (.one (.t (.int .i64 0)))), none⟩]) (.block 0 (.loop (.seq (.seq (.region [⟨some 16, .mv (.tmp 12), none⟩, ⟨some 17, .mv (.tmp 1), none⟩, ⟨some 18, .len (.tmp 17), none⟩, ⟨some 19, .bin .lss (.tmp 16) (.tmp 18), none⟩]) (.cond (.tmp 19) .skip (.exit 0))) (.seq (.block 1 (.draw [[], [], [], [1, 2], [3], [], [], [5, 6], [7], [0, 4, 0, 1, 2, 3, 4, 5, 6, 7, 8], [9, 8, 0, 1, 2, 3, 4, 5, 6, 7, 8]] [⟨some 22, .mv (.tmp 11), none⟩, ⟨some 23, .mv (.tmp 1), none⟩, ⟨some 24, .mv (.tmp 12), none⟩, ⟨some 25, .idxA 1 (.tmp 23) (.tmp 24), none⟩, ⟨some 26, .load false 1 (.tmp 25), none⟩, ⟨some 27, .mv (.tmp 2), none⟩, ⟨some 28, .mv (.tmp 12), none⟩, ⟨some 29, .idxA 1 (.tmp 27) (.tmp 28), none⟩, ⟨some 30, .load false 1 (.tmp 29), none⟩, ⟨some 31, .idxA 1 (.tmp 22) (.tmp 26), none⟩, ⟨none, .store 1 (.tmp 31) (.tmp 30), none⟩])) (.region [⟨some 20, .mv (.tmp 12), none⟩, ⟨some 21, .bin .add (.tmp 20) (.c (.one (.t (.int .i64 1)))), none⟩, ⟨some 12, .mv (.tmp 21), none⟩])))))) (.seq (.seq (.region [⟨some 13, .mv (.c (.one (.t (.int .i64 0)))), none⟩]) (.block 2 (.loop (.seq (.seq (.region [⟨some 32, .mv (.tmp 13), none⟩, ⟨some 33, .mv (.tmp 3), none⟩, ⟨some 34, .len (.tmp 33), none⟩, ⟨some 35, .bin .lss (.tmp 32) (.tmp 34), none⟩]) (.cond (.tmp 35) .skip (.exit 2))) (.seq (.block 3 (.draw [[], [], [], [1, 2], [3], [], [], [5, 6], [7], [0, 4, 0, 1, 2, 3, 4, 5, 6, 7, 8], [9, 8, 0, 1, 2, 3, 4, 5, 6, 7, 8]] [⟨some 38, .mv (.tmp 11), none⟩, ⟨some 39, .mv (.tmp 3), none⟩, ⟨some 40, .mv (.tmp 13), none⟩, ⟨some 41, .idxA 1 (.tmp 39) (.tmp 40), none⟩, ⟨some 42, .load false 1 (.tmp 41), none⟩, ⟨some 43, .mv (.tmp 4), none⟩, ⟨some 44, .mv (.tmp 13), none⟩, ⟨some 45, .idxA 1 (.tmp 43) (.tmp 44), none⟩, ⟨some 46, .load false 1 (.tmp 45), none⟩, ⟨some 47, .idxA 1 (.tmp 38) (.tmp 42), none⟩, ⟨none, .store 1 (.tmp 47) (.tmp 46), none⟩])) (.region [⟨some 36, .mv (.tmp 13), none⟩, ⟨some 37, .bin .add (.tmp 36) (.c (.one (.t (.int .i64 1)))), none⟩, ⟨some 13, .mv (.tmp 37), none⟩])))))) (.seq (.region [⟨some 48, .mv (.tmp 11), none⟩, ⟨some 10, .mv (.tmp 48), none⟩]) .ret))))⟩
theorem k_onto : cFn Tryz.prog Tryz.f153 = some c_onto := by kernel_rfl
set_option maxHeartbeats 1000000 in
theorem onto_ok (n : Nat) (a c b d : List Int) (hn : tiny n) (ha : placesIn a n) (hb : placesIn b n) (hac : a.length ≤ c.length) (hbd : b.length ≤ d.length) (la : tiny a.length) (lb : tiny b.length) :
    CallOK Tryz.prog 153 [(false, [.int .i64 n]), (false, [ints a]), (false, [ints c]), (false, [ints b]), (false, [ints d])] (.sv (false, [ints (wrL n (a.zip c ++ b.zip d))])) := by
  refine callOK_W (callS_W (by kernel_rfl) Tryz.func153 k_onto (callable_of Tryz.func153 (by kernel_rfl)) (by simp [c_onto]) ?_)
  have hn' := hn
  simp only [tiny] at hn'
  have n1 : n * 8 ≤ 140737488355328 := by omega
  have n2 : (n : Int) ≤ 9223372036854775807 := by omega
  simp [c_onto, n1, n2]
  refine loopW_count 12 a.length (fun j S => S.fr 1 = .one (.t (ints a)) ∧ S.fr 2 = .one (.t (ints c)) ∧ S.fr 3 = .one (.t (ints b)) ∧ S.fr 4 = .one (.t (ints d)) ∧ S.fr 11 = .one (.row (65, 0)) ∧ S.ob (65, 0) = some (rowO (wrL n ((a.zip c).take j)))) la.small ?_ ?_ ?_
  · simp [rowO, wrL]
  · rintro j S' hlt' hw' hc' ⟨f1, f2, f3, f4, f11, o65⟩
    have hj2 : j < c.length := by omega
    obtain ⟨x1, x2⟩ := ha _ (nth_mem hlt')
    obtain ⟨x, hx⟩ := Int.eq_ofNat_of_zero_le x1
    have hxn : x < n := by omega
    have hxn1 : x + 1 ≤ n := by omega
    have hxl : x < (wrL n ((a.zip c).take j)).length := by rw [wrL_len]; exact hxn
    have e2 := row_set (v := nth c j) hxl
    have e3 : wrL n ((a.zip c).take (j + 1)) = (wrL n ((a.zip c).take j)).set x (nth c j) := by rw [zip_take_succ hlt' hac, wrL_snoc, hx]; rfl
    have e4 := wrL_len (n := n) (ws := (a.zip c).take j)
    have e5 := wrL_len (n := n) (ws := (a.zip c).take (j + 1))
    simp [dw0, dw1, dw2, dw3, f1, f2, f3, f4, f11, hc', hlt', drop_nth hlt', hx, hj2, drop_nth hj2, o65, rowO, e4, hxn, hxn1, hw', e2, e3]
    rfl
  rintro S hc ⟨f1, f2, f3, f4, f11, o65⟩
  rw [zip_take_all hac] at o65
  simp [f1, f2, f3, f4, f11, hc, o65]
  refine loopW_count 13 b.length (fun j S => S.fr 1 = .one (.t (ints a)) ∧ S.fr 2 = .one (.t (ints c)) ∧ S.fr 3 = .one (.t (ints b)) ∧ S.fr 4 = .one (.t (ints d)) ∧ S.fr 11 = .one (.row (65, 0)) ∧ S.ob (65, 0) = some (rowO (wrL n (a.zip c ++ (b.zip d).take j)))) lb.small ?_ ?_ ?_
  · simp [f1, f2, f3, f4, f11, o65]
  · rintro j S' hlt' hw' hc' ⟨f1, f2, f3, f4, f11, o65⟩
    have hj2 : j < d.length := by omega
    obtain ⟨x1, x2⟩ := hb _ (nth_mem hlt')
    obtain ⟨x, hx⟩ := Int.eq_ofNat_of_zero_le x1
    have hxn : x < n := by omega
    have hxn1 : x + 1 ≤ n := by omega
    have hxl : x < (wrL n (a.zip c ++ (b.zip d).take j)).length := by rw [wrL_len]; exact hxn
    have e2 := row_set (v := nth d j) hxl
    have e3 : wrL n (a.zip c ++ (b.zip d).take (j + 1)) = (wrL n (a.zip c ++ (b.zip d).take j)).set x (nth d j) := by rw [zip_take_succ hlt' hbd, ← List.append_assoc, wrL_snoc, hx]; rfl
    have e4 := wrL_len (n := n) (ws := a.zip c ++ (b.zip d).take j)
    have e5 := wrL_len (n := n) (ws := a.zip c ++ (b.zip d).take (j + 1))
    simp [dw0, dw1, dw2, dw3, f1, f2, f3, f4, f11, hc', hlt', drop_nth hlt', hx, hj2, drop_nth hj2, o65, rowO, e4, hxn, hxn1, hw', e2, e3]
    rfl
  rintro S hc ⟨f1, f2, f3, f4, f11, o65⟩
  rw [zip_take_all hbd] at o65
  have et := fun fr cnt => rowO_tree (fr := fr) (cnt := cnt) o65
  simp [f1, f2, f3, f4, f11, hc, -treeCell, treeCell_t, et]
end Go.Proofs.YthcnpnogfblkcaaGreat

/- Contracts: spans of descriptions; squares of standard pushouts. -/
namespace Go.Proofs.YthcnpnogfblkcaaGreat
open Abs
set_option linter.unusedSimpArgs false
set_option linter.unusedVariables false
attribute [local simp] rn0 rn1 rn2 rn3 rn4 rn5 rn6 rn7 evOp nests Arg.ev St.val St.set St.new sliceOf binInt2 binInt AV.cells rdAt St.live retOf resOf resAll treeOf treeCell treeCells treeTups untree frameOf TV.av TR.av ints edgs prs fillV splice intsOf trees V1.tree bx Gr.v Pa.v

theorem mdN_nth {d : Dr} {k i : Nat} (h : i < k) : nth (mdN d k) i = ((byth d.nodes i % 3 : Nat) : Int) := by
  rw [nth_eq (by rw [mdN_len]; exact h)]; simp [mdN]
theorem mdE_eth {d : Dr} {k i : Nat} (h : i < k) : eth (mdE d k) i = mdX d i := by
  rw [eth_eq (by rw [mdE_len]; exact h)]; simp [mdE]
theorem mdG_few {d : Dr} : (mdG d).nodes.length ≤ 8 ∧ (mdG d).edges.length ≤ 10 := by
  refine ⟨?_, ?_⟩
  · simp only [mdG, mdN_len, mdn]
    omega
  · simp only [mdG, mdE_len, mde]
    split <;> omega
theorem mdG_ok {d : Dr} : GrOk (mdG d) := by
  have hf := mdG_few (d := d)
  refine ⟨by omega, by omega, fun x hx => ?_, fun e he => ?_⟩
  · obtain ⟨i, hi, rfl⟩ := mem_nth hx
    simp only [mdG, mdN_len] at hi
    simp only [mdG]
    rw [mdN_nth hi]
    omega
  · obtain ⟨i, hi, rfl⟩ := mem_eth he
    simp only [mdG, mdE_len] at hi
    have z : mdn d ≠ 0 := by
      intro h
      simp [mde, h] at hi
    have z1 := Nat.mod_lt (t3th d.edges i).b (Nat.pos_of_ne_zero z)
    have z2 := Nat.mod_lt (t3th d.edges i).c (Nat.pos_of_ne_zero z)
    simp only [mdG]
    rw [mdE_eth hi, mdX, mdN_len]
    simp only
    omega

def mdS (d : Dr) (b c : List Nat) : Sp := ⟨mdG d, growG (mdG d) b, growG (mdG d) c, grM (mdG d) b, grM (mdG d) c⟩
def c_made10 : MFunc := ⟨30, [.cell 6 true 10], .seq (.region [⟨some 3, .box 0 42 (.tmp 0), none⟩, ⟨some 6, .alloc 1 47 [.nil, .nil, .nil, .nil, .nil, .nil, .nil, .nil, .nil, .nil], none⟩]) (.seq (.region [⟨some 8, .load true 2 (.tmp 3), none⟩, ⟨some 9, .call (.c (.one (.fn 28 []))) 65 [.tmp 8], none⟩, ⟨some 10, .build [.nil, .nil, .nil, .nil, .nil, .nil, .nil, .nil, .nil, .nil] [(0, (2, .tmp 9))], none⟩, ⟨some 7, .alloc 67 47 [.nil, .nil, .nil, .nil, .nil, .nil, .nil, .nil, .nil, .nil], none⟩, ⟨none, .store 10 (.tmp 7) (.tmp 10), none⟩]) (.seq (.region [⟨some 12, .fieldA 0 (.tmp 7), none⟩, ⟨some 13, .load true 2 (.tmp 12), none⟩, ⟨some 14, .mv (.tmp 1), none⟩, ⟨some 15, .call (.c (.one (.fn 29 []))) 131 [.tmp 13, .tmp 14], none⟩, ⟨some 11, .mv (.tmp 15), none⟩, ⟨some 16, .extract (.tmp 11) 0, none⟩, ⟨some 17, .extract (.tmp 11) 1, none⟩, ⟨some 18, .fieldA 2 (.tmp 7), none⟩, ⟨none, .store 2 (.tmp 18) (.tmp 16), none⟩, ⟨some 19, .fieldA 6 (.tmp 7), none⟩, ⟨none, .store 2 (.tmp 19) (.tmp 17), none⟩]) (.seq (.region [⟨some 21, .fieldA 0 (.tmp 7), none⟩, ⟨some 22, .load true 2 (.tmp 21), none⟩, ⟨some 23, .mv (.tmp 2), none⟩, ⟨some 24, .call (.c (.one (.fn 29 []))) 195 [.tmp 22, .tmp 23], none⟩, ⟨some 20, .mv (.tmp 24), none⟩, ⟨some 25, .extract (.tmp 20) 0, none⟩, ⟨some 26, .extract (.tmp 20) 1, none⟩, ⟨some 27, .fieldA 4 (.tmp 7), none⟩, ⟨none, .store 2 (.tmp 27) (.tmp 25), none⟩, ⟨some 28, .fieldA 8 (.tmp 7), none⟩, ⟨none, .store 2 (.tmp 28) (.tmp 26), none⟩]) (.seq (.region [⟨some 29, .load true 10 (.tmp 7), none⟩, ⟨none, .store 10 (.tmp 6) (.tmp 29), none⟩]) .ret))))⟩
theorem k_made10 : cFn Tryz.prog Tryz.f19 = some c_made10 := by kernel_rfl
set_option maxHeartbeats 1000000 in
theorem made10_ok (d : Dr) (b c : List Nat) (hd : BoundD d) (hb : b.length ≤ 1048576) (hbs : ∀ x ∈ b, x < 256) (hc : c.length ≤ 1048576) (hcs : ∀ x ∈ c, x < 256) : CallOK Tryz.prog 19 [d.v, byV b, byV c] (.sv (mdS d b c).v) := by
  refine callOK_W (callS_W (by kernel_rfl) Tryz.func19 k_made10 (callable_of Tryz.func19 (by kernel_rfl)) (by simp [c_made10]) ?_)
  simp [c_made10, byV, bys, Dr.v]
  refine callS_tree (made05_ok d hd) ?_ ?_ ?_
  · rfl
  · rfl
  simp
  refine callS_tree (grown10_ok (mdG d) b mdG_ok hb hbs) ?_ ?_ ?_
  · rfl
  · rfl
  simp
  refine callS_tree (grown10_ok (mdG d) c mdG_ok hc hcs) ?_ ?_ ?_
  · rfl
  · rfl
  simp [Sp.v, Sp.cs, mdS]

def glS (s : Sp) : Sq := ⟨s.A, s.B, s.C, (poR s).1, s.F, s.G, (poR s).2.1, (poR s).2.2.1⟩
def c_glued14 : MFunc := ⟨28, [.cell 2 true 16], .seq (.region [⟨some 1, .box 0 47 (.tmp 0), none⟩, ⟨some 2, .alloc 1 29 [.nil, .nil, .nil, .nil, .nil, .nil, .nil, .nil, .nil, .nil, .nil, .nil, .nil, .nil, .nil, .nil], none⟩]) (.seq (.region [⟨some 8, .load true 10 (.tmp 1), none⟩, ⟨some 9, .call (.c (.one (.fn 53 []))) 65 [.tmp 8], none⟩, ⟨some 7, .mv (.tmp 9), none⟩, ⟨some 10, .extract (.tmp 7) 0, none⟩, ⟨some 11, .extract (.tmp 7) 1, none⟩, ⟨some 12, .extract (.tmp 7) 2, none⟩, ⟨some 13, .extract (.tmp 7) 3, none⟩, ⟨some 3, .alloc 71 25 [.nil, .nil], none⟩, ⟨some 4, .alloc 72 27 [.nil, .nil], none⟩, ⟨some 5, .alloc 73 27 [.nil, .nil], none⟩, ⟨none, .store 2 (.tmp 3) (.tmp 10), none⟩, ⟨none, .store 2 (.tmp 4) (.tmp 11), none⟩, ⟨none, .store 2 (.tmp 5) (.tmp 12), none⟩, ⟨some 6, .mv (.tmp 13), none⟩]) (.seq (.region [⟨some 14, .fieldA 0 (.tmp 1), none⟩, ⟨some 15, .load true 2 (.tmp 14), none⟩, ⟨some 16, .fieldA 2 (.tmp 1), none⟩, ⟨some 17, .load true 2 (.tmp 16), none⟩, ⟨some 18, .fieldA 4 (.tmp 1), none⟩, ⟨some 19, .load true 2 (.tmp 18), none⟩, ⟨some 20, .load true 2 (.tmp 3), none⟩, ⟨some 21, .fieldA 6 (.tmp 1), none⟩, ⟨some 22, .load true 2 (.tmp 21), none⟩, ⟨some 23, .fieldA 8 (.tmp 1), none⟩, ⟨some 24, .load true 2 (.tmp 23), none⟩, ⟨some 25, .load true 2 (.tmp 4), none⟩, ⟨some 26, .load true 2 (.tmp 5), none⟩, ⟨some 27, .build [.nil, .nil, .nil, .nil, .nil, .nil, .nil, .nil, .nil, .nil, .nil, .nil, .nil, .nil, .nil, .nil] [(0, (2, .tmp 15)), (2, (2, .tmp 17)), (4, (2, .tmp 19)), (6, (2, .tmp 20)), (8, (2, .tmp 22)), (10, (2, .tmp 24)), (12, (2, .tmp 25)), (14, (2, .tmp 26))], none⟩, ⟨none, .store 16 (.tmp 2) (.tmp 27), none⟩]) .ret))⟩
theorem k_glued14 : cFn Tryz.prog Tryz.f18 = some c_glued14 := by kernel_rfl
theorem glued14_ok (s : Sp) (h : TinySp s) : CallOK Tryz.prog 18 [s.v] (.sv (glS s).v) := by
  refine callOK_W (callS_W (by kernel_rfl) Tryz.func18 k_glued14 (callable_of Tryz.func18 (by kernel_rfl)) (by simp [c_glued14]) ?_)
  simp [c_glued14, Sp.v, Sp.cs]
  refine callS_tree (of10_ok s h) ?_ ?_ ?_
  · rfl
  · rfl
  simp [gluT, glS, Sq.v, Sq.cs]
end Go.Proofs.YthcnpnogfblkcaaGreat
