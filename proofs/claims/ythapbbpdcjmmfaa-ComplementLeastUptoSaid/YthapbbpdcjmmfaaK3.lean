/-
  Joined texts: steps of this claim, part 3. No condition beyond those that each statement names.
-/
import Derived.Test.YthapbbpdcjmmfaaK2
import Derived.SizedLaws
import Derived.ChangeSlices
import Derived.Deep.Strs
import Derived.Deep.Slices
import Derived.Test.YthapbbpdcjmmfaaRows
import Derived.WalkKit
import Derived.ProofKit
import Derived.OpenShut
import Derived.ChangeOld
import Derived.Below
import Derived.Carry
/- Contracts: the closure of some elements. -/
namespace Go.Proofs.Ythapbbpdcjmmfaa
open Abs
set_option linter.unusedSimpArgs false
set_option linter.unusedVariables false
attribute [local simp] rn0 rn1 rn2 rn3 rn4 rn5 rn6 rn7 evOp nests Arg.ev St.val St.set St.new sliceOf binInt2 binInt AV.cells rdAt St.live retOf resOf resAll treeOf treeCell treeCells treeTups untree frameOf TV.av TR.av ints edgs prs fillV splice intsOf trees V1.tree bx Gr.v Pa.v opRd opWr opNew opNewR opArgs argsRd argRd Arg.rd AV.refs V1.refs refsL dstL

/-- All are numbers below n. -/
def allIn (l : List Int) (n : Nat) : Prop := ∀ x ∈ l, 0 ≤ x ∧ x < n

theorem take_succ_nth {l : List Int} {k : Nat} (h : k < l.length) : l.take (k + 1) = l.take k ++ [nth l k] := by
  rw [List.take_succ_eq_append_getElem h, nth_eq h]

def c_close : MFunc := ⟨85, [.cell 6 true 2, .tmp 7], .seq (.region [⟨some 3, .box 0 25 (.tmp 0), none⟩, ⟨some 6, .alloc 1 27 [.nil, .nil], none⟩, ⟨some 7, .mv (.c (.one (.t (.int .i64 0)))), none⟩]) (.seq (.seq (.region [⟨some 13, .load true 2 (.tmp 3), none⟩, ⟨some 14, .call (.c (.one (.fn 77 []))) 65 [.tmp 13], none⟩, ⟨some 8, .mv (.tmp 14), none⟩]) (.seq (.region [⟨some 15, .mv (.tmp 8), none⟩, ⟨some 16, .bin .neq (.tmp 15) (.c (.one (.t (.int .i64 0)))), none⟩]) (.cond (.tmp 16) (.seq (.region [⟨some 17, .build [.nil, .nil] [], none⟩, ⟨some 18, .mv (.tmp 8), none⟩, ⟨none, .store 2 (.tmp 6) (.tmp 17), none⟩, ⟨some 7, .mv (.tmp 18), none⟩]) .ret) .skip))) (.seq (.draw [[], [0], [1], [2, 2], [], [4], [5], [6, 6], [3, 0, 1, 2, 3], [7, 8, 0, 1, 2, 3, 4, 5, 6, 7, 8]] [⟨some 19, .fieldA 0 (.tmp 3), none⟩, ⟨some 20, .load false 1 (.tmp 19), none⟩, ⟨some 21, .len (.tmp 20), none⟩, ⟨some 22, .make 259 4 1 1 [.t (.bool false)] (.tmp 21) (.tmp 21), none⟩, ⟨some 23, .fieldA 1 (.tmp 3), none⟩, ⟨some 24, .load false 1 (.tmp 23), none⟩, ⟨some 25, .len (.tmp 24), none⟩, ⟨some 26, .make 263 4 1 1 [.t (.bool false)] (.tmp 25) (.tmp 25), none⟩, ⟨some 9, .mv (.tmp 22), none⟩, ⟨some 10, .mv (.tmp 26), none⟩]) (.seq (.seq (.region [⟨some 11, .mv (.c (.one (.t (.int .i64 0)))), none⟩]) (.block 0 (.loop (.seq (.seq (.region [⟨some 27, .mv (.tmp 11), none⟩, ⟨some 28, .mv (.tmp 1), none⟩, ⟨some 29, .len (.tmp 28), none⟩, ⟨some 30, .bin .lss (.tmp 27) (.tmp 29), none⟩]) (.cond (.tmp 30) .skip (.exit 0))) (.seq (.block 1 (.seq (.seq (.region [⟨some 33, .mv (.tmp 1), none⟩, ⟨some 34, .mv (.tmp 11), none⟩, ⟨some 35, .idxA 1 (.tmp 33) (.tmp 34), none⟩, ⟨some 36, .load false 1 (.tmp 35), none⟩, ⟨some 37, .bin .lss (.tmp 36) (.c (.one (.t (.int .i64 0)))), none⟩, ⟨some 38, .mv (.tmp 37), none⟩, ⟨some 39, .mv (.tmp 1), some (38, false)⟩, ⟨some 40, .mv (.tmp 11), some (38, false)⟩, ⟨some 41, .idxA 1 (.tmp 39) (.tmp 40), some (38, false)⟩, ⟨some 42, .load false 1 (.tmp 41), some (38, false)⟩, ⟨some 43, .mv (.tmp 9), some (38, false)⟩, ⟨some 44, .len (.tmp 43), some (38, false)⟩, ⟨some 45, .bin .geq (.tmp 42) (.tmp 44), some (38, false)⟩, ⟨some 46, .pick (.tmp 38) (.c (.one (.t (.bool true)))) (.tmp 45), none⟩]) (.cond (.tmp 46) (.seq (.region [⟨some 47, .build [.nil, .nil] [], none⟩, ⟨none, .store 2 (.tmp 6) (.tmp 47), none⟩, ⟨some 7, .mv (.c (.one (.t (.int .i64 6)))), none⟩]) .ret) .skip)) (.region [⟨some 48, .mv (.tmp 9), none⟩, ⟨some 49, .mv (.tmp 1), none⟩, ⟨some 50, .mv (.tmp 11), none⟩, ⟨some 51, .idxA 1 (.tmp 49) (.tmp 50), none⟩, ⟨some 52, .load false 1 (.tmp 51), none⟩, ⟨some 53, .idxA 1 (.tmp 48) (.tmp 52), none⟩, ⟨none, .store 1 (.tmp 53) (.c (.one (.t (.bool true)))), none⟩]))) (.region [⟨some 31, .mv (.tmp 11), none⟩, ⟨some 32, .bin .add (.tmp 31) (.c (.one (.t (.int .i64 1)))), none⟩, ⟨some 11, .mv (.tmp 32), none⟩])))))) (.seq (.seq (.region [⟨some 12, .mv (.c (.one (.t (.int .i64 0)))), none⟩]) (.block 2 (.loop (.seq (.seq (.region [⟨some 54, .mv (.tmp 12), none⟩, ⟨some 55, .mv (.tmp 2), none⟩, ⟨some 56, .len (.tmp 55), none⟩, ⟨some 57, .bin .lss (.tmp 54) (.tmp 56), none⟩]) (.cond (.tmp 57) .skip (.exit 2))) (.seq (.block 3 (.seq (.seq (.region [⟨some 60, .mv (.tmp 2), none⟩, ⟨some 61, .mv (.tmp 12), none⟩, ⟨some 62, .idxA 1 (.tmp 60) (.tmp 61), none⟩, ⟨some 63, .load false 1 (.tmp 62), none⟩, ⟨some 64, .bin .lss (.tmp 63) (.c (.one (.t (.int .i64 0)))), none⟩, ⟨some 65, .mv (.tmp 64), none⟩, ⟨some 66, .mv (.tmp 2), some (65, false)⟩, ⟨some 67, .mv (.tmp 12), some (65, false)⟩, ⟨some 68, .idxA 1 (.tmp 66) (.tmp 67), some (65, false)⟩, ⟨some 69, .load false 1 (.tmp 68), some (65, false)⟩, ⟨some 70, .mv (.tmp 10), some (65, false)⟩, ⟨some 71, .len (.tmp 70), some (65, false)⟩, ⟨some 72, .bin .geq (.tmp 69) (.tmp 71), some (65, false)⟩, ⟨some 73, .pick (.tmp 65) (.c (.one (.t (.bool true)))) (.tmp 72), none⟩]) (.cond (.tmp 73) (.seq (.region [⟨some 74, .build [.nil, .nil] [], none⟩, ⟨none, .store 2 (.tmp 6) (.tmp 74), none⟩, ⟨some 7, .mv (.c (.one (.t (.int .i64 6)))), none⟩]) .ret) .skip)) (.region [⟨some 75, .mv (.tmp 10), none⟩, ⟨some 76, .mv (.tmp 2), none⟩, ⟨some 77, .mv (.tmp 12), none⟩, ⟨some 78, .idxA 1 (.tmp 76) (.tmp 77), none⟩, ⟨some 79, .load false 1 (.tmp 78), none⟩, ⟨some 80, .idxA 1 (.tmp 75) (.tmp 79), none⟩, ⟨none, .store 1 (.tmp 80) (.c (.one (.t (.bool true)))), none⟩]))) (.region [⟨some 58, .mv (.tmp 12), none⟩, ⟨some 59, .bin .add (.tmp 58) (.c (.one (.t (.int .i64 1)))), none⟩, ⟨some 12, .mv (.tmp 59), none⟩])))))) (.seq (.region [⟨some 81, .load true 2 (.tmp 3), none⟩, ⟨some 82, .mv (.tmp 9), none⟩, ⟨some 83, .mv (.tmp 10), none⟩, ⟨some 84, .call (.c (.one (.fn 60 []))) 1091 [.tmp 81, .tmp 82, .tmp 83], none⟩, ⟨none, .store 2 (.tmp 6) (.tmp 84), none⟩, ⟨some 7, .mv (.c (.one (.t (.int .i64 0)))), none⟩]) .ret)))))⟩
theorem k_close : cFn Try.prog Try.f54 = some c_close := by kernel_rfl
theorem close_ok (g : Gr) (a b : List Int) (hg : tinyG g) (hk : gErr g = 0) (ha : allIn a g.nodes.length) (hb : allIn b g.edges.length) (hla : tiny a.length) (hlb : tiny b.length) :
    CallOK Try.prog 54 [g.v, (false, [ints a]), (false, [ints b])] (.tup [Pa.v ⟨canon g.nodes.length (a ++ endsL g b g.edges.length), canon g.edges.length b⟩, (false, [.int .i64 0])]) := by
  refine callOK_W (callS_W (by kernel_rfl) Try.func54 k_close (callable_of Try.func54 (by kernel_rfl)) (by simp [c_close]) ?_)
  have go := gErr_ok hk
  have hn := go.n
  have he := go.e
  have hn8 : g.nodes.length ≤ 140737488355328 := by omega
  have hn9 : (g.nodes.length : Int) ≤ 9223372036854775807 := by omega
  have he8 : g.edges.length ≤ 140737488355328 := by omega
  have he9 : (g.edges.length : Int) ≤ 9223372036854775807 := by omega
  simp [c_close]
  refine callS_tree (rvalid_ok g hg.1.small hg.2.small) ?_ ?_ ?_
  · rfl
  · rfl
  simp [dw0, dw1, dw2, dw3, hk, hn8, hn9, he8, he9, mark_nil]
  refine ⟨rfl, ?_⟩
  refine loopW_count 11 a.length (fun k S => S.fr 1 = .one (.t (ints a)) ∧ S.fr 2 = .one (.t (ints b)) ∧ S.fr 3 = .one (.ptr (0, 0) 0) ∧ S.fr 6 = .one (.ptr (1, 0) 0) ∧ S.fr 9 = .one (.row (259, 0)) ∧ S.fr 10 = .one (.row (263, 0)) ∧
    S.ob (0, 0) = some (bx 25 (g.v.2.map .t)) ∧ S.ob (1, 0) = some (bx 27 [.nil, .nil]) ∧
    S.ob (259, 0) = some ⟨true, true, false, 1, g.nodes.length, 4, markC (a.take k) g.nodes.length⟩ ∧ S.ob (263, 0) = some ⟨true, true, false, 1, g.edges.length, 4, markC [] g.edges.length⟩) hla.small ?_ ?_ ?_
  · simp
  · rintro k S hlt hw hc ⟨f1, f2, f3, f6, f9, f10, o0, o1, o2, o3⟩
    obtain ⟨q1, q2⟩ := ha _ (nth_mem hlt)
    obtain ⟨x, hx⟩ := Int.eq_ofNat_of_zero_le q1
    have hx2 : x < g.nodes.length := by omega
    have hx3 : x + 1 ≤ g.nodes.length := by omega
    have hx4 : ¬ g.nodes.length ≤ x := by omega
    simp [f1, f2, f3, f6, f9, f10, o0, o1, o2, o3, hc, hlt, hw, drop_nth hlt, hx, hx2, hx3, hx4, len_mark, mark_set hx2, take_succ_nth hlt]
  · rintro S hc ⟨f1, f2, f3, f6, f9, f10, o0, o1, o2, o3⟩
    simp [f1, f2, f3, f6, f9, f10, o0, o1, o2, o3, hc]
    refine loopW_count 12 b.length (fun k S => S.fr 2 = .one (.t (ints b)) ∧ S.fr 3 = .one (.ptr (0, 0) 0) ∧ S.fr 6 = .one (.ptr (1, 0) 0) ∧ S.fr 9 = .one (.row (259, 0)) ∧ S.fr 10 = .one (.row (263, 0)) ∧
      S.ob (0, 0) = some (bx 25 (g.v.2.map .t)) ∧ S.ob (1, 0) = some (bx 27 [.nil, .nil]) ∧
      S.ob (259, 0) = some ⟨true, true, false, 1, g.nodes.length, 4, markC a g.nodes.length⟩ ∧ S.ob (263, 0) = some ⟨true, true, false, 1, g.edges.length, 4, markC (b.take k) g.edges.length⟩) hlb.small ?_ ?_ ?_
    · simp [f2, f3, f6, f9, f10, o0, o1, o2, o3]
    · rintro k S hlt hw hc ⟨f2, f3, f6, f9, f10, o0, o1, o2, o3⟩
      obtain ⟨q1, q2⟩ := hb _ (nth_mem hlt)
      obtain ⟨x, hx⟩ := Int.eq_ofNat_of_zero_le q1
      have hx2 : x < g.edges.length := by omega
      have hx3 : x + 1 ≤ g.edges.length := by omega
      have hx4 : ¬ g.edges.length ≤ x := by omega
      simp [f2, f3, f6, f9, f10, o0, o1, o2, o3, hc, hlt, hw, drop_nth hlt, hx, hx2, hx3, hx4, len_mark, mark_set hx2, take_succ_nth hlt]
    · rintro S hc ⟨f2, f3, f6, f9, f10, o0, o1, o2, o3⟩
      simp [f2, f3, f6, f9, f10, o0, o1, o2, o3, hc]
      refine callS_freeze [(259, 0), (263, 0)] (callS_tree (least_ok g a b go) ?_ ?_ ?_)
      · simp [argTrees, argTree, frzAll, frzOne, o0, o1, o2, o3, markC_eq, untree_t]
      · simp [frzAll, frzOne, o0, o1, o2, o3, AV.still, V1.still]
      simp [frzAll, frzOne, f2, f3, f6, f9, f10, o0, o1, o2, o3, hc]
end Go.Proofs.Ythapbbpdcjmmfaa

/- What a row's argument reads as, opened into trees. -/
namespace Go.Proofs.Ythapbbpdcjmmfaa.Abs
open Go.RowKit Go.ChangeShapes Go.WideShapes Go.Deep
set_option linter.unusedVariables false
set_option linter.unusedSimpArgs false

section
variable {H : Type} {enc : TypeId × Value → H} {P : Program} {w : World} {base : Nat} {spare : Nat → Bool} {held : Bool}

theorem open_int_list {t e : TypeId} {fuel : Nat} {cs : List Value} {x : DataW H × List MemPlace} (ht : P.underlying t = some (.slice e)) (he : P.underlying e = some (.int .i64)) (hc : P.cellsOf e = 1) (hB : P.bytesOf e = 8)
    (h : DataW.trod enc P w base spare held fuel t cs = some x) (hw : (x.1.weights P t).all (· ≤ reachBytes) = true) : ∃ l v, cs = [v] ∧ CR w (fun _ => False) (ints l) v ∧ l.length * 8 ≤ 140737488351232 := by
  rcases open_ints ht he hc h with ⟨rfl, _⟩ | ⟨a, len, cap, zs, rfl, hb, hl, hm, hz, rfl, hcell, _⟩
  · exact ⟨[], _, rfl, .sl 0 0 [] none (fun _ => default) (Nat.le_refl _) (fun h => by simp at h) (fun j c h => by simp at h), by simp⟩
  · have hlen : len ≤ zs.length := by
      rw [hz]
      split
      · exact hl
      · exact Nat.le_refl _
    refine ⟨zs.take len, _, rfl, ?_, ?_⟩
    · have e1 : ints (zs.take len) = .sl len ((zs.take len).map (.int .i64)) := by simp [ints, Nat.min_eq_left hlen]
      rw [e1]
      refine .sl len cap _ (some a) (fun j => .int .i64 (zs.getD j 0)) hl (fun _ => ⟨a, rfl, id, fun j hj => hcell j (by simp at hj; omega)⟩) (fun j c hj => ?_)
      simp only [List.getElem?_map, Option.map_eq_some_iff] at hj
      obtain ⟨z, hz', rfl⟩ := hj
      have hj2 : j < len ∧ zs[j]? = some z := by
        rw [List.getElem?_take] at hz'
        split at hz'
        · exact ⟨by assumption, hz'⟩
        · cases hz'
      have : zs.getD j 0 = z := by simp [List.getD, hj2.2]
      rw [this]
      exact .int _ _
    · have z := List.all_eq_true.1 hw _ (show (((lits (H := H) .i64 (zs.take len)).length + (lits (H := H) .i64 (zs.drop len)).length) * P.bytesOf e) ∈ _ by simp [DataW.weights, ht])
      rw [hB] at z
      simp [lits] at z
      simp only [reachBytes] at z
      simp [Nat.min_eq_left hlen]
      omega

instance : Inhabited Ed := ⟨⟨0, 0, 0⟩⟩

/-- A struct of three numbers. -/
theorem open_three {t e : TypeId} {f0 f1 f2 : Field} {fuel : Nat} {cs : List Value} {x : DataW H × List MemPlace} (ht : P.underlying t = some (.struct #[f0, f1, f2])) (h0 : f0.type = e) (h1 : f1.type = e) (h2 : f2.type = e) (o0 : f0.offset = 0) (o1 : f1.offset = 1) (o2 : f2.offset = 2)
    (he : P.underlying e = some (.int .i64)) (hc : P.cellsOf e = 1) (hct : P.cellsOf t = 3) (h : DataW.trod enc P w base spare held fuel t cs = some x) : ∃ d : Ed, cs = [.int .i64 d.t, .int .i64 d.f, .int .i64 d.g] := by
  obtain ⟨y0, y1, y2, n, _, hl, g0, g1, g2⟩ := trod_struct3 ht h
  rw [h0, o0, hc] at g0
  rw [h1, o1, hc] at g1
  rw [h2, o2, hc] at g2
  rw [hct] at hl
  match cs, hl with
  | [a, b, c], _ =>
    obtain ⟨p, e0, _⟩ := DataW.trod_int he g0
    obtain ⟨q, e1, _⟩ := DataW.trod_int he g1
    obtain ⟨r, e2, _⟩ := DataW.trod_int he g2
    simp at e0 e1 e2
    exact ⟨⟨p, q, r⟩, by rw [e0, e1, e2]⟩

theorem get_edL : ∀ {l : List Ed} {j : Nat} {c : C}, (edL l)[j]? = some c → j / 3 < l.length ∧ (edC (eth l (j / 3)))[j % 3]? = some c
  | [], j, c, h => by simp [edL] at h
  | e :: r, j, c, h => by
    have e1 : edL (e :: r) = edC e ++ edL r := by simp [edL]
    rw [e1] at h
    by_cases hj : j < 3
    · rw [List.getElem?_append_left (by simpa [edC] using hj)] at h
      have h1 : j / 3 = 0 := by omega
      have h2 : j % 3 = j := by omega
      rw [h1, h2]
      exact ⟨by simp, by simpa [eth] using h⟩
    · rw [List.getElem?_append_right (by simp [edC]; omega)] at h
      have hl : (edC e).length = 3 := rfl
      rw [hl] at h
      obtain ⟨i1, i2⟩ := get_edL h
      have h1 : j / 3 = (j - 3) / 3 + 1 := by omega
      have h2 : j % 3 = (j - 3) % 3 := by omega
      rw [h1, h2]
      exact ⟨by simpa using i1, by simpa [eth] using i2⟩

theorem open_edge_list {t e q : TypeId} {f0 f1 f2 : Field} {fuel : Nat} {cs : List Value} {x : DataW H × List MemPlace} (ht : P.underlying t = some (.slice e)) (he : P.underlying e = some (.struct #[f0, f1, f2])) (h0 : f0.type = q) (h1 : f1.type = q) (h2 : f2.type = q) (o0 : f0.offset = 0) (o1 : f1.offset = 1) (o2 : f2.offset = 2)
    (hq : P.underlying q = some (.int .i64)) (hc : P.cellsOf q = 1) (hct : P.cellsOf e = 3) (hB : P.bytesOf e = 24)
    (h : DataW.trod enc P w base spare held fuel t cs = some x) (hw : (x.1.weights P t).all (· ≤ reachBytes) = true) : ∃ l v, cs = [v] ∧ CR w (fun _ => False) (edgs l) v ∧ l.length * 24 ≤ 140737488351232 := by
  rcases open_slice ht h with ⟨rfl, _⟩ | ⟨a, len, cap, m, n, D, Pl, rfl, hb, hl, hm, hmm, rfl, hx⟩
  · exact ⟨[], _, rfl, .sl 0 0 [] none (fun _ => default) (Nat.le_refl _) (fun h => by simp [edL] at h) (fun j c h => by simp at h), by simp⟩
  · have hlen : len ≤ m := by
      rw [hmm]
      split
      · exact hl
      · exact Nat.le_refl _
    obtain ⟨F, hF⟩ := choose_lt (α := Ed) (p := fun i d => w.cell? (a.add (i * 3)) = some (.int .i64 d.t) ∧ w.cell? (a.add (i * 3 + 1)) = some (.int .i64 d.f) ∧ w.cell? (a.add (i * 3 + 2)) = some (.int .i64 d.g)) (fun i (hi : i < m) => by
      obtain ⟨cs', g1, g2⟩ := hx i hi
      rw [hct] at g1
      obtain ⟨_, _, g3⟩ := World.cells?_some g1
      obtain ⟨d, rfl⟩ := open_three he h0 h1 h2 o0 o1 o2 hq hc hct g2
      have c0 := g3 0 (by omega)
      have c1 := g3 1 (by omega)
      have c2 := g3 2 (by omega)
      rw [Addr.add_add] at c0 c1 c2
      exact ⟨d, by simpa using c0, by simpa using c1, by simpa using c2⟩)
    have hl2 : ((List.range len).map F).length = len := by simp
    refine ⟨(List.range len).map F, _, rfl, ?_, ?_⟩
    · have key : ∀ i, i < len → eth ((List.range len).map F) i = F i := fun i hi => by simp [eth, hi]
      have e1 : edgs ((List.range len).map F) = .sl len (edL ((List.range len).map F)) := by simp [edgs]
      rw [e1]
      let U : Nat → Value := fun j => if j % 3 = 0 then .int .i64 (F (j / 3)).t else if j % 3 = 1 then .int .i64 (F (j / 3)).f else .int .i64 (F (j / 3)).g
      refine .sl len cap _ (some a) U hl (fun _ => ⟨a, rfl, id, fun j hj => ?_⟩) (fun j c hj => ?_)
      · rw [len_edL, hl2] at hj
        obtain ⟨g0, g1, g2⟩ := hF (j / 3) (by omega)
        have hcase : j % 3 = 0 ∨ j % 3 = 1 ∨ j % 3 = 2 := by omega
        rcases hcase with e | e | e
        · have : j = j / 3 * 3 := by omega
          simp only [U, e, if_true]
          rw [this]; simpa using g0
        · have : j = j / 3 * 3 + 1 := by omega
          simp only [U, e]
          rw [show a.add j = a.add (j / 3 * 3 + 1) by rw [← this]]
          simpa using g1
        · have : j = j / 3 * 3 + 2 := by omega
          simp only [U, e]
          rw [show a.add j = a.add (j / 3 * 3 + 2) by rw [← this]]
          simpa using g2
      · obtain ⟨q1, q2⟩ := get_edL hj
        rw [hl2] at q1
        rw [key _ q1] at q2
        have hcase : j % 3 = 0 ∨ j % 3 = 1 ∨ j % 3 = 2 := by omega
        rcases hcase with e | e | e <;> (rw [e] at q2; simp [edC] at q2; subst q2; simp only [U, e]; exact CR.int _ _)
    · have z := List.all_eq_true.1 hw _ (show ((((List.range len).map D).length + ((List.range (m - len)).map fun j => D (len + j)).length) * P.bytesOf e) ∈ _ by simp [DataW.weights, ht])
      rw [hB] at z
      simp at z
      simp only [reachBytes] at z
      simp
      omega
end

/-! ### What opens, as words -/
def bound (n : Nat) : Prop := n * 8 ≤ 140737488351232
def OpensI (P : Program) (t : TypeId) : Prop := ∀ (H : Type) (enc : TypeId × Value → H) (w : World) (base : Nat) (spare : Nat → Bool) (held : Bool) (fuel : Nat) (cs : List Value) (x : DataW H × List MemPlace),
  DataW.trod enc P w base spare held fuel t cs = some x → (x.1.weights P t).all (· ≤ reachBytes) = true → ∃ l v, cs = [v] ∧ CR w (fun _ => False) (ints l) v ∧ bound l.length
def OpensE (P : Program) (t : TypeId) : Prop := ∀ (H : Type) (enc : TypeId × Value → H) (w : World) (base : Nat) (spare : Nat → Bool) (held : Bool) (fuel : Nat) (cs : List Value) (x : DataW H × List MemPlace),
  DataW.trod enc P w base spare held fuel t cs = some x → (x.1.weights P t).all (· ≤ reachBytes) = true → ∃ l v, cs = [v] ∧ CR w (fun _ => False) (edgs l) v ∧ bound l.length
def OpensG (P : Program) (t : TypeId) : Prop := ∀ (H : Type) (enc : TypeId × Value → H) (w : World) (base : Nat) (spare : Nat → Bool) (held : Bool) (fuel : Nat) (cs : List Value) (x : DataW H × List MemPlace),
  DataW.trod enc P w base spare held fuel t cs = some x → (x.1.weights P t).all (· ≤ reachBytes) = true → ∃ g : Gr, ∃ v0 v1, cs = [v0, v1] ∧ CR w (fun _ => False) (ints g.nodes) v0 ∧ CR w (fun _ => False) (edgs g.edges) v1 ∧ bound g.nodes.length ∧ bound g.edges.length
def OpensP (P : Program) (t : TypeId) : Prop := ∀ (H : Type) (enc : TypeId × Value → H) (w : World) (base : Nat) (spare : Nat → Bool) (held : Bool) (fuel : Nat) (cs : List Value) (x : DataW H × List MemPlace),
  DataW.trod enc P w base spare held fuel t cs = some x → (x.1.weights P t).all (· ≤ reachBytes) = true → ∃ g : Pa, ∃ v0 v1, cs = [v0, v1] ∧ CR w (fun _ => False) (ints g.nodes) v0 ∧ CR w (fun _ => False) (ints g.edges) v1 ∧ bound g.nodes.length ∧ bound g.edges.length

theorem opensI {P : Program} {t e : TypeId} (ht : P.underlying t = some (.slice e)) (he : P.underlying e = some (.int .i64)) (hc : P.cellsOf e = 1) (hB : P.bytesOf e = 8) : OpensI P t :=
  fun H enc w base spare held fuel cs x h hw => open_int_list ht he hc hB h hw

theorem opensE {P : Program} {t e q : TypeId} {f0 f1 f2 : Field} (ht : P.underlying t = some (.slice e)) (he : P.underlying e = some (.struct #[f0, f1, f2])) (h0 : f0.type = q ∧ f1.type = q ∧ f2.type = q ∧ f0.offset = 0 ∧ f1.offset = 1 ∧ f2.offset = 2)
    (hq : P.underlying q = some (.int .i64)) (hc : P.cellsOf q = 1) (hct : P.cellsOf e = 3) (hB : P.bytesOf e = 24) : OpensE P t := fun H enc w base spare held fuel cs x h hw => by
  obtain ⟨l, v, h1, h2, h3⟩ := open_edge_list ht he h0.1 h0.2.1 h0.2.2.1 h0.2.2.2.1 h0.2.2.2.2.1 h0.2.2.2.2.2 hq hc hct hB h hw
  exact ⟨l, v, h1, h2, by simp only [bound]; omega⟩

theorem opensG {P : Program} {t a b : TypeId} {f0 f1 : Field} (ht : P.underlying t = some (.struct #[f0, f1])) (hf : f0.type = a ∧ f1.type = b ∧ f0.offset = 0 ∧ f1.offset = 1) (hc : P.cellsOf t = 2) (ha : P.cellsOf a = 1) (hb : P.cellsOf b = 1) (oa : OpensI P a) (ob : OpensE P b) : OpensG P t := by
  intro H enc w base spare held fuel cs x h hw
  obtain ⟨y0, y1, n, rfl, hl, g0, g1⟩ := trod_struct2 ht h
  obtain ⟨rfl, rfl, o0, o1⟩ := hf
  rw [o0, ha] at g0
  rw [o1, hb] at g1
  rw [hc] at hl
  have hw : ((y0.1.weights P f0.type ++ (y1.1.weights P f1.type ++ [])).all (· ≤ reachBytes)) = true := by simpa [DataW.weights, ht, DataW.weightsEach] using hw
  rw [List.all_append, List.all_append, Bool.and_eq_true, Bool.and_eq_true] at hw
  match cs, hl with
  | [u, v], _ =>
    obtain ⟨l, v0, e0, c0, b0⟩ := oa _ _ _ _ _ _ _ _ _ g0 hw.1
    obtain ⟨l1, v1, e1, c1, b1⟩ := ob _ _ _ _ _ _ _ _ _ g1 hw.2.1
    simp at e0 e1
    subst e0 e1
    exact ⟨⟨l, l1⟩, _, _, rfl, c0, c1, b0, b1⟩

theorem opensP {P : Program} {t a : TypeId} {f0 f1 : Field} (ht : P.underlying t = some (.struct #[f0, f1])) (hf : f0.type = a ∧ f1.type = a ∧ f0.offset = 0 ∧ f1.offset = 1) (hc : P.cellsOf t = 2) (ha : P.cellsOf a = 1) (oa : OpensI P a) : OpensP P t := by
  intro H enc w base spare held fuel cs x h hw
  obtain ⟨y0, y1, n, rfl, hl, g0, g1⟩ := trod_struct2 ht h
  obtain ⟨h0, h1, o0, o1⟩ := hf
  rw [h0, o0, ha] at g0
  rw [h1, o1, ha] at g1
  rw [hc] at hl
  have hw : ((y0.1.weights P a ++ (y1.1.weights P a ++ [])).all (· ≤ reachBytes)) = true := by simpa [DataW.weights, ht, DataW.weightsEach, h0, h1] using hw
  rw [List.all_append, List.all_append, Bool.and_eq_true, Bool.and_eq_true] at hw
  match cs, hl with
  | [u, v], _ =>
    obtain ⟨l, v0, e0, c0, b0⟩ := oa _ _ _ _ _ _ _ _ _ g0 hw.1
    obtain ⟨l1, v1, e1, c1, b1⟩ := oa _ _ _ _ _ _ _ _ _ g1 hw.2.1
    simp at e0 e1
    subst e0 e1
    exact ⟨⟨l, l1⟩, _, _, rfl, c0, c1, b0, b1⟩
end Go.Proofs.Ythapbbpdcjmmfaa.Abs

/- Lists of bytes, drafts and words as a row's arguments, opened into trees. -/
namespace Go.Proofs.Ythapbbpdcjmmfaa.Abs
open Go.RowKit Go.ChangeShapes Go.WideShapes Go.Deep
set_option linter.unusedVariables false
set_option linter.unusedSimpArgs false

/-- Three bytes. -/
structure T3 where
  a : Nat
  b : Nat
  c : Nat
instance : Inhabited T3 := ⟨⟨0, 0, 0⟩⟩
def T3.small (e : T3) : Prop := e.a < 256 ∧ e.b < 256 ∧ e.c < 256
def byL (l : List Nat) : List C := l.map fun x => .int .u8 (x : Nat)
def bys (l : List Nat) : C := .sl l.length (byL l)
def t3C (e : T3) : List C := [.int .u8 (e.a : Nat), .int .u8 (e.b : Nat), .int .u8 (e.c : Nat)]
def t3L (l : List T3) : List C := l.flatMap t3C
def t3s (l : List T3) : C := .sl l.length (t3L l)
/-- A description of a graph, or of a graph over another one. -/
structure Dr where
  nodes : List Nat
  edges : List T3
def Dr.v (d : Dr) : TV := (true, [bys d.nodes, t3s d.edges])
def byV (l : List Nat) : TV := (false, [bys l])
def by2V (l : List Nat × List Nat) : TV := (true, [bys l.1, bys l.2])
def by3V (l : List Nat × List Nat × List Nat) : TV := (true, [bys l.1, bys l.2.1, bys l.2.2])
def u64V (n : Nat) : TV := (false, [.int .u64 (n : Nat)])
def u642V (n : Nat × Nat) : TV := (true, [.int .u64 (n.1 : Nat), .int .u64 (n.2 : Nat)])
def BoundB (l : List Nat) : Prop := (∀ x ∈ l, x < 256) ∧ l.length ≤ maxLen
def BoundD (d : Dr) : Prop := BoundB d.nodes ∧ (∀ x ∈ d.edges, x.small) ∧ d.edges.length ≤ maxLen
def BoundB2 (l : List Nat × List Nat) : Prop := BoundB l.1 ∧ BoundB l.2
def BoundB3 (l : List Nat × List Nat × List Nat) : Prop := BoundB l.1 ∧ BoundB l.2.1 ∧ BoundB l.2.2
def BoundU (n : Nat) : Prop := n < 18446744073709551616
def BoundUU (n : Nat × Nat) : Prop := BoundU n.1 ∧ BoundU n.2
def byth (l : List Nat) (k : Nat) : Nat := l.getD k 0
def t3th (l : List T3) (k : Nat) : T3 := l.getD k ⟨0, 0, 0⟩

theorem len_byL {l : List Nat} : (byL l).length = l.length := by simp [byL]
theorem len_t3L : ∀ {l : List T3}, (t3L l).length = l.length * 3
  | [] => rfl
  | e :: r => by
    have := len_t3L (l := r)
    simp only [t3L] at this
    simp only [t3L, List.flatMap_cons, List.length_append, this, List.length_cons]
    simp [t3C]
    omega
theorem byth_eq {l : List Nat} {k : Nat} (h : k < l.length) : byth l k = l[k] := by simp [byth, h]
theorem drop_byL {l : List Nat} {k : Nat} (h : k < l.length) : (byL l).drop k = .int .u8 (byth l k : Nat) :: (byL (l.drop (k + 1))) := by
  rw [byth_eq h, byL, ← List.map_drop, List.drop_eq_getElem_cons h, List.map_cons]
  rfl
theorem drop_t3L : ∀ {l : List T3} {k : Nat}, k < l.length → (t3L l).drop (k * 3) = .int .u8 ((t3th l k).a : Nat) :: .int .u8 ((t3th l k).b : Nat) :: .int .u8 ((t3th l k).c : Nat) :: t3L (l.drop (k + 1))
  | [], k, h => absurd h (by simp)
  | e :: r, 0, h => by simp [t3L, t3C, t3th]
  | e :: r, k + 1, h => by
    have ih := drop_t3L (l := r) (k := k) (by simpa using h)
    have e1 : (k + 1) * 3 = k * 3 + 3 := by omega
    rw [e1, t3L, List.flatMap_cons]
    rw [show (t3C e ++ List.flatMap t3C r).drop (k * 3 + 3) = ((t3C e ++ List.flatMap t3C r).drop 3).drop (k * 3) by rw [List.drop_drop, Nat.add_comm]]
    simpa [t3C, t3th, t3L] using ih
theorem byth_small {l : List Nat} (h : ∀ x ∈ l, x < 256) (k : Nat) : byth l k < 256 := by
  by_cases hk : k < l.length
  · rw [byth_eq hk]; exact h _ (List.getElem_mem hk)
  · simp [byth, List.getD, List.getElem?_eq_none (Nat.le_of_not_lt hk)]
theorem t3th_small {l : List T3} (h : ∀ x ∈ l, x.small) (k : Nat) : (t3th l k).small := by
  by_cases hk : k < l.length
  · have : t3th l k = l[k] := by simp [t3th, hk]
    rw [this]; exact h _ (List.getElem_mem hk)
  · have : t3th l k = ⟨0, 0, 0⟩ := by simp [t3th, List.getD, List.getElem?_eq_none (Nat.le_of_not_lt hk)]
    rw [this]
    exact ⟨by decide, by decide, by decide⟩

theorem wf_u8 {n : Int} (h : (Lit.int .u8 n).wf = true) : ∃ m : Nat, n = m ∧ m < 256 := by
  have m1 : IntKind.u8.min = 0 := by decide
  have m2 : IntKind.u8.max = 255 := by decide
  simp [Lit.wf, m1, m2] at h
  exact ⟨n.toNat, by omega, by omega⟩
theorem wf_u64 {n : Int} (h : (Lit.int .u64 n).wf = true) : ∃ m : Nat, n = m ∧ m < 18446744073709551616 := by
  have m1 : IntKind.u64.min = 0 := by decide
  have m2 : IntKind.u64.max = 18446744073709551615 := by decide
  simp [Lit.wf, m1, m2] at h
  exact ⟨n.toNat, by omega, by omega⟩

section
variable {H : Type} {enc : TypeId × Value → H} {P : Program} {w : World} {base : Nat} {spare : Nat → Bool} {held : Bool}

theorem get_byL {l : List Nat} {j : Nat} {c : C} (h : (byL l)[j]? = some c) : j < l.length ∧ c = .int .u8 (byth l j : Nat) := by
  have hj : j < l.length := by
    have := (List.getElem?_eq_some_iff.1 h).1
    rwa [len_byL] at this
  refine ⟨hj, ?_⟩
  rw [byL, List.getElem?_map, List.getElem?_eq_getElem hj] at h
  simp at h
  rw [byth_eq hj, ← h]
theorem open_by_list {t e : TypeId} {fuel : Nat} {cs : List Value} {x : DataW H × List MemPlace} (ht : P.underlying t = some (.slice e)) (he : P.underlying e = some (.int .u8)) (hc : P.cellsOf e = 1)
    (h : DataW.trod enc P w base spare held fuel t cs = some x) : ∃ l v, cs = [v] ∧ CR w (fun _ => False) (bys l) v ∧ BoundB l ∧ (l = [] ∨ ∃ es sp, x.1 = .slice es sp ∧ es.length = l.length) := by
  rcases open_ints ht he hc h with ⟨rfl, _⟩ | ⟨a, len, cap, zs, rfl, hb, hl, hm, hz, rfl, hcell, hwf⟩
  · exact ⟨[], _, rfl, .sl 0 0 [] none (fun _ => default) (Nat.le_refl _) (fun h => by simp at h) (fun j c h => by simp at h), ⟨by simp, by simp⟩, .inl rfl⟩
  · have hlen : len ≤ zs.length := by
      rw [hz]
      split
      · exact hl
      · exact Nat.le_refl _
    have hlen2 : ((zs.take len).map Int.toNat).length = len := by simp [Nat.min_eq_left hlen]
    have at_ : ∀ j, j < len → zs.getD j 0 = (byth ((zs.take len).map Int.toNat) j : Nat) ∧ byth ((zs.take len).map Int.toNat) j < 256 := fun j hj => by
      have h1 : zs[j]? = some (zs[j]'(by omega)) := List.getElem?_eq_getElem (by omega)
      obtain ⟨m, h2, h3⟩ := wf_u8 (hwf _ (List.getElem_mem (show j < zs.length by omega)))
      have h4 : byth ((zs.take len).map Int.toNat) j = m := by
        rw [byth_eq (by omega)]
        simp [h2]
      rw [h4]
      refine ⟨by rw [List.getD, h1]; exact h2, h3⟩
    refine ⟨(zs.take len).map Int.toNat, _, rfl, ?_, ⟨fun y hy => ?_, by rw [hlen2]; omega⟩, .inr ⟨_, _, rfl, by simp [lits]⟩⟩
    · have e1 : bys ((zs.take len).map Int.toNat) = .sl len (byL ((zs.take len).map Int.toNat)) := by rw [bys, hlen2]
      rw [e1]
      refine .sl len cap _ (some a) (fun j => .int .u8 (zs.getD j 0)) hl (fun _ => ⟨a, rfl, id, fun j hj => hcell j (by rw [len_byL, hlen2] at hj; omega)⟩) (fun j c hj => ?_)
      obtain ⟨h1, rfl⟩ := get_byL hj
      rw [hlen2] at h1
      rw [(at_ j h1).1]
      exact .int _ _
    · obtain ⟨j, hj, rfl⟩ := List.mem_iff_getElem.1 hy
      rw [hlen2] at hj
      rw [← byth_eq]
      exact (at_ j hj).2

theorem get_t3L : ∀ {l : List T3} {j : Nat} {c : C}, (t3L l)[j]? = some c → j / 3 < l.length ∧ (t3C (t3th l (j / 3)))[j % 3]? = some c
  | [], j, c, h => by simp [t3L] at h
  | e :: r, j, c, h => by
    have e1 : t3L (e :: r) = t3C e ++ t3L r := by simp [t3L]
    rw [e1] at h
    by_cases hj : j < 3
    · rw [List.getElem?_append_left (by simpa [t3C] using hj)] at h
      have h1 : j / 3 = 0 := by omega
      have h2 : j % 3 = j := by omega
      rw [h1, h2]
      exact ⟨by simp, by simpa [t3th] using h⟩
    · rw [List.getElem?_append_right (by simp [t3C]; omega)] at h
      have hl : (t3C e).length = 3 := rfl
      rw [hl] at h
      obtain ⟨i1, i2⟩ := get_t3L h
      have h1 : j / 3 = (j - 3) / 3 + 1 := by omega
      have h2 : j % 3 = (j - 3) % 3 := by omega
      rw [h1, h2]
      exact ⟨by simpa using i1, by simpa [t3th] using i2⟩

/-- An array, opened. -/
theorem trod_array {t e : TypeId} {n fuel : Nat} {cs : List Value} {x : DataW H × List MemPlace} (ht : P.underlying t = some (.array n e)) (h : DataW.trod enc P w base spare held fuel t cs = some x) :
    ∃ (xs : List (DataW H × List MemPlace)) (m : Nat), fuel = m + 1 ∧ x = (.agg (xs.map (·.1)), xs.flatMap (·.2)) ∧ cs.length = P.cellsOf t ∧ xs.length = n ∧
      ∀ (i : Nat), i < n → DataW.trod enc P w base spare held m e ((cs.drop (i * P.cellsOf e)).take (P.cellsOf e)) = xs[i]? := by
  cases fuel with
  | zero => simp [DataW.trod] at h
  | succ m =>
    unfold DataW.trod at h
    rw [ht] at h
    split at h <;> simp_all
    obtain ⟨hl, xs, hp, hd⟩ := h
    exact ⟨xs, hd.symm, by simpa using mapM_some_length hp, fun i hi => mapM_some_get hp i i (by simp [hi])⟩

theorem open_t3 {t e : TypeId} {fuel : Nat} {cs : List Value} {x : DataW H × List MemPlace} (ht : P.underlying t = some (.array 3 e)) (he : P.underlying e = some (.int .u8)) (hc : P.cellsOf e = 1) (hct : P.cellsOf t = 3)
    (h : DataW.trod enc P w base spare held fuel t cs = some x) : ∃ d : T3, d.small ∧ cs = [.int .u8 (d.a : Nat), .int .u8 (d.b : Nat), .int .u8 (d.c : Nat)] := by
  obtain ⟨xs, n, _, _, hl, hlen, hfs⟩ := trod_array ht h
  rw [hct] at hl
  rw [hc] at hfs
  match xs, hlen, cs, hl with
  | [y0, y1, y2], _, [a, b, c], _ =>
    have g0 := hfs 0 (by omega)
    have g1 := hfs 1 (by omega)
    have g2 := hfs 2 (by omega)
    obtain ⟨p, e0, _, w0⟩ := DataW.trod_int he g0
    obtain ⟨q, e1, _, w1⟩ := DataW.trod_int he g1
    obtain ⟨r, e2, _, w2⟩ := DataW.trod_int he g2
    obtain ⟨p', rfl, hp⟩ := wf_u8 w0
    obtain ⟨q', rfl, hq⟩ := wf_u8 w1
    obtain ⟨r', rfl, hr⟩ := wf_u8 w2
    simp at e0 e1 e2
    exact ⟨⟨p', q', r'⟩, ⟨hp, hq, hr⟩, by rw [e0, e1, e2]⟩

theorem open_t3_list {t e q : TypeId} {fuel : Nat} {cs : List Value} {x : DataW H × List MemPlace} (ht : P.underlying t = some (.slice e)) (he : P.underlying e = some (.array 3 q)) (hq : P.underlying q = some (.int .u8)) (hc : P.cellsOf q = 1) (hct : P.cellsOf e = 3)
    (h : DataW.trod enc P w base spare held fuel t cs = some x) : ∃ l v, cs = [v] ∧ CR w (fun _ => False) (t3s l) v ∧ (∀ x ∈ l, T3.small x) ∧ l.length ≤ maxLen := by
  rcases open_slice ht h with ⟨rfl, _⟩ | ⟨a, len, cap, m, n, D, Pl, rfl, hb, hl, hm, hmm, rfl, hx⟩
  · exact ⟨[], _, rfl, .sl 0 0 [] none (fun _ => default) (Nat.le_refl _) (fun h => by simp [t3L] at h) (fun j c h => by simp [t3L] at h), by simp, by simp⟩
  · have hlen : len ≤ m := by
      rw [hmm]
      split
      · exact hl
      · exact Nat.le_refl _
    obtain ⟨F, hF⟩ := choose_lt (α := T3) (p := fun i d => d.small ∧ w.cell? (a.add (i * 3)) = some (.int .u8 (d.a : Nat)) ∧ w.cell? (a.add (i * 3 + 1)) = some (.int .u8 (d.b : Nat)) ∧ w.cell? (a.add (i * 3 + 2)) = some (.int .u8 (d.c : Nat))) (fun i (hi : i < m) => by
      obtain ⟨cs', g1, g2⟩ := hx i hi
      rw [hct] at g1
      obtain ⟨_, _, g3⟩ := World.cells?_some g1
      obtain ⟨d, hs, rfl⟩ := open_t3 he hq hc hct g2
      have c0 := g3 0 (by omega)
      have c1 := g3 1 (by omega)
      have c2 := g3 2 (by omega)
      rw [Addr.add_add] at c0 c1 c2
      exact ⟨d, hs, by simpa using c0, by simpa using c1, by simpa using c2⟩)
    have hl2 : ((List.range len).map F).length = len := by simp
    have key : ∀ i, i < len → t3th ((List.range len).map F) i = F i := fun i hi => by simp [t3th, hi]
    refine ⟨(List.range len).map F, _, rfl, ?_, fun y hy => ?_, by rw [hl2]; omega⟩
    · have e1 : t3s ((List.range len).map F) = .sl len (t3L ((List.range len).map F)) := by rw [t3s, hl2]
      rw [e1]
      let U : Nat → Value := fun j => if j % 3 = 0 then .int .u8 ((F (j / 3)).a : Nat) else if j % 3 = 1 then .int .u8 ((F (j / 3)).b : Nat) else .int .u8 ((F (j / 3)).c : Nat)
      refine .sl len cap _ (some a) U hl (fun _ => ⟨a, rfl, id, fun j hj => ?_⟩) (fun j c hj => ?_)
      · rw [len_t3L, hl2] at hj
        obtain ⟨_, g0, g1, g2⟩ := hF (j / 3) (by omega)
        have hcase : j % 3 = 0 ∨ j % 3 = 1 ∨ j % 3 = 2 := by omega
        rcases hcase with e | e | e
        · have : j = j / 3 * 3 := by omega
          simp only [U, e, if_true]
          rw [this]; simpa using g0
        · have : j = j / 3 * 3 + 1 := by omega
          simp only [U, e]
          rw [show a.add j = a.add (j / 3 * 3 + 1) by rw [← this]]
          simpa using g1
        · have : j = j / 3 * 3 + 2 := by omega
          simp only [U, e]
          rw [show a.add j = a.add (j / 3 * 3 + 2) by rw [← this]]
          simpa using g2
      · obtain ⟨q1, q2⟩ := get_t3L hj
        rw [hl2] at q1
        rw [key _ q1] at q2
        have hcase : j % 3 = 0 ∨ j % 3 = 1 ∨ j % 3 = 2 := by omega
        rcases hcase with e | e | e <;> (rw [e] at q2; simp [t3C] at q2; subst q2; simp only [U, e]; exact CR.int _ _)
    · obtain ⟨i, hi, rfl⟩ := List.mem_map.1 hy
      exact (hF i (by have := List.mem_range.1 hi; omega)).1
end

/-! ### What opens, as words -/
def OpensB (P : Program) (t : TypeId) : Prop := ∀ (H : Type) (enc : TypeId × Value → H) (w : World) (base : Nat) (spare : Nat → Bool) (held : Bool) (fuel : Nat) (cs : List Value) (x : DataW H × List MemPlace),
  DataW.trod enc P w base spare held fuel t cs = some x → ∃ l v, cs = [v] ∧ CR w (fun _ => False) (bys l) v ∧ BoundB l ∧ (l = [] ∨ ∃ es sp, x.1 = .slice es sp ∧ es.length = l.length)
def OpensT (P : Program) (t : TypeId) : Prop := ∀ (H : Type) (enc : TypeId × Value → H) (w : World) (base : Nat) (spare : Nat → Bool) (held : Bool) (fuel : Nat) (cs : List Value) (x : DataW H × List MemPlace),
  DataW.trod enc P w base spare held fuel t cs = some x → ∃ l v, cs = [v] ∧ CR w (fun _ => False) (t3s l) v ∧ (∀ x ∈ l, T3.small x) ∧ l.length ≤ maxLen
def OpensD (P : Program) (t : TypeId) : Prop := ∀ (H : Type) (enc : TypeId × Value → H) (w : World) (base : Nat) (spare : Nat → Bool) (held : Bool) (v : Value) (d : DataW H) (ps : List MemPlace),
  DataW.Trod enc P w base spare held t v d ps → ∃ x : Dr, TVR w (fun _ => False) x.v v ∧ BoundD x

theorem tvr_cells {w : World} {Z : Nat → Prop} {us : Array Value} {cs : List C} {vs : List Value} (e : us.toList = vs) (hl : cs.length = vs.length) (h : ∀ (j : Nat) c u, cs[j]? = some c → vs[j]? = some u → CR w Z c u) : TVR w Z (true, cs) (.agg us) :=
  ⟨us, rfl, by rw [e]; exact hl, fun j c u hc hu => h j c u hc (by rw [← e]; exact hu)⟩
theorem agg_of {v : Value} {vs : List Value} (e : v.cells.toList = vs) (h : vs.length ≠ 1) : ∃ us : Array Value, v = .agg us ∧ us.toList = vs := by
  cases v <;> first | exact ⟨_, rfl, e⟩ | (simp [Value.cells] at e; subst e; simp at h)

theorem opensD {P : Program} {t a b : TypeId} {f0 f1 : Field} (ht : P.underlying t = some (.struct #[f0, f1])) (hf : f0.type = a ∧ f1.type = b ∧ f0.offset = 0 ∧ f1.offset = 1) (hc : P.cellsOf t = 2) (ha : P.cellsOf a = 1) (hb : P.cellsOf b = 1) (oa : OpensB P a) (ob : OpensT P b) : OpensD P t := by
  rintro H enc w base spare held v d ps ⟨fuel, h⟩
  obtain ⟨y0, y1, n, _, hl, g0, g1⟩ := trod_struct2 ht h
  obtain ⟨rfl, rfl, o0, o1⟩ := hf
  rw [o0, ha] at g0
  rw [o1, hb] at g1
  rw [hc] at hl
  match hu : v.cells.toList, hl with
  | [u, v'], _ =>
    rw [hu] at g0 g1
    obtain ⟨l, v0, e0, c0, b0, _⟩ := oa _ _ _ _ _ _ _ _ _ g0
    obtain ⟨l1, v1, e1, c1, b1, b2⟩ := ob _ _ _ _ _ _ _ _ _ g1
    simp at e0 e1
    subst e0 e1
    obtain ⟨us, rfl, e⟩ := agg_of hu (by simp)
    refine ⟨⟨l, l1⟩, tvr_cells e rfl fun j c u hc hu' => ?_, b0, b1, b2⟩
    match j, hc, hu' with
    | 0, hc, hu' | 1, hc, hu' =>
      simp at hc hu'
      subst hc hu'
      assumption
    | j + 2, hc, _ => simp at hc

section
variable {H : Type} {enc : TypeId × Value → H} {P : Program} {w : World} {base : Nat} {spare : Nat → Bool} {held : Bool} {v : Value} {d : DataW H} {ps : List MemPlace} {t e : TypeId}
theorem opens_bytes (o : OpensB P t) (h : DataW.Trod enc P w base spare held t v d ps) (hv : v.cells.toList.length = 1 → v.cells.toList = [v]) : ∃ l, TVR w (fun _ => False) (byV l) v ∧ BoundB l ∧ (l = [] ∨ ∃ es sp, d = .slice es sp ∧ es.length = l.length) := by
  obtain ⟨fuel, h⟩ := h
  obtain ⟨l, u, e, c, b, k⟩ := o _ _ _ _ _ _ _ _ _ h
  have := hv (by rw [e]; rfl)
  rw [e] at this
  simp at this
  subst this
  exact ⟨l, ⟨_, rfl, c⟩, b, k⟩
theorem opens_bytes2 (o : OpensB P e) (ht : P.underlying t = some (.array 2 e)) (hc : P.cellsOf e = 1) (hct : P.cellsOf t = 2) (h : DataW.Trod enc P w base spare held t v d ps) : ∃ l, TVR w (fun _ => False) (by2V l) v ∧ BoundB2 l := by
  obtain ⟨fuel, h⟩ := h
  obtain ⟨xs, n, _, _, hl, hlen, hfs⟩ := trod_array ht h
  rw [hct] at hl
  rw [hc] at hfs
  match xs, hlen, hu : v.cells.toList, hl with
  | [y0, y1], _, [a, b], _ =>
    rw [hu] at hfs
    obtain ⟨l0, v0, e0, c0, b0, _⟩ := o _ _ _ _ _ _ _ _ _ (hfs 0 (by omega))
    obtain ⟨l1, v1, e1, c1, b1, _⟩ := o _ _ _ _ _ _ _ _ _ (hfs 1 (by omega))
    simp at e0 e1
    subst e0 e1
    obtain ⟨us, rfl, e⟩ := agg_of hu (by simp)
    refine ⟨(l0, l1), tvr_cells e rfl fun j c u hc hu' => ?_, b0, b1⟩
    match j, hc, hu' with
    | 0, hc, hu' | 1, hc, hu' =>
      simp at hc hu'
      subst hc hu'
      assumption
    | j + 2, hc, _ => simp at hc
theorem opens_bytes3 (o : OpensB P e) (ht : P.underlying t = some (.array 3 e)) (hc : P.cellsOf e = 1) (hct : P.cellsOf t = 3) (h : DataW.Trod enc P w base spare held t v d ps) : ∃ l, TVR w (fun _ => False) (by3V l) v ∧ BoundB3 l := by
  obtain ⟨fuel, h⟩ := h
  obtain ⟨xs, n, _, _, hl, hlen, hfs⟩ := trod_array ht h
  rw [hct] at hl
  rw [hc] at hfs
  match xs, hlen, hu : v.cells.toList, hl with
  | [y0, y1, y2], _, [a, b, c], _ =>
    rw [hu] at hfs
    obtain ⟨l0, v0, e0, c0, b0, _⟩ := o _ _ _ _ _ _ _ _ _ (hfs 0 (by omega))
    obtain ⟨l1, v1, e1, c1, b1, _⟩ := o _ _ _ _ _ _ _ _ _ (hfs 1 (by omega))
    obtain ⟨l2, v2, e2, c2, b2, _⟩ := o _ _ _ _ _ _ _ _ _ (hfs 2 (by omega))
    simp at e0 e1 e2
    subst e0 e1 e2
    obtain ⟨us, rfl, e⟩ := agg_of hu (by simp)
    refine ⟨(l0, l1, l2), tvr_cells e rfl fun j c u hc hu' => ?_, b0, b1, b2⟩
    match j, hc, hu' with
    | 0, hc, hu' | 1, hc, hu' | 2, hc, hu' =>
      simp at hc hu'
      subst hc hu'
      assumption
    | j + 3, hc, _ => simp at hc
theorem opens_u64 (ht : P.underlying t = some (.int .u64)) (h : DataW.Trod enc P w base spare held t v d ps) (hv : v.cells.toList.length = 1 → v.cells.toList = [v]) : ∃ n, TVR w (fun _ => False) (u64V n) v ∧ BoundU n := by
  obtain ⟨fuel, h⟩ := h
  obtain ⟨n, e, _, hw⟩ := DataW.trod_int ht h
  obtain ⟨m, rfl, hm⟩ := wf_u64 hw
  have := hv (by rw [e]; rfl)
  rw [e] at this
  simp at this
  subst this
  exact ⟨m, ⟨_, rfl, .int _ _⟩, hm⟩
theorem opens_u64s (ht : P.underlying t = some (.array 2 e)) (he : P.underlying e = some (.int .u64)) (hc : P.cellsOf e = 1) (hct : P.cellsOf t = 2) (h : DataW.Trod enc P w base spare held t v d ps) : ∃ l, TVR w (fun _ => False) (u642V l) v ∧ BoundUU l := by
  obtain ⟨fuel, h⟩ := h
  obtain ⟨xs, n, _, _, hl, hlen, hfs⟩ := trod_array ht h
  rw [hct] at hl
  rw [hc] at hfs
  match xs, hlen, hu : v.cells.toList, hl with
  | [y0, y1], _, [a, b], _ =>
    rw [hu] at hfs
    obtain ⟨p, e0, _, w0⟩ := DataW.trod_int he (hfs 0 (by omega))
    obtain ⟨q, e1, _, w1⟩ := DataW.trod_int he (hfs 1 (by omega))
    obtain ⟨p', rfl, hp⟩ := wf_u64 w0
    obtain ⟨q', rfl, hq⟩ := wf_u64 w1
    simp at e0 e1
    subst e0 e1
    obtain ⟨us, rfl, e⟩ := agg_of hu (by simp)
    refine ⟨(p', q'), tvr_cells e rfl fun j c u hc hu' => ?_, hp, hq⟩
    match j, hc, hu' with
    | 0, hc, hu' | 1, hc, hu' =>
      simp at hc hu'
      subst hc hu'
      exact .int _ _
    | j + 2, hc, _ => simp at hc
end
end Go.Proofs.Ythapbbpdcjmmfaa.Abs

/- Contracts: the part that bits mean. -/
namespace Go.Proofs.Ythapbbpdcjmmfaa
open Abs
set_option linter.unusedSimpArgs false
set_option linter.unusedVariables false
attribute [local simp] rn0 rn1 rn2 rn3 rn4 rn5 rn6 rn7 evOp nests Arg.ev St.val St.set St.new sliceOf binInt2 binInt AV.cells rdAt St.live retOf resOf resAll treeOf treeCell treeCells treeTups untree frameOf TV.av TR.av ints edgs prs fillV splice intsOf trees V1.tree bx Gr.v Pa.v opRd opWr opNew opNewR opArgs argsRd argRd Arg.rd AV.refs V1.refs refsL dstL

def bitN (set k : Nat) : Bool := decide (set / 2 ^ (k % 64) % 2 = 1)
def bitF (set off i : Nat) : Option Int := if bitN set (off + i) = true then some (i : Int) else none
/-- The numbers below k whose bits are set. -/
def bitsL (set off k : Nat) : List Int := collect (bitF set off) k
theorem mem_bits {set off k : Nat} {x : Int} : x ∈ bitsL set off k ↔ ∃ i : Nat, i < k ∧ bitN set (off + i) = true ∧ x = i := by
  simp only [bitsL, mem_collect, bitF]
  constructor
  · rintro ⟨i, h1, h2⟩
    split at h2
    · rename_i h
      exact ⟨i, h1, h, by simpa using h2.symm⟩
    · cases h2
  · rintro ⟨i, h1, h2, rfl⟩
    exact ⟨i, h1, by rw [if_pos h2]⟩
theorem mark_bit {set off n k : Nat} (h : k < n) : (markC (bitsL set off k) n).take k ++ .t (.bool (bitN set (off + k))) :: (markC (bitsL set off k) n).drop (k + 1) = markC (bitsL set off (k + 1)) n := by
  by_cases hb : bitN set (off + k) = true
  · have e : bitsL set off (k + 1) = bitsL set off k ++ [(k : Int)] := collect_some (by simp [bitF, hb])
    rw [e, hb]
    exact mark_set h
  · have e : bitsL set off (k + 1) = bitsL set off k := collect_none (by simp [bitF, hb])
    have hn : (k : Int) ∉ bitsL set off k := fun hm => by
      obtain ⟨i, h1, _, h3⟩ := mem_bits.1 hm
      omega
    have hb2 : bitN set (off + k) = false := by simpa using hb
    rw [e, hb2]
    have d := drop_mark (g := bitsL set off k) h
    rw [decide_eq_false hn] at d
    rw [← d, List.take_append_drop]
theorem rem64 {a : Nat} : ((a : Int)).tmod 64 = ((a % 64 : Nat) : Int) := (Int.ofNat_tmod a 64).symm
theorem bit_at {set k : Nat} : decide (IntKind.u64.wrap ((((set : Int).fdiv (2 ^ min (k % 64) IntKind.u64.bits) % ((2 ^ IntKind.u64.bits : Nat) : Int)).toNat &&& 1 % 2 ^ IntKind.u64.bits : Nat) : Int) = 1) = bitN set k := by
  have hb : IntKind.u64.bits = 64 := rfl
  have e : min (k % 64) 64 = k % 64 := by omega
  have e2 : (set : Int).fdiv (2 ^ (k % 64)) = ((set / 2 ^ (k % 64) : Nat) : Int) := by
    rw [Int.fdiv_eq_ediv_of_nonneg _ (Int.pow_nonneg (by decide))]
    simp
  rw [hb, e, e2]
  have e3 : (((set / 2 ^ (k % 64) : Nat) : Int) % ((2 ^ 64 : Nat) : Int)).toNat = set / 2 ^ (k % 64) % 2 ^ 64 := by
    rw [← Int.natCast_emod, Int.toNat_natCast]
  have e4 : (1 % 2 ^ 64 : Nat) = 1 := by decide
  rw [e3, e4, Nat.and_one_is_mod]
  have e5 : set / 2 ^ (k % 64) % 2 ^ 64 % 2 = set / 2 ^ (k % 64) % 2 := by omega
  rw [e5]
  have h2 : set / 2 ^ (k % 64) % 2 < 2 := Nat.mod_lt _ (by decide)
  have e6 : IntKind.u64.wrap ((set / 2 ^ (k % 64) % 2 : Nat) : Int) = ((set / 2 ^ (k % 64) % 2 : Nat) : Int) := by
    simp only [IntKind.wrap, IntKind.signed, hb]
    generalize set / 2 ^ (k % 64) % 2 = z at *
    simp
    omega
  rw [e6]
  unfold bitN
  congr 1
  apply propext
  omega

/-- The part that bits mean. -/
def maskP (g : Gr) (set : Nat) : Pa := ⟨canon g.nodes.length (bitsL set 0 g.nodes.length ++ endsL g (bitsL set g.nodes.length g.edges.length) g.edges.length), canon g.edges.length (bitsL set g.nodes.length g.edges.length)⟩

def c_made7 : MFunc := ⟨54, [.cell 4 true 2], .seq (.region [⟨some 2, .box 0 25 (.tmp 0), none⟩, ⟨some 4, .alloc 1 27 [.nil, .nil], none⟩]) (.seq (.draw [[], [0], [1], [2, 2], [], [4], [5], [6, 6], [3, 0, 1, 2, 3], [7, 8, 0, 1, 2, 3, 4, 5, 6, 7, 8]] [⟨some 9, .fieldA 0 (.tmp 2), none⟩, ⟨some 10, .load false 1 (.tmp 9), none⟩, ⟨some 11, .len (.tmp 10), none⟩, ⟨some 12, .make 67 4 1 1 [.t (.bool false)] (.tmp 11) (.tmp 11), none⟩, ⟨some 13, .fieldA 1 (.tmp 2), none⟩, ⟨some 14, .load false 1 (.tmp 13), none⟩, ⟨some 15, .len (.tmp 14), none⟩, ⟨some 16, .make 71 4 1 1 [.t (.bool false)] (.tmp 15) (.tmp 15), none⟩, ⟨some 5, .mv (.tmp 12), none⟩, ⟨some 6, .mv (.tmp 16), none⟩]) (.seq (.seq (.region [⟨some 7, .mv (.c (.one (.t (.int .i64 0)))), none⟩]) (.block 0 (.loop (.seq (.seq (.region [⟨some 17, .mv (.tmp 7), none⟩, ⟨some 18, .mv (.tmp 5), none⟩, ⟨some 19, .len (.tmp 18), none⟩, ⟨some 20, .bin .lss (.tmp 17) (.tmp 19), none⟩]) (.cond (.tmp 20) .skip (.exit 0))) (.seq (.block 1 (.region [⟨some 23, .mv (.tmp 5), none⟩, ⟨some 24, .mv (.tmp 7), none⟩, ⟨some 25, .mv (.tmp 1), none⟩, ⟨some 26, .mv (.tmp 7), none⟩, ⟨some 27, .bin .rem (.tmp 26) (.c (.one (.t (.int .i64 64)))), none⟩, ⟨some 28, .bin .shr (.tmp 25) (.tmp 27), none⟩, ⟨some 29, .bin .and (.tmp 28) (.c (.one (.t (.int .u64 1)))), none⟩, ⟨some 30, .bin .eql (.tmp 29) (.c (.one (.t (.int .u64 1)))), none⟩, ⟨some 31, .idxA 1 (.tmp 23) (.tmp 24), none⟩, ⟨none, .store 1 (.tmp 31) (.tmp 30), none⟩])) (.region [⟨some 21, .mv (.tmp 7), none⟩, ⟨some 22, .bin .add (.tmp 21) (.c (.one (.t (.int .i64 1)))), none⟩, ⟨some 7, .mv (.tmp 22), none⟩])))))) (.seq (.seq (.region [⟨some 8, .mv (.c (.one (.t (.int .i64 0)))), none⟩]) (.block 2 (.loop (.seq (.seq (.region [⟨some 32, .mv (.tmp 8), none⟩, ⟨some 33, .mv (.tmp 6), none⟩, ⟨some 34, .len (.tmp 33), none⟩, ⟨some 35, .bin .lss (.tmp 32) (.tmp 34), none⟩]) (.cond (.tmp 35) .skip (.exit 2))) (.seq (.block 3 (.region [⟨some 38, .mv (.tmp 6), none⟩, ⟨some 39, .mv (.tmp 8), none⟩, ⟨some 40, .mv (.tmp 1), none⟩, ⟨some 41, .mv (.tmp 5), none⟩, ⟨some 42, .len (.tmp 41), none⟩, ⟨some 43, .mv (.tmp 8), none⟩, ⟨some 44, .bin .add (.tmp 42) (.tmp 43), none⟩, ⟨some 45, .bin .rem (.tmp 44) (.c (.one (.t (.int .i64 64)))), none⟩, ⟨some 46, .bin .shr (.tmp 40) (.tmp 45), none⟩, ⟨some 47, .bin .and (.tmp 46) (.c (.one (.t (.int .u64 1)))), none⟩, ⟨some 48, .bin .eql (.tmp 47) (.c (.one (.t (.int .u64 1)))), none⟩, ⟨some 49, .idxA 1 (.tmp 38) (.tmp 39), none⟩, ⟨none, .store 1 (.tmp 49) (.tmp 48), none⟩])) (.region [⟨some 36, .mv (.tmp 8), none⟩, ⟨some 37, .bin .add (.tmp 36) (.c (.one (.t (.int .i64 1)))), none⟩, ⟨some 8, .mv (.tmp 37), none⟩])))))) (.seq (.region [⟨some 50, .load true 2 (.tmp 2), none⟩, ⟨some 51, .mv (.tmp 5), none⟩, ⟨some 52, .mv (.tmp 6), none⟩, ⟨some 53, .call (.c (.one (.fn 60 []))) 643 [.tmp 50, .tmp 51, .tmp 52], none⟩, ⟨none, .store 2 (.tmp 4) (.tmp 53), none⟩]) .ret))))⟩
theorem k_made7 : cFn Try.prog Try.f30 = some c_made7 := by kernel_rfl
set_option maxHeartbeats 2000000 in
theorem made7_ok (g : Gr) (set : Nat) (go : GrOk g) : CallOK Try.prog 30 [g.v, u64V set] (.sv (maskP g set).v) := by
  refine callOK_W (callS_W (by kernel_rfl) Try.func30 k_made7 (callable_of Try.func30 (by kernel_rfl)) (by simp [c_made7]) ?_)
  have hn := go.n
  have he := go.e
  have hn8 : g.nodes.length ≤ 140737488355328 := by omega
  have hn9 : (g.nodes.length : Int) ≤ 9223372036854775807 := by omega
  have he8 : g.edges.length ≤ 140737488355328 := by omega
  have he9 : (g.edges.length : Int) ≤ 9223372036854775807 := by omega
  simp [c_made7, dw0, dw1, dw2, dw3, u64V, hn8, hn9, he8, he9, mark_nil]
  refine ⟨rfl, ?_⟩
  refine loopW_count 7 g.nodes.length (fun k S => S.fr 1 = .one (.t (.int .u64 set)) ∧ S.fr 2 = .one (.ptr (0, 0) 0) ∧ S.fr 4 = .one (.ptr (1, 0) 0) ∧ S.fr 5 = .one (.row (67, 0)) ∧ S.fr 6 = .one (.row (71, 0)) ∧
    S.ob (0, 0) = some (bx 25 (g.v.2.map .t)) ∧ S.ob (1, 0) = some (bx 27 [.nil, .nil]) ∧
    S.ob (67, 0) = some ⟨true, true, false, 1, g.nodes.length, 4, markC (bitsL set 0 k) g.nodes.length⟩ ∧ S.ob (71, 0) = some ⟨true, true, false, 1, g.edges.length, 4, markC [] g.edges.length⟩) (show g.nodes.length ≤ 9000000000000000000 by omega) ?_ ?_ ?_
  · simp [bitsL, collect]
  · rintro k S hlt hw hc ⟨f1, f2, f4, f5, f6, o0, o1, o2, o3⟩
    have ms := mark_bit (set := set) (off := 0) hlt
    have hx3 : k + 1 ≤ g.nodes.length := by omega
    rw [Nat.zero_add] at ms
    simp [f1, f2, f4, f5, f6, o0, o1, o2, o3, hc, hlt, hw, hx3, len_mark, rem64, bit_at, ms, -Int.natCast_emod, -Int.natCast_ediv, -Int.natCast_pow]
  · rintro S hc ⟨f1, f2, f4, f5, f6, o0, o1, o2, o3⟩
    simp [f1, f2, f4, f5, f6, o0, o1, o2, o3, hc]
    refine loopW_count 8 g.edges.length (fun k S => S.fr 1 = .one (.t (.int .u64 set)) ∧ S.fr 2 = .one (.ptr (0, 0) 0) ∧ S.fr 4 = .one (.ptr (1, 0) 0) ∧ S.fr 5 = .one (.row (67, 0)) ∧ S.fr 6 = .one (.row (71, 0)) ∧
      S.ob (0, 0) = some (bx 25 (g.v.2.map .t)) ∧ S.ob (1, 0) = some (bx 27 [.nil, .nil]) ∧
      S.ob (67, 0) = some ⟨true, true, false, 1, g.nodes.length, 4, markC (bitsL set 0 g.nodes.length) g.nodes.length⟩ ∧ S.ob (71, 0) = some ⟨true, true, false, 1, g.edges.length, 4, markC (bitsL set g.nodes.length k) g.edges.length⟩) (show g.edges.length ≤ 9000000000000000000 by omega) ?_ ?_ ?_
    · simp [f1, f2, f4, f5, f6, o0, o1, o2, o3, bitsL, collect]
    · rintro k S hlt hw hc ⟨f1, f2, f4, f5, f6, o0, o1, o2, o3⟩
      have ms := mark_bit (set := set) (off := g.nodes.length) hlt
      have hx3 : k + 1 ≤ g.edges.length := by omega
      have hw2 : IntKind.i64.wrap ((g.nodes.length : Int) + (k : Int)) = ((g.nodes.length + k : Nat) : Int) := by
        rw [wrap64_id] <;> omega
      simp [f1, f2, f4, f5, f6, o0, o1, o2, o3, hc, hlt, hw, hw2, hx3, len_mark, rem64, bit_at, ms, -Int.natCast_emod, -Int.natCast_ediv, -Int.natCast_pow, -Int.natCast_add]
    · rintro S hc ⟨f1, f2, f4, f5, f6, o0, o1, o2, o3⟩
      simp [f1, f2, f4, f5, f6, o0, o1, o2, o3, hc]
      refine callS_freeze [(67, 0), (71, 0)] (callS_tree (least_ok g (bitsL set 0 g.nodes.length) (bitsL set g.nodes.length g.edges.length) go) ?_ ?_ ?_)
      · simp [argTrees, argTree, frzAll, frzOne, o0, o1, o2, o3, markC_eq, untree_t]
      · simp [frzAll, frzOne, o0, o1, o2, o3, AV.still, V1.still]
      simp [frzAll, frzOne, f1, f2, f4, f5, f6, o0, o1, o2, o3, hc, maskP]
end Go.Proofs.Ythapbbpdcjmmfaa

/- What repairs a part: one round, and the rounds. -/
namespace Go.Proofs.Ythapbbpdcjmmfaa
open Abs
set_option linter.unusedSimpArgs false
set_option linter.unusedVariables false

def flatP (l : List (Int × Int)) : List Int := l.flatMap fun x => [x.1, x.2]
/-- The places of a morphism's nodes that go to an end of an edge. -/
def touchF (m : Pa) (e : Ed) (i : Nat) : Option Int := if nth m.nodes i = e.f then some i else if nth m.nodes i = e.g then some i else none
def touchL (m : Pa) (e : Ed) : List Int := collect (touchF m e) m.nodes.length
def looseL (g : Gr) (p m : Pa) : List Int := (danglL g p m).flatMap fun k => touchL m (eth g.edges k.toNat)
def edgesS (p m : Pa) : List Int := p.edges ++ flatP (pairsL m.edges p.edges)
def nodesS (g : Gr) (p m : Pa) : List Int := p.nodes ++ flatP (pairsL m.nodes p.nodes) ++ looseL g p m
/-- One round. -/
def stepP (l g : Gr) (p m : Pa) : Pa := ⟨canon l.nodes.length (nodesS g p m ++ endsL l (edgesS p m) l.edges.length), canon l.edges.length (edgesS p m)⟩
/-- So many rounds, or as many as turn something. -/
def repN (l g : Gr) (m : Pa) : Nat → Pa → Pa
  | 0, p => p
  | k + 1, p => if (stepP l g p m).nodes.length = p.nodes.length ∧ (stepP l g p m).edges.length = p.edges.length then stepP l g p m else repN l g m k (stepP l g p m)
def repR (l g : Gr) (p m : Pa) : Pa × Int := if caseErr l g p m = 0 then (repN l g m (l.nodes.length + l.edges.length + 1) p, 0) else (⟨[], []⟩, caseErr l g p m)

theorem canon_congr {n : Nat} {a b : List Int} (h : ∀ x : Int, 0 ≤ x → x < n → (x ∈ a ↔ x ∈ b)) : canon n a = canon n b :=
  asc_ext canon_asc canon_asc fun x => by
    rw [mem_canon, mem_canon]
    constructor
    · rintro ⟨h1, h2, h3⟩
      exact ⟨h1, h2, (h x h1 h2).1 h3⟩
    · rintro ⟨h1, h2, h3⟩
      exact ⟨h1, h2, (h x h1 h2).2 h3⟩

theorem canon_self {n : Nat} {a : List Int} (ha : a.Pairwise (· < ·)) (h : ∀ x ∈ a, 0 ≤ x ∧ x < n) : canon n a = a :=
  asc_ext canon_asc ha fun x => by
    rw [mem_canon]
    exact ⟨fun h => h.2.2, fun hx => ⟨(h x hx).1, (h x hx).2, hx⟩⟩

theorem canon_len {n : Nat} {a : List Int} : (canon n a).length ≤ n := collect_len

/-- A part whose numbers are ascending and in range. -/
structure PartOk (l : Gr) (p : Pa) : Prop where
  an : p.nodes.Pairwise (· < ·)
  ae : p.edges.Pairwise (· < ·)
  rn : ∀ x ∈ p.nodes, 0 ≤ x ∧ x < l.nodes.length
  re : ∀ x ∈ p.edges, 0 ≤ x ∧ x < l.edges.length

theorem asc_sub : ∀ {b a : List Int}, a.Pairwise (· < ·) → b.Pairwise (· < ·) → (∀ x ∈ a, x ∈ b) → a.Sublist b
  | [], [], _, _, _ => List.Sublist.slnil
  | [], x :: a, _, _, h => by have := h x (by simp); cases this
  | y :: b, [], _, _, _ => List.nil_sublist _
  | y :: b, x :: a, ha, hb, h => by
    rw [List.pairwise_cons] at ha hb
    rcases List.mem_cons.1 (h x (by simp)) with e | e
    · subst e
      refine List.Sublist.cons_cons _ (asc_sub ha.2 hb.2 fun z hz => ?_)
      rcases List.mem_cons.1 (h z (List.mem_cons_of_mem _ hz)) with e | e
      · have := ha.1 z hz
        omega
      · exact e
    · refine List.Sublist.cons _ (asc_sub (List.pairwise_cons.2 ha) hb.2 fun z hz => ?_)
      have h1 := hb.1 x e
      rcases List.mem_cons.1 (h z hz) with e' | e'
      · rcases List.mem_cons.1 hz with e2 | e2
        · omega
        · have := ha.1 z e2
          omega
      · exact e'

theorem pairs_in {l k : List Int} {x : Int} (h : x ∈ flatP (pairsL l k)) : 0 ≤ x ∧ x < l.length := by
  simp only [flatP, List.mem_flatMap] at h
  obtain ⟨q, hq, hx⟩ := h
  simp only [pairsL, mem_gather] at hq
  obtain ⟨a, ha, hq⟩ := hq
  rw [mem_collect] at hq
  obtain ⟨b, hb, hq⟩ := hq
  simp only [pairF] at hq
  split at hq
  · injection hq with hq
    subst hq
    simp at hx
    rcases hx with rfl | rfl <;> omega
  · cases hq

theorem loose_in {g : Gr} {p m : Pa} {x : Int} (h : x ∈ looseL g p m) : 0 ≤ x ∧ x < m.nodes.length := by
  simp only [looseL, List.mem_flatMap] at h
  obtain ⟨k, _, hx⟩ := h
  simp only [touchL, mem_collect] at hx
  obtain ⟨j, hj, hx⟩ := hx
  simp only [touchF] at hx
  split at hx
  · injection hx with hx; omega
  · split at hx
    · injection hx with hx; omega
    · cases hx

theorem edgesS_in {l : Gr} {p m : Pa} (hp : PartOk l p) (hl : m.edges.length = l.edges.length) : ∀ x ∈ edgesS p m, 0 ≤ x ∧ x < l.edges.length := fun x hx => by
  rcases List.mem_append.1 hx with h | h
  · exact hp.re x h
  · have := pairs_in h
    omega

theorem nodesS_in {l g : Gr} {p m : Pa} (hp : PartOk l p) (hl : m.nodes.length = l.nodes.length) : ∀ x ∈ nodesS g p m, 0 ≤ x ∧ x < l.nodes.length := fun x hx => by
  rcases List.mem_append.1 hx with h | h
  · rcases List.mem_append.1 h with h | h
    · exact hp.rn x h
    · have := pairs_in h
      omega
  · have := loose_in h
    omega

theorem stepP_ok {l g : Gr} {p m : Pa} : PartOk l (stepP l g p m) :=
  ⟨canon_asc, canon_asc, fun x hx => ⟨(mem_canon.1 hx).1, (mem_canon.1 hx).2.1⟩, fun x hx => ⟨(mem_canon.1 hx).1, (mem_canon.1 hx).2.1⟩⟩

theorem step_ge {l g : Gr} {p m : Pa} (hp : PartOk l p) : p.nodes.Sublist (stepP l g p m).nodes ∧ p.edges.Sublist (stepP l g p m).edges :=
  ⟨asc_sub hp.an canon_asc fun x hx => mem_canon.2 ⟨(hp.rn x hx).1, (hp.rn x hx).2, by simp [nodesS, hx]⟩, asc_sub hp.ae canon_asc fun x hx => mem_canon.2 ⟨(hp.re x hx).1, (hp.re x hx).2, by simp [edgesS, hx]⟩⟩

theorem PartOk.len {l : Gr} {p : Pa} (h : PartOk l p) : p.nodes.length ≤ l.nodes.length ∧ p.edges.length ≤ l.edges.length := by
  have e1 := canon_self h.an h.rn
  have e2 := canon_self h.ae h.re
  exact ⟨by rw [← e1]; exact canon_len, by rw [← e2]; exact canon_len⟩

/-- What is still to be gained. -/
def gap (l : Gr) (p : Pa) : Nat := (l.nodes.length - p.nodes.length) + (l.edges.length - p.edges.length)

/-- It stays. -/
def fixedP (l g : Gr) (p m : Pa) : Prop := (stepP l g p m).nodes.length = p.nodes.length ∧ (stepP l g p m).edges.length = p.edges.length
instance (l g : Gr) (p m : Pa) : Decidable (fixedP l g p m) := inferInstanceAs (Decidable (_ ∧ _))

theorem gap_lt {l g : Gr} {p m : Pa} (hp : PartOk l p) (h : ¬ fixedP l g p m) : gap l (stepP l g p m) < gap l p := by
  have h1 := (step_ge (g := g) (m := m) hp).1.length_le
  have h2 := (step_ge (g := g) (m := m) hp).2.length_le
  have h3 := (stepP_ok (l := l) (g := g) (p := p) (m := m)).len
  simp only [fixedP] at h
  simp only [gap]
  omega

theorem fixed_eq {l g : Gr} {p m : Pa} (hp : PartOk l p) : fixedP l g p m ↔ (stepP l g p m).nodes = p.nodes ∧ (stepP l g p m).edges = p.edges := by
  constructor
  · rintro ⟨h1, h2⟩
    exact ⟨((step_ge (g := g) (m := m) hp).1.eq_of_length_le (by omega)).symm, ((step_ge (g := g) (m := m) hp).2.eq_of_length_le (by omega)).symm⟩
  · rintro ⟨h1, h2⟩
    exact ⟨by rw [h1], by rw [h2]⟩

/-- Where the rounds stand. -/
def RepAt (l g : Gr) (m : Pa) (R p : Pa) : Prop := PartOk l p ∧ ∃ k, gap l p < k ∧ repN l g m k p = R

theorem rep_start {l g : Gr} {p m : Pa} (hp : PartOk l p) : RepAt l g m (repN l g m (l.nodes.length + l.edges.length + 1) p) p := ⟨hp, _, by simp only [gap]; omega, rfl⟩
theorem rep_stop {l g : Gr} {p m R : Pa} (h : RepAt l g m R p) (hf : fixedP l g p m) : stepP l g p m = R := by
  obtain ⟨_, k, hk, rfl⟩ := h
  cases k with
  | zero => omega
  | succ k =>
    simp only [fixedP] at hf
    simp only [repN, if_pos hf]
theorem rep_go {l g : Gr} {p m R : Pa} (h : RepAt l g m R p) (hf : ¬ fixedP l g p m) : RepAt l g m R (stepP l g p m) ∧ gap l (stepP l g p m) < gap l p := by
  obtain ⟨hp, k, hk, rfl⟩ := h
  have hg := gap_lt hp hf
  cases k with
  | zero => omega
  | succ k =>
    refine ⟨⟨stepP_ok, k, by omega, ?_⟩, hg⟩
    simp only [fixedP] at hf
    simp only [repN, if_neg hf]
end Go.Proofs.Ythapbbpdcjmmfaa

/- Lists whose rows may bear one of several names: appending, sorting, leaving out what repeats; calls that return such a list. -/
namespace Go.Proofs.Ythapbbpdcjmmfaa.Abs
open Go.RowKit Go.Sort
set_option linter.unusedVariables false
set_option linter.unusedSimpArgs false

/-- A list that appends have built, under one of these names: nil, or a row of its own. -/
def outL (nms : List Nat) (typ esz n : Nat) (cs : List C) (ob : Nm → Option Ob) (v : AV) : Prop :=
  (n = 0 ∧ cs = [] ∧ v = .one .nil) ∨ (0 < n ∧ ∃ nm ∈ nms, ∃ g, v = .one (.row (nm, g)) ∧ ob (nm, g) = some ⟨true, true, false, esz, n, typ, cs.map .t⟩)

theorem outL_nil {nms : List Nat} {typ esz : Nat} {ob : Nm → Option Ob} : outL nms typ esz 0 [] ob (.one .nil) := .inl ⟨rfl, rfl, rfl⟩

theorem outL.keep {nms : List Nat} {typ esz n : Nat} {cs : List C} {ob ob' : Nm → Option Ob} {v : AV} (h : outL nms typ esz n cs ob v) (ho : ∀ nm ∈ nms, ∀ g, ob' (nm, g) = ob (nm, g)) : outL nms typ esz n cs ob' v := by
  rcases h with h | ⟨h1, nm, hm, g, h2, h3⟩
  · exact .inl h
  · exact .inr ⟨h1, nm, hm, g, h2, by rw [ho nm hm]; exact h3⟩

theorem outL.wide {nms nms' : List Nat} {typ esz n : Nat} {cs : List C} {ob : Nm → Option Ob} {v : AV} (h : outL nms typ esz n cs ob v) (hs : ∀ x ∈ nms, x ∈ nms') : outL nms' typ esz n cs ob v := by
  rcases h with h | ⟨h1, nm, hm, g, h2, h3⟩
  · exact .inl h
  · exact .inr ⟨h1, nm, hs nm hm, g, h2, h3⟩

theorem outL.one {nms : List Nat} {typ esz n : Nat} {cs : List C} {ob : Nm → Option Ob} {v : AV} (h : outL nms typ esz n cs ob v) : ∃ u, v = .one u := by
  rcases h with ⟨_, _, h⟩ | ⟨_, nm, _, g, h, _⟩
  · exact ⟨_, h⟩
  · exact ⟨_, h⟩

theorem outL.rowIs {nms : List Nat} {typ esz n : Nat} {cs : List C} {ob : Nm → Option Ob} {v : AV} (h : outL nms typ esz n cs ob v) : Abs.rowIs typ esz n cs ob v := by
  rcases h with ⟨h1, _, h2⟩ | ⟨h1, nm, _, g, h2, h3⟩
  · exact .inl ⟨h1, h2⟩
  · exact .inr ⟨h1, _, _, h2, h3, rfl, rfl, rfl, rfl, rfl, rfl⟩

theorem outL.slice {nms : List Nat} {typ esz n : Nat} {cs : List C} {ob : Nm → Option Ob} {v : AV} (h : outL nms typ esz n cs ob v) (fr : Nat → AV) (cnt : Nat → Nat) : sliceOf ⟨fr, ob, cnt⟩ v = some (n, cs.map .t) := by
  rcases h with ⟨rfl, rfl, rfl⟩ | ⟨h1, nm, _, g, rfl, h3⟩
  · rfl
  · simp [sliceOf, St.live, h3]

theorem kApp_growL {nms : List Nat} {nm typ esz bytes n k : Nat} {cs ts : List C} {v : AV} {S : St} {K : Eff → Prop} {news : List V1} (hm : nm ∈ nms) (hnews : news = ts.map .t) (h : outL nms typ esz n cs S.ob v) (hl : ts.length = k * esz) (hb : (n + k) * bytes ≤ 140737488355328) (hn : n + k ≤ 9000000000000000000)
    (hK : ∀ E : Eff, outL nms typ esz (n + k) (cs ++ ts) E.ob E.v → (∀ a g, a ∉ nms → E.ob (a, g) = S.ob (a, g)) → (∀ a, a ∉ nms → E.cnt a = S.cnt a) → K E) : kApp nm typ esz bytes v (some (k, news)) S K := by
  subst hnews
  unfold kApp evApp
  simp only [trees_t, List.length_map]
  rcases h with ⟨rfl, rfl, rfl⟩ | ⟨h1, nm', hm', g, rfl, h3⟩
  · simp only
    rw [if_pos ⟨by simpa using hb, hl, by omega⟩]
    by_cases hk : k = 0
    · subst hk
      have : ts = [] := List.eq_nil_of_length_eq_zero (by simpa using hl)
      subst this
      rw [if_pos rfl]
      exact ⟨_, rfl, hK _ (.inl ⟨rfl, rfl, rfl⟩) (fun _ _ _ => rfl) fun _ _ => rfl⟩
    rw [if_neg hk]
    refine ⟨_, rfl, hK _ (.inr ⟨by omega, nm, hm, S.cnt nm, rfl, ?_⟩) (fun a g ha => ?_) (fun a ha => ?_)⟩
    · simp [St.new, upd_same]
    · simp only [St.new]
      exact upd_ne _ _ (fun e => ha (by cases e; exact hm))
    · simp only [St.new]
      exact upd_ne _ _ (fun e => ha (e ▸ hm))
  · simp only [St.live, h3, if_true]
    rw [if_pos ⟨trivial, trivial, trivial, trivial, hb, hl, by omega⟩]
    refine ⟨_, rfl, hK _ (.inr ⟨by omega, nm, hm, S.cnt nm, rfl, ?_⟩) (fun a g' ha => ?_) (fun a ha => ?_)⟩
    · simp [upd_same]
    · show upd (upd S.ob (nm', g) _) (nm, S.cnt nm) _ (a, g') = _
      rw [upd_ne _ _ (fun e => ha (by cases e; exact hm)), upd_ne _ _ (fun e => ha (by cases e; exact hm'))]
    · exact upd_ne _ _ (fun e => ha (e ▸ hm))

theorem kApp_nil {nm typ esz bytes k : Nat} {ts : List C} {news : List V1} {S : St} {K : Eff → Prop} (hnews : news = ts.map .t) (hl : ts.length = k * esz) (hb : k * bytes ≤ 140737488355328) (hn : k ≤ 9000000000000000000)
    (hK : K (rowEff S nm typ esz k ts)) : kApp nm typ esz bytes (.one .nil) (some (k, news)) S K := by
  subst hnews
  unfold kApp evApp
  simp only [trees_t, List.length_map]
  rw [if_pos ⟨hb, hl, by omega⟩]
  unfold rowEff at hK
  split
  · rename_i h
    rw [if_pos h] at hK
    exact ⟨_, rfl, hK⟩
  · rename_i h
    rw [if_neg h] at hK
    exact ⟨_, rfl, hK⟩

theorem rowEff_outL {S : St} {nm typ esz n : Nat} {cs : List C} (hl : cs.length = n * esz) : outL [nm] typ esz n cs (rowEff S nm typ esz n cs).ob (rowEff S nm typ esz n cs).v ∧ (∀ a g, a ≠ nm → (rowEff S nm typ esz n cs).ob (a, g) = S.ob (a, g)) ∧ (∀ a, a ≠ nm → (rowEff S nm typ esz n cs).cnt a = S.cnt a) := by
  unfold rowEff
  split
  · rename_i h
    subst h
    have : cs = [] := List.eq_nil_of_length_eq_zero (by simpa using hl)
    subst this
    exact ⟨outL_nil, fun _ _ _ => rfl, fun _ _ => rfl⟩
  · refine ⟨.inr ⟨by omega, nm, by simp, S.cnt nm, rfl, by simp [St.new, upd_same]⟩, fun a g ha => ?_, fun a ha => ?_⟩
    · exact upd_ne _ _ (fun e => ha (Prod.mk.inj e).1)
    · exact upd_ne _ _ ha

theorem dCall_rowL {P : Program} {S : St} {K : Eff → Prop} {g : FuncId} {nm : Nat} {args : List AV} {targs : List TV} {typ esz n : Nat} {cs : List C} (h : CallRow P g targs typ esz n cs) (ht : argTrees ⟨fun _ => .undef, S.ob, S.cnt⟩ args = some targs)
    (hk : ∀ E : Eff, outL [nm] typ esz n cs E.ob E.v → (∀ a g, a ≠ nm → E.ob (a, g) = S.ob (a, g)) → (∀ a, a ≠ nm → E.cnt a = S.cnt a) → K E) : dCall P (.one (.fn g [])) nm args S K :=
  dCall_row h ht (hk _ (rowEff_outL h.2.2.1).1 (rowEff_outL h.2.2.1).2.1 (rowEff_outL h.2.2.1).2.2)

theorem callS_rowL {P : Program} {f : FuncId} {args : List AV} {targs : List TV} {typ esz n : Nat} {cs : List C} {ob : Nm → Option Ob} {cnt : Nat → Nat} {R : AV → (Nm → Option Ob) → (Nat → Nat) → Prop} (nm : Nat) (h : CallRow P f targs typ esz n cs)
    (ht : argTrees ⟨fun _ => .undef, ob, cnt⟩ args = some targs) (hR : ∀ v ob' cnt', outL [nm] typ esz n cs ob' v → (∀ a g, a ≠ nm → ob' (a, g) = ob (a, g)) → (∀ a, a ≠ nm → cnt' a = cnt a) → R v ob' cnt') : CallS P f args ob cnt R :=
  callS_row nm h ht (hR _ _ _ (rowEff_outL h.2.2.1).1 (rowEff_outL h.2.2.1).2.1 (rowEff_outL h.2.2.1).2.2)

section
variable {P : Program} {w w' w0 : World} {Zc : Nat → Prop} {m : Map} {ob : Nm → Option Ob} {cnt : Nat → Nat}

/-- A row is not used any more. -/
theorem hr_kill (h : HR w0 Zc m ob cnt w) {o : Nm} {x : Ob} (ho : ob o = some x) : HR w0 Zc m (upd ob o (some { x with live := false })) cnt w ∧
    Ext w (vol m ob Zc) m ob w (vol m (upd ob o (some { x with live := false })) Zc) m (upd ob o (some { x with live := false })) := by
  have get : ∀ (p : Nm) (y : Ob), upd ob o (some { x with live := false }) p = some y → y.live = true → p ≠ o ∧ ob p = some y := by
    intro p y hp hyl
    by_cases e2 : p = o
    · subst e2
      rw [upd_same] at hp
      injection hp with hp
      subst hp
      cases hyl
    · rw [upd_ne _ _ e2] at hp
      exact ⟨e2, hp⟩
  have ex : Ext w (vol m ob Zc) m ob w (vol m (upd ob o (some { x with live := false })) Zc) m (upd ob o (some { x with live := false })) := by
    refine ⟨⟨fun _ _ _ => rfl, fun b _ hb => ?_, Nat.le_refl _⟩, fun _ _ => rfl, fun _ _ => rfl, fun p y hp => ?_⟩
    · rcases hb with hb | ⟨p, y, hp, hyl, hyf, e⟩
      · exact .inl hb
      · obtain ⟨e2, hp'⟩ := get p y hp hyl
        exact .inr ⟨p, y, hp', hyl, hyf, e⟩
    · by_cases e2 : p = o
      · subst e2
        rw [ho] at hp
        injection hp with hp
        subst hp
        exact ⟨_, upd_same .., rfl, rfl⟩
      · exact ⟨y, by rw [upd_ne _ _ e2]; exact hp, rfl, rfl⟩
  refine ⟨⟨h.below, h.zc, fun n g hg => ?_, fun p y hp hyl => ?_, fun p y p' y' hp hyl hp' hyl' he => ?_⟩, ex⟩
  · rw [upd_ne _ _ (by rintro rfl; rw [h.fresh n g hg] at ho; cases ho)]
    exact h.fresh n g hg
  · obtain ⟨e2, hp'⟩ := get p y hp hyl
    exact OR.ext ex (by rw [hp']; simp) rfl (h.obs p y hp' hyl)
  · exact h.inj p y p' y' (get p y hp hyl).2 hyl (get p' y' hp' hyl').2 hyl' he

/-- A row that is not used any more is a tree. -/
theorem dead_tree (h : HR w0 Zc m ob cnt w) {o : Nm} {x : Ob} {zs : List Int} (ho : ob o = some x) (hl : x.live = true) (hrow : x.isRow = true) (hesz : x.esz = 1) (hn : x.n = zs.length) (hc : x.cells = zs.map fun z => .t (.int .i64 z)) (k : Nat) (hk : k ≤ zs.length) :
    CR w (vol m (upd ob o (some { x with live := false })) Zc) (ints (zs.take k)) (.slice (some ⟨m.at_ o, 0, none⟩) k (m.cap o)) := by
  obtain ⟨hbase, arr, h1, h2, h3⟩ := h.obs o x ho hl
  rw [if_pos hrow] at h2
  have hcell : ∀ j, j < k → arr[j]? = some (.int .i64 (zs.getD j 0)) := by
    intro j hj
    have hj' : j < zs.length := by omega
    obtain ⟨u, g1, _, g3⟩ := h3 j (.t (.int .i64 zs[j])) (by rw [hc]; simp [hj'])
    rw [g1]
    have : u = .int .i64 zs[j] := by
      cases (show CR w (vol m ob Zc) (.int .i64 zs[j]) u from g3)
      rfl
    rw [this]
    simp [hj']
  have el : k = (zs.take k).length := by simp; omega
  have e : ints (zs.take k) = .sl k ((zs.take k).map (.int .i64)) := by rw [ints, ← el]
  rw [e]
  refine .sl k (m.cap o) _ (some ⟨m.at_ o, 0, none⟩) (fun j => .int .i64 (zs.getD j 0)) (by omega) (fun _ => ⟨_, rfl, fun hz => ?_, fun j hj => ?_⟩) (fun j c hj => ?_)
  · rcases hz with hz | ⟨p, y, hp, hyl, hyf, e⟩
    · have := h.zc _ hz
      simp only at this
      omega
    · by_cases e2 : p = o
      · subst e2
        rw [upd_same] at hp
        injection hp with hp
        subst hp
        cases hyl
      · rw [upd_ne _ _ e2] at hp
        exact e2 (h.inj p y o x hp hyl ho hl e)
  · have hj' : j < k := by simp at hj; omega
    rw [add_ptr, Nat.zero_add, cell_of_row w _ _ _ _ _ h1]
    exact hcell j hj'
  · simp only [List.getElem?_map, Option.map_eq_some_iff] at hj
    obtain ⟨z, hz, rfl⟩ := hj
    have hz' : j < (zs.take k).length := (List.getElem?_eq_some_iff.1 hz).1
    have hj' : j < zs.length := by simp at hz'; omega
    rw [List.getElem?_take_of_lt (by omega)] at hz
    have : zs.getD j 0 = z := by simp [List.getD_eq_getElem?_getD, hz]
    rw [this]
    exact .int _ _

theorem callS_sortL {f : FuncId} (hs : SortSaid P f) {R : AV → (Nm → Option Ob) → (Nat → Nat) → Prop} {nms : List Nat} {typ : Nat} {zs : List Int} {v : AV} (h : outL nms typ 1 zs.length (zs.map (.int .i64)) ob v) (hbig : zs.length < 4611686018427387904)
    (hR : ∀ ob', outL nms typ 1 (zs.mergeSort fun x y => decide (x ≤ y)).length ((zs.mergeSort fun x y => decide (x ≤ y)).map (.int .i64)) ob' v → (∀ a g, a ∉ nms → ob' (a, g) = ob (a, g)) → R (.tup []) ob' cnt) : CallS P f [v] ob cnt R := by
  rcases h with ⟨h1, h2, rfl⟩ | ⟨h1, nm, hm, g, rfl, h3⟩
  · have : zs = [] := List.eq_nil_of_length_eq_zero h1
    subst this
    exact callS_sort_nil hs (hR _ (.inl ⟨by simp, by simp, rfl⟩) fun _ _ _ => rfl)
  · refine callS_sort (zs := zs) hs h3 rfl rfl rfl rfl rfl (by simp) hbig (hR _ (.inr ⟨by simpa using h1, nm, hm, g, rfl, ?_⟩) fun a g' ha => ?_)
    · rw [upd_same]
      simp
    · exact upd_ne _ _ (fun e => ha (by cases e; exact hm))

theorem callS_compactL {f : FuncId} (hs : CompSaid P f) {R : AV → (Nm → Option Ob) → (Nat → Nat) → Prop} {nms : List Nat} {typ : Nat} {zs : List Int} {v : AV} (h : outL nms typ 1 zs.length (zs.map (.int .i64)) ob v) (hbig : zs.length ≤ 9223372036854775807)
    (hR : ∀ ob', (∀ a g, a ∉ nms → ob' (a, g) = ob (a, g)) → R (.one (.t (ints (Lib.compact zs)))) ob' cnt) : CallS P f [v] ob cnt R := by
  rcases h with ⟨h1, h2, rfl⟩ | ⟨h1, nm, hm, g, rfl, h3⟩
  · have : zs = [] := List.eq_nil_of_length_eq_zero h1
    subst this
    refine ⟨hs.2.2, fun w0 Zc m w cargs hr hlen hargs => ?_⟩
    have h0 : cargs.size = 1 := by simpa using hlen.symm
    obtain ⟨A, hv⟩ := hargs 0 (.one .nil) cargs[0] rfl (by simp [h0])
    have e : cargs = #[.slice A 0 0] := by
      apply Array.ext (by simp [h0])
      intro i h1 h2
      have : i = 0 := by omega
      subst this
      simpa using hv
    rw [e]
    refine (hs.2.1 A 0 w).mono ?_
    rintro e w' ⟨rfl, rfl⟩
    refine ⟨_, _, ob, cnt, m, rfl, hR ob fun _ _ _ => rfl, hr, Ext.refl .., ?_⟩
    exact .sl 0 0 [] A (fun _ => default) (Nat.le_refl _) (fun h => by simp at h) (fun j c h => by simp at h)
  · refine ⟨hs.2.2, fun w0 Zc m w cargs hr hlen hargs => ?_⟩
    have h0 : cargs.size = 1 := by simpa using hlen.symm
    obtain ⟨x', hx', _, hv⟩ := hargs 0 (.one (.row (nm, g))) cargs[0] rfl (by simp [h0])
    rw [h3] at hx'
    injection hx' with hx'
    subst hx'
    have e : cargs = #[.slice (some ⟨m.at_ (nm, g), 0, none⟩) zs.length (m.cap (nm, g))] := by
      apply Array.ext (by simp [h0])
      intro i h1 h2
      have : i = 0 := by omega
      subst this
      simpa using hv
    have hcap : zs.length ≤ m.cap (nm, g) := by
      obtain ⟨_, arr, _, h2, _⟩ := hr.obs _ _ h3 rfl
      rw [if_pos rfl] at h2
      exact h2.2.1
    rw [e]
    refine (hs.1 (m.at_ (nm, g)) (m.cap (nm, g)) zs w (holds_row hr h3 rfl rfl (by simp)) hbig hcap).mono ?_
    have hcl := compact_le zs
    rintro e w' ⟨rfl, n, hw⟩
    obtain ⟨g1, g2⟩ := hr_put (w' := w') (zs := zs) (ts := Lib.compact zs ++ List.replicate (zs.length - (Lib.compact zs).length) 0) (n := n) (os := #[]) hr h3 rfl rfl rfl rfl rfl (by simp) (by simp; omega) (by rw [grow_empty]; exact hw)
    obtain ⟨k1, k2⟩ := hr_kill g1 (upd_same ..)
    have hd := dead_tree g1 (zs := Lib.compact zs ++ List.replicate (zs.length - (Lib.compact zs).length) 0) (upd_same ..) rfl rfl rfl (by simp; omega) rfl (Lib.compact zs).length (by simp)
    rw [List.take_left] at hd
    refine ⟨_, .one (.t (ints (Lib.compact zs))), _, cnt, m, rfl, hR _ fun a g' ha => ?_, k1, g2.trans k2, hd⟩
    rw [upd_ne _ _ (fun e => ha (by cases e; exact hm)), upd_ne _ _ (fun e => ha (by cases e; exact hm))]
end

theorem untreeT (ts : List C) : untree (ts.map .t) = some ts := by
  induction ts with
  | nil => rfl
  | cons c r ih => simp [untree, ih]

theorem treeCell_row {fr : Nat → AV} {ob : Nm → Option Ob} {cnt : Nat → Nat} {o : Nm} {fz : Bool} {esz n typ : Nat} {cs : List C} (h : ob o = some ⟨true, true, fz, esz, n, typ, cs.map .t⟩) : treeCell ⟨fr, ob, cnt⟩ (.row o) = some (.sl n cs) := by
  simp [treeCell, St.live, h, untreeT]

theorem argTree_one {S : St} {v : V1} : argTree S (.one v) = (treeCell S v).map fun c => (false, [c]) := Eq.trans rfl rfl
theorem still_one {S : St} {v : V1} : AV.still S (.one v) = v.still S := Eq.trans rfl rfl
theorem treeCell_nil {S : St} : treeCell S .nil = some (.sl 0 []) := Eq.trans rfl rfl
theorem treeCell_t {S : St} {c : C} : treeCell S (.t c) = some c := Eq.trans rfl rfl

/-- A call that is given two lists that appends have built. -/
theorem callS_lists2 {P : Program} {f : FuncId} {x v1 v2 : AV} {tx : TV} {n1 n2 t1 t2 : Nat} {a b : List C} {nms1 nms2 : List Nat} {r : TR} {ob : Nm → Option Ob} {cnt : Nat → Nat} {R : AV → (Nm → Option Ob) → (Nat → Nat) → Prop}
    (h : CallOK P f [tx, (false, [.sl n1 a]), (false, [.sl n2 b])] r) (hx : ∀ ob cnt, argTree ⟨fun _ => .undef, ob, cnt⟩ x = some tx ∧ x.still ⟨fun _ => .undef, ob, cnt⟩ = true)
    (h1 : outL nms1 t1 1 n1 a ob v1) (h2 : outL nms2 t2 1 n2 b ob v2) (hd : ∀ nm ∈ nms1, nm ∉ nms2) (hR : ∀ ob', (∀ nm g, nm ∉ nms1 → nm ∉ nms2 → ob' (nm, g) = ob (nm, g)) → R r.av ob' cnt) : CallS P f [x, v1, v2] ob cnt R := by
  have hx1 := fun ob => (hx ob cnt).1
  have hx2 := fun ob => (hx ob cnt).2
  rcases h1 with ⟨rfl, rfl, rfl⟩ | ⟨p1, m1, q1, g1, rfl, o1⟩ <;> rcases h2 with ⟨rfl, rfl, rfl⟩ | ⟨p2, m2, q2, g2, rfl, o2⟩
  · refine callS_tree h ?_ ?_ (hR ob fun _ _ _ _ => rfl)
    · simp [argTrees, hx1, argTree_one, treeCell_nil]
    · simp [hx2, still_one, V1.still]
  · refine callS_freeze [(m2, g2)] (callS_tree h ?_ ?_ (hR _ fun nm g e1 e2 => ?_))
    · have e : frzAll [(m2, g2)] ob (m2, g2) = some ⟨true, true, true, 1, n2, t2, b.map .t⟩ := by simp [frzAll, frzOne, o2, upd_same]
      simp [argTrees, hx1, argTree_one, treeCell_row e, treeCell_nil]
    · simp [hx2, still_one, V1.still, St.live, frzAll, frzOne, o2, upd_same]
    · have : (nm, g) ≠ (m2, g2) := fun e => e2 (by cases e; exact q2)
      simp [frzAll, frzOne, o2, upd_ne _ _ this]
  · refine callS_freeze [(m1, g1)] (callS_tree h ?_ ?_ (hR _ fun nm g e1 e2 => ?_))
    · have e : frzAll [(m1, g1)] ob (m1, g1) = some ⟨true, true, true, 1, n1, t1, a.map .t⟩ := by simp [frzAll, frzOne, o1, upd_same]
      simp [argTrees, hx1, argTree_one, treeCell_row e, treeCell_nil]
    · simp [hx2, still_one, V1.still, St.live, frzAll, frzOne, o1, upd_same]
    · have : (nm, g) ≠ (m1, g1) := fun e => e1 (by cases e; exact q1)
      simp [frzAll, frzOne, o1, upd_ne _ _ this]
  · have hne : (m2, g2) ≠ (m1, g1) := fun e => hd _ q1 (by cases e; exact q2)
    have hne' : (m1, g1) ≠ (m2, g2) := fun e => hne e.symm
    have w1 : frzAll [(m1, g1), (m2, g2)] ob = upd (upd ob (m1, g1) (some ⟨true, true, true, 1, n1, t1, a.map .t⟩)) (m2, g2) (some ⟨true, true, true, 1, n2, t2, b.map .t⟩) := by
      simp [frzAll, frzOne, o1, upd_ne _ _ hne, o2]
    refine callS_freeze [(m1, g1), (m2, g2)] ?_
    rw [w1]
    refine callS_tree h ?_ ?_ (hR _ fun nm g e1 e2 => ?_)
    · have e : (upd (upd ob (m1, g1) (some ⟨true, true, true, 1, n1, t1, a.map .t⟩)) (m2, g2) (some ⟨true, true, true, 1, n2, t2, b.map .t⟩)) (m1, g1) = some ⟨true, true, true, 1, n1, t1, a.map .t⟩ := by rw [upd_ne _ _ hne', upd_same]
      simp [argTrees, hx1, argTree_one, treeCell_row e, treeCell_row (upd_same ..)]
    · simp [hx2, still_one, V1.still, St.live, upd_ne _ _ hne', upd_same]
    · have f1 : (nm, g) ≠ (m1, g1) := fun e => e1 (by cases e; exact q1)
      have f2 : (nm, g) ≠ (m2, g2) := fun e => e2 (by cases e; exact q2)
      rw [upd_ne _ _ f2, upd_ne _ _ f1]
end Go.Proofs.Ythapbbpdcjmmfaa.Abs

/- What repairs a part: the lists that the loops build. -/
namespace Go.Proofs.Ythapbbpdcjmmfaa
open Abs
set_option linter.unusedSimpArgs false
set_option linter.unusedVariables false

theorem pth_eq {l : List (Int × Int)} {k : Nat} (h : k < l.length) : pth l k = l[k] := by simp [pth, h]
theorem flatP_take {P : List (Int × Int)} {k : Nat} (h : k < P.length) : flatP (P.take (k + 1)) = flatP (P.take k) ++ [(pth P k).1, (pth P k).2] := by
  rw [List.take_succ_eq_append_getElem h, pth_eq h]
  simp only [flatP, List.flatMap_append, List.flatMap_cons, List.flatMap_nil, List.append_nil]
theorem flatP_len {P : List (Int × Int)} : (flatP P).length = P.length * 2 := by
  induction P with
  | nil => rfl
  | cons a r ih =>
    simp only [flatP, List.flatMap_cons, List.length_append, List.length_cons] at ih ⊢
    rw [ih]
    simp
    omega
theorem drop_nthV {l : List Int} {k : Nat} (h : k < l.length) : (l.map (V1.t ∘ C.int .i64)).drop k = .t (.int .i64 (nth l k)) :: (l.drop (k + 1)).map (V1.t ∘ C.int .i64) := by
  rw [nth_eq h, ← List.map_drop, List.drop_eq_getElem_cons h]
  rfl
def looseT (g : Gr) (m : Pa) (D : List Int) (k : Nat) : List Int := (D.take k).flatMap fun k => touchL m (eth g.edges k.toNat)
theorem looseT_succ {g : Gr} {m : Pa} {D : List Int} {k : Nat} (h : k < D.length) : looseT g m D (k + 1) = looseT g m D k ++ touchL m (eth g.edges (nth D k).toNat) := by
  rw [looseT, take_succ_nth h]
  simp [looseT]
theorem looseT_all {g : Gr} {m p : Pa} : looseT g m (danglL g p m) (danglL g p m).length = looseL g p m := by simp [looseT, looseL]
theorem looseT_len {g : Gr} {m : Pa} {D : List Int} : ∀ k, (looseT g m D k).length ≤ k * m.nodes.length
  | 0 => by simp [looseT]
  | k + 1 => by
    have ih := looseT_len (g := g) (m := m) (D := D) k
    rw [Nat.add_mul]
    by_cases h : k < D.length
    · rw [looseT_succ h, List.length_append]
      have := collect_len (f := touchF m (eth g.edges (nth D k).toNat)) (k := m.nodes.length)
      simp only [touchL]
      omega
    · have : looseT g m D (k + 1) = looseT g m D k := by
        simp only [looseT]
        rw [List.take_of_length_le (by omega), List.take_of_length_le (by omega)]
      rw [this]
      omega
def endsT (l : Gr) (E : List Int) (k : Nat) : List Int := (E.take k).flatMap fun k => [(eth l.edges k.toNat).f, (eth l.edges k.toNat).g]
theorem endsT_succ {l : Gr} {E : List Int} {k : Nat} (h : k < E.length) : endsT l E (k + 1) = endsT l E k ++ [(eth l.edges (nth E k).toNat).f, (eth l.edges (nth E k).toNat).g] := by
  rw [endsT, take_succ_nth h]
  simp [endsT]
theorem endsT_len {l : Gr} {E : List Int} : ∀ k, (endsT l E k).length ≤ k * 2
  | 0 => by simp [endsT]
  | k + 1 => by
    have ih := endsT_len (l := l) (E := E) k
    by_cases h : k < E.length
    · rw [endsT_succ h, List.length_append]
      simp
      omega
    · have : endsT l E (k + 1) = endsT l E k := by
        simp only [endsT]
        rw [List.take_of_length_le (by omega), List.take_of_length_le (by omega)]
      rw [this]
      omega
theorem endsT_mem {l : Gr} {E : List Int} (hE : ∀ x ∈ E, 0 ≤ x ∧ x < l.edges.length) {x : Int} : x ∈ endsT l E E.length ↔ x ∈ endsL l E l.edges.length := by
  simp only [endsT, endsL, List.take_length, List.mem_flatMap, mem_gather]
  constructor
  · rintro ⟨k, hk, hx⟩
    obtain ⟨h1, h2⟩ := hE k hk
    obtain ⟨j, rfl⟩ := Int.eq_ofNat_of_zero_le h1
    refine ⟨j, by omega, ?_⟩
    rw [if_pos hk]
    exact hx
  · rintro ⟨j, hj, hx⟩
    split at hx
    · rename_i hk
      exact ⟨j, hk, hx⟩
    · cases hx
theorem endsT_in {l : Gr} (ga : GrOk l) {E : List Int} (hE : ∀ x ∈ E, 0 ≤ x ∧ x < l.edges.length) : ∀ x ∈ endsT l E E.length, 0 ≤ x ∧ x < l.nodes.length := fun x hx => by
  simp only [endsT, List.mem_flatMap] at hx
  obtain ⟨k, hk, hx⟩ := hx
  obtain ⟨h1, h2⟩ := hE k (List.mem_of_mem_take hk)
  obtain ⟨j, rfl⟩ := Int.eq_ofNat_of_zero_le h1
  have := ga.edges _ (eth_mem (l := l.edges) (k := j) (by omega))
  simp at hx
  rcases hx with rfl | rfl
  · exact ⟨this.2.2.1, this.2.2.2.1⟩
  · exact ⟨this.2.2.2.2.1, this.2.2.2.2.2⟩

theorem step_edges {l g : Gr} {q m : Pa} (hq : PartOk l q) (hl : m.edges.length = l.edges.length) : Lib.compact ((edgesS q m).mergeSort fun x y => decide (x ≤ y)) = (stepP l g q m).edges :=
  compact_sort_eq (edgesS_in hq hl)
theorem step_nodes {l g : Gr} {q m : Pa} (ga : GrOk l) (hq : PartOk l q) (ln : m.nodes.length = l.nodes.length) (le : m.edges.length = l.edges.length) :
    Lib.compact ((nodesS g q m ++ endsT l (edgesS q m) (edgesS q m).length).mergeSort fun x y => decide (x ≤ y)) = (stepP l g q m).nodes := by
  rw [compact_sort_eq (n := l.nodes.length) fun x hx => ?_]
  · refine canon_congr fun x _ _ => ?_
    rw [List.mem_append, List.mem_append, endsT_mem (edgesS_in hq le)]
  · rcases List.mem_append.1 hx with h | h
    · exact nodesS_in hq ln x h
    · exact endsT_in ga (edgesS_in hq le) x h

theorem partOk_of {l : Gr} {p : Pa} (h : subErr l p = 0) : PartOk l p := by
  have h0 : gErr l = 0 := by
    unfold subErr at h
    split at h
    · assumption
    · exact h
  have h1 : partErr l p = 0 := by
    unfold subErr at h
    rw [if_pos h0] at h
    exact h
  have h2 : ascErr p.nodes l.nodes.length = 0 := by
    unfold partErr at h1
    split at h1
    · assumption
    · exact h1
  have h3 : ascErr p.edges l.edges.length = 0 := by
    unfold partErr at h1
    rw [if_pos h2] at h1
    split at h1
    · assumption
    · exact h1
  exact ⟨asc_iff.1 (asc_of h2).1, asc_iff.1 (asc_of h3).1, (asc_of h2).2, (asc_of h3).2⟩

theorem collect_mul {α : Type} {f : Nat → Option α} {k n : Nat} (h : k ≤ n) : (collect f k).length ≤ n := Nat.le_trans collect_len h
theorem pairs_few {l k : List Int} {n : Nat} (h : l.length ≤ n) : (pairsL l k).length ≤ n * n := by
  have := gather_len (f := fun a => collect (pairF l k a) l.length) (m := l.length) (fun j => collect_len) l.length
  have g2 : l.length * l.length ≤ n * n := Nat.mul_le_mul h h
  simp only [pairsL]
  omega
theorem dangl_few {g : Gr} {p m : Pa} : (danglL g p m).length ≤ g.edges.length := collect_len
theorem dangl_in {g : Gr} {p m : Pa} : ∀ x ∈ danglL g p m, 0 ≤ x ∧ x < g.edges.length := fun x hx => by
  simp only [danglL, mem_collect] at hx
  obtain ⟨j, hj, hx⟩ := hx
  simp only [danglF] at hx
  split at hx
  · cases hx
  split at hx
  · injection hx with hx; omega
  split at hx
  · injection hx with hx; omega
  · cases hx
end Go.Proofs.Ythapbbpdcjmmfaa

/- Contract: the program's repair. -/
namespace Go.Proofs.Ythapbbpdcjmmfaa
open Abs
set_option linter.unusedSimpArgs false
set_option linter.unusedVariables false
attribute [local simp] rn0 rn1 rn2 rn3 rn4 rn5 rn6 rn7 evOp nests Arg.ev St.val St.set St.new sliceOf binInt2 binInt AV.cells rdAt St.live retOf resOf resAll treeOf treeCell treeCells treeTups untree frameOf TV.av TR.av ints edgs prs fillV splice intsOf trees V1.tree bx Gr.v Pa.v opRd opWr opNew opNewR opArgs argsRd argRd Arg.rd AV.refs V1.refs refsL dstL

/-- Where a round of the program begins. -/
def RepS (l g : Gr) (m q : Pa) (S : St) : Prop :=
  S.fr 4 = .one (.ptr (0, 0) 0) ∧ S.fr 5 = .one (.ptr (1, 0) 0) ∧ S.fr 7 = .one (.ptr (3, 0) 0) ∧ S.fr 8 = .one (.ptr (4, 0) 0) ∧ S.fr 10 = .one (.ptr (69, 0) 0) ∧
  S.ob (0, 0) = some (bx 25 [.t (ints l.nodes), .t (edgs l.edges)]) ∧ S.ob (1, 0) = some (bx 25 [.t (ints g.nodes), .t (edgs g.edges)]) ∧
  S.ob (3, 0) = some (bx 28 [.t (ints m.nodes), .t (ints m.edges)]) ∧ S.ob (4, 0) = some (bx 27 [.nil, .nil]) ∧
  S.ob (69, 0) = some (bx 77 [.t (ints l.nodes), .t (edgs l.edges), .t (ints g.nodes), .t (edgs g.edges), .t (ints q.nodes), .t (ints q.edges), .t (ints m.nodes), .t (ints m.edges)])

def nmN : List Nat := [323, 646, 1603, 1998]
def nmE : List Nat := [327, 966]

def repMu (l : Gr) (S : St) : Nat := match S.ob (69, 0) with
  | some x => match x.cells with
    | [_, _, _, _, .t (.sl a _), .t (.sl b _), _, _] => (l.nodes.length - a) + (l.edges.length - b)
    | _ => 0
  | none => 0

def c_repair : MFunc := ⟨168, [.cell 8 true 2, .tmp 9], .seq (.region [⟨some 4, .box 0 25 (.tmp 0), none⟩, ⟨some 5, .box 1 25 (.tmp 1), none⟩, ⟨some 6, .box 2 27 (.tmp 2), none⟩, ⟨some 7, .box 3 28 (.tmp 3), none⟩, ⟨some 8, .alloc 4 27 [.nil, .nil], none⟩, ⟨some 9, .mv (.c (.one (.t (.int .i64 0)))), none⟩]) (.seq (.region [⟨some 28, .load true 2 (.tmp 4), none⟩, ⟨some 29, .load true 2 (.tmp 5), none⟩, ⟨some 30, .load true 2 (.tmp 6), none⟩, ⟨some 31, .load true 2 (.tmp 7), none⟩, ⟨some 32, .build [.nil, .nil, .nil, .nil, .nil, .nil, .nil, .nil] [(0, (2, .tmp 28)), (2, (2, .tmp 29)), (4, (2, .tmp 30)), (6, (2, .tmp 31))], none⟩, ⟨some 10, .alloc 69 77 [.nil, .nil, .nil, .nil, .nil, .nil, .nil, .nil], none⟩, ⟨none, .store 8 (.tmp 10) (.tmp 32), none⟩]) (.seq (.seq (.region [⟨some 33, .load true 8 (.tmp 10), none⟩, ⟨some 34, .call (.c (.one (.fn 41 []))) 129 [.tmp 33], none⟩, ⟨some 11, .mv (.tmp 34), none⟩]) (.seq (.region [⟨some 35, .mv (.tmp 11), none⟩, ⟨some 36, .bin .neq (.tmp 35) (.c (.one (.t (.int .i64 0)))), none⟩]) (.cond (.tmp 36) (.seq (.region [⟨some 37, .build [.nil, .nil] [], none⟩, ⟨some 38, .mv (.tmp 11), none⟩, ⟨none, .store 2 (.tmp 8) (.tmp 37), none⟩, ⟨some 9, .mv (.tmp 38), none⟩]) .ret) .skip))) (.block 0 (.loop (.block 1 (.seq (.draw [[], [0], [1], [2], [], [4], [5], [6, 3], [3, 7, 0, 1, 2, 3], [7, 8, 0, 1, 2, 3, 4, 5, 6, 7, 8]] [⟨some 39, .fieldA 4 (.tmp 10), none⟩, ⟨some 40, .fieldA 0 (.tmp 39), none⟩, ⟨some 41, .load false 1 (.tmp 40), none⟩, ⟨some 42, .call (.c (.one (.fn 45 []))) 323 [.tmp 41], none⟩, ⟨some 43, .fieldA 4 (.tmp 10), none⟩, ⟨some 44, .fieldA 1 (.tmp 43), none⟩, ⟨some 45, .load false 1 (.tmp 44), none⟩, ⟨some 46, .call (.c (.one (.fn 45 []))) 327 [.tmp 45], none⟩, ⟨some 12, .mv (.tmp 42), none⟩, ⟨some 13, .mv (.tmp 46), none⟩]) (.seq (.region [⟨some 48, .load true 8 (.tmp 10), none⟩, ⟨some 49, .call (.c (.one (.fn 42 []))) 385 [.tmp 48], none⟩, ⟨some 47, .mv (.tmp 49), none⟩, ⟨some 50, .extract (.tmp 47) 0, none⟩, ⟨some 51, .extract (.tmp 47) 1, none⟩, ⟨some 14, .mv (.tmp 50), none⟩, ⟨some 15, .mv (.tmp 51), none⟩]) (.seq (.seq (.region [⟨some 52, .mv (.tmp 14), none⟩, ⟨some 53, .len (.tmp 52), none⟩, ⟨some 54, .mv (.c (.one (.t (.int .i64 0)))), none⟩]) (.block 2 (.loop (.seq (.region [⟨some 55, .bin .lss (.tmp 54) (.tmp 53), none⟩]) (.seq (.cond (.tmp 55) .skip (.exit 2)) (.seq (.block 3 (.seq (.region [⟨some 56, .idxA 2 (.tmp 52) (.tmp 54), none⟩, ⟨some 57, .load true 2 (.tmp 56), none⟩, ⟨some 17, .alloc 578 57 [.t (.int .i64 0), .t (.int .i64 0)], none⟩, ⟨none, .store 2 (.tmp 17) (.tmp 57), none⟩]) (.region [⟨some 58, .mv (.tmp 12), none⟩, ⟨some 59, .fieldA 0 (.tmp 17), none⟩, ⟨some 60, .load false 1 (.tmp 59), none⟩, ⟨some 61, .fieldA 1 (.tmp 17), none⟩, ⟨some 62, .load false 1 (.tmp 61), none⟩, ⟨some 63, .mkrow 645 3 1 2 [.t (.int .i64 0), .t (.int .i64 0)] [(0, (1, .tmp 60)), (1, (1, .tmp 62))], none⟩, ⟨some 64, .append 646 3 1 8 (.tmp 58) (.tmp 63), none⟩, ⟨some 12, .mv (.tmp 64), none⟩]))) (.region [⟨some 65, .bin .add (.tmp 54) (.c (.one (.t (.int .i64 1)))), none⟩, ⟨some 54, .mv (.tmp 65), none⟩]))))))) (.seq (.seq (.region [⟨some 66, .mv (.tmp 15), none⟩, ⟨some 67, .len (.tmp 66), none⟩, ⟨some 68, .mv (.c (.one (.t (.int .i64 0)))), none⟩]) (.block 4 (.loop (.seq (.region [⟨some 69, .bin .lss (.tmp 68) (.tmp 67), none⟩]) (.seq (.cond (.tmp 69) .skip (.exit 4)) (.seq (.block 5 (.seq (.region [⟨some 70, .idxA 2 (.tmp 66) (.tmp 68), none⟩, ⟨some 71, .load true 2 (.tmp 70), none⟩, ⟨some 19, .alloc 898 57 [.t (.int .i64 0), .t (.int .i64 0)], none⟩, ⟨none, .store 2 (.tmp 19) (.tmp 71), none⟩]) (.region [⟨some 72, .mv (.tmp 13), none⟩, ⟨some 73, .fieldA 0 (.tmp 19), none⟩, ⟨some 74, .load false 1 (.tmp 73), none⟩, ⟨some 75, .fieldA 1 (.tmp 19), none⟩, ⟨some 76, .load false 1 (.tmp 75), none⟩, ⟨some 77, .mkrow 965 3 1 2 [.t (.int .i64 0), .t (.int .i64 0)] [(0, (1, .tmp 74)), (1, (1, .tmp 76))], none⟩, ⟨some 78, .append 966 3 1 8 (.tmp 72) (.tmp 77), none⟩, ⟨some 13, .mv (.tmp 78), none⟩]))) (.region [⟨some 79, .bin .add (.tmp 68) (.c (.one (.t (.int .i64 1)))), none⟩, ⟨some 68, .mv (.tmp 79), none⟩]))))))) (.seq (.seq (.region [⟨some 80, .load true 8 (.tmp 10), none⟩, ⟨some 81, .call (.c (.one (.fn 43 []))) 1089 [.tmp 80], none⟩, ⟨some 82, .len (.tmp 81), none⟩, ⟨some 83, .mv (.c (.one (.t (.int .i64 0)))), none⟩]) (.block 6 (.loop (.seq (.region [⟨some 84, .bin .lss (.tmp 83) (.tmp 82), none⟩]) (.seq (.cond (.tmp 84) .skip (.exit 6)) (.seq (.block 7 (.seq (.region [⟨some 85, .idxA 1 (.tmp 81) (.tmp 83), none⟩, ⟨some 86, .load false 1 (.tmp 85), none⟩, ⟨some 21, .mv (.tmp 86), none⟩]) (.seq (.region [⟨some 87, .fieldA 1 (.tmp 5), none⟩, ⟨some 88, .load false 1 (.tmp 87), none⟩, ⟨some 89, .mv (.tmp 21), none⟩, ⟨some 90, .idxA 3 (.tmp 88) (.tmp 89), none⟩, ⟨some 91, .load true 3 (.tmp 90), none⟩, ⟨some 22, .alloc 1285 73 [.t (.int .i64 0), .t (.int .i64 0), .t (.int .i64 0)], none⟩, ⟨none, .store 3 (.tmp 22) (.tmp 91), none⟩]) (.seq (.region [⟨some 92, .fieldA 0 (.tmp 7), none⟩, ⟨some 93, .load false 1 (.tmp 92), none⟩, ⟨some 94, .len (.tmp 93), none⟩, ⟨some 95, .mv (.c (.one (.t (.int .i64 0)))), none⟩]) (.block 8 (.loop (.seq (.region [⟨some 96, .bin .lss (.tmp 95) (.tmp 94), none⟩]) (.seq (.cond (.tmp 96) .skip (.exit 8)) (.seq (.block 9 (.seq (.region [⟨some 97, .mv (.tmp 95), none⟩, ⟨some 98, .idxA 1 (.tmp 93) (.tmp 95), none⟩, ⟨some 99, .load false 1 (.tmp 98), none⟩, ⟨some 23, .mv (.tmp 97), none⟩, ⟨some 24, .mv (.tmp 99), none⟩]) (.seq (.region [⟨some 100, .mv (.tmp 24), none⟩, ⟨some 101, .fieldA 1 (.tmp 22), none⟩, ⟨some 102, .load false 1 (.tmp 101), none⟩, ⟨some 103, .bin .eql (.tmp 100) (.tmp 102), none⟩, ⟨some 104, .mv (.tmp 103), none⟩, ⟨some 105, .mv (.tmp 24), some (104, false)⟩, ⟨some 106, .fieldA 2 (.tmp 22), some (104, false)⟩, ⟨some 107, .load false 1 (.tmp 106), some (104, false)⟩, ⟨some 108, .bin .eql (.tmp 105) (.tmp 107), some (104, false)⟩, ⟨some 109, .pick (.tmp 104) (.c (.one (.t (.bool true)))) (.tmp 108), none⟩]) (.cond (.tmp 109) (.region [⟨some 110, .mv (.tmp 12), none⟩, ⟨some 111, .mv (.tmp 23), none⟩, ⟨some 112, .mkrow 1602 3 1 1 [.t (.int .i64 0)] [(0, (1, .tmp 111))], none⟩, ⟨some 113, .append 1603 3 1 8 (.tmp 110) (.tmp 112), none⟩, ⟨some 12, .mv (.tmp 113), none⟩]) .skip)))) (.region [⟨some 114, .bin .add (.tmp 95) (.c (.one (.t (.int .i64 1)))), none⟩, ⟨some 95, .mv (.tmp 114), none⟩])))))))))) (.region [⟨some 115, .bin .add (.tmp 83) (.c (.one (.t (.int .i64 1)))), none⟩, ⟨some 83, .mv (.tmp 115), none⟩]))))))) (.seq (.seq (.region [⟨some 116, .mv (.tmp 13), none⟩, ⟨some 117, .len (.tmp 116), none⟩, ⟨some 118, .mv (.c (.one (.t (.int .i64 0)))), none⟩]) (.block 10 (.loop (.seq (.region [⟨some 119, .bin .lss (.tmp 118) (.tmp 117), none⟩]) (.seq (.cond (.tmp 119) .skip (.exit 10)) (.seq (.block 11 (.seq (.region [⟨some 120, .idxA 1 (.tmp 116) (.tmp 118), none⟩, ⟨some 121, .load false 1 (.tmp 120), none⟩, ⟨some 26, .mv (.tmp 121), none⟩]) (.draw [[], [], [1], [], [2, 3], [4], [5], [], [7], [], [8, 9], [10], [11], [6, 12], [0, 13], [14, 14, 0, 1, 2, 3, 4, 5, 6, 7, 8, 9, 10, 11, 12, 13, 14]] [⟨some 122, .mv (.tmp 12), none⟩, ⟨some 123, .fieldA 1 (.tmp 4), none⟩, ⟨some 124, .load false 1 (.tmp 123), none⟩, ⟨some 125, .mv (.tmp 26), none⟩, ⟨some 126, .idxA 3 (.tmp 124) (.tmp 125), none⟩, ⟨some 127, .fieldA 1 (.tmp 126), none⟩, ⟨some 128, .load false 1 (.tmp 127), none⟩, ⟨some 129, .fieldA 1 (.tmp 4), none⟩, ⟨some 130, .load false 1 (.tmp 129), none⟩, ⟨some 131, .mv (.tmp 26), none⟩, ⟨some 132, .idxA 3 (.tmp 130) (.tmp 131), none⟩, ⟨some 133, .fieldA 2 (.tmp 132), none⟩, ⟨some 134, .load false 1 (.tmp 133), none⟩, ⟨some 135, .mkrow 1997 3 1 2 [.t (.int .i64 0), .t (.int .i64 0)] [(0, (1, .tmp 128)), (1, (1, .tmp 134))], none⟩, ⟨some 136, .append 1998 3 1 8 (.tmp 122) (.tmp 135), none⟩, ⟨some 12, .mv (.tmp 136), none⟩]))) (.region [⟨some 137, .bin .add (.tmp 118) (.c (.one (.t (.int .i64 1)))), none⟩, ⟨some 118, .mv (.tmp 137), none⟩]))))))) (.seq (.region [⟨some 138, .mv (.tmp 12), none⟩, ⟨some 139, .call (.c (.one (.fn 52 []))) 2113 [.tmp 138], none⟩]) (.seq (.region [⟨some 140, .mv (.tmp 13), none⟩, ⟨some 141, .call (.c (.one (.fn 52 []))) 2177 [.tmp 140], none⟩]) (.seq (.region [⟨some 142, .mv (.tmp 12), none⟩, ⟨some 143, .call (.c (.one (.fn 53 []))) 2241 [.tmp 142], none⟩, ⟨some 144, .mv (.tmp 13), none⟩, ⟨some 145, .call (.c (.one (.fn 53 []))) 2243 [.tmp 144], none⟩, ⟨some 146, .build [.nil, .nil] [(0, (1, .tmp 143)), (1, (1, .tmp 145))], none⟩, ⟨some 27, .alloc 2245 27 [.nil, .nil], none⟩, ⟨none, .store 2 (.tmp 27) (.tmp 146), none⟩]) (.seq (.seq (.region [⟨some 147, .fieldA 0 (.tmp 27), none⟩, ⟨some 148, .load false 1 (.tmp 147), none⟩, ⟨some 149, .len (.tmp 148), none⟩, ⟨some 150, .fieldA 4 (.tmp 10), none⟩, ⟨some 151, .fieldA 0 (.tmp 150), none⟩, ⟨some 152, .load false 1 (.tmp 151), none⟩, ⟨some 153, .len (.tmp 152), none⟩, ⟨some 154, .bin .eql (.tmp 149) (.tmp 153), none⟩, ⟨some 155, .mv (.tmp 154), none⟩, ⟨some 156, .fieldA 1 (.tmp 27), some (155, true)⟩, ⟨some 157, .load false 1 (.tmp 156), some (155, true)⟩, ⟨some 158, .len (.tmp 157), some (155, true)⟩, ⟨some 159, .fieldA 4 (.tmp 10), some (155, true)⟩, ⟨some 160, .fieldA 1 (.tmp 159), some (155, true)⟩, ⟨some 161, .load false 1 (.tmp 160), some (155, true)⟩, ⟨some 162, .len (.tmp 161), some (155, true)⟩, ⟨some 163, .bin .eql (.tmp 158) (.tmp 162), some (155, true)⟩, ⟨some 164, .pick (.tmp 155) (.tmp 163) (.c (.one (.t (.bool false)))), none⟩]) (.cond (.tmp 164) (.seq (.region [⟨some 165, .load true 2 (.tmp 27), none⟩, ⟨none, .store 2 (.tmp 8) (.tmp 165), none⟩, ⟨some 9, .mv (.c (.one (.t (.int .i64 0)))), none⟩]) .ret) .skip)) (.region [⟨some 166, .load true 2 (.tmp 27), none⟩, ⟨some 167, .fieldA 4 (.tmp 10), none⟩, ⟨none, .store 2 (.tmp 167) (.tmp 166), none⟩]))))))))))))))))⟩
theorem k_repair : cFn Try.prog Try.f16 = some c_repair := by kernel_rfl
theorem repair_ok (l g : Gr) (p m : Pa) (h : TinyCase l g p m) : CallOK Try.prog 16 [l.v, g.v, p.v, m.v] (.tup [(repR l g p m).1.v, (false, [.int .i64 (repR l g p m).2])]) := by
  refine callOK_W (callS_W (by kernel_rfl) Try.func16 k_repair (callable_of Try.func16 (by kernel_rfl)) (by simp [c_repair]) ?_)
  simp [c_repair]
  refine callS_tree (given_ok l g p m h) ?_ ?_ ?_
  · rfl
  · rfl
  by_cases h1 : caseErr l g p m = 0
  case neg =>
    have e : repR l g p m = (⟨[], []⟩, caseErr l g p m) := by simp [repR, h1]
    simp [h1, e]
  obtain ⟨mo, so⟩ := caseErr_ok h1
  have hp := partOk_of so
  have e : repR l g p m = (repN l g m (l.nodes.length + l.edges.length + 1) p, 0) := by simp [repR, h1]
  rw [e]
  have hR := rep_start (g := g) (m := m) hp
  generalize repN l g m (l.nodes.length + l.edges.length + 1) p = R at hR ⊢
  have b1 := mo.ga.n
  have b2 := mo.ga.e
  have b3 := mo.gb.n
  have b4 := mo.gb.e
  have b5 := mo.ln
  have b6 := mo.le
  simp [h1]
  refine loopW_intro (fun S => ∃ q, RepS l g m q S ∧ RepAt l g m R q) (repMu l) ⟨p, by simp [RepS, gluV], hR⟩ ?_
  rintro S ⟨q, ⟨f4, f5, f7, f8, f10, o0, o1, o3, o4, o69⟩, hq⟩
  have hμ : repMu l S = gap l q := by simp [repMu, o69, bx, ints, gap]
  rw [hμ]
  have c1 := hq.1.len
  have c2 := pairs_few (l := m.nodes) (k := q.nodes) (n := 40) (by omega)
  have c3 := pairs_few (l := m.edges) (k := q.edges) (n := 80) (by omega)
  have c4 := dangl_few (g := g) (p := q) (m := m)
  simp [dw0, dw1, dw2, dw3, gluV, f4, f5, f7, f8, f10, o0, o1, o3, o4, o69]
  refine dCall_rowL (clone_row q.nodes (by simp only [tiny]; omega)) ?_ fun E hE hob hcnt => ?_
  · rfl
  simp [dw0, dw1, dw2, dw3, gluV, f4, f5, f7, f8, f10, o0, o1, o3, o4, o69, hob]
  refine dCall_rowL (clone_row q.edges (by simp only [tiny]; omega)) ?_ fun E' hE' hob' hcnt' => ?_
  · rfl
  simp [dw0, dw1, dw2, dw3, gluV, f4, f5, f7, f8, f10, o0, o1, o3, o4, o69, hob, hob']
  refine ⟨rfl, ?_⟩
  have hN := (hE.keep (ob' := E'.ob) (fun nm hm g => by simp at hm; subst hm; exact hob' _ _ (by decide))).wide (nms' := nmN) (by simp [nmN])
  have hM := hE'.wide (nms' := nmE) (by simp [nmE])
  refine callS_tree (identified_ok l g q m (by omega) (by omega) ⟨by simp only [tiny]; omega, by simp only [tiny]; omega⟩) ?_ ?_ ?_
  · rfl
  · rfl
  simp [gluV, f4, f5, f7, f8, f10, o0, o1, o3, o4, o69, hob, hob']
  refine loopW_count 54 (pairsL m.nodes q.nodes).length (fun k S => RepS l g m q S ∧ S.fr 15 = .one (.t (prs (pairsL m.edges q.edges))) ∧ S.fr 52 = .one (.t (prs (pairsL m.nodes q.nodes))) ∧ S.fr 53 = .one (.t (.int .i64 (pairsL m.nodes q.nodes).length)) ∧
    outL nmN 3 1 (q.nodes ++ flatP ((pairsL m.nodes q.nodes).take k)).length ((q.nodes ++ flatP ((pairsL m.nodes q.nodes).take k)).map (.int .i64)) S.ob (S.fr 12) ∧ outL nmE 3 1 q.edges.length (q.edges.map (.int .i64)) S.ob (S.fr 13)) (by omega) ?_ ?_ ?_
  · simp [RepS, gluV, f4, f5, f7, f8, f10, o0, o1, o3, o4, o69, hob, hob', hcnt, hcnt', flatP]
    exact ⟨hN, hM⟩
  · rintro k S hlt hw hc ⟨⟨f4, f5, f7, f8, f10, o0, o1, o3, o4, o69⟩, f15, f52, f53, hN, hM⟩
    have hlt2 : k * 2 < (pairsL m.nodes q.nodes).length * 2 := by omega
    have z1 := flatP_len (P := (pairsL m.nodes q.nodes).take k)
    rw [List.length_take] at z1
    simp [f4, f5, f7, f8, f10, f15, f52, f53, o0, o1, o3, o4, o69, hc, hlt, hlt2, drop_prL hlt]
    refine kApp_growL (nms := nmN) (ts := [.int .i64 (pth (pairsL m.nodes q.nodes) k).1, .int .i64 (pth (pairsL m.nodes q.nodes) k).2]) (by simp [nmN]) rfl (hN.keep fun nm hm g => by simp [nmN] at hm; rcases hm with rfl | rfl | rfl | rfl <;> simp) rfl (by simp [z1]; omega) (by simp [z1]; omega) fun E hE hob hcnt => ?_
    have hM2 := hM.keep (ob' := E.ob) fun nm hm g => by
      rw [hob _ _ (by simp [nmE] at hm; rcases hm with rfl | rfl <;> simp [nmN])]
      simp [nmE] at hm
      rcases hm with rfl | rfl <;> simp
    simp [RepS, nmN, f4, f5, f7, f8, f10, f15, f52, f53, o0, o1, o3, o4, o69, hc, hw, hob, flatP_take hlt]
    exact ⟨by simpa [nmN, Nat.add_assoc] using hE, hM2⟩
  · rintro S hc ⟨⟨f4, f5, f7, f8, f10, o0, o1, o3, o4, o69⟩, f15, f52, f53, hN, hM⟩
    rw [List.take_length] at hN
    simp [f4, f5, f7, f8, f10, f15, f52, f53, o0, o1, o3, o4, o69, hc]
    refine loopW_count 68 (pairsL m.edges q.edges).length (fun k S => RepS l g m q S ∧ S.fr 66 = .one (.t (prs (pairsL m.edges q.edges))) ∧ S.fr 67 = .one (.t (.int .i64 (pairsL m.edges q.edges).length)) ∧
      outL nmN 3 1 (q.nodes ++ flatP (pairsL m.nodes q.nodes)).length ((q.nodes ++ flatP (pairsL m.nodes q.nodes)).map (.int .i64)) S.ob (S.fr 12) ∧ outL nmE 3 1 (q.edges ++ flatP ((pairsL m.edges q.edges).take k)).length ((q.edges ++ flatP ((pairsL m.edges q.edges).take k)).map (.int .i64)) S.ob (S.fr 13)) (by omega) ?_ ?_ ?_
    · simp [RepS, f4, f5, f7, f8, f10, f15, o0, o1, o3, o4, o69]
      exact ⟨by simpa using hN, by simpa [flatP] using hM⟩
    · rintro k S hlt hw hc ⟨⟨f4, f5, f7, f8, f10, o0, o1, o3, o4, o69⟩, f66, f67, hN, hM⟩
      have hlt2 : k * 2 < (pairsL m.edges q.edges).length * 2 := by omega
      have z1 := flatP_len (P := (pairsL m.edges q.edges).take k)
      rw [List.length_take] at z1
      simp [f4, f5, f7, f8, f10, f66, f67, o0, o1, o3, o4, o69, hc, hlt, hlt2, drop_prL hlt]
      refine kApp_growL (nms := nmE) (ts := [.int .i64 (pth (pairsL m.edges q.edges) k).1, .int .i64 (pth (pairsL m.edges q.edges) k).2]) (by simp [nmE]) rfl (hM.keep fun nm hm g => by simp [nmE] at hm; rcases hm with rfl | rfl <;> simp) rfl (by simp [z1]; omega) (by simp [z1]; omega) fun E hE hob hcnt => ?_
      have hN2 := hN.keep (ob' := E.ob) fun nm hm g => by
        rw [hob _ _ (by simp [nmN] at hm; rcases hm with rfl | rfl | rfl | rfl <;> simp [nmE])]
        simp [nmN] at hm
        rcases hm with rfl | rfl | rfl | rfl <;> simp
      simp [RepS, nmE, f4, f5, f7, f8, f10, f66, f67, o0, o1, o3, o4, o69, hc, hw, hob, flatP_take hlt]
      exact ⟨by simpa using hN2, by simpa [nmE, Nat.add_assoc] using hE⟩
    · rintro S hc ⟨⟨f4, f5, f7, f8, f10, o0, o1, o3, o4, o69⟩, f66, f67, hN, hM⟩
      rw [List.take_length] at hM
      simp [f4, f5, f7, f8, f10, f66, f67, o0, o1, o3, o4, o69, hc]
      refine callS_tree (dangling_row l g q m h.tg h.tm ⟨by simp only [tiny]; omega, by simp only [tiny]; omega⟩).ok ?_ ?_ ?_
      · rfl
      · rfl
      simp [f4, f5, f7, f8, f10, o0, o1, o3, o4, o69]
      refine loopW_count 83 (danglL g q m).length (fun k S => RepS l g m q S ∧ S.fr 81 = .one (.t (ints (danglL g q m))) ∧ S.fr 82 = .one (.t (.int .i64 (danglL g q m).length)) ∧
        outL nmN 3 1 (q.nodes ++ flatP (pairsL m.nodes q.nodes) ++ looseT g m (danglL g q m) k).length ((q.nodes ++ flatP (pairsL m.nodes q.nodes) ++ looseT g m (danglL g q m) k).map (.int .i64)) S.ob (S.fr 12) ∧
        outL nmE 3 1 (edgesS q m).length ((edgesS q m).map (.int .i64)) S.ob (S.fr 13)) (by omega) ?_ ?_ ?_
      · simp [RepS, f4, f5, f7, f8, f10, o0, o1, o3, o4, o69]
        exact ⟨by simpa [looseT] using hN, by simpa [edgesS] using hM⟩
      · rintro k S hlt hw hc ⟨⟨f4, f5, f7, f8, f10, o0, o1, o3, o4, o69⟩, f81, f82, hN, hM⟩
        obtain ⟨y1, y2⟩ := dangl_in _ (nth_mem hlt)
        obtain ⟨x, hx⟩ := Int.eq_ofNat_of_zero_le y1
        have hx2 : x < g.edges.length := by omega
        have hx3 : x * 3 < g.edges.length * 3 := by omega
        have z1 := flatP_len (P := pairsL m.nodes q.nodes)
        have z2 := looseT_len (g := g) (m := m) (D := danglL g q m) k
        have z3 : k * m.nodes.length ≤ 80 * 40 := Nat.mul_le_mul (by omega) (by omega)
        simp [f4, f5, f7, f8, f10, f81, f82, o0, o1, o3, o4, o69, hc, hlt, drop_nth hlt, hx, hx2, hx3, drop_edL hx2]
        refine loopW_count 95 m.nodes.length (fun j S' => RepS l g m q S' ∧ S'.fr 81 = .one (.t (ints (danglL g q m))) ∧ S'.fr 82 = .one (.t (.int .i64 (danglL g q m).length)) ∧ S'.fr 83 = .one (.t (.int .i64 k)) ∧
          S'.fr 93 = .one (.t (ints m.nodes)) ∧ S'.fr 94 = .one (.t (.int .i64 m.nodes.length)) ∧ S'.fr 22 = .one (.ptr (1285, S.cnt 1285) 0) ∧ S'.ob (1285, S.cnt 1285) = some (bx 73 [.t (.int .i64 (eth g.edges x).t), .t (.int .i64 (eth g.edges x).f), .t (.int .i64 (eth g.edges x).g)]) ∧
          outL nmN 3 1 (q.nodes ++ flatP (pairsL m.nodes q.nodes) ++ looseT g m (danglL g q m) k ++ collect (touchF m (eth g.edges x)) j).length ((q.nodes ++ flatP (pairsL m.nodes q.nodes) ++ looseT g m (danglL g q m) k ++ collect (touchF m (eth g.edges x)) j).map (.int .i64)) S'.ob (S'.fr 12) ∧
          outL nmE 3 1 (edgesS q m).length ((edgesS q m).map (.int .i64)) S'.ob (S'.fr 13)) (by omega) ?_ ?_ ?_
        · simp [RepS, f4, f5, f7, f8, f10, f81, f82, o0, o1, o3, o4, o69, hc, collect_zero]
          simp at hN
          exact ⟨hN.keep fun nm hm g => by simp [nmN] at hm; rcases hm with rfl | rfl | rfl | rfl <;> simp, hM.keep fun nm hm g => by simp [nmE] at hm; rcases hm with rfl | rfl <;> simp⟩
        · rintro j S' hlt' hw' hc' ⟨⟨f4, f5, f7, f8, f10, o0, o1, o3, o4, o69⟩, f81, f82, f83, f93, f94, f22, oe, hN, hM⟩
          have z4 := collect_len (f := touchF m (eth g.edges x)) (k := j)
          have hlen : (q.nodes ++ flatP (pairsL m.nodes q.nodes) ++ looseT g m (danglL g q m) k ++ collect (touchF m (eth g.edges x)) j).length ≤ 100000 := by simp; omega
          by_cases e1 : nth m.nodes j = (eth g.edges x).f
          · have e : touchF m (eth g.edges x) j = some (j : Int) := by simp [touchF, e1]
            simp [f4, f5, f7, f8, f10, f81, f82, f83, f93, f94, f22, oe, o0, o1, o3, o4, o69, hc', hlt', drop_nth hlt', e1]
            refine kApp_growL (nms := nmN) (ts := [.int .i64 j]) (by simp [nmN]) rfl (hN.keep fun nm hm g => by simp [nmN] at hm; rcases hm with rfl | rfl | rfl | rfl <;> simp) rfl (by omega) (by omega) fun E hE hob hcnt => ?_
            have hM2 := hM.keep (ob' := E.ob) fun nm hm g => by
              rw [hob _ _ (by simp [nmE] at hm; rcases hm with rfl | rfl <;> simp [nmN])]
              simp [nmE] at hm
              rcases hm with rfl | rfl <;> simp
            simp [RepS, nmN, f4, f5, f7, f8, f10, f81, f82, f83, f93, f94, f22, oe, o0, o1, o3, o4, o69, hc', hw', hob, collect_some e]
            exact ⟨by simpa [nmN, Nat.add_assoc] using hE, hM2⟩
          by_cases e2 : nth m.nodes j = (eth g.edges x).g
          · have e : touchF m (eth g.edges x) j = some (j : Int) := by simp [touchF, e2]
            have e1' : ¬ (eth g.edges x).g = (eth g.edges x).f := fun h => e1 (by rw [e2, h])
            simp [f4, f5, f7, f8, f10, f81, f82, f83, f93, f94, f22, oe, o0, o1, o3, o4, o69, hc', hlt', drop_nth hlt', e1, e2, e1']
            refine kApp_growL (nms := nmN) (ts := [.int .i64 j]) (by simp [nmN]) rfl (hN.keep fun nm hm g => by simp [nmN] at hm; rcases hm with rfl | rfl | rfl | rfl <;> simp) rfl (by omega) (by omega) fun E hE hob hcnt => ?_
            have hM2 := hM.keep (ob' := E.ob) fun nm hm g => by
              rw [hob _ _ (by simp [nmE] at hm; rcases hm with rfl | rfl <;> simp [nmN])]
              simp [nmE] at hm
              rcases hm with rfl | rfl <;> simp
            simp [RepS, nmN, f4, f5, f7, f8, f10, f81, f82, f83, f93, f94, f22, oe, o0, o1, o3, o4, o69, hc', hw', hob, collect_some e]
            exact ⟨by simpa [nmN, Nat.add_assoc] using hE, hM2⟩
          · have e : touchF m (eth g.edges x) j = none := by simp [touchF, e1, e2]
            simp [RepS, f4, f5, f7, f8, f10, f81, f82, f83, f93, f94, f22, oe, o0, o1, o3, o4, o69, hc', hlt', hw', drop_nth hlt', e1, e2, collect_none e]
            simp at hN
            exact ⟨hN, hM⟩
        · rintro S' hc' ⟨⟨f4, f5, f7, f8, f10, o0, o1, o3, o4, o69⟩, f81, f82, f83, f93, f94, f22, oe, hN, hM⟩
          simp [RepS, f4, f5, f7, f8, f10, f81, f82, f83, f93, f94, f22, o0, o1, o3, o4, o69, hc', hw, looseT_succ hlt, hx, touchL]
          simp at hN
          exact ⟨hN, hM⟩
      · rintro S hc ⟨⟨f4, f5, f7, f8, f10, o0, o1, o3, o4, o69⟩, f81, f82, hN, hM⟩
        rw [looseT_all] at hN
        have hs := hM.slice
        have z0 : (edgesS q m).length ≤ 20000 := by
          have z1 := flatP_len (P := pairsL m.edges q.edges)
          simp only [edgesS, List.length_append]
          omega
        simp [f4, f5, f7, f8, f10, f81, f82, o0, o1, o3, o4, o69, hc, hs, -sliceOf]
        refine loopW_count 118 (edgesS q m).length (fun k S => RepS l g m q S ∧ S.fr 116 = S.fr 13 ∧ S.fr 117 = .one (.t (.int .i64 (edgesS q m).length)) ∧
          outL nmN 3 1 (nodesS g q m ++ endsT l (edgesS q m) k).length ((nodesS g q m ++ endsT l (edgesS q m) k).map (.int .i64)) S.ob (S.fr 12) ∧
          outL nmE 3 1 (edgesS q m).length ((edgesS q m).map (.int .i64)) S.ob (S.fr 13)) (by omega) ?_ ?_ ?_
        · simp [RepS, f4, f5, f7, f8, f10, o0, o1, o3, o4, o69]
          exact ⟨by simpa [endsT, nodesS] using hN, by simpa using hM⟩
        · rintro k S hlt hw hc ⟨⟨f4, f5, f7, f8, f10, o0, o1, o3, o4, o69⟩, f116, f117, hN, hM⟩
          obtain ⟨y1, y2⟩ := edgesS_in hq.1 (by omega) _ (nth_mem hlt)
          obtain ⟨x, hx⟩ := Int.eq_ofNat_of_zero_le y1
          have hx2 : x < l.edges.length := by omega
          have hx3 : x * 3 < l.edges.length * 3 := by omega
          have z2 := endsT_len (l := l) (E := edgesS q m) k
          have z3 : (nodesS g q m ++ endsT l (edgesS q m) k).length ≤ 100000 := by
            have z1 := flatP_len (P := pairsL m.nodes q.nodes)
            have z4 := looseT_len (g := g) (m := m) (D := danglL g q m) (danglL g q m).length
            have z5 : (danglL g q m).length * m.nodes.length ≤ 80 * 40 := Nat.mul_le_mul (by omega) (by omega)
            rw [looseT_all] at z4
            simp only [nodesS, List.length_append]
            omega
          have hM0 := hM
          rcases hM with ⟨hz, _, _⟩ | ⟨hpos, nm, hnm, gg, hv, ho⟩
          · omega
          have hv2 := f116.trans hv
          simp [nmE] at hnm
          have hlt1 : k + 1 ≤ (edgesS q m).length := hlt
          have hN0 := hN
          rcases hN with ⟨nz, _, nv⟩ | ⟨npos, nm', hnm', g', nv, no⟩
          · have no : True := trivial
            rcases hnm with rfl | rfl <;> (
                simp [dw0, dw1, dw2, dw3, f4, f5, f7, f8, f10, f117, hv2, ho, nv, no, o0, o1, o3, o4, o69, hc, hlt, hlt1, drop_nthV hlt, hx, hx2, hx3, drop_edL hx2]
                refine kApp_growL (nms := nmN) (ts := [.int .i64 (eth l.edges x).f, .int .i64 (eth l.edges x).g]) (by simp [nmN]) rfl (by rw [← nv]; exact hN0.keep fun nm hm g => by simp [nmN] at hm; rcases hm with rfl | rfl | rfl | rfl <;> simp) rfl (by simp only [List.length_append] at *; omega) (by simp only [List.length_append] at *; omega) fun E hE hob hcnt => ?_
                have hM2 := hM0.keep (ob' := E.ob) fun nm hm g => by
                  rw [hob _ _ (by simp [nmE] at hm; rcases hm with rfl | rfl <;> simp [nmN])]
                  simp [nmE] at hm
                  rcases hm with rfl | rfl <;> simp
                simp [dw0, dw1, dw2, dw3]
                refine ⟨rfl, ?_⟩
                simp [RepS, nmN, f4, f5, f7, f8, f10, f117, hv2, hv, o0, o1, o3, o4, o69, hc, hw, hob, endsT_succ hlt, hx]
                rw [hv] at hM2
                exact ⟨by simpa [nmN, Nat.add_assoc] using hE, hM2⟩)
          · simp [nmN] at hnm'
            rcases hnm' with rfl | rfl | rfl | rfl <;> rcases hnm with rfl | rfl <;> (
                simp [dw0, dw1, dw2, dw3, f4, f5, f7, f8, f10, f117, hv2, ho, nv, no, o0, o1, o3, o4, o69, hc, hlt, hlt1, drop_nthV hlt, hx, hx2, hx3, drop_edL hx2]
                refine kApp_growL (nms := nmN) (ts := [.int .i64 (eth l.edges x).f, .int .i64 (eth l.edges x).g]) (by simp [nmN]) rfl (by rw [← nv]; exact hN0.keep fun nm hm g => by simp [nmN] at hm; rcases hm with rfl | rfl | rfl | rfl <;> simp) rfl (by simp only [List.length_append] at *; omega) (by simp only [List.length_append] at *; omega) fun E hE hob hcnt => ?_
                have hM2 := hM0.keep (ob' := E.ob) fun nm hm g => by
                  rw [hob _ _ (by simp [nmE] at hm; rcases hm with rfl | rfl <;> simp [nmN])]
                  simp [nmE] at hm
                  rcases hm with rfl | rfl <;> simp
                simp [dw0, dw1, dw2, dw3]
                refine ⟨rfl, ?_⟩
                simp [RepS, nmN, f4, f5, f7, f8, f10, f117, hv2, hv, o0, o1, o3, o4, o69, hc, hw, hob, endsT_succ hlt, hx]
                rw [hv] at hM2
                exact ⟨by simpa [nmN, Nat.add_assoc] using hE, hM2⟩)
        · rintro S hc ⟨⟨f4, f5, f7, f8, f10, o0, o1, o3, o4, o69⟩, f116, f117, hN, hM⟩
          have z3 : (nodesS g q m ++ endsT l (edgesS q m) (edgesS q m).length).length ≤ 100000 := by
            have z1 := flatP_len (P := pairsL m.nodes q.nodes)
            have z2 := endsT_len (l := l) (E := edgesS q m) (edgesS q m).length
            have z4 := looseT_len (g := g) (m := m) (D := danglL g q m) (danglL g q m).length
            have z5 : (danglL g q m).length * m.nodes.length ≤ 80 * 40 := Nat.mul_le_mul (by omega) (by omega)
            rw [looseT_all] at z4
            simp only [nodesS, List.length_append]
            omega
          have kN : ∀ nm ∈ nmN, nm ∉ nmE := by decide
          have kE : ∀ nm ∈ nmE, nm ∉ nmN := by decide
          have k1 : ∀ nm ∈ [0, 1, 3, 4, 69], nm ∉ nmN ∧ nm ∉ nmE := by decide
          simp [f4, f5, f7, f8, f10, f116, f117, o0, o1, o3, o4, o69, hc]
          refine callS_sortL sortSaid hN (by omega) fun ob1 hN1 hob1 => ?_
          simp
          refine callS_sortL sortSaid (hM.keep fun nm hm g => hob1 _ _ (kE nm hm)) (by omega) fun ob2 hM2 hob2 => ?_
          simp
          refine callS_compactL compSaid (hN1.keep fun nm hm g => hob2 _ _ (kN nm hm)) (by simp only [List.length_mergeSort]; omega) fun ob3 hob3 => ?_
          simp
          refine callS_compactL compSaid (hM2.keep fun nm hm g => hob3 _ _ (kE nm hm)) (by simp only [List.length_mergeSort]; omega) fun ob4 hob4 => ?_
          rw [step_nodes mo.ga hq.1 mo.ln mo.le, step_edges (g := g) hq.1 mo.le]
          have hob : ∀ nm ∈ [0, 1, 3, 4, 69], ∀ g, ob4 (nm, g) = S.ob (nm, g) := fun nm hm g => by
            have := k1 nm hm
            rw [hob4 _ _ this.2, hob3 _ _ this.1, hob2 _ _ this.2, hob1 _ _ this.1]
          have o0' := (hob 0 (by decide) 0).trans o0
          have o1' := (hob 1 (by decide) 0).trans o1
          have o3' := (hob 3 (by decide) 0).trans o3
          have o4' := (hob 4 (by decide) 0).trans o4
          have o69' := (hob 69 (by decide) 0).trans o69
          by_cases hf1 : (stepP l g q m).nodes.length = q.nodes.length
          case neg =>
            have hf : ¬ fixedP l g q m := fun h => hf1 h.1
            obtain ⟨r1, r2⟩ := rep_go hq hf
            have hf1' : ¬ ((stepP l g q m).nodes.length : Int) = q.nodes.length := by omega
            simp [f4, f5, f7, f8, f10, o0', o1', o3', o4', o69', hf1', hf1]
            refine ⟨⟨_, ?_, r1⟩, ?_⟩
            · simp [RepS, f4, f5, f7, f8, f10, o0', o1', o3', o4', o69']
            · simp only [gap] at r2 ⊢
              simpa [repMu, o69'] using r2
          by_cases hf2 : (stepP l g q m).edges.length = q.edges.length
          case neg =>
            have hf : ¬ fixedP l g q m := fun h => hf2 h.2
            obtain ⟨r1, r2⟩ := rep_go hq hf
            have hf1' : ((stepP l g q m).nodes.length : Int) = q.nodes.length := by omega
            have hf2' : ¬ ((stepP l g q m).edges.length : Int) = q.edges.length := by omega
            simp [f4, f5, f7, f8, f10, o0', o1', o3', o4', o69', hf1', hf1, hf2, hf2']
            refine ⟨⟨_, ?_, r1⟩, ?_⟩
            · simp [RepS, f4, f5, f7, f8, f10, o0', o1', o3', o4', o69', hf1]
            · simp only [gap] at r2 ⊢
              simp [repMu, o69']
              omega
          have hf := rep_stop hq ⟨hf1, hf2⟩
          have hf1' : ((stepP l g q m).nodes.length : Int) = q.nodes.length := by omega
          have hf2' : ((stepP l g q m).edges.length : Int) = q.edges.length := by omega
          rw [hf] at hf1 hf2 hf1' hf2'
          simp [f4, f5, f7, f8, f10, o0', o1', o3', o4', o69', hf1', hf1, hf2, hf2', hf]
end Go.Proofs.Ythapbbpdcjmmfaa

/- Contract: the specified repair. -/
namespace Go.Proofs.Ythapbbpdcjmmfaa
open Abs
set_option linter.unusedSimpArgs false
set_option linter.unusedVariables false
attribute [local simp] rn0 rn1 rn2 rn3 rn4 rn5 rn6 rn7 evOp nests Arg.ev St.val St.set St.new sliceOf binInt2 binInt AV.cells rdAt St.live retOf resOf resAll treeOf treeCell treeCells treeTups untree frameOf TV.av TR.av ints edgs prs fillV splice intsOf trees V1.tree bx Gr.v Pa.v opRd opWr opNew opNewR opArgs argsRd argRd Arg.rd AV.refs V1.refs refsL dstL

/-- Where a round of the specification begins. -/
def RefS (l g : Gr) (m q : Pa) (S : St) : Prop :=
  S.fr 4 = .one (.ptr (0, 0) 0) ∧ S.fr 5 = .one (.ptr (1, 0) 0) ∧ S.fr 6 = .one (.ptr (2, 0) 0) ∧ S.fr 7 = .one (.ptr (3, 0) 0) ∧ S.fr 8 = .one (.ptr (4, 0) 0) ∧
  S.ob (0, 0) = some (bx 25 [.t (ints l.nodes), .t (edgs l.edges)]) ∧ S.ob (1, 0) = some (bx 25 [.t (ints g.nodes), .t (edgs g.edges)]) ∧
  S.ob (2, 0) = some (bx 27 [.t (ints q.nodes), .t (ints q.edges)]) ∧
  S.ob (3, 0) = some (bx 28 [.t (ints m.nodes), .t (ints m.edges)]) ∧ S.ob (4, 0) = some (bx 27 [.nil, .nil])

def rmN : List Nat := [259, 652, 1539]
def rmE : List Nat := [323, 908]

def refMu (l : Gr) (S : St) : Nat := match S.ob (2, 0) with
  | some x => match x.cells with
    | [.t (.sl a _), .t (.sl b _)] => (l.nodes.length - a) + (l.edges.length - b)
    | _ => 0
  | none => 0

theorem gErr_sub {l : Gr} {p : Pa} (h : subErr l p = 0) : gErr l = 0 := by
  unfold subErr at h
  split at h
  · assumption
  · exact h

def c_repair12 : MFunc := ⟨148, [.cell 8 true 2, .tmp 9], .seq (.region [⟨some 4, .box 0 25 (.tmp 0), none⟩, ⟨some 5, .box 1 25 (.tmp 1), none⟩, ⟨some 6, .box 2 27 (.tmp 2), none⟩, ⟨some 7, .box 3 28 (.tmp 3), none⟩, ⟨some 8, .alloc 4 27 [.nil, .nil], none⟩, ⟨some 9, .mv (.c (.one (.t (.int .i64 0)))), none⟩]) (.seq (.seq (.region [⟨some 23, .load true 2 (.tmp 4), none⟩, ⟨some 24, .load true 2 (.tmp 5), none⟩, ⟨some 25, .load true 2 (.tmp 6), none⟩, ⟨some 26, .load true 2 (.tmp 7), none⟩, ⟨some 27, .call (.c (.one (.fn 46 []))) 68 [.tmp 23, .tmp 24, .tmp 25, .tmp 26], none⟩, ⟨some 10, .mv (.tmp 27), none⟩]) (.seq (.region [⟨some 28, .mv (.tmp 10), none⟩, ⟨some 29, .bin .neq (.tmp 28) (.c (.one (.t (.int .i64 0)))), none⟩]) (.cond (.tmp 29) (.seq (.region [⟨some 30, .build [.nil, .nil] [], none⟩, ⟨some 31, .mv (.tmp 10), none⟩, ⟨none, .store 2 (.tmp 8) (.tmp 30), none⟩, ⟨some 9, .mv (.tmp 31), none⟩]) .ret) .skip))) (.block 0 (.loop (.block 1 (.seq (.region [⟨some 32, .mkrow 256 3 1 0 [] [], none⟩, ⟨some 33, .fieldA 0 (.tmp 6), none⟩, ⟨some 34, .load false 1 (.tmp 33), none⟩, ⟨some 35, .append 259 3 1 8 (.tmp 32) (.tmp 34), none⟩, ⟨some 11, .mv (.tmp 35), none⟩]) (.seq (.region [⟨some 36, .mkrow 320 3 1 0 [] [], none⟩, ⟨some 37, .fieldA 1 (.tmp 6), none⟩, ⟨some 38, .load false 1 (.tmp 37), none⟩, ⟨some 39, .append 323 3 1 8 (.tmp 36) (.tmp 38), none⟩, ⟨some 12, .mv (.tmp 39), none⟩]) (.seq (.draw [[], [0], [], [2], [1, 3], [], [5], [], [7], [6, 8, 4], [4, 9, 0, 1, 2, 3, 4], [9, 10, 0, 1, 2, 3, 4, 5, 6, 7, 8, 9, 10]] [⟨some 40, .fieldA 0 (.tmp 7), none⟩, ⟨some 41, .load false 1 (.tmp 40), none⟩, ⟨some 42, .fieldA 0 (.tmp 6), none⟩, ⟨some 43, .load false 1 (.tmp 42), none⟩, ⟨some 44, .call (.c (.one (.fn 47 []))) 388 [.tmp 41, .tmp 43], none⟩, ⟨some 45, .fieldA 1 (.tmp 7), none⟩, ⟨some 46, .load false 1 (.tmp 45), none⟩, ⟨some 47, .fieldA 1 (.tmp 6), none⟩, ⟨some 48, .load false 1 (.tmp 47), none⟩, ⟨some 49, .call (.c (.one (.fn 47 []))) 393 [.tmp 46, .tmp 48], none⟩, ⟨some 13, .mv (.tmp 44), none⟩, ⟨some 14, .mv (.tmp 49), none⟩]) (.seq (.seq (.region [⟨some 15, .mv (.c (.one (.t (.int .i64 0)))), none⟩]) (.block 2 (.loop (.seq (.seq (.region [⟨some 50, .mv (.tmp 15), none⟩, ⟨some 51, .mv (.tmp 13), none⟩, ⟨some 52, .len (.tmp 51), none⟩, ⟨some 53, .bin .lss (.tmp 50) (.tmp 52), none⟩]) (.cond (.tmp 53) .skip (.exit 2))) (.seq (.block 3 (.draw [[], [], [], [1, 2], [3], [4], [], [], [6, 7], [8], [9], [5, 10], [0, 11], [12, 12, 0, 1, 2, 3, 4, 5, 6, 7, 8, 9, 10, 11, 12]] [⟨some 56, .mv (.tmp 11), none⟩, ⟨some 57, .mv (.tmp 13), none⟩, ⟨some 58, .mv (.tmp 15), none⟩, ⟨some 59, .idxA 2 (.tmp 57) (.tmp 58), none⟩, ⟨some 60, .fieldA 0 (.tmp 59), none⟩, ⟨some 61, .load false 1 (.tmp 60), none⟩, ⟨some 62, .mv (.tmp 13), none⟩, ⟨some 63, .mv (.tmp 15), none⟩, ⟨some 64, .idxA 2 (.tmp 62) (.tmp 63), none⟩, ⟨some 65, .fieldA 1 (.tmp 64), none⟩, ⟨some 66, .load false 1 (.tmp 65), none⟩, ⟨some 67, .mkrow 651 3 1 2 [.t (.int .i64 0), .t (.int .i64 0)] [(0, (1, .tmp 61)), (1, (1, .tmp 66))], none⟩, ⟨some 68, .append 652 3 1 8 (.tmp 56) (.tmp 67), none⟩, ⟨some 11, .mv (.tmp 68), none⟩])) (.region [⟨some 54, .mv (.tmp 15), none⟩, ⟨some 55, .bin .add (.tmp 54) (.c (.one (.t (.int .i64 1)))), none⟩, ⟨some 15, .mv (.tmp 55), none⟩])))))) (.seq (.seq (.region [⟨some 16, .mv (.c (.one (.t (.int .i64 0)))), none⟩]) (.block 4 (.loop (.seq (.seq (.region [⟨some 69, .mv (.tmp 16), none⟩, ⟨some 70, .mv (.tmp 14), none⟩, ⟨some 71, .len (.tmp 70), none⟩, ⟨some 72, .bin .lss (.tmp 69) (.tmp 71), none⟩]) (.cond (.tmp 72) .skip (.exit 4))) (.seq (.block 5 (.draw [[], [], [], [1, 2], [3], [4], [], [], [6, 7], [8], [9], [5, 10], [0, 11], [12, 12, 0, 1, 2, 3, 4, 5, 6, 7, 8, 9, 10, 11, 12]] [⟨some 75, .mv (.tmp 12), none⟩, ⟨some 76, .mv (.tmp 14), none⟩, ⟨some 77, .mv (.tmp 16), none⟩, ⟨some 78, .idxA 2 (.tmp 76) (.tmp 77), none⟩, ⟨some 79, .fieldA 0 (.tmp 78), none⟩, ⟨some 80, .load false 1 (.tmp 79), none⟩, ⟨some 81, .mv (.tmp 14), none⟩, ⟨some 82, .mv (.tmp 16), none⟩, ⟨some 83, .idxA 2 (.tmp 81) (.tmp 82), none⟩, ⟨some 84, .fieldA 1 (.tmp 83), none⟩, ⟨some 85, .load false 1 (.tmp 84), none⟩, ⟨some 86, .mkrow 907 3 1 2 [.t (.int .i64 0), .t (.int .i64 0)] [(0, (1, .tmp 80)), (1, (1, .tmp 85))], none⟩, ⟨some 87, .append 908 3 1 8 (.tmp 75) (.tmp 86), none⟩, ⟨some 12, .mv (.tmp 87), none⟩])) (.region [⟨some 73, .mv (.tmp 16), none⟩, ⟨some 74, .bin .add (.tmp 73) (.c (.one (.t (.int .i64 1)))), none⟩, ⟨some 16, .mv (.tmp 74), none⟩])))))) (.seq (.region [⟨some 88, .load true 2 (.tmp 4), none⟩, ⟨some 89, .load true 2 (.tmp 5), none⟩, ⟨some 90, .load true 2 (.tmp 6), none⟩, ⟨some 91, .load true 2 (.tmp 7), none⟩, ⟨some 92, .call (.c (.one (.fn 48 []))) 964 [.tmp 88, .tmp 89, .tmp 90, .tmp 91], none⟩, ⟨some 17, .mv (.tmp 92), none⟩]) (.seq (.seq (.region [⟨some 18, .mv (.c (.one (.t (.int .i64 0)))), none⟩]) (.block 6 (.loop (.seq (.seq (.region [⟨some 93, .mv (.tmp 18), none⟩, ⟨some 94, .mv (.tmp 17), none⟩, ⟨some 95, .len (.tmp 94), none⟩, ⟨some 96, .bin .lss (.tmp 93) (.tmp 95), none⟩]) (.cond (.tmp 96) .skip (.exit 6))) (.seq (.block 7 (.seq (.draw [[], [0], [], [], [2, 3], [4], [1, 5], [6], [], [8, 7, 0, 1, 2, 3, 4, 5, 6, 7, 8]] [⟨some 99, .fieldA 1 (.tmp 5), none⟩, ⟨some 100, .load false 1 (.tmp 99), none⟩, ⟨some 101, .mv (.tmp 17), none⟩, ⟨some 102, .mv (.tmp 18), none⟩, ⟨some 103, .idxA 1 (.tmp 101) (.tmp 102), none⟩, ⟨some 104, .load false 1 (.tmp 103), none⟩, ⟨some 105, .idxA 3 (.tmp 100) (.tmp 104), none⟩, ⟨some 106, .load true 3 (.tmp 105), none⟩, ⟨some 19, .alloc 1224 73 [.t (.int .i64 0), .t (.int .i64 0), .t (.int .i64 0)], none⟩, ⟨none, .store 3 (.tmp 19) (.tmp 106), none⟩]) (.seq (.region [⟨some 20, .mv (.c (.one (.t (.int .i64 0)))), none⟩]) (.block 8 (.loop (.seq (.seq (.region [⟨some 107, .mv (.tmp 20), none⟩, ⟨some 108, .fieldA 0 (.tmp 4), none⟩, ⟨some 109, .load false 1 (.tmp 108), none⟩, ⟨some 110, .len (.tmp 109), none⟩, ⟨some 111, .bin .lss (.tmp 107) (.tmp 110), none⟩]) (.cond (.tmp 111) .skip (.exit 8))) (.seq (.block 9 (.seq (.draw [[], [0], [], [1, 2], [3], [], [5], [4, 6], [7], [8], [9, 8], [8], [10, 11, 8], [12, 8], [8], [14, 8], [13, 15, 8], [8, 16]] [⟨some 114, .fieldA 0 (.tmp 7), none⟩, ⟨some 115, .load false 1 (.tmp 114), none⟩, ⟨some 116, .mv (.tmp 20), none⟩, ⟨some 117, .idxA 1 (.tmp 115) (.tmp 116), none⟩, ⟨some 118, .load false 1 (.tmp 117), none⟩, ⟨some 119, .fieldA 1 (.tmp 19), none⟩, ⟨some 120, .load false 1 (.tmp 119), none⟩, ⟨some 121, .bin .eql (.tmp 118) (.tmp 120), none⟩, ⟨some 122, .mv (.tmp 121), none⟩, ⟨some 123, .fieldA 0 (.tmp 7), some (122, false)⟩, ⟨some 124, .load false 1 (.tmp 123), some (122, false)⟩, ⟨some 125, .mv (.tmp 20), some (122, false)⟩, ⟨some 126, .idxA 1 (.tmp 124) (.tmp 125), some (122, false)⟩, ⟨some 127, .load false 1 (.tmp 126), some (122, false)⟩, ⟨some 128, .fieldA 2 (.tmp 19), some (122, false)⟩, ⟨some 129, .load false 1 (.tmp 128), some (122, false)⟩, ⟨some 130, .bin .eql (.tmp 127) (.tmp 129), some (122, false)⟩, ⟨some 131, .pick (.tmp 122) (.c (.one (.t (.bool true)))) (.tmp 130), none⟩]) (.cond (.tmp 131) (.region [⟨some 132, .mv (.tmp 11), none⟩, ⟨some 133, .mv (.tmp 20), none⟩, ⟨some 134, .mkrow 1538 3 1 1 [.t (.int .i64 0)] [(0, (1, .tmp 133))], none⟩, ⟨some 135, .append 1539 3 1 8 (.tmp 132) (.tmp 134), none⟩, ⟨some 11, .mv (.tmp 135), none⟩]) .skip))) (.region [⟨some 112, .mv (.tmp 20), none⟩, ⟨some 113, .bin .add (.tmp 112) (.c (.one (.t (.int .i64 1)))), none⟩, ⟨some 20, .mv (.tmp 113), none⟩])))))))) (.region [⟨some 97, .mv (.tmp 18), none⟩, ⟨some 98, .bin .add (.tmp 97) (.c (.one (.t (.int .i64 1)))), none⟩, ⟨some 18, .mv (.tmp 98), none⟩])))))) (.seq (.region [⟨some 137, .load true 2 (.tmp 4), none⟩, ⟨some 138, .mv (.tmp 11), none⟩, ⟨some 139, .mv (.tmp 12), none⟩, ⟨some 140, .call (.c (.one (.fn 54 []))) 1603 [.tmp 137, .tmp 138, .tmp 139], none⟩, ⟨some 136, .mv (.tmp 140), none⟩, ⟨some 141, .extract (.tmp 136) 0, none⟩, ⟨some 142, .extract (.tmp 136) 1, none⟩, ⟨some 21, .alloc 1607 27 [.nil, .nil], none⟩, ⟨none, .store 2 (.tmp 21) (.tmp 141), none⟩, ⟨some 22, .mv (.tmp 142), none⟩]) (.seq (.seq (.region [⟨some 143, .load true 2 (.tmp 21), none⟩, ⟨some 144, .load true 2 (.tmp 6), none⟩, ⟨some 145, .call (.c (.one (.fn 15 []))) 1666 [.tmp 143, .tmp 144], none⟩]) (.cond (.tmp 145) (.seq (.region [⟨some 146, .load true 2 (.tmp 21), none⟩, ⟨none, .store 2 (.tmp 8) (.tmp 146), none⟩, ⟨some 9, .mv (.c (.one (.t (.int .i64 0)))), none⟩]) .ret) .skip)) (.region [⟨some 147, .load true 2 (.tmp 21), none⟩, ⟨none, .store 2 (.tmp 6) (.tmp 147), none⟩]))))))))))))))⟩
theorem k_repair12 : cFn Try.prog Try.f17 = some c_repair12 := by kernel_rfl
theorem repair12_ok (l g : Gr) (p m : Pa) (h : TinyCase l g p m) : CallOK Try.prog 17 [l.v, g.v, p.v, m.v] (.tup [(repR l g p m).1.v, (false, [.int .i64 (repR l g p m).2])]) := by
  refine callOK_W (callS_W (by kernel_rfl) Try.func17 k_repair12 (callable_of Try.func17 (by kernel_rfl)) (by simp [c_repair12]) ?_)
  simp [c_repair12]
  refine callS_tree (given12_ok l g p m h) ?_ ?_ ?_
  · rfl
  · rfl
  by_cases h1 : caseErr l g p m = 0
  case neg =>
    have e : repR l g p m = (⟨[], []⟩, caseErr l g p m) := by simp [repR, h1]
    simp [h1, e]
  obtain ⟨mo, so⟩ := caseErr_ok h1
  have hp := partOk_of so
  have e : repR l g p m = (repN l g m (l.nodes.length + l.edges.length + 1) p, 0) := by simp [repR, h1]
  rw [e]
  have hR := rep_start (g := g) (m := m) hp
  generalize repN l g m (l.nodes.length + l.edges.length + 1) p = R at hR ⊢
  have b1 := mo.ga.n
  have b2 := mo.ga.e
  have b3 := mo.gb.n
  have b4 := mo.gb.e
  have b5 := mo.ln
  have b6 := mo.le
  simp [h1]
  refine loopW_intro (fun S => ∃ q, RefS l g m q S ∧ RepAt l g m R q) (refMu l) ⟨p, by simp [RefS], hR⟩ ?_
  rintro S ⟨q, ⟨f4, f5, f6, f7, f8, o0, o1, o2, o3, o4⟩, hq⟩
  have hμ : refMu l S = gap l q := by simp [refMu, o2, bx, ints, gap]
  rw [hμ]
  have c1 := hq.1.len
  have c2 := pairs_few (l := m.nodes) (k := q.nodes) (n := 40) (by omega)
  have c3 := pairs_few (l := m.edges) (k := q.edges) (n := 80) (by omega)
  have c4 := dangl_few (g := g) (p := q) (m := m)
  have tq : tinyP q := ⟨by simp only [tiny]; omega, by simp only [tiny]; omega⟩
  simp [f4, f5, f6, f7, f8, o0, o1, o2, o3, o4]
  refine kApp_growL (nms := rmN) (n := 0) (cs := []) (ts := q.nodes.map (.int .i64)) (by simp [rmN]) (by simp) outL_nil (by simp) (by omega) (by omega) fun E hE hob hcnt => ?_
  have hob := fun a g h => (hob a g h).trans (by exact Eq.refl (S.ob (a, g)))
  simp [f4, f5, f6, f7, f8, o0, o1, o2, o3, o4, hob, rmN]
  refine kApp_growL (nms := rmE) (n := 0) (cs := []) (ts := q.edges.map (.int .i64)) (by simp [rmE]) (by simp) outL_nil (by simp) (by omega) (by omega) fun E' hE' hob' hcnt' => ?_
  have hN := hE.keep (ob' := E'.ob) fun nm hm g => hob' _ _ (by simp [rmN] at hm; rcases hm with rfl | rfl | rfl <;> simp [rmE])
  simp [dw0, dw1, dw2, dw3, f4, f5, f6, f7, f8, o0, o1, o2, o3, o4, hob, hob', rmN, rmE]
  refine dCall_ok (callOK_of_row (ident12_row m.nodes q.nodes (by omega) tq.1)) ?_ ?_ ?_
  · rfl
  · rfl
  simp [dw0, dw1, dw2, dw3, f4, f5, f6, f7, f8, o0, o1, o2, o3, o4, hob, hob', rmN, rmE]
  refine dCall_ok (callOK_of_row (ident12_row m.edges q.edges (by omega) tq.2)) ?_ ?_ ?_
  · rfl
  · rfl
  simp [dw0, dw1, dw2, dw3, f4, f5, f6, f7, f8, o0, o1, o2, o3, o4, hob, hob', rmN, rmE]
  refine ⟨rfl, ?_⟩
  refine loopW_count 15 (pairsL m.nodes q.nodes).length (fun k S => RefS l g m q S ∧ S.fr 13 = .one (.t (prs (pairsL m.nodes q.nodes))) ∧ S.fr 14 = .one (.t (prs (pairsL m.edges q.edges))) ∧
    outL rmN 3 1 (q.nodes ++ flatP ((pairsL m.nodes q.nodes).take k)).length ((q.nodes ++ flatP ((pairsL m.nodes q.nodes).take k)).map (.int .i64)) S.ob (S.fr 11) ∧ outL rmE 3 1 q.edges.length (q.edges.map (.int .i64)) S.ob (S.fr 12)) (by omega) ?_ ?_ ?_
  · simp [RefS, f4, f5, f6, f7, f8, o0, o1, o2, o3, o4, hob, hob', rmN, rmE, flatP]
    exact ⟨by simpa [rmN] using hN, by simpa [rmE] using hE'⟩
  · rintro k S hlt hw hc ⟨⟨f4, f5, f6, f7, f8, o0, o1, o2, o3, o4⟩, f13, f14, hN, hM⟩
    have hlt2 : k * 2 < (pairsL m.nodes q.nodes).length * 2 := by omega
    have z1 := flatP_len (P := (pairsL m.nodes q.nodes).take k)
    rw [List.length_take] at z1
    have hN0 := hN
    rcases hN with ⟨nz, _, nv⟩ | ⟨npos, nm', hnm', g', nv, no⟩
    · have no : True := trivial
      (
        simp [dw0, dw1, dw2, dw3, f4, f5, f6, f7, f8, o0, o1, o2, o3, o4, f13, f14, nv, no, hc, hlt, hlt2, drop_prL hlt]
        refine kApp_growL (nms := rmN) (ts := [.int .i64 (pth (pairsL m.nodes q.nodes) k).1, .int .i64 (pth (pairsL m.nodes q.nodes) k).2]) (by simp [rmN]) rfl (by rw [← nv]; exact hN0.keep fun nm hm g => by simp [rmN] at hm; rcases hm with rfl | rfl | rfl <;> simp) rfl (by simp [z1]; omega) (by simp [z1]; omega) fun E hE hob hcnt => ?_
        have hM2 := hM.keep (ob' := E.ob) fun nm hm g => by
          rw [hob _ _ (by simp [rmE] at hm; rcases hm with rfl | rfl <;> simp [rmN])]
          simp [rmE] at hm
          rcases hm with rfl | rfl <;> simp
        simp [dw0, dw1, dw2, dw3]
        refine ⟨rfl, ?_⟩
        simp [RefS, rmN, f4, f5, f6, f7, f8, o0, o1, o2, o3, o4, f13, f14, hc, hw, hob, flatP_take hlt]
        exact ⟨by simpa [rmN, Nat.add_assoc] using hE, hM2⟩)
    · simp [rmN] at hnm'
      rcases hnm' with rfl | rfl | rfl <;> (
        simp [dw0, dw1, dw2, dw3, f4, f5, f6, f7, f8, o0, o1, o2, o3, o4, f13, f14, nv, no, hc, hlt, hlt2, drop_prL hlt]
        refine kApp_growL (nms := rmN) (ts := [.int .i64 (pth (pairsL m.nodes q.nodes) k).1, .int .i64 (pth (pairsL m.nodes q.nodes) k).2]) (by simp [rmN]) rfl (by rw [← nv]; exact hN0.keep fun nm hm g => by simp [rmN] at hm; rcases hm with rfl | rfl | rfl <;> simp) rfl (by simp [z1]; omega) (by simp [z1]; omega) fun E hE hob hcnt => ?_
        have hM2 := hM.keep (ob' := E.ob) fun nm hm g => by
          rw [hob _ _ (by simp [rmE] at hm; rcases hm with rfl | rfl <;> simp [rmN])]
          simp [rmE] at hm
          rcases hm with rfl | rfl <;> simp
        simp [dw0, dw1, dw2, dw3]
        refine ⟨rfl, ?_⟩
        simp [RefS, rmN, f4, f5, f6, f7, f8, o0, o1, o2, o3, o4, f13, f14, hc, hw, hob, flatP_take hlt]
        exact ⟨by simpa [rmN, Nat.add_assoc] using hE, hM2⟩)
  · rintro S hc ⟨⟨f4, f5, f6, f7, f8, o0, o1, o2, o3, o4⟩, f13, f14, hN, hM⟩
    rw [List.take_length] at hN
    simp [f4, f5, f6, f7, f8, o0, o1, o2, o3, o4, f13, f14, hc]
    refine loopW_count 16 (pairsL m.edges q.edges).length (fun k S => RefS l g m q S ∧ S.fr 14 = .one (.t (prs (pairsL m.edges q.edges))) ∧
      outL rmN 3 1 (q.nodes ++ flatP (pairsL m.nodes q.nodes)).length ((q.nodes ++ flatP (pairsL m.nodes q.nodes)).map (.int .i64)) S.ob (S.fr 11) ∧
      outL rmE 3 1 (q.edges ++ flatP ((pairsL m.edges q.edges).take k)).length ((q.edges ++ flatP ((pairsL m.edges q.edges).take k)).map (.int .i64)) S.ob (S.fr 12)) (by omega) ?_ ?_ ?_
    · simp [RefS, f4, f5, f6, f7, f8, o0, o1, o2, o3, o4, f14]
      exact ⟨by simpa using hN, by simpa [flatP] using hM⟩
    · rintro k S hlt hw hc ⟨⟨f4, f5, f6, f7, f8, o0, o1, o2, o3, o4⟩, f14, hN, hM⟩
      have hlt2 : k * 2 < (pairsL m.edges q.edges).length * 2 := by omega
      have z1 := flatP_len (P := (pairsL m.edges q.edges).take k)
      rw [List.length_take] at z1
      have hM0 := hM
      rcases hM with ⟨mz, _, mv⟩ | ⟨mpos, nm', hnm', g', mv, mo'⟩
      · have mo' : True := trivial
        (
          simp [dw0, dw1, dw2, dw3, f4, f5, f6, f7, f8, o0, o1, o2, o3, o4, f14, mv, mo', hc, hlt, hlt2, drop_prL hlt]
          refine kApp_growL (nms := rmE) (ts := [.int .i64 (pth (pairsL m.edges q.edges) k).1, .int .i64 (pth (pairsL m.edges q.edges) k).2]) (by simp [rmE]) rfl (by rw [← mv]; exact hM0.keep fun nm hm g => by simp [rmE] at hm; rcases hm with rfl | rfl <;> simp) rfl (by simp [z1]; omega) (by simp [z1]; omega) fun E hE hob hcnt => ?_
          have hN2 := hN.keep (ob' := E.ob) fun nm hm g => by
            rw [hob _ _ (by simp [rmN] at hm; rcases hm with rfl | rfl | rfl <;> simp [rmE])]
            simp [rmN] at hm
            rcases hm with rfl | rfl | rfl <;> simp
          simp [dw0, dw1, dw2, dw3]
          refine ⟨rfl, ?_⟩
          simp [RefS, rmE, f4, f5, f6, f7, f8, o0, o1, o2, o3, o4, f14, hc, hw, hob, flatP_take hlt]
          exact ⟨by simpa using hN2, by simpa [rmE, Nat.add_assoc] using hE⟩)
      · simp [rmE] at hnm'
        rcases hnm' with rfl | rfl <;> (
          simp [dw0, dw1, dw2, dw3, f4, f5, f6, f7, f8, o0, o1, o2, o3, o4, f14, mv, mo', hc, hlt, hlt2, drop_prL hlt]
          refine kApp_growL (nms := rmE) (ts := [.int .i64 (pth (pairsL m.edges q.edges) k).1, .int .i64 (pth (pairsL m.edges q.edges) k).2]) (by simp [rmE]) rfl (by rw [← mv]; exact hM0.keep fun nm hm g => by simp [rmE] at hm; rcases hm with rfl | rfl <;> simp) rfl (by simp [z1]; omega) (by simp [z1]; omega) fun E hE hob hcnt => ?_
          have hN2 := hN.keep (ob' := E.ob) fun nm hm g => by
            rw [hob _ _ (by simp [rmN] at hm; rcases hm with rfl | rfl | rfl <;> simp [rmE])]
            simp [rmN] at hm
            rcases hm with rfl | rfl | rfl <;> simp
          simp [dw0, dw1, dw2, dw3]
          refine ⟨rfl, ?_⟩
          simp [RefS, rmE, f4, f5, f6, f7, f8, o0, o1, o2, o3, o4, f14, hc, hw, hob, flatP_take hlt]
          exact ⟨by simpa using hN2, by simpa [rmE, Nat.add_assoc] using hE⟩)
    · rintro S hc ⟨⟨f4, f5, f6, f7, f8, o0, o1, o2, o3, o4⟩, f14, hN, hM⟩
      rw [List.take_length] at hM
      simp [f4, f5, f6, f7, f8, o0, o1, o2, o3, o4, f14, hc]
      refine callS_tree (dangl12_row l g q m h.tg h.tm tq).ok ?_ ?_ ?_
      · rfl
      · rfl
      simp [f4, f5, f6, f7, f8, o0, o1, o2, o3, o4]
      refine loopW_count 18 (danglL g q m).length (fun k S => RefS l g m q S ∧ S.fr 17 = .one (.t (ints (danglL g q m))) ∧
        outL rmN 3 1 (q.nodes ++ flatP (pairsL m.nodes q.nodes) ++ looseT g m (danglL g q m) k).length ((q.nodes ++ flatP (pairsL m.nodes q.nodes) ++ looseT g m (danglL g q m) k).map (.int .i64)) S.ob (S.fr 11) ∧
        outL rmE 3 1 (edgesS q m).length ((edgesS q m).map (.int .i64)) S.ob (S.fr 12)) (by omega) ?_ ?_ ?_
      · simp [RefS, f4, f5, f6, f7, f8, o0, o1, o2, o3, o4]
        exact ⟨by simpa [looseT] using hN, by simpa [edgesS] using hM⟩
      · rintro k S hlt hw hc ⟨⟨f4, f5, f6, f7, f8, o0, o1, o2, o3, o4⟩, f17, hN, hM⟩
        obtain ⟨y1, y2⟩ := dangl_in _ (nth_mem hlt)
        obtain ⟨x, hx⟩ := Int.eq_ofNat_of_zero_le y1
        have hx2 : x < g.edges.length := by omega
        have hx3 : x * 3 < g.edges.length * 3 := by omega
        have z1 := flatP_len (P := pairsL m.nodes q.nodes)
        have z2 := looseT_len (g := g) (m := m) (D := danglL g q m) k
        have z3 : k * m.nodes.length ≤ 80 * 40 := Nat.mul_le_mul (by omega) (by omega)
        simp [dw0, dw1, dw2, dw3, f4, f5, f6, f7, f8, o0, o1, o2, o3, o4, f17, hc, hlt, drop_nth hlt, hx, hx2, hx3, drop_edL hx2]
        refine ⟨rfl, ?_⟩
        refine loopW_count 20 l.nodes.length (fun j S' => RefS l g m q S' ∧ S'.fr 17 = .one (.t (ints (danglL g q m))) ∧ S'.fr 18 = .one (.t (.int .i64 k)) ∧
          S'.fr 19 = .one (.ptr (1224, S.cnt 1224) 0) ∧ S'.ob (1224, S.cnt 1224) = some (bx 73 [.t (.int .i64 (eth g.edges x).t), .t (.int .i64 (eth g.edges x).f), .t (.int .i64 (eth g.edges x).g)]) ∧
          outL rmN 3 1 (q.nodes ++ flatP (pairsL m.nodes q.nodes) ++ looseT g m (danglL g q m) k ++ collect (touchF m (eth g.edges x)) j).length ((q.nodes ++ flatP (pairsL m.nodes q.nodes) ++ looseT g m (danglL g q m) k ++ collect (touchF m (eth g.edges x)) j).map (.int .i64)) S'.ob (S'.fr 11) ∧
          outL rmE 3 1 (edgesS q m).length ((edgesS q m).map (.int .i64)) S'.ob (S'.fr 12)) (by omega) ?_ ?_ ?_
        · simp [RefS, f4, f5, f6, f7, f8, o0, o1, o2, o3, o4, f17, hc, collect_zero]
          simp at hN
          exact ⟨hN.keep fun nm hm g => by simp [rmN] at hm; rcases hm with rfl | rfl | rfl <;> simp, hM.keep fun nm hm g => by simp [rmE] at hm; rcases hm with rfl | rfl <;> simp⟩
        · rintro j S' hlt' hw' hc' ⟨⟨f4, f5, f6, f7, f8, o0, o1, o2, o3, o4⟩, f17, f18, f19, oe, hN, hM⟩
          have z4 := collect_len (f := touchF m (eth g.edges x)) (k := j)
          have hlt'' : j < m.nodes.length := by omega
          have hlen : (q.nodes ++ flatP (pairsL m.nodes q.nodes) ++ looseT g m (danglL g q m) k ++ collect (touchF m (eth g.edges x)) j).length ≤ 100000 := by simp; omega
          by_cases e1 : nth m.nodes j = (eth g.edges x).f
          · have e : touchF m (eth g.edges x) j = some (j : Int) := by simp [touchF, e1]
            simp [dw0, dw1, dw2, dw3, f4, f5, f6, f7, f8, o0, o1, o2, o3, o4, f17, f18, f19, oe, hc', hlt', hlt'', drop_nth hlt'', e1]
            refine ⟨rfl, ?_⟩
            refine kApp_growL (nms := rmN) (ts := [.int .i64 j]) (by simp [rmN]) rfl (hN.keep fun nm hm g => by simp [rmN] at hm; rcases hm with rfl | rfl | rfl <;> simp) rfl (by omega) (by omega) fun E hE hob hcnt => ?_
            have hM2 := hM.keep (ob' := E.ob) fun nm hm g => by
              rw [hob _ _ (by simp [rmE] at hm; rcases hm with rfl | rfl <;> simp [rmN])]
              simp [rmE] at hm
              rcases hm with rfl | rfl <;> simp
            simp [RefS, rmN, f4, f5, f6, f7, f8, o0, o1, o2, o3, o4, f17, f18, f19, oe, hc', hw', hob, collect_some e]
            exact ⟨by simpa [rmN, Nat.add_assoc] using hE, hM2⟩
          by_cases e2 : nth m.nodes j = (eth g.edges x).g
          · have e : touchF m (eth g.edges x) j = some (j : Int) := by simp [touchF, e2]
            have e1' : ¬ (eth g.edges x).g = (eth g.edges x).f := fun h => e1 (by rw [e2, h])
            simp [dw0, dw1, dw2, dw3, f4, f5, f6, f7, f8, o0, o1, o2, o3, o4, f17, f18, f19, oe, hc', hlt', hlt'', drop_nth hlt'', e1, e2, e1']
            refine ⟨rfl, ?_⟩
            refine kApp_growL (nms := rmN) (ts := [.int .i64 j]) (by simp [rmN]) rfl (hN.keep fun nm hm g => by simp [rmN] at hm; rcases hm with rfl | rfl | rfl <;> simp) rfl (by omega) (by omega) fun E hE hob hcnt => ?_
            have hM2 := hM.keep (ob' := E.ob) fun nm hm g => by
              rw [hob _ _ (by simp [rmE] at hm; rcases hm with rfl | rfl <;> simp [rmN])]
              simp [rmE] at hm
              rcases hm with rfl | rfl <;> simp
            simp [RefS, rmN, f4, f5, f6, f7, f8, o0, o1, o2, o3, o4, f17, f18, f19, oe, hc', hw', hob, collect_some e]
            exact ⟨by simpa [rmN, Nat.add_assoc] using hE, hM2⟩
          · have e : touchF m (eth g.edges x) j = none := by simp [touchF, e1, e2]
            simp [RefS, dw0, dw1, dw2, dw3, f4, f5, f6, f7, f8, o0, o1, o2, o3, o4, f17, f18, f19, oe, hc', hlt', hlt'', hw', drop_nth hlt'', e1, e2, collect_none e]
            simp at hN
            exact ⟨rfl, hN, hM⟩
        · rintro S' hc' ⟨⟨f4, f5, f6, f7, f8, o0, o1, o2, o3, o4⟩, f17, f18, f19, oe, hN, hM⟩
          simp [RefS, f4, f5, f6, f7, f8, o0, o1, o2, o3, o4, f17, f18, f19, hc', hw, looseT_succ hlt, hx, touchL, b5]
          simp [← b5] at hN ⊢
          exact ⟨hN, hM⟩
      · rintro S hc ⟨⟨f4, f5, f6, f7, f8, o0, o1, o2, o3, o4⟩, f17, hN, hM⟩
        rw [looseT_all] at hN
        have z0 : (edgesS q m).length ≤ 20000 := by
          have z1 := flatP_len (P := pairsL m.edges q.edges)
          simp only [edgesS, List.length_append]
          omega
        have z3 : (nodesS g q m).length ≤ 20000 := by
          have z1 := flatP_len (P := pairsL m.nodes q.nodes)
          have z4 := looseT_len (g := g) (m := m) (D := danglL g q m) (danglL g q m).length
          have z5 : (danglL g q m).length * m.nodes.length ≤ 80 * 40 := Nat.mul_le_mul (by omega) (by omega)
          rw [looseT_all] at z4
          simp only [nodesS, List.length_append]
          omega
        simp [f4, f5, f6, f7, f8, o0, o1, o2, o3, o4, f17, hc]
        refine callS_lists2 (close_ok l (nodesS g q m) (edgesS q m) h.tl (gErr_sub so) (nodesS_in hq.1 mo.ln) (edgesS_in hq.1 mo.le) (by simp only [tiny]; omega) (by simp only [tiny]; omega)) (fun ob cnt => ⟨rfl, rfl⟩) hN hM (by decide) fun ob' hob => ?_
        have o0' := (hob 0 0 (by decide) (by decide)).trans o0
        have o1' := (hob 1 0 (by decide) (by decide)).trans o1
        have o2' := (hob 2 0 (by decide) (by decide)).trans o2
        have o3' := (hob 3 0 (by decide) (by decide)).trans o3
        have o4' := (hob 4 0 (by decide) (by decide)).trans o4
        have es : (⟨canon l.nodes.length (nodesS g q m ++ endsL l (edgesS q m) l.edges.length), canon l.edges.length (edgesS q m)⟩ : Pa) = stepP l g q m := rfl
        rw [es]
        have c5 := (stepP_ok (l := l) (g := g) (p := q) (m := m)).len
        simp [f4, f5, f6, f7, f8, o0', o1', o2', o3', o4']
        refine callS_tree (same7_ok (stepP l g q m) q ⟨by simp only [tiny]; omega, by simp only [tiny]; omega⟩ tq) ?_ ?_ ?_
        · rfl
        · rfl
        by_cases hf : (stepP l g q m).nodes = q.nodes ∧ (stepP l g q m).edges = q.edges
        · have hs := rep_stop hq ((fixed_eq hq.1).2 hf)
          rw [hs] at hf
          simp [f4, f5, f6, f7, f8, o0', o1', o2', o3', o4', hf.1, hf.2, hs]
        · obtain ⟨r1, r2⟩ := rep_go hq (fun h => hf ((fixed_eq hq.1).1 h))
          have hb : (decide ((stepP l g q m).nodes = q.nodes) && decide ((stepP l g q m).edges = q.edges)) = false := by
            rw [Bool.eq_false_iff]
            intro hb
            simp at hb
            exact hf hb
          rw [hb]
          simp [f4, f5, f6, f7, f8, o0', o1', o2', o3', o4']
          refine ⟨⟨_, ?_, r1⟩, ?_⟩
          · simp [RefS, f4, f5, f6, f7, f8, o0', o1', o2', o3', o4']
          · simp only [gap] at r2 ⊢
            simpa [refMu, o2'] using r2
end Go.Proofs.Ythapbbpdcjmmfaa

/- The row of ComplementOf, opened. -/
namespace Go.Proofs.Ythapbbpdcjmmfaa
open Abs
open Go.ChangeShapes Go.WideShapes Go.ChangeAt Go.RowKit
set_option linter.unusedSimpArgs false
set_option linter.unusedVariables false

theorem own : ownKnob Try.prog.godebug = none := by kernel_rfl
theorem laidOut : laidOutB Try.prog = true := by kernel_rfl
theorem oI : OpensI Try.prog 22 := opensI Try.underlying22 Try.underlying3 (by kernel_rfl) (by kernel_rfl)
theorem oE : OpensE Try.prog 23 := opensE Try.underlying23 Try.underlying73 ⟨rfl, rfl, rfl, rfl, rfl, rfl⟩ Try.underlying3 (by kernel_rfl) (by kernel_rfl) (by kernel_rfl)
theorem oG : OpensG Try.prog 25 := opensG Try.underlying25 ⟨rfl, rfl, rfl, rfl⟩ (by kernel_rfl) (by kernel_rfl) (by kernel_rfl) oI oE
theorem oP : OpensP Try.prog 27 := opensP Try.underlying27 ⟨rfl, rfl, rfl, rfl⟩ (by kernel_rfl) (by kernel_rfl) oI
theorem oM : OpensP Try.prog 28 := opensP Try.underlying28 ⟨rfl, rfl, rfl, rfl⟩ (by kernel_rfl) (by kernel_rfl) oI
theorem cG : Try.prog.cellsOf 25 = 2 := by kernel_rfl
theorem cP : Try.prog.cellsOf 27 = 2 := by kernel_rfl
theorem cM : Try.prog.cellsOf 28 = 2 := by kernel_rfl
theorem cC : Try.prog.cellsOf 30 = 8 := by kernel_rfl

structure BoundC (l g : Gr) (p m : Pa) : Prop where
  l1 : bound l.nodes.length
  l2 : bound l.edges.length
  g1 : bound g.nodes.length
  g2 : bound g.edges.length
  p1 : bound p.nodes.length
  p2 : bound p.edges.length
  m1 : bound m.nodes.length
  m2 : bound m.edges.length

/-- A case, opened. -/
theorem open_case {H : Type} {enc : TypeId × Value → H} {w : World} {base : Nat} {spare : Nat → Bool} {held : Bool} {v : Value} {d : DataW H} {ps : List MemPlace} (h : DataW.Trod enc Try.prog w base spare held 30 v d ps)
    (hw : (d.weights Try.prog 30).all (· ≤ reachBytes) = true) : ∃ l g p m, TVR w (fun _ => False) (gluV l g p m) v ∧ BoundC l g p m := by
  obtain ⟨fuel, hf⟩ := h
  obtain ⟨xs, n, _, hx, hl, hlen, hfs⟩ := DataW.trod_struct Try.underlying30 hf
  rw [cC] at hl
  match xs, hlen with
  | [y0, y1, y2, y3], _ =>
    have g0 := hfs 0 _ rfl
    have g1 := hfs 1 _ rfl
    have g2 := hfs 2 _ rfl
    have g3 := hfs 3 _ rfl
    obtain ⟨rfl, rfl⟩ := Prod.mk.inj hx
    have hw : ((y0.1.weights Try.prog 25 ++ (y1.1.weights Try.prog 25 ++ (y2.1.weights Try.prog 27 ++ (y3.1.weights Try.prog 28 ++ [])))).all (· ≤ reachBytes)) = true := by
      simpa [DataW.weights, Try.underlying30, DataW.weightsEach] using hw
    rw [List.all_append, List.all_append, List.all_append, List.all_append, Bool.and_eq_true, Bool.and_eq_true, Bool.and_eq_true, Bool.and_eq_true] at hw
    obtain ⟨w0, w1, w2, w3, _⟩ := hw
    have hv : ∃ us : Array Value, v = .agg us := by
      cases v <;> first | exact ⟨_, rfl⟩ | (simp [Value.cells] at hl)
    obtain ⟨us, rfl⟩ := hv
    have hl : us.toList.length = 8 := hl
    match hu : us.toList, hl with
    | [a0, a1, a2, a3, a4, a5, a6, a7], _ =>
      simp only [Value.cells, hu] at g0 g1 g2 g3
      obtain ⟨l, v0, v1, e0, c0, c1, b0, b1⟩ := oG _ _ _ _ _ _ _ _ _ g0 w0
      obtain ⟨g, v2, v3, e1, c2, c3, b2, b3⟩ := oG _ _ _ _ _ _ _ _ _ g1 w1
      obtain ⟨p, v4, v5, e2, c4, c5, b4, b5⟩ := oP _ _ _ _ _ _ _ _ _ g2 w2
      obtain ⟨m, v6, v7, e3, c6, c7, b6, b7⟩ := oM _ _ _ _ _ _ _ _ _ g3 w3
      simp [cG, cP, cM] at e0 e1 e2 e3
      obtain ⟨rfl, rfl⟩ := e0
      obtain ⟨rfl, rfl⟩ := e1
      obtain ⟨rfl, rfl⟩ := e2
      obtain ⟨rfl, rfl⟩ := e3
      refine ⟨l, g, p, m, ⟨us, rfl, by simp [hu, gluV], fun j c u hc hu' => ?_⟩, ⟨b0, b1, b2, b3, b4, b5, b6, b7⟩⟩
      rw [hu] at hu'
      match j, hc, hu' with
      | 0, hc, hu' | 1, hc, hu' | 2, hc, hu' | 3, hc, hu' | 4, hc, hu' | 5, hc, hu' | 6, hc, hu' | 7, hc, hu' =>
        simp at hc hu'
        subst hc hu'
        assumption
      | j + 8, hc, _ => simp at hc
end Go.Proofs.Ythapbbpdcjmmfaa

/- The row of ComplementOf, closed, if the law answers true for every case. -/
namespace Go.Proofs.Ythapbbpdcjmmfaa
open Abs
open Go.ChangeShapes Go.WideShapes Go.ChangeAt Go.RowKit
set_option linter.unusedSimpArgs false
set_option linter.unusedVariables false

/-- What the law of a case is to answer. -/
def CaseLaw (f : FuncId) : Prop := ∀ l g p m, BoundC l g p m → CallOK Try.prog f [gluV l g p m] (.sv (false, [.bool true]))

theorem case_calls {f : FuncId} (h : CaseLaw f) {H : Type} {enc : TypeId × Value → H} {w : World} {base : Nat} {spare : Nat → Bool} {held : Bool} {v : Value} {d : DataW H} {ps : List MemPlace} (hd : DataW.Trod enc Try.prog w base spare held 30 v d ps)
    (hw : (d.weights Try.prog 30).all (· ≤ reachBytes) = true) : Calls Try.prog f #[v] w fun e w' => e = .returned (.bool true) ∧ Below w.heap.size w w' := by
  obtain ⟨l, g, p, m, hv, hb⟩ := open_case hd hw
  refine ((h l g p m hb).2 w (fun _ => False) #[v] (fun b hb => hb.elim) rfl (fun j s u hs hu => ?_)).mono ?_
  · match j, hs, hu with
    | 0, hs, hu =>
      simp at hs hu
      subst hs hu
      exact hv
    | j + 1, hs, _ => simp at hs
  · rintro e w' ⟨u, rfl, hu, hbel⟩
    obtain ⟨c, hc, hc2⟩ := hu
    simp at hc
    subst hc
    cases hc2
    exact ⟨rfl, hbel⟩

namespace complementOf
set_option maxRecDepth 100000 in
theorem lifted (law : CaseLaw 3) (os : Os) (started : os.Started) (H : Type) (enc : TypeId × Value → H) :
    ReturnsInHanded {} Try.checked os 3 .any (Rows.complementOfSpec.pre6 enc Try.prog Try.f3 Rows.complementOfRow.domain false) (Rows.complementOfSpec.post enc Try.prog Try.f3 false true false false) := by
  refine returnsInHanded_of_change_sized (C := Try.checked) own started (by kernel_rfl) Try.func3
    (ChangeSpec.witness6 (enc := enc) (C := Try.checked) false ⟨#[], #[.agg #[.slice none 0 0, .slice none 0 0, .slice none 0 0, .slice none 0 0, .slice none 0 0, .slice none 0 0, .slice none 0 0, .slice none 0 0]], []⟩ 8 (by kernel_rfl) (by kernel_rfl) (by kernel_rfl) (by kernel_rfl)) ?_
  intro W base args ds gs before hval0 hW hcnd hsz0 _
  have hsz : (DataW.weightsEach Try.prog (Try.f3.params.toList ++ Rows.complementOfSpec.plain.varTypes Try.prog) (ds ++ gs)).all (· ≤ reachBytes) = true := hsz0
  have hW' := hW
  obtain ⟨p, q, hA0, hV, rfl, hfz, hnd⟩ := hW
  have hA : DataW.TrodAll enc Try.prog W 0 (fun _ => true) true Try.f3.params.toList args.toList ds p := hA0
  rw [Try.params3] at hA hsz
  obtain ⟨v0, vs0, d0, ds0, p0, q0, hargs, rfl, rfl, h0, r0⟩ := trodAll_cons hA
  obtain ⟨rfl, rfl, rfl⟩ := trodAll_nil r0
  obtain rfl : args = #[v0] := by cases args; simp_all
  obtain ⟨rfl, rfl⟩ := trodVars_none hV
  have hw0 : (d0.weights Try.prog 30).all (· ≤ reachBytes) = true := by
    refine List.all_eq_true.2 fun n hn => List.all_eq_true.1 hsz n ?_
    exact DataW.weights_mem_each (j := 0) (t := 30) (d := d0) rfl rfl n hn
  have lt0 : ∀ x ∈ p0, x.block < W.heap.size := by obtain ⟨m, hm⟩ := h0; exact DataW.trod_lt m _ _ _ hm
  clear hA0 hval0 hsz0 hsz
  refine (case_calls law h0 hw0).mono fun e W' ⟨he, bel⟩ => ?_
  subst he
  exact ⟨_, rfl, _, _, _, [], _, [], hW', trodAll_mk1 (shut_bool Try.underlying4 _), (trodAll_cons_mk (Below.trod laidOut (by kernel_rfl) (of_decide_eq_true (by kernel_rfl)) h0 bel lt0) trodAll_mk0), rfl, bel.frame _, fun h => by cases h⟩

theorem over (law : CaseLaw 3) : Rows.complementOfRow.holds Try.pinned (OpenSpec.ofChange Rows.complementOfSpec) :=
  OpenClaim.holds_of_wide 3 Try.f3 rfl rfl rfl rfl rfl rfl rfl ⟨rfl, rfl, rfl, rfl, rfl⟩ rfl rfl rfl rfl rfl (by kernel_rfl) Try.func3 (by kernel_rfl)
    (of_decide_eq_true (by kernel_rfl)) (by unfold Func.isWrapper; first | (rw [if_pos (by decide +kernel)]; kernel_rfl) | (rw [if_neg (by decide +kernel)]; exact ⟨rfl, rfl⟩))
    (fun os started H enc _ => lifted law os started H enc)
end complementOf
end Go.Proofs.Ythapbbpdcjmmfaa

/- The laws of a case. -/
namespace Go.Proofs.Ythapbbpdcjmmfaa
open Abs
set_option linter.unusedSimpArgs false
set_option linter.unusedVariables false
attribute [local simp] rn0 rn1 rn2 rn3 rn4 rn5 rn6 rn7 evOp nests Arg.ev St.val St.set St.new sliceOf binInt2 binInt AV.cells rdAt St.live retOf resOf resAll treeOf treeCell treeCells treeTups untree frameOf TV.av TR.av ints edgs prs fillV splice intsOf trees V1.tree bx Gr.v Pa.v opRd opWr opNew opNewR opArgs argsRd argRd Arg.rd AV.refs V1.refs refsL dstL

/-- The example of the chapter holds. -/
def Awake : Prop := CallOK Try.prog 10 [] (.sv (false, [.bool true]))

theorem tiny_few {l g : Gr} {p m : Pa} (h : fewC l g p m = true) : TinyCase l g p m := by
  simp [fewC, fewG, fewP] at h
  refine ⟨⟨?_, ?_⟩, ⟨?_, ?_⟩, ⟨?_, ?_⟩, ⟨?_, ?_⟩⟩ <;> simp only [tiny] <;> omega

theorem BoundC.few {l g : Gr} {p m : Pa} (h : BoundC l g p m) : CallOK Try.prog 11 [gluV l g p m] (.sv (false, [.bool (fewC l g p m)])) := by
  have h1 := h.p1; have h2 := h.p2; have h3 := h.m1; have h4 := h.m2
  simp only [bound] at h1 h2 h3 h4
  exact few_ok l g p m (by simp only [huge]; omega) (by simp only [huge]; omega) (by simp only [huge]; omega) (by simp only [huge]; omega)

theorem restL_len {n : Nat} {g : List Int} : (restL n g).length ≤ n := collect_len

theorem ofR_tiny {l g : Gr} {p m : Pa} (h : TinyCase l g p m) : tinyP (ofR l g p m).1 := by
  unfold ofR
  split
  · split
    · exact ⟨by simp [tiny], by simp [tiny]⟩
    · split
      · exact ⟨Nat.le_trans restL_len h.tg.1, Nat.le_trans restL_len h.tg.2⟩
      · exact ⟨by simp [tiny], by simp [tiny]⟩
  · exact ⟨by simp [tiny], by simp [tiny]⟩

def c_lawOf : MFunc := ⟨48, [.tmp 2], .seq (.region [⟨some 1, .box 0 30 (.tmp 0), none⟩, ⟨some 2, .mv (.c (.one (.t (.bool false)))), none⟩]) (.seq (.seq (.region [⟨some 7, .call (.c (.one (.fn 10 []))) 64 [], none⟩, ⟨some 8, .not (.tmp 7), none⟩, ⟨some 9, .mv (.tmp 8), none⟩, ⟨some 10, .load true 8 (.tmp 1), some (9, false)⟩, ⟨some 11, .call (.c (.one (.fn 11 []))) 68 [.tmp 10], some (9, false)⟩, ⟨some 12, .not (.tmp 11), some (9, false)⟩, ⟨some 13, .pick (.tmp 9) (.c (.one (.t (.bool true)))) (.tmp 12), none⟩]) (.cond (.tmp 13) (.seq (.region [⟨some 14, .call (.c (.one (.fn 10 []))) 128 [], none⟩, ⟨some 2, .mv (.tmp 14), none⟩]) .ret) .skip)) (.seq (.draw [[], [0], [], [2], [], [4], [5], [], [7], [1, 3, 6, 8, 6], [9], [10], [10], [], [13, 11, 9, 0, 1, 2, 3, 4, 5, 6, 7, 8, 9, 10, 11, 13], [12, 14, 0, 1, 2, 3, 4, 5, 6, 7, 8, 9, 10, 11, 12, 13, 14]] [⟨some 16, .fieldA 0 (.tmp 1), none⟩, ⟨some 17, .load true 2 (.tmp 16), none⟩, ⟨some 18, .fieldA 2 (.tmp 1), none⟩, ⟨some 19, .load true 2 (.tmp 18), none⟩, ⟨some 20, .fieldA 4 (.tmp 1), none⟩, ⟨some 21, .load true 2 (.tmp 20), none⟩, ⟨some 22, .call (.c (.one (.fn 13 []))) 198 [.tmp 21], none⟩, ⟨some 23, .fieldA 6 (.tmp 1), none⟩, ⟨some 24, .load true 2 (.tmp 23), none⟩, ⟨some 25, .call (.c (.one (.fn 12 []))) 201 [.tmp 17, .tmp 19, .tmp 22, .tmp 24], none⟩, ⟨some 15, .mv (.tmp 25), none⟩, ⟨some 26, .extract (.tmp 15) 0, none⟩, ⟨some 27, .extract (.tmp 15) 1, none⟩, ⟨some 3, .alloc 205 27 [.nil, .nil], none⟩, ⟨none, .store 2 (.tmp 3) (.tmp 26), none⟩, ⟨some 4, .mv (.tmp 27), none⟩]) (.seq (.region [⟨some 29, .fieldA 0 (.tmp 1), none⟩, ⟨some 30, .load true 2 (.tmp 29), none⟩, ⟨some 31, .fieldA 2 (.tmp 1), none⟩, ⟨some 32, .load true 2 (.tmp 31), none⟩, ⟨some 33, .fieldA 4 (.tmp 1), none⟩, ⟨some 34, .load true 2 (.tmp 33), none⟩, ⟨some 35, .fieldA 6 (.tmp 1), none⟩, ⟨some 36, .load true 2 (.tmp 35), none⟩, ⟨some 37, .call (.c (.one (.fn 14 []))) 264 [.tmp 30, .tmp 32, .tmp 34, .tmp 36], none⟩, ⟨some 28, .mv (.tmp 37), none⟩, ⟨some 38, .extract (.tmp 28) 0, none⟩, ⟨some 39, .extract (.tmp 28) 1, none⟩, ⟨some 5, .alloc 268 27 [.nil, .nil], none⟩, ⟨none, .store 2 (.tmp 5) (.tmp 38), none⟩, ⟨some 6, .mv (.tmp 39), none⟩]) (.seq (.region [⟨some 40, .mv (.tmp 4), none⟩, ⟨some 41, .mv (.tmp 6), none⟩, ⟨some 42, .bin .eql (.tmp 40) (.tmp 41), none⟩, ⟨some 43, .mv (.tmp 42), none⟩, ⟨some 44, .load true 2 (.tmp 3), some (43, true)⟩, ⟨some 45, .load true 2 (.tmp 5), some (43, true)⟩, ⟨some 46, .call (.c (.one (.fn 15 []))) 326 [.tmp 44, .tmp 45], some (43, true)⟩, ⟨some 47, .pick (.tmp 43) (.tmp 46) (.c (.one (.t (.bool false)))), none⟩, ⟨some 2, .mv (.tmp 47), none⟩]) .ret))))⟩
theorem k_lawOf : cFn Try.prog Try.f3 = some c_lawOf := by kernel_rfl
theorem lawOf_ok (aw : Awake) : CaseLaw 3 := by
  intro l g p m hb
  refine callOK_W (callS_W (by kernel_rfl) Try.func3 k_lawOf (callable_of Try.func3 (by kernel_rfl)) (by simp [c_lawOf]) ?_)
  simp [c_lawOf, gluV]
  refine callS_tree aw ?_ ?_ ?_
  · rfl
  · rfl
  simp [gluV]
  refine callS_tree hb.few ?_ ?_ ?_
  · rfl
  · rfl
  cases hf : fewC l g p m
  · simp [hf]
    refine callS_tree aw ?_ ?_ ?_
    · rfl
    · rfl
    simp
  have ht := tiny_few hf
  simp [dw0, dw1, dw2, dw3, gluV, hf]
  refine dCall_ok (copied_ok p ht.tp) ?_ ?_ ?_
  · rfl
  · rfl
  simp [dw0, dw1, dw2, dw3, gluV]
  refine dCall_ok (of_ok l g p m ht) ?_ ?_ ?_
  · rfl
  · rfl
  simp [dw0, dw1, dw2, dw3, gluV]
  refine ⟨rfl, ?_⟩
  refine callS_tree (of12_ok l g p m ht) ?_ ?_ ?_
  · rfl
  · rfl
  simp [gluV]
  refine callS_tree (same7_ok (ofR l g p m).1 (ofR l g p m).1 (ofR_tiny ht) (ofR_tiny ht)) ?_ ?_ ?_
  · rfl
  · rfl
  simp
end Go.Proofs.Ythapbbpdcjmmfaa

/- The example of the chapter holds. -/
namespace Go.Proofs.Ythapbbpdcjmmfaa
open Abs
set_option linter.unusedSimpArgs false
set_option linter.unusedVariables false
attribute [local simp] rn0 rn1 rn2 rn3 rn4 rn5 rn6 rn7 evOp nests Arg.ev St.val St.set St.new sliceOf binInt2 binInt AV.cells rdAt St.live retOf resOf resAll treeOf treeCell treeCells treeTups untree frameOf TV.av TR.av ints edgs prs fillV splice intsOf trees V1.tree bx Gr.v Pa.v

def awL : Gr := ⟨[0, 0], [⟨0, 0, 1⟩]⟩
def awG : Gr := ⟨[0, 0, 0], [⟨0, 0, 1⟩, ⟨0, 2, 1⟩]⟩
def awM : Pa := ⟨[0, 1], [0]⟩
theorem awOf : ofR awL awG ⟨[0, 1], []⟩ awM = (⟨[0, 1, 2], [1]⟩, 0) := by kernel_rfl
theorem awDangl : danglR awL awG ⟨[0], []⟩ awM = ([1], 0) := by kernel_rfl
theorem awRep : repR awL awG ⟨[0], []⟩ awM = (⟨[0, 1], []⟩, 0) := by kernel_rfl
theorem awTiny (p : Pa) (h : tinyP p) : TinyCase awL awG p awM := ⟨⟨by decide, by decide⟩, ⟨by decide, by decide⟩, h, ⟨by decide, by decide⟩⟩

def c_awake : MFunc := ⟨77, [.tmp 0], .seq (.region [⟨some 0, .mv (.c (.one (.t (.bool false)))), none⟩]) (.seq (.region [⟨some 10, .mkrow 64 3 1 2 [.t (.int .i64 0), .t (.int .i64 0)] [(0, (1, .c (.one (.t (.int .i64 0))))), (1, (1, .c (.one (.t (.int .i64 0)))))], none⟩, ⟨some 11, .build [.t (.int .i64 0), .t (.int .i64 0), .t (.int .i64 0)] [(1, (1, .c (.one (.t (.int .i64 0))))), (2, (1, .c (.one (.t (.int .i64 1)))))], none⟩, ⟨some 12, .mkrow 66 73 3 1 [.t (.int .i64 0), .t (.int .i64 0), .t (.int .i64 0)] [(0, (3, .tmp 11))], none⟩, ⟨some 13, .build [.nil, .nil] [(0, (1, .tmp 10)), (1, (1, .tmp 12))], none⟩, ⟨some 1, .alloc 68 25 [.nil, .nil], none⟩, ⟨none, .store 2 (.tmp 1) (.tmp 13), none⟩]) (.seq (.region [⟨some 14, .mkrow 128 3 1 3 [.t (.int .i64 0), .t (.int .i64 0), .t (.int .i64 0)] [(0, (1, .c (.one (.t (.int .i64 0))))), (1, (1, .c (.one (.t (.int .i64 0))))), (2, (1, .c (.one (.t (.int .i64 0)))))], none⟩, ⟨some 15, .build [.t (.int .i64 0), .t (.int .i64 0), .t (.int .i64 0)] [(1, (1, .c (.one (.t (.int .i64 0))))), (2, (1, .c (.one (.t (.int .i64 1)))))], none⟩, ⟨some 16, .build [.t (.int .i64 0), .t (.int .i64 0), .t (.int .i64 0)] [(1, (1, .c (.one (.t (.int .i64 2))))), (2, (1, .c (.one (.t (.int .i64 1)))))], none⟩, ⟨some 17, .mkrow 131 73 3 2 [.t (.int .i64 0), .t (.int .i64 0), .t (.int .i64 0), .t (.int .i64 0), .t (.int .i64 0), .t (.int .i64 0)] [(0, (3, .tmp 15)), (3, (3, .tmp 16))], none⟩, ⟨some 18, .build [.nil, .nil] [(0, (1, .tmp 14)), (1, (1, .tmp 17))], none⟩, ⟨some 2, .alloc 133 25 [.nil, .nil], none⟩, ⟨none, .store 2 (.tmp 2) (.tmp 18), none⟩]) (.seq (.region [⟨some 19, .mkrow 192 3 1 2 [.t (.int .i64 0), .t (.int .i64 0)] [(0, (1, .c (.one (.t (.int .i64 0))))), (1, (1, .c (.one (.t (.int .i64 1)))))], none⟩, ⟨some 20, .mkrow 193 3 1 1 [.t (.int .i64 0)] [(0, (1, .c (.one (.t (.int .i64 0)))))], none⟩, ⟨some 21, .build [.nil, .nil] [(0, (1, .tmp 19)), (1, (1, .tmp 20))], none⟩, ⟨some 3, .alloc 195 28 [.nil, .nil], none⟩, ⟨none, .store 2 (.tmp 3) (.tmp 21), none⟩]) (.seq (.region [⟨some 23, .load true 2 (.tmp 1), none⟩, ⟨some 24, .load true 2 (.tmp 2), none⟩, ⟨some 25, .mkrow 258 3 1 2 [.t (.int .i64 0), .t (.int .i64 0)] [(0, (1, .c (.one (.t (.int .i64 0))))), (1, (1, .c (.one (.t (.int .i64 1)))))], none⟩, ⟨some 26, .build [.nil, .nil] [(0, (1, .tmp 25))], none⟩, ⟨some 27, .load true 2 (.tmp 3), none⟩, ⟨some 28, .call (.c (.one (.fn 12 []))) 261 [.tmp 23, .tmp 24, .tmp 26, .tmp 27], none⟩, ⟨some 22, .mv (.tmp 28), none⟩, ⟨some 29, .extract (.tmp 22) 0, none⟩, ⟨some 30, .extract (.tmp 22) 1, none⟩, ⟨some 4, .alloc 265 27 [.nil, .nil], none⟩, ⟨none, .store 2 (.tmp 4) (.tmp 29), none⟩, ⟨some 5, .mv (.tmp 30), none⟩]) (.seq (.region [⟨some 32, .load true 2 (.tmp 1), none⟩, ⟨some 33, .load true 2 (.tmp 2), none⟩, ⟨some 34, .mkrow 322 3 1 1 [.t (.int .i64 0)] [(0, (1, .c (.one (.t (.int .i64 0)))))], none⟩, ⟨some 35, .build [.nil, .nil] [(0, (1, .tmp 34))], none⟩, ⟨some 36, .load true 2 (.tmp 3), none⟩, ⟨some 37, .call (.c (.one (.fn 23 []))) 325 [.tmp 32, .tmp 33, .tmp 35, .tmp 36], none⟩, ⟨some 31, .mv (.tmp 37), none⟩, ⟨some 38, .extract (.tmp 31) 0, none⟩, ⟨some 39, .extract (.tmp 31) 1, none⟩, ⟨some 6, .mv (.tmp 38), none⟩, ⟨some 7, .mv (.tmp 39), none⟩]) (.seq (.region [⟨some 41, .load true 2 (.tmp 1), none⟩, ⟨some 42, .load true 2 (.tmp 2), none⟩, ⟨some 43, .mkrow 386 3 1 1 [.t (.int .i64 0)] [(0, (1, .c (.one (.t (.int .i64 0)))))], none⟩, ⟨some 44, .build [.nil, .nil] [(0, (1, .tmp 43))], none⟩, ⟨some 45, .load true 2 (.tmp 3), none⟩, ⟨some 46, .call (.c (.one (.fn 16 []))) 389 [.tmp 41, .tmp 42, .tmp 44, .tmp 45], none⟩, ⟨some 40, .mv (.tmp 46), none⟩, ⟨some 47, .extract (.tmp 40) 0, none⟩, ⟨some 48, .extract (.tmp 40) 1, none⟩, ⟨some 8, .alloc 393 27 [.nil, .nil], none⟩, ⟨none, .store 2 (.tmp 8) (.tmp 47), none⟩, ⟨some 9, .mv (.tmp 48), none⟩]) (.seq (.region [⟨some 49, .mv (.tmp 5), none⟩, ⟨some 50, .bin .eql (.tmp 49) (.c (.one (.t (.int .i64 0)))), none⟩, ⟨some 51, .mv (.tmp 50), none⟩, ⟨some 52, .load true 2 (.tmp 4), some (51, true)⟩, ⟨some 53, .mkrow 452 3 1 3 [.t (.int .i64 0), .t (.int .i64 0), .t (.int .i64 0)] [(0, (1, .c (.one (.t (.int .i64 0))))), (1, (1, .c (.one (.t (.int .i64 1))))), (2, (1, .c (.one (.t (.int .i64 2)))))], some (51, true)⟩, ⟨some 54, .mkrow 453 3 1 1 [.t (.int .i64 0)] [(0, (1, .c (.one (.t (.int .i64 1)))))], some (51, true)⟩, ⟨some 55, .build [.nil, .nil] [(0, (1, .tmp 53)), (1, (1, .tmp 54))], some (51, true)⟩, ⟨some 56, .call (.c (.one (.fn 15 []))) 455 [.tmp 52, .tmp 55], some (51, true)⟩, ⟨some 57, .pick (.tmp 51) (.tmp 56) (.c (.one (.t (.bool false)))), none⟩, ⟨some 58, .mv (.tmp 57), none⟩, ⟨some 59, .mv (.tmp 7), some (58, true)⟩, ⟨some 60, .bin .eql (.tmp 59) (.c (.one (.t (.int .i64 0)))), some (58, true)⟩, ⟨some 61, .pick (.tmp 58) (.tmp 60) (.c (.one (.t (.bool false)))), none⟩, ⟨some 62, .mv (.tmp 61), none⟩, ⟨some 63, .mv (.tmp 6), some (62, true)⟩, ⟨some 64, .mkrow 463 3 1 1 [.t (.int .i64 0)] [(0, (1, .c (.one (.t (.int .i64 1)))))], some (62, true)⟩, ⟨some 65, .call (.c (.one (.fn 27 []))) 464 [.tmp 63, .tmp 64], some (62, true)⟩, ⟨some 66, .pick (.tmp 62) (.tmp 65) (.c (.one (.t (.bool false)))), none⟩, ⟨some 67, .mv (.tmp 66), none⟩, ⟨some 68, .mv (.tmp 9), some (67, true)⟩, ⟨some 69, .bin .eql (.tmp 68) (.c (.one (.t (.int .i64 0)))), some (67, true)⟩, ⟨some 70, .pick (.tmp 67) (.tmp 69) (.c (.one (.t (.bool false)))), none⟩, ⟨some 71, .mv (.tmp 70), none⟩, ⟨some 72, .load true 2 (.tmp 8), some (71, true)⟩, ⟨some 73, .mkrow 472 3 1 2 [.t (.int .i64 0), .t (.int .i64 0)] [(0, (1, .c (.one (.t (.int .i64 0))))), (1, (1, .c (.one (.t (.int .i64 1)))))], some (71, true)⟩, ⟨some 74, .build [.nil, .nil] [(0, (1, .tmp 73))], some (71, true)⟩, ⟨some 75, .call (.c (.one (.fn 15 []))) 474 [.tmp 72, .tmp 74], some (71, true)⟩, ⟨some 76, .pick (.tmp 71) (.tmp 75) (.c (.one (.t (.bool false)))), none⟩, ⟨some 0, .mv (.tmp 76), none⟩]) .ret)))))))⟩
theorem k_awake : cFn Try.prog Try.f10 = some c_awake := by kernel_rfl
theorem awake_ok : Awake := by
  refine callOK_W (callS_W (by kernel_rfl) Try.func10 k_awake (callable_of Try.func10 (by kernel_rfl)) (by simp [c_awake]) ?_)
  simp [c_awake]
  refine callS_freeze [(64, 0), (66, 0), (128, 0), (131, 0), (192, 0), (193, 0), (258, 0)] (callS_tree (of_ok awL awG ⟨[0, 1], []⟩ awM (awTiny _ ⟨by decide, by decide⟩)) ?_ ?_ ?_)
  · rfl
  · rfl
  rw [awOf]
  simp [frzAll, frzOne]
  refine callS_freeze [(322, 0)] (callS_tree (dangX_ok awL awG ⟨[0], []⟩ awM (awTiny _ ⟨by decide, by decide⟩)) ?_ ?_ ?_)
  · rfl
  · rfl
  rw [awDangl]
  simp [frzAll, frzOne]
  refine callS_freeze [(386, 0)] (callS_tree (repair_ok awL awG ⟨[0], []⟩ awM (awTiny _ ⟨by decide, by decide⟩)) ?_ ?_ ?_)
  · rfl
  · rfl
  rw [awRep]
  simp [frzAll, frzOne]
  refine callS_tree (same7_ok ⟨[0, 1, 2], [1]⟩ ⟨[0, 1, 2], [1]⟩ ⟨by decide, by decide⟩ ⟨by decide, by decide⟩) ?_ ?_ ?_
  · rfl
  · rfl
  simp
  refine callS_tree (equal_ok [1] [1] (by decide) (by decide)) ?_ ?_ ?_
  · rfl
  · rfl
  simp
  refine callS_tree (same7_ok ⟨[0, 1], []⟩ ⟨[0, 1], []⟩ ⟨by decide, by decide⟩ ⟨by decide, by decide⟩) ?_ ?_ ?_
  · rfl
  · rfl
  simp

theorem lawOf : CaseLaw 3 := lawOf_ok awake_ok
end Go.Proofs.Ythapbbpdcjmmfaa

/- A part that no round turns has a complement, and the other way round. -/
namespace Go.Proofs.Ythapbbpdcjmmfaa
open Abs
set_option linter.unusedSimpArgs false
set_option linter.unusedVariables false

/-- A part has a complement. -/
structure Stands (l g : Gr) (p m : Pa) : Prop where
  pn : pairsL m.nodes p.nodes = []
  pe : pairsL m.edges p.edges = []
  da : danglL g p m = []
  en : ∀ k ∈ p.edges, (eth l.edges k.toNat).f ∈ p.nodes ∧ (eth l.edges k.toNat).g ∈ p.nodes

theorem asc_to {l : List Int} {n : Int} (ha : l.Pairwise (· < ·)) (hr : ∀ x ∈ l, 0 ≤ x ∧ x < n) : ascErr l n = 0 := fe_zero fun j hj => by
  have h1 := hr _ (nth_mem hj)
  have h2 : ¬ (0 < j ∧ nth l j ≤ nth l (j - 1)) := fun ⟨h0, h⟩ => by
    have := asc_iff.2 ha (j - 1) j (by omega) hj
    omega
  simp only [ascF]
  rw [if_neg (by omega), if_neg (by omega), if_neg h2]

theorem gErr_mor {a b : Gr} {m : Pa} (h : morErr a b m = 0) : gErr a = 0 := by
  unfold morErr at h
  split at h
  · assumption
  · exact h

theorem part_iff {l : Gr} {p : Pa} (hp : PartOk l p) : partErr l p = 0 ↔ ∀ k ∈ p.edges, (eth l.edges k.toNat).f ∈ p.nodes ∧ (eth l.edges k.toNat).g ∈ p.nodes := by
  unfold partErr
  rw [if_pos (asc_to hp.an hp.rn), if_pos (asc_to hp.ae hp.re)]
  constructor
  · intro h k hk
    obtain ⟨j, hj, rfl⟩ := mem_nth hk
    have := fe_eq h j hj
    simp only [danF] at this
    split at this
    · assumption
    · cases this
  · intro h
    refine fe_zero fun j hj => ?_
    simp only [danF]
    rw [if_pos (h _ (nth_mem hj))]

theorem mem_pairs {l k : List Int} {q : Int × Int} : q ∈ pairsL l k ↔ ∃ a b : Nat, a < b ∧ b < l.length ∧ nth l a = nth l b ∧ ¬ ((a : Int) ∈ k ∧ (b : Int) ∈ k) ∧ q = ((a : Int), (b : Int)) := by
  simp only [pairsL, mem_gather, mem_collect, pairF]
  constructor
  · rintro ⟨a, ha, b, hb, h⟩
    split at h
    · rename_i h1
      injection h with h
      exact ⟨a, b, h1.1, hb, h1.2.1, h1.2.2, h.symm⟩
    · cases h
  · rintro ⟨a, b, h1, h2, h3, h4, rfl⟩
    exact ⟨a, by omega, b, h2, by rw [if_pos ⟨h1, h3, h4⟩]⟩

theorem mem_goneL {l k : List Int} {x : Int} : x ∈ goneL l k ↔ ∃ i, i < l.length ∧ (i : Int) ∉ k ∧ nth l i = x := by
  simp only [goneL, mem_collect, goneF]
  constructor
  · rintro ⟨i, hi, h⟩
    split at h
    · cases h
    · injection h with h
      exact ⟨i, hi, by assumption, h⟩
  · rintro ⟨i, hi, h1, h2⟩
    exact ⟨i, hi, by rw [if_neg h1, h2]⟩

theorem mem_dangl {g : Gr} {p m : Pa} {x : Int} : x ∈ danglL g p m ↔ ∃ i : Nat, i < g.edges.length ∧ (i : Int) ∉ m.edges ∧ ((eth g.edges i).f ∈ goneL m.nodes p.nodes ∨ (eth g.edges i).g ∈ goneL m.nodes p.nodes) ∧ x = i := by
  simp only [danglL, mem_collect, danglF]
  constructor
  · rintro ⟨i, hi, h⟩
    split at h
    · cases h
    split at h
    · injection h with h
      exact ⟨i, hi, by assumption, .inl (by assumption), h.symm⟩
    split at h
    · injection h with h
      exact ⟨i, hi, by assumption, .inr (by assumption), h.symm⟩
    · cases h
  · rintro ⟨i, hi, h1, h2, rfl⟩
    refine ⟨i, hi, ?_⟩
    rw [if_neg h1]
    by_cases h3 : (eth g.edges i).f ∈ goneL m.nodes p.nodes
    · rw [if_pos h3]
    · rw [if_neg h3, if_pos (h2.resolve_left h3)]

theorem mem_touch {m : Pa} {e : Ed} {i : Nat} (hi : i < m.nodes.length) (h : nth m.nodes i = e.f ∨ nth m.nodes i = e.g) : (i : Int) ∈ touchL m e := by
  simp only [touchL, mem_collect, touchF]
  refine ⟨i, hi, ?_⟩
  by_cases h1 : nth m.nodes i = e.f
  · rw [if_pos h1]
  · rw [if_neg h1, if_pos (h.resolve_left h1)]

theorem endsL_mem {l : Gr} {T : List Int} {x : Int} : x ∈ endsL l T l.edges.length ↔ ∃ i : Nat, i < l.edges.length ∧ (i : Int) ∈ T ∧ (x = (eth l.edges i).f ∨ x = (eth l.edges i).g) := by
  simp only [endsL, mem_gather]
  constructor
  · rintro ⟨i, hi, h⟩
    split at h
    · simp at h
      exact ⟨i, hi, by assumption, h⟩
    · cases h
  · rintro ⟨i, hi, h1, h2⟩
    exact ⟨i, hi, by rw [if_pos h1]; simpa using h2⟩

theorem fix_stands {l g : Gr} {p m : Pa} (h0 : morErr l g m = 0) (hp : PartOk l p) : fixedP l g p m ↔ Stands l g p m := by
  have mo := mor_ok h0
  rw [fixed_eq hp]
  constructor
  · rintro ⟨h1, h2⟩
    have n1 : ∀ x, x ∈ nodesS g p m ++ endsL l (edgesS p m) l.edges.length → 0 ≤ x → x < l.nodes.length → x ∈ p.nodes := fun x hx h3 h4 => by
      rw [← h1]
      exact mem_canon.2 ⟨h3, h4, hx⟩
    have e1 : ∀ x, x ∈ edgesS p m → 0 ≤ x → x < l.edges.length → x ∈ p.edges := fun x hx h3 h4 => by
      rw [← h2]
      exact mem_canon.2 ⟨h3, h4, hx⟩
    have ln := mo.ln
    have le := mo.le
    refine ⟨List.eq_nil_iff_forall_not_mem.2 fun q hq => ?_, List.eq_nil_iff_forall_not_mem.2 fun q hq => ?_, List.eq_nil_iff_forall_not_mem.2 fun q hq => ?_, fun k hk => ?_⟩
    · obtain ⟨a, b, q1, q2, q3, q4, rfl⟩ := mem_pairs.1 hq
      refine q4 ⟨n1 a ?_ (by omega) (by omega), n1 b ?_ (by omega) (by omega)⟩ <;> simp only [List.mem_append, nodesS, flatP, List.mem_flatMap] <;> exact .inl (.inl (.inr ⟨_, hq, by simp⟩))
    · obtain ⟨a, b, q1, q2, q3, q4, rfl⟩ := mem_pairs.1 hq
      refine q4 ⟨e1 a ?_ (by omega) (by omega), e1 b ?_ (by omega) (by omega)⟩ <;> simp only [List.mem_append, edgesS, flatP, List.mem_flatMap] <;> exact .inr ⟨_, hq, by simp⟩
    · obtain ⟨i, hi, q1, q2, rfl⟩ := mem_dangl.1 hq
      have key : ∃ j, j < m.nodes.length ∧ (j : Int) ∉ p.nodes ∧ (nth m.nodes j = (eth g.edges i).f ∨ nth m.nodes j = (eth g.edges i).g) := by
        rcases q2 with q2 | q2 <;> obtain ⟨j, hj, q3, q4⟩ := mem_goneL.1 q2
        · exact ⟨j, hj, q3, .inl q4⟩
        · exact ⟨j, hj, q3, .inr q4⟩
      obtain ⟨j, hj, q3, q4⟩ := key
      refine q3 (n1 j ?_ (by omega) (by omega))
      simp only [List.mem_append, nodesS, looseL, List.mem_flatMap]
      exact .inl (.inr ⟨_, hq, by simpa using mem_touch hj q4⟩)
    · obtain ⟨k1, k2⟩ := hp.re k hk
      obtain ⟨i, rfl⟩ := Int.eq_ofNat_of_zero_le k1
      have hi : i < l.edges.length := by omega
      obtain ⟨_, _, g1, g2, g3, g4⟩ := mo.ga.edges _ (eth_mem hi)
      have hke : (i : Int) ∈ edgesS p m := by simp [edgesS, hk]
      exact ⟨n1 _ (List.mem_append.2 (.inr (endsL_mem.2 ⟨i, hi, hke, .inl rfl⟩))) g1 g2, n1 _ (List.mem_append.2 (.inr (endsL_mem.2 ⟨i, hi, hke, .inr rfl⟩))) g3 g4⟩
  · rintro ⟨h1, h2, h3, h4⟩
    have ee : edgesS p m = p.edges := by simp [edgesS, h2, flatP]
    have ne : nodesS g p m = p.nodes := by simp [nodesS, h1, looseL, h3, flatP]
    simp only [stepP]
    rw [ee, ne]
    refine ⟨(canon_congr (b := p.nodes) fun x _ _ => ?_).trans (canon_self hp.an hp.rn), canon_self hp.ae hp.re⟩
    constructor
    · intro hx
      rcases List.mem_append.1 hx with hx | hx
      · exact hx
      · obtain ⟨i, hi, hT, hx⟩ := endsL_mem.1 hx
        have := h4 i hT
        simp at this
        rcases hx with rfl | rfl
        · exact this.1
        · exact this.2
    · exact fun hx => List.mem_append.2 (.inl hx)

theorem stands_case {l g : Gr} {p m : Pa} (h0 : morErr l g m = 0) : caseErr l g p m = subErr l p := by simp [caseErr, h0]

theorem of_stands {l g : Gr} {p m : Pa} (h0 : morErr l g m = 0) (hp : PartOk l p) : (ofR l g p m).2 = 0 ↔ Stands l g p m := by
  have hg := gErr_mor h0
  have hc : caseErr l g p m = partErr l p := by rw [stands_case h0, subErr, if_pos hg]
  unfold ofR
  constructor
  · intro h
    split at h
    · rename_i h1
      rw [hc, part_iff hp] at h1
      split at h
      · cases h
      · rename_i h2
        split at h
        · rename_i h3
          exact ⟨List.eq_nil_of_length_eq_zero (by omega), List.eq_nil_of_length_eq_zero (by omega), h3, h1⟩
        · cases h
    · rename_i h1
      exact absurd h h1
  · rintro ⟨h1, h2, h3, h4⟩
    rw [if_pos (by rw [hc, part_iff hp]; exact h4), if_neg (by simp [h1, h2]), if_pos h3]

theorem repN_fix {l g : Gr} {m : Pa} : ∀ {k : Nat} {p : Pa}, PartOk l p → gap l p < k → PartOk l (repN l g m k p) ∧ fixedP l g (repN l g m k p) m
  | 0, p, _, h => by omega
  | k + 1, p, hp, h => by
    by_cases hf : fixedP l g p m
    · have e : stepP l g p m = p := by
        obtain ⟨e1, e2⟩ := (fixed_eq hp).1 hf
        rw [show stepP l g p m = ⟨(stepP l g p m).nodes, (stepP l g p m).edges⟩ from rfl, e1, e2]
      have hf' := hf
      simp only [fixedP] at hf'
      rw [repN, if_pos hf', e]
      exact ⟨hp, hf⟩
    · have hf' := hf
      simp only [fixedP] at hf'
      rw [repN, if_neg hf']
      have := gap_lt (g := g) (m := m) hp hf
      exact repN_fix stepP_ok (by omega)

theorem repN_self {l g : Gr} {m p : Pa} {k : Nat} (hp : PartOk l p) (hf : fixedP l g p m) : repN l g m (k + 1) p = p := by
  have e : stepP l g p m = p := by
    obtain ⟨e1, e2⟩ := (fixed_eq hp).1 hf
    rw [show stepP l g p m = ⟨(stepP l g p m).nodes, (stepP l g p m).edges⟩ from rfl, e1, e2]
  simp only [fixedP] at hf
  rw [repN, if_pos hf, e]

/-- What is repaired has a complement; it is the part itself exactly if this has one. -/
theorem repR_law {l g : Gr} {p m : Pa} (h : caseErr l g p m = 0) : (ofR l g (repR l g p m).1 m).2 = 0 ∧ ((ofR l g p m).2 = 0 ↔ (repR l g p m).1.nodes = p.nodes ∧ (repR l g p m).1.edges = p.edges) := by
  have h0 : morErr l g m = 0 := by
    unfold caseErr at h
    split at h
    · assumption
    · exact h
  have hp := partOk_of (caseErr_ok h).2
  have e : repR l g p m = (repN l g m (l.nodes.length + l.edges.length + 1) p, 0) := by simp [repR, h]
  obtain ⟨r1, r2⟩ := repN_fix (g := g) (m := m) (k := l.nodes.length + l.edges.length + 1) hp (by simp only [gap]; omega)
  rw [e]
  refine ⟨(of_stands h0 r1).2 ((fix_stands h0 r1).1 r2), ?_⟩
  rw [of_stands h0 hp, ← fix_stands h0 hp]
  constructor
  · intro hf
    simp only
    rw [repN_self hp hf]
    exact ⟨rfl, rfl⟩
  · rintro ⟨e1, e2⟩
    simp only at e1 e2
    have : repN l g m (l.nodes.length + l.edges.length + 1) p = p := by
      rw [show repN l g m (l.nodes.length + l.edges.length + 1) p = ⟨(repN l g m (l.nodes.length + l.edges.length + 1) p).nodes, (repN l g m (l.nodes.length + l.edges.length + 1) p).edges⟩ from rfl, e1, e2]
    rw [this] at r2
    exact r2

theorem repR_tiny {l g : Gr} {p m : Pa} (h : TinyCase l g p m) : tinyP (repR l g p m).1 := by
  unfold repR
  split
  · rename_i h1
    obtain ⟨r1, _⟩ := repN_fix (g := g) (m := m) (k := l.nodes.length + l.edges.length + 1) (partOk_of (caseErr_ok h1).2) (by simp only [gap]; omega)
    have := r1.len
    have h1 := h.tl.1
    have h2 := h.tl.2
    simp only [tiny] at h1 h2
    exact ⟨by simp only [tiny]; omega, by simp only [tiny]; omega⟩
  · exact ⟨by simp [tiny], by simp [tiny]⟩
end Go.Proofs.Ythapbbpdcjmmfaa

/- Contract: what is covered by a complement and the deleted elements. -/
namespace Go.Proofs.Ythapbbpdcjmmfaa
open Abs
set_option linter.unusedSimpArgs false
set_option linter.unusedVariables false
attribute [local simp] rn0 rn1 rn2 rn3 rn4 rn5 rn6 rn7 evOp nests Arg.ev St.val St.set St.new sliceOf binInt2 binInt AV.cells rdAt St.live retOf resOf resAll treeOf treeCell treeCells treeTups untree frameOf TV.av TR.av ints edgs prs fillV splice intsOf trees V1.tree bx Gr.v Pa.v

def cntF (im : List Int) (i : Int) (j : Nat) : Option Nat := if nth im j = i then some j else none
def cntL (im : List Int) (i : Int) (k : Nat) : Nat := (collect (cntF im i) k).length
theorem cnt_yes {im : List Int} {i : Int} {k : Nat} (h : nth im k = i) : cntL im i (k + 1) = cntL im i k + 1 := by
  have e : cntF im i k = some k := if_pos h
  simp only [cntL, collect_some e, List.length_append, List.length_singleton]
theorem cnt_no {im : List Int} {i : Int} {k : Nat} (h : ¬ nth im k = i) : cntL im i (k + 1) = cntL im i k := by
  have e : cntF im i k = none := if_neg h
  simp only [cntL, collect_none e]
theorem cnt_le {im : List Int} {i : Int} {k : Nat} : cntL im i k ≤ k := collect_len
def gonK (im keep : List Int) (i : Int) (k : Nat) : Bool := decide (i ∈ collect (goneF im keep) k)
theorem gonK_no {im keep : List Int} {i : Int} {k : Nat} (h : ¬ nth im k = i) : gonK im keep i (k + 1) = gonK im keep i k := by
  by_cases hk : (k : Int) ∈ keep
  · have e : goneF im keep k = none := if_pos hk
    simp only [gonK, collect_none e]
  · have e : goneF im keep k = some (nth im k) := if_neg hk
    have h2 : ¬ i = nth im k := fun e => h e.symm
    simp only [gonK, collect_some e, List.mem_append, List.mem_singleton, h2, or_false]
theorem gonK_yes {im keep : List Int} {i : Int} {k : Nat} (h : nth im k = i) : gonK im keep i (k + 1) = (gonK im keep i k || !decide ((k : Int) ∈ keep)) := by
  by_cases hk : (k : Int) ∈ keep
  · have e : goneF im keep k = none := if_pos hk
    simp [gonK, collect_none e, hk]
  · have e : goneF im keep k = some (nth im k) := if_neg hk
    simp [gonK, collect_some e, hk, h]
theorem cnt_one {im keep : List Int} (hp : pairsL im keep = []) {i : Int} (hg : i ∈ goneL im keep) : cntL im i im.length = 1 := by
  obtain ⟨a, ha, hk, hi⟩ := mem_goneL.1 hg
  have key : ∀ k, k ≤ im.length → cntL im i k = if a < k then 1 else 0 := by
    intro k
    induction k with
    | zero => intro _; rfl
    | succ k ih =>
      intro hle
      have ih := ih (by omega)
      by_cases h : nth im k = i
      · have e : k = a := by
          by_cases e : k = a
          · exact e
          · exfalso
            have hm : ∃ q, q ∈ pairsL im keep := by
              by_cases hlt : k < a
              · exact ⟨_, mem_pairs.2 ⟨k, a, hlt, ha, by rw [h, hi], fun hh => hk hh.2, rfl⟩⟩
              · exact ⟨_, mem_pairs.2 ⟨a, k, by omega, by omega, by rw [h, hi], fun hh => hk hh.1, rfl⟩⟩
            obtain ⟨q, hq⟩ := hm
            rw [hp] at hq
            cases hq
        rw [cnt_yes h, ih, e, if_neg (by omega), if_pos (by omega)]
      · have e : k ≠ a := fun e => h (by rw [e]; exact hi)
        rw [cnt_no h, ih]
        by_cases hlt : a < k
        · rw [if_pos hlt, if_pos (by omega)]
        · rw [if_neg hlt, if_neg (by omega)]
  rw [key _ (Nat.le_refl _), if_pos ha]
theorem mem_restL {n : Nat} {gone : List Int} {i : Nat} (h : i < n) : (i : Int) ∈ restL n gone ↔ (i : Int) ∉ gone := by
  simp only [restL, mem_collect, restF]
  constructor
  · rintro ⟨j, hj, e⟩
    split at e
    · cases e
    · rename_i hn
      have e : (j : Int) = i := by simpa using e
      rw [← e]
      exact hn
  · intro hn
    exact ⟨i, h, by rw [if_neg hn]⟩

def c_covers : MFunc := ⟨51, [.tmp 8], .seq (.region [⟨some 8, .mv (.c (.one (.t (.bool false)))), none⟩]) (.seq (.seq (.region [⟨some 14, .mv (.tmp 0), none⟩, ⟨some 15, .mv (.c (.one (.t (.int .i64 0)))), none⟩]) (.block 0 (.loop (.seq (.region [⟨some 16, .bin .lss (.tmp 15) (.tmp 14), none⟩]) (.seq (.cond (.tmp 16) .skip (.exit 0)) (.seq (.block 1 (.seq (.region [⟨some 17, .mv (.tmp 15), none⟩, ⟨some 9, .mv (.tmp 17), none⟩]) (.seq (.region [⟨some 10, .mv (.c (.one (.t (.int .i64 0)))), none⟩, ⟨some 11, .mv (.c (.one (.t (.bool false)))), none⟩]) (.seq (.seq (.region [⟨some 18, .mv (.tmp 2), none⟩, ⟨some 19, .len (.tmp 18), none⟩, ⟨some 20, .mv (.c (.one (.t (.int .i64 0)))), none⟩]) (.block 2 (.loop (.seq (.region [⟨some 21, .bin .lss (.tmp 20) (.tmp 19), none⟩]) (.seq (.cond (.tmp 21) .skip (.exit 2)) (.seq (.block 3 (.seq (.region [⟨some 22, .mv (.tmp 20), none⟩, ⟨some 23, .idxA 1 (.tmp 18) (.tmp 20), none⟩, ⟨some 24, .load false 1 (.tmp 23), none⟩, ⟨some 12, .mv (.tmp 22), none⟩, ⟨some 13, .mv (.tmp 24), none⟩]) (.seq (.region [⟨some 25, .mv (.tmp 13), none⟩, ⟨some 26, .mv (.tmp 9), none⟩, ⟨some 27, .bin .eql (.tmp 25) (.tmp 26), none⟩]) (.cond (.tmp 27) (.seq (.region [⟨some 28, .mv (.tmp 10), none⟩, ⟨some 29, .bin .add (.tmp 28) (.c (.one (.t (.int .i64 1)))), none⟩, ⟨some 10, .mv (.tmp 29), none⟩]) (.region [⟨some 30, .mv (.tmp 11), none⟩, ⟨some 31, .mv (.tmp 30), none⟩, ⟨some 32, .mv (.tmp 3), some (31, false)⟩, ⟨some 33, .mv (.tmp 12), some (31, false)⟩, ⟨some 34, .call (.c (.one (.fn 33 []))) 644 [.tmp 32, .tmp 33], some (31, false)⟩, ⟨some 35, .not (.tmp 34), some (31, false)⟩, ⟨some 36, .pick (.tmp 31) (.c (.one (.t (.bool true)))) (.tmp 35), none⟩, ⟨some 11, .mv (.tmp 36), none⟩])) .skip)))) (.region [⟨some 37, .bin .add (.tmp 20) (.c (.one (.t (.int .i64 1)))), none⟩, ⟨some 20, .mv (.tmp 37), none⟩]))))))) (.seq (.region [⟨some 38, .mv (.tmp 1), none⟩, ⟨some 39, .mv (.tmp 9), none⟩, ⟨some 40, .call (.c (.one (.fn 33 []))) 770 [.tmp 38, .tmp 39], none⟩, ⟨some 41, .mv (.tmp 11), none⟩, ⟨some 42, .eqS false 0 (.tmp 40) (.tmp 41), none⟩, ⟨some 43, .mv (.tmp 42), none⟩, ⟨some 44, .mv (.tmp 11), some (43, false)⟩, ⟨some 45, .mv (.tmp 44), some (43, false)⟩, ⟨some 46, .mv (.tmp 10), some (45, true)⟩, ⟨some 47, .bin .neq (.tmp 46) (.c (.one (.t (.int .i64 1)))), some (45, true)⟩, ⟨some 48, .pick (.tmp 45) (.tmp 47) (.c (.one (.t (.bool false)))), some (43, false)⟩, ⟨some 49, .pick (.tmp 43) (.c (.one (.t (.bool true)))) (.tmp 48), none⟩]) (.cond (.tmp 49) (.seq (.region [⟨some 8, .mv (.c (.one (.t (.bool false)))), none⟩]) .ret) .skip)))))) (.region [⟨some 50, .bin .add (.tmp 15) (.c (.one (.t (.int .i64 1)))), none⟩, ⟨some 15, .mv (.tmp 50), none⟩]))))))) (.seq (.region [⟨some 8, .mv (.c (.one (.t (.bool true)))), none⟩]) .ret))⟩
theorem k_covers : cFn Try.prog Try.f19 = some c_covers := by kernel_rfl
set_option maxHeartbeats 2000000 in
theorem covers_ok (n : Nat) (im keep : List Int) (hn : tiny n) (hl : tiny im.length) (hk : tiny keep.length) (hp : pairsL im keep = []) :
    CallOK Try.prog 19 [(false, [.int .i64 n]), (false, [ints (restL n (goneL im keep))]), (false, [ints im]), (false, [ints keep])] (.sv (false, [.bool true])) := by
  refine callOK_W (callS_W (by kernel_rfl) Try.func19 k_covers (callable_of Try.func19 (by kernel_rfl)) (by simp [c_covers]) ?_)
  have hrl : small (restL n (goneL im keep)).length := Nat.le_trans restL_len hn.small
  simp [c_covers]
  refine loopW_count 15 n (fun _ S => S.fr 14 = .one (.t (.int .i64 n)) ∧ S.fr 1 = .one (.t (ints (restL n (goneL im keep)))) ∧ S.fr 2 = .one (.t (ints im)) ∧ S.fr 3 = .one (.t (ints keep))) hn.small ?_ ?_ ?_
  · simp
  · rintro i S hlt hw hc ⟨f14, f1, f2, f3⟩
    simp [f14, f1, f2, f3, hc, hlt]
    refine loopW_count 20 im.length (fun k S => S.fr 14 = .one (.t (.int .i64 n)) ∧ S.fr 1 = .one (.t (ints (restL n (goneL im keep)))) ∧ S.fr 2 = .one (.t (ints im)) ∧ S.fr 3 = .one (.t (ints keep)) ∧ S.fr 15 = .one (.t (.int .i64 i)) ∧ S.fr 9 = .one (.t (.int .i64 i)) ∧
      S.fr 18 = .one (.t (ints im)) ∧ S.fr 19 = .one (.t (.int .i64 im.length)) ∧ S.fr 10 = .one (.t (.int .i64 (cntL im i k))) ∧ S.fr 11 = .one (.t (.bool (gonK im keep i k)))) hl.small ?_ ?_ ?_
    · simp [f14, f1, f2, f3, hc]
      exact ⟨rfl, rfl⟩
    · rintro k S hlt2 hw2 hc2 ⟨f14, f1, f2, f3, f15, f9, f18, f19, f10, f11⟩
      by_cases h : nth im k = i
      · have hwc : IntKind.i64.wrap ((cntL im i k : Int) + 1) = ((cntL im i (k + 1) : Nat) : Int) := by
          have h1 : cntL im i k ≤ k := cnt_le
          have h2 : im.length ≤ 9000000000000000000 := hl.small
          rw [cnt_yes h, wrap64_id] <;> omega
        have hg := gonK_yes (keep := keep) h
        by_cases g : gonK im keep i k = true
        · rw [g, Bool.true_or] at hg
          simp [f14, f1, f2, f3, f15, f9, f18, f19, f10, f11, hc2, hlt2, hw2, drop_nth hlt2, h, hwc, g, hg]
        · have g : gonK im keep i k = false := by simpa using g
          rw [g, Bool.false_or] at hg
          simp [f14, f1, f2, f3, f15, f9, f18, f19, f10, f11, hc2, hlt2, hw2, drop_nth hlt2, h, hwc, g, hg]
          refine callS_tree (contains_ok keep k hk.small) ?_ ?_ ?_
          · rfl
          · rfl
          simp [f14, f1, f2, f3, f15, f9, f18, f19, f10, f11, hc2, hlt2, hw2, h, hwc, g, hg]
      · simp [f14, f1, f2, f3, f15, f9, f18, f19, f10, f11, hc2, hlt2, hw2, drop_nth hlt2, h, cnt_no h, gonK_no h]
    · rintro S hc2 ⟨f14, f1, f2, f3, f15, f9, f18, f19, f10, f11⟩
      simp [f14, f1, f2, f3, f15, f9, f18, f19, f10, f11, hc2]
      refine callS_tree (contains_ok (restL n (goneL im keep)) i hrl) ?_ ?_ ?_
      · rfl
      · rfl
      have hm := mem_restL (gone := goneL im keep) hlt
      by_cases g : (i : Int) ∈ goneL im keep
      · have e1 : gonK im keep i im.length = true := decide_eq_true g
        have e2 : decide ((i : Int) ∈ restL n (goneL im keep)) = false := decide_eq_false fun h => hm.1 h g
        simp [f14, f1, f2, f3, f15, f9, f18, f19, f10, f11, hc2, hw, e1, e2, cnt_one hp g]
      · have e1 : gonK im keep i im.length = false := decide_eq_false g
        have e2 : decide ((i : Int) ∈ restL n (goneL im keep)) = true := decide_eq_true (hm.2 g)
        simp [f14, f1, f2, f3, f15, f9, f18, f19, f10, f11, hc2, hw, e1, e2]
  · rintro S hc ⟨f14, f1, f2, f3⟩
    simp [f14, f1, f2, f3, hc]
end Go.Proofs.Ythapbbpdcjmmfaa

/- Contracts: checks of complements, lists of violations, and the laws of these. -/
namespace Go.Proofs.Ythapbbpdcjmmfaa
open Abs
set_option linter.unusedSimpArgs false
set_option linter.unusedVariables false
attribute [local simp] rn0 rn1 rn2 rn3 rn4 rn5 rn6 rn7 evOp nests Arg.ev St.val St.set St.new sliceOf binInt2 binInt AV.cells rdAt St.live retOf resOf resAll treeOf treeCell treeCells treeTups untree frameOf TV.av TR.av ints edgs prs fillV splice intsOf trees V1.tree bx Gr.v Pa.v opRd opWr opNew opNewR opArgs argsRd argRd Arg.rd AV.refs V1.refs refsL dstL

def c_dang12X : MFunc := ⟨24, [.tmp 8, .tmp 9], .seq (.region [⟨some 4, .box 0 25 (.tmp 0), none⟩, ⟨some 5, .box 1 25 (.tmp 1), none⟩, ⟨some 6, .box 2 27 (.tmp 2), none⟩, ⟨some 7, .box 3 28 (.tmp 3), none⟩, ⟨some 8, .mv (.c (.one .nil)), none⟩, ⟨some 9, .mv (.c (.one (.t (.int .i64 0)))), none⟩]) (.seq (.seq (.region [⟨some 11, .load true 2 (.tmp 4), none⟩, ⟨some 12, .load true 2 (.tmp 5), none⟩, ⟨some 13, .load true 2 (.tmp 6), none⟩, ⟨some 14, .load true 2 (.tmp 7), none⟩, ⟨some 15, .call (.c (.one (.fn 46 []))) 68 [.tmp 11, .tmp 12, .tmp 13, .tmp 14], none⟩, ⟨some 10, .mv (.tmp 15), none⟩]) (.seq (.region [⟨some 16, .mv (.tmp 10), none⟩, ⟨some 17, .bin .neq (.tmp 16) (.c (.one (.t (.int .i64 0)))), none⟩]) (.cond (.tmp 17) (.seq (.region [⟨some 18, .mv (.tmp 10), none⟩, ⟨some 8, .mv (.c (.one .nil)), none⟩, ⟨some 9, .mv (.tmp 18), none⟩]) .ret) .skip))) (.seq (.region [⟨some 19, .load true 2 (.tmp 4), none⟩, ⟨some 20, .load true 2 (.tmp 5), none⟩, ⟨some 21, .load true 2 (.tmp 6), none⟩, ⟨some 22, .load true 2 (.tmp 7), none⟩, ⟨some 23, .call (.c (.one (.fn 48 []))) 260 [.tmp 19, .tmp 20, .tmp 21, .tmp 22], none⟩, ⟨some 8, .mv (.tmp 23), none⟩, ⟨some 9, .mv (.c (.one (.t (.int .i64 0)))), none⟩]) .ret))⟩
theorem k_dang12X : cFn Try.prog Try.f24 = some c_dang12X := by kernel_rfl
theorem dang12X_ok (l g : Gr) (p m : Pa) (h : TinyCase l g p m) : CallOK Try.prog 24 [l.v, g.v, p.v, m.v] (.tup [(false, [ints (danglR l g p m).1]), (false, [.int .i64 (danglR l g p m).2])]) := by
  refine callOK_W (callS_W (by kernel_rfl) Try.func24 k_dang12X (callable_of Try.func24 (by kernel_rfl)) (by simp [c_dang12X]) ?_)
  simp [c_dang12X]
  refine callS_tree (given12_ok l g p m h) ?_ ?_ ?_
  · rfl
  · rfl
  by_cases h1 : caseErr l g p m = 0
  case neg =>
    have e : danglR l g p m = ([], caseErr l g p m) := by simp [danglR, h1]
    simp [h1, e]
  have e : danglR l g p m = (danglL g p m, 0) := by simp [danglR, h1]
  simp [h1, e]
  refine callS_tree (dangl12_row l g p m h.tg h.tm h.tp).ok ?_ ?_ ?_
  · rfl
  · rfl
  simp [h1, e]

/-- The identified pairs, or an error. -/
def identR (l g : Gr) (p m : Pa) : List (Int × Int) × List (Int × Int) × Int := if caseErr l g p m = 0 then (pairsL m.nodes p.nodes, pairsL m.edges p.edges, 0) else ([], [], caseErr l g p m)
def identT (x : List (Int × Int) × List (Int × Int) × Int) : TR := .tup [(false, [prs x.1]), (false, [prs x.2.1]), (false, [.int .i64 x.2.2])]

theorem prs_nil : prs [] = .sl 0 [] := rfl

def c_identX : MFunc := ⟨32, [.tmp 8, .tmp 9, .tmp 10], .seq (.region [⟨some 4, .box 0 25 (.tmp 0), none⟩, ⟨some 5, .box 1 25 (.tmp 1), none⟩, ⟨some 6, .box 2 27 (.tmp 2), none⟩, ⟨some 7, .box 3 28 (.tmp 3), none⟩, ⟨some 8, .mv (.c (.one .nil)), none⟩, ⟨some 9, .mv (.c (.one .nil)), none⟩, ⟨some 10, .mv (.c (.one (.t (.int .i64 0)))), none⟩]) (.seq (.region [⟨some 15, .load true 2 (.tmp 4), none⟩, ⟨some 16, .load true 2 (.tmp 5), none⟩, ⟨some 17, .load true 2 (.tmp 6), none⟩, ⟨some 18, .load true 2 (.tmp 7), none⟩, ⟨some 19, .build [.nil, .nil, .nil, .nil, .nil, .nil, .nil, .nil] [(0, (2, .tmp 15)), (2, (2, .tmp 16)), (4, (2, .tmp 17)), (6, (2, .tmp 18))], none⟩, ⟨some 11, .alloc 69 77 [.nil, .nil, .nil, .nil, .nil, .nil, .nil, .nil], none⟩, ⟨none, .store 8 (.tmp 11) (.tmp 19), none⟩]) (.seq (.seq (.region [⟨some 20, .load true 8 (.tmp 11), none⟩, ⟨some 21, .call (.c (.one (.fn 41 []))) 129 [.tmp 20], none⟩, ⟨some 12, .mv (.tmp 21), none⟩]) (.seq (.region [⟨some 22, .mv (.tmp 12), none⟩, ⟨some 23, .bin .neq (.tmp 22) (.c (.one (.t (.int .i64 0)))), none⟩]) (.cond (.tmp 23) (.seq (.region [⟨some 24, .mv (.tmp 12), none⟩, ⟨some 8, .mv (.c (.one .nil)), none⟩, ⟨some 9, .mv (.c (.one .nil)), none⟩, ⟨some 10, .mv (.tmp 24), none⟩]) .ret) .skip))) (.seq (.region [⟨some 26, .load true 8 (.tmp 11), none⟩, ⟨some 27, .call (.c (.one (.fn 42 []))) 321 [.tmp 26], none⟩, ⟨some 25, .mv (.tmp 27), none⟩, ⟨some 28, .extract (.tmp 25) 0, none⟩, ⟨some 29, .extract (.tmp 25) 1, none⟩, ⟨some 13, .mv (.tmp 28), none⟩, ⟨some 14, .mv (.tmp 29), none⟩]) (.seq (.region [⟨some 30, .mv (.tmp 13), none⟩, ⟨some 31, .mv (.tmp 14), none⟩, ⟨some 8, .mv (.tmp 30), none⟩, ⟨some 9, .mv (.tmp 31), none⟩, ⟨some 10, .mv (.c (.one (.t (.int .i64 0)))), none⟩]) .ret))))⟩
theorem k_identX : cFn Try.prog Try.f25 = some c_identX := by kernel_rfl
theorem identX_ok (l g : Gr) (p m : Pa) (h : TinyCase l g p m) : CallOK Try.prog 25 [l.v, g.v, p.v, m.v] (identT (identR l g p m)) := by
  refine callOK_W (callS_W (by kernel_rfl) Try.func25 k_identX (callable_of Try.func25 (by kernel_rfl)) (by simp [c_identX]) ?_)
  simp [c_identX]
  refine callS_tree (given_ok l g p m h) ?_ ?_ ?_
  · rfl
  · rfl
  by_cases h1 : caseErr l g p m = 0
  case neg =>
    have e : identR l g p m = ([], [], caseErr l g p m) := by simp [identR, h1]
    simp [h1, e, identT, prL]
  obtain ⟨mo, so⟩ := caseErr_ok h1
  have b1 := mo.ga.n
  have b2 := mo.ga.e
  have b3 := mo.ln
  have b4 := mo.le
  have e : identR l g p m = (pairsL m.nodes p.nodes, pairsL m.edges p.edges, 0) := by simp [identR, h1]
  simp [h1, e]
  refine callS_tree (identified_ok l g p m (by omega) (by omega) h.tp) ?_ ?_ ?_
  · rfl
  · rfl
  simp [identT]

def c_ident12X : MFunc := ⟨30, [.tmp 8, .tmp 9, .tmp 10], .seq (.region [⟨some 4, .box 0 25 (.tmp 0), none⟩, ⟨some 5, .box 1 25 (.tmp 1), none⟩, ⟨some 6, .box 2 27 (.tmp 2), none⟩, ⟨some 7, .box 3 28 (.tmp 3), none⟩, ⟨some 8, .mv (.c (.one .nil)), none⟩, ⟨some 9, .mv (.c (.one .nil)), none⟩, ⟨some 10, .mv (.c (.one (.t (.int .i64 0)))), none⟩]) (.seq (.seq (.region [⟨some 12, .load true 2 (.tmp 4), none⟩, ⟨some 13, .load true 2 (.tmp 5), none⟩, ⟨some 14, .load true 2 (.tmp 6), none⟩, ⟨some 15, .load true 2 (.tmp 7), none⟩, ⟨some 16, .call (.c (.one (.fn 46 []))) 68 [.tmp 12, .tmp 13, .tmp 14, .tmp 15], none⟩, ⟨some 11, .mv (.tmp 16), none⟩]) (.seq (.region [⟨some 17, .mv (.tmp 11), none⟩, ⟨some 18, .bin .neq (.tmp 17) (.c (.one (.t (.int .i64 0)))), none⟩]) (.cond (.tmp 18) (.seq (.region [⟨some 19, .mv (.tmp 11), none⟩, ⟨some 8, .mv (.c (.one .nil)), none⟩, ⟨some 9, .mv (.c (.one .nil)), none⟩, ⟨some 10, .mv (.tmp 19), none⟩]) .ret) .skip))) (.seq (.draw [[], [0], [], [2], [1, 3], [], [5], [], [7], [6, 8, 4], [4, 9, 0, 1, 2, 3, 4], [9, 10, 0, 1, 2, 3, 4, 5, 6, 7, 8, 9, 10], [11, 0, 1, 2, 3, 4, 5, 6, 7, 8, 9, 10, 11]] [⟨some 20, .fieldA 0 (.tmp 7), none⟩, ⟨some 21, .load false 1 (.tmp 20), none⟩, ⟨some 22, .fieldA 0 (.tmp 6), none⟩, ⟨some 23, .load false 1 (.tmp 22), none⟩, ⟨some 24, .call (.c (.one (.fn 47 []))) 260 [.tmp 21, .tmp 23], none⟩, ⟨some 25, .fieldA 1 (.tmp 7), none⟩, ⟨some 26, .load false 1 (.tmp 25), none⟩, ⟨some 27, .fieldA 1 (.tmp 6), none⟩, ⟨some 28, .load false 1 (.tmp 27), none⟩, ⟨some 29, .call (.c (.one (.fn 47 []))) 265 [.tmp 26, .tmp 28], none⟩, ⟨some 8, .mv (.tmp 24), none⟩, ⟨some 9, .mv (.tmp 29), none⟩, ⟨some 10, .mv (.c (.one (.t (.int .i64 0)))), none⟩]) .ret))⟩
theorem k_ident12X : cFn Try.prog Try.f26 = some c_ident12X := by kernel_rfl
theorem ident12X_ok (l g : Gr) (p m : Pa) (h : TinyCase l g p m) : CallOK Try.prog 26 [l.v, g.v, p.v, m.v] (identT (identR l g p m)) := by
  refine callOK_W (callS_W (by kernel_rfl) Try.func26 k_ident12X (callable_of Try.func26 (by kernel_rfl)) (by simp [c_ident12X]) ?_)
  simp [c_ident12X]
  refine callS_tree (given12_ok l g p m h) ?_ ?_ ?_
  · rfl
  · rfl
  by_cases h1 : caseErr l g p m = 0
  case neg =>
    have e : identR l g p m = ([], [], caseErr l g p m) := by simp [identR, h1]
    simp [h1, e, identT, prL]
  obtain ⟨mo, so⟩ := caseErr_ok h1
  have b1 := mo.ga.n
  have b2 := mo.ga.e
  have b3 := mo.ln
  have b4 := mo.le
  have e : identR l g p m = (pairsL m.nodes p.nodes, pairsL m.edges p.edges, 0) := by simp [identR, h1]
  simp [dw0, dw1, dw2, dw3, h1, e]
  refine dCall_ok (callOK_of_row (ident12_row m.nodes p.nodes (by omega) h.tp.1)) ?_ ?_ ?_
  · rfl
  · rfl
  simp [dw0, dw1, dw2, dw3]
  refine dCall_ok (callOK_of_row (ident12_row m.edges p.edges (by omega) h.tp.2)) ?_ ?_ ?_
  · rfl
  · rfl
  simp [dw0, dw1, dw2, dw3, identT]
  rfl

def c_equalP : MFunc := ⟨26, [.tmp 4], .seq (.region [⟨some 4, .mv (.c (.one (.t (.bool false)))), none⟩]) (.seq (.seq (.region [⟨some 6, .mv (.tmp 0), none⟩, ⟨some 7, .len (.tmp 6), none⟩, ⟨some 8, .mv (.tmp 1), none⟩, ⟨some 9, .len (.tmp 8), none⟩, ⟨some 10, .bin .neq (.tmp 7) (.tmp 9), none⟩]) (.cond (.tmp 10) (.seq (.region [⟨some 4, .mv (.c (.one (.t (.bool false)))), none⟩]) .ret) .skip)) (.seq (.seq (.region [⟨some 11, .mv (.tmp 0), none⟩, ⟨some 12, .len (.tmp 11), none⟩, ⟨some 13, .mv (.c (.one (.t (.int .i64 0)))), none⟩]) (.block 0 (.loop (.seq (.region [⟨some 14, .bin .lss (.tmp 13) (.tmp 12), none⟩]) (.seq (.cond (.tmp 14) .skip (.exit 0)) (.seq (.block 1 (.seq (.region [⟨some 15, .mv (.tmp 13), none⟩, ⟨some 5, .mv (.tmp 15), none⟩]) (.seq (.draw [[], [], [0, 1], [2], [], [], [4, 5], [6], [3, 7]] [⟨some 16, .mv (.tmp 0), none⟩, ⟨some 17, .mv (.tmp 5), none⟩, ⟨some 18, .idxA 2 (.tmp 16) (.tmp 17), none⟩, ⟨some 19, .load true 2 (.tmp 18), none⟩, ⟨some 20, .mv (.tmp 1), none⟩, ⟨some 21, .mv (.tmp 5), none⟩, ⟨some 22, .idxA 2 (.tmp 20) (.tmp 21), none⟩, ⟨some 23, .load true 2 (.tmp 22), none⟩, ⟨some 24, .eqS true 2 (.tmp 19) (.tmp 23), none⟩]) (.cond (.tmp 24) (.seq (.region [⟨some 4, .mv (.c (.one (.t (.bool false)))), none⟩]) .ret) .skip)))) (.region [⟨some 25, .bin .add (.tmp 13) (.c (.one (.t (.int .i64 1)))), none⟩, ⟨some 13, .mv (.tmp 25), none⟩]))))))) (.seq (.region [⟨some 4, .mv (.c (.one (.t (.bool true)))), none⟩]) .ret)))⟩
theorem k_equalP : cFn Try.prog Try.f28 = some c_equalP := by kernel_rfl
theorem equalP_ok (a : List (Int × Int)) (ha : a.length ≤ 1000000) : CallOK Try.prog 28 [(false, [prs a]), (false, [prs a])] (.sv (false, [.bool true])) := by
  refine callOK_W (callS_W (by kernel_rfl) Try.func28 k_equalP (callable_of Try.func28 (by kernel_rfl)) (by simp [c_equalP]) ?_)
  simp [c_equalP]
  refine loopW_count 13 a.length (fun k S => S.fr 0 = .one (.t (prs a)) ∧ S.fr 1 = .one (.t (prs a)) ∧ S.fr 12 = .one (.t (.int .i64 a.length))) (by omega) ?_ ?_ ?_
  · simp
  · rintro k S hlt hw hc ⟨f0, f1, f12⟩
    have hlt2 : k * 2 < a.length * 2 := by omega
    simp [dw0, dw1, dw2, dw3, f0, f1, f12, hc, hlt, hlt2, drop_prL hlt, hw]
    rfl
  · rintro S hc ⟨f0, f1, f12⟩
    simp [f0, f1, f12, hc]

theorem danglR_tiny {l g : Gr} {p m : Pa} (h : TinyCase l g p m) : tiny (danglR l g p m).1.length := by
  unfold danglR
  split
  · exact Nat.le_trans dangl_few h.tg.2
  · simp [tiny]

theorem identR_tiny {l g : Gr} {p m : Pa} : (identR l g p m).1.length ≤ 1000000 ∧ (identR l g p m).2.1.length ≤ 1000000 := by
  unfold identR
  split
  · rename_i h1
    obtain ⟨mo, so⟩ := caseErr_ok h1
    have b1 := mo.ga.n
    have b2 := mo.ga.e
    have b3 := mo.ln
    have b4 := mo.le
    exact ⟨pairsL_len (by omega), pairsL_len (by omega)⟩
  · simp

def c_lawViol : MFunc := ⟨96, [.tmp 2], .seq (.region [⟨some 1, .box 0 30 (.tmp 0), none⟩, ⟨some 2, .mv (.c (.one (.t (.bool false)))), none⟩]) (.seq (.seq (.region [⟨some 13, .call (.c (.one (.fn 10 []))) 64 [], none⟩, ⟨some 14, .not (.tmp 13), none⟩, ⟨some 15, .mv (.tmp 14), none⟩, ⟨some 16, .load true 8 (.tmp 1), some (15, false)⟩, ⟨some 17, .call (.c (.one (.fn 11 []))) 68 [.tmp 16], some (15, false)⟩, ⟨some 18, .not (.tmp 17), some (15, false)⟩, ⟨some 19, .pick (.tmp 15) (.c (.one (.t (.bool true)))) (.tmp 18), none⟩]) (.cond (.tmp 19) (.seq (.region [⟨some 20, .call (.c (.one (.fn 10 []))) 128 [], none⟩, ⟨some 2, .mv (.tmp 20), none⟩]) .ret) .skip)) (.seq (.draw [[], [0], [], [2], [], [4], [5], [], [7], [1, 3, 6, 8, 6], [9], [10], [10], [11, 9, 0, 1, 2, 3, 4, 5, 6, 7, 8, 9, 10, 11], [12, 13, 0, 1, 2, 3, 4, 5, 6, 7, 8, 9, 10, 11, 12, 13]] [⟨some 22, .fieldA 0 (.tmp 1), none⟩, ⟨some 23, .load true 2 (.tmp 22), none⟩, ⟨some 24, .fieldA 2 (.tmp 1), none⟩, ⟨some 25, .load true 2 (.tmp 24), none⟩, ⟨some 26, .fieldA 4 (.tmp 1), none⟩, ⟨some 27, .load true 2 (.tmp 26), none⟩, ⟨some 28, .call (.c (.one (.fn 13 []))) 198 [.tmp 27], none⟩, ⟨some 29, .fieldA 6 (.tmp 1), none⟩, ⟨some 30, .load true 2 (.tmp 29), none⟩, ⟨some 31, .call (.c (.one (.fn 23 []))) 201 [.tmp 23, .tmp 25, .tmp 28, .tmp 30], none⟩, ⟨some 21, .mv (.tmp 31), none⟩, ⟨some 32, .extract (.tmp 21) 0, none⟩, ⟨some 33, .extract (.tmp 21) 1, none⟩, ⟨some 3, .mv (.tmp 32), none⟩, ⟨some 4, .mv (.tmp 33), none⟩]) (.seq (.region [⟨some 35, .fieldA 0 (.tmp 1), none⟩, ⟨some 36, .load true 2 (.tmp 35), none⟩, ⟨some 37, .fieldA 2 (.tmp 1), none⟩, ⟨some 38, .load true 2 (.tmp 37), none⟩, ⟨some 39, .fieldA 4 (.tmp 1), none⟩, ⟨some 40, .load true 2 (.tmp 39), none⟩, ⟨some 41, .fieldA 6 (.tmp 1), none⟩, ⟨some 42, .load true 2 (.tmp 41), none⟩, ⟨some 43, .call (.c (.one (.fn 24 []))) 264 [.tmp 36, .tmp 38, .tmp 40, .tmp 42], none⟩, ⟨some 34, .mv (.tmp 43), none⟩, ⟨some 44, .extract (.tmp 34) 0, none⟩, ⟨some 45, .extract (.tmp 34) 1, none⟩, ⟨some 5, .mv (.tmp 44), none⟩, ⟨some 6, .mv (.tmp 45), none⟩]) (.seq (.draw [[], [0], [], [2], [], [4], [5], [], [7], [1, 3, 6, 8, 6], [9], [10], [10], [10], [11, 9, 0, 1, 2, 3, 4, 5, 6, 7, 8, 9, 10, 11], [12, 14, 0, 1, 2, 3, 4, 5, 6, 7, 8, 9, 10, 11, 12, 14], [13, 15, 0, 1, 2, 3, 4, 5, 6, 7, 8, 9, 10, 11, 12, 13, 14, 15]] [⟨some 47, .fieldA 0 (.tmp 1), none⟩, ⟨some 48, .load true 2 (.tmp 47), none⟩, ⟨some 49, .fieldA 2 (.tmp 1), none⟩, ⟨some 50, .load true 2 (.tmp 49), none⟩, ⟨some 51, .fieldA 4 (.tmp 1), none⟩, ⟨some 52, .load true 2 (.tmp 51), none⟩, ⟨some 53, .call (.c (.one (.fn 13 []))) 326 [.tmp 52], none⟩, ⟨some 54, .fieldA 6 (.tmp 1), none⟩, ⟨some 55, .load true 2 (.tmp 54), none⟩, ⟨some 56, .call (.c (.one (.fn 25 []))) 329 [.tmp 48, .tmp 50, .tmp 53, .tmp 55], none⟩, ⟨some 46, .mv (.tmp 56), none⟩, ⟨some 57, .extract (.tmp 46) 0, none⟩, ⟨some 58, .extract (.tmp 46) 1, none⟩, ⟨some 59, .extract (.tmp 46) 2, none⟩, ⟨some 7, .mv (.tmp 57), none⟩, ⟨some 8, .mv (.tmp 58), none⟩, ⟨some 9, .mv (.tmp 59), none⟩]) (.seq (.region [⟨some 61, .fieldA 0 (.tmp 1), none⟩, ⟨some 62, .load true 2 (.tmp 61), none⟩, ⟨some 63, .fieldA 2 (.tmp 1), none⟩, ⟨some 64, .load true 2 (.tmp 63), none⟩, ⟨some 65, .fieldA 4 (.tmp 1), none⟩, ⟨some 66, .load true 2 (.tmp 65), none⟩, ⟨some 67, .fieldA 6 (.tmp 1), none⟩, ⟨some 68, .load true 2 (.tmp 67), none⟩, ⟨some 69, .call (.c (.one (.fn 26 []))) 392 [.tmp 62, .tmp 64, .tmp 66, .tmp 68], none⟩, ⟨some 60, .mv (.tmp 69), none⟩, ⟨some 70, .extract (.tmp 60) 0, none⟩, ⟨some 71, .extract (.tmp 60) 1, none⟩, ⟨some 72, .extract (.tmp 60) 2, none⟩, ⟨some 10, .mv (.tmp 70), none⟩, ⟨some 11, .mv (.tmp 71), none⟩, ⟨some 12, .mv (.tmp 72), none⟩]) (.seq (.region [⟨some 73, .mv (.tmp 4), none⟩, ⟨some 74, .mv (.tmp 6), none⟩, ⟨some 75, .bin .eql (.tmp 73) (.tmp 74), none⟩, ⟨some 76, .mv (.tmp 75), none⟩, ⟨some 77, .mv (.tmp 3), some (76, true)⟩, ⟨some 78, .mv (.tmp 5), some (76, true)⟩, ⟨some 79, .call (.c (.one (.fn 27 []))) 454 [.tmp 77, .tmp 78], some (76, true)⟩, ⟨some 80, .pick (.tmp 76) (.tmp 79) (.c (.one (.t (.bool false)))), none⟩, ⟨some 81, .mv (.tmp 80), none⟩, ⟨some 82, .mv (.tmp 9), some (81, true)⟩, ⟨some 83, .mv (.tmp 12), some (81, true)⟩, ⟨some 84, .bin .eql (.tmp 82) (.tmp 83), some (81, true)⟩, ⟨some 85, .pick (.tmp 81) (.tmp 84) (.c (.one (.t (.bool false)))), none⟩, ⟨some 86, .mv (.tmp 85), none⟩, ⟨some 87, .mv (.tmp 7), some (86, true)⟩, ⟨some 88, .mv (.tmp 10), some (86, true)⟩, ⟨some 89, .call (.c (.one (.fn 28 []))) 464 [.tmp 87, .tmp 88], some (86, true)⟩, ⟨some 90, .pick (.tmp 86) (.tmp 89) (.c (.one (.t (.bool false)))), none⟩, ⟨some 91, .mv (.tmp 90), none⟩, ⟨some 92, .mv (.tmp 8), some (91, true)⟩, ⟨some 93, .mv (.tmp 11), some (91, true)⟩, ⟨some 94, .call (.c (.one (.fn 28 []))) 469 [.tmp 92, .tmp 93], some (91, true)⟩, ⟨some 95, .pick (.tmp 91) (.tmp 94) (.c (.one (.t (.bool false)))), none⟩, ⟨some 2, .mv (.tmp 95), none⟩]) .ret))))))⟩
theorem k_lawViol : cFn Try.prog Try.f7 = some c_lawViol := by kernel_rfl
theorem lawViolations : CaseLaw 7 := by
  intro l g p m hb
  refine callOK_W (callS_W (by kernel_rfl) Try.func7 k_lawViol (callable_of Try.func7 (by kernel_rfl)) (by simp [c_lawViol]) ?_)
  simp [c_lawViol, gluV]
  refine callS_tree awake_ok ?_ ?_ ?_
  · rfl
  · rfl
  simp [gluV]
  refine callS_tree hb.few ?_ ?_ ?_
  · rfl
  · rfl
  cases hf : fewC l g p m
  · simp [hf]
    refine callS_tree awake_ok ?_ ?_ ?_
    · rfl
    · rfl
    simp
  have ht := tiny_few hf
  simp [dw0, dw1, dw2, dw3, gluV, hf]
  refine dCall_ok (copied_ok p ht.tp) ?_ ?_ ?_
  · rfl
  · rfl
  simp [dw0, dw1, dw2, dw3, gluV]
  refine dCall_ok (dangX_ok l g p m ht) ?_ ?_ ?_
  · rfl
  · rfl
  simp [dw0, dw1, dw2, dw3, gluV]
  refine ⟨rfl, ?_⟩
  refine callS_tree (dang12X_ok l g p m ht) ?_ ?_ ?_
  · rfl
  · rfl
  simp [dw0, dw1, dw2, dw3, gluV]
  refine dCall_ok (copied_ok p ht.tp) ?_ ?_ ?_
  · rfl
  · rfl
  simp [dw0, dw1, dw2, dw3, gluV]
  refine dCall_ok (identX_ok l g p m ht) ?_ ?_ ?_
  · rfl
  · rfl
  simp [dw0, dw1, dw2, dw3, gluV, identT]
  refine ⟨rfl, ?_⟩
  refine callS_tree (ident12X_ok l g p m ht) ?_ ?_ ?_
  · rfl
  · rfl
  simp [dw0, dw1, dw2, dw3, gluV, identT]
  refine callS_tree (equal_ok (danglR l g p m).1 (danglR l g p m).1 (danglR_tiny ht) (danglR_tiny ht)) ?_ ?_ ?_
  · rfl
  · rfl
  simp
  refine callS_tree (equalP_ok (identR l g p m).1 identR_tiny.1) ?_ ?_ ?_
  · rfl
  · rfl
  simp
  refine callS_tree (equalP_ok (identR l g p m).2.1 identR_tiny.2) ?_ ?_ ?_
  · rfl
  · rfl
  simp

/-- Is it the complement? -/
def chkR (l g : Gr) (p m d : Pa) : Bool := decide ((ofR l g p m).2 = 0) && decide ((ofR l g p m).1.nodes = d.nodes) && decide ((ofR l g p m).1.edges = d.edges)

def c_checkX : MFunc := ⟨37, [.tmp 10], .seq (.region [⟨some 5, .box 0 25 (.tmp 0), none⟩, ⟨some 6, .box 1 25 (.tmp 1), none⟩, ⟨some 7, .box 2 27 (.tmp 2), none⟩, ⟨some 8, .box 3 28 (.tmp 3), none⟩, ⟨some 9, .box 4 27 (.tmp 4), none⟩, ⟨some 10, .mv (.c (.one (.t (.bool false)))), none⟩]) (.seq (.region [⟨some 14, .load true 2 (.tmp 5), none⟩, ⟨some 15, .load true 2 (.tmp 6), none⟩, ⟨some 16, .load true 2 (.tmp 7), none⟩, ⟨some 17, .load true 2 (.tmp 8), none⟩, ⟨some 18, .call (.c (.one (.fn 12 []))) 68 [.tmp 14, .tmp 15, .tmp 16, .tmp 17], none⟩, ⟨some 13, .mv (.tmp 18), none⟩, ⟨some 19, .extract (.tmp 13) 0, none⟩, ⟨some 20, .extract (.tmp 13) 1, none⟩, ⟨some 11, .alloc 72 27 [.nil, .nil], none⟩, ⟨none, .store 2 (.tmp 11) (.tmp 19), none⟩, ⟨some 12, .mv (.tmp 20), none⟩]) (.seq (.region [⟨some 21, .mv (.tmp 12), none⟩, ⟨some 22, .bin .eql (.tmp 21) (.c (.one (.t (.int .i64 0)))), none⟩, ⟨some 23, .mv (.tmp 22), none⟩, ⟨some 24, .fieldA 0 (.tmp 11), some (23, true)⟩, ⟨some 25, .load false 1 (.tmp 24), some (23, true)⟩, ⟨some 26, .fieldA 0 (.tmp 9), some (23, true)⟩, ⟨some 27, .load false 1 (.tmp 26), some (23, true)⟩, ⟨some 28, .call (.c (.one (.fn 27 []))) 135 [.tmp 25, .tmp 27], some (23, true)⟩, ⟨some 29, .pick (.tmp 23) (.tmp 28) (.c (.one (.t (.bool false)))), none⟩, ⟨some 30, .mv (.tmp 29), none⟩, ⟨some 31, .fieldA 1 (.tmp 11), some (30, true)⟩, ⟨some 32, .load false 1 (.tmp 31), some (30, true)⟩, ⟨some 33, .fieldA 1 (.tmp 9), some (30, true)⟩, ⟨some 34, .load false 1 (.tmp 33), some (30, true)⟩, ⟨some 35, .call (.c (.one (.fn 27 []))) 142 [.tmp 32, .tmp 34], some (30, true)⟩, ⟨some 36, .pick (.tmp 30) (.tmp 35) (.c (.one (.t (.bool false)))), none⟩, ⟨some 10, .mv (.tmp 36), none⟩]) .ret))⟩
theorem k_checkX : cFn Try.prog Try.f21 = some c_checkX := by kernel_rfl
theorem checkX_ok (l g : Gr) (p m d : Pa) (h : TinyCase l g p m) (hd : tinyP d) : CallOK Try.prog 21 [l.v, g.v, p.v, m.v, d.v] (.sv (false, [.bool (chkR l g p m d)])) := by
  refine callOK_W (callS_W (by kernel_rfl) Try.func21 k_checkX (callable_of Try.func21 (by kernel_rfl)) (by simp [c_checkX]) ?_)
  simp [c_checkX]
  refine callS_tree (of_ok l g p m h) ?_ ?_ ?_
  · rfl
  · rfl
  by_cases h1 : (ofR l g p m).2 = 0
  case neg => simp [chkR, h1]
  simp [h1]
  refine callS_tree (equal_ok (ofR l g p m).1.nodes d.nodes (ofR_tiny h).1 hd.1) ?_ ?_ ?_
  · rfl
  · rfl
  by_cases h2 : (ofR l g p m).1.nodes = d.nodes
  case neg => simp [chkR, h1, h2]
  simp [h1, h2]
  refine callS_tree (equal_ok (ofR l g p m).1.edges d.edges (ofR_tiny h).2 hd.2) ?_ ?_ ?_
  · rfl
  · rfl
  simp [chkR, h1, h2]

def c_check12X : MFunc := ⟨37, [.tmp 10], .seq (.region [⟨some 5, .box 0 25 (.tmp 0), none⟩, ⟨some 6, .box 1 25 (.tmp 1), none⟩, ⟨some 7, .box 2 27 (.tmp 2), none⟩, ⟨some 8, .box 3 28 (.tmp 3), none⟩, ⟨some 9, .box 4 27 (.tmp 4), none⟩, ⟨some 10, .mv (.c (.one (.t (.bool false)))), none⟩]) (.seq (.region [⟨some 14, .load true 2 (.tmp 5), none⟩, ⟨some 15, .load true 2 (.tmp 6), none⟩, ⟨some 16, .load true 2 (.tmp 7), none⟩, ⟨some 17, .load true 2 (.tmp 8), none⟩, ⟨some 18, .call (.c (.one (.fn 14 []))) 68 [.tmp 14, .tmp 15, .tmp 16, .tmp 17], none⟩, ⟨some 13, .mv (.tmp 18), none⟩, ⟨some 19, .extract (.tmp 13) 0, none⟩, ⟨some 20, .extract (.tmp 13) 1, none⟩, ⟨some 11, .alloc 72 27 [.nil, .nil], none⟩, ⟨none, .store 2 (.tmp 11) (.tmp 19), none⟩, ⟨some 12, .mv (.tmp 20), none⟩]) (.seq (.region [⟨some 21, .mv (.tmp 12), none⟩, ⟨some 22, .bin .eql (.tmp 21) (.c (.one (.t (.int .i64 0)))), none⟩, ⟨some 23, .mv (.tmp 22), none⟩, ⟨some 24, .fieldA 0 (.tmp 11), some (23, true)⟩, ⟨some 25, .load false 1 (.tmp 24), some (23, true)⟩, ⟨some 26, .fieldA 0 (.tmp 9), some (23, true)⟩, ⟨some 27, .load false 1 (.tmp 26), some (23, true)⟩, ⟨some 28, .call (.c (.one (.fn 51 []))) 135 [.tmp 25, .tmp 27], some (23, true)⟩, ⟨some 29, .pick (.tmp 23) (.tmp 28) (.c (.one (.t (.bool false)))), none⟩, ⟨some 30, .mv (.tmp 29), none⟩, ⟨some 31, .fieldA 1 (.tmp 11), some (30, true)⟩, ⟨some 32, .load false 1 (.tmp 31), some (30, true)⟩, ⟨some 33, .fieldA 1 (.tmp 9), some (30, true)⟩, ⟨some 34, .load false 1 (.tmp 33), some (30, true)⟩, ⟨some 35, .call (.c (.one (.fn 51 []))) 142 [.tmp 32, .tmp 34], some (30, true)⟩, ⟨some 36, .pick (.tmp 30) (.tmp 35) (.c (.one (.t (.bool false)))), none⟩, ⟨some 10, .mv (.tmp 36), none⟩]) .ret))⟩
theorem k_check12X : cFn Try.prog Try.f22 = some c_check12X := by kernel_rfl
theorem check12X_ok (l g : Gr) (p m d : Pa) (h : TinyCase l g p m) (hd : tinyP d) : CallOK Try.prog 22 [l.v, g.v, p.v, m.v, d.v] (.sv (false, [.bool (chkR l g p m d)])) := by
  refine callOK_W (callS_W (by kernel_rfl) Try.func22 k_check12X (callable_of Try.func22 (by kernel_rfl)) (by simp [c_check12X]) ?_)
  simp [c_check12X]
  refine callS_tree (of12_ok l g p m h) ?_ ?_ ?_
  · rfl
  · rfl
  by_cases h1 : (ofR l g p m).2 = 0
  case neg => simp [chkR, h1]
  simp [h1]
  refine callS_tree (sameInts_ok (ofR l g p m).1.nodes d.nodes (ofR_tiny h).1 hd.1) ?_ ?_ ?_
  · rfl
  · rfl
  by_cases h2 : (ofR l g p m).1.nodes = d.nodes
  case neg => simp [chkR, h1, h2]
  simp [h1, h2]
  refine callS_tree (sameInts_ok (ofR l g p m).1.edges d.edges (ofR_tiny h).2 hd.2) ?_ ?_ ?_
  · rfl
  · rfl
  simp [chkR, h1, h2]

/-- What the law of a case and a part is to answer. -/
def CaseLawP (f : FuncId) : Prop := ∀ (l g : Gr) (p m d : Pa), BoundC l g p m → bound d.nodes.length → bound d.edges.length → CallOK Try.prog f [gluV l g p m, d.v] (.sv (false, [.bool true]))

def c_lawCheck : MFunc := ⟨41, [.tmp 4], .seq (.region [⟨some 2, .box 0 30 (.tmp 0), none⟩, ⟨some 3, .box 1 27 (.tmp 1), none⟩, ⟨some 4, .mv (.c (.one (.t (.bool false)))), none⟩]) (.seq (.seq (.region [⟨some 5, .call (.c (.one (.fn 10 []))) 64 [], none⟩, ⟨some 6, .not (.tmp 5), none⟩, ⟨some 7, .mv (.tmp 6), none⟩, ⟨some 8, .load true 8 (.tmp 2), some (7, false)⟩, ⟨some 9, .call (.c (.one (.fn 11 []))) 68 [.tmp 8], some (7, false)⟩, ⟨some 10, .not (.tmp 9), some (7, false)⟩, ⟨some 11, .pick (.tmp 7) (.c (.one (.t (.bool true)))) (.tmp 10), none⟩, ⟨some 12, .mv (.tmp 11), none⟩, ⟨some 13, .load true 2 (.tmp 3), some (12, false)⟩, ⟨some 14, .call (.c (.one (.fn 20 []))) 73 [.tmp 13, .c (.one (.t (.int .i64 140)))], some (12, false)⟩, ⟨some 15, .not (.tmp 14), some (12, false)⟩, ⟨some 16, .pick (.tmp 12) (.c (.one (.t (.bool true)))) (.tmp 15), none⟩]) (.cond (.tmp 16) (.seq (.region [⟨some 17, .call (.c (.one (.fn 10 []))) 128 [], none⟩, ⟨some 4, .mv (.tmp 17), none⟩]) .ret) .skip)) (.seq (.draw [[], [0], [], [2], [], [4], [5], [], [7], [], [9, 6], [1, 3, 6, 8, 10, 10], [], [12], [], [14], [], [16], [], [18], [], [13, 15, 17, 19, 20, 11], [11, 21], [22, 21, 0, 1, 2, 3, 4, 5, 6, 7, 8, 9, 10, 11, 12, 13, 14, 15, 16, 17, 18, 19, 20, 21, 22]] [⟨some 18, .fieldA 0 (.tmp 2), none⟩, ⟨some 19, .load true 2 (.tmp 18), none⟩, ⟨some 20, .fieldA 2 (.tmp 2), none⟩, ⟨some 21, .load true 2 (.tmp 20), none⟩, ⟨some 22, .fieldA 4 (.tmp 2), none⟩, ⟨some 23, .load true 2 (.tmp 22), none⟩, ⟨some 24, .call (.c (.one (.fn 13 []))) 198 [.tmp 23], none⟩, ⟨some 25, .fieldA 6 (.tmp 2), none⟩, ⟨some 26, .load true 2 (.tmp 25), none⟩, ⟨some 27, .load true 2 (.tmp 3), none⟩, ⟨some 28, .call (.c (.one (.fn 13 []))) 202 [.tmp 27], none⟩, ⟨some 29, .call (.c (.one (.fn 21 []))) 203 [.tmp 19, .tmp 21, .tmp 24, .tmp 26, .tmp 28], none⟩, ⟨some 30, .fieldA 0 (.tmp 2), none⟩, ⟨some 31, .load true 2 (.tmp 30), none⟩, ⟨some 32, .fieldA 2 (.tmp 2), none⟩, ⟨some 33, .load true 2 (.tmp 32), none⟩, ⟨some 34, .fieldA 4 (.tmp 2), none⟩, ⟨some 35, .load true 2 (.tmp 34), none⟩, ⟨some 36, .fieldA 6 (.tmp 2), none⟩, ⟨some 37, .load true 2 (.tmp 36), none⟩, ⟨some 38, .load true 2 (.tmp 3), none⟩, ⟨some 39, .call (.c (.one (.fn 22 []))) 213 [.tmp 31, .tmp 33, .tmp 35, .tmp 37, .tmp 38], none⟩, ⟨some 40, .eqS false 0 (.tmp 29) (.tmp 39), none⟩, ⟨some 4, .mv (.tmp 40), none⟩]) .ret))⟩
theorem k_lawCheck : cFn Try.prog Try.f6 = some c_lawCheck := by kernel_rfl
theorem lawCheck : CaseLawP 6 := by
  intro l g p m d hb hd1 hd2
  have hu : huge d.nodes.length ∧ huge d.edges.length := by simp only [bound, huge] at *; omega
  refine callOK_W (callS_W (by kernel_rfl) Try.func6 k_lawCheck (callable_of Try.func6 (by kernel_rfl)) (by simp [c_lawCheck]) ?_)
  simp [c_lawCheck, gluV]
  refine callS_tree awake_ok ?_ ?_ ?_
  · rfl
  · rfl
  simp [gluV]
  refine callS_tree hb.few ?_ ?_ ?_
  · rfl
  · rfl
  cases hf : fewC l g p m
  · simp [hf]
    refine callS_tree awake_ok ?_ ?_ ?_
    · rfl
    · rfl
    simp
  have ht := tiny_few hf
  simp [dw0, dw1, dw2, dw3, gluV, hf]
  refine callS_tree (few7_ok d 140 hu.1 hu.2) ?_ ?_ ?_
  · rfl
  · rfl
  cases hf2 : fewP d 140
  · simp [hf2]
    refine callS_tree awake_ok ?_ ?_ ?_
    · rfl
    · rfl
    simp
  have hd : tinyP d := by
    simp [fewP] at hf2
    exact ⟨by simp only [tiny]; omega, by simp only [tiny]; omega⟩
  simp [dw0, dw1, dw2, dw3, gluV, hf2]
  refine dCall_ok (copied_ok p ht.tp) ?_ ?_ ?_
  · rfl
  · rfl
  simp [dw0, dw1, dw2, dw3, gluV]
  refine dCall_ok (copied_ok d hd) ?_ ?_ ?_
  · rfl
  · rfl
  simp [dw0, dw1, dw2, dw3, gluV]
  refine dCall_ok (checkX_ok l g p m d ht hd) ?_ ?_ ?_
  · rfl
  · rfl
  simp [dw0, dw1, dw2, dw3, gluV]
  refine dCall_ok (check12X_ok l g p m d ht hd) ?_ ?_ ?_
  · rfl
  · rfl
  simp [dw0, dw1, dw2, dw3, gluV]
  rfl
end Go.Proofs.Ythapbbpdcjmmfaa

/- Contracts: compositions, comparisons and copies of morphisms and graphs. -/
namespace Go.Proofs.Ythapbbpdcjmmfaa
open Abs
set_option linter.unusedSimpArgs false
set_option linter.unusedVariables false
attribute [local simp] rn0 rn1 rn2 rn3 rn4 rn5 rn6 rn7 evOp nests Arg.ev St.val St.set St.new sliceOf binInt2 binInt AV.cells rdAt St.live retOf resOf resAll treeOf treeCell treeCells treeTups untree frameOf TV.av TR.av ints edgs prs fillV splice intsOf trees V1.tree bx Gr.v Pa.v

theorem take_succ_nth' {l : List Int} {k : Nat} (h : k < l.length) : l.take (k + 1) = l.take k ++ [nth l k] := by
  rw [List.take_succ_eq_append_getElem h, nth_eq h]

theorem untreeI (l : List Int) : untree (l.map (V1.t ∘ C.int .i64)) = some (l.map (C.int .i64)) := by
  rw [← List.map_map]
  exact untreeT _

/-- A list of places, each led on by another list. -/
def thru (l by' : List Int) : List Int := l.map fun x => nth by' x.toNat
theorem thru_len {l b : List Int} : (thru l b).length = l.length := by simp [thru]
theorem thru_nth {l b : List Int} {i : Nat} (h : i < l.length) : nth (thru l b) i = nth b (nth l i).toNat := by
  rw [nth_eq (by rw [thru_len]; exact h), nth_eq h]
  simp [thru]
theorem thru_succ {l b : List Int} {k : Nat} (h : k < l.length) : thru (l.take (k + 1)) b = thru (l.take k) b ++ [nth b (nth l k).toNat] := by
  rw [take_succ_nth' h]
  simp [thru]

/-- Every number of a list is a place of another one. -/
def placesIn (l : List Int) (n : Nat) : Prop := ∀ x ∈ l, 0 ≤ x ∧ x < n

/-- A list that is being filled: its first k are there, the others are 0. -/
def fillL (l : List Int) (k n : Nat) : List V1 := (l.take k).map (fun z => .t (.int .i64 z)) ++ List.replicate (n - k) (.t (.int .i64 0))
theorem fillL_zero {l : List Int} {n : Nat} : fillL l 0 n = List.replicate n (.t (.int .i64 0)) := by simp [fillL]
theorem fillL_all {l : List Int} {n : Nat} (h : l.length = n) : fillL l n n = (l.map (.int .i64)).map .t := by
  simp [fillL, ← h]
theorem fillL_len {l : List Int} {k n : Nat} (h : l.length = n) (hk : k ≤ n) : (fillL l k n).length = n := by simp [fillL]; omega
theorem fillL_set {l : List Int} {k n : Nat} (h : l.length = n) (hk : k < n) : (fillL l k n).take k ++ .t (.int .i64 (nth l k)) :: (fillL l k n).drop (k + 1) = fillL l (k + 1) n := by
  have e1 : ((l.take k).map fun z => V1.t (.int .i64 z)).length = k := by simp; omega
  simp only [fillL]
  rw [List.take_append_of_le_length (by omega), List.take_of_length_le (by omega), List.drop_append, List.drop_eq_nil_of_le (by omega), e1, List.nil_append, take_succ_nth' (by omega), List.map_append, List.append_assoc]
  congr 1
  simp
  omega


def c_pfollow : MFunc := ⟨27, [.tmp 4], .seq (.region [⟨some 4, .mv (.c (.one .nil)), none⟩]) (.seq (.region [⟨some 8, .mv (.tmp 0), none⟩, ⟨some 9, .len (.tmp 8), none⟩, ⟨some 10, .make 66 3 1 8 [.t (.int .i64 0)] (.tmp 9) (.tmp 9), none⟩, ⟨some 5, .mv (.tmp 10), none⟩]) (.seq (.seq (.region [⟨some 11, .mv (.tmp 0), none⟩, ⟨some 12, .len (.tmp 11), none⟩, ⟨some 13, .mv (.c (.one (.t (.int .i64 0)))), none⟩]) (.block 0 (.loop (.seq (.region [⟨some 14, .bin .lss (.tmp 13) (.tmp 12), none⟩]) (.seq (.cond (.tmp 14) .skip (.exit 0)) (.seq (.block 1 (.seq (.region [⟨some 15, .mv (.tmp 13), none⟩, ⟨some 16, .idxA 1 (.tmp 11) (.tmp 13), none⟩, ⟨some 17, .load false 1 (.tmp 16), none⟩, ⟨some 6, .mv (.tmp 15), none⟩, ⟨some 7, .mv (.tmp 17), none⟩]) (.region [⟨some 18, .mv (.tmp 5), none⟩, ⟨some 19, .mv (.tmp 6), none⟩, ⟨some 20, .mv (.tmp 1), none⟩, ⟨some 21, .mv (.tmp 7), none⟩, ⟨some 22, .idxA 1 (.tmp 20) (.tmp 21), none⟩, ⟨some 23, .load false 1 (.tmp 22), none⟩, ⟨some 24, .idxA 1 (.tmp 18) (.tmp 19), none⟩, ⟨none, .store 1 (.tmp 24) (.tmp 23), none⟩]))) (.region [⟨some 25, .bin .add (.tmp 13) (.c (.one (.t (.int .i64 1)))), none⟩, ⟨some 13, .mv (.tmp 25), none⟩]))))))) (.seq (.region [⟨some 26, .mv (.tmp 5), none⟩, ⟨some 4, .mv (.tmp 26), none⟩]) .ret)))⟩
theorem k_pfollow : cFn Try.prog Try.f121 = some c_pfollow := by kernel_rfl
theorem pfollow_ok (l b : List Int) (hl : tiny l.length) (h : placesIn l b.length) : CallOK Try.prog 121 [(false, [ints l]), (false, [ints b])] (.sv (false, [ints (thru l b)])) := by
  refine callOK_W (callS_W (by kernel_rfl) Try.func121 k_pfollow (callable_of Try.func121 (by kernel_rfl)) (by simp [c_pfollow]) ?_)
  have hl8 : l.length * 8 ≤ 140737488355328 := by simp only [tiny] at hl; omega
  have hl9 : (l.length : Int) ≤ 9223372036854775807 := by simp only [tiny] at hl; omega
  simp [c_pfollow, hl8, hl9]
  refine loopW_count 13 l.length (fun k S => S.fr 1 = .one (.t (ints b)) ∧ S.fr 5 = .one (.row (66, 0)) ∧ S.fr 11 = .one (.t (ints l)) ∧ S.fr 12 = .one (.t (.int .i64 l.length)) ∧ S.ob (66, 0) = some ⟨true, true, false, 1, l.length, 3, fillL (thru l b) k l.length⟩) hl.small ?_ ?_ ?_
  · simp [fillL_zero]
  · rintro k S hlt hw hc ⟨f1, f5, f11, f12, o0⟩
    obtain ⟨q1, q2⟩ := h _ (nth_mem hlt)
    obtain ⟨x, hx⟩ := Int.eq_ofNat_of_zero_le q1
    have hx2 : x < b.length := by omega
    have e : nth (thru l b) k = nth b x := by rw [thru_nth hlt, hx]; rfl
    have e2 := fillL_set (l := thru l b) (k := k) (n := l.length) thru_len hlt
    rw [e] at e2
    have hlt1 : k + 1 ≤ l.length := hlt
    have e3 := fillL_len (l := thru l b) (k := k) (n := l.length) thru_len (by omega)
    simp [f1, f5, f11, f12, o0, hc, hlt, hlt1, hw, drop_nth hlt, hx, hx2, drop_nth hx2, e2, e3]
  · rintro S hc ⟨f1, f5, f11, f12, o0⟩
    rw [fillL_all thru_len] at o0
    have et := fun fr => treeCell_row (fr := fr) (cnt := S.cnt) o0
    simp [f1, f5, f11, f12, o0, hc, thru_len, -treeCell, treeCell_t, et]

end Go.Proofs.Ythapbbpdcjmmfaa

/- Contracts: compositions, comparisons and copies (2). -/
namespace Go.Proofs.Ythapbbpdcjmmfaa
open Abs
set_option linter.unusedSimpArgs false
set_option linter.unusedVariables false
attribute [local simp] rn0 rn1 rn2 rn3 rn4 rn5 rn6 rn7 evOp nests Arg.ev St.val St.set St.new sliceOf binInt2 binInt AV.cells rdAt St.live retOf resOf resAll treeOf treeCell treeCells treeTups untree frameOf TV.av TR.av ints edgs prs fillV splice intsOf trees V1.tree bx Gr.v Pa.v opRd opWr opNew opNewR opArgs argsRd argRd Arg.rd AV.refs V1.refs refsL dstL


/-- One morphism after another one. -/
def thenP (m n : Pa) : Pa := ⟨thru m.nodes n.nodes, thru m.edges n.edges⟩
structure FitsP (m n : Pa) : Prop where
  fn : placesIn m.nodes n.nodes.length
  fe : placesIn m.edges n.edges.length



def c_pthen : MFunc := ⟨16, [.cell 4 true 2], .seq (.region [⟨some 2, .box 0 28 (.tmp 0), none⟩, ⟨some 3, .box 1 28 (.tmp 1), none⟩, ⟨some 4, .alloc 2 28 [.nil, .nil], none⟩]) (.seq (.draw [[], [0], [], [2], [1, 3], [], [5], [], [7], [6, 8, 4], [4, 9], [10, 9, 0, 1, 2, 3, 4, 5, 6, 7, 8, 9, 10]] [⟨some 5, .fieldA 0 (.tmp 2), none⟩, ⟨some 6, .load false 1 (.tmp 5), none⟩, ⟨some 7, .fieldA 0 (.tmp 3), none⟩, ⟨some 8, .load false 1 (.tmp 7), none⟩, ⟨some 9, .call (.c (.one (.fn 121 []))) 68 [.tmp 6, .tmp 8], none⟩, ⟨some 10, .fieldA 1 (.tmp 2), none⟩, ⟨some 11, .load false 1 (.tmp 10), none⟩, ⟨some 12, .fieldA 1 (.tmp 3), none⟩, ⟨some 13, .load false 1 (.tmp 12), none⟩, ⟨some 14, .call (.c (.one (.fn 121 []))) 73 [.tmp 11, .tmp 13], none⟩, ⟨some 15, .build [.nil, .nil] [(0, (1, .tmp 9)), (1, (1, .tmp 14))], none⟩, ⟨none, .store 2 (.tmp 4) (.tmp 15), none⟩]) .ret)⟩
theorem k_pthen : cFn Try.prog Try.f90 = some c_pthen := by kernel_rfl
theorem pthen_ok (m n : Pa) (hm : tinyP m) (h : FitsP m n) : CallOK Try.prog 90 [m.v, n.v] (.sv (thenP m n).v) := by
  refine callOK_W (callS_W (by kernel_rfl) Try.func90 k_pthen (callable_of Try.func90 (by kernel_rfl)) (by simp [c_pthen]) ?_)
  simp [c_pthen, dw0, dw1, dw2, dw3]
  refine dCall_ok (pfollow_ok m.nodes n.nodes hm.1 h.fn) ?_ ?_ ?_
  · rfl
  · rfl
  simp [dw0, dw1, dw2, dw3]
  refine dCall_ok (pfollow_ok m.edges n.edges hm.2 h.fe) ?_ ?_ ?_
  · rfl
  · rfl
  simp [dw0, dw1, dw2, dw3, thenP]
  rfl


theorem eth_eq {l : List Ed} {k : Nat} (h : k < l.length) : eth l k = l[k] := by simp [eth, h]
theorem list_ext_eth {a b : List Ed} (hl : a.length = b.length) (h : ∀ k, k < a.length → eth a k = eth b k) : a = b := by
  apply List.ext_getElem hl
  intro i h1 h2
  have := h i h1
  rwa [eth_eq h1, eth_eq h2] at this
theorem ed_eq {a b : Ed} : a = b ↔ a.t = b.t ∧ a.f = b.f ∧ a.g = b.g := by
  cases a; cases b; simp



def sameG (a b : Gr) : Bool := decide (a.nodes = b.nodes) && decide (a.edges = b.edges)
def sameP (a b : Pa) : Bool := decide (a.nodes = b.nodes) && decide (a.edges = b.edges)
theorem sameG_iff {a b : Gr} : sameG a b = true ↔ a = b := by
  cases a; cases b; simp [sameG]
theorem sameP_iff {a b : Pa} : sameP a b = true ↔ a = b := by
  cases a; cases b; simp [sameP]


def c_msame : MFunc := ⟨17, [.tmp 4], .seq (.region [⟨some 2, .box 0 28 (.tmp 0), none⟩, ⟨some 3, .box 1 28 (.tmp 1), none⟩, ⟨some 4, .mv (.c (.one (.t (.bool false)))), none⟩]) (.seq (.region [⟨some 5, .fieldA 0 (.tmp 2), none⟩, ⟨some 6, .load false 1 (.tmp 5), none⟩, ⟨some 7, .fieldA 0 (.tmp 3), none⟩, ⟨some 8, .load false 1 (.tmp 7), none⟩, ⟨some 9, .call (.c (.one (.fn 27 []))) 68 [.tmp 6, .tmp 8], none⟩, ⟨some 10, .mv (.tmp 9), none⟩, ⟨some 11, .fieldA 1 (.tmp 2), some (10, true)⟩, ⟨some 12, .load false 1 (.tmp 11), some (10, true)⟩, ⟨some 13, .fieldA 1 (.tmp 3), some (10, true)⟩, ⟨some 14, .load false 1 (.tmp 13), some (10, true)⟩, ⟨some 15, .call (.c (.one (.fn 27 []))) 74 [.tmp 12, .tmp 14], some (10, true)⟩, ⟨some 16, .pick (.tmp 10) (.tmp 15) (.c (.one (.t (.bool false)))), none⟩, ⟨some 4, .mv (.tmp 16), none⟩]) .ret)⟩
theorem k_msame : cFn Try.prog Try.f89 = some c_msame := by kernel_rfl
theorem msame_ok (a b : Pa) (ha : tinyP a) (hb : tinyP b) : CallOK Try.prog 89 [a.v, b.v] (.sv (false, [.bool (sameP a b)])) := by
  refine callOK_W (callS_W (by kernel_rfl) Try.func89 k_msame (callable_of Try.func89 (by kernel_rfl)) (by simp [c_msame]) ?_)
  simp [c_msame]
  refine callS_tree (equal_ok a.nodes b.nodes ha.1 hb.1) ?_ ?_ ?_
  · rfl
  · rfl
  by_cases h1 : a.nodes = b.nodes
  case neg => simp [h1, sameP]
  simp [h1]
  refine callS_tree (equal_ok a.edges b.edges ha.2 hb.2) ?_ ?_ ?_
  · rfl
  · rfl
  simp [h1, sameP]

end Go.Proofs.Ythapbbpdcjmmfaa

/- Contracts: copies; squares, their errors, and whether they commute. -/
namespace Go.Proofs.Ythapbbpdcjmmfaa
open Abs
set_option linter.unusedSimpArgs false
set_option linter.unusedVariables false
attribute [local simp] rn0 rn1 rn2 rn3 rn4 rn5 rn6 rn7 evOp nests Arg.ev St.val St.set St.new sliceOf binInt2 binInt AV.cells rdAt St.live retOf resOf resAll treeOf treeCell treeCells treeTups untree frameOf TV.av TR.av ints edgs prs fillV splice intsOf trees V1.tree bx Gr.v Pa.v opRd opWr opNew opNewR opArgs argsRd argRd Arg.rd AV.refs V1.refs refsL dstL

theorem plain_edL (l : List Ed) : (edL l).all C.plain = true := by
  simp only [edL, List.all_eq_true, List.mem_flatMap]
  rintro c ⟨x, _, hc⟩
  simp [edC] at hc
  rcases hc with rfl | rfl | rfl <;> rfl

def c_cloneE : MFunc := ⟨8, [.tmp 2], .seq (.region [⟨some 2, .mv (.c (.one .nil)), none⟩]) (.seq (.seq (.region [⟨some 3, .mv (.tmp 0), none⟩, ⟨some 4, .isnil false (.tmp 3), none⟩]) (.cond (.tmp 4) (.seq (.region [⟨some 2, .mv (.c (.one .nil)), none⟩]) .ret) .skip)) (.seq (.region [⟨some 5, .mkrow 192 73 3 0 [] [], none⟩, ⟨some 6, .mv (.tmp 0), none⟩, ⟨some 7, .append 194 73 3 24 (.tmp 5) (.tmp 6), none⟩, ⟨some 2, .mv (.tmp 7), none⟩]) .ret))⟩
theorem k_cloneE : cFn Try.prog Try.f122 = some c_cloneE := by kernel_rfl
theorem cloneE_row (l : List Ed) (hl : tiny l.length) : CallRow Try.prog 122 [(false, [edgs l])] 73 3 l.length (edL l) := by
  refine callRow_W (plain_edL _) (len_edL _) (by omega) (callS_W (by kernel_rfl) Try.func122 k_cloneE (callable_of Try.func122 (by kernel_rfl)) (by simp [c_cloneE]) ?_)
  simp only [tiny] at hl
  simp [c_cloneE, kNil]
  refine ⟨?_, fun h0 => by
    have : l = [] := List.eq_nil_of_length_eq_zero (by have := len_edL l; rw [h0] at this; simp at this; omega)
    subst this; simp [rowIs]⟩
  by_cases h0 : l = []
  · subst h0
    simp [kApp, evApp, rowIs, edL]
  · have hpos : 0 < l.length := List.length_pos_iff.2 h0
    refine kApp_grow (n := 0) (cs := []) (ts := edL l) (by simp) outR_nil hpos (by simp [len_edL]) (by omega) (by omega) fun E hE hob hcnt => ?_
    obtain ⟨u, hu⟩ := hE.one
    rw [hu] at hE
    simp [hu]
    simpa using hE.rowIs



def c_copied5 : MFunc := ⟨12, [.cell 2 true 2], .seq (.region [⟨some 1, .box 0 25 (.tmp 0), none⟩, ⟨some 2, .alloc 1 25 [.nil, .nil], none⟩]) (.seq (.draw [[], [], [1], [0, 2], [], [], [5], [4, 6, 3], [3, 7], [8, 7, 0, 1, 2, 3, 4, 5, 6, 7, 8]] [⟨some 3, .mkrow 64 3 1 0 [] [], none⟩, ⟨some 4, .fieldA 0 (.tmp 1), none⟩, ⟨some 5, .load false 1 (.tmp 4), none⟩, ⟨some 6, .append 67 3 1 8 (.tmp 3) (.tmp 5), none⟩, ⟨some 7, .mkrow 68 73 3 0 [] [], none⟩, ⟨some 8, .fieldA 1 (.tmp 1), none⟩, ⟨some 9, .load false 1 (.tmp 8), none⟩, ⟨some 10, .append 71 73 3 24 (.tmp 7) (.tmp 9), none⟩, ⟨some 11, .build [.nil, .nil] [(0, (1, .tmp 6)), (1, (1, .tmp 10))], none⟩, ⟨none, .store 2 (.tmp 2) (.tmp 11), none⟩]) .ret)⟩
theorem k_copied5 : cFn Try.prog Try.f78 = some c_copied5 := by kernel_rfl
theorem copied5_ok (g : Gr) (h : tinyG g) : CallOK Try.prog 78 [g.v] (.sv g.v) := by
  refine callOK_W (callS_W (by kernel_rfl) Try.func78 k_copied5 (callable_of Try.func78 (by kernel_rfl)) (by simp [c_copied5]) ?_)
  have h1 := h.1
  have h2 := h.2
  simp only [tiny] at h1 h2
  simp [c_copied5, dw0, dw1, dw2, dw3]
  refine kApp_nil (ts := g.nodes.map (.int .i64)) (by simp) (by simp) (by omega) (by omega) ?_
  by_cases e1 : g.nodes.length = 0 <;> by_cases e2 : g.edges.length = 0
  · have n1 : g.nodes = [] := List.eq_nil_of_length_eq_zero e1
    have n2 : g.edges = [] := List.eq_nil_of_length_eq_zero e2
    simp [dw0, dw1, dw2, dw3, rowEff, n1, n2]
    refine kApp_nil (ts := []) rfl rfl (by omega) (by omega) ?_
    simp [dw0, dw1, dw2, dw3, rowEff, n1, n2, edL]
    rfl
  · have n1 : g.nodes = [] := List.eq_nil_of_length_eq_zero e1
    simp [dw0, dw1, dw2, dw3, rowEff, n1]
    refine kApp_nil (ts := edL g.edges) (by simp) (len_edL _) (by omega) (by omega) ?_
    simp [dw0, dw1, dw2, dw3, rowEff, e2, untreeT]
    rfl
  · have n2 : g.edges = [] := List.eq_nil_of_length_eq_zero e2
    have n1 : ¬ g.nodes = [] := fun h => e1 (by rw [h]; rfl)
    simp [dw0, dw1, dw2, dw3, rowEff, n1, n2]
    refine kApp_nil (ts := []) rfl rfl (by omega) (by omega) ?_
    simp [dw0, dw1, dw2, dw3, rowEff, n1, n2, edL, untreeT, untreeI]
    rfl
  · have n1 : ¬ g.nodes = [] := fun h => e1 (by rw [h]; rfl)
    simp [dw0, dw1, dw2, dw3, rowEff, n1]
    refine kApp_nil (ts := edL g.edges) (by simp) (len_edL _) (by omega) (by omega) ?_
    simp [dw0, dw1, dw2, dw3, rowEff, e2, untreeT, untreeI]
    rfl

/-! ### Squares -/
structure Sq where
  A : Gr
  B : Gr
  C : Gr
  D : Gr
  F : Pa
  G : Pa
  H : Pa
  K : Pa
def Sq.cs (s : Sq) : List Abs.C := [ints s.A.nodes, edgs s.A.edges, ints s.B.nodes, edgs s.B.edges, ints s.C.nodes, edgs s.C.edges, ints s.D.nodes, edgs s.D.edges,
  ints s.F.nodes, ints s.F.edges, ints s.G.nodes, ints s.G.edges, ints s.H.nodes, ints s.H.edges, ints s.K.nodes, ints s.K.edges]
def Sq.v (s : Sq) : TV := (true, s.cs)
structure TinySq (s : Sq) : Prop where
  A : tinyG s.A
  B : tinyG s.B
  C : tinyG s.C
  D : tinyG s.D
  F : tinyP s.F
  G : tinyP s.G
  H : tinyP s.H
  K : tinyP s.K

/-- The error of a square. -/
def sqErr (s : Sq) : Int :=
  if morErr s.A s.B s.F = 0 then if morErr s.A s.C s.G = 0 then if morErr s.B s.D s.H = 0 then morErr s.C s.D s.K else morErr s.B s.D s.H else morErr s.A s.C s.G else morErr s.A s.B s.F



structure SqOk (s : Sq) : Prop where
  F : MorOk s.A s.B s.F
  G : MorOk s.A s.C s.G
  H : MorOk s.B s.D s.H
  K : MorOk s.C s.D s.K
theorem sqErr_ok {s : Sq} (h : sqErr s = 0) : SqOk s := by
  unfold sqErr at h
  split at h
  · split at h
    · split at h
      · exact ⟨mor_ok (by assumption), mor_ok (by assumption), mor_ok (by assumption), mor_ok h⟩
      · exact absurd h (by assumption)
    · exact absurd h (by assumption)
  · exact absurd h (by assumption)
theorem MorOk.fits {a b c : Gr} {m n : Pa} (h : MorOk a b m) (k : MorOk b c n) : FitsP m n :=
  ⟨fun x hx => by rw [k.ln]; exact h.rn x hx, fun x hx => by rw [k.le]; exact h.re x hx⟩
theorem thenP_tiny {m n : Pa} (h : tinyP m) : tinyP (thenP m n) := ⟨by simp only [thenP, thru_len]; exact h.1, by simp only [thenP, thru_len]; exact h.2⟩

/-- Does it commute? -/
def commB (s : Sq) : Bool := sameP (thenP s.F s.H) (thenP s.G s.K)



/-- Whether it commutes, or an error. -/
def commR (s : Sq) : Bool × Int := if sqErr s = 0 then (commB s, 0) else (false, sqErr s)


end Go.Proofs.Ythapbbpdcjmmfaa

/- Contracts: pairs of places with equal numbers, and where a pair is. -/
namespace Go.Proofs.Ythapbbpdcjmmfaa
open Abs
set_option linter.unusedSimpArgs false
set_option linter.unusedVariables false

theorem pth_eq' {l : List (Int × Int)} {k : Nat} (h : k < l.length) : pth l k = l[k] := by simp [pth, h]
theorem pth_mem {l : List (Int × Int)} {k : Nat} (h : k < l.length) : pth l k ∈ l := by rw [pth_eq' h]; exact List.getElem_mem h
theorem mem_pth {l : List (Int × Int)} {n : Int × Int} (h : n ∈ l) : ∃ k, k < l.length ∧ pth l k = n := by
  obtain ⟨k, hk, rfl⟩ := List.mem_iff_getElem.1 h
  exact ⟨k, hk, pth_eq' hk⟩
theorem take_succ_pth {l : List (Int × Int)} {k : Nat} (h : k < l.length) : l.take (k + 1) = l.take k ++ [pth l k] := by
  rw [List.take_succ_eq_append_getElem h, pth_eq' h]

/-- Where a pair is, or -1. -/
def idxP (l : List (Int × Int)) (q : Int × Int) : Int := if q ∈ l then (l.idxOf q : Nat) else -1
theorem idxP_at {l : List (Int × Int)} {n : Int × Int} {k : Nat} (hk : k < l.length) (hn : n ∉ l.take k) (he : pth l k = n) : idxP l n = k := by
  have hm : n ∈ l := he ▸ pth_mem hk
  simp only [idxP, if_pos hm]
  rw [pth_eq' hk] at he
  have h : l.idxOf n = k := by
    have e : l = l.take k ++ l[k] :: l.drop (k + 1) := by simp
    rw [e, List.idxOf_append, if_neg hn, he]
    simp [List.length_take]
    omega
  rw [h]
theorem take_pth {l : List (Int × Int)} {k : Nat} {n : Int × Int} (h : k < l.length) (hn : n ∉ l.take k) (hk : pth l k ≠ n) : n ∉ l.take (k + 1) := by
  rw [take_succ_pth h, List.mem_append]
  rintro (h1 | h1)
  · exact hn h1
  · simp at h1
    exact hk h1.symm
theorem idxP_none {l : List (Int × Int)} {q : Int × Int} (h : q ∉ l) : idxP l q = -1 := by simp [idxP, h]
theorem idxP_pos {l : List (Int × Int)} {q : Int × Int} : 0 ≤ idxP l q ↔ q ∈ l := by
  by_cases h : q ∈ l <;> simp [idxP, h]
theorem idxP_lt {l : List (Int × Int)} {q : Int × Int} (h : q ∈ l) : idxP l q < l.length := by
  simp only [idxP, if_pos h]
  have := List.idxOf_lt_length_of_mem h
  omega
theorem idxP_get {l : List (Int × Int)} {q : Int × Int} (h : q ∈ l) : pth l (idxP l q).toNat = q := by
  have := List.idxOf_lt_length_of_mem h
  simp only [idxP, if_pos h, Int.toNat_natCast]
  rw [pth_eq' this]
  simp



theorem sides_at {p q : List Int} {k : Nat} (h1 : k < p.length) (h2 : p.length = q.length) : pth (p.zip q) k = (nth p k, nth q k) := by
  rw [pth_eq' (by simp; omega), nth_eq h1, nth_eq (by omega)]
  simp


/-- The pairs of places with equal numbers. -/
def pbF (f g : List Int) (i k : Nat) : Option (Int × Int) := if nth f i = nth g k then some ((i : Int), (k : Int)) else none
def pbP (f g : List Int) : List (Int × Int) := gather (fun i => collect (pbF f g i) g.length) f.length
theorem pbP_len {f g : List Int} {a b : Nat} (h1 : f.length ≤ a) (h2 : g.length ≤ b) : (pbP f g).length ≤ a * b := by
  have := gather_len (f := fun i => collect (pbF f g i) g.length) (m := g.length) (fun j => collect_len) f.length
  have g2 : f.length * g.length ≤ a * b := Nat.mul_le_mul h1 h2
  simp only [pbP]
  omega
theorem mem_pbP {f g : List Int} {q : Int × Int} : q ∈ pbP f g ↔ ∃ i k : Nat, i < f.length ∧ k < g.length ∧ nth f i = nth g k ∧ q = ((i : Int), (k : Int)) := by
  simp only [pbP, mem_gather, mem_collect, pbF]
  constructor
  · rintro ⟨i, hi, k, hk, h⟩
    split at h
    · injection h with h
      exact ⟨i, k, hi, hk, by assumption, h.symm⟩
    · cases h
  · rintro ⟨i, k, hi, hk, h, rfl⟩
    exact ⟨i, hi, k, hk, by rw [if_pos h]⟩

end Go.Proofs.Ythapbbpdcjmmfaa

/- Contracts: pairs of places (2), their sides, the errors of a cospan. -/
namespace Go.Proofs.Ythapbbpdcjmmfaa
open Abs
set_option linter.unusedSimpArgs false
set_option linter.unusedVariables false

theorem take_grow {α : Type} {M : List α} {x : α} {n : Nat} (h : (M.take (n + 1)).length ≤ n) : (M ++ [x]).take (n + 1) = M.take (n + 1) ++ [x] := by
  rw [List.length_take] at h
  rw [List.take_of_length_le (l := M) (by omega), List.take_of_length_le (by simp; omega)]
theorem take_full {α : Type} {M : List α} {x : α} {n : Nat} (h : ¬ (M.take (n + 1)).length ≤ n) : (M ++ [x]).take (n + 1) = M.take (n + 1) := by
  rw [List.length_take] at h
  rw [List.take_append_of_le_length (by omega)]

def pbT (f g : List Int) (n k j : Nat) : List (Int × Int) := (gather (fun i => collect (pbF f g i) g.length) k ++ collect (pbF f g k) j).take (n + 1)
def pbO (f g : List Int) (n k : Nat) : List (Int × Int) := (gather (fun i => collect (pbF f g i) g.length) k).take (n + 1)
theorem pbT_zero {f g : List Int} {n k : Nat} : pbT f g n k 0 = pbO f g n k := by simp [pbT, pbO, collect_zero]
theorem pbT_all {f g : List Int} {n k : Nat} : pbT f g n k g.length = pbO f g n (k + 1) := by simp [pbT, pbO, gather_succ]
theorem pbO_zero {f g : List Int} {n : Nat} : pbO f g n 0 = [] := by simp [pbO, gather_zero]
theorem pbO_all {f g : List Int} {n : Nat} : pbO f g n f.length = (pbP f g).take (n + 1) := rfl
theorem pbT_len {f g : List Int} {n k j : Nat} : (pbT f g n k j).length ≤ n + 1 := by simp only [pbT, List.length_take]; omega
theorem pbT_none {f g : List Int} {n k j : Nat} (h : ¬ nth f k = nth g j) : pbT f g n k (j + 1) = pbT f g n k j := by
  have e : pbF f g k j = none := by simp [pbF, h]
  simp only [pbT, collect_none e]
theorem pbT_grow {f g : List Int} {n k j : Nat} (h : nth f k = nth g j) (hl : (pbT f g n k j).length ≤ n) : pbT f g n k (j + 1) = pbT f g n k j ++ [((k : Int), (j : Int))] := by
  have e : pbF f g k j = some ((k : Int), (j : Int)) := by simp [pbF, h]
  simp only [pbT, collect_some e, ← List.append_assoc]
  exact take_grow hl
theorem pbT_full {f g : List Int} {n k j : Nat} (hl : ¬ (pbT f g n k j).length ≤ n) : pbT f g n k (j + 1) = pbT f g n k j := by
  by_cases h : nth f k = nth g j
  · have e : pbF f g k j = some ((k : Int), (j : Int)) := by simp [pbF, h]
    simp only [pbT, collect_some e, ← List.append_assoc]
    exact take_full hl
  · exact pbT_none h


def fstL (l : List (Int × Int)) : List Int := l.map (·.1)
def sndL (l : List (Int × Int)) : List Int := l.map (·.2)
theorem fstL_take {l : List (Int × Int)} {k : Nat} (h : k < l.length) : fstL (l.take (k + 1)) = fstL (l.take k) ++ [(pth l k).1] := by rw [take_succ_pth h]; simp [fstL]
theorem sndL_take {l : List (Int × Int)} {k : Nat} (h : k < l.length) : sndL (l.take (k + 1)) = sndL (l.take k) ++ [(pth l k).2] := by rw [take_succ_pth h]; simp [sndL]
theorem fstL_len {l : List (Int × Int)} : (fstL l).length = l.length := by simp [fstL]
theorem sndL_len {l : List (Int × Int)} : (sndL l).length = l.length := by simp [sndL]
theorem zip_sides {l : List (Int × Int)} : (fstL l).zip (sndL l) = l := by
  induction l with
  | nil => rfl
  | cons a r ih => simp only [fstL, sndL, List.map_cons, List.zip_cons_cons] at ih ⊢; rw [ih]

theorem Abs.outR.tree {nm typ n : Nat} {l : List Int} {ob : Nm → Option Ob} {u : V1} (h : outR nm typ 1 n (l.map (.int .i64)) ob (.one u)) (hn : n = l.length) (fr : Nat → AV) (cnt : Nat → Nat) : treeCell ⟨fr, ob, cnt⟩ u = some (ints l) := by
  subst hn
  rcases h with ⟨h1, h2, h3⟩ | ⟨h1, g, h3, h4⟩
  · have : l = [] := List.eq_nil_of_length_eq_zero h1
    subst this
    cases h3
    rfl
  · cases h3
    exact treeCell_row h4

end Go.Proofs.Ythapbbpdcjmmfaa

/- Contracts: the program's sides of pairs; the errors of a cospan. -/
namespace Go.Proofs.Ythapbbpdcjmmfaa
open Abs
set_option linter.unusedSimpArgs false
set_option linter.unusedVariables false


theorem Abs.outR.treeC {nm typ esz n : Nat} {cs : List Abs.C} {ob : Nm → Option Ob} {u : V1} (h : outR nm typ esz n cs ob (.one u)) (fr : Nat → AV) (cnt : Nat → Nat) : treeCell ⟨fr, ob, cnt⟩ u = some (.sl n cs) := by
  rcases h with ⟨rfl, rfl, h3⟩ | ⟨h1, g, h3, h4⟩
  · cases h3
    rfl
  · cases h3
    exact treeCell_row h4

/-! ### Cospans -/
structure Co where
  B : Gr
  C : Gr
  D : Gr
  F : Pa
  G : Pa
def Co.cs (s : Co) : List Abs.C := [ints s.B.nodes, edgs s.B.edges, ints s.C.nodes, edgs s.C.edges, ints s.D.nodes, edgs s.D.edges, ints s.F.nodes, ints s.F.edges, ints s.G.nodes, ints s.G.edges]
def Co.v (s : Co) : TV := (true, s.cs)
structure TinyCo (s : Co) : Prop where
  B : tinyG s.B
  C : tinyG s.C
  D : tinyG s.D
  F : tinyP s.F
  G : tinyP s.G
/-- The error of a cospan. -/
def coErr (s : Co) : Int := if morErr s.B s.D s.F = 0 then morErr s.C s.D s.G else morErr s.B s.D s.F
structure CoOk (s : Co) : Prop where
  F : MorOk s.B s.D s.F
  G : MorOk s.C s.D s.G
theorem coErr_ok {s : Co} (h : coErr s = 0) : CoOk s := by
  unfold coErr at h
  split at h
  · exact ⟨mor_ok (by assumption), mor_ok h⟩
  · exact absurd h (by assumption)



/-! ### The standard pullback -/
def pbNs (s : Co) : List (Int × Int) := pbP s.F.nodes s.G.nodes
def pbEs (s : Co) : List (Int × Int) := pbP s.F.edges s.G.edges
def pbNode (s : Co) (q : Int × Int) : Int := nth s.B.nodes q.1.toNat
def pbEdge (s : Co) (q : Int × Int) : Ed := ⟨(eth s.B.edges q.1.toNat).t, idxP (pbNs s) ((eth s.B.edges q.1.toNat).f, (eth s.C.edges q.2.toNat).f), idxP (pbNs s) ((eth s.B.edges q.1.toNat).g, (eth s.C.edges q.2.toNat).g)⟩
def pbG (s : Co) : Gr := ⟨(pbNs s).map (pbNode s), (pbEs s).map (pbEdge s)⟩
def pbBig (s : Co) : Prop := 40 < (pbNs s).length ∨ 80 < (pbEs s).length
instance (s : Co) : Decidable (pbBig s) := inferInstanceAs (Decidable (_ ∨ _))
/-- The pullback's error. -/
def pbErr (s : Co) : Int := if coErr s = 0 then if pbBig s then 3 else 0 else coErr s
/-- The pairs and the graph, or nothing. -/
def pbQ (s : Co) : List (Int × Int) × List (Int × Int) × Gr := if pbErr s = 0 then (pbNs s, pbEs s, pbG s) else ([], [], ⟨[], []⟩)
def pbQv (s : Co) : TV := (true, [prs (pbQ s).1, prs (pbQ s).2.1, ints (pbQ s).2.2.nodes, edgs (pbQ s).2.2.edges])

theorem map_take_pth {β : Type} {l : List (Int × Int)} {k : Nat} (f : Int × Int → β) (h : k < l.length) : (l.take (k + 1)).map f = (l.take k).map f ++ [f (pth l k)] := by
  rw [take_succ_pth h]
  simp
def mapP {β : Type} (f : Int × Int → β) (l : List (Int × Int)) (k : Nat) : List β := (l.take k).map f
theorem mapP_zero {β : Type} {f : Int × Int → β} {l : List (Int × Int)} : mapP f l 0 = [] := rfl
theorem mapP_succ {β : Type} {f : Int × Int → β} {l : List (Int × Int)} {k : Nat} (h : k < l.length) : mapP f l (k + 1) = mapP f l k ++ [f (pth l k)] := map_take_pth f h
theorem mapP_all {β : Type} {f : Int × Int → β} {l : List (Int × Int)} : mapP f l l.length = l.map f := by simp [mapP]
theorem mapP_len {β : Type} {f : Int × Int → β} {l : List (Int × Int)} {k : Nat} : (mapP f l k).length ≤ l.length := by simp [mapP]; omega
theorem pbNs_at {s : Co} (h : CoOk s) {q : Int × Int} (hq : q ∈ pbNs s) : ∃ i k : Nat, i < s.B.nodes.length ∧ k < s.C.nodes.length ∧ q = ((i : Int), (k : Int)) := by
  obtain ⟨i, k, h1, h2, h3, rfl⟩ := mem_pbP.1 hq
  have := h.F.ln
  have := h.G.ln
  exact ⟨i, k, by omega, by omega, rfl⟩
theorem pbEs_at {s : Co} (h : CoOk s) {q : Int × Int} (hq : q ∈ pbEs s) : ∃ i k : Nat, i < s.B.edges.length ∧ k < s.C.edges.length ∧ q = ((i : Int), (k : Int)) := by
  obtain ⟨i, k, h1, h2, h3, rfl⟩ := mem_pbP.1 hq
  have := h.F.le
  have := h.G.le
  exact ⟨i, k, by omega, by omega, rfl⟩
end Go.Proofs.Ythapbbpdcjmmfaa

/- Contract: the program's standard pullback. -/
namespace Go.Proofs.Ythapbbpdcjmmfaa
open Abs
set_option linter.unusedSimpArgs false
set_option linter.unusedVariables false

end Go.Proofs.Ythapbbpdcjmmfaa

/- Contracts: the standard pullback with its sides; where pairs meet. -/
namespace Go.Proofs.Ythapbbpdcjmmfaa
open Abs
set_option linter.unusedSimpArgs false
set_option linter.unusedVariables false

/-- The standard pullback with its sides, or an error. -/
def pbR (s : Co) : Gr × Pa × Pa × Int := if pbErr s = 0 then (pbG s, ⟨fstL (pbNs s), fstL (pbEs s)⟩, ⟨sndL (pbNs s), sndL (pbEs s)⟩, 0) else (⟨[], []⟩, ⟨[], []⟩, ⟨[], []⟩, pbErr s)
def pbRt (s : Co) : TR := .tup [(pbR s).1.v, (pbR s).2.1.v, (pbR s).2.2.1.v, (false, [.int .i64 (pbR s).2.2.2])]
theorem pbErr_few {s : Co} (h : pbErr s = 0) : CoOk s ∧ (pbNs s).length ≤ 40 ∧ (pbEs s).length ≤ 80 := by
  unfold pbErr at h
  split at h
  · rename_i h1
    split at h
    · cases h
    · rename_i h2
      simp only [pbBig] at h2
      exact ⟨coErr_ok h1, by omega, by omega⟩
  · rename_i h1
    exact absurd h h1


/-- The places of pairs, or not all are there. -/
def meetL (l : List (Int × Int)) (h k : List Int) (n : Nat) : List Int := (List.range n).map fun i => idxP l (nth h i, nth k i)
def meetAll (l : List (Int × Int)) (h k : List Int) (n : Nat) : Prop := ∀ i, i < n → (nth h i, nth k i) ∈ l
instance (l : List (Int × Int)) (h k : List Int) (n : Nat) : Decidable (meetAll l h k n) := inferInstanceAs (Decidable (∀ i, i < n → _))
def meetR (l : List (Int × Int)) (h k : List Int) : List Int × Bool := if meetAll l h k h.length then (meetL l h k h.length, true) else ([], false)
theorem meetL_succ {l : List (Int × Int)} {h k : List Int} {n : Nat} : meetL l h k (n + 1) = meetL l h k n ++ [idxP l (nth h n, nth k n)] := by simp [meetL, List.range_succ]
theorem meetL_len {l : List (Int × Int)} {h k : List Int} {n : Nat} : (meetL l h k n).length = n := by simp [meetL]

end Go.Proofs.Ythapbbpdcjmmfaa

/- Contract: the specified pullback. -/
namespace Go.Proofs.Ythapbbpdcjmmfaa
open Abs
set_option linter.unusedSimpArgs false
set_option linter.unusedVariables false

theorem take_few {α : Type} {l : List α} {n : Nat} (h : l.length ≤ n) : l.take (n + 1) = l := List.take_of_length_le (by omega)

end Go.Proofs.Ythapbbpdcjmmfaa

/- Contracts: mediating morphisms into pullbacks. -/
namespace Go.Proofs.Ythapbbpdcjmmfaa
open Abs
set_option linter.unusedSimpArgs false
set_option linter.unusedVariables false

theorem thru_eq {a b f g : List Int} {n : Nat} (ha : a.length = n) (hb : b.length = n) : thru a f = thru b g ↔ ∀ i, i < n → nth f (nth a i).toNat = nth g (nth b i).toNat := by
  constructor
  · intro h i hi
    rw [← thru_nth (b := f) (by omega), ← thru_nth (b := g) (by omega), h]
  · intro h
    refine list_ext_nth (by rw [thru_len, thru_len]; omega) fun i hi => ?_
    rw [thru_len] at hi
    rw [thru_nth (by omega), thru_nth (by omega)]
    exact h i (by omega)

theorem meet_iff {f g a b : List Int} {n : Nat} (ha : ∀ i, i < n → 0 ≤ nth a i ∧ nth a i < f.length) (hb : ∀ i, i < n → 0 ≤ nth b i ∧ nth b i < g.length) :
    meetAll (pbP f g) a b n ↔ ∀ i, i < n → nth f (nth a i).toNat = nth g (nth b i).toNat := by
  refine forall_congr' fun i => forall_congr' fun hi => ?_
  obtain ⟨a1, a2⟩ := ha i hi
  obtain ⟨b1, b2⟩ := hb i hi
  obtain ⟨x, hx⟩ := Int.eq_ofNat_of_zero_le a1
  obtain ⟨y, hy⟩ := Int.eq_ofNat_of_zero_le b1
  rw [hx, hy, mem_pbP]
  constructor
  · rintro ⟨i', k', h1, h2, h3, h4⟩
    have := (Prod.mk.inj h4)
    have e1 : x = i' := by omega
    have e2 : y = k' := by omega
    subst e1 e2
    exact h3
  · intro h
    exact ⟨x, y, by omega, by omega, h, rfl⟩

/-- The mediating morphism of a cone, or an error. -/
def medC (s : Co) (h k : Pa) : Pa := ⟨meetL (pbNs s) h.nodes k.nodes h.nodes.length, meetL (pbEs s) h.edges k.edges h.edges.length⟩
def medE (s : Co) (x : Gr) (h k : Pa) : Int :=
  if pbErr s = 0 then if morErr x s.B h = 0 then if morErr x s.C k = 0 then if sameP (thenP h s.F) (thenP k s.G) = true then 0 else 11 else morErr x s.C k else morErr x s.B h else pbErr s
def medR (s : Co) (x : Gr) (h k : Pa) : Pa × Int := if medE s x h k = 0 then (medC s h k, 0) else (⟨[], []⟩, medE s x h k)
def medT (s : Co) (x : Gr) (h k : Pa) : TR := .tup [(medR s x h k).1.v, (false, [.int .i64 (medR s x h k).2])]

theorem med_iff {s : Co} {x : Gr} {h k : Pa} (ok : CoOk s) (h1 : MorOk x s.B h) (h2 : MorOk x s.C k) :
    sameP (thenP h s.F) (thenP k s.G) = true ↔ meetAll (pbNs s) h.nodes k.nodes h.nodes.length ∧ meetAll (pbEs s) h.edges k.edges h.edges.length := by
  rw [sameP_iff]
  have l1 := h1.ln
  have l2 := h2.ln
  have l3 := h1.le
  have l4 := h2.le
  have l5 := ok.F.ln
  have l6 := ok.G.ln
  have l7 := ok.F.le
  have l8 := ok.G.le
  rw [pbNs, pbEs, meet_iff (fun i hi => ?_) (fun i hi => ?_), meet_iff (fun i hi => ?_) (fun i hi => ?_), ← thru_eq (n := h.nodes.length) rfl (by omega), ← thru_eq (n := h.edges.length) rfl (by omega)]
  · simp only [thenP, Pa.mk.injEq]
  · have := h1.e i (by omega)
    exact ⟨this.1, by omega⟩
  · have := h2.e i (by omega)
    exact ⟨this.1, by omega⟩
  · have := h1.n i (by omega)
    exact ⟨this.1, by omega⟩
  · have := h2.n i (by omega)
    exact ⟨this.1, by omega⟩


end Go.Proofs.Ythapbbpdcjmmfaa

/- Contracts: how many images there are; injective and surjective morphisms. -/
namespace Go.Proofs.Ythapbbpdcjmmfaa
open Abs
set_option linter.unusedSimpArgs false
set_option linter.unusedVariables false
attribute [local simp] rn0 rn1 rn2 rn3 rn4 rn5 rn6 rn7 evOp nests Arg.ev St.val St.set St.new sliceOf binInt2 binInt AV.cells rdAt St.live retOf resOf resAll treeOf treeCell treeCells treeTups untree frameOf TV.av TR.av ints edgs prs fillV splice intsOf trees V1.tree bx Gr.v Pa.v opRd opWr opNew opNewR opArgs argsRd argRd Arg.rd AV.refs V1.refs refsL dstL

theorem dedup (l : List Int) : ∃ d : List Int, d.Nodup ∧ (∀ x, x ∈ d ↔ x ∈ l) ∧ d.length ≤ l.length ∧ (d.length = l.length → l.Nodup) := by
  induction l with
  | nil => exact ⟨[], by simp, by simp, by simp, by simp⟩
  | cons a r ih =>
    obtain ⟨d, h1, h2, h3, h4⟩ := ih
    by_cases ha : a ∈ r
    · refine ⟨d, h1, fun x => ?_, by simp; omega, fun h => by simp at h; omega⟩
      rw [h2, List.mem_cons]
      constructor
      · exact .inr
      · rintro (rfl | h)
        · exact ha
        · exact h
    · refine ⟨a :: d, List.nodup_cons.2 ⟨fun h => ha ((h2 a).1 h), h1⟩, fun x => by rw [List.mem_cons, List.mem_cons, h2], by simp; omega, fun h => List.nodup_cons.2 ⟨ha, h4 (by simp at h; omega)⟩⟩

theorem canon_nodup {n : Nat} {l : List Int} : (canon n l).Nodup := canon_asc.imp fun h => by omega

theorem canon_len_nodup {n : Nat} {l : List Int} (hr : ∀ x ∈ l, 0 ≤ x ∧ x < n) : (canon n l).length = l.length ↔ l.Nodup := by
  obtain ⟨d, h1, h2, h3, h4⟩ := dedup l
  have e : (canon n l).length = d.length := List.Perm.length_eq ((List.perm_ext_iff_of_nodup canon_nodup h1).2 fun x => by
    rw [mem_canon, h2]
    exact ⟨fun h => h.2.2, fun h => ⟨(hr x h).1, (hr x h).2, h⟩⟩)
  constructor
  · intro h
    exact h4 (by omega)
  · intro h
    exact List.Perm.length_eq ((List.perm_ext_iff_of_nodup canon_nodup h).2 fun x => by
      rw [mem_canon]
      exact ⟨fun h => h.2.2, fun h => ⟨(hr x h).1, (hr x h).2, h⟩⟩)

theorem collect_all {α : Type} {f : Nat → Option α} : ∀ {n : Nat}, (collect f n).length = n ↔ ∀ k, k < n → (f k).isSome = true
  | 0 => by simp [collect]
  | n + 1 => by
    have ih := collect_all (f := f) (n := n)
    have hl := collect_len (f := f) (k := n)
    cases h : f n with
    | none =>
      rw [collect_none h]
      constructor
      · intro e; omega
      · intro e
        have := e n (by omega)
        rw [h] at this
        cases this
    | some x =>
      rw [collect_some h, List.length_append]
      constructor
      · intro e k hk
        by_cases hkn : k = n
        · subst hkn; rw [h]; rfl
        · exact ih.1 (by simp at e; omega) k (by omega)
      · intro e
        have := ih.2 fun k hk => e k (by omega)
        simp
        omega

theorem canon_len_cov {n : Nat} {l : List Int} : (canon n l).length = n ↔ ∀ k : Nat, k < n → (k : Int) ∈ l := by
  rw [canon, collect_all]
  refine forall_congr' fun k => forall_congr' fun hk => ?_
  simp only [canonF]
  split
  · exact ⟨fun _ => by assumption, fun _ => rfl⟩
  · rename_i h
    exact ⟨fun h' => (by cases h'), fun h' => absurd h' h⟩

def c_images : MFunc := ⟨11, [.tmp 2], .seq (.region [⟨some 2, .mv (.c (.one (.t (.int .i64 0)))), none⟩]) (.seq (.region [⟨some 4, .mv (.tmp 0), none⟩, ⟨some 5, .call (.c (.one (.fn 45 []))) 65 [.tmp 4], none⟩, ⟨some 3, .mv (.tmp 5), none⟩]) (.seq (.region [⟨some 6, .mv (.tmp 3), none⟩, ⟨some 7, .call (.c (.one (.fn 52 []))) 129 [.tmp 6], none⟩]) (.seq (.region [⟨some 8, .mv (.tmp 3), none⟩, ⟨some 9, .call (.c (.one (.fn 53 []))) 193 [.tmp 8], none⟩, ⟨some 10, .len (.tmp 9), none⟩, ⟨some 2, .mv (.tmp 10), none⟩]) .ret)))⟩
theorem k_images : cFn Try.prog Try.f95 = some c_images := by kernel_rfl
theorem images_ok (n : Nat) (l : List Int) (hl : tiny l.length) (hr : ∀ x ∈ l, 0 ≤ x ∧ x < n) : CallOK Try.prog 95 [(false, [ints l])] (.sv (false, [.int .i64 (canon n l).length])) := by
  refine callOK_W (callS_W (by kernel_rfl) Try.func95 k_images (callable_of Try.func95 (by kernel_rfl)) (by simp [c_images]) ?_)
  simp only [tiny] at hl
  simp [c_images]
  refine callS_rowL 65 (clone_row l hl) rfl fun v ob cnt ho hob hcnt => ?_
  simp
  refine callS_sortL sortSaid ho (by omega) fun ob1 ho1 hob1 => ?_
  simp
  refine callS_compactL compSaid ho1 (by simp only [List.length_mergeSort]; omega) fun ob2 hob2 => ?_
  rw [compact_sort_eq hr]
  simp

/-- Is a morphism injective? -/
def injB (a b : Gr) (m : Pa) : Bool := decide (morErr a b m = 0) && decide m.nodes.Nodup && decide m.edges.Nodup
/-- Is a morphism surjective? -/
def covB (l : List Int) (n : Nat) : Bool := decide (∀ k : Nat, k < n → (k : Int) ∈ l)
def surjB (a b : Gr) (m : Pa) : Bool := decide (morErr a b m = 0) && covB m.nodes b.nodes.length && covB m.edges b.edges.length

def c_injX : MFunc := ⟨30, [.tmp 6], .seq (.region [⟨some 3, .box 0 25 (.tmp 0), none⟩, ⟨some 4, .box 1 25 (.tmp 1), none⟩, ⟨some 5, .box 2 28 (.tmp 2), none⟩, ⟨some 6, .mv (.c (.one (.t (.bool false)))), none⟩]) (.seq (.draw [[], [], [], [0, 1, 2], [3], [4, 3], [5], [6, 5], [7, 5, 5], [5], [9, 5], [10, 5], [8, 11, 5], [5, 12], [13, 8], [14], [15, 14], [16, 14, 14], [14], [18, 14], [19, 14], [17, 20, 14], [14, 21], [22, 17, 0, 1, 2, 3, 4, 5, 6, 7, 8, 9, 10, 11, 12, 13, 14, 15, 16, 17, 18, 19, 20, 21, 22]] [⟨some 7, .load true 2 (.tmp 3), none⟩, ⟨some 8, .load true 2 (.tmp 4), none⟩, ⟨some 9, .load true 2 (.tmp 5), none⟩, ⟨some 10, .call (.c (.one (.fn 69 []))) 67 [.tmp 7, .tmp 8, .tmp 9], none⟩, ⟨some 11, .bin .eql (.tmp 10) (.c (.one (.t (.int .i64 0)))), none⟩, ⟨some 12, .mv (.tmp 11), none⟩, ⟨some 13, .fieldA 0 (.tmp 5), some (12, true)⟩, ⟨some 14, .load false 1 (.tmp 13), some (12, true)⟩, ⟨some 15, .call (.c (.one (.fn 95 []))) 72 [.tmp 14], some (12, true)⟩, ⟨some 16, .fieldA 0 (.tmp 5), some (12, true)⟩, ⟨some 17, .load false 1 (.tmp 16), some (12, true)⟩, ⟨some 18, .len (.tmp 17), some (12, true)⟩, ⟨some 19, .bin .eql (.tmp 15) (.tmp 18), some (12, true)⟩, ⟨some 20, .pick (.tmp 12) (.tmp 19) (.c (.one (.t (.bool false)))), none⟩, ⟨some 21, .mv (.tmp 20), none⟩, ⟨some 22, .fieldA 1 (.tmp 5), some (21, true)⟩, ⟨some 23, .load false 1 (.tmp 22), some (21, true)⟩, ⟨some 24, .call (.c (.one (.fn 95 []))) 81 [.tmp 23], some (21, true)⟩, ⟨some 25, .fieldA 1 (.tmp 5), some (21, true)⟩, ⟨some 26, .load false 1 (.tmp 25), some (21, true)⟩, ⟨some 27, .len (.tmp 26), some (21, true)⟩, ⟨some 28, .bin .eql (.tmp 24) (.tmp 27), some (21, true)⟩, ⟨some 29, .pick (.tmp 21) (.tmp 28) (.c (.one (.t (.bool false)))), none⟩, ⟨some 6, .mv (.tmp 29), none⟩]) .ret)⟩
theorem k_injX : cFn Try.prog Try.f67 = some c_injX := by kernel_rfl
theorem injX_ok (a b : Gr) (m : Pa) (ta : tinyG a) (tb : tinyG b) (tm : tinyP m) : CallOK Try.prog 67 [a.v, b.v, m.v] (.sv (false, [.bool (injB a b m)])) := by
  refine callOK_W (callS_W (by kernel_rfl) Try.func67 k_injX (callable_of Try.func67 (by kernel_rfl)) (by simp [c_injX]) ?_)
  simp [c_injX, dw0, dw1, dw2, dw3]
  refine dCall_ok (mvalid_ok a b m ta tb tm) ?_ ?_ ?_
  · rfl
  · rfl
  by_cases h1 : morErr a b m = 0
  case neg =>
    simp [dw0, dw1, dw2, dw3, h1, injB]
    rfl
  have mo := mor_ok h1
  have i1 := canon_len_nodup mo.rn
  have i2 := canon_len_nodup mo.re
  simp [dw0, dw1, dw2, dw3, h1]
  refine dCall_ok (images_ok b.nodes.length m.nodes tm.1 mo.rn) ?_ ?_ ?_
  · rfl
  · rfl
  by_cases h2 : m.nodes.Nodup
  case neg =>
    have e : ¬ ((canon b.nodes.length m.nodes).length : Int) = m.nodes.length := fun h => h2 (i1.1 (by omega))
    have e' : ¬ (canon b.nodes.length m.nodes).length = m.nodes.length := fun h => h2 (i1.1 h)
    simp [dw0, dw1, dw2, dw3, h1, h2, injB, e, e']
    rfl
  have e1 := i1.2 h2
  simp [dw0, dw1, dw2, dw3, h1, h2, e1]
  refine dCall_ok (images_ok b.edges.length m.edges tm.2 mo.re) ?_ ?_ ?_
  · rfl
  · rfl
  by_cases h3 : m.edges.Nodup
  case neg =>
    have e : ¬ ((canon b.edges.length m.edges).length : Int) = m.edges.length := fun h => h3 (i2.1 (by omega))
    have e' : ¬ (canon b.edges.length m.edges).length = m.edges.length := fun h => h3 (i2.1 h)
    simp [dw0, dw1, dw2, dw3, h1, h2, h3, injB, e, e']
    rfl
  have e2 := i2.2 h3
  simp [dw0, dw1, dw2, dw3, h1, h2, h3, injB, e1, e2]
  rfl

def c_surjX : MFunc := ⟨30, [.tmp 6], .seq (.region [⟨some 3, .box 0 25 (.tmp 0), none⟩, ⟨some 4, .box 1 25 (.tmp 1), none⟩, ⟨some 5, .box 2 28 (.tmp 2), none⟩, ⟨some 6, .mv (.c (.one (.t (.bool false)))), none⟩]) (.seq (.draw [[], [], [], [0, 1, 2], [3], [4, 3], [5], [6, 5], [7, 5, 5], [5], [9, 5], [10, 5], [8, 11, 5], [5, 12], [13, 8], [14], [15, 14], [16, 14, 14], [14], [18, 14], [19, 14], [17, 20, 14], [14, 21], [22, 17, 0, 1, 2, 3, 4, 5, 6, 7, 8, 9, 10, 11, 12, 13, 14, 15, 16, 17, 18, 19, 20, 21, 22]] [⟨some 7, .load true 2 (.tmp 3), none⟩, ⟨some 8, .load true 2 (.tmp 4), none⟩, ⟨some 9, .load true 2 (.tmp 5), none⟩, ⟨some 10, .call (.c (.one (.fn 69 []))) 67 [.tmp 7, .tmp 8, .tmp 9], none⟩, ⟨some 11, .bin .eql (.tmp 10) (.c (.one (.t (.int .i64 0)))), none⟩, ⟨some 12, .mv (.tmp 11), none⟩, ⟨some 13, .fieldA 0 (.tmp 5), some (12, true)⟩, ⟨some 14, .load false 1 (.tmp 13), some (12, true)⟩, ⟨some 15, .call (.c (.one (.fn 95 []))) 72 [.tmp 14], some (12, true)⟩, ⟨some 16, .fieldA 0 (.tmp 4), some (12, true)⟩, ⟨some 17, .load false 1 (.tmp 16), some (12, true)⟩, ⟨some 18, .len (.tmp 17), some (12, true)⟩, ⟨some 19, .bin .eql (.tmp 15) (.tmp 18), some (12, true)⟩, ⟨some 20, .pick (.tmp 12) (.tmp 19) (.c (.one (.t (.bool false)))), none⟩, ⟨some 21, .mv (.tmp 20), none⟩, ⟨some 22, .fieldA 1 (.tmp 5), some (21, true)⟩, ⟨some 23, .load false 1 (.tmp 22), some (21, true)⟩, ⟨some 24, .call (.c (.one (.fn 95 []))) 81 [.tmp 23], some (21, true)⟩, ⟨some 25, .fieldA 1 (.tmp 4), some (21, true)⟩, ⟨some 26, .load false 1 (.tmp 25), some (21, true)⟩, ⟨some 27, .len (.tmp 26), some (21, true)⟩, ⟨some 28, .bin .eql (.tmp 24) (.tmp 27), some (21, true)⟩, ⟨some 29, .pick (.tmp 21) (.tmp 28) (.c (.one (.t (.bool false)))), none⟩, ⟨some 6, .mv (.tmp 29), none⟩]) .ret)⟩
theorem k_surjX : cFn Try.prog Try.f68 = some c_surjX := by kernel_rfl
theorem surjX_ok (a b : Gr) (m : Pa) (ta : tinyG a) (tb : tinyG b) (tm : tinyP m) : CallOK Try.prog 68 [a.v, b.v, m.v] (.sv (false, [.bool (surjB a b m)])) := by
  refine callOK_W (callS_W (by kernel_rfl) Try.func68 k_surjX (callable_of Try.func68 (by kernel_rfl)) (by simp [c_surjX]) ?_)
  simp [c_surjX, dw0, dw1, dw2, dw3]
  refine dCall_ok (mvalid_ok a b m ta tb tm) ?_ ?_ ?_
  · rfl
  · rfl
  by_cases h1 : morErr a b m = 0
  case neg =>
    simp [dw0, dw1, dw2, dw3, h1, surjB]
    rfl
  have mo := mor_ok h1
  have i1 := canon_len_cov (n := b.nodes.length) (l := m.nodes)
  have i2 := canon_len_cov (n := b.edges.length) (l := m.edges)
  simp [dw0, dw1, dw2, dw3, h1]
  refine dCall_ok (images_ok b.nodes.length m.nodes tm.1 mo.rn) ?_ ?_ ?_
  · rfl
  · rfl
  by_cases h2 : ∀ k : Nat, k < b.nodes.length → (k : Int) ∈ m.nodes
  case neg =>
    have e : ¬ ((canon b.nodes.length m.nodes).length : Int) = b.nodes.length := fun h => h2 (i1.1 (by omega))
    have e' : ¬ (canon b.nodes.length m.nodes).length = b.nodes.length := fun h => h2 (i1.1 h)
    have q : covB m.nodes b.nodes.length = false := by simp only [covB]; exact decide_eq_false h2
    simp [dw0, dw1, dw2, dw3, h1, surjB, e, e', q]
    rfl
  have e1 := i1.2 h2
  have q1 : covB m.nodes b.nodes.length = true := by simp only [covB]; exact decide_eq_true h2
  simp [dw0, dw1, dw2, dw3, h1, e1]
  refine dCall_ok (images_ok b.edges.length m.edges tm.2 mo.re) ?_ ?_ ?_
  · rfl
  · rfl
  by_cases h3 : ∀ k : Nat, k < b.edges.length → (k : Int) ∈ m.edges
  case neg =>
    have e : ¬ ((canon b.edges.length m.edges).length : Int) = b.edges.length := fun h => h3 (i2.1 (by omega))
    have e' : ¬ (canon b.edges.length m.edges).length = b.edges.length := fun h => h3 (i2.1 h)
    have q : covB m.edges b.edges.length = false := by simp only [covB]; exact decide_eq_false h3
    simp [dw0, dw1, dw2, dw3, h1, surjB, e, e', q, q1]
    rfl
  have e2 := i2.2 h3
  have q2 : covB m.edges b.edges.length = true := by simp only [covB]; exact decide_eq_true h3
  simp [dw0, dw1, dw2, dw3, h1, surjB, e1, e2, q1, q2]
  rfl

theorem nodup_step {l : List Int} {k : Nat} (h : (l.take k).Nodup) (hk : k < l.length) (hn : ∀ j, j < k → nth l k ≠ nth l j) : (l.take (k + 1)).Nodup := by
  rw [take_succ_nth' hk, List.nodup_append]
  refine ⟨h, by simp, fun a ha b hb => ?_⟩
  simp at hb
  subst hb
  obtain ⟨j, hj, rfl⟩ := mem_nth ha
  rw [List.length_take] at hj
  rw [nth_eq (by rw [List.length_take]; omega), List.getElem_take, ← nth_eq (by omega)]
  exact fun e => hn j (by omega) e.symm

def c_distinct : MFunc := ⟨25, [.tmp 2], .seq (.region [⟨some 2, .mv (.c (.one (.t (.bool false)))), none⟩]) (.seq (.seq (.region [⟨some 3, .mv (.c (.one (.t (.int .i64 0)))), none⟩]) (.block 0 (.loop (.seq (.seq (.region [⟨some 5, .mv (.tmp 3), none⟩, ⟨some 6, .mv (.tmp 0), none⟩, ⟨some 7, .len (.tmp 6), none⟩, ⟨some 8, .bin .lss (.tmp 5) (.tmp 7), none⟩]) (.cond (.tmp 8) .skip (.exit 0))) (.seq (.block 1 (.seq (.region [⟨some 4, .mv (.c (.one (.t (.int .i64 0)))), none⟩]) (.block 2 (.loop (.seq (.seq (.region [⟨some 11, .mv (.tmp 4), none⟩, ⟨some 12, .mv (.tmp 3), none⟩, ⟨some 13, .bin .lss (.tmp 11) (.tmp 12), none⟩]) (.cond (.tmp 13) .skip (.exit 2))) (.seq (.block 3 (.seq (.draw [[], [], [0, 1], [2], [], [], [4, 5], [6], [3, 7]] [⟨some 16, .mv (.tmp 0), none⟩, ⟨some 17, .mv (.tmp 3), none⟩, ⟨some 18, .idxA 1 (.tmp 16) (.tmp 17), none⟩, ⟨some 19, .load false 1 (.tmp 18), none⟩, ⟨some 20, .mv (.tmp 0), none⟩, ⟨some 21, .mv (.tmp 4), none⟩, ⟨some 22, .idxA 1 (.tmp 20) (.tmp 21), none⟩, ⟨some 23, .load false 1 (.tmp 22), none⟩, ⟨some 24, .bin .eql (.tmp 19) (.tmp 23), none⟩]) (.cond (.tmp 24) (.seq (.region [⟨some 2, .mv (.c (.one (.t (.bool false)))), none⟩]) .ret) .skip))) (.region [⟨some 14, .mv (.tmp 4), none⟩, ⟨some 15, .bin .add (.tmp 14) (.c (.one (.t (.int .i64 1)))), none⟩, ⟨some 4, .mv (.tmp 15), none⟩]))))))) (.region [⟨some 9, .mv (.tmp 3), none⟩, ⟨some 10, .bin .add (.tmp 9) (.c (.one (.t (.int .i64 1)))), none⟩, ⟨some 3, .mv (.tmp 10), none⟩])))))) (.seq (.region [⟨some 2, .mv (.c (.one (.t (.bool true)))), none⟩]) .ret))⟩
theorem k_distinct : cFn Try.prog Try.f35 = some c_distinct := by kernel_rfl
theorem distinct_ok (l : List Int) (hl : tiny l.length) : CallOK Try.prog 35 [(false, [ints l])] (.sv (false, [.bool (decide l.Nodup)])) := by
  refine callOK_W (callS_W (by kernel_rfl) Try.func35 k_distinct (callable_of Try.func35 (by kernel_rfl)) (by simp [c_distinct]) ?_)
  simp [c_distinct]
  refine loopW_count 3 l.length (fun k S => S.fr 0 = .one (.t (ints l)) ∧ (l.take k).Nodup) hl.small ?_ ?_ ?_
  · simp
  · rintro k S hlt hw hc ⟨f0, hp⟩
    simp [f0, hc, hlt]
    refine loopW_count 4 k (fun j S => S.fr 0 = .one (.t (ints l)) ∧ S.fr 3 = .one (.t (.int .i64 k)) ∧ ∀ i, i < j → nth l k ≠ nth l i) (by have := hl.small; simp only [small] at this; omega) ?_ ?_ ?_
    · simp [f0, hc]
    · rintro j S' hlt' hw' hc' ⟨f0, f3, hq⟩
      have hj : j < l.length := by omega
      by_cases e : nth l k = nth l j
      · have hno : ¬ l.Nodup := fun hn => by
          have := List.pairwise_iff_getElem.1 hn j k hj hlt hlt'
          rw [nth_eq hlt, nth_eq hj] at e
          exact this e.symm
        simp [dw0, dw1, dw2, dw3, f0, f3, hc', hlt', hj, hlt, drop_nth hlt, drop_nth hj, e, hno]
        rfl
      · simp [dw0, dw1, dw2, dw3, f0, f3, hc', hlt', hj, hlt, drop_nth hlt, drop_nth hj, e, hw']
        exact ⟨rfl, lt_succ_all hq e⟩
    · rintro S' hc' ⟨f0, f3, hq⟩
      simp [f0, f3, hc', hw]
      exact nodup_step hp hlt hq
  · rintro S hc ⟨f0, hp⟩
    rw [List.take_length] at hp
    simp [f0, hc, hp]



end Go.Proofs.Ythapbbpdcjmmfaa

/- Contracts: checks of pullbacks. -/
namespace Go.Proofs.Ythapbbpdcjmmfaa
open Abs
set_option linter.unusedSimpArgs false
set_option linter.unusedVariables false

theorem medE_ok {s : Co} {x : Gr} {h k : Pa} (e : medE s x h k = 0) : pbErr s = 0 ∧ morErr x s.B h = 0 ∧ morErr x s.C k = 0 ∧ sameP (thenP h s.F) (thenP k s.G) = true := by
  unfold medE at e
  split at e
  · split at e
    · split at e
      · split at e
        · exact ⟨by assumption, by assumption, by assumption, by assumption⟩
        · cases e
      · exact absurd e (by assumption)
    · exact absurd e (by assumption)
  · exact absurd e (by assumption)

theorem pbG_tiny {s : Co} (h : pbErr s = 0) : tinyG (pbG s) := by
  obtain ⟨_, h1, h2⟩ := pbErr_few h
  exact ⟨by simp only [pbG, List.length_map, tiny]; omega, by simp only [pbG, List.length_map, tiny]; omega⟩
theorem medC_tiny {s : Co} {h k : Pa} (th : tinyP h) : tinyP (medC s h k) := ⟨by simp only [medC, meetL_len]; exact th.1, by simp only [medC, meetL_len]; exact th.2⟩

/-- Is a cone a pullback? -/
def pbChk (s : Co) (a : Gr) (h k : Pa) : Bool := decide (medE s a h k = 0) && (injB a (pbG s) (medC s h k) && surjB a (pbG s) (medC s h k))


end Go.Proofs.Ythapbbpdcjmmfaa
