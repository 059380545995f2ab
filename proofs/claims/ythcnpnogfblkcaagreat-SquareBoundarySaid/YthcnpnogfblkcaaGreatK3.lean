/-
  Joined texts: steps of this claim, part 3. No condition beyond those that each statement names.
-/
import Derived.Test.YthcnpnogfblkcaaGreatK2
import Derived.Shelf.Sort.Plain
import Derived.Shelf.Slices.CompactI
import Derived.Shelf.Slices.In.SortNone
import Derived.Ground.Names2Prog
import Derived.Test.YthcnpnogfblkcaaGreatProg
import Derived.Shelf.Spec.SlicesGrow
/- Contracts: pairs of places (2), their sides, the errors of a cospan. -/
namespace Go.Proofs.YthcnpnogfblkcaaGreat
open Abs
set_option linter.unusedSimpArgs false
set_option linter.unusedVariables false
attribute [local simp] rn0 rn1 rn2 rn3 rn4 rn5 rn6 rn7 evOp nests Arg.ev St.val St.set St.new sliceOf binInt2 binInt AV.cells rdAt St.live retOf resOf resAll treeOf treeCell treeCells treeTups untree frameOf TV.av TR.av ints edgs prs fillV splice intsOf trees V1.tree bx Gr.v Pa.v opRd opWr opNew opNewR opArgs argsRd argRd Arg.rd AV.refs V1.refs refsL dstL

theorem take_grow {α : Type} {M : List α} {x : α} {n : Nat} (h : (M.take (n + 1)).length ≤ n) : (M ++ [x]).take (n + 1) = M.take (n + 1) ++ [x] := by
  rw [List.length_take] at h
  rw [List.take_of_length_le (l := M) (by omega), List.take_of_length_le (by simp; omega)]
theorem take_full {α : Type} {M : List α} {x : α} {n : Nat} (h : ¬ (M.take (n + 1)).length ≤ n) : (M ++ [x]).take (n + 1) = M.take (n + 1) := by
  rw [List.length_take] at h
  rw [List.take_append_of_le_length (by omega)]

def pbT (f g : List Int) (n k j : Nat) : List (Int × Int) := (gather (fun i => collect (pbF f g i) g.length) k ++ collect (pbF f g k) j).take (n + 1)
def pbO (f g : List Int) (n k : Nat) : List (Int × Int) := (gather (fun i => collect (pbF f g i) g.length) k).take (n + 1)
theorem pbT_zero {f g : List Int} {n k : Nat} : pbT f g n k 0 = pbO f g n k := by simp [pbT, pbO, collect_zero]
theorem pbT_all {f g : List Int} {n k : Nat} : pbT f g n k g.length = pbO f g n (k + 1) := by simp [pbT, pbO, gather_succ]
theorem pbO_zero {f g : List Int} {n : Nat} : pbO f g n 0 = [] := by simp [pbO, gather_zero]
theorem pbO_all {f g : List Int} {n : Nat} : pbO f g n f.length = (pbP f g).take (n + 1) := rfl
theorem pbT_len {f g : List Int} {n k j : Nat} : (pbT f g n k j).length ≤ n + 1 := by simp only [pbT, List.length_take]; omega
theorem pbT_none {f g : List Int} {n k j : Nat} (h : ¬ nth f k = nth g j) : pbT f g n k (j + 1) = pbT f g n k j := by
  have e : pbF f g k j = none := by simp [pbF, h]
  simp only [pbT, collect_none e]
theorem pbT_grow {f g : List Int} {n k j : Nat} (h : nth f k = nth g j) (hl : (pbT f g n k j).length ≤ n) : pbT f g n k (j + 1) = pbT f g n k j ++ [((k : Int), (j : Int))] := by
  have e : pbF f g k j = some ((k : Int), (j : Int)) := by simp [pbF, h]
  simp only [pbT, collect_some e, ← List.append_assoc]
  exact take_grow hl
theorem pbT_full {f g : List Int} {n k j : Nat} (hl : ¬ (pbT f g n k j).length ≤ n) : pbT f g n k (j + 1) = pbT f g n k j := by
  by_cases h : nth f k = nth g j
  · have e : pbF f g k j = some ((k : Int), (j : Int)) := by simp [pbF, h]
    simp only [pbT, collect_some e, ← List.append_assoc]
    exact take_full hl
  · exact pbT_none h

def c_pairs11 : MFunc := ⟨44, [.tmp 6], .seq (.region [⟨some 6, .mv (.c (.one .nil)), none⟩]) (.seq (.region [⟨some 7, .mv (.c (.one .nil)), none⟩]) (.seq (.seq (.region [⟨some 8, .mv (.c (.one (.t (.int .i64 0)))), none⟩]) (.block 0 (.loop (.seq (.seq (.region [⟨some 10, .mv (.tmp 8), none⟩, ⟨some 11, .mv (.tmp 0), none⟩, ⟨some 12, .len (.tmp 11), none⟩, ⟨some 13, .bin .lss (.tmp 10) (.tmp 12), none⟩]) (.cond (.tmp 13) .skip (.exit 0))) (.seq (.block 1 (.seq (.region [⟨some 9, .mv (.c (.one (.t (.int .i64 0)))), none⟩]) (.block 2 (.loop (.seq (.seq (.region [⟨some 16, .mv (.tmp 9), none⟩, ⟨some 17, .mv (.tmp 1), none⟩, ⟨some 18, .len (.tmp 17), none⟩, ⟨some 19, .bin .lss (.tmp 16) (.tmp 18), none⟩]) (.cond (.tmp 19) .skip (.exit 2))) (.seq (.block 3 (.seq (.draw [[], [], [0, 1], [2], [], [], [4, 5], [6], [3, 7], [8], [9], [10, 9], [9], [11, 12, 9], [9, 13]] [⟨some 22, .mv (.tmp 0), none⟩, ⟨some 23, .mv (.tmp 8), none⟩, ⟨some 24, .idxA 1 (.tmp 22) (.tmp 23), none⟩, ⟨some 25, .load false 1 (.tmp 24), none⟩, ⟨some 26, .mv (.tmp 1), none⟩, ⟨some 27, .mv (.tmp 9), none⟩, ⟨some 28, .idxA 1 (.tmp 26) (.tmp 27), none⟩, ⟨some 29, .load false 1 (.tmp 28), none⟩, ⟨some 30, .bin .eql (.tmp 25) (.tmp 29), none⟩, ⟨some 31, .mv (.tmp 30), none⟩, ⟨some 32, .mv (.tmp 7), some (31, true)⟩, ⟨some 33, .len (.tmp 32), some (31, true)⟩, ⟨some 34, .mv (.tmp 2), some (31, true)⟩, ⟨some 35, .bin .leq (.tmp 33) (.tmp 34), some (31, true)⟩, ⟨some 36, .pick (.tmp 31) (.tmp 35) (.c (.one (.t (.bool false)))), none⟩]) (.cond (.tmp 36) (.region [⟨some 37, .mv (.tmp 7), none⟩, ⟨some 38, .mv (.tmp 8), none⟩, ⟨some 39, .mv (.tmp 9), none⟩, ⟨some 40, .build [.t (.int .i64 0), .t (.int .i64 0)] [(0, (1, .tmp 38)), (1, (1, .tmp 39))], none⟩, ⟨some 41, .mkrow 580 121 2 1 [.t (.int .i64 0), .t (.int .i64 0)] [(0, (2, .tmp 40))], none⟩, ⟨some 42, .append 581 121 2 16 (.tmp 37) (.tmp 41), none⟩, ⟨some 7, .mv (.tmp 42), none⟩]) .skip))) (.region [⟨some 20, .mv (.tmp 9), none⟩, ⟨some 21, .bin .add (.tmp 20) (.c (.one (.t (.int .i64 1)))), none⟩, ⟨some 9, .mv (.tmp 21), none⟩]))))))) (.region [⟨some 14, .mv (.tmp 8), none⟩, ⟨some 15, .bin .add (.tmp 14) (.c (.one (.t (.int .i64 1)))), none⟩, ⟨some 8, .mv (.tmp 15), none⟩])))))) (.seq (.region [⟨some 43, .mv (.tmp 7), none⟩, ⟨some 6, .mv (.tmp 43), none⟩]) .ret)))⟩
theorem k_pairs11 : cFn Tryz.prog Tryz.f89 = some c_pairs11 := by kernel_rfl
theorem pairs11_row (f g : List Int) (n : Nat) (hf : f.length ≤ 1000) (hg : g.length ≤ 1000) (hn : n ≤ 1000) : CallRow Tryz.prog 89 [(false, [ints f]), (false, [ints g]), (false, [.int .i64 n])] 121 2 ((pbP f g).take (n + 1)).length (prL ((pbP f g).take (n + 1))) := by
  refine callRow_W (plain_prL _) (len_prL _) (by omega) (callS_W (by kernel_rfl) Tryz.func89 k_pairs11 (callable_of Tryz.func89 (by kernel_rfl)) (by simp [c_pairs11]) ?_)
  rw [← pbO_all]
  simp [c_pairs11]
  refine loopW_count 8 f.length (fun k S => S.fr 0 = .one (.t (ints f)) ∧ S.fr 1 = .one (.t (ints g)) ∧ S.fr 2 = .one (.t (.int .i64 n)) ∧
    outR 581 121 2 (pbO f g n k).length (prL (pbO f g n k)) S.ob (S.fr 7)) (by omega) ?_ ?_ ?_
  · simp [pbO_zero, prL, outR_nil]
  · rintro k S hlt hw hc ⟨f0, f1, f2, ho⟩
    simp [f0, f1, f2, hc, hlt, hw]
    refine loopW_count 9 g.length (fun j S => S.fr 0 = .one (.t (ints f)) ∧ S.fr 1 = .one (.t (ints g)) ∧ S.fr 2 = .one (.t (.int .i64 n)) ∧ S.fr 8 = .one (.t (.int .i64 k)) ∧
      outR 581 121 2 (pbT f g n k j).length (prL (pbT f g n k j)) S.ob (S.fr 7)) (by omega) ?_ ?_ ?_
    · simp [f0, f1, f2, hc, pbT_zero]
      simpa using ho
    · rintro j S' hlt' hw' hc' ⟨f0, f1, f2, f8, ho⟩
      have hlen := pbT_len (f := f) (g := g) (n := n) (k := k) (j := j)
      by_cases e1 : nth f k = nth g j
      case neg =>
        simp [dw0, dw1, dw2, dw3, f0, f1, f2, f8, hc', hlt', hlt, e1, drop_nth hlt, drop_nth hlt', hw', pbT_none e1]
        exact ⟨rfl, ho⟩
      have ho0 := ho
      by_cases e2 : (pbT f g n k j).length ≤ n
      · have e3 : ((pbT f g n k j).length : Int) ≤ n := by omega
        rcases ho with ⟨z1, z2, z3⟩ | ⟨z1, gg, z3, z4⟩
        · simp [dw0, dw1, dw2, dw3, f0, f1, f2, f8, hc', hlt', hlt, e1, drop_nth hlt, drop_nth hlt', z3]
          refine ⟨rfl, ?_⟩
          refine kApp_grow (ts := [.int .i64 k, .int .i64 j]) rfl (by rw [← z3]; exact ho0.keep fun g => by simp) (by omega) rfl (by omega) (by omega) fun E hE hob hcnt => ?_
          simp [f0, f1, f2, f8, hc', hw', pbT_grow e1 e2]
          simpa [prL, prC, Nat.add_assoc] using hE
        · simp [dw0, dw1, dw2, dw3, f0, f1, f2, f8, hc', hlt', hlt, e1, drop_nth hlt, drop_nth hlt', z3, z4, e2, e3]
          refine ⟨rfl, ?_⟩
          refine kApp_grow (ts := [.int .i64 k, .int .i64 j]) rfl (by rw [← z3]; exact ho0.keep fun g => by simp) (by omega) rfl (by omega) (by omega) fun E hE hob hcnt => ?_
          simp [f0, f1, f2, f8, hc', hw', pbT_grow e1 e2]
          simpa [prL, prC, Nat.add_assoc] using hE
      · have e3 : ¬ ((pbT f g n k j).length : Int) ≤ n := by omega
        rcases ho with ⟨z1, z2, z3⟩ | ⟨z1, gg, z3, z4⟩
        · omega
        · simp [dw0, dw1, dw2, dw3, f0, f1, f2, f8, hc', hlt', hlt, e1, drop_nth hlt, drop_nth hlt', z3, z4, e2, e3, hw', pbT_full e2]
          exact ⟨rfl, by rw [← z3]; exact ho0⟩
    · rintro S' hc' ⟨f0, f1, f2, f8, ho⟩
      rw [pbT_all] at ho
      simp [f0, f1, f2, f8, hc', hw]
      exact ho
  · rintro S hc ⟨f0, f1, f2, ho⟩
    obtain ⟨u, hu⟩ := ho.one
    rw [hu] at ho
    simp [f0, f1, f2, hc, hu]
    exact ho.rowIs

def fstL (l : List (Int × Int)) : List Int := l.map (·.1)
def sndL (l : List (Int × Int)) : List Int := l.map (·.2)
theorem fstL_take {l : List (Int × Int)} {k : Nat} (h : k < l.length) : fstL (l.take (k + 1)) = fstL (l.take k) ++ [(pth l k).1] := by rw [take_succ_pth h]; simp [fstL]
theorem sndL_take {l : List (Int × Int)} {k : Nat} (h : k < l.length) : sndL (l.take (k + 1)) = sndL (l.take k) ++ [(pth l k).2] := by rw [take_succ_pth h]; simp [sndL]
theorem fstL_len {l : List (Int × Int)} : (fstL l).length = l.length := by simp [fstL]
theorem sndL_len {l : List (Int × Int)} : (sndL l).length = l.length := by simp [sndL]
theorem zip_sides {l : List (Int × Int)} : (fstL l).zip (sndL l) = l := by
  induction l with
  | nil => rfl
  | cons a r ih => simp only [fstL, sndL, List.map_cons, List.zip_cons_cons] at ih ⊢; rw [ih]

theorem Abs.outR.tree {nm typ n : Nat} {l : List Int} {ob : Nm → Option Ob} {u : V1} (h : outR nm typ 1 n (l.map (.int .i64)) ob (.one u)) (hn : n = l.length) (fr : Nat → AV) (cnt : Nat → Nat) : treeCell ⟨fr, ob, cnt⟩ u = some (ints l) := by
  subst hn
  rcases h with ⟨h1, h2, h3⟩ | ⟨h1, g, h3, h4⟩
  · have : l = [] := List.eq_nil_of_length_eq_zero h1
    subst this
    cases h3
    rfl
  · cases h3
    exact treeCell_row h4

def c_sides11 : MFunc := ⟨31, [.tmp 2, .tmp 3], .seq (.region [⟨some 2, .mv (.c (.one .nil)), none⟩, ⟨some 3, .mv (.c (.one .nil)), none⟩]) (.seq (.region [⟨some 4, .mv (.c (.one .nil)), none⟩, ⟨some 5, .mv (.c (.one .nil)), none⟩]) (.seq (.seq (.region [⟨some 6, .mv (.c (.one (.t (.int .i64 0)))), none⟩]) (.block 0 (.loop (.seq (.seq (.region [⟨some 7, .mv (.tmp 6), none⟩, ⟨some 8, .mv (.tmp 0), none⟩, ⟨some 9, .len (.tmp 8), none⟩, ⟨some 10, .bin .lss (.tmp 7) (.tmp 9), none⟩]) (.cond (.tmp 10) .skip (.exit 0))) (.seq (.block 1 (.draw [[], [], [], [1, 2], [3], [4], [5], [0, 6], [], [], [], [9, 10], [11], [12], [13], [8, 14, 7], [7, 15, 0, 1, 2, 3, 4, 5, 6, 7], [15, 16, 0, 1, 2, 3, 4, 5, 6, 7, 8, 9, 10, 11, 12, 13, 14, 15, 16]] [⟨some 13, .mv (.tmp 4), none⟩, ⟨some 14, .mv (.tmp 0), none⟩, ⟨some 15, .mv (.tmp 6), none⟩, ⟨some 16, .idxA 2 (.tmp 14) (.tmp 15), none⟩, ⟨some 17, .fieldA 0 (.tmp 16), none⟩, ⟨some 18, .load false 1 (.tmp 17), none⟩, ⟨some 19, .mkrow 326 3 1 1 [.t (.int .i64 0)] [(0, (1, .tmp 18))], none⟩, ⟨some 20, .append 327 3 1 8 (.tmp 13) (.tmp 19), none⟩, ⟨some 21, .mv (.tmp 5), none⟩, ⟨some 22, .mv (.tmp 0), none⟩, ⟨some 23, .mv (.tmp 6), none⟩, ⟨some 24, .idxA 2 (.tmp 22) (.tmp 23), none⟩, ⟨some 25, .fieldA 1 (.tmp 24), none⟩, ⟨some 26, .load false 1 (.tmp 25), none⟩, ⟨some 27, .mkrow 334 3 1 1 [.t (.int .i64 0)] [(0, (1, .tmp 26))], none⟩, ⟨some 28, .append 335 3 1 8 (.tmp 21) (.tmp 27), none⟩, ⟨some 4, .mv (.tmp 20), none⟩, ⟨some 5, .mv (.tmp 28), none⟩])) (.region [⟨some 11, .mv (.tmp 6), none⟩, ⟨some 12, .bin .add (.tmp 11) (.c (.one (.t (.int .i64 1)))), none⟩, ⟨some 6, .mv (.tmp 12), none⟩])))))) (.seq (.region [⟨some 29, .mv (.tmp 4), none⟩, ⟨some 30, .mv (.tmp 5), none⟩, ⟨some 2, .mv (.tmp 29), none⟩, ⟨some 3, .mv (.tmp 30), none⟩]) .ret)))⟩
theorem k_sides11 : cFn Tryz.prog Tryz.f91 = some c_sides11 := by kernel_rfl
theorem sides11_ok (l : List (Int × Int)) (hl : tiny l.length) : CallOK Tryz.prog 91 [(false, [prs l])] (.tup [(false, [ints (fstL l)]), (false, [ints (sndL l)])]) := by
  refine callOK_W (callS_W (by kernel_rfl) Tryz.func91 k_sides11 (callable_of Tryz.func91 (by kernel_rfl)) (by simp [c_sides11]) ?_)
  simp [c_sides11]
  refine loopW_count 6 l.length (fun k S => S.fr 0 = .one (.t (prs l)) ∧ outR 327 3 1 (fstL (l.take k)).length ((fstL (l.take k)).map (.int .i64)) S.ob (S.fr 4) ∧ outR 335 3 1 (sndL (l.take k)).length ((sndL (l.take k)).map (.int .i64)) S.ob (S.fr 5)) hl.small ?_ ?_ ?_
  · simp [fstL, sndL, outR_nil]
  · rintro k S hlt hw hc ⟨f0, ha, hb⟩
    have hlt2 : k * 2 < l.length * 2 := by omega
    simp only [tiny] at hl
    have z1 : (fstL (l.take k)).length ≤ 1000000 := by rw [fstL_len, List.length_take]; omega
    have z2 : (sndL (l.take k)).length ≤ 1000000 := by rw [sndL_len, List.length_take]; omega
    have ha0 := ha
    have hb0 := hb
    rcases ha with ⟨a1, _, a3⟩ | ⟨a1, ga, a3, a4⟩ <;> rcases hb with ⟨b1, _, b3⟩ | ⟨b1, gb, b3, b4⟩
    all_goals
      first | have a4 : True := trivial | skip
      first | have b4 : True := trivial | skip
      simp [dw0, dw1, dw2, dw3, f0, a3, a4, b3, b4, hc, hlt, hlt2, drop_prL hlt]
      refine kApp_grow (ts := [.int .i64 (pth l k).1]) rfl (by rw [← a3]; exact ha0.keep fun g => by simp) (by omega) rfl (by omega) (by omega) fun E hE hob hcnt => ?_
      simp [dw0, dw1, dw2, dw3, f0, a3, a4, b3, b4, hc, hlt, hlt2, drop_prL hlt, hob]
      refine kApp_grow (ts := [.int .i64 (pth l k).2]) rfl (by rw [← b3]; exact hb0.keep fun g => by simp [hob]) (by omega) rfl (by omega) (by omega) fun E' hE' hob' hcnt' => ?_
      have hE2 := hE.keep (ob' := E'.ob) fun g => by rw [hob' _ _ (by decide)]; simp
      simp [dw0, dw1, dw2, dw3]
      refine ⟨rfl, ?_⟩
      simp [f0, hc, hw, fstL_take hlt, sndL_take hlt]
      exact ⟨by simpa using hE2, by simpa using hE'⟩
  · rintro S hc ⟨f0, ha, hb⟩
    obtain ⟨u, hu⟩ := ha.one
    obtain ⟨v, hv⟩ := hb.one
    rw [hu, List.take_length] at ha
    rw [hv, List.take_length] at hb
    have ta := ha.tree (by simp)
    have tb := hb.tree (by simp)
    simp [f0, hc, hu, hv, -treeCell, treeCell_t, ta, tb]
end Go.Proofs.YthcnpnogfblkcaaGreat

/- Contracts: the program's sides of pairs; the errors of a cospan. -/
namespace Go.Proofs.YthcnpnogfblkcaaGreat
open Abs
set_option linter.unusedSimpArgs false
set_option linter.unusedVariables false
attribute [local simp] rn0 rn1 rn2 rn3 rn4 rn5 rn6 rn7 evOp nests Arg.ev St.val St.set St.new sliceOf binInt2 binInt AV.cells rdAt St.live retOf resOf resAll treeOf treeCell treeCells treeTups untree frameOf TV.av TR.av ints edgs prs fillV splice intsOf trees V1.tree bx Gr.v Pa.v opRd opWr opNew opNewR opArgs argsRd argRd Arg.rd AV.refs V1.refs refsL dstL

def c_psides : MFunc := ⟨27, [.tmp 2, .tmp 3], .seq (.region [⟨some 2, .mv (.c (.one .nil)), none⟩, ⟨some 3, .mv (.c (.one .nil)), none⟩]) (.seq (.region [⟨some 4, .mv (.c (.one .nil)), none⟩, ⟨some 5, .mv (.c (.one .nil)), none⟩]) (.seq (.seq (.region [⟨some 8, .mv (.tmp 0), none⟩, ⟨some 9, .len (.tmp 8), none⟩, ⟨some 10, .mv (.c (.one (.t (.int .i64 0)))), none⟩]) (.block 0 (.loop (.seq (.region [⟨some 11, .bin .lss (.tmp 10) (.tmp 9), none⟩]) (.seq (.cond (.tmp 11) .skip (.exit 0)) (.seq (.block 1 (.seq (.region [⟨some 12, .idxA 2 (.tmp 8) (.tmp 10), none⟩, ⟨some 13, .load true 2 (.tmp 12), none⟩, ⟨some 7, .alloc 258 121 [.t (.int .i64 0), .t (.int .i64 0)], none⟩, ⟨none, .store 2 (.tmp 7) (.tmp 13), none⟩]) (.draw [[], [], [1], [2], [0, 3], [], [], [6], [7], [5, 8, 4], [4, 9, 0, 1, 2, 3, 4], [9, 10, 0, 1, 2, 3, 4, 5, 6, 7, 8, 9, 10]] [⟨some 14, .mv (.tmp 4), none⟩, ⟨some 15, .fieldA 0 (.tmp 7), none⟩, ⟨some 16, .load false 1 (.tmp 15), none⟩, ⟨some 17, .mkrow 323 3 1 1 [.t (.int .i64 0)] [(0, (1, .tmp 16))], none⟩, ⟨some 18, .append 324 3 1 8 (.tmp 14) (.tmp 17), none⟩, ⟨some 19, .mv (.tmp 5), none⟩, ⟨some 20, .fieldA 1 (.tmp 7), none⟩, ⟨some 21, .load false 1 (.tmp 20), none⟩, ⟨some 22, .mkrow 328 3 1 1 [.t (.int .i64 0)] [(0, (1, .tmp 21))], none⟩, ⟨some 23, .append 329 3 1 8 (.tmp 19) (.tmp 22), none⟩, ⟨some 4, .mv (.tmp 18), none⟩, ⟨some 5, .mv (.tmp 23), none⟩]))) (.region [⟨some 24, .bin .add (.tmp 10) (.c (.one (.t (.int .i64 1)))), none⟩, ⟨some 10, .mv (.tmp 24), none⟩]))))))) (.seq (.region [⟨some 25, .mv (.tmp 4), none⟩, ⟨some 26, .mv (.tmp 5), none⟩, ⟨some 2, .mv (.tmp 25), none⟩, ⟨some 3, .mv (.tmp 26), none⟩]) .ret)))⟩
theorem k_psides : cFn Tryz.prog Tryz.f97 = some c_psides := by kernel_rfl
theorem psides_ok (l : List (Int × Int)) (hl : tiny l.length) : CallOK Tryz.prog 97 [(false, [prs l])] (.tup [(false, [ints (fstL l)]), (false, [ints (sndL l)])]) := by
  refine callOK_W (callS_W (by kernel_rfl) Tryz.func97 k_psides (callable_of Tryz.func97 (by kernel_rfl)) (by simp [c_psides]) ?_)
  simp [c_psides]
  refine loopW_count 10 l.length (fun k S => S.fr 8 = .one (.t (prs l)) ∧ S.fr 9 = .one (.t (.int .i64 l.length)) ∧ outR 324 3 1 (fstL (l.take k)).length ((fstL (l.take k)).map (.int .i64)) S.ob (S.fr 4) ∧ outR 329 3 1 (sndL (l.take k)).length ((sndL (l.take k)).map (.int .i64)) S.ob (S.fr 5)) hl.small ?_ ?_ ?_
  · simp [fstL, sndL, outR_nil]
  · rintro k S hlt hw hc ⟨f8, f9, ha, hb⟩
    have hlt2 : k * 2 < l.length * 2 := by omega
    simp only [tiny] at hl
    have z1 : (fstL (l.take k)).length ≤ 1000000 := by rw [fstL_len, List.length_take]; omega
    have z2 : (sndL (l.take k)).length ≤ 1000000 := by rw [sndL_len, List.length_take]; omega
    have ha0 := ha
    have hb0 := hb
    rcases ha with ⟨a1, _, a3⟩ | ⟨a1, ga, a3, a4⟩ <;> rcases hb with ⟨b1, _, b3⟩ | ⟨b1, gb, b3, b4⟩
    all_goals
      simp [dw0, dw1, dw2, dw3, f8, f9, a3, b3, hc, hlt, hlt2, drop_prL hlt]
      refine kApp_grow (ts := [.int .i64 (pth l k).1]) rfl (by rw [← a3]; exact ha0.keep fun g => by simp) (by omega) rfl (by omega) (by omega) fun E hE hob hcnt => ?_
      simp [dw0, dw1, dw2, dw3, f8, f9, a3, b3, hc, hlt, hlt2, drop_prL hlt, hob]
      refine kApp_grow (ts := [.int .i64 (pth l k).2]) rfl (by rw [← b3]; exact hb0.keep fun g => by simp [hob]) (by omega) rfl (by omega) (by omega) fun E' hE' hob' hcnt' => ?_
      have hE2 := hE.keep (ob' := E'.ob) fun g => by rw [hob' _ _ (by decide)]; simp
      simp [dw0, dw1, dw2, dw3]
      refine ⟨rfl, ?_⟩
      simp [f8, f9, hc, hw, fstL_take hlt, sndL_take hlt]
      exact ⟨by simpa using hE2, by simpa using hE'⟩
  · rintro S hc ⟨f8, f9, ha, hb⟩
    obtain ⟨u, hu⟩ := ha.one
    obtain ⟨v, hv⟩ := hb.one
    rw [hu, List.take_length] at ha
    rw [hv, List.take_length] at hb
    have ta := ha.tree (by simp)
    have tb := hb.tree (by simp)
    simp [f8, f9, hc, hu, hv, -treeCell, treeCell_t, ta, tb]

theorem Abs.outR.treeC {nm typ esz n : Nat} {cs : List Abs.C} {ob : Nm → Option Ob} {u : V1} (h : outR nm typ esz n cs ob (.one u)) (fr : Nat → AV) (cnt : Nat → Nat) : treeCell ⟨fr, ob, cnt⟩ u = some (.sl n cs) := by
  rcases h with ⟨rfl, rfl, h3⟩ | ⟨h1, g, h3, h4⟩
  · cases h3
    rfl
  · cases h3
    exact treeCell_row h4

/-! ### Cospans -/
structure Co where
  B : Gr
  C : Gr
  D : Gr
  F : Pa
  G : Pa
def Co.cs (s : Co) : List Abs.C := [ints s.B.nodes, edgs s.B.edges, ints s.C.nodes, edgs s.C.edges, ints s.D.nodes, edgs s.D.edges, ints s.F.nodes, ints s.F.edges, ints s.G.nodes, ints s.G.edges]
def Co.v (s : Co) : TV := (true, s.cs)
structure TinyCo (s : Co) : Prop where
  B : tinyG s.B
  C : tinyG s.C
  D : tinyG s.D
  F : tinyP s.F
  G : tinyP s.G
/-- The error of a cospan. -/
def coErr (s : Co) : Int := if morErr s.B s.D s.F = 0 then morErr s.C s.D s.G else morErr s.B s.D s.F
structure CoOk (s : Co) : Prop where
  F : MorOk s.B s.D s.F
  G : MorOk s.C s.D s.G
theorem coErr_ok {s : Co} (h : coErr s = 0) : CoOk s := by
  unfold coErr at h
  split at h
  · exact ⟨mor_ok (by assumption), mor_ok h⟩
  · exact absurd h (by assumption)

def c_pgiven : MFunc := ⟨21, [.tmp 2], .seq (.region [⟨some 1, .box 0 80 (.tmp 0), none⟩, ⟨some 2, .mv (.c (.one (.t (.int .i64 0)))), none⟩]) (.seq (.seq (.region [⟨some 4, .fieldA 0 (.tmp 1), none⟩, ⟨some 5, .load true 2 (.tmp 4), none⟩, ⟨some 6, .fieldA 4 (.tmp 1), none⟩, ⟨some 7, .load true 2 (.tmp 6), none⟩, ⟨some 8, .fieldA 6 (.tmp 1), none⟩, ⟨some 9, .load true 2 (.tmp 8), none⟩, ⟨some 10, .call (.c (.one (.fn 41 []))) 70 [.tmp 5, .tmp 7, .tmp 9], none⟩, ⟨some 3, .mv (.tmp 10), none⟩]) (.seq (.region [⟨some 11, .mv (.tmp 3), none⟩, ⟨some 12, .bin .neq (.tmp 11) (.c (.one (.t (.int .i64 0)))), none⟩]) (.cond (.tmp 12) (.seq (.region [⟨some 13, .mv (.tmp 3), none⟩, ⟨some 2, .mv (.tmp 13), none⟩]) .ret) .skip))) (.seq (.region [⟨some 14, .fieldA 2 (.tmp 1), none⟩, ⟨some 15, .load true 2 (.tmp 14), none⟩, ⟨some 16, .fieldA 4 (.tmp 1), none⟩, ⟨some 17, .load true 2 (.tmp 16), none⟩, ⟨some 18, .fieldA 8 (.tmp 1), none⟩, ⟨some 19, .load true 2 (.tmp 18), none⟩, ⟨some 20, .call (.c (.one (.fn 41 []))) 262 [.tmp 15, .tmp 17, .tmp 19], none⟩, ⟨some 2, .mv (.tmp 20), none⟩]) .ret))⟩
theorem k_pgiven : cFn Tryz.prog Tryz.f125 = some c_pgiven := by kernel_rfl
theorem pgiven_ok (s : Co) (h : TinyCo s) : CallOK Tryz.prog 125 [s.v] (.sv (false, [.int .i64 (coErr s)])) := by
  refine callOK_W (callS_W (by kernel_rfl) Tryz.func125 k_pgiven (callable_of Tryz.func125 (by kernel_rfl)) (by simp [c_pgiven]) ?_)
  simp [c_pgiven, Co.v, Co.cs]
  refine callS_tree (mvalid_ok s.B s.D s.F h.B h.D h.F) ?_ ?_ ?_
  · rfl
  · rfl
  by_cases h1 : morErr s.B s.D s.F = 0
  case neg => simp [h1, coErr]
  simp [h1]
  refine callS_tree (mvalid_ok s.C s.D s.G h.C h.D h.G) ?_ ?_ ?_
  · rfl
  · rfl
  simp [h1, coErr]

def c_valid11 : MFunc := ⟨21, [.tmp 2], .seq (.region [⟨some 1, .box 0 80 (.tmp 0), none⟩, ⟨some 2, .mv (.c (.one (.t (.int .i64 0)))), none⟩]) (.seq (.seq (.region [⟨some 4, .fieldA 0 (.tmp 1), none⟩, ⟨some 5, .load true 2 (.tmp 4), none⟩, ⟨some 6, .fieldA 4 (.tmp 1), none⟩, ⟨some 7, .load true 2 (.tmp 6), none⟩, ⟨some 8, .fieldA 6 (.tmp 1), none⟩, ⟨some 9, .load true 2 (.tmp 8), none⟩, ⟨some 10, .call (.c (.one (.fn 48 []))) 70 [.tmp 5, .tmp 7, .tmp 9], none⟩, ⟨some 3, .mv (.tmp 10), none⟩]) (.seq (.region [⟨some 11, .mv (.tmp 3), none⟩, ⟨some 12, .bin .neq (.tmp 11) (.c (.one (.t (.int .i64 0)))), none⟩]) (.cond (.tmp 12) (.seq (.region [⟨some 13, .mv (.tmp 3), none⟩, ⟨some 2, .mv (.tmp 13), none⟩]) .ret) .skip))) (.seq (.region [⟨some 14, .fieldA 2 (.tmp 1), none⟩, ⟨some 15, .load true 2 (.tmp 14), none⟩, ⟨some 16, .fieldA 4 (.tmp 1), none⟩, ⟨some 17, .load true 2 (.tmp 16), none⟩, ⟨some 18, .fieldA 8 (.tmp 1), none⟩, ⟨some 19, .load true 2 (.tmp 18), none⟩, ⟨some 20, .call (.c (.one (.fn 48 []))) 262 [.tmp 15, .tmp 17, .tmp 19], none⟩, ⟨some 2, .mv (.tmp 20), none⟩]) .ret))⟩
theorem k_valid11 : cFn Tryz.prog Tryz.f88 = some c_valid11 := by kernel_rfl
theorem valid11_ok (s : Co) (h : TinyCo s) : CallOK Tryz.prog 88 [s.v] (.sv (false, [.int .i64 (coErr s)])) := by
  refine callOK_W (callS_W (by kernel_rfl) Tryz.func88 k_valid11 (callable_of Tryz.func88 (by kernel_rfl)) (by simp [c_valid11]) ?_)
  simp [c_valid11, Co.v, Co.cs]
  refine callS_tree (rvalid6_ok s.B s.D s.F h.B h.D h.F) ?_ ?_ ?_
  · rfl
  · rfl
  by_cases h1 : morErr s.B s.D s.F = 0
  case neg => simp [h1, coErr]
  simp [h1]
  refine callS_tree (rvalid6_ok s.C s.D s.G h.C h.D h.G) ?_ ?_ ?_
  · rfl
  · rfl
  simp [h1, coErr]

/-! ### The standard pullback -/
def pbNs (s : Co) : List (Int × Int) := pbP s.F.nodes s.G.nodes
def pbEs (s : Co) : List (Int × Int) := pbP s.F.edges s.G.edges
def pbNode (s : Co) (q : Int × Int) : Int := nth s.B.nodes q.1.toNat
def pbEdge (s : Co) (q : Int × Int) : Ed := ⟨(eth s.B.edges q.1.toNat).t, idxP (pbNs s) ((eth s.B.edges q.1.toNat).f, (eth s.C.edges q.2.toNat).f), idxP (pbNs s) ((eth s.B.edges q.1.toNat).g, (eth s.C.edges q.2.toNat).g)⟩
def pbG (s : Co) : Gr := ⟨(pbNs s).map (pbNode s), (pbEs s).map (pbEdge s)⟩
def pbBig (s : Co) : Prop := 40 < (pbNs s).length ∨ 80 < (pbEs s).length
instance (s : Co) : Decidable (pbBig s) := inferInstanceAs (Decidable (_ ∨ _))
/-- The pullback's error. -/
def pbErr (s : Co) : Int := if coErr s = 0 then if pbBig s then 3 else 0 else coErr s
/-- The pairs and the graph, or nothing. -/
def pbQ (s : Co) : List (Int × Int) × List (Int × Int) × Gr := if pbErr s = 0 then (pbNs s, pbEs s, pbG s) else ([], [], ⟨[], []⟩)
def pbQv (s : Co) : TV := (true, [prs (pbQ s).1, prs (pbQ s).2.1, ints (pbQ s).2.2.nodes, edgs (pbQ s).2.2.edges])

theorem map_take_pth {β : Type} {l : List (Int × Int)} {k : Nat} (f : Int × Int → β) (h : k < l.length) : (l.take (k + 1)).map f = (l.take k).map f ++ [f (pth l k)] := by
  rw [take_succ_pth h]
  simp
def mapP {β : Type} (f : Int × Int → β) (l : List (Int × Int)) (k : Nat) : List β := (l.take k).map f
theorem mapP_zero {β : Type} {f : Int × Int → β} {l : List (Int × Int)} : mapP f l 0 = [] := rfl
theorem mapP_succ {β : Type} {f : Int × Int → β} {l : List (Int × Int)} {k : Nat} (h : k < l.length) : mapP f l (k + 1) = mapP f l k ++ [f (pth l k)] := map_take_pth f h
theorem mapP_all {β : Type} {f : Int × Int → β} {l : List (Int × Int)} : mapP f l l.length = l.map f := by simp [mapP]
theorem mapP_len {β : Type} {f : Int × Int → β} {l : List (Int × Int)} {k : Nat} : (mapP f l k).length ≤ l.length := by simp [mapP]; omega
theorem pbNs_at {s : Co} (h : CoOk s) {q : Int × Int} (hq : q ∈ pbNs s) : ∃ i k : Nat, i < s.B.nodes.length ∧ k < s.C.nodes.length ∧ q = ((i : Int), (k : Int)) := by
  obtain ⟨i, k, h1, h2, h3, rfl⟩ := mem_pbP.1 hq
  have := h.F.ln
  have := h.G.ln
  exact ⟨i, k, by omega, by omega, rfl⟩
theorem pbEs_at {s : Co} (h : CoOk s) {q : Int × Int} (hq : q ∈ pbEs s) : ∃ i k : Nat, i < s.B.edges.length ∧ k < s.C.edges.length ∧ q = ((i : Int), (k : Int)) := by
  obtain ⟨i, k, h1, h2, h3, rfl⟩ := mem_pbP.1 hq
  have := h.F.le
  have := h.G.le
  exact ⟨i, k, by omega, by omega, rfl⟩
end Go.Proofs.YthcnpnogfblkcaaGreat

/- Contract: the program's standard pullback. -/
namespace Go.Proofs.YthcnpnogfblkcaaGreat
open Abs
set_option linter.unusedSimpArgs false
set_option linter.unusedVariables false
attribute [local simp] rn0 rn1 rn2 rn3 rn4 rn5 rn6 rn7 evOp nests Arg.ev St.val St.set St.new sliceOf binInt2 binInt AV.cells rdAt St.live retOf resOf resAll treeOf treeCell treeCells treeTups untree frameOf TV.av TR.av ints edgs prs fillV splice intsOf trees V1.tree bx Gr.v Pa.v opRd opWr opNew opNewR opArgs argsRd argRd Arg.rd AV.refs V1.refs refsL dstL

def c_pof : MFunc := ⟨115, [.cell 2 true 4, .tmp 3], .seq (.region [⟨some 1, .box 0 80 (.tmp 0), none⟩, ⟨some 2, .alloc 1 112 [.nil, .nil, .nil, .nil], none⟩, ⟨some 3, .mv (.c (.one (.t (.int .i64 0)))), none⟩]) (.seq (.seq (.region [⟨some 12, .load true 10 (.tmp 1), none⟩, ⟨some 13, .call (.c (.one (.fn 125 []))) 65 [.tmp 12], none⟩, ⟨some 4, .mv (.tmp 13), none⟩]) (.seq (.region [⟨some 14, .mv (.tmp 4), none⟩, ⟨some 15, .bin .neq (.tmp 14) (.c (.one (.t (.int .i64 0)))), none⟩]) (.cond (.tmp 15) (.seq (.region [⟨some 16, .build [.nil, .nil, .nil, .nil] [], none⟩, ⟨some 17, .mv (.tmp 4), none⟩, ⟨none, .store 4 (.tmp 2) (.tmp 16), none⟩, ⟨some 3, .mv (.tmp 17), none⟩]) .ret) .skip))) (.seq (.draw [[], [0], [1], [], [3], [4], [2, 5], [], [7], [8], [], [10], [11], [9, 12, 6], [6, 13], [], [15, 14, 13, 0, 1, 2, 3, 4, 5, 6, 7, 8, 9, 10, 11, 12, 13, 14, 15]] [⟨some 18, .fieldA 6 (.tmp 1), none⟩, ⟨some 19, .fieldA 0 (.tmp 18), none⟩, ⟨some 20, .load false 1 (.tmp 19), none⟩, ⟨some 21, .fieldA 8 (.tmp 1), none⟩, ⟨some 22, .fieldA 0 (.tmp 21), none⟩, ⟨some 23, .load false 1 (.tmp 22), none⟩, ⟨some 24, .call (.c (.one (.fn 126 []))) 262 [.tmp 20, .tmp 23], none⟩, ⟨some 25, .fieldA 6 (.tmp 1), none⟩, ⟨some 26, .fieldA 1 (.tmp 25), none⟩, ⟨some 27, .load false 1 (.tmp 26), none⟩, ⟨some 28, .fieldA 8 (.tmp 1), none⟩, ⟨some 29, .fieldA 1 (.tmp 28), none⟩, ⟨some 30, .load false 1 (.tmp 29), none⟩, ⟨some 31, .call (.c (.one (.fn 126 []))) 269 [.tmp 27, .tmp 30], none⟩, ⟨some 32, .build [.nil, .nil, .nil, .nil] [(0, (1, .tmp 24)), (1, (1, .tmp 31))], none⟩, ⟨some 5, .alloc 271 112 [.nil, .nil, .nil, .nil], none⟩, ⟨none, .store 4 (.tmp 5) (.tmp 32), none⟩]) (.seq (.seq (.region [⟨some 33, .fieldA 0 (.tmp 5), none⟩, ⟨some 34, .load false 1 (.tmp 33), none⟩, ⟨some 35, .len (.tmp 34), none⟩, ⟨some 36, .bin .gtr (.tmp 35) (.c (.one (.t (.int .i64 40)))), none⟩, ⟨some 37, .mv (.tmp 36), none⟩, ⟨some 38, .fieldA 1 (.tmp 5), some (37, false)⟩, ⟨some 39, .load false 1 (.tmp 38), some (37, false)⟩, ⟨some 40, .len (.tmp 39), some (37, false)⟩, ⟨some 41, .bin .gtr (.tmp 40) (.c (.one (.t (.int .i64 80)))), some (37, false)⟩, ⟨some 42, .pick (.tmp 37) (.c (.one (.t (.bool true)))) (.tmp 41), none⟩]) (.cond (.tmp 42) (.seq (.region [⟨some 43, .build [.nil, .nil, .nil, .nil] [], none⟩, ⟨none, .store 4 (.tmp 2) (.tmp 43), none⟩, ⟨some 3, .mv (.c (.one (.t (.int .i64 3)))), none⟩]) .ret) .skip)) (.seq (.seq (.region [⟨some 44, .fieldA 0 (.tmp 5), none⟩, ⟨some 45, .load false 1 (.tmp 44), none⟩, ⟨some 46, .len (.tmp 45), none⟩, ⟨some 47, .mv (.c (.one (.t (.int .i64 0)))), none⟩]) (.block 0 (.loop (.seq (.region [⟨some 48, .bin .lss (.tmp 47) (.tmp 46), none⟩]) (.seq (.cond (.tmp 48) .skip (.exit 0)) (.seq (.block 1 (.seq (.region [⟨some 49, .idxA 2 (.tmp 45) (.tmp 47), none⟩, ⟨some 50, .load true 2 (.tmp 49), none⟩, ⟨some 7, .alloc 578 121 [.t (.int .i64 0), .t (.int .i64 0)], none⟩, ⟨none, .store 2 (.tmp 7) (.tmp 50), none⟩]) (.draw [[], [0], [1], [], [3], [4], [], [6], [5, 7], [8], [9], [2, 10], [0, 1, 2, 3, 4, 5, 6, 7, 8, 9, 10, 11], [12, 0, 1, 2, 3, 4, 5, 6, 7, 8, 9, 10, 11], [13, 11, 11, 0, 1, 2, 3, 4, 5, 6, 7, 8, 9, 10, 11]] [⟨some 51, .fieldA 2 (.tmp 5), none⟩, ⟨some 52, .fieldA 0 (.tmp 51), none⟩, ⟨some 53, .load false 1 (.tmp 52), none⟩, ⟨some 54, .fieldA 0 (.tmp 1), none⟩, ⟨some 55, .fieldA 0 (.tmp 54), none⟩, ⟨some 56, .load false 1 (.tmp 55), none⟩, ⟨some 57, .fieldA 0 (.tmp 7), none⟩, ⟨some 58, .load false 1 (.tmp 57), none⟩, ⟨some 59, .idxA 1 (.tmp 56) (.tmp 58), none⟩, ⟨some 60, .load false 1 (.tmp 59), none⟩, ⟨some 61, .mkrow 650 3 1 1 [.t (.int .i64 0)] [(0, (1, .tmp 60))], none⟩, ⟨some 62, .append 651 3 1 8 (.tmp 53) (.tmp 61), none⟩, ⟨some 63, .fieldA 2 (.tmp 5), none⟩, ⟨some 64, .fieldA 0 (.tmp 63), none⟩, ⟨none, .store 1 (.tmp 64) (.tmp 62), none⟩]))) (.region [⟨some 65, .bin .add (.tmp 47) (.c (.one (.t (.int .i64 1)))), none⟩, ⟨some 47, .mv (.tmp 65), none⟩]))))))) (.seq (.seq (.region [⟨some 66, .fieldA 1 (.tmp 5), none⟩, ⟨some 67, .load false 1 (.tmp 66), none⟩, ⟨some 68, .len (.tmp 67), none⟩, ⟨some 69, .mv (.c (.one (.t (.int .i64 0)))), none⟩]) (.block 2 (.loop (.seq (.region [⟨some 70, .bin .lss (.tmp 69) (.tmp 68), none⟩]) (.seq (.cond (.tmp 70) .skip (.exit 2)) (.seq (.block 3 (.seq (.region [⟨some 71, .idxA 2 (.tmp 67) (.tmp 69), none⟩, ⟨some 72, .load true 2 (.tmp 71), none⟩, ⟨some 9, .alloc 898 121 [.t (.int .i64 0), .t (.int .i64 0)], none⟩, ⟨none, .store 2 (.tmp 9) (.tmp 72), none⟩]) (.seq (.draw [[], [0], [1], [], [3], [2, 4], [5], [], [7], [8], [], [10], [9, 11], [12], [], [], [14, 6, 0, 1, 2, 3, 4, 5, 6, 14, 15], [15, 13, 16, 0, 1, 2, 3, 4, 5, 6, 7, 8, 9, 10, 11, 12, 13, 14, 15, 16]] [⟨some 73, .fieldA 0 (.tmp 1), none⟩, ⟨some 74, .fieldA 1 (.tmp 73), none⟩, ⟨some 75, .load false 1 (.tmp 74), none⟩, ⟨some 76, .fieldA 0 (.tmp 9), none⟩, ⟨some 77, .load false 1 (.tmp 76), none⟩, ⟨some 78, .idxA 3 (.tmp 75) (.tmp 77), none⟩, ⟨some 79, .load true 3 (.tmp 78), none⟩, ⟨some 80, .fieldA 2 (.tmp 1), none⟩, ⟨some 81, .fieldA 1 (.tmp 80), none⟩, ⟨some 82, .load false 1 (.tmp 81), none⟩, ⟨some 83, .fieldA 1 (.tmp 9), none⟩, ⟨some 84, .load false 1 (.tmp 83), none⟩, ⟨some 85, .idxA 3 (.tmp 82) (.tmp 84), none⟩, ⟨some 86, .load true 3 (.tmp 85), none⟩, ⟨some 10, .alloc 974 76 [.t (.int .i64 0), .t (.int .i64 0), .t (.int .i64 0)], none⟩, ⟨some 11, .alloc 975 76 [.t (.int .i64 0), .t (.int .i64 0), .t (.int .i64 0)], none⟩, ⟨none, .store 3 (.tmp 10) (.tmp 79), none⟩, ⟨none, .store 3 (.tmp 11) (.tmp 86), none⟩]) (.draw [[], [0], [1], [], [3], [], [5], [], [7], [], [9], [8, 10], [6, 11], [], [13], [], [15], [], [17], [16, 18], [14, 19, 12], [4, 12, 20], [21], [2, 22, 20], [0, 1, 2, 3, 4, 5, 6, 7, 8, 9, 10, 11, 12, 13, 14, 15, 16, 17, 18, 19, 20, 21, 22, 23], [24, 0, 1, 2, 3, 4, 5, 6, 7, 8, 9, 10, 11, 12, 13, 14, 15, 16, 17, 18, 19, 20, 21, 22, 23], [25, 23, 23, 0, 1, 2, 3, 4, 5, 6, 7, 8, 9, 10, 11, 12, 13, 14, 15, 16, 17, 18, 19, 20, 21, 22, 23]] [⟨some 87, .fieldA 2 (.tmp 5), none⟩, ⟨some 88, .fieldA 1 (.tmp 87), none⟩, ⟨some 89, .load false 1 (.tmp 88), none⟩, ⟨some 90, .fieldA 0 (.tmp 10), none⟩, ⟨some 91, .load false 1 (.tmp 90), none⟩, ⟨some 92, .fieldA 0 (.tmp 5), none⟩, ⟨some 93, .load false 1 (.tmp 92), none⟩, ⟨some 94, .fieldA 1 (.tmp 10), none⟩, ⟨some 95, .load false 1 (.tmp 94), none⟩, ⟨some 96, .fieldA 1 (.tmp 11), none⟩, ⟨some 97, .load false 1 (.tmp 96), none⟩, ⟨some 98, .build [.t (.int .i64 0), .t (.int .i64 0)] [(0, (1, .tmp 95)), (1, (1, .tmp 97))], none⟩, ⟨some 99, .call (.c (.one (.fn 127 []))) 1036 [.tmp 93, .tmp 98], none⟩, ⟨some 100, .fieldA 0 (.tmp 5), none⟩, ⟨some 101, .load false 1 (.tmp 100), none⟩, ⟨some 102, .fieldA 2 (.tmp 10), none⟩, ⟨some 103, .load false 1 (.tmp 102), none⟩, ⟨some 104, .fieldA 2 (.tmp 11), none⟩, ⟨some 105, .load false 1 (.tmp 104), none⟩, ⟨some 106, .build [.t (.int .i64 0), .t (.int .i64 0)] [(0, (1, .tmp 103)), (1, (1, .tmp 105))], none⟩, ⟨some 107, .call (.c (.one (.fn 127 []))) 1044 [.tmp 101, .tmp 106], none⟩, ⟨some 108, .build [.t (.int .i64 0), .t (.int .i64 0), .t (.int .i64 0)] [(0, (1, .tmp 91)), (1, (1, .tmp 99)), (2, (1, .tmp 107))], none⟩, ⟨some 109, .mkrow 1046 76 3 1 [.t (.int .i64 0), .t (.int .i64 0), .t (.int .i64 0)] [(0, (3, .tmp 108))], none⟩, ⟨some 110, .append 1047 76 3 24 (.tmp 89) (.tmp 109), none⟩, ⟨some 111, .fieldA 2 (.tmp 5), none⟩, ⟨some 112, .fieldA 1 (.tmp 111), none⟩, ⟨none, .store 1 (.tmp 112) (.tmp 110), none⟩])))) (.region [⟨some 113, .bin .add (.tmp 69) (.c (.one (.t (.int .i64 1)))), none⟩, ⟨some 69, .mv (.tmp 113), none⟩]))))))) (.seq (.region [⟨some 114, .load true 4 (.tmp 5), none⟩, ⟨none, .store 4 (.tmp 2) (.tmp 114), none⟩, ⟨some 3, .mv (.c (.one (.t (.int .i64 0)))), none⟩]) .ret))))))⟩
theorem k_pof : cFn Tryz.prog Tryz.f84 = some c_pof := by kernel_rfl
set_option maxHeartbeats 4000000 in
theorem pof_ok (s : Co) (h : TinyCo s) : CallOK Tryz.prog 84 [s.v] (.tup [pbQv s, (false, [.int .i64 (pbErr s)])]) := by
  refine callOK_W (callS_W (by kernel_rfl) Tryz.func84 k_pof (callable_of Tryz.func84 (by kernel_rfl)) (by simp [c_pof]) ?_)
  simp [c_pof, Co.v, Co.cs]
  refine callS_tree (pgiven_ok s h) ?_ ?_ ?_
  · rfl
  · rfl
  by_cases h1 : coErr s = 0
  case neg =>
    have e1 : pbErr s = coErr s := by simp [pbErr, h1]
    have e2 : pbQ s = ([], [], ⟨[], []⟩) := by simp [pbQ, e1, h1]
    simp [h1, e1, pbQv, e2, prL, edL]
  have ok := coErr_ok h1
  have b1 := ok.F.ga.n
  have b2 := ok.F.ga.e
  have b3 := ok.G.ga.n
  have b4 := ok.G.ga.e
  have b5 := ok.F.ln
  have b6 := ok.F.le
  have b7 := ok.G.ln
  have b8 := ok.G.le
  simp [dw0, dw1, dw2, dw3, h1]
  refine dCall_ok (callOK_of_row (pbpairs_row s.F.nodes s.G.nodes (by omega) (by omega))) ?_ ?_ ?_
  · rfl
  · rfl
  simp [dw0, dw1, dw2, dw3]
  refine dCall_ok (callOK_of_row (pbpairs_row s.F.edges s.G.edges (by omega) (by omega))) ?_ ?_ ?_
  · rfl
  · rfl
  simp [dw0, dw1, dw2, dw3]
  refine ⟨rfl, ?_⟩
  have en : pbP s.F.nodes s.G.nodes = pbNs s := rfl
  have ee : pbP s.F.edges s.G.edges = pbEs s := rfl
  rw [en, ee]
  by_cases hb : pbBig s
  case pos =>
    have e1 : pbErr s = 3 := by simp [pbErr, h1, hb]
    have e2 : pbQ s = ([], [], ⟨[], []⟩) := by simp [pbQ, e1]
    by_cases q1 : 40 < (pbNs s).length
    · have q1' : (40 : Int) < (pbNs s).length := by omega
      simp [q1, q1', e1, pbQv, e2, prL, edL]
    · have q2 : 80 < (pbEs s).length := hb.resolve_left q1
      have q1' : ¬ (40 : Int) < (pbNs s).length := by omega
      have q2' : (80 : Int) < (pbEs s).length := by omega
      simp [q1, q1', q2, q2', e1, pbQv, e2, prL, edL]
  have hn : (pbNs s).length ≤ 40 := by simp only [pbBig] at hb; omega
  have he : (pbEs s).length ≤ 80 := by simp only [pbBig] at hb; omega
  have n1 : ¬ (40 : Int) < (pbNs s).length := by omega
  have n2 : ¬ (80 : Int) < (pbEs s).length := by omega
  have n3 : ¬ 40 < (pbNs s).length := by omega
  have n4 : ¬ 80 < (pbEs s).length := by omega
  have e1 : pbErr s = 0 := by simp [pbErr, h1, hb]
  have e2 : pbQ s = (pbNs s, pbEs s, pbG s) := by simp [pbQ, e1]
  simp [n1, n2, n3, n4]
  refine loopW_count 47 (pbNs s).length (fun k S => S.fr 1 = .one (.ptr (0, 0) 0) ∧ S.fr 2 = .one (.ptr (1, 0) 0) ∧ S.fr 5 = .one (.ptr (271, 0) 0) ∧ S.fr 45 = .one (.t (prs (pbNs s))) ∧ S.fr 46 = .one (.t (.int .i64 (pbNs s).length)) ∧
    S.ob (0, 0) = some (bx 80 (s.cs.map .t)) ∧ S.ob (1, 0) = some (bx 112 [.nil, .nil, .nil, .nil]) ∧
    ∃ vN, S.ob (271, 0) = some (bx 112 [.t (prs (pbNs s)), .t (prs (pbEs s)), vN, .nil]) ∧ outR 651 3 1 (mapP (pbNode s) (pbNs s) k).length ((mapP (pbNode s) (pbNs s) k).map (.int .i64)) S.ob (.one vN)) (by omega) ?_ ?_ ?_
  · simp [Co.cs, mapP_zero, outR_nil]
  · rintro k S hlt hw hc ⟨f1, f2, f5, f45, f46, o0, o1, vN, o271, ho⟩
    have hlt2 : k * 2 < (pbNs s).length * 2 := by omega
    obtain ⟨i, j, hi, hj, hq⟩ := pbNs_at ok (pth_mem hlt)
    have z1 := mapP_len (f := pbNode s) (l := pbNs s) (k := k)
    have hmt := mapP_succ (f := pbNode s) hlt
    have eN : pbNode s (pth (pbNs s) k) = nth s.B.nodes i := by rw [hq]; rfl
    rw [eN] at hmt
    have ho0 := ho
    rcases ho with ⟨a1, _, a3⟩ | ⟨a1, ga, a3, a4⟩
    all_goals
      cases a3
      simp [dw0, dw1, dw2, dw3, Co.cs, f1, f2, f5, f45, f46, o0, o1, o271, hc, hlt, hlt2, drop_prL hlt, hq, hi, drop_nth hi]
      refine kApp_grow (ts := [.int .i64 (nth s.B.nodes i)]) rfl (ho0.keep fun g => by simp) (by omega) rfl (by omega) (by omega) fun E hE hob hcnt => ?_
      obtain ⟨u, hu⟩ := hE.one
      rw [hu] at hE
      simp [dw0, dw1, dw2, dw3, Co.cs, f1, f2, f5, f45, f46, o0, o1, o271, hc, hob, hu]
      refine ⟨rfl, ?_⟩
      simp [Co.cs, f1, f2, f5, f45, f46, o0, o1, o271, hc, hw, hob, hu, hmt]
      exact outR.keep (by simpa using hE) fun g => by simp
  · rintro S hc ⟨f1, f2, f5, f45, f46, o0, o1, vN, o271, ho⟩
    rw [mapP_all] at ho
    simp [Co.cs, f1, f2, f5, f45, f46, o0, o1, o271, hc]
    refine loopW_count 69 (pbEs s).length (fun k S => S.fr 1 = .one (.ptr (0, 0) 0) ∧ S.fr 2 = .one (.ptr (1, 0) 0) ∧ S.fr 5 = .one (.ptr (271, 0) 0) ∧ S.fr 67 = .one (.t (prs (pbEs s))) ∧ S.fr 68 = .one (.t (.int .i64 (pbEs s).length)) ∧
      S.ob (0, 0) = some (bx 80 (s.cs.map .t)) ∧ S.ob (1, 0) = some (bx 112 [.nil, .nil, .nil, .nil]) ∧
      outR 651 3 1 ((pbNs s).map (pbNode s)).length (((pbNs s).map (pbNode s)).map (.int .i64)) S.ob (.one vN) ∧
      ∃ vE, S.ob (271, 0) = some (bx 112 [.t (prs (pbNs s)), .t (prs (pbEs s)), vN, vE]) ∧ outR 1047 76 3 (mapP (pbEdge s) (pbEs s) k).length (edL (mapP (pbEdge s) (pbEs s) k)) S.ob (.one vE)) (by omega) ?_ ?_ ?_
    · simp [Co.cs, f1, f2, f5, o0, o1, o271, mapP_zero, edL, outR_nil]
      simpa using ho
    · rintro k S hlt hw hc ⟨f1, f2, f5, f67, f68, o0, o1, ho, vE, o271, hx⟩
      have hlt2 : k * 2 < (pbEs s).length * 2 := by omega
      obtain ⟨i, j, hi, hj, hq⟩ := pbEs_at ok (pth_mem hlt)
      have hi3 : i * 3 < s.B.edges.length * 3 := by omega
      have hj3 : j * 3 < s.C.edges.length * 3 := by omega
      have z1 := mapP_len (f := pbEdge s) (l := pbEs s) (k := k)
      have hmt := mapP_succ (f := pbEdge s) hlt
      have eE : pbEdge s (pth (pbEs s) k) = ⟨(eth s.B.edges i).t, idxP (pbNs s) ((eth s.B.edges i).f, (eth s.C.edges j).f), idxP (pbNs s) ((eth s.B.edges i).g, (eth s.C.edges j).g)⟩ := by rw [hq]; rfl
      rw [eE] at hmt
      have hx0 := hx
      rcases hx with ⟨a1, _, a3⟩ | ⟨a1, ga, a3, a4⟩
      all_goals
        cases a3
        simp [dw0, dw1, dw2, dw3, Co.cs, f1, f2, f5, f67, f68, o0, o1, o271, hc, hlt, hlt2, drop_prL hlt, hq, hi, hj, hi3, hj3, drop_edL hi, drop_edL hj]
        refine ⟨rfl, ?_⟩
        refine dCall_ok (indexP_ok (pbNs s) (eth s.B.edges i).f (eth s.C.edges j).f (by simp only [tiny]; omega)) ?_ ?_ ?_
        · rfl
        · rfl
        simp [dw0, dw1, dw2, dw3, Co.cs, f1, f2, f5, f67, f68, o0, o1, o271, hc]
        refine dCall_ok (indexP_ok (pbNs s) (eth s.B.edges i).g (eth s.C.edges j).g (by simp only [tiny]; omega)) ?_ ?_ ?_
        · rfl
        · rfl
        simp [dw0, dw1, dw2, dw3, Co.cs, f1, f2, f5, f67, f68, o0, o1, o271, hc]
        refine kApp_grow (ts := edC ⟨(eth s.B.edges i).t, idxP (pbNs s) ((eth s.B.edges i).f, (eth s.C.edges j).f), idxP (pbNs s) ((eth s.B.edges i).g, (eth s.C.edges j).g)⟩) rfl (hx0.keep fun g => by simp) (by omega) rfl (by omega) (by omega) fun E hE hob hcnt => ?_
        obtain ⟨u, hu⟩ := hE.one
        rw [hu] at hE
        have ho2 := ho.keep (ob' := E.ob) fun g => by rw [hob _ _ (by decide)]; simp
        simp [dw0, dw1, dw2, dw3, Co.cs, f1, f2, f5, f67, f68, o0, o1, o271, hc, hob, hu]
        refine ⟨rfl, ?_⟩
        simp [Co.cs, f1, f2, f5, f67, f68, o0, o1, o271, hc, hw, hob, hu, hmt]
        refine ⟨outR.keep (by simpa using ho2) fun g => by simp, outR.keep (by simpa [edL, Nat.add_assoc] using hE) fun g => by simp⟩
    · rintro S hc ⟨f1, f2, f5, f67, f68, o0, o1, ho, vE, o271, hx⟩
      rw [mapP_all] at hx
      have t1 := fun (ob' : Nm → Option Ob) (h : ∀ g, ob' (651, g) = S.ob (651, g)) => (ho.keep h).tree (by simp)
      have t2 := fun (ob' : Nm → Option Ob) (h : ∀ g, ob' (1047, g) = S.ob (1047, g)) => (hx.keep h).treeC
      simp [Co.cs, f1, f2, f5, f67, f68, o0, o1, o271, hc, -treeCell, treeCell_t]
      rw [t1 _ (fun g => by simp), t2 _ (fun g => by simp)]
      simp [pbQv, e1, e2, pbG]
end Go.Proofs.YthcnpnogfblkcaaGreat

/- Contracts: the standard pullback with its sides; where pairs meet. -/
namespace Go.Proofs.YthcnpnogfblkcaaGreat
open Abs
set_option linter.unusedSimpArgs false
set_option linter.unusedVariables false
attribute [local simp] rn0 rn1 rn2 rn3 rn4 rn5 rn6 rn7 evOp nests Arg.ev St.val St.set St.new sliceOf binInt2 binInt AV.cells rdAt St.live retOf resOf resAll treeOf treeCell treeCells treeTups untree frameOf TV.av TR.av ints edgs prs fillV splice intsOf trees V1.tree bx Gr.v Pa.v opRd opWr opNew opNewR opArgs argsRd argRd Arg.rd AV.refs V1.refs refsL dstL

/-- The standard pullback with its sides, or an error. -/
def pbR (s : Co) : Gr × Pa × Pa × Int := if pbErr s = 0 then (pbG s, ⟨fstL (pbNs s), fstL (pbEs s)⟩, ⟨sndL (pbNs s), sndL (pbEs s)⟩, 0) else (⟨[], []⟩, ⟨[], []⟩, ⟨[], []⟩, pbErr s)
def pbRt (s : Co) : TR := .tup [(pbR s).1.v, (pbR s).2.1.v, (pbR s).2.2.1.v, (false, [.int .i64 (pbR s).2.2.2])]
theorem pbErr_few {s : Co} (h : pbErr s = 0) : CoOk s ∧ (pbNs s).length ≤ 40 ∧ (pbEs s).length ≤ 80 := by
  unfold pbErr at h
  split at h
  · rename_i h1
    split at h
    · cases h
    · rename_i h2
      simp only [pbBig] at h2
      exact ⟨coErr_ok h1, by omega, by omega⟩
  · rename_i h1
    exact absurd h h1

def c_pOf : MFunc := ⟨41, [.cell 2 true 2, .cell 3 true 2, .cell 4 true 2, .tmp 5], .seq (.region [⟨some 1, .box 0 80 (.tmp 0), none⟩, ⟨some 2, .alloc 1 25 [.nil, .nil], none⟩, ⟨some 3, .alloc 2 27 [.nil, .nil], none⟩, ⟨some 4, .alloc 3 27 [.nil, .nil], none⟩, ⟨some 5, .mv (.c (.one (.t (.int .i64 0)))), none⟩]) (.seq (.region [⟨some 11, .load true 10 (.tmp 1), none⟩, ⟨some 12, .call (.c (.one (.fn 84 []))) 65 [.tmp 11], none⟩, ⟨some 10, .mv (.tmp 12), none⟩, ⟨some 13, .extract (.tmp 10) 0, none⟩, ⟨some 14, .extract (.tmp 10) 1, none⟩, ⟨some 6, .alloc 69 112 [.nil, .nil, .nil, .nil], none⟩, ⟨none, .store 4 (.tmp 6) (.tmp 13), none⟩, ⟨some 7, .mv (.tmp 14), none⟩]) (.seq (.seq (.region [⟨some 15, .mv (.tmp 7), none⟩, ⟨some 16, .bin .neq (.tmp 15) (.c (.one (.t (.int .i64 0)))), none⟩]) (.cond (.tmp 16) (.seq (.region [⟨some 17, .build [.nil, .nil] [], none⟩, ⟨some 18, .build [.nil, .nil] [], none⟩, ⟨some 19, .build [.nil, .nil] [], none⟩, ⟨some 20, .mv (.tmp 7), none⟩, ⟨none, .store 2 (.tmp 2) (.tmp 17), none⟩, ⟨none, .store 2 (.tmp 3) (.tmp 18), none⟩, ⟨none, .store 2 (.tmp 4) (.tmp 19), none⟩, ⟨some 5, .mv (.tmp 20), none⟩]) .ret) .skip)) (.seq (.region [⟨some 8, .alloc 256 27 [.nil, .nil], none⟩, ⟨some 9, .alloc 257 27 [.nil, .nil], none⟩]) (.seq (.region [⟨some 22, .fieldA 0 (.tmp 6), none⟩, ⟨some 23, .load false 1 (.tmp 22), none⟩, ⟨some 24, .call (.c (.one (.fn 97 []))) 322 [.tmp 23], none⟩, ⟨some 21, .mv (.tmp 24), none⟩, ⟨some 25, .extract (.tmp 21) 0, none⟩, ⟨some 26, .extract (.tmp 21) 1, none⟩, ⟨some 27, .fieldA 0 (.tmp 8), none⟩, ⟨none, .store 1 (.tmp 27) (.tmp 25), none⟩, ⟨some 28, .fieldA 0 (.tmp 9), none⟩, ⟨none, .store 1 (.tmp 28) (.tmp 26), none⟩]) (.seq (.region [⟨some 30, .fieldA 1 (.tmp 6), none⟩, ⟨some 31, .load false 1 (.tmp 30), none⟩, ⟨some 32, .call (.c (.one (.fn 97 []))) 386 [.tmp 31], none⟩, ⟨some 29, .mv (.tmp 32), none⟩, ⟨some 33, .extract (.tmp 29) 0, none⟩, ⟨some 34, .extract (.tmp 29) 1, none⟩, ⟨some 35, .fieldA 1 (.tmp 8), none⟩, ⟨none, .store 1 (.tmp 35) (.tmp 33), none⟩, ⟨some 36, .fieldA 1 (.tmp 9), none⟩, ⟨none, .store 1 (.tmp 36) (.tmp 34), none⟩]) (.seq (.draw [[], [0], [], [], [1, 0, 1], [2, 4, 0, 1, 2, 4], [3, 5, 0, 1, 2, 3, 4, 5], [6, 0, 1, 2, 3, 4, 5, 6]] [⟨some 37, .fieldA 2 (.tmp 6), none⟩, ⟨some 38, .load true 2 (.tmp 37), none⟩, ⟨some 39, .load true 2 (.tmp 8), none⟩, ⟨some 40, .load true 2 (.tmp 9), none⟩, ⟨none, .store 2 (.tmp 2) (.tmp 38), none⟩, ⟨none, .store 2 (.tmp 3) (.tmp 39), none⟩, ⟨none, .store 2 (.tmp 4) (.tmp 40), none⟩, ⟨some 5, .mv (.c (.one (.t (.int .i64 0)))), none⟩]) .ret))))))⟩
theorem k_pOf : cFn Tryz.prog Tryz.f56 = some c_pOf := by kernel_rfl
theorem pOf_ok (s : Co) (h : TinyCo s) : CallOK Tryz.prog 56 [s.v] (pbRt s) := by
  refine callOK_W (callS_W (by kernel_rfl) Tryz.func56 k_pOf (callable_of Tryz.func56 (by kernel_rfl)) (by simp [c_pOf]) ?_)
  simp [c_pOf, Co.v, Co.cs]
  refine callS_tree (pof_ok s h) ?_ ?_ ?_
  · rfl
  · rfl
  by_cases h1 : pbErr s = 0
  case neg =>
    have e2 : pbQ s = ([], [], ⟨[], []⟩) := by simp [pbQ, h1]
    have e3 : pbR s = (⟨[], []⟩, ⟨[], []⟩, ⟨[], []⟩, pbErr s) := by simp [pbR, h1]
    simp [h1, pbQv, e2, pbRt, e3, edL]
  obtain ⟨ok, hn, he⟩ := pbErr_few h1
  have e2 : pbQ s = (pbNs s, pbEs s, pbG s) := by simp [pbQ, h1]
  have e3 : pbR s = (pbG s, ⟨fstL (pbNs s), fstL (pbEs s)⟩, ⟨sndL (pbNs s), sndL (pbEs s)⟩, 0) := by simp [pbR, h1]
  simp [h1, pbQv, e2]
  refine callS_tree (psides_ok (pbNs s) (by simp only [tiny]; omega)) ?_ ?_ ?_
  · rfl
  · rfl
  simp
  refine callS_tree (psides_ok (pbEs s) (by simp only [tiny]; omega)) ?_ ?_ ?_
  · rfl
  · rfl
  simp [dw0, dw1, dw2, dw3, pbRt, e3]
  rfl

/-- The places of pairs, or not all are there. -/
def meetL (l : List (Int × Int)) (h k : List Int) (n : Nat) : List Int := (List.range n).map fun i => idxP l (nth h i, nth k i)
def meetAll (l : List (Int × Int)) (h k : List Int) (n : Nat) : Prop := ∀ i, i < n → (nth h i, nth k i) ∈ l
instance (l : List (Int × Int)) (h k : List Int) (n : Nat) : Decidable (meetAll l h k n) := inferInstanceAs (Decidable (∀ i, i < n → _))
def meetR (l : List (Int × Int)) (h k : List Int) : List Int × Bool := if meetAll l h k h.length then (meetL l h k h.length, true) else ([], false)
theorem meetL_succ {l : List (Int × Int)} {h k : List Int} {n : Nat} : meetL l h k (n + 1) = meetL l h k n ++ [idxP l (nth h n, nth k n)] := by simp [meetL, List.range_succ]
theorem meetL_len {l : List (Int × Int)} {h k : List Int} {n : Nat} : (meetL l h k n).length = n := by simp [meetL]

def c_meet : MFunc := ⟨35, [.tmp 6, .tmp 7], .seq (.region [⟨some 6, .mv (.c (.one .nil)), none⟩, ⟨some 7, .mv (.c (.one (.t (.bool false)))), none⟩]) (.seq (.region [⟨some 8, .mv (.c (.one .nil)), none⟩]) (.seq (.seq (.region [⟨some 11, .mv (.tmp 1), none⟩, ⟨some 12, .len (.tmp 11), none⟩, ⟨some 13, .mv (.c (.one (.t (.int .i64 0)))), none⟩]) (.block 0 (.loop (.seq (.region [⟨some 14, .bin .lss (.tmp 13) (.tmp 12), none⟩]) (.seq (.cond (.tmp 14) .skip (.exit 0)) (.seq (.block 1 (.seq (.region [⟨some 15, .mv (.tmp 13), none⟩, ⟨some 9, .mv (.tmp 15), none⟩]) (.seq (.draw [[], [], [], [1, 2], [3], [], [], [5, 6], [7], [4, 8], [0, 9], [10, 10, 0, 1, 2, 3, 4, 5, 6, 7, 8, 9, 10]] [⟨some 16, .mv (.tmp 0), none⟩, ⟨some 17, .mv (.tmp 1), none⟩, ⟨some 18, .mv (.tmp 9), none⟩, ⟨some 19, .idxA 1 (.tmp 17) (.tmp 18), none⟩, ⟨some 20, .load false 1 (.tmp 19), none⟩, ⟨some 21, .mv (.tmp 2), none⟩, ⟨some 22, .mv (.tmp 9), none⟩, ⟨some 23, .idxA 1 (.tmp 21) (.tmp 22), none⟩, ⟨some 24, .load false 1 (.tmp 23), none⟩, ⟨some 25, .build [.t (.int .i64 0), .t (.int .i64 0)] [(0, (1, .tmp 20)), (1, (1, .tmp 24))], none⟩, ⟨some 26, .call (.c (.one (.fn 127 []))) 330 [.tmp 16, .tmp 25], none⟩, ⟨some 10, .mv (.tmp 26), none⟩]) (.seq (.seq (.region [⟨some 27, .mv (.tmp 10), none⟩, ⟨some 28, .bin .lss (.tmp 27) (.c (.one (.t (.int .i64 0)))), none⟩]) (.cond (.tmp 28) (.seq (.region [⟨some 6, .mv (.c (.one .nil)), none⟩, ⟨some 7, .mv (.c (.one (.t (.bool false)))), none⟩]) .ret) .skip)) (.region [⟨some 29, .mv (.tmp 8), none⟩, ⟨some 30, .mv (.tmp 10), none⟩, ⟨some 31, .mkrow 514 3 1 1 [.t (.int .i64 0)] [(0, (1, .tmp 30))], none⟩, ⟨some 32, .append 515 3 1 8 (.tmp 29) (.tmp 31), none⟩, ⟨some 8, .mv (.tmp 32), none⟩]))))) (.region [⟨some 33, .bin .add (.tmp 13) (.c (.one (.t (.int .i64 1)))), none⟩, ⟨some 13, .mv (.tmp 33), none⟩]))))))) (.seq (.region [⟨some 34, .mv (.tmp 8), none⟩, ⟨some 6, .mv (.tmp 34), none⟩, ⟨some 7, .mv (.c (.one (.t (.bool true)))), none⟩]) .ret)))⟩
theorem k_meet : cFn Tryz.prog Tryz.f85 = some c_meet := by kernel_rfl
theorem meet_ok (l : List (Int × Int)) (h k : List Int) (hl : tiny l.length) (hh : tiny h.length) (hk : h.length ≤ k.length) : CallOK Tryz.prog 85 [(false, [prs l]), (false, [ints h]), (false, [ints k])]
    (.tup [(false, [ints (meetR l h k).1]), (false, [.bool (meetR l h k).2])]) := by
  refine callOK_W (callS_W (by kernel_rfl) Tryz.func85 k_meet (callable_of Tryz.func85 (by kernel_rfl)) (by simp [c_meet]) ?_)
  simp [c_meet]
  refine loopW_count 13 h.length (fun i S => S.fr 0 = .one (.t (prs l)) ∧ S.fr 1 = .one (.t (ints h)) ∧ S.fr 2 = .one (.t (ints k)) ∧ S.fr 12 = .one (.t (.int .i64 h.length)) ∧ meetAll l h k i ∧
    outR 515 3 1 (meetL l h k i).length ((meetL l h k i).map (.int .i64)) S.ob (S.fr 8)) hh.small ?_ ?_ ?_
  · simp [meetL, meetAll, outR_nil]
  · rintro i S hlt hw hc ⟨f0, f1, f2, f12, hp, ho⟩
    have hlt' : i < k.length := by omega
    have z := meetL_len (l := l) (h := h) (k := k) (n := i)
    simp only [tiny] at hh
    simp [dw0, dw1, dw2, dw3, f0, f1, f2, f12, hc, hlt, hlt', drop_nth hlt, drop_nth hlt']
    refine dCall_ok (indexP_ok l (nth h i) (nth k i) hl) ?_ ?_ ?_
    · rfl
    · rfl
    by_cases e : (nth h i, nth k i) ∈ l
    · have e1 : ¬ idxP l (nth h i, nth k i) < 0 := by have := idxP_pos.2 e; omega
      simp [dw0, dw1, dw2, dw3, f0, f1, f2, f12, hc, e1]
      refine ⟨rfl, ?_⟩
      refine kApp_grow (ts := [.int .i64 (idxP l (nth h i, nth k i))]) rfl (ho.keep fun g => by simp) (by omega) rfl (by omega) (by omega) fun E hE hob hcnt => ?_
      simp [f0, f1, f2, f12, hc, hw, meetL_succ]
      exact ⟨lt_succ_all hp e, by simpa using hE⟩
    · have e1 : idxP l (nth h i, nth k i) < 0 := by rw [idxP_none e]; decide
      have e2 : meetR l h k = ([], false) := by
        unfold meetR
        rw [if_neg fun hall => e (hall i hlt)]
      simp [dw0, dw1, dw2, dw3, f0, f1, f2, f12, hc, e1, e2]
      rfl
  · rintro S hc ⟨f0, f1, f2, f12, hp, ho⟩
    obtain ⟨u, hu⟩ := ho.one
    rw [hu] at ho
    have e2 : meetR l h k = (meetL l h k h.length, true) := by
      unfold meetR
      rw [if_pos hp]
    have t := ho.tree (by simp)
    simp [f0, f1, f2, f12, hc, hu, -treeCell, treeCell_t, t, e2]
end Go.Proofs.YthcnpnogfblkcaaGreat

/- Contract: the specified pullback. -/
namespace Go.Proofs.YthcnpnogfblkcaaGreat
open Abs
set_option linter.unusedSimpArgs false
set_option linter.unusedVariables false
attribute [local simp] rn0 rn1 rn2 rn3 rn4 rn5 rn6 rn7 evOp nests Arg.ev St.val St.set St.new sliceOf binInt2 binInt AV.cells rdAt St.live retOf resOf resAll treeOf treeCell treeCells treeTups untree frameOf TV.av TR.av ints edgs prs fillV splice intsOf trees V1.tree bx Gr.v Pa.v opRd opWr opNew opNewR opArgs argsRd argRd Arg.rd AV.refs V1.refs refsL dstL

theorem take_few {α : Type} {l : List α} {n : Nat} (h : l.length ≤ n) : l.take (n + 1) = l := List.take_of_length_le (by omega)

def c_rOf : MFunc := ⟨133, [.cell 2 true 2, .cell 3 true 2, .cell 4 true 2, .tmp 5], .seq (.region [⟨some 1, .box 0 80 (.tmp 0), none⟩, ⟨some 2, .alloc 1 25 [.nil, .nil], none⟩, ⟨some 3, .alloc 2 27 [.nil, .nil], none⟩, ⟨some 4, .alloc 3 27 [.nil, .nil], none⟩, ⟨some 5, .mv (.c (.one (.t (.int .i64 0)))), none⟩]) (.seq (.seq (.region [⟨some 16, .load true 10 (.tmp 1), none⟩, ⟨some 17, .call (.c (.one (.fn 88 []))) 65 [.tmp 16], none⟩, ⟨some 6, .mv (.tmp 17), none⟩]) (.seq (.region [⟨some 18, .mv (.tmp 6), none⟩, ⟨some 19, .bin .neq (.tmp 18) (.c (.one (.t (.int .i64 0)))), none⟩]) (.cond (.tmp 19) (.seq (.region [⟨some 20, .build [.nil, .nil] [], none⟩, ⟨some 21, .build [.nil, .nil] [], none⟩, ⟨some 22, .build [.nil, .nil] [], none⟩, ⟨some 23, .mv (.tmp 6), none⟩, ⟨none, .store 2 (.tmp 2) (.tmp 20), none⟩, ⟨none, .store 2 (.tmp 3) (.tmp 21), none⟩, ⟨none, .store 2 (.tmp 4) (.tmp 22), none⟩, ⟨some 5, .mv (.tmp 23), none⟩]) .ret) .skip))) (.seq (.draw [[], [0], [1], [], [3], [4], [2, 5], [], [7], [8], [], [10], [11], [9, 12, 6], [6, 13, 0, 1, 2, 3, 4, 5, 6], [13, 14, 0, 1, 2, 3, 4, 5, 6, 7, 8, 9, 10, 11, 12, 13, 14]] [⟨some 24, .fieldA 6 (.tmp 1), none⟩, ⟨some 25, .fieldA 0 (.tmp 24), none⟩, ⟨some 26, .load false 1 (.tmp 25), none⟩, ⟨some 27, .fieldA 8 (.tmp 1), none⟩, ⟨some 28, .fieldA 0 (.tmp 27), none⟩, ⟨some 29, .load false 1 (.tmp 28), none⟩, ⟨some 30, .call (.c (.one (.fn 89 []))) 262 [.tmp 26, .tmp 29, .c (.one (.t (.int .i64 40)))], none⟩, ⟨some 31, .fieldA 6 (.tmp 1), none⟩, ⟨some 32, .fieldA 1 (.tmp 31), none⟩, ⟨some 33, .load false 1 (.tmp 32), none⟩, ⟨some 34, .fieldA 8 (.tmp 1), none⟩, ⟨some 35, .fieldA 1 (.tmp 34), none⟩, ⟨some 36, .load false 1 (.tmp 35), none⟩, ⟨some 37, .call (.c (.one (.fn 89 []))) 269 [.tmp 33, .tmp 36, .c (.one (.t (.int .i64 80)))], none⟩, ⟨some 7, .mv (.tmp 30), none⟩, ⟨some 8, .mv (.tmp 37), none⟩]) (.seq (.seq (.region [⟨some 38, .mv (.tmp 7), none⟩, ⟨some 39, .len (.tmp 38), none⟩, ⟨some 40, .bin .gtr (.tmp 39) (.c (.one (.t (.int .i64 40)))), none⟩, ⟨some 41, .mv (.tmp 40), none⟩, ⟨some 42, .mv (.tmp 8), some (41, false)⟩, ⟨some 43, .len (.tmp 42), some (41, false)⟩, ⟨some 44, .bin .gtr (.tmp 43) (.c (.one (.t (.int .i64 80)))), some (41, false)⟩, ⟨some 45, .pick (.tmp 41) (.c (.one (.t (.bool true)))) (.tmp 44), none⟩]) (.cond (.tmp 45) (.seq (.region [⟨some 46, .build [.nil, .nil] [], none⟩, ⟨some 47, .build [.nil, .nil] [], none⟩, ⟨some 48, .build [.nil, .nil] [], none⟩, ⟨none, .store 2 (.tmp 2) (.tmp 46), none⟩, ⟨none, .store 2 (.tmp 3) (.tmp 47), none⟩, ⟨none, .store 2 (.tmp 4) (.tmp 48), none⟩, ⟨some 5, .mv (.c (.one (.t (.int .i64 3)))), none⟩]) .ret) .skip)) (.seq (.region [⟨some 9, .alloc 448 25 [.nil, .nil], none⟩]) (.seq (.seq (.region [⟨some 10, .mv (.c (.one (.t (.int .i64 0)))), none⟩]) (.block 0 (.loop (.seq (.seq (.region [⟨some 49, .mv (.tmp 10), none⟩, ⟨some 50, .mv (.tmp 7), none⟩, ⟨some 51, .len (.tmp 50), none⟩, ⟨some 52, .bin .lss (.tmp 49) (.tmp 51), none⟩]) (.cond (.tmp 52) .skip (.exit 0))) (.seq (.block 1 (.draw [[], [0], [], [2], [3], [], [], [5, 6], [7], [8], [4, 9], [10], [11], [1, 12], [0, 1, 2, 3, 4, 5, 6, 7, 8, 9, 10, 11, 12, 13], [14, 13, 13, 0, 1, 2, 3, 4, 5, 6, 7, 8, 9, 10, 11, 12, 13]] [⟨some 55, .fieldA 0 (.tmp 9), none⟩, ⟨some 56, .load false 1 (.tmp 55), none⟩, ⟨some 57, .fieldA 0 (.tmp 1), none⟩, ⟨some 58, .fieldA 0 (.tmp 57), none⟩, ⟨some 59, .load false 1 (.tmp 58), none⟩, ⟨some 60, .mv (.tmp 7), none⟩, ⟨some 61, .mv (.tmp 10), none⟩, ⟨some 62, .idxA 2 (.tmp 60) (.tmp 61), none⟩, ⟨some 63, .fieldA 0 (.tmp 62), none⟩, ⟨some 64, .load false 1 (.tmp 63), none⟩, ⟨some 65, .idxA 1 (.tmp 59) (.tmp 64), none⟩, ⟨some 66, .load false 1 (.tmp 65), none⟩, ⟨some 67, .mkrow 716 3 1 1 [.t (.int .i64 0)] [(0, (1, .tmp 66))], none⟩, ⟨some 68, .append 717 3 1 8 (.tmp 56) (.tmp 67), none⟩, ⟨some 69, .fieldA 0 (.tmp 9), none⟩, ⟨none, .store 1 (.tmp 69) (.tmp 68), none⟩])) (.region [⟨some 53, .mv (.tmp 10), none⟩, ⟨some 54, .bin .add (.tmp 53) (.c (.one (.t (.int .i64 1)))), none⟩, ⟨some 10, .mv (.tmp 54), none⟩])))))) (.seq (.seq (.region [⟨some 11, .mv (.c (.one (.t (.int .i64 0)))), none⟩]) (.block 2 (.loop (.seq (.seq (.region [⟨some 70, .mv (.tmp 11), none⟩, ⟨some 71, .mv (.tmp 8), none⟩, ⟨some 72, .len (.tmp 71), none⟩, ⟨some 73, .bin .lss (.tmp 70) (.tmp 72), none⟩]) (.cond (.tmp 73) .skip (.exit 2))) (.seq (.block 3 (.seq (.draw [[], [0], [1], [], [], [3, 4], [5], [6], [2, 7], [8], [], [10], [11], [], [], [13, 14], [15], [16], [12, 17], [18], [], [], [20, 9, 0, 1, 2, 3, 4, 5, 6, 7, 8, 9, 20, 21], [21, 19, 22, 0, 1, 2, 3, 4, 5, 6, 7, 8, 9, 10, 11, 12, 13, 14, 15, 16, 17, 18, 19, 20, 21, 22]] [⟨some 76, .fieldA 0 (.tmp 1), none⟩, ⟨some 77, .fieldA 1 (.tmp 76), none⟩, ⟨some 78, .load false 1 (.tmp 77), none⟩, ⟨some 79, .mv (.tmp 8), none⟩, ⟨some 80, .mv (.tmp 11), none⟩, ⟨some 81, .idxA 2 (.tmp 79) (.tmp 80), none⟩, ⟨some 82, .fieldA 0 (.tmp 81), none⟩, ⟨some 83, .load false 1 (.tmp 82), none⟩, ⟨some 84, .idxA 3 (.tmp 78) (.tmp 83), none⟩, ⟨some 85, .load true 3 (.tmp 84), none⟩, ⟨some 86, .fieldA 2 (.tmp 1), none⟩, ⟨some 87, .fieldA 1 (.tmp 86), none⟩, ⟨some 88, .load false 1 (.tmp 87), none⟩, ⟨some 89, .mv (.tmp 8), none⟩, ⟨some 90, .mv (.tmp 11), none⟩, ⟨some 91, .idxA 2 (.tmp 89) (.tmp 90), none⟩, ⟨some 92, .fieldA 1 (.tmp 91), none⟩, ⟨some 93, .load false 1 (.tmp 92), none⟩, ⟨some 94, .idxA 3 (.tmp 88) (.tmp 93), none⟩, ⟨some 95, .load true 3 (.tmp 94), none⟩, ⟨some 12, .alloc 980 76 [.t (.int .i64 0), .t (.int .i64 0), .t (.int .i64 0)], none⟩, ⟨some 13, .alloc 981 76 [.t (.int .i64 0), .t (.int .i64 0), .t (.int .i64 0)], none⟩, ⟨none, .store 3 (.tmp 12) (.tmp 85), none⟩, ⟨none, .store 3 (.tmp 13) (.tmp 95), none⟩]) (.draw [[], [0], [], [2], [], [], [5], [], [7], [4, 6, 8], [], [], [11], [], [13], [10, 12, 14, 9], [3, 9, 15], [16], [1, 17, 15], [0, 1, 2, 3, 4, 5, 6, 7, 8, 9, 10, 11, 12, 13, 14, 15, 16, 17, 18], [19, 18, 18, 0, 1, 2, 3, 4, 5, 6, 7, 8, 9, 10, 11, 12, 13, 14, 15, 16, 17, 18]] [⟨some 96, .fieldA 1 (.tmp 9), none⟩, ⟨some 97, .load false 1 (.tmp 96), none⟩, ⟨some 98, .fieldA 0 (.tmp 12), none⟩, ⟨some 99, .load false 1 (.tmp 98), none⟩, ⟨some 100, .mv (.tmp 7), none⟩, ⟨some 101, .fieldA 1 (.tmp 12), none⟩, ⟨some 102, .load false 1 (.tmp 101), none⟩, ⟨some 103, .fieldA 1 (.tmp 13), none⟩, ⟨some 104, .load false 1 (.tmp 103), none⟩, ⟨some 105, .call (.c (.one (.fn 90 []))) 1033 [.tmp 100, .tmp 102, .tmp 104], none⟩, ⟨some 106, .mv (.tmp 7), none⟩, ⟨some 107, .fieldA 2 (.tmp 12), none⟩, ⟨some 108, .load false 1 (.tmp 107), none⟩, ⟨some 109, .fieldA 2 (.tmp 13), none⟩, ⟨some 110, .load false 1 (.tmp 109), none⟩, ⟨some 111, .call (.c (.one (.fn 90 []))) 1039 [.tmp 106, .tmp 108, .tmp 110], none⟩, ⟨some 112, .build [.t (.int .i64 0), .t (.int .i64 0), .t (.int .i64 0)] [(0, (1, .tmp 99)), (1, (1, .tmp 105)), (2, (1, .tmp 111))], none⟩, ⟨some 113, .mkrow 1041 76 3 1 [.t (.int .i64 0), .t (.int .i64 0), .t (.int .i64 0)] [(0, (3, .tmp 112))], none⟩, ⟨some 114, .append 1042 76 3 24 (.tmp 97) (.tmp 113), none⟩, ⟨some 115, .fieldA 1 (.tmp 9), none⟩, ⟨none, .store 1 (.tmp 115) (.tmp 114), none⟩]))) (.region [⟨some 74, .mv (.tmp 11), none⟩, ⟨some 75, .bin .add (.tmp 74) (.c (.one (.t (.int .i64 1)))), none⟩, ⟨some 11, .mv (.tmp 75), none⟩])))))) (.seq (.region [⟨some 14, .alloc 1088 27 [.nil, .nil], none⟩, ⟨some 15, .alloc 1089 27 [.nil, .nil], none⟩]) (.seq (.region [⟨some 117, .mv (.tmp 7), none⟩, ⟨some 118, .call (.c (.one (.fn 91 []))) 1153 [.tmp 117], none⟩, ⟨some 116, .mv (.tmp 118), none⟩, ⟨some 119, .extract (.tmp 116) 0, none⟩, ⟨some 120, .extract (.tmp 116) 1, none⟩, ⟨some 121, .fieldA 0 (.tmp 14), none⟩, ⟨none, .store 1 (.tmp 121) (.tmp 119), none⟩, ⟨some 122, .fieldA 0 (.tmp 15), none⟩, ⟨none, .store 1 (.tmp 122) (.tmp 120), none⟩]) (.seq (.region [⟨some 124, .mv (.tmp 8), none⟩, ⟨some 125, .call (.c (.one (.fn 91 []))) 1217 [.tmp 124], none⟩, ⟨some 123, .mv (.tmp 125), none⟩, ⟨some 126, .extract (.tmp 123) 0, none⟩, ⟨some 127, .extract (.tmp 123) 1, none⟩, ⟨some 128, .fieldA 1 (.tmp 14), none⟩, ⟨none, .store 1 (.tmp 128) (.tmp 126), none⟩, ⟨some 129, .fieldA 1 (.tmp 15), none⟩, ⟨none, .store 1 (.tmp 129) (.tmp 127), none⟩]) (.seq (.draw [[], [], [], [0, 0], [1, 3, 0, 1, 3], [2, 4, 0, 1, 2, 3, 4], [5, 0, 1, 2, 3, 4, 5]] [⟨some 130, .load true 2 (.tmp 9), none⟩, ⟨some 131, .load true 2 (.tmp 14), none⟩, ⟨some 132, .load true 2 (.tmp 15), none⟩, ⟨none, .store 2 (.tmp 2) (.tmp 130), none⟩, ⟨none, .store 2 (.tmp 3) (.tmp 131), none⟩, ⟨none, .store 2 (.tmp 4) (.tmp 132), none⟩, ⟨some 5, .mv (.c (.one (.t (.int .i64 0)))), none⟩]) .ret))))))))))⟩
theorem k_rOf : cFn Tryz.prog Tryz.f50 = some c_rOf := by kernel_rfl
set_option maxHeartbeats 4000000 in
theorem rOf_ok (s : Co) (h : TinyCo s) : CallOK Tryz.prog 50 [s.v] (pbRt s) := by
  refine callOK_W (callS_W (by kernel_rfl) Tryz.func50 k_rOf (callable_of Tryz.func50 (by kernel_rfl)) (by simp [c_rOf]) ?_)
  simp [c_rOf, Co.v, Co.cs]
  refine callS_tree (valid11_ok s h) ?_ ?_ ?_
  · rfl
  · rfl
  by_cases h1 : coErr s = 0
  case neg =>
    have e1 : pbErr s = coErr s := by simp [pbErr, h1]
    have e3 : pbR s = (⟨[], []⟩, ⟨[], []⟩, ⟨[], []⟩, coErr s) := by simp [pbR, e1, h1]
    simp [h1, pbRt, e3, edL]
  have ok := coErr_ok h1
  have b1 := ok.F.ga.n
  have b2 := ok.F.ga.e
  have b3 := ok.G.ga.n
  have b4 := ok.G.ga.e
  have b5 := ok.F.ln
  have b6 := ok.F.le
  have b7 := ok.G.ln
  have b8 := ok.G.le
  obtain ⟨T1, x1, p1⟩ : ∃ T1, T1 = (pbNs s).take (40 + 1) ∧ CallRow Tryz.prog 89 [(false, [ints s.F.nodes]), (false, [ints s.G.nodes]), (false, [.int .i64 40])] 121 2 T1.length (prL T1) := ⟨_, rfl, pairs11_row s.F.nodes s.G.nodes 40 (by omega) (by omega) (by omega)⟩
  obtain ⟨T2, x2, p2⟩ : ∃ T2, T2 = (pbEs s).take (80 + 1) ∧ CallRow Tryz.prog 89 [(false, [ints s.F.edges]), (false, [ints s.G.edges]), (false, [.int .i64 80])] 121 2 T2.length (prL T2) := ⟨_, rfl, pairs11_row s.F.edges s.G.edges 80 (by omega) (by omega) (by omega)⟩
  simp [dw0, dw1, dw2, dw3, h1]
  refine dCall_ok (callOK_of_row p1) ?_ ?_ ?_
  · rfl
  · rfl
  simp [dw0, dw1, dw2, dw3]
  refine dCall_ok (callOK_of_row p2) ?_ ?_ ?_
  · rfl
  · rfl
  by_cases hb : pbBig s
  case pos =>
    have e1 : pbErr s = 3 := by simp [pbErr, h1, hb]
    have e3 : pbR s = (⟨[], []⟩, ⟨[], []⟩, ⟨[], []⟩, 3) := by simp [pbR, e1]
    replace x1 : T1.length = min 41 (pbNs s).length := by rw [x1, List.length_take]
    replace x2 : T2.length = min 81 (pbEs s).length := by rw [x2, List.length_take]
    by_cases q1 : 40 < (pbNs s).length
    · have q1' : (40 : Int) < T1.length := by omega
      have q1'' : 40 < T1.length := by omega
      simp [dw0, dw1, dw2, dw3, q1', q1'', e3, pbRt, edL]
      rfl
    · have q2 : 80 < (pbEs s).length := hb.resolve_left q1
      have q1' : ¬ (40 : Int) < T1.length := by omega
      have q1'' : ¬ 40 < T1.length := by omega
      have q2' : (80 : Int) < T2.length := by omega
      have q2'' : 80 < T2.length := by omega
      simp [dw0, dw1, dw2, dw3, q1', q1'', q2', q2'', e3, pbRt, edL]
      rfl
  have hn : (pbNs s).length ≤ 40 := by simp only [pbBig] at hb; omega
  have he : (pbEs s).length ≤ 80 := by simp only [pbBig] at hb; omega
  rw [take_few hn] at x1
  rw [take_few he] at x2
  subst x1 x2
  have n1 : ¬ (40 : Int) < (pbNs s).length := by omega
  have n2 : ¬ (80 : Int) < (pbEs s).length := by omega
  have n3 : ¬ 40 < (pbNs s).length := by omega
  have n4 : ¬ 80 < (pbEs s).length := by omega
  have e1 : pbErr s = 0 := by simp [pbErr, h1, hb]
  have e3 : pbR s = (pbG s, ⟨fstL (pbNs s), fstL (pbEs s)⟩, ⟨sndL (pbNs s), sndL (pbEs s)⟩, 0) := by simp [pbR, e1]
  simp [dw0, dw1, dw2, dw3, n1, n2, n3, n4]
  refine ⟨rfl, ?_⟩
  refine loopW_count 10 (pbNs s).length (fun k S => S.fr 1 = .one (.ptr (0, 0) 0) ∧ S.fr 2 = .one (.ptr (1, 0) 0) ∧ S.fr 3 = .one (.ptr (2, 0) 0) ∧ S.fr 4 = .one (.ptr (3, 0) 0) ∧ S.fr 9 = .one (.ptr (448, 0) 0) ∧ S.fr 7 = .one (.t (prs (pbNs s))) ∧ S.fr 8 = .one (.t (prs (pbEs s))) ∧
    S.ob (0, 0) = some (bx 80 (s.cs.map .t)) ∧ S.ob (1, 0) = some (bx 25 [.nil, .nil]) ∧ S.ob (2, 0) = some (bx 27 [.nil, .nil]) ∧ S.ob (3, 0) = some (bx 27 [.nil, .nil]) ∧ S.cnt 1088 = 0 ∧ S.cnt 1089 = 0 ∧
    ∃ vN, S.ob (448, 0) = some (bx 25 [vN, .nil]) ∧ outR 717 3 1 (mapP (pbNode s) (pbNs s) k).length ((mapP (pbNode s) (pbNs s) k).map (.int .i64)) S.ob (.one vN)) (by omega) ?_ ?_ ?_
  · simp [Co.cs, mapP_zero, outR_nil]
  · rintro k S hlt hw hc ⟨f1, f2, f3, f4, f9, f7, f8, o0, o1, o2, o3, c1, c2, vN, o448, ho⟩
    have hlt2 : k * 2 < (pbNs s).length * 2 := by omega
    obtain ⟨i, j, hi, hj, hq⟩ := pbNs_at ok (pth_mem hlt)
    have z1 := mapP_len (f := pbNode s) (l := pbNs s) (k := k)
    have hmt := mapP_succ (f := pbNode s) hlt
    have eN : pbNode s (pth (pbNs s) k) = nth s.B.nodes i := by rw [hq]; rfl
    rw [eN] at hmt
    have ho0 := ho
    rcases ho with ⟨a1, _, a3⟩ | ⟨a1, ga, a3, a4⟩
    all_goals
      cases a3
      simp [dw0, dw1, dw2, dw3, Co.cs, f1, f2, f3, f4, f9, f7, f8, o0, o1, o2, o3, o448, hc, hlt, hlt2, drop_prL hlt, hq, hi, drop_nth hi]
      refine kApp_grow (ts := [.int .i64 (nth s.B.nodes i)]) rfl (ho0.keep fun g => by simp) (by omega) rfl (by omega) (by omega) fun E hE hob hcnt => ?_
      obtain ⟨u, hu⟩ := hE.one
      rw [hu] at hE
      simp [dw0, dw1, dw2, dw3, Co.cs, f1, f2, f3, f4, f9, f7, f8, o0, o1, o2, o3, o448, hc, hob, hu]
      refine ⟨rfl, ?_⟩
      simp [Co.cs, f1, f2, f3, f4, f9, f7, f8, o0, o1, o2, o3, o448, hc, hw, hob, hcnt, hu, hmt, c1, c2]
      exact outR.keep (by simpa using hE) fun g => by simp
  · rintro S hc ⟨f1, f2, f3, f4, f9, f7, f8, o0, o1, o2, o3, c1, c2, vN, o448, ho⟩
    rw [mapP_all] at ho
    simp [Co.cs, f1, f2, f3, f4, f9, f7, f8, o0, o1, o2, o3, o448, hc]
    refine loopW_count 11 (pbEs s).length (fun k S => S.fr 1 = .one (.ptr (0, 0) 0) ∧ S.fr 2 = .one (.ptr (1, 0) 0) ∧ S.fr 3 = .one (.ptr (2, 0) 0) ∧ S.fr 4 = .one (.ptr (3, 0) 0) ∧ S.fr 9 = .one (.ptr (448, 0) 0) ∧ S.fr 7 = .one (.t (prs (pbNs s))) ∧ S.fr 8 = .one (.t (prs (pbEs s))) ∧
      S.ob (0, 0) = some (bx 80 (s.cs.map .t)) ∧ S.ob (1, 0) = some (bx 25 [.nil, .nil]) ∧ S.ob (2, 0) = some (bx 27 [.nil, .nil]) ∧ S.ob (3, 0) = some (bx 27 [.nil, .nil]) ∧ S.cnt 1088 = 0 ∧ S.cnt 1089 = 0 ∧
      outR 717 3 1 ((pbNs s).map (pbNode s)).length (((pbNs s).map (pbNode s)).map (.int .i64)) S.ob (.one vN) ∧
      ∃ vE, S.ob (448, 0) = some (bx 25 [vN, vE]) ∧ outR 1042 76 3 (mapP (pbEdge s) (pbEs s) k).length (edL (mapP (pbEdge s) (pbEs s) k)) S.ob (.one vE)) (by omega) ?_ ?_ ?_
    · simp [Co.cs, f1, f2, f3, f4, f9, f7, f8, o0, o1, o2, o3, o448, c1, c2, mapP_zero, edL, outR_nil]
      simpa using ho
    · rintro k S hlt hw hc ⟨f1, f2, f3, f4, f9, f7, f8, o0, o1, o2, o3, c1, c2, ho, vE, o448, hx⟩
      have hlt2 : k * 2 < (pbEs s).length * 2 := by omega
      obtain ⟨i, j, hi, hj, hq⟩ := pbEs_at ok (pth_mem hlt)
      have hi3 : i * 3 < s.B.edges.length * 3 := by omega
      have hj3 : j * 3 < s.C.edges.length * 3 := by omega
      have z1 := mapP_len (f := pbEdge s) (l := pbEs s) (k := k)
      have hmt := mapP_succ (f := pbEdge s) hlt
      have eE : pbEdge s (pth (pbEs s) k) = ⟨(eth s.B.edges i).t, idxP (pbNs s) ((eth s.B.edges i).f, (eth s.C.edges j).f), idxP (pbNs s) ((eth s.B.edges i).g, (eth s.C.edges j).g)⟩ := by rw [hq]; rfl
      rw [eE] at hmt
      have hx0 := hx
      rcases hx with ⟨a1, _, a3⟩ | ⟨a1, ga, a3, a4⟩
      all_goals
        cases a3
        simp [dw0, dw1, dw2, dw3, Co.cs, f1, f2, f3, f4, f9, f7, f8, o0, o1, o2, o3, o448, hc, hlt, hlt2, drop_prL hlt, hq, hi, hj, hi3, hj3, drop_edL hi, drop_edL hj]
        refine ⟨rfl, ?_⟩
        refine dCall_ok (place_ok (pbNs s) (eth s.B.edges i).f (eth s.C.edges j).f (by simp only [tiny]; omega)) ?_ ?_ ?_
        · rfl
        · rfl
        simp [dw0, dw1, dw2, dw3, Co.cs, f1, f2, f3, f4, f9, f7, f8, o0, o1, o2, o3, o448, hc]
        refine dCall_ok (place_ok (pbNs s) (eth s.B.edges i).g (eth s.C.edges j).g (by simp only [tiny]; omega)) ?_ ?_ ?_
        · rfl
        · rfl
        simp [dw0, dw1, dw2, dw3, Co.cs, f1, f2, f3, f4, f9, f7, f8, o0, o1, o2, o3, o448, hc]
        refine kApp_grow (ts := edC ⟨(eth s.B.edges i).t, idxP (pbNs s) ((eth s.B.edges i).f, (eth s.C.edges j).f), idxP (pbNs s) ((eth s.B.edges i).g, (eth s.C.edges j).g)⟩) rfl (hx0.keep fun g => by simp) (by omega) rfl (by omega) (by omega) fun E hE hob hcnt => ?_
        obtain ⟨u, hu⟩ := hE.one
        rw [hu] at hE
        have ho2 := ho.keep (ob' := E.ob) fun g => by rw [hob _ _ (by decide)]; simp
        simp [dw0, dw1, dw2, dw3, Co.cs, f1, f2, f3, f4, f9, f7, f8, o0, o1, o2, o3, o448, hc, hob, hu]
        refine ⟨rfl, ?_⟩
        simp [Co.cs, f1, f2, f3, f4, f9, f7, f8, o0, o1, o2, o3, o448, hc, hw, hob, hcnt, hu, hmt, c1, c2]
        refine ⟨outR.keep (by simpa using ho2) fun g => by simp, outR.keep (by simpa [edL, Nat.add_assoc] using hE) fun g => by simp⟩
    · rintro S hc ⟨f1, f2, f3, f4, f9, f7, f8, o0, o1, o2, o3, c1, c2, ho, vE, o448, hx⟩
      rw [mapP_all] at hx
      have t1 := fun (ob' : Nm → Option Ob) (h : ∀ g, ob' (717, g) = S.ob (717, g)) => (ho.keep h).tree (by simp)
      have t2 := fun (ob' : Nm → Option Ob) (h : ∀ g, ob' (1042, g) = S.ob (1042, g)) => (hx.keep h).treeC
      simp [f1, f2, f3, f4, f9, f7, f8, o0, o1, o2, o3, o448, c1, c2, hc]
      refine callS_tree (sides11_ok (pbNs s) (by simp only [tiny]; omega)) ?_ ?_ ?_
      · rfl
      · rfl
      simp [f1, f2, f3, f4, f9, f7, f8, o0, o1, o2, o3, o448, c1, c2]
      refine callS_tree (sides11_ok (pbEs s) (by simp only [tiny]; omega)) ?_ ?_ ?_
      · rfl
      · rfl
      have hres : pbRt s = .tup [(true, [ints ((pbNs s).map (pbNode s)), edgs ((pbEs s).map (pbEdge s))]), (true, [ints (fstL (pbNs s)), ints (fstL (pbEs s))]), (true, [ints (sndL (pbNs s)), ints (sndL (pbEs s))]), (false, [.int .i64 0])] := by simp only [pbRt, e3]; rfl
      rw [hres]
      clear t1 t2 hres e3 e1 p1 p2
      generalize (pbNs s).map (pbNode s) = LN at ho ⊢
      generalize (pbEs s).map (pbEdge s) = LE at hx ⊢
      rcases ho with ⟨a1, _, a3⟩ | ⟨a1, ga, a3, a4⟩ <;> rcases hx with ⟨d1, _, d3⟩ | ⟨d1, gd, d3, d4⟩
      · cases a3
        cases d3
        have q1 : LN = [] := List.eq_nil_of_length_eq_zero a1
        have q2 : LE = [] := List.eq_nil_of_length_eq_zero d1
        subst q1 q2
        simp [dw0, dw1, dw2, dw3, f1, f2, f3, f4, f9, f7, f8, o0, o1, o2, o3, o448, c1, c2, edL]
        rfl
      · cases a3
        cases d3
        have q1 : LN = [] := List.eq_nil_of_length_eq_zero a1
        subst q1
        simp [dw0, dw1, dw2, dw3, f1, f2, f3, f4, f9, f7, f8, o0, o1, o2, o3, o448, c1, c2, d4, untreeT]
        rfl
      · cases a3
        cases d3
        have q2 : LE = [] := List.eq_nil_of_length_eq_zero d1
        subst q2
        simp [dw0, dw1, dw2, dw3, f1, f2, f3, f4, f9, f7, f8, o0, o1, o2, o3, o448, c1, c2, a4, untreeI, untreeT, edL]
        rfl
      · cases a3
        cases d3
        simp [dw0, dw1, dw2, dw3, f1, f2, f3, f4, f9, f7, f8, o0, o1, o2, o3, o448, c1, c2, a4, d4, untreeI, untreeT]
        rfl
end Go.Proofs.YthcnpnogfblkcaaGreat

/- Contracts: mediating morphisms into pullbacks. -/
namespace Go.Proofs.YthcnpnogfblkcaaGreat
open Abs
set_option linter.unusedSimpArgs false
set_option linter.unusedVariables false
attribute [local simp] rn0 rn1 rn2 rn3 rn4 rn5 rn6 rn7 evOp nests Arg.ev St.val St.set St.new sliceOf binInt2 binInt AV.cells rdAt St.live retOf resOf resAll treeOf treeCell treeCells treeTups untree frameOf TV.av TR.av ints edgs prs fillV splice intsOf trees V1.tree bx Gr.v Pa.v opRd opWr opNew opNewR opArgs argsRd argRd Arg.rd AV.refs V1.refs refsL dstL

theorem thru_eq {a b f g : List Int} {n : Nat} (ha : a.length = n) (hb : b.length = n) : thru a f = thru b g ↔ ∀ i, i < n → nth f (nth a i).toNat = nth g (nth b i).toNat := by
  constructor
  · intro h i hi
    rw [← thru_nth (b := f) (by omega), ← thru_nth (b := g) (by omega), h]
  · intro h
    refine list_ext_nth (by rw [thru_len, thru_len]; omega) fun i hi => ?_
    rw [thru_len] at hi
    rw [thru_nth (by omega), thru_nth (by omega)]
    exact h i (by omega)

theorem meet_iff {f g a b : List Int} {n : Nat} (ha : ∀ i, i < n → 0 ≤ nth a i ∧ nth a i < f.length) (hb : ∀ i, i < n → 0 ≤ nth b i ∧ nth b i < g.length) :
    meetAll (pbP f g) a b n ↔ ∀ i, i < n → nth f (nth a i).toNat = nth g (nth b i).toNat := by
  refine forall_congr' fun i => forall_congr' fun hi => ?_
  obtain ⟨a1, a2⟩ := ha i hi
  obtain ⟨b1, b2⟩ := hb i hi
  obtain ⟨x, hx⟩ := Int.eq_ofNat_of_zero_le a1
  obtain ⟨y, hy⟩ := Int.eq_ofNat_of_zero_le b1
  rw [hx, hy, mem_pbP]
  constructor
  · rintro ⟨i', k', h1, h2, h3, h4⟩
    have := (Prod.mk.inj h4)
    have e1 : x = i' := by omega
    have e2 : y = k' := by omega
    subst e1 e2
    exact h3
  · intro h
    exact ⟨x, y, by omega, by omega, h, rfl⟩

/-- The mediating morphism of a cone, or an error. -/
def medC (s : Co) (h k : Pa) : Pa := ⟨meetL (pbNs s) h.nodes k.nodes h.nodes.length, meetL (pbEs s) h.edges k.edges h.edges.length⟩
def medE (s : Co) (x : Gr) (h k : Pa) : Int :=
  if pbErr s = 0 then if morErr x s.B h = 0 then if morErr x s.C k = 0 then if sameP (thenP h s.F) (thenP k s.G) = true then 0 else 11 else morErr x s.C k else morErr x s.B h else pbErr s
def medR (s : Co) (x : Gr) (h k : Pa) : Pa × Int := if medE s x h k = 0 then (medC s h k, 0) else (⟨[], []⟩, medE s x h k)
def medT (s : Co) (x : Gr) (h k : Pa) : TR := .tup [(medR s x h k).1.v, (false, [.int .i64 (medR s x h k).2])]

theorem med_iff {s : Co} {x : Gr} {h k : Pa} (ok : CoOk s) (h1 : MorOk x s.B h) (h2 : MorOk x s.C k) :
    sameP (thenP h s.F) (thenP k s.G) = true ↔ meetAll (pbNs s) h.nodes k.nodes h.nodes.length ∧ meetAll (pbEs s) h.edges k.edges h.edges.length := by
  rw [sameP_iff]
  have l1 := h1.ln
  have l2 := h2.ln
  have l3 := h1.le
  have l4 := h2.le
  have l5 := ok.F.ln
  have l6 := ok.G.ln
  have l7 := ok.F.le
  have l8 := ok.G.le
  rw [pbNs, pbEs, meet_iff (fun i hi => ?_) (fun i hi => ?_), meet_iff (fun i hi => ?_) (fun i hi => ?_), ← thru_eq (n := h.nodes.length) rfl (by omega), ← thru_eq (n := h.edges.length) rfl (by omega)]
  · simp only [thenP, Pa.mk.injEq]
  · have := h1.e i (by omega)
    exact ⟨this.1, by omega⟩
  · have := h2.e i (by omega)
    exact ⟨this.1, by omega⟩
  · have := h1.n i (by omega)
    exact ⟨this.1, by omega⟩
  · have := h2.n i (by omega)
    exact ⟨this.1, by omega⟩

def c_pMed : MFunc := ⟨69, [.cell 8 true 2, .tmp 9], .seq (.region [⟨some 4, .box 0 80 (.tmp 0), none⟩, ⟨some 5, .box 1 25 (.tmp 1), none⟩, ⟨some 6, .box 2 27 (.tmp 2), none⟩, ⟨some 7, .box 3 27 (.tmp 3), none⟩, ⟨some 8, .alloc 4 27 [.nil, .nil], none⟩, ⟨some 9, .mv (.c (.one (.t (.int .i64 0)))), none⟩]) (.seq (.region [⟨some 17, .load true 10 (.tmp 4), none⟩, ⟨some 18, .call (.c (.one (.fn 84 []))) 65 [.tmp 17], none⟩, ⟨some 16, .mv (.tmp 18), none⟩, ⟨some 19, .extract (.tmp 16) 0, none⟩, ⟨some 20, .extract (.tmp 16) 1, none⟩, ⟨some 10, .alloc 69 112 [.nil, .nil, .nil, .nil], none⟩, ⟨none, .store 4 (.tmp 10) (.tmp 19), none⟩, ⟨some 11, .mv (.tmp 20), none⟩]) (.seq (.seq (.region [⟨some 21, .mv (.tmp 11), none⟩, ⟨some 22, .bin .eql (.tmp 21) (.c (.one (.t (.int .i64 0)))), none⟩]) (.cond (.tmp 22) (.region [⟨some 23, .load true 2 (.tmp 5), none⟩, ⟨some 24, .fieldA 0 (.tmp 4), none⟩, ⟨some 25, .load true 2 (.tmp 24), none⟩, ⟨some 26, .load true 2 (.tmp 6), none⟩, ⟨some 27, .call (.c (.one (.fn 41 []))) 196 [.tmp 23, .tmp 25, .tmp 26], none⟩, ⟨some 11, .mv (.tmp 27), none⟩]) .skip)) (.seq (.seq (.region [⟨some 28, .mv (.tmp 11), none⟩, ⟨some 29, .bin .eql (.tmp 28) (.c (.one (.t (.int .i64 0)))), none⟩]) (.cond (.tmp 29) (.region [⟨some 30, .load true 2 (.tmp 5), none⟩, ⟨some 31, .fieldA 2 (.tmp 4), none⟩, ⟨some 32, .load true 2 (.tmp 31), none⟩, ⟨some 33, .load true 2 (.tmp 7), none⟩, ⟨some 34, .call (.c (.one (.fn 41 []))) 324 [.tmp 30, .tmp 32, .tmp 33], none⟩, ⟨some 11, .mv (.tmp 34), none⟩]) .skip)) (.seq (.seq (.region [⟨some 35, .mv (.tmp 11), none⟩, ⟨some 36, .bin .neq (.tmp 35) (.c (.one (.t (.int .i64 0)))), none⟩]) (.cond (.tmp 36) (.seq (.region [⟨some 37, .build [.nil, .nil] [], none⟩, ⟨some 38, .mv (.tmp 11), none⟩, ⟨none, .store 2 (.tmp 8) (.tmp 37), none⟩, ⟨some 9, .mv (.tmp 38), none⟩]) .ret) .skip)) (.seq (.region [⟨some 40, .fieldA 0 (.tmp 10), none⟩, ⟨some 41, .load false 1 (.tmp 40), none⟩, ⟨some 42, .fieldA 0 (.tmp 6), none⟩, ⟨some 43, .load false 1 (.tmp 42), none⟩, ⟨some 44, .fieldA 0 (.tmp 7), none⟩, ⟨some 45, .load false 1 (.tmp 44), none⟩, ⟨some 46, .call (.c (.one (.fn 85 []))) 518 [.tmp 41, .tmp 43, .tmp 45], none⟩, ⟨some 39, .mv (.tmp 46), none⟩, ⟨some 47, .extract (.tmp 39) 0, none⟩, ⟨some 48, .extract (.tmp 39) 1, none⟩, ⟨some 12, .mv (.tmp 47), none⟩, ⟨some 13, .mv (.tmp 48), none⟩]) (.seq (.region [⟨some 50, .fieldA 1 (.tmp 10), none⟩, ⟨some 51, .load false 1 (.tmp 50), none⟩, ⟨some 52, .fieldA 1 (.tmp 6), none⟩, ⟨some 53, .load false 1 (.tmp 52), none⟩, ⟨some 54, .fieldA 1 (.tmp 7), none⟩, ⟨some 55, .load false 1 (.tmp 54), none⟩, ⟨some 56, .call (.c (.one (.fn 85 []))) 582 [.tmp 51, .tmp 53, .tmp 55], none⟩, ⟨some 49, .mv (.tmp 56), none⟩, ⟨some 57, .extract (.tmp 49) 0, none⟩, ⟨some 58, .extract (.tmp 49) 1, none⟩, ⟨some 14, .mv (.tmp 57), none⟩, ⟨some 15, .mv (.tmp 58), none⟩]) (.seq (.seq (.region [⟨some 59, .mv (.tmp 13), none⟩, ⟨some 60, .not (.tmp 59), none⟩, ⟨some 61, .mv (.tmp 60), none⟩, ⟨some 62, .mv (.tmp 15), some (61, false)⟩, ⟨some 63, .not (.tmp 62), some (61, false)⟩, ⟨some 64, .pick (.tmp 61) (.c (.one (.t (.bool true)))) (.tmp 63), none⟩]) (.cond (.tmp 64) (.seq (.region [⟨some 65, .build [.nil, .nil] [], none⟩, ⟨none, .store 2 (.tmp 8) (.tmp 65), none⟩, ⟨some 9, .mv (.c (.one (.t (.int .i64 11)))), none⟩]) .ret) .skip)) (.seq (.region [⟨some 66, .mv (.tmp 12), none⟩, ⟨some 67, .mv (.tmp 14), none⟩, ⟨some 68, .build [.nil, .nil] [(0, (1, .tmp 66)), (1, (1, .tmp 67))], none⟩, ⟨none, .store 2 (.tmp 8) (.tmp 68), none⟩, ⟨some 9, .mv (.c (.one (.t (.int .i64 0)))), none⟩]) .ret))))))))⟩
theorem k_pMed : cFn Tryz.prog Tryz.f45 = some c_pMed := by kernel_rfl
set_option maxHeartbeats 4000000 in
theorem pMed_ok (s : Co) (x : Gr) (h k : Pa) (ts : TinyCo s) (tx : tinyG x) (th : tinyP h) (tk : tinyP k) : CallOK Tryz.prog 45 [s.v, x.v, h.v, k.v] (medT s x h k) := by
  refine callOK_W (callS_W (by kernel_rfl) Tryz.func45 k_pMed (callable_of Tryz.func45 (by kernel_rfl)) (by simp [c_pMed]) ?_)
  simp [c_pMed, Co.v, Co.cs]
  refine callS_tree (pof_ok s ts) ?_ ?_ ?_
  · rfl
  · rfl
  by_cases h1 : pbErr s = 0
  case neg =>
    have e : medR s x h k = (⟨[], []⟩, pbErr s) := by simp [medR, medE, h1]
    simp [h1, pbQv, medT, e]
  obtain ⟨ok, hn, he⟩ := pbErr_few h1
  have e2 : pbQ s = (pbNs s, pbEs s, pbG s) := by simp [pbQ, h1]
  simp [h1, pbQv, e2]
  refine callS_tree (mvalid_ok x s.B h tx ts.B th) ?_ ?_ ?_
  · rfl
  · rfl
  by_cases h2 : morErr x s.B h = 0
  case neg =>
    have e : medR s x h k = (⟨[], []⟩, morErr x s.B h) := by simp [medR, medE, h1, h2]
    simp [h2, medT, e]
  simp [h2]
  refine callS_tree (mvalid_ok x s.C k tx ts.C tk) ?_ ?_ ?_
  · rfl
  · rfl
  by_cases h3 : morErr x s.C k = 0
  case neg =>
    have e : medR s x h k = (⟨[], []⟩, morErr x s.C k) := by simp [medR, medE, h1, h2, h3]
    simp [h3, medT, e]
  simp [h3]
  have m1 := mor_ok h2
  have m2 := mor_ok h3
  have l1 := m1.ln
  have l2 := m2.ln
  have l3 := m1.le
  have l4 := m2.le
  have hi := med_iff ok m1 m2
  refine callS_tree (meet_ok (pbNs s) h.nodes k.nodes (by simp only [tiny]; omega) th.1 (by omega)) ?_ ?_ ?_
  · rfl
  · rfl
  simp
  refine callS_tree (meet_ok (pbEs s) h.edges k.edges (by simp only [tiny]; omega) th.2 (by omega)) ?_ ?_ ?_
  · rfl
  · rfl
  by_cases q1 : meetAll (pbNs s) h.nodes k.nodes h.nodes.length
  case neg =>
    have r1 : meetR (pbNs s) h.nodes k.nodes = ([], false) := by unfold meetR; rw [if_neg q1]
    have hn : ¬ sameP (thenP h s.F) (thenP k s.G) = true := fun hs => q1 (hi.1 hs).1
    have e : medR s x h k = (⟨[], []⟩, 11) := by simp [medR, medE, h1, h2, h3, hn]
    simp [r1, medT, e]
  have r1 : meetR (pbNs s) h.nodes k.nodes = (meetL (pbNs s) h.nodes k.nodes h.nodes.length, true) := by unfold meetR; rw [if_pos q1]
  by_cases q2 : meetAll (pbEs s) h.edges k.edges h.edges.length
  case neg =>
    have r2 : meetR (pbEs s) h.edges k.edges = ([], false) := by unfold meetR; rw [if_neg q2]
    have hn : ¬ sameP (thenP h s.F) (thenP k s.G) = true := fun hs => q2 (hi.1 hs).2
    have e : medR s x h k = (⟨[], []⟩, 11) := by simp [medR, medE, h1, h2, h3, hn]
    simp [r1, r2, medT, e]
  have r2 : meetR (pbEs s) h.edges k.edges = (meetL (pbEs s) h.edges k.edges h.edges.length, true) := by unfold meetR; rw [if_pos q2]
  have e : medR s x h k = (medC s h k, 0) := by simp [medR, medE, h1, h2, h3, hi.2 ⟨q1, q2⟩]
  simp [r1, r2, medT, e, medC]

def c_rMed : MFunc := ⟨114, [.cell 8 true 2, .tmp 9], .seq (.region [⟨some 4, .box 0 80 (.tmp 0), none⟩, ⟨some 5, .box 1 25 (.tmp 1), none⟩, ⟨some 6, .box 2 27 (.tmp 2), none⟩, ⟨some 7, .box 3 27 (.tmp 3), none⟩, ⟨some 8, .alloc 4 27 [.nil, .nil], none⟩, ⟨some 9, .mv (.c (.one (.t (.int .i64 0)))), none⟩]) (.seq (.region [⟨some 20, .load true 10 (.tmp 4), none⟩, ⟨some 21, .call (.c (.one (.fn 50 []))) 65 [.tmp 20], none⟩, ⟨some 19, .mv (.tmp 21), none⟩, ⟨some 22, .extract (.tmp 19) 0, none⟩, ⟨some 23, .extract (.tmp 19) 1, none⟩, ⟨some 24, .extract (.tmp 19) 2, none⟩, ⟨some 25, .extract (.tmp 19) 3, none⟩, ⟨some 10, .alloc 71 25 [.nil, .nil], none⟩, ⟨some 11, .alloc 72 27 [.nil, .nil], none⟩, ⟨some 12, .alloc 73 27 [.nil, .nil], none⟩, ⟨none, .store 2 (.tmp 10) (.tmp 22), none⟩, ⟨none, .store 2 (.tmp 11) (.tmp 23), none⟩, ⟨none, .store 2 (.tmp 12) (.tmp 24), none⟩, ⟨some 13, .mv (.tmp 25), none⟩]) (.seq (.seq (.region [⟨some 26, .mv (.tmp 13), none⟩, ⟨some 27, .bin .neq (.tmp 26) (.c (.one (.t (.int .i64 0)))), none⟩]) (.cond (.tmp 27) (.seq (.region [⟨some 28, .build [.nil, .nil] [], none⟩, ⟨some 29, .mv (.tmp 13), none⟩, ⟨none, .store 2 (.tmp 8) (.tmp 28), none⟩, ⟨some 9, .mv (.tmp 29), none⟩]) .ret) .skip)) (.seq (.seq (.region [⟨some 30, .load true 2 (.tmp 5), none⟩, ⟨some 31, .fieldA 0 (.tmp 4), none⟩, ⟨some 32, .load true 2 (.tmp 31), none⟩, ⟨some 33, .load true 2 (.tmp 6), none⟩, ⟨some 34, .call (.c (.one (.fn 48 []))) 260 [.tmp 30, .tmp 32, .tmp 33], none⟩, ⟨some 14, .mv (.tmp 34), none⟩]) (.seq (.region [⟨some 35, .mv (.tmp 14), none⟩, ⟨some 36, .bin .neq (.tmp 35) (.c (.one (.t (.int .i64 0)))), none⟩]) (.cond (.tmp 36) (.seq (.region [⟨some 37, .build [.nil, .nil] [], none⟩, ⟨some 38, .mv (.tmp 14), none⟩, ⟨none, .store 2 (.tmp 8) (.tmp 37), none⟩, ⟨some 9, .mv (.tmp 38), none⟩]) .ret) .skip))) (.seq (.seq (.region [⟨some 39, .load true 2 (.tmp 5), none⟩, ⟨some 40, .fieldA 2 (.tmp 4), none⟩, ⟨some 41, .load true 2 (.tmp 40), none⟩, ⟨some 42, .load true 2 (.tmp 7), none⟩, ⟨some 43, .call (.c (.one (.fn 48 []))) 452 [.tmp 39, .tmp 41, .tmp 42], none⟩, ⟨some 15, .mv (.tmp 43), none⟩]) (.seq (.region [⟨some 44, .mv (.tmp 15), none⟩, ⟨some 45, .bin .neq (.tmp 44) (.c (.one (.t (.int .i64 0)))), none⟩]) (.cond (.tmp 45) (.seq (.region [⟨some 46, .build [.nil, .nil] [], none⟩, ⟨some 47, .mv (.tmp 15), none⟩, ⟨none, .store 2 (.tmp 8) (.tmp 46), none⟩, ⟨some 9, .mv (.tmp 47), none⟩]) .ret) .skip))) (.seq (.seq (.draw [[], [], [1], [0, 2], [], [], [5], [4, 6, 3], [3, 7, 7], [8]] [⟨some 48, .load true 2 (.tmp 6), none⟩, ⟨some 49, .fieldA 6 (.tmp 4), none⟩, ⟨some 50, .load true 2 (.tmp 49), none⟩, ⟨some 51, .call (.c (.one (.fn 39 []))) 643 [.tmp 48, .tmp 50], none⟩, ⟨some 52, .load true 2 (.tmp 7), none⟩, ⟨some 53, .fieldA 8 (.tmp 4), none⟩, ⟨some 54, .load true 2 (.tmp 53), none⟩, ⟨some 55, .call (.c (.one (.fn 39 []))) 647 [.tmp 52, .tmp 54], none⟩, ⟨some 56, .call (.c (.one (.fn 23 []))) 648 [.tmp 51, .tmp 55], none⟩, ⟨some 57, .not (.tmp 56), none⟩]) (.cond (.tmp 57) (.seq (.region [⟨some 58, .build [.nil, .nil] [], none⟩, ⟨none, .store 2 (.tmp 8) (.tmp 58), none⟩, ⟨some 9, .mv (.c (.one (.t (.int .i64 11)))), none⟩]) .ret) .skip)) (.seq (.region [⟨some 16, .alloc 768 27 [.nil, .nil], none⟩]) (.seq (.seq (.region [⟨some 17, .mv (.c (.one (.t (.int .i64 0)))), none⟩]) (.block 0 (.loop (.seq (.seq (.region [⟨some 59, .mv (.tmp 17), none⟩, ⟨some 60, .fieldA 0 (.tmp 6), none⟩, ⟨some 61, .load false 1 (.tmp 60), none⟩, ⟨some 62, .len (.tmp 61), none⟩, ⟨some 63, .bin .lss (.tmp 59) (.tmp 62), none⟩]) (.cond (.tmp 63) .skip (.exit 0))) (.seq (.block 1 (.draw [[], [0], [], [2], [], [4], [], [6], [], [7, 8], [9], [], [11], [], [12, 13], [14], [3, 5, 10, 15], [16], [1, 17, 16], [0, 1, 2, 3, 4, 5, 6, 7, 8, 9, 10, 11, 12, 13, 14, 15, 16, 17, 18], [19, 18, 18, 0, 1, 2, 3, 4, 5, 6, 7, 8, 9, 10, 11, 12, 13, 14, 15, 16, 17, 18]] [⟨some 66, .fieldA 0 (.tmp 16), none⟩, ⟨some 67, .load false 1 (.tmp 66), none⟩, ⟨some 68, .fieldA 0 (.tmp 11), none⟩, ⟨some 69, .load false 1 (.tmp 68), none⟩, ⟨some 70, .fieldA 0 (.tmp 12), none⟩, ⟨some 71, .load false 1 (.tmp 70), none⟩, ⟨some 72, .fieldA 0 (.tmp 6), none⟩, ⟨some 73, .load false 1 (.tmp 72), none⟩, ⟨some 74, .mv (.tmp 17), none⟩, ⟨some 75, .idxA 1 (.tmp 73) (.tmp 74), none⟩, ⟨some 76, .load false 1 (.tmp 75), none⟩, ⟨some 77, .fieldA 0 (.tmp 7), none⟩, ⟨some 78, .load false 1 (.tmp 77), none⟩, ⟨some 79, .mv (.tmp 17), none⟩, ⟨some 80, .idxA 1 (.tmp 78) (.tmp 79), none⟩, ⟨some 81, .load false 1 (.tmp 80), none⟩, ⟨some 82, .call (.c (.one (.fn 92 []))) 1040 [.tmp 69, .tmp 71, .tmp 76, .tmp 81], none⟩, ⟨some 83, .mkrow 1041 3 1 1 [.t (.int .i64 0)] [(0, (1, .tmp 82))], none⟩, ⟨some 84, .append 1042 3 1 8 (.tmp 67) (.tmp 83), none⟩, ⟨some 85, .fieldA 0 (.tmp 16), none⟩, ⟨none, .store 1 (.tmp 85) (.tmp 84), none⟩])) (.region [⟨some 64, .mv (.tmp 17), none⟩, ⟨some 65, .bin .add (.tmp 64) (.c (.one (.t (.int .i64 1)))), none⟩, ⟨some 17, .mv (.tmp 65), none⟩])))))) (.seq (.seq (.region [⟨some 18, .mv (.c (.one (.t (.int .i64 0)))), none⟩]) (.block 2 (.loop (.seq (.seq (.region [⟨some 86, .mv (.tmp 18), none⟩, ⟨some 87, .fieldA 1 (.tmp 6), none⟩, ⟨some 88, .load false 1 (.tmp 87), none⟩, ⟨some 89, .len (.tmp 88), none⟩, ⟨some 90, .bin .lss (.tmp 86) (.tmp 89), none⟩]) (.cond (.tmp 90) .skip (.exit 2))) (.seq (.block 3 (.draw [[], [0], [], [2], [], [4], [], [6], [], [7, 8], [9], [], [11], [], [12, 13], [14], [3, 5, 10, 15], [16], [1, 17, 16], [0, 1, 2, 3, 4, 5, 6, 7, 8, 9, 10, 11, 12, 13, 14, 15, 16, 17, 18], [19, 18, 18, 0, 1, 2, 3, 4, 5, 6, 7, 8, 9, 10, 11, 12, 13, 14, 15, 16, 17, 18]] [⟨some 93, .fieldA 1 (.tmp 16), none⟩, ⟨some 94, .load false 1 (.tmp 93), none⟩, ⟨some 95, .fieldA 1 (.tmp 11), none⟩, ⟨some 96, .load false 1 (.tmp 95), none⟩, ⟨some 97, .fieldA 1 (.tmp 12), none⟩, ⟨some 98, .load false 1 (.tmp 97), none⟩, ⟨some 99, .fieldA 1 (.tmp 6), none⟩, ⟨some 100, .load false 1 (.tmp 99), none⟩, ⟨some 101, .mv (.tmp 18), none⟩, ⟨some 102, .idxA 1 (.tmp 100) (.tmp 101), none⟩, ⟨some 103, .load false 1 (.tmp 102), none⟩, ⟨some 104, .fieldA 1 (.tmp 7), none⟩, ⟨some 105, .load false 1 (.tmp 104), none⟩, ⟨some 106, .mv (.tmp 18), none⟩, ⟨some 107, .idxA 1 (.tmp 105) (.tmp 106), none⟩, ⟨some 108, .load false 1 (.tmp 107), none⟩, ⟨some 109, .call (.c (.one (.fn 92 []))) 1296 [.tmp 96, .tmp 98, .tmp 103, .tmp 108], none⟩, ⟨some 110, .mkrow 1297 3 1 1 [.t (.int .i64 0)] [(0, (1, .tmp 109))], none⟩, ⟨some 111, .append 1298 3 1 8 (.tmp 94) (.tmp 110), none⟩, ⟨some 112, .fieldA 1 (.tmp 16), none⟩, ⟨none, .store 1 (.tmp 112) (.tmp 111), none⟩])) (.region [⟨some 91, .mv (.tmp 18), none⟩, ⟨some 92, .bin .add (.tmp 91) (.c (.one (.t (.int .i64 1)))), none⟩, ⟨some 18, .mv (.tmp 92), none⟩])))))) (.seq (.region [⟨some 113, .load true 2 (.tmp 16), none⟩, ⟨none, .store 2 (.tmp 8) (.tmp 113), none⟩, ⟨some 9, .mv (.c (.one (.t (.int .i64 0)))), none⟩]) .ret)))))))))⟩
theorem k_rMed : cFn Tryz.prog Tryz.f51 = some c_rMed := by kernel_rfl
set_option maxHeartbeats 4000000 in
theorem rMed_ok (s : Co) (x : Gr) (h k : Pa) (ts : TinyCo s) (tx : tinyG x) (th : tinyP h) (tk : tinyP k) : CallOK Tryz.prog 51 [s.v, x.v, h.v, k.v] (medT s x h k) := by
  refine callOK_W (callS_W (by kernel_rfl) Tryz.func51 k_rMed (callable_of Tryz.func51 (by kernel_rfl)) (by simp [c_rMed]) ?_)
  simp [c_rMed, Co.v, Co.cs]
  refine callS_tree (rOf_ok s ts) ?_ ?_ ?_
  · rfl
  · rfl
  by_cases h1 : pbErr s = 0
  case neg =>
    have e : medR s x h k = (⟨[], []⟩, pbErr s) := by simp [medR, medE, h1]
    have e3 : pbR s = (⟨[], []⟩, ⟨[], []⟩, ⟨[], []⟩, pbErr s) := by simp [pbR, h1]
    simp [h1, pbRt, e3, medT, e]
  obtain ⟨ok, hn, he⟩ := pbErr_few h1
  have e3 : pbR s = (pbG s, ⟨fstL (pbNs s), fstL (pbEs s)⟩, ⟨sndL (pbNs s), sndL (pbEs s)⟩, 0) := by simp [pbR, h1]
  simp [h1, pbRt, e3]
  refine callS_tree (rvalid6_ok x s.B h tx ts.B th) ?_ ?_ ?_
  · rfl
  · rfl
  by_cases h2 : morErr x s.B h = 0
  case neg =>
    have e : medR s x h k = (⟨[], []⟩, morErr x s.B h) := by simp [medR, medE, h1, h2]
    simp [h2, medT, e]
  simp [h2]
  refine callS_tree (rvalid6_ok x s.C k tx ts.C tk) ?_ ?_ ?_
  · rfl
  · rfl
  by_cases h3 : morErr x s.C k = 0
  case neg =>
    have e : medR s x h k = (⟨[], []⟩, morErr x s.C k) := by simp [medR, medE, h1, h2, h3]
    simp [h3, medT, e]
  have m1 := mor_ok h2
  have m2 := mor_ok h3
  have l1 := m1.ln
  have l2 := m2.ln
  have l3 := m1.le
  have l4 := m2.le
  simp [dw0, dw1, dw2, dw3, h3]
  refine dCall_ok (then6_ok h s.F th (m1.fits ok.F)) ?_ ?_ ?_
  · rfl
  · rfl
  simp [dw0, dw1, dw2, dw3]
  refine dCall_ok (then6_ok k s.G tk (m2.fits ok.G)) ?_ ?_ ?_
  · rfl
  · rfl
  simp [dw0, dw1, dw2, dw3]
  refine dCall_ok (rsame_ok (thenP h s.F) (thenP k s.G) (thenP_tiny th) (thenP_tiny tk)) ?_ ?_ ?_
  · rfl
  · rfl
  cases hs : sameP (thenP h s.F) (thenP k s.G)
  · have e : medR s x h k = (⟨[], []⟩, 11) := by simp [medR, medE, h1, h2, h3, hs]
    simp [dw0, dw1, dw2, dw3, medT, e]
    rfl
  have e : medR s x h k = (medC s h k, 0) := by simp [medR, medE, h1, h2, h3, hs]
  simp [dw0, dw1, dw2, dw3, medT, e]
  refine ⟨rfl, ?_⟩
  refine loopW_count 17 h.nodes.length (fun i S => S.fr 6 = .one (.ptr (2, 0) 0) ∧ S.fr 7 = .one (.ptr (3, 0) 0) ∧ S.fr 8 = .one (.ptr (4, 0) 0) ∧ S.fr 11 = .one (.ptr (72, 0) 0) ∧ S.fr 12 = .one (.ptr (73, 0) 0) ∧ S.fr 16 = .one (.ptr (768, 0) 0) ∧
    S.ob (2, 0) = some (bx 27 (h.v.2.map .t)) ∧ S.ob (3, 0) = some (bx 27 (k.v.2.map .t)) ∧ S.ob (4, 0) = some (bx 27 [.nil, .nil]) ∧
    S.ob (72, 0) = some (bx 27 [.t (ints (fstL (pbNs s))), .t (ints (fstL (pbEs s)))]) ∧ S.ob (73, 0) = some (bx 27 [.t (ints (sndL (pbNs s))), .t (ints (sndL (pbEs s)))]) ∧
    ∃ vN, S.ob (768, 0) = some (bx 27 [vN, .nil]) ∧ outR 1042 3 1 (meetL (pbNs s) h.nodes k.nodes i).length ((meetL (pbNs s) h.nodes k.nodes i).map (.int .i64)) S.ob (.one vN)) (by have := th.1; simp only [tiny] at this; omega) ?_ ?_ ?_
  · simp [meetL, outR_nil]
  · rintro i S hlt hw hc ⟨f6, f7, f8, f11, f12, f16, o2, o3, o4, o72, o73, vN, o768, ho⟩
    have hlt' : i < k.nodes.length := by omega
    have z := meetL_len (l := pbNs s) (h := h.nodes) (k := k.nodes) (n := i)
    have ht := th.1
    simp only [tiny] at ht
    have ho0 := ho
    rcases ho with ⟨a1, _, a3⟩ | ⟨a1, ga, a3, a4⟩
    all_goals
      cases a3
      simp [dw0, dw1, dw2, dw3, f6, f7, f8, f11, f12, f16, o2, o3, o4, o72, o73, o768, hc, hlt, hlt', drop_nth hlt, drop_nth hlt']
      refine dCall_ok (first_ok (fstL (pbNs s)) (sndL (pbNs s)) (nth h.nodes i) (nth k.nodes i) (by rw [fstL_len]; simp only [tiny]; omega) (by rw [fstL_len, sndL_len])) ?_ ?_ ?_
      · rfl
      · rfl
      rw [zip_sides]
      simp [dw0, dw1, dw2, dw3, f6, f7, f8, f11, f12, f16, o2, o3, o4, o72, o73, o768, hc]
      refine kApp_grow (ts := [.int .i64 (idxP (pbNs s) (nth h.nodes i, nth k.nodes i))]) rfl (ho0.keep fun g => by simp) (by omega) rfl (by omega) (by omega) fun E hE hob hcnt => ?_
      obtain ⟨u, hu⟩ := hE.one
      rw [hu] at hE
      simp [dw0, dw1, dw2, dw3, f6, f7, f8, f11, f12, f16, o2, o3, o4, o72, o73, o768, hc, hob, hu]
      refine ⟨rfl, ?_⟩
      simp [f6, f7, f8, f11, f12, f16, o2, o3, o4, o72, o73, o768, hc, hw, hob, hu, meetL_succ]
      exact outR.keep (by simpa using hE) fun g => by simp
  · rintro S hc ⟨f6, f7, f8, f11, f12, f16, o2, o3, o4, o72, o73, vN, o768, hx⟩
    simp [f6, f7, f8, f11, f12, f16, o2, o3, o4, o72, o73, o768, hc]
    refine loopW_count 18 h.edges.length (fun i S => S.fr 6 = .one (.ptr (2, 0) 0) ∧ S.fr 7 = .one (.ptr (3, 0) 0) ∧ S.fr 8 = .one (.ptr (4, 0) 0) ∧ S.fr 11 = .one (.ptr (72, 0) 0) ∧ S.fr 12 = .one (.ptr (73, 0) 0) ∧ S.fr 16 = .one (.ptr (768, 0) 0) ∧
      S.ob (2, 0) = some (bx 27 (h.v.2.map .t)) ∧ S.ob (3, 0) = some (bx 27 (k.v.2.map .t)) ∧ S.ob (4, 0) = some (bx 27 [.nil, .nil]) ∧
      S.ob (72, 0) = some (bx 27 [.t (ints (fstL (pbNs s))), .t (ints (fstL (pbEs s)))]) ∧ S.ob (73, 0) = some (bx 27 [.t (ints (sndL (pbNs s))), .t (ints (sndL (pbEs s)))]) ∧
      outR 1042 3 1 (meetL (pbNs s) h.nodes k.nodes h.nodes.length).length ((meetL (pbNs s) h.nodes k.nodes h.nodes.length).map (.int .i64)) S.ob (.one vN) ∧
      ∃ vE, S.ob (768, 0) = some (bx 27 [vN, vE]) ∧ outR 1298 3 1 (meetL (pbEs s) h.edges k.edges i).length ((meetL (pbEs s) h.edges k.edges i).map (.int .i64)) S.ob (.one vE)) (by have := th.2; simp only [tiny] at this; omega) ?_ ?_ ?_
    · simp [f6, f7, f8, f11, f12, f16, o2, o3, o4, o72, o73, o768]
      exact ⟨by simpa using hx, by simp [meetL, outR_nil]⟩
    · rintro i S hlt hw hc ⟨f6, f7, f8, f11, f12, f16, o2, o3, o4, o72, o73, hx, vE, o768, ho⟩
      have hlt' : i < k.edges.length := by omega
      have z := meetL_len (l := pbEs s) (h := h.edges) (k := k.edges) (n := i)
      have ht := th.2
      simp only [tiny] at ht
      have ho0 := ho
      rcases ho with ⟨a1, _, a3⟩ | ⟨a1, ga, a3, a4⟩
      all_goals
        cases a3
        simp [dw0, dw1, dw2, dw3, f6, f7, f8, f11, f12, f16, o2, o3, o4, o72, o73, o768, hc, hlt, hlt', drop_nth hlt, drop_nth hlt']
        refine dCall_ok (first_ok (fstL (pbEs s)) (sndL (pbEs s)) (nth h.edges i) (nth k.edges i) (by rw [fstL_len]; simp only [tiny]; omega) (by rw [fstL_len, sndL_len])) ?_ ?_ ?_
        · rfl
        · rfl
        rw [zip_sides]
        simp [dw0, dw1, dw2, dw3, f6, f7, f8, f11, f12, f16, o2, o3, o4, o72, o73, o768, hc]
        refine kApp_grow (ts := [.int .i64 (idxP (pbEs s) (nth h.edges i, nth k.edges i))]) rfl (ho0.keep fun g => by simp) (by omega) rfl (by omega) (by omega) fun E hE hob hcnt => ?_
        obtain ⟨u, hu⟩ := hE.one
        rw [hu] at hE
        have hx2 := hx.keep (ob' := E.ob) fun g => by rw [hob _ _ (by decide)]; simp
        simp [dw0, dw1, dw2, dw3, f6, f7, f8, f11, f12, f16, o2, o3, o4, o72, o73, o768, hc, hob, hu]
        refine ⟨rfl, ?_⟩
        simp [f6, f7, f8, f11, f12, f16, o2, o3, o4, o72, o73, o768, hc, hw, hob, hu, meetL_succ]
        exact ⟨outR.keep (by simpa using hx2) fun g => by simp, outR.keep (by simpa using hE) fun g => by simp⟩
    · rintro S hc ⟨f6, f7, f8, f11, f12, f16, o2, o3, o4, o72, o73, hx, vE, o768, ho⟩
      have t1 := fun (ob' : Nm → Option Ob) (h : ∀ g, ob' (1042, g) = S.ob (1042, g)) => (hx.keep h).tree rfl
      have t2 := fun (ob' : Nm → Option Ob) (h : ∀ g, ob' (1298, g) = S.ob (1298, g)) => (ho.keep h).tree rfl
      simp [f6, f7, f8, f11, f12, f16, o2, o3, o4, o72, o73, o768, hc, -treeCell, treeCell_t]
      rw [t1 _ (fun g => by simp), t2 _ (fun g => by simp)]
      simp [medC]
end Go.Proofs.YthcnpnogfblkcaaGreat

/- The library contracts of slices.Sort and slices.Compact at this program, laid by the kit tool. -/
namespace Go.Proofs
open Go.Shelf
def Tryz.lays189_ren : Go.Shelf.Ren := ⟨fun | 189 => 61 | 125 => 101 | 257 => 100 | 128 => 147 | 129 => 148 | 294 => 138 | 295 => 139 | 296 => 140 | 297 => 141 | 298 => 142 | 299 => 143 | 216 => 144 | 300 => 145 | 301 => 146 | 328 => 163 | 329 => 164 | 330 => 165 | 331 => 166 | 332 => 167 | 215 => 168 | 343 => 177 | n => n, fun | 28 => 22 | 3 => 3 | 46 => 131 | 0 => 0 | 51 => 167 | 53 => 60 | 4 => 4 | 183 => 161 | 182 => 160 | 131 => 132 | 5 => 5 | 9 => 9 | 218 => 176 | 222 => 180 | 228 => 182 | 229 => 183 | n => n, fun | n => n⟩
theorem Tryz.lays189 : Go.Proofs.Lays.n189 Tryz.prog Tryz.lays189_ren := {
  mixed := by kernel_rfl
  f125 := Tryz.func101.trans (congrArg some (by kernel_rfl))
  f128 := Tryz.func147.trans (congrArg some (by kernel_rfl))
  f129 := Tryz.func148.trans (congrArg some (by kernel_rfl))
  f189 := Tryz.func61.trans (congrArg some (by kernel_rfl))
  f215 := Tryz.func168.trans (congrArg some (by kernel_rfl))
  f216 := Tryz.func144.trans (congrArg some (by kernel_rfl))
  f257 := Tryz.func100.trans (congrArg some (by kernel_rfl))
  f294 := Tryz.func138.trans (congrArg some (by kernel_rfl))
  f295 := Tryz.func139.trans (congrArg some (by kernel_rfl))
  f296 := Tryz.func140.trans (congrArg some (by kernel_rfl))
  f297 := Tryz.func141.trans (congrArg some (by kernel_rfl))
  f298 := Tryz.func142.trans (congrArg some (by kernel_rfl))
  f299 := Tryz.func143.trans (congrArg some (by kernel_rfl))
  f300 := Tryz.func145.trans (congrArg some (by kernel_rfl))
  f301 := Tryz.func146.trans (congrArg some (by kernel_rfl))
  f328 := Tryz.func163.trans (congrArg some (by kernel_rfl))
  f329 := Tryz.func164.trans (congrArg some (by kernel_rfl))
  f330 := Tryz.func165.trans (congrArg some (by kernel_rfl))
  f331 := Tryz.func166.trans (congrArg some (by kernel_rfl))
  f332 := Tryz.func167.trans (congrArg some (by kernel_rfl))
  f343 := Tryz.func177.trans (congrArg some (by kernel_rfl))
  t0 := Tryz.underlying0
  a0 := Tryz.isAgg0
  z0 := Tryz.sizeOf0
  v0 := Tryz.zeroValue0
  t3 := Tryz.underlying3
  a3 := Tryz.isAgg3
  z3 := Tryz.sizeOf3
  v3 := Tryz.zeroValue3
  t4 := Tryz.underlying4
  a4 := Tryz.isAgg4
  z4 := Tryz.sizeOf4
  v4 := Tryz.zeroValue4
  t5 := Tryz.underlying5
  a5 := Tryz.isAgg5
  z5 := Tryz.sizeOf5
  v5 := Tryz.zeroValue5
  t9 := Tryz.underlying9
  a9 := Tryz.isAgg9
  z9 := Tryz.sizeOf9
  v9 := Tryz.zeroValue9
  t28 := Tryz.underlying22
  a28 := Tryz.isAgg22
  z28 := Tryz.sizeOf22
  v28 := Tryz.zeroValue22
  t46 := Tryz.underlying131
  a46 := Tryz.isAgg131
  z46 := Tryz.sizeOf131
  v46 := Tryz.zeroValue131
  t51 := Tryz.underlying167
  a51 := Tryz.isAgg167
  z51 := Tryz.sizeOf167
  v51 := Tryz.zeroValue167
  t53 := Tryz.underlying60
  a53 := Tryz.isAgg60
  z53 := Tryz.sizeOf60
  v53 := Tryz.zeroValue60
  t131 := Tryz.underlying132
  a131 := Tryz.isAgg132
  z131 := Tryz.sizeOf132
  v131 := Tryz.zeroValue132
  t182 := Tryz.underlying160
  a182 := Tryz.isAgg160
  z182 := Tryz.sizeOf160
  v182 := Tryz.zeroValue160
  t183 := Tryz.underlying161
  a183 := Tryz.isAgg161
  z183 := Tryz.sizeOf161
  v183 := Tryz.zeroValue161
  t218 := Tryz.underlying176
  a218 := Tryz.isAgg176
  z218 := Tryz.sizeOf176
  v218 := Tryz.zeroValue176
  t222 := Tryz.underlying180
  a222 := Tryz.isAgg180
  z222 := Tryz.sizeOf180
  v222 := Tryz.zeroValue180
  t228 := Tryz.underlying182
  a228 := Tryz.isAgg182
  z228 := Tryz.sizeOf182
  v228 := Tryz.zeroValue182
  t229 := Tryz.underlying183
  a229 := Tryz.isAgg183
  z229 := Tryz.sizeOf183
  v229 := Tryz.zeroValue183 }
open Go.RowKit Go.Lib Go.Sort in
theorem Tryz.slices_Sort_int (blk off cap : Nat) (zs : List Int) (w : World) (hH : Holds (Value.int .i64) w blk off zs.toArray) (hblk : blk < w.heap.size) (hsz : zs.length < 4611686018427387904) :
    Calls Tryz.prog 61 #[.slice (some ⟨blk, off, none⟩) zs.length cap] w fun e w' =>
      e = .returned (.tuple #[]) ∧ ∃ n os, w' = grow (putRow (Value.int .i64) (Sort.ahead w n) blk off (zs.mergeSort fun x y => decide (x ≤ y)).toArray) os := Any.slices_Sort_int Tryz.lays189 blk off cap zs w hH hblk hsz
def Tryz.laysNm220_ren : Go.Shelf.Ren := ⟨fun | 20 => 108 | n => n, fun | 22 => 22 | 3 => 3 | 4 => 4 | 0 => 0 | n => n, fun | n => n⟩
theorem Tryz.laysNm220 : Go.Proofs.Lays2.n20 Tryz.prog Tryz.laysNm220_ren := {
  mixed := by kernel_rfl
  f20 := Tryz.func108.trans (congrArg some (by kernel_rfl))
  t0 := Tryz.underlying0
  a0 := Tryz.isAgg0
  z0 := Tryz.sizeOf0
  v0 := Tryz.zeroValue0
  t3 := Tryz.underlying3
  a3 := Tryz.isAgg3
  z3 := Tryz.sizeOf3
  v3 := Tryz.zeroValue3
  t4 := Tryz.underlying4
  a4 := Tryz.isAgg4
  z4 := Tryz.sizeOf4
  v4 := Tryz.zeroValue4
  t22 := Tryz.underlying22
  a22 := Tryz.isAgg22
  z22 := Tryz.sizeOf22
  v22 := Tryz.zeroValue22
  i3 := by kernel_rfl }
open Go.RowKit Go.Lib Go.Sort in
theorem Tryz.slices_Compact_int (blk off cap : Nat) (zs : List Int) (w : World) (hH : Holds (Value.int .i64) w blk off zs.toArray) (hsz : zs.length ≤ 9223372036854775807) (hcap : zs.length ≤ cap) :
    Calls Tryz.prog 108 #[.slice (some ⟨blk, off, none⟩) zs.length cap] w fun e w' => e = .returned (.slice (some ⟨blk, off, none⟩) (Lib.compact zs).length cap) ∧ ∃ q, w' = putRow (Value.int .i64) (Sort.ahead w q) blk off (Lib.compact zs ++ List.replicate (zs.length - (Lib.compact zs).length) 0).toArray := Any.slices_Compact_int Tryz.laysNm220 blk off cap zs w hH hsz hcap
open Go.RowKit Go.Lib Go.Sort in
theorem Tryz.slices_Compact_int_empty (a : Option Addr) (cap : Nat) (w : World) :
    Calls Tryz.prog 108 #[.slice a 0 cap] w fun e w' => e = .returned (.slice a 0 cap) ∧ w' = w := Any.slices_Compact_int_empty Tryz.laysNm220 a cap w
open Go.RowKit Go.Lib Go.Sort in
theorem Tryz.slices_Sort_int_none (p : Option Addr) (cap : Nat) (w : World) :
    Calls Tryz.prog 61 #[.slice p 0 cap] w fun e w' => e = .returned (.tuple #[]) ∧ w' = w := Any.slices_Sort_int_none Tryz.lays189 p cap w
end Go.Proofs

/- Sorting and leaving out: the list of what is in a list, ascending. -/
namespace Go.Proofs.YthcnpnogfblkcaaGreat
open Abs
set_option linter.unusedSimpArgs false
set_option linter.unusedVariables false

theorem sortSaid : SortSaid Tryz.prog 61 :=
  ⟨fun blk cap zs w h1 h2 h3 => Tryz.slices_Sort_int blk 0 cap zs w h1 h2 h3, fun p cap w => Tryz.slices_Sort_int_none p cap w, callable_of Tryz.func61 (by kernel_rfl)⟩
theorem compSaid : CompSaid Tryz.prog 108 :=
  ⟨fun blk cap zs w h1 h2 h3 => Tryz.slices_Compact_int blk 0 cap zs w h1 h2 h3, fun p cap w => Tryz.slices_Compact_int_empty p cap w, callable_of Tryz.func108 (by kernel_rfl)⟩

theorem asc_iff {l : List Int} : Asc l ↔ l.Pairwise (· < ·) := by
  rw [List.pairwise_iff_getElem]
  constructor
  · intro h i j hi hj hij
    have := h i j hij hj
    rwa [nth_eq hi, nth_eq hj] at this
  · intro h a b hab hb
    have := h a b (by omega) hb hab
    rw [nth_eq (by omega), nth_eq hb]
    exact this

/-- Ascending lists of the same numbers are one. -/
theorem asc_ext : ∀ {a b : List Int}, a.Pairwise (· < ·) → b.Pairwise (· < ·) → (∀ x, x ∈ a ↔ x ∈ b) → a = b
  | [], [], _, _, _ => rfl
  | [], y :: b, _, _, h => by have := (h y).2 (by simp); cases this
  | x :: a, [], _, _, h => by have := (h x).1 (by simp); cases this
  | x :: a, y :: b, ha, hb, h => by
    rw [List.pairwise_cons] at ha hb
    have hxy : x = y := by
      have h1 := (h x).1 (by simp)
      have h2 := (h y).2 (by simp)
      rcases List.mem_cons.1 h1 with e | e
      · exact e
      · rcases List.mem_cons.1 h2 with e' | e'
        · exact e'.symm
        · have := ha.1 y e'
          have := hb.1 x e
          omega
    subst hxy
    congr 1
    refine asc_ext ha.2 hb.2 fun z => ?_
    constructor
    · intro hz
      have hne := ha.1 z hz
      rcases List.mem_cons.1 ((h z).1 (List.mem_cons_of_mem _ hz)) with e | e
      · omega
      · exact e
    · intro hz
      have hne := hb.1 z hz
      rcases List.mem_cons.1 ((h z).2 (List.mem_cons_of_mem _ hz)) with e | e
      · omega
      · exact e

def canonF (S : List Int) (i : Nat) : Option Int := if (i : Int) ∈ S then some i else none
/-- The numbers below n that are in a list, ascending. -/
def canon (n : Nat) (S : List Int) : List Int := collect (canonF S) n

theorem mem_canon {n : Nat} {S : List Int} {x : Int} : x ∈ canon n S ↔ 0 ≤ x ∧ x < n ∧ x ∈ S := by
  rw [canon, mem_collect]
  constructor
  · rintro ⟨j, hj, h⟩
    simp only [canonF] at h
    split at h
    · injection h with h
      subst h
      exact ⟨by omega, by omega, by assumption⟩
    · cases h
  · rintro ⟨h1, h2, h3⟩
    obtain ⟨j, rfl⟩ := Int.eq_ofNat_of_zero_le h1
    exact ⟨j, by omega, by simp [canonF, h3]⟩

theorem canon_asc {n : Nat} {S : List Int} : (canon n S).Pairwise (· < ·) := by
  induction n with
  | zero => exact List.Pairwise.nil
  | succ n ih =>
    simp only [canon] at ih ⊢
    by_cases h : (n : Int) ∈ S
    · rw [collect_some (x := (n : Int)) (by simp [canonF, h]), List.pairwise_append]
      refine ⟨ih, by simp, fun a ha b hb => ?_⟩
      have h1 := (mem_canon (n := n) (S := S)).1 ha
      simp at hb
      omega
    · rw [collect_none (by simp [canonF, h])]
      exact ih

theorem compact_sorted {zs : List Int} (h : ∀ i j, i ≤ j → j < zs.length → zs.toArray[i]! ≤ zs.toArray[j]!) : ∀ m, m ≤ zs.length → (Lib.compactUpTo zs.toArray m).Pairwise (· < ·) ∧ ∀ x, x ∈ Lib.compactUpTo zs.toArray m ↔ ∃ j, j < m ∧ zs.toArray[j]! = x
  | 0, _ => ⟨by simp [Lib.compactUpTo], fun x => by simp [Lib.compactUpTo]⟩
  | m + 1, hm => by
    obtain ⟨i1, i2⟩ := compact_sorted h m (by omega)
    rw [Lib.compactUpTo_succ]
    cases hk : Lib.keeps zs.toArray m
    · have hk' : ¬ (m = 0 ∨ zs.toArray[m]! ≠ zs.toArray[m - 1]!) := by
        intro e
        rw [Lib.keeps] at hk
        exact absurd e (by simpa using hk)
      have h0 : m ≠ 0 := fun e => hk' (.inl e)
      have h1 : zs.toArray[m]! = zs.toArray[m - 1]! := by
        rcases Decidable.em (zs.toArray[m]! = zs.toArray[m - 1]!) with e | e
        · exact e
        · exact absurd (.inr e) hk'
      simp only [Bool.false_eq_true, if_false, List.append_nil]
      refine ⟨i1, fun x => (i2 x).trans ⟨fun ⟨j, hj, e⟩ => ⟨j, by omega, e⟩, fun ⟨j, hj, e⟩ => ?_⟩⟩
      by_cases hjm : j = m
      · exact ⟨m - 1, by omega, by rw [← h1, ← hjm]; exact e⟩
      · exact ⟨j, by omega, e⟩
    · simp only [if_true]
      constructor
      · rw [List.pairwise_append]
        refine ⟨i1, by simp, fun a ha b hb => ?_⟩
        simp only [List.mem_singleton] at hb
        subst hb
        obtain ⟨j, hj, rfl⟩ := (i2 a).1 ha
        have hk' : m = 0 ∨ zs.toArray[m]! ≠ zs.toArray[m - 1]! := by
          rw [Lib.keeps] at hk
          exact of_decide_eq_true hk
        rcases hk' with e | e
        · omega
        · have h1 := h j (m - 1) (by omega) (by omega)
          have h2 := h (m - 1) m (by omega) (by omega)
          omega
      · intro x
        rw [List.mem_append, i2 x, List.mem_singleton]
        constructor
        · rintro (⟨j, hj, e⟩ | e)
          · exact ⟨j, by omega, e⟩
          · exact ⟨m, by omega, e.symm⟩
        · rintro ⟨j, hj, e⟩
          by_cases hjm : j = m
          · subst hjm
            exact .inr e.symm
          · exact .inl ⟨j, by omega, e⟩

theorem compact_sort_eq {n : Nat} {l : List Int} (h : ∀ x ∈ l, 0 ≤ x ∧ x < n) : Lib.compact (l.mergeSort fun x y => decide (x ≤ y)) = canon n l := by
  have hs : (l.mergeSort fun x y => decide (x ≤ y)).Pairwise (fun x y => (decide (x ≤ y)) = true) :=
    List.pairwise_mergeSort (fun a b c h1 h2 => by simp at *; omega) (fun a b => by simp; omega) l
  have hmem : ∀ x, x ∈ (l.mergeSort fun x y => decide (x ≤ y)) ↔ x ∈ l := fun x => List.mem_mergeSort
  generalize (l.mergeSort fun x y => decide (x ≤ y)) = zs at *
  have get : ∀ i, (hi : i < zs.length) → zs.toArray[i]! = zs[i] := fun i hi => by simp [hi]
  have mono : ∀ i j, i ≤ j → j < zs.length → zs.toArray[i]! ≤ zs.toArray[j]! := fun i j hij hj => by
    rw [get i (by omega), get j hj]
    rcases Nat.lt_or_eq_of_le hij with e | rfl
    · have := List.pairwise_iff_getElem.1 hs i j (by omega) hj e
      simpa using this
    · exact Int.le_refl _
  obtain ⟨c1, c2⟩ := compact_sorted mono zs.length (Nat.le_refl _)
  refine asc_ext c1 canon_asc fun x => ?_
  rw [mem_canon, Lib.compact, c2 x]
  constructor
  · rintro ⟨j, hj, rfl⟩
    rw [get j hj]
    have := (hmem _).1 (List.getElem_mem hj)
    exact ⟨(h _ this).1, (h _ this).2, this⟩
  · rintro ⟨_, _, hx⟩
    obtain ⟨j, hj, rfl⟩ := List.mem_iff_getElem.1 ((hmem x).2 hx)
    exact ⟨j, hj, get j hj⟩
end Go.Proofs.YthcnpnogfblkcaaGreat

/- Contracts: how many images there are; injective and surjective morphisms. -/
namespace Go.Proofs.YthcnpnogfblkcaaGreat
open Abs
set_option linter.unusedSimpArgs false
set_option linter.unusedVariables false
attribute [local simp] rn0 rn1 rn2 rn3 rn4 rn5 rn6 rn7 evOp nests Arg.ev St.val St.set St.new sliceOf binInt2 binInt AV.cells rdAt St.live retOf resOf resAll treeOf treeCell treeCells treeTups untree frameOf TV.av TR.av ints edgs prs fillV splice intsOf trees V1.tree bx Gr.v Pa.v opRd opWr opNew opNewR opArgs argsRd argRd Arg.rd AV.refs V1.refs refsL dstL

theorem dedup (l : List Int) : ∃ d : List Int, d.Nodup ∧ (∀ x, x ∈ d ↔ x ∈ l) ∧ d.length ≤ l.length ∧ (d.length = l.length → l.Nodup) := by
  induction l with
  | nil => exact ⟨[], by simp, by simp, by simp, by simp⟩
  | cons a r ih =>
    obtain ⟨d, h1, h2, h3, h4⟩ := ih
    by_cases ha : a ∈ r
    · refine ⟨d, h1, fun x => ?_, by simp; omega, fun h => by simp at h; omega⟩
      rw [h2, List.mem_cons]
      constructor
      · exact .inr
      · rintro (rfl | h)
        · exact ha
        · exact h
    · refine ⟨a :: d, List.nodup_cons.2 ⟨fun h => ha ((h2 a).1 h), h1⟩, fun x => by rw [List.mem_cons, List.mem_cons, h2], by simp; omega, fun h => List.nodup_cons.2 ⟨ha, h4 (by simp at h; omega)⟩⟩

theorem canon_nodup {n : Nat} {l : List Int} : (canon n l).Nodup := canon_asc.imp fun h => by omega

theorem canon_len_nodup {n : Nat} {l : List Int} (hr : ∀ x ∈ l, 0 ≤ x ∧ x < n) : (canon n l).length = l.length ↔ l.Nodup := by
  obtain ⟨d, h1, h2, h3, h4⟩ := dedup l
  have e : (canon n l).length = d.length := List.Perm.length_eq ((List.perm_ext_iff_of_nodup canon_nodup h1).2 fun x => by
    rw [mem_canon, h2]
    exact ⟨fun h => h.2.2, fun h => ⟨(hr x h).1, (hr x h).2, h⟩⟩)
  constructor
  · intro h
    exact h4 (by omega)
  · intro h
    exact List.Perm.length_eq ((List.perm_ext_iff_of_nodup canon_nodup h).2 fun x => by
      rw [mem_canon]
      exact ⟨fun h => h.2.2, fun h => ⟨(hr x h).1, (hr x h).2, h⟩⟩)

theorem collect_all {α : Type} {f : Nat → Option α} : ∀ {n : Nat}, (collect f n).length = n ↔ ∀ k, k < n → (f k).isSome = true
  | 0 => by simp [collect]
  | n + 1 => by
    have ih := collect_all (f := f) (n := n)
    have hl := collect_len (f := f) (k := n)
    cases h : f n with
    | none =>
      rw [collect_none h]
      constructor
      · intro e; omega
      · intro e
        have := e n (by omega)
        rw [h] at this
        cases this
    | some x =>
      rw [collect_some h, List.length_append]
      constructor
      · intro e k hk
        by_cases hkn : k = n
        · subst hkn; rw [h]; rfl
        · exact ih.1 (by simp at e; omega) k (by omega)
      · intro e
        have := ih.2 fun k hk => e k (by omega)
        simp
        omega

theorem canon_len_cov {n : Nat} {l : List Int} : (canon n l).length = n ↔ ∀ k : Nat, k < n → (k : Int) ∈ l := by
  rw [canon, collect_all]
  refine forall_congr' fun k => forall_congr' fun hk => ?_
  simp only [canonF]
  split
  · exact ⟨fun _ => by assumption, fun _ => rfl⟩
  · rename_i h
    exact ⟨fun h' => (by cases h'), fun h' => absurd h' h⟩

def c_images : MFunc := ⟨11, [.tmp 2], .seq (.region [⟨some 2, .mv (.c (.one (.t (.int .i64 0)))), none⟩]) (.seq (.region [⟨some 4, .mv (.tmp 0), none⟩, ⟨some 5, .call (.c (.one (.fn 25 []))) 65 [.tmp 4], none⟩, ⟨some 3, .mv (.tmp 5), none⟩]) (.seq (.region [⟨some 6, .mv (.tmp 3), none⟩, ⟨some 7, .call (.c (.one (.fn 61 []))) 129 [.tmp 6], none⟩]) (.seq (.region [⟨some 8, .mv (.tmp 3), none⟩, ⟨some 9, .call (.c (.one (.fn 108 []))) 193 [.tmp 8], none⟩, ⟨some 10, .len (.tmp 9), none⟩, ⟨some 2, .mv (.tmp 10), none⟩]) .ret)))⟩
theorem k_images : cFn Tryz.prog Tryz.f69 = some c_images := by kernel_rfl
theorem images_ok (n : Nat) (l : List Int) (hl : tiny l.length) (hr : ∀ x ∈ l, 0 ≤ x ∧ x < n) : CallOK Tryz.prog 69 [(false, [ints l])] (.sv (false, [.int .i64 (canon n l).length])) := by
  refine callOK_W (callS_W (by kernel_rfl) Tryz.func69 k_images (callable_of Tryz.func69 (by kernel_rfl)) (by simp [c_images]) ?_)
  simp only [tiny] at hl
  simp [c_images]
  refine callS_rowL 65 (clone_row l hl) rfl fun v ob cnt ho hob hcnt => ?_
  simp
  refine callS_sortL sortSaid ho (by omega) fun ob1 ho1 hob1 => ?_
  simp
  refine callS_compactL compSaid ho1 (by simp only [List.length_mergeSort]; omega) fun ob2 hob2 => ?_
  rw [compact_sort_eq hr]
  simp

/-- Is a morphism injective? -/
def injB (a b : Gr) (m : Pa) : Bool := decide (morErr a b m = 0) && decide m.nodes.Nodup && decide m.edges.Nodup
/-- Is a morphism surjective? -/
def covB (l : List Int) (n : Nat) : Bool := decide (∀ k : Nat, k < n → (k : Int) ∈ l)
def surjB (a b : Gr) (m : Pa) : Bool := decide (morErr a b m = 0) && covB m.nodes b.nodes.length && covB m.edges b.edges.length

def c_injX : MFunc := ⟨30, [.tmp 6], .seq (.region [⟨some 3, .box 0 25 (.tmp 0), none⟩, ⟨some 4, .box 1 25 (.tmp 1), none⟩, ⟨some 5, .box 2 27 (.tmp 2), none⟩, ⟨some 6, .mv (.c (.one (.t (.bool false)))), none⟩]) (.seq (.draw [[], [], [], [0, 1, 2], [3], [4, 3], [5], [6, 5], [7, 5, 5], [5], [9, 5], [10, 5], [8, 11, 5], [5, 12], [13, 8], [14], [15, 14], [16, 14, 14], [14], [18, 14], [19, 14], [17, 20, 14], [14, 21], [22, 17, 0, 1, 2, 3, 4, 5, 6, 7, 8, 9, 10, 11, 12, 13, 14, 15, 16, 17, 18, 19, 20, 21, 22]] [⟨some 7, .load true 2 (.tmp 3), none⟩, ⟨some 8, .load true 2 (.tmp 4), none⟩, ⟨some 9, .load true 2 (.tmp 5), none⟩, ⟨some 10, .call (.c (.one (.fn 41 []))) 67 [.tmp 7, .tmp 8, .tmp 9], none⟩, ⟨some 11, .bin .eql (.tmp 10) (.c (.one (.t (.int .i64 0)))), none⟩, ⟨some 12, .mv (.tmp 11), none⟩, ⟨some 13, .fieldA 0 (.tmp 5), some (12, true)⟩, ⟨some 14, .load false 1 (.tmp 13), some (12, true)⟩, ⟨some 15, .call (.c (.one (.fn 69 []))) 72 [.tmp 14], some (12, true)⟩, ⟨some 16, .fieldA 0 (.tmp 5), some (12, true)⟩, ⟨some 17, .load false 1 (.tmp 16), some (12, true)⟩, ⟨some 18, .len (.tmp 17), some (12, true)⟩, ⟨some 19, .bin .eql (.tmp 15) (.tmp 18), some (12, true)⟩, ⟨some 20, .pick (.tmp 12) (.tmp 19) (.c (.one (.t (.bool false)))), none⟩, ⟨some 21, .mv (.tmp 20), none⟩, ⟨some 22, .fieldA 1 (.tmp 5), some (21, true)⟩, ⟨some 23, .load false 1 (.tmp 22), some (21, true)⟩, ⟨some 24, .call (.c (.one (.fn 69 []))) 81 [.tmp 23], some (21, true)⟩, ⟨some 25, .fieldA 1 (.tmp 5), some (21, true)⟩, ⟨some 26, .load false 1 (.tmp 25), some (21, true)⟩, ⟨some 27, .len (.tmp 26), some (21, true)⟩, ⟨some 28, .bin .eql (.tmp 24) (.tmp 27), some (21, true)⟩, ⟨some 29, .pick (.tmp 21) (.tmp 28) (.c (.one (.t (.bool false)))), none⟩, ⟨some 6, .mv (.tmp 29), none⟩]) .ret)⟩
theorem k_injX : cFn Tryz.prog Tryz.f27 = some c_injX := by kernel_rfl
theorem injX_ok (a b : Gr) (m : Pa) (ta : tinyG a) (tb : tinyG b) (tm : tinyP m) : CallOK Tryz.prog 27 [a.v, b.v, m.v] (.sv (false, [.bool (injB a b m)])) := by
  refine callOK_W (callS_W (by kernel_rfl) Tryz.func27 k_injX (callable_of Tryz.func27 (by kernel_rfl)) (by simp [c_injX]) ?_)
  simp [c_injX, dw0, dw1, dw2, dw3]
  refine dCall_ok (mvalid_ok a b m ta tb tm) ?_ ?_ ?_
  · rfl
  · rfl
  by_cases h1 : morErr a b m = 0
  case neg =>
    simp [dw0, dw1, dw2, dw3, h1, injB]
    rfl
  have mo := mor_ok h1
  have i1 := canon_len_nodup mo.rn
  have i2 := canon_len_nodup mo.re
  simp [dw0, dw1, dw2, dw3, h1]
  refine dCall_ok (images_ok b.nodes.length m.nodes tm.1 mo.rn) ?_ ?_ ?_
  · rfl
  · rfl
  by_cases h2 : m.nodes.Nodup
  case neg =>
    have e : ¬ ((canon b.nodes.length m.nodes).length : Int) = m.nodes.length := fun h => h2 (i1.1 (by omega))
    have e' : ¬ (canon b.nodes.length m.nodes).length = m.nodes.length := fun h => h2 (i1.1 h)
    simp [dw0, dw1, dw2, dw3, h1, h2, injB, e, e']
    rfl
  have e1 := i1.2 h2
  simp [dw0, dw1, dw2, dw3, h1, h2, e1]
  refine dCall_ok (images_ok b.edges.length m.edges tm.2 mo.re) ?_ ?_ ?_
  · rfl
  · rfl
  by_cases h3 : m.edges.Nodup
  case neg =>
    have e : ¬ ((canon b.edges.length m.edges).length : Int) = m.edges.length := fun h => h3 (i2.1 (by omega))
    have e' : ¬ (canon b.edges.length m.edges).length = m.edges.length := fun h => h3 (i2.1 h)
    simp [dw0, dw1, dw2, dw3, h1, h2, h3, injB, e, e']
    rfl
  have e2 := i2.2 h3
  simp [dw0, dw1, dw2, dw3, h1, h2, h3, injB, e1, e2]
  rfl

def c_surjX : MFunc := ⟨30, [.tmp 6], .seq (.region [⟨some 3, .box 0 25 (.tmp 0), none⟩, ⟨some 4, .box 1 25 (.tmp 1), none⟩, ⟨some 5, .box 2 27 (.tmp 2), none⟩, ⟨some 6, .mv (.c (.one (.t (.bool false)))), none⟩]) (.seq (.draw [[], [], [], [0, 1, 2], [3], [4, 3], [5], [6, 5], [7, 5, 5], [5], [9, 5], [10, 5], [8, 11, 5], [5, 12], [13, 8], [14], [15, 14], [16, 14, 14], [14], [18, 14], [19, 14], [17, 20, 14], [14, 21], [22, 17, 0, 1, 2, 3, 4, 5, 6, 7, 8, 9, 10, 11, 12, 13, 14, 15, 16, 17, 18, 19, 20, 21, 22]] [⟨some 7, .load true 2 (.tmp 3), none⟩, ⟨some 8, .load true 2 (.tmp 4), none⟩, ⟨some 9, .load true 2 (.tmp 5), none⟩, ⟨some 10, .call (.c (.one (.fn 41 []))) 67 [.tmp 7, .tmp 8, .tmp 9], none⟩, ⟨some 11, .bin .eql (.tmp 10) (.c (.one (.t (.int .i64 0)))), none⟩, ⟨some 12, .mv (.tmp 11), none⟩, ⟨some 13, .fieldA 0 (.tmp 5), some (12, true)⟩, ⟨some 14, .load false 1 (.tmp 13), some (12, true)⟩, ⟨some 15, .call (.c (.one (.fn 69 []))) 72 [.tmp 14], some (12, true)⟩, ⟨some 16, .fieldA 0 (.tmp 4), some (12, true)⟩, ⟨some 17, .load false 1 (.tmp 16), some (12, true)⟩, ⟨some 18, .len (.tmp 17), some (12, true)⟩, ⟨some 19, .bin .eql (.tmp 15) (.tmp 18), some (12, true)⟩, ⟨some 20, .pick (.tmp 12) (.tmp 19) (.c (.one (.t (.bool false)))), none⟩, ⟨some 21, .mv (.tmp 20), none⟩, ⟨some 22, .fieldA 1 (.tmp 5), some (21, true)⟩, ⟨some 23, .load false 1 (.tmp 22), some (21, true)⟩, ⟨some 24, .call (.c (.one (.fn 69 []))) 81 [.tmp 23], some (21, true)⟩, ⟨some 25, .fieldA 1 (.tmp 4), some (21, true)⟩, ⟨some 26, .load false 1 (.tmp 25), some (21, true)⟩, ⟨some 27, .len (.tmp 26), some (21, true)⟩, ⟨some 28, .bin .eql (.tmp 24) (.tmp 27), some (21, true)⟩, ⟨some 29, .pick (.tmp 21) (.tmp 28) (.c (.one (.t (.bool false)))), none⟩, ⟨some 6, .mv (.tmp 29), none⟩]) .ret)⟩
theorem k_surjX : cFn Tryz.prog Tryz.f99 = some c_surjX := by kernel_rfl
theorem surjX_ok (a b : Gr) (m : Pa) (ta : tinyG a) (tb : tinyG b) (tm : tinyP m) : CallOK Tryz.prog 99 [a.v, b.v, m.v] (.sv (false, [.bool (surjB a b m)])) := by
  refine callOK_W (callS_W (by kernel_rfl) Tryz.func99 k_surjX (callable_of Tryz.func99 (by kernel_rfl)) (by simp [c_surjX]) ?_)
  simp [c_surjX, dw0, dw1, dw2, dw3]
  refine dCall_ok (mvalid_ok a b m ta tb tm) ?_ ?_ ?_
  · rfl
  · rfl
  by_cases h1 : morErr a b m = 0
  case neg =>
    simp [dw0, dw1, dw2, dw3, h1, surjB]
    rfl
  have mo := mor_ok h1
  have i1 := canon_len_cov (n := b.nodes.length) (l := m.nodes)
  have i2 := canon_len_cov (n := b.edges.length) (l := m.edges)
  simp [dw0, dw1, dw2, dw3, h1]
  refine dCall_ok (images_ok b.nodes.length m.nodes tm.1 mo.rn) ?_ ?_ ?_
  · rfl
  · rfl
  by_cases h2 : ∀ k : Nat, k < b.nodes.length → (k : Int) ∈ m.nodes
  case neg =>
    have e : ¬ ((canon b.nodes.length m.nodes).length : Int) = b.nodes.length := fun h => h2 (i1.1 (by omega))
    have e' : ¬ (canon b.nodes.length m.nodes).length = b.nodes.length := fun h => h2 (i1.1 h)
    have q : covB m.nodes b.nodes.length = false := by simp only [covB]; exact decide_eq_false h2
    simp [dw0, dw1, dw2, dw3, h1, surjB, e, e', q]
    rfl
  have e1 := i1.2 h2
  have q1 : covB m.nodes b.nodes.length = true := by simp only [covB]; exact decide_eq_true h2
  simp [dw0, dw1, dw2, dw3, h1, e1]
  refine dCall_ok (images_ok b.edges.length m.edges tm.2 mo.re) ?_ ?_ ?_
  · rfl
  · rfl
  by_cases h3 : ∀ k : Nat, k < b.edges.length → (k : Int) ∈ m.edges
  case neg =>
    have e : ¬ ((canon b.edges.length m.edges).length : Int) = b.edges.length := fun h => h3 (i2.1 (by omega))
    have e' : ¬ (canon b.edges.length m.edges).length = b.edges.length := fun h => h3 (i2.1 h)
    have q : covB m.edges b.edges.length = false := by simp only [covB]; exact decide_eq_false h3
    simp [dw0, dw1, dw2, dw3, h1, surjB, e, e', q, q1]
    rfl
  have e2 := i2.2 h3
  have q2 : covB m.edges b.edges.length = true := by simp only [covB]; exact decide_eq_true h3
  simp [dw0, dw1, dw2, dw3, h1, surjB, e1, e2, q1, q2]
  rfl

theorem nodup_step {l : List Int} {k : Nat} (h : (l.take k).Nodup) (hk : k < l.length) (hn : ∀ j, j < k → nth l k ≠ nth l j) : (l.take (k + 1)).Nodup := by
  rw [take_succ_nth' hk, List.nodup_append]
  refine ⟨h, by simp, fun a ha b hb => ?_⟩
  simp at hb
  subst hb
  obtain ⟨j, hj, rfl⟩ := mem_nth ha
  rw [List.length_take] at hj
  rw [nth_eq (by rw [List.length_take]; omega), List.getElem_take, ← nth_eq (by omega)]
  exact fun e => hn j (by omega) e.symm

def c_distinct : MFunc := ⟨25, [.tmp 2], .seq (.region [⟨some 2, .mv (.c (.one (.t (.bool false)))), none⟩]) (.seq (.seq (.region [⟨some 3, .mv (.c (.one (.t (.int .i64 0)))), none⟩]) (.block 0 (.loop (.seq (.seq (.region [⟨some 5, .mv (.tmp 3), none⟩, ⟨some 6, .mv (.tmp 0), none⟩, ⟨some 7, .len (.tmp 6), none⟩, ⟨some 8, .bin .lss (.tmp 5) (.tmp 7), none⟩]) (.cond (.tmp 8) .skip (.exit 0))) (.seq (.block 1 (.seq (.region [⟨some 4, .mv (.c (.one (.t (.int .i64 0)))), none⟩]) (.block 2 (.loop (.seq (.seq (.region [⟨some 11, .mv (.tmp 4), none⟩, ⟨some 12, .mv (.tmp 3), none⟩, ⟨some 13, .bin .lss (.tmp 11) (.tmp 12), none⟩]) (.cond (.tmp 13) .skip (.exit 2))) (.seq (.block 3 (.seq (.draw [[], [], [0, 1], [2], [], [], [4, 5], [6], [3, 7]] [⟨some 16, .mv (.tmp 0), none⟩, ⟨some 17, .mv (.tmp 3), none⟩, ⟨some 18, .idxA 1 (.tmp 16) (.tmp 17), none⟩, ⟨some 19, .load false 1 (.tmp 18), none⟩, ⟨some 20, .mv (.tmp 0), none⟩, ⟨some 21, .mv (.tmp 4), none⟩, ⟨some 22, .idxA 1 (.tmp 20) (.tmp 21), none⟩, ⟨some 23, .load false 1 (.tmp 22), none⟩, ⟨some 24, .bin .eql (.tmp 19) (.tmp 23), none⟩]) (.cond (.tmp 24) (.seq (.region [⟨some 2, .mv (.c (.one (.t (.bool false)))), none⟩]) .ret) .skip))) (.region [⟨some 14, .mv (.tmp 4), none⟩, ⟨some 15, .bin .add (.tmp 14) (.c (.one (.t (.int .i64 1)))), none⟩, ⟨some 4, .mv (.tmp 15), none⟩]))))))) (.region [⟨some 9, .mv (.tmp 3), none⟩, ⟨some 10, .bin .add (.tmp 9) (.c (.one (.t (.int .i64 1)))), none⟩, ⟨some 3, .mv (.tmp 10), none⟩])))))) (.seq (.region [⟨some 2, .mv (.c (.one (.t (.bool true)))), none⟩]) .ret))⟩
theorem k_distinct : cFn Tryz.prog Tryz.f104 = some c_distinct := by kernel_rfl
theorem distinct_ok (l : List Int) (hl : tiny l.length) : CallOK Tryz.prog 104 [(false, [ints l])] (.sv (false, [.bool (decide l.Nodup)])) := by
  refine callOK_W (callS_W (by kernel_rfl) Tryz.func104 k_distinct (callable_of Tryz.func104 (by kernel_rfl)) (by simp [c_distinct]) ?_)
  simp [c_distinct]
  refine loopW_count 3 l.length (fun k S => S.fr 0 = .one (.t (ints l)) ∧ (l.take k).Nodup) hl.small ?_ ?_ ?_
  · simp
  · rintro k S hlt hw hc ⟨f0, hp⟩
    simp [f0, hc, hlt]
    refine loopW_count 4 k (fun j S => S.fr 0 = .one (.t (ints l)) ∧ S.fr 3 = .one (.t (.int .i64 k)) ∧ ∀ i, i < j → nth l k ≠ nth l i) (by have := hl.small; simp only [small] at this; omega) ?_ ?_ ?_
    · simp [f0, hc]
    · rintro j S' hlt' hw' hc' ⟨f0, f3, hq⟩
      have hj : j < l.length := by omega
      by_cases e : nth l k = nth l j
      · have hno : ¬ l.Nodup := fun hn => by
          have := List.pairwise_iff_getElem.1 hn j k hj hlt hlt'
          rw [nth_eq hlt, nth_eq hj] at e
          exact this e.symm
        simp [dw0, dw1, dw2, dw3, f0, f3, hc', hlt', hj, hlt, drop_nth hlt, drop_nth hj, e, hno]
        rfl
      · simp [dw0, dw1, dw2, dw3, f0, f3, hc', hlt', hj, hlt, drop_nth hlt, drop_nth hj, e, hw']
        exact ⟨rfl, lt_succ_all hq e⟩
    · rintro S' hc' ⟨f0, f3, hq⟩
      simp [f0, f3, hc', hw]
      exact nodup_step hp hlt hq
  · rintro S hc ⟨f0, hp⟩
    rw [List.take_length] at hp
    simp [f0, hc, hp]

def c_covers6 : MFunc := ⟨30, [.tmp 4], .seq (.region [⟨some 4, .mv (.c (.one (.t (.bool false)))), none⟩]) (.seq (.seq (.region [⟨some 5, .mv (.c (.one (.t (.int .i64 0)))), none⟩]) (.block 0 (.loop (.seq (.seq (.region [⟨some 8, .mv (.tmp 5), none⟩, ⟨some 9, .mv (.tmp 1), none⟩, ⟨some 10, .bin .lss (.tmp 8) (.tmp 9), none⟩]) (.cond (.tmp 10) .skip (.exit 0))) (.seq (.block 1 (.seq (.region [⟨some 6, .mv (.c (.one (.t (.bool false)))), none⟩]) (.seq (.seq (.region [⟨some 7, .mv (.c (.one (.t (.int .i64 0)))), none⟩]) (.block 2 (.loop (.seq (.seq (.region [⟨some 13, .mv (.tmp 7), none⟩, ⟨some 14, .mv (.tmp 0), none⟩, ⟨some 15, .len (.tmp 14), none⟩, ⟨some 16, .bin .lss (.tmp 13) (.tmp 15), none⟩]) (.cond (.tmp 16) .skip (.exit 2))) (.seq (.block 3 (.region [⟨some 19, .mv (.tmp 6), none⟩, ⟨some 20, .mv (.tmp 19), none⟩, ⟨some 21, .mv (.tmp 0), some (20, false)⟩, ⟨some 22, .mv (.tmp 7), some (20, false)⟩, ⟨some 23, .idxA 1 (.tmp 21) (.tmp 22), some (20, false)⟩, ⟨some 24, .load false 1 (.tmp 23), some (20, false)⟩, ⟨some 25, .mv (.tmp 5), some (20, false)⟩, ⟨some 26, .bin .eql (.tmp 24) (.tmp 25), some (20, false)⟩, ⟨some 27, .pick (.tmp 20) (.c (.one (.t (.bool true)))) (.tmp 26), none⟩, ⟨some 6, .mv (.tmp 27), none⟩])) (.region [⟨some 17, .mv (.tmp 7), none⟩, ⟨some 18, .bin .add (.tmp 17) (.c (.one (.t (.int .i64 1)))), none⟩, ⟨some 7, .mv (.tmp 18), none⟩])))))) (.seq (.region [⟨some 28, .mv (.tmp 6), none⟩, ⟨some 29, .not (.tmp 28), none⟩]) (.cond (.tmp 29) (.seq (.region [⟨some 4, .mv (.c (.one (.t (.bool false)))), none⟩]) .ret) .skip))))) (.region [⟨some 11, .mv (.tmp 5), none⟩, ⟨some 12, .bin .add (.tmp 11) (.c (.one (.t (.int .i64 1)))), none⟩, ⟨some 5, .mv (.tmp 12), none⟩])))))) (.seq (.region [⟨some 4, .mv (.c (.one (.t (.bool true)))), none⟩]) .ret))⟩
theorem k_covers6 : cFn Tryz.prog Tryz.f155 = some c_covers6 := by kernel_rfl
theorem covers6_ok (l : List Int) (n : Nat) (hl : tiny l.length) (hn : tiny n) : CallOK Tryz.prog 155 [(false, [ints l]), (false, [.int .i64 n])] (.sv (false, [.bool (covB l n)])) := by
  refine callOK_W (callS_W (by kernel_rfl) Tryz.func155 k_covers6 (callable_of Tryz.func155 (by kernel_rfl)) (by simp [c_covers6]) ?_)
  simp [c_covers6]
  refine loopW_count 5 n (fun k S => S.fr 0 = .one (.t (ints l)) ∧ S.fr 1 = .one (.t (.int .i64 n)) ∧ ∀ j : Nat, j < k → (j : Int) ∈ l) hn.small ?_ ?_ ?_
  · simp
  · rintro k S hlt hw hc ⟨f0, f1, hp⟩
    simp [f0, f1, hc, hlt]
    refine loopW_count 7 l.length (fun j S => S.fr 0 = .one (.t (ints l)) ∧ S.fr 1 = .one (.t (.int .i64 n)) ∧ S.fr 5 = .one (.t (.int .i64 k)) ∧ S.fr 6 = .one (.t (.bool (decide ((k : Int) ∈ l.take j))))) hl.small ?_ ?_ ?_
    · simp [f0, f1, hc]
    · rintro j S' hlt' hw' hc' ⟨f0, f1, f5, f6⟩
      by_cases e0 : (k : Int) ∈ l.take j
      · have e1 : (k : Int) ∈ l.take (j + 1) := by rw [take_succ_nth' hlt']; simp [e0]
        simp [f0, f1, f5, f6, hc', hlt', e0, e1, hw']
      · by_cases e : nth l j = k
        · have e1 : (k : Int) ∈ l.take (j + 1) := by rw [take_succ_nth' hlt']; simp [e]
          simp [f0, f1, f5, f6, hc', hlt', e0, e1, hw', drop_nth hlt', e]
        · have e1 : ¬ (k : Int) ∈ l.take (j + 1) := by rw [take_succ_nth' hlt']; simp [e0]; omega
          simp [f0, f1, f5, f6, hc', hlt', e0, e1, hw', drop_nth hlt', e]
    · rintro S' hc' ⟨f0, f1, f5, f6⟩
      rw [List.take_length] at f6
      by_cases e : (k : Int) ∈ l
      · simp [f0, f1, f5, f6, hc', e, hw]
        exact lt_succ_all hp e
      · have q : covB l n = false := decide_eq_false fun h => e (h k hlt)
        simp [f0, f1, f5, f6, hc', e, q]
  · rintro S hc ⟨f0, f1, hp⟩
    have q : covB l n = true := decide_eq_true hp
    simp [f0, f1, hc, q]

def c_rinj : MFunc := ⟨22, [.tmp 6], .seq (.region [⟨some 3, .box 0 25 (.tmp 0), none⟩, ⟨some 4, .box 1 25 (.tmp 1), none⟩, ⟨some 5, .box 2 27 (.tmp 2), none⟩, ⟨some 6, .mv (.c (.one (.t (.bool false)))), none⟩]) (.seq (.region [⟨some 7, .load true 2 (.tmp 3), none⟩, ⟨some 8, .load true 2 (.tmp 4), none⟩, ⟨some 9, .load true 2 (.tmp 5), none⟩, ⟨some 10, .call (.c (.one (.fn 48 []))) 67 [.tmp 7, .tmp 8, .tmp 9], none⟩, ⟨some 11, .bin .eql (.tmp 10) (.c (.one (.t (.int .i64 0)))), none⟩, ⟨some 12, .mv (.tmp 11), none⟩, ⟨some 13, .fieldA 0 (.tmp 5), some (12, true)⟩, ⟨some 14, .load false 1 (.tmp 13), some (12, true)⟩, ⟨some 15, .call (.c (.one (.fn 104 []))) 72 [.tmp 14], some (12, true)⟩, ⟨some 16, .pick (.tmp 12) (.tmp 15) (.c (.one (.t (.bool false)))), none⟩, ⟨some 17, .mv (.tmp 16), none⟩, ⟨some 18, .fieldA 1 (.tmp 5), some (17, true)⟩, ⟨some 19, .load false 1 (.tmp 18), some (17, true)⟩, ⟨some 20, .call (.c (.one (.fn 104 []))) 77 [.tmp 19], some (17, true)⟩, ⟨some 21, .pick (.tmp 17) (.tmp 20) (.c (.one (.t (.bool false)))), none⟩, ⟨some 6, .mv (.tmp 21), none⟩]) .ret)⟩
theorem k_rinj : cFn Tryz.prog Tryz.f64 = some c_rinj := by kernel_rfl
theorem rinj_ok (a b : Gr) (m : Pa) (ta : tinyG a) (tb : tinyG b) (tm : tinyP m) : CallOK Tryz.prog 64 [a.v, b.v, m.v] (.sv (false, [.bool (injB a b m)])) := by
  refine callOK_W (callS_W (by kernel_rfl) Tryz.func64 k_rinj (callable_of Tryz.func64 (by kernel_rfl)) (by simp [c_rinj]) ?_)
  simp [c_rinj, dw0, dw1, dw2, dw3]
  refine callS_tree (rvalid6_ok a b m ta tb tm) ?_ ?_ ?_
  · rfl
  · rfl
  by_cases h1 : morErr a b m = 0
  case neg => simp [dw0, dw1, dw2, dw3, h1, injB]
  simp [dw0, dw1, dw2, dw3, h1]
  refine callS_tree (distinct_ok m.nodes tm.1) ?_ ?_ ?_
  · rfl
  · rfl
  by_cases h2 : m.nodes.Nodup
  case neg => simp [dw0, dw1, dw2, dw3, h1, h2, injB]
  simp [dw0, dw1, dw2, dw3, h1, h2]
  refine callS_tree (distinct_ok m.edges tm.2) ?_ ?_ ?_
  · rfl
  · rfl
  simp [dw0, dw1, dw2, dw3, h1, h2, injB]

def c_rsurj : MFunc := ⟨28, [.tmp 6], .seq (.region [⟨some 3, .box 0 25 (.tmp 0), none⟩, ⟨some 4, .box 1 25 (.tmp 1), none⟩, ⟨some 5, .box 2 27 (.tmp 2), none⟩, ⟨some 6, .mv (.c (.one (.t (.bool false)))), none⟩]) (.seq (.region [⟨some 7, .load true 2 (.tmp 3), none⟩, ⟨some 8, .load true 2 (.tmp 4), none⟩, ⟨some 9, .load true 2 (.tmp 5), none⟩, ⟨some 10, .call (.c (.one (.fn 48 []))) 67 [.tmp 7, .tmp 8, .tmp 9], none⟩, ⟨some 11, .bin .eql (.tmp 10) (.c (.one (.t (.int .i64 0)))), none⟩, ⟨some 12, .mv (.tmp 11), none⟩, ⟨some 13, .fieldA 0 (.tmp 5), some (12, true)⟩, ⟨some 14, .load false 1 (.tmp 13), some (12, true)⟩, ⟨some 15, .fieldA 0 (.tmp 4), some (12, true)⟩, ⟨some 16, .load false 1 (.tmp 15), some (12, true)⟩, ⟨some 17, .len (.tmp 16), some (12, true)⟩, ⟨some 18, .call (.c (.one (.fn 155 []))) 75 [.tmp 14, .tmp 17], some (12, true)⟩, ⟨some 19, .pick (.tmp 12) (.tmp 18) (.c (.one (.t (.bool false)))), none⟩, ⟨some 20, .mv (.tmp 19), none⟩, ⟨some 21, .fieldA 1 (.tmp 5), some (20, true)⟩, ⟨some 22, .load false 1 (.tmp 21), some (20, true)⟩, ⟨some 23, .fieldA 1 (.tmp 4), some (20, true)⟩, ⟨some 24, .load false 1 (.tmp 23), some (20, true)⟩, ⟨some 25, .len (.tmp 24), some (20, true)⟩, ⟨some 26, .call (.c (.one (.fn 155 []))) 83 [.tmp 22, .tmp 25], some (20, true)⟩, ⟨some 27, .pick (.tmp 20) (.tmp 26) (.c (.one (.t (.bool false)))), none⟩, ⟨some 6, .mv (.tmp 27), none⟩]) .ret)⟩
theorem k_rsurj : cFn Tryz.prog Tryz.f116 = some c_rsurj := by kernel_rfl
theorem rsurj_ok (a b : Gr) (m : Pa) (ta : tinyG a) (tb : tinyG b) (tm : tinyP m) : CallOK Tryz.prog 116 [a.v, b.v, m.v] (.sv (false, [.bool (surjB a b m)])) := by
  refine callOK_W (callS_W (by kernel_rfl) Tryz.func116 k_rsurj (callable_of Tryz.func116 (by kernel_rfl)) (by simp [c_rsurj]) ?_)
  simp [c_rsurj, dw0, dw1, dw2, dw3]
  refine callS_tree (rvalid6_ok a b m ta tb tm) ?_ ?_ ?_
  · rfl
  · rfl
  by_cases h1 : morErr a b m = 0
  case neg => simp [dw0, dw1, dw2, dw3, h1, surjB]
  simp [dw0, dw1, dw2, dw3, h1]
  refine callS_tree (covers6_ok m.nodes b.nodes.length tm.1 tb.1) ?_ ?_ ?_
  · rfl
  · rfl
  cases h2 : covB m.nodes b.nodes.length
  · simp [dw0, dw1, dw2, dw3, h1, h2, surjB]
  simp [dw0, dw1, dw2, dw3, h1, h2]
  refine callS_tree (covers6_ok m.edges b.edges.length tm.2 tb.2) ?_ ?_ ?_
  · rfl
  · rfl
  simp [dw0, dw1, dw2, dw3, h1, h2, surjB]
end Go.Proofs.YthcnpnogfblkcaaGreat

/- Contracts: checks of pullbacks. -/
namespace Go.Proofs.YthcnpnogfblkcaaGreat
open Abs
set_option linter.unusedSimpArgs false
set_option linter.unusedVariables false
attribute [local simp] rn0 rn1 rn2 rn3 rn4 rn5 rn6 rn7 evOp nests Arg.ev St.val St.set St.new sliceOf binInt2 binInt AV.cells rdAt St.live retOf resOf resAll treeOf treeCell treeCells treeTups untree frameOf TV.av TR.av ints edgs prs fillV splice intsOf trees V1.tree bx Gr.v Pa.v

theorem medE_ok {s : Co} {x : Gr} {h k : Pa} (e : medE s x h k = 0) : pbErr s = 0 ∧ morErr x s.B h = 0 ∧ morErr x s.C k = 0 ∧ sameP (thenP h s.F) (thenP k s.G) = true := by
  unfold medE at e
  split at e
  · split at e
    · split at e
      · split at e
        · exact ⟨by assumption, by assumption, by assumption, by assumption⟩
        · cases e
      · exact absurd e (by assumption)
    · exact absurd e (by assumption)
  · exact absurd e (by assumption)

theorem pbG_tiny {s : Co} (h : pbErr s = 0) : tinyG (pbG s) := by
  obtain ⟨_, h1, h2⟩ := pbErr_few h
  exact ⟨by simp only [pbG, List.length_map, tiny]; omega, by simp only [pbG, List.length_map, tiny]; omega⟩
theorem medC_tiny {s : Co} {h k : Pa} (th : tinyP h) : tinyP (medC s h k) := ⟨by simp only [medC, meetL_len]; exact th.1, by simp only [medC, meetL_len]; exact th.2⟩

/-- Is a cone a pullback? -/
def pbChk (s : Co) (a : Gr) (h k : Pa) : Bool := decide (medE s a h k = 0) && (injB a (pbG s) (medC s h k) && surjB a (pbG s) (medC s h k))

def c_pbCheck : MFunc := ⟨43, [.tmp 8], .seq (.region [⟨some 4, .box 0 80 (.tmp 0), none⟩, ⟨some 5, .box 1 25 (.tmp 1), none⟩, ⟨some 6, .box 2 27 (.tmp 2), none⟩, ⟨some 7, .box 3 27 (.tmp 3), none⟩, ⟨some 8, .mv (.c (.one (.t (.bool false)))), none⟩]) (.seq (.region [⟨some 13, .load true 10 (.tmp 4), none⟩, ⟨some 14, .load true 2 (.tmp 5), none⟩, ⟨some 15, .load true 2 (.tmp 6), none⟩, ⟨some 16, .load true 2 (.tmp 7), none⟩, ⟨some 17, .call (.c (.one (.fn 45 []))) 68 [.tmp 13, .tmp 14, .tmp 15, .tmp 16], none⟩, ⟨some 12, .mv (.tmp 17), none⟩, ⟨some 18, .extract (.tmp 12) 0, none⟩, ⟨some 19, .extract (.tmp 12) 1, none⟩, ⟨some 9, .alloc 72 27 [.nil, .nil], none⟩, ⟨none, .store 2 (.tmp 9) (.tmp 18), none⟩, ⟨some 10, .mv (.tmp 19), none⟩]) (.seq (.seq (.region [⟨some 20, .mv (.tmp 10), none⟩, ⟨some 21, .bin .neq (.tmp 20) (.c (.one (.t (.int .i64 0)))), none⟩]) (.cond (.tmp 21) (.seq (.region [⟨some 8, .mv (.c (.one (.t (.bool false)))), none⟩]) .ret) .skip)) (.seq (.region [⟨some 23, .load true 10 (.tmp 4), none⟩, ⟨some 24, .call (.c (.one (.fn 84 []))) 257 [.tmp 23], none⟩, ⟨some 22, .mv (.tmp 24), none⟩, ⟨some 25, .extract (.tmp 22) 0, none⟩, ⟨some 26, .extract (.tmp 22) 1, none⟩, ⟨some 11, .alloc 261 112 [.nil, .nil, .nil, .nil], none⟩, ⟨none, .store 4 (.tmp 11) (.tmp 25), none⟩, ⟨some 10, .mv (.tmp 26), none⟩]) (.seq (.region [⟨some 27, .mv (.tmp 10), none⟩, ⟨some 28, .bin .eql (.tmp 27) (.c (.one (.t (.int .i64 0)))), none⟩, ⟨some 29, .mv (.tmp 28), none⟩, ⟨some 30, .load true 2 (.tmp 5), some (29, true)⟩, ⟨some 31, .fieldA 2 (.tmp 11), some (29, true)⟩, ⟨some 32, .load true 2 (.tmp 31), some (29, true)⟩, ⟨some 33, .load true 2 (.tmp 9), some (29, true)⟩, ⟨some 34, .call (.c (.one (.fn 27 []))) 327 [.tmp 30, .tmp 32, .tmp 33], some (29, true)⟩, ⟨some 35, .pick (.tmp 29) (.tmp 34) (.c (.one (.t (.bool false)))), none⟩, ⟨some 36, .mv (.tmp 35), none⟩, ⟨some 37, .load true 2 (.tmp 5), some (36, true)⟩, ⟨some 38, .fieldA 2 (.tmp 11), some (36, true)⟩, ⟨some 39, .load true 2 (.tmp 38), some (36, true)⟩, ⟨some 40, .load true 2 (.tmp 9), some (36, true)⟩, ⟨some 41, .call (.c (.one (.fn 99 []))) 334 [.tmp 37, .tmp 39, .tmp 40], some (36, true)⟩, ⟨some 42, .pick (.tmp 36) (.tmp 41) (.c (.one (.t (.bool false)))), none⟩, ⟨some 8, .mv (.tmp 42), none⟩]) .ret))))⟩
theorem k_pbCheck : cFn Tryz.prog Tryz.f58 = some c_pbCheck := by kernel_rfl
theorem pbCheck_ok (s : Co) (x : Gr) (h k : Pa) (ts : TinyCo s) (tx : tinyG x) (th : tinyP h) (tk : tinyP k) : CallOK Tryz.prog 58 [s.v, x.v, h.v, k.v] (.sv (false, [.bool (pbChk s x h k)])) := by
  refine callOK_W (callS_W (by kernel_rfl) Tryz.func58 k_pbCheck (callable_of Tryz.func58 (by kernel_rfl)) (by simp [c_pbCheck]) ?_)
  simp [c_pbCheck, Co.v, Co.cs]
  refine callS_tree (pMed_ok s x h k ts tx th tk) ?_ ?_ ?_
  · rfl
  · rfl
  by_cases h1 : medE s x h k = 0
  case neg =>
    have e : medR s x h k = (⟨[], []⟩, medE s x h k) := by simp [medR, h1]
    simp [medT, e, h1, pbChk]
  have e : medR s x h k = (medC s h k, 0) := by simp [medR, h1]
  have h2 := (medE_ok h1).1
  have e2 : pbQ s = (pbNs s, pbEs s, pbG s) := by simp [pbQ, h2]
  simp [medT, e, h1]
  refine callS_tree (pof_ok s ts) ?_ ?_ ?_
  · rfl
  · rfl
  simp [h2, pbQv, e2]
  refine callS_tree (injX_ok x (pbG s) (medC s h k) tx (pbG_tiny h2) (medC_tiny th)) ?_ ?_ ?_
  · rfl
  · rfl
  cases h3 : injB x (pbG s) (medC s h k)
  · simp [pbChk, h3]
  simp
  refine callS_tree (surjX_ok x (pbG s) (medC s h k) tx (pbG_tiny h2) (medC_tiny th)) ?_ ?_ ?_
  · rfl
  · rfl
  simp [pbChk, h1, h3]

def c_rCheck11 : MFunc := ⟨42, [.tmp 8], .seq (.region [⟨some 4, .box 0 80 (.tmp 0), none⟩, ⟨some 5, .box 1 25 (.tmp 1), none⟩, ⟨some 6, .box 2 27 (.tmp 2), none⟩, ⟨some 7, .box 3 27 (.tmp 3), none⟩, ⟨some 8, .mv (.c (.one (.t (.bool false)))), none⟩]) (.seq (.region [⟨some 16, .load true 10 (.tmp 4), none⟩, ⟨some 17, .load true 2 (.tmp 5), none⟩, ⟨some 18, .load true 2 (.tmp 6), none⟩, ⟨some 19, .load true 2 (.tmp 7), none⟩, ⟨some 20, .call (.c (.one (.fn 51 []))) 68 [.tmp 16, .tmp 17, .tmp 18, .tmp 19], none⟩, ⟨some 15, .mv (.tmp 20), none⟩, ⟨some 21, .extract (.tmp 15) 0, none⟩, ⟨some 22, .extract (.tmp 15) 1, none⟩, ⟨some 9, .alloc 72 27 [.nil, .nil], none⟩, ⟨none, .store 2 (.tmp 9) (.tmp 21), none⟩, ⟨some 10, .mv (.tmp 22), none⟩]) (.seq (.seq (.region [⟨some 23, .mv (.tmp 10), none⟩, ⟨some 24, .bin .neq (.tmp 23) (.c (.one (.t (.int .i64 0)))), none⟩]) (.cond (.tmp 24) (.seq (.region [⟨some 8, .mv (.c (.one (.t (.bool false)))), none⟩]) .ret) .skip)) (.seq (.region [⟨some 26, .load true 10 (.tmp 4), none⟩, ⟨some 27, .call (.c (.one (.fn 50 []))) 257 [.tmp 26], none⟩, ⟨some 25, .mv (.tmp 27), none⟩, ⟨some 28, .extract (.tmp 25) 0, none⟩, ⟨some 29, .extract (.tmp 25) 1, none⟩, ⟨some 30, .extract (.tmp 25) 2, none⟩, ⟨some 31, .extract (.tmp 25) 3, none⟩, ⟨some 11, .alloc 263 25 [.nil, .nil], none⟩, ⟨some 12, .alloc 264 27 [.nil, .nil], none⟩, ⟨some 13, .alloc 265 27 [.nil, .nil], none⟩, ⟨none, .store 2 (.tmp 11) (.tmp 28), none⟩, ⟨none, .store 2 (.tmp 12) (.tmp 29), none⟩, ⟨none, .store 2 (.tmp 13) (.tmp 30), none⟩, ⟨some 14, .mv (.tmp 31), none⟩]) (.seq (.region [⟨some 32, .load true 2 (.tmp 5), none⟩, ⟨some 33, .load true 2 (.tmp 11), none⟩, ⟨some 34, .load true 2 (.tmp 9), none⟩, ⟨some 35, .call (.c (.one (.fn 64 []))) 323 [.tmp 32, .tmp 33, .tmp 34], none⟩, ⟨some 36, .mv (.tmp 35), none⟩, ⟨some 37, .load true 2 (.tmp 5), some (36, true)⟩, ⟨some 38, .load true 2 (.tmp 11), some (36, true)⟩, ⟨some 39, .load true 2 (.tmp 9), some (36, true)⟩, ⟨some 40, .call (.c (.one (.fn 116 []))) 328 [.tmp 37, .tmp 38, .tmp 39], some (36, true)⟩, ⟨some 41, .pick (.tmp 36) (.tmp 40) (.c (.one (.t (.bool false)))), none⟩, ⟨some 8, .mv (.tmp 41), none⟩]) .ret))))⟩
theorem k_rCheck11 : cFn Tryz.prog Tryz.f78 = some c_rCheck11 := by kernel_rfl
theorem rCheck11_ok (s : Co) (x : Gr) (h k : Pa) (ts : TinyCo s) (tx : tinyG x) (th : tinyP h) (tk : tinyP k) : CallOK Tryz.prog 78 [s.v, x.v, h.v, k.v] (.sv (false, [.bool (pbChk s x h k)])) := by
  refine callOK_W (callS_W (by kernel_rfl) Tryz.func78 k_rCheck11 (callable_of Tryz.func78 (by kernel_rfl)) (by simp [c_rCheck11]) ?_)
  simp [c_rCheck11, Co.v, Co.cs]
  refine callS_tree (rMed_ok s x h k ts tx th tk) ?_ ?_ ?_
  · rfl
  · rfl
  by_cases h1 : medE s x h k = 0
  case neg =>
    have e : medR s x h k = (⟨[], []⟩, medE s x h k) := by simp [medR, h1]
    simp [medT, e, h1, pbChk]
  have e : medR s x h k = (medC s h k, 0) := by simp [medR, h1]
  have h2 := (medE_ok h1).1
  have e3 : pbR s = (pbG s, ⟨fstL (pbNs s), fstL (pbEs s)⟩, ⟨sndL (pbNs s), sndL (pbEs s)⟩, 0) := by simp [pbR, h2]
  simp [medT, e, h1]
  refine callS_tree (rOf_ok s ts) ?_ ?_ ?_
  · rfl
  · rfl
  simp [h2, pbRt, e3]
  refine callS_tree (rinj_ok x (pbG s) (medC s h k) tx (pbG_tiny h2) (medC_tiny th)) ?_ ?_ ?_
  · rfl
  · rfl
  cases h3 : injB x (pbG s) (medC s h k)
  · simp [pbChk, h3]
  simp
  refine callS_tree (rsurj_ok x (pbG s) (medC s h k) tx (pbG_tiny h2) (medC_tiny th)) ?_ ?_ ?_
  · rfl
  · rfl
  simp [pbChk, h1, h3]
end Go.Proofs.YthcnpnogfblkcaaGreat

/- Forests of numbers: their roots, uniting, flattening; partitions. No program in sight. -/
namespace Go.Proofs.YthcnpnogfblkcaaGreat
open Abs
set_option linter.unusedSimpArgs false
set_option linter.unusedVariables false

/-- Each element points to itself or to a lesser one. -/
structure Forest (p : List Int) : Prop where
  le : ∀ i, i < p.length → 0 ≤ nth p i ∧ nth p i ≤ i

def rtF (p : List Int) : Nat → Nat → Nat
  | 0, i => i
  | k + 1, i => if nth p i = i then i else rtF p k (nth p i).toNat
/-- The root of an element. -/
def rt (p : List Int) (i : Nat) : Nat := rtF p i i

theorem Forest.at {p : List Int} (h : Forest p) {i : Nat} (hi : i < p.length) : ∃ j : Nat, nth p i = j ∧ j ≤ i := by
  obtain ⟨h1, h2⟩ := h.le i hi
  obtain ⟨j, hj⟩ := Int.eq_ofNat_of_zero_le h1
  exact ⟨j, hj, by omega⟩

theorem rtF_fuel {p : List Int} (h : Forest p) : ∀ {k k' i : Nat}, i < p.length → i ≤ k → i ≤ k' → rtF p k i = rtF p k' i
  | 0, 0, i, _, _, _ => rfl
  | 0, k' + 1, i, hi, h1, _ => by
    have : i = 0 := by omega
    subst this
    obtain ⟨j, hj, hle⟩ := h.at hi
    have : j = 0 := by omega
    subst this
    simp [rtF, hj]
  | k + 1, 0, i, hi, _, h2 => by
    have : i = 0 := by omega
    subst this
    obtain ⟨j, hj, hle⟩ := h.at hi
    have : j = 0 := by omega
    subst this
    simp [rtF, hj]
  | k + 1, k' + 1, i, hi, h1, h2 => by
    obtain ⟨j, hj, hle⟩ := h.at hi
    by_cases e : j = i
    · subst e
      simp [rtF, hj]
    · have e' : ¬ (j : Int) = i := by omega
      simp only [rtF, hj, if_neg e', Int.toNat_natCast]
      exact rtF_fuel h (by omega) (by omega) (by omega)

theorem rt_root {p : List Int} {i : Nat} (h : nth p i = i) : rt p i = i := by
  unfold rt
  cases i with
  | zero => rfl
  | succ k => simp only [rtF, if_pos h]

theorem rt_step {p : List Int} (h : Forest p) {i j : Nat} (hi : i < p.length) (hj : nth p i = j) : rt p i = rt p j := by
  obtain ⟨j', hj', hle⟩ := h.at hi
  have : j = j' := by omega
  subst this
  by_cases e : j = i
  · rw [e]
  · have e' : ¬ (j : Int) = i := by omega
    unfold rt
    cases i with
    | zero => omega
    | succ k =>
      simp only [rtF, hj, if_neg e', Int.toNat_natCast]
      exact rtF_fuel h (by omega) (by omega) (by omega)

theorem rt_spec {p : List Int} (h : Forest p) : ∀ {i : Nat}, i < p.length → rt p i ≤ i ∧ nth p (rt p i) = (rt p i : Nat)
  | i, hi => by
    obtain ⟨j, hj, hle⟩ := h.at hi
    by_cases e : j = i
    · subst e
      rw [rt_root hj]
      exact ⟨Nat.le_refl _, hj⟩
    · have ih := rt_spec h (i := j) (by omega)
      rw [rt_step h hi hj]
      exact ⟨by omega, ih.2⟩
termination_by i => i
decreasing_by omega

/-- All point to their roots. -/
def flatL (p : List Int) : List Int := (List.range p.length).map fun i => (rt p i : Int)
theorem flatL_len {p : List Int} : (flatL p).length = p.length := by simp [flatL]
theorem flatL_nth {p : List Int} {i : Nat} (hi : i < p.length) : nth (flatL p) i = (rt p i : Nat) := by
  rw [nth_eq (by rw [flatL_len]; exact hi)]
  simp [flatL]

theorem nth_set {p : List Int} {h j : Nat} {v : Int} (hh : h < p.length) : nth (p.set h v) j = if j = h then v else nth p j := by
  unfold nth
  simp only [List.getD_eq_getElem?_getD, List.getElem?_set]
  by_cases e : j = h
  · subst e
    simp [hh]
  · rw [if_neg (fun e' => e e'.symm), if_neg e]

/-- Two elements are made one. -/
def uniteL (p : List Int) (a b : Nat) : List Int := p.set (max (rt p a) (rt p b)) (min (rt p a) (rt p b) : Nat)
theorem uniteL_len {p : List Int} {a b : Nat} : (uniteL p a b).length = p.length := by simp [uniteL]
theorem uniteL_forest {p : List Int} {a b : Nat} (h : Forest p) (ha : a < p.length) (hb : b < p.length) : Forest (uniteL p a b) := ⟨fun i hi => by
  rw [uniteL_len] at hi
  have h1 := rt_spec h ha
  have h2 := rt_spec h hb
  simp only [uniteL]
  rw [nth_set (by omega)]
  split
  · omega
  · exact h.le i hi⟩
theorem uniteL_rt {p : List Int} {a b : Nat} (h : Forest p) (ha : a < p.length) (hb : b < p.length) : ∀ {i : Nat}, i < p.length → rt (uniteL p a b) i = if rt p i = max (rt p a) (rt p b) then min (rt p a) (rt p b) else rt p i
  | i, hi => by
    have h1 := rt_spec h ha
    have h2 := rt_spec h hb
    have hu := uniteL_forest h ha hb
    have hn : ∀ j, nth (uniteL p a b) j = if j = max (rt p a) (rt p b) then ((min (rt p a) (rt p b) : Nat) : Int) else nth p j := fun j => by
      simp only [uniteL]
      exact nth_set (by omega)
    have hlo : nth p (min (rt p a) (rt p b)) = ((min (rt p a) (rt p b) : Nat) : Int) := by
      rcases Nat.le_total (rt p a) (rt p b) with q | q
      · rw [Nat.min_eq_left q]; exact h1.2
      · rw [Nat.min_eq_right q]; exact h2.2
    have hhi : nth p (max (rt p a) (rt p b)) = ((max (rt p a) (rt p b) : Nat) : Int) := by
      rcases Nat.le_total (rt p a) (rt p b) with q | q
      · rw [Nat.max_eq_right q]; exact h2.2
      · rw [Nat.max_eq_left q]; exact h1.2
    have hlor : rt (uniteL p a b) (min (rt p a) (rt p b)) = min (rt p a) (rt p b) := by
      apply rt_root
      rw [hn]
      split
      · rfl
      · exact hlo
    obtain ⟨j, hj, hle⟩ := h.at hi
    by_cases e : i = max (rt p a) (rt p b)
    · have er : rt p i = i := rt_root (by rw [e]; exact hhi)
      rw [er, if_pos e]
      have : nth (uniteL p a b) i = ((min (rt p a) (rt p b) : Nat) : Int) := by rw [hn, if_pos e]
      rw [rt_step hu (by rw [uniteL_len]; exact hi) this, hlor]
    · have hni : nth (uniteL p a b) i = nth p i := by rw [hn, if_neg e]
      by_cases e2 : j = i
      · subst e2
        have er : rt p j = j := rt_root hj
        rw [er, if_neg e]
        exact rt_root (by rw [hni, hj])
      · rw [rt_step hu (by rw [uniteL_len]; exact hi) (hni.trans hj), rt_step h hi hj]
        exact uniteL_rt h ha hb (by omega)
termination_by i => i
decreasing_by omega

/-- A partition in which two elements are equivalent, too. -/
def mergeL (p : List Int) (a b : Nat) : List Int := p.map fun k => if k = max (nth p a) (nth p b) then min (nth p a) (nth p b) else k
theorem mergeL_len {p : List Int} {a b : Nat} : (mergeL p a b).length = p.length := by simp [mergeL]
theorem mergeL_nth {p : List Int} {a b i : Nat} (hi : i < p.length) : nth (mergeL p a b) i = if nth p i = max (nth p a) (nth p b) then min (nth p a) (nth p b) else nth p i := by
  rw [nth_eq (by rw [mergeL_len]; exact hi), nth_eq hi]
  simp [mergeL]
theorem flat_unite {p : List Int} {a b : Nat} (h : Forest p) (ha : a < p.length) (hb : b < p.length) : flatL (uniteL p a b) = mergeL (flatL p) a b := by
  refine list_ext_nth (by rw [flatL_len, uniteL_len, mergeL_len, flatL_len]) fun i hi => ?_
  rw [flatL_len, uniteL_len] at hi
  rw [flatL_nth (by rw [uniteL_len]; exact hi), mergeL_nth (by rw [flatL_len]; exact hi), flatL_nth hi, flatL_nth ha, flatL_nth hb, uniteL_rt h ha hb hi]
  by_cases e : rt p i = max (rt p a) (rt p b)
  · rw [if_pos e, if_pos (by omega)]
    omega
  · rw [if_neg e, if_neg (by omega)]

/-- The partition into single elements. -/
def idL (n : Nat) : List Int := (List.range n).map fun (i : Nat) => (i : Int)
theorem idL_len {n : Nat} : (idL n).length = n := by simp [idL]
theorem idL_nth {n i : Nat} (h : i < n) : nth (idL n) i = i := by
  rw [nth_eq (by rw [idL_len]; exact h)]
  simp [idL]
theorem idL_forest {n : Nat} : Forest (idL n) := ⟨fun i hi => by
  rw [idL_len] at hi
  rw [idL_nth hi]
  omega⟩
theorem flat_id {n : Nat} : flatL (idL n) = idL n := by
  refine list_ext_nth (by rw [flatL_len]) fun i hi => ?_
  rw [flatL_len, idL_len] at hi
  rw [flatL_nth (by rw [idL_len]; exact hi), idL_nth hi, rt_root (idL_nth hi)]

/-- The finest partition in which the pairs are equivalent. -/
def genL (n : Nat) (l : List (Int × Int)) : List Int := l.foldl (fun p q => mergeL p q.1.toNat q.2.toNat) (idL n)
def genU (n : Nat) (l : List (Int × Int)) : List Int := l.foldl (fun p q => uniteL p q.1.toNat q.2.toNat) (idL n)
def pairsIn (l : List (Int × Int)) (n : Nat) : Prop := ∀ q ∈ l, 0 ≤ q.1 ∧ q.1 < n ∧ 0 ≤ q.2 ∧ q.2 < n
theorem fold_len {l : List (Int × Int)} {p : List Int} : (l.foldl (fun p q => uniteL p q.1.toNat q.2.toNat) p).length = p.length := by
  induction l generalizing p with
  | nil => rfl
  | cons q r ih => rw [List.foldl_cons, ih, uniteL_len]
theorem fold_mlen {l : List (Int × Int)} {p : List Int} : (l.foldl (fun p q => mergeL p q.1.toNat q.2.toNat) p).length = p.length := by
  induction l generalizing p with
  | nil => rfl
  | cons q r ih => rw [List.foldl_cons, ih, mergeL_len]
theorem fold_flat {n : Nat} {l : List (Int × Int)} {p : List Int} (h : Forest p) (hl : p.length = n) (hi : pairsIn l n) :
    Forest (l.foldl (fun p q => uniteL p q.1.toNat q.2.toNat) p) ∧ flatL (l.foldl (fun p q => uniteL p q.1.toNat q.2.toNat) p) = l.foldl (fun p q => mergeL p q.1.toNat q.2.toNat) (flatL p) := by
  induction l generalizing p with
  | nil => exact ⟨h, rfl⟩
  | cons q r ih =>
    have hq := hi q (by simp)
    rw [List.foldl_cons, List.foldl_cons, ← flat_unite h (by omega) (by omega)]
    exact ih (uniteL_forest h (by omega) (by omega)) (by rw [uniteL_len]; exact hl) fun x hx => hi x (List.mem_cons_of_mem _ hx)
theorem genU_ok {n : Nat} {l : List (Int × Int)} (hi : pairsIn l n) : Forest (genU n l) ∧ flatL (genU n l) = genL n l := by
  have := fold_flat idL_forest idL_len hi
  rw [flat_id] at this
  exact this
theorem genL_len {n : Nat} {l : List (Int × Int)} : (genL n l).length = n := by rw [genL, fold_mlen, idL_len]
theorem genU_len {n : Nat} {l : List (Int × Int)} : (genU n l).length = n := by rw [genU, fold_len, idL_len]
theorem genU_take {n : Nat} {l : List (Int × Int)} {k : Nat} (h : k < l.length) : genU n (l.take (k + 1)) = uniteL (genU n (l.take k)) (pth l k).1.toNat (pth l k).2.toNat := by
  rw [genU, take_succ_pth h, List.foldl_append]
  rfl
theorem genL_take {n : Nat} {l : List (Int × Int)} {k : Nat} (h : k < l.length) : genL n (l.take (k + 1)) = mergeL (genL n (l.take k)) (pth l k).1.toNat (pth l k).2.toNat := by
  rw [genL, take_succ_pth h, List.foldl_append]
  rfl

/-- A partition: each element points to the least one of its class. -/
structure Flat (p : List Int) : Prop where
  fo : Forest p
  fx : ∀ i, i < p.length → nth p (nth p i).toNat = nth p i
theorem flatL_flat {p : List Int} (h : Forest p) : Flat (flatL p) := by
  refine ⟨⟨fun i hi => ?_⟩, fun i hi => ?_⟩
  · rw [flatL_len] at hi
    rw [flatL_nth hi]
    have := (rt_spec h hi).1
    omega
  · rw [flatL_len] at hi
    have h1 := rt_spec h hi
    rw [flatL_nth hi, Int.toNat_natCast, flatL_nth (by omega), rt_root h1.2]
theorem genL_flat {n : Nat} {l : List (Int × Int)} (hi : pairsIn l n) : Flat (genL n l) := by
  obtain ⟨h1, h2⟩ := genU_ok hi
  rw [← h2]
  exact flatL_flat h1

/-- While a forest is being flattened. -/
def flatK (p : List Int) (k : Nat) : List Int := (List.range p.length).map fun i => if i < k then (rt p i : Int) else nth p i
theorem flatK_len {p : List Int} {k : Nat} : (flatK p k).length = p.length := by simp [flatK]
theorem flatK_nth {p : List Int} {k i : Nat} (hi : i < p.length) : nth (flatK p k) i = if i < k then (rt p i : Int) else nth p i := by
  rw [nth_eq (by rw [flatK_len]; exact hi)]
  simp [flatK]
theorem flatK_zero {p : List Int} : flatK p 0 = p := by
  refine list_ext_nth (by rw [flatK_len]) fun i hi => ?_
  rw [flatK_len] at hi
  rw [flatK_nth hi, if_neg (by omega)]
theorem flatK_all {p : List Int} : flatK p p.length = flatL p := by
  refine list_ext_nth (by rw [flatK_len, flatL_len]) fun i hi => ?_
  rw [flatK_len] at hi
  rw [flatK_nth hi, if_pos hi, flatL_nth hi]
theorem flatK_set {p : List Int} {k : Nat} (hk : k < p.length) : (flatK p k).set k (rt p k : Int) = flatK p (k + 1) := by
  refine list_ext_nth (by rw [List.length_set, flatK_len, flatK_len]) fun i hi => ?_
  rw [List.length_set, flatK_len] at hi
  rw [nth_set (by rw [flatK_len]; exact hk), flatK_nth hi, flatK_nth hi]
  by_cases e : i = k
  · subst e
    rw [if_pos rfl, if_pos (by omega)]
  · rw [if_neg e]
    by_cases e2 : i < k
    · rw [if_pos e2, if_pos (by omega)]
    · rw [if_neg e2, if_neg (by omega)]
theorem flatK_forest {p : List Int} {k : Nat} (h : Forest p) : Forest (flatK p k) := ⟨fun i hi => by
  rw [flatK_len] at hi
  rw [flatK_nth hi]
  split
  · have := (rt_spec h hi).1
    omega
  · exact h.le i hi⟩
theorem flatK_rt {p : List Int} {k : Nat} (h : Forest p) : ∀ {i : Nat}, i < p.length → rt (flatK p k) i = rt p i
  | i, hi => by
    have hf := flatK_forest (k := k) h
    have h1 := rt_spec h hi
    obtain ⟨j, hj, hle⟩ := h.at hi
    by_cases e : i < k
    · have hn : nth (flatK p k) i = (rt p i : Nat) := by rw [flatK_nth hi, if_pos e]
      rw [rt_step hf (by rw [flatK_len]; exact hi) hn]
      apply rt_root
      have h2 : rt p i < p.length := by omega
      rw [flatK_nth h2]
      split
      · rw [rt_root h1.2]
      · exact h1.2
    · have hn : nth (flatK p k) i = j := by rw [flatK_nth hi, if_neg e, hj]
      by_cases e2 : j = i
      · subst e2
        rw [rt_root hn, rt_root hj]
      · rw [rt_step hf (by rw [flatK_len]; exact hi) hn, rt_step h hi hj]
        exact flatK_rt h (by omega)
termination_by i => i
decreasing_by omega
end Go.Proofs.YthcnpnogfblkcaaGreat

/- The library contract of slices.Grow at this program, laid by hand out of the kit's own; slices.Concat. -/
namespace Go.Proofs.YthcnpnogfblkcaaGreat
open Abs Go.RowKit
set_option linter.unusedSimpArgs false
set_option linter.unusedVariables false
attribute [local simp] rn0 rn1 rn2 rn3 rn4 rn5 rn6 rn7 evOp nests Arg.ev St.val St.set St.new sliceOf binInt2 binInt AV.cells rdAt St.live retOf resOf resAll treeOf treeCell treeCells treeTups untree frameOf TV.av TR.av ints edgs prs fillV splice intsOf trees V1.tree bx Gr.v Pa.v

def growRen : Go.Shelf.Ren := ⟨fun | 4 => 172 | n => n, fun | 25 => 3 | 22 => 22 | 20 => 20 | n => n, fun | n => n⟩
theorem growLay : Go.Proofs.Lays8.n4 Tryz.prog growRen := {
  mixed := by kernel_rfl
  f4 := ⟨"slices.Grow[[]int,int]", by decide, Tryz.func172.trans (congrArg some (by kernel_rfl))⟩
  t0 := Tryz.underlying0
  a0 := Tryz.isAgg0
  z0 := Tryz.sizeOf0
  v0 := Tryz.zeroValue0
  t3 := Tryz.underlying3
  a3 := Tryz.isAgg3
  z3 := Tryz.sizeOf3
  v3 := Tryz.zeroValue3
  t4 := Tryz.underlying4
  a4 := Tryz.isAgg4
  z4 := Tryz.sizeOf4
  v4 := Tryz.zeroValue4
  t9 := Tryz.underlying9
  a9 := Tryz.isAgg9
  z9 := Tryz.sizeOf9
  v9 := Tryz.zeroValue9
  t20 := Tryz.underlying20
  a20 := Tryz.isAgg20
  z20 := Tryz.sizeOf20
  v20 := Tryz.zeroValue20
  t22 := Tryz.underlying22
  a22 := Tryz.isAgg22
  z22 := Tryz.sizeOf22
  v22 := Tryz.zeroValue22 }

theorem callS_grow (n : Nat) (hn0 : 0 < n) (hn : n ≤ 1000000) (nm : Nat) {ob : Nm → Option Ob} {cnt : Nat → Nat} {R : AV → (Nm → Option Ob) → (Nat → Nat) → Prop}
    (hR : R (.one (.row (nm, cnt nm))) (upd ob (nm, cnt nm) (some ⟨true, true, false, 1, 0, 3, []⟩)) (upd cnt nm (cnt nm + 1))) : CallS Tryz.prog 172 [.one .nil, .one (.t (.int .i64 n))] ob cnt R := by
  refine ⟨callable_of Tryz.func172 (by kernel_rfl), fun w0 Zc m w cargs hr hlen hargs => ?_⟩
  have h0 : cargs.size = 2 := by simpa using hlen.symm
  obtain ⟨A, hv0⟩ := hargs 0 (.one .nil) cargs[0] rfl (by simp [h0])
  have hv1 := one_int (hargs 1 (.one (.t (.int .i64 n))) cargs[1] rfl (by simp [h0]))
  have e : cargs = #[.slice A 0 0, .int .i64 n] := by
    apply Array.ext (by simp [h0])
    intro i h1 h2
    have : i = 0 ∨ i = 1 := by omega
    rcases this with rfl | rfl
    · simpa using hv0
    · simpa using hv1
  rw [e]
  have key : (Tryz.prog.info? 3).map (fun i => (i.zero, i.size, i.bytes)) = some (some (.int .i64 0), 1, 8) := by kernel_rfl
  obtain ⟨i0, hi0, hk⟩ := Option.map_eq_some_iff.1 key
  obtain ⟨hz0, hk⟩ := Prod.mk.inj hk
  obtain ⟨hs1, hb8⟩ := Prod.mk.inj hk
  refine (Go.Proofs.Any8.slices_Grow_grow growLay i0 (.int .i64 0) hi0 hz0 (by omega) A 0 0 n [] w (by omega) (by omega) (by rw [hb8]; omega) (by omega) (by simp) (fun _ => rfl) (fun a _ j v hj => by simp at hj)).mono ?_
  have et : growRen.t 25 = 3 := rfl
  rw [et]
  rintro e w' ⟨rfl, hw⟩
  have hge := grownCap_ge w (0 + n) 0 3
  have hcm := grownCap_le_maxLen w (0 + n) 0 3 (by simp only [maxLen]; omega)
  have hbel : Below w.heap.size w w' := by
    rw [hw]
    exact ⟨rfl, rfl, rfl, by simp, fun k hk => (heap_alloc_old w.drew _ hk).trans rfl⟩
  have hh : ∃ arr : Array Value, w'.heap[w.heap.size]? = some (.cells arr 3 (0, 0)) ∧ arr.size = grownCap w (0 + n) 0 3 := by
    rw [hw]
    refine ⟨_, heap_alloc_new w.drew _, ?_⟩
    have hge' : n ≤ grownCap w n 0 3 := by simpa using hge
    simp only [Array.size_append, size_zeroCells, Value.cells, List.size_toArray, List.length_nil]
    simp
    omega
  obtain ⟨arr, hh, hsz⟩ := hh
  refine ⟨_, _, _, _, m.set (nm, cnt nm) w.heap.size (grownCap w (0 + n) 0 3), rfl, hR, hr_new_at hr nm ⟨true, true, false, 1, 0, 3, []⟩ (grownCap w (0 + n) 0 3) w.heap.size (Nat.le_refl _) hbel (fun _ => ⟨arr, hh, ?_, fun j x hx => by simp at hx⟩), ext_new_at hr nm _ _ w.heap.size (Nat.le_refl _) (fun b hb' => hbel.block b hb') hbel.size, ?_⟩
  · simp only [if_true]
    exact ⟨by omega, by omega, hcm, rfl, by omega, fun v hv => by simp at hv⟩
  · exact ⟨_, upd_same .., rfl, by simp [Map.set, upd_same]⟩

theorem callS_grow0 {ob : Nm → Option Ob} {cnt : Nat → Nat} {R : AV → (Nm → Option Ob) → (Nat → Nat) → Prop} (hR : R (.one .nil) ob cnt) : CallS Tryz.prog 172 [.one .nil, .one (.t (.int .i64 0))] ob cnt R := by
  refine ⟨callable_of Tryz.func172 (by kernel_rfl), fun w0 Zc m w cargs hr hlen hargs => ?_⟩
  have h0 : cargs.size = 2 := by simpa using hlen.symm
  obtain ⟨A, hv0⟩ := hargs 0 (.one .nil) cargs[0] rfl (by simp [h0])
  have hv1 := one_int (hargs 1 (.one (.t (.int .i64 0))) cargs[1] rfl (by simp [h0]))
  have e : cargs = #[.slice A 0 0, .int .i64 (0 : Nat)] := by
    apply Array.ext (by simp [h0])
    intro i h1 h2
    have : i = 0 ∨ i = 1 := by omega
    rcases this with rfl | rfl
    · simpa using hv0
    · simpa using hv1
  rw [e]
  refine (Go.Proofs.Any8.slices_Grow_room growLay A 0 0 0 w (by omega) (by omega) (by omega) (by omega)).mono ?_
  rintro e w' ⟨rfl, rfl⟩
  exact ⟨_, .one .nil, ob, cnt, m, rfl, hR, hr, Ext.refl .., A, rfl⟩

theorem kApp_row {nm nm' g typ esz bytes n k : Nat} {cs ts : List C} {S : St} {K : Eff → Prop} {news : List V1} (hnews : news = ts.map .t) (ho : S.ob (nm', g) = some ⟨true, true, false, esz, n, typ, cs.map .t⟩) (hl : ts.length = k * esz) (hb : (n + k) * bytes ≤ 140737488355328) (hn : n + k ≤ 9000000000000000000)
    (hK : ∀ E : Eff, E.v = .one (.row (nm, S.cnt nm)) → E.ob (nm, S.cnt nm) = some ⟨true, true, false, esz, n + k, typ, (cs ++ ts).map .t⟩ → K E) : kApp nm typ esz bytes (.one (.row (nm', g))) (some (k, news)) S K := by
  subst hnews
  unfold kApp evApp
  simp only [trees_t, St.live, ho, if_true]
  rw [if_pos ⟨trivial, trivial, trivial, trivial, hb, by simpa using hl, by omega⟩]
  exact ⟨_, rfl, hK _ rfl (by simp [upd_same])⟩

/-- Two lists, as a slice of slices. -/
def twoL (a b : List Int) : C := .sl 2 [ints a, ints b]

def c_concat : MFunc := ⟨36, [.tmp 2], .seq (.region [⟨some 2, .mv (.c (.one .nil)), none⟩]) (.seq (.region [⟨some 3, .mv (.c (.one (.t (.int .i64 0)))), none⟩]) (.seq (.seq (.region [⟨some 9, .mv (.tmp 0), none⟩, ⟨some 10, .len (.tmp 9), none⟩, ⟨some 11, .mv (.c (.one (.t (.int .i64 0)))), none⟩]) (.block 0 (.loop (.seq (.region [⟨some 12, .bin .lss (.tmp 11) (.tmp 10), none⟩]) (.seq (.cond (.tmp 12) .skip (.exit 0)) (.seq (.block 1 (.seq (.region [⟨some 13, .idxA 1 (.tmp 9) (.tmp 11), none⟩, ⟨some 14, .load false 1 (.tmp 13), none⟩, ⟨some 5, .mv (.tmp 14), none⟩]) (.seq (.region [⟨some 15, .mv (.tmp 3), none⟩, ⟨some 16, .mv (.tmp 5), none⟩, ⟨some 17, .len (.tmp 16), none⟩, ⟨some 18, .bin .add (.tmp 15) (.tmp 17), none⟩, ⟨some 3, .mv (.tmp 18), none⟩]) (.seq (.region [⟨some 19, .mv (.tmp 3), none⟩, ⟨some 20, .bin .lss (.tmp 19) (.c (.one (.t (.int .i64 0)))), none⟩]) (.cond (.tmp 20) (.region [⟨some 21, .nilck (.c .undef), none⟩, ⟨none, .nilck (.c .undef), none⟩]) .skip))))) (.region [⟨some 22, .bin .add (.tmp 11) (.c (.one (.t (.int .i64 1)))), none⟩, ⟨some 11, .mv (.tmp 22), none⟩]))))))) (.seq (.region [⟨some 23, .mv (.tmp 3), none⟩, ⟨some 24, .call (.c (.one (.fn 172 []))) 577 [.c (.one .nil), .tmp 23], none⟩, ⟨some 6, .mv (.tmp 24), none⟩]) (.seq (.seq (.region [⟨some 25, .mv (.tmp 0), none⟩, ⟨some 26, .len (.tmp 25), none⟩, ⟨some 27, .mv (.c (.one (.t (.int .i64 0)))), none⟩]) (.block 2 (.loop (.seq (.region [⟨some 28, .bin .lss (.tmp 27) (.tmp 26), none⟩]) (.seq (.cond (.tmp 28) .skip (.exit 2)) (.seq (.block 3 (.seq (.region [⟨some 29, .idxA 1 (.tmp 25) (.tmp 27), none⟩, ⟨some 30, .load false 1 (.tmp 29), none⟩, ⟨some 8, .mv (.tmp 30), none⟩]) (.region [⟨some 31, .mv (.tmp 6), none⟩, ⟨some 32, .mv (.tmp 8), none⟩, ⟨some 33, .append 834 3 1 8 (.tmp 31) (.tmp 32), none⟩, ⟨some 6, .mv (.tmp 33), none⟩]))) (.region [⟨some 34, .bin .add (.tmp 27) (.c (.one (.t (.int .i64 1)))), none⟩, ⟨some 27, .mv (.tmp 34), none⟩]))))))) (.seq (.region [⟨some 35, .mv (.tmp 6), none⟩, ⟨some 2, .mv (.tmp 35), none⟩]) .ret)))))⟩
theorem k_concat : cFn Tryz.prog Tryz.f158 = some c_concat := by kernel_rfl
theorem concat_row (a b : List Int) (ha : a.length ≤ 100000) (hb : b.length ≤ 100000) : RowI Tryz.prog 158 [(false, [twoL a b])] 3 (a ++ b) := by
  refine callRow_W (plain_ints _) (by simp) (by omega) (callS_W (by kernel_rfl) Tryz.func158 k_concat (callable_of Tryz.func158 (by kernel_rfl)) (by simp [c_concat]) ?_)
  simp [c_concat, twoL]
  have w1 : IntKind.i64.wrap (0 + (a.length : Int)) = a.length := by rw [wrap64_id] <;> omega
  have w1' : IntKind.i64.wrap ((a.length : Int)) = a.length := by rw [wrap64_id] <;> omega
  have w2 : IntKind.i64.wrap ((a.length : Int) + b.length) = ((a.length + b.length : Nat) : Int) := by rw [wrap64_id] <;> omega
  refine loopW_count 11 2 (fun k S => S.fr 0 = .one (.t (twoL a b)) ∧ S.fr 9 = .one (.t (twoL a b)) ∧ S.fr 10 = .one (.t (.int .i64 2)) ∧ S.fr 3 = .one (.t (.int .i64 (if k = 0 then 0 else if k = 1 then a.length else ((a.length + b.length : Nat) : Int)))) ∧ S.ob = noOb ∧ S.cnt = noCnt) (by omega) ?_ ?_ ?_
  · simp [twoL]
  · rintro k S hlt hw hc ⟨f0, f9, f10, f3, o0, c0⟩
    have : k = 0 ∨ k = 1 := by omega
    rcases this with rfl | rfl
    · have n1 : ¬ (a.length : Int) < 0 := by omega
      simp at f3 hw
      simp [twoL, f0, f9, f10, f3, o0, c0, hc, w1, w1', n1, hw]
    · have n1 : ¬ ((a.length : Int) + b.length) < 0 := by omega
      simp at f3 hw w2
      simp [twoL, f0, f9, f10, f3, o0, c0, hc, w2, n1, hw]
  · rintro S hc ⟨f0, f9, f10, f3, o0, c0⟩
    simp at f3
    simp [twoL, f0, f9, f10, f3, o0, c0, hc]
    by_cases hz : a.length + b.length = 0
    · have z1 : a = [] := List.eq_nil_of_length_eq_zero (by omega)
      have z2 : b = [] := List.eq_nil_of_length_eq_zero (by omega)
      subst z1 z2
      refine callS_grow0 ?_
      simp [twoL, f0, f9, f10, f3, hc]
      refine loopW_count 27 2 (fun k S => S.fr 25 = .one (.t (twoL [] [])) ∧ S.fr 26 = .one (.t (.int .i64 2)) ∧ S.fr 6 = .one .nil) (by omega) ?_ ?_ ?_
      · simp [twoL]
      · rintro k S hlt hw hc ⟨f25, f26, f6⟩
        have : k = 0 ∨ k = 1 := by omega
        rcases this with rfl | rfl <;> simp at hw hc <;> simp [twoL, f25, f26, f6, hc, hw] <;> refine kApp_nil (ts := []) rfl rfl (by omega) (by omega) ?_ <;> simp [rowEff, twoL, f25, f26, f6, hc, hw]
      · rintro S hc ⟨f25, f26, f6⟩
        simp [twoL, f25, f26, f6, hc, rowIs]
    · have ec : ((a.length : Int) + b.length) = ((a.length + b.length : Nat) : Int) := by omega
      first | rw [ec] | skip
      refine callS_grow (a.length + b.length) (by omega) (by omega) 577 ?_
      simp [twoL, f0, f9, f10, f3, hc]
      refine loopW_count 27 2 (fun k S => S.fr 25 = .one (.t (twoL a b)) ∧ S.fr 26 = .one (.t (.int .i64 2)) ∧ ∃ nm g, S.fr 6 = .one (.row (nm, g)) ∧ S.ob (nm, g) = some ⟨true, true, false, 1, (if k = 0 then [] else if k = 1 then a else a ++ b).length, 3, ((if k = 0 then [] else if k = 1 then a else a ++ b).map (.int .i64)).map .t⟩) (by omega) ?_ ?_ ?_
      · simp [twoL]
      · rintro k S hlt hw hc ⟨f25, f26, nm, g, f6, ho⟩
        have : k = 0 ∨ k = 1 := by omega
        rcases this with rfl | rfl
        · simp at hw hc ho
          simp [twoL, f25, f26, f6, hc, hw]
          refine kApp_row (cs := []) (ts := a.map (.int .i64)) (by simp) ho (by simp) (by omega) (by omega) fun E hv he => ?_
          simp [twoL, f25, f26, f6, hc, hw, hv]
          exact ⟨_, _, ⟨rfl, rfl⟩, by simpa using he⟩
        · simp at hw hc ho
          simp [twoL, f25, f26, f6, hc, hw]
          refine kApp_row (cs := a.map (.int .i64)) (ts := b.map (.int .i64)) (by simp) (by simpa using ho) (by simp) (by omega) (by omega) fun E hv he => ?_
          simp [twoL, f25, f26, f6, hc, hw, hv]
          exact ⟨_, _, ⟨rfl, rfl⟩, by simpa using he⟩
      · rintro S hc ⟨f25, f26, nm, g, f6, ho⟩
        simp at ho
        simp [twoL, f25, f26, f6, hc]
        exact .inr ⟨by omega, _, _, rfl, ho, rfl, rfl, rfl, rfl, by simp, by simp⟩
end Go.Proofs.YthcnpnogfblkcaaGreat

/- Contracts: numbers from a first one on; forests: roots, uniting, flattening; partitions of pairs. -/
namespace Go.Proofs.YthcnpnogfblkcaaGreat
open Abs
set_option linter.unusedSimpArgs false
set_option linter.unusedVariables false
attribute [local simp] rn0 rn1 rn2 rn3 rn4 rn5 rn6 rn7 evOp nests Arg.ev St.val St.set St.new sliceOf binInt2 binInt AV.cells rdAt St.live retOf resOf resAll treeOf treeCell treeCells treeTups untree frameOf TV.av TR.av ints edgs prs fillV splice intsOf trees V1.tree bx Gr.v Pa.v

/-- So many numbers from a first one on. -/
def numL (a n : Nat) : List Int := (List.range n).map fun (i : Nat) => ((a + i : Nat) : Int)
theorem numL_len {a n : Nat} : (numL a n).length = n := by simp [numL]
theorem numL_succ {a n : Nat} : numL a (n + 1) = numL a n ++ [((a + n : Nat) : Int)] := by simp [numL, List.range_succ]
theorem numL_nth {a n i : Nat} (h : i < n) : nth (numL a n) i = ((a + i : Nat) : Int) := by
  rw [nth_eq (by rw [numL_len]; exact h)]
  simp [numL]

def c_gnumbers : MFunc := ⟨19, [.tmp 4], .seq (.region [⟨some 4, .mv (.c (.one .nil)), none⟩]) (.seq (.region [⟨some 5, .mv (.c (.one .nil)), none⟩]) (.seq (.seq (.region [⟨some 7, .mv (.tmp 1), none⟩, ⟨some 8, .mv (.c (.one (.t (.int .i64 0)))), none⟩]) (.block 0 (.loop (.seq (.region [⟨some 9, .bin .lss (.tmp 8) (.tmp 7), none⟩]) (.seq (.cond (.tmp 9) .skip (.exit 0)) (.seq (.block 1 (.seq (.region [⟨some 10, .mv (.tmp 8), none⟩, ⟨some 6, .mv (.tmp 10), none⟩]) (.region [⟨some 11, .mv (.tmp 5), none⟩, ⟨some 12, .mv (.tmp 0), none⟩, ⟨some 13, .mv (.tmp 6), none⟩, ⟨some 14, .bin .add (.tmp 12) (.tmp 13), none⟩, ⟨some 15, .mkrow 324 3 1 1 [.t (.int .i64 0)] [(0, (1, .tmp 14))], none⟩, ⟨some 16, .append 325 3 1 8 (.tmp 11) (.tmp 15), none⟩, ⟨some 5, .mv (.tmp 16), none⟩]))) (.region [⟨some 17, .bin .add (.tmp 8) (.c (.one (.t (.int .i64 1)))), none⟩, ⟨some 8, .mv (.tmp 17), none⟩]))))))) (.seq (.region [⟨some 18, .mv (.tmp 5), none⟩, ⟨some 4, .mv (.tmp 18), none⟩]) .ret)))⟩
theorem k_gnumbers : cFn Tryz.prog Tryz.f159 = some c_gnumbers := by kernel_rfl
theorem gnumbers_row (a n : Nat) (ha : tiny a) (hn : tiny n) : RowI Tryz.prog 159 [(false, [.int .i64 a]), (false, [.int .i64 n])] 3 (numL a n) := by
  refine callRow_W (plain_ints _) (by simp) (by omega) (callS_W (by kernel_rfl) Tryz.func159 k_gnumbers (callable_of Tryz.func159 (by kernel_rfl)) (by simp [c_gnumbers]) ?_)
  simp [c_gnumbers]
  refine loopW_count 8 n (fun k S => S.fr 0 = .one (.t (.int .i64 a)) ∧ S.fr 7 = .one (.t (.int .i64 n)) ∧ outR 325 3 1 (numL a k).length ((numL a k).map (.int .i64)) S.ob (S.fr 5)) hn.small ?_ ?_ ?_
  · simp [numL, outR_nil]
  · rintro k S hlt hw hc ⟨f0, f7, ho⟩
    have z := numL_len (a := a) (n := k)
    simp only [tiny] at ha hn
    have w1 : IntKind.i64.wrap ((a : Int) + k) = ((a + k : Nat) : Int) := by rw [wrap64_id] <;> omega
    simp [f0, f7, hc, hlt, w1]
    refine kApp_grow (ts := [.int .i64 ((a + k : Nat) : Int)]) (by simp) (ho.keep fun g => by simp) (by omega) rfl (by omega) (by omega) fun E hE hob hcnt => ?_
    simp [f0, f7, hc, hw, numL_succ]
    simpa using hE
  · rintro S hc ⟨f0, f7, ho⟩
    obtain ⟨u, hu⟩ := ho.one
    rw [hu] at ho
    simp [f0, f7, hc, hu]
    exact ho.rowIs

/-- A row of numbers. -/
def rowO (l : List Int) : Ob := ⟨true, true, false, 1, l.length, 3, (l.map (.int .i64)).map .t⟩

def c_root : MFunc := ⟨16, [.tmp 4], .seq (.region [⟨some 4, .mv (.c (.one (.t (.int .i64 0)))), none⟩]) (.seq (.block 0 (.loop (.seq (.seq (.region [⟨some 5, .mv (.tmp 0), none⟩, ⟨some 6, .mv (.tmp 1), none⟩, ⟨some 7, .idxA 1 (.tmp 5) (.tmp 6), none⟩, ⟨some 8, .load false 1 (.tmp 7), none⟩, ⟨some 9, .mv (.tmp 1), none⟩, ⟨some 10, .bin .neq (.tmp 8) (.tmp 9), none⟩]) (.cond (.tmp 10) .skip (.exit 0))) (.block 1 (.region [⟨some 11, .mv (.tmp 0), none⟩, ⟨some 12, .mv (.tmp 1), none⟩, ⟨some 13, .idxA 1 (.tmp 11) (.tmp 12), none⟩, ⟨some 14, .load false 1 (.tmp 13), none⟩, ⟨some 1, .mv (.tmp 14), none⟩]))))) (.seq (.region [⟨some 15, .mv (.tmp 1), none⟩, ⟨some 4, .mv (.tmp 15), none⟩]) .ret))⟩
theorem k_root : cFn Tryz.prog Tryz.f178 = some c_root := by kernel_rfl
theorem root_ok (p : List Int) (i : Nat) (hp : Forest p) (hi : i < p.length) (hl : tiny p.length) : CallOK Tryz.prog 178 [(false, [ints p]), (false, [.int .i64 i])] (.sv (false, [.int .i64 (rt p i)])) := by
  refine callOK_W (callS_W (by kernel_rfl) Tryz.func178 k_root (callable_of Tryz.func178 (by kernel_rfl)) (by simp [c_root]) ?_)
  simp [c_root]
  refine loopW_intro (fun S => S.fr 0 = .one (.t (ints p)) ∧ ∃ j : Nat, j < p.length ∧ S.fr 1 = .one (.t (.int .i64 j)) ∧ rt p j = rt p i) (fun S => match S.fr 1 with | .one (.t (.int _ j)) => j.toNat | _ => 0) ⟨by simp, i, hi, by simp, rfl⟩ ?_
  rintro S ⟨f0, j, hj, f1, hr⟩
  obtain ⟨j', hj', hle⟩ := hp.at hj
  by_cases e : j' = j
  · subst e
    have er : rt p i = j' := by rw [← hr]; exact rt_root hj'
    simp [f0, f1, hj, drop_nth hj, hj', er]
  · have e' : ¬ (j' : Int) = j := by omega
    have hlt : j' < j := by omega
    have hj2 : j' < p.length := by omega
    have e3 : rt p j' = rt p i := by rw [← rt_step hp hj hj']; exact hr
    simp [f0, f1, hj, drop_nth hj, hj', e', e]
    exact ⟨⟨j', hj2, rfl, e3⟩, hlt⟩

def c_finest : MFunc := ⟨18, [.tmp 2], .seq (.region [⟨some 2, .mv (.c (.one .nil)), none⟩]) (.seq (.region [⟨some 5, .mv (.tmp 0), none⟩, ⟨some 6, .make 65 3 1 8 [.t (.int .i64 0)] (.tmp 5) (.tmp 5), none⟩, ⟨some 3, .mv (.tmp 6), none⟩]) (.seq (.seq (.region [⟨some 7, .mv (.tmp 3), none⟩, ⟨some 8, .len (.tmp 7), none⟩, ⟨some 9, .mv (.c (.one (.t (.int .i64 0)))), none⟩]) (.block 0 (.loop (.seq (.region [⟨some 10, .bin .lss (.tmp 9) (.tmp 8), none⟩]) (.seq (.cond (.tmp 10) .skip (.exit 0)) (.seq (.block 1 (.seq (.region [⟨some 11, .mv (.tmp 9), none⟩, ⟨some 4, .mv (.tmp 11), none⟩]) (.region [⟨some 12, .mv (.tmp 3), none⟩, ⟨some 13, .mv (.tmp 4), none⟩, ⟨some 14, .mv (.tmp 4), none⟩, ⟨some 15, .idxA 1 (.tmp 12) (.tmp 13), none⟩, ⟨none, .store 1 (.tmp 15) (.tmp 14), none⟩]))) (.region [⟨some 16, .bin .add (.tmp 9) (.c (.one (.t (.int .i64 1)))), none⟩, ⟨some 9, .mv (.tmp 16), none⟩]))))))) (.seq (.region [⟨some 17, .mv (.tmp 3), none⟩, ⟨some 2, .mv (.tmp 17), none⟩]) .ret)))⟩
theorem k_finest : cFn Tryz.prog Tryz.f173 = some c_finest := by kernel_rfl
theorem finestS (n : Nat) (hn : tiny n) {ob : Nm → Option Ob} {cnt : Nat → Nat} {R : AV → (Nm → Option Ob) → (Nat → Nat) → Prop}
    (hR : ∀ ob', ob' (65, cnt 65) = some (rowO (idL n)) → (∀ o, o ≠ (65, cnt 65) → ob' o = ob o) → R (.one (.row (65, cnt 65))) ob' (upd cnt 65 (cnt 65 + 1))) : CallS Tryz.prog 173 [.one (.t (.int .i64 n))] ob cnt R := by
  refine callS_W (by kernel_rfl) Tryz.func173 k_finest (callable_of Tryz.func173 (by kernel_rfl)) (by simp [c_finest]) ?_
  have hn' := hn
  simp only [tiny] at hn'
  have n1 : n * 8 ≤ 140737488355328 := by omega
  have n2 : (n : Int) ≤ 9223372036854775807 := by omega
  simp [c_finest, n1, n2]
  refine loopW_count 9 n (fun k S => S.fr 3 = .one (.row (65, cnt 65)) ∧ S.fr 8 = .one (.t (.int .i64 n)) ∧ S.cnt = upd cnt 65 (cnt 65 + 1) ∧ S.ob (65, cnt 65) = some ⟨true, true, false, 1, n, 3, fillL (idL n) k n⟩ ∧ ∀ o, o ≠ (65, cnt 65) → S.ob o = ob o) hn.small ?_ ?_ ?_
  · simp [fillL_zero]
    intro a b h h1 h2
    exact absurd h2 (h h1)
  · rintro k S hlt hw hc ⟨f3, f8, hcn, o65, hoth⟩
    have e2 := fillL_set (l := idL n) (k := k) (n := n) idL_len hlt
    rw [idL_nth hlt] at e2
    have e3 := fillL_len (l := idL n) (k := k) (n := n) idL_len (by omega)
    have hlt1 : k + 1 ≤ n := hlt
    simp [f3, f8, o65, hc, hlt, hlt1, hw, e2, e3, hcn]
    intro a b h
    rw [if_neg (fun q => h q.1 q.2)]
    exact hoth _ (by rintro e; cases e; exact h rfl rfl)
  · rintro S hc ⟨f3, f8, hcn, o65, hoth⟩
    rw [fillL_all idL_len] at o65
    simp [f3, f8, hc]
    rw [hcn]
    exact hR _ (by rw [o65, rowO, idL_len]) hoth

theorem row_set {p : List Int} {k : Nat} {v : Int} (hk : k < p.length) : (p.map (V1.t ∘ C.int .i64)).take k ++ .t (.int .i64 v) :: (p.map (V1.t ∘ C.int .i64)).drop (k + 1) = (p.set k v).map (V1.t ∘ C.int .i64) := by
  rw [List.set_eq_take_append_cons_drop, if_pos hk]
  simp

theorem rowO_tree {p : List Int} {o : Nm} {fr : Nat → AV} {ob : Nm → Option Ob} {cnt : Nat → Nat} (h : ob o = some (rowO p)) : treeCell ⟨fr, ob, cnt⟩ (.row o) = some (ints p) := treeCell_row h

def c_unite : MFunc := ⟨22, [], .seq (.region [⟨some 8, .mv (.tmp 0), none⟩, ⟨some 9, .mv (.tmp 1), none⟩, ⟨some 10, .call (.c (.one (.fn 178 []))) 2 [.tmp 8, .tmp 9], none⟩, ⟨some 11, .mv (.tmp 0), none⟩, ⟨some 12, .mv (.tmp 2), none⟩, ⟨some 13, .call (.c (.one (.fn 178 []))) 5 [.tmp 11, .tmp 12], none⟩, ⟨some 6, .mv (.tmp 10), none⟩, ⟨some 7, .mv (.tmp 13), none⟩]) (.region [⟨some 14, .mv (.tmp 0), none⟩, ⟨some 15, .mv (.tmp 6), none⟩, ⟨some 16, .mv (.tmp 7), none⟩, ⟨some 17, .minmax true (.tmp 15) (.tmp 16), none⟩, ⟨some 18, .mv (.tmp 6), none⟩, ⟨some 19, .mv (.tmp 7), none⟩, ⟨some 20, .minmax false (.tmp 18) (.tmp 19), none⟩, ⟨some 21, .idxA 1 (.tmp 14) (.tmp 17), none⟩, ⟨none, .store 1 (.tmp 21) (.tmp 20), none⟩])⟩
theorem k_unite : cFn Tryz.prog Tryz.f174 = some c_unite := by kernel_rfl
theorem uniteS (p : List Int) (a b : Nat) (hp : Forest p) (ha : a < p.length) (hb : b < p.length) (hl : tiny p.length) {o : Nm} {ob : Nm → Option Ob} {cnt : Nat → Nat} {R : AV → (Nm → Option Ob) → (Nat → Nat) → Prop} (ho : ob o = some (rowO p))
    (hR : ∀ ob', ob' o = some (rowO (uniteL p a b)) → (∀ o', o' ≠ o → ob' o' = ob o') → R (.tup []) ob' cnt) : CallS Tryz.prog 174 [.one (.row o), .one (.t (.int .i64 a)), .one (.t (.int .i64 b))] ob cnt R := by
  refine callS_W (by kernel_rfl) Tryz.func174 k_unite (callable_of Tryz.func174 (by kernel_rfl)) (by simp [c_unite]) ?_
  have h1 := rt_spec hp ha
  have h2 := rt_spec hp hb
  simp [c_unite]
  refine callS_tree (root_ok p a hp ha hl) ?_ ?_ ?_
  · simp [argTrees, argTree_one, rowO_tree ho, -treeCell, treeCell_t]
    try simp [treeCell]
  · rfl
  simp
  refine callS_tree (root_ok p b hp hb hl) ?_ ?_ ?_
  · simp [argTrees, argTree_one, rowO_tree ho, -treeCell, treeCell_t]
    try simp [treeCell]
  · rfl
  have hm : max (rt p a) (rt p b) < p.length := by omega
  have hm1 : max (rt p a) (rt p b) + 1 ≤ p.length := hm
  have e1 : max (rt p a : Int) (rt p b) = ((max (rt p a) (rt p b) : Nat) : Int) := by omega
  have e2 : min (rt p a : Int) (rt p b) = ((min (rt p a) (rt p b) : Nat) : Int) := by omega
  have e3 := row_set (v := ((min (rt p a) (rt p b) : Nat) : Int)) hm
  generalize hM : max (rt p a) (rt p b) = M at *
  generalize hm' : min (rt p a) (rt p b) = m' at *
  have hm2 : M < p.length := hm
  simp [ho, rowO, e1, e2, hm, hm1, e3]
  refine hR _ ?_ fun o' h' => upd_ne _ _ h'
  rw [upd_same]
  simp [rowO, uniteL, hM, hm', List.map_set]

def c_flat : MFunc := ⟨17, [.tmp 2], .seq (.region [⟨some 2, .mv (.c (.one .nil)), none⟩]) (.seq (.seq (.region [⟨some 4, .mv (.tmp 0), none⟩, ⟨some 5, .len (.tmp 4), none⟩, ⟨some 6, .mv (.c (.one (.t (.int .i64 0)))), none⟩]) (.block 0 (.loop (.seq (.region [⟨some 7, .bin .lss (.tmp 6) (.tmp 5), none⟩]) (.seq (.cond (.tmp 7) .skip (.exit 0)) (.seq (.block 1 (.seq (.region [⟨some 8, .mv (.tmp 6), none⟩, ⟨some 3, .mv (.tmp 8), none⟩]) (.region [⟨some 9, .mv (.tmp 0), none⟩, ⟨some 10, .mv (.tmp 3), none⟩, ⟨some 11, .mv (.tmp 0), none⟩, ⟨some 12, .mv (.tmp 3), none⟩, ⟨some 13, .call (.c (.one (.fn 178 []))) 260 [.tmp 11, .tmp 12], none⟩, ⟨some 14, .idxA 1 (.tmp 9) (.tmp 10), none⟩, ⟨none, .store 1 (.tmp 14) (.tmp 13), none⟩]))) (.region [⟨some 15, .bin .add (.tmp 6) (.c (.one (.t (.int .i64 1)))), none⟩, ⟨some 6, .mv (.tmp 15), none⟩]))))))) (.seq (.region [⟨some 16, .mv (.tmp 0), none⟩, ⟨some 2, .mv (.tmp 16), none⟩]) .ret))⟩
theorem k_flat : cFn Tryz.prog Tryz.f175 = some c_flat := by kernel_rfl
theorem flatS (p : List Int) (hp : Forest p) (hl : tiny p.length) {o : Nm} {ob : Nm → Option Ob} {cnt : Nat → Nat} {R : AV → (Nm → Option Ob) → (Nat → Nat) → Prop} (ho : ob o = some (rowO p))
    (hR : ∀ ob', ob' o = some (rowO (flatL p)) → (∀ o', o' ≠ o → ob' o' = ob o') → R (.one (.row o)) ob' cnt) : CallS Tryz.prog 175 [.one (.row o)] ob cnt R := by
  refine callS_W (by kernel_rfl) Tryz.func175 k_flat (callable_of Tryz.func175 (by kernel_rfl)) (by simp [c_flat]) ?_
  simp [c_flat, ho, rowO]
  refine loopW_count 6 p.length (fun k S => S.fr 0 = .one (.row o) ∧ S.fr 5 = .one (.t (.int .i64 p.length)) ∧ S.cnt = cnt ∧ S.ob o = some (rowO (flatK p k)) ∧ ∀ o', o' ≠ o → S.ob o' = ob o') hl.small ?_ ?_ ?_
  · simp [flatK_zero, rowO, ho]
  · rintro k S hlt hw hc ⟨f0, f5, hcn, ok, hoth⟩
    have hk : k < (flatK p k).length := by rw [flatK_len]; exact hlt
    have hlt1 : k + 1 ≤ p.length := hlt
    simp [f0, f5, hc, hlt, hw]
    refine callS_tree (root_ok (flatK p k) k (flatK_forest hp) hk (by rw [flatK_len]; exact hl)) ?_ ?_ ?_
    · simp [argTrees, argTree_one, rowO_tree ok, -treeCell, treeCell_t]
      try simp [treeCell]
    · rfl
    rw [flatK_rt hp hlt]
    simp [f0, f5, hc, hlt, hlt1, hw, ok, rowO, flatK_len, hcn]
    refine ⟨?_, fun a b hab => ?_⟩
    · rw [row_set hk, flatK_set hlt]
    · rw [if_neg hab]
      exact hoth _ hab
  · rintro S hc ⟨f0, f5, hcn, ok, hoth⟩
    rw [flatK_all] at ok
    simp [f0, f5, hc]
    rw [hcn]
    exact hR _ ok hoth

def c_generate : MFunc := ⟨50, [.tmp 4, .tmp 5], .seq (.region [⟨some 4, .mv (.c (.one .nil)), none⟩, ⟨some 5, .mv (.c (.one (.t (.int .i64 0)))), none⟩]) (.seq (.seq (.region [⟨some 9, .mv (.tmp 0), none⟩, ⟨some 10, .bin .gtr (.tmp 9) (.c (.one (.t (.int .i64 80)))), none⟩]) (.cond (.tmp 10) (.seq (.region [⟨some 4, .mv (.c (.one .nil)), none⟩, ⟨some 5, .mv (.c (.one (.t (.int .i64 3)))), none⟩]) .ret) .skip)) (.seq (.seq (.region [⟨some 11, .mv (.tmp 0), none⟩, ⟨some 12, .bin .lss (.tmp 11) (.c (.one (.t (.int .i64 0)))), none⟩]) (.cond (.tmp 12) (.seq (.region [⟨some 4, .mv (.c (.one .nil)), none⟩, ⟨some 5, .mv (.c (.one (.t (.int .i64 6)))), none⟩]) .ret) .skip)) (.seq (.region [⟨some 13, .mv (.tmp 0), none⟩, ⟨some 14, .call (.c (.one (.fn 173 []))) 321 [.tmp 13], none⟩, ⟨some 6, .mv (.tmp 14), none⟩]) (.seq (.seq (.region [⟨some 15, .mv (.tmp 1), none⟩, ⟨some 16, .len (.tmp 15), none⟩, ⟨some 17, .mv (.c (.one (.t (.int .i64 0)))), none⟩]) (.block 0 (.loop (.seq (.region [⟨some 18, .bin .lss (.tmp 17) (.tmp 16), none⟩]) (.seq (.cond (.tmp 18) .skip (.exit 0)) (.seq (.block 1 (.seq (.region [⟨some 19, .idxA 2 (.tmp 15) (.tmp 17), none⟩, ⟨some 20, .load true 2 (.tmp 19), none⟩, ⟨some 8, .alloc 514 121 [.t (.int .i64 0), .t (.int .i64 0)], none⟩, ⟨none, .store 2 (.tmp 8) (.tmp 20), none⟩]) (.seq (.seq (.region [⟨some 21, .fieldA 0 (.tmp 8), none⟩, ⟨some 22, .load false 1 (.tmp 21), none⟩, ⟨some 23, .bin .lss (.tmp 22) (.c (.one (.t (.int .i64 0)))), none⟩, ⟨some 24, .mv (.tmp 23), none⟩, ⟨some 25, .fieldA 0 (.tmp 8), some (24, false)⟩, ⟨some 26, .load false 1 (.tmp 25), some (24, false)⟩, ⟨some 27, .mv (.tmp 0), some (24, false)⟩, ⟨some 28, .bin .geq (.tmp 26) (.tmp 27), some (24, false)⟩, ⟨some 29, .pick (.tmp 24) (.c (.one (.t (.bool true)))) (.tmp 28), none⟩, ⟨some 30, .mv (.tmp 29), none⟩, ⟨some 31, .fieldA 1 (.tmp 8), some (30, false)⟩, ⟨some 32, .load false 1 (.tmp 31), some (30, false)⟩, ⟨some 33, .bin .lss (.tmp 32) (.c (.one (.t (.int .i64 0)))), some (30, false)⟩, ⟨some 34, .pick (.tmp 30) (.c (.one (.t (.bool true)))) (.tmp 33), none⟩, ⟨some 35, .mv (.tmp 34), none⟩, ⟨some 36, .fieldA 1 (.tmp 8), some (35, false)⟩, ⟨some 37, .load false 1 (.tmp 36), some (35, false)⟩, ⟨some 38, .mv (.tmp 0), some (35, false)⟩, ⟨some 39, .bin .geq (.tmp 37) (.tmp 38), some (35, false)⟩, ⟨some 40, .pick (.tmp 35) (.c (.one (.t (.bool true)))) (.tmp 39), none⟩]) (.cond (.tmp 40) (.seq (.region [⟨some 4, .mv (.c (.one .nil)), none⟩, ⟨some 5, .mv (.c (.one (.t (.int .i64 6)))), none⟩]) .ret) .skip)) (.region [⟨some 41, .mv (.tmp 6), none⟩, ⟨some 42, .fieldA 0 (.tmp 8), none⟩, ⟨some 43, .load false 1 (.tmp 42), none⟩, ⟨some 44, .fieldA 1 (.tmp 8), none⟩, ⟨some 45, .load false 1 (.tmp 44), none⟩, ⟨some 46, .call (.c (.one (.fn 174 []))) 709 [.tmp 41, .tmp 43, .tmp 45], none⟩])))) (.region [⟨some 47, .bin .add (.tmp 17) (.c (.one (.t (.int .i64 1)))), none⟩, ⟨some 17, .mv (.tmp 47), none⟩]))))))) (.seq (.region [⟨some 48, .mv (.tmp 6), none⟩, ⟨some 49, .call (.c (.one (.fn 175 []))) 833 [.tmp 48], none⟩, ⟨some 4, .mv (.tmp 49), none⟩, ⟨some 5, .mv (.c (.one (.t (.int .i64 0)))), none⟩]) .ret)))))⟩
theorem k_generate : cFn Tryz.prog Tryz.f160 = some c_generate := by kernel_rfl
theorem generate_ok (n : Nat) (l : List (Int × Int)) (hn : n ≤ 80) (hl : tiny l.length) (hi : pairsIn l n) : CallOK Tryz.prog 160 [(false, [.int .i64 n]), (false, [prs l])] (.tup [(false, [ints (genL n l)]), (false, [.int .i64 0])]) := by
  refine callOK_W (callS_W (by kernel_rfl) Tryz.func160 k_generate (callable_of Tryz.func160 (by kernel_rfl)) (by simp [c_generate]) ?_)
  have n1 : ¬ (80 : Int) < n := by omega
  have n2 : ¬ 80 < n := by omega
  simp [c_generate, n1, n2]
  refine finestS n (by simp only [tiny]; omega) fun ob1 h1 hoth1 => ?_
  simp
  refine loopW_count 17 l.length (fun k S => S.fr 0 = .one (.t (.int .i64 n)) ∧ S.fr 6 = .one (.row (65, 0)) ∧ S.fr 15 = .one (.t (prs l)) ∧ S.fr 16 = .one (.t (.int .i64 l.length)) ∧ S.ob (65, 0) = some (rowO (genU n (l.take k)))) hl.small ?_ ?_ ?_
  · simp
    rw [noCnt_app] at h1
    exact h1
  · rintro k S hlt hw hc ⟨f0, f6, f15, f16, o65⟩
    have hlt2 : k * 2 < l.length * 2 := by omega
    obtain ⟨a1, a2, b1, b2⟩ := hi _ (pth_mem hlt)
    obtain ⟨a, ha⟩ := Int.eq_ofNat_of_zero_le a1
    obtain ⟨b, hb⟩ := Int.eq_ofNat_of_zero_le b1
    have ha2 : a < n := by omega
    have hb2 : b < n := by omega
    have ha3 : ¬ n ≤ a := by omega
    have hb3 : ¬ n ≤ b := by omega
    have hsub : pairsIn (l.take k) n := fun x hx => hi x (List.mem_of_mem_take hx)
    obtain ⟨hf, _⟩ := genU_ok hsub
    have et := genU_take (n := n) hlt
    rw [ha, hb] at et
    simp [f0, f6, f15, f16, hc, hlt, hlt2, drop_prL hlt, ha, hb, ha2, hb2, ha3, hb3]
    refine uniteS (genU n (l.take k)) a b hf (by rw [genU_len]; exact ha2) (by rw [genU_len]; exact hb2) (by rw [genU_len]; simp only [tiny]; omega) (o := (65, 0)) (by simp [o65]) fun ob' h2 hoth2 => ?_
    simp [f0, f6, f15, f16, hc, hw, et, h2]
  · rintro S hc ⟨f0, f6, f15, f16, o65⟩
    rw [List.take_length] at o65
    obtain ⟨hf, he⟩ := genU_ok hi
    simp [f0, f6, f15, f16, hc]
    refine flatS (genU n l) hf (by rw [genU_len]; simp only [tiny]; omega) o65 fun ob' h2 hoth2 => ?_
    rw [he] at h2
    have et := fun fr cnt => rowO_tree (fr := fr) (cnt := cnt) h2
    simp [-treeCell, treeCell_t, et]
end Go.Proofs.YthcnpnogfblkcaaGreat

/- Contracts: partitions are right; their classes numbered. -/
namespace Go.Proofs.YthcnpnogfblkcaaGreat
open Abs
set_option linter.unusedSimpArgs false
set_option linter.unusedVariables false
attribute [local simp] rn0 rn1 rn2 rn3 rn4 rn5 rn6 rn7 evOp nests Arg.ev St.val St.set St.new sliceOf binInt2 binInt AV.cells rdAt St.live retOf resOf resAll treeOf treeCell treeCells treeTups untree frameOf TV.av TR.av ints edgs prs fillV splice intsOf trees V1.tree bx Gr.v Pa.v opRd opWr opNew opNewR opArgs argsRd argRd Arg.rd AV.refs V1.refs refsL dstL

theorem drop_nthR {l : List Int} {k : Nat} (h : k < l.length) : (l.map (V1.t ∘ C.int .i64)).drop k = .t (.int .i64 (nth l k)) :: (l.drop (k + 1)).map (V1.t ∘ C.int .i64) := by
  rw [nth_eq h, ← List.map_drop, List.drop_eq_getElem_cons h]
  rfl

/-- How many classes begin below a number. -/
def clsN (p : List Int) : Nat → Nat
  | 0 => 0
  | k + 1 => if nth p k = k then clsN p k + 1 else clsN p k
theorem clsN_le {p : List Int} : ∀ k, clsN p k ≤ k
  | 0 => Nat.le_refl _
  | k + 1 => by
    have := clsN_le (p := p) k
    simp only [clsN]
    split <;> omega
theorem clsN_mono {p : List Int} {a : Nat} : ∀ {b : Nat}, a ≤ b → clsN p a ≤ clsN p b
  | 0, h => by
    have : a = 0 := by omega
    subst this
    exact Nat.le_refl _
  | b + 1, h => by
    by_cases e : a = b + 1
    · rw [e]; exact Nat.le_refl _
    · have := clsN_mono (p := p) (a := a) (b := b) (by omega)
      simp only [clsN]
      split <;> omega
theorem clsN_lt {p : List Int} {a b : Nat} (ha : nth p a = a) (h : a < b) : clsN p a < clsN p b := by
  have : clsN p (a + 1) = clsN p a + 1 := by simp only [clsN, if_pos ha]
  have := clsN_mono (p := p) (a := a + 1) (b := b) (by omega)
  omega

/-- The number of each element's class. -/
def quotK (p : List Int) (k : Nat) : List Int := (p.take k).map fun x => (clsN p x.toNat : Int)
def quotL (p : List Int) : List Int := p.map fun x => (clsN p x.toNat : Int)
theorem quotK_len {p : List Int} {k : Nat} (h : k ≤ p.length) : (quotK p k).length = k := by simp [quotK]; omega
theorem quotL_len {p : List Int} : (quotL p).length = p.length := by simp [quotL]
theorem quotK_succ {p : List Int} {k : Nat} (h : k < p.length) : quotK p (k + 1) = quotK p k ++ [(clsN p (nth p k).toNat : Int)] := by
  rw [quotK, take_succ_nth' h]
  simp [quotK]
theorem quotK_all {p : List Int} : quotK p p.length = quotL p := by simp [quotK, quotL]
theorem quotK_nth {p : List Int} {k i : Nat} (h : i < k) (hk : k ≤ p.length) : nth (quotK p k) i = (clsN p (nth p i).toNat : Nat) := by
  rw [nth_eq (by rw [quotK_len hk]; exact h), nth_eq (show i < p.length by omega)]
  simp [quotK]
theorem quotL_nth {p : List Int} {i : Nat} (h : i < p.length) : nth (quotL p) i = (clsN p (nth p i).toNat : Nat) := by
  rw [← quotK_all, quotK_nth h (Nat.le_refl _)]

def c_pright : MFunc := ⟨28, [.tmp 2], .seq (.region [⟨some 2, .mv (.c (.one (.t (.bool false)))), none⟩]) (.seq (.seq (.region [⟨some 5, .mv (.tmp 0), none⟩, ⟨some 6, .len (.tmp 5), none⟩, ⟨some 7, .mv (.c (.one (.t (.int .i64 0)))), none⟩]) (.block 0 (.loop (.seq (.region [⟨some 8, .bin .lss (.tmp 7) (.tmp 6), none⟩]) (.seq (.cond (.tmp 8) .skip (.exit 0)) (.seq (.block 1 (.seq (.region [⟨some 9, .mv (.tmp 7), none⟩, ⟨some 10, .idxA 1 (.tmp 5) (.tmp 7), none⟩, ⟨some 11, .load false 1 (.tmp 10), none⟩, ⟨some 3, .mv (.tmp 9), none⟩, ⟨some 4, .mv (.tmp 11), none⟩]) (.seq (.region [⟨some 12, .mv (.tmp 4), none⟩, ⟨some 13, .bin .lss (.tmp 12) (.c (.one (.t (.int .i64 0)))), none⟩, ⟨some 14, .mv (.tmp 13), none⟩, ⟨some 15, .mv (.tmp 4), some (14, false)⟩, ⟨some 16, .mv (.tmp 3), some (14, false)⟩, ⟨some 17, .bin .gtr (.tmp 15) (.tmp 16), some (14, false)⟩, ⟨some 18, .pick (.tmp 14) (.c (.one (.t (.bool true)))) (.tmp 17), none⟩, ⟨some 19, .mv (.tmp 18), none⟩, ⟨some 20, .mv (.tmp 0), some (19, false)⟩, ⟨some 21, .mv (.tmp 4), some (19, false)⟩, ⟨some 22, .idxA 1 (.tmp 20) (.tmp 21), some (19, false)⟩, ⟨some 23, .load false 1 (.tmp 22), some (19, false)⟩, ⟨some 24, .mv (.tmp 4), some (19, false)⟩, ⟨some 25, .bin .neq (.tmp 23) (.tmp 24), some (19, false)⟩, ⟨some 26, .pick (.tmp 19) (.c (.one (.t (.bool true)))) (.tmp 25), none⟩]) (.cond (.tmp 26) (.seq (.region [⟨some 2, .mv (.c (.one (.t (.bool false)))), none⟩]) .ret) .skip)))) (.region [⟨some 27, .bin .add (.tmp 7) (.c (.one (.t (.int .i64 1)))), none⟩, ⟨some 7, .mv (.tmp 27), none⟩]))))))) (.seq (.region [⟨some 2, .mv (.c (.one (.t (.bool true)))), none⟩]) .ret))⟩
theorem k_pright : cFn Tryz.prog Tryz.f179 = some c_pright := by kernel_rfl
theorem pright_ok (p : List Int) (hp : Flat p) (hl : tiny p.length) : CallOK Tryz.prog 179 [(false, [ints p])] (.sv (false, [.bool true])) := by
  refine callOK_W (callS_W (by kernel_rfl) Tryz.func179 k_pright (callable_of Tryz.func179 (by kernel_rfl)) (by simp [c_pright]) ?_)
  simp [c_pright]
  refine loopW_count 7 p.length (fun k S => S.fr 0 = .one (.t (ints p)) ∧ S.fr 5 = .one (.t (ints p)) ∧ S.fr 6 = .one (.t (.int .i64 p.length))) hl.small ?_ ?_ ?_
  · simp
  · rintro k S hlt hw hc ⟨f0, f5, f6⟩
    obtain ⟨x, hx, hle⟩ := hp.fo.at hlt
    have h2 := hp.fx k hlt
    rw [hx, Int.toNat_natCast] at h2
    have n1 : ¬ k < x := by omega
    have hx2 : x < p.length := by omega
    simp [f0, f5, f6, hc, hlt, hw, drop_nth hlt, hx, n1, hx2, drop_nth hx2, h2]
  · rintro S hc ⟨f0, f5, f6⟩
    simp [f0, f5, f6, hc]

def c_pone : MFunc := ⟨9, [.tmp 2], .seq (.region [⟨some 2, .mv (.c (.one (.t (.int .i64 0)))), none⟩]) (.seq (.seq (.region [⟨some 3, .mv (.tmp 0), none⟩, ⟨some 4, .len (.tmp 3), none⟩, ⟨some 5, .bin .gtr (.tmp 4) (.c (.one (.t (.int .i64 80)))), none⟩]) (.cond (.tmp 5) (.seq (.region [⟨some 2, .mv (.c (.one (.t (.int .i64 3)))), none⟩]) .ret) .skip)) (.seq (.seq (.region [⟨some 6, .mv (.tmp 0), none⟩, ⟨some 7, .call (.c (.one (.fn 179 []))) 193 [.tmp 6], none⟩, ⟨some 8, .not (.tmp 7), none⟩]) (.cond (.tmp 8) (.seq (.region [⟨some 2, .mv (.c (.one (.t (.int .i64 1)))), none⟩]) .ret) .skip)) (.seq (.region [⟨some 2, .mv (.c (.one (.t (.int .i64 0)))), none⟩]) .ret)))⟩
theorem k_pone : cFn Tryz.prog Tryz.f176 = some c_pone := by kernel_rfl
theorem pone_ok (p : List Int) (hp : Flat p) (hl : p.length ≤ 80) : CallOK Tryz.prog 176 [(false, [ints p])] (.sv (false, [.int .i64 0])) := by
  refine callOK_W (callS_W (by kernel_rfl) Tryz.func176 k_pone (callable_of Tryz.func176 (by kernel_rfl)) (by simp [c_pone]) ?_)
  have n1 : ¬ (80 : Int) < p.length := by omega
  have n2 : ¬ 80 < p.length := by omega
  simp [c_pone, n1, n2]
  refine callS_tree (pright_ok p hp (by simp only [tiny]; omega)) ?_ ?_ ?_
  · rfl
  · rfl
  simp

def c_pquot : MFunc := ⟨41, [.tmp 2, .tmp 3, .tmp 4], .seq (.region [⟨some 2, .mv (.c (.one .nil)), none⟩, ⟨some 3, .mv (.c (.one (.t (.int .i64 0)))), none⟩, ⟨some 4, .mv (.c (.one (.t (.int .i64 0)))), none⟩]) (.seq (.seq (.region [⟨some 10, .mv (.tmp 0), none⟩, ⟨some 11, .call (.c (.one (.fn 176 []))) 65 [.tmp 10], none⟩, ⟨some 5, .mv (.tmp 11), none⟩]) (.seq (.region [⟨some 12, .mv (.tmp 5), none⟩, ⟨some 13, .bin .neq (.tmp 12) (.c (.one (.t (.int .i64 0)))), none⟩]) (.cond (.tmp 13) (.seq (.region [⟨some 14, .mv (.tmp 5), none⟩, ⟨some 2, .mv (.c (.one .nil)), none⟩, ⟨some 3, .mv (.c (.one (.t (.int .i64 0)))), none⟩, ⟨some 4, .mv (.tmp 14), none⟩]) .ret) .skip))) (.seq (.region [⟨some 6, .mv (.c (.one .nil)), none⟩]) (.seq (.region [⟨some 7, .mv (.c (.one (.t (.int .i64 0)))), none⟩]) (.seq (.seq (.region [⟨some 15, .mv (.tmp 0), none⟩, ⟨some 16, .len (.tmp 15), none⟩, ⟨some 17, .mv (.c (.one (.t (.int .i64 0)))), none⟩]) (.block 0 (.loop (.seq (.region [⟨some 18, .bin .lss (.tmp 17) (.tmp 16), none⟩]) (.seq (.cond (.tmp 18) .skip (.exit 0)) (.seq (.block 1 (.seq (.region [⟨some 19, .mv (.tmp 17), none⟩, ⟨some 20, .idxA 1 (.tmp 15) (.tmp 17), none⟩, ⟨some 21, .load false 1 (.tmp 20), none⟩, ⟨some 8, .mv (.tmp 19), none⟩, ⟨some 9, .mv (.tmp 21), none⟩]) (.seq (.region [⟨some 22, .mv (.tmp 9), none⟩, ⟨some 23, .mv (.tmp 8), none⟩, ⟨some 24, .bin .eql (.tmp 22) (.tmp 23), none⟩]) (.cond (.tmp 24) (.seq (.region [⟨some 25, .mv (.tmp 6), none⟩, ⟨some 26, .mv (.tmp 7), none⟩, ⟨some 27, .mkrow 642 3 1 1 [.t (.int .i64 0)] [(0, (1, .tmp 26))], none⟩, ⟨some 28, .append 643 3 1 8 (.tmp 25) (.tmp 27), none⟩, ⟨some 6, .mv (.tmp 28), none⟩]) (.region [⟨some 29, .mv (.tmp 7), none⟩, ⟨some 30, .bin .add (.tmp 29) (.c (.one (.t (.int .i64 1)))), none⟩, ⟨some 7, .mv (.tmp 30), none⟩])) (.region [⟨some 31, .mv (.tmp 6), none⟩, ⟨some 32, .mv (.tmp 6), none⟩, ⟨some 33, .mv (.tmp 9), none⟩, ⟨some 34, .idxA 1 (.tmp 32) (.tmp 33), none⟩, ⟨some 35, .load false 1 (.tmp 34), none⟩, ⟨some 36, .mkrow 773 3 1 1 [.t (.int .i64 0)] [(0, (1, .tmp 35))], none⟩, ⟨some 37, .append 774 3 1 8 (.tmp 31) (.tmp 36), none⟩, ⟨some 6, .mv (.tmp 37), none⟩]))))) (.region [⟨some 38, .bin .add (.tmp 17) (.c (.one (.t (.int .i64 1)))), none⟩, ⟨some 17, .mv (.tmp 38), none⟩]))))))) (.seq (.region [⟨some 39, .mv (.tmp 6), none⟩, ⟨some 40, .mv (.tmp 7), none⟩, ⟨some 2, .mv (.tmp 39), none⟩, ⟨some 3, .mv (.tmp 40), none⟩, ⟨some 4, .mv (.c (.one (.t (.int .i64 0)))), none⟩]) .ret)))))⟩
theorem k_pquot : cFn Tryz.prog Tryz.f161 = some c_pquot := by kernel_rfl
theorem pquot_ok (p : List Int) (hp : Flat p) (hl : p.length ≤ 80) : CallOK Tryz.prog 161 [(false, [ints p])] (.tup [(false, [ints (quotL p)]), (false, [.int .i64 (clsN p p.length)]), (false, [.int .i64 0])]) := by
  refine callOK_W (callS_W (by kernel_rfl) Tryz.func161 k_pquot (callable_of Tryz.func161 (by kernel_rfl)) (by simp [c_pquot]) ?_)
  simp [c_pquot]
  refine callS_tree (pone_ok p hp hl) ?_ ?_ ?_
  · rfl
  · rfl
  simp
  refine loopW_count 17 p.length (fun k S => S.fr 15 = .one (.t (ints p)) ∧ S.fr 16 = .one (.t (.int .i64 p.length)) ∧ S.fr 7 = .one (.t (.int .i64 (clsN p k))) ∧ outL [643, 774] 3 1 (quotK p k).length ((quotK p k).map (.int .i64)) S.ob (S.fr 6)) (by omega) ?_ ?_ ?_
  · simp [clsN, quotK, outL_nil]
  · rintro k S hlt hw hc ⟨f15, f16, f7, ho⟩
    obtain ⟨x, hx, hle⟩ := hp.fo.at hlt
    have z := quotK_len (p := p) (k := k) (by omega)
    have zs := quotK_succ hlt
    rw [hx, Int.toNat_natCast] at zs
    by_cases e : x = k
    · subst e
      have c1 : clsN p (x + 1) = clsN p x + 1 := by simp only [clsN, if_pos hx]
      have cl := clsN_le (p := p) x
      have w1 : IntKind.i64.wrap ((clsN p x : Int) + 1) = ((clsN p x + 1 : Nat) : Int) := by rw [wrap64_id] <;> omega
      simp [f15, f16, f7, hc, hlt, hw, drop_nth hlt, hx]
      refine kApp_growL (nms := [643, 774]) (ts := [.int .i64 (clsN p x)]) (by simp) (by simp) (ho.keep fun nm hm g => by simp at hm; rcases hm with rfl | rfl <;> simp) rfl (by omega) (by omega) fun E hE hob hcnt => ?_
      simp [f15, f16, f7, hc, hw, w1, c1, zs]
      simpa using hE
    · have e' : ¬ (x : Int) = k := by omega
      have c1 : clsN p (k + 1) = clsN p k := by simp only [clsN, hx, if_neg e']
      have hxk : x < k := by omega
      have hfx := hp.fx k hlt
      rw [hx, Int.toNat_natCast] at hfx
      have hq : nth (quotK p k) x = (clsN p x : Nat) := by rw [quotK_nth hxk (by omega), hfx, Int.toNat_natCast]
      have hxq : x < (quotK p k).length := by omega
      have hxq1 : x + 1 ≤ (quotK p k).length := hxq
      have ho0 := ho
      rcases ho with ⟨a1, _, a3⟩ | ⟨a1, nm, hnm, ga, a3, a4⟩
      · omega
      · simp at hnm
        rcases hnm with rfl | rfl
        all_goals
          simp [f15, f16, f7, a3, a4, hc, hlt, hw, drop_nth hlt, hx, e', e, hxq, hxq1, drop_nthR hxq, hq]
          refine kApp_growL (nms := [643, 774]) (ts := [.int .i64 (clsN p x)]) (by simp) (by simp) (by rw [← a3]; exact ho0.keep fun nm hm g => by simp at hm; rcases hm with rfl | rfl <;> simp) rfl (by omega) (by omega) fun E hE hob hcnt => ?_
          simp [f15, f16, f7, hc, hw, c1, zs]
          simpa using hE
  · rintro S hc ⟨f15, f16, f7, ho⟩
    rw [quotK_all] at ho
    obtain ⟨u, hu⟩ := ho.one
    have et : ∀ fr cnt, treeCell ⟨fr, S.ob, cnt⟩ u = some (ints (quotL p)) := fun fr cnt => by
      rw [hu] at ho
      rcases ho with ⟨a1, _, a3⟩ | ⟨a1, nm, hnm, ga, a3, a4⟩
      · cases a3
        have : quotL p = [] := List.eq_nil_of_length_eq_zero a1
        rw [this]
        rfl
      · cases a3
        exact treeCell_row a4
    simp [f15, f16, f7, hc, hu, -treeCell, treeCell_t, et]

def c_valid02 : MFunc := ⟨40, [.tmp 2], .seq (.region [⟨some 2, .mv (.c (.one (.t (.bool false)))), none⟩]) (.seq (.seq (.region [⟨some 4, .mv (.tmp 0), none⟩, ⟨some 5, .len (.tmp 4), none⟩, ⟨some 6, .bin .gtr (.tmp 5) (.c (.one (.t (.int .i64 80)))), none⟩]) (.cond (.tmp 6) (.seq (.region [⟨some 2, .mv (.c (.one (.t (.bool false)))), none⟩]) .ret) .skip)) (.seq (.seq (.region [⟨some 3, .mv (.c (.one (.t (.int .i64 0)))), none⟩]) (.block 0 (.loop (.seq (.seq (.region [⟨some 7, .mv (.tmp 3), none⟩, ⟨some 8, .mv (.tmp 0), none⟩, ⟨some 9, .len (.tmp 8), none⟩, ⟨some 10, .bin .lss (.tmp 7) (.tmp 9), none⟩]) (.cond (.tmp 10) .skip (.exit 0))) (.seq (.block 1 (.seq (.draw [[], [], [0, 1], [2], [3], [4], [5], [5], [6, 7, 5], [8, 5], [5], [9, 10, 5], [5, 11], [12, 5], [13], [13], [13], [15, 16, 13], [17, 13], [14, 18, 13], [19, 13], [13], [13], [21, 22, 13], [23, 13], [20, 24, 13], [13, 25]] [⟨some 13, .mv (.tmp 0), none⟩, ⟨some 14, .mv (.tmp 3), none⟩, ⟨some 15, .idxA 1 (.tmp 13) (.tmp 14), none⟩, ⟨some 16, .load false 1 (.tmp 15), none⟩, ⟨some 17, .bin .lss (.tmp 16) (.c (.one (.t (.int .i64 0)))), none⟩, ⟨some 18, .mv (.tmp 17), none⟩, ⟨some 19, .mv (.tmp 0), some (18, false)⟩, ⟨some 20, .mv (.tmp 3), some (18, false)⟩, ⟨some 21, .idxA 1 (.tmp 19) (.tmp 20), some (18, false)⟩, ⟨some 22, .load false 1 (.tmp 21), some (18, false)⟩, ⟨some 23, .mv (.tmp 3), some (18, false)⟩, ⟨some 24, .bin .gtr (.tmp 22) (.tmp 23), some (18, false)⟩, ⟨some 25, .pick (.tmp 18) (.c (.one (.t (.bool true)))) (.tmp 24), none⟩, ⟨some 26, .mv (.tmp 25), none⟩, ⟨some 27, .mv (.tmp 0), some (26, false)⟩, ⟨some 28, .mv (.tmp 0), some (26, false)⟩, ⟨some 29, .mv (.tmp 3), some (26, false)⟩, ⟨some 30, .idxA 1 (.tmp 28) (.tmp 29), some (26, false)⟩, ⟨some 31, .load false 1 (.tmp 30), some (26, false)⟩, ⟨some 32, .idxA 1 (.tmp 27) (.tmp 31), some (26, false)⟩, ⟨some 33, .load false 1 (.tmp 32), some (26, false)⟩, ⟨some 34, .mv (.tmp 0), some (26, false)⟩, ⟨some 35, .mv (.tmp 3), some (26, false)⟩, ⟨some 36, .idxA 1 (.tmp 34) (.tmp 35), some (26, false)⟩, ⟨some 37, .load false 1 (.tmp 36), some (26, false)⟩, ⟨some 38, .bin .neq (.tmp 33) (.tmp 37), some (26, false)⟩, ⟨some 39, .pick (.tmp 26) (.c (.one (.t (.bool true)))) (.tmp 38), none⟩]) (.cond (.tmp 39) (.seq (.region [⟨some 2, .mv (.c (.one (.t (.bool false)))), none⟩]) .ret) .skip))) (.region [⟨some 11, .mv (.tmp 3), none⟩, ⟨some 12, .bin .add (.tmp 11) (.c (.one (.t (.int .i64 1)))), none⟩, ⟨some 3, .mv (.tmp 12), none⟩])))))) (.seq (.region [⟨some 2, .mv (.c (.one (.t (.bool true)))), none⟩]) .ret)))⟩
theorem k_valid02 : cFn Tryz.prog Tryz.f171 = some c_valid02 := by kernel_rfl
theorem valid02_ok (p : List Int) (hp : Flat p) (hl : p.length ≤ 80) : CallOK Tryz.prog 171 [(false, [ints p])] (.sv (false, [.bool true])) := by
  refine callOK_W (callS_W (by kernel_rfl) Tryz.func171 k_valid02 (callable_of Tryz.func171 (by kernel_rfl)) (by simp [c_valid02]) ?_)
  have n1 : ¬ (80 : Int) < p.length := by omega
  have n2 : ¬ 80 < p.length := by omega
  simp [c_valid02, n1, n2]
  refine loopW_count 3 p.length (fun k S => S.fr 0 = .one (.t (ints p))) (by omega) ?_ ?_ ?_
  · simp
  · rintro k S hlt hw hc f0
    obtain ⟨x, hx, hle⟩ := hp.fo.at hlt
    have h2 := hp.fx k hlt
    rw [hx, Int.toNat_natCast] at h2
    have n1 : ¬ k < x := by omega
    have hx2 : x < p.length := by omega
    simp [dw0, dw1, dw2, dw3, f0, hc, hlt, hw, drop_nth hlt, hx, n1, hx2, drop_nth hx2, h2]
    rfl
  · rintro S hc f0
    simp [f0, hc]

def c_one02 : MFunc := ⟨9, [.tmp 2], .seq (.region [⟨some 2, .mv (.c (.one (.t (.int .i64 0)))), none⟩]) (.seq (.seq (.region [⟨some 3, .mv (.tmp 0), none⟩, ⟨some 4, .len (.tmp 3), none⟩, ⟨some 5, .bin .gtr (.tmp 4) (.c (.one (.t (.int .i64 80)))), none⟩]) (.cond (.tmp 5) (.seq (.region [⟨some 2, .mv (.c (.one (.t (.int .i64 3)))), none⟩]) .ret) .skip)) (.seq (.seq (.region [⟨some 6, .mv (.tmp 0), none⟩, ⟨some 7, .call (.c (.one (.fn 171 []))) 193 [.tmp 6], none⟩, ⟨some 8, .not (.tmp 7), none⟩]) (.cond (.tmp 8) (.seq (.region [⟨some 2, .mv (.c (.one (.t (.int .i64 1)))), none⟩]) .ret) .skip)) (.seq (.region [⟨some 2, .mv (.c (.one (.t (.int .i64 0)))), none⟩]) .ret)))⟩
theorem k_one02 : cFn Tryz.prog Tryz.f151 = some c_one02 := by kernel_rfl
theorem one02_ok (p : List Int) (hp : Flat p) (hl : p.length ≤ 80) : CallOK Tryz.prog 151 [(false, [ints p])] (.sv (false, [.int .i64 0])) := by
  refine callOK_W (callS_W (by kernel_rfl) Tryz.func151 k_one02 (callable_of Tryz.func151 (by kernel_rfl)) (by simp [c_one02]) ?_)
  have n1 : ¬ (80 : Int) < p.length := by omega
  have n2 : ¬ 80 < p.length := by omega
  simp [c_one02, n1, n2]
  refine callS_tree (valid02_ok p hp hl) ?_ ?_ ?_
  · rfl
  · rfl
  simp

def c_quot02 : MFunc := ⟨44, [.tmp 2, .tmp 3, .tmp 4], .seq (.region [⟨some 2, .mv (.c (.one .nil)), none⟩, ⟨some 3, .mv (.c (.one (.t (.int .i64 0)))), none⟩, ⟨some 4, .mv (.c (.one (.t (.int .i64 0)))), none⟩]) (.seq (.seq (.region [⟨some 9, .mv (.tmp 0), none⟩, ⟨some 10, .call (.c (.one (.fn 151 []))) 65 [.tmp 9], none⟩, ⟨some 5, .mv (.tmp 10), none⟩]) (.seq (.region [⟨some 11, .mv (.tmp 5), none⟩, ⟨some 12, .bin .neq (.tmp 11) (.c (.one (.t (.int .i64 0)))), none⟩]) (.cond (.tmp 12) (.seq (.region [⟨some 13, .mv (.tmp 5), none⟩, ⟨some 2, .mv (.c (.one .nil)), none⟩, ⟨some 3, .mv (.c (.one (.t (.int .i64 0)))), none⟩, ⟨some 4, .mv (.tmp 13), none⟩]) .ret) .skip))) (.seq (.region [⟨some 6, .mv (.c (.one .nil)), none⟩]) (.seq (.region [⟨some 7, .mv (.c (.one (.t (.int .i64 0)))), none⟩]) (.seq (.seq (.region [⟨some 8, .mv (.c (.one (.t (.int .i64 0)))), none⟩]) (.block 0 (.loop (.seq (.seq (.region [⟨some 14, .mv (.tmp 8), none⟩, ⟨some 15, .mv (.tmp 0), none⟩, ⟨some 16, .len (.tmp 15), none⟩, ⟨some 17, .bin .lss (.tmp 14) (.tmp 16), none⟩]) (.cond (.tmp 17) .skip (.exit 0))) (.seq (.block 1 (.seq (.region [⟨some 20, .mv (.tmp 0), none⟩, ⟨some 21, .mv (.tmp 8), none⟩, ⟨some 22, .idxA 1 (.tmp 20) (.tmp 21), none⟩, ⟨some 23, .load false 1 (.tmp 22), none⟩, ⟨some 24, .mv (.tmp 8), none⟩, ⟨some 25, .bin .eql (.tmp 23) (.tmp 24), none⟩]) (.cond (.tmp 25) (.seq (.region [⟨some 26, .mv (.tmp 6), none⟩, ⟨some 27, .mv (.tmp 7), none⟩, ⟨some 28, .mkrow 642 3 1 1 [.t (.int .i64 0)] [(0, (1, .tmp 27))], none⟩, ⟨some 29, .append 643 3 1 8 (.tmp 26) (.tmp 28), none⟩, ⟨some 6, .mv (.tmp 29), none⟩]) (.region [⟨some 30, .mv (.tmp 7), none⟩, ⟨some 31, .bin .add (.tmp 30) (.c (.one (.t (.int .i64 1)))), none⟩, ⟨some 7, .mv (.tmp 31), none⟩])) (.region [⟨some 32, .mv (.tmp 6), none⟩, ⟨some 33, .mv (.tmp 6), none⟩, ⟨some 34, .mv (.tmp 0), none⟩, ⟨some 35, .mv (.tmp 8), none⟩, ⟨some 36, .idxA 1 (.tmp 34) (.tmp 35), none⟩, ⟨some 37, .load false 1 (.tmp 36), none⟩, ⟨some 38, .idxA 1 (.tmp 33) (.tmp 37), none⟩, ⟨some 39, .load false 1 (.tmp 38), none⟩, ⟨some 40, .mkrow 776 3 1 1 [.t (.int .i64 0)] [(0, (1, .tmp 39))], none⟩, ⟨some 41, .append 777 3 1 8 (.tmp 32) (.tmp 40), none⟩, ⟨some 6, .mv (.tmp 41), none⟩])))) (.region [⟨some 18, .mv (.tmp 8), none⟩, ⟨some 19, .bin .add (.tmp 18) (.c (.one (.t (.int .i64 1)))), none⟩, ⟨some 8, .mv (.tmp 19), none⟩])))))) (.seq (.region [⟨some 42, .mv (.tmp 6), none⟩, ⟨some 43, .mv (.tmp 7), none⟩, ⟨some 2, .mv (.tmp 42), none⟩, ⟨some 3, .mv (.tmp 43), none⟩, ⟨some 4, .mv (.c (.one (.t (.int .i64 0)))), none⟩]) .ret)))))⟩
theorem k_quot02 : cFn Tryz.prog Tryz.f111 = some c_quot02 := by kernel_rfl
theorem quot02_ok (p : List Int) (hp : Flat p) (hl : p.length ≤ 80) : CallOK Tryz.prog 111 [(false, [ints p])] (.tup [(false, [ints (quotL p)]), (false, [.int .i64 (clsN p p.length)]), (false, [.int .i64 0])]) := by
  refine callOK_W (callS_W (by kernel_rfl) Tryz.func111 k_quot02 (callable_of Tryz.func111 (by kernel_rfl)) (by simp [c_quot02]) ?_)
  simp [c_quot02]
  refine callS_tree (one02_ok p hp hl) ?_ ?_ ?_
  · rfl
  · rfl
  simp
  refine loopW_count 8 p.length (fun k S => S.fr 0 = .one (.t (ints p)) ∧ S.fr 7 = .one (.t (.int .i64 (clsN p k))) ∧ outL [643, 777] 3 1 (quotK p k).length ((quotK p k).map (.int .i64)) S.ob (S.fr 6)) (by omega) ?_ ?_ ?_
  · simp [clsN, quotK, outL_nil]
  · rintro k S hlt hw hc ⟨f0, f7, ho⟩
    obtain ⟨x, hx, hle⟩ := hp.fo.at hlt
    have z := quotK_len (p := p) (k := k) (by omega)
    have zs := quotK_succ hlt
    rw [hx, Int.toNat_natCast] at zs
    by_cases e : x = k
    · subst e
      have c1 : clsN p (x + 1) = clsN p x + 1 := by simp only [clsN, if_pos hx]
      have cl := clsN_le (p := p) x
      have w1 : IntKind.i64.wrap ((clsN p x : Int) + 1) = ((clsN p x + 1 : Nat) : Int) := by rw [wrap64_id] <;> omega
      simp [f0, f7, hc, hlt, hw, drop_nth hlt, hx]
      refine kApp_growL (nms := [643, 777]) (ts := [.int .i64 (clsN p x)]) (by simp) (by simp) (ho.keep fun nm hm g => by simp at hm; rcases hm with rfl | rfl <;> simp) rfl (by omega) (by omega) fun E hE hob hcnt => ?_
      simp [f0, f7, hc, hw, w1, c1, zs]
      simpa using hE
    · have e' : ¬ (x : Int) = k := by omega
      have c1 : clsN p (k + 1) = clsN p k := by simp only [clsN, hx, if_neg e']
      have hxk : x < k := by omega
      have hfx := hp.fx k hlt
      rw [hx, Int.toNat_natCast] at hfx
      have hq : nth (quotK p k) x = (clsN p x : Nat) := by rw [quotK_nth hxk (by omega), hfx, Int.toNat_natCast]
      have hxq : x < (quotK p k).length := by omega
      have hxq1 : x + 1 ≤ (quotK p k).length := hxq
      have ho0 := ho
      rcases ho with ⟨a1, _, a3⟩ | ⟨a1, nm, hnm, ga, a3, a4⟩
      · omega
      · simp at hnm
        rcases hnm with rfl | rfl
        all_goals
          simp [f0, f7, a3, a4, hc, hlt, hw, drop_nth hlt, hx, e', e, hxq, hxq1, drop_nthR hxq, hq]
          refine kApp_growL (nms := [643, 777]) (ts := [.int .i64 (clsN p x)]) (by simp) (by simp) (by rw [← a3]; exact ho0.keep fun nm hm g => by simp at hm; rcases hm with rfl | rfl <;> simp) rfl (by omega) (by omega) fun E hE hob hcnt => ?_
          simp [f0, f7, hc, hw, c1, zs]
          simpa using hE
  · rintro S hc ⟨f0, f7, ho⟩
    rw [quotK_all] at ho
    obtain ⟨u, hu⟩ := ho.one
    have et : ∀ fr cnt, treeCell ⟨fr, S.ob, cnt⟩ u = some (ints (quotL p)) := fun fr cnt => by
      rw [hu] at ho
      rcases ho with ⟨a1, _, a3⟩ | ⟨a1, nm, hnm, ga, a3, a4⟩
      · cases a3
        have : quotL p = [] := List.eq_nil_of_length_eq_zero a1
        rw [this]
        rfl
      · cases a3
        exact treeCell_row a4
    simp [f0, f7, hc, hu, -treeCell, treeCell_t, et]

theorem idL_succ {n : Nat} : idL (n + 1) = idL n ++ [(n : Int)] := by simp [idL, List.range_succ]

def c_finest02 : MFunc := ⟨15, [.tmp 2], .seq (.region [⟨some 2, .mv (.c (.one .nil)), none⟩]) (.seq (.region [⟨some 3, .mv (.c (.one .nil)), none⟩]) (.seq (.seq (.region [⟨some 4, .mv (.c (.one (.t (.int .i64 0)))), none⟩]) (.block 0 (.loop (.seq (.seq (.region [⟨some 5, .mv (.tmp 4), none⟩, ⟨some 6, .mv (.tmp 0), none⟩, ⟨some 7, .bin .lss (.tmp 5) (.tmp 6), none⟩]) (.cond (.tmp 7) .skip (.exit 0))) (.seq (.block 1 (.region [⟨some 10, .mv (.tmp 3), none⟩, ⟨some 11, .mv (.tmp 4), none⟩, ⟨some 12, .mkrow 322 3 1 1 [.t (.int .i64 0)] [(0, (1, .tmp 11))], none⟩, ⟨some 13, .append 323 3 1 8 (.tmp 10) (.tmp 12), none⟩, ⟨some 3, .mv (.tmp 13), none⟩])) (.region [⟨some 8, .mv (.tmp 4), none⟩, ⟨some 9, .bin .add (.tmp 8) (.c (.one (.t (.int .i64 1)))), none⟩, ⟨some 4, .mv (.tmp 9), none⟩])))))) (.seq (.region [⟨some 14, .mv (.tmp 3), none⟩, ⟨some 2, .mv (.tmp 14), none⟩]) .ret)))⟩
theorem k_finest02 : cFn Tryz.prog Tryz.f105 = some c_finest02 := by kernel_rfl
theorem finest02_row (n : Nat) (hn : tiny n) : RowI Tryz.prog 105 [(false, [.int .i64 n])] 3 (idL n) := by
  refine callRow_W (plain_ints _) (by simp) (by omega) (callS_W (by kernel_rfl) Tryz.func105 k_finest02 (callable_of Tryz.func105 (by kernel_rfl)) (by simp [c_finest02]) ?_)
  simp [c_finest02]
  refine loopW_count 4 n (fun k S => S.fr 0 = .one (.t (.int .i64 n)) ∧ outR 323 3 1 (idL k).length ((idL k).map (.int .i64)) S.ob (S.fr 3)) hn.small ?_ ?_ ?_
  · simp [idL, outR_nil]
  · rintro k S hlt hw hc ⟨f0, ho⟩
    have z := idL_len (n := k)
    simp only [tiny] at hn
    simp [f0, hc, hlt]
    refine kApp_grow (ts := [.int .i64 k]) (by simp) (ho.keep fun g => by simp) (by omega) rfl (by omega) (by omega) fun E hE hob hcnt => ?_
    simp [f0, hc, hw, idL_succ]
    simpa using hE
  · rintro S hc ⟨f0, ho⟩
    obtain ⟨u, hu⟩ := ho.one
    rw [hu] at ho
    simp [f0, hc, hu]
    exact ho.rowIs

def mergeK (p : List Int) (a b k : Nat) : List Int := (p.take k).map fun x => if x = max (nth p a) (nth p b) then min (nth p a) (nth p b) else x
theorem mergeK_succ {p : List Int} {a b k : Nat} (h : k < p.length) : mergeK p a b (k + 1) = mergeK p a b k ++ [if nth p k = max (nth p a) (nth p b) then min (nth p a) (nth p b) else nth p k] := by
  rw [mergeK, take_succ_nth' h]
  simp [mergeK]
theorem mergeK_all {p : List Int} {a b : Nat} : mergeK p a b p.length = mergeL p a b := by simp [mergeK, mergeL]
theorem mergeK_len {p : List Int} {a b k : Nat} : (mergeK p a b k).length ≤ p.length := by simp [mergeK]; omega

def c_merge02 : MFunc := ⟨49, [.tmp 6], .seq (.region [⟨some 6, .mv (.c (.one .nil)), none⟩]) (.seq (.draw [[], [], [0, 1], [2], [], [], [4, 5], [6], [3, 7], [], [], [9, 10], [11], [], [], [13, 14], [15], [12, 16], [8, 0, 1, 2, 3, 4, 5, 6, 7, 8], [17, 18, 0, 1, 2, 3, 4, 5, 6, 7, 8, 9, 10, 11, 12, 13, 14, 15, 16, 17, 18]] [⟨some 12, .mv (.tmp 0), none⟩, ⟨some 13, .mv (.tmp 1), none⟩, ⟨some 14, .idxA 1 (.tmp 12) (.tmp 13), none⟩, ⟨some 15, .load false 1 (.tmp 14), none⟩, ⟨some 16, .mv (.tmp 0), none⟩, ⟨some 17, .mv (.tmp 2), none⟩, ⟨some 18, .idxA 1 (.tmp 16) (.tmp 17), none⟩, ⟨some 19, .load false 1 (.tmp 18), none⟩, ⟨some 20, .minmax false (.tmp 15) (.tmp 19), none⟩, ⟨some 21, .mv (.tmp 0), none⟩, ⟨some 22, .mv (.tmp 1), none⟩, ⟨some 23, .idxA 1 (.tmp 21) (.tmp 22), none⟩, ⟨some 24, .load false 1 (.tmp 23), none⟩, ⟨some 25, .mv (.tmp 0), none⟩, ⟨some 26, .mv (.tmp 2), none⟩, ⟨some 27, .idxA 1 (.tmp 25) (.tmp 26), none⟩, ⟨some 28, .load false 1 (.tmp 27), none⟩, ⟨some 29, .minmax true (.tmp 24) (.tmp 28), none⟩, ⟨some 7, .mv (.tmp 20), none⟩, ⟨some 8, .mv (.tmp 29), none⟩]) (.seq (.region [⟨some 9, .mv (.c (.one .nil)), none⟩]) (.seq (.seq (.region [⟨some 10, .mv (.c (.one (.t (.int .i64 0)))), none⟩]) (.block 0 (.loop (.seq (.seq (.region [⟨some 30, .mv (.tmp 10), none⟩, ⟨some 31, .mv (.tmp 0), none⟩, ⟨some 32, .len (.tmp 31), none⟩, ⟨some 33, .bin .lss (.tmp 30) (.tmp 32), none⟩]) (.cond (.tmp 33) .skip (.exit 0))) (.seq (.block 1 (.seq (.region [⟨some 36, .mv (.tmp 0), none⟩, ⟨some 37, .mv (.tmp 10), none⟩, ⟨some 38, .idxA 1 (.tmp 36) (.tmp 37), none⟩, ⟨some 39, .load false 1 (.tmp 38), none⟩, ⟨some 11, .mv (.tmp 39), none⟩]) (.seq (.seq (.region [⟨some 40, .mv (.tmp 11), none⟩, ⟨some 41, .mv (.tmp 8), none⟩, ⟨some 42, .bin .eql (.tmp 40) (.tmp 41), none⟩]) (.cond (.tmp 42) (.region [⟨some 43, .mv (.tmp 7), none⟩, ⟨some 11, .mv (.tmp 43), none⟩]) .skip)) (.region [⟨some 44, .mv (.tmp 9), none⟩, ⟨some 45, .mv (.tmp 11), none⟩, ⟨some 46, .mkrow 578 3 1 1 [.t (.int .i64 0)] [(0, (1, .tmp 45))], none⟩, ⟨some 47, .append 579 3 1 8 (.tmp 44) (.tmp 46), none⟩, ⟨some 9, .mv (.tmp 47), none⟩])))) (.region [⟨some 34, .mv (.tmp 10), none⟩, ⟨some 35, .bin .add (.tmp 34) (.c (.one (.t (.int .i64 1)))), none⟩, ⟨some 10, .mv (.tmp 35), none⟩])))))) (.seq (.region [⟨some 48, .mv (.tmp 9), none⟩, ⟨some 6, .mv (.tmp 48), none⟩]) .ret))))⟩
theorem k_merge02 : cFn Tryz.prog Tryz.f110 = some c_merge02 := by kernel_rfl
theorem merge02_row (p : List Int) (a b : Nat) (ha : a < p.length) (hb : b < p.length) (hl : tiny p.length) : RowI Tryz.prog 110 [(false, [ints p]), (false, [.int .i64 a]), (false, [.int .i64 b])] 3 (mergeL p a b) := by
  refine callRow_W (plain_ints _) (by simp) (by omega) (callS_W (by kernel_rfl) Tryz.func110 k_merge02 (callable_of Tryz.func110 (by kernel_rfl)) (by simp [c_merge02]) ?_)
  simp [c_merge02, dw0, dw1, dw2, dw3, ha, hb, drop_nth ha, drop_nth hb]
  refine ⟨rfl, ?_⟩
  refine loopW_count 10 p.length (fun k S => S.fr 0 = .one (.t (ints p)) ∧ S.fr 7 = .one (.t (.int .i64 (min (nth p a) (nth p b)))) ∧ S.fr 8 = .one (.t (.int .i64 (max (nth p a) (nth p b)))) ∧ outR 579 3 1 (mergeK p a b k).length ((mergeK p a b k).map (.int .i64)) S.ob (S.fr 9)) hl.small ?_ ?_ ?_
  · simp [mergeK, outR_nil]
  · rintro k S hlt hw hc ⟨f0, f7, f8, ho⟩
    have z := mergeK_len (p := p) (a := a) (b := b) (k := k)
    have zs := mergeK_succ (a := a) (b := b) hlt
    simp only [tiny] at hl
    by_cases e : nth p k = max (nth p a) (nth p b)
    · rw [if_pos e] at zs
      simp [f0, f7, f8, hc, hlt, drop_nth hlt, e]
      refine kApp_grow (ts := [.int .i64 (min (nth p a) (nth p b))]) (by simp) (ho.keep fun g => by simp) (by omega) rfl (by omega) (by omega) fun E hE hob hcnt => ?_
      simp [f0, f7, f8, hc, hw, zs]
      simpa using hE
    · rw [if_neg e] at zs
      simp [f0, f7, f8, hc, hlt, drop_nth hlt, e]
      refine kApp_grow (ts := [.int .i64 (nth p k)]) (by simp) (ho.keep fun g => by simp) (by omega) rfl (by omega) (by omega) fun E hE hob hcnt => ?_
      simp [f0, f7, f8, hc, hw, zs]
      simpa using hE
  · rintro S hc ⟨f0, f7, f8, ho⟩
    obtain ⟨u, hu⟩ := ho.one
    rw [hu, mergeK_all] at ho
    simp [f0, f7, f8, hc, hu]
    exact ho.rowIs
end Go.Proofs.YthcnpnogfblkcaaGreat

/- Contracts: the disjoint union of graphs; the pairs that a span identifies. -/
namespace Go.Proofs.YthcnpnogfblkcaaGreat
open Abs
set_option linter.unusedSimpArgs false
set_option linter.unusedVariables false
attribute [local simp] rn0 rn1 rn2 rn3 rn4 rn5 rn6 rn7 evOp nests Arg.ev St.val St.set St.new sliceOf binInt2 binInt AV.cells rdAt St.live retOf resOf resAll treeOf treeCell treeCells treeTups untree frameOf TV.av TR.av ints edgs prs fillV splice intsOf trees V1.tree bx Gr.v Pa.v opRd opWr opNew opNewR opArgs argsRd argRd Arg.rd AV.refs V1.refs refsL dstL

def shiftE (n : Nat) (e : Ed) : Ed := ⟨e.t, e.f + n, e.g + n⟩
/-- The disjoint union. -/
def unG (a b : Gr) : Gr := ⟨a.nodes ++ b.nodes, a.edges ++ b.edges.map (shiftE a.nodes.length)⟩
def unBig (a b : Gr) : Prop := 40 < a.nodes.length + b.nodes.length ∨ 80 < a.edges.length + b.edges.length
instance (a b : Gr) : Decidable (unBig a b) := inferInstanceAs (Decidable (_ ∨ _))
def unErr (a b : Gr) : Int := if gErr a = 0 then if gErr b = 0 then if unBig a b then 3 else 0 else gErr b else gErr a
def unL (a : Gr) : Pa := ⟨numL 0 a.nodes.length, numL 0 a.edges.length⟩
def unR (a b : Gr) : Pa := ⟨numL a.nodes.length b.nodes.length, numL a.edges.length b.edges.length⟩
def unT (a b : Gr) : TR := if unErr a b = 0 then .tup [(unG a b).v, (unL a).v, (unR a b).v, (false, [.int .i64 0])] else .tup [Gr.v ⟨[], []⟩, Pa.v ⟨[], []⟩, Pa.v ⟨[], []⟩, (false, [.int .i64 (unErr a b)])]

def unE (a b : Gr) (k : Nat) : List Ed := a.edges ++ (b.edges.take k).map (shiftE a.nodes.length)
theorem unE_zero {a b : Gr} : unE a b 0 = a.edges := by simp [unE]
theorem unE_succ {a b : Gr} {k : Nat} (h : k < b.edges.length) : unE a b (k + 1) = unE a b k ++ [shiftE a.nodes.length (eth b.edges k)] := by
  rw [unE, List.take_succ_eq_append_getElem h, eth_eq h, List.map_append, ← List.append_assoc]
  rfl
theorem unE_all {a b : Gr} : unE a b b.edges.length = (unG a b).edges := by simp [unE, unG]
theorem unE_len {a b : Gr} {k : Nat} : (unE a b k).length ≤ a.edges.length + b.edges.length := by simp [unE]; omega

def c_gunion : MFunc := ⟨111, [.cell 4 true 2, .cell 5 true 2, .cell 6 true 2, .tmp 7], .seq (.region [⟨some 2, .box 0 25 (.tmp 0), none⟩, ⟨some 3, .box 1 25 (.tmp 1), none⟩, ⟨some 4, .alloc 2 25 [.nil, .nil], none⟩, ⟨some 5, .alloc 3 27 [.nil, .nil], none⟩, ⟨some 6, .alloc 4 27 [.nil, .nil], none⟩, ⟨some 7, .mv (.c (.one (.t (.int .i64 0)))), none⟩]) (.seq (.seq (.region [⟨some 18, .load true 2 (.tmp 2), none⟩, ⟨some 19, .load true 2 (.tmp 3), none⟩, ⟨some 20, .mkrow 66 25 2 2 [.nil, .nil, .nil, .nil] [(0, (2, .tmp 18)), (2, (2, .tmp 19))], none⟩, ⟨some 21, .len (.tmp 20), none⟩, ⟨some 22, .mv (.c (.one (.t (.int .i64 0)))), none⟩]) (.block 0 (.loop (.seq (.region [⟨some 23, .bin .lss (.tmp 22) (.tmp 21), none⟩]) (.seq (.cond (.tmp 23) .skip (.exit 0)) (.seq (.block 1 (.seq (.region [⟨some 24, .idxA 2 (.tmp 20) (.tmp 22), none⟩, ⟨some 25, .load true 2 (.tmp 24), none⟩, ⟨some 9, .alloc 194 25 [.nil, .nil], none⟩, ⟨none, .store 2 (.tmp 9) (.tmp 25), none⟩]) (.seq (.region [⟨some 26, .load true 2 (.tmp 9), none⟩, ⟨some 27, .call (.c (.one (.fn 82 []))) 257 [.tmp 26], none⟩, ⟨some 10, .mv (.tmp 27), none⟩]) (.seq (.region [⟨some 28, .mv (.tmp 10), none⟩, ⟨some 29, .bin .neq (.tmp 28) (.c (.one (.t (.int .i64 0)))), none⟩]) (.cond (.tmp 29) (.seq (.region [⟨some 30, .build [.nil, .nil] [], none⟩, ⟨some 31, .build [.nil, .nil] [], none⟩, ⟨some 32, .build [.nil, .nil] [], none⟩, ⟨some 33, .mv (.tmp 10), none⟩, ⟨none, .store 2 (.tmp 4) (.tmp 30), none⟩, ⟨none, .store 2 (.tmp 5) (.tmp 31), none⟩, ⟨none, .store 2 (.tmp 6) (.tmp 32), none⟩, ⟨some 7, .mv (.tmp 33), none⟩]) .ret) .skip))))) (.region [⟨some 34, .bin .add (.tmp 22) (.c (.one (.t (.int .i64 1)))), none⟩, ⟨some 22, .mv (.tmp 34), none⟩]))))))) (.seq (.draw [[], [0], [1], [], [3], [4], [2, 0, 1, 2], [5, 6, 0, 1, 2, 3, 4, 5, 6]] [⟨some 35, .fieldA 0 (.tmp 2), none⟩, ⟨some 36, .load false 1 (.tmp 35), none⟩, ⟨some 37, .len (.tmp 36), none⟩, ⟨some 38, .fieldA 1 (.tmp 2), none⟩, ⟨some 39, .load false 1 (.tmp 38), none⟩, ⟨some 40, .len (.tmp 39), none⟩, ⟨some 11, .mv (.tmp 37), none⟩, ⟨some 12, .mv (.tmp 40), none⟩]) (.seq (.seq (.region [⟨some 41, .mv (.tmp 11), none⟩, ⟨some 42, .fieldA 0 (.tmp 3), none⟩, ⟨some 43, .load false 1 (.tmp 42), none⟩, ⟨some 44, .len (.tmp 43), none⟩, ⟨some 45, .bin .add (.tmp 41) (.tmp 44), none⟩, ⟨some 46, .bin .gtr (.tmp 45) (.c (.one (.t (.int .i64 40)))), none⟩, ⟨some 47, .mv (.tmp 46), none⟩, ⟨some 48, .mv (.tmp 12), some (47, false)⟩, ⟨some 49, .fieldA 1 (.tmp 3), some (47, false)⟩, ⟨some 50, .load false 1 (.tmp 49), some (47, false)⟩, ⟨some 51, .len (.tmp 50), some (47, false)⟩, ⟨some 52, .bin .add (.tmp 48) (.tmp 51), some (47, false)⟩, ⟨some 53, .bin .gtr (.tmp 52) (.c (.one (.t (.int .i64 80)))), some (47, false)⟩, ⟨some 54, .pick (.tmp 47) (.c (.one (.t (.bool true)))) (.tmp 53), none⟩]) (.cond (.tmp 54) (.seq (.region [⟨some 55, .build [.nil, .nil] [], none⟩, ⟨some 56, .build [.nil, .nil] [], none⟩, ⟨some 57, .build [.nil, .nil] [], none⟩, ⟨none, .store 2 (.tmp 4) (.tmp 55), none⟩, ⟨none, .store 2 (.tmp 5) (.tmp 56), none⟩, ⟨none, .store 2 (.tmp 6) (.tmp 57), none⟩, ⟨some 7, .mv (.c (.one (.t (.int .i64 3)))), none⟩]) .ret) .skip)) (.seq (.draw [[], [0], [], [2], [1, 3], [4], [], [6], [7, 5], [5, 8], [], [10, 9, 8, 0, 1, 2, 3, 4, 5, 6, 7, 8, 9, 10]] [⟨some 58, .fieldA 0 (.tmp 2), none⟩, ⟨some 59, .load false 1 (.tmp 58), none⟩, ⟨some 60, .fieldA 0 (.tmp 3), none⟩, ⟨some 61, .load false 1 (.tmp 60), none⟩, ⟨some 62, .mkrow 708 22 1 2 [.nil, .nil] [(0, (1, .tmp 59)), (1, (1, .tmp 61))], none⟩, ⟨some 63, .call (.c (.one (.fn 158 []))) 709 [.tmp 62], none⟩, ⟨some 64, .fieldA 1 (.tmp 2), none⟩, ⟨some 65, .load false 1 (.tmp 64), none⟩, ⟨some 66, .call (.c (.one (.fn 86 []))) 712 [.tmp 65], none⟩, ⟨some 67, .build [.nil, .nil] [(0, (1, .tmp 63)), (1, (1, .tmp 66))], none⟩, ⟨some 13, .alloc 714 25 [.nil, .nil], none⟩, ⟨none, .store 2 (.tmp 13) (.tmp 67), none⟩]) (.seq (.seq (.region [⟨some 68, .fieldA 1 (.tmp 3), none⟩, ⟨some 69, .load false 1 (.tmp 68), none⟩, ⟨some 70, .len (.tmp 69), none⟩, ⟨some 71, .mv (.c (.one (.t (.int .i64 0)))), none⟩]) (.block 2 (.loop (.seq (.region [⟨some 72, .bin .lss (.tmp 71) (.tmp 70), none⟩]) (.seq (.cond (.tmp 72) .skip (.exit 2)) (.seq (.block 3 (.seq (.region [⟨some 73, .idxA 3 (.tmp 69) (.tmp 71), none⟩, ⟨some 74, .load true 3 (.tmp 73), none⟩, ⟨some 15, .alloc 898 76 [.t (.int .i64 0), .t (.int .i64 0), .t (.int .i64 0)], none⟩, ⟨none, .store 3 (.tmp 15) (.tmp 74), none⟩]) (.region [⟨some 75, .fieldA 1 (.tmp 13), none⟩, ⟨some 76, .load false 1 (.tmp 75), none⟩, ⟨some 77, .fieldA 0 (.tmp 15), none⟩, ⟨some 78, .load false 1 (.tmp 77), none⟩, ⟨some 79, .fieldA 1 (.tmp 15), none⟩, ⟨some 80, .load false 1 (.tmp 79), none⟩, ⟨some 81, .mv (.tmp 11), none⟩, ⟨some 82, .bin .add (.tmp 80) (.tmp 81), none⟩, ⟨some 83, .fieldA 2 (.tmp 15), none⟩, ⟨some 84, .load false 1 (.tmp 83), none⟩, ⟨some 85, .mv (.tmp 11), none⟩, ⟨some 86, .bin .add (.tmp 84) (.tmp 85), none⟩, ⟨some 87, .build [.t (.int .i64 0), .t (.int .i64 0), .t (.int .i64 0)] [(0, (1, .tmp 78)), (1, (1, .tmp 82)), (2, (1, .tmp 86))], none⟩, ⟨some 88, .mkrow 973 76 3 1 [.t (.int .i64 0), .t (.int .i64 0), .t (.int .i64 0)] [(0, (3, .tmp 87))], none⟩, ⟨some 89, .append 974 76 3 24 (.tmp 76) (.tmp 88), none⟩, ⟨some 90, .fieldA 1 (.tmp 13), none⟩, ⟨none, .store 1 (.tmp 90) (.tmp 89), none⟩]))) (.region [⟨some 91, .bin .add (.tmp 71) (.c (.one (.t (.int .i64 1)))), none⟩, ⟨some 71, .mv (.tmp 91), none⟩]))))))) (.seq (.region [⟨some 92, .mv (.tmp 11), none⟩, ⟨some 93, .call (.c (.one (.fn 159 []))) 1089 [.c (.one (.t (.int .i64 0))), .tmp 92], none⟩, ⟨some 94, .mv (.tmp 12), none⟩, ⟨some 95, .call (.c (.one (.fn 159 []))) 1091 [.c (.one (.t (.int .i64 0))), .tmp 94], none⟩, ⟨some 96, .build [.nil, .nil] [(0, (1, .tmp 93)), (1, (1, .tmp 95))], none⟩, ⟨some 16, .alloc 1093 27 [.nil, .nil], none⟩, ⟨none, .store 2 (.tmp 16) (.tmp 96), none⟩]) (.seq (.draw [[], [], [1], [2], [0, 3], [], [], [6], [7], [5, 8, 4], [4, 9], [], [11, 10, 9, 0, 1, 2, 3, 4, 5, 6, 7, 8, 9, 10, 11]] [⟨some 97, .mv (.tmp 11), none⟩, ⟨some 98, .fieldA 0 (.tmp 3), none⟩, ⟨some 99, .load false 1 (.tmp 98), none⟩, ⟨some 100, .len (.tmp 99), none⟩, ⟨some 101, .call (.c (.one (.fn 159 []))) 1156 [.tmp 97, .tmp 100], none⟩, ⟨some 102, .mv (.tmp 12), none⟩, ⟨some 103, .fieldA 1 (.tmp 3), none⟩, ⟨some 104, .load false 1 (.tmp 103), none⟩, ⟨some 105, .len (.tmp 104), none⟩, ⟨some 106, .call (.c (.one (.fn 159 []))) 1161 [.tmp 102, .tmp 105], none⟩, ⟨some 107, .build [.nil, .nil] [(0, (1, .tmp 101)), (1, (1, .tmp 106))], none⟩, ⟨some 17, .alloc 1163 27 [.nil, .nil], none⟩, ⟨none, .store 2 (.tmp 17) (.tmp 107), none⟩]) (.seq (.draw [[], [], [], [0, 0], [1, 3, 0, 1, 3], [2, 4, 0, 1, 2, 3, 4], [5, 0, 1, 2, 3, 4, 5]] [⟨some 108, .load true 2 (.tmp 13), none⟩, ⟨some 109, .load true 2 (.tmp 16), none⟩, ⟨some 110, .load true 2 (.tmp 17), none⟩, ⟨none, .store 2 (.tmp 4) (.tmp 108), none⟩, ⟨none, .store 2 (.tmp 5) (.tmp 109), none⟩, ⟨none, .store 2 (.tmp 6) (.tmp 110), none⟩, ⟨some 7, .mv (.c (.one (.t (.int .i64 0)))), none⟩]) .ret))))))))⟩
theorem k_gunion : cFn Tryz.prog Tryz.f133 = some c_gunion := by kernel_rfl
set_option maxHeartbeats 4000000 in
theorem gunion_ok (a b : Gr) (ta : tinyG a) (tb : tinyG b) : CallOK Tryz.prog 133 [a.v, b.v] (unT a b) := by
  refine callOK_W (callS_W (by kernel_rfl) Tryz.func133 k_gunion (callable_of Tryz.func133 (by kernel_rfl)) (by simp [c_gunion]) ?_)
  simp [c_gunion]
  refine loopW_count 22 2 (fun k S => S.fr 2 = .one (.ptr (0, 0) 0) ∧ S.fr 3 = .one (.ptr (1, 0) 0) ∧ S.fr 4 = .one (.ptr (2, 0) 0) ∧ S.fr 5 = .one (.ptr (3, 0) 0) ∧ S.fr 6 = .one (.ptr (4, 0) 0) ∧ S.fr 20 = .one (.row (66, 0)) ∧ S.fr 21 = .one (.t (.int .i64 2)) ∧
    S.ob (0, 0) = some (bx 25 (a.v.2.map .t)) ∧ S.ob (1, 0) = some (bx 25 (b.v.2.map .t)) ∧ S.ob (2, 0) = some (bx 25 [.nil, .nil]) ∧ S.ob (3, 0) = some (bx 27 [.nil, .nil]) ∧ S.ob (4, 0) = some (bx 27 [.nil, .nil]) ∧
    S.ob (66, 0) = some ⟨true, true, true, 2, 2, 25, [.t (ints a.nodes), .t (edgs a.edges), .t (ints b.nodes), .t (edgs b.edges)]⟩ ∧ S.cnt 714 = 0 ∧ S.cnt 1093 = 0 ∧ S.cnt 1163 = 0 ∧ S.cnt 708 = 0 ∧ S.cnt 712 = 0 ∧ (0 < k → gErr a = 0) ∧ (1 < k → gErr b = 0)) (by omega) ?_ ?_ ?_
  · simp
  · rintro k S hlt hw hc ⟨f2, f3, f4, f5, f6, f20, f21, o0, o1, o2, o3, o4, o66, c1, c2, c3, c4, c5, g1, g2⟩
    have hk : k = 0 ∨ k = 1 := by omega
    rcases hk with rfl | rfl
    · simp at hc hw
      simp [f2, f3, f4, f5, f6, f20, f21, o0, o1, o2, o3, o4, o66, hc]
      refine callS_tree (gvalid_ok a ta.1.small ta.2.small) ?_ ?_ ?_
      · rfl
      · rfl
      by_cases h1 : gErr a = 0
      case neg =>
        have e : unErr a b = gErr a := by simp [unErr, h1]
        simp [f2, f3, f4, f5, f6, f20, f21, o0, o1, o2, o3, o4, o66, hc, h1, unT, e, edL]
      simp [f2, f3, f4, f5, f6, f20, f21, o0, o1, o2, o3, o4, o66, hc, h1, hw, c1, c2, c3, c4, c5]
    · have h1 := g1 (by omega)
      simp at hc hw
      simp [f2, f3, f4, f5, f6, f20, f21, o0, o1, o2, o3, o4, o66, hc]
      refine callS_tree (gvalid_ok b tb.1.small tb.2.small) ?_ ?_ ?_
      · rfl
      · rfl
      by_cases h2 : gErr b = 0
      case neg =>
        have e : unErr a b = gErr b := by simp [unErr, h1, h2]
        simp [f2, f3, f4, f5, f6, f20, f21, o0, o1, o2, o3, o4, o66, hc, h2, unT, e, edL]
      simp [f2, f3, f4, f5, f6, f20, f21, o0, o1, o2, o3, o4, o66, hc, h1, h2, hw, c1, c2, c3, c4, c5]
  · rintro S hc ⟨f2, f3, f4, f5, f6, f20, f21, o0, o1, o2, o3, o4, o66, c1, c2, c3, c4, c5, g1, g2⟩
    have h1 := g1 (by omega)
    have h2 := g2 (by omega)
    have ga := gErr_ok h1
    have gb := gErr_ok h2
    have b1 := ga.n
    have b2 := ga.e
    have b3 := gb.n
    have b4 := gb.e
    have w1 : IntKind.i64.wrap ((a.nodes.length : Int) + b.nodes.length) = (a.nodes.length : Int) + b.nodes.length := by rw [wrap64_id] <;> omega
    have w2 : IntKind.i64.wrap ((a.edges.length : Int) + b.edges.length) = (a.edges.length : Int) + b.edges.length := by rw [wrap64_id] <;> omega
    simp [dw0, dw1, dw2, dw3, f2, f3, f4, f5, f6, f20, f21, o0, o1, o2, o3, o4, o66, hc]
    refine ⟨rfl, ?_⟩
    by_cases hb : unBig a b
    case pos =>
      have e : unErr a b = 3 := by simp [unErr, h1, h2, hb]
      by_cases q1 : 40 < a.nodes.length + b.nodes.length
      · have q1' : (40 : Int) < (a.nodes.length : Int) + b.nodes.length := by omega
        simp [f2, f3, f4, f5, f6, o0, o1, o2, o3, o4, w1, q1', unT, e, edL]
      · have q2 : 80 < a.edges.length + b.edges.length := hb.resolve_left q1
        have q1' : ¬ (40 : Int) < (a.nodes.length : Int) + b.nodes.length := by omega
        have q2' : (80 : Int) < (a.edges.length : Int) + b.edges.length := by omega
        simp [f2, f3, f4, f5, f6, o0, o1, o2, o3, o4, w1, w2, q1', q2', unT, e, edL]
    have e : unErr a b = 0 := by simp [unErr, h1, h2, hb]
    have n1 : ¬ (40 : Int) < (a.nodes.length : Int) + b.nodes.length := by simp only [unBig] at hb; omega
    have n2 : ¬ (80 : Int) < (a.edges.length : Int) + b.edges.length := by simp only [unBig] at hb; omega
    simp [dw0, dw1, dw2, dw3, f2, f3, f4, f5, f6, o0, o1, o2, o3, o4, w1, w2, n1, n2, c4]
    refine dCall_row (concat_row a.nodes b.nodes (by omega) (by omega)) ?_ ?_
    · rfl
    generalize hLN : a.nodes ++ b.nodes = LN
    have hLN' : (unG a b).nodes = LN := hLN
    have hres : unT a b = .tup [(true, [ints LN, edgs (unG a b).edges]), (unL a).v, (unR a b).v, (false, [.int .i64 0])] := by rw [unT, if_pos e, ← hLN']; rfl
    rw [hres]
    by_cases hz0 : LN = [] <;> by_cases hz : a.edges = []
    all_goals
      simp [dw0, dw1, dw2, dw3, rowEff, hz0, f2, f3, f4, f5, f6, o0, o1, o2, o3, o4]
      refine dCall_row (cloneE_row a.edges ta.2) ?_ ?_
      · rfl
      simp [dw0, dw1, dw2, dw3, rowEff, hz0, hz, f2, f3, f4, f5, f6, o0, o1, o2, o3, o4, c1, c5]
      refine ⟨rfl, ?_⟩
      refine loopW_count 71 b.edges.length (fun k S => S.fr 2 = .one (.ptr (0, 0) 0) ∧ S.fr 3 = .one (.ptr (1, 0) 0) ∧ S.fr 4 = .one (.ptr (2, 0) 0) ∧ S.fr 5 = .one (.ptr (3, 0) 0) ∧ S.fr 6 = .one (.ptr (4, 0) 0) ∧ S.fr 11 = .one (.t (.int .i64 a.nodes.length)) ∧ S.fr 12 = .one (.t (.int .i64 a.edges.length)) ∧ S.fr 13 = .one (.ptr (714, 0) 0) ∧ S.fr 69 = .one (.t (edgs b.edges)) ∧ S.fr 70 = .one (.t (.int .i64 b.edges.length)) ∧
        S.ob (0, 0) = some (bx 25 (a.v.2.map .t)) ∧ S.ob (1, 0) = some (bx 25 (b.v.2.map .t)) ∧ S.ob (2, 0) = some (bx 25 [.nil, .nil]) ∧ S.ob (3, 0) = some (bx 27 [.nil, .nil]) ∧ S.ob (4, 0) = some (bx 27 [.nil, .nil]) ∧ S.cnt 1093 = 0 ∧ S.cnt 1163 = 0 ∧
        ∃ vN vE, S.ob (714, 0) = some (bx 25 [vN, vE]) ∧ outL [709] 3 1 LN.length (LN.map (.int .i64)) S.ob (.one vN) ∧ outL [712, 974] 76 3 (unE a b k).length (edL (unE a b k)) S.ob (.one vE)) (by omega) ?_ ?_ ?_
      · have q0 := unE_zero (a := a) (b := b)
        simp [c2, c3, f2, f3, f4, f5, f6, o0, o1, o2, o3, o4]
        first | refine ⟨_, _, ⟨rfl, rfl⟩, ?_, ?_⟩ | refine ⟨by simp [hz], _, _, ⟨rfl, rfl⟩, ?_, ?_⟩
        · first | exact .inl ⟨by simp [hz0], by simp [hz0], rfl⟩ | exact .inr ⟨List.length_pos_iff.2 hz0, 709, by simp, _, rfl, by simp⟩
        · rw [q0]
          first | exact .inl ⟨by simp [hz], by simp [hz, edL], rfl⟩ | exact .inr ⟨List.length_pos_iff.2 hz, 712, by simp, _, rfl, by simp [edL]⟩
      · rintro k S hlt hw hc ⟨f2, f3, f4, f5, f6, f11, f12, f13, f69, f70, o0, o1, o2, o3, o4, c2, c3, vN, vE, o714, hN, ho⟩
        have hlt3 : k * 3 < b.edges.length * 3 := by omega
        have hed := gb.edges _ (eth_mem hlt)
        have v1 : IntKind.i64.wrap ((eth b.edges k).f + a.nodes.length) = (eth b.edges k).f + a.nodes.length := by rw [wrap64_id] <;> omega
        have v2 : IntKind.i64.wrap ((eth b.edges k).g + a.nodes.length) = (eth b.edges k).g + a.nodes.length := by rw [wrap64_id] <;> omega
        have z := unE_len (a := a) (b := b) (k := k)
        have zs := unE_succ (a := a) hlt
        simp [f2, f3, f4, f5, f6, f11, f12, f13, f69, f70, o0, o1, o2, o3, o4, o714, hc, hlt, hlt3, drop_edL hlt, v1, v2]
        refine kApp_growL (nms := [712, 974]) (ts := edC (shiftE a.nodes.length (eth b.edges k))) (by simp) (by simp [edC, shiftE]) (ho.keep fun nm hm g => by simp at hm; rcases hm with rfl | rfl <;> simp) rfl (by omega) (by omega) fun E hE hob hcnt => ?_
        obtain ⟨u, hu⟩ := hE.one
        rw [hu] at hE
        have hN2 := hN.keep (ob' := E.ob) fun nm hm g => by
          simp at hm
          subst hm
          rw [hob _ _ (by decide)]
          simp
        simp [f2, f3, f4, f5, f6, f11, f12, f13, f69, f70, o0, o1, o2, o3, o4, o714, hc, hw, hob, hcnt, hu, c2, c3, zs]
        refine ⟨vN, u, ⟨rfl, rfl⟩, hN2.keep fun nm hm g => by simp at hm; subst hm; simp, outL.keep (by simpa [edL] using hE) fun nm hm g => by simp at hm; rcases hm with rfl | rfl <;> simp⟩
      · rintro S hc ⟨f2, f3, f4, f5, f6, f11, f12, f13, f69, f70, o0, o1, o2, o3, o4, c2, c3, vN, vE, o714, hN, ho⟩
        rw [unE_all] at ho
        simp [f2, f3, f4, f5, f6, f11, f12, f13, f69, f70, o0, o1, o2, o3, o4, o714, hc]
        refine callS_tree (gnumbers_row 0 a.nodes.length (by simp only [tiny]; omega) ta.1).ok ?_ ?_ ?_
        · rfl
        · rfl
        simp [f2, f3, f4, f5, f6, f11, f12, f13, o0, o1, o2, o3, o4, o714]
        refine callS_tree (gnumbers_row 0 a.edges.length (by simp only [tiny]; omega) ta.2).ok ?_ ?_ ?_
        · rfl
        · rfl
        simp [dw0, dw1, dw2, dw3, f2, f3, f4, f5, f6, f11, f12, f13, o0, o1, o2, o3, o4, o714, c2, c3]
        refine dCall_ok (gnumbers_row a.nodes.length b.nodes.length ta.1 tb.1).ok ?_ ?_ ?_
        · rfl
        · rfl
        simp [dw0, dw1, dw2, dw3, f2, f3, f4, f5, f6, f11, f12, f13, o0, o1, o2, o3, o4, o714, c2, c3]
        refine dCall_ok (gnumbers_row a.edges.length b.edges.length ta.2 tb.2).ok ?_ ?_ ?_
        · rfl
        · rfl
        simp [dw0, dw1, dw2, dw3, f2, f3, f4, f5, f6, f11, f12, f13, o0, o1, o2, o3, o4, o714, c2, c3]
        clear hres
        generalize (unG a b).edges = LE at ho ⊢
        rcases hN with ⟨n1, n2, n3⟩ | ⟨n1, nm, n2, gg, n3, n4⟩ <;> rcases ho with ⟨m1, m2, m3⟩ | ⟨m1, nm', m2, gg', m3, m4⟩
        · cases n3
          cases m3
          have q1 : LN = [] := List.eq_nil_of_length_eq_zero n1
          have q2 : LE = [] := List.eq_nil_of_length_eq_zero m1
          simp [dw0, dw1, dw2, dw3, f2, f3, f4, f5, f6, f11, f12, f13, o0, o1, o2, o3, o4, o714, c2, c3, q1, q2, edL, unL, unR]
          first | rfl | exact ⟨rfl, rfl⟩ | exact ⟨rfl, rfl, rfl⟩
        · cases n3
          cases m3
          have q1 : LN = [] := List.eq_nil_of_length_eq_zero n1
          simp at m2
          rcases m2 with rfl | rfl
          all_goals
            simp [dw0, dw1, dw2, dw3, f2, f3, f4, f5, f6, f11, f12, f13, o0, o1, o2, o3, o4, o714, c2, c3, q1, m4, untreeT, unL, unR]
            first | rfl | exact ⟨rfl, rfl⟩ | exact ⟨rfl, rfl, rfl⟩
        · cases n3
          cases m3
          have q2 : LE = [] := List.eq_nil_of_length_eq_zero m1
          simp at n2
          subst n2
          have hne : LN ≠ [] := fun h => by rw [h] at n1; simp at n1
          first
          | exact absurd hz0 hne
          | (simp [dw0, dw1, dw2, dw3, f2, f3, f4, f5, f6, f11, f12, f13, o0, o1, o2, o3, o4, o714, c2, c3, q2, n4, untreeT, untreeI, edL, unL, unR]
             first | rfl | exact ⟨rfl, rfl⟩ | exact ⟨rfl, rfl, rfl⟩)
        · cases n3
          cases m3
          simp at n2 m2
          subst n2
          have hne : LN ≠ [] := fun h => by rw [h] at n1; simp at n1
          first
          | exact absurd hz0 hne
          | (rcases m2 with rfl | rfl <;> (
               simp [dw0, dw1, dw2, dw3, f2, f3, f4, f5, f6, f11, f12, f13, o0, o1, o2, o3, o4, o714, c2, c3, n4, m4, untreeT, untreeI, unL, unR]
               first | rfl | exact ⟨rfl, rfl⟩ | exact ⟨rfl, rfl, rfl⟩))
end Go.Proofs.YthcnpnogfblkcaaGreat

/- Contracts: the pairs of images under a span; quotients of graphs by pairs. -/
namespace Go.Proofs.YthcnpnogfblkcaaGreat
open Abs
set_option linter.unusedSimpArgs false
set_option linter.unusedVariables false
attribute [local simp] rn0 rn1 rn2 rn3 rn4 rn5 rn6 rn7 evOp nests Arg.ev St.val St.set St.new sliceOf binInt2 binInt AV.cells rdAt St.live retOf resOf resAll treeOf treeCell treeCells treeTups untree frameOf TV.av TR.av ints edgs prs fillV splice intsOf trees V1.tree bx Gr.v Pa.v opRd opWr opNew opNewR opArgs argsRd argRd Arg.rd AV.refs V1.refs refsL dstL

/-- The pairs of places to which two lists lead. -/
def pgK (f g l r : List Int) (k : Nat) : List (Int × Int) := (List.range k).map fun i => (nth l (nth f i).toNat, nth r (nth g i).toNat)
theorem pgK_succ {f g l r : List Int} {k : Nat} : pgK f g l r (k + 1) = pgK f g l r k ++ [(nth l (nth f k).toNat, nth r (nth g k).toNat)] := by simp [pgK, List.range_succ]
theorem pgK_len {f g l r : List Int} {k : Nat} : (pgK f g l r k).length = k := by simp [pgK]

def c_ppairs : MFunc := ⟨36, [.tmp 8], .seq (.region [⟨some 8, .mv (.c (.one .nil)), none⟩]) (.seq (.region [⟨some 9, .mv (.c (.one .nil)), none⟩]) (.seq (.seq (.region [⟨some 11, .mv (.tmp 0), none⟩, ⟨some 12, .len (.tmp 11), none⟩, ⟨some 13, .mv (.c (.one (.t (.int .i64 0)))), none⟩]) (.block 0 (.loop (.seq (.region [⟨some 14, .bin .lss (.tmp 13) (.tmp 12), none⟩]) (.seq (.cond (.tmp 14) .skip (.exit 0)) (.seq (.block 1 (.seq (.region [⟨some 15, .mv (.tmp 13), none⟩, ⟨some 10, .mv (.tmp 15), none⟩]) (.draw [[], [], [], [], [2, 3], [4], [1, 5], [6], [], [], [], [9, 10], [11], [8, 12], [13], [7, 14], [15], [0, 16], [17, 17, 0, 1, 2, 3, 4, 5, 6, 7, 8, 9, 10, 11, 12, 13, 14, 15, 16, 17]] [⟨some 16, .mv (.tmp 9), none⟩, ⟨some 17, .mv (.tmp 2), none⟩, ⟨some 18, .mv (.tmp 0), none⟩, ⟨some 19, .mv (.tmp 10), none⟩, ⟨some 20, .idxA 1 (.tmp 18) (.tmp 19), none⟩, ⟨some 21, .load false 1 (.tmp 20), none⟩, ⟨some 22, .idxA 1 (.tmp 17) (.tmp 21), none⟩, ⟨some 23, .load false 1 (.tmp 22), none⟩, ⟨some 24, .mv (.tmp 3), none⟩, ⟨some 25, .mv (.tmp 1), none⟩, ⟨some 26, .mv (.tmp 10), none⟩, ⟨some 27, .idxA 1 (.tmp 25) (.tmp 26), none⟩, ⟨some 28, .load false 1 (.tmp 27), none⟩, ⟨some 29, .idxA 1 (.tmp 24) (.tmp 28), none⟩, ⟨some 30, .load false 1 (.tmp 29), none⟩, ⟨some 31, .build [.t (.int .i64 0), .t (.int .i64 0)] [(0, (1, .tmp 23)), (1, (1, .tmp 30))], none⟩, ⟨some 32, .mkrow 336 121 2 1 [.t (.int .i64 0), .t (.int .i64 0)] [(0, (2, .tmp 31))], none⟩, ⟨some 33, .append 337 121 2 16 (.tmp 16) (.tmp 32), none⟩, ⟨some 9, .mv (.tmp 33), none⟩]))) (.region [⟨some 34, .bin .add (.tmp 13) (.c (.one (.t (.int .i64 1)))), none⟩, ⟨some 13, .mv (.tmp 34), none⟩]))))))) (.seq (.region [⟨some 35, .mv (.tmp 9), none⟩, ⟨some 8, .mv (.tmp 35), none⟩]) .ret)))⟩
theorem k_ppairs : cFn Tryz.prog Tryz.f135 = some c_ppairs := by kernel_rfl
theorem ppairs_row (f g l r : List Int) (hf : f.length ≤ 1000) (hg : f.length ≤ g.length) (h1 : placesIn f l.length) (h2 : placesIn g r.length) : CallRow Tryz.prog 135 [(false, [ints f]), (false, [ints g]), (false, [ints l]), (false, [ints r])] 121 2 (pgK f g l r f.length).length (prL (pgK f g l r f.length)) := by
  refine callRow_W (plain_prL _) (len_prL _) (by omega) (callS_W (by kernel_rfl) Tryz.func135 k_ppairs (callable_of Tryz.func135 (by kernel_rfl)) (by simp [c_ppairs]) ?_)
  simp [c_ppairs]
  refine loopW_count 13 f.length (fun k S => S.fr 0 = .one (.t (ints f)) ∧ S.fr 1 = .one (.t (ints g)) ∧ S.fr 2 = .one (.t (ints l)) ∧ S.fr 3 = .one (.t (ints r)) ∧ S.fr 12 = .one (.t (.int .i64 f.length)) ∧ outR 337 121 2 (pgK f g l r k).length (prL (pgK f g l r k)) S.ob (S.fr 9)) (by omega) ?_ ?_ ?_
  · simp [pgK, prL, outR_nil]
  · rintro k S hlt hw hc ⟨f0, f1, f2, f3, f12, ho⟩
    have hlt' : k < g.length := by omega
    obtain ⟨a1, a2⟩ := h1 _ (nth_mem hlt)
    obtain ⟨b1, b2⟩ := h2 _ (nth_mem hlt')
    obtain ⟨a, ha⟩ := Int.eq_ofNat_of_zero_le a1
    obtain ⟨b, hb⟩ := Int.eq_ofNat_of_zero_le b1
    have ha2 : a < l.length := by omega
    have hb2 : b < r.length := by omega
    have z := pgK_len (f := f) (g := g) (l := l) (r := r) (k := k)
    have zs := pgK_succ (f := f) (g := g) (l := l) (r := r) (k := k)
    rw [ha, hb, Int.toNat_natCast, Int.toNat_natCast] at zs
    have ho0 := ho
    rcases ho with ⟨c1, _, c3⟩ | ⟨c1, gg, c3, c4⟩
    all_goals
      simp [dw0, dw1, dw2, dw3, f0, f1, f2, f3, f12, c3, hc, hlt, hlt', drop_nth hlt, drop_nth hlt', ha, hb, ha2, hb2, drop_nth ha2, drop_nth hb2]
      refine kApp_grow (ts := [.int .i64 (nth l a), .int .i64 (nth r b)]) rfl (by rw [← c3]; exact ho0.keep fun g => by simp) (by omega) rfl (by omega) (by omega) fun E hE hob hcnt => ?_
      simp [dw0, dw1, dw2, dw3]
      refine ⟨rfl, ?_⟩
      simp [f0, f1, f2, f3, f12, hc, hw, zs]
      simpa [prL, prC, Nat.add_assoc] using hE
  · rintro S hc ⟨f0, f1, f2, f3, f12, ho⟩
    obtain ⟨u, hu⟩ := ho.one
    rw [hu] at ho
    simp [f0, f1, f2, f3, f12, hc, hu]
    exact ho.rowIs

/-! ### A graph's quotient by two partitions -/
def qnF (u : Gr) (p : List Int) (i : Nat) : Option Int := if nth p i = i then some (nth u.nodes i) else none
def qE (u : Gr) (p : List Int) (i : Nat) : Ed := ⟨(eth u.edges i).t, nth (quotL p) (eth u.edges i).f.toNat, nth (quotL p) (eth u.edges i).g.toNat⟩
def qeF (u : Gr) (p q : List Int) (i : Nat) : Option Ed := if nth q i = i then some (qE u p i) else none
/-- The quotient of a graph by partitions of its nodes and its edges. -/
def quoG (u : Gr) (p q : List Int) : Gr := ⟨collect (qnF u p) u.nodes.length, collect (qeF u p q) u.edges.length⟩
def quoM (p q : List Int) : Pa := ⟨quotL p, quotL q⟩

def c_pquotient : MFunc := ⟨121, [.cell 6 true 2, .cell 7 true 2, .tmp 8], .seq (.region [⟨some 3, .box 0 25 (.tmp 0), none⟩, ⟨some 6, .alloc 1 25 [.nil, .nil], none⟩, ⟨some 7, .alloc 2 27 [.nil, .nil], none⟩, ⟨some 8, .mv (.c (.one (.t (.int .i64 0)))), none⟩]) (.seq (.region [⟨some 25, .fieldA 0 (.tmp 3), none⟩, ⟨some 26, .load false 1 (.tmp 25), none⟩, ⟨some 27, .len (.tmp 26), none⟩, ⟨some 28, .mv (.tmp 1), none⟩, ⟨some 29, .call (.c (.one (.fn 160 []))) 68 [.tmp 27, .tmp 28], none⟩, ⟨some 24, .mv (.tmp 29), none⟩, ⟨some 30, .extract (.tmp 24) 0, none⟩, ⟨some 31, .extract (.tmp 24) 1, none⟩, ⟨some 9, .mv (.tmp 30), none⟩, ⟨some 10, .mv (.tmp 31), none⟩]) (.seq (.seq (.region [⟨some 32, .mv (.tmp 10), none⟩, ⟨some 33, .bin .neq (.tmp 32) (.c (.one (.t (.int .i64 0)))), none⟩]) (.cond (.tmp 33) (.seq (.region [⟨some 34, .build [.nil, .nil] [], none⟩, ⟨some 35, .build [.nil, .nil] [], none⟩, ⟨some 36, .mv (.tmp 10), none⟩, ⟨none, .store 2 (.tmp 6) (.tmp 34), none⟩, ⟨none, .store 2 (.tmp 7) (.tmp 35), none⟩, ⟨some 8, .mv (.tmp 36), none⟩]) .ret) .skip)) (.seq (.region [⟨some 38, .fieldA 1 (.tmp 3), none⟩, ⟨some 39, .load false 1 (.tmp 38), none⟩, ⟨some 40, .len (.tmp 39), none⟩, ⟨some 41, .mv (.tmp 2), none⟩, ⟨some 42, .call (.c (.one (.fn 160 []))) 260 [.tmp 40, .tmp 41], none⟩, ⟨some 37, .mv (.tmp 42), none⟩, ⟨some 43, .extract (.tmp 37) 0, none⟩, ⟨some 44, .extract (.tmp 37) 1, none⟩, ⟨some 11, .mv (.tmp 43), none⟩, ⟨some 10, .mv (.tmp 44), none⟩]) (.seq (.seq (.region [⟨some 45, .mv (.tmp 10), none⟩, ⟨some 46, .bin .neq (.tmp 45) (.c (.one (.t (.int .i64 0)))), none⟩]) (.cond (.tmp 46) (.seq (.region [⟨some 47, .build [.nil, .nil] [], none⟩, ⟨some 48, .build [.nil, .nil] [], none⟩, ⟨some 49, .mv (.tmp 10), none⟩, ⟨none, .store 2 (.tmp 6) (.tmp 47), none⟩, ⟨none, .store 2 (.tmp 7) (.tmp 48), none⟩, ⟨some 8, .mv (.tmp 49), none⟩]) .ret) .skip)) (.seq (.region [⟨some 51, .mv (.tmp 9), none⟩, ⟨some 52, .call (.c (.one (.fn 161 []))) 449 [.tmp 51], none⟩, ⟨some 50, .mv (.tmp 52), none⟩, ⟨some 53, .extract (.tmp 50) 0, none⟩, ⟨some 54, .extract (.tmp 50) 1, none⟩, ⟨some 55, .extract (.tmp 50) 2, none⟩, ⟨some 12, .mv (.tmp 53), none⟩, ⟨some 13, .mv (.tmp 54), none⟩, ⟨some 14, .mv (.tmp 55), none⟩]) (.seq (.region [⟨some 57, .mv (.tmp 11), none⟩, ⟨some 58, .call (.c (.one (.fn 161 []))) 513 [.tmp 57], none⟩, ⟨some 56, .mv (.tmp 58), none⟩, ⟨some 59, .extract (.tmp 56) 0, none⟩, ⟨some 60, .extract (.tmp 56) 1, none⟩, ⟨some 61, .extract (.tmp 56) 2, none⟩, ⟨some 15, .mv (.tmp 59), none⟩, ⟨some 16, .mv (.tmp 60), none⟩, ⟨some 17, .mv (.tmp 61), none⟩]) (.seq (.region [⟨some 18, .alloc 576 25 [.nil, .nil], none⟩]) (.seq (.seq (.region [⟨some 62, .mv (.tmp 9), none⟩, ⟨some 63, .len (.tmp 62), none⟩, ⟨some 64, .mv (.c (.one (.t (.int .i64 0)))), none⟩]) (.block 0 (.loop (.seq (.region [⟨some 65, .bin .lss (.tmp 64) (.tmp 63), none⟩]) (.seq (.cond (.tmp 65) .skip (.exit 0)) (.seq (.block 1 (.seq (.region [⟨some 66, .mv (.tmp 64), none⟩, ⟨some 67, .idxA 1 (.tmp 62) (.tmp 64), none⟩, ⟨some 68, .load false 1 (.tmp 67), none⟩, ⟨some 19, .mv (.tmp 66), none⟩, ⟨some 20, .mv (.tmp 68), none⟩]) (.seq (.region [⟨some 69, .mv (.tmp 20), none⟩, ⟨some 70, .mv (.tmp 19), none⟩, ⟨some 71, .bin .eql (.tmp 69) (.tmp 70), none⟩]) (.cond (.tmp 71) (.draw [[], [0], [], [2], [], [3, 4], [5], [6], [1, 7], [0, 1, 2, 3, 4, 5, 6, 7, 8], [9, 8, 8, 0, 1, 2, 3, 4, 5, 6, 7, 8]] [⟨some 72, .fieldA 0 (.tmp 18), none⟩, ⟨some 73, .load false 1 (.tmp 72), none⟩, ⟨some 74, .fieldA 0 (.tmp 3), none⟩, ⟨some 75, .load false 1 (.tmp 74), none⟩, ⟨some 76, .mv (.tmp 19), none⟩, ⟨some 77, .idxA 1 (.tmp 75) (.tmp 76), none⟩, ⟨some 78, .load false 1 (.tmp 77), none⟩, ⟨some 79, .mkrow 903 3 1 1 [.t (.int .i64 0)] [(0, (1, .tmp 78))], none⟩, ⟨some 80, .append 904 3 1 8 (.tmp 73) (.tmp 79), none⟩, ⟨some 81, .fieldA 0 (.tmp 18), none⟩, ⟨none, .store 1 (.tmp 81) (.tmp 80), none⟩]) .skip)))) (.region [⟨some 82, .bin .add (.tmp 64) (.c (.one (.t (.int .i64 1)))), none⟩, ⟨some 64, .mv (.tmp 82), none⟩]))))))) (.seq (.seq (.region [⟨some 83, .mv (.tmp 11), none⟩, ⟨some 84, .len (.tmp 83), none⟩, ⟨some 85, .mv (.c (.one (.t (.int .i64 0)))), none⟩]) (.block 2 (.loop (.seq (.region [⟨some 86, .bin .lss (.tmp 85) (.tmp 84), none⟩]) (.seq (.cond (.tmp 86) .skip (.exit 2)) (.seq (.block 3 (.seq (.region [⟨some 87, .mv (.tmp 85), none⟩, ⟨some 88, .idxA 1 (.tmp 83) (.tmp 85), none⟩, ⟨some 89, .load false 1 (.tmp 88), none⟩, ⟨some 21, .mv (.tmp 87), none⟩, ⟨some 22, .mv (.tmp 89), none⟩]) (.seq (.region [⟨some 90, .mv (.tmp 22), none⟩, ⟨some 91, .mv (.tmp 21), none⟩, ⟨some 92, .bin .eql (.tmp 90) (.tmp 91), none⟩]) (.cond (.tmp 92) (.seq (.region [⟨some 93, .fieldA 1 (.tmp 3), none⟩, ⟨some 94, .load false 1 (.tmp 93), none⟩, ⟨some 95, .mv (.tmp 21), none⟩, ⟨some 96, .idxA 3 (.tmp 94) (.tmp 95), none⟩, ⟨some 97, .load true 3 (.tmp 96), none⟩, ⟨some 23, .alloc 1285 76 [.t (.int .i64 0), .t (.int .i64 0), .t (.int .i64 0)], none⟩, ⟨none, .store 3 (.tmp 23) (.tmp 97), none⟩]) (.draw [[], [0], [], [2], [], [], [5], [4, 6], [7], [], [], [10], [9, 11], [12], [3, 8, 13], [14], [1, 15], [0, 1, 2, 3, 4, 5, 6, 7, 8, 9, 10, 11, 12, 13, 14, 15, 16], [17, 16, 16, 0, 1, 2, 3, 4, 5, 6, 7, 8, 9, 10, 11, 12, 13, 14, 15, 16]] [⟨some 98, .fieldA 1 (.tmp 18), none⟩, ⟨some 99, .load false 1 (.tmp 98), none⟩, ⟨some 100, .fieldA 0 (.tmp 23), none⟩, ⟨some 101, .load false 1 (.tmp 100), none⟩, ⟨some 102, .mv (.tmp 12), none⟩, ⟨some 103, .fieldA 1 (.tmp 23), none⟩, ⟨some 104, .load false 1 (.tmp 103), none⟩, ⟨some 105, .idxA 1 (.tmp 102) (.tmp 104), none⟩, ⟨some 106, .load false 1 (.tmp 105), none⟩, ⟨some 107, .mv (.tmp 12), none⟩, ⟨some 108, .fieldA 2 (.tmp 23), none⟩, ⟨some 109, .load false 1 (.tmp 108), none⟩, ⟨some 110, .idxA 1 (.tmp 107) (.tmp 109), none⟩, ⟨some 111, .load false 1 (.tmp 110), none⟩, ⟨some 112, .build [.t (.int .i64 0), .t (.int .i64 0), .t (.int .i64 0)] [(0, (1, .tmp 101)), (1, (1, .tmp 106)), (2, (1, .tmp 111))], none⟩, ⟨some 113, .mkrow 1359 76 3 1 [.t (.int .i64 0), .t (.int .i64 0), .t (.int .i64 0)] [(0, (3, .tmp 112))], none⟩, ⟨some 114, .append 1360 76 3 24 (.tmp 99) (.tmp 113), none⟩, ⟨some 115, .fieldA 1 (.tmp 18), none⟩, ⟨none, .store 1 (.tmp 115) (.tmp 114), none⟩])) .skip)))) (.region [⟨some 116, .bin .add (.tmp 85) (.c (.one (.t (.int .i64 1)))), none⟩, ⟨some 85, .mv (.tmp 116), none⟩]))))))) (.seq (.region [⟨some 117, .load true 2 (.tmp 18), none⟩, ⟨some 118, .mv (.tmp 12), none⟩, ⟨some 119, .mv (.tmp 15), none⟩, ⟨some 120, .build [.nil, .nil] [(0, (1, .tmp 118)), (1, (1, .tmp 119))], none⟩, ⟨none, .store 2 (.tmp 6) (.tmp 117), none⟩, ⟨none, .store 2 (.tmp 7) (.tmp 120), none⟩, ⟨some 8, .mv (.c (.one (.t (.int .i64 0)))), none⟩]) .ret))))))))))⟩
theorem k_pquotient : cFn Tryz.prog Tryz.f134 = some c_pquotient := by kernel_rfl
set_option maxHeartbeats 4000000 in
theorem pquotient_ok (u : Gr) (ln le : List (Int × Int)) (gu : GrOk u) (hn : tiny ln.length) (he : tiny le.length) (h1 : pairsIn ln u.nodes.length) (h2 : pairsIn le u.edges.length) :
    CallOK Tryz.prog 134 [u.v, (false, [prs ln]), (false, [prs le])] (.tup [(quoG u (genL u.nodes.length ln) (genL u.edges.length le)).v, (quoM (genL u.nodes.length ln) (genL u.edges.length le)).v, (false, [.int .i64 0])]) := by
  refine callOK_W (callS_W (by kernel_rfl) Tryz.func134 k_pquotient (callable_of Tryz.func134 (by kernel_rfl)) (by simp [c_pquotient]) ?_)
  have b1 := gu.n
  have b2 := gu.e
  have fp := genL_flat h1
  have fq := genL_flat h2
  have lp := genL_len (n := u.nodes.length) (l := ln)
  have lq := genL_len (n := u.edges.length) (l := le)
  simp [c_pquotient]
  refine callS_tree (generate_ok u.nodes.length ln (by omega) hn h1) ?_ ?_ ?_
  · rfl
  · rfl
  simp
  refine callS_tree (generate_ok u.edges.length le (by omega) he h2) ?_ ?_ ?_
  · rfl
  · rfl
  generalize genL u.nodes.length ln = p at *
  generalize genL u.edges.length le = q at *
  simp
  refine callS_tree (pquot_ok p fp (by omega)) ?_ ?_ ?_
  · rfl
  · rfl
  simp
  refine callS_tree (pquot_ok q fq (by omega)) ?_ ?_ ?_
  · rfl
  · rfl
  simp
  refine loopW_count 64 p.length (fun k S => S.fr 3 = .one (.ptr (0, 0) 0) ∧ S.fr 6 = .one (.ptr (1, 0) 0) ∧ S.fr 7 = .one (.ptr (2, 0) 0) ∧ S.fr 11 = .one (.t (ints q)) ∧ S.fr 12 = .one (.t (ints (quotL p))) ∧ S.fr 15 = .one (.t (ints (quotL q))) ∧ S.fr 18 = .one (.ptr (576, 0) 0) ∧ S.fr 62 = .one (.t (ints p)) ∧ S.fr 63 = .one (.t (.int .i64 p.length)) ∧
    S.ob (0, 0) = some (bx 25 (u.v.2.map .t)) ∧ S.ob (1, 0) = some (bx 25 [.nil, .nil]) ∧ S.ob (2, 0) = some (bx 27 [.nil, .nil]) ∧
    ∃ vN, S.ob (576, 0) = some (bx 25 [vN, .nil]) ∧ outR 904 3 1 (collect (qnF u p) k).length ((collect (qnF u p) k).map (.int .i64)) S.ob (.one vN)) (by omega) ?_ ?_ ?_
  · simp [collect_zero, outR_nil]
  · rintro k S hlt hw hc ⟨f3, f6, f7, f11, f12, f15, f18, f62, f63, o0, o1, o2, vN, o576, ho⟩
    have hltu : k < u.nodes.length := by omega
    have z := collect_len (f := qnF u p) (k := k)
    by_cases e : nth p k = k
    case neg =>
      have en : qnF u p k = none := by simp [qnF, e]
      simp [f3, f6, f7, f11, f12, f15, f18, f62, f63, o0, o1, o2, o576, hc, hlt, drop_nth hlt, e, hw, collect_none en]
      exact ho
    have en : qnF u p k = some (nth u.nodes k) := by simp [qnF, e]
    have ho0 := ho
    rcases ho with ⟨a1, _, a3⟩ | ⟨a1, ga, a3, a4⟩
    all_goals
      cases a3
      simp [dw0, dw1, dw2, dw3, f3, f6, f7, f11, f12, f15, f18, f62, f63, o0, o1, o2, o576, hc, hlt, drop_nth hlt, e, hltu, drop_nth hltu]
      refine kApp_grow (ts := [.int .i64 (nth u.nodes k)]) rfl (ho0.keep fun g => by simp) (by omega) rfl (by omega) (by omega) fun E hE hob hcnt => ?_
      obtain ⟨w, hu⟩ := hE.one
      rw [hu] at hE
      simp [dw0, dw1, dw2, dw3, f3, f6, f7, f11, f12, f15, f18, f62, f63, o0, o1, o2, o576, hc, hob, hu]
      refine ⟨rfl, ?_⟩
      simp [f3, f6, f7, f11, f12, f15, f18, f62, f63, o0, o1, o2, o576, hc, hw, hob, hu, collect_some en]
      exact outR.keep (by simpa using hE) fun g => by simp
  · rintro S hc ⟨f3, f6, f7, f11, f12, f15, f18, f62, f63, o0, o1, o2, vN, o576, ho⟩
    rw [lp] at ho
    simp [f3, f6, f7, f11, f12, f15, f18, f62, f63, o0, o1, o2, o576, hc]
    refine loopW_count 85 q.length (fun k S => S.fr 3 = .one (.ptr (0, 0) 0) ∧ S.fr 6 = .one (.ptr (1, 0) 0) ∧ S.fr 7 = .one (.ptr (2, 0) 0) ∧ S.fr 12 = .one (.t (ints (quotL p))) ∧ S.fr 15 = .one (.t (ints (quotL q))) ∧ S.fr 18 = .one (.ptr (576, 0) 0) ∧ S.fr 83 = .one (.t (ints q)) ∧ S.fr 84 = .one (.t (.int .i64 q.length)) ∧
      S.ob (0, 0) = some (bx 25 (u.v.2.map .t)) ∧ S.ob (1, 0) = some (bx 25 [.nil, .nil]) ∧ S.ob (2, 0) = some (bx 27 [.nil, .nil]) ∧
      outR 904 3 1 (collect (qnF u p) u.nodes.length).length ((collect (qnF u p) u.nodes.length).map (.int .i64)) S.ob (.one vN) ∧
      ∃ vE, S.ob (576, 0) = some (bx 25 [vN, vE]) ∧ outR 1360 76 3 (collect (qeF u p q) k).length (edL (collect (qeF u p q) k)) S.ob (.one vE)) (by omega) ?_ ?_ ?_
    · simp [f3, f6, f7, f11, f12, f15, f18, o0, o1, o2, o576, collect_zero, edL, outR_nil]
      simpa using ho
    · rintro k S hlt hw hc ⟨f3, f6, f7, f12, f15, f18, f83, f84, o0, o1, o2, hN, vE, o576, ho⟩
      have hltu : k < u.edges.length := by omega
      have hlt3 : k * 3 < u.edges.length * 3 := by omega
      have z := collect_len (f := qeF u p q) (k := k)
      by_cases e : nth q k = k
      case neg =>
        have en : qeF u p q k = none := by simp [qeF, e]
        simp [f3, f6, f7, f12, f15, f18, f83, f84, o0, o1, o2, o576, hc, hlt, drop_nth hlt, e, hw, collect_none en]
        exact ⟨by simpa using hN, ho⟩
      have en : qeF u p q k = some (qE u p k) := by simp [qeF, e]
      obtain ⟨_, _, g1, g2, g3, g4⟩ := gu.edges _ (eth_mem hltu)
      obtain ⟨x, hx⟩ := Int.eq_ofNat_of_zero_le g1
      obtain ⟨y, hy⟩ := Int.eq_ofNat_of_zero_le g3
      have ql := quotL_len (p := p)
      have hx2 : x < (quotL p).length := by omega
      have hy2 : y < (quotL p).length := by omega
      have eq : qE u p k = ⟨(eth u.edges k).t, nth (quotL p) x, nth (quotL p) y⟩ := by simp [qE, hx, hy]
      have ho0 := ho
      rcases ho with ⟨a1, _, a3⟩ | ⟨a1, ga, a3, a4⟩
      all_goals
        cases a3
        simp [dw0, dw1, dw2, dw3, f3, f6, f7, f12, f15, f18, f83, f84, o0, o1, o2, o576, hc, hlt, drop_nth hlt, e, hltu, hlt3, drop_edL hltu, hx, hy, hx2, hy2, drop_nth hx2, drop_nth hy2]
        refine kApp_grow (ts := edC ⟨(eth u.edges k).t, nth (quotL p) x, nth (quotL p) y⟩) rfl (ho0.keep fun g => by simp) (by omega) rfl (by omega) (by omega) fun E hE hob hcnt => ?_
        obtain ⟨w, hu⟩ := hE.one
        rw [hu] at hE
        have hN2 := hN.keep (ob' := E.ob) fun g => by rw [hob _ _ (by decide)]; simp
        simp [dw0, dw1, dw2, dw3, f3, f6, f7, f12, f15, f18, f83, f84, o0, o1, o2, o576, hc, hob, hu]
        refine ⟨rfl, ?_⟩
        simp [f3, f6, f7, f12, f15, f18, f83, f84, o0, o1, o2, o576, hc, hw, hob, hu, collect_some en, eq]
        exact ⟨outR.keep (by simpa using hN2) fun g => by simp, outR.keep (by simpa [edL, Nat.add_assoc] using hE) fun g => by simp⟩
    · rintro S hc ⟨f3, f6, f7, f12, f15, f18, f83, f84, o0, o1, o2, hN, vE, o576, ho⟩
      rw [lq] at ho
      have t1 := fun (ob' : Nm → Option Ob) (h : ∀ g, ob' (904, g) = S.ob (904, g)) => (hN.keep h).tree rfl
      have t2 := fun (ob' : Nm → Option Ob) (h : ∀ g, ob' (1360, g) = S.ob (1360, g)) => (ho.keep h).treeC
      simp [f3, f6, f7, f12, f15, f18, f83, f84, o0, o1, o2, o576, hc, -treeCell, treeCell_t]
      rw [t1 _ (fun g => by simp), t2 _ (fun g => by simp)]
      simp [quoG, quoM]
end Go.Proofs.YthcnpnogfblkcaaGreat
